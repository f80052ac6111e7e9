import Derived.Test.YtjklokfpnbnndaaZM11toM22
set_option linter.all false
/- The example of an announcement. -/
namespace Go.Sh
open Go Go.Proofs
variable [Con]
def awake14S : Spec Unit := fun args h => match args, h with
  | [], [] => some (.pre (True) (.ret (.bool true) ([])))
  | _, _ => none
theorem awake14_ok : Spec.ok E22.I Try.prog 42 awake14S := by
  intro args h o ho K hK
  unfold awake14S at ho
  split at ho
  case h_2 => cases ho
  skip
  simp only [Option.some.injEq] at ho; subst ho
  obtain ⟨hp, hK⟩ := hK
  have hK : K (.bool true) ([]) := hK
  refine CallOk.trim (callOk_of (E := E22) Try.checked.mixed (L := LL) (n := 10) (of_nf (q := True ∧ (((0 : Int) ≤ (2 : Int) ∧ (2 : Int) ≤ (100000 : Int)) ∧ (0 : Int) ≤ (2 : Int) ∧ (2 : Int) ≤ (100000 : Int)) ∧ ((((0 : Int) ≤ (2 : Int) ∧ (2 : Int) ≤ (100000 : Int)) ∧ (0 : Int) ≤ (2 : Int) ∧ (2 : Int) ≤ (100000 : Int)) ∧ True) ∧ ((0 : Int) ≤ (2 : Int) * 2 + 5 * 2 + 6 ∧ 2 * 2 + 5 * 2 + (6 : Int) = (2 : Int) * 2 + 5 * 2 + 6 ∧ 2 * 2 + 5 * 2 + (6 : Int) ≤ (4294967296 : Int)) ∧ ((0 : Int) ≤ (0 : Int) ∧ (0 : Int) < (↑1 : Int)) ∧ ((((0 : Int) ≤ (2 : Int) ∧ (2 : Int) ≤ (100000 : Int)) ∧ ((0 : Int) ≤ (2 : Int) ∧ (2 : Int) ≤ (100000 : Int)) ∧ (-1099511627776 : Int) ≤ (1 : Int) ∧ (1 : Int) ≤ (1099511627776 : Int)) ∧ True) ∧ ((20 = 20 ∧ (0 : Int) ≤ (0 : Int) ∧ (0 : Int) ≤ (4611686018427387904 : Int)) ∧ True) ∧ (((0 : Int) ≤ (2 : Int) ∧ (2 : Int) ≤ (100000 : Int)) ∧ (0 : Int) ≤ (2 : Int) ∧ (2 : Int) ≤ (100000 : Int)) ∧ (20 = 20 ∧ (0 : Int) ≤ (0 : Int) + 1 ∧ 0 + (1 : Int) ≤ (4611686018427387904 : Int)) ∧ ((((0 : Int) ≤ (2 : Int) ∧ (2 : Int) ≤ (100000 : Int)) ∧ ((0 : Int) ≤ (2 : Int) ∧ (2 : Int) ≤ (100000 : Int)) ∧ (-1099511627776 : Int) ≤ (1 : Int) ∧ (1 : Int) ≤ (1099511627776 : Int)) ∧ True) ∧ ((20 = 20 ∧ (0 : Int) ≤ (0 : Int) + 1 + 1 ∧ 0 + 1 + (1 : Int) ≤ (4611686018427387904 : Int)) ∧ True) ∧ ((((0 : Int) ≤ (2 : Int) ∧ (2 : Int) ≤ (100000 : Int)) ∧ ((0 : Int) ≤ (2 : Int) ∧ (2 : Int) ≤ (100000 : Int)) ∧ (-1099511627776 : Int) ≤ (1 : Int) ∧ (1 : Int) ≤ (1099511627776 : Int)) ∧ True) ∧ ((20 = 20 ∧ (0 : Int) ≤ (0 : Int) + 1 + 1 + 1 ∧ 0 + 1 + 1 + (1 : Int) ≤ (4611686018427387904 : Int)) ∧ True) ∧ True ∧ ((0 : Int) ≤ cutI (peek (putI (putI (putI (List.replicate (Int.toNat (2 * 2 + 5 * 2 + 6)) 0) (2 * 2 + 5 + 2 * 2 + 3 * 1 + 1) (tskV 3 5 0)) (2 * 2 + 5 + 2 * 2 + 3 * 2) (WU (peek (putI (List.replicate (Int.toNat (2 * 2 + 5 * 2 + 6)) 0) (2 * 2 + 5 + 2 * 2 + 3 * 1 + 1) (tskV 3 5 0)) (2 * 2 + 5 + 2 * 2 + 3 * 2) + 1))) (2 * 2 + 5 + 2 * 2 + 3 * 1) (WU (peek (putI (List.replicate (Int.toNat (2 * 2 + 5 * 2 + 6)) 0) (2 * 2 + 5 + 2 * 2 + 3 * 1 + 1) (tskV 3 5 0)) (2 * 2 + 5 + 2 * 2 + 3 * 2) + 1))) (2 * 2 + 5 + 2 * 2 + 3 * 1 + 2)) 0 12 ∧ cutI (peek (putI (putI (putI (List.replicate (Int.toNat (2 * 2 + 5 * 2 + 6)) 0) (2 * 2 + 5 + 2 * 2 + 3 * 1 + 1) (tskV 3 5 0)) (2 * 2 + 5 + 2 * 2 + 3 * 2) (WU (peek (putI (List.replicate (Int.toNat (2 * 2 + 5 * 2 + 6)) 0) (2 * 2 + 5 + 2 * 2 + 3 * 1 + 1) (tskV 3 5 0)) (2 * 2 + 5 + 2 * 2 + 3 * 2) + 1))) (2 * 2 + 5 + 2 * 2 + 3 * 1) (WU (peek (putI (List.replicate (Int.toNat (2 * 2 + 5 * 2 + 6)) 0) (2 * 2 + 5 + 2 * 2 + 3 * 1 + 1) (tskV 3 5 0)) (2 * 2 + 5 + 2 * 2 + 3 * 2) + 1))) (2 * 2 + 5 + 2 * 2 + 3 * 1 + 2)) 0 (12 : Int) ≤ (1000000 : Int)) ∧ True ∧ ((((0 : Int) ≤ (2 : Int) ∧ (2 : Int) ≤ (100000 : Int)) ∧ ((0 : Int) ≤ (2 : Int) ∧ (2 : Int) ≤ (100000 : Int)) ∧ (-1099511627776 : Int) ≤ (1 : Int) ∧ (1 : Int) ≤ (1099511627776 : Int)) ∧ True) ∧ ((20 = 20 ∧ (0 : Int) ≤ (0 : Int) + 1 + 1 + 1 + 1 ∧ 0 + 1 + 1 + 1 + (1 : Int) ≤ (4611686018427387904 : Int)) ∧ True) ∧ (20 = 20 ∧ ((0 : Int) ≤ (2 : Int) ∧ (2 : Int) ≤ (100000 : Int)) ∧ (0 : Int) ≤ (2 : Int) ∧ (2 : Int) ≤ (100000 : Int)) ∧ (20 = 20 ∧ ((0 : Int) ≤ (2 : Int) ∧ (2 : Int) ≤ (100000 : Int)) ∧ (0 : Int) ≤ (2 : Int) ∧ (2 : Int) ≤ (100000 : Int)) ∧ (((0 : Int) ≤ (2 : Int) ∧ (2 : Int) ≤ (100000 : Int)) ∧ ((0 : Int) ≤ (2 : Int) ∧ (2 : Int) ≤ (100000 : Int)) ∧ (-1099511627776 : Int) ≤ (1 : Int) ∧ (1 : Int) ≤ (1099511627776 : Int)) ∧ (20 = 20 ∧ True) ∧ ((0 : Int) ≤ peek (putI (putI (putI (putI (List.replicate (Int.toNat (2 * 2 + 5 * 2 + 6)) 0) (2 * 2 + 5 + 2 * 2 + 3 * 1 + 1) (tskV 3 5 0)) (2 * 2 + 5 + 2 * 2 + 3 * 2) (WU (peek (putI (List.replicate (Int.toNat (2 * 2 + 5 * 2 + 6)) 0) (2 * 2 + 5 + 2 * 2 + 3 * 1 + 1) (tskV 3 5 0)) (2 * 2 + 5 + 2 * 2 + 3 * 2) + 1))) (2 * 2 + 5 + 2 * 2 + 3 * 1) (WU (peek (putI (List.replicate (Int.toNat (2 * 2 + 5 * 2 + 6)) 0) (2 * 2 + 5 + 2 * 2 + 3 * 1 + 1) (tskV 3 5 0)) (2 * 2 + 5 + 2 * 2 + 3 * 2) + 1))) (2 * 2 + 5 + 2 * 2 + 3 * 1 + 2) (dPutV (attI (cutI (peek (putI (putI (putI (List.replicate (Int.toNat (2 * 2 + 5 * 2 + 6)) 0) (2 * 2 + 5 + 2 * 2 + 3 * 1 + 1) (tskV 3 5 0)) (2 * 2 + 5 + 2 * 2 + 3 * 2) (WU (peek (putI (List.replicate (Int.toNat (2 * 2 + 5 * 2 + 6)) 0) (2 * 2 + 5 + 2 * 2 + 3 * 1 + 1) (tskV 3 5 0)) (2 * 2 + 5 + 2 * 2 + 3 * 2) + 1))) (2 * 2 + 5 + 2 * 2 + 3 * 1) (WU (peek (putI (List.replicate (Int.toNat (2 * 2 + 5 * 2 + 6)) 0) (2 * 2 + 5 + 2 * 2 + 3 * 1 + 1) (tskV 3 5 0)) (2 * 2 + 5 + 2 * 2 + 3 * 2) + 1))) (2 * 2 + 5 + 2 * 2 + 3 * 1 + 2)) 0 12)) 0 0 0 false 1 0)) (2 * 2 + 5 + 2 * 2 + 3 * 1 + 2) ∧ peek (putI (putI (putI (putI (List.replicate (Int.toNat (2 * 2 + 5 * 2 + 6)) 0) (2 * 2 + 5 + 2 * 2 + 3 * 1 + 1) (tskV 3 5 0)) (2 * 2 + 5 + 2 * 2 + 3 * 2) (WU (peek (putI (List.replicate (Int.toNat (2 * 2 + 5 * 2 + 6)) 0) (2 * 2 + 5 + 2 * 2 + 3 * 1 + 1) (tskV 3 5 0)) (2 * 2 + 5 + 2 * 2 + 3 * 2) + 1))) (2 * 2 + 5 + 2 * 2 + 3 * 1) (WU (peek (putI (List.replicate (Int.toNat (2 * 2 + 5 * 2 + 6)) 0) (2 * 2 + 5 + 2 * 2 + 3 * 1 + 1) (tskV 3 5 0)) (2 * 2 + 5 + 2 * 2 + 3 * 2) + 1))) (2 * 2 + 5 + 2 * 2 + 3 * 1 + 2) (dPutV (attI (cutI (peek (putI (putI (putI (List.replicate (Int.toNat (2 * 2 + 5 * 2 + 6)) 0) (2 * 2 + 5 + 2 * 2 + 3 * 1 + 1) (tskV 3 5 0)) (2 * 2 + 5 + 2 * 2 + 3 * 2) (WU (peek (putI (List.replicate (Int.toNat (2 * 2 + 5 * 2 + 6)) 0) (2 * 2 + 5 + 2 * 2 + 3 * 1 + 1) (tskV 3 5 0)) (2 * 2 + 5 + 2 * 2 + 3 * 2) + 1))) (2 * 2 + 5 + 2 * 2 + 3 * 1) (WU (peek (putI (List.replicate (Int.toNat (2 * 2 + 5 * 2 + 6)) 0) (2 * 2 + 5 + 2 * 2 + 3 * 1 + 1) (tskV 3 5 0)) (2 * 2 + 5 + 2 * 2 + 3 * 2) + 1))) (2 * 2 + 5 + 2 * 2 + 3 * 1 + 2)) 0 12)) 0 0 0 false 1 0)) (2 * 2 + 5 + 2 * 2 + 3 * 1 + 2) ≤ (18446744073709551615 : Int)) ∧ K (AVal.bool true) []) (by kernel_rfl) ?_))
  repeat refine ⟨by first | trivial | decide | omega, ?_⟩
  exact hK
noncomputable def E23 := E22.addS 42 awake14S awake14_ok
end Go.Sh

/- The layout's addresses, as the document has them; an answer, asked for. -/
namespace Go.Sh
open Go Go.Proofs
variable [Con]
def lLifeS : RSpec Unit := fun args h => match args, h with
  | [.agg [.int .i64 t, .int .i64 n], .int .i64 a], [] => some ((0 ≤ t ∧ t ≤ 100000) ∧ (0 ≤ n ∧ n ≤ 100000) ∧ (-1099511627776 ≤ a ∧ a ≤ 1099511627776), .int .i64 (n + 4 + a))
  | _, _ => none
theorem lLife_ok : Spec.ok E23.I Try.prog 102 lLifeS.spec := by
  intro args h o ho K hK
  unfold RSpec.spec at ho
  split at ho
  case h_2 => cases ho
  rename_i pp vv hv
  unfold lLifeS at hv
  split at hv
  case h_2 => cases hv
  rename_i t n a
  simp only [Option.some.injEq, Prod.mk.injEq] at hv
  obtain ⟨rfl, rfl⟩ := hv
  simp only [Option.some.injEq] at ho; subst ho
  obtain ⟨hp, hK⟩ := hK
  have hK : K (.int .i64 (n + 4 + a)) [] := hK
  refine CallOk.trim (callOk_of (E := E23) Try.checked.mixed (L := LL) (n := 10) (of_nf (q := K (AVal.int .i64 (W (W (n + 4) + a))) []) (by kernel_rfl) ?_))
  simp (disch := omega) only [W, W_in]
  refine cast (congrArg (fun z => K (AVal.int .i64 z) []) ?_) hK
  omega
def lSlotS : RSpec Unit := fun args h => match args, h with
  | [.agg [.int .i64 t, .int .i64 n], .int .i64 a, .int .i64 b], [] => some ((0 ≤ t ∧ t ≤ 100000) ∧ (0 ≤ n ∧ n ≤ 100000) ∧ (-1099511627776 ≤ a ∧ a ≤ 1099511627776) ∧ (-1099511627776 ≤ b ∧ b ≤ 1099511627776), .int .i64 (2 * n + 5 + 2 * a + b))
  | _, _ => none
theorem lSlot_ok : Spec.ok E23.I Try.prog 104 lSlotS.spec := by
  intro args h o ho K hK
  unfold RSpec.spec at ho
  split at ho
  case h_2 => cases ho
  rename_i pp vv hv
  unfold lSlotS at hv
  split at hv
  case h_2 => cases hv
  rename_i t n a b
  simp only [Option.some.injEq, Prod.mk.injEq] at hv
  obtain ⟨rfl, rfl⟩ := hv
  simp only [Option.some.injEq] at ho; subst ho
  obtain ⟨hp, hK⟩ := hK
  have hK : K (.int .i64 (2 * n + 5 + 2 * a + b)) [] := hK
  refine CallOk.trim (callOk_of (E := E23) Try.checked.mixed (L := LL) (n := 10) (of_nf (q := K (AVal.int .i64 (W (W (W (W (2 * n) + 5) + W (2 * a)) + b))) []) (by kernel_rfl) ?_))
  simp (disch := omega) only [W, W_in]
  refine cast (congrArg (fun z => K (AVal.int .i64 z) []) ?_) hK
  omega
def lTicketS : RSpec Unit := fun args h => match args, h with
  | [.agg [.int .i64 t, .int .i64 n], .int .i64 a], [] => some ((0 ≤ t ∧ t ≤ 100000) ∧ (0 ≤ n ∧ n ≤ 100000) ∧ (-1099511627776 ≤ a ∧ a ≤ 1099511627776), .int .i64 (2 * n + 5 + 2 * t + 3 * a))
  | _, _ => none
theorem lTicket_ok : Spec.ok E23.I Try.prog 96 lTicketS.spec := by
  intro args h o ho K hK
  unfold RSpec.spec at ho
  split at ho
  case h_2 => cases ho
  rename_i pp vv hv
  unfold lTicketS at hv
  split at hv
  case h_2 => cases hv
  rename_i t n a
  simp only [Option.some.injEq, Prod.mk.injEq] at hv
  obtain ⟨rfl, rfl⟩ := hv
  simp only [Option.some.injEq] at ho; subst ho
  obtain ⟨hp, hK⟩ := hK
  have hK : K (.int .i64 (2 * n + 5 + 2 * t + 3 * a)) [] := hK
  refine CallOk.trim (callOk_of (E := E23) Try.checked.mixed (L := LL) (n := 10) (of_nf (q := K (AVal.int .i64 (W (W (W (W (2 * n) + 5) + W (2 * t)) + W (3 * a)))) []) (by kernel_rfl) ?_))
  simp (disch := omega) only [W, W_in]
  refine cast (congrArg (fun z => K (AVal.int .i64 z) []) ?_) hK
  omega
def lTaskS : RSpec Unit := fun args h => match args, h with
  | [.agg [.int .i64 t, .int .i64 n], .int .i64 a], [] => some ((0 ≤ t ∧ t ≤ 100000) ∧ (0 ≤ n ∧ n ≤ 100000) ∧ (-1099511627776 ≤ a ∧ a ≤ 1099511627776), .int .i64 (2 * n + 5 + 2 * t + 3 * a + 1))
  | _, _ => none
theorem lTask_ok : Spec.ok E23.I Try.prog 63 lTaskS.spec := by
  intro args h o ho K hK
  unfold RSpec.spec at ho
  split at ho
  case h_2 => cases ho
  rename_i pp vv hv
  unfold lTaskS at hv
  split at hv
  case h_2 => cases hv
  rename_i t n a
  simp only [Option.some.injEq, Prod.mk.injEq] at hv
  obtain ⟨rfl, rfl⟩ := hv
  simp only [Option.some.injEq] at ho; subst ho
  obtain ⟨hp, hK⟩ := hK
  have hK : K (.int .i64 (2 * n + 5 + 2 * t + 3 * a + 1)) [] := hK
  refine CallOk.trim (callOk_of (E := E23) Try.checked.mixed (L := LL) (n := 10) (of_nf (q := K (AVal.int .i64 (W (W (W (W (W (2 * n) + 5) + W (2 * t)) + W (3 * a)) + 1))) []) (by kernel_rfl) ?_))
  simp (disch := omega) only [W, W_in]
  refine cast (congrArg (fun z => K (AVal.int .i64 z) []) ?_) hK
  omega
def lDescS : RSpec Unit := fun args h => match args, h with
  | [.agg [.int .i64 t, .int .i64 n], .int .i64 a], [] => some ((0 ≤ t ∧ t ≤ 100000) ∧ (0 ≤ n ∧ n ≤ 100000) ∧ (-1099511627776 ≤ a ∧ a ≤ 1099511627776), .int .i64 (2 * n + 5 + 2 * t + 3 * a + 2))
  | _, _ => none
theorem lDesc_ok : Spec.ok E23.I Try.prog 58 lDescS.spec := by
  intro args h o ho K hK
  unfold RSpec.spec at ho
  split at ho
  case h_2 => cases ho
  rename_i pp vv hv
  unfold lDescS at hv
  split at hv
  case h_2 => cases hv
  rename_i t n a
  simp only [Option.some.injEq, Prod.mk.injEq] at hv
  obtain ⟨rfl, rfl⟩ := hv
  simp only [Option.some.injEq] at ho; subst ho
  obtain ⟨hp, hK⟩ := hK
  have hK : K (.int .i64 (2 * n + 5 + 2 * t + 3 * a + 2)) [] := hK
  refine CallOk.trim (callOk_of (E := E23) Try.checked.mixed (L := LL) (n := 10) (of_nf (q := K (AVal.int .i64 (W (W (W (W (W (2 * n) + 5) + W (2 * t)) + W (3 * a)) + 2))) []) (by kernel_rfl) ?_))
  simp (disch := omega) only [W, W_in]
  refine cast (congrArg (fun z => K (AVal.int .i64 z) []) ?_) hK
  omega
def lCounterS : RSpec Unit := fun args h => match args, h with
  | [.agg [.int .i64 t, .int .i64 n]], [] => some ((0 ≤ t ∧ t ≤ 100000) ∧ (0 ≤ n ∧ n ≤ 100000), .int .i64 (2 * n + 5 + 2 * t + 3 * t))
  | _, _ => none
theorem lCounter_ok : Spec.ok E23.I Try.prog 95 lCounterS.spec := by
  intro args h o ho K hK
  unfold RSpec.spec at ho
  split at ho
  case h_2 => cases ho
  rename_i pp vv hv
  unfold lCounterS at hv
  split at hv
  case h_2 => cases hv
  rename_i t n
  simp only [Option.some.injEq, Prod.mk.injEq] at hv
  obtain ⟨rfl, rfl⟩ := hv
  simp only [Option.some.injEq] at ho; subst ho
  obtain ⟨hp, hK⟩ := hK
  have hK : K (.int .i64 (2 * n + 5 + 2 * t + 3 * t)) [] := hK
  refine CallOk.trim (callOk_of (E := E23) Try.checked.mixed (L := LL) (n := 10) (of_nf (q := K (AVal.int .i64 (W (W (W (W (2 * n) + 5) + W (2 * t)) + W (3 * t)))) []) (by kernel_rfl) ?_))
  simp (disch := omega) only [W, W_in]
  refine cast (congrArg (fun z => K (AVal.int .i64 z) []) ?_) hK
  omega
noncomputable def E24 := (((((E23.addR 102 lLifeS lLife_ok).addR 104 lSlotS lSlot_ok).addR 96 lTicketS lTicket_ok).addR 63 lTaskS lTask_ok).addR 58 lDescS lDesc_ok).addR 95 lCounterS lCounter_ok
end Go.Sh

/- An answer's step. -/
namespace Go.Sh
open Go Go.Proofs
variable [Con]
def ansH (t n c : Int) (o : Bool) (v me : Int) (s : MS) : Heap Unit := [some (.cells [.int .i64 t, .int .i64 n, .int .i64 c, .bool o, .int .i64 v, .int .i64 me]), some (.cells [.int .i64 s.t, .int .i64 s.n, .slice 2 0 s.xs.length 1, .int .i64 s.c, .int .i64 s.k, .int .i64 s.a, .int .u64 s.o, .int .u64 s.w, .bool s.ok]), some (.ints (some .u64) s.xs)]
def memPat1 (h : Heap Unit) : Option (Nat × MS) := match h with
  | [some (.cells [.int .i64 t, .int .i64 n, .slice 2 0 len 1, .int .i64 c, .int .i64 k, .int .i64 a, .int .u64 o, .int .u64 w, .bool ok]), some (.ints (some .u64) xs)] => some (len, ⟨t, n, xs, c, k, a, o, w, ok⟩)
  | _ => none
theorem memPat1_eq {h : Heap Unit} {l : Nat} {s : MS} (e : memPat1 h = some (l, s)) (hl : l = s.xs.length) : h = [some (.cells [.int .i64 s.t, .int .i64 s.n, .slice 2 0 s.xs.length 1, .int .i64 s.c, .int .i64 s.k, .int .i64 s.a, .int .u64 s.o, .int .u64 s.w, .bool s.ok]), some (.ints (some .u64) s.xs)] := by
  unfold memPat1 at e
  split at e
  · simp only [Option.some.injEq, Prod.mk.injEq] at e
    obtain ⟨rfl, rfl⟩ := e
    simp only at hl; subst hl; rfl
  · cases e
/- OPQ -/
def descA (t n u : Int) : Int := 2 * n + 5 + 2 * t + 3 * u + 2
def ansS : Spec Unit := fun args h => match args, h with
  | [.ptr 0 0, .ptr 1 0], some (.cells [.int .i64 t, .int .i64 n, .int .i64 c, .bool o, .int .i64 v, .int .i64 me]) :: h' => match memPat1 h' with
    | some (l, s) => some (.pre (l = s.xs.length ∧ (0 ≤ s.c ∧ s.c ≤ 4611686018427387904) ∧ (0 ≤ t ∧ t ≤ 100000) ∧ (0 ≤ n ∧ n ≤ 100000) ∧ (0 ≤ me ∧ me ≤ 100000)) (.ret (.bool true) (ansH t n (resC (cutI (peek s.xs (descA t n me)) 39 9) (cutI (peek s.xs (descA t n me)) 49 3)) (resO (cutI (peek s.xs (descA t n me)) 39 9) (cutI (peek s.xs (descA t n me)) 49 3) (ieq (cutI (peek s.xs (descA t n me)) 48 1) 1)) (resX (cutI (peek s.xs (descA t n me)) 39 9) (cutI (peek s.xs (descA t n me)) 49 3) (cutI (peek s.xs (descA t n me)) 52 10)) me (s.loadd (descA t n me)))))
    | none => none
  | _, _ => none
theorem ans_ok : Spec.ok E24.I Try.prog 55 ansS := by
  intro args h o' ho K hK
  unfold ansS at ho
  split at ho
  case h_2 => cases ho
  rename_i t n c o v me h'
  split at ho
  case h_2 => cases ho
  rename_i l s hm
  simp only [Option.some.injEq] at ho; subst ho
  obtain ⟨⟨hl, hc, ht, hn, hme⟩, hK⟩ := hK
  have hh := memPat1_eq hm hl
  subst hh
  refine CallOk.trim (callOk_of (E := E24) Try.checked.mixed (L := LL) (n := 10) (of_nf (q := ((((0 : Int) ≤ t ∧ t ≤ (100000 : Int)) ∧ ((0 : Int) ≤ n ∧ n ≤ (100000 : Int)) ∧ (-1099511627776 : Int) ≤ me ∧ me ≤ (1099511627776 : Int)) ∧ True) ∧ ((List.length s.3 = List.length s.3 ∧ (0 : Int) ≤ s.4 ∧ s.4 ≤ (4611686018427387904 : Int)) ∧ True) ∧ True ∧ True ∧ K (AVal.bool true) [some (Entry.cells [AVal.int .i64 t, AVal.int .i64 n, AVal.int .i64 (resC (cutI (peek s.3 (2 * n + 5 + 2 * t + 3 * me + 2)) 39 9) (cutI (peek s.3 (2 * n + 5 + 2 * t + 3 * me + 2)) 49 3)), AVal.bool (resO (cutI (peek s.3 (2 * n + 5 + 2 * t + 3 * me + 2)) 39 9) (cutI (peek s.3 (2 * n + 5 + 2 * t + 3 * me + 2)) 49 3) (ieq (cutI (peek s.3 (2 * n + 5 + 2 * t + 3 * me + 2)) 48 1) 1)), AVal.int .i64 (resX (cutI (peek s.3 (2 * n + 5 + 2 * t + 3 * me + 2)) 39 9) (cutI (peek s.3 (2 * n + 5 + 2 * t + 3 * me + 2)) 49 3) (cutI (peek s.3 (2 * n + 5 + 2 * t + 3 * me + 2)) 52 10)), AVal.int .i64 me]), some (Entry.cells [AVal.int .i64 s.1, AVal.int .i64 s.2, AVal.slice 2 0 (List.length s.3) 1, AVal.int .i64 (s.4 + 1), AVal.int .i64 1, AVal.int .i64 (2 * n + 5 + 2 * t + 3 * me + 2), AVal.int .u64 (peek s.3 (2 * n + 5 + 2 * t + 3 * me + 2)), AVal.int .u64 (peek s.3 (2 * n + 5 + 2 * t + 3 * me + 2)), AVal.bool (inB s.3 (2 * n + 5 + 2 * t + 3 * me + 2))]), some (Entry.ints (some .u64) s.3)]) (by kernel_rfl) ?_))
  exact ⟨⟨by omega, trivial⟩, ⟨⟨rfl, hc⟩, trivial⟩, trivial, trivial, hK⟩
noncomputable def E26 := E24.addS 55 ansS ans_ok
end Go.Sh

/- An announcement, run. -/
namespace Go.Sh
open Go Go.Proofs
variable [Con]
/- OPQ -/
def annNo (t n me bits : Int) (s : MS) : Int := WU (peek (s.stored (2 * n + 5 + 2 * t + 3 * me + 1) bits).xs (2 * n + 5 + 2 * t + 3 * t) + 1)
def annW3 (t n me bits : Int) (s : MS) : MS := ((s.stored (2 * n + 5 + 2 * t + 3 * me + 1) bits).added (2 * n + 5 + 2 * t + 3 * t) 1).stored (2 * n + 5 + 2 * t + 3 * me) (WU (peek (s.stored (2 * n + 5 + 2 * t + 3 * me + 1) bits).xs (2 * n + 5 + 2 * t + 3 * t) + 1))
/- OPQ -/
def annF (t n me bits : Int) (s : MS) : Int := peek (annW3 t n me bits s).xs (2 * n + 5 + 2 * t + 3 * me + 2)
/- OPQ -/
def nextW (f : Int) : Int := bif dOk (attI (cutI f 0 12)) 0 0 0 1 0 then dPutV (attI (cutI f 0 12)) 0 0 0 false 1 0 else 0
instance : Inhabited MS := ⟨⟨0, 0, [], 0, 0, 0, 0, 0, false⟩⟩
/- OPQ -/
def annRun (t n me bits : Int) (s : MS) : MS := ((annW3 t n me bits s).loadd (2 * n + 5 + 2 * t + 3 * me + 2)).stored (2 * n + 5 + 2 * t + 3 * me + 2) (nextW (annF t n me bits s))
theorem cut_att (x : Int) : 0 ≤ cutI x 0 12 ∧ cutI x 0 12 ≤ 1000000 := by
  have h : 0 ≤ cutI x 0 12 ∧ cutI x 0 12 < 4096 := cutI_in (x := x) (a := 0) (w := 12)
  omega
def annTail (t n me bits no at' fo : Int) (w : Bool) : Heap Unit := [some (.cells [.iface 93 (.ptr 3 0)]), some (.cells [.int .i64 t, .int .i64 n, .int .u64 no, .int .i64 me, .int .i64 at', .int .u64 bits, .bool w, .int .u64 fo])]
def runS : Spec Unit := fun args h => match args, h with
  | [.ptr 0 0, .int .i64 9, .slice 2 0 1 1], [e1, e2, some (.cells [.iface 93 (.ptr 3 0)]), some (.cells [.int .i64 t, .int .i64 n, .int .u64 no, .int .i64 me, .int .i64 0, .int .u64 bits, .bool w, .int .u64 fo])] => match memPat [e1, e2] with
    | some (l, s) => some (.pre (l = s.xs.length ∧ w = false ∧ (0 ≤ s.c ∧ s.c ≤ 1000000) ∧ (0 ≤ t ∧ t ≤ 100000) ∧ (0 ≤ n ∧ n ≤ 100000) ∧ (0 ≤ me ∧ me ≤ 100000)) (.ret (.tup [.int .i64 5, .bool true]) (memH (annRun t n me bits s) ++ annTail t n me bits (annNo t n me bits s) 5 (annF t n me bits s) false)))
    | none => none
  | _, _ => none
theorem run_ok : Spec.ok E26.I Try.prog 21 runS := by
  intro args h o ho K hK
  unfold runS at ho
  split at ho
  case h_2 => cases ho
  rename_i e1 e2 t n no me bits w fo
  split at ho
  case h_2 => cases ho
  rename_i l s hm
  simp only [Option.some.injEq] at ho; subst ho
  obtain ⟨⟨hl, hw, hc, ht, hn, hme⟩, hK⟩ := hK
  have hh := memPat_eq hm hl
  subst hw
  unfold memH at hh
  simp only [List.cons.injEq, and_true] at hh
  obtain ⟨rfl, rfl⟩ := hh
  refine CallOk.trim (callOk_of (E := E26) Try.checked.mixed (L := LL) (n := 10) (of_nf (q := ((0 : Int) ≤ (0 : Int) ∧ (0 : Int) < (↑1 : Int)) ∧ ((((0 : Int) ≤ t ∧ t ≤ (100000 : Int)) ∧ ((0 : Int) ≤ n ∧ n ≤ (100000 : Int)) ∧ (-1099511627776 : Int) ≤ me ∧ me ≤ (1099511627776 : Int)) ∧ True) ∧ ((List.length s.3 = List.length s.3 ∧ (0 : Int) ≤ s.4 ∧ s.4 ≤ (4611686018427387904 : Int)) ∧ True) ∧ (((0 : Int) ≤ t ∧ t ≤ (100000 : Int)) ∧ (0 : Int) ≤ n ∧ n ≤ (100000 : Int)) ∧ (List.length (putI s.3 (2 * n + 5 + 2 * t + 3 * me + 1) bits) = List.length (putI s.3 (2 * n + 5 + 2 * t + 3 * me + 1) bits) ∧ (0 : Int) ≤ s.4 + 1 ∧ s.4 + (1 : Int) ≤ (4611686018427387904 : Int)) ∧ ((((0 : Int) ≤ t ∧ t ≤ (100000 : Int)) ∧ ((0 : Int) ≤ n ∧ n ≤ (100000 : Int)) ∧ (-1099511627776 : Int) ≤ me ∧ me ≤ (1099511627776 : Int)) ∧ True) ∧ ((List.length (putI (putI s.3 (2 * n + 5 + 2 * t + 3 * me + 1) bits) (2 * n + 5 + 2 * t + 3 * t) (WU (peek (putI s.3 (2 * n + 5 + 2 * t + 3 * me + 1) bits) (2 * n + 5 + 2 * t + 3 * t) + 1))) = List.length (putI (putI s.3 (2 * n + 5 + 2 * t + 3 * me + 1) bits) (2 * n + 5 + 2 * t + 3 * t) (WU (peek (putI s.3 (2 * n + 5 + 2 * t + 3 * me + 1) bits) (2 * n + 5 + 2 * t + 3 * t) + 1))) ∧ (0 : Int) ≤ s.4 + 1 + 1 ∧ s.4 + 1 + (1 : Int) ≤ (4611686018427387904 : Int)) ∧ True) ∧ ((((0 : Int) ≤ t ∧ t ≤ (100000 : Int)) ∧ ((0 : Int) ≤ n ∧ n ≤ (100000 : Int)) ∧ (-1099511627776 : Int) ≤ me ∧ me ≤ (1099511627776 : Int)) ∧ True) ∧ ((List.length (putI (putI (putI s.3 (2 * n + 5 + 2 * t + 3 * me + 1) bits) (2 * n + 5 + 2 * t + 3 * t) (WU (peek (putI s.3 (2 * n + 5 + 2 * t + 3 * me + 1) bits) (2 * n + 5 + 2 * t + 3 * t) + 1))) (2 * n + 5 + 2 * t + 3 * me) (WU (peek (putI s.3 (2 * n + 5 + 2 * t + 3 * me + 1) bits) (2 * n + 5 + 2 * t + 3 * t) + 1))) = List.length (putI (putI (putI s.3 (2 * n + 5 + 2 * t + 3 * me + 1) bits) (2 * n + 5 + 2 * t + 3 * t) (WU (peek (putI s.3 (2 * n + 5 + 2 * t + 3 * me + 1) bits) (2 * n + 5 + 2 * t + 3 * t) + 1))) (2 * n + 5 + 2 * t + 3 * me) (WU (peek (putI s.3 (2 * n + 5 + 2 * t + 3 * me + 1) bits) (2 * n + 5 + 2 * t + 3 * t) + 1))) ∧ (0 : Int) ≤ s.4 + 1 + 1 + 1 ∧ s.4 + 1 + 1 + (1 : Int) ≤ (4611686018427387904 : Int)) ∧ True) ∧ True ∧ ((0 : Int) ≤ cutI (peek (putI (putI (putI s.3 (2 * n + 5 + 2 * t + 3 * me + 1) bits) (2 * n + 5 + 2 * t + 3 * t) (WU (peek (putI s.3 (2 * n + 5 + 2 * t + 3 * me + 1) bits) (2 * n + 5 + 2 * t + 3 * t) + 1))) (2 * n + 5 + 2 * t + 3 * me) (WU (peek (putI s.3 (2 * n + 5 + 2 * t + 3 * me + 1) bits) (2 * n + 5 + 2 * t + 3 * t) + 1))) (2 * n + 5 + 2 * t + 3 * me + 2)) 0 12 ∧ cutI (peek (putI (putI (putI s.3 (2 * n + 5 + 2 * t + 3 * me + 1) bits) (2 * n + 5 + 2 * t + 3 * t) (WU (peek (putI s.3 (2 * n + 5 + 2 * t + 3 * me + 1) bits) (2 * n + 5 + 2 * t + 3 * t) + 1))) (2 * n + 5 + 2 * t + 3 * me) (WU (peek (putI s.3 (2 * n + 5 + 2 * t + 3 * me + 1) bits) (2 * n + 5 + 2 * t + 3 * t) + 1))) (2 * n + 5 + 2 * t + 3 * me + 2)) 0 (12 : Int) ≤ (1000000 : Int)) ∧ True ∧ ((((0 : Int) ≤ t ∧ t ≤ (100000 : Int)) ∧ ((0 : Int) ≤ n ∧ n ≤ (100000 : Int)) ∧ (-1099511627776 : Int) ≤ me ∧ me ≤ (1099511627776 : Int)) ∧ True) ∧ ((List.length (putI (putI (putI s.3 (2 * n + 5 + 2 * t + 3 * me + 1) bits) (2 * n + 5 + 2 * t + 3 * t) (WU (peek (putI s.3 (2 * n + 5 + 2 * t + 3 * me + 1) bits) (2 * n + 5 + 2 * t + 3 * t) + 1))) (2 * n + 5 + 2 * t + 3 * me) (WU (peek (putI s.3 (2 * n + 5 + 2 * t + 3 * me + 1) bits) (2 * n + 5 + 2 * t + 3 * t) + 1))) = List.length (putI (putI (putI s.3 (2 * n + 5 + 2 * t + 3 * me + 1) bits) (2 * n + 5 + 2 * t + 3 * t) (WU (peek (putI s.3 (2 * n + 5 + 2 * t + 3 * me + 1) bits) (2 * n + 5 + 2 * t + 3 * t) + 1))) (2 * n + 5 + 2 * t + 3 * me) (WU (peek (putI s.3 (2 * n + 5 + 2 * t + 3 * me + 1) bits) (2 * n + 5 + 2 * t + 3 * t) + 1))) ∧ (0 : Int) ≤ s.4 + 1 + 1 + 1 + 1 ∧ s.4 + 1 + 1 + 1 + (1 : Int) ≤ (4611686018427387904 : Int)) ∧ True) ∧ K (AVal.tup [AVal.int .i64 (W (W (W (W (W (0 + 1) + 1) + 1) + 1) + 1)), AVal.bool true]) [some (Entry.cells [AVal.int .i64 s.1, AVal.int .i64 s.2, AVal.slice 1 0 (List.length (putI (putI (putI (putI s.3 (2 * n + 5 + 2 * t + 3 * me + 1) bits) (2 * n + 5 + 2 * t + 3 * t) (WU (peek (putI s.3 (2 * n + 5 + 2 * t + 3 * me + 1) bits) (2 * n + 5 + 2 * t + 3 * t) + 1))) (2 * n + 5 + 2 * t + 3 * me) (WU (peek (putI s.3 (2 * n + 5 + 2 * t + 3 * me + 1) bits) (2 * n + 5 + 2 * t + 3 * t) + 1))) (2 * n + 5 + 2 * t + 3 * me + 2) (bif dOk (attI (cutI (peek (putI (putI (putI s.3 (2 * n + 5 + 2 * t + 3 * me + 1) bits) (2 * n + 5 + 2 * t + 3 * t) (WU (peek (putI s.3 (2 * n + 5 + 2 * t + 3 * me + 1) bits) (2 * n + 5 + 2 * t + 3 * t) + 1))) (2 * n + 5 + 2 * t + 3 * me) (WU (peek (putI s.3 (2 * n + 5 + 2 * t + 3 * me + 1) bits) (2 * n + 5 + 2 * t + 3 * t) + 1))) (2 * n + 5 + 2 * t + 3 * me + 2)) 0 12)) 0 0 0 1 0 then dPutV (attI (cutI (peek (putI (putI (putI s.3 (2 * n + 5 + 2 * t + 3 * me + 1) bits) (2 * n + 5 + 2 * t + 3 * t) (WU (peek (putI s.3 (2 * n + 5 + 2 * t + 3 * me + 1) bits) (2 * n + 5 + 2 * t + 3 * t) + 1))) (2 * n + 5 + 2 * t + 3 * me) (WU (peek (putI s.3 (2 * n + 5 + 2 * t + 3 * me + 1) bits) (2 * n + 5 + 2 * t + 3 * t) + 1))) (2 * n + 5 + 2 * t + 3 * me + 2)) 0 12)) 0 0 0 false 1 0 else 0))) 1, AVal.int .i64 (s.4 + 1 + 1 + 1 + 1 + 1), AVal.int .i64 2, AVal.int .i64 (2 * n + 5 + 2 * t + 3 * me + 2), AVal.int .u64 (peek (putI (putI (putI s.3 (2 * n + 5 + 2 * t + 3 * me + 1) bits) (2 * n + 5 + 2 * t + 3 * t) (WU (peek (putI s.3 (2 * n + 5 + 2 * t + 3 * me + 1) bits) (2 * n + 5 + 2 * t + 3 * t) + 1))) (2 * n + 5 + 2 * t + 3 * me) (WU (peek (putI s.3 (2 * n + 5 + 2 * t + 3 * me + 1) bits) (2 * n + 5 + 2 * t + 3 * t) + 1))) (2 * n + 5 + 2 * t + 3 * me + 2)), AVal.int .u64 (bif inB (putI (putI (putI s.3 (2 * n + 5 + 2 * t + 3 * me + 1) bits) (2 * n + 5 + 2 * t + 3 * t) (WU (peek (putI s.3 (2 * n + 5 + 2 * t + 3 * me + 1) bits) (2 * n + 5 + 2 * t + 3 * t) + 1))) (2 * n + 5 + 2 * t + 3 * me) (WU (peek (putI s.3 (2 * n + 5 + 2 * t + 3 * me + 1) bits) (2 * n + 5 + 2 * t + 3 * t) + 1))) (2 * n + 5 + 2 * t + 3 * me + 2) then bif dOk (attI (cutI (peek (putI (putI (putI s.3 (2 * n + 5 + 2 * t + 3 * me + 1) bits) (2 * n + 5 + 2 * t + 3 * t) (WU (peek (putI s.3 (2 * n + 5 + 2 * t + 3 * me + 1) bits) (2 * n + 5 + 2 * t + 3 * t) + 1))) (2 * n + 5 + 2 * t + 3 * me) (WU (peek (putI s.3 (2 * n + 5 + 2 * t + 3 * me + 1) bits) (2 * n + 5 + 2 * t + 3 * t) + 1))) (2 * n + 5 + 2 * t + 3 * me + 2)) 0 12)) 0 0 0 1 0 then dPutV (attI (cutI (peek (putI (putI (putI s.3 (2 * n + 5 + 2 * t + 3 * me + 1) bits) (2 * n + 5 + 2 * t + 3 * t) (WU (peek (putI s.3 (2 * n + 5 + 2 * t + 3 * me + 1) bits) (2 * n + 5 + 2 * t + 3 * t) + 1))) (2 * n + 5 + 2 * t + 3 * me) (WU (peek (putI s.3 (2 * n + 5 + 2 * t + 3 * me + 1) bits) (2 * n + 5 + 2 * t + 3 * t) + 1))) (2 * n + 5 + 2 * t + 3 * me + 2)) 0 12)) 0 0 0 false 1 0 else 0 else 0), AVal.bool (inB (putI (putI (putI s.3 (2 * n + 5 + 2 * t + 3 * me + 1) bits) (2 * n + 5 + 2 * t + 3 * t) (WU (peek (putI s.3 (2 * n + 5 + 2 * t + 3 * me + 1) bits) (2 * n + 5 + 2 * t + 3 * t) + 1))) (2 * n + 5 + 2 * t + 3 * me) (WU (peek (putI s.3 (2 * n + 5 + 2 * t + 3 * me + 1) bits) (2 * n + 5 + 2 * t + 3 * t) + 1))) (2 * n + 5 + 2 * t + 3 * me + 2))]), some (Entry.ints (some .u64) (putI (putI (putI (putI s.3 (2 * n + 5 + 2 * t + 3 * me + 1) bits) (2 * n + 5 + 2 * t + 3 * t) (WU (peek (putI s.3 (2 * n + 5 + 2 * t + 3 * me + 1) bits) (2 * n + 5 + 2 * t + 3 * t) + 1))) (2 * n + 5 + 2 * t + 3 * me) (WU (peek (putI s.3 (2 * n + 5 + 2 * t + 3 * me + 1) bits) (2 * n + 5 + 2 * t + 3 * t) + 1))) (2 * n + 5 + 2 * t + 3 * me + 2) (bif dOk (attI (cutI (peek (putI (putI (putI s.3 (2 * n + 5 + 2 * t + 3 * me + 1) bits) (2 * n + 5 + 2 * t + 3 * t) (WU (peek (putI s.3 (2 * n + 5 + 2 * t + 3 * me + 1) bits) (2 * n + 5 + 2 * t + 3 * t) + 1))) (2 * n + 5 + 2 * t + 3 * me) (WU (peek (putI s.3 (2 * n + 5 + 2 * t + 3 * me + 1) bits) (2 * n + 5 + 2 * t + 3 * t) + 1))) (2 * n + 5 + 2 * t + 3 * me + 2)) 0 12)) 0 0 0 1 0 then dPutV (attI (cutI (peek (putI (putI (putI s.3 (2 * n + 5 + 2 * t + 3 * me + 1) bits) (2 * n + 5 + 2 * t + 3 * t) (WU (peek (putI s.3 (2 * n + 5 + 2 * t + 3 * me + 1) bits) (2 * n + 5 + 2 * t + 3 * t) + 1))) (2 * n + 5 + 2 * t + 3 * me) (WU (peek (putI s.3 (2 * n + 5 + 2 * t + 3 * me + 1) bits) (2 * n + 5 + 2 * t + 3 * t) + 1))) (2 * n + 5 + 2 * t + 3 * me + 2)) 0 12)) 0 0 0 false 1 0 else 0))), some (Entry.cells [AVal.iface 93 (AVal.ptr 3 0)]), some (Entry.cells [AVal.int .i64 t, AVal.int .i64 n, AVal.int .u64 (WU (peek (putI s.3 (2 * n + 5 + 2 * t + 3 * me + 1) bits) (2 * n + 5 + 2 * t + 3 * t) + 1)), AVal.int .i64 me, AVal.int .i64 (W (W (W (W (W (0 + 1) + 1) + 1) + 1) + 1)), AVal.int .u64 bits, AVal.bool false, AVal.int .u64 (peek (putI (putI (putI s.3 (2 * n + 5 + 2 * t + 3 * me + 1) bits) (2 * n + 5 + 2 * t + 3 * t) (WU (peek (putI s.3 (2 * n + 5 + 2 * t + 3 * me + 1) bits) (2 * n + 5 + 2 * t + 3 * t) + 1))) (2 * n + 5 + 2 * t + 3 * me) (WU (peek (putI s.3 (2 * n + 5 + 2 * t + 3 * me + 1) bits) (2 * n + 5 + 2 * t + 3 * t) + 1))) (2 * n + 5 + 2 * t + 3 * me + 2))])]) (by kernel_rfl) ?_))
  repeat first
    | refine ⟨by omega, ?_⟩
    | refine ⟨⟨by omega, trivial⟩, ?_⟩
    | refine ⟨⟨rfl, by omega⟩, ?_⟩
    | refine ⟨⟨⟨rfl, by omega⟩, trivial⟩, ?_⟩
    | refine ⟨trivial, ?_⟩
    | refine ⟨cut_att _, ?_⟩
  exact hK
noncomputable def E27 := E26.addS 21 runS run_ok
end Go.Sh

