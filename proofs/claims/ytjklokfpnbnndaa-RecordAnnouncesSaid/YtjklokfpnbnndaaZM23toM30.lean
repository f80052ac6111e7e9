import Derived.Test.YtjklokfpnbnndaaZM11toM22
set_option linter.all false
/- The example of an announcement. -/
namespace Go.Sh
open Go Go.Proofs
variable [Con]
def awake14S : Spec Unit := fun args h => match args, h with
  | [], [] => some (.pre (True) (.ret (.bool true) ([])))
  | _, _ => none
theorem awake14_ok : Spec.ok E22.I Try.prog 42 awake14S := by
  intro args h o ho K hK
  unfold awake14S at ho
  split at ho
  case h_2 => cases ho
  skip
  simp only [Option.some.injEq] at ho; subst ho
  obtain ⟨hp, hK⟩ := hK
  have hK : K (.bool true) ([]) := hK
  refine CallOk.trim (callOk_of (E := E22) Try.checked.mixed (L := LL) (n := 10) (of_nf (q := True ∧ (((0 : Int) ≤ (2 : Int) ∧ (2 : Int) ≤ (100000 : Int)) ∧ (0 : Int) ≤ (2 : Int) ∧ (2 : Int) ≤ (100000 : Int)) ∧ ((((0 : Int) ≤ (2 : Int) ∧ (2 : Int) ≤ (100000 : Int)) ∧ (0 : Int) ≤ (2 : Int) ∧ (2 : Int) ≤ (100000 : Int)) ∧ True) ∧ ((0 : Int) ≤ (2 : Int) * 2 + 5 * 2 + 6 ∧ 2 * 2 + 5 * 2 + (6 : Int) = (2 : Int) * 2 + 5 * 2 + 6 ∧ 2 * 2 + 5 * 2 + (6 : Int) ≤ (4294967296 : Int)) ∧ ((0 : Int) ≤ (0 : Int) ∧ (0 : Int) < (↑1 : Int)) ∧ ((((0 : Int) ≤ (2 : Int) ∧ (2 : Int) ≤ (100000 : Int)) ∧ ((0 : Int) ≤ (2 : Int) ∧ (2 : Int) ≤ (100000 : Int)) ∧ (-1099511627776 : Int) ≤ (1 : Int) ∧ (1 : Int) ≤ (1099511627776 : Int)) ∧ True) ∧ ((20 = 20 ∧ (0 : Int) ≤ (0 : Int) ∧ (0 : Int) ≤ (4611686018427387904 : Int)) ∧ True) ∧ (((0 : Int) ≤ (2 : Int) ∧ (2 : Int) ≤ (100000 : Int)) ∧ (0 : Int) ≤ (2 : Int) ∧ (2 : Int) ≤ (100000 : Int)) ∧ (20 = 20 ∧ (0 : Int) ≤ (0 : Int) + 1 ∧ 0 + (1 : Int) ≤ (4611686018427387904 : Int)) ∧ ((((0 : Int) ≤ (2 : Int) ∧ (2 : Int) ≤ (100000 : Int)) ∧ ((0 : Int) ≤ (2 : Int) ∧ (2 : Int) ≤ (100000 : Int)) ∧ (-1099511627776 : Int) ≤ (1 : Int) ∧ (1 : Int) ≤ (1099511627776 : Int)) ∧ True) ∧ ((20 = 20 ∧ (0 : Int) ≤ (0 : Int) + 1 + 1 ∧ 0 + 1 + (1 : Int) ≤ (4611686018427387904 : Int)) ∧ True) ∧ ((((0 : Int) ≤ (2 : Int) ∧ (2 : Int) ≤ (100000 : Int)) ∧ ((0 : Int) ≤ (2 : Int) ∧ (2 : Int) ≤ (100000 : Int)) ∧ (-1099511627776 : Int) ≤ (1 : Int) ∧ (1 : Int) ≤ (1099511627776 : Int)) ∧ True) ∧ ((20 = 20 ∧ (0 : Int) ≤ (0 : Int) + 1 + 1 + 1 ∧ 0 + 1 + 1 + (1 : Int) ≤ (4611686018427387904 : Int)) ∧ True) ∧ True ∧ ((0 : Int) ≤ cutI (peek (putI (putI (putI (List.replicate (Int.toNat (2 * 2 + 5 * 2 + 6)) 0) (2 * 2 + 5 + 2 * 2 + 3 * 1 + 1) (tskV 3 5 0)) (2 * 2 + 5 + 2 * 2 + 3 * 2) (WU (peek (putI (List.replicate (Int.toNat (2 * 2 + 5 * 2 + 6)) 0) (2 * 2 + 5 + 2 * 2 + 3 * 1 + 1) (tskV 3 5 0)) (2 * 2 + 5 + 2 * 2 + 3 * 2) + 1))) (2 * 2 + 5 + 2 * 2 + 3 * 1) (WU (peek (putI (List.replicate (Int.toNat (2 * 2 + 5 * 2 + 6)) 0) (2 * 2 + 5 + 2 * 2 + 3 * 1 + 1) (tskV 3 5 0)) (2 * 2 + 5 + 2 * 2 + 3 * 2) + 1))) (2 * 2 + 5 + 2 * 2 + 3 * 1 + 2)) 0 12 ∧ cutI (peek (putI (putI (putI (List.replicate (Int.toNat (2 * 2 + 5 * 2 + 6)) 0) (2 * 2 + 5 + 2 * 2 + 3 * 1 + 1) (tskV 3 5 0)) (2 * 2 + 5 + 2 * 2 + 3 * 2) (WU (peek (putI (List.replicate (Int.toNat (2 * 2 + 5 * 2 + 6)) 0) (2 * 2 + 5 + 2 * 2 + 3 * 1 + 1) (tskV 3 5 0)) (2 * 2 + 5 + 2 * 2 + 3 * 2) + 1))) (2 * 2 + 5 + 2 * 2 + 3 * 1) (WU (peek (putI (List.replicate (Int.toNat (2 * 2 + 5 * 2 + 6)) 0) (2 * 2 + 5 + 2 * 2 + 3 * 1 + 1) (tskV 3 5 0)) (2 * 2 + 5 + 2 * 2 + 3 * 2) + 1))) (2 * 2 + 5 + 2 * 2 + 3 * 1 + 2)) 0 (12 : Int) ≤ (1000000 : Int)) ∧ True ∧ ((((0 : Int) ≤ (2 : Int) ∧ (2 : Int) ≤ (100000 : Int)) ∧ ((0 : Int) ≤ (2 : Int) ∧ (2 : Int) ≤ (100000 : Int)) ∧ (-1099511627776 : Int) ≤ (1 : Int) ∧ (1 : Int) ≤ (1099511627776 : Int)) ∧ True) ∧ ((20 = 20 ∧ (0 : Int) ≤ (0 : Int) + 1 + 1 + 1 + 1 ∧ 0 + 1 + 1 + 1 + (1 : Int) ≤ (4611686018427387904 : Int)) ∧ True) ∧ (20 = 20 ∧ ((0 : Int) ≤ (2 : Int) ∧ (2 : Int) ≤ (100000 : Int)) ∧ (0 : Int) ≤ (2 : Int) ∧ (2 : Int) ≤ (100000 : Int)) ∧ (20 = 20 ∧ ((0 : Int) ≤ (2 : Int) ∧ (2 : Int) ≤ (100000 : Int)) ∧ (0 : Int) ≤ (2 : Int) ∧ (2 : Int) ≤ (100000 : Int)) ∧ (((0 : Int) ≤ (2 : Int) ∧ (2 : Int) ≤ (100000 : Int)) ∧ ((0 : Int) ≤ (2 : Int) ∧ (2 : Int) ≤ (100000 : Int)) ∧ (-1099511627776 : Int) ≤ (1 : Int) ∧ (1 : Int) ≤ (1099511627776 : Int)) ∧ (20 = 20 ∧ True) ∧ ((0 : Int) ≤ peek (putI (putI (putI (putI (List.replicate (Int.toNat (2 * 2 + 5 * 2 + 6)) 0) (2 * 2 + 5 + 2 * 2 + 3 * 1 + 1) (tskV 3 5 0)) (2 * 2 + 5 + 2 * 2 + 3 * 2) (WU (peek (putI (List.replicate (Int.toNat (2 * 2 + 5 * 2 + 6)) 0) (2 * 2 + 5 + 2 * 2 + 3 * 1 + 1) (tskV 3 5 0)) (2 * 2 + 5 + 2 * 2 + 3 * 2) + 1))) (2 * 2 + 5 + 2 * 2 + 3 * 1) (WU (peek (putI (List.replicate (Int.toNat (2 * 2 + 5 * 2 + 6)) 0) (2 * 2 + 5 + 2 * 2 + 3 * 1 + 1) (tskV 3 5 0)) (2 * 2 + 5 + 2 * 2 + 3 * 2) + 1))) (2 * 2 + 5 + 2 * 2 + 3 * 1 + 2) (dPutV (attI (cutI (peek (putI (putI (putI (List.replicate (Int.toNat (2 * 2 + 5 * 2 + 6)) 0) (2 * 2 + 5 + 2 * 2 + 3 * 1 + 1) (tskV 3 5 0)) (2 * 2 + 5 + 2 * 2 + 3 * 2) (WU (peek (putI (List.replicate (Int.toNat (2 * 2 + 5 * 2 + 6)) 0) (2 * 2 + 5 + 2 * 2 + 3 * 1 + 1) (tskV 3 5 0)) (2 * 2 + 5 + 2 * 2 + 3 * 2) + 1))) (2 * 2 + 5 + 2 * 2 + 3 * 1) (WU (peek (putI (List.replicate (Int.toNat (2 * 2 + 5 * 2 + 6)) 0) (2 * 2 + 5 + 2 * 2 + 3 * 1 + 1) (tskV 3 5 0)) (2 * 2 + 5 + 2 * 2 + 3 * 2) + 1))) (2 * 2 + 5 + 2 * 2 + 3 * 1 + 2)) 0 12)) 0 0 0 false 1 0)) (2 * 2 + 5 + 2 * 2 + 3 * 1 + 2) ∧ peek (putI (putI (putI (putI (List.replicate (Int.toNat (2 * 2 + 5 * 2 + 6)) 0) (2 * 2 + 5 + 2 * 2 + 3 * 1 + 1) (tskV 3 5 0)) (2 * 2 + 5 + 2 * 2 + 3 * 2) (WU (peek (putI (List.replicate (Int.toNat (2 * 2 + 5 * 2 + 6)) 0) (2 * 2 + 5 + 2 * 2 + 3 * 1 + 1) (tskV 3 5 0)) (2 * 2 + 5 + 2 * 2 + 3 * 2) + 1))) (2 * 2 + 5 + 2 * 2 + 3 * 1) (WU (peek (putI (List.replicate (Int.toNat (2 * 2 + 5 * 2 + 6)) 0) (2 * 2 + 5 + 2 * 2 + 3 * 1 + 1) (tskV 3 5 0)) (2 * 2 + 5 + 2 * 2 + 3 * 2) + 1))) (2 * 2 + 5 + 2 * 2 + 3 * 1 + 2) (dPutV (attI (cutI (peek (putI (putI (putI (List.replicate (Int.toNat (2 * 2 + 5 * 2 + 6)) 0) (2 * 2 + 5 + 2 * 2 + 3 * 1 + 1) (tskV 3 5 0)) (2 * 2 + 5 + 2 * 2 + 3 * 2) (WU (peek (putI (List.replicate (Int.toNat (2 * 2 + 5 * 2 + 6)) 0) (2 * 2 + 5 + 2 * 2 + 3 * 1 + 1) (tskV 3 5 0)) (2 * 2 + 5 + 2 * 2 + 3 * 2) + 1))) (2 * 2 + 5 + 2 * 2 + 3 * 1) (WU (peek (putI (List.replicate (Int.toNat (2 * 2 + 5 * 2 + 6)) 0) (2 * 2 + 5 + 2 * 2 + 3 * 1 + 1) (tskV 3 5 0)) (2 * 2 + 5 + 2 * 2 + 3 * 2) + 1))) (2 * 2 + 5 + 2 * 2 + 3 * 1 + 2)) 0 12)) 0 0 0 false 1 0)) (2 * 2 + 5 + 2 * 2 + 3 * 1 + 2) ≤ (18446744073709551615 : Int)) ∧ K (AVal.bool true) []) (by kernel_rfl) ?_))
  repeat refine ⟨by first | trivial | decide | omega, ?_⟩
  exact hK
noncomputable def E23 := E22.addS 42 awake14S awake14_ok
end Go.Sh

/- The layout's addresses, as the document has them; an answer, asked for. -/
namespace Go.Sh
open Go Go.Proofs
variable [Con]
def lLifeS : RSpec Unit := fun args h => match args, h with
  | [.agg [.int .i64 t, .int .i64 n], .int .i64 a], [] => some ((0 ≤ t ∧ t ≤ 100000) ∧ (0 ≤ n ∧ n ≤ 100000) ∧ (-1099511627776 ≤ a ∧ a ≤ 1099511627776), .int .i64 (n + 4 + a))
  | _, _ => none
theorem lLife_ok : Spec.ok E23.I Try.prog 102 lLifeS.spec := by
  intro args h o ho K hK
  unfold RSpec.spec at ho
  split at ho
  case h_2 => cases ho
  rename_i pp vv hv
  unfold lLifeS at hv
  split at hv
  case h_2 => cases hv
  rename_i t n a
  simp only [Option.some.injEq, Prod.mk.injEq] at hv
  obtain ⟨rfl, rfl⟩ := hv
  simp only [Option.some.injEq] at ho; subst ho
  obtain ⟨hp, hK⟩ := hK
  have hK : K (.int .i64 (n + 4 + a)) [] := hK
  refine CallOk.trim (callOk_of (E := E23) Try.checked.mixed (L := LL) (n := 10) (of_nf (q := K (AVal.int .i64 (W (W (n + 4) + a))) []) (by kernel_rfl) ?_))
  simp (disch := omega) only [W, W_in]
  refine cast (congrArg (fun z => K (AVal.int .i64 z) []) ?_) hK
  omega
def lSlotS : RSpec Unit := fun args h => match args, h with
  | [.agg [.int .i64 t, .int .i64 n], .int .i64 a, .int .i64 b], [] => some ((0 ≤ t ∧ t ≤ 100000) ∧ (0 ≤ n ∧ n ≤ 100000) ∧ (-1099511627776 ≤ a ∧ a ≤ 1099511627776) ∧ (-1099511627776 ≤ b ∧ b ≤ 1099511627776), .int .i64 (2 * n + 5 + 2 * a + b))
  | _, _ => none
theorem lSlot_ok : Spec.ok E23.I Try.prog 104 lSlotS.spec := by
  intro args h o ho K hK
  unfold RSpec.spec at ho
  split at ho
  case h_2 => cases ho
  rename_i pp vv hv
  unfold lSlotS at hv
  split at hv
  case h_2 => cases hv
  rename_i t n a b
  simp only [Option.some.injEq, Prod.mk.injEq] at hv
  obtain ⟨rfl, rfl⟩ := hv
  simp only [Option.some.injEq] at ho; subst ho
  obtain ⟨hp, hK⟩ := hK
  have hK : K (.int .i64 (2 * n + 5 + 2 * a + b)) [] := hK
  refine CallOk.trim (callOk_of (E := E23) Try.checked.mixed (L := LL) (n := 10) (of_nf (q := K (AVal.int .i64 (W (W (W (W (2 * n) + 5) + W (2 * a)) + b))) []) (by kernel_rfl) ?_))
  simp (disch := omega) only [W, W_in]
  refine cast (congrArg (fun z => K (AVal.int .i64 z) []) ?_) hK
  omega
def lTicketS : RSpec Unit := fun args h => match args, h with
  | [.agg [.int .i64 t, .int .i64 n], .int .i64 a], [] => some ((0 ≤ t ∧ t ≤ 100000) ∧ (0 ≤ n ∧ n ≤ 100000) ∧ (-1099511627776 ≤ a ∧ a ≤ 1099511627776), .int .i64 (2 * n + 5 + 2 * t + 3 * a))
  | _, _ => none
theorem lTicket_ok : Spec.ok E23.I Try.prog 96 lTicketS.spec := by
  intro args h o ho K hK
  unfold RSpec.spec at ho
  split at ho
  case h_2 => cases ho
  rename_i pp vv hv
  unfold lTicketS at hv
  split at hv
  case h_2 => cases hv
  rename_i t n a
  simp only [Option.some.injEq, Prod.mk.injEq] at hv
  obtain ⟨rfl, rfl⟩ := hv
  simp only [Option.some.injEq] at ho; subst ho
  obtain ⟨hp, hK⟩ := hK
  have hK : K (.int .i64 (2 * n + 5 + 2 * t + 3 * a)) [] := hK
  refine CallOk.trim (callOk_of (E := E23) Try.checked.mixed (L := LL) (n := 10) (of_nf (q := K (AVal.int .i64 (W (W (W (W (2 * n) + 5) + W (2 * t)) + W (3 * a)))) []) (by kernel_rfl) ?_))
  simp (disch := omega) only [W, W_in]
  refine cast (congrArg (fun z => K (AVal.int .i64 z) []) ?_) hK
  omega
def lTaskS : RSpec Unit := fun args h => match args, h with
  | [.agg [.int .i64 t, .int .i64 n], .int .i64 a], [] => some ((0 ≤ t ∧ t ≤ 100000) ∧ (0 ≤ n ∧ n ≤ 100000) ∧ (-1099511627776 ≤ a ∧ a ≤ 1099511627776), .int .i64 (2 * n + 5 + 2 * t + 3 * a + 1))
  | _, _ => none
theorem lTask_ok : Spec.ok E23.I Try.prog 63 lTaskS.spec := by
  intro args h o ho K hK
  unfold RSpec.spec at ho
  split at ho
  case h_2 => cases ho
  rename_i pp vv hv
  unfold lTaskS at hv
  split at hv
  case h_2 => cases hv
  rename_i t n a
  simp only [Option.some.injEq, Prod.mk.injEq] at hv
  obtain ⟨rfl, rfl⟩ := hv
  simp only [Option.some.injEq] at ho; subst ho
  obtain ⟨hp, hK⟩ := hK
  have hK : K (.int .i64 (2 * n + 5 + 2 * t + 3 * a + 1)) [] := hK
  refine CallOk.trim (callOk_of (E := E23) Try.checked.mixed (L := LL) (n := 10) (of_nf (q := K (AVal.int .i64 (W (W (W (W (W (2 * n) + 5) + W (2 * t)) + W (3 * a)) + 1))) []) (by kernel_rfl) ?_))
  simp (disch := omega) only [W, W_in]
  refine cast (congrArg (fun z => K (AVal.int .i64 z) []) ?_) hK
  omega
def lDescS : RSpec Unit := fun args h => match args, h with
  | [.agg [.int .i64 t, .int .i64 n], .int .i64 a], [] => some ((0 ≤ t ∧ t ≤ 100000) ∧ (0 ≤ n ∧ n ≤ 100000) ∧ (-1099511627776 ≤ a ∧ a ≤ 1099511627776), .int .i64 (2 * n + 5 + 2 * t + 3 * a + 2))
  | _, _ => none
theorem lDesc_ok : Spec.ok E23.I Try.prog 58 lDescS.spec := by
  intro args h o ho K hK
  unfold RSpec.spec at ho
  split at ho
  case h_2 => cases ho
  rename_i pp vv hv
  unfold lDescS at hv
  split at hv
  case h_2 => cases hv
  rename_i t n a
  simp only [Option.some.injEq, Prod.mk.injEq] at hv
  obtain ⟨rfl, rfl⟩ := hv
  simp only [Option.some.injEq] at ho; subst ho
  obtain ⟨hp, hK⟩ := hK
  have hK : K (.int .i64 (2 * n + 5 + 2 * t + 3 * a + 2)) [] := hK
  refine CallOk.trim (callOk_of (E := E23) Try.checked.mixed (L := LL) (n := 10) (of_nf (q := K (AVal.int .i64 (W (W (W (W (W (2 * n) + 5) + W (2 * t)) + W (3 * a)) + 2))) []) (by kernel_rfl) ?_))
  simp (disch := omega) only [W, W_in]
  refine cast (congrArg (fun z => K (AVal.int .i64 z) []) ?_) hK
  omega
def lCounterS : RSpec Unit := fun args h => match args, h with
  | [.agg [.int .i64 t, .int .i64 n]], [] => some ((0 ≤ t ∧ t ≤ 100000) ∧ (0 ≤ n ∧ n ≤ 100000), .int .i64 (2 * n + 5 + 2 * t + 3 * t))
  | _, _ => none
theorem lCounter_ok : Spec.ok E23.I Try.prog 95 lCounterS.spec := by
  intro args h o ho K hK
  unfold RSpec.spec at ho
  split at ho
  case h_2 => cases ho
  rename_i pp vv hv
  unfold lCounterS at hv
  split at hv
  case h_2 => cases hv
  rename_i t n
  simp only [Option.some.injEq, Prod.mk.injEq] at hv
  obtain ⟨rfl, rfl⟩ := hv
  simp only [Option.some.injEq] at ho; subst ho
  obtain ⟨hp, hK⟩ := hK
  have hK : K (.int .i64 (2 * n + 5 + 2 * t + 3 * t)) [] := hK
  refine CallOk.trim (callOk_of (E := E23) Try.checked.mixed (L := LL) (n := 10) (of_nf (q := K (AVal.int .i64 (W (W (W (W (2 * n) + 5) + W (2 * t)) + W (3 * t)))) []) (by kernel_rfl) ?_))
  simp (disch := omega) only [W, W_in]
  refine cast (congrArg (fun z => K (AVal.int .i64 z) []) ?_) hK
  omega
noncomputable def E24 := (((((E23.addR 102 lLifeS lLife_ok).addR 104 lSlotS lSlot_ok).addR 96 lTicketS lTicket_ok).addR 63 lTaskS lTask_ok).addR 58 lDescS lDesc_ok).addR 95 lCounterS lCounter_ok
end Go.Sh

/- An answer's step. -/
namespace Go.Sh
open Go Go.Proofs
variable [Con]
def ansH (t n c : Int) (o : Bool) (v me : Int) (s : MS) : Heap Unit := [some (.cells [.int .i64 t, .int .i64 n, .int .i64 c, .bool o, .int .i64 v, .int .i64 me]), some (.cells [.int .i64 s.t, .int .i64 s.n, .slice 2 0 s.xs.length 1, .int .i64 s.c, .int .i64 s.k, .int .i64 s.a, .int .u64 s.o, .int .u64 s.w, .bool s.ok]), some (.ints (some .u64) s.xs)]
def memPat1 (h : Heap Unit) : Option (Nat × MS) := match h with
  | [some (.cells [.int .i64 t, .int .i64 n, .slice 2 0 len 1, .int .i64 c, .int .i64 k, .int .i64 a, .int .u64 o, .int .u64 w, .bool ok]), some (.ints (some .u64) xs)] => some (len, ⟨t, n, xs, c, k, a, o, w, ok⟩)
  | _ => none
theorem memPat1_eq {h : Heap Unit} {l : Nat} {s : MS} (e : memPat1 h = some (l, s)) (hl : l = s.xs.length) : h = [some (.cells [.int .i64 s.t, .int .i64 s.n, .slice 2 0 s.xs.length 1, .int .i64 s.c, .int .i64 s.k, .int .i64 s.a, .int .u64 s.o, .int .u64 s.w, .bool s.ok]), some (.ints (some .u64) s.xs)] := by
  unfold memPat1 at e
  split at e
  · simp only [Option.some.injEq, Prod.mk.injEq] at e
    obtain ⟨rfl, rfl⟩ := e
    simp only at hl; subst hl; rfl
  · cases e
/- OPQ -/
def descA (t n u : Int) : Int := 2 * n + 5 + 2 * t + 3 * u + 2
def ansS : Spec Unit := fun args h => match args, h with
  | [.ptr 0 0, .ptr 1 0], some (.cells [.int .i64 t, .int .i64 n, .int .i64 c, .bool o, .int .i64 v, .int .i64 me]) :: h' => match memPat1 h' with
    | some (l, s) => some (.pre (l = s.xs.length ∧ (0 ≤ s.c ∧ s.c ≤ 4611686018427387904) ∧ (0 ≤ t ∧ t ≤ 100000) ∧ (0 ≤ n ∧ n ≤ 100000) ∧ (0 ≤ me ∧ me ≤ 100000)) (.ret (.bool true) (ansH t n (resC (cutI (peek s.xs (descA t n me)) 39 9) (cutI (peek s.xs (descA t n me)) 49 3)) (resO (cutI (peek s.xs (descA t n me)) 39 9) (cutI (peek s.xs (descA t n me)) 49 3) (ieq (cutI (peek s.xs (descA t n me)) 48 1) 1)) (resX (cutI (peek s.xs (descA t n me)) 39 9) (cutI (peek s.xs (descA t n me)) 49 3) (cutI (peek s.xs (descA t n me)) 52 10)) me (s.loadd (descA t n me)))))
    | none => none
  | _, _ => none
theorem ans_ok : Spec.ok E24.I Try.prog 55 ansS := by
  intro args h o' ho K hK
  unfold ansS at ho
  split at ho
  case h_2 => cases ho
  rename_i t n c o v me h'
  split at ho
  case h_2 => cases ho
  rename_i l s hm
  simp only [Option.some.injEq] at ho; subst ho
  obtain ⟨⟨hl, hc, ht, hn, hme⟩, hK⟩ := hK
  have hh := memPat1_eq hm hl
  subst hh
  refine CallOk.trim (callOk_of (E := E24) Try.checked.mixed (L := LL) (n := 10) (of_nf (q := ((((0 : Int) ≤ t ∧ t ≤ (100000 : Int)) ∧ ((0 : Int) ≤ n ∧ n ≤ (100000 : Int)) ∧ (-1099511627776 : Int) ≤ me ∧ me ≤ (1099511627776 : Int)) ∧ True) ∧ ((List.length s.3 = List.length s.3 ∧ (0 : Int) ≤ s.4 ∧ s.4 ≤ (4611686018427387904 : Int)) ∧ True) ∧ True ∧ True ∧ K (AVal.bool true) [some (Entry.cells [AVal.int .i64 t, AVal.int .i64 n, AVal.int .i64 (resC (cutI (peek s.3 (2 * n + 5 + 2 * t + 3 * me + 2)) 39 9) (cutI (peek s.3 (2 * n + 5 + 2 * t + 3 * me + 2)) 49 3)), AVal.bool (resO (cutI (peek s.3 (2 * n + 5 + 2 * t + 3 * me + 2)) 39 9) (cutI (peek s.3 (2 * n + 5 + 2 * t + 3 * me + 2)) 49 3) (ieq (cutI (peek s.3 (2 * n + 5 + 2 * t + 3 * me + 2)) 48 1) 1)), AVal.int .i64 (resX (cutI (peek s.3 (2 * n + 5 + 2 * t + 3 * me + 2)) 39 9) (cutI (peek s.3 (2 * n + 5 + 2 * t + 3 * me + 2)) 49 3) (cutI (peek s.3 (2 * n + 5 + 2 * t + 3 * me + 2)) 52 10)), AVal.int .i64 me]), some (Entry.cells [AVal.int .i64 s.1, AVal.int .i64 s.2, AVal.slice 2 0 (List.length s.3) 1, AVal.int .i64 (s.4 + 1), AVal.int .i64 1, AVal.int .i64 (2 * n + 5 + 2 * t + 3 * me + 2), AVal.int .u64 (peek s.3 (2 * n + 5 + 2 * t + 3 * me + 2)), AVal.int .u64 (peek s.3 (2 * n + 5 + 2 * t + 3 * me + 2)), AVal.bool (inB s.3 (2 * n + 5 + 2 * t + 3 * me + 2))]), some (Entry.ints (some .u64) s.3)]) (by kernel_rfl) ?_))
  exact ⟨⟨by omega, trivial⟩, ⟨⟨rfl, hc⟩, trivial⟩, trivial, trivial, hK⟩
noncomputable def E26 := E24.addS 55 ansS ans_ok
end Go.Sh

/- An announcement, run. -/
namespace Go.Sh
open Go Go.Proofs
variable [Con]
/- OPQ -/
def annNo (t n me bits : Int) (s : MS) : Int := WU (peek (s.stored (2 * n + 5 + 2 * t + 3 * me + 1) bits).xs (2 * n + 5 + 2 * t + 3 * t) + 1)
def annW3 (t n me bits : Int) (s : MS) : MS := ((s.stored (2 * n + 5 + 2 * t + 3 * me + 1) bits).added (2 * n + 5 + 2 * t + 3 * t) 1).stored (2 * n + 5 + 2 * t + 3 * me) (WU (peek (s.stored (2 * n + 5 + 2 * t + 3 * me + 1) bits).xs (2 * n + 5 + 2 * t + 3 * t) + 1))
/- OPQ -/
def annF (t n me bits : Int) (s : MS) : Int := peek (annW3 t n me bits s).xs (2 * n + 5 + 2 * t + 3 * me + 2)
/- OPQ -/
def nextW (f : Int) : Int := bif dOk (attI (cutI f 0 12)) 0 0 0 1 0 then dPutV (attI (cutI f 0 12)) 0 0 0 false 1 0 else 0
instance : Inhabited MS := ⟨⟨0, 0, [], 0, 0, 0, 0, 0, false⟩⟩
/- OPQ -/
def annRun (t n me bits : Int) (s : MS) : MS := ((annW3 t n me bits s).loadd (2 * n + 5 + 2 * t + 3 * me + 2)).stored (2 * n + 5 + 2 * t + 3 * me + 2) (nextW (annF t n me bits s))
theorem cut_att (x : Int) : 0 ≤ cutI x 0 12 ∧ cutI x 0 12 ≤ 1000000 := by
  have h : 0 ≤ cutI x 0 12 ∧ cutI x 0 12 < 4096 := cutI_in (x := x) (a := 0) (w := 12)
  omega
def annTail (t n me bits no at' fo : Int) (w : Bool) : Heap Unit := [some (.cells [.iface 93 (.ptr 3 0)]), some (.cells [.int .i64 t, .int .i64 n, .int .u64 no, .int .i64 me, .int .i64 at', .int .u64 bits, .bool w, .int .u64 fo])]
def runS : Spec Unit := fun args h => match args, h with
  | [.ptr 0 0, .int .i64 9, .slice 2 0 1 1], [e1, e2, some (.cells [.iface 93 (.ptr 3 0)]), some (.cells [.int .i64 t, .int .i64 n, .int .u64 no, .int .i64 me, .int .i64 0, .int .u64 bits, .bool w, .int .u64 fo])] => match memPat [e1, e2] with
    | some (l, s) => some (.pre (l = s.xs.length ∧ w = false ∧ (0 ≤ s.c ∧ s.c ≤ 1000000) ∧ (0 ≤ t ∧ t ≤ 100000) ∧ (0 ≤ n ∧ n ≤ 100000) ∧ (0 ≤ me ∧ me ≤ 100000)) (.ret (.tup [.int .i64 5, .bool true]) (memH (annRun t n me bits s) ++ annTail t n me bits (annNo t n me bits s) 5 (annF t n me bits s) false)))
    | none => none
  | _, _ => none
theorem run_ok : Spec.ok E26.I Try.prog 21 runS := by
  intro args h o ho K hK
  unfold runS at ho
  split at ho
  case h_2 => cases ho
  rename_i e1 e2 t n no me bits w fo
  split at ho
  case h_2 => cases ho
  rename_i l s hm
  simp only [Option.some.injEq] at ho; subst ho
  obtain ⟨⟨hl, hw, hc, ht, hn, hme⟩, hK⟩ := hK
  have hh := memPat_eq hm hl
  subst hw
  unfold memH at hh
  simp only [List.cons.injEq, and_true] at hh
  obtain ⟨rfl, rfl⟩ := hh
  refine CallOk.trim (callOk_of (E := E26) Try.checked.mixed (L := LL) (n := 10) (of_nf (q := ((0 : Int) ≤ (0 : Int) ∧ (0 : Int) < (↑1 : Int)) ∧ ((((0 : Int) ≤ t ∧ t ≤ (100000 : Int)) ∧ ((0 : Int) ≤ n ∧ n ≤ (100000 : Int)) ∧ (-1099511627776 : Int) ≤ me ∧ me ≤ (1099511627776 : Int)) ∧ True) ∧ ((List.length s.3 = List.length s.3 ∧ (0 : Int) ≤ s.4 ∧ s.4 ≤ (4611686018427387904 : Int)) ∧ True) ∧ (((0 : Int) ≤ t ∧ t ≤ (100000 : Int)) ∧ (0 : Int) ≤ n ∧ n ≤ (100000 : Int)) ∧ (List.length (putI s.3 (2 * n + 5 + 2 * t + 3 * me + 1) bits) = List.length (putI s.3 (2 * n + 5 + 2 * t + 3 * me + 1) bits) ∧ (0 : Int) ≤ s.4 + 1 ∧ s.4 + (1 : Int) ≤ (4611686018427387904 : Int)) ∧ ((((0 : Int) ≤ t ∧ t ≤ (100000 : Int)) ∧ ((0 : Int) ≤ n ∧ n ≤ (100000 : Int)) ∧ (-1099511627776 : Int) ≤ me ∧ me ≤ (1099511627776 : Int)) ∧ True) ∧ ((List.length (putI (putI s.3 (2 * n + 5 + 2 * t + 3 * me + 1) bits) (2 * n + 5 + 2 * t + 3 * t) (WU (peek (putI s.3 (2 * n + 5 + 2 * t + 3 * me + 1) bits) (2 * n + 5 + 2 * t + 3 * t) + 1))) = List.length (putI (putI s.3 (2 * n + 5 + 2 * t + 3 * me + 1) bits) (2 * n + 5 + 2 * t + 3 * t) (WU (peek (putI s.3 (2 * n + 5 + 2 * t + 3 * me + 1) bits) (2 * n + 5 + 2 * t + 3 * t) + 1))) ∧ (0 : Int) ≤ s.4 + 1 + 1 ∧ s.4 + 1 + (1 : Int) ≤ (4611686018427387904 : Int)) ∧ True) ∧ ((((0 : Int) ≤ t ∧ t ≤ (100000 : Int)) ∧ ((0 : Int) ≤ n ∧ n ≤ (100000 : Int)) ∧ (-1099511627776 : Int) ≤ me ∧ me ≤ (1099511627776 : Int)) ∧ True) ∧ ((List.length (putI (putI (putI s.3 (2 * n + 5 + 2 * t + 3 * me + 1) bits) (2 * n + 5 + 2 * t + 3 * t) (WU (peek (putI s.3 (2 * n + 5 + 2 * t + 3 * me + 1) bits) (2 * n + 5 + 2 * t + 3 * t) + 1))) (2 * n + 5 + 2 * t + 3 * me) (WU (peek (putI s.3 (2 * n + 5 + 2 * t + 3 * me + 1) bits) (2 * n + 5 + 2 * t + 3 * t) + 1))) = List.length (putI (putI (putI s.3 (2 * n + 5 + 2 * t + 3 * me + 1) bits) (2 * n + 5 + 2 * t + 3 * t) (WU (peek (putI s.3 (2 * n + 5 + 2 * t + 3 * me + 1) bits) (2 * n + 5 + 2 * t + 3 * t) + 1))) (2 * n + 5 + 2 * t + 3 * me) (WU (peek (putI s.3 (2 * n + 5 + 2 * t + 3 * me + 1) bits) (2 * n + 5 + 2 * t + 3 * t) + 1))) ∧ (0 : Int) ≤ s.4 + 1 + 1 + 1 ∧ s.4 + 1 + 1 + (1 : Int) ≤ (4611686018427387904 : Int)) ∧ True) ∧ True ∧ ((0 : Int) ≤ cutI (peek (putI (putI (putI s.3 (2 * n + 5 + 2 * t + 3 * me + 1) bits) (2 * n + 5 + 2 * t + 3 * t) (WU (peek (putI s.3 (2 * n + 5 + 2 * t + 3 * me + 1) bits) (2 * n + 5 + 2 * t + 3 * t) + 1))) (2 * n + 5 + 2 * t + 3 * me) (WU (peek (putI s.3 (2 * n + 5 + 2 * t + 3 * me + 1) bits) (2 * n + 5 + 2 * t + 3 * t) + 1))) (2 * n + 5 + 2 * t + 3 * me + 2)) 0 12 ∧ cutI (peek (putI (putI (putI s.3 (2 * n + 5 + 2 * t + 3 * me + 1) bits) (2 * n + 5 + 2 * t + 3 * t) (WU (peek (putI s.3 (2 * n + 5 + 2 * t + 3 * me + 1) bits) (2 * n + 5 + 2 * t + 3 * t) + 1))) (2 * n + 5 + 2 * t + 3 * me) (WU (peek (putI s.3 (2 * n + 5 + 2 * t + 3 * me + 1) bits) (2 * n + 5 + 2 * t + 3 * t) + 1))) (2 * n + 5 + 2 * t + 3 * me + 2)) 0 (12 : Int) ≤ (1000000 : Int)) ∧ True ∧ ((((0 : Int) ≤ t ∧ t ≤ (100000 : Int)) ∧ ((0 : Int) ≤ n ∧ n ≤ (100000 : Int)) ∧ (-1099511627776 : Int) ≤ me ∧ me ≤ (1099511627776 : Int)) ∧ True) ∧ ((List.length (putI (putI (putI s.3 (2 * n + 5 + 2 * t + 3 * me + 1) bits) (2 * n + 5 + 2 * t + 3 * t) (WU (peek (putI s.3 (2 * n + 5 + 2 * t + 3 * me + 1) bits) (2 * n + 5 + 2 * t + 3 * t) + 1))) (2 * n + 5 + 2 * t + 3 * me) (WU (peek (putI s.3 (2 * n + 5 + 2 * t + 3 * me + 1) bits) (2 * n + 5 + 2 * t + 3 * t) + 1))) = List.length (putI (putI (putI s.3 (2 * n + 5 + 2 * t + 3 * me + 1) bits) (2 * n + 5 + 2 * t + 3 * t) (WU (peek (putI s.3 (2 * n + 5 + 2 * t + 3 * me + 1) bits) (2 * n + 5 + 2 * t + 3 * t) + 1))) (2 * n + 5 + 2 * t + 3 * me) (WU (peek (putI s.3 (2 * n + 5 + 2 * t + 3 * me + 1) bits) (2 * n + 5 + 2 * t + 3 * t) + 1))) ∧ (0 : Int) ≤ s.4 + 1 + 1 + 1 + 1 ∧ s.4 + 1 + 1 + 1 + (1 : Int) ≤ (4611686018427387904 : Int)) ∧ True) ∧ K (AVal.tup [AVal.int .i64 (W (W (W (W (W (0 + 1) + 1) + 1) + 1) + 1)), AVal.bool true]) [some (Entry.cells [AVal.int .i64 s.1, AVal.int .i64 s.2, AVal.slice 1 0 (List.length (putI (putI (putI (putI s.3 (2 * n + 5 + 2 * t + 3 * me + 1) bits) (2 * n + 5 + 2 * t + 3 * t) (WU (peek (putI s.3 (2 * n + 5 + 2 * t + 3 * me + 1) bits) (2 * n + 5 + 2 * t + 3 * t) + 1))) (2 * n + 5 + 2 * t + 3 * me) (WU (peek (putI s.3 (2 * n + 5 + 2 * t + 3 * me + 1) bits) (2 * n + 5 + 2 * t + 3 * t) + 1))) (2 * n + 5 + 2 * t + 3 * me + 2) (bif dOk (attI (cutI (peek (putI (putI (putI s.3 (2 * n + 5 + 2 * t + 3 * me + 1) bits) (2 * n + 5 + 2 * t + 3 * t) (WU (peek (putI s.3 (2 * n + 5 + 2 * t + 3 * me + 1) bits) (2 * n + 5 + 2 * t + 3 * t) + 1))) (2 * n + 5 + 2 * t + 3 * me) (WU (peek (putI s.3 (2 * n + 5 + 2 * t + 3 * me + 1) bits) (2 * n + 5 + 2 * t + 3 * t) + 1))) (2 * n + 5 + 2 * t + 3 * me + 2)) 0 12)) 0 0 0 1 0 then dPutV (attI (cutI (peek (putI (putI (putI s.3 (2 * n + 5 + 2 * t + 3 * me + 1) bits) (2 * n + 5 + 2 * t + 3 * t) (WU (peek (putI s.3 (2 * n + 5 + 2 * t + 3 * me + 1) bits) (2 * n + 5 + 2 * t + 3 * t) + 1))) (2 * n + 5 + 2 * t + 3 * me) (WU (peek (putI s.3 (2 * n + 5 + 2 * t + 3 * me + 1) bits) (2 * n + 5 + 2 * t + 3 * t) + 1))) (2 * n + 5 + 2 * t + 3 * me + 2)) 0 12)) 0 0 0 false 1 0 else 0))) 1, AVal.int .i64 (s.4 + 1 + 1 + 1 + 1 + 1), AVal.int .i64 2, AVal.int .i64 (2 * n + 5 + 2 * t + 3 * me + 2), AVal.int .u64 (peek (putI (putI (putI s.3 (2 * n + 5 + 2 * t + 3 * me + 1) bits) (2 * n + 5 + 2 * t + 3 * t) (WU (peek (putI s.3 (2 * n + 5 + 2 * t + 3 * me + 1) bits) (2 * n + 5 + 2 * t + 3 * t) + 1))) (2 * n + 5 + 2 * t + 3 * me) (WU (peek (putI s.3 (2 * n + 5 + 2 * t + 3 * me + 1) bits) (2 * n + 5 + 2 * t + 3 * t) + 1))) (2 * n + 5 + 2 * t + 3 * me + 2)), AVal.int .u64 (bif inB (putI (putI (putI s.3 (2 * n + 5 + 2 * t + 3 * me + 1) bits) (2 * n + 5 + 2 * t + 3 * t) (WU (peek (putI s.3 (2 * n + 5 + 2 * t + 3 * me + 1) bits) (2 * n + 5 + 2 * t + 3 * t) + 1))) (2 * n + 5 + 2 * t + 3 * me) (WU (peek (putI s.3 (2 * n + 5 + 2 * t + 3 * me + 1) bits) (2 * n + 5 + 2 * t + 3 * t) + 1))) (2 * n + 5 + 2 * t + 3 * me + 2) then bif dOk (attI (cutI (peek (putI (putI (putI s.3 (2 * n + 5 + 2 * t + 3 * me + 1) bits) (2 * n + 5 + 2 * t + 3 * t) (WU (peek (putI s.3 (2 * n + 5 + 2 * t + 3 * me + 1) bits) (2 * n + 5 + 2 * t + 3 * t) + 1))) (2 * n + 5 + 2 * t + 3 * me) (WU (peek (putI s.3 (2 * n + 5 + 2 * t + 3 * me + 1) bits) (2 * n + 5 + 2 * t + 3 * t) + 1))) (2 * n + 5 + 2 * t + 3 * me + 2)) 0 12)) 0 0 0 1 0 then dPutV (attI (cutI (peek (putI (putI (putI s.3 (2 * n + 5 + 2 * t + 3 * me + 1) bits) (2 * n + 5 + 2 * t + 3 * t) (WU (peek (putI s.3 (2 * n + 5 + 2 * t + 3 * me + 1) bits) (2 * n + 5 + 2 * t + 3 * t) + 1))) (2 * n + 5 + 2 * t + 3 * me) (WU (peek (putI s.3 (2 * n + 5 + 2 * t + 3 * me + 1) bits) (2 * n + 5 + 2 * t + 3 * t) + 1))) (2 * n + 5 + 2 * t + 3 * me + 2)) 0 12)) 0 0 0 false 1 0 else 0 else 0), AVal.bool (inB (putI (putI (putI s.3 (2 * n + 5 + 2 * t + 3 * me + 1) bits) (2 * n + 5 + 2 * t + 3 * t) (WU (peek (putI s.3 (2 * n + 5 + 2 * t + 3 * me + 1) bits) (2 * n + 5 + 2 * t + 3 * t) + 1))) (2 * n + 5 + 2 * t + 3 * me) (WU (peek (putI s.3 (2 * n + 5 + 2 * t + 3 * me + 1) bits) (2 * n + 5 + 2 * t + 3 * t) + 1))) (2 * n + 5 + 2 * t + 3 * me + 2))]), some (Entry.ints (some .u64) (putI (putI (putI (putI s.3 (2 * n + 5 + 2 * t + 3 * me + 1) bits) (2 * n + 5 + 2 * t + 3 * t) (WU (peek (putI s.3 (2 * n + 5 + 2 * t + 3 * me + 1) bits) (2 * n + 5 + 2 * t + 3 * t) + 1))) (2 * n + 5 + 2 * t + 3 * me) (WU (peek (putI s.3 (2 * n + 5 + 2 * t + 3 * me + 1) bits) (2 * n + 5 + 2 * t + 3 * t) + 1))) (2 * n + 5 + 2 * t + 3 * me + 2) (bif dOk (attI (cutI (peek (putI (putI (putI s.3 (2 * n + 5 + 2 * t + 3 * me + 1) bits) (2 * n + 5 + 2 * t + 3 * t) (WU (peek (putI s.3 (2 * n + 5 + 2 * t + 3 * me + 1) bits) (2 * n + 5 + 2 * t + 3 * t) + 1))) (2 * n + 5 + 2 * t + 3 * me) (WU (peek (putI s.3 (2 * n + 5 + 2 * t + 3 * me + 1) bits) (2 * n + 5 + 2 * t + 3 * t) + 1))) (2 * n + 5 + 2 * t + 3 * me + 2)) 0 12)) 0 0 0 1 0 then dPutV (attI (cutI (peek (putI (putI (putI s.3 (2 * n + 5 + 2 * t + 3 * me + 1) bits) (2 * n + 5 + 2 * t + 3 * t) (WU (peek (putI s.3 (2 * n + 5 + 2 * t + 3 * me + 1) bits) (2 * n + 5 + 2 * t + 3 * t) + 1))) (2 * n + 5 + 2 * t + 3 * me) (WU (peek (putI s.3 (2 * n + 5 + 2 * t + 3 * me + 1) bits) (2 * n + 5 + 2 * t + 3 * t) + 1))) (2 * n + 5 + 2 * t + 3 * me + 2)) 0 12)) 0 0 0 false 1 0 else 0))), some (Entry.cells [AVal.iface 93 (AVal.ptr 3 0)]), some (Entry.cells [AVal.int .i64 t, AVal.int .i64 n, AVal.int .u64 (WU (peek (putI s.3 (2 * n + 5 + 2 * t + 3 * me + 1) bits) (2 * n + 5 + 2 * t + 3 * t) + 1)), AVal.int .i64 me, AVal.int .i64 (W (W (W (W (W (0 + 1) + 1) + 1) + 1) + 1)), AVal.int .u64 bits, AVal.bool false, AVal.int .u64 (peek (putI (putI (putI s.3 (2 * n + 5 + 2 * t + 3 * me + 1) bits) (2 * n + 5 + 2 * t + 3 * t) (WU (peek (putI s.3 (2 * n + 5 + 2 * t + 3 * me + 1) bits) (2 * n + 5 + 2 * t + 3 * t) + 1))) (2 * n + 5 + 2 * t + 3 * me) (WU (peek (putI s.3 (2 * n + 5 + 2 * t + 3 * me + 1) bits) (2 * n + 5 + 2 * t + 3 * t) + 1))) (2 * n + 5 + 2 * t + 3 * me + 2))])]) (by kernel_rfl) ?_))
  repeat first
    | refine ⟨by omega, ?_⟩
    | refine ⟨⟨by omega, trivial⟩, ?_⟩
    | refine ⟨⟨rfl, by omega⟩, ?_⟩
    | refine ⟨⟨⟨rfl, by omega⟩, trivial⟩, ?_⟩
    | refine ⟨trivial, ?_⟩
    | refine ⟨cut_att _, ?_⟩
  exact hK
noncomputable def E27 := E26.addS 21 runS run_ok
end Go.Sh

/- A descriptor's parts; memory behind an announcement. -/
namespace Go.Sh
open Go Go.Proofs
variable [Con]
theorem dcut_a {a b c d e f : Int} {m : Bool} (h : dOk a b c d e f = true) : cutI (dPutV a b c d m e f) 0 12 = a := by
  have h := dOk_true.1 h
  have hm : 0 ≤ bitI m ∧ bitI m ≤ 1 := by cases m <;> decide
  unfold cutI dPutV
  generalize bitI m = mm at hm ⊢
  show _ / 1 % 4096 = _
  omega
theorem dcut_b {a b c d e f : Int} {m : Bool} (h : dOk a b c d e f = true) : cutI (dPutV a b c d m e f) 12 9 = b := by
  have h := dOk_true.1 h
  have hm : 0 ≤ bitI m ∧ bitI m ≤ 1 := by cases m <;> decide
  unfold cutI dPutV
  generalize bitI m = mm at hm ⊢
  show _ / 4096 % 512 = _
  omega
theorem dcut_c {a b c d e f : Int} {m : Bool} (h : dOk a b c d e f = true) : cutI (dPutV a b c d m e f) 21 18 = c := by
  have h := dOk_true.1 h
  have hm : 0 ≤ bitI m ∧ bitI m ≤ 1 := by cases m <;> decide
  unfold cutI dPutV
  generalize bitI m = mm at hm ⊢
  show _ / 2097152 % 262144 = _
  omega
theorem dcut_d {a b c d e f : Int} {m : Bool} (h : dOk a b c d e f = true) : cutI (dPutV a b c d m e f) 39 9 = d := by
  have h := dOk_true.1 h
  have hm : 0 ≤ bitI m ∧ bitI m ≤ 1 := by cases m <;> decide
  unfold cutI dPutV
  generalize bitI m = mm at hm ⊢
  show _ / 549755813888 % 512 = _
  omega
theorem dcut_e {a b c d e f : Int} {m : Bool} (h : dOk a b c d e f = true) : cutI (dPutV a b c d m e f) 49 3 = e := by
  have h := dOk_true.1 h
  have hm : 0 ≤ bitI m ∧ bitI m ≤ 1 := by cases m <;> decide
  unfold cutI dPutV
  generalize bitI m = mm at hm ⊢
  show _ / 562949953421312 % 8 = _
  omega
theorem dcut_f {a b c d e f : Int} {m : Bool} (h : dOk a b c d e f = true) : cutI (dPutV a b c d m e f) 52 10 = f := by
  have h := dOk_true.1 h
  have hm : 0 ≤ bitI m ∧ bitI m ≤ 1 := by cases m <;> decide
  unfold cutI dPutV
  generalize bitI m = mm at hm ⊢
  show _ / 4503599627370496 % 1024 = _
  omega
theorem dcut_m {a b c d e f : Int} {m : Bool} (h : dOk a b c d e f = true) : cutI (dPutV a b c d m e f) 48 1 = bitI m := by
  have h := dOk_true.1 h
  have hm : 0 ≤ bitI m ∧ bitI m ≤ 1 := by cases m <;> decide
  unfold cutI dPutV
  generalize bitI m = mm at hm ⊢
  show _ / 281474976710656 % 2 = _
  omega
theorem dPutV_in {a b c d e f : Int} {m : Bool} (h : dOk a b c d e f = true) : 0 ≤ dPutV a b c d m e f ∧ dPutV a b c d m e f ≤ 18446744073709551615 := by
  have h := dOk_true.1 h
  have hm : 0 ≤ bitI m ∧ bitI m ≤ 1 := by cases m <;> decide
  unfold dPutV
  generalize bitI m = mm at hm ⊢
  omega
theorem peek_putI {xs : List Int} {a b x : Int} : peek (putI xs a x) b = if a = b ∧ 0 ≤ a ∧ a < xs.length then x else peek xs b := by
  unfold putI
  split
  · rename_i h
    unfold peek
    simp only [List.length_set]
    by_cases hb : 0 ≤ b ∧ b < xs.length
    · rw [if_pos hb, if_pos hb]
      have hlt : b.toNat < xs.length := by omega
      rw [List.getD_eq_getElem?_getD, List.getElem?_set, List.getD_eq_getElem?_getD]
      by_cases hab : a = b
      · subst hab
        simp [hlt, h]
      · rw [if_neg (by omega), if_neg (by omega)]
    · rw [if_neg hb, if_neg hb, if_neg (by omega)]
  · rename_i h
    rw [if_neg (by omega)]
theorem peek_putI_eq {xs : List Int} {a x : Int} (h : 0 ≤ a ∧ a < xs.length) : peek (putI xs a x) a = x := by rw [peek_putI, if_pos ⟨rfl, h⟩]
theorem peek_putI_ne {xs : List Int} {a b x : Int} (h : a ≠ b) : peek (putI xs a x) b = peek xs b := by rw [peek_putI, if_neg (fun c => h c.1)]
theorem annRun_xs (t n me b : Int) (s : MS) : (annRun t n me b s).xs = putI (annW3 t n me b s).xs (2 * n + 5 + 2 * t + 3 * me + 2) (nextW (annF t n me b s)) := rfl
theorem annW3_xs (t n me b : Int) (s : MS) : (annW3 t n me b s).xs = putI (putI (putI s.xs (2 * n + 5 + 2 * t + 3 * me + 1) b) (2 * n + 5 + 2 * t + 3 * t) (WU (peek (putI s.xs (2 * n + 5 + 2 * t + 3 * me + 1) b) (2 * n + 5 + 2 * t + 3 * t) + 1))) (2 * n + 5 + 2 * t + 3 * me) (WU (peek (putI s.xs (2 * n + 5 + 2 * t + 3 * me + 1) b) (2 * n + 5 + 2 * t + 3 * t) + 1)) := rfl
theorem annF_eq {t n me b : Int} {s : MS} (h : 0 ≤ me ∧ me < t) : annF t n me b s = peek s.xs (2 * n + 5 + 2 * t + 3 * me + 2) := by
  unfold annF
  rw [annW3_xs, peek_putI_ne (by omega), peek_putI_ne (by omega), peek_putI_ne (by omega)]
theorem annRun_peek (b : Int) (xs : List Int) (c k a o w : Int) (ok : Bool) (h : xs.length = 25) : peek (annRun 3 2 1 b ⟨3, 2, xs, c, k, a, o, w, ok⟩).xs (descA 3 2 1) = nextW (peek xs 20) := by
  have hd : descA 3 2 1 = 2 * 2 + 5 + 2 * 3 + 3 * 1 + 2 := rfl
  rw [hd, annRun_xs, peek_putI_eq (by rw [annW3_xs]; simp only [putI_length]; omega), annF_eq (by omega)]
  exact congrArg (fun z => nextW (peek xs z)) (by decide)
theorem annRun_len (t n me b : Int) (s : MS) : (annRun t n me b s).xs.length = s.xs.length := by
  rw [annRun_xs, annW3_xs]; simp only [putI_length]
theorem annRun_c (t n me b : Int) (s : MS) : (annRun t n me b s).c = s.c + 1 + 1 + 1 + 1 + 1 := rfl
theorem attI_in (a : Int) : 0 ≤ attI a ∧ attI a < 4096 := by unfold attI; omega
theorem nextW_eq {f : Int} (h : 0 ≤ cutI f 0 12 ∧ cutI f 0 12 < 4096) : nextW f = dPutV (attI (cutI f 0 12)) 0 0 0 false 1 0 := by
  unfold nextW
  have := attI_in (cutI f 0 12)
  rw [dOk_true.2 (by omega)]; rfl
theorem eqv_b (b : Bool) : (bif b then b else !b) = true := by cases b <;> rfl
theorem pnd321 (X : List Int) : pndB X 3 2 1 = pendB (cutI (peek X 20) 49 3) := by
  unfold pndB
  have h : (2 * 2 + 5 + 2 * 3 + 3 * 1 + 2 : Int) = 20 := by decide
  rw [h]
  rfl
theorem ieq_bit (b : Bool) : ieq (bitI b) 1 = b := by cases b <;> rfl
end Go.Sh

/- An announcement, watched. -/
namespace Go.Sh
open Go Go.Proofs
variable [Con]
structure AX where
  i : Nat
  s : MS
  no : Int
  fo : Int
  A : List (List Int)
def annWH (t n me bits : Int) (w : Bool) (x : AX) : Heap Unit := [some (.cells [.int .i64 x.s.t, .int .i64 x.s.n, .slice 1 0 x.s.xs.length 1, .int .i64 x.s.c, .int .i64 x.s.k, .int .i64 x.s.a, .int .u64 x.s.o, .int .u64 x.s.w, .bool x.s.ok]), some (.ints (some .u64) x.s.xs), some (.cells [.int .i64 t, .int .i64 n, .int .u64 x.no, .int .i64 me, .int .i64 (x.i : Int), .int .u64 bits, .bool w, .int .u64 x.fo])]
def annTH (A : List (List Int)) : Heap Unit := [some (.cells [.tslice 4 0 A.length 5, .int .i64 0, .bool false, .bool false]), some (.tab [some .i64, some .i64, some .u64, some .u64, none] A)]
def rowsA (t n me bits o0 o1 o2 o3 : Int) : List (List Int) := [[2, 2 * n + 5 + 2 * t + 3 * me + 1, o0, bits, 1], [4, 2 * n + 5 + 2 * t + 3 * t, o1, WU (o1 + 1), 1], [2, 2 * n + 5 + 2 * t + 3 * me, o2, WU (o1 + 1), 1], [1, 2 * n + 5 + 2 * t + 3 * me + 2, o3, o3, 1]]
theorem rowsA_le (k : Nat) (t n me bits o0 o1 o2 o3 : Int) : (List.take k (rowsA t n me bits o0 o1 o2 o3)).length + 1 ≤ 4294967296 := by
  rw [List.length_take]
  have : (rowsA t n me bits o0 o1 o2 o3).length = 4 := rfl
  omega
structure okAX (t n me bits : Int) (w : Bool) (x : AX) : Prop where
  hi : x.i ≤ 4
  hc : 0 ≤ x.s.c ∧ x.s.c ≤ 2 * x.i
  hl : x.s.xs.length = (2 * n + 5 * t + 6).toNat
  hw : okW x.s.xs
  h0 : w = true → x.i = 0
  hn : x.i < 2 → x.no = 0
  hA : ∃ o0 o1 o2 o3 : Int, (0 ≤ o3 ∧ o3 ≤ 18446744073709551615) ∧ x.A = List.take x.i (rowsA t n me bits o0 o1 o2 o3) ∧ (2 ≤ x.i → x.no = WU (o1 + 1)) ∧ (4 ≤ x.i → x.fo = o3)
structure doneAX (t n me bits : Int) (w : Bool) (x : AX) : Prop where
  h0 : w = true → x.no = 0 ∧ ∃ o b : Int, x.A = [[1, 0, o, o, b]]
  h1 : w = false → ∃ o0 o1 o2 o3 o4 : Int, (0 ≤ o3 ∧ o3 ≤ 18446744073709551615) ∧ x.A = rowsA t n me bits o0 o1 o2 o3 ++ [[2, 2 * n + 5 + 2 * t + 3 * me + 2, o4, nextW o3, 1]] ∧ x.no = WU (o1 + 1)
def HAX (p : Nat) (fa fx : Nat → Int) (t n me bits : Int) (w : Bool) : Hint Unit := { X := AX, st := fun x => ([.ptr 0 0, .iface 93 (.ptr 2 0), .view p 2 (fun i => [.int .i64 (fa i), .int .u64 (fx i)]), .int .i64 9, .top, .top, .top, .top, .top, .top, .top, .ptr 3 0, .int .i64 (x.i : Int)] ++ List.replicate 50 .top, annWH t n me bits w x ++ annTH x.A), ok := okAX t n me bits w, mu := fun x => 9 - x.i, keep := [0, 1, 2, 3, 11, 12], casts := [(.cell 3 0, .tab [some .i64, some .i64, some .u64, some .u64, none])] }
theorem WU_range (x : Int) : 0 ≤ WU x ∧ WU x ≤ 18446744073709551615 := by
  unfold WU
  simp only [IntKind.wrap, IntKind.bits, IntKind.signed]
  simp
  omega
theorem okW_putI {xs : List Int} (h : okW xs) {a x : Int} (hx : 0 ≤ x ∧ x ≤ 18446744073709551615) : okW (putI xs a x) := by
  unfold putI
  split
  · refine ⟨fun y hy => ?_⟩
    rcases List.mem_or_eq_of_mem_set hy with h1 | h1
    · exact h.h y h1
    · subst h1; exact hx
  · exact h
theorem nextW_in (f : Int) : 0 ≤ nextW f ∧ nextW f ≤ 18446744073709551615 := by
  have h := cut_att f
  have h2 : 0 ≤ cutI f 0 12 ∧ cutI f 0 12 < 4096 := cutI_in (x := f) (a := 0) (w := 12)
  rw [nextW_eq h2]
  have := attI_in (cutI f 0 12)
  exact dPutV_in (dOk_true.2 (by omega))
def watchAnnS : Spec Unit := fun args h => match args, h with
  | [.ptr 0 0, .iface 93 (.ptr 2 0), .view p 2 row, .int .i64 9], [e1, e2, some (.cells [.int .i64 t, .int .i64 n, .int .u64 no, .int .i64 me, .int .i64 at', .int .u64 bits, .bool w, .int .u64 fo])] => match memPat [e1, e2] with
    | some (l, s) => some (.pre ((l = s.xs.length ∧ at' = 0 ∧ no = 0 ∧ s.c = 0 ∧ (1 ≤ t ∧ t ≤ 1000) ∧ (1 ≤ n ∧ n ≤ 1000) ∧ (0 ≤ me ∧ me < t) ∧ (0 ≤ bits ∧ bits ≤ 18446744073709551615)) ∧ s.xs.length = (2 * n + 5 * t + 6).toNat ∧ okW s.xs ∧ ∃ fa fx : Nat → Int, row = (fun i => [.int .i64 (fa i), .int .u64 (fx i)]) ∧ ∀ i, 0 ≤ fx i ∧ fx i ≤ 18446744073709551615) (.all AX (doneAX t n me bits w) (fun x => .ret (.tup [.ptr 3 0, .bool true, .bool true]) (annWH t n me bits w x ++ annTH x.A))))
    | none => none
  | _, _ => none
set_option maxHeartbeats 4000000 in
theorem watchAnn_ok : Spec.ok E27.I Try.prog 29 watchAnnS := by
  intro args h o ho K hK
  unfold watchAnnS at ho
  split at ho
  case h_2 => cases ho
  rename_i p row e1 e2 t n no me at' bits w fo
  split at ho
  case h_2 => cases ho
  rename_i l s hm
  simp only [Option.some.injEq] at ho; subst ho
  obtain ⟨⟨⟨hl', hat, hno0, hc0, ht, hn', hme, hbits⟩, hlen, hokW, fa, fx, hrow, hfx⟩, hK⟩ := hK
  have hh := memPat_eq hm hl'
  subst hat hrow
  unfold memH at hh
  simp only [List.cons.injEq, and_true] at hh
  obtain ⟨rfl, rfl⟩ := hh
  refine CallOk.trim (callOk_of (E := E27) Try.checked.mixed (L := fun _ _ => some (.states (HAX p fa fx t n me bits w))) (n := 10) (of_nf (q := okSt (HAX p fa fx t n me bits w) (Hint.ok (HAX p fa fx t n me bits w)) [AVal.ptr 0 0, AVal.iface 93 (AVal.ptr 2 0), AVal.view p 2 fun i => [AVal.int .i64 (fa i), AVal.int .u64 (fx i)], AVal.int .i64 9, AVal.top, AVal.top, AVal.top, AVal.top, AVal.top, AVal.top, AVal.top, AVal.ptr 3 0, AVal.int .i64 0, AVal.top, AVal.top, AVal.top, AVal.top, AVal.top, AVal.top, AVal.top, AVal.top, AVal.top, AVal.top, AVal.top, AVal.top, AVal.top, AVal.top, AVal.top, AVal.top, AVal.top, AVal.top, AVal.top, AVal.top, AVal.top, AVal.top, AVal.top, AVal.top, AVal.top, AVal.top, AVal.top, AVal.top, AVal.top, AVal.top, AVal.top, AVal.top, AVal.top, AVal.top, AVal.top, AVal.top, AVal.top, AVal.top, AVal.top, AVal.top, AVal.top, AVal.top, AVal.top, AVal.top, AVal.top, AVal.top, AVal.top, AVal.top, AVal.top, AVal.top] [some (Entry.cells [AVal.int .i64 s.1, AVal.int .i64 s.2, AVal.slice 1 0 (List.length s.3) 1, AVal.int .i64 s.4, AVal.int .i64 s.5, AVal.int .i64 s.6, AVal.int .u64 s.7, AVal.int .u64 s.8, AVal.bool s.9]), some (Entry.ints (some .u64) s.3), some (Entry.cells [AVal.int .i64 t, AVal.int .i64 n, AVal.int .u64 no, AVal.int .i64 me, AVal.int .i64 0, AVal.int .u64 bits, AVal.bool w, AVal.int .u64 fo]), some (Entry.cells [AVal.tslice 4 0 0 5, AVal.int .i64 0, AVal.bool false, AVal.bool false]), some (Entry.tab [some .i64, some .i64, some .u64, some .u64, none] [])] ∧ ∀ (x : AX), okAX t n me bits w x → bif ilt (↑x.1 : Int) 9 then bif ilt (↑x.1 : Int) (↑p : Int) then ((0 : Int) ≤ (↑x.1 : Int) ∧ (↑x.1 : Int) < (↑p : Int)) ∧ ((0 : Int) ≤ (↑x.1 : Int) ∧ (↑x.1 : Int) < (↑p : Int)) ∧ ((List.length (AX.s x).3 = List.length (AX.s x).3 ∧ (0 : Int) ≤ (AX.s x).4 ∧ (AX.s x).4 ≤ (4611686018427387904 : Int)) ∧ True) ∧ (List.length (putI (AX.s x).3 (fa (Int.toNat (↑x.1 : Int))) (fx (Int.toNat (↑x.1 : Int)))) = List.length (putI (AX.s x).3 (fa (Int.toNat (↑x.1 : Int))) (fx (Int.toNat (↑x.1 : Int)))) ∧ True) ∧ bif w then (List.length (putI (AX.s x).3 (fa (Int.toNat (↑x.1 : Int))) (fx (Int.toNat (↑x.1 : Int)))) = List.length (putI (AX.s x).3 (fa (Int.toNat (↑x.1 : Int))) (fx (Int.toNat (↑x.1 : Int)))) ∧ (0 : Int) ≤ (AX.s x).4 + 1 ∧ (AX.s x).4 + (1 : Int) ≤ (4611686018427387904 : Int)) ∧ (List.length (putI (AX.s x).3 (fa (Int.toNat (↑x.1 : Int))) (fx (Int.toNat (↑x.1 : Int)))) = List.length (putI (AX.s x).3 (fa (Int.toNat (↑x.1 : Int))) (fx (Int.toNat (↑x.1 : Int)))) ∧ True) ∧ bif !ieq ((AX.s x).4 + 1 + 1) (W ((AX.s x).4 + 1 + 1)) then K (AVal.tup [AVal.ptr 3 0, AVal.bool false, AVal.bool false]) [some (Entry.cells [AVal.int .i64 (AX.s x).1, AVal.int .i64 (AX.s x).2, AVal.slice 1 0 (List.length (putI (AX.s x).3 (fa (Int.toNat (↑x.1 : Int))) (fx (Int.toNat (↑x.1 : Int))))) 1, AVal.int .i64 ((AX.s x).4 + 1 + 1), AVal.int .i64 1, AVal.int .i64 0, AVal.int .u64 (peek (putI (AX.s x).3 (fa (Int.toNat (↑x.1 : Int))) (fx (Int.toNat (↑x.1 : Int)))) 0), AVal.int .u64 (peek (putI (AX.s x).3 (fa (Int.toNat (↑x.1 : Int))) (fx (Int.toNat (↑x.1 : Int)))) 0), AVal.bool (inB (putI (AX.s x).3 (fa (Int.toNat (↑x.1 : Int))) (fx (Int.toNat (↑x.1 : Int)))) 0)]), some (Entry.ints (some .u64) (putI (AX.s x).3 (fa (Int.toNat (↑x.1 : Int))) (fx (Int.toNat (↑x.1 : Int))))), some (Entry.cells [AVal.int .i64 t, AVal.int .i64 n, AVal.int .u64 x.3, AVal.int .i64 me, AVal.int .i64 (↑x.1 : Int), AVal.int .u64 bits, AVal.bool w, AVal.int .u64 x.4]), some (Entry.cells [AVal.tslice 4 0 (List.length x.5) 5, AVal.int .i64 0, AVal.bool false, AVal.bool false]), some (Entry.tab [some .i64, some .i64, some .u64, some .u64, none] x.5)] else ((List.length (putI (AX.s x).3 (fa (Int.toNat (↑x.1 : Int))) (fx (Int.toNat (↑x.1 : Int)))) = List.length (putI (AX.s x).3 (fa (Int.toNat (↑x.1 : Int))) (fx (Int.toNat (↑x.1 : Int)))) ∧ True) ∧ True) ∧ (0 = 0 ∧ List.length x.5 = List.length x.5 ∧ List.length x.5 + (1 : Nat) ≤ (4294967296 : Nat)) ∧ K (AVal.tup [AVal.ptr 3 0, AVal.bool true, AVal.bool true]) [some (Entry.cells [AVal.int .i64 (AX.s x).1, AVal.int .i64 (AX.s x).2, AVal.slice 1 0 (List.length (putI (AX.s x).3 (fa (Int.toNat (↑x.1 : Int))) (fx (Int.toNat (↑x.1 : Int))))) 1, AVal.int .i64 ((AX.s x).4 + 1 + 1), AVal.int .i64 1, AVal.int .i64 0, AVal.int .u64 (peek (putI (AX.s x).3 (fa (Int.toNat (↑x.1 : Int))) (fx (Int.toNat (↑x.1 : Int)))) 0), AVal.int .u64 (peek (putI (AX.s x).3 (fa (Int.toNat (↑x.1 : Int))) (fx (Int.toNat (↑x.1 : Int)))) 0), AVal.bool (inB (putI (AX.s x).3 (fa (Int.toNat (↑x.1 : Int))) (fx (Int.toNat (↑x.1 : Int)))) 0)]), some (Entry.ints (some .u64) (putI (AX.s x).3 (fa (Int.toNat (↑x.1 : Int))) (fx (Int.toNat (↑x.1 : Int))))), some (Entry.cells [AVal.int .i64 t, AVal.int .i64 n, AVal.int .u64 x.3, AVal.int .i64 me, AVal.int .i64 (↑x.1 : Int), AVal.int .u64 bits, AVal.bool w, AVal.int .u64 x.4]), some (Entry.cells [AVal.tslice 4 0 (List.length x.5 + 1) 5, AVal.int .i64 0, AVal.bool false, AVal.bool false]), some (Entry.tab [some .i64, some .i64, some .u64, some .u64, none] (x.5 ++ [[1, 0, peek (putI (AX.s x).3 (fa (Int.toNat (↑x.1 : Int))) (fx (Int.toNat (↑x.1 : Int)))) 0, peek (putI (AX.s x).3 (fa (Int.toNat (↑x.1 : Int))) (fx (Int.toNat (↑x.1 : Int)))) 0, bif inB (putI (AX.s x).3 (fa (Int.toNat (↑x.1 : Int))) (fx (Int.toNat (↑x.1 : Int)))) 0 then 1 else 0]]))] else bif ieq (↑x.1 : Int) 0 then ((((0 : Int) ≤ t ∧ t ≤ (100000 : Int)) ∧ ((0 : Int) ≤ n ∧ n ≤ (100000 : Int)) ∧ (-1099511627776 : Int) ≤ me ∧ me ≤ (1099511627776 : Int)) ∧ True) ∧ ((List.length (putI (AX.s x).3 (fa (Int.toNat (↑x.1 : Int))) (fx (Int.toNat (↑x.1 : Int)))) = List.length (putI (AX.s x).3 (fa (Int.toNat (↑x.1 : Int))) (fx (Int.toNat (↑x.1 : Int)))) ∧ (0 : Int) ≤ (AX.s x).4 + 1 ∧ (AX.s x).4 + (1 : Int) ≤ (4611686018427387904 : Int)) ∧ True) ∧ (List.length (putI (putI (AX.s x).3 (fa (Int.toNat (↑x.1 : Int))) (fx (Int.toNat (↑x.1 : Int)))) (2 * n + 5 + 2 * t + 3 * me + 1) bits) = List.length (putI (putI (AX.s x).3 (fa (Int.toNat (↑x.1 : Int))) (fx (Int.toNat (↑x.1 : Int)))) (2 * n + 5 + 2 * t + 3 * me + 1) bits) ∧ True) ∧ bif !ieq ((AX.s x).4 + 1 + 1) (W ((AX.s x).4 + 1 + 1)) then K (AVal.tup [AVal.ptr 3 0, AVal.bool false, AVal.bool false]) [some (Entry.cells [AVal.int .i64 (AX.s x).1, AVal.int .i64 (AX.s x).2, AVal.slice 1 0 (List.length (putI (putI (AX.s x).3 (fa (Int.toNat (↑x.1 : Int))) (fx (Int.toNat (↑x.1 : Int)))) (2 * n + 5 + 2 * t + 3 * me + 1) bits)) 1, AVal.int .i64 ((AX.s x).4 + 1 + 1), AVal.int .i64 2, AVal.int .i64 (2 * n + 5 + 2 * t + 3 * me + 1), AVal.int .u64 (peek (putI (AX.s x).3 (fa (Int.toNat (↑x.1 : Int))) (fx (Int.toNat (↑x.1 : Int)))) (2 * n + 5 + 2 * t + 3 * me + 1)), AVal.int .u64 (bif inB (putI (AX.s x).3 (fa (Int.toNat (↑x.1 : Int))) (fx (Int.toNat (↑x.1 : Int)))) (2 * n + 5 + 2 * t + 3 * me + 1) then bits else 0), AVal.bool (inB (putI (AX.s x).3 (fa (Int.toNat (↑x.1 : Int))) (fx (Int.toNat (↑x.1 : Int)))) (2 * n + 5 + 2 * t + 3 * me + 1))]), some (Entry.ints (some .u64) (putI (putI (AX.s x).3 (fa (Int.toNat (↑x.1 : Int))) (fx (Int.toNat (↑x.1 : Int)))) (2 * n + 5 + 2 * t + 3 * me + 1) bits)), some (Entry.cells [AVal.int .i64 t, AVal.int .i64 n, AVal.int .u64 x.3, AVal.int .i64 me, AVal.int .i64 (W ((↑x.1 : Int) + 1)), AVal.int .u64 bits, AVal.bool w, AVal.int .u64 x.4]), some (Entry.cells [AVal.tslice 4 0 (List.length x.5) 5, AVal.int .i64 0, AVal.bool false, AVal.bool false]), some (Entry.tab [some .i64, some .i64, some .u64, some .u64, none] x.5)] else ((List.length (putI (putI (AX.s x).3 (fa (Int.toNat (↑x.1 : Int))) (fx (Int.toNat (↑x.1 : Int)))) (2 * n + 5 + 2 * t + 3 * me + 1) bits) = List.length (putI (putI (AX.s x).3 (fa (Int.toNat (↑x.1 : Int))) (fx (Int.toNat (↑x.1 : Int)))) (2 * n + 5 + 2 * t + 3 * me + 1) bits) ∧ True) ∧ True) ∧ (0 = 0 ∧ List.length x.5 = List.length x.5 ∧ List.length x.5 + (1 : Nat) ≤ (4294967296 : Nat)) ∧ bif ilt 4 (W ((↑x.1 : Int) + 1)) then K (AVal.tup [AVal.ptr 3 0, AVal.bool true, AVal.bool true]) [some (Entry.cells [AVal.int .i64 (AX.s x).1, AVal.int .i64 (AX.s x).2, AVal.slice 1 0 (List.length (putI (putI (AX.s x).3 (fa (Int.toNat (↑x.1 : Int))) (fx (Int.toNat (↑x.1 : Int)))) (2 * n + 5 + 2 * t + 3 * me + 1) bits)) 1, AVal.int .i64 ((AX.s x).4 + 1 + 1), AVal.int .i64 2, AVal.int .i64 (2 * n + 5 + 2 * t + 3 * me + 1), AVal.int .u64 (peek (putI (AX.s x).3 (fa (Int.toNat (↑x.1 : Int))) (fx (Int.toNat (↑x.1 : Int)))) (2 * n + 5 + 2 * t + 3 * me + 1)), AVal.int .u64 (bif inB (putI (AX.s x).3 (fa (Int.toNat (↑x.1 : Int))) (fx (Int.toNat (↑x.1 : Int)))) (2 * n + 5 + 2 * t + 3 * me + 1) then bits else 0), AVal.bool (inB (putI (AX.s x).3 (fa (Int.toNat (↑x.1 : Int))) (fx (Int.toNat (↑x.1 : Int)))) (2 * n + 5 + 2 * t + 3 * me + 1))]), some (Entry.ints (some .u64) (putI (putI (AX.s x).3 (fa (Int.toNat (↑x.1 : Int))) (fx (Int.toNat (↑x.1 : Int)))) (2 * n + 5 + 2 * t + 3 * me + 1) bits)), some (Entry.cells [AVal.int .i64 t, AVal.int .i64 n, AVal.int .u64 x.3, AVal.int .i64 me, AVal.int .i64 (W ((↑x.1 : Int) + 1)), AVal.int .u64 bits, AVal.bool w, AVal.int .u64 x.4]), some (Entry.cells [AVal.tslice 4 0 (List.length x.5 + 1) 5, AVal.int .i64 0, AVal.bool false, AVal.bool false]), some (Entry.tab [some .i64, some .i64, some .u64, some .u64, none] (x.5 ++ [[2, 2 * n + 5 + 2 * t + 3 * me + 1, peek (putI (AX.s x).3 (fa (Int.toNat (↑x.1 : Int))) (fx (Int.toNat (↑x.1 : Int)))) (2 * n + 5 + 2 * t + 3 * me + 1), bif inB (putI (AX.s x).3 (fa (Int.toNat (↑x.1 : Int))) (fx (Int.toNat (↑x.1 : Int)))) (2 * n + 5 + 2 * t + 3 * me + 1) then bits else 0, bif inB (putI (AX.s x).3 (fa (Int.toNat (↑x.1 : Int))) (fx (Int.toNat (↑x.1 : Int)))) (2 * n + 5 + 2 * t + 3 * me + 1) then 1 else 0]]))] else okSt (HAX p fa fx t n me bits w) (fun x' => Hint.ok (HAX p fa fx t n me bits w) x' ∧ Hint.mu (HAX p fa fx t n me bits w) x' < Hint.mu (HAX p fa fx t n me bits w) x) [AVal.ptr 0 0, AVal.iface 93 (AVal.ptr 2 0), AVal.view p 2 fun i => [AVal.int .i64 (fa i), AVal.int .u64 (fx i)], AVal.int .i64 9, AVal.top, AVal.top, AVal.top, AVal.top, AVal.top, AVal.top, AVal.top, AVal.ptr 3 0, AVal.int .i64 (W ((↑x.1 : Int) + 1)), AVal.top, AVal.top, AVal.top, AVal.top, AVal.top, AVal.top, AVal.top, AVal.top, AVal.top, AVal.top, AVal.top, AVal.top, AVal.top, AVal.top, AVal.top, AVal.top, AVal.top, AVal.top, AVal.top, AVal.top, AVal.top, AVal.top, AVal.top, AVal.top, AVal.top, AVal.top, AVal.top, AVal.top, AVal.top, AVal.top, AVal.top, AVal.top, AVal.top, AVal.top, AVal.top, AVal.top, AVal.top, AVal.top, AVal.top, AVal.top, AVal.top, AVal.top, AVal.top, AVal.top, AVal.top, AVal.top, AVal.top, AVal.top, AVal.top, AVal.top] [some (Entry.cells [AVal.int .i64 (AX.s x).1, AVal.int .i64 (AX.s x).2, AVal.slice 1 0 (List.length (putI (putI (AX.s x).3 (fa (Int.toNat (↑x.1 : Int))) (fx (Int.toNat (↑x.1 : Int)))) (2 * n + 5 + 2 * t + 3 * me + 1) bits)) 1, AVal.int .i64 ((AX.s x).4 + 1 + 1), AVal.int .i64 2, AVal.int .i64 (2 * n + 5 + 2 * t + 3 * me + 1), AVal.int .u64 (peek (putI (AX.s x).3 (fa (Int.toNat (↑x.1 : Int))) (fx (Int.toNat (↑x.1 : Int)))) (2 * n + 5 + 2 * t + 3 * me + 1)), AVal.int .u64 (bif inB (putI (AX.s x).3 (fa (Int.toNat (↑x.1 : Int))) (fx (Int.toNat (↑x.1 : Int)))) (2 * n + 5 + 2 * t + 3 * me + 1) then bits else 0), AVal.bool (inB (putI (AX.s x).3 (fa (Int.toNat (↑x.1 : Int))) (fx (Int.toNat (↑x.1 : Int)))) (2 * n + 5 + 2 * t + 3 * me + 1))]), some (Entry.ints (some .u64) (putI (putI (AX.s x).3 (fa (Int.toNat (↑x.1 : Int))) (fx (Int.toNat (↑x.1 : Int)))) (2 * n + 5 + 2 * t + 3 * me + 1) bits)), some (Entry.cells [AVal.int .i64 t, AVal.int .i64 n, AVal.int .u64 x.3, AVal.int .i64 me, AVal.int .i64 (W ((↑x.1 : Int) + 1)), AVal.int .u64 bits, AVal.bool w, AVal.int .u64 x.4]), some (Entry.cells [AVal.tslice 4 0 (List.length x.5 + 1) 5, AVal.int .i64 0, AVal.bool false, AVal.bool false]), some (Entry.tab [some .i64, some .i64, some .u64, some .u64, none] (x.5 ++ [[2, 2 * n + 5 + 2 * t + 3 * me + 1, peek (putI (AX.s x).3 (fa (Int.toNat (↑x.1 : Int))) (fx (Int.toNat (↑x.1 : Int)))) (2 * n + 5 + 2 * t + 3 * me + 1), bif inB (putI (AX.s x).3 (fa (Int.toNat (↑x.1 : Int))) (fx (Int.toNat (↑x.1 : Int)))) (2 * n + 5 + 2 * t + 3 * me + 1) then bits else 0, bif inB (putI (AX.s x).3 (fa (Int.toNat (↑x.1 : Int))) (fx (Int.toNat (↑x.1 : Int)))) (2 * n + 5 + 2 * t + 3 * me + 1) then 1 else 0]]))] else bif ieq (↑x.1 : Int) 1 then (((0 : Int) ≤ t ∧ t ≤ (100000 : Int)) ∧ (0 : Int) ≤ n ∧ n ≤ (100000 : Int)) ∧ (List.length (putI (AX.s x).3 (fa (Int.toNat (↑x.1 : Int))) (fx (Int.toNat (↑x.1 : Int)))) = List.length (putI (AX.s x).3 (fa (Int.toNat (↑x.1 : Int))) (fx (Int.toNat (↑x.1 : Int)))) ∧ (0 : Int) ≤ (AX.s x).4 + 1 ∧ (AX.s x).4 + (1 : Int) ≤ (4611686018427387904 : Int)) ∧ (List.length (putI (putI (AX.s x).3 (fa (Int.toNat (↑x.1 : Int))) (fx (Int.toNat (↑x.1 : Int)))) (2 * n + 5 + 2 * t + 3 * t) (WU (peek (putI (AX.s x).3 (fa (Int.toNat (↑x.1 : Int))) (fx (Int.toNat (↑x.1 : Int)))) (2 * n + 5 + 2 * t + 3 * t) + 1))) = List.length (putI (putI (AX.s x).3 (fa (Int.toNat (↑x.1 : Int))) (fx (Int.toNat (↑x.1 : Int)))) (2 * n + 5 + 2 * t + 3 * t) (WU (peek (putI (AX.s x).3 (fa (Int.toNat (↑x.1 : Int))) (fx (Int.toNat (↑x.1 : Int)))) (2 * n + 5 + 2 * t + 3 * t) + 1))) ∧ True) ∧ bif !ieq ((AX.s x).4 + 1 + 1) (W ((AX.s x).4 + 1 + 1)) then K (AVal.tup [AVal.ptr 3 0, AVal.bool false, AVal.bool false]) [some (Entry.cells [AVal.int .i64 (AX.s x).1, AVal.int .i64 (AX.s x).2, AVal.slice 1 0 (List.length (putI (putI (AX.s x).3 (fa (Int.toNat (↑x.1 : Int))) (fx (Int.toNat (↑x.1 : Int)))) (2 * n + 5 + 2 * t + 3 * t) (WU (peek (putI (AX.s x).3 (fa (Int.toNat (↑x.1 : Int))) (fx (Int.toNat (↑x.1 : Int)))) (2 * n + 5 + 2 * t + 3 * t) + 1)))) 1, AVal.int .i64 ((AX.s x).4 + 1 + 1), AVal.int .i64 4, AVal.int .i64 (2 * n + 5 + 2 * t + 3 * t), AVal.int .u64 (peek (putI (AX.s x).3 (fa (Int.toNat (↑x.1 : Int))) (fx (Int.toNat (↑x.1 : Int)))) (2 * n + 5 + 2 * t + 3 * t)), AVal.int .u64 (bif inB (putI (AX.s x).3 (fa (Int.toNat (↑x.1 : Int))) (fx (Int.toNat (↑x.1 : Int)))) (2 * n + 5 + 2 * t + 3 * t) then WU (peek (putI (AX.s x).3 (fa (Int.toNat (↑x.1 : Int))) (fx (Int.toNat (↑x.1 : Int)))) (2 * n + 5 + 2 * t + 3 * t) + 1) else 0), AVal.bool (inB (putI (AX.s x).3 (fa (Int.toNat (↑x.1 : Int))) (fx (Int.toNat (↑x.1 : Int)))) (2 * n + 5 + 2 * t + 3 * t))]), some (Entry.ints (some .u64) (putI (putI (AX.s x).3 (fa (Int.toNat (↑x.1 : Int))) (fx (Int.toNat (↑x.1 : Int)))) (2 * n + 5 + 2 * t + 3 * t) (WU (peek (putI (AX.s x).3 (fa (Int.toNat (↑x.1 : Int))) (fx (Int.toNat (↑x.1 : Int)))) (2 * n + 5 + 2 * t + 3 * t) + 1)))), some (Entry.cells [AVal.int .i64 t, AVal.int .i64 n, AVal.int .u64 (WU (peek (putI (AX.s x).3 (fa (Int.toNat (↑x.1 : Int))) (fx (Int.toNat (↑x.1 : Int)))) (2 * n + 5 + 2 * t + 3 * t) + 1)), AVal.int .i64 me, AVal.int .i64 (W ((↑x.1 : Int) + 1)), AVal.int .u64 bits, AVal.bool w, AVal.int .u64 x.4]), some (Entry.cells [AVal.tslice 4 0 (List.length x.5) 5, AVal.int .i64 0, AVal.bool false, AVal.bool false]), some (Entry.tab [some .i64, some .i64, some .u64, some .u64, none] x.5)] else ((List.length (putI (putI (AX.s x).3 (fa (Int.toNat (↑x.1 : Int))) (fx (Int.toNat (↑x.1 : Int)))) (2 * n + 5 + 2 * t + 3 * t) (WU (peek (putI (AX.s x).3 (fa (Int.toNat (↑x.1 : Int))) (fx (Int.toNat (↑x.1 : Int)))) (2 * n + 5 + 2 * t + 3 * t) + 1))) = List.length (putI (putI (AX.s x).3 (fa (Int.toNat (↑x.1 : Int))) (fx (Int.toNat (↑x.1 : Int)))) (2 * n + 5 + 2 * t + 3 * t) (WU (peek (putI (AX.s x).3 (fa (Int.toNat (↑x.1 : Int))) (fx (Int.toNat (↑x.1 : Int)))) (2 * n + 5 + 2 * t + 3 * t) + 1))) ∧ True) ∧ True) ∧ (0 = 0 ∧ List.length x.5 = List.length x.5 ∧ List.length x.5 + (1 : Nat) ≤ (4294967296 : Nat)) ∧ bif ilt 4 (W ((↑x.1 : Int) + 1)) then K (AVal.tup [AVal.ptr 3 0, AVal.bool true, AVal.bool true]) [some (Entry.cells [AVal.int .i64 (AX.s x).1, AVal.int .i64 (AX.s x).2, AVal.slice 1 0 (List.length (putI (putI (AX.s x).3 (fa (Int.toNat (↑x.1 : Int))) (fx (Int.toNat (↑x.1 : Int)))) (2 * n + 5 + 2 * t + 3 * t) (WU (peek (putI (AX.s x).3 (fa (Int.toNat (↑x.1 : Int))) (fx (Int.toNat (↑x.1 : Int)))) (2 * n + 5 + 2 * t + 3 * t) + 1)))) 1, AVal.int .i64 ((AX.s x).4 + 1 + 1), AVal.int .i64 4, AVal.int .i64 (2 * n + 5 + 2 * t + 3 * t), AVal.int .u64 (peek (putI (AX.s x).3 (fa (Int.toNat (↑x.1 : Int))) (fx (Int.toNat (↑x.1 : Int)))) (2 * n + 5 + 2 * t + 3 * t)), AVal.int .u64 (bif inB (putI (AX.s x).3 (fa (Int.toNat (↑x.1 : Int))) (fx (Int.toNat (↑x.1 : Int)))) (2 * n + 5 + 2 * t + 3 * t) then WU (peek (putI (AX.s x).3 (fa (Int.toNat (↑x.1 : Int))) (fx (Int.toNat (↑x.1 : Int)))) (2 * n + 5 + 2 * t + 3 * t) + 1) else 0), AVal.bool (inB (putI (AX.s x).3 (fa (Int.toNat (↑x.1 : Int))) (fx (Int.toNat (↑x.1 : Int)))) (2 * n + 5 + 2 * t + 3 * t))]), some (Entry.ints (some .u64) (putI (putI (AX.s x).3 (fa (Int.toNat (↑x.1 : Int))) (fx (Int.toNat (↑x.1 : Int)))) (2 * n + 5 + 2 * t + 3 * t) (WU (peek (putI (AX.s x).3 (fa (Int.toNat (↑x.1 : Int))) (fx (Int.toNat (↑x.1 : Int)))) (2 * n + 5 + 2 * t + 3 * t) + 1)))), some (Entry.cells [AVal.int .i64 t, AVal.int .i64 n, AVal.int .u64 (WU (peek (putI (AX.s x).3 (fa (Int.toNat (↑x.1 : Int))) (fx (Int.toNat (↑x.1 : Int)))) (2 * n + 5 + 2 * t + 3 * t) + 1)), AVal.int .i64 me, AVal.int .i64 (W ((↑x.1 : Int) + 1)), AVal.int .u64 bits, AVal.bool w, AVal.int .u64 x.4]), some (Entry.cells [AVal.tslice 4 0 (List.length x.5 + 1) 5, AVal.int .i64 0, AVal.bool false, AVal.bool false]), some (Entry.tab [some .i64, some .i64, some .u64, some .u64, none] (x.5 ++ [[4, 2 * n + 5 + 2 * t + 3 * t, peek (putI (AX.s x).3 (fa (Int.toNat (↑x.1 : Int))) (fx (Int.toNat (↑x.1 : Int)))) (2 * n + 5 + 2 * t + 3 * t), bif inB (putI (AX.s x).3 (fa (Int.toNat (↑x.1 : Int))) (fx (Int.toNat (↑x.1 : Int)))) (2 * n + 5 + 2 * t + 3 * t) then WU (peek (putI (AX.s x).3 (fa (Int.toNat (↑x.1 : Int))) (fx (Int.toNat (↑x.1 : Int)))) (2 * n + 5 + 2 * t + 3 * t) + 1) else 0, bif inB (putI (AX.s x).3 (fa (Int.toNat (↑x.1 : Int))) (fx (Int.toNat (↑x.1 : Int)))) (2 * n + 5 + 2 * t + 3 * t) then 1 else 0]]))] else okSt (HAX p fa fx t n me bits w) (fun x' => Hint.ok (HAX p fa fx t n me bits w) x' ∧ Hint.mu (HAX p fa fx t n me bits w) x' < Hint.mu (HAX p fa fx t n me bits w) x) [AVal.ptr 0 0, AVal.iface 93 (AVal.ptr 2 0), AVal.view p 2 fun i => [AVal.int .i64 (fa i), AVal.int .u64 (fx i)], AVal.int .i64 9, AVal.top, AVal.top, AVal.top, AVal.top, AVal.top, AVal.top, AVal.top, AVal.ptr 3 0, AVal.int .i64 (W ((↑x.1 : Int) + 1)), AVal.top, AVal.top, AVal.top, AVal.top, AVal.top, AVal.top, AVal.top, AVal.top, AVal.top, AVal.top, AVal.top, AVal.top, AVal.top, AVal.top, AVal.top, AVal.top, AVal.top, AVal.top, AVal.top, AVal.top, AVal.top, AVal.top, AVal.top, AVal.top, AVal.top, AVal.top, AVal.top, AVal.top, AVal.top, AVal.top, AVal.top, AVal.top, AVal.top, AVal.top, AVal.top, AVal.top, AVal.top, AVal.top, AVal.top, AVal.top, AVal.top, AVal.top, AVal.top, AVal.top, AVal.top, AVal.top, AVal.top, AVal.top, AVal.top, AVal.top] [some (Entry.cells [AVal.int .i64 (AX.s x).1, AVal.int .i64 (AX.s x).2, AVal.slice 1 0 (List.length (putI (putI (AX.s x).3 (fa (Int.toNat (↑x.1 : Int))) (fx (Int.toNat (↑x.1 : Int)))) (2 * n + 5 + 2 * t + 3 * t) (WU (peek (putI (AX.s x).3 (fa (Int.toNat (↑x.1 : Int))) (fx (Int.toNat (↑x.1 : Int)))) (2 * n + 5 + 2 * t + 3 * t) + 1)))) 1, AVal.int .i64 ((AX.s x).4 + 1 + 1), AVal.int .i64 4, AVal.int .i64 (2 * n + 5 + 2 * t + 3 * t), AVal.int .u64 (peek (putI (AX.s x).3 (fa (Int.toNat (↑x.1 : Int))) (fx (Int.toNat (↑x.1 : Int)))) (2 * n + 5 + 2 * t + 3 * t)), AVal.int .u64 (bif inB (putI (AX.s x).3 (fa (Int.toNat (↑x.1 : Int))) (fx (Int.toNat (↑x.1 : Int)))) (2 * n + 5 + 2 * t + 3 * t) then WU (peek (putI (AX.s x).3 (fa (Int.toNat (↑x.1 : Int))) (fx (Int.toNat (↑x.1 : Int)))) (2 * n + 5 + 2 * t + 3 * t) + 1) else 0), AVal.bool (inB (putI (AX.s x).3 (fa (Int.toNat (↑x.1 : Int))) (fx (Int.toNat (↑x.1 : Int)))) (2 * n + 5 + 2 * t + 3 * t))]), some (Entry.ints (some .u64) (putI (putI (AX.s x).3 (fa (Int.toNat (↑x.1 : Int))) (fx (Int.toNat (↑x.1 : Int)))) (2 * n + 5 + 2 * t + 3 * t) (WU (peek (putI (AX.s x).3 (fa (Int.toNat (↑x.1 : Int))) (fx (Int.toNat (↑x.1 : Int)))) (2 * n + 5 + 2 * t + 3 * t) + 1)))), some (Entry.cells [AVal.int .i64 t, AVal.int .i64 n, AVal.int .u64 (WU (peek (putI (AX.s x).3 (fa (Int.toNat (↑x.1 : Int))) (fx (Int.toNat (↑x.1 : Int)))) (2 * n + 5 + 2 * t + 3 * t) + 1)), AVal.int .i64 me, AVal.int .i64 (W ((↑x.1 : Int) + 1)), AVal.int .u64 bits, AVal.bool w, AVal.int .u64 x.4]), some (Entry.cells [AVal.tslice 4 0 (List.length x.5 + 1) 5, AVal.int .i64 0, AVal.bool false, AVal.bool false]), some (Entry.tab [some .i64, some .i64, some .u64, some .u64, none] (x.5 ++ [[4, 2 * n + 5 + 2 * t + 3 * t, peek (putI (AX.s x).3 (fa (Int.toNat (↑x.1 : Int))) (fx (Int.toNat (↑x.1 : Int)))) (2 * n + 5 + 2 * t + 3 * t), bif inB (putI (AX.s x).3 (fa (Int.toNat (↑x.1 : Int))) (fx (Int.toNat (↑x.1 : Int)))) (2 * n + 5 + 2 * t + 3 * t) then WU (peek (putI (AX.s x).3 (fa (Int.toNat (↑x.1 : Int))) (fx (Int.toNat (↑x.1 : Int)))) (2 * n + 5 + 2 * t + 3 * t) + 1) else 0, bif inB (putI (AX.s x).3 (fa (Int.toNat (↑x.1 : Int))) (fx (Int.toNat (↑x.1 : Int)))) (2 * n + 5 + 2 * t + 3 * t) then 1 else 0]]))] else bif ieq (↑x.1 : Int) 2 then ((((0 : Int) ≤ t ∧ t ≤ (100000 : Int)) ∧ ((0 : Int) ≤ n ∧ n ≤ (100000 : Int)) ∧ (-1099511627776 : Int) ≤ me ∧ me ≤ (1099511627776 : Int)) ∧ True) ∧ ((List.length (putI (AX.s x).3 (fa (Int.toNat (↑x.1 : Int))) (fx (Int.toNat (↑x.1 : Int)))) = List.length (putI (AX.s x).3 (fa (Int.toNat (↑x.1 : Int))) (fx (Int.toNat (↑x.1 : Int)))) ∧ (0 : Int) ≤ (AX.s x).4 + 1 ∧ (AX.s x).4 + (1 : Int) ≤ (4611686018427387904 : Int)) ∧ True) ∧ (List.length (putI (putI (AX.s x).3 (fa (Int.toNat (↑x.1 : Int))) (fx (Int.toNat (↑x.1 : Int)))) (2 * n + 5 + 2 * t + 3 * me) x.3) = List.length (putI (putI (AX.s x).3 (fa (Int.toNat (↑x.1 : Int))) (fx (Int.toNat (↑x.1 : Int)))) (2 * n + 5 + 2 * t + 3 * me) x.3) ∧ True) ∧ bif !ieq ((AX.s x).4 + 1 + 1) (W ((AX.s x).4 + 1 + 1)) then K (AVal.tup [AVal.ptr 3 0, AVal.bool false, AVal.bool false]) [some (Entry.cells [AVal.int .i64 (AX.s x).1, AVal.int .i64 (AX.s x).2, AVal.slice 1 0 (List.length (putI (putI (AX.s x).3 (fa (Int.toNat (↑x.1 : Int))) (fx (Int.toNat (↑x.1 : Int)))) (2 * n + 5 + 2 * t + 3 * me) x.3)) 1, AVal.int .i64 ((AX.s x).4 + 1 + 1), AVal.int .i64 2, AVal.int .i64 (2 * n + 5 + 2 * t + 3 * me), AVal.int .u64 (peek (putI (AX.s x).3 (fa (Int.toNat (↑x.1 : Int))) (fx (Int.toNat (↑x.1 : Int)))) (2 * n + 5 + 2 * t + 3 * me)), AVal.int .u64 (bif inB (putI (AX.s x).3 (fa (Int.toNat (↑x.1 : Int))) (fx (Int.toNat (↑x.1 : Int)))) (2 * n + 5 + 2 * t + 3 * me) then x.3 else 0), AVal.bool (inB (putI (AX.s x).3 (fa (Int.toNat (↑x.1 : Int))) (fx (Int.toNat (↑x.1 : Int)))) (2 * n + 5 + 2 * t + 3 * me))]), some (Entry.ints (some .u64) (putI (putI (AX.s x).3 (fa (Int.toNat (↑x.1 : Int))) (fx (Int.toNat (↑x.1 : Int)))) (2 * n + 5 + 2 * t + 3 * me) x.3)), some (Entry.cells [AVal.int .i64 t, AVal.int .i64 n, AVal.int .u64 x.3, AVal.int .i64 me, AVal.int .i64 (W ((↑x.1 : Int) + 1)), AVal.int .u64 bits, AVal.bool w, AVal.int .u64 x.4]), some (Entry.cells [AVal.tslice 4 0 (List.length x.5) 5, AVal.int .i64 0, AVal.bool false, AVal.bool false]), some (Entry.tab [some .i64, some .i64, some .u64, some .u64, none] x.5)] else ((List.length (putI (putI (AX.s x).3 (fa (Int.toNat (↑x.1 : Int))) (fx (Int.toNat (↑x.1 : Int)))) (2 * n + 5 + 2 * t + 3 * me) x.3) = List.length (putI (putI (AX.s x).3 (fa (Int.toNat (↑x.1 : Int))) (fx (Int.toNat (↑x.1 : Int)))) (2 * n + 5 + 2 * t + 3 * me) x.3) ∧ True) ∧ True) ∧ (0 = 0 ∧ List.length x.5 = List.length x.5 ∧ List.length x.5 + (1 : Nat) ≤ (4294967296 : Nat)) ∧ bif ilt 4 (W ((↑x.1 : Int) + 1)) then K (AVal.tup [AVal.ptr 3 0, AVal.bool true, AVal.bool true]) [some (Entry.cells [AVal.int .i64 (AX.s x).1, AVal.int .i64 (AX.s x).2, AVal.slice 1 0 (List.length (putI (putI (AX.s x).3 (fa (Int.toNat (↑x.1 : Int))) (fx (Int.toNat (↑x.1 : Int)))) (2 * n + 5 + 2 * t + 3 * me) x.3)) 1, AVal.int .i64 ((AX.s x).4 + 1 + 1), AVal.int .i64 2, AVal.int .i64 (2 * n + 5 + 2 * t + 3 * me), AVal.int .u64 (peek (putI (AX.s x).3 (fa (Int.toNat (↑x.1 : Int))) (fx (Int.toNat (↑x.1 : Int)))) (2 * n + 5 + 2 * t + 3 * me)), AVal.int .u64 (bif inB (putI (AX.s x).3 (fa (Int.toNat (↑x.1 : Int))) (fx (Int.toNat (↑x.1 : Int)))) (2 * n + 5 + 2 * t + 3 * me) then x.3 else 0), AVal.bool (inB (putI (AX.s x).3 (fa (Int.toNat (↑x.1 : Int))) (fx (Int.toNat (↑x.1 : Int)))) (2 * n + 5 + 2 * t + 3 * me))]), some (Entry.ints (some .u64) (putI (putI (AX.s x).3 (fa (Int.toNat (↑x.1 : Int))) (fx (Int.toNat (↑x.1 : Int)))) (2 * n + 5 + 2 * t + 3 * me) x.3)), some (Entry.cells [AVal.int .i64 t, AVal.int .i64 n, AVal.int .u64 x.3, AVal.int .i64 me, AVal.int .i64 (W ((↑x.1 : Int) + 1)), AVal.int .u64 bits, AVal.bool w, AVal.int .u64 x.4]), some (Entry.cells [AVal.tslice 4 0 (List.length x.5 + 1) 5, AVal.int .i64 0, AVal.bool false, AVal.bool false]), some (Entry.tab [some .i64, some .i64, some .u64, some .u64, none] (x.5 ++ [[2, 2 * n + 5 + 2 * t + 3 * me, peek (putI (AX.s x).3 (fa (Int.toNat (↑x.1 : Int))) (fx (Int.toNat (↑x.1 : Int)))) (2 * n + 5 + 2 * t + 3 * me), bif inB (putI (AX.s x).3 (fa (Int.toNat (↑x.1 : Int))) (fx (Int.toNat (↑x.1 : Int)))) (2 * n + 5 + 2 * t + 3 * me) then x.3 else 0, bif inB (putI (AX.s x).3 (fa (Int.toNat (↑x.1 : Int))) (fx (Int.toNat (↑x.1 : Int)))) (2 * n + 5 + 2 * t + 3 * me) then 1 else 0]]))] else okSt (HAX p fa fx t n me bits w) (fun x' => Hint.ok (HAX p fa fx t n me bits w) x' ∧ Hint.mu (HAX p fa fx t n me bits w) x' < Hint.mu (HAX p fa fx t n me bits w) x) [AVal.ptr 0 0, AVal.iface 93 (AVal.ptr 2 0), AVal.view p 2 fun i => [AVal.int .i64 (fa i), AVal.int .u64 (fx i)], AVal.int .i64 9, AVal.top, AVal.top, AVal.top, AVal.top, AVal.top, AVal.top, AVal.top, AVal.ptr 3 0, AVal.int .i64 (W ((↑x.1 : Int) + 1)), AVal.top, AVal.top, AVal.top, AVal.top, AVal.top, AVal.top, AVal.top, AVal.top, AVal.top, AVal.top, AVal.top, AVal.top, AVal.top, AVal.top, AVal.top, AVal.top, AVal.top, AVal.top, AVal.top, AVal.top, AVal.top, AVal.top, AVal.top, AVal.top, AVal.top, AVal.top, AVal.top, AVal.top, AVal.top, AVal.top, AVal.top, AVal.top, AVal.top, AVal.top, AVal.top, AVal.top, AVal.top, AVal.top, AVal.top, AVal.top, AVal.top, AVal.top, AVal.top, AVal.top, AVal.top, AVal.top, AVal.top, AVal.top, AVal.top, AVal.top] [some (Entry.cells [AVal.int .i64 (AX.s x).1, AVal.int .i64 (AX.s x).2, AVal.slice 1 0 (List.length (putI (putI (AX.s x).3 (fa (Int.toNat (↑x.1 : Int))) (fx (Int.toNat (↑x.1 : Int)))) (2 * n + 5 + 2 * t + 3 * me) x.3)) 1, AVal.int .i64 ((AX.s x).4 + 1 + 1), AVal.int .i64 2, AVal.int .i64 (2 * n + 5 + 2 * t + 3 * me), AVal.int .u64 (peek (putI (AX.s x).3 (fa (Int.toNat (↑x.1 : Int))) (fx (Int.toNat (↑x.1 : Int)))) (2 * n + 5 + 2 * t + 3 * me)), AVal.int .u64 (bif inB (putI (AX.s x).3 (fa (Int.toNat (↑x.1 : Int))) (fx (Int.toNat (↑x.1 : Int)))) (2 * n + 5 + 2 * t + 3 * me) then x.3 else 0), AVal.bool (inB (putI (AX.s x).3 (fa (Int.toNat (↑x.1 : Int))) (fx (Int.toNat (↑x.1 : Int)))) (2 * n + 5 + 2 * t + 3 * me))]), some (Entry.ints (some .u64) (putI (putI (AX.s x).3 (fa (Int.toNat (↑x.1 : Int))) (fx (Int.toNat (↑x.1 : Int)))) (2 * n + 5 + 2 * t + 3 * me) x.3)), some (Entry.cells [AVal.int .i64 t, AVal.int .i64 n, AVal.int .u64 x.3, AVal.int .i64 me, AVal.int .i64 (W ((↑x.1 : Int) + 1)), AVal.int .u64 bits, AVal.bool w, AVal.int .u64 x.4]), some (Entry.cells [AVal.tslice 4 0 (List.length x.5 + 1) 5, AVal.int .i64 0, AVal.bool false, AVal.bool false]), some (Entry.tab [some .i64, some .i64, some .u64, some .u64, none] (x.5 ++ [[2, 2 * n + 5 + 2 * t + 3 * me, peek (putI (AX.s x).3 (fa (Int.toNat (↑x.1 : Int))) (fx (Int.toNat (↑x.1 : Int)))) (2 * n + 5 + 2 * t + 3 * me), bif inB (putI (AX.s x).3 (fa (Int.toNat (↑x.1 : Int))) (fx (Int.toNat (↑x.1 : Int)))) (2 * n + 5 + 2 * t + 3 * me) then x.3 else 0, bif inB (putI (AX.s x).3 (fa (Int.toNat (↑x.1 : Int))) (fx (Int.toNat (↑x.1 : Int)))) (2 * n + 5 + 2 * t + 3 * me) then 1 else 0]]))] else bif ieq (↑x.1 : Int) 3 then ((((0 : Int) ≤ t ∧ t ≤ (100000 : Int)) ∧ ((0 : Int) ≤ n ∧ n ≤ (100000 : Int)) ∧ (-1099511627776 : Int) ≤ me ∧ me ≤ (1099511627776 : Int)) ∧ True) ∧ ((List.length (putI (AX.s x).3 (fa (Int.toNat (↑x.1 : Int))) (fx (Int.toNat (↑x.1 : Int)))) = List.length (putI (AX.s x).3 (fa (Int.toNat (↑x.1 : Int))) (fx (Int.toNat (↑x.1 : Int)))) ∧ (0 : Int) ≤ (AX.s x).4 + 1 ∧ (AX.s x).4 + (1 : Int) ≤ (4611686018427387904 : Int)) ∧ True) ∧ (List.length (putI (AX.s x).3 (fa (Int.toNat (↑x.1 : Int))) (fx (Int.toNat (↑x.1 : Int)))) = List.length (putI (AX.s x).3 (fa (Int.toNat (↑x.1 : Int))) (fx (Int.toNat (↑x.1 : Int)))) ∧ True) ∧ bif !ieq ((AX.s x).4 + 1 + 1) (W ((AX.s x).4 + 1 + 1)) then K (AVal.tup [AVal.ptr 3 0, AVal.bool false, AVal.bool false]) [some (Entry.cells [AVal.int .i64 (AX.s x).1, AVal.int .i64 (AX.s x).2, AVal.slice 1 0 (List.length (putI (AX.s x).3 (fa (Int.toNat (↑x.1 : Int))) (fx (Int.toNat (↑x.1 : Int))))) 1, AVal.int .i64 ((AX.s x).4 + 1 + 1), AVal.int .i64 1, AVal.int .i64 (2 * n + 5 + 2 * t + 3 * me + 2), AVal.int .u64 (peek (putI (AX.s x).3 (fa (Int.toNat (↑x.1 : Int))) (fx (Int.toNat (↑x.1 : Int)))) (2 * n + 5 + 2 * t + 3 * me + 2)), AVal.int .u64 (peek (putI (AX.s x).3 (fa (Int.toNat (↑x.1 : Int))) (fx (Int.toNat (↑x.1 : Int)))) (2 * n + 5 + 2 * t + 3 * me + 2)), AVal.bool (inB (putI (AX.s x).3 (fa (Int.toNat (↑x.1 : Int))) (fx (Int.toNat (↑x.1 : Int)))) (2 * n + 5 + 2 * t + 3 * me + 2))]), some (Entry.ints (some .u64) (putI (AX.s x).3 (fa (Int.toNat (↑x.1 : Int))) (fx (Int.toNat (↑x.1 : Int))))), some (Entry.cells [AVal.int .i64 t, AVal.int .i64 n, AVal.int .u64 x.3, AVal.int .i64 me, AVal.int .i64 (W ((↑x.1 : Int) + 1)), AVal.int .u64 bits, AVal.bool w, AVal.int .u64 (peek (putI (AX.s x).3 (fa (Int.toNat (↑x.1 : Int))) (fx (Int.toNat (↑x.1 : Int)))) (2 * n + 5 + 2 * t + 3 * me + 2))]), some (Entry.cells [AVal.tslice 4 0 (List.length x.5) 5, AVal.int .i64 0, AVal.bool false, AVal.bool false]), some (Entry.tab [some .i64, some .i64, some .u64, some .u64, none] x.5)] else ((List.length (putI (AX.s x).3 (fa (Int.toNat (↑x.1 : Int))) (fx (Int.toNat (↑x.1 : Int)))) = List.length (putI (AX.s x).3 (fa (Int.toNat (↑x.1 : Int))) (fx (Int.toNat (↑x.1 : Int)))) ∧ True) ∧ True) ∧ (0 = 0 ∧ List.length x.5 = List.length x.5 ∧ List.length x.5 + (1 : Nat) ≤ (4294967296 : Nat)) ∧ bif ilt 4 (W ((↑x.1 : Int) + 1)) then K (AVal.tup [AVal.ptr 3 0, AVal.bool true, AVal.bool true]) [some (Entry.cells [AVal.int .i64 (AX.s x).1, AVal.int .i64 (AX.s x).2, AVal.slice 1 0 (List.length (putI (AX.s x).3 (fa (Int.toNat (↑x.1 : Int))) (fx (Int.toNat (↑x.1 : Int))))) 1, AVal.int .i64 ((AX.s x).4 + 1 + 1), AVal.int .i64 1, AVal.int .i64 (2 * n + 5 + 2 * t + 3 * me + 2), AVal.int .u64 (peek (putI (AX.s x).3 (fa (Int.toNat (↑x.1 : Int))) (fx (Int.toNat (↑x.1 : Int)))) (2 * n + 5 + 2 * t + 3 * me + 2)), AVal.int .u64 (peek (putI (AX.s x).3 (fa (Int.toNat (↑x.1 : Int))) (fx (Int.toNat (↑x.1 : Int)))) (2 * n + 5 + 2 * t + 3 * me + 2)), AVal.bool (inB (putI (AX.s x).3 (fa (Int.toNat (↑x.1 : Int))) (fx (Int.toNat (↑x.1 : Int)))) (2 * n + 5 + 2 * t + 3 * me + 2))]), some (Entry.ints (some .u64) (putI (AX.s x).3 (fa (Int.toNat (↑x.1 : Int))) (fx (Int.toNat (↑x.1 : Int))))), some (Entry.cells [AVal.int .i64 t, AVal.int .i64 n, AVal.int .u64 x.3, AVal.int .i64 me, AVal.int .i64 (W ((↑x.1 : Int) + 1)), AVal.int .u64 bits, AVal.bool w, AVal.int .u64 (peek (putI (AX.s x).3 (fa (Int.toNat (↑x.1 : Int))) (fx (Int.toNat (↑x.1 : Int)))) (2 * n + 5 + 2 * t + 3 * me + 2))]), some (Entry.cells [AVal.tslice 4 0 (List.length x.5 + 1) 5, AVal.int .i64 0, AVal.bool false, AVal.bool false]), some (Entry.tab [some .i64, some .i64, some .u64, some .u64, none] (x.5 ++ [[1, 2 * n + 5 + 2 * t + 3 * me + 2, peek (putI (AX.s x).3 (fa (Int.toNat (↑x.1 : Int))) (fx (Int.toNat (↑x.1 : Int)))) (2 * n + 5 + 2 * t + 3 * me + 2), peek (putI (AX.s x).3 (fa (Int.toNat (↑x.1 : Int))) (fx (Int.toNat (↑x.1 : Int)))) (2 * n + 5 + 2 * t + 3 * me + 2), bif inB (putI (AX.s x).3 (fa (Int.toNat (↑x.1 : Int))) (fx (Int.toNat (↑x.1 : Int)))) (2 * n + 5 + 2 * t + 3 * me + 2) then 1 else 0]]))] else okSt (HAX p fa fx t n me bits w) (fun x' => Hint.ok (HAX p fa fx t n me bits w) x' ∧ Hint.mu (HAX p fa fx t n me bits w) x' < Hint.mu (HAX p fa fx t n me bits w) x) [AVal.ptr 0 0, AVal.iface 93 (AVal.ptr 2 0), AVal.view p 2 fun i => [AVal.int .i64 (fa i), AVal.int .u64 (fx i)], AVal.int .i64 9, AVal.top, AVal.top, AVal.top, AVal.top, AVal.top, AVal.top, AVal.top, AVal.ptr 3 0, AVal.int .i64 (W ((↑x.1 : Int) + 1)), AVal.top, AVal.top, AVal.top, AVal.top, AVal.top, AVal.top, AVal.top, AVal.top, AVal.top, AVal.top, AVal.top, AVal.top, AVal.top, AVal.top, AVal.top, AVal.top, AVal.top, AVal.top, AVal.top, AVal.top, AVal.top, AVal.top, AVal.top, AVal.top, AVal.top, AVal.top, AVal.top, AVal.top, AVal.top, AVal.top, AVal.top, AVal.top, AVal.top, AVal.top, AVal.top, AVal.top, AVal.top, AVal.top, AVal.top, AVal.top, AVal.top, AVal.top, AVal.top, AVal.top, AVal.top, AVal.top, AVal.top, AVal.top, AVal.top, AVal.top] [some (Entry.cells [AVal.int .i64 (AX.s x).1, AVal.int .i64 (AX.s x).2, AVal.slice 1 0 (List.length (putI (AX.s x).3 (fa (Int.toNat (↑x.1 : Int))) (fx (Int.toNat (↑x.1 : Int))))) 1, AVal.int .i64 ((AX.s x).4 + 1 + 1), AVal.int .i64 1, AVal.int .i64 (2 * n + 5 + 2 * t + 3 * me + 2), AVal.int .u64 (peek (putI (AX.s x).3 (fa (Int.toNat (↑x.1 : Int))) (fx (Int.toNat (↑x.1 : Int)))) (2 * n + 5 + 2 * t + 3 * me + 2)), AVal.int .u64 (peek (putI (AX.s x).3 (fa (Int.toNat (↑x.1 : Int))) (fx (Int.toNat (↑x.1 : Int)))) (2 * n + 5 + 2 * t + 3 * me + 2)), AVal.bool (inB (putI (AX.s x).3 (fa (Int.toNat (↑x.1 : Int))) (fx (Int.toNat (↑x.1 : Int)))) (2 * n + 5 + 2 * t + 3 * me + 2))]), some (Entry.ints (some .u64) (putI (AX.s x).3 (fa (Int.toNat (↑x.1 : Int))) (fx (Int.toNat (↑x.1 : Int))))), some (Entry.cells [AVal.int .i64 t, AVal.int .i64 n, AVal.int .u64 x.3, AVal.int .i64 me, AVal.int .i64 (W ((↑x.1 : Int) + 1)), AVal.int .u64 bits, AVal.bool w, AVal.int .u64 (peek (putI (AX.s x).3 (fa (Int.toNat (↑x.1 : Int))) (fx (Int.toNat (↑x.1 : Int)))) (2 * n + 5 + 2 * t + 3 * me + 2))]), some (Entry.cells [AVal.tslice 4 0 (List.length x.5 + 1) 5, AVal.int .i64 0, AVal.bool false, AVal.bool false]), some (Entry.tab [some .i64, some .i64, some .u64, some .u64, none] (x.5 ++ [[1, 2 * n + 5 + 2 * t + 3 * me + 2, peek (putI (AX.s x).3 (fa (Int.toNat (↑x.1 : Int))) (fx (Int.toNat (↑x.1 : Int)))) (2 * n + 5 + 2 * t + 3 * me + 2), peek (putI (AX.s x).3 (fa (Int.toNat (↑x.1 : Int))) (fx (Int.toNat (↑x.1 : Int)))) (2 * n + 5 + 2 * t + 3 * me + 2), bif inB (putI (AX.s x).3 (fa (Int.toNat (↑x.1 : Int))) (fx (Int.toNat (↑x.1 : Int)))) (2 * n + 5 + 2 * t + 3 * me + 2) then 1 else 0]]))] else True ∧ ((0 : Int) ≤ cutI x.4 0 12 ∧ cutI x.4 0 (12 : Int) ≤ (1000000 : Int)) ∧ True ∧ ((((0 : Int) ≤ t ∧ t ≤ (100000 : Int)) ∧ ((0 : Int) ≤ n ∧ n ≤ (100000 : Int)) ∧ (-1099511627776 : Int) ≤ me ∧ me ≤ (1099511627776 : Int)) ∧ True) ∧ ((List.length (putI (AX.s x).3 (fa (Int.toNat (↑x.1 : Int))) (fx (Int.toNat (↑x.1 : Int)))) = List.length (putI (AX.s x).3 (fa (Int.toNat (↑x.1 : Int))) (fx (Int.toNat (↑x.1 : Int)))) ∧ (0 : Int) ≤ (AX.s x).4 + 1 ∧ (AX.s x).4 + (1 : Int) ≤ (4611686018427387904 : Int)) ∧ True) ∧ (List.length (putI (putI (AX.s x).3 (fa (Int.toNat (↑x.1 : Int))) (fx (Int.toNat (↑x.1 : Int)))) (2 * n + 5 + 2 * t + 3 * me + 2) (bif dOk (attI (cutI x.4 0 12)) 0 0 0 1 0 then dPutV (attI (cutI x.4 0 12)) 0 0 0 false 1 0 else 0)) = List.length (putI (putI (AX.s x).3 (fa (Int.toNat (↑x.1 : Int))) (fx (Int.toNat (↑x.1 : Int)))) (2 * n + 5 + 2 * t + 3 * me + 2) (bif dOk (attI (cutI x.4 0 12)) 0 0 0 1 0 then dPutV (attI (cutI x.4 0 12)) 0 0 0 false 1 0 else 0)) ∧ True) ∧ bif !ieq ((AX.s x).4 + 1 + 1) (W ((AX.s x).4 + 1 + 1)) then K (AVal.tup [AVal.ptr 3 0, AVal.bool false, AVal.bool false]) [some (Entry.cells [AVal.int .i64 (AX.s x).1, AVal.int .i64 (AX.s x).2, AVal.slice 1 0 (List.length (putI (putI (AX.s x).3 (fa (Int.toNat (↑x.1 : Int))) (fx (Int.toNat (↑x.1 : Int)))) (2 * n + 5 + 2 * t + 3 * me + 2) (bif dOk (attI (cutI x.4 0 12)) 0 0 0 1 0 then dPutV (attI (cutI x.4 0 12)) 0 0 0 false 1 0 else 0))) 1, AVal.int .i64 ((AX.s x).4 + 1 + 1), AVal.int .i64 2, AVal.int .i64 (2 * n + 5 + 2 * t + 3 * me + 2), AVal.int .u64 (peek (putI (AX.s x).3 (fa (Int.toNat (↑x.1 : Int))) (fx (Int.toNat (↑x.1 : Int)))) (2 * n + 5 + 2 * t + 3 * me + 2)), AVal.int .u64 (bif inB (putI (AX.s x).3 (fa (Int.toNat (↑x.1 : Int))) (fx (Int.toNat (↑x.1 : Int)))) (2 * n + 5 + 2 * t + 3 * me + 2) then bif dOk (attI (cutI x.4 0 12)) 0 0 0 1 0 then dPutV (attI (cutI x.4 0 12)) 0 0 0 false 1 0 else 0 else 0), AVal.bool (inB (putI (AX.s x).3 (fa (Int.toNat (↑x.1 : Int))) (fx (Int.toNat (↑x.1 : Int)))) (2 * n + 5 + 2 * t + 3 * me + 2))]), some (Entry.ints (some .u64) (putI (putI (AX.s x).3 (fa (Int.toNat (↑x.1 : Int))) (fx (Int.toNat (↑x.1 : Int)))) (2 * n + 5 + 2 * t + 3 * me + 2) (bif dOk (attI (cutI x.4 0 12)) 0 0 0 1 0 then dPutV (attI (cutI x.4 0 12)) 0 0 0 false 1 0 else 0))), some (Entry.cells [AVal.int .i64 t, AVal.int .i64 n, AVal.int .u64 x.3, AVal.int .i64 me, AVal.int .i64 (W ((↑x.1 : Int) + 1)), AVal.int .u64 bits, AVal.bool w, AVal.int .u64 x.4]), some (Entry.cells [AVal.tslice 4 0 (List.length x.5) 5, AVal.int .i64 0, AVal.bool false, AVal.bool false]), some (Entry.tab [some .i64, some .i64, some .u64, some .u64, none] x.5)] else ((List.length (putI (putI (AX.s x).3 (fa (Int.toNat (↑x.1 : Int))) (fx (Int.toNat (↑x.1 : Int)))) (2 * n + 5 + 2 * t + 3 * me + 2) (bif dOk (attI (cutI x.4 0 12)) 0 0 0 1 0 then dPutV (attI (cutI x.4 0 12)) 0 0 0 false 1 0 else 0)) = List.length (putI (putI (AX.s x).3 (fa (Int.toNat (↑x.1 : Int))) (fx (Int.toNat (↑x.1 : Int)))) (2 * n + 5 + 2 * t + 3 * me + 2) (bif dOk (attI (cutI x.4 0 12)) 0 0 0 1 0 then dPutV (attI (cutI x.4 0 12)) 0 0 0 false 1 0 else 0)) ∧ True) ∧ True) ∧ (0 = 0 ∧ List.length x.5 = List.length x.5 ∧ List.length x.5 + (1 : Nat) ≤ (4294967296 : Nat)) ∧ bif ilt 4 (W ((↑x.1 : Int) + 1)) then K (AVal.tup [AVal.ptr 3 0, AVal.bool true, AVal.bool true]) [some (Entry.cells [AVal.int .i64 (AX.s x).1, AVal.int .i64 (AX.s x).2, AVal.slice 1 0 (List.length (putI (putI (AX.s x).3 (fa (Int.toNat (↑x.1 : Int))) (fx (Int.toNat (↑x.1 : Int)))) (2 * n + 5 + 2 * t + 3 * me + 2) (bif dOk (attI (cutI x.4 0 12)) 0 0 0 1 0 then dPutV (attI (cutI x.4 0 12)) 0 0 0 false 1 0 else 0))) 1, AVal.int .i64 ((AX.s x).4 + 1 + 1), AVal.int .i64 2, AVal.int .i64 (2 * n + 5 + 2 * t + 3 * me + 2), AVal.int .u64 (peek (putI (AX.s x).3 (fa (Int.toNat (↑x.1 : Int))) (fx (Int.toNat (↑x.1 : Int)))) (2 * n + 5 + 2 * t + 3 * me + 2)), AVal.int .u64 (bif inB (putI (AX.s x).3 (fa (Int.toNat (↑x.1 : Int))) (fx (Int.toNat (↑x.1 : Int)))) (2 * n + 5 + 2 * t + 3 * me + 2) then bif dOk (attI (cutI x.4 0 12)) 0 0 0 1 0 then dPutV (attI (cutI x.4 0 12)) 0 0 0 false 1 0 else 0 else 0), AVal.bool (inB (putI (AX.s x).3 (fa (Int.toNat (↑x.1 : Int))) (fx (Int.toNat (↑x.1 : Int)))) (2 * n + 5 + 2 * t + 3 * me + 2))]), some (Entry.ints (some .u64) (putI (putI (AX.s x).3 (fa (Int.toNat (↑x.1 : Int))) (fx (Int.toNat (↑x.1 : Int)))) (2 * n + 5 + 2 * t + 3 * me + 2) (bif dOk (attI (cutI x.4 0 12)) 0 0 0 1 0 then dPutV (attI (cutI x.4 0 12)) 0 0 0 false 1 0 else 0))), some (Entry.cells [AVal.int .i64 t, AVal.int .i64 n, AVal.int .u64 x.3, AVal.int .i64 me, AVal.int .i64 (W ((↑x.1 : Int) + 1)), AVal.int .u64 bits, AVal.bool w, AVal.int .u64 x.4]), some (Entry.cells [AVal.tslice 4 0 (List.length x.5 + 1) 5, AVal.int .i64 0, AVal.bool false, AVal.bool false]), some (Entry.tab [some .i64, some .i64, some .u64, some .u64, none] (x.5 ++ [[2, 2 * n + 5 + 2 * t + 3 * me + 2, peek (putI (AX.s x).3 (fa (Int.toNat (↑x.1 : Int))) (fx (Int.toNat (↑x.1 : Int)))) (2 * n + 5 + 2 * t + 3 * me + 2), bif inB (putI (AX.s x).3 (fa (Int.toNat (↑x.1 : Int))) (fx (Int.toNat (↑x.1 : Int)))) (2 * n + 5 + 2 * t + 3 * me + 2) then bif dOk (attI (cutI x.4 0 12)) 0 0 0 1 0 then dPutV (attI (cutI x.4 0 12)) 0 0 0 false 1 0 else 0 else 0, bif inB (putI (AX.s x).3 (fa (Int.toNat (↑x.1 : Int))) (fx (Int.toNat (↑x.1 : Int)))) (2 * n + 5 + 2 * t + 3 * me + 2) then 1 else 0]]))] else okSt (HAX p fa fx t n me bits w) (fun x' => Hint.ok (HAX p fa fx t n me bits w) x' ∧ Hint.mu (HAX p fa fx t n me bits w) x' < Hint.mu (HAX p fa fx t n me bits w) x) [AVal.ptr 0 0, AVal.iface 93 (AVal.ptr 2 0), AVal.view p 2 fun i => [AVal.int .i64 (fa i), AVal.int .u64 (fx i)], AVal.int .i64 9, AVal.top, AVal.top, AVal.top, AVal.top, AVal.top, AVal.top, AVal.top, AVal.ptr 3 0, AVal.int .i64 (W ((↑x.1 : Int) + 1)), AVal.top, AVal.top, AVal.top, AVal.top, AVal.top, AVal.top, AVal.top, AVal.top, AVal.top, AVal.top, AVal.top, AVal.top, AVal.top, AVal.top, AVal.top, AVal.top, AVal.top, AVal.top, AVal.top, AVal.top, AVal.top, AVal.top, AVal.top, AVal.top, AVal.top, AVal.top, AVal.top, AVal.top, AVal.top, AVal.top, AVal.top, AVal.top, AVal.top, AVal.top, AVal.top, AVal.top, AVal.top, AVal.top, AVal.top, AVal.top, AVal.top, AVal.top, AVal.top, AVal.top, AVal.top, AVal.top, AVal.top, AVal.top, AVal.top, AVal.top] [some (Entry.cells [AVal.int .i64 (AX.s x).1, AVal.int .i64 (AX.s x).2, AVal.slice 1 0 (List.length (putI (putI (AX.s x).3 (fa (Int.toNat (↑x.1 : Int))) (fx (Int.toNat (↑x.1 : Int)))) (2 * n + 5 + 2 * t + 3 * me + 2) (bif dOk (attI (cutI x.4 0 12)) 0 0 0 1 0 then dPutV (attI (cutI x.4 0 12)) 0 0 0 false 1 0 else 0))) 1, AVal.int .i64 ((AX.s x).4 + 1 + 1), AVal.int .i64 2, AVal.int .i64 (2 * n + 5 + 2 * t + 3 * me + 2), AVal.int .u64 (peek (putI (AX.s x).3 (fa (Int.toNat (↑x.1 : Int))) (fx (Int.toNat (↑x.1 : Int)))) (2 * n + 5 + 2 * t + 3 * me + 2)), AVal.int .u64 (bif inB (putI (AX.s x).3 (fa (Int.toNat (↑x.1 : Int))) (fx (Int.toNat (↑x.1 : Int)))) (2 * n + 5 + 2 * t + 3 * me + 2) then bif dOk (attI (cutI x.4 0 12)) 0 0 0 1 0 then dPutV (attI (cutI x.4 0 12)) 0 0 0 false 1 0 else 0 else 0), AVal.bool (inB (putI (AX.s x).3 (fa (Int.toNat (↑x.1 : Int))) (fx (Int.toNat (↑x.1 : Int)))) (2 * n + 5 + 2 * t + 3 * me + 2))]), some (Entry.ints (some .u64) (putI (putI (AX.s x).3 (fa (Int.toNat (↑x.1 : Int))) (fx (Int.toNat (↑x.1 : Int)))) (2 * n + 5 + 2 * t + 3 * me + 2) (bif dOk (attI (cutI x.4 0 12)) 0 0 0 1 0 then dPutV (attI (cutI x.4 0 12)) 0 0 0 false 1 0 else 0))), some (Entry.cells [AVal.int .i64 t, AVal.int .i64 n, AVal.int .u64 x.3, AVal.int .i64 me, AVal.int .i64 (W ((↑x.1 : Int) + 1)), AVal.int .u64 bits, AVal.bool w, AVal.int .u64 x.4]), some (Entry.cells [AVal.tslice 4 0 (List.length x.5 + 1) 5, AVal.int .i64 0, AVal.bool false, AVal.bool false]), some (Entry.tab [some .i64, some .i64, some .u64, some .u64, none] (x.5 ++ [[2, 2 * n + 5 + 2 * t + 3 * me + 2, peek (putI (AX.s x).3 (fa (Int.toNat (↑x.1 : Int))) (fx (Int.toNat (↑x.1 : Int)))) (2 * n + 5 + 2 * t + 3 * me + 2), bif inB (putI (AX.s x).3 (fa (Int.toNat (↑x.1 : Int))) (fx (Int.toNat (↑x.1 : Int)))) (2 * n + 5 + 2 * t + 3 * me + 2) then bif dOk (attI (cutI x.4 0 12)) 0 0 0 1 0 then dPutV (attI (cutI x.4 0 12)) 0 0 0 false 1 0 else 0 else 0, bif inB (putI (AX.s x).3 (fa (Int.toNat (↑x.1 : Int))) (fx (Int.toNat (↑x.1 : Int)))) (2 * n + 5 + 2 * t + 3 * me + 2) then 1 else 0]]))] else (List.length (AX.s x).3 = List.length (AX.s x).3 ∧ True) ∧ bif w then (List.length (AX.s x).3 = List.length (AX.s x).3 ∧ (0 : Int) ≤ (AX.s x).4 ∧ (AX.s x).4 ≤ (4611686018427387904 : Int)) ∧ (List.length (AX.s x).3 = List.length (AX.s x).3 ∧ True) ∧ bif !ieq ((AX.s x).4 + 1) (W ((AX.s x).4 + 1)) then K (AVal.tup [AVal.ptr 3 0, AVal.bool false, AVal.bool false]) [some (Entry.cells [AVal.int .i64 (AX.s x).1, AVal.int .i64 (AX.s x).2, AVal.slice 1 0 (List.length (AX.s x).3) 1, AVal.int .i64 ((AX.s x).4 + 1), AVal.int .i64 1, AVal.int .i64 0, AVal.int .u64 (peek (AX.s x).3 0), AVal.int .u64 (peek (AX.s x).3 0), AVal.bool (inB (AX.s x).3 0)]), some (Entry.ints (some .u64) (AX.s x).3), some (Entry.cells [AVal.int .i64 t, AVal.int .i64 n, AVal.int .u64 x.3, AVal.int .i64 me, AVal.int .i64 (↑x.1 : Int), AVal.int .u64 bits, AVal.bool w, AVal.int .u64 x.4]), some (Entry.cells [AVal.tslice 4 0 (List.length x.5) 5, AVal.int .i64 0, AVal.bool false, AVal.bool false]), some (Entry.tab [some .i64, some .i64, some .u64, some .u64, none] x.5)] else ((List.length (AX.s x).3 = List.length (AX.s x).3 ∧ True) ∧ True) ∧ (0 = 0 ∧ List.length x.5 = List.length x.5 ∧ List.length x.5 + (1 : Nat) ≤ (4294967296 : Nat)) ∧ K (AVal.tup [AVal.ptr 3 0, AVal.bool true, AVal.bool true]) [some (Entry.cells [AVal.int .i64 (AX.s x).1, AVal.int .i64 (AX.s x).2, AVal.slice 1 0 (List.length (AX.s x).3) 1, AVal.int .i64 ((AX.s x).4 + 1), AVal.int .i64 1, AVal.int .i64 0, AVal.int .u64 (peek (AX.s x).3 0), AVal.int .u64 (peek (AX.s x).3 0), AVal.bool (inB (AX.s x).3 0)]), some (Entry.ints (some .u64) (AX.s x).3), some (Entry.cells [AVal.int .i64 t, AVal.int .i64 n, AVal.int .u64 x.3, AVal.int .i64 me, AVal.int .i64 (↑x.1 : Int), AVal.int .u64 bits, AVal.bool w, AVal.int .u64 x.4]), some (Entry.cells [AVal.tslice 4 0 (List.length x.5 + 1) 5, AVal.int .i64 0, AVal.bool false, AVal.bool false]), some (Entry.tab [some .i64, some .i64, some .u64, some .u64, none] (x.5 ++ [[1, 0, peek (AX.s x).3 0, peek (AX.s x).3 0, bif inB (AX.s x).3 0 then 1 else 0]]))] else bif ieq (↑x.1 : Int) 0 then ((((0 : Int) ≤ t ∧ t ≤ (100000 : Int)) ∧ ((0 : Int) ≤ n ∧ n ≤ (100000 : Int)) ∧ (-1099511627776 : Int) ≤ me ∧ me ≤ (1099511627776 : Int)) ∧ True) ∧ ((List.length (AX.s x).3 = List.length (AX.s x).3 ∧ (0 : Int) ≤ (AX.s x).4 ∧ (AX.s x).4 ≤ (4611686018427387904 : Int)) ∧ True) ∧ (List.length (putI (AX.s x).3 (2 * n + 5 + 2 * t + 3 * me + 1) bits) = List.length (putI (AX.s x).3 (2 * n + 5 + 2 * t + 3 * me + 1) bits) ∧ True) ∧ bif !ieq ((AX.s x).4 + 1) (W ((AX.s x).4 + 1)) then K (AVal.tup [AVal.ptr 3 0, AVal.bool false, AVal.bool false]) [some (Entry.cells [AVal.int .i64 (AX.s x).1, AVal.int .i64 (AX.s x).2, AVal.slice 1 0 (List.length (putI (AX.s x).3 (2 * n + 5 + 2 * t + 3 * me + 1) bits)) 1, AVal.int .i64 ((AX.s x).4 + 1), AVal.int .i64 2, AVal.int .i64 (2 * n + 5 + 2 * t + 3 * me + 1), AVal.int .u64 (peek (AX.s x).3 (2 * n + 5 + 2 * t + 3 * me + 1)), AVal.int .u64 (bif inB (AX.s x).3 (2 * n + 5 + 2 * t + 3 * me + 1) then bits else 0), AVal.bool (inB (AX.s x).3 (2 * n + 5 + 2 * t + 3 * me + 1))]), some (Entry.ints (some .u64) (putI (AX.s x).3 (2 * n + 5 + 2 * t + 3 * me + 1) bits)), some (Entry.cells [AVal.int .i64 t, AVal.int .i64 n, AVal.int .u64 x.3, AVal.int .i64 me, AVal.int .i64 (W ((↑x.1 : Int) + 1)), AVal.int .u64 bits, AVal.bool w, AVal.int .u64 x.4]), some (Entry.cells [AVal.tslice 4 0 (List.length x.5) 5, AVal.int .i64 0, AVal.bool false, AVal.bool false]), some (Entry.tab [some .i64, some .i64, some .u64, some .u64, none] x.5)] else ((List.length (putI (AX.s x).3 (2 * n + 5 + 2 * t + 3 * me + 1) bits) = List.length (putI (AX.s x).3 (2 * n + 5 + 2 * t + 3 * me + 1) bits) ∧ True) ∧ True) ∧ (0 = 0 ∧ List.length x.5 = List.length x.5 ∧ List.length x.5 + (1 : Nat) ≤ (4294967296 : Nat)) ∧ bif ilt 4 (W ((↑x.1 : Int) + 1)) then K (AVal.tup [AVal.ptr 3 0, AVal.bool true, AVal.bool true]) [some (Entry.cells [AVal.int .i64 (AX.s x).1, AVal.int .i64 (AX.s x).2, AVal.slice 1 0 (List.length (putI (AX.s x).3 (2 * n + 5 + 2 * t + 3 * me + 1) bits)) 1, AVal.int .i64 ((AX.s x).4 + 1), AVal.int .i64 2, AVal.int .i64 (2 * n + 5 + 2 * t + 3 * me + 1), AVal.int .u64 (peek (AX.s x).3 (2 * n + 5 + 2 * t + 3 * me + 1)), AVal.int .u64 (bif inB (AX.s x).3 (2 * n + 5 + 2 * t + 3 * me + 1) then bits else 0), AVal.bool (inB (AX.s x).3 (2 * n + 5 + 2 * t + 3 * me + 1))]), some (Entry.ints (some .u64) (putI (AX.s x).3 (2 * n + 5 + 2 * t + 3 * me + 1) bits)), some (Entry.cells [AVal.int .i64 t, AVal.int .i64 n, AVal.int .u64 x.3, AVal.int .i64 me, AVal.int .i64 (W ((↑x.1 : Int) + 1)), AVal.int .u64 bits, AVal.bool w, AVal.int .u64 x.4]), some (Entry.cells [AVal.tslice 4 0 (List.length x.5 + 1) 5, AVal.int .i64 0, AVal.bool false, AVal.bool false]), some (Entry.tab [some .i64, some .i64, some .u64, some .u64, none] (x.5 ++ [[2, 2 * n + 5 + 2 * t + 3 * me + 1, peek (AX.s x).3 (2 * n + 5 + 2 * t + 3 * me + 1), bif inB (AX.s x).3 (2 * n + 5 + 2 * t + 3 * me + 1) then bits else 0, bif inB (AX.s x).3 (2 * n + 5 + 2 * t + 3 * me + 1) then 1 else 0]]))] else okSt (HAX p fa fx t n me bits w) (fun x' => Hint.ok (HAX p fa fx t n me bits w) x' ∧ Hint.mu (HAX p fa fx t n me bits w) x' < Hint.mu (HAX p fa fx t n me bits w) x) [AVal.ptr 0 0, AVal.iface 93 (AVal.ptr 2 0), AVal.view p 2 fun i => [AVal.int .i64 (fa i), AVal.int .u64 (fx i)], AVal.int .i64 9, AVal.top, AVal.top, AVal.top, AVal.top, AVal.top, AVal.top, AVal.top, AVal.ptr 3 0, AVal.int .i64 (W ((↑x.1 : Int) + 1)), AVal.top, AVal.top, AVal.top, AVal.top, AVal.top, AVal.top, AVal.top, AVal.top, AVal.top, AVal.top, AVal.top, AVal.top, AVal.top, AVal.top, AVal.top, AVal.top, AVal.top, AVal.top, AVal.top, AVal.top, AVal.top, AVal.top, AVal.top, AVal.top, AVal.top, AVal.top, AVal.top, AVal.top, AVal.top, AVal.top, AVal.top, AVal.top, AVal.top, AVal.top, AVal.top, AVal.top, AVal.top, AVal.top, AVal.top, AVal.top, AVal.top, AVal.top, AVal.top, AVal.top, AVal.top, AVal.top, AVal.top, AVal.top, AVal.top, AVal.top] [some (Entry.cells [AVal.int .i64 (AX.s x).1, AVal.int .i64 (AX.s x).2, AVal.slice 1 0 (List.length (putI (AX.s x).3 (2 * n + 5 + 2 * t + 3 * me + 1) bits)) 1, AVal.int .i64 ((AX.s x).4 + 1), AVal.int .i64 2, AVal.int .i64 (2 * n + 5 + 2 * t + 3 * me + 1), AVal.int .u64 (peek (AX.s x).3 (2 * n + 5 + 2 * t + 3 * me + 1)), AVal.int .u64 (bif inB (AX.s x).3 (2 * n + 5 + 2 * t + 3 * me + 1) then bits else 0), AVal.bool (inB (AX.s x).3 (2 * n + 5 + 2 * t + 3 * me + 1))]), some (Entry.ints (some .u64) (putI (AX.s x).3 (2 * n + 5 + 2 * t + 3 * me + 1) bits)), some (Entry.cells [AVal.int .i64 t, AVal.int .i64 n, AVal.int .u64 x.3, AVal.int .i64 me, AVal.int .i64 (W ((↑x.1 : Int) + 1)), AVal.int .u64 bits, AVal.bool w, AVal.int .u64 x.4]), some (Entry.cells [AVal.tslice 4 0 (List.length x.5 + 1) 5, AVal.int .i64 0, AVal.bool false, AVal.bool false]), some (Entry.tab [some .i64, some .i64, some .u64, some .u64, none] (x.5 ++ [[2, 2 * n + 5 + 2 * t + 3 * me + 1, peek (AX.s x).3 (2 * n + 5 + 2 * t + 3 * me + 1), bif inB (AX.s x).3 (2 * n + 5 + 2 * t + 3 * me + 1) then bits else 0, bif inB (AX.s x).3 (2 * n + 5 + 2 * t + 3 * me + 1) then 1 else 0]]))] else bif ieq (↑x.1 : Int) 1 then (((0 : Int) ≤ t ∧ t ≤ (100000 : Int)) ∧ (0 : Int) ≤ n ∧ n ≤ (100000 : Int)) ∧ (List.length (AX.s x).3 = List.length (AX.s x).3 ∧ (0 : Int) ≤ (AX.s x).4 ∧ (AX.s x).4 ≤ (4611686018427387904 : Int)) ∧ (List.length (putI (AX.s x).3 (2 * n + 5 + 2 * t + 3 * t) (WU (peek (AX.s x).3 (2 * n + 5 + 2 * t + 3 * t) + 1))) = List.length (putI (AX.s x).3 (2 * n + 5 + 2 * t + 3 * t) (WU (peek (AX.s x).3 (2 * n + 5 + 2 * t + 3 * t) + 1))) ∧ True) ∧ bif !ieq ((AX.s x).4 + 1) (W ((AX.s x).4 + 1)) then K (AVal.tup [AVal.ptr 3 0, AVal.bool false, AVal.bool false]) [some (Entry.cells [AVal.int .i64 (AX.s x).1, AVal.int .i64 (AX.s x).2, AVal.slice 1 0 (List.length (putI (AX.s x).3 (2 * n + 5 + 2 * t + 3 * t) (WU (peek (AX.s x).3 (2 * n + 5 + 2 * t + 3 * t) + 1)))) 1, AVal.int .i64 ((AX.s x).4 + 1), AVal.int .i64 4, AVal.int .i64 (2 * n + 5 + 2 * t + 3 * t), AVal.int .u64 (peek (AX.s x).3 (2 * n + 5 + 2 * t + 3 * t)), AVal.int .u64 (bif inB (AX.s x).3 (2 * n + 5 + 2 * t + 3 * t) then WU (peek (AX.s x).3 (2 * n + 5 + 2 * t + 3 * t) + 1) else 0), AVal.bool (inB (AX.s x).3 (2 * n + 5 + 2 * t + 3 * t))]), some (Entry.ints (some .u64) (putI (AX.s x).3 (2 * n + 5 + 2 * t + 3 * t) (WU (peek (AX.s x).3 (2 * n + 5 + 2 * t + 3 * t) + 1)))), some (Entry.cells [AVal.int .i64 t, AVal.int .i64 n, AVal.int .u64 (WU (peek (AX.s x).3 (2 * n + 5 + 2 * t + 3 * t) + 1)), AVal.int .i64 me, AVal.int .i64 (W ((↑x.1 : Int) + 1)), AVal.int .u64 bits, AVal.bool w, AVal.int .u64 x.4]), some (Entry.cells [AVal.tslice 4 0 (List.length x.5) 5, AVal.int .i64 0, AVal.bool false, AVal.bool false]), some (Entry.tab [some .i64, some .i64, some .u64, some .u64, none] x.5)] else ((List.length (putI (AX.s x).3 (2 * n + 5 + 2 * t + 3 * t) (WU (peek (AX.s x).3 (2 * n + 5 + 2 * t + 3 * t) + 1))) = List.length (putI (AX.s x).3 (2 * n + 5 + 2 * t + 3 * t) (WU (peek (AX.s x).3 (2 * n + 5 + 2 * t + 3 * t) + 1))) ∧ True) ∧ True) ∧ (0 = 0 ∧ List.length x.5 = List.length x.5 ∧ List.length x.5 + (1 : Nat) ≤ (4294967296 : Nat)) ∧ bif ilt 4 (W ((↑x.1 : Int) + 1)) then K (AVal.tup [AVal.ptr 3 0, AVal.bool true, AVal.bool true]) [some (Entry.cells [AVal.int .i64 (AX.s x).1, AVal.int .i64 (AX.s x).2, AVal.slice 1 0 (List.length (putI (AX.s x).3 (2 * n + 5 + 2 * t + 3 * t) (WU (peek (AX.s x).3 (2 * n + 5 + 2 * t + 3 * t) + 1)))) 1, AVal.int .i64 ((AX.s x).4 + 1), AVal.int .i64 4, AVal.int .i64 (2 * n + 5 + 2 * t + 3 * t), AVal.int .u64 (peek (AX.s x).3 (2 * n + 5 + 2 * t + 3 * t)), AVal.int .u64 (bif inB (AX.s x).3 (2 * n + 5 + 2 * t + 3 * t) then WU (peek (AX.s x).3 (2 * n + 5 + 2 * t + 3 * t) + 1) else 0), AVal.bool (inB (AX.s x).3 (2 * n + 5 + 2 * t + 3 * t))]), some (Entry.ints (some .u64) (putI (AX.s x).3 (2 * n + 5 + 2 * t + 3 * t) (WU (peek (AX.s x).3 (2 * n + 5 + 2 * t + 3 * t) + 1)))), some (Entry.cells [AVal.int .i64 t, AVal.int .i64 n, AVal.int .u64 (WU (peek (AX.s x).3 (2 * n + 5 + 2 * t + 3 * t) + 1)), AVal.int .i64 me, AVal.int .i64 (W ((↑x.1 : Int) + 1)), AVal.int .u64 bits, AVal.bool w, AVal.int .u64 x.4]), some (Entry.cells [AVal.tslice 4 0 (List.length x.5 + 1) 5, AVal.int .i64 0, AVal.bool false, AVal.bool false]), some (Entry.tab [some .i64, some .i64, some .u64, some .u64, none] (x.5 ++ [[4, 2 * n + 5 + 2 * t + 3 * t, peek (AX.s x).3 (2 * n + 5 + 2 * t + 3 * t), bif inB (AX.s x).3 (2 * n + 5 + 2 * t + 3 * t) then WU (peek (AX.s x).3 (2 * n + 5 + 2 * t + 3 * t) + 1) else 0, bif inB (AX.s x).3 (2 * n + 5 + 2 * t + 3 * t) then 1 else 0]]))] else okSt (HAX p fa fx t n me bits w) (fun x' => Hint.ok (HAX p fa fx t n me bits w) x' ∧ Hint.mu (HAX p fa fx t n me bits w) x' < Hint.mu (HAX p fa fx t n me bits w) x) [AVal.ptr 0 0, AVal.iface 93 (AVal.ptr 2 0), AVal.view p 2 fun i => [AVal.int .i64 (fa i), AVal.int .u64 (fx i)], AVal.int .i64 9, AVal.top, AVal.top, AVal.top, AVal.top, AVal.top, AVal.top, AVal.top, AVal.ptr 3 0, AVal.int .i64 (W ((↑x.1 : Int) + 1)), AVal.top, AVal.top, AVal.top, AVal.top, AVal.top, AVal.top, AVal.top, AVal.top, AVal.top, AVal.top, AVal.top, AVal.top, AVal.top, AVal.top, AVal.top, AVal.top, AVal.top, AVal.top, AVal.top, AVal.top, AVal.top, AVal.top, AVal.top, AVal.top, AVal.top, AVal.top, AVal.top, AVal.top, AVal.top, AVal.top, AVal.top, AVal.top, AVal.top, AVal.top, AVal.top, AVal.top, AVal.top, AVal.top, AVal.top, AVal.top, AVal.top, AVal.top, AVal.top, AVal.top, AVal.top, AVal.top, AVal.top, AVal.top, AVal.top, AVal.top] [some (Entry.cells [AVal.int .i64 (AX.s x).1, AVal.int .i64 (AX.s x).2, AVal.slice 1 0 (List.length (putI (AX.s x).3 (2 * n + 5 + 2 * t + 3 * t) (WU (peek (AX.s x).3 (2 * n + 5 + 2 * t + 3 * t) + 1)))) 1, AVal.int .i64 ((AX.s x).4 + 1), AVal.int .i64 4, AVal.int .i64 (2 * n + 5 + 2 * t + 3 * t), AVal.int .u64 (peek (AX.s x).3 (2 * n + 5 + 2 * t + 3 * t)), AVal.int .u64 (bif inB (AX.s x).3 (2 * n + 5 + 2 * t + 3 * t) then WU (peek (AX.s x).3 (2 * n + 5 + 2 * t + 3 * t) + 1) else 0), AVal.bool (inB (AX.s x).3 (2 * n + 5 + 2 * t + 3 * t))]), some (Entry.ints (some .u64) (putI (AX.s x).3 (2 * n + 5 + 2 * t + 3 * t) (WU (peek (AX.s x).3 (2 * n + 5 + 2 * t + 3 * t) + 1)))), some (Entry.cells [AVal.int .i64 t, AVal.int .i64 n, AVal.int .u64 (WU (peek (AX.s x).3 (2 * n + 5 + 2 * t + 3 * t) + 1)), AVal.int .i64 me, AVal.int .i64 (W ((↑x.1 : Int) + 1)), AVal.int .u64 bits, AVal.bool w, AVal.int .u64 x.4]), some (Entry.cells [AVal.tslice 4 0 (List.length x.5 + 1) 5, AVal.int .i64 0, AVal.bool false, AVal.bool false]), some (Entry.tab [some .i64, some .i64, some .u64, some .u64, none] (x.5 ++ [[4, 2 * n + 5 + 2 * t + 3 * t, peek (AX.s x).3 (2 * n + 5 + 2 * t + 3 * t), bif inB (AX.s x).3 (2 * n + 5 + 2 * t + 3 * t) then WU (peek (AX.s x).3 (2 * n + 5 + 2 * t + 3 * t) + 1) else 0, bif inB (AX.s x).3 (2 * n + 5 + 2 * t + 3 * t) then 1 else 0]]))] else bif ieq (↑x.1 : Int) 2 then ((((0 : Int) ≤ t ∧ t ≤ (100000 : Int)) ∧ ((0 : Int) ≤ n ∧ n ≤ (100000 : Int)) ∧ (-1099511627776 : Int) ≤ me ∧ me ≤ (1099511627776 : Int)) ∧ True) ∧ ((List.length (AX.s x).3 = List.length (AX.s x).3 ∧ (0 : Int) ≤ (AX.s x).4 ∧ (AX.s x).4 ≤ (4611686018427387904 : Int)) ∧ True) ∧ (List.length (putI (AX.s x).3 (2 * n + 5 + 2 * t + 3 * me) x.3) = List.length (putI (AX.s x).3 (2 * n + 5 + 2 * t + 3 * me) x.3) ∧ True) ∧ bif !ieq ((AX.s x).4 + 1) (W ((AX.s x).4 + 1)) then K (AVal.tup [AVal.ptr 3 0, AVal.bool false, AVal.bool false]) [some (Entry.cells [AVal.int .i64 (AX.s x).1, AVal.int .i64 (AX.s x).2, AVal.slice 1 0 (List.length (putI (AX.s x).3 (2 * n + 5 + 2 * t + 3 * me) x.3)) 1, AVal.int .i64 ((AX.s x).4 + 1), AVal.int .i64 2, AVal.int .i64 (2 * n + 5 + 2 * t + 3 * me), AVal.int .u64 (peek (AX.s x).3 (2 * n + 5 + 2 * t + 3 * me)), AVal.int .u64 (bif inB (AX.s x).3 (2 * n + 5 + 2 * t + 3 * me) then x.3 else 0), AVal.bool (inB (AX.s x).3 (2 * n + 5 + 2 * t + 3 * me))]), some (Entry.ints (some .u64) (putI (AX.s x).3 (2 * n + 5 + 2 * t + 3 * me) x.3)), some (Entry.cells [AVal.int .i64 t, AVal.int .i64 n, AVal.int .u64 x.3, AVal.int .i64 me, AVal.int .i64 (W ((↑x.1 : Int) + 1)), AVal.int .u64 bits, AVal.bool w, AVal.int .u64 x.4]), some (Entry.cells [AVal.tslice 4 0 (List.length x.5) 5, AVal.int .i64 0, AVal.bool false, AVal.bool false]), some (Entry.tab [some .i64, some .i64, some .u64, some .u64, none] x.5)] else ((List.length (putI (AX.s x).3 (2 * n + 5 + 2 * t + 3 * me) x.3) = List.length (putI (AX.s x).3 (2 * n + 5 + 2 * t + 3 * me) x.3) ∧ True) ∧ True) ∧ (0 = 0 ∧ List.length x.5 = List.length x.5 ∧ List.length x.5 + (1 : Nat) ≤ (4294967296 : Nat)) ∧ bif ilt 4 (W ((↑x.1 : Int) + 1)) then K (AVal.tup [AVal.ptr 3 0, AVal.bool true, AVal.bool true]) [some (Entry.cells [AVal.int .i64 (AX.s x).1, AVal.int .i64 (AX.s x).2, AVal.slice 1 0 (List.length (putI (AX.s x).3 (2 * n + 5 + 2 * t + 3 * me) x.3)) 1, AVal.int .i64 ((AX.s x).4 + 1), AVal.int .i64 2, AVal.int .i64 (2 * n + 5 + 2 * t + 3 * me), AVal.int .u64 (peek (AX.s x).3 (2 * n + 5 + 2 * t + 3 * me)), AVal.int .u64 (bif inB (AX.s x).3 (2 * n + 5 + 2 * t + 3 * me) then x.3 else 0), AVal.bool (inB (AX.s x).3 (2 * n + 5 + 2 * t + 3 * me))]), some (Entry.ints (some .u64) (putI (AX.s x).3 (2 * n + 5 + 2 * t + 3 * me) x.3)), some (Entry.cells [AVal.int .i64 t, AVal.int .i64 n, AVal.int .u64 x.3, AVal.int .i64 me, AVal.int .i64 (W ((↑x.1 : Int) + 1)), AVal.int .u64 bits, AVal.bool w, AVal.int .u64 x.4]), some (Entry.cells [AVal.tslice 4 0 (List.length x.5 + 1) 5, AVal.int .i64 0, AVal.bool false, AVal.bool false]), some (Entry.tab [some .i64, some .i64, some .u64, some .u64, none] (x.5 ++ [[2, 2 * n + 5 + 2 * t + 3 * me, peek (AX.s x).3 (2 * n + 5 + 2 * t + 3 * me), bif inB (AX.s x).3 (2 * n + 5 + 2 * t + 3 * me) then x.3 else 0, bif inB (AX.s x).3 (2 * n + 5 + 2 * t + 3 * me) then 1 else 0]]))] else okSt (HAX p fa fx t n me bits w) (fun x' => Hint.ok (HAX p fa fx t n me bits w) x' ∧ Hint.mu (HAX p fa fx t n me bits w) x' < Hint.mu (HAX p fa fx t n me bits w) x) [AVal.ptr 0 0, AVal.iface 93 (AVal.ptr 2 0), AVal.view p 2 fun i => [AVal.int .i64 (fa i), AVal.int .u64 (fx i)], AVal.int .i64 9, AVal.top, AVal.top, AVal.top, AVal.top, AVal.top, AVal.top, AVal.top, AVal.ptr 3 0, AVal.int .i64 (W ((↑x.1 : Int) + 1)), AVal.top, AVal.top, AVal.top, AVal.top, AVal.top, AVal.top, AVal.top, AVal.top, AVal.top, AVal.top, AVal.top, AVal.top, AVal.top, AVal.top, AVal.top, AVal.top, AVal.top, AVal.top, AVal.top, AVal.top, AVal.top, AVal.top, AVal.top, AVal.top, AVal.top, AVal.top, AVal.top, AVal.top, AVal.top, AVal.top, AVal.top, AVal.top, AVal.top, AVal.top, AVal.top, AVal.top, AVal.top, AVal.top, AVal.top, AVal.top, AVal.top, AVal.top, AVal.top, AVal.top, AVal.top, AVal.top, AVal.top, AVal.top, AVal.top, AVal.top] [some (Entry.cells [AVal.int .i64 (AX.s x).1, AVal.int .i64 (AX.s x).2, AVal.slice 1 0 (List.length (putI (AX.s x).3 (2 * n + 5 + 2 * t + 3 * me) x.3)) 1, AVal.int .i64 ((AX.s x).4 + 1), AVal.int .i64 2, AVal.int .i64 (2 * n + 5 + 2 * t + 3 * me), AVal.int .u64 (peek (AX.s x).3 (2 * n + 5 + 2 * t + 3 * me)), AVal.int .u64 (bif inB (AX.s x).3 (2 * n + 5 + 2 * t + 3 * me) then x.3 else 0), AVal.bool (inB (AX.s x).3 (2 * n + 5 + 2 * t + 3 * me))]), some (Entry.ints (some .u64) (putI (AX.s x).3 (2 * n + 5 + 2 * t + 3 * me) x.3)), some (Entry.cells [AVal.int .i64 t, AVal.int .i64 n, AVal.int .u64 x.3, AVal.int .i64 me, AVal.int .i64 (W ((↑x.1 : Int) + 1)), AVal.int .u64 bits, AVal.bool w, AVal.int .u64 x.4]), some (Entry.cells [AVal.tslice 4 0 (List.length x.5 + 1) 5, AVal.int .i64 0, AVal.bool false, AVal.bool false]), some (Entry.tab [some .i64, some .i64, some .u64, some .u64, none] (x.5 ++ [[2, 2 * n + 5 + 2 * t + 3 * me, peek (AX.s x).3 (2 * n + 5 + 2 * t + 3 * me), bif inB (AX.s x).3 (2 * n + 5 + 2 * t + 3 * me) then x.3 else 0, bif inB (AX.s x).3 (2 * n + 5 + 2 * t + 3 * me) then 1 else 0]]))] else bif ieq (↑x.1 : Int) 3 then ((((0 : Int) ≤ t ∧ t ≤ (100000 : Int)) ∧ ((0 : Int) ≤ n ∧ n ≤ (100000 : Int)) ∧ (-1099511627776 : Int) ≤ me ∧ me ≤ (1099511627776 : Int)) ∧ True) ∧ ((List.length (AX.s x).3 = List.length (AX.s x).3 ∧ (0 : Int) ≤ (AX.s x).4 ∧ (AX.s x).4 ≤ (4611686018427387904 : Int)) ∧ True) ∧ (List.length (AX.s x).3 = List.length (AX.s x).3 ∧ True) ∧ bif !ieq ((AX.s x).4 + 1) (W ((AX.s x).4 + 1)) then K (AVal.tup [AVal.ptr 3 0, AVal.bool false, AVal.bool false]) [some (Entry.cells [AVal.int .i64 (AX.s x).1, AVal.int .i64 (AX.s x).2, AVal.slice 1 0 (List.length (AX.s x).3) 1, AVal.int .i64 ((AX.s x).4 + 1), AVal.int .i64 1, AVal.int .i64 (2 * n + 5 + 2 * t + 3 * me + 2), AVal.int .u64 (peek (AX.s x).3 (2 * n + 5 + 2 * t + 3 * me + 2)), AVal.int .u64 (peek (AX.s x).3 (2 * n + 5 + 2 * t + 3 * me + 2)), AVal.bool (inB (AX.s x).3 (2 * n + 5 + 2 * t + 3 * me + 2))]), some (Entry.ints (some .u64) (AX.s x).3), some (Entry.cells [AVal.int .i64 t, AVal.int .i64 n, AVal.int .u64 x.3, AVal.int .i64 me, AVal.int .i64 (W ((↑x.1 : Int) + 1)), AVal.int .u64 bits, AVal.bool w, AVal.int .u64 (peek (AX.s x).3 (2 * n + 5 + 2 * t + 3 * me + 2))]), some (Entry.cells [AVal.tslice 4 0 (List.length x.5) 5, AVal.int .i64 0, AVal.bool false, AVal.bool false]), some (Entry.tab [some .i64, some .i64, some .u64, some .u64, none] x.5)] else ((List.length (AX.s x).3 = List.length (AX.s x).3 ∧ True) ∧ True) ∧ (0 = 0 ∧ List.length x.5 = List.length x.5 ∧ List.length x.5 + (1 : Nat) ≤ (4294967296 : Nat)) ∧ bif ilt 4 (W ((↑x.1 : Int) + 1)) then K (AVal.tup [AVal.ptr 3 0, AVal.bool true, AVal.bool true]) [some (Entry.cells [AVal.int .i64 (AX.s x).1, AVal.int .i64 (AX.s x).2, AVal.slice 1 0 (List.length (AX.s x).3) 1, AVal.int .i64 ((AX.s x).4 + 1), AVal.int .i64 1, AVal.int .i64 (2 * n + 5 + 2 * t + 3 * me + 2), AVal.int .u64 (peek (AX.s x).3 (2 * n + 5 + 2 * t + 3 * me + 2)), AVal.int .u64 (peek (AX.s x).3 (2 * n + 5 + 2 * t + 3 * me + 2)), AVal.bool (inB (AX.s x).3 (2 * n + 5 + 2 * t + 3 * me + 2))]), some (Entry.ints (some .u64) (AX.s x).3), some (Entry.cells [AVal.int .i64 t, AVal.int .i64 n, AVal.int .u64 x.3, AVal.int .i64 me, AVal.int .i64 (W ((↑x.1 : Int) + 1)), AVal.int .u64 bits, AVal.bool w, AVal.int .u64 (peek (AX.s x).3 (2 * n + 5 + 2 * t + 3 * me + 2))]), some (Entry.cells [AVal.tslice 4 0 (List.length x.5 + 1) 5, AVal.int .i64 0, AVal.bool false, AVal.bool false]), some (Entry.tab [some .i64, some .i64, some .u64, some .u64, none] (x.5 ++ [[1, 2 * n + 5 + 2 * t + 3 * me + 2, peek (AX.s x).3 (2 * n + 5 + 2 * t + 3 * me + 2), peek (AX.s x).3 (2 * n + 5 + 2 * t + 3 * me + 2), bif inB (AX.s x).3 (2 * n + 5 + 2 * t + 3 * me + 2) then 1 else 0]]))] else okSt (HAX p fa fx t n me bits w) (fun x' => Hint.ok (HAX p fa fx t n me bits w) x' ∧ Hint.mu (HAX p fa fx t n me bits w) x' < Hint.mu (HAX p fa fx t n me bits w) x) [AVal.ptr 0 0, AVal.iface 93 (AVal.ptr 2 0), AVal.view p 2 fun i => [AVal.int .i64 (fa i), AVal.int .u64 (fx i)], AVal.int .i64 9, AVal.top, AVal.top, AVal.top, AVal.top, AVal.top, AVal.top, AVal.top, AVal.ptr 3 0, AVal.int .i64 (W ((↑x.1 : Int) + 1)), AVal.top, AVal.top, AVal.top, AVal.top, AVal.top, AVal.top, AVal.top, AVal.top, AVal.top, AVal.top, AVal.top, AVal.top, AVal.top, AVal.top, AVal.top, AVal.top, AVal.top, AVal.top, AVal.top, AVal.top, AVal.top, AVal.top, AVal.top, AVal.top, AVal.top, AVal.top, AVal.top, AVal.top, AVal.top, AVal.top, AVal.top, AVal.top, AVal.top, AVal.top, AVal.top, AVal.top, AVal.top, AVal.top, AVal.top, AVal.top, AVal.top, AVal.top, AVal.top, AVal.top, AVal.top, AVal.top, AVal.top, AVal.top, AVal.top, AVal.top] [some (Entry.cells [AVal.int .i64 (AX.s x).1, AVal.int .i64 (AX.s x).2, AVal.slice 1 0 (List.length (AX.s x).3) 1, AVal.int .i64 ((AX.s x).4 + 1), AVal.int .i64 1, AVal.int .i64 (2 * n + 5 + 2 * t + 3 * me + 2), AVal.int .u64 (peek (AX.s x).3 (2 * n + 5 + 2 * t + 3 * me + 2)), AVal.int .u64 (peek (AX.s x).3 (2 * n + 5 + 2 * t + 3 * me + 2)), AVal.bool (inB (AX.s x).3 (2 * n + 5 + 2 * t + 3 * me + 2))]), some (Entry.ints (some .u64) (AX.s x).3), some (Entry.cells [AVal.int .i64 t, AVal.int .i64 n, AVal.int .u64 x.3, AVal.int .i64 me, AVal.int .i64 (W ((↑x.1 : Int) + 1)), AVal.int .u64 bits, AVal.bool w, AVal.int .u64 (peek (AX.s x).3 (2 * n + 5 + 2 * t + 3 * me + 2))]), some (Entry.cells [AVal.tslice 4 0 (List.length x.5 + 1) 5, AVal.int .i64 0, AVal.bool false, AVal.bool false]), some (Entry.tab [some .i64, some .i64, some .u64, some .u64, none] (x.5 ++ [[1, 2 * n + 5 + 2 * t + 3 * me + 2, peek (AX.s x).3 (2 * n + 5 + 2 * t + 3 * me + 2), peek (AX.s x).3 (2 * n + 5 + 2 * t + 3 * me + 2), bif inB (AX.s x).3 (2 * n + 5 + 2 * t + 3 * me + 2) then 1 else 0]]))] else True ∧ ((0 : Int) ≤ cutI x.4 0 12 ∧ cutI x.4 0 (12 : Int) ≤ (1000000 : Int)) ∧ True ∧ ((((0 : Int) ≤ t ∧ t ≤ (100000 : Int)) ∧ ((0 : Int) ≤ n ∧ n ≤ (100000 : Int)) ∧ (-1099511627776 : Int) ≤ me ∧ me ≤ (1099511627776 : Int)) ∧ True) ∧ ((List.length (AX.s x).3 = List.length (AX.s x).3 ∧ (0 : Int) ≤ (AX.s x).4 ∧ (AX.s x).4 ≤ (4611686018427387904 : Int)) ∧ True) ∧ (List.length (putI (AX.s x).3 (2 * n + 5 + 2 * t + 3 * me + 2) (bif dOk (attI (cutI x.4 0 12)) 0 0 0 1 0 then dPutV (attI (cutI x.4 0 12)) 0 0 0 false 1 0 else 0)) = List.length (putI (AX.s x).3 (2 * n + 5 + 2 * t + 3 * me + 2) (bif dOk (attI (cutI x.4 0 12)) 0 0 0 1 0 then dPutV (attI (cutI x.4 0 12)) 0 0 0 false 1 0 else 0)) ∧ True) ∧ bif !ieq ((AX.s x).4 + 1) (W ((AX.s x).4 + 1)) then K (AVal.tup [AVal.ptr 3 0, AVal.bool false, AVal.bool false]) [some (Entry.cells [AVal.int .i64 (AX.s x).1, AVal.int .i64 (AX.s x).2, AVal.slice 1 0 (List.length (putI (AX.s x).3 (2 * n + 5 + 2 * t + 3 * me + 2) (bif dOk (attI (cutI x.4 0 12)) 0 0 0 1 0 then dPutV (attI (cutI x.4 0 12)) 0 0 0 false 1 0 else 0))) 1, AVal.int .i64 ((AX.s x).4 + 1), AVal.int .i64 2, AVal.int .i64 (2 * n + 5 + 2 * t + 3 * me + 2), AVal.int .u64 (peek (AX.s x).3 (2 * n + 5 + 2 * t + 3 * me + 2)), AVal.int .u64 (bif inB (AX.s x).3 (2 * n + 5 + 2 * t + 3 * me + 2) then bif dOk (attI (cutI x.4 0 12)) 0 0 0 1 0 then dPutV (attI (cutI x.4 0 12)) 0 0 0 false 1 0 else 0 else 0), AVal.bool (inB (AX.s x).3 (2 * n + 5 + 2 * t + 3 * me + 2))]), some (Entry.ints (some .u64) (putI (AX.s x).3 (2 * n + 5 + 2 * t + 3 * me + 2) (bif dOk (attI (cutI x.4 0 12)) 0 0 0 1 0 then dPutV (attI (cutI x.4 0 12)) 0 0 0 false 1 0 else 0))), some (Entry.cells [AVal.int .i64 t, AVal.int .i64 n, AVal.int .u64 x.3, AVal.int .i64 me, AVal.int .i64 (W ((↑x.1 : Int) + 1)), AVal.int .u64 bits, AVal.bool w, AVal.int .u64 x.4]), some (Entry.cells [AVal.tslice 4 0 (List.length x.5) 5, AVal.int .i64 0, AVal.bool false, AVal.bool false]), some (Entry.tab [some .i64, some .i64, some .u64, some .u64, none] x.5)] else ((List.length (putI (AX.s x).3 (2 * n + 5 + 2 * t + 3 * me + 2) (bif dOk (attI (cutI x.4 0 12)) 0 0 0 1 0 then dPutV (attI (cutI x.4 0 12)) 0 0 0 false 1 0 else 0)) = List.length (putI (AX.s x).3 (2 * n + 5 + 2 * t + 3 * me + 2) (bif dOk (attI (cutI x.4 0 12)) 0 0 0 1 0 then dPutV (attI (cutI x.4 0 12)) 0 0 0 false 1 0 else 0)) ∧ True) ∧ True) ∧ (0 = 0 ∧ List.length x.5 = List.length x.5 ∧ List.length x.5 + (1 : Nat) ≤ (4294967296 : Nat)) ∧ bif ilt 4 (W ((↑x.1 : Int) + 1)) then K (AVal.tup [AVal.ptr 3 0, AVal.bool true, AVal.bool true]) [some (Entry.cells [AVal.int .i64 (AX.s x).1, AVal.int .i64 (AX.s x).2, AVal.slice 1 0 (List.length (putI (AX.s x).3 (2 * n + 5 + 2 * t + 3 * me + 2) (bif dOk (attI (cutI x.4 0 12)) 0 0 0 1 0 then dPutV (attI (cutI x.4 0 12)) 0 0 0 false 1 0 else 0))) 1, AVal.int .i64 ((AX.s x).4 + 1), AVal.int .i64 2, AVal.int .i64 (2 * n + 5 + 2 * t + 3 * me + 2), AVal.int .u64 (peek (AX.s x).3 (2 * n + 5 + 2 * t + 3 * me + 2)), AVal.int .u64 (bif inB (AX.s x).3 (2 * n + 5 + 2 * t + 3 * me + 2) then bif dOk (attI (cutI x.4 0 12)) 0 0 0 1 0 then dPutV (attI (cutI x.4 0 12)) 0 0 0 false 1 0 else 0 else 0), AVal.bool (inB (AX.s x).3 (2 * n + 5 + 2 * t + 3 * me + 2))]), some (Entry.ints (some .u64) (putI (AX.s x).3 (2 * n + 5 + 2 * t + 3 * me + 2) (bif dOk (attI (cutI x.4 0 12)) 0 0 0 1 0 then dPutV (attI (cutI x.4 0 12)) 0 0 0 false 1 0 else 0))), some (Entry.cells [AVal.int .i64 t, AVal.int .i64 n, AVal.int .u64 x.3, AVal.int .i64 me, AVal.int .i64 (W ((↑x.1 : Int) + 1)), AVal.int .u64 bits, AVal.bool w, AVal.int .u64 x.4]), some (Entry.cells [AVal.tslice 4 0 (List.length x.5 + 1) 5, AVal.int .i64 0, AVal.bool false, AVal.bool false]), some (Entry.tab [some .i64, some .i64, some .u64, some .u64, none] (x.5 ++ [[2, 2 * n + 5 + 2 * t + 3 * me + 2, peek (AX.s x).3 (2 * n + 5 + 2 * t + 3 * me + 2), bif inB (AX.s x).3 (2 * n + 5 + 2 * t + 3 * me + 2) then bif dOk (attI (cutI x.4 0 12)) 0 0 0 1 0 then dPutV (attI (cutI x.4 0 12)) 0 0 0 false 1 0 else 0 else 0, bif inB (AX.s x).3 (2 * n + 5 + 2 * t + 3 * me + 2) then 1 else 0]]))] else okSt (HAX p fa fx t n me bits w) (fun x' => Hint.ok (HAX p fa fx t n me bits w) x' ∧ Hint.mu (HAX p fa fx t n me bits w) x' < Hint.mu (HAX p fa fx t n me bits w) x) [AVal.ptr 0 0, AVal.iface 93 (AVal.ptr 2 0), AVal.view p 2 fun i => [AVal.int .i64 (fa i), AVal.int .u64 (fx i)], AVal.int .i64 9, AVal.top, AVal.top, AVal.top, AVal.top, AVal.top, AVal.top, AVal.top, AVal.ptr 3 0, AVal.int .i64 (W ((↑x.1 : Int) + 1)), AVal.top, AVal.top, AVal.top, AVal.top, AVal.top, AVal.top, AVal.top, AVal.top, AVal.top, AVal.top, AVal.top, AVal.top, AVal.top, AVal.top, AVal.top, AVal.top, AVal.top, AVal.top, AVal.top, AVal.top, AVal.top, AVal.top, AVal.top, AVal.top, AVal.top, AVal.top, AVal.top, AVal.top, AVal.top, AVal.top, AVal.top, AVal.top, AVal.top, AVal.top, AVal.top, AVal.top, AVal.top, AVal.top, AVal.top, AVal.top, AVal.top, AVal.top, AVal.top, AVal.top, AVal.top, AVal.top, AVal.top, AVal.top, AVal.top, AVal.top] [some (Entry.cells [AVal.int .i64 (AX.s x).1, AVal.int .i64 (AX.s x).2, AVal.slice 1 0 (List.length (putI (AX.s x).3 (2 * n + 5 + 2 * t + 3 * me + 2) (bif dOk (attI (cutI x.4 0 12)) 0 0 0 1 0 then dPutV (attI (cutI x.4 0 12)) 0 0 0 false 1 0 else 0))) 1, AVal.int .i64 ((AX.s x).4 + 1), AVal.int .i64 2, AVal.int .i64 (2 * n + 5 + 2 * t + 3 * me + 2), AVal.int .u64 (peek (AX.s x).3 (2 * n + 5 + 2 * t + 3 * me + 2)), AVal.int .u64 (bif inB (AX.s x).3 (2 * n + 5 + 2 * t + 3 * me + 2) then bif dOk (attI (cutI x.4 0 12)) 0 0 0 1 0 then dPutV (attI (cutI x.4 0 12)) 0 0 0 false 1 0 else 0 else 0), AVal.bool (inB (AX.s x).3 (2 * n + 5 + 2 * t + 3 * me + 2))]), some (Entry.ints (some .u64) (putI (AX.s x).3 (2 * n + 5 + 2 * t + 3 * me + 2) (bif dOk (attI (cutI x.4 0 12)) 0 0 0 1 0 then dPutV (attI (cutI x.4 0 12)) 0 0 0 false 1 0 else 0))), some (Entry.cells [AVal.int .i64 t, AVal.int .i64 n, AVal.int .u64 x.3, AVal.int .i64 me, AVal.int .i64 (W ((↑x.1 : Int) + 1)), AVal.int .u64 bits, AVal.bool w, AVal.int .u64 x.4]), some (Entry.cells [AVal.tslice 4 0 (List.length x.5 + 1) 5, AVal.int .i64 0, AVal.bool false, AVal.bool false]), some (Entry.tab [some .i64, some .i64, some .u64, some .u64, none] (x.5 ++ [[2, 2 * n + 5 + 2 * t + 3 * me + 2, peek (AX.s x).3 (2 * n + 5 + 2 * t + 3 * me + 2), bif inB (AX.s x).3 (2 * n + 5 + 2 * t + 3 * me + 2) then bif dOk (attI (cutI x.4 0 12)) 0 0 0 1 0 then dPutV (attI (cutI x.4 0 12)) 0 0 0 false 1 0 else 0 else 0, bif inB (AX.s x).3 (2 * n + 5 + 2 * t + 3 * me + 2) then 1 else 0]]))] else K (AVal.tup [AVal.ptr 3 0, AVal.bool false, AVal.bool true]) [some (Entry.cells [AVal.int .i64 (AX.s x).1, AVal.int .i64 (AX.s x).2, AVal.slice 1 0 (List.length (AX.s x).3) 1, AVal.int .i64 (AX.s x).4, AVal.int .i64 (AX.s x).5, AVal.int .i64 (AX.s x).6, AVal.int .u64 (AX.s x).7, AVal.int .u64 (AX.s x).8, AVal.bool (AX.s x).9]), some (Entry.ints (some .u64) (AX.s x).3), some (Entry.cells [AVal.int .i64 t, AVal.int .i64 n, AVal.int .u64 x.3, AVal.int .i64 me, AVal.int .i64 (↑x.1 : Int), AVal.int .u64 bits, AVal.bool w, AVal.int .u64 x.4]), some (Entry.cells [AVal.tslice 4 0 (List.length x.5) 5, AVal.int .i64 0, AVal.bool false, AVal.bool false]), some (Entry.tab [some .i64, some .i64, some .u64, some .u64, none] x.5)]) (by kernel_rfl) ?_))
  refine ⟨okSt_intro (H := HAX p fa fx t n me bits w) ⟨0, s, no, fo, []⟩ rfl ⟨by show (0 : Nat) ≤ 4; omega, by show 0 ≤ s.c ∧ s.c ≤ 2 * ((0 : Nat) : Int); omega, hlen, hokW, fun _ => rfl, fun _ => hno0, 0, 0, 0, 0, by omega, rfl, fun h => absurd h (by show ¬ 2 ≤ (0 : Nat); omega), fun h => absurd h (by show ¬ 4 ≤ (0 : Nat); omega)⟩, ?_⟩
  clear hlen hokW hno0 hc0 hm
  rintro ⟨i, s, no, fo, A⟩ ⟨hi, hc, hl, hw, h0, hn, hA⟩
  dsimp only at hi hc hl hw h0 hn hA ⊢
  have q00 : ieq ((0 : Nat) : Int) 0 = true := rfl
  have q01 : ieq ((0 : Nat) : Int) 1 = false := rfl
  have q02 : ieq ((0 : Nat) : Int) 2 = false := rfl
  have q03 : ieq ((0 : Nat) : Int) 3 = false := rfl
  have q10 : ieq ((1 : Nat) : Int) 0 = false := rfl
  have q11 : ieq ((1 : Nat) : Int) 1 = true := rfl
  have q12 : ieq ((1 : Nat) : Int) 2 = false := rfl
  have q13 : ieq ((1 : Nat) : Int) 3 = false := rfl
  have q20 : ieq ((2 : Nat) : Int) 0 = false := rfl
  have q21 : ieq ((2 : Nat) : Int) 1 = false := rfl
  have q22 : ieq ((2 : Nat) : Int) 2 = true := rfl
  have q23 : ieq ((2 : Nat) : Int) 3 = false := rfl
  have q30 : ieq ((3 : Nat) : Int) 0 = false := rfl
  have q31 : ieq ((3 : Nat) : Int) 1 = false := rfl
  have q32 : ieq ((3 : Nat) : Int) 2 = false := rfl
  have q33 : ieq ((3 : Nat) : Int) 3 = true := rfl
  have q40 : ieq ((4 : Nat) : Int) 0 = false := rfl
  have q41 : ieq ((4 : Nat) : Int) 1 = false := rfl
  have q42 : ieq ((4 : Nat) : Int) 2 = false := rfl
  have q43 : ieq ((4 : Nat) : Int) 3 = false := rfl
  have u0 : W (((0 : Nat) : Int) + 1) = ((1 : Nat) : Int) := by decide
  have u1 : W (((1 : Nat) : Int) + 1) = ((2 : Nat) : Int) := by decide
  have u2 : W (((2 : Nat) : Int) + 1) = ((3 : Nat) : Int) := by decide
  have u3 : W (((3 : Nat) : Int) + 1) = ((4 : Nat) : Int) := by decide
  have u4 : W (((4 : Nat) : Int) + 1) = ((5 : Nat) : Int) := by decide
  have v1 : ilt 4 ((1 : Nat) : Int) = false := rfl
  have v2 : ilt 4 ((2 : Nat) : Int) = false := rfl
  have v3 : ilt 4 ((3 : Nat) : Int) = false := rfl
  have v4 : ilt 4 ((4 : Nat) : Int) = false := rfl
  have v5 : ilt 4 ((5 : Nat) : Int) = true := rfl
  refine lt_go (fun _ => ?_) (fun h => absurd h (by omega))
  have hpv := hfx (Int.toNat (i : Int))
  generalize fx (Int.toNat (i : Int)) = pv at hpv ⊢
  generalize fa (Int.toNat (i : Int)) = pa
  refine lt_go (fun hp => ⟨by omega, by omega, ⟨⟨rfl, by omega⟩, trivial⟩, ⟨rfl, trivial⟩, ?_⟩) (fun hp => ?_)
  · have hl1 : (putI s.xs pa pv).length = (2 * n + 5 * t + 6).toNat := by first | exact hl | (rw [putI_length]; exact hl)
    have hw1 : okW (putI s.xs pa pv) := by first | exact hw | exact okW_putI hw hpv
    have b0 : ∀ v, 0 ≤ v ∧ v < 2 * n + 5 * t + 6 → inB (putI s.xs pa pv) v = true := fun v hv => inB_true.2 (by omega)
    have b1 := b0 (2 * n + 5 + 2 * t + 3 * me + 1) (by omega)
    have b2 := b0 (2 * n + 5 + 2 * t + 3 * t) (by omega)
    have b3 := b0 (2 * n + 5 + 2 * t + 3 * me) (by omega)
    have b4 := b0 (2 * n + 5 + 2 * t + 3 * me + 2) (by omega)
    have hwc : W (s.c + 1 + 1) = s.c + 1 + 1 := W_id (by omega)
    cases w
    case true =>
      have h0' := h0 rfl
      subst h0'
      obtain ⟨o0, o1, o2, o3, ho3, hA, hA2, hA4⟩ := hA
      subst hA
      have hn0 := hn (by omega)
      simp only [hwc, ieq_self, Bool.not_true, Bool.not_false, cond_true, cond_false, true_and, and_true]
      repeat first
        | refine ⟨trivial, ?_⟩
        | refine ⟨by omega, ?_⟩
        | refine ⟨cut_att _, ?_⟩
        | refine ⟨rowsA_le _ _ _ _ _ _ _ _ _, ?_⟩
        | refine ⟨⟨rfl, trivial⟩, ?_⟩
        | refine ⟨⟨rfl, by omega⟩, ?_⟩
        | refine ⟨⟨⟨rfl, by omega⟩, trivial⟩, ?_⟩
        | refine ⟨⟨⟨rfl, trivial⟩, trivial⟩, ?_⟩
        | refine ⟨⟨by omega, trivial⟩, ?_⟩
        | refine ⟨⟨rfl, rfl, by omega⟩, ?_⟩
      exact hK ⟨0, (s.stored pa pv).loadd 0, no, fo, [] ++ [[1, 0, peek (putI s.xs pa pv) 0, peek (putI s.xs pa pv) 0, bif inB (putI s.xs pa pv) 0 then 1 else 0]]⟩ ⟨fun _ => ⟨hn0, _, _, rfl⟩, fun h => by cases h⟩
    case false =>
      obtain ⟨o0, o1, o2, o3, ho3, hA, hA2, hA4⟩ := hA
      obtain rfl | rfl | rfl | rfl | rfl : i = 0 ∨ i = 1 ∨ i = 2 ∨ i = 3 ∨ i = 4 := by omega
      · subst hA
        simp only [hwc, q00, q01, q02, q03, q10, q11, q12, q13, q20, q21, q22, q23, q30, q31, q32, q33, q40, q41, q42, q43, u0, v1, u1, v2, u2, v3, u3, v4, u4, v5, ieq_self, Bool.not_true, Bool.not_false, cond_true, cond_false, true_and, and_true]
        repeat first
          | refine ⟨trivial, ?_⟩
          | refine ⟨by omega, ?_⟩
          | refine ⟨cut_att _, ?_⟩
          | refine ⟨rowsA_le _ _ _ _ _ _ _ _ _, ?_⟩
          | refine ⟨⟨rfl, trivial⟩, ?_⟩
          | refine ⟨⟨rfl, by omega⟩, ?_⟩
          | refine ⟨⟨⟨rfl, by omega⟩, trivial⟩, ?_⟩
          | refine ⟨⟨⟨rfl, trivial⟩, trivial⟩, ?_⟩
          | refine ⟨⟨by omega, trivial⟩, ?_⟩
          | refine ⟨⟨rfl, rfl, by omega⟩, ?_⟩
        refine okSt_intro (H := HAX p fa fx t n me bits false) ⟨1, (s.stored pa pv).stored (2 * n + 5 + 2 * t + 3 * me + 1) bits, no, fo, List.take 0 (rowsA t n me bits o0 o1 o2 o3) ++ [[2, 2 * n + 5 + 2 * t + 3 * me + 1, peek (putI s.xs pa pv) (2 * n + 5 + 2 * t + 3 * me + 1), bif inB (putI s.xs pa pv) (2 * n + 5 + 2 * t + 3 * me + 1) then bits else 0, bif inB (putI s.xs pa pv) (2 * n + 5 + 2 * t + 3 * me + 1) then 1 else 0]]⟩ ?_ ⟨⟨?_, ?_, ?_, ?_, ?_, ?_, ?_⟩, ?_⟩
        · simp only [HAX, annWH, annTH, List.length_append]; rfl
        · show (1 : Nat) ≤ 4; omega
        · show 0 ≤ s.c + 1 + 1 ∧ s.c + 1 + 1 ≤ 2 * ((1 : Nat) : Int); omega
        · first | exact hl1 | (show (putI (putI s.xs pa pv) _ _).length = _; rw [putI_length]; exact hl1)
        · exact okW_putI hw1 hbits
        · intro h; cases h
        · exact fun h => hn (by omega)
        · exact ⟨peek (putI s.xs pa pv) (2 * n + 5 + 2 * t + 3 * me + 1), 0, 0, 0, by omega, by rw [b1]; rfl, fun h => absurd h (by show ¬ 2 ≤ (1 : Nat); omega), fun h => absurd h (by show ¬ 4 ≤ (1 : Nat); omega)⟩
        · show 9 - (1 : Nat) < 9 - (0 : Nat); omega
      · subst hA
        simp only [hwc, q00, q01, q02, q03, q10, q11, q12, q13, q20, q21, q22, q23, q30, q31, q32, q33, q40, q41, q42, q43, u0, v1, u1, v2, u2, v3, u3, v4, u4, v5, ieq_self, Bool.not_true, Bool.not_false, cond_true, cond_false, true_and, and_true]
        repeat first
          | refine ⟨trivial, ?_⟩
          | refine ⟨by omega, ?_⟩
          | refine ⟨cut_att _, ?_⟩
          | refine ⟨rowsA_le _ _ _ _ _ _ _ _ _, ?_⟩
          | refine ⟨⟨rfl, trivial⟩, ?_⟩
          | refine ⟨⟨rfl, by omega⟩, ?_⟩
          | refine ⟨⟨⟨rfl, by omega⟩, trivial⟩, ?_⟩
          | refine ⟨⟨⟨rfl, trivial⟩, trivial⟩, ?_⟩
          | refine ⟨⟨by omega, trivial⟩, ?_⟩
          | refine ⟨⟨rfl, rfl, by omega⟩, ?_⟩
        refine okSt_intro (H := HAX p fa fx t n me bits false) ⟨2, (s.stored pa pv).added (2 * n + 5 + 2 * t + 3 * t) 1, (WU (peek (putI s.xs pa pv) (2 * n + 5 + 2 * t + 3 * t) + 1)), fo, List.take 1 (rowsA t n me bits o0 o1 o2 o3) ++ [[4, 2 * n + 5 + 2 * t + 3 * t, peek (putI s.xs pa pv) (2 * n + 5 + 2 * t + 3 * t), bif inB (putI s.xs pa pv) (2 * n + 5 + 2 * t + 3 * t) then WU (peek (putI s.xs pa pv) (2 * n + 5 + 2 * t + 3 * t) + 1) else 0, bif inB (putI s.xs pa pv) (2 * n + 5 + 2 * t + 3 * t) then 1 else 0]]⟩ ?_ ⟨⟨?_, ?_, ?_, ?_, ?_, ?_, ?_⟩, ?_⟩
        · simp only [HAX, annWH, annTH, List.length_append]; rfl
        · show (2 : Nat) ≤ 4; omega
        · show 0 ≤ s.c + 1 + 1 ∧ s.c + 1 + 1 ≤ 2 * ((2 : Nat) : Int); omega
        · first | exact hl1 | (show (putI (putI s.xs pa pv) _ _).length = _; rw [putI_length]; exact hl1)
        · exact okW_putI hw1 (WU_range _)
        · intro h; cases h
        · exact fun h => absurd h (by show ¬ (2 : Nat) < 2; omega)
        · exact ⟨o0, peek (putI s.xs pa pv) (2 * n + 5 + 2 * t + 3 * t), 0, 0, by omega, by rw [b2]; rfl, fun h => rfl, fun h => absurd h (by show ¬ 4 ≤ (2 : Nat); omega)⟩
        · show 9 - (2 : Nat) < 9 - (1 : Nat); omega
      · subst hA
        have hno := hA2 (by omega)
        simp only [hwc, q00, q01, q02, q03, q10, q11, q12, q13, q20, q21, q22, q23, q30, q31, q32, q33, q40, q41, q42, q43, u0, v1, u1, v2, u2, v3, u3, v4, u4, v5, ieq_self, Bool.not_true, Bool.not_false, cond_true, cond_false, true_and, and_true]
        repeat first
          | refine ⟨trivial, ?_⟩
          | refine ⟨by omega, ?_⟩
          | refine ⟨cut_att _, ?_⟩
          | refine ⟨rowsA_le _ _ _ _ _ _ _ _ _, ?_⟩
          | refine ⟨⟨rfl, trivial⟩, ?_⟩
          | refine ⟨⟨rfl, by omega⟩, ?_⟩
          | refine ⟨⟨⟨rfl, by omega⟩, trivial⟩, ?_⟩
          | refine ⟨⟨⟨rfl, trivial⟩, trivial⟩, ?_⟩
          | refine ⟨⟨by omega, trivial⟩, ?_⟩
          | refine ⟨⟨rfl, rfl, by omega⟩, ?_⟩
        refine okSt_intro (H := HAX p fa fx t n me bits false) ⟨3, (s.stored pa pv).stored (2 * n + 5 + 2 * t + 3 * me) no, no, fo, List.take 2 (rowsA t n me bits o0 o1 o2 o3) ++ [[2, 2 * n + 5 + 2 * t + 3 * me, peek (putI s.xs pa pv) (2 * n + 5 + 2 * t + 3 * me), bif inB (putI s.xs pa pv) (2 * n + 5 + 2 * t + 3 * me) then no else 0, bif inB (putI s.xs pa pv) (2 * n + 5 + 2 * t + 3 * me) then 1 else 0]]⟩ ?_ ⟨⟨?_, ?_, ?_, ?_, ?_, ?_, ?_⟩, ?_⟩
        · simp only [HAX, annWH, annTH, List.length_append]; rfl
        · show (3 : Nat) ≤ 4; omega
        · show 0 ≤ s.c + 1 + 1 ∧ s.c + 1 + 1 ≤ 2 * ((3 : Nat) : Int); omega
        · first | exact hl1 | (show (putI (putI s.xs pa pv) _ _).length = _; rw [putI_length]; exact hl1)
        · exact okW_putI hw1 (hno ▸ WU_range _)
        · intro h; cases h
        · exact fun h => absurd h (by show ¬ (3 : Nat) < 2; omega)
        · exact ⟨o0, o1, peek (putI s.xs pa pv) (2 * n + 5 + 2 * t + 3 * me), 0, by omega, by rw [b3, hno]; rfl, fun h => hno, fun h => absurd h (by show ¬ 4 ≤ (3 : Nat); omega)⟩
        · show 9 - (3 : Nat) < 9 - (2 : Nat); omega
      · subst hA
        have hno := hA2 (by omega)
        simp only [hwc, q00, q01, q02, q03, q10, q11, q12, q13, q20, q21, q22, q23, q30, q31, q32, q33, q40, q41, q42, q43, u0, v1, u1, v2, u2, v3, u3, v4, u4, v5, ieq_self, Bool.not_true, Bool.not_false, cond_true, cond_false, true_and, and_true]
        repeat first
          | refine ⟨trivial, ?_⟩
          | refine ⟨by omega, ?_⟩
          | refine ⟨cut_att _, ?_⟩
          | refine ⟨rowsA_le _ _ _ _ _ _ _ _ _, ?_⟩
          | refine ⟨⟨rfl, trivial⟩, ?_⟩
          | refine ⟨⟨rfl, by omega⟩, ?_⟩
          | refine ⟨⟨⟨rfl, by omega⟩, trivial⟩, ?_⟩
          | refine ⟨⟨⟨rfl, trivial⟩, trivial⟩, ?_⟩
          | refine ⟨⟨by omega, trivial⟩, ?_⟩
          | refine ⟨⟨rfl, rfl, by omega⟩, ?_⟩
        refine okSt_intro (H := HAX p fa fx t n me bits false) ⟨4, (s.stored pa pv).loadd (2 * n + 5 + 2 * t + 3 * me + 2), no, peek (putI s.xs pa pv) (2 * n + 5 + 2 * t + 3 * me + 2), List.take 3 (rowsA t n me bits o0 o1 o2 o3) ++ [[1, 2 * n + 5 + 2 * t + 3 * me + 2, peek (putI s.xs pa pv) (2 * n + 5 + 2 * t + 3 * me + 2), peek (putI s.xs pa pv) (2 * n + 5 + 2 * t + 3 * me + 2), bif inB (putI s.xs pa pv) (2 * n + 5 + 2 * t + 3 * me + 2) then 1 else 0]]⟩ ?_ ⟨⟨?_, ?_, ?_, ?_, ?_, ?_, ?_⟩, ?_⟩
        · simp only [HAX, annWH, annTH, List.length_append]; rfl
        · show (4 : Nat) ≤ 4; omega
        · show 0 ≤ s.c + 1 + 1 ∧ s.c + 1 + 1 ≤ 2 * ((4 : Nat) : Int); omega
        · first | exact hl1 | (show (putI (putI s.xs pa pv) _ _).length = _; rw [putI_length]; exact hl1)
        · exact hw1
        · intro h; cases h
        · exact fun h => absurd h (by show ¬ (4 : Nat) < 2; omega)
        · exact ⟨o0, o1, o2, peek (putI s.xs pa pv) (2 * n + 5 + 2 * t + 3 * me + 2), okW_peek hw1 _, by rw [b4]; rfl, fun h => hno, fun h => rfl⟩
        · show 9 - (4 : Nat) < 9 - (3 : Nat); omega
      · subst hA
        have hno := hA2 (by omega)
        have hfo := hA4 (by omega)
        have hnw : nextW fo = (bif dOk (attI (cutI fo 0 12)) 0 0 0 1 0 then dPutV (attI (cutI fo 0 12)) 0 0 0 false 1 0 else 0) := rfl
        rw [← hnw]
        simp only [hwc, q00, q01, q02, q03, q10, q11, q12, q13, q20, q21, q22, q23, q30, q31, q32, q33, q40, q41, q42, q43, u0, v1, u1, v2, u2, v3, u3, v4, u4, v5, ieq_self, Bool.not_true, Bool.not_false, cond_true, cond_false, true_and, and_true]
        repeat first
          | refine ⟨trivial, ?_⟩
          | refine ⟨by omega, ?_⟩
          | refine ⟨cut_att _, ?_⟩
          | refine ⟨rowsA_le _ _ _ _ _ _ _ _ _, ?_⟩
          | refine ⟨⟨rfl, trivial⟩, ?_⟩
          | refine ⟨⟨rfl, by omega⟩, ?_⟩
          | refine ⟨⟨⟨rfl, by omega⟩, trivial⟩, ?_⟩
          | refine ⟨⟨⟨rfl, trivial⟩, trivial⟩, ?_⟩
          | refine ⟨⟨by omega, trivial⟩, ?_⟩
          | refine ⟨⟨rfl, rfl, by omega⟩, ?_⟩
        exact hK ⟨5, (s.stored pa pv).stored (2 * n + 5 + 2 * t + 3 * me + 2) (nextW fo), no, fo, List.take 4 (rowsA t n me bits o0 o1 o2 o3) ++ [[2, 2 * n + 5 + 2 * t + 3 * me + 2, peek (putI s.xs pa pv) (2 * n + 5 + 2 * t + 3 * me + 2), bif inB (putI s.xs pa pv) (2 * n + 5 + 2 * t + 3 * me + 2) then nextW fo else 0, bif inB (putI s.xs pa pv) (2 * n + 5 + 2 * t + 3 * me + 2) then 1 else 0]]⟩ ⟨fun h => (by cases h), fun _ => ⟨o0, o1, o2, o3, peek (putI s.xs pa pv) (2 * n + 5 + 2 * t + 3 * me + 2), ho3, by rw [b4, hfo]; rfl, hno⟩⟩
  · have hl1 : (s.xs).length = (2 * n + 5 * t + 6).toNat := by first | exact hl | (rw [putI_length]; exact hl)
    have hw1 : okW (s.xs) := by first | exact hw | exact okW_putI hw hpv
    have b0 : ∀ v, 0 ≤ v ∧ v < 2 * n + 5 * t + 6 → inB (s.xs) v = true := fun v hv => inB_true.2 (by omega)
    have b1 := b0 (2 * n + 5 + 2 * t + 3 * me + 1) (by omega)
    have b2 := b0 (2 * n + 5 + 2 * t + 3 * t) (by omega)
    have b3 := b0 (2 * n + 5 + 2 * t + 3 * me) (by omega)
    have b4 := b0 (2 * n + 5 + 2 * t + 3 * me + 2) (by omega)
    have hwc : W (s.c + 1) = s.c + 1 := W_id (by omega)
    cases w
    case true =>
      have h0' := h0 rfl
      subst h0'
      obtain ⟨o0, o1, o2, o3, ho3, hA, hA2, hA4⟩ := hA
      subst hA
      have hn0 := hn (by omega)
      simp only [hwc, ieq_self, Bool.not_true, Bool.not_false, cond_true, cond_false, true_and, and_true]
      repeat first
        | refine ⟨trivial, ?_⟩
        | refine ⟨by omega, ?_⟩
        | refine ⟨cut_att _, ?_⟩
        | refine ⟨rowsA_le _ _ _ _ _ _ _ _ _, ?_⟩
        | refine ⟨⟨rfl, trivial⟩, ?_⟩
        | refine ⟨⟨rfl, by omega⟩, ?_⟩
        | refine ⟨⟨⟨rfl, by omega⟩, trivial⟩, ?_⟩
        | refine ⟨⟨⟨rfl, trivial⟩, trivial⟩, ?_⟩
        | refine ⟨⟨by omega, trivial⟩, ?_⟩
        | refine ⟨⟨rfl, rfl, by omega⟩, ?_⟩
      exact hK ⟨0, (s).loadd 0, no, fo, [] ++ [[1, 0, peek (s.xs) 0, peek (s.xs) 0, bif inB (s.xs) 0 then 1 else 0]]⟩ ⟨fun _ => ⟨hn0, _, _, rfl⟩, fun h => by cases h⟩
    case false =>
      obtain ⟨o0, o1, o2, o3, ho3, hA, hA2, hA4⟩ := hA
      obtain rfl | rfl | rfl | rfl | rfl : i = 0 ∨ i = 1 ∨ i = 2 ∨ i = 3 ∨ i = 4 := by omega
      · subst hA
        simp only [hwc, q00, q01, q02, q03, q10, q11, q12, q13, q20, q21, q22, q23, q30, q31, q32, q33, q40, q41, q42, q43, u0, v1, u1, v2, u2, v3, u3, v4, u4, v5, ieq_self, Bool.not_true, Bool.not_false, cond_true, cond_false, true_and, and_true]
        repeat first
          | refine ⟨trivial, ?_⟩
          | refine ⟨by omega, ?_⟩
          | refine ⟨cut_att _, ?_⟩
          | refine ⟨rowsA_le _ _ _ _ _ _ _ _ _, ?_⟩
          | refine ⟨⟨rfl, trivial⟩, ?_⟩
          | refine ⟨⟨rfl, by omega⟩, ?_⟩
          | refine ⟨⟨⟨rfl, by omega⟩, trivial⟩, ?_⟩
          | refine ⟨⟨⟨rfl, trivial⟩, trivial⟩, ?_⟩
          | refine ⟨⟨by omega, trivial⟩, ?_⟩
          | refine ⟨⟨rfl, rfl, by omega⟩, ?_⟩
        refine okSt_intro (H := HAX p fa fx t n me bits false) ⟨1, (s).stored (2 * n + 5 + 2 * t + 3 * me + 1) bits, no, fo, List.take 0 (rowsA t n me bits o0 o1 o2 o3) ++ [[2, 2 * n + 5 + 2 * t + 3 * me + 1, peek (s.xs) (2 * n + 5 + 2 * t + 3 * me + 1), bif inB (s.xs) (2 * n + 5 + 2 * t + 3 * me + 1) then bits else 0, bif inB (s.xs) (2 * n + 5 + 2 * t + 3 * me + 1) then 1 else 0]]⟩ ?_ ⟨⟨?_, ?_, ?_, ?_, ?_, ?_, ?_⟩, ?_⟩
        · simp only [HAX, annWH, annTH, List.length_append]; rfl
        · show (1 : Nat) ≤ 4; omega
        · show 0 ≤ s.c + 1 ∧ s.c + 1 ≤ 2 * ((1 : Nat) : Int); omega
        · first | exact hl1 | (show (putI (s.xs) _ _).length = _; rw [putI_length]; exact hl1)
        · exact okW_putI hw1 hbits
        · intro h; cases h
        · exact fun h => hn (by omega)
        · exact ⟨peek (s.xs) (2 * n + 5 + 2 * t + 3 * me + 1), 0, 0, 0, by omega, by rw [b1]; rfl, fun h => absurd h (by show ¬ 2 ≤ (1 : Nat); omega), fun h => absurd h (by show ¬ 4 ≤ (1 : Nat); omega)⟩
        · show 9 - (1 : Nat) < 9 - (0 : Nat); omega
      · subst hA
        simp only [hwc, q00, q01, q02, q03, q10, q11, q12, q13, q20, q21, q22, q23, q30, q31, q32, q33, q40, q41, q42, q43, u0, v1, u1, v2, u2, v3, u3, v4, u4, v5, ieq_self, Bool.not_true, Bool.not_false, cond_true, cond_false, true_and, and_true]
        repeat first
          | refine ⟨trivial, ?_⟩
          | refine ⟨by omega, ?_⟩
          | refine ⟨cut_att _, ?_⟩
          | refine ⟨rowsA_le _ _ _ _ _ _ _ _ _, ?_⟩
          | refine ⟨⟨rfl, trivial⟩, ?_⟩
          | refine ⟨⟨rfl, by omega⟩, ?_⟩
          | refine ⟨⟨⟨rfl, by omega⟩, trivial⟩, ?_⟩
          | refine ⟨⟨⟨rfl, trivial⟩, trivial⟩, ?_⟩
          | refine ⟨⟨by omega, trivial⟩, ?_⟩
          | refine ⟨⟨rfl, rfl, by omega⟩, ?_⟩
        refine okSt_intro (H := HAX p fa fx t n me bits false) ⟨2, (s).added (2 * n + 5 + 2 * t + 3 * t) 1, (WU (peek (s.xs) (2 * n + 5 + 2 * t + 3 * t) + 1)), fo, List.take 1 (rowsA t n me bits o0 o1 o2 o3) ++ [[4, 2 * n + 5 + 2 * t + 3 * t, peek (s.xs) (2 * n + 5 + 2 * t + 3 * t), bif inB (s.xs) (2 * n + 5 + 2 * t + 3 * t) then WU (peek (s.xs) (2 * n + 5 + 2 * t + 3 * t) + 1) else 0, bif inB (s.xs) (2 * n + 5 + 2 * t + 3 * t) then 1 else 0]]⟩ ?_ ⟨⟨?_, ?_, ?_, ?_, ?_, ?_, ?_⟩, ?_⟩
        · simp only [HAX, annWH, annTH, List.length_append]; rfl
        · show (2 : Nat) ≤ 4; omega
        · show 0 ≤ s.c + 1 ∧ s.c + 1 ≤ 2 * ((2 : Nat) : Int); omega
        · first | exact hl1 | (show (putI (s.xs) _ _).length = _; rw [putI_length]; exact hl1)
        · exact okW_putI hw1 (WU_range _)
        · intro h; cases h
        · exact fun h => absurd h (by show ¬ (2 : Nat) < 2; omega)
        · exact ⟨o0, peek (s.xs) (2 * n + 5 + 2 * t + 3 * t), 0, 0, by omega, by rw [b2]; rfl, fun h => rfl, fun h => absurd h (by show ¬ 4 ≤ (2 : Nat); omega)⟩
        · show 9 - (2 : Nat) < 9 - (1 : Nat); omega
      · subst hA
        have hno := hA2 (by omega)
        simp only [hwc, q00, q01, q02, q03, q10, q11, q12, q13, q20, q21, q22, q23, q30, q31, q32, q33, q40, q41, q42, q43, u0, v1, u1, v2, u2, v3, u3, v4, u4, v5, ieq_self, Bool.not_true, Bool.not_false, cond_true, cond_false, true_and, and_true]
        repeat first
          | refine ⟨trivial, ?_⟩
          | refine ⟨by omega, ?_⟩
          | refine ⟨cut_att _, ?_⟩
          | refine ⟨rowsA_le _ _ _ _ _ _ _ _ _, ?_⟩
          | refine ⟨⟨rfl, trivial⟩, ?_⟩
          | refine ⟨⟨rfl, by omega⟩, ?_⟩
          | refine ⟨⟨⟨rfl, by omega⟩, trivial⟩, ?_⟩
          | refine ⟨⟨⟨rfl, trivial⟩, trivial⟩, ?_⟩
          | refine ⟨⟨by omega, trivial⟩, ?_⟩
          | refine ⟨⟨rfl, rfl, by omega⟩, ?_⟩
        refine okSt_intro (H := HAX p fa fx t n me bits false) ⟨3, (s).stored (2 * n + 5 + 2 * t + 3 * me) no, no, fo, List.take 2 (rowsA t n me bits o0 o1 o2 o3) ++ [[2, 2 * n + 5 + 2 * t + 3 * me, peek (s.xs) (2 * n + 5 + 2 * t + 3 * me), bif inB (s.xs) (2 * n + 5 + 2 * t + 3 * me) then no else 0, bif inB (s.xs) (2 * n + 5 + 2 * t + 3 * me) then 1 else 0]]⟩ ?_ ⟨⟨?_, ?_, ?_, ?_, ?_, ?_, ?_⟩, ?_⟩
        · simp only [HAX, annWH, annTH, List.length_append]; rfl
        · show (3 : Nat) ≤ 4; omega
        · show 0 ≤ s.c + 1 ∧ s.c + 1 ≤ 2 * ((3 : Nat) : Int); omega
        · first | exact hl1 | (show (putI (s.xs) _ _).length = _; rw [putI_length]; exact hl1)
        · exact okW_putI hw1 (hno ▸ WU_range _)
        · intro h; cases h
        · exact fun h => absurd h (by show ¬ (3 : Nat) < 2; omega)
        · exact ⟨o0, o1, peek (s.xs) (2 * n + 5 + 2 * t + 3 * me), 0, by omega, by rw [b3, hno]; rfl, fun h => hno, fun h => absurd h (by show ¬ 4 ≤ (3 : Nat); omega)⟩
        · show 9 - (3 : Nat) < 9 - (2 : Nat); omega
      · subst hA
        have hno := hA2 (by omega)
        simp only [hwc, q00, q01, q02, q03, q10, q11, q12, q13, q20, q21, q22, q23, q30, q31, q32, q33, q40, q41, q42, q43, u0, v1, u1, v2, u2, v3, u3, v4, u4, v5, ieq_self, Bool.not_true, Bool.not_false, cond_true, cond_false, true_and, and_true]
        repeat first
          | refine ⟨trivial, ?_⟩
          | refine ⟨by omega, ?_⟩
          | refine ⟨cut_att _, ?_⟩
          | refine ⟨rowsA_le _ _ _ _ _ _ _ _ _, ?_⟩
          | refine ⟨⟨rfl, trivial⟩, ?_⟩
          | refine ⟨⟨rfl, by omega⟩, ?_⟩
          | refine ⟨⟨⟨rfl, by omega⟩, trivial⟩, ?_⟩
          | refine ⟨⟨⟨rfl, trivial⟩, trivial⟩, ?_⟩
          | refine ⟨⟨by omega, trivial⟩, ?_⟩
          | refine ⟨⟨rfl, rfl, by omega⟩, ?_⟩
        refine okSt_intro (H := HAX p fa fx t n me bits false) ⟨4, (s).loadd (2 * n + 5 + 2 * t + 3 * me + 2), no, peek (s.xs) (2 * n + 5 + 2 * t + 3 * me + 2), List.take 3 (rowsA t n me bits o0 o1 o2 o3) ++ [[1, 2 * n + 5 + 2 * t + 3 * me + 2, peek (s.xs) (2 * n + 5 + 2 * t + 3 * me + 2), peek (s.xs) (2 * n + 5 + 2 * t + 3 * me + 2), bif inB (s.xs) (2 * n + 5 + 2 * t + 3 * me + 2) then 1 else 0]]⟩ ?_ ⟨⟨?_, ?_, ?_, ?_, ?_, ?_, ?_⟩, ?_⟩
        · simp only [HAX, annWH, annTH, List.length_append]; rfl
        · show (4 : Nat) ≤ 4; omega
        · show 0 ≤ s.c + 1 ∧ s.c + 1 ≤ 2 * ((4 : Nat) : Int); omega
        · first | exact hl1 | (show (putI (s.xs) _ _).length = _; rw [putI_length]; exact hl1)
        · exact hw1
        · intro h; cases h
        · exact fun h => absurd h (by show ¬ (4 : Nat) < 2; omega)
        · exact ⟨o0, o1, o2, peek (s.xs) (2 * n + 5 + 2 * t + 3 * me + 2), okW_peek hw1 _, by rw [b4]; rfl, fun h => hno, fun h => rfl⟩
        · show 9 - (4 : Nat) < 9 - (3 : Nat); omega
      · subst hA
        have hno := hA2 (by omega)
        have hfo := hA4 (by omega)
        have hnw : nextW fo = (bif dOk (attI (cutI fo 0 12)) 0 0 0 1 0 then dPutV (attI (cutI fo 0 12)) 0 0 0 false 1 0 else 0) := rfl
        rw [← hnw]
        simp only [hwc, q00, q01, q02, q03, q10, q11, q12, q13, q20, q21, q22, q23, q30, q31, q32, q33, q40, q41, q42, q43, u0, v1, u1, v2, u2, v3, u3, v4, u4, v5, ieq_self, Bool.not_true, Bool.not_false, cond_true, cond_false, true_and, and_true]
        repeat first
          | refine ⟨trivial, ?_⟩
          | refine ⟨by omega, ?_⟩
          | refine ⟨cut_att _, ?_⟩
          | refine ⟨rowsA_le _ _ _ _ _ _ _ _ _, ?_⟩
          | refine ⟨⟨rfl, trivial⟩, ?_⟩
          | refine ⟨⟨rfl, by omega⟩, ?_⟩
          | refine ⟨⟨⟨rfl, by omega⟩, trivial⟩, ?_⟩
          | refine ⟨⟨⟨rfl, trivial⟩, trivial⟩, ?_⟩
          | refine ⟨⟨by omega, trivial⟩, ?_⟩
          | refine ⟨⟨rfl, rfl, by omega⟩, ?_⟩
        exact hK ⟨5, (s).stored (2 * n + 5 + 2 * t + 3 * me + 2) (nextW fo), no, fo, List.take 4 (rowsA t n me bits o0 o1 o2 o3) ++ [[2, 2 * n + 5 + 2 * t + 3 * me + 2, peek (s.xs) (2 * n + 5 + 2 * t + 3 * me + 2), bif inB (s.xs) (2 * n + 5 + 2 * t + 3 * me + 2) then nextW fo else 0, bif inB (s.xs) (2 * n + 5 + 2 * t + 3 * me + 2) then 1 else 0]]⟩ ⟨fun h => (by cases h), fun _ => ⟨o0, o1, o2, o3, peek (s.xs) (2 * n + 5 + 2 * t + 3 * me + 2), ho3, by rw [b4, hfo]; rfl, hno⟩⟩
noncomputable def E30 := E27.addS 29 watchAnnS watchAnn_ok
end Go.Sh

