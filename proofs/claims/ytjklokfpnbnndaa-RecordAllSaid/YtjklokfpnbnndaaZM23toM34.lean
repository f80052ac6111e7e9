import Derived.Test.YtjklokfpnbnndaaZM11toM22
set_option linter.all false
/- The example of an announcement. -/
namespace Go.Sh
open Go Go.Proofs
variable [Con]
def awake14S : Spec Unit := fun args h => match args, h with
  | [], [] => some (.pre (True) (.ret (.bool true) ([])))
  | _, _ => none
theorem awake14_ok : Spec.ok E22.I Try.prog 42 awake14S := by
  intro args h o ho K hK
  unfold awake14S at ho
  split at ho
  case h_2 => cases ho
  skip
  simp only [Option.some.injEq] at ho; subst ho
  obtain ⟨hp, hK⟩ := hK
  have hK : K (.bool true) ([]) := hK
  refine CallOk.trim (callOk_of (E := E22) Try.checked.mixed (L := LL) (n := 10) (of_nf (q := True ∧ (((0 : Int) ≤ (2 : Int) ∧ (2 : Int) ≤ (100000 : Int)) ∧ (0 : Int) ≤ (2 : Int) ∧ (2 : Int) ≤ (100000 : Int)) ∧ ((((0 : Int) ≤ (2 : Int) ∧ (2 : Int) ≤ (100000 : Int)) ∧ (0 : Int) ≤ (2 : Int) ∧ (2 : Int) ≤ (100000 : Int)) ∧ True) ∧ ((0 : Int) ≤ (2 : Int) * 2 + 5 * 2 + 6 ∧ 2 * 2 + 5 * 2 + (6 : Int) = (2 : Int) * 2 + 5 * 2 + 6 ∧ 2 * 2 + 5 * 2 + (6 : Int) ≤ (4294967296 : Int)) ∧ ((0 : Int) ≤ (0 : Int) ∧ (0 : Int) < (↑1 : Int)) ∧ ((((0 : Int) ≤ (2 : Int) ∧ (2 : Int) ≤ (100000 : Int)) ∧ ((0 : Int) ≤ (2 : Int) ∧ (2 : Int) ≤ (100000 : Int)) ∧ (-1099511627776 : Int) ≤ (1 : Int) ∧ (1 : Int) ≤ (1099511627776 : Int)) ∧ True) ∧ ((20 = 20 ∧ (0 : Int) ≤ (0 : Int) ∧ (0 : Int) ≤ (4611686018427387904 : Int)) ∧ True) ∧ (((0 : Int) ≤ (2 : Int) ∧ (2 : Int) ≤ (100000 : Int)) ∧ (0 : Int) ≤ (2 : Int) ∧ (2 : Int) ≤ (100000 : Int)) ∧ (20 = 20 ∧ (0 : Int) ≤ (0 : Int) + 1 ∧ 0 + (1 : Int) ≤ (4611686018427387904 : Int)) ∧ ((((0 : Int) ≤ (2 : Int) ∧ (2 : Int) ≤ (100000 : Int)) ∧ ((0 : Int) ≤ (2 : Int) ∧ (2 : Int) ≤ (100000 : Int)) ∧ (-1099511627776 : Int) ≤ (1 : Int) ∧ (1 : Int) ≤ (1099511627776 : Int)) ∧ True) ∧ ((20 = 20 ∧ (0 : Int) ≤ (0 : Int) + 1 + 1 ∧ 0 + 1 + (1 : Int) ≤ (4611686018427387904 : Int)) ∧ True) ∧ ((((0 : Int) ≤ (2 : Int) ∧ (2 : Int) ≤ (100000 : Int)) ∧ ((0 : Int) ≤ (2 : Int) ∧ (2 : Int) ≤ (100000 : Int)) ∧ (-1099511627776 : Int) ≤ (1 : Int) ∧ (1 : Int) ≤ (1099511627776 : Int)) ∧ True) ∧ ((20 = 20 ∧ (0 : Int) ≤ (0 : Int) + 1 + 1 + 1 ∧ 0 + 1 + 1 + (1 : Int) ≤ (4611686018427387904 : Int)) ∧ True) ∧ True ∧ ((0 : Int) ≤ cutI (peek (putI (putI (putI (List.replicate (Int.toNat (2 * 2 + 5 * 2 + 6)) 0) (2 * 2 + 5 + 2 * 2 + 3 * 1 + 1) (tskV 3 5 0)) (2 * 2 + 5 + 2 * 2 + 3 * 2) (WU (peek (putI (List.replicate (Int.toNat (2 * 2 + 5 * 2 + 6)) 0) (2 * 2 + 5 + 2 * 2 + 3 * 1 + 1) (tskV 3 5 0)) (2 * 2 + 5 + 2 * 2 + 3 * 2) + 1))) (2 * 2 + 5 + 2 * 2 + 3 * 1) (WU (peek (putI (List.replicate (Int.toNat (2 * 2 + 5 * 2 + 6)) 0) (2 * 2 + 5 + 2 * 2 + 3 * 1 + 1) (tskV 3 5 0)) (2 * 2 + 5 + 2 * 2 + 3 * 2) + 1))) (2 * 2 + 5 + 2 * 2 + 3 * 1 + 2)) 0 12 ∧ cutI (peek (putI (putI (putI (List.replicate (Int.toNat (2 * 2 + 5 * 2 + 6)) 0) (2 * 2 + 5 + 2 * 2 + 3 * 1 + 1) (tskV 3 5 0)) (2 * 2 + 5 + 2 * 2 + 3 * 2) (WU (peek (putI (List.replicate (Int.toNat (2 * 2 + 5 * 2 + 6)) 0) (2 * 2 + 5 + 2 * 2 + 3 * 1 + 1) (tskV 3 5 0)) (2 * 2 + 5 + 2 * 2 + 3 * 2) + 1))) (2 * 2 + 5 + 2 * 2 + 3 * 1) (WU (peek (putI (List.replicate (Int.toNat (2 * 2 + 5 * 2 + 6)) 0) (2 * 2 + 5 + 2 * 2 + 3 * 1 + 1) (tskV 3 5 0)) (2 * 2 + 5 + 2 * 2 + 3 * 2) + 1))) (2 * 2 + 5 + 2 * 2 + 3 * 1 + 2)) 0 (12 : Int) ≤ (1000000 : Int)) ∧ True ∧ ((((0 : Int) ≤ (2 : Int) ∧ (2 : Int) ≤ (100000 : Int)) ∧ ((0 : Int) ≤ (2 : Int) ∧ (2 : Int) ≤ (100000 : Int)) ∧ (-1099511627776 : Int) ≤ (1 : Int) ∧ (1 : Int) ≤ (1099511627776 : Int)) ∧ True) ∧ ((20 = 20 ∧ (0 : Int) ≤ (0 : Int) + 1 + 1 + 1 + 1 ∧ 0 + 1 + 1 + 1 + (1 : Int) ≤ (4611686018427387904 : Int)) ∧ True) ∧ (20 = 20 ∧ ((0 : Int) ≤ (2 : Int) ∧ (2 : Int) ≤ (100000 : Int)) ∧ (0 : Int) ≤ (2 : Int) ∧ (2 : Int) ≤ (100000 : Int)) ∧ (20 = 20 ∧ ((0 : Int) ≤ (2 : Int) ∧ (2 : Int) ≤ (100000 : Int)) ∧ (0 : Int) ≤ (2 : Int) ∧ (2 : Int) ≤ (100000 : Int)) ∧ (((0 : Int) ≤ (2 : Int) ∧ (2 : Int) ≤ (100000 : Int)) ∧ ((0 : Int) ≤ (2 : Int) ∧ (2 : Int) ≤ (100000 : Int)) ∧ (-1099511627776 : Int) ≤ (1 : Int) ∧ (1 : Int) ≤ (1099511627776 : Int)) ∧ (20 = 20 ∧ True) ∧ ((0 : Int) ≤ peek (putI (putI (putI (putI (List.replicate (Int.toNat (2 * 2 + 5 * 2 + 6)) 0) (2 * 2 + 5 + 2 * 2 + 3 * 1 + 1) (tskV 3 5 0)) (2 * 2 + 5 + 2 * 2 + 3 * 2) (WU (peek (putI (List.replicate (Int.toNat (2 * 2 + 5 * 2 + 6)) 0) (2 * 2 + 5 + 2 * 2 + 3 * 1 + 1) (tskV 3 5 0)) (2 * 2 + 5 + 2 * 2 + 3 * 2) + 1))) (2 * 2 + 5 + 2 * 2 + 3 * 1) (WU (peek (putI (List.replicate (Int.toNat (2 * 2 + 5 * 2 + 6)) 0) (2 * 2 + 5 + 2 * 2 + 3 * 1 + 1) (tskV 3 5 0)) (2 * 2 + 5 + 2 * 2 + 3 * 2) + 1))) (2 * 2 + 5 + 2 * 2 + 3 * 1 + 2) (dPutV (attI (cutI (peek (putI (putI (putI (List.replicate (Int.toNat (2 * 2 + 5 * 2 + 6)) 0) (2 * 2 + 5 + 2 * 2 + 3 * 1 + 1) (tskV 3 5 0)) (2 * 2 + 5 + 2 * 2 + 3 * 2) (WU (peek (putI (List.replicate (Int.toNat (2 * 2 + 5 * 2 + 6)) 0) (2 * 2 + 5 + 2 * 2 + 3 * 1 + 1) (tskV 3 5 0)) (2 * 2 + 5 + 2 * 2 + 3 * 2) + 1))) (2 * 2 + 5 + 2 * 2 + 3 * 1) (WU (peek (putI (List.replicate (Int.toNat (2 * 2 + 5 * 2 + 6)) 0) (2 * 2 + 5 + 2 * 2 + 3 * 1 + 1) (tskV 3 5 0)) (2 * 2 + 5 + 2 * 2 + 3 * 2) + 1))) (2 * 2 + 5 + 2 * 2 + 3 * 1 + 2)) 0 12)) 0 0 0 false 1 0)) (2 * 2 + 5 + 2 * 2 + 3 * 1 + 2) ∧ peek (putI (putI (putI (putI (List.replicate (Int.toNat (2 * 2 + 5 * 2 + 6)) 0) (2 * 2 + 5 + 2 * 2 + 3 * 1 + 1) (tskV 3 5 0)) (2 * 2 + 5 + 2 * 2 + 3 * 2) (WU (peek (putI (List.replicate (Int.toNat (2 * 2 + 5 * 2 + 6)) 0) (2 * 2 + 5 + 2 * 2 + 3 * 1 + 1) (tskV 3 5 0)) (2 * 2 + 5 + 2 * 2 + 3 * 2) + 1))) (2 * 2 + 5 + 2 * 2 + 3 * 1) (WU (peek (putI (List.replicate (Int.toNat (2 * 2 + 5 * 2 + 6)) 0) (2 * 2 + 5 + 2 * 2 + 3 * 1 + 1) (tskV 3 5 0)) (2 * 2 + 5 + 2 * 2 + 3 * 2) + 1))) (2 * 2 + 5 + 2 * 2 + 3 * 1 + 2) (dPutV (attI (cutI (peek (putI (putI (putI (List.replicate (Int.toNat (2 * 2 + 5 * 2 + 6)) 0) (2 * 2 + 5 + 2 * 2 + 3 * 1 + 1) (tskV 3 5 0)) (2 * 2 + 5 + 2 * 2 + 3 * 2) (WU (peek (putI (List.replicate (Int.toNat (2 * 2 + 5 * 2 + 6)) 0) (2 * 2 + 5 + 2 * 2 + 3 * 1 + 1) (tskV 3 5 0)) (2 * 2 + 5 + 2 * 2 + 3 * 2) + 1))) (2 * 2 + 5 + 2 * 2 + 3 * 1) (WU (peek (putI (List.replicate (Int.toNat (2 * 2 + 5 * 2 + 6)) 0) (2 * 2 + 5 + 2 * 2 + 3 * 1 + 1) (tskV 3 5 0)) (2 * 2 + 5 + 2 * 2 + 3 * 2) + 1))) (2 * 2 + 5 + 2 * 2 + 3 * 1 + 2)) 0 12)) 0 0 0 false 1 0)) (2 * 2 + 5 + 2 * 2 + 3 * 1 + 2) ≤ (18446744073709551615 : Int)) ∧ K (AVal.bool true) []) (by kernel_rfl) ?_))
  repeat refine ⟨by first | trivial | decide | omega, ?_⟩
  exact hK
noncomputable def E23 := E22.addS 42 awake14S awake14_ok
end Go.Sh

/- The layout's addresses, as the document has them; an answer, asked for. -/
namespace Go.Sh
open Go Go.Proofs
variable [Con]
def lLifeS : RSpec Unit := fun args h => match args, h with
  | [.agg [.int .i64 t, .int .i64 n], .int .i64 a], [] => some ((0 ≤ t ∧ t ≤ 100000) ∧ (0 ≤ n ∧ n ≤ 100000) ∧ (-1099511627776 ≤ a ∧ a ≤ 1099511627776), .int .i64 (n + 4 + a))
  | _, _ => none
theorem lLife_ok : Spec.ok E23.I Try.prog 102 lLifeS.spec := by
  intro args h o ho K hK
  unfold RSpec.spec at ho
  split at ho
  case h_2 => cases ho
  rename_i pp vv hv
  unfold lLifeS at hv
  split at hv
  case h_2 => cases hv
  rename_i t n a
  simp only [Option.some.injEq, Prod.mk.injEq] at hv
  obtain ⟨rfl, rfl⟩ := hv
  simp only [Option.some.injEq] at ho; subst ho
  obtain ⟨hp, hK⟩ := hK
  have hK : K (.int .i64 (n + 4 + a)) [] := hK
  refine CallOk.trim (callOk_of (E := E23) Try.checked.mixed (L := LL) (n := 10) (of_nf (q := K (AVal.int .i64 (W (W (n + 4) + a))) []) (by kernel_rfl) ?_))
  simp (disch := omega) only [W, W_in]
  refine cast (congrArg (fun z => K (AVal.int .i64 z) []) ?_) hK
  omega
def lSlotS : RSpec Unit := fun args h => match args, h with
  | [.agg [.int .i64 t, .int .i64 n], .int .i64 a, .int .i64 b], [] => some ((0 ≤ t ∧ t ≤ 100000) ∧ (0 ≤ n ∧ n ≤ 100000) ∧ (-1099511627776 ≤ a ∧ a ≤ 1099511627776) ∧ (-1099511627776 ≤ b ∧ b ≤ 1099511627776), .int .i64 (2 * n + 5 + 2 * a + b))
  | _, _ => none
theorem lSlot_ok : Spec.ok E23.I Try.prog 104 lSlotS.spec := by
  intro args h o ho K hK
  unfold RSpec.spec at ho
  split at ho
  case h_2 => cases ho
  rename_i pp vv hv
  unfold lSlotS at hv
  split at hv
  case h_2 => cases hv
  rename_i t n a b
  simp only [Option.some.injEq, Prod.mk.injEq] at hv
  obtain ⟨rfl, rfl⟩ := hv
  simp only [Option.some.injEq] at ho; subst ho
  obtain ⟨hp, hK⟩ := hK
  have hK : K (.int .i64 (2 * n + 5 + 2 * a + b)) [] := hK
  refine CallOk.trim (callOk_of (E := E23) Try.checked.mixed (L := LL) (n := 10) (of_nf (q := K (AVal.int .i64 (W (W (W (W (2 * n) + 5) + W (2 * a)) + b))) []) (by kernel_rfl) ?_))
  simp (disch := omega) only [W, W_in]
  refine cast (congrArg (fun z => K (AVal.int .i64 z) []) ?_) hK
  omega
def lTicketS : RSpec Unit := fun args h => match args, h with
  | [.agg [.int .i64 t, .int .i64 n], .int .i64 a], [] => some ((0 ≤ t ∧ t ≤ 100000) ∧ (0 ≤ n ∧ n ≤ 100000) ∧ (-1099511627776 ≤ a ∧ a ≤ 1099511627776), .int .i64 (2 * n + 5 + 2 * t + 3 * a))
  | _, _ => none
theorem lTicket_ok : Spec.ok E23.I Try.prog 96 lTicketS.spec := by
  intro args h o ho K hK
  unfold RSpec.spec at ho
  split at ho
  case h_2 => cases ho
  rename_i pp vv hv
  unfold lTicketS at hv
  split at hv
  case h_2 => cases hv
  rename_i t n a
  simp only [Option.some.injEq, Prod.mk.injEq] at hv
  obtain ⟨rfl, rfl⟩ := hv
  simp only [Option.some.injEq] at ho; subst ho
  obtain ⟨hp, hK⟩ := hK
  have hK : K (.int .i64 (2 * n + 5 + 2 * t + 3 * a)) [] := hK
  refine CallOk.trim (callOk_of (E := E23) Try.checked.mixed (L := LL) (n := 10) (of_nf (q := K (AVal.int .i64 (W (W (W (W (2 * n) + 5) + W (2 * t)) + W (3 * a)))) []) (by kernel_rfl) ?_))
  simp (disch := omega) only [W, W_in]
  refine cast (congrArg (fun z => K (AVal.int .i64 z) []) ?_) hK
  omega
def lTaskS : RSpec Unit := fun args h => match args, h with
  | [.agg [.int .i64 t, .int .i64 n], .int .i64 a], [] => some ((0 ≤ t ∧ t ≤ 100000) ∧ (0 ≤ n ∧ n ≤ 100000) ∧ (-1099511627776 ≤ a ∧ a ≤ 1099511627776), .int .i64 (2 * n + 5 + 2 * t + 3 * a + 1))
  | _, _ => none
theorem lTask_ok : Spec.ok E23.I Try.prog 63 lTaskS.spec := by
  intro args h o ho K hK
  unfold RSpec.spec at ho
  split at ho
  case h_2 => cases ho
  rename_i pp vv hv
  unfold lTaskS at hv
  split at hv
  case h_2 => cases hv
  rename_i t n a
  simp only [Option.some.injEq, Prod.mk.injEq] at hv
  obtain ⟨rfl, rfl⟩ := hv
  simp only [Option.some.injEq] at ho; subst ho
  obtain ⟨hp, hK⟩ := hK
  have hK : K (.int .i64 (2 * n + 5 + 2 * t + 3 * a + 1)) [] := hK
  refine CallOk.trim (callOk_of (E := E23) Try.checked.mixed (L := LL) (n := 10) (of_nf (q := K (AVal.int .i64 (W (W (W (W (W (2 * n) + 5) + W (2 * t)) + W (3 * a)) + 1))) []) (by kernel_rfl) ?_))
  simp (disch := omega) only [W, W_in]
  refine cast (congrArg (fun z => K (AVal.int .i64 z) []) ?_) hK
  omega
def lDescS : RSpec Unit := fun args h => match args, h with
  | [.agg [.int .i64 t, .int .i64 n], .int .i64 a], [] => some ((0 ≤ t ∧ t ≤ 100000) ∧ (0 ≤ n ∧ n ≤ 100000) ∧ (-1099511627776 ≤ a ∧ a ≤ 1099511627776), .int .i64 (2 * n + 5 + 2 * t + 3 * a + 2))
  | _, _ => none
theorem lDesc_ok : Spec.ok E23.I Try.prog 58 lDescS.spec := by
  intro args h o ho K hK
  unfold RSpec.spec at ho
  split at ho
  case h_2 => cases ho
  rename_i pp vv hv
  unfold lDescS at hv
  split at hv
  case h_2 => cases hv
  rename_i t n a
  simp only [Option.some.injEq, Prod.mk.injEq] at hv
  obtain ⟨rfl, rfl⟩ := hv
  simp only [Option.some.injEq] at ho; subst ho
  obtain ⟨hp, hK⟩ := hK
  have hK : K (.int .i64 (2 * n + 5 + 2 * t + 3 * a + 2)) [] := hK
  refine CallOk.trim (callOk_of (E := E23) Try.checked.mixed (L := LL) (n := 10) (of_nf (q := K (AVal.int .i64 (W (W (W (W (W (2 * n) + 5) + W (2 * t)) + W (3 * a)) + 2))) []) (by kernel_rfl) ?_))
  simp (disch := omega) only [W, W_in]
  refine cast (congrArg (fun z => K (AVal.int .i64 z) []) ?_) hK
  omega
def lCounterS : RSpec Unit := fun args h => match args, h with
  | [.agg [.int .i64 t, .int .i64 n]], [] => some ((0 ≤ t ∧ t ≤ 100000) ∧ (0 ≤ n ∧ n ≤ 100000), .int .i64 (2 * n + 5 + 2 * t + 3 * t))
  | _, _ => none
theorem lCounter_ok : Spec.ok E23.I Try.prog 95 lCounterS.spec := by
  intro args h o ho K hK
  unfold RSpec.spec at ho
  split at ho
  case h_2 => cases ho
  rename_i pp vv hv
  unfold lCounterS at hv
  split at hv
  case h_2 => cases hv
  rename_i t n
  simp only [Option.some.injEq, Prod.mk.injEq] at hv
  obtain ⟨rfl, rfl⟩ := hv
  simp only [Option.some.injEq] at ho; subst ho
  obtain ⟨hp, hK⟩ := hK
  have hK : K (.int .i64 (2 * n + 5 + 2 * t + 3 * t)) [] := hK
  refine CallOk.trim (callOk_of (E := E23) Try.checked.mixed (L := LL) (n := 10) (of_nf (q := K (AVal.int .i64 (W (W (W (W (2 * n) + 5) + W (2 * t)) + W (3 * t)))) []) (by kernel_rfl) ?_))
  simp (disch := omega) only [W, W_in]
  refine cast (congrArg (fun z => K (AVal.int .i64 z) []) ?_) hK
  omega
noncomputable def E24 := (((((E23.addR 102 lLifeS lLife_ok).addR 104 lSlotS lSlot_ok).addR 96 lTicketS lTicket_ok).addR 63 lTaskS lTask_ok).addR 58 lDescS lDesc_ok).addR 95 lCounterS lCounter_ok
end Go.Sh

/- A number in a list that is an argument. -/
namespace Go.Sh
open Go Go.Proofs
variable [Con]
def hasVS : RSpec Unit := fun args h => match args, h with
  | [.iview (some .i64) xs, .int .i64 n], [] => some (xs.length ≤ 4294967296, .bool (hasB xs n))
  | _, _ => none
def HVC (xs : List Int) (n : Int) : Hint Unit := { X := Nat, st := fun i => ([.iview (some .i64) xs, .int .i64 n, .top, .top, .top, .top, .top, .int .i64 (xs.length : Int), .int .i64 (i : Int)] ++ List.replicate 10 .top, []), ok := okC xs n, mu := fun i => xs.length - i, keep := [0, 1, 7, 8] }
theorem hasV_ok : Spec.ok E24.I Try.prog 100 hasVS.spec := by
  intro args h o ho K hK
  unfold RSpec.spec at ho
  split at ho
  case h_2 => cases ho
  rename_i p v hv
  unfold hasVS at hv
  split at hv
  case h_2 => cases hv
  rename_i xs n
  simp only [Option.some.injEq, Prod.mk.injEq] at hv
  obtain ⟨rfl, rfl⟩ := hv
  simp only [Option.some.injEq] at ho; subst ho
  obtain ⟨hp, hK⟩ := hK
  have hK : K (.bool (hasB xs n)) [] := hK
  refine CallOk.trim (callOk_of (E := E8) Try.checked.mixed (L := fun _ _ => some (.states (HVC xs n))) (n := 10) (of_nf (q := okSt (HVC xs n) (Hint.ok (HVC xs n)) [AVal.iview (some .i64) xs, AVal.int .i64 n, AVal.top, AVal.top, AVal.top, AVal.top, AVal.top, AVal.int .i64 (↑(List.length xs) : Int), AVal.int .i64 0, AVal.top, AVal.top, AVal.top, AVal.top, AVal.top, AVal.top, AVal.top, AVal.top, AVal.top, AVal.top] [] ∧ ∀ (x : Nat), okC xs n x → bif ilt (↑x : Int) (↑(List.length xs) : Int) then ((0 : Int) ≤ (↑x : Int) ∧ (↑x : Int) < (↑(List.length xs) : Int)) ∧ bif ieq n (List.getD xs (Int.toNat (↑x : Int)) 0) then K (AVal.bool (ile 0 (↑x : Int))) [] else okSt (HVC xs n) (fun x' => Hint.ok (HVC xs n) x' ∧ Hint.mu (HVC xs n) x' < Hint.mu (HVC xs n) x) [AVal.iview (some .i64) xs, AVal.int .i64 n, AVal.top, AVal.top, AVal.top, AVal.top, AVal.top, AVal.int .i64 (↑(List.length xs) : Int), AVal.int .i64 (W ((↑x : Int) + 1)), AVal.top, AVal.top, AVal.top, AVal.top, AVal.top, AVal.top, AVal.top, AVal.top, AVal.top, AVal.top] [] else K (AVal.bool false) []) (by kernel_rfl) ?_))
  have hS : hasB xs n = decide (n ∈ xs) := rfl
  refine ⟨okSt_intro (H := HVC xs n) (0 : Nat) rfl ⟨Nat.zero_le _, by simp⟩, ?_⟩
  rintro i ⟨h1, h2⟩
  refine cond_go (fun e1 => ?_) (fun e1 => ?_)
  · rw [ilt_eq, decide_eq_true_eq] at e1
    have hi : i < xs.length := by omega
    have e2 : (i : Int).toNat = i := by omega
    rw [e2]
    have e4 : IntKind.wrap .i64 ((i : Int) + 1) = ((i + 1 : Nat) : Int) := by rw [W_in (by omega)]; rfl
    have hg : xs.getD i 0 = xs[i] := by rw [List.getD_eq_getElem?_getD, List.getElem?_eq_getElem hi]; rfl
    refine ⟨by omega, cond_go (fun e3 => ?_) (fun e3 => ?_)⟩
    · rw [ieq_eq, hg] at e3
      have e3 : n = xs[i] := by simpa using e3
      have hm : n ∈ xs := by rw [e3]; exact List.getElem_mem hi
      have h0 : ile 0 (i : Int) = true := by rw [ile_eq, decide_eq_true_eq]; omega
      rw [hS, decide_eq_true hm] at hK
      first | (rw [h0]; exact hK) | exact hK
    · rw [ieq_eq, hg] at e3
      have e3 : ¬ n = xs[i] := by simpa using e3
      refine okSt_intro (H := HVC xs n) (i + 1 : Nat) (by simp only [W, e4]; rfl) ⟨⟨hi, ?_⟩, by show xs.length - (i + 1) < xs.length - i; omega⟩
      rw [List.take_succ_eq_append_getElem hi]
      intro hm
      rcases List.mem_append.1 hm with h | h
      · exact h2 h
      · simp at h; omega
  · rw [ilt_eq, decide_eq_false_iff_not] at e1
    rw [List.take_of_length_le (by omega)] at h2
    rw [hS, decide_eq_false h2] at hK
    exact hK
def HVD (xs : List Int) (n : Int) : Hint Unit := { X := Nat, st := fun i => ([.iview (some .i64) xs, .int .i64 n, .top, .top, .top, .int .i64 (i : Int)] ++ List.replicate 12 .top, []), ok := okC xs n, mu := fun i => xs.length - i, keep := [0, 1, 5] }
theorem hasRV_ok : Spec.ok E24.I Try.prog 25 hasVS.spec := by
  intro args h o ho K hK
  unfold RSpec.spec at ho
  split at ho
  case h_2 => cases ho
  rename_i p v hv
  unfold hasVS at hv
  split at hv
  case h_2 => cases hv
  rename_i xs n
  simp only [Option.some.injEq, Prod.mk.injEq] at hv
  obtain ⟨rfl, rfl⟩ := hv
  simp only [Option.some.injEq] at ho; subst ho
  obtain ⟨hp, hK⟩ := hK
  have hK : K (.bool (hasB xs n)) [] := hK
  refine CallOk.trim (callOk_of (E := E8) Try.checked.mixed (L := fun _ _ => some (.states (HVD xs n))) (n := 10) (of_nf (q := okSt (HVD xs n) (Hint.ok (HVD xs n)) [AVal.iview (some .i64) xs, AVal.int .i64 n, AVal.top, AVal.top, AVal.top, AVal.int .i64 0, AVal.top, AVal.top, AVal.top, AVal.top, AVal.top, AVal.top, AVal.top, AVal.top, AVal.top, AVal.top, AVal.top, AVal.top] [] ∧ ∀ (x : Nat), okC xs n x → bif ilt (↑x : Int) (↑(List.length xs) : Int) then ((0 : Int) ≤ (↑x : Int) ∧ (↑x : Int) < (↑(List.length xs) : Int)) ∧ bif ieq (List.getD xs (Int.toNat (↑x : Int)) 0) n then K (AVal.bool true) [] else okSt (HVD xs n) (fun x' => Hint.ok (HVD xs n) x' ∧ Hint.mu (HVD xs n) x' < Hint.mu (HVD xs n) x) [AVal.iview (some .i64) xs, AVal.int .i64 n, AVal.top, AVal.top, AVal.top, AVal.int .i64 (W ((↑x : Int) + 1)), AVal.top, AVal.top, AVal.top, AVal.top, AVal.top, AVal.top, AVal.top, AVal.top, AVal.top, AVal.top, AVal.top, AVal.top] [] else K (AVal.bool false) []) (by kernel_rfl) ?_))
  have hS : hasB xs n = decide (n ∈ xs) := rfl
  refine ⟨okSt_intro (H := HVD xs n) (0 : Nat) rfl ⟨Nat.zero_le _, by simp⟩, ?_⟩
  rintro i ⟨h1, h2⟩
  refine cond_go (fun e1 => ?_) (fun e1 => ?_)
  · rw [ilt_eq, decide_eq_true_eq] at e1
    have hi : i < xs.length := by omega
    have e2 : (i : Int).toNat = i := by omega
    rw [e2]
    have e4 : IntKind.wrap .i64 ((i : Int) + 1) = ((i + 1 : Nat) : Int) := by rw [W_in (by omega)]; rfl
    have hg : xs.getD i 0 = xs[i] := by rw [List.getD_eq_getElem?_getD, List.getElem?_eq_getElem hi]; rfl
    refine ⟨by omega, cond_go (fun e3 => ?_) (fun e3 => ?_)⟩
    · rw [ieq_eq, hg] at e3
      have e3 : xs[i] = n := by simpa using e3
      have hm : n ∈ xs := by rw [← e3]; exact List.getElem_mem hi
      have h0 : ile 0 (i : Int) = true := by rw [ile_eq, decide_eq_true_eq]; omega
      rw [hS, decide_eq_true hm] at hK
      first | (rw [h0]; exact hK) | exact hK
    · rw [ieq_eq, hg] at e3
      have e3 : ¬ xs[i] = n := by simpa using e3
      refine okSt_intro (H := HVD xs n) (i + 1 : Nat) (by simp only [W, e4]; rfl) ⟨⟨hi, ?_⟩, by show xs.length - (i + 1) < xs.length - i; omega⟩
      rw [List.take_succ_eq_append_getElem hi]
      intro hm
      rcases List.mem_append.1 hm with h | h
      · exact h2 h
      · simp at h; omega
  · rw [ilt_eq, decide_eq_false_iff_not] at e1
    rw [List.take_of_length_le (by omega)] at h2
    rw [hS, decide_eq_false h2] at hK
    exact hK
noncomputable def E32 := (E24.addR 100 hasVS hasV_ok).addR 25 hasVS hasRV_ok
end Go.Sh

/- The tasks that are pending. -/
namespace Go.Sh
open Go Go.Proofs
variable [Con]
abbrev K3 : List Code1 := [some .i64, some .i64, some .i64]
/- OPQ -/
def allP (xs : List Int) (t n : Int) (sh : List Int) (u : Int) : Bool := pendB (cutI (peek xs (2 * n + 5 + 2 * t + 3 * u + 2)) 49 3) && (tgB (peek xs (2 * n + 5 + 2 * t + 3 * u + 1)) && (ieq (sh.length : Int) 0 || hasB sh (cutI (peek xs (2 * n + 5 + 2 * t + 3 * u + 1)) 0 3)))
def rowT (x : Int) : List Int := [cutI x 0 3, cutI x 3 3, cutI x 6 10]
def allN (xs : List Int) (t n : Int) (sh : List Int) : Nat → List (List Int)
  | 0 => []
  | u + 1 => allN xs t n sh u ++ (bif allP xs t n sh u then [rowT (peek xs (2 * n + 5 + 2 * t + 3 * (u : Int) + 1))] else [])
theorem allN_len (xs : List Int) (t n : Int) (sh : List Int) (u : Nat) : (allN xs t n sh u).length ≤ u := by
  induction u with
  | zero => exact Nat.le_refl _
  | succ u ih =>
    unfold allN
    cases allP xs t n sh u <;> simp <;> omega
structure okAll (xs : List Int) (t n : Int) (sh : List Int) (x : Nat × List (List Int)) : Prop where
  h1 : (x.1 : Int) ≤ t
  h2 : x.2 = allN xs t n sh x.1
def HAll (s : MS) (t n : Int) (sh : List Int) : Hint Unit := { X := Nat × List (List Int), st := fun x => ([.ptr 0 0, .top, .iview (some .i64) sh, .top, .ptr 2 0, .top, .top, .tslice 3 0 x.2.length 3, .top, .top, .top, .top, .int .i64 t, .int .i64 (x.1 : Int)] ++ List.replicate 36 .top, memH s ++ [some (.cells [.int .i64 t, .int .i64 n]), some (.tab [some .i64, some .i64, some .i64] x.2)]), ok := okAll s.xs t n sh, mu := fun x => t.toNat - x.1, keep := [0, 2, 4, 7, 12, 13], casts := [(.slot 7, .tab [some .i64, some .i64, some .i64])] }
def allS : Spec Unit := fun args h => match args, memPat h with
  | [.ptr 0 0, .agg [.int .i64 t, .int .i64 n], .iview (some .i64) sh], some (l, s) => some (.pre (l = s.xs.length ∧ (1 ≤ t ∧ t ≤ 1000) ∧ (1 ≤ n ∧ n ≤ 1000) ∧ okW s.xs ∧ sh.length ≤ 1000000) (.ret (.tslice 2 0 (allN s.xs t n sh t.toNat).length 3) (memH s ++ [some (.tab [some .i64, some .i64, some .i64] (allN s.xs t n sh t.toNat))])))
  | _, _ => none
set_option maxHeartbeats 4000000 in
theorem all_ok : Spec.ok E32.I Try.prog 65 allS := by
  intro args h o ho K hK
  unfold allS at ho
  split at ho
  case h_2 => cases ho
  rename_i t n sh l s hm
  simp only [Option.some.injEq] at ho; subst ho
  obtain ⟨⟨hl, ht, hn, hw, hsh⟩, hK⟩ := hK
  have hh := memPat_eq hm hl
  subst hh
  have hK : K (.tslice 2 0 (allN s.xs t n sh t.toNat).length 3) (memH s ++ [some (.tab [some .i64, some .i64, some .i64] (allN s.xs t n sh t.toNat))]) := hK
  refine CallOk.trim (callOk_of (E := E32) Try.checked.mixed (L := fun _ _ => some (.states (HAll s t n sh))) (n := 10) (of_nf (q := okSt (HAll s t n sh) (Hint.ok (HAll s t n sh)) [AVal.ptr 0 0, AVal.top, AVal.iview (some .i64) sh, AVal.top, AVal.ptr 2 0, AVal.top, AVal.top, AVal.tslice 3 0 0 3, AVal.top, AVal.top, AVal.top, AVal.top, AVal.int .i64 t, AVal.int .i64 0, AVal.top, AVal.top, AVal.top, AVal.top, AVal.top, AVal.top, AVal.top, AVal.top, AVal.top, AVal.top, AVal.top, AVal.top, AVal.top, AVal.top, AVal.top, AVal.top, AVal.top, AVal.top, AVal.top, AVal.top, AVal.top, AVal.top, AVal.top, AVal.top, AVal.top, AVal.top, AVal.top, AVal.top, AVal.top, AVal.top, AVal.top, AVal.top, AVal.top, AVal.top, AVal.top, AVal.top] [some (Entry.cells [AVal.int .i64 s.1, AVal.int .i64 s.2, AVal.slice 1 0 (List.length s.3) 1, AVal.int .i64 s.4, AVal.int .i64 s.5, AVal.int .i64 s.6, AVal.int .u64 s.7, AVal.int .u64 s.8, AVal.bool s.9]), some (Entry.ints (some .u64) s.3), some (Entry.cells [AVal.int .i64 t, AVal.int .i64 n]), some (Entry.tab [some .i64, some .i64, some .i64] [])] ∧ ∀ (x : (Nat × List (List Int))), okAll s.3 t n sh x → bif ilt (↑x.1 : Int) t then (((0 : Int) ≤ t ∧ t ≤ (100000 : Int)) ∧ ((0 : Int) ≤ n ∧ n ≤ (100000 : Int)) ∧ (-1099511627776 : Int) ≤ (↑x.1 : Int) ∧ (↑x.1 : Int) ≤ (1099511627776 : Int)) ∧ (List.length s.3 = List.length s.3 ∧ True) ∧ ((0 : Int) ≤ peek s.3 (2 * n + 5 + 2 * t + 3 * (↑x.1 : Int) + 1) ∧ peek s.3 (2 * n + 5 + 2 * t + 3 * (↑x.1 : Int) + 1) ≤ (18446744073709551615 : Int)) ∧ (List.length s.3 = List.length s.3 ∧ ((0 : Int) ≤ t ∧ t ≤ (100000 : Int)) ∧ (0 : Int) ≤ n ∧ n ≤ (100000 : Int)) ∧ bif pndB s.3 t n (↑x.1 : Int) then bif ieq (bif tgB (peek s.3 (2 * n + 5 + 2 * t + 3 * (↑x.1 : Int) + 1)) then 0 else 3) 0 then bif ieq (↑(List.length sh) : Int) 0 then (0 = 0 ∧ List.length x.2 = List.length x.2 ∧ List.length x.2 + (1 : Nat) ≤ (4294967296 : Nat)) ∧ okSt (HAll s t n sh) (fun x' => Hint.ok (HAll s t n sh) x' ∧ Hint.mu (HAll s t n sh) x' < Hint.mu (HAll s t n sh) x) [AVal.ptr 0 0, AVal.top, AVal.iview (some .i64) sh, AVal.top, AVal.ptr 2 0, AVal.top, AVal.top, AVal.tslice 3 0 (List.length x.2 + 1) 3, AVal.top, AVal.top, AVal.top, AVal.top, AVal.int .i64 t, AVal.int .i64 (W ((↑x.1 : Int) + 1)), AVal.top, AVal.top, AVal.top, AVal.top, AVal.top, AVal.top, AVal.top, AVal.top, AVal.top, AVal.top, AVal.top, AVal.top, AVal.top, AVal.top, AVal.top, AVal.top, AVal.top, AVal.top, AVal.top, AVal.top, AVal.top, AVal.top, AVal.top, AVal.top, AVal.top, AVal.top, AVal.top, AVal.top, AVal.top, AVal.top, AVal.top, AVal.top, AVal.top, AVal.top, AVal.top, AVal.top] [some (Entry.cells [AVal.int .i64 s.1, AVal.int .i64 s.2, AVal.slice 1 0 (List.length s.3) 1, AVal.int .i64 s.4, AVal.int .i64 s.5, AVal.int .i64 s.6, AVal.int .u64 s.7, AVal.int .u64 s.8, AVal.bool s.9]), some (Entry.ints (some .u64) s.3), some (Entry.cells [AVal.int .i64 t, AVal.int .i64 n]), some (Entry.tab [some .i64, some .i64, some .i64] (x.2 ++ [[bif tgB (peek s.3 (2 * n + 5 + 2 * t + 3 * (↑x.1 : Int) + 1)) then cutI (peek s.3 (2 * n + 5 + 2 * t + 3 * (↑x.1 : Int) + 1)) 0 3 else 0, bif tgB (peek s.3 (2 * n + 5 + 2 * t + 3 * (↑x.1 : Int) + 1)) then cutI (peek s.3 (2 * n + 5 + 2 * t + 3 * (↑x.1 : Int) + 1)) 3 3 else 0, bif tgB (peek s.3 (2 * n + 5 + 2 * t + 3 * (↑x.1 : Int) + 1)) then cutI (peek s.3 (2 * n + 5 + 2 * t + 3 * (↑x.1 : Int) + 1)) 6 10 else 0]]))] else List.length sh ≤ (4294967296 : Nat) ∧ bif hasB sh (bif tgB (peek s.3 (2 * n + 5 + 2 * t + 3 * (↑x.1 : Int) + 1)) then cutI (peek s.3 (2 * n + 5 + 2 * t + 3 * (↑x.1 : Int) + 1)) 0 3 else 0) then (0 = 0 ∧ List.length x.2 = List.length x.2 ∧ List.length x.2 + (1 : Nat) ≤ (4294967296 : Nat)) ∧ okSt (HAll s t n sh) (fun x' => Hint.ok (HAll s t n sh) x' ∧ Hint.mu (HAll s t n sh) x' < Hint.mu (HAll s t n sh) x) [AVal.ptr 0 0, AVal.top, AVal.iview (some .i64) sh, AVal.top, AVal.ptr 2 0, AVal.top, AVal.top, AVal.tslice 3 0 (List.length x.2 + 1) 3, AVal.top, AVal.top, AVal.top, AVal.top, AVal.int .i64 t, AVal.int .i64 (W ((↑x.1 : Int) + 1)), AVal.top, AVal.top, AVal.top, AVal.top, AVal.top, AVal.top, AVal.top, AVal.top, AVal.top, AVal.top, AVal.top, AVal.top, AVal.top, AVal.top, AVal.top, AVal.top, AVal.top, AVal.top, AVal.top, AVal.top, AVal.top, AVal.top, AVal.top, AVal.top, AVal.top, AVal.top, AVal.top, AVal.top, AVal.top, AVal.top, AVal.top, AVal.top, AVal.top, AVal.top, AVal.top, AVal.top] [some (Entry.cells [AVal.int .i64 s.1, AVal.int .i64 s.2, AVal.slice 1 0 (List.length s.3) 1, AVal.int .i64 s.4, AVal.int .i64 s.5, AVal.int .i64 s.6, AVal.int .u64 s.7, AVal.int .u64 s.8, AVal.bool s.9]), some (Entry.ints (some .u64) s.3), some (Entry.cells [AVal.int .i64 t, AVal.int .i64 n]), some (Entry.tab [some .i64, some .i64, some .i64] (x.2 ++ [[bif tgB (peek s.3 (2 * n + 5 + 2 * t + 3 * (↑x.1 : Int) + 1)) then cutI (peek s.3 (2 * n + 5 + 2 * t + 3 * (↑x.1 : Int) + 1)) 0 3 else 0, bif tgB (peek s.3 (2 * n + 5 + 2 * t + 3 * (↑x.1 : Int) + 1)) then cutI (peek s.3 (2 * n + 5 + 2 * t + 3 * (↑x.1 : Int) + 1)) 3 3 else 0, bif tgB (peek s.3 (2 * n + 5 + 2 * t + 3 * (↑x.1 : Int) + 1)) then cutI (peek s.3 (2 * n + 5 + 2 * t + 3 * (↑x.1 : Int) + 1)) 6 10 else 0]]))] else okSt (HAll s t n sh) (fun x' => Hint.ok (HAll s t n sh) x' ∧ Hint.mu (HAll s t n sh) x' < Hint.mu (HAll s t n sh) x) [AVal.ptr 0 0, AVal.top, AVal.iview (some .i64) sh, AVal.top, AVal.ptr 2 0, AVal.top, AVal.top, AVal.tslice 3 0 (List.length x.2) 3, AVal.top, AVal.top, AVal.top, AVal.top, AVal.int .i64 t, AVal.int .i64 (W ((↑x.1 : Int) + 1)), AVal.top, AVal.top, AVal.top, AVal.top, AVal.top, AVal.top, AVal.top, AVal.top, AVal.top, AVal.top, AVal.top, AVal.top, AVal.top, AVal.top, AVal.top, AVal.top, AVal.top, AVal.top, AVal.top, AVal.top, AVal.top, AVal.top, AVal.top, AVal.top, AVal.top, AVal.top, AVal.top, AVal.top, AVal.top, AVal.top, AVal.top, AVal.top, AVal.top, AVal.top, AVal.top, AVal.top] [some (Entry.cells [AVal.int .i64 s.1, AVal.int .i64 s.2, AVal.slice 1 0 (List.length s.3) 1, AVal.int .i64 s.4, AVal.int .i64 s.5, AVal.int .i64 s.6, AVal.int .u64 s.7, AVal.int .u64 s.8, AVal.bool s.9]), some (Entry.ints (some .u64) s.3), some (Entry.cells [AVal.int .i64 t, AVal.int .i64 n]), some (Entry.tab [some .i64, some .i64, some .i64] x.2)] else okSt (HAll s t n sh) (fun x' => Hint.ok (HAll s t n sh) x' ∧ Hint.mu (HAll s t n sh) x' < Hint.mu (HAll s t n sh) x) [AVal.ptr 0 0, AVal.top, AVal.iview (some .i64) sh, AVal.top, AVal.ptr 2 0, AVal.top, AVal.top, AVal.tslice 3 0 (List.length x.2) 3, AVal.top, AVal.top, AVal.top, AVal.top, AVal.int .i64 t, AVal.int .i64 (W ((↑x.1 : Int) + 1)), AVal.top, AVal.top, AVal.top, AVal.top, AVal.top, AVal.top, AVal.top, AVal.top, AVal.top, AVal.top, AVal.top, AVal.top, AVal.top, AVal.top, AVal.top, AVal.top, AVal.top, AVal.top, AVal.top, AVal.top, AVal.top, AVal.top, AVal.top, AVal.top, AVal.top, AVal.top, AVal.top, AVal.top, AVal.top, AVal.top, AVal.top, AVal.top, AVal.top, AVal.top, AVal.top, AVal.top] [some (Entry.cells [AVal.int .i64 s.1, AVal.int .i64 s.2, AVal.slice 1 0 (List.length s.3) 1, AVal.int .i64 s.4, AVal.int .i64 s.5, AVal.int .i64 s.6, AVal.int .u64 s.7, AVal.int .u64 s.8, AVal.bool s.9]), some (Entry.ints (some .u64) s.3), some (Entry.cells [AVal.int .i64 t, AVal.int .i64 n]), some (Entry.tab [some .i64, some .i64, some .i64] x.2)] else okSt (HAll s t n sh) (fun x' => Hint.ok (HAll s t n sh) x' ∧ Hint.mu (HAll s t n sh) x' < Hint.mu (HAll s t n sh) x) [AVal.ptr 0 0, AVal.top, AVal.iview (some .i64) sh, AVal.top, AVal.ptr 2 0, AVal.top, AVal.top, AVal.tslice 3 0 (List.length x.2) 3, AVal.top, AVal.top, AVal.top, AVal.top, AVal.int .i64 t, AVal.int .i64 (W ((↑x.1 : Int) + 1)), AVal.top, AVal.top, AVal.top, AVal.top, AVal.top, AVal.top, AVal.top, AVal.top, AVal.top, AVal.top, AVal.top, AVal.top, AVal.top, AVal.top, AVal.top, AVal.top, AVal.top, AVal.top, AVal.top, AVal.top, AVal.top, AVal.top, AVal.top, AVal.top, AVal.top, AVal.top, AVal.top, AVal.top, AVal.top, AVal.top, AVal.top, AVal.top, AVal.top, AVal.top, AVal.top, AVal.top] [some (Entry.cells [AVal.int .i64 s.1, AVal.int .i64 s.2, AVal.slice 1 0 (List.length s.3) 1, AVal.int .i64 s.4, AVal.int .i64 s.5, AVal.int .i64 s.6, AVal.int .u64 s.7, AVal.int .u64 s.8, AVal.bool s.9]), some (Entry.ints (some .u64) s.3), some (Entry.cells [AVal.int .i64 t, AVal.int .i64 n]), some (Entry.tab [some .i64, some .i64, some .i64] x.2)] else K (AVal.tslice 2 0 (List.length x.2) 3) [some (Entry.cells [AVal.int .i64 s.1, AVal.int .i64 s.2, AVal.slice 1 0 (List.length s.3) 1, AVal.int .i64 s.4, AVal.int .i64 s.5, AVal.int .i64 s.6, AVal.int .u64 s.7, AVal.int .u64 s.8, AVal.bool s.9]), some (Entry.ints (some .u64) s.3), some (Entry.tab [some .i64, some .i64, some .i64] x.2)]) (by kernel_rfl) ?_))
  refine ⟨okSt_intro (H := HAll s t n sh) ((0 : Nat), ([] : List (List Int))) rfl ⟨by show ((0 : Nat) : Int) ≤ t; omega, rfl⟩, ?_⟩
  rintro ⟨u, R⟩ ⟨h1, h2⟩
  dsimp only at h1 h2 ⊢
  refine lt_go (fun hu => ?_) (fun hu => ?_)
  · have hx := okW_peek hw (2 * n + 5 + 2 * t + 3 * (u : Int) + 1)
    have hpd : pndB s.xs t n u = pendB (cutI (peek s.xs (2 * n + 5 + 2 * t + 3 * (u : Int) + 2)) 49 3) := by
      unfold pndB
      rw [ile_eq, ilt_eq, decide_eq_true (show (0 : Int) ≤ (u : Int) by omega), decide_eq_true hu]; rfl
    have hS : allN s.xs t n sh (u + 1) = R ++ (bif (pendB (cutI (peek s.xs (2 * n + 5 + 2 * t + 3 * (u : Int) + 2)) 49 3) && (tgB (peek s.xs (2 * n + 5 + 2 * t + 3 * (u : Int) + 1)) && (ieq (sh.length : Int) 0 || hasB sh (cutI (peek s.xs (2 * n + 5 + 2 * t + 3 * (u : Int) + 1)) 0 3)))) then [rowT (peek s.xs (2 * n + 5 + 2 * t + 3 * (u : Int) + 1))] else []) := by rw [h2]; rfl
    have hlen : R.length ≤ u := by rw [h2]; exact allN_len _ _ _ _ _
    have e6 : W ((u : Int) + 1) = ((u + 1 : Nat) : Int) := by rw [W_id (by omega)]; rfl
    have hmu : t.toNat - (u + 1) < t.toNat - u := by omega
    have stay : allN s.xs t n sh (u + 1) = R → okSt (HAll s t n sh) (fun x' => (HAll s t n sh).ok x' ∧ (HAll s t n sh).mu x' < (HAll s t n sh).mu ((u, R) : Nat × List (List Int))) ((HAll s t n sh).st ((u + 1, R) : Nat × List (List Int))).1 ((HAll s t n sh).st ((u + 1, R) : Nat × List (List Int))).2 :=
      fun h => okSt_intro (H := HAll s t n sh) ((u + 1 : Nat), R) rfl ⟨⟨by show ((u + 1 : Nat) : Int) ≤ t; omega, h.symm⟩, hmu⟩
    have more : allN s.xs t n sh (u + 1) = R ++ [rowT (peek s.xs (2 * n + 5 + 2 * t + 3 * (u : Int) + 1))] → okSt (HAll s t n sh) (fun x' => (HAll s t n sh).ok x' ∧ (HAll s t n sh).mu x' < (HAll s t n sh).mu ((u, R) : Nat × List (List Int))) ((HAll s t n sh).st ((u + 1, R ++ [rowT (peek s.xs (2 * n + 5 + 2 * t + 3 * (u : Int) + 1))]) : Nat × List (List Int))).1 ((HAll s t n sh).st ((u + 1, R ++ [rowT (peek s.xs (2 * n + 5 + 2 * t + 3 * (u : Int) + 1))]) : Nat × List (List Int))).2 :=
      fun h => okSt_intro (H := HAll s t n sh) ((u + 1 : Nat), R ++ [rowT (peek s.xs (2 * n + 5 + 2 * t + 3 * (u : Int) + 1))]) rfl ⟨⟨by show ((u + 1 : Nat) : Int) ≤ t; omega, h.symm⟩, hmu⟩
    simp only [HAll, List.length_append] at more stay ⊢
    rw [hpd, e6]
    generalize peek s.xs (2 * n + 5 + 2 * t + 3 * (u : Int) + 1) = x at hS hx more ⊢
    generalize pendB (cutI (peek s.xs (2 * n + 5 + 2 * t + 3 * (u : Int) + 2)) 49 3) = b0 at hS ⊢
    refine ⟨by omega, ⟨trivial, trivial⟩, hx, ⟨trivial, by omega⟩, ?_⟩
    have i00 : ieq 0 0 = true := rfl
    have i30 : ieq 3 0 = false := rfl
    cases b0 with
    | false => exact stay (by rw [hS]; simp)
    | true =>
    cases ht' : tgB x with
    | false =>
      rw [ht'] at hS
      simp only [i30, cond_true, cond_false]
      exact stay (by rw [hS]; simp)
    | true =>
    rw [ht'] at hS
    simp only [i00, cond_true]
    cases hi : ieq (sh.length : Int) 0 with
    | true =>
      rw [hi] at hS
      simp only [cond_true]
      exact ⟨⟨trivial, trivial, by omega⟩, more (by rw [hS]; simp)⟩
    | false =>
    rw [hi] at hS
    simp only [cond_false]
    refine ⟨by omega, ?_⟩
    cases hb : hasB sh (cutI x 0 3) with
    | true =>
      rw [hb] at hS
      simp only [cond_true]
      exact ⟨⟨trivial, trivial, by omega⟩, more (by rw [hS]; simp)⟩
    | false =>
      rw [hb] at hS
      simp only [cond_false]
      exact stay (by rw [hS]; simp)
  · have : u = t.toNat := by omega
    subst this
    rw [h2]
    exact hK
noncomputable def E33 := E32.addS 65 allS all_ok
end Go.Sh

/- The tasks that are pending: the law's walk. -/
namespace Go.Sh
open Go Go.Proofs
variable [Con]
structure okL1 (T N : Int) (ts : List Int) (x : Nat × MS) : Prop where
  h1 : x.1 ≤ ts.length
  h2 : 0 ≤ x.2.c ∧ x.2.c ≤ x.1
  h3 : x.2.xs.length = (2 * N + 5 * T + 6).toNat
  h4 : okW x.2.xs
def lyH (T N : Int) : Heap Unit := [some (.cells [.int .i64 T, .int .i64 N]), some (.cells [.int .i64 T, .int .i64 N])]
def HL1 (T N : Int) (ts sh : List Int) : Hint Unit := { X := Nat × MS, st := fun x => ([.top, .iview (some .u64) ts, .iview (some .i64) sh, .top, .top, .top, .top, .ptr 0 0, .ptr 2 0, .ptr 3 0] ++ List.replicate 30 .top ++ [.iview (some .u64) ts, .int .i64 (ts.length : Int), .int .i64 (x.1 : Int)] ++ List.replicate 82 .top, memH x.2 ++ lyH T N), ok := okL1 T N ts, mu := fun x => ts.length - x.1, keep := [1, 2, 7, 8, 9, 40, 41, 42] }
structure okL2 (T N : Int) (sh : List Int) (x : Nat × MS × List (List Int)) : Prop where
  h1 : (x.1 : Int) ≤ T
  h3 : x.2.1.xs.length = (2 * N + 5 * T + 6).toNat
  h4 : okW x.2.1.xs
  h5 : x.2.2 = allN x.2.1.xs T N sh x.1
def HL2 (T N : Int) (sh : List Int) : Hint Unit := { X := Nat × MS × List (List Int), st := fun x => ([.top, .top, .iview (some .i64) sh, .top, .top, .top, .top, .ptr 0 0, .ptr 2 0, .ptr 3 0, .top, .top, .tslice 4 0 x.2.2.length 3, .int .i64 (x.1 : Int)] ++ List.replicate 111 .top, memH x.2.1 ++ lyH T N ++ [some (.tab [some .i64, some .i64, some .i64] x.2.2)]), ok := okL2 T N sh, mu := fun x => T.toNat - x.1, keep := [2, 7, 8, 9, 12, 13], casts := [(.slot 12, .tab [some .i64, some .i64, some .i64])] }
structure okL3 (x : Nat × List (List Int)) : Prop where
  h1 : x.1 ≤ x.2.length
  h2 : x.2.length ≤ 1000000
def HL3 : Hint Unit := { X := Nat × List (List Int), st := fun x => (List.replicate 12 .top ++ [.tslice 0 0 x.2.length 3, .top, .top, .top, .tslice 1 0 x.2.length 3] ++ List.replicate 94 .top ++ [.int .i64 (x.2.length : Int), .int .i64 (x.1 : Int)] ++ List.replicate 12 .top, [some (.tab [some .i64, some .i64, some .i64] x.2), some (.tab [some .i64, some .i64, some .i64] x.2)]), ok := okL3, mu := fun x => x.2.length - x.1, keep := [12, 16, 111, 112] }
theorem okW_put {xs : List Int} (h : okW xs) {a x : Int} (hx : 0 ≤ x ∧ x ≤ 18446744073709551615) : okW (putI xs a x) := by
  unfold putI
  split
  · refine ⟨fun y hy => ?_⟩
    rcases List.mem_or_eq_of_mem_set hy with h1 | h1
    · exact h.h y h1
    · subst h1; exact hx
  · exact h
theorem okW_getD {xs : List Int} (h : okW xs) (i : Nat) : 0 ≤ List.getD xs i 0 ∧ List.getD xs i 0 ≤ 18446744073709551615 := by
  rw [List.getD_eq_getElem?_getD]
  rcases Nat.lt_or_ge i xs.length with hi | hi
  · rw [List.getElem?_eq_getElem hi]
    exact h.h _ (List.getElem_mem hi)
  · rw [List.getElem?_eq_none hi]
    exact ⟨Int.le_refl 0, by decide⟩
theorem tgB_small {x : Int} (h : tgB x = true) : ilt x 65536 = true := by
  unfold tgB at h
  exact (Bool.and_eq_true_iff.1 h).1
def planA (T N : Int) (ts sh : List Int) : FuncId → Nat → Option (Plan Unit) := fun _ k => if k = 9 then some (.states (HL1 T N ts sh)) else if k = 16 then some (.states (HL2 T N sh)) else some (.states HL3)
set_option maxHeartbeats 4000000 in
theorem all14_ok (t n : Int) (ws ts sh : List Int) (ht : 0 ≤ t ∧ t ≤ 255) (hn : 0 ≤ n ∧ n ≤ 255) (hws : okW ws) (hts : okW ts) :
    CallOk E33.I Try.prog 13 [.agg [.int .u8 t, .int .u8 n, .iview (some .u64) ws], .iview (some .u64) ts, .iview (some .i64) sh] ([] : Heap Unit) (fun v _ => v = .bool true) := by
  refine callOk_of (E := E33) Try.checked.mixed (L := planA (thr t) (nod n) ts sh) (n := 10) (of_nf (q := True ∧ bif ilt 60 (↑(List.length ws) : Int) then AVal.bool true = AVal.bool true else bif ilt 8 (↑(List.length ts) : Int) then AVal.bool true = AVal.bool true else bif ilt 20 (↑(List.length sh) : Int) then AVal.bool true = AVal.bool true else (((0 : Int) ≤ t ∧ t ≤ (255 : Int)) ∧ (0 : Int) ≤ n ∧ n ≤ (255 : Int)) ∧ okSt (HL1 (thr t) (nod n) ts sh) (Hint.ok (HL1 (thr t) (nod n) ts sh)) [AVal.top, AVal.iview (some .u64) ts, AVal.iview (some .i64) sh, AVal.top, AVal.top, AVal.top, AVal.top, AVal.ptr 0 0, AVal.ptr 2 0, AVal.ptr 3 0, AVal.top, AVal.top, AVal.top, AVal.top, AVal.top, AVal.top, AVal.top, AVal.top, AVal.top, AVal.top, AVal.top, AVal.top, AVal.top, AVal.top, AVal.top, AVal.top, AVal.top, AVal.top, AVal.top, AVal.top, AVal.top, AVal.top, AVal.top, AVal.top, AVal.top, AVal.top, AVal.top, AVal.top, AVal.top, AVal.top, AVal.iview (some .u64) ts, AVal.int .i64 (↑(List.length ts) : Int), AVal.int .i64 0, AVal.top, AVal.top, AVal.top, AVal.top, AVal.top, AVal.top, AVal.top, AVal.top, AVal.top, AVal.top, AVal.top, AVal.top, AVal.top, AVal.top, AVal.top, AVal.top, AVal.top, AVal.top, AVal.top, AVal.top, AVal.top, AVal.top, AVal.top, AVal.top, AVal.top, AVal.top, AVal.top, AVal.top, AVal.top, AVal.top, AVal.top, AVal.top, AVal.top, AVal.top, AVal.top, AVal.top, AVal.top, AVal.top, AVal.top, AVal.top, AVal.top, AVal.top, AVal.top, AVal.top, AVal.top, AVal.top, AVal.top, AVal.top, AVal.top, AVal.top, AVal.top, AVal.top, AVal.top, AVal.top, AVal.top, AVal.top, AVal.top, AVal.top, AVal.top, AVal.top, AVal.top, AVal.top, AVal.top, AVal.top, AVal.top, AVal.top, AVal.top, AVal.top, AVal.top, AVal.top, AVal.top, AVal.top, AVal.top, AVal.top, AVal.top, AVal.top, AVal.top, AVal.top, AVal.top, AVal.top, AVal.top, AVal.top] [some (Entry.cells [AVal.int .i64 (thr t), AVal.int .i64 (nod n), AVal.slice 1 0 (List.length (memW (thr t) (nod n) ws)) 1, AVal.int .i64 0, AVal.int .i64 0, AVal.int .i64 0, AVal.int .u64 0, AVal.int .u64 0, AVal.bool false]), some (Entry.ints (some .u64) (memW (thr t) (nod n) ws)), some (Entry.cells [AVal.int .i64 (thr t), AVal.int .i64 (nod n)]), some (Entry.cells [AVal.int .i64 (thr t), AVal.int .i64 (nod n)])] ∧ ∀ (x : (Nat × MS)), okL1 (thr t) (nod n) ts x → bif ilt (↑x.1 : Int) (↑(List.length ts) : Int) then ((0 : Int) ≤ (↑x.1 : Int) ∧ (↑x.1 : Int) < (↑(List.length ts) : Int)) ∧ bif ilt (↑x.1 : Int) (thr t) then (((0 : Int) ≤ thr t ∧ thr t ≤ (100000 : Int)) ∧ ((0 : Int) ≤ nod n ∧ nod n ≤ (100000 : Int)) ∧ (-1099511627776 : Int) ≤ (↑x.1 : Int) ∧ (↑x.1 : Int) ≤ (1099511627776 : Int)) ∧ (List.length (Prod.snd x).3 = List.length (Prod.snd x).3 ∧ (0 : Int) ≤ (Prod.snd x).4 ∧ (Prod.snd x).4 ≤ (4611686018427387904 : Int)) ∧ okSt (HL1 (thr t) (nod n) ts sh) (fun x' => Hint.ok (HL1 (thr t) (nod n) ts sh) x' ∧ Hint.mu (HL1 (thr t) (nod n) ts sh) x' < Hint.mu (HL1 (thr t) (nod n) ts sh) x) [AVal.top, AVal.iview (some .u64) ts, AVal.iview (some .i64) sh, AVal.top, AVal.top, AVal.top, AVal.top, AVal.ptr 0 0, AVal.ptr 2 0, AVal.ptr 3 0, AVal.top, AVal.top, AVal.top, AVal.top, AVal.top, AVal.top, AVal.top, AVal.top, AVal.top, AVal.top, AVal.top, AVal.top, AVal.top, AVal.top, AVal.top, AVal.top, AVal.top, AVal.top, AVal.top, AVal.top, AVal.top, AVal.top, AVal.top, AVal.top, AVal.top, AVal.top, AVal.top, AVal.top, AVal.top, AVal.top, AVal.iview (some .u64) ts, AVal.int .i64 (↑(List.length ts) : Int), AVal.int .i64 (W ((↑x.1 : Int) + 1)), AVal.top, AVal.top, AVal.top, AVal.top, AVal.top, AVal.top, AVal.top, AVal.top, AVal.top, AVal.top, AVal.top, AVal.top, AVal.top, AVal.top, AVal.top, AVal.top, AVal.top, AVal.top, AVal.top, AVal.top, AVal.top, AVal.top, AVal.top, AVal.top, AVal.top, AVal.top, AVal.top, AVal.top, AVal.top, AVal.top, AVal.top, AVal.top, AVal.top, AVal.top, AVal.top, AVal.top, AVal.top, AVal.top, AVal.top, AVal.top, AVal.top, AVal.top, AVal.top, AVal.top, AVal.top, AVal.top, AVal.top, AVal.top, AVal.top, AVal.top, AVal.top, AVal.top, AVal.top, AVal.top, AVal.top, AVal.top, AVal.top, AVal.top, AVal.top, AVal.top, AVal.top, AVal.top, AVal.top, AVal.top, AVal.top, AVal.top, AVal.top, AVal.top, AVal.top, AVal.top, AVal.top, AVal.top, AVal.top, AVal.top, AVal.top, AVal.top, AVal.top, AVal.top, AVal.top, AVal.top, AVal.top, AVal.top] [some (Entry.cells [AVal.int .i64 (Prod.snd x).1, AVal.int .i64 (Prod.snd x).2, AVal.slice 1 0 (List.length (putI (Prod.snd x).3 (2 * nod n + 5 + 2 * thr t + 3 * (↑x.1 : Int) + 1) (List.getD ts (Int.toNat (↑x.1 : Int)) 0))) 1, AVal.int .i64 ((Prod.snd x).4 + 1), AVal.int .i64 2, AVal.int .i64 (2 * nod n + 5 + 2 * thr t + 3 * (↑x.1 : Int) + 1), AVal.int .u64 (peek (Prod.snd x).3 (2 * nod n + 5 + 2 * thr t + 3 * (↑x.1 : Int) + 1)), AVal.int .u64 (bif inB (Prod.snd x).3 (2 * nod n + 5 + 2 * thr t + 3 * (↑x.1 : Int) + 1) then List.getD ts (Int.toNat (↑x.1 : Int)) 0 else 0), AVal.bool (inB (Prod.snd x).3 (2 * nod n + 5 + 2 * thr t + 3 * (↑x.1 : Int) + 1))]), some (Entry.ints (some .u64) (putI (Prod.snd x).3 (2 * nod n + 5 + 2 * thr t + 3 * (↑x.1 : Int) + 1) (List.getD ts (Int.toNat (↑x.1 : Int)) 0))), some (Entry.cells [AVal.int .i64 (thr t), AVal.int .i64 (nod n)]), some (Entry.cells [AVal.int .i64 (thr t), AVal.int .i64 (nod n)])] else okSt (HL1 (thr t) (nod n) ts sh) (fun x' => Hint.ok (HL1 (thr t) (nod n) ts sh) x' ∧ Hint.mu (HL1 (thr t) (nod n) ts sh) x' < Hint.mu (HL1 (thr t) (nod n) ts sh) x) [AVal.top, AVal.iview (some .u64) ts, AVal.iview (some .i64) sh, AVal.top, AVal.top, AVal.top, AVal.top, AVal.ptr 0 0, AVal.ptr 2 0, AVal.ptr 3 0, AVal.top, AVal.top, AVal.top, AVal.top, AVal.top, AVal.top, AVal.top, AVal.top, AVal.top, AVal.top, AVal.top, AVal.top, AVal.top, AVal.top, AVal.top, AVal.top, AVal.top, AVal.top, AVal.top, AVal.top, AVal.top, AVal.top, AVal.top, AVal.top, AVal.top, AVal.top, AVal.top, AVal.top, AVal.top, AVal.top, AVal.iview (some .u64) ts, AVal.int .i64 (↑(List.length ts) : Int), AVal.int .i64 (W ((↑x.1 : Int) + 1)), AVal.top, AVal.top, AVal.top, AVal.top, AVal.top, AVal.top, AVal.top, AVal.top, AVal.top, AVal.top, AVal.top, AVal.top, AVal.top, AVal.top, AVal.top, AVal.top, AVal.top, AVal.top, AVal.top, AVal.top, AVal.top, AVal.top, AVal.top, AVal.top, AVal.top, AVal.top, AVal.top, AVal.top, AVal.top, AVal.top, AVal.top, AVal.top, AVal.top, AVal.top, AVal.top, AVal.top, AVal.top, AVal.top, AVal.top, AVal.top, AVal.top, AVal.top, AVal.top, AVal.top, AVal.top, AVal.top, AVal.top, AVal.top, AVal.top, AVal.top, AVal.top, AVal.top, AVal.top, AVal.top, AVal.top, AVal.top, AVal.top, AVal.top, AVal.top, AVal.top, AVal.top, AVal.top, AVal.top, AVal.top, AVal.top, AVal.top, AVal.top, AVal.top, AVal.top, AVal.top, AVal.top, AVal.top, AVal.top, AVal.top, AVal.top, AVal.top, AVal.top, AVal.top, AVal.top, AVal.top, AVal.top, AVal.top] [some (Entry.cells [AVal.int .i64 (Prod.snd x).1, AVal.int .i64 (Prod.snd x).2, AVal.slice 1 0 (List.length (Prod.snd x).3) 1, AVal.int .i64 (Prod.snd x).4, AVal.int .i64 (Prod.snd x).5, AVal.int .i64 (Prod.snd x).6, AVal.int .u64 (Prod.snd x).7, AVal.int .u64 (Prod.snd x).8, AVal.bool (Prod.snd x).9]), some (Entry.ints (some .u64) (Prod.snd x).3), some (Entry.cells [AVal.int .i64 (thr t), AVal.int .i64 (nod n)]), some (Entry.cells [AVal.int .i64 (thr t), AVal.int .i64 (nod n)])] else okSt (HL2 (thr t) (nod n) sh) (Hint.ok (HL2 (thr t) (nod n) sh)) [AVal.top, AVal.top, AVal.iview (some .i64) sh, AVal.top, AVal.top, AVal.top, AVal.top, AVal.ptr 0 0, AVal.ptr 2 0, AVal.ptr 3 0, AVal.top, AVal.top, AVal.tslice 4 0 0 3, AVal.int .i64 0, AVal.top, AVal.top, AVal.top, AVal.top, AVal.top, AVal.top, AVal.top, AVal.top, AVal.top, AVal.top, AVal.top, AVal.top, AVal.top, AVal.top, AVal.top, AVal.top, AVal.top, AVal.top, AVal.top, AVal.top, AVal.top, AVal.top, AVal.top, AVal.top, AVal.top, AVal.top, AVal.top, AVal.top, AVal.top, AVal.top, AVal.top, AVal.top, AVal.top, AVal.top, AVal.top, AVal.top, AVal.top, AVal.top, AVal.top, AVal.top, AVal.top, AVal.top, AVal.top, AVal.top, AVal.top, AVal.top, AVal.top, AVal.top, AVal.top, AVal.top, AVal.top, AVal.top, AVal.top, AVal.top, AVal.top, AVal.top, AVal.top, AVal.top, AVal.top, AVal.top, AVal.top, AVal.top, AVal.top, AVal.top, AVal.top, AVal.top, AVal.top, AVal.top, AVal.top, AVal.top, AVal.top, AVal.top, AVal.top, AVal.top, AVal.top, AVal.top, AVal.top, AVal.top, AVal.top, AVal.top, AVal.top, AVal.top, AVal.top, AVal.top, AVal.top, AVal.top, AVal.top, AVal.top, AVal.top, AVal.top, AVal.top, AVal.top, AVal.top, AVal.top, AVal.top, AVal.top, AVal.top, AVal.top, AVal.top, AVal.top, AVal.top, AVal.top, AVal.top, AVal.top, AVal.top, AVal.top, AVal.top, AVal.top, AVal.top, AVal.top, AVal.top] [some (Entry.cells [AVal.int .i64 (Prod.snd x).1, AVal.int .i64 (Prod.snd x).2, AVal.slice 1 0 (List.length (Prod.snd x).3) 1, AVal.int .i64 (Prod.snd x).4, AVal.int .i64 (Prod.snd x).5, AVal.int .i64 (Prod.snd x).6, AVal.int .u64 (Prod.snd x).7, AVal.int .u64 (Prod.snd x).8, AVal.bool (Prod.snd x).9]), some (Entry.ints (some .u64) (Prod.snd x).3), some (Entry.cells [AVal.int .i64 (thr t), AVal.int .i64 (nod n)]), some (Entry.cells [AVal.int .i64 (thr t), AVal.int .i64 (nod n)]), some (Entry.tab [some .i64, some .i64, some .i64] [])] ∧ ∀ (x : (Nat × MS × List (List Int))), okL2 (thr t) (nod n) sh x → bif ilt (↑x.1 : Int) (thr t) then (((0 : Int) ≤ thr t ∧ thr t ≤ (100000 : Int)) ∧ ((0 : Int) ≤ nod n ∧ nod n ≤ (100000 : Int)) ∧ (-1099511627776 : Int) ≤ (↑x.1 : Int) ∧ (↑x.1 : Int) ≤ (1099511627776 : Int)) ∧ (List.length (Prod.fst (Prod.snd x)).3 = List.length (Prod.fst (Prod.snd x)).3 ∧ True) ∧ ((0 : Int) ≤ peek (Prod.fst (Prod.snd x)).3 (2 * nod n + 5 + 2 * thr t + 3 * (↑x.1 : Int) + 1) ∧ peek (Prod.fst (Prod.snd x)).3 (2 * nod n + 5 + 2 * thr t + 3 * (↑x.1 : Int) + 1) ≤ (18446744073709551615 : Int)) ∧ bif tgB (peek (Prod.fst (Prod.snd x)).3 (2 * nod n + 5 + 2 * thr t + 3 * (↑x.1 : Int) + 1)) then (((0 : Int) ≤ thr t ∧ thr t ≤ (100000 : Int)) ∧ ((0 : Int) ≤ nod n ∧ nod n ≤ (100000 : Int)) ∧ (-1099511627776 : Int) ≤ (↑x.1 : Int) ∧ (↑x.1 : Int) ≤ (1099511627776 : Int)) ∧ (List.length (Prod.fst (Prod.snd x)).3 = List.length (Prod.fst (Prod.snd x)).3 ∧ True) ∧ ((0 : Int) ≤ peek (Prod.fst (Prod.snd x)).3 (2 * nod n + 5 + 2 * thr t + 3 * (↑x.1 : Int) + 2) ∧ peek (Prod.fst (Prod.snd x)).3 (2 * nod n + 5 + 2 * thr t + 3 * (↑x.1 : Int) + 2) ≤ (18446744073709551615 : Int)) ∧ bif pendB (cutI (peek (Prod.fst (Prod.snd x)).3 (2 * nod n + 5 + 2 * thr t + 3 * (↑x.1 : Int) + 2)) 49 3) then bif ieq (↑(List.length sh) : Int) 0 then (0 = 0 ∧ List.length (Prod.snd x).2 = List.length (Prod.snd x).2 ∧ List.length (Prod.snd x).2 + (1 : Nat) ≤ (4294967296 : Nat)) ∧ okSt (HL2 (thr t) (nod n) sh) (fun x' => Hint.ok (HL2 (thr t) (nod n) sh) x' ∧ Hint.mu (HL2 (thr t) (nod n) sh) x' < Hint.mu (HL2 (thr t) (nod n) sh) x) [AVal.top, AVal.top, AVal.iview (some .i64) sh, AVal.top, AVal.top, AVal.top, AVal.top, AVal.ptr 0 0, AVal.ptr 2 0, AVal.ptr 3 0, AVal.top, AVal.top, AVal.tslice 4 0 (List.length (Prod.snd x).2 + 1) 3, AVal.int .i64 (W ((↑x.1 : Int) + 1)), AVal.top, AVal.top, AVal.top, AVal.top, AVal.top, AVal.top, AVal.top, AVal.top, AVal.top, AVal.top, AVal.top, AVal.top, AVal.top, AVal.top, AVal.top, AVal.top, AVal.top, AVal.top, AVal.top, AVal.top, AVal.top, AVal.top, AVal.top, AVal.top, AVal.top, AVal.top, AVal.top, AVal.top, AVal.top, AVal.top, AVal.top, AVal.top, AVal.top, AVal.top, AVal.top, AVal.top, AVal.top, AVal.top, AVal.top, AVal.top, AVal.top, AVal.top, AVal.top, AVal.top, AVal.top, AVal.top, AVal.top, AVal.top, AVal.top, AVal.top, AVal.top, AVal.top, AVal.top, AVal.top, AVal.top, AVal.top, AVal.top, AVal.top, AVal.top, AVal.top, AVal.top, AVal.top, AVal.top, AVal.top, AVal.top, AVal.top, AVal.top, AVal.top, AVal.top, AVal.top, AVal.top, AVal.top, AVal.top, AVal.top, AVal.top, AVal.top, AVal.top, AVal.top, AVal.top, AVal.top, AVal.top, AVal.top, AVal.top, AVal.top, AVal.top, AVal.top, AVal.top, AVal.top, AVal.top, AVal.top, AVal.top, AVal.top, AVal.top, AVal.top, AVal.top, AVal.top, AVal.top, AVal.top, AVal.top, AVal.top, AVal.top, AVal.top, AVal.top, AVal.top, AVal.top, AVal.top, AVal.top, AVal.top, AVal.top, AVal.top, AVal.top] [some (Entry.cells [AVal.int .i64 (Prod.fst (Prod.snd x)).1, AVal.int .i64 (Prod.fst (Prod.snd x)).2, AVal.slice 1 0 (List.length (Prod.fst (Prod.snd x)).3) 1, AVal.int .i64 (Prod.fst (Prod.snd x)).4, AVal.int .i64 (Prod.fst (Prod.snd x)).5, AVal.int .i64 (Prod.fst (Prod.snd x)).6, AVal.int .u64 (Prod.fst (Prod.snd x)).7, AVal.int .u64 (Prod.fst (Prod.snd x)).8, AVal.bool (Prod.fst (Prod.snd x)).9]), some (Entry.ints (some .u64) (Prod.fst (Prod.snd x)).3), some (Entry.cells [AVal.int .i64 (thr t), AVal.int .i64 (nod n)]), some (Entry.cells [AVal.int .i64 (thr t), AVal.int .i64 (nod n)]), some (Entry.tab [some .i64, some .i64, some .i64] ((Prod.snd x).2 ++ [[bif ilt (peek (Prod.fst (Prod.snd x)).3 (2 * nod n + 5 + 2 * thr t + 3 * (↑x.1 : Int) + 1)) 65536 then cutI (peek (Prod.fst (Prod.snd x)).3 (2 * nod n + 5 + 2 * thr t + 3 * (↑x.1 : Int) + 1)) 0 3 else 0, bif ilt (peek (Prod.fst (Prod.snd x)).3 (2 * nod n + 5 + 2 * thr t + 3 * (↑x.1 : Int) + 1)) 65536 then cutI (peek (Prod.fst (Prod.snd x)).3 (2 * nod n + 5 + 2 * thr t + 3 * (↑x.1 : Int) + 1)) 3 3 else 0, bif ilt (peek (Prod.fst (Prod.snd x)).3 (2 * nod n + 5 + 2 * thr t + 3 * (↑x.1 : Int) + 1)) 65536 then cutI (peek (Prod.fst (Prod.snd x)).3 (2 * nod n + 5 + 2 * thr t + 3 * (↑x.1 : Int) + 1)) 6 10 else 0]]))] else List.length sh ≤ (4294967296 : Nat) ∧ bif hasB sh (bif ilt (peek (Prod.fst (Prod.snd x)).3 (2 * nod n + 5 + 2 * thr t + 3 * (↑x.1 : Int) + 1)) 65536 then cutI (peek (Prod.fst (Prod.snd x)).3 (2 * nod n + 5 + 2 * thr t + 3 * (↑x.1 : Int) + 1)) 0 3 else 0) then (0 = 0 ∧ List.length (Prod.snd x).2 = List.length (Prod.snd x).2 ∧ List.length (Prod.snd x).2 + (1 : Nat) ≤ (4294967296 : Nat)) ∧ okSt (HL2 (thr t) (nod n) sh) (fun x' => Hint.ok (HL2 (thr t) (nod n) sh) x' ∧ Hint.mu (HL2 (thr t) (nod n) sh) x' < Hint.mu (HL2 (thr t) (nod n) sh) x) [AVal.top, AVal.top, AVal.iview (some .i64) sh, AVal.top, AVal.top, AVal.top, AVal.top, AVal.ptr 0 0, AVal.ptr 2 0, AVal.ptr 3 0, AVal.top, AVal.top, AVal.tslice 4 0 (List.length (Prod.snd x).2 + 1) 3, AVal.int .i64 (W ((↑x.1 : Int) + 1)), AVal.top, AVal.top, AVal.top, AVal.top, AVal.top, AVal.top, AVal.top, AVal.top, AVal.top, AVal.top, AVal.top, AVal.top, AVal.top, AVal.top, AVal.top, AVal.top, AVal.top, AVal.top, AVal.top, AVal.top, AVal.top, AVal.top, AVal.top, AVal.top, AVal.top, AVal.top, AVal.top, AVal.top, AVal.top, AVal.top, AVal.top, AVal.top, AVal.top, AVal.top, AVal.top, AVal.top, AVal.top, AVal.top, AVal.top, AVal.top, AVal.top, AVal.top, AVal.top, AVal.top, AVal.top, AVal.top, AVal.top, AVal.top, AVal.top, AVal.top, AVal.top, AVal.top, AVal.top, AVal.top, AVal.top, AVal.top, AVal.top, AVal.top, AVal.top, AVal.top, AVal.top, AVal.top, AVal.top, AVal.top, AVal.top, AVal.top, AVal.top, AVal.top, AVal.top, AVal.top, AVal.top, AVal.top, AVal.top, AVal.top, AVal.top, AVal.top, AVal.top, AVal.top, AVal.top, AVal.top, AVal.top, AVal.top, AVal.top, AVal.top, AVal.top, AVal.top, AVal.top, AVal.top, AVal.top, AVal.top, AVal.top, AVal.top, AVal.top, AVal.top, AVal.top, AVal.top, AVal.top, AVal.top, AVal.top, AVal.top, AVal.top, AVal.top, AVal.top, AVal.top, AVal.top, AVal.top, AVal.top, AVal.top, AVal.top, AVal.top, AVal.top] [some (Entry.cells [AVal.int .i64 (Prod.fst (Prod.snd x)).1, AVal.int .i64 (Prod.fst (Prod.snd x)).2, AVal.slice 1 0 (List.length (Prod.fst (Prod.snd x)).3) 1, AVal.int .i64 (Prod.fst (Prod.snd x)).4, AVal.int .i64 (Prod.fst (Prod.snd x)).5, AVal.int .i64 (Prod.fst (Prod.snd x)).6, AVal.int .u64 (Prod.fst (Prod.snd x)).7, AVal.int .u64 (Prod.fst (Prod.snd x)).8, AVal.bool (Prod.fst (Prod.snd x)).9]), some (Entry.ints (some .u64) (Prod.fst (Prod.snd x)).3), some (Entry.cells [AVal.int .i64 (thr t), AVal.int .i64 (nod n)]), some (Entry.cells [AVal.int .i64 (thr t), AVal.int .i64 (nod n)]), some (Entry.tab [some .i64, some .i64, some .i64] ((Prod.snd x).2 ++ [[bif ilt (peek (Prod.fst (Prod.snd x)).3 (2 * nod n + 5 + 2 * thr t + 3 * (↑x.1 : Int) + 1)) 65536 then cutI (peek (Prod.fst (Prod.snd x)).3 (2 * nod n + 5 + 2 * thr t + 3 * (↑x.1 : Int) + 1)) 0 3 else 0, bif ilt (peek (Prod.fst (Prod.snd x)).3 (2 * nod n + 5 + 2 * thr t + 3 * (↑x.1 : Int) + 1)) 65536 then cutI (peek (Prod.fst (Prod.snd x)).3 (2 * nod n + 5 + 2 * thr t + 3 * (↑x.1 : Int) + 1)) 3 3 else 0, bif ilt (peek (Prod.fst (Prod.snd x)).3 (2 * nod n + 5 + 2 * thr t + 3 * (↑x.1 : Int) + 1)) 65536 then cutI (peek (Prod.fst (Prod.snd x)).3 (2 * nod n + 5 + 2 * thr t + 3 * (↑x.1 : Int) + 1)) 6 10 else 0]]))] else okSt (HL2 (thr t) (nod n) sh) (fun x' => Hint.ok (HL2 (thr t) (nod n) sh) x' ∧ Hint.mu (HL2 (thr t) (nod n) sh) x' < Hint.mu (HL2 (thr t) (nod n) sh) x) [AVal.top, AVal.top, AVal.iview (some .i64) sh, AVal.top, AVal.top, AVal.top, AVal.top, AVal.ptr 0 0, AVal.ptr 2 0, AVal.ptr 3 0, AVal.top, AVal.top, AVal.tslice 4 0 (List.length (Prod.snd x).2) 3, AVal.int .i64 (W ((↑x.1 : Int) + 1)), AVal.top, AVal.top, AVal.top, AVal.top, AVal.top, AVal.top, AVal.top, AVal.top, AVal.top, AVal.top, AVal.top, AVal.top, AVal.top, AVal.top, AVal.top, AVal.top, AVal.top, AVal.top, AVal.top, AVal.top, AVal.top, AVal.top, AVal.top, AVal.top, AVal.top, AVal.top, AVal.top, AVal.top, AVal.top, AVal.top, AVal.top, AVal.top, AVal.top, AVal.top, AVal.top, AVal.top, AVal.top, AVal.top, AVal.top, AVal.top, AVal.top, AVal.top, AVal.top, AVal.top, AVal.top, AVal.top, AVal.top, AVal.top, AVal.top, AVal.top, AVal.top, AVal.top, AVal.top, AVal.top, AVal.top, AVal.top, AVal.top, AVal.top, AVal.top, AVal.top, AVal.top, AVal.top, AVal.top, AVal.top, AVal.top, AVal.top, AVal.top, AVal.top, AVal.top, AVal.top, AVal.top, AVal.top, AVal.top, AVal.top, AVal.top, AVal.top, AVal.top, AVal.top, AVal.top, AVal.top, AVal.top, AVal.top, AVal.top, AVal.top, AVal.top, AVal.top, AVal.top, AVal.top, AVal.top, AVal.top, AVal.top, AVal.top, AVal.top, AVal.top, AVal.top, AVal.top, AVal.top, AVal.top, AVal.top, AVal.top, AVal.top, AVal.top, AVal.top, AVal.top, AVal.top, AVal.top, AVal.top, AVal.top, AVal.top, AVal.top, AVal.top] [some (Entry.cells [AVal.int .i64 (Prod.fst (Prod.snd x)).1, AVal.int .i64 (Prod.fst (Prod.snd x)).2, AVal.slice 1 0 (List.length (Prod.fst (Prod.snd x)).3) 1, AVal.int .i64 (Prod.fst (Prod.snd x)).4, AVal.int .i64 (Prod.fst (Prod.snd x)).5, AVal.int .i64 (Prod.fst (Prod.snd x)).6, AVal.int .u64 (Prod.fst (Prod.snd x)).7, AVal.int .u64 (Prod.fst (Prod.snd x)).8, AVal.bool (Prod.fst (Prod.snd x)).9]), some (Entry.ints (some .u64) (Prod.fst (Prod.snd x)).3), some (Entry.cells [AVal.int .i64 (thr t), AVal.int .i64 (nod n)]), some (Entry.cells [AVal.int .i64 (thr t), AVal.int .i64 (nod n)]), some (Entry.tab [some .i64, some .i64, some .i64] (Prod.snd x).2)] else okSt (HL2 (thr t) (nod n) sh) (fun x' => Hint.ok (HL2 (thr t) (nod n) sh) x' ∧ Hint.mu (HL2 (thr t) (nod n) sh) x' < Hint.mu (HL2 (thr t) (nod n) sh) x) [AVal.top, AVal.top, AVal.iview (some .i64) sh, AVal.top, AVal.top, AVal.top, AVal.top, AVal.ptr 0 0, AVal.ptr 2 0, AVal.ptr 3 0, AVal.top, AVal.top, AVal.tslice 4 0 (List.length (Prod.snd x).2) 3, AVal.int .i64 (W ((↑x.1 : Int) + 1)), AVal.top, AVal.top, AVal.top, AVal.top, AVal.top, AVal.top, AVal.top, AVal.top, AVal.top, AVal.top, AVal.top, AVal.top, AVal.top, AVal.top, AVal.top, AVal.top, AVal.top, AVal.top, AVal.top, AVal.top, AVal.top, AVal.top, AVal.top, AVal.top, AVal.top, AVal.top, AVal.top, AVal.top, AVal.top, AVal.top, AVal.top, AVal.top, AVal.top, AVal.top, AVal.top, AVal.top, AVal.top, AVal.top, AVal.top, AVal.top, AVal.top, AVal.top, AVal.top, AVal.top, AVal.top, AVal.top, AVal.top, AVal.top, AVal.top, AVal.top, AVal.top, AVal.top, AVal.top, AVal.top, AVal.top, AVal.top, AVal.top, AVal.top, AVal.top, AVal.top, AVal.top, AVal.top, AVal.top, AVal.top, AVal.top, AVal.top, AVal.top, AVal.top, AVal.top, AVal.top, AVal.top, AVal.top, AVal.top, AVal.top, AVal.top, AVal.top, AVal.top, AVal.top, AVal.top, AVal.top, AVal.top, AVal.top, AVal.top, AVal.top, AVal.top, AVal.top, AVal.top, AVal.top, AVal.top, AVal.top, AVal.top, AVal.top, AVal.top, AVal.top, AVal.top, AVal.top, AVal.top, AVal.top, AVal.top, AVal.top, AVal.top, AVal.top, AVal.top, AVal.top, AVal.top, AVal.top, AVal.top, AVal.top, AVal.top, AVal.top, AVal.top] [some (Entry.cells [AVal.int .i64 (Prod.fst (Prod.snd x)).1, AVal.int .i64 (Prod.fst (Prod.snd x)).2, AVal.slice 1 0 (List.length (Prod.fst (Prod.snd x)).3) 1, AVal.int .i64 (Prod.fst (Prod.snd x)).4, AVal.int .i64 (Prod.fst (Prod.snd x)).5, AVal.int .i64 (Prod.fst (Prod.snd x)).6, AVal.int .u64 (Prod.fst (Prod.snd x)).7, AVal.int .u64 (Prod.fst (Prod.snd x)).8, AVal.bool (Prod.fst (Prod.snd x)).9]), some (Entry.ints (some .u64) (Prod.fst (Prod.snd x)).3), some (Entry.cells [AVal.int .i64 (thr t), AVal.int .i64 (nod n)]), some (Entry.cells [AVal.int .i64 (thr t), AVal.int .i64 (nod n)]), some (Entry.tab [some .i64, some .i64, some .i64] (Prod.snd x).2)] else okSt (HL2 (thr t) (nod n) sh) (fun x' => Hint.ok (HL2 (thr t) (nod n) sh) x' ∧ Hint.mu (HL2 (thr t) (nod n) sh) x' < Hint.mu (HL2 (thr t) (nod n) sh) x) [AVal.top, AVal.top, AVal.iview (some .i64) sh, AVal.top, AVal.top, AVal.top, AVal.top, AVal.ptr 0 0, AVal.ptr 2 0, AVal.ptr 3 0, AVal.top, AVal.top, AVal.tslice 4 0 (List.length (Prod.snd x).2) 3, AVal.int .i64 (W ((↑x.1 : Int) + 1)), AVal.top, AVal.top, AVal.top, AVal.top, AVal.top, AVal.top, AVal.top, AVal.top, AVal.top, AVal.top, AVal.top, AVal.top, AVal.top, AVal.top, AVal.top, AVal.top, AVal.top, AVal.top, AVal.top, AVal.top, AVal.top, AVal.top, AVal.top, AVal.top, AVal.top, AVal.top, AVal.top, AVal.top, AVal.top, AVal.top, AVal.top, AVal.top, AVal.top, AVal.top, AVal.top, AVal.top, AVal.top, AVal.top, AVal.top, AVal.top, AVal.top, AVal.top, AVal.top, AVal.top, AVal.top, AVal.top, AVal.top, AVal.top, AVal.top, AVal.top, AVal.top, AVal.top, AVal.top, AVal.top, AVal.top, AVal.top, AVal.top, AVal.top, AVal.top, AVal.top, AVal.top, AVal.top, AVal.top, AVal.top, AVal.top, AVal.top, AVal.top, AVal.top, AVal.top, AVal.top, AVal.top, AVal.top, AVal.top, AVal.top, AVal.top, AVal.top, AVal.top, AVal.top, AVal.top, AVal.top, AVal.top, AVal.top, AVal.top, AVal.top, AVal.top, AVal.top, AVal.top, AVal.top, AVal.top, AVal.top, AVal.top, AVal.top, AVal.top, AVal.top, AVal.top, AVal.top, AVal.top, AVal.top, AVal.top, AVal.top, AVal.top, AVal.top, AVal.top, AVal.top, AVal.top, AVal.top, AVal.top, AVal.top, AVal.top, AVal.top, AVal.top] [some (Entry.cells [AVal.int .i64 (Prod.fst (Prod.snd x)).1, AVal.int .i64 (Prod.fst (Prod.snd x)).2, AVal.slice 1 0 (List.length (Prod.fst (Prod.snd x)).3) 1, AVal.int .i64 (Prod.fst (Prod.snd x)).4, AVal.int .i64 (Prod.fst (Prod.snd x)).5, AVal.int .i64 (Prod.fst (Prod.snd x)).6, AVal.int .u64 (Prod.fst (Prod.snd x)).7, AVal.int .u64 (Prod.fst (Prod.snd x)).8, AVal.bool (Prod.fst (Prod.snd x)).9]), some (Entry.ints (some .u64) (Prod.fst (Prod.snd x)).3), some (Entry.cells [AVal.int .i64 (thr t), AVal.int .i64 (nod n)]), some (Entry.cells [AVal.int .i64 (thr t), AVal.int .i64 (nod n)]), some (Entry.tab [some .i64, some .i64, some .i64] (Prod.snd x).2)] else (List.length (Prod.fst (Prod.snd x)).3 = List.length (Prod.fst (Prod.snd x)).3 ∧ ((1 : Int) ≤ thr t ∧ thr t ≤ (1000 : Int)) ∧ ((1 : Int) ≤ nod n ∧ nod n ≤ (1000 : Int)) ∧ okW (Prod.fst (Prod.snd x)).3 ∧ List.length sh ≤ (1000000 : Nat)) ∧ bif !ieq (↑(List.length (allN (Prod.fst (Prod.snd x)).3 (thr t) (nod n) sh (Int.toNat (thr t)))) : Int) (↑(List.length (Prod.snd x).2) : Int) then AVal.bool false = AVal.bool true else okSt HL3 (Hint.ok HL3) [AVal.top, AVal.top, AVal.top, AVal.top, AVal.top, AVal.top, AVal.top, AVal.top, AVal.top, AVal.top, AVal.top, AVal.top, AVal.tslice 0 0 (List.length (Prod.snd x).2) 3, AVal.top, AVal.top, AVal.top, AVal.tslice 1 0 (List.length (allN (Prod.fst (Prod.snd x)).3 (thr t) (nod n) sh (Int.toNat (thr t)))) 3, AVal.top, AVal.top, AVal.top, AVal.top, AVal.top, AVal.top, AVal.top, AVal.top, AVal.top, AVal.top, AVal.top, AVal.top, AVal.top, AVal.top, AVal.top, AVal.top, AVal.top, AVal.top, AVal.top, AVal.top, AVal.top, AVal.top, AVal.top, AVal.top, AVal.top, AVal.top, AVal.top, AVal.top, AVal.top, AVal.top, AVal.top, AVal.top, AVal.top, AVal.top, AVal.top, AVal.top, AVal.top, AVal.top, AVal.top, AVal.top, AVal.top, AVal.top, AVal.top, AVal.top, AVal.top, AVal.top, AVal.top, AVal.top, AVal.top, AVal.top, AVal.top, AVal.top, AVal.top, AVal.top, AVal.top, AVal.top, AVal.top, AVal.top, AVal.top, AVal.top, AVal.top, AVal.top, AVal.top, AVal.top, AVal.top, AVal.top, AVal.top, AVal.top, AVal.top, AVal.top, AVal.top, AVal.top, AVal.top, AVal.top, AVal.top, AVal.top, AVal.top, AVal.top, AVal.top, AVal.top, AVal.top, AVal.top, AVal.top, AVal.top, AVal.top, AVal.top, AVal.top, AVal.top, AVal.top, AVal.top, AVal.top, AVal.top, AVal.top, AVal.top, AVal.int .i64 (↑(List.length (allN (Prod.fst (Prod.snd x)).3 (thr t) (nod n) sh (Int.toNat (thr t)))) : Int), AVal.int .i64 0, AVal.top, AVal.top, AVal.top, AVal.top, AVal.top, AVal.top, AVal.top, AVal.top, AVal.top, AVal.top, AVal.top, AVal.top] [some (Entry.tab [some .i64, some .i64, some .i64] (Prod.snd x).2), some (Entry.tab [some .i64, some .i64, some .i64] (allN (Prod.fst (Prod.snd x)).3 (thr t) (nod n) sh (Int.toNat (thr t))))] ∧ ∀ (x : (Nat × List (List Int))), okL3 x → bif ilt (↑x.1 : Int) (↑(List.length x.2) : Int) then ((0 : Int) ≤ (↑x.1 : Int) ∧ (↑x.1 : Int) < (↑(List.length x.2) : Int)) ∧ 0 + Int.toNat (↑x.1 : Int) < List.length x.2 ∧ ((0 : Int) ≤ (↑x.1 : Int) ∧ (↑x.1 : Int) < (↑(List.length x.2) : Int)) ∧ 0 + Int.toNat (↑x.1 : Int) < List.length x.2 ∧ bif !bif ieq (List.headD (List.getD x.2 (0 + Int.toNat (↑x.1 : Int)) []) 0) (List.headD (List.getD x.2 (0 + Int.toNat (↑x.1 : Int)) []) 0) then bif bif ieq (List.headD (List.tail (List.getD x.2 (0 + Int.toNat (↑x.1 : Int)) [])) 0) (List.headD (List.tail (List.getD x.2 (0 + Int.toNat (↑x.1 : Int)) [])) 0) then bif ieq (List.headD (List.tail (List.tail (List.getD x.2 (0 + Int.toNat (↑x.1 : Int)) []))) 0) (List.headD (List.tail (List.tail (List.getD x.2 (0 + Int.toNat (↑x.1 : Int)) []))) 0) then true else false else false then true else false else false then AVal.bool false = AVal.bool true else okSt HL3 (fun x' => Hint.ok HL3 x' ∧ Hint.mu HL3 x' < Hint.mu HL3 x) [AVal.top, AVal.top, AVal.top, AVal.top, AVal.top, AVal.top, AVal.top, AVal.top, AVal.top, AVal.top, AVal.top, AVal.top, AVal.tslice 0 0 (List.length x.2) 3, AVal.top, AVal.top, AVal.top, AVal.tslice 1 0 (List.length x.2) 3, AVal.top, AVal.top, AVal.top, AVal.top, AVal.top, AVal.top, AVal.top, AVal.top, AVal.top, AVal.top, AVal.top, AVal.top, AVal.top, AVal.top, AVal.top, AVal.top, AVal.top, AVal.top, AVal.top, AVal.top, AVal.top, AVal.top, AVal.top, AVal.top, AVal.top, AVal.top, AVal.top, AVal.top, AVal.top, AVal.top, AVal.top, AVal.top, AVal.top, AVal.top, AVal.top, AVal.top, AVal.top, AVal.top, AVal.top, AVal.top, AVal.top, AVal.top, AVal.top, AVal.top, AVal.top, AVal.top, AVal.top, AVal.top, AVal.top, AVal.top, AVal.top, AVal.top, AVal.top, AVal.top, AVal.top, AVal.top, AVal.top, AVal.top, AVal.top, AVal.top, AVal.top, AVal.top, AVal.top, AVal.top, AVal.top, AVal.top, AVal.top, AVal.top, AVal.top, AVal.top, AVal.top, AVal.top, AVal.top, AVal.top, AVal.top, AVal.top, AVal.top, AVal.top, AVal.top, AVal.top, AVal.top, AVal.top, AVal.top, AVal.top, AVal.top, AVal.top, AVal.top, AVal.top, AVal.top, AVal.top, AVal.top, AVal.top, AVal.top, AVal.top, AVal.int .i64 (↑(List.length x.2) : Int), AVal.int .i64 (W ((↑x.1 : Int) + 1)), AVal.top, AVal.top, AVal.top, AVal.top, AVal.top, AVal.top, AVal.top, AVal.top, AVal.top, AVal.top, AVal.top, AVal.top] [some (Entry.tab [some .i64, some .i64, some .i64] x.2), some (Entry.tab [some .i64, some .i64, some .i64] x.2)] else AVal.bool true = AVal.bool true) (by kernel_rfl) ?_)
  have h1 := thr_in ht
  have h2 := nod_in hn
  have hW : okW (memW (thr t) (nod n) ws) := okW_memW hws
  have hl := memW_length (thr t) (nod n) ws
  generalize memW (thr t) (nod n) ws = MW at hW hl ⊢
  generalize thr t = T at h1 hl ⊢
  generalize nod n = N at h2 hl ⊢
  refine ⟨trivial, cond_go (fun _ => rfl) (fun _ => lt_go (fun _ => rfl) (fun hts8 => lt_go (fun _ => rfl) (fun hsh => ⟨⟨ht, hn⟩, okSt_intro (H := HL1 T N ts sh) ((0 : Nat), (⟨T, N, MW, 0, 0, 0, 0, 0, false⟩ : MS)) rfl ⟨Nat.zero_le _, by show (0 : Int) ≤ 0 ∧ (0 : Int) ≤ ((0 : Nat) : Int); omega, hl, hW⟩, ?_⟩)))⟩
  clear hl hW
  rintro ⟨i, s⟩ ⟨g1, g2, g3, g4⟩
  dsimp only at g1 g2 g3 g4 ⊢
  refine lt_go (fun hi => ⟨by omega, ?_⟩) (fun hi => ⟨okSt_intro (H := HL2 T N sh) ((0 : Nat), s, ([] : List (List Int))) rfl ⟨by show ((0 : Nat) : Int) ≤ T; omega, g3, g4, rfl⟩, ?_⟩)
  · have e6 : W ((i : Int) + 1) = ((i + 1 : Nat) : Int) := by rw [W_id (by omega)]; rfl
    have hv := okW_getD hts (Int.toNat (i : Int))
    rw [e6]
    refine lt_go (fun hu => ⟨by omega, ⟨rfl, by omega⟩, ?_⟩) (fun hu => ?_)
    · exact okSt_intro (H := HL1 T N ts sh) ((i + 1 : Nat), s.stored (2 * N + 5 + 2 * T + 3 * (i : Int) + 1) (List.getD ts (Int.toNat (i : Int)) 0)) rfl ⟨⟨by show i + 1 ≤ ts.length; omega, by show 0 ≤ s.c + 1 ∧ s.c + 1 ≤ ((i + 1 : Nat) : Int); omega, by show (putI _ _ _).length = _; rw [putI_length]; exact g3, okW_put g4 hv⟩, by show ts.length - (i + 1) < ts.length - i; omega⟩
    · exact okSt_intro (H := HL1 T N ts sh) ((i + 1 : Nat), s) rfl ⟨⟨by show i + 1 ≤ ts.length; omega, by show 0 ≤ s.c ∧ s.c ≤ ((i + 1 : Nat) : Int); omega, g3, g4⟩, by show ts.length - (i + 1) < ts.length - i; omega⟩
  clear g1 g2 g3 g4 hi i s
  rintro ⟨u, s, R⟩ ⟨q1, q3, q4, q5⟩
  dsimp only at q1 q3 q4 q5 ⊢
  refine lt_go (fun hu => ?_) (fun hu => ?_)
  · have hx := okW_peek q4 (2 * N + 5 + 2 * T + 3 * (u : Int) + 1)
    have hy := okW_peek q4 (2 * N + 5 + 2 * T + 3 * (u : Int) + 2)
    have hS : allN s.xs T N sh (u + 1) = R ++ (bif (pendB (cutI (peek s.xs (2 * N + 5 + 2 * T + 3 * (u : Int) + 2)) 49 3) && (tgB (peek s.xs (2 * N + 5 + 2 * T + 3 * (u : Int) + 1)) && (ieq (sh.length : Int) 0 || hasB sh (cutI (peek s.xs (2 * N + 5 + 2 * T + 3 * (u : Int) + 1)) 0 3)))) then [rowT (peek s.xs (2 * N + 5 + 2 * T + 3 * (u : Int) + 1))] else []) := by rw [q5]; rfl
    have hlen : R.length ≤ u := by rw [q5]; exact allN_len _ _ _ _ _
    have e6 : W ((u : Int) + 1) = ((u + 1 : Nat) : Int) := by rw [W_id (by omega)]; rfl
    have hmu : T.toNat - (u + 1) < T.toNat - u := by omega
    have stay : allN s.xs T N sh (u + 1) = R → okSt (HL2 T N sh) (fun x' => (HL2 T N sh).ok x' ∧ (HL2 T N sh).mu x' < (HL2 T N sh).mu ((u, s, R) : Nat × MS × List (List Int))) ((HL2 T N sh).st ((u + 1, s, R) : Nat × MS × List (List Int))).1 ((HL2 T N sh).st ((u + 1, s, R) : Nat × MS × List (List Int))).2 :=
      fun h => okSt_intro (H := HL2 T N sh) ((u + 1 : Nat), s, R) rfl ⟨⟨by show ((u + 1 : Nat) : Int) ≤ T; omega, q3, q4, h.symm⟩, hmu⟩
    have more : allN s.xs T N sh (u + 1) = R ++ [rowT (peek s.xs (2 * N + 5 + 2 * T + 3 * (u : Int) + 1))] → okSt (HL2 T N sh) (fun x' => (HL2 T N sh).ok x' ∧ (HL2 T N sh).mu x' < (HL2 T N sh).mu ((u, s, R) : Nat × MS × List (List Int))) ((HL2 T N sh).st ((u + 1, s, R ++ [rowT (peek s.xs (2 * N + 5 + 2 * T + 3 * (u : Int) + 1))]) : Nat × MS × List (List Int))).1 ((HL2 T N sh).st ((u + 1, s, R ++ [rowT (peek s.xs (2 * N + 5 + 2 * T + 3 * (u : Int) + 1))]) : Nat × MS × List (List Int))).2 :=
      fun h => okSt_intro (H := HL2 T N sh) ((u + 1 : Nat), s, R ++ [rowT (peek s.xs (2 * N + 5 + 2 * T + 3 * (u : Int) + 1))]) rfl ⟨⟨by show ((u + 1 : Nat) : Int) ≤ T; omega, q3, q4, h.symm⟩, hmu⟩
    simp only [HL2, List.length_append] at more stay ⊢
    rw [e6]
    generalize peek s.xs (2 * N + 5 + 2 * T + 3 * (u : Int) + 1) = x at hS hx more ⊢
    refine ⟨by omega, ⟨trivial, trivial⟩, hx, ?_⟩
    cases ht' : tgB x with
    | false =>
      rw [ht'] at hS
      exact stay (by rw [hS]; simp)
    | true =>
    have hsm := tgB_small ht'
    rw [ht'] at hS
    rw [hsm]
    simp only [cond_true]
    refine ⟨by omega, ⟨trivial, trivial⟩, hy, ?_⟩
    generalize pendB (cutI (peek s.xs (2 * N + 5 + 2 * T + 3 * (u : Int) + 2)) 49 3) = b0 at hS ⊢
    cases b0 with
    | false => exact stay (by rw [hS]; simp)
    | true =>
    cases hi' : ieq (sh.length : Int) 0 with
    | true =>
      rw [hi'] at hS
      simp only [cond_true]
      exact ⟨⟨trivial, trivial, by omega⟩, more (by rw [hS]; simp)⟩
    | false =>
    rw [hi'] at hS
    simp only [cond_true, cond_false]
    refine ⟨by omega, ?_⟩
    cases hb : hasB sh (cutI x 0 3) with
    | true =>
      rw [hb] at hS
      simp only [cond_true]
      exact ⟨⟨trivial, trivial, by omega⟩, more (by rw [hS]; simp)⟩
    | false =>
      rw [hb] at hS
      simp only [cond_false]
      exact stay (by rw [hS]; simp)
  · have hut : u = T.toNat := by omega
    subst hut
    have hlen : R.length ≤ T.toNat := by rw [q5]; exact allN_len _ _ _ _ _
    rw [← q5, ieq_self]
    refine ⟨⟨rfl, by omega, by omega, q4, by omega⟩, okSt_intro (H := HL3) ((0 : Nat), R) rfl ⟨Nat.zero_le _, by show R.length ≤ 1000000; omega⟩, ?_⟩
    clear q5 hlen
    rintro ⟨i, R⟩ ⟨g1, g2⟩
    dsimp only at g1 g2 ⊢
    refine lt_go (fun hi => ?_) (fun hi => rfl)
    have e6 : W ((i : Int) + 1) = ((i + 1 : Nat) : Int) := by rw [W_id (by omega)]; rfl
    rw [e6]
    simp only [ieq_self, cond_true, Bool.not_true, cond_false]
    refine ⟨by omega, by omega, by omega, by omega, ?_⟩
    exact okSt_intro (H := HL3) ((i + 1 : Nat), R) rfl ⟨⟨by show i + 1 ≤ R.length; omega, g2⟩, by show R.length - (i + 1) < R.length - i; omega⟩
end Go.Sh

