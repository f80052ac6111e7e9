import Derived.Test.YtjklokfpnbnndaaZM11toM22
set_option linter.all false
/- The example of an announcement. -/
namespace Go.Sh
open Go Go.Proofs
variable [Con]
def awake14S : Spec Unit := fun args h => match args, h with
  | [], [] => some (.pre (True) (.ret (.bool true) ([])))
  | _, _ => none
theorem awake14_ok : Spec.ok E22.I Try.prog 42 awake14S := by
  intro args h o ho K hK
  unfold awake14S at ho
  split at ho
  case h_2 => cases ho
  skip
  simp only [Option.some.injEq] at ho; subst ho
  obtain ⟨hp, hK⟩ := hK
  have hK : K (.bool true) ([]) := hK
  refine CallOk.trim (callOk_of (E := E22) Try.checked.mixed (L := LL) (n := 10) (of_nf (q := True ∧ (((0 : Int) ≤ (2 : Int) ∧ (2 : Int) ≤ (100000 : Int)) ∧ (0 : Int) ≤ (2 : Int) ∧ (2 : Int) ≤ (100000 : Int)) ∧ ((((0 : Int) ≤ (2 : Int) ∧ (2 : Int) ≤ (100000 : Int)) ∧ (0 : Int) ≤ (2 : Int) ∧ (2 : Int) ≤ (100000 : Int)) ∧ True) ∧ ((0 : Int) ≤ (2 : Int) * 2 + 5 * 2 + 6 ∧ 2 * 2 + 5 * 2 + (6 : Int) = (2 : Int) * 2 + 5 * 2 + 6 ∧ 2 * 2 + 5 * 2 + (6 : Int) ≤ (4294967296 : Int)) ∧ ((0 : Int) ≤ (0 : Int) ∧ (0 : Int) < (↑1 : Int)) ∧ ((((0 : Int) ≤ (2 : Int) ∧ (2 : Int) ≤ (100000 : Int)) ∧ ((0 : Int) ≤ (2 : Int) ∧ (2 : Int) ≤ (100000 : Int)) ∧ (-1099511627776 : Int) ≤ (1 : Int) ∧ (1 : Int) ≤ (1099511627776 : Int)) ∧ True) ∧ ((20 = 20 ∧ (0 : Int) ≤ (0 : Int) ∧ (0 : Int) ≤ (4611686018427387904 : Int)) ∧ True) ∧ (((0 : Int) ≤ (2 : Int) ∧ (2 : Int) ≤ (100000 : Int)) ∧ (0 : Int) ≤ (2 : Int) ∧ (2 : Int) ≤ (100000 : Int)) ∧ (20 = 20 ∧ (0 : Int) ≤ (0 : Int) + 1 ∧ 0 + (1 : Int) ≤ (4611686018427387904 : Int)) ∧ ((((0 : Int) ≤ (2 : Int) ∧ (2 : Int) ≤ (100000 : Int)) ∧ ((0 : Int) ≤ (2 : Int) ∧ (2 : Int) ≤ (100000 : Int)) ∧ (-1099511627776 : Int) ≤ (1 : Int) ∧ (1 : Int) ≤ (1099511627776 : Int)) ∧ True) ∧ ((20 = 20 ∧ (0 : Int) ≤ (0 : Int) + 1 + 1 ∧ 0 + 1 + (1 : Int) ≤ (4611686018427387904 : Int)) ∧ True) ∧ ((((0 : Int) ≤ (2 : Int) ∧ (2 : Int) ≤ (100000 : Int)) ∧ ((0 : Int) ≤ (2 : Int) ∧ (2 : Int) ≤ (100000 : Int)) ∧ (-1099511627776 : Int) ≤ (1 : Int) ∧ (1 : Int) ≤ (1099511627776 : Int)) ∧ True) ∧ ((20 = 20 ∧ (0 : Int) ≤ (0 : Int) + 1 + 1 + 1 ∧ 0 + 1 + 1 + (1 : Int) ≤ (4611686018427387904 : Int)) ∧ True) ∧ True ∧ ((0 : Int) ≤ cutI (peek (putI (putI (putI (List.replicate (Int.toNat (2 * 2 + 5 * 2 + 6)) 0) (2 * 2 + 5 + 2 * 2 + 3 * 1 + 1) (tskV 3 5 0)) (2 * 2 + 5 + 2 * 2 + 3 * 2) (WU (peek (putI (List.replicate (Int.toNat (2 * 2 + 5 * 2 + 6)) 0) (2 * 2 + 5 + 2 * 2 + 3 * 1 + 1) (tskV 3 5 0)) (2 * 2 + 5 + 2 * 2 + 3 * 2) + 1))) (2 * 2 + 5 + 2 * 2 + 3 * 1) (WU (peek (putI (List.replicate (Int.toNat (2 * 2 + 5 * 2 + 6)) 0) (2 * 2 + 5 + 2 * 2 + 3 * 1 + 1) (tskV 3 5 0)) (2 * 2 + 5 + 2 * 2 + 3 * 2) + 1))) (2 * 2 + 5 + 2 * 2 + 3 * 1 + 2)) 0 12 ∧ cutI (peek (putI (putI (putI (List.replicate (Int.toNat (2 * 2 + 5 * 2 + 6)) 0) (2 * 2 + 5 + 2 * 2 + 3 * 1 + 1) (tskV 3 5 0)) (2 * 2 + 5 + 2 * 2 + 3 * 2) (WU (peek (putI (List.replicate (Int.toNat (2 * 2 + 5 * 2 + 6)) 0) (2 * 2 + 5 + 2 * 2 + 3 * 1 + 1) (tskV 3 5 0)) (2 * 2 + 5 + 2 * 2 + 3 * 2) + 1))) (2 * 2 + 5 + 2 * 2 + 3 * 1) (WU (peek (putI (List.replicate (Int.toNat (2 * 2 + 5 * 2 + 6)) 0) (2 * 2 + 5 + 2 * 2 + 3 * 1 + 1) (tskV 3 5 0)) (2 * 2 + 5 + 2 * 2 + 3 * 2) + 1))) (2 * 2 + 5 + 2 * 2 + 3 * 1 + 2)) 0 (12 : Int) ≤ (1000000 : Int)) ∧ True ∧ ((((0 : Int) ≤ (2 : Int) ∧ (2 : Int) ≤ (100000 : Int)) ∧ ((0 : Int) ≤ (2 : Int) ∧ (2 : Int) ≤ (100000 : Int)) ∧ (-1099511627776 : Int) ≤ (1 : Int) ∧ (1 : Int) ≤ (1099511627776 : Int)) ∧ True) ∧ ((20 = 20 ∧ (0 : Int) ≤ (0 : Int) + 1 + 1 + 1 + 1 ∧ 0 + 1 + 1 + 1 + (1 : Int) ≤ (4611686018427387904 : Int)) ∧ True) ∧ (20 = 20 ∧ ((0 : Int) ≤ (2 : Int) ∧ (2 : Int) ≤ (100000 : Int)) ∧ (0 : Int) ≤ (2 : Int) ∧ (2 : Int) ≤ (100000 : Int)) ∧ (20 = 20 ∧ ((0 : Int) ≤ (2 : Int) ∧ (2 : Int) ≤ (100000 : Int)) ∧ (0 : Int) ≤ (2 : Int) ∧ (2 : Int) ≤ (100000 : Int)) ∧ (((0 : Int) ≤ (2 : Int) ∧ (2 : Int) ≤ (100000 : Int)) ∧ ((0 : Int) ≤ (2 : Int) ∧ (2 : Int) ≤ (100000 : Int)) ∧ (-1099511627776 : Int) ≤ (1 : Int) ∧ (1 : Int) ≤ (1099511627776 : Int)) ∧ (20 = 20 ∧ True) ∧ ((0 : Int) ≤ peek (putI (putI (putI (putI (List.replicate (Int.toNat (2 * 2 + 5 * 2 + 6)) 0) (2 * 2 + 5 + 2 * 2 + 3 * 1 + 1) (tskV 3 5 0)) (2 * 2 + 5 + 2 * 2 + 3 * 2) (WU (peek (putI (List.replicate (Int.toNat (2 * 2 + 5 * 2 + 6)) 0) (2 * 2 + 5 + 2 * 2 + 3 * 1 + 1) (tskV 3 5 0)) (2 * 2 + 5 + 2 * 2 + 3 * 2) + 1))) (2 * 2 + 5 + 2 * 2 + 3 * 1) (WU (peek (putI (List.replicate (Int.toNat (2 * 2 + 5 * 2 + 6)) 0) (2 * 2 + 5 + 2 * 2 + 3 * 1 + 1) (tskV 3 5 0)) (2 * 2 + 5 + 2 * 2 + 3 * 2) + 1))) (2 * 2 + 5 + 2 * 2 + 3 * 1 + 2) (dPutV (attI (cutI (peek (putI (putI (putI (List.replicate (Int.toNat (2 * 2 + 5 * 2 + 6)) 0) (2 * 2 + 5 + 2 * 2 + 3 * 1 + 1) (tskV 3 5 0)) (2 * 2 + 5 + 2 * 2 + 3 * 2) (WU (peek (putI (List.replicate (Int.toNat (2 * 2 + 5 * 2 + 6)) 0) (2 * 2 + 5 + 2 * 2 + 3 * 1 + 1) (tskV 3 5 0)) (2 * 2 + 5 + 2 * 2 + 3 * 2) + 1))) (2 * 2 + 5 + 2 * 2 + 3 * 1) (WU (peek (putI (List.replicate (Int.toNat (2 * 2 + 5 * 2 + 6)) 0) (2 * 2 + 5 + 2 * 2 + 3 * 1 + 1) (tskV 3 5 0)) (2 * 2 + 5 + 2 * 2 + 3 * 2) + 1))) (2 * 2 + 5 + 2 * 2 + 3 * 1 + 2)) 0 12)) 0 0 0 false 1 0)) (2 * 2 + 5 + 2 * 2 + 3 * 1 + 2) ∧ peek (putI (putI (putI (putI (List.replicate (Int.toNat (2 * 2 + 5 * 2 + 6)) 0) (2 * 2 + 5 + 2 * 2 + 3 * 1 + 1) (tskV 3 5 0)) (2 * 2 + 5 + 2 * 2 + 3 * 2) (WU (peek (putI (List.replicate (Int.toNat (2 * 2 + 5 * 2 + 6)) 0) (2 * 2 + 5 + 2 * 2 + 3 * 1 + 1) (tskV 3 5 0)) (2 * 2 + 5 + 2 * 2 + 3 * 2) + 1))) (2 * 2 + 5 + 2 * 2 + 3 * 1) (WU (peek (putI (List.replicate (Int.toNat (2 * 2 + 5 * 2 + 6)) 0) (2 * 2 + 5 + 2 * 2 + 3 * 1 + 1) (tskV 3 5 0)) (2 * 2 + 5 + 2 * 2 + 3 * 2) + 1))) (2 * 2 + 5 + 2 * 2 + 3 * 1 + 2) (dPutV (attI (cutI (peek (putI (putI (putI (List.replicate (Int.toNat (2 * 2 + 5 * 2 + 6)) 0) (2 * 2 + 5 + 2 * 2 + 3 * 1 + 1) (tskV 3 5 0)) (2 * 2 + 5 + 2 * 2 + 3 * 2) (WU (peek (putI (List.replicate (Int.toNat (2 * 2 + 5 * 2 + 6)) 0) (2 * 2 + 5 + 2 * 2 + 3 * 1 + 1) (tskV 3 5 0)) (2 * 2 + 5 + 2 * 2 + 3 * 2) + 1))) (2 * 2 + 5 + 2 * 2 + 3 * 1) (WU (peek (putI (List.replicate (Int.toNat (2 * 2 + 5 * 2 + 6)) 0) (2 * 2 + 5 + 2 * 2 + 3 * 1 + 1) (tskV 3 5 0)) (2 * 2 + 5 + 2 * 2 + 3 * 2) + 1))) (2 * 2 + 5 + 2 * 2 + 3 * 1 + 2)) 0 12)) 0 0 0 false 1 0)) (2 * 2 + 5 + 2 * 2 + 3 * 1 + 2) ≤ (18446744073709551615 : Int)) ∧ K (AVal.bool true) []) (by kernel_rfl) ?_))
  repeat refine ⟨by first | trivial | decide | omega, ?_⟩
  exact hK
noncomputable def E23 := E22.addS 42 awake14S awake14_ok
end Go.Sh

/- The layout's addresses, as the document has them; an answer, asked for. -/
namespace Go.Sh
open Go Go.Proofs
variable [Con]
def lLifeS : RSpec Unit := fun args h => match args, h with
  | [.agg [.int .i64 t, .int .i64 n], .int .i64 a], [] => some ((0 ≤ t ∧ t ≤ 100000) ∧ (0 ≤ n ∧ n ≤ 100000) ∧ (-1099511627776 ≤ a ∧ a ≤ 1099511627776), .int .i64 (n + 4 + a))
  | _, _ => none
theorem lLife_ok : Spec.ok E23.I Try.prog 102 lLifeS.spec := by
  intro args h o ho K hK
  unfold RSpec.spec at ho
  split at ho
  case h_2 => cases ho
  rename_i pp vv hv
  unfold lLifeS at hv
  split at hv
  case h_2 => cases hv
  rename_i t n a
  simp only [Option.some.injEq, Prod.mk.injEq] at hv
  obtain ⟨rfl, rfl⟩ := hv
  simp only [Option.some.injEq] at ho; subst ho
  obtain ⟨hp, hK⟩ := hK
  have hK : K (.int .i64 (n + 4 + a)) [] := hK
  refine CallOk.trim (callOk_of (E := E23) Try.checked.mixed (L := LL) (n := 10) (of_nf (q := K (AVal.int .i64 (W (W (n + 4) + a))) []) (by kernel_rfl) ?_))
  simp (disch := omega) only [W, W_in]
  refine cast (congrArg (fun z => K (AVal.int .i64 z) []) ?_) hK
  omega
def lSlotS : RSpec Unit := fun args h => match args, h with
  | [.agg [.int .i64 t, .int .i64 n], .int .i64 a, .int .i64 b], [] => some ((0 ≤ t ∧ t ≤ 100000) ∧ (0 ≤ n ∧ n ≤ 100000) ∧ (-1099511627776 ≤ a ∧ a ≤ 1099511627776) ∧ (-1099511627776 ≤ b ∧ b ≤ 1099511627776), .int .i64 (2 * n + 5 + 2 * a + b))
  | _, _ => none
theorem lSlot_ok : Spec.ok E23.I Try.prog 104 lSlotS.spec := by
  intro args h o ho K hK
  unfold RSpec.spec at ho
  split at ho
  case h_2 => cases ho
  rename_i pp vv hv
  unfold lSlotS at hv
  split at hv
  case h_2 => cases hv
  rename_i t n a b
  simp only [Option.some.injEq, Prod.mk.injEq] at hv
  obtain ⟨rfl, rfl⟩ := hv
  simp only [Option.some.injEq] at ho; subst ho
  obtain ⟨hp, hK⟩ := hK
  have hK : K (.int .i64 (2 * n + 5 + 2 * a + b)) [] := hK
  refine CallOk.trim (callOk_of (E := E23) Try.checked.mixed (L := LL) (n := 10) (of_nf (q := K (AVal.int .i64 (W (W (W (W (2 * n) + 5) + W (2 * a)) + b))) []) (by kernel_rfl) ?_))
  simp (disch := omega) only [W, W_in]
  refine cast (congrArg (fun z => K (AVal.int .i64 z) []) ?_) hK
  omega
def lTicketS : RSpec Unit := fun args h => match args, h with
  | [.agg [.int .i64 t, .int .i64 n], .int .i64 a], [] => some ((0 ≤ t ∧ t ≤ 100000) ∧ (0 ≤ n ∧ n ≤ 100000) ∧ (-1099511627776 ≤ a ∧ a ≤ 1099511627776), .int .i64 (2 * n + 5 + 2 * t + 3 * a))
  | _, _ => none
theorem lTicket_ok : Spec.ok E23.I Try.prog 96 lTicketS.spec := by
  intro args h o ho K hK
  unfold RSpec.spec at ho
  split at ho
  case h_2 => cases ho
  rename_i pp vv hv
  unfold lTicketS at hv
  split at hv
  case h_2 => cases hv
  rename_i t n a
  simp only [Option.some.injEq, Prod.mk.injEq] at hv
  obtain ⟨rfl, rfl⟩ := hv
  simp only [Option.some.injEq] at ho; subst ho
  obtain ⟨hp, hK⟩ := hK
  have hK : K (.int .i64 (2 * n + 5 + 2 * t + 3 * a)) [] := hK
  refine CallOk.trim (callOk_of (E := E23) Try.checked.mixed (L := LL) (n := 10) (of_nf (q := K (AVal.int .i64 (W (W (W (W (2 * n) + 5) + W (2 * t)) + W (3 * a)))) []) (by kernel_rfl) ?_))
  simp (disch := omega) only [W, W_in]
  refine cast (congrArg (fun z => K (AVal.int .i64 z) []) ?_) hK
  omega
def lTaskS : RSpec Unit := fun args h => match args, h with
  | [.agg [.int .i64 t, .int .i64 n], .int .i64 a], [] => some ((0 ≤ t ∧ t ≤ 100000) ∧ (0 ≤ n ∧ n ≤ 100000) ∧ (-1099511627776 ≤ a ∧ a ≤ 1099511627776), .int .i64 (2 * n + 5 + 2 * t + 3 * a + 1))
  | _, _ => none
theorem lTask_ok : Spec.ok E23.I Try.prog 63 lTaskS.spec := by
  intro args h o ho K hK
  unfold RSpec.spec at ho
  split at ho
  case h_2 => cases ho
  rename_i pp vv hv
  unfold lTaskS at hv
  split at hv
  case h_2 => cases hv
  rename_i t n a
  simp only [Option.some.injEq, Prod.mk.injEq] at hv
  obtain ⟨rfl, rfl⟩ := hv
  simp only [Option.some.injEq] at ho; subst ho
  obtain ⟨hp, hK⟩ := hK
  have hK : K (.int .i64 (2 * n + 5 + 2 * t + 3 * a + 1)) [] := hK
  refine CallOk.trim (callOk_of (E := E23) Try.checked.mixed (L := LL) (n := 10) (of_nf (q := K (AVal.int .i64 (W (W (W (W (W (2 * n) + 5) + W (2 * t)) + W (3 * a)) + 1))) []) (by kernel_rfl) ?_))
  simp (disch := omega) only [W, W_in]
  refine cast (congrArg (fun z => K (AVal.int .i64 z) []) ?_) hK
  omega
def lDescS : RSpec Unit := fun args h => match args, h with
  | [.agg [.int .i64 t, .int .i64 n], .int .i64 a], [] => some ((0 ≤ t ∧ t ≤ 100000) ∧ (0 ≤ n ∧ n ≤ 100000) ∧ (-1099511627776 ≤ a ∧ a ≤ 1099511627776), .int .i64 (2 * n + 5 + 2 * t + 3 * a + 2))
  | _, _ => none
theorem lDesc_ok : Spec.ok E23.I Try.prog 58 lDescS.spec := by
  intro args h o ho K hK
  unfold RSpec.spec at ho
  split at ho
  case h_2 => cases ho
  rename_i pp vv hv
  unfold lDescS at hv
  split at hv
  case h_2 => cases hv
  rename_i t n a
  simp only [Option.some.injEq, Prod.mk.injEq] at hv
  obtain ⟨rfl, rfl⟩ := hv
  simp only [Option.some.injEq] at ho; subst ho
  obtain ⟨hp, hK⟩ := hK
  have hK : K (.int .i64 (2 * n + 5 + 2 * t + 3 * a + 2)) [] := hK
  refine CallOk.trim (callOk_of (E := E23) Try.checked.mixed (L := LL) (n := 10) (of_nf (q := K (AVal.int .i64 (W (W (W (W (W (2 * n) + 5) + W (2 * t)) + W (3 * a)) + 2))) []) (by kernel_rfl) ?_))
  simp (disch := omega) only [W, W_in]
  refine cast (congrArg (fun z => K (AVal.int .i64 z) []) ?_) hK
  omega
def lCounterS : RSpec Unit := fun args h => match args, h with
  | [.agg [.int .i64 t, .int .i64 n]], [] => some ((0 ≤ t ∧ t ≤ 100000) ∧ (0 ≤ n ∧ n ≤ 100000), .int .i64 (2 * n + 5 + 2 * t + 3 * t))
  | _, _ => none
theorem lCounter_ok : Spec.ok E23.I Try.prog 95 lCounterS.spec := by
  intro args h o ho K hK
  unfold RSpec.spec at ho
  split at ho
  case h_2 => cases ho
  rename_i pp vv hv
  unfold lCounterS at hv
  split at hv
  case h_2 => cases hv
  rename_i t n
  simp only [Option.some.injEq, Prod.mk.injEq] at hv
  obtain ⟨rfl, rfl⟩ := hv
  simp only [Option.some.injEq] at ho; subst ho
  obtain ⟨hp, hK⟩ := hK
  have hK : K (.int .i64 (2 * n + 5 + 2 * t + 3 * t)) [] := hK
  refine CallOk.trim (callOk_of (E := E23) Try.checked.mixed (L := LL) (n := 10) (of_nf (q := K (AVal.int .i64 (W (W (W (W (2 * n) + 5) + W (2 * t)) + W (3 * t)))) []) (by kernel_rfl) ?_))
  simp (disch := omega) only [W, W_in]
  refine cast (congrArg (fun z => K (AVal.int .i64 z) []) ?_) hK
  omega
noncomputable def E24 := (((((E23.addR 102 lLifeS lLife_ok).addR 104 lSlotS lSlot_ok).addR 96 lTicketS lTicket_ok).addR 63 lTaskS lTask_ok).addR 58 lDescS lDesc_ok).addR 95 lCounterS lCounter_ok
end Go.Sh

/- A scan, begun; nodes that are given back; the nodes, parted. -/
namespace Go.Sh
open Go Go.Proofs
variable [Con]
def guardNewS : Spec Unit := fun args h => match args, h with
  | [.agg [.int .i64 t, .int .i64 n], .slice 0 0 k 1], [some (.ints (some .i64) xs)] => some (.pre (k = xs.length ∧ k ≤ 1000000) (.ret (.ptr 1 0) [some (.ints (some .i64) xs), some (.cells [.int .i64 t, .int .i64 n, .raw (.slice none 0 0), .raw (.slice none 0 0), .slice 2 0 xs.length 1, .map 3, .int .i64 0, .raw (.pointer none)]), some (.ints (some .i64) xs), some (.imap .i64 none [])]))
  | _, _ => none
theorem guardNew_ok : Spec.ok E24.I Try.prog 129 guardNewS := by
  intro args h o ho K hK
  unfold guardNewS at ho
  split at ho
  case h_2 => cases ho
  rename_i t n k xs
  simp only [Option.some.injEq] at ho; subst ho
  obtain ⟨⟨rfl, hp⟩, hK⟩ := hK
  refine CallOk.trim (callOk_of (E := E24) Try.checked.mixed (L := LL) (n := 10) (of_nf (q := ((List.length xs = List.length xs ∧ List.length xs ≤ (4294967296 : Nat)) ∧ True) ∧ K (AVal.ptr 1 0) [some (Entry.ints (some .i64) xs), some (Entry.cells [AVal.int .i64 t, AVal.int .i64 n, AVal.raw (Value.slice none 0 0), AVal.raw (Value.slice none 0 0), AVal.slice 2 0 (List.length xs) 1, AVal.map 3, AVal.int .i64 0, AVal.raw (Value.pointer none)]), some (Entry.ints (some .i64) xs), some (Entry.imap .i64 none [])]) (by kernel_rfl) ?_))
  exact ⟨⟨⟨rfl, by omega⟩, trivial⟩, hK⟩
def backS : Spec Unit := fun args h => match args, h with
  | [.agg [.int .i64 t, .int .i64 n], .slice 0 0 k 1], [some (.ints (some .i64) xs)] => some (.pre (k = xs.length ∧ k ≤ 1000000) (.ret (.ptr 1 0) [some (.ints (some .i64) xs), some (.cells [.int .i64 t, .int .i64 n, .slice 2 0 xs.length 1]), some (.ints (some .i64) xs)]))
  | _, _ => none
theorem back_ok : Spec.ok E24.I Try.prog 133 backS := by
  intro args h o ho K hK
  unfold backS at ho
  split at ho
  case h_2 => cases ho
  rename_i t n k xs
  simp only [Option.some.injEq] at ho; subst ho
  obtain ⟨⟨rfl, hp⟩, hK⟩ := hK
  refine CallOk.trim (callOk_of (E := E24) Try.checked.mixed (L := LL) (n := 10) (of_nf (q := ((List.length xs = List.length xs ∧ List.length xs ≤ (4294967296 : Nat)) ∧ True) ∧ K (AVal.ptr 1 0) [some (Entry.ints (some .i64) xs), some (Entry.cells [AVal.int .i64 t, AVal.int .i64 n, AVal.slice 2 0 (List.length xs) 1]), some (Entry.ints (some .i64) xs)]) (by kernel_rfl) ?_))
  exact ⟨⟨⟨rfl, by omega⟩, trivial⟩, hK⟩
noncomputable def E35a := (E24.addS 129 guardNewS guardNew_ok).addS 133 backS back_ok
/- OPQ -/
def mhas (m : List (Int × Int)) (n : Int) : Bool := !ieq (Option.getD (mget m n) 0) 0
/- OPQ -/
def keptL (m : List (Int × Int)) (xs : List Int) : List Int := xs.filter (mhas m)
/- OPQ -/
def freedL (m : List (Int × Int)) (xs : List Int) : List Int := xs.filter (fun n => !mhas m n)
structure okPt (m : List (Int × Int)) (xs : List Int) (x : Nat × List Int × List Int) : Prop where
  h1 : x.1 ≤ xs.length
  h2 : x.2.1 = keptL m (xs.take x.1)
  h3 : x.2.2 = freedL m (xs.take x.1)
def HPt (t n at' : Int) (m : List (Int × Int)) (xs : List Int) : Hint Unit := { X := Nat × List Int × List Int, st := fun x => ([.ptr 0 0, .top, .top, .top, .top, .top, .top, .top, .slice 1 0 xs.length 1, .int .i64 (xs.length : Int), .int .i64 (x.1 : Int)] ++ List.replicate 48 .top, [some (.cells [.int .i64 t, .int .i64 n, .slice 3 0 x.2.1.length 1, .slice 4 0 x.2.2.length 1, .slice 1 0 xs.length 1, .map 2, .int .i64 at', .raw (.pointer none)]), some (.ints (some .i64) xs), some (.imap .i64 none m), some (.ints (some .i64) x.2.1), some (.ints (some .i64) x.2.2)]), ok := okPt m xs, mu := fun x => xs.length - x.1, keep := [0, 8, 9, 10], casts := [(.cell 0 2, .ints (some .i64)), (.cell 0 3, .ints (some .i64))] }
def partsS : Spec Unit := fun args h => match args, h with
  | [.ptr 0 0], [some (.cells [.int .i64 t, .int .i64 n, .raw (.slice none 0 0), .raw (.slice none 0 0), .slice 1 0 k 1, .map 2, .int .i64 at', .raw (.pointer none)]), some (.ints (some .i64) xs), some (.imap .i64 none m)] => some (.pre (k = xs.length ∧ k ≤ 1000000) (.ret (.bool (ieq ((freedL m xs).length : Int) 0)) [some (.cells [.int .i64 t, .int .i64 n, .slice 3 0 (keptL m xs).length 1, .slice 4 0 (freedL m xs).length 1, .slice 1 0 xs.length 1, .map 2, .int .i64 at', .ptr 5 0]), some (.ints (some .i64) xs), some (.imap .i64 none m), some (.ints (some .i64) (keptL m xs)), some (.ints (some .i64) (freedL m xs)), some (.cells [.int .i64 t, .int .i64 n, .slice 6 0 (freedL m xs).length 1]), some (.ints (some .i64) (freedL m xs))]))
  | _, _ => none
theorem filt_len (p : Int → Bool) (xs : List Int) : (xs.filter p).length ≤ xs.length := List.length_filter_le p xs
theorem parts_ok : Spec.ok E35a.I Try.prog 132 partsS := by
  intro args h o ho K hK
  unfold partsS at ho
  split at ho
  case h_2 => cases ho
  rename_i t n k at' xs m
  simp only [Option.some.injEq] at ho; subst ho
  obtain ⟨⟨rfl, hp⟩, hK⟩ := hK
  refine CallOk.trim (callOk_of (E := E35a) Try.checked.mixed (L := fun _ _ => some (.states (HPt t n at' m xs))) (n := 10) (of_nf (q := okSt (HPt t n at' m xs) (Hint.ok (HPt t n at' m xs)) [AVal.ptr 0 0, AVal.top, AVal.top, AVal.top, AVal.top, AVal.top, AVal.top, AVal.top, AVal.slice 1 0 (List.length xs) 1, AVal.int .i64 (↑(List.length xs) : Int), AVal.int .i64 0, AVal.top, AVal.top, AVal.top, AVal.top, AVal.top, AVal.top, AVal.top, AVal.top, AVal.top, AVal.top, AVal.top, AVal.top, AVal.top, AVal.top, AVal.top, AVal.top, AVal.top, AVal.top, AVal.top, AVal.top, AVal.top, AVal.top, AVal.top, AVal.top, AVal.top, AVal.top, AVal.top, AVal.top, AVal.top, AVal.top, AVal.top, AVal.top, AVal.top, AVal.top, AVal.top, AVal.top, AVal.top, AVal.top, AVal.top, AVal.top, AVal.top, AVal.top, AVal.top, AVal.top, AVal.top, AVal.top, AVal.top, AVal.top] [some (Entry.cells [AVal.int .i64 t, AVal.int .i64 n, AVal.slice 3 0 0 1, AVal.slice 4 0 0 1, AVal.slice 1 0 (List.length xs) 1, AVal.map 2, AVal.int .i64 at', AVal.raw (Value.pointer none)]), some (Entry.ints (some .i64) xs), some (Entry.imap .i64 none m), some (Entry.ints (some .i64) []), some (Entry.ints (some .i64) [])] ∧ ∀ (x : (Nat × List Int × List Int)), okPt m xs x → bif ilt (↑x.1 : Int) (↑(List.length xs) : Int) then ((0 : Int) ≤ (↑x.1 : Int) ∧ (↑x.1 : Int) < (↑(List.length xs) : Int)) ∧ 0 + Int.toNat (↑x.1 : Int) * (1 : Nat) < List.length xs ∧ bif !ieq (Option.getD (mget m (List.getD xs (0 + Int.toNat (↑x.1 : Int) * 1) 0)) 0) 0 then (0 = 0 ∧ List.length (Prod.snd x).1 = List.length (Prod.snd x).1 ∧ 1 = 1 ∧ List.length (Prod.snd x).1 + (1 : Nat) ≤ (4294967296 : Nat)) ∧ okSt (HPt t n at' m xs) (fun x' => Hint.ok (HPt t n at' m xs) x' ∧ Hint.mu (HPt t n at' m xs) x' < Hint.mu (HPt t n at' m xs) x) [AVal.ptr 0 0, AVal.top, AVal.top, AVal.top, AVal.top, AVal.top, AVal.top, AVal.top, AVal.slice 1 0 (List.length xs) 1, AVal.int .i64 (↑(List.length xs) : Int), AVal.int .i64 (W ((↑x.1 : Int) + 1)), AVal.top, AVal.top, AVal.top, AVal.top, AVal.top, AVal.top, AVal.top, AVal.top, AVal.top, AVal.top, AVal.top, AVal.top, AVal.top, AVal.top, AVal.top, AVal.top, AVal.top, AVal.top, AVal.top, AVal.top, AVal.top, AVal.top, AVal.top, AVal.top, AVal.top, AVal.top, AVal.top, AVal.top, AVal.top, AVal.top, AVal.top, AVal.top, AVal.top, AVal.top, AVal.top, AVal.top, AVal.top, AVal.top, AVal.top, AVal.top, AVal.top, AVal.top, AVal.top, AVal.top, AVal.top, AVal.top, AVal.top, AVal.top] [some (Entry.cells [AVal.int .i64 t, AVal.int .i64 n, AVal.slice 3 0 (List.length (Prod.snd x).1 + 1) 1, AVal.slice 4 0 (List.length (Prod.snd x).2) 1, AVal.slice 1 0 (List.length xs) 1, AVal.map 2, AVal.int .i64 at', AVal.raw (Value.pointer none)]), some (Entry.ints (some .i64) xs), some (Entry.imap .i64 none m), some (Entry.ints (some .i64) ((Prod.snd x).1 ++ [List.getD xs (0 + Int.toNat (↑x.1 : Int) * 1) 0])), some (Entry.ints (some .i64) (Prod.snd x).2)] else (0 = 0 ∧ List.length (Prod.snd x).2 = List.length (Prod.snd x).2 ∧ 1 = 1 ∧ List.length (Prod.snd x).2 + (1 : Nat) ≤ (4294967296 : Nat)) ∧ okSt (HPt t n at' m xs) (fun x' => Hint.ok (HPt t n at' m xs) x' ∧ Hint.mu (HPt t n at' m xs) x' < Hint.mu (HPt t n at' m xs) x) [AVal.ptr 0 0, AVal.top, AVal.top, AVal.top, AVal.top, AVal.top, AVal.top, AVal.top, AVal.slice 1 0 (List.length xs) 1, AVal.int .i64 (↑(List.length xs) : Int), AVal.int .i64 (W ((↑x.1 : Int) + 1)), AVal.top, AVal.top, AVal.top, AVal.top, AVal.top, AVal.top, AVal.top, AVal.top, AVal.top, AVal.top, AVal.top, AVal.top, AVal.top, AVal.top, AVal.top, AVal.top, AVal.top, AVal.top, AVal.top, AVal.top, AVal.top, AVal.top, AVal.top, AVal.top, AVal.top, AVal.top, AVal.top, AVal.top, AVal.top, AVal.top, AVal.top, AVal.top, AVal.top, AVal.top, AVal.top, AVal.top, AVal.top, AVal.top, AVal.top, AVal.top, AVal.top, AVal.top, AVal.top, AVal.top, AVal.top, AVal.top, AVal.top, AVal.top] [some (Entry.cells [AVal.int .i64 t, AVal.int .i64 n, AVal.slice 3 0 (List.length (Prod.snd x).1) 1, AVal.slice 4 0 (List.length (Prod.snd x).2 + 1) 1, AVal.slice 1 0 (List.length xs) 1, AVal.map 2, AVal.int .i64 at', AVal.raw (Value.pointer none)]), some (Entry.ints (some .i64) xs), some (Entry.imap .i64 none m), some (Entry.ints (some .i64) (Prod.snd x).1), some (Entry.ints (some .i64) ((Prod.snd x).2 ++ [List.getD xs (0 + Int.toNat (↑x.1 : Int) * 1) 0]))] else ((List.length (Prod.snd x).2 = List.length (Prod.snd x).2 ∧ List.length (Prod.snd x).2 ≤ (1000000 : Nat)) ∧ True) ∧ K (AVal.bool (ieq (↑(List.length (Prod.snd x).2) : Int) 0)) [some (Entry.cells [AVal.int .i64 t, AVal.int .i64 n, AVal.slice 3 0 (List.length (Prod.snd x).1) 1, AVal.slice 4 0 (List.length (Prod.snd x).2) 1, AVal.slice 1 0 (List.length xs) 1, AVal.map 2, AVal.int .i64 at', AVal.ptr 5 0]), some (Entry.ints (some .i64) xs), some (Entry.imap .i64 none m), some (Entry.ints (some .i64) (Prod.snd x).1), some (Entry.ints (some .i64) (Prod.snd x).2), some (Entry.cells [AVal.int .i64 t, AVal.int .i64 n, AVal.slice 6 0 (List.length (Prod.snd x).2) 1]), some (Entry.ints (some .i64) (Prod.snd x).2)]) (by kernel_rfl) ?_))
  refine ⟨okSt_intro (H := HPt t n at' m xs) ((0 : Nat), ([] : List Int), ([] : List Int)) rfl ⟨Nat.zero_le _, rfl, rfl⟩, ?_⟩
  rintro ⟨i, ks, fs⟩ ⟨h1, h2, h3⟩
  dsimp only at h1 h2 h3 ⊢
  refine lt_go (fun hi => ?_) (fun hi => ?_)
  · have hi' : i < xs.length := by omega
    have e2 : 0 + (i : Int).toNat * 1 = i := by omega
    have hg : xs.getD i 0 = xs[i] := by rw [List.getD_eq_getElem?_getD, List.getElem?_eq_getElem hi']; rfl
    have e4 : W ((i : Int) + 1) = ((i + 1 : Nat) : Int) := by rw [W_id (by omega)]; rfl
    have hk : keptL m (xs.take (i + 1)) = ks ++ (bif mhas m xs[i] then [xs[i]] else []) := by
      rw [h2]; unfold keptL; rw [List.take_succ_eq_append_getElem hi', List.filter_append]
      cases hm : mhas m xs[i] <;> simp [hm]
    have hf : freedL m (xs.take (i + 1)) = fs ++ (bif mhas m xs[i] then [] else [xs[i]]) := by
      rw [h3]; unfold freedL; rw [List.take_succ_eq_append_getElem hi', List.filter_append]
      cases hm : mhas m xs[i] <;> simp [hm]
    have hkl : ks.length ≤ xs.length := by rw [h2]; exact Nat.le_trans (filt_len _ _) (by simp; omega)
    have hfl : fs.length ≤ xs.length := by rw [h3]; exact Nat.le_trans (filt_len _ _) (by simp; omega)
    have hmu : xs.length - (i + 1) < xs.length - i := by omega
    rw [e2, e4, hg]
    have hd : (!ieq (Option.getD (mget m xs[i]) 0) 0) = mhas m xs[i] := rfl
    rw [hd]
    refine ⟨by omega, by omega, cond_go (fun hm => ⟨⟨rfl, rfl, rfl, by omega⟩, ?_⟩) (fun hm => ⟨⟨rfl, rfl, rfl, by omega⟩, ?_⟩)⟩
    · rw [hm] at hk hf
      simp only [cond_true, List.append_nil] at hk hf
      exact okSt_intro (H := HPt t n at' m xs) ((i + 1 : Nat), ks ++ [xs[i]], fs) (by simp only [HPt, List.length_append]; rfl) ⟨⟨hi', hk.symm, hf.symm⟩, hmu⟩
    · rw [hm] at hk hf
      simp only [cond_false, List.append_nil] at hk hf
      exact okSt_intro (H := HPt t n at' m xs) ((i + 1 : Nat), ks, fs ++ [xs[i]]) (by simp only [HPt, List.length_append]; rfl) ⟨⟨hi', hk.symm, hf.symm⟩, hmu⟩
  · rw [List.take_of_length_le (by omega)] at h2 h3
    subst h2 h3
    have := filt_len (fun n => !mhas m n) xs
    refine ⟨⟨⟨rfl, ?_⟩, trivial⟩, hK⟩
    show (freedL m xs).length ≤ 1000000
    unfold freedL
    omega
noncomputable def E35 := E35a.addS 132 partsS parts_ok
end Go.Sh

/- A sweep's steps. -/
namespace Go.Sh
open Go Go.Proofs
variable [Con]
def swA (t n me sp : Int) (R : List Int) (s : MS) : Heap Unit := [some (.cells [.ptr 1 0, .raw (.pointer none)]), some (.cells [.int .i64 t, .int .i64 n, .int .i64 me, .int .i64 sp, .slice 2 0 R.length 1]), some (.ints (some .i64) R), some (.cells [.int .i64 s.t, .int .i64 s.n, .slice 4 0 s.xs.length 1, .int .i64 s.c, .int .i64 s.k, .int .i64 s.a, .int .u64 s.o, .int .u64 s.w, .bool s.ok]), some (.ints (some .u64) s.xs)]
def swA' (t n me sp : Int) (R : List Int) (s : MS) (m : List (Int × Int)) (i : Int) : Heap Unit := [some (.cells [.ptr 1 0, .ptr 5 0]), some (.cells [.int .i64 t, .int .i64 n, .int .i64 me, .int .i64 sp, .slice 2 0 R.length 1]), some (.ints (some .i64) R), some (.cells [.int .i64 s.t, .int .i64 s.n, .slice 4 0 s.xs.length 1, .int .i64 s.c, .int .i64 s.k, .int .i64 s.a, .int .u64 s.o, .int .u64 s.w, .bool s.ok]), some (.ints (some .u64) s.xs), some (.cells [.int .i64 t, .int .i64 n, .raw (.slice none 0 0), .raw (.slice none 0 0), .slice 6 0 R.length 1, .map 7, .int .i64 i, .raw (.pointer none)]), some (.ints (some .i64) R), some (.imap .i64 none m)]
def swB (t n me sp : Int) (R N : List Int) (s : MS) (m : List (Int × Int)) (i : Int) : Heap Unit := [some (.cells [.ptr 1 0, .ptr 3 0]), some (.cells [.int .i64 t, .int .i64 n, .int .i64 me, .int .i64 sp, .slice 2 0 R.length 1]), some (.ints (some .i64) R), some (.cells [.int .i64 t, .int .i64 n, .raw (.slice none 0 0), .raw (.slice none 0 0), .slice 4 0 N.length 1, .map 5, .int .i64 i, .raw (.pointer none)]), some (.ints (some .i64) N), some (.imap .i64 none m), some (.cells [.int .i64 s.t, .int .i64 s.n, .slice 7 0 s.xs.length 1, .int .i64 s.c, .int .i64 s.k, .int .i64 s.a, .int .u64 s.o, .int .u64 s.w, .bool s.ok]), some (.ints (some .u64) s.xs)]
def swB' (t n me sp : Int) (st : AVal) (R N ks fs : List Int) (s : MS) (m : List (Int × Int)) (i : Int) : Heap Unit := [some (.cells [.ptr 1 0, .ptr 3 0]), some (.cells [.int .i64 t, .int .i64 n, .int .i64 me, .int .i64 sp, st]), some (.ints (some .i64) R), some (.cells [.int .i64 t, .int .i64 n, .slice 8 0 ks.length 1, .slice 9 0 fs.length 1, .slice 4 0 N.length 1, .map 5, .int .i64 i, .ptr 10 0]), some (.ints (some .i64) N), some (.imap .i64 none m), some (.cells [.int .i64 s.t, .int .i64 s.n, .slice 7 0 s.xs.length 1, .int .i64 s.c, .int .i64 s.k, .int .i64 s.a, .int .u64 s.o, .int .u64 s.w, .bool s.ok]), some (.ints (some .u64) s.xs), some (.ints (some .i64) ks), some (.ints (some .i64) fs), some (.cells [.int .i64 t, .int .i64 n, .slice 11 0 fs.length 1]), some (.ints (some .i64) fs)]
def swC (t n me sp : Int) (st : AVal) (R N ks fs gs : List Int) (s : MS) (m : List (Int × Int)) (i : Int) (j l : Nat) : Heap Unit := [some (.cells [.ptr 1 0, .ptr 3 0]), some (.cells [.int .i64 t, .int .i64 n, .int .i64 me, .int .i64 sp, st]), some (.ints (some .i64) R), some (.cells [.int .i64 t, .int .i64 n, .slice 4 0 ks.length 1, .slice 5 0 fs.length 1, .slice 6 0 N.length 1, .map 7, .int .i64 i, .ptr 8 0]), some (.ints (some .i64) ks), some (.ints (some .i64) fs), some (.ints (some .i64) N), some (.imap .i64 none m), some (.cells [.int .i64 t, .int .i64 n, .slice 9 j l 1]), some (.ints (some .i64) gs), some (.cells [.int .i64 s.t, .int .i64 s.n, .slice 11 0 s.xs.length 1, .int .i64 s.c, .int .i64 s.k, .int .i64 s.a, .int .u64 s.o, .int .u64 s.w, .bool s.ok]), some (.ints (some .u64) s.xs)]
def slotV (n i : Int) (s : MS) : Int := W (peek s.xs (2 * n + 5 + 2 * 0 + i))
def memL (w : Nat) (h : Heap Unit) : Option (Nat × MS) := match h with
  | [some (.cells [.int .i64 t, .int .i64 n, .slice l 0 len 1, .int .i64 c, .int .i64 k, .int .i64 a, .int .u64 o, .int .u64 v, .bool ok]), some (.ints (some .u64) xs)] => if l = w then some (len, ⟨t, n, xs, c, k, a, o, v, ok⟩) else none
  | _ => none
theorem memL_eq {w : Nat} {h : Heap Unit} {l : Nat} {s : MS} (e : memL w h = some (l, s)) (hl : l = s.xs.length) : h = [some (.cells [.int .i64 s.t, .int .i64 s.n, .slice w 0 s.xs.length 1, .int .i64 s.c, .int .i64 s.k, .int .i64 s.a, .int .u64 s.o, .int .u64 s.w, .bool s.ok]), some (.ints (some .u64) s.xs)] := by
  unfold memL at e
  split at e
  · split at e
    · rename_i hw
      simp only [Option.some.injEq, Prod.mk.injEq] at e
      obtain ⟨rfl, rfl⟩ := e
      subst hw
      simp only at hl; subst hl; rfl
    · cases e
  · cases e
def slotA (n i : Int) : Int := 2 * n + 5 + 2 * 0 + i
def seenM (m : List (Int × Int)) (n i : Int) (s : MS) : List (Int × Int) := mput m (W (peek s.xs (slotA n i))) 1
def lifeA (n : Int) (gs : List Int) (j : Nat) : Int := n + 4 + List.getD gs (j + Int.toNat 0 * 1) 0
noncomputable def swS1 : Spec Unit := fun args h => match args, h with
  | [.ptr 0 0, .ptr 3 0], [some (.cells [.ptr 1 0, .raw (.pointer none)]), some (.cells [.int .i64 t, .int .i64 n, .int .i64 me, .int .i64 sp, .slice 2 0 k 1]), some (.ints (some .i64) R), e1, e2] => (match memL 4 [e1, e2] with
    | some (l, s) => some (.pre ((l = s.xs.length ∧ k = R.length) ∧ (1 ≤ t ∧ t ≤ 1000) ∧ (1 ≤ n ∧ n ≤ 1000) ∧ (0 ≤ s.c ∧ s.c ≤ 1000000) ∧ R.length ≤ 1000000) (.ret (.bool false) (swA' t n me sp R (s.loadd (slotA n 0)) (seenM [] n 0 s) 1)))
    | none => none)
  | _, _ => none
noncomputable def swS2 : Spec Unit := fun args h => match args, h with
  | [.ptr 0 0, .ptr 6 0], [some (.cells [.ptr 1 0, .ptr 3 0]), some (.cells [.int .i64 t, .int .i64 n, .int .i64 me, .int .i64 sp, .slice 2 0 k 1]), some (.ints (some .i64) R), some (.cells [.int .i64 t', .int .i64 n', .raw (.slice none 0 0), .raw (.slice none 0 0), .slice 4 0 k' 1, .map 5, .int .i64 i, .raw (.pointer none)]), some (.ints (some .i64) N), some (.imap .i64 none m), e1, e2] => (match memL 7 [e1, e2] with
    | some (l, s) => some (.pre ((l = s.xs.length ∧ k = R.length ∧ k' = N.length ∧ t' = t ∧ n' = n) ∧ (1 ≤ t ∧ t ≤ 1000) ∧ (1 ≤ n ∧ n ≤ 1000) ∧ (0 ≤ s.c ∧ s.c ≤ 1000000) ∧ N.length ≤ 1000000 ∧ (0 ≤ i ∧ i < 2 * t)) (.ite (ieq (i + 1) (2 * t))
        (.ite (ieq ((freedL (seenM m n i s) N).length : Int) 0) (.ret (.bool true) (swB' t n me sp (.slice 8 0 (keptL (seenM m n i s) N).length 1) R N (keptL (seenM m n i s) N) (freedL (seenM m n i s) N) (s.loadd (slotA n i)) (seenM m n i s) (i + 1)))
          (.ret (.bool false) (swB' t n me sp (.slice 2 0 R.length 1) R N (keptL (seenM m n i s) N) (freedL (seenM m n i s) N) (s.loadd (slotA n i)) (seenM m n i s) (i + 1))))
        (.ret (.bool false) (swB t n me sp R N (s.loadd (slotA n i)) (seenM m n i s) (i + 1)))))
    | none => none)
  | _, _ => none
noncomputable def swS3 : Spec Unit := fun args h => match args, h with
  | [.ptr 0 0, .ptr 10 0], [some (.cells [.ptr 1 0, .ptr 3 0]), some (.cells [.int .i64 t, .int .i64 n, .int .i64 me, .int .i64 sp, .slice 2 0 k 1]), some (.ints (some .i64) R), some (.cells [.int .i64 t', .int .i64 n', .slice 4 0 k1 1, .slice 5 0 k2 1, .slice 6 0 k3 1, .map 7, .int .i64 i, .ptr 8 0]), some (.ints (some .i64) ks), some (.ints (some .i64) fs), some (.ints (some .i64) N), some (.imap .i64 none m), some (.cells [.int .i64 t'', .int .i64 n'', .slice 9 j l' 1]), some (.ints (some .i64) gs), e1, e2] => (match memL 11 [e1, e2] with
    | some (l, s) => some (.pre ((l = s.xs.length ∧ k = R.length ∧ k1 = ks.length ∧ k2 = fs.length ∧ k3 = N.length ∧ t' = t ∧ n' = n ∧ t'' = t ∧ n'' = n) ∧ (1 ≤ t ∧ t ≤ 1000) ∧ (1 ≤ n ∧ n ≤ 1000) ∧ (0 ≤ s.c ∧ s.c ≤ 1000000) ∧ 2 * t ≤ i ∧ (1 ≤ l' ∧ gs.length = j + l') ∧ (-1000000 ≤ List.getD gs (j + Int.toNat 0 * 1) 0 ∧ List.getD gs (j + Int.toNat 0 * 1) 0 ≤ 1000000)) (.ite (ieq ((l' - 1 : Nat) : Int) 0)
        (.ret (.bool true) (swC t n me sp (.slice 4 0 ks.length 1) R N ks fs gs (s.added (lifeA n gs j) 1) m i (j + 1) (l' - 1)))
        (.ret (.bool false) (swC t n me sp (.slice 2 0 R.length 1) R N ks fs gs (s.added (lifeA n gs j) 1) m i (j + 1) (l' - 1)))))
    | none => none)
  | _, _ => none
noncomputable def swStepS : Spec Unit := fun args h => match swS1 args h with
  | some o => some o
  | none => match swS2 args h with
    | some o => some o
    | none => swS3 args h
theorem stA_ok (t n me sp : Int) (R : List Int) (s : MS) (K : AVal → Heap Unit → Prop) (ht : 1 ≤ t ∧ t ≤ 1000) (hn : 1 ≤ n ∧ n ≤ 1000) (hc : 0 ≤ s.c ∧ s.c ≤ 1000000) (hR : R.length ≤ 1000000) (hK : K (.bool false) (swA' t n me sp R (s.loadd (slotA n 0)) (seenM [] n 0 s) 1)) : CallOk E35.I Try.prog 128 [.ptr 0 0, .ptr 3 0] (swA t n me sp R s) K := by
  refine CallOk.trim (callOk_of (E := E35) Try.checked.mixed (L := LL) (n := 10) (of_nf (q := ((List.length R = List.length R ∧ List.length R ≤ (1000000 : Nat)) ∧ True) ∧ ((((0 : Int) ≤ t ∧ t ≤ (100000 : Int)) ∧ (0 : Int) ≤ n ∧ n ≤ (100000 : Int)) ∧ True) ∧ bif ile (2 * t) 0 then False else ((((0 : Int) ≤ t ∧ t ≤ (100000 : Int)) ∧ ((0 : Int) ≤ n ∧ n ≤ (100000 : Int)) ∧ ((-1099511627776 : Int) ≤ (0 : Int) ∧ (0 : Int) ≤ (1099511627776 : Int)) ∧ (-1099511627776 : Int) ≤ (0 : Int) ∧ (0 : Int) ≤ (1099511627776 : Int)) ∧ True) ∧ ((List.length s.3 = List.length s.3 ∧ (0 : Int) ≤ s.4 ∧ s.4 ≤ (4611686018427387904 : Int)) ∧ True) ∧ ((((0 : Int) ≤ t ∧ t ≤ (100000 : Int)) ∧ (0 : Int) ≤ n ∧ n ≤ (100000 : Int)) ∧ True) ∧ bif ieq (W (0 + 1)) (2 * t) then ((List.length R = List.length R ∧ List.length R ≤ (1000000 : Nat)) ∧ True) ∧ bif !ieq (↑(List.length (freedL (mput [] (W (peek s.3 (2 * n + 5 + 2 * 0 + 0))) 1) R)) : Int) 0 then K (AVal.bool false) [some (Entry.cells [AVal.ptr 1 0, AVal.ptr 5 0]), some (Entry.cells [AVal.int .i64 t, AVal.int .i64 n, AVal.int .i64 me, AVal.int .i64 sp, AVal.slice 2 0 (List.length R) 1]), some (Entry.ints (some .i64) R), some (Entry.cells [AVal.int .i64 s.1, AVal.int .i64 s.2, AVal.slice 4 0 (List.length s.3) 1, AVal.int .i64 (s.4 + 1), AVal.int .i64 1, AVal.int .i64 (2 * n + 5 + 2 * 0 + 0), AVal.int .u64 (peek s.3 (2 * n + 5 + 2 * 0 + 0)), AVal.int .u64 (peek s.3 (2 * n + 5 + 2 * 0 + 0)), AVal.bool (inB s.3 (2 * n + 5 + 2 * 0 + 0))]), some (Entry.ints (some .u64) s.3), some (Entry.cells [AVal.int .i64 t, AVal.int .i64 n, AVal.slice 6 0 (List.length (keptL (mput [] (W (peek s.3 (2 * n + 5 + 2 * 0 + 0))) 1) R)) 1, AVal.slice 7 0 (List.length (freedL (mput [] (W (peek s.3 (2 * n + 5 + 2 * 0 + 0))) 1) R)) 1, AVal.slice 8 0 (List.length R) 1, AVal.map 9, AVal.int .i64 (W (0 + 1)), AVal.ptr 10 0]), some (Entry.ints (some .i64) (keptL (mput [] (W (peek s.3 (2 * n + 5 + 2 * 0 + 0))) 1) R)), some (Entry.ints (some .i64) (freedL (mput [] (W (peek s.3 (2 * n + 5 + 2 * 0 + 0))) 1) R)), some (Entry.ints (some .i64) R), some (Entry.imap .i64 none (mput [] (W (peek s.3 (2 * n + 5 + 2 * 0 + 0))) 1)), some (Entry.cells [AVal.int .i64 t, AVal.int .i64 n, AVal.slice 11 0 (List.length (freedL (mput [] (W (peek s.3 (2 * n + 5 + 2 * 0 + 0))) 1) R)) 1]), some (Entry.ints (some .i64) (freedL (mput [] (W (peek s.3 (2 * n + 5 + 2 * 0 + 0))) 1) R))] else K (AVal.bool true) [some (Entry.cells [AVal.ptr 1 0, AVal.ptr 5 0]), some (Entry.cells [AVal.int .i64 t, AVal.int .i64 n, AVal.int .i64 me, AVal.int .i64 sp, AVal.slice 6 0 (List.length (keptL (mput [] (W (peek s.3 (2 * n + 5 + 2 * 0 + 0))) 1) R)) 1]), some (Entry.ints (some .i64) R), some (Entry.cells [AVal.int .i64 s.1, AVal.int .i64 s.2, AVal.slice 4 0 (List.length s.3) 1, AVal.int .i64 (s.4 + 1), AVal.int .i64 1, AVal.int .i64 (2 * n + 5 + 2 * 0 + 0), AVal.int .u64 (peek s.3 (2 * n + 5 + 2 * 0 + 0)), AVal.int .u64 (peek s.3 (2 * n + 5 + 2 * 0 + 0)), AVal.bool (inB s.3 (2 * n + 5 + 2 * 0 + 0))]), some (Entry.ints (some .u64) s.3), some (Entry.cells [AVal.int .i64 t, AVal.int .i64 n, AVal.slice 6 0 (List.length (keptL (mput [] (W (peek s.3 (2 * n + 5 + 2 * 0 + 0))) 1) R)) 1, AVal.slice 7 0 (List.length (freedL (mput [] (W (peek s.3 (2 * n + 5 + 2 * 0 + 0))) 1) R)) 1, AVal.slice 8 0 (List.length R) 1, AVal.map 9, AVal.int .i64 (W (0 + 1)), AVal.ptr 10 0]), some (Entry.ints (some .i64) (keptL (mput [] (W (peek s.3 (2 * n + 5 + 2 * 0 + 0))) 1) R)), some (Entry.ints (some .i64) (freedL (mput [] (W (peek s.3 (2 * n + 5 + 2 * 0 + 0))) 1) R)), some (Entry.ints (some .i64) R), some (Entry.imap .i64 none (mput [] (W (peek s.3 (2 * n + 5 + 2 * 0 + 0))) 1)), some (Entry.cells [AVal.int .i64 t, AVal.int .i64 n, AVal.slice 11 0 (List.length (freedL (mput [] (W (peek s.3 (2 * n + 5 + 2 * 0 + 0))) 1) R)) 1]), some (Entry.ints (some .i64) (freedL (mput [] (W (peek s.3 (2 * n + 5 + 2 * 0 + 0))) 1) R))] else K (AVal.bool false) [some (Entry.cells [AVal.ptr 1 0, AVal.ptr 5 0]), some (Entry.cells [AVal.int .i64 t, AVal.int .i64 n, AVal.int .i64 me, AVal.int .i64 sp, AVal.slice 2 0 (List.length R) 1]), some (Entry.ints (some .i64) R), some (Entry.cells [AVal.int .i64 s.1, AVal.int .i64 s.2, AVal.slice 4 0 (List.length s.3) 1, AVal.int .i64 (s.4 + 1), AVal.int .i64 1, AVal.int .i64 (2 * n + 5 + 2 * 0 + 0), AVal.int .u64 (peek s.3 (2 * n + 5 + 2 * 0 + 0)), AVal.int .u64 (peek s.3 (2 * n + 5 + 2 * 0 + 0)), AVal.bool (inB s.3 (2 * n + 5 + 2 * 0 + 0))]), some (Entry.ints (some .u64) s.3), some (Entry.cells [AVal.int .i64 t, AVal.int .i64 n, AVal.raw (Value.slice none 0 0), AVal.raw (Value.slice none 0 0), AVal.slice 6 0 (List.length R) 1, AVal.map 7, AVal.int .i64 (W (0 + 1)), AVal.raw (Value.pointer none)]), some (Entry.ints (some .i64) R), some (Entry.imap .i64 none (mput [] (W (peek s.3 (2 * n + 5 + 2 * 0 + 0))) 1))]) (by kernel_rfl) ?_))
  refine ⟨⟨⟨rfl, hR⟩, trivial⟩, ⟨by omega, trivial⟩, le_go (fun h => by omega) (fun _ => ⟨⟨by omega, trivial⟩, ⟨⟨rfl, by omega⟩, trivial⟩, ⟨by omega, trivial⟩, ?_⟩)⟩
  have e : W (0 + 1) = 1 := by decide
  rw [e]
  refine eq_go (fun h => by omega) (fun _ => hK)
theorem stB_ok (t n me sp i : Int) (R N : List Int) (s : MS) (m : List (Int × Int)) (K : AVal → Heap Unit → Prop) (ht : 1 ≤ t ∧ t ≤ 1000) (hn : 1 ≤ n ∧ n ≤ 1000) (hc : 0 ≤ s.c ∧ s.c ≤ 1000000) (hN : N.length ≤ 1000000) (hi : 0 ≤ i ∧ i < 2 * t)
    (hK : cond (ieq (i + 1) (2 * t)) (cond (ieq ((freedL (seenM m n i s) N).length : Int) 0) (K (.bool true) (swB' t n me sp (.slice 8 0 (keptL (seenM m n i s) N).length 1) R N (keptL (seenM m n i s) N) (freedL (seenM m n i s) N) (s.loadd (slotA n i)) (seenM m n i s) (i + 1))) (K (.bool false) (swB' t n me sp (.slice 2 0 R.length 1) R N (keptL (seenM m n i s) N) (freedL (seenM m n i s) N) (s.loadd (slotA n i)) (seenM m n i s) (i + 1)))) (K (.bool false) (swB t n me sp R N (s.loadd (slotA n i)) (seenM m n i s) (i + 1)))) : CallOk E35.I Try.prog 128 [.ptr 0 0, .ptr 6 0] (swB t n me sp R N s m i) K := by
  refine CallOk.trim (callOk_of (E := E35) Try.checked.mixed (L := LL) (n := 10) (of_nf (q := ((((0 : Int) ≤ t ∧ t ≤ (100000 : Int)) ∧ (0 : Int) ≤ n ∧ n ≤ (100000 : Int)) ∧ True) ∧ bif ile (2 * t) i then False else ((((0 : Int) ≤ t ∧ t ≤ (100000 : Int)) ∧ ((0 : Int) ≤ n ∧ n ≤ (100000 : Int)) ∧ ((-1099511627776 : Int) ≤ (0 : Int) ∧ (0 : Int) ≤ (1099511627776 : Int)) ∧ (-1099511627776 : Int) ≤ i ∧ i ≤ (1099511627776 : Int)) ∧ True) ∧ ((List.length s.3 = List.length s.3 ∧ (0 : Int) ≤ s.4 ∧ s.4 ≤ (4611686018427387904 : Int)) ∧ True) ∧ ((((0 : Int) ≤ t ∧ t ≤ (100000 : Int)) ∧ (0 : Int) ≤ n ∧ n ≤ (100000 : Int)) ∧ True) ∧ bif ieq (W (i + 1)) (2 * t) then ((List.length N = List.length N ∧ List.length N ≤ (1000000 : Nat)) ∧ True) ∧ bif !ieq (↑(List.length (freedL (mput m (W (peek s.3 (2 * n + 5 + 2 * 0 + i))) 1) N)) : Int) 0 then K (AVal.bool false) [some (Entry.cells [AVal.ptr 1 0, AVal.ptr 3 0]), some (Entry.cells [AVal.int .i64 t, AVal.int .i64 n, AVal.int .i64 me, AVal.int .i64 sp, AVal.slice 2 0 (List.length R) 1]), some (Entry.ints (some .i64) R), some (Entry.cells [AVal.int .i64 t, AVal.int .i64 n, AVal.slice 8 0 (List.length (keptL (mput m (W (peek s.3 (2 * n + 5 + 2 * 0 + i))) 1) N)) 1, AVal.slice 9 0 (List.length (freedL (mput m (W (peek s.3 (2 * n + 5 + 2 * 0 + i))) 1) N)) 1, AVal.slice 4 0 (List.length N) 1, AVal.map 5, AVal.int .i64 (W (i + 1)), AVal.ptr 10 0]), some (Entry.ints (some .i64) N), some (Entry.imap .i64 none (mput m (W (peek s.3 (2 * n + 5 + 2 * 0 + i))) 1)), some (Entry.cells [AVal.int .i64 s.1, AVal.int .i64 s.2, AVal.slice 7 0 (List.length s.3) 1, AVal.int .i64 (s.4 + 1), AVal.int .i64 1, AVal.int .i64 (2 * n + 5 + 2 * 0 + i), AVal.int .u64 (peek s.3 (2 * n + 5 + 2 * 0 + i)), AVal.int .u64 (peek s.3 (2 * n + 5 + 2 * 0 + i)), AVal.bool (inB s.3 (2 * n + 5 + 2 * 0 + i))]), some (Entry.ints (some .u64) s.3), some (Entry.ints (some .i64) (keptL (mput m (W (peek s.3 (2 * n + 5 + 2 * 0 + i))) 1) N)), some (Entry.ints (some .i64) (freedL (mput m (W (peek s.3 (2 * n + 5 + 2 * 0 + i))) 1) N)), some (Entry.cells [AVal.int .i64 t, AVal.int .i64 n, AVal.slice 11 0 (List.length (freedL (mput m (W (peek s.3 (2 * n + 5 + 2 * 0 + i))) 1) N)) 1]), some (Entry.ints (some .i64) (freedL (mput m (W (peek s.3 (2 * n + 5 + 2 * 0 + i))) 1) N))] else K (AVal.bool true) [some (Entry.cells [AVal.ptr 1 0, AVal.ptr 3 0]), some (Entry.cells [AVal.int .i64 t, AVal.int .i64 n, AVal.int .i64 me, AVal.int .i64 sp, AVal.slice 8 0 (List.length (keptL (mput m (W (peek s.3 (2 * n + 5 + 2 * 0 + i))) 1) N)) 1]), some (Entry.ints (some .i64) R), some (Entry.cells [AVal.int .i64 t, AVal.int .i64 n, AVal.slice 8 0 (List.length (keptL (mput m (W (peek s.3 (2 * n + 5 + 2 * 0 + i))) 1) N)) 1, AVal.slice 9 0 (List.length (freedL (mput m (W (peek s.3 (2 * n + 5 + 2 * 0 + i))) 1) N)) 1, AVal.slice 4 0 (List.length N) 1, AVal.map 5, AVal.int .i64 (W (i + 1)), AVal.ptr 10 0]), some (Entry.ints (some .i64) N), some (Entry.imap .i64 none (mput m (W (peek s.3 (2 * n + 5 + 2 * 0 + i))) 1)), some (Entry.cells [AVal.int .i64 s.1, AVal.int .i64 s.2, AVal.slice 7 0 (List.length s.3) 1, AVal.int .i64 (s.4 + 1), AVal.int .i64 1, AVal.int .i64 (2 * n + 5 + 2 * 0 + i), AVal.int .u64 (peek s.3 (2 * n + 5 + 2 * 0 + i)), AVal.int .u64 (peek s.3 (2 * n + 5 + 2 * 0 + i)), AVal.bool (inB s.3 (2 * n + 5 + 2 * 0 + i))]), some (Entry.ints (some .u64) s.3), some (Entry.ints (some .i64) (keptL (mput m (W (peek s.3 (2 * n + 5 + 2 * 0 + i))) 1) N)), some (Entry.ints (some .i64) (freedL (mput m (W (peek s.3 (2 * n + 5 + 2 * 0 + i))) 1) N)), some (Entry.cells [AVal.int .i64 t, AVal.int .i64 n, AVal.slice 11 0 (List.length (freedL (mput m (W (peek s.3 (2 * n + 5 + 2 * 0 + i))) 1) N)) 1]), some (Entry.ints (some .i64) (freedL (mput m (W (peek s.3 (2 * n + 5 + 2 * 0 + i))) 1) N))] else K (AVal.bool false) [some (Entry.cells [AVal.ptr 1 0, AVal.ptr 3 0]), some (Entry.cells [AVal.int .i64 t, AVal.int .i64 n, AVal.int .i64 me, AVal.int .i64 sp, AVal.slice 2 0 (List.length R) 1]), some (Entry.ints (some .i64) R), some (Entry.cells [AVal.int .i64 t, AVal.int .i64 n, AVal.raw (Value.slice none 0 0), AVal.raw (Value.slice none 0 0), AVal.slice 4 0 (List.length N) 1, AVal.map 5, AVal.int .i64 (W (i + 1)), AVal.raw (Value.pointer none)]), some (Entry.ints (some .i64) N), some (Entry.imap .i64 none (mput m (W (peek s.3 (2 * n + 5 + 2 * 0 + i))) 1)), some (Entry.cells [AVal.int .i64 s.1, AVal.int .i64 s.2, AVal.slice 7 0 (List.length s.3) 1, AVal.int .i64 (s.4 + 1), AVal.int .i64 1, AVal.int .i64 (2 * n + 5 + 2 * 0 + i), AVal.int .u64 (peek s.3 (2 * n + 5 + 2 * 0 + i)), AVal.int .u64 (peek s.3 (2 * n + 5 + 2 * 0 + i)), AVal.bool (inB s.3 (2 * n + 5 + 2 * 0 + i))]), some (Entry.ints (some .u64) s.3)]) (by kernel_rfl) ?_))
  have e : W (i + 1) = i + 1 := W_id (by omega)
  rw [e]
  refine ⟨⟨by omega, trivial⟩, le_go (fun h => by omega) (fun _ => ⟨⟨by omega, trivial⟩, ⟨⟨rfl, by omega⟩, trivial⟩, ⟨by omega, trivial⟩, ?_⟩)⟩
  cases h1 : ieq (i + 1) (2 * t) with
  | false => rw [h1] at hK; exact hK
  | true =>
    rw [h1] at hK
    refine ⟨⟨⟨rfl, hN⟩, trivial⟩, ?_⟩
    cases h2 : ieq ((freedL (seenM m n i s) N).length : Int) 0 with
    | false => rw [h2] at hK; unfold seenM slotA at h2; rw [h2]; exact hK
    | true => rw [h2] at hK; unfold seenM slotA at h2; rw [h2]; exact hK
theorem stC_ok (t n me sp i : Int) (R N ks fs gs : List Int) (s : MS) (m : List (Int × Int)) (j l : Nat) (K : AVal → Heap Unit → Prop) (ht : 1 ≤ t ∧ t ≤ 1000) (hn : 1 ≤ n ∧ n ≤ 1000) (hc : 0 ≤ s.c ∧ s.c ≤ 1000000) (hi : 2 * t ≤ i) (hl : 1 ≤ l ∧ gs.length = j + l) (hg : -1000000 ≤ List.getD gs (j + Int.toNat 0 * 1) 0 ∧ List.getD gs (j + Int.toNat 0 * 1) 0 ≤ 1000000)
    (hK : cond (ieq ((l - 1 : Nat) : Int) 0) (K (.bool true) (swC t n me sp (.slice 4 0 ks.length 1) R N ks fs gs (s.added (lifeA n gs j) 1) m i (j + 1) (l - 1))) (K (.bool false) (swC t n me sp (.slice 2 0 R.length 1) R N ks fs gs (s.added (lifeA n gs j) 1) m i (j + 1) (l - 1)))) : CallOk E35.I Try.prog 128 [.ptr 0 0, .ptr 10 0] (swC t n me sp (.slice 2 0 R.length 1) R N ks fs gs s m i j l) K := by
  refine CallOk.trim (callOk_of (E := E35) Try.checked.mixed (L := LL) (n := 10) (of_nf (q := ((((0 : Int) ≤ t ∧ t ≤ (100000 : Int)) ∧ (0 : Int) ≤ n ∧ n ≤ (100000 : Int)) ∧ True) ∧ bif ile (2 * t) i then bif ieq (↑l : Int) 0 then (List.length s.3 = List.length s.3 ∧ (0 : Int) ≤ s.4 ∧ s.4 ≤ (4611686018427387904 : Int)) ∧ K (AVal.bool true) [some (Entry.cells [AVal.ptr 1 0, AVal.ptr 3 0]), some (Entry.cells [AVal.int .i64 t, AVal.int .i64 n, AVal.int .i64 me, AVal.int .i64 sp, AVal.slice 4 0 (List.length ks) 1]), some (Entry.ints (some .i64) R), some (Entry.cells [AVal.int .i64 t, AVal.int .i64 n, AVal.slice 4 0 (List.length ks) 1, AVal.slice 5 0 (List.length fs) 1, AVal.slice 6 0 (List.length N) 1, AVal.map 7, AVal.int .i64 i, AVal.ptr 8 0]), some (Entry.ints (some .i64) ks), some (Entry.ints (some .i64) fs), some (Entry.ints (some .i64) N), some (Entry.imap .i64 none m), some (Entry.cells [AVal.int .i64 t, AVal.int .i64 n, AVal.slice 9 j l 1]), some (Entry.ints (some .i64) gs), some (Entry.cells [AVal.int .i64 s.1, AVal.int .i64 s.2, AVal.slice 11 0 (List.length s.3) 1, AVal.int .i64 (s.4 + 1), AVal.int .i64 1, AVal.int .i64 0, AVal.int .u64 (peek s.3 0), AVal.int .u64 (peek s.3 0), AVal.bool (inB s.3 0)]), some (Entry.ints (some .u64) s.3)] else ((0 : Int) ≤ (0 : Int) ∧ (0 : Int) < (↑l : Int)) ∧ j + Int.toNat 0 * (1 : Nat) < List.length gs ∧ ((((0 : Int) ≤ t ∧ t ≤ (100000 : Int)) ∧ ((0 : Int) ≤ n ∧ n ≤ (100000 : Int)) ∧ (-1099511627776 : Int) ≤ List.getD gs (j + Int.toNat 0 * 1) 0 ∧ List.getD gs (j + Int.toNat 0 * 1) (0 : Int) ≤ (1099511627776 : Int)) ∧ True) ∧ ((List.length s.3 = List.length s.3 ∧ (0 : Int) ≤ s.4 ∧ s.4 ≤ (4611686018427387904 : Int)) ∧ True) ∧ ((0 : Int) ≤ (1 : Int) ∧ Int.toNat (1 : Int) ≤ l) ∧ bif !ieq (↑(l - Int.toNat 1) : Int) 0 then K (AVal.bool false) [some (Entry.cells [AVal.ptr 1 0, AVal.ptr 3 0]), some (Entry.cells [AVal.int .i64 t, AVal.int .i64 n, AVal.int .i64 me, AVal.int .i64 sp, AVal.slice 2 0 (List.length R) 1]), some (Entry.ints (some .i64) R), some (Entry.cells [AVal.int .i64 t, AVal.int .i64 n, AVal.slice 4 0 (List.length ks) 1, AVal.slice 5 0 (List.length fs) 1, AVal.slice 6 0 (List.length N) 1, AVal.map 7, AVal.int .i64 i, AVal.ptr 8 0]), some (Entry.ints (some .i64) ks), some (Entry.ints (some .i64) fs), some (Entry.ints (some .i64) N), some (Entry.imap .i64 none m), some (Entry.cells [AVal.int .i64 t, AVal.int .i64 n, AVal.slice 9 (j + Int.toNat 1 * 1) (l - Int.toNat 1) 1]), some (Entry.ints (some .i64) gs), some (Entry.cells [AVal.int .i64 s.1, AVal.int .i64 s.2, AVal.slice 11 0 (List.length (putI s.3 (n + 4 + List.getD gs (j + Int.toNat 0 * 1) 0) (WU (peek s.3 (n + 4 + List.getD gs (j + Int.toNat 0 * 1) 0) + 1)))) 1, AVal.int .i64 (s.4 + 1), AVal.int .i64 4, AVal.int .i64 (n + 4 + List.getD gs (j + Int.toNat 0 * 1) 0), AVal.int .u64 (peek s.3 (n + 4 + List.getD gs (j + Int.toNat 0 * 1) 0)), AVal.int .u64 (bif inB s.3 (n + 4 + List.getD gs (j + Int.toNat 0 * 1) 0) then WU (peek s.3 (n + 4 + List.getD gs (j + Int.toNat 0 * 1) 0) + 1) else 0), AVal.bool (inB s.3 (n + 4 + List.getD gs (j + Int.toNat 0 * 1) 0))]), some (Entry.ints (some .u64) (putI s.3 (n + 4 + List.getD gs (j + Int.toNat 0 * 1) 0) (WU (peek s.3 (n + 4 + List.getD gs (j + Int.toNat 0 * 1) 0) + 1))))] else K (AVal.bool true) [some (Entry.cells [AVal.ptr 1 0, AVal.ptr 3 0]), some (Entry.cells [AVal.int .i64 t, AVal.int .i64 n, AVal.int .i64 me, AVal.int .i64 sp, AVal.slice 4 0 (List.length ks) 1]), some (Entry.ints (some .i64) R), some (Entry.cells [AVal.int .i64 t, AVal.int .i64 n, AVal.slice 4 0 (List.length ks) 1, AVal.slice 5 0 (List.length fs) 1, AVal.slice 6 0 (List.length N) 1, AVal.map 7, AVal.int .i64 i, AVal.ptr 8 0]), some (Entry.ints (some .i64) ks), some (Entry.ints (some .i64) fs), some (Entry.ints (some .i64) N), some (Entry.imap .i64 none m), some (Entry.cells [AVal.int .i64 t, AVal.int .i64 n, AVal.slice 9 (j + Int.toNat 1 * 1) (l - Int.toNat 1) 1]), some (Entry.ints (some .i64) gs), some (Entry.cells [AVal.int .i64 s.1, AVal.int .i64 s.2, AVal.slice 11 0 (List.length (putI s.3 (n + 4 + List.getD gs (j + Int.toNat 0 * 1) 0) (WU (peek s.3 (n + 4 + List.getD gs (j + Int.toNat 0 * 1) 0) + 1)))) 1, AVal.int .i64 (s.4 + 1), AVal.int .i64 4, AVal.int .i64 (n + 4 + List.getD gs (j + Int.toNat 0 * 1) 0), AVal.int .u64 (peek s.3 (n + 4 + List.getD gs (j + Int.toNat 0 * 1) 0)), AVal.int .u64 (bif inB s.3 (n + 4 + List.getD gs (j + Int.toNat 0 * 1) 0) then WU (peek s.3 (n + 4 + List.getD gs (j + Int.toNat 0 * 1) 0) + 1) else 0), AVal.bool (inB s.3 (n + 4 + List.getD gs (j + Int.toNat 0 * 1) 0))]), some (Entry.ints (some .u64) (putI s.3 (n + 4 + List.getD gs (j + Int.toNat 0 * 1) 0) (WU (peek s.3 (n + 4 + List.getD gs (j + Int.toNat 0 * 1) 0) + 1))))] else ((((0 : Int) ≤ t ∧ t ≤ (100000 : Int)) ∧ ((0 : Int) ≤ n ∧ n ≤ (100000 : Int)) ∧ ((-1099511627776 : Int) ≤ (0 : Int) ∧ (0 : Int) ≤ (1099511627776 : Int)) ∧ (-1099511627776 : Int) ≤ i ∧ i ≤ (1099511627776 : Int)) ∧ True) ∧ ((List.length s.3 = List.length s.3 ∧ (0 : Int) ≤ s.4 ∧ s.4 ≤ (4611686018427387904 : Int)) ∧ True) ∧ ((((0 : Int) ≤ t ∧ t ≤ (100000 : Int)) ∧ (0 : Int) ≤ n ∧ n ≤ (100000 : Int)) ∧ True) ∧ bif ieq (W (i + 1)) (2 * t) then False else K (AVal.bool false) [some (Entry.cells [AVal.ptr 1 0, AVal.ptr 3 0]), some (Entry.cells [AVal.int .i64 t, AVal.int .i64 n, AVal.int .i64 me, AVal.int .i64 sp, AVal.slice 2 0 (List.length R) 1]), some (Entry.ints (some .i64) R), some (Entry.cells [AVal.int .i64 t, AVal.int .i64 n, AVal.slice 4 0 (List.length ks) 1, AVal.slice 5 0 (List.length fs) 1, AVal.slice 6 0 (List.length N) 1, AVal.map 7, AVal.int .i64 (W (i + 1)), AVal.ptr 8 0]), some (Entry.ints (some .i64) ks), some (Entry.ints (some .i64) fs), some (Entry.ints (some .i64) N), some (Entry.imap .i64 none (mput m (W (peek s.3 (2 * n + 5 + 2 * 0 + i))) 1)), some (Entry.cells [AVal.int .i64 t, AVal.int .i64 n, AVal.slice 9 j l 1]), some (Entry.ints (some .i64) gs), some (Entry.cells [AVal.int .i64 s.1, AVal.int .i64 s.2, AVal.slice 11 0 (List.length s.3) 1, AVal.int .i64 (s.4 + 1), AVal.int .i64 1, AVal.int .i64 (2 * n + 5 + 2 * 0 + i), AVal.int .u64 (peek s.3 (2 * n + 5 + 2 * 0 + i)), AVal.int .u64 (peek s.3 (2 * n + 5 + 2 * 0 + i)), AVal.bool (inB s.3 (2 * n + 5 + 2 * 0 + i))]), some (Entry.ints (some .u64) s.3)]) (by kernel_rfl) ?_))
  refine ⟨⟨by omega, trivial⟩, le_go (fun h => eq_go (fun h0 => by omega) (fun _ => ⟨by omega, by omega, ⟨by omega, trivial⟩, ⟨⟨rfl, by omega⟩, trivial⟩, by omega, ?_⟩)) (fun h => by omega)⟩
  have e : l - Int.toNat 1 = l - 1 := rfl
  rw [e]
  cases h1 : ieq ((l - 1 : Nat) : Int) 0 with
  | false => rw [h1] at hK; exact hK
  | true => rw [h1] at hK; exact hK
theorem swS1_ok : Spec.ok E35.I Try.prog 128 swS1 := by
  intro args h o ho K hK
  unfold swS1 at ho
  split at ho
  case h_2 => cases ho
  split at ho
  case h_2 => cases ho
  rename_i hm
  simp only [Option.some.injEq] at ho; subst ho
  obtain ⟨⟨⟨hl, hk⟩, ht, hn, hc, hR⟩, hK⟩ := hK
  have hh := memL_eq hm hl
  simp only [List.cons.injEq, and_true] at hh
  obtain ⟨rfl, rfl⟩ := hh
  subst hk
  exact stA_ok _ _ _ _ _ _ K ht hn hc hR hK
theorem swS2_ok : Spec.ok E35.I Try.prog 128 swS2 := by
  intro args h o ho K hK
  unfold swS2 at ho
  split at ho
  case h_2 => cases ho
  split at ho
  case h_2 => cases ho
  rename_i hm
  simp only [Option.some.injEq] at ho; subst ho
  obtain ⟨⟨⟨hl, hk, hk', h1, h2⟩, ht, hn, hc, hN, hi⟩, hK⟩ := hK
  have hh := memL_eq hm hl
  simp only [List.cons.injEq, and_true] at hh
  obtain ⟨rfl, rfl⟩ := hh
  subst hk hk' h1 h2
  exact stB_ok _ _ _ _ _ _ _ _ _ K ht hn hc hN hi hK
theorem swS3_ok : Spec.ok E35.I Try.prog 128 swS3 := by
  intro args h o ho K hK
  unfold swS3 at ho
  split at ho
  case h_2 => cases ho
  split at ho
  case h_2 => cases ho
  rename_i hm
  simp only [Option.some.injEq] at ho; subst ho
  obtain ⟨⟨⟨hl, hk, hk1, hk2, hk3, h1, h2, h3, h4⟩, ht, hn, hc, hi, hl', hg⟩, hK⟩ := hK
  have hh := memL_eq hm hl
  simp only [List.cons.injEq, and_true] at hh
  obtain ⟨rfl, rfl⟩ := hh
  subst hk hk1 hk2 hk3 h1 h2 h3 h4
  exact stC_ok _ _ _ _ _ _ _ _ _ _ _ _ _ _ K ht hn hc hi hl' hg hK
theorem swStep_ok : Spec.ok E35.I Try.prog 128 swStepS := by
  intro args h o ho
  unfold swStepS at ho
  split at ho
  · rename_i e; cases ho; exact swS1_ok _ _ _ e
  · split at ho
    · rename_i e; cases ho; exact swS2_ok _ _ _ e
    · exact swS3_ok _ _ _ ho
noncomputable def E36 := E35.addS 128 swStepS swStep_ok
end Go.Sh

