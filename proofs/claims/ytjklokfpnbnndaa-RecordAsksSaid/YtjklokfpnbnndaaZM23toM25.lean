import Derived.Test.YtjklokfpnbnndaaZM11toM22
set_option linter.all false
/- The example of an announcement. -/
namespace Go.Sh
open Go Go.Proofs
variable [Con]
def awake14S : Spec Unit := fun args h => match args, h with
  | [], [] => some (.pre (True) (.ret (.bool true) ([])))
  | _, _ => none
theorem awake14_ok : Spec.ok E22.I Try.prog 42 awake14S := by
  intro args h o ho K hK
  unfold awake14S at ho
  split at ho
  case h_2 => cases ho
  skip
  simp only [Option.some.injEq] at ho; subst ho
  obtain ⟨hp, hK⟩ := hK
  have hK : K (.bool true) ([]) := hK
  refine CallOk.trim (callOk_of (E := E22) Try.checked.mixed (L := LL) (n := 10) (of_nf (q := True ∧ (((0 : Int) ≤ (2 : Int) ∧ (2 : Int) ≤ (100000 : Int)) ∧ (0 : Int) ≤ (2 : Int) ∧ (2 : Int) ≤ (100000 : Int)) ∧ ((((0 : Int) ≤ (2 : Int) ∧ (2 : Int) ≤ (100000 : Int)) ∧ (0 : Int) ≤ (2 : Int) ∧ (2 : Int) ≤ (100000 : Int)) ∧ True) ∧ ((0 : Int) ≤ (2 : Int) * 2 + 5 * 2 + 6 ∧ 2 * 2 + 5 * 2 + (6 : Int) = (2 : Int) * 2 + 5 * 2 + 6 ∧ 2 * 2 + 5 * 2 + (6 : Int) ≤ (4294967296 : Int)) ∧ ((0 : Int) ≤ (0 : Int) ∧ (0 : Int) < (↑1 : Int)) ∧ ((((0 : Int) ≤ (2 : Int) ∧ (2 : Int) ≤ (100000 : Int)) ∧ ((0 : Int) ≤ (2 : Int) ∧ (2 : Int) ≤ (100000 : Int)) ∧ (-1099511627776 : Int) ≤ (1 : Int) ∧ (1 : Int) ≤ (1099511627776 : Int)) ∧ True) ∧ ((20 = 20 ∧ (0 : Int) ≤ (0 : Int) ∧ (0 : Int) ≤ (4611686018427387904 : Int)) ∧ True) ∧ (((0 : Int) ≤ (2 : Int) ∧ (2 : Int) ≤ (100000 : Int)) ∧ (0 : Int) ≤ (2 : Int) ∧ (2 : Int) ≤ (100000 : Int)) ∧ (20 = 20 ∧ (0 : Int) ≤ (0 : Int) + 1 ∧ 0 + (1 : Int) ≤ (4611686018427387904 : Int)) ∧ ((((0 : Int) ≤ (2 : Int) ∧ (2 : Int) ≤ (100000 : Int)) ∧ ((0 : Int) ≤ (2 : Int) ∧ (2 : Int) ≤ (100000 : Int)) ∧ (-1099511627776 : Int) ≤ (1 : Int) ∧ (1 : Int) ≤ (1099511627776 : Int)) ∧ True) ∧ ((20 = 20 ∧ (0 : Int) ≤ (0 : Int) + 1 + 1 ∧ 0 + 1 + (1 : Int) ≤ (4611686018427387904 : Int)) ∧ True) ∧ ((((0 : Int) ≤ (2 : Int) ∧ (2 : Int) ≤ (100000 : Int)) ∧ ((0 : Int) ≤ (2 : Int) ∧ (2 : Int) ≤ (100000 : Int)) ∧ (-1099511627776 : Int) ≤ (1 : Int) ∧ (1 : Int) ≤ (1099511627776 : Int)) ∧ True) ∧ ((20 = 20 ∧ (0 : Int) ≤ (0 : Int) + 1 + 1 + 1 ∧ 0 + 1 + 1 + (1 : Int) ≤ (4611686018427387904 : Int)) ∧ True) ∧ True ∧ ((0 : Int) ≤ cutI (peek (putI (putI (putI (List.replicate (Int.toNat (2 * 2 + 5 * 2 + 6)) 0) (2 * 2 + 5 + 2 * 2 + 3 * 1 + 1) (tskV 3 5 0)) (2 * 2 + 5 + 2 * 2 + 3 * 2) (WU (peek (putI (List.replicate (Int.toNat (2 * 2 + 5 * 2 + 6)) 0) (2 * 2 + 5 + 2 * 2 + 3 * 1 + 1) (tskV 3 5 0)) (2 * 2 + 5 + 2 * 2 + 3 * 2) + 1))) (2 * 2 + 5 + 2 * 2 + 3 * 1) (WU (peek (putI (List.replicate (Int.toNat (2 * 2 + 5 * 2 + 6)) 0) (2 * 2 + 5 + 2 * 2 + 3 * 1 + 1) (tskV 3 5 0)) (2 * 2 + 5 + 2 * 2 + 3 * 2) + 1))) (2 * 2 + 5 + 2 * 2 + 3 * 1 + 2)) 0 12 ∧ cutI (peek (putI (putI (putI (List.replicate (Int.toNat (2 * 2 + 5 * 2 + 6)) 0) (2 * 2 + 5 + 2 * 2 + 3 * 1 + 1) (tskV 3 5 0)) (2 * 2 + 5 + 2 * 2 + 3 * 2) (WU (peek (putI (List.replicate (Int.toNat (2 * 2 + 5 * 2 + 6)) 0) (2 * 2 + 5 + 2 * 2 + 3 * 1 + 1) (tskV 3 5 0)) (2 * 2 + 5 + 2 * 2 + 3 * 2) + 1))) (2 * 2 + 5 + 2 * 2 + 3 * 1) (WU (peek (putI (List.replicate (Int.toNat (2 * 2 + 5 * 2 + 6)) 0) (2 * 2 + 5 + 2 * 2 + 3 * 1 + 1) (tskV 3 5 0)) (2 * 2 + 5 + 2 * 2 + 3 * 2) + 1))) (2 * 2 + 5 + 2 * 2 + 3 * 1 + 2)) 0 (12 : Int) ≤ (1000000 : Int)) ∧ True ∧ ((((0 : Int) ≤ (2 : Int) ∧ (2 : Int) ≤ (100000 : Int)) ∧ ((0 : Int) ≤ (2 : Int) ∧ (2 : Int) ≤ (100000 : Int)) ∧ (-1099511627776 : Int) ≤ (1 : Int) ∧ (1 : Int) ≤ (1099511627776 : Int)) ∧ True) ∧ ((20 = 20 ∧ (0 : Int) ≤ (0 : Int) + 1 + 1 + 1 + 1 ∧ 0 + 1 + 1 + 1 + (1 : Int) ≤ (4611686018427387904 : Int)) ∧ True) ∧ (20 = 20 ∧ ((0 : Int) ≤ (2 : Int) ∧ (2 : Int) ≤ (100000 : Int)) ∧ (0 : Int) ≤ (2 : Int) ∧ (2 : Int) ≤ (100000 : Int)) ∧ (20 = 20 ∧ ((0 : Int) ≤ (2 : Int) ∧ (2 : Int) ≤ (100000 : Int)) ∧ (0 : Int) ≤ (2 : Int) ∧ (2 : Int) ≤ (100000 : Int)) ∧ (((0 : Int) ≤ (2 : Int) ∧ (2 : Int) ≤ (100000 : Int)) ∧ ((0 : Int) ≤ (2 : Int) ∧ (2 : Int) ≤ (100000 : Int)) ∧ (-1099511627776 : Int) ≤ (1 : Int) ∧ (1 : Int) ≤ (1099511627776 : Int)) ∧ (20 = 20 ∧ True) ∧ ((0 : Int) ≤ peek (putI (putI (putI (putI (List.replicate (Int.toNat (2 * 2 + 5 * 2 + 6)) 0) (2 * 2 + 5 + 2 * 2 + 3 * 1 + 1) (tskV 3 5 0)) (2 * 2 + 5 + 2 * 2 + 3 * 2) (WU (peek (putI (List.replicate (Int.toNat (2 * 2 + 5 * 2 + 6)) 0) (2 * 2 + 5 + 2 * 2 + 3 * 1 + 1) (tskV 3 5 0)) (2 * 2 + 5 + 2 * 2 + 3 * 2) + 1))) (2 * 2 + 5 + 2 * 2 + 3 * 1) (WU (peek (putI (List.replicate (Int.toNat (2 * 2 + 5 * 2 + 6)) 0) (2 * 2 + 5 + 2 * 2 + 3 * 1 + 1) (tskV 3 5 0)) (2 * 2 + 5 + 2 * 2 + 3 * 2) + 1))) (2 * 2 + 5 + 2 * 2 + 3 * 1 + 2) (dPutV (attI (cutI (peek (putI (putI (putI (List.replicate (Int.toNat (2 * 2 + 5 * 2 + 6)) 0) (2 * 2 + 5 + 2 * 2 + 3 * 1 + 1) (tskV 3 5 0)) (2 * 2 + 5 + 2 * 2 + 3 * 2) (WU (peek (putI (List.replicate (Int.toNat (2 * 2 + 5 * 2 + 6)) 0) (2 * 2 + 5 + 2 * 2 + 3 * 1 + 1) (tskV 3 5 0)) (2 * 2 + 5 + 2 * 2 + 3 * 2) + 1))) (2 * 2 + 5 + 2 * 2 + 3 * 1) (WU (peek (putI (List.replicate (Int.toNat (2 * 2 + 5 * 2 + 6)) 0) (2 * 2 + 5 + 2 * 2 + 3 * 1 + 1) (tskV 3 5 0)) (2 * 2 + 5 + 2 * 2 + 3 * 2) + 1))) (2 * 2 + 5 + 2 * 2 + 3 * 1 + 2)) 0 12)) 0 0 0 false 1 0)) (2 * 2 + 5 + 2 * 2 + 3 * 1 + 2) ∧ peek (putI (putI (putI (putI (List.replicate (Int.toNat (2 * 2 + 5 * 2 + 6)) 0) (2 * 2 + 5 + 2 * 2 + 3 * 1 + 1) (tskV 3 5 0)) (2 * 2 + 5 + 2 * 2 + 3 * 2) (WU (peek (putI (List.replicate (Int.toNat (2 * 2 + 5 * 2 + 6)) 0) (2 * 2 + 5 + 2 * 2 + 3 * 1 + 1) (tskV 3 5 0)) (2 * 2 + 5 + 2 * 2 + 3 * 2) + 1))) (2 * 2 + 5 + 2 * 2 + 3 * 1) (WU (peek (putI (List.replicate (Int.toNat (2 * 2 + 5 * 2 + 6)) 0) (2 * 2 + 5 + 2 * 2 + 3 * 1 + 1) (tskV 3 5 0)) (2 * 2 + 5 + 2 * 2 + 3 * 2) + 1))) (2 * 2 + 5 + 2 * 2 + 3 * 1 + 2) (dPutV (attI (cutI (peek (putI (putI (putI (List.replicate (Int.toNat (2 * 2 + 5 * 2 + 6)) 0) (2 * 2 + 5 + 2 * 2 + 3 * 1 + 1) (tskV 3 5 0)) (2 * 2 + 5 + 2 * 2 + 3 * 2) (WU (peek (putI (List.replicate (Int.toNat (2 * 2 + 5 * 2 + 6)) 0) (2 * 2 + 5 + 2 * 2 + 3 * 1 + 1) (tskV 3 5 0)) (2 * 2 + 5 + 2 * 2 + 3 * 2) + 1))) (2 * 2 + 5 + 2 * 2 + 3 * 1) (WU (peek (putI (List.replicate (Int.toNat (2 * 2 + 5 * 2 + 6)) 0) (2 * 2 + 5 + 2 * 2 + 3 * 1 + 1) (tskV 3 5 0)) (2 * 2 + 5 + 2 * 2 + 3 * 2) + 1))) (2 * 2 + 5 + 2 * 2 + 3 * 1 + 2)) 0 12)) 0 0 0 false 1 0)) (2 * 2 + 5 + 2 * 2 + 3 * 1 + 2) ≤ (18446744073709551615 : Int)) ∧ K (AVal.bool true) []) (by kernel_rfl) ?_))
  repeat refine ⟨by first | trivial | decide | omega, ?_⟩
  exact hK
noncomputable def E23 := E22.addS 42 awake14S awake14_ok
end Go.Sh

/- The layout's addresses, as the document has them; an answer, asked for. -/
namespace Go.Sh
open Go Go.Proofs
variable [Con]
def lLifeS : RSpec Unit := fun args h => match args, h with
  | [.agg [.int .i64 t, .int .i64 n], .int .i64 a], [] => some ((0 ≤ t ∧ t ≤ 100000) ∧ (0 ≤ n ∧ n ≤ 100000) ∧ (-1099511627776 ≤ a ∧ a ≤ 1099511627776), .int .i64 (n + 4 + a))
  | _, _ => none
theorem lLife_ok : Spec.ok E23.I Try.prog 102 lLifeS.spec := by
  intro args h o ho K hK
  unfold RSpec.spec at ho
  split at ho
  case h_2 => cases ho
  rename_i pp vv hv
  unfold lLifeS at hv
  split at hv
  case h_2 => cases hv
  rename_i t n a
  simp only [Option.some.injEq, Prod.mk.injEq] at hv
  obtain ⟨rfl, rfl⟩ := hv
  simp only [Option.some.injEq] at ho; subst ho
  obtain ⟨hp, hK⟩ := hK
  have hK : K (.int .i64 (n + 4 + a)) [] := hK
  refine CallOk.trim (callOk_of (E := E23) Try.checked.mixed (L := LL) (n := 10) (of_nf (q := K (AVal.int .i64 (W (W (n + 4) + a))) []) (by kernel_rfl) ?_))
  simp (disch := omega) only [W, W_in]
  refine cast (congrArg (fun z => K (AVal.int .i64 z) []) ?_) hK
  omega
def lSlotS : RSpec Unit := fun args h => match args, h with
  | [.agg [.int .i64 t, .int .i64 n], .int .i64 a, .int .i64 b], [] => some ((0 ≤ t ∧ t ≤ 100000) ∧ (0 ≤ n ∧ n ≤ 100000) ∧ (-1099511627776 ≤ a ∧ a ≤ 1099511627776) ∧ (-1099511627776 ≤ b ∧ b ≤ 1099511627776), .int .i64 (2 * n + 5 + 2 * a + b))
  | _, _ => none
theorem lSlot_ok : Spec.ok E23.I Try.prog 104 lSlotS.spec := by
  intro args h o ho K hK
  unfold RSpec.spec at ho
  split at ho
  case h_2 => cases ho
  rename_i pp vv hv
  unfold lSlotS at hv
  split at hv
  case h_2 => cases hv
  rename_i t n a b
  simp only [Option.some.injEq, Prod.mk.injEq] at hv
  obtain ⟨rfl, rfl⟩ := hv
  simp only [Option.some.injEq] at ho; subst ho
  obtain ⟨hp, hK⟩ := hK
  have hK : K (.int .i64 (2 * n + 5 + 2 * a + b)) [] := hK
  refine CallOk.trim (callOk_of (E := E23) Try.checked.mixed (L := LL) (n := 10) (of_nf (q := K (AVal.int .i64 (W (W (W (W (2 * n) + 5) + W (2 * a)) + b))) []) (by kernel_rfl) ?_))
  simp (disch := omega) only [W, W_in]
  refine cast (congrArg (fun z => K (AVal.int .i64 z) []) ?_) hK
  omega
def lTicketS : RSpec Unit := fun args h => match args, h with
  | [.agg [.int .i64 t, .int .i64 n], .int .i64 a], [] => some ((0 ≤ t ∧ t ≤ 100000) ∧ (0 ≤ n ∧ n ≤ 100000) ∧ (-1099511627776 ≤ a ∧ a ≤ 1099511627776), .int .i64 (2 * n + 5 + 2 * t + 3 * a))
  | _, _ => none
theorem lTicket_ok : Spec.ok E23.I Try.prog 96 lTicketS.spec := by
  intro args h o ho K hK
  unfold RSpec.spec at ho
  split at ho
  case h_2 => cases ho
  rename_i pp vv hv
  unfold lTicketS at hv
  split at hv
  case h_2 => cases hv
  rename_i t n a
  simp only [Option.some.injEq, Prod.mk.injEq] at hv
  obtain ⟨rfl, rfl⟩ := hv
  simp only [Option.some.injEq] at ho; subst ho
  obtain ⟨hp, hK⟩ := hK
  have hK : K (.int .i64 (2 * n + 5 + 2 * t + 3 * a)) [] := hK
  refine CallOk.trim (callOk_of (E := E23) Try.checked.mixed (L := LL) (n := 10) (of_nf (q := K (AVal.int .i64 (W (W (W (W (2 * n) + 5) + W (2 * t)) + W (3 * a)))) []) (by kernel_rfl) ?_))
  simp (disch := omega) only [W, W_in]
  refine cast (congrArg (fun z => K (AVal.int .i64 z) []) ?_) hK
  omega
def lTaskS : RSpec Unit := fun args h => match args, h with
  | [.agg [.int .i64 t, .int .i64 n], .int .i64 a], [] => some ((0 ≤ t ∧ t ≤ 100000) ∧ (0 ≤ n ∧ n ≤ 100000) ∧ (-1099511627776 ≤ a ∧ a ≤ 1099511627776), .int .i64 (2 * n + 5 + 2 * t + 3 * a + 1))
  | _, _ => none
theorem lTask_ok : Spec.ok E23.I Try.prog 63 lTaskS.spec := by
  intro args h o ho K hK
  unfold RSpec.spec at ho
  split at ho
  case h_2 => cases ho
  rename_i pp vv hv
  unfold lTaskS at hv
  split at hv
  case h_2 => cases hv
  rename_i t n a
  simp only [Option.some.injEq, Prod.mk.injEq] at hv
  obtain ⟨rfl, rfl⟩ := hv
  simp only [Option.some.injEq] at ho; subst ho
  obtain ⟨hp, hK⟩ := hK
  have hK : K (.int .i64 (2 * n + 5 + 2 * t + 3 * a + 1)) [] := hK
  refine CallOk.trim (callOk_of (E := E23) Try.checked.mixed (L := LL) (n := 10) (of_nf (q := K (AVal.int .i64 (W (W (W (W (W (2 * n) + 5) + W (2 * t)) + W (3 * a)) + 1))) []) (by kernel_rfl) ?_))
  simp (disch := omega) only [W, W_in]
  refine cast (congrArg (fun z => K (AVal.int .i64 z) []) ?_) hK
  omega
def lDescS : RSpec Unit := fun args h => match args, h with
  | [.agg [.int .i64 t, .int .i64 n], .int .i64 a], [] => some ((0 ≤ t ∧ t ≤ 100000) ∧ (0 ≤ n ∧ n ≤ 100000) ∧ (-1099511627776 ≤ a ∧ a ≤ 1099511627776), .int .i64 (2 * n + 5 + 2 * t + 3 * a + 2))
  | _, _ => none
theorem lDesc_ok : Spec.ok E23.I Try.prog 58 lDescS.spec := by
  intro args h o ho K hK
  unfold RSpec.spec at ho
  split at ho
  case h_2 => cases ho
  rename_i pp vv hv
  unfold lDescS at hv
  split at hv
  case h_2 => cases hv
  rename_i t n a
  simp only [Option.some.injEq, Prod.mk.injEq] at hv
  obtain ⟨rfl, rfl⟩ := hv
  simp only [Option.some.injEq] at ho; subst ho
  obtain ⟨hp, hK⟩ := hK
  have hK : K (.int .i64 (2 * n + 5 + 2 * t + 3 * a + 2)) [] := hK
  refine CallOk.trim (callOk_of (E := E23) Try.checked.mixed (L := LL) (n := 10) (of_nf (q := K (AVal.int .i64 (W (W (W (W (W (2 * n) + 5) + W (2 * t)) + W (3 * a)) + 2))) []) (by kernel_rfl) ?_))
  simp (disch := omega) only [W, W_in]
  refine cast (congrArg (fun z => K (AVal.int .i64 z) []) ?_) hK
  omega
def lCounterS : RSpec Unit := fun args h => match args, h with
  | [.agg [.int .i64 t, .int .i64 n]], [] => some ((0 ≤ t ∧ t ≤ 100000) ∧ (0 ≤ n ∧ n ≤ 100000), .int .i64 (2 * n + 5 + 2 * t + 3 * t))
  | _, _ => none
theorem lCounter_ok : Spec.ok E23.I Try.prog 95 lCounterS.spec := by
  intro args h o ho K hK
  unfold RSpec.spec at ho
  split at ho
  case h_2 => cases ho
  rename_i pp vv hv
  unfold lCounterS at hv
  split at hv
  case h_2 => cases hv
  rename_i t n
  simp only [Option.some.injEq, Prod.mk.injEq] at hv
  obtain ⟨rfl, rfl⟩ := hv
  simp only [Option.some.injEq] at ho; subst ho
  obtain ⟨hp, hK⟩ := hK
  have hK : K (.int .i64 (2 * n + 5 + 2 * t + 3 * t)) [] := hK
  refine CallOk.trim (callOk_of (E := E23) Try.checked.mixed (L := LL) (n := 10) (of_nf (q := K (AVal.int .i64 (W (W (W (W (2 * n) + 5) + W (2 * t)) + W (3 * t)))) []) (by kernel_rfl) ?_))
  simp (disch := omega) only [W, W_in]
  refine cast (congrArg (fun z => K (AVal.int .i64 z) []) ?_) hK
  omega
noncomputable def E24 := (((((E23.addR 102 lLifeS lLife_ok).addR 104 lSlotS lSlot_ok).addR 96 lTicketS lTicket_ok).addR 63 lTaskS lTask_ok).addR 58 lDescS lDesc_ok).addR 95 lCounterS lCounter_ok
end Go.Sh

/- An answer, asked for: the law's walk. -/
namespace Go.Sh
open Go Go.Proofs
variable [Con]
theorem eqv_self (b : Bool) : (bif b then b else !b) = true := by cases b <;> rfl
theorem asks_ok (t n u : Int) (ws : List Int) (ht : 0 ≤ t ∧ t ≤ 255) (hn : 0 ≤ n ∧ n ≤ 255) (hws : okW ws) :
    CallOk E24.I Try.prog 12 [.agg [.int .u8 t, .int .u8 n, .iview (some .u64) ws], .int .i64 u] ([] : Heap Unit) (fun v _ => v = .bool true) := by
  refine callOk_of (E := E24) Try.checked.mixed (L := LL) (n := 10) (of_nf (q := True ∧ bif ilt 60 (↑(List.length ws) : Int) then AVal.bool true = AVal.bool true else (((0 : Int) ≤ t ∧ t ≤ (255 : Int)) ∧ (0 : Int) ≤ n ∧ n ≤ (255 : Int)) ∧ bif ilt u 0 then (List.length (memW (thr t) (nod n) ws) = List.length (memW (thr t) (nod n) ws) ∧ ((0 : Int) ≤ thr t ∧ thr t ≤ (100000 : Int)) ∧ (0 : Int) ≤ nod n ∧ nod n ≤ (100000 : Int)) ∧ (AVal.bool !pndB (memW (thr t) (nod n) ws) (thr t) (nod n) u) = AVal.bool true else bif ile (thr t) u then (List.length (memW (thr t) (nod n) ws) = List.length (memW (thr t) (nod n) ws) ∧ ((0 : Int) ≤ thr t ∧ thr t ≤ (100000 : Int)) ∧ (0 : Int) ≤ nod n ∧ nod n ≤ (100000 : Int)) ∧ (AVal.bool !pndB (memW (thr t) (nod n) ws) (thr t) (nod n) u) = AVal.bool true else (((0 : Int) ≤ thr t ∧ thr t ≤ (100000 : Int)) ∧ ((0 : Int) ≤ nod n ∧ nod n ≤ (100000 : Int)) ∧ (-1099511627776 : Int) ≤ u ∧ u ≤ (1099511627776 : Int)) ∧ (List.length (memW (thr t) (nod n) ws) = List.length (memW (thr t) (nod n) ws) ∧ True) ∧ (List.length (memW (thr t) (nod n) ws) = List.length (memW (thr t) (nod n) ws) ∧ ((0 : Int) ≤ thr t ∧ thr t ≤ (100000 : Int)) ∧ (0 : Int) ≤ nod n ∧ nod n ≤ (100000 : Int)) ∧ ((0 : Int) ≤ peek (memW (thr t) (nod n) ws) (2 * nod n + 5 + 2 * thr t + 3 * u + 2) ∧ peek (memW (thr t) (nod n) ws) (2 * nod n + 5 + 2 * thr t + 3 * u + 2) ≤ (18446744073709551615 : Int)) ∧ bif !bif pndB (memW (thr t) (nod n) ws) (thr t) (nod n) u then pendB (cutI (peek (memW (thr t) (nod n) ws) (2 * nod n + 5 + 2 * thr t + 3 * u + 2)) 49 3) else !pendB (cutI (peek (memW (thr t) (nod n) ws) (2 * nod n + 5 + 2 * thr t + 3 * u + 2)) 49 3) then AVal.bool false = AVal.bool true else (List.length (memW (thr t) (nod n) ws) = List.length (memW (thr t) (nod n) ws) ∧ True) ∧ ((((0 : Int) ≤ thr t ∧ thr t ≤ (100000 : Int)) ∧ ((0 : Int) ≤ nod n ∧ nod n ≤ (100000 : Int)) ∧ (-1099511627776 : Int) ≤ u ∧ u ≤ (1099511627776 : Int)) ∧ True) ∧ ((List.length (memW (thr t) (nod n) ws) = List.length (memW (thr t) (nod n) ws) ∧ (0 : Int) ≤ (0 : Int) ∧ (0 : Int) ≤ (4611686018427387904 : Int)) ∧ True) ∧ True ∧ True ∧ (List.length (memW (thr t) (nod n) ws) = List.length (memW (thr t) (nod n) ws) ∧ True) ∧ ((List.length (memW (thr t) (nod n) ws) = List.length (memW (thr t) (nod n) ws) ∧ True) ∧ True) ∧ (((0 : Int) ≤ thr t ∧ thr t ≤ (100000 : Int)) ∧ ((0 : Int) ≤ nod n ∧ nod n ≤ (100000 : Int)) ∧ (-1099511627776 : Int) ≤ u ∧ u ≤ (1099511627776 : Int)) ∧ bif ieq (2 * nod n + 5 + 2 * thr t + 3 * u + 2) (2 * nod n + 5 + 2 * thr t + 3 * u + 2) then ((0 : Int) ≤ peek (memW (thr t) (nod n) ws) (2 * nod n + 5 + 2 * thr t + 3 * u + 2) ∧ peek (memW (thr t) (nod n) ws) (2 * nod n + 5 + 2 * thr t + 3 * u + 2) ≤ (18446744073709551615 : Int)) ∧ AVal.bool (bif ieq (resC (cutI (peek (memW (thr t) (nod n) ws) (2 * nod n + 5 + 2 * thr t + 3 * u + 2)) 39 9) (cutI (peek (memW (thr t) (nod n) ws) (2 * nod n + 5 + 2 * thr t + 3 * u + 2)) 49 3)) (resC (cutI (peek (memW (thr t) (nod n) ws) (2 * nod n + 5 + 2 * thr t + 3 * u + 2)) 39 9) (cutI (peek (memW (thr t) (nod n) ws) (2 * nod n + 5 + 2 * thr t + 3 * u + 2)) 49 3)) then bif bif resO (cutI (peek (memW (thr t) (nod n) ws) (2 * nod n + 5 + 2 * thr t + 3 * u + 2)) 39 9) (cutI (peek (memW (thr t) (nod n) ws) (2 * nod n + 5 + 2 * thr t + 3 * u + 2)) 49 3) (ieq (cutI (peek (memW (thr t) (nod n) ws) (2 * nod n + 5 + 2 * thr t + 3 * u + 2)) 48 1) 1) then resO (cutI (peek (memW (thr t) (nod n) ws) (2 * nod n + 5 + 2 * thr t + 3 * u + 2)) 39 9) (cutI (peek (memW (thr t) (nod n) ws) (2 * nod n + 5 + 2 * thr t + 3 * u + 2)) 49 3) (ieq (cutI (peek (memW (thr t) (nod n) ws) (2 * nod n + 5 + 2 * thr t + 3 * u + 2)) 48 1) 1) else !resO (cutI (peek (memW (thr t) (nod n) ws) (2 * nod n + 5 + 2 * thr t + 3 * u + 2)) 39 9) (cutI (peek (memW (thr t) (nod n) ws) (2 * nod n + 5 + 2 * thr t + 3 * u + 2)) 49 3) (ieq (cutI (peek (memW (thr t) (nod n) ws) (2 * nod n + 5 + 2 * thr t + 3 * u + 2)) 48 1) 1) then bif ieq (resX (cutI (peek (memW (thr t) (nod n) ws) (2 * nod n + 5 + 2 * thr t + 3 * u + 2)) 39 9) (cutI (peek (memW (thr t) (nod n) ws) (2 * nod n + 5 + 2 * thr t + 3 * u + 2)) 49 3) (cutI (peek (memW (thr t) (nod n) ws) (2 * nod n + 5 + 2 * thr t + 3 * u + 2)) 52 10)) (resX (cutI (peek (memW (thr t) (nod n) ws) (2 * nod n + 5 + 2 * thr t + 3 * u + 2)) 39 9) (cutI (peek (memW (thr t) (nod n) ws) (2 * nod n + 5 + 2 * thr t + 3 * u + 2)) 49 3) (cutI (peek (memW (thr t) (nod n) ws) (2 * nod n + 5 + 2 * thr t + 3 * u + 2)) 52 10)) then true else false else false else false) = AVal.bool true else AVal.bool false = AVal.bool true) (by kernel_rfl) ?_)
  have h1 := thr_in ht
  have h2 := nod_in hn
  have hW : okW (memW (thr t) (nod n) ws) := okW_memW hws
  generalize memW (thr t) (nod n) ws = MW at hW ⊢
  have hpk := okW_peek hW (2 * nod n + 5 + 2 * thr t + 3 * u + 2)
  have hout : ∀ v : Int, (v < 0 ∨ thr t ≤ v) → pndB MW (thr t) (nod n) v = false := by
    intro v hv
    unfold pndB
    rw [ile_eq, ilt_eq]
    by_cases c : 0 ≤ v
    · rw [decide_eq_true c, decide_eq_false (by omega)]; rfl
    · rw [decide_eq_false c]; rfl
  have hin : 0 ≤ u ∧ u < thr t → pndB MW (thr t) (nod n) u = pendB (cutI (peek MW (2 * nod n + 5 + 2 * thr t + 3 * u + 2)) 49 3) := by
    intro hv
    unfold pndB
    rw [ile_eq, ilt_eq, decide_eq_true hv.1, decide_eq_true hv.2]; rfl
  generalize peek MW (2 * nod n + 5 + 2 * thr t + 3 * u + 2) = PK at hpk hin ⊢
  generalize 2 * nod n + 5 + 2 * thr t + 3 * u + 2 = AD
  simp only [ieq_self, eqv_self, cond_true, true_and, and_true, Int.zero_add]
  refine cond_go (fun _ => trivial) (fun e1 => ⟨by omega, lt_go (fun h => ⟨by omega, ?_⟩) (fun h => le_go (fun g => ⟨by omega, ?_⟩) (fun g => ?_))⟩)
  · rw [hout u (.inl h)]; rfl
  · rw [hout u (.inr g)]; rfl
  · rw [hin ⟨h, g⟩]
    simp only [eqv_self, Bool.not_true, cond_false]
    repeat first
      | exact hpk
      | omega
      | refine ⟨by omega, ?_⟩
end Go.Sh

