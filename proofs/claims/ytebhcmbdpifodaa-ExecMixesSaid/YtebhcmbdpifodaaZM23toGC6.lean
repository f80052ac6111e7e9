import Derived.Test.YtebhcmbdpifodaaZM0toM22
set_option linter.all false
namespace Go.Sh
open Go Go.Proofs
variable [Con]
def awake14S : Spec Ob := fun args h => match args, h with
  | [], [] => some (.pre (True) (.ret (.bool true) ([])))
  | _, _ => none
theorem awake14_ok : Spec.ok E22.I Try.prog 5 awake14S := by
  intro args h o ho K hK
  unfold awake14S at ho
  split at ho
  case h_2 => cases ho
  skip
  simp only [Option.some.injEq] at ho; subst ho
  obtain ⟨hp, hK⟩ := hK
  have hK : K (.bool true) ([]) := hK
  refine CallOk.trim (callOk_of (E := E22) Try.checked.mixed (L := LL) (n := 10) (of_nf (q := True ∧ bif !rightB 2 2 then K (.bool false) [] else (((0 : Int) ≤ (2 : Int) ∧ (2 : Int) ≤ (100000 : Int)) ∧ (0 : Int) ≤ (2 : Int) ∧ (2 : Int) ≤ (100000 : Int)) ∧ ((((0 : Int) ≤ (2 : Int) ∧ (2 : Int) ≤ (100000 : Int)) ∧ (0 : Int) ≤ (2 : Int) ∧ (2 : Int) ≤ (100000 : Int)) ∧ True) ∧ ((0 : Int) ≤ (2 : Int) * 2 + 5 * 2 + 6 ∧ 2 * 2 + 5 * 2 + (6 : Int) = (2 : Int) * 2 + 5 * 2 + 6 ∧ 2 * 2 + 5 * 2 + (6 : Int) ≤ (4294967296 : Int)) ∧ ((0 : Int) ≤ (0 : Int) ∧ (0 : Int) < (↑1 : Int)) ∧ bif !rightT 3 5 0 then (20 = 20 ∧ (0 : Int) ≤ (0 : Int) ∧ (0 : Int) ≤ (4611686018427387904 : Int)) ∧ K (.bool false) [] else ((((0 : Int) ≤ (2 : Int) ∧ (2 : Int) ≤ (100000 : Int)) ∧ ((0 : Int) ≤ (2 : Int) ∧ (2 : Int) ≤ (100000 : Int)) ∧ (-1099511627776 : Int) ≤ (1 : Int) ∧ (1 : Int) ≤ (1099511627776 : Int)) ∧ True) ∧ ((20 = 20 ∧ (0 : Int) ≤ (0 : Int) ∧ (0 : Int) ≤ (4611686018427387904 : Int)) ∧ True) ∧ bif !rightT 3 5 0 then (20 = 20 ∧ (0 : Int) ≤ (0 : Int) + 1 ∧ 0 + (1 : Int) ≤ (4611686018427387904 : Int)) ∧ K (.bool false) [] else (((0 : Int) ≤ (2 : Int) ∧ (2 : Int) ≤ (100000 : Int)) ∧ (0 : Int) ≤ (2 : Int) ∧ (2 : Int) ≤ (100000 : Int)) ∧ (20 = 20 ∧ (0 : Int) ≤ (0 : Int) + 1 ∧ 0 + (1 : Int) ≤ (4611686018427387904 : Int)) ∧ bif !rightT 3 5 0 then (20 = 20 ∧ (0 : Int) ≤ (0 : Int) + 1 + 1 ∧ 0 + 1 + (1 : Int) ≤ (4611686018427387904 : Int)) ∧ K (.bool false) [] else ((((0 : Int) ≤ (2 : Int) ∧ (2 : Int) ≤ (100000 : Int)) ∧ ((0 : Int) ≤ (2 : Int) ∧ (2 : Int) ≤ (100000 : Int)) ∧ (-1099511627776 : Int) ≤ (1 : Int) ∧ (1 : Int) ≤ (1099511627776 : Int)) ∧ True) ∧ ((20 = 20 ∧ (0 : Int) ≤ (0 : Int) + 1 + 1 ∧ 0 + 1 + (1 : Int) ≤ (4611686018427387904 : Int)) ∧ True) ∧ bif !rightT 3 5 0 then (20 = 20 ∧ (0 : Int) ≤ (0 : Int) + 1 + 1 + 1 ∧ 0 + 1 + 1 + (1 : Int) ≤ (4611686018427387904 : Int)) ∧ K (.bool false) [] else ((((0 : Int) ≤ (2 : Int) ∧ (2 : Int) ≤ (100000 : Int)) ∧ ((0 : Int) ≤ (2 : Int) ∧ (2 : Int) ≤ (100000 : Int)) ∧ (-1099511627776 : Int) ≤ (1 : Int) ∧ (1 : Int) ≤ (1099511627776 : Int)) ∧ True) ∧ ((20 = 20 ∧ (0 : Int) ≤ (0 : Int) + 1 + 1 + 1 ∧ 0 + 1 + 1 + (1 : Int) ≤ (4611686018427387904 : Int)) ∧ True) ∧ bif !rightT 3 5 0 then (20 = 20 ∧ (0 : Int) ≤ (0 : Int) + 1 + 1 + 1 + 1 ∧ 0 + 1 + 1 + 1 + (1 : Int) ≤ (4611686018427387904 : Int)) ∧ (20 = 20 ∧ ((0 : Int) ≤ (2 : Int) ∧ (2 : Int) ≤ (100000 : Int)) ∧ (0 : Int) ≤ (2 : Int) ∧ (2 : Int) ≤ (100000 : Int)) ∧ bif pndB (putI (putI (putI (List.replicate (Int.toNat (2 * 2 + 5 * 2 + 6)) 0) (2 * 2 + 5 + 2 * 2 + 3 * 1 + 1) (bif rightT 3 5 0 then tskV 3 5 0 else 0)) (2 * 2 + 5 + 2 * 2 + 3 * 2) (WU (peek (putI (List.replicate (Int.toNat (2 * 2 + 5 * 2 + 6)) 0) (2 * 2 + 5 + 2 * 2 + 3 * 1 + 1) (bif rightT 3 5 0 then tskV 3 5 0 else 0)) (2 * 2 + 5 + 2 * 2 + 3 * 2) + 1))) (2 * 2 + 5 + 2 * 2 + 3 * 1) (WU (peek (putI (List.replicate (Int.toNat (2 * 2 + 5 * 2 + 6)) 0) (2 * 2 + 5 + 2 * 2 + 3 * 1 + 1) (bif rightT 3 5 0 then tskV 3 5 0 else 0)) (2 * 2 + 5 + 2 * 2 + 3 * 2) + 1))) 2 2 1 then (20 = 20 ∧ ((0 : Int) ≤ (2 : Int) ∧ (2 : Int) ≤ (100000 : Int)) ∧ (0 : Int) ≤ (2 : Int) ∧ (2 : Int) ≤ (100000 : Int)) ∧ bif !pndB (putI (putI (putI (List.replicate (Int.toNat (2 * 2 + 5 * 2 + 6)) 0) (2 * 2 + 5 + 2 * 2 + 3 * 1 + 1) (bif rightT 3 5 0 then tskV 3 5 0 else 0)) (2 * 2 + 5 + 2 * 2 + 3 * 2) (WU (peek (putI (List.replicate (Int.toNat (2 * 2 + 5 * 2 + 6)) 0) (2 * 2 + 5 + 2 * 2 + 3 * 1 + 1) (bif rightT 3 5 0 then tskV 3 5 0 else 0)) (2 * 2 + 5 + 2 * 2 + 3 * 2) + 1))) (2 * 2 + 5 + 2 * 2 + 3 * 1) (WU (peek (putI (List.replicate (Int.toNat (2 * 2 + 5 * 2 + 6)) 0) (2 * 2 + 5 + 2 * 2 + 3 * 1 + 1) (bif rightT 3 5 0 then tskV 3 5 0 else 0)) (2 * 2 + 5 + 2 * 2 + 3 * 2) + 1))) 2 2 0 then (((0 : Int) ≤ (2 : Int) ∧ (2 : Int) ≤ (100000 : Int)) ∧ ((0 : Int) ≤ (2 : Int) ∧ (2 : Int) ≤ (100000 : Int)) ∧ (-1099511627776 : Int) ≤ (1 : Int) ∧ (1 : Int) ≤ (1099511627776 : Int)) ∧ (20 = 20 ∧ True) ∧ ((0 : Int) ≤ peek (putI (putI (putI (List.replicate (Int.toNat (2 * 2 + 5 * 2 + 6)) 0) (2 * 2 + 5 + 2 * 2 + 3 * 1 + 1) (bif rightT 3 5 0 then tskV 3 5 0 else 0)) (2 * 2 + 5 + 2 * 2 + 3 * 2) (WU (peek (putI (List.replicate (Int.toNat (2 * 2 + 5 * 2 + 6)) 0) (2 * 2 + 5 + 2 * 2 + 3 * 1 + 1) (bif rightT 3 5 0 then tskV 3 5 0 else 0)) (2 * 2 + 5 + 2 * 2 + 3 * 2) + 1))) (2 * 2 + 5 + 2 * 2 + 3 * 1) (WU (peek (putI (List.replicate (Int.toNat (2 * 2 + 5 * 2 + 6)) 0) (2 * 2 + 5 + 2 * 2 + 3 * 1 + 1) (bif rightT 3 5 0 then tskV 3 5 0 else 0)) (2 * 2 + 5 + 2 * 2 + 3 * 2) + 1))) (2 * 2 + 5 + 2 * 2 + 3 * 1 + 2) ∧ peek (putI (putI (putI (List.replicate (Int.toNat (2 * 2 + 5 * 2 + 6)) 0) (2 * 2 + 5 + 2 * 2 + 3 * 1 + 1) (bif rightT 3 5 0 then tskV 3 5 0 else 0)) (2 * 2 + 5 + 2 * 2 + 3 * 2) (WU (peek (putI (List.replicate (Int.toNat (2 * 2 + 5 * 2 + 6)) 0) (2 * 2 + 5 + 2 * 2 + 3 * 1 + 1) (bif rightT 3 5 0 then tskV 3 5 0 else 0)) (2 * 2 + 5 + 2 * 2 + 3 * 2) + 1))) (2 * 2 + 5 + 2 * 2 + 3 * 1) (WU (peek (putI (List.replicate (Int.toNat (2 * 2 + 5 * 2 + 6)) 0) (2 * 2 + 5 + 2 * 2 + 3 * 1 + 1) (bif rightT 3 5 0 then tskV 3 5 0 else 0)) (2 * 2 + 5 + 2 * 2 + 3 * 2) + 1))) (2 * 2 + 5 + 2 * 2 + 3 * 1 + 2) ≤ (18446744073709551615 : Int)) ∧ K (.bool (ieq (cutI (peek (putI (putI (putI (List.replicate (Int.toNat (2 * 2 + 5 * 2 + 6)) 0) (2 * 2 + 5 + 2 * 2 + 3 * 1 + 1) (bif rightT 3 5 0 then tskV 3 5 0 else 0)) (2 * 2 + 5 + 2 * 2 + 3 * 2) (WU (peek (putI (List.replicate (Int.toNat (2 * 2 + 5 * 2 + 6)) 0) (2 * 2 + 5 + 2 * 2 + 3 * 1 + 1) (bif rightT 3 5 0 then tskV 3 5 0 else 0)) (2 * 2 + 5 + 2 * 2 + 3 * 2) + 1))) (2 * 2 + 5 + 2 * 2 + 3 * 1) (WU (peek (putI (List.replicate (Int.toNat (2 * 2 + 5 * 2 + 6)) 0) (2 * 2 + 5 + 2 * 2 + 3 * 1 + 1) (bif rightT 3 5 0 then tskV 3 5 0 else 0)) (2 * 2 + 5 + 2 * 2 + 3 * 2) + 1))) (2 * 2 + 5 + 2 * 2 + 3 * 1 + 2)) 0 12) 1)) [] else K (.bool false) [] else K (.bool false) [] else True ∧ ((0 : Int) ≤ cutI (peek (putI (putI (putI (List.replicate (Int.toNat (2 * 2 + 5 * 2 + 6)) 0) (2 * 2 + 5 + 2 * 2 + 3 * 1 + 1) (bif rightT 3 5 0 then tskV 3 5 0 else 0)) (2 * 2 + 5 + 2 * 2 + 3 * 2) (WU (peek (putI (List.replicate (Int.toNat (2 * 2 + 5 * 2 + 6)) 0) (2 * 2 + 5 + 2 * 2 + 3 * 1 + 1) (bif rightT 3 5 0 then tskV 3 5 0 else 0)) (2 * 2 + 5 + 2 * 2 + 3 * 2) + 1))) (2 * 2 + 5 + 2 * 2 + 3 * 1) (WU (peek (putI (List.replicate (Int.toNat (2 * 2 + 5 * 2 + 6)) 0) (2 * 2 + 5 + 2 * 2 + 3 * 1 + 1) (bif rightT 3 5 0 then tskV 3 5 0 else 0)) (2 * 2 + 5 + 2 * 2 + 3 * 2) + 1))) (2 * 2 + 5 + 2 * 2 + 3 * 1 + 2)) 0 12 ∧ cutI (peek (putI (putI (putI (List.replicate (Int.toNat (2 * 2 + 5 * 2 + 6)) 0) (2 * 2 + 5 + 2 * 2 + 3 * 1 + 1) (bif rightT 3 5 0 then tskV 3 5 0 else 0)) (2 * 2 + 5 + 2 * 2 + 3 * 2) (WU (peek (putI (List.replicate (Int.toNat (2 * 2 + 5 * 2 + 6)) 0) (2 * 2 + 5 + 2 * 2 + 3 * 1 + 1) (bif rightT 3 5 0 then tskV 3 5 0 else 0)) (2 * 2 + 5 + 2 * 2 + 3 * 2) + 1))) (2 * 2 + 5 + 2 * 2 + 3 * 1) (WU (peek (putI (List.replicate (Int.toNat (2 * 2 + 5 * 2 + 6)) 0) (2 * 2 + 5 + 2 * 2 + 3 * 1 + 1) (bif rightT 3 5 0 then tskV 3 5 0 else 0)) (2 * 2 + 5 + 2 * 2 + 3 * 2) + 1))) (2 * 2 + 5 + 2 * 2 + 3 * 1 + 2)) 0 (12 : Int) ≤ (1000000 : Int)) ∧ True ∧ ((((0 : Int) ≤ (2 : Int) ∧ (2 : Int) ≤ (100000 : Int)) ∧ ((0 : Int) ≤ (2 : Int) ∧ (2 : Int) ≤ (100000 : Int)) ∧ (-1099511627776 : Int) ≤ (1 : Int) ∧ (1 : Int) ≤ (1099511627776 : Int)) ∧ True) ∧ ((20 = 20 ∧ (0 : Int) ≤ (0 : Int) + 1 + 1 + 1 + 1 ∧ 0 + 1 + 1 + 1 + (1 : Int) ≤ (4611686018427387904 : Int)) ∧ True) ∧ (20 = 20 ∧ ((0 : Int) ≤ (2 : Int) ∧ (2 : Int) ≤ (100000 : Int)) ∧ (0 : Int) ≤ (2 : Int) ∧ (2 : Int) ≤ (100000 : Int)) ∧ bif pndB (putI (putI (putI (putI (List.replicate (Int.toNat (2 * 2 + 5 * 2 + 6)) 0) (2 * 2 + 5 + 2 * 2 + 3 * 1 + 1) (bif rightT 3 5 0 then tskV 3 5 0 else 0)) (2 * 2 + 5 + 2 * 2 + 3 * 2) (WU (peek (putI (List.replicate (Int.toNat (2 * 2 + 5 * 2 + 6)) 0) (2 * 2 + 5 + 2 * 2 + 3 * 1 + 1) (bif rightT 3 5 0 then tskV 3 5 0 else 0)) (2 * 2 + 5 + 2 * 2 + 3 * 2) + 1))) (2 * 2 + 5 + 2 * 2 + 3 * 1) (WU (peek (putI (List.replicate (Int.toNat (2 * 2 + 5 * 2 + 6)) 0) (2 * 2 + 5 + 2 * 2 + 3 * 1 + 1) (bif rightT 3 5 0 then tskV 3 5 0 else 0)) (2 * 2 + 5 + 2 * 2 + 3 * 2) + 1))) (2 * 2 + 5 + 2 * 2 + 3 * 1 + 2) (bif dOk (attI (cutI (peek (putI (putI (putI (List.replicate (Int.toNat (2 * 2 + 5 * 2 + 6)) 0) (2 * 2 + 5 + 2 * 2 + 3 * 1 + 1) (bif rightT 3 5 0 then tskV 3 5 0 else 0)) (2 * 2 + 5 + 2 * 2 + 3 * 2) (WU (peek (putI (List.replicate (Int.toNat (2 * 2 + 5 * 2 + 6)) 0) (2 * 2 + 5 + 2 * 2 + 3 * 1 + 1) (bif rightT 3 5 0 then tskV 3 5 0 else 0)) (2 * 2 + 5 + 2 * 2 + 3 * 2) + 1))) (2 * 2 + 5 + 2 * 2 + 3 * 1) (WU (peek (putI (List.replicate (Int.toNat (2 * 2 + 5 * 2 + 6)) 0) (2 * 2 + 5 + 2 * 2 + 3 * 1 + 1) (bif rightT 3 5 0 then tskV 3 5 0 else 0)) (2 * 2 + 5 + 2 * 2 + 3 * 2) + 1))) (2 * 2 + 5 + 2 * 2 + 3 * 1 + 2)) 0 12)) 0 0 0 1 0 then dPutV (attI (cutI (peek (putI (putI (putI (List.replicate (Int.toNat (2 * 2 + 5 * 2 + 6)) 0) (2 * 2 + 5 + 2 * 2 + 3 * 1 + 1) (bif rightT 3 5 0 then tskV 3 5 0 else 0)) (2 * 2 + 5 + 2 * 2 + 3 * 2) (WU (peek (putI (List.replicate (Int.toNat (2 * 2 + 5 * 2 + 6)) 0) (2 * 2 + 5 + 2 * 2 + 3 * 1 + 1) (bif rightT 3 5 0 then tskV 3 5 0 else 0)) (2 * 2 + 5 + 2 * 2 + 3 * 2) + 1))) (2 * 2 + 5 + 2 * 2 + 3 * 1) (WU (peek (putI (List.replicate (Int.toNat (2 * 2 + 5 * 2 + 6)) 0) (2 * 2 + 5 + 2 * 2 + 3 * 1 + 1) (bif rightT 3 5 0 then tskV 3 5 0 else 0)) (2 * 2 + 5 + 2 * 2 + 3 * 2) + 1))) (2 * 2 + 5 + 2 * 2 + 3 * 1 + 2)) 0 12)) 0 0 0 false 1 0 else 0)) 2 2 1 then (20 = 20 ∧ ((0 : Int) ≤ (2 : Int) ∧ (2 : Int) ≤ (100000 : Int)) ∧ (0 : Int) ≤ (2 : Int) ∧ (2 : Int) ≤ (100000 : Int)) ∧ bif !pndB (putI (putI (putI (putI (List.replicate (Int.toNat (2 * 2 + 5 * 2 + 6)) 0) (2 * 2 + 5 + 2 * 2 + 3 * 1 + 1) (bif rightT 3 5 0 then tskV 3 5 0 else 0)) (2 * 2 + 5 + 2 * 2 + 3 * 2) (WU (peek (putI (List.replicate (Int.toNat (2 * 2 + 5 * 2 + 6)) 0) (2 * 2 + 5 + 2 * 2 + 3 * 1 + 1) (bif rightT 3 5 0 then tskV 3 5 0 else 0)) (2 * 2 + 5 + 2 * 2 + 3 * 2) + 1))) (2 * 2 + 5 + 2 * 2 + 3 * 1) (WU (peek (putI (List.replicate (Int.toNat (2 * 2 + 5 * 2 + 6)) 0) (2 * 2 + 5 + 2 * 2 + 3 * 1 + 1) (bif rightT 3 5 0 then tskV 3 5 0 else 0)) (2 * 2 + 5 + 2 * 2 + 3 * 2) + 1))) (2 * 2 + 5 + 2 * 2 + 3 * 1 + 2) (bif dOk (attI (cutI (peek (putI (putI (putI (List.replicate (Int.toNat (2 * 2 + 5 * 2 + 6)) 0) (2 * 2 + 5 + 2 * 2 + 3 * 1 + 1) (bif rightT 3 5 0 then tskV 3 5 0 else 0)) (2 * 2 + 5 + 2 * 2 + 3 * 2) (WU (peek (putI (List.replicate (Int.toNat (2 * 2 + 5 * 2 + 6)) 0) (2 * 2 + 5 + 2 * 2 + 3 * 1 + 1) (bif rightT 3 5 0 then tskV 3 5 0 else 0)) (2 * 2 + 5 + 2 * 2 + 3 * 2) + 1))) (2 * 2 + 5 + 2 * 2 + 3 * 1) (WU (peek (putI (List.replicate (Int.toNat (2 * 2 + 5 * 2 + 6)) 0) (2 * 2 + 5 + 2 * 2 + 3 * 1 + 1) (bif rightT 3 5 0 then tskV 3 5 0 else 0)) (2 * 2 + 5 + 2 * 2 + 3 * 2) + 1))) (2 * 2 + 5 + 2 * 2 + 3 * 1 + 2)) 0 12)) 0 0 0 1 0 then dPutV (attI (cutI (peek (putI (putI (putI (List.replicate (Int.toNat (2 * 2 + 5 * 2 + 6)) 0) (2 * 2 + 5 + 2 * 2 + 3 * 1 + 1) (bif rightT 3 5 0 then tskV 3 5 0 else 0)) (2 * 2 + 5 + 2 * 2 + 3 * 2) (WU (peek (putI (List.replicate (Int.toNat (2 * 2 + 5 * 2 + 6)) 0) (2 * 2 + 5 + 2 * 2 + 3 * 1 + 1) (bif rightT 3 5 0 then tskV 3 5 0 else 0)) (2 * 2 + 5 + 2 * 2 + 3 * 2) + 1))) (2 * 2 + 5 + 2 * 2 + 3 * 1) (WU (peek (putI (List.replicate (Int.toNat (2 * 2 + 5 * 2 + 6)) 0) (2 * 2 + 5 + 2 * 2 + 3 * 1 + 1) (bif rightT 3 5 0 then tskV 3 5 0 else 0)) (2 * 2 + 5 + 2 * 2 + 3 * 2) + 1))) (2 * 2 + 5 + 2 * 2 + 3 * 1 + 2)) 0 12)) 0 0 0 false 1 0 else 0)) 2 2 0 then (((0 : Int) ≤ (2 : Int) ∧ (2 : Int) ≤ (100000 : Int)) ∧ ((0 : Int) ≤ (2 : Int) ∧ (2 : Int) ≤ (100000 : Int)) ∧ (-1099511627776 : Int) ≤ (1 : Int) ∧ (1 : Int) ≤ (1099511627776 : Int)) ∧ (20 = 20 ∧ True) ∧ ((0 : Int) ≤ peek (putI (putI (putI (putI (List.replicate (Int.toNat (2 * 2 + 5 * 2 + 6)) 0) (2 * 2 + 5 + 2 * 2 + 3 * 1 + 1) (bif rightT 3 5 0 then tskV 3 5 0 else 0)) (2 * 2 + 5 + 2 * 2 + 3 * 2) (WU (peek (putI (List.replicate (Int.toNat (2 * 2 + 5 * 2 + 6)) 0) (2 * 2 + 5 + 2 * 2 + 3 * 1 + 1) (bif rightT 3 5 0 then tskV 3 5 0 else 0)) (2 * 2 + 5 + 2 * 2 + 3 * 2) + 1))) (2 * 2 + 5 + 2 * 2 + 3 * 1) (WU (peek (putI (List.replicate (Int.toNat (2 * 2 + 5 * 2 + 6)) 0) (2 * 2 + 5 + 2 * 2 + 3 * 1 + 1) (bif rightT 3 5 0 then tskV 3 5 0 else 0)) (2 * 2 + 5 + 2 * 2 + 3 * 2) + 1))) (2 * 2 + 5 + 2 * 2 + 3 * 1 + 2) (bif dOk (attI (cutI (peek (putI (putI (putI (List.replicate (Int.toNat (2 * 2 + 5 * 2 + 6)) 0) (2 * 2 + 5 + 2 * 2 + 3 * 1 + 1) (bif rightT 3 5 0 then tskV 3 5 0 else 0)) (2 * 2 + 5 + 2 * 2 + 3 * 2) (WU (peek (putI (List.replicate (Int.toNat (2 * 2 + 5 * 2 + 6)) 0) (2 * 2 + 5 + 2 * 2 + 3 * 1 + 1) (bif rightT 3 5 0 then tskV 3 5 0 else 0)) (2 * 2 + 5 + 2 * 2 + 3 * 2) + 1))) (2 * 2 + 5 + 2 * 2 + 3 * 1) (WU (peek (putI (List.replicate (Int.toNat (2 * 2 + 5 * 2 + 6)) 0) (2 * 2 + 5 + 2 * 2 + 3 * 1 + 1) (bif rightT 3 5 0 then tskV 3 5 0 else 0)) (2 * 2 + 5 + 2 * 2 + 3 * 2) + 1))) (2 * 2 + 5 + 2 * 2 + 3 * 1 + 2)) 0 12)) 0 0 0 1 0 then dPutV (attI (cutI (peek (putI (putI (putI (List.replicate (Int.toNat (2 * 2 + 5 * 2 + 6)) 0) (2 * 2 + 5 + 2 * 2 + 3 * 1 + 1) (bif rightT 3 5 0 then tskV 3 5 0 else 0)) (2 * 2 + 5 + 2 * 2 + 3 * 2) (WU (peek (putI (List.replicate (Int.toNat (2 * 2 + 5 * 2 + 6)) 0) (2 * 2 + 5 + 2 * 2 + 3 * 1 + 1) (bif rightT 3 5 0 then tskV 3 5 0 else 0)) (2 * 2 + 5 + 2 * 2 + 3 * 2) + 1))) (2 * 2 + 5 + 2 * 2 + 3 * 1) (WU (peek (putI (List.replicate (Int.toNat (2 * 2 + 5 * 2 + 6)) 0) (2 * 2 + 5 + 2 * 2 + 3 * 1 + 1) (bif rightT 3 5 0 then tskV 3 5 0 else 0)) (2 * 2 + 5 + 2 * 2 + 3 * 2) + 1))) (2 * 2 + 5 + 2 * 2 + 3 * 1 + 2)) 0 12)) 0 0 0 false 1 0 else 0)) (2 * 2 + 5 + 2 * 2 + 3 * 1 + 2) ∧ peek (putI (putI (putI (putI (List.replicate (Int.toNat (2 * 2 + 5 * 2 + 6)) 0) (2 * 2 + 5 + 2 * 2 + 3 * 1 + 1) (bif rightT 3 5 0 then tskV 3 5 0 else 0)) (2 * 2 + 5 + 2 * 2 + 3 * 2) (WU (peek (putI (List.replicate (Int.toNat (2 * 2 + 5 * 2 + 6)) 0) (2 * 2 + 5 + 2 * 2 + 3 * 1 + 1) (bif rightT 3 5 0 then tskV 3 5 0 else 0)) (2 * 2 + 5 + 2 * 2 + 3 * 2) + 1))) (2 * 2 + 5 + 2 * 2 + 3 * 1) (WU (peek (putI (List.replicate (Int.toNat (2 * 2 + 5 * 2 + 6)) 0) (2 * 2 + 5 + 2 * 2 + 3 * 1 + 1) (bif rightT 3 5 0 then tskV 3 5 0 else 0)) (2 * 2 + 5 + 2 * 2 + 3 * 2) + 1))) (2 * 2 + 5 + 2 * 2 + 3 * 1 + 2) (bif dOk (attI (cutI (peek (putI (putI (putI (List.replicate (Int.toNat (2 * 2 + 5 * 2 + 6)) 0) (2 * 2 + 5 + 2 * 2 + 3 * 1 + 1) (bif rightT 3 5 0 then tskV 3 5 0 else 0)) (2 * 2 + 5 + 2 * 2 + 3 * 2) (WU (peek (putI (List.replicate (Int.toNat (2 * 2 + 5 * 2 + 6)) 0) (2 * 2 + 5 + 2 * 2 + 3 * 1 + 1) (bif rightT 3 5 0 then tskV 3 5 0 else 0)) (2 * 2 + 5 + 2 * 2 + 3 * 2) + 1))) (2 * 2 + 5 + 2 * 2 + 3 * 1) (WU (peek (putI (List.replicate (Int.toNat (2 * 2 + 5 * 2 + 6)) 0) (2 * 2 + 5 + 2 * 2 + 3 * 1 + 1) (bif rightT 3 5 0 then tskV 3 5 0 else 0)) (2 * 2 + 5 + 2 * 2 + 3 * 2) + 1))) (2 * 2 + 5 + 2 * 2 + 3 * 1 + 2)) 0 12)) 0 0 0 1 0 then dPutV (attI (cutI (peek (putI (putI (putI (List.replicate (Int.toNat (2 * 2 + 5 * 2 + 6)) 0) (2 * 2 + 5 + 2 * 2 + 3 * 1 + 1) (bif rightT 3 5 0 then tskV 3 5 0 else 0)) (2 * 2 + 5 + 2 * 2 + 3 * 2) (WU (peek (putI (List.replicate (Int.toNat (2 * 2 + 5 * 2 + 6)) 0) (2 * 2 + 5 + 2 * 2 + 3 * 1 + 1) (bif rightT 3 5 0 then tskV 3 5 0 else 0)) (2 * 2 + 5 + 2 * 2 + 3 * 2) + 1))) (2 * 2 + 5 + 2 * 2 + 3 * 1) (WU (peek (putI (List.replicate (Int.toNat (2 * 2 + 5 * 2 + 6)) 0) (2 * 2 + 5 + 2 * 2 + 3 * 1 + 1) (bif rightT 3 5 0 then tskV 3 5 0 else 0)) (2 * 2 + 5 + 2 * 2 + 3 * 2) + 1))) (2 * 2 + 5 + 2 * 2 + 3 * 1 + 2)) 0 12)) 0 0 0 false 1 0 else 0)) (2 * 2 + 5 + 2 * 2 + 3 * 1 + 2) ≤ (18446744073709551615 : Int)) ∧ K (.bool (ieq (cutI (peek (putI (putI (putI (putI (List.replicate (Int.toNat (2 * 2 + 5 * 2 + 6)) 0) (2 * 2 + 5 + 2 * 2 + 3 * 1 + 1) (bif rightT 3 5 0 then tskV 3 5 0 else 0)) (2 * 2 + 5 + 2 * 2 + 3 * 2) (WU (peek (putI (List.replicate (Int.toNat (2 * 2 + 5 * 2 + 6)) 0) (2 * 2 + 5 + 2 * 2 + 3 * 1 + 1) (bif rightT 3 5 0 then tskV 3 5 0 else 0)) (2 * 2 + 5 + 2 * 2 + 3 * 2) + 1))) (2 * 2 + 5 + 2 * 2 + 3 * 1) (WU (peek (putI (List.replicate (Int.toNat (2 * 2 + 5 * 2 + 6)) 0) (2 * 2 + 5 + 2 * 2 + 3 * 1 + 1) (bif rightT 3 5 0 then tskV 3 5 0 else 0)) (2 * 2 + 5 + 2 * 2 + 3 * 2) + 1))) (2 * 2 + 5 + 2 * 2 + 3 * 1 + 2) (bif dOk (attI (cutI (peek (putI (putI (putI (List.replicate (Int.toNat (2 * 2 + 5 * 2 + 6)) 0) (2 * 2 + 5 + 2 * 2 + 3 * 1 + 1) (bif rightT 3 5 0 then tskV 3 5 0 else 0)) (2 * 2 + 5 + 2 * 2 + 3 * 2) (WU (peek (putI (List.replicate (Int.toNat (2 * 2 + 5 * 2 + 6)) 0) (2 * 2 + 5 + 2 * 2 + 3 * 1 + 1) (bif rightT 3 5 0 then tskV 3 5 0 else 0)) (2 * 2 + 5 + 2 * 2 + 3 * 2) + 1))) (2 * 2 + 5 + 2 * 2 + 3 * 1) (WU (peek (putI (List.replicate (Int.toNat (2 * 2 + 5 * 2 + 6)) 0) (2 * 2 + 5 + 2 * 2 + 3 * 1 + 1) (bif rightT 3 5 0 then tskV 3 5 0 else 0)) (2 * 2 + 5 + 2 * 2 + 3 * 2) + 1))) (2 * 2 + 5 + 2 * 2 + 3 * 1 + 2)) 0 12)) 0 0 0 1 0 then dPutV (attI (cutI (peek (putI (putI (putI (List.replicate (Int.toNat (2 * 2 + 5 * 2 + 6)) 0) (2 * 2 + 5 + 2 * 2 + 3 * 1 + 1) (bif rightT 3 5 0 then tskV 3 5 0 else 0)) (2 * 2 + 5 + 2 * 2 + 3 * 2) (WU (peek (putI (List.replicate (Int.toNat (2 * 2 + 5 * 2 + 6)) 0) (2 * 2 + 5 + 2 * 2 + 3 * 1 + 1) (bif rightT 3 5 0 then tskV 3 5 0 else 0)) (2 * 2 + 5 + 2 * 2 + 3 * 2) + 1))) (2 * 2 + 5 + 2 * 2 + 3 * 1) (WU (peek (putI (List.replicate (Int.toNat (2 * 2 + 5 * 2 + 6)) 0) (2 * 2 + 5 + 2 * 2 + 3 * 1 + 1) (bif rightT 3 5 0 then tskV 3 5 0 else 0)) (2 * 2 + 5 + 2 * 2 + 3 * 2) + 1))) (2 * 2 + 5 + 2 * 2 + 3 * 1 + 2)) 0 12)) 0 0 0 false 1 0 else 0)) (2 * 2 + 5 + 2 * 2 + 3 * 1 + 2)) 0 12) 1)) [] else K (.bool false) [] else K (.bool false) []) (by kernel_rfl) ?_))
  repeat refine ⟨by first | trivial | decide | omega, ?_⟩
  exact hK
noncomputable def E23 := E22.addS 5 awake14S awake14_ok
end Go.Sh

namespace Go.Sh
open Go Go.Proofs
variable [Con]
noncomputable def E24 := (((((E23)))))
end Go.Sh

namespace Go.Sh
open Go Go.Proofs
variable [Con]
def backS : Spec Ob := fun args h => match args, h with
  | [.agg [.int .i64 t, .int .i64 n], .slice 0 0 k 1], [some (.ints (some .i64) xs)] => some (.pre (k = xs.length ∧ k ≤ 1000000) (.ret (.ptr 1 0) [some (.ints (some .i64) xs), some (.cells [.int .i64 t, .int .i64 n, .slice 2 0 xs.length 1]), some (.ints (some .i64) xs)]))
  | _, _ => none
noncomputable def E35a := (E24)
noncomputable def E35 := E35a
end Go.Sh

namespace Go.Sh
open Go Go.Proofs
variable [Con]
def memL (w : Nat) (h : Heap Ob) : Option (Nat × MS) := match h with
  | [some (.cells [.int .i64 t, .int .i64 n, .slice l 0 len 1, .int .i64 c, .int .i64 k, .int .i64 a, .int .u64 o, .int .u64 v, .bool ok]), some (.ints (some .u64) xs)] => if l = w then some (len, ⟨t, n, xs, c, k, a, o, v, ok⟩) else none
  | _ => none
theorem memL_eq {w : Nat} {h : Heap Ob} {l : Nat} {s : MS} (e : memL w h = some (l, s)) (hl : l = s.xs.length) : h = [some (.cells [.int .i64 s.t, .int .i64 s.n, .slice w 0 s.xs.length 1, .int .i64 s.c, .int .i64 s.k, .int .i64 s.a, .int .u64 s.o, .int .u64 s.w, .bool s.ok]), some (.ints (some .u64) s.xs)] := by
  unfold memL at e
  split at e
  · split at e
    · rename_i hw
      simp only [Option.some.injEq, Prod.mk.injEq] at e
      obtain ⟨rfl, rfl⟩ := e
      subst hw
      simp only at hl; subst hl; rfl
    · cases e
  · cases e
noncomputable def E36 := E35
end Go.Sh

namespace Go.Sh
open Go Go.Proofs
variable [Con]
noncomputable def E42 := E36
end Go.Sh

namespace Go.Sh
open Go Go.Proofs
variable [Con]
end Go.Sh

namespace Go.Sh
open Go Go.Proofs
variable [Con]
structure EO where
  d : Bool
  e : ENS
  st : STS
  s : MS
instance : Inhabited EO := ⟨⟨false, dENS, ⟨0, 0, []⟩, ⟨0, 0, [], 0, 0, 0, 0, 0, false⟩⟩⟩
abbrev memC (l : Nat) (s : MS) : Option (Entry Mc) := some (.cells [.int .i64 s.t, .int .i64 s.n, .slice l 0 s.xs.length 1, .int .i64 s.c, .int .i64 s.k, .int .i64 s.a, .int .u64 s.o, .int .u64 s.w, .bool s.ok])
abbrev memX (s : MS) : Option (Entry Mc) := some (.ints (some .u64) s.xs)
def enH (t n : Int) (e : ENS) (st : STS) (s : MS) : Heap Ob := [some (.abs (.ensure t n e) [1]), some (.abs (.store t n st) []), memC 3 s, memX s]
def EO.left (o : EO) (t n : Int) (K : AVal → Heap Ob → Prop) : Prop := K (.bool o.d) (enH t n o.e o.st o.s)
end Go.Sh

namespace Go.Sh
open Go Go.Proofs
variable [Con]
noncomputable def enE := E42
end Go.Sh

namespace Go.Sh
open Go Go.Proofs
variable [Con]
structure SO where
  d : Bool
  e : SWS
  st : STS
  s : MS
instance : Inhabited SO := ⟨⟨false, dSWS, ⟨0, 0, []⟩, ⟨0, 0, [], 0, 0, 0, 0, 0, false⟩⟩⟩
def swH (t n : Int) (y : SWS) (st : STS) (s : MS) : Heap Ob := [some (.abs (.sweep t n y) [1]), some (.abs (.store t n st) []), memC 3 s, memX s]
def SO.left (o : SO) (t n : Int) (K : AVal → Heap Ob → Prop) : Prop := K (.bool o.d) (swH t n o.e o.st o.s)
end Go.Sh

namespace Go.Sh
open Go Go.Proofs
variable [Con]
theorem wv {v w : AVal} {vs ws : List AVal} (h : w = v ∨ w = .top) (k : weakV vs ws) : weakV (v :: vs) (w :: ws) := ⟨h, k⟩
end Go.Sh

namespace Go.Sh
open Go Go.Proofs
variable [Con]
def stL (w : Nat) (h : Heap Ob) : Option (Nat × Int × Int × STS) := match h with
  | [some (.cells [.int .i64 t, .int .i64 n, .int .i64 me, .int .i64 sp, .slice l 0 len 1]), some (.ints (some .i64) xs)] => if l = w then some (len, t, n, ⟨me, sp, xs⟩) else none
  | _ => none
def linksB (kd : Int) : Bool := ieq kd 1 || ieq kd 4
def popsB (sh kd : Int) : Bool := ieq kd 5 && ieq sh 4
def headS : RSpec Ob := fun args h => match args, h with
  | [.agg [.int .i64 t, .int .i64 n], .int .i64 a], [] => some ((0 ≤ n ∧ n ≤ 100000) ∧ (-1000000 ≤ a ∧ a ≤ 1000000), .int .i64 (n + 1 + a))
  | _, _ => none
theorem head_ok : Spec.ok (obI tbl) Try.prog 43 headS.spec := by
  intro args h o ho K hK
  unfold RSpec.spec headS at ho
  split at ho
  case h_2 => cases ho
  rename_i p v hp
  split at hp
  case h_2 => cases hp
  rename_i t n a
  simp only [Option.some.injEq, Prod.mk.injEq] at hp
  obtain ⟨rfl, rfl⟩ := hp
  simp only [Option.some.injEq] at ho; subst ho
  obtain ⟨hp, hK⟩ := hK
  have hK : K (.int .i64 (n + 1 + a)) [] := hK
  refine CallOk.trim (callOk_of (E := enE) Try.checked.mixed (L := LL) (n := 10) (of_nf (q := K (.int .i64 (W (W (1 + n) + a))) []) (by kernel_rfl) ?_))
  simp (disch := omega) only [W, W_in]
  refine cast (congrArg (fun z => K (AVal.int .i64 z) []) ?_) hK
  omega
def wfreeS : RSpec Ob := fun args h => match args, h with
  | [.agg [.int .i64 k, .int .i64 y, .bool m, .int .i64 c, .int .i64 v]], [] => some (0 ≤ v ∧ v ≤ 1000000, .agg [.int .i64 k, .int .i64 y, .bool m, .int .i64 0, .int .i64 (newerI v)])
  | _, _ => none
theorem wfree_ok : Spec.ok (obI tbl) Try.prog 52 wfreeS.spec := by
  intro args h o ho K hK
  unfold RSpec.spec wfreeS at ho
  split at ho
  case h_2 => cases ho
  rename_i p v hp
  split at hp
  case h_2 => cases hp
  rename_i k y m c v
  simp only [Option.some.injEq, Prod.mk.injEq] at hp
  obtain ⟨rfl, rfl⟩ := hp
  simp only [Option.some.injEq] at ho; subst ho
  obtain ⟨hp, hK⟩ := hK
  have hK : K (.agg [.int .i64 k, .int .i64 y, .bool m, .int .i64 0, .int .i64 (newerI v)]) [] := hK
  refine CallOk.trim (callOk_of (E := enE) Try.checked.mixed (L := LL) (n := 10) (of_nf (q := K (.agg [.int .i64 k, .int .i64 y, .bool m, .int .i64 0, .int .i64 (W (↑(BitVec.toNat (BitVec.ofInt (IntKind.bits .i64) (W (v + 1)) &&& BitVec.ofInt (IntKind.bits .i64) 262143)) : Int))]) []) (by kernel_rfl) ?_))
  refine cast (congrArg (fun z => K (.agg [.int .i64 k, .int .i64 y, .bool m, .int .i64 0, .int .i64 z]) []) ?_) hK
  show newerI v = _
  have hb : IntKind.bits .i64 = 64 := rfl
  simp only [W]
  rw [hb, W_in (x := v + 1) (by omega)]
  have := and_mask (n := 64) (w := 18) (v + 1) (by omega)
  have e : (2 : Int) ^ 18 - 1 = 262143 := by decide
  rw [e] at this
  rw [this]
  have e2 : (2 : Int) ^ 18 = 262144 := by decide
  rw [e2, W_in (by omega)]
  rfl
def wclaimS : RSpec Ob := fun args h => match args, h with
  | [.agg [.int .i64 k, .int .i64 y, .bool m, .int .i64 c, .int .i64 v], .int .i64 b, .int .i64 x, .bool q], [] => some (-1000000 ≤ b ∧ b ≤ 1000000, .agg [.int .i64 k, .int .i64 x, .bool q, .int .i64 (b + 1), .int .i64 v])
  | _, _ => none
theorem wclaim_ok : Spec.ok (obI tbl) Try.prog 49 wclaimS.spec := by
  intro args h o ho K hK
  unfold RSpec.spec wclaimS at ho
  split at ho
  case h_2 => cases ho
  rename_i p v hp
  split at hp
  case h_2 => cases hp
  rename_i k y m c v b x q
  simp only [Option.some.injEq, Prod.mk.injEq] at hp
  obtain ⟨rfl, rfl⟩ := hp
  simp only [Option.some.injEq] at ho; subst ho
  obtain ⟨hp, hK⟩ := hK
  have hK : K (.agg [.int .i64 k, .int .i64 x, .bool q, .int .i64 (b + 1), .int .i64 v]) [] := hK
  refine CallOk.trim (callOk_of (E := enE) Try.checked.mixed (L := LL) (n := 10) (of_nf (q := K (.agg [.int .i64 k, .int .i64 x, .bool q, .int .i64 (W (b + 1)), .int .i64 v]) []) (by kernel_rfl) ?_))
  rw [W_id (by omega)]
  exact hK
def tlinksS : RSpec Ob := fun args h => match args, h with
  | [.agg [.int .i64 sh, .int .i64 kd, .int .i64 ky]], [] => some (True, .bool (linksB kd))
  | _, _ => none
theorem tlinks_ok : Spec.ok (obI tbl) Try.prog 23 tlinksS.spec := by
  intro args h o ho K hK
  unfold RSpec.spec tlinksS at ho
  split at ho
  case h_2 => cases ho
  rename_i p v hp
  split at hp
  case h_2 => cases hp
  rename_i sh kd ky
  simp only [Option.some.injEq, Prod.mk.injEq] at hp
  obtain ⟨rfl, rfl⟩ := hp
  simp only [Option.some.injEq] at ho; subst ho
  obtain ⟨hp, hK⟩ := hK
  have hK : K (.bool (linksB kd)) [] := hK
  refine CallOk.trim (callOk_of (E := enE) Try.checked.mixed (L := LL) (n := 10) (of_nf (q := bif ieq kd 1 then K (.bool true) [] else K (.bool (ieq kd 4)) []) (by kernel_rfl) ?_))
  unfold linksB at hK
  cases h : ieq kd 1 <;> rw [h] at hK <;> exact hK
def tpopsS : RSpec Ob := fun args h => match args, h with
  | [.agg [.int .i64 sh, .int .i64 kd, .int .i64 ky]], [] => some (True, .bool (popsB sh kd))
  | _, _ => none
theorem tpops_ok : Spec.ok (obI tbl) Try.prog 26 tpopsS.spec := by
  intro args h o ho K hK
  unfold RSpec.spec tpopsS at ho
  split at ho
  case h_2 => cases ho
  rename_i p v hp
  split at hp
  case h_2 => cases hp
  rename_i sh kd ky
  simp only [Option.some.injEq, Prod.mk.injEq] at hp
  obtain ⟨rfl, rfl⟩ := hp
  simp only [Option.some.injEq] at ho; subst ho
  obtain ⟨hp, hK⟩ := hK
  have hK : K (.bool (popsB sh kd)) [] := hK
  refine CallOk.trim (callOk_of (E := enE) Try.checked.mixed (L := LL) (n := 10) (of_nf (q := bif ieq kd 5 then K (.bool (ieq sh 4)) [] else K (.bool false) []) (by kernel_rfl) ?_))
  unfold popsB at hK
  cases h : ieq kd 5 <;> rw [h] at hK <;> exact hK
noncomputable def hasCS : Spec Ob := castSpec [(.slot 0, .ints (some .i64))] hasS.spec
theorem hasC_ok : Spec.ok (obI tbl) Try.prog 69 hasCS := castSpec_ok has_ok
noncomputable def EB0 := ((((((enE.addS 69 hasCS hasC_ok).addR 43 headS head_ok).addR 52 wfreeS wfree_ok).addR 49 wclaimS wclaim_ok).addR 23 tlinksS tlinks_ok).addR 26 tpopsS tpops_ok)
def isS : Spec Ob := fun args h => match args, h with
  | [.agg [.int .i64 a, .int .i64 b, .int .i64 c, .int .i64 d, .bool m, .int .i64 e, .int .i64 f], .slice 0 0 1 1], [some (.cells [.int .i64 s])] => some (.ret (.bool (hasB [s] e)) [some (.ints (some .i64) [s])])
  | _, _ => none
theorem is_ok : Spec.ok (obI tbl) Try.prog 64 isS := by
  intro args h o ho K hK
  unfold isS at ho
  split at ho
  case h_2 => cases ho
  rename_i a b c d m e f s
  simp only [Option.some.injEq] at ho; subst ho
  have hK : K (.bool (hasB [s] e)) [some (.ints (some .i64) [s])] := hK
  refine CallOk.trim (callOk_of (E := EB0) Try.checked.mixed (L := LL) (n := 10) (of_nf (q := (1 = 1 ∧ (1 : Nat) ≤ (4294967296 : Nat)) ∧ K (.bool (hasB [s] e)) [some (.ints (some .i64) [s])]) (by kernel_rfl) ?_))
  exact ⟨⟨rfl, by omega⟩, hK⟩
noncomputable def EB0b := EB0.addS 64 isS is_ok
def dwithS : RSpec Ob := fun args h => match args, h with
  | [.agg [.int .i64 a, .int .i64 b, .int .i64 c, .int .i64 d, .bool m, .int .i64 e, .int .i64 f], .int .i64 g], [] => some (True, .agg [.int .i64 a, .int .i64 b, .int .i64 c, .int .i64 d, .bool m, .int .i64 g, .int .i64 f])
  | _, _ => none
theorem dwith_ok : Spec.ok (obI tbl) Try.prog 51 dwithS.spec := by
  intro args h o ho K hK
  unfold RSpec.spec dwithS at ho
  split at ho
  case h_2 => cases ho
  rename_i p v hp
  split at hp
  case h_2 => cases hp
  rename_i a b c d m e f g
  simp only [Option.some.injEq, Prod.mk.injEq] at hp
  obtain ⟨rfl, rfl⟩ := hp
  simp only [Option.some.injEq] at ho; subst ho
  obtain ⟨hp, hK⟩ := hK
  have hK : K (.agg [.int .i64 a, .int .i64 b, .int .i64 c, .int .i64 d, .bool m, .int .i64 g, .int .i64 f]) [] := hK
  refine CallOk.trim (callOk_of (E := EB0b) Try.checked.mixed (L := LL) (n := 10) (of_nf (q := K (.agg [.int .i64 a, .int .i64 b, .int .i64 c, .int .i64 d, .bool m, .int .i64 g, .int .i64 f]) []) (by kernel_rfl) ?_))
  exact hK
noncomputable def EB0c := (EB0b).addR 51 dwithS dwith_ok
end Go.Sh

namespace Go.Sh
open Go Go.Proofs
variable [Con]
noncomputable def EB1 := (EB0c)
noncomputable def EB2 := (((EB1)))
end Go.Sh

namespace Go.Sh
open Go Go.Proofs
variable [Con]
abbrev enDC (x : ENS) : Entry Mc := .cells [.ptr 1 0, .bool x.sh, .top, .top, .bool x.dn]
def EO.fin (t n : Int) (y : EO) : Out Ob := .ite y.d (.ret (.bool true) [some (enDC y.e), some (.abs (.store t n y.st) []), memC 3 y.s, memX y.s]) (.ret (.bool false) [some (.abs (.ensure t n y.e) [1]), some (.abs (.store t n y.st) []), memC 3 y.s, memX y.s])
abbrev swDC (x : SWS) : Entry Mc := .cells [.ptr 1 0, .top]
def SO.fin (t n : Int) (y : SO) : Out Ob := .ite y.d (.ret (.bool true) [some (swDC y.e), some (.abs (.store t n y.st) []), memC 3 y.s, memX y.s]) (.ret (.bool false) [some (.abs (.sweep t n y.e) [1]), some (.abs (.store t n y.st) []), memC 3 y.s, memX y.s])
noncomputable def EB3 := (((EB2)))
end Go.Sh

namespace Go.Sh
open Go Go.Proofs
variable [Con]
structure ClO where
  d : Bool
  x : CLS
  s : MS
instance : Inhabited ClO := ⟨⟨false, ⟨0, 0, 0, 0⟩, ⟨0, 0, [], 0, 0, 0, 0, 0, false⟩⟩⟩
instance : Inhabited CLS := ⟨⟨0, 0, 0, 0⟩⟩
abbrev clH (t n : Int) (x : CLS) (s : MS) : Heap Ob := [some (.abs (.clear t n x) []), memC 2 s, memX s]
abbrev clD (t n : Int) (x : CLS) (s : MS) : Heap Ob := [some (.cells [.int .i64 t, .int .i64 n, .int .i64 x.addr, .int .i64 x.at', .int .u64 x.word, .int .u64 x.found]), memC 2 s, memX s]
def ClO.fin (t n : Int) (y : ClO) : Out Ob := .ite y.d (.ret (.bool true) (clD t n y.x y.s)) (.ret (.bool false) (clH t n y.x y.s))
noncomputable def EC1 := ((EB3))
end Go.Sh

namespace Go.Sh
open Go Go.Proofs
variable [Con]
noncomputable def EQ1 := ((EC1))
noncomputable def EQ2 := EQ1
end Go.Sh

namespace Go.Sh
open Go Go.Proofs
variable [Con]
noncomputable def EQ := EQ2
end Go.Sh

namespace Go.Sh
open Go Go.Proofs
variable [Con]
structure HdO where
  d : Bool
  x : HDS
  s : MS
instance : Inhabited HdO := ⟨⟨false, ⟨0, 0, 0, false⟩, ⟨0, 0, [], 0, 0, 0, 0, 0, false⟩⟩⟩
instance : Inhabited HDS := ⟨⟨0, 0, 0, false⟩⟩
abbrev hdH (t n : Int) (x : HDS) (s : MS) : Heap Ob := [some (.abs (.head t n x) []), memC 2 s, memX s]
abbrev hdD (t n : Int) (x : HDS) (s : MS) : Heap Ob := [some (.cells [.int .i64 t, .int .i64 n, .int .i64 x.u, .int .u64 x.no, .int .i64 x.at', .bool x.tk]), memC 2 s, memX s]
def HdO.fin (t n : Int) (y : HdO) : Out Ob := .ite y.d (.ret (.bool true) (hdD t n y.x y.s)) (.ret (.bool false) (hdH t n y.x y.s))
noncomputable def EC2 := ((EQ))
end Go.Sh

namespace Go.Sh
open Go Go.Proofs
variable [Con]
structure DrO where
  d : Bool
  x : DRS
  s : MS
instance : Inhabited DrO := ⟨⟨false, ⟨0, 0⟩, ⟨0, 0, [], 0, 0, 0, 0, 0, false⟩⟩⟩
instance : Inhabited DRS := ⟨⟨0, 0⟩⟩
abbrev drH (t n : Int) (x : DRS) (s : MS) : Heap Ob := [some (.abs (.drop t n x) []), memC 2 s, memX s]
abbrev drD (t n : Int) (x : DRS) (s : MS) : Heap Ob := [some (.cells [.int .i64 t, .int .i64 n, .int .i64 x.th, .int .i64 x.at']), memC 2 s, memX s]
def DrO.fin (t n : Int) (y : DrO) : Out Ob := .ite y.d (.ret (.bool true) (drD t n y.x y.s)) (.ret (.bool false) (drH t n y.x y.s))
noncomputable def EC3 := ((EC2))
end Go.Sh

namespace Go.Sh
open Go Go.Proofs
variable [Con]
structure AnO where
  d : Bool
  x : ANS
  s : MS
instance : Inhabited AnO := ⟨⟨false, ⟨0, 0, 0, 0, false, 0⟩, ⟨0, 0, [], 0, 0, 0, 0, 0, false⟩⟩⟩
instance : Inhabited ANS := ⟨⟨0, 0, 0, 0, false, 0⟩⟩
abbrev anH (t n : Int) (x : ANS) (s : MS) : Heap Ob := [some (.abs (.announce t n x) []), memC 2 s, memX s]
abbrev anD (t n : Int) (x : ANS) (s : MS) : Heap Ob := [some (.cells [.int .i64 t, .int .i64 n, .int .u64 x.no, .int .i64 x.me, .int .i64 x.at', .int .u64 x.bits, .bool x.wrong, .int .u64 x.found]), memC 2 s, memX s]
def AnO.fin (t n : Int) (y : AnO) : Out Ob := .ite y.d (.ret (.bool true) (anD t n y.x y.s)) (.ret (.bool false) (anH t n y.x y.s))
def anP0 (t n : Int) (v : AVal) (g : Heap Ob) : Option (Prop × AnO) := match v, g with
  | .bool d, [some (.cells [.int .i64 t1, .int .i64 n1, .int .u64 no, .int .i64 me, .int .i64 at', .int .u64 bits, .bool wrong, .int .u64 found]), e1, e2] => (match memL 2 [e1, e2] with
    | some (l, s) => some ((t1 = t ∧ n1 = n) ∧ l = s.xs.length, ⟨d, ⟨no, me, at', bits, wrong, found⟩, s⟩)
    | none => none)
  | _, _ => none
def anP (t n : Int) (v : AVal) (g : Heap Ob) : Option (Prop × AnO) := anP0 t n v g
theorem anP0_ok {t n : Int} : Reads (obI tbl) 3 (anP0 t n) (AnO.fin t n) := by
  intro v g p x hp hq K hK
  unfold anP0 at hp
  split at hp
  case h_2 => cases hp
  rename_i d t1 n1 no me at' bits wrong found e1 e2
  split at hp
  case h_2 => cases hp
  rename_i l s hm
  simp only [Option.some.injEq, Prod.mk.injEq] at hp
  obtain ⟨rfl, rfl⟩ := hp
  obtain ⟨⟨rfl, rfl⟩, hl⟩ := hq
  have hh := memL_eq hm hl
  simp only [List.cons.injEq, and_true] at hh
  obtain ⟨rfl, rfl⟩ := hh
  refine read2 hK (fun h => ?_) (fun h => ?_)
  · exact ⟨⟨_, _, Tells.refl _ _ _, h⟩⟩
  · exact ⟨⟨_, _, (Tells.pack (anH t1 n1 (⟨no, me, at', bits, wrong, found⟩ : ANS) s) (.announce t1 n1 (⟨no, me, at', bits, wrong, found⟩ : ANS)) 0 0 (announceG0 t1 n1 (⟨no, me, at', bits, wrong, found⟩ : ANS)) [] (by kernel_rfl) rfl (congrArg (Prod.mk 0) rfl) (by kernel_rfl)), h⟩⟩
theorem anP_ok {t n : Int} : Reads (obI tbl) 3 (anP t n) (AnO.fin t n) := by
  intro v g p x hp hq K hK
  unfold anP at hp
  exact anP0_ok v g p x hp hq K hK
def anT_0 (t n : Int) (x : ANS) (s : MS) : Tr AnO := .ite x.5 (.pre (List.length s.3 = List.length s.3 ∧ (0 : Int) ≤ s.4 ∧ s.4 ≤ (4611686018427387904 : Int)) (.pre ((t = t ∧ n = n) ∧ List.length s.3 = List.length s.3) (.ret { d := true, x := { no := x.1, me := x.2, at' := 0, bits := x.4, wrong := x.5, found := x.6 }, s := { t := s.1, n := s.2, xs := s.3, c := s.4 + 1, k := 1, a := 0, o := peek s.3 0, w := peek s.3 0, ok := inB s.3 0 } }))) (.pre ((((0 : Int) ≤ t ∧ t ≤ (100000 : Int)) ∧ ((0 : Int) ≤ n ∧ n ≤ (100000 : Int)) ∧ (-1099511627776 : Int) ≤ x.2 ∧ x.2 ≤ (1099511627776 : Int)) ∧ True) (.pre ((List.length s.3 = List.length s.3 ∧ (0 : Int) ≤ s.4 ∧ s.4 ≤ (4611686018427387904 : Int)) ∧ True) (.pre ((t = t ∧ n = n) ∧ List.length (putI s.3 (2 * n + 5 + 2 * t + 3 * x.2 + 1) x.4) = List.length (putI s.3 (2 * n + 5 + 2 * t + 3 * x.2 + 1) x.4)) (.ret { d := false, x := { no := x.1, me := x.2, at' := W (0 + 1), bits := x.4, wrong := x.5, found := x.6 }, s := { t := s.1, n := s.2, xs := putI s.3 (2 * n + 5 + 2 * t + 3 * x.2 + 1) x.4, c := s.4 + 1, k := 2, a := 2 * n + 5 + 2 * t + 3 * x.2 + 1, o := peek s.3 (2 * n + 5 + 2 * t + 3 * x.2 + 1), w := bif inB s.3 (2 * n + 5 + 2 * t + 3 * x.2 + 1) then x.4 else 0, ok := inB s.3 (2 * n + 5 + 2 * t + 3 * x.2 + 1) } }))))
theorem anT_0_sum (t n : Int) (x : ANS) (s : MS) (K : AnO → Prop) (h : (anT_0 t n x s).run K) : CallOk (obI tbl) Try.prog 9 [.ptr 0 0, .ptr 1 0] [some (.cells [.int .i64 t, .int .i64 n, .int .u64 x.no, .int .i64 x.me, .int .i64 0, .int .u64 x.bits, .bool x.wrong, .int .u64 x.found]), memC 2 s, memX s] (LeafM 3 0 [] [] (anP t n) K) := by
  exact callOk_of (E := EC3) Try.checked.mixed (L := LL) (n := 10) (of_nf (q := (anT_0 t n x s).run K) (by kernel_rfl) h)
def anT_1 (t n : Int) (x : ANS) (s : MS) : Tr AnO := .ite x.5 (.pre (List.length s.3 = List.length s.3 ∧ (0 : Int) ≤ s.4 ∧ s.4 ≤ (4611686018427387904 : Int)) (.pre ((t = t ∧ n = n) ∧ List.length s.3 = List.length s.3) (.ret { d := true, x := { no := x.1, me := x.2, at' := 1, bits := x.4, wrong := x.5, found := x.6 }, s := { t := s.1, n := s.2, xs := s.3, c := s.4 + 1, k := 1, a := 0, o := peek s.3 0, w := peek s.3 0, ok := inB s.3 0 } }))) (.pre (((0 : Int) ≤ t ∧ t ≤ (100000 : Int)) ∧ (0 : Int) ≤ n ∧ n ≤ (100000 : Int)) (.pre (List.length s.3 = List.length s.3 ∧ (0 : Int) ≤ s.4 ∧ s.4 ≤ (4611686018427387904 : Int)) (.pre ((t = t ∧ n = n) ∧ List.length (putI s.3 (2 * n + 5 + 2 * t + 3 * t) (WU (peek s.3 (2 * n + 5 + 2 * t + 3 * t) + 1))) = List.length (putI s.3 (2 * n + 5 + 2 * t + 3 * t) (WU (peek s.3 (2 * n + 5 + 2 * t + 3 * t) + 1)))) (.ret { d := false, x := { no := WU (peek s.3 (2 * n + 5 + 2 * t + 3 * t) + 1), me := x.2, at' := W (1 + 1), bits := x.4, wrong := x.5, found := x.6 }, s := { t := s.1, n := s.2, xs := putI s.3 (2 * n + 5 + 2 * t + 3 * t) (WU (peek s.3 (2 * n + 5 + 2 * t + 3 * t) + 1)), c := s.4 + 1, k := 4, a := 2 * n + 5 + 2 * t + 3 * t, o := peek s.3 (2 * n + 5 + 2 * t + 3 * t), w := bif inB s.3 (2 * n + 5 + 2 * t + 3 * t) then WU (peek s.3 (2 * n + 5 + 2 * t + 3 * t) + 1) else 0, ok := inB s.3 (2 * n + 5 + 2 * t + 3 * t) } }))))
theorem anT_1_sum (t n : Int) (x : ANS) (s : MS) (K : AnO → Prop) (h : (anT_1 t n x s).run K) : CallOk (obI tbl) Try.prog 9 [.ptr 0 0, .ptr 1 0] [some (.cells [.int .i64 t, .int .i64 n, .int .u64 x.no, .int .i64 x.me, .int .i64 1, .int .u64 x.bits, .bool x.wrong, .int .u64 x.found]), memC 2 s, memX s] (LeafM 3 0 [] [] (anP t n) K) := by
  exact callOk_of (E := EC3) Try.checked.mixed (L := LL) (n := 10) (of_nf (q := (anT_1 t n x s).run K) (by kernel_rfl) h)
def anT_2 (t n : Int) (x : ANS) (s : MS) : Tr AnO := .ite x.5 (.pre (List.length s.3 = List.length s.3 ∧ (0 : Int) ≤ s.4 ∧ s.4 ≤ (4611686018427387904 : Int)) (.pre ((t = t ∧ n = n) ∧ List.length s.3 = List.length s.3) (.ret { d := true, x := { no := x.1, me := x.2, at' := 2, bits := x.4, wrong := x.5, found := x.6 }, s := { t := s.1, n := s.2, xs := s.3, c := s.4 + 1, k := 1, a := 0, o := peek s.3 0, w := peek s.3 0, ok := inB s.3 0 } }))) (.pre ((((0 : Int) ≤ t ∧ t ≤ (100000 : Int)) ∧ ((0 : Int) ≤ n ∧ n ≤ (100000 : Int)) ∧ (-1099511627776 : Int) ≤ x.2 ∧ x.2 ≤ (1099511627776 : Int)) ∧ True) (.pre ((List.length s.3 = List.length s.3 ∧ (0 : Int) ≤ s.4 ∧ s.4 ≤ (4611686018427387904 : Int)) ∧ True) (.pre ((t = t ∧ n = n) ∧ List.length (putI s.3 (2 * n + 5 + 2 * t + 3 * x.2) x.1) = List.length (putI s.3 (2 * n + 5 + 2 * t + 3 * x.2) x.1)) (.ret { d := false, x := { no := x.1, me := x.2, at' := W (2 + 1), bits := x.4, wrong := x.5, found := x.6 }, s := { t := s.1, n := s.2, xs := putI s.3 (2 * n + 5 + 2 * t + 3 * x.2) x.1, c := s.4 + 1, k := 2, a := 2 * n + 5 + 2 * t + 3 * x.2, o := peek s.3 (2 * n + 5 + 2 * t + 3 * x.2), w := bif inB s.3 (2 * n + 5 + 2 * t + 3 * x.2) then x.1 else 0, ok := inB s.3 (2 * n + 5 + 2 * t + 3 * x.2) } }))))
theorem anT_2_sum (t n : Int) (x : ANS) (s : MS) (K : AnO → Prop) (h : (anT_2 t n x s).run K) : CallOk (obI tbl) Try.prog 9 [.ptr 0 0, .ptr 1 0] [some (.cells [.int .i64 t, .int .i64 n, .int .u64 x.no, .int .i64 x.me, .int .i64 2, .int .u64 x.bits, .bool x.wrong, .int .u64 x.found]), memC 2 s, memX s] (LeafM 3 0 [] [] (anP t n) K) := by
  exact callOk_of (E := EC3) Try.checked.mixed (L := LL) (n := 10) (of_nf (q := (anT_2 t n x s).run K) (by kernel_rfl) h)
def anT_3 (t n : Int) (x : ANS) (s : MS) : Tr AnO := .ite x.5 (.pre (List.length s.3 = List.length s.3 ∧ (0 : Int) ≤ s.4 ∧ s.4 ≤ (4611686018427387904 : Int)) (.pre ((t = t ∧ n = n) ∧ List.length s.3 = List.length s.3) (.ret { d := true, x := { no := x.1, me := x.2, at' := 3, bits := x.4, wrong := x.5, found := x.6 }, s := { t := s.1, n := s.2, xs := s.3, c := s.4 + 1, k := 1, a := 0, o := peek s.3 0, w := peek s.3 0, ok := inB s.3 0 } }))) (.pre ((((0 : Int) ≤ t ∧ t ≤ (100000 : Int)) ∧ ((0 : Int) ≤ n ∧ n ≤ (100000 : Int)) ∧ (-1099511627776 : Int) ≤ x.2 ∧ x.2 ≤ (1099511627776 : Int)) ∧ True) (.pre ((List.length s.3 = List.length s.3 ∧ (0 : Int) ≤ s.4 ∧ s.4 ≤ (4611686018427387904 : Int)) ∧ True) (.pre ((t = t ∧ n = n) ∧ List.length s.3 = List.length s.3) (.ret { d := false, x := { no := x.1, me := x.2, at' := W (3 + 1), bits := x.4, wrong := x.5, found := peek s.3 (2 * n + 5 + 2 * t + 3 * x.2 + 2) }, s := { t := s.1, n := s.2, xs := s.3, c := s.4 + 1, k := 1, a := 2 * n + 5 + 2 * t + 3 * x.2 + 2, o := peek s.3 (2 * n + 5 + 2 * t + 3 * x.2 + 2), w := peek s.3 (2 * n + 5 + 2 * t + 3 * x.2 + 2), ok := inB s.3 (2 * n + 5 + 2 * t + 3 * x.2 + 2) } }))))
theorem anT_3_sum (t n : Int) (x : ANS) (s : MS) (K : AnO → Prop) (h : (anT_3 t n x s).run K) : CallOk (obI tbl) Try.prog 9 [.ptr 0 0, .ptr 1 0] [some (.cells [.int .i64 t, .int .i64 n, .int .u64 x.no, .int .i64 x.me, .int .i64 3, .int .u64 x.bits, .bool x.wrong, .int .u64 x.found]), memC 2 s, memX s] (LeafM 3 0 [] [] (anP t n) K) := by
  exact callOk_of (E := EC3) Try.checked.mixed (L := LL) (n := 10) (of_nf (q := (anT_3 t n x s).run K) (by kernel_rfl) h)
def anT_4 (t n : Int) (x : ANS) (s : MS) : Tr AnO := .ite x.5 (.pre (List.length s.3 = List.length s.3 ∧ (0 : Int) ≤ s.4 ∧ s.4 ≤ (4611686018427387904 : Int)) (.pre ((t = t ∧ n = n) ∧ List.length s.3 = List.length s.3) (.ret { d := true, x := { no := x.1, me := x.2, at' := 4, bits := x.4, wrong := x.5, found := x.6 }, s := { t := s.1, n := s.2, xs := s.3, c := s.4 + 1, k := 1, a := 0, o := peek s.3 0, w := peek s.3 0, ok := inB s.3 0 } }))) (.pre True (.pre ((0 : Int) ≤ cutI x.6 0 12 ∧ cutI x.6 0 (12 : Int) ≤ (1000000 : Int)) (.pre True (.pre ((((0 : Int) ≤ t ∧ t ≤ (100000 : Int)) ∧ ((0 : Int) ≤ n ∧ n ≤ (100000 : Int)) ∧ (-1099511627776 : Int) ≤ x.2 ∧ x.2 ≤ (1099511627776 : Int)) ∧ True) (.pre ((List.length s.3 = List.length s.3 ∧ (0 : Int) ≤ s.4 ∧ s.4 ≤ (4611686018427387904 : Int)) ∧ True) (.pre ((t = t ∧ n = n) ∧ List.length (putI s.3 (2 * n + 5 + 2 * t + 3 * x.2 + 2) (bif dOk (attI (cutI x.6 0 12)) 0 0 0 1 0 then dPutV (attI (cutI x.6 0 12)) 0 0 0 false 1 0 else 0)) = List.length (putI s.3 (2 * n + 5 + 2 * t + 3 * x.2 + 2) (bif dOk (attI (cutI x.6 0 12)) 0 0 0 1 0 then dPutV (attI (cutI x.6 0 12)) 0 0 0 false 1 0 else 0))) (.ret { d := true, x := { no := x.1, me := x.2, at' := W (4 + 1), bits := x.4, wrong := x.5, found := x.6 }, s := { t := s.1, n := s.2, xs := putI s.3 (2 * n + 5 + 2 * t + 3 * x.2 + 2) (bif dOk (attI (cutI x.6 0 12)) 0 0 0 1 0 then dPutV (attI (cutI x.6 0 12)) 0 0 0 false 1 0 else 0), c := s.4 + 1, k := 2, a := 2 * n + 5 + 2 * t + 3 * x.2 + 2, o := peek s.3 (2 * n + 5 + 2 * t + 3 * x.2 + 2), w := bif inB s.3 (2 * n + 5 + 2 * t + 3 * x.2 + 2) then bif dOk (attI (cutI x.6 0 12)) 0 0 0 1 0 then dPutV (attI (cutI x.6 0 12)) 0 0 0 false 1 0 else 0 else 0, ok := inB s.3 (2 * n + 5 + 2 * t + 3 * x.2 + 2) } })))))))
theorem anT_4_sum (t n : Int) (x : ANS) (s : MS) (K : AnO → Prop) (h : (anT_4 t n x s).run K) : CallOk (obI tbl) Try.prog 9 [.ptr 0 0, .ptr 1 0] [some (.cells [.int .i64 t, .int .i64 n, .int .u64 x.no, .int .i64 x.me, .int .i64 4, .int .u64 x.bits, .bool x.wrong, .int .u64 x.found]), memC 2 s, memX s] (LeafM 3 0 [] [] (anP t n) K) := by
  exact callOk_of (E := EC3) Try.checked.mixed (L := LL) (n := 10) (of_nf (q := (anT_4 t n x s).run K) (by kernel_rfl) h)
def anT (t n : Int) (x : ANS) (s : MS) : Tr AnO :=
  bif ieq x.at' 0 then anT_0 t n x s else
  bif ieq x.at' 1 then anT_1 t n x s else
  bif ieq x.at' 2 then anT_2 t n x s else
  bif ieq x.at' 3 then anT_3 t n x s else
  bif ieq x.at' 4 then anT_4 t n x s else .pre False (.ret default)
def anF (t n : Int) (x : ANS) (s : MS) : AnO := (anT t n x s).val
def anOk (t n : Int) (x : ANS) (s : MS) : Prop := (anT t n x s).ok
theorem an_step (t n : Int) (x : ANS) (s : MS) (K : AVal → Heap Ob → Prop) (h : (anT t n x s).run (fun y => (AnO.fin t n y).run K)) : CallOk (obI tbl) Try.prog 9 [.ptr 0 0, .ptr 1 0] (anH t n x s) K := by
  unfold anT at h
  by_cases e : x.at' = 0
  · rw [e] at h
    have h : (anT_0 t n x s).run _ := h
    refine CallOk.openM (root := 0) (pos := []) (cs := []) (parse := anP t n) (fin := AnO.fin t n) anP_ok (Opens.unpack (.announce t n x) 0 0 (announceG0 t n x) [] rfl (congrArg (Prod.mk 0) rfl) (by kernel_rfl) rfl) ?_
    have q := anT_0_sum t n x s _ h
    rw [← e] at q
    exact q
  rw [ieq_n e] at h
  by_cases e : x.at' = 1
  · rw [e] at h
    have h : (anT_1 t n x s).run _ := h
    refine CallOk.openM (root := 0) (pos := []) (cs := []) (parse := anP t n) (fin := AnO.fin t n) anP_ok (Opens.unpack (.announce t n x) 0 0 (announceG0 t n x) [] rfl (congrArg (Prod.mk 0) rfl) (by kernel_rfl) rfl) ?_
    have q := anT_1_sum t n x s _ h
    rw [← e] at q
    exact q
  rw [ieq_n e] at h
  by_cases e : x.at' = 2
  · rw [e] at h
    have h : (anT_2 t n x s).run _ := h
    refine CallOk.openM (root := 0) (pos := []) (cs := []) (parse := anP t n) (fin := AnO.fin t n) anP_ok (Opens.unpack (.announce t n x) 0 0 (announceG0 t n x) [] rfl (congrArg (Prod.mk 0) rfl) (by kernel_rfl) rfl) ?_
    have q := anT_2_sum t n x s _ h
    rw [← e] at q
    exact q
  rw [ieq_n e] at h
  by_cases e : x.at' = 3
  · rw [e] at h
    have h : (anT_3 t n x s).run _ := h
    refine CallOk.openM (root := 0) (pos := []) (cs := []) (parse := anP t n) (fin := AnO.fin t n) anP_ok (Opens.unpack (.announce t n x) 0 0 (announceG0 t n x) [] rfl (congrArg (Prod.mk 0) rfl) (by kernel_rfl) rfl) ?_
    have q := anT_3_sum t n x s _ h
    rw [← e] at q
    exact q
  rw [ieq_n e] at h
  by_cases e : x.at' = 4
  · rw [e] at h
    have h : (anT_4 t n x s).run _ := h
    refine CallOk.openM (root := 0) (pos := []) (cs := []) (parse := anP t n) (fin := AnO.fin t n) anP_ok (Opens.unpack (.announce t n x) 0 0 (announceG0 t n x) [] rfl (congrArg (Prod.mk 0) rfl) (by kernel_rfl) rfl) ?_
    have q := anT_4_sum t n x s _ h
    rw [← e] at q
    exact q
  rw [ieq_n e] at h
  exact h.1.elim
noncomputable def anS : Spec Ob := fun args h => match args, h with
  | [.ptr 0 0, .ptr 1 0], [some (.abs (.announce t n x) []), e1, e2] => (match memL 2 [e1, e2] with
    | some (l, s) => some (.pre (l = s.xs.length ∧ anOk t n x s) (AnO.fin t n (anF t n x s)))
    | none => none)
  | _, _ => none
theorem an_ok : Spec.ok (obI tbl) Try.prog 9 anS := by
  intro args h o ho K hK
  unfold anS at ho
  split at ho
  case h_2 => cases ho
  split at ho
  case h_2 => cases ho
  rename_i hm
  simp only [Option.some.injEq] at ho; subst ho
  obtain ⟨⟨hl, ok⟩, hK⟩ := hK
  have hh := memL_eq hm hl
  simp only [List.cons.injEq, and_true] at hh
  obtain ⟨rfl, rfl⟩ := hh
  exact an_step _ _ _ _ K (Tr.run_of ok hK)
def anNP (t n : Int) (v : AVal) (g : Heap Ob) : Option (Prop × ANS) := match v, g with
  | .ptr 0 0, [some (.cells [.int .i64 t1, .int .i64 n1, .int .u64 no, .int .i64 me, .int .i64 at', .int .u64 bits, .bool wrong, .int .u64 found])] => some ((t1 = t ∧ n1 = n), (⟨no, me, at', bits, wrong, found⟩ : ANS))
  | _, _ => none
abbrev anNH (t n : Int) (y : ANS) : Heap Ob := [some (.abs (.announce t n y) [])]
theorem anNP_ok {t n : Int} : Reads (obI tbl) 0 (anNP t n) (fun y => .ret (.ptr 0 0) (anNH t n y)) := by
  intro v g p x hp hq K hK
  unfold anNP at hp
  split at hp
  case h_2 => cases hp
  rename_i t1 n1 no me at' bits wrong found
  simp only [Option.some.injEq, Prod.mk.injEq] at hp
  obtain ⟨rfl, rfl⟩ := hp
  obtain ⟨rfl, rfl⟩ := hq
  exact ⟨⟨_, _, Tells.pack (anNH t1 n1 (⟨no, me, at', bits, wrong, found⟩ : ANS)) (.announce t1 n1 (⟨no, me, at', bits, wrong, found⟩ : ANS)) 0 0 (announceG0 t1 n1 (⟨no, me, at', bits, wrong, found⟩ : ANS)) [] (by kernel_rfl) rfl (congrArg (Prod.mk 0) rfl) (by kernel_rfl), hK⟩⟩
def anNT (t n : Int) (u sh kd ky : Int) : Tr ANS := .pre True (.pre (t = t ∧ n = n) (.ret { no := 0, me := u, at' := 0, bits := bif rightT sh kd ky then tskV sh kd ky else 0, wrong := !ieq (bif rightT sh kd ky then 0 else 1) 0, found := 0 }))
def anNF (t n : Int) (u sh kd ky : Int) : ANS := (anNT t n u sh kd ky).val
def anNOk (t n : Int) (u sh kd ky : Int) : Prop := (anNT t n u sh kd ky).ok
def anNS : Spec Ob := fun args h => match args, h with
  | [.agg [.int .i64 t, .int .i64 n], .int .i64 u, .agg [.int .i64 sh, .int .i64 kd, .int .i64 ky]], [] => some (.pre (anNOk t n u sh kd ky) (.ret (.ptr 0 0) (anNH t n (anNF t n u sh kd ky))))
  | _, _ => none
theorem anN_ok : Spec.ok (obI tbl) Try.prog 8 anNS := by
  intro args h o ho K hK
  unfold anNS at ho
  split at ho
  case h_2 => cases ho
  rename_i t n u sh kd ky
  simp only [Option.some.injEq] at ho; subst ho
  obtain ⟨ok, hK⟩ := hK
  refine CallOk.plainM (root := 0) (pos := []) (cs := []) (parse := anNP t n) anNP_ok ?_
  exact callOk_of (E := EC3) Try.checked.mixed (L := LL) (n := 10) (of_nf (q := (anNT t n u sh kd ky).run (fun y => (Out.ret (.ptr 0 0) (anNH t n y)).run K)) (by kernel_rfl) (Tr.run_of ok hK))
noncomputable def EC4 := ((EC3.addS 9 anS an_ok).addS 8 anNS anN_ok)
end Go.Sh

namespace Go.Sh
open Go Go.Proofs
variable [Con]
structure AwO where
  d : Bool
  x : AWS
  s : MS
instance : Inhabited AwO := ⟨⟨false, ⟨0, false, 0, 0⟩, ⟨0, 0, [], 0, 0, 0, 0, 0, false⟩⟩⟩
instance : Inhabited AWS := ⟨⟨0, false, 0, 0⟩⟩
abbrev awH (t n : Int) (x : AWS) (s : MS) : Heap Ob := [some (.abs (.answer t n x) []), memC 2 s, memX s]
abbrev awD (t n : Int) (x : AWS) (s : MS) : Heap Ob := [some (.cells [.int .i64 t, .int .i64 n, .int .i64 x.code, .bool x.okk, .int .i64 x.val, .int .i64 x.me]), memC 2 s, memX s]
def AwO.fin (t n : Int) (y : AwO) : Out Ob := .ite y.d (.ret (.bool true) (awD t n y.x y.s)) (.ret (.bool false) (awH t n y.x y.s))
noncomputable def EC5 := ((EC4))
end Go.Sh

namespace Go.Sh
open Go Go.Proofs
variable [Con]
def xdescS : RSpec Ob := fun args h => match args, h with
  | [.ptr 0 0], [some (.cells [.int .i64 t, .int .i64 n, .int .i64 pop, .int .i64 gave, .int .i64 u, .int .i64 sh, .int .i64 kd, .int .i64 ky, .bool only, .int .i64 att, .int .i64 at', .int .u64 found, .int .u64 word])] => some (True, .agg [.int .i64 (cutI found 0 12), .int .i64 (cutI found 12 9), .int .i64 (cutI found 21 18), .int .i64 (cutI found 39 9), .bool (ieq (cutI found 48 1) 1), .int .i64 (cutI found 49 3), .int .i64 (cutI found 52 10)])
  | _, _ => none
theorem xdesc_ok : Spec.ok (obI tbl) Try.prog 44 xdescS.spec := by
  intro args h o ho K hK
  unfold RSpec.spec xdescS at ho
  split at ho
  case h_2 => cases ho
  rename_i p v hp
  split at hp
  case h_2 => cases hp
  rename_i t n pop gave u sh kd ky only att at' found word
  simp only [Option.some.injEq, Prod.mk.injEq] at hp
  obtain ⟨rfl, rfl⟩ := hp
  simp only [Option.some.injEq] at ho; subst ho
  obtain ⟨hp, hK⟩ := hK
  have hK : K (.agg [.int .i64 (cutI found 0 12), .int .i64 (cutI found 12 9), .int .i64 (cutI found 21 18), .int .i64 (cutI found 39 9), .bool (ieq (cutI found 48 1) 1), .int .i64 (cutI found 49 3), .int .i64 (cutI found 52 10)]) [some (.cells [.int .i64 t, .int .i64 n, .int .i64 pop, .int .i64 gave, .int .i64 u, .int .i64 sh, .int .i64 kd, .int .i64 ky, .bool only, .int .i64 att, .int .i64 at', .int .u64 found, .int .u64 word])] := hK
  refine CallOk.trim (callOk_of (E := EC5) Try.checked.mixed (L := LL) (n := 10) (of_nf (q := True ∧ K (.agg [.int .i64 (cutI found 0 12), .int .i64 (cutI found 12 9), .int .i64 (cutI found 21 18), .int .i64 (cutI found 39 9), .bool (ieq (cutI found 48 1) 1), .int .i64 (cutI found 49 3), .int .i64 (cutI found 52 10)]) [some (.cells [.int .i64 t, .int .i64 n, .int .i64 pop, .int .i64 gave, .int .i64 u, .int .i64 sh, .int .i64 kd, .int .i64 ky, .bool only, .int .i64 att, .int .i64 at', .int .u64 found, .int .u64 word])]) (by kernel_rfl) ?_))
  exact ⟨trivial, hK⟩
noncomputable def EX1 := EC5.addR 44 xdescS xdesc_ok
def xputO (t n pop gave u sh kd ky : Int) (only : Bool) (att at' found word : Int) (k y : Int) (m : Bool) (c v : Int) (s : MS) : Out Ob := .pre True (.pre True (.pre ((List.length s.3 = List.length s.3 ∧ (0 : Int) ≤ s.4 ∧ s.4 ≤ (4611686018427387904 : Int)) ∧ True) (.ret (.bool (casB s.3 (cutI found 12 9) word)) [some (.cells [.int .i64 t, .int .i64 n, .int .i64 pop, .int .i64 gave, .int .i64 u, .int .i64 sh, .int .i64 kd, .int .i64 ky, .bool only, .int .i64 att, .int .i64 at', .int .u64 found, .int .u64 word]), some (.cells [.int .i64 s.1, .int .i64 s.2, .slice 2 0 (List.length (bif casB s.3 (cutI found 12 9) word then putI s.3 (cutI found 12 9) (bif bif fitI k 10 then bif fitI y 9 then bif fitI c 5 then fitI v 18 else false else false else false then putV k y m c v else 0) else s.3)) 1, .int .i64 (s.4 + 1), .int .i64 3, .int .i64 (cutI found 12 9), .int .u64 (peek s.3 (cutI found 12 9)), .int .u64 (bif inB s.3 (cutI found 12 9) then bif bif fitI k 10 then bif fitI y 9 then bif fitI c 5 then fitI v 18 else false else false else false then putV k y m c v else 0 else 0), .bool (casB s.3 (cutI found 12 9) word)]), some (.ints (some .u64) (bif casB s.3 (cutI found 12 9) word then putI s.3 (cutI found 12 9) (bif bif fitI k 10 then bif fitI y 9 then bif fitI c 5 then fitI v 18 else false else false else false then putV k y m c v else 0) else s.3))])))
theorem xput_sum (t n pop gave u sh kd ky : Int) (only : Bool) (att at' found word : Int) (k y : Int) (m : Bool) (c v : Int) (s : MS) (K : AVal → Heap Ob → Prop) (h : (xputO t n pop gave u sh kd ky only att at' found word k y m c v s).run K) : CallOk (obI tbl) Try.prog 48 [.ptr 0 0, .ptr 1 0, .agg [.int .i64 k, .int .i64 y, .bool m, .int .i64 c, .int .i64 v]] [some (.cells [.int .i64 t, .int .i64 n, .int .i64 pop, .int .i64 gave, .int .i64 u, .int .i64 sh, .int .i64 kd, .int .i64 ky, .bool only, .int .i64 att, .int .i64 at', .int .u64 found, .int .u64 word]), memC 2 s, memX s] K := by
  refine CallOk.trim (callOk_of (E := EX1) Try.checked.mixed (L := LL) (n := 10) (of_nf (q := (xputO t n pop gave u sh kd ky only att at' found word k y m c v s).run K) (by kernel_rfl) h))
def xputS : Spec Ob := fun args h => match args, h with
  | [.ptr 0 0, .ptr 1 0, .agg [.int .i64 k, .int .i64 y, .bool m, .int .i64 c, .int .i64 v]], [some (.cells [.int .i64 t, .int .i64 n, .int .i64 pop, .int .i64 gave, .int .i64 u, .int .i64 sh, .int .i64 kd, .int .i64 ky, .bool only, .int .i64 att, .int .i64 at', .int .u64 found, .int .u64 word]), e1, e2] => (match memL 2 [e1, e2] with
    | some (l, s) => some (.pre (l = s.xs.length) (xputO t n pop gave u sh kd ky only att at' found word k y m c v s))
    | none => none)
  | _, _ => none
theorem xput_ok : Spec.ok (obI tbl) Try.prog 48 xputS := by
  intro args h o ho K hK
  unfold xputS at ho
  split at ho
  case h_2 => cases ho
  split at ho
  case h_2 => cases ho
  rename_i hm
  simp only [Option.some.injEq] at ho; subst ho
  obtain ⟨hl, hK⟩ := hK
  have hh := memL_eq hm hl
  simp only [List.cons.injEq, and_true] at hh
  obtain ⟨rfl, rfl⟩ := hh
  exact xput_sum _ _ _ _ _ _ _ _ _ _ _ _ _ _ _ _ _ _ _ K hK
def xturnO (t n pop gave u sh kd ky : Int) (only : Bool) (att at' found word : Int) (a b c d : Int) (m : Bool) (e f : Int) (s : MS) : Out Ob := .pre True (.pre ((((0 : Int) ≤ t ∧ t ≤ (100000 : Int)) ∧ ((0 : Int) ≤ n ∧ n ≤ (100000 : Int)) ∧ (-1099511627776 : Int) ≤ u ∧ u ≤ (1099511627776 : Int)) ∧ True) (.pre ((List.length s.3 = List.length s.3 ∧ (0 : Int) ≤ s.4 ∧ s.4 ≤ (4611686018427387904 : Int)) ∧ True) (.ret (.bool (casB s.3 (2 * n + 5 + 2 * t + 3 * u + 2) found)) [some (.cells [.int .i64 t, .int .i64 n, .int .i64 pop, .int .i64 gave, .int .i64 u, .int .i64 sh, .int .i64 kd, .int .i64 ky, .bool only, .int .i64 att, .int .i64 at', .int .u64 found, .int .u64 word]), some (.cells [.int .i64 s.1, .int .i64 s.2, .slice 2 0 (List.length (bif casB s.3 (2 * n + 5 + 2 * t + 3 * u + 2) found then putI s.3 (2 * n + 5 + 2 * t + 3 * u + 2) (bif dOk a b c d e f then dPutV a b c d m e f else 0) else s.3)) 1, .int .i64 (s.4 + 1), .int .i64 3, .int .i64 (2 * n + 5 + 2 * t + 3 * u + 2), .int .u64 (peek s.3 (2 * n + 5 + 2 * t + 3 * u + 2)), .int .u64 (bif inB s.3 (2 * n + 5 + 2 * t + 3 * u + 2) then bif dOk a b c d e f then dPutV a b c d m e f else 0 else 0), .bool (casB s.3 (2 * n + 5 + 2 * t + 3 * u + 2) found)]), some (.ints (some .u64) (bif casB s.3 (2 * n + 5 + 2 * t + 3 * u + 2) found then putI s.3 (2 * n + 5 + 2 * t + 3 * u + 2) (bif dOk a b c d e f then dPutV a b c d m e f else 0) else s.3))])))
theorem xturn_sum (t n pop gave u sh kd ky : Int) (only : Bool) (att at' found word : Int) (a b c d : Int) (m : Bool) (e f : Int) (s : MS) (K : AVal → Heap Ob → Prop) (h : (xturnO t n pop gave u sh kd ky only att at' found word a b c d m e f s).run K) : CallOk (obI tbl) Try.prog 50 [.ptr 0 0, .ptr 1 0, .agg [.int .i64 a, .int .i64 b, .int .i64 c, .int .i64 d, .bool m, .int .i64 e, .int .i64 f]] [some (.cells [.int .i64 t, .int .i64 n, .int .i64 pop, .int .i64 gave, .int .i64 u, .int .i64 sh, .int .i64 kd, .int .i64 ky, .bool only, .int .i64 att, .int .i64 at', .int .u64 found, .int .u64 word]), memC 2 s, memX s] K := by
  refine CallOk.trim (callOk_of (E := EX1) Try.checked.mixed (L := LL) (n := 10) (of_nf (q := (xturnO t n pop gave u sh kd ky only att at' found word a b c d m e f s).run K) (by kernel_rfl) h))
def xturnS : Spec Ob := fun args h => match args, h with
  | [.ptr 0 0, .ptr 1 0, .agg [.int .i64 a, .int .i64 b, .int .i64 c, .int .i64 d, .bool m, .int .i64 e, .int .i64 f]], [some (.cells [.int .i64 t, .int .i64 n, .int .i64 pop, .int .i64 gave, .int .i64 u, .int .i64 sh, .int .i64 kd, .int .i64 ky, .bool only, .int .i64 att, .int .i64 at', .int .u64 found, .int .u64 word]), e1, e2] => (match memL 2 [e1, e2] with
    | some (l, s) => some (.pre (l = s.xs.length) (xturnO t n pop gave u sh kd ky only att at' found word a b c d m e f s))
    | none => none)
  | _, _ => none
theorem xturn_ok : Spec.ok (obI tbl) Try.prog 50 xturnS := by
  intro args h o ho K hK
  unfold xturnS at ho
  split at ho
  case h_2 => cases ho
  split at ho
  case h_2 => cases ho
  rename_i hm
  simp only [Option.some.injEq] at ho; subst ho
  obtain ⟨hl, hK⟩ := hK
  have hh := memL_eq hm hl
  simp only [List.cons.injEq, and_true] at hh
  obtain ⟨rfl, rfl⟩ := hh
  exact xturn_sum _ _ _ _ _ _ _ _ _ _ _ _ _ _ _ _ _ _ _ _ _ K hK
noncomputable def EX2 := (EX1.addS 48 xputS xput_ok).addS 50 xturnS xturn_ok
instance : Inhabited STS := ⟨⟨0, 0, []⟩⟩
end Go.Sh

namespace Go.Sh
open Go Go.Proofs
variable [Con]
structure ExO where
  d : Bool
  x : EXS
  s : MS
instance : Inhabited ExO := ⟨⟨false, dEXS, ⟨0, 0, [], 0, 0, 0, 0, 0, false⟩⟩⟩
instance : Inhabited EXS := ⟨dEXS⟩
abbrev exH (t n : Int) (x : EXS) (s : MS) : Heap Ob := [some (.abs (.exec t n x) []), memC 2 s, memX s]
abbrev exD (t n : Int) (x : EXS) (s : MS) : Heap Ob := [some (.cells [.int .i64 t, .int .i64 n, .int .i64 x.popped, .int .i64 x.gave, .int .i64 x.u, .int .i64 x.sh, .int .i64 x.kd, .int .i64 x.ky, .bool x.only, .int .i64 x.att, .int .i64 x.at', .int .u64 x.found, .int .u64 x.word]), memC 2 s, memX s]
def ExO.fin (t n : Int) (y : ExO) : Out Ob := .ite y.d (.ret (.bool true) (exD t n y.x y.s)) (.ret (.bool false) (exH t n y.x y.s))
def exP0 (t n : Int) (v : AVal) (g : Heap Ob) : Option (Prop × ExO) := match v, g with
  | .bool d, [some (.cells [.int .i64 t1, .int .i64 n1, .int .i64 popped, .int .i64 gave, .int .i64 u, .int .i64 sh, .int .i64 kd, .int .i64 ky, .bool only, .int .i64 att, .int .i64 at', .int .u64 found, .int .u64 word]), e1, e2] => (match memL 2 [e1, e2] with
    | some (l, s) => some ((t1 = t ∧ n1 = n) ∧ l = s.xs.length, ⟨d, ⟨popped, gave, u, sh, kd, ky, only, att, at', found, word⟩, s⟩)
    | none => none)
  | _, _ => none
def exP (t n : Int) (v : AVal) (g : Heap Ob) : Option (Prop × ExO) := exP0 t n v g
theorem exP0_ok {t n : Int} : Reads (obI tbl) 3 (exP0 t n) (ExO.fin t n) := by
  intro v g p x hp hq K hK
  unfold exP0 at hp
  split at hp
  case h_2 => cases hp
  rename_i d t1 n1 popped gave u sh kd ky only att at' found word e1 e2
  split at hp
  case h_2 => cases hp
  rename_i l s hm
  simp only [Option.some.injEq, Prod.mk.injEq] at hp
  obtain ⟨rfl, rfl⟩ := hp
  obtain ⟨⟨rfl, rfl⟩, hl⟩ := hq
  have hh := memL_eq hm hl
  simp only [List.cons.injEq, and_true] at hh
  obtain ⟨rfl, rfl⟩ := hh
  refine read2 hK (fun h => ?_) (fun h => ?_)
  · exact ⟨⟨_, _, Tells.refl _ _ _, h⟩⟩
  · exact ⟨⟨_, _, (Tells.pack (exH t1 n1 (⟨popped, gave, u, sh, kd, ky, only, att, at', found, word⟩ : EXS) s) (.exec t1 n1 (⟨popped, gave, u, sh, kd, ky, only, att, at', found, word⟩ : EXS)) 0 0 (execG0 t1 n1 (⟨popped, gave, u, sh, kd, ky, only, att, at', found, word⟩ : EXS)) [] (by kernel_rfl) rfl (congrArg (Prod.mk 0) rfl) (by kernel_rfl)), h⟩⟩
theorem exP_ok {t n : Int} : Reads (obI tbl) 3 (exP t n) (ExO.fin t n) := by
  intro v g p x hp hq K hK
  unfold exP at hp
  exact exP0_ok v g p x hp hq K hK
def exT_0 (t n : Int) (x : EXS) (s : MS) : Tr ExO := .pre True (.pre True (.pre ((((0 : Int) ≤ t ∧ t ≤ (100000 : Int)) ∧ ((0 : Int) ≤ n ∧ n ≤ (100000 : Int)) ∧ (-1099511627776 : Int) ≤ x.3 ∧ x.3 ≤ (1099511627776 : Int)) ∧ True) (.pre ((List.length s.3 = List.length s.3 ∧ (0 : Int) ≤ s.4 ∧ s.4 ≤ (4611686018427387904 : Int)) ∧ True) (.ite x.7 (.pre True (.ite (!ieq (cutI (peek s.3 (2 * n + 5 + 2 * t + 3 * x.3 + 2)) 0 12) x.8) (.pre ((t = t ∧ n = n) ∧ List.length s.3 = List.length s.3) (.ret { d := true, x := { popped := x.1, gave := x.2, u := x.3, sh := x.4, kd := x.5, ky := x.6, only := x.7, att := x.8, at' := 0, found := peek s.3 (2 * n + 5 + 2 * t + 3 * x.3 + 2), word := x.11 }, s := { t := s.1, n := s.2, xs := s.3, c := s.4 + 1, k := 1, a := 2 * n + 5 + 2 * t + 3 * x.3 + 2, o := peek s.3 (2 * n + 5 + 2 * t + 3 * x.3 + 2), w := peek s.3 (2 * n + 5 + 2 * t + 3 * x.3 + 2), ok := inB s.3 (2 * n + 5 + 2 * t + 3 * x.3 + 2) } })) (.pre True (.ite (ieq (cutI (peek s.3 (2 * n + 5 + 2 * t + 3 * x.3 + 2)) 49 3) 2) (.pre ((t = t ∧ n = n) ∧ List.length s.3 = List.length s.3) (.ret { d := false, x := { popped := x.1, gave := x.2, u := x.3, sh := x.4, kd := x.5, ky := x.6, only := x.7, att := x.8, at' := 1, found := peek s.3 (2 * n + 5 + 2 * t + 3 * x.3 + 2), word := x.11 }, s := { t := s.1, n := s.2, xs := s.3, c := s.4 + 1, k := 1, a := 2 * n + 5 + 2 * t + 3 * x.3 + 2, o := peek s.3 (2 * n + 5 + 2 * t + 3 * x.3 + 2), w := peek s.3 (2 * n + 5 + 2 * t + 3 * x.3 + 2), ok := inB s.3 (2 * n + 5 + 2 * t + 3 * x.3 + 2) } })) (.ite (ieq (cutI (peek s.3 (2 * n + 5 + 2 * t + 3 * x.3 + 2)) 49 3) 3) (.pre ((t = t ∧ n = n) ∧ List.length s.3 = List.length s.3) (.ret { d := false, x := { popped := x.1, gave := x.2, u := x.3, sh := x.4, kd := x.5, ky := x.6, only := x.7, att := x.8, at' := 5, found := peek s.3 (2 * n + 5 + 2 * t + 3 * x.3 + 2), word := x.11 }, s := { t := s.1, n := s.2, xs := s.3, c := s.4 + 1, k := 1, a := 2 * n + 5 + 2 * t + 3 * x.3 + 2, o := peek s.3 (2 * n + 5 + 2 * t + 3 * x.3 + 2), w := peek s.3 (2 * n + 5 + 2 * t + 3 * x.3 + 2), ok := inB s.3 (2 * n + 5 + 2 * t + 3 * x.3 + 2) } })) (.ite (ieq (cutI (peek s.3 (2 * n + 5 + 2 * t + 3 * x.3 + 2)) 49 3) 4) (.pre ((t = t ∧ n = n) ∧ List.length s.3 = List.length s.3) (.ret { d := false, x := { popped := x.1, gave := x.2, u := x.3, sh := x.4, kd := x.5, ky := x.6, only := x.7, att := x.8, at' := 8, found := peek s.3 (2 * n + 5 + 2 * t + 3 * x.3 + 2), word := x.11 }, s := { t := s.1, n := s.2, xs := s.3, c := s.4 + 1, k := 1, a := 2 * n + 5 + 2 * t + 3 * x.3 + 2, o := peek s.3 (2 * n + 5 + 2 * t + 3 * x.3 + 2), w := peek s.3 (2 * n + 5 + 2 * t + 3 * x.3 + 2), ok := inB s.3 (2 * n + 5 + 2 * t + 3 * x.3 + 2) } })) (.pre ((t = t ∧ n = n) ∧ List.length s.3 = List.length s.3) (.ret { d := true, x := { popped := x.1, gave := x.2, u := x.3, sh := x.4, kd := x.5, ky := x.6, only := x.7, att := x.8, at' := 0, found := peek s.3 (2 * n + 5 + 2 * t + 3 * x.3 + 2), word := x.11 }, s := { t := s.1, n := s.2, xs := s.3, c := s.4 + 1, k := 1, a := 2 * n + 5 + 2 * t + 3 * x.3 + 2, o := peek s.3 (2 * n + 5 + 2 * t + 3 * x.3 + 2), w := peek s.3 (2 * n + 5 + 2 * t + 3 * x.3 + 2), ok := inB s.3 (2 * n + 5 + 2 * t + 3 * x.3 + 2) } })))))))) (.pre True (.ite (ieq (cutI (peek s.3 (2 * n + 5 + 2 * t + 3 * x.3 + 2)) 49 3) 2) (.pre ((t = t ∧ n = n) ∧ List.length s.3 = List.length s.3) (.ret { d := false, x := { popped := x.1, gave := x.2, u := x.3, sh := x.4, kd := x.5, ky := x.6, only := x.7, att := x.8, at' := 1, found := peek s.3 (2 * n + 5 + 2 * t + 3 * x.3 + 2), word := x.11 }, s := { t := s.1, n := s.2, xs := s.3, c := s.4 + 1, k := 1, a := 2 * n + 5 + 2 * t + 3 * x.3 + 2, o := peek s.3 (2 * n + 5 + 2 * t + 3 * x.3 + 2), w := peek s.3 (2 * n + 5 + 2 * t + 3 * x.3 + 2), ok := inB s.3 (2 * n + 5 + 2 * t + 3 * x.3 + 2) } })) (.ite (ieq (cutI (peek s.3 (2 * n + 5 + 2 * t + 3 * x.3 + 2)) 49 3) 3) (.pre ((t = t ∧ n = n) ∧ List.length s.3 = List.length s.3) (.ret { d := false, x := { popped := x.1, gave := x.2, u := x.3, sh := x.4, kd := x.5, ky := x.6, only := x.7, att := x.8, at' := 5, found := peek s.3 (2 * n + 5 + 2 * t + 3 * x.3 + 2), word := x.11 }, s := { t := s.1, n := s.2, xs := s.3, c := s.4 + 1, k := 1, a := 2 * n + 5 + 2 * t + 3 * x.3 + 2, o := peek s.3 (2 * n + 5 + 2 * t + 3 * x.3 + 2), w := peek s.3 (2 * n + 5 + 2 * t + 3 * x.3 + 2), ok := inB s.3 (2 * n + 5 + 2 * t + 3 * x.3 + 2) } })) (.ite (ieq (cutI (peek s.3 (2 * n + 5 + 2 * t + 3 * x.3 + 2)) 49 3) 4) (.pre ((t = t ∧ n = n) ∧ List.length s.3 = List.length s.3) (.ret { d := false, x := { popped := x.1, gave := x.2, u := x.3, sh := x.4, kd := x.5, ky := x.6, only := x.7, att := x.8, at' := 8, found := peek s.3 (2 * n + 5 + 2 * t + 3 * x.3 + 2), word := x.11 }, s := { t := s.1, n := s.2, xs := s.3, c := s.4 + 1, k := 1, a := 2 * n + 5 + 2 * t + 3 * x.3 + 2, o := peek s.3 (2 * n + 5 + 2 * t + 3 * x.3 + 2), w := peek s.3 (2 * n + 5 + 2 * t + 3 * x.3 + 2), ok := inB s.3 (2 * n + 5 + 2 * t + 3 * x.3 + 2) } })) (.pre ((t = t ∧ n = n) ∧ List.length s.3 = List.length s.3) (.ret { d := true, x := { popped := x.1, gave := x.2, u := x.3, sh := x.4, kd := x.5, ky := x.6, only := x.7, att := x.8, at' := 0, found := peek s.3 (2 * n + 5 + 2 * t + 3 * x.3 + 2), word := x.11 }, s := { t := s.1, n := s.2, xs := s.3, c := s.4 + 1, k := 1, a := 2 * n + 5 + 2 * t + 3 * x.3 + 2, o := peek s.3 (2 * n + 5 + 2 * t + 3 * x.3 + 2), w := peek s.3 (2 * n + 5 + 2 * t + 3 * x.3 + 2), ok := inB s.3 (2 * n + 5 + 2 * t + 3 * x.3 + 2) } }))))))))))
theorem exT_0_sum (t n : Int) (x : EXS) (s : MS) (K : ExO → Prop) (h : (exT_0 t n x s).run K) : CallOk (obI tbl) Try.prog 22 [.ptr 0 0, .ptr 1 0] [some (.cells [.int .i64 t, .int .i64 n, .int .i64 x.popped, .int .i64 x.gave, .int .i64 x.u, .int .i64 x.sh, .int .i64 x.kd, .int .i64 x.ky, .bool x.only, .int .i64 x.att, .int .i64 0, .int .u64 x.found, .int .u64 x.word]), memC 2 s, memX s] (LeafM 3 0 [] [] (exP t n) K) := by
  exact callOk_of (E := EX2) Try.checked.mixed (L := LL) (n := 10) (of_nf (q := (exT_0 t n x s).run K) (by kernel_rfl) h)
def exT_1 (t n : Int) (x : EXS) (s : MS) : Tr ExO := .pre True (.pre True (.pre True (.pre (List.length s.3 = List.length s.3 ∧ (0 : Int) ≤ s.4 ∧ s.4 ≤ (4611686018427387904 : Int)) (.pre True (.pre True (.ite (ieq (cutI (peek s.3 (cutI x.10 12 9)) 25 18) (cutI x.10 21 18)) (.ite (ieq (cutI (peek s.3 (cutI x.10 12 9)) 20 5) 0) (.pre ((t = t ∧ n = n) ∧ List.length s.3 = List.length s.3) (.ret { d := false, x := { popped := x.1, gave := x.2, u := x.3, sh := x.4, kd := x.5, ky := x.6, only := x.7, att := x.8, at' := 2, found := x.10, word := peek s.3 (cutI x.10 12 9) }, s := { t := s.1, n := s.2, xs := s.3, c := s.4 + 1, k := 1, a := cutI x.10 12 9, o := peek s.3 (cutI x.10 12 9), w := peek s.3 (cutI x.10 12 9), ok := inB s.3 (cutI x.10 12 9) } })) (.pre True (.ite (ieq (cutI (peek s.3 (cutI x.10 12 9)) 25 18) (cutI x.10 21 18)) (.ite (ieq (cutI (peek s.3 (cutI x.10 12 9)) 20 5) (W (x.3 + 1))) (.pre ((t = t ∧ n = n) ∧ List.length s.3 = List.length s.3) (.ret { d := false, x := { popped := x.1, gave := x.2, u := x.3, sh := x.4, kd := x.5, ky := x.6, only := x.7, att := x.8, at' := 3, found := x.10, word := peek s.3 (cutI x.10 12 9) }, s := { t := s.1, n := s.2, xs := s.3, c := s.4 + 1, k := 1, a := cutI x.10 12 9, o := peek s.3 (cutI x.10 12 9), w := peek s.3 (cutI x.10 12 9), ok := inB s.3 (cutI x.10 12 9) } })) (.pre ((t = t ∧ n = n) ∧ List.length s.3 = List.length s.3) (.ret { d := false, x := { popped := x.1, gave := x.2, u := x.3, sh := x.4, kd := x.5, ky := x.6, only := x.7, att := x.8, at' := 4, found := x.10, word := peek s.3 (cutI x.10 12 9) }, s := { t := s.1, n := s.2, xs := s.3, c := s.4 + 1, k := 1, a := cutI x.10 12 9, o := peek s.3 (cutI x.10 12 9), w := peek s.3 (cutI x.10 12 9), ok := inB s.3 (cutI x.10 12 9) } }))) (.pre ((t = t ∧ n = n) ∧ List.length s.3 = List.length s.3) (.ret { d := false, x := { popped := x.1, gave := x.2, u := x.3, sh := x.4, kd := x.5, ky := x.6, only := x.7, att := x.8, at' := 4, found := x.10, word := peek s.3 (cutI x.10 12 9) }, s := { t := s.1, n := s.2, xs := s.3, c := s.4 + 1, k := 1, a := cutI x.10 12 9, o := peek s.3 (cutI x.10 12 9), w := peek s.3 (cutI x.10 12 9), ok := inB s.3 (cutI x.10 12 9) } }))))) (.pre True (.ite (ieq (cutI (peek s.3 (cutI x.10 12 9)) 25 18) (cutI x.10 21 18)) (.ite (ieq (cutI (peek s.3 (cutI x.10 12 9)) 20 5) (W (x.3 + 1))) (.pre ((t = t ∧ n = n) ∧ List.length s.3 = List.length s.3) (.ret { d := false, x := { popped := x.1, gave := x.2, u := x.3, sh := x.4, kd := x.5, ky := x.6, only := x.7, att := x.8, at' := 3, found := x.10, word := peek s.3 (cutI x.10 12 9) }, s := { t := s.1, n := s.2, xs := s.3, c := s.4 + 1, k := 1, a := cutI x.10 12 9, o := peek s.3 (cutI x.10 12 9), w := peek s.3 (cutI x.10 12 9), ok := inB s.3 (cutI x.10 12 9) } })) (.pre ((t = t ∧ n = n) ∧ List.length s.3 = List.length s.3) (.ret { d := false, x := { popped := x.1, gave := x.2, u := x.3, sh := x.4, kd := x.5, ky := x.6, only := x.7, att := x.8, at' := 4, found := x.10, word := peek s.3 (cutI x.10 12 9) }, s := { t := s.1, n := s.2, xs := s.3, c := s.4 + 1, k := 1, a := cutI x.10 12 9, o := peek s.3 (cutI x.10 12 9), w := peek s.3 (cutI x.10 12 9), ok := inB s.3 (cutI x.10 12 9) } }))) (.pre ((t = t ∧ n = n) ∧ List.length s.3 = List.length s.3) (.ret { d := false, x := { popped := x.1, gave := x.2, u := x.3, sh := x.4, kd := x.5, ky := x.6, only := x.7, att := x.8, at' := 4, found := x.10, word := peek s.3 (cutI x.10 12 9) }, s := { t := s.1, n := s.2, xs := s.3, c := s.4 + 1, k := 1, a := cutI x.10 12 9, o := peek s.3 (cutI x.10 12 9), w := peek s.3 (cutI x.10 12 9), ok := inB s.3 (cutI x.10 12 9) } }))))))))))
theorem exT_1_sum (t n : Int) (x : EXS) (s : MS) (K : ExO → Prop) (h : (exT_1 t n x s).run K) : CallOk (obI tbl) Try.prog 22 [.ptr 0 0, .ptr 1 0] [some (.cells [.int .i64 t, .int .i64 n, .int .i64 x.popped, .int .i64 x.gave, .int .i64 x.u, .int .i64 x.sh, .int .i64 x.kd, .int .i64 x.ky, .bool x.only, .int .i64 x.att, .int .i64 1, .int .u64 x.found, .int .u64 x.word]), memC 2 s, memX s] (LeafM 3 0 [] [] (exP t n) K) := by
  exact callOk_of (E := EX2) Try.checked.mixed (L := LL) (n := 10) (of_nf (q := (exT_1 t n x s).run K) (by kernel_rfl) h)
def exT_2 (t n : Int) (x : EXS) (s : MS) : Tr ExO := .pre True (.pre True (.pre ((-1000000 : Int) ≤ x.3 ∧ x.3 ≤ (1000000 : Int)) (.pre (List.length s.3 = List.length s.3 ∧ True ∧ True ∧ ((List.length s.3 = List.length s.3 ∧ (0 : Int) ≤ s.4 ∧ s.4 ≤ (4611686018427387904 : Int)) ∧ True) ∧ True) (.ite (casB s.3 (cutI x.10 12 9) x.11) (.pre True (.ite (popsB x.4 x.5) (.pre ((t = t ∧ n = n) ∧ List.length (bif casB s.3 (cutI x.10 12 9) x.11 then putI s.3 (cutI x.10 12 9) (bif bif fitI (cutI x.11 0 10) 10 then bif fitI (cutI x.10 39 9) 9 then bif fitI (x.3 + 1) 5 then fitI (cutI x.11 25 18) 18 else false else false else false then putV (cutI x.11 0 10) (cutI x.10 39 9) (ieq (cutI x.10 48 1) 1) (x.3 + 1) (cutI x.11 25 18) else 0) else s.3) = List.length (bif casB s.3 (cutI x.10 12 9) x.11 then putI s.3 (cutI x.10 12 9) (bif bif fitI (cutI x.11 0 10) 10 then bif fitI (cutI x.10 39 9) 9 then bif fitI (x.3 + 1) 5 then fitI (cutI x.11 25 18) 18 else false else false else false then putV (cutI x.11 0 10) (cutI x.10 39 9) (ieq (cutI x.10 48 1) 1) (x.3 + 1) (cutI x.11 25 18) else 0) else s.3)) (.ret { d := true, x := { popped := cutI x.11 10 9, gave := x.2, u := x.3, sh := x.4, kd := x.5, ky := x.6, only := x.7, att := x.8, at' := 2, found := x.10, word := x.11 }, s := { t := s.1, n := s.2, xs := bif casB s.3 (cutI x.10 12 9) x.11 then putI s.3 (cutI x.10 12 9) (bif bif fitI (cutI x.11 0 10) 10 then bif fitI (cutI x.10 39 9) 9 then bif fitI (x.3 + 1) 5 then fitI (cutI x.11 25 18) 18 else false else false else false then putV (cutI x.11 0 10) (cutI x.10 39 9) (ieq (cutI x.10 48 1) 1) (x.3 + 1) (cutI x.11 25 18) else 0) else s.3, c := s.4 + 1, k := 3, a := cutI x.10 12 9, o := peek s.3 (cutI x.10 12 9), w := bif inB s.3 (cutI x.10 12 9) then bif bif fitI (cutI x.11 0 10) 10 then bif fitI (cutI x.10 39 9) 9 then bif fitI (x.3 + 1) 5 then fitI (cutI x.11 25 18) 18 else false else false else false then putV (cutI x.11 0 10) (cutI x.10 39 9) (ieq (cutI x.10 48 1) 1) (x.3 + 1) (cutI x.11 25 18) else 0 else 0, ok := casB s.3 (cutI x.10 12 9) x.11 } })) (.pre ((t = t ∧ n = n) ∧ List.length (bif casB s.3 (cutI x.10 12 9) x.11 then putI s.3 (cutI x.10 12 9) (bif bif fitI (cutI x.11 0 10) 10 then bif fitI (cutI x.10 39 9) 9 then bif fitI (x.3 + 1) 5 then fitI (cutI x.11 25 18) 18 else false else false else false then putV (cutI x.11 0 10) (cutI x.10 39 9) (ieq (cutI x.10 48 1) 1) (x.3 + 1) (cutI x.11 25 18) else 0) else s.3) = List.length (bif casB s.3 (cutI x.10 12 9) x.11 then putI s.3 (cutI x.10 12 9) (bif bif fitI (cutI x.11 0 10) 10 then bif fitI (cutI x.10 39 9) 9 then bif fitI (x.3 + 1) 5 then fitI (cutI x.11 25 18) 18 else false else false else false then putV (cutI x.11 0 10) (cutI x.10 39 9) (ieq (cutI x.10 48 1) 1) (x.3 + 1) (cutI x.11 25 18) else 0) else s.3)) (.ret { d := true, x := { popped := x.1, gave := x.2, u := x.3, sh := x.4, kd := x.5, ky := x.6, only := x.7, att := x.8, at' := 2, found := x.10, word := x.11 }, s := { t := s.1, n := s.2, xs := bif casB s.3 (cutI x.10 12 9) x.11 then putI s.3 (cutI x.10 12 9) (bif bif fitI (cutI x.11 0 10) 10 then bif fitI (cutI x.10 39 9) 9 then bif fitI (x.3 + 1) 5 then fitI (cutI x.11 25 18) 18 else false else false else false then putV (cutI x.11 0 10) (cutI x.10 39 9) (ieq (cutI x.10 48 1) 1) (x.3 + 1) (cutI x.11 25 18) else 0) else s.3, c := s.4 + 1, k := 3, a := cutI x.10 12 9, o := peek s.3 (cutI x.10 12 9), w := bif inB s.3 (cutI x.10 12 9) then bif bif fitI (cutI x.11 0 10) 10 then bif fitI (cutI x.10 39 9) 9 then bif fitI (x.3 + 1) 5 then fitI (cutI x.11 25 18) 18 else false else false else false then putV (cutI x.11 0 10) (cutI x.10 39 9) (ieq (cutI x.10 48 1) 1) (x.3 + 1) (cutI x.11 25 18) else 0 else 0, ok := casB s.3 (cutI x.10 12 9) x.11 } })))) (.pre ((t = t ∧ n = n) ∧ List.length (bif casB s.3 (cutI x.10 12 9) x.11 then putI s.3 (cutI x.10 12 9) (bif bif fitI (cutI x.11 0 10) 10 then bif fitI (cutI x.10 39 9) 9 then bif fitI (x.3 + 1) 5 then fitI (cutI x.11 25 18) 18 else false else false else false then putV (cutI x.11 0 10) (cutI x.10 39 9) (ieq (cutI x.10 48 1) 1) (x.3 + 1) (cutI x.11 25 18) else 0) else s.3) = List.length (bif casB s.3 (cutI x.10 12 9) x.11 then putI s.3 (cutI x.10 12 9) (bif bif fitI (cutI x.11 0 10) 10 then bif fitI (cutI x.10 39 9) 9 then bif fitI (x.3 + 1) 5 then fitI (cutI x.11 25 18) 18 else false else false else false then putV (cutI x.11 0 10) (cutI x.10 39 9) (ieq (cutI x.10 48 1) 1) (x.3 + 1) (cutI x.11 25 18) else 0) else s.3)) (.ret { d := true, x := { popped := x.1, gave := x.2, u := x.3, sh := x.4, kd := x.5, ky := x.6, only := x.7, att := x.8, at' := 2, found := x.10, word := x.11 }, s := { t := s.1, n := s.2, xs := bif casB s.3 (cutI x.10 12 9) x.11 then putI s.3 (cutI x.10 12 9) (bif bif fitI (cutI x.11 0 10) 10 then bif fitI (cutI x.10 39 9) 9 then bif fitI (x.3 + 1) 5 then fitI (cutI x.11 25 18) 18 else false else false else false then putV (cutI x.11 0 10) (cutI x.10 39 9) (ieq (cutI x.10 48 1) 1) (x.3 + 1) (cutI x.11 25 18) else 0) else s.3, c := s.4 + 1, k := 3, a := cutI x.10 12 9, o := peek s.3 (cutI x.10 12 9), w := bif inB s.3 (cutI x.10 12 9) then bif bif fitI (cutI x.11 0 10) 10 then bif fitI (cutI x.10 39 9) 9 then bif fitI (x.3 + 1) 5 then fitI (cutI x.11 25 18) 18 else false else false else false then putV (cutI x.11 0 10) (cutI x.10 39 9) (ieq (cutI x.10 48 1) 1) (x.3 + 1) (cutI x.11 25 18) else 0 else 0, ok := casB s.3 (cutI x.10 12 9) x.11 } }))))))
theorem exT_2_sum (t n : Int) (x : EXS) (s : MS) (K : ExO → Prop) (h : (exT_2 t n x s).run K) : CallOk (obI tbl) Try.prog 22 [.ptr 0 0, .ptr 1 0] [some (.cells [.int .i64 t, .int .i64 n, .int .i64 x.popped, .int .i64 x.gave, .int .i64 x.u, .int .i64 x.sh, .int .i64 x.kd, .int .i64 x.ky, .bool x.only, .int .i64 x.att, .int .i64 2, .int .u64 x.found, .int .u64 x.word]), memC 2 s, memX s] (LeafM 3 0 [] [] (exP t n) K) := by
  exact callOk_of (E := EX2) Try.checked.mixed (L := LL) (n := 10) (of_nf (q := (exT_2 t n x s).run K) (by kernel_rfl) h)
def exT_3 (t n : Int) (x : EXS) (s : MS) : Tr ExO := .pre True (.pre True (.pre True (.pre (List.length s.3 = List.length s.3) (.pre True (.pre ((((0 : Int) ≤ t ∧ t ≤ (100000 : Int)) ∧ ((0 : Int) ≤ n ∧ n ≤ (100000 : Int)) ∧ (-1099511627776 : Int) ≤ x.3 ∧ x.3 ≤ (1099511627776 : Int)) ∧ True) (.pre ((List.length s.3 = List.length s.3 ∧ (0 : Int) ≤ s.4 ∧ s.4 ≤ (4611686018427387904 : Int)) ∧ True) (.pre ((t = t ∧ n = n) ∧ List.length (bif casB s.3 (2 * n + 5 + 2 * t + 3 * x.3 + 2) x.10 then putI s.3 (2 * n + 5 + 2 * t + 3 * x.3 + 2) (bif dOk (cutI x.10 0 12) (cutI x.10 12 9) (cutI x.10 21 18) (cutI x.10 39 9) 3 (cutI x.10 52 10) then dPutV (cutI x.10 0 12) (cutI x.10 12 9) (cutI x.10 21 18) (cutI x.10 39 9) (ieq (cutI x.10 48 1) 1) 3 (cutI x.10 52 10) else 0) else s.3) = List.length (bif casB s.3 (2 * n + 5 + 2 * t + 3 * x.3 + 2) x.10 then putI s.3 (2 * n + 5 + 2 * t + 3 * x.3 + 2) (bif dOk (cutI x.10 0 12) (cutI x.10 12 9) (cutI x.10 21 18) (cutI x.10 39 9) 3 (cutI x.10 52 10) then dPutV (cutI x.10 0 12) (cutI x.10 12 9) (cutI x.10 21 18) (cutI x.10 39 9) (ieq (cutI x.10 48 1) 1) 3 (cutI x.10 52 10) else 0) else s.3)) (.ret { d := true, x := { popped := x.1, gave := x.2, u := x.3, sh := x.4, kd := x.5, ky := x.6, only := x.7, att := x.8, at' := 3, found := x.10, word := x.11 }, s := { t := s.1, n := s.2, xs := bif casB s.3 (2 * n + 5 + 2 * t + 3 * x.3 + 2) x.10 then putI s.3 (2 * n + 5 + 2 * t + 3 * x.3 + 2) (bif dOk (cutI x.10 0 12) (cutI x.10 12 9) (cutI x.10 21 18) (cutI x.10 39 9) 3 (cutI x.10 52 10) then dPutV (cutI x.10 0 12) (cutI x.10 12 9) (cutI x.10 21 18) (cutI x.10 39 9) (ieq (cutI x.10 48 1) 1) 3 (cutI x.10 52 10) else 0) else s.3, c := s.4 + 1, k := 3, a := 2 * n + 5 + 2 * t + 3 * x.3 + 2, o := peek s.3 (2 * n + 5 + 2 * t + 3 * x.3 + 2), w := bif inB s.3 (2 * n + 5 + 2 * t + 3 * x.3 + 2) then bif dOk (cutI x.10 0 12) (cutI x.10 12 9) (cutI x.10 21 18) (cutI x.10 39 9) 3 (cutI x.10 52 10) then dPutV (cutI x.10 0 12) (cutI x.10 12 9) (cutI x.10 21 18) (cutI x.10 39 9) (ieq (cutI x.10 48 1) 1) 3 (cutI x.10 52 10) else 0 else 0, ok := casB s.3 (2 * n + 5 + 2 * t + 3 * x.3 + 2) x.10 } }))))))))
theorem exT_3_sum (t n : Int) (x : EXS) (s : MS) (K : ExO → Prop) (h : (exT_3 t n x s).run K) : CallOk (obI tbl) Try.prog 22 [.ptr 0 0, .ptr 1 0] [some (.cells [.int .i64 t, .int .i64 n, .int .i64 x.popped, .int .i64 x.gave, .int .i64 x.u, .int .i64 x.sh, .int .i64 x.kd, .int .i64 x.ky, .bool x.only, .int .i64 x.att, .int .i64 3, .int .u64 x.found, .int .u64 x.word]), memC 2 s, memX s] (LeafM 3 0 [] [] (exP t n) K) := by
  exact callOk_of (E := EX2) Try.checked.mixed (L := LL) (n := 10) (of_nf (q := (exT_3 t n x s).run K) (by kernel_rfl) h)
def exT_4 (t n : Int) (x : EXS) (s : MS) : Tr ExO := .pre True (.pre True (.pre True (.pre (List.length s.3 = List.length s.3) (.pre True (.pre ((((0 : Int) ≤ t ∧ t ≤ (100000 : Int)) ∧ ((0 : Int) ≤ n ∧ n ≤ (100000 : Int)) ∧ (-1099511627776 : Int) ≤ x.3 ∧ x.3 ≤ (1099511627776 : Int)) ∧ True) (.pre ((List.length s.3 = List.length s.3 ∧ (0 : Int) ≤ s.4 ∧ s.4 ≤ (4611686018427387904 : Int)) ∧ True) (.pre ((t = t ∧ n = n) ∧ List.length (bif casB s.3 (2 * n + 5 + 2 * t + 3 * x.3 + 2) x.10 then putI s.3 (2 * n + 5 + 2 * t + 3 * x.3 + 2) (bif dOk (cutI x.10 0 12) (cutI x.10 12 9) (cutI x.10 21 18) (cutI x.10 39 9) 4 (cutI x.10 52 10) then dPutV (cutI x.10 0 12) (cutI x.10 12 9) (cutI x.10 21 18) (cutI x.10 39 9) (ieq (cutI x.10 48 1) 1) 4 (cutI x.10 52 10) else 0) else s.3) = List.length (bif casB s.3 (2 * n + 5 + 2 * t + 3 * x.3 + 2) x.10 then putI s.3 (2 * n + 5 + 2 * t + 3 * x.3 + 2) (bif dOk (cutI x.10 0 12) (cutI x.10 12 9) (cutI x.10 21 18) (cutI x.10 39 9) 4 (cutI x.10 52 10) then dPutV (cutI x.10 0 12) (cutI x.10 12 9) (cutI x.10 21 18) (cutI x.10 39 9) (ieq (cutI x.10 48 1) 1) 4 (cutI x.10 52 10) else 0) else s.3)) (.ret { d := true, x := { popped := x.1, gave := x.2, u := x.3, sh := x.4, kd := x.5, ky := x.6, only := x.7, att := x.8, at' := 4, found := x.10, word := x.11 }, s := { t := s.1, n := s.2, xs := bif casB s.3 (2 * n + 5 + 2 * t + 3 * x.3 + 2) x.10 then putI s.3 (2 * n + 5 + 2 * t + 3 * x.3 + 2) (bif dOk (cutI x.10 0 12) (cutI x.10 12 9) (cutI x.10 21 18) (cutI x.10 39 9) 4 (cutI x.10 52 10) then dPutV (cutI x.10 0 12) (cutI x.10 12 9) (cutI x.10 21 18) (cutI x.10 39 9) (ieq (cutI x.10 48 1) 1) 4 (cutI x.10 52 10) else 0) else s.3, c := s.4 + 1, k := 3, a := 2 * n + 5 + 2 * t + 3 * x.3 + 2, o := peek s.3 (2 * n + 5 + 2 * t + 3 * x.3 + 2), w := bif inB s.3 (2 * n + 5 + 2 * t + 3 * x.3 + 2) then bif dOk (cutI x.10 0 12) (cutI x.10 12 9) (cutI x.10 21 18) (cutI x.10 39 9) 4 (cutI x.10 52 10) then dPutV (cutI x.10 0 12) (cutI x.10 12 9) (cutI x.10 21 18) (cutI x.10 39 9) (ieq (cutI x.10 48 1) 1) 4 (cutI x.10 52 10) else 0 else 0, ok := casB s.3 (2 * n + 5 + 2 * t + 3 * x.3 + 2) x.10 } }))))))))
theorem exT_4_sum (t n : Int) (x : EXS) (s : MS) (K : ExO → Prop) (h : (exT_4 t n x s).run K) : CallOk (obI tbl) Try.prog 22 [.ptr 0 0, .ptr 1 0] [some (.cells [.int .i64 t, .int .i64 n, .int .i64 x.popped, .int .i64 x.gave, .int .i64 x.u, .int .i64 x.sh, .int .i64 x.kd, .int .i64 x.ky, .bool x.only, .int .i64 x.att, .int .i64 4, .int .u64 x.found, .int .u64 x.word]), memC 2 s, memX s] (LeafM 3 0 [] [] (exP t n) K) := by
  exact callOk_of (E := EX2) Try.checked.mixed (L := LL) (n := 10) (of_nf (q := (exT_4 t n x s).run K) (by kernel_rfl) h)
def exT_5 (t n : Int) (x : EXS) (s : MS) : Tr ExO := .pre True (.pre True (.pre True (.pre (List.length s.3 = List.length s.3 ∧ (0 : Int) ≤ s.4 ∧ s.4 ≤ (4611686018427387904 : Int)) (.pre True (.pre True (.ite (ieq (cutI (peek s.3 (cutI x.10 12 9)) 25 18) (cutI x.10 21 18)) (.ite (ieq (cutI (peek s.3 (cutI x.10 12 9)) 20 5) 0) (.pre ((t = t ∧ n = n) ∧ List.length s.3 = List.length s.3) (.ret { d := false, x := { popped := x.1, gave := x.2, u := x.3, sh := x.4, kd := x.5, ky := x.6, only := x.7, att := x.8, at' := 7, found := x.10, word := peek s.3 (cutI x.10 12 9) }, s := { t := s.1, n := s.2, xs := s.3, c := s.4 + 1, k := 1, a := cutI x.10 12 9, o := peek s.3 (cutI x.10 12 9), w := peek s.3 (cutI x.10 12 9), ok := inB s.3 (cutI x.10 12 9) } })) (.pre True (.ite (ieq (cutI (peek s.3 (cutI x.10 12 9)) 25 18) (cutI x.10 21 18)) (.ite (ieq (cutI (peek s.3 (cutI x.10 12 9)) 20 5) (W (x.3 + 1))) (.pre ((t = t ∧ n = n) ∧ List.length s.3 = List.length s.3) (.ret { d := false, x := { popped := x.1, gave := x.2, u := x.3, sh := x.4, kd := x.5, ky := x.6, only := x.7, att := x.8, at' := 6, found := x.10, word := peek s.3 (cutI x.10 12 9) }, s := { t := s.1, n := s.2, xs := s.3, c := s.4 + 1, k := 1, a := cutI x.10 12 9, o := peek s.3 (cutI x.10 12 9), w := peek s.3 (cutI x.10 12 9), ok := inB s.3 (cutI x.10 12 9) } })) (.pre ((t = t ∧ n = n) ∧ List.length s.3 = List.length s.3) (.ret { d := false, x := { popped := x.1, gave := x.2, u := x.3, sh := x.4, kd := x.5, ky := x.6, only := x.7, att := x.8, at' := 7, found := x.10, word := peek s.3 (cutI x.10 12 9) }, s := { t := s.1, n := s.2, xs := s.3, c := s.4 + 1, k := 1, a := cutI x.10 12 9, o := peek s.3 (cutI x.10 12 9), w := peek s.3 (cutI x.10 12 9), ok := inB s.3 (cutI x.10 12 9) } }))) (.pre ((t = t ∧ n = n) ∧ List.length s.3 = List.length s.3) (.ret { d := false, x := { popped := x.1, gave := x.2, u := x.3, sh := x.4, kd := x.5, ky := x.6, only := x.7, att := x.8, at' := 7, found := x.10, word := peek s.3 (cutI x.10 12 9) }, s := { t := s.1, n := s.2, xs := s.3, c := s.4 + 1, k := 1, a := cutI x.10 12 9, o := peek s.3 (cutI x.10 12 9), w := peek s.3 (cutI x.10 12 9), ok := inB s.3 (cutI x.10 12 9) } }))))) (.pre True (.ite (ieq (cutI (peek s.3 (cutI x.10 12 9)) 25 18) (cutI x.10 21 18)) (.ite (ieq (cutI (peek s.3 (cutI x.10 12 9)) 20 5) (W (x.3 + 1))) (.pre ((t = t ∧ n = n) ∧ List.length s.3 = List.length s.3) (.ret { d := false, x := { popped := x.1, gave := x.2, u := x.3, sh := x.4, kd := x.5, ky := x.6, only := x.7, att := x.8, at' := 6, found := x.10, word := peek s.3 (cutI x.10 12 9) }, s := { t := s.1, n := s.2, xs := s.3, c := s.4 + 1, k := 1, a := cutI x.10 12 9, o := peek s.3 (cutI x.10 12 9), w := peek s.3 (cutI x.10 12 9), ok := inB s.3 (cutI x.10 12 9) } })) (.pre ((t = t ∧ n = n) ∧ List.length s.3 = List.length s.3) (.ret { d := false, x := { popped := x.1, gave := x.2, u := x.3, sh := x.4, kd := x.5, ky := x.6, only := x.7, att := x.8, at' := 7, found := x.10, word := peek s.3 (cutI x.10 12 9) }, s := { t := s.1, n := s.2, xs := s.3, c := s.4 + 1, k := 1, a := cutI x.10 12 9, o := peek s.3 (cutI x.10 12 9), w := peek s.3 (cutI x.10 12 9), ok := inB s.3 (cutI x.10 12 9) } }))) (.pre ((t = t ∧ n = n) ∧ List.length s.3 = List.length s.3) (.ret { d := false, x := { popped := x.1, gave := x.2, u := x.3, sh := x.4, kd := x.5, ky := x.6, only := x.7, att := x.8, at' := 7, found := x.10, word := peek s.3 (cutI x.10 12 9) }, s := { t := s.1, n := s.2, xs := s.3, c := s.4 + 1, k := 1, a := cutI x.10 12 9, o := peek s.3 (cutI x.10 12 9), w := peek s.3 (cutI x.10 12 9), ok := inB s.3 (cutI x.10 12 9) } }))))))))))
theorem exT_5_sum (t n : Int) (x : EXS) (s : MS) (K : ExO → Prop) (h : (exT_5 t n x s).run K) : CallOk (obI tbl) Try.prog 22 [.ptr 0 0, .ptr 1 0] [some (.cells [.int .i64 t, .int .i64 n, .int .i64 x.popped, .int .i64 x.gave, .int .i64 x.u, .int .i64 x.sh, .int .i64 x.kd, .int .i64 x.ky, .bool x.only, .int .i64 x.att, .int .i64 5, .int .u64 x.found, .int .u64 x.word]), memC 2 s, memX s] (LeafM 3 0 [] [] (exP t n) K) := by
  exact callOk_of (E := EX2) Try.checked.mixed (L := LL) (n := 10) (of_nf (q := (exT_5 t n x s).run K) (by kernel_rfl) h)
def exT_6 (t n : Int) (x : EXS) (s : MS) : Tr ExO := .pre True (.pre True (.pre ((0 : Int) ≤ cutI x.11 25 18 ∧ cutI x.11 25 (18 : Int) ≤ (1000000 : Int)) (.pre (List.length s.3 = List.length s.3) (.pre True (.pre True (.pre ((List.length s.3 = List.length s.3 ∧ (0 : Int) ≤ s.4 ∧ s.4 ≤ (4611686018427387904 : Int)) ∧ True) (.pre ((t = t ∧ n = n) ∧ List.length (bif casB s.3 (cutI x.10 12 9) x.11 then putI s.3 (cutI x.10 12 9) (bif bif fitI (cutI x.11 0 10) 10 then bif fitI (cutI x.11 10 9) 9 then bif fitI 0 5 then fitI (newerI (cutI x.11 25 18)) 18 else false else false else false then putV (cutI x.11 0 10) (cutI x.11 10 9) (ieq (cutI x.11 19 1) 1) 0 (newerI (cutI x.11 25 18)) else 0) else s.3) = List.length (bif casB s.3 (cutI x.10 12 9) x.11 then putI s.3 (cutI x.10 12 9) (bif bif fitI (cutI x.11 0 10) 10 then bif fitI (cutI x.11 10 9) 9 then bif fitI 0 5 then fitI (newerI (cutI x.11 25 18)) 18 else false else false else false then putV (cutI x.11 0 10) (cutI x.11 10 9) (ieq (cutI x.11 19 1) 1) 0 (newerI (cutI x.11 25 18)) else 0) else s.3)) (.ret { d := false, x := { popped := x.1, gave := x.2, u := x.3, sh := x.4, kd := x.5, ky := x.6, only := x.7, att := x.8, at' := 7, found := x.10, word := x.11 }, s := { t := s.1, n := s.2, xs := bif casB s.3 (cutI x.10 12 9) x.11 then putI s.3 (cutI x.10 12 9) (bif bif fitI (cutI x.11 0 10) 10 then bif fitI (cutI x.11 10 9) 9 then bif fitI 0 5 then fitI (newerI (cutI x.11 25 18)) 18 else false else false else false then putV (cutI x.11 0 10) (cutI x.11 10 9) (ieq (cutI x.11 19 1) 1) 0 (newerI (cutI x.11 25 18)) else 0) else s.3, c := s.4 + 1, k := 3, a := cutI x.10 12 9, o := peek s.3 (cutI x.10 12 9), w := bif inB s.3 (cutI x.10 12 9) then bif bif fitI (cutI x.11 0 10) 10 then bif fitI (cutI x.11 10 9) 9 then bif fitI 0 5 then fitI (newerI (cutI x.11 25 18)) 18 else false else false else false then putV (cutI x.11 0 10) (cutI x.11 10 9) (ieq (cutI x.11 19 1) 1) 0 (newerI (cutI x.11 25 18)) else 0 else 0, ok := casB s.3 (cutI x.10 12 9) x.11 } }))))))))
theorem exT_6_sum (t n : Int) (x : EXS) (s : MS) (K : ExO → Prop) (h : (exT_6 t n x s).run K) : CallOk (obI tbl) Try.prog 22 [.ptr 0 0, .ptr 1 0] [some (.cells [.int .i64 t, .int .i64 n, .int .i64 x.popped, .int .i64 x.gave, .int .i64 x.u, .int .i64 x.sh, .int .i64 x.kd, .int .i64 x.ky, .bool x.only, .int .i64 x.att, .int .i64 6, .int .u64 x.found, .int .u64 x.word]), memC 2 s, memX s] (LeafM 3 0 [] [] (exP t n) K) := by
  exact callOk_of (E := EX2) Try.checked.mixed (L := LL) (n := 10) (of_nf (q := (exT_6 t n x s).run K) (by kernel_rfl) h)
def exT_7 (t n : Int) (x : EXS) (s : MS) : Tr ExO := .pre True (.pre True (.pre True (.pre (List.length s.3 = List.length s.3) (.pre True (.pre ((((0 : Int) ≤ t ∧ t ≤ (100000 : Int)) ∧ ((0 : Int) ≤ n ∧ n ≤ (100000 : Int)) ∧ (-1099511627776 : Int) ≤ x.3 ∧ x.3 ≤ (1099511627776 : Int)) ∧ True) (.pre ((List.length s.3 = List.length s.3 ∧ (0 : Int) ≤ s.4 ∧ s.4 ≤ (4611686018427387904 : Int)) ∧ True) (.pre ((t = t ∧ n = n) ∧ List.length (bif casB s.3 (2 * n + 5 + 2 * t + 3 * x.3 + 2) x.10 then putI s.3 (2 * n + 5 + 2 * t + 3 * x.3 + 2) (bif dOk (cutI x.10 0 12) 0 0 0 5 (cutI x.10 52 10) then dPutV (cutI x.10 0 12) 0 0 0 true 5 (cutI x.10 52 10) else 0) else s.3) = List.length (bif casB s.3 (2 * n + 5 + 2 * t + 3 * x.3 + 2) x.10 then putI s.3 (2 * n + 5 + 2 * t + 3 * x.3 + 2) (bif dOk (cutI x.10 0 12) 0 0 0 5 (cutI x.10 52 10) then dPutV (cutI x.10 0 12) 0 0 0 true 5 (cutI x.10 52 10) else 0) else s.3)) (.ret { d := true, x := { popped := x.1, gave := x.2, u := x.3, sh := x.4, kd := x.5, ky := x.6, only := x.7, att := x.8, at' := 7, found := x.10, word := x.11 }, s := { t := s.1, n := s.2, xs := bif casB s.3 (2 * n + 5 + 2 * t + 3 * x.3 + 2) x.10 then putI s.3 (2 * n + 5 + 2 * t + 3 * x.3 + 2) (bif dOk (cutI x.10 0 12) 0 0 0 5 (cutI x.10 52 10) then dPutV (cutI x.10 0 12) 0 0 0 true 5 (cutI x.10 52 10) else 0) else s.3, c := s.4 + 1, k := 3, a := 2 * n + 5 + 2 * t + 3 * x.3 + 2, o := peek s.3 (2 * n + 5 + 2 * t + 3 * x.3 + 2), w := bif inB s.3 (2 * n + 5 + 2 * t + 3 * x.3 + 2) then bif dOk (cutI x.10 0 12) 0 0 0 5 (cutI x.10 52 10) then dPutV (cutI x.10 0 12) 0 0 0 true 5 (cutI x.10 52 10) else 0 else 0, ok := casB s.3 (2 * n + 5 + 2 * t + 3 * x.3 + 2) x.10 } }))))))))
theorem exT_7_sum (t n : Int) (x : EXS) (s : MS) (K : ExO → Prop) (h : (exT_7 t n x s).run K) : CallOk (obI tbl) Try.prog 22 [.ptr 0 0, .ptr 1 0] [some (.cells [.int .i64 t, .int .i64 n, .int .i64 x.popped, .int .i64 x.gave, .int .i64 x.u, .int .i64 x.sh, .int .i64 x.kd, .int .i64 x.ky, .bool x.only, .int .i64 x.att, .int .i64 7, .int .u64 x.found, .int .u64 x.word]), memC 2 s, memX s] (LeafM 3 0 [] [] (exP t n) K) := by
  exact callOk_of (E := EX2) Try.checked.mixed (L := LL) (n := 10) (of_nf (q := (exT_7 t n x s).run K) (by kernel_rfl) h)
def exT_8 (t n : Int) (x : EXS) (s : MS) : Tr ExO := .pre True (.pre True (.pre ((0 : Int) ≤ cutI x.10 0 12 ∧ cutI x.10 0 (12 : Int) ≤ (1000000 : Int)) (.pre (List.length s.3 = List.length s.3 ∧ True ∧ ((((0 : Int) ≤ t ∧ t ≤ (100000 : Int)) ∧ ((0 : Int) ≤ n ∧ n ≤ (100000 : Int)) ∧ (-1099511627776 : Int) ≤ x.3 ∧ x.3 ≤ (1099511627776 : Int)) ∧ True) ∧ ((List.length s.3 = List.length s.3 ∧ (0 : Int) ≤ s.4 ∧ s.4 ≤ (4611686018427387904 : Int)) ∧ True) ∧ True) (.ite (!casB s.3 (2 * n + 5 + 2 * t + 3 * x.3 + 2) x.10) (.pre ((t = t ∧ n = n) ∧ List.length (bif casB s.3 (2 * n + 5 + 2 * t + 3 * x.3 + 2) x.10 then putI s.3 (2 * n + 5 + 2 * t + 3 * x.3 + 2) (bif dOk (attI (cutI x.10 0 12)) 0 0 0 1 0 then dPutV (attI (cutI x.10 0 12)) 0 0 0 false 1 0 else 0) else s.3) = List.length (bif casB s.3 (2 * n + 5 + 2 * t + 3 * x.3 + 2) x.10 then putI s.3 (2 * n + 5 + 2 * t + 3 * x.3 + 2) (bif dOk (attI (cutI x.10 0 12)) 0 0 0 1 0 then dPutV (attI (cutI x.10 0 12)) 0 0 0 false 1 0 else 0) else s.3)) (.ret { d := true, x := { popped := x.1, gave := x.2, u := x.3, sh := x.4, kd := x.5, ky := x.6, only := x.7, att := x.8, at' := 9, found := x.10, word := x.11 }, s := { t := s.1, n := s.2, xs := bif casB s.3 (2 * n + 5 + 2 * t + 3 * x.3 + 2) x.10 then putI s.3 (2 * n + 5 + 2 * t + 3 * x.3 + 2) (bif dOk (attI (cutI x.10 0 12)) 0 0 0 1 0 then dPutV (attI (cutI x.10 0 12)) 0 0 0 false 1 0 else 0) else s.3, c := s.4 + 1, k := 3, a := 2 * n + 5 + 2 * t + 3 * x.3 + 2, o := peek s.3 (2 * n + 5 + 2 * t + 3 * x.3 + 2), w := bif inB s.3 (2 * n + 5 + 2 * t + 3 * x.3 + 2) then bif dOk (attI (cutI x.10 0 12)) 0 0 0 1 0 then dPutV (attI (cutI x.10 0 12)) 0 0 0 false 1 0 else 0 else 0, ok := casB s.3 (2 * n + 5 + 2 * t + 3 * x.3 + 2) x.10 } })) (.pre True (.ite (!linksB x.5) (.pre ((t = t ∧ n = n) ∧ List.length (bif casB s.3 (2 * n + 5 + 2 * t + 3 * x.3 + 2) x.10 then putI s.3 (2 * n + 5 + 2 * t + 3 * x.3 + 2) (bif dOk (attI (cutI x.10 0 12)) 0 0 0 1 0 then dPutV (attI (cutI x.10 0 12)) 0 0 0 false 1 0 else 0) else s.3) = List.length (bif casB s.3 (2 * n + 5 + 2 * t + 3 * x.3 + 2) x.10 then putI s.3 (2 * n + 5 + 2 * t + 3 * x.3 + 2) (bif dOk (attI (cutI x.10 0 12)) 0 0 0 1 0 then dPutV (attI (cutI x.10 0 12)) 0 0 0 false 1 0 else 0) else s.3)) (.ret { d := true, x := { popped := x.1, gave := x.2, u := x.3, sh := x.4, kd := x.5, ky := x.6, only := x.7, att := x.8, at' := 9, found := x.10, word := x.11 }, s := { t := s.1, n := s.2, xs := bif casB s.3 (2 * n + 5 + 2 * t + 3 * x.3 + 2) x.10 then putI s.3 (2 * n + 5 + 2 * t + 3 * x.3 + 2) (bif dOk (attI (cutI x.10 0 12)) 0 0 0 1 0 then dPutV (attI (cutI x.10 0 12)) 0 0 0 false 1 0 else 0) else s.3, c := s.4 + 1, k := 3, a := 2 * n + 5 + 2 * t + 3 * x.3 + 2, o := peek s.3 (2 * n + 5 + 2 * t + 3 * x.3 + 2), w := bif inB s.3 (2 * n + 5 + 2 * t + 3 * x.3 + 2) then bif dOk (attI (cutI x.10 0 12)) 0 0 0 1 0 then dPutV (attI (cutI x.10 0 12)) 0 0 0 false 1 0 else 0 else 0, ok := casB s.3 (2 * n + 5 + 2 * t + 3 * x.3 + 2) x.10 } })) (.pre (True ∧ True) (.pre ((t = t ∧ n = n) ∧ List.length (bif casB s.3 (2 * n + 5 + 2 * t + 3 * x.3 + 2) x.10 then putI s.3 (2 * n + 5 + 2 * t + 3 * x.3 + 2) (bif dOk (attI (cutI x.10 0 12)) 0 0 0 1 0 then dPutV (attI (cutI x.10 0 12)) 0 0 0 false 1 0 else 0) else s.3) = List.length (bif casB s.3 (2 * n + 5 + 2 * t + 3 * x.3 + 2) x.10 then putI s.3 (2 * n + 5 + 2 * t + 3 * x.3 + 2) (bif dOk (attI (cutI x.10 0 12)) 0 0 0 1 0 then dPutV (attI (cutI x.10 0 12)) 0 0 0 false 1 0 else 0) else s.3)) (.ret { d := !nodeB n (cutI x.10 39 9), x := { popped := x.1, gave := x.2, u := x.3, sh := x.4, kd := x.5, ky := x.6, only := x.7, att := x.8, at' := 9, found := x.10, word := x.11 }, s := { t := s.1, n := s.2, xs := bif casB s.3 (2 * n + 5 + 2 * t + 3 * x.3 + 2) x.10 then putI s.3 (2 * n + 5 + 2 * t + 3 * x.3 + 2) (bif dOk (attI (cutI x.10 0 12)) 0 0 0 1 0 then dPutV (attI (cutI x.10 0 12)) 0 0 0 false 1 0 else 0) else s.3, c := s.4 + 1, k := 3, a := 2 * n + 5 + 2 * t + 3 * x.3 + 2, o := peek s.3 (2 * n + 5 + 2 * t + 3 * x.3 + 2), w := bif inB s.3 (2 * n + 5 + 2 * t + 3 * x.3 + 2) then bif dOk (attI (cutI x.10 0 12)) 0 0 0 1 0 then dPutV (attI (cutI x.10 0 12)) 0 0 0 false 1 0 else 0 else 0, ok := casB s.3 (2 * n + 5 + 2 * t + 3 * x.3 + 2) x.10 } })))))))))
theorem exT_8_sum (t n : Int) (x : EXS) (s : MS) (K : ExO → Prop) (h : (exT_8 t n x s).run K) : CallOk (obI tbl) Try.prog 22 [.ptr 0 0, .ptr 1 0] [some (.cells [.int .i64 t, .int .i64 n, .int .i64 x.popped, .int .i64 x.gave, .int .i64 x.u, .int .i64 x.sh, .int .i64 x.kd, .int .i64 x.ky, .bool x.only, .int .i64 x.att, .int .i64 8, .int .u64 x.found, .int .u64 x.word]), memC 2 s, memX s] (LeafM 3 0 [] [] (exP t n) K) := by
  exact callOk_of (E := EX2) Try.checked.mixed (L := LL) (n := 10) (of_nf (q := (exT_8 t n x s).run K) (by kernel_rfl) h)
def exT_9 (t n : Int) (x : EXS) (s : MS) : Tr ExO := .pre True (.pre True (.pre ((((0 : Int) ≤ t ∧ t ≤ (100000 : Int)) ∧ ((0 : Int) ≤ n ∧ n ≤ (100000 : Int)) ∧ (-1099511627776 : Int) ≤ cutI x.10 39 9 ∧ cutI x.10 39 (9 : Int) ≤ (1099511627776 : Int)) ∧ True) (.pre ((List.length s.3 = List.length s.3 ∧ (0 : Int) ≤ s.4 ∧ s.4 ≤ (4611686018427387904 : Int)) ∧ True) (.pre ((t = t ∧ n = n) ∧ List.length (putI s.3 (n + 4 + cutI x.10 39 9) (WU (peek s.3 (n + 4 + cutI x.10 39 9) + 1))) = List.length (putI s.3 (n + 4 + cutI x.10 39 9) (WU (peek s.3 (n + 4 + cutI x.10 39 9) + 1)))) (.ret { d := true, x := { popped := x.1, gave := cutI x.10 39 9, u := x.3, sh := x.4, kd := x.5, ky := x.6, only := x.7, att := x.8, at' := 9, found := x.10, word := x.11 }, s := { t := s.1, n := s.2, xs := putI s.3 (n + 4 + cutI x.10 39 9) (WU (peek s.3 (n + 4 + cutI x.10 39 9) + 1)), c := s.4 + 1, k := 4, a := n + 4 + cutI x.10 39 9, o := peek s.3 (n + 4 + cutI x.10 39 9), w := bif inB s.3 (n + 4 + cutI x.10 39 9) then WU (peek s.3 (n + 4 + cutI x.10 39 9) + 1) else 0, ok := inB s.3 (n + 4 + cutI x.10 39 9) } })))))
theorem exT_9_sum (t n : Int) (x : EXS) (s : MS) (K : ExO → Prop) (h : (exT_9 t n x s).run K) : CallOk (obI tbl) Try.prog 22 [.ptr 0 0, .ptr 1 0] [some (.cells [.int .i64 t, .int .i64 n, .int .i64 x.popped, .int .i64 x.gave, .int .i64 x.u, .int .i64 x.sh, .int .i64 x.kd, .int .i64 x.ky, .bool x.only, .int .i64 x.att, .int .i64 9, .int .u64 x.found, .int .u64 x.word]), memC 2 s, memX s] (LeafM 3 0 [] [] (exP t n) K) := by
  exact callOk_of (E := EX2) Try.checked.mixed (L := LL) (n := 10) (of_nf (q := (exT_9 t n x s).run K) (by kernel_rfl) h)
def exT (t n : Int) (x : EXS) (s : MS) : Tr ExO :=
  bif ieq x.at' 0 then exT_0 t n x s else
  bif ieq x.at' 1 then exT_1 t n x s else
  bif ieq x.at' 2 then exT_2 t n x s else
  bif ieq x.at' 3 then exT_3 t n x s else
  bif ieq x.at' 4 then exT_4 t n x s else
  bif ieq x.at' 5 then exT_5 t n x s else
  bif ieq x.at' 6 then exT_6 t n x s else
  bif ieq x.at' 7 then exT_7 t n x s else
  bif ieq x.at' 8 then exT_8 t n x s else
  bif ieq x.at' 9 then exT_9 t n x s else .pre False (.ret default)
def exF (t n : Int) (x : EXS) (s : MS) : ExO := (exT t n x s).val
def exOk (t n : Int) (x : EXS) (s : MS) : Prop := (exT t n x s).ok
theorem ex_step (t n : Int) (x : EXS) (s : MS) (K : AVal → Heap Ob → Prop) (h : (exT t n x s).run (fun y => (ExO.fin t n y).run K)) : CallOk (obI tbl) Try.prog 22 [.ptr 0 0, .ptr 1 0] (exH t n x s) K := by
  unfold exT at h
  by_cases e : x.at' = 0
  · rw [e] at h
    have h : (exT_0 t n x s).run _ := h
    refine CallOk.openM (root := 0) (pos := []) (cs := []) (parse := exP t n) (fin := ExO.fin t n) exP_ok (Opens.unpack (.exec t n x) 0 0 (execG0 t n x) [] rfl (congrArg (Prod.mk 0) rfl) (by kernel_rfl) rfl) ?_
    have q := exT_0_sum t n x s _ h
    rw [← e] at q
    exact q
  rw [ieq_n e] at h
  by_cases e : x.at' = 1
  · rw [e] at h
    have h : (exT_1 t n x s).run _ := h
    refine CallOk.openM (root := 0) (pos := []) (cs := []) (parse := exP t n) (fin := ExO.fin t n) exP_ok (Opens.unpack (.exec t n x) 0 0 (execG0 t n x) [] rfl (congrArg (Prod.mk 0) rfl) (by kernel_rfl) rfl) ?_
    have q := exT_1_sum t n x s _ h
    rw [← e] at q
    exact q
  rw [ieq_n e] at h
  by_cases e : x.at' = 2
  · rw [e] at h
    have h : (exT_2 t n x s).run _ := h
    refine CallOk.openM (root := 0) (pos := []) (cs := []) (parse := exP t n) (fin := ExO.fin t n) exP_ok (Opens.unpack (.exec t n x) 0 0 (execG0 t n x) [] rfl (congrArg (Prod.mk 0) rfl) (by kernel_rfl) rfl) ?_
    have q := exT_2_sum t n x s _ h
    rw [← e] at q
    exact q
  rw [ieq_n e] at h
  by_cases e : x.at' = 3
  · rw [e] at h
    have h : (exT_3 t n x s).run _ := h
    refine CallOk.openM (root := 0) (pos := []) (cs := []) (parse := exP t n) (fin := ExO.fin t n) exP_ok (Opens.unpack (.exec t n x) 0 0 (execG0 t n x) [] rfl (congrArg (Prod.mk 0) rfl) (by kernel_rfl) rfl) ?_
    have q := exT_3_sum t n x s _ h
    rw [← e] at q
    exact q
  rw [ieq_n e] at h
  by_cases e : x.at' = 4
  · rw [e] at h
    have h : (exT_4 t n x s).run _ := h
    refine CallOk.openM (root := 0) (pos := []) (cs := []) (parse := exP t n) (fin := ExO.fin t n) exP_ok (Opens.unpack (.exec t n x) 0 0 (execG0 t n x) [] rfl (congrArg (Prod.mk 0) rfl) (by kernel_rfl) rfl) ?_
    have q := exT_4_sum t n x s _ h
    rw [← e] at q
    exact q
  rw [ieq_n e] at h
  by_cases e : x.at' = 5
  · rw [e] at h
    have h : (exT_5 t n x s).run _ := h
    refine CallOk.openM (root := 0) (pos := []) (cs := []) (parse := exP t n) (fin := ExO.fin t n) exP_ok (Opens.unpack (.exec t n x) 0 0 (execG0 t n x) [] rfl (congrArg (Prod.mk 0) rfl) (by kernel_rfl) rfl) ?_
    have q := exT_5_sum t n x s _ h
    rw [← e] at q
    exact q
  rw [ieq_n e] at h
  by_cases e : x.at' = 6
  · rw [e] at h
    have h : (exT_6 t n x s).run _ := h
    refine CallOk.openM (root := 0) (pos := []) (cs := []) (parse := exP t n) (fin := ExO.fin t n) exP_ok (Opens.unpack (.exec t n x) 0 0 (execG0 t n x) [] rfl (congrArg (Prod.mk 0) rfl) (by kernel_rfl) rfl) ?_
    have q := exT_6_sum t n x s _ h
    rw [← e] at q
    exact q
  rw [ieq_n e] at h
  by_cases e : x.at' = 7
  · rw [e] at h
    have h : (exT_7 t n x s).run _ := h
    refine CallOk.openM (root := 0) (pos := []) (cs := []) (parse := exP t n) (fin := ExO.fin t n) exP_ok (Opens.unpack (.exec t n x) 0 0 (execG0 t n x) [] rfl (congrArg (Prod.mk 0) rfl) (by kernel_rfl) rfl) ?_
    have q := exT_7_sum t n x s _ h
    rw [← e] at q
    exact q
  rw [ieq_n e] at h
  by_cases e : x.at' = 8
  · rw [e] at h
    have h : (exT_8 t n x s).run _ := h
    refine CallOk.openM (root := 0) (pos := []) (cs := []) (parse := exP t n) (fin := ExO.fin t n) exP_ok (Opens.unpack (.exec t n x) 0 0 (execG0 t n x) [] rfl (congrArg (Prod.mk 0) rfl) (by kernel_rfl) rfl) ?_
    have q := exT_8_sum t n x s _ h
    rw [← e] at q
    exact q
  rw [ieq_n e] at h
  by_cases e : x.at' = 9
  · rw [e] at h
    have h : (exT_9 t n x s).run _ := h
    refine CallOk.openM (root := 0) (pos := []) (cs := []) (parse := exP t n) (fin := ExO.fin t n) exP_ok (Opens.unpack (.exec t n x) 0 0 (execG0 t n x) [] rfl (congrArg (Prod.mk 0) rfl) (by kernel_rfl) rfl) ?_
    have q := exT_9_sum t n x s _ h
    rw [← e] at q
    exact q
  rw [ieq_n e] at h
  exact h.1.elim
noncomputable def exS : Spec Ob := fun args h => match args, h with
  | [.ptr 0 0, .ptr 1 0], [some (.abs (.exec t n x) []), e1, e2] => (match memL 2 [e1, e2] with
    | some (l, s) => some (.pre (l = s.xs.length ∧ exOk t n x s) (ExO.fin t n (exF t n x s)))
    | none => none)
  | _, _ => none
theorem ex_ok : Spec.ok (obI tbl) Try.prog 22 exS := by
  intro args h o ho K hK
  unfold exS at ho
  split at ho
  case h_2 => cases ho
  split at ho
  case h_2 => cases ho
  rename_i hm
  simp only [Option.some.injEq] at ho; subst ho
  obtain ⟨⟨hl, ok⟩, hK⟩ := hK
  have hh := memL_eq hm hl
  simp only [List.cons.injEq, and_true] at hh
  obtain ⟨rfl, rfl⟩ := hh
  exact ex_step _ _ _ _ K (Tr.run_of ok hK)
def exNP (t n : Int) (v : AVal) (g : Heap Ob) : Option (Prop × EXS) := match v, g with
  | .ptr 0 0, [some (.cells [.int .i64 t1, .int .i64 n1, .int .i64 popped, .int .i64 gave, .int .i64 u, .int .i64 sh, .int .i64 kd, .int .i64 ky, .bool only, .int .i64 att, .int .i64 at', .int .u64 found, .int .u64 word])] => some ((t1 = t ∧ n1 = n), (⟨popped, gave, u, sh, kd, ky, only, att, at', found, word⟩ : EXS))
  | _, _ => none
abbrev exNH (t n : Int) (y : EXS) : Heap Ob := [some (.abs (.exec t n y) [])]
theorem exNP_ok {t n : Int} : Reads (obI tbl) 0 (exNP t n) (fun y => .ret (.ptr 0 0) (exNH t n y)) := by
  intro v g p x hp hq K hK
  unfold exNP at hp
  split at hp
  case h_2 => cases hp
  rename_i t1 n1 popped gave u sh kd ky only att at' found word
  simp only [Option.some.injEq, Prod.mk.injEq] at hp
  obtain ⟨rfl, rfl⟩ := hp
  obtain ⟨rfl, rfl⟩ := hq
  exact ⟨⟨_, _, Tells.pack (exNH t1 n1 (⟨popped, gave, u, sh, kd, ky, only, att, at', found, word⟩ : EXS)) (.exec t1 n1 (⟨popped, gave, u, sh, kd, ky, only, att, at', found, word⟩ : EXS)) 0 0 (execG0 t1 n1 (⟨popped, gave, u, sh, kd, ky, only, att, at', found, word⟩ : EXS)) [] (by kernel_rfl) rfl (congrArg (Prod.mk 0) rfl) (by kernel_rfl), hK⟩⟩
noncomputable def EC6 := ((EX2.addS 22 exS ex_ok))
end Go.Sh

