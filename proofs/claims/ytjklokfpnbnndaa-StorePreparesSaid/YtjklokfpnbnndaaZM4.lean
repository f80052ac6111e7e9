/- The example of a store. -/
import Derived.Test.YtjklokfpnbnndaaZM3
set_option linter.all false
set_option linter.unusedVariables false
set_option linter.unusedSectionVars false
namespace Go.Sh
open Go Go.Proofs
variable [Con]
noncomputable def LL : FuncId → Nat → Option (Plan Unit) := fun _ _ => some (.rounds 12)

def awake13S : Spec Unit := fun args h => match args, h with
  | [], [] => some (.pre (True) (.ret (.bool true) ([])))
  | _, _ => none
theorem awake13_ok : Spec.ok E4.I Try.prog 14 awake13S := by
  intro args h o ho K hK
  unfold awake13S at ho
  split at ho
  case h_2 => cases ho
  skip
  simp only [Option.some.injEq] at ho; subst ho
  obtain ⟨hp, hK⟩ := hK
  have hK : K (.bool true) ([]) := hK
  refine CallOk.trim (callOk_of (E := E4) Try.checked.mixed (L := LL) (n := 10) (of_nf (q := True ∧ (((0 : Int) ≤ (2 : Int) ∧ (2 : Int) ≤ (100000 : Int)) ∧ (0 : Int) ≤ (4 : Int) ∧ (4 : Int) ≤ (100000 : Int)) ∧ ((((0 : Int) ≤ (2 : Int) ∧ (2 : Int) ≤ (100000 : Int)) ∧ (0 : Int) ≤ (4 : Int) ∧ (4 : Int) ≤ (100000 : Int)) ∧ True) ∧ ((0 : Int) ≤ (2 : Int) * 4 + 5 * 2 + 6 ∧ 2 * 4 + 5 * 2 + (6 : Int) = (2 : Int) * 4 + 5 * 2 + 6 ∧ 2 * 4 + 5 * 2 + (6 : Int) ≤ (4294967296 : Int)) ∧ ((0 : Int) ≤ (0 : Int) ∧ (0 : Int) < (↑1 : Int)) ∧ (((0 : Int) ≤ (1 : Int) ∧ (1 : Int) ≤ (100000 : Int)) ∧ (0 : Int) ≤ (4 : Int) ∧ (4 : Int) ≤ (100000 : Int)) ∧ (True ∧ True) ∧ ((((0 : Int) ≤ (2 : Int) ∧ (2 : Int) ≤ (100000 : Int)) ∧ ((0 : Int) ≤ (4 : Int) ∧ (4 : Int) ≤ (100000 : Int)) ∧ (-1099511627776 : Int) ≤ firstV 2 4 1 ∧ firstV 2 4 (1 : Int) ≤ (1099511627776 : Int)) ∧ True) ∧ ((24 = 24 ∧ (0 : Int) ≤ (0 : Int) ∧ (0 : Int) ≤ (4611686018427387904 : Int)) ∧ True) ∧ (2 : Int) ≠ (0 : Int) ∧ ((((0 : Int) ≤ (2 : Int) ∧ (2 : Int) ≤ (100000 : Int)) ∧ ((0 : Int) ≤ (4 : Int) ∧ (4 : Int) ≤ (100000 : Int)) ∧ (-1099511627776 : Int) ≤ firstV 2 4 1 ∧ firstV 2 4 (1 : Int) ≤ (1099511627776 : Int)) ∧ True) ∧ ((24 = 24 ∧ (0 : Int) ≤ (0 : Int) + 1 ∧ 0 + (1 : Int) ≤ (4611686018427387904 : Int)) ∧ True) ∧ True ∧ (((0 : Int) ≤ (2 : Int) ∧ (2 : Int) ≤ (100000 : Int)) ∧ ((0 : Int) ≤ (4 : Int) ∧ (4 : Int) ≤ (100000 : Int)) ∧ (-1099511627776 : Int) ≤ (3 : Int) ∧ (3 : Int) ≤ (1099511627776 : Int)) ∧ (24 = 24 ∧ True) ∧ (2 : Int) ≠ (0 : Int) ∧ K (AVal.bool true) []) (by kernel_rfl) ?_))
  have hf : firstV 2 4 1 = 3 := by decide
  simp only [hf]
  simp
  exact hK

noncomputable def E5 := E4.addS 14 awake13S awake13_ok

end Go.Sh
