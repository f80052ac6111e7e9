/- Whether an operation is one of a shape. -/
import Derived.Test.YtjklokfpnbnndaaZM9
set_option linter.all false
set_option linter.unusedVariables false
set_option linter.unusedSectionVars false
namespace Go.Sh
open Go Go.Proofs
variable [Con]
theorem kindsL_len (s : Int) : (kindsL s).length ≤ 3 := by
  unfold kindsL
  cases (ieq s 1 || ieq s 2) <;> cases (ieq s 3 || ieq s 4) <;> simp
/- OPQ -/
def rightT (s k y : Int) : Bool := hasB (kindsL s) k && (ile 0 y && ile y (bif ieq k 5 then 0 else 999))
def rightS : RSpec Unit := fun args h => match args, h with
  | [.int .i64 s, .agg [.int .i64 k, .int .i64 y]], [] => some (True, .bool (rightT s k y))
  | _, _ => none
theorem right_ok : Spec.ok E9.I Try.prog 105 rightS.spec := by
  intro args h o ho K hK
  unfold RSpec.spec at ho
  split at ho
  case h_2 => cases ho
  rename_i p v hv
  unfold rightS at hv
  split at hv
  case h_2 => cases hv
  rename_i s k y
  simp only [Option.some.injEq, Prod.mk.injEq] at hv
  obtain ⟨rfl, rfl⟩ := hv
  simp only [Option.some.injEq] at ho; subst ho
  obtain ⟨_, hK⟩ := hK
  have hK : K (.bool (rightT s k y)) [] := hK
  refine CallOk.trim (callOk_of (E := E9) Try.checked.mixed (L := LL) (n := 10) (of_nf (q := bif ieq k 5 then (List.length (kindsL s) = List.length (kindsL s) ∧ List.length (kindsL s) ≤ (4294967296 : Nat)) ∧ bif hasB (kindsL s) k then bif ile 0 y then K (AVal.bool (ile y 0)) [] else K (AVal.bool false) [] else K (AVal.bool false) [] else (List.length (kindsL s) = List.length (kindsL s) ∧ List.length (kindsL s) ≤ (4294967296 : Nat)) ∧ bif hasB (kindsL s) k then bif ile 0 y then K (AVal.bool (ile y 999)) [] else K (AVal.bool false) [] else K (AVal.bool false) []) (by kernel_rfl) ?_))
  have hl := kindsL_len s
  unfold rightT at hK
  refine cond_go (fun e1 => ⟨⟨rfl, by omega⟩, cond_go (fun e2 => cond_go (fun e3 => ?_) (fun e3 => ?_)) (fun e2 => ?_)⟩) (fun e1 => ⟨⟨rfl, by omega⟩, cond_go (fun e2 => cond_go (fun e3 => ?_) (fun e3 => ?_)) (fun e2 => ?_)⟩) <;>
    (simp only [e1, e2, cond_true, cond_false, Bool.true_and, Bool.false_and] at hK <;> first | (simp only [e3, Bool.true_and, Bool.false_and] at hK; exact hK) | exact hK)
noncomputable def E10 := E9.addR 105 rightS right_ok
end Go.Sh
