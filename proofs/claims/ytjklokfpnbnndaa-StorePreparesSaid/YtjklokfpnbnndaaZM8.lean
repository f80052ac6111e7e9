/- The kinds of a shape. -/
import Derived.Test.YtjklokfpnbnndaaZM7
set_option linter.all false
set_option linter.unusedVariables false
set_option linter.unusedSectionVars false
namespace Go.Sh
open Go Go.Proofs
variable [Con]
/- OPQ -/
def kindsL (s : Int) : List Int := bif ieq s 1 || ieq s 2 then [1, 2, 3] else bif ieq s 3 || ieq s 4 then [4, 5] else []
def kindsS : Spec Unit := fun args h => match args, h with
  | [.int .i64 s], [] => some (.ret (.slice 0 0 (kindsL s).length 1) [some (.ints (some .i64) (kindsL s))])
  | _, _ => none
theorem kinds_ok : Spec.ok E7.I Try.prog 110 kindsS := by
  intro args h o ho K hK
  unfold kindsS at ho
  split at ho
  case h_2 => cases ho
  rename_i s
  simp only [Option.some.injEq] at ho; subst ho
  have hK : K (.slice 0 0 (kindsL s).length 1) [some (.ints (some .i64) (kindsL s))] := hK
  refine CallOk.trim (CallOk.castR (cs := [(.slot 0, .ints (some .i64))]) (callOk_of (E := E7) Try.checked.mixed (L := LL) (n := 10) (of_nf (q := bif ieq s 1 then K (AVal.slice 0 0 3 1) [some (Entry.ints (some .i64) [1, 2, 3])] else bif ieq s 2 then K (AVal.slice 0 0 3 1) [some (Entry.ints (some .i64) [1, 2, 3])] else bif ieq s 3 then K (AVal.slice 0 0 2 1) [some (Entry.ints (some .i64) [4, 5])] else bif ieq s 4 then K (AVal.slice 0 0 2 1) [some (Entry.ints (some .i64) [4, 5])] else K (AVal.slice 0 0 0 1) [some (Entry.ints (some .i64) [])]) (by kernel_rfl) ?_)))
  unfold kindsL at hK
  cases e1 : ieq s 1 <;> cases e2 : ieq s 2 <;> cases e3 : ieq s 3 <;> cases e4 : ieq s 4 <;> simp only [e1, e2, e3, e4, Bool.or_true, Bool.or_false, Bool.true_or, Bool.false_or, cond_true, cond_false] at hK ⊢ <;> exact hK
noncomputable def E8 := E7.addS 110 kindsS kinds_ok
end Go.Sh
