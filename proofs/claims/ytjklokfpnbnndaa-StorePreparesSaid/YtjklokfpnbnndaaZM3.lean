/- A store's first node; a machine that takes a node, begun. -/
import Derived.Test.YtjklokfpnbnndaaZM2
set_option linter.all false
set_option linter.unusedVariables false
set_option linter.unusedSectionVars false
namespace Go.Sh
open Go Go.Proofs
variable [Con]
def firstV (t n me : Int) : Int := if t < 1 then 1 else 1 + Int.tdiv (me * n) t
theorem tdiv_in {x t : Int} (h : 0 ≤ x) (ht : 1 ≤ t) : 0 ≤ Int.tdiv x t ∧ Int.tdiv x t ≤ x := by
  rw [Int.tdiv_eq_ediv_of_nonneg h]
  exact ⟨Int.ediv_nonneg h (by omega), Int.ediv_le_self t h⟩

def first0S : Spec Unit := fun args h => match args, h with
  | [.ptr 0 0], some (.cells (.int .i64 t :: .int .i64 n :: .int .i64 me :: tl)) :: rest => some (.pre ((0 ≤ me ∧ me ≤ 100000) ∧ (0 ≤ n ∧ n ≤ 100000)) (.ret (.int .i64 (firstV t n me)) (some (.cells (.int .i64 t :: .int .i64 n :: .int .i64 me :: tl)) :: rest)))
  | _, _ => none
theorem first0_ok : Spec.ok E3.I Try.prog 138 first0S := by
  intro args h o ho K hK
  unfold first0S at ho
  split at ho
  case h_2 => cases ho
  rename_i t n me tl rest
  simp only [Option.some.injEq] at ho; subst ho
  obtain ⟨hp, hK⟩ := hK
  have hK : K (.int .i64 (firstV t n me)) (some (.cells (.int .i64 t :: .int .i64 n :: .int .i64 me :: tl)) :: rest) := hK
  refine (callOk_of (E := E3) Try.checked.mixed (L := fun _ _ => none) (n := 10) (of_nf (q := bif ilt t 1 then K (AVal.int .i64 1) (some (Entry.cells (AVal.int .i64 t :: AVal.int .i64 n :: AVal.int .i64 me :: tl)) :: rest) else t ≠ (0 : Int) ∧ K (AVal.int .i64 (W (1 + W (Int.tdiv (W (me * n)) t)))) (some (Entry.cells (AVal.int .i64 t :: AVal.int .i64 n :: AVal.int .i64 me :: tl)) :: rest)) (by kernel_rfl) ?_))
  obtain ⟨⟨h1, h2⟩, h3, h4⟩ := hp
  have hm : 0 ≤ me * n ∧ me * n ≤ 100000 * 100000 := ⟨Int.mul_nonneg h1 h3, Int.mul_le_mul h2 h4 h3 (by omega)⟩
  refine cond_go (fun e => ?_) (fun e => ?_)
  · rw [ilt_eq, decide_eq_true_eq] at e
    unfold firstV at hK; rw [if_pos e] at hK; exact hK
  · rw [ilt_eq, decide_eq_false_iff_not] at e
    refine ⟨by omega, ?_⟩
    unfold firstV at hK; rw [if_neg e] at hK
    have := tdiv_in (x := me * n) (t := t) hm.1 (by omega)
    simp (disch := omega) only [W, W_in]
    exact hK

def firstS : RSpec Unit := fun args h => match args, h with
  | [.ptr 0 0], some (.cells (.int .i64 t :: .int .i64 n :: .int .i64 me :: tl)) :: rest => some (((0 ≤ me ∧ me ≤ 100000) ∧ (0 ≤ n ∧ n ≤ 100000)), .int .i64 (firstV t n me))
  | _, _ => none
theorem first_ok : Spec.ok E3.I Try.prog 138 firstS.spec := by
  intro args h o ho
  unfold RSpec.spec at ho
  split at ho
  case h_2 => cases ho
  rename_i p v hv
  unfold firstS at hv
  split at hv
  case h_2 => cases hv
  simp only [Option.some.injEq, Prod.mk.injEq] at hv
  obtain ⟨rfl, rfl⟩ := hv
  exact first0_ok _ _ o ho

def lifeNewS : Spec Unit := fun args h => match args, h with
  | [.agg [.int .i64 t, .int .i64 n], .int .i64 a], [] => some (.pre (True) (.ret (.ptr 0 0) ([some (.cells [.int .i64 t, .int .i64 n, .int .i64 0, .int .i64 (bif nodeB n a then a else 1), .int .i64 n, .int .u64 0, .bool false])])))
  | _, _ => none
theorem lifeNew_ok : Spec.ok E3.I Try.prog 137 lifeNewS := by
  intro args h o ho K hK
  unfold lifeNewS at ho
  split at ho
  case h_2 => cases ho
  rename_i t n a
  simp only [Option.some.injEq] at ho; subst ho
  obtain ⟨hp, hK⟩ := hK
  have hK : K (.ptr 0 0) ([some (.cells [.int .i64 t, .int .i64 n, .int .i64 0, .int .i64 (bif nodeB n a then a else 1), .int .i64 n, .int .u64 0, .bool false])]) := hK
  refine CallOk.trim (callOk_of (E := E3) Try.checked.mixed (L := fun _ _ => none) (n := 10) (of_nf (q := True ∧ bif !nodeB n a then K (AVal.ptr 0 0) [some (Entry.cells [AVal.int .i64 t, AVal.int .i64 n, AVal.int .i64 0, AVal.int .i64 1, AVal.int .i64 n, AVal.int .u64 0, AVal.bool false])] else K (AVal.ptr 0 0) [some (Entry.cells [AVal.int .i64 t, AVal.int .i64 n, AVal.int .i64 0, AVal.int .i64 a, AVal.int .i64 n, AVal.int .u64 0, AVal.bool false])]) (by kernel_rfl) ?_))
  refine ⟨trivial, cond_go (fun e => ?_) (fun e => ?_)⟩
  · have e' : nodeB n a = false := by simpa using e
    rw [e'] at hK; exact hK
  · have e' : nodeB n a = true := by simpa using e
    rw [e'] at hK; exact hK

noncomputable def E4a := E3.addS 137 lifeNewS lifeNew_ok

noncomputable def E4 := E4a.addR 138 firstS first_ok

end Go.Sh
