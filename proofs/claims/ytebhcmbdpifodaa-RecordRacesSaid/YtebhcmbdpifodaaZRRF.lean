/- PROVED: Announcements that are mixed: no two tickets are one, each thread has rising ones, and all are told; no condition. -/
import Derived.WalkKit
import Derived.ProofKit
import Derived.OpenShut
import Derived.Test.YtebhcmbdpifodaaZRN0toRR4
set_option linter.all false
namespace Go.Proofs.Ytebhcmbdpifodaa.recordRaces
open Go.ChangeShapes Go.WideShapes Go.ChangeAt Go.RowKit Go.Sh
theorem own : ownKnob Try.prog.godebug = none := by kernel_rfl
theorem law (W0 : World) : ∃ I : Itp Ob, ∀ x : DenA [(false, [.code (some .u8)]), (false, [.rows [.code (some .i64), .code (some .i64)]]), (false, [.ints (some .u8)])], okA _ x → @CallOk (Con.of W0) Ob I Try.prog 3 (toArgs _ x) ([] : Heap Ob) (fun v _ => v = .bool true) := by
  letI : Con := Con.of W0
  refine ⟨obI tbl, ?_⟩
  rintro ⟨⟨sh, _⟩, ⟨xs, _⟩, ⟨ws, _⟩, _⟩ ⟨⟨w1, _⟩, _, ⟨⟨_, w3⟩, _⟩, _⟩
  exact rr_print (@HAdd.hAdd Int Int Int _ 1 (@HMod.hMod Int Int Int _ sh 8)) sh (List.length (α := Int × Int × Unit) xs) (fun i => (List.getD (α := Int × Int × Unit) xs i (0, 0, ())).1) (fun i => (List.getD (α := Int × Int × Unit) xs i (0, 0, ())).2.1) ws _ _ (rr_vc (bounds_u8 w1) rfl rfl (fun x hx => bounds_u8 (w3 x hx)) rfl)
set_option maxRecDepth 100000 in
theorem lifted (os : Os) (started : os.Started) (H : Type) (enc : TypeId × Value → H) :
    ReturnsInHanded {} Try.checked os 3 .any (Rows.recordRacesSpec.pre6 enc Try.prog Try.f3 Rows.recordRacesRow.domain false) (Rows.recordRacesSpec.post enc Try.prog Try.f3 false true false false) := by
  refine returnsInHanded_of_change (C := Try.checked) own started (by kernel_rfl) Try.func3
    (ChangeSpec.witness6 (enc := enc) (C := Try.checked) false ⟨#[], #[.int .u8 0, .slice none 0 0, .slice none 0 0], []⟩ 8 (by kernel_rfl) (by kernel_rfl) (by kernel_rfl) (by kernel_rfl)) ?_
  intro W base args ds gs before hval0 hW hcnd _
  refine law_post (by kernel_rfl) (by kernel_rfl) (by kernel_rfl) rfl (by kernel_rfl) Try.underlying4 ?_ law W base args ds gs before hval0 hW
  intro ds h
  rcases ds with _ | ⟨a, _ | ⟨b, _ | ⟨c, _ | _⟩⟩⟩ <;> first | rfl | (simp [Try.params3] at h)
theorem andI {a b : Bool} (h : a = true) (k : b = true) : (a && b) = true := by rw [h, k]; rfl
theorem closed : joinedFacts Try.pinned.checked.prog 3 Try.f3 Rows.recordRacesSpec Rows.recordRacesRow = true := by
  unfold joinedFacts
  repeat' with_reducible refine andI ?_ ?_
  all_goals (as_aux_lemma => kernel_rfl)
theorem named : Try.pinned.checked.prog.funcNamed Rows.recordRacesRow.func = some 3 := by kernel_rfl
theorem over : Rows.recordRacesRow.holds Try.pinned (OpenSpec.ofChange Rows.recordRacesSpec) :=
  OpenClaim.holds_of_wide 3 Try.f3 rfl rfl rfl rfl rfl rfl rfl ⟨rfl, rfl, rfl, rfl, rfl⟩ rfl rfl rfl rfl rfl named Try.func3 closed
    (of_decide_eq_true (by kernel_rfl)) (by unfold Func.isWrapper; first | (rw [if_pos (by decide +kernel)]; kernel_rfl) | (rw [if_neg (by decide +kernel)]; exact ⟨rfl, rfl⟩))
    (fun os started H enc _ => lifted os started H enc)
theorem proved : Rows.RecordRacesSaid := over
#print axioms proved
end Go.Proofs.Ytebhcmbdpifodaa.recordRaces

