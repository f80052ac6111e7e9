/- PROVED: sherpalaw23.BoundMost returns true for every input and leaves its arguments as they were: the greatest number of a list is told. No condition. -/
import Derived.Test.YtmopmpjkpkjfmaaZB5
import Derived.WalkKit
import Derived.ProofKit
import Derived.OpenShut
set_option linter.all false
namespace Go.Proofs.Ytmopmpjkpkjfmaa.boundMost
open Go.ChangeShapes Go.WideShapes Go.ChangeAt Go.RowKit Go.Sh
set_option linter.unusedVariables false
theorem own : ownKnob Try.prog.godebug = none := by kernel_rfl
theorem law (W0 : World) : ∃ I : Unit → Nat → PHeap → Prop, ∀ x : DenA [(false, [.ints (some .i64)])], okA _ x → @CallOk (Con.of W0) Unit I Try.prog 5 (toArgs _ x) ([] : Heap Unit) (fun v _ => v = .bool true) := by
  letI : Con := Con.of W0
  refine ⟨E7.I, ?_⟩
  rintro ⟨⟨xs, _⟩, _⟩ ⟨⟨⟨w1, w2⟩, _⟩, _⟩
  exact mostLaw_ok xs w1
set_option maxRecDepth 100000 in
theorem lifted (os : Os) (started : os.Started) (H : Type) (enc : TypeId × Value → H) :
    ReturnsInHanded {} Try.checked os 5 .any (Rows.boundMostSpec.pre6 enc Try.prog Try.f5 Rows.boundMostRow.domain false) (Rows.boundMostSpec.post enc Try.prog Try.f5 false true false false) := by
  refine returnsInHanded_of_change (C := Try.checked) own started (by kernel_rfl) Try.func5
    (ChangeSpec.witness6 (enc := enc) (C := Try.checked) false ⟨#[], #[.slice none 0 0], []⟩ 8 (by kernel_rfl) (by kernel_rfl) (by kernel_rfl) (by kernel_rfl)) ?_
  intro W base args ds gs before hval0 hW hcnd _
  refine law_post (by kernel_rfl) (by kernel_rfl) (by kernel_rfl) rfl (by kernel_rfl) Try.underlying4 ?_ law W base args ds gs before hval0 hW
  intro ds h
  rcases ds with _ | ⟨a, _ | _⟩ <;> first | rfl | (simp [Try.params5] at h)
theorem over : Rows.boundMostRow.holds Try.pinned (OpenSpec.ofChange Rows.boundMostSpec) :=
  OpenClaim.holds_of_wide 5 Try.f5 rfl rfl rfl rfl rfl rfl rfl ⟨rfl, rfl, rfl, rfl, rfl⟩ rfl rfl rfl rfl rfl (by kernel_rfl) Try.func5 (by kernel_rfl)
    (of_decide_eq_true (by kernel_rfl)) (by unfold Func.isWrapper; first | (rw [if_pos (by decide +kernel)]; kernel_rfl) | (rw [if_neg (by decide +kernel)]; exact ⟨rfl, rfl⟩))
    (fun os started H enc _ => lifted os started H enc)
theorem proved : Rows.BoundMostSaid := over
#print axioms proved
end Go.Proofs.Ytmopmpjkpkjfmaa.boundMost
