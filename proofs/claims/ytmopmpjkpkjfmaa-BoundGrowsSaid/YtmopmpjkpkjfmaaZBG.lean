/- PROVED: sherpalaw23.BoundGrows returns true for every input and leaves its arguments as they were: with a thread, a node or a try more no bound is less. No condition. -/
import Derived.Test.YtmopmpjkpkjfmaaZB4
import Derived.WalkKit
import Derived.ProofKit
import Derived.OpenShut
set_option linter.all false
namespace Go.Proofs.Ytmopmpjkpkjfmaa.boundGrows
open Go.ChangeShapes Go.WideShapes Go.ChangeAt Go.RowKit Go.Sh
set_option linter.unusedVariables false
theorem own : ownKnob Try.prog.godebug = none := by kernel_rfl
theorem law (W0 : World) : ∃ I : Unit → Nat → PHeap → Prop, ∀ x : DenA [(false, [.code (some .u8)]), (false, [.code (some .u8)]), (false, [.code (some .u8)])], okA _ x → @CallOk (Con.of W0) Unit I Try.prog 4 (toArgs _ x) ([] : Heap Unit) (fun v _ => v = .bool true) := by
  letI : Con := Con.of W0
  refine ⟨E5.I, ?_⟩
  rintro ⟨⟨n, _⟩, ⟨c, _⟩, ⟨k, _⟩, _⟩ ⟨⟨w1, _⟩, ⟨w2, _⟩, ⟨w3, _⟩, _⟩
  exact grows_ok n c k (bounds_u8 w1) (bounds_u8 w2) (bounds_u8 w3)
set_option maxRecDepth 100000 in
theorem lifted (os : Os) (started : os.Started) (H : Type) (enc : TypeId × Value → H) :
    ReturnsInHanded {} Try.checked os 4 .any (Rows.boundGrowsSpec.pre6 enc Try.prog Try.f4 Rows.boundGrowsRow.domain false) (Rows.boundGrowsSpec.post enc Try.prog Try.f4 false true false false) := by
  refine returnsInHanded_of_change (C := Try.checked) own started (by kernel_rfl) Try.func4
    (ChangeSpec.witness6 (enc := enc) (C := Try.checked) false ⟨#[], #[.int .u8 0, .int .u8 0, .int .u8 0], []⟩ 8 (by kernel_rfl) (by kernel_rfl) (by kernel_rfl) (by kernel_rfl)) ?_
  intro W base args ds gs before hval0 hW hcnd _
  refine law_post (by kernel_rfl) (by kernel_rfl) (by kernel_rfl) rfl (by kernel_rfl) Try.underlying4 ?_ law W base args ds gs before hval0 hW
  rintro ds h
  rcases ds with _ | ⟨a, _ | ⟨b, _ | ⟨c, _ | _⟩⟩⟩ <;> first | rfl | (simp [Try.params4] at h)
theorem over : Rows.boundGrowsRow.holds Try.pinned (OpenSpec.ofChange Rows.boundGrowsSpec) :=
  OpenClaim.holds_of_wide 4 Try.f4 rfl rfl rfl rfl rfl rfl rfl ⟨rfl, rfl, rfl, rfl, rfl⟩ rfl rfl rfl rfl rfl (by kernel_rfl) Try.func4 (by kernel_rfl)
    (of_decide_eq_true (by kernel_rfl)) (by unfold Func.isWrapper; first | (rw [if_pos (by decide +kernel)]; kernel_rfl) | (rw [if_neg (by decide +kernel)]; exact ⟨rfl, rfl⟩))
    (fun os started H enc _ => lifted os started H enc)
theorem proved : Rows.BoundGrowsSaid := over
#print axioms proved
end Go.Proofs.Ytmopmpjkpkjfmaa.boundGrows
