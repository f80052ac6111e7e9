/- PROVED: sherpalaw23.BoundReckons returns true for every input and leaves its arguments as they were: of any layout and tries the bounds are the numbers of the document, or there are none, told why. No condition. -/
import Derived.Test.YtmopmpjkpkjfmaaZB5
import Derived.WalkKit
import Derived.ProofKit
import Derived.OpenShut
set_option linter.all false
namespace Go.Proofs.Ytmopmpjkpkjfmaa.boundReckons
open Go.ChangeShapes Go.WideShapes Go.ChangeAt Go.RowKit Go.Sh
set_option linter.unusedVariables false
theorem own : ownKnob Try.prog.godebug = none := by kernel_rfl
theorem law (W0 : World) : ∃ I : Unit → Nat → PHeap → Prop, ∀ x : DenA [(true, [.code (some .i64), .code (some .i64)]), (false, [.code (some .i64)]), (true, [.code (some .i64), .code (some .i64)])], okA _ x → @CallOk (Con.of W0) Unit I Try.prog 3 (toArgs _ x) ([] : Heap Unit) (fun v _ => v = .bool true) := by
  letI : Con := Con.of W0
  refine ⟨E5.I, ?_⟩
  rintro ⟨⟨n, c, _⟩, ⟨k, _⟩, ⟨a, b, _⟩, _⟩ ⟨⟨w1, w2, _⟩, ⟨w3, _⟩, _⟩
  exact reckons_ok n c k a b (bounds_i64 w1) (bounds_i64 w2) (bounds_i64 w3)
set_option maxRecDepth 100000 in
theorem lifted (os : Os) (started : os.Started) (H : Type) (enc : TypeId × Value → H) :
    ReturnsInHanded {} Try.checked os 3 .any (Rows.boundReckonsSpec.pre6 enc Try.prog Try.f3 Rows.boundReckonsRow.domain false) (Rows.boundReckonsSpec.post enc Try.prog Try.f3 false true false false) := by
  refine returnsInHanded_of_change (C := Try.checked) own started (by kernel_rfl) Try.func3
    (ChangeSpec.witness6 (enc := enc) (C := Try.checked) false ⟨#[], #[.agg #[.int .i64 1, .int .i64 1], .int .i64 0, .agg #[.int .i64 0, .int .i64 0]], []⟩ 8 (by kernel_rfl) (by kernel_rfl) (by kernel_rfl) (by kernel_rfl)) ?_
  intro W base args ds gs before hval0 hW hcnd _
  refine law_post (by kernel_rfl) (by kernel_rfl) (by kernel_rfl) rfl (by kernel_rfl) Try.underlying4 ?_ law W base args ds gs before hval0 hW
  intro ds h
  rcases ds with _ | ⟨a, _ | ⟨b, _ | ⟨c, _ | _⟩⟩⟩ <;> first | rfl | (simp [Try.params3] at h)
theorem over : Rows.boundReckonsRow.holds Try.pinned (OpenSpec.ofChange Rows.boundReckonsSpec) :=
  OpenClaim.holds_of_wide 3 Try.f3 rfl rfl rfl rfl rfl rfl rfl ⟨rfl, rfl, rfl, rfl, rfl⟩ rfl rfl rfl rfl rfl (by kernel_rfl) Try.func3 (by kernel_rfl)
    (of_decide_eq_true (by kernel_rfl)) (by unfold Func.isWrapper; first | (rw [if_pos (by decide +kernel)]; kernel_rfl) | (rw [if_neg (by decide +kernel)]; exact ⟨rfl, rfl⟩))
    (fun os started H enc _ => lifted os started H enc)
theorem proved : Rows.BoundReckonsSaid := over
#print axioms proved
end Go.Proofs.Ytmopmpjkpkjfmaa.boundReckons
