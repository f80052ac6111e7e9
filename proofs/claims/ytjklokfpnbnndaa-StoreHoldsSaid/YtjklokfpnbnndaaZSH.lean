/- PROVED: sherpalaw13.StoreHolds returns true for every input and leaves its arguments as they were: what a store holds, and whether it is full, is what the document says. No condition. -/
import Derived.Test.YtjklokfpnbnndaaZM7
import Derived.WalkKit
import Derived.ProofKit
import Derived.OpenShut
set_option linter.all false
namespace Go.Proofs.Ytjklokfpnbnndaa.storeHolds
open Go.ChangeShapes Go.WideShapes Go.ChangeAt Go.RowKit Go.Sh
set_option linter.unusedVariables false
theorem own : ownKnob Try.prog.godebug = none := by kernel_rfl
theorem law (W0 : World) : ∃ I : Unit → Nat → PHeap → Prop, ∀ x : DenA [(false, [.code (some .u8)]), (false, [.rows [.code (some .u8), .code (some .u8)]])], okA _ x → @CallOk (Con.of W0) Unit I Try.prog 6 (toArgs _ x) ([] : Heap Unit) (fun v _ => v = .bool true) := by
  letI : Con := Con.of W0
  refine ⟨E7.I, ?_⟩
  rintro ⟨⟨th, _⟩, ⟨xs, _⟩, _⟩ ⟨⟨w1, _⟩, _⟩
  exact holds_ok (fun i => (List.getD (α := Int × Int × Unit) xs i (0, 0, ())).1) (fun i => (List.getD (α := Int × Int × Unit) xs i (0, 0, ())).2.1) (List.length (α := Int × Int × Unit) xs) th (bounds_u8 w1)
set_option maxRecDepth 100000 in
theorem lifted (os : Os) (started : os.Started) (H : Type) (enc : TypeId × Value → H) :
    ReturnsInHanded {} Try.checked os 6 .any (Rows.storeHoldsSpec.pre6 enc Try.prog Try.f6 Rows.storeHoldsRow.domain false) (Rows.storeHoldsSpec.post enc Try.prog Try.f6 false true false false) := by
  refine returnsInHanded_of_change (C := Try.checked) own started (by kernel_rfl) Try.func6
    (ChangeSpec.witness6 (enc := enc) (C := Try.checked) false ⟨#[], #[.int .u8 0, .slice none 0 0], []⟩ 8 (by kernel_rfl) (by kernel_rfl) (by kernel_rfl) (by kernel_rfl)) ?_
  intro W base args ds gs before hval0 hW hcnd _
  refine law_post (by kernel_rfl) (by kernel_rfl) (by kernel_rfl) rfl (by kernel_rfl) Try.underlying4 ?_ law W base args ds gs before hval0 hW
  intro ds h
  rcases ds with _ | ⟨a, _ | ⟨b, _ | _⟩⟩ <;> first | rfl | (simp [Try.params6] at h)
theorem over : Rows.storeHoldsRow.holds Try.pinned (OpenSpec.ofChange Rows.storeHoldsSpec) :=
  OpenClaim.holds_of_wide 6 Try.f6 rfl rfl rfl rfl rfl rfl rfl ⟨rfl, rfl, rfl, rfl, rfl⟩ rfl rfl rfl rfl rfl (by kernel_rfl) Try.func6 (by kernel_rfl)
    (of_decide_eq_true (by kernel_rfl)) (by unfold Func.isWrapper; first | (rw [if_pos (by decide +kernel)]; kernel_rfl) | (rw [if_neg (by decide +kernel)]; exact ⟨rfl, rfl⟩))
    (fun os started H enc _ => lifted os started H enc)
theorem proved : Rows.StoreHoldsSaid := over
#print axioms proved
end Go.Proofs.Ytjklokfpnbnndaa.storeHolds
