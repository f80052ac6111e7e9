/- PROVED: sherpalaw13.StorePrepares returns true for every input and leaves its arguments as they were: over any memory a machine that prepares the spare node does just what the list says. No condition. -/
import Derived.Test.YtjklokfpnbnndaaZM18
import Derived.WalkKit
import Derived.ProofKit
import Derived.OpenShut
set_option linter.all false
namespace Go.Proofs.Ytjklokfpnbnndaa.storePrepares
open Go.ChangeShapes Go.WideShapes Go.ChangeAt Go.RowKit Go.Sh
set_option linter.unusedVariables false
theorem own : ownKnob Try.prog.godebug = none := by kernel_rfl
theorem law (W0 : World) : ∃ I : Unit → Nat → PHeap → Prop, ∀ x : DenA [(true, [.code (some .u8), .code (some .u8), .ints (some .u64)]), (true, [.code (some .u8), .code (some .u8), .ints (some .u8)]), (true, [.code (some .i64), .code (some .i64)])], okA _ x → @CallOk (Con.of W0) Unit I Try.prog 7 (toArgs _ x) ([] : Heap Unit) (fun v _ => v = .bool true) := by
  letI : Con := Con.of W0
  refine ⟨E16.I, ?_⟩
  rintro ⟨⟨t, n, ws, _⟩, ⟨me, sp, ns, _⟩, ⟨k, y, _⟩, _⟩ ⟨⟨w1, w2, w3, _⟩, ⟨w4, w5, w6, _⟩, _, _⟩
  exact prepares_ok t n me sp k y ws ns (bounds_u8 w1) (bounds_u8 w2) (bounds_u8 w4) (bounds_u8 w5) ⟨fun x hx => bounds_u64 (w3.2 x hx)⟩ (fun x hx => bounds_u8 (w6.2 x hx))
set_option maxRecDepth 100000 in
theorem lifted (os : Os) (started : os.Started) (H : Type) (enc : TypeId × Value → H) :
    ReturnsInHanded {} Try.checked os 7 .any (Rows.storePreparesSpec.pre6 enc Try.prog Try.f7 Rows.storePreparesRow.domain false) (Rows.storePreparesSpec.post enc Try.prog Try.f7 false true false false) := by
  refine returnsInHanded_of_change (C := Try.checked) own started (by kernel_rfl) Try.func7
    (ChangeSpec.witness6 (enc := enc) (C := Try.checked) false ⟨#[], #[.agg #[.int .u8 0, .int .u8 0, .slice none 0 0], .agg #[.int .u8 0, .int .u8 0, .slice none 0 0], .agg #[.int .i64 0, .int .i64 0]], []⟩ 8 (by kernel_rfl) (by kernel_rfl) (by kernel_rfl) (by kernel_rfl)) ?_
  intro W base args ds gs before hval0 hW hcnd _
  refine law_post (by kernel_rfl) (by kernel_rfl) (by kernel_rfl) rfl (by kernel_rfl) Try.underlying4 ?_ law W base args ds gs before hval0 hW
  intro ds h
  rcases ds with _ | ⟨a, _ | ⟨b, _ | ⟨c, _ | _⟩⟩⟩ <;> first | rfl | (simp [Try.params7] at h)
theorem over : Rows.storePreparesRow.holds Try.pinned (OpenSpec.ofChange Rows.storePreparesSpec) :=
  OpenClaim.holds_of_wide 7 Try.f7 rfl rfl rfl rfl rfl rfl rfl ⟨rfl, rfl, rfl, rfl, rfl⟩ rfl rfl rfl rfl rfl (by kernel_rfl) Try.func7 (by kernel_rfl)
    (of_decide_eq_true (by kernel_rfl)) (by unfold Func.isWrapper; first | (rw [if_pos (by decide +kernel)]; kernel_rfl) | (rw [if_neg (by decide +kernel)]; exact ⟨rfl, rfl⟩))
    (fun os started H enc _ => lifted os started H enc)
theorem proved : Rows.StorePreparesSaid := over
#print axioms proved
end Go.Proofs.Ytjklokfpnbnndaa.storePrepares
