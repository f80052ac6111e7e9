/- PROVED: sherpalaw14.RecordAll returns true for every input and leaves its arguments as they were: of any memory the tasks that are pending are told, of those shapes that are asked for. No condition. -/
import Derived.WalkKit
import Derived.ProofKit
import Derived.OpenShut
import Derived.Test.YtjklokfpnbnndaaZM23toM34
set_option linter.all false
namespace Go.Proofs.Ytjklokfpnbnndaa.recordAll
open Go.ChangeShapes Go.WideShapes Go.ChangeAt Go.RowKit Go.Sh
theorem own : ownKnob Try.prog.godebug = none := by kernel_rfl
theorem law (W0 : World) : ∃ I : Unit → Nat → PHeap → Prop, ∀ x : DenA [(true, [.code (some .u8), .code (some .u8), .ints (some .u64)]), (false, [.ints (some .u64)]), (false, [.ints (some .i64)])], okA _ x → @CallOk (Con.of W0) Unit I Try.prog 13 (toArgs _ x) ([] : Heap Unit) (fun v _ => v = .bool true) := by
  letI : Con := Con.of W0
  refine ⟨E33.I, ?_⟩
  rintro ⟨⟨t, n, ws, _⟩, ⟨ts, _⟩, ⟨sh, _⟩, _⟩ ⟨⟨w1, w2, w3, _⟩, ⟨w4, _⟩, _, _⟩
  exact all14_ok t n ws ts sh (bounds_u8 w1) (bounds_u8 w2) ⟨fun x hx => bounds_u64 (w3.2 x hx)⟩ ⟨fun x hx => bounds_u64 (w4.2 x hx)⟩
set_option maxRecDepth 100000 in
theorem lifted (os : Os) (started : os.Started) (H : Type) (enc : TypeId × Value → H) :
    ReturnsInHanded {} Try.checked os 13 .any (Rows.recordAllSpec.pre6 enc Try.prog Try.f13 Rows.recordAllRow.domain false) (Rows.recordAllSpec.post enc Try.prog Try.f13 false true false false) := by
  refine returnsInHanded_of_change (C := Try.checked) own started (by kernel_rfl) Try.func13
    (ChangeSpec.witness6 (enc := enc) (C := Try.checked) false ⟨#[], #[.agg #[.int .u8 0, .int .u8 0, .slice none 0 0], .slice none 0 0, .slice none 0 0], []⟩ 8 (by kernel_rfl) (by kernel_rfl) (by kernel_rfl) (by kernel_rfl)) ?_
  intro W base args ds gs before hval0 hW hcnd _
  refine law_post (by kernel_rfl) (by kernel_rfl) (by kernel_rfl) rfl (by kernel_rfl) Try.underlying4 ?_ law W base args ds gs before hval0 hW
  intro ds h
  rcases ds with _ | ⟨a, _ | ⟨b, _ | ⟨c, _ | _⟩⟩⟩ <;> first | rfl | (simp [Try.params13] at h)
theorem over : Rows.recordAllRow.holds Try.pinned (OpenSpec.ofChange Rows.recordAllSpec) :=
  OpenClaim.holds_of_wide 13 Try.f13 rfl rfl rfl rfl rfl rfl rfl ⟨rfl, rfl, rfl, rfl, rfl⟩ rfl rfl rfl rfl rfl (by kernel_rfl) Try.func13 (by kernel_rfl)
    (of_decide_eq_true (by kernel_rfl)) (by unfold Func.isWrapper; first | (rw [if_pos (by decide +kernel)]; kernel_rfl) | (rw [if_neg (by decide +kernel)]; exact ⟨rfl, rfl⟩))
    (fun os started H enc _ => lifted os started H enc)
theorem proved : Rows.RecordAllSaid := over
#print axioms proved
end Go.Proofs.Ytjklokfpnbnndaa.recordAll

