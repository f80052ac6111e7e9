/- PROVED: sherpalaw14.RecordAsks returns true for every input and leaves its arguments as they were: over any memory an answer is read in one step, what the descriptor tells; whether it is pending is told without one. No condition. -/
import Derived.WalkKit
import Derived.ProofKit
import Derived.OpenShut
import Derived.Test.YtjklokfpnbnndaaZM23toM25
set_option linter.all false
namespace Go.Proofs.Ytjklokfpnbnndaa.recordAsks
open Go.ChangeShapes Go.WideShapes Go.ChangeAt Go.RowKit Go.Sh
theorem own : ownKnob Try.prog.godebug = none := by kernel_rfl
theorem law (W0 : World) : ∃ I : Unit → Nat → PHeap → Prop, ∀ x : DenA [(true, [.code (some .u8), .code (some .u8), .ints (some .u64)]), (false, [.code (some .i64)])], okA _ x → @CallOk (Con.of W0) Unit I Try.prog 12 (toArgs _ x) ([] : Heap Unit) (fun v _ => v = .bool true) := by
  letI : Con := Con.of W0
  refine ⟨E24.I, ?_⟩
  rintro ⟨⟨t, n, ws, _⟩, ⟨u, _⟩, _⟩ ⟨⟨w1, w2, w3, _⟩, _, _⟩
  exact asks_ok t n u ws (bounds_u8 w1) (bounds_u8 w2) ⟨fun x hx => bounds_u64 (w3.2 x hx)⟩
set_option maxRecDepth 100000 in
theorem lifted (os : Os) (started : os.Started) (H : Type) (enc : TypeId × Value → H) :
    ReturnsInHanded {} Try.checked os 12 .any (Rows.recordAsksSpec.pre6 enc Try.prog Try.f12 Rows.recordAsksRow.domain false) (Rows.recordAsksSpec.post enc Try.prog Try.f12 false true false false) := by
  refine returnsInHanded_of_change (C := Try.checked) own started (by kernel_rfl) Try.func12
    (ChangeSpec.witness6 (enc := enc) (C := Try.checked) false ⟨#[], #[.agg #[.int .u8 0, .int .u8 0, .slice none 0 0], .int .i64 0], []⟩ 8 (by kernel_rfl) (by kernel_rfl) (by kernel_rfl) (by kernel_rfl)) ?_
  intro W base args ds gs before hval0 hW hcnd _
  refine law_post (by kernel_rfl) (by kernel_rfl) (by kernel_rfl) rfl (by kernel_rfl) Try.underlying4 ?_ law W base args ds gs before hval0 hW
  intro ds h
  rcases ds with _ | ⟨a, _ | ⟨b, _ | _⟩⟩ <;> first | rfl | (simp [Try.params12] at h)
theorem over : Rows.recordAsksRow.holds Try.pinned (OpenSpec.ofChange Rows.recordAsksSpec) :=
  OpenClaim.holds_of_wide 12 Try.f12 rfl rfl rfl rfl rfl rfl rfl ⟨rfl, rfl, rfl, rfl, rfl⟩ rfl rfl rfl rfl rfl (by kernel_rfl) Try.func12 (by kernel_rfl)
    (of_decide_eq_true (by kernel_rfl)) (by unfold Func.isWrapper; first | (rw [if_pos (by decide +kernel)]; kernel_rfl) | (rw [if_neg (by decide +kernel)]; exact ⟨rfl, rfl⟩))
    (fun os started H enc _ => lifted os started H enc)
theorem proved : Rows.RecordAsksSaid := over
#print axioms proved
end Go.Proofs.Ytjklokfpnbnndaa.recordAsks

