/- PROVED: sherpalaw14.RecordTells returns true for every input and leaves its arguments as they were: what an operation ended with is what its thread reads as the answer; when it announces again there is none, and the attempt is one more. No condition. -/
import Derived.WalkKit
import Derived.ProofKit
import Derived.OpenShut
import Derived.Test.YtjklokfpnbnndaaZM28
set_option linter.all false
namespace Go.Proofs.Ytjklokfpnbnndaa.recordTells
open Go.ChangeShapes Go.WideShapes Go.ChangeAt Go.RowKit Go.Sh
theorem own : ownKnob Try.prog.godebug = none := by kernel_rfl
theorem bounds_u16 {n : Int} (h : codeWf (some .u16) n) : 0 ≤ n ∧ n ≤ 65535 := by
  have h : (decide (IntKind.min .u16 ≤ n) && decide (n ≤ IntKind.max .u16)) = true := h
  simp only [Bool.and_eq_true, decide_eq_true_eq] at h
  exact h
theorem law (W0 : World) : ∃ I : Unit → Nat → PHeap → Prop, ∀ x : DenA [(true, [.code (some .i64), .code (some .i64)]), (true, [.code (some .i64), .code none, .code (some .i64)]), (false, [.code (some .u16)])], okA _ x → @CallOk (Con.of W0) Unit I Try.prog 10 (toArgs _ x) ([] : Heap Unit) (fun v _ => v = .bool true) := by
  letI : Con := Con.of W0
  refine ⟨E27.I, ?_⟩
  rintro ⟨⟨k, y, _⟩, ⟨rc, ro, rv, _⟩, ⟨a, _⟩, _⟩ ⟨_, _, ⟨w1, _⟩, _⟩
  have ro' : Int := ro
  exact tells_ok k y rc rv a (bne (α := Int) ro 0) (bounds_u16 w1)
set_option maxRecDepth 100000 in
theorem lifted (os : Os) (started : os.Started) (H : Type) (enc : TypeId × Value → H) :
    ReturnsInHanded {} Try.checked os 10 .any (Rows.recordTellsSpec.pre6 enc Try.prog Try.f10 Rows.recordTellsRow.domain false) (Rows.recordTellsSpec.post enc Try.prog Try.f10 false true false false) := by
  refine returnsInHanded_of_change (C := Try.checked) own started (by kernel_rfl) Try.func10
    (ChangeSpec.witness6 (enc := enc) (C := Try.checked) false ⟨#[], #[.agg #[.int .i64 0, .int .i64 0], .agg #[.int .i64 0, .bool false, .int .i64 0], .int .u16 0], []⟩ 8 (by kernel_rfl) (by kernel_rfl) (by kernel_rfl) (by kernel_rfl)) ?_
  intro W base args ds gs before hval0 hW hcnd _
  refine law_post (by kernel_rfl) (by kernel_rfl) (by kernel_rfl) rfl (by kernel_rfl) Try.underlying4 ?_ law W base args ds gs before hval0 hW
  intro ds h
  rcases ds with _ | ⟨a, _ | ⟨b, _ | ⟨c, _ | _⟩⟩⟩ <;> first | rfl | (simp [Try.params10] at h)
theorem over : Rows.recordTellsRow.holds Try.pinned (OpenSpec.ofChange Rows.recordTellsSpec) :=
  OpenClaim.holds_of_wide 10 Try.f10 rfl rfl rfl rfl rfl rfl rfl ⟨rfl, rfl, rfl, rfl, rfl⟩ rfl rfl rfl rfl rfl (by kernel_rfl) Try.func10 (by kernel_rfl)
    (of_decide_eq_true (by kernel_rfl)) (by unfold Func.isWrapper; first | (rw [if_pos (by decide +kernel)]; kernel_rfl) | (rw [if_neg (by decide +kernel)]; exact ⟨rfl, rfl⟩))
    (fun os started H enc _ => lifted os started H enc)
theorem proved : Rows.RecordTellsSaid := over
#print axioms proved
end Go.Proofs.Ytjklokfpnbnndaa.recordTells

