/- PROVED: alone, what is proposed is done and ended in three rounds of ten steps, or lost and given up in two of five or six -/
import Derived.WalkKit
import Derived.ProofKit
import Derived.OpenShut
import Derived.Test.YtfkkdknanbddmaaZX28
set_option linter.all false
namespace Go.Proofs.Ytfkkdknanbddmaa.execAlone
open Go.ChangeShapes Go.WideShapes Go.ChangeAt Go.RowKit Go.Sh
theorem own : ownKnob Try.prog.godebug = none := by kernel_rfl
theorem law (W0 : World) : ∃ I : Itp Ob, ∀ x : DenA [(true, [.code (some .u8), .code (some .u8), .code (some .u8), .code (some .u16), .code none, .code (some .u8), .code (some .u8), .code (some .u8)])], okA _ x → @CallOk (Con.of W0) Ob I Try.prog 3 (toArgs _ x) ([] : Heap Ob) (fun v _ => v = .bool true) := by
  letI : Con := Con.of W0
  refine ⟨obI tbl, ?_⟩
  rintro ⟨⟨th, nd, nx, ver, mk, od, do', va, _⟩, _⟩ ⟨⟨w1, w2, w3, w4, w5, w6, w7, w8, _⟩, _⟩
  exact alone_ok th nd nx ver od do' va _ (bounds_u8 w1) (bounds_u8 w2) (bounds_u8 w3) (bounds_u16 w4) (bounds_u8 w6) (bounds_u8 w8)
set_option maxRecDepth 100000 in
theorem lifted (os : Os) (started : os.Started) (H : Type) (enc : TypeId × Value → H) :
    ReturnsInHanded {} Try.checked os 3 .any (Rows.execAloneSpec.pre6 enc Try.prog Try.f3 Rows.execAloneRow.domain false) (Rows.execAloneSpec.post enc Try.prog Try.f3 false true false false) := by
  refine returnsInHanded_of_change (C := Try.checked) own started (by kernel_rfl) Try.func3
    (ChangeSpec.witness6 (enc := enc) (C := Try.checked) false ⟨#[], #[.agg #[.int .u8 0, .int .u8 0, .int .u8 0, .int .u16 0, .bool false, .int .u8 0, .int .u8 0, .int .u8 0]], []⟩ 8 (by kernel_rfl) (by kernel_rfl) (by kernel_rfl) (by kernel_rfl)) ?_
  intro W base args ds gs before hval0 hW hcnd _
  refine law_post (by kernel_rfl) (by kernel_rfl) (by kernel_rfl) rfl (by kernel_rfl) Try.underlying4 ?_ law W base args ds gs before hval0 hW
  intro ds h
  rcases ds with _ | ⟨a, _ | _⟩ <;> first | rfl | (simp [Try.params3] at h)
theorem over : Rows.execAloneRow.holds Try.pinned (OpenSpec.ofChange Rows.execAloneSpec) :=
  OpenClaim.holds_of_wide 3 Try.f3 rfl rfl rfl rfl rfl rfl rfl ⟨rfl, rfl, rfl, rfl, rfl⟩ rfl rfl rfl rfl rfl (by kernel_rfl) Try.func3 (by kernel_rfl)
    (of_decide_eq_true (by kernel_rfl)) (by unfold Func.isWrapper; first | (rw [if_pos (by decide +kernel)]; kernel_rfl) | (rw [if_neg (by decide +kernel)]; exact ⟨rfl, rfl⟩))
    (fun os started H enc _ => lifted os started H enc)
theorem proved : Rows.ExecAloneSaid := over
#print axioms proved
end Go.Proofs.Ytfkkdknanbddmaa.execAlone

