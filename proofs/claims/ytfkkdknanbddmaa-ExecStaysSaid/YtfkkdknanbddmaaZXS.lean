/- PROVED: a round of a descriptor that is Idle, Empty or Done is one step, and changes nothing -/
import Derived.WalkKit
import Derived.ProofKit
import Derived.OpenShut
import Derived.Test.YtfkkdknanbddmaaZX13toX14
set_option linter.all false
namespace Go.Proofs.Ytfkkdknanbddmaa.execStays
open Go.ChangeShapes Go.WideShapes Go.ChangeAt Go.RowKit Go.Sh
theorem own : ownKnob Try.prog.godebug = none := by kernel_rfl
theorem law (W0 : World) : ∃ I : Itp Ob, ∀ x : DenA [(true, [.code (some .u8), .code (some .u8), .ints (some .u64)]), (false, [.code (some .u8)]), (false, [.code (some .u8)])], okA _ x → @CallOk (Con.of W0) Ob I Try.prog 4 (toArgs _ x) ([] : Heap Ob) (fun v _ => v = .bool true) := by
  letI : Con := Con.of W0
  refine ⟨obI tbl, ?_⟩
  rintro ⟨⟨t, n, ws, _⟩, ⟨u, _⟩, ⟨st, _⟩, _⟩ ⟨⟨w1, w2, w3, _⟩, ⟨w4, _⟩, ⟨w5, _⟩, _⟩
  exact stays_ok t n u st ws (bounds_u8 w1) (bounds_u8 w2) (bounds_u8 w4) (bounds_u8 w5) ⟨fun x hx => bounds_u64 (w3.2 x hx)⟩
set_option maxRecDepth 100000 in
theorem lifted (os : Os) (started : os.Started) (H : Type) (enc : TypeId × Value → H) :
    ReturnsInHanded {} Try.checked os 4 .any (Rows.execStaysSpec.pre6 enc Try.prog Try.f4 Rows.execStaysRow.domain false) (Rows.execStaysSpec.post enc Try.prog Try.f4 false true false false) := by
  refine returnsInHanded_of_change (C := Try.checked) own started (by kernel_rfl) Try.func4
    (ChangeSpec.witness6 (enc := enc) (C := Try.checked) false ⟨#[], #[.agg #[.int .u8 0, .int .u8 0, .slice none 0 0], .int .u8 0, .int .u8 0], []⟩ 8 (by kernel_rfl) (by kernel_rfl) (by kernel_rfl) (by kernel_rfl)) ?_
  intro W base args ds gs before hval0 hW hcnd _
  refine law_post (by kernel_rfl) (by kernel_rfl) (by kernel_rfl) rfl (by kernel_rfl) Try.underlying4 ?_ law W base args ds gs before hval0 hW
  intro ds h
  rcases ds with _ | ⟨a, _ | ⟨b, _ | ⟨c, _ | _⟩⟩⟩ <;> first | rfl | (simp [Try.params4] at h)
theorem over : Rows.execStaysRow.holds Try.pinned (OpenSpec.ofChange Rows.execStaysSpec) :=
  OpenClaim.holds_of_wide 4 Try.f4 rfl rfl rfl rfl rfl rfl rfl ⟨rfl, rfl, rfl, rfl, rfl⟩ rfl rfl rfl rfl rfl (by kernel_rfl) Try.func4 (by kernel_rfl)
    (of_decide_eq_true (by kernel_rfl)) (by unfold Func.isWrapper; first | (rw [if_pos (by decide +kernel)]; kernel_rfl) | (rw [if_neg (by decide +kernel)]; exact ⟨rfl, rfl⟩))
    (fun os started H enc _ => lifted os started H enc)
theorem proved : Rows.ExecStaysSaid := over
#print axioms proved
end Go.Proofs.Ytfkkdknanbddmaa.execStays

