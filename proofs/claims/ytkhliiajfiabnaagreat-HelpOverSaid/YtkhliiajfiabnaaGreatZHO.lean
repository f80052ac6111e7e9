/- PROVED: An operation whose ticket is another one, or that is not pending, is left alone: one or two Loads, and nothing changes. No condition. -/
import Derived.WalkKit
import Derived.ProofKit
import Derived.OpenShut
import Derived.Test.YtkhliiajfiabnaaGreatZHA4toHA6
set_option linter.all false
namespace Go.Proofs.YtkhliiajfiabnaaGreat.helpOver
open Go.ChangeShapes Go.WideShapes Go.ChangeAt Go.RowKit Go.Sh
theorem own : ownKnob Tryz.prog.godebug = none := by kernel_rfl
theorem law (W0 : World) : ∃ I : Itp Ob, ∀ x : DenA [(false, [.code (some .u8)]), (false, [.rows [.code (some .i64), .code (some .i64)]]), (false, [.code (some .u8)])], okA _ x → @CallOk (Con.of W0) Ob I Tryz.prog 3 (toArgs _ x) ([] : Heap Ob) (fun v _ => v = .bool true) := by
  letI : Con := Con.of W0
  refine ⟨obI tbl, ?_⟩
  rintro ⟨⟨sh, _⟩, ⟨xs, _⟩, ⟨oth, _⟩, _⟩ ⟨⟨w1, _⟩, _, ⟨w3, _⟩, _⟩
  exact ho_print sh (List.length (α := Int × Int × Unit) xs) (fun i => (List.getD (α := Int × Int × Unit) xs i (0, 0, ())).1) (fun i => (List.getD (α := Int × Int × Unit) xs i (0, 0, ())).2.1) oth _ (ho_vc sh _ _ _ oth _ (bounds_u8 w1) (bounds_u8 w3) rfl)
set_option maxRecDepth 100000 in
theorem lifted (os : Os) (started : os.Started) (H : Type) (enc : TypeId × Value → H) :
    ReturnsInHanded {} Tryz.checked os 3 .any (Rows.helpOverSpec.pre6 enc Tryz.prog Tryz.f3 Rows.helpOverRow.domain false) (Rows.helpOverSpec.post enc Tryz.prog Tryz.f3 false true false false) := by
  refine returnsInHanded_of_change (C := Tryz.checked) own started (by kernel_rfl) Tryz.func3
    (ChangeSpec.witness6 (enc := enc) (C := Tryz.checked) false ⟨#[], #[.int .u8 0, .slice none 0 0, .int .u8 0], []⟩ 8 (by kernel_rfl) (by kernel_rfl) (by kernel_rfl) (by kernel_rfl)) ?_
  intro W base args ds gs before hval0 hW hcnd _
  refine law_post (by kernel_rfl) (by kernel_rfl) (by kernel_rfl) rfl (by kernel_rfl) Tryz.underlying4 ?_ law W base args ds gs before hval0 hW
  intro ds h
  rcases ds with _ | ⟨a, _ | ⟨b, _ | ⟨c, _ | _⟩⟩⟩ <;> first | rfl | (simp [Tryz.params3] at h)
theorem over : Rows.helpOverRow.holds Tryz.pinned (OpenSpec.ofChange Rows.helpOverSpec) :=
  OpenClaim.holds_of_wide 3 Tryz.f3 rfl rfl rfl rfl rfl rfl rfl ⟨rfl, rfl, rfl, rfl, rfl⟩ rfl rfl rfl rfl rfl (by kernel_rfl) Tryz.func3 (by kernel_rfl)
    (of_decide_eq_true (by kernel_rfl)) (by unfold Func.isWrapper; first | (rw [if_pos (by decide +kernel)]; kernel_rfl) | (rw [if_neg (by decide +kernel)]; exact ⟨rfl, rfl⟩))
    (fun os started H enc _ => lifted os started H enc)
theorem proved : Rows.HelpOverSaid := over
#print axioms proved
end Go.Proofs.YtkhliiajfiabnaaGreat.helpOver

