/- PROVED: Executions, mixed: whatever the input, true; the input reads as it did. -/
import Derived.WalkKit
import Derived.ProofKit
import Derived.OpenShut
import Derived.Test.YtebhcmbdpifodaaZXWtoXL3
set_option linter.all false
namespace Go.Proofs.Ytebhcmbdpifodaa.execMixes
open Go.ChangeShapes Go.WideShapes Go.ChangeAt Go.RowKit Go.Sh
theorem own : ownKnob Try.prog.godebug = none := by kernel_rfl
theorem law (W0 : World) : ∃ I : Itp Ob, ∀ x : DenA [(true, [.code (some .u8), .code (some .u8), .code (some .u8), .code (some .u16), .code none, .code (some .u8), .code (some .u8), .code (some .u8)]), (false, [.code (some .u8)]), (false, [.ints (some .u8)])], okA _ x → @CallOk (Con.of W0) Ob I Try.prog 4 (toArgs _ x) ([] : Heap Ob) (fun v _ => v = .bool true) := by
  letI : Con := Con.of W0
  refine ⟨obI tbl, ?_⟩
  rintro ⟨⟨th, nd, nx, ver, mk, od, do', va, _⟩, ⟨many, _⟩, ⟨os, _⟩, _⟩ ⟨⟨w1, w2, w3, w4, w5, w6, w7, w8, _⟩, ⟨w9, _⟩, ⟨⟨_, w10⟩, _⟩, _⟩
  exact xl_print (XX.prOf th nd nx ver od do' va (@bne Int _ mk (0 : Int))) (@HAdd.hAdd Int Int Int _ 1 (@HMod.hMod Int Int Int _ many 6)) th nd nx ver od do' va many (@bne Int _ mk (0 : Int)) os _ (xl_vc rfl (bounds_u8 w1) (bounds_u8 w2) (bounds_u8 w3) (bounds_u16 w4) (bounds_u8 w6) (bounds_u8 w8) (bounds_u8 w9) rfl (fun x hx => bounds_u8 (w10 x hx)) rfl)
set_option maxRecDepth 100000 in
theorem lifted (os : Os) (started : os.Started) (H : Type) (enc : TypeId × Value → H) :
    ReturnsInHanded {} Try.checked os 4 .any (Rows.execMixesSpec.pre6 enc Try.prog Try.f4 Rows.execMixesRow.domain false) (Rows.execMixesSpec.post enc Try.prog Try.f4 false true false false) := by
  refine returnsInHanded_of_change (C := Try.checked) own started (by kernel_rfl) Try.func4
    (ChangeSpec.witness6 (enc := enc) (C := Try.checked) false ⟨#[], #[.agg #[.int .u8 0, .int .u8 0, .int .u8 0, .int .u16 0, .bool false, .int .u8 0, .int .u8 0, .int .u8 0], .int .u8 0, .slice none 0 0], []⟩ 8 (by kernel_rfl) (by kernel_rfl) (by kernel_rfl) (by kernel_rfl)) ?_
  intro W base args ds gs before hval0 hW hcnd _
  refine law_post (by kernel_rfl) (by kernel_rfl) (by kernel_rfl) rfl (by kernel_rfl) Try.underlying4 ?_ law W base args ds gs before hval0 hW
  intro ds h
  rcases ds with _ | ⟨a, _ | ⟨b, _ | ⟨c, _ | _⟩⟩⟩ <;> first | rfl | (simp [Try.params4] at h)
theorem andI {a b : Bool} (h : a = true) (k : b = true) : (a && b) = true := by rw [h, k]; rfl
theorem closed : joinedFacts Try.pinned.checked.prog 4 Try.f4 Rows.execMixesSpec Rows.execMixesRow = true := by
  unfold joinedFacts
  repeat' with_reducible refine andI ?_ ?_
  all_goals (as_aux_lemma => kernel_rfl)
theorem named : Try.pinned.checked.prog.funcNamed Rows.execMixesRow.func = some 4 := by kernel_rfl
theorem over : Rows.execMixesRow.holds Try.pinned (OpenSpec.ofChange Rows.execMixesSpec) :=
  OpenClaim.holds_of_wide 4 Try.f4 rfl rfl rfl rfl rfl rfl rfl ⟨rfl, rfl, rfl, rfl, rfl⟩ rfl rfl rfl rfl rfl named Try.func4 closed
    (of_decide_eq_true (by kernel_rfl)) (by unfold Func.isWrapper; first | (rw [if_pos (by decide +kernel)]; kernel_rfl) | (rw [if_neg (by decide +kernel)]; exact ⟨rfl, rfl⟩))
    (fun os started H enc _ => lifted os started H enc)
theorem proved : Rows.ExecMixesSaid := over
#print axioms proved
end Go.Proofs.Ytebhcmbdpifodaa.execMixes

