/- PROVED: sherpalaw13.StoreShort returns true for every input and leaves its arguments as they were: alone, a store is short just if no node is free and each that it retired is guarded, else it has a spare one, which was free or retired by it, and nothing that is guarded is given back. No condition. -/
import Derived.WalkKit
import Derived.ProofKit
import Derived.OpenShut
import Derived.Test.YtjklokfpnbnndaaZM76toM77
set_option linter.all false
namespace Go.Proofs.Ytjklokfpnbnndaa.storeShort
open Go.ChangeShapes Go.WideShapes Go.ChangeAt Go.RowKit Go.Sh
theorem own : ownKnob Try.prog.godebug = none := by kernel_rfl
theorem law (W0 : World) : ∃ I : Itp Ob, ∀ x : DenA [(true, [.code (some .u8), .code (some .u8), .ints (some .u64)]), (true, [.code (some .u8), .code (some .u8), .ints (some .u8)])], okA _ x → @CallOk (Con.of W0) Ob I Try.prog 8 (toArgs _ x) ([] : Heap Ob) (fun v _ => v = .bool true) := by
  letI : Con := Con.of W0
  refine ⟨obI tbl, ?_⟩
  rintro ⟨⟨t, n, ws, _⟩, ⟨me, sp, ns, _⟩, _⟩ ⟨⟨w1, w2, w3, _⟩, ⟨w4, w5, w6, _⟩, _⟩
  obtain ⟨T, N, ME, SP, R, fl, xs0, xs1, ys, a, h⟩ := short_ok t n me sp ws ns (bounds_u8 w1) (bounds_u8 w2) (bounds_u8 w4) (bounds_u8 w5) ⟨fun x hx => bounds_u64 (w3.2 x hx)⟩ (fun x hx => bounds_u8 (w6.2 x hx))
  exact sh_print t n me sp ws ns T N ME SP R fl xs0 xs1 ys a h
set_option maxRecDepth 100000 in
theorem lifted (os : Os) (started : os.Started) (H : Type) (enc : TypeId × Value → H) :
    ReturnsInHanded {} Try.checked os 8 .any (Rows.storeShortSpec.pre6 enc Try.prog Try.f8 Rows.storeShortRow.domain false) (Rows.storeShortSpec.post enc Try.prog Try.f8 false true false false) := by
  refine returnsInHanded_of_change (C := Try.checked) own started (by kernel_rfl) Try.func8
    (ChangeSpec.witness6 (enc := enc) (C := Try.checked) false ⟨#[], #[.agg #[.int .u8 0, .int .u8 0, .slice none 0 0], .agg #[.int .u8 0, .int .u8 0, .slice none 0 0]], []⟩ 8 (by kernel_rfl) (by kernel_rfl) (by kernel_rfl) (by kernel_rfl)) ?_
  intro W base args ds gs before hval0 hW hcnd _
  refine law_post (by kernel_rfl) (by kernel_rfl) (by kernel_rfl) rfl (by kernel_rfl) Try.underlying4 ?_ law W base args ds gs before hval0 hW
  intro ds h
  rcases ds with _ | ⟨a, _ | ⟨b, _ | _⟩⟩ <;> first | rfl | (simp [Try.params8] at h)
theorem over : Rows.storeShortRow.holds Try.pinned (OpenSpec.ofChange Rows.storeShortSpec) :=
  OpenClaim.holds_of_wide 8 Try.f8 rfl rfl rfl rfl rfl rfl rfl ⟨rfl, rfl, rfl, rfl, rfl⟩ rfl rfl rfl rfl rfl (by kernel_rfl) Try.func8 (by kernel_rfl)
    (of_decide_eq_true (by kernel_rfl)) (by unfold Func.isWrapper; first | (rw [if_pos (by decide +kernel)]; kernel_rfl) | (rw [if_neg (by decide +kernel)]; exact ⟨rfl, rfl⟩))
    (fun os started H enc _ => lifted os started H enc)
theorem proved : Rows.StoreShortSaid := over
#print axioms proved
end Go.Proofs.Ytjklokfpnbnndaa.storeShort

