/- PROVED: sherpalaw13.StoreEnsures returns true for every input and leaves its arguments as they were: over any memory, with any store, whatever others write between its steps, a machine that ensures a spare node does just what the list says, and then has that node, or is short. No condition. -/
import Derived.WalkKit
import Derived.ProofKit
import Derived.OpenShut
import Derived.Test.YtjklokfpnbnndaaZM50toM56
set_option linter.all false
namespace Go.Proofs.Ytjklokfpnbnndaa.storeEnsures
open Go.ChangeShapes Go.WideShapes Go.ChangeAt Go.RowKit Go.Sh
theorem own : ownKnob Try.prog.godebug = none := by kernel_rfl
theorem rows_u64 (xs : List (Int × Int × Unit)) (h : ∀ x : Int × Int × Unit, List.Mem x xs → codeWf (some .u64) x.2.1) (i : Nat) : 0 ≤ (List.getD xs i (0, 0, ())).2.1 ∧ (List.getD xs i (0, 0, ())).2.1 ≤ 18446744073709551615 := by
  rw [List.getD_eq_getElem?_getD]
  rcases Nat.lt_or_ge i xs.length with hi | hi
  · rw [List.getElem?_eq_getElem hi]
    exact bounds_u64 (h _ (List.getElem_mem hi))
  · rw [List.getElem?_eq_none hi]
    exact ⟨Int.le_refl 0, by decide⟩
theorem law (W0 : World) : ∃ I : Itp Ob, ∀ x : DenA [(true, [.code (some .u8), .code (some .u8), .ints (some .u64)]), (true, [.code (some .u8), .code (some .u8), .ints (some .u8)]), (false, [.rows [.code (some .i64), .code (some .u64)]])], okA _ x → @CallOk (Con.of W0) Ob I Try.prog 4 (toArgs _ x) ([] : Heap Ob) (fun v _ => v = .bool true) := by
  letI : Con := Con.of W0
  refine ⟨obI tbl, ?_⟩
  rintro ⟨⟨t, n, ws, _⟩, ⟨me, sp, ns, _⟩, ⟨xs, _⟩, _⟩ ⟨⟨w1, w2, w3, _⟩, ⟨w4, w5, w6, _⟩, ⟨w7, _⟩, _⟩
  exact ens_print t n me sp ws ns (List.length (α := Int × Int × Unit) xs) (fun i => (List.getD (α := Int × Int × Unit) xs i (0, 0, ())).1) (fun i => (List.getD (α := Int × Int × Unit) xs i (0, 0, ())).2.1) (ensures_ok t n me sp ws ns (List.length (α := Int × Int × Unit) xs) (fun i => (List.getD (α := Int × Int × Unit) xs i (0, 0, ())).1) (fun i => (List.getD (α := Int × Int × Unit) xs i (0, 0, ())).2.1) (bounds_u8 w1) (bounds_u8 w2) (bounds_u8 w4) (bounds_u8 w5) ⟨fun x hx => bounds_u64 (w3.2 x hx)⟩ (fun x hx => bounds_u8 (w6.2 x hx)) (rows_u64 xs (fun x hx => (w7.2 x hx).2.1)))
set_option maxRecDepth 100000 in
theorem lifted (os : Os) (started : os.Started) (H : Type) (enc : TypeId × Value → H) :
    ReturnsInHanded {} Try.checked os 4 .any (Rows.storeEnsuresSpec.pre6 enc Try.prog Try.f4 Rows.storeEnsuresRow.domain false) (Rows.storeEnsuresSpec.post enc Try.prog Try.f4 false true false false) := by
  refine returnsInHanded_of_change (C := Try.checked) own started (by kernel_rfl) Try.func4
    (ChangeSpec.witness6 (enc := enc) (C := Try.checked) false ⟨#[], #[.agg #[.int .u8 0, .int .u8 0, .slice none 0 0], .agg #[.int .u8 0, .int .u8 0, .slice none 0 0], .slice none 0 0], []⟩ 8 (by kernel_rfl) (by kernel_rfl) (by kernel_rfl) (by kernel_rfl)) ?_
  intro W base args ds gs before hval0 hW hcnd _
  refine law_post (by kernel_rfl) (by kernel_rfl) (by kernel_rfl) rfl (by kernel_rfl) Try.underlying4 ?_ law W base args ds gs before hval0 hW
  intro ds h
  rcases ds with _ | ⟨a, _ | ⟨b, _ | ⟨c, _ | _⟩⟩⟩ <;> first | rfl | (simp [Try.params4] at h)
theorem over : Rows.storeEnsuresRow.holds Try.pinned (OpenSpec.ofChange Rows.storeEnsuresSpec) :=
  OpenClaim.holds_of_wide 4 Try.f4 rfl rfl rfl rfl rfl rfl rfl ⟨rfl, rfl, rfl, rfl, rfl⟩ rfl rfl rfl rfl rfl (by kernel_rfl) Try.func4 (by kernel_rfl)
    (of_decide_eq_true (by kernel_rfl)) (by unfold Func.isWrapper; first | (rw [if_pos (by decide +kernel)]; kernel_rfl) | (rw [if_neg (by decide +kernel)]; exact ⟨rfl, rfl⟩))
    (fun os started H enc _ => lifted os started H enc)
theorem proved : Rows.StoreEnsuresSaid := over
#print axioms proved
end Go.Proofs.Ytjklokfpnbnndaa.storeEnsures

