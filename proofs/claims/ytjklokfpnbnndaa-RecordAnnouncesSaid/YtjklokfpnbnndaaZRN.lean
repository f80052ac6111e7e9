/- PROVED: sherpalaw14.RecordAnnounces returns true for every input and leaves its arguments as they were: over any memory, any task, whatever others write between its steps, a machine that announces does just what the list says, step by step, and has that ticket. No condition. -/
import Derived.WalkKit
import Derived.ProofKit
import Derived.OpenShut
import Derived.Test.YtjklokfpnbnndaaZM31
set_option linter.all false
namespace Go.Proofs.Ytjklokfpnbnndaa.recordAnnounces
open Go.ChangeShapes Go.WideShapes Go.ChangeAt Go.RowKit Go.Sh
theorem own : ownKnob Try.prog.godebug = none := by kernel_rfl
theorem rows_u64 (xs : List (Int × Int × Unit)) (h : ∀ x : Int × Int × Unit, List.Mem x xs → codeWf (some .u64) x.2.1) (i : Nat) : 0 ≤ (List.getD xs i (0, 0, ())).2.1 ∧ (List.getD xs i (0, 0, ())).2.1 ≤ 18446744073709551615 := by
  rw [List.getD_eq_getElem?_getD]
  rcases Nat.lt_or_ge i xs.length with hi | hi
  · rw [List.getElem?_eq_getElem hi]
    exact bounds_u64 (h _ (List.getElem_mem hi))
  · rw [List.getElem?_eq_none hi]
    exact ⟨Int.le_refl 0, by decide⟩
theorem law (W0 : World) : ∃ I : Unit → Nat → PHeap → Prop, ∀ x : DenA [(true, [.code (some .u8), .code (some .u8), .ints (some .u64)]), (true, [.code (some .i64), .code (some .i64), .code (some .i64)]), (false, [.rows [.code (some .i64), .code (some .u64)]])], okA _ x → @CallOk (Con.of W0) Unit I Try.prog 11 (toArgs _ x) ([] : Heap Unit) (fun v _ => v = .bool true) := by
  letI : Con := Con.of W0
  refine ⟨E30.I, ?_⟩
  rintro ⟨⟨t, n, ws, _⟩, ⟨s, k, y, _⟩, ⟨xs, _⟩, _⟩ ⟨⟨w1, w2, w3, _⟩, _, ⟨w4, _⟩, _⟩
  exact announces_ok t n s k y ws (List.length (α := Int × Int × Unit) xs) (fun i => (List.getD (α := Int × Int × Unit) xs i (0, 0, ())).1) (fun i => (List.getD (α := Int × Int × Unit) xs i (0, 0, ())).2.1) (bounds_u8 w1) (bounds_u8 w2) ⟨fun x hx => bounds_u64 (w3.2 x hx)⟩ (rows_u64 xs (fun x hx => (w4.2 x hx).2.1))
set_option maxRecDepth 100000 in
theorem lifted (os : Os) (started : os.Started) (H : Type) (enc : TypeId × Value → H) :
    ReturnsInHanded {} Try.checked os 11 .any (Rows.recordAnnouncesSpec.pre6 enc Try.prog Try.f11 Rows.recordAnnouncesRow.domain false) (Rows.recordAnnouncesSpec.post enc Try.prog Try.f11 false true false false) := by
  refine returnsInHanded_of_change (C := Try.checked) own started (by kernel_rfl) Try.func11
    (ChangeSpec.witness6 (enc := enc) (C := Try.checked) false ⟨#[], #[.agg #[.int .u8 0, .int .u8 0, .slice none 0 0], .agg #[.int .i64 0, .int .i64 0, .int .i64 0], .slice none 0 0], []⟩ 8 (by kernel_rfl) (by kernel_rfl) (by kernel_rfl) (by kernel_rfl)) ?_
  intro W base args ds gs before hval0 hW hcnd _
  refine law_post (by kernel_rfl) (by kernel_rfl) (by kernel_rfl) rfl (by kernel_rfl) Try.underlying4 ?_ law W base args ds gs before hval0 hW
  intro ds h
  rcases ds with _ | ⟨a, _ | ⟨b, _ | ⟨c, _ | _⟩⟩⟩ <;> first | rfl | (simp [Try.params11] at h)
theorem over : Rows.recordAnnouncesRow.holds Try.pinned (OpenSpec.ofChange Rows.recordAnnouncesSpec) :=
  OpenClaim.holds_of_wide 11 Try.f11 rfl rfl rfl rfl rfl rfl rfl ⟨rfl, rfl, rfl, rfl, rfl⟩ rfl rfl rfl rfl rfl (by kernel_rfl) Try.func11 (by kernel_rfl)
    (of_decide_eq_true (by kernel_rfl)) (by unfold Func.isWrapper; first | (rw [if_pos (by decide +kernel)]; kernel_rfl) | (rw [if_neg (by decide +kernel)]; exact ⟨rfl, rfl⟩))
    (fun os started H enc _ => lifted os started H enc)
theorem proved : Rows.RecordAnnouncesSaid := over
#print axioms proved
end Go.Proofs.Ytjklokfpnbnndaa.recordAnnounces

