/- A number in a list; a world's memory. -/
import Derived.Test.YtjklokfpnbnndaaZM12
set_option linter.all false
set_option linter.unusedVariables false
set_option linter.unusedSectionVars false
namespace Go.Sh
open Go Go.Proofs
variable [Con]
def HD (xs : List Int) (n : Int) : Hint Unit := { X := Nat, st := fun i => ([.slice 0 0 xs.length 1, .int .i64 n, .top, .top, .top, .int .i64 (i : Int)] ++ List.replicate 12 .top, [some (.ints (some .i64) xs)]), ok := okC xs n, mu := fun i => xs.length - i, keep := [0, 1, 5] }
theorem hasR0_ok : Spec.ok E12.I Try.prog 25 hasS0 := by
  intro args h o ho K hK
  unfold hasS0 at ho
  split at ho
  case h_2 => cases ho
  rename_i k n xs
  simp only [Option.some.injEq] at ho; subst ho
  obtain ⟨⟨rfl, hp⟩, hK⟩ := hK
  have hK : K (.bool (hasB xs n)) [some (.ints (some .i64) xs)] := hK
  refine (callOk_of (E := E12) Try.checked.mixed (L := fun _ _ => some (.states (HD xs n))) (n := 10) (of_nf (q := okSt (HD xs n) (Hint.ok (HD xs n)) [AVal.slice 0 0 (List.length xs) 1, AVal.int .i64 n, AVal.top, AVal.top, AVal.top, AVal.int .i64 0, AVal.top, AVal.top, AVal.top, AVal.top, AVal.top, AVal.top, AVal.top, AVal.top, AVal.top, AVal.top, AVal.top, AVal.top] [some (Entry.ints (some .i64) xs)] ∧ ∀ (x : Nat), okC xs n x → bif ilt (↑x : Int) (↑(List.length xs) : Int) then ((0 : Int) ≤ (↑x : Int) ∧ (↑x : Int) < (↑(List.length xs) : Int)) ∧ 0 + Int.toNat (↑x : Int) * (1 : Nat) < List.length xs ∧ bif ieq (List.getD xs (0 + Int.toNat (↑x : Int) * 1) 0) n then K (AVal.bool true) [some (Entry.ints (some .i64) xs)] else okSt (HD xs n) (fun x' => Hint.ok (HD xs n) x' ∧ Hint.mu (HD xs n) x' < Hint.mu (HD xs n) x) [AVal.slice 0 0 (List.length xs) 1, AVal.int .i64 n, AVal.top, AVal.top, AVal.top, AVal.int .i64 (W ((↑x : Int) + 1)), AVal.top, AVal.top, AVal.top, AVal.top, AVal.top, AVal.top, AVal.top, AVal.top, AVal.top, AVal.top, AVal.top, AVal.top] [some (Entry.ints (some .i64) xs)] else K (AVal.bool false) [some (Entry.ints (some .i64) xs)]) (by kernel_rfl) ?_))
  have hS : hasB xs n = decide (n ∈ xs) := rfl
  refine ⟨okSt_intro (H := HD xs n) (0 : Nat) rfl ⟨Nat.zero_le _, by simp⟩, ?_⟩
  rintro i ⟨h1, h2⟩
  refine cond_go (fun e1 => ?_) (fun e1 => ?_)
  · rw [ilt_eq, decide_eq_true_eq] at e1
    have hi : i < xs.length := by omega
    have e2 : 0 + (i : Int).toNat * 1 = i := by omega
    rw [e2]
    have e4 : IntKind.wrap .i64 ((i : Int) + 1) = ((i + 1 : Nat) : Int) := by rw [W_in (by omega)]; rfl
    have hg : xs.getD i 0 = xs[i] := by rw [List.getD_eq_getElem?_getD, List.getElem?_eq_getElem hi]; rfl
    refine ⟨by omega, hi, cond_go (fun e3 => ?_) (fun e3 => ?_)⟩
    · rw [ieq_eq, hg] at e3
      have e3 : xs[i] = n := by simpa using e3
      have hm : n ∈ xs := by rw [← e3]; exact List.getElem_mem hi
      rw [hS, decide_eq_true hm] at hK
      exact hK
    · rw [ieq_eq, hg] at e3
      have e3 : ¬ xs[i] = n := by simpa using e3
      refine okSt_intro (H := HD xs n) (i + 1 : Nat) (by simp only [W, e4]; rfl) ⟨⟨hi, ?_⟩, by show xs.length - (i + 1) < xs.length - i; omega⟩
      rw [List.take_succ_eq_append_getElem hi]
      intro hm
      rcases List.mem_append.1 hm with h | h
      · exact h2 h
      · simp at h; omega
  · rw [ilt_eq, decide_eq_false_iff_not] at e1
    rw [List.take_of_length_le (by omega)] at h2
    rw [hS, decide_eq_false h2] at hK
    exact hK
theorem hasR_ok : Spec.ok E12.I Try.prog 25 hasS.spec := by
  intro args h o ho
  unfold RSpec.spec at ho
  split at ho
  case h_2 => cases ho
  rename_i p v hv
  unfold hasS at hv
  split at hv
  case h_2 => cases hv
  simp only [Option.some.injEq, Prod.mk.injEq] at hv
  obtain ⟨rfl, rfl⟩ := hv
  exact hasR0_ok _ _ o ho
noncomputable def E13a := E12.addR 25 hasS hasR_ok

/- OPQ -/
def thr (t : Int) : Int := 1 + Int.tmod t 4
/- OPQ -/
def nod (n : Int) : Int := 1 + Int.tmod n 12
theorem thr_in {t : Int} (h : 0 ≤ t ∧ t ≤ 255) : 1 ≤ thr t ∧ thr t ≤ 4 := by unfold thr; rw [Int.tmod_eq_emod_of_nonneg h.1]; omega
theorem nod_in {t : Int} (h : 0 ≤ t ∧ t ≤ 255) : 1 ≤ nod t ∧ nod t ≤ 12 := by unfold nod; rw [Int.tmod_eq_emod_of_nonneg h.1]; omega
/- OPQ -/
def memW (t n : Int) (xs : List Int) : List Int := overI (List.replicate (2 * n + 5 * t + 6).toNat 0) 0 (xs.take (2 * n + 5 * t + 6).toNat)
theorem memW_length (t n : Int) (xs : List Int) : (memW t n xs).length = (2 * n + 5 * t + 6).toNat := by
  unfold memW overI; simp; omega
theorem W_id {x : Int} (h : -9223372036854775808 ≤ x ∧ x ≤ 9223372036854775807) : W x = x := W_in h
def memoryS : Spec Unit := fun args h => match args, h with
  | [.agg [.int .u8 t, .int .u8 n, .iview (some .u64) xs]], [] => some (.pre ((0 ≤ t ∧ t ≤ 255) ∧ (0 ≤ n ∧ n ≤ 255)) (.ret (.tup [.ptr 0 0, .agg [.int .i64 (thr t), .int .i64 (nod n)], .agg [.int .i64 (thr t), .int .i64 (nod n)]]) (memH ⟨thr t, nod n, memW (thr t) (nod n) xs, 0, 0, 0, 0, 0, false⟩)))
  | _, _ => none
theorem memory_ok : Spec.ok E13a.I Try.prog 16 memoryS := by
  intro args h o ho K hK
  unfold memoryS at ho
  split at ho
  case h_2 => cases ho
  rename_i t n xs
  simp only [Option.some.injEq] at ho; subst ho
  obtain ⟨⟨ht, hn⟩, hK⟩ := hK
  have hK : K (.tup [.ptr 0 0, .agg [.int .i64 (thr t), .int .i64 (nod n)], .agg [.int .i64 (thr t), .int .i64 (nod n)]]) (memH ⟨thr t, nod n, memW (thr t) (nod n) xs, 0, 0, 0, 0, 0, false⟩) := hK
  refine CallOk.trim (callOk_of (E := E13a) Try.checked.mixed (L := LL) (n := 10) (of_nf (q := (4 : Int) ≠ (0 : Int) ∧ (12 : Int) ≠ (0 : Int) ∧ bif ilt (W (W (W (2 * W (1 + Int.tmod (W n) 12)) + W (5 * W (1 + Int.tmod (W t) 4))) + 6)) (↑(List.length xs) : Int) then ((0 : Int) ≤ W (W (W (2 * W (1 + Int.tmod (W n) 12)) + W (5 * W (1 + Int.tmod (W t) 4))) + 6) ∧ Int.toNat (W (W (W (2 * W (1 + Int.tmod (W n) 12)) + W (5 * W (1 + Int.tmod (W t) 4))) + 6)) ≤ List.length xs) ∧ True ∧ bif !rightB (W (1 + Int.tmod (W t) 4)) (W (1 + Int.tmod (W n) 12)) then K (AVal.tup [AVal.raw (Value.pointer none), AVal.agg [AVal.int .i64 (W (1 + Int.tmod (W t) 4)), AVal.int .i64 (W (1 + Int.tmod (W n) 12))], AVal.agg [AVal.int .i64 0, AVal.int .i64 0]]) [] else (((0 : Int) ≤ W (1 + Int.tmod (W t) 4) ∧ W (1 + Int.tmod (W t) 4) ≤ (100000 : Int)) ∧ (0 : Int) ≤ W (1 + Int.tmod (W n) 12) ∧ W (1 + Int.tmod (W n) 12) ≤ (100000 : Int)) ∧ bif ilt (2 * W (1 + Int.tmod (W n) 12) + 5 * W (1 + Int.tmod (W t) 4) + 6) (↑(List.length (List.take (Int.toNat (W (W (W (2 * W (1 + Int.tmod (W n) 12)) + W (5 * W (1 + Int.tmod (W t) 4))) + 6))) xs)) : Int) then K (AVal.tup [AVal.raw (Value.pointer none), AVal.agg [AVal.int .i64 (W (1 + Int.tmod (W t) 4)), AVal.int .i64 (W (1 + Int.tmod (W n) 12))], AVal.agg [AVal.int .i64 0, AVal.int .i64 0]]) [] else ((((0 : Int) ≤ W (1 + Int.tmod (W t) 4) ∧ W (1 + Int.tmod (W t) 4) ≤ (100000 : Int)) ∧ (0 : Int) ≤ W (1 + Int.tmod (W n) 12) ∧ W (1 + Int.tmod (W n) 12) ≤ (100000 : Int)) ∧ True) ∧ ((0 : Int) ≤ (2 : Int) * W (1 + Int.tmod (W n) 12) + 5 * W (1 + Int.tmod (W t) 4) + 6 ∧ 2 * W (1 + Int.tmod (W n) 12) + 5 * W (1 + Int.tmod (W t) 4) + (6 : Int) = (2 : Int) * W (1 + Int.tmod (W n) 12) + 5 * W (1 + Int.tmod (W t) 4) + 6 ∧ 2 * W (1 + Int.tmod (W n) 12) + 5 * W (1 + Int.tmod (W t) 4) + (6 : Int) ≤ (4294967296 : Int)) ∧ 0 + Int.toNat (2 * W (1 + Int.tmod (W n) 12) + 5 * W (1 + Int.tmod (W t) 4) + 6) ≤ List.length (List.replicate (Int.toNat (2 * W (1 + Int.tmod (W n) 12) + 5 * W (1 + Int.tmod (W t) 4) + 6)) (0 : Int)) ∧ K (AVal.tup [AVal.ptr 0 0, AVal.agg [AVal.int .i64 (W (1 + Int.tmod (W t) 4)), AVal.int .i64 (W (1 + Int.tmod (W n) 12))], AVal.agg [AVal.int .i64 (W (1 + Int.tmod (W t) 4)), AVal.int .i64 (W (1 + Int.tmod (W n) 12))]]) [some (Entry.cells [AVal.int .i64 (W (1 + Int.tmod (W t) 4)), AVal.int .i64 (W (1 + Int.tmod (W n) 12)), AVal.slice 1 0 (Int.toNat (2 * W (1 + Int.tmod (W n) 12) + 5 * W (1 + Int.tmod (W t) 4) + 6)) 1, AVal.int .i64 0, AVal.int .i64 0, AVal.int .i64 0, AVal.int .u64 0, AVal.int .u64 0, AVal.bool false]), some (Entry.ints (some .u64) (overI (List.replicate (Int.toNat (2 * W (1 + Int.tmod (W n) 12) + 5 * W (1 + Int.tmod (W t) 4) + 6)) (0 : Int)) 0 (List.take (min (List.length (List.take (Int.toNat (W (W (W (2 * W (1 + Int.tmod (W n) 12)) + W (5 * W (1 + Int.tmod (W t) 4))) + 6))) xs)) (Int.toNat (2 * W (1 + Int.tmod (W n) 12) + 5 * W (1 + Int.tmod (W t) 4) + 6))) (List.take (Int.toNat (W (W (W (2 * W (1 + Int.tmod (W n) 12)) + W (5 * W (1 + Int.tmod (W t) 4))) + 6))) xs))))] else True ∧ bif !rightB (W (1 + Int.tmod (W t) 4)) (W (1 + Int.tmod (W n) 12)) then K (AVal.tup [AVal.raw (Value.pointer none), AVal.agg [AVal.int .i64 (W (1 + Int.tmod (W t) 4)), AVal.int .i64 (W (1 + Int.tmod (W n) 12))], AVal.agg [AVal.int .i64 0, AVal.int .i64 0]]) [] else (((0 : Int) ≤ W (1 + Int.tmod (W t) 4) ∧ W (1 + Int.tmod (W t) 4) ≤ (100000 : Int)) ∧ (0 : Int) ≤ W (1 + Int.tmod (W n) 12) ∧ W (1 + Int.tmod (W n) 12) ≤ (100000 : Int)) ∧ bif ilt (2 * W (1 + Int.tmod (W n) 12) + 5 * W (1 + Int.tmod (W t) 4) + 6) (↑(List.length xs) : Int) then K (AVal.tup [AVal.raw (Value.pointer none), AVal.agg [AVal.int .i64 (W (1 + Int.tmod (W t) 4)), AVal.int .i64 (W (1 + Int.tmod (W n) 12))], AVal.agg [AVal.int .i64 0, AVal.int .i64 0]]) [] else ((((0 : Int) ≤ W (1 + Int.tmod (W t) 4) ∧ W (1 + Int.tmod (W t) 4) ≤ (100000 : Int)) ∧ (0 : Int) ≤ W (1 + Int.tmod (W n) 12) ∧ W (1 + Int.tmod (W n) 12) ≤ (100000 : Int)) ∧ True) ∧ ((0 : Int) ≤ (2 : Int) * W (1 + Int.tmod (W n) 12) + 5 * W (1 + Int.tmod (W t) 4) + 6 ∧ 2 * W (1 + Int.tmod (W n) 12) + 5 * W (1 + Int.tmod (W t) 4) + (6 : Int) = (2 : Int) * W (1 + Int.tmod (W n) 12) + 5 * W (1 + Int.tmod (W t) 4) + 6 ∧ 2 * W (1 + Int.tmod (W n) 12) + 5 * W (1 + Int.tmod (W t) 4) + (6 : Int) ≤ (4294967296 : Int)) ∧ 0 + Int.toNat (2 * W (1 + Int.tmod (W n) 12) + 5 * W (1 + Int.tmod (W t) 4) + 6) ≤ List.length (List.replicate (Int.toNat (2 * W (1 + Int.tmod (W n) 12) + 5 * W (1 + Int.tmod (W t) 4) + 6)) (0 : Int)) ∧ K (AVal.tup [AVal.ptr 0 0, AVal.agg [AVal.int .i64 (W (1 + Int.tmod (W t) 4)), AVal.int .i64 (W (1 + Int.tmod (W n) 12))], AVal.agg [AVal.int .i64 (W (1 + Int.tmod (W t) 4)), AVal.int .i64 (W (1 + Int.tmod (W n) 12))]]) [some (Entry.cells [AVal.int .i64 (W (1 + Int.tmod (W t) 4)), AVal.int .i64 (W (1 + Int.tmod (W n) 12)), AVal.slice 1 0 (Int.toNat (2 * W (1 + Int.tmod (W n) 12) + 5 * W (1 + Int.tmod (W t) 4) + 6)) 1, AVal.int .i64 0, AVal.int .i64 0, AVal.int .i64 0, AVal.int .u64 0, AVal.int .u64 0, AVal.bool false]), some (Entry.ints (some .u64) (overI (List.replicate (Int.toNat (2 * W (1 + Int.tmod (W n) 12) + 5 * W (1 + Int.tmod (W t) 4) + 6)) (0 : Int)) 0 (List.take (min (List.length xs) (Int.toNat (2 * W (1 + Int.tmod (W n) 12) + 5 * W (1 + Int.tmod (W t) 4) + 6))) xs)))]) (by kernel_rfl) ?_))
  have e1 : W t = t := W_id (by omega)
  have e2 : W n = n := W_id (by omega)
  have h1 := thr_in ht
  have h2 := nod_in hn
  have e3 : W (1 + Int.tmod t 4) = thr t := W_id (by show _ ≤ thr t ∧ thr t ≤ _; omega)
  have e4 : W (1 + Int.tmod n 12) = nod n := W_id (by show _ ≤ nod n ∧ nod n ≤ _; omega)
  rw [e1, e2, e3, e4]
  have e5 : W (W (W (2 * nod n) + W (5 * thr t)) + 6) = 2 * nod n + 5 * thr t + 6 := by
    simp (disch := omega) only [W, W_in]
  rw [e5, rightB_true.2 (by omega)]
  unfold memH at hK
  have hl := memW_length (thr t) (nod n) xs
  simp only [hl] at hK
  have hz : (List.replicate (2 * nod n + 5 * thr t + 6).toNat (0 : Int)).length = (2 * nod n + 5 * thr t + 6).toNat := List.length_replicate
  refine ⟨by omega, by omega, cond_go (fun e => ⟨by rw [ilt_eq, decide_eq_true_eq] at e; omega, trivial, cond_go (fun e => by cases e) (fun _ => ⟨by omega, cond_go (fun e6 => ?_) (fun _ => ⟨⟨by omega, trivial⟩, by omega, by rw [List.length_replicate]; omega, ?_⟩)⟩)⟩) (fun e => ⟨trivial, cond_go (fun e => by cases e) (fun _ => ⟨by omega, cond_go (fun e6 => ?_) (fun _ => ⟨⟨by omega, trivial⟩, by omega, by rw [List.length_replicate]; omega, ?_⟩)⟩)⟩)⟩
  · rw [ilt_eq, decide_eq_true_eq, List.length_take] at e6; omega
  · rw [ilt_eq, decide_eq_true_eq] at e
    have e7 : min (List.take (2 * nod n + 5 * thr t + 6).toNat xs).length (2 * nod n + 5 * thr t + 6).toNat = (2 * nod n + 5 * thr t + 6).toNat := by rw [List.length_take]; omega
    rw [e7, List.take_take, Nat.min_self]
    exact hK
  · rw [e6] at e; cases e
  · rw [ilt_eq, decide_eq_false_iff_not] at e
    have e7 : List.take (min xs.length (2 * nod n + 5 * thr t + 6).toNat) xs = List.take (2 * nod n + 5 * thr t + 6).toNat xs := by
      rw [Nat.min_eq_left (by omega), List.take_of_length_le (Nat.le_refl _), List.take_of_length_le (by omega)]
    rw [e7]
    exact hK
noncomputable def E13 := E13a.addS 16 memoryS memory_ok
end Go.Sh
