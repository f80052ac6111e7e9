/- A number in a list. -/
import Derived.Test.YtjklokfpnbnndaaZM8
set_option linter.all false
set_option linter.unusedVariables false
set_option linter.unusedSectionVars false
namespace Go.Sh
open Go Go.Proofs
variable [Con]
/- OPQ -/
def hasB (xs : List Int) (n : Int) : Bool := decide (n ∈ xs)
theorem hasB_true {xs : List Int} {n : Int} : hasB xs n = true ↔ n ∈ xs := by unfold hasB; exact decide_eq_true_iff
structure okC (xs : List Int) (n : Int) (i : Nat) : Prop where
  h1 : i ≤ xs.length
  h2 : n ∉ xs.take i
def HC (xs : List Int) (n : Int) : Hint Unit := { X := Nat, st := fun i => ([.slice 0 0 xs.length 1, .int .i64 n, .top, .top, .top, .top, .top, .int .i64 (xs.length : Int), .int .i64 (i : Int)] ++ List.replicate 10 .top, [some (.ints (some .i64) xs)]), ok := okC xs n, mu := fun i => xs.length - i, keep := [0, 1, 7, 8] }
def hasS0 : Spec Unit := fun args h => match args, h with
  | [.slice 0 0 k 1, .int .i64 n], [some (.ints (some .i64) xs)] => some (.pre (k = xs.length ∧ k ≤ 4294967296) (.ret (.bool (hasB xs n)) [some (.ints (some .i64) xs)]))
  | _, _ => none
theorem has0_ok : Spec.ok E8.I Try.prog 100 hasS0 := by
  intro args h o ho K hK
  unfold hasS0 at ho
  split at ho
  case h_2 => cases ho
  rename_i k n xs
  simp only [Option.some.injEq] at ho; subst ho
  obtain ⟨⟨rfl, hp⟩, hK⟩ := hK
  have hK : K (.bool (hasB xs n)) [some (.ints (some .i64) xs)] := hK
  refine (callOk_of (E := E8) Try.checked.mixed (L := fun _ _ => some (.states (HC xs n))) (n := 10) (of_nf (q := okSt (HC xs n) (Hint.ok (HC xs n)) [AVal.slice 0 0 (List.length xs) 1, AVal.int .i64 n, AVal.top, AVal.top, AVal.top, AVal.top, AVal.top, AVal.int .i64 (↑(List.length xs) : Int), AVal.int .i64 0, AVal.top, AVal.top, AVal.top, AVal.top, AVal.top, AVal.top, AVal.top, AVal.top, AVal.top, AVal.top] [some (Entry.ints (some .i64) xs)] ∧ ∀ (x : Nat), okC xs n x → bif ilt (↑x : Int) (↑(List.length xs) : Int) then ((0 : Int) ≤ (↑x : Int) ∧ (↑x : Int) < (↑(List.length xs) : Int)) ∧ 0 + Int.toNat (↑x : Int) * (1 : Nat) < List.length xs ∧ bif ieq n (List.getD xs (0 + Int.toNat (↑x : Int) * 1) 0) then K (AVal.bool (ile 0 (↑x : Int))) [some (Entry.ints (some .i64) xs)] else okSt (HC xs n) (fun x' => Hint.ok (HC xs n) x' ∧ Hint.mu (HC xs n) x' < Hint.mu (HC xs n) x) [AVal.slice 0 0 (List.length xs) 1, AVal.int .i64 n, AVal.top, AVal.top, AVal.top, AVal.top, AVal.top, AVal.int .i64 (↑(List.length xs) : Int), AVal.int .i64 (W ((↑x : Int) + 1)), AVal.top, AVal.top, AVal.top, AVal.top, AVal.top, AVal.top, AVal.top, AVal.top, AVal.top, AVal.top] [some (Entry.ints (some .i64) xs)] else K (AVal.bool false) [some (Entry.ints (some .i64) xs)]) (by kernel_rfl) ?_))
  have hS : hasB xs n = decide (n ∈ xs) := rfl
  refine ⟨okSt_intro (H := HC xs n) (0 : Nat) rfl ⟨Nat.zero_le _, by simp⟩, ?_⟩
  rintro i ⟨h1, h2⟩
  refine cond_go (fun e1 => ?_) (fun e1 => ?_)
  · rw [ilt_eq, decide_eq_true_eq] at e1
    have hi : i < xs.length := by omega
    have e2 : 0 + (i : Int).toNat * 1 = i := by omega
    rw [e2]
    have e4 : IntKind.wrap .i64 ((i : Int) + 1) = ((i + 1 : Nat) : Int) := by rw [W_in (by omega)]; rfl
    have hg : xs.getD i 0 = xs[i] := by rw [List.getD_eq_getElem?_getD, List.getElem?_eq_getElem hi]; rfl
    refine ⟨by omega, hi, cond_go (fun e3 => ?_) (fun e3 => ?_)⟩
    · rw [ieq_eq, hg] at e3
      have e3 : n = xs[i] := by simpa using e3
      have hm : n ∈ xs := by rw [e3]; exact List.getElem_mem hi
      have h0 : ile 0 (i : Int) = true := by rw [ile_eq, decide_eq_true_eq]; omega
      rw [hS, decide_eq_true hm] at hK
      first | (rw [h0]; exact hK) | exact hK
    · rw [ieq_eq, hg] at e3
      have e3 : ¬ n = xs[i] := by simpa using e3
      refine okSt_intro (H := HC xs n) (i + 1 : Nat) (by simp only [W, e4]; rfl) ⟨⟨hi, ?_⟩, by show xs.length - (i + 1) < xs.length - i; omega⟩
      rw [List.take_succ_eq_append_getElem hi]
      intro hm
      rcases List.mem_append.1 hm with h | h
      · exact h2 h
      · exact e3 (by simpa using h)
  · rw [ilt_eq, decide_eq_false_iff_not] at e1
    rw [List.take_of_length_le (by omega)] at h2
    rw [hS, decide_eq_false h2] at hK
    exact hK
def hasS : RSpec Unit := fun args h => match args, h with
  | [.slice 0 0 k 1, .int .i64 n], [some (.ints (some .i64) xs)] => some (k = xs.length ∧ k ≤ 4294967296, .bool (hasB xs n))
  | _, _ => none
theorem has_ok : Spec.ok E8.I Try.prog 100 hasS.spec := by
  intro args h o ho
  unfold RSpec.spec at ho
  split at ho
  case h_2 => cases ho
  rename_i p v hv
  unfold hasS at hv
  split at hv
  case h_2 => cases hv
  simp only [Option.some.injEq, Prod.mk.injEq] at hv
  obtain ⟨rfl, rfl⟩ := hv
  exact has0_ok _ _ o ho
noncomputable def E9 := E8.addR 100 hasS has_ok
end Go.Sh
