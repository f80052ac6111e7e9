/- A list's copy; two lists that are one. -/
import Derived.Test.YtjklokfpnbnndaaZM4
set_option linter.all false
set_option linter.unusedVariables false
set_option linter.unusedSectionVars false
namespace Go.Sh
open Go Go.Proofs
variable [Con]
def cloneS : Spec Unit := fun args h => match args, h with
  | [.slice 0 0 n 1], [some (.ints (some .i64) xs)] => some (.pre (n = xs.length ∧ n ≤ 4294967296) (.ret (.slice 1 0 xs.length 1) [some (.ints (some .i64) xs), some (.ints (some .i64) xs)]))
  | _, _ => none
theorem clone_ok : Spec.ok E5.I Try.prog 76 cloneS := by
  intro args h o ho K hK
  unfold cloneS at ho
  split at ho
  case h_2 => cases ho
  rename_i n xs
  simp only [Option.some.injEq] at ho; subst ho
  obtain ⟨⟨rfl, hp⟩, hK⟩ := hK
  have hK : K (.slice 1 0 xs.length 1) [some (.ints (some .i64) xs), some (.ints (some .i64) xs)] := hK
  refine CallOk.trim (CallOk.castR (cs := [(.slot 0, .ints (some .i64))]) (callOk_of (E := E5) Try.checked.mixed (L := LL) (n := 10) (of_nf (q := ∀ (b : Bool), (b = true → List.length xs = 0) → bif b then K (AVal.slice 1 0 0 1) [some (Entry.ints (some .i64) xs), some (Entry.ints (some .i64) [])] else (0 + List.length xs ≤ List.length xs ∧ 0 + List.length xs ≤ (4294967296 : Nat)) ∧ K (AVal.slice 1 0 (0 + List.length xs) 1) [some (Entry.ints (some .i64) xs), some (Entry.ints (some .i64) ([] ++ List.take (List.length xs) (List.drop 0 xs)))]) (by kernel_rfl) ?_)))
  intro b hb
  refine cond_go (fun e => ?_) (fun e => ⟨⟨by omega, by omega⟩, ?_⟩)
  · have h0 := List.length_eq_zero_iff.1 (hb e)
    subst h0; exact hK
  · simpa using hK

/- OPQ -/
def sameB (xs ys : List Int) : Bool := decide (xs = ys)
theorem sameB_true {xs ys : List Int} : sameB xs ys = true ↔ xs = ys := by unfold sameB; exact decide_eq_true_iff
structure okI (xs ys : List Int) (i : Nat) : Prop where
  h1 : i ≤ xs.length
  h2 : xs.length = ys.length
  h3 : xs.take i = ys.take i
def HI (xs ys : List Int) : Hint Unit := { X := Nat, st := fun i => ([.slice 0 0 xs.length 1, .slice 1 0 ys.length 1, .top, .top, .top, .int .i64 (i : Int)] ++ List.replicate 20 .top, [some (.ints (some .i64) xs), some (.ints (some .i64) ys)]), ok := okI xs ys, mu := fun i => xs.length - i, keep := [0, 1, 5] }
def intsS0 : Spec Unit := fun args h => match args, h with
  | [.slice 0 0 n 1, .slice 1 0 m 1], [some (.ints (some .i64) xs), some (.ints (some .i64) ys)] => some (.pre ((n = xs.length ∧ m = ys.length) ∧ n ≤ 4294967296) (.ret (.bool (sameB xs ys)) [some (.ints (some .i64) xs), some (.ints (some .i64) ys)]))
  | _, _ => none
theorem ints0_ok : Spec.ok E5.I Try.prog 23 intsS0 := by
  intro args h o ho K hK
  unfold intsS0 at ho
  split at ho
  case h_2 => cases ho
  rename_i n m xs ys
  simp only [Option.some.injEq] at ho; subst ho
  obtain ⟨⟨⟨rfl, rfl⟩, hp⟩, hK⟩ := hK
  have hK : K (.bool (sameB xs ys)) [some (.ints (some .i64) xs), some (.ints (some .i64) ys)] := hK
  refine (callOk_of (E := E5) Try.checked.mixed (L := fun _ _ => some (.states (HI xs ys))) (n := 10) (of_nf (q := bif !ieq (↑(List.length xs) : Int) (↑(List.length ys) : Int) then K (AVal.bool false) [some (Entry.ints (some .i64) xs), some (Entry.ints (some .i64) ys)] else okSt (HI xs ys) (Hint.ok (HI xs ys)) [AVal.slice 0 0 (List.length xs) 1, AVal.slice 1 0 (List.length ys) 1, AVal.top, AVal.top, AVal.top, AVal.int .i64 0, AVal.top, AVal.top, AVal.top, AVal.top, AVal.top, AVal.top, AVal.top, AVal.top, AVal.top, AVal.top, AVal.top, AVal.top, AVal.top, AVal.top, AVal.top, AVal.top, AVal.top, AVal.top, AVal.top, AVal.top] [some (Entry.ints (some .i64) xs), some (Entry.ints (some .i64) ys)] ∧ ∀ (x : Nat), okI xs ys x → bif ilt (↑x : Int) (↑(List.length xs) : Int) then ((0 : Int) ≤ (↑x : Int) ∧ (↑x : Int) < (↑(List.length xs) : Int)) ∧ 0 + Int.toNat (↑x : Int) * (1 : Nat) < List.length xs ∧ ((0 : Int) ≤ (↑x : Int) ∧ (↑x : Int) < (↑(List.length ys) : Int)) ∧ 0 + Int.toNat (↑x : Int) * (1 : Nat) < List.length ys ∧ bif !ieq (List.getD xs (0 + Int.toNat (↑x : Int) * 1) 0) (List.getD ys (0 + Int.toNat (↑x : Int) * 1) 0) then K (AVal.bool false) [some (Entry.ints (some .i64) xs), some (Entry.ints (some .i64) ys)] else okSt (HI xs ys) (fun x' => Hint.ok (HI xs ys) x' ∧ Hint.mu (HI xs ys) x' < Hint.mu (HI xs ys) x) [AVal.slice 0 0 (List.length xs) 1, AVal.slice 1 0 (List.length ys) 1, AVal.top, AVal.top, AVal.top, AVal.int .i64 (W ((↑x : Int) + 1)), AVal.top, AVal.top, AVal.top, AVal.top, AVal.top, AVal.top, AVal.top, AVal.top, AVal.top, AVal.top, AVal.top, AVal.top, AVal.top, AVal.top, AVal.top, AVal.top, AVal.top, AVal.top, AVal.top, AVal.top] [some (Entry.ints (some .i64) xs), some (Entry.ints (some .i64) ys)] else K (AVal.bool true) [some (Entry.ints (some .i64) xs), some (Entry.ints (some .i64) ys)]) (by kernel_rfl) ?_))
  have hS : sameB xs ys = decide (xs = ys) := rfl
  refine cond_go (fun e => ?_) (fun e => ⟨okSt_intro (H := HI xs ys) (0 : Nat) rfl ⟨Nat.zero_le _, ?_, rfl⟩, ?_⟩)
  · rw [ieq_eq] at e
    have : xs ≠ ys := by rintro rfl; simp at e
    rw [hS, decide_eq_false this] at hK; exact hK
  · rw [ieq_eq] at e; simp at e; omega
  · rintro i ⟨h1, h2, h3⟩
    refine cond_go (fun e1 => ?_) (fun e1 => ?_)
    · rw [ilt_eq, decide_eq_true_eq] at e1
      have hi : i < xs.length := by omega
      have e2 : 0 + (i : Int).toNat * 1 = i := by omega
      rw [e2]
      refine ⟨by omega, hi, by omega, by omega, cond_go (fun e3 => ?_) (fun e3 => ?_)⟩
      · rw [ieq_eq] at e3
        have : xs ≠ ys := by rintro rfl; simp at e3
        rw [hS, decide_eq_false this] at hK; exact hK
      · rw [ieq_eq] at e3
        have e3 : xs.getD i 0 = ys.getD i 0 := by simpa using e3
        have e4 : IntKind.wrap .i64 ((i : Int) + 1) = ((i + 1 : Nat) : Int) := by rw [W_in (by omega)]; rfl
        refine okSt_intro (H := HI xs ys) (i + 1 : Nat) (by simp only [W, e4]; rfl) ⟨⟨hi, h2, ?_⟩, by show xs.length - (i + 1) < xs.length - i; omega⟩
        have hj : i < ys.length := by omega
        rw [List.getD_eq_getElem?_getD, List.getElem?_eq_getElem hi, List.getD_eq_getElem?_getD, List.getElem?_eq_getElem hj] at e3
        rw [List.take_succ_eq_append_getElem hi, List.take_succ_eq_append_getElem hj, h3]
        have e5 : xs[i] = ys[i] := by simpa using e3
        rw [e5]
    · rw [ilt_eq, decide_eq_false_iff_not] at e1
      have : xs = ys := by
        rw [List.take_of_length_le (by omega), List.take_of_length_le (by omega)] at h3; exact h3
      rw [hS, decide_eq_true this] at hK; exact hK

def intsS : RSpec Unit := fun args h => match args, h with
  | [.slice 0 0 n 1, .slice 1 0 m 1], [some (.ints (some .i64) xs), some (.ints (some .i64) ys)] => some ((n = xs.length ∧ m = ys.length) ∧ n ≤ 4294967296, .bool (sameB xs ys))
  | _, _ => none
theorem ints_ok : Spec.ok E5.I Try.prog 23 intsS.spec := by
  intro args h o ho
  unfold RSpec.spec at ho
  split at ho
  case h_2 => cases ho
  rename_i p v hv
  unfold intsS at hv
  split at hv
  case h_2 => cases hv
  simp only [Option.some.injEq, Prod.mk.injEq] at hv
  obtain ⟨rfl, rfl⟩ := hv
  exact ints0_ok _ _ o ho
noncomputable def E6 := (E5.addS 76 cloneS clone_ok).addR 23 intsS ints_ok
end Go.Sh
