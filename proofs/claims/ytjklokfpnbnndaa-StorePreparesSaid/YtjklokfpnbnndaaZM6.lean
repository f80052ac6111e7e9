/- A store: begun; what it holds; whether it is full. -/
import Derived.Test.YtjklokfpnbnndaaZM5
set_option linter.all false
set_option linter.unusedVariables false
set_option linter.unusedSectionVars false
namespace Go.Sh
open Go Go.Proofs
variable [Con]
def storeNewS : Spec Unit := fun args h => match args, h with
  | [.agg [.int .i64 t, .int .i64 n], .int .i64 me], [] => some (.ret (.ptr 0 0) [some (.cells [.int .i64 t, .int .i64 n, .int .i64 me, .int .i64 0, .raw (.slice none 0 0)])])
  | _, _ => none
theorem storeNew_ok : Spec.ok E6.I Try.prog 34 storeNewS := by
  intro args h o ho K hK
  unfold storeNewS at ho
  split at ho
  case h_2 => cases ho
  rename_i t n me
  simp only [Option.some.injEq] at ho; subst ho
  have hK : K (.ptr 0 0) [some (.cells [.int .i64 t, .int .i64 n, .int .i64 me, .int .i64 0, .raw (.slice none 0 0)])] := hK
  exact CallOk.trim (callOk_of (E := E6) Try.checked.mixed (L := LL) (n := 10) (of_nf (q := K (AVal.ptr 0 0) [some (Entry.cells [AVal.int .i64 t, AVal.int .i64 n, AVal.int .i64 me, AVal.int .i64 0, AVal.raw (Value.slice none 0 0)])]) (by kernel_rfl) hK))

/- OPQ -/
def heldL (sp : Int) (xs : List Int) : List Int := bif ieq sp 0 then xs else sp :: xs
def heldS : Spec Unit := fun args h => match args, h with
  | [.ptr 0 0], [some (.cells [.int .i64 t, .int .i64 n, .int .i64 me, .int .i64 sp, .slice 1 0 k 1]), some (.ints (some .i64) xs)] => some (.pre (k = xs.length ∧ k ≤ 1000000) (.ret (.slice 2 0 (heldL sp xs).length 1) [some (.cells [.int .i64 t, .int .i64 n, .int .i64 me, .int .i64 sp, .slice 1 0 k 1]), some (.ints (some .i64) xs), some (.ints (some .i64) (heldL sp xs))]))
  | _, _ => none
theorem held_ok : Spec.ok E6.I Try.prog 37 heldS := by
  intro args h o ho K hK
  unfold heldS at ho
  split at ho
  case h_2 => cases ho
  rename_i t n me sp k xs
  simp only [Option.some.injEq] at ho; subst ho
  obtain ⟨⟨rfl, hp⟩, hK⟩ := hK
  have hK : K (.slice 2 0 (heldL sp xs).length 1) [some (.cells [.int .i64 t, .int .i64 n, .int .i64 me, .int .i64 sp, .slice 1 0 xs.length 1]), some (.ints (some .i64) xs), some (.ints (some .i64) (heldL sp xs))] := hK
  refine CallOk.trim (CallOk.castR (cs := [(.slot 0, .ints (some .i64))]) (callOk_of (E := E6) Try.checked.mixed (L := LL) (n := 10) (of_nf (q := bif ieq sp 0 then (List.length xs = List.length xs ∧ List.length xs ≤ (4294967296 : Nat)) ∧ K (AVal.slice 2 0 (List.length xs) 1) [some (Entry.cells [AVal.int .i64 t, AVal.int .i64 n, AVal.int .i64 me, AVal.int .i64 sp, AVal.slice 1 0 (List.length xs) 1]), some (Entry.ints (some .i64) xs), some (Entry.ints (some .i64) xs)] else (0 + List.length xs ≤ List.length xs ∧ 1 + List.length xs ≤ (4294967296 : Nat)) ∧ K (AVal.slice 2 0 (1 + List.length xs) 1) [some (Entry.cells [AVal.int .i64 t, AVal.int .i64 n, AVal.int .i64 me, AVal.int .i64 sp, AVal.slice 1 0 (List.length xs) 1]), some (Entry.ints (some .i64) xs), some (Entry.ints (some .i64) ([sp] ++ List.take (List.length xs) (List.drop 0 xs)))]) (by kernel_rfl) ?_)))
  unfold heldL at hK
  refine cond_go (fun e => ⟨⟨rfl, by omega⟩, ?_⟩) (fun e => ⟨⟨by omega, by omega⟩, ?_⟩)
  · rw [e] at hK; exact hK
  · rw [e] at hK
    simp only [cond_false] at hK
    have e1 : 1 + xs.length = (sp :: xs).length := by simp; omega
    have e2 : [sp] ++ List.take xs.length (List.drop 0 xs) = sp :: xs := by simp
    rw [e1, e2]; exact hK

def fullS0 : Spec Unit := fun args h => match args, h with
  | [.ptr 0 0], some (.cells [.int .i64 t, .int .i64 n, .int .i64 me, .int .i64 sp, .slice 1 0 k 1]) :: rest => some (.pre (0 ≤ t ∧ t ≤ 100000) (.ret (.bool (ile (4 * t) (k : Int))) (some (.cells [.int .i64 t, .int .i64 n, .int .i64 me, .int .i64 sp, .slice 1 0 k 1]) :: rest)))
  | _, _ => none
theorem full0_ok : Spec.ok E6.I Try.prog 38 fullS0 := by
  intro args h o ho K hK
  unfold fullS0 at ho
  split at ho
  case h_2 => cases ho
  rename_i t n me sp k rest
  simp only [Option.some.injEq] at ho; subst ho
  obtain ⟨hp, hK⟩ := hK
  have hK : K (.bool (ile (4 * t) (k : Int))) (some (.cells [.int .i64 t, .int .i64 n, .int .i64 me, .int .i64 sp, .slice 1 0 k 1]) :: rest) := hK
  refine (callOk_of (E := E6) Try.checked.mixed (L := LL) (n := 10) (of_nf (q := K (AVal.bool (ile (W (4 * t)) (↑k : Int))) (some (Entry.cells [AVal.int .i64 t, AVal.int .i64 n, AVal.int .i64 me, AVal.int .i64 sp, AVal.slice 1 0 k 1]) :: rest)) (by kernel_rfl) ?_))
  simp (disch := omega) only [W, W_in]
  exact hK
def fullS : RSpec Unit := fun args h => match args, h with
  | [.ptr 0 0], some (.cells [.int .i64 t, .int .i64 n, .int .i64 me, .int .i64 sp, .slice 1 0 k 1]) :: rest => some (0 ≤ t ∧ t ≤ 100000, .bool (ile (4 * t) (k : Int)))
  | _, _ => none
theorem full_ok : Spec.ok E6.I Try.prog 38 fullS.spec := by
  intro args h o ho
  unfold RSpec.spec at ho
  split at ho
  case h_2 => cases ho
  rename_i p v hv
  unfold fullS at hv
  split at hv
  case h_2 => cases hv
  simp only [Option.some.injEq, Prod.mk.injEq] at hv
  obtain ⟨rfl, rfl⟩ := hv
  exact full0_ok _ _ o ho
noncomputable def E7 := ((E6.addS 34 storeNewS storeNew_ok).addS 37 heldS held_ok).addR 38 fullS full_ok
end Go.Sh
