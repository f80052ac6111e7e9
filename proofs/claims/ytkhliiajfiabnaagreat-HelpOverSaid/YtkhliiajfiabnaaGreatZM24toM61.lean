import Derived.Test.YtkhliiajfiabnaaGreatZM0toM23
set_option linter.all false
namespace Go.Sh
open Go Go.Proofs
variable [Con]
noncomputable def E24 := (((((E23)))))
end Go.Sh

namespace Go.Sh
open Go Go.Proofs
variable [Con]
def guardNewS : Spec Ob := fun args h => match args, h with
  | [.agg [.int .i64 t, .int .i64 n], .slice 0 0 k 1], [some (.ints (some .i64) xs)] => some (.pre (k = xs.length ∧ k ≤ 1000000) (.ret (.ptr 1 0) [some (.ints (some .i64) xs), some (.cells [.int .i64 t, .int .i64 n, .raw (.slice none 0 0), .raw (.slice none 0 0), .slice 2 0 xs.length 1, .map 3, .int .i64 0, .raw (.pointer none)]), some (.ints (some .i64) xs), some (.imap .i64 none [])]))
  | _, _ => none
theorem guardNew_ok : Spec.ok E24.I Tryz.prog 127 guardNewS := by
  intro args h o ho K hK
  unfold guardNewS at ho
  split at ho
  case h_2 => cases ho
  rename_i t n k xs
  simp only [Option.some.injEq] at ho; subst ho
  obtain ⟨⟨rfl, hp⟩, hK⟩ := hK
  refine CallOk.trim (callOk_of (E := E24) Tryz.checked.mixed (L := LL) (n := 10) (of_nf (q := ((List.length xs = List.length xs ∧ List.length xs ≤ (4294967296 : Nat)) ∧ True) ∧ K (AVal.ptr 1 0) [some (Entry.ints (some .i64) xs), some (Entry.cells [AVal.int .i64 t, AVal.int .i64 n, AVal.raw (Value.slice none 0 0), AVal.raw (Value.slice none 0 0), AVal.slice 2 0 (List.length xs) 1, AVal.map 3, AVal.int .i64 0, AVal.raw (Value.pointer none)]), some (Entry.ints (some .i64) xs), some (Entry.imap .i64 none [])]) (by kernel_rfl) ?_))
  exact ⟨⟨⟨rfl, by omega⟩, trivial⟩, hK⟩
def backS : Spec Ob := fun args h => match args, h with
  | [.agg [.int .i64 t, .int .i64 n], .slice 0 0 k 1], [some (.ints (some .i64) xs)] => some (.pre (k = xs.length ∧ k ≤ 1000000) (.ret (.ptr 1 0) [some (.ints (some .i64) xs), some (.cells [.int .i64 t, .int .i64 n, .slice 2 0 xs.length 1]), some (.ints (some .i64) xs)]))
  | _, _ => none
theorem back_ok : Spec.ok E24.I Tryz.prog 148 backS := by
  intro args h o ho K hK
  unfold backS at ho
  split at ho
  case h_2 => cases ho
  rename_i t n k xs
  simp only [Option.some.injEq] at ho; subst ho
  obtain ⟨⟨rfl, hp⟩, hK⟩ := hK
  refine CallOk.trim (callOk_of (E := E24) Tryz.checked.mixed (L := LL) (n := 10) (of_nf (q := ((List.length xs = List.length xs ∧ List.length xs ≤ (4294967296 : Nat)) ∧ True) ∧ K (AVal.ptr 1 0) [some (Entry.ints (some .i64) xs), some (Entry.cells [AVal.int .i64 t, AVal.int .i64 n, AVal.slice 2 0 (List.length xs) 1]), some (Entry.ints (some .i64) xs)]) (by kernel_rfl) ?_))
  exact ⟨⟨⟨rfl, by omega⟩, trivial⟩, hK⟩
noncomputable def E35a := (E24.addS 127 guardNewS guardNew_ok).addS 148 backS back_ok
def mhas (m : List (Int × Int)) (n : Int) : Bool := !ieq (Option.getD (mget m n) 0) 0
def keptL (m : List (Int × Int)) (xs : List Int) : List Int := xs.filter (mhas m)
def freedL (m : List (Int × Int)) (xs : List Int) : List Int := xs.filter (fun n => !mhas m n)
structure okPt (m : List (Int × Int)) (xs : List Int) (x : Nat × List Int × List Int) : Prop where
  h1 : x.1 ≤ xs.length
  h2 : x.2.1 = keptL m (xs.take x.1)
  h3 : x.2.2 = freedL m (xs.take x.1)
def HPt (t n at' : Int) (m : List (Int × Int)) (xs : List Int) : Hint Ob := { X := Nat × List Int × List Int, st := fun x => ([.ptr 0 0, .top, .top, .top, .top, .top, .top, .top, .slice 1 0 xs.length 1, .int .i64 (xs.length : Int), .int .i64 (x.1 : Int)] ++ List.replicate 48 .top, [some (.cells [.int .i64 t, .int .i64 n, .slice 3 0 x.2.1.length 1, .slice 4 0 x.2.2.length 1, .slice 1 0 xs.length 1, .map 2, .int .i64 at', .raw (.pointer none)]), some (.ints (some .i64) xs), some (.imap .i64 none m), some (.ints (some .i64) x.2.1), some (.ints (some .i64) x.2.2)]), ok := okPt m xs, mu := fun x => xs.length - x.1, keep := [0, 8, 9, 10], casts := [(.cell 0 2, .ints (some .i64)), (.cell 0 3, .ints (some .i64))] }
def partsS : Spec Ob := fun args h => match args, h with
  | [.ptr 0 0], [some (.cells [.int .i64 t, .int .i64 n, .raw (.slice none 0 0), .raw (.slice none 0 0), .slice 1 0 k 1, .map 2, .int .i64 at', .raw (.pointer none)]), some (.ints (some .i64) xs), some (.imap .i64 none m)] => some (.pre (k = xs.length ∧ k ≤ 1000000) (.ret (.bool (ieq ((freedL m xs).length : Int) 0)) [some (.cells [.int .i64 t, .int .i64 n, .slice 3 0 (keptL m xs).length 1, .slice 4 0 (freedL m xs).length 1, .slice 1 0 xs.length 1, .map 2, .int .i64 at', .ptr 5 0]), some (.ints (some .i64) xs), some (.imap .i64 none m), some (.ints (some .i64) (keptL m xs)), some (.ints (some .i64) (freedL m xs)), some (.cells [.int .i64 t, .int .i64 n, .slice 6 0 (freedL m xs).length 1]), some (.ints (some .i64) (freedL m xs))]))
  | _, _ => none
theorem filt_len (p : Int → Bool) (xs : List Int) : (xs.filter p).length ≤ xs.length := List.length_filter_le p xs
theorem parts_ok : Spec.ok E35a.I Tryz.prog 144 partsS := by
  intro args h o ho K hK
  unfold partsS at ho
  split at ho
  case h_2 => cases ho
  rename_i t n k at' xs m
  simp only [Option.some.injEq] at ho; subst ho
  obtain ⟨⟨rfl, hp⟩, hK⟩ := hK
  refine CallOk.trim (callOk_of (E := E35a) Tryz.checked.mixed (L := fun _ _ => some (.states (HPt t n at' m xs))) (n := 10) (of_nf (q := okSt (HPt t n at' m xs) (Hint.ok (HPt t n at' m xs)) [AVal.ptr 0 0, AVal.top, AVal.top, AVal.top, AVal.top, AVal.top, AVal.top, AVal.top, AVal.slice 1 0 (List.length xs) 1, AVal.int .i64 (↑(List.length xs) : Int), AVal.int .i64 0, AVal.top, AVal.top, AVal.top, AVal.top, AVal.top, AVal.top, AVal.top, AVal.top, AVal.top, AVal.top, AVal.top, AVal.top, AVal.top, AVal.top, AVal.top, AVal.top, AVal.top, AVal.top, AVal.top, AVal.top, AVal.top, AVal.top, AVal.top, AVal.top, AVal.top, AVal.top, AVal.top, AVal.top, AVal.top, AVal.top, AVal.top, AVal.top, AVal.top, AVal.top, AVal.top, AVal.top, AVal.top, AVal.top, AVal.top, AVal.top, AVal.top, AVal.top, AVal.top, AVal.top, AVal.top, AVal.top, AVal.top, AVal.top] [some (Entry.cells [AVal.int .i64 t, AVal.int .i64 n, AVal.slice 3 0 0 1, AVal.slice 4 0 0 1, AVal.slice 1 0 (List.length xs) 1, AVal.map 2, AVal.int .i64 at', AVal.raw (Value.pointer none)]), some (Entry.ints (some .i64) xs), some (Entry.imap .i64 none m), some (Entry.ints (some .i64) []), some (Entry.ints (some .i64) [])] ∧ ∀ (x : (Nat × List Int × List Int)), okPt m xs x → bif ilt (↑x.1 : Int) (↑(List.length xs) : Int) then ((0 : Int) ≤ (↑x.1 : Int) ∧ (↑x.1 : Int) < (↑(List.length xs) : Int)) ∧ 0 + Int.toNat (↑x.1 : Int) * (1 : Nat) < List.length xs ∧ bif !ieq (Option.getD (mget m (List.getD xs (0 + Int.toNat (↑x.1 : Int) * 1) 0)) 0) 0 then (0 = 0 ∧ List.length (Prod.snd x).1 = List.length (Prod.snd x).1 ∧ 1 = 1 ∧ List.length (Prod.snd x).1 + (1 : Nat) ≤ (4294967296 : Nat)) ∧ okSt (HPt t n at' m xs) (fun x' => Hint.ok (HPt t n at' m xs) x' ∧ Hint.mu (HPt t n at' m xs) x' < Hint.mu (HPt t n at' m xs) x) [AVal.ptr 0 0, AVal.top, AVal.top, AVal.top, AVal.top, AVal.top, AVal.top, AVal.top, AVal.slice 1 0 (List.length xs) 1, AVal.int .i64 (↑(List.length xs) : Int), AVal.int .i64 (W ((↑x.1 : Int) + 1)), AVal.top, AVal.top, AVal.top, AVal.top, AVal.top, AVal.top, AVal.top, AVal.top, AVal.top, AVal.top, AVal.top, AVal.top, AVal.top, AVal.top, AVal.top, AVal.top, AVal.top, AVal.top, AVal.top, AVal.top, AVal.top, AVal.top, AVal.top, AVal.top, AVal.top, AVal.top, AVal.top, AVal.top, AVal.top, AVal.top, AVal.top, AVal.top, AVal.top, AVal.top, AVal.top, AVal.top, AVal.top, AVal.top, AVal.top, AVal.top, AVal.top, AVal.top, AVal.top, AVal.top, AVal.top, AVal.top, AVal.top, AVal.top] [some (Entry.cells [AVal.int .i64 t, AVal.int .i64 n, AVal.slice 3 0 (List.length (Prod.snd x).1 + 1) 1, AVal.slice 4 0 (List.length (Prod.snd x).2) 1, AVal.slice 1 0 (List.length xs) 1, AVal.map 2, AVal.int .i64 at', AVal.raw (Value.pointer none)]), some (Entry.ints (some .i64) xs), some (Entry.imap .i64 none m), some (Entry.ints (some .i64) ((Prod.snd x).1 ++ [List.getD xs (0 + Int.toNat (↑x.1 : Int) * 1) 0])), some (Entry.ints (some .i64) (Prod.snd x).2)] else (0 = 0 ∧ List.length (Prod.snd x).2 = List.length (Prod.snd x).2 ∧ 1 = 1 ∧ List.length (Prod.snd x).2 + (1 : Nat) ≤ (4294967296 : Nat)) ∧ okSt (HPt t n at' m xs) (fun x' => Hint.ok (HPt t n at' m xs) x' ∧ Hint.mu (HPt t n at' m xs) x' < Hint.mu (HPt t n at' m xs) x) [AVal.ptr 0 0, AVal.top, AVal.top, AVal.top, AVal.top, AVal.top, AVal.top, AVal.top, AVal.slice 1 0 (List.length xs) 1, AVal.int .i64 (↑(List.length xs) : Int), AVal.int .i64 (W ((↑x.1 : Int) + 1)), AVal.top, AVal.top, AVal.top, AVal.top, AVal.top, AVal.top, AVal.top, AVal.top, AVal.top, AVal.top, AVal.top, AVal.top, AVal.top, AVal.top, AVal.top, AVal.top, AVal.top, AVal.top, AVal.top, AVal.top, AVal.top, AVal.top, AVal.top, AVal.top, AVal.top, AVal.top, AVal.top, AVal.top, AVal.top, AVal.top, AVal.top, AVal.top, AVal.top, AVal.top, AVal.top, AVal.top, AVal.top, AVal.top, AVal.top, AVal.top, AVal.top, AVal.top, AVal.top, AVal.top, AVal.top, AVal.top, AVal.top, AVal.top] [some (Entry.cells [AVal.int .i64 t, AVal.int .i64 n, AVal.slice 3 0 (List.length (Prod.snd x).1) 1, AVal.slice 4 0 (List.length (Prod.snd x).2 + 1) 1, AVal.slice 1 0 (List.length xs) 1, AVal.map 2, AVal.int .i64 at', AVal.raw (Value.pointer none)]), some (Entry.ints (some .i64) xs), some (Entry.imap .i64 none m), some (Entry.ints (some .i64) (Prod.snd x).1), some (Entry.ints (some .i64) ((Prod.snd x).2 ++ [List.getD xs (0 + Int.toNat (↑x.1 : Int) * 1) 0]))] else ((List.length (Prod.snd x).2 = List.length (Prod.snd x).2 ∧ List.length (Prod.snd x).2 ≤ (1000000 : Nat)) ∧ True) ∧ K (AVal.bool (ieq (↑(List.length (Prod.snd x).2) : Int) 0)) [some (Entry.cells [AVal.int .i64 t, AVal.int .i64 n, AVal.slice 3 0 (List.length (Prod.snd x).1) 1, AVal.slice 4 0 (List.length (Prod.snd x).2) 1, AVal.slice 1 0 (List.length xs) 1, AVal.map 2, AVal.int .i64 at', AVal.ptr 5 0]), some (Entry.ints (some .i64) xs), some (Entry.imap .i64 none m), some (Entry.ints (some .i64) (Prod.snd x).1), some (Entry.ints (some .i64) (Prod.snd x).2), some (Entry.cells [AVal.int .i64 t, AVal.int .i64 n, AVal.slice 6 0 (List.length (Prod.snd x).2) 1]), some (Entry.ints (some .i64) (Prod.snd x).2)]) (by kernel_rfl) ?_))
  refine ⟨okSt_intro (H := HPt t n at' m xs) ((0 : Nat), ([] : List Int), ([] : List Int)) rfl ⟨Nat.zero_le _, rfl, rfl⟩, ?_⟩
  rintro ⟨i, ks, fs⟩ ⟨h1, h2, h3⟩
  dsimp only at h1 h2 h3 ⊢
  refine lt_go (fun hi => ?_) (fun hi => ?_)
  · have hi' : i < xs.length := by omega
    have e2 : 0 + (i : Int).toNat * 1 = i := by omega
    have hg : xs.getD i 0 = xs[i] := by rw [List.getD_eq_getElem?_getD, List.getElem?_eq_getElem hi']; rfl
    have e4 : W ((i : Int) + 1) = ((i + 1 : Nat) : Int) := by rw [W_id (by omega)]; rfl
    have hk : keptL m (xs.take (i + 1)) = ks ++ (bif mhas m xs[i] then [xs[i]] else []) := by
      rw [h2]; unfold keptL; rw [List.take_succ_eq_append_getElem hi', List.filter_append]
      cases hm : mhas m xs[i] <;> simp [hm]
    have hf : freedL m (xs.take (i + 1)) = fs ++ (bif mhas m xs[i] then [] else [xs[i]]) := by
      rw [h3]; unfold freedL; rw [List.take_succ_eq_append_getElem hi', List.filter_append]
      cases hm : mhas m xs[i] <;> simp [hm]
    have hkl : ks.length ≤ xs.length := by rw [h2]; exact Nat.le_trans (filt_len _ _) (by simp; omega)
    have hfl : fs.length ≤ xs.length := by rw [h3]; exact Nat.le_trans (filt_len _ _) (by simp; omega)
    have hmu : xs.length - (i + 1) < xs.length - i := by omega
    rw [e2, e4, hg]
    have hd : (!ieq (Option.getD (mget m xs[i]) 0) 0) = mhas m xs[i] := rfl
    rw [hd]
    refine ⟨by omega, by omega, cond_go (fun hm => ⟨⟨rfl, rfl, rfl, by omega⟩, ?_⟩) (fun hm => ⟨⟨rfl, rfl, rfl, by omega⟩, ?_⟩)⟩
    · rw [hm] at hk hf
      simp only [cond_true, List.append_nil] at hk hf
      exact okSt_intro (H := HPt t n at' m xs) ((i + 1 : Nat), ks ++ [xs[i]], fs) (by simp only [HPt, List.length_append]; rfl) ⟨⟨hi', hk.symm, hf.symm⟩, hmu⟩
    · rw [hm] at hk hf
      simp only [cond_false, List.append_nil] at hk hf
      exact okSt_intro (H := HPt t n at' m xs) ((i + 1 : Nat), ks, fs ++ [xs[i]]) (by simp only [HPt, List.length_append]; rfl) ⟨⟨hi', hk.symm, hf.symm⟩, hmu⟩
  · rw [List.take_of_length_le (by omega)] at h2 h3
    subst h2 h3
    have := filt_len (fun n => !mhas m n) xs
    refine ⟨⟨⟨rfl, ?_⟩, trivial⟩, hK⟩
    show (freedL m xs).length ≤ 1000000
    unfold freedL
    omega
noncomputable def E35 := E35a.addS 144 partsS parts_ok
end Go.Sh

namespace Go.Sh
open Go Go.Proofs
variable [Con]
def swA (t n me sp : Int) (R : List Int) (s : MS) : Heap Ob := [some (.cells [.ptr 1 0, .raw (.pointer none)]), some (.cells [.int .i64 t, .int .i64 n, .int .i64 me, .int .i64 sp, .slice 2 0 R.length 1]), some (.ints (some .i64) R), some (.cells [.int .i64 s.t, .int .i64 s.n, .slice 4 0 s.xs.length 1, .int .i64 s.c, .int .i64 s.k, .int .i64 s.a, .int .u64 s.o, .int .u64 s.w, .bool s.ok]), some (.ints (some .u64) s.xs)]
def swA' (t n me sp : Int) (R : List Int) (s : MS) (m : List (Int × Int)) (i : Int) : Heap Ob := [some (.cells [.ptr 1 0, .ptr 5 0]), some (.cells [.int .i64 t, .int .i64 n, .int .i64 me, .int .i64 sp, .slice 2 0 R.length 1]), some (.ints (some .i64) R), some (.cells [.int .i64 s.t, .int .i64 s.n, .slice 4 0 s.xs.length 1, .int .i64 s.c, .int .i64 s.k, .int .i64 s.a, .int .u64 s.o, .int .u64 s.w, .bool s.ok]), some (.ints (some .u64) s.xs), some (.cells [.int .i64 t, .int .i64 n, .raw (.slice none 0 0), .raw (.slice none 0 0), .slice 6 0 R.length 1, .map 7, .int .i64 i, .raw (.pointer none)]), some (.ints (some .i64) R), some (.imap .i64 none m)]
def swB (t n me sp : Int) (R N : List Int) (s : MS) (m : List (Int × Int)) (i : Int) : Heap Ob := [some (.cells [.ptr 1 0, .ptr 3 0]), some (.cells [.int .i64 t, .int .i64 n, .int .i64 me, .int .i64 sp, .slice 2 0 R.length 1]), some (.ints (some .i64) R), some (.cells [.int .i64 t, .int .i64 n, .raw (.slice none 0 0), .raw (.slice none 0 0), .slice 4 0 N.length 1, .map 5, .int .i64 i, .raw (.pointer none)]), some (.ints (some .i64) N), some (.imap .i64 none m), some (.cells [.int .i64 s.t, .int .i64 s.n, .slice 7 0 s.xs.length 1, .int .i64 s.c, .int .i64 s.k, .int .i64 s.a, .int .u64 s.o, .int .u64 s.w, .bool s.ok]), some (.ints (some .u64) s.xs)]
def swB' (t n me sp : Int) (st : AVal) (R N ks fs : List Int) (s : MS) (m : List (Int × Int)) (i : Int) : Heap Ob := [some (.cells [.ptr 1 0, .ptr 3 0]), some (.cells [.int .i64 t, .int .i64 n, .int .i64 me, .int .i64 sp, st]), some (.ints (some .i64) R), some (.cells [.int .i64 t, .int .i64 n, .slice 8 0 ks.length 1, .slice 9 0 fs.length 1, .slice 4 0 N.length 1, .map 5, .int .i64 i, .ptr 10 0]), some (.ints (some .i64) N), some (.imap .i64 none m), some (.cells [.int .i64 s.t, .int .i64 s.n, .slice 7 0 s.xs.length 1, .int .i64 s.c, .int .i64 s.k, .int .i64 s.a, .int .u64 s.o, .int .u64 s.w, .bool s.ok]), some (.ints (some .u64) s.xs), some (.ints (some .i64) ks), some (.ints (some .i64) fs), some (.cells [.int .i64 t, .int .i64 n, .slice 11 0 fs.length 1]), some (.ints (some .i64) fs)]
def swC (t n me sp : Int) (st : AVal) (R N ks fs gs : List Int) (s : MS) (m : List (Int × Int)) (i : Int) (j l : Nat) : Heap Ob := [some (.cells [.ptr 1 0, .ptr 3 0]), some (.cells [.int .i64 t, .int .i64 n, .int .i64 me, .int .i64 sp, st]), some (.ints (some .i64) R), some (.cells [.int .i64 t, .int .i64 n, .slice 4 0 ks.length 1, .slice 5 0 fs.length 1, .slice 6 0 N.length 1, .map 7, .int .i64 i, .ptr 8 0]), some (.ints (some .i64) ks), some (.ints (some .i64) fs), some (.ints (some .i64) N), some (.imap .i64 none m), some (.cells [.int .i64 t, .int .i64 n, .slice 9 j l 1]), some (.ints (some .i64) gs), some (.cells [.int .i64 s.t, .int .i64 s.n, .slice 11 0 s.xs.length 1, .int .i64 s.c, .int .i64 s.k, .int .i64 s.a, .int .u64 s.o, .int .u64 s.w, .bool s.ok]), some (.ints (some .u64) s.xs)]
def memL (w : Nat) (h : Heap Ob) : Option (Nat × MS) := match h with
  | [some (.cells [.int .i64 t, .int .i64 n, .slice l 0 len 1, .int .i64 c, .int .i64 k, .int .i64 a, .int .u64 o, .int .u64 v, .bool ok]), some (.ints (some .u64) xs)] => if l = w then some (len, ⟨t, n, xs, c, k, a, o, v, ok⟩) else none
  | _ => none
theorem memL_eq {w : Nat} {h : Heap Ob} {l : Nat} {s : MS} (e : memL w h = some (l, s)) (hl : l = s.xs.length) : h = [some (.cells [.int .i64 s.t, .int .i64 s.n, .slice w 0 s.xs.length 1, .int .i64 s.c, .int .i64 s.k, .int .i64 s.a, .int .u64 s.o, .int .u64 s.w, .bool s.ok]), some (.ints (some .u64) s.xs)] := by
  unfold memL at e
  split at e
  · split at e
    · rename_i hw
      simp only [Option.some.injEq, Prod.mk.injEq] at e
      obtain ⟨rfl, rfl⟩ := e
      subst hw
      simp only at hl; subst hl; rfl
    · cases e
  · cases e
def slotA (n i : Int) : Int := 2 * n + 5 + 2 * 0 + i
def seenM (m : List (Int × Int)) (n i : Int) (s : MS) : List (Int × Int) := mput m (W (peek s.xs (slotA n i))) 1
def lifeA (n : Int) (gs : List Int) (j : Nat) : Int := n + 4 + List.getD gs (j + Int.toNat 0 * 1) 0
noncomputable def swS1 : Spec Ob := fun args h => match args, h with
  | [.ptr 0 0, .ptr 3 0], [some (.cells [.ptr 1 0, .raw (.pointer none)]), some (.cells [.int .i64 t, .int .i64 n, .int .i64 me, .int .i64 sp, .slice 2 0 k 1]), some (.ints (some .i64) R), e1, e2] => (match memL 4 [e1, e2] with
    | some (l, s) => some (.pre ((l = s.xs.length ∧ k = R.length) ∧ (1 ≤ t ∧ t ≤ 1000) ∧ (1 ≤ n ∧ n ≤ 1000) ∧ (0 ≤ s.c ∧ s.c ≤ 1000000) ∧ R.length ≤ 1000000) (.ret (.bool false) (swA' t n me sp R (s.loadd (slotA n 0)) (seenM [] n 0 s) 1)))
    | none => none)
  | _, _ => none
noncomputable def swS2 : Spec Ob := fun args h => match args, h with
  | [.ptr 0 0, .ptr 6 0], [some (.cells [.ptr 1 0, .ptr 3 0]), some (.cells [.int .i64 t, .int .i64 n, .int .i64 me, .int .i64 sp, .slice 2 0 k 1]), some (.ints (some .i64) R), some (.cells [.int .i64 t', .int .i64 n', .raw (.slice none 0 0), .raw (.slice none 0 0), .slice 4 0 k' 1, .map 5, .int .i64 i, .raw (.pointer none)]), some (.ints (some .i64) N), some (.imap .i64 none m), e1, e2] => (match memL 7 [e1, e2] with
    | some (l, s) => some (.pre ((l = s.xs.length ∧ k = R.length ∧ k' = N.length ∧ t' = t ∧ n' = n) ∧ (1 ≤ t ∧ t ≤ 1000) ∧ (1 ≤ n ∧ n ≤ 1000) ∧ (0 ≤ s.c ∧ s.c ≤ 1000000) ∧ N.length ≤ 1000000 ∧ (0 ≤ i ∧ i < 2 * t)) (.ite (ieq (i + 1) (2 * t))
        (.ite (ieq ((freedL (seenM m n i s) N).length : Int) 0) (.ret (.bool true) (swB' t n me sp (.slice 8 0 (keptL (seenM m n i s) N).length 1) R N (keptL (seenM m n i s) N) (freedL (seenM m n i s) N) (s.loadd (slotA n i)) (seenM m n i s) (i + 1)))
          (.ret (.bool false) (swB' t n me sp (.slice 2 0 R.length 1) R N (keptL (seenM m n i s) N) (freedL (seenM m n i s) N) (s.loadd (slotA n i)) (seenM m n i s) (i + 1))))
        (.ret (.bool false) (swB t n me sp R N (s.loadd (slotA n i)) (seenM m n i s) (i + 1)))))
    | none => none)
  | _, _ => none
noncomputable def swS3 : Spec Ob := fun args h => match args, h with
  | [.ptr 0 0, .ptr 10 0], [some (.cells [.ptr 1 0, .ptr 3 0]), some (.cells [.int .i64 t, .int .i64 n, .int .i64 me, .int .i64 sp, .slice 2 0 k 1]), some (.ints (some .i64) R), some (.cells [.int .i64 t', .int .i64 n', .slice 4 0 k1 1, .slice 5 0 k2 1, .slice 6 0 k3 1, .map 7, .int .i64 i, .ptr 8 0]), some (.ints (some .i64) ks), some (.ints (some .i64) fs), some (.ints (some .i64) N), some (.imap .i64 none m), some (.cells [.int .i64 t'', .int .i64 n'', .slice 9 j l' 1]), some (.ints (some .i64) gs), e1, e2] => (match memL 11 [e1, e2] with
    | some (l, s) => some (.pre ((l = s.xs.length ∧ k = R.length ∧ k1 = ks.length ∧ k2 = fs.length ∧ k3 = N.length ∧ t' = t ∧ n' = n ∧ t'' = t ∧ n'' = n) ∧ (1 ≤ t ∧ t ≤ 1000) ∧ (1 ≤ n ∧ n ≤ 1000) ∧ (0 ≤ s.c ∧ s.c ≤ 1000000) ∧ 2 * t ≤ i ∧ (1 ≤ l' ∧ gs.length = j + l') ∧ (-1000000 ≤ List.getD gs (j + Int.toNat 0 * 1) 0 ∧ List.getD gs (j + Int.toNat 0 * 1) 0 ≤ 1000000)) (.ite (ieq ((l' - 1 : Nat) : Int) 0)
        (.ret (.bool true) (swC t n me sp (.slice 4 0 ks.length 1) R N ks fs gs (s.added (lifeA n gs j) 1) m i (j + 1) (l' - 1)))
        (.ret (.bool false) (swC t n me sp (.slice 2 0 R.length 1) R N ks fs gs (s.added (lifeA n gs j) 1) m i (j + 1) (l' - 1)))))
    | none => none)
  | _, _ => none
noncomputable def swStepS : Spec Ob := fun args h => match swS1 args h with
  | some o => some o
  | none => match swS2 args h with
    | some o => some o
    | none => swS3 args h
theorem stA_ok (t n me sp : Int) (R : List Int) (s : MS) (K : AVal → Heap Ob → Prop) (ht : 1 ≤ t ∧ t ≤ 1000) (hn : 1 ≤ n ∧ n ≤ 1000) (hc : 0 ≤ s.c ∧ s.c ≤ 1000000) (hR : R.length ≤ 1000000) (hK : K (.bool false) (swA' t n me sp R (s.loadd (slotA n 0)) (seenM [] n 0 s) 1)) : CallOk E35.I Tryz.prog 100 [.ptr 0 0, .ptr 3 0] (swA t n me sp R s) K := by
  refine CallOk.trim (callOk_of (E := E35) Tryz.checked.mixed (L := LL) (n := 10) (of_nf (q := ((List.length R = List.length R ∧ List.length R ≤ (1000000 : Nat)) ∧ True) ∧ ((((0 : Int) ≤ t ∧ t ≤ (100000 : Int)) ∧ (0 : Int) ≤ n ∧ n ≤ (100000 : Int)) ∧ True) ∧ bif ile (2 * t) 0 then False else ((((0 : Int) ≤ t ∧ t ≤ (100000 : Int)) ∧ ((0 : Int) ≤ n ∧ n ≤ (100000 : Int)) ∧ ((-1099511627776 : Int) ≤ (0 : Int) ∧ (0 : Int) ≤ (1099511627776 : Int)) ∧ (-1099511627776 : Int) ≤ (0 : Int) ∧ (0 : Int) ≤ (1099511627776 : Int)) ∧ True) ∧ ((List.length s.3 = List.length s.3 ∧ (0 : Int) ≤ s.4 ∧ s.4 ≤ (4611686018427387904 : Int)) ∧ True) ∧ ((((0 : Int) ≤ t ∧ t ≤ (100000 : Int)) ∧ (0 : Int) ≤ n ∧ n ≤ (100000 : Int)) ∧ True) ∧ bif ieq (W (0 + 1)) (2 * t) then ((List.length R = List.length R ∧ List.length R ≤ (1000000 : Nat)) ∧ True) ∧ bif !ieq (↑(List.length (freedL (mput [] (W (peek s.3 (2 * n + 5 + 2 * 0 + 0))) 1) R)) : Int) 0 then K (AVal.bool false) [some (Entry.cells [AVal.ptr 1 0, AVal.ptr 5 0]), some (Entry.cells [AVal.int .i64 t, AVal.int .i64 n, AVal.int .i64 me, AVal.int .i64 sp, AVal.slice 2 0 (List.length R) 1]), some (Entry.ints (some .i64) R), some (Entry.cells [AVal.int .i64 s.1, AVal.int .i64 s.2, AVal.slice 4 0 (List.length s.3) 1, AVal.int .i64 (s.4 + 1), AVal.int .i64 1, AVal.int .i64 (2 * n + 5 + 2 * 0 + 0), AVal.int .u64 (peek s.3 (2 * n + 5 + 2 * 0 + 0)), AVal.int .u64 (peek s.3 (2 * n + 5 + 2 * 0 + 0)), AVal.bool (inB s.3 (2 * n + 5 + 2 * 0 + 0))]), some (Entry.ints (some .u64) s.3), some (Entry.cells [AVal.int .i64 t, AVal.int .i64 n, AVal.slice 6 0 (List.length (keptL (mput [] (W (peek s.3 (2 * n + 5 + 2 * 0 + 0))) 1) R)) 1, AVal.slice 7 0 (List.length (freedL (mput [] (W (peek s.3 (2 * n + 5 + 2 * 0 + 0))) 1) R)) 1, AVal.slice 8 0 (List.length R) 1, AVal.map 9, AVal.int .i64 (W (0 + 1)), AVal.ptr 10 0]), some (Entry.ints (some .i64) (keptL (mput [] (W (peek s.3 (2 * n + 5 + 2 * 0 + 0))) 1) R)), some (Entry.ints (some .i64) (freedL (mput [] (W (peek s.3 (2 * n + 5 + 2 * 0 + 0))) 1) R)), some (Entry.ints (some .i64) R), some (Entry.imap .i64 none (mput [] (W (peek s.3 (2 * n + 5 + 2 * 0 + 0))) 1)), some (Entry.cells [AVal.int .i64 t, AVal.int .i64 n, AVal.slice 11 0 (List.length (freedL (mput [] (W (peek s.3 (2 * n + 5 + 2 * 0 + 0))) 1) R)) 1]), some (Entry.ints (some .i64) (freedL (mput [] (W (peek s.3 (2 * n + 5 + 2 * 0 + 0))) 1) R))] else K (AVal.bool true) [some (Entry.cells [AVal.ptr 1 0, AVal.ptr 5 0]), some (Entry.cells [AVal.int .i64 t, AVal.int .i64 n, AVal.int .i64 me, AVal.int .i64 sp, AVal.slice 6 0 (List.length (keptL (mput [] (W (peek s.3 (2 * n + 5 + 2 * 0 + 0))) 1) R)) 1]), some (Entry.ints (some .i64) R), some (Entry.cells [AVal.int .i64 s.1, AVal.int .i64 s.2, AVal.slice 4 0 (List.length s.3) 1, AVal.int .i64 (s.4 + 1), AVal.int .i64 1, AVal.int .i64 (2 * n + 5 + 2 * 0 + 0), AVal.int .u64 (peek s.3 (2 * n + 5 + 2 * 0 + 0)), AVal.int .u64 (peek s.3 (2 * n + 5 + 2 * 0 + 0)), AVal.bool (inB s.3 (2 * n + 5 + 2 * 0 + 0))]), some (Entry.ints (some .u64) s.3), some (Entry.cells [AVal.int .i64 t, AVal.int .i64 n, AVal.slice 6 0 (List.length (keptL (mput [] (W (peek s.3 (2 * n + 5 + 2 * 0 + 0))) 1) R)) 1, AVal.slice 7 0 (List.length (freedL (mput [] (W (peek s.3 (2 * n + 5 + 2 * 0 + 0))) 1) R)) 1, AVal.slice 8 0 (List.length R) 1, AVal.map 9, AVal.int .i64 (W (0 + 1)), AVal.ptr 10 0]), some (Entry.ints (some .i64) (keptL (mput [] (W (peek s.3 (2 * n + 5 + 2 * 0 + 0))) 1) R)), some (Entry.ints (some .i64) (freedL (mput [] (W (peek s.3 (2 * n + 5 + 2 * 0 + 0))) 1) R)), some (Entry.ints (some .i64) R), some (Entry.imap .i64 none (mput [] (W (peek s.3 (2 * n + 5 + 2 * 0 + 0))) 1)), some (Entry.cells [AVal.int .i64 t, AVal.int .i64 n, AVal.slice 11 0 (List.length (freedL (mput [] (W (peek s.3 (2 * n + 5 + 2 * 0 + 0))) 1) R)) 1]), some (Entry.ints (some .i64) (freedL (mput [] (W (peek s.3 (2 * n + 5 + 2 * 0 + 0))) 1) R))] else K (AVal.bool false) [some (Entry.cells [AVal.ptr 1 0, AVal.ptr 5 0]), some (Entry.cells [AVal.int .i64 t, AVal.int .i64 n, AVal.int .i64 me, AVal.int .i64 sp, AVal.slice 2 0 (List.length R) 1]), some (Entry.ints (some .i64) R), some (Entry.cells [AVal.int .i64 s.1, AVal.int .i64 s.2, AVal.slice 4 0 (List.length s.3) 1, AVal.int .i64 (s.4 + 1), AVal.int .i64 1, AVal.int .i64 (2 * n + 5 + 2 * 0 + 0), AVal.int .u64 (peek s.3 (2 * n + 5 + 2 * 0 + 0)), AVal.int .u64 (peek s.3 (2 * n + 5 + 2 * 0 + 0)), AVal.bool (inB s.3 (2 * n + 5 + 2 * 0 + 0))]), some (Entry.ints (some .u64) s.3), some (Entry.cells [AVal.int .i64 t, AVal.int .i64 n, AVal.raw (Value.slice none 0 0), AVal.raw (Value.slice none 0 0), AVal.slice 6 0 (List.length R) 1, AVal.map 7, AVal.int .i64 (W (0 + 1)), AVal.raw (Value.pointer none)]), some (Entry.ints (some .i64) R), some (Entry.imap .i64 none (mput [] (W (peek s.3 (2 * n + 5 + 2 * 0 + 0))) 1))]) (by kernel_rfl) ?_))
  refine ⟨⟨⟨rfl, hR⟩, trivial⟩, ⟨by omega, trivial⟩, le_go (fun h => by omega) (fun _ => ⟨⟨by omega, trivial⟩, ⟨⟨rfl, by omega⟩, trivial⟩, ⟨by omega, trivial⟩, ?_⟩)⟩
  have e : W (0 + 1) = 1 := by decide
  rw [e]
  refine eq_go (fun h => by omega) (fun _ => hK)
theorem stB_ok (t n me sp i : Int) (R N : List Int) (s : MS) (m : List (Int × Int)) (K : AVal → Heap Ob → Prop) (ht : 1 ≤ t ∧ t ≤ 1000) (hn : 1 ≤ n ∧ n ≤ 1000) (hc : 0 ≤ s.c ∧ s.c ≤ 1000000) (hN : N.length ≤ 1000000) (hi : 0 ≤ i ∧ i < 2 * t)
    (hK : cond (ieq (i + 1) (2 * t)) (cond (ieq ((freedL (seenM m n i s) N).length : Int) 0) (K (.bool true) (swB' t n me sp (.slice 8 0 (keptL (seenM m n i s) N).length 1) R N (keptL (seenM m n i s) N) (freedL (seenM m n i s) N) (s.loadd (slotA n i)) (seenM m n i s) (i + 1))) (K (.bool false) (swB' t n me sp (.slice 2 0 R.length 1) R N (keptL (seenM m n i s) N) (freedL (seenM m n i s) N) (s.loadd (slotA n i)) (seenM m n i s) (i + 1)))) (K (.bool false) (swB t n me sp R N (s.loadd (slotA n i)) (seenM m n i s) (i + 1)))) : CallOk E35.I Tryz.prog 100 [.ptr 0 0, .ptr 6 0] (swB t n me sp R N s m i) K := by
  refine CallOk.trim (callOk_of (E := E35) Tryz.checked.mixed (L := LL) (n := 10) (of_nf (q := ((((0 : Int) ≤ t ∧ t ≤ (100000 : Int)) ∧ (0 : Int) ≤ n ∧ n ≤ (100000 : Int)) ∧ True) ∧ bif ile (2 * t) i then False else ((((0 : Int) ≤ t ∧ t ≤ (100000 : Int)) ∧ ((0 : Int) ≤ n ∧ n ≤ (100000 : Int)) ∧ ((-1099511627776 : Int) ≤ (0 : Int) ∧ (0 : Int) ≤ (1099511627776 : Int)) ∧ (-1099511627776 : Int) ≤ i ∧ i ≤ (1099511627776 : Int)) ∧ True) ∧ ((List.length s.3 = List.length s.3 ∧ (0 : Int) ≤ s.4 ∧ s.4 ≤ (4611686018427387904 : Int)) ∧ True) ∧ ((((0 : Int) ≤ t ∧ t ≤ (100000 : Int)) ∧ (0 : Int) ≤ n ∧ n ≤ (100000 : Int)) ∧ True) ∧ bif ieq (W (i + 1)) (2 * t) then ((List.length N = List.length N ∧ List.length N ≤ (1000000 : Nat)) ∧ True) ∧ bif !ieq (↑(List.length (freedL (mput m (W (peek s.3 (2 * n + 5 + 2 * 0 + i))) 1) N)) : Int) 0 then K (AVal.bool false) [some (Entry.cells [AVal.ptr 1 0, AVal.ptr 3 0]), some (Entry.cells [AVal.int .i64 t, AVal.int .i64 n, AVal.int .i64 me, AVal.int .i64 sp, AVal.slice 2 0 (List.length R) 1]), some (Entry.ints (some .i64) R), some (Entry.cells [AVal.int .i64 t, AVal.int .i64 n, AVal.slice 8 0 (List.length (keptL (mput m (W (peek s.3 (2 * n + 5 + 2 * 0 + i))) 1) N)) 1, AVal.slice 9 0 (List.length (freedL (mput m (W (peek s.3 (2 * n + 5 + 2 * 0 + i))) 1) N)) 1, AVal.slice 4 0 (List.length N) 1, AVal.map 5, AVal.int .i64 (W (i + 1)), AVal.ptr 10 0]), some (Entry.ints (some .i64) N), some (Entry.imap .i64 none (mput m (W (peek s.3 (2 * n + 5 + 2 * 0 + i))) 1)), some (Entry.cells [AVal.int .i64 s.1, AVal.int .i64 s.2, AVal.slice 7 0 (List.length s.3) 1, AVal.int .i64 (s.4 + 1), AVal.int .i64 1, AVal.int .i64 (2 * n + 5 + 2 * 0 + i), AVal.int .u64 (peek s.3 (2 * n + 5 + 2 * 0 + i)), AVal.int .u64 (peek s.3 (2 * n + 5 + 2 * 0 + i)), AVal.bool (inB s.3 (2 * n + 5 + 2 * 0 + i))]), some (Entry.ints (some .u64) s.3), some (Entry.ints (some .i64) (keptL (mput m (W (peek s.3 (2 * n + 5 + 2 * 0 + i))) 1) N)), some (Entry.ints (some .i64) (freedL (mput m (W (peek s.3 (2 * n + 5 + 2 * 0 + i))) 1) N)), some (Entry.cells [AVal.int .i64 t, AVal.int .i64 n, AVal.slice 11 0 (List.length (freedL (mput m (W (peek s.3 (2 * n + 5 + 2 * 0 + i))) 1) N)) 1]), some (Entry.ints (some .i64) (freedL (mput m (W (peek s.3 (2 * n + 5 + 2 * 0 + i))) 1) N))] else K (AVal.bool true) [some (Entry.cells [AVal.ptr 1 0, AVal.ptr 3 0]), some (Entry.cells [AVal.int .i64 t, AVal.int .i64 n, AVal.int .i64 me, AVal.int .i64 sp, AVal.slice 8 0 (List.length (keptL (mput m (W (peek s.3 (2 * n + 5 + 2 * 0 + i))) 1) N)) 1]), some (Entry.ints (some .i64) R), some (Entry.cells [AVal.int .i64 t, AVal.int .i64 n, AVal.slice 8 0 (List.length (keptL (mput m (W (peek s.3 (2 * n + 5 + 2 * 0 + i))) 1) N)) 1, AVal.slice 9 0 (List.length (freedL (mput m (W (peek s.3 (2 * n + 5 + 2 * 0 + i))) 1) N)) 1, AVal.slice 4 0 (List.length N) 1, AVal.map 5, AVal.int .i64 (W (i + 1)), AVal.ptr 10 0]), some (Entry.ints (some .i64) N), some (Entry.imap .i64 none (mput m (W (peek s.3 (2 * n + 5 + 2 * 0 + i))) 1)), some (Entry.cells [AVal.int .i64 s.1, AVal.int .i64 s.2, AVal.slice 7 0 (List.length s.3) 1, AVal.int .i64 (s.4 + 1), AVal.int .i64 1, AVal.int .i64 (2 * n + 5 + 2 * 0 + i), AVal.int .u64 (peek s.3 (2 * n + 5 + 2 * 0 + i)), AVal.int .u64 (peek s.3 (2 * n + 5 + 2 * 0 + i)), AVal.bool (inB s.3 (2 * n + 5 + 2 * 0 + i))]), some (Entry.ints (some .u64) s.3), some (Entry.ints (some .i64) (keptL (mput m (W (peek s.3 (2 * n + 5 + 2 * 0 + i))) 1) N)), some (Entry.ints (some .i64) (freedL (mput m (W (peek s.3 (2 * n + 5 + 2 * 0 + i))) 1) N)), some (Entry.cells [AVal.int .i64 t, AVal.int .i64 n, AVal.slice 11 0 (List.length (freedL (mput m (W (peek s.3 (2 * n + 5 + 2 * 0 + i))) 1) N)) 1]), some (Entry.ints (some .i64) (freedL (mput m (W (peek s.3 (2 * n + 5 + 2 * 0 + i))) 1) N))] else K (AVal.bool false) [some (Entry.cells [AVal.ptr 1 0, AVal.ptr 3 0]), some (Entry.cells [AVal.int .i64 t, AVal.int .i64 n, AVal.int .i64 me, AVal.int .i64 sp, AVal.slice 2 0 (List.length R) 1]), some (Entry.ints (some .i64) R), some (Entry.cells [AVal.int .i64 t, AVal.int .i64 n, AVal.raw (Value.slice none 0 0), AVal.raw (Value.slice none 0 0), AVal.slice 4 0 (List.length N) 1, AVal.map 5, AVal.int .i64 (W (i + 1)), AVal.raw (Value.pointer none)]), some (Entry.ints (some .i64) N), some (Entry.imap .i64 none (mput m (W (peek s.3 (2 * n + 5 + 2 * 0 + i))) 1)), some (Entry.cells [AVal.int .i64 s.1, AVal.int .i64 s.2, AVal.slice 7 0 (List.length s.3) 1, AVal.int .i64 (s.4 + 1), AVal.int .i64 1, AVal.int .i64 (2 * n + 5 + 2 * 0 + i), AVal.int .u64 (peek s.3 (2 * n + 5 + 2 * 0 + i)), AVal.int .u64 (peek s.3 (2 * n + 5 + 2 * 0 + i)), AVal.bool (inB s.3 (2 * n + 5 + 2 * 0 + i))]), some (Entry.ints (some .u64) s.3)]) (by kernel_rfl) ?_))
  have e : W (i + 1) = i + 1 := W_id (by omega)
  rw [e]
  refine ⟨⟨by omega, trivial⟩, le_go (fun h => by omega) (fun _ => ⟨⟨by omega, trivial⟩, ⟨⟨rfl, by omega⟩, trivial⟩, ⟨by omega, trivial⟩, ?_⟩)⟩
  cases h1 : ieq (i + 1) (2 * t) with
  | false => rw [h1] at hK; exact hK
  | true =>
    rw [h1] at hK
    refine ⟨⟨⟨rfl, hN⟩, trivial⟩, ?_⟩
    cases h2 : ieq ((freedL (seenM m n i s) N).length : Int) 0 with
    | false => rw [h2] at hK; unfold seenM slotA at h2; rw [h2]; exact hK
    | true => rw [h2] at hK; unfold seenM slotA at h2; rw [h2]; exact hK
theorem stC_ok (t n me sp i : Int) (R N ks fs gs : List Int) (s : MS) (m : List (Int × Int)) (j l : Nat) (K : AVal → Heap Ob → Prop) (ht : 1 ≤ t ∧ t ≤ 1000) (hn : 1 ≤ n ∧ n ≤ 1000) (hc : 0 ≤ s.c ∧ s.c ≤ 1000000) (hi : 2 * t ≤ i) (hl : 1 ≤ l ∧ gs.length = j + l) (hg : -1000000 ≤ List.getD gs (j + Int.toNat 0 * 1) 0 ∧ List.getD gs (j + Int.toNat 0 * 1) 0 ≤ 1000000)
    (hK : cond (ieq ((l - 1 : Nat) : Int) 0) (K (.bool true) (swC t n me sp (.slice 4 0 ks.length 1) R N ks fs gs (s.added (lifeA n gs j) 1) m i (j + 1) (l - 1))) (K (.bool false) (swC t n me sp (.slice 2 0 R.length 1) R N ks fs gs (s.added (lifeA n gs j) 1) m i (j + 1) (l - 1)))) : CallOk E35.I Tryz.prog 100 [.ptr 0 0, .ptr 10 0] (swC t n me sp (.slice 2 0 R.length 1) R N ks fs gs s m i j l) K := by
  refine CallOk.trim (callOk_of (E := E35) Tryz.checked.mixed (L := LL) (n := 10) (of_nf (q := ((((0 : Int) ≤ t ∧ t ≤ (100000 : Int)) ∧ (0 : Int) ≤ n ∧ n ≤ (100000 : Int)) ∧ True) ∧ bif ile (2 * t) i then bif ieq (↑l : Int) 0 then (List.length s.3 = List.length s.3 ∧ (0 : Int) ≤ s.4 ∧ s.4 ≤ (4611686018427387904 : Int)) ∧ K (AVal.bool true) [some (Entry.cells [AVal.ptr 1 0, AVal.ptr 3 0]), some (Entry.cells [AVal.int .i64 t, AVal.int .i64 n, AVal.int .i64 me, AVal.int .i64 sp, AVal.slice 4 0 (List.length ks) 1]), some (Entry.ints (some .i64) R), some (Entry.cells [AVal.int .i64 t, AVal.int .i64 n, AVal.slice 4 0 (List.length ks) 1, AVal.slice 5 0 (List.length fs) 1, AVal.slice 6 0 (List.length N) 1, AVal.map 7, AVal.int .i64 i, AVal.ptr 8 0]), some (Entry.ints (some .i64) ks), some (Entry.ints (some .i64) fs), some (Entry.ints (some .i64) N), some (Entry.imap .i64 none m), some (Entry.cells [AVal.int .i64 t, AVal.int .i64 n, AVal.slice 9 j l 1]), some (Entry.ints (some .i64) gs), some (Entry.cells [AVal.int .i64 s.1, AVal.int .i64 s.2, AVal.slice 11 0 (List.length s.3) 1, AVal.int .i64 (s.4 + 1), AVal.int .i64 1, AVal.int .i64 0, AVal.int .u64 (peek s.3 0), AVal.int .u64 (peek s.3 0), AVal.bool (inB s.3 0)]), some (Entry.ints (some .u64) s.3)] else ((0 : Int) ≤ (0 : Int) ∧ (0 : Int) < (↑l : Int)) ∧ j + Int.toNat 0 * (1 : Nat) < List.length gs ∧ ((((0 : Int) ≤ t ∧ t ≤ (100000 : Int)) ∧ ((0 : Int) ≤ n ∧ n ≤ (100000 : Int)) ∧ (-1099511627776 : Int) ≤ List.getD gs (j + Int.toNat 0 * 1) 0 ∧ List.getD gs (j + Int.toNat 0 * 1) (0 : Int) ≤ (1099511627776 : Int)) ∧ True) ∧ ((List.length s.3 = List.length s.3 ∧ (0 : Int) ≤ s.4 ∧ s.4 ≤ (4611686018427387904 : Int)) ∧ True) ∧ ((0 : Int) ≤ (1 : Int) ∧ Int.toNat (1 : Int) ≤ l) ∧ bif !ieq (↑(l - Int.toNat 1) : Int) 0 then K (AVal.bool false) [some (Entry.cells [AVal.ptr 1 0, AVal.ptr 3 0]), some (Entry.cells [AVal.int .i64 t, AVal.int .i64 n, AVal.int .i64 me, AVal.int .i64 sp, AVal.slice 2 0 (List.length R) 1]), some (Entry.ints (some .i64) R), some (Entry.cells [AVal.int .i64 t, AVal.int .i64 n, AVal.slice 4 0 (List.length ks) 1, AVal.slice 5 0 (List.length fs) 1, AVal.slice 6 0 (List.length N) 1, AVal.map 7, AVal.int .i64 i, AVal.ptr 8 0]), some (Entry.ints (some .i64) ks), some (Entry.ints (some .i64) fs), some (Entry.ints (some .i64) N), some (Entry.imap .i64 none m), some (Entry.cells [AVal.int .i64 t, AVal.int .i64 n, AVal.slice 9 (j + Int.toNat 1 * 1) (l - Int.toNat 1) 1]), some (Entry.ints (some .i64) gs), some (Entry.cells [AVal.int .i64 s.1, AVal.int .i64 s.2, AVal.slice 11 0 (List.length (putI s.3 (n + 4 + List.getD gs (j + Int.toNat 0 * 1) 0) (WU (peek s.3 (n + 4 + List.getD gs (j + Int.toNat 0 * 1) 0) + 1)))) 1, AVal.int .i64 (s.4 + 1), AVal.int .i64 4, AVal.int .i64 (n + 4 + List.getD gs (j + Int.toNat 0 * 1) 0), AVal.int .u64 (peek s.3 (n + 4 + List.getD gs (j + Int.toNat 0 * 1) 0)), AVal.int .u64 (bif inB s.3 (n + 4 + List.getD gs (j + Int.toNat 0 * 1) 0) then WU (peek s.3 (n + 4 + List.getD gs (j + Int.toNat 0 * 1) 0) + 1) else 0), AVal.bool (inB s.3 (n + 4 + List.getD gs (j + Int.toNat 0 * 1) 0))]), some (Entry.ints (some .u64) (putI s.3 (n + 4 + List.getD gs (j + Int.toNat 0 * 1) 0) (WU (peek s.3 (n + 4 + List.getD gs (j + Int.toNat 0 * 1) 0) + 1))))] else K (AVal.bool true) [some (Entry.cells [AVal.ptr 1 0, AVal.ptr 3 0]), some (Entry.cells [AVal.int .i64 t, AVal.int .i64 n, AVal.int .i64 me, AVal.int .i64 sp, AVal.slice 4 0 (List.length ks) 1]), some (Entry.ints (some .i64) R), some (Entry.cells [AVal.int .i64 t, AVal.int .i64 n, AVal.slice 4 0 (List.length ks) 1, AVal.slice 5 0 (List.length fs) 1, AVal.slice 6 0 (List.length N) 1, AVal.map 7, AVal.int .i64 i, AVal.ptr 8 0]), some (Entry.ints (some .i64) ks), some (Entry.ints (some .i64) fs), some (Entry.ints (some .i64) N), some (Entry.imap .i64 none m), some (Entry.cells [AVal.int .i64 t, AVal.int .i64 n, AVal.slice 9 (j + Int.toNat 1 * 1) (l - Int.toNat 1) 1]), some (Entry.ints (some .i64) gs), some (Entry.cells [AVal.int .i64 s.1, AVal.int .i64 s.2, AVal.slice 11 0 (List.length (putI s.3 (n + 4 + List.getD gs (j + Int.toNat 0 * 1) 0) (WU (peek s.3 (n + 4 + List.getD gs (j + Int.toNat 0 * 1) 0) + 1)))) 1, AVal.int .i64 (s.4 + 1), AVal.int .i64 4, AVal.int .i64 (n + 4 + List.getD gs (j + Int.toNat 0 * 1) 0), AVal.int .u64 (peek s.3 (n + 4 + List.getD gs (j + Int.toNat 0 * 1) 0)), AVal.int .u64 (bif inB s.3 (n + 4 + List.getD gs (j + Int.toNat 0 * 1) 0) then WU (peek s.3 (n + 4 + List.getD gs (j + Int.toNat 0 * 1) 0) + 1) else 0), AVal.bool (inB s.3 (n + 4 + List.getD gs (j + Int.toNat 0 * 1) 0))]), some (Entry.ints (some .u64) (putI s.3 (n + 4 + List.getD gs (j + Int.toNat 0 * 1) 0) (WU (peek s.3 (n + 4 + List.getD gs (j + Int.toNat 0 * 1) 0) + 1))))] else ((((0 : Int) ≤ t ∧ t ≤ (100000 : Int)) ∧ ((0 : Int) ≤ n ∧ n ≤ (100000 : Int)) ∧ ((-1099511627776 : Int) ≤ (0 : Int) ∧ (0 : Int) ≤ (1099511627776 : Int)) ∧ (-1099511627776 : Int) ≤ i ∧ i ≤ (1099511627776 : Int)) ∧ True) ∧ ((List.length s.3 = List.length s.3 ∧ (0 : Int) ≤ s.4 ∧ s.4 ≤ (4611686018427387904 : Int)) ∧ True) ∧ ((((0 : Int) ≤ t ∧ t ≤ (100000 : Int)) ∧ (0 : Int) ≤ n ∧ n ≤ (100000 : Int)) ∧ True) ∧ bif ieq (W (i + 1)) (2 * t) then False else K (AVal.bool false) [some (Entry.cells [AVal.ptr 1 0, AVal.ptr 3 0]), some (Entry.cells [AVal.int .i64 t, AVal.int .i64 n, AVal.int .i64 me, AVal.int .i64 sp, AVal.slice 2 0 (List.length R) 1]), some (Entry.ints (some .i64) R), some (Entry.cells [AVal.int .i64 t, AVal.int .i64 n, AVal.slice 4 0 (List.length ks) 1, AVal.slice 5 0 (List.length fs) 1, AVal.slice 6 0 (List.length N) 1, AVal.map 7, AVal.int .i64 (W (i + 1)), AVal.ptr 8 0]), some (Entry.ints (some .i64) ks), some (Entry.ints (some .i64) fs), some (Entry.ints (some .i64) N), some (Entry.imap .i64 none (mput m (W (peek s.3 (2 * n + 5 + 2 * 0 + i))) 1)), some (Entry.cells [AVal.int .i64 t, AVal.int .i64 n, AVal.slice 9 j l 1]), some (Entry.ints (some .i64) gs), some (Entry.cells [AVal.int .i64 s.1, AVal.int .i64 s.2, AVal.slice 11 0 (List.length s.3) 1, AVal.int .i64 (s.4 + 1), AVal.int .i64 1, AVal.int .i64 (2 * n + 5 + 2 * 0 + i), AVal.int .u64 (peek s.3 (2 * n + 5 + 2 * 0 + i)), AVal.int .u64 (peek s.3 (2 * n + 5 + 2 * 0 + i)), AVal.bool (inB s.3 (2 * n + 5 + 2 * 0 + i))]), some (Entry.ints (some .u64) s.3)]) (by kernel_rfl) ?_))
  refine ⟨⟨by omega, trivial⟩, le_go (fun h => eq_go (fun h0 => by omega) (fun _ => ⟨by omega, by omega, ⟨by omega, trivial⟩, ⟨⟨rfl, by omega⟩, trivial⟩, by omega, ?_⟩)) (fun h => by omega)⟩
  have e : l - Int.toNat 1 = l - 1 := rfl
  rw [e]
  cases h1 : ieq ((l - 1 : Nat) : Int) 0 with
  | false => rw [h1] at hK; exact hK
  | true => rw [h1] at hK; exact hK
theorem swS1_ok : Spec.ok E35.I Tryz.prog 100 swS1 := by
  intro args h o ho K hK
  unfold swS1 at ho
  split at ho
  case h_2 => cases ho
  split at ho
  case h_2 => cases ho
  rename_i hm
  simp only [Option.some.injEq] at ho; subst ho
  obtain ⟨⟨⟨hl, hk⟩, ht, hn, hc, hR⟩, hK⟩ := hK
  have hh := memL_eq hm hl
  simp only [List.cons.injEq, and_true] at hh
  obtain ⟨rfl, rfl⟩ := hh
  subst hk
  exact stA_ok _ _ _ _ _ _ K ht hn hc hR hK
theorem swS2_ok : Spec.ok E35.I Tryz.prog 100 swS2 := by
  intro args h o ho K hK
  unfold swS2 at ho
  split at ho
  case h_2 => cases ho
  split at ho
  case h_2 => cases ho
  rename_i hm
  simp only [Option.some.injEq] at ho; subst ho
  obtain ⟨⟨⟨hl, hk, hk', h1, h2⟩, ht, hn, hc, hN, hi⟩, hK⟩ := hK
  have hh := memL_eq hm hl
  simp only [List.cons.injEq, and_true] at hh
  obtain ⟨rfl, rfl⟩ := hh
  subst hk hk' h1 h2
  exact stB_ok _ _ _ _ _ _ _ _ _ K ht hn hc hN hi hK
theorem swS3_ok : Spec.ok E35.I Tryz.prog 100 swS3 := by
  intro args h o ho K hK
  unfold swS3 at ho
  split at ho
  case h_2 => cases ho
  split at ho
  case h_2 => cases ho
  rename_i hm
  simp only [Option.some.injEq] at ho; subst ho
  obtain ⟨⟨⟨hl, hk, hk1, hk2, hk3, h1, h2, h3, h4⟩, ht, hn, hc, hi, hl', hg⟩, hK⟩ := hK
  have hh := memL_eq hm hl
  simp only [List.cons.injEq, and_true] at hh
  obtain ⟨rfl, rfl⟩ := hh
  subst hk hk1 hk2 hk3 h1 h2 h3 h4
  exact stC_ok _ _ _ _ _ _ _ _ _ _ _ _ _ _ K ht hn hc hi hl' hg hK
theorem swStep_ok : Spec.ok E35.I Tryz.prog 100 swStepS := by
  intro args h o ho
  unfold swStepS at ho
  split at ho
  · rename_i e; cases ho; exact swS1_ok _ _ _ e
  · split at ho
    · rename_i e; cases ho; exact swS2_ok _ _ _ e
    · exact swS3_ok _ _ _ ho
noncomputable def E36 := E35.addS 100 swStepS swStep_ok
end Go.Sh

namespace Go.Sh
open Go Go.Proofs
variable [Con]
def alH (t n : Int) (x : AL) (s : MS) : Heap Ob := [some (.cells [.int .i64 t, .int .i64 n, .int .i64 x.got, .int .i64 x.at', .int .i64 x.left, .int .u64 x.found, .bool x.free]), some (.cells [.int .i64 s.t, .int .i64 s.n, .slice 2 0 s.xs.length 1, .int .i64 s.c, .int .i64 s.k, .int .i64 s.a, .int .u64 s.o, .int .u64 s.w, .bool s.ok]), some (.ints (some .u64) s.xs)]
def oddB (y : Int) : Bool := !ieq (Int.tmod y 2) 0
def nextN (n a : Int) : Int := Int.tmod a n + 1
def alS0 (t n : Int) (x : AL) (s : MS) : Out Ob := .ite x.free
  (.ite (casB s.xs (n + 4 + x.at') x.found) (.ret (.bool true) (alH t n ⟨x.at', x.at', x.left, x.found, true⟩ (s.cased (n + 4 + x.at') x.found (WU (x.found + 1)))))
    (.ret (.bool (ile (x.left - 1) 0)) (alH t n ⟨x.got, nextN n x.at', x.left - 1, x.found, false⟩ (s.cased (n + 4 + x.at') x.found (WU (x.found + 1))))))
  (.ite (oddB (peek s.xs (n + 4 + x.at'))) (.ret (.bool (ile (x.left - 1) 0)) (alH t n ⟨x.got, nextN n x.at', x.left - 1, peek s.xs (n + 4 + x.at'), false⟩ (s.loadd (n + 4 + x.at'))))
    (.ret (.bool false) (alH t n ⟨x.got, x.at', x.left, peek s.xs (n + 4 + x.at'), true⟩ (s.loadd (n + 4 + x.at')))))
theorem al_step (t n : Int) (x : AL) (s : MS) (K : AVal → Heap Ob → Prop) (ht : 1 ≤ t ∧ t ≤ 1000) (hn : 1 ≤ n ∧ n ≤ 1000) (ha : 1 ≤ x.at' ∧ x.at' ≤ n) (hl : 0 ≤ x.left ∧ x.left ≤ 1000) (hc : 0 ≤ s.c ∧ s.c ≤ 1000000) (hK : (alS0 t n x s).run K) : CallOk E36.I Tryz.prog 85 [.ptr 0 0, .ptr 1 0] (alH t n x s) K := by
  refine CallOk.trim (callOk_of (E := E36) Tryz.checked.mixed (L := LL) (n := 10) (of_nf (q := bif !x.5 then ((((0 : Int) ≤ t ∧ t ≤ (100000 : Int)) ∧ ((0 : Int) ≤ n ∧ n ≤ (100000 : Int)) ∧ (-1099511627776 : Int) ≤ x.2 ∧ x.2 ≤ (1099511627776 : Int)) ∧ True) ∧ ((List.length s.3 = List.length s.3 ∧ (0 : Int) ≤ s.4 ∧ s.4 ≤ (4611686018427387904 : Int)) ∧ True) ∧ (2 : Int) ≠ (0 : Int) ∧ bif !ieq (Int.tmod (peek s.3 (n + 4 + x.2)) 2) 0 then n ≠ (0 : Int) ∧ K (AVal.bool (ile (W (x.3 - 1)) 0)) [some (Entry.cells [AVal.int .i64 t, AVal.int .i64 n, AVal.int .i64 x.1, AVal.int .i64 (W (Int.tmod x.2 n + 1)), AVal.int .i64 (W (x.3 - 1)), AVal.int .u64 (peek s.3 (n + 4 + x.2)), AVal.bool false]), some (Entry.cells [AVal.int .i64 s.1, AVal.int .i64 s.2, AVal.slice 2 0 (List.length s.3) 1, AVal.int .i64 (s.4 + 1), AVal.int .i64 1, AVal.int .i64 (n + 4 + x.2), AVal.int .u64 (peek s.3 (n + 4 + x.2)), AVal.int .u64 (peek s.3 (n + 4 + x.2)), AVal.bool (inB s.3 (n + 4 + x.2))]), some (Entry.ints (some .u64) s.3)] else K (AVal.bool false) [some (Entry.cells [AVal.int .i64 t, AVal.int .i64 n, AVal.int .i64 x.1, AVal.int .i64 x.2, AVal.int .i64 x.3, AVal.int .u64 (peek s.3 (n + 4 + x.2)), AVal.bool (ieq (Int.tmod (peek s.3 (n + 4 + x.2)) 2) 0)]), some (Entry.cells [AVal.int .i64 s.1, AVal.int .i64 s.2, AVal.slice 2 0 (List.length s.3) 1, AVal.int .i64 (s.4 + 1), AVal.int .i64 1, AVal.int .i64 (n + 4 + x.2), AVal.int .u64 (peek s.3 (n + 4 + x.2)), AVal.int .u64 (peek s.3 (n + 4 + x.2)), AVal.bool (inB s.3 (n + 4 + x.2))]), some (Entry.ints (some .u64) s.3)] else ((((0 : Int) ≤ t ∧ t ≤ (100000 : Int)) ∧ ((0 : Int) ≤ n ∧ n ≤ (100000 : Int)) ∧ (-1099511627776 : Int) ≤ x.2 ∧ x.2 ≤ (1099511627776 : Int)) ∧ True) ∧ ((List.length s.3 = List.length s.3 ∧ (0 : Int) ≤ s.4 ∧ s.4 ≤ (4611686018427387904 : Int)) ∧ True) ∧ bif casB s.3 (n + 4 + x.2) x.4 then K (AVal.bool true) [some (Entry.cells [AVal.int .i64 t, AVal.int .i64 n, AVal.int .i64 x.2, AVal.int .i64 x.2, AVal.int .i64 x.3, AVal.int .u64 x.4, AVal.bool x.5]), some (Entry.cells [AVal.int .i64 s.1, AVal.int .i64 s.2, AVal.slice 2 0 (List.length (bif casB s.3 (n + 4 + x.2) x.4 then putI s.3 (n + 4 + x.2) (WU (x.4 + 1)) else s.3)) 1, AVal.int .i64 (s.4 + 1), AVal.int .i64 3, AVal.int .i64 (n + 4 + x.2), AVal.int .u64 (peek s.3 (n + 4 + x.2)), AVal.int .u64 (bif inB s.3 (n + 4 + x.2) then WU (x.4 + 1) else 0), AVal.bool (casB s.3 (n + 4 + x.2) x.4)]), some (Entry.ints (some .u64) (bif casB s.3 (n + 4 + x.2) x.4 then putI s.3 (n + 4 + x.2) (WU (x.4 + 1)) else s.3))] else n ≠ (0 : Int) ∧ K (AVal.bool (ile (W (x.3 - 1)) 0)) [some (Entry.cells [AVal.int .i64 t, AVal.int .i64 n, AVal.int .i64 x.1, AVal.int .i64 (W (Int.tmod x.2 n + 1)), AVal.int .i64 (W (x.3 - 1)), AVal.int .u64 x.4, AVal.bool false]), some (Entry.cells [AVal.int .i64 s.1, AVal.int .i64 s.2, AVal.slice 2 0 (List.length (bif casB s.3 (n + 4 + x.2) x.4 then putI s.3 (n + 4 + x.2) (WU (x.4 + 1)) else s.3)) 1, AVal.int .i64 (s.4 + 1), AVal.int .i64 3, AVal.int .i64 (n + 4 + x.2), AVal.int .u64 (peek s.3 (n + 4 + x.2)), AVal.int .u64 (bif inB s.3 (n + 4 + x.2) then WU (x.4 + 1) else 0), AVal.bool (casB s.3 (n + 4 + x.2) x.4)]), some (Entry.ints (some .u64) (bif casB s.3 (n + 4 + x.2) x.4 then putI s.3 (n + 4 + x.2) (WU (x.4 + 1)) else s.3))]) (by kernel_rfl) ?_))
  obtain ⟨got, at', left, found, free⟩ := x
  dsimp only at ha hl ⊢
  have hm := tmod_in (x := at') (t := n) (by omega) (by omega)
  have e1 : W (left - 1) = left - 1 := W_id (by omega)
  have e2 : W (Int.tmod at' n + 1) = nextN n at' := W_id (by show _ ≤ Int.tmod at' n + 1 ∧ Int.tmod at' n + 1 ≤ _; omega)
  rw [e1, e2]
  unfold alS0 at hK
  dsimp only [Out.run] at hK
  cases free with
  | false =>
    simp only [cond_false, Bool.not_false, cond_true] at hK ⊢
    refine ⟨⟨by omega, trivial⟩, ⟨⟨trivial, by omega⟩, trivial⟩, by omega, ?_⟩
    unfold oddB at hK
    generalize ho : ieq (Int.tmod (peek s.xs (n + 4 + at')) 2) 0 = b at hK ⊢
    cases b with
    | false => exact ⟨by omega, hK⟩
    | true => exact hK
  | true =>
    simp only [cond_true, Bool.not_true, cond_false] at hK ⊢
    refine ⟨⟨by omega, trivial⟩, ⟨⟨trivial, by omega⟩, trivial⟩, ?_⟩
    unfold alH at hK
    cases hb : casB s.xs (n + 4 + at') found with
    | true =>
      rw [hb] at hK
      simp only [cond_true] at hK ⊢
      unfold MS.cased at hK
      rw [hb] at hK
      exact hK
    | false =>
      rw [hb] at hK
      simp only [cond_false] at hK ⊢
      unfold MS.cased at hK
      rw [hb] at hK
      exact ⟨by omega, hK⟩
noncomputable def alS : Spec Ob := fun args h => match args, h with
  | [.ptr 0 0, .ptr 1 0], [some (.cells [.int .i64 t, .int .i64 n, .int .i64 got, .int .i64 at', .int .i64 left, .int .u64 found, .bool free]), e1, e2] => match memL 2 [e1, e2] with
    | some (l, s) => some (.pre (l = s.xs.length ∧ (1 ≤ t ∧ t ≤ 1000) ∧ (1 ≤ n ∧ n ≤ 1000) ∧ (1 ≤ at' ∧ at' ≤ n) ∧ (0 ≤ left ∧ left ≤ 1000) ∧ (0 ≤ s.c ∧ s.c ≤ 1000000)) (alS0 t n ⟨got, at', left, found, free⟩ s))
    | none => none
  | _, _ => none
theorem al_ok : Spec.ok E36.I Tryz.prog 85 alS := by
  intro args h o ho K hK
  unfold alS at ho
  split at ho
  case h_2 => cases ho
  split at ho
  case h_2 => cases ho
  rename_i hm
  simp only [Option.some.injEq] at ho; subst ho
  obtain ⟨⟨hl, ht, hn, ha, hl', hc⟩, hK⟩ := hK
  have hh := memL_eq hm hl
  simp only [List.cons.injEq, and_true] at hh
  obtain ⟨rfl, rfl⟩ := hh
  exact al_step _ _ _ _ K ht hn ha hl' hc hK
noncomputable def E42 := E36.addS 85 alS al_ok
end Go.Sh

namespace Go.Sh
open Go Go.Proofs
variable [Con]
end Go.Sh

namespace Go.Sh
open Go Go.Proofs
variable [Con]
structure EO where
  d : Bool
  e : ENS
  st : STS
  s : MS
def at0 (t n me : Int) : Int := bif nodeB n (firstV t n me) then firstV t n me else 1
def enOn (e : ENS) (st : STS) (x : AL) (s : MS) : EO := match ile x.left 0 with
  | true => ⟨e.dn || ieq (st.R.length : Int) 0, { e with ph := 2, sh := e.dn || ieq (st.R.length : Int) 0, x := x }, { st with sp := 0 }, s⟩
  | false => ⟨false, { e with ph := 1, x := x }, st, s⟩
def enTake (n : Int) (e : ENS) (st : STS) (x : AL) (s : MS) : EO := match x.free with
  | true => (match casB s.xs (n + 4 + x.at') x.found with
    | true => ⟨true, { e with ph := 1, x := ⟨x.at', x.at', x.left, x.found, true⟩ }, { st with sp := x.at' }, s.cased (n + 4 + x.at') x.found (WU (x.found + 1))⟩
    | false => enOn e st ⟨0, nextN n x.at', x.left - 1, x.found, false⟩ (s.cased (n + 4 + x.at') x.found (WU (x.found + 1))))
  | false => (match oddB (peek s.xs (n + 4 + x.at')) with
    | true => enOn e st ⟨0, nextN n x.at', x.left - 1, peek s.xs (n + 4 + x.at'), false⟩ (s.loadd (n + 4 + x.at'))
    | false => ⟨false, { e with ph := 1, x := ⟨0, x.at', x.left, peek s.xs (n + 4 + x.at'), true⟩ }, st, s.loadd (n + 4 + x.at')⟩)
instance : Inhabited EO := ⟨⟨false, ⟨0, false, false, ⟨0, 0, 0, 0, false⟩, ⟨0, [], [], 0, [], [], [], 0, 0⟩⟩, ⟨0, 0, []⟩, ⟨0, 0, [], 0, 0, 0, 0, 0, false⟩⟩⟩
def enF (t n : Int) (e : ENS) (st : STS) (s : MS) : EO := match e.ph with
  | 0 => (match ieq st.sp 0 with
    | true => enTake n e st ⟨0, at0 t n st.me, n, 0, false⟩ s
    | false => ⟨true, e, st, s.loadd 0⟩)
  | 1 => enTake n e st e.x s
  | 2 => ⟨false, { e with ph := 3, y := { e.y with N := st.R, m := seenM [] n 0 s, i := 1 } }, st, s.loadd (slotA n 0)⟩
  | 3 => (match ieq (e.y.i + 1) (2 * t), ieq ((freedL (seenM e.y.m n e.y.i s) e.y.N).length : Int) 0 with
    | true, true => ⟨true, { e with ph := 0, sh := true, dn := true }, { st with R := keptL (seenM e.y.m n e.y.i s) e.y.N }, s.loadd (slotA n e.y.i)⟩
    | true, false => ⟨false, { e with ph := 4, y := ⟨0, e.y.N, seenM e.y.m n e.y.i s, e.y.i + 1, keptL (seenM e.y.m n e.y.i s) e.y.N, freedL (seenM e.y.m n e.y.i s) e.y.N, freedL (seenM e.y.m n e.y.i s) e.y.N, 0, (freedL (seenM e.y.m n e.y.i s) e.y.N).length⟩ }, st, s.loadd (slotA n e.y.i)⟩
    | false, _ => ⟨false, { e with y := { e.y with m := seenM e.y.m n e.y.i s, i := e.y.i + 1 } }, st, s.loadd (slotA n e.y.i)⟩)
  | _ => (match ieq ((e.y.l - 1 : Nat) : Int) 0 with
    | true => ⟨ieq (e.y.fs.length : Int) 0, { e with ph := 0, sh := ieq (e.y.fs.length : Int) 0, dn := true }, { st with R := e.y.ks }, s.added (lifeA n e.y.gs e.y.j) 1⟩
    | false => ⟨false, { e with y := { e.y with j := e.y.j + 1, l := e.y.l - 1 } }, st, s.added (lifeA n e.y.gs e.y.j) 1⟩)
structure okAl (n : Int) (x : AL) : Prop where
  hg : x.got = 0
  ha : 1 ≤ x.at' ∧ x.at' ≤ n
  hl : 0 ≤ x.left ∧ x.left ≤ 1000
def okEn (t n : Int) (e : ENS) (st : STS) : Prop := match e.ph with
  | 0 => True
  | 1 => okAl n e.x
  | 2 => True
  | 3 => e.y.N.length ≤ 1000000 ∧ 0 ≤ e.y.i ∧ e.y.i < 2 * t
  | 4 => 2 * t ≤ e.y.i ∧ 1 ≤ e.y.l ∧ e.y.gs.length = e.y.j + e.y.l ∧ -1000000 ≤ List.getD e.y.gs (e.y.j + Int.toNat 0 * 1) 0 ∧ List.getD e.y.gs (e.y.j + Int.toNat 0 * 1) 0 ≤ 1000000
  | _ => False
structure okE (t n : Int) (e : ENS) (st : STS) (s : MS) : Prop where
  ht : 1 ≤ t ∧ t ≤ 1000
  hn : 1 ≤ n ∧ n ≤ 1000
  hc : 0 ≤ s.c ∧ s.c ≤ 1000000
  hm : 0 ≤ st.me ∧ st.me ≤ 1000
  hR : st.R.length ≤ 1000000
  ho : okEn t n e st
abbrev memC (l : Nat) (s : MS) : Option (Entry Mc) := some (.cells [.int .i64 s.t, .int .i64 s.n, .slice l 0 s.xs.length 1, .int .i64 s.c, .int .i64 s.k, .int .i64 s.a, .int .u64 s.o, .int .u64 s.w, .bool s.ok])
abbrev memX (s : MS) : Option (Entry Mc) := some (.ints (some .u64) s.xs)
def enH (t n : Int) (e : ENS) (st : STS) (s : MS) : Heap Ob := [some (.abs (.ensure t n e) [1]), some (.abs (.store t n st) []), memC 3 s, memX s]
def EO.left (o : EO) (t n : Int) (K : AVal → Heap Ob → Prop) : Prop := K (.bool o.d) (enH t n o.e o.st o.s)
theorem shut2 {K : AVal → Heap Ob → Prop} {t n : Int} {o : EO} {g' : Heap Ob} (pl : List Nat) (hK : o.left t n K)
    (hb : (goodPl pl g'.length && keeps pl 0 4 && obOk 1 (enG t n o.e)) = true)
    (hT : trimH pl g' = unpackH [some (.abs (.ensure t n o.e) [1]), some (.cells [.int .i64 t, .int .i64 n, .int .i64 o.st.me, .int .i64 o.st.sp, .slice 4 0 o.st.R.length 1]), memC 3 o.s, memX o.s, some (.ints (some .i64) o.st.R)] 0 1 (enG t n o.e) [1]) : PackK tbl 4 (PackK tbl 4 K) (.bool o.d) g' := by
  simp only [Bool.and_eq_true] at hb
  obtain ⟨⟨b1, b2⟩, b3⟩ := hb
  refine ⟨pl, _, .ensure t n o.e, 0, 1, _, [1], ?_, hT, rfl, rfl, ⟨[0, 1, 2, 3, 4], [some (.abs (.ensure t n o.e) [1]), some (.abs (.store t n o.st) []), memC 3 o.s, memX o.s], .store t n o.st, 1, 0, stG t n o.st, [], rfl, rfl, rfl, rfl, ?_⟩⟩
  · rw [b1, b2, b3]; rfl
  · exact hK
theorem en0' (t n me sp : Int) (R : List Int) (sh dn : Bool) (x : AL) (y : SWS) (s : MS) (K : AVal → Heap Ob → Prop) (hK : bif !ieq sp 0 then (List.length s.3 = List.length s.3 ∧ (0 : Int) ≤ s.4 ∧ s.4 ≤ (4611686018427387904 : Int)) ∧ K (AVal.bool true) [some (Entry.cells [AVal.ptr 1 0, AVal.bool sh, AVal.raw (Value.pointer none), AVal.raw (Value.pointer none), AVal.bool dn]), some (Entry.cells [AVal.int .i64 t, AVal.int .i64 n, AVal.int .i64 me, AVal.int .i64 sp, AVal.slice 4 0 (List.length R) 1]), some (Entry.cells [AVal.int .i64 s.1, AVal.int .i64 s.2, AVal.slice 3 0 (List.length s.3) 1, AVal.int .i64 (s.4 + 1), AVal.int .i64 1, AVal.int .i64 0, AVal.int .u64 (peek s.3 0), AVal.int .u64 (peek s.3 0), AVal.bool (inB s.3 0)]), some (Entry.ints (some .u64) s.3), some (Entry.ints (some .i64) R)] else (((0 : Int) ≤ me ∧ me ≤ (100000 : Int)) ∧ (0 : Int) ≤ n ∧ n ≤ (100000 : Int)) ∧ (True ∧ True) ∧ (List.length s.3 = List.length s.3 ∧ ((1 : Int) ≤ t ∧ t ≤ (1000 : Int)) ∧ ((1 : Int) ≤ n ∧ n ≤ (1000 : Int)) ∧ (((1 : Int) ≤ bif nodeB n (firstV t n me) then firstV t n me else 1) ∧ (bif nodeB n (firstV t n me) then firstV t n me else 1) ≤ n) ∧ ((0 : Int) ≤ n ∧ n ≤ (1000 : Int)) ∧ (0 : Int) ≤ s.4 ∧ s.4 ≤ (1000000 : Int)) ∧ bif oddB (peek s.3 (n + 4 + bif nodeB n (firstV t n me) then firstV t n me else 1)) then bif !ile (n - 1) 0 then K (AVal.bool false) [some (Entry.cells [AVal.ptr 1 0, AVal.bool sh, AVal.ptr 5 0, AVal.raw (Value.pointer none), AVal.bool dn]), some (Entry.cells [AVal.int .i64 t, AVal.int .i64 n, AVal.int .i64 me, AVal.int .i64 sp, AVal.slice 4 0 (List.length R) 1]), some (Entry.cells [AVal.int .i64 s.1, AVal.int .i64 s.2, AVal.slice 3 0 (List.length s.3) 1, AVal.int .i64 (s.4 + 1), AVal.int .i64 1, AVal.int .i64 (n + 4 + bif nodeB n (firstV t n me) then firstV t n me else 1), AVal.int .u64 (peek s.3 (n + 4 + bif nodeB n (firstV t n me) then firstV t n me else 1)), AVal.int .u64 (peek s.3 (n + 4 + bif nodeB n (firstV t n me) then firstV t n me else 1)), AVal.bool (inB s.3 (n + 4 + bif nodeB n (firstV t n me) then firstV t n me else 1))]), some (Entry.ints (some .u64) s.3), some (Entry.ints (some .i64) R), some (Entry.cells [AVal.int .i64 t, AVal.int .i64 n, AVal.int .i64 0, AVal.int .i64 (nextN n (bif nodeB n (firstV t n me) then firstV t n me else 1)), AVal.int .i64 (n - 1), AVal.int .u64 (peek s.3 (n + 4 + bif nodeB n (firstV t n me) then firstV t n me else 1)), AVal.bool false])] else bif dn then K (AVal.bool true) [some (Entry.cells [AVal.ptr 1 0, AVal.bool true, AVal.ptr 5 0, AVal.ptr 6 0, AVal.bool dn]), some (Entry.cells [AVal.int .i64 t, AVal.int .i64 n, AVal.int .i64 me, AVal.int .i64 0, AVal.slice 4 0 (List.length R) 1]), some (Entry.cells [AVal.int .i64 s.1, AVal.int .i64 s.2, AVal.slice 3 0 (List.length s.3) 1, AVal.int .i64 (s.4 + 1), AVal.int .i64 1, AVal.int .i64 (n + 4 + bif nodeB n (firstV t n me) then firstV t n me else 1), AVal.int .u64 (peek s.3 (n + 4 + bif nodeB n (firstV t n me) then firstV t n me else 1)), AVal.int .u64 (peek s.3 (n + 4 + bif nodeB n (firstV t n me) then firstV t n me else 1)), AVal.bool (inB s.3 (n + 4 + bif nodeB n (firstV t n me) then firstV t n me else 1))]), some (Entry.ints (some .u64) s.3), some (Entry.ints (some .i64) R), some (Entry.cells [AVal.int .i64 t, AVal.int .i64 n, AVal.int .i64 0, AVal.int .i64 (nextN n (bif nodeB n (firstV t n me) then firstV t n me else 1)), AVal.int .i64 (n - 1), AVal.int .u64 (peek s.3 (n + 4 + bif nodeB n (firstV t n me) then firstV t n me else 1)), AVal.bool false]), some (Entry.cells [AVal.ptr 1 0, AVal.raw (Value.pointer none)])] else K (AVal.bool (ieq (↑(List.length R) : Int) 0)) [some (Entry.cells [AVal.ptr 1 0, AVal.bool (ieq (↑(List.length R) : Int) 0), AVal.ptr 5 0, AVal.ptr 6 0, AVal.bool dn]), some (Entry.cells [AVal.int .i64 t, AVal.int .i64 n, AVal.int .i64 me, AVal.int .i64 0, AVal.slice 4 0 (List.length R) 1]), some (Entry.cells [AVal.int .i64 s.1, AVal.int .i64 s.2, AVal.slice 3 0 (List.length s.3) 1, AVal.int .i64 (s.4 + 1), AVal.int .i64 1, AVal.int .i64 (n + 4 + bif nodeB n (firstV t n me) then firstV t n me else 1), AVal.int .u64 (peek s.3 (n + 4 + bif nodeB n (firstV t n me) then firstV t n me else 1)), AVal.int .u64 (peek s.3 (n + 4 + bif nodeB n (firstV t n me) then firstV t n me else 1)), AVal.bool (inB s.3 (n + 4 + bif nodeB n (firstV t n me) then firstV t n me else 1))]), some (Entry.ints (some .u64) s.3), some (Entry.ints (some .i64) R), some (Entry.cells [AVal.int .i64 t, AVal.int .i64 n, AVal.int .i64 0, AVal.int .i64 (nextN n (bif nodeB n (firstV t n me) then firstV t n me else 1)), AVal.int .i64 (n - 1), AVal.int .u64 (peek s.3 (n + 4 + bif nodeB n (firstV t n me) then firstV t n me else 1)), AVal.bool false]), some (Entry.cells [AVal.ptr 1 0, AVal.raw (Value.pointer none)])] else K (AVal.bool false) [some (Entry.cells [AVal.ptr 1 0, AVal.bool sh, AVal.ptr 5 0, AVal.raw (Value.pointer none), AVal.bool dn]), some (Entry.cells [AVal.int .i64 t, AVal.int .i64 n, AVal.int .i64 me, AVal.int .i64 sp, AVal.slice 4 0 (List.length R) 1]), some (Entry.cells [AVal.int .i64 s.1, AVal.int .i64 s.2, AVal.slice 3 0 (List.length s.3) 1, AVal.int .i64 (s.4 + 1), AVal.int .i64 1, AVal.int .i64 (n + 4 + bif nodeB n (firstV t n me) then firstV t n me else 1), AVal.int .u64 (peek s.3 (n + 4 + bif nodeB n (firstV t n me) then firstV t n me else 1)), AVal.int .u64 (peek s.3 (n + 4 + bif nodeB n (firstV t n me) then firstV t n me else 1)), AVal.bool (inB s.3 (n + 4 + bif nodeB n (firstV t n me) then firstV t n me else 1))]), some (Entry.ints (some .u64) s.3), some (Entry.ints (some .i64) R), some (Entry.cells [AVal.int .i64 t, AVal.int .i64 n, AVal.int .i64 0, AVal.int .i64 (bif nodeB n (firstV t n me) then firstV t n me else 1), AVal.int .i64 n, AVal.int .u64 (peek s.3 (n + 4 + bif nodeB n (firstV t n me) then firstV t n me else 1)), AVal.bool true])]) : CallOk (obI tbl) Tryz.prog 63 [.ptr 0 0, .ptr 2 0] [some (.cells [.ptr 1 0, .bool sh, .raw (.pointer none), .raw (.pointer none), .bool dn]), some (.cells [.int .i64 t, .int .i64 n, .int .i64 me, .int .i64 sp, .slice 4 0 R.length 1]), memC 3 s, memX s, some (.ints (some .i64) R)] K := by
  refine CallOk.trim (callOk_of (E := E42) Tryz.checked.mixed (L := LL) (n := 10) (of_nf (q := bif !ieq sp 0 then (List.length s.3 = List.length s.3 ∧ (0 : Int) ≤ s.4 ∧ s.4 ≤ (4611686018427387904 : Int)) ∧ K (AVal.bool true) [some (Entry.cells [AVal.ptr 1 0, AVal.bool sh, AVal.raw (Value.pointer none), AVal.raw (Value.pointer none), AVal.bool dn]), some (Entry.cells [AVal.int .i64 t, AVal.int .i64 n, AVal.int .i64 me, AVal.int .i64 sp, AVal.slice 4 0 (List.length R) 1]), some (Entry.cells [AVal.int .i64 s.1, AVal.int .i64 s.2, AVal.slice 3 0 (List.length s.3) 1, AVal.int .i64 (s.4 + 1), AVal.int .i64 1, AVal.int .i64 0, AVal.int .u64 (peek s.3 0), AVal.int .u64 (peek s.3 0), AVal.bool (inB s.3 0)]), some (Entry.ints (some .u64) s.3), some (Entry.ints (some .i64) R)] else (((0 : Int) ≤ me ∧ me ≤ (100000 : Int)) ∧ (0 : Int) ≤ n ∧ n ≤ (100000 : Int)) ∧ (True ∧ True) ∧ (List.length s.3 = List.length s.3 ∧ ((1 : Int) ≤ t ∧ t ≤ (1000 : Int)) ∧ ((1 : Int) ≤ n ∧ n ≤ (1000 : Int)) ∧ (((1 : Int) ≤ bif nodeB n (firstV t n me) then firstV t n me else 1) ∧ (bif nodeB n (firstV t n me) then firstV t n me else 1) ≤ n) ∧ ((0 : Int) ≤ n ∧ n ≤ (1000 : Int)) ∧ (0 : Int) ≤ s.4 ∧ s.4 ≤ (1000000 : Int)) ∧ bif oddB (peek s.3 (n + 4 + bif nodeB n (firstV t n me) then firstV t n me else 1)) then bif !ile (n - 1) 0 then K (AVal.bool false) [some (Entry.cells [AVal.ptr 1 0, AVal.bool sh, AVal.ptr 5 0, AVal.raw (Value.pointer none), AVal.bool dn]), some (Entry.cells [AVal.int .i64 t, AVal.int .i64 n, AVal.int .i64 me, AVal.int .i64 sp, AVal.slice 4 0 (List.length R) 1]), some (Entry.cells [AVal.int .i64 s.1, AVal.int .i64 s.2, AVal.slice 3 0 (List.length s.3) 1, AVal.int .i64 (s.4 + 1), AVal.int .i64 1, AVal.int .i64 (n + 4 + bif nodeB n (firstV t n me) then firstV t n me else 1), AVal.int .u64 (peek s.3 (n + 4 + bif nodeB n (firstV t n me) then firstV t n me else 1)), AVal.int .u64 (peek s.3 (n + 4 + bif nodeB n (firstV t n me) then firstV t n me else 1)), AVal.bool (inB s.3 (n + 4 + bif nodeB n (firstV t n me) then firstV t n me else 1))]), some (Entry.ints (some .u64) s.3), some (Entry.ints (some .i64) R), some (Entry.cells [AVal.int .i64 t, AVal.int .i64 n, AVal.int .i64 0, AVal.int .i64 (nextN n (bif nodeB n (firstV t n me) then firstV t n me else 1)), AVal.int .i64 (n - 1), AVal.int .u64 (peek s.3 (n + 4 + bif nodeB n (firstV t n me) then firstV t n me else 1)), AVal.bool false])] else bif dn then K (AVal.bool true) [some (Entry.cells [AVal.ptr 1 0, AVal.bool true, AVal.ptr 5 0, AVal.ptr 6 0, AVal.bool dn]), some (Entry.cells [AVal.int .i64 t, AVal.int .i64 n, AVal.int .i64 me, AVal.int .i64 0, AVal.slice 4 0 (List.length R) 1]), some (Entry.cells [AVal.int .i64 s.1, AVal.int .i64 s.2, AVal.slice 3 0 (List.length s.3) 1, AVal.int .i64 (s.4 + 1), AVal.int .i64 1, AVal.int .i64 (n + 4 + bif nodeB n (firstV t n me) then firstV t n me else 1), AVal.int .u64 (peek s.3 (n + 4 + bif nodeB n (firstV t n me) then firstV t n me else 1)), AVal.int .u64 (peek s.3 (n + 4 + bif nodeB n (firstV t n me) then firstV t n me else 1)), AVal.bool (inB s.3 (n + 4 + bif nodeB n (firstV t n me) then firstV t n me else 1))]), some (Entry.ints (some .u64) s.3), some (Entry.ints (some .i64) R), some (Entry.cells [AVal.int .i64 t, AVal.int .i64 n, AVal.int .i64 0, AVal.int .i64 (nextN n (bif nodeB n (firstV t n me) then firstV t n me else 1)), AVal.int .i64 (n - 1), AVal.int .u64 (peek s.3 (n + 4 + bif nodeB n (firstV t n me) then firstV t n me else 1)), AVal.bool false]), some (Entry.cells [AVal.ptr 1 0, AVal.raw (Value.pointer none)])] else K (AVal.bool (ieq (↑(List.length R) : Int) 0)) [some (Entry.cells [AVal.ptr 1 0, AVal.bool (ieq (↑(List.length R) : Int) 0), AVal.ptr 5 0, AVal.ptr 6 0, AVal.bool dn]), some (Entry.cells [AVal.int .i64 t, AVal.int .i64 n, AVal.int .i64 me, AVal.int .i64 0, AVal.slice 4 0 (List.length R) 1]), some (Entry.cells [AVal.int .i64 s.1, AVal.int .i64 s.2, AVal.slice 3 0 (List.length s.3) 1, AVal.int .i64 (s.4 + 1), AVal.int .i64 1, AVal.int .i64 (n + 4 + bif nodeB n (firstV t n me) then firstV t n me else 1), AVal.int .u64 (peek s.3 (n + 4 + bif nodeB n (firstV t n me) then firstV t n me else 1)), AVal.int .u64 (peek s.3 (n + 4 + bif nodeB n (firstV t n me) then firstV t n me else 1)), AVal.bool (inB s.3 (n + 4 + bif nodeB n (firstV t n me) then firstV t n me else 1))]), some (Entry.ints (some .u64) s.3), some (Entry.ints (some .i64) R), some (Entry.cells [AVal.int .i64 t, AVal.int .i64 n, AVal.int .i64 0, AVal.int .i64 (nextN n (bif nodeB n (firstV t n me) then firstV t n me else 1)), AVal.int .i64 (n - 1), AVal.int .u64 (peek s.3 (n + 4 + bif nodeB n (firstV t n me) then firstV t n me else 1)), AVal.bool false]), some (Entry.cells [AVal.ptr 1 0, AVal.raw (Value.pointer none)])] else K (AVal.bool false) [some (Entry.cells [AVal.ptr 1 0, AVal.bool sh, AVal.ptr 5 0, AVal.raw (Value.pointer none), AVal.bool dn]), some (Entry.cells [AVal.int .i64 t, AVal.int .i64 n, AVal.int .i64 me, AVal.int .i64 sp, AVal.slice 4 0 (List.length R) 1]), some (Entry.cells [AVal.int .i64 s.1, AVal.int .i64 s.2, AVal.slice 3 0 (List.length s.3) 1, AVal.int .i64 (s.4 + 1), AVal.int .i64 1, AVal.int .i64 (n + 4 + bif nodeB n (firstV t n me) then firstV t n me else 1), AVal.int .u64 (peek s.3 (n + 4 + bif nodeB n (firstV t n me) then firstV t n me else 1)), AVal.int .u64 (peek s.3 (n + 4 + bif nodeB n (firstV t n me) then firstV t n me else 1)), AVal.bool (inB s.3 (n + 4 + bif nodeB n (firstV t n me) then firstV t n me else 1))]), some (Entry.ints (some .u64) s.3), some (Entry.ints (some .i64) R), some (Entry.cells [AVal.int .i64 t, AVal.int .i64 n, AVal.int .i64 0, AVal.int .i64 (bif nodeB n (firstV t n me) then firstV t n me else 1), AVal.int .i64 n, AVal.int .u64 (peek s.3 (n + 4 + bif nodeB n (firstV t n me) then firstV t n me else 1)), AVal.bool true])]) (by kernel_rfl) hK))
theorem en1' (t n me sp : Int) (R : List Int) (sh dn : Bool) (x : AL) (y : SWS) (s : MS) (K : AVal → Heap Ob → Prop) (hK : (List.length s.3 = List.length s.3 ∧ ((1 : Int) ≤ t ∧ t ≤ (1000 : Int)) ∧ ((1 : Int) ≤ n ∧ n ≤ (1000 : Int)) ∧ ((1 : Int) ≤ x.2 ∧ x.2 ≤ n) ∧ ((0 : Int) ≤ x.3 ∧ x.3 ≤ (1000 : Int)) ∧ (0 : Int) ≤ s.4 ∧ s.4 ≤ (1000000 : Int)) ∧ bif x.5 then bif casB s.3 (n + 4 + x.2) x.4 then bif !ieq x.2 0 then K (AVal.bool true) [some (Entry.cells [AVal.ptr 1 0, AVal.bool sh, AVal.ptr 5 0, AVal.raw (Value.pointer none), AVal.bool dn]), some (Entry.cells [AVal.int .i64 t, AVal.int .i64 n, AVal.int .i64 me, AVal.int .i64 x.2, AVal.slice 4 0 (List.length R) 1]), some (Entry.cells [AVal.int .i64 s.1, AVal.int .i64 s.2, AVal.slice 3 0 (List.length (bif casB s.3 (n + 4 + x.2) x.4 then putI s.3 (n + 4 + x.2) (WU (x.4 + 1)) else s.3)) 1, AVal.int .i64 (s.4 + 1), AVal.int .i64 3, AVal.int .i64 (n + 4 + x.2), AVal.int .u64 (peek s.3 (n + 4 + x.2)), AVal.int .u64 (bif inB s.3 (n + 4 + x.2) then WU (x.4 + 1) else 0), AVal.bool (casB s.3 (n + 4 + x.2) x.4)]), some (Entry.ints (some .u64) (bif casB s.3 (n + 4 + x.2) x.4 then putI s.3 (n + 4 + x.2) (WU (x.4 + 1)) else s.3)), some (Entry.ints (some .i64) R), some (Entry.cells [AVal.int .i64 t, AVal.int .i64 n, AVal.int .i64 x.2, AVal.int .i64 x.2, AVal.int .i64 x.3, AVal.int .u64 x.4, AVal.bool true])] else bif dn then K (AVal.bool true) [some (Entry.cells [AVal.ptr 1 0, AVal.bool true, AVal.ptr 5 0, AVal.ptr 6 0, AVal.bool dn]), some (Entry.cells [AVal.int .i64 t, AVal.int .i64 n, AVal.int .i64 me, AVal.int .i64 x.2, AVal.slice 4 0 (List.length R) 1]), some (Entry.cells [AVal.int .i64 s.1, AVal.int .i64 s.2, AVal.slice 3 0 (List.length (bif casB s.3 (n + 4 + x.2) x.4 then putI s.3 (n + 4 + x.2) (WU (x.4 + 1)) else s.3)) 1, AVal.int .i64 (s.4 + 1), AVal.int .i64 3, AVal.int .i64 (n + 4 + x.2), AVal.int .u64 (peek s.3 (n + 4 + x.2)), AVal.int .u64 (bif inB s.3 (n + 4 + x.2) then WU (x.4 + 1) else 0), AVal.bool (casB s.3 (n + 4 + x.2) x.4)]), some (Entry.ints (some .u64) (bif casB s.3 (n + 4 + x.2) x.4 then putI s.3 (n + 4 + x.2) (WU (x.4 + 1)) else s.3)), some (Entry.ints (some .i64) R), some (Entry.cells [AVal.int .i64 t, AVal.int .i64 n, AVal.int .i64 x.2, AVal.int .i64 x.2, AVal.int .i64 x.3, AVal.int .u64 x.4, AVal.bool true]), some (Entry.cells [AVal.ptr 1 0, AVal.raw (Value.pointer none)])] else K (AVal.bool (ieq (↑(List.length R) : Int) 0)) [some (Entry.cells [AVal.ptr 1 0, AVal.bool (ieq (↑(List.length R) : Int) 0), AVal.ptr 5 0, AVal.ptr 6 0, AVal.bool dn]), some (Entry.cells [AVal.int .i64 t, AVal.int .i64 n, AVal.int .i64 me, AVal.int .i64 x.2, AVal.slice 4 0 (List.length R) 1]), some (Entry.cells [AVal.int .i64 s.1, AVal.int .i64 s.2, AVal.slice 3 0 (List.length (bif casB s.3 (n + 4 + x.2) x.4 then putI s.3 (n + 4 + x.2) (WU (x.4 + 1)) else s.3)) 1, AVal.int .i64 (s.4 + 1), AVal.int .i64 3, AVal.int .i64 (n + 4 + x.2), AVal.int .u64 (peek s.3 (n + 4 + x.2)), AVal.int .u64 (bif inB s.3 (n + 4 + x.2) then WU (x.4 + 1) else 0), AVal.bool (casB s.3 (n + 4 + x.2) x.4)]), some (Entry.ints (some .u64) (bif casB s.3 (n + 4 + x.2) x.4 then putI s.3 (n + 4 + x.2) (WU (x.4 + 1)) else s.3)), some (Entry.ints (some .i64) R), some (Entry.cells [AVal.int .i64 t, AVal.int .i64 n, AVal.int .i64 x.2, AVal.int .i64 x.2, AVal.int .i64 x.3, AVal.int .u64 x.4, AVal.bool true]), some (Entry.cells [AVal.ptr 1 0, AVal.raw (Value.pointer none)])] else bif !ile (x.3 - 1) 0 then K (AVal.bool false) [some (Entry.cells [AVal.ptr 1 0, AVal.bool sh, AVal.ptr 5 0, AVal.raw (Value.pointer none), AVal.bool dn]), some (Entry.cells [AVal.int .i64 t, AVal.int .i64 n, AVal.int .i64 me, AVal.int .i64 sp, AVal.slice 4 0 (List.length R) 1]), some (Entry.cells [AVal.int .i64 s.1, AVal.int .i64 s.2, AVal.slice 3 0 (List.length (bif casB s.3 (n + 4 + x.2) x.4 then putI s.3 (n + 4 + x.2) (WU (x.4 + 1)) else s.3)) 1, AVal.int .i64 (s.4 + 1), AVal.int .i64 3, AVal.int .i64 (n + 4 + x.2), AVal.int .u64 (peek s.3 (n + 4 + x.2)), AVal.int .u64 (bif inB s.3 (n + 4 + x.2) then WU (x.4 + 1) else 0), AVal.bool (casB s.3 (n + 4 + x.2) x.4)]), some (Entry.ints (some .u64) (bif casB s.3 (n + 4 + x.2) x.4 then putI s.3 (n + 4 + x.2) (WU (x.4 + 1)) else s.3)), some (Entry.ints (some .i64) R), some (Entry.cells [AVal.int .i64 t, AVal.int .i64 n, AVal.int .i64 x.1, AVal.int .i64 (nextN n x.2), AVal.int .i64 (x.3 - 1), AVal.int .u64 x.4, AVal.bool false])] else bif !ieq x.1 0 then K (AVal.bool true) [some (Entry.cells [AVal.ptr 1 0, AVal.bool sh, AVal.ptr 5 0, AVal.raw (Value.pointer none), AVal.bool dn]), some (Entry.cells [AVal.int .i64 t, AVal.int .i64 n, AVal.int .i64 me, AVal.int .i64 x.1, AVal.slice 4 0 (List.length R) 1]), some (Entry.cells [AVal.int .i64 s.1, AVal.int .i64 s.2, AVal.slice 3 0 (List.length (bif casB s.3 (n + 4 + x.2) x.4 then putI s.3 (n + 4 + x.2) (WU (x.4 + 1)) else s.3)) 1, AVal.int .i64 (s.4 + 1), AVal.int .i64 3, AVal.int .i64 (n + 4 + x.2), AVal.int .u64 (peek s.3 (n + 4 + x.2)), AVal.int .u64 (bif inB s.3 (n + 4 + x.2) then WU (x.4 + 1) else 0), AVal.bool (casB s.3 (n + 4 + x.2) x.4)]), some (Entry.ints (some .u64) (bif casB s.3 (n + 4 + x.2) x.4 then putI s.3 (n + 4 + x.2) (WU (x.4 + 1)) else s.3)), some (Entry.ints (some .i64) R), some (Entry.cells [AVal.int .i64 t, AVal.int .i64 n, AVal.int .i64 x.1, AVal.int .i64 (nextN n x.2), AVal.int .i64 (x.3 - 1), AVal.int .u64 x.4, AVal.bool false])] else bif dn then K (AVal.bool true) [some (Entry.cells [AVal.ptr 1 0, AVal.bool true, AVal.ptr 5 0, AVal.ptr 6 0, AVal.bool dn]), some (Entry.cells [AVal.int .i64 t, AVal.int .i64 n, AVal.int .i64 me, AVal.int .i64 x.1, AVal.slice 4 0 (List.length R) 1]), some (Entry.cells [AVal.int .i64 s.1, AVal.int .i64 s.2, AVal.slice 3 0 (List.length (bif casB s.3 (n + 4 + x.2) x.4 then putI s.3 (n + 4 + x.2) (WU (x.4 + 1)) else s.3)) 1, AVal.int .i64 (s.4 + 1), AVal.int .i64 3, AVal.int .i64 (n + 4 + x.2), AVal.int .u64 (peek s.3 (n + 4 + x.2)), AVal.int .u64 (bif inB s.3 (n + 4 + x.2) then WU (x.4 + 1) else 0), AVal.bool (casB s.3 (n + 4 + x.2) x.4)]), some (Entry.ints (some .u64) (bif casB s.3 (n + 4 + x.2) x.4 then putI s.3 (n + 4 + x.2) (WU (x.4 + 1)) else s.3)), some (Entry.ints (some .i64) R), some (Entry.cells [AVal.int .i64 t, AVal.int .i64 n, AVal.int .i64 x.1, AVal.int .i64 (nextN n x.2), AVal.int .i64 (x.3 - 1), AVal.int .u64 x.4, AVal.bool false]), some (Entry.cells [AVal.ptr 1 0, AVal.raw (Value.pointer none)])] else K (AVal.bool (ieq (↑(List.length R) : Int) 0)) [some (Entry.cells [AVal.ptr 1 0, AVal.bool (ieq (↑(List.length R) : Int) 0), AVal.ptr 5 0, AVal.ptr 6 0, AVal.bool dn]), some (Entry.cells [AVal.int .i64 t, AVal.int .i64 n, AVal.int .i64 me, AVal.int .i64 x.1, AVal.slice 4 0 (List.length R) 1]), some (Entry.cells [AVal.int .i64 s.1, AVal.int .i64 s.2, AVal.slice 3 0 (List.length (bif casB s.3 (n + 4 + x.2) x.4 then putI s.3 (n + 4 + x.2) (WU (x.4 + 1)) else s.3)) 1, AVal.int .i64 (s.4 + 1), AVal.int .i64 3, AVal.int .i64 (n + 4 + x.2), AVal.int .u64 (peek s.3 (n + 4 + x.2)), AVal.int .u64 (bif inB s.3 (n + 4 + x.2) then WU (x.4 + 1) else 0), AVal.bool (casB s.3 (n + 4 + x.2) x.4)]), some (Entry.ints (some .u64) (bif casB s.3 (n + 4 + x.2) x.4 then putI s.3 (n + 4 + x.2) (WU (x.4 + 1)) else s.3)), some (Entry.ints (some .i64) R), some (Entry.cells [AVal.int .i64 t, AVal.int .i64 n, AVal.int .i64 x.1, AVal.int .i64 (nextN n x.2), AVal.int .i64 (x.3 - 1), AVal.int .u64 x.4, AVal.bool false]), some (Entry.cells [AVal.ptr 1 0, AVal.raw (Value.pointer none)])] else bif oddB (peek s.3 (n + 4 + x.2)) then bif !ile (x.3 - 1) 0 then K (AVal.bool false) [some (Entry.cells [AVal.ptr 1 0, AVal.bool sh, AVal.ptr 5 0, AVal.raw (Value.pointer none), AVal.bool dn]), some (Entry.cells [AVal.int .i64 t, AVal.int .i64 n, AVal.int .i64 me, AVal.int .i64 sp, AVal.slice 4 0 (List.length R) 1]), some (Entry.cells [AVal.int .i64 s.1, AVal.int .i64 s.2, AVal.slice 3 0 (List.length s.3) 1, AVal.int .i64 (s.4 + 1), AVal.int .i64 1, AVal.int .i64 (n + 4 + x.2), AVal.int .u64 (peek s.3 (n + 4 + x.2)), AVal.int .u64 (peek s.3 (n + 4 + x.2)), AVal.bool (inB s.3 (n + 4 + x.2))]), some (Entry.ints (some .u64) s.3), some (Entry.ints (some .i64) R), some (Entry.cells [AVal.int .i64 t, AVal.int .i64 n, AVal.int .i64 x.1, AVal.int .i64 (nextN n x.2), AVal.int .i64 (x.3 - 1), AVal.int .u64 (peek s.3 (n + 4 + x.2)), AVal.bool false])] else bif !ieq x.1 0 then K (AVal.bool true) [some (Entry.cells [AVal.ptr 1 0, AVal.bool sh, AVal.ptr 5 0, AVal.raw (Value.pointer none), AVal.bool dn]), some (Entry.cells [AVal.int .i64 t, AVal.int .i64 n, AVal.int .i64 me, AVal.int .i64 x.1, AVal.slice 4 0 (List.length R) 1]), some (Entry.cells [AVal.int .i64 s.1, AVal.int .i64 s.2, AVal.slice 3 0 (List.length s.3) 1, AVal.int .i64 (s.4 + 1), AVal.int .i64 1, AVal.int .i64 (n + 4 + x.2), AVal.int .u64 (peek s.3 (n + 4 + x.2)), AVal.int .u64 (peek s.3 (n + 4 + x.2)), AVal.bool (inB s.3 (n + 4 + x.2))]), some (Entry.ints (some .u64) s.3), some (Entry.ints (some .i64) R), some (Entry.cells [AVal.int .i64 t, AVal.int .i64 n, AVal.int .i64 x.1, AVal.int .i64 (nextN n x.2), AVal.int .i64 (x.3 - 1), AVal.int .u64 (peek s.3 (n + 4 + x.2)), AVal.bool false])] else bif dn then K (AVal.bool true) [some (Entry.cells [AVal.ptr 1 0, AVal.bool true, AVal.ptr 5 0, AVal.ptr 6 0, AVal.bool dn]), some (Entry.cells [AVal.int .i64 t, AVal.int .i64 n, AVal.int .i64 me, AVal.int .i64 x.1, AVal.slice 4 0 (List.length R) 1]), some (Entry.cells [AVal.int .i64 s.1, AVal.int .i64 s.2, AVal.slice 3 0 (List.length s.3) 1, AVal.int .i64 (s.4 + 1), AVal.int .i64 1, AVal.int .i64 (n + 4 + x.2), AVal.int .u64 (peek s.3 (n + 4 + x.2)), AVal.int .u64 (peek s.3 (n + 4 + x.2)), AVal.bool (inB s.3 (n + 4 + x.2))]), some (Entry.ints (some .u64) s.3), some (Entry.ints (some .i64) R), some (Entry.cells [AVal.int .i64 t, AVal.int .i64 n, AVal.int .i64 x.1, AVal.int .i64 (nextN n x.2), AVal.int .i64 (x.3 - 1), AVal.int .u64 (peek s.3 (n + 4 + x.2)), AVal.bool false]), some (Entry.cells [AVal.ptr 1 0, AVal.raw (Value.pointer none)])] else K (AVal.bool (ieq (↑(List.length R) : Int) 0)) [some (Entry.cells [AVal.ptr 1 0, AVal.bool (ieq (↑(List.length R) : Int) 0), AVal.ptr 5 0, AVal.ptr 6 0, AVal.bool dn]), some (Entry.cells [AVal.int .i64 t, AVal.int .i64 n, AVal.int .i64 me, AVal.int .i64 x.1, AVal.slice 4 0 (List.length R) 1]), some (Entry.cells [AVal.int .i64 s.1, AVal.int .i64 s.2, AVal.slice 3 0 (List.length s.3) 1, AVal.int .i64 (s.4 + 1), AVal.int .i64 1, AVal.int .i64 (n + 4 + x.2), AVal.int .u64 (peek s.3 (n + 4 + x.2)), AVal.int .u64 (peek s.3 (n + 4 + x.2)), AVal.bool (inB s.3 (n + 4 + x.2))]), some (Entry.ints (some .u64) s.3), some (Entry.ints (some .i64) R), some (Entry.cells [AVal.int .i64 t, AVal.int .i64 n, AVal.int .i64 x.1, AVal.int .i64 (nextN n x.2), AVal.int .i64 (x.3 - 1), AVal.int .u64 (peek s.3 (n + 4 + x.2)), AVal.bool false]), some (Entry.cells [AVal.ptr 1 0, AVal.raw (Value.pointer none)])] else K (AVal.bool false) [some (Entry.cells [AVal.ptr 1 0, AVal.bool sh, AVal.ptr 5 0, AVal.raw (Value.pointer none), AVal.bool dn]), some (Entry.cells [AVal.int .i64 t, AVal.int .i64 n, AVal.int .i64 me, AVal.int .i64 sp, AVal.slice 4 0 (List.length R) 1]), some (Entry.cells [AVal.int .i64 s.1, AVal.int .i64 s.2, AVal.slice 3 0 (List.length s.3) 1, AVal.int .i64 (s.4 + 1), AVal.int .i64 1, AVal.int .i64 (n + 4 + x.2), AVal.int .u64 (peek s.3 (n + 4 + x.2)), AVal.int .u64 (peek s.3 (n + 4 + x.2)), AVal.bool (inB s.3 (n + 4 + x.2))]), some (Entry.ints (some .u64) s.3), some (Entry.ints (some .i64) R), some (Entry.cells [AVal.int .i64 t, AVal.int .i64 n, AVal.int .i64 x.1, AVal.int .i64 x.2, AVal.int .i64 x.3, AVal.int .u64 (peek s.3 (n + 4 + x.2)), AVal.bool true])]) : CallOk (obI tbl) Tryz.prog 63 [.ptr 0 0, .ptr 2 0] [some (.cells [.ptr 1 0, .bool sh, .ptr 5 0, .raw (.pointer none), .bool dn]), some (.cells [.int .i64 t, .int .i64 n, .int .i64 me, .int .i64 sp, .slice 4 0 R.length 1]), memC 3 s, memX s, some (.ints (some .i64) R), alE t n x] K := by
  refine CallOk.trim (callOk_of (E := E42) Tryz.checked.mixed (L := LL) (n := 10) (of_nf (q := (List.length s.3 = List.length s.3 ∧ ((1 : Int) ≤ t ∧ t ≤ (1000 : Int)) ∧ ((1 : Int) ≤ n ∧ n ≤ (1000 : Int)) ∧ ((1 : Int) ≤ x.2 ∧ x.2 ≤ n) ∧ ((0 : Int) ≤ x.3 ∧ x.3 ≤ (1000 : Int)) ∧ (0 : Int) ≤ s.4 ∧ s.4 ≤ (1000000 : Int)) ∧ bif x.5 then bif casB s.3 (n + 4 + x.2) x.4 then bif !ieq x.2 0 then K (AVal.bool true) [some (Entry.cells [AVal.ptr 1 0, AVal.bool sh, AVal.ptr 5 0, AVal.raw (Value.pointer none), AVal.bool dn]), some (Entry.cells [AVal.int .i64 t, AVal.int .i64 n, AVal.int .i64 me, AVal.int .i64 x.2, AVal.slice 4 0 (List.length R) 1]), some (Entry.cells [AVal.int .i64 s.1, AVal.int .i64 s.2, AVal.slice 3 0 (List.length (bif casB s.3 (n + 4 + x.2) x.4 then putI s.3 (n + 4 + x.2) (WU (x.4 + 1)) else s.3)) 1, AVal.int .i64 (s.4 + 1), AVal.int .i64 3, AVal.int .i64 (n + 4 + x.2), AVal.int .u64 (peek s.3 (n + 4 + x.2)), AVal.int .u64 (bif inB s.3 (n + 4 + x.2) then WU (x.4 + 1) else 0), AVal.bool (casB s.3 (n + 4 + x.2) x.4)]), some (Entry.ints (some .u64) (bif casB s.3 (n + 4 + x.2) x.4 then putI s.3 (n + 4 + x.2) (WU (x.4 + 1)) else s.3)), some (Entry.ints (some .i64) R), some (Entry.cells [AVal.int .i64 t, AVal.int .i64 n, AVal.int .i64 x.2, AVal.int .i64 x.2, AVal.int .i64 x.3, AVal.int .u64 x.4, AVal.bool true])] else bif dn then K (AVal.bool true) [some (Entry.cells [AVal.ptr 1 0, AVal.bool true, AVal.ptr 5 0, AVal.ptr 6 0, AVal.bool dn]), some (Entry.cells [AVal.int .i64 t, AVal.int .i64 n, AVal.int .i64 me, AVal.int .i64 x.2, AVal.slice 4 0 (List.length R) 1]), some (Entry.cells [AVal.int .i64 s.1, AVal.int .i64 s.2, AVal.slice 3 0 (List.length (bif casB s.3 (n + 4 + x.2) x.4 then putI s.3 (n + 4 + x.2) (WU (x.4 + 1)) else s.3)) 1, AVal.int .i64 (s.4 + 1), AVal.int .i64 3, AVal.int .i64 (n + 4 + x.2), AVal.int .u64 (peek s.3 (n + 4 + x.2)), AVal.int .u64 (bif inB s.3 (n + 4 + x.2) then WU (x.4 + 1) else 0), AVal.bool (casB s.3 (n + 4 + x.2) x.4)]), some (Entry.ints (some .u64) (bif casB s.3 (n + 4 + x.2) x.4 then putI s.3 (n + 4 + x.2) (WU (x.4 + 1)) else s.3)), some (Entry.ints (some .i64) R), some (Entry.cells [AVal.int .i64 t, AVal.int .i64 n, AVal.int .i64 x.2, AVal.int .i64 x.2, AVal.int .i64 x.3, AVal.int .u64 x.4, AVal.bool true]), some (Entry.cells [AVal.ptr 1 0, AVal.raw (Value.pointer none)])] else K (AVal.bool (ieq (↑(List.length R) : Int) 0)) [some (Entry.cells [AVal.ptr 1 0, AVal.bool (ieq (↑(List.length R) : Int) 0), AVal.ptr 5 0, AVal.ptr 6 0, AVal.bool dn]), some (Entry.cells [AVal.int .i64 t, AVal.int .i64 n, AVal.int .i64 me, AVal.int .i64 x.2, AVal.slice 4 0 (List.length R) 1]), some (Entry.cells [AVal.int .i64 s.1, AVal.int .i64 s.2, AVal.slice 3 0 (List.length (bif casB s.3 (n + 4 + x.2) x.4 then putI s.3 (n + 4 + x.2) (WU (x.4 + 1)) else s.3)) 1, AVal.int .i64 (s.4 + 1), AVal.int .i64 3, AVal.int .i64 (n + 4 + x.2), AVal.int .u64 (peek s.3 (n + 4 + x.2)), AVal.int .u64 (bif inB s.3 (n + 4 + x.2) then WU (x.4 + 1) else 0), AVal.bool (casB s.3 (n + 4 + x.2) x.4)]), some (Entry.ints (some .u64) (bif casB s.3 (n + 4 + x.2) x.4 then putI s.3 (n + 4 + x.2) (WU (x.4 + 1)) else s.3)), some (Entry.ints (some .i64) R), some (Entry.cells [AVal.int .i64 t, AVal.int .i64 n, AVal.int .i64 x.2, AVal.int .i64 x.2, AVal.int .i64 x.3, AVal.int .u64 x.4, AVal.bool true]), some (Entry.cells [AVal.ptr 1 0, AVal.raw (Value.pointer none)])] else bif !ile (x.3 - 1) 0 then K (AVal.bool false) [some (Entry.cells [AVal.ptr 1 0, AVal.bool sh, AVal.ptr 5 0, AVal.raw (Value.pointer none), AVal.bool dn]), some (Entry.cells [AVal.int .i64 t, AVal.int .i64 n, AVal.int .i64 me, AVal.int .i64 sp, AVal.slice 4 0 (List.length R) 1]), some (Entry.cells [AVal.int .i64 s.1, AVal.int .i64 s.2, AVal.slice 3 0 (List.length (bif casB s.3 (n + 4 + x.2) x.4 then putI s.3 (n + 4 + x.2) (WU (x.4 + 1)) else s.3)) 1, AVal.int .i64 (s.4 + 1), AVal.int .i64 3, AVal.int .i64 (n + 4 + x.2), AVal.int .u64 (peek s.3 (n + 4 + x.2)), AVal.int .u64 (bif inB s.3 (n + 4 + x.2) then WU (x.4 + 1) else 0), AVal.bool (casB s.3 (n + 4 + x.2) x.4)]), some (Entry.ints (some .u64) (bif casB s.3 (n + 4 + x.2) x.4 then putI s.3 (n + 4 + x.2) (WU (x.4 + 1)) else s.3)), some (Entry.ints (some .i64) R), some (Entry.cells [AVal.int .i64 t, AVal.int .i64 n, AVal.int .i64 x.1, AVal.int .i64 (nextN n x.2), AVal.int .i64 (x.3 - 1), AVal.int .u64 x.4, AVal.bool false])] else bif !ieq x.1 0 then K (AVal.bool true) [some (Entry.cells [AVal.ptr 1 0, AVal.bool sh, AVal.ptr 5 0, AVal.raw (Value.pointer none), AVal.bool dn]), some (Entry.cells [AVal.int .i64 t, AVal.int .i64 n, AVal.int .i64 me, AVal.int .i64 x.1, AVal.slice 4 0 (List.length R) 1]), some (Entry.cells [AVal.int .i64 s.1, AVal.int .i64 s.2, AVal.slice 3 0 (List.length (bif casB s.3 (n + 4 + x.2) x.4 then putI s.3 (n + 4 + x.2) (WU (x.4 + 1)) else s.3)) 1, AVal.int .i64 (s.4 + 1), AVal.int .i64 3, AVal.int .i64 (n + 4 + x.2), AVal.int .u64 (peek s.3 (n + 4 + x.2)), AVal.int .u64 (bif inB s.3 (n + 4 + x.2) then WU (x.4 + 1) else 0), AVal.bool (casB s.3 (n + 4 + x.2) x.4)]), some (Entry.ints (some .u64) (bif casB s.3 (n + 4 + x.2) x.4 then putI s.3 (n + 4 + x.2) (WU (x.4 + 1)) else s.3)), some (Entry.ints (some .i64) R), some (Entry.cells [AVal.int .i64 t, AVal.int .i64 n, AVal.int .i64 x.1, AVal.int .i64 (nextN n x.2), AVal.int .i64 (x.3 - 1), AVal.int .u64 x.4, AVal.bool false])] else bif dn then K (AVal.bool true) [some (Entry.cells [AVal.ptr 1 0, AVal.bool true, AVal.ptr 5 0, AVal.ptr 6 0, AVal.bool dn]), some (Entry.cells [AVal.int .i64 t, AVal.int .i64 n, AVal.int .i64 me, AVal.int .i64 x.1, AVal.slice 4 0 (List.length R) 1]), some (Entry.cells [AVal.int .i64 s.1, AVal.int .i64 s.2, AVal.slice 3 0 (List.length (bif casB s.3 (n + 4 + x.2) x.4 then putI s.3 (n + 4 + x.2) (WU (x.4 + 1)) else s.3)) 1, AVal.int .i64 (s.4 + 1), AVal.int .i64 3, AVal.int .i64 (n + 4 + x.2), AVal.int .u64 (peek s.3 (n + 4 + x.2)), AVal.int .u64 (bif inB s.3 (n + 4 + x.2) then WU (x.4 + 1) else 0), AVal.bool (casB s.3 (n + 4 + x.2) x.4)]), some (Entry.ints (some .u64) (bif casB s.3 (n + 4 + x.2) x.4 then putI s.3 (n + 4 + x.2) (WU (x.4 + 1)) else s.3)), some (Entry.ints (some .i64) R), some (Entry.cells [AVal.int .i64 t, AVal.int .i64 n, AVal.int .i64 x.1, AVal.int .i64 (nextN n x.2), AVal.int .i64 (x.3 - 1), AVal.int .u64 x.4, AVal.bool false]), some (Entry.cells [AVal.ptr 1 0, AVal.raw (Value.pointer none)])] else K (AVal.bool (ieq (↑(List.length R) : Int) 0)) [some (Entry.cells [AVal.ptr 1 0, AVal.bool (ieq (↑(List.length R) : Int) 0), AVal.ptr 5 0, AVal.ptr 6 0, AVal.bool dn]), some (Entry.cells [AVal.int .i64 t, AVal.int .i64 n, AVal.int .i64 me, AVal.int .i64 x.1, AVal.slice 4 0 (List.length R) 1]), some (Entry.cells [AVal.int .i64 s.1, AVal.int .i64 s.2, AVal.slice 3 0 (List.length (bif casB s.3 (n + 4 + x.2) x.4 then putI s.3 (n + 4 + x.2) (WU (x.4 + 1)) else s.3)) 1, AVal.int .i64 (s.4 + 1), AVal.int .i64 3, AVal.int .i64 (n + 4 + x.2), AVal.int .u64 (peek s.3 (n + 4 + x.2)), AVal.int .u64 (bif inB s.3 (n + 4 + x.2) then WU (x.4 + 1) else 0), AVal.bool (casB s.3 (n + 4 + x.2) x.4)]), some (Entry.ints (some .u64) (bif casB s.3 (n + 4 + x.2) x.4 then putI s.3 (n + 4 + x.2) (WU (x.4 + 1)) else s.3)), some (Entry.ints (some .i64) R), some (Entry.cells [AVal.int .i64 t, AVal.int .i64 n, AVal.int .i64 x.1, AVal.int .i64 (nextN n x.2), AVal.int .i64 (x.3 - 1), AVal.int .u64 x.4, AVal.bool false]), some (Entry.cells [AVal.ptr 1 0, AVal.raw (Value.pointer none)])] else bif oddB (peek s.3 (n + 4 + x.2)) then bif !ile (x.3 - 1) 0 then K (AVal.bool false) [some (Entry.cells [AVal.ptr 1 0, AVal.bool sh, AVal.ptr 5 0, AVal.raw (Value.pointer none), AVal.bool dn]), some (Entry.cells [AVal.int .i64 t, AVal.int .i64 n, AVal.int .i64 me, AVal.int .i64 sp, AVal.slice 4 0 (List.length R) 1]), some (Entry.cells [AVal.int .i64 s.1, AVal.int .i64 s.2, AVal.slice 3 0 (List.length s.3) 1, AVal.int .i64 (s.4 + 1), AVal.int .i64 1, AVal.int .i64 (n + 4 + x.2), AVal.int .u64 (peek s.3 (n + 4 + x.2)), AVal.int .u64 (peek s.3 (n + 4 + x.2)), AVal.bool (inB s.3 (n + 4 + x.2))]), some (Entry.ints (some .u64) s.3), some (Entry.ints (some .i64) R), some (Entry.cells [AVal.int .i64 t, AVal.int .i64 n, AVal.int .i64 x.1, AVal.int .i64 (nextN n x.2), AVal.int .i64 (x.3 - 1), AVal.int .u64 (peek s.3 (n + 4 + x.2)), AVal.bool false])] else bif !ieq x.1 0 then K (AVal.bool true) [some (Entry.cells [AVal.ptr 1 0, AVal.bool sh, AVal.ptr 5 0, AVal.raw (Value.pointer none), AVal.bool dn]), some (Entry.cells [AVal.int .i64 t, AVal.int .i64 n, AVal.int .i64 me, AVal.int .i64 x.1, AVal.slice 4 0 (List.length R) 1]), some (Entry.cells [AVal.int .i64 s.1, AVal.int .i64 s.2, AVal.slice 3 0 (List.length s.3) 1, AVal.int .i64 (s.4 + 1), AVal.int .i64 1, AVal.int .i64 (n + 4 + x.2), AVal.int .u64 (peek s.3 (n + 4 + x.2)), AVal.int .u64 (peek s.3 (n + 4 + x.2)), AVal.bool (inB s.3 (n + 4 + x.2))]), some (Entry.ints (some .u64) s.3), some (Entry.ints (some .i64) R), some (Entry.cells [AVal.int .i64 t, AVal.int .i64 n, AVal.int .i64 x.1, AVal.int .i64 (nextN n x.2), AVal.int .i64 (x.3 - 1), AVal.int .u64 (peek s.3 (n + 4 + x.2)), AVal.bool false])] else bif dn then K (AVal.bool true) [some (Entry.cells [AVal.ptr 1 0, AVal.bool true, AVal.ptr 5 0, AVal.ptr 6 0, AVal.bool dn]), some (Entry.cells [AVal.int .i64 t, AVal.int .i64 n, AVal.int .i64 me, AVal.int .i64 x.1, AVal.slice 4 0 (List.length R) 1]), some (Entry.cells [AVal.int .i64 s.1, AVal.int .i64 s.2, AVal.slice 3 0 (List.length s.3) 1, AVal.int .i64 (s.4 + 1), AVal.int .i64 1, AVal.int .i64 (n + 4 + x.2), AVal.int .u64 (peek s.3 (n + 4 + x.2)), AVal.int .u64 (peek s.3 (n + 4 + x.2)), AVal.bool (inB s.3 (n + 4 + x.2))]), some (Entry.ints (some .u64) s.3), some (Entry.ints (some .i64) R), some (Entry.cells [AVal.int .i64 t, AVal.int .i64 n, AVal.int .i64 x.1, AVal.int .i64 (nextN n x.2), AVal.int .i64 (x.3 - 1), AVal.int .u64 (peek s.3 (n + 4 + x.2)), AVal.bool false]), some (Entry.cells [AVal.ptr 1 0, AVal.raw (Value.pointer none)])] else K (AVal.bool (ieq (↑(List.length R) : Int) 0)) [some (Entry.cells [AVal.ptr 1 0, AVal.bool (ieq (↑(List.length R) : Int) 0), AVal.ptr 5 0, AVal.ptr 6 0, AVal.bool dn]), some (Entry.cells [AVal.int .i64 t, AVal.int .i64 n, AVal.int .i64 me, AVal.int .i64 x.1, AVal.slice 4 0 (List.length R) 1]), some (Entry.cells [AVal.int .i64 s.1, AVal.int .i64 s.2, AVal.slice 3 0 (List.length s.3) 1, AVal.int .i64 (s.4 + 1), AVal.int .i64 1, AVal.int .i64 (n + 4 + x.2), AVal.int .u64 (peek s.3 (n + 4 + x.2)), AVal.int .u64 (peek s.3 (n + 4 + x.2)), AVal.bool (inB s.3 (n + 4 + x.2))]), some (Entry.ints (some .u64) s.3), some (Entry.ints (some .i64) R), some (Entry.cells [AVal.int .i64 t, AVal.int .i64 n, AVal.int .i64 x.1, AVal.int .i64 (nextN n x.2), AVal.int .i64 (x.3 - 1), AVal.int .u64 (peek s.3 (n + 4 + x.2)), AVal.bool false]), some (Entry.cells [AVal.ptr 1 0, AVal.raw (Value.pointer none)])] else K (AVal.bool false) [some (Entry.cells [AVal.ptr 1 0, AVal.bool sh, AVal.ptr 5 0, AVal.raw (Value.pointer none), AVal.bool dn]), some (Entry.cells [AVal.int .i64 t, AVal.int .i64 n, AVal.int .i64 me, AVal.int .i64 sp, AVal.slice 4 0 (List.length R) 1]), some (Entry.cells [AVal.int .i64 s.1, AVal.int .i64 s.2, AVal.slice 3 0 (List.length s.3) 1, AVal.int .i64 (s.4 + 1), AVal.int .i64 1, AVal.int .i64 (n + 4 + x.2), AVal.int .u64 (peek s.3 (n + 4 + x.2)), AVal.int .u64 (peek s.3 (n + 4 + x.2)), AVal.bool (inB s.3 (n + 4 + x.2))]), some (Entry.ints (some .u64) s.3), some (Entry.ints (some .i64) R), some (Entry.cells [AVal.int .i64 t, AVal.int .i64 n, AVal.int .i64 x.1, AVal.int .i64 x.2, AVal.int .i64 x.3, AVal.int .u64 (peek s.3 (n + 4 + x.2)), AVal.bool true])]) (by kernel_rfl) hK))
theorem en2' (t n me sp : Int) (R : List Int) (sh dn : Bool) (x : AL) (y : SWS) (s : MS) (K : AVal → Heap Ob → Prop) (hK : ((List.length s.3 = List.length s.3 ∧ List.length R = List.length R) ∧ ((1 : Int) ≤ t ∧ t ≤ (1000 : Int)) ∧ ((1 : Int) ≤ n ∧ n ≤ (1000 : Int)) ∧ ((0 : Int) ≤ s.4 ∧ s.4 ≤ (1000000 : Int)) ∧ List.length R ≤ (1000000 : Nat)) ∧ K (AVal.bool false) [some (Entry.cells [AVal.ptr 1 0, AVal.bool sh, AVal.ptr 5 0, AVal.ptr 6 0, AVal.bool dn]), some (Entry.cells [AVal.int .i64 t, AVal.int .i64 n, AVal.int .i64 me, AVal.int .i64 sp, AVal.slice 4 0 (List.length R) 1]), some (Entry.cells [AVal.int .i64 s.1, AVal.int .i64 s.2, AVal.slice 3 0 (List.length s.3) 1, AVal.int .i64 (s.4 + 1), AVal.int .i64 1, AVal.int .i64 (slotA n 0), AVal.int .u64 (peek s.3 (slotA n 0)), AVal.int .u64 (peek s.3 (slotA n 0)), AVal.bool (inB s.3 (slotA n 0))]), some (Entry.ints (some .u64) s.3), some (Entry.ints (some .i64) R), some (Entry.cells [AVal.int .i64 t, AVal.int .i64 n, AVal.int .i64 x.1, AVal.int .i64 x.2, AVal.int .i64 x.3, AVal.int .u64 x.4, AVal.bool x.5]), some (Entry.cells [AVal.ptr 1 0, AVal.ptr 7 0]), some (Entry.cells [AVal.int .i64 t, AVal.int .i64 n, AVal.raw (Value.slice none 0 0), AVal.raw (Value.slice none 0 0), AVal.slice 8 0 (List.length R) 1, AVal.map 9, AVal.int .i64 1, AVal.raw (Value.pointer none)]), some (Entry.ints (some .i64) R), some (Entry.imap .i64 none (seenM [] n 0 s))]) : CallOk (obI tbl) Tryz.prog 63 [.ptr 0 0, .ptr 2 0] [some (.cells [.ptr 1 0, .bool sh, .ptr 5 0, .ptr 6 0, .bool dn]), some (.cells [.int .i64 t, .int .i64 n, .int .i64 me, .int .i64 sp, .slice 4 0 R.length 1]), memC 3 s, memX s, some (.ints (some .i64) R), alE t n x, some (.cells [.ptr 1 0, .raw (.pointer none)])] K := by
  refine CallOk.trim (callOk_of (E := E42) Tryz.checked.mixed (L := LL) (n := 10) (of_nf (q := ((List.length s.3 = List.length s.3 ∧ List.length R = List.length R) ∧ ((1 : Int) ≤ t ∧ t ≤ (1000 : Int)) ∧ ((1 : Int) ≤ n ∧ n ≤ (1000 : Int)) ∧ ((0 : Int) ≤ s.4 ∧ s.4 ≤ (1000000 : Int)) ∧ List.length R ≤ (1000000 : Nat)) ∧ K (AVal.bool false) [some (Entry.cells [AVal.ptr 1 0, AVal.bool sh, AVal.ptr 5 0, AVal.ptr 6 0, AVal.bool dn]), some (Entry.cells [AVal.int .i64 t, AVal.int .i64 n, AVal.int .i64 me, AVal.int .i64 sp, AVal.slice 4 0 (List.length R) 1]), some (Entry.cells [AVal.int .i64 s.1, AVal.int .i64 s.2, AVal.slice 3 0 (List.length s.3) 1, AVal.int .i64 (s.4 + 1), AVal.int .i64 1, AVal.int .i64 (slotA n 0), AVal.int .u64 (peek s.3 (slotA n 0)), AVal.int .u64 (peek s.3 (slotA n 0)), AVal.bool (inB s.3 (slotA n 0))]), some (Entry.ints (some .u64) s.3), some (Entry.ints (some .i64) R), some (Entry.cells [AVal.int .i64 t, AVal.int .i64 n, AVal.int .i64 x.1, AVal.int .i64 x.2, AVal.int .i64 x.3, AVal.int .u64 x.4, AVal.bool x.5]), some (Entry.cells [AVal.ptr 1 0, AVal.ptr 7 0]), some (Entry.cells [AVal.int .i64 t, AVal.int .i64 n, AVal.raw (Value.slice none 0 0), AVal.raw (Value.slice none 0 0), AVal.slice 8 0 (List.length R) 1, AVal.map 9, AVal.int .i64 1, AVal.raw (Value.pointer none)]), some (Entry.ints (some .i64) R), some (Entry.imap .i64 none (seenM [] n 0 s))]) (by kernel_rfl) hK))
theorem en3' (t n me sp : Int) (R : List Int) (sh dn : Bool) (x : AL) (y : SWS) (s : MS) (K : AVal → Heap Ob → Prop) (hK : ((List.length s.3 = List.length s.3 ∧ List.length R = List.length R ∧ List.length y.2 = List.length y.2 ∧ t = t ∧ n = n) ∧ ((1 : Int) ≤ t ∧ t ≤ (1000 : Int)) ∧ ((1 : Int) ≤ n ∧ n ≤ (1000 : Int)) ∧ ((0 : Int) ≤ s.4 ∧ s.4 ≤ (1000000 : Int)) ∧ List.length y.2 ≤ (1000000 : Nat) ∧ (0 : Int) ≤ y.4 ∧ y.4 < (2 : Int) * t) ∧ bif ieq (y.4 + 1) (2 * t) then bif ieq (↑(List.length (freedL (seenM y.3 n y.4 s) y.2)) : Int) 0 then K (AVal.bool (ieq (↑(List.length (freedL (seenM y.3 n y.4 s) y.2)) : Int) 0)) [some (Entry.cells [AVal.ptr 1 0, AVal.bool (ieq (↑(List.length (freedL (seenM y.3 n y.4 s) y.2)) : Int) 0), AVal.raw (Value.pointer none), AVal.raw (Value.pointer none), AVal.bool true]), some (Entry.cells [AVal.int .i64 t, AVal.int .i64 n, AVal.int .i64 me, AVal.int .i64 sp, AVal.slice 10 0 (List.length (keptL (seenM y.3 n y.4 s) y.2)) 1]), some (Entry.cells [AVal.int .i64 s.1, AVal.int .i64 s.2, AVal.slice 3 0 (List.length s.3) 1, AVal.int .i64 (s.4 + 1), AVal.int .i64 1, AVal.int .i64 (slotA n y.4), AVal.int .u64 (peek s.3 (slotA n y.4)), AVal.int .u64 (peek s.3 (slotA n y.4)), AVal.bool (inB s.3 (slotA n y.4))]), some (Entry.ints (some .u64) s.3), some (Entry.ints (some .i64) R), some (Entry.cells [AVal.int .i64 t, AVal.int .i64 n, AVal.int .i64 x.1, AVal.int .i64 x.2, AVal.int .i64 x.3, AVal.int .u64 x.4, AVal.bool x.5]), some (Entry.cells [AVal.ptr 1 0, AVal.ptr 7 0]), some (Entry.cells [AVal.int .i64 t, AVal.int .i64 n, AVal.slice 10 0 (List.length (keptL (seenM y.3 n y.4 s) y.2)) 1, AVal.slice 11 0 (List.length (freedL (seenM y.3 n y.4 s) y.2)) 1, AVal.slice 8 0 (List.length y.2) 1, AVal.map 9, AVal.int .i64 (y.4 + 1), AVal.ptr 12 0]), some (Entry.ints (some .i64) y.2), some (Entry.imap .i64 none (seenM y.3 n y.4 s)), some (Entry.ints (some .i64) (keptL (seenM y.3 n y.4 s) y.2)), some (Entry.ints (some .i64) (freedL (seenM y.3 n y.4 s) y.2)), some (Entry.cells [AVal.int .i64 t, AVal.int .i64 n, AVal.slice 13 0 (List.length (freedL (seenM y.3 n y.4 s) y.2)) 1]), some (Entry.ints (some .i64) (freedL (seenM y.3 n y.4 s) y.2))] else K (AVal.bool false) [some (Entry.cells [AVal.ptr 1 0, AVal.bool sh, AVal.ptr 5 0, AVal.ptr 6 0, AVal.bool dn]), some (Entry.cells [AVal.int .i64 t, AVal.int .i64 n, AVal.int .i64 me, AVal.int .i64 sp, AVal.slice 4 0 (List.length R) 1]), some (Entry.cells [AVal.int .i64 s.1, AVal.int .i64 s.2, AVal.slice 3 0 (List.length s.3) 1, AVal.int .i64 (s.4 + 1), AVal.int .i64 1, AVal.int .i64 (slotA n y.4), AVal.int .u64 (peek s.3 (slotA n y.4)), AVal.int .u64 (peek s.3 (slotA n y.4)), AVal.bool (inB s.3 (slotA n y.4))]), some (Entry.ints (some .u64) s.3), some (Entry.ints (some .i64) R), some (Entry.cells [AVal.int .i64 t, AVal.int .i64 n, AVal.int .i64 x.1, AVal.int .i64 x.2, AVal.int .i64 x.3, AVal.int .u64 x.4, AVal.bool x.5]), some (Entry.cells [AVal.ptr 1 0, AVal.ptr 7 0]), some (Entry.cells [AVal.int .i64 t, AVal.int .i64 n, AVal.slice 10 0 (List.length (keptL (seenM y.3 n y.4 s) y.2)) 1, AVal.slice 11 0 (List.length (freedL (seenM y.3 n y.4 s) y.2)) 1, AVal.slice 8 0 (List.length y.2) 1, AVal.map 9, AVal.int .i64 (y.4 + 1), AVal.ptr 12 0]), some (Entry.ints (some .i64) y.2), some (Entry.imap .i64 none (seenM y.3 n y.4 s)), some (Entry.ints (some .i64) (keptL (seenM y.3 n y.4 s) y.2)), some (Entry.ints (some .i64) (freedL (seenM y.3 n y.4 s) y.2)), some (Entry.cells [AVal.int .i64 t, AVal.int .i64 n, AVal.slice 13 0 (List.length (freedL (seenM y.3 n y.4 s) y.2)) 1]), some (Entry.ints (some .i64) (freedL (seenM y.3 n y.4 s) y.2))] else K (AVal.bool false) [some (Entry.cells [AVal.ptr 1 0, AVal.bool sh, AVal.ptr 5 0, AVal.ptr 6 0, AVal.bool dn]), some (Entry.cells [AVal.int .i64 t, AVal.int .i64 n, AVal.int .i64 me, AVal.int .i64 sp, AVal.slice 4 0 (List.length R) 1]), some (Entry.cells [AVal.int .i64 s.1, AVal.int .i64 s.2, AVal.slice 3 0 (List.length s.3) 1, AVal.int .i64 (s.4 + 1), AVal.int .i64 1, AVal.int .i64 (slotA n y.4), AVal.int .u64 (peek s.3 (slotA n y.4)), AVal.int .u64 (peek s.3 (slotA n y.4)), AVal.bool (inB s.3 (slotA n y.4))]), some (Entry.ints (some .u64) s.3), some (Entry.ints (some .i64) R), some (Entry.cells [AVal.int .i64 t, AVal.int .i64 n, AVal.int .i64 x.1, AVal.int .i64 x.2, AVal.int .i64 x.3, AVal.int .u64 x.4, AVal.bool x.5]), some (Entry.cells [AVal.ptr 1 0, AVal.ptr 7 0]), some (Entry.cells [AVal.int .i64 t, AVal.int .i64 n, AVal.raw (Value.slice none 0 0), AVal.raw (Value.slice none 0 0), AVal.slice 8 0 (List.length y.2) 1, AVal.map 9, AVal.int .i64 (y.4 + 1), AVal.raw (Value.pointer none)]), some (Entry.ints (some .i64) y.2), some (Entry.imap .i64 none (seenM y.3 n y.4 s))]) : CallOk (obI tbl) Tryz.prog 63 [.ptr 0 0, .ptr 2 0] [some (.cells [.ptr 1 0, .bool sh, .ptr 5 0, .ptr 6 0, .bool dn]), some (.cells [.int .i64 t, .int .i64 n, .int .i64 me, .int .i64 sp, .slice 4 0 R.length 1]), memC 3 s, memX s, some (.ints (some .i64) R), alE t n x, some (.cells [.ptr 1 0, .ptr 7 0]), some (.cells [.int .i64 t, .int .i64 n, .raw (.slice none 0 0), .raw (.slice none 0 0), .slice 8 0 y.N.length 1, .map 9, .int .i64 y.i, .raw (.pointer none)]), some (.ints (some .i64) y.N), some (.imap .i64 none y.m)] K := by
  refine CallOk.trim (callOk_of (E := E42) Tryz.checked.mixed (L := LL) (n := 10) (of_nf (q := ((List.length s.3 = List.length s.3 ∧ List.length R = List.length R ∧ List.length y.2 = List.length y.2 ∧ t = t ∧ n = n) ∧ ((1 : Int) ≤ t ∧ t ≤ (1000 : Int)) ∧ ((1 : Int) ≤ n ∧ n ≤ (1000 : Int)) ∧ ((0 : Int) ≤ s.4 ∧ s.4 ≤ (1000000 : Int)) ∧ List.length y.2 ≤ (1000000 : Nat) ∧ (0 : Int) ≤ y.4 ∧ y.4 < (2 : Int) * t) ∧ bif ieq (y.4 + 1) (2 * t) then bif ieq (↑(List.length (freedL (seenM y.3 n y.4 s) y.2)) : Int) 0 then K (AVal.bool (ieq (↑(List.length (freedL (seenM y.3 n y.4 s) y.2)) : Int) 0)) [some (Entry.cells [AVal.ptr 1 0, AVal.bool (ieq (↑(List.length (freedL (seenM y.3 n y.4 s) y.2)) : Int) 0), AVal.raw (Value.pointer none), AVal.raw (Value.pointer none), AVal.bool true]), some (Entry.cells [AVal.int .i64 t, AVal.int .i64 n, AVal.int .i64 me, AVal.int .i64 sp, AVal.slice 10 0 (List.length (keptL (seenM y.3 n y.4 s) y.2)) 1]), some (Entry.cells [AVal.int .i64 s.1, AVal.int .i64 s.2, AVal.slice 3 0 (List.length s.3) 1, AVal.int .i64 (s.4 + 1), AVal.int .i64 1, AVal.int .i64 (slotA n y.4), AVal.int .u64 (peek s.3 (slotA n y.4)), AVal.int .u64 (peek s.3 (slotA n y.4)), AVal.bool (inB s.3 (slotA n y.4))]), some (Entry.ints (some .u64) s.3), some (Entry.ints (some .i64) R), some (Entry.cells [AVal.int .i64 t, AVal.int .i64 n, AVal.int .i64 x.1, AVal.int .i64 x.2, AVal.int .i64 x.3, AVal.int .u64 x.4, AVal.bool x.5]), some (Entry.cells [AVal.ptr 1 0, AVal.ptr 7 0]), some (Entry.cells [AVal.int .i64 t, AVal.int .i64 n, AVal.slice 10 0 (List.length (keptL (seenM y.3 n y.4 s) y.2)) 1, AVal.slice 11 0 (List.length (freedL (seenM y.3 n y.4 s) y.2)) 1, AVal.slice 8 0 (List.length y.2) 1, AVal.map 9, AVal.int .i64 (y.4 + 1), AVal.ptr 12 0]), some (Entry.ints (some .i64) y.2), some (Entry.imap .i64 none (seenM y.3 n y.4 s)), some (Entry.ints (some .i64) (keptL (seenM y.3 n y.4 s) y.2)), some (Entry.ints (some .i64) (freedL (seenM y.3 n y.4 s) y.2)), some (Entry.cells [AVal.int .i64 t, AVal.int .i64 n, AVal.slice 13 0 (List.length (freedL (seenM y.3 n y.4 s) y.2)) 1]), some (Entry.ints (some .i64) (freedL (seenM y.3 n y.4 s) y.2))] else K (AVal.bool false) [some (Entry.cells [AVal.ptr 1 0, AVal.bool sh, AVal.ptr 5 0, AVal.ptr 6 0, AVal.bool dn]), some (Entry.cells [AVal.int .i64 t, AVal.int .i64 n, AVal.int .i64 me, AVal.int .i64 sp, AVal.slice 4 0 (List.length R) 1]), some (Entry.cells [AVal.int .i64 s.1, AVal.int .i64 s.2, AVal.slice 3 0 (List.length s.3) 1, AVal.int .i64 (s.4 + 1), AVal.int .i64 1, AVal.int .i64 (slotA n y.4), AVal.int .u64 (peek s.3 (slotA n y.4)), AVal.int .u64 (peek s.3 (slotA n y.4)), AVal.bool (inB s.3 (slotA n y.4))]), some (Entry.ints (some .u64) s.3), some (Entry.ints (some .i64) R), some (Entry.cells [AVal.int .i64 t, AVal.int .i64 n, AVal.int .i64 x.1, AVal.int .i64 x.2, AVal.int .i64 x.3, AVal.int .u64 x.4, AVal.bool x.5]), some (Entry.cells [AVal.ptr 1 0, AVal.ptr 7 0]), some (Entry.cells [AVal.int .i64 t, AVal.int .i64 n, AVal.slice 10 0 (List.length (keptL (seenM y.3 n y.4 s) y.2)) 1, AVal.slice 11 0 (List.length (freedL (seenM y.3 n y.4 s) y.2)) 1, AVal.slice 8 0 (List.length y.2) 1, AVal.map 9, AVal.int .i64 (y.4 + 1), AVal.ptr 12 0]), some (Entry.ints (some .i64) y.2), some (Entry.imap .i64 none (seenM y.3 n y.4 s)), some (Entry.ints (some .i64) (keptL (seenM y.3 n y.4 s) y.2)), some (Entry.ints (some .i64) (freedL (seenM y.3 n y.4 s) y.2)), some (Entry.cells [AVal.int .i64 t, AVal.int .i64 n, AVal.slice 13 0 (List.length (freedL (seenM y.3 n y.4 s) y.2)) 1]), some (Entry.ints (some .i64) (freedL (seenM y.3 n y.4 s) y.2))] else K (AVal.bool false) [some (Entry.cells [AVal.ptr 1 0, AVal.bool sh, AVal.ptr 5 0, AVal.ptr 6 0, AVal.bool dn]), some (Entry.cells [AVal.int .i64 t, AVal.int .i64 n, AVal.int .i64 me, AVal.int .i64 sp, AVal.slice 4 0 (List.length R) 1]), some (Entry.cells [AVal.int .i64 s.1, AVal.int .i64 s.2, AVal.slice 3 0 (List.length s.3) 1, AVal.int .i64 (s.4 + 1), AVal.int .i64 1, AVal.int .i64 (slotA n y.4), AVal.int .u64 (peek s.3 (slotA n y.4)), AVal.int .u64 (peek s.3 (slotA n y.4)), AVal.bool (inB s.3 (slotA n y.4))]), some (Entry.ints (some .u64) s.3), some (Entry.ints (some .i64) R), some (Entry.cells [AVal.int .i64 t, AVal.int .i64 n, AVal.int .i64 x.1, AVal.int .i64 x.2, AVal.int .i64 x.3, AVal.int .u64 x.4, AVal.bool x.5]), some (Entry.cells [AVal.ptr 1 0, AVal.ptr 7 0]), some (Entry.cells [AVal.int .i64 t, AVal.int .i64 n, AVal.raw (Value.slice none 0 0), AVal.raw (Value.slice none 0 0), AVal.slice 8 0 (List.length y.2) 1, AVal.map 9, AVal.int .i64 (y.4 + 1), AVal.raw (Value.pointer none)]), some (Entry.ints (some .i64) y.2), some (Entry.imap .i64 none (seenM y.3 n y.4 s))]) (by kernel_rfl) hK))
theorem en4' (t n me sp : Int) (R : List Int) (sh dn : Bool) (x : AL) (y : SWS) (s : MS) (K : AVal → Heap Ob → Prop) (hK : ((List.length s.3 = List.length s.3 ∧ List.length R = List.length R ∧ List.length y.5 = List.length y.5 ∧ List.length y.6 = List.length y.6 ∧ List.length y.2 = List.length y.2 ∧ t = t ∧ n = n ∧ t = t ∧ n = n) ∧ ((1 : Int) ≤ t ∧ t ≤ (1000 : Int)) ∧ ((1 : Int) ≤ n ∧ n ≤ (1000 : Int)) ∧ ((0 : Int) ≤ s.4 ∧ s.4 ≤ (1000000 : Int)) ∧ 2 * t ≤ y.4 ∧ ((1 : Nat) ≤ y.9 ∧ List.length y.7 = y.8 + y.9) ∧ (-1000000 : Int) ≤ List.getD y.7 (y.8 + Int.toNat 0 * 1) 0 ∧ List.getD y.7 (y.8 + Int.toNat 0 * 1) (0 : Int) ≤ (1000000 : Int)) ∧ bif ieq (↑(y.9 - 1) : Int) 0 then K (AVal.bool (ieq (↑(List.length y.6) : Int) 0)) [some (Entry.cells [AVal.ptr 1 0, AVal.bool (ieq (↑(List.length y.6) : Int) 0), AVal.raw (Value.pointer none), AVal.raw (Value.pointer none), AVal.bool true]), some (Entry.cells [AVal.int .i64 t, AVal.int .i64 n, AVal.int .i64 me, AVal.int .i64 sp, AVal.slice 8 0 (List.length y.5) 1]), some (Entry.cells [AVal.int .i64 s.1, AVal.int .i64 s.2, AVal.slice 3 0 (List.length (putI s.3 (lifeA n y.7 y.8) (WU (peek s.3 (lifeA n y.7 y.8) + 1)))) 1, AVal.int .i64 (s.4 + 1), AVal.int .i64 4, AVal.int .i64 (lifeA n y.7 y.8), AVal.int .u64 (peek s.3 (lifeA n y.7 y.8)), AVal.int .u64 (bif inB s.3 (lifeA n y.7 y.8) then WU (peek s.3 (lifeA n y.7 y.8) + 1) else 0), AVal.bool (inB s.3 (lifeA n y.7 y.8))]), some (Entry.ints (some .u64) (putI s.3 (lifeA n y.7 y.8) (WU (peek s.3 (lifeA n y.7 y.8) + 1)))), some (Entry.ints (some .i64) R), some (Entry.cells [AVal.int .i64 t, AVal.int .i64 n, AVal.int .i64 x.1, AVal.int .i64 x.2, AVal.int .i64 x.3, AVal.int .u64 x.4, AVal.bool x.5]), some (Entry.cells [AVal.ptr 1 0, AVal.ptr 7 0]), some (Entry.cells [AVal.int .i64 t, AVal.int .i64 n, AVal.slice 8 0 (List.length y.5) 1, AVal.slice 9 0 (List.length y.6) 1, AVal.slice 10 0 (List.length y.2) 1, AVal.map 11, AVal.int .i64 y.4, AVal.ptr 12 0]), some (Entry.ints (some .i64) y.5), some (Entry.ints (some .i64) y.6), some (Entry.ints (some .i64) y.2), some (Entry.imap .i64 none y.3), some (Entry.cells [AVal.int .i64 t, AVal.int .i64 n, AVal.slice 13 (y.8 + 1) (y.9 - 1) 1]), some (Entry.ints (some .i64) y.7)] else K (AVal.bool false) [some (Entry.cells [AVal.ptr 1 0, AVal.bool sh, AVal.ptr 5 0, AVal.ptr 6 0, AVal.bool dn]), some (Entry.cells [AVal.int .i64 t, AVal.int .i64 n, AVal.int .i64 me, AVal.int .i64 sp, AVal.slice 4 0 (List.length R) 1]), some (Entry.cells [AVal.int .i64 s.1, AVal.int .i64 s.2, AVal.slice 3 0 (List.length (putI s.3 (lifeA n y.7 y.8) (WU (peek s.3 (lifeA n y.7 y.8) + 1)))) 1, AVal.int .i64 (s.4 + 1), AVal.int .i64 4, AVal.int .i64 (lifeA n y.7 y.8), AVal.int .u64 (peek s.3 (lifeA n y.7 y.8)), AVal.int .u64 (bif inB s.3 (lifeA n y.7 y.8) then WU (peek s.3 (lifeA n y.7 y.8) + 1) else 0), AVal.bool (inB s.3 (lifeA n y.7 y.8))]), some (Entry.ints (some .u64) (putI s.3 (lifeA n y.7 y.8) (WU (peek s.3 (lifeA n y.7 y.8) + 1)))), some (Entry.ints (some .i64) R), some (Entry.cells [AVal.int .i64 t, AVal.int .i64 n, AVal.int .i64 x.1, AVal.int .i64 x.2, AVal.int .i64 x.3, AVal.int .u64 x.4, AVal.bool x.5]), some (Entry.cells [AVal.ptr 1 0, AVal.ptr 7 0]), some (Entry.cells [AVal.int .i64 t, AVal.int .i64 n, AVal.slice 8 0 (List.length y.5) 1, AVal.slice 9 0 (List.length y.6) 1, AVal.slice 10 0 (List.length y.2) 1, AVal.map 11, AVal.int .i64 y.4, AVal.ptr 12 0]), some (Entry.ints (some .i64) y.5), some (Entry.ints (some .i64) y.6), some (Entry.ints (some .i64) y.2), some (Entry.imap .i64 none y.3), some (Entry.cells [AVal.int .i64 t, AVal.int .i64 n, AVal.slice 13 (y.8 + 1) (y.9 - 1) 1]), some (Entry.ints (some .i64) y.7)]) : CallOk (obI tbl) Tryz.prog 63 [.ptr 0 0, .ptr 2 0] [some (.cells [.ptr 1 0, .bool sh, .ptr 5 0, .ptr 6 0, .bool dn]), some (.cells [.int .i64 t, .int .i64 n, .int .i64 me, .int .i64 sp, .slice 4 0 R.length 1]), memC 3 s, memX s, some (.ints (some .i64) R), alE t n x, some (.cells [.ptr 1 0, .ptr 7 0]), some (.cells [.int .i64 t, .int .i64 n, .slice 8 0 y.ks.length 1, .slice 9 0 y.fs.length 1, .slice 10 0 y.N.length 1, .map 11, .int .i64 y.i, .ptr 12 0]), some (.ints (some .i64) y.ks), some (.ints (some .i64) y.fs), some (.ints (some .i64) y.N), some (.imap .i64 none y.m), some (.cells [.int .i64 t, .int .i64 n, .slice 13 y.j y.l 1]), some (.ints (some .i64) y.gs)] K := by
  refine CallOk.trim (callOk_of (E := E42) Tryz.checked.mixed (L := LL) (n := 10) (of_nf (q := ((List.length s.3 = List.length s.3 ∧ List.length R = List.length R ∧ List.length y.5 = List.length y.5 ∧ List.length y.6 = List.length y.6 ∧ List.length y.2 = List.length y.2 ∧ t = t ∧ n = n ∧ t = t ∧ n = n) ∧ ((1 : Int) ≤ t ∧ t ≤ (1000 : Int)) ∧ ((1 : Int) ≤ n ∧ n ≤ (1000 : Int)) ∧ ((0 : Int) ≤ s.4 ∧ s.4 ≤ (1000000 : Int)) ∧ 2 * t ≤ y.4 ∧ ((1 : Nat) ≤ y.9 ∧ List.length y.7 = y.8 + y.9) ∧ (-1000000 : Int) ≤ List.getD y.7 (y.8 + Int.toNat 0 * 1) 0 ∧ List.getD y.7 (y.8 + Int.toNat 0 * 1) (0 : Int) ≤ (1000000 : Int)) ∧ bif ieq (↑(y.9 - 1) : Int) 0 then K (AVal.bool (ieq (↑(List.length y.6) : Int) 0)) [some (Entry.cells [AVal.ptr 1 0, AVal.bool (ieq (↑(List.length y.6) : Int) 0), AVal.raw (Value.pointer none), AVal.raw (Value.pointer none), AVal.bool true]), some (Entry.cells [AVal.int .i64 t, AVal.int .i64 n, AVal.int .i64 me, AVal.int .i64 sp, AVal.slice 8 0 (List.length y.5) 1]), some (Entry.cells [AVal.int .i64 s.1, AVal.int .i64 s.2, AVal.slice 3 0 (List.length (putI s.3 (lifeA n y.7 y.8) (WU (peek s.3 (lifeA n y.7 y.8) + 1)))) 1, AVal.int .i64 (s.4 + 1), AVal.int .i64 4, AVal.int .i64 (lifeA n y.7 y.8), AVal.int .u64 (peek s.3 (lifeA n y.7 y.8)), AVal.int .u64 (bif inB s.3 (lifeA n y.7 y.8) then WU (peek s.3 (lifeA n y.7 y.8) + 1) else 0), AVal.bool (inB s.3 (lifeA n y.7 y.8))]), some (Entry.ints (some .u64) (putI s.3 (lifeA n y.7 y.8) (WU (peek s.3 (lifeA n y.7 y.8) + 1)))), some (Entry.ints (some .i64) R), some (Entry.cells [AVal.int .i64 t, AVal.int .i64 n, AVal.int .i64 x.1, AVal.int .i64 x.2, AVal.int .i64 x.3, AVal.int .u64 x.4, AVal.bool x.5]), some (Entry.cells [AVal.ptr 1 0, AVal.ptr 7 0]), some (Entry.cells [AVal.int .i64 t, AVal.int .i64 n, AVal.slice 8 0 (List.length y.5) 1, AVal.slice 9 0 (List.length y.6) 1, AVal.slice 10 0 (List.length y.2) 1, AVal.map 11, AVal.int .i64 y.4, AVal.ptr 12 0]), some (Entry.ints (some .i64) y.5), some (Entry.ints (some .i64) y.6), some (Entry.ints (some .i64) y.2), some (Entry.imap .i64 none y.3), some (Entry.cells [AVal.int .i64 t, AVal.int .i64 n, AVal.slice 13 (y.8 + 1) (y.9 - 1) 1]), some (Entry.ints (some .i64) y.7)] else K (AVal.bool false) [some (Entry.cells [AVal.ptr 1 0, AVal.bool sh, AVal.ptr 5 0, AVal.ptr 6 0, AVal.bool dn]), some (Entry.cells [AVal.int .i64 t, AVal.int .i64 n, AVal.int .i64 me, AVal.int .i64 sp, AVal.slice 4 0 (List.length R) 1]), some (Entry.cells [AVal.int .i64 s.1, AVal.int .i64 s.2, AVal.slice 3 0 (List.length (putI s.3 (lifeA n y.7 y.8) (WU (peek s.3 (lifeA n y.7 y.8) + 1)))) 1, AVal.int .i64 (s.4 + 1), AVal.int .i64 4, AVal.int .i64 (lifeA n y.7 y.8), AVal.int .u64 (peek s.3 (lifeA n y.7 y.8)), AVal.int .u64 (bif inB s.3 (lifeA n y.7 y.8) then WU (peek s.3 (lifeA n y.7 y.8) + 1) else 0), AVal.bool (inB s.3 (lifeA n y.7 y.8))]), some (Entry.ints (some .u64) (putI s.3 (lifeA n y.7 y.8) (WU (peek s.3 (lifeA n y.7 y.8) + 1)))), some (Entry.ints (some .i64) R), some (Entry.cells [AVal.int .i64 t, AVal.int .i64 n, AVal.int .i64 x.1, AVal.int .i64 x.2, AVal.int .i64 x.3, AVal.int .u64 x.4, AVal.bool x.5]), some (Entry.cells [AVal.ptr 1 0, AVal.ptr 7 0]), some (Entry.cells [AVal.int .i64 t, AVal.int .i64 n, AVal.slice 8 0 (List.length y.5) 1, AVal.slice 9 0 (List.length y.6) 1, AVal.slice 10 0 (List.length y.2) 1, AVal.map 11, AVal.int .i64 y.4, AVal.ptr 12 0]), some (Entry.ints (some .i64) y.5), some (Entry.ints (some .i64) y.6), some (Entry.ints (some .i64) y.2), some (Entry.imap .i64 none y.3), some (Entry.cells [AVal.int .i64 t, AVal.int .i64 n, AVal.slice 13 (y.8 + 1) (y.9 - 1) 1]), some (Entry.ints (some .i64) y.7)]) (by kernel_rfl) hK))
end Go.Sh

namespace Go.Sh
open Go Go.Proofs
variable [Con]
theorem en2 (t n : Int) (e : ENS) (st : STS) (s : MS) (K : AVal → Heap Ob → Prop) (hp : e.ph = 2) (ok : okE t n e st s) (hK : (enF t n e st s).left t n K) : CallOk (obI tbl) Tryz.prog 63 [.ptr 0 0, .ptr 2 0] (enH t n e st s) K := by
  obtain ⟨ht, hn, hc, hm, hR, ho⟩ := ok
  obtain ⟨ph, sh, dn, x, y⟩ := e
  dsimp only at hp
  subst hp
  obtain ⟨me, sp, R⟩ := st
  dsimp only at hm hR
  refine CallOk.pack tbl (CallOk.pack tbl ?_)
  refine CallOk.unpack tbl (.store t n ⟨me, sp, R⟩) 1 0 (stG t n ⟨me, sp, R⟩) [] rfl rfl rfl rfl ?_
  refine CallOk.unpack tbl (.ensure t n ⟨2, sh, dn, x, y⟩) 0 1 (enG t n ⟨2, sh, dn, x, y⟩) [1] rfl rfl rfl rfl ?_
  refine en2' t n me sp R sh dn x y s _ ?_
  exact ⟨⟨⟨rfl, rfl⟩, ht, hn, hc, hR⟩, shut2 (o := enF t n ⟨2, sh, dn, x, y⟩ ⟨me, sp, R⟩ s) [0, 1, 2, 3, 4, 5, 6, 7, 8, 9] hK rfl rfl⟩
theorem en3 (t n : Int) (e : ENS) (st : STS) (s : MS) (K : AVal → Heap Ob → Prop) (hp : e.ph = 3) (ok : okE t n e st s) (hK : (enF t n e st s).left t n K) : CallOk (obI tbl) Tryz.prog 63 [.ptr 0 0, .ptr 2 0] (enH t n e st s) K := by
  obtain ⟨ht, hn, hc, hm, hR, ho⟩ := ok
  obtain ⟨ph, sh, dn, x, y⟩ := e
  dsimp only at hp
  subst hp
  obtain ⟨me, sp, R⟩ := st
  dsimp only at hm hR
  refine CallOk.pack tbl (CallOk.pack tbl ?_)
  refine CallOk.unpack tbl (.store t n ⟨me, sp, R⟩) 1 0 (stG t n ⟨me, sp, R⟩) [] rfl rfl rfl rfl ?_
  refine CallOk.unpack tbl (.ensure t n ⟨3, sh, dn, x, y⟩) 0 1 (enG t n ⟨3, sh, dn, x, y⟩) [1] rfl rfl rfl rfl ?_
  refine en3' t n me sp R sh dn x y s _ ?_
  have ho : y.N.length ≤ 1000000 ∧ 0 ≤ y.i ∧ y.i < 2 * t := ho
  refine ⟨⟨⟨rfl, rfl, rfl, rfl, rfl⟩, ht, hn, hc, ho.1, ho.2⟩, ?_⟩
  unfold enF at hK
  dsimp only at hK
  cases h1 : ieq (y.i + 1) (2 * t) with
  | false =>
    rw [h1] at hK
    exact shut2 (o := ⟨false, ⟨3, sh, dn, x, { y with m := seenM y.m n y.i s, i := y.i + 1 }⟩, ⟨me, sp, R⟩, s.loadd (slotA n y.i)⟩) [0, 1, 2, 3, 4, 5, 6, 7, 8, 9] hK rfl rfl
  | true =>
    rw [h1] at hK
    cases h2 : ieq ((freedL (seenM y.m n y.i s) y.N).length : Int) 0 with
    | true =>
      rw [h2] at hK
      exact shut2 (o := ⟨true, ⟨0, true, true, x, y⟩, ⟨me, sp, keptL (seenM y.m n y.i s) y.N⟩, s.loadd (slotA n y.i)⟩) [0, 1, 2, 3, 10] hK rfl rfl
    | false =>
      rw [h2] at hK
      exact shut2 (o := ⟨false, ⟨4, sh, dn, x, ⟨0, y.N, seenM y.m n y.i s, y.i + 1, keptL (seenM y.m n y.i s) y.N, freedL (seenM y.m n y.i s) y.N, freedL (seenM y.m n y.i s) y.N, 0, (freedL (seenM y.m n y.i s) y.N).length⟩⟩, ⟨me, sp, R⟩, s.loadd (slotA n y.i)⟩) [0, 1, 2, 3, 4, 5, 6, 7, 10, 11, 8, 9, 12, 13] hK rfl rfl
theorem en4 (t n : Int) (e : ENS) (st : STS) (s : MS) (K : AVal → Heap Ob → Prop) (hp : e.ph = 4) (ok : okE t n e st s) (hK : (enF t n e st s).left t n K) : CallOk (obI tbl) Tryz.prog 63 [.ptr 0 0, .ptr 2 0] (enH t n e st s) K := by
  obtain ⟨ht, hn, hc, hm, hR, ho⟩ := ok
  obtain ⟨ph, sh, dn, x, y⟩ := e
  dsimp only at hp
  subst hp
  obtain ⟨me, sp, R⟩ := st
  dsimp only at hm hR
  refine CallOk.pack tbl (CallOk.pack tbl ?_)
  refine CallOk.unpack tbl (.store t n ⟨me, sp, R⟩) 1 0 (stG t n ⟨me, sp, R⟩) [] rfl rfl rfl rfl ?_
  refine CallOk.unpack tbl (.ensure t n ⟨4, sh, dn, x, y⟩) 0 1 (enG t n ⟨4, sh, dn, x, y⟩) [1] rfl rfl rfl rfl ?_
  refine en4' t n me sp R sh dn x y s _ ?_
  have ho : 2 * t ≤ y.i ∧ 1 ≤ y.l ∧ y.gs.length = y.j + y.l ∧ -1000000 ≤ List.getD y.gs (y.j + Int.toNat 0 * 1) 0 ∧ List.getD y.gs (y.j + Int.toNat 0 * 1) 0 ≤ 1000000 := ho
  refine ⟨⟨⟨rfl, rfl, rfl, rfl, rfl, rfl, rfl, rfl, rfl⟩, ht, hn, hc, ho.1, ⟨ho.2.1, ho.2.2.1⟩, ho.2.2.2⟩, ?_⟩
  unfold enF at hK
  dsimp only at hK
  cases h1 : ieq ((y.l - 1 : Nat) : Int) 0 with
  | false =>
    rw [h1] at hK
    exact shut2 (o := ⟨false, ⟨4, sh, dn, x, { y with j := y.j + 1, l := y.l - 1 }⟩, ⟨me, sp, R⟩, s.added (lifeA n y.gs y.j) 1⟩) [0, 1, 2, 3, 4, 5, 6, 7, 8, 9, 10, 11, 12, 13] hK rfl rfl
  | true =>
    rw [h1] at hK
    exact shut2 (o := ⟨ieq (y.fs.length : Int) 0, ⟨0, ieq (y.fs.length : Int) 0, true, x, y⟩, ⟨me, sp, y.ks⟩, s.added (lifeA n y.gs y.j) 1⟩) [0, 1, 2, 3, 8] hK rfl rfl
theorem en1 (t n : Int) (e : ENS) (st : STS) (s : MS) (K : AVal → Heap Ob → Prop) (hp : e.ph = 1) (ok : okE t n e st s) (hK : (enF t n e st s).left t n K) : CallOk (obI tbl) Tryz.prog 63 [.ptr 0 0, .ptr 2 0] (enH t n e st s) K := by
  obtain ⟨ht, hn, hc, hm, hR, ho⟩ := ok
  obtain ⟨ph, sh, dn, x, y⟩ := e
  dsimp only at hp
  subst hp
  obtain ⟨me, sp, R⟩ := st
  dsimp only at hm hR
  refine CallOk.pack tbl (CallOk.pack tbl ?_)
  refine CallOk.unpack tbl (.store t n ⟨me, sp, R⟩) 1 0 (stG t n ⟨me, sp, R⟩) [] rfl rfl rfl rfl ?_
  refine CallOk.unpack tbl (.ensure t n ⟨1, sh, dn, x, y⟩) 0 1 (enG t n ⟨1, sh, dn, x, y⟩) [1] rfl rfl rfl rfl ?_
  refine en1' t n me sp R sh dn x y s _ ?_
  have ho : okAl n x := ho
  obtain ⟨hg, ha, hl⟩ := ho
  refine ⟨⟨rfl, ht, hn, ha, hl, hc⟩, ?_⟩
  obtain ⟨got, at', left, found, free⟩ := x
  dsimp only at hg ha hl ⊢
  subst hg
  have i0 : ieq at' 0 = false := by rw [ieq_eq]; simp; omega
  have i00 : ieq 0 0 = true := rfl
  rw [i0, i00]
  unfold enF enTake enOn at hK
  dsimp only at hK
  cases free with
  | false =>
    dsimp only [cond] at hK ⊢
    cases ho : oddB (peek s.xs (n + 4 + at')) with
    | false =>
      rw [ho] at hK
      exact shut2 (o := ⟨false, ⟨1, sh, dn, ⟨0, at', left, peek s.xs (n + 4 + at'), true⟩, y⟩, ⟨me, sp, R⟩, s.loadd (n + 4 + at')⟩) [0, 1, 2, 3, 4, 5] hK rfl rfl
    | true =>
      rw [ho] at hK
      dsimp only [cond] at hK ⊢
      cases hw : ile (left - 1) 0 with
      | false =>
        rw [hw] at hK
        exact shut2 (o := ⟨false, ⟨1, sh, dn, ⟨0, nextN n at', left - 1, peek s.xs (n + 4 + at'), false⟩, y⟩, ⟨me, sp, R⟩, s.loadd (n + 4 + at')⟩) [0, 1, 2, 3, 4, 5] hK rfl rfl
      | true =>
        rw [hw] at hK
        cases dn with
        | true => exact shut2 (o := ⟨true, ⟨2, true, true, ⟨0, nextN n at', left - 1, peek s.xs (n + 4 + at'), false⟩, y⟩, ⟨me, 0, R⟩, s.loadd (n + 4 + at')⟩) [0, 1, 2, 3, 4, 5, 6] hK rfl rfl
        | false => exact shut2 (o := ⟨ieq (R.length : Int) 0, ⟨2, ieq (R.length : Int) 0, false, ⟨0, nextN n at', left - 1, peek s.xs (n + 4 + at'), false⟩, y⟩, ⟨me, 0, R⟩, s.loadd (n + 4 + at')⟩) [0, 1, 2, 3, 4, 5, 6] hK rfl rfl
  | true =>
    dsimp only [cond] at hK ⊢
    unfold MS.cased at hK
    cases hb : casB s.xs (n + 4 + at') found with
    | true =>
      rw [hb] at hK
      exact shut2 (o := ⟨true, ⟨1, sh, dn, ⟨at', at', left, found, true⟩, y⟩, ⟨me, at', R⟩, _⟩) [0, 1, 2, 3, 4, 5] hK rfl rfl
    | false =>
      rw [hb] at hK
      dsimp only [cond] at hK ⊢
      cases hw : ile (left - 1) 0 with
      | false =>
        rw [hw] at hK
        exact shut2 (o := ⟨false, ⟨1, sh, dn, ⟨0, nextN n at', left - 1, found, false⟩, y⟩, ⟨me, sp, R⟩, _⟩) [0, 1, 2, 3, 4, 5] hK rfl rfl
      | true =>
        rw [hw] at hK
        cases dn with
        | true => exact shut2 (o := ⟨true, ⟨2, true, true, ⟨0, nextN n at', left - 1, found, false⟩, y⟩, ⟨me, 0, R⟩, _⟩) [0, 1, 2, 3, 4, 5, 6] hK rfl rfl
        | false => exact shut2 (o := ⟨ieq (R.length : Int) 0, ⟨2, ieq (R.length : Int) 0, false, ⟨0, nextN n at', left - 1, found, false⟩, y⟩, ⟨me, 0, R⟩, _⟩) [0, 1, 2, 3, 4, 5, 6] hK rfl rfl
theorem en0 (t n : Int) (e : ENS) (st : STS) (s : MS) (K : AVal → Heap Ob → Prop) (hp : e.ph = 0) (ok : okE t n e st s) (hK : (enF t n e st s).left t n K) : CallOk (obI tbl) Tryz.prog 63 [.ptr 0 0, .ptr 2 0] (enH t n e st s) K := by
  obtain ⟨ht, hn, hc, hm, hR, ho⟩ := ok
  obtain ⟨ph, sh, dn, x, y⟩ := e
  dsimp only at hp
  subst hp
  obtain ⟨me, sp, R⟩ := st
  dsimp only at hm hR
  refine CallOk.pack tbl (CallOk.pack tbl ?_)
  refine CallOk.unpack tbl (.store t n ⟨me, sp, R⟩) 1 0 (stG t n ⟨me, sp, R⟩) [] rfl rfl rfl rfl ?_
  refine CallOk.unpack tbl (.ensure t n ⟨0, sh, dn, x, y⟩) 0 1 (enG t n ⟨0, sh, dn, x, y⟩) [1] rfl rfl rfl rfl ?_
  refine en0' t n me sp R sh dn x y s _ ?_
  unfold enF enTake enOn at hK
  dsimp only at hK
  cases hz : ieq sp 0 with
  | false =>
    rw [hz] at hK
    exact ⟨⟨rfl, by omega⟩, shut2 (o := ⟨true, ⟨0, sh, dn, x, y⟩, ⟨me, sp, R⟩, s.loadd 0⟩) [0, 1, 2, 3, 4] hK rfl rfl⟩
  | true =>
    rw [hz] at hK
    have ha : 1 ≤ at0 t n me ∧ at0 t n me ≤ n := by
      unfold at0 nodeB
      cases h1 : (ile 1 (firstV t n me)) <;> cases h2 : ile (firstV t n me) n <;> simp only [Bool.and_true, Bool.and_false, Bool.and_self, cond_true, cond_false] <;> rw [ile_eq] at h1 h2 <;> simp at h1 h2 <;> omega
    refine ⟨⟨by omega, by omega⟩, ⟨trivial, trivial⟩, ⟨rfl, ht, hn, ha, by omega, hc⟩, ?_⟩
    show cond (oddB (peek s.xs (n + 4 + at0 t n me))) _ _
    cases ho : oddB (peek s.xs (n + 4 + at0 t n me)) with
    | false =>
      rw [ho] at hK
      exact shut2 (o := ⟨false, ⟨1, sh, dn, ⟨0, at0 t n me, n, peek s.xs (n + 4 + at0 t n me), true⟩, y⟩, ⟨me, sp, R⟩, s.loadd (n + 4 + at0 t n me)⟩) [0, 1, 2, 3, 4, 5] hK rfl rfl
    | true =>
      rw [ho] at hK
      dsimp only [cond] at hK ⊢
      cases hw : ile (n - 1) 0 with
      | false =>
        rw [hw] at hK
        exact shut2 (o := ⟨false, ⟨1, sh, dn, ⟨0, nextN n (at0 t n me), n - 1, peek s.xs (n + 4 + at0 t n me), false⟩, y⟩, ⟨me, sp, R⟩, s.loadd (n + 4 + at0 t n me)⟩) [0, 1, 2, 3, 4, 5] hK rfl rfl
      | true =>
        rw [hw] at hK
        cases dn with
        | true => exact shut2 (o := ⟨true, ⟨2, true, true, ⟨0, nextN n (at0 t n me), n - 1, peek s.xs (n + 4 + at0 t n me), false⟩, y⟩, ⟨me, 0, R⟩, s.loadd (n + 4 + at0 t n me)⟩) [0, 1, 2, 3, 4, 5, 6] hK rfl rfl
        | false => exact shut2 (o := ⟨ieq (R.length : Int) 0, ⟨2, ieq (R.length : Int) 0, false, ⟨0, nextN n (at0 t n me), n - 1, peek s.xs (n + 4 + at0 t n me), false⟩, y⟩, ⟨me, 0, R⟩, s.loadd (n + 4 + at0 t n me)⟩) [0, 1, 2, 3, 4, 5, 6] hK rfl rfl
theorem en_step (t n : Int) (e : ENS) (st : STS) (s : MS) (K : AVal → Heap Ob → Prop) (ok : okE t n e st s) (hK : (enF t n e st s).left t n K) : CallOk (obI tbl) Tryz.prog 63 [.ptr 0 0, .ptr 2 0] (enH t n e st s) K := by
  match h : e.ph with
  | 0 => exact en0 t n e st s K h ok hK
  | 1 => exact en1 t n e st s K h ok hK
  | 2 => exact en2 t n e st s K h ok hK
  | 3 => exact en3 t n e st s K h ok hK
  | 4 => exact en4 t n e st s K h ok hK
  | k + 5 => have := ok.ho; unfold okEn at this; rw [h] at this; exact this.elim
noncomputable def enS : Spec Ob := fun args h => match args, h with
  | [.ptr 0 0, .ptr 2 0], [some (.abs (.ensure t n e) [1]), some (.abs (.store t' n' st) []), e1, e2] => (match memL 3 [e1, e2] with
    | some (l, s) => some (.pre ((l = s.xs.length ∧ t' = t ∧ n' = n) ∧ okE t n e st s) (.ret (.bool (enF t n e st s).d) (enH t n (enF t n e st s).e (enF t n e st s).st (enF t n e st s).s)))
    | none => none)
  | _, _ => none
theorem en_ok : Spec.ok E42.I Tryz.prog 63 enS := by
  intro args h o ho K hK
  unfold enS at ho
  split at ho
  case h_2 => cases ho
  split at ho
  case h_2 => cases ho
  rename_i hm
  simp only [Option.some.injEq] at ho; subst ho
  obtain ⟨⟨⟨hl, ht', hn'⟩, ok⟩, hK⟩ := hK
  have hh := memL_eq hm hl
  simp only [List.cons.injEq, and_true] at hh
  obtain ⟨rfl, rfl⟩ := hh
  subst ht' hn'
  exact en_step _ _ _ _ _ K ok hK
noncomputable def enE := E42.addS 63 enS en_ok
end Go.Sh

namespace Go.Sh
open Go Go.Proofs
variable [Con]
structure SO where
  d : Bool
  e : SWS
  st : STS
  s : MS
instance : Inhabited SO := ⟨⟨false, ⟨0, [], [], 0, [], [], [], 0, 0⟩, ⟨0, 0, []⟩, ⟨0, 0, [], 0, 0, 0, 0, 0, false⟩⟩⟩
def swF (t n : Int) (y : SWS) (st : STS) (s : MS) : SO := match y.ph with
  | 0 => ⟨false, { y with ph := 1, N := st.R, m := seenM [] n 0 s, i := 1 }, st, s.loadd (slotA n 0)⟩
  | 1 => (match ieq (y.i + 1) (2 * t), ieq ((freedL (seenM y.m n y.i s) y.N).length : Int) 0 with
    | true, true => ⟨true, { y with ph := 3 }, { st with R := keptL (seenM y.m n y.i s) y.N }, s.loadd (slotA n y.i)⟩
    | true, false => ⟨false, ⟨2, y.N, seenM y.m n y.i s, y.i + 1, keptL (seenM y.m n y.i s) y.N, freedL (seenM y.m n y.i s) y.N, freedL (seenM y.m n y.i s) y.N, 0, (freedL (seenM y.m n y.i s) y.N).length⟩, st, s.loadd (slotA n y.i)⟩
    | false, _ => ⟨false, { y with m := seenM y.m n y.i s, i := y.i + 1 }, st, s.loadd (slotA n y.i)⟩)
  | _ => (match ieq ((y.l - 1 : Nat) : Int) 0 with
    | true => ⟨true, { y with ph := 3 }, { st with R := y.ks }, s.added (lifeA n y.gs y.j) 1⟩
    | false => ⟨false, { y with j := y.j + 1, l := y.l - 1 }, st, s.added (lifeA n y.gs y.j) 1⟩)
def okSwP (t n : Int) (y : SWS) : Prop := match y.ph with
  | 0 => True
  | 1 => y.N.length ≤ 1000000 ∧ 0 ≤ y.i ∧ y.i < 2 * t
  | 2 => 2 * t ≤ y.i ∧ 1 ≤ y.l ∧ y.gs.length = y.j + y.l ∧ -1000000 ≤ List.getD y.gs (y.j + Int.toNat 0 * 1) 0 ∧ List.getD y.gs (y.j + Int.toNat 0 * 1) 0 ≤ 1000000
  | _ => False
structure okSwp (t n : Int) (y : SWS) (st : STS) (s : MS) : Prop where
  ht : 1 ≤ t ∧ t ≤ 1000
  hn : 1 ≤ n ∧ n ≤ 1000
  hc : 0 ≤ s.c ∧ s.c ≤ 1000000
  hR : st.R.length ≤ 1000000
  ho : okSwP t n y
def swH (t n : Int) (y : SWS) (st : STS) (s : MS) : Heap Ob := [some (.abs (.sweep t n y) [1]), some (.abs (.store t n st) []), memC 3 s, memX s]
def SO.left (o : SO) (t n : Int) (K : AVal → Heap Ob → Prop) : Prop := K (.bool o.d) (swH t n o.e o.st o.s)
theorem shutS {K : AVal → Heap Ob → Prop} {t n : Int} {o : SO} {g' : Heap Ob} (pl : List Nat) (hK : o.left t n K)
    (hb : (goodPl pl g'.length && keeps pl 0 4 && obOk 1 (swG t n o.e)) = true)
    (hT : trimH pl g' = unpackH [some (.abs (.sweep t n o.e) [1]), some (.cells [.int .i64 t, .int .i64 n, .int .i64 o.st.me, .int .i64 o.st.sp, .slice 4 0 o.st.R.length 1]), memC 3 o.s, memX o.s, some (.ints (some .i64) o.st.R)] 0 1 (swG t n o.e) [1]) : PackK tbl 4 (PackK tbl 4 K) (.bool o.d) g' := by
  simp only [Bool.and_eq_true] at hb
  obtain ⟨⟨b1, b2⟩, b3⟩ := hb
  refine ⟨pl, _, .sweep t n o.e, 0, 1, _, [1], ?_, hT, rfl, rfl, ⟨[0, 1, 2, 3, 4], [some (.abs (.sweep t n o.e) [1]), some (.abs (.store t n o.st) []), memC 3 o.s, memX o.s], .store t n o.st, 1, 0, stG t n o.st, [], rfl, rfl, rfl, rfl, ?_⟩⟩
  · rw [b1, b2, b3]; rfl
  · exact hK
def sw0VC (t n me sp : Int) (R : List Int) (y : SWS) (s : MS) (K : AVal → Heap Ob → Prop) : Prop := ((List.length s.3 = List.length s.3 ∧ List.length R = List.length R) ∧ ((1 : Int) ≤ t ∧ t ≤ (1000 : Int)) ∧ ((1 : Int) ≤ n ∧ n ≤ (1000 : Int)) ∧ ((0 : Int) ≤ s.4 ∧ s.4 ≤ (1000000 : Int)) ∧ List.length R ≤ (1000000 : Nat)) ∧ K (AVal.bool false) [some (Entry.cells [AVal.ptr 1 0, AVal.ptr 5 0]), some (Entry.cells [AVal.int .i64 t, AVal.int .i64 n, AVal.int .i64 me, AVal.int .i64 sp, AVal.slice 4 0 (List.length R) 1]), some (Entry.cells [AVal.int .i64 s.1, AVal.int .i64 s.2, AVal.slice 3 0 (List.length s.3) 1, AVal.int .i64 (s.4 + 1), AVal.int .i64 1, AVal.int .i64 (slotA n 0), AVal.int .u64 (peek s.3 (slotA n 0)), AVal.int .u64 (peek s.3 (slotA n 0)), AVal.bool (inB s.3 (slotA n 0))]), some (Entry.ints (some .u64) s.3), some (Entry.ints (some .i64) R), some (Entry.cells [AVal.int .i64 t, AVal.int .i64 n, AVal.raw (Value.slice none 0 0), AVal.raw (Value.slice none 0 0), AVal.slice 6 0 (List.length R) 1, AVal.map 7, AVal.int .i64 1, AVal.raw (Value.pointer none)]), some (Entry.ints (some .i64) R), some (Entry.imap .i64 none (seenM [] n 0 s))]
theorem sw0' (t n me sp : Int) (R : List Int) (y : SWS) (s : MS) (K : AVal → Heap Ob → Prop) (hK : sw0VC t n me sp R y s K) : CallOk (obI tbl) Tryz.prog 100 [.ptr 0 0, .ptr 2 0] [some (.cells [.ptr 1 0, .raw (.pointer none)]), some (.cells [.int .i64 t, .int .i64 n, .int .i64 me, .int .i64 sp, .slice 4 0 R.length 1]), memC 3 s, memX s, some (.ints (some .i64) R)] K :=
  (canonC_ok swStep_ok) _ _ _ (Ev.get (of_nf (p := canonC swStepS [.ptr 0 0, .ptr 2 0] [some (.cells [.ptr 1 0, .raw (.pointer none)]), some (.cells [.int .i64 t, .int .i64 n, .int .i64 me, .int .i64 sp, .slice 4 0 R.length 1]), memC 3 s, memX s, some (.ints (some .i64) R)] K) (q := sw0VC t n me sp R y s K) (by kernel_rfl) hK))
def sw1VC (t n me sp : Int) (R : List Int) (y : SWS) (s : MS) (K : AVal → Heap Ob → Prop) : Prop := ((List.length s.3 = List.length s.3 ∧ List.length R = List.length R ∧ List.length y.2 = List.length y.2 ∧ t = t ∧ n = n) ∧ ((1 : Int) ≤ t ∧ t ≤ (1000 : Int)) ∧ ((1 : Int) ≤ n ∧ n ≤ (1000 : Int)) ∧ ((0 : Int) ≤ s.4 ∧ s.4 ≤ (1000000 : Int)) ∧ List.length y.2 ≤ (1000000 : Nat) ∧ (0 : Int) ≤ y.4 ∧ y.4 < (2 : Int) * t) ∧ bif ieq (y.4 + 1) (2 * t) then bif ieq (↑(List.length (freedL (seenM y.3 n y.4 s) y.2)) : Int) 0 then K (AVal.bool true) [some (Entry.cells [AVal.ptr 1 0, AVal.ptr 5 0]), some (Entry.cells [AVal.int .i64 t, AVal.int .i64 n, AVal.int .i64 me, AVal.int .i64 sp, AVal.slice 8 0 (List.length (keptL (seenM y.3 n y.4 s) y.2)) 1]), some (Entry.cells [AVal.int .i64 s.1, AVal.int .i64 s.2, AVal.slice 3 0 (List.length s.3) 1, AVal.int .i64 (s.4 + 1), AVal.int .i64 1, AVal.int .i64 (slotA n y.4), AVal.int .u64 (peek s.3 (slotA n y.4)), AVal.int .u64 (peek s.3 (slotA n y.4)), AVal.bool (inB s.3 (slotA n y.4))]), some (Entry.ints (some .u64) s.3), some (Entry.ints (some .i64) R), some (Entry.cells [AVal.int .i64 t, AVal.int .i64 n, AVal.slice 8 0 (List.length (keptL (seenM y.3 n y.4 s) y.2)) 1, AVal.slice 9 0 (List.length (freedL (seenM y.3 n y.4 s) y.2)) 1, AVal.slice 6 0 (List.length y.2) 1, AVal.map 7, AVal.int .i64 (y.4 + 1), AVal.ptr 10 0]), some (Entry.ints (some .i64) y.2), some (Entry.imap .i64 none (seenM y.3 n y.4 s)), some (Entry.ints (some .i64) (keptL (seenM y.3 n y.4 s) y.2)), some (Entry.ints (some .i64) (freedL (seenM y.3 n y.4 s) y.2)), some (Entry.cells [AVal.int .i64 t, AVal.int .i64 n, AVal.slice 11 0 (List.length (freedL (seenM y.3 n y.4 s) y.2)) 1]), some (Entry.ints (some .i64) (freedL (seenM y.3 n y.4 s) y.2))] else K (AVal.bool false) [some (Entry.cells [AVal.ptr 1 0, AVal.ptr 5 0]), some (Entry.cells [AVal.int .i64 t, AVal.int .i64 n, AVal.int .i64 me, AVal.int .i64 sp, AVal.slice 4 0 (List.length R) 1]), some (Entry.cells [AVal.int .i64 s.1, AVal.int .i64 s.2, AVal.slice 3 0 (List.length s.3) 1, AVal.int .i64 (s.4 + 1), AVal.int .i64 1, AVal.int .i64 (slotA n y.4), AVal.int .u64 (peek s.3 (slotA n y.4)), AVal.int .u64 (peek s.3 (slotA n y.4)), AVal.bool (inB s.3 (slotA n y.4))]), some (Entry.ints (some .u64) s.3), some (Entry.ints (some .i64) R), some (Entry.cells [AVal.int .i64 t, AVal.int .i64 n, AVal.slice 8 0 (List.length (keptL (seenM y.3 n y.4 s) y.2)) 1, AVal.slice 9 0 (List.length (freedL (seenM y.3 n y.4 s) y.2)) 1, AVal.slice 6 0 (List.length y.2) 1, AVal.map 7, AVal.int .i64 (y.4 + 1), AVal.ptr 10 0]), some (Entry.ints (some .i64) y.2), some (Entry.imap .i64 none (seenM y.3 n y.4 s)), some (Entry.ints (some .i64) (keptL (seenM y.3 n y.4 s) y.2)), some (Entry.ints (some .i64) (freedL (seenM y.3 n y.4 s) y.2)), some (Entry.cells [AVal.int .i64 t, AVal.int .i64 n, AVal.slice 11 0 (List.length (freedL (seenM y.3 n y.4 s) y.2)) 1]), some (Entry.ints (some .i64) (freedL (seenM y.3 n y.4 s) y.2))] else K (AVal.bool false) [some (Entry.cells [AVal.ptr 1 0, AVal.ptr 5 0]), some (Entry.cells [AVal.int .i64 t, AVal.int .i64 n, AVal.int .i64 me, AVal.int .i64 sp, AVal.slice 4 0 (List.length R) 1]), some (Entry.cells [AVal.int .i64 s.1, AVal.int .i64 s.2, AVal.slice 3 0 (List.length s.3) 1, AVal.int .i64 (s.4 + 1), AVal.int .i64 1, AVal.int .i64 (slotA n y.4), AVal.int .u64 (peek s.3 (slotA n y.4)), AVal.int .u64 (peek s.3 (slotA n y.4)), AVal.bool (inB s.3 (slotA n y.4))]), some (Entry.ints (some .u64) s.3), some (Entry.ints (some .i64) R), some (Entry.cells [AVal.int .i64 t, AVal.int .i64 n, AVal.raw (Value.slice none 0 0), AVal.raw (Value.slice none 0 0), AVal.slice 6 0 (List.length y.2) 1, AVal.map 7, AVal.int .i64 (y.4 + 1), AVal.raw (Value.pointer none)]), some (Entry.ints (some .i64) y.2), some (Entry.imap .i64 none (seenM y.3 n y.4 s))]
theorem sw1' (t n me sp : Int) (R : List Int) (y : SWS) (s : MS) (K : AVal → Heap Ob → Prop) (hK : sw1VC t n me sp R y s K) : CallOk (obI tbl) Tryz.prog 100 [.ptr 0 0, .ptr 2 0] [some (.cells [.ptr 1 0, .ptr 5 0]), some (.cells [.int .i64 t, .int .i64 n, .int .i64 me, .int .i64 sp, .slice 4 0 R.length 1]), memC 3 s, memX s, some (.ints (some .i64) R), some (.cells [.int .i64 t, .int .i64 n, .raw (.slice none 0 0), .raw (.slice none 0 0), .slice 6 0 y.N.length 1, .map 7, .int .i64 y.i, .raw (.pointer none)]), some (.ints (some .i64) y.N), some (.imap .i64 none y.m)] K :=
  (canonC_ok swStep_ok) _ _ _ (Ev.get (of_nf (p := canonC swStepS [.ptr 0 0, .ptr 2 0] [some (.cells [.ptr 1 0, .ptr 5 0]), some (.cells [.int .i64 t, .int .i64 n, .int .i64 me, .int .i64 sp, .slice 4 0 R.length 1]), memC 3 s, memX s, some (.ints (some .i64) R), some (.cells [.int .i64 t, .int .i64 n, .raw (.slice none 0 0), .raw (.slice none 0 0), .slice 6 0 y.N.length 1, .map 7, .int .i64 y.i, .raw (.pointer none)]), some (.ints (some .i64) y.N), some (.imap .i64 none y.m)] K) (q := sw1VC t n me sp R y s K) (by kernel_rfl) hK))
def sw2VC (t n me sp : Int) (R : List Int) (y : SWS) (s : MS) (K : AVal → Heap Ob → Prop) : Prop := ((List.length s.3 = List.length s.3 ∧ List.length R = List.length R ∧ List.length y.5 = List.length y.5 ∧ List.length y.6 = List.length y.6 ∧ List.length y.2 = List.length y.2 ∧ t = t ∧ n = n ∧ t = t ∧ n = n) ∧ ((1 : Int) ≤ t ∧ t ≤ (1000 : Int)) ∧ ((1 : Int) ≤ n ∧ n ≤ (1000 : Int)) ∧ ((0 : Int) ≤ s.4 ∧ s.4 ≤ (1000000 : Int)) ∧ 2 * t ≤ y.4 ∧ ((1 : Nat) ≤ y.9 ∧ List.length y.7 = y.8 + y.9) ∧ (-1000000 : Int) ≤ List.getD y.7 (y.8 + Int.toNat 0 * 1) 0 ∧ List.getD y.7 (y.8 + Int.toNat 0 * 1) (0 : Int) ≤ (1000000 : Int)) ∧ bif ieq (↑(y.9 - 1) : Int) 0 then K (AVal.bool true) [some (Entry.cells [AVal.ptr 1 0, AVal.ptr 5 0]), some (Entry.cells [AVal.int .i64 t, AVal.int .i64 n, AVal.int .i64 me, AVal.int .i64 sp, AVal.slice 6 0 (List.length y.5) 1]), some (Entry.cells [AVal.int .i64 s.1, AVal.int .i64 s.2, AVal.slice 3 0 (List.length (putI s.3 (lifeA n y.7 y.8) (WU (peek s.3 (lifeA n y.7 y.8) + 1)))) 1, AVal.int .i64 (s.4 + 1), AVal.int .i64 4, AVal.int .i64 (lifeA n y.7 y.8), AVal.int .u64 (peek s.3 (lifeA n y.7 y.8)), AVal.int .u64 (bif inB s.3 (lifeA n y.7 y.8) then WU (peek s.3 (lifeA n y.7 y.8) + 1) else 0), AVal.bool (inB s.3 (lifeA n y.7 y.8))]), some (Entry.ints (some .u64) (putI s.3 (lifeA n y.7 y.8) (WU (peek s.3 (lifeA n y.7 y.8) + 1)))), some (Entry.ints (some .i64) R), some (Entry.cells [AVal.int .i64 t, AVal.int .i64 n, AVal.slice 6 0 (List.length y.5) 1, AVal.slice 7 0 (List.length y.6) 1, AVal.slice 8 0 (List.length y.2) 1, AVal.map 9, AVal.int .i64 y.4, AVal.ptr 10 0]), some (Entry.ints (some .i64) y.5), some (Entry.ints (some .i64) y.6), some (Entry.ints (some .i64) y.2), some (Entry.imap .i64 none y.3), some (Entry.cells [AVal.int .i64 t, AVal.int .i64 n, AVal.slice 11 (y.8 + 1) (y.9 - 1) 1]), some (Entry.ints (some .i64) y.7)] else K (AVal.bool false) [some (Entry.cells [AVal.ptr 1 0, AVal.ptr 5 0]), some (Entry.cells [AVal.int .i64 t, AVal.int .i64 n, AVal.int .i64 me, AVal.int .i64 sp, AVal.slice 4 0 (List.length R) 1]), some (Entry.cells [AVal.int .i64 s.1, AVal.int .i64 s.2, AVal.slice 3 0 (List.length (putI s.3 (lifeA n y.7 y.8) (WU (peek s.3 (lifeA n y.7 y.8) + 1)))) 1, AVal.int .i64 (s.4 + 1), AVal.int .i64 4, AVal.int .i64 (lifeA n y.7 y.8), AVal.int .u64 (peek s.3 (lifeA n y.7 y.8)), AVal.int .u64 (bif inB s.3 (lifeA n y.7 y.8) then WU (peek s.3 (lifeA n y.7 y.8) + 1) else 0), AVal.bool (inB s.3 (lifeA n y.7 y.8))]), some (Entry.ints (some .u64) (putI s.3 (lifeA n y.7 y.8) (WU (peek s.3 (lifeA n y.7 y.8) + 1)))), some (Entry.ints (some .i64) R), some (Entry.cells [AVal.int .i64 t, AVal.int .i64 n, AVal.slice 6 0 (List.length y.5) 1, AVal.slice 7 0 (List.length y.6) 1, AVal.slice 8 0 (List.length y.2) 1, AVal.map 9, AVal.int .i64 y.4, AVal.ptr 10 0]), some (Entry.ints (some .i64) y.5), some (Entry.ints (some .i64) y.6), some (Entry.ints (some .i64) y.2), some (Entry.imap .i64 none y.3), some (Entry.cells [AVal.int .i64 t, AVal.int .i64 n, AVal.slice 11 (y.8 + 1) (y.9 - 1) 1]), some (Entry.ints (some .i64) y.7)]
theorem sw2' (t n me sp : Int) (R : List Int) (y : SWS) (s : MS) (K : AVal → Heap Ob → Prop) (hK : sw2VC t n me sp R y s K) : CallOk (obI tbl) Tryz.prog 100 [.ptr 0 0, .ptr 2 0] [some (.cells [.ptr 1 0, .ptr 5 0]), some (.cells [.int .i64 t, .int .i64 n, .int .i64 me, .int .i64 sp, .slice 4 0 R.length 1]), memC 3 s, memX s, some (.ints (some .i64) R), some (.cells [.int .i64 t, .int .i64 n, .slice 6 0 y.ks.length 1, .slice 7 0 y.fs.length 1, .slice 8 0 y.N.length 1, .map 9, .int .i64 y.i, .ptr 10 0]), some (.ints (some .i64) y.ks), some (.ints (some .i64) y.fs), some (.ints (some .i64) y.N), some (.imap .i64 none y.m), some (.cells [.int .i64 t, .int .i64 n, .slice 11 y.j y.l 1]), some (.ints (some .i64) y.gs)] K :=
  (canonC_ok swStep_ok) _ _ _ (Ev.get (of_nf (p := canonC swStepS [.ptr 0 0, .ptr 2 0] [some (.cells [.ptr 1 0, .ptr 5 0]), some (.cells [.int .i64 t, .int .i64 n, .int .i64 me, .int .i64 sp, .slice 4 0 R.length 1]), memC 3 s, memX s, some (.ints (some .i64) R), some (.cells [.int .i64 t, .int .i64 n, .slice 6 0 y.ks.length 1, .slice 7 0 y.fs.length 1, .slice 8 0 y.N.length 1, .map 9, .int .i64 y.i, .ptr 10 0]), some (.ints (some .i64) y.ks), some (.ints (some .i64) y.fs), some (.ints (some .i64) y.N), some (.imap .i64 none y.m), some (.cells [.int .i64 t, .int .i64 n, .slice 11 y.j y.l 1]), some (.ints (some .i64) y.gs)] K) (q := sw2VC t n me sp R y s K) (by kernel_rfl) hK))
end Go.Sh

namespace Go.Sh
open Go Go.Proofs
variable [Con]
theorem wc {x y : Option (Entry Ob)} {g g2 : Heap Ob} (h : weakE x y) (k : weakH g g2) : weakH (x :: g) (y :: g2) := ⟨h, k⟩
theorem wv {v w : AVal} {vs ws : List AVal} (h : w = v ∨ w = .top) (k : weakV vs ws) : weakV (v :: vs) (w :: ws) := ⟨h, k⟩
theorem vend : weakV [] [] := trivial
theorem wcell {vs ws : List AVal} (h : weakV vs ws) : weakE (some (.cells vs) : Option (Entry Ob)) (some (.cells ws)) := h
theorem wvs : ∀ vs : List AVal, weakV vs vs
  | [] => trivial
  | v :: vs => ⟨.inl rfl, wvs vs⟩
theorem wsame : ∀ x : Option (Entry Ob), weakE x x
  | none => trivial
  | some (.cells vs) => wvs vs
  | some (.ints c xs) => rfl
  | some (.abs t ps) => rfl
  | some (.tab ks r) => rfl
  | some (.imap k v m) => rfl
theorem wsames : ∀ g : Heap Ob, weakH g g
  | [] => trivial
  | x :: g => ⟨wsame x, wsames g⟩
theorem less_id {K : AVal → Heap Ob → Prop} {v : AVal} {g : Heap Ob} (h : K v g) : LessK K v g := ⟨g, wsames g, h⟩
theorem less_top {K : AVal → Heap Ob → Prop} {v a b : AVal} {g : Heap Ob} (h : K v (some (.cells [a, .top]) :: g)) : LessK K v (some (.cells [a, b]) :: g) := ⟨_, wc (wcell (wv (.inl rfl) (wv (.inr rfl) vend))) (wsames g), h⟩
theorem sw0 (t n : Int) (y : SWS) (st : STS) (s : MS) (K : AVal → Heap Ob → Prop) (hp : y.ph = 0) (ok : okSwp t n y st s) (hK : (swF t n y st s).left t n K) : CallOk (obI tbl) Tryz.prog 100 [.ptr 0 0, .ptr 2 0] (swH t n y st s) K := by
  obtain ⟨ht, hn, hc, hR, ho⟩ := ok
  obtain ⟨ph, N, m, i, ks, fs, gs, j, l⟩ := y
  dsimp only at hp
  subst hp
  obtain ⟨me, sp, R⟩ := st
  dsimp only at hR
  refine CallOk.pack tbl (CallOk.pack tbl (CallOk.less ?_))
  refine CallOk.unpack tbl (.store t n ⟨me, sp, R⟩) 1 0 (stG t n ⟨me, sp, R⟩) [] rfl rfl rfl rfl ?_
  refine CallOk.unpack tbl (.sweep t n ⟨0, N, m, i, ks, fs, gs, j, l⟩) 0 1 (swG t n ⟨0, N, m, i, ks, fs, gs, j, l⟩) [1] rfl rfl rfl rfl ?_
  refine sw0' t n me sp R ⟨0, N, m, i, ks, fs, gs, j, l⟩ s _ ?_
  unfold sw0VC
  exact ⟨⟨⟨rfl, rfl⟩, ht, hn, hc, hR⟩, less_id (shutS (o := swF t n ⟨0, N, m, i, ks, fs, gs, j, l⟩ ⟨me, sp, R⟩ s) [0, 1, 2, 3, 4, 5, 6, 7] hK rfl rfl)⟩
theorem sw1 (t n : Int) (y : SWS) (st : STS) (s : MS) (K : AVal → Heap Ob → Prop) (hp : y.ph = 1) (ok : okSwp t n y st s) (hK : (swF t n y st s).left t n K) : CallOk (obI tbl) Tryz.prog 100 [.ptr 0 0, .ptr 2 0] (swH t n y st s) K := by
  obtain ⟨ht, hn, hc, hR, ho⟩ := ok
  obtain ⟨ph, N, m, i, ks, fs, gs, j, l⟩ := y
  dsimp only at hp
  subst hp
  obtain ⟨me, sp, R⟩ := st
  dsimp only at hR
  refine CallOk.pack tbl (CallOk.pack tbl (CallOk.less ?_))
  refine CallOk.unpack tbl (.store t n ⟨me, sp, R⟩) 1 0 (stG t n ⟨me, sp, R⟩) [] rfl rfl rfl rfl ?_
  refine CallOk.unpack tbl (.sweep t n ⟨1, N, m, i, ks, fs, gs, j, l⟩) 0 1 (swG t n ⟨1, N, m, i, ks, fs, gs, j, l⟩) [1] rfl rfl rfl rfl ?_
  refine sw1' t n me sp R ⟨1, N, m, i, ks, fs, gs, j, l⟩ s _ ?_
  unfold sw1VC
  have ho : N.length ≤ 1000000 ∧ 0 ≤ i ∧ i < 2 * t := ho
  refine ⟨⟨⟨rfl, rfl, rfl, rfl, rfl⟩, ht, hn, hc, ho.1, ho.2⟩, ?_⟩
  unfold swF at hK
  dsimp only at hK ⊢
  cases h1 : ieq (i + 1) (2 * t) with
  | false =>
    rw [h1] at hK
    exact less_id (shutS (o := ⟨false, ⟨1, N, seenM m n i s, i + 1, ks, fs, gs, j, l⟩, ⟨me, sp, R⟩, s.loadd (slotA n i)⟩) [0, 1, 2, 3, 4, 5, 6, 7] hK rfl rfl)
  | true =>
    rw [h1] at hK
    cases h2 : ieq ((freedL (seenM m n i s) N).length : Int) 0 with
    | true =>
      rw [h2] at hK
      exact less_top (shutS (o := ⟨true, ⟨3, N, m, i, ks, fs, gs, j, l⟩, ⟨me, sp, keptL (seenM m n i s) N⟩, s.loadd (slotA n i)⟩) [0, 1, 2, 3, 8] hK rfl rfl)
    | false =>
      rw [h2] at hK
      exact less_id (shutS (o := ⟨false, ⟨2, N, seenM m n i s, i + 1, keptL (seenM m n i s) N, freedL (seenM m n i s) N, freedL (seenM m n i s) N, 0, (freedL (seenM m n i s) N).length⟩, ⟨me, sp, R⟩, s.loadd (slotA n i)⟩) [0, 1, 2, 3, 4, 5, 8, 9, 6, 7, 10, 11] hK rfl rfl)
theorem sw2 (t n : Int) (y : SWS) (st : STS) (s : MS) (K : AVal → Heap Ob → Prop) (hp : y.ph = 2) (ok : okSwp t n y st s) (hK : (swF t n y st s).left t n K) : CallOk (obI tbl) Tryz.prog 100 [.ptr 0 0, .ptr 2 0] (swH t n y st s) K := by
  obtain ⟨ht, hn, hc, hR, ho⟩ := ok
  obtain ⟨ph, N, m, i, ks, fs, gs, j, l⟩ := y
  dsimp only at hp
  subst hp
  obtain ⟨me, sp, R⟩ := st
  dsimp only at hR
  refine CallOk.pack tbl (CallOk.pack tbl (CallOk.less ?_))
  refine CallOk.unpack tbl (.store t n ⟨me, sp, R⟩) 1 0 (stG t n ⟨me, sp, R⟩) [] rfl rfl rfl rfl ?_
  refine CallOk.unpack tbl (.sweep t n ⟨2, N, m, i, ks, fs, gs, j, l⟩) 0 1 (swG t n ⟨2, N, m, i, ks, fs, gs, j, l⟩) [1] rfl rfl rfl rfl ?_
  refine sw2' t n me sp R ⟨2, N, m, i, ks, fs, gs, j, l⟩ s _ ?_
  unfold sw2VC
  have ho : 2 * t ≤ i ∧ 1 ≤ l ∧ gs.length = j + l ∧ -1000000 ≤ List.getD gs (j + Int.toNat 0 * 1) 0 ∧ List.getD gs (j + Int.toNat 0 * 1) 0 ≤ 1000000 := ho
  refine ⟨⟨⟨rfl, rfl, rfl, rfl, rfl, rfl, rfl, rfl, rfl⟩, ht, hn, hc, ho.1, ⟨ho.2.1, ho.2.2.1⟩, ho.2.2.2⟩, ?_⟩
  unfold swF at hK
  dsimp only at hK ⊢
  cases h1 : ieq ((l - 1 : Nat) : Int) 0 with
  | false =>
    rw [h1] at hK
    exact less_id (shutS (o := ⟨false, ⟨2, N, m, i, ks, fs, gs, j + 1, l - 1⟩, ⟨me, sp, R⟩, s.added (lifeA n gs j) 1⟩) [0, 1, 2, 3, 4, 5, 6, 7, 8, 9, 10, 11] hK rfl rfl)
  | true =>
    rw [h1] at hK
    exact less_top (shutS (o := ⟨true, ⟨3, N, m, i, ks, fs, gs, j, l⟩, ⟨me, sp, ks⟩, s.added (lifeA n gs j) 1⟩) [0, 1, 2, 3, 6] hK rfl rfl)
theorem sw_step (t n : Int) (y : SWS) (st : STS) (s : MS) (K : AVal → Heap Ob → Prop) (ok : okSwp t n y st s) (hK : (swF t n y st s).left t n K) : CallOk (obI tbl) Tryz.prog 100 [.ptr 0 0, .ptr 2 0] (swH t n y st s) K := by
  match h : y.ph with
  | 0 => exact sw0 t n y st s K h ok hK
  | 1 => exact sw1 t n y st s K h ok hK
  | 2 => exact sw2 t n y st s K h ok hK
  | k + 3 => have := ok.ho; unfold okSwP at this; rw [h] at this; exact this.elim
end Go.Sh

