/- The greatest one of a list: the walk of the function and of its law. -/
import Derived.Test.YtmopmpjkpkjfmaaZB4
set_option linter.all false
set_option linter.unusedVariables false
namespace Go.Sh
open Go Go.Proofs
set_option linter.unusedSectionVars false
variable [Con]

/-- what a function that makes nothing says, beside any heap -/
theorem CallOk.besideR {A : Type} {I : A → Nat → PHeap → Prop} {P : Program} {f : FuncId} {args : List AVal} {Q : AVal → Prop} (h3 : CallOk I P f args ([] : Heap A) fun v' _ => Q v') (h1 : AVal.withinL [] args = true) (h2 : ∀ v, Q v → v.within [] = true) {h : Heap A} {K : AVal → Heap A → Prop} (hK : ∀ v, Q v → K v h) : CallOk I P f args h K := by
  intro V hR w args' hi hf hrep
  refine (h3 (fun _ => none) (PHeap.all w) w args' (inv_nil w hi.con) (fun _ _ => rfl) (RepL.free _ _ h1 hrep)).mono ?_
  rintro e w' ⟨v1, v', V', h', hq, k2, k3, k4, k5, k6, k7, k8⟩
  obtain ⟨hs', _, _, _, _, _, g6, _⟩ := k7
  obtain ⟨hs, i1, i2, i3, i4, i5, i6⟩ := hi
  exact ⟨v1, v', V, h, hK _ hq, k2, Rep.free _ _ (h2 _ hq) k3, V.le_refl, hf, Nat.le_refl _, ⟨hs, i1, i2, i3, i4, fun l b o e => g6 b o (i5 l b o e), fun b o e => g6 b o (i6.1 b o e), i6.2⟩, k8⟩

theorem cond_elim {b : Bool} {X Y : Prop} (h : bif b then X else Y) : (b = true ∧ X) ∨ (b = false ∧ Y) := by
  cases b
  · exact .inr ⟨rfl, h⟩
  · exact .inl ⟨rfl, h⟩

structure okM (xs : List Int) (x : Nat × Int) : Prop where
  h1 : 1 ≤ x.1
  h2 : x.1 ≤ xs.length
  h3 : x.2 ∈ xs
  h4 : ∀ y ∈ xs.take x.1, y ≤ x.2
def HM (xs : List Int) : Hint Unit := { X := Nat × Int, st := fun x => ([.iview (some .i64) xs, .top, .top, .int .i64 x.2, .int .i64 (x.1 : Int)] ++ List.replicate 20 .top, []), ok := okM xs, mu := fun x => xs.length - x.1, keep := [0, 3, 4] }
inductive okMost (xs : List Int) (v : AVal) : Prop where
  | mk (n : Int) (h : v = .int .i64 n) (h1 : n ∈ xs) (h2 : ∀ y ∈ xs, y ≤ n)

theorem take_succ_mem {xs : List Int} {k : Nat} {y : Int} (hk : k < xs.length) (h : y ∈ xs.take (k + 1)) : y ∈ xs.take k ∨ y = xs.getD k 0 := by
  rw [List.take_succ_eq_append_getElem hk] at h
  rcases List.mem_append.1 h with h | h
  · exact .inl h
  · right
    rw [List.getD_eq_getElem?_getD, List.getElem?_eq_getElem hk]
    simpa using h

theorem max_ok (xs : List Int) (h0 : 0 < xs.length) (hl : xs.length ≤ 9223372036854775806) : CallOk E5.I Try.prog 24 [.iview (some .i64) xs] ([] : Heap Unit) (fun v _ => okMost xs v) := by
  refine callOk_of (E := E5) Try.checked.mixed (L := fun f _ => if f = 24 then some (.states (HM xs)) else none) (n := 3) (of_nf (q := bif ilt (↑(List.length xs) : Int) 1 then False else ((0 : Int) ≤ (0 : Int) ∧ (0 : Int) < (↑(List.length xs) : Int)) ∧ okSt (HM xs) (Hint.ok (HM xs)) [AVal.iview (some .i64) xs, AVal.top, AVal.top, AVal.int .i64 (List.getD xs (Int.toNat 0) 0), AVal.int .i64 1, AVal.top, AVal.top, AVal.top, AVal.top, AVal.top, AVal.top, AVal.top, AVal.top, AVal.top, AVal.top, AVal.top, AVal.top, AVal.top, AVal.top, AVal.top, AVal.top, AVal.top, AVal.top, AVal.top, AVal.top] [] ∧ ∀ (x : Nat × Int), okM xs x → bif ilt (↑x.1 : Int) (↑(List.length xs) : Int) then ((0 : Int) ≤ (↑x.1 : Int) ∧ (↑x.1 : Int) < (↑(List.length xs) : Int)) ∧ okSt (HM xs) (fun x' => Hint.ok (HM xs) x' ∧ Hint.mu (HM xs) x' < Hint.mu (HM xs) x) [AVal.iview (some .i64) xs, AVal.top, AVal.top, AVal.int .i64 (bif ilt x.2 (List.getD xs (Int.toNat (↑x.1 : Int)) 0) then List.getD xs (Int.toNat (↑x.1 : Int)) 0 else x.2), AVal.int .i64 (W ((↑x.1 : Int) + 1)), AVal.top, AVal.top, AVal.top, AVal.top, AVal.top, AVal.top, AVal.top, AVal.top, AVal.top, AVal.top, AVal.top, AVal.top, AVal.top, AVal.top, AVal.top, AVal.top, AVal.top, AVal.top, AVal.top, AVal.top] [] else okMost xs (AVal.int .i64 x.2)) (by kernel_rfl) ?_)
  refine lt_no (by omega) ⟨by omega, okSt_intro (H := HM xs) (1, xs.getD 0 0) rfl ?_, ?_⟩
  · have hm : xs.getD 0 0 ∈ xs := by
      rw [List.getD_eq_getElem?_getD, List.getElem?_eq_getElem h0]; exact List.getElem_mem h0
    refine ⟨Nat.le_refl _, h0, hm, ?_⟩
    intro y hy
    rcases take_succ_mem (k := 0) h0 hy with h | h
    · simp at h
    · exact Int.le_of_eq h
  · rintro ⟨k, v⟩ ⟨h1, h2, h3, h4⟩
    simp only at h1 h2 h3 h4 ⊢
    refine cond_intro (fun e => ?_) (fun e => ?_)
    · rw [ilt_eq] at e
      have hk : k < xs.length := by simpa using e
      have e1 : IntKind.wrap .i64 ((k : Int) + 1) = ((k + 1 : Nat) : Int) := by rw [W_in (by omega)]; rfl
      have e2 : (k : Int).toNat = k := by omega
      have hm : xs.getD k 0 ∈ xs := by
        rw [List.getD_eq_getElem?_getD, List.getElem?_eq_getElem hk]; exact List.getElem_mem hk
      refine ⟨by omega, okSt_intro (H := HM xs) (k + 1, bif ilt v (xs.getD k 0) then xs.getD k 0 else v) ?_ ⟨⟨by simp, hk, ?_, ?_⟩, by show xs.length - (k + 1) < xs.length - k; omega⟩⟩
      · simp only [W, e1, e2]; rfl
      · simp only [ilt_eq]
        by_cases hc : v < xs.getD k 0 <;> simp only [hc, decide_true, decide_false, cond_true, cond_false] <;> assumption
      · intro y hy
        simp only [ilt_eq]
        rcases take_succ_mem hk hy with h | h
        · have := h4 y h
          by_cases hc : v < xs.getD k 0 <;> simp only [hc, decide_true, decide_false, cond_true, cond_false] <;> omega
        · by_cases hc : v < xs.getD k 0 <;> simp only [hc, decide_true, decide_false, cond_true, cond_false] <;> omega
    · rw [ilt_eq] at e
      have hk : ¬ (k : Int) < xs.length := by simpa using e
      refine ⟨v, rfl, h3, fun y hy => h4 y ?_⟩
      rw [List.take_of_length_le (by omega)]; exact hy

def maxS : CSpec Unit := fun args h K => match args with
  | [.iview (some .i64) xs] => (0 < xs.length ∧ xs.length ≤ 9223372036854775806) ∧ ∀ v, okMost xs v → K v h
  | _ => False
theorem maxS_ok : CSpec.ok E5.I Try.prog 24 maxS := by
  intro args h K hS
  unfold maxS at hS
  split at hS
  case h_2 => cases hS
  rename_i xs
  exact (max_ok xs hS.1.1 hS.1.2).besideR rfl (by rintro v ⟨n, rfl, _⟩; rfl) hS.2
noncomputable def E6 := E5.addCps 24 maxS maxS_ok

structure okMost0 (xs : List Int) (n : Int) : Prop where
  h1 : xs = [] → n = 0
  h2 : xs ≠ [] → n ∈ xs
  h3 : ∀ y ∈ xs, y ≤ n
inductive okMost1 (xs : List Int) (v : AVal) : Prop where
  | mk (n : Int) (h : v = .int .i64 n) (h0 : okMost0 xs n)
def mostS : CSpec Unit := fun args h K => match args with
  | [.iview (some .i64) xs] => xs.length ≤ 9223372036854775806 ∧ ∀ n, okMost0 xs n → K (.int .i64 n) h
  | _ => False
theorem most_ok (xs : List Int) (hl : xs.length ≤ 9223372036854775806) : CallOk E6.I Try.prog 21 [.iview (some .i64) xs] ([] : Heap Unit) (fun v _ => okMost1 xs v) := by
  refine callOk_of (E := E6) Try.checked.mixed (L := fun _ _ => none) (n := 3) (of_nf (q := bif ieq (↑(List.length xs) : Int) 0 then okMost1 xs (AVal.int .i64 0) else ((0 : Nat) < List.length xs ∧ List.length xs ≤ (9223372036854775806 : Nat)) ∧ ∀ (v : AVal), okMost xs v → okMost1 xs v) (by kernel_rfl) ?_)
  simp only [ieq_eq]
  refine cond_intro (fun e => ?_) (fun e => ?_)
  · have : xs = [] := List.length_eq_zero_iff.1 (by simp at e; simpa using e)
    subst this
    exact ⟨0, rfl, fun _ => rfl, fun h => (h rfl).elim, fun y hy => by cases hy⟩
  · have h0 : 0 < xs.length := by
      cases xs with
      | nil => simp at e
      | cons x xs => simp
    refine ⟨⟨h0, hl⟩, ?_⟩
    rintro v ⟨n, rfl, g1, g2⟩
    exact ⟨n, rfl, fun h => by subst h; simp at h0, fun _ => g1, g2⟩
theorem mostS_ok : CSpec.ok E6.I Try.prog 21 mostS := by
  intro args h K hS
  unfold mostS at hS
  split at hS
  case h_2 => cases hS
  rename_i xs
  refine (most_ok xs hS.1).besideR rfl (by rintro v ⟨n, rfl, _⟩; rfl) ?_
  rintro v ⟨n, rfl, g⟩
  exact hS.2 n g
noncomputable def E7 := E6.addCps 21 mostS mostS_ok

structure okL2 (xs : List Int) (x : Int × Nat × Bool) : Prop where
  h0 : okMost0 xs x.1
  h1 : x.2.1 ≤ xs.length
  h2 : x.2.2 = true ∨ x.1 ∈ xs.drop x.2.1
def HL (xs : List Int) : Hint Unit := { X := Int × Nat × Bool, st := fun x => ([.iview (some .i64) xs, .top, .top, .int .i64 x.1, .bool x.2.2] ++ List.replicate 16 .top ++ [.iview (some .i64) xs, .int .i64 (xs.length : Int), .int .i64 (x.2.1 : Int)] ++ List.replicate 14 .top, []), ok := okL2 xs, mu := fun x => xs.length - x.2.1, keep := [0, 3, 4, 21, 22, 23] }

theorem bool_cases {b : Bool} {X Y : Prop} (h1 : X) (h2 : b = false → Y) : bif b then X else Y := by
  cases b
  · exact h2 rfl
  · exact h1

theorem mostLaw_ok (xs : List Int) (hl : xs.length ≤ 9223372036854775807) : CallOk E7.I Try.prog 5 [.iview (some .i64) xs] ([] : Heap Unit) (fun v _ => v = .bool true) := by
  refine callOk_of (E := E7) Try.checked.mixed (L := fun f _ => if f = 5 then some (.states (HL xs)) else none) (n := 3) (of_nf (q := bif ilt 60 (↑(List.length xs) : Int) then AVal.bool true = AVal.bool true else List.length xs ≤ (9223372036854775806 : Nat) ∧ ∀ (n : Int), okMost0 xs n → bif ieq (↑(List.length xs) : Int) 0 then okSt (HL xs) (Hint.ok (HL xs)) [AVal.iview (some .i64) xs, AVal.top, AVal.top, AVal.int .i64 n, AVal.bool (ieq n 0), AVal.top, AVal.top, AVal.top, AVal.top, AVal.top, AVal.top, AVal.top, AVal.top, AVal.top, AVal.top, AVal.top, AVal.top, AVal.top, AVal.top, AVal.top, AVal.top, AVal.iview (some .i64) xs, AVal.int .i64 (↑(List.length xs) : Int), AVal.int .i64 0, AVal.top, AVal.top, AVal.top, AVal.top, AVal.top, AVal.top, AVal.top, AVal.top, AVal.top, AVal.top, AVal.top, AVal.top, AVal.top, AVal.top] [] ∧ ∀ (x : Int × Nat × Bool), okL2 xs x → bif ilt (↑(Prod.snd x).1 : Int) (↑(List.length xs) : Int) then ((0 : Int) ≤ (↑(Prod.snd x).1 : Int) ∧ (↑(Prod.snd x).1 : Int) < (↑(List.length xs) : Int)) ∧ bif (Prod.snd x).2 then bif ilt x.1 (List.getD xs (Int.toNat (↑(Prod.snd x).1 : Int)) 0) then AVal.bool false = AVal.bool true else okSt (HL xs) (fun x' => Hint.ok (HL xs) x' ∧ Hint.mu (HL xs) x' < Hint.mu (HL xs) x) [AVal.iview (some .i64) xs, AVal.top, AVal.top, AVal.int .i64 x.1, AVal.bool true, AVal.top, AVal.top, AVal.top, AVal.top, AVal.top, AVal.top, AVal.top, AVal.top, AVal.top, AVal.top, AVal.top, AVal.top, AVal.top, AVal.top, AVal.top, AVal.top, AVal.iview (some .i64) xs, AVal.int .i64 (↑(List.length xs) : Int), AVal.int .i64 (W ((↑(Prod.snd x).1 : Int) + 1)), AVal.top, AVal.top, AVal.top, AVal.top, AVal.top, AVal.top, AVal.top, AVal.top, AVal.top, AVal.top, AVal.top, AVal.top, AVal.top, AVal.top] [] else bif ilt x.1 (List.getD xs (Int.toNat (↑(Prod.snd x).1 : Int)) 0) then AVal.bool false = AVal.bool true else okSt (HL xs) (fun x' => Hint.ok (HL xs) x' ∧ Hint.mu (HL xs) x' < Hint.mu (HL xs) x) [AVal.iview (some .i64) xs, AVal.top, AVal.top, AVal.int .i64 x.1, AVal.bool (ieq (List.getD xs (Int.toNat (↑(Prod.snd x).1 : Int)) 0) x.1), AVal.top, AVal.top, AVal.top, AVal.top, AVal.top, AVal.top, AVal.top, AVal.top, AVal.top, AVal.top, AVal.top, AVal.top, AVal.top, AVal.top, AVal.top, AVal.top, AVal.iview (some .i64) xs, AVal.int .i64 (↑(List.length xs) : Int), AVal.int .i64 (W ((↑(Prod.snd x).1 : Int) + 1)), AVal.top, AVal.top, AVal.top, AVal.top, AVal.top, AVal.top, AVal.top, AVal.top, AVal.top, AVal.top, AVal.top, AVal.top, AVal.top, AVal.top] [] else AVal.bool (Prod.snd x).2 = AVal.bool true else okSt (HL xs) (Hint.ok (HL xs)) [AVal.iview (some .i64) xs, AVal.top, AVal.top, AVal.int .i64 n, AVal.bool false, AVal.top, AVal.top, AVal.top, AVal.top, AVal.top, AVal.top, AVal.top, AVal.top, AVal.top, AVal.top, AVal.top, AVal.top, AVal.top, AVal.top, AVal.top, AVal.top, AVal.iview (some .i64) xs, AVal.int .i64 (↑(List.length xs) : Int), AVal.int .i64 0, AVal.top, AVal.top, AVal.top, AVal.top, AVal.top, AVal.top, AVal.top, AVal.top, AVal.top, AVal.top, AVal.top, AVal.top, AVal.top, AVal.top] [] ∧ ∀ (x : Int × Nat × Bool), okL2 xs x → bif ilt (↑(Prod.snd x).1 : Int) (↑(List.length xs) : Int) then ((0 : Int) ≤ (↑(Prod.snd x).1 : Int) ∧ (↑(Prod.snd x).1 : Int) < (↑(List.length xs) : Int)) ∧ bif (Prod.snd x).2 then bif ilt x.1 (List.getD xs (Int.toNat (↑(Prod.snd x).1 : Int)) 0) then AVal.bool false = AVal.bool true else okSt (HL xs) (fun x' => Hint.ok (HL xs) x' ∧ Hint.mu (HL xs) x' < Hint.mu (HL xs) x) [AVal.iview (some .i64) xs, AVal.top, AVal.top, AVal.int .i64 x.1, AVal.bool true, AVal.top, AVal.top, AVal.top, AVal.top, AVal.top, AVal.top, AVal.top, AVal.top, AVal.top, AVal.top, AVal.top, AVal.top, AVal.top, AVal.top, AVal.top, AVal.top, AVal.iview (some .i64) xs, AVal.int .i64 (↑(List.length xs) : Int), AVal.int .i64 (W ((↑(Prod.snd x).1 : Int) + 1)), AVal.top, AVal.top, AVal.top, AVal.top, AVal.top, AVal.top, AVal.top, AVal.top, AVal.top, AVal.top, AVal.top, AVal.top, AVal.top, AVal.top] [] else bif ilt x.1 (List.getD xs (Int.toNat (↑(Prod.snd x).1 : Int)) 0) then AVal.bool false = AVal.bool true else okSt (HL xs) (fun x' => Hint.ok (HL xs) x' ∧ Hint.mu (HL xs) x' < Hint.mu (HL xs) x) [AVal.iview (some .i64) xs, AVal.top, AVal.top, AVal.int .i64 x.1, AVal.bool (ieq (List.getD xs (Int.toNat (↑(Prod.snd x).1 : Int)) 0) x.1), AVal.top, AVal.top, AVal.top, AVal.top, AVal.top, AVal.top, AVal.top, AVal.top, AVal.top, AVal.top, AVal.top, AVal.top, AVal.top, AVal.top, AVal.top, AVal.top, AVal.iview (some .i64) xs, AVal.int .i64 (↑(List.length xs) : Int), AVal.int .i64 (W ((↑(Prod.snd x).1 : Int) + 1)), AVal.top, AVal.top, AVal.top, AVal.top, AVal.top, AVal.top, AVal.top, AVal.top, AVal.top, AVal.top, AVal.top, AVal.top, AVal.top, AVal.top] [] else AVal.bool (Prod.snd x).2 = AVal.bool true) (by kernel_rfl) ?_)
  refine cond_intro (fun _ => rfl) (fun e60 => ?_)
  have h60 : xs.length ≤ 60 := by rw [ilt_eq] at e60; simp at e60; omega
  refine ⟨by omega, fun n hn => ?_⟩
  have body : ∀ (x : Int × Nat × Bool), okL2 xs x → ∀ (b : Bool) (k : Nat), k < xs.length → x.2.1 = k → (x.2.2 = false → b = (ieq (xs.getD (Int.toNat (k : Int)) 0) x.1)) → (x.2.2 = true → b = true) →
      okSt (HL xs) (fun x' => Hint.ok (HL xs) x' ∧ Hint.mu (HL xs) x' < Hint.mu (HL xs) x) ([.iview (some .i64) xs, .top, .top, .int .i64 x.1, .bool b] ++ List.replicate 16 .top ++ [.iview (some .i64) xs, .int .i64 (xs.length : Int), .int .i64 (IntKind.wrap .i64 ((k : Int) + 1))] ++ List.replicate 14 .top) [] := by
    rintro ⟨m, k0, c⟩ ⟨g0, g1, g2⟩ b k hk hk0 hb1 hb2
    simp only at g0 g1 g2 hk0 hb1 hb2
    subst hk0
    have e1 : IntKind.wrap .i64 ((k0 : Int) + 1) = ((k0 + 1 : Nat) : Int) := by rw [W_in (by omega)]; rfl
    rw [e1]
    refine okSt_intro (H := HL xs) (m, k0 + 1, b) rfl ⟨⟨g0, hk, ?_⟩, by show xs.length - (k0 + 1) < xs.length - k0; omega⟩
    cases c with
    | true => exact .inl (hb2 rfl)
    | false =>
      have hb := hb1 rfl
      rcases g2 with g2 | g2
      · cases g2
      · simp only at g2 ⊢
        rw [List.drop_eq_getElem_cons hk] at g2
        rcases List.mem_cons.1 g2 with g | g
        · left
          have e2 : (k0 : Int).toNat = k0 := by omega
          rw [hb, ieq_eq, e2, List.getD_eq_getElem?_getD, List.getElem?_eq_getElem hk, g]
          simp
        · exact .inr g
  have loop : ∀ (x : Int × Nat × Bool), okL2 xs x → bif ilt (x.2.1 : Int) (xs.length : Int) then ((0 : Int) ≤ (x.2.1 : Int) ∧ (x.2.1 : Int) < (xs.length : Int)) ∧
      bif x.2.2 then bif ilt x.1 (List.getD xs (Int.toNat (x.2.1 : Int)) (0 : Int)) then AVal.bool false = AVal.bool true else
        okSt (HL xs) (fun x' => Hint.ok (HL xs) x' ∧ Hint.mu (HL xs) x' < Hint.mu (HL xs) x) ([.iview (some .i64) xs, .top, .top, .int .i64 x.1, .bool true] ++ List.replicate 16 .top ++ [.iview (some .i64) xs, .int .i64 (xs.length : Int), .int .i64 (IntKind.wrap .i64 ((x.2.1 : Int) + 1))] ++ List.replicate 14 .top) []
      else bif ilt x.1 (List.getD xs (Int.toNat (x.2.1 : Int)) (0 : Int)) then AVal.bool false = AVal.bool true else
        okSt (HL xs) (fun x' => Hint.ok (HL xs) x' ∧ Hint.mu (HL xs) x' < Hint.mu (HL xs) x) ([.iview (some .i64) xs, .top, .top, .int .i64 x.1, .bool (ieq (List.getD xs (Int.toNat (x.2.1 : Int)) (0 : Int)) x.1)] ++ List.replicate 16 .top ++ [.iview (some .i64) xs, .int .i64 (xs.length : Int), .int .i64 (IntKind.wrap .i64 ((x.2.1 : Int) + 1))] ++ List.replicate 14 .top) []
      else AVal.bool x.2.2 = AVal.bool true := by
    intro x hx
    have hx' := hx
    obtain ⟨g0, g1, g2⟩ := hx
    refine cond_intro (fun e => ?_) (fun e => ?_)
    · rw [ilt_eq] at e
      have hk : x.2.1 < xs.length := by simpa using e
      have hle : xs.getD (Int.toNat (x.2.1 : Int)) 0 ≤ x.1 := by
        have e2 : (x.2.1 : Int).toNat = x.2.1 := by omega
        rw [e2, List.getD_eq_getElem?_getD, List.getElem?_eq_getElem hk]
        exact g0.h3 _ (List.getElem_mem hk)
      refine ⟨by omega, cond_intro (fun eb => lt_no hle ?_) (fun eb => lt_no hle ?_)⟩
      · exact body x hx' true x.2.1 hk rfl (fun h => by rw [eb] at h; cases h) (fun _ => rfl)
      · exact body x hx' _ x.2.1 hk rfl (fun _ => rfl) (fun h => by rw [eb] at h; cases h)
    · rw [ilt_eq] at e
      have hk : ¬ (x.2.1 : Int) < xs.length := by simpa using e
      rcases g2 with g2 | g2
      · rw [g2]
      · rw [List.drop_of_length_le (by omega)] at g2; cases g2
  have init : ∀ b : Bool, (b = true ∨ n ∈ xs) → okSt (HL xs) (Hint.ok (HL xs)) ([.iview (some .i64) xs, .top, .top, .int .i64 n, .bool b] ++ List.replicate 16 .top ++ [.iview (some .i64) xs, .int .i64 (xs.length : Int), .int .i64 0] ++ List.replicate 14 .top) [] := by
    intro b hb
    exact okSt_intro (H := HL xs) (n, 0, b) rfl ⟨hn, Nat.zero_le _, by simpa using hb⟩
  refine cond_intro (fun e => ?_) (fun e => ?_)
  · refine ⟨init _ ?_, loop⟩
    left
    rw [ieq_eq] at e ⊢
    have : xs = [] := List.length_eq_zero_iff.1 (by simp at e; simpa using e)
    rw [hn.h1 this]; rfl
  · refine ⟨init _ ?_, loop⟩
    right
    refine hn.h2 ?_
    rintro rfl
    simp [ieq_eq] at e
end Go.Sh
