/- The small-heap evaluator, part 14c: the same state told by other forms: rows of numbers, tables. -/
import Derived.Test.YtjklokfpnbnndaaZSh14b
set_option linter.all false
set_option linter.unusedVariables false
set_option linter.unusedSectionVars false
namespace Go.Sh
open Go
variable [Con] {A : Type}

inductive CastK where
  | ints (c : Code1)
  | tab (ks : List Code1)
inductive Place where
  | slot (i : Nat)
  | cell (l j : Nat)

def isNone : AVal → Bool
  | .raw (.slice none 0 0) => true
  | .empty => true
  | _ => false
def castV (K : CastK) (v : AVal) (h : Heap A) : Option (AVal × Heap A) :=
  match K with
  | .ints c => cond (isNone v) (some (.slice h.length 0 0 1, h ++ [some (.ints c [])])) <|
    match v with
    | .slice l 0 n 1 => match hget h l with
      | some (.ints c' _) => if c = c' then some (v, h) else none
      | some (.cells vs) => match toCodes c vs with
        | some ns => some (v, h.set l (some (.ints c ns)))
        | none => none
      | _ => none
    | _ => none
  | .tab ks => cond (isNone v) (some (.tslice h.length 0 0 ks.length, h ++ [some (.tab ks [])])) <|
    match v with
    | .tslice l r n w => some (v, h)
    | .slice l 0 n w => if w = ks.length then match hget h l with
        | some (.cells vs) => match rowsOf ks n vs with
          | some rs => some (.tslice l 0 n w, h.set l (some (.tab ks rs)))
          | none => none
        | _ => none
      else none
    | _ => none

def castS (pl : Place) (K : CastK) (tm : List AVal) (h : Heap A) : Option (List AVal × Heap A) :=
  match pl with
  | .slot i => match tm[i]? with
    | some v => match castV K v h with
      | some (v', h') => some (tm.set i v', h')
      | none => none
    | none => none
  | .cell l j => match hget h l with
    | some (.cells vs) => match vs[j]? with
      | some v => match castV K v h with
        | some (v', h') => match hget h' l with
          | some (.cells vs') => some (tm, h'.set l (some (.cells (vs'.set j v'))))
          | _ => none
        | none => none
      | none => none
    | _ => none
def castAll : List (Place × CastK) → List AVal → Heap A → Option (List AVal × Heap A)
  | [], tm, h => some (tm, h)
  | (pl, K) :: cs, tm, h => match castS pl K tm h with
    | some (tm', h') => castAll cs tm' h'
    | none => castAll cs tm h

section
variable {P : Program} {I : A → Nat → PHeap → Prop}

theorem Inv.weaken {V : Val} {h : FHeap A} {hR : PHeap} {w : World} (hi : Inv I V h hR w) {l : Nat} {e e' : Entry A} (hl : h l = some e) (he : ∀ g, e.interp I V l g → g.sub w → e'.interp I V l g) : Inv I V (h.put l (some e')) hR w := by
  obtain ⟨hs, h1, h2, h3, h4, h5, h6⟩ := hi
  refine ⟨hs, ?_, ?_, h3, h4, h5, h6⟩
  · intro m x hm
    by_cases hml : m = l
    · subst hml; simp [FHeap.put] at hm; subst hm; exact he _ (h1 m e hl) (h5 m)
    · simp [FHeap.put, hml] at hm; exact h1 m x hm
  · intro m hm
    by_cases hml : m = l
    · subst hml; simp [FHeap.put] at hm
    · simp [FHeap.put, hml] at hm; exact h2 m hm

/-- what a cast keeps -/
def CastOk (I : A → Nat → PHeap → Prop) (V : Val) (h h' : Heap A) (hR : PHeap) (w : World) (V' : Val) : Prop :=
  V.le V' ∧ Fresh V' h'.length ∧ h.length ≤ h'.length ∧ Inv I V' (toF h') hR w

theorem rep_none {V : Val} {v : AVal} {x : Value} (h : isNone v = true) (hx : Rep V v x) : ∃ base, x = .slice base 0 0 := by
  unfold isNone at h
  split at h
  · exact ⟨none, hx⟩
  · exact hx
  · cases h

theorem Fresh.add {V : Val} {n : Nat} (hf : Fresh V n) (x : Nat × Nat) : Fresh (V.add n x) (n + 1) := by
  intro l hl
  rw [Val.add_ne _ _ (by omega)]
  exact hf l (by omega)

theorem castV_ok {K : CastK} {v v' : AVal} {h h' : Heap A} {V : Val} {hR : PHeap} {w : World} {x : Value} (hc : castV K v h = some (v', h')) (hi : Inv I V (toF h) hR w) (hf : Fresh V h.length) (hx : Rep V v x) :
    ∃ V', CastOk I V h h' hR w V' ∧ Rep V' v' x := by
  have none : ∀ (e : Entry A), (∀ V' : Val, (∃ b, V' h.length = some (b, 0)) → e.interp I V' h.length .emp) → CastOk I V h (h ++ [some e]) hR w (V.add h.length (0, 0)) := by
    intro e he
    have hV := hf h.length (Nat.le_refl _)
    refine ⟨Val.le_add hV, ?_, by simp, ?_⟩
    · rw [List.length_append]; exact hf.add _
    · rw [toF_push]; exact hi.emptyE hV (hget_ge (Nat.le_refl _)) he
  have stay : CastOk I V h h hR w V := ⟨V.le_refl, hf, Nat.le_refl _, hi⟩
  have weak : ∀ (l : Nat) (e e' : Entry A), hget h l = some e → (∀ g, e.interp I V l g → e'.interp I V l g) → CastOk I V h (h.set l (some e')) hR w V := by
    intro l e e' hl he
    refine ⟨V.le_refl, by rw [List.length_set]; exact hf, by simp, ?_⟩
    rw [toF_set _ (hget_lt hl)]
    exact hi.weaken hl (fun g hg _ => he g hg)
  unfold castV at hc
  cases K with
  | ints c =>
    simp only at hc
    cases hn : isNone v with
    | true =>
      rw [hn] at hc
      simp only [cond_true, Option.some.injEq, Prod.mk.injEq] at hc
      obtain ⟨rfl, rfl⟩ := hc
      obtain ⟨base, rfl⟩ := rep_none hn hx
      exact ⟨_, none (.ints c []) (fun V' hb => .inl ⟨rfl, rfl, hb⟩), base, 0, rfl, Nat.le_refl _, .inr ⟨rfl, rfl⟩⟩
    | false =>
      rw [hn] at hc
      simp only [cond_false] at hc
      split at hc
      · rename_i l n
        split at hc
        · split at hc
          · simp only [Option.some.injEq, Prod.mk.injEq] at hc
            obtain ⟨rfl, rfl⟩ := hc
            exact ⟨V, stay, hx⟩
          · cases hc
        · rename_i vs hl
          split at hc
          · rename_i ns hns
            simp only [Option.some.injEq, Prod.mk.injEq] at hc
            obtain ⟨rfl, rfl⟩ := hc
            refine ⟨V, weak l (.cells vs) (.ints c ns) hl ?_, hx⟩
            rintro g ⟨b, k, e1, cs, T, e2, e3, rs, tail, e4, r⟩
            exact .inr ⟨b, k, e1, cs, T, tail, e2, e3, by rw [e4, toCodes_row hns r]⟩
          · cases hc
        · cases hc
      · cases hc
  | tab ks =>
    simp only at hc
    cases hn : isNone v with
    | true =>
      rw [hn] at hc
      simp only [cond_true, Option.some.injEq, Prod.mk.injEq] at hc
      obtain ⟨rfl, rfl⟩ := hc
      obtain ⟨base, rfl⟩ := rep_none hn hx
      exact ⟨_, none (.tab ks []) (fun V' hb => .inl ⟨rfl, rfl, hb⟩), base, 0, rfl, Nat.le_refl _, .inr ⟨rfl, rfl⟩⟩
    | false =>
      rw [hn] at hc
      simp only [cond_false] at hc
      split at hc
      · simp only [Option.some.injEq, Prod.mk.injEq] at hc
        obtain ⟨rfl, rfl⟩ := hc
        exact ⟨V, stay, hx⟩
      · rename_i l n w0
        split at hc
        case isFalse => cases hc
        rename_i hw; subst hw
        split at hc
        · rename_i vs hl
          split at hc
          · rename_i rs hrs
            simp only [Option.some.injEq, Prod.mk.injEq] at hc
            obtain ⟨rfl, rfl⟩ := hc
            refine ⟨V, weak l (.cells vs) (.tab ks rs) hl ?_, rep_tslice0 hx⟩
            rintro g ⟨b, k, e1, cs, T, e2, e3, rs', tail, e4, r⟩
            exact .inr ⟨b, k, e1, cs, T, tail, e2, e3, by rw [e4, rowsOf_vals hrs r]⟩
          · cases hc
        · cases hc
      · cases hc

theorem castS_ok {pl : Place} {K : CastK} {tm tm' : List AVal} {h h' : Heap A} {V : Val} {hR : PHeap} {w : World} {xs : List Value} (hc : castS pl K tm h = some (tm', h')) (hi : Inv I V (toF h) hR w) (hf : Fresh V h.length) (hx : RepL V tm xs) :
    ∃ V', CastOk I V h h' hR w V' ∧ RepL V' tm' xs := by
  unfold castS at hc
  cases pl with
  | slot i =>
    simp only at hc
    split at hc
    · rename_i v hv
      split at hc
      · rename_i v' h2 hcv
        simp only [Option.some.injEq, Prod.mk.injEq] at hc
        obtain ⟨rfl, rfl⟩ := hc
        obtain ⟨y, hy, ry⟩ := RepL.get hx i v hv
        obtain ⟨V', k1, k2⟩ := castV_ok hcv hi hf ry
        refine ⟨V', k1, ?_⟩
        have := RepL.set (RepL.mono k1.1 _ _ hx) i v' y k2
        rwa [set_same xs i y hy] at this
      · cases hc
    · cases hc
  | cell l j =>
    simp only at hc
    split at hc
    · rename_i vs hl
      split at hc
      · rename_i v hv
        split at hc
        · rename_i v' h2 hcv
          split at hc
          · rename_i vs' hl'
            simp only [Option.some.injEq, Prod.mk.injEq] at hc
            obtain ⟨rfl, rfl⟩ := hc
            obtain ⟨b, k, cs, T, rs, tail, e1, e2, e3, e4, e5⟩ := hi.cells (l := l) hl
            obtain ⟨y, hy, ry⟩ := RepL.get e5 j v hv
            obtain ⟨V', ⟨k1, k2, k3, k4⟩, k5⟩ := castV_ok hcv hi hf ry
            refine ⟨V', ⟨k1, by rw [List.length_set]; exact k2, by rw [List.length_set]; exact k3, ?_⟩, RepL.mono k1 _ _ hx⟩
            rw [toF_set _ (hget_lt hl')]
            obtain ⟨b', kk, cs', T', rs', tail', q1, q2, q3, q4, q5⟩ := k4.cells (l := l) hl'
            have hb := k1 l _ e1
            rw [hb] at q1; cases q1
            rw [e2] at q2
            simp only [Option.some.injEq, Obj.cells.injEq] at q2
            obtain ⟨rfl, _⟩ := q2
            refine k4.weaken hl' ?_
            rintro g ⟨b1, k1', a1, cs1, T1, a2, a3, rs1, tail1, a4, a5⟩ hgs
            have hjl : j < rs.length := by
              cases Nat.lt_or_ge j rs.length with
              | inl g => exact g
              | inr g => rw [List.getElem?_eq_none g] at hy; cases hy
            by_cases hjv : j < vs'.length
            · refine ⟨b1, k1', a1, cs1, T1, a2, a3, rs1, tail1, a4, ?_⟩
              have hcs1 : cs1 = cs := by
                rw [hb] at a1; cases a1
                have hsub : w.heap[b]? = some (.cells cs1 T1) := by
                  rw [a2] at hgs; exact PHeap.one_sub.1 hgs
                rw [e2] at hsub
                simp only [Option.some.injEq, Obj.cells.injEq] at hsub
                exact hsub.1.symm
              subst hcs1
              have hr1 : rs1[j]? = some y := by
                have h1 : cs1.toList[j]? = some y := by
                  rw [e4, List.getElem?_append_left hjl]; exact hy
                rw [a4, List.getElem?_append_left (by rw [RepL.length a5]; exact hjv)] at h1
                exact h1
              have := RepL.set a5 j v' y k5
              rwa [set_same rs1 j y hr1] at this
            · have : vs'.set j v' = vs' := List.set_eq_of_length_le (by omega)
              rw [this]
              exact ⟨b1, k1', a1, cs1, T1, a2, a3, rs1, tail1, a4, a5⟩
          · cases hc
        · cases hc
      · cases hc
    · cases hc

theorem castAll_ok : ∀ {cs : List (Place × CastK)} {tm tm' : List AVal} {h h' : Heap A} {V : Val} {hR : PHeap} {w : World} {xs : List Value}, castAll cs tm h = some (tm', h') → Inv I V (toF h) hR w → Fresh V h.length → RepL V tm xs →
    ∃ V', CastOk I V h h' hR w V' ∧ RepL V' tm' xs
  | [], tm, tm', h, h', V, hR, w, xs, hc, hi, hf, hx => by
    simp only [castAll, Option.some.injEq, Prod.mk.injEq] at hc
    obtain ⟨rfl, rfl⟩ := hc
    exact ⟨V, ⟨V.le_refl, hf, Nat.le_refl _, hi⟩, hx⟩
  | (pl, K) :: cs, tm, tm', h, h', V, hR, w, xs, hc, hi, hf, hx => by
    simp only [castAll] at hc
    split at hc
    · rename_i tm1 h1 h2
      obtain ⟨V1, ⟨a1, a2, a3, a4⟩, b1⟩ := castS_ok h2 hi hf hx
      obtain ⟨V2, ⟨c1, c2, c3, c4⟩, d1⟩ := castAll_ok hc a4 a2 b1
      exact ⟨V2, ⟨Val.le_trans a1 c1, c2, Nat.le_trans a3 c3, c4⟩, d1⟩
    · exact castAll_ok hc hi hf hx
end
end Go.Sh
