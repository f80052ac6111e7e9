/- The small-heap evaluator, part 10: a list of operations in the order of the text is sound. -/
import Derived.Test.YtjklokfpnbnndaaZSh9
set_option linter.all false
set_option linter.unusedVariables false
set_option linter.unusedSectionVars false
namespace Go.Sh
open Go
variable [Con] {A : Type}
section
variable {P : Program} {E : Env A P}

/-- what holds where a list of operations, or a piece of code, goes on -/
def Then (E : Env A P) (V : Val) (n : Nat) (hR : PHeap) (w : World) (K : List AVal → Heap A → Prop) (a : Act) (w' : World) : Prop :=
  ∃ tm V' h', K tm h' ∧ RepL V' tm a.tmps.toList ∧ V.le V' ∧ Fresh V' h'.length ∧ n ≤ h'.length ∧ Inv E.I V' (toF h') hR w' ∧ Grows w w' ∧ a.defers = []

theorem Then.chain {V V1 : Val} {n n1 : Nat} {hR : PHeap} {w w1 : World} {K : List AVal → Heap A → Prop} {a : Act} {w' : World} (h : Then E V1 n1 hR w1 K a w') (hV : V.le V1) (hn : n ≤ n1) (hg : Grows w w1) : Then E V n hR w K a w' := by
  obtain ⟨tm, V', h', h1, h2, h3, h4, h5, h6, h7, h8⟩ := h
  exact ⟨tm, V', h', h1, h2, Val.le_trans hV h3, h4, by omega, h6, hg.trans h7, h8⟩

theorem yielded_bool {ops : Array Oper} {j d : Nat} {tmps : Array Value} {b : Bool} (h1 : (ops[j]?).bind (·.dst) = some d) (h2 : tmps[d]? = some (.bool b)) : yielded ops tmps j = some b := by
  simp [yielded, h1, h2]
theorem yielded_tuple {ops : Array Oper} {j d : Nat} {tmps : Array Value} (h1 : (ops[j]?).bind (·.dst) = some d) (h2 : tmps[d]? = none ∨ ∃ vs, tmps[d]? = some (.tuple vs)) : yielded ops tmps j = none := by
  rcases h2 with h2 | ⟨vs, h2⟩ <;> simp [yielded, h1, h2]

theorem set_same {α : Type} : ∀ (l : List α) (i : Nat) (x : α), l[i]? = some x → l.set i x = l
  | [], _, _, h => by simp at h
  | a :: l, 0, x, h => by simp at h; subst h; rfl
  | a :: l, i + 1, x, h => by simp at h; simp [set_same l i x h]

theorem getD_bool {tm : List AVal} {d : Nat} {b : Bool} (h : tm.getD d (.raw undef) = .bool b) : tm[d]? = some (.bool b) := by
  rw [List.getD_eq_getElem?_getD] at h
  cases e : tm[d]? with
  | none => rw [e] at h; cases h
  | some x => rw [e] at h; exact congrArg some h

theorem evOps_sound {inl : Inl A} (hinl : InlOk E inl) {ops : Array Oper} {Q : Exit → Act → World → Prop} : ∀ (rest : List Oper) (tm : List AVal) (h : Heap A) (K : List AVal → Heap A → Prop) (a : Act) (w : World) (V : Val) (hR : PHeap),
    evOps E inl ops rest tm h K → Inv E.I V (toF h) hR w → Fresh V h.length → RepL V tm a.tmps.toList → a.defers = [] →
    (∀ a' w', Then E V h.length hR w K a' w' → Q .normal a' w') → wpList P ops Q rest a w := by
  intro rest
  induction rest with
  | nil =>
    intro tm h K a w V hR he hi hf ht hd hQ
    exact wpList_nil (hQ a w ⟨tm, V, h, he, ht, V.le_refl, hf, Nat.le_refl _, hi, Grows.refl w, hd⟩)
  | cons o rest ih =>
    intro tm h K a w V hR he hi hf ht hd hQ
    -- the operation is done
    have run : ∀ tm' : List AVal, RepL V tm' a.tmps.toList → (evOp E inl (aeval tm') o.op h fun v h' => evOps E inl ops rest (aput tm' o.dst v) h' K) → Region.wanted o (yielded ops a.tmps) = true → wpList P ops Q (o :: rest) a w := by
      intro tm' ht' hev hw
      refine wpList_step fun K' hK' => ?_
      rw [if_pos hw]
      refine evOp_sound hinl hev hi hf ht' ?_
      intro v v' V' h' w' k1 k2 k3 k4 k5 k6 k7
      refine hK' _ _ (ih _ _ _ _ _ V' hR k1 k6 k4 (aput_rep (RepL.mono k3 _ _ ht') k2) (by rw [put_defers]; exact hd) ?_)
      intro a' w'' hT
      exact hQ a' w'' (hT.chain k3 k5 k7)
    -- the operation is passed over
    have skip : ∀ tm' : List AVal, RepL V tm' a.tmps.toList → evOps E inl ops rest (aput tm' o.dst (.raw undef)) h K → Region.wanted o (yielded ops a.tmps) = false → wpList P ops Q (o :: rest) a w := by
      intro tm' ht' hev hw
      refine wpList_step fun K' hK' => ?_
      rw [if_neg (by rw [hw]; simp)]
      exact hK' _ _ (ih _ _ _ _ _ V hR hev hi hf (aput_rep ht' rfl) (by rw [put_defers]; exact hd) hQ)
    unfold evOps at he
    cases hg : o.guard with
    | none =>
      rw [hg] at he
      exact run tm ht he (by simp [Region.wanted, hg])
    | some g =>
      obtain ⟨j, want⟩ := g
      rw [hg] at he
      simp only at he
      cases hj : (ops[j]?).bind (·.dst) with
      | none => rw [hj] at he; exact he.elim
      | some d =>
        rw [hj] at he
        simp only at he
        split at he
        · rename_i b hb
          have hgd := getD_bool hb
          obtain ⟨y, hy, ry⟩ := RepL.get ht d _ hgd
          rw [Array.getElem?_toList] at hy
          have ry' : y = .bool b := ry
          subst ry'
          have hyl : yielded ops a.tmps j = some b := yielded_bool hj hy
          have hs : tm.set d (.bool b) = tm := set_same tm d _ hgd
          have hwb : Region.wanted o (yielded ops a.tmps) = (b == want) := by simp [Region.wanted, hg, hyl]
          cases b with
          | true =>
            simp only [cond_true] at he
            cases want with
            | true => rw [if_pos rfl] at he; exact run _ (by rw [hs]; exact ht) he (by rw [hwb]; rfl)
            | false => rw [if_neg (by simp)] at he; exact skip _ (by rw [hs]; exact ht) he (by rw [hwb]; rfl)
          | false =>
            simp only [cond_false] at he
            cases want with
            | true => rw [if_pos rfl] at he; exact skip _ (by rw [hs]; exact ht) he (by rw [hwb]; rfl)
            | false => rw [if_neg (by simp)] at he; exact run _ (by rw [hs]; exact ht) he (by rw [hwb]; rfl)
        · rename_i hnb
          split at he
          · rename_i htp
            have hyl : yielded ops a.tmps j = none := by
              refine yielded_tuple hj ?_
              cases e : a.tmps[d]? with
              | none => exact .inl rfl
              | some x =>
                right
                have hlt : d < tm.length := by
                  have h1 := RepL.length ht
                  rw [Array.length_toList] at h1
                  cases Nat.lt_or_ge d a.tmps.size with
                  | inl g => exact Nat.lt_of_lt_of_eq g h1
                  | inr g => rw [Array.getElem?_eq_none g] at e; cases e
                obtain ⟨y, hy, ry⟩ := RepL.get ht d _ (List.getElem?_eq_getElem hlt)
                rw [Array.getElem?_toList, e] at hy
                cases hy
                have e2 : tm.getD d (.raw undef) = tm[d] := by rw [List.getD_eq_getElem?_getD, List.getElem?_eq_getElem hlt]; rfl
                rw [e2] at htp
                unfold isTuple at htp
                split at htp
                · rename_i vs e3
                  rw [e3] at ry
                  have : x = .tuple vs := ry
                  exact ⟨vs, by rw [this]⟩
                · cases htp
            exact skip tm ht he (by simp [Region.wanted, hg, hyl])
          · exact he.elim

end
end Go.Sh
