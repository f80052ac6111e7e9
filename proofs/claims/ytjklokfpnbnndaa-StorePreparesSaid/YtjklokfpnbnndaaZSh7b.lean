/- The small-heap evaluator, part 7b: append, copy, make, len, min, max. -/
import Derived.Test.YtjklokfpnbnndaaZSh7
import Derived.Laws.Append
set_option linter.all false
set_option linter.unusedVariables false
set_option linter.unusedSectionVars false
namespace Go.Sh
open Go
variable [Con] {A : Type} {I : A → Nat → PHeap → Prop}
section
variable {P : Program} {V : Val}

theorem apply_nil {h : Heap A} {r : ORes A} (h1 : r.upd = []) (h2 : r.new = []) : r.apply h = h := by
  simp [ORes.apply, h1, h2, hupd]

/-- a row reads as an entry says -/
def RepRow (V : Val) : Entry A → List Value → Prop
  | .ints c xs, l => l = xs.map c.val
  | .cells vs, l => RepL V vs l
  | .abs _, _ => False
  | .tab ks rows, l => l = tabVals ks rows
  | .imap _ _ _, _ => False

theorem RepRow.mono {V V' : Val} (hV : V.le V') {e : Entry A} {l : List Value} (h : RepRow V e l) : RepRow V' e l := by
  cases e with
  | ints c xs => exact h
  | cells vs => exact RepL.mono hV _ _ h
  | abs t => exact h
  | tab ks rows => exact h
  | imap kk vc m => exact h

theorem interp_row {V : Val} {l b k : Nat} {e : Entry A} {row tail : List Value} {cs : Array Value} {T : TypeId} (hl : V l = some (b, k)) (hr : RepRow V e row) (hc : cs.toList = row ++ tail) (hk : cs.size = k) :
    e.interp I V l (.one b (.cells cs T)) := by
  cases e with
  | ints c xs => have hr' : row = xs.map c.val := hr; subst hr'; exact .inr ⟨b, k, hl, cs, T, tail, rfl, hk, hc⟩
  | cells vs => exact ⟨b, k, hl, cs, T, rfl, hk, row, tail, hc, hr⟩
  | abs t => exact hr.elim
  | tab ks rows => have hr' : row = _ := hr; subst hr'; exact .inr ⟨b, k, hl, cs, T, tail, rfl, hk, hc⟩
  | imap kk vc m => exact hr.elim

theorem interp_moved {V V' : Val} {l m : Nat} {e : Entry A} {g : PHeap} (hV : V.le V') (h : ∀ x, V l = some x → V' m = some x) (hi : e.interp I V l g) : e.interp I V' m g := by
  cases e with
  | cells vs =>
    obtain ⟨b, k, e1, cs, T, e2, e3, rs, tl, e4, r⟩ := hi
    exact ⟨b, k, h _ e1, cs, T, e2, e3, rs, tl, e4, RepL.mono hV _ _ r⟩
  | ints c xs =>
    rcases hi with ⟨e1, e2, b, hl⟩ | ⟨b, k, e1, r⟩
    · exact .inl ⟨e1, e2, b, h _ hl⟩
    · exact .inr ⟨b, k, h _ e1, r⟩
  | abs t =>
    obtain ⟨b, k, e1, r⟩ := hi
    exact ⟨b, k, h _ e1, r⟩
  | tab ks rows =>
    rcases hi with ⟨e1, e2, b, hl⟩ | ⟨b, k, e1, r⟩
    · exact .inl ⟨e1, e2, b, h _ hl⟩
    · exact .inr ⟨b, k, h _ e1, r⟩
  | imap kk vc m =>
    obtain ⟨b, k, e1, r⟩ := hi
    exact ⟨b, k, h _ e1, r⟩

theorem isNilSlice_eq {a : AVal} (h : isNilSlice a = true) : a = .raw (.slice none 0 0) := by
  unfold isNilSlice at h
  split at h
  · rfl
  · cases h

theorem toCodes_row {c : Code1} : ∀ {vs : List AVal} {ns : List Int} {l : List Value}, toCodes c vs = some ns → RepL V vs l → l = ns.map c.val
  | [], ns, l, h, r => by simp [toCodes] at h; subst h; exact r
  | x :: xs, ns, l, h, ⟨v, vs', e, rv, rs⟩ => by
    simp only [toCodes] at h
    split at h
    · rename_i n ns' h1 h2
      simp at h; subst h; subst e
      rw [fromCode_val h1 rv, toCodes_row h2 rs]
      rfl
    · cases h

theorem rowsOf_vals {ks : List Code1} : ∀ {n : Nat} {vs : List AVal} {rs : List (List Int)} {l : List Value}, rowsOf ks n vs = some rs → RepL V vs l → l = tabVals ks rs
  | 0, [], rs, l, h, r => by simp [rowsOf] at h; subst h; exact r
  | 0, _ :: _, _, _, h, _ => by simp [rowsOf] at h
  | n + 1, vs, rs, l, h, r => by
    simp only [rowsOf] at h
    split at h
    · rename_i a as h1 h2
      simp at h; subst h
      obtain ⟨q1, _⟩ := rowOf_vals h1 (RepL.take r ks.length)
      have q2 := rowsOf_vals h2 (RepL.drop r ks.length)
      rw [← List.take_append_drop ks.length l, q1, q2]
      simp [tabVals]
    · cases h

theorem ajoin_row {e ey e' : Entry A} {row ws : List Value} (h : ajoin e ey = some e') (h1 : RepRow V e row) (h2 : RepRow V ey ws) : RepRow V e' (row ++ ws) := by
  unfold ajoin at h
  split at h
  · split at h
    · rename_i hc; subst hc
      simp at h; subst h
      have e1 : row = _ := h1
      have e2 : ws = _ := h2
      subst e1 e2
      simp [RepRow]
    · cases h
  · rename_i c xs vs
    cases hy : toCodes c vs with
    | none => rw [hy] at h; cases h
    | some ys =>
      rw [hy] at h; simp at h; subst h
      have e1 : row = _ := h1
      have e2 := toCodes_row hy h2
      subst e1 e2
      simp [RepRow]
  · rename_i vs c ys
    cases hy : toCodes c vs with
    | none => rw [hy] at h; cases h
    | some xs =>
      rw [hy] at h; simp at h; subst h
      have e1 := toCodes_row hy h1
      have e2 : ws = _ := h2
      subst e1 e2
      simp [RepRow]
  · simp at h; subst h
    exact RepL.append h1 h2
  · split at h
    · rename_i hc; subst hc
      simp at h; subst h
      have e1 : row = _ := h1
      have e2 : ws = _ := h2
      subst e1 e2
      exact (tabVals_append _ _ _).symm
    · cases h
  · rename_i ks xs vs
    cases hy : rowsOf ks (vs.length / ks.length) vs with
    | none => rw [hy] at h; cases h
    | some ys =>
      rw [hy] at h; simp at h; subst h
      have e1 : row = _ := h1
      have e2 := rowsOf_vals hy h2
      subst e1 e2
      exact (tabVals_append _ _ _).symm
  · cases h

/-- the row at a label, as a slice over it sees it -/
theorem row_at {h : FHeap A} {hR : PHeap} {w : World} (hi : Inv I V h hR w) {l len cap sz : Nat} {e : Entry A} (hl : h l = some e) {base : Option Addr} (hsz : 0 < sz)
    (hrow : (∃ c xs, e = .ints c xs ∧ len = xs.length ∧ sz = 1) ∨ (∃ vs, e = .cells vs ∧ len * sz = vs.length) ∨ (∃ ks rows, e = .tab ks rows ∧ len = rows.length ∧ sz = ks.length))
    (hb : (∃ b k, V l = some (b, k) ∧ base = some ⟨b, 0, none⟩ ∧ 0 + cap * sz ≤ k) ∨ (len = 0 ∧ cap = 0)) :
    ∃ row, RepRow V e row ∧ row.length = len * sz ∧
      ((∃ b k cs T tail, V l = some (b, k) ∧ base = some ⟨b, 0, none⟩ ∧ w.heap[b]? = some (.cells cs T) ∧ cs.size = k ∧ cs.toList = row ++ tail ∧ cap * sz ≤ k ∧
        ∀ g, e.interp I V l g → ∃ o, g = .one b o) ∨ (len = 0 ∧ cap = 0)) := by
  have zero : ∀ n : Nat, 0 + n * sz ≤ 0 → n = 0 := by
    intro n hn
    rcases Nat.eq_zero_or_pos n with h | h
    · exact h
    · have := Nat.mul_pos h hsz; omega
  rcases hrow with ⟨c, xs, rfl, rfl, rfl⟩ | ⟨vs, rfl, hlen⟩ | ⟨ks, rows, rfl, rfl, rfl⟩
  · refine ⟨xs.map c.val, rfl, by simp, ?_⟩
    rcases hb with ⟨b', k', e5, e6, e7⟩ | hb
    · by_cases hk0 : k' = 0
      · subst hk0
        have hc := zero cap e7
        obtain ⟨hs, h1, h2, h3, h4, h5, h6⟩ := hi
        rcases h1 l _ hl with ⟨q1, _⟩ | ⟨b, k, q1, cs, T, tail, q2, q3, q4⟩
        · right; exact ⟨by simp [q1], hc⟩
        · rw [e5] at q1; cases q1
          have : xs.length + tail.length = 0 := by
            have := congrArg List.length q4
            rw [Array.length_toList, q3] at this; simpa using this.symm
          right; exact ⟨by omega, hc⟩
      · left
        have hown : ∀ g, (Entry.ints c xs : Entry A).interp I V l g → ∃ b k cs T tail, V l = some (b, k) ∧ g = .one b (.cells cs T) ∧ cs.size = k ∧ cs.toList = xs.map c.val ++ tail := by
          intro g hg
          rcases hg with ⟨_, _, b, q⟩ | ⟨b, k, q1, cs, T, tail, q2, q3, q4⟩
          · rw [e5] at q; cases q; exact (hk0 rfl).elim
          · exact ⟨b, k, cs, T, tail, q1, q2, q3, q4⟩
        obtain ⟨hs, h1, h2, h3, h4, h5, h6⟩ := hi
        obtain ⟨b, k, cs, T, tail, q1, q2, q3, q4⟩ := hown _ (h1 l _ hl)
        have hsub := h5 l
        rw [q2] at hsub
        rw [e5] at q1; cases q1
        refine ⟨b', k', cs, T, tail, e5, e6, PHeap.one_sub.1 hsub, q3, q4, by omega, ?_⟩
        intro g hg
        obtain ⟨b, k, cs, T, tail, q1, q2, _, _⟩ := hown g hg
        rw [e5] at q1; cases q1
        exact ⟨_, q2⟩
    · exact .inr hb
  · obtain ⟨b, k, cs, T, rs, tail, e1, e2, e3, e4, e5⟩ := hi.cells hl
    refine ⟨rs, e5, by rw [RepL.length e5]; exact hlen.symm, ?_⟩
    rcases hb with ⟨b', k', e6, e7, e8⟩ | hb
    · rw [e1] at e6; cases e6
      refine .inl ⟨b, k, cs, T, tail, e1, e7, e2, e3, e4, by omega, ?_⟩
      rintro g ⟨b1, k1, q1, cs1, T1, q2, _⟩
      rw [e1] at q1; cases q1
      exact ⟨_, q2⟩
    · exact .inr hb
  · refine ⟨tabVals ks rows, rfl, tabVals_length ks rows, ?_⟩
    rcases hb with ⟨b', k', e5, e6, e7⟩ | hb
    · by_cases hk0 : k' = 0
      · subst hk0
        have hc := zero cap e7
        obtain ⟨hs, h1, h2, h3, h4, h5, h6⟩ := hi
        rcases h1 l _ hl with ⟨q1, _⟩ | ⟨b, k, q1, cs, T, tail, q2, q3, q4⟩
        · right; exact ⟨by simp [q1], hc⟩
        · rw [e5] at q1; cases q1
          have : rows.length * ks.length + tail.length = 0 := by
            have := congrArg List.length q4
            rw [Array.length_toList, q3, List.length_append, tabVals_length] at this; exact this.symm
          have h0 : rows.length * ks.length = 0 := by omega
          right; exact ⟨zero rows.length (by omega), hc⟩
      · left
        have hown : ∀ g, (Entry.tab ks rows : Entry A).interp I V l g → ∃ b k cs T tail, V l = some (b, k) ∧ g = .one b (.cells cs T) ∧ cs.size = k ∧ cs.toList = tabVals ks rows ++ tail := by
          intro g hg
          rcases hg with ⟨_, _, b, q⟩ | ⟨b, k, q1, cs, T, tail, q2, q3, q4⟩
          · rw [e5] at q; cases q; exact (hk0 rfl).elim
          · exact ⟨b, k, cs, T, tail, q1, q2, q3, q4⟩
        obtain ⟨hs, h1, h2, h3, h4, h5, h6⟩ := hi
        obtain ⟨b, k, cs, T, tail, q1, q2, q3, q4⟩ := hown _ (h1 l _ hl)
        have hsub := h5 l
        rw [q2] at hsub
        rw [e5] at q1; cases q1
        refine ⟨b', k', cs, T, tail, e5, e6, PHeap.one_sub.1 hsub, q3, q4, by omega, ?_⟩
        intro g hg
        obtain ⟨b, k, cs, T, tail, q1, q2, _, _⟩ := hown g hg
        rw [e5] at q1; cases q1
        exact ⟨_, q2⟩
    · exact .inr hb

/-- nothing appended to nothing -/
theorem tabVals_nil {ks : List Code1} {rows : List (List Int)} (hk : 0 < ks.length) (h : [] = tabVals ks rows) : rows = [] := by
  have := congrArg List.length h
  rw [tabVals_length] at this
  have h0 : rows.length * ks.length = 0 := this.symm
  cases rows with
  | nil => rfl
  | cons x xs =>
    simp only [List.length_cons, Nat.succ_mul] at h0
    omega
def Entry.wide : Entry A → Bool
  | .tab ks _ => Nat.blt 0 ks.length
  | _ => true
theorem ajoin_nil {V V' : Val} {l m : Nat} {e ey e' : Entry A} {g : PHeap} (hwd : e.wide = true) (hj : ajoin e ey = some e') (h1 : RepRow V e []) (h2 : RepRow V ey []) (hV : V.le V') (h : ∀ x, V l = some x → V' m = some x) (hi : e.interp I V l g) : e'.interp I V' m g := by
  have hm := interp_moved (I := I) hV h hi
  unfold ajoin at hj
  split at hj
  · split at hj
    · rename_i hc; subst hc
      rename_i c xs ys
      simp at hj; subst hj
      have e2 : ([] : List Value) = ys.map c.val := h2
      have : ys = [] := by cases ys with | nil => rfl | cons y ys => cases e2
      subst this
      simpa using hm
    · cases hj
  · rename_i c xs vs
    have hvs : vs = [] := List.length_eq_zero_iff.1 (RepL.length h2).symm
    subst hvs
    simp [toCodes] at hj; subst hj
    simpa using hm
  · rename_i vs c ys
    have hvs : vs = [] := List.length_eq_zero_iff.1 (RepL.length h1).symm
    subst hvs
    simp [toCodes] at hj; subst hj
    have e2 : ([] : List Value) = ys.map c.val := h2
    have : ys = [] := by cases ys with | nil => rfl | cons y ys => cases e2
    subst this
    obtain ⟨b, k, q1, cs, T, q2, q3, rs, tl, q4, q5⟩ := hm
    have : rs = [] := List.length_eq_zero_iff.1 (RepL.length q5)
    subst this
    exact .inr ⟨b, k, q1, cs, T, tl, q2, q3, by simpa using q4⟩
  · rename_i vs ws
    have hvs : vs = [] := List.length_eq_zero_iff.1 (RepL.length h1).symm
    have hws : ws = [] := List.length_eq_zero_iff.1 (RepL.length h2).symm
    subst hvs hws
    simp at hj; subst hj
    exact hm
  · rename_i ks xs ks' ys
    have hk : 0 < ks.length := Nat.le_of_ble_eq_true hwd
    split at hj
    · rename_i hc; subst hc
      simp at hj; subst hj
      have : ys = [] := tabVals_nil hk h2
      subst this
      simpa using hm
    · cases hj
  · rename_i ks xs vs
    have hk : 0 < ks.length := Nat.le_of_ble_eq_true hwd
    have hvs : vs = [] := List.length_eq_zero_iff.1 (RepL.length h2).symm
    subst hvs
    simp [rowsOf] at hj; subst hj
    simpa using hm
  · cases hj

theorem firstCells_row {w : World} {b off n sz len cap : Nat} {cs : Array Value} {T : TypeId} {fz : Nat × Nat} (hb : w.heap[b]? = some (.cells cs T fz)) (l : List Value) (hl : l.length = n * sz) (h : ∀ j v, l[j]? = some v → cs[off + j]? = some v) :
    (Builtin.firstCells sz n (.slice (some ⟨b, off, none⟩) len cap)).run P w = .ok l.toArray w := by
  simp only [Builtin.firstCells]
  rw [← hl]
  exact loadCells_row hb l h

theorem firstCells_zero {w : World} {sz len cap : Nat} {base : Option Addr} : (Builtin.firstCells sz 0 (.slice base len cap)).run P w = .ok #[] w := by
  cases base with
  | none => simp [Builtin.firstCells]
  | some a => simp [Builtin.firstCells, loadCells, loadCellsFrom]

theorem asource_run {x : AVal} {sz : Nat} {h : Heap A} {ey : Entry A} {m : Nat} {lx : List Nat} {p : Option Prop} {hR : PHeap} {w : World} {x' : Value} (hs : asource x sz h = some (ey, m, lx, p)) (hp : onp p) (hi : Inv I V (toF h) hR w) (hx : Rep V x x') :
    ∃ ws base cap, x' = .slice base m cap ∧ (∀ q, q ≤ m → (Builtin.firstCells sz q x').run P w = .ok (ws.take (q * sz)).toArray w) ∧ ws.length = m * sz ∧ RepRow V ey ws ∧ ∀ v ∈ ws, v.oneCell' = true := by
  unfold asource at hs
  split at hs
  · rename_i l off n s
    split at hs
    · rename_i hsz; subst hsz
      obtain ⟨base, cap, rfl, hcap, hb⟩ := hx
      split at hs
      · rename_i c xs hh
        split at hs
        · rename_i hs1; subst hs1
          simp only [Option.some.injEq, Prod.mk.injEq] at hs
          obtain ⟨rfl, rfl, rfl, rfl⟩ := hs
          by_cases h0 : n = 0
          · subst h0
            exact ⟨[], base, cap, rfl, fun q hq => by rw [Nat.le_zero.1 hq]; simpa using firstCells_zero, by simp, by simp [RepRow], by simp⟩
          · have hne : xs ≠ [] := by intro e; subst e; simp at hp; omega
            obtain ⟨b, k, cs, T, tail, e1, e2, e3, e4⟩ := hi.ints (l := l) hh hne
            rcases hb with ⟨b', k', e5, e6, e7⟩ | ⟨e5, _⟩
            · rw [e1] at e5; cases e5
              subst e6
              have hlen : ((xs.drop off).take n).length = n := by simp; omega
              refine ⟨((xs.drop off).take n).map c.val, _, _, rfl, ?_, by simp; omega, rfl, by
                intro v hv; obtain ⟨y, _, rfl⟩ := List.mem_map.1 hv; cases c <;> rfl⟩
              intro q hq
              refine firstCells_row e2 _ (by simp; omega) ?_
              intro j v hj
              rw [← Array.getElem?_toList, e4]
              rw [List.getElem?_take] at hj
              split at hj
              case isFalse => cases hj
              rw [List.getElem?_map, List.getElem?_take] at hj
              split at hj
              · rw [List.getElem?_drop] at hj
                cases hq : xs[off + j]? with
                | none => rw [hq] at hj; cases hj
                | some q =>
                  have hlt : off + j < xs.length := by
                    cases Nat.lt_or_ge (off + j) xs.length with
                    | inl g => exact g
                    | inr g => rw [List.getElem?_eq_none g] at hq; cases hq
                  rw [List.getElem?_append_left (by simpa using hlt), List.getElem?_map]
                  exact hj
              · cases hj
            · exact (h0 e5).elim
        · cases hs
      · rename_i vs hh
        split at hs
        · rename_i hlen2
          obtain ⟨hlen, hatom⟩ := hlen2
          simp only [Option.some.injEq, Prod.mk.injEq] at hs
          obtain ⟨rfl, rfl, rfl, rfl⟩ := hs
          obtain ⟨b, k, cs, T, rs, tail, e1, e2, e3, e4, e5⟩ := hi.cells (l := l) hh
          have hrl := RepL.length e5
          rcases hb with ⟨b', k', e6, e7, e8⟩ | ⟨e6, _⟩
          · rw [e1] at e6; cases e6
            subst e7
            have hl2 : ((rs.drop off).take (n * s)).length = n * s := by simp; omega
            refine ⟨(rs.drop off).take (n * s), _, _, rfl, ?_, hl2, RepL.take (RepL.drop e5 off) _, RepL.all (RepL.take (RepL.drop e5 off) _) hatom⟩
            intro q hq
            have hqs : q * s ≤ n * s := Nat.mul_le_mul_right _ hq
            refine firstCells_row e2 _ (by rw [List.length_take]; omega) ?_
            intro j v hj
            rw [← Array.getElem?_toList, e4]
            rw [List.getElem?_take] at hj
            split at hj
            case isFalse => cases hj
            rw [List.getElem?_take] at hj
            split at hj
            · rw [List.getElem?_drop] at hj
              rw [List.getElem?_append_left]
              · exact hj
              · cases Nat.lt_or_ge (off + j) rs.length with
                | inl g => exact g
                | inr g => rw [List.getElem?_eq_none g] at hj; cases hj
            · cases hj
          · subst e6
            exact ⟨[], base, cap, rfl, fun q hq => by rw [Nat.le_zero.1 hq]; simpa using firstCells_zero, by simp, by simp [RepRow, RepL], by simp⟩
        · cases hs
      · cases hs
    · cases hs
  · rename_i c xs
    split at hs
    case isFalse => cases hs
    rename_i hs1; subst hs1
    simp only [Option.some.injEq, Prod.mk.injEq] at hs
    obtain ⟨rfl, rfl, rfl, rfl⟩ := hs
    obtain ⟨base, cap, rfl, hcap, hb⟩ := hx
    rcases hb with ⟨b, off, cs, T, fz, rfl, hcon, tail, ht⟩ | h0
    · refine ⟨xs.map (Code1.val c), _, _, rfl, ?_, by simp, rfl, by
        intro v hv; obtain ⟨y, _, rfl⟩ := List.mem_map.1 hv; cases c <;> rfl⟩
      intro q hq
      refine firstCells_row (hi.conW hcon) _ (by simp; omega) ?_
      intro j v hj
      rw [← Array.getElem?_toList, ← List.getElem?_drop, ht]
      rw [List.getElem?_take] at hj
      split at hj
      · rw [List.getElem?_append_left]
        · exact hj
        · cases Nat.lt_or_ge j (xs.map (Code1.val c)).length with
          | inl g => exact g
          | inr g => rw [List.getElem?_eq_none g] at hj; cases hj
      · cases hj
    · subst h0
      exact ⟨[], base, cap, rfl, fun q hq => by rw [Nat.le_zero.1 hq]; simpa using firstCells_zero, by simp, by simp [RepRow], by simp⟩
  · rename_i l r n w0
    split at hs
    case isFalse => cases hs
    rename_i hw; subst hw
    split at hs
    · rename_i ks rows hh
      split at hs
      · rename_i hkw
        subst hkw
        simp only [Option.some.injEq, Prod.mk.injEq] at hs
        obtain ⟨rfl, rfl, rfl, rfl⟩ := hs
        have hp' : r + n ≤ rows.length := hp
        obtain ⟨base, cap, rfl, hcap, hb⟩ := hx
        by_cases h0 : n = 0
        · subst h0
          exact ⟨[], base, cap, rfl, fun q hq => by rw [Nat.le_zero.1 hq]; simpa using firstCells_zero, by simp, by simp [RepRow, tabVals], by simp⟩
        · have hne : rows ≠ [] := by intro e; subst e; simp at hp'; omega
          obtain ⟨b, k, cs, T, tail, e1, e2, e3, e4⟩ := hi.tab (l := l) hh hne
          rcases hb with ⟨b', k', e5, e6, e7⟩ | ⟨e5, _⟩
          · rw [e1] at e5; cases e5
            subst e6
            have hws : tabVals ks ((rows.drop r).take n) = ((tabVals ks rows).drop (r * ks.length)).take (n * ks.length) := by
              rw [tabVals_drop, tabVals_take]
            have hlen : (tabVals ks ((rows.drop r).take n)).length = n * ks.length := by
              rw [tabVals_length, List.length_take, List.length_drop, Nat.min_eq_left (by omega)]
            refine ⟨tabVals ks ((rows.drop r).take n), _, _, rfl, ?_, hlen, rfl, ?_⟩
            · intro q hq
              have hqs : q * ks.length ≤ n * ks.length := Nat.mul_le_mul_right _ hq
              refine firstCells_row e2 _ (by rw [List.length_take]; omega) ?_
              intro j v hj
              rw [← Array.getElem?_toList, e4]
              rw [hws] at hj
              rw [List.getElem?_take] at hj
              split at hj
              · rw [List.getElem?_take] at hj
                split at hj
                · rw [List.getElem?_drop] at hj
                  rw [List.getElem?_append_left]
                  · exact hj
                  · cases Nat.lt_or_ge (r * ks.length + j) (tabVals ks rows).length with
                    | inl g => exact g
                    | inr g => rw [List.getElem?_eq_none g] at hj; cases hj
                · cases hj
              · cases hj
            · intro v hv
              unfold tabVals at hv
              obtain ⟨rv, hr1, hr2⟩ := List.mem_flatten.1 hv
              obtain ⟨rw0, _, rfl⟩ := List.mem_map.1 hr1
              have : ∀ (ks : List Code1) (xs : List Int), ∀ v ∈ rowVals ks xs, v.oneCell' = true := by
                intro ks
                induction ks with
                | nil => intro xs v hv; cases hv
                | cons k ks ih =>
                  intro xs v hv
                  simp only [rowVals, List.mem_cons] at hv
                  rcases hv with rfl | hv
                  · cases k <;> rfl
                  · exact ih _ v hv
              exact this _ _ v hr2
          · exact (h0 e5).elim
      · cases hs
    · cases hs
  · simp only [Option.some.injEq, Prod.mk.injEq] at hs
    obtain ⟨rfl, rfl, rfl, rfl⟩ := hs
    obtain ⟨base, rfl⟩ := hx
    exact ⟨[], base, 0, rfl, fun q hq => by rw [Nat.le_zero.1 hq]; simpa using firstCells_zero, by simp, by simp [RepRow, RepL], by simp⟩
  · split at hs
    · rename_i hn
      have := isNilSlice_eq hn
      subst this
      simp only [Option.some.injEq, Prod.mk.injEq] at hs
      obtain ⟨rfl, rfl, rfl, rfl⟩ := hs
      have : x' = .slice none 0 0 := hx
      subst this
      exact ⟨[], none, 0, rfl, fun q hq => by rw [Nat.le_zero.1 hq]; simpa using firstCells_zero, by simp, by simp [RepRow, RepL], by simp⟩
    · cases hs

end
end Go.Sh
