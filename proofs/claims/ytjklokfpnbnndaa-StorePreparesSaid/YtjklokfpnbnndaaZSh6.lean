/- The small-heap evaluator, part 6: the operations on memory are sound. -/
import Derived.Test.YtjklokfpnbnndaaZSh5
set_option linter.all false
set_option linter.unusedVariables false
set_option linter.unusedSectionVars false
namespace Go.Sh
open Go
variable [Con] {A : Type} {I : A → Nat → PHeap → Prop}
section
variable {P : Program} {V : Val}

theorem loadCells_row {w : World} {b off : Nat} {cs : Array Value} {T : TypeId} {fz : Nat × Nat} (hb : w.heap[b]? = some (.cells cs T fz)) (l : List Value) (h : ∀ j v, l[j]? = some v → cs[off + j]? = some v) :
    (loadCells ⟨b, off, none⟩ l.length).run P w = .ok l.toArray w := by
  refine run_loadCells_list w _ l fun j v hj => ?_
  rw [Addr.add_lit, cell_of_row w b (off + j) cs T fz hb]
  exact h j v hj

theorem storeCells_row : ∀ (l : List Value) (i : Nat) (w : World) (b off : Nat) (cs : Array Value) (T : TypeId), w.heap[b]? = some (.cells cs T) → (∀ v ∈ l, v.oneCell' = true) → off + i + l.length ≤ cs.size →
    ∃ w' cs', (storeCells ⟨b, off, none⟩ l i).run P w = .ok () w' ∧ w'.heap[b]? = some (.cells cs' T) ∧ cs'.toList = overV cs.toList (off + i) l ∧ (∀ c, c ≠ b → w'.heap[c]? = w.heap[c]?) ∧ Grows w w' := by
  intro l
  induction l with
  | nil => intro i w b off cs T hb _ _; exact ⟨w, cs, by simp [storeCells], hb, rfl, fun _ _ => rfl, Grows.refl w⟩
  | cons v l ih =>
    intro i w b off cs T hb ho hlen
    simp only [List.length_cons] at hlen
    have hc : w.cell? ⟨b, off + i, none⟩ = some cs[off + i] := by
      rw [cell_of_row w b (off + i) cs T (0, 0) hb]; exact Array.getElem?_eq_getElem (by omega)
    have hf : w.frozen? ⟨b, off + i, none⟩ = false := frozen_of_row w b (off + i) cs T hb
    have hb1 := heap_setCell_same w b (off + i) cs T v hb
    obtain ⟨w', cs', h1, h2, h3, h4, h5⟩ := ih (i + 1) (w.setCell ⟨b, off + i, none⟩ v) b off (cs.setIfInBounds (off + i) v) T hb1 (fun v hv => ho v (by simp [hv])) (by simp; omega)
    refine ⟨w', cs', ?_, h2, ?_, ?_, ?_⟩
    · simp only [storeCells, Sem.run_bind, Addr.add_lit, run_store P w _ v .plain (ho v (by simp)), hc, hf]
      exact h1
    · rw [h3]; simp [overV, Nat.add_assoc]
    · intro c hc; rw [h4 c hc, heap_setCell_other w ⟨b, off + i, none⟩ c v hc]
    · exact Grows.trans (b := w.setCell ⟨b, off + i, none⟩ v) ⟨rfl, rfl, by simp, fun _ => by simp⟩ h5

theorem aload_run {t : TypeId} {l off : Nat} {h : Heap A} {r : ORes A} {hR : PHeap} {w : World} {x : Value} (hr : aload P t l off h = some r) (ho : r.obl) (hi : Inv I V (toF h) hR w) (hx : Rep V (.ptr l off) x) :
    ∃ v', (Instr.loadAt t x).run P w = .ok v' w ∧ Rep V r.v v' ∧ r.upd = [] ∧ r.new = [] := by
  obtain ⟨b, k, hl, rfl⟩ := hx
  unfold aload at hr
  split at hr
  · rename_i vs n hh e1 e2
    split at hr
    · rename_i hlen
      simp at hr; subst hr
      obtain ⟨b', k', cs, T, rs, tail, hl', hb, hk, hcs, hrep⟩ := hi.cells (l := l) hh
      rw [hl] at hl'; cases hl'
      have hrl := RepL.length hrep
      refine ⟨.agg ((rs.drop off).take n).toArray, ?_, ⟨_, rfl, by simpa using RepL.take (RepL.drop hrep off) n⟩, rfl, rfl⟩
      have := loadCells_row (P := P) hb ((rs.drop off).take n) (off := off) (fun j v hj => by
        rw [← Array.getElem?_toList, hcs]
        rw [List.getElem?_take] at hj
        split at hj
        · rw [List.getElem?_drop] at hj
          rw [List.getElem?_append_left]
          · exact hj
          · cases Nat.lt_or_ge (off + j) rs.length with
            | inl h => exact h
            | inr h => rw [List.getElem?_eq_none h] at hj; cases hj
        · cases hj)
      have hln : ((rs.drop off).take n).length = n := by simp; omega
      rw [hln] at this
      simp [Instr.loadAt, Instr.sureAddr, loadVar, aisAgg_run e1, asize_run e2, this]
    · cases hr
  · rename_i vs e0 hh e1
    split at hr
    · rename_i v hv
      simp at hr; subst hr
      obtain ⟨b', k', cs, T, rs, tail, hl', hb, hk, hcs, hrep⟩ := hi.cells (l := l) hh
      rw [hl] at hl'; cases hl'
      obtain ⟨y, hy, ry⟩ := RepL.get hrep off v hv
      refine ⟨y, ?_, ry, rfl, rfl⟩
      have hc : w.cell? ⟨b, off, none⟩ = some y := by
        rw [cell_of_row w b off cs T (0, 0) hb, ← Array.getElem?_toList, hcs, List.getElem?_append_left]
        · exact hy
        · cases Nat.lt_or_ge off rs.length with
          | inl h => exact h
          | inr h => rw [List.getElem?_eq_none h] at hy; cases hy
      simp [Instr.loadAt, Instr.sureAddr, loadVar, aisAgg_run e1, hc]
    · cases hr
  · rename_i c xs hh e1
    simp at hr; subst hr
    have ho' : off < xs.length := ho
    obtain ⟨b', k', cs, T, tail, hl', hb, hk, hcs⟩ := hi.ints (l := l) hh (by intro e; subst e; simp at ho')
    rw [hl] at hl'; cases hl'
    refine ⟨c.val (xs.getD off 0), ?_, Code1.rep V c _, rfl, rfl⟩
    have hc : w.cell? ⟨b, off, none⟩ = some (c.val (xs.getD off 0)) := by
      rw [cell_of_row w b off cs T (0, 0) hb, ← Array.getElem?_toList, hcs, List.getElem?_append_left (by simpa using ho')]
      simp [List.getD, ho']
    simp [Instr.loadAt, Instr.sureAddr, loadVar, aisAgg_run e1, hc]
  · cases hr

theorem Inv.conW {h : FHeap A} {hR : PHeap} {w : World} (hi : Inv I V h hR w) {b : Nat} {o : Obj} (hb : Con.con b = some o) : w.heap[b]? = some o := by
  obtain ⟨_, _, _, _, _, _, h6⟩ := hi
  exact h6.1 b o (h6.2 b o hb)
theorem none_le (V : Val) : Val.le (fun _ => none) V := fun _ _ h => by cases h

theorem aloadC_run {t : TypeId} {as : List AVal} {v : AVal} {h : FHeap A} {hR : PHeap} {w : World} {x : Value} (hr : aloadC P t as = some v) (hi : Inv I V h hR w) (hx : Rep V (.cptr as) x) :
    ∃ v', (Instr.loadAt t x).run P w = .ok v' w ∧ Rep V v v' := by
  obtain ⟨b, off, cs, T, fz, rfl, hb0, hrep⟩ := hx
  have hb := hi.conW hb0
  unfold aloadC at hr
  split at hr
  · rename_i n e1 e2
    split at hr
    · rename_i hlen
      simp at hr; subst hr
      have hrl := RepL.length hrep
      have htake := RepL.take hrep n
      refine ⟨.agg (((cs.toList.drop off).take as.length).take n).toArray, ?_, ⟨_, rfl, by simpa using RepL.mono (none_le V) _ _ htake⟩⟩
      have := loadCells_row (P := P) hb (((cs.toList.drop off).take as.length).take n) (off := off) (fun j v hj => by
        rw [List.getElem?_take] at hj
        split at hj
        · rw [List.getElem?_take] at hj
          split at hj
          · rw [List.getElem?_drop] at hj
            rw [← Array.getElem?_toList]; exact hj
          · cases hj
        · cases hj)
      have hln : (((cs.toList.drop off).take as.length).take n).length = n := by rw [List.length_take, hrl]; omega
      rw [hln] at this
      simp [Instr.loadAt, Instr.sureAddr, loadVar, aisAgg_run e1, asize_run e2, this]
    · cases hr
  · rename_i e0 e1
    obtain ⟨y, hy, ry⟩ := RepL.get hrep 0 v hr
    refine ⟨y, ?_, Rep.mono (none_le V) _ _ ry⟩
    have hc : w.cell? ⟨b, off, none⟩ = some y := by
      rw [cell_of_row w b off cs T fz hb, ← Array.getElem?_toList]
      rw [List.getElem?_take] at hy
      split at hy
      · rw [List.getElem?_drop] at hy; exact hy
      · cases hy
    simp [Instr.loadAt, Instr.sureAddr, loadVar, aisAgg_run e1, hc]
  · cases hr

theorem cptr_drop {as : List AVal} {b off k : Nat} {cs : Array Value} {T : TypeId} {fz : Nat × Nat} (hb : Con.con b = some (.cells cs T fz)) (hr : RepL (fun _ => none) as ((cs.toList.drop off).take as.length)) :
    Rep V (.cptr (as.drop k)) (.pointer (some ⟨b, off + k, none⟩)) := by
  refine ⟨b, off + k, cs, T, fz, rfl, hb, ?_⟩
  have := RepL.drop hr k
  have e : List.drop k (List.take as.length (List.drop off cs.toList)) = List.take (as.drop k).length (List.drop (off + k) cs.toList) := by
    rw [List.drop_take, List.drop_drop, List.length_drop]
  rw [← e]; exact this

theorem RepL.all {V : Val} : ∀ {a : List AVal} {v : List Value}, RepL V a v → a.all AVal.atom = true → ∀ x ∈ v, x.oneCell' = true
  | [], _, r, _ => by rw [r]; simp
  | a :: as, _, ⟨v, vs, e, r, s⟩, h => by
    subst e
    simp only [List.all_cons, Bool.and_eq_true] at h
    intro x hx
    rcases List.mem_cons.1 hx with rfl | hx
    · exact rep_atom r h.1
    · exact RepL.all s h.2 x hx

theorem fromCode_val {c : Code1} {x : AVal} {n : Int} {x' : Value} (h : fromCode c x = some n) (hx : Rep V x x') : x' = c.val n := by
  cases c with
  | some k =>
    cases x <;> simp [fromCode] at h
    obtain ⟨rfl, rfl⟩ := h
    exact hx
  | none =>
    cases x <;> simp [fromCode] at h
    rename_i b
    subst h
    have : x' = .bool b := hx
    subst this
    cases b <;> rfl

theorem overV_one (ds : List Value) (off : Nat) (v : Value) : overV ds off [v] = ds.set off v := rfl

theorem astore_run {t : TypeId} {l off : Nat} {x : AVal} {h : Heap A} {r : ORes A} {hR : PHeap} {w : World} {p y : Value} (hr : astore P t l off x h = some r) (ho : r.obl) (hi : Inv I V (toF h) hR w) (hp : Rep V (.ptr l off) p) (hy : Rep V x y) :
    ∃ w', (Instr.storeAt t p y).run P w = .ok () w' ∧ Inv I V (toF (r.apply h)) hR w' ∧ Grows w w' ∧ r.v = .raw undef ∧ r.new = [] := by
  obtain ⟨b, k, hl, rfl⟩ := hp
  unfold astore at hr
  split at hr
  · rename_i vs hh
    split at hr
    · rename_i hc
      obtain ⟨e1, e2, e3⟩ := hc
      simp at hr; subst hr
      obtain ⟨b', k', cs, T, rs, tail, hl', hb, hk, hcs, hrep⟩ := hi.cells (l := l) hh
      rw [hl] at hl'; cases hl'
      have hrl := RepL.length hrep
      have rc := rep_cells hy (by cases x <;> first | rfl | (simp [AVal.cells, AVal.atom] at e2))
      have hlen : y.cells.toList.length = x.cells.length := RepL.length rc
      have hsz : cs.size = rs.length + tail.length := by rw [← Array.length_toList, hcs]; simp
      obtain ⟨w', cs', h1, h2, h3, h4, h5⟩ := storeCells_row (P := P) y.cells.toList 0 w b off cs T hb (RepL.all rc e2) (by omega)
      refine ⟨w', ?_, ?_, h5, rfl, rfl⟩
      · have : y.cells.size = x.cells.length := by rw [← Array.length_toList]; exact hlen
        simp [Instr.storeAt, Instr.sureAddr, storeVar, asize_run e1, this, h1]
      · have hlt := hget_lt hh
        show Inv I V (toF (hupd h [(l, some (.cells (over vs off x.cells)))] ++ [])) hR w'
        simp only [hupd, List.foldl_cons, List.foldl_nil, List.append_nil]
        rw [toF_set _ hlt]
        refine hi.replace (e := .cells vs) hh (b := b) (o' := .cells cs' T) ?_ ?_ h2 h4
        · rintro g ⟨b1, k1, hl1, cs1, T1, e4, _⟩
          rw [hl] at hl1; cases hl1
          exact ⟨_, e4⟩
        · refine ⟨b, k, hl, cs', T, rfl, ?_, overV rs off y.cells.toList, tail, ?_, over_rep off rc hrep⟩
          · rw [← Array.length_toList, h3, overV_length, Array.length_toList]; exact hk
          · rw [h3, hcs]; simp only [Nat.add_zero]; exact overV_append _ _ _ _ (by omega)
    · cases hr
  · rename_i c xs hh
    split at hr
    · rename_i e1
      cases hfc : fromCode c x with
      | none => rw [hfc] at hr; cases hr
      | some n =>
        rw [hfc] at hr; simp at hr; subst hr
        have ho' : off < xs.length := ho
        obtain ⟨b', k', cs, T, tail, hl', hb, hk, hcs⟩ := hi.ints (l := l) hh (by intro e; subst e; simp at ho')
        rw [hl] at hl'; cases hl'
        have hyv := fromCode_val hfc hy
        have hcells : y.cells = #[c.val n] := by rw [hyv]; cases c <;> rfl
        have hone : (c.val n).oneCell' = true := by cases c <;> rfl
        have hsz : cs.size = xs.length + tail.length := by rw [← Array.length_toList, hcs]; simp
        obtain ⟨w', cs', h1, h2, h3, h4, h5⟩ := storeCells_row (P := P) [c.val n] 0 w b off cs T hb (by simpa using hone) (by simp; omega)
        refine ⟨w', ?_, ?_, h5, rfl, rfl⟩
        · simp [Instr.storeAt, Instr.sureAddr, storeVar, asize_run e1, hcells, h1]
        · have hlt := hget_lt hh
          show Inv I V (toF (hupd h [(l, some (.ints c (xs.set off n)))] ++ [])) hR w'
          simp only [hupd, List.foldl_cons, List.foldl_nil, List.append_nil]
          rw [toF_set _ hlt]
          have hne : xs ≠ [] := by intro e; subst e; simp at ho'
          obtain ⟨hs, g1, g2, g3, g4, g5, g6⟩ := hi
          have hi' : Inv I V (toF h) hR w := ⟨hs, g1, g2, g3, g4, g5, g6⟩
          refine hi'.replace (e := .ints c xs) hh (b := b) (o' := .cells cs' T) ?_ ?_ h2 h4
          · intro g hg
            rcases hg with ⟨e, _⟩ | ⟨b1, k1, hl1, cs1, T1, tl1, e4, _⟩
            · exact (hne e).elim
            · rw [hl] at hl1; cases hl1
              exact ⟨_, e4⟩
          · refine .inr ⟨b, k, hl, cs', T, tail, rfl, ?_, ?_⟩
            · rw [← Array.length_toList, h3, overV_length, Array.length_toList]; exact hk
            · rw [h3, hcs]
              simp only [Nat.add_zero, overV_one]
              rw [List.set_append_left _ _ (by simpa using ho'), List.map_set]
    · cases hr
  · cases hr

/-- a new block of cells -/
theorem new_cells {h : Heap A} {hR : PHeap} {w : World} (hi : Inv I V (toF h) hR w) (hV : V h.length = none) {vs : List AVal} {cs : Array Value} {T : TypeId} (hr : RepL V vs cs.toList) :
    Inv I (V.add h.length (w.heap.size, cs.size)) (toF (h ++ [some (.cells vs)])) hR { w with heap := w.heap.push (.cells cs T) } := by
  rw [toF_push]
  refine hi.push hV (hget_ge (Nat.le_refl _)) ?_
  exact ⟨_, _, Val.add_self _ _ _, cs, T, rfl, rfl, cs.toList, [], by simp, RepL.mono (Val.le_add hV) _ _ hr⟩

theorem add_dom {V : Val} {n : Nat} {x : Nat × Nat} : ∀ l, V l = none → (V.add n x) l ≠ none → n ≤ l ∧ l < n + 1 := by
  intro l h1 h2
  by_cases e : l = n
  · subst e; omega
  · rw [Val.add_ne V x e] at h2; exact (h2 h1).elim

theorem OpOk.newCells {h : Heap A} {hR : PHeap} {w : World} {s : Sem Next} (hi : Inv I V (toF h) hR w) (hV : V h.length = none) {vs : List AVal} {cs : Array Value} {T : TypeId} (hr : RepL V vs cs.toList)
    (hs : s.run P w = .ok (.value (.pointer (some ⟨w.heap.size, 0, none⟩))) { w with heap := w.heap.push (.cells cs T) }) :
    OpOk I P V h.length hR w (.ptr h.length 0) (toF (h ++ [some (.cells vs)])) 1 s := by
  refine ⟨_, _, V.add h.length (w.heap.size, cs.size), _, hs, .inl rfl, Val.le_add hV, add_dom, ?_, new_cells hi hV hr, ⟨rfl, rfl, by simp, fun _ => frozen_alloc _ _ _ _⟩⟩
  exact ⟨_, _, Val.add_self _ _ _, rfl⟩

end
end Go.Sh
