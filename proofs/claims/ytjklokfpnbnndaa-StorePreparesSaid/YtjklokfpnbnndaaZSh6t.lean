/- The small-heap evaluator, part 6t: tables: reading and writing their rows. -/
import Derived.Test.YtjklokfpnbnndaaZSh6
set_option linter.all false
set_option linter.unusedVariables false
set_option linter.unusedSectionVars false
namespace Go.Sh
open Go
variable [Con] {A : Type} {I : A → Nat → PHeap → Prop}

theorem rowVals_length : ∀ (ks : List Code1) (xs : List Int), (rowVals ks xs).length = ks.length
  | [], _ => rfl
  | k :: ks, xs => by simp [rowVals, rowVals_length ks]
theorem rowA_length : ∀ (ks : List Code1) (xs : List Int), (rowA ks xs).length = ks.length
  | [], _ => rfl
  | k :: ks, xs => by simp [rowA, rowA_length ks]
theorem rowVals_get : ∀ (ks : List Code1) (xs : List Int) (i : Nat), (rowVals ks xs)[i]? = ks[i]?.map fun k => Code1.val k (xs.getD i 0)
  | [], _, i => by simp [rowVals]
  | k :: ks, xs, 0 => by cases xs <;> simp [rowVals]
  | k :: ks, xs, i + 1 => by
    simp only [rowVals, List.getElem?_cons_succ]
    rw [rowVals_get ks xs.tail i]
    congr 1
    funext k
    cases xs <;> simp
theorem rowA_rep (V : Val) : ∀ (ks : List Code1) (xs : List Int), RepL V (rowA ks xs) (rowVals ks xs)
  | [], _ => rfl
  | k :: ks, xs => ⟨_, _, rfl, Code1.rep V k _, rowA_rep V ks xs.tail⟩

theorem tabVals_length (ks : List Code1) : ∀ rows : List (List Int), (tabVals ks rows).length = rows.length * ks.length
  | [] => by simp [tabVals]
  | r :: rows => by
    have := tabVals_length ks rows
    simp only [tabVals] at this
    simp only [tabVals, List.map_cons, List.flatten_cons, List.length_append, rowVals_length, List.length_cons, this, Nat.succ_mul]
    omega
theorem tabVals_append (ks : List Code1) (a b : List (List Int)) : tabVals ks (a ++ b) = tabVals ks a ++ tabVals ks b := by simp [tabVals]
theorem tabVals_drop (ks : List Code1) (rows : List (List Int)) (r : Nat) : (tabVals ks rows).drop (r * ks.length) = tabVals ks (rows.drop r) := by
  induction r generalizing rows with
  | zero => simp
  | succ r ih =>
    cases rows with
    | nil => simp [tabVals]
    | cons x rows =>
      rw [Nat.succ_mul, Nat.add_comm, ← List.drop_drop]
      have : (tabVals ks (x :: rows)).drop ks.length = tabVals ks rows := by
        simp only [tabVals, List.map_cons, List.flatten_cons]
        rw [List.drop_append_of_le_length (by rw [rowVals_length]; exact Nat.le_refl _), List.drop_of_length_le (by rw [rowVals_length]; exact Nat.le_refl _)]
        rfl
      rw [this, ih]; rfl
theorem tabVals_take (ks : List Code1) (rows : List (List Int)) (r : Nat) : (tabVals ks rows).take (r * ks.length) = tabVals ks (rows.take r) := by
  induction r generalizing rows with
  | zero => simp [tabVals]
  | succ r ih =>
    cases rows with
    | nil => simp [tabVals]
    | cons x rows =>
      rw [Nat.succ_mul, Nat.add_comm]
      simp only [tabVals, List.map_cons, List.flatten_cons, List.take_succ_cons]
      rw [List.take_add, List.take_append_of_le_length (by rw [rowVals_length]; exact Nat.le_refl _), List.take_of_length_le (by rw [rowVals_length]; exact Nat.le_refl _),
        List.drop_append_of_le_length (by rw [rowVals_length]; exact Nat.le_refl _), List.drop_of_length_le (by rw [rowVals_length]; exact Nat.le_refl _)]
      have := ih rows
      simp only [tabVals] at this
      simp [this]
theorem tab_at {ks : List Code1} {rows : List (List Int)} {r j : Nat} (hr : r < rows.length) (hj : j ≤ ks.length) :
    ∃ rest, (tabVals ks rows).drop (r * ks.length + j) = (rowVals ks (rows.getD r [])).drop j ++ rest := by
  refine ⟨tabVals ks (rows.drop (r + 1)), ?_⟩
  rw [← List.drop_drop, tabVals_drop, List.drop_eq_getElem_cons hr, List.getD_eq_getElem?_getD, List.getElem?_eq_getElem hr]
  simp only [tabVals, List.map_cons, List.flatten_cons, Option.getD_some]
  rw [List.drop_append_of_le_length (by rw [rowVals_length]; exact hj)]

theorem Inv.tab {V : Val} {h : FHeap A} {hR : PHeap} {w : World} (hi : Inv I V h hR w) {l : Nat} {ks : List Code1} {rows : List (List Int)} (hl : h l = some (.tab ks rows)) (hne : rows ≠ []) :
    ∃ b k cs T tail, V l = some (b, k) ∧ w.heap[b]? = some (.cells cs T) ∧ cs.size = k ∧ cs.toList = tabVals ks rows ++ tail := by
  obtain ⟨hs, h1, h2, h3, h4, h5, h6⟩ := hi
  rcases h1 l _ hl with ⟨e, _⟩ | ⟨b, k, e1, cs, T, tail, e2, e3, e4⟩
  · exact (hne e).elim
  · have := h5 l
    rw [e2] at this
    exact ⟨b, k, cs, T, tail, e1, PHeap.one_sub.1 this, e3, e4⟩

theorem Inv.emptyE {V : Val} {h : FHeap A} {hR : PHeap} {w : World} (hi : Inv I V h hR w) {l : Nat} (hV : V l = none) (hl : h l = none) {e : Entry A} (he : ∀ V' : Val, (∃ b, V' l = some (b, 0)) → e.interp I V' l .emp) : Inv I (V.add l (0, 0)) (h.put l (some e)) hR w := by
  obtain ⟨hs, h1, h2, h3, h4, h5, h6⟩ := hi
  refine ⟨hs, ?_, ?_, h3, h4, h5, h6⟩
  · intro m x hm
    by_cases hml : m = l
    · subst hml
      simp [FHeap.put] at hm; subst hm
      rw [h2 m hl]
      exact he _ ⟨0, Val.add_self _ _ _⟩
    · simp [FHeap.put, hml] at hm; exact Entry.interp_mono (Val.le_add hV) (h1 m x hm)
  · intro m hm
    by_cases hml : m = l
    · subst hml; exact h2 m hl
    · simp [FHeap.put, hml] at hm; exact h2 m hm

section
variable {P : Program} {V : Val}

/-- reading where a row of cells is known -/
theorem load_seg {t : TypeId} {b off : Nat} {cs : Array Value} {T : TypeId} {w : World} {seg rest : List Value} {as : List AVal} {v : AVal} (hb : w.heap[b]? = some (.cells cs T)) (hseg : cs.toList.drop off = seg ++ rest) (hr : RepL V as seg)
    (hv : aloadC P t as = some v) : ∃ v', (Instr.loadAt t (.pointer (some ⟨b, off, none⟩))).run P w = .ok v' w ∧ Rep V v v' := by
  have hrl := RepL.length hr
  unfold aloadC at hv
  split at hv
  · rename_i n e1 e2
    split at hv
    · rename_i hlen
      simp at hv; subst hv
      refine ⟨.agg (seg.take n).toArray, ?_, ⟨_, rfl, by simpa using RepL.take hr n⟩⟩
      have := loadCells_row (P := P) hb (seg.take n) (off := off) (fun j v hj => by
        rw [List.getElem?_take] at hj
        split at hj
        · rw [← Array.getElem?_toList, ← List.getElem?_drop, hseg, List.getElem?_append_left]
          · exact hj
          · cases Nat.lt_or_ge j seg.length with
            | inl h => exact h
            | inr h => rw [List.getElem?_eq_none h] at hj; cases hj
        · cases hj)
      have hln : (seg.take n).length = n := by rw [List.length_take]; omega
      rw [hln] at this
      simp [Instr.loadAt, Instr.sureAddr, loadVar, aisAgg_run e1, asize_run e2, this]
    · cases hv
  · rename_i e0 e1
    obtain ⟨y, hy, ry⟩ := RepL.get hr 0 v hv
    refine ⟨y, ?_, ry⟩
    have hc : w.cell? ⟨b, off, none⟩ = some y := by
      rw [cell_of_row w b off cs T (0, 0) hb, ← Array.getElem?_toList]
      have : cs.toList[off]? = (cs.toList.drop off)[0]? := by rw [List.getElem?_drop]; rfl
      rw [this, hseg, List.getElem?_append_left]
      · exact hy
      · cases Nat.lt_or_ge 0 seg.length with
        | inl h => exact h
        | inr h => rw [List.getElem?_eq_none h] at hy; cases hy
    simp [Instr.loadAt, Instr.sureAddr, loadVar, aisAgg_run e1, hc]
  · cases hv

theorem aloadT_run {t : TypeId} {l r0 w0 j : Nat} {h : Heap A} {r : ORes A} {hR : PHeap} {w : World} {x : Value} (hr : aloadT P t l r0 w0 j h = some r) (ho : r.obl) (hi : Inv I V (toF h) hR w) (hx : Rep V (.tptr l r0 w0 j) x) :
    ∃ v', (Instr.loadAt t x).run P w = .ok v' w ∧ Rep V r.v v' ∧ r.upd = [] ∧ r.new = [] := by
  obtain ⟨b, k, hl, rfl⟩ := hx
  unfold aloadT at hr
  have go : ∀ (ks : List Code1) (rows : List (List Int)) (v : AVal), hget h l = some (.tab ks rows) → ks.length = w0 → r0 < rows.length → j ≤ w0 → aloadC P t ((rowA ks (rows.getD r0 [])).drop j) = some v →
      ∃ v', (Instr.loadAt t (.pointer (some ⟨b, r0 * w0 + j, none⟩))).run P w = .ok v' w ∧ Rep V v v' := by
    intro ks rows v hh hw hlt hj hv
    obtain ⟨b', k', cs, T, tail, hl', hb, hk, hcs⟩ := hi.tab (l := l) hh (by intro e; subst e; simp at hlt)
    rw [hl] at hl'; cases hl'
    obtain ⟨rest, hrest⟩ := tab_at (ks := ks) (j := j) hlt (by omega)
    rw [hw] at hrest
    refine load_seg hb (seg := (rowVals ks (rows.getD r0 [])).drop j) (rest := rest ++ tail) ?_ (RepL.drop (rowA_rep V ks _) j) hv
    rw [hcs, List.drop_append_of_le_length, hrest, List.append_assoc]
    rw [tabVals_length, hw]
    have : (r0 + 1) * w0 ≤ rows.length * w0 := Nat.mul_le_mul_right _ hlt
    rw [Nat.succ_mul] at this
    omega
  split at hr
  · rename_i ks rows n hh e1 e2
    split at hr
    · rename_i hc
      simp at hr; subst hr
      have hlt : r0 < rows.length := ho
      obtain ⟨v', g1, g2⟩ := go ks rows (.agg (((rowA ks (rows.getD r0 [])).drop j).take n)) hh hc.1 hlt (by omega) (by
        unfold aloadC
        rw [e1, e2]
        simp only
        rw [if_pos]
        rw [List.length_drop, rowA_length]; omega)
      exact ⟨v', g1, g2, rfl, rfl⟩
    · cases hr
  · rename_i e0 ks rows hh e1
    split at hr
    · rename_i hw
      split at hr
      · rename_i v hv
        simp at hr; subst hr
        have hlt : r0 < rows.length := ho
        have hj : j < (rowA ks (rows.getD r0 [])).length := by
          cases Nat.lt_or_ge j (rowA ks (rows.getD r0 [])).length with
          | inl h => exact h
          | inr h => rw [List.getElem?_eq_none h] at hv; cases hv
        rw [rowA_length] at hj
        obtain ⟨v', g1, g2⟩ := go ks rows v hh hw hlt (by omega) (by
          unfold aloadC
          rw [e1]
          simp only [List.getElem?_drop, Nat.add_zero]
          exact hv)
        exact ⟨v', g1, g2, rfl, rfl⟩
      · cases hr
    · cases hr
  · cases hr

theorem rowOf_vals : ∀ {ks : List Code1} {vs : List AVal} {ns : List Int} {l : List Value}, rowOf ks vs = some ns → RepL V vs l → l = rowVals ks ns ∧ ns.length = ks.length
  | [], [], ns, l, h, r => by simp [rowOf] at h; subst h; exact ⟨r, rfl⟩
  | k :: ks, v :: vs, ns, l, h, ⟨x, xs, e, r, s⟩ => by
    simp only [rowOf] at h
    split at h
    · rename_i n ns' h1 h2
      simp at h; subst h; subst e
      obtain ⟨q1, q2⟩ := rowOf_vals h2 s
      rw [fromCode_val h1 r, q1]
      exact ⟨rfl, by simp [q2]⟩
    · cases h
  | [], _ :: _, _, _, h, _ => by simp [rowOf] at h
  | _ :: _, [], _, _, h, _ => by simp [rowOf] at h

theorem overV_get : ∀ (ys ds : List Value) (off i : Nat), off + ys.length ≤ ds.length → (overV ds off ys)[i]? = if off ≤ i ∧ i < off + ys.length then ys[i - off]? else ds[i]?
  | [], ds, off, i, _ => by
    simp only [overV, List.length_nil, Nat.add_zero]
    rw [if_neg (by omega)]
  | y :: ys, ds, off, i, h => by
    simp only [List.length_cons] at h
    simp only [overV]
    rw [overV_get ys (ds.set off y) (off + 1) i (by simp; omega)]
    simp only [List.length_cons]
    by_cases h1 : off + 1 ≤ i ∧ i < off + 1 + ys.length
    · rw [if_pos h1, if_pos (by omega), show i - off = (i - (off + 1)) + 1 from by omega, List.getElem?_cons_succ]
    · rw [if_neg h1]
      by_cases h2 : i = off
      · subst h2
        rw [if_pos (by omega), Nat.sub_self]
        simp [List.getElem?_set]
        omega
      · rw [if_neg (by omega), List.getElem?_set_ne (by omega)]

theorem overV_pre (A : List Value) : ∀ (N R : List Value) (j : Nat), overV (A ++ R) (A.length + j) N = A ++ overV R j N
  | [], R, j => rfl
  | x :: N, R, j => by
    simp only [overV]
    rw [List.set_append_right _ _ (by omega), show A.length + j - A.length = j from by omega, show A.length + j + 1 = A.length + (j + 1) from rfl]
    exact overV_pre A N (R.set j x) (j + 1)
theorem overV_mid (A R S N : List Value) (j : Nat) (h : j + N.length ≤ R.length) : overV (A ++ (R ++ S)) (A.length + j) N = A ++ (overV R j N ++ S) := by
  rw [overV_pre, overV_append _ _ _ _ h]

theorem rowPut_vals {ks : List Code1} {row ns : List Int} {j : Nat} (hj : j + ns.length ≤ ks.length) :
    rowVals ks (rowPut ks.length row j ns) = overV (rowVals ks row) j (rowVals ((ks.drop j).take ns.length) ns) := by
  have hlen : (rowVals ((ks.drop j).take ns.length) ns).length = ns.length := by rw [rowVals_length, List.length_take, List.length_drop]; omega
  apply List.ext_getElem?
  intro i
  rw [overV_get _ _ _ _ (by rw [hlen, rowVals_length]; exact hj), hlen, rowVals_get]
  by_cases hi : i < ks.length
  · have e : (rowPut ks.length row j ns).getD i 0 = if j ≤ i ∧ i < j + ns.length then ns.getD (i - j) 0 else row.getD i 0 := by
      unfold rowPut
      rw [List.getD_eq_getElem?_getD, List.getElem?_map, List.getElem?_range hi]; rfl
    rw [e]
    by_cases hc : j ≤ i ∧ i < j + ns.length
    · rw [if_pos hc, if_pos hc, rowVals_get, List.getElem?_take, if_pos (by omega), List.getElem?_drop, show j + (i - j) = i from by omega]
    · rw [if_neg hc, if_neg hc, rowVals_get]
  · have e : ks[i]? = none := List.getElem?_eq_none (by omega)
    rw [e]
    rw [if_neg (by omega), rowVals_get, e]
    rfl

theorem astoreT_run {t : TypeId} {l r0 w0 j : Nat} {x : AVal} {h : Heap A} {r : ORes A} {hR : PHeap} {w : World} {p y : Value} (hr : astoreT P t l r0 w0 j x h = some r) (ho : r.obl) (hi : Inv I V (toF h) hR w) (hp : Rep V (.tptr l r0 w0 j) p) (hy : Rep V x y) :
    ∃ w', (Instr.storeAt t p y).run P w = .ok () w' ∧ Inv I V (toF (r.apply h)) hR w' ∧ Grows w w' ∧ r.v = .raw undef ∧ r.new = [] := by
  obtain ⟨b, k, hl, rfl⟩ := hp
  unfold astoreT at hr
  split at hr
  · rename_i ks rows hh
    split at hr
    · rename_i hc
      obtain ⟨e1, hw, hjw⟩ := hc
      subst hw
      split at hr
      · rename_i ns hns
        simp at hr; subst hr
        have hlt : r0 < rows.length := ho
        have hne : rows ≠ [] := by intro e; subst e; simp at hlt
        obtain ⟨b', k', cs, T, tail, hl', hb, hk, hcs⟩ := hi.tab (l := l) hh hne
        rw [hl] at hl'; cases hl'
        have htold : x.told = true := by
          cases hq : x.told with
          | true => rfl
          | false =>
            exfalso
            cases x with
            | top =>
              simp only [AVal.cells, List.length_singleton] at hns
              cases hk2 : List.take 1 (List.drop j ks) with
              | nil => rw [hk2] at hns; simp [rowOf] at hns
              | cons q qs =>
                rw [hk2] at hns
                cases q <;> simp [rowOf, fromCode] at hns
            | _ => cases hq
        have rc := rep_cells hy htold
        obtain ⟨q1, q2⟩ := rowOf_vals hns rc
        have hxl : x.cells.length = ns.length := by rw [q2, List.length_take, List.length_drop]; omega
        rw [hxl] at q1 hjw e1
        have hyl : y.cells.toList.length = ns.length := by rw [RepL.length rc, hxl]
        have hsz : cs.size = rows.length * ks.length + tail.length := by rw [← Array.length_toList, hcs, List.length_append, tabVals_length]
        have hrow : (r0 + 1) * ks.length ≤ rows.length * ks.length := Nat.mul_le_mul_right _ hlt
        rw [Nat.succ_mul] at hrow
        have hone : ∀ v ∈ y.cells.toList, v.oneCell' = true := by
          rw [q1]
          have : ∀ (ks : List Code1) (xs : List Int), ∀ v ∈ rowVals ks xs, v.oneCell' = true := by
            intro ks
            induction ks with
            | nil => intro xs v hv; cases hv
            | cons k ks ih =>
              intro xs v hv
              simp only [rowVals, List.mem_cons] at hv
              rcases hv with rfl | hv
              · cases k <;> rfl
              · exact ih _ v hv
          exact this _ _
        obtain ⟨w', cs', h1, h2, h3, h4, h5⟩ := storeCells_row (P := P) y.cells.toList 0 w b (r0 * ks.length + j) cs T hb hone (by omega)
        refine ⟨w', ?_, ?_, h5, rfl, rfl⟩
        · have : y.cells.size = ns.length := by rw [← Array.length_toList]; exact hyl
          simp [Instr.storeAt, Instr.sureAddr, storeVar, asize_run e1, this, h1]
        · have hltl := hget_lt hh
          show Inv I V (toF (hupd h [(l, some (.tab ks (rows.set r0 (rowPut ks.length (rows.getD r0 []) j ns))))] ++ [])) hR w'
          simp only [hupd, List.foldl_cons, List.foldl_nil, List.append_nil]
          rw [toF_set _ hltl]
          refine hi.replace (e := .tab ks rows) hh (b := b) (o' := .cells cs' T) ?_ ?_ h2 h4
          · intro g hg
            rcases hg with ⟨e, _⟩ | ⟨b1, k1, hl1, cs1, T1, tl1, e4, _⟩
            · exact (hne e).elim
            · rw [hl] at hl1; cases hl1
              exact ⟨_, e4⟩
          · refine .inr ⟨b, k, hl, cs', T, tail, rfl, ?_, ?_⟩
            · rw [← Array.length_toList, h3, overV_length, Array.length_toList]; exact hk
            · rw [h3, hcs, Nat.add_zero, q1, overV_append _ _ _ _ (by rw [← q1, hyl, tabVals_length]; omega)]
              congr 1
              -- the table's cells, row by row
              have hsplit : rows = rows.take r0 ++ rows.getD r0 [] :: rows.drop (r0 + 1) := by
                rw [List.getD_eq_getElem?_getD, List.getElem?_eq_getElem hlt]
                simp
              have hset : rows.set r0 (rowPut ks.length (rows.getD r0 []) j ns) = rows.take r0 ++ rowPut ks.length (rows.getD r0 []) j ns :: rows.drop (r0 + 1) := by
                rw [List.set_eq_take_append_cons_drop, if_pos hlt]
              generalize hrd : rows.getD r0 [] = row at *
              have e2 : tabVals ks (rows.set r0 (rowPut ks.length row j ns)) = tabVals ks (rows.take r0) ++ (rowVals ks (rowPut ks.length row j ns) ++ tabVals ks (rows.drop (r0 + 1))) := by
                rw [hset, tabVals_append]; rfl
              have e3 : tabVals ks rows = tabVals ks (rows.take r0) ++ (rowVals ks row ++ tabVals ks (rows.drop (r0 + 1))) := by
                rw (occs := .pos [1]) [hsplit]
                rw [tabVals_append]; rfl
              have hpre : (tabVals ks (rows.take r0)).length = r0 * ks.length := by rw [tabVals_length, List.length_take, Nat.min_eq_left (by omega)]
              rw [e2, e3, rowPut_vals (by omega)]
              have hyl' : (rowVals (List.take ns.length (List.drop j ks)) ns).length = ns.length := by rw [← q1]; exact hyl
              have := overV_mid (tabVals ks (rows.take r0)) (rowVals ks row) (tabVals ks (rows.drop (r0 + 1))) (rowVals (List.take ns.length (List.drop j ks)) ns) j (by rw [hyl', rowVals_length]; omega)
              rw [hpre] at this
              exact this
      · cases hr
    · cases hr
  · cases hr
end
end Go.Sh
