import Derived.Maps.RangeRun
import Derived.Test.YtebhcmbdpifodaaZM23toGC6
set_option linter.all false
namespace Go.Sh
open Go
variable [Con] {A : Type} {P : Program} {tb : A → Nat × Heap A}

def PHeap.upd (p : PHeap) (b : Nat) (o : Obj) : PHeap := fun c => if c = b then some o else p c
theorem PHeap.upd_self (p : PHeap) (b : Nat) (o : Obj) : p.upd b o b = some o := by simp [PHeap.upd]
theorem PHeap.upd_ne (p : PHeap) {b c : Nat} (o : Obj) (h : c ≠ b) : p.upd b o c = p c := by simp [PHeap.upd, h]

theorem Inv.subst {I : Itp A} {V : Val} {h : FHeap A} {hR : PHeap} {w w' : World} (hi : Inv I V h hR w) {l : Nat} {e e' : Entry A} (hl : h l = some e) {b : Nat} {o' : Obj}
    (hb : ∀ p, e.interp I V l p → p.sub w → (∃ o, p b = some o) ∧ e'.interp I V l (p.upd b o')) (hw : w'.heap[b]? = some o') (hne : ∀ c, c ≠ b → w'.heap[c]? = w.heap[c]?) :
    Inv I V (h.put l (some e')) hR w' := by
  obtain ⟨hs, h1, h2, h3, h4, h5, h6⟩ := hi
  obtain ⟨⟨o, ho⟩, he'⟩ := hb _ (h1 l e hl) (h5 l)
  have key : ∀ g : PHeap, PHeap.disj (hs l) g → g b = none := by
    intro g d
    rcases d b with d | d
    · rw [ho] at d; cases d
    · exact d
  have dis : ∀ g : PHeap, PHeap.disj (hs l) g → PHeap.disj ((hs l).upd b o') g := by
    intro g d c
    by_cases hc : c = b
    · subst hc; exact .inr (key g d)
    · rw [PHeap.upd_ne _ _ hc]; exact d c
  refine ⟨fun m => if m = l then (hs l).upd b o' else hs m, ?_, ?_, ?_, ?_, ?_, ?_⟩
  · intro m x hm
    by_cases hml : m = l
    · subst hml; simp [FHeap.put] at hm; subst hm; simpa using he'
    · simp [FHeap.put, hml] at hm; simpa [hml] using h1 m x hm
  · intro m hm
    by_cases hml : m = l
    · subst hml; simp [FHeap.put] at hm
    · simp [FHeap.put, hml] at hm; simpa [hml] using h2 m hm
  · intro m n hmn
    by_cases hml : m = l
    · have hnl : n ≠ l := fun e => hmn (hml.trans e.symm)
      simp only [hml, if_true, hnl, if_false]
      exact dis _ (h3 l n (fun e => hnl e.symm))
    · by_cases hnl : n = l
      · simp only [hnl, if_true, hml, if_false]
        exact (dis _ (h3 l m (fun e => hml e.symm))).symm
      · simp only [hml, hnl, if_false]; exact h3 m n hmn
  · intro m
    by_cases hml : m = l
    · simp only [hml, if_true]; exact dis _ (h4 l)
    · simp only [hml, if_false]; exact h4 m
  · intro m
    by_cases hml : m = l
    · simp only [hml, if_true]
      intro c p hc
      by_cases hcb : c = b
      · subst hcb; rw [PHeap.upd_self] at hc; cases hc; exact hw
      · rw [PHeap.upd_ne _ _ hcb] at hc; rw [hne c hcb]; exact h5 l c p hc
    · simp only [hml, if_false]
      intro c p hc
      have : c ≠ b := by
        intro e; subst e
        rw [key _ (h3 l m (fun e => hml e.symm))] at hc; cases hc
      rw [hne c this]; exact h5 m c p hc
  · refine ⟨?_, h6.2⟩
    intro c p hc
    have : c ≠ b := by
      intro e; subst e
      rw [key _ (h4 l)] at hc; cases hc
    rw [hne c this]; exact h6.1 c p hc

structure RowP (tb : A → Nat × Heap A) extends RowK tb where
  clr : R → Nat → R
  new : Nat → R
  clr_eq : ∀ r i, els (clr r i) = (els r).set i none
  new_eq : ∀ n, els (new n) = List.replicate n none

theorem big_upd {hs hs' : Nat → PHeap} {b : Nat} {o' : Obj} (hd : ∀ l m, l ≠ m → (hs' l).disj (hs' m)) {φ : Nat → Nat} (hφ : ∀ m c, hs' (φ m) c = if m = 0 then (hs 0).upd b o' c else hs m c) (hall : ∀ m, (∃ j, φ j = m) ∨ hs' m = .emp) (h0 : ∀ m, m ≠ 0 → hs m b = none) (hd0 : ∀ l m, l ≠ m → (hs l).disj (hs m)) :
    PHeap.big hs' = (PHeap.big hs).upd b o' := by
  funext c
  by_cases hc : c = b
  · subst hc
    rw [PHeap.upd_self]
    exact PHeap.big_of hd (l := φ 0) (by rw [hφ, if_pos rfl, PHeap.upd_self])
  · rw [PHeap.upd_ne _ _ hc]
    cases h : PHeap.big hs c with
    | some o =>
      obtain ⟨m, hm⟩ := PHeap.big_some h
      refine PHeap.big_of hd (l := φ m) ?_
      rw [hφ]
      by_cases hm0 : m = 0
      · subst hm0; rw [if_pos rfl, PHeap.upd_ne _ _ hc]; exact hm
      · rw [if_neg hm0]; exact hm
    | none =>
      refine PHeap.big_none fun l => ?_
      rcases hall l with ⟨j, rfl⟩ | he
      · rw [hφ]
        have hj : hs j c = none := by
          cases hj : hs j c with
          | none => rfl
          | some o => rw [PHeap.big_of hd0 hj] at h; cases h
        by_cases hm0 : j = 0
        · subst hm0; rw [if_pos rfl, PHeap.upd_ne _ _ hc]; exact hj
        · rw [if_neg hm0]; exact hj
      · rw [he]; rfl

theorem RowK.putP (R : RowK tb) {rr : R.R} {i : Nat} {r x : Nat × Nat} {p : PHeap} {N : Nat} (h : obN tb (N + 1) (R.row rr) r [] p) (hw : (R.els rr)[i]? = some none) {cs cs' : Array Value} {T : TypeId} (hp : p r.1 = some (.cells cs T)) (hcs : cs'.toList = cs.toList.set i (.pointer (some ⟨x.1, 0, none⟩))) :
    obN tb (N + 1) (R.hole rr i) r [x] (p.upd r.1 (.cells cs' T)) := by
  obtain ⟨V, gs, g1, g2, g3, ⟨g4, g5, g6⟩, g7⟩ := h
  have htb := R.tbHole rr i
  rw [R.tbRow] at g2 g3 g4 g5
  dsimp only at g2 g3 g4 g5
  generalize R.els rr = ws at *
  have hil : i < ws.length := (List.getElem?_eq_some_iff.1 hw).1
  have hc := g4 0 _ (show hget (rowE ws) 0 = some (.cells (rowC 1 ws)) from rfl)
  obtain ⟨b, k, c1, cs0, T0, c2, c3, rs, tail, c4, c5⟩ := hc
  have hbk : r = (b, k) := by have c1' : V 0 = some (b, k) := c1; rw [g1] at c1'; simpa using c1'
  subst hbk
  have hp0 : p b = some (.cells cs0 T0) := by rw [g7]; exact PHeap.big_of g6 (l := 0) (by rw [c2]; simp [PHeap.one])
  have hp' : p b = some (.cells cs T) := hp
  rw [hp0] at hp'
  simp only [Option.some.injEq, Obj.cells.injEq] at hp'
  obtain ⟨rfl, rfl, _⟩ := hp'
  have hlen := RepL.length c5
  rw [rowC_len] at hlen
  have h0 : ∀ m, m ≠ 0 → gs m b = none := by
    intro m hm
    rcases g6 0 m (fun e => hm e.symm) b with d | d
    · rw [c2, PHeap.one_self] at d; cases d
    · exact d
  have hemp : gs (i + 1) = .emp := g5 _ (by show hget (rowE ws) (i + 1) = none; rw [hget_rowE_succ, hw]; rfl)
  let V' : Val := fun m => match m with
    | 0 => V 0
    | 1 => some x
    | j + 2 => V (j + 1)
  let gs' : Nat → PHeap := fun m => match m with
    | 0 => (gs 0).upd b (.cells cs' T0)
    | 1 => .emp
    | j + 2 => gs (j + 1)
  have hup : (gs 0).upd b (.cells cs' T0) = .one b (.cells cs' T0) := by
    funext c
    by_cases hcb : c = b
    · subst hcb; rw [PHeap.upd_self, PHeap.one_self]
    · rw [PHeap.upd_ne _ _ hcb, PHeap.one_ne _ hcb, c2, PHeap.one_ne _ hcb]
  have d0 : ∀ m, PHeap.disj ((gs 0).upd b (.cells cs' T0)) (gs (m + 1)) := by
    intro m c
    by_cases hcb : c = b
    · subst hcb; exact .inr (h0 _ (by omega))
    · rw [hup, PHeap.one_ne _ hcb]; exact .inl rfl
  have gdis : ∀ l m, l ≠ m → (gs' l).disj (gs' m) := by
    intro l m hlm
    match l, m, hlm with
    | 0, 0, h => exact (h rfl).elim
    | 0, 1, _ => exact PHeap.disj_emp _
    | 1, 0, _ => exact (PHeap.disj_emp _).symm
    | 1, 1, h => exact (h rfl).elim
    | 0, j + 2, _ => exact d0 j
    | j + 2, 0, _ => exact (d0 j).symm
    | 1, j + 2, _ => exact (PHeap.disj_emp _).symm
    | j + 2, 1, _ => exact PHeap.disj_emp _
    | j + 2, j2 + 2, h => exact g6 _ _ (by omega)
  refine ⟨V', gs', g1, ?_, ?_, ⟨?_, ?_, gdis⟩, ?_⟩
  · intro j hj
    rw [htb] at hj
    dsimp only at hj
    have : j = 0 := by omega
    subst this; rfl
  · rw [htb]; rfl
  · intro l e he
    rw [htb] at he
    match l, he with
    | 0, he =>
      have he' : some (Entry.cells ((rowC 2 ws).set i (.ptr 1 0))) = some e := he
      simp only [Option.some.injEq] at he'
      subst he'
      have hcl : cs'.toList = rs.set i (.pointer (some ⟨x.1, 0, none⟩)) ++ tail := by
        rw [hcs, c4, List.set_append_left _ _ (by omega)]
      refine ⟨b, k, c1, cs', T0, hup, ?_, _, tail, hcl, ?_⟩
      · rw [← Array.length_toList, hcs, List.length_set, Array.length_toList]; exact c3
      refine RepL.of_get (by simp [rowC_len, hlen]) ?_
      intro j a v ha hv
      rw [List.getElem?_set] at ha hv
      rw [rowC_len] at ha
      split at ha
      · rename_i hij
        subst hij
        rw [if_pos rfl, if_pos (by omega)] at hv
        try rw [if_pos hil] at ha
        cases ha; cases hv
        exact ⟨x.1, x.2, rfl, rfl⟩
      · rename_i hij
        rw [if_neg hij] at hv
        rw [rowC_get] at ha
        cases hwj : ws[j]? with
        | none => rw [hwj] at ha; cases ha
        | some o =>
          rw [hwj] at ha
          simp only [Option.map_some, Option.some.injEq] at ha
          have hr := RepL.at c5 (i := j) (a := rowV (1 + j) o) (v := v) (by rw [rowC_get, hwj]; rfl) hv
          cases o with
          | none => subst ha; exact hr
          | some s =>
            subst ha
            obtain ⟨b3, k3, f1, f2⟩ := hr
            refine ⟨b3, k3, ?_, f2⟩
            show V' (2 + j) = _
            rw [Nat.add_comm]
            show V (j + 1) = _
            rw [Nat.add_comm]; exact f1
    | 1, he => cases he
    | j + 2, he =>
      have he' : hget (holeE ws i) (j + 2) = some e := he
      rw [hget_holeE_succ] at he'
      split at he'
      · cases he'
      rename_i hij
      have hin := g4 (j + 1) e (by show hget (rowE ws) (j + 1) = some e; rw [hget_rowE_succ]; exact he')
      cases hwj : (ws[j]?).join with
      | none => rw [hwj] at he'; cases he'
      | some s =>
        rw [hwj] at he'
        simp only [Option.map_some, Option.some.injEq] at he'
        subst he'
        obtain ⟨x3, f1, f2⟩ := abs_interp hin
        exact ⟨x3.1, x3.2, f1, [], rfl, f2⟩
  · intro l he
    rw [htb] at he
    match l, he with
    | 0, he => cases he
    | 1, he => rfl
    | j + 2, he =>
      have he' : hget (holeE ws i) (j + 2) = none := he
      rw [hget_holeE_succ] at he'
      show gs (j + 1) = _
      split at he'
      · rename_i hij; subst hij; exact hemp
      · exact g5 _ (by show hget (rowE ws) (j + 1) = none; rw [hget_rowE_succ]; exact he')
  · rw [g7]
    refine (big_upd (φ := fun m => if m = 0 then 0 else m + 1) gdis ?_ ?_ h0 g6).symm
    · intro m c
      by_cases hm : m = 0
      · subst hm; rfl
      · rw [if_neg hm, if_neg hm]
        obtain ⟨q, rfl⟩ : ∃ q, m = q + 1 := ⟨m - 1, by omega⟩
        rfl
    · intro m
      match m with
      | 0 => exact .inl ⟨0, rfl⟩
      | 1 => exact .inr rfl
      | j + 2 => exact .inl ⟨j + 1, rfl⟩

theorem RowP.clrP (R : RowP tb) {rr : R.R} {i : Nat} {r x : Nat × Nat} {p : PHeap} {N : Nat} (h : obN tb (N + 1) (R.hole rr i) r [x] p) (hi : i < R.len rr) {cs cs' : Array Value} {T : TypeId} (hp : p r.1 = some (.cells cs T)) (hcs : cs'.toList = cs.toList.set i (.pointer none)) :
    obN tb (N + 1) (R.row (R.clr rr i)) r [] (p.upd r.1 (.cells cs' T)) := by
  obtain ⟨V, gs, g1, g2, g3, ⟨g4, g5, g6⟩, g7⟩ := h
  have htb := R.tbRow (R.clr rr i)
  rw [R.clr_eq] at htb
  rw [R.len_eq] at hi
  rw [R.tbHole] at g2 g3 g4 g5
  dsimp only at g2 g3 g4 g5
  generalize R.els rr = ws at *
  have hc := g4 0 _ (show hget (holeE ws i) 0 = some (.cells ((rowC 2 ws).set i (.ptr 1 0))) from rfl)
  obtain ⟨b, k, c1, cs0, T0, c2, c3, rs, tail, c4, c5⟩ := hc
  have hbk : r = (b, k) := by have c1' : V 0 = some (b, k) := c1; rw [g1] at c1'; simpa using c1'
  subst hbk
  have hp0 : p b = some (.cells cs0 T0) := by rw [g7]; exact PHeap.big_of g6 (l := 0) (by rw [c2]; simp [PHeap.one])
  have hp' : p b = some (.cells cs T) := hp
  rw [hp0] at hp'
  simp only [Option.some.injEq, Obj.cells.injEq] at hp'
  obtain ⟨rfl, rfl, _⟩ := hp'
  have hlen := RepL.length c5
  rw [List.length_set, rowC_len] at hlen
  have h0 : ∀ m, m ≠ 0 → gs m b = none := by
    intro m hm
    rcases g6 0 m (fun e => hm e.symm) b with d | d
    · rw [c2, PHeap.one_self] at d; cases d
    · exact d
  have hemp1 : gs 1 = .emp := g5 1 rfl
  have hemp : gs (i + 2) = .emp := g5 _ (by show hget (holeE ws i) (i + 2) = none; rw [hget_holeE_succ, if_pos rfl])
  let V' : Val := fun m => match m with
    | 0 => V 0
    | j + 1 => V (j + 2)
  let gs' : Nat → PHeap := fun m => match m with
    | 0 => (gs 0).upd b (.cells cs' T0)
    | j + 1 => gs (j + 2)
  have hup : (gs 0).upd b (.cells cs' T0) = .one b (.cells cs' T0) := by
    funext c
    by_cases hcb : c = b
    · subst hcb; rw [PHeap.upd_self, PHeap.one_self]
    · rw [PHeap.upd_ne _ _ hcb, PHeap.one_ne _ hcb, c2, PHeap.one_ne _ hcb]
  have d0 : ∀ m, PHeap.disj ((gs 0).upd b (.cells cs' T0)) (gs (m + 2)) := by
    intro m c
    by_cases hcb : c = b
    · subst hcb; exact .inr (h0 _ (by omega))
    · rw [hup, PHeap.one_ne _ hcb]; exact .inl rfl
  have gdis : ∀ l m, l ≠ m → (gs' l).disj (gs' m) := by
    intro l m hlm
    match l, m, hlm with
    | 0, 0, h => exact (h rfl).elim
    | 0, j + 1, _ => exact d0 j
    | j + 1, 0, _ => exact (d0 j).symm
    | j + 1, j2 + 1, h => exact g6 _ _ (by omega)
  refine ⟨V', gs', g1, ?_, ?_, ⟨?_, ?_, gdis⟩, ?_⟩
  · intro j hj
    rw [htb] at hj
    dsimp only at hj; omega
  · rw [htb]; rfl
  · intro l e he
    rw [htb] at he
    match l, he with
    | 0, he =>
      have he' : some (Entry.cells (rowC 1 (ws.set i none))) = some e := he
      simp only [Option.some.injEq] at he'
      subst he'
      have hcl : cs'.toList = rs.set i (.pointer none) ++ tail := by
        rw [hcs, c4, List.set_append_left _ _ (by omega)]
      refine ⟨b, k, c1, cs', T0, hup, ?_, _, tail, hcl, ?_⟩
      · rw [← Array.length_toList, hcs, List.length_set, Array.length_toList]; exact c3
      refine RepL.of_get (by simp [rowC_len, hlen]) ?_
      intro j a v ha hv
      rw [rowC_get, List.getElem?_set] at ha
      rw [List.getElem?_set] at hv
      split at ha
      · rename_i hij
        subst hij
        rw [if_pos rfl, if_pos (by omega)] at hv
        try rw [if_pos hi] at ha
        simp only [Option.map_some, Option.some.injEq, rowV] at ha
        subst ha; cases hv
        rfl
      · rename_i hij
        rw [if_neg hij] at hv
        cases hwj : ws[j]? with
        | none => rw [hwj] at ha; cases ha
        | some o =>
          rw [hwj] at ha
          simp only [Option.map_some, Option.some.injEq] at ha
          have hr := RepL.at c5 (i := j) (a := rowV (2 + j) o) (v := v) (by rw [List.getElem?_set, if_neg hij, rowC_get, hwj]; rfl) hv
          cases o with
          | none => subst ha; exact hr
          | some s =>
            subst ha
            obtain ⟨b3, k3, f1, f2⟩ := hr
            refine ⟨b3, k3, ?_, f2⟩
            show V' (1 + j) = _
            rw [Nat.add_comm]
            show V (j + 2) = _
            rw [Nat.add_comm]; exact f1
    | j + 1, he =>
      have he' : hget (rowE (ws.set i none)) (j + 1) = some e := he
      rw [hget_rowE_succ, List.getElem?_set] at he'
      split at he'
      · rename_i hij
        subst hij
        try rw [if_pos hi] at he'
        cases he'
      rename_i hij
      have hin := g4 (j + 2) e (by show hget (holeE ws i) (j + 2) = some e; rw [hget_holeE_succ, if_neg hij]; exact he')
      cases hwj : (ws[j]?).join with
      | none => rw [hwj] at he'; cases he'
      | some s =>
        rw [hwj] at he'
        simp only [Option.map_some, Option.some.injEq] at he'
        subst he'
        obtain ⟨x3, f1, f2⟩ := abs_interp hin
        exact ⟨x3.1, x3.2, f1, [], rfl, f2⟩
  · intro l he
    rw [htb] at he
    match l, he with
    | 0, he => cases he
    | j + 1, he =>
      have he' : hget (rowE (ws.set i none)) (j + 1) = none := he
      rw [hget_rowE_succ, List.getElem?_set] at he'
      show gs (j + 2) = _
      split at he'
      · rename_i hij; subst hij; exact hemp
      · rename_i hij
        exact g5 _ (by show hget (holeE ws i) (j + 2) = none; rw [hget_holeE_succ, if_neg hij]; exact he')
  · rw [g7]
    refine (big_upd (φ := fun m => if m = 0 then 0 else if m = 1 then i + 1 else m - 1) gdis ?_ ?_ h0 g6).symm
    · intro m c
      by_cases hm : m = 0
      · subst hm; rfl
      · rw [if_neg hm, if_neg hm]
        by_cases hm1 : m = 1
        · subst hm1; rw [if_pos rfl]
          show gs (i + 2) c = _
          rw [hemp, hemp1]
        · rw [if_neg hm1]
          obtain ⟨q, rfl⟩ : ∃ q, m = q + 2 := ⟨m - 2, by omega⟩
          rfl
    · intro m
      match m with
      | 0 => exact .inl ⟨0, rfl⟩
      | j + 1 => exact .inl ⟨j + 2, rfl⟩

theorem setCell_at {w : World} {b off : Nat} {cs : Array Value} {T : TypeId} (hb : w.heap[b]? = some (.cells cs T)) {v : Value} (hv : v.oneCell' = true) (ho : off < cs.size) :
    ∃ w' cs', (storeCells ⟨b, off, none⟩ [v] 0).run P w = .ok () w' ∧ w'.heap[b]? = some (.cells cs' T) ∧ cs'.toList = cs.toList.set off v ∧ (∀ c, c ≠ b → w'.heap[c]? = w.heap[c]?) ∧ Grows w w' := by
  obtain ⟨w', cs', h1, h2, h3, h4, h5⟩ := storeCells_row (P := P) [v] 0 w b off cs T hb (by simpa using hv) (by simp; omega)
  exact ⟨w', cs', h1, h2, h3, h4, h5⟩
theorem storeAt_one {t : TypeId} {w w' : World} {b off : Nat} {v : Value} (hs : asize P t = some 1) (hv : v.cells = #[v]) (h1 : (storeCells ⟨b, off, none⟩ [v] 0).run P w = .ok () w') :
    (Instr.storeAt t (.pointer (some ⟨b, off, none⟩)) v).run P w = .ok () w' := by
  have : v.cells.size = 1 := by rw [hv]; rfl
  have h2 : v.cells.toList = [v] := by rw [hv]
  simp [Instr.storeAt, Instr.sureAddr, storeVar, asize_run hs, this, h2, h1]

theorem Locs.nil_inv {V : Val} {bs : List (Nat × Nat)} (h : Locs V [] bs) : bs = [] := h
theorem Locs.one_inv {V : Val} {k : Nat} {bs : List (Nat × Nat)} (h : Locs V [k] bs) : ∃ x, V k = some x ∧ bs = [x] := by
  obtain ⟨x, r, h1, h2, h3⟩ := h
  have : r = [] := h3
  subst this; exact ⟨x, h1, h2⟩

theorem RowK.root (R : RowK tb) {rr : R.R} {r : Nat × Nat} {p : PHeap} {N : Nat} (h : obN tb (N + 1) (R.row rr) r [] p) : ∃ cs T, p r.1 = some (.cells cs T) ∧ (R.els rr).length ≤ cs.size := by
  obtain ⟨V, gs, g1, g2, g3, ⟨g4, g5, g6⟩, g7⟩ := h
  rw [R.tbRow] at g4
  dsimp only at g4
  generalize R.els rr = ws at *
  obtain ⟨b, k, c1, cs, T, c2, c3, rs, tail, c4, c5⟩ := g4 0 _ (show hget (rowE ws) 0 = some (.cells (rowC 1 ws)) from rfl)
  have hbk : r = (b, k) := by have c1' : V 0 = some (b, k) := c1; rw [g1] at c1'; simpa using c1'
  refine ⟨cs, T, ?_, ?_⟩
  · rw [g7, hbk]; exact PHeap.big_of g6 (l := 0) (by rw [c2]; simp [PHeap.one])
  · have hlen := RepL.length c5
    rw [rowC_len] at hlen
    rw [← Array.length_toList, c4, List.length_append]; omega
theorem RowK.rootH (R : RowK tb) {rr : R.R} {i : Nat} {r x : Nat × Nat} {p : PHeap} {N : Nat} (h : obN tb (N + 1) (R.hole rr i) r [x] p) : ∃ cs T, p r.1 = some (.cells cs T) ∧ (R.els rr).length ≤ cs.size := by
  obtain ⟨V, gs, g1, g2, g3, ⟨g4, g5, g6⟩, g7⟩ := h
  rw [R.tbHole] at g4
  dsimp only at g4
  generalize R.els rr = ws at *
  obtain ⟨b, k, c1, cs, T, c2, c3, rs, tail, c4, c5⟩ := g4 0 _ (show hget (holeE ws i) 0 = some (.cells ((rowC 2 ws).set i (.ptr 1 0))) from rfl)
  have hbk : r = (b, k) := by have c1' : V 0 = some (b, k) := c1; rw [g1] at c1'; simpa using c1'
  refine ⟨cs, T, ?_, ?_⟩
  · rw [g7, hbk]; exact PHeap.big_of g6 (l := 0) (by rw [c2]; simp [PHeap.one])
  · have hlen := RepL.length c5
    rw [List.length_set, rowC_len] at hlen
    rw [← Array.length_toList, c4, List.length_append]; omega

theorem Inv.rowPut (R : RowK tb) {V : Val} {h : Heap A} {hR : PHeap} {w : World} {l i k b kk : Nat} {x : Nat × Nat} {ws : R.R} (hi : Inv (obI tb) V (toF h) hR w) (hl : hget h l = some (.abs (R.row ws) [])) (hV : V l = some (b, kk)) (hk : V k = some x) (hil : i < R.len ws) (hn : R.is ws i = false) {t : TypeId} (hs : asize P t = some 1) :
    ∃ w', (Instr.storeAt t (.pointer (some ⟨b, i, none⟩)) (.pointer (some ⟨x.1, 0, none⟩))).run P w = .ok () w' ∧ Inv (obI tb) V (toF (h.set l (some (.abs (R.hole ws i) [k])))) hR w' ∧ Grows w w' := by
  have hll := hget_lt hl
  have hw := R.is_false ws i hn hil
  obtain ⟨hs0, h1, h2, h3, h4, h5, h6⟩ := id hi
  obtain ⟨b', k', hV', bs, hlo, N, hob⟩ := h1 l _ hl
  rw [hV] at hV'
  simp only [Option.some.injEq, Prod.mk.injEq] at hV'
  obtain ⟨rfl, rfl⟩ := hV'
  have hbs := Locs.nil_inv hlo
  subst hbs
  cases N with
  | zero => exact hob.elim
  | succ N =>
  obtain ⟨cs, T, hp, hle⟩ := R.root hob
  rw [R.len_eq] at hil
  obtain ⟨w', cs', s1, s2, s3, s4, s5⟩ := setCell_at (P := P) (h5 l b _ hp) (v := .pointer (some ⟨x.1, 0, none⟩)) (off := i) rfl (by omega)
  refine ⟨w', storeAt_one hs rfl s1, ?_, s5⟩
  rw [toF_set _ hll]
  refine Inv.subst hi (e := .abs (R.row ws) []) (e' := .abs (R.hole ws i) [k]) hl (b := b) (o' := .cells cs' T) ?_ s2 s4
  rintro p ⟨b1, k1, q1, bs1, q2, M, q3⟩ hsub
  rw [hV] at q1
  simp only [Option.some.injEq, Prod.mk.injEq] at q1
  obtain ⟨rfl, rfl⟩ := q1
  have hbs := Locs.nil_inv q2
  subst hbs
  cases M with
  | zero => exact q3.elim
  | succ M =>
  obtain ⟨cs2, T2, hp2, _⟩ := R.root q3
  have e1 := hsub b _ hp2
  rw [h5 l b _ hp] at e1
  simp only [Option.some.injEq, Obj.cells.injEq] at e1
  obtain ⟨rfl, rfl, _⟩ := e1
  exact ⟨⟨_, hp2⟩, b, kk, hV, [x], ⟨x, [], hk, rfl, rfl⟩, M + 1, R.putP q3 hw hp2 s3⟩

theorem Inv.rowClr (R : RowP tb) {V : Val} {h : Heap A} {hR : PHeap} {w : World} {l i k b kk : Nat} {ws : R.R} (hi : Inv (obI tb) V (toF h) hR w) (hl : hget h l = some (.abs (R.hole ws i) [k])) (hV : V l = some (b, kk)) (hil : i < R.len ws) {t : TypeId} (hs : asize P t = some 1) :
    ∃ w', (Instr.storeAt t (.pointer (some ⟨b, i, none⟩)) (.pointer none)).run P w = .ok () w' ∧ Inv (obI tb) V (toF (h.set l (some (.abs (R.row (R.clr ws i)) [])))) hR w' ∧ Grows w w' := by
  have hll := hget_lt hl
  obtain ⟨hs0, h1, h2, h3, h4, h5, h6⟩ := id hi
  obtain ⟨b', k', hV', bs, hlo, N, hob⟩ := h1 l _ hl
  rw [hV] at hV'
  simp only [Option.some.injEq, Prod.mk.injEq] at hV'
  obtain ⟨rfl, rfl⟩ := hV'
  obtain ⟨x, hx, hbs⟩ := Locs.one_inv hlo
  subst hbs
  cases N with
  | zero => exact hob.elim
  | succ N =>
  obtain ⟨cs, T, hp, hle⟩ := R.rootH hob
  have hil' := hil
  rw [R.len_eq] at hil'
  obtain ⟨w', cs', s1, s2, s3, s4, s5⟩ := setCell_at (P := P) (h5 l b _ hp) (v := .pointer none) (off := i) rfl (by omega)
  refine ⟨w', storeAt_one hs rfl s1, ?_, s5⟩
  rw [toF_set _ hll]
  refine Inv.subst hi (e := .abs (R.hole ws i) [k]) (e' := .abs (R.row (R.clr ws i)) []) hl (b := b) (o' := .cells cs' T) ?_ s2 s4
  rintro p ⟨b1, k1, q1, bs1, q2, M, q3⟩ hsub
  rw [hV] at q1
  simp only [Option.some.injEq, Prod.mk.injEq] at q1
  obtain ⟨rfl, rfl⟩ := q1
  obtain ⟨x2, hx2, hbs⟩ := Locs.one_inv q2
  subst hbs
  cases M with
  | zero => exact q3.elim
  | succ M =>
  obtain ⟨cs2, T2, hp2, _⟩ := R.rootH q3
  have e1 := hsub b _ hp2
  rw [h5 l b _ hp] at e1
  simp only [Option.some.injEq, Obj.cells.injEq] at e1
  obtain ⟨rfl, rfl, _⟩ := e1
  exact ⟨⟨_, hp2⟩, b, kk, hV, [], rfl, M + 1, R.clrP q3 hil hp2 s3⟩

theorem RowP.mkI (R : RowP tb) {V : Val} {l b n : Nat} (hV : V l = some (b, n)) {cs : Array Value} {T : TypeId} (hcs : cs.toList = List.replicate n (.pointer none)) :
    Entry.interp (obI tb) V l (.abs (R.row (R.new n)) []) (.one b (.cells cs T)) := by
  refine ⟨b, n, hV, [], rfl, 1, ?_⟩
  let gs : Nat → PHeap := fun m => match m with
    | 0 => .one b (.cells cs T)
    | _ + 1 => .emp
  have hnone : ∀ j, hget (rowE (List.replicate n none : List (Option A))) (j + 1) = none := by
    intro j
    rw [hget_rowE_succ, List.getElem?_replicate]
    split <;> rfl
  have gdis : ∀ l m, l ≠ m → (gs l).disj (gs m) := by
    intro l m hlm
    match l, m, hlm with
    | 0, 0, h => exact (h rfl).elim
    | 0, _ + 1, _ => exact PHeap.disj_emp _
    | _ + 1, 0, _ => exact (PHeap.disj_emp _).symm
    | _ + 1, _ + 1, _ => exact PHeap.disj_emp _
  refine ⟨fun m => if m = 0 then some (b, n) else none, gs, rfl, ?_, ?_, ⟨?_, ?_, gdis⟩, ?_⟩
  · intro j hj; rw [R.tbRow] at hj; dsimp only at hj; omega
  · rw [R.tbRow]; rfl
  · intro l e he
    rw [R.tbRow, R.new_eq] at he
    match l, he with
    | 0, he =>
      have he' : some (Entry.cells (rowC 1 (List.replicate n none : List (Option A)))) = some e := he
      simp only [Option.some.injEq] at he'
      subst he'
      refine ⟨b, n, rfl, cs, T, rfl, by rw [← Array.length_toList, hcs, List.length_replicate], cs.toList, [], by simp, ?_⟩
      refine RepL.of_get (by rw [rowC_len, hcs]; simp) ?_
      intro j a v ha hv
      rw [rowC_get, List.getElem?_replicate] at ha
      rw [hcs, List.getElem?_replicate] at hv
      split at ha
      · rename_i hj
        rw [if_pos hj] at hv
        cases ha; cases hv; rfl
      · cases ha
    | j + 1, he => rw [show toF (0, rowE (List.replicate n (none : Option A))).2 (j + 1) = hget (rowE (List.replicate n none)) (j + 1) from rfl, hnone] at he; cases he
  · intro l he
    rw [R.tbRow, R.new_eq] at he
    match l, he with
    | 0, he => cases he
    | j + 1, _ => rfl
  · funext c
    cases h : PHeap.one b (.cells cs T) c with
    | some o => exact (PHeap.big_of gdis (l := 0) h).symm
    | none =>
      refine (PHeap.big_none fun m => ?_).symm
      match m with
      | 0 => exact h
      | _ + 1 => rfl

def RowP.ops (R : RowP tb) (P : Program) (B : (Operand → AVal) → Op → Heap A → (AVal → Heap A → Prop) → Prop) (ρ : Operand → AVal) (op : Op) (h : Heap A) (K : AVal → Heap A → Prop) : Prop :=
  match op with
  | .makeSlice t n m => match P.underlying t, ρ n, ρ m with
    | some (.slice e), .int _ a, .int _ b => match P.info? e with
      | some i => match i.zero with
        | some (.pointer none) => onlyIf (Nat.ble i.bytes 4096 && Nat.beq i.size 1) ((0 ≤ a ∧ a = b ∧ a ≤ 4294967296) ∧ K (.slice h.length 0 a.toNat 1) (h ++ [some (.abs (R.row (R.new a.toNat)) [])]))
        | _ => False
      | none => False
    | _, _, _ => False
  | .store t a x => match ρ a, asize P t with
    | .ptr l off, some 1 => match hget h l with
      | some (.abs o []) => match R.isRow o, ρ x with
        | some ws, .ptr k 0 => (off < R.len ws ∧ R.is ws off = false) ∧ K (.raw undef) (h.set l (some (.abs (R.hole ws off) [k])))
        | _, _ => False
      | some (.abs o [k]) => match R.isHole o, ρ x with
        | some (ws, i), .raw (.pointer none) => (i < R.len ws ∧ off = i) ∧ K (.raw undef) (h.set l (some (.abs (R.row (R.clr ws i)) [])))
        | _, _ => False
      | _ => False
    | _, _ => False
  | _ => B ρ op h K

theorem RowP.ops_ok (R : RowP tb) {B : (Operand → AVal) → Op → Heap A → (AVal → Heap A → Prop) → Prop} (hB : RowFits tb P B) : RowFits tb P (R.ops P B) := by
  intro ρ o h K hk V hR w ρ' hi hf hρ
  unfold RowP.ops at hk
  split at hk
  · rename_i t n m hop
    split at hk
    case h_2 => exact hk.elim
    rename_i e ka a kb b hu hn hm
    split at hk
    case h_2 => exact hk.elim
    rename_i i hti
    split at hk
    case h_2 => exact hk.elim
    rename_i hz
    obtain ⟨hc, ⟨o1, hab, o3⟩, hk2⟩ := onlyIf_iff.1 hk
    subst hab
    obtain ⟨hc1, hc2⟩ := Bool.and_eq_true_iff.1 hc
    have hb := Nat.le_of_ble_eq_true hc1
    have hs1 := Nat.eq_of_beq_eq_true hc2
    have hx := hρ n
    rw [hn] at hx
    have hy := hρ m
    rw [hm] at hy
    have e1 : ρ' n = .int ka a := hx
    have e2 : ρ' m = .int kb a := hy
    have hrun := makeSlice_run (P := P) (k := ka) (k' := kb) (n := a) (w := w) hu hti hz hb o1 o3 (by rw [hs1]; rfl) (by omega)
    have hV := hf h.length (Nat.le_refl _)
    rw [hs1, Nat.mul_one] at hrun
    have hcs : ((Array.range a.toNat).map fun j => (Value.pointer none).cells[j % (Value.pointer none).cells.size]!).toList = List.replicate a.toNat (Value.pointer none) := by
      have hcell : (Value.pointer none).cells = #[.pointer none] := rfl
      rw [hcell]
      exact range_one _
    have hinv := Inv.push (e := .abs (R.row (R.new a.toNat)) []) (k := a.toNat) hi hV (hget_ge (Nat.le_refl _)) (R.mkI (T := e) (Val.add_self _ _ _) hcs)
    have hex : (execOp ρ' o).run P w = .ok (.value (.slice (some ⟨w.heap.size, 0, none⟩) a.toNat a.toNat)) { w with heap := w.heap.push (.cells ((Array.range a.toNat).map fun j => (Value.pointer none).cells[j % (Value.pointer none).cells.size]!) e) } := by simp only [execOp, hop, e1, e2]; exact bind_run hrun
    refine ⟨_, _, V.add h.length (w.heap.size, a.toNat), _, _, _, hk2, hex, .inl rfl, ?_, Val.le_add hV, ?_, by simp, ?_, ⟨rfl, rfl, by simp, fun _ _ => frozen_alloc _ _ _ _⟩⟩
    · exact ⟨_, _, rfl, Nat.le_refl _, .inl ⟨_, _, Val.add_self _ _ _, rfl, by omega⟩⟩
    · intro l hl
      simp only [List.length_append, List.length_cons, List.length_nil] at hl
      unfold Val.add
      rw [if_neg (by omega)]
      exact hf l (by omega)
    · show Inv _ _ (toF (h ++ [some _])) hR _
      rw [toF_push]; exact hinv
  · rename_i t a x hop
    split at hk
    case h_2 => exact hk.elim
    rename_i l off ha hs
    have hx := hρ a
    rw [ha] at hx
    obtain ⟨b, kk, hV, hx⟩ := hx
    have hy := hρ x
    split at hk
    · rename_i ob hl
      split at hk
      case h_2 => exact hk.elim
      rename_i ws k hr hxk
      have := R.isRow_eq _ _ hr
      subst this
      obtain ⟨⟨hil, hn⟩, hk⟩ := hk
      rw [hxk] at hy
      obtain ⟨b2, k2, hVk, hy⟩ := hy
      obtain ⟨w', s1, s2, s3⟩ := hi.rowPut (P := P) R.toRowK hl hV hVk hil hn hs
      refine ⟨.skip, w', V, _, undef, _, hk, by simp only [execOp, hop, hx, hy, Sem.run_bind, s1, Result.andThen_ok, Sem.run_pure], .inr ⟨rfl, rfl⟩, rfl, V.le_refl, ?_, by simp, s2, s3⟩
      intro m hm; exact hf m (by simpa using hm)
    · rename_i ob k hl
      split at hk
      case h_2 => exact hk.elim
      rename_i ws i hr hxk
      have := R.isHole_eq _ _ _ hr
      subst this
      obtain ⟨⟨hil, rfl⟩, hk⟩ := hk
      rw [hxk] at hy
      have hy' : ρ' x = .pointer none := hy
      obtain ⟨w', s1, s2, s3⟩ := hi.rowClr (P := P) R hl hV hil hs
      refine ⟨.skip, w', V, _, undef, _, hk, by simp only [execOp, hop, hx, hy', Sem.run_bind, s1, Result.andThen_ok, Sem.run_pure], .inr ⟨rfl, rfl⟩, rfl, V.le_refl, ?_, by simp, s2, s3⟩
      intro m hm; exact hf m (by simpa using hm)
    · exact hk.elim
  · exact hB ρ o h K hk V hR w ρ' hi hf hρ

theorem RowK.lentI (R : RowK tb) {V : Val} {h : Heap A} {hR : PHeap} {w : World} {l i k b kk : Nat} {ws : R.R} (hi : Inv (obI tb) V (toF h) hR w) (hl : hget h l = some (.abs (R.hole ws i) [k])) (hV : V l = some (b, kk)) (hil : i < R.len ws) {t : TypeId} (ht : aisAgg P t = some false) :
    ∃ v', (Instr.loadAt t (.pointer (some ⟨b, i, none⟩))).run P w = .ok v' w ∧ Rep V (.ptr k 0) v' := by
  obtain ⟨hs', h1, h2, h3, h4, h5, h6⟩ := id hi
  obtain ⟨b', k', hV', bs, hlo, N, hob⟩ := h1 l _ hl
  obtain ⟨x, hxk, hbs⟩ := Locs.one_inv hlo
  subst hbs
  rw [hV] at hV'
  simp only [Option.some.injEq, Prod.mk.injEq] at hV'
  obtain ⟨rfl, rfl⟩ := hV'
  cases N with
  | zero => exact hob.elim
  | succ N =>
  obtain ⟨cs, T, o6, o7⟩ := R.lent hob hil
  have seg : cs.toList.drop i = [.pointer (some ⟨x.1, 0, none⟩)] ++ cs.toList.drop (i + 1) := by
    obtain ⟨hlt', hv'⟩ := List.getElem?_eq_some_iff.1 o7
    rw [← hv']
    exact List.drop_eq_getElem_cons hlt'
  exact load_seg (P := P) (V := V) (t := t) (av := [.ptr k 0]) (v := .ptr k 0) (h5 l b _ o6) seg ⟨_, [], rfl, ⟨x.1, x.2, hxk, rfl⟩, rfl⟩ (by unfold aloadC; rw [ht]; rfl)

def RowK.fld (R : RowK tb) (P : Program) (t : TypeId) (l off : Nat) (h : Heap A) : Option (AVal × Option Prop) :=
  match hget h l, aisAgg P t with
  | some (.abs a [k]), some false => match R.isHole a with
    | some (ws, i) => some (.ptr k 0, some (i < R.len ws ∧ off = i))
    | none => none
  | _, _ => none
theorem RowK.fld_ok (R : RowK tb) (t : TypeId) (l off : Nat) (h : Heap A) (v : AVal) (q : Option Prop) (hf : R.fld P t l off h = some (v, q)) (hq : onp q) (V : Val) (hR : PHeap) (w : World) (b k : Nat) (hi : Inv (obI tb) V (toF h) hR w) (hV : V l = some (b, k)) :
    ∃ v', (Instr.loadAt t (.pointer (some ⟨b, off, none⟩))).run P w = .ok v' w ∧ Rep V v v' := by
  unfold RowK.fld at hf
  split at hf
  case h_2 => cases hf
  rename_i a k' hl ht
  split at hf
  case h_2 => cases hf
  rename_i ws i hr
  simp only [Option.some.injEq, Prod.mk.injEq] at hf
  obtain ⟨rfl, rfl⟩ := hf
  obtain ⟨hil, rfl⟩ : i < R.len ws ∧ off = i := hq
  have := R.isHole_eq _ _ _ hr
  subst this
  exact R.lentI hi hl hV hil ht

def RowK.opsL (R : RowK tb) (P : Program) (B : (Operand → AVal) → Op → Heap A → (AVal → Heap A → Prop) → Prop) (ρ : Operand → AVal) (op : Op) (h : Heap A) (K : AVal → Heap A → Prop) : Prop :=
  match op with
  | .load t a => match ρ a with
    | .ptr l off => match R.fld P t l off h with
      | some (v, some q) => q ∧ K v h
      | _ => B ρ (.load t a) h K
    | _ => B ρ (.load t a) h K
  | op => B ρ op h K
theorem RowK.opsL_ok (R : RowK tb) {B : (Operand → AVal) → Op → Heap A → (AVal → Heap A → Prop) → Prop} (hB : RowFits tb P B) : RowFits tb P (R.opsL P B) := by
  intro ρ o h K hk V hR w ρ' hi hf hρ
  unfold RowK.opsL at hk
  split at hk
  · rename_i t a hop
    split at hk
    · rename_i l off ha
      split at hk
      · rename_i v q hfl
        obtain ⟨hq, hk⟩ := hk
        have hx := hρ a
        rw [ha] at hx
        obtain ⟨b, kk, hV, hx⟩ := hx
        obtain ⟨v', g1, g2⟩ := R.fld_ok (P := P) t l off h v (some q) hfl hq V hR w b kk hi hV
        exact ⟨_, w, V, v, v', h, hk, by simp [execOp, hop, hx, g1], .inl rfl, g2, V.le_refl, hf, Nat.le_refl _, hi, Grows.refl w⟩
      · exact hB ρ o h K (by rw [hop]; exact hk) V hR w ρ' hi hf hρ
    · exact hB ρ o h K (by rw [hop]; exact hk) V hR w ρ' hi hf hρ
  · exact hB ρ o h K hk V hR w ρ' hi hf hρ
end Go.Sh

namespace Go.Sh
open Go
variable [Con] {A : Type} {P : Program} {tb : A → Nat × Heap A} {I : Itp A}

end Go.Sh

