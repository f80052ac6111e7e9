import Derived.Test.YtfkkdknanbddmaaZSh15toSh19
set_option linter.all false
/- The small-heap evaluator, part 23: objects that are told whole, with all that is their own. -/
namespace Go.Sh
open Go

variable [Con] {A : Type} (tb : A → Nat × Heap A)

/-- entries, each apart from the others -/
structure Pieces (I : Itp A) (V : Val) (h : FHeap A) (hs : Nat → PHeap) : Prop where
  ent : ∀ l e, h l = some e → e.interp I V l (hs l)
  non : ∀ l, h l = none → hs l = .emp
  dis : ∀ l m, l ≠ m → (hs l).disj (hs m)

/-- what an object is, told by a table: how many others it points to; its entries: at 0 it itself, then places for those others, then what is its own -/
def obN : Nat → Itp A
  | 0, _, _, _, _ => False
  | n + 1, t, r, bs, p => ∃ V hs, V 0 = some r ∧ (∀ i, i < (tb t).1 → V (1 + i) = bs[i]?) ∧ bs.length = (tb t).1 ∧ Pieces (obN n) V (toF (tb t).2) hs ∧ p = PHeap.big hs
def obI : Itp A := fun t r bs p => ∃ n, obN tb n t r bs p

theorem Entry.interp_mono_I {I I' : Itp A} (hI : ∀ t r bs p, I t r bs p → I' t r bs p) {V : Val} {l : Nat} {e : Entry A} {p : PHeap} (h : e.interp I V l p) : e.interp I' V l p := by
  cases e with
  | abs t ps =>
    obtain ⟨b, k, h1, bs, h2, h3⟩ := h
    exact ⟨b, k, h1, bs, h2, hI _ _ _ _ h3⟩
  | cells vs => exact h
  | ints c xs => exact h
  | tab ks rows => exact h
  | imap kk vc m => exact h
theorem Pieces.mono_I {I I' : Itp A} (hI : ∀ t r bs p, I t r bs p → I' t r bs p) {V : Val} {h : FHeap A} {hs : Nat → PHeap} (q : Pieces I V h hs) : Pieces I' V h hs :=
  ⟨fun l e he => Entry.interp_mono_I hI (q.ent l e he), q.non, q.dis⟩
theorem obN_succ : ∀ (n : Nat) (t : A) (r : Nat × Nat) (bs : List (Nat × Nat)) (p : PHeap), obN tb n t r bs p → obN tb (n + 1) t r bs p
  | 0, _, _, _, _, h => h.elim
  | n + 1, t, r, bs, p, ⟨V, hs, h1, h2, h3, h4, h5⟩ => ⟨V, hs, h1, h2, h3, h4.mono_I (obN_succ n), h5⟩
theorem obN_le {n m : Nat} (hnm : n ≤ m) {t : A} {r : Nat × Nat} {bs : List (Nat × Nat)} {p : PHeap} (h : obN tb n t r bs p) : obN tb m t r bs p := by
  induction hnm with
  | refl => exact h
  | step _ ih => exact obN_succ tb _ _ _ _ _ ih
/-- one depth for all -/
theorem depth_of {V : Val} {hs : Nat → PHeap} : ∀ (g : Heap A) (k : Nat), (∀ l e, hget g l = some e → e.interp (obI tb) V (k + l) (hs (k + l))) → ∃ n, ∀ l e, hget g l = some e → e.interp (obN tb n) V (k + l) (hs (k + l))
  | [], k, _ => ⟨0, fun l e h => by simp [hget] at h⟩
  | x :: g, k, h => by
    obtain ⟨n, hn⟩ := depth_of g (k + 1) (fun l e he => by
      have := h (l + 1) e (by simpa [hget] using he)
      rw [show k + (l + 1) = k + 1 + l from by omega] at this
      exact this)
    have h0 : ∃ m, ∀ e, x = some e → e.interp (obN tb m) V k (hs k) := by
      cases x with
      | none => exact ⟨0, fun e he => by cases he⟩
      | some e =>
        have := h 0 e rfl
        cases e with
        | abs t ps =>
          obtain ⟨b, q, h1, bs, h2, m, h3⟩ := this
          exact ⟨m, fun e he => by cases he; exact ⟨b, q, h1, bs, h2, h3⟩⟩
        | cells vs => exact ⟨0, fun e he => by cases he; exact this⟩
        | ints c xs => exact ⟨0, fun e he => by cases he; exact this⟩
        | tab ks rows => exact ⟨0, fun e he => by cases he; exact this⟩
        | imap kk vc mm => exact ⟨0, fun e he => by cases he; exact this⟩
    obtain ⟨m, hm⟩ := h0
    refine ⟨max n m, fun l e he => ?_⟩
    cases l with
    | zero =>
      have hx : x = some e := by simpa [hget] using he
      exact Entry.interp_mono_I (fun t r bs p => obN_le tb (Nat.le_max_right n m)) (hm e hx)
    | succ l =>
      have := Entry.interp_mono_I (fun t r bs p => obN_le tb (Nat.le_max_left n m)) (hn l e (by simpa [hget] using he))
      rw [show k + 1 + l = k + (l + 1) from by omega] at this
      exact this

theorem Entry.congrV {I : Itp A} {V V' : Val} {pl : List Nat} (hV : ∀ l, pl.elem l = true → V l = V' l) {l : Nat} {e : Entry A} {p : PHeap} (q1 : V l = V' l) (q2 : e.within pl = true) (hi : e.interp I V l p) : e.interp I V' l p := by
  cases e with
  | cells vs =>
    obtain ⟨b, k, hl, cs, T, e1, e2, rs, tail, e3, r⟩ := hi
    exact ⟨b, k, by rw [← q1]; exact hl, cs, T, e1, e2, rs, tail, e3, RepL.congrV hV _ _ q2 r⟩
  | ints c xs =>
    rcases hi with ⟨e1, e2, b, hl⟩ | ⟨b, k, hl, r⟩
    · exact .inl ⟨e1, e2, b, by rw [← q1]; exact hl⟩
    · exact .inr ⟨b, k, by rw [← q1]; exact hl, r⟩
  | abs t ps =>
    obtain ⟨b, k, hl, bs, hb, r⟩ := hi
    exact ⟨b, k, by rw [← q1]; exact hl, bs, Locs.congr (fun m hm => hV m (allIn_mem q2 m hm)) hb, r⟩
  | tab ks rows =>
    rcases hi with ⟨e1, e2, b, hl⟩ | ⟨b, k, hl, r⟩
    · exact .inl ⟨e1, e2, b, by rw [← q1]; exact hl⟩
    · exact .inr ⟨b, k, by rw [← q1]; exact hl, r⟩
  | imap kk vc m =>
    obtain ⟨b, k, hl, r⟩ := hi
    exact ⟨b, k, by rw [← q1]; exact hl, r⟩

theorem elem_upto {n l : Nat} : (upto 0 n).elem l = true ↔ l < n := by rw [upto_mem]; omega
theorem Locs.len {V : Val} : ∀ {ls : List Nat} {bs : List (Nat × Nat)}, Locs V ls bs → bs.length = ls.length
  | [], _, e => by rw [e]; rfl
  | _ :: _, _, ⟨x, r, h1, h2, h3⟩ => by rw [h2]; simp [Locs.len h3]
theorem Locs.get {V : Val} : ∀ {ls : List Nat} {bs : List (Nat × Nat)}, Locs V ls bs → ∀ i, i < ls.length → V (ls.getD i 0) = bs[i]?
  | [], _, _, i, hi => by cases hi
  | l :: ls, _, ⟨x, r, h1, h2, h3⟩, i, hi => by
    subst h2
    cases i with
    | zero => simpa using h1
    | succ i => simpa using Locs.get h3 i (by simpa using hi)
theorem Locs.mk {V : Val} : ∀ {ls : List Nat}, (∀ l ∈ ls, ∃ x, V l = some x) → ∃ bs, Locs V ls bs
  | [], _ => ⟨[], rfl⟩
  | l :: ls, h => by
    obtain ⟨x, hx⟩ := h l List.mem_cons_self
    obtain ⟨r, hr⟩ := Locs.mk (fun m hm => h m (List.mem_cons_of_mem _ hm))
    exact ⟨x :: r, x, r, hx, rfl, hr⟩

/-- where an object's labels lie, when it is opened -/
def unI (l : Nat) (ps : List Nat) (n np : Nat) (i : Nat) : Nat := match i with
  | 0 => l
  | j + 1 => if j < np then ps.getD j 0 else n + (j - np)
/-- an object, opened: itself, and behind all what is its own -/
def unpackH (h : Heap A) (l np : Nat) (g : Heap A) (ps : List Nat) : Heap A :=
  h.set l ((hget g 0).map (Entry.ren (unI l ps h.length np))) ++ (g.drop (1 + np)).map (Option.map (Entry.ren (unI l ps h.length np)))

theorem unpackH_len (h : Heap A) (l np : Nat) (g : Heap A) (ps : List Nat) : (unpackH h l np g ps).length = h.length + (g.length - (1 + np)) := by
  unfold unpackH; simp

/-- are its own labels its own, and are the places for others empty? -/
def obOk (np : Nat) (g : Heap A) : Bool := heapWithin g.length g && Nat.ble (1 + np) g.length && (g.drop 1 |>.take np).all (·.isNone) && (hget g 0).isSome

theorem obOk_spec {np : Nat} {g : Heap A} (h : obOk np g = true) : heapWithin g.length g = true ∧ 1 + np ≤ g.length ∧ (∀ i, i < np → hget g (1 + i) = none) ∧ ∃ e, hget g 0 = some e := by
  unfold obOk at h
  simp only [Bool.and_eq_true] at h
  obtain ⟨⟨⟨h1, h2⟩, h3⟩, h4⟩ := h
  refine ⟨h1, Nat.le_of_ble_eq_true h2, ?_, Option.isSome_iff_exists.1 h4⟩
  intro i hi
  have hlen := Nat.le_of_ble_eq_true h2
  rw [List.all_eq_true] at h3
  have hx := h3 (hget g (1 + i)) (by
    rw [List.mem_iff_getElem?]
    refine ⟨i, ?_⟩
    rw [List.getElem?_take, if_pos hi, List.getElem?_drop]
    simp only [hget, List.getD_eq_getElem?_getD]
    rw [List.getElem?_eq_getElem (by omega)]
    rfl)
  simpa using hx
theorem within_of {g : Heap A} (h : heapWithin g.length g = true) {l : Nat} {e : Entry A} (he : hget g l = some e) : e.within (upto 0 g.length) = true := by
  unfold heapWithin at h
  rw [List.all_eq_true] at h
  simp only [hget, List.getD_eq_getElem?_getD] at he
  have hl : l < g.length := by
    cases Nat.lt_or_ge l g.length with
    | inl q => exact q
    | inr q => rw [List.getElem?_eq_none q] at he; cases he
  rw [List.getElem?_eq_getElem hl] at he
  have := h (g[l]) (List.getElem_mem hl)
  simp only [Option.getD_some] at he
  rw [he] at this
  exact this
theorem unpackH_at {h : Heap A} {l np : Nat} {g : Heap A} {ps : List Nat} (hl : l < h.length) : hget (unpackH h l np g ps) l = (hget g 0).map (Entry.ren (unI l ps h.length np)) := by
  unfold unpackH
  rw [hget_append_left (by simpa using hl)]
  simp only [hget, List.getD_eq_getElem?_getD]
  rw [List.getElem?_set_self hl]; rfl
theorem unpackH_other {h : Heap A} {l np : Nat} {g : Heap A} {ps : List Nat} {m : Nat} (hm : m < h.length) (hlm : m ≠ l) : hget (unpackH h l np g ps) m = hget h m := by
  unfold unpackH
  rw [hget_append_left (by simpa using hm)]
  simp only [hget, List.getD_eq_getElem?_getD]
  rw [List.getElem?_set_ne (fun e => hlm e.symm)]
theorem unpackH_new {h : Heap A} {l np : Nat} {g : Heap A} {ps : List Nat} {j : Nat} : hget (unpackH h l np g ps) (h.length + j) = (hget g (1 + np + j)).map (Entry.ren (unI l ps h.length np)) := by
  unfold unpackH
  simp only [hget, List.getD_eq_getElem?_getD]
  rw [List.getElem?_append_right (by simp), List.length_set, List.getElem?_map, List.getElem?_drop, Nat.add_sub_cancel_left]
  cases g[1 + np + j]? <;> rfl

/-- AN OBJECT IS OPENED -/
theorem Inv.unpack {V : Val} {h : Heap A} {hR : PHeap} {w : World} {t : A} {l np : Nat} {g : Heap A} {ps : List Nat} (hi : Inv (obI tb) V (toF h) hR w) (hf : Fresh V h.length) (hl : hget h l = some (.abs t ps)) (ht : tb t = (np, g)) (ho : obOk np g = true) (hnp : ps.length = np) :
    ∃ V', V.le V' ∧ Fresh V' (unpackH h l np g ps).length ∧ Inv (obI tb) V' (toF (unpackH h l np g ps)) hR w := by
  obtain ⟨o1, o2, o3, e0, o4⟩ := obOk_spec ho
  have hll := hget_lt hl
  obtain ⟨hs, h1, h2, h3, h4, h5, h6⟩ := hi
  obtain ⟨b, k, hV, bs, hlo, n, hob⟩ := h1 l _ hl
  cases n with
  | zero => exact hob.elim
  | succ n =>
  obtain ⟨Vg, gs, g1, g2, g3, ⟨g4, g5, g6⟩, g7⟩ := hob
  rw [ht] at g2 g3 g4 g5
  dsimp only at g2 g3 g4 g5
  let V' : Val := fun m => if m < h.length then V m else if m < (unpackH h l np g ps).length then Vg (m - h.length + 1 + np) else none
  have hlen := unpackH_len h l np g ps
  have hle : V.le V' := by
    intro m x hm
    have hlt : m < h.length := by
      cases Nat.lt_or_ge m h.length with
      | inl q => exact q
      | inr q => rw [hf m q] at hm; cases hm
    show (if m < h.length then V m else _) = some x
    rw [if_pos hlt]; exact hm
  have hVι : ∀ i, (upto 0 g.length).elem i = true → Vg i = V' (unI l ps h.length np i) := by
    intro i hi
    rw [elem_upto] at hi
    cases i with
    | zero =>
      show _ = V' l
      rw [hle l _ hV]; exact g1
    | succ j =>
      show _ = V' (if j < np then ps.getD j 0 else h.length + (j - np))
      by_cases hj : j < np
      · rw [if_pos hj]
        have hg := hlo.get j (by omega)
        have hj2 : j < bs.length := by omega
        rw [List.getElem?_eq_getElem hj2] at hg
        rw [hle _ _ hg, Nat.add_comm, g2 j hj, List.getElem?_eq_getElem hj2]
      · rw [if_neg hj]
        show _ = if h.length + (j - np) < h.length then _ else _
        rw [if_neg (by omega), if_pos (by omega)]
        congr 1; omega
  have hent : ∀ i e, hget g i = some e → (e.ren (unI l ps h.length np)).interp (obI tb) V' (unI l ps h.length np i) (gs i) := by
    intro i e he
    refine Entry.interp_ren.2 ?_
    have q1 := Entry.interp_mono_I (I' := (obI tb)) (fun t r bs p hh => ⟨n, hh⟩) (g4 i e he)
    exact Entry.congrV hVι (hVι i (elem_upto.2 (hget_lt he))) (within_of o1 he) q1
  have hsub : ∀ i b' o, gs i b' = some o → hs l b' = some o := by
    intro i b' o hh
    rw [g7]; exact PHeap.big_of g6 hh
  let hs' : Nat → PHeap := fun m => if m < h.length then (if m = l then gs 0 else hs m) else gs (m - h.length + 1 + np)
  refine ⟨V', hle, ?_, hs', ?_, ?_, ?_, ?_, ?_, h6⟩
  · intro m hm
    show (if m < h.length then _ else _) = none
    rw [if_neg (by omega), if_neg (by omega)]
  · intro m e he
    by_cases hm : m < h.length
    · by_cases hml : m = l
      · subst hml
        have he' : hget (unpackH h m np g ps) m = some e := he
        rw [unpackH_at hm, o4] at he'
        simp only [Option.map_some, Option.some.injEq] at he'
        show e.interp (obI tb) V' m (if m < h.length then (if m = m then gs 0 else hs m) else _)
        rw [if_pos hm, if_pos rfl, ← he']
        exact hent 0 e0 o4
      · have he' : hget (unpackH h l np g ps) m = some e := he
        rw [unpackH_other hm hml] at he'
        show e.interp (obI tb) V' m (if m < h.length then (if m = l then gs 0 else hs m) else _)
        rw [if_pos hm, if_neg hml]
        exact Entry.interp_mono hle (h1 m e he')
    · have he' : hget (unpackH h l np g ps) m = some e := he
      have hm2 : m = h.length + (m - h.length) := by omega
      rw [hm2, unpackH_new] at he'
      cases hq : hget g (1 + np + (m - h.length)) with
      | none => rw [hq] at he'; cases he'
      | some e1 =>
        rw [hq] at he'
        simp only [Option.map_some, Option.some.injEq] at he'
        have := hent _ e1 hq
        show e.interp (obI tb) V' m (if m < h.length then _ else gs (m - h.length + 1 + np))
        rw [if_neg hm, ← he']
        have e3 : unI l ps h.length np (1 + np + (m - h.length)) = m := by
          have : 1 + np + (m - h.length) = (np + (m - h.length)) + 1 := by omega
          rw [this]
          show (if np + (m - h.length) < np then _ else h.length + (np + (m - h.length) - np)) = m
          rw [if_neg (by omega)]; omega
        rw [e3] at this
        have e4 : m - h.length + 1 + np = 1 + np + (m - h.length) := by omega
        rw [e4]; exact this
  · intro m he
    by_cases hm : m < h.length
    · by_cases hml : m = l
      · subst hml
        have he' : hget (unpackH h m np g ps) m = none := he
        rw [unpackH_at hm, o4] at he'; cases he'
      · have he' : hget (unpackH h l np g ps) m = none := he
        rw [unpackH_other hm hml] at he'
        show (if m < h.length then (if m = l then gs 0 else hs m) else _) = _
        rw [if_pos hm, if_neg hml]
        exact h2 m he'
    · have he' : hget (unpackH h l np g ps) m = none := he
      have hm2 : m = h.length + (m - h.length) := by omega
      rw [hm2, unpackH_new] at he'
      show (if m < h.length then _ else gs (m - h.length + 1 + np)) = _
      rw [if_neg hm]
      have e4 : m - h.length + 1 + np = 1 + np + (m - h.length) := by omega
      rw [e4]
      refine g5 _ ?_
      cases hq : hget g (1 + np + (m - h.length)) with
      | none => exact hq
      | some e1 => rw [hq] at he'; cases he'
  · intro m m' hmm
    intro b'
    show (if m < h.length then (if m = l then gs 0 else hs m) else gs (m - h.length + 1 + np)) b' = none ∨ (if m' < h.length then (if m' = l then gs 0 else hs m') else gs (m' - h.length + 1 + np)) b' = none
    have out : ∀ i m, m ≠ l → gs i b' = none ∨ hs m b' = none := by
      intro i m hml
      cases hq : gs i b' with
      | none => exact .inl rfl
      | some o =>
        right
        have := hsub i b' o hq
        rcases h3 l m (fun e => hml e.symm) b' with q | q
        · rw [q] at this; cases this
        · exact q
    by_cases hm : m < h.length
    · by_cases hm' : m' < h.length
      · rw [if_pos hm, if_pos hm']
        by_cases hml : m = l
        · have hml' : m' ≠ l := fun e => hmm (hml.trans e.symm)
          rw [if_pos hml, if_neg hml']; exact out 0 m' hml'
        · rw [if_neg hml]
          by_cases hml' : m' = l
          · rw [if_pos hml']; exact (out 0 m hml).symm
          · rw [if_neg hml']; exact h3 m m' hmm b'
      · rw [if_pos hm, if_neg hm']
        by_cases hml : m = l
        · rw [if_pos hml]; exact g6 0 _ (by omega) b'
        · rw [if_neg hml]; exact (out _ m hml).symm
    · by_cases hm' : m' < h.length
      · rw [if_neg hm, if_pos hm']
        by_cases hml' : m' = l
        · rw [if_pos hml']; exact g6 _ 0 (by omega) b'
        · rw [if_neg hml']; exact out _ m' hml'
      · rw [if_neg hm, if_neg hm']; exact g6 _ _ (by omega) b'
  · intro m b'
    have out : ∀ i, gs i b' = none ∨ hR b' = none := by
      intro i
      cases hq : gs i b' with
      | none => exact .inl rfl
      | some o =>
        right
        have := hsub i b' o hq
        rcases h4 l b' with q | q
        · rw [q] at this; cases this
        · exact q
    show (if m < h.length then (if m = l then gs 0 else hs m) else gs (m - h.length + 1 + np)) b' = none ∨ hR b' = none
    split
    · split
      · exact out 0
      · exact h4 m b'
    · exact out _
  · intro m b' o hq
    have hq' : (if m < h.length then (if m = l then gs 0 else hs m) else gs (m - h.length + 1 + np)) b' = some o := hq
    split at hq'
    · split at hq'
      · exact h5 l b' o (hsub 0 b' o hq')
      · exact h5 m b' o hq'
    · exact h5 l b' o (hsub _ b' o hq')

/-- may an object be shut up again? -/
def packOk (h : Heap A) (l : Nat) (ps : List Nat) : Bool := heapWithin h.length h && ps.all (fun p => Nat.blt p h.length && !Nat.beq p l && (hget h p).isSome)

/-- AN OBJECT IS SHUT -/
theorem Inv.pack {V : Val} {h : Heap A} {hR : PHeap} {w : World} {t : A} {l np : Nat} {g : Heap A} {ps : List Nat} (hi : Inv (obI tb) V (toF (unpackH h l np g ps)) hR w) (hl : hget h l = some (.abs t ps)) (ht : tb t = (np, g)) (ho : obOk np g = true) (hnp : ps.length = np) (hp : packOk h l ps = true) :
    Inv (obI tb) (fun m => if m < h.length then V m else none) (toF h) hR w := by
  obtain ⟨o1, o2, o3, e0, o4⟩ := obOk_spec ho
  have hll := hget_lt hl
  unfold packOk at hp
  rw [Bool.and_eq_true, List.all_eq_true] at hp
  obtain ⟨p1, p2⟩ := hp
  have hdom : ∀ m e, hget (unpackH h l np g ps) m = some e → ∃ x, V m = some x := fun m e he => hi.dom he
  obtain ⟨hs, h1, h2, h3, h4, h5, h6⟩ := hi
  have hlen := unpackH_len h l np g ps
  have hps : ∀ p ∈ ps, p < h.length ∧ p ≠ l ∧ ∃ x, V p = some x := by
    intro p hp
    have := p2 p hp
    simp only [Bool.and_eq_true, Bool.not_eq_true', Nat.blt_eq] at this
    obtain ⟨⟨q1, q2⟩, q3⟩ := this
    have q2' : p ≠ l := by intro e; rw [e] at q2; simp at q2
    obtain ⟨e, he⟩ := Option.isSome_iff_exists.1 q3
    exact ⟨q1, q2', hdom p e (by rw [unpackH_other q1 q2']; exact he)⟩
  have hV0 : ∃ x, V l = some x := hdom l (e0.ren (unI l ps h.length np)) (by rw [unpackH_at hll, o4]; rfl)
  obtain ⟨⟨b, k⟩, hVl⟩ := hV0
  obtain ⟨bs, hbs⟩ := Locs.mk (V := V) (ls := ps) (fun p hp => (hps p hp).2.2)
  -- the object's pieces
  let gs : Nat → PHeap := fun j => match j with
    | 0 => hs l
    | i + 1 => if i < np then .emp else hs (h.length + (i - np))
  have gs_sub : ∀ j, gs j = .emp ∨ ∃ m, (m = l ∨ h.length ≤ m) ∧ gs j = hs m := by
    intro j
    cases j with
    | zero => exact .inr ⟨l, .inl rfl, rfl⟩
    | succ i =>
      show (if i < np then PHeap.emp else hs (h.length + (i - np))) = .emp ∨ _
      by_cases hi : i < np
      · rw [if_pos hi]; exact .inl rfl
      · right
        refine ⟨h.length + (i - np), .inr (by omega), ?_⟩
        show (if i < np then PHeap.emp else hs (h.length + (i - np))) = _
        rw [if_neg hi]
  have gdis : ∀ i j, i ≠ j → (gs i).disj (gs j) := by
    intro i j hij
    cases i with
    | zero =>
      cases j with
      | zero => exact (hij rfl).elim
      | succ j =>
        show PHeap.disj (hs l) (if j < np then .emp else hs (h.length + (j - np)))
        split
        · exact PHeap.disj_emp _
        · exact h3 _ _ (by omega)
    | succ i =>
      cases j with
      | zero =>
        show PHeap.disj (if i < np then .emp else hs (h.length + (i - np))) (hs l)
        split
        · exact (PHeap.disj_emp _).symm
        · exact h3 _ _ (by omega)
      | succ j =>
        show PHeap.disj (if i < np then .emp else hs (h.length + (i - np))) (if j < np then .emp else hs (h.length + (j - np)))
        split
        · exact (PHeap.disj_emp _).symm
        · split
          · exact PHeap.disj_emp _
          · exact h3 _ _ (by omega)
  have gent : ∀ i e, hget g i = some e → e.interp (obI tb) (fun i => V (unI l ps h.length np i)) i (gs i) := by
    intro i e he
    refine Entry.interp_ren.1 ?_
    cases i with
    | zero =>
      show (e.ren _).interp (obI tb) V l (hs l)
      exact h1 l _ (by show hget _ _ = _; rw [unpackH_at hll, he]; rfl)
    | succ i =>
      have hi : ¬ i < np := by
        intro hi
        have := o3 i hi
        rw [Nat.add_comm, he] at this; cases this
      have e3 : unI l ps h.length np (i + 1) = h.length + (i - np) := by
        show (if i < np then _ else _) = _
        rw [if_neg hi]
      show (e.ren _).interp (obI tb) V (unI l ps h.length np (i + 1)) (if i < np then PHeap.emp else hs (h.length + (i - np)))
      rw [if_neg hi, e3]
      refine h1 _ _ ?_
      show hget _ _ = _
      rw [unpackH_new]
      have : 1 + np + (i - np) = i + 1 := by omega
      rw [this, he]; rfl
  obtain ⟨n, hn⟩ := depth_of tb (hs := gs) g 0 (by simpa using gent)
  have gnon : ∀ i, toF g i = none → gs i = .emp := by
    intro i he
    cases i with
    | zero => have : hget g 0 = none := he; rw [o4] at this; cases this
    | succ i =>
      show (if i < np then PHeap.emp else hs (h.length + (i - np))) = .emp
      by_cases hi : i < np
      · rw [if_pos hi]
      · rw [if_neg hi]
        refine h2 _ ?_
        show hget _ _ = _
        rw [unpackH_new]
        have : 1 + np + (i - np) = i + 1 := by omega
        have he' : hget g (i + 1) = none := he
        rw [this, he']; rfl
  have hbig : ∀ b' o, PHeap.big gs b' = some o → ∃ m, (m = l ∨ h.length ≤ m) ∧ hs m b' = some o := by
    intro b' o hh
    obtain ⟨j, hj⟩ := PHeap.big_some hh
    rcases gs_sub j with q | ⟨m, q1, q2⟩
    · rw [q] at hj; cases hj
    · exact ⟨m, q1, by rw [← q2]; exact hj⟩
  have own : ∀ m, m < h.length → (fun m => if m < h.length then V m else none) m = V m := fun m hm => if_pos hm
  refine ⟨fun m => if m = l then PHeap.big gs else if m < h.length then hs m else .emp, ?_, ?_, ?_, ?_, ?_, h6⟩
  · intro m e he
    have hm : m < h.length := hget_lt he
    by_cases hml : m = l
    · subst hml
      have he' : hget h m = some e := he
      rw [hl] at he'
      simp only [Option.some.injEq] at he'
      subst he'
      show Entry.interp (obI tb) _ m _ (if m = m then PHeap.big gs else _)
      rw [if_pos rfl]
      refine ⟨b, k, by show (if m < h.length then V m else none) = _; rw [if_pos hm]; exact hVl, bs, hbs.congr (fun p hp => (own p (hps p hp).1).symm), n + 1, ?_⟩
      show ∃ V1 hs1, V1 0 = some (b, k) ∧ (∀ i, i < (tb t).1 → V1 (1 + i) = bs[i]?) ∧ bs.length = (tb t).1 ∧ Pieces (obN tb n) V1 (toF (tb t).2) hs1 ∧ PHeap.big gs = PHeap.big hs1
      rw [ht]
      refine ⟨ (fun i => V (unI m ps h.length np i)), gs, hVl, ?_, by rw [hbs.len]; exact hnp, ⟨fun l e he => by have := hn l e he; simpa using this, gnon, gdis⟩, rfl⟩
      intro i hi
      have := hbs.get i (by omega)
      rw [← this]
      show V (unI m ps h.length np (1 + i)) = _
      rw [Nat.add_comm]
      show V (if i < np then _ else _) = _
      rw [if_pos hi]
    · show e.interp (obI tb) _ m (if m = l then _ else if m < h.length then hs m else .emp)
      rw [if_neg hml, if_pos hm]
      have he' : hget h m = some e := he
      refine Entry.congrV (pl := upto 0 h.length) (V := V) (fun i hi => (own i (elem_upto.1 hi)).symm) (own m hm).symm (within_of p1 he') ?_
      exact h1 m e (by show hget _ _ = _; rw [unpackH_other hm hml]; exact he')
  · intro m he
    have he' : hget h m = none := he
    by_cases hml : m = l
    · subst hml; rw [hl] at he'; cases he'
    · show (if m = l then _ else if m < h.length then hs m else .emp) = _
      rw [if_neg hml]
      by_cases hm : m < h.length
      · rw [if_pos hm]
        exact h2 m (by show hget _ _ = _; rw [unpackH_other hm hml]; exact he')
      · rw [if_neg hm]
  · intro m m' hmm b'
    show (if m = l then PHeap.big gs else if m < h.length then hs m else .emp) b' = none ∨ (if m' = l then PHeap.big gs else if m' < h.length then hs m' else .emp) b' = none
    have out : ∀ m, m ≠ l → PHeap.big gs b' = none ∨ (if m < h.length then hs m else PHeap.emp) b' = none := by
      intro m hml
      by_cases hm : m < h.length
      · rw [if_pos hm]
        cases hq : PHeap.big gs b' with
        | none => exact .inl rfl
        | some o =>
          right
          obtain ⟨m2, q1, q2⟩ := hbig b' o hq
          rcases h3 m2 m (by rcases q1 with q | q <;> omega) b' with q | q
          · rw [q] at q2; cases q2
          · exact q
      · rw [if_neg hm]; exact .inr rfl
    by_cases hml : m = l
    · have hml' : m' ≠ l := fun e => hmm (hml.trans e.symm)
      rw [if_pos hml, if_neg hml']; exact out m' hml'
    · rw [if_neg hml]
      by_cases hml' : m' = l
      · rw [if_pos hml']; exact (out m hml).symm
      · rw [if_neg hml']
        by_cases hm : m < h.length
        · rw [if_pos hm]
          by_cases hm' : m' < h.length
          · rw [if_pos hm']; exact h3 m m' hmm b'
          · rw [if_neg hm']; exact .inr rfl
        · rw [if_neg hm]; exact .inl rfl
  · intro m b'
    show (if m = l then PHeap.big gs else if m < h.length then hs m else .emp) b' = none ∨ hR b' = none
    by_cases hml : m = l
    · rw [if_pos hml]
      cases hq : PHeap.big gs b' with
      | none => exact .inl rfl
      | some o =>
        right
        obtain ⟨m2, q1, q2⟩ := hbig b' o hq
        rcases h4 m2 b' with q | q
        · rw [q] at q2; cases q2
        · exact q
    · rw [if_neg hml]
      by_cases hm : m < h.length
      · rw [if_pos hm]; exact h4 m b'
      · rw [if_neg hm]; exact .inl rfl
  · intro m b' o hq
    have hq' : (if m = l then PHeap.big gs else if m < h.length then hs m else .emp) b' = some o := hq
    by_cases hml : m = l
    · rw [if_pos hml] at hq'
      obtain ⟨m2, q1, q2⟩ := hbig b' o hq'
      exact h5 m2 b' o q2
    · rw [if_neg hml] at hq'
      by_cases hm : m < h.length
      · rw [if_pos hm] at hq'; exact h5 m b' o hq'
      · rw [if_neg hm] at hq'; cases hq'

variable {P : Program}
theorem CallOk.unpack {f : FuncId} {args : List AVal} {h : Heap A} {K : AVal → Heap A → Prop} (t : A) (l np : Nat) (g : Heap A) (ps : List Nat) (hl : hget h l = some (.abs t ps)) (ht : tb t = (np, g)) (ho : obOk np g = true) (hnp : ps.length = np)
    (h0 : CallOk (obI tb) P f args (unpackH h l np g ps) K) : CallOk (obI tb) P f args h K := by
  intro V hR w args' hi hf hr
  obtain ⟨V1, v1, v2, v3⟩ := hi.unpack tb hf hl ht ho hnp
  refine (h0 V1 hR w args' v3 v2 (RepL.mono v1 _ _ hr)).mono ?_
  rintro e w' ⟨v, v', V', h', k1, k2, k3, k4, k5, k6, k7, k8⟩
  exact ⟨v, v', V', h', k1, k2, k3, Val.le_trans v1 k4, k5, Nat.le_trans (by rw [unpackH_len]; omega) k6, k7, k8⟩

/-- K, of a heap in which an object is shut: the heap told by pl -/
structure PackK (n : Nat) (K : AVal → Heap A → Prop) (v : AVal) (g' : Heap A) : Prop where
  ex : ∃ (pl : List Nat) (h2 : Heap A) (t : A) (l np : Nat) (g : Heap A) (ps : List Nat), (goodPl pl g'.length && keeps pl 0 n && Nat.ble n h2.length && obOk np g && packOk h2 l ps && (trimV pl v).within (upto 0 h2.length) && Nat.beq ps.length np) = true ∧ trimH pl g' = unpackH h2 l np g ps ∧ tb t = (np, g) ∧ hget h2 l = some (.abs t ps) ∧ K (trimV pl v) h2
theorem CallOk.pack {f : FuncId} {args : List AVal} {h : Heap A} {K : AVal → Heap A → Prop} (h0 : CallOk (obI tb) P f args h (PackK tb h.length K)) : CallOk (obI tb) P f args h K := by
  intro V hR w args' hi hf hr
  refine (h0 V hR w args' hi hf hr).mono ?_
  rintro e w' ⟨v, v', V', g', ⟨pl, h2, t, l, np, g, ps, hb, hT, ht, hl, hK⟩, k2, k3, k4, k5, k6, k7, k8⟩
  simp only [Bool.and_eq_true] at hb
  obtain ⟨⟨⟨⟨⟨⟨b1, b2⟩, b3⟩, b4⟩, b5⟩, b6⟩, b7⟩ := hb
  obtain ⟨e1, e2⟩ := keeps_spec b2
  have hp := trimH_picks (h := g') b1
  have hi2 := k7.pick hp
  rw [hT] at hi2
  have hi3 := hi2.pack tb hl ht b4 (Nat.eq_of_beq_eq_true b7) b5
  have hn : h.length ≤ h2.length := Nat.le_of_ble_eq_true b3
  refine ⟨trimV pl v, v', _, h2, hK, k2, ?_, ?_, ?_, hn, hi3, k8⟩
  · have := trimV_rep (n := g'.length) (pl := pl) k3
    exact Rep.congrV (pl := upto 0 h2.length) (fun i hi => by
      show _ = if i < h2.length then _ else none
      rw [if_pos (elem_upto.1 hi)]) _ _ b6 this
  · intro m x hm
    have hlt : m < h.length := by
      cases Nat.lt_or_ge m h.length with
      | inl q => exact q
      | inr q => rw [hf m q] at hm; cases hm
    show (if m < h2.length then V' (lab pl g'.length m) else none) = some x
    rw [if_pos (by omega)]
    have : lab pl g'.length m = m := by unfold lab; rw [e2 m hlt]; simp
    rw [this]; exact k4 m x hm
  · intro m hm
    show (if m < h2.length then _ else none) = none
    rw [if_neg (by omega)]

/-- K, of a heap in which an object is opened -/
structure OpenK (K : AVal → Heap A → Prop) (v : AVal) (g' : Heap A) : Prop where
  ex : ∃ (t : A) (l np : Nat) (g : Heap A) (ps : List Nat), (obOk np g && Nat.beq ps.length np) = true ∧ tb t = (np, g) ∧ hget g' l = some (.abs t ps) ∧ K v (unpackH g' l np g ps)
theorem CallOk.opened {f : FuncId} {args : List AVal} {h : Heap A} {K : AVal → Heap A → Prop} (h0 : CallOk (obI tb) P f args h (OpenK tb K)) : CallOk (obI tb) P f args h K := by
  intro V hR w args' hi hf hr
  refine (h0 V hR w args' hi hf hr).mono ?_
  rintro e w' ⟨v, v', V', g', ⟨t, l, np, g, ps, hb, ht, hl, hK⟩, k2, k3, k4, k5, k6, k7, k8⟩
  simp only [Bool.and_eq_true] at hb
  obtain ⟨b1, b2⟩ := hb
  obtain ⟨V1, v1, v2, v3⟩ := k7.unpack tb k5 hl ht b1 (Nat.eq_of_beq_eq_true b2)
  exact ⟨v, v', V1, _, hK, k2, Rep.mono v1 _ _ k3, Val.le_trans k4 v1, v2, Nat.le_trans k6 (by rw [unpackH_len]; omega), v3, k8⟩

/-- labels behind the n first ones go k further -/
def farI (n k i : Nat) : Nat := if i < n then i else i + k
/-- a heap with k places more behind the n first ones -/
def farH (n k : Nat) (g : Heap A) : Heap A := (g.take n).map (Option.map (Entry.ren (farI n k))) ++ List.replicate k none ++ (g.drop n).map (Option.map (Entry.ren (farI n k)))
theorem farH_get {n k : Nat} {g : Heap A} (hn : n ≤ g.length) (i : Nat) : hget (farH n k g) (farI n k i) = (hget g i).map (Entry.ren (farI n k)) := by
  have hl : ((g.take n).map (Option.map (Entry.ren (farI n k)))).length = n := by rw [List.length_map, List.length_take]; omega
  unfold farH hget
  simp only [List.getD_eq_getElem?_getD]
  by_cases hi : i < n
  · have e : farI n k i = i := if_pos hi
    rw [e, List.append_assoc, List.getElem?_append_left (by rw [hl]; exact hi), List.getElem?_map, List.getElem?_take, if_pos hi]
    rw [List.getElem?_eq_getElem (by omega)]
    rfl
  · have e : farI n k i = i + k := if_neg hi
    rw [e, List.getElem?_append_right (by rw [List.length_append, hl, List.length_replicate]; omega), List.getElem?_map, List.getElem?_drop]
    have e2 : n + (i + k - ((g.take n).map (Option.map (Entry.ren (farI n k))) ++ List.replicate k (none : Option (Entry A))).length) = i := by
      rw [List.length_append, hl, List.length_replicate]; omega
    rw [e2]
    cases g[i]? <;> rfl
theorem farH_len {n k : Nat} {g : Heap A} (hn : n ≤ g.length) : (farH n k g).length = g.length + k := by
  unfold farH
  rw [List.length_append, List.length_append, List.length_map, List.length_take, List.length_replicate, List.length_map, List.length_drop]; omega
theorem farH_none {n k : Nat} {g : Heap A} (hn : n ≤ g.length) {m : Nat} (h1 : n ≤ m) (h2 : m < n + k) : hget (farH n k g) m = none := by
  have hl : ((g.take n).map (Option.map (Entry.ren (farI n k)))).length = n := by rw [List.length_map, List.length_take]; omega
  unfold farH hget
  simp only [List.getD_eq_getElem?_getD]
  rw [List.append_assoc, List.getElem?_append_right (by rw [hl]; exact h1), hl, List.getElem?_append_left (by rw [List.length_replicate]; omega), List.getElem?_replicate, if_pos (by omega)]
  rfl
theorem farI_inj {n k : Nat} : ∀ i j, farI n k i = farI n k j → i = j := by
  intro i j h
  unfold farI at h
  split at h <;> split at h <;> omega

/-- A CALL THAT BEGINS WITH AN OBJECT SHUT UP -/
theorem CallOk.shut {f : FuncId} {args : List AVal} {h' : Heap A} {K : AVal → Heap A → Prop} (h : Heap A) (t : A) (l np : Nat) (g : Heap A) (ps : List Nat) (he : h' = unpackH h l np g ps) (hl : hget h l = some (.abs t ps)) (ht : tb t = (np, g))
    (hb : (obOk np g && packOk h l ps && AVal.withinL (upto 0 h.length) args && Nat.beq ps.length np) = true)
    (h0 : CallOk (obI tb) P f args h (fun v g2 => K (v.ren (farI h.length (h'.length - h.length))) (farH h.length (h'.length - h.length) g2))) : CallOk (obI tb) P f args h' K := by
  subst he
  simp only [Bool.and_eq_true] at hb
  obtain ⟨⟨⟨b1, b2⟩, b3⟩, b4⟩ := hb
  have hlen := unpackH_len h l np g ps
  generalize hk : (unpackH h l np g ps).length - h.length = k at h0
  intro V hR w args' hi hf hr
  have hi2 := hi.pack tb hl ht b1 (Nat.eq_of_beq_eq_true b4) b2
  have hf2 : Fresh (fun m => if m < h.length then V m else none) h.length := by
    intro m hm
    show (if m < h.length then _ else none) = none
    rw [if_neg (by omega)]
  have hr2 : RepL (fun m => if m < h.length then V m else none) args args'.toList := RepL.congrV (pl := upto 0 h.length) (fun i hi => by
      show _ = if i < h.length then _ else none
      rw [if_pos (elem_upto.1 hi)]) _ _ b3 hr
  refine (h0 _ hR w args' hi2 hf2 hr2).mono ?_
  rintro e w' ⟨v, v', V', g2, hK, k2, k3, k4, k5, k6, k7, k8⟩
  let V1 : Val := fun m => if m < h.length then V' m else if m < h.length + k then V m else V' (m - k)
  have hV1 : (fun i => V1 (farI h.length k i)) = V' := by
    funext i
    show (if farI h.length k i < h.length then _ else _) = _
    by_cases hi : i < h.length
    · have e : farI h.length k i = i := if_pos hi
      rw [e, if_pos hi]
    · have e : farI h.length k i = i + k := if_neg hi
      rw [e, if_neg (by omega), if_neg (by omega), Nat.add_sub_cancel]
  refine ⟨_, v', V1, _, hK, k2, ?_, ?_, ?_, ?_, ?_, k8⟩
  · refine (Rep.ren _ _).2 ?_
    rw [hV1]; exact k3
  · intro m x hm
    show (if m < h.length then _ else _) = some x
    by_cases h1 : m < h.length
    · rw [if_pos h1]
      exact k4 m x (by show (if m < h.length then V m else none) = some x; rw [if_pos h1]; exact hm)
    · rw [if_neg h1]
      have h2 : m < h.length + k := by
        cases Nat.lt_or_ge m (h.length + k) with
        | inl q => exact q
        | inr q => rw [hf m (by omega)] at hm; cases hm
      rw [if_pos h2]; exact hm
  · intro m hm
    rw [farH_len k6] at hm
    show (if m < h.length then _ else _) = none
    rw [if_neg (by omega), if_neg (by omega)]
    exact k5 _ (by omega)
  · rw [farH_len k6]; omega
  · refine (Inv.relabel (ι := farI h.length k) (h0 := toF g2) farI_inj (fun i => farH_get k6 i) ?_).2 (by rw [hV1]; exact k7)
    intro m hm
    by_cases h1 : m < h.length
    · exact (hm m (if_pos h1)).elim
    · by_cases h2 : m < h.length + k
      · exact farH_none k6 (by omega) h2
      · refine (hm (m - k) ?_).elim
        show (if m - k < h.length then _ else _) = m
        rw [if_neg (by omega)]; omega

end Go.Sh

