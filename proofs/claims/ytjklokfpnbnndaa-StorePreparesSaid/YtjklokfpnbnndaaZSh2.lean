/- The small-heap evaluator, part 2: what a step does to the entries that a world holds. -/
import Derived.Test.YtjklokfpnbnndaaZSh1
set_option linter.all false
set_option linter.unusedSectionVars false
namespace Go.Sh
open Go
variable [Con] {A : Type} {I : A → Nat → PHeap → Prop}

theorem PHeap.one_self (b : Nat) (o : Obj) : PHeap.one b o b = some o := by simp [PHeap.one]
theorem PHeap.one_ne {b c : Nat} (o : Obj) (h : c ≠ b) : PHeap.one b o c = none := by simp [PHeap.one, h]
theorem PHeap.one_sub {b : Nat} {o : Obj} {w : World} : (PHeap.one b o).sub w ↔ w.heap[b]? = some o := by
  constructor
  · intro h; exact h b o (PHeap.one_self b o)
  · intro h c p e
    by_cases hc : c = b
    · subst hc; rw [PHeap.one_self] at e; cases e; exact h
    · rw [PHeap.one_ne _ hc] at e; cases e

theorem Inv.cells {V : Val} {h : FHeap A} {hR : PHeap} {w : World} (hi : Inv I V h hR w) {l : Nat} {vs : List AVal} (hl : h l = some (.cells vs)) :
    ∃ b k cs T rs tail, V l = some (b, k) ∧ w.heap[b]? = some (.cells cs T) ∧ cs.size = k ∧ cs.toList = rs ++ tail ∧ RepL V vs rs := by
  obtain ⟨hs, h1, h2, h3, h4, h5, h6⟩ := hi
  obtain ⟨b, k, e1, cs, T, e2, e3, rs, tail, e4, r⟩ := h1 l _ hl
  have := h5 l
  rw [e2] at this
  exact ⟨b, k, cs, T, rs, tail, e1, PHeap.one_sub.1 this, e3, e4, r⟩

theorem Inv.ints {V : Val} {h : FHeap A} {hR : PHeap} {w : World} (hi : Inv I V h hR w) {l : Nat} {c : Code1} {xs : List Int} (hl : h l = some (.ints c xs)) (hne : xs ≠ []) :
    ∃ b k cs T tail, V l = some (b, k) ∧ w.heap[b]? = some (.cells cs T) ∧ cs.size = k ∧ cs.toList = xs.map c.val ++ tail := by
  obtain ⟨hs, h1, h2, h3, h4, h5, h6⟩ := hi
  rcases h1 l _ hl with ⟨e, _⟩ | ⟨b, k, e1, cs, T, tail, e2, e3, e4⟩
  · exact (hne e).elim
  · have := h5 l
    rw [e2] at this
    exact ⟨b, k, cs, T, tail, e1, PHeap.one_sub.1 this, e3, e4⟩

/-- the block of a label is given another content -/
theorem Inv.replace {V : Val} {h : FHeap A} {hR : PHeap} {w w' : World} (hi : Inv I V h hR w) {l : Nat} {e e' : Entry A} (hl : h l = some e) {b : Nat} {o' : Obj}
    (hb : ∀ g, e.interp I V l g → ∃ o, g = .one b o) (he' : e'.interp I V l (.one b o')) (hw : w'.heap[b]? = some o') (hne : ∀ c, c ≠ b → w'.heap[c]? = w.heap[c]?) :
    Inv I V (h.put l (some e')) hR w' := by
  obtain ⟨hs, h1, h2, h3, h4, h5, h6⟩ := hi
  obtain ⟨o, ho⟩ := hb _ (h1 l e hl)
  have key : ∀ g : PHeap, PHeap.disj (hs l) g → g b = none := by
    intro g d
    rcases d b with d | d
    · rw [ho, PHeap.one_self] at d; cases d
    · exact d
  have dis : ∀ g : PHeap, PHeap.disj (hs l) g → PHeap.disj (.one b o') g := by
    intro g d c
    by_cases hc : c = b
    · subst hc; exact .inr (key g d)
    · exact .inl (PHeap.one_ne _ hc)
  refine ⟨fun m => if m = l then .one b o' else hs m, ?_, ?_, ?_, ?_, ?_, ?_⟩
  · intro m x hm
    by_cases hml : m = l
    · subst hml; simp [FHeap.put] at hm; subst hm; simpa using he'
    · simp [FHeap.put, hml] at hm; simpa [hml] using h1 m x hm
  · intro m hm
    by_cases hml : m = l
    · subst hml; simp [FHeap.put] at hm
    · simp [FHeap.put, hml] at hm; simpa [hml] using h2 m hm
  · intro m n hmn
    by_cases hml : m = l
    · have hnl : n ≠ l := fun e => hmn (hml.trans e.symm)
      simp only [hml, if_true, hnl, if_false]
      exact dis _ (h3 l n (fun e => hnl e.symm))
    · by_cases hnl : n = l
      · simp only [hnl, if_true, hml, if_false]
        exact (dis _ (h3 l m (fun e => hml e.symm))).symm
      · simp only [hml, hnl, if_false]; exact h3 m n hmn
  · intro m
    by_cases hml : m = l
    · simp only [hml, if_true]; exact dis _ (h4 l)
    · simp only [hml, if_false]; exact h4 m
  · intro m
    by_cases hml : m = l
    · simp only [hml, if_true]; exact PHeap.one_sub.2 hw
    · simp only [hml, if_false]
      intro c p hc
      have : c ≠ b := by
        intro e; subst e
        rw [key _ (h3 l m (fun e => hml e.symm))] at hc; cases hc
      rw [hne c this]; exact h5 m c p hc
  · refine ⟨?_, h6.2⟩
    intro c p hc
    have : c ≠ b := by
      intro e; subst e
      rw [key _ (h4 l)] at hc; cases hc
    rw [hne c this]; exact h6.1 c p hc

theorem PHeap.sub_lt {h : PHeap} {w : World} (hs : h.sub w) {b : Nat} (hb : w.heap.size ≤ b) : h b = none := by
  cases e : h b with
  | none => rfl
  | some o =>
    have := hs b o e
    rw [Array.getElem?_eq_none (by omega)] at this
    cases this

theorem PHeap.sub_push {h : PHeap} {w : World} (hs : h.sub w) (o : Obj) : h.sub { w with heap := w.heap.push o } := by
  intro b p e
  have := hs b p e
  have hlt : b < w.heap.size := by
    cases Nat.lt_or_ge b w.heap.size with
    | inl h => exact h
    | inr h => rw [PHeap.sub_lt hs h] at e; cases e
  show (w.heap.push o)[b]? = _
  rw [Array.getElem?_push, if_neg (by omega)]
  exact this

/-- a new block, with a label of its own -/
theorem Inv.push {V : Val} {h : FHeap A} {hR : PHeap} {w : World} (hi : Inv I V h hR w) {l : Nat} (hV : V l = none) (hl : h l = none) {o : Obj} {k : Nat} {e : Entry A}
    (he : e.interp I (V.add l (w.heap.size, k)) l (.one w.heap.size o)) :
    Inv I (V.add l (w.heap.size, k)) (h.put l (some e)) hR { w with heap := w.heap.push o } := by
  obtain ⟨hs, h1, h2, h3, h4, h5, h6⟩ := hi
  have dis : ∀ g : PHeap, g.sub w → PHeap.disj (.one w.heap.size o) g := by
    intro g d c
    by_cases hc : c = w.heap.size
    · subst hc; exact .inr (PHeap.sub_lt d (Nat.le_refl _))
    · exact .inl (PHeap.one_ne _ hc)
  refine ⟨fun m => if m = l then .one w.heap.size o else hs m, ?_, ?_, ?_, ?_, ?_, ⟨PHeap.sub_push h6.1 o, h6.2⟩⟩
  · intro m x hm
    by_cases hml : m = l
    · subst hml; simp [FHeap.put] at hm; subst hm; simpa using he
    · simp [FHeap.put, hml] at hm; simpa [hml] using Entry.interp_mono (Val.le_add hV) (h1 m x hm)
  · intro m hm
    by_cases hml : m = l
    · subst hml; simp [FHeap.put] at hm
    · simp [FHeap.put, hml] at hm; simpa [hml] using h2 m hm
  · intro m n hmn
    by_cases hml : m = l
    · have hnl : n ≠ l := fun e => hmn (hml.trans e.symm)
      simp only [hml, if_true, hnl, if_false]
      exact dis _ (h5 n)
    · by_cases hnl : n = l
      · simp only [hnl, if_true, hml, if_false]
        exact (dis _ (h5 m)).symm
      · simp only [hml, hnl, if_false]; exact h3 m n hmn
  · intro m
    by_cases hml : m = l
    · simp only [hml, if_true]; exact dis _ h6.1
    · simp only [hml, if_false]; exact h4 m
  · intro m
    by_cases hml : m = l
    · simp only [hml, if_true]
      refine PHeap.one_sub.2 ?_
      show (w.heap.push o)[w.heap.size]? = _
      simp
    · simp only [hml, if_false]
      exact PHeap.sub_push (h5 m) o

/-- a label is forgotten -/
theorem Inv.kill {V : Val} {h : FHeap A} {hR : PHeap} {w : World} (hi : Inv I V h hR w) (l : Nat) : Inv I V (h.put l none) hR w := by
  obtain ⟨hs, h1, h2, h3, h4, h5, h6⟩ := hi
  refine ⟨fun m => if m = l then .emp else hs m, ?_, ?_, ?_, ?_, ?_, h6⟩
  · intro m x hm
    by_cases hml : m = l
    · subst hml; simp [FHeap.put] at hm
    · simp [FHeap.put, hml] at hm; simpa [hml] using h1 m x hm
  · intro m hm
    by_cases hml : m = l
    · simp [hml]
    · simp [FHeap.put, hml] at hm; simpa [hml] using h2 m hm
  · intro m n hmn
    by_cases hml : m = l
    · simp only [hml, if_true]; exact (PHeap.disj_emp _).symm
    · by_cases hnl : n = l
      · simp only [hnl, if_true]; exact PHeap.disj_emp _
      · simp only [hml, hnl, if_false]; exact h3 m n hmn
  · intro m
    by_cases hml : m = l
    · simp only [hml, if_true]; exact (PHeap.disj_emp _).symm
    · simp only [hml, if_false]; exact h4 m
  · intro m
    by_cases hml : m = l
    · simp only [hml, if_true]; exact PHeap.emp_sub _
    · simp only [hml, if_false]; exact h5 m

/-- what a label had is another label's -/
theorem Inv.move {V V' : Val} {h : FHeap A} {hR : PHeap} {w : World} (hi : Inv I V h hR w) {l m : Nat} (hne : m ≠ l) {e e' : Entry A} (hl : h l = some e) (hm : h m = none) (hV : V.le V')
    (hc : ∀ g, e.interp I V l g → e'.interp I V' m g) : Inv I V' ((h.put l none).put m (some e')) hR w := by
  obtain ⟨hs, h1, h2, h3, h4, h5, h6⟩ := hi
  refine ⟨fun n => if n = m then hs l else if n = l then .emp else hs n, ?_, ?_, ?_, ?_, ?_, h6⟩
  · intro n x hn
    by_cases hnm : n = m
    · subst hnm; simp [FHeap.put] at hn; subst hn; simpa using hc _ (h1 l e hl)
    · by_cases hnl : n = l
      · subst hnl; simp [FHeap.put, hnm] at hn
      · simp [FHeap.put, hnm, hnl] at hn; simpa [hnm, hnl] using Entry.interp_mono hV (h1 n x hn)
  · intro n hn
    by_cases hnm : n = m
    · subst hnm; simp [FHeap.put] at hn
    · by_cases hnl : n = l
      · simp [hnl, hne.symm]
      · simp [FHeap.put, hnm, hnl] at hn; simpa [hnm, hnl] using h2 n hn
  · intro n p hnp
    have em : hs m = .emp := h2 m hm
    by_cases hnm : n = m
    · have hpm : p ≠ m := fun e => hnp (hnm.trans e.symm)
      simp only [hnm, if_true, hpm, if_false]
      by_cases hpl : p = l
      · simp only [hpl, if_true]; exact PHeap.disj_emp _
      · simp only [hpl, if_false]; exact h3 l p (fun e => hpl e.symm)
    · simp only [hnm, if_false]
      by_cases hnl : n = l
      · simp only [hnl, if_true]; exact (PHeap.disj_emp _).symm
      · simp only [hnl, if_false]
        by_cases hpm : p = m
        · simp only [hpm, if_true]; exact h3 n l hnl
        · simp only [hpm, if_false]
          by_cases hpl : p = l
          · simp only [hpl, if_true]; exact PHeap.disj_emp _
          · simp only [hpl, if_false]; exact h3 n p hnp
  · intro n
    by_cases hnm : n = m
    · simp only [hnm, if_true]; exact h4 l
    · by_cases hnl : n = l
      · have : ∀ g : PHeap, (if n = m then hs l else if n = l then PHeap.emp else g) = .emp := fun g => by rw [if_neg hnm, if_pos hnl]
        show (if n = m then hs l else if n = l then PHeap.emp else hs n).disj hR
        rw [this]; exact (PHeap.disj_emp _).symm
      · simp only [hnm, hnl, if_false]; exact h4 n
  · intro n
    by_cases hnm : n = m
    · simp only [hnm, if_true]; exact h5 l
    · by_cases hnl : n = l
      · have : ∀ g : PHeap, (if n = m then hs l else if n = l then PHeap.emp else g) = .emp := fun g => by rw [if_neg hnm, if_pos hnl]
        show (if n = m then hs l else if n = l then PHeap.emp else hs n).sub w
        rw [this]; exact PHeap.emp_sub _
      · simp only [hnm, hnl, if_false]; exact h5 n

/-- an empty row of its own -/
theorem Inv.empty {V : Val} {h : FHeap A} {hR : PHeap} {w : World} (hi : Inv I V h hR w) {l : Nat} (hV : V l = none) (hl : h l = none) (c : Code1) : Inv I (V.add l (0, 0)) (h.put l (some (.ints c []))) hR w := by
  obtain ⟨hs, h1, h2, h3, h4, h5, h6⟩ := hi
  refine ⟨hs, ?_, ?_, h3, h4, h5, h6⟩
  · intro m x hm
    by_cases hml : m = l
    · subst hml; simp [FHeap.put] at hm; subst hm; exact .inl ⟨rfl, h2 m hl, 0, Val.add_self _ _ _⟩
    · simp [FHeap.put, hml] at hm; exact Entry.interp_mono (Val.le_add hV) (h1 m x hm)
  · intro m hm
    by_cases hml : m = l
    · subst hml; exact h2 m hl
    · simp [FHeap.put, hml] at hm; exact h2 m hm

/-- the union of many -/
noncomputable def PHeap.big (hs : Nat → PHeap) : PHeap := fun b =>
  open Classical in if h : ∃ l, hs l b ≠ none then hs (Classical.choose h) b else none
theorem PHeap.big_of {hs : Nat → PHeap} (d : ∀ l m, l ≠ m → (hs l).disj (hs m)) {l b : Nat} {o : Obj} (h : hs l b = some o) : PHeap.big hs b = some o := by
  have hex : ∃ l, hs l b ≠ none := ⟨l, by rw [h]; simp⟩
  unfold PHeap.big
  rw [dif_pos hex]
  have hc := Classical.choose_spec hex
  by_cases hl : Classical.choose hex = l
  · rw [hl]; exact h
  · rcases d _ _ hl b with d | d
    · exact (hc d).elim
    · rw [h] at d; cases d
theorem PHeap.big_some {hs : Nat → PHeap} {b : Nat} {o : Obj} (h : PHeap.big hs b = some o) : ∃ l, hs l b = some o := by
  unfold PHeap.big at h
  split at h
  · rename_i hex; exact ⟨_, h⟩
  · cases h
theorem PHeap.big_none {hs : Nat → PHeap} {b : Nat} (h : ∀ l, hs l b = none) : PHeap.big hs b = none := by
  cases e : PHeap.big hs b with
  | none => rfl
  | some o => obtain ⟨l, hl⟩ := PHeap.big_some e; rw [h l] at hl; cases hl

def PHeap.join (h g : PHeap) : PHeap := fun b => match h b with | some o => some o | none => g b
theorem PHeap.join_none {h g : PHeap} {b : Nat} : PHeap.join h g b = none ↔ h b = none ∧ g b = none := by
  unfold PHeap.join; cases h b <;> simp
theorem PHeap.join_left {h g : PHeap} {b : Nat} {o : Obj} (e : h b = some o) : PHeap.join h g b = some o := by simp [PHeap.join, e]
theorem PHeap.join_right {h g : PHeap} {b : Nat} (e : h b = none) : PHeap.join h g b = g b := by simp [PHeap.join, e]


/-- a part of the entries alone: the others lie beside it -/
theorem Inv.split {V : Val} {h : FHeap A} {hR : PHeap} {w : World} (hi : Inv I V h hR w) (S : Nat → Bool) :
    ∃ hR', Inv I V (fun l => if S l then h l else none) hR' w ∧
      ∀ V' g w', V.le V' → Inv I V' g hR' w' → (∀ l, S l = false → h l ≠ none → g l = none) →
        Inv I V' (fun l => if S l = false ∧ h l ≠ none then h l else g l) hR w' := by
  obtain ⟨hs, h1, h2, h3, h4, h5, h6⟩ := hi
  let rs : Nat → PHeap := fun l => if S l then .emp else hs l
  have rd : ∀ l m, l ≠ m → (rs l).disj (rs m) := by
    intro l m hlm
    show PHeap.disj (if S l then .emp else hs l) (if S m then .emp else hs m)
    split
    · exact (PHeap.disj_emp _).symm
    · split
      · exact PHeap.disj_emp _
      · exact h3 l m hlm
  have rhR : ∀ b, PHeap.big rs b = none ∨ hR b = none := by
    intro b
    cases e : PHeap.big rs b with
    | none => exact .inl rfl
    | some o =>
      obtain ⟨l, hl⟩ := PHeap.big_some e
      have : hs l b ≠ none := by
        have hl' : (if S l then PHeap.emp else hs l) b = some o := hl
        split at hl'
        · cases hl'
        · rw [hl']; simp
      rcases h4 l b with d | d
      · exact (this d).elim
      · exact .inr d
  refine ⟨PHeap.join hR (PHeap.big rs), ⟨fun l => if S l then hs l else .emp, ?_, ?_, ?_, ?_, ?_, ?_⟩, ?_⟩
  · intro l e he
    cases hS : S l with
    | true => simp [hS] at he ⊢; exact h1 l e he
    | false => simp [hS] at he
  · intro l hl
    cases hS : S l with
    | true => simp [hS] at hl ⊢; exact h2 l hl
    | false => simp [hS]
  · intro l m hlm
    show PHeap.disj (if S l then hs l else .emp) (if S m then hs m else .emp)
    split
    · split
      · exact h3 l m hlm
      · exact PHeap.disj_emp _
    · exact (PHeap.disj_emp _).symm
  · intro l b
    show (if S l then hs l else PHeap.emp) b = none ∨ _
    cases hS : S l with
    | false => exact .inl rfl
    | true =>
      simp only [if_true]
      cases e : hs l b with
      | none => exact .inl rfl
      | some o =>
        refine .inr (PHeap.join_none.2 ⟨?_, PHeap.big_none fun m => ?_⟩)
        · rcases h4 l b with d | d
          · rw [e] at d; cases d
          · exact d
        · show (if S m then PHeap.emp else hs m) b = none
          by_cases hm : S m = true
          · rw [if_pos hm]; rfl
          · rw [if_neg hm]
            have : l ≠ m := fun e' => hm (e' ▸ hS)
            rcases h3 l m this b with d | d
            · rw [e] at d; cases d
            · exact d
  · intro l
    show (if S l then hs l else PHeap.emp).sub w
    split
    · exact h5 l
    · exact PHeap.emp_sub _
  · refine ⟨?_, fun b o e => PHeap.join_left (h6.2 b o e)⟩
    intro b o e
    unfold PHeap.join at e
    cases er : hR b with
    | some p => rw [er] at e; cases e; exact h6.1 b _ er
    | none =>
      rw [er] at e
      obtain ⟨l, hl⟩ := PHeap.big_some e
      have hl' : (if S l then PHeap.emp else hs l) b = some o := hl
      split at hl'
      · cases hl'
      · exact h5 l b o hl'
  · intro V' g w' hV hg hz
    obtain ⟨gs, g1, g2, g3, g4, g5, g6⟩ := hg
    have rsub : ∀ l, (rs l).sub w' := by
      intro l b o e
      have := PHeap.big_of rd e
      refine g6.1 b o ?_
      rcases rhR b with d | d
      · rw [this] at d; cases d
      · rw [PHeap.join_right d]; exact this
    have hRsub : hR.sub w' := fun b o e => g6.1 b o (PHeap.join_left e)
    have grs : ∀ l m, (gs l).disj (rs m) := by
      intro l m b
      rcases g4 l b with d | d
      · exact .inl d
      · cases e : rs m b with
        | none => exact .inr rfl
        | some o => rw [(PHeap.join_none.1 d).2.symm, PHeap.big_of rd e]; exact .inr rfl
    have ghR : ∀ l, (gs l).disj hR := fun l b => (g4 l b).imp id (fun d => (PHeap.join_none.1 d).1)
    have rshR : ∀ l, (rs l).disj hR := by
      intro l
      show PHeap.disj (if S l then .emp else hs l) hR
      split
      · exact (PHeap.disj_emp _).symm
      · exact h4 l
    classical
    refine ⟨fun l => if S l = false ∧ h l ≠ none then rs l else gs l, ?_, ?_, ?_, ?_, ?_, ⟨hRsub, h6.2⟩⟩
    · intro l e he
      by_cases hc : S l = false ∧ h l ≠ none
      · simp only [if_pos hc] at he ⊢
        show e.interp I V' l (if S l then .emp else hs l)
        rw [if_neg (by simp [hc.1])]
        exact Entry.interp_mono hV (h1 l e he)
      · simp only [if_neg hc] at he ⊢
        exact g1 l e he
    · intro l hl
      by_cases hc : S l = false ∧ h l ≠ none
      · simp only [if_pos hc] at hl; exact (hc.2 hl).elim
      · simp only [if_neg hc] at hl ⊢; exact g2 l hl
    · intro l m hlm
      by_cases hc : S l = false ∧ h l ≠ none
      · simp only [if_pos hc]
        by_cases hd : S m = false ∧ h m ≠ none
        · simp only [if_pos hd]; exact rd l m hlm
        · simp only [if_neg hd]; exact (grs m l).symm
      · simp only [if_neg hc]
        by_cases hd : S m = false ∧ h m ≠ none
        · simp only [if_pos hd]; exact grs l m
        · simp only [if_neg hd]; exact g3 l m hlm
    · intro l
      by_cases hc : S l = false ∧ h l ≠ none
      · simp only [if_pos hc]; exact rshR l
      · simp only [if_neg hc]; exact ghR l
    · intro l
      by_cases hc : S l = false ∧ h l ≠ none
      · simp only [if_pos hc]; exact rsub l
      · simp only [if_neg hc]; exact g5 l

mutual
/-- other labels -/
def AVal.ren (ι : Nat → Nat) : AVal → AVal
  | .bool b => .bool b
  | .int k n => .int k n
  | .str s => .str s
  | .ptr l off => .ptr (ι l) off
  | .slice l off len sz => .slice (ι l) off len sz
  | .map l => .map (ι l)
  | .func fn f c => .func fn (AVal.renL ι f) (AVal.renL ι c)
  | .iface t a => .iface t (AVal.ren ι a)
  | .agg as => .agg (AVal.renL ι as)
  | .tup as => .tup (AVal.renL ι as)
  | .raw v => .raw v
  | .any => .any
  | .top => .top
  | .iview c xs => .iview c xs
  | .view n w row => .view n w row
  | .cptr as => .cptr as
  | .tslice l r n w => .tslice (ι l) r n w
  | .tptr l r w j => .tptr (ι l) r w j
  | .empty => .empty
def AVal.renL (ι : Nat → Nat) : List AVal → List AVal
  | [] => []
  | a :: as => AVal.ren ι a :: AVal.renL ι as
end

mutual
theorem Rep.ren {V : Val} {ι : Nat → Nat} : ∀ (a : AVal) (v : Value), Rep V (a.ren ι) v ↔ Rep (fun l => V (ι l)) a v
  | .bool _, _ => Iff.rfl
  | .int _ _, _ => Iff.rfl
  | .str _, _ => Iff.rfl
  | .ptr _ _, _ => Iff.rfl
  | .slice _ _ _ _, _ => Iff.rfl
  | .map _, _ => Iff.rfl
  | .func fn f c, v => by
    simp only [AVal.ren, Rep]
    constructor
    · rintro ⟨fs, cs, e, r, s⟩; exact ⟨fs, cs, e, (RepL.ren f _).1 r, (RepL.ren c _).1 s⟩
    · rintro ⟨fs, cs, e, r, s⟩; exact ⟨fs, cs, e, (RepL.ren f _).2 r, (RepL.ren c _).2 s⟩
  | .iface t a, v => by
    simp only [AVal.ren, Rep]
    constructor
    · rintro ⟨x, e, r⟩; exact ⟨x, e, (Rep.ren a _).1 r⟩
    · rintro ⟨x, e, r⟩; exact ⟨x, e, (Rep.ren a _).2 r⟩
  | .agg as, v => by
    simp only [AVal.ren, Rep]
    constructor
    · rintro ⟨x, e, r⟩; exact ⟨x, e, (RepL.ren as _).1 r⟩
    · rintro ⟨x, e, r⟩; exact ⟨x, e, (RepL.ren as _).2 r⟩
  | .tup as, v => by
    simp only [AVal.ren, Rep]
    constructor
    · rintro ⟨x, e, r⟩; exact ⟨x, e, (RepL.ren as _).1 r⟩
    · rintro ⟨x, e, r⟩; exact ⟨x, e, (RepL.ren as _).2 r⟩
  | .raw _, _ => Iff.rfl
  | .any, _ => Iff.rfl
  | .top, _ => Iff.rfl
  | .iview _ _, _ => Iff.rfl
  | .view _ _ _, _ => Iff.rfl
  | .cptr _, _ => Iff.rfl
  | .tslice _ _ _ _, _ => Iff.rfl
  | .tptr _ _ _ _, _ => Iff.rfl
  | .empty, _ => Iff.rfl
theorem RepL.ren {V : Val} {ι : Nat → Nat} : ∀ (a : List AVal) (v : List Value), RepL V (AVal.renL ι a) v ↔ RepL (fun l => V (ι l)) a v
  | [], _ => Iff.rfl
  | a :: as, v => by
    simp only [AVal.renL, RepL]
    constructor
    · rintro ⟨x, xs, e, r, s⟩; exact ⟨x, xs, e, (Rep.ren a _).1 r, (RepL.ren as _).1 s⟩
    · rintro ⟨x, xs, e, r, s⟩; exact ⟨x, xs, e, (Rep.ren a _).2 r, (RepL.ren as _).2 s⟩
end

def Entry.ren (ι : Nat → Nat) : Entry A → Entry A
  | .cells vs => .cells (AVal.renL ι vs)
  | .ints c xs => .ints c xs
  | .abs t => .abs t
  | .tab ks rows => .tab ks rows
  | .imap kk vc m => .imap kk vc m

theorem Entry.interp_ren {V : Val} {ι : Nat → Nat} {l : Nat} {e : Entry A} {g : PHeap} :
    (e.ren ι).interp I V (ι l) g ↔ e.interp I (fun l => V (ι l)) l g := by
  cases e with
  | cells vs =>
    simp only [Entry.ren, Entry.interp]
    constructor
    · rintro ⟨b, k, e1, cs, T, e2, e3, rs, tail, e4, r⟩; exact ⟨b, k, e1, cs, T, e2, e3, rs, tail, e4, (RepL.ren vs _).1 r⟩
    · rintro ⟨b, k, e1, cs, T, e2, e3, rs, tail, e4, r⟩; exact ⟨b, k, e1, cs, T, e2, e3, rs, tail, e4, (RepL.ren vs _).2 r⟩
  | ints c xs => exact Iff.rfl
  | abs t => exact Iff.rfl
  | tab ks rows => exact Iff.rfl
  | imap kk vc m => exact Iff.rfl

/-- the same entries under other labels -/
theorem Inv.relabel {V : Val} {h h0 : FHeap A} {hR : PHeap} {w : World} {ι : Nat → Nat} (hinj : ∀ l m, ι l = ι m → l = m)
    (he : ∀ l, h (ι l) = (h0 l).map (Entry.ren ι)) (hz : ∀ m, (∀ l, ι l ≠ m) → h m = none) :
    Inv I V h hR w ↔ Inv I (fun l => V (ι l)) h0 hR w := by
  constructor
  · rintro ⟨hs, h1, h2, h3, h4, h5, h6⟩
    refine ⟨fun l => hs (ι l), ?_, ?_, ?_, fun l => h4 _, fun l => h5 _, h6⟩
    · intro l e hl
      exact Entry.interp_ren.1 (h1 (ι l) (e.ren ι) (by rw [he, hl]; rfl))
    · intro l hl
      exact h2 (ι l) (by rw [he, hl]; rfl)
    · intro l m hlm
      exact h3 _ _ (fun e => hlm (hinj _ _ e))
  · rintro ⟨hs, h1, h2, h3, h4, h5, h6⟩
    classical
    let gs : Nat → PHeap := fun m => if hm : ∃ l, ι l = m then hs (Classical.choose hm) else .emp
    have hgs : ∀ l, gs (ι l) = hs l := by
      intro l
      have hm : ∃ k, ι k = ι l := ⟨l, rfl⟩
      show (if hm : ∃ k, ι k = ι l then hs (Classical.choose hm) else PHeap.emp) = hs l
      rw [dif_pos hm, hinj _ _ (Classical.choose_spec hm)]
    have hge : ∀ m, (∀ l, ι l ≠ m) → gs m = .emp := by
      intro m hm
      show (if hm : ∃ k, ι k = m then hs (Classical.choose hm) else PHeap.emp) = .emp
      rw [dif_neg (by rintro ⟨l, hl⟩; exact hm l hl)]
    have hcase : ∀ m, (∃ l, ι l = m) ∨ (∀ l, ι l ≠ m) := by
      intro m
      by_cases hm : ∃ l, ι l = m
      · exact .inl hm
      · exact .inr fun l hl => hm ⟨l, hl⟩
    refine ⟨gs, ?_, ?_, ?_, ?_, ?_, h6⟩
    · intro m e hm
      rcases hcase m with ⟨l, rfl⟩ | hn
      · rw [he] at hm
        cases h0l : h0 l with
        | none => rw [h0l] at hm; cases hm
        | some e0 =>
          rw [h0l] at hm; cases hm
          rw [hgs]
          exact Entry.interp_ren.2 (h1 l e0 h0l)
      · rw [hz m hn] at hm; cases hm
    · intro m hm
      rcases hcase m with ⟨l, rfl⟩ | hn
      · rw [he] at hm
        cases h0l : h0 l with
        | none => rw [hgs]; exact h2 l h0l
        | some e0 => rw [h0l] at hm; cases hm
      · exact hge m hn
    · intro m n hmn
      rcases hcase m with ⟨l, rfl⟩ | hm
      · rcases hcase n with ⟨k, rfl⟩ | hn
        · rw [hgs, hgs]; exact h3 l k (fun e => hmn (e ▸ rfl))
        · rw [hge n hn]; exact PHeap.disj_emp _
      · rw [hge m hm]; exact (PHeap.disj_emp _).symm
    · intro m
      rcases hcase m with ⟨l, rfl⟩ | hm
      · rw [hgs]; exact h4 l
      · rw [hge m hm]; exact (PHeap.disj_emp _).symm
    · intro m
      rcases hcase m with ⟨l, rfl⟩ | hm
      · rw [hgs]; exact h5 l
      · rw [hge m hm]; exact PHeap.emp_sub _

end Go.Sh
