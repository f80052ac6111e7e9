/- The small-heap evaluator, part 14: a statement that leaves its order open, whatever order is drawn. -/
import Derived.Test.YtjklokfpnbnndaaZSh13
set_option linter.all false
set_option linter.unusedVariables false
set_option linter.unusedSectionVars false
namespace Go.Sh
open Go
variable [Con] {A : Type}
section
variable {P : Program} {E : Env A P}

theorem indep_spec {ops : Array Oper} {x y : Item A} (h : indep ops x y = true) :
    (∀ d, x.o.dst = some d → d ∉ y.o.looksAt ops ∧ y.o.dst ≠ some d) ∧ (∀ d, y.o.dst = some d → d ∉ x.o.looksAt ops ∧ x.o.dst ≠ some d) ∧ (∀ l ∈ y.foot, x.puts l = false) ∧ (∀ l ∈ x.foot, y.puts l = false) := by
  unfold indep at h
  simp only [Bool.and_eq_true, List.all_eq_true, Bool.not_eq_true'] at h
  obtain ⟨⟨⟨h1, h2⟩, h3⟩, h4⟩ := h
  refine ⟨?_, ?_, h3, h4⟩
  · intro d hd
    simp only [dstApart, hd, Bool.and_eq_true, Bool.not_eq_true', bne_iff_ne, ne_eq] at h1
    exact ⟨by have := h1.1; simpa using this, h1.2⟩
  · intro d hd
    simp only [dstApart, hd, Bool.and_eq_true, Bool.not_eq_true', bne_iff_ne, ne_eq] at h2
    exact ⟨by have := h2.1; simpa using this, h2.2⟩

theorem hres_get (foot : List Nat) : ∀ (h : Heap A) (i l : Nat), hget (hres foot i h) l = if foot.contains (i + l) then hget h l else none
  | [], i, l => by simp [hres, hget]
  | e :: h, i, 0 => by
    simp only [hres, hget, List.getD_cons_zero, Nat.add_zero]
    cases foot.contains i <;> rfl
  | e :: h, i, l + 1 => by
    have := hres_get foot h (i + 1) l
    simp only [hget] at this
    simp only [hres, hget, List.getD_cons_succ]
    rw [this, show i + 1 + l = i + (l + 1) from by omega]

theorem hres_length (foot : List Nat) : ∀ (h : Heap A) (i : Nat), (hres foot i h).length = h.length
  | [], _ => rfl
  | e :: h, i => by simp [hres, hres_length foot h]

/-- all that is known of a statement that leaves its order open -/
structure Drawn (E : Env A P) (ops : Array Oper) (tm0 : List AVal) (h0 : Heap A) (its : List (Item A)) (tmN : List AVal) (hN : Heap A) : Prop where
  trace : Trace E ops tm0 h0 its tmN hN
  opers : its.map (·.o) = ops.toList
  edges : edgesOk ops.toList
  wells : its.all wellItem = true
  pairs : PairsP ops (masks [] ops.toList) its

variable {ops : Array Oper} {tm0 : List AVal} {h0 : Heap A} {its : List (Item A)} {tmN : List AVal} {hN : Heap A}

theorem Drawn.oper (d : Drawn E ops tm0 h0 its tmN hN) {k : Nat} {it : Item A} (hk : its[k]? = some it) : ops.toList[k]? = some it.o := by
  rw [← d.opers, List.getElem?_map, hk]; rfl
theorem Drawn.item (d : Drawn E ops tm0 h0 its tmN hN) {k : Nat} {o : Oper} (hk : ops.toList[k]? = some o) : ∃ it, its[k]? = some it ∧ it.o = o := by
  rw [← d.opers, List.getElem?_map] at hk
  cases h : its[k]? with
  | none => rw [h] at hk; cases hk
  | some it => rw [h] at hk; cases hk; exact ⟨it, rfl, rfl⟩

theorem Drawn.pair (d : Drawn E ops tm0 h0 its tmN hN) {i j : Nat} {x y : Item A} (hi : its[i]? = some x) (hj : its[j]? = some y) (hij : i < j) :
    (((masks [] ops.toList).getD j 0).testBit i = true) ∨ indep ops x y = true := by
  exact d.pairs i j x y hi hj hij

theorem Drawn.well (d : Drawn E ops tm0 h0 its tmN hN) {k : Nat} {it : Item A} (hk : its[k]? = some it) : wellItem it = true := by
  have := List.all_eq_true.1 d.wells
  exact this it (List.mem_of_getElem? hk)

/-- two writers of one thing, or a writer and a reader of it, are ordered -/
theorem Drawn.ordered (d : Drawn E ops tm0 h0 its tmN hN) {D : Nat → Bool} (hc : Closed ops.toList D) {k : Nat} {it : Item A} (hk : its[k]? = some it) (hD : D k = false)
    (hr : ∀ e ∈ it.o.after.toList, Region.binds .any e = true → D e.on = true) {i : Nat} {x : Item A} (hi : its[i]? = some x) (hik : i ≠ k)
    (hdep : indep ops x it = false ∨ indep ops it x = false) (hsym : indep ops x it = false → indep ops it x = false) (hsym2 : indep ops it x = false → indep ops x it = false) : D i = decide (i < k) := by
  rcases Nat.lt_or_gt_of_ne hik with hlt | hgt
  · rcases d.pair hi hk hlt with h | h
    · rcases ready_mask hc (d.oper hk) hr h with h | h
      · exact (hik h).elim
      · rw [h]; simp [hlt]
    · rcases hdep with e | e
      · rw [e] at h; cases h
      · rw [hsym2 e] at h; cases h
  · rcases d.pair hk hi hgt with h | h
    · have : D i = false := by
        cases e : D i with
        | false => rfl
        | true => rw [done_mask hc e h] at hD; cases hD
      rw [this]; simp; omega
    · rcases hdep with e | e
      · rw [hsym e] at h; cases h
      · rw [e] at h; cases h

theorem indep_symm {x y : Item A} : indep ops x y = indep ops y x := by
  unfold indep
  cases dstApart ops x.o y.o <;> cases dstApart ops y.o x.o <;> cases y.foot.all (fun l => !x.puts l) <;> cases x.foot.all (fun l => !y.puts l) <;> rfl

theorem Drawn.order (d : Drawn E ops tm0 h0 its tmN hN) {D : Nat → Bool} (hc : Closed ops.toList D) {k : Nat} {it : Item A} (hk : its[k]? = some it) (hD : D k = false)
    (hr : ∀ e ∈ it.o.after.toList, Region.binds .any e = true → D e.on = true) {i : Nat} {x : Item A} (hi : its[i]? = some x) (hik : i ≠ k) (hdep : indep ops x it = false) : D i = decide (i < k) :=
  d.ordered hc hk hD hr hi hik (.inl hdep) (fun h => by rw [indep_symm]; exact h) (fun h => by rw [indep_symm]; exact h)

/-- not independent, if one looks at what the other one writes -/
theorem dep_read {x y : Item A} {t : Nat} (hx : x.o.dst = some t) (hy : t ∈ y.o.looksAt ops) : indep ops x y = false := by
  cases h : indep ops x y with
  | false => rfl
  | true => exact ((indep_spec h).1 t hx |>.1 hy).elim
theorem dep_dst {x y : Item A} {t : Nat} (hx : x.o.dst = some t) (hy : y.o.dst = some t) : indep ops x y = false := by
  cases h : indep ops x y with
  | false => rfl
  | true => exact ((indep_spec h).1 t hx |>.2 hy).elim
theorem dep_foot {x y : Item A} {l : Nat} (hx : x.puts l = true) (hy : l ∈ y.foot) : indep ops x y = false := by
  cases h : indep ops x y with
  | false => rfl
  | true => have := (indep_spec h).2.2.1 l hy; rw [hx] at this; cases this

/-- where a set of operations has been done -/
def Stand (E : Env A P) (tm0 : List AVal) (h0 : Heap A) (its : List (Item A)) (V0 : Val) (hR : PHeap) (w0 : World) (D : Nat → Bool) (a : Act) (w : World) : Prop :=
  ∃ V, V0.le V ∧ (∀ l, V l ≠ none → V0 l ≠ none ∨ ∃ i it, its[i]? = some it ∧ D i = true ∧ it.n ≤ l ∧ l < it.n + it.new.length) ∧
    RepL V (tmF D 0 its tm0) a.tmps.toList ∧ Inv E.I V (hF D 0 its (toF h0)) hR w ∧ Grows w0 w ∧ a.defers = []

theorem mem_looks {o : Oper} {t : Nat} (h : Operand.tmp t ∈ o.op.operands) : t ∈ o.looksAt ops := by
  unfold Oper.looksAt
  refine List.mem_append_left _ (List.mem_filterMap.2 ⟨.tmp t, by simpa using h, rfl⟩)
theorem guard_looks {o : Oper} {j d : Nat} {want : Bool} (h : o.guard = some (j, want)) (hd : (ops[j]?).bind (·.dst) = some d) : d ∈ o.looksAt ops := by
  unfold Oper.looksAt
  refine List.mem_append_right _ ?_
  rw [h]
  simp only
  rw [hd]; simp

theorem Drawn.step (d : Drawn E ops tm0 h0 its tmN hN) {V0 : Val} (hV0 : Fresh V0 h0.length) {hR : PHeap} {w0 : World} {D : Nat → Bool} (hc : Closed ops.toList D) {k : Nat} {o : Oper} (hko : ops.toList[k]? = some o) (hD : D k = false)
    (hr : ∀ e ∈ o.after.toList, Region.binds .any e = true → D e.on = true) {a : Act} {w : World} (hs : Stand E tm0 h0 its V0 hR w0 D a w) {Q : Exit → Act → World → Prop} {K : Act → World → Prop}
    (hK : ∀ a' w', Stand E tm0 h0 its V0 hR w0 (fun i => decide (i = k) || D i) a' w' → K a' w') : wpOp P ops Q k K a w := by
  obtain ⟨it, hk, rfl⟩ := d.item hko
  obtain ⟨V, hVle, hdom, htm, hinv, hg, hdf⟩ := hs
  obtain ⟨hk', hok, hkF, hkl, hkn⟩ := d.trace.at d.wells 0 k it hk
  simp only [Nat.zero_add] at hok hkF
  -- what it looks at is as the order of the text has it
  have look : ∀ t ∈ it.o.looksAt ops, (tmF D 0 its tm0)[t]? = (tmF (fun i => decide (i < k)) 0 its tm0)[t]? := by
    intro t ht
    refine tmF_agree its 0 tm0 tm0 rfl rfl ?_
    intro i x hi hx
    rw [Nat.zero_add]
    by_cases hik : i = k
    · subst hik; rw [hD]; simp
    · exact d.order hc hk hD hr hi hik (dep_read hx ht)
  have seen : ∀ l ∈ it.foot, hF D 0 its (toF h0) l = toF hk' l := by
    intro l hl
    rw [hkF]
    refine hF_agree its 0 _ _ rfl ?_
    intro i x hi hx
    rw [Nat.zero_add]
    by_cases hik : i = k
    · subst hik; rw [hD]; simp
    · exact d.order hc hk hD hr hi hik (dep_foot hx hl)
  have evals : ∀ x ∈ it.o.op.operands, aeval (tmF D 0 its tm0) x = aeval (tmF (fun i => decide (i < k)) 0 its tm0) x := by
    intro x hx
    cases x with
    | tmp t =>
      show (tmF D 0 its tm0).getD t _ = (tmF _ 0 its tm0).getD t _
      rw [List.getD_eq_getElem?_getD, List.getD_eq_getElem?_getD, look t (mem_looks hx)]
    | _ => rfl
  have hwell := d.well hk
  -- behind it
  have tmNew : tmF (fun i => decide (i = k) || D i) 0 its tm0 = aput (tmF D 0 its tm0) it.o.dst it.v := by
    apply List.ext_getElem?
    intro t
    rw [aput_get, tmF_length]
    by_cases hd : it.o.dst = some t
    · have e1 : (tmF (fun i => decide (i = k) || D i) 0 its tm0)[t]? = (tmF (fun i => decide (i < k + 1)) 0 its tm0)[t]? := by
        refine tmF_agree its 0 tm0 tm0 rfl rfl ?_
        intro i x hi hx
        rw [Nat.zero_add]
        by_cases hik : i = k
        · subst hik; simp
        · have := d.order hc hk hD hr hi hik (dep_dst hx hd)
          rw [this]
          have : decide (i = k) = false := by simpa using hik
          rw [this, Bool.false_or]
          congr 1
          apply propext; omega
      have e2 : (tmF (fun i => decide (i < k + 1)) 0 its tm0)[t]? = if it.o.dst = some t ∧ t < tm0.length then some it.v else none := by
        have gen : ∀ (its : List (Item A)) (base k : Nat) (tm : List AVal), its[k]? = some it → (tmF (fun i => decide (i < base + k + 1)) base its tm)[t]? = if it.o.dst = some t ∧ t < tm.length then some it.v else none := by
          intro its
          induction its with
          | nil => intro base k tm h; simp at h
          | cons x its ih =>
            intro base k tm h
            unfold tmF
            rw [if_pos (by simp; omega)]
            cases k with
            | zero =>
              simp at h; subst h
              rw [tmF_none _ _ _ (by intro j hj; simp; omega), aput_get]
              by_cases hlt : t < tm.length
              · simp [hd, hlt]
              · simp [hlt]
            | succ k =>
              simp at h
              have := ih (base + 1) k (aput tm x.o.dst x.v) h
              rw [aput_length] at this
              rw [← this]
              congr 3
              funext i; congr 1; apply propext; omega
        have := gen its 0 k tm0 hk
        rw [Nat.zero_add] at this; exact this
      rw [e1, e2]
      by_cases hlt : t < tm0.length
      · simp [hd, hlt]
      · rw [if_neg (by simp [hlt]), if_neg (by simp [hlt]), List.getElem?_eq_none (by rw [tmF_length]; omega)]
    · rw [if_neg (by simp [hd])]
      refine tmF_agree its 0 tm0 tm0 rfl rfl ?_
      intro i x hi hx
      rw [Nat.zero_add]
      by_cases hik : i = k
      · subst hik; rw [hk] at hi; cases hi; exact (hd hx).elim
      · simp [hik]
  -- what it puts is put by it last
  have putsLast : ∀ l, it.puts l = true → ∀ i x, its[i]? = some x → i ≠ k → x.puts l = true → D i = true → i < k ∧ l ∈ it.foot := by
    intro l hl i x hi hik hx hDi
    have upd_foot : ∀ (it : Item A), wellItem it = true → ∀ l, it.upd.any (fun x => x.1 == l) = true → l ∈ it.foot ∧ l < it.n := by
      intro it hw l hl
      obtain ⟨u, hu, he⟩ := List.any_eq_true.1 hl
      have := List.all_eq_true.1 hw u hu
      simp only [Bool.and_eq_true, decide_eq_true_eq] at this
      have e : u.1 = l := by simpa using he
      rw [e] at this
      exact ⟨by simpa using this.1, this.2⟩
    simp only [Item.puts, Bool.or_eq_true, Bool.and_eq_true, decide_eq_true_eq] at hl hx
    have hpk : it.puts l = true := by simp only [Item.puts, Bool.or_eq_true, Bool.and_eq_true, decide_eq_true_eq]; exact hl
    have hpi : x.puts l = true := by simp only [Item.puts, Bool.or_eq_true, Bool.and_eq_true, decide_eq_true_eq]; exact hx
    have byOrder : indep ops x it = false → i < k := by
      intro h
      have := d.order hc hk hD hr hi hik h
      rw [hDi] at this
      simpa using this.symm
    rcases hl with hl | hl
    · obtain ⟨f1, f2⟩ := upd_foot it hwell l hl
      exact ⟨byOrder (dep_foot hpi f1), f1⟩
    · rcases hx with hx | hx
      · obtain ⟨f1, f2⟩ := upd_foot x (d.well hi) l hx
        have hlt := byOrder (by rw [indep_symm]; exact dep_foot hpk f1)
        have := d.trace.news i k x it hi hk hlt
        omega
      · rcases Nat.lt_or_gt_of_ne hik with hlt | hgt
        · have := d.trace.news i k x it hi hk hlt; omega
        · have := d.trace.news k i it x hk hi hgt; omega
  have hNew : hF (fun i => decide (i = k) || D i) 0 its (toF h0) = it.putF (hF D 0 its (toF h0)) := by
    funext l
    cases hp : it.puts l with
    | false =>
      rw [putF_other it _ l hp]
      refine hF_agree its 0 _ _ rfl ?_
      intro i x hi hx
      rw [Nat.zero_add]
      by_cases hik : i = k
      · subst hik; rw [hk] at hi; cases hi; rw [hp] at hx; cases hx
      · simp [hik]
    | true =>
      have gen : ∀ (js : List (Item A)) (base k : Nat) (D' : Nat → Bool) (h g : FHeap A), js[k]? = some it → D' (base + k) = true → (∀ i x, js[i]? = some x → x.puts l = true → D' (base + i) = true → i ≤ k) → hF D' base js h l = it.putF g l := by
        intro js
        induction js with
        | nil => intro base k D' h g hj; simp at hj
        | cons x js ih =>
          intro base k D' h g hj hDk hle
          unfold hF
          cases k with
          | zero =>
            simp at hj; subst hj
            rw [Nat.add_zero] at hDk
            rw [if_pos hDk]
            have e1 : hF D' (base + 1) js (x.putF h) l = hF (fun _ => false) (base + 1) js (x.putF h) l := by
              refine hF_agree js (base + 1) _ _ rfl ?_
              intro i y hi hy
              cases e : D' (base + 1 + i) with
              | false => rfl
              | true =>
                have := hle (i + 1) y (by simpa using hi) hy (by rw [show base + (i + 1) = base + 1 + i from by omega]; exact e)
                omega
            rw [e1, hF_none _ _ _ (fun _ _ => rfl)]
            exact putF_same x h g l (.inl hp)
          | succ k =>
            simp at hj
            refine ih (base + 1) k D' _ g hj (by rw [show base + 1 + k = base + (k + 1) from by omega]; exact hDk) ?_
            intro i y hi hy he
            have := hle (i + 1) y (by simpa using hi) hy (by rw [show base + (i + 1) = base + 1 + i from by omega]; exact he)
            omega
      refine gen its 0 k _ _ _ hk (by simp) ?_
      intro i x hi hx he
      rw [Nat.zero_add] at he
      by_cases hik : i = k
      · omega
      · simp only [hik, decide_false, Bool.false_or] at he
        have := (putsLast l hp i x hi hik hx he).1
        omega
  have hko' : ops[k]? = some it.o := by rw [← Array.getElem?_toList]; exact hko
  unfold wpOp
  rw [hko']
  simp only
  rcases hok.2 with ⟨hran, ⟨r, hr1, hr2, hr3, hr4, hr5⟩, hgd⟩ | ⟨hran, hv, hu0, hn0, j, want, dd, hgd, hjd, hval⟩
  · -- it is done
    have hw : Region.wanted it.o (yielded ops a.tmps) = true := by
      cases hgu : it.o.guard with
      | none => simp [Region.wanted, hgu]
      | some g =>
        obtain ⟨j, want⟩ := g
        obtain ⟨dd, hjd, hv⟩ := hgd j want hgu
        rw [← look dd (guard_looks hgu hjd)] at hv
        obtain ⟨y, hy, ry⟩ := RepL.get htm dd _ hv
        rw [Array.getElem?_toList] at hy
        have ry' : y = .bool want := ry
        subst ry'
        simp [Region.wanted, hgu, yielded_bool hjd hy]
    rw [if_pos hw]
    left
    obtain ⟨hR', hin, hcont⟩ := hinv.split (fun l => it.foot.contains l)
    have hheap : (fun l => if it.foot.contains l then hF D 0 its (toF h0) l else none) = toF (hres it.foot 0 hk') := by
      funext l
      show _ = hget (hres it.foot 0 hk') l
      rw [hres_get, Nat.zero_add]
      by_cases hl : it.foot.contains l = true
      · rw [if_pos hl, if_pos hl]; exact seen l (by simpa using hl)
      · rw [if_neg hl, if_neg hl]
    rw [hheap] at hin
    have hlen : (hres it.foot 0 hk').length = it.n := by rw [hres_length, hok.1]
    have hfr : FreshOn V (hres it.foot 0 hk').length r.new.length := by
      intro l h1 h2
      rw [hlen] at h1 h2
      cases e : V l with
      | none => rfl
      | some x =>
        rcases hdom l (by rw [e]; simp) with h | ⟨i, y, hi, hDi, h3, h4⟩
        · have : it.n = hk'.length := hok.1
          exact (h (hV0 l (by omega))).elim
        · by_cases hik : i = k
          · subst hik; rw [hD] at hDi; cases hDi
          · rw [hr5] at h2
            rcases Nat.lt_or_gt_of_ne hik with hlt | hgt
            · have := d.trace.news i k y it hi hk hlt; omega
            · have := d.trace.news k i it y hk hi hgt; omega
    have hr1' : dop E (aeval (tmF D 0 its tm0)) it.o.op (hres it.foot 0 hk') = some r := by rw [dop_congr _ _ evals]; exact hr1
    refine dop_sound hr1' hr2 hin hfr htm ?_
    intro v' V' w' k1 k2 k3 k4 k5
    refine hK _ _ ⟨V', Val.le_trans hVle k2, ?_, ?_, ?_, hg.trans k5, by rw [put_defers]; exact hdf⟩
    · intro l hl
      by_cases hVl : V l = none
      · have := k3 l hVl hl
        rw [hlen, hr5] at this
        exact .inr ⟨k, it, hk, by simp, this.1, this.2⟩
      · rcases hdom l hVl with h | ⟨i, y, hi, hDi, h3, h4⟩
        · exact .inl h
        · exact .inr ⟨i, y, hi, by simp [hDi], h3, h4⟩
    · rw [tmNew]
      exact aput_rep (RepL.mono k2 _ _ htm) (by rw [← hr3]; exact k1)
    · have hz : ∀ l, it.foot.contains l = false → hF D 0 its (toF h0) l ≠ none → toF (r.apply (hres it.foot 0 hk')) l = none := by
        intro l hl hne
        have hnotfoot : l ∉ it.foot := by simpa using hl
        have happ : r.apply (hres it.foot 0 hk') = it.applyH (hres it.foot 0 hk') := by unfold ORes.apply Item.applyH; rw [hr4, hr5]
        rw [happ, applyH_F hlen.symm hwell]
        cases hp : it.puts l with
        | false =>
          rw [putF_other it _ l hp]
          show hget (hres it.foot 0 hk') l = none
          rw [hres_get, Nat.zero_add, if_neg (by simpa using hl)]
        | true =>
          -- nobody has it yet
          exfalso
          have hall : hF D 0 its (toF h0) l = hF (fun _ => false) 0 its (toF h0) l := by
            refine hF_agree its 0 _ _ rfl ?_
            intro i x hi hx
            rw [Nat.zero_add]
            by_cases hik : i = k
            · subst hik; exact hD
            · cases e : D i with
              | false => rfl
              | true => exact (hnotfoot (putsLast l hp i x hi hik hx e).2).elim
          rw [hF_none _ _ _ (fun _ _ => rfl)] at hall
          rw [hall] at hne
          have hl0 : l < h0.length := by
            cases Nat.lt_or_ge l h0.length with
            | inl h => exact h
            | inr h => exact (hne (hget_ge h)).elim
          have hnk : it.n = hk'.length := hok.1
          simp only [Item.puts, Bool.or_eq_true, Bool.and_eq_true, decide_eq_true_eq] at hp
          rcases hp with hp | hp
          · obtain ⟨u, hu, he⟩ := List.any_eq_true.1 hp
            have := List.all_eq_true.1 hwell u hu
            simp only [Bool.and_eq_true, decide_eq_true_eq] at this
            have e : u.1 = l := by simpa using he
            rw [e] at this
            exact hnotfoot (by simpa using this.1)
          · omega
      have hfin := hcont V' _ w' k2 k4 hz
      rw [hNew]
      have heq : (fun l => if it.foot.contains l = false ∧ hF D 0 its (toF h0) l ≠ none then hF D 0 its (toF h0) l else toF (r.apply (hres it.foot 0 hk')) l) = it.putF (hF D 0 its (toF h0)) := by
        funext l
        have happ : r.apply (hres it.foot 0 hk') = it.applyH (hres it.foot 0 hk') := by unfold ORes.apply Item.applyH; rw [hr4, hr5]
        by_cases hcnd : it.foot.contains l = false ∧ hF D 0 its (toF h0) l ≠ none
        · rw [if_pos hcnd]
          cases hp : it.puts l with
          | false => rw [putF_other it _ l hp]
          | true =>
            exfalso
            have := hz l hcnd.1 hcnd.2
            rw [happ, applyH_F hlen.symm hwell] at this
            simp only [Item.puts, Bool.or_eq_true, Bool.and_eq_true, decide_eq_true_eq] at hp
            have hnotfoot : l ∉ it.foot := by simpa using hcnd.1
            rcases hp with hp | hp
            · obtain ⟨u, hu, he⟩ := List.any_eq_true.1 hp
              have := List.all_eq_true.1 hwell u hu
              simp only [Bool.and_eq_true, decide_eq_true_eq] at this
              have e : u.1 = l := by simpa using he
              rw [e] at this
              exact hnotfoot (by simpa using this.1)
            · unfold Item.putF at this
              rw [if_pos hp, List.getElem?_eq_getElem (by omega)] at this
              cases this
        · rw [if_neg hcnd, happ, applyH_F hlen.symm hwell]
          refine putF_same it _ _ l ?_
          cases hp : it.puts l with
          | true => exact .inl rfl
          | false =>
            right
            show hget (hres it.foot 0 hk') l = _
            rw [hres_get, Nat.zero_add]
            by_cases hl : it.foot.contains l = true
            · rw [if_pos hl]; exact (seen l (by simpa using hl)).symm
            · rw [if_neg hl]
              have hl' : it.foot.contains l = false := by simpa using hl
              cases e : hF D 0 its (toF h0) l with
              | none => rfl
              | some x => exact (hcnd ⟨hl', by rw [e]; simp⟩).elim
      rw [← heq]; exact hfin
  · -- it is passed over
    have hw : Region.wanted it.o (yielded ops a.tmps) = false := by
      have hlk := look dd (guard_looks hgd hjd)
      rcases hval with hval | hval
      · rw [← hlk] at hval
        obtain ⟨y, hy, ry⟩ := RepL.get htm dd _ hval
        rw [Array.getElem?_toList] at hy
        have ry' : y = .bool (!want) := ry
        subst ry'
        have : Region.wanted it.o (yielded ops a.tmps) = ((!want) == want) := by simp [Region.wanted, hgd, yielded_bool hjd hy]
        rw [this]; cases want <;> rfl
      · have hval' : isTuple ((tmF D 0 its tm0).getD dd (.raw undef)) = true := by
          rw [List.getD_eq_getElem?_getD, hlk, ← List.getD_eq_getElem?_getD]; exact hval
        have hyl : yielded ops a.tmps j = none := by
          refine yielded_tuple hjd ?_
          cases e : a.tmps[dd]? with
          | none => exact .inl rfl
          | some x =>
            right
            have hlt : dd < (tmF D 0 its tm0).length := by
              have h1 := RepL.length htm
              rw [Array.length_toList] at h1
              cases Nat.lt_or_ge dd a.tmps.size with
              | inl g => exact Nat.lt_of_lt_of_eq g h1
              | inr g => rw [Array.getElem?_eq_none g] at e; cases e
            obtain ⟨y, hy, ry⟩ := RepL.get htm dd _ (List.getElem?_eq_getElem hlt)
            rw [Array.getElem?_toList, e] at hy
            cases hy
            have e2 : (tmF D 0 its tm0).getD dd (.raw undef) = (tmF D 0 its tm0)[dd] := by rw [List.getD_eq_getElem?_getD, List.getElem?_eq_getElem hlt]; rfl
            rw [e2] at hval'
            unfold isTuple at hval'
            split at hval'
            · rename_i vs e3
              rw [e3] at ry
              have : x = .tuple vs := ry
              exact ⟨vs, by rw [this]⟩
            · cases hval'
        simp [Region.wanted, hgd, hyl]
    rw [if_neg (by rw [hw]; simp)]
    refine hK _ _ ⟨V, hVle, ?_, ?_, ?_, hg, by rw [put_defers]; exact hdf⟩
    · intro l hl
      rcases hdom l hl with h | ⟨i, y, hi, hDi, h3, h4⟩
      · exact .inl h
      · exact .inr ⟨i, y, hi, by simp [hDi], h3, h4⟩
    · rw [tmNew, hv]; exact aput_rep htm rfl
    · rw [hNew]
      have : it.putF (hF D 0 its (toF h0)) = hF D 0 its (toF h0) := by
        funext l
        refine putF_other it _ l ?_
        simp [Item.puts, hu0, hn0]
      rw [this]; exact hinv

theorem filter_le {p q : Nat → Bool} (h : ∀ i, q i = true → p i = true) : ∀ l : List Nat, (l.filter q).length ≤ (l.filter p).length
  | [] => Nat.le_refl _
  | x :: l => by
    have ih := filter_le h l
    rw [List.filter_cons, List.filter_cons]
    cases hq : q x with
    | true => rw [h x hq]; simp only [if_true, List.length_cons]; omega
    | false =>
      cases hp : p x with
      | true => simp only [Bool.false_eq_true, if_false, if_true, List.length_cons]; omega
      | false => simpa using ih
theorem filter_lt {p q : Nat → Bool} (h : ∀ i, q i = true → p i = true) {k : Nat} (hp : p k = true) (hq : q k = false) : ∀ l : List Nat, k ∈ l → (l.filter q).length < (l.filter p).length
  | [], hk => by cases hk
  | x :: l, hk => by
    have le := filter_le h l
    rw [List.filter_cons, List.filter_cons]
    by_cases hx : x = k
    · subst hx
      rw [hp, hq]
      simp only [Bool.false_eq_true, if_false, if_true, List.length_cons]; omega
    · have hm : k ∈ l := by
        rcases List.mem_cons.1 hk with h | h
        · exact (hx h.symm).elim
        · exact h
      have ih := filter_lt h hp hq l hm
      cases hqx : q x with
      | true => rw [h x hqx]; simp only [if_true, List.length_cons]; omega
      | false =>
        cases hpx : p x with
        | true => simp only [Bool.false_eq_true, if_false, if_true, List.length_cons]; omega
        | false => simpa using ih

/-- whatever order is drawn -/
theorem Drawn.any (d : Drawn E ops tm0 h0 its tmN hN) {V0 : Val} (hV0 : Fresh V0 h0.length) {hR : PHeap} {w0 : World} {Q : Exit → Act → World → Prop}
    (hQ : ∀ a w, Stand E tm0 h0 its V0 hR w0 (fun i => decide (i < its.length)) a w → Q .normal a w) : ∀ (fuel : Nat) (listed : Array Bool) (a : Act) (w : World), listed.size = ops.size →
      ((List.range ops.size).filter (fun i => !listed.getD i false)).length ≤ fuel → Closed ops.toList (fun i => listed.getD i false) → Stand E tm0 h0 its V0 hR w0 (fun i => listed.getD i false) a w → wpAny P .any ops Q fuel listed a w := by
  have hlen : its.length = ops.size := by have := congrArg List.length d.opers; simpa using this
  -- all have been done
  have full : ∀ (listed : Array Bool) (a : Act) (w : World), listed.size = ops.size → Region.ready .any ops listed = [] → Closed ops.toList (fun i => listed.getD i false) → Stand E tm0 h0 its V0 hR w0 (fun i => listed.getD i false) a w → Q .normal a w := by
    intro listed a w hls hrd hc hs
    have hall : ∀ i, i < ops.size → listed.getD i false = true := by
      intro i
      induction i using Nat.strongRecOn with
      | _ i ih =>
        intro hi
        cases e : listed.getD i false with
        | true => rfl
        | false =>
          exfalso
          have hmem : i ∈ Region.ready .any ops listed := by
            unfold Region.ready
            rw [List.mem_filter]
            refine ⟨by simpa using hi, ?_⟩
            have e1 : listed.getD i true = false := by
              rw [Array.getD_eq_getD_getElem?] at e ⊢
              rw [Array.getElem?_eq_getElem (by omega)] at e ⊢
              exact e
            rw [e1, Array.getElem?_eq_getElem hi]
            simp only [Bool.not_false, Option.map_some, Option.getD_some, Bool.true_and]
            rw [Array.all_eq_true_iff_forall_mem]
            intro x hx
            have hed := d.edges
            have h1 := hed i ops[i] (by rw [Array.getElem?_toList, Array.getElem?_eq_getElem hi])
            unfold edgesAt at h1
            rw [List.all_eq_true] at h1
            have h2 := h1 x (by simpa using hx)
            simp only [Bool.or_eq_true, Bool.not_eq_true'] at h2 ⊢
            rcases h2 with h2 | h2
            · exact .inl h2
            · have h2' : x.on < i := Nat.le_of_ble_eq_true h2
              exact .inr (ih x.on h2' (by omega))
          rw [hrd] at hmem; cases hmem
    apply hQ
    obtain ⟨V, h1, h2, h3, h4, h5, h6⟩ := hs
    have e1 : tmF (fun i => listed.getD i false) 0 its tm0 = tmF (fun i => decide (i < its.length)) 0 its tm0 := by
      apply List.ext_getElem?
      intro t
      refine tmF_agree its 0 tm0 tm0 rfl rfl ?_
      intro i x hi _
      rw [Nat.zero_add]
      have : i < its.length := by
        cases Nat.lt_or_ge i its.length with
        | inl h => exact h
        | inr h => rw [List.getElem?_eq_none h] at hi; cases hi
      rw [hall i (by omega)]; simpa using this
    have e2 : hF (fun i => listed.getD i false) 0 its (toF h0) = hF (fun i => decide (i < its.length)) 0 its (toF h0) := by
      funext l
      refine hF_agree its 0 _ _ rfl ?_
      intro i x hi _
      rw [Nat.zero_add]
      have : i < its.length := by
        cases Nat.lt_or_ge i its.length with
        | inl h => exact h
        | inr h => rw [List.getElem?_eq_none h] at hi; cases hi
      rw [hall i (by omega)]; simpa using this
    refine ⟨V, h1, ?_, by rw [← e1]; exact h3, by rw [← e2]; exact h4, h5, h6⟩
    intro l hl
    rcases h2 l hl with h | ⟨i, y, hi, hDi, g1, g2⟩
    · exact .inl h
    · refine .inr ⟨i, y, hi, ?_, g1, g2⟩
      have : i < its.length := by
        cases Nat.lt_or_ge i its.length with
        | inl h => exact h
        | inr h => rw [List.getElem?_eq_none h] at hi; cases hi
      simpa using this
  intro fuel
  induction fuel with
  | zero =>
    intro listed a w hls hf hc hs
    have hrd : Region.ready .any ops listed = [] := by
      rw [List.eq_nil_iff_forall_not_mem]
      intro i hi
      unfold Region.ready at hi
      rw [List.mem_filter] at hi
      obtain ⟨h1, h2⟩ := hi
      have hi' : i < ops.size := by simpa using h1
      simp only [Bool.and_eq_true, Bool.not_eq_true'] at h2
      have e1 : listed.getD i false = false := by
        have := h2.1
        rw [Array.getD_eq_getD_getElem?] at this ⊢
        rw [Array.getElem?_eq_getElem (by omega)] at this ⊢
        exact this
      have : i ∈ (List.range ops.size).filter (fun i => !listed.getD i false) := by
        rw [List.mem_filter]; exact ⟨h1, by rw [e1]; rfl⟩
      have hp := List.length_pos_of_mem this
      omega
    exact ⟨hrd, full listed a w hls hrd hc hs⟩
  | succ fuel ih =>
    intro listed a w hls hf hc hs
    refine ⟨fun hrd => full listed a w hls hrd hc hs, ?_⟩
    intro k hk
    unfold Region.ready at hk
    rw [List.mem_filter] at hk
    obtain ⟨h1, h2⟩ := hk
    have hk' : k < ops.size := by simpa using h1
    simp only [Bool.and_eq_true, Bool.not_eq_true'] at h2
    have hDk : listed.getD k false = false := by
      have := h2.1
      rw [Array.getD_eq_getD_getElem?] at this ⊢
      rw [Array.getElem?_eq_getElem (by omega)] at this ⊢
      exact this
    have hko : ops.toList[k]? = some ops[k] := by rw [Array.getElem?_toList, Array.getElem?_eq_getElem hk']
    have hr : ∀ e ∈ ops[k].after.toList, Region.binds .any e = true → listed.getD e.on false = true := by
      intro e he hb
      have h3 := h2.2
      rw [Array.getElem?_eq_getElem hk'] at h3
      simp only [Option.map_some, Option.getD_some] at h3
      rw [Array.all_eq_true_iff_forall_mem] at h3
      have := h3 e (by simpa using he)
      simpa [hb] using this
    have hset : ∀ i, (listed.setIfInBounds k true).getD i false = (decide (i = k) || listed.getD i false) := by
      intro i
      rw [Array.getD_eq_getD_getElem?, Array.getD_eq_getD_getElem?, Array.getElem?_setIfInBounds]
      by_cases hik : k = i
      · subst hik; simp [hls, hk']
      · simp [hik, Ne.symm hik]
    have hset' : (fun i => (listed.setIfInBounds k true).getD i false) = (fun i => decide (i = k) || listed.getD i false) := funext hset
    refine d.step hV0 hc hko hDk hr hs ?_
    intro a' w' hs'
    refine ih _ a' w' (by simp [hls]) ?_ ?_ (by rw [hset']; exact hs')
    · have hlt : ((List.range ops.size).filter (fun i => !(listed.setIfInBounds k true).getD i false)).length < ((List.range ops.size).filter (fun i => !listed.getD i false)).length := by
        refine filter_lt ?_ (k := k) ?_ ?_ _ h1
        · intro i hi
          rw [hset i] at hi
          cases e : listed.getD i false with
          | false => rfl
          | true => rw [e] at hi; simp at hi
        · simp only [hDk]; rfl
        · simp only [hset k]; simp
      omega
    · rw [hset']
      intro j o hj hD e he hb
      simp only [Bool.or_eq_true, decide_eq_true_eq] at hD ⊢
      right
      rcases hD with rfl | hD
      · rw [hko] at hj; cases hj; exact hr e he hb
      · exact hc j o hj hD e he hb

end
end Go.Sh
