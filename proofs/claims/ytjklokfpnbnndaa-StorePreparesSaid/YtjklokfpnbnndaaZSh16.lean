/- The small-heap evaluator, part 16: what a function does on a small heap, it does on every heap. -/
import Derived.Test.YtjklokfpnbnndaaZSh15
set_option linter.all false
set_option linter.unusedVariables false
set_option linter.unusedSectionVars false
namespace Go.Sh
open Go
variable [Con] {A : Type}

/-- what a call of f comes to, on a heap -/
def CallOk (I : A → Nat → PHeap → Prop) (P : Program) (f : FuncId) (args : List AVal) (h : Heap A) (K : AVal → Heap A → Prop) : Prop :=
  ∀ V hR w (args' : Array Value), Inv I V (toF h) hR w → Fresh V h.length → RepL V args args'.toList → Calls P f args' w (Post I V h.length hR K w)

theorem CSpec.ok_iff {I : A → Nat → PHeap → Prop} {P : Program} {f : FuncId} {S : CSpec A} : CSpec.ok I P f S ↔ ∀ args h K, S args h K → CallOk I P f args h K := Iff.rfl

theorem CallOk.mono {I : A → Nat → PHeap → Prop} {P : Program} {f : FuncId} {args : List AVal} {h : Heap A} {K K' : AVal → Heap A → Prop} (h0 : CallOk I P f args h K) (hk : ∀ v h', K v h' → K' v h') : CallOk I P f args h K' := by
  intro V hR w args' hi hf hr
  refine (h0 V hR w args' hi hf hr).mono ?_
  rintro e w' ⟨v, v', V', h', k1, k2⟩
  exact ⟨v, v', V', h', hk _ _ k1, k2⟩

section
variable {P : Program} {I : A → Nat → PHeap → Prop}

/-- K, of what is asked for alone -/
def Trim (n : Nat) (K : AVal → Heap A → Prop) (v : AVal) (h' : Heap A) : Prop :=
  onlyIf (goodPl (gather n h' v.labels) h'.length && keeps (gather n h' v.labels) 0 n) (K (trimV (gather n h' v.labels) v) (trimH (gather n h' v.labels) h'))

theorem CallOk.trim {f : FuncId} {args : List AVal} {h : Heap A} {K : AVal → Heap A → Prop} (h0 : CallOk I P f args h (Trim h.length K)) : CallOk I P f args h K := by
  intro V hR w args' hi hf hr
  refine (h0 V hR w args' hi hf hr).mono ?_
  rintro e w' ⟨v, v', V', h', ht, k2, k3, k4, k5, k6, k7, k8⟩
  obtain ⟨g0, hK⟩ := onlyIf_iff.1 ht
  obtain ⟨g1, g2⟩ := Bool.and_eq_true_iff.1 g0
  generalize gather h.length h' v.labels = pl at g1 g2 hK
  obtain ⟨e1, e2⟩ := keeps_spec g2
  have hp := trimH_picks (h := h') g1
  refine ⟨trimV pl v, v', fun i => V' (lab pl h'.length i), trimH pl h', hK, k2, trimV_rep k3, ?_, ?_, by rw [hp.len]; exact e1, k7.pick hp, k8⟩
  · intro l x hl
    have hlt : l < h.length := by
      cases Nat.lt_or_ge l h.length with
      | inl g => exact g
      | inr g => rw [hf l g] at hl; cases hl
    show V' (lab pl h'.length l) = some x
    have : lab pl h'.length l = l := by unfold lab; rw [e2 l hlt]; simp
    rw [this]; exact k4 l x hl
  · intro l hl
    rw [hp.len] at hl
    show V' (lab pl h'.length l) = none
    have : lab pl h'.length l = h'.length + l := by unfold lab; rw [List.getElem?_eq_none hl]
    rw [this]; exact k5 _ (by omega)

/-- K, of what is told behind casts -/
def CastR (cs : List (Place × CastK)) (K : AVal → Heap A → Prop) (v : AVal) (g : Heap A) : Prop :=
  match castAll cs [v] g with
  | some ([v'], g') => K v' g'
  | _ => False
theorem CallOk.castR {f : FuncId} {args : List AVal} {h : Heap A} {K : AVal → Heap A → Prop} {cs : List (Place × CastK)} (h0 : CallOk I P f args h (CastR cs K)) : CallOk I P f args h K := by
  intro V hR w args' hi hf hr
  refine (h0 V hR w args' hi hf hr).mono ?_
  rintro e w' ⟨v, v', V', g, ht, k2, k3, k4, k5, k6, k7, k8⟩
  unfold CastR at ht
  split at ht
  · rename_i v1 g1 hc
    obtain ⟨V1, ⟨c1, c2, c3, c4⟩, c5⟩ := castAll_ok hc k7 k5 (xs := [v']) ⟨v', [], rfl, k3, rfl⟩
    obtain ⟨y, ys, e1, r1, _⟩ := c5
    simp only [List.cons.injEq] at e1
    exact ⟨v1, v', V1, g1, ht, k2, by rw [e1.1]; exact r1, Val.le_trans k4 c1, c2, Nat.le_trans k6 c3, c4, k8⟩
  · exact ht.elim

/-- a small heap's entries put back into a great one -/
def hputs : List Nat → List (Option (Entry A)) → Heap A → Heap A
  | l :: il, e :: es, h => hputs il es (h.set l e)
  | _, _, h => h

/-- where the small heap's labels lie in the great one; new ones behind all -/
def iota (il : List Nat) (n i : Nat) : Nat := match il[i]? with
  | some l => l
  | none => n + (i - il.length)

theorem iota_some {il : List Nat} {n i l : Nat} (h : il[i]? = some l) : iota il n i = l := by unfold iota; rw [h]
theorem iota_none {il : List Nat} {n i : Nat} (h : il[i]? = none) : iota il n i = n + (i - il.length) := by unfold iota; rw [h]

def merge (h : Heap A) (il : List Nat) (g : Heap A) : Heap A :=
  hputs il ((g.take il.length).map (Option.map (Entry.ren (iota il h.length)))) h ++ (g.drop il.length).map (Option.map (Entry.ren (iota il h.length)))

theorem hputs_length : ∀ (il : List Nat) (es : List (Option (Entry A))) (h : Heap A), (hputs il es h).length = h.length
  | [], _, _ => rfl
  | _ :: _, [], _ => rfl
  | l :: il, e :: es, h => by unfold hputs; rw [hputs_length il es]; simp

theorem hputs_other : ∀ (il : List Nat) (es : List (Option (Entry A))) (h : Heap A) (m : Nat), m ∉ il → hget (hputs il es h) m = hget h m
  | [], _, _, _, _ => rfl
  | _ :: _, [], _, _, _ => rfl
  | l :: il, e :: es, h, m, hm => by
    unfold hputs
    rw [hputs_other il es _ m (by simp at hm; exact hm.2)]
    simp only [hget, List.getD_eq_getElem?_getD]
    rw [List.getElem?_set_ne (by simp at hm; exact fun e => hm.1 e.symm)]

theorem hputs_get : ∀ (il : List Nat) (es : List (Option (Entry A))) (h : Heap A) (i l : Nat), il.Nodup → (∀ l ∈ il, l < h.length) → il[i]? = some l → i < es.length → hget (hputs il es h) l = es.getD i none
  | [], _, _, i, l, _, _, h, _ => by simp at h
  | _ :: _, [], _, i, _, _, _, _, h => by simp at h
  | m :: il, e :: es, h, 0, l, hnd, hlt, hi, _ => by
    simp at hi; subst hi
    unfold hputs
    rw [hputs_other il es _ m (List.nodup_cons.1 hnd).1]
    have : m < h.length := hlt m (by simp)
    simp [hget, List.getD_eq_getElem?_getD, this]
  | m :: il, e :: es, h, i + 1, l, hnd, hlt, hi, hes => by
    simp at hi
    unfold hputs
    rw [hputs_get il es _ i l (List.nodup_cons.1 hnd).2 (by intro l hl; simp; exact hlt l (by simp [hl])) hi (by simpa using hes)]
    simp

theorem iota_inj {il : List Nat} {n : Nat} (hnd : il.Nodup) (hlt : ∀ l ∈ il, l < n) : ∀ i j, iota il n i = iota il n j → i = j := by
  intro i j h
  have lt_of : ∀ {i a}, il[i]? = some a → i < il.length := by
    intro i a hi
    cases Nat.lt_or_ge i il.length with
    | inl g => exact g
    | inr g => rw [List.getElem?_eq_none g] at hi; cases hi
  unfold iota at h
  cases hi : il[i]? with
  | some a =>
    rw [hi] at h
    cases hj : il[j]? with
    | some b =>
      rw [hj] at h
      simp only at h
      subst h
      exact (List.getElem?_inj (lt_of hi) hnd).1 (hi.trans hj.symm)
    | none =>
      rw [hj] at h
      simp only at h
      have := hlt a (List.mem_of_getElem? hi)
      omega
  | none =>
    rw [hi] at h
    cases hj : il[j]? with
    | some b =>
      rw [hj] at h
      simp only at h
      have := hlt b (List.mem_of_getElem? hj)
      omega
    | none =>
      rw [hj] at h
      simp only at h
      have h1 := List.getElem?_eq_none_iff.1 hi
      have h2 := List.getElem?_eq_none_iff.1 hj
      omega

/-- WHAT A FUNCTION DOES ON A SMALL HEAP IT DOES IN EVERY HEAP THAT HOLDS IT -/
theorem CallOk.embed {f : FuncId} {args0 args : List AVal} {h0 h : Heap A} {K0 K : AVal → Heap A → Prop} (hs : CallOk I P f args0 h0 K0) (il : List Nat) (hlen : il.length = h0.length) (hnd : il.Nodup)
    (hlt : ∀ l ∈ il, l < h.length) (hent : ∀ i l, il[i]? = some l → hget h l = (hget h0 i).map (Entry.ren (iota il h.length))) (hargs : args = AVal.renL (iota il h.length) args0)
    (hK : ∀ v g, K0 v g → h0.length ≤ g.length → K (v.ren (iota il h.length)) (merge h il g)) : CallOk I P f args h K := by
  intro V hR w args' hi hf hr
  classical
  have hinj := iota_inj (n := h.length) hnd hlt
  have lt_of : ∀ {i a}, il[i]? = some a → i < il.length := by
    intro i a hi
    cases Nat.lt_or_ge i il.length with
    | inl g => exact g
    | inr g => rw [List.getElem?_eq_none g] at hi; cases hi
  obtain ⟨hR', hin, hcont⟩ := hi.split (fun l => decide (l ∈ il))
  have hV0 : Inv I (fun i => V (iota il h.length i)) (toF h0) hR' w := by
    refine (Inv.relabel hinj ?_ ?_).1 hin
    · intro i
      cases hii : il[i]? with
      | some l =>
        have e1 : iota il h.length i = l := by unfold iota; rw [hii]
        rw [e1, if_pos (by simpa using List.mem_of_getElem? hii)]
        exact hent i l hii
      | none =>
        have e1 : iota il h.length i = h.length + (i - il.length) := by unfold iota; rw [hii]
        have hge := List.getElem?_eq_none_iff.1 hii
        rw [e1, if_neg (by simp; intro hm; have := hlt _ hm; omega)]
        have : toF h0 i = none := hget_ge (by omega)
        rw [this]; rfl
    · intro m hm
      rw [if_neg]
      simp only [decide_eq_true_eq]
      intro hmem
      obtain ⟨i, hilt, he⟩ := List.getElem_of_mem hmem
      refine hm i ?_
      unfold iota
      rw [List.getElem?_eq_getElem hilt, he]
  have hf0 : Fresh (fun i => V (iota il h.length i)) h0.length := by
    intro i hi
    show V (iota il h.length i) = none
    have : il[i]? = none := List.getElem?_eq_none (by omega)
    rw [iota_none this]
    exact hf _ (by omega)
  have hr0 : RepL (fun i => V (iota il h.length i)) args0 args'.toList := by
    rw [hargs] at hr
    exact (RepL.ren args0 _).1 hr
  refine (hs _ hR' w args' hV0 hf0 hr0).mono ?_
  rintro e w' ⟨v, v', V', g, k1, k2, k3, k4, k5, k6, k7, k8⟩
  -- the great heap's labels
  let V1 : Val := fun m => if h.length ≤ m then V' (il.length + (m - h.length)) else if hm : ∃ i : Nat, il[i]? = some m then V' (Classical.choose hm) else V m
  have hV1 : ∀ i, V1 (iota il h.length i) = V' i := by
    intro i
    cases hii : il[i]? with
    | some l =>
      have e1 : iota il h.length i = l := by unfold iota; rw [hii]
      have hl := hlt l (List.mem_of_getElem? hii)
      have hm : ∃ i : Nat, il[i]? = some l := ⟨i, hii⟩
      show (if h.length ≤ iota il h.length i then _ else _) = _
      rw [e1, if_neg (by omega), dif_pos hm]
      have hc := Classical.choose_spec hm
      have := (List.getElem?_inj (lt_of hc) hnd).1 (hc.trans hii.symm)
      rw [this]
    | none =>
      have e1 : iota il h.length i = h.length + (i - il.length) := by unfold iota; rw [hii]
      have hge := List.getElem?_eq_none_iff.1 hii
      show (if h.length ≤ iota il h.length i then _ else _) = _
      rw [e1, if_pos (by omega)]
      congr 1; omega
  have hV1fun : (fun i => V1 (iota il h.length i)) = V' := funext hV1
  have hle : V.le V1 := by
    intro m x hm
    have hlt' : m < h.length := by
      cases Nat.lt_or_ge m h.length with
      | inl g => exact g
      | inr g => rw [hf m g] at hm; cases hm
    show (if h.length ≤ m then _ else _) = some x
    rw [if_neg (by omega)]
    split
    · rename_i hmm
      have hc := Classical.choose_spec hmm
      refine k4 _ x ?_
      show V (iota il h.length _) = some x
      have e1 : iota il h.length (Classical.choose hmm) = m := by unfold iota; rw [hc]
      rw [e1]; exact hm
    · exact hm
  -- the small heap, under the great one's labels
  let G : FHeap A := fun m => if h.length ≤ m then (hget g (il.length + (m - h.length))).map (Entry.ren (iota il h.length)) else if hm : ∃ i : Nat, il[i]? = some m then (hget g (Classical.choose hm)).map (Entry.ren (iota il h.length)) else none
  have hG : ∀ i, G (iota il h.length i) = (toF g i).map (Entry.ren (iota il h.length)) := by
    intro i
    cases hii : il[i]? with
    | some l =>
      have e1 : iota il h.length i = l := by unfold iota; rw [hii]
      have hl := hlt l (List.mem_of_getElem? hii)
      have hm : ∃ i : Nat, il[i]? = some l := ⟨i, hii⟩
      show (if h.length ≤ iota il h.length i then _ else _) = _
      rw [e1, if_neg (by omega), dif_pos hm]
      have hc := Classical.choose_spec hm
      have := (List.getElem?_inj (lt_of hc) hnd).1 (hc.trans hii.symm)
      rw [this]; rfl
    | none =>
      have e1 : iota il h.length i = h.length + (i - il.length) := by unfold iota; rw [hii]
      have hge := List.getElem?_eq_none_iff.1 hii
      show (if h.length ≤ iota il h.length i then _ else _) = _
      rw [e1, if_pos (by omega), show il.length + (h.length + (i - il.length) - h.length) = i from by omega]
      rfl
  have hGz : ∀ m, (∀ l, iota il h.length l ≠ m) → G m = none := by
    intro m hm
    show (if h.length ≤ m then _ else _) = none
    by_cases hge : h.length ≤ m
    · refine (hm (il.length + (m - h.length)) ?_).elim
      rw [iota_none (List.getElem?_eq_none (by omega))]
      omega
    · rw [if_neg hge, dif_neg]
      rintro ⟨i, hi⟩
      refine hm i ?_
      unfold iota; rw [hi]
  have hGinv : Inv I V1 G hR' w' := (Inv.relabel hinj hG hGz).2 (by rw [hV1fun]; exact k7)
  have hfin := hcont V1 G w' hle hGinv (by
    intro l hl hne
    have hl' : l ∉ il := by simpa using hl
    have hlt' : l < h.length := by
      cases Nat.lt_or_ge l h.length with
      | inl g => exact g
      | inr g => exact (hne (hget_ge g)).elim
    show (if h.length ≤ l then _ else _) = none
    rw [if_neg (by omega), dif_neg]
    rintro ⟨i, hi⟩
    exact hl' (List.mem_of_getElem? hi))
  have hml : (merge h il g).length = h.length + (g.length - il.length) := by
    unfold merge; rw [List.length_append, hputs_length, List.length_map, List.length_drop]
  have htk : ((g.take il.length).map (Option.map (Entry.ren (iota il h.length)))).length = il.length := by
    rw [List.length_map, List.length_take]; omega
  have heq : (fun l => if (fun l => decide (l ∈ il)) l = false ∧ toF h l ≠ none then toF h l else G l) = toF (merge h il g) := by
    funext m
    show _ = hget (merge h il g) m
    by_cases hge : h.length ≤ m
    · have e0 : toF h m = none := hget_ge hge
      rw [if_neg (by rw [e0]; simp)]
      show (if h.length ≤ m then _ else _) = _
      rw [if_pos hge]
      unfold merge
      simp only [hget, List.getD_eq_getElem?_getD]
      rw [List.getElem?_append_right (by rw [hputs_length]; exact hge), hputs_length, List.getElem?_map, List.getElem?_drop]
      cases hq : g[il.length + (m - h.length)]? with
      | none => rfl
      | some x => rfl
    · have hlt' : m < h.length := by omega
      have e1 : hget (merge h il g) m = hget (hputs il ((g.take il.length).map (Option.map (Entry.ren (iota il h.length)))) h) m := by
        unfold merge
        exact hget_append_left (by rw [hputs_length]; exact hlt')
      rw [e1]
      by_cases hmem : m ∈ il
      · obtain ⟨i, hilt, he⟩ := List.getElem_of_mem hmem
        have hii : il[i]? = some m := by rw [List.getElem?_eq_getElem hilt, he]
        rw [if_neg (by simp [hmem]), hputs_get il _ h i m hnd hlt hii (by rw [htk]; exact hilt)]
        have e2 : iota il h.length i = m := by unfold iota; rw [hii]
        have := hG i
        rw [e2] at this
        rw [this, List.getD_eq_getElem?_getD, List.getElem?_map, List.getElem?_take, if_pos hilt]
        show Option.map _ (hget g i) = _
        simp only [hget, List.getD_eq_getElem?_getD]
        cases g[i]? <;> rfl
      · rw [hputs_other il _ h m hmem]
        by_cases hne : toF h m = none
        · rw [if_neg (by simp [hne])]
          show (if h.length ≤ m then _ else _) = _
          rw [if_neg hge, dif_neg]
          · exact hne.symm
          · rintro ⟨i, hi⟩
            exact hmem (List.mem_of_getElem? hi)
        · rw [if_pos ⟨by simp [hmem], hne⟩]; rfl
  rw [heq] at hfin
  refine ⟨v.ren (iota il h.length), v', V1, merge h il g, hK v g k1 k6, k2, ?_, hle, ?_, by rw [hml]; omega, hfin, k8⟩
  · refine (Rep.ren v v').2 ?_
    rw [hV1fun]; exact k3
  · intro l hl
    rw [hml] at hl
    show (if h.length ≤ l then _ else _) = none
    rw [if_pos (by omega)]
    exact k5 _ (by omega)

end
end Go.Sh
