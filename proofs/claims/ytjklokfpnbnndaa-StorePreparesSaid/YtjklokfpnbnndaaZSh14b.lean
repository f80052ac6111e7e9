/- The small-heap evaluator, part 14b: heaps told by fewer labels; garbage forgotten. -/
import Derived.Test.YtjklokfpnbnndaaZSh14
set_option linter.all false
set_option linter.unusedVariables false
set_option linter.unusedSectionVars false
namespace Go.Sh
open Go
variable [Con] {A : Type}

/-- labels by a list: the i-th one's; others behind all -/
def lab (pl : List Nat) (n : Nat) (i : Nat) : Nat := match pl[i]? with
  | some l => l
  | none => n + i

theorem lab_inj {pl : List Nat} {n : Nat} (hnd : pl.Nodup) (hlt : ∀ l ∈ pl, l < n) : ∀ i j, lab pl n i = lab pl n j → i = j := by
  intro i j h
  unfold lab at h
  cases hi : pl[i]? with
  | some a =>
    rw [hi] at h
    cases hj : pl[j]? with
    | some b =>
      rw [hj] at h
      simp only at h
      subst h
      have h1 : i < pl.length := by
        cases Nat.lt_or_ge i pl.length with
        | inl g => exact g
        | inr g => rw [List.getElem?_eq_none g] at hi; cases hi
      exact (List.getElem?_inj h1 hnd).1 (hi.trans hj.symm)
    | none =>
      rw [hj] at h
      simp only at h
      have := hlt a (List.mem_of_getElem? hi)
      omega
  | none =>
    rw [hi] at h
    cases hj : pl[j]? with
    | some b =>
      rw [hj] at h
      simp only at h
      have := hlt b (List.mem_of_getElem? hj)
      omega
    | none =>
      rw [hj] at h
      simp only at h
      omega

/-- the entries of a list of labels, told by their places in it -/
structure Picks (h' : Heap A) (pl : List Nat) (h'' : Heap A) : Prop where
  nodup : pl.Nodup
  lt : ∀ l ∈ pl, l < h'.length
  len : h''.length = pl.length
  ent : ∀ (i l : Nat), pl[i]? = some l → ∀ e, hget h'' i = some e → hget h' l = some (e.ren (lab pl h'.length))

section
variable {P : Program} {I : A → Nat → PHeap → Prop}

/-- a heap under other labels, what isn't asked for forgotten -/
theorem Inv.pick {V : Val} {h' h'' : Heap A} {pl : List Nat} (hp : Picks h' pl h'') {hR : PHeap} {w : World} (hi : Inv I V (toF h') hR w) : Inv I (fun i => V (lab pl h'.length i)) (toF h'') hR w := by
  -- first forget what isn't asked for
  have hkill : ∀ (S : Nat → Bool), Inv I V (fun l => if S l then toF h' l else none) hR w := by
    intro S
    obtain ⟨hs, h1, h2, h3, h4, h5, h6⟩ := hi
    refine ⟨fun l => if S l then hs l else .emp, ?_, ?_, ?_, ?_, ?_, h6⟩
    · intro l e he
      cases hS : S l with
      | true => simp [hS] at he ⊢; exact h1 l e he
      | false => simp [hS] at he
    · intro l hl
      cases hS : S l with
      | true => simp [hS] at hl ⊢; exact h2 l hl
      | false => simp [hS]
    · intro l m hlm
      show PHeap.disj (if S l then hs l else .emp) (if S m then hs m else .emp)
      split
      · split
        · exact h3 l m hlm
        · exact PHeap.disj_emp _
      · exact (PHeap.disj_emp _).symm
    · intro l
      show PHeap.disj (if S l then hs l else .emp) hR
      split
      · exact h4 l
      · exact (PHeap.disj_emp _).symm
    · intro l
      show (if S l then hs l else PHeap.emp).sub w
      split
      · exact h5 l
      · exact PHeap.emp_sub _
  let n := h'.length
  have hinj := lab_inj hp.nodup hp.lt
  classical
  have hS := hkill (fun l => decide (∃ i e, pl[i]? = some l ∧ hget h'' i = some e))
  refine (Inv.relabel (ι := lab pl h'.length) hinj ?_ ?_).1 hS
  · intro i
    cases hi : pl[i]? with
    | some l =>
      have e1 : lab pl h'.length i = l := by unfold lab; rw [hi]
      rw [e1]
      cases he : hget h'' i with
      | some e =>
        have : (∃ i e, pl[i]? = some l ∧ hget h'' i = some e) := ⟨i, e, hi, he⟩
        rw [if_pos (by simpa using this)]
        show hget h' l = (hget h'' i).map _
        rw [he, hp.ent i l hi e he]; rfl
      | none =>
        have : ¬ (∃ j e, pl[j]? = some l ∧ hget h'' j = some e) := by
          rintro ⟨j, e, hj, hje⟩
          have h1 : i < pl.length := by
            cases Nat.lt_or_ge i pl.length with
            | inl g => exact g
            | inr g => rw [List.getElem?_eq_none g] at hi; cases hi
          have := (List.getElem?_inj h1 hp.nodup).1 (hi.trans hj.symm)
          subst this
          rw [he] at hje; cases hje
        rw [if_neg (by simpa using this)]
        show none = (hget h'' i).map _
        rw [he]; rfl
    | none =>
      have e1 : lab pl h'.length i = h'.length + i := by unfold lab; rw [hi]
      rw [e1]
      have h2 : hget h'' i = none := by
        refine hget_ge ?_
        rw [hp.len]
        exact List.getElem?_eq_none_iff.1 hi
      show _ = (hget h'' i).map _
      rw [h2]
      have : toF h' (h'.length + i) = none := hget_ge (by omega)
      split
      · exact this
      · rfl
  · intro m hm
    have : ¬ (∃ i e, pl[i]? = some m ∧ hget h'' i = some e) := by
      rintro ⟨i, e, hi, _⟩
      refine hm i ?_
      unfold lab; rw [hi]
    rw [if_neg (by simpa using this)]

end

/-- where a label stands in a list -/
def inv (pl : List Nat) (l : Nat) : Nat := match pl with
  | [] => 0
  | m :: pl => if m = l then 0 else inv pl l + 1

mutual
/-- all labels of a value are among those -/
def AVal.within (pl : List Nat) : AVal → Bool
  | .ptr l _ => pl.elem l
  | .slice l _ _ _ => pl.elem l
  | .tslice l _ _ _ => pl.elem l
  | .tptr l _ _ _ => pl.elem l
  | .map l => pl.elem l
  | .func _ f c => AVal.withinL pl f && AVal.withinL pl c
  | .iface _ a => AVal.within pl a
  | .agg as => AVal.withinL pl as
  | .tup as => AVal.withinL pl as
  | _ => true
def AVal.withinL (pl : List Nat) : List AVal → Bool
  | [] => true
  | a :: as => AVal.within pl a && AVal.withinL pl as
end
def Entry.within (pl : List Nat) : Entry A → Bool
  | .cells vs => AVal.withinL pl vs
  | _ => true

/-- entries told by their places in a list of labels -/
def trimH (pl : List Nat) (h : Heap A) : Heap A :=
  pl.map fun l => match hget h l with
    | some e => cond (e.within pl) (some (e.ren (inv pl))) none
    | none => none
def trimV (pl : List Nat) (v : AVal) : AVal := cond (v.within pl) (v.ren (inv pl)) .top

theorem lab_inv {pl : List Nat} {n l : Nat} (h : pl.elem l = true) : lab pl n (inv pl l) = l := by
  have : pl[inv pl l]? = some l := by
    have h' : l ∈ pl := List.elem_iff.1 h
    clear h
    induction pl with
    | nil => cases h'
    | cons m pl ih =>
      unfold inv
      by_cases e : m = l
      · rw [if_pos e]; simp [e]
      · rw [if_neg e, List.getElem?_cons_succ]
        refine ih ?_
        rcases List.mem_cons.1 h' with h | h
        · exact (e h.symm).elim
        · exact h
  unfold lab; rw [this]

mutual
theorem AVal.ren_inv {pl : List Nat} {n : Nat} : ∀ (v : AVal), v.within pl = true → (v.ren (inv pl)).ren (lab pl n) = v
  | .bool _, _ => rfl
  | .int _ _, _ => rfl
  | .str _, _ => rfl
  | .ptr l off, h => by simp only [AVal.ren]; rw [lab_inv h]
  | .slice l off len sz, h => by simp only [AVal.ren]; rw [lab_inv h]
  | .map l, h => by simp only [AVal.ren]; rw [lab_inv h]
  | .func fn f c, h => by
    simp only [AVal.within, Bool.and_eq_true] at h
    simp only [AVal.ren]; rw [AVal.renL_inv f h.1, AVal.renL_inv c h.2]
  | .iface t a, h => by simp only [AVal.ren]; rw [AVal.ren_inv a h]
  | .agg as, h => by simp only [AVal.ren]; rw [AVal.renL_inv as h]
  | .tup as, h => by simp only [AVal.ren]; rw [AVal.renL_inv as h]
  | .raw _, _ => rfl
  | .any, _ => rfl
  | .top, _ => rfl
  | .iview _ _, _ => rfl
  | .view _ _ _, _ => rfl
  | .cptr _, _ => rfl
  | .tslice l r n w, h => by simp only [AVal.ren]; rw [lab_inv h]
  | .tptr l r w j, h => by simp only [AVal.ren]; rw [lab_inv h]
  | .empty, _ => rfl
theorem AVal.renL_inv {pl : List Nat} {n : Nat} : ∀ (v : List AVal), AVal.withinL pl v = true → AVal.renL (lab pl n) (AVal.renL (inv pl) v) = v
  | [], _ => rfl
  | a :: as, h => by
    simp only [AVal.withinL, Bool.and_eq_true] at h
    simp only [AVal.renL]; rw [AVal.ren_inv a h.1, AVal.renL_inv as h.2]
end
theorem Entry.ren_inv {pl : List Nat} {n : Nat} (e : Entry A) (h : e.within pl = true) : (e.ren (inv pl)).ren (lab pl n) = e := by
  cases e with
  | cells vs => simp only [Entry.ren]; rw [AVal.renL_inv vs h]
  | ints c xs => rfl
  | abs t => rfl
  | tab ks rows => rfl
  | imap kk vc m => rfl

/-- a list of labels that is in order: each once, each one of the heap's -/
def goodPl (pl : List Nat) (n : Nat) : Bool := match pl with
  | [] => true
  | l :: pl => !pl.elem l && Nat.blt l n && goodPl pl n

theorem goodPl_spec : ∀ {pl : List Nat} {n : Nat}, goodPl pl n = true → pl.Nodup ∧ ∀ l ∈ pl, l < n
  | [], n, _ => by simp
  | m :: pl, n, h => by
    have h' : ((!pl.elem m && Nat.blt m n) && goodPl pl n) = true := h
    rw [Bool.and_eq_true, Bool.and_eq_true] at h'
    have h1 := h'.1.1
    have h2 : m < n := by have := h'.1.2; rwa [Nat.blt_eq] at this
    have h3 := h'.2
    obtain ⟨g1, g2⟩ := goodPl_spec h3
    refine ⟨List.nodup_cons.2 ⟨by simpa using h1, g1⟩, ?_⟩
    intro l hl
    rcases List.mem_cons.1 hl with rfl | hl
    · exact h2
    · exact g2 l hl

theorem trimH_picks {pl : List Nat} {h : Heap A} (hg : goodPl pl h.length = true) : Picks h pl (trimH pl h) := by
  obtain ⟨g1, g2⟩ := goodPl_spec hg
  refine ⟨g1, g2, by simp [trimH], ?_⟩
  intro i l hi e he
  have e1 : hget (trimH pl h) i = (match hget h l with
    | some e => cond (e.within pl) (some (e.ren (inv pl))) none
    | none => none) := by
    unfold trimH
    show (List.map _ pl).getD i none = _
    rw [List.getD_eq_getElem?_getD, List.getElem?_map, hi]
    rfl
  rw [e1] at he
  cases hl : hget h l with
  | none => rw [hl] at he; cases he
  | some e' =>
    rw [hl] at he
    simp only at he
    cases hw : e'.within pl with
    | false => rw [hw] at he; cases he
    | true =>
      rw [hw] at he
      simp only [cond_true, Option.some.injEq] at he
      subst he
      rw [Entry.ren_inv e' hw]

theorem trimV_rep {V : Val} {pl : List Nat} {n : Nat} {v : AVal} {x : Value} (h : Rep V v x) : Rep (fun i => V (lab pl n i)) (trimV pl v) x := by
  unfold trimV
  cases hw : v.within pl with
  | false => exact trivial
  | true =>
    simp only [cond_true]
    refine (Rep.ren (ι := lab pl n) _ _).1 ?_
    rw [AVal.ren_inv v hw]; exact h

/-- the first labels stay -/
def keeps : List Nat → Nat → Nat → Bool
  | _, _, 0 => true
  | [], _, _ + 1 => false
  | l :: pl, i, n + 1 => Nat.beq l i && keeps pl (i + 1) n
theorem keeps_spec : ∀ {pl : List Nat} {j n : Nat}, keeps pl j n = true → n ≤ pl.length ∧ ∀ i, i < n → pl[i]? = some (j + i)
  | pl, j, 0, _ => ⟨Nat.zero_le _, fun i hi => by omega⟩
  | [], _, _ + 1, h => by simp [keeps] at h
  | l :: pl, j, n + 1, h => by
    simp only [keeps, Bool.and_eq_true] at h
    obtain ⟨h1, h2⟩ := h
    have h1' : l = j := Nat.eq_of_beq_eq_true h1
    obtain ⟨g1, g2⟩ := keeps_spec h2
    refine ⟨by simp; omega, ?_⟩
    intro i hi
    cases i with
    | zero => simp [h1']
    | succ i =>
      rw [List.getElem?_cons_succ, g2 i (by omega)]
      congr 1; omega

/-- values that are asked for; the others are no more told -/
def sift (pl keep : List Nat) : Nat → List AVal → List AVal
  | _, [] => []
  | i, v :: vs => cond (keep.elem i) (trimV pl v) .top :: sift pl keep (i + 1) vs
theorem sift_rep {V : Val} {pl keep : List Nat} {n : Nat} : ∀ (i : Nat) (vs : List AVal) (xs : List Value), RepL V vs xs → RepL (fun i => V (lab pl n i)) (sift pl keep i vs) xs
  | _, [], xs, h => h
  | i, v :: vs, _, ⟨x, xs, e, r, s⟩ => by
    refine ⟨x, xs, e, ?_, sift_rep (i + 1) vs xs s⟩
    cases keep.elem i with
    | true => exact trimV_rep r
    | false => exact trivial

mutual
def AVal.labels : AVal → List Nat
  | .ptr l _ => [l]
  | .slice l _ _ _ => [l]
  | .tslice l _ _ _ => [l]
  | .tptr l _ _ _ => [l]
  | .map l => [l]
  | .func _ f c => AVal.labelsL f ++ AVal.labelsL c
  | .iface _ a => AVal.labels a
  | .agg as => AVal.labelsL as
  | .tup as => AVal.labelsL as
  | _ => []
def AVal.labelsL : List AVal → List Nat
  | [] => []
  | a :: as => AVal.labels a ++ AVal.labelsL as
end
def Entry.labels : Entry A → List Nat
  | .cells vs => AVal.labelsL vs
  | _ => []
/-- what is reached, in order -/
def reach (h : Heap A) : Nat → List Nat → List Nat → List Nat
  | 0, _, acc => acc
  | _ + 1, [], acc => acc
  | d + 1, l :: todo, acc => cond (acc.elem l) (reach h d todo acc) (match hget h l with
    | some e => reach h d (e.labels ++ todo) (acc ++ [l])
    | none => reach h d todo (acc ++ [l]))
def keptLabels (keep : List Nat) : Nat → List AVal → List Nat
  | _, [] => []
  | i, v :: vs => cond (keep.elem i) (v.labels ++ keptLabels keep (i + 1) vs) (keptLabels keep (i + 1) vs)
def heapLabels : List (Option (Entry A)) → List Nat
  | [] => []
  | none :: h => heapLabels h
  | some e :: h => e.labels ++ heapLabels h
def upto : Nat → Nat → List Nat
  | _, 0 => []
  | i, n + 1 => i :: upto (i + 1) n
/-- the first labels, and those reached -/
def gather (n : Nat) (h : Heap A) (more : List Nat) : List Nat := reach h 2000 (heapLabels (h.take n) ++ more) (upto 0 n)

theorem Picks.elim {n : Nat} {h : Heap A} {pl : List Nat} (g1 : goodPl pl h.length = true) (g2 : keeps pl 0 n = true) {I : A → Nat → PHeap → Prop} {V : Val} {hR : PHeap} {w : World}
    (hi : Inv I V (toF h) hR w) (hf : Fresh V h.length) :
    (∀ l, l < n → V (lab pl h.length l) = V l) ∧ Fresh (fun i => V (lab pl h.length i)) (trimH pl h).length ∧ n ≤ (trimH pl h).length ∧ Inv I (fun i => V (lab pl h.length i)) (toF (trimH pl h)) hR w := by
  obtain ⟨k1, k2⟩ := keeps_spec g2
  have hp := trimH_picks (h := h) g1
  refine ⟨?_, ?_, by rw [hp.len]; exact k1, hi.pick hp⟩
  · intro l hl
    have : lab pl h.length l = l := by unfold lab; rw [k2 l hl]; simp
    rw [this]
  · intro l hl
    rw [hp.len] at hl
    show V (lab pl h.length l) = none
    have : lab pl h.length l = h.length + l := by unfold lab; rw [List.getElem?_eq_none hl]
    rw [this]; exact hf _ (by omega)

end Go.Sh
