/- The small-heap evaluator, part 20: contracts told on the part of the heap that the arguments reach, laid in the order in which it is reached. -/
import Derived.Test.YtjklokfpnbnndaaZSh17
set_option linter.all false
set_option linter.unusedVariables false
set_option linter.unusedSectionVars false
namespace Go.Sh
open Go
variable [Con] {A : Type}

/-- what a call comes to: a value and a heap; two ways by a test; any one of those that keep to something; what has to be so -/
inductive Out (A : Type) : Type 1 where
  | ret (v : AVal) (g : Heap A)
  | ite (b : Bool) (x y : Out A)
  | all (X : Type) (ok : X → Prop) (f : X → Out A)
  | pre (p : Prop) (o : Out A)

def Out.run : Out A → (AVal → Heap A → Prop) → Prop
  | .ret v g, K => K v g
  | .ite b x y, K => cond b (x.run K) (y.run K)
  | .all X ok f, K => ∀ x, ok x → (f x).run K
  | .pre p o, K => p ∧ o.run K

/-- a contract: of arguments and the heap that they reach, alone -/
abbrev Spec (A : Type) := List AVal → Heap A → Option (Out A)

def reachL (h : Heap A) : Nat → List Nat → List Nat → List Nat
  | 0, _, acc => acc
  | _ + 1, [], acc => acc
  | d + 1, l :: todo, acc => cond (acc.elem l) (reachL h d todo acc) (match hget h l with
    | some e => reachL h d (e.labels ++ todo) (acc ++ [l])
    | none => reachL h d todo (acc ++ [l]))
/-- the labels that arguments reach, in order -/
def foot (args : List AVal) (h : Heap A) : List Nat := reachL h 5000 (AVal.labelsL args) []

/-- the entries at labels, told by their places in the list; all of them must be there, and hold no other label -/
def takeH (pl : List Nat) (h : Heap A) : List Nat → Option (Heap A)
  | [] => some []
  | l :: ls => match hget h l, takeH pl h ls with
    | some e, some g => cond (e.within pl) (some (some (e.ren (inv pl)) :: g)) none
    | _, _ => none

/-- entries put back -/
def putB (ι : Nat → Nat) : List Nat → Heap A → Heap A → Heap A
  | l :: il, e :: g, h => putB ι il g (h.set l (e.map (Entry.ren ι)))
  | [], [], h => h
  | _, g, h => h ++ g.map (Option.map (Entry.ren ι))

theorem putB_eq (ι : Nat → Nat) : ∀ (il : List Nat) (g h : Heap A), il.length ≤ g.length → putB ι il g h = hputs il ((g.take il.length).map (Option.map (Entry.ren ι))) h ++ (g.drop il.length).map (Option.map (Entry.ren ι))
  | [], [], h, _ => by simp [putB, hputs]
  | [], e :: g, h, _ => by simp [putB, hputs]
  | l :: il, [], h, hl => by simp at hl
  | l :: il, e :: g, h, hl => by
    simp only [putB, List.length_cons, List.take_succ_cons, List.drop_succ_cons, List.map_cons]
    rw [putB_eq ι il g _ (by simpa using hl)]
    rfl

def canonC (F : Spec A) : CSpec A := fun args h K =>
  let il := foot args h
  onlyIf (goodPl il h.length && AVal.withinL il args) <|
  match takeH il h il with
  | none => False
  | some h0 => match F (AVal.renL (inv il) args) h0 with
    | none => False
    | some o => o.run fun v g => onlyIf (Nat.ble il.length g.length) (K (v.ren (iota il h.length)) (putB (iota il h.length) il g h))

theorem takeH_get {pl : List Nat} {h : Heap A} : ∀ {ls : List Nat} {g : Heap A}, takeH pl h ls = some g → g.length = ls.length ∧ ∀ (i l : Nat), ls[i]? = some l → ∃ e, hget h l = some e ∧ e.within pl = true ∧ hget g i = some (e.ren (inv pl))
  | [], g, h => by simp [takeH] at h; subst h; simp
  | l :: ls, g, h => by
    simp only [takeH] at h
    split at h
    · rename_i e g' h1 h2
      cases hw : e.within pl with
      | false => rw [hw] at h; cases h
      | true =>
        rw [hw] at h
        simp only [cond_true, Option.some.injEq] at h
        subst h
        obtain ⟨q1, q2⟩ := takeH_get h2
        refine ⟨by simp [q1], ?_⟩
        intro i l' hi
        cases i with
        | zero => simp at hi; subst hi; exact ⟨e, h1, hw, rfl⟩
        | succ i =>
          simp at hi
          obtain ⟨e', a1, a2, a3⟩ := q2 i l' hi
          exact ⟨e', a1, a2, by simpa [hget] using a3⟩
    · cases h

theorem iota_inv {il : List Nat} {n l : Nat} (h : il.elem l = true) : iota il n (inv il l) = l := by
  have := lab_inv (n := n) h
  unfold lab at this
  unfold iota
  cases hq : il[inv il l]? with
  | some m => rw [hq] at this; exact this
  | none =>
    exfalso
    have hm : l ∈ il := List.elem_iff.1 h
    have : ∀ (pl : List Nat), l ∈ pl → pl[inv pl l]? = some l := by
      intro pl
      induction pl with
      | nil => intro h; cases h
      | cons m pl ih =>
        intro hm
        unfold inv
        by_cases e : m = l
        · rw [if_pos e]; simp [e]
        · rw [if_neg e, List.getElem?_cons_succ]
          rcases List.mem_cons.1 hm with h | h
          · exact (e h.symm).elim
          · exact ih h
    rw [this il hm] at hq; cases hq

mutual
theorem AVal.ren_iota {pl : List Nat} {n : Nat} : ∀ (v : AVal), v.within pl = true → (v.ren (inv pl)).ren (iota pl n) = v
  | .bool _, _ => rfl
  | .int _ _, _ => rfl
  | .str _, _ => rfl
  | .ptr l off, h => by simp only [AVal.ren]; rw [iota_inv h]
  | .slice l off len sz, h => by simp only [AVal.ren]; rw [iota_inv h]
  | .map l, h => by simp only [AVal.ren]; rw [iota_inv h]
  | .func fn f c, h => by
    simp only [AVal.within, Bool.and_eq_true] at h
    simp only [AVal.ren]; rw [AVal.renL_iota f h.1, AVal.renL_iota c h.2]
  | .iface t a, h => by simp only [AVal.ren]; rw [AVal.ren_iota a h]
  | .agg as, h => by simp only [AVal.ren]; rw [AVal.renL_iota as h]
  | .tup as, h => by simp only [AVal.ren]; rw [AVal.renL_iota as h]
  | .raw _, _ => rfl
  | .any, _ => rfl
  | .top, _ => rfl
  | .iview _ _, _ => rfl
  | .view _ _ _, _ => rfl
  | .cptr _, _ => rfl
  | .tslice l r n w, h => by simp only [AVal.ren]; rw [iota_inv h]
  | .tptr l r w j, h => by simp only [AVal.ren]; rw [iota_inv h]
  | .empty, _ => rfl
theorem AVal.renL_iota {pl : List Nat} {n : Nat} : ∀ (v : List AVal), AVal.withinL pl v = true → AVal.renL (iota pl n) (AVal.renL (inv pl) v) = v
  | [], _ => rfl
  | a :: as, h => by
    simp only [AVal.withinL, Bool.and_eq_true] at h
    simp only [AVal.renL]; rw [AVal.ren_iota a h.1, AVal.renL_iota as h.2]
end
theorem Entry.ren_iota {pl : List Nat} {n : Nat} (e : Entry A) (h : e.within pl = true) : (e.ren (inv pl)).ren (iota pl n) = e := by
  cases e with
  | cells vs => simp only [Entry.ren]; rw [AVal.renL_iota vs h]
  | ints c xs => rfl
  | abs t => rfl
  | tab ks rows => rfl
  | imap kk vc m => rfl

section
variable {P : Program} {I : A → Nat → PHeap → Prop}

theorem Out.run_mono {K K' : AVal → Heap A → Prop} (hk : ∀ v g, K v g → K' v g) : ∀ (o : Out A), o.run K → o.run K'
  | .ret v g, h => hk v g h
  | .ite b x y, h => by
    simp only [Out.run] at h ⊢
    cases b with
    | true => exact Out.run_mono hk x h
    | false => exact Out.run_mono hk y h
  | .all X ok f, h => fun x hx => Out.run_mono hk (f x) (h x hx)
  | .pre p o, h => ⟨h.1, Out.run_mono hk o h.2⟩

/-- a contract holds -/
def Spec.ok (I : A → Nat → PHeap → Prop) (P : Program) (f : FuncId) (F : Spec A) : Prop :=
  ∀ args h o, F args h = some o → ∀ K, o.run K → CallOk I P f args h K

/-- a contract that is told behind casts -/
def castSpec (cs : List (Place × CastK)) (F : Spec A) : Spec A := fun args h => match castAll cs args h with
  | some (a, g) => F a g
  | none => none
theorem castSpec_ok {f : FuncId} {cs : List (Place × CastK)} {F : Spec A} (hF : Spec.ok I P f F) : Spec.ok I P f (castSpec cs F) := by
  intro args h o ho K hK
  unfold castSpec at ho
  split at ho
  · rename_i a g hc
    intro V hR w args' hi hf hr
    obtain ⟨V', ⟨v1, v2, v3, v4⟩, v5⟩ := castAll_ok hc hi hf hr
    refine (hF a g o ho K hK V' hR w args' v4 v2 v5).mono ?_
    rintro e w' ⟨v, v', V'', h', k1, k2, k3, k4, k5, k6, k7, k8⟩
    exact ⟨v, v', V'', h', k1, k2, k3, Val.le_trans v1 k4, k5, Nat.le_trans v3 k6, k7, k8⟩
  · cases ho

theorem canonC_ok {f : FuncId} {F : Spec A} (hF : Spec.ok I P f F) : CSpec.ok I P f (canonC F) := by
  intro args h K hS
  unfold canonC at hS
  obtain ⟨hg, hS⟩ := onlyIf_iff.1 hS
  obtain ⟨hg1, hg2⟩ := Bool.and_eq_true_iff.1 hg
  split at hS
  · exact hS.elim
  · rename_i h0 ht
    split at hS
    · exact hS.elim
    · rename_i o ho
      obtain ⟨hnd, hlt⟩ := goodPl_spec hg1
      obtain ⟨hlen, hent⟩ := takeH_get ht
      refine CallOk.embed (hF _ _ _ ho _ hS) (foot args h) hlen.symm hnd hlt ?_ ?_ ?_
      · intro i l hi
        obtain ⟨e, e1, e2, e3⟩ := hent i l hi
        rw [e1, e3]
        simp only [Option.map_some]
        rw [Entry.ren_iota e e2]
      · exact (AVal.renL_iota args hg2).symm
      · intro v g hK hl
        obtain ⟨hb, hK⟩ := onlyIf_iff.1 hK
        rw [putB_eq _ _ _ _ (Nat.le_of_ble_eq_true hb)] at hK
        exact hK
end
end Go.Sh
