/- The small-heap evaluator, part 22: contracts of functions that only read. -/
import Derived.Test.YtjklokfpnbnndaaZSh21
set_option linter.all false
set_option linter.unusedVariables false
set_option linter.unusedSectionVars false
namespace Go.Sh
open Go
variable [Con] {A : Type}

/-- a contract of a function that only reads: what has to be so, and the value -/
abbrev RSpec (A : Type) := List AVal → Heap A → Option (Prop × AVal)
def RSpec.spec (F : RSpec A) : Spec A := fun args h => match F args h with
  | some (p, v) => some (.pre p (.ret v h))
  | none => none

def canonR (F : RSpec A) : DSpec A := fun args h =>
  let il := foot args h
  if (goodPl il h.length && AVal.withinL il args) = true then
    match takeH il h il with
    | none => none
    | some h0 => match F (AVal.renL (inv il) args) h0 with
      | none => none
      | some (p, v) =>
        if (v.within (upto 0 il.length)) = true then
          some { v := v.ren (iota il h.length), upd := [], new := [], foot := il, need := some p }
        else none
  else none

theorem takeH_within (pl : List Nat) (h : Heap A) : ∀ (ls : List Nat) (g : Heap A), takeH pl h ls = some g → ∀ (i : Nat) (e : Entry A), hget g i = some e → ∃ e' l, e = Entry.ren (inv pl) e' ∧ e'.within pl = true ∧ ls[i]? = some l ∧ hget h l = some e'
  | ls, g, ht, i, e, he => by
    obtain ⟨q1, q2⟩ := takeH_get ht
    have hlt := hget_lt he
    have : ls[i]? = some (ls[i]'(by omega)) := List.getElem?_eq_getElem (by omega)
    obtain ⟨e', a1, a2, a3⟩ := q2 i _ this
    rw [he] at a3
    exact ⟨e', _, by simpa using a3, a2, this, a1⟩

theorem putB_self {h : Heap A} {il pl : List Nat} (n : Nat) : ∀ {ls : List Nat} {g : Heap A}, takeH il h ls = some g → hupd h (zipU (iota il n) ls g) = h
  | [], g, ht => by cases g <;> rfl
  | l :: ls, g, ht => by
    simp only [takeH] at ht
    split at ht
    · rename_i e g' h1 h2
      cases hw : e.within il with
      | false => rw [hw] at ht; cases ht
      | true =>
        rw [hw] at ht
        simp only [cond_true, Option.some.injEq] at ht
        subst ht
        show hupd (h.set l ((some (e.ren (inv il))).map (Entry.ren (iota il n)))) (zipU (iota il n) ls g') = h
        have : h.set l ((some (e.ren (inv il))).map (Entry.ren (iota il n))) = h := by
          simp only [Option.map_some]
          rw [Entry.ren_iota e hw, ← h1]
          apply List.ext_getElem?
          intro i
          by_cases hi : l = i
          · subst hi
            have hl := hget_lt (h := h) h1
            rw [List.getElem?_set_self hl, List.getElem?_eq_getElem hl]
            simp [hget, List.getD_eq_getElem?_getD, List.getElem?_eq_getElem hl]
          · rw [List.getElem?_set_ne hi]
        rw [this]
        exact putB_self (pl := pl) n h2
    · cases ht

theorem allSome_nil : allSome ([] : Heap A) = some [] := rfl

section
variable {P : Program} {I : A → Nat → PHeap → Prop}

theorem inv_lt {pl : List Nat} {l : Nat} (h : pl.elem l = true) : (upto 0 pl.length).elem (inv pl l) = true := by
  rw [upto_mem]
  refine ⟨Nat.zero_le _, ?_⟩
  rw [Nat.zero_add]
  have hm : l ∈ pl := List.elem_iff.1 h
  clear h
  induction pl with
  | nil => cases hm
  | cons m pl ih =>
    unfold inv
    by_cases e : m = l
    · rw [if_pos e]; simp
    · rw [if_neg e]
      rcases List.mem_cons.1 hm with h | h
      · exact (e h.symm).elim
      · have := ih h; simp; omega
mutual
theorem AVal.within_inv {pl : List Nat} : ∀ (v : AVal), v.within pl = true → (v.ren (inv pl)).within (upto 0 pl.length) = true
  | .bool _, _ => rfl
  | .int _ _, _ => rfl
  | .str _, _ => rfl
  | .ptr l off, h => inv_lt (pl := pl) h
  | .slice l off len sz, h => inv_lt (pl := pl) h
  | .map l, h => inv_lt (pl := pl) h
  | .func fn f c, h => by
    simp only [AVal.within, Bool.and_eq_true] at h
    simp only [AVal.ren, AVal.within, Bool.and_eq_true]; exact ⟨AVal.withinL_inv f h.1, AVal.withinL_inv c h.2⟩
  | .iface t a, h => AVal.within_inv a h
  | .agg as, h => AVal.withinL_inv as h
  | .tup as, h => AVal.withinL_inv as h
  | .raw _, _ => rfl
  | .any, _ => rfl
  | .top, _ => rfl
  | .iview _ _, _ => rfl
  | .view _ _ _, _ => rfl
  | .cptr _, _ => rfl
  | .tslice l r n w, h => inv_lt (pl := pl) h
  | .tptr l r w j, h => inv_lt (pl := pl) h
  | .empty, _ => rfl
theorem AVal.withinL_inv {pl : List Nat} : ∀ (v : List AVal), AVal.withinL pl v = true → AVal.withinL (upto 0 pl.length) (AVal.renL (inv pl) v) = true
  | [], _ => rfl
  | a :: as, h => by
    simp only [AVal.withinL, Bool.and_eq_true] at h
    simp only [AVal.renL, AVal.withinL, Bool.and_eq_true]; exact ⟨AVal.within_inv a h.1, AVal.withinL_inv as h.2⟩
end
theorem Entry.within_inv {pl : List Nat} (e : Entry A) (h : e.within pl = true) : (e.ren (inv pl)).within (upto 0 pl.length) = true := by
  cases e with
  | cells vs => exact AVal.withinL_inv vs h
  | ints c xs => rfl
  | abs t => rfl
  | tab ks rows => rfl
  | imap kk vc m => rfl
theorem takeH_heapWithin {il : List Nat} {h g : Heap A} (ht : takeH il h il = some g) (hnd : il.Nodup) : heapWithin g.length g = true := by
  unfold heapWithin
  rw [List.all_eq_true]
  intro e he
  cases e with
  | none => rfl
  | some e =>
    obtain ⟨i, hi, hge⟩ := List.getElem_of_mem he
    have hx : hget g i = some e := by simp [hget, List.getD_eq_getElem?_getD, List.getElem?_eq_getElem hi, hge]
    obtain ⟨e', l, a1, a2, _, _⟩ := takeH_within il h il g ht i e hx
    rw [a1, (takeH_get ht).1]
    exact Entry.within_inv e' a2

theorem canonR_ok {f : FuncId} {F : RSpec A} (hF : Spec.ok I P f F.spec) : DSpec.ok I P f (canonR F) := by
  intro args h r hS hob V hR w args' hi hf hr
  have hD : ∃ r', canonD F.spec args h = some r' ∧ r'.v = r.v ∧ r'.new = [] ∧ r.new = [] ∧ r.upd = [] ∧ hupd h r'.upd = h ∧ (r.obl → r'.obl) := by
    unfold canonR at hS
    simp only at hS
    split at hS
    case isFalse => cases hS
    rename_i hg
    split at hS
    · cases hS
    rename_i h0 ht
    split at hS
    · cases hS
    rename_i p v ho
    split at hS
    case isFalse => cases hS
    rename_i hv
    simp only [Option.some.injEq] at hS
    subst hS
    obtain ⟨hg1, hg2⟩ := Bool.and_eq_true_iff.1 hg
    obtain ⟨hnd, hlt⟩ := goodPl_spec hg1
    obtain ⟨hlen, hent⟩ := takeH_get ht
    have hw := takeH_heapWithin ht hnd
    refine ⟨{ v := v.ren (iota (foot args h) h.length), upd := zipU (iota (foot args h) h.length) (foot args h) h0, new := [], foot := foot args h, need := some (p ∧ True) }, ?_, rfl, rfl, rfl, rfl, putB_self (pl := []) _ ht, fun hp => ⟨hp, trivial⟩⟩
    unfold canonD
    simp only [hg, if_true, ht, RSpec.spec, ho, Out.det]
    rw [List.drop_eq_nil_of_le (by omega), allSome_nil]
    simp only
    rw [hw, hlen, hv]
    simp [onp]
  obtain ⟨r', e1, e2, e3, e4, e5, e6, e7⟩ := hD
  have := canonD_ok hF args h r' e1 (e7 hob) V hR w args' hi (by rw [e3]; rw [e4] at hf; exact hf) hr
  refine this.mono ?_
  rintro e w' ⟨v', V', k1, k2, k3, k4, k5, k6⟩
  refine ⟨v', V', k1, by rw [← e2]; exact k2, k3, by rw [e4]; rw [e3] at k4; exact k4, ?_, k6⟩
  have ha : r'.apply h = r.apply h := by
    unfold ORes.apply
    rw [e6, e3, e4, e5]; rfl
  rw [← ha]; exact k5

/-- a contract more, of a function that only reads -/
def Env.addR (E : Env A P) (f : FuncId) (F : RSpec A) (h : Spec.ok E.I P f F.spec) : Env A P where
  I := E.I
  cps := fun g => if g = f then some (canonC F.spec) else E.cps g
  det := fun g => if g = f then some (canonR F) else E.det g
  meth := E.meth
  cpsOk := by
    intro g T hg
    by_cases e : g = f
    · rw [if_pos e] at hg; cases hg; rw [e]; exact canonC_ok h
    · rw [if_neg e] at hg; exact E.cpsOk g T hg
  detOk := by
    intro g T hg
    by_cases e : g = f
    · rw [if_pos e] at hg; cases hg; rw [e]; exact canonR_ok h
    · rw [if_neg e] at hg; exact E.detOk g T hg
  methOk := E.methOk
end
end Go.Sh
