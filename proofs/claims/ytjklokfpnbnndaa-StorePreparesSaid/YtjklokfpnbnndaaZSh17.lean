/- The small-heap evaluator, part 17: from a function's walk on the empty heap to what the frames of the rows ask. -/
import Derived.Test.YtjklokfpnbnndaaZSh16
import Derived.RowKit3
set_option linter.all false
set_option linter.unusedVariables false
set_option linter.unusedSectionVars false
namespace Go.Sh
open Go
variable [Con] {A : Type} {P : Program} {I : A → Nat → PHeap → Prop}

def PHeap.all (w : World) : PHeap := fun b => w.heap[b]?

theorem grown_of {w w' : World} (h : (PHeap.all w).sub w') (g : Grows w w') : RowKit.Grown w w' := by
  refine ⟨⟨g.os, g.output, ?_⟩, g.frz, g.size⟩
  intro i hi
  have e : w.heap[i]? = some w.heap[i] := Array.getElem?_eq_getElem hi
  have e' := h i _ e
  rw [e, e']
  generalize w.heap[i] = o
  cases o with
  | cells c t fr => exact ⟨rfl, rfl, rfl, fun _ _ => rfl⟩
  | map es clock => exact .inr ⟨rfl, rfl⟩
  | _ => rfl

theorem inv_nil (w : World) (hc : ∀ b o, Con.con b = some o → w.heap[b]? = some o) : Inv I (fun _ => none) (toF ([] : Heap A)) (PHeap.all w) w :=
  ⟨fun _ => .emp, (fun l e h => by simp [toF, hget] at h), fun _ _ => rfl, fun _ _ _ => PHeap.disj_emp _, fun _ => (PHeap.disj_emp _).symm, fun _ => PHeap.emp_sub _, fun b o h => h, hc⟩

theorem Inv.con {V : Val} {h : FHeap A} {hR : PHeap} {w : World} (hi : Inv I V h hR w) : ∀ b o, Con.con b = some o → w.heap[b]? = some o := by
  obtain ⟨_, _, _, _, _, _, h6⟩ := hi
  exact fun b o e => h6.1 b o (h6.2 b o e)
theorem CallOk.grown {f : FuncId} {args : List AVal} {K : AVal → Heap A → Prop} (h : CallOk I P f args [] K) {args' : Array Value} (hr : RepL (fun _ => none) args args'.toList) (w : World) (hc : ∀ b o, Con.con b = some o → w.heap[b]? = some o) :
    Calls P f args' w fun e w' => ∃ v v' V' h', K v h' ∧ e = .returned v' ∧ Rep V' v v' ∧ RowKit.Grown w w' := by
  refine (h _ _ w args' (inv_nil w hc) (fun _ _ => rfl) hr).mono ?_
  rintro e w' ⟨v, v', V', h', k1, k2, k3, k4, k5, k6, k7, k8⟩
  obtain ⟨hs, _, _, _, _, _, h6, _⟩ := k7
  exact ⟨v, v', V', h', k1, k2, k3, grown_of h6 k8⟩

/-- what a law that says true leaves -/
theorem CallOk.law {f : FuncId} {args : List AVal} (h : CallOk I P f args ([] : Heap A) fun v _ => v = .bool true) {args' : Array Value} (hr : RepL (fun _ => none) args args'.toList) (w : World) (hc : ∀ b o, Con.con b = some o → w.heap[b]? = some o) :
    Calls P f args' w fun e w' => e = .returned (.bool true) ∧ RowKit.Grown w w' := by
  refine (h.grown hr w hc).mono ?_
  rintro e w' ⟨v, v', V', h', rfl, rfl, r, g⟩
  have : v' = .bool true := r
  subst this
  exact ⟨rfl, g⟩

mutual
theorem Rep.free {V V' : Val} : ∀ (a : AVal) (x : Value), a.within [] = true → Rep V a x → Rep V' a x
  | .bool _, _, _, r => r
  | .int _ _, _, _, r => r
  | .str _, _, _, r => r
  | .ptr _ _, _, h, _ => by simp [AVal.within] at h
  | .slice _ _ _ _, _, h, _ => by simp [AVal.within] at h
  | .map _, _, h, _ => by simp [AVal.within] at h
  | .func _ f c, _, h, ⟨fs, cs, hv, r, s⟩ => by
    simp only [AVal.within, Bool.and_eq_true] at h
    exact ⟨fs, cs, hv, RepL.free f _ h.1 r, RepL.free c _ h.2 s⟩
  | .iface _ a, _, h, ⟨x, hv, r⟩ => ⟨x, hv, Rep.free a _ h r⟩
  | .agg as, _, h, ⟨cs, hv, r⟩ => ⟨cs, hv, RepL.free as _ h r⟩
  | .tup as, _, h, ⟨cs, hv, r⟩ => ⟨cs, hv, RepL.free as _ h r⟩
  | .raw _, _, _, r => r
  | .any, _, _, r => r
  | .top, _, _, r => r
  | .iview _ _, _, _, r => r
  | .view _ _ _, _, _, r => r
  | .cptr _, _, _, r => r
  | .tslice _ _ _ _, _, h, _ => by simp [AVal.within] at h
  | .tptr _ _ _ _, _, h, _ => by simp [AVal.within] at h
  | .empty, _, _, r => r
theorem RepL.free {V V' : Val} : ∀ (a : List AVal) (x : List Value), AVal.withinL [] a = true → RepL V a x → RepL V' a x
  | [], _, _, r => r
  | a :: as, _, h, ⟨v, vs, e, r, s⟩ => by
    simp only [AVal.withinL, Bool.and_eq_true] at h
    exact ⟨v, vs, e, Rep.free a v h.1 r, RepL.free as vs h.2 s⟩
end

/-- a function of values that hold no label -/
def pureSpec (F : List AVal → Option (AVal × Option Prop)) : DSpec A := fun args _ => aofPure (F args)

theorem DSpec.ofPure {f : FuncId} {F : List AVal → Option (AVal × Option Prop)}
    (h : ∀ args v p, F args = some (v, p) → onp p → AVal.withinL [] args = true ∧ v.within [] = true ∧ CallOk I P f args ([] : Heap A) fun v' _ => v' = v) : DSpec.ok I P f (pureSpec F) := by
  intro args h0 r hr ho V hR w args' hi hf hrep
  unfold pureSpec at hr
  cases hF : F args with
  | none => rw [hF] at hr; cases hr
  | some x =>
    obtain ⟨v, p⟩ := x
    rw [hF] at hr
    simp [aofPure] at hr; subst hr
    obtain ⟨h1, h2, h3⟩ := h args v p hF ho
    refine (h3 (fun _ => none) (PHeap.all w) w args' (inv_nil w (hi.con)) (fun _ _ => rfl) (RepL.free _ _ h1 hrep)).mono ?_
    rintro e w' ⟨v1, v', V', h', rfl, k2, k3, k4, k5, k6, k7, k8⟩
    obtain ⟨hs', _, _, _, _, _, g6, _⟩ := k7
    refine ⟨v', V, k2, Rep.free _ _ h2 k3, V.le_refl, fun l e1 e2 => (e2 e1).elim, ?_, k8⟩
    rw [apply_nil rfl rfl]
    obtain ⟨hs, i1, i2, i3, i4, i5, i6⟩ := hi
    exact ⟨hs, i1, i2, i3, i4, fun l b o e => g6 b o (i5 l b o e), ⟨fun b o e => g6 b o (i6.1 b o e), i6.2⟩⟩

/-- what a function of values without labels does beside any heap -/
theorem CallOk.beside {f : FuncId} {args : List AVal} {v : AVal} (h3 : CallOk I P f args ([] : Heap A) fun v' _ => v' = v) (h1 : AVal.withinL [] args = true) (h2 : v.within [] = true) {h : Heap A} {K : AVal → Heap A → Prop} (hK : K v h) : CallOk I P f args h K := by
  intro V hR w args' hi hf hrep
  refine (h3 (fun _ => none) (PHeap.all w) w args' (inv_nil w (hi.con)) (fun _ _ => rfl) (RepL.free _ _ h1 hrep)).mono ?_
  rintro e w' ⟨v1, v', V', h', rfl, k2, k3, k4, k5, k6, k7, k8⟩
  obtain ⟨hs', _, _, _, _, _, g6, _⟩ := k7
  obtain ⟨hs, i1, i2, i3, i4, i5, i6⟩ := hi
  exact ⟨v1, v', V, h, hK, k2, Rep.free _ _ h2 k3, V.le_refl, hf, Nat.le_refl _, ⟨hs, i1, i2, i3, i4, fun l b o e => g6 b o (i5 l b o e), ⟨fun b o e => g6 b o (i6.1 b o e), i6.2⟩⟩, k8⟩

/-- a specification more -/
def Env.addDet (E : Env A P) (f : FuncId) (S : DSpec A) (h : DSpec.ok E.I P f S) : Env A P where
  I := E.I
  cps := E.cps
  det := fun g => if g = f then some S else E.det g
  meth := E.meth
  cpsOk := E.cpsOk
  detOk := by
    intro g T hg
    by_cases e : g = f
    · rw [if_pos e] at hg; cases hg; rw [e]; exact h
    · rw [if_neg e] at hg; exact E.detOk g T hg
  methOk := E.methOk
def Env.addCps (E : Env A P) (f : FuncId) (S : CSpec A) (h : CSpec.ok E.I P f S) : Env A P where
  I := E.I
  cps := fun g => if g = f then some S else E.cps g
  det := E.det
  meth := E.meth
  cpsOk := by
    intro g T hg
    by_cases e : g = f
    · rw [if_pos e] at hg; cases hg; rw [e]; exact h
    · rw [if_neg e] at hg; exact E.cpsOk g T hg
  detOk := E.detOk
  methOk := E.methOk

/-- a walk's outcome, shut: so that nobody looks into it unasked -/
structure Ev (p : Prop) : Prop where
  get : p
theorem callOk_of {E : Env A P} (hm : P.follows .mixedOrders = true) {L : FuncId → Nat → Option (Plan A)} {n : Nat} {f : FuncId} {args : List AVal} {h : Heap A} {K : AVal → Heap A → Prop} (he : Ev (evInl E L n f args h K)) : CallOk E.I P f args h K :=
  evInl_sound hm L n f args h K he.get

theorem of_nf {p q : Prop} (h : p = q) (hq : q) : Ev p := ⟨h ▸ hq⟩

theorem cond_intro {b : Bool} {X Y : Prop} (h1 : b = true → X) (h2 : b = false → Y) : cond b X Y := by
  cases b
  · exact h2 rfl
  · exact h1 rfl

end Go.Sh
