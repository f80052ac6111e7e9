/- The small-heap evaluator, part 9: calls, and lists of operations in the order of the text. -/
import Derived.Test.YtjklokfpnbnndaaZSh8
import Derived.Tactics
set_option linter.all false
set_option linter.unusedVariables false
set_option linter.unusedSectionVars false
namespace Go.Sh
open Go
variable [Con] {A : Type}

abbrev CSpec (A : Type) := List AVal → Heap A → (AVal → Heap A → Prop) → Prop
abbrev DSpec (A : Type) := List AVal → Heap A → Option (ORes A)

/-- what a call comes to -/
def Post (I : A → Nat → PHeap → Prop) (V : Val) (n : Nat) (hR : PHeap) (K : AVal → Heap A → Prop) (w : World) (e : Ending) (w' : World) : Prop :=
  ∃ v v' V' h', K v h' ∧ e = .returned v' ∧ Rep V' v v' ∧ V.le V' ∧ (∀ l, h'.length ≤ l → V' l = none) ∧ n ≤ h'.length ∧ Inv I V' (toF h') hR w' ∧ Grows w w'

def Fresh (V : Val) (n : Nat) : Prop := ∀ l, n ≤ l → V l = none
def FreshOn (V : Val) (n k : Nat) : Prop := ∀ l, n ≤ l → l < n + k → V l = none
theorem Fresh.on {V : Val} {n k : Nat} (h : Fresh V n) : FreshOn V n k := fun l hl _ => h l hl

def CSpec.ok (I : A → Nat → PHeap → Prop) (P : Program) (f : FuncId) (S : CSpec A) : Prop :=
  ∀ args h K, S args h K → ∀ V hR w (args' : Array Value), Inv I V (toF h) hR w → Fresh V h.length → RepL V args args'.toList → Calls P f args' w (Post I V h.length hR K w)

def DSpec.ok (I : A → Nat → PHeap → Prop) (P : Program) (f : FuncId) (S : DSpec A) : Prop :=
  ∀ args h r, S args h = some r → r.obl → ∀ V hR w (args' : Array Value), Inv I V (toF h) hR w → FreshOn V h.length r.new.length → RepL V args args'.toList →
    Calls P f args' w fun e w' => ∃ v' V', e = .returned v' ∧ Rep V' r.v v' ∧ V.le V' ∧ (∀ l, V l = none → V' l ≠ none → h.length ≤ l ∧ l < h.length + r.new.length) ∧ Inv I V' (toF (r.apply h)) hR w' ∧ Grows w w'

/-- a function that has a body and is no function of the run-time's -/
def plainFn (P : Program) (f : FuncId) : Bool :=
  match P.funcs[f]? with
  | some fn => fn.name != "runtime.NumGoroutine" && fn.body.isSome
  | none => false

structure Env (A : Type) (P : Program) where
  I : A → Nat → PHeap → Prop
  cps : FuncId → Option (CSpec A)
  det : FuncId → Option (DSpec A)
  meth : TypeId → String → Option FuncId
  cpsOk : ∀ f S, cps f = some S → CSpec.ok I P f S
  detOk : ∀ f S, det f = some S → DSpec.ok I P f S
  methOk : ∀ t name f, meth t name = some f → ∀ (v : Value) (w : World), (∃ a, v = .pointer (some a)) → (method (P.types.size + Made.depth) t v name).run P w = .ok (f, v) w

def hupd_length : ∀ (u : List (Nat × Option (Entry A))) (h : Heap A), (hupd h u).length = h.length
  | [], h => rfl
  | x :: u, h => by
    show (hupd (h.set x.1 x.2) u).length = _
    rw [hupd_length u]; simp
theorem apply_length (r : ORes A) (h : Heap A) : (r.apply h).length = h.length + r.new.length := by
  simp [ORes.apply, hupd_length]

abbrev Inl (A : Type) := FuncId → List AVal → Heap A → (AVal → Heap A → Prop) → Prop
section
variable {P : Program} (E : Env A P)

def evFn (inl : Inl A) (g : FuncId) (args : List AVal) (h : Heap A) (K : AVal → Heap A → Prop) : Prop :=
  match E.cps g with
  | some S => S args h K
  | none =>
    match E.det g with
    | some D => match D args h with
      | some r => oand r.need (K r.v (r.applyF h))
      | none => False
    | none => inl g args h K

/-- which function is called, and with what -/
def callee (ρ : Operand → AVal) (c : Call) : Option (FuncId × List AVal) :=
  match c.callee with
  | .value f =>
    match ρ f with
    | .func (.func g) first caps => some (g, first ++ c.args.toList.map ρ ++ caps)
    | _ => none
  | .invoke recv name =>
    match ρ recv with
    | .iface t (.ptr l off) => (E.meth t name).map fun g => (g, .ptr l off :: c.args.toList.map ρ)
    | _ => none
  | .builtin _ => none

/-- how long a row has to be for it to be nil -/
def nilLen : AVal → Option Prop
  | .slice _ _ n _ => some (n = 0)
  | .tslice _ _ n _ => some (n = 0)
  | .iview _ xs => some (xs = [])
  | .view n _ _ => some (n = 0)
  | .empty => some True
  | _ => none
/-- is a row nil? It may be, if it is empty -/
def anil (P : Program) (ρ : Operand → AVal) : Op → Option (Prop × (Bool → Bool))
  | .binOp .eql t x y _ => match P.underlying t, ρ y with
    | some (.slice _), .raw (.slice none 0 0) => (nilLen (ρ x)).map fun p => (p, fun b => b)
    | _, _ => none
  | .binOp .neq t x y _ => match P.underlying t, ρ y with
    | some (.slice _), .raw (.slice none 0 0) => (nilLen (ρ x)).map fun p => (p, fun b => !b)
    | _, _ => none
  | _ => none

def evOp (inl : Inl A) (ρ : Operand → AVal) (op : Op) (h : Heap A) (K : AVal → Heap A → Prop) : Prop :=
  match op with
  | .call c =>
    match callee E ρ c with
    | some (g, args) => onlyIf (plainFn P g) (evFn E inl g args h K)
    | none => match aop P ρ (.call c) h with
      | some r => oand r.need (K r.v (r.applyF h))
      | none => False
  | op => match anil P ρ op with
    | some (p, f) => ∀ b : Bool, (b = true → p) → K (.bool (f b)) h
    | none => match aop P ρ op h with
      | some r => oand r.need (K r.v (r.applyF h))
      | none => False

def aput (tm : List AVal) (dst : Option Tmp) (v : AVal) : List AVal :=
  match dst with
  | some d => tm.set d v
  | none => tm

def isTuple : AVal → Bool
  | .raw (.tuple _) => true
  | _ => false

def evOps (inl : Inl A) (ops : Array Oper) : List Oper → List AVal → Heap A → (List AVal → Heap A → Prop) → Prop
  | [], tm, h, K => K tm h
  | o :: rest, tm, h, K =>
    match o.guard with
    | none => evOp E inl (aeval tm) o.op h fun v h' => evOps inl ops rest (aput tm o.dst v) h' K
    | some (j, want) =>
      match (ops[j]?).bind (·.dst) with
      | none => False
      | some d =>
        match tm.getD d (.raw undef) with
        | .bool b =>
          cond b
            (if want then evOp E inl (aeval (tm.set d (.bool true))) o.op h fun v h' => evOps inl ops rest (aput (tm.set d (.bool true)) o.dst v) h' K
              else evOps inl ops rest (aput (tm.set d (.bool true)) o.dst (.raw undef)) h K)
            (if want then evOps inl ops rest (aput (tm.set d (.bool false)) o.dst (.raw undef)) h K
              else evOp E inl (aeval (tm.set d (.bool false))) o.op h fun v h' => evOps inl ops rest (aput (tm.set d (.bool false)) o.dst v) h' K)
        | v => if isTuple v then evOps inl ops rest (aput tm o.dst (.raw undef)) h K else False

def InlOk (inl : Inl A) : Prop :=
  ∀ g args h K, inl g args h K → ∀ V hR w (args' : Array Value), Inv E.I V (toF h) hR w → Fresh V h.length → RepL V args args'.toList → Calls P g args' w (Post E.I V h.length hR K w)

variable {E}

theorem fresh_apply {V V' : Val} {r : ORes A} {h : Heap A} (hf : Fresh V h.length) (hd : ∀ l, V l = none → V' l ≠ none → h.length ≤ l ∧ l < h.length + r.new.length) : Fresh V' (r.apply h).length := by
  intro l hl
  rw [apply_length] at hl
  cases e : V' l with
  | none => rfl
  | some x =>
    have := hd l (hf l (by omega)) (by rw [e]; simp)
    omega

theorem evFn_sound {inl : Inl A} (hinl : InlOk E inl) {g : FuncId} {args : List AVal} {h : Heap A} {K : AVal → Heap A → Prop} (he : evFn E inl g args h K) {V : Val} {hR : PHeap} {w : World} {args' : Array Value}
    (hi : Inv E.I V (toF h) hR w) (hf : Fresh V h.length) (hr : RepL V args args'.toList) : Calls P g args' w (Post E.I V h.length hR K w) := by
  unfold evFn at he
  split at he
  · rename_i S hS; exact E.cpsOk g S hS args h K he V hR w args' hi hf hr
  · split at he
    · rename_i D hD
      split at he
      · rename_i r hr'
        have he := oand_iff.1 he
        rw [applyF_eq] at he
        refine (E.detOk g D hD args h r hr' he.1 V hR w args' hi hf.on hr).mono ?_
        rintro e w' ⟨v', V', h1, h2, h3, h4, h5, h6⟩
        refine ⟨r.v, v', V', r.apply h, he.2, h1, h2, h3, fresh_apply hf h4, ?_, h5, h6⟩
        rw [apply_length]; omega
      · exact he.elim
    · exact hinl g args h K he V hR w args' hi hf hr

theorem aeval_rep {V : Val} {tm : List AVal} {a : Act} (h : RepL V tm a.tmps.toList) (x : Operand) : Rep V (aeval tm x) (a.eval x) := by
  cases x with
  | tmp t =>
    show Rep V (tm.getD t (.raw undef)) (a.tmps.getD t undef)
    rw [List.getD_eq_getElem?_getD, Array.getD_eq_getD_getElem?]
    cases e : tm[t]? with
    | some v =>
      obtain ⟨y, hy, ry⟩ := RepL.get h t v e
      rw [Array.getElem?_toList] at hy
      rw [hy]; exact ry
    | none =>
      have hl := RepL.length h
      rw [List.getElem?_eq_none_iff] at e
      have : a.tmps[t]? = none := by rw [Array.getElem?_eq_none]; rw [← Array.length_toList]; omega
      rw [this]; exact rfl
  | const v => exact rep_ofVal V v
  | global g => exact rfl
  | func f => exact ⟨#[], #[], rfl, by simp [RepL], by simp [RepL]⟩

theorem aput_rep {V : Val} {tm : List AVal} {a : Act} {dst : Option Tmp} {v : AVal} {v' : Value} (h : RepL V tm a.tmps.toList) (hv : Rep V v v') : RepL V (aput tm dst v) (a.put dst v').tmps.toList := by
  cases dst with
  | none => exact h
  | some d =>
    show RepL V (tm.set d v) (a.tmps.setIfInBounds d v').toList
    rw [Array.toList_setIfInBounds]
    exact RepL.set h d v v' hv

theorem put_defers (a : Act) (dst : Option Tmp) (v : Value) : (a.put dst v).defers = a.defers := by
  cases dst <;> rfl

theorem callFunc_run {g : FuncId} (hp : plainFn P g = true) (args : Array Value) (w : World) : (callFunc g args).run P w = .ok (.enter g args) w := by
  unfold plainFn at hp
  cases e : P.funcs[g]? with
  | none => rw [e] at hp; cases hp
  | some fn =>
    rw [e] at hp
    simp only [Bool.and_eq_true, bne_iff_ne, ne_eq] at hp
    have h2 : fn.body.isNone = false := by cases hb : fn.body <;> simp_all
    simp only [callFunc, Sem.run_bind, run_program, Result.andThen_ok, e]
    have h1 : (fn.name == "runtime.NumGoroutine") = false := by simpa using hp.1
    simp [h1, h2]

theorem recv0 (x : Value) (ys : Array Value) : (#[x] ++ ys)[0]? = some x := by
  rw [Array.getElem?_append_left (by simp)]; rfl
theorem recv1 (x : Value) (ys : Array Value) : (#[x] ++ ys).extract 1 (#[x] ++ ys).size = ys := by
  apply Array.ext'
  rw [Array.toList_extract]
  have e : (#[x] ++ ys).toList = x :: ys.toList := by simp
  have e2 : (#[x] ++ ys).size = ys.toList.length + 1 := by simp; omega
  rw [e, e2]
  show List.take (ys.toList.length + 1 - 1) (List.drop 1 (x :: ys.toList)) = ys.toList
  rw [Nat.add_sub_cancel]
  exact List.take_length

theorem nilLen_rep {V : Val} {a : AVal} {p : Prop} {x : Value} (h : nilLen a = some p) (hx : Rep V a x) : ∃ base len cap, x = .slice base len cap ∧ (base = none → p) := by
  unfold nilLen at h
  split at h
  · simp only [Option.some.injEq] at h; subst h
    obtain ⟨base, cap, e, hc, hb⟩ := hx
    refine ⟨base, _, cap, e, ?_⟩
    rintro rfl
    rcases hb with ⟨b, k, _, hb, _⟩ | ⟨h0, _⟩
    · cases hb
    · exact h0
  · simp only [Option.some.injEq] at h; subst h
    obtain ⟨base, cap, e, hc, hb⟩ := hx
    refine ⟨base, _, cap, e, ?_⟩
    rintro rfl
    rcases hb with ⟨b, k, _, hb, _⟩ | ⟨h0, _⟩
    · cases hb
    · exact h0
  · simp only [Option.some.injEq] at h; subst h
    obtain ⟨base, cap, e, hc, hb⟩ := hx
    refine ⟨base, _, cap, e, ?_⟩
    rintro rfl
    rcases hb with ⟨b, off, cs, T, fz, hb, _⟩ | h0
    · cases hb
    · exact h0
  · simp only [Option.some.injEq] at h; subst h
    obtain ⟨base, cap, e, hc, hb⟩ := hx
    refine ⟨base, _, cap, e, ?_⟩
    rintro rfl
    rcases hb with ⟨b, off, cs, T, fz, hb, _⟩ | h0
    · cases hb
    · exact h0
  · simp only [Option.some.injEq] at h; subst h
    obtain ⟨base, e⟩ := hx
    exact ⟨base, 0, 0, e, fun _ => trivial⟩
  · cases h

theorem nil_run {w : World} {t e : TypeId} {X Y : Operand} {base : Option Addr} {len cap : Nat} (hu : P.underlying t = some (.slice e)) :
    (do eqGuard .eql t X Y (.slice base len cap) (.slice none 0 0); binOp .eql t (.slice base len cap) (.slice none 0 0) : Sem Value).run P w = .ok (.bool base.isNone) w ∧
    (do eqGuard .neq t X Y (.slice base len cap) (.slice none 0 0); binOp .neq t (.slice base len cap) (.slice none 0 0) : Sem Value).run P w = .ok (.bool (!base.isNone)) w := by
  have h1 : ∀ D, (Op.equalIn (D + 1) t (.slice base len cap) (.slice none 0 0)).run P w = .ok base.isNone w := by
    intro D
    cases base <;> simp [Op.equalIn, underlying, hu]
  have h2 : (Op.equal t (.slice base len cap) (.slice none 0 0)).run P w = .ok base.isNone w := h1 _
  have g : ∀ op, (eqGuard op t X Y (.slice base len cap) (.slice none 0 0)).run P w = .ok () w := by
    intro op; cases op <;> rfl
  have b1 : binOp .eql t (.slice base len cap) (.slice none 0 0) = (do let e ← Op.equal t (.slice base len cap) (.slice none 0 0); Pure.pure (.bool e)) := rfl
  have b2 : binOp .neq t (.slice base len cap) (.slice none 0 0) = (do let e ← Op.equal t (.slice base len cap) (.slice none 0 0); Pure.pure (.bool (!e))) := rfl
  constructor
  · simp only [Sem.run_bind, g, Result.andThen_ok, b1, h2, Sem.run_pure]
  · simp only [Sem.run_bind, g, Result.andThen_ok, b2, h2, Sem.run_pure]

/-- what one operation comes to, for whoever goes on -/
theorem evOp_sound {inl : Inl A} (hinl : InlOk E inl) {a : Act} {o : Oper} {tm : List AVal} {h : Heap A} {K : AVal → Heap A → Prop} (he : evOp E inl (aeval tm) o.op h K) {V : Val} {hR : PHeap} {w : World}
    (hi : Inv E.I V (toF h) hR w) (hf : Fresh V h.length) (ht : RepL V tm a.tmps.toList) {next : Act → World → Prop} {Q : Exit → Act → World → Prop}
    (hn : ∀ v v' V' h' w', K v h' → Rep V' v v' → V.le V' → Fresh V' h'.length → h.length ≤ h'.length → Inv E.I V' (toF h') hR w' → Grows w w' → next (a.put o.dst v') w') :
    o.wp P a w next Q := by
  have hρ : ∀ x, Rep V (aeval tm x) (a.eval x) := aeval_rep ht
  have simple : ∀ (r : ORes A), aop P (aeval tm) o.op h = some r → r.obl → K r.v (r.apply h) → o.wp P a w next Q := by
    intro r hr ho hK
    obtain ⟨nx, w', V', v', h1, h2, h3, h4, h5, h6, h7⟩ := aop_sound hr ho hi hf.on hρ
    have := hn r.v v' V' (r.apply h) w' hK h5 h3 (fresh_apply hf h4) (by rw [apply_length]; omega) h6 h7
    unfold Oper.wp
    rw [h1]
    rcases h2 with rfl | ⟨rfl, rfl⟩
    · exact this
    · exact this
  have other : (match aop P (aeval tm) o.op h with | some r => oand r.need (K r.v (r.applyF h)) | none => False) → o.wp P a w next Q := by
    intro hh
    split at hh
    · rename_i r hr; exact simple r hr (oand_iff.1 hh).1 (by rw [← applyF_eq]; exact (oand_iff.1 hh).2)
    · exact hh.elim
  have fin : ∀ (g : FuncId) (args : List AVal) (args' : Array Value), plainFn P g = true → evFn E inl g args h K → RepL V args args'.toList → (execOp a.eval o).run P w = .ok (.enter g args') w → o.wp P a w next Q := by
    intro g args args' hp hev hr hrun
    unfold Oper.wp
    rw [hrun]
    refine (evFn_sound hinl hev hi hf hr).mono ?_
    rintro e w' ⟨v, v', V', h', h1, rfl, h3, h4, h5, h6, h7, h8⟩
    exact hn v v' V' h' w' h1 h3 h4 h5 h6 h7 h8
  cases hop : o.op with
  | call c =>
    rw [hop] at he
    simp only [evOp] at he
    have hargs : RepL V (c.args.toList.map (aeval tm)) (c.args.toList.map a.eval) := repL_map hρ c.args.toList
    cases hc : callee E (aeval tm) c with
    | none =>
      rw [hc] at he
      exact other (by rw [hop]; exact he)
    | some x =>
      obtain ⟨g, args⟩ := x
      rw [hc] at he
      obtain ⟨hp, hev⟩ := onlyIf_iff.1 he
      unfold callee at hc
      split at hc
      · rename_i f hcal
        split at hc
        · rename_i g' first caps hfv
          simp only [Option.some.injEq, Prod.mk.injEq] at hc
          obtain ⟨rfl, rfl⟩ := hc
          have rf := hρ f
          rw [hfv] at rf
          obtain ⟨fs, cs, e1, r1, r2⟩ := rf
          refine fin g' _ (fs ++ c.args.map a.eval ++ cs) hp hev ?_ ?_
          · simp only [Array.toList_append, Array.toList_map]
            exact RepL.append (RepL.append r1 hargs) r2
          · simp only [execOp, hop, resolve, hcal, e1, Deferred.ofValue, Sem.run_bind, Sem.run_pure, Result.andThen_ok, invoke, callFunc_run hp]
        · cases hc
      · rename_i recv name hcal
        split at hc
        · rename_i t l off hfv
          cases hm : E.meth t name with
          | none => rw [hm] at hc; cases hc
          | some g' =>
            rw [hm] at hc
            simp only [Option.map_some, Option.some.injEq, Prod.mk.injEq] at hc
            obtain ⟨rfl, rfl⟩ := hc
            have rf := hρ recv
            rw [hfv] at rf
            obtain ⟨x, e1, b, k, hl, e2⟩ := rf
            subst e2
            refine fin g' _ (#[.pointer (some ⟨b, off, none⟩)] ++ c.args.map a.eval) hp hev ?_ ?_
            · simp only [Array.toList_append, Array.toList_map]
              exact ⟨_, _, rfl, ⟨b, k, hl, rfl⟩, hargs⟩
            · have hmo := E.methOk t name g' hm (.pointer (some ⟨b, off, none⟩)) w ⟨_, rfl⟩
              simp only [execOp, hop, resolve, hcal, Sem.run_bind, Sem.run_pure, Result.andThen_ok, invoke, e1, recv0, recv1, callMethod, run_program, hmo, callFunc_run hp]
        · cases hc
      · cases hc
  | binOp bo t X Y yt =>
    rw [hop] at he
    cases hnil : anil P (aeval tm) (.binOp bo t X Y yt) with
    | none =>
      have he' := he
      simp only [evOp, hnil] at he'
      exact other (by rw [hop]; exact he')
    | some q =>
      obtain ⟨p, f⟩ := q
      simp only [evOp, hnil] at he
      have fin2 : ∀ (e : TypeId), P.underlying t = some (.slice e) → aeval tm Y = .raw (.slice none 0 0) → nilLen (aeval tm X) = some p → (bo = .eql ∧ f = (fun b => b) ∨ bo = .neq ∧ f = (fun b => !b)) → o.wp P a w next Q := by
        intro e hu hy hx hbo
        obtain ⟨base, len, cap, ex, hp⟩ := nilLen_rep hx (hρ X)
        have ey : a.eval Y = .slice none 0 0 := by have := hρ Y; rw [hy] at this; exact this
        have hb : base.isNone = true → p := fun h => hp (by cases base <;> simp_all)
        obtain ⟨r1, r2⟩ := nil_run (P := P) (w := w) (X := X) (Y := Y) (base := base) (len := len) (cap := cap) hu
        have hrun : (execOp a.eval o).run P w = .ok (.value (.bool (f base.isNone))) w := by
          rcases hbo with ⟨rfl, rfl⟩ | ⟨rfl, rfl⟩
          · have : execOp a.eval o = (do Pure.pure (.value (← (do eqGuard .eql t X Y (a.eval X) (a.eval Y); binOp .eql t (a.eval X) (a.eval Y) : Sem Value)))) := by simp only [execOp, hop]
            rw [this, ex, ey, Sem.run_bind, r1]; rfl
          · have : execOp a.eval o = (do Pure.pure (.value (← (do eqGuard .neq t X Y (a.eval X) (a.eval Y); binOp .neq t (a.eval X) (a.eval Y) : Sem Value)))) := by simp only [execOp, hop]
            rw [this, ex, ey, Sem.run_bind, r2]; rfl
        unfold Oper.wp
        rw [hrun]
        exact hn _ _ V h w (he base.isNone hb) rfl V.le_refl hf (Nat.le_refl _) hi (Grows.refl w)
      unfold anil at hnil
      split at hnil
      · rename_i t' X' Y' yt' heq
        cases heq
        split at hnil
        · rename_i e hu hy
          cases hl : nilLen (aeval tm X) with
          | none => rw [hl] at hnil; cases hnil
          | some p' =>
            rw [hl] at hnil
            simp only [Option.map_some, Option.some.injEq, Prod.mk.injEq] at hnil
            obtain ⟨rfl, rfl⟩ := hnil
            exact fin2 e hu hy hl (.inl ⟨rfl, rfl⟩)
        · cases hnil
      · rename_i t' X' Y' yt' heq
        cases heq
        split at hnil
        · rename_i e hu hy
          cases hl : nilLen (aeval tm X) with
          | none => rw [hl] at hnil; cases hnil
          | some p' =>
            rw [hl] at hnil
            simp only [Option.map_some, Option.some.injEq, Prod.mk.injEq] at hnil
            obtain ⟨rfl, rfl⟩ := hnil
            exact fin2 e hu hy hl (.inr ⟨rfl, rfl⟩)
        · cases hnil
      · cases hnil
  | _ => exact other (by rw [hop] at he ⊢; exact he)

end
end Go.Sh
