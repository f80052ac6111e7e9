import Derived.Tactics
import Derived.RangeFuncSeq
import Derived.Test.YtebhcmbdpifodaaZSh7toSh8
set_option linter.all false
namespace Go.Sh
open Go
variable [Con] {A : Type}

abbrev CSpec (A : Type) := List AVal → Heap A → (AVal → Heap A → Prop) → Prop
abbrev DSpec (A : Type) := List AVal → Heap A → Option (ORes A)

def Post (I : Itp A) (V : Val) (n : Nat) (hR : PHeap) (K : AVal → Heap A → Prop) (w : World) (e : Ending) (w' : World) : Prop :=
  ∃ v v' V' h', K v h' ∧ e = .returned v' ∧ Rep V' v v' ∧ V.le V' ∧ (∀ l, h'.length ≤ l → V' l = none) ∧ n ≤ h'.length ∧ Inv I V' (toF h') hR w' ∧ Grows w w'

def Fresh (V : Val) (n : Nat) : Prop := ∀ l, n ≤ l → V l = none
def FreshOn (V : Val) (n k : Nat) : Prop := ∀ l, n ≤ l → l < n + k → V l = none
theorem Fresh.on {V : Val} {n k : Nat} (h : Fresh V n) : FreshOn V n k := fun l hl _ => h l hl

def CSpec.ok (I : Itp A) (P : Program) (f : FuncId) (S : CSpec A) : Prop :=
  ∀ args h K, S args h K → ∀ V hR w (args' : Array Value), Inv I V (toF h) hR w → Fresh V h.length → RepL V args args'.toList → Calls P f args' w (Post I V h.length hR K w)

def DSpec.ok (I : Itp A) (P : Program) (f : FuncId) (S : DSpec A) : Prop :=
  ∀ args h r, S args h = some r → r.obl → ∀ V hR w (args' : Array Value), Inv I V (toF h) hR w → FreshOn V h.length r.new.length → RepL V args args'.toList →
    Calls P f args' w fun e w' => ∃ v' V', e = .returned v' ∧ Rep V' r.v v' ∧ V.le V' ∧ (∀ l, V l = none → V' l ≠ none → h.length ≤ l ∧ l < h.length + r.new.length) ∧ Inv I V' (toF (r.apply h)) hR w' ∧ Grows w w'

def plainFn (P : Program) (f : FuncId) : Bool :=
  match P.funcs[f]? with
  | some fn => fn.name != "runtime.NumGoroutine" && fn.body.isSome
  | none => false

structure Env (A : Type) (P : Program) where
  I : Itp A
  cps : FuncId → Option (CSpec A)
  det : FuncId → Option (DSpec A)
  meth : TypeId → String → Option FuncId
  cpsOk : ∀ f S, cps f = some S → CSpec.ok I P f S
  detOk : ∀ f S, det f = some S → DSpec.ok I P f S
  methOk : ∀ t name f, meth t name = some f → ∀ (v : Value) (w : World), (∃ a, v = .pointer (some a)) → (method (P.types.size + Made.depth) t v name).run P w = .ok (f, v) w
  /-- what the evaluator has no word for: rows of objects -/
  row : (Operand → AVal) → Op → Heap A → (AVal → Heap A → Prop) → Prop := fun _ _ _ _ => False
  rowOk : ∀ (ρ : Operand → AVal) (o : Oper) (h : Heap A) (K : AVal → Heap A → Prop), row ρ o.op h K → ∀ (V : Val) (hR : PHeap) (w : World) (ρ' : Operand → Value), Inv I V (toF h) hR w → (∀ l, h.length ≤ l → V l = none) → (∀ x, Rep V (ρ x) (ρ' x)) →
    ∃ nx w' V' v v' h2, K v h2 ∧ (execOp ρ' o).run P w = .ok nx w' ∧ (nx = .value v' ∨ nx = .skip ∧ v' = undef) ∧ Rep V' v v' ∧ V.le V' ∧ (∀ l, h2.length ≤ l → V' l = none) ∧ h.length ≤ h2.length ∧ Inv I V' (toF h2) hR w' ∧ Grows w w' := by intro ρ o h K hh; exact hh.elim
  /-- plain cells of what is told whole, read where the order is drawn -/
  fld : TypeId → Nat → Nat → Heap A → Option (AVal × Option Prop) := fun _ _ _ _ => none
  fldOk : ∀ (t : TypeId) (l off : Nat) (h : Heap A) (v : AVal) (q : Option Prop), fld t l off h = some (v, q) → onp q → ∀ (V : Val) (hR : PHeap) (w : World) (b k : Nat), Inv I V (toF h) hR w → V l = some (b, k) → ∃ v', (Instr.loadAt t (.pointer (some ⟨b, off, none⟩))).run P w = .ok v' w ∧ Rep V v v' := by intro t l off h v q hh; cases hh
  /-- what a round of a range over a function comes to, for whoever hands it an element -/
  yld : Nat → List AVal → Heap A → (AVal → Heap A → Prop) → Prop := fun _ _ _ _ => False
  yldOk : ∀ (l : Nat) (args : List AVal) (h : Heap A) (K : AVal → Heap A → Prop), yld l args h K → ∀ (V : Val) (hR : PHeap) (w : World) (args' : Array Value), Inv I V (toF h) hR w → (∀ l, h.length ≤ l → V l = none) → RepL V args args'.toList → YieldAt Fence.wide 0 P l args' w (Post I V h.length hR K w) := by
    intro l args h K hk; exact hk.elim

def hupd_length : ∀ (u : List (Nat × Option (Entry A))) (h : Heap A), (hupd h u).length = h.length
  | [], h => rfl
  | x :: u, h => by
    show (hupd (h.set x.1 x.2) u).length = _
    rw [hupd_length u]; simp
theorem apply_length (r : ORes A) (h : Heap A) : (r.apply h).length = h.length + r.new.length := by
  simp [ORes.apply, hupd_length]

abbrev Inl (A : Type) := FuncId → List AVal → Heap A → (AVal → Heap A → Prop) → Prop
section
variable {P : Program} (E : Env A P)

def evFn (inl : Inl A) (g : FuncId) (args : List AVal) (h : Heap A) (K : AVal → Heap A → Prop) : Prop :=
  match E.cps g with
  | some S => S args h K
  | none =>
    match E.det g with
    | some D => match D args h with
      | some r => oand r.need (K r.v (r.applyF h))
      | none => False
    | none => inl g args h K

def callee (ρ : Operand → AVal) (c : Call) : Option (FuncId × List AVal) :=
  match c.callee with
  | .value f =>
    match ρ f with
    | .func (.func g) first caps => some (g, first ++ c.args.toList.map ρ ++ caps)
    | _ => none
  | .invoke recv name =>
    match ρ recv with
    | .iface t (.ptr l off) => (E.meth t name).map fun g => (g, .ptr l off :: c.args.toList.map ρ)
    | _ => none
  | .builtin _ => none

def nilLen : AVal → Option Prop
  | .slice _ _ n _ => some (n = 0)
  | .tslice _ _ n _ => some (n = 0)
  | .iview _ xs => some (xs = [])
  | .view n _ _ => some (n = 0)
  | .empty => some True
  | _ => none
def anil (P : Program) (ρ : Operand → AVal) : Op → Option (Prop × (Bool → Bool))
  | .binOp .eql t x y _ => match P.underlying t, ρ y with
    | some (.slice _), .raw (.slice none 0 0) => (nilLen (ρ x)).map fun p => (p, fun b => b)
    | _, _ => none
  | .binOp .neq t x y _ => match P.underlying t, ρ y with
    | some (.slice _), .raw (.slice none 0 0) => (nilLen (ρ x)).map fun p => (p, fun b => !b)
    | _, _ => none
  | _ => none

def evOp (inl : Inl A) (ρ : Operand → AVal) (op : Op) (h : Heap A) (K : AVal → Heap A → Prop) : Prop :=
  match op with
  | .call c =>
    match callee E ρ c with
    | some (g, args) => onlyIf (plainFn P g) (evFn E inl g args h K)
    | none => match aop P ρ (.call c) h with
      | some r => oand r.need (K r.v (r.applyF h))
      | none => E.row ρ (.call c) h K
  | op => match anil P ρ op with
    | some (p, f) => ∀ b : Bool, (b = true → p) → K (.bool (f b)) h
    | none => match aop P ρ op h with
      | some r => oand r.need (K r.v (r.applyF h))
      | none => E.row ρ op h K

def aput (tm : List AVal) (dst : Option Tmp) (v : AVal) : List AVal :=
  match dst with
  | some d => tm.set d v
  | none => tm

def isTuple : AVal → Bool
  | .raw (.tuple _) => true
  | _ => false

def InlOk (inl : Inl A) : Prop :=
  ∀ g args h K, inl g args h K → ∀ V hR w (args' : Array Value), Inv E.I V (toF h) hR w → Fresh V h.length → RepL V args args'.toList → Calls P g args' w (Post E.I V h.length hR K w)

variable {E}

theorem fresh_apply {V V' : Val} {r : ORes A} {h : Heap A} (hf : Fresh V h.length) (hd : ∀ l, V l = none → V' l ≠ none → h.length ≤ l ∧ l < h.length + r.new.length) : Fresh V' (r.apply h).length := by
  intro l hl
  rw [apply_length] at hl
  cases e : V' l with
  | none => rfl
  | some x =>
    have := hd l (hf l (by omega)) (by rw [e]; simp)
    omega

theorem evFn_sound {inl : Inl A} (hinl : InlOk E inl) {g : FuncId} {args : List AVal} {h : Heap A} {K : AVal → Heap A → Prop} (he : evFn E inl g args h K) {V : Val} {hR : PHeap} {w : World} {args' : Array Value}
    (hi : Inv E.I V (toF h) hR w) (hf : Fresh V h.length) (hr : RepL V args args'.toList) : Calls P g args' w (Post E.I V h.length hR K w) := by
  unfold evFn at he
  split at he
  · rename_i S hS; exact E.cpsOk g S hS args h K he V hR w args' hi hf hr
  · split at he
    · rename_i D hD
      split at he
      · rename_i r hr'
        have he := oand_iff.1 he
        rw [applyF_eq] at he
        refine (E.detOk g D hD args h r hr' he.1 V hR w args' hi hf.on hr).mono ?_
        rintro e w' ⟨v', V', h1, h2, h3, h4, h5, h6⟩
        refine ⟨r.v, v', V', r.apply h, he.2, h1, h2, h3, fresh_apply hf h4, ?_, h5, h6⟩
        rw [apply_length]; omega
      · exact he.elim
    · exact hinl g args h K he V hR w args' hi hf hr

theorem aeval_rep {V : Val} {tm : List AVal} {a : Act} (h : RepL V tm a.tmps.toList) (x : Operand) : Rep V (aeval tm x) (a.eval x) := by
  cases x with
  | tmp t =>
    show Rep V (tm.getD t (.raw undef)) (a.tmps.getD t undef)
    rw [List.getD_eq_getElem?_getD, Array.getD_eq_getD_getElem?]
    cases e : tm[t]? with
    | some v =>
      obtain ⟨y, hy, ry⟩ := RepL.get h t v e
      rw [Array.getElem?_toList] at hy
      rw [hy]; exact ry
    | none =>
      have hl := RepL.length h
      rw [List.getElem?_eq_none_iff] at e
      have : a.tmps[t]? = none := by rw [Array.getElem?_eq_none]; rw [← Array.length_toList]; omega
      rw [this]; exact rfl
  | const v => exact rep_ofVal V v
  | global g => exact rfl
  | func f => exact ⟨#[], #[], rfl, by simp [RepL], by simp [RepL]⟩

theorem aput_rep {V : Val} {tm : List AVal} {a : Act} {dst : Option Tmp} {v : AVal} {v' : Value} (h : RepL V tm a.tmps.toList) (hv : Rep V v v') : RepL V (aput tm dst v) (a.put dst v').tmps.toList := by
  cases dst with
  | none => exact h
  | some d =>
    show RepL V (tm.set d v) (a.tmps.setIfInBounds d v').toList
    rw [Array.toList_setIfInBounds]
    exact RepL.set h d v v' hv

theorem put_defers (a : Act) (dst : Option Tmp) (v : Value) : (a.put dst v).defers = a.defers := by
  cases dst <;> rfl

theorem callFunc_run {g : FuncId} (hp : plainFn P g = true) (args : Array Value) (w : World) : (callFunc g args).run P w = .ok (.enter g args) w := by
  unfold plainFn at hp
  cases e : P.funcs[g]? with
  | none => rw [e] at hp; cases hp
  | some fn =>
    rw [e] at hp
    simp only [Bool.and_eq_true, bne_iff_ne, ne_eq] at hp
    have h2 : fn.body.isNone = false := by cases hb : fn.body <;> simp_all
    simp only [callFunc, Sem.run_bind, run_program, Result.andThen_ok, e]
    have h1 : (fn.name == "runtime.NumGoroutine") = false := by simpa using hp.1
    simp [h1, h2]

theorem recv0 (x : Value) (ys : Array Value) : (#[x] ++ ys)[0]? = some x := by
  rw [Array.getElem?_append_left (by simp)]; rfl
theorem recv1 (x : Value) (ys : Array Value) : (#[x] ++ ys).extract 1 (#[x] ++ ys).size = ys := by
  apply Array.ext'
  rw [Array.toList_extract]
  have e : (#[x] ++ ys).toList = x :: ys.toList := by simp
  have e2 : (#[x] ++ ys).size = ys.toList.length + 1 := by simp; omega
  rw [e, e2]
  show List.take (ys.toList.length + 1 - 1) (List.drop 1 (x :: ys.toList)) = ys.toList
  rw [Nat.add_sub_cancel]
  exact List.take_length

theorem nilLen_rep {V : Val} {a : AVal} {p : Prop} {x : Value} (h : nilLen a = some p) (hx : Rep V a x) : ∃ base len cap, x = .slice base len cap ∧ (base = none → p) := by
  unfold nilLen at h
  split at h
  · simp only [Option.some.injEq] at h; subst h
    obtain ⟨base, cap, e, hc, hb⟩ := hx
    refine ⟨base, _, cap, e, ?_⟩
    rintro rfl
    rcases hb with ⟨b, k, _, hb, _⟩ | ⟨h0, _⟩
    · cases hb
    · exact h0
  · simp only [Option.some.injEq] at h; subst h
    obtain ⟨base, cap, e, hc, hb⟩ := hx
    refine ⟨base, _, cap, e, ?_⟩
    rintro rfl
    rcases hb with ⟨b, k, _, hb, _⟩ | ⟨h0, _⟩
    · cases hb
    · exact h0
  · simp only [Option.some.injEq] at h; subst h
    obtain ⟨base, cap, e, hc, hb⟩ := hx
    refine ⟨base, _, cap, e, ?_⟩
    rintro rfl
    rcases hb with ⟨b, off, cs, T, fz, hb, _⟩ | h0
    · cases hb
    · exact h0
  · simp only [Option.some.injEq] at h; subst h
    obtain ⟨base, cap, e, hc, hb⟩ := hx
    refine ⟨base, _, cap, e, ?_⟩
    rintro rfl
    rcases hb with ⟨b, off, cs, T, fz, hb, _⟩ | h0
    · cases hb
    · exact h0
  · simp only [Option.some.injEq] at h; subst h
    obtain ⟨base, e⟩ := hx
    exact ⟨base, 0, 0, e, fun _ => trivial⟩
  · cases h

theorem nil_run {w : World} {t e : TypeId} {X Y : Operand} {base : Option Addr} {len cap : Nat} (hu : P.underlying t = some (.slice e)) :
    (do eqGuard .eql t X Y (.slice base len cap) (.slice none 0 0); binOp .eql t (.slice base len cap) (.slice none 0 0) : Sem Value).run P w = .ok (.bool base.isNone) w ∧
    (do eqGuard .neq t X Y (.slice base len cap) (.slice none 0 0); binOp .neq t (.slice base len cap) (.slice none 0 0) : Sem Value).run P w = .ok (.bool (!base.isNone)) w := by
  have h1 : ∀ D, (Op.equalIn (D + 1) t (.slice base len cap) (.slice none 0 0)).run P w = .ok base.isNone w := by
    intro D
    cases base <;> simp [Op.equalIn, underlying, hu]
  have h2 : (Op.equal t (.slice base len cap) (.slice none 0 0)).run P w = .ok base.isNone w := h1 _
  have g : ∀ op, (eqGuard op t X Y (.slice base len cap) (.slice none 0 0)).run P w = .ok () w := by
    intro op; cases op <;> rfl
  have b1 : binOp .eql t (.slice base len cap) (.slice none 0 0) = (do let e ← Op.equal t (.slice base len cap) (.slice none 0 0); Pure.pure (.bool e)) := rfl
  have b2 : binOp .neq t (.slice base len cap) (.slice none 0 0) = (do let e ← Op.equal t (.slice base len cap) (.slice none 0 0); Pure.pure (.bool (!e))) := rfl
  constructor
  · simp only [Sem.run_bind, g, Result.andThen_ok, b1, h2, Sem.run_pure]
  · simp only [Sem.run_bind, g, Result.andThen_ok, b2, h2, Sem.run_pure]

theorem evOp_sound {inl : Inl A} (hinl : InlOk E inl) {a : Act} {o : Oper} {tm : List AVal} {h : Heap A} {K : AVal → Heap A → Prop} (he : evOp E inl (aeval tm) o.op h K) {V : Val} {hR : PHeap} {w : World}
    (hi : Inv E.I V (toF h) hR w) (hf : Fresh V h.length) (ht : RepL V tm a.tmps.toList) {next : Act → World → Prop} {Q : Exit → Act → World → Prop}
    (hn : ∀ v v' V' h' w', K v h' → Rep V' v v' → V.le V' → Fresh V' h'.length → h.length ≤ h'.length → Inv E.I V' (toF h') hR w' → Grows w w' → next (a.put o.dst v') w') :
    o.wp P a w next Q := by
  have hρ : ∀ x, Rep V (aeval tm x) (a.eval x) := aeval_rep ht
  have simple : ∀ (r : ORes A), aop P (aeval tm) o.op h = some r → r.obl → K r.v (r.apply h) → o.wp P a w next Q := by
    intro r hr ho hK
    obtain ⟨nx, w', V', v', h1, h2, h3, h4, h5, h6, h7⟩ := aop_sound hr ho hi hf.on hρ
    have := hn r.v v' V' (r.apply h) w' hK h5 h3 (fresh_apply hf h4) (by rw [apply_length]; omega) h6 h7
    unfold Oper.wp
    rw [h1]
    rcases h2 with rfl | ⟨rfl, rfl⟩
    · exact this
    · exact this
  have other : (match aop P (aeval tm) o.op h with | some r => oand r.need (K r.v (r.applyF h)) | none => E.row (aeval tm) o.op h K) → o.wp P a w next Q := by
    intro hh
    split at hh
    · rename_i r hr; exact simple r hr (oand_iff.1 hh).1 (by rw [← applyF_eq]; exact (oand_iff.1 hh).2)
    · obtain ⟨nx, w', V', v, v', h2, r1, r2, r3, r4, r5, r6, r7, r8, r9⟩ := E.rowOk (aeval tm) o h K hh V hR w a.eval hi hf hρ
      have := hn v v' V' h2 w' r1 r4 r5 r6 r7 r8 r9
      unfold Oper.wp
      rw [r2]
      rcases r3 with rfl | ⟨rfl, rfl⟩
      · exact this
      · exact this
  have fin : ∀ (g : FuncId) (args : List AVal) (args' : Array Value), plainFn P g = true → evFn E inl g args h K → RepL V args args'.toList → (execOp a.eval o).run P w = .ok (.enter g args') w → o.wp P a w next Q := by
    intro g args args' hp hev hr hrun
    unfold Oper.wp
    rw [hrun]
    refine (evFn_sound hinl hev hi hf hr).mono ?_
    rintro e w' ⟨v, v', V', h', h1, rfl, h3, h4, h5, h6, h7, h8⟩
    exact hn v v' V' h' w' h1 h3 h4 h5 h6 h7 h8
  cases hop : o.op with
  | call c =>
    rw [hop] at he
    simp only [evOp] at he
    have hargs : RepL V (c.args.toList.map (aeval tm)) (c.args.toList.map a.eval) := repL_map hρ c.args.toList
    cases hc : callee E (aeval tm) c with
    | none =>
      rw [hc] at he
      exact other (by rw [hop]; exact he)
    | some x =>
      obtain ⟨g, args⟩ := x
      rw [hc] at he
      obtain ⟨hp, hev⟩ := onlyIf_iff.1 he
      unfold callee at hc
      split at hc
      · rename_i f hcal
        split at hc
        · rename_i g' first caps hfv
          simp only [Option.some.injEq, Prod.mk.injEq] at hc
          obtain ⟨rfl, rfl⟩ := hc
          have rf := hρ f
          rw [hfv] at rf
          obtain ⟨fs, cs, e1, r1, r2⟩ := rf
          refine fin g' _ (fs ++ c.args.map a.eval ++ cs) hp hev ?_ ?_
          · simp only [Array.toList_append, Array.toList_map]
            exact RepL.append (RepL.append r1 hargs) r2
          · simp only [execOp, hop, resolve, hcal, e1, Deferred.ofValue, Sem.run_bind, Sem.run_pure, Result.andThen_ok, invoke, callFunc_run hp]
        · cases hc
      · rename_i recv name hcal
        split at hc
        · rename_i t l off hfv
          cases hm : E.meth t name with
          | none => rw [hm] at hc; cases hc
          | some g' =>
            rw [hm] at hc
            simp only [Option.map_some, Option.some.injEq, Prod.mk.injEq] at hc
            obtain ⟨rfl, rfl⟩ := hc
            have rf := hρ recv
            rw [hfv] at rf
            obtain ⟨x, e1, b, k, hl, e2⟩ := rf
            subst e2
            refine fin g' _ (#[.pointer (some ⟨b, off, none⟩)] ++ c.args.map a.eval) hp hev ?_ ?_
            · simp only [Array.toList_append, Array.toList_map]
              exact ⟨_, _, rfl, ⟨b, k, hl, rfl⟩, hargs⟩
            · have hmo := E.methOk t name g' hm (.pointer (some ⟨b, off, none⟩)) w ⟨_, rfl⟩
              simp only [execOp, hop, resolve, hcal, Sem.run_bind, Sem.run_pure, Result.andThen_ok, invoke, e1, recv0, recv1, callMethod, run_program, hmo, callFunc_run hp]
        · cases hc
      · cases hc
  | binOp bo t X Y yt =>
    rw [hop] at he
    cases hnil : anil P (aeval tm) (.binOp bo t X Y yt) with
    | none =>
      have he' := he
      simp only [evOp, hnil] at he'
      exact other (by rw [hop]; exact he')
    | some q =>
      obtain ⟨p, f⟩ := q
      simp only [evOp, hnil] at he
      have fin2 : ∀ (e : TypeId), P.underlying t = some (.slice e) → aeval tm Y = .raw (.slice none 0 0) → nilLen (aeval tm X) = some p → (bo = .eql ∧ f = (fun b => b) ∨ bo = .neq ∧ f = (fun b => !b)) → o.wp P a w next Q := by
        intro e hu hy hx hbo
        obtain ⟨base, len, cap, ex, hp⟩ := nilLen_rep hx (hρ X)
        have ey : a.eval Y = .slice none 0 0 := by have := hρ Y; rw [hy] at this; exact this
        have hb : base.isNone = true → p := fun h => hp (by cases base <;> simp_all)
        obtain ⟨r1, r2⟩ := nil_run (P := P) (w := w) (X := X) (Y := Y) (base := base) (len := len) (cap := cap) hu
        have hrun : (execOp a.eval o).run P w = .ok (.value (.bool (f base.isNone))) w := by
          rcases hbo with ⟨rfl, rfl⟩ | ⟨rfl, rfl⟩
          · have : execOp a.eval o = (do Pure.pure (.value (← (do eqGuard .eql t X Y (a.eval X) (a.eval Y); binOp .eql t (a.eval X) (a.eval Y) : Sem Value)))) := by simp only [execOp, hop]
            rw [this, ex, ey, Sem.run_bind, r1]; rfl
          · have : execOp a.eval o = (do Pure.pure (.value (← (do eqGuard .neq t X Y (a.eval X) (a.eval Y); binOp .neq t (a.eval X) (a.eval Y) : Sem Value)))) := by simp only [execOp, hop]
            rw [this, ex, ey, Sem.run_bind, r2]; rfl
        unfold Oper.wp
        rw [hrun]
        exact hn _ _ V h w (he base.isNone hb) rfl V.le_refl hf (Nat.le_refl _) hi (Grows.refl w)
      unfold anil at hnil
      split at hnil
      · rename_i t' X' Y' yt' heq
        cases heq
        split at hnil
        · rename_i e hu hy
          cases hl : nilLen (aeval tm X) with
          | none => rw [hl] at hnil; cases hnil
          | some p' =>
            rw [hl] at hnil
            simp only [Option.map_some, Option.some.injEq, Prod.mk.injEq] at hnil
            obtain ⟨rfl, rfl⟩ := hnil
            exact fin2 e hu hy hl (.inl ⟨rfl, rfl⟩)
        · cases hnil
      · rename_i t' X' Y' yt' heq
        cases heq
        split at hnil
        · rename_i e hu hy
          cases hl : nilLen (aeval tm X) with
          | none => rw [hl] at hnil; cases hnil
          | some p' =>
            rw [hl] at hnil
            simp only [Option.map_some, Option.some.injEq, Prod.mk.injEq] at hnil
            obtain ⟨rfl, rfl⟩ := hnil
            exact fin2 e hu hy hl (.inr ⟨rfl, rfl⟩)
        · cases hnil
      · cases hnil
  | _ => exact other (by rw [hop] at he ⊢; exact he)

end
end Go.Sh

namespace Go.Sh
open Go
variable [Con] {A : Type}
section
variable {P : Program} {E : Env A P}

def Then (E : Env A P) (V : Val) (n : Nat) (hR : PHeap) (w : World) (K : List AVal → Heap A → Prop) (a : Act) (w' : World) : Prop :=
  ∃ tm V' h', K tm h' ∧ RepL V' tm a.tmps.toList ∧ V.le V' ∧ Fresh V' h'.length ∧ n ≤ h'.length ∧ Inv E.I V' (toF h') hR w' ∧ Grows w w' ∧ a.defers = []

theorem Then.chain {V V1 : Val} {n n1 : Nat} {hR : PHeap} {w w1 : World} {K : List AVal → Heap A → Prop} {a : Act} {w' : World} (h : Then E V1 n1 hR w1 K a w') (hV : V.le V1) (hn : n ≤ n1) (hg : Grows w w1) : Then E V n hR w K a w' := by
  obtain ⟨tm, V', h', h1, h2, h3, h4, h5, h6, h7, h8⟩ := h
  exact ⟨tm, V', h', h1, h2, Val.le_trans hV h3, h4, by omega, h6, hg.trans h7, h8⟩

theorem yielded_bool {ops : Array Oper} {j d : Nat} {tmps : Array Value} {b : Bool} (h1 : (ops[j]?).bind (·.dst) = some d) (h2 : tmps[d]? = some (.bool b)) : yielded ops tmps j = some b := by
  simp [yielded, h1, h2]
theorem yielded_tuple {ops : Array Oper} {j d : Nat} {tmps : Array Value} (h1 : (ops[j]?).bind (·.dst) = some d) (h2 : tmps[d]? = none ∨ ∃ vs, tmps[d]? = some (.tuple vs)) : yielded ops tmps j = none := by
  rcases h2 with h2 | ⟨vs, h2⟩ <;> simp [yielded, h1, h2]

theorem set_same {α : Type} : ∀ (l : List α) (i : Nat) (x : α), l[i]? = some x → l.set i x = l
  | [], _, _, h => by simp at h
  | a :: l, 0, x, h => by simp at h; subst h; rfl
  | a :: l, i + 1, x, h => by simp at h; simp [set_same l i x h]

theorem getD_bool {tm : List AVal} {d : Nat} {b : Bool} (h : tm.getD d (.raw undef) = .bool b) : tm[d]? = some (.bool b) := by
  rw [List.getD_eq_getElem?_getD] at h
  cases e : tm[d]? with
  | none => rw [e] at h; cases h
  | some x => rw [e] at h; exact congrArg some h

end
end Go.Sh

namespace Go.Sh
open Go
variable [Con] {A : Type}

def dfind : List (Nat × AVal) → Nat → AVal → AVal
  | [], _, b => b
  | (s, v) :: δ, t, b => cond (Nat.beq s t) v (dfind δ t b)
def dget (δ : List (Nat × AVal)) (base : List AVal) (t : Nat) : AVal :=
  match δ with
  | [] => base.getD t (.raw undef)
  | (s, v) :: δ => cond (Nat.beq s t) v (dget δ base t)
def dnorm (δ : List (Nat × AVal)) : Nat → List AVal → List AVal
  | _, [] => []
  | i, b :: bs => dfind δ i b :: dnorm δ (i + 1) bs
def force : List AVal → (List AVal → Prop) → Prop
  | [], K => K []
  | x :: xs, K => force xs fun ys => K (x :: ys)
theorem force_eq : ∀ (l : List AVal) (K : List AVal → Prop), force l K = K l
  | [], K => rfl
  | x :: xs, K => force_eq xs _

def dapply : List (Nat × AVal) → List AVal → List AVal
  | [], base => base
  | (s, v) :: δ, base => (dapply δ base).set s v
theorem dapply_length : ∀ (δ : List (Nat × AVal)) (base : List AVal), (dapply δ base).length = base.length
  | [], _ => rfl
  | (s, v) :: δ, base => by simp [dapply, dapply_length δ base]

def din (n : Nat) : List (Nat × AVal) → Prop
  | [] => True
  | (s, _) :: δ => s < n ∧ din n δ

theorem beq_eq (a b : Nat) : Nat.beq a b = decide (a = b) := by
  cases h : Nat.beq a b with
  | true => simp [Nat.eq_of_beq_eq_true h]
  | false =>
    have : a ≠ b := Nat.ne_of_beq_eq_false h
    simp [this]

theorem dget_eq : ∀ (δ : List (Nat × AVal)) (base : List AVal) (t : Nat), din base.length δ → dget δ base t = (dapply δ base).getD t (.raw undef)
  | [], _, _, _ => rfl
  | (s, v) :: δ, base, t, h => by
    unfold dget dapply
    rw [dget_eq δ base t h.2, beq_eq]
    by_cases e : s = t
    · subst e
      simp [List.getD_eq_getElem?_getD, List.getElem?_set, dapply_length, h.1]
    · simp [e, List.getD_eq_getElem?_getD, List.getElem?_set_ne e]

theorem dfind_eq : ∀ (δ : List (Nat × AVal)) (base : List AVal) (t : Nat) (b : AVal), din base.length δ → base[t]? = some b → (dapply δ base)[t]? = some (dfind δ t b)
  | [], _, _, _, _, h => h
  | (s, v) :: δ, base, t, b, h, hb => by
    unfold dfind dapply
    rw [beq_eq]
    by_cases e : s = t
    · subst e
      simp [List.getElem?_set, dapply_length, h.1]
    · simp only [e, decide_false, cond_false]
      rw [List.getElem?_set_ne e]; exact dfind_eq δ base t b h.2 hb

theorem dnorm_get (δ : List (Nat × AVal)) : ∀ (bs : List AVal) (i t : Nat), (dnorm δ i bs)[t]? = bs[t]?.map (dfind δ (i + t))
  | [], i, t => by simp [dnorm]
  | b :: bs, i, 0 => by simp [dnorm]
  | b :: bs, i, t + 1 => by
    simp only [dnorm, List.getElem?_cons_succ]
    rw [dnorm_get δ bs (i + 1) t, show i + 1 + t = i + (t + 1) from by omega]

theorem dnorm_eq {δ : List (Nat × AVal)} {base : List AVal} (h : din base.length δ) : dnorm δ 0 base = dapply δ base := by
  apply List.ext_getElem?
  intro t
  rw [dnorm_get]
  cases hb : base[t]? with
  | none =>
    rw [List.getElem?_eq_none_iff] at hb
    simp only [Option.map_none]
    rw [List.getElem?_eq_none]
    rw [dapply_length]; exact hb
  | some b => rw [dfind_eq δ base t b h hb]; simp

section
variable {P : Program} (E : Env A P)

def aevalD (δ : List (Nat × AVal)) (base : List AVal) : Operand → AVal
  | .tmp t => dget δ base t
  | .const v => ofVal v
  | .global g => .raw (.pointer (some ⟨g, 0, none⟩))
  | .func f => .func (.func f) [] []
theorem aevalD_eq {δ : List (Nat × AVal)} {base : List AVal} (h : din base.length δ) : aevalD δ base = aeval (dapply δ base) := by
  funext x
  cases x with
  | tmp t => exact dget_eq δ base t h
  | _ => rfl

def dput (δ : List (Nat × AVal)) (dst : Option Tmp) (v : AVal) : List (Nat × AVal) :=
  match dst with
  | some d => (d, v) :: δ
  | none => δ
def dok (n : Nat) (dst : Option Tmp) : Bool :=
  match dst with
  | some d => Nat.blt d n
  | none => true
theorem dput_eq {n : Nat} {δ : List (Nat × AVal)} {base : List AVal} {dst : Option Tmp} {v : AVal} : aput (dapply δ base) dst v = dapply (dput δ dst v) base := by
  cases dst <;> rfl
theorem dput_in {n : Nat} {δ : List (Nat × AVal)} {dst : Option Tmp} {v : AVal} (h : din n δ) (hd : dok n dst = true) : din n (dput δ dst v) := by
  cases dst with
  | none => exact h
  | some d => exact ⟨Nat.le_of_ble_eq_true hd, h⟩

def seenDst (seen : List (Option Tmp)) (i j : Nat) : Option Tmp := match seen[Nat.sub (Nat.pred i) j]? with
  | some d => d
  | none => none

def evOpsD (inl : Inl A) (base : List AVal) (n : Nat) : List Oper → List (Option Tmp) → Nat → List (Nat × AVal) → Heap A → (List AVal → Heap A → Prop) → Prop
  | [], _, _, δ, h, K => force (dnorm δ 0 base) fun tm => K tm h
  | o :: rest, seen, i, δ, h, K =>
    onlyIf (dok n o.dst) <|
    match o.guard with
    | none => evOp E inl (aevalD δ base) o.op h fun v h' => evOpsD inl base n rest (o.dst :: seen) (Nat.succ i) (dput δ o.dst v) h' K
    | some (j, want) =>
      onlyIf (Nat.blt j i) <|
      match seenDst seen i j with
      | none => False
      | some d =>
        match dget δ base d with
        | .bool b => onlyIf (Nat.blt d n) <|
          cond b
            (if want then evOp E inl (aevalD ((d, .bool true) :: δ) base) o.op h fun v h' => evOpsD inl base n rest (o.dst :: seen) (Nat.succ i) (dput ((d, .bool true) :: δ) o.dst v) h' K
              else evOpsD inl base n rest (o.dst :: seen) (Nat.succ i) (dput ((d, .bool true) :: δ) o.dst (.raw undef)) h K)
            (if want then evOpsD inl base n rest (o.dst :: seen) (Nat.succ i) (dput ((d, .bool false) :: δ) o.dst (.raw undef)) h K
              else evOp E inl (aevalD ((d, .bool false) :: δ) base) o.op h fun v h' => evOpsD inl base n rest (o.dst :: seen) (Nat.succ i) (dput ((d, .bool false) :: δ) o.dst v) h' K)
        | v => if isTuple v then evOpsD inl base n rest (o.dst :: seen) (Nat.succ i) (dput δ o.dst (.raw undef)) h K else False

variable {E}

def Seen (ops : Array Oper) (rest : List Oper) (seen : List (Option Tmp)) (i : Nat) : Prop := ∃ pre : List Oper, ops.toList = pre ++ rest ∧ seen = (pre.map (·.dst)).reverse ∧ i = pre.length
theorem Seen.next {ops : Array Oper} {o : Oper} {rest : List Oper} {seen : List (Option Tmp)} {i : Nat} (h : Seen ops (o :: rest) seen i) : Seen ops rest (o.dst :: seen) (Nat.succ i) := by
  obtain ⟨pre, h1, h2, h3⟩ := h
  exact ⟨pre ++ [o], by rw [h1]; simp, by rw [h2]; simp, by rw [h3]; simp⟩
theorem Seen.dst {ops : Array Oper} {rest : List Oper} {seen : List (Option Tmp)} {i j : Nat} (h : Seen ops rest seen i) (hj : Nat.blt j i = true) : (ops[j]?).bind (·.dst) = seenDst seen i j := by
  obtain ⟨pre, h1, h2, h3⟩ := h
  have hlt : j < pre.length := by rw [← h3]; exact Nat.le_of_ble_eq_true hj
  have e1 : ops[j]? = pre[j]? := by rw [← Array.getElem?_toList, h1, List.getElem?_append_left hlt]
  unfold seenDst
  have e2 : seen[Nat.sub (Nat.pred i) j]? = (pre.map (·.dst))[j]? := by
    rw [h2]
    have hs : Nat.sub (Nat.pred i) j = pre.length - 1 - j := by rw [h3]; rfl
    rw [hs, List.getElem?_reverse (by simp; omega)]
    congr 1; simp; omega
  rw [e1, e2, List.getElem?_map, List.getElem?_eq_getElem hlt]
  rfl

theorem evOpsD_sound {inl : Inl A} (hinl : InlOk E inl) {ops : Array Oper} {base : List AVal} {n : Nat} (hbn : base.length = n) {Q : Exit → Act → World → Prop} : ∀ (rest : List Oper) (seen : List (Option Tmp)) (i : Nat) (δ : List (Nat × AVal)) (h : Heap A) (K : List AVal → Heap A → Prop) (a : Act) (w : World) (V : Val) (hR : PHeap),
    Seen ops rest seen i → evOpsD E inl base n rest seen i δ h K → din n δ → Inv E.I V (toF h) hR w → Fresh V h.length → RepL V (dapply δ base) a.tmps.toList → a.defers = [] →
    (∀ a' w', Then E V h.length hR w K a' w' → Q .normal a' w') → wpList P ops Q rest a w := by
  intro rest
  induction rest with
  | nil =>
    intro seen i δ h K a w V hR hsn he hin hi hf ht hd hQ
    unfold evOpsD at he
    rw [force_eq, dnorm_eq (by rw [hbn]; exact hin)] at he
    exact wpList_nil (hQ a w ⟨dapply δ base, V, h, he, ht, V.le_refl, hf, Nat.le_refl _, hi, Grows.refl w, hd⟩)
  | cons o rest ih =>
    intro seen i δ h K a w V hR hsn he hin hi hf ht hd hQ
    have he := onlyIf_iff.1 he
    obtain ⟨hok, he⟩ := he
    have run : ∀ δ' : List (Nat × AVal), din n δ' → RepL V (dapply δ' base) a.tmps.toList → (evOp E inl (aevalD δ' base) o.op h fun v h' => evOpsD E inl base n rest (o.dst :: seen) (Nat.succ i) (dput δ' o.dst v) h' K) → Region.wanted o (yielded ops a.tmps) = true → wpList P ops Q (o :: rest) a w := by
      intro δ' hin' ht' hev hw
      refine wpList_step fun K' hK' => ?_
      rw [if_pos hw]
      rw [aevalD_eq (by rw [hbn]; exact hin')] at hev
      refine evOp_sound hinl hev hi hf ht' ?_
      intro v v' V' h' w' k1 k2 k3 k4 k5 k6 k7
      refine hK' _ _ (ih _ _ _ _ _ _ _ V' hR hsn.next k1 (dput_in hin' hok) k6 k4 (by rw [← dput_eq (n := n)]; exact aput_rep (RepL.mono k3 _ _ ht') k2) (by rw [put_defers]; exact hd) ?_)
      intro a' w'' hT
      exact hQ a' w'' (hT.chain k3 k5 k7)
    have skip : ∀ δ' : List (Nat × AVal), din n δ' → RepL V (dapply δ' base) a.tmps.toList → evOpsD E inl base n rest (o.dst :: seen) (Nat.succ i) (dput δ' o.dst (.raw undef)) h K → Region.wanted o (yielded ops a.tmps) = false → wpList P ops Q (o :: rest) a w := by
      intro δ' hin' ht' hev hw
      refine wpList_step fun K' hK' => ?_
      rw [if_neg (by rw [hw]; simp)]
      exact hK' _ _ (ih _ _ _ _ _ _ _ V hR hsn.next hev (dput_in hin' hok) hi hf (by rw [← dput_eq (n := n)]; exact aput_rep ht' rfl) (by rw [put_defers]; exact hd) hQ)
    cases hg : o.guard with
    | none =>
      rw [hg] at he
      exact run δ hin ht he (by simp [Region.wanted, hg])
    | some g =>
      obtain ⟨j, want⟩ := g
      rw [hg] at he
      simp only at he
      obtain ⟨hji, he⟩ := onlyIf_iff.1 he
      have hjd := hsn.dst hji
      cases hj : (ops[j]?).bind (·.dst) with
      | none => rw [← hjd, hj] at he; exact he.elim
      | some d =>
        rw [← hjd, hj] at he
        simp only at he
        have hdg := dget_eq δ base d (by rw [hbn]; exact hin)
        split at he
        · rename_i b hb
          obtain ⟨hdn, he⟩ := onlyIf_iff.1 he
          rw [hdg] at hb
          have hgd := getD_bool hb
          obtain ⟨y, hy, ry⟩ := RepL.get ht d _ hgd
          rw [Array.getElem?_toList] at hy
          have ry' : y = .bool b := ry
          subst ry'
          have hyl : yielded ops a.tmps j = some b := yielded_bool hj hy
          have hs : dapply ((d, .bool b) :: δ) base = dapply δ base := set_same _ d _ hgd
          have hin2 : ∀ v, din n ((d, v) :: δ) := fun v => ⟨Nat.le_of_ble_eq_true hdn, hin⟩
          have hwb : Region.wanted o (yielded ops a.tmps) = (b == want) := by simp [Region.wanted, hg, hyl]
          cases b with
          | true =>
            simp only [cond_true] at he
            cases want with
            | true => rw [if_pos rfl] at he; exact run _ (hin2 _) (by rw [hs]; exact ht) he (by rw [hwb]; rfl)
            | false => rw [if_neg (by simp)] at he; exact skip _ (hin2 _) (by rw [hs]; exact ht) he (by rw [hwb]; rfl)
          | false =>
            simp only [cond_false] at he
            cases want with
            | true => rw [if_pos rfl] at he; exact skip _ (hin2 _) (by rw [hs]; exact ht) he (by rw [hwb]; rfl)
            | false => rw [if_neg (by simp)] at he; exact run _ (hin2 _) (by rw [hs]; exact ht) he (by rw [hwb]; rfl)
        · rename_i hnb
          split at he
          · rename_i htp
            rw [hdg] at htp
            have hyl : yielded ops a.tmps j = none := by
              refine yielded_tuple hj ?_
              cases e : a.tmps[d]? with
              | none => exact .inl rfl
              | some x =>
                right
                have hlt : d < (dapply δ base).length := by
                  have h1 := RepL.length ht
                  rw [Array.length_toList] at h1
                  cases Nat.lt_or_ge d a.tmps.size with
                  | inl g => exact Nat.lt_of_lt_of_eq g h1
                  | inr g => rw [Array.getElem?_eq_none g] at e; cases e
                obtain ⟨y, hy, ry⟩ := RepL.get ht d _ (List.getElem?_eq_getElem hlt)
                rw [Array.getElem?_toList, e] at hy
                cases hy
                have e2 : (dapply δ base).getD d (.raw undef) = (dapply δ base)[d] := by rw [List.getD_eq_getElem?_getD, List.getElem?_eq_getElem hlt]; rfl
                rw [e2] at htp
                unfold isTuple at htp
                split at htp
                · rename_i vs e3
                  rw [e3] at ry
                  have : x = .tuple vs := ry
                  exact ⟨vs, by rw [this]⟩
                · cases htp
            exact skip δ hin ht he (by simp [Region.wanted, hg, hyl])
          · exact he.elim

end
end Go.Sh

namespace Go.Sh
open Go
variable [Con] {A : Type}

def hres (foot : List Nat) : Nat → Heap A → Heap A
  | _, [] => []
  | i, e :: h => (cond (foot.contains i) e none) :: hres foot (i + 1) h

structure Item (A : Type) where
  o : Oper
  ran : Bool
  v : AVal
  upd : List (Nat × Option (Entry A))
  new : List (Entry A)
  foot : List Nat
  n : Nat

section
variable {P : Program} (E : Env A P)

def dop (ρ : Operand → AVal) (op : Op) (h : Heap A) : Option (ORes A) :=
  match op with
  | .call c =>
    match callee E ρ c with
    | some (g, args) => if plainFn P g = true then
        match E.det g with
        | some D => D args h
        | none => none
      else none
    | none => aop P ρ (.call c) h
  | .load t a =>
    match aop P ρ (.load t a) h with
    | some r => some r
    | none =>
      match ρ a with
      | .ptr l off =>
        match E.fld t l off h with
        | some (v, q) => some { v := v, upd := [], new := [], foot := [l], need := q }
        | none => none
      | _ => none
  | op => aop P ρ op h

def Item.puts (it : Item A) (l : Nat) : Bool := it.upd.any (fun x => x.1 == l) || (decide (it.n ≤ l) && decide (l < it.n + it.new.length))

def wellItem (it : Item A) : Bool := it.upd.all fun x => it.foot.contains x.1 && decide (x.1 < it.n)

def dstApart (ops : Array Oper) (x y : Oper) : Bool :=
  match x.dst with
  | some d => !(y.looksAt ops).contains d && y.dst != some d
  | none => true

def indep (ops : Array Oper) (x y : Item A) : Bool :=
  dstApart ops x.o y.o && dstApart ops y.o x.o && y.foot.all (fun l => !x.puts l) && x.foot.all (fun l => !y.puts l)

def mask (acc : List Nat) (o : Oper) : Nat :=
  o.after.toList.foldl (fun s e => if Region.binds .any e then s ||| 2 ^ e.on ||| acc.getD e.on 0 else s) 0
def masks : List Nat → List Oper → List Nat
  | acc, [] => acc
  | acc, o :: rest => masks (acc ++ [mask acc o]) rest

def PairsP (ops : Array Oper) (ms : List Nat) (its : List (Item A)) : Prop :=
  ∀ i j x y, its[i]? = some x → its[j]? = some y → i < j → (ms.getD j 0).testBit i = true ∨ indep ops x y = true

def edgesAt (j : Nat) (o : Oper) : Bool := o.after.toList.all fun e => !Region.binds .any e || Nat.blt e.on j
def edgesOk (ops : List Oper) : Prop := ∀ (i : Nat) (o : Oper), ops[i]? = some o → edgesAt i o = true

def scan (ops : Array Oper) (y : Item A) : List (Item A) → Nat → Nat → Bool
  | [], _, _ => true
  | x :: prev, u, i => cond (Nat.beq u 0) true (cond (Nat.ble (2 ^ Nat.pred i) u) (indep ops x y && scan ops y prev (Nat.sub u (2 ^ Nat.pred i)) (Nat.pred i)) (scan ops y prev u (Nat.pred i)))
theorem scan_spec {ops : Array Oper} {y : Item A} : ∀ (prev : List (Item A)) (u : Nat), u < 2 ^ prev.length → scan ops y prev u prev.length = true → ∀ (k : Nat) (x : Item A), prev.reverse[k]? = some x → u.testBit k = true → indep ops x y = true
  | [], u, _, _, k, x, hk, _ => by simp at hk
  | z :: prev, u, hu, h, k, x, hk, hb => by
    unfold scan at h
    simp only [List.length_cons, Nat.pred_succ] at h hu
    rw [List.reverse_cons] at hk
    cases h0 : Nat.beq u 0 with
    | true =>
      have : u = 0 := Nat.eq_of_beq_eq_true h0
      subst this; simp at hb
    | false =>
      rw [h0] at h
      simp only [cond_false] at h
      have hkl : k < prev.length ∨ k = prev.length := by
        cases Nat.lt_or_ge k (prev.length + 1) with
        | inl g => omega
        | inr g => rw [List.getElem?_eq_none (by simp; omega)] at hk; cases hk
      have hlow : k < prev.length → prev.reverse[k]? = some x := by
        intro hlt
        rw [List.getElem?_append_left (by simpa using hlt)] at hk; exact hk
      have htop : k = prev.length → z = x := by
        intro e
        subst e
        rw [List.getElem?_append_right (by simp)] at hk
        simpa using hk
      cases h1 : Nat.ble (2 ^ prev.length) u with
      | true =>
        rw [h1] at h
        simp only [cond_true, Bool.and_eq_true] at h
        have hle : 2 ^ prev.length ≤ u := Nat.le_of_ble_eq_true h1
        have hlt : u - 2 ^ prev.length < 2 ^ prev.length := by rw [Nat.pow_succ] at hu; omega
        rcases hkl with hkl | hkl
        · refine scan_spec prev _ hlt h.2 k x (hlow hkl) ?_
          have e : u = 2 ^ prev.length + (u - 2 ^ prev.length) := by omega
          rw [e, Nat.testBit_two_pow_add_gt (by omega)] at hb
          exact hb
        · rw [← htop hkl]; exact h.1
      | false =>
        rw [h1] at h
        simp only [cond_false] at h
        have hlt : u < 2 ^ prev.length := by
          have : ¬ 2 ^ prev.length ≤ u := fun hle => by rw [Nat.ble_eq_true_of_le hle] at h1; cases h1
          omega
        rcases hkl with hkl | hkl
        · exact scan_spec prev u hlt h k x (hlow hkl) hb
        · subst hkl
          rw [Nat.testBit_lt_two_pow hlt] at hb; cases hb

def maskR (pm : List Nat) (j : Nat) (o : Oper) : Nat :=
  o.after.toList.foldl (fun s e => cond (Region.binds .any e) (Nat.lor (Nat.lor s (2 ^ e.on)) (pm.getD (Nat.sub (Nat.pred j) e.on) 0)) s) 0
theorem maskR_eq {pm : List Nat} {o : Oper} (he : edgesAt pm.length o = true) : maskR pm pm.length o = mask pm.reverse o := by
  unfold maskR mask
  unfold edgesAt at he
  generalize o.after.toList = l at he
  have key : ∀ s, l.foldl (fun s e => cond (Region.binds .any e) (Nat.lor (Nat.lor s (2 ^ e.on)) (pm.getD (Nat.sub (Nat.pred pm.length) e.on) 0)) s) s = l.foldl (fun s e => if Region.binds .any e then s ||| 2 ^ e.on ||| pm.reverse.getD e.on 0 else s) s := by
    induction l with
    | nil => intro s; rfl
    | cons e l ih =>
      intro s
      simp only [List.all_cons, Bool.and_eq_true] at he
      simp only [List.foldl_cons]
      rw [ih he.2]
      congr 1
      cases hb : Region.binds .any e with
      | false => rfl
      | true =>
        simp only [cond_true, if_true]
        have hlt : e.on < pm.length := by
          have h1 := he.1
          rw [hb] at h1
          have h2 : Nat.blt e.on pm.length = true := by simpa only [Bool.not_true, Bool.false_or] using h1
          exact Nat.le_of_ble_eq_true h2
        have : pm.reverse.getD e.on 0 = pm.getD (Nat.sub (Nat.pred pm.length) e.on) 0 := by
          rw [List.getD_eq_getElem?_getD, List.getD_eq_getElem?_getD, List.getElem?_reverse hlt]
          rfl
        rw [this]; rfl
  exact key 0

theorem masks_snoc : ∀ (l : List Oper) (acc : List Nat) (o : Oper), masks acc (l ++ [o]) = masks acc l ++ [mask (masks acc l) o]
  | [], acc, o => rfl
  | x :: l, acc, o => by
    show masks (acc ++ [mask acc x]) (l ++ [o]) = _
    rw [masks_snoc l]; rfl
theorem masks_length : ∀ (l : List Oper) (acc : List Nat), (masks acc l).length = acc.length + l.length
  | [], acc => rfl
  | x :: l, acc => by
    show (masks (acc ++ [mask acc x]) l).length = _
    rw [masks_length l]; simp; omega

def stepOk (ops : Array Oper) (prev : List (Item A)) (j m : Nat) (y : Item A) : Bool :=
  edgesAt j y.o && wellItem y && scan ops y prev (Nat.xor (Nat.pred (2 ^ j)) (Nat.land m (Nat.pred (2 ^ j)))) j

def forceNat (n : Nat) (K : Nat → Prop) : Prop := match n with
  | 0 => K 0
  | p + 1 => K (Nat.succ p)
theorem forceNat_eq (n : Nat) (K : Nat → Prop) : forceNat n K = K n := by cases n <;> rfl

structure Built (ops : Array Oper) (prev : List (Item A)) (pm : List Nat) : Prop where
  masks : pm = (masks [] (prev.reverse.map (·.o))).reverse
  edges : edgesOk (prev.reverse.map (·.o))
  wells : prev.reverse.all wellItem = true
  pairs : PairsP ops pm.reverse prev.reverse

theorem Built.nil (ops : Array Oper) : Built ops ([] : List (Item A)) [] :=
  ⟨rfl, fun i o h => by simp at h, rfl, fun i j x y h => by simp at h⟩

theorem Built.cons {ops : Array Oper} {prev : List (Item A)} {pm : List Nat} (h : Built ops prev pm) {y : Item A} {m j : Nat} (hj : j = prev.length) (hm : m = maskR pm j y.o) (hs : stepOk ops prev j m y = true) : Built ops (y :: prev) (m :: pm) := by
  obtain ⟨h1, h2, h3, h4⟩ := h
  unfold stepOk at hs
  rw [Bool.and_eq_true, Bool.and_eq_true] at hs
  obtain ⟨⟨s1, s2⟩, s3⟩ := hs
  have hpl : pm.length = prev.length := by rw [h1, List.length_reverse, masks_length]; simp
  have hmk : m = mask pm.reverse y.o := by rw [hm, hj, ← hpl]; exact maskR_eq (by rw [hpl, ← hj]; exact s1)
  refine ⟨?_, ?_, ?_, ?_⟩
  · rw [List.reverse_cons, List.map_append, List.map_cons, List.map_nil, masks_snoc, List.reverse_append, ← h1.symm.symm]
    have : pm.reverse = Go.Sh.masks [] (prev.reverse.map (·.o)) := by rw [h1, List.reverse_reverse]
    rw [← this, hmk]; simp
  · intro i o hi
    rw [List.reverse_cons, List.map_append] at hi
    by_cases hlt : i < prev.length
    · rw [List.getElem?_append_left (by simpa using hlt)] at hi; exact h2 i o hi
    · rw [List.getElem?_append_right (by simp; omega)] at hi
      simp only [List.length_map, List.length_reverse, List.map_cons, List.map_nil] at hi
      have : i = prev.length := by
        cases hq : i - prev.length with
        | zero => omega
        | succ n => rw [hq] at hi; simp at hi
      subst this
      simp at hi; subst hi
      rw [← hj]; exact s1
  · rw [List.reverse_cons, List.all_append, h3]; simpa using s2
  · intro i k x z hi hk hik
    rw [List.reverse_cons] at hi hk ⊢
    by_cases hlt : k < prev.length
    · rw [List.getElem?_append_left (by simp; omega)] at hi
      rw [List.getElem?_append_left (by simp; omega)] at hk
      have := h4 i k x z hi hk hik
      rw [List.getD_eq_getElem?_getD, List.getElem?_append_left (by simp; omega), ← List.getD_eq_getElem?_getD]; exact this
    · have hkl : k = prev.length := by
        cases Nat.lt_or_ge k (prev.length + 1) with
        | inl g => omega
        | inr g => rw [List.getElem?_eq_none (by simp; omega)] at hk; cases hk
      subst hkl
      rw [List.getElem?_append_left (by simp; omega)] at hi
      rw [List.getElem?_append_right (by simp)] at hk
      simp at hk; subst hk
      have e : (pm.reverse ++ [m]).getD prev.length 0 = m := by
        rw [List.getD_eq_getElem?_getD, List.getElem?_append_right (by simp; omega)]
        simp [hpl]
      rw [e]
      cases hb : m.testBit i with
      | true => exact .inl rfl
      | false =>
        right
        subst hj
        have hpow : Nat.pred (2 ^ prev.length) = 2 ^ prev.length - 1 := rfl
        refine scan_spec prev _ ?_ s3 i x hi ?_
        · have h2p : 0 < 2 ^ prev.length := Nat.two_pow_pos _
          refine Nat.xor_lt_two_pow (n := prev.length) (by rw [hpow]; omega) ?_
          exact Nat.lt_of_le_of_lt Nat.and_le_right (by rw [hpow]; omega)
        · show Nat.testBit (Nat.pred (2 ^ prev.length) ^^^ (m &&& Nat.pred (2 ^ prev.length))) i = true
          rw [Nat.testBit_xor, Nat.testBit_and, hpow, Nat.testBit_two_pow_sub_one, hb]
          simp [hik]

def totB : List Nat → Nat → List Oper → Bool
  | _, _, [] => true
  | pm, i, o :: rest => edgesAt i o && Nat.beq (maskR pm i o) (Nat.pred (2 ^ i)) && totB (maskR pm i o :: pm) (Nat.succ i) rest
def dsplit (ρ : Operand → AVal) (op : Op) (h : Heap A) : Option (Nat × List AVal × Nat) :=
  match op with
  | .load t a => match aisAgg P t with
    | some false => match ρ a with
      | .ptr l off => match hget h l with
        | some (.cells (.ptr a b :: .ptr c d :: r)) => some (l, .ptr a b :: .ptr c d :: r, off)
        | _ => none
      | _ => none
    | _ => none
  | _ => none
def pickR : List AVal → Nat → Nat → (AVal → Prop) → Prop
  | [], _, _, _ => False
  | v :: r, off, j, k => cond (Nat.beq off j) (k v) (pickR r off (Nat.succ j) k)
def evDraw (S : List Oper → List (Option Tmp) → Nat → List (Nat × AVal) → Heap A → List Nat → Prop) (ops : Array Oper) (base : List AVal) (n : Nat) : List Oper → List (Option Tmp) → Nat → List (Nat × AVal) → Heap A → List (Item A) → List Nat → (List AVal → Heap A → Prop) → Prop
  | [], _, _, δ, h, _, _, K => force (dnorm δ 0 base) fun tm => K tm h
  | o :: rest, seen, i, δ, h, prev, pm, K =>
    onlyIf (dok n o.dst) <|
    let run (δ' : List (Nat × AVal)) : Prop :=
      match dsplit (P := P) (aevalD δ' base) o.op h with
      | some (l, vs, off) => pickR vs off 0 fun v => forceNat (maskR pm i o) fun m => onlyIf (stepOk ops prev i m ⟨o, true, v, [], [], [l], h.length⟩)
            (evDraw S ops base n rest (o.dst :: seen) (Nat.succ i) (dput δ' o.dst v) h (⟨o, true, v, [], [], [l], h.length⟩ :: prev) (m :: pm) K)
      | none =>
      match dop E (aevalD δ' base) o.op h with
      | some r0 =>
        match dop E (aevalD δ' base) o.op (hres r0.foot 0 h) with
        | some r => oand r.need (forceNat (maskR pm i o) fun m => onlyIf (stepOk ops prev i m ⟨o, true, r.v, r.upd, r.new, r0.foot, h.length⟩)
            (evDraw S ops base n rest (o.dst :: seen) (Nat.succ i) (dput δ' o.dst r.v) (r.applyF h) (⟨o, true, r.v, r.upd, r.new, r0.foot, h.length⟩ :: prev) (m :: pm) K))
        | none => S (o :: rest) seen i δ h pm
      | none => S (o :: rest) seen i δ h pm
    let skip (δ : List (Nat × AVal)) : Prop := forceNat (maskR pm i o) fun m => onlyIf (stepOk ops prev i m ⟨o, false, .raw undef, [], [], [], h.length⟩)
      (evDraw S ops base n rest (o.dst :: seen) (Nat.succ i) (dput δ o.dst (.raw undef)) h (⟨o, false, .raw undef, [], [], [], h.length⟩ :: prev) (m :: pm) K)
    match o.guard with
    | none => run δ
    | some (j, want) =>
      onlyIf (Nat.blt j i) <|
      match seenDst seen i j with
      | none => False
      | some d =>
        match dget δ base d with
        | .bool b => onlyIf (Nat.blt d n) <| cond b (if want then run ((d, .bool true) :: δ) else skip ((d, .bool true) :: δ)) (if want then skip ((d, .bool false) :: δ) else run ((d, .bool false) :: δ))
        | v => if isTuple v then skip δ else False

variable {E}

def ItemOk (E : Env A P) (ops : Array Oper) (tm : List AVal) (h : Heap A) (it : Item A) : Prop :=
  it.n = h.length ∧
  ((it.ran = true ∧ (∃ r, dop E (aeval tm) it.o.op (hres it.foot 0 h) = some r ∧ r.obl ∧ r.v = it.v ∧ r.upd = it.upd ∧ r.new = it.new) ∧
      (∀ j want, it.o.guard = some (j, want) → ∃ d, (ops[j]?).bind (·.dst) = some d ∧ tm[d]? = some (.bool want))) ∨
   (it.ran = false ∧ it.v = .raw undef ∧ it.upd = [] ∧ it.new = [] ∧
      ∃ j want d, it.o.guard = some (j, want) ∧ (ops[j]?).bind (·.dst) = some d ∧ (tm[d]? = some (.bool (!want)) ∨ isTuple (tm.getD d (.raw undef)) = true)))

def Item.applyH (it : Item A) (h : Heap A) : Heap A := hupd h it.upd ++ it.new.map some

inductive Trace (E : Env A P) (ops : Array Oper) : List AVal → Heap A → List (Item A) → List AVal → Heap A → Prop
  | nil (tm : List AVal) (h : Heap A) : Trace E ops tm h [] tm h
  | cons {tm tm' : List AVal} {h h' : Heap A} {it : Item A} {its : List (Item A)} : ItemOk E ops tm h it → Trace E ops (aput tm it.o.dst it.v) (it.applyH h) its tm' h' → Trace E ops tm h (it :: its) tm' h'

theorem hres_get0 (foot : List Nat) : ∀ (h : Heap A) (i l : Nat), hget (hres foot i h) l = if foot.contains (i + l) then hget h l else none
  | [], i, l => by simp [hres, hget]
  | e :: h, i, 0 => by
    simp only [hres, hget, List.getD_cons_zero, Nat.add_zero]
    cases foot.contains i <;> rfl
  | e :: h, i, l + 1 => by
    have := hres_get0 foot h (i + 1) l
    simp only [hget] at this
    simp only [hres, hget, List.getD_cons_succ]
    rw [this, show i + 1 + l = i + (l + 1) from by omega]
theorem pickR_get {off : Nat} {k : AVal → Prop} : ∀ {vs : List AVal} {j : Nat}, pickR vs off j k → ∃ v, (∃ q, off = j + q ∧ vs[q]? = some v) ∧ k v
  | [], _, h => h.elim
  | v :: r, j, h => by
    unfold pickR at h
    cases hb : Nat.beq off j with
    | true =>
      rw [hb] at h
      exact ⟨v, ⟨0, Nat.eq_of_beq_eq_true hb, rfl⟩, h⟩
    | false =>
      rw [hb] at h
      obtain ⟨v', ⟨q, h1, h2⟩, h3⟩ := pickR_get (j := Nat.succ j) h
      exact ⟨v', ⟨q + 1, by omega, by simpa using h2⟩, h3⟩
theorem dsplit_dop {ρ : Operand → AVal} {op : Op} {h : Heap A} {l off : Nat} {vs : List AVal} {v : AVal} (hd : dsplit (P := P) ρ op h = some (l, vs, off)) (hv : ∃ q, off = 0 + q ∧ vs[q]? = some v) : dop E ρ op (hres [l] 0 h) = some { v, upd := [], new := [], foot := [l], need := none } := by
  obtain ⟨q, rfl, hv⟩ := hv
  rw [Nat.zero_add] at hd
  unfold dsplit at hd
  split at hd
  case h_2 => cases hd
  rename_i t a
  split at hd
  case h_2 => cases hd
  rename_i hag
  split at hd
  case h_2 => cases hd
  rename_i l' off' hρ
  split at hd
  case h_2 => cases hd
  rename_i a' b' c' d' r hl
  simp only [Option.some.injEq, Prod.mk.injEq] at hd
  obtain ⟨rfl, rfl, rfl⟩ := hd
  have e : aop P ρ (.load t a) (hres [l'] 0 h) = some { v, upd := [], new := [], foot := [l'], need := none } := by
    have hl2 : hget (hres [l'] 0 h) l' = some (.cells (.ptr a' b' :: .ptr c' d' :: r)) := by
      rw [hres_get0]; simp [hl]
    simp only [aop, hρ, aload, hl2, hag, hv]
  simp only [dop, e]
theorem evDraw_trace {S : List Oper → List (Option Tmp) → Nat → List (Nat × AVal) → Heap A → List Nat → Prop} {ops : Array Oper} {base : List AVal} {n : Nat} (hbn : base.length = n) {K : List AVal → Heap A → Prop} : ∀ (rest : List Oper) (seen : List (Option Tmp)) (i : Nat) (δ : List (Nat × AVal)) (h : Heap A) (prev : List (Item A)) (pm : List Nat), Seen ops rest seen i → din n δ → i = prev.length → Built ops prev pm →
    evDraw E S ops base n rest seen i δ h prev pm K →
    ∃ its rest2 tm' h' pm', Trace E ops (dapply δ base) h its tm' h' ∧ its.map (·.o) ++ rest2 = rest ∧ Built ops (its.reverse ++ prev) pm' ∧ ((rest2 = [] ∧ K tm' h') ∨ (∃ seen' δ', tm' = dapply δ' base ∧ din n δ' ∧ Seen ops rest2 seen' (i + its.length) ∧ S rest2 seen' (i + its.length) δ' h' pm')) := by
  intro rest
  induction rest with
  | nil =>
    intro seen i δ h prev pm _ hin _ hb he
    unfold evDraw at he
    rw [force_eq, dnorm_eq (by rw [hbn]; exact hin)] at he
    exact ⟨[], [], _, h, pm, .nil _ h, rfl, hb, .inl ⟨rfl, he⟩⟩
  | cons o rest ih =>
    intro seen i δ h prev pm hsn hin hi hb he
    obtain ⟨hok, he⟩ := onlyIf_iff.1 he
    have run : ∀ δ' : List (Nat × AVal), din n δ' → dapply δ' base = dapply δ base → (∀ j want, o.guard = some (j, want) → ∃ d, (ops[j]?).bind (·.dst) = some d ∧ (dapply δ base)[d]? = some (.bool want)) →
        (match dsplit (P := P) (aevalD δ' base) o.op h with
          | some (l, vs, off) => pickR vs off 0 fun v => forceNat (maskR pm i o) fun m => onlyIf (stepOk ops prev i m ⟨o, true, v, [], [], [l], h.length⟩)
                (evDraw E S ops base n rest (o.dst :: seen) (Nat.succ i) (dput δ' o.dst v) h (⟨o, true, v, [], [], [l], h.length⟩ :: prev) (m :: pm) K)
          | none =>
          match dop E (aevalD δ' base) o.op h with
          | some r0 =>
            match dop E (aevalD δ' base) o.op (hres r0.foot 0 h) with
            | some r => oand r.need (forceNat (maskR pm i o) fun m => onlyIf (stepOk ops prev i m ⟨o, true, r.v, r.upd, r.new, r0.foot, h.length⟩)
                (evDraw E S ops base n rest (o.dst :: seen) (Nat.succ i) (dput δ' o.dst r.v) (r.applyF h) (⟨o, true, r.v, r.upd, r.new, r0.foot, h.length⟩ :: prev) (m :: pm) K))
            | none => S (o :: rest) seen i δ h pm
          | none => S (o :: rest) seen i δ h pm) → ∃ its rest2 tm' h' pm', Trace E ops (dapply δ base) h its tm' h' ∧ its.map (·.o) ++ rest2 = o :: rest ∧ Built ops (its.reverse ++ prev) pm' ∧ ((rest2 = [] ∧ K tm' h') ∨ (∃ seen' δ', tm' = dapply δ' base ∧ din n δ' ∧ Seen ops rest2 seen' (i + its.length) ∧ S rest2 seen' (i + its.length) δ' h' pm')) := by
      intro δ' hin' heq hg hh
      have stop : S (o :: rest) seen i δ h pm → ∃ its rest2 tm' h' pm', Trace E ops (dapply δ base) h its tm' h' ∧ its.map (·.o) ++ rest2 = o :: rest ∧ Built ops (its.reverse ++ prev) pm' ∧ ((rest2 = [] ∧ K tm' h') ∨ (∃ seen' δ', tm' = dapply δ' base ∧ din n δ' ∧ Seen ops rest2 seen' (i + its.length) ∧ S rest2 seen' (i + its.length) δ' h' pm')) := fun hS => ⟨[], o :: rest, _, h, pm, .nil _ h, rfl, hb, .inr ⟨seen, δ, rfl, hin, hsn, hS⟩⟩
      rw [aevalD_eq (by rw [hbn]; exact hin'), heq] at hh
      split at hh
      · rename_i l vs off hds
        obtain ⟨v, hv, hev⟩ := pickR_get hh
        rw [forceNat_eq] at hev
        obtain ⟨hst, hev⟩ := onlyIf_iff.1 hev
        obtain ⟨its, rest2, tm2, h2, pm2, h3, h4, h5, h6⟩ := ih _ _ _ _ _ _ hsn.next (dput_in hin' hok) (by rw [hi]; rfl) (hb.cons hi rfl hst) hev
        refine ⟨⟨o, true, v, [], [], [l], h.length⟩ :: its, rest2, tm2, h2, pm2, .cons ⟨rfl, .inl ⟨rfl, ⟨_, dsplit_dop hds hv, trivial, rfl, rfl, rfl⟩, hg⟩⟩ ?_, by simp [h4], by simpa using h5, ?_⟩
        · rw [← dput_eq (n := n), heq] at h3
          simpa [Item.applyH, hupd] using h3
        · rw [show Nat.succ i + its.length = i + (its.length + 1) from by omega] at h6; exact h6
      split at hh
      · rename_i r0 hr0
        split at hh
        · rename_i r hr
          obtain ⟨ho, hev⟩ := oand_iff.1 hh
          rw [forceNat_eq, applyF_eq] at hev
          obtain ⟨hst, hev⟩ := onlyIf_iff.1 hev
          obtain ⟨its, rest2, tm2, h2, pm2, h3, h4, h5, h6⟩ := ih _ _ _ _ _ _ hsn.next (dput_in hin' hok) (by rw [hi]; rfl) (hb.cons hi rfl hst) hev
          refine ⟨⟨o, true, r.v, r.upd, r.new, r0.foot, h.length⟩ :: its, rest2, tm2, h2, pm2, .cons ⟨rfl, .inl ⟨rfl, ⟨r, hr, ho, rfl, rfl, rfl⟩, hg⟩⟩ ?_, by simp [h4], by simpa using h5, ?_⟩
          · rw [← dput_eq (n := n), heq] at h3; exact h3
          · rw [show Nat.succ i + its.length = i + (its.length + 1) from by omega] at h6; exact h6
        · exact stop hh
      · exact stop hh
    have skip : ∀ δ' : List (Nat × AVal), din n δ' → dapply δ' base = dapply δ base → (∃ j want d, o.guard = some (j, want) ∧ (ops[j]?).bind (·.dst) = some d ∧ ((dapply δ base)[d]? = some (.bool (!want)) ∨ isTuple ((dapply δ base).getD d (.raw undef)) = true)) →
        (forceNat (maskR pm i o) fun m => onlyIf (stepOk ops prev i m ⟨o, false, .raw undef, [], [], [], h.length⟩)
          (evDraw E S ops base n rest (o.dst :: seen) (Nat.succ i) (dput δ' o.dst (.raw undef)) h (⟨o, false, .raw undef, [], [], [], h.length⟩ :: prev) (m :: pm) K)) →
        ∃ its rest2 tm' h' pm', Trace E ops (dapply δ base) h its tm' h' ∧ its.map (·.o) ++ rest2 = o :: rest ∧ Built ops (its.reverse ++ prev) pm' ∧ ((rest2 = [] ∧ K tm' h') ∨ (∃ seen' δ', tm' = dapply δ' base ∧ din n δ' ∧ Seen ops rest2 seen' (i + its.length) ∧ S rest2 seen' (i + its.length) δ' h' pm')) := by
      intro δ' hin' heq hg hev
      rw [forceNat_eq] at hev
      obtain ⟨hst, hev⟩ := onlyIf_iff.1 hev
      obtain ⟨its, rest2, tm2, h2, pm2, h3, h4, h5, h6⟩ := ih _ _ _ _ _ _ hsn.next (dput_in hin' hok) (by rw [hi]; rfl) (hb.cons hi rfl hst) hev
      refine ⟨⟨o, false, .raw undef, [], [], [], h.length⟩ :: its, rest2, tm2, h2, pm2, .cons ⟨rfl, .inr ⟨rfl, rfl, rfl, rfl, hg⟩⟩ ?_, by simp [h4], by simpa using h5, ?_⟩
      · rw [← dput_eq (n := n), heq] at h3
        simpa [Item.applyH, hupd] using h3
      · rw [show Nat.succ i + its.length = i + (its.length + 1) from by omega] at h6; exact h6
    cases hg : o.guard with
    | none =>
      rw [hg] at he
      exact run δ hin rfl (fun j want e => by rw [hg] at e; cases e) he
    | some g =>
      obtain ⟨j, want⟩ := g
      rw [hg] at he
      simp only at he
      obtain ⟨hji, he⟩ := onlyIf_iff.1 he
      have hjd := hsn.dst hji
      cases hj : (ops[j]?).bind (·.dst) with
      | none => rw [← hjd, hj] at he; exact he.elim
      | some d =>
        rw [← hjd, hj] at he
        simp only at he
        have hdg := dget_eq δ base d (by rw [hbn]; exact hin)
        split at he
        · rename_i b hb'
          obtain ⟨hdn, he⟩ := onlyIf_iff.1 he
          rw [hdg] at hb'
          have hgd := getD_bool hb'
          have hs : dapply ((d, .bool b) :: δ) base = dapply δ base := set_same _ d _ hgd
          have hin2 : ∀ v, din n ((d, v) :: δ) := fun v => ⟨Nat.le_of_ble_eq_true hdn, hin⟩
          have r1 : want = b → ∀ j' want', o.guard = some (j', want') → ∃ d, (ops[j']?).bind (·.dst) = some d ∧ (dapply δ base)[d]? = some (.bool want') := by
            intro e j' want' e2
            rw [hg] at e2
            cases e2
            exact ⟨d, hj, by rw [e]; exact hgd⟩
          have r2 : want = !b → ∃ j want d, o.guard = some (j, want) ∧ (ops[j]?).bind (·.dst) = some d ∧ ((dapply δ base)[d]? = some (.bool (!want)) ∨ isTuple ((dapply δ base).getD d (.raw undef)) = true) := by
            intro e
            exact ⟨j, want, d, hg, hj, .inl (by rw [e]; simpa using hgd)⟩
          cases b with
          | true =>
            simp only [cond_true] at he
            cases want with
            | true => rw [if_pos rfl] at he; exact run _ (hin2 _) hs (r1 rfl) he
            | false => rw [if_neg (by simp)] at he; exact skip _ (hin2 _) hs (r2 rfl) he
          | false =>
            simp only [cond_false] at he
            cases want with
            | true => rw [if_pos rfl] at he; exact skip _ (hin2 _) hs (r2 rfl) he
            | false => rw [if_neg (by simp)] at he; exact run _ (hin2 _) hs (r1 rfl) he
        · rename_i hnb
          split at he
          · rename_i htp
            rw [hdg] at htp
            exact skip δ hin rfl ⟨j, want, d, hg, hj, .inr htp⟩ he
          · exact he.elim

end
end Go.Sh

namespace Go.Sh
open Go
variable [Con] {A : Type}

def updF (u : List (Nat × Option (Entry A))) (h : FHeap A) : FHeap A := u.foldl (fun h x => h.put x.1 x.2) h
def Item.putF (it : Item A) (h : FHeap A) : FHeap A := fun l => if it.n ≤ l ∧ l < it.n + it.new.length then it.new[l - it.n]? else updF it.upd h l

theorem updF_other : ∀ (u : List (Nat × Option (Entry A))) (h : FHeap A) (l : Nat), u.any (fun x => x.1 == l) = false → updF u h l = h l
  | [], h, l, _ => rfl
  | x :: u, h, l, hl => by
    simp only [List.any_cons, Bool.or_eq_false_iff, beq_eq_false_iff_ne, ne_eq] at hl
    show updF u (h.put x.1 x.2) l = h l
    rw [updF_other u _ l hl.2]
    simp [FHeap.put, Ne.symm hl.1]
theorem updF_same : ∀ (u : List (Nat × Option (Entry A))) (h g : FHeap A) (l : Nat), (u.any (fun x => x.1 == l) = true ∨ h l = g l) → updF u h l = updF u g l
  | [], h, g, l, hl => by
    rcases hl with hl | hl
    · cases hl
    · exact hl
  | x :: u, h, g, l, hl => by
    show updF u (h.put x.1 x.2) l = updF u (g.put x.1 x.2) l
    apply updF_same
    by_cases hx : x.1 = l
    · right; simp [FHeap.put, hx]
    · rcases hl with hl | hl
      · left
        have hb : (x.1 == l) = false := by simpa using hx
        simpa only [List.any_cons, hb, Bool.false_or] using hl
      · right
        simp only [FHeap.put]
        rw [if_neg (Ne.symm hx), if_neg (Ne.symm hx)]; exact hl

theorem putF_other (it : Item A) (h : FHeap A) (l : Nat) (hp : it.puts l = false) : it.putF h l = h l := by
  simp only [Item.puts, Bool.or_eq_false_iff, Bool.and_eq_false_iff, decide_eq_false_iff_not] at hp
  unfold Item.putF
  rw [if_neg (by omega)]
  exact updF_other _ _ _ hp.1
theorem putF_same (it : Item A) (h g : FHeap A) (l : Nat) (hp : it.puts l = true ∨ h l = g l) : it.putF h l = it.putF g l := by
  unfold Item.putF
  by_cases hc : it.n ≤ l ∧ l < it.n + it.new.length
  · rw [if_pos hc, if_pos hc]
  · rw [if_neg hc, if_neg hc]
    apply updF_same
    rcases hp with hp | hp
    · simp only [Item.puts, Bool.or_eq_true, Bool.and_eq_true, decide_eq_true_eq] at hp
      rcases hp with hp | hp
      · exact .inl hp
      · exact (hc hp).elim
    · exact .inr hp

theorem toF_hupd : ∀ (u : List (Nat × Option (Entry A))) (h : Heap A), (∀ x ∈ u, x.1 < h.length) → toF (hupd h u) = updF u (toF h)
  | [], h, _ => rfl
  | x :: u, h, hx => by
    show toF (hupd (h.set x.1 x.2) u) = updF u ((toF h).put x.1 x.2)
    rw [toF_hupd u _ (by intro y hy; simp; exact hx y (by simp [hy])), toF_set x.2 (hx x (by simp))]

theorem applyH_F {it : Item A} {h : Heap A} (hn : it.n = h.length) (hw : wellItem it = true) : toF (it.applyH h) = it.putF (toF h) := by
  have hu : ∀ x ∈ it.upd, x.1 < h.length := by
    intro x hx
    have := List.all_eq_true.1 hw x hx
    simp only [Bool.and_eq_true, decide_eq_true_eq] at this
    omega
  funext l
  show hget (hupd h it.upd ++ it.new.map some) l = it.putF (toF h) l
  unfold Item.putF
  by_cases hc : it.n ≤ l ∧ l < it.n + it.new.length
  · rw [if_pos hc]
    have e1 : (hupd h it.upd).length = it.n := by rw [hupd_length, hn]
    simp only [hget, List.getD_eq_getElem?_getD]
    rw [List.getElem?_append_right (by omega), e1, List.getElem?_map]
    have hlt : l - it.n < it.new.length := by omega
    rw [List.getElem?_eq_getElem hlt]; rfl
  · rw [if_neg hc, ← toF_hupd _ _ hu]
    show _ = hget (hupd h it.upd) l
    by_cases hlt : l < (hupd h it.upd).length
    · exact hget_append_left hlt
    · rw [hupd_length] at hlt
      rw [hget_ge (by rw [List.length_append, hupd_length, List.length_map]; omega), hget_ge (by rw [hupd_length]; omega)]

def tmF (D : Nat → Bool) : Nat → List (Item A) → List AVal → List AVal
  | _, [], tm => tm
  | i, it :: its, tm => tmF D (i + 1) its (if D i then aput tm it.o.dst it.v else tm)
def hF (D : Nat → Bool) : Nat → List (Item A) → FHeap A → FHeap A
  | _, [], h => h
  | i, it :: its, h => hF D (i + 1) its (if D i then it.putF h else h)

theorem aput_length (tm : List AVal) (d : Option Tmp) (v : AVal) : (aput tm d v).length = tm.length := by
  cases d <;> simp [aput]
theorem aput_get (tm : List AVal) (d : Option Tmp) (v : AVal) (t : Nat) : (aput tm d v)[t]? = if d = some t ∧ t < tm.length then some v else tm[t]? := by
  cases d with
  | none => simp [aput]
  | some e =>
    show (tm.set e v)[t]? = _
    rw [List.getElem?_set]
    by_cases he : e = t
    · subst he
      by_cases hlt : e < tm.length
      · simp [hlt]
      · simp [hlt]
    · simp [he]

theorem tmF_length (D : Nat → Bool) : ∀ (its : List (Item A)) (i : Nat) (tm : List AVal), (tmF D i its tm).length = tm.length
  | [], _, _ => rfl
  | it :: its, i, tm => by
    unfold tmF
    rw [tmF_length D its]
    split
    · exact aput_length _ _ _
    · rfl

theorem tmF_agree {D1 D2 : Nat → Bool} {t : Nat} : ∀ (its : List (Item A)) (i : Nat) (tm1 tm2 : List AVal), tm1.length = tm2.length → tm1[t]? = tm2[t]? →
    (∀ k it, its[k]? = some it → it.o.dst = some t → D1 (i + k) = D2 (i + k)) → (tmF D1 i its tm1)[t]? = (tmF D2 i its tm2)[t]?
  | [], _, _, _, _, h, _ => h
  | it :: its, i, tm1, tm2, hl, h, hD => by
    unfold tmF
    apply tmF_agree its
    · split <;> split <;> simp [aput_length, hl]
    · by_cases hd : it.o.dst = some t
      · have e := hD 0 it rfl hd
        rw [Nat.add_zero] at e
        rw [e]
        split
        · rw [aput_get, aput_get, hl, h]
        · exact h
      · have e1 : ∀ tm : List AVal, (aput tm it.o.dst it.v)[t]? = tm[t]? := fun tm => by rw [aput_get, if_neg (by simp [hd])]
        split <;> split <;> simp only [e1, h]
    · intro k it' hk hd
      have := hD (k + 1) it' (by simpa using hk) hd
      rw [show i + 1 + k = i + (k + 1) from by omega]; exact this

theorem hF_agree {D1 D2 : Nat → Bool} {l : Nat} : ∀ (its : List (Item A)) (i : Nat) (h1 h2 : FHeap A), h1 l = h2 l →
    (∀ k it, its[k]? = some it → it.puts l = true → D1 (i + k) = D2 (i + k)) → hF D1 i its h1 l = hF D2 i its h2 l
  | [], _, _, _, h, _ => h
  | it :: its, i, h1, h2, h, hD => by
    unfold hF
    apply hF_agree its
    · cases hp : it.puts l with
      | true =>
        have e := hD 0 it rfl hp
        rw [Nat.add_zero] at e
        rw [e]
        split
        · exact putF_same it h1 h2 l (.inl hp)
        · exact h
      | false => split <;> split <;> simp only [putF_other it _ l hp, h]
    · intro k it' hk hd
      have := hD (k + 1) it' (by simpa using hk) hd
      rw [show i + 1 + k = i + (k + 1) from by omega]; exact this

theorem tmF_none {D : Nat → Bool} : ∀ (its : List (Item A)) (i : Nat) (tm : List AVal), (∀ k, i ≤ k → D k = false) → tmF D i its tm = tm
  | [], _, _, _ => rfl
  | it :: its, i, tm, h => by
    unfold tmF
    rw [h i (Nat.le_refl _)]
    exact tmF_none its (i + 1) tm (fun k hk => h k (by omega))
theorem hF_none {D : Nat → Bool} : ∀ (its : List (Item A)) (i : Nat) (h : FHeap A), (∀ k, i ≤ k → D k = false) → hF D i its h = h
  | [], _, _, _ => rfl
  | it :: its, i, g, h => by
    unfold hF
    rw [h i (Nat.le_refl _)]
    exact hF_none its (i + 1) g (fun k hk => h k (by omega))

section
variable {P : Program} {E : Env A P}

theorem applyH_length (it : Item A) (h : Heap A) : (it.applyH h).length = h.length + it.new.length := by
  simp [Item.applyH, hupd_length]

theorem Trace.le {ops : Array Oper} {tm tm' : List AVal} {h h' : Heap A} {its : List (Item A)} (ht : Trace E ops tm h its tm' h') : h.length ≤ h'.length := by
  induction ht with
  | nil => exact Nat.le_refl _
  | cons _ _ ih2 => rw [applyH_length] at ih2; omega

theorem Trace.low {ops : Array Oper} {tm tm' : List AVal} {h h' : Heap A} {its : List (Item A)} (ht : Trace E ops tm h its tm' h') : ∀ (j : Nat) (y : Item A), its[j]? = some y → h.length ≤ y.n := by
  induction ht with
  | nil => intro j y hy; simp at hy
  | cons ho ht ih2 =>
    intro j y hy
    cases j with
    | zero => simp at hy; subst hy; rw [ho.1]; exact Nat.le_refl _
    | succ j => simp at hy; have := ih2 j y hy; rw [applyH_length] at this; omega

theorem Trace.at {ops : Array Oper} {tm tm' : List AVal} {h h' : Heap A} {its : List (Item A)} (ht : Trace E ops tm h its tm' h') (hw : its.all wellItem = true) : ∀ (base k : Nat) (it : Item A), its[k]? = some it →
    ∃ hk, ItemOk E ops (tmF (fun i => decide (i < base + k)) base its tm) hk it ∧ toF hk = hF (fun i => decide (i < base + k)) base its (toF h) ∧ h.length ≤ hk.length ∧ hk.length + it.new.length ≤ h'.length := by
  induction ht with
  | nil tm h => intro base k it hk; simp at hk
  | @cons tm tm' h h' it0 its ho ht ih =>
    simp only [List.all_cons, Bool.and_eq_true] at hw
    have ih := ih hw.2
    intro base k it hk
    cases k with
    | zero =>
      simp at hk; subst hk
      refine ⟨h, ?_, ?_, Nat.le_refl _, ?_⟩
      · rw [tmF_none _ _ _ (by intro k hk; simp; omega)]; exact ho
      · rw [hF_none _ _ _ (by intro k hk; simp; omega)]
      · have := ht.le
        rw [applyH_length] at this; exact this
    | succ k =>
      simp at hk
      obtain ⟨hk', h1, h2, h3, h4⟩ := ih (base + 1) k it hk
      have e : ∀ i, decide (i < base + 1 + k) = decide (i < base + (k + 1)) := fun i => by congr 1; rw [Nat.add_assoc, Nat.add_comm 1 k]
      have e' : (fun i => decide (i < base + 1 + k)) = (fun i => decide (i < base + (k + 1))) := funext e
      rw [e'] at h1 h2
      refine ⟨hk', ?_, ?_, by rw [applyH_length] at h3; omega, h4⟩
      · unfold tmF
        rw [if_pos (by simp)]
        exact h1
      · unfold hF
        rw [if_pos (by simp), ← applyH_F ho.1 hw.1]
        exact h2

theorem Trace.end {ops : Array Oper} {tm tm' : List AVal} {h h' : Heap A} {its : List (Item A)} (ht : Trace E ops tm h its tm' h') (hw : its.all wellItem = true) : ∀ (base : Nat) (D : Nat → Bool), (∀ k, k < its.length → D (base + k) = true) →
    tmF D base its tm = tm' ∧ hF D base its (toF h) = toF h' := by
  induction ht with
  | nil tm h => intro base D _; exact ⟨rfl, rfl⟩
  | @cons tm tm' h h' it0 its ho ht ih =>
    simp only [List.all_cons, Bool.and_eq_true] at hw
    intro base D hD
    have h0 := hD 0 (by simp)
    rw [Nat.add_zero] at h0
    have := ih hw.2 (base + 1) D (by
      intro k hk
      have := hD (k + 1) (by simp; omega)
      rw [Nat.add_assoc, Nat.add_comm 1 k]; exact this)
    unfold tmF hF
    rw [h0, if_pos rfl, if_pos rfl, ← applyH_F ho.1 hw.1]
    exact this

theorem Trace.news {ops : Array Oper} {tm tm' : List AVal} {h h' : Heap A} {its : List (Item A)} (ht : Trace E ops tm h its tm' h') : ∀ (i j : Nat) (x y : Item A), its[i]? = some x → its[j]? = some y → i < j → h.length ≤ x.n ∧ x.n + x.new.length ≤ y.n := by
  induction ht with
  | nil => intro i j x y hx; simp at hx
  | cons ho ht ih =>
    intro i j x y hx hy hij
    cases j with
    | zero => omega
    | succ j =>
      simp at hy
      cases i with
      | zero =>
        simp at hx; subst hx
        have := ht.low j y hy
        rw [applyH_length] at this
        rw [ho.1]; exact ⟨Nat.le_refl _, this⟩
      | succ i =>
        simp at hx
        obtain ⟨h1, h2⟩ := ih i j x y hx hy (by omega)
        rw [applyH_length] at h1
        exact ⟨by omega, h2⟩

end
end Go.Sh

namespace Go.Sh
open Go
variable [Con] {A : Type}

theorem map_pairs_congr {ρ ρ2 : Operand → AVal} (l : List (Nat × Operand)) (h : ∀ x ∈ l.map (·.2), ρ x = ρ2 x) : (l.map fun x => (x.1, ρ x.2)) = l.map fun x => (x.1, ρ2 x.2) := by
  apply List.map_congr_left
  intro x hx
  rw [h x.2 (List.mem_map.2 ⟨x, hx, rfl⟩)]
theorem map_ops_congr {ρ ρ2 : Operand → AVal} (l : List Operand) (h : ∀ x ∈ l, ρ x = ρ2 x) : l.map ρ = l.map ρ2 := List.map_congr_left h

theorem aop_congr {P : Program} {ρ ρ2 : Operand → AVal} (op : Op) (h : Heap A) (hρ : ∀ x ∈ op.operands, ρ x = ρ2 x) : aop P ρ op h = aop P ρ2 op h := by
  cases op <;> simp only [Op.operands] at hρ <;> simp only [aop]
  case move x => rw [hρ x (by simp)]
  case assign x => rw [hρ x (by simp)]
  case pick c a b => rw [hρ c (by simp), hρ a (by simp), hρ b (by simp)]
  case box e x => rw [hρ x (by simp)]
  case build t ps => rw [map_pairs_congr ps.toList (fun x hx => hρ x (by simpa using hx))]
  case buildSlice t n ps => rw [map_pairs_congr ps.toList (fun x hx => hρ x (by simpa using hx))]
  case load t a => rw [hρ a (by simp)]
  case store t a x => rw [hρ a (by simp), hρ x (by simp)]
  case nilCheck x => rw [hρ x (by simp)]
  case binOp o t x y yt => rw [hρ x (by simp), hρ y (by simp)]
  case unOp o t x => rw [hρ x (by simp)]
  case convert s d x => rw [hρ x (by simp)]
  case makeInterface t x => rw [hρ x (by simp)]
  case makeFunc fn f c => rw [map_ops_congr f.toList (fun x hx => hρ x (by simp at hx ⊢; exact .inl hx)), map_ops_congr c.toList (fun x hx => hρ x (by simp at hx ⊢; exact .inr hx))]
  case makeSlice t n m => rw [hρ n (by simp), hρ m (by simp)]
  case makeMap t r => cases r <;> rfl
  case lookup t x i ck => rw [hρ x (by simp), hρ i (by simp)]
  case mapUpdate t m k v => rw [hρ m (by simp), hρ k (by simp), hρ v (by simp)]
  case slice t x lo hi mx =>
    have e1 : lo.map ρ = lo.map ρ2 := by cases lo with | none => rfl | some y => simp [hρ y (by simp)]
    have e2 : hi.map ρ = hi.map ρ2 := by cases hi with | none => rfl | some y => simp [hρ y (by simp)]
    have e3 : mx.map ρ = mx.map ρ2 := by cases mx with | none => rfl | some y => simp [hρ y (by simp)]
    rw [hρ x (by simp), e1, e2, e3]
  case fieldAddr s x f => rw [hρ x (by simp)]
  case field s x f => rw [hρ x (by simp)]
  case indexAddr t x i => rw [hρ x (by simp), hρ i (by simp)]
  case index t x i => rw [hρ x (by simp), hρ i (by simp)]
  case extract x i => rw [hρ x (by simp)]
  case call c =>
    have e1 : c.args.toList.map ρ = c.args.toList.map ρ2 := map_ops_congr _ (fun x hx => hρ x (by simp [Call.operands]; right; simpa using hx))
    rw [e1]

section
variable {P : Program} {E : Env A P}

theorem callee_congr {ρ ρ2 : Operand → AVal} (c : Call) (hρ : ∀ x ∈ c.operands, ρ x = ρ2 x) : callee E ρ c = callee E ρ2 c := by
  have e1 : c.args.toList.map ρ = c.args.toList.map ρ2 := map_ops_congr _ (fun x hx => hρ x (by simp [Call.operands]; right; simpa using hx))
  unfold callee
  cases hc : c.callee with
  | value f => simp only; rw [hρ f (by simp [Call.operands, hc]), e1]
  | invoke r m => simp only; rw [hρ r (by simp [Call.operands, hc]), e1]
  | builtin b => rfl

theorem dop_congr {ρ ρ2 : Operand → AVal} (op : Op) (h : Heap A) (hρ : ∀ x ∈ op.operands, ρ x = ρ2 x) : dop E ρ op h = dop E ρ2 op h := by
  cases op
  case call c =>
    simp only [dop]
    rw [callee_congr c hρ, aop_congr (.call c) h hρ]
  case load t a =>
    simp only [dop]
    rw [aop_congr (.load t a) h hρ, hρ a (by simp [Op.operands])]
  all_goals (simp only [dop]; exact aop_congr _ h hρ)

theorem dop_sound {a : Act} {o : Oper} {tm : List AVal} {h : Heap A} {r : ORes A} (hr : dop E (aeval tm) o.op h = some r) (ho : r.obl) {V : Val} {hR : PHeap} {w : World}
    (hi : Inv E.I V (toF h) hR w) (hf : FreshOn V h.length r.new.length) (ht : RepL V tm a.tmps.toList) {next : Act → World → Prop} {Q : Exit → Act → World → Prop}
    (hn : ∀ v' V' w', Rep V' r.v v' → V.le V' → (∀ l, V l = none → V' l ≠ none → h.length ≤ l ∧ l < h.length + r.new.length) → Inv E.I V' (toF (r.apply h)) hR w' → Grows w w' → next (a.put o.dst v') w') :
    o.wp P a w next Q := by
  have hρ : ∀ x, Rep V (aeval tm x) (a.eval x) := aeval_rep ht
  have simple : aop P (aeval tm) o.op h = some r → o.wp P a w next Q := by
    intro hr
    obtain ⟨nx, w', V', v', h1, h2, h3, h4, h5, h6, h7⟩ := aop_sound hr ho hi hf hρ
    have := hn v' V' w' h5 h3 h4 h6 h7
    unfold Oper.wp
    rw [h1]
    rcases h2 with rfl | ⟨rfl, rfl⟩
    · exact this
    · exact this
  have fin : ∀ (g : FuncId) (args : List AVal) (args' : Array Value) (D : DSpec A), E.det g = some D → D args h = some r → RepL V args args'.toList → (execOp a.eval o).run P w = .ok (.enter g args') w → o.wp P a w next Q := by
    intro g args args' D hD hDr hra hrun
    unfold Oper.wp
    rw [hrun]
    refine (E.detOk g D hD args h r hDr ho V hR w args' hi hf hra).mono ?_
    rintro e w' ⟨v', V', rfl, h2, h3, h4, h5, h6⟩
    exact hn v' V' w' h2 h3 h4 h5 h6
  cases hop : o.op with
  | call c =>
    rw [hop] at hr
    simp only [dop] at hr
    have hargs : RepL V (c.args.toList.map (aeval tm)) (c.args.toList.map a.eval) := repL_map hρ c.args.toList
    cases hc : callee E (aeval tm) c with
    | none =>
      rw [hc] at hr
      exact simple (by rw [hop]; exact hr)
    | some x =>
      obtain ⟨g, args⟩ := x
      rw [hc] at hr
      simp only at hr
      split at hr
      case isFalse => cases hr
      rename_i hp
      split at hr
      case h_2 => cases hr
      rename_i D hD
      unfold callee at hc
      split at hc
      · rename_i f hcal
        split at hc
        · rename_i g' first caps hfv
          simp only [Option.some.injEq, Prod.mk.injEq] at hc
          obtain ⟨rfl, rfl⟩ := hc
          have rf := hρ f
          rw [hfv] at rf
          obtain ⟨fs, cs, e1, r1, r2⟩ := rf
          refine fin g' _ (fs ++ c.args.map a.eval ++ cs) D hD hr ?_ ?_
          · simp only [Array.toList_append, Array.toList_map]
            exact RepL.append (RepL.append r1 hargs) r2
          · simp only [execOp, hop, resolve, hcal, e1, Deferred.ofValue, Sem.run_bind, Sem.run_pure, Result.andThen_ok, invoke, callFunc_run hp]
        · cases hc
      · rename_i recv name hcal
        split at hc
        · rename_i t l off hfv
          cases hm : E.meth t name with
          | none => rw [hm] at hc; cases hc
          | some g' =>
            rw [hm] at hc
            simp only [Option.map_some, Option.some.injEq, Prod.mk.injEq] at hc
            obtain ⟨rfl, rfl⟩ := hc
            have rf := hρ recv
            rw [hfv] at rf
            obtain ⟨x, e1, b, k, hl, e2⟩ := rf
            subst e2
            refine fin g' _ (#[.pointer (some ⟨b, off, none⟩)] ++ c.args.map a.eval) D hD hr ?_ ?_
            · simp only [Array.toList_append, Array.toList_map]
              exact ⟨_, _, rfl, ⟨b, k, hl, rfl⟩, hargs⟩
            · have hmo := E.methOk t name g' hm (.pointer (some ⟨b, off, none⟩)) w ⟨_, rfl⟩
              simp only [execOp, hop, resolve, hcal, Sem.run_bind, Sem.run_pure, Result.andThen_ok, invoke, e1, recv0, recv1, callMethod, run_program, hmo, callFunc_run hp]
        · cases hc
      · cases hc
  | load t x =>
    rw [hop] at hr
    simp only [dop] at hr
    split at hr
    · rename_i r1 hr1
      exact simple (by rw [hop, hr1]; exact hr)
    · split at hr
      · rename_i l off hla
        split at hr
        · rename_i v q hv
          simp only [Option.some.injEq] at hr
          subst hr
          have hq : onp q := ho
          have hx := hρ x
          rw [hla] at hx
          obtain ⟨b, k, hV, hx⟩ := hx
          obtain ⟨v', g8, g9⟩ := E.fldOk t l off h v q hv hq V hR w b k hi hV
          have hrun : (execOp a.eval o).run P w = .ok (.value v') w := by simp [execOp, hop, hx, g8]
          unfold Oper.wp
          rw [hrun]
          refine hn v' V w g9 V.le_refl (fun l h1 h2 => (h2 h1).elim) ?_ (Grows.refl w)
          simpa [ORes.apply, hupd] using hi
        · cases hr
      · cases hr
  | _ => exact simple (by rw [hop] at hr ⊢; exact hr)

def Closed (ops : List Oper) (D : Nat → Bool) : Prop := ∀ (j : Nat) (o : Oper), ops[j]? = some o → D j = true → ∀ e ∈ o.after.toList, Region.binds .any e = true → D e.on = true

theorem mask_bits {acc : List Nat} {o : Oper} {i : Nat} (h : (mask acc o).testBit i = true) : ∃ e ∈ o.after.toList, Region.binds .any e = true ∧ (i = e.on ∨ (acc.getD e.on 0).testBit i = true) := by
  unfold mask at h
  have key : ∀ (l : List Edge) (s : Nat), (l.foldl (fun s e => if Region.binds .any e then s ||| 2 ^ e.on ||| acc.getD e.on 0 else s) s).testBit i = true →
      s.testBit i = true ∨ ∃ e ∈ l, Region.binds .any e = true ∧ (i = e.on ∨ (acc.getD e.on 0).testBit i = true) := by
    intro l
    induction l with
    | nil => intro s hs; exact .inl hs
    | cons e l ih =>
      intro s hs
      simp only [List.foldl_cons] at hs
      rcases ih _ hs with h1 | ⟨e', h1, h2, h3⟩
      · split at h1
        · rename_i hb
          rw [Nat.testBit_or, Nat.testBit_or, Bool.or_eq_true, Bool.or_eq_true] at h1
          rcases h1 with (h1 | h1) | h1
          · exact .inl h1
          · rw [Nat.testBit_two_pow] at h1
            simp only [decide_eq_true_eq] at h1
            exact .inr ⟨e, by simp, hb, .inl h1.symm⟩
          · exact .inr ⟨e, by simp, hb, .inr h1⟩
        · exact .inl h1
      · exact .inr ⟨e', by simp [h1], h2, h3⟩
  rcases key _ _ h with h1 | h1
  · simp at h1
  · exact h1

theorem masks_closed {ops : List Oper} {D : Nat → Bool} (hc : Closed ops D) : ∀ (rest : List Oper) (acc : List Nat), (∀ k, rest[k]? = ops[acc.length + k]?) →
    (∀ j m, acc[j]? = some m → D j = true → ∀ i, m.testBit i = true → D i = true) →
    ∀ j m, (masks acc rest)[j]? = some m → D j = true → ∀ i, m.testBit i = true → D i = true := by
  intro rest
  induction rest with
  | nil => intro acc _ h; exact h
  | cons o rest ih =>
    intro acc ho h
    unfold masks
    apply ih
    · intro k
      have := ho (k + 1)
      simp only [List.getElem?_cons_succ] at this
      rw [this]
      congr 1; simp; omega
    · intro j m hj hD i hi
      rw [List.getElem?_append] at hj
      split at hj
      · exact h j m hj hD i hi
      · rename_i hlt
        have hj0 : j - acc.length = 0 := by
          cases hq : j - acc.length with
          | zero => rfl
          | succ n => rw [hq] at hj; simp at hj
        rw [hj0] at hj
        simp at hj; subst hj
        obtain ⟨e, he, hb, hor⟩ := mask_bits hi
        have hjo : ops[j]? = some o := by
          have := ho 0
          simp at this
          rw [show j = acc.length from by omega]; exact this.symm
        have hDe := hc j o hjo hD e he hb
        rcases hor with rfl | hor
        · exact hDe
        · cases hq : acc[e.on]? with
          | none => rw [List.getD_eq_getElem?_getD, hq] at hor; simp at hor
          | some m => rw [List.getD_eq_getElem?_getD, hq] at hor; exact h e.on m hq hDe i hor

theorem ready_mask {ops : List Oper} {D : Nat → Bool} (hc : Closed ops D) {k : Nat} {o : Oper} (hk : ops[k]? = some o) (hr : ∀ e ∈ o.after.toList, Region.binds .any e = true → D e.on = true) {i : Nat}
    (hi : ((masks [] ops).getD k 0).testBit i = true) : i = k ∨ D i = true := by
  have hc' : Closed ops (fun j => decide (j = k) || D j) := by
    intro j o' hj hD e he hb
    simp only [Bool.or_eq_true, decide_eq_true_eq] at hD ⊢
    right
    rcases hD with rfl | hD
    · rw [hk] at hj; cases hj; exact hr e he hb
    · exact hc j o' hj hD e he hb
  cases hm : (masks [] ops)[k]? with
  | none => rw [List.getD_eq_getElem?_getD, hm] at hi; simp at hi
  | some m =>
    rw [List.getD_eq_getElem?_getD, hm] at hi
    have := masks_closed hc' ops [] (by intro k; simp) (by intro j m h; simp at h) k m hm (by simp) i hi
    simpa using this

theorem done_mask {ops : List Oper} {D : Nat → Bool} (hc : Closed ops D) {k : Nat} (hk : D k = true) {i : Nat} (hi : ((masks [] ops).getD k 0).testBit i = true) : D i = true := by
  cases hm : (masks [] ops)[k]? with
  | none => rw [List.getD_eq_getElem?_getD, hm] at hi; simp at hi
  | some m =>
    rw [List.getD_eq_getElem?_getD, hm] at hi
    exact masks_closed hc ops [] (by intro k; simp) (by intro j m h; simp at h) k m hm hk i hi

end
end Go.Sh

namespace Go.Sh
open Go
variable [Con] {A : Type}
section
variable {P : Program} {E : Env A P}

theorem indep_spec {ops : Array Oper} {x y : Item A} (h : indep ops x y = true) :
    (∀ d, x.o.dst = some d → d ∉ y.o.looksAt ops ∧ y.o.dst ≠ some d) ∧ (∀ d, y.o.dst = some d → d ∉ x.o.looksAt ops ∧ x.o.dst ≠ some d) ∧ (∀ l ∈ y.foot, x.puts l = false) ∧ (∀ l ∈ x.foot, y.puts l = false) := by
  unfold indep at h
  simp only [Bool.and_eq_true, List.all_eq_true, Bool.not_eq_true'] at h
  obtain ⟨⟨⟨h1, h2⟩, h3⟩, h4⟩ := h
  refine ⟨?_, ?_, h3, h4⟩
  · intro d hd
    simp only [dstApart, hd, Bool.and_eq_true, Bool.not_eq_true', bne_iff_ne, ne_eq] at h1
    exact ⟨by have := h1.1; simpa using this, h1.2⟩
  · intro d hd
    simp only [dstApart, hd, Bool.and_eq_true, Bool.not_eq_true', bne_iff_ne, ne_eq] at h2
    exact ⟨by have := h2.1; simpa using this, h2.2⟩

theorem hres_get (foot : List Nat) : ∀ (h : Heap A) (i l : Nat), hget (hres foot i h) l = if foot.contains (i + l) then hget h l else none
  | [], i, l => by simp [hres, hget]
  | e :: h, i, 0 => by
    simp only [hres, hget, List.getD_cons_zero, Nat.add_zero]
    cases foot.contains i <;> rfl
  | e :: h, i, l + 1 => by
    have := hres_get foot h (i + 1) l
    simp only [hget] at this
    simp only [hres, hget, List.getD_cons_succ]
    rw [this, show i + 1 + l = i + (l + 1) from by omega]

theorem hres_length (foot : List Nat) : ∀ (h : Heap A) (i : Nat), (hres foot i h).length = h.length
  | [], _ => rfl
  | e :: h, i => by simp [hres, hres_length foot h]

structure Drawn (E : Env A P) (ops : Array Oper) (tm0 : List AVal) (h0 : Heap A) (its : List (Item A)) (tmN : List AVal) (hN : Heap A) : Prop where
  trace : Trace E ops tm0 h0 its tmN hN
  opers : its.map (·.o) = ops.toList.take its.length
  edges : edgesOk ops.toList
  wells : its.all wellItem = true
  pairs : PairsP ops (masks [] ops.toList) its

variable {ops : Array Oper} {tm0 : List AVal} {h0 : Heap A} {its : List (Item A)} {tmN : List AVal} {hN : Heap A}

theorem Drawn.oper (d : Drawn E ops tm0 h0 its tmN hN) {k : Nat} {it : Item A} (hk : its[k]? = some it) : ops.toList[k]? = some it.o := by
  have hlt : k < its.length := (List.getElem?_eq_some_iff.1 hk).1
  have h1 : (its.map (·.o))[k]? = some it.o := by rw [List.getElem?_map, hk]; rfl
  rw [d.opers, List.getElem?_take, if_pos hlt] at h1
  exact h1
theorem Drawn.item (d : Drawn E ops tm0 h0 its tmN hN) {k : Nat} {o : Oper} (hk : ops.toList[k]? = some o) (hkl : k < its.length) : ∃ it, its[k]? = some it ∧ it.o = o := by
  have h1 : (its.map (·.o))[k]? = some o := by rw [d.opers, List.getElem?_take, if_pos hkl]; exact hk
  rw [List.getElem?_map] at h1
  cases h : its[k]? with
  | none => rw [h] at h1; cases h1
  | some it => rw [h] at h1; cases h1; exact ⟨it, rfl, rfl⟩

theorem Drawn.pair (d : Drawn E ops tm0 h0 its tmN hN) {i j : Nat} {x y : Item A} (hi : its[i]? = some x) (hj : its[j]? = some y) (hij : i < j) :
    (((masks [] ops.toList).getD j 0).testBit i = true) ∨ indep ops x y = true := by
  exact d.pairs i j x y hi hj hij

theorem Drawn.well (d : Drawn E ops tm0 h0 its tmN hN) {k : Nat} {it : Item A} (hk : its[k]? = some it) : wellItem it = true := by
  have := List.all_eq_true.1 d.wells
  exact this it (List.mem_of_getElem? hk)

theorem Drawn.ordered (d : Drawn E ops tm0 h0 its tmN hN) {D : Nat → Bool} (hc : Closed ops.toList D) {k : Nat} {it : Item A} (hk : its[k]? = some it) (hD : D k = false)
    (hr : ∀ e ∈ it.o.after.toList, Region.binds .any e = true → D e.on = true) {i : Nat} {x : Item A} (hi : its[i]? = some x) (hik : i ≠ k)
    (hdep : indep ops x it = false ∨ indep ops it x = false) (hsym : indep ops x it = false → indep ops it x = false) (hsym2 : indep ops it x = false → indep ops x it = false) : D i = decide (i < k) := by
  rcases Nat.lt_or_gt_of_ne hik with hlt | hgt
  · rcases d.pair hi hk hlt with h | h
    · rcases ready_mask hc (d.oper hk) hr h with h | h
      · exact (hik h).elim
      · rw [h]; simp [hlt]
    · rcases hdep with e | e
      · rw [e] at h; cases h
      · rw [hsym2 e] at h; cases h
  · rcases d.pair hk hi hgt with h | h
    · have : D i = false := by
        cases e : D i with
        | false => rfl
        | true => rw [done_mask hc e h] at hD; cases hD
      rw [this]; simp; omega
    · rcases hdep with e | e
      · rw [hsym e] at h; cases h
      · rw [e] at h; cases h

theorem indep_symm {x y : Item A} : indep ops x y = indep ops y x := by
  unfold indep
  cases dstApart ops x.o y.o <;> cases dstApart ops y.o x.o <;> cases y.foot.all (fun l => !x.puts l) <;> cases x.foot.all (fun l => !y.puts l) <;> rfl

theorem Drawn.order (d : Drawn E ops tm0 h0 its tmN hN) {D : Nat → Bool} (hc : Closed ops.toList D) {k : Nat} {it : Item A} (hk : its[k]? = some it) (hD : D k = false)
    (hr : ∀ e ∈ it.o.after.toList, Region.binds .any e = true → D e.on = true) {i : Nat} {x : Item A} (hi : its[i]? = some x) (hik : i ≠ k) (hdep : indep ops x it = false) : D i = decide (i < k) :=
  d.ordered hc hk hD hr hi hik (.inl hdep) (fun h => by rw [indep_symm]; exact h) (fun h => by rw [indep_symm]; exact h)

theorem dep_read {x y : Item A} {t : Nat} (hx : x.o.dst = some t) (hy : t ∈ y.o.looksAt ops) : indep ops x y = false := by
  cases h : indep ops x y with
  | false => rfl
  | true => exact ((indep_spec h).1 t hx |>.1 hy).elim
theorem dep_dst {x y : Item A} {t : Nat} (hx : x.o.dst = some t) (hy : y.o.dst = some t) : indep ops x y = false := by
  cases h : indep ops x y with
  | false => rfl
  | true => exact ((indep_spec h).1 t hx |>.2 hy).elim
theorem dep_foot {x y : Item A} {l : Nat} (hx : x.puts l = true) (hy : l ∈ y.foot) : indep ops x y = false := by
  cases h : indep ops x y with
  | false => rfl
  | true => have := (indep_spec h).2.2.1 l hy; rw [hx] at this; cases this

def Stand (E : Env A P) (tm0 : List AVal) (h0 : Heap A) (its : List (Item A)) (V0 : Val) (hR : PHeap) (w0 : World) (D : Nat → Bool) (a : Act) (w : World) : Prop :=
  ∃ V, V0.le V ∧ (∀ l, V l ≠ none → V0 l ≠ none ∨ ∃ i it, its[i]? = some it ∧ D i = true ∧ it.n ≤ l ∧ l < it.n + it.new.length) ∧
    RepL V (tmF D 0 its tm0) a.tmps.toList ∧ Inv E.I V (hF D 0 its (toF h0)) hR w ∧ Grows w0 w ∧ a.defers = []

theorem mem_looks {o : Oper} {t : Nat} (h : Operand.tmp t ∈ o.op.operands) : t ∈ o.looksAt ops := by
  unfold Oper.looksAt
  refine List.mem_append_left _ (List.mem_filterMap.2 ⟨.tmp t, by simpa using h, rfl⟩)
theorem guard_looks {o : Oper} {j d : Nat} {want : Bool} (h : o.guard = some (j, want)) (hd : (ops[j]?).bind (·.dst) = some d) : d ∈ o.looksAt ops := by
  unfold Oper.looksAt
  refine List.mem_append_right _ ?_
  rw [h]
  simp only
  rw [hd]; simp

theorem Drawn.step (d : Drawn E ops tm0 h0 its tmN hN) {V0 : Val} (hV0 : Fresh V0 h0.length) {hR : PHeap} {w0 : World} {D : Nat → Bool} (hc : Closed ops.toList D) {k : Nat} {o : Oper} (hko : ops.toList[k]? = some o) (hkl' : k < its.length) (hD : D k = false)
    (hr : ∀ e ∈ o.after.toList, Region.binds .any e = true → D e.on = true) {a : Act} {w : World} (hs : Stand E tm0 h0 its V0 hR w0 D a w) {Q : Exit → Act → World → Prop} {K : Act → World → Prop}
    (hK : ∀ a' w', Stand E tm0 h0 its V0 hR w0 (fun i => decide (i = k) || D i) a' w' → K a' w') : wpOp P ops Q k K a w := by
  obtain ⟨it, hk, rfl⟩ := d.item hko hkl'
  obtain ⟨V, hVle, hdom, htm, hinv, hg, hdf⟩ := hs
  obtain ⟨hk', hok, hkF, hkl, hkn⟩ := d.trace.at d.wells 0 k it hk
  simp only [Nat.zero_add] at hok hkF
  -- what it looks at is as the order of the text has it
  have look : ∀ t ∈ it.o.looksAt ops, (tmF D 0 its tm0)[t]? = (tmF (fun i => decide (i < k)) 0 its tm0)[t]? := by
    intro t ht
    refine tmF_agree its 0 tm0 tm0 rfl rfl ?_
    intro i x hi hx
    rw [Nat.zero_add]
    by_cases hik : i = k
    · subst hik; rw [hD]; simp
    · exact d.order hc hk hD hr hi hik (dep_read hx ht)
  have seen : ∀ l ∈ it.foot, hF D 0 its (toF h0) l = toF hk' l := by
    intro l hl
    rw [hkF]
    refine hF_agree its 0 _ _ rfl ?_
    intro i x hi hx
    rw [Nat.zero_add]
    by_cases hik : i = k
    · subst hik; rw [hD]; simp
    · exact d.order hc hk hD hr hi hik (dep_foot hx hl)
  have evals : ∀ x ∈ it.o.op.operands, aeval (tmF D 0 its tm0) x = aeval (tmF (fun i => decide (i < k)) 0 its tm0) x := by
    intro x hx
    cases x with
    | tmp t =>
      show (tmF D 0 its tm0).getD t _ = (tmF _ 0 its tm0).getD t _
      rw [List.getD_eq_getElem?_getD, List.getD_eq_getElem?_getD, look t (mem_looks hx)]
    | _ => rfl
  have hwell := d.well hk
  -- behind it
  have tmNew : tmF (fun i => decide (i = k) || D i) 0 its tm0 = aput (tmF D 0 its tm0) it.o.dst it.v := by
    apply List.ext_getElem?
    intro t
    rw [aput_get, tmF_length]
    by_cases hd : it.o.dst = some t
    · have e1 : (tmF (fun i => decide (i = k) || D i) 0 its tm0)[t]? = (tmF (fun i => decide (i < k + 1)) 0 its tm0)[t]? := by
        refine tmF_agree its 0 tm0 tm0 rfl rfl ?_
        intro i x hi hx
        rw [Nat.zero_add]
        by_cases hik : i = k
        · subst hik; simp
        · have := d.order hc hk hD hr hi hik (dep_dst hx hd)
          rw [this]
          have : decide (i = k) = false := by simpa using hik
          rw [this, Bool.false_or]
          congr 1
          apply propext; omega
      have e2 : (tmF (fun i => decide (i < k + 1)) 0 its tm0)[t]? = if it.o.dst = some t ∧ t < tm0.length then some it.v else none := by
        have gen : ∀ (its : List (Item A)) (base k : Nat) (tm : List AVal), its[k]? = some it → (tmF (fun i => decide (i < base + k + 1)) base its tm)[t]? = if it.o.dst = some t ∧ t < tm.length then some it.v else none := by
          intro its
          induction its with
          | nil => intro base k tm h; simp at h
          | cons x its ih =>
            intro base k tm h
            unfold tmF
            rw [if_pos (by simp; omega)]
            cases k with
            | zero =>
              simp at h; subst h
              rw [tmF_none _ _ _ (by intro j hj; simp; omega), aput_get]
              by_cases hlt : t < tm.length
              · simp [hd, hlt]
              · simp [hlt]
            | succ k =>
              simp at h
              have := ih (base + 1) k (aput tm x.o.dst x.v) h
              rw [aput_length] at this
              rw [← this]
              congr 3
              funext i; congr 1; apply propext; omega
        have := gen its 0 k tm0 hk
        rw [Nat.zero_add] at this; exact this
      rw [e1, e2]
      by_cases hlt : t < tm0.length
      · simp [hd, hlt]
      · rw [if_neg (by simp [hlt]), if_neg (by simp [hlt]), List.getElem?_eq_none (by rw [tmF_length]; omega)]
    · rw [if_neg (by simp [hd])]
      refine tmF_agree its 0 tm0 tm0 rfl rfl ?_
      intro i x hi hx
      rw [Nat.zero_add]
      by_cases hik : i = k
      · subst hik; rw [hk] at hi; cases hi; exact (hd hx).elim
      · simp [hik]
  -- what it puts is put by it last
  have putsLast : ∀ l, it.puts l = true → ∀ i x, its[i]? = some x → i ≠ k → x.puts l = true → D i = true → i < k ∧ l ∈ it.foot := by
    intro l hl i x hi hik hx hDi
    have upd_foot : ∀ (it : Item A), wellItem it = true → ∀ l, it.upd.any (fun x => x.1 == l) = true → l ∈ it.foot ∧ l < it.n := by
      intro it hw l hl
      obtain ⟨u, hu, he⟩ := List.any_eq_true.1 hl
      have := List.all_eq_true.1 hw u hu
      simp only [Bool.and_eq_true, decide_eq_true_eq] at this
      have e : u.1 = l := by simpa using he
      rw [e] at this
      exact ⟨by simpa using this.1, this.2⟩
    simp only [Item.puts, Bool.or_eq_true, Bool.and_eq_true, decide_eq_true_eq] at hl hx
    have hpk : it.puts l = true := by simp only [Item.puts, Bool.or_eq_true, Bool.and_eq_true, decide_eq_true_eq]; exact hl
    have hpi : x.puts l = true := by simp only [Item.puts, Bool.or_eq_true, Bool.and_eq_true, decide_eq_true_eq]; exact hx
    have byOrder : indep ops x it = false → i < k := by
      intro h
      have := d.order hc hk hD hr hi hik h
      rw [hDi] at this
      simpa using this.symm
    rcases hl with hl | hl
    · obtain ⟨f1, f2⟩ := upd_foot it hwell l hl
      exact ⟨byOrder (dep_foot hpi f1), f1⟩
    · rcases hx with hx | hx
      · obtain ⟨f1, f2⟩ := upd_foot x (d.well hi) l hx
        have hlt := byOrder (by rw [indep_symm]; exact dep_foot hpk f1)
        have := d.trace.news i k x it hi hk hlt
        omega
      · rcases Nat.lt_or_gt_of_ne hik with hlt | hgt
        · have := d.trace.news i k x it hi hk hlt; omega
        · have := d.trace.news k i it x hk hi hgt; omega
  have hNew : hF (fun i => decide (i = k) || D i) 0 its (toF h0) = it.putF (hF D 0 its (toF h0)) := by
    funext l
    cases hp : it.puts l with
    | false =>
      rw [putF_other it _ l hp]
      refine hF_agree its 0 _ _ rfl ?_
      intro i x hi hx
      rw [Nat.zero_add]
      by_cases hik : i = k
      · subst hik; rw [hk] at hi; cases hi; rw [hp] at hx; cases hx
      · simp [hik]
    | true =>
      have gen : ∀ (js : List (Item A)) (base k : Nat) (D' : Nat → Bool) (h g : FHeap A), js[k]? = some it → D' (base + k) = true → (∀ i x, js[i]? = some x → x.puts l = true → D' (base + i) = true → i ≤ k) → hF D' base js h l = it.putF g l := by
        intro js
        induction js with
        | nil => intro base k D' h g hj; simp at hj
        | cons x js ih =>
          intro base k D' h g hj hDk hle
          unfold hF
          cases k with
          | zero =>
            simp at hj; subst hj
            rw [Nat.add_zero] at hDk
            rw [if_pos hDk]
            have e1 : hF D' (base + 1) js (x.putF h) l = hF (fun _ => false) (base + 1) js (x.putF h) l := by
              refine hF_agree js (base + 1) _ _ rfl ?_
              intro i y hi hy
              cases e : D' (base + 1 + i) with
              | false => rfl
              | true =>
                have := hle (i + 1) y (by simpa using hi) hy (by rw [show base + (i + 1) = base + 1 + i from by omega]; exact e)
                omega
            rw [e1, hF_none _ _ _ (fun _ _ => rfl)]
            exact putF_same x h g l (.inl hp)
          | succ k =>
            simp at hj
            refine ih (base + 1) k D' _ g hj (by rw [show base + 1 + k = base + (k + 1) from by omega]; exact hDk) ?_
            intro i y hi hy he
            have := hle (i + 1) y (by simpa using hi) hy (by rw [show base + (i + 1) = base + 1 + i from by omega]; exact he)
            omega
      refine gen its 0 k _ _ _ hk (by simp) ?_
      intro i x hi hx he
      rw [Nat.zero_add] at he
      by_cases hik : i = k
      · omega
      · simp only [hik, decide_false, Bool.false_or] at he
        have := (putsLast l hp i x hi hik hx he).1
        omega
  have hko' : ops[k]? = some it.o := by rw [← Array.getElem?_toList]; exact hko
  unfold wpOp
  rw [hko']
  simp only
  rcases hok.2 with ⟨hran, ⟨r, hr1, hr2, hr3, hr4, hr5⟩, hgd⟩ | ⟨hran, hv, hu0, hn0, j, want, dd, hgd, hjd, hval⟩
  · -- it is done
    have hw : Region.wanted it.o (yielded ops a.tmps) = true := by
      cases hgu : it.o.guard with
      | none => simp [Region.wanted, hgu]
      | some g =>
        obtain ⟨j, want⟩ := g
        obtain ⟨dd, hjd, hv⟩ := hgd j want hgu
        rw [← look dd (guard_looks hgu hjd)] at hv
        obtain ⟨y, hy, ry⟩ := RepL.get htm dd _ hv
        rw [Array.getElem?_toList] at hy
        have ry' : y = .bool want := ry
        subst ry'
        simp [Region.wanted, hgu, yielded_bool hjd hy]
    rw [if_pos hw]
    left
    obtain ⟨hR', hin, hcont⟩ := hinv.split (fun l => it.foot.contains l)
    have hheap : (fun l => if it.foot.contains l then hF D 0 its (toF h0) l else none) = toF (hres it.foot 0 hk') := by
      funext l
      show _ = hget (hres it.foot 0 hk') l
      rw [hres_get, Nat.zero_add]
      by_cases hl : it.foot.contains l = true
      · rw [if_pos hl, if_pos hl]; exact seen l (by simpa using hl)
      · rw [if_neg hl, if_neg hl]
    rw [hheap] at hin
    have hlen : (hres it.foot 0 hk').length = it.n := by rw [hres_length, hok.1]
    have hfr : FreshOn V (hres it.foot 0 hk').length r.new.length := by
      intro l h1 h2
      rw [hlen] at h1 h2
      cases e : V l with
      | none => rfl
      | some x =>
        rcases hdom l (by rw [e]; simp) with h | ⟨i, y, hi, hDi, h3, h4⟩
        · have : it.n = hk'.length := hok.1
          exact (h (hV0 l (by omega))).elim
        · by_cases hik : i = k
          · subst hik; rw [hD] at hDi; cases hDi
          · rw [hr5] at h2
            rcases Nat.lt_or_gt_of_ne hik with hlt | hgt
            · have := d.trace.news i k y it hi hk hlt; omega
            · have := d.trace.news k i it y hk hi hgt; omega
    have hr1' : dop E (aeval (tmF D 0 its tm0)) it.o.op (hres it.foot 0 hk') = some r := by rw [dop_congr _ _ evals]; exact hr1
    refine dop_sound hr1' hr2 hin hfr htm ?_
    intro v' V' w' k1 k2 k3 k4 k5
    refine hK _ _ ⟨V', Val.le_trans hVle k2, ?_, ?_, ?_, hg.trans k5, by rw [put_defers]; exact hdf⟩
    · intro l hl
      by_cases hVl : V l = none
      · have := k3 l hVl hl
        rw [hlen, hr5] at this
        exact .inr ⟨k, it, hk, by simp, this.1, this.2⟩
      · rcases hdom l hVl with h | ⟨i, y, hi, hDi, h3, h4⟩
        · exact .inl h
        · exact .inr ⟨i, y, hi, by simp [hDi], h3, h4⟩
    · rw [tmNew]
      exact aput_rep (RepL.mono k2 _ _ htm) (by rw [← hr3]; exact k1)
    · have hz : ∀ l, it.foot.contains l = false → hF D 0 its (toF h0) l ≠ none → toF (r.apply (hres it.foot 0 hk')) l = none := by
        intro l hl hne
        have hnotfoot : l ∉ it.foot := by simpa using hl
        have happ : r.apply (hres it.foot 0 hk') = it.applyH (hres it.foot 0 hk') := by unfold ORes.apply Item.applyH; rw [hr4, hr5]
        rw [happ, applyH_F hlen.symm hwell]
        cases hp : it.puts l with
        | false =>
          rw [putF_other it _ l hp]
          show hget (hres it.foot 0 hk') l = none
          rw [hres_get, Nat.zero_add, if_neg (by simpa using hl)]
        | true =>
          -- nobody has it yet
          exfalso
          have hall : hF D 0 its (toF h0) l = hF (fun _ => false) 0 its (toF h0) l := by
            refine hF_agree its 0 _ _ rfl ?_
            intro i x hi hx
            rw [Nat.zero_add]
            by_cases hik : i = k
            · subst hik; exact hD
            · cases e : D i with
              | false => rfl
              | true => exact (hnotfoot (putsLast l hp i x hi hik hx e).2).elim
          rw [hF_none _ _ _ (fun _ _ => rfl)] at hall
          rw [hall] at hne
          have hl0 : l < h0.length := by
            cases Nat.lt_or_ge l h0.length with
            | inl h => exact h
            | inr h => exact (hne (hget_ge h)).elim
          have hnk : it.n = hk'.length := hok.1
          simp only [Item.puts, Bool.or_eq_true, Bool.and_eq_true, decide_eq_true_eq] at hp
          rcases hp with hp | hp
          · obtain ⟨u, hu, he⟩ := List.any_eq_true.1 hp
            have := List.all_eq_true.1 hwell u hu
            simp only [Bool.and_eq_true, decide_eq_true_eq] at this
            have e : u.1 = l := by simpa using he
            rw [e] at this
            exact hnotfoot (by simpa using this.1)
          · omega
      have hfin := hcont V' _ w' k2 k4 hz
      rw [hNew]
      have heq : (fun l => if it.foot.contains l = false ∧ hF D 0 its (toF h0) l ≠ none then hF D 0 its (toF h0) l else toF (r.apply (hres it.foot 0 hk')) l) = it.putF (hF D 0 its (toF h0)) := by
        funext l
        have happ : r.apply (hres it.foot 0 hk') = it.applyH (hres it.foot 0 hk') := by unfold ORes.apply Item.applyH; rw [hr4, hr5]
        by_cases hcnd : it.foot.contains l = false ∧ hF D 0 its (toF h0) l ≠ none
        · rw [if_pos hcnd]
          cases hp : it.puts l with
          | false => rw [putF_other it _ l hp]
          | true =>
            exfalso
            have := hz l hcnd.1 hcnd.2
            rw [happ, applyH_F hlen.symm hwell] at this
            simp only [Item.puts, Bool.or_eq_true, Bool.and_eq_true, decide_eq_true_eq] at hp
            have hnotfoot : l ∉ it.foot := by simpa using hcnd.1
            rcases hp with hp | hp
            · obtain ⟨u, hu, he⟩ := List.any_eq_true.1 hp
              have := List.all_eq_true.1 hwell u hu
              simp only [Bool.and_eq_true, decide_eq_true_eq] at this
              have e : u.1 = l := by simpa using he
              rw [e] at this
              exact hnotfoot (by simpa using this.1)
            · unfold Item.putF at this
              rw [if_pos hp, List.getElem?_eq_getElem (by omega)] at this
              cases this
        · rw [if_neg hcnd, happ, applyH_F hlen.symm hwell]
          refine putF_same it _ _ l ?_
          cases hp : it.puts l with
          | true => exact .inl rfl
          | false =>
            right
            show hget (hres it.foot 0 hk') l = _
            rw [hres_get, Nat.zero_add]
            by_cases hl : it.foot.contains l = true
            · rw [if_pos hl]; exact (seen l (by simpa using hl)).symm
            · rw [if_neg hl]
              have hl' : it.foot.contains l = false := by simpa using hl
              cases e : hF D 0 its (toF h0) l with
              | none => rfl
              | some x => exact (hcnd ⟨hl', by rw [e]; simp⟩).elim
      rw [← heq]; exact hfin
  · -- it is passed over
    have hw : Region.wanted it.o (yielded ops a.tmps) = false := by
      have hlk := look dd (guard_looks hgd hjd)
      rcases hval with hval | hval
      · rw [← hlk] at hval
        obtain ⟨y, hy, ry⟩ := RepL.get htm dd _ hval
        rw [Array.getElem?_toList] at hy
        have ry' : y = .bool (!want) := ry
        subst ry'
        have : Region.wanted it.o (yielded ops a.tmps) = ((!want) == want) := by simp [Region.wanted, hgd, yielded_bool hjd hy]
        rw [this]; cases want <;> rfl
      · have hval' : isTuple ((tmF D 0 its tm0).getD dd (.raw undef)) = true := by
          rw [List.getD_eq_getElem?_getD, hlk, ← List.getD_eq_getElem?_getD]; exact hval
        have hyl : yielded ops a.tmps j = none := by
          refine yielded_tuple hjd ?_
          cases e : a.tmps[dd]? with
          | none => exact .inl rfl
          | some x =>
            right
            have hlt : dd < (tmF D 0 its tm0).length := by
              have h1 := RepL.length htm
              rw [Array.length_toList] at h1
              cases Nat.lt_or_ge dd a.tmps.size with
              | inl g => exact Nat.lt_of_lt_of_eq g h1
              | inr g => rw [Array.getElem?_eq_none g] at e; cases e
            obtain ⟨y, hy, ry⟩ := RepL.get htm dd _ (List.getElem?_eq_getElem hlt)
            rw [Array.getElem?_toList, e] at hy
            cases hy
            have e2 : (tmF D 0 its tm0).getD dd (.raw undef) = (tmF D 0 its tm0)[dd] := by rw [List.getD_eq_getElem?_getD, List.getElem?_eq_getElem hlt]; rfl
            rw [e2] at hval'
            unfold isTuple at hval'
            split at hval'
            · rename_i vs e3
              rw [e3] at ry
              have : x = .tuple vs := ry
              exact ⟨vs, by rw [this]⟩
            · cases hval'
        simp [Region.wanted, hgd, hyl]
    rw [if_neg (by rw [hw]; simp)]
    refine hK _ _ ⟨V, hVle, ?_, ?_, ?_, hg, by rw [put_defers]; exact hdf⟩
    · intro l hl
      rcases hdom l hl with h | ⟨i, y, hi, hDi, h3, h4⟩
      · exact .inl h
      · exact .inr ⟨i, y, hi, by simp [hDi], h3, h4⟩
    · rw [tmNew, hv]; exact aput_rep htm rfl
    · rw [hNew]
      have : it.putF (hF D 0 its (toF h0)) = hF D 0 its (toF h0) := by
        funext l
        refine putF_other it _ l ?_
        simp [Item.puts, hu0, hn0]
      rw [this]; exact hinv

theorem filter_le {p q : Nat → Bool} (h : ∀ i, q i = true → p i = true) : ∀ l : List Nat, (l.filter q).length ≤ (l.filter p).length
  | [] => Nat.le_refl _
  | x :: l => by
    have ih := filter_le h l
    rw [List.filter_cons, List.filter_cons]
    cases hq : q x with
    | true => rw [h x hq]; simp only [if_true, List.length_cons]; omega
    | false =>
      cases hp : p x with
      | true => simp only [Bool.false_eq_true, if_false, if_true, List.length_cons]; omega
      | false => simpa using ih
theorem filter_lt {p q : Nat → Bool} (h : ∀ i, q i = true → p i = true) {k : Nat} (hp : p k = true) (hq : q k = false) : ∀ l : List Nat, k ∈ l → (l.filter q).length < (l.filter p).length
  | [], hk => by cases hk
  | x :: l, hk => by
    have le := filter_le h l
    rw [List.filter_cons, List.filter_cons]
    by_cases hx : x = k
    · subst hx
      rw [hp, hq]
      simp only [Bool.false_eq_true, if_false, if_true, List.length_cons]; omega
    · have hm : k ∈ l := by
        rcases List.mem_cons.1 hk with h | h
        · exact (hx h.symm).elim
        · exact h
      have ih := filter_lt h hp hq l hm
      cases hqx : q x with
      | true => rw [h x hqx]; simp only [if_true, List.length_cons]; omega
      | false =>
        cases hpx : p x with
        | true => simp only [Bool.false_eq_true, if_false, if_true, List.length_cons]; omega
        | false => simpa using ih

theorem Drawn.any (d : Drawn E ops tm0 h0 its tmN hN) {V0 : Val} (hV0 : Fresh V0 h0.length) {hR : PHeap} {w0 : World} {Q : Exit → Act → World → Prop} (hle : its.length ≤ ops.size)
    (tot : ∀ k, its.length ≤ k → k < ops.size → ∀ i, i < k → ((masks [] ops.toList).getD k 0).testBit i = true)
    (hQ : ∀ (fuel : Nat) (listed : Array Bool) (a : Act) (w : World), listed.size = ops.size → (∀ i, listed.getD i false = decide (i < its.length)) → ops.size ≤ fuel + its.length → Stand E tm0 h0 its V0 hR w0 (fun i => decide (i < its.length)) a w → wpAny P .any ops Q fuel listed a w) :
    ∀ (fuel : Nat) (listed : Array Bool) (a : Act) (w : World), listed.size = ops.size →
      ((List.range its.length).filter (fun i => !listed.getD i false)).length + (ops.size - its.length) ≤ fuel → Closed ops.toList (fun i => listed.getD i false) → (∀ i, its.length ≤ i → listed.getD i false = false) → Stand E tm0 h0 its V0 hR w0 (fun i => listed.getD i false) a w → wpAny P .any ops Q fuel listed a w := by
  -- all ahead have been done
  have full : ∀ (fuel : Nat) (listed : Array Bool) (a : Act) (w : World), listed.size = ops.size → (∀ i, i < its.length → listed.getD i false = true) → ops.size ≤ fuel + its.length → (∀ i, its.length ≤ i → listed.getD i false = false) → Stand E tm0 h0 its V0 hR w0 (fun i => listed.getD i false) a w → wpAny P .any ops Q fuel listed a w := by
    intro fuel listed a w hls hall hfu hno hs
    have hdec : ∀ i, listed.getD i false = decide (i < its.length) := by
      intro i
      cases Nat.lt_or_ge i its.length with
      | inl g => rw [hall i g]; simp [g]
      | inr g => rw [hno i g]; simp; omega
    refine hQ fuel listed a w hls hdec hfu ?_
    have : (fun i => listed.getD i false) = fun i => decide (i < its.length) := funext hdec
    rw [this] at hs; exact hs
  intro fuel
  induction fuel with
  | zero =>
    intro listed a w hls hf hc hno hs
    refine full 0 listed a w hls ?_ (by omega) hno hs
    intro i hi
    cases e : listed.getD i false with
    | true => rfl
    | false =>
      have : i ∈ (List.range its.length).filter (fun i => !listed.getD i false) := by
        rw [List.mem_filter]; exact ⟨by simpa using hi, by rw [e]; rfl⟩
      have hp := List.length_pos_of_mem this
      omega
  | succ fuel ih =>
    intro listed a w hls hf hc hno hs
    by_cases hall : ∀ i, i < its.length → listed.getD i false = true
    · refine full (fuel + 1) listed a w hls hall ?_ hno hs
      omega
    have ⟨i0, hi0, hd0⟩ : ∃ i0, i0 < its.length ∧ listed.getD i0 false = false := by
      refine Classical.byContradiction fun hne => hall fun i hi => ?_
      cases e : listed.getD i false with
      | true => rfl
      | false => exact (hne ⟨i, hi, e⟩).elim
    refine ⟨fun hrd => ?_, ?_⟩
    · exfalso
      have hall2 : ∀ i, i < ops.size → listed.getD i false = true := by
        intro i
        induction i using Nat.strongRecOn with
        | _ i ih2 =>
          intro hi
          cases e : listed.getD i false with
          | true => rfl
          | false =>
            exfalso
            have hmem : i ∈ Region.ready .any ops listed := by
              unfold Region.ready
              rw [List.mem_filter]
              refine ⟨by simpa using hi, ?_⟩
              have e1 : listed.getD i true = false := by
                rw [Array.getD_eq_getD_getElem?] at e ⊢
                rw [Array.getElem?_eq_getElem (by omega)] at e ⊢
                exact e
              rw [e1, Array.getElem?_eq_getElem hi]
              simp only [Bool.not_false, Option.map_some, Option.getD_some, Bool.true_and]
              rw [Array.all_eq_true_iff_forall_mem]
              intro x hx
              have hed := d.edges
              have h1 := hed i ops[i] (by rw [Array.getElem?_toList, Array.getElem?_eq_getElem hi])
              unfold edgesAt at h1
              rw [List.all_eq_true] at h1
              have h2 := h1 x (by simpa using hx)
              simp only [Bool.or_eq_true, Bool.not_eq_true'] at h2 ⊢
              rcases h2 with h2 | h2
              · exact .inl h2
              · have h2' : x.on < i := Nat.le_of_ble_eq_true h2
                exact .inr (ih2 x.on h2' (by omega))
            rw [hrd] at hmem; cases hmem
      rw [hall2 i0 (by omega)] at hd0; cases hd0
    intro k hk
    unfold Region.ready at hk
    rw [List.mem_filter] at hk
    obtain ⟨h1, h2⟩ := hk
    have hk' : k < ops.size := by simpa using h1
    simp only [Bool.and_eq_true, Bool.not_eq_true'] at h2
    have hDk : listed.getD k false = false := by
      have := h2.1
      rw [Array.getD_eq_getD_getElem?] at this ⊢
      rw [Array.getElem?_eq_getElem (by omega)] at this ⊢
      exact this
    have hko : ops.toList[k]? = some ops[k] := by rw [Array.getElem?_toList, Array.getElem?_eq_getElem hk']
    have hr : ∀ e ∈ ops[k].after.toList, Region.binds .any e = true → listed.getD e.on false = true := by
      intro e he hb
      have h3 := h2.2
      rw [Array.getElem?_eq_getElem hk'] at h3
      simp only [Option.map_some, Option.getD_some] at h3
      rw [Array.all_eq_true_iff_forall_mem] at h3
      have := h3 e (by simpa using he)
      simpa [hb] using this
    have hkl : k < its.length := by
      cases Nat.lt_or_ge k its.length with
      | inl g => exact g
      | inr g =>
        exfalso
        rcases ready_mask hc hko hr (tot k g hk' i0 (by omega)) with e | e
        · omega
        · rw [hd0] at e; cases e
    have hset : ∀ i, (listed.setIfInBounds k true).getD i false = (decide (i = k) || listed.getD i false) := by
      intro i
      rw [Array.getD_eq_getD_getElem?, Array.getD_eq_getD_getElem?, Array.getElem?_setIfInBounds]
      by_cases hik : k = i
      · subst hik; simp [hls, hk']
      · simp [hik, Ne.symm hik]
    have hset' : (fun i => (listed.setIfInBounds k true).getD i false) = (fun i => decide (i = k) || listed.getD i false) := funext hset
    refine d.step hV0 hc hko hkl hDk hr hs ?_
    intro a' w' hs'
    refine ih _ a' w' (by simp [hls]) ?_ ?_ ?_ (by rw [hset']; exact hs')
    · have hlt : ((List.range its.length).filter (fun i => !(listed.setIfInBounds k true).getD i false)).length < ((List.range its.length).filter (fun i => !listed.getD i false)).length := by
        refine filter_lt ?_ (k := k) ?_ ?_ _ (by simpa using hkl)
        · intro i hi
          rw [hset i] at hi
          cases e : listed.getD i false with
          | false => rfl
          | true => rw [e] at hi; simp at hi
        · simp only [hDk]; rfl
        · simp only [hset k]; simp
      omega
    · rw [hset']
      intro j o hj hD e he hb
      simp only [Bool.or_eq_true, decide_eq_true_eq] at hD ⊢
      right
      rcases hD with rfl | hD
      · rw [hko] at hj; cases hj; exact hr e he hb
      · exact hc j o hj hD e he hb
    · intro i hi
      rw [hset i, hno i hi]
      have : i ≠ k := by omega
      simp [this]

theorem any_of_list {Q : Exit → Act → World → Prop} {j0 : Nat} (hed : edgesOk ops.toList) (tot : ∀ k, j0 ≤ k → k < ops.size → ∀ i, i < k → ((masks [] ops.toList).getD k 0).testBit i = true) :
    ∀ (rest : List Oper) (k fuel : Nat) (listed : Array Bool) (a : Act) (w : World), ops.toList.drop k = rest → j0 ≤ k → listed.size = ops.size → (∀ i, listed.getD i false = decide (i < k)) → rest.length ≤ fuel → wpList P ops Q rest a w → wpAny P .any ops Q fuel listed a w := by
  intro rest
  induction rest with
  | nil =>
    intro k fuel listed a w hdr hjk hls hl hfu hw
    have hk : ops.size ≤ k := by
      have := congrArg List.length hdr
      simp at this; omega
    have hnr : Region.ready .any ops listed = [] := by
      rw [List.eq_nil_iff_forall_not_mem]
      intro i hi
      unfold Region.ready at hi
      rw [List.mem_filter] at hi
      obtain ⟨h1, h2⟩ := hi
      have hi' : i < ops.size := by simpa using h1
      simp only [Bool.and_eq_true, Bool.not_eq_true'] at h2
      have := h2.1
      have h3 := hl i
      rw [Array.getD_eq_getD_getElem?] at this h3
      rw [Array.getElem?_eq_getElem (by omega)] at this h3
      simp only [Option.getD_some] at this h3
      rw [this] at h3
      simp at h3; omega
    have hw' : Q .normal a w := hw
    cases fuel with
    | zero => exact ⟨hnr, hw'⟩
    | succ fuel => exact ⟨fun _ => hw', fun i hi => by rw [hnr] at hi; cases hi⟩
  | cons o rest ih =>
    intro k fuel listed a w hdr hjk hls hl hfu hw
    cases fuel with
    | zero => simp at hfu
    | succ fuel =>
    have hk : k < ops.size := by
      have := congrArg List.length hdr
      simp at this; omega
    have hko : ops.toList[k]? = some o := by
      have := congrArg (fun l => l[0]?) hdr
      simp only [List.getElem?_drop, Nat.add_zero, List.getElem?_cons_zero] at this
      exact this
    have hdr2 : ops.toList.drop (k + 1) = rest := by
      have := congrArg (List.drop 1) hdr
      rw [List.drop_drop] at this
      simpa using this
    have hcl : Closed ops.toList (fun i => listed.getD i false) := by
      intro j o' hj hD e he hb
      simp only [hl, decide_eq_true_eq] at hD ⊢
      have h1 := hed j o' hj
      unfold edgesAt at h1
      rw [List.all_eq_true] at h1
      have h2 := h1 e he
      rw [hb] at h2
      have h2' : e.on < j := by simpa using h2
      omega
    refine ⟨fun hrd => ?_, ?_⟩
    · exfalso
      have hmem : k ∈ Region.ready .any ops listed := by
        unfold Region.ready
        rw [List.mem_filter]
        refine ⟨by simpa using hk, ?_⟩
        have e1 : listed.getD k true = false := by
          have h3 := hl k
          rw [Array.getD_eq_getD_getElem?] at h3 ⊢
          rw [Array.getElem?_eq_getElem (by omega)] at h3 ⊢
          simp only [Option.getD_some] at h3 ⊢
          rw [h3]; simp
        rw [← Array.getElem?_toList, hko, e1]
        simp only [Bool.not_false, Option.map_some, Option.getD_some, Bool.true_and]
        rw [Array.all_eq_true_iff_forall_mem]
        intro x hx
        have h1 := hed k o hko
        unfold edgesAt at h1
        rw [List.all_eq_true] at h1
        have h2 := h1 x (by simpa using hx)
        simp only [Bool.or_eq_true, Bool.not_eq_true'] at h2 ⊢
        rcases h2 with h2 | h2
        · exact .inl h2
        · have h2' : x.on < k := Nat.le_of_ble_eq_true h2
          right; rw [hl]; simpa using h2'
      rw [hrd] at hmem; cases hmem
    intro i hi
    unfold Region.ready at hi
    rw [List.mem_filter] at hi
    obtain ⟨h1, h2⟩ := hi
    have hi' : i < ops.size := by simpa using h1
    simp only [Bool.and_eq_true, Bool.not_eq_true'] at h2
    have hDi : listed.getD i false = false := by
      have := h2.1
      rw [Array.getD_eq_getD_getElem?] at this ⊢
      rw [Array.getElem?_eq_getElem (by omega)] at this ⊢
      exact this
    have hge : k ≤ i := by
      rw [hl] at hDi; simpa using hDi
    have hio : ops.toList[i]? = some ops[i] := by rw [Array.getElem?_toList, Array.getElem?_eq_getElem hi']
    have hr : ∀ e ∈ ops[i].after.toList, Region.binds .any e = true → listed.getD e.on false = true := by
      intro e he hb
      have h3 := h2.2
      rw [Array.getElem?_eq_getElem hi'] at h3
      simp only [Option.map_some, Option.getD_some] at h3
      rw [Array.all_eq_true_iff_forall_mem] at h3
      have := h3 e (by simpa using he)
      simpa [hb] using this
    have hik : i = k := by
      cases Nat.lt_or_ge k i with
      | inr g => omega
      | inl g =>
        rcases ready_mask hcl hio hr (tot i (by omega) hi' k g) with e | e
        · omega
        · simp only [hl] at e; simp at e
    subst hik
    have hset : ∀ j, (listed.setIfInBounds i true).getD j false = decide (j < i + 1) := by
      intro j
      rw [Array.getD_eq_getD_getElem?, Array.getElem?_setIfInBounds]
      by_cases hij : i = j
      · subst hij; simp [hls, hi']
      · have := hl j
        rw [Array.getD_eq_getD_getElem?] at this
        rw [if_neg hij, this]
        congr 1; apply propext; omega
    have hop : ops[i]? = some o := by rw [← Array.getElem?_toList]; exact hko
    have hw2 : wpOp P ops Q i (wpList P ops Q rest) a w := by
      unfold wpOp
      rw [hop]
      exact hw
    exact wpOp_mono (fun a' w' h => ih (i + 1) fuel _ a' w' hdr2 (by omega) (by simp [hls]) hset (by simpa using hfu) h) hw2

end
end Go.Sh

namespace Go.Sh
open Go
variable [Con] {A : Type}

def lab (pl : List Nat) (n : Nat) (i : Nat) : Nat := match pl[i]? with
  | some l => l
  | none => n + i

theorem lab_inj {pl : List Nat} {n : Nat} (hnd : pl.Nodup) (hlt : ∀ l ∈ pl, l < n) : ∀ i j, lab pl n i = lab pl n j → i = j := by
  intro i j h
  unfold lab at h
  cases hi : pl[i]? with
  | some a =>
    rw [hi] at h
    cases hj : pl[j]? with
    | some b =>
      rw [hj] at h
      simp only at h
      subst h
      have h1 : i < pl.length := by
        cases Nat.lt_or_ge i pl.length with
        | inl g => exact g
        | inr g => rw [List.getElem?_eq_none g] at hi; cases hi
      exact (List.getElem?_inj h1 hnd).1 (hi.trans hj.symm)
    | none =>
      rw [hj] at h
      simp only at h
      have := hlt a (List.mem_of_getElem? hi)
      omega
  | none =>
    rw [hi] at h
    cases hj : pl[j]? with
    | some b =>
      rw [hj] at h
      simp only at h
      have := hlt b (List.mem_of_getElem? hj)
      omega
    | none =>
      rw [hj] at h
      simp only at h
      omega

structure Picks (h' : Heap A) (pl : List Nat) (h'' : Heap A) : Prop where
  nodup : pl.Nodup
  lt : ∀ l ∈ pl, l < h'.length
  len : h''.length = pl.length
  ent : ∀ (i l : Nat), pl[i]? = some l → ∀ e, hget h'' i = some e → hget h' l = some (e.ren (lab pl h'.length))

section
variable {P : Program} {I : Itp A}

theorem Inv.pick {V : Val} {h' h'' : Heap A} {pl : List Nat} (hp : Picks h' pl h'') {hR : PHeap} {w : World} (hi : Inv I V (toF h') hR w) : Inv I (fun i => V (lab pl h'.length i)) (toF h'') hR w := by
  -- first forget what isn't asked for
  have hkill : ∀ (S : Nat → Bool), Inv I V (fun l => if S l then toF h' l else none) hR w := by
    intro S
    obtain ⟨hs, h1, h2, h3, h4, h5, h6⟩ := hi
    refine ⟨fun l => if S l then hs l else .emp, ?_, ?_, ?_, ?_, ?_, h6⟩
    · intro l e he
      cases hS : S l with
      | true => simp [hS] at he ⊢; exact h1 l e he
      | false => simp [hS] at he
    · intro l hl
      cases hS : S l with
      | true => simp [hS] at hl ⊢; exact h2 l hl
      | false => simp [hS]
    · intro l m hlm
      show PHeap.disj (if S l then hs l else .emp) (if S m then hs m else .emp)
      split
      · split
        · exact h3 l m hlm
        · exact PHeap.disj_emp _
      · exact (PHeap.disj_emp _).symm
    · intro l
      show PHeap.disj (if S l then hs l else .emp) hR
      split
      · exact h4 l
      · exact (PHeap.disj_emp _).symm
    · intro l
      show (if S l then hs l else PHeap.emp).sub w
      split
      · exact h5 l
      · exact PHeap.emp_sub _
  let n := h'.length
  have hinj := lab_inj hp.nodup hp.lt
  classical
  have hS := hkill (fun l => decide (∃ i e, pl[i]? = some l ∧ hget h'' i = some e))
  refine (Inv.relabel (ι := lab pl h'.length) hinj ?_ ?_).1 hS
  · intro i
    cases hi : pl[i]? with
    | some l =>
      have e1 : lab pl h'.length i = l := by unfold lab; rw [hi]
      rw [e1]
      cases he : hget h'' i with
      | some e =>
        have : (∃ i e, pl[i]? = some l ∧ hget h'' i = some e) := ⟨i, e, hi, he⟩
        rw [if_pos (by simpa using this)]
        show hget h' l = (hget h'' i).map _
        rw [he, hp.ent i l hi e he]; rfl
      | none =>
        have : ¬ (∃ j e, pl[j]? = some l ∧ hget h'' j = some e) := by
          rintro ⟨j, e, hj, hje⟩
          have h1 : i < pl.length := by
            cases Nat.lt_or_ge i pl.length with
            | inl g => exact g
            | inr g => rw [List.getElem?_eq_none g] at hi; cases hi
          have := (List.getElem?_inj h1 hp.nodup).1 (hi.trans hj.symm)
          subst this
          rw [he] at hje; cases hje
        rw [if_neg (by simpa using this)]
        show none = (hget h'' i).map _
        rw [he]; rfl
    | none =>
      have e1 : lab pl h'.length i = h'.length + i := by unfold lab; rw [hi]
      rw [e1]
      have h2 : hget h'' i = none := by
        refine hget_ge ?_
        rw [hp.len]
        exact List.getElem?_eq_none_iff.1 hi
      show _ = (hget h'' i).map _
      rw [h2]
      have : toF h' (h'.length + i) = none := hget_ge (by omega)
      split
      · exact this
      · rfl
  · intro m hm
    have : ¬ (∃ i e, pl[i]? = some m ∧ hget h'' i = some e) := by
      rintro ⟨i, e, hi, _⟩
      refine hm i ?_
      unfold lab; rw [hi]
    rw [if_neg (by simpa using this)]

end

def inv (pl : List Nat) (l : Nat) : Nat := match pl with
  | [] => 0
  | m :: pl => if m = l then 0 else inv pl l + 1

mutual
def AVal.within (pl : List Nat) : AVal → Bool
  | .ptr l _ => pl.elem l
  | .slice l _ _ _ => pl.elem l
  | .tslice l _ _ _ => pl.elem l
  | .tptr l _ _ _ => pl.elem l
  | .map l => pl.elem l
  | .func _ f c => AVal.withinL pl f && AVal.withinL pl c
  | .iface _ a => AVal.within pl a
  | .agg as => AVal.withinL pl as
  | .tup as => AVal.withinL pl as
  | _ => true
def AVal.withinL (pl : List Nat) : List AVal → Bool
  | [] => true
  | a :: as => AVal.within pl a && AVal.withinL pl as
end
def allIn (pl : List Nat) : List Nat → Bool
  | [] => true
  | l :: ls => pl.elem l && allIn pl ls
def Entry.within (pl : List Nat) : Entry A → Bool
  | .cells vs => AVal.withinL pl vs
  | .abs _ ps => allIn pl ps
  | .iter lm _ _ _ _ _ => pl.elem lm
  | _ => true

def trimH (pl : List Nat) (h : Heap A) : Heap A :=
  pl.map fun l => match hget h l with
    | some e => cond (e.within pl) (some (e.ren (inv pl))) none
    | none => none
def trimV (pl : List Nat) (v : AVal) : AVal := cond (v.within pl) (v.ren (inv pl)) .top

theorem lab_inv {pl : List Nat} {n l : Nat} (h : pl.elem l = true) : lab pl n (inv pl l) = l := by
  have : pl[inv pl l]? = some l := by
    have h' : l ∈ pl := List.elem_iff.1 h
    clear h
    induction pl with
    | nil => cases h'
    | cons m pl ih =>
      unfold inv
      by_cases e : m = l
      · rw [if_pos e]; simp [e]
      · rw [if_neg e, List.getElem?_cons_succ]
        refine ih ?_
        rcases List.mem_cons.1 h' with h | h
        · exact (e h.symm).elim
        · exact h
  unfold lab; rw [this]

mutual
theorem AVal.ren_inv {pl : List Nat} {n : Nat} : ∀ (v : AVal), v.within pl = true → (v.ren (inv pl)).ren (lab pl n) = v
  | .bool _, _ => rfl
  | .int _ _, _ => rfl
  | .str _, _ => rfl
  | .ptr l off, h => by simp only [AVal.ren]; rw [lab_inv h]
  | .slice l off len sz, h => by simp only [AVal.ren]; rw [lab_inv h]
  | .map l, h => by simp only [AVal.ren]; rw [lab_inv h]
  | .func fn f c, h => by
    simp only [AVal.within, Bool.and_eq_true] at h
    simp only [AVal.ren]; rw [AVal.renL_inv f h.1, AVal.renL_inv c h.2]
  | .iface t a, h => by simp only [AVal.ren]; rw [AVal.ren_inv a h]
  | .agg as, h => by simp only [AVal.ren]; rw [AVal.renL_inv as h]
  | .tup as, h => by simp only [AVal.ren]; rw [AVal.renL_inv as h]
  | .raw _, _ => rfl
  | .any, _ => rfl
  | .top, _ => rfl
  | .iview _ _, _ => rfl
  | .view _ _ _, _ => rfl
  | .cptr _, _ => rfl
  | .tslice l r n w, h => by simp only [AVal.ren]; rw [lab_inv h]
  | .tptr l r w j, h => by simp only [AVal.ren]; rw [lab_inv h]
  | .empty, _ => rfl
theorem AVal.renL_inv {pl : List Nat} {n : Nat} : ∀ (v : List AVal), AVal.withinL pl v = true → AVal.renL (lab pl n) (AVal.renL (inv pl) v) = v
  | [], _ => rfl
  | a :: as, h => by
    simp only [AVal.withinL, Bool.and_eq_true] at h
    simp only [AVal.renL]; rw [AVal.ren_inv a h.1, AVal.renL_inv as h.2]
end
theorem allIn_lab {pl : List Nat} {n : Nat} : ∀ (ps : List Nat), allIn pl ps = true → (ps.map (inv pl)).map (lab pl n) = ps
  | [], _ => rfl
  | p :: ps, h => by
    simp only [allIn, Bool.and_eq_true] at h
    simp only [List.map_cons]; rw [lab_inv h.1, allIn_lab ps h.2]
theorem Entry.ren_inv {pl : List Nat} {n : Nat} (e : Entry A) (h : e.within pl = true) : (e.ren (inv pl)).ren (lab pl n) = e := by
  cases e with
  | cells vs => simp only [Entry.ren]; rw [AVal.renL_inv vs h]
  | ints c xs => rfl
  | abs t ps => simp only [Entry.ren]; rw [allIn_lab ps h]
  | tab ks rows => rfl
  | imap kk vc m => rfl
  | iter lm kk vc m left cur => simp only [Entry.ren]; rw [lab_inv h]

def goodPl (pl : List Nat) (n : Nat) : Bool := match pl with
  | [] => true
  | l :: pl => !pl.elem l && Nat.blt l n && goodPl pl n

theorem goodPl_spec : ∀ {pl : List Nat} {n : Nat}, goodPl pl n = true → pl.Nodup ∧ ∀ l ∈ pl, l < n
  | [], n, _ => by simp
  | m :: pl, n, h => by
    have h' : ((!pl.elem m && Nat.blt m n) && goodPl pl n) = true := h
    rw [Bool.and_eq_true, Bool.and_eq_true] at h'
    have h1 := h'.1.1
    have h2 : m < n := by have := h'.1.2; rwa [Nat.blt_eq] at this
    have h3 := h'.2
    obtain ⟨g1, g2⟩ := goodPl_spec h3
    refine ⟨List.nodup_cons.2 ⟨by simpa using h1, g1⟩, ?_⟩
    intro l hl
    rcases List.mem_cons.1 hl with rfl | hl
    · exact h2
    · exact g2 l hl

theorem trimH_picks {pl : List Nat} {h : Heap A} (hg : goodPl pl h.length = true) : Picks h pl (trimH pl h) := by
  obtain ⟨g1, g2⟩ := goodPl_spec hg
  refine ⟨g1, g2, by simp [trimH], ?_⟩
  intro i l hi e he
  have e1 : hget (trimH pl h) i = (match hget h l with
    | some e => cond (e.within pl) (some (e.ren (inv pl))) none
    | none => none) := by
    unfold trimH
    show (List.map _ pl).getD i none = _
    rw [List.getD_eq_getElem?_getD, List.getElem?_map, hi]
    rfl
  rw [e1] at he
  cases hl : hget h l with
  | none => rw [hl] at he; cases he
  | some e' =>
    rw [hl] at he
    simp only at he
    cases hw : e'.within pl with
    | false => rw [hw] at he; cases he
    | true =>
      rw [hw] at he
      simp only [cond_true, Option.some.injEq] at he
      subst he
      rw [Entry.ren_inv e' hw]

theorem trimV_rep {V : Val} {pl : List Nat} {n : Nat} {v : AVal} {x : Value} (h : Rep V v x) : Rep (fun i => V (lab pl n i)) (trimV pl v) x := by
  unfold trimV
  cases hw : v.within pl with
  | false => exact trivial
  | true =>
    simp only [cond_true]
    refine (Rep.ren (ι := lab pl n) _ _).1 ?_
    rw [AVal.ren_inv v hw]; exact h

def keeps : List Nat → Nat → Nat → Bool
  | _, _, 0 => true
  | [], _, _ + 1 => false
  | l :: pl, i, n + 1 => Nat.beq l i && keeps pl (i + 1) n
theorem keeps_spec : ∀ {pl : List Nat} {j n : Nat}, keeps pl j n = true → n ≤ pl.length ∧ ∀ i, i < n → pl[i]? = some (j + i)
  | pl, j, 0, _ => ⟨Nat.zero_le _, fun i hi => by omega⟩
  | [], _, _ + 1, h => by simp [keeps] at h
  | l :: pl, j, n + 1, h => by
    simp only [keeps, Bool.and_eq_true] at h
    obtain ⟨h1, h2⟩ := h
    have h1' : l = j := Nat.eq_of_beq_eq_true h1
    obtain ⟨g1, g2⟩ := keeps_spec h2
    refine ⟨by simp; omega, ?_⟩
    intro i hi
    cases i with
    | zero => simp [h1']
    | succ i =>
      rw [List.getElem?_cons_succ, g2 i (by omega)]
      congr 1; omega

def sift (pl keep : List Nat) : Nat → List AVal → List AVal
  | _, [] => []
  | i, v :: vs => cond (keep.elem i) (trimV pl v) .top :: sift pl keep (i + 1) vs
theorem sift_rep {V : Val} {pl keep : List Nat} {n : Nat} : ∀ (i : Nat) (vs : List AVal) (xs : List Value), RepL V vs xs → RepL (fun i => V (lab pl n i)) (sift pl keep i vs) xs
  | _, [], xs, h => h
  | i, v :: vs, _, ⟨x, xs, e, r, s⟩ => by
    refine ⟨x, xs, e, ?_, sift_rep (i + 1) vs xs s⟩
    cases keep.elem i with
    | true => exact trimV_rep r
    | false => exact trivial

mutual
def AVal.labels : AVal → List Nat
  | .ptr l _ => [l]
  | .slice l _ _ _ => [l]
  | .tslice l _ _ _ => [l]
  | .tptr l _ _ _ => [l]
  | .map l => [l]
  | .func _ f c => AVal.labelsL f ++ AVal.labelsL c
  | .iface _ a => AVal.labels a
  | .agg as => AVal.labelsL as
  | .tup as => AVal.labelsL as
  | _ => []
def AVal.labelsL : List AVal → List Nat
  | [] => []
  | a :: as => AVal.labels a ++ AVal.labelsL as
end
def Entry.labels : Entry A → List Nat
  | .cells vs => AVal.labelsL vs
  | .abs _ ps => ps
  | .iter lm _ _ _ _ _ => [lm]
  | _ => []
def reach (h : Heap A) : Nat → List Nat → List Nat → List Nat
  | 0, _, acc => acc
  | _ + 1, [], acc => acc
  | d + 1, l :: todo, acc => cond (acc.elem l) (reach h d todo acc) (match hget h l with
    | some e => reach h d (e.labels ++ todo) (acc ++ [l])
    | none => reach h d todo (acc ++ [l]))
def keptLabels (keep : List Nat) : Nat → List AVal → List Nat
  | _, [] => []
  | i, v :: vs => cond (keep.elem i) (v.labels ++ keptLabels keep (i + 1) vs) (keptLabels keep (i + 1) vs)
def heapLabels : List (Option (Entry A)) → List Nat
  | [] => []
  | none :: h => heapLabels h
  | some e :: h => e.labels ++ heapLabels h
def upto : Nat → Nat → List Nat
  | _, 0 => []
  | i, n + 1 => i :: upto (i + 1) n
def gather (n : Nat) (h : Heap A) (more : List Nat) : List Nat := reach h 2000 (heapLabels (h.take n) ++ more) (upto 0 n)

theorem Picks.elim {n : Nat} {h : Heap A} {pl : List Nat} (g1 : goodPl pl h.length = true) (g2 : keeps pl 0 n = true) {I : Itp A} {V : Val} {hR : PHeap} {w : World}
    (hi : Inv I V (toF h) hR w) (hf : Fresh V h.length) :
    (∀ l, l < n → V (lab pl h.length l) = V l) ∧ Fresh (fun i => V (lab pl h.length i)) (trimH pl h).length ∧ n ≤ (trimH pl h).length ∧ Inv I (fun i => V (lab pl h.length i)) (toF (trimH pl h)) hR w := by
  obtain ⟨k1, k2⟩ := keeps_spec g2
  have hp := trimH_picks (h := h) g1
  refine ⟨?_, ?_, by rw [hp.len]; exact k1, hi.pick hp⟩
  · intro l hl
    have : lab pl h.length l = l := by unfold lab; rw [k2 l hl]; simp
    rw [this]
  · intro l hl
    rw [hp.len] at hl
    show V (lab pl h.length l) = none
    have : lab pl h.length l = h.length + l := by unfold lab; rw [List.getElem?_eq_none hl]
    rw [this]; exact hf _ (by omega)

end Go.Sh

