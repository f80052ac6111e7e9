/- The small-heap evaluator, part 13: a statement that leaves its order open is sound. -/
import Derived.Test.YtjklokfpnbnndaaZSh12
set_option linter.all false
set_option linter.unusedVariables false
set_option linter.unusedSectionVars false
namespace Go.Sh
open Go
variable [Con] {A : Type}

theorem map_pairs_congr {ρ ρ2 : Operand → AVal} (l : List (Nat × Operand)) (h : ∀ x ∈ l.map (·.2), ρ x = ρ2 x) : (l.map fun x => (x.1, ρ x.2)) = l.map fun x => (x.1, ρ2 x.2) := by
  apply List.map_congr_left
  intro x hx
  rw [h x.2 (List.mem_map.2 ⟨x, hx, rfl⟩)]
theorem map_ops_congr {ρ ρ2 : Operand → AVal} (l : List Operand) (h : ∀ x ∈ l, ρ x = ρ2 x) : l.map ρ = l.map ρ2 := List.map_congr_left h

theorem aop_congr {P : Program} {ρ ρ2 : Operand → AVal} (op : Op) (h : Heap A) (hρ : ∀ x ∈ op.operands, ρ x = ρ2 x) : aop P ρ op h = aop P ρ2 op h := by
  cases op <;> simp only [Op.operands] at hρ <;> simp only [aop]
  case move x => rw [hρ x (by simp)]
  case assign x => rw [hρ x (by simp)]
  case pick c a b => rw [hρ c (by simp), hρ a (by simp), hρ b (by simp)]
  case box e x => rw [hρ x (by simp)]
  case build t ps => rw [map_pairs_congr ps.toList (fun x hx => hρ x (by simpa using hx))]
  case buildSlice t n ps => rw [map_pairs_congr ps.toList (fun x hx => hρ x (by simpa using hx))]
  case load t a => rw [hρ a (by simp)]
  case store t a x => rw [hρ a (by simp), hρ x (by simp)]
  case nilCheck x => rw [hρ x (by simp)]
  case binOp o t x y yt => rw [hρ x (by simp), hρ y (by simp)]
  case unOp o t x => rw [hρ x (by simp)]
  case convert s d x => rw [hρ x (by simp)]
  case makeInterface t x => rw [hρ x (by simp)]
  case makeFunc fn f c => rw [map_ops_congr f.toList (fun x hx => hρ x (by simp at hx ⊢; exact .inl hx)), map_ops_congr c.toList (fun x hx => hρ x (by simp at hx ⊢; exact .inr hx))]
  case makeSlice t n m => rw [hρ n (by simp), hρ m (by simp)]
  case makeMap t r => cases r <;> rfl
  case lookup t x i ck => rw [hρ x (by simp), hρ i (by simp)]
  case mapUpdate t m k v => rw [hρ m (by simp), hρ k (by simp), hρ v (by simp)]
  case slice t x lo hi mx =>
    have e1 : lo.map ρ = lo.map ρ2 := by cases lo with | none => rfl | some y => simp [hρ y (by simp)]
    have e2 : hi.map ρ = hi.map ρ2 := by cases hi with | none => rfl | some y => simp [hρ y (by simp)]
    have e3 : mx.map ρ = mx.map ρ2 := by cases mx with | none => rfl | some y => simp [hρ y (by simp)]
    rw [hρ x (by simp), e1, e2, e3]
  case fieldAddr s x f => rw [hρ x (by simp)]
  case field s x f => rw [hρ x (by simp)]
  case indexAddr t x i => rw [hρ x (by simp), hρ i (by simp)]
  case index t x i => rw [hρ x (by simp), hρ i (by simp)]
  case extract x i => rw [hρ x (by simp)]
  case call c =>
    have e1 : c.args.toList.map ρ = c.args.toList.map ρ2 := map_ops_congr _ (fun x hx => hρ x (by simp [Call.operands]; right; simpa using hx))
    rw [e1]

section
variable {P : Program} {E : Env A P}

theorem callee_congr {ρ ρ2 : Operand → AVal} (c : Call) (hρ : ∀ x ∈ c.operands, ρ x = ρ2 x) : callee E ρ c = callee E ρ2 c := by
  have e1 : c.args.toList.map ρ = c.args.toList.map ρ2 := map_ops_congr _ (fun x hx => hρ x (by simp [Call.operands]; right; simpa using hx))
  unfold callee
  cases hc : c.callee with
  | value f => simp only; rw [hρ f (by simp [Call.operands, hc]), e1]
  | invoke r m => simp only; rw [hρ r (by simp [Call.operands, hc]), e1]
  | builtin b => rfl

theorem dop_congr {ρ ρ2 : Operand → AVal} (op : Op) (h : Heap A) (hρ : ∀ x ∈ op.operands, ρ x = ρ2 x) : dop E ρ op h = dop E ρ2 op h := by
  cases op
  case call c =>
    simp only [dop]
    rw [callee_congr c hρ, aop_congr (.call c) h hρ]
  all_goals (simp only [dop]; exact aop_congr _ h hρ)

/-- one operation whose outcome is settled -/
theorem dop_sound {a : Act} {o : Oper} {tm : List AVal} {h : Heap A} {r : ORes A} (hr : dop E (aeval tm) o.op h = some r) (ho : r.obl) {V : Val} {hR : PHeap} {w : World}
    (hi : Inv E.I V (toF h) hR w) (hf : FreshOn V h.length r.new.length) (ht : RepL V tm a.tmps.toList) {next : Act → World → Prop} {Q : Exit → Act → World → Prop}
    (hn : ∀ v' V' w', Rep V' r.v v' → V.le V' → (∀ l, V l = none → V' l ≠ none → h.length ≤ l ∧ l < h.length + r.new.length) → Inv E.I V' (toF (r.apply h)) hR w' → Grows w w' → next (a.put o.dst v') w') :
    o.wp P a w next Q := by
  have hρ : ∀ x, Rep V (aeval tm x) (a.eval x) := aeval_rep ht
  have simple : aop P (aeval tm) o.op h = some r → o.wp P a w next Q := by
    intro hr
    obtain ⟨nx, w', V', v', h1, h2, h3, h4, h5, h6, h7⟩ := aop_sound hr ho hi hf hρ
    have := hn v' V' w' h5 h3 h4 h6 h7
    unfold Oper.wp
    rw [h1]
    rcases h2 with rfl | ⟨rfl, rfl⟩
    · exact this
    · exact this
  have fin : ∀ (g : FuncId) (args : List AVal) (args' : Array Value) (D : DSpec A), E.det g = some D → D args h = some r → RepL V args args'.toList → (execOp a.eval o).run P w = .ok (.enter g args') w → o.wp P a w next Q := by
    intro g args args' D hD hDr hra hrun
    unfold Oper.wp
    rw [hrun]
    refine (E.detOk g D hD args h r hDr ho V hR w args' hi hf hra).mono ?_
    rintro e w' ⟨v', V', rfl, h2, h3, h4, h5, h6⟩
    exact hn v' V' w' h2 h3 h4 h5 h6
  cases hop : o.op with
  | call c =>
    rw [hop] at hr
    simp only [dop] at hr
    have hargs : RepL V (c.args.toList.map (aeval tm)) (c.args.toList.map a.eval) := repL_map hρ c.args.toList
    cases hc : callee E (aeval tm) c with
    | none =>
      rw [hc] at hr
      exact simple (by rw [hop]; exact hr)
    | some x =>
      obtain ⟨g, args⟩ := x
      rw [hc] at hr
      simp only at hr
      split at hr
      case isFalse => cases hr
      rename_i hp
      split at hr
      case h_2 => cases hr
      rename_i D hD
      unfold callee at hc
      split at hc
      · rename_i f hcal
        split at hc
        · rename_i g' first caps hfv
          simp only [Option.some.injEq, Prod.mk.injEq] at hc
          obtain ⟨rfl, rfl⟩ := hc
          have rf := hρ f
          rw [hfv] at rf
          obtain ⟨fs, cs, e1, r1, r2⟩ := rf
          refine fin g' _ (fs ++ c.args.map a.eval ++ cs) D hD hr ?_ ?_
          · simp only [Array.toList_append, Array.toList_map]
            exact RepL.append (RepL.append r1 hargs) r2
          · simp only [execOp, hop, resolve, hcal, e1, Deferred.ofValue, Sem.run_bind, Sem.run_pure, Result.andThen_ok, invoke, callFunc_run hp]
        · cases hc
      · rename_i recv name hcal
        split at hc
        · rename_i t l off hfv
          cases hm : E.meth t name with
          | none => rw [hm] at hc; cases hc
          | some g' =>
            rw [hm] at hc
            simp only [Option.map_some, Option.some.injEq, Prod.mk.injEq] at hc
            obtain ⟨rfl, rfl⟩ := hc
            have rf := hρ recv
            rw [hfv] at rf
            obtain ⟨x, e1, b, k, hl, e2⟩ := rf
            subst e2
            refine fin g' _ (#[.pointer (some ⟨b, off, none⟩)] ++ c.args.map a.eval) D hD hr ?_ ?_
            · simp only [Array.toList_append, Array.toList_map]
              exact ⟨_, _, rfl, ⟨b, k, hl, rfl⟩, hargs⟩
            · have hmo := E.methOk t name g' hm (.pointer (some ⟨b, off, none⟩)) w ⟨_, rfl⟩
              simp only [execOp, hop, resolve, hcal, Sem.run_bind, Sem.run_pure, Result.andThen_ok, invoke, e1, recv0, recv1, callMethod, run_program, hmo, callFunc_run hp]
        · cases hc
      · cases hc
  | _ => exact simple (by rw [hop] at hr ⊢; exact hr)

/-- which operations are listed -/
def Closed (ops : List Oper) (D : Nat → Bool) : Prop := ∀ (j : Nat) (o : Oper), ops[j]? = some o → D j = true → ∀ e ∈ o.after.toList, Region.binds .any e = true → D e.on = true

theorem mask_bits {acc : List Nat} {o : Oper} {i : Nat} (h : (mask acc o).testBit i = true) : ∃ e ∈ o.after.toList, Region.binds .any e = true ∧ (i = e.on ∨ (acc.getD e.on 0).testBit i = true) := by
  unfold mask at h
  have key : ∀ (l : List Edge) (s : Nat), (l.foldl (fun s e => if Region.binds .any e then s ||| 2 ^ e.on ||| acc.getD e.on 0 else s) s).testBit i = true →
      s.testBit i = true ∨ ∃ e ∈ l, Region.binds .any e = true ∧ (i = e.on ∨ (acc.getD e.on 0).testBit i = true) := by
    intro l
    induction l with
    | nil => intro s hs; exact .inl hs
    | cons e l ih =>
      intro s hs
      simp only [List.foldl_cons] at hs
      rcases ih _ hs with h1 | ⟨e', h1, h2, h3⟩
      · split at h1
        · rename_i hb
          rw [Nat.testBit_or, Nat.testBit_or, Bool.or_eq_true, Bool.or_eq_true] at h1
          rcases h1 with (h1 | h1) | h1
          · exact .inl h1
          · rw [Nat.testBit_two_pow] at h1
            simp only [decide_eq_true_eq] at h1
            exact .inr ⟨e, by simp, hb, .inl h1.symm⟩
          · exact .inr ⟨e, by simp, hb, .inr h1⟩
        · exact .inl h1
      · exact .inr ⟨e', by simp [h1], h2, h3⟩
  rcases key _ _ h with h1 | h1
  · simp at h1
  · exact h1

theorem masks_closed {ops : List Oper} {D : Nat → Bool} (hc : Closed ops D) : ∀ (rest : List Oper) (acc : List Nat), (∀ k, rest[k]? = ops[acc.length + k]?) →
    (∀ j m, acc[j]? = some m → D j = true → ∀ i, m.testBit i = true → D i = true) →
    ∀ j m, (masks acc rest)[j]? = some m → D j = true → ∀ i, m.testBit i = true → D i = true := by
  intro rest
  induction rest with
  | nil => intro acc _ h; exact h
  | cons o rest ih =>
    intro acc ho h
    unfold masks
    apply ih
    · intro k
      have := ho (k + 1)
      simp only [List.getElem?_cons_succ] at this
      rw [this]
      congr 1; simp; omega
    · intro j m hj hD i hi
      rw [List.getElem?_append] at hj
      split at hj
      · exact h j m hj hD i hi
      · rename_i hlt
        have hj0 : j - acc.length = 0 := by
          cases hq : j - acc.length with
          | zero => rfl
          | succ n => rw [hq] at hj; simp at hj
        rw [hj0] at hj
        simp at hj; subst hj
        obtain ⟨e, he, hb, hor⟩ := mask_bits hi
        have hjo : ops[j]? = some o := by
          have := ho 0
          simp at this
          rw [show j = acc.length from by omega]; exact this.symm
        have hDe := hc j o hjo hD e he hb
        rcases hor with rfl | hor
        · exact hDe
        · cases hq : acc[e.on]? with
          | none => rw [List.getD_eq_getElem?_getD, hq] at hor; simp at hor
          | some m => rw [List.getD_eq_getElem?_getD, hq] at hor; exact h e.on m hq hDe i hor

/-- what has to come ahead of a ready operation has been done -/
theorem ready_mask {ops : List Oper} {D : Nat → Bool} (hc : Closed ops D) {k : Nat} {o : Oper} (hk : ops[k]? = some o) (hr : ∀ e ∈ o.after.toList, Region.binds .any e = true → D e.on = true) {i : Nat}
    (hi : ((masks [] ops).getD k 0).testBit i = true) : i = k ∨ D i = true := by
  have hc' : Closed ops (fun j => decide (j = k) || D j) := by
    intro j o' hj hD e he hb
    simp only [Bool.or_eq_true, decide_eq_true_eq] at hD ⊢
    right
    rcases hD with rfl | hD
    · rw [hk] at hj; cases hj; exact hr e he hb
    · exact hc j o' hj hD e he hb
  cases hm : (masks [] ops)[k]? with
  | none => rw [List.getD_eq_getElem?_getD, hm] at hi; simp at hi
  | some m =>
    rw [List.getD_eq_getElem?_getD, hm] at hi
    have := masks_closed hc' ops [] (by intro k; simp) (by intro j m h; simp at h) k m hm (by simp) i hi
    simpa using this

theorem done_mask {ops : List Oper} {D : Nat → Bool} (hc : Closed ops D) {k : Nat} (hk : D k = true) {i : Nat} (hi : ((masks [] ops).getD k 0).testBit i = true) : D i = true := by
  cases hm : (masks [] ops)[k]? with
  | none => rw [List.getD_eq_getElem?_getD, hm] at hi; simp at hi
  | some m =>
    rw [List.getD_eq_getElem?_getD, hm] at hi
    exact masks_closed hc ops [] (by intro k; simp) (by intro j m h; simp at h) k m hm hk i hi

end
end Go.Sh
