/- The small-heap evaluator, part 8: one operation that calls nothing, whatever it is. -/
import Derived.Test.YtjklokfpnbnndaaZSh7m
set_option linter.all false
set_option linter.unusedVariables false
set_option linter.unusedSectionVars false
namespace Go.Sh
open Go
variable [Con] {A : Type} {I : A → Nat → PHeap → Prop}
section
variable {P : Program} {V : Val}

theorem asliceArr_run {t : TypeId} {a : AVal} {lo hi mx : Option AVal} {h : Heap A} {r : ORes A} {hR : PHeap} {w : World} {x : Value} {lo' hi' mx' : Option Value} (hr : asliceArr P t a lo hi mx h = some r) (ho : r.obl) (hi0 : Inv I V (toF h) hR w) (hx : Rep V a x)
    (hlo : ∀ z, lo = some z → ∃ z', lo' = some z' ∧ Rep V z z') (hlo0 : lo = none → lo' = none) (hhi : ∀ z, hi = some z → ∃ z', hi' = some z' ∧ Rep V z z') (hhi0 : hi = none → hi' = none) (hmx0 : mx = none → mx' = none) :
    ∃ v', (Instr.sliceAt t x lo' hi' mx').run P w = .ok v' w ∧ Rep V r.v v' ∧ r.upd = [] ∧ r.new = [] := by
  unfold asliceArr at hr
  split at hr
  · rename_i n e l off hu
    rw [hmx0 rfl]
    split at hr
    · rename_i s vs hs hh
      split at hr
      · rename_i hlen
        obtain ⟨b, k, cs, T, rs, tail, hl, hb, hk, hcs, hrep⟩ := hi0.cells (l := l) hh
        obtain ⟨b', k', hl', rfl⟩ := hx
        rw [hl] at hl'; cases hl'
        have hsz : off + n * s ≤ k := by
          rw [← hk, ← Array.length_toList, hcs, List.length_append, RepL.length hrep]; omega
        have hbb : (∃ b' k', V l = some (b', k') ∧ (some ⟨b, off, none⟩ : Option Addr) = some ⟨b', off, none⟩ ∧ off + n * s ≤ k') ∨ (n = 0 ∧ n = 0) := .inl ⟨b, k, hl, rfl, hsz⟩
        have hmap : ∀ m lo : Nat, (if m = lo then (some ⟨b, off, none⟩ : Option Addr) else (some ⟨b, off, none⟩ : Option Addr).map (·.add (lo * s))) = some (if m = lo then ⟨b, off, none⟩ else (⟨b, off, none⟩ : Addr).add (lo * s)) := by
          intro m lo; split <;> rfl
        split at hr
        · simp at hr; subst hr
          rw [hlo0 rfl, hhi0 rfl]
          have hr := rep_slice_cut (Nat.le_refl n) hbb (Nat.zero_le n) (Nat.le_refl n)
          rw [hmap] at hr
          simp only [Nat.zero_mul, Nat.add_zero, Nat.sub_zero] at hr
          refine ⟨_, ?_, hr, rfl, rfl⟩
          simp [Instr.sliceAt, underlying, hu, Instr.sliceBounds, asize_run hs, Instr.sureAddr]
        · rename_i k1 m
          simp only [Option.some.injEq] at hr; subst hr
          obtain ⟨z', e1, r1⟩ := hhi _ rfl
          have : z' = .int k1 m := r1
          subst this
          rw [hlo0 rfl, e1]
          have hr := rep_slice_cut (Nat.le_refl n) hbb (lo := 0) (hi := m.toNat) (Nat.zero_le _) ho.2
          rw [hmap] at hr
          simp only [Nat.zero_mul, Nat.add_zero, Nat.sub_zero] at hr
          refine ⟨_, ?_, hr, rfl, rfl⟩
          simp [Instr.sliceAt, underlying, hu, Instr.sliceBounds, asize_run hs, Instr.sureAddr, sliceBound_run (y := n) ho.1 ho.2]
        · rename_i k1 m
          simp only [Option.some.injEq] at hr; subst hr
          obtain ⟨z', e1, r1⟩ := hlo _ rfl
          have : z' = .int k1 m := r1
          subst this
          rw [hhi0 rfl, e1]
          have hr := rep_slice_cut (Nat.le_refl n) hbb (lo := m.toNat) (hi := n) ho.2 (Nat.le_refl _)
          rw [hmap] at hr
          refine ⟨_, ?_, hr, rfl, rfl⟩
          simp [Instr.sliceAt, underlying, hu, Instr.sliceBounds, asize_run hs, Instr.sureAddr, sliceBound_run (y := n) ho.1 ho.2]
        · cases hr
      · cases hr
    · cases hr
  · cases hr

theorem opt_rep {ρ : Operand → AVal} {ρ' : Operand → Value} (hρ : ∀ x, Rep V (ρ x) (ρ' x)) (o : Option Operand) :
    (∀ z, o.map ρ = some z → ∃ z', o.map ρ' = some z' ∧ Rep V z z') ∧ (o.map ρ = none → o.map ρ' = none) := by
  cases o with
  | none => simp
  | some x => simp; exact hρ x

theorem aop_sound {ρ : Operand → AVal} {ρ' : Operand → Value} {o : Oper} {h : Heap A} {r : ORes A} {hR : PHeap} {w : World} (hr : aop P ρ o.op h = some r) (ho : r.obl) (hi : Inv I V (toF h) hR w)
    (hn : ∀ l, h.length ≤ l → l < h.length + r.new.length → V l = none) (hρ : ∀ x, Rep V (ρ x) (ρ' x)) :
    OpOk I P V h.length hR w r.v (toF (r.apply h)) r.new.length (execOp ρ' o) := by
  have pureIf : ∀ {s : Sem Value} {q : Option (AVal × Option Prop)}, aofPure q = some r → (∀ v p, q = some (v, p) → onp p → ∃ v', s.run P w = .ok v' w ∧ Rep V v v') →
      execOp ρ' o = (do Pure.pure (.value (← s))) → OpOk I P V h.length hR w r.v (toF (r.apply h)) r.new.length (execOp ρ' o) := by
    intro s q hq hs he
    cases q with
    | none => cases hq
    | some x =>
      obtain ⟨v, p⟩ := x
      simp [aofPure] at hq; subst hq
      obtain ⟨v', h1, h2⟩ := hs v p rfl ho
      rw [apply_nil rfl rfl, he]
      exact OpOk.pure hi h2 (by simp [h1])
  have pureV : ∀ {s : Sem Value} {q : Option AVal}, aofVal q = some r → (∀ v, q = some v → ∃ v', s.run P w = .ok v' w ∧ Rep V v v') →
      execOp ρ' o = (do Pure.pure (.value (← s))) → OpOk I P V h.length hR w r.v (toF (r.apply h)) r.new.length (execOp ρ' o) := by
    intro s q hq hs he
    cases q with
    | none => cases hq
    | some v =>
      simp [aofVal] at hq; subst hq
      obtain ⟨v', h1, h2⟩ := hs v rfl
      rw [apply_nil rfl rfl, he]
      exact OpOk.pure hi h2 (by simp [h1])
  cases hop : o.op with
  | move x =>
    rw [hop] at hr; simp [aop] at hr; subst hr
    rw [apply_nil rfl rfl]
    exact OpOk.pure hi (hρ x) (by simp [execOp, hop])
  | assign x =>
    rw [hop] at hr; simp [aop] at hr; subst hr
    rw [apply_nil rfl rfl]
    exact OpOk.pure hi (hρ x) (by simp [execOp, hop])
  | pick c a b =>
    rw [hop] at hr
    refine pureV (s := do Pure.pure (if ← asBool (ρ' c) then ρ' a else ρ' b)) hr ?_ (by simp [execOp, hop])
    intro v hv
    unfold apick at hv
    split at hv
    · rename_i b0 p q e1 e2 e3
      simp at hv; subst hv
      have r1 := hρ c; rw [e1] at r1
      have r2 := hρ a; rw [e2] at r2
      have r3 := hρ b; rw [e3] at r3
      have s1 : ρ' c = .bool b0 := r1
      have s2 : ρ' a = .bool p := r2
      have s3 : ρ' b = .bool q := r3
      rw [s1, s2, s3]
      refine ⟨.bool (cond b0 p q), ?_, rfl⟩
      cases b0 <;> simp [asBool]
    · rename_i b0 e1 e2
      simp at hv; subst hv
      have r1 := hρ c; rw [e1] at r1
      have s1 : ρ' c = .bool b0 := r1
      rw [s1]
      cases b0
      · exact ⟨ρ' b, by simp [asBool], hρ b⟩
      · exact ⟨ρ' a, by simp [asBool], hρ a⟩
    · cases hv
  | alloc e =>
    rw [hop] at hr
    simp only [aop] at hr
    cases hz : azero P e with
    | none => rw [hz] at hr; cases hr
    | some z =>
      rw [hz] at hr; simp at hr; subst hr
      obtain ⟨zv, rfl, hzr⟩ := azero_run (w := w) hz
      refine OpOk.newCells (T := e) hi (hn _ (Nat.le_refl _) (by simp)) (rep_cells_val V zv) ?_
      simp [execOp, hop, Instr.alloc, hzr, newVar, newRow]
  | box e x =>
    rw [hop] at hr; simp only [aop] at hr
    split at hr
    · rename_i htold
      simp at hr; subst hr
      refine OpOk.newCells (T := e) hi (hn _ (Nat.le_refl _) (by simp)) (rep_cells (hρ x) htold) ?_
      simp [execOp, hop, Instr.box, newVar, newRow]
    · cases hr
  | build t parts =>
    rw [hop] at hr
    refine pureV (s := Instr.build t (parts.map fun (i, x) => (i, ρ' x))) hr ?_ (by simp [execOp, hop])
    intro v hv
    have := abuild_run (V := V) (w := w) hv (repP_map hρ parts.toList)
    have e : (parts.map fun (i, x) => (i, ρ' x)) = (List.map (fun x => (x.1, ρ' x.2)) parts.toList).toArray := by
      apply Array.ext'; simp
    rw [e]; exact this
  | buildSlice t len parts =>
    rw [hop] at hr
    refine abuildSlice_ok hr (repP_map hρ parts.toList) hi hn ?_
    have e : (parts.map fun (i, x) => (i, ρ' x)) = (List.map (fun x => (x.1, ρ' x.2)) parts.toList).toArray := by
      apply Array.ext'; simp
    simp only [execOp, hop, e]
  | load t a =>
    rw [hop] at hr
    simp only [aop] at hr
    split at hr
    · rename_i l off e1
      have r1 := hρ a; rw [e1] at r1
      obtain ⟨v', h1, h2, h3, h4⟩ := aload_run hr ho hi r1
      rw [apply_nil h3 h4, h4]
      exact OpOk.pure hi h2 (by simp [execOp, hop, h1])
    · rename_i cs e1
      have r1 := hρ a; rw [e1] at r1
      cases hv : aloadC P t cs with
      | none => rw [hv] at hr; cases hr
      | some v =>
        rw [hv] at hr; simp [aofVal] at hr; subst hr
        obtain ⟨v', h1, h2⟩ := aloadC_run (V := V) hv hi r1
        rw [apply_nil rfl rfl]
        exact OpOk.pure hi h2 (by simp [execOp, hop, h1])
    · rename_i l r0 w0 j e1
      have r1 := hρ a; rw [e1] at r1
      obtain ⟨v', h1, h2, h3, h4⟩ := aloadT_run hr ho hi r1
      rw [apply_nil h3 h4, h4]
      exact OpOk.pure hi h2 (by simp [execOp, hop, h1])
    · cases hr
  | store t a x =>
    rw [hop] at hr
    simp only [aop] at hr
    split at hr
    · rename_i l off e1
      have r1 := hρ a; rw [e1] at r1
      obtain ⟨w', h1, h2, h3, h4, h5⟩ := astore_run hr ho hi r1 (hρ x)
      exact ⟨.skip, w', V, undef, by simp [execOp, hop, h1], .inr ⟨rfl, rfl⟩, V.le_refl, fun l e f => (f e).elim, by rw [h4]; rfl, h2, h3⟩
    · rename_i l r0 w0 j e1
      have r1 := hρ a; rw [e1] at r1
      obtain ⟨w', h1, h2, h3, h4, h5⟩ := astoreT_run hr ho hi r1 (hρ x)
      exact ⟨.skip, w', V, undef, by simp [execOp, hop, h1], .inr ⟨rfl, rfl⟩, V.le_refl, fun l e f => (f e).elim, by rw [h4]; rfl, h2, h3⟩
    · cases hr
  | nilCheck x =>
    rw [hop] at hr
    simp only [aop] at hr
    cases hv : anilCheck (ρ x) with
    | none => rw [hv] at hr; cases hr
    | some v =>
      rw [hv] at hr; simp [aofVal] at hr; subst hr
      rw [apply_nil rfl rfl]
      have rx := hρ x
      have hsame : v = ρ x := by
        unfold anilCheck at hv
        split at hv <;> simp at hv <;> (rename_i e; rw [e]; exact hv.symm)
      refine OpOk.pure (v' := ρ' x) hi (by rw [show (ORes.pure (A := A) v).v = ρ x from hsame]; exact rx) ?_
      unfold anilCheck at hv
      split at hv
      · rename_i e; rw [e] at rx; obtain ⟨b, k, _, e2⟩ := rx; simp [execOp, hop, e2]
      · rename_i e; rw [e] at rx; obtain ⟨b, off, cs, T, fz, e2, _⟩ := rx; simp [execOp, hop, e2]
      · rename_i e; rw [e] at rx; obtain ⟨b, k, _, e2⟩ := rx; simp [execOp, hop, e2]
      · rename_i e; rw [e] at rx; obtain ⟨y, e2, _⟩ := rx; simp [execOp, hop, e2]
      · rename_i e; rw [e] at rx; obtain ⟨f, c, e2, _⟩ := rx; simp [execOp, hop, e2]
      · cases hv
  | binOp op t x y yt =>
    rw [hop] at hr
    refine pureIf (s := do eqGuard op t x y (ρ' x) (ρ' y); binOp op t (ρ' x) (ρ' y)) hr ?_ (by simp [execOp, hop])
    intro v p hv hp
    exact abin_run hv hp (hρ x) (hρ y)
  | unOp op t x =>
    rw [hop] at hr
    refine pureV (s := Op.unary op (ρ' x)) hr ?_ (by simp [execOp, hop])
    intro v hv
    have rx := hρ x
    unfold aun at hv
    split at hv
    · rename_i b e
      simp at hv; subst hv
      rw [e] at rx
      have : ρ' x = .bool b := rx
      rw [this]
      exact ⟨.bool (!b), by simp [Op.unary], rfl⟩
    · rename_i k n e
      simp at hv; subst hv
      rw [e] at rx
      have : ρ' x = .int k n := rx
      rw [this]
      exact ⟨.int k (k.wrap (-n)), by simp [Op.unary, Op.intArith], rfl⟩
    · cases hv
  | convert src dst x =>
    rw [hop] at hr
    refine pureV (s := convert src dst (ρ' x)) hr ?_ (by simp [execOp, hop])
    intro v hv
    have rx := hρ x
    unfold aconv at hv
    split at hv
    · rename_i d k k' n hs hu e
      simp at hv; subst hv
      rw [e] at rx
      have : ρ' x = .int k' n := rx
      rw [this]
      refine ⟨.int k (k.wrap n), ?_, rfl⟩
      simp only [convert, underlying, Sem.run_bind, run_program, Result.andThen_ok, hs, hu, Sem.run_pure, Conv.intToInt]
    · rename_i d s hs hu e
      simp at hv; subst hv
      rw [e] at rx
      have : ρ' x = .string s := rx
      rw [this]
      refine ⟨.string s, ?_, rfl⟩
      simp only [convert, underlying, Sem.run_bind, run_program, Result.andThen_ok, hs, hu, Sem.run_pure]
    · cases hv
  | makeInterface t x =>
    rw [hop] at hr
    simp only [aop] at hr
    split at hr
    · cases hr
    · rename_i d hne hu
      simp at hr; subst hr
      rw [apply_nil rfl rfl]
      refine OpOk.pure (v' := .iface t (ρ' x)) hi ⟨_, rfl, hρ x⟩ ?_
      simp only [execOp, hop, Instr.makeInterface, underlying, Sem.run_bind, run_program, Result.andThen_ok, hu, Sem.run_pure]
    · cases hr
  | makeFunc fn first caps =>
    rw [hop] at hr; simp [aop] at hr; subst hr
    rw [apply_nil rfl rfl]
    refine OpOk.pure (v' := .func fn (first.map ρ') (caps.map ρ')) hi ⟨_, _, rfl, by simpa using repL_map hρ first.toList, by simpa using repL_map hρ caps.toList⟩ ?_
    simp [execOp, hop, Instr.makeFunc]
  | slice t x lo hi' mx =>
    rw [hop] at hr
    simp only [aop] at hr
    obtain ⟨o1, o2⟩ := opt_rep hρ lo
    obtain ⟨o3, o4⟩ := opt_rep hρ hi'
    obtain ⟨o5, o6⟩ := opt_rep hρ mx
    split at hr
    · obtain ⟨v', h1, h2, h3, h4⟩ := asliceArr_run hr ho hi (hρ x) o1 o2 o3 o4 o6
      rw [apply_nil h3 h4, h4]
      exact OpOk.pure hi h2 (by simp [execOp, hop, h1])
    · refine pureIf (s := Instr.sliceAt t (ρ' x) (lo.map ρ') (hi'.map ρ') (mx.map ρ')) hr ?_ (by simp [execOp, hop])
      intro v p hv hp
      exact aslice_run hv hp (hρ x) o1 o2 o3 o4 o5 o6
  | fieldAddr s x f =>
    rw [hop] at hr
    refine pureV (s := Instr.fieldAt s (ρ' x) f) hr ?_ (by simp [execOp, hop])
    intro v hv
    have rx := hρ x
    unfold afieldAddr at hv
    split at hv
    · rename_i fs l off hu e
      split at hv
      · rename_i fd hfd
        split at hv
        · rename_i m hs
          simp at hv; subst hv
          rw [e] at rx
          obtain ⟨b, k, hl, e2⟩ := rx
          rw [e2]
          refine ⟨.pointer (some ⟨b, off + fd.offset, none⟩), ?_, ⟨b, k, hl, rfl⟩⟩
          simp [Instr.fieldAt, underlying, hu, hfd, Instr.sureAddr, fieldPlace, asize_run hs, Addr.add_lit]
        · cases hv
      · cases hv
    · rename_i fs as hu e
      split at hv
      · rename_i fd hfd
        split at hv
        · rename_i m hs
          simp at hv; subst hv
          rw [e] at rx
          obtain ⟨b, off, cs, T, fz, e2, hcon, hrep⟩ := rx
          rw [e2]
          refine ⟨.pointer (some ⟨b, off + fd.offset, none⟩), ?_, cptr_drop hcon hrep⟩
          simp [Instr.fieldAt, underlying, hu, hfd, Instr.sureAddr, fieldPlace, asize_run hs, Addr.add_lit]
        · cases hv
      · cases hv
    · rename_i fs l r0 w0 j hu e
      split at hv
      · rename_i fd hfd
        split at hv
        · rename_i m hs
          simp at hv; subst hv
          rw [e] at rx
          obtain ⟨b, k, hl, e2⟩ := rx
          rw [e2]
          refine ⟨.pointer (some ⟨b, r0 * w0 + j + fd.offset, none⟩), ?_, b, k, hl, by rw [Nat.add_assoc]⟩
          simp [Instr.fieldAt, underlying, hu, hfd, Instr.sureAddr, fieldPlace, asize_run hs, Addr.add_lit]
        · cases hv
      · cases hv
    · cases hv
  | field s x f =>
    rw [hop] at hr
    refine pureV (s := Instr.field s (ρ' x) f) hr ?_ (by simp [execOp, hop])
    intro v hv
    have rx := hρ x
    unfold afield at hv
    split at hv
    · rename_i fs cs hu e
      split at hv
      · rename_i fd hfd
        rw [e] at rx
        obtain ⟨xs, e2, rx⟩ := rx
        rw [e2]
        obtain ⟨v', h1, h2⟩ := apart_run (w := w) hv rx
        exact ⟨v', by simp [Instr.field, underlying, hu, hfd, asAgg, h1], h2⟩
      · cases hv
    · cases hv
  | indexAddr t x i =>
    rw [hop] at hr
    refine pureIf (s := Instr.indexAt t (ρ' x) (ρ' i)) hr ?_ (by simp [execOp, hop])
    intro v p hv hp
    exact aindexAddr_run hv hp (hρ x) (hρ i)
  | index t x i =>
    rw [hop] at hr
    refine pureIf (s := Instr.index t (ρ' x) (ρ' i)) hr ?_ (by simp [execOp, hop])
    intro v p hv hp
    exact aindex_run hv hp (hρ x) (hρ i)
  | extract x i =>
    rw [hop] at hr
    simp only [aop] at hr
    split at hr
    · rename_i vs e
      have rx := hρ x
      rw [e] at rx
      obtain ⟨xs, e2, rx⟩ := rx
      refine pureV (s := Instr.extract (ρ' x) i) hr ?_ (by simp [execOp, hop])
      intro v hv
      obtain ⟨y, hy, ry⟩ := RepL.get rx i v hv
      rw [e2]
      rw [Array.getElem?_toList] at hy
      exact ⟨y, by simp [Instr.extract, hy], ry⟩
    · cases hr
  | makeSlice t n m =>
    rw [hop] at hr
    exact amakeSlice_ok hr ho hi hn (hρ n) (hρ m) (by simp only [execOp, hop])
  | makeMap t res =>
    rw [hop] at hr
    cases res with
    | some x => simp [aop] at hr
    | none => exact amakeMap_ok hr hi hn (by simp only [execOp, hop]; rfl)
  | lookup t x i ck =>
    rw [hop] at hr
    exact alookup_ok hr ho hi (hρ x) (hρ i) (by simp only [execOp, hop])
  | mapUpdate t m k v =>
    rw [hop] at hr
    exact amapUpdate_ok hr ho hi (hρ m) (hρ k) (hρ v) (by simp only [execOp, hop])
  | call c =>
    rw [hop] at hr
    simp only [aop] at hr
    split at hr
    case h_2 => cases hr
    rename_i b hb
    have hrun : ∃ cs, execOp ρ' o = builtin b c.argTypes o.type cs (c.args.map ρ') := by
      have h0 : execOp ρ' o = (do let d ← resolve ρ' c o.type; invoke d.target d.args) := by simp only [execOp, hop]
      rw [h0]
      unfold resolve
      rw [hb]
      exact ⟨_, rfl⟩
    obtain ⟨cs, hrun⟩ := hrun
    have hargs := repL_map hρ c.args.toList
    have hargs' : (c.args.map ρ').toList = c.args.toList.map ρ' := by simp
    rw [← hargs'] at hargs
    generalize hxs : c.args.toList.map ρ = xs at hr hargs
    generalize hts : c.argTypes.toList = ts at hr
    have hty : c.argTypes = ts.toArray := by rw [← hts]
    unfold abuiltin at hr
    split at hr
    · rename_i t x
      obtain ⟨y, ys, e1, r1, r2⟩ := hargs
      have r2' : ys = [] := r2
      subst r2'
      have e2 : c.args.map ρ' = #[y] := by apply Array.ext'; rw [e1]
      refine pureV (s := Builtin.len_ #[t] o.type #[y]) hr ?_ (by rw [hrun, hty, e2]; rfl)
      intro v hv
      exact alen_run hv r1
    · rename_i x xs'
      obtain ⟨y, ys, e1, r1, r2⟩ := hargs
      refine pureV (s := Builtin.min_ c.argTypes o.type (c.args.map ρ')) hr ?_ (by rw [hrun]; rfl)
      intro v hv
      obtain ⟨v', h1, h2⟩ := amin_run (w := w) xs' x v y ys hv r1 r2
      exact ⟨v', by unfold Builtin.min_; rw [e1]; exact h1, h2⟩
    · rename_i x xs'
      obtain ⟨y, ys, e1, r1, r2⟩ := hargs
      refine pureV (s := Builtin.max_ c.argTypes o.type (c.args.map ρ')) hr ?_ (by rw [hrun]; rfl)
      intro v hv
      obtain ⟨v', h1, h2⟩ := amax_run (w := w) xs' x v y ys hv r1 r2
      exact ⟨v', by unfold Builtin.max_; rw [e1]; exact h1, h2⟩
    · rename_i st xt s x
      obtain ⟨y, ys, e1, r1, z, zs, e3, r3, r4⟩ := hargs
      have r4' : zs = [] := r4
      subst r4' e3
      have e2 : c.args.map ρ' = #[y, z] := by apply Array.ext'; rw [e1]
      exact aappend_ok (ty := o.type) hr ho hi hn r1 r3 (by rw [hrun, hty, e2]; rfl)
    · rename_i dt xt d x
      obtain ⟨y, ys, e1, r1, z, zs, e3, r3, r4⟩ := hargs
      have r4' : zs = [] := r4
      subst r4' e3
      have e2 : c.args.map ρ' = #[y, z] := by apply Array.ext'; rw [e1]
      exact acopy_ok (xt := xt) (ty := o.type) hr ho hi r1 r3 (by rw [hrun, hty, e2]; rfl)
    · cases hr
  | _ => rw [hop] at hr; simp [aop] at hr

end
end Go.Sh
