/- The small-heap evaluator, part 7: every operation that calls nothing is sound. -/
import Derived.Test.YtjklokfpnbnndaaZSh6t
set_option linter.all false
set_option linter.unusedVariables false
set_option linter.unusedSectionVars false
namespace Go.Sh
open Go
variable [Con] {A : Type} {I : A → Nat → PHeap → Prop}
section
variable {P : Program} {V : Val}

theorem repP_map {ρ : Operand → AVal} {ρ' : Operand → Value} (hρ : ∀ x, Rep V (ρ x) (ρ' x)) : ∀ l : List (Nat × Operand), RepP V (l.map fun x => (x.1, ρ x.2)) (l.map fun x => (x.1, ρ' x.2))
  | [] => .nil
  | x :: l => .cons (hρ x.2) (repP_map hρ l)
theorem repL_map {ρ : Operand → AVal} {ρ' : Operand → Value} (hρ : ∀ x, Rep V (ρ x) (ρ' x)) : ∀ l : List Operand, RepL V (l.map ρ) (l.map ρ')
  | [] => by simp [RepL]
  | x :: l => ⟨_, _, rfl, hρ x, repL_map hρ l⟩

theorem fieldPlaces_run {w : World} : ∀ (fs : List Field) (l : List (Nat × Nat)), (∀ f ∈ fs, asize P f.type ≠ none) →
    ∃ out, (fs.mapM (fun f => do Pure.pure (f.offset, ← sizeOf f.type) : Field → Sem (Nat × Nat))).run P w = .ok out w ∧ ∀ i : Nat, out[i]? = (fs[i]?).bind fun f => (asize P f.type).map fun n => (f.offset, n) := by
  intro fs
  induction fs with
  | nil => intro l h; exact ⟨[], by simp, by simp⟩
  | cons f fs ih =>
    intro l h
    obtain ⟨out, h1, h2⟩ := ih l (fun g hg => h g (by simp [hg]))
    cases e : asize P f.type with
    | none => exact (h f (by simp) e).elim
    | some n =>
      refine ⟨(f.offset, n) :: out, ?_, ?_⟩
      · rw [List.mapM_cons]; simp only [Sem.run_bind, asize_run e, Result.andThen_ok, Sem.run_pure, h1]
      · intro i
        cases i with
        | zero => simp [e]
        | succ i => simpa using h2 i

theorem abuild_run {t : TypeId} {ps : List (Nat × AVal)} {qs : List (Nat × Value)} {v : AVal} {w : World} (h : abuild P t ps = some v) (hp : RepP V ps qs) :
    ∃ v', (Instr.build t qs.toArray).run P w = .ok v' w ∧ Rep V v v' := by
  unfold abuild at h
  split at h
  · rename_i z fs hz hu
    by_cases hall0 : fs.toList.all (fun f => (asize P f.type).isSome) = true
    case neg => rw [if_neg hall0] at h; cases h
    rw [if_pos hall0] at h
    have hall : ∀ f ∈ fs.toList, asize P f.type ≠ none := by
      intro f hf
      have := List.all_eq_true.1 hall0 f hf
      cases e : asize P f.type <;> simp_all
    obtain ⟨zv, rfl, hzr⟩ := azero_run (w := w) hz
    cases hf : afill (fieldPlaces P fs) (ofVal zv).cells ps with
    | none => rw [hf] at h; cases h
    | some out =>
      rw [hf] at h; simp at h; subst h
      obtain ⟨pl, h1, h2⟩ := fieldPlaces_run (P := P) (w := w) fs.toList [] hall
      have hpl : (fun i => pl.toArray[i]?) = fieldPlaces P fs := by
        funext i
        have e := h2 i
        unfold fieldPlaces
        have e2 : pl.toArray[i]? = pl[i]? := by simp
        rw [e2, e, Array.getElem?_toList]
        cases fs[i]? <;> rfl
      obtain ⟨out', h3, h4⟩ := afill_run (V := V) hp (rep_cells_val V zv) hf
      refine ⟨.agg out', ?_, ⟨out', rfl, h4⟩⟩
      have hm : (fs.mapM (fun f => do Pure.pure (f.offset, ← sizeOf f.type) : Field → Sem (Nat × Nat))).run P w = .ok pl.toArray w := by
        rw [Array.mapM_eq_mapM_toList, Sem.run_map, h1]; rfl
      have h3' : Instr.fill (fun i => pl.toArray[i]?) zv.cells qs = some out' := by rw [hpl]; exact h3
      simp only [Instr.build, Sem.run_bind, hzr, Result.andThen_ok, underlying, run_program, hu, Sem.run_pure, hm, h3']
  · rename_i z len e hz hu
    obtain ⟨zv, rfl, hzr⟩ := azero_run (w := w) hz
    cases hs : asize P e with
    | none => rw [hs] at h; cases h
    | some s =>
      rw [hs] at h
      simp only at h
      cases hf : afill (fun i => some (i * s, s)) (ofVal zv).cells ps with
      | none => rw [hf] at h; cases h
      | some out =>
        rw [hf] at h; simp at h; subst h
        obtain ⟨out', h3, h4⟩ := afill_run (V := V) hp (rep_cells_val V zv) hf
        refine ⟨.agg out', ?_, ⟨out', rfl, h4⟩⟩
        simp only [Instr.build, Sem.run_bind, hzr, Result.andThen_ok, underlying, run_program, hu, Sem.run_pure, asize_run hs, h3]
  · cases h

theorem afill_sizes {place : Nat → Option (Nat × Nat)} : ∀ {ps : List (Nat × AVal)} {cs out : List AVal}, afill place cs ps = some out → out.length = cs.length
  | [], _, _, h => by simp [afill] at h; rw [h]
  | (i, a) :: ps, cs, out, h => by
    simp only [afill] at h
    split at h
    · cases h
    · split at h
      · have := afill_sizes h; rw [this, over_length]
      · cases h

theorem rep_slice_mk {l b k off len sz : Nat} (hl : V l = some (b, k)) (h : off + len * sz ≤ k) : Rep V (.slice l off len sz) (.slice (some ⟨b, off, none⟩) len len) :=
  ⟨_, _, rfl, Nat.le_refl _, .inl ⟨b, k, hl, rfl, h⟩⟩

theorem range_rep {z : AVal} {zv : Value} (hz : RepL V z.cells zv.cells.toList) {s : Nat} (hs : z.cells.length = s) (h0 : 0 < s) (n : Nat) :
    RepL V ((List.range n).map fun j => z.cells.getD (j % s) (.raw undef)) ((List.range n).map fun j => zv.cells[j % zv.cells.size]!) := by
  have hsz : zv.cells.size = s := by rw [← Array.length_toList, RepL.length hz, hs]
  have key : ∀ l : List Nat, RepL V (l.map fun j => z.cells.getD (j % s) (.raw undef)) (l.map fun j => zv.cells[j % zv.cells.size]!) := by
    intro l
    induction l with
    | nil => simp [RepL]
    | cons j l ih =>
      refine ⟨_, _, rfl, ?_, ih⟩
      have hlt : j % s < s := Nat.mod_lt _ h0
      obtain ⟨y, hy, ry⟩ := RepL.get hz (j % s) (z.cells.getD (j % s) (.raw undef)) (by rw [List.getD_eq_getElem?_getD, List.getElem?_eq_getElem (by omega)]; rfl)
      rw [Array.getElem?_toList] at hy
      have : zv.cells[j % zv.cells.size]! = y := by rw [hsz, getElem!_def, hy]
      show Rep V (z.cells.getD (j % s) (AVal.raw undef)) (zv.cells[j % zv.cells.size]!)
      rw [this]; exact ry
  exact key _

theorem abuildSlice_ok {t : TypeId} {len : Nat} {ps : List (Nat × AVal)} {qs : List (Nat × Value)} {h : Heap A} {r : ORes A} {hR : PHeap} {w : World} {s : Sem Next} (hr : abuildSlice P t len ps h = some r) (hp : RepP V ps qs)
    (hi : Inv I V (toF h) hR w) (hn : ∀ l, h.length ≤ l → l < h.length + r.new.length → V l = none) (hs : s = (do Pure.pure (.value (← Instr.buildSlice t len qs.toArray)))) :
    OpOk I P V h.length hR w r.v (toF (r.apply h)) r.new.length s := by
  subst hs
  unfold abuildSlice at hr
  split at hr
  · rename_i e hu
    split at hr
    · rename_i sz z hsz hz
      split at hr
      · rename_i hc
        obtain ⟨c1, c2, c3⟩ := hc
        obtain ⟨zv, rfl, hzr⟩ := azero_run (w := w) hz
        cases hf : afill (fun i => some (i * sz, sz)) ((List.range (len * sz)).map fun j => (ofVal zv).cells.getD (j % sz) (.raw undef)) ps with
        | none => rw [hf] at hr; cases hr
        | some cs =>
          rw [hf] at hr; simp at hr; subst hr
          have hzc := rep_cells_val V zv
          have h1 := range_rep hzc c2 c3 (len * sz)
          obtain ⟨out', h3, h4⟩ := afill_run (V := V) (ds := (Array.range (len * sz)).map fun j => zv.cells[j % zv.cells.size]!) hp (by simpa using h1) hf
          have hlen := afill_sizes hf
          have hosz : out'.size = len * sz := by rw [← Array.length_toList, RepL.length h4, hlen]; simp
          have hv0 := hn h.length (Nat.le_refl _) (by simp)
          have hinv := new_cells (T := e) hi hv0 h4
          refine ⟨_, _, V.add h.length (w.heap.size, out'.size), _, ?_, .inl rfl, Val.le_add hv0, add_dom, rep_slice_mk (Val.add_self _ _ _) (b := w.heap.size) (k := out'.size) (by omega), hinv, ⟨rfl, rfl, by simp, fun _ => frozen_alloc _ _ _ _⟩⟩
          have hbig : ¬ (len * sz > 2 ^ 24) := by omega
          simp only [Instr.buildSlice, Sem.run_bind, underlying, run_program, hu, Result.andThen_ok, Sem.run_pure, asize_run hsz]
          rw [if_neg hbig]
          by_cases h0 : len * sz = 0
          · rw [if_pos h0]
            simp only [Sem.run_pure, Result.andThen_ok, Sem.run_bind]
            have : ((Array.range (len * sz)).map fun j => (#[] : Array Value)[j % (#[] : Array Value).size]!) = ((Array.range (len * sz)).map fun j => zv.cells[j % zv.cells.size]!) := by rw [h0, Array.range_zero', Array.map_empty, Array.map_empty]
            rw [this, h3]
            simp [newRow]
          · rw [if_neg h0]
            simp only [Sem.run_pure, Result.andThen_ok, Sem.run_bind, hzr, h3]
            simp [newRow]
      · cases hr
    · cases hr
  · cases hr

theorem aindexAddr_run {t : TypeId} {a i v : AVal} {p : Option Prop} {x y : Value} {w : World} (h : aindexAddr P t a i = some (v, p)) (hp : onp p) (hx : Rep V a x) (hy : Rep V i y) :
    ∃ v', (Instr.indexAt t x y).run P w = .ok v' w ∧ Rep V v v' := by
  unfold aindexAddr at h
  split at h
  · rename_i e l off len sz k n hu
    cases hs : asize P e with
    | none => rw [hs] at h; cases h
    | some s =>
      rw [hs] at h
      simp only [Option.some.injEq, Prod.mk.injEq] at h
      obtain ⟨rfl, rfl⟩ := h
      obtain ⟨base, cap, rfl, hcap, hb⟩ := hx
      have e2 : y = .int k n := hy
      subst e2
      rcases hb with ⟨b, kk, hl, rfl, hk⟩ | ⟨h0, _⟩
      · refine ⟨.pointer (some ⟨b, off + n.toNat * s, none⟩), ?_, ⟨b, kk, hl, rfl⟩⟩
        simp [Instr.indexAt, asIntOf, underlying, hu, hp, asize_run hs, Addr.add_lit]
      · subst h0; exact absurd hp.2 (by have := hp.1; omega)
  · rename_i len e l off k n hu
    cases hs : asize P e with
    | none => rw [hs] at h; cases h
    | some s =>
      rw [hs] at h
      simp only [Option.some.injEq, Prod.mk.injEq] at h
      obtain ⟨rfl, rfl⟩ := h
      obtain ⟨b, kk, hl, rfl⟩ := hx
      have e2 : y = .int k n := hy
      subst e2
      refine ⟨.pointer (some ⟨b, off + n.toNat * s, none⟩), ?_, ⟨b, kk, hl, rfl⟩⟩
      simp [Instr.indexAt, asIntOf, underlying, hu, hp, asize_run hs, Addr.add_lit, Instr.sureAddr]
  · rename_i e c xs k n hu
    split at h
    case isFalse => cases h
    rename_i hs
    simp only [Option.some.injEq, Prod.mk.injEq] at h
    obtain ⟨rfl, rfl⟩ := h
    obtain ⟨base, cap, rfl, hcap, hb⟩ := hx
    have e2 : y = .int k n := hy
    subst e2
    have hp1 : 0 ≤ n := hp.1
    have hp2 : n < xs.length := hp.2
    rcases hb with ⟨b, off, cs, T, fz, rfl, hcon, tail, htl⟩ | h0
    · refine ⟨.pointer (some ⟨b, off + n.toNat, none⟩), ?_, b, off + n.toNat, cs, T, fz, rfl, hcon, ?_⟩
      · simp [Instr.indexAt, asIntOf, underlying, hu, hp, asize_run hs, Addr.add_lit]
      · have hlt : n.toNat < xs.length := by omega
        refine ⟨Code1.val c (xs.getD n.toNat 0), [], ?_, Code1.rep _ c _, rfl⟩
        have : (cs.toList.drop (off + n.toNat)) = Code1.val c (xs.getD n.toNat 0) :: (xs.drop (n.toNat + 1)).map (Code1.val c) ++ tail := by
          rw [← List.drop_drop, htl, List.drop_append_of_le_length (by simpa using Nat.le_of_lt hlt), ← List.map_drop, List.drop_eq_getElem_cons hlt, List.getD_eq_getElem?_getD, List.getElem?_eq_getElem hlt]
          rfl
        rw [this]; rfl
    · subst h0; simp at hp2; omega
  · rename_i e m w0 row k n hu
    split at h
    case isFalse => cases h
    rename_i hs
    simp only [Option.some.injEq, Prod.mk.injEq] at h
    obtain ⟨rfl, rfl⟩ := h
    obtain ⟨base, cap, rfl, hcap, hb⟩ := hx
    have e2 : y = .int k n := hy
    subst e2
    have hp1 : 0 ≤ n := hp.1
    have hp2 : n < m := hp.2
    rcases hb with ⟨b, off, cs, T, fz, rfl, hcon, hrow⟩ | h0
    · obtain ⟨g1, g2⟩ := hrow n.toNat (by omega)
      refine ⟨.pointer (some ⟨b, off + n.toNat * w0, none⟩), ?_, b, off + n.toNat * w0, cs, T, fz, rfl, hcon, by rw [g1]; exact g2⟩
      simp [Instr.indexAt, asIntOf, underlying, hu, hp, asize_run hs, Addr.add_lit]
    · omega
  · rename_i e l r m w0 k n hu
    split at h
    case isFalse => cases h
    rename_i hs
    simp only [Option.some.injEq, Prod.mk.injEq] at h
    obtain ⟨rfl, rfl⟩ := h
    obtain ⟨base, cap, rfl, hcap, hb⟩ := hx
    have e2 : y = .int k n := hy
    subst e2
    have hp1 : 0 ≤ n := hp.1
    have hp2 : n < m := hp.2
    rcases hb with ⟨b, kk, hl, rfl, hk⟩ | ⟨h0, _⟩
    · refine ⟨.pointer (some ⟨b, r * w0 + n.toNat * w0, none⟩), ?_, b, kk, hl, by rw [Nat.add_mul, Nat.add_zero]⟩
      simp [Instr.indexAt, asIntOf, underlying, hu, hp, asize_run hs, Addr.add_lit]
    · omega
  · rename_i len e l r w0 j k n hu
    cases hs : asize P e with
    | none => rw [hs] at h; cases h
    | some s =>
      rw [hs] at h
      simp only [Option.some.injEq, Prod.mk.injEq] at h
      obtain ⟨rfl, rfl⟩ := h
      obtain ⟨b, kk, hl, rfl⟩ := hx
      have e2 : y = .int k n := hy
      subst e2
      refine ⟨.pointer (some ⟨b, r * w0 + j + n.toNat * s, none⟩), ?_, b, kk, hl, by rw [Nat.add_assoc]⟩
      simp [Instr.indexAt, asIntOf, underlying, hu, hp, asize_run hs, Addr.add_lit, Instr.sureAddr]
  · rename_i len e as k n hu
    cases hs : asize P e with
    | none => rw [hs] at h; cases h
    | some s =>
      rw [hs] at h
      simp only [Option.some.injEq, Prod.mk.injEq] at h
      obtain ⟨rfl, rfl⟩ := h
      obtain ⟨b, off, cs, T, fz, rfl, hcon, hrep⟩ := hx
      have e2 : y = .int k n := hy
      subst e2
      refine ⟨.pointer (some ⟨b, off + n.toNat * s, none⟩), ?_, cptr_drop hcon hrep⟩
      simp [Instr.indexAt, asIntOf, underlying, hu, hp, asize_run hs, Addr.add_lit, Instr.sureAddr]
  · cases h

theorem aindex_run {t : TypeId} {a i v : AVal} {p : Option Prop} {x y : Value} {w : World} (h : aindex P t a i = some (v, p)) (hp : onp p) (hx : Rep V a x) (hy : Rep V i y) :
    ∃ v', (Instr.index t x y).run P w = .ok v' w ∧ Rep V v v' := by
  unfold aindex at h
  split at h
  · rename_i len e cs k n hu
    cases hs : asize P e with
    | none => rw [hs] at h; cases h
    | some s =>
      rw [hs] at h
      simp only at h
      cases ha : apart P e cs (n.toNat * s) with
      | none => rw [ha] at h; cases h
      | some u =>
        rw [ha] at h
        simp only [Option.map_some, Option.some.injEq, Prod.mk.injEq] at h
        obtain ⟨rfl, rfl⟩ := h
        obtain ⟨xs, rfl, rx⟩ := hx
        have e2 : y = .int k n := hy
        subst e2
        obtain ⟨v', h1, h2⟩ := apart_run (w := w) ha rx
        refine ⟨v', ?_, h2⟩
        simp [Instr.index, asIntOf, underlying, hu, hp, asize_run hs, h1]
  · rename_i s k n hu
    simp only [Option.some.injEq, Prod.mk.injEq] at h
    obtain ⟨rfl, rfl⟩ := h
    have e1 : x = .string s := hx
    have e2 : y = .int k n := hy
    subst e1 e2
    refine ⟨.int .u8 ((s.data.getD n.toNat 0).toNat : Int), ?_, rfl⟩
    have hlt : n.toNat < s.data.size := hp.2
    have hg : s[n.toNat]? = some (s.data.getD n.toNat 0) := by
      rw [getElem?_pos s n.toNat hp.2]
      congr 1
      show s.data[n.toNat] = s.data.getD n.toNat 0
      rw [Array.getD_eq_getD_getElem?, Array.getElem?_eq_getElem hlt]; rfl
    simp [Instr.index, asIntOf, underlying, hu, hp.1, hg]
  · cases h

theorem sliceBound_run {k : IntKind} {n : Int} {y : Nat} {c : BoundsCode} {w : World} (h0 : 0 ≤ n) (h1 : n.toNat ≤ y) : (Instr.sliceBound (.int k n) y c).run P w = .ok n.toNat w := by
  have : 0 ≤ n ∧ n ≤ (y : Int) := ⟨h0, by omega⟩
  simp [Instr.sliceBound, asIntOf, this]

/-- 'x[lo:hi]' at numbers that are known -/
theorem rep_slice_cut {l off len sz lo hi : Nat} {base : Option Addr} {cap : Nat} (hc : len ≤ cap)
    (hb : (∃ b k, V l = some (b, k) ∧ base = some ⟨b, off, none⟩ ∧ off + cap * sz ≤ k) ∨ (len = 0 ∧ cap = 0)) (h1 : lo ≤ hi) (h2 : hi ≤ len) :
    Rep V (.slice l (off + lo * sz) (hi - lo) sz) (.slice (if cap = lo then base else base.map (·.add (lo * sz))) (hi - lo) (cap - lo)) := by
  refine ⟨_, _, rfl, by omega, ?_⟩
  by_cases hcl : cap = lo
  · right; omega
  · rw [if_neg hcl]
    rcases hb with ⟨b, k, hl, rfl, hk⟩ | ⟨e1, e2⟩
    · left
      refine ⟨b, k, hl, by simp [Addr.add_lit], ?_⟩
      have : off + lo * sz + (cap - lo) * sz = off + cap * sz := by
        rw [Nat.add_assoc, ← Nat.add_mul]
        congr 2; omega
      omega
    · right; omega

theorem rep_iview_cut {c : Code1} {xs : List Int} {lo hi : Nat} {base : Option Addr} {cap : Nat} (hc : xs.length ≤ cap)
    (hb : (∃ b off cs T fz, base = some ⟨b, off, none⟩ ∧ Con.con b = some (.cells cs T fz) ∧ ∃ tail, cs.toList.drop off = xs.map (Code1.val c) ++ tail) ∨ xs = []) (h1 : lo ≤ hi) (h2 : hi ≤ xs.length) :
    Rep V (.iview c ((xs.take hi).drop lo)) (.slice (if cap = lo then base else base.map (·.add (lo * 1))) (hi - lo) (cap - lo)) := by
  have hl : ((xs.take hi).drop lo).length = hi - lo := by rw [List.length_drop, List.length_take]; omega
  refine ⟨_, cap - lo, by rw [hl], by rw [hl]; omega, ?_⟩
  by_cases hcl : cap = lo
  · right; exact List.length_eq_zero_iff.1 (by rw [hl]; omega)
  · rw [if_neg hcl]
    rcases hb with ⟨b, off, cs, T, fz, rfl, hcon, tail, ht⟩ | e1
    · left
      refine ⟨b, off + lo, cs, T, fz, by simp [Addr.add_lit], hcon, (xs.drop hi).map (Code1.val c) ++ tail, ?_⟩
      rw [← List.drop_drop, ht, List.drop_append_of_le_length (by simp; omega), ← List.append_assoc, ← List.map_append, ← List.map_drop]
      congr 2
      have e : (xs.take hi ++ xs.drop hi).drop lo = (xs.take hi).drop lo ++ xs.drop hi := List.drop_append_of_le_length (by rw [List.length_take]; omega)
      rw [List.take_append_drop] at e
      exact e
    · right; rw [e1]; simp
theorem rep_view_cut {n w0 : Nat} {row : Nat → List AVal} {lo hi : Nat} {base : Option Addr} {cap : Nat} (hc : n ≤ cap)
    (hb : (∃ b off cs T fz, base = some ⟨b, off, none⟩ ∧ Con.con b = some (.cells cs T fz) ∧ ∀ i, i < n → (row i).length = w0 ∧ RepL (fun _ => none) (row i) ((cs.toList.drop (off + i * w0)).take w0)) ∨ n = 0) (h1 : lo ≤ hi) (h2 : hi ≤ n) :
    Rep V (.view (hi - lo) w0 (fun i => row (lo + i))) (.slice (if cap = lo then base else base.map (·.add (lo * w0))) (hi - lo) (cap - lo)) := by
  refine ⟨_, cap - lo, rfl, by omega, ?_⟩
  by_cases hcl : cap = lo
  · right; omega
  · rw [if_neg hcl]
    rcases hb with ⟨b, off, cs, T, fz, rfl, hcon, hr⟩ | e1
    · left
      refine ⟨b, off + lo * w0, cs, T, fz, by simp [Addr.add_lit], hcon, ?_⟩
      intro i hi'
      have := hr (lo + i) (by omega)
      rw [Nat.add_mul, ← Nat.add_assoc] at this
      exact this
    · right; omega

theorem rep_isSlice {a : AVal} {x : Value} (h : a.isSlice = true) (hx : Rep V a x) : ∃ base len cap, x = .slice base len cap := by
  unfold AVal.isSlice at h
  split at h
  · obtain ⟨base, cap, e, _⟩ := hx; exact ⟨_, _, _, e⟩
  · obtain ⟨base, cap, e, _⟩ := hx; exact ⟨_, _, _, e⟩
  · obtain ⟨base, cap, e, _⟩ := hx; exact ⟨_, _, _, e⟩
  · obtain ⟨base, cap, e, _⟩ := hx; exact ⟨_, _, _, e⟩
  · obtain ⟨base, e⟩ := hx; exact ⟨_, _, _, e⟩
  · exact ⟨_, _, _, hx⟩
  · cases h

/-- rows of a table, cut -/
theorem rep_tslice_cut {l r len sz lo hi : Nat} {base : Option Addr} {cap : Nat} (hc : len ≤ cap)
    (hb : (∃ b k, V l = some (b, k) ∧ base = some ⟨b, r * sz, none⟩ ∧ r * sz + cap * sz ≤ k) ∨ (len = 0 ∧ cap = 0)) (h1 : lo ≤ hi) (h2 : hi ≤ len) :
    Rep V (.tslice l (r + lo) (hi - lo) sz) (.slice (if cap = lo then base else base.map (·.add (lo * sz))) (hi - lo) (cap - lo)) := by
  obtain ⟨base', cap', e, c1, c2⟩ := rep_slice_cut hc hb h1 h2
  simp only [Value.slice.injEq] at e
  obtain ⟨e1, e2, e3⟩ := e
  subst e3
  refine ⟨base', _, by rw [e1], c1, ?_⟩
  rw [Nat.add_mul]; exact c2

theorem aslice_run {t : TypeId} {a v : AVal} {lo hi mx : Option AVal} {p : Option Prop} {x : Value} {lo' hi' mx' : Option Value} {w : World} (h : aslice P t a lo hi mx = some (v, p)) (hp : onp p) (hx : Rep V a x)
    (hlo : ∀ z, lo = some z → ∃ z', lo' = some z' ∧ Rep V z z') (hlo0 : lo = none → lo' = none) (hhi : ∀ z, hi = some z → ∃ z', hi' = some z' ∧ Rep V z z') (hhi0 : hi = none → hi' = none) (hmx : ∀ z, mx = some z → ∃ z', mx' = some z' ∧ Rep V z z') (hmx0 : mx = none → mx' = none) :
    ∃ v', (Instr.sliceAt t x lo' hi' mx').run P w = .ok v' w ∧ Rep V v v' := by
  unfold aslice at h
  split at h
  · rename_i e km m hu
    split at h
    · rename_i s k b hs
      split at h
      case isFalse => cases h
      rename_i hsl
      simp only [Option.some.injEq, Prod.mk.injEq] at h
      obtain ⟨rfl, rfl⟩ := h
      obtain ⟨rfl, rfl⟩ := hp
      obtain ⟨base, len, cap, rfl⟩ := rep_isSlice hsl hx
      obtain ⟨z2, e2, r2⟩ := hhi _ rfl
      have : z2 = .int k 0 := r2
      subst this
      obtain ⟨z3, e3, r3⟩ := hmx _ rfl
      have : z3 = .int km 0 := r3
      subst this
      rw [hlo0 rfl, e2, e3]
      refine ⟨.slice base 0 0, ?_, ⟨base, rfl⟩⟩
      simp [Instr.sliceAt, Instr.slice, underlying, hu, Instr.sliceBounds, asize_run hs, sliceBound_run (y := cap) (n := 0) (by omega) (by omega), sliceBound_run (y := 0) (n := 0) (by omega) (by omega)]
    · cases h
  · rename_i e l r n0 w0 hu
    rw [hmx0 rfl]
    split at h
    case isFalse => cases h
    rename_i hs
    obtain ⟨base, cap, rfl, hcap, hb⟩ := hx
    split at h
    · rw [hlo0 rfl, hhi0 rfl]
      simp only [Option.some.injEq, Prod.mk.injEq] at h
      obtain ⟨rfl, rfl⟩ := h
      have hr := rep_tslice_cut (V := V) hcap hb (lo := 0) (hi := n0) (Nat.zero_le _) (Nat.le_refl _)
      simp only [Nat.zero_mul, Nat.sub_zero, Nat.add_zero] at hr
      refine ⟨_, ?_, hr⟩
      simp [Instr.sliceAt, Instr.slice, underlying, hu, Instr.sliceBounds, asize_run hs]
    · rename_i k n
      obtain ⟨z', e1, r1⟩ := hlo _ rfl
      have : z' = .int k n := r1
      subst this
      rw [e1, hhi0 rfl]
      simp only [Option.some.injEq, Prod.mk.injEq] at h
      obtain ⟨rfl, rfl⟩ := h
      refine ⟨_, ?_, rep_tslice_cut (V := V) hcap hb (lo := n.toNat) (hi := n0) hp.2 (Nat.le_refl _)⟩
      simp [Instr.sliceAt, Instr.slice, underlying, hu, Instr.sliceBounds, asize_run hs, sliceBound_run hp.1 hp.2]
    · rename_i k n
      obtain ⟨z', e1, r1⟩ := hhi _ rfl
      have : z' = .int k n := r1
      subst this
      rw [e1, hlo0 rfl]
      simp only [Option.some.injEq, Prod.mk.injEq] at h
      obtain ⟨rfl, rfl⟩ := h
      have hr := rep_tslice_cut (V := V) hcap hb (lo := 0) (hi := n.toNat) (Nat.zero_le _) hp.2
      simp only [Nat.zero_mul, Nat.sub_zero, Nat.add_zero] at hr
      refine ⟨_, ?_, hr⟩
      simp [Instr.sliceAt, Instr.slice, underlying, hu, Instr.sliceBounds, asize_run hs, sliceBound_run (y := cap) hp.1 (Nat.le_trans hp.2 hcap)]
    · rename_i k n k' m
      obtain ⟨z', e1, r1⟩ := hlo _ rfl
      have : z' = .int k n := r1
      subst this
      obtain ⟨z2, e2, r2⟩ := hhi _ rfl
      have : z2 = .int k' m := r2
      subst this
      rw [e1, e2]
      simp only [Option.some.injEq, Prod.mk.injEq] at h
      obtain ⟨rfl, rfl⟩ := h
      obtain ⟨p1, p2, p3, p4⟩ := hp
      refine ⟨_, ?_, rep_tslice_cut (V := V) hcap hb (lo := n.toNat) (hi := m.toNat) p2 p4⟩
      simp [Instr.sliceAt, Instr.slice, underlying, hu, Instr.sliceBounds, asize_run hs, sliceBound_run (y := cap) p3 (Nat.le_trans p4 hcap), sliceBound_run (y := m.toNat) p1 p2]
    · cases h
  · rename_i e l off len sz hu
    rw [hmx0 rfl]
    obtain ⟨base, cap, rfl, hcap, hb⟩ := hx
    split at h
    · rename_i s hs
      rw [hlo0 rfl, hhi0 rfl]
      split at h
      · rename_i hsz; subst hsz
        simp only [Option.some.injEq, Prod.mk.injEq] at h
        obtain ⟨rfl, rfl⟩ := h
        have hr := rep_slice_cut hcap hb (Nat.zero_le len) (Nat.le_refl len)
        simp only [Nat.zero_mul, Nat.add_zero, Nat.sub_zero] at hr
        refine ⟨_, ?_, hr⟩
        simp [Instr.sliceAt, Instr.slice, underlying, hu, Instr.sliceBounds, asize_run hs]
      · cases h
    · rename_i s k n hs
      obtain ⟨z', e1, r1⟩ := hlo _ rfl
      have : z' = .int k n := r1
      subst this
      rw [e1, hhi0 rfl]
      split at h
      · rename_i hsz; subst hsz
        simp only [Option.some.injEq, Prod.mk.injEq] at h
        obtain ⟨rfl, rfl⟩ := h
        refine ⟨_, ?_, rep_slice_cut hcap hb (lo := n.toNat) (hi := len) hp.2 (Nat.le_refl len)⟩
        simp [Instr.sliceAt, Instr.slice, underlying, hu, Instr.sliceBounds, asize_run hs, sliceBound_run hp.1 hp.2]
      · cases h
    · rename_i s k n hs
      obtain ⟨z', e1, r1⟩ := hhi _ rfl
      have : z' = .int k n := r1
      subst this
      rw [e1, hlo0 rfl]
      split at h
      · rename_i hsz; subst hsz
        simp only [Option.some.injEq, Prod.mk.injEq] at h
        obtain ⟨rfl, rfl⟩ := h
        have hr := rep_slice_cut hcap hb (lo := 0) (hi := n.toNat) (Nat.zero_le _) hp.2
        simp only [Nat.zero_mul, Nat.add_zero, Nat.sub_zero] at hr
        refine ⟨_, ?_, hr⟩
        simp [Instr.sliceAt, Instr.slice, underlying, hu, Instr.sliceBounds, asize_run hs, sliceBound_run (y := cap) hp.1 (by omega)]
      · cases h
    · rename_i s k n k' m hs
      obtain ⟨z', e1, r1⟩ := hlo _ rfl
      have : z' = .int k n := r1
      subst this
      obtain ⟨z2, e2, r2⟩ := hhi _ rfl
      have : z2 = .int k' m := r2
      subst this
      rw [e1, e2]
      split at h
      · rename_i hsz; subst hsz
        simp only [Option.some.injEq, Prod.mk.injEq] at h
        obtain ⟨rfl, rfl⟩ := h
        obtain ⟨p1, p2, p3, p4⟩ := hp
        refine ⟨_, ?_, rep_slice_cut hcap hb (lo := n.toNat) (hi := m.toNat) p2 p4⟩
        simp [Instr.sliceAt, Instr.slice, underlying, hu, Instr.sliceBounds, asize_run hs, sliceBound_run (y := cap) p3 (by omega), sliceBound_run (y := m.toNat) p1 p2]
      · cases h
    · cases h
  · rename_i e c xs hu
    rw [hmx0 rfl]
    split at h
    case isFalse => cases h
    rename_i hs
    obtain ⟨base, cap, rfl, hcap, hb⟩ := hx
    split at h
    · rw [hlo0 rfl, hhi0 rfl]
      simp only [Option.some.injEq, Prod.mk.injEq] at h
      obtain ⟨rfl, rfl⟩ := h
      have hr := rep_iview_cut (V := V) hcap hb (lo := 0) (hi := xs.length) (Nat.zero_le _) (Nat.le_refl _)
      simp only [Nat.zero_mul, Nat.sub_zero, List.drop_zero, List.take_length] at hr
      refine ⟨_, ?_, hr⟩
      simp [Instr.sliceAt, Instr.slice, underlying, hu, Instr.sliceBounds, asize_run hs]
    · rename_i k n
      obtain ⟨z', e1, r1⟩ := hlo _ rfl
      have : z' = .int k n := r1
      subst this
      rw [e1, hhi0 rfl]
      simp only [Option.some.injEq, Prod.mk.injEq] at h
      obtain ⟨rfl, rfl⟩ := h
      have hr := rep_iview_cut (V := V) hcap hb (lo := n.toNat) (hi := xs.length) hp.2 (Nat.le_refl _)
      rw [List.take_length] at hr
      refine ⟨_, ?_, hr⟩
      simp [Instr.sliceAt, Instr.slice, underlying, hu, Instr.sliceBounds, asize_run hs, sliceBound_run hp.1 hp.2]
    · rename_i k n
      obtain ⟨z', e1, r1⟩ := hhi _ rfl
      have : z' = .int k n := r1
      subst this
      rw [e1, hlo0 rfl]
      simp only [Option.some.injEq, Prod.mk.injEq] at h
      obtain ⟨rfl, rfl⟩ := h
      have hr := rep_iview_cut (V := V) hcap hb (lo := 0) (hi := n.toNat) (Nat.zero_le _) hp.2
      simp only [Nat.zero_mul, Nat.sub_zero, List.drop_zero] at hr
      refine ⟨_, ?_, hr⟩
      simp [Instr.sliceAt, Instr.slice, underlying, hu, Instr.sliceBounds, asize_run hs, sliceBound_run (y := cap) hp.1 (Nat.le_trans hp.2 hcap)]
    · rename_i k n k' m
      obtain ⟨z', e1, r1⟩ := hlo _ rfl
      have : z' = .int k n := r1
      subst this
      obtain ⟨z2, e2, r2⟩ := hhi _ rfl
      have : z2 = .int k' m := r2
      subst this
      rw [e1, e2]
      simp only [Option.some.injEq, Prod.mk.injEq] at h
      obtain ⟨rfl, rfl⟩ := h
      obtain ⟨p1, p2, p3, p4⟩ := hp
      refine ⟨_, ?_, rep_iview_cut (V := V) hcap hb (lo := n.toNat) (hi := m.toNat) p2 p4⟩
      simp [Instr.sliceAt, Instr.slice, underlying, hu, Instr.sliceBounds, asize_run hs, sliceBound_run (y := cap) p3 (Nat.le_trans p4 hcap), sliceBound_run (y := m.toNat) p1 p2]
    · cases h
  · rename_i e q w0 row hu
    rw [hmx0 rfl]
    split at h
    case isFalse => cases h
    rename_i hs
    obtain ⟨base, cap, rfl, hcap, hb⟩ := hx
    split at h
    · rw [hlo0 rfl, hhi0 rfl]
      simp only [Option.some.injEq, Prod.mk.injEq] at h
      obtain ⟨rfl, rfl⟩ := h
      have hr := rep_view_cut (V := V) hcap hb (lo := 0) (hi := q) (Nat.zero_le _) (Nat.le_refl _)
      simp only [Nat.zero_mul, Nat.sub_zero, Nat.zero_add] at hr
      refine ⟨_, ?_, hr⟩
      simp [Instr.sliceAt, Instr.slice, underlying, hu, Instr.sliceBounds, asize_run hs]
    · rename_i k n
      obtain ⟨z', e1, r1⟩ := hlo _ rfl
      have : z' = .int k n := r1
      subst this
      rw [e1, hhi0 rfl]
      simp only [Option.some.injEq, Prod.mk.injEq] at h
      obtain ⟨rfl, rfl⟩ := h
      refine ⟨_, ?_, rep_view_cut (V := V) hcap hb (lo := n.toNat) (hi := q) hp.2 (Nat.le_refl _)⟩
      simp [Instr.sliceAt, Instr.slice, underlying, hu, Instr.sliceBounds, asize_run hs, sliceBound_run hp.1 hp.2]
    · rename_i k n
      obtain ⟨z', e1, r1⟩ := hhi _ rfl
      have : z' = .int k n := r1
      subst this
      rw [e1, hlo0 rfl]
      simp only [Option.some.injEq, Prod.mk.injEq] at h
      obtain ⟨rfl, rfl⟩ := h
      have hr := rep_view_cut (V := V) hcap hb (lo := 0) (hi := n.toNat) (Nat.zero_le _) hp.2
      simp only [Nat.zero_mul, Nat.sub_zero, Nat.zero_add] at hr
      refine ⟨_, ?_, hr⟩
      simp [Instr.sliceAt, Instr.slice, underlying, hu, Instr.sliceBounds, asize_run hs, sliceBound_run (y := cap) hp.1 (Nat.le_trans hp.2 hcap)]
    · rename_i k n k' m
      obtain ⟨z', e1, r1⟩ := hlo _ rfl
      have : z' = .int k n := r1
      subst this
      obtain ⟨z2, e2, r2⟩ := hhi _ rfl
      have : z2 = .int k' m := r2
      subst this
      rw [e1, e2]
      simp only [Option.some.injEq, Prod.mk.injEq] at h
      obtain ⟨rfl, rfl⟩ := h
      obtain ⟨p1, p2, p3, p4⟩ := hp
      refine ⟨_, ?_, rep_view_cut (V := V) hcap hb (lo := n.toNat) (hi := m.toNat) p2 p4⟩
      simp [Instr.sliceAt, Instr.slice, underlying, hu, Instr.sliceBounds, asize_run hs, sliceBound_run (y := cap) p3 (Nat.le_trans p4 hcap), sliceBound_run (y := m.toNat) p1 p2]
    · cases h
  · rename_i s hu
    rw [hmx0 rfl]
    have e1 : x = .string s := hx
    subst e1
    split at h
    · rw [hlo0 rfl, hhi0 rfl]
      simp only [Option.some.injEq, Prod.mk.injEq] at h
      obtain ⟨rfl, rfl⟩ := h
      refine ⟨_, ?_, rfl⟩
      simp [Instr.sliceAt, Instr.slice, underlying, hu, Instr.sliceBounds]
    · rename_i k n
      obtain ⟨z', e1, r1⟩ := hlo _ rfl
      have : z' = .int k n := r1
      subst this
      rw [e1, hhi0 rfl]
      simp only [Option.some.injEq, Prod.mk.injEq] at h
      obtain ⟨rfl, rfl⟩ := h
      refine ⟨_, ?_, rfl⟩
      simp [Instr.sliceAt, Instr.slice, underlying, hu, Instr.sliceBounds, sliceBound_run hp.1 hp.2]
    · rename_i k n
      obtain ⟨z', e1, r1⟩ := hhi _ rfl
      have : z' = .int k n := r1
      subst this
      rw [e1, hlo0 rfl]
      simp only [Option.some.injEq, Prod.mk.injEq] at h
      obtain ⟨rfl, rfl⟩ := h
      refine ⟨_, ?_, rfl⟩
      simp [Instr.sliceAt, Instr.slice, underlying, hu, Instr.sliceBounds, sliceBound_run hp.1 hp.2]
    · rename_i k n k' m
      obtain ⟨z', e1, r1⟩ := hlo _ rfl
      have : z' = .int k n := r1
      subst this
      obtain ⟨z2, e2, r2⟩ := hhi _ rfl
      have : z2 = .int k' m := r2
      subst this
      rw [e1, e2]
      simp only [Option.some.injEq, Prod.mk.injEq] at h
      obtain ⟨rfl, rfl⟩ := h
      obtain ⟨p1, p2, p3, p4⟩ := hp
      refine ⟨_, ?_, rfl⟩
      simp [Instr.sliceAt, Instr.slice, underlying, hu, Instr.sliceBounds, sliceBound_run (y := s.size) p3 p4, sliceBound_run (y := m.toNat) p1 p2]
    · cases h
  · cases h

end
end Go.Sh
