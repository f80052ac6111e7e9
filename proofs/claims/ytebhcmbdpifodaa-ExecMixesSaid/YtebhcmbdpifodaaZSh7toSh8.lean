import Derived.Laws.Append
import Derived.IntWalk
import Derived.MapKept
import Derived.Test.YtebhcmbdpifodaaZSh1toSh6t
set_option linter.all false
namespace Go.Sh
open Go
variable [Con] {A : Type} {I : Itp A}
section
variable {P : Program} {V : Val}

theorem repP_map {ρ : Operand → AVal} {ρ' : Operand → Value} (hρ : ∀ x, Rep V (ρ x) (ρ' x)) : ∀ l : List (Nat × Operand), RepP V (l.map fun x => (x.1, ρ x.2)) (l.map fun x => (x.1, ρ' x.2))
  | [] => .nil
  | x :: l => .cons (hρ x.2) (repP_map hρ l)
theorem repL_map {ρ : Operand → AVal} {ρ' : Operand → Value} (hρ : ∀ x, Rep V (ρ x) (ρ' x)) : ∀ l : List Operand, RepL V (l.map ρ) (l.map ρ')
  | [] => by simp [RepL]
  | x :: l => ⟨_, _, rfl, hρ x, repL_map hρ l⟩

theorem fieldPlaces_run {w : World} : ∀ (fs : List Field) (l : List (Nat × Nat)), (∀ f ∈ fs, asize P f.type ≠ none) →
    ∃ out, (fs.mapM (fun f => do Pure.pure (f.offset, ← sizeOf f.type) : Field → Sem (Nat × Nat))).run P w = .ok out w ∧ ∀ i : Nat, out[i]? = (fs[i]?).bind fun f => (asize P f.type).map fun n => (f.offset, n) := by
  intro fs
  induction fs with
  | nil => intro l h; exact ⟨[], by simp, by simp⟩
  | cons f fs ih =>
    intro l h
    obtain ⟨out, h1, h2⟩ := ih l (fun g hg => h g (by simp [hg]))
    cases e : asize P f.type with
    | none => exact (h f (by simp) e).elim
    | some n =>
      refine ⟨(f.offset, n) :: out, ?_, ?_⟩
      · rw [List.mapM_cons]; simp only [Sem.run_bind, asize_run e, Result.andThen_ok, Sem.run_pure, h1]
      · intro i
        cases i with
        | zero => simp [e]
        | succ i => simpa using h2 i

theorem abuild_run {t : TypeId} {ps : List (Nat × AVal)} {qs : List (Nat × Value)} {v : AVal} {w : World} (h : abuild P t ps = some v) (hp : RepP V ps qs) :
    ∃ v', (Instr.build t qs.toArray).run P w = .ok v' w ∧ Rep V v v' := by
  unfold abuild at h
  split at h
  · rename_i z fs hz hu
    by_cases hall0 : fs.toList.all (fun f => (asize P f.type).isSome) = true
    case neg => rw [if_neg hall0] at h; cases h
    rw [if_pos hall0] at h
    have hall : ∀ f ∈ fs.toList, asize P f.type ≠ none := by
      intro f hf
      have := List.all_eq_true.1 hall0 f hf
      cases e : asize P f.type <;> simp_all
    obtain ⟨zv, rfl, hzr⟩ := azero_run (w := w) hz
    cases hf : afill (fieldPlaces P fs) (ofVal zv).cells ps with
    | none => rw [hf] at h; cases h
    | some out =>
      rw [hf] at h; simp at h; subst h
      obtain ⟨pl, h1, h2⟩ := fieldPlaces_run (P := P) (w := w) fs.toList [] hall
      have hpl : (fun i => pl.toArray[i]?) = fieldPlaces P fs := by
        funext i
        have e := h2 i
        unfold fieldPlaces
        have e2 : pl.toArray[i]? = pl[i]? := by simp
        rw [e2, e, Array.getElem?_toList]
        cases fs[i]? <;> rfl
      obtain ⟨out', h3, h4⟩ := afill_run (V := V) hp (rep_cells_val V zv) hf
      refine ⟨.agg out', ?_, ⟨out', rfl, h4⟩⟩
      have hm : (fs.mapM (fun f => do Pure.pure (f.offset, ← sizeOf f.type) : Field → Sem (Nat × Nat))).run P w = .ok pl.toArray w := by
        rw [Array.mapM_eq_mapM_toList, Sem.run_map, h1]; rfl
      have h3' : Instr.fill (fun i => pl.toArray[i]?) zv.cells qs = some out' := by rw [hpl]; exact h3
      simp only [Instr.build, Sem.run_bind, hzr, Result.andThen_ok, underlying, run_program, hu, Sem.run_pure, hm, h3']
  · rename_i z len e hz hu
    obtain ⟨zv, rfl, hzr⟩ := azero_run (w := w) hz
    cases hs : asize P e with
    | none => rw [hs] at h; cases h
    | some s =>
      rw [hs] at h
      simp only at h
      cases hf : afill (fun i => some (i * s, s)) (ofVal zv).cells ps with
      | none => rw [hf] at h; cases h
      | some out =>
        rw [hf] at h; simp at h; subst h
        obtain ⟨out', h3, h4⟩ := afill_run (V := V) hp (rep_cells_val V zv) hf
        refine ⟨.agg out', ?_, ⟨out', rfl, h4⟩⟩
        simp only [Instr.build, Sem.run_bind, hzr, Result.andThen_ok, underlying, run_program, hu, Sem.run_pure, asize_run hs, h3]
  · cases h

theorem afill_sizes {place : Nat → Option (Nat × Nat)} : ∀ {ps : List (Nat × AVal)} {cs out : List AVal}, afill place cs ps = some out → out.length = cs.length
  | [], _, _, h => by simp [afill] at h; rw [h]
  | (i, a) :: ps, cs, out, h => by
    simp only [afill] at h
    split at h
    · cases h
    · split at h
      · have := afill_sizes h; rw [this, over_length]
      · cases h

theorem rep_slice_mk {l b k off len sz : Nat} (hl : V l = some (b, k)) (h : off + len * sz ≤ k) : Rep V (.slice l off len sz) (.slice (some ⟨b, off, none⟩) len len) :=
  ⟨_, _, rfl, Nat.le_refl _, .inl ⟨b, k, hl, rfl, h⟩⟩

theorem range_rep {z : AVal} {zv : Value} (hz : RepL V z.cells zv.cells.toList) {s : Nat} (hs : z.cells.length = s) (h0 : 0 < s) (n : Nat) :
    RepL V ((List.range n).map fun j => z.cells.getD (j % s) (.raw undef)) ((List.range n).map fun j => zv.cells[j % zv.cells.size]!) := by
  have hsz : zv.cells.size = s := by rw [← Array.length_toList, RepL.length hz, hs]
  have key : ∀ l : List Nat, RepL V (l.map fun j => z.cells.getD (j % s) (.raw undef)) (l.map fun j => zv.cells[j % zv.cells.size]!) := by
    intro l
    induction l with
    | nil => simp [RepL]
    | cons j l ih =>
      refine ⟨_, _, rfl, ?_, ih⟩
      have hlt : j % s < s := Nat.mod_lt _ h0
      obtain ⟨y, hy, ry⟩ := RepL.get hz (j % s) (z.cells.getD (j % s) (.raw undef)) (by rw [List.getD_eq_getElem?_getD, List.getElem?_eq_getElem (by omega)]; rfl)
      rw [Array.getElem?_toList] at hy
      have : zv.cells[j % zv.cells.size]! = y := by rw [hsz, getElem!_def, hy]
      show Rep V (z.cells.getD (j % s) (AVal.raw undef)) (zv.cells[j % zv.cells.size]!)
      rw [this]; exact ry
  exact key _

theorem abuildSlice_ok {t : TypeId} {len : Nat} {ps : List (Nat × AVal)} {qs : List (Nat × Value)} {h : Heap A} {r : ORes A} {hR : PHeap} {w : World} {s : Sem Next} (hr : abuildSlice P t len ps h = some r) (hp : RepP V ps qs)
    (hi : Inv I V (toF h) hR w) (hn : ∀ l, h.length ≤ l → l < h.length + r.new.length → V l = none) (hs : s = (do Pure.pure (.value (← Instr.buildSlice t len qs.toArray)))) :
    OpOk I P V h.length hR w r.v (toF (r.apply h)) r.new.length s := by
  subst hs
  unfold abuildSlice at hr
  split at hr
  · rename_i e hu
    split at hr
    · rename_i sz z hsz hz
      split at hr
      · rename_i hc
        obtain ⟨c1, c2, c3⟩ := hc
        obtain ⟨zv, rfl, hzr⟩ := azero_run (w := w) hz
        cases hf : afill (fun i => some (i * sz, sz)) ((List.range (len * sz)).map fun j => (ofVal zv).cells.getD (j % sz) (.raw undef)) ps with
        | none => rw [hf] at hr; cases hr
        | some cs =>
          rw [hf] at hr; simp at hr; subst hr
          have hzc := rep_cells_val V zv
          have h1 := range_rep hzc c2 c3 (len * sz)
          obtain ⟨out', h3, h4⟩ := afill_run (V := V) (ds := (Array.range (len * sz)).map fun j => zv.cells[j % zv.cells.size]!) hp (by simpa using h1) hf
          have hlen := afill_sizes hf
          have hosz : out'.size = len * sz := by rw [← Array.length_toList, RepL.length h4, hlen]; simp
          have hv0 := hn h.length (Nat.le_refl _) (by simp)
          have hinv := new_cells (T := e) hi hv0 h4
          have hrep : Rep (V.add h.length (w.heap.size, out'.size)) (cond (Nat.beq len 0) .empty (.slice h.length 0 len sz)) (.slice (some ⟨w.heap.size, 0, none⟩) len len) := by
            cases e0 : Nat.beq len 0 with
            | true =>
              have := Nat.eq_of_beq_eq_true e0
              subst this
              exact ⟨_, rfl⟩
            | false => exact rep_slice_mk (Val.add_self _ _ _) (b := w.heap.size) (k := out'.size) (by omega)
          refine ⟨_, _, V.add h.length (w.heap.size, out'.size), _, ?_, .inl rfl, Val.le_add hv0, add_dom, hrep, hinv, ⟨rfl, rfl, by simp, fun _ _ => frozen_alloc _ _ _ _⟩⟩
          have hbig : ¬ (len * sz > 2 ^ 24) := by omega
          simp only [Instr.buildSlice, Sem.run_bind, underlying, run_program, hu, Result.andThen_ok, Sem.run_pure, asize_run hsz]
          rw [if_neg hbig]
          by_cases h0 : len * sz = 0
          · rw [if_pos h0]
            simp only [Sem.run_pure, Result.andThen_ok, Sem.run_bind]
            have : ((Array.range (len * sz)).map fun j => (#[] : Array Value)[j % (#[] : Array Value).size]!) = ((Array.range (len * sz)).map fun j => zv.cells[j % zv.cells.size]!) := by rw [h0, Array.range_zero', Array.map_empty, Array.map_empty]
            rw [this, h3]
            simp [newRow]
          · rw [if_neg h0]
            simp only [Sem.run_pure, Result.andThen_ok, Sem.run_bind, hzr, h3]
            simp [newRow]
      · cases hr
    · cases hr
  · cases hr

theorem aindexAddr_run {t : TypeId} {a i v : AVal} {p : Option Prop} {x y : Value} {w : World} (h : aindexAddr P t a i = some (v, p)) (hp : onp p) (hx : Rep V a x) (hy : Rep V i y) :
    ∃ v', (Instr.indexAt t x y).run P w = .ok v' w ∧ Rep V v v' := by
  unfold aindexAddr at h
  split at h
  · rename_i e l off len sz k n hu
    cases hs : asize P e with
    | none => rw [hs] at h; cases h
    | some s =>
      rw [hs] at h
      simp only [Option.some.injEq, Prod.mk.injEq] at h
      obtain ⟨rfl, rfl⟩ := h
      obtain ⟨base, cap, rfl, hcap, hb⟩ := hx
      have e2 : y = .int k n := hy
      subst e2
      rcases hb with ⟨b, kk, hl, rfl, hk⟩ | ⟨h0, _⟩
      · refine ⟨.pointer (some ⟨b, off + n.toNat * s, none⟩), ?_, ⟨b, kk, hl, rfl⟩⟩
        simp [Instr.indexAt, asIntOf, underlying, hu, hp, asize_run hs, Addr.add_lit]
      · subst h0; exact absurd hp.2 (by have := hp.1; omega)
  · rename_i len e l off k n hu
    cases hs : asize P e with
    | none => rw [hs] at h; cases h
    | some s =>
      rw [hs] at h
      simp only [Option.some.injEq, Prod.mk.injEq] at h
      obtain ⟨rfl, rfl⟩ := h
      obtain ⟨b, kk, hl, rfl⟩ := hx
      have e2 : y = .int k n := hy
      subst e2
      refine ⟨.pointer (some ⟨b, off + n.toNat * s, none⟩), ?_, ⟨b, kk, hl, rfl⟩⟩
      simp [Instr.indexAt, asIntOf, underlying, hu, hp, asize_run hs, Addr.add_lit, Instr.sureAddr]
  · rename_i e c xs k n hu
    split at h
    case isFalse => cases h
    rename_i hs
    simp only [Option.some.injEq, Prod.mk.injEq] at h
    obtain ⟨rfl, rfl⟩ := h
    obtain ⟨base, cap, rfl, hcap, hb⟩ := hx
    have e2 : y = .int k n := hy
    subst e2
    have hp1 : 0 ≤ n := hp.1
    have hp2 : n < xs.length := hp.2
    rcases hb with ⟨b, off, cs, T, fz, rfl, hcon, tail, htl⟩ | h0
    · refine ⟨.pointer (some ⟨b, off + n.toNat, none⟩), ?_, b, off + n.toNat, cs, T, fz, rfl, hcon, ?_⟩
      · simp [Instr.indexAt, asIntOf, underlying, hu, hp, asize_run hs, Addr.add_lit]
      · have hlt : n.toNat < xs.length := by omega
        refine ⟨Code1.val c (xs.getD n.toNat 0), [], ?_, Code1.rep _ c _, rfl⟩
        have : (cs.toList.drop (off + n.toNat)) = Code1.val c (xs.getD n.toNat 0) :: (xs.drop (n.toNat + 1)).map (Code1.val c) ++ tail := by
          rw [← List.drop_drop, htl, List.drop_append_of_le_length (by simpa using Nat.le_of_lt hlt), ← List.map_drop, List.drop_eq_getElem_cons hlt, List.getD_eq_getElem?_getD, List.getElem?_eq_getElem hlt]
          rfl
        rw [this]; rfl
    · subst h0; simp at hp2; omega
  · rename_i e m w0 row k n hu
    split at h
    case isFalse => cases h
    rename_i hs
    simp only [Option.some.injEq, Prod.mk.injEq] at h
    obtain ⟨rfl, rfl⟩ := h
    obtain ⟨base, cap, rfl, hcap, hb⟩ := hx
    have e2 : y = .int k n := hy
    subst e2
    have hp1 : 0 ≤ n := hp.1
    have hp2 : n < m := hp.2
    rcases hb with ⟨b, off, cs, T, fz, rfl, hcon, hrow⟩ | h0
    · obtain ⟨g1, g2⟩ := hrow n.toNat (by omega)
      refine ⟨.pointer (some ⟨b, off + n.toNat * w0, none⟩), ?_, b, off + n.toNat * w0, cs, T, fz, rfl, hcon, by rw [g1]; exact g2⟩
      simp [Instr.indexAt, asIntOf, underlying, hu, hp, asize_run hs, Addr.add_lit]
    · omega
  · rename_i e l r m w0 k n hu
    split at h
    case isFalse => cases h
    rename_i hs
    simp only [Option.some.injEq, Prod.mk.injEq] at h
    obtain ⟨rfl, rfl⟩ := h
    obtain ⟨base, cap, rfl, hcap, hb⟩ := hx
    have e2 : y = .int k n := hy
    subst e2
    have hp1 : 0 ≤ n := hp.1
    have hp2 : n < m := hp.2
    rcases hb with ⟨b, kk, hl, rfl, hk⟩ | ⟨h0, _⟩
    · refine ⟨.pointer (some ⟨b, r * w0 + n.toNat * w0, none⟩), ?_, b, kk, hl, by rw [Nat.add_mul, Nat.add_zero]⟩
      simp [Instr.indexAt, asIntOf, underlying, hu, hp, asize_run hs, Addr.add_lit]
    · omega
  · rename_i len e l r w0 j k n hu
    cases hs : asize P e with
    | none => rw [hs] at h; cases h
    | some s =>
      rw [hs] at h
      simp only [Option.some.injEq, Prod.mk.injEq] at h
      obtain ⟨rfl, rfl⟩ := h
      obtain ⟨b, kk, hl, rfl⟩ := hx
      have e2 : y = .int k n := hy
      subst e2
      refine ⟨.pointer (some ⟨b, r * w0 + j + n.toNat * s, none⟩), ?_, b, kk, hl, by rw [Nat.add_assoc]⟩
      simp [Instr.indexAt, asIntOf, underlying, hu, hp, asize_run hs, Addr.add_lit, Instr.sureAddr]
  · rename_i len e as k n hu
    cases hs : asize P e with
    | none => rw [hs] at h; cases h
    | some s =>
      rw [hs] at h
      simp only [Option.some.injEq, Prod.mk.injEq] at h
      obtain ⟨rfl, rfl⟩ := h
      obtain ⟨b, off, cs, T, fz, rfl, hcon, hrep⟩ := hx
      have e2 : y = .int k n := hy
      subst e2
      refine ⟨.pointer (some ⟨b, off + n.toNat * s, none⟩), ?_, cptr_drop hcon hrep⟩
      simp [Instr.indexAt, asIntOf, underlying, hu, hp, asize_run hs, Addr.add_lit, Instr.sureAddr]
  · cases h

theorem aindex_run {t : TypeId} {a i v : AVal} {p : Option Prop} {x y : Value} {w : World} (h : aindex P t a i = some (v, p)) (hp : onp p) (hx : Rep V a x) (hy : Rep V i y) :
    ∃ v', (Instr.index t x y).run P w = .ok v' w ∧ Rep V v v' := by
  unfold aindex at h
  split at h
  · rename_i len e cs k n hu
    cases hs : asize P e with
    | none => rw [hs] at h; cases h
    | some s =>
      rw [hs] at h
      simp only at h
      cases ha : apart P e cs (n.toNat * s) with
      | none => rw [ha] at h; cases h
      | some u =>
        rw [ha] at h
        simp only [Option.map_some, Option.some.injEq, Prod.mk.injEq] at h
        obtain ⟨rfl, rfl⟩ := h
        obtain ⟨xs, rfl, rx⟩ := hx
        have e2 : y = .int k n := hy
        subst e2
        obtain ⟨v', h1, h2⟩ := apart_run (w := w) ha rx
        refine ⟨v', ?_, h2⟩
        simp [Instr.index, asIntOf, underlying, hu, hp, asize_run hs, h1]
  · rename_i s k n hu
    simp only [Option.some.injEq, Prod.mk.injEq] at h
    obtain ⟨rfl, rfl⟩ := h
    have e1 : x = .string s := hx
    have e2 : y = .int k n := hy
    subst e1 e2
    refine ⟨.int .u8 ((s.data.getD n.toNat 0).toNat : Int), ?_, rfl⟩
    have hlt : n.toNat < s.data.size := hp.2
    have hg : s[n.toNat]? = some (s.data.getD n.toNat 0) := by
      rw [getElem?_pos s n.toNat hp.2]
      congr 1
      show s.data[n.toNat] = s.data.getD n.toNat 0
      rw [Array.getD_eq_getD_getElem?, Array.getElem?_eq_getElem hlt]; rfl
    simp [Instr.index, asIntOf, underlying, hu, hp.1, hg]
  · cases h

theorem sliceBound_run {k : IntKind} {n : Int} {y : Nat} {c : BoundsCode} {w : World} (h0 : 0 ≤ n) (h1 : n.toNat ≤ y) : (Instr.sliceBound (.int k n) y c).run P w = .ok n.toNat w := by
  have : 0 ≤ n ∧ n ≤ (y : Int) := ⟨h0, by omega⟩
  simp [Instr.sliceBound, asIntOf, this]

theorem rep_slice_cut {l off len sz lo hi : Nat} {base : Option Addr} {cap : Nat} (hc : len ≤ cap)
    (hb : (∃ b k, V l = some (b, k) ∧ base = some ⟨b, off, none⟩ ∧ off + cap * sz ≤ k) ∨ (len = 0 ∧ cap = 0)) (h1 : lo ≤ hi) (h2 : hi ≤ len) :
    Rep V (.slice l (off + lo * sz) (hi - lo) sz) (.slice (if cap = lo then base else base.map (·.add (lo * sz))) (hi - lo) (cap - lo)) := by
  refine ⟨_, _, rfl, by omega, ?_⟩
  by_cases hcl : cap = lo
  · right; omega
  · rw [if_neg hcl]
    rcases hb with ⟨b, k, hl, rfl, hk⟩ | ⟨e1, e2⟩
    · left
      refine ⟨b, k, hl, by simp [Addr.add_lit], ?_⟩
      have : off + lo * sz + (cap - lo) * sz = off + cap * sz := by
        rw [Nat.add_assoc, ← Nat.add_mul]
        congr 2; omega
      omega
    · right; omega

theorem rep_iview_cut {c : Code1} {xs : List Int} {lo hi : Nat} {base : Option Addr} {cap : Nat} (hc : xs.length ≤ cap)
    (hb : (∃ b off cs T fz, base = some ⟨b, off, none⟩ ∧ Con.con b = some (.cells cs T fz) ∧ ∃ tail, cs.toList.drop off = xs.map (Code1.val c) ++ tail) ∨ xs = []) (h1 : lo ≤ hi) (h2 : hi ≤ xs.length) :
    Rep V (.iview c ((xs.take hi).drop lo)) (.slice (if cap = lo then base else base.map (·.add (lo * 1))) (hi - lo) (cap - lo)) := by
  have hl : ((xs.take hi).drop lo).length = hi - lo := by rw [List.length_drop, List.length_take]; omega
  refine ⟨_, cap - lo, by rw [hl], by rw [hl]; omega, ?_⟩
  by_cases hcl : cap = lo
  · right; exact List.length_eq_zero_iff.1 (by rw [hl]; omega)
  · rw [if_neg hcl]
    rcases hb with ⟨b, off, cs, T, fz, rfl, hcon, tail, ht⟩ | e1
    · left
      refine ⟨b, off + lo, cs, T, fz, by simp [Addr.add_lit], hcon, (xs.drop hi).map (Code1.val c) ++ tail, ?_⟩
      rw [← List.drop_drop, ht, List.drop_append_of_le_length (by simp; omega), ← List.append_assoc, ← List.map_append, ← List.map_drop]
      congr 2
      have e : (xs.take hi ++ xs.drop hi).drop lo = (xs.take hi).drop lo ++ xs.drop hi := List.drop_append_of_le_length (by rw [List.length_take]; omega)
      rw [List.take_append_drop] at e
      exact e
    · right; rw [e1]; simp
theorem rep_view_cut {n w0 : Nat} {row : Nat → List AVal} {lo hi : Nat} {base : Option Addr} {cap : Nat} (hc : n ≤ cap)
    (hb : (∃ b off cs T fz, base = some ⟨b, off, none⟩ ∧ Con.con b = some (.cells cs T fz) ∧ ∀ i, i < n → (row i).length = w0 ∧ RepL (fun _ => none) (row i) ((cs.toList.drop (off + i * w0)).take w0)) ∨ n = 0) (h1 : lo ≤ hi) (h2 : hi ≤ n) :
    Rep V (.view (hi - lo) w0 (fun i => row (lo + i))) (.slice (if cap = lo then base else base.map (·.add (lo * w0))) (hi - lo) (cap - lo)) := by
  refine ⟨_, cap - lo, rfl, by omega, ?_⟩
  by_cases hcl : cap = lo
  · right; omega
  · rw [if_neg hcl]
    rcases hb with ⟨b, off, cs, T, fz, rfl, hcon, hr⟩ | e1
    · left
      refine ⟨b, off + lo * w0, cs, T, fz, by simp [Addr.add_lit], hcon, ?_⟩
      intro i hi'
      have := hr (lo + i) (by omega)
      rw [Nat.add_mul, ← Nat.add_assoc] at this
      exact this
    · right; omega

theorem rep_isSlice {a : AVal} {x : Value} (h : a.isSlice = true) (hx : Rep V a x) : ∃ base len cap, x = .slice base len cap := by
  unfold AVal.isSlice at h
  split at h
  · obtain ⟨base, cap, e, _⟩ := hx; exact ⟨_, _, _, e⟩
  · obtain ⟨base, cap, e, _⟩ := hx; exact ⟨_, _, _, e⟩
  · obtain ⟨base, cap, e, _⟩ := hx; exact ⟨_, _, _, e⟩
  · obtain ⟨base, cap, e, _⟩ := hx; exact ⟨_, _, _, e⟩
  · obtain ⟨base, e⟩ := hx; exact ⟨_, _, _, e⟩
  · exact ⟨_, _, _, hx⟩
  · cases h

theorem rep_tslice_cut {l r len sz lo hi : Nat} {base : Option Addr} {cap : Nat} (hc : len ≤ cap)
    (hb : (∃ b k, V l = some (b, k) ∧ base = some ⟨b, r * sz, none⟩ ∧ r * sz + cap * sz ≤ k) ∨ (len = 0 ∧ cap = 0)) (h1 : lo ≤ hi) (h2 : hi ≤ len) :
    Rep V (.tslice l (r + lo) (hi - lo) sz) (.slice (if cap = lo then base else base.map (·.add (lo * sz))) (hi - lo) (cap - lo)) := by
  obtain ⟨base', cap', e, c1, c2⟩ := rep_slice_cut hc hb h1 h2
  simp only [Value.slice.injEq] at e
  obtain ⟨e1, e2, e3⟩ := e
  subst e3
  refine ⟨base', _, by rw [e1], c1, ?_⟩
  rw [Nat.add_mul]; exact c2

theorem aslice_run {t : TypeId} {a v : AVal} {lo hi mx : Option AVal} {p : Option Prop} {x : Value} {lo' hi' mx' : Option Value} {w : World} (h : aslice P t a lo hi mx = some (v, p)) (hp : onp p) (hx : Rep V a x)
    (hlo : ∀ z, lo = some z → ∃ z', lo' = some z' ∧ Rep V z z') (hlo0 : lo = none → lo' = none) (hhi : ∀ z, hi = some z → ∃ z', hi' = some z' ∧ Rep V z z') (hhi0 : hi = none → hi' = none) (hmx : ∀ z, mx = some z → ∃ z', mx' = some z' ∧ Rep V z z') (hmx0 : mx = none → mx' = none) :
    ∃ v', (Instr.sliceAt t x lo' hi' mx').run P w = .ok v' w ∧ Rep V v v' := by
  unfold aslice at h
  split at h
  · rename_i e km m hu
    split at h
    · rename_i s k b hs
      split at h
      case isFalse => cases h
      rename_i hsl
      simp only [Option.some.injEq, Prod.mk.injEq] at h
      obtain ⟨rfl, rfl⟩ := h
      obtain ⟨rfl, rfl⟩ := hp
      obtain ⟨base, len, cap, rfl⟩ := rep_isSlice hsl hx
      obtain ⟨z2, e2, r2⟩ := hhi _ rfl
      have : z2 = .int k 0 := r2
      subst this
      obtain ⟨z3, e3, r3⟩ := hmx _ rfl
      have : z3 = .int km 0 := r3
      subst this
      rw [hlo0 rfl, e2, e3]
      refine ⟨.slice base 0 0, ?_, ⟨base, rfl⟩⟩
      simp [Instr.sliceAt, Instr.slice, underlying, hu, Instr.sliceBounds, asize_run hs, sliceBound_run (y := cap) (n := 0) (by omega) (by omega), sliceBound_run (y := 0) (n := 0) (by omega) (by omega)]
    · cases h
  · rename_i e l r n0 w0 hu
    rw [hmx0 rfl]
    split at h
    case isFalse => cases h
    rename_i hs
    obtain ⟨base, cap, rfl, hcap, hb⟩ := hx
    split at h
    · rw [hlo0 rfl, hhi0 rfl]
      simp only [Option.some.injEq, Prod.mk.injEq] at h
      obtain ⟨rfl, rfl⟩ := h
      have hr := rep_tslice_cut (V := V) hcap hb (lo := 0) (hi := n0) (Nat.zero_le _) (Nat.le_refl _)
      simp only [Nat.zero_mul, Nat.sub_zero, Nat.add_zero] at hr
      refine ⟨_, ?_, hr⟩
      simp [Instr.sliceAt, Instr.slice, underlying, hu, Instr.sliceBounds, asize_run hs]
    · rename_i k n
      obtain ⟨z', e1, r1⟩ := hlo _ rfl
      have : z' = .int k n := r1
      subst this
      rw [e1, hhi0 rfl]
      simp only [Option.some.injEq, Prod.mk.injEq] at h
      obtain ⟨rfl, rfl⟩ := h
      refine ⟨_, ?_, rep_tslice_cut (V := V) hcap hb (lo := n.toNat) (hi := n0) hp.2 (Nat.le_refl _)⟩
      simp [Instr.sliceAt, Instr.slice, underlying, hu, Instr.sliceBounds, asize_run hs, sliceBound_run hp.1 hp.2]
    · rename_i k n
      obtain ⟨z', e1, r1⟩ := hhi _ rfl
      have : z' = .int k n := r1
      subst this
      rw [e1, hlo0 rfl]
      simp only [Option.some.injEq, Prod.mk.injEq] at h
      obtain ⟨rfl, rfl⟩ := h
      have hr := rep_tslice_cut (V := V) hcap hb (lo := 0) (hi := n.toNat) (Nat.zero_le _) hp.2
      simp only [Nat.zero_mul, Nat.sub_zero, Nat.add_zero] at hr
      refine ⟨_, ?_, hr⟩
      simp [Instr.sliceAt, Instr.slice, underlying, hu, Instr.sliceBounds, asize_run hs, sliceBound_run (y := cap) hp.1 (Nat.le_trans hp.2 hcap)]
    · rename_i k n k' m
      obtain ⟨z', e1, r1⟩ := hlo _ rfl
      have : z' = .int k n := r1
      subst this
      obtain ⟨z2, e2, r2⟩ := hhi _ rfl
      have : z2 = .int k' m := r2
      subst this
      rw [e1, e2]
      simp only [Option.some.injEq, Prod.mk.injEq] at h
      obtain ⟨rfl, rfl⟩ := h
      obtain ⟨p1, p2, p3, p4⟩ := hp
      refine ⟨_, ?_, rep_tslice_cut (V := V) hcap hb (lo := n.toNat) (hi := m.toNat) p2 p4⟩
      simp [Instr.sliceAt, Instr.slice, underlying, hu, Instr.sliceBounds, asize_run hs, sliceBound_run (y := cap) p3 (Nat.le_trans p4 hcap), sliceBound_run (y := m.toNat) p1 p2]
    · cases h
  · rename_i e l off len sz hu
    rw [hmx0 rfl]
    obtain ⟨base, cap, rfl, hcap, hb⟩ := hx
    split at h
    · rename_i s hs
      rw [hlo0 rfl, hhi0 rfl]
      split at h
      · rename_i hsz; subst hsz
        simp only [Option.some.injEq, Prod.mk.injEq] at h
        obtain ⟨rfl, rfl⟩ := h
        have hr := rep_slice_cut hcap hb (Nat.zero_le len) (Nat.le_refl len)
        simp only [Nat.zero_mul, Nat.add_zero, Nat.sub_zero] at hr
        refine ⟨_, ?_, hr⟩
        simp [Instr.sliceAt, Instr.slice, underlying, hu, Instr.sliceBounds, asize_run hs]
      · cases h
    · rename_i s k n hs
      obtain ⟨z', e1, r1⟩ := hlo _ rfl
      have : z' = .int k n := r1
      subst this
      rw [e1, hhi0 rfl]
      split at h
      · rename_i hsz; subst hsz
        simp only [Option.some.injEq, Prod.mk.injEq] at h
        obtain ⟨rfl, rfl⟩ := h
        refine ⟨_, ?_, rep_slice_cut hcap hb (lo := n.toNat) (hi := len) hp.2 (Nat.le_refl len)⟩
        simp [Instr.sliceAt, Instr.slice, underlying, hu, Instr.sliceBounds, asize_run hs, sliceBound_run hp.1 hp.2]
      · cases h
    · rename_i s k n hs
      obtain ⟨z', e1, r1⟩ := hhi _ rfl
      have : z' = .int k n := r1
      subst this
      rw [e1, hlo0 rfl]
      split at h
      · rename_i hsz; subst hsz
        simp only [Option.some.injEq, Prod.mk.injEq] at h
        obtain ⟨rfl, rfl⟩ := h
        have hr := rep_slice_cut hcap hb (lo := 0) (hi := n.toNat) (Nat.zero_le _) hp.2
        simp only [Nat.zero_mul, Nat.add_zero, Nat.sub_zero] at hr
        refine ⟨_, ?_, hr⟩
        simp [Instr.sliceAt, Instr.slice, underlying, hu, Instr.sliceBounds, asize_run hs, sliceBound_run (y := cap) hp.1 (by omega)]
      · cases h
    · rename_i s k n k' m hs
      obtain ⟨z', e1, r1⟩ := hlo _ rfl
      have : z' = .int k n := r1
      subst this
      obtain ⟨z2, e2, r2⟩ := hhi _ rfl
      have : z2 = .int k' m := r2
      subst this
      rw [e1, e2]
      split at h
      · rename_i hsz; subst hsz
        simp only [Option.some.injEq, Prod.mk.injEq] at h
        obtain ⟨rfl, rfl⟩ := h
        obtain ⟨p1, p2, p3, p4⟩ := hp
        refine ⟨_, ?_, rep_slice_cut hcap hb (lo := n.toNat) (hi := m.toNat) p2 p4⟩
        simp [Instr.sliceAt, Instr.slice, underlying, hu, Instr.sliceBounds, asize_run hs, sliceBound_run (y := cap) p3 (by omega), sliceBound_run (y := m.toNat) p1 p2]
      · cases h
    · cases h
  · rename_i e c xs hu
    rw [hmx0 rfl]
    split at h
    case isFalse => cases h
    rename_i hs
    obtain ⟨base, cap, rfl, hcap, hb⟩ := hx
    split at h
    · rw [hlo0 rfl, hhi0 rfl]
      simp only [Option.some.injEq, Prod.mk.injEq] at h
      obtain ⟨rfl, rfl⟩ := h
      have hr := rep_iview_cut (V := V) hcap hb (lo := 0) (hi := xs.length) (Nat.zero_le _) (Nat.le_refl _)
      simp only [Nat.zero_mul, Nat.sub_zero, List.drop_zero, List.take_length] at hr
      refine ⟨_, ?_, hr⟩
      simp [Instr.sliceAt, Instr.slice, underlying, hu, Instr.sliceBounds, asize_run hs]
    · rename_i k n
      obtain ⟨z', e1, r1⟩ := hlo _ rfl
      have : z' = .int k n := r1
      subst this
      rw [e1, hhi0 rfl]
      simp only [Option.some.injEq, Prod.mk.injEq] at h
      obtain ⟨rfl, rfl⟩ := h
      have hr := rep_iview_cut (V := V) hcap hb (lo := n.toNat) (hi := xs.length) hp.2 (Nat.le_refl _)
      rw [List.take_length] at hr
      refine ⟨_, ?_, hr⟩
      simp [Instr.sliceAt, Instr.slice, underlying, hu, Instr.sliceBounds, asize_run hs, sliceBound_run hp.1 hp.2]
    · rename_i k n
      obtain ⟨z', e1, r1⟩ := hhi _ rfl
      have : z' = .int k n := r1
      subst this
      rw [e1, hlo0 rfl]
      simp only [Option.some.injEq, Prod.mk.injEq] at h
      obtain ⟨rfl, rfl⟩ := h
      have hr := rep_iview_cut (V := V) hcap hb (lo := 0) (hi := n.toNat) (Nat.zero_le _) hp.2
      simp only [Nat.zero_mul, Nat.sub_zero, List.drop_zero] at hr
      refine ⟨_, ?_, hr⟩
      simp [Instr.sliceAt, Instr.slice, underlying, hu, Instr.sliceBounds, asize_run hs, sliceBound_run (y := cap) hp.1 (Nat.le_trans hp.2 hcap)]
    · rename_i k n k' m
      obtain ⟨z', e1, r1⟩ := hlo _ rfl
      have : z' = .int k n := r1
      subst this
      obtain ⟨z2, e2, r2⟩ := hhi _ rfl
      have : z2 = .int k' m := r2
      subst this
      rw [e1, e2]
      simp only [Option.some.injEq, Prod.mk.injEq] at h
      obtain ⟨rfl, rfl⟩ := h
      obtain ⟨p1, p2, p3, p4⟩ := hp
      refine ⟨_, ?_, rep_iview_cut (V := V) hcap hb (lo := n.toNat) (hi := m.toNat) p2 p4⟩
      simp [Instr.sliceAt, Instr.slice, underlying, hu, Instr.sliceBounds, asize_run hs, sliceBound_run (y := cap) p3 (Nat.le_trans p4 hcap), sliceBound_run (y := m.toNat) p1 p2]
    · cases h
  · rename_i e q w0 row hu
    rw [hmx0 rfl]
    split at h
    case isFalse => cases h
    rename_i hs
    obtain ⟨base, cap, rfl, hcap, hb⟩ := hx
    split at h
    · rw [hlo0 rfl, hhi0 rfl]
      simp only [Option.some.injEq, Prod.mk.injEq] at h
      obtain ⟨rfl, rfl⟩ := h
      have hr := rep_view_cut (V := V) hcap hb (lo := 0) (hi := q) (Nat.zero_le _) (Nat.le_refl _)
      simp only [Nat.zero_mul, Nat.sub_zero, Nat.zero_add] at hr
      refine ⟨_, ?_, hr⟩
      simp [Instr.sliceAt, Instr.slice, underlying, hu, Instr.sliceBounds, asize_run hs]
    · rename_i k n
      obtain ⟨z', e1, r1⟩ := hlo _ rfl
      have : z' = .int k n := r1
      subst this
      rw [e1, hhi0 rfl]
      simp only [Option.some.injEq, Prod.mk.injEq] at h
      obtain ⟨rfl, rfl⟩ := h
      refine ⟨_, ?_, rep_view_cut (V := V) hcap hb (lo := n.toNat) (hi := q) hp.2 (Nat.le_refl _)⟩
      simp [Instr.sliceAt, Instr.slice, underlying, hu, Instr.sliceBounds, asize_run hs, sliceBound_run hp.1 hp.2]
    · rename_i k n
      obtain ⟨z', e1, r1⟩ := hhi _ rfl
      have : z' = .int k n := r1
      subst this
      rw [e1, hlo0 rfl]
      simp only [Option.some.injEq, Prod.mk.injEq] at h
      obtain ⟨rfl, rfl⟩ := h
      have hr := rep_view_cut (V := V) hcap hb (lo := 0) (hi := n.toNat) (Nat.zero_le _) hp.2
      simp only [Nat.zero_mul, Nat.sub_zero, Nat.zero_add] at hr
      refine ⟨_, ?_, hr⟩
      simp [Instr.sliceAt, Instr.slice, underlying, hu, Instr.sliceBounds, asize_run hs, sliceBound_run (y := cap) hp.1 (Nat.le_trans hp.2 hcap)]
    · rename_i k n k' m
      obtain ⟨z', e1, r1⟩ := hlo _ rfl
      have : z' = .int k n := r1
      subst this
      obtain ⟨z2, e2, r2⟩ := hhi _ rfl
      have : z2 = .int k' m := r2
      subst this
      rw [e1, e2]
      simp only [Option.some.injEq, Prod.mk.injEq] at h
      obtain ⟨rfl, rfl⟩ := h
      obtain ⟨p1, p2, p3, p4⟩ := hp
      refine ⟨_, ?_, rep_view_cut (V := V) hcap hb (lo := n.toNat) (hi := m.toNat) p2 p4⟩
      simp [Instr.sliceAt, Instr.slice, underlying, hu, Instr.sliceBounds, asize_run hs, sliceBound_run (y := cap) p3 (Nat.le_trans p4 hcap), sliceBound_run (y := m.toNat) p1 p2]
    · cases h
  · rename_i s hu
    rw [hmx0 rfl]
    have e1 : x = .string s := hx
    subst e1
    split at h
    · rw [hlo0 rfl, hhi0 rfl]
      simp only [Option.some.injEq, Prod.mk.injEq] at h
      obtain ⟨rfl, rfl⟩ := h
      refine ⟨_, ?_, rfl⟩
      simp [Instr.sliceAt, Instr.slice, underlying, hu, Instr.sliceBounds]
    · rename_i k n
      obtain ⟨z', e1, r1⟩ := hlo _ rfl
      have : z' = .int k n := r1
      subst this
      rw [e1, hhi0 rfl]
      simp only [Option.some.injEq, Prod.mk.injEq] at h
      obtain ⟨rfl, rfl⟩ := h
      refine ⟨_, ?_, rfl⟩
      simp [Instr.sliceAt, Instr.slice, underlying, hu, Instr.sliceBounds, sliceBound_run hp.1 hp.2]
    · rename_i k n
      obtain ⟨z', e1, r1⟩ := hhi _ rfl
      have : z' = .int k n := r1
      subst this
      rw [e1, hlo0 rfl]
      simp only [Option.some.injEq, Prod.mk.injEq] at h
      obtain ⟨rfl, rfl⟩ := h
      refine ⟨_, ?_, rfl⟩
      simp [Instr.sliceAt, Instr.slice, underlying, hu, Instr.sliceBounds, sliceBound_run hp.1 hp.2]
    · rename_i k n k' m
      obtain ⟨z', e1, r1⟩ := hlo _ rfl
      have : z' = .int k n := r1
      subst this
      obtain ⟨z2, e2, r2⟩ := hhi _ rfl
      have : z2 = .int k' m := r2
      subst this
      rw [e1, e2]
      simp only [Option.some.injEq, Prod.mk.injEq] at h
      obtain ⟨rfl, rfl⟩ := h
      obtain ⟨p1, p2, p3, p4⟩ := hp
      refine ⟨_, ?_, rfl⟩
      simp [Instr.sliceAt, Instr.slice, underlying, hu, Instr.sliceBounds, sliceBound_run (y := s.size) p3 p4, sliceBound_run (y := m.toNat) p1 p2]
    · cases h
  · cases h

end
end Go.Sh

namespace Go.Sh
open Go
variable [Con] {A : Type} {I : Itp A}
section
variable {P : Program} {V : Val}

theorem apply_nil {h : Heap A} {r : ORes A} (h1 : r.upd = []) (h2 : r.new = []) : r.apply h = h := by
  simp [ORes.apply, h1, h2, hupd]

def RepRow (V : Val) : Entry A → List Value → Prop
  | .ints c xs, l => l = xs.map c.val
  | .cells vs, l => RepL V vs l
  | .abs _ _, _ => False
  | .tab ks rows, l => l = tabVals ks rows
  | .imap _ _ _, _ => False
  | .iter _ _ _ _ _ _, _ => False

theorem RepRow.mono {V V' : Val} (hV : V.le V') {e : Entry A} {l : List Value} (h : RepRow V e l) : RepRow V' e l := by
  cases e with
  | ints c xs => exact h
  | cells vs => exact RepL.mono hV _ _ h
  | abs t ps => exact h
  | tab ks rows => exact h
  | imap kk vc m => exact h
  | iter lm kk vc m left cur => exact h

theorem interp_row {V : Val} {l b k : Nat} {e : Entry A} {row tail : List Value} {cs : Array Value} {T : TypeId} (hl : V l = some (b, k)) (hr : RepRow V e row) (hc : cs.toList = row ++ tail) (hk : cs.size = k) :
    e.interp I V l (.one b (.cells cs T)) := by
  cases e with
  | ints c xs => have hr' : row = xs.map c.val := hr; subst hr'; exact .inr ⟨b, k, hl, cs, T, tail, rfl, hk, hc⟩
  | cells vs => exact ⟨b, k, hl, cs, T, rfl, hk, row, tail, hc, hr⟩
  | abs t ps => exact hr.elim
  | tab ks rows => have hr' : row = _ := hr; subst hr'; exact .inr ⟨b, k, hl, cs, T, tail, rfl, hk, hc⟩
  | imap kk vc m => exact hr.elim
  | iter lm kk vc m left cur => exact hr.elim

theorem interp_moved {V V' : Val} {l m : Nat} {e : Entry A} {g : PHeap} (hV : V.le V') (h : ∀ x, V l = some x → V' m = some x) (hi : e.interp I V l g) : e.interp I V' m g := by
  cases e with
  | cells vs =>
    obtain ⟨b, k, e1, cs, T, e2, e3, rs, tl, e4, r⟩ := hi
    exact ⟨b, k, h _ e1, cs, T, e2, e3, rs, tl, e4, RepL.mono hV _ _ r⟩
  | ints c xs =>
    rcases hi with ⟨e1, e2, b, hl⟩ | ⟨b, k, e1, r⟩
    · exact .inl ⟨e1, e2, b, h _ hl⟩
    · exact .inr ⟨b, k, h _ e1, r⟩
  | abs t ps =>
    obtain ⟨b, k, e1, bs, hb, r⟩ := hi
    exact ⟨b, k, h _ e1, bs, Locs.mono hV hb, r⟩
  | tab ks rows =>
    rcases hi with ⟨e1, e2, b, hl⟩ | ⟨b, k, e1, r⟩
    · exact .inl ⟨e1, e2, b, h _ hl⟩
    · exact .inr ⟨b, k, h _ e1, r⟩
  | imap kk vc m =>
    obtain ⟨b, k, e1, r⟩ := hi
    exact ⟨b, k, h _ e1, r⟩
  | iter lm kk vc m left cur =>
    obtain ⟨b, k, e1, bm, km, hm, r⟩ := hi
    exact ⟨b, k, h _ e1, bm, km, hV _ _ hm, r⟩

theorem isNilSlice_eq {a : AVal} (h : isNilSlice a = true) : a = .raw (.slice none 0 0) := by
  unfold isNilSlice at h
  split at h
  · rfl
  · cases h

theorem toCodes_row {c : Code1} : ∀ {vs : List AVal} {ns : List Int} {l : List Value}, toCodes c vs = some ns → RepL V vs l → l = ns.map c.val
  | [], ns, l, h, r => by simp [toCodes] at h; subst h; exact r
  | x :: xs, ns, l, h, ⟨v, vs', e, rv, rs⟩ => by
    simp only [toCodes] at h
    split at h
    · rename_i n ns' h1 h2
      simp at h; subst h; subst e
      rw [fromCode_val h1 rv, toCodes_row h2 rs]
      rfl
    · cases h

theorem rowsOf_vals {ks : List Code1} : ∀ {n : Nat} {vs : List AVal} {rs : List (List Int)} {l : List Value}, rowsOf ks n vs = some rs → RepL V vs l → l = tabVals ks rs
  | 0, [], rs, l, h, r => by simp [rowsOf] at h; subst h; exact r
  | 0, _ :: _, _, _, h, _ => by simp [rowsOf] at h
  | n + 1, vs, rs, l, h, r => by
    simp only [rowsOf] at h
    split at h
    · rename_i a as h1 h2
      simp at h; subst h
      obtain ⟨q1, _⟩ := rowOf_vals h1 (RepL.take r ks.length)
      have q2 := rowsOf_vals h2 (RepL.drop r ks.length)
      rw [← List.take_append_drop ks.length l, q1, q2]
      simp [tabVals]
    · cases h

theorem ajoin_row {e ey e' : Entry A} {row ws : List Value} (h : ajoin e ey = some e') (h1 : RepRow V e row) (h2 : RepRow V ey ws) : RepRow V e' (row ++ ws) := by
  unfold ajoin at h
  split at h
  · split at h
    · rename_i hc; subst hc
      simp at h; subst h
      have e1 : row = _ := h1
      have e2 : ws = _ := h2
      subst e1 e2
      simp [RepRow]
    · cases h
  · rename_i c xs vs
    cases hy : toCodes c vs with
    | none => rw [hy] at h; cases h
    | some ys =>
      rw [hy] at h; simp at h; subst h
      have e1 : row = _ := h1
      have e2 := toCodes_row hy h2
      subst e1 e2
      simp [RepRow]
  · rename_i vs c ys
    cases hy : toCodes c vs with
    | none => rw [hy] at h; cases h
    | some xs =>
      rw [hy] at h; simp at h; subst h
      have e1 := toCodes_row hy h1
      have e2 : ws = _ := h2
      subst e1 e2
      simp [RepRow]
  · simp at h; subst h
    exact RepL.append h1 h2
  · split at h
    · rename_i hc; subst hc
      simp at h; subst h
      have e1 : row = _ := h1
      have e2 : ws = _ := h2
      subst e1 e2
      exact (tabVals_append _ _ _).symm
    · cases h
  · rename_i ks xs vs
    cases hy : rowsOf ks (vs.length / ks.length) vs with
    | none => rw [hy] at h; cases h
    | some ys =>
      rw [hy] at h; simp at h; subst h
      have e1 : row = _ := h1
      have e2 := rowsOf_vals hy h2
      subst e1 e2
      exact (tabVals_append _ _ _).symm
  · cases h

theorem row_at {h : FHeap A} {hR : PHeap} {w : World} (hi : Inv I V h hR w) {l len cap sz : Nat} {e : Entry A} (hl : h l = some e) {base : Option Addr} (hsz : 0 < sz)
    (hrow : (∃ c xs, e = .ints c xs ∧ len = xs.length ∧ sz = 1) ∨ (∃ vs, e = .cells vs ∧ len * sz = vs.length) ∨ (∃ ks rows, e = .tab ks rows ∧ len = rows.length ∧ sz = ks.length))
    (hb : (∃ b k, V l = some (b, k) ∧ base = some ⟨b, 0, none⟩ ∧ 0 + cap * sz ≤ k) ∨ (len = 0 ∧ cap = 0)) :
    ∃ row, RepRow V e row ∧ row.length = len * sz ∧
      ((∃ b k cs T tail, V l = some (b, k) ∧ base = some ⟨b, 0, none⟩ ∧ w.heap[b]? = some (.cells cs T) ∧ cs.size = k ∧ cs.toList = row ++ tail ∧ cap * sz ≤ k ∧
        ∀ g, e.interp I V l g → ∃ o, g = .one b o) ∨ (len = 0 ∧ cap = 0)) := by
  have zero : ∀ n : Nat, 0 + n * sz ≤ 0 → n = 0 := by
    intro n hn
    rcases Nat.eq_zero_or_pos n with h | h
    · exact h
    · have := Nat.mul_pos h hsz; omega
  rcases hrow with ⟨c, xs, rfl, rfl, rfl⟩ | ⟨vs, rfl, hlen⟩ | ⟨ks, rows, rfl, rfl, rfl⟩
  · refine ⟨xs.map c.val, rfl, by simp, ?_⟩
    rcases hb with ⟨b', k', e5, e6, e7⟩ | hb
    · by_cases hk0 : k' = 0
      · subst hk0
        have hc := zero cap e7
        obtain ⟨hs, h1, h2, h3, h4, h5, h6⟩ := hi
        rcases h1 l _ hl with ⟨q1, _⟩ | ⟨b, k, q1, cs, T, tail, q2, q3, q4⟩
        · right; exact ⟨by simp [q1], hc⟩
        · rw [e5] at q1; cases q1
          have : xs.length + tail.length = 0 := by
            have := congrArg List.length q4
            rw [Array.length_toList, q3] at this; simpa using this.symm
          right; exact ⟨by omega, hc⟩
      · left
        have hown : ∀ g, (Entry.ints c xs : Entry A).interp I V l g → ∃ b k cs T tail, V l = some (b, k) ∧ g = .one b (.cells cs T) ∧ cs.size = k ∧ cs.toList = xs.map c.val ++ tail := by
          intro g hg
          rcases hg with ⟨_, _, b, q⟩ | ⟨b, k, q1, cs, T, tail, q2, q3, q4⟩
          · rw [e5] at q; cases q; exact (hk0 rfl).elim
          · exact ⟨b, k, cs, T, tail, q1, q2, q3, q4⟩
        obtain ⟨hs, h1, h2, h3, h4, h5, h6⟩ := hi
        obtain ⟨b, k, cs, T, tail, q1, q2, q3, q4⟩ := hown _ (h1 l _ hl)
        have hsub := h5 l
        rw [q2] at hsub
        rw [e5] at q1; cases q1
        refine ⟨b', k', cs, T, tail, e5, e6, PHeap.one_sub.1 hsub, q3, q4, by omega, ?_⟩
        intro g hg
        obtain ⟨b, k, cs, T, tail, q1, q2, _, _⟩ := hown g hg
        rw [e5] at q1; cases q1
        exact ⟨_, q2⟩
    · exact .inr hb
  · obtain ⟨b, k, cs, T, rs, tail, e1, e2, e3, e4, e5⟩ := hi.cells hl
    refine ⟨rs, e5, by rw [RepL.length e5]; exact hlen.symm, ?_⟩
    rcases hb with ⟨b', k', e6, e7, e8⟩ | hb
    · rw [e1] at e6; cases e6
      refine .inl ⟨b, k, cs, T, tail, e1, e7, e2, e3, e4, by omega, ?_⟩
      rintro g ⟨b1, k1, q1, cs1, T1, q2, _⟩
      rw [e1] at q1; cases q1
      exact ⟨_, q2⟩
    · exact .inr hb
  · refine ⟨tabVals ks rows, rfl, tabVals_length ks rows, ?_⟩
    rcases hb with ⟨b', k', e5, e6, e7⟩ | hb
    · by_cases hk0 : k' = 0
      · subst hk0
        have hc := zero cap e7
        obtain ⟨hs, h1, h2, h3, h4, h5, h6⟩ := hi
        rcases h1 l _ hl with ⟨q1, _⟩ | ⟨b, k, q1, cs, T, tail, q2, q3, q4⟩
        · right; exact ⟨by simp [q1], hc⟩
        · rw [e5] at q1; cases q1
          have : rows.length * ks.length + tail.length = 0 := by
            have := congrArg List.length q4
            rw [Array.length_toList, q3, List.length_append, tabVals_length] at this; exact this.symm
          have h0 : rows.length * ks.length = 0 := by omega
          right; exact ⟨zero rows.length (by omega), hc⟩
      · left
        have hown : ∀ g, (Entry.tab ks rows : Entry A).interp I V l g → ∃ b k cs T tail, V l = some (b, k) ∧ g = .one b (.cells cs T) ∧ cs.size = k ∧ cs.toList = tabVals ks rows ++ tail := by
          intro g hg
          rcases hg with ⟨_, _, b, q⟩ | ⟨b, k, q1, cs, T, tail, q2, q3, q4⟩
          · rw [e5] at q; cases q; exact (hk0 rfl).elim
          · exact ⟨b, k, cs, T, tail, q1, q2, q3, q4⟩
        obtain ⟨hs, h1, h2, h3, h4, h5, h6⟩ := hi
        obtain ⟨b, k, cs, T, tail, q1, q2, q3, q4⟩ := hown _ (h1 l _ hl)
        have hsub := h5 l
        rw [q2] at hsub
        rw [e5] at q1; cases q1
        refine ⟨b', k', cs, T, tail, e5, e6, PHeap.one_sub.1 hsub, q3, q4, by omega, ?_⟩
        intro g hg
        obtain ⟨b, k, cs, T, tail, q1, q2, _, _⟩ := hown g hg
        rw [e5] at q1; cases q1
        exact ⟨_, q2⟩
    · exact .inr hb

theorem tabVals_nil {ks : List Code1} {rows : List (List Int)} (hk : 0 < ks.length) (h : [] = tabVals ks rows) : rows = [] := by
  have := congrArg List.length h
  rw [tabVals_length] at this
  have h0 : rows.length * ks.length = 0 := this.symm
  cases rows with
  | nil => rfl
  | cons x xs =>
    simp only [List.length_cons, Nat.succ_mul] at h0
    omega
def Entry.wide : Entry A → Bool
  | .tab ks _ => Nat.blt 0 ks.length
  | _ => true
theorem ajoin_nil {V V' : Val} {l m : Nat} {e ey e' : Entry A} {g : PHeap} (hwd : e.wide = true) (hj : ajoin e ey = some e') (h1 : RepRow V e []) (h2 : RepRow V ey []) (hV : V.le V') (h : ∀ x, V l = some x → V' m = some x) (hi : e.interp I V l g) : e'.interp I V' m g := by
  have hm := interp_moved (I := I) hV h hi
  unfold ajoin at hj
  split at hj
  · split at hj
    · rename_i hc; subst hc
      rename_i c xs ys
      simp at hj; subst hj
      have e2 : ([] : List Value) = ys.map c.val := h2
      have : ys = [] := by cases ys with | nil => rfl | cons y ys => cases e2
      subst this
      simpa using hm
    · cases hj
  · rename_i c xs vs
    have hvs : vs = [] := List.length_eq_zero_iff.1 (RepL.length h2).symm
    subst hvs
    simp [toCodes] at hj; subst hj
    simpa using hm
  · rename_i vs c ys
    have hvs : vs = [] := List.length_eq_zero_iff.1 (RepL.length h1).symm
    subst hvs
    simp [toCodes] at hj; subst hj
    have e2 : ([] : List Value) = ys.map c.val := h2
    have : ys = [] := by cases ys with | nil => rfl | cons y ys => cases e2
    subst this
    obtain ⟨b, k, q1, cs, T, q2, q3, rs, tl, q4, q5⟩ := hm
    have : rs = [] := List.length_eq_zero_iff.1 (RepL.length q5)
    subst this
    exact .inr ⟨b, k, q1, cs, T, tl, q2, q3, by simpa using q4⟩
  · rename_i vs ws
    have hvs : vs = [] := List.length_eq_zero_iff.1 (RepL.length h1).symm
    have hws : ws = [] := List.length_eq_zero_iff.1 (RepL.length h2).symm
    subst hvs hws
    simp at hj; subst hj
    exact hm
  · rename_i ks xs ks' ys
    have hk : 0 < ks.length := Nat.le_of_ble_eq_true hwd
    split at hj
    · rename_i hc; subst hc
      simp at hj; subst hj
      have : ys = [] := tabVals_nil hk h2
      subst this
      simpa using hm
    · cases hj
  · rename_i ks xs vs
    have hk : 0 < ks.length := Nat.le_of_ble_eq_true hwd
    have hvs : vs = [] := List.length_eq_zero_iff.1 (RepL.length h2).symm
    subst hvs
    simp [rowsOf] at hj; subst hj
    simpa using hm
  · cases hj

theorem firstCells_row {w : World} {b off n sz len cap : Nat} {cs : Array Value} {T : TypeId} {fz : Nat × Nat} (hb : w.heap[b]? = some (.cells cs T fz)) (l : List Value) (hl : l.length = n * sz) (h : ∀ j v, l[j]? = some v → cs[off + j]? = some v) :
    (Builtin.firstCells sz n (.slice (some ⟨b, off, none⟩) len cap)).run P w = .ok l.toArray w := by
  simp only [Builtin.firstCells]
  rw [← hl]
  exact loadCells_row hb l h

theorem firstCells_zero {w : World} {sz len cap : Nat} {base : Option Addr} : (Builtin.firstCells sz 0 (.slice base len cap)).run P w = .ok #[] w := by
  cases base with
  | none => simp [Builtin.firstCells]
  | some a => simp [Builtin.firstCells, loadCells, loadCellsFrom]

theorem asource_run {x : AVal} {sz : Nat} {h : Heap A} {ey : Entry A} {m : Nat} {lx : List Nat} {p : Option Prop} {hR : PHeap} {w : World} {x' : Value} (hs : asource x sz h = some (ey, m, lx, p)) (hp : onp p) (hi : Inv I V (toF h) hR w) (hx : Rep V x x') :
    ∃ ws base cap, x' = .slice base m cap ∧ (∀ q, q ≤ m → (Builtin.firstCells sz q x').run P w = .ok (ws.take (q * sz)).toArray w) ∧ ws.length = m * sz ∧ RepRow V ey ws ∧ ∀ v ∈ ws, v.oneCell' = true := by
  unfold asource at hs
  split at hs
  · rename_i l off n s
    split at hs
    · rename_i hsz; subst hsz
      obtain ⟨base, cap, rfl, hcap, hb⟩ := hx
      split at hs
      · rename_i c xs hh
        split at hs
        · rename_i hs1; subst hs1
          simp only [Option.some.injEq, Prod.mk.injEq] at hs
          obtain ⟨rfl, rfl, rfl, rfl⟩ := hs
          by_cases h0 : n = 0
          · subst h0
            exact ⟨[], base, cap, rfl, fun q hq => by rw [Nat.le_zero.1 hq]; simpa using firstCells_zero, by simp, by simp [RepRow], by simp⟩
          · have hne : xs ≠ [] := by intro e; subst e; simp at hp; omega
            obtain ⟨b, k, cs, T, tail, e1, e2, e3, e4⟩ := hi.ints (l := l) hh hne
            rcases hb with ⟨b', k', e5, e6, e7⟩ | ⟨e5, _⟩
            · rw [e1] at e5; cases e5
              subst e6
              have hlen : ((xs.drop off).take n).length = n := by simp; omega
              refine ⟨((xs.drop off).take n).map c.val, _, _, rfl, ?_, by simp; omega, rfl, by
                intro v hv; obtain ⟨y, _, rfl⟩ := List.mem_map.1 hv; cases c <;> rfl⟩
              intro q hq
              refine firstCells_row e2 _ (by simp; omega) ?_
              intro j v hj
              rw [← Array.getElem?_toList, e4]
              rw [List.getElem?_take] at hj
              split at hj
              case isFalse => cases hj
              rw [List.getElem?_map, List.getElem?_take] at hj
              split at hj
              · rw [List.getElem?_drop] at hj
                cases hq : xs[off + j]? with
                | none => rw [hq] at hj; cases hj
                | some q =>
                  have hlt : off + j < xs.length := by
                    cases Nat.lt_or_ge (off + j) xs.length with
                    | inl g => exact g
                    | inr g => rw [List.getElem?_eq_none g] at hq; cases hq
                  rw [List.getElem?_append_left (by simpa using hlt), List.getElem?_map]
                  exact hj
              · cases hj
            · exact (h0 e5).elim
        · cases hs
      · rename_i vs hh
        split at hs
        · rename_i hlen2
          obtain ⟨hlen, hatom⟩ := hlen2
          simp only [Option.some.injEq, Prod.mk.injEq] at hs
          obtain ⟨rfl, rfl, rfl, rfl⟩ := hs
          obtain ⟨b, k, cs, T, rs, tail, e1, e2, e3, e4, e5⟩ := hi.cells (l := l) hh
          have hrl := RepL.length e5
          rcases hb with ⟨b', k', e6, e7, e8⟩ | ⟨e6, _⟩
          · rw [e1] at e6; cases e6
            subst e7
            have hl2 : ((rs.drop off).take (n * s)).length = n * s := by simp; omega
            refine ⟨(rs.drop off).take (n * s), _, _, rfl, ?_, hl2, RepL.take (RepL.drop e5 off) _, RepL.all (RepL.take (RepL.drop e5 off) _) hatom⟩
            intro q hq
            have hqs : q * s ≤ n * s := Nat.mul_le_mul_right _ hq
            refine firstCells_row e2 _ (by rw [List.length_take]; omega) ?_
            intro j v hj
            rw [← Array.getElem?_toList, e4]
            rw [List.getElem?_take] at hj
            split at hj
            case isFalse => cases hj
            rw [List.getElem?_take] at hj
            split at hj
            · rw [List.getElem?_drop] at hj
              rw [List.getElem?_append_left]
              · exact hj
              · cases Nat.lt_or_ge (off + j) rs.length with
                | inl g => exact g
                | inr g => rw [List.getElem?_eq_none g] at hj; cases hj
            · cases hj
          · subst e6
            exact ⟨[], base, cap, rfl, fun q hq => by rw [Nat.le_zero.1 hq]; simpa using firstCells_zero, by simp, by simp [RepRow, RepL], by simp⟩
        · cases hs
      · cases hs
    · cases hs
  · rename_i c xs
    split at hs
    case isFalse => cases hs
    rename_i hs1; subst hs1
    simp only [Option.some.injEq, Prod.mk.injEq] at hs
    obtain ⟨rfl, rfl, rfl, rfl⟩ := hs
    obtain ⟨base, cap, rfl, hcap, hb⟩ := hx
    rcases hb with ⟨b, off, cs, T, fz, rfl, hcon, tail, ht⟩ | h0
    · refine ⟨xs.map (Code1.val c), _, _, rfl, ?_, by simp, rfl, by
        intro v hv; obtain ⟨y, _, rfl⟩ := List.mem_map.1 hv; cases c <;> rfl⟩
      intro q hq
      refine firstCells_row (hi.conW hcon) _ (by simp; omega) ?_
      intro j v hj
      rw [← Array.getElem?_toList, ← List.getElem?_drop, ht]
      rw [List.getElem?_take] at hj
      split at hj
      · rw [List.getElem?_append_left]
        · exact hj
        · cases Nat.lt_or_ge j (xs.map (Code1.val c)).length with
          | inl g => exact g
          | inr g => rw [List.getElem?_eq_none g] at hj; cases hj
      · cases hj
    · subst h0
      exact ⟨[], base, cap, rfl, fun q hq => by rw [Nat.le_zero.1 hq]; simpa using firstCells_zero, by simp, by simp [RepRow], by simp⟩
  · rename_i l r n w0
    split at hs
    case isFalse => cases hs
    rename_i hw; subst hw
    split at hs
    · rename_i ks rows hh
      split at hs
      · rename_i hkw
        subst hkw
        simp only [Option.some.injEq, Prod.mk.injEq] at hs
        obtain ⟨rfl, rfl, rfl, rfl⟩ := hs
        have hp' : r + n ≤ rows.length := hp
        obtain ⟨base, cap, rfl, hcap, hb⟩ := hx
        by_cases h0 : n = 0
        · subst h0
          exact ⟨[], base, cap, rfl, fun q hq => by rw [Nat.le_zero.1 hq]; simpa using firstCells_zero, by simp, by simp [RepRow, tabVals], by simp⟩
        · have hne : rows ≠ [] := by intro e; subst e; simp at hp'; omega
          obtain ⟨b, k, cs, T, tail, e1, e2, e3, e4⟩ := hi.tab (l := l) hh hne
          rcases hb with ⟨b', k', e5, e6, e7⟩ | ⟨e5, _⟩
          · rw [e1] at e5; cases e5
            subst e6
            have hws : tabVals ks ((rows.drop r).take n) = ((tabVals ks rows).drop (r * ks.length)).take (n * ks.length) := by
              rw [tabVals_drop, tabVals_take]
            have hlen : (tabVals ks ((rows.drop r).take n)).length = n * ks.length := by
              rw [tabVals_length, List.length_take, List.length_drop, Nat.min_eq_left (by omega)]
            refine ⟨tabVals ks ((rows.drop r).take n), _, _, rfl, ?_, hlen, rfl, ?_⟩
            · intro q hq
              have hqs : q * ks.length ≤ n * ks.length := Nat.mul_le_mul_right _ hq
              refine firstCells_row e2 _ (by rw [List.length_take]; omega) ?_
              intro j v hj
              rw [← Array.getElem?_toList, e4]
              rw [hws] at hj
              rw [List.getElem?_take] at hj
              split at hj
              · rw [List.getElem?_take] at hj
                split at hj
                · rw [List.getElem?_drop] at hj
                  rw [List.getElem?_append_left]
                  · exact hj
                  · cases Nat.lt_or_ge (r * ks.length + j) (tabVals ks rows).length with
                    | inl g => exact g
                    | inr g => rw [List.getElem?_eq_none g] at hj; cases hj
                · cases hj
              · cases hj
            · intro v hv
              unfold tabVals at hv
              obtain ⟨rv, hr1, hr2⟩ := List.mem_flatten.1 hv
              obtain ⟨rw0, _, rfl⟩ := List.mem_map.1 hr1
              have : ∀ (ks : List Code1) (xs : List Int), ∀ v ∈ rowVals ks xs, v.oneCell' = true := by
                intro ks
                induction ks with
                | nil => intro xs v hv; cases hv
                | cons k ks ih =>
                  intro xs v hv
                  simp only [rowVals, List.mem_cons] at hv
                  rcases hv with rfl | hv
                  · cases k <;> rfl
                  · exact ih _ v hv
              exact this _ _ v hr2
          · exact (h0 e5).elim
      · cases hs
    · cases hs
  · simp only [Option.some.injEq, Prod.mk.injEq] at hs
    obtain ⟨rfl, rfl, rfl, rfl⟩ := hs
    obtain ⟨base, rfl⟩ := hx
    exact ⟨[], base, 0, rfl, fun q hq => by rw [Nat.le_zero.1 hq]; simpa using firstCells_zero, by simp, by simp [RepRow, RepL], by simp⟩
  · split at hs
    · rename_i hn
      have := isNilSlice_eq hn
      subst this
      simp only [Option.some.injEq, Prod.mk.injEq] at hs
      obtain ⟨rfl, rfl, rfl, rfl⟩ := hs
      have : x' = .slice none 0 0 := hx
      subst this
      exact ⟨[], none, 0, rfl, fun q hq => by rw [Nat.le_zero.1 hq]; simpa using firstCells_zero, by simp, by simp [RepRow, RepL], by simp⟩
    · cases hs

end
end Go.Sh

namespace Go.Sh
open Go
variable [Con] {A : Type} {I : Itp A}
section
variable {P : Program} {V : Val}

theorem append_fit_none {st xt ty e e2 : TypeId} {base2 : Option Addr} {sLen sCap m cap2 sz : Nat} {w : World} {ws : List Value} (h1 : P.underlying st = some (.slice e)) (h2 : P.underlying xt = some (.slice e2)) (h3 : asize P e = some sz)
    (h4 : (Builtin.firstCells sz m (.slice base2 m cap2)).run P w = .ok ws.toArray w) (h5 : sLen + m ≤ sCap) :
    (Builtin.append_ #[st, xt] ty #[.slice none sLen sCap, .slice base2 m cap2]).run P w = .ok (.slice none (sLen + m) sCap) w := by
  simp [Builtin.append_, underlying, h1, h2, asize_run h3, Builtin.lenOf, h4, h5]

theorem append_fit {st xt ty e e2 : TypeId} {a : Addr} {base2 : Option Addr} {sLen sCap m cap2 sz : Nat} {w w' : World} {ws : List Value} (h1 : P.underlying st = some (.slice e)) (h2 : P.underlying xt = some (.slice e2)) (h3 : asize P e = some sz)
    (h4 : (Builtin.firstCells sz m (.slice base2 m cap2)).run P w = .ok ws.toArray w) (h5 : sLen + m ≤ sCap) (h6 : (storeCells (a.add (sLen * sz)) ws).run P w = .ok () w') :
    (Builtin.append_ #[st, xt] ty #[.slice (some a) sLen sCap, .slice base2 m cap2]).run P w = .ok (.slice (some a) (sLen + m) sCap) w' := by
  simp [Builtin.append_, underlying, h1, h2, asize_run h3, Builtin.lenOf, h4, h5, h6]

theorem append_grow {st xt ty e e2 : TypeId} {i : TypeInfo} {z : Value} {base base2 : Option Addr} {sLen sCap m cap2 : Nat} {w : World} {ws row : List Value} (h1 : P.underlying st = some (.slice e)) (h2 : P.underlying xt = some (.slice e2)) (h3 : P.info? e = some i) (hz : i.zero = some z)
    (h4 : (Builtin.firstCells i.size m (.slice base2 m cap2)).run P { w with drawn := w.drawn + 1 } = .ok ws.toArray { w with drawn := w.drawn + 1 }) (h5 : sCap < sLen + m) (hb : i.bytes ≤ 4096) (hm : sLen + m ≤ 4294967296)
    (h6 : (Builtin.firstCells i.size sLen (.slice base sLen sCap)).run P { w with drawn := w.drawn + 1 } = .ok row.toArray { w with drawn := w.drawn + 1 }) :
    ∃ cap rest, sLen + m ≤ cap ∧ rest.length = (cap - (sLen + m)) * z.cells.size ∧
      (Builtin.append_ #[st, xt] ty #[.slice base sLen sCap, .slice base2 m cap2]).run P w =
        .ok (.slice (some ⟨w.heap.size, 0, none⟩) (sLen + m) cap) { w with drawn := w.drawn + 1, heap := w.heap.push (.cells (row ++ ws ++ rest).toArray e) } := by
  have hsz : asize P e = some i.size := by simp [asize, h3]
  have hn : ¬ (sLen + m ≤ sCap) := by omega
  have hmx : IntKind.i64.max = 9223372036854775807 := by decide
  have hn2 : ¬ ((((sLen + m : Nat) : Int) > IntKind.i64.max) ∧ (false = true ∨ i.bytes = 0)) := by rw [hmx]; omega
  have hcap := nextslicecap_le h5
  have hn3 : ¬ (Builtin.nextslicecap (sLen + m) sCap * i.bytes > 2 ^ 48) := by
    have : Builtin.nextslicecap (sLen + m) sCap * i.bytes ≤ (2 * 4294967296) * 4096 := Nat.mul_le_mul (by omega) hb
    omega
  let q := Question.appendCap (sLen + m) sCap e
  refine ⟨q.cut (w.tape w.drawn q), (Builtin.zeroCells z.cells (q.cut (w.tape w.drawn q) - (sLen + m))).toList, ?_, ?_, ?_⟩
  · show sLen + m ≤ sLen + m + _; omega
  · simp [Builtin.zeroCells]
  · have hf : Question.forced (.appendCap (sLen + m) sCap e) = false := rfl
    have hti : (typeInfo e).run P w = .ok i w := by simp [typeInfo, h3]
    have hti2 : (typeInfo e).run P { w with drawn := w.drawn + 1 } = .ok i { w with drawn := w.drawn + 1 } := by simp [typeInfo, h3]
    have hzr : (zeroValue e).run P { w with drawn := w.drawn + 1 } = .ok z { w with drawn := w.drawn + 1 } := by simp [zeroValue, typeInfo, h3, hz]
    unfold Builtin.append_
    simp only [List.getElem?_toArray, List.getElem?_cons_zero, List.getElem?_cons_succ, Sem.run_bind, underlying, run_program, Result.andThen_ok, h1, h2, Sem.run_pure, asize_run hsz, Builtin.lenOf, Bool.false_eq_true, if_false, hn, Sem.run_ite]
    simp only [hti, Result.andThen_ok, hn3, if_false, run_choose, hf, Bool.false_eq_true, Sem.run_bind, run_askRoom, h6, h4, hzr, Bool.not_false, if_true, Sem.run_pure, newRow, run_newObj, hti2, false_or]
    have hn4 : ¬ ((((sLen + m : Nat) : Int) > IntKind.i64.max) ∧ i.bytes = 0) := by rw [hmx]; omega
    rw [if_neg hn4]
    congr 3
    apply congrArg (fun c => Obj.cells c e)
    apply Array.ext'
    simp [q]


theorem bind_run {s : Sem Value} {v : Value} {w w' : World} (h : s.run P w = .ok v w') : (do Pure.pure (.value (← s)) : Sem Next).run P w = .ok (.value v) w' := by
  simp only [Sem.run_bind, h, Result.andThen_ok, Sem.run_pure]

theorem overV_end : ∀ (ws row tail : List Value), ws.length ≤ tail.length → overV (row ++ tail) row.length ws = (row ++ ws) ++ tail.drop ws.length
  | [], row, tail, _ => by simp [overV]
  | x :: ws, row, [], h => by simp at h
  | x :: ws, row, y :: tail, h => by
    simp only [overV, List.length_cons, List.drop_succ_cons]
    have e1 : (row ++ y :: tail).set row.length x = (row ++ [x]) ++ tail := by
      rw [List.set_append_right _ _ (Nat.le_refl _), Nat.sub_self]; simp
    have e2 : row.length + 1 = (row ++ [x]).length := by simp
    rw [e1, e2, overV_end ws (row ++ [x]) tail (by simp at h; omega)]
    simp

theorem OpOk.conv {P : Program} {V : Val} {n : Nat} {hR : PHeap} {w : World} {v u : AVal} {h : FHeap A} {k : Nat} {s : Sem Next} (hc : ∀ V' x, Rep V' v x → Rep V' u x) (ho : OpOk I P V n hR w v h k s) : OpOk I P V n hR w u h k s := by
  obtain ⟨nx, w', V', v', h1, h2, h3, h4, h5, h6, h7⟩ := ho
  exact ⟨nx, w', V', v', h1, h2, h3, h4, hc _ _ h5, h6, h7⟩
theorem rep_tslice0 {V : Val} {l n sz : Nat} {x : Value} (h : Rep V (.slice l 0 n sz) x) : Rep V (.tslice l 0 n sz) x := by
  obtain ⟨base, cap, e, hc, hb⟩ := h
  refine ⟨base, cap, e, hc, ?_⟩
  rw [Nat.zero_mul]; exact hb

theorem aappend_ok {st xt ty : TypeId} {s x : AVal} {h : Heap A} {r : ORes A} {hR : PHeap} {w : World} {s' x' : Value} {sem : Sem Next} (hr : aappend P st xt s x h = some r) (ho : r.obl) (hi : Inv I V (toF h) hR w)
    (hn : ∀ l, h.length ≤ l → l < h.length + r.new.length → V l = none) (hs : Rep V s s') (hx : Rep V x x') (hsem : sem = (do Pure.pure (.value (← Builtin.append_ #[st, xt] ty #[s', x'])))) :
    OpOk I P V h.length hR w r.v (toF (r.apply h)) r.new.length sem := by
  subst hsem
  unfold aappend at hr
  split at hr
  case h_2 => cases hr
  rename_i e e2 h1 h2
  cases hti : P.info? e with
  | none => rw [hti] at hr; cases hr
  | some i =>
    rw [hti] at hr
    simp only at hr
    split at hr
    case isFalse => cases hr
    rename_i hcond
    obtain ⟨hpos, hbytes, hzero⟩ := hcond
    have hsz : asize P e = some i.size := by simp [asize, hti]
    obtain ⟨z, hz, hzl⟩ : ∃ z, i.zero = some z ∧ (ofVal z).cells.length = i.size := by
      cases hz : i.zero with
      | none => rw [hz] at hzero; cases hzero
      | some z => rw [hz] at hzero; exact ⟨z, rfl, by simpa using hzero⟩
    have hzs : z.cells.size = i.size := by
      have := RepL.length (rep_cells_val V z)
      rw [Array.length_toList] at this; rw [this, hzl]
    cases hsrc : asource x i.size h with
    | none => rw [hsrc] at hr; cases hr
    | some q =>
      obtain ⟨ey, m, lx, p⟩ := q
      rw [hsrc] at hr
      simp only at hr
      -- what is appended, whatever has been drawn
      have src : ∀ n, onp p → ∃ ws base2 cap2, x' = .slice base2 m cap2 ∧ (Builtin.firstCells i.size m x').run P { w with drawn := n } = .ok ws.toArray { w with drawn := n } ∧ ws.length = m * i.size ∧ RepRow V ey ws ∧ ∀ v ∈ ws, v.oneCell' = true :=
        fun n hp => by
          obtain ⟨ws, base2, cap2, e1, e2, e3, e4, e5⟩ := asource_run hsrc hp (hi.drew n) hx
          refine ⟨ws, base2, cap2, e1, ?_, e3, e4, e5⟩
          have := e2 m (Nat.le_refl _)
          rwa [← e3, List.take_length] at this
      -- the label's row, and what it comes to
      have main : ∀ (l n : Nat) (en e' : Entry A) (base : Option Addr) (cap : Nat), hget h l = some en → s' = .slice base n cap → n ≤ cap → ajoin en ey = some e' → onp p → n + m ≤ 4294967296 →
          ((∃ c xs, en = .ints c xs ∧ n = xs.length ∧ i.size = 1) ∨ (∃ vs, en = .cells vs ∧ n * i.size = vs.length) ∨ (∃ ks rows, en = .tab ks rows ∧ n = rows.length ∧ i.size = ks.length)) →
          ((∃ b k, V l = some (b, k) ∧ base = some ⟨b, 0, none⟩ ∧ 0 + cap * i.size ≤ k) ∨ (n = 0 ∧ cap = 0)) → V h.length = none →
          OpOk I P V h.length hR w (.slice h.length 0 (n + m) i.size) (toF (hupd h [(l, none)] ++ [e'].map some)) 1 (do Pure.pure (.value (← Builtin.append_ #[st, xt] ty #[s', x']))) := by
        intro l n en e' base cap hl hs' hcap hj hp hbig hrow hb hV
        have hwd : en.wide = true := by
          rcases hrow with ⟨c, xs, rfl, _⟩ | ⟨vs, rfl, _⟩ | ⟨ks, rows, rfl, _, hk⟩
          · rfl
          · rfl
          · show Nat.blt 0 ks.length = true
            exact Nat.ble_eq_true_of_le (by omega)
        subst hs'
        have hlt := hget_lt hl
        have hF : toF (hupd h [(l, none)] ++ [e'].map some) = ((toF h).put l none).put h.length (some e') := by
          have h1 : hupd h [(l, none)] = h.set l none := rfl
          rw [h1]
          have h2 : (h.set l none).length = h.length := by simp
          have := toF_push (h.set l none) e'
          rw [h2, toF_set none hlt] at this
          exact this
        rw [hF]
        have hne : h.length ≠ l := by omega
        obtain ⟨ws, base2, cap2, rfl, hw1, hw2, hw3, hw4⟩ := src w.drawn hp
        obtain ⟨ws', base2', cap2', he', hw1', hw2', hw3', hw4'⟩ := src (w.drawn + 1) hp
        cases he'
        -- a new block
        have grow : ∀ row : List Value, RepRow V en row → row.length = n * i.size → cap < n + m → (∀ d, (Builtin.firstCells i.size n (.slice base n cap)).run P { w with drawn := d } = .ok row.toArray { w with drawn := d }) →
            OpOk I P V h.length hR w (.slice h.length 0 (n + m) i.size) (((toF h).put l none).put h.length (some e')) 1 (do Pure.pure (.value (← Builtin.append_ #[st, xt] ty #[.slice base n cap, .slice base2 m cap2]))) := by
          intro row r1 r2 hlt2 r3
          obtain ⟨ncap, rest, g1, g2, g3⟩ := append_grow (ty := ty) h1 h2 hti hz hw1' hlt2 hbytes hbig (r3 _)
          have hrow' : RepRow V e' (row ++ ws') := ajoin_row hj r1 hw3'
          have hsize : (row ++ ws' ++ rest).toArray.size = ncap * i.size := by
            simp only [List.size_toArray, List.length_append, r2, hw2', g2, hzs]
            rw [← Nat.add_mul, ← Nat.add_mul]; congr 1; omega
          have hinv := Inv.push (e := e') (k := ncap * i.size) (o := .cells (row ++ ws' ++ rest).toArray e) ((hi.drew (w.drawn + 1)).kill l) hV (by simp [FHeap.put, hne]; exact hget_ge (Nat.le_refl _))
            (interp_row (Val.add_self _ _ _) (RepRow.mono (Val.le_add hV) hrow') (by simp; rfl) hsize)
          have hrun : (do Pure.pure (.value (← Builtin.append_ #[st, xt] ty #[.slice base n cap, .slice base2 m cap2])) : Sem Next).run P w = .ok (.value (.slice (some ⟨w.heap.size, 0, none⟩) (n + m) ncap)) { w with drawn := w.drawn + 1, heap := w.heap.push (.cells (row ++ ws' ++ rest).toArray e) } := by
            simp only [Sem.run_bind, g3, Result.andThen_ok, Sem.run_pure]
          refine ⟨_, _, V.add h.length (w.heap.size, ncap * i.size), _, hrun, .inl rfl, Val.le_add hV, add_dom, ?_, hinv, ⟨rfl, rfl, by simp, fun _ _ => frozen_alloc _ _ _ _⟩⟩
          exact ⟨_, _, rfl, g1, .inl ⟨_, _, Val.add_self _ _ _, rfl, by omega⟩⟩
        -- the label's own value there
        have hVx : ∃ V' : Val, V.le V' ∧ (∀ x, V l = some x → V' h.length = some x) ∧ (∀ l, V l = none → V' l ≠ none → h.length ≤ l ∧ l < h.length + 1) := by
          cases hvl : V l with
          | none => exact ⟨V, V.le_refl, fun x e => (by cases e), fun l e f => (f e).elim⟩
          | some x => exact ⟨V.add h.length x, Val.le_add hV, fun y e => by cases e; exact Val.add_self _ _ _, add_dom⟩
        obtain ⟨V', v1, v2, v3⟩ := hVx
        obtain ⟨row, r1, r2, r3⟩ := row_at hi hl hpos hrow hb
        rcases r3 with ⟨b, k, cs, T, tail, t1, t2, t3, t4, t5, t6, t7⟩ | ⟨t1, t2⟩
        · subst t2
          have hfirst : ∀ d, (Builtin.firstCells i.size n (.slice (some ⟨b, 0, none⟩) n cap)).run P { w with drawn := d } = .ok row.toArray { w with drawn := d } := by
            intro d
            refine firstCells_row (w := { w with drawn := d }) t3 row r2 ?_
            intro j v hj
            rw [← Array.getElem?_toList, t5, Nat.zero_add, List.getElem?_append_left]
            · exact hj
            · cases Nat.lt_or_ge j row.length with
              | inl g => exact g
              | inr g => rw [List.getElem?_eq_none g] at hj; cases hj
          by_cases hfit : n + m ≤ cap
          · have hsp : n * i.size + ws.length ≤ cs.size := by
              rw [hw2, ← Nat.add_mul]
              exact Nat.le_trans (Nat.mul_le_mul_right _ hfit) (by omega)
            obtain ⟨w', cs', q1, q2, q3, q4, q5⟩ := storeCells_row (P := P) ws 0 w b (n * i.size) cs T t3 hw4 (by omega)
            have hrun := append_fit (ty := ty) (a := ⟨b, 0, none⟩) h1 h2 hsz hw1 hfit (w' := w') (by rw [Addr.add_lit, Nat.zero_add]; exact q1)
            have hrow' : RepRow V e' (row ++ ws) := ajoin_row hj r1 hw3
            have hcs' : cs'.toList = (row ++ ws) ++ tail.drop ws.length := by
              rw [q3, t5, Nat.add_zero, ← r2]
              exact overV_end ws row tail (by rw [← Array.length_toList, t5, ← r2] at hsp; simp at hsp; omega)
            have hk' : cs'.size = k := by
              rw [← Array.length_toList, q3, overV_length, Array.length_toList]; exact t4
            have hrep := hi.replace (e := en) (e' := e') hl (b := b) (o' := .cells cs' T) t7 (interp_row t1 hrow' hcs' hk') q2 q4
            have hmv := hrep.move (m := h.length) hne (e := e') (e' := e') (by simp [FHeap.put]) (by simp [FHeap.put, hne]; exact hget_ge (Nat.le_refl _)) v1 (fun g hg => interp_moved v1 v2 hg)
            have hput : (((toF h).put l (some e')).put l none).put h.length (some e') = ((toF h).put l none).put h.length (some e') := by
              funext x; by_cases hx1 : x = h.length
              · simp [FHeap.put, hx1]
              · by_cases hx2 : x = l <;> simp [FHeap.put, hx1, hx2]
            rw [hput] at hmv
            refine ⟨_, w', V', _, bind_run hrun, .inl rfl, v1, v3, ?_, hmv, q5⟩
            exact ⟨_, cap, rfl, hfit, .inl ⟨b, k, v2 _ t1, rfl, by omega⟩⟩
          · exact grow row r1 r2 (by omega) hfirst
        · subst t1 t2
          have hrow0 : row = [] := List.length_eq_zero_iff.1 (by simpa using r2)
          subst hrow0
          by_cases hm : m = 0
          · subst hm
            have hws : ws = [] := List.length_eq_zero_iff.1 (by simpa using hw2)
            subst hws
            have hrun : (Builtin.append_ #[st, xt] ty #[.slice base 0 0, .slice base2 0 cap2]).run P w = .ok (.slice base 0 0) w := by
              cases base with
              | none => exact append_fit_none h1 h2 hsz hw1 (Nat.le_refl _)
              | some a => exact append_fit h1 h2 hsz hw1 (Nat.le_refl _) (by simp [storeCells])
            refine ⟨_, w, V', _, bind_run hrun, .inl rfl, v1, v3, ?_, ?_, Grows.refl w⟩
            · exact ⟨base, 0, rfl, Nat.le_refl _, .inr ⟨rfl, rfl⟩⟩
            · exact hi.move hne hl (hget_ge (Nat.le_refl _)) v1 (fun g hg => ajoin_nil hwd hj r1 hw3 v1 v2 hg)
          · exact grow [] r1 r2 (by omega) (fun d => firstCells_zero)
      -- nothing appended to nothing
      have nil0 : ∀ (base : Option Addr), s' = .slice base 0 0 → onp p → m = 0 → Rep V (r.v) (.slice base 0 0) → OpOk I P V h.length hR w r.v (toF h) 0 (do Pure.pure (.value (← Builtin.append_ #[st, xt] ty #[s', x']))) := by
        intro base hs' hp hm hrep
        subst hs' hm
        obtain ⟨ws, base2, cap2, rfl, hw1, hw2, hw3, hw4⟩ := src w.drawn hp
        have hws : ws = [] := List.length_eq_zero_iff.1 (by simpa using hw2)
        subst hws
        have hrun : (Builtin.append_ #[st, xt] ty #[.slice base 0 0, .slice base2 0 cap2]).run P w = .ok (.slice base 0 0) w := by
          cases base with
          | none => exact append_fit_none h1 h2 hsz hw1 (Nat.le_refl _)
          | some a => exact append_fit h1 h2 hsz hw1 (Nat.le_refl _) (by simp [storeCells])
        exact OpOk.pure hi hrep (bind_run hrun)
      -- a row appended to nothing
      have nil1 : ∀ (base : Option Addr), s' = .slice base 0 0 → onp p → m ≤ 4294967296 → (ey = .cells [] → False) → V h.length = none → (RepRow V ey [] → ∀ V' : Val, (∃ b, V' h.length = some (b, 0)) → ey.interp I V' h.length .emp) →
          OpOk I P V h.length hR w (.slice h.length 0 m i.size) (toF (h ++ [some ey])) 1 (do Pure.pure (.value (← Builtin.append_ #[st, xt] ty #[s', x']))) := by
        intro base hs' o1 o2 hne hV hemp
        subst hs'
        obtain ⟨ws, base2, cap2, rfl, hw1, hw2, hw3, hw4⟩ := src (w.drawn + 1) o1
        obtain ⟨ws0, base20, cap20, h0, hw10, hw20, hw30, hw40⟩ := src w.drawn o1
        cases h0
        by_cases hm : m = 0
        · subst hm
          have hws : ws0 = [] := List.length_eq_zero_iff.1 (by simpa using hw20)
          subst hws
          have hrun : (Builtin.append_ #[st, xt] ty #[.slice base 0 0, .slice base2 0 cap2]).run P w = .ok (.slice base 0 0) w := by
            cases base with
            | none => exact append_fit_none h1 h2 hsz hw10 (Nat.le_refl _)
            | some a => exact append_fit h1 h2 hsz hw10 (Nat.le_refl _) (by simp [storeCells])
          have hinv := hi.emptyE hV (hget_ge (Nat.le_refl _)) (hemp hw30)
          refine ⟨_, w, V.add h.length (0, 0), _, bind_run hrun, .inl rfl, Val.le_add hV, add_dom, ⟨_, _, rfl, Nat.le_refl _, .inr ⟨rfl, rfl⟩⟩, ?_, Grows.refl w⟩
          rw [toF_push]; exact hinv
        · obtain ⟨ncap, rest, g1, g2, g3⟩ := append_grow (ty := ty) (base := base) (sLen := 0) (sCap := 0) (row := []) h1 h2 hti hz hw1 (by omega) hbytes (by omega) firstCells_zero
          have hsize : ([] ++ ws ++ rest).toArray.size = ncap * i.size := by
            simp only [List.size_toArray, List.length_append, hw2, g2, hzs, List.length_nil, Nat.zero_add]
            rw [← Nat.add_mul]; congr 1; omega
          have hinv := Inv.push (e := ey) (k := ncap * i.size) (o := .cells ([] ++ ws ++ rest).toArray e) (hi.drew (w.drawn + 1)) hV (hget_ge (Nat.le_refl _))
            (interp_row (Val.add_self _ _ _) (RepRow.mono (Val.le_add hV) hw3) (by simp; rfl) hsize)
          have hrun := bind_run g3
          rw [Nat.zero_add] at hrun g1
          refine ⟨_, _, V.add h.length (w.heap.size, ncap * i.size), _, hrun, .inl rfl, Val.le_add hV, add_dom, ?_, ?_, ⟨rfl, rfl, by simp, fun _ _ => frozen_alloc _ _ _ _⟩⟩
          · exact ⟨_, _, rfl, g1, .inl ⟨_, _, Val.add_self _ _ _, rfl, by omega⟩⟩
          · rw [toF_push]; exact hinv
      have nilE : (ey = .cells [] → False) → (∀ ks ys, ey = .tab ks ys → False) → RepRow V ey [] → ∀ V' : Val, (∃ b, V' h.length = some (b, 0)) → ey.interp I V' h.length .emp := by
        intro hne hne2 hr V' hb
        cases ey with
        | ints c xs => cases xs with
          | nil => exact .inl ⟨rfl, rfl, hb⟩
          | cons y ys => have e2 : ([] : List Value) = _ := hr; cases e2
        | cells vs =>
          have : vs = [] := List.length_eq_zero_iff.1 (RepL.length hr).symm
          subst this; exact (hne rfl).elim
        | abs t ps => exact hr.elim
        | tab ks ys => exact (hne2 ks ys rfl).elim
        | imap kk vc m => exact hr.elim
        | iter lm kk vc m left cur => exact hr.elim
      split at hr
      · rename_i l off n sz
        split at hr
        case isFalse => cases hr
        rename_i hc
        obtain ⟨hc1, hc2⟩ := hc
        subst hc1
        obtain ⟨base, cap, hs', hcap, hb⟩ := hs
        split at hr
        · rename_i c xs hl
          cases hj : ajoin (.ints c xs) ey with
          | none => rw [hj] at hr; cases hr
          | some e' =>
            rw [hj] at hr; simp only [Option.some.injEq] at hr; subst hr
            obtain ⟨o1, o2, o3, o4, o5⟩ := oalso_iff.1 ho
            subst o2
            exact main l n (.ints c xs) e' base cap hl hs' hcap hj o1 o5 (.inl ⟨c, xs, rfl, o3, o4⟩) hb (hn _ (Nat.le_refl _) (by simp))
        · rename_i vs hl
          split at hr
          case isFalse => cases hr
          rename_i hv
          cases hj : ajoin (.cells vs) ey with
          | none => rw [hj] at hr; cases hr
          | some e' =>
            rw [hj] at hr; simp only [Option.some.injEq] at hr; subst hr
            obtain ⟨o1, o5⟩ := oalso_iff.1 ho
            rw [hv.1] at hb
            exact main l n (.cells vs) e' base cap hl hs' hcap hj o1 o5 (.inr (.inl ⟨vs, rfl, hv.2⟩)) hb (hn _ (Nat.le_refl _) (by simp))
        · cases hr
      · rename_i l r0 n w0
        split at hr
        case isFalse => cases hr
        rename_i hc
        obtain ⟨hc1, hc2⟩ := hc
        subst hc1
        obtain ⟨base, cap, hs', hcap, hb⟩ := hs
        split at hr
        · rename_i ks rows hl
          split at hr
          case isFalse => cases hr
          rename_i hkw
          cases hj : ajoin (.tab ks rows) ey with
          | none => rw [hj] at hr; cases hr
          | some e' =>
            rw [hj] at hr; simp only [Option.some.injEq] at hr; subst hr
            obtain ⟨o1, o2, o3, o5⟩ := oalso_iff.1 ho
            subst o2
            rw [Nat.zero_mul] at hb
            exact OpOk.conv (fun _ _ => rep_tslice0) (main l n (.tab ks rows) e' base cap hl hs' hcap hj o1 o5 (.inr (.inr ⟨ks, rows, rfl, o3, hkw.symm⟩)) hb (hn _ (Nat.le_refl _) (by simp)))
        · cases hr
      · obtain ⟨base, hs'⟩ := hs
        split at hr
        · simp only [Option.some.injEq] at hr; subst hr
          obtain ⟨o1, o2⟩ := oalso_iff.1 ho
          subst o2
          rw [apply_nil rfl rfl]
          exact nil0 base hs' o1 rfl ⟨base, rfl⟩
        · split at hr
          case isFalse => cases hr
          rename_i ks ys hk
          simp only [Option.some.injEq] at hr; subst hr
          obtain ⟨o1, o2⟩ := oalso_iff.1 ho
          exact OpOk.conv (fun _ _ => rep_tslice0) (nil1 base hs' o1 o2 (fun h => by cases h) (hn _ (Nat.le_refl _) (by simp)) (fun h => by
            refine fun V' hb => ?_
            have : ys = [] := tabVals_nil (by omega) h
            subst this
            exact .inl ⟨rfl, rfl, hb⟩))
        · rename_i hne hne2
          simp only [Option.some.injEq] at hr; subst hr
          obtain ⟨o1, o2⟩ := oalso_iff.1 ho
          exact nil1 base hs' o1 o2 (fun h => hne h) (hn _ (Nat.le_refl _) (by simp)) (nilE hne hne2)
      · split at hr
        case isFalse => cases hr
        rename_i hnil
        have := isNilSlice_eq hnil
        subst this
        have hs' : s' = .slice none 0 0 := hs
        split at hr
        · simp only [Option.some.injEq] at hr; subst hr
          obtain ⟨o1, o2⟩ := oalso_iff.1 ho
          subst o2
          rw [apply_nil rfl rfl]
          exact nil0 none hs' o1 rfl rfl
        · split at hr
          case isFalse => cases hr
          rename_i ks ys hk
          simp only [Option.some.injEq] at hr; subst hr
          obtain ⟨o1, o2⟩ := oalso_iff.1 ho
          exact OpOk.conv (fun _ _ => rep_tslice0) (nil1 none hs' o1 o2 (fun h => by cases h) (hn _ (Nat.le_refl _) (by simp)) (fun h => by
            refine fun V' hb => ?_
            have : ys = [] := tabVals_nil (by omega) h
            subst this
            exact .inl ⟨rfl, rfl, hb⟩))
        · rename_i hne hne2
          simp only [Option.some.injEq] at hr; subst hr
          obtain ⟨o1, o2⟩ := oalso_iff.1 ho
          exact nil1 none hs' o1 o2 (fun h => hne h) (hn _ (Nat.le_refl _) (by simp)) (nilE hne hne2)

end
end Go.Sh

namespace Go.Sh
open Go
variable [Con] {A : Type} {I : Itp A}
section
variable {P : Program} {V : Val}

theorem alen_run {t ty : TypeId} {a v : AVal} {x : Value} {w : World} (h : alen P t a = some v) (hx : Rep V a x) : ∃ v', (Builtin.len_ #[t] ty #[x]).run P w = .ok v' w ∧ Rep V v v' := by
  unfold alen at h
  split at h
  · rename_i s hu
    simp at h; subst h
    have : x = .string s := hx
    subst this
    exact ⟨_, by simp [Builtin.len_, underlying, hu, goInt], rfl⟩
  · rename_i hu
    simp at h; subst h
    obtain ⟨base, cap, rfl, _⟩ := hx
    exact ⟨_, by simp [Builtin.len_, underlying, hu, goInt], rfl⟩
  · rename_i hu
    simp at h; subst h
    have : x = .slice _ _ _ := hx
    subst this
    exact ⟨_, by simp [Builtin.len_, underlying, hu, goInt], rfl⟩
  · rename_i hu
    simp at h; subst h
    obtain ⟨base, cap, rfl, _⟩ := hx
    exact ⟨_, by simp [Builtin.len_, underlying, hu, goInt], rfl⟩
  · rename_i hu
    simp at h; subst h
    obtain ⟨base, cap, rfl, _⟩ := hx
    exact ⟨_, by simp [Builtin.len_, underlying, hu, goInt], rfl⟩
  · rename_i hu
    simp at h; subst h
    obtain ⟨base, cap, rfl, _⟩ := hx
    exact ⟨_, by simp [Builtin.len_, underlying, hu, goInt], rfl⟩
  · rename_i hu
    simp at h; subst h
    obtain ⟨base, rfl⟩ := hx
    exact ⟨.int .i64 0, by simp [Builtin.len_, underlying, hu, goInt], rfl⟩
  · rename_i n e hu
    simp at h; subst h
    exact ⟨_, by simp [Builtin.len_, underlying, hu, goInt], rfl⟩
  · cases h

theorem amin_run {w : World} : ∀ (xs : List AVal) (x v : AVal) (x' : Value) (ys : List Value), aminmax (fun m n => ilt m n) x xs = some v → Rep V x x' → RepL V xs ys → ∃ v', (ys.foldlM Builtin.min2 x').run P w = .ok v' w ∧ Rep V v v' := by
  intro xs
  induction xs with
  | nil =>
    intro x v x' ys h hx hr
    have : ys = [] := hr
    subst this
    cases x <;> simp [aminmax] at h
    subst h
    exact ⟨x', by simp, hx⟩
  | cons y xs ih =>
    rintro x v x' _ h hx ⟨y', ys, rfl, ry, rs⟩
    cases x <;> cases y <;> simp [aminmax] at h
    obtain ⟨rfl, h⟩ := h
    rename_i k n m
    have e1 : x' = .int k n := hx
    have e2 : y' = .int k m := ry
    subst e1 e2
    obtain ⟨v', h1, h2⟩ := ih _ v (.int k (if m < n then m else n)) ys h (by by_cases hc : m < n <;> simp [hc, Rep, ilt_eq]) rs
    exact ⟨v', by simp only [List.foldlM_cons, Builtin.min2, Sem.run_bind, Sem.run_pure, Result.andThen_ok, h1], h2⟩

theorem amax_run {w : World} : ∀ (xs : List AVal) (x v : AVal) (x' : Value) (ys : List Value), aminmax (fun m n => ilt n m) x xs = some v → Rep V x x' → RepL V xs ys → ∃ v', (ys.foldlM Builtin.max2 x').run P w = .ok v' w ∧ Rep V v v' := by
  intro xs
  induction xs with
  | nil =>
    intro x v x' ys h hx hr
    have : ys = [] := hr
    subst this
    cases x <;> simp [aminmax] at h
    subst h
    exact ⟨x', by simp, hx⟩
  | cons y xs ih =>
    rintro x v x' _ h hx ⟨y', ys, rfl, ry, rs⟩
    cases x <;> cases y <;> simp [aminmax] at h
    obtain ⟨rfl, h⟩ := h
    rename_i k n m
    have e1 : x' = .int k n := hx
    have e2 : y' = .int k m := ry
    subst e1 e2
    obtain ⟨v', h1, h2⟩ := ih _ v (.int k (if m > n then m else n)) ys h (by by_cases hc : m > n <;> simp [hc, Rep, ilt_eq]) rs
    exact ⟨v', by simp only [List.foldlM_cons, Builtin.max2, Sem.run_bind, Sem.run_pure, Result.andThen_ok, h1], h2⟩

theorem codeOf_val {z : Value} {c : Code1} (h : codeOf z = some c) : z = c.val 0 := by
  unfold codeOf at h
  split at h
  · simp at h; subst h; rfl
  · simp at h; subst h; rfl
  · cases h

theorem range_one {v : Value} (n : Nat) : ((Array.range n).map fun i => (#[v] : Array Value)[i % (#[v] : Array Value).size]!).toList = List.replicate n v := by
  apply List.ext_getElem
  · simp
  · intro i h1 h2
    simp at h1
    simp [Nat.mod_one]

theorem flatten_rep {as : List AVal} {vs : List Value} (h : RepL V as vs) : ∀ n : Nat, RepL V (List.replicate n as).flatten (List.replicate n vs).flatten
  | 0 => by simp [RepL]
  | n + 1 => by
    simp only [List.replicate_succ, List.flatten_cons]
    exact RepL.append h (flatten_rep h n)

theorem range_many {zs : Array Value} (n : Nat) : ((Array.range (n * zs.size)).map fun i => zs[i % zs.size]!).toList = (List.replicate n zs.toList).flatten := by
  rw [Array.toList_map, Array.toList_range]
  induction n with
  | zero => simp
  | succ n ih =>
    rw [Nat.succ_mul, Nat.add_comm, List.range_add, List.map_append]
    simp only [List.replicate_succ, List.flatten_cons]
    congr 1
    · apply List.ext_getElem
      · simp
      · intro i h1 h2
        simp at h1
        simp [Nat.mod_eq_of_lt h1, h1]
    · rw [← ih, List.map_map]
      apply List.map_congr_left
      intro i _
      simp

theorem makeSlice_run {t e : TypeId} {i : TypeInfo} {z : Value} {k k' : IntKind} {n : Int} {w : World} (hu : P.underlying t = some (.slice e)) (hi : P.info? e = some i) (hz : i.zero = some z) (hb : i.bytes ≤ 4096) (h0 : 0 ≤ n) (hn : n ≤ 4294967296) (hs : z.cells.size = i.size) (hp : 0 < i.size) :
    (Instr.makeSlice t (.int k n) (.int k' n)).run P w = .ok (.slice (some ⟨w.heap.size, 0, none⟩) n.toNat n.toNat) { w with heap := w.heap.push (.cells (((Array.range (n.toNat * i.size)).map fun j => z.cells[j % z.cells.size]!)) e) } := by
  have hw : IntKind.i64.wrap n = n := IntWalk.i64_in n ⟨by omega, by omega⟩
  have hti : (typeInfo e).run P w = .ok i w := by simp [typeInfo, hi]
  have h48 : ¬ ((i.bytes : Int) * n > 2 ^ 48) := by
    have : (i.bytes : Int) * n ≤ 4096 * 4294967296 := Int.mul_le_mul (by omega) hn h0 (by omega)
    omega
  have hneg : ¬ n < 0 := by omega
  have hsz : asize P e = some i.size := by simp [asize, hi]
  have hzr : (zeroValue e).run P w = .ok z w := by simp [zeroValue, typeInfo, hi, hz]
  have hd48 : decide ((i.bytes : Int) * n > 2 ^ 48) = false := by simpa using h48
  have hdneg : decide (n < 0) = false := by simpa using hneg
  by_cases hz0 : n.toNat * i.size = 0
  · simp only [Instr.makeSlice, underlying, hu, Sem.run_bind, run_program, Result.andThen_ok, Sem.run_pure, asInt, asIntOf, hti, hw, hdneg, hd48]
    simp [asize_run hsz, hz0, newRow, Array.range_zero']
  · simp only [Instr.makeSlice, underlying, hu, Sem.run_bind, run_program, Result.andThen_ok, Sem.run_pure, asInt, asIntOf, hti, hw, hdneg, hd48]
    simp [asize_run hsz, hz0, newRow, hzr]

theorem amakeSlice_ok {t : TypeId} {n m : AVal} {h : Heap A} {r : ORes A} {hR : PHeap} {w : World} {n' m' : Value} {sem : Sem Next} (hr : amakeSlice P t n m h = some r) (ho : r.obl) (hi : Inv I V (toF h) hR w)
    (hn : ∀ l, h.length ≤ l → l < h.length + r.new.length → V l = none) (h1 : Rep V n n') (h2 : Rep V m m') (hsem : sem = (do Pure.pure (.value (← Instr.makeSlice t n' m')))) :
    OpOk I P V h.length hR w r.v (toF (r.apply h)) r.new.length sem := by
  subst hsem
  unfold amakeSlice at hr
  split at hr
  case h_2 => cases hr
  rename_i e k n k' m hu
  have e1 : n' = .int k n := h1
  have e2 : m' = .int k' m := h2
  subst e1 e2
  cases hti : P.info? e with
  | none => rw [hti] at hr; cases hr
  | some i =>
    rw [hti] at hr
    simp only at hr
    split at hr
    case isFalse => cases hr
    rename_i hc
    obtain ⟨hb, hp⟩ := hc
    cases hz : i.zero with
    | none => rw [hz] at hr; cases hr
    | some z =>
      rw [hz] at hr
      simp only at hr
      have hzl := RepL.length (rep_cells_val V z)
      rw [Array.length_toList] at hzl
      cases hco : codeOf z with
      | some c =>
        rw [hco] at hr
        simp only at hr
        split at hr
        case isFalse => cases hr
        rename_i hs1
        simp only [Option.some.injEq] at hr; subst hr
        obtain ⟨o1, rfl, o3⟩ := ho
        have hzv := codeOf_val hco
        have hcell : z.cells = #[c.val 0] := by rw [hzv]; cases c <;> rfl
        have hrun := makeSlice_run (k := k) (k' := k') (w := w) hu hti hz hb o1 o3 (by rw [hcell, hs1]; rfl) hp
        have hV := hn h.length (Nat.le_refl _) (by simp)
        rw [hs1, Nat.mul_one, hcell] at hrun
        have hinv := Inv.push (e := .ints c (List.replicate n.toNat 0)) (k := n.toNat) (o := .cells ((Array.range n.toNat).map fun j => (#[c.val 0] : Array Value)[j % (#[c.val 0] : Array Value).size]!) e) hi hV (hget_ge (Nat.le_refl _))
          (interp_row (row := List.replicate n.toNat (c.val 0)) (tail := []) (Val.add_self _ _ _) (by simp [RepRow]) (by rw [range_one]; simp) (by simp))
        refine ⟨_, _, V.add h.length (w.heap.size, n.toNat), _, bind_run hrun, .inl rfl, Val.le_add hV, add_dom, ?_, ?_, ⟨rfl, rfl, by simp, fun _ _ => frozen_alloc _ _ _ _⟩⟩
        · exact ⟨_, _, rfl, Nat.le_refl _, .inl ⟨_, _, Val.add_self _ _ _, rfl, by omega⟩⟩
        · show Inv I _ (toF (h ++ [some _])) hR _
          rw [toF_push]; exact hinv
      | none =>
        rw [hco] at hr
        cases hnp : isNilPtr z with
        | true => rw [hnp] at hr; cases hr
        | false =>
        rw [hnp] at hr
        simp only [cond_false, Option.some.injEq] at hr; subst hr
        obtain ⟨⟨o1, rfl, o3⟩, o4⟩ := ho
        have hzs : z.cells.size = i.size := by rw [hzl]; exact o4
        have hrun := makeSlice_run (k := k) (k' := k') (w := w) hu hti hz hb o1 o3 hzs hp
        have hV := hn h.length (Nat.le_refl _) (by simp)
        have hrep := flatten_rep (rep_cells_val V z) n.toNat
        rw [← hzs] at hrun
        have hinv := Inv.push (e := .cells ((List.replicate n.toNat (ofVal z).cells).flatten)) (k := n.toNat * i.size) (o := .cells ((Array.range (n.toNat * z.cells.size)).map fun j => z.cells[j % z.cells.size]!) e) hi hV (hget_ge (Nat.le_refl _))
          (interp_row (row := (List.replicate n.toNat z.cells.toList).flatten) (tail := []) (Val.add_self _ _ _) (RepL.mono (Val.le_add hV) _ _ hrep) (by rw [range_many]; simp) (by simp [hzs]))
        refine ⟨_, _, V.add h.length (w.heap.size, n.toNat * i.size), _, bind_run hrun, .inl rfl, Val.le_add hV, add_dom, ?_, ?_, ⟨rfl, rfl, by simp, fun _ _ => frozen_alloc _ _ _ _⟩⟩
        · exact ⟨_, _, rfl, Nat.le_refl _, .inl ⟨_, _, Val.add_self _ _ _, rfl, by omega⟩⟩
        · show Inv I _ (toF (h ++ [some _])) hR _
          rw [toF_push]; exact hinv

theorem overV_ints (c : Code1) : ∀ (ys xs : List Int) (off : Nat), off + ys.length ≤ xs.length → overV (xs.map c.val) off (ys.map c.val) = (overI xs off ys).map c.val
  | [], xs, off, _ => by simp [overV, overI]
  | y :: ys, xs, off, h => by
    simp only [List.length_cons] at h
    simp only [List.map_cons, overV]
    rw [← List.map_set, overV_ints c ys (xs.set off y) (off + 1) (by simp; omega)]
    congr 1
    unfold overI
    rw [List.take_set, List.drop_set_of_lt (by omega)]
    have hlt : off < xs.length := by omega
    have e1 : (xs.take (off + 1)).set off y = xs.take off ++ [y] := by
      rw [List.take_succ_eq_append_getElem hlt, List.set_append_right _ _ (by simp; omega)]
      have : off - (List.take off xs).length = 0 := by rw [List.length_take]; omega
      rw [this]; rfl
    rw [e1]
    simp [Nat.add_assoc, Nat.add_comm 1 ys.length]

theorem copy_none {dt xt ty e : TypeId} {base2 : Option Addr} {n cap m cap2 sz : Nat} {w : World} {ws : List Value} (h1 : P.underlying dt = some (.slice e)) (h3 : asize P e = some sz)
    (h4 : (Builtin.firstCells sz (Nat.min m n) (.slice base2 m cap2)).run P w = .ok ws.toArray w) :
    (Builtin.copy_ #[dt, xt] ty #[.slice none n cap, .slice base2 m cap2]).run P w = .ok (.int .i64 ((Nat.min m n : Nat) : Int)) w := by
  generalize hq : Nat.min m n = q at *
  simp [Builtin.copy_, underlying, h1, Builtin.lenOf, asize_run h3, hq, h4, goInt]
theorem copy_some {dt xt ty e : TypeId} {a : Addr} {base2 : Option Addr} {n cap m cap2 sz : Nat} {w w' : World} {ws : List Value} (h1 : P.underlying dt = some (.slice e)) (h3 : asize P e = some sz)
    (h4 : (Builtin.firstCells sz (Nat.min m n) (.slice base2 m cap2)).run P w = .ok ws.toArray w) (h6 : (storeCells a ws).run P w = .ok () w') :
    (Builtin.copy_ #[dt, xt] ty #[.slice (some a) n cap, .slice base2 m cap2]).run P w = .ok (.int .i64 ((Nat.min m n : Nat) : Int)) w' := by
  generalize hq : Nat.min m n = q at *
  simp [Builtin.copy_, underlying, h1, Builtin.lenOf, asize_run h3, hq, h4, h6, goInt]

theorem acopy_ok {dt xt ty : TypeId} {d x : AVal} {h : Heap A} {r : ORes A} {hR : PHeap} {w : World} {d' x' : Value} {sem : Sem Next} (hr : acopy P dt d x h = some r) (ho : r.obl) (hi : Inv I V (toF h) hR w)
    (h1 : Rep V d d') (h2 : Rep V x x') (hsem : sem = (do Pure.pure (.value (← Builtin.copy_ #[dt, xt] ty #[d', x'])))) :
    OpOk I P V h.length hR w r.v (toF (r.apply h)) r.new.length sem := by
  subst hsem
  unfold acopy at hr
  split at hr
  case h_2 => cases hr
  rename_i e hu
  split at hr
  case h_2 => cases hr
  rename_i l off n hs
  obtain ⟨base, cap, rfl, hcap, hb⟩ := h1
  split at hr
  · rename_i c xs c' ys m lx p hl hsrc
    split at hr
    case isFalse => cases hr
    rename_i hc
    obtain ⟨rfl, hc2⟩ := hc
    simp only [Option.some.injEq] at hr; subst hr
    obtain ⟨o1, o2⟩ := oalso_iff.1 ho
    obtain ⟨ws, base2, cap2, rfl, s2, s3', s3, s4⟩ := asource_run (V := V) hsrc o1 hi h2
    have e3 : ws = ys.map c.val := s3
    have hlt := hget_lt hl
    have first := s2 (Nat.min m n) (Nat.min_le_left _ _)
    rw [Nat.mul_one] at first
    have hF : toF (hupd h [(l, some (.ints c (overI xs off (ys.take (min m n)))))] ++ ([] : List (Option (Entry A)))) = (toF h).put l (some (.ints c (overI xs off (ys.take (min m n))))) := by
      rw [List.append_nil]; exact toF_set _ hlt
    have hwsl : (ws.take (Nat.min m n)).length = min m n := by
      rw [List.length_take, s3']
      show min (min m n) (m * 1) = min m n
      omega
    show OpOk I P V h.length hR w _ (toF (hupd h [(l, some (.ints c (overI xs off (ys.take (min m n)))))] ++ [])) 0 _
    rw [hF]
    by_cases hmn : min m n = 0
    · have hnil : ys.take (min m n) = [] := by rw [hmn]; rfl
      have hsame : (toF h).put l (some (.ints c (overI xs off (ys.take (min m n))))) = toF h := by
        rw [hnil]
        have : overI xs off [] = xs := by simp [overI]
        rw [this]
        funext q
        by_cases hq : q = l
        · subst hq; simp [FHeap.put]; exact hl.symm
        · simp [FHeap.put, hq]
      rw [hsame]
      refine OpOk.pure (v' := .int .i64 ((min m n : Nat) : Int)) hi rfl ?_
      have hw0 : ws.take (Nat.min m n) = [] := List.length_eq_zero_iff.1 (by rw [hwsl]; exact hmn)
      rw [hw0] at first
      refine bind_run ?_
      cases base with
      | none => exact copy_none hu hs first
      | some a => exact copy_some hu hs first (by simp [storeCells])
    · have hn0 : n ≠ 0 := by omega
      have hxne : xs ≠ [] := by intro e; subst e; simp at o2; omega
      obtain ⟨b, k, cs, T, tail, t1, t2, t3, t4⟩ := hi.ints (l := l) hl hxne
      rcases hb with ⟨b', k', t5, rfl, t6⟩ | ⟨t5, _⟩
      · rw [t1] at t5; cases t5
        have hsz : cs.size = xs.length + tail.length := by rw [← Array.length_toList, t4]; simp
        obtain ⟨w', cs', q1, q2, q3, q4, q5⟩ := storeCells_row (P := P) (ws.take (Nat.min m n)) 0 w b off cs T t2 (fun v hv => s4 v (List.mem_of_mem_take hv)) (by rw [hwsl]; omega)
        have hrun : (Builtin.copy_ #[dt, xt] ty #[.slice (some ⟨b, off, none⟩) n cap, .slice base2 m cap2]).run P w = .ok (.int .i64 ((min m n : Nat) : Int)) w' := by
          exact copy_some hu hs first q1
        have e5 : ws.take (Nat.min m n) = (ys.take (min m n)).map c.val := by rw [e3]; exact (List.map_take ..).symm
        have hyl : (ys.take (min m n)).length = min m n := by
          have := congrArg List.length e5
          rw [hwsl, List.length_map] at this; exact this.symm
        have hover : overV (xs.map c.val) off ((ys.take (min m n)).map c.val) = (overI xs off (ys.take (min m n))).map c.val := overV_ints c _ _ _ (by rw [hyl]; omega)
        refine ⟨_, w', V, _, bind_run hrun, .inl rfl, V.le_refl, fun l e f => (f e).elim, rfl, ?_, q5⟩
        refine hi.replace (e := .ints c xs) hl (b := b) (o' := .cells cs' T) ?_ ?_ q2 q4
        · intro g hg
          rcases hg with ⟨e, _⟩ | ⟨b1, k1, hl1, cs1, T1, tl1, e4, _⟩
          · exact (hxne e).elim
          · rw [t1] at hl1; cases hl1
            exact ⟨_, e4⟩
        · refine .inr ⟨b, k, t1, cs', T, tail, rfl, ?_, ?_⟩
          · rw [← Array.length_toList, q3, overV_length, Array.length_toList]; exact t3
          · rw [q3, t4, Nat.add_zero, e5, overV_append _ _ _ _ (by simp only [List.length_map]; rw [hyl]; omega), hover]
      · exact (hn0 t5).elim
  · rename_i c xs lx p hl hsrc
    simp only [Option.some.injEq] at hr; subst hr
    rw [apply_nil rfl rfl]
    refine OpOk.pure (v' := .int .i64 0) hi rfl (bind_run ?_)
    have hx0 : ∃ base2 cap2, x' = .slice base2 0 cap2 := by
      unfold asource at hsrc
      split at hsrc
      · split at hsrc
        · split at hsrc
          · split at hsrc <;> simp at hsrc
          · split at hsrc
            · simp only [Option.some.injEq, Prod.mk.injEq] at hsrc
              obtain ⟨_, rfl, _⟩ := hsrc
              obtain ⟨base2, cap2, e, _⟩ := h2
              exact ⟨base2, cap2, e⟩
            · cases hsrc
          · cases hsrc
        · cases hsrc
      · split at hsrc <;> simp at hsrc
      · split at hsrc
        · split at hsrc
          · split at hsrc <;> simp at hsrc
          · cases hsrc
        · cases hsrc
      · obtain ⟨base2, e⟩ := h2
        exact ⟨base2, 0, e⟩
      · split at hsrc
        · rename_i hnil
          have := isNilSlice_eq hnil
          subst this
          exact ⟨none, 0, h2⟩
        · cases hsrc
    obtain ⟨base2, cap2, rfl⟩ := hx0
    have first : (Builtin.firstCells 1 0 (.slice base2 0 cap2)).run P w = .ok #[] w := firstCells_zero
    have e0 : Nat.min 0 n = 0 := Nat.zero_min n
    have first' : (Builtin.firstCells 1 (Nat.min 0 n) (.slice base2 0 cap2)).run P w = .ok ([] : List Value).toArray w := by rw [e0]; exact first
    have : (Value.int .i64 0) = .int .i64 ((Nat.min 0 n : Nat) : Int) := by rw [e0]; rfl
    rw [this]
    cases base with
    | none => exact copy_none hu hs first'
    | some a => exact copy_some hu hs first' (by simp [storeCells])
  · cases hr

end
end Go.Sh

namespace Go.Sh
open Go
variable [Con] {A : Type} {I : Itp A}
section
variable {P : Program} {V : Val}

theorem frozen_allocMap (w : World) (es : Array MapEntry) (clock : Nat) (a : Addr) : (w.alloc (.map es clock)).frozen? a = w.frozen? a := by
  unfold World.frozen? World.alloc
  simp only [Array.getElem?_push]
  by_cases h : a.block = w.heap.size
  · have e : w.heap[a.block]? = none := by rw [h]; simp
    rw [if_pos h, e]
  · rw [if_neg h]

theorem amakeMap_ok {t : TypeId} {h : Heap A} {r : ORes A} {hR : PHeap} {w : World} {sem : Sem Next} (hr : amakeMap P t h = some r) (hi : Inv I V (toF h) hR w)
    (hn : ∀ l, h.length ≤ l → l < h.length + r.new.length → V l = none) (hsem : sem = (do Pure.pure (.value (← Instr.makeMap t none)))) :
    OpOk I P V h.length hR w r.v (toF (r.apply h)) r.new.length sem := by
  subst hsem
  unfold amakeMap at hr
  split at hr
  · split at hr
    · split at hr
      · rename_i kt vt hu _ _ kk z hk hz _ vc hvc
        simp only [Option.some.injEq] at hr; subst hr
        have hV := hn h.length (Nat.le_refl _) (by simp)
        have hinv := Inv.push (e := .imap kk vc []) (k := 0) (o := .map #[] 0) hi hV (hget_ge (Nat.le_refl _)) ⟨_, _, Val.add_self _ _ _, #[], 0, rfl, rfl, fun e he => by simp at he, by simp⟩
        refine ⟨.value (.map (some w.heap.size)), { w with heap := w.heap.push (.map #[] 0) }, V.add h.length (w.heap.size, 0), .map (some w.heap.size), ?_, .inl rfl, Val.le_add hV, add_dom, ⟨_, _, Val.add_self _ _ _, rfl⟩, ?_, ⟨rfl, rfl, by simp, fun _ _ => frozen_allocMap _ _ _ _⟩⟩
        · simp [Instr.makeMap]
        · show Inv I _ (toF (h ++ [some _])) hR _
          rw [toF_push]; exact hinv
      · cases hr
    · cases hr
  · cases hr

theorem Inv.imap {h : FHeap A} {hR : PHeap} {w : World} (hi : Inv I V h hR w) {l : Nat} {kk : IntKind} {vc : Code1} {m : List (Int × Int)} (hl : h l = some (.imap kk vc m)) :
    ∃ b k es clock, V l = some (b, k) ∧ w.heap[b]? = some (.map es clock) ∧ es.toList.map (fun e => (e.key, e.val)) = m.map (fun x => (Value.int kk x.1, Code1.val vc x.2)) := by
  obtain ⟨hs, h1, h2, h3, h4, h5, h6⟩ := hi
  obtain ⟨b, k, e1, es, clock, e2, e3, _⟩ := h1 l _ hl
  have := h5 l
  rw [e2] at this
  exact ⟨b, k, es, clock, e1, PHeap.one_sub.1 this, e3⟩
theorem Inv.imapB {h : FHeap A} {hR : PHeap} {w : World} (hi : Inv I V h hR w) {l : Nat} {kk : IntKind} {vc : Code1} {m : List (Int × Int)} (hl : h l = some (.imap kk vc m)) :
    ∃ b k es clock, V l = some (b, k) ∧ w.heap[b]? = some (.map es clock) ∧ es.toList.map (fun e => (e.key, e.val)) = m.map (fun x => (Value.int kk x.1, Code1.val vc x.2)) ∧ (∀ e ∈ es.toList, e.born < clock) ∧ (es.toList.map (·.born)).Nodup := by
  obtain ⟨hs, h1, h2, h3, h4, h5, h6⟩ := hi
  obtain ⟨b, k, e1, es, clock, e2, e3⟩ := h1 l _ hl
  have := h5 l
  rw [e2] at this
  exact ⟨b, k, es, clock, e1, PHeap.one_sub.1 this, e3⟩

def mfind : List (Int × Int) → Int → Nat → Option (Nat × Int)
  | [], _, _ => none
  | x :: m, k, i => if x.1 = k then some (i, x.2) else mfind m k (i + 1)
theorem mfind_get : ∀ (m : List (Int × Int)) (k : Int) (i : Nat), (mfind m k i).map (·.2) = mget m k
  | [], k, i => rfl
  | x :: m, k, i => by
    unfold mfind mget
    by_cases h : x.1 = k
    · simp [h]
    · rw [if_neg h, mfind_get m k (i + 1)]
      simp [mget, h]
theorem mfind_none : ∀ (m : List (Int × Int)) (k v : Int) (i : Nat), mfind m k i = none → mput m k v = m ++ [(k, v)]
  | [], k, v, i, _ => rfl
  | x :: m, k, v, i, h => by
    unfold mfind at h
    by_cases hx : x.1 = k
    · rw [if_pos hx] at h; cases h
    · rw [if_neg hx] at h
      unfold mput
      rw [if_neg hx, mfind_none m k v (i + 1) h]; rfl
theorem mfind_some : ∀ (m : List (Int × Int)) (k v : Int) (i j : Nat) (u : Int), mfind m k i = some (j, u) → i ≤ j ∧ mput m k v = m.set (j - i) (k, v) ∧ ∃ u, m[j - i]? = some (k, u)
  | [], k, v, i, j, u, h => by simp [mfind] at h
  | x :: m, k, v, i, j, u, h => by
    unfold mfind at h
    by_cases hx : x.1 = k
    · rw [if_pos hx] at h
      simp only [Option.some.injEq, Prod.mk.injEq] at h
      obtain ⟨rfl, _⟩ := h
      refine ⟨Nat.le_refl _, ?_, x.2, ?_⟩
      · unfold mput; rw [if_pos hx, Nat.sub_self]; rfl
      · rw [Nat.sub_self, ← hx]; rfl
    · rw [if_neg hx] at h
      obtain ⟨h1, h2, u', h3⟩ := mfind_some m k v (i + 1) j u h
      refine ⟨by omega, ?_, u', ?_⟩
      · unfold mput
        rw [if_neg hx, h2, show j - i = (j - (i + 1)) + 1 from by omega]; rfl
      · rw [show j - i = (j - (i + 1)) + 1 from by omega]; exact h3

theorem findNow_run {kk : IntKind} {vc : Code1} {q : IntKind} {n : Int} : ∀ (es : List MapEntry) (m : List (Int × Int)) (i : Nat), es.map (fun e => (e.key, e.val)) = m.map (fun x => (Value.int kk x.1, Code1.val vc x.2)) →
    Instr.findNow (.int q) (.int kk n) es i = some ((mfind m n i).map fun x => (x.1, Code1.val vc x.2))
  | [], m, i, h => by
    have : m = [] := by cases m <;> simp at h ⊢
    subst this; rfl
  | e :: es, [], i, h => by simp at h
  | e :: es, x :: m, i, h => by
    simp only [List.map_cons, List.cons.injEq, Prod.mk.injEq] at h
    obtain ⟨⟨h1, h2⟩, h3⟩ := h
    unfold Instr.findNow
    rw [h1]
    simp only [Instr.sameNow, if_true]
    by_cases hx : x.1 = n
    · have : (n == x.1) = true := by simp [hx]
      rw [this]
      unfold mfind
      rw [if_pos hx, h2]; rfl
    · have : (n == x.1) = false := by simpa using fun e => hx e.symm
      rw [this]
      unfold mfind
      rw [if_neg hx]
      exact findNow_run es m (i + 1) h3

theorem findKey_run {kt : TypeId} {kk q : IntKind} {vc : Code1} {n : Int} {es : List MapEntry} {m : List (Int × Int)} {w : World} (hk : P.underlying kt = some (.int q)) (h : es.map (fun e => (e.key, e.val)) = m.map (fun x => (Value.int kk x.1, Code1.val vc x.2))) :
    (Instr.findKey kt (.int kk n) es).run P w = .ok ((mfind m n 0).map fun x => (x.1, Code1.val vc x.2)) w := by
  simp [Instr.findKey, underlying, hk, findNow_run (q := q) es m 0 h]

theorem checkKey_run {kt : TypeId} {q : IntKind} {b : Bool} {v : Value} {w : World} (hk : P.underlying kt = some (.int q)) : (Instr.checkKey b 10000 kt v).run P w = .ok () w := by
  show (Instr.checkKey b (9999 + 1) kt v).run P w = _
  unfold Instr.checkKey
  simp only [Sem.run_bind, underlying, run_program, hk, Result.andThen_ok, Sem.run_pure]

theorem alookup_ok {t : TypeId} {x i : AVal} {ck : Bool} {h : Heap A} {r : ORes A} {hR : PHeap} {w : World} {x' i' : Value} {sem : Sem Next} (hr : alookup P t x i ck h = some r) (ho : r.obl) (hi : Inv I V (toF h) hR w) (hx : Rep V x x') (hy : Rep V i i')
    (hsem : sem = (do Pure.pure (.value (← Instr.lookup t x' i' ck)))) : OpOk I P V h.length hR w r.v (toF (r.apply h)) r.new.length sem := by
  subst hsem
  unfold alookup at hr
  split at hr
  · rename_i kt vt l kk n hu
    split at hr
    · rename_i q kk' vc m hk hh
      split at hr
      · rename_i hc
        obtain ⟨rfl, hz⟩ := hc
        simp only [Option.some.injEq] at hr; subst hr
        rw [apply_nil rfl rfl]
        obtain ⟨b, k, es, clock, e1, e2, e3⟩ := hi.imap (l := l) hh
        obtain ⟨b', k', hl, rfl⟩ := hx
        rw [e1] at hl; cases hl
        have : i' = .int kk n := hy
        subst this
        have hzero : (zeroValue vt).run P w = .ok (Code1.val vc 0) w := by
          cases hi2 : P.info? vt with
          | none => rw [hi2] at hz; cases hz
          | some inf =>
            rw [hi2] at hz
            cases hz2 : inf.zero with
            | none => simp [hz2] at hz
            | some z =>
              simp [hz2] at hz
              rw [← codeOf_val hz]
              simp [zeroValue, typeInfo, hi2, hz2]
        have hrun : (Instr.lookup t (.map (some b)) (.int kk n) ck).run P w = .ok (if ck then .tuple #[Code1.val vc ((mget m n).getD 0), .bool (mget m n).isSome] else Code1.val vc ((mget m n).getD 0)) w := by
          have hg := mfind_get m n 0
          have hfk := findKey_run (P := P) (w := w) (kk := kk) (n := n) hk e3
          simp only [Instr.lookup, underlying, Sem.run_bind, run_program, Result.andThen_ok, hu, Sem.run_pure, MapKept.run_getObj_map e2, checkKey_run hk]
          cases hf : mfind m n 0 with
          | none =>
            rw [hf] at hg hfk
            rw [← hg]
            simp only [Option.map_none] at hfk
            simp only [hfk, Result.andThen_ok, Sem.run_bind, hzero, Sem.run_pure]
            cases ck <;> rfl
          | some p =>
            rw [hf] at hg hfk
            rw [← hg]
            simp only [Option.map_some] at hfk
            simp only [hfk, Result.andThen_ok, Sem.run_bind, Sem.run_pure]
            cases ck <;> rfl
        refine OpOk.pure hi (v' := if ck then .tuple #[Code1.val vc ((mget m n).getD 0), .bool (mget m n).isSome] else Code1.val vc ((mget m n).getD 0)) ?_ (by rw [Sem.run_bind, hrun]; rfl)
        cases ck with
        | true => exact ⟨_, rfl, _, _, rfl, Code1.rep V vc _, _, _, rfl, rfl, rfl⟩
        | false => exact Code1.rep V vc _
      · cases hr
    · cases hr
  · cases hr

theorem alenM_ok {t ty : TypeId} {x : AVal} {h : Heap A} {r : ORes A} {hR : PHeap} {w : World} {x' : Value} {sem : Sem Next} (hr : alenM P t x h = some r) (ho : r.obl) (hi : Inv I V (toF h) hR w) (hx : Rep V x x')
    (hsem : sem = (do let v ← Builtin.len_ #[t] ty #[x']; Pure.pure (.value v))) : OpOk I P V h.length hR w r.v (toF (r.apply h)) r.new.length sem := by
  subst hsem
  unfold alenM at hr
  split at hr
  · rename_i kt vt l hu
    split at hr
    · rename_i kk vc m hh
      simp only [Option.some.injEq] at hr; subst hr
      rw [apply_nil rfl rfl]
      obtain ⟨b, k, es, clock, e1, e2, e3⟩ := hi.imap (l := l) hh
      obtain ⟨b', k', hl, rfl⟩ := hx
      rw [e1] at hl; cases hl
      have hlen : es.size = m.length := by
        have := congrArg List.length e3
        simpa using this
      have hrun : (Builtin.len_ #[t] ty #[.map (some b)]).run P w = .ok (Value.int .i64 (m.length : Int)) w := by
        simp only [Builtin.len_, underlying, Sem.run_bind, run_program, Result.andThen_ok, hu, Sem.run_pure, MapKept.run_getObj_map e2]
        simp [hu, goInt, hlen, MapKept.run_getObj_map e2]
      refine OpOk.pure hi (v' := Value.int .i64 (m.length : Int)) ?_ (by rw [Sem.run_bind, hrun]; rfl)
      rfl
    · cases hr
  · cases hr

theorem amapUpdate_ok {t : TypeId} {x i y : AVal} {h : Heap A} {r : ORes A} {hR : PHeap} {w : World} {x' i' y' : Value} {sem : Sem Next} (hr : amapUpdate P t x i y h = some r) (ho : r.obl) (hi : Inv I V (toF h) hR w) (hx : Rep V x x') (hk0 : Rep V i i') (hy : Rep V y y')
    (hsem : sem = (do Instr.mapUpdate t x' i' y'; Pure.pure .skip)) : OpOk I P V h.length hR w r.v (toF (r.apply h)) r.new.length sem := by
  subst hsem
  unfold amapUpdate at hr
  split at hr
  · rename_i kt vt l kk n hu
    split at hr
    · rename_i q kk' vc m hk hh
      split at hr
      · rename_i hc
        subst hc
        cases hfc : fromCode vc y with
        | none => rw [hfc] at hr; cases hr
        | some v =>
          rw [hfc] at hr; simp only [Option.some.injEq] at hr; subst hr
          obtain ⟨b, k, es, clock, e1, e2, e3, e0, en⟩ := hi.imapB (l := l) hh
          obtain ⟨b', k', hl, rfl⟩ := hx
          rw [e1] at hl; cases hl
          have : i' = .int kk n := hk0
          subst this
          have hyv := fromCode_val hfc hy
          subst hyv
          have hfk := findKey_run (P := P) (w := w) (kk := kk) (n := n) hk e3
          have hblt : b < w.heap.size := by
            cases Nat.lt_or_ge b w.heap.size with
            | inl g => exact g
            | inr g => rw [Array.getElem?_eq_none g] at e2; cases e2
          have key : ∃ es' clock', (Instr.mapUpdate t (.map (some b)) (.int kk n) (Code1.val vc v)).run P w = .ok () { w with heap := w.heap.setIfInBounds b (.map es' clock') } ∧ es'.toList.map (fun e => (e.key, e.val)) = (mput m n v).map (fun x => (Value.int kk x.1, Code1.val vc x.2)) ∧ (∀ e ∈ es'.toList, e.born < clock') ∧ (es'.toList.map (·.born)).Nodup := by
            cases hf : mfind m n 0 with
            | none =>
              rw [hf] at hfk
              refine ⟨es.push { key := .int kk n, val := Code1.val vc v, born := clock }, clock + 1, ?_, ?_, ?_, ?_⟩
              · simp only [Instr.mapUpdate, underlying, Sem.run_bind, run_program, Result.andThen_ok, hu, Sem.run_pure, MapKept.run_getObj_map e2, checkKey_run hk, hfk, Option.map_none, MapKept.run_setObj_map _ e2]
              · rw [mfind_none m n v 0 hf]
                simp [e3]
              · intro e he
                simp only [Array.toList_push, List.mem_append, List.mem_singleton] at he
                rcases he with he | rfl
                · exact Nat.lt_succ_of_lt (e0 e he)
                · exact Nat.lt_succ_self _
              · rw [Array.toList_push, List.map_append, List.nodup_append]
                refine ⟨en, by simp, ?_⟩
                intro a ha b hb
                obtain ⟨e, he, rfl⟩ := List.mem_map.1 ha
                simp only [List.map_cons, List.map_nil, List.mem_singleton] at hb
                have := e0 e he
                omega
            | some p =>
              obtain ⟨j, u⟩ := p
              rw [hf] at hfk
              obtain ⟨_, q2, u', q3⟩ := mfind_some m n v 0 j u hf
              rw [Nat.sub_zero] at q2 q3
              have hej : ∃ e, es[j]? = some e ∧ e.key = .int kk n := by
                have := congrArg (fun l => l[j]?) e3
                simp only [List.getElem?_map, q3, Option.map_some] at this
                rw [Array.getElem?_toList] at this
                cases he : es[j]? with
                | none => rw [he] at this; cases this
                | some e => rw [he] at this; simp at this; exact ⟨e, rfl, this.1⟩
              obtain ⟨e, he1, he2⟩ := hej
              refine ⟨es.modify j fun e => { e with key := .int kk n, val := Code1.val vc v }, clock, ?_, ?_, ?_, ?_⟩
              · have hst : Instr.sameBits 10000 (.int kk n) (.int kk n) = true := by simp [Instr.sameBits]
                simp only [Instr.mapUpdate, underlying, Sem.run_bind, run_program, Result.andThen_ok, hu, Sem.run_pure, MapKept.run_getObj_map e2, checkKey_run hk, hfk, Option.map_some, he1, he2, Option.getD_some, Instr.keyThatStays, hst, if_true, MapKept.run_setObj_map _ e2]
              · rw [q2]
                apply List.ext_getElem?
                intro i
                have := congrArg (fun l => l[i]?) e3
                simp only [List.getElem?_map] at this ⊢
                rw [Array.getElem?_toList] at this ⊢
                rw [Array.getElem?_modify, List.getElem?_set]
                by_cases hij : j = i
                · subst hij
                  have hjl : j < m.length := by
                    cases Nat.lt_or_ge j m.length with
                    | inl g => exact g
                    | inr g => rw [List.getElem?_eq_none g] at q3; cases q3
                  rw [if_pos rfl, if_pos rfl, he1, if_pos hjl]; rfl
                · rw [if_neg hij, if_neg hij]; exact this
              · intro e' he'
                obtain ⟨i, hi'⟩ := List.getElem?_of_mem he'
                rw [Array.getElem?_toList, Array.getElem?_modify] at hi'
                split at hi'
                · cases h2 : es[i]? with
                  | none => rw [h2] at hi'; cases hi'
                  | some e2 =>
                    rw [h2] at hi'
                    simp only [Option.map_some, Option.some.injEq] at hi'
                    rw [← hi']
                    exact e0 e2 (List.mem_of_getElem? (by rw [Array.getElem?_toList]; exact h2))
                · exact e0 e' (List.mem_of_getElem? (by rw [Array.getElem?_toList]; exact hi'))
              · have hmb : (es.modify j fun e => { e with key := .int kk n, val := Code1.val vc v }).toList.map (·.born) = es.toList.map (·.born) := by
                  apply List.ext_getElem?
                  intro i
                  simp only [List.getElem?_map, Array.getElem?_toList, Array.getElem?_modify]
                  split
                  · cases es[i]? <;> rfl
                  · rfl
                rw [hmb]; exact en
          obtain ⟨es', clock', hrun, hes⟩ := key
          refine ⟨.skip, { w with heap := w.heap.setIfInBounds b (.map es' clock') }, V, undef, by simp only [Sem.run_bind, hrun, Result.andThen_ok, Sem.run_pure], .inr ⟨rfl, rfl⟩, V.le_refl, fun l e f => (f e).elim, rfl, ?_, ⟨rfl, rfl, by simp, ?_⟩⟩
          · have hlt := hget_lt hh
            show Inv I V (toF (hupd h [(l, some (.imap kk vc (mput m n v)))] ++ [])) hR _
            simp only [hupd, List.foldl_cons, List.foldl_nil, List.append_nil]
            rw [toF_set _ hlt]
            refine hi.replace (e := .imap kk vc m) hh (b := b) (o' := .map es' clock') ?_ ?_ ?_ ?_
            · rintro g ⟨b1, k1, hl1, es1, c1, e4, _⟩
              rw [e1] at hl1; cases hl1
              exact ⟨_, e4⟩
            · exact ⟨b, k, e1, es', clock', rfl, hes⟩
            · simp [hblt]
            · intro c hc
              simp only [Array.getElem?_setIfInBounds]
              rw [if_neg (fun e => hc e.symm)]
          · intro a _
            unfold World.frozen?
            simp only [Array.getElem?_setIfInBounds]
            by_cases ha : b = a.block
            · rw [if_pos ha, if_pos (by omega), ← ha, e2]
            · rw [if_neg ha]
      · cases hr
    · cases hr
  · cases hr

end
end Go.Sh

namespace Go.Sh
open Go
variable [Con] {A : Type} {I : Itp A}
section
variable {P : Program} {V : Val}

theorem asliceArr_run {t : TypeId} {a : AVal} {lo hi mx : Option AVal} {h : Heap A} {r : ORes A} {hR : PHeap} {w : World} {x : Value} {lo' hi' mx' : Option Value} (hr : asliceArr P t a lo hi mx h = some r) (ho : r.obl) (hi0 : Inv I V (toF h) hR w) (hx : Rep V a x)
    (hlo : ∀ z, lo = some z → ∃ z', lo' = some z' ∧ Rep V z z') (hlo0 : lo = none → lo' = none) (hhi : ∀ z, hi = some z → ∃ z', hi' = some z' ∧ Rep V z z') (hhi0 : hi = none → hi' = none) (hmx0 : mx = none → mx' = none) :
    ∃ v', (Instr.sliceAt t x lo' hi' mx').run P w = .ok v' w ∧ Rep V r.v v' ∧ r.upd = [] ∧ r.new = [] := by
  unfold asliceArr at hr
  split at hr
  · rename_i n e l off hu
    rw [hmx0 rfl]
    split at hr
    · rename_i s vs hs hh
      split at hr
      · rename_i hlen
        obtain ⟨b, k, cs, T, rs, tail, hl, hb, hk, hcs, hrep⟩ := hi0.cells (l := l) hh
        obtain ⟨b', k', hl', rfl⟩ := hx
        rw [hl] at hl'; cases hl'
        have hsz : off + n * s ≤ k := by
          rw [← hk, ← Array.length_toList, hcs, List.length_append, RepL.length hrep]; omega
        have hbb : (∃ b' k', V l = some (b', k') ∧ (some ⟨b, off, none⟩ : Option Addr) = some ⟨b', off, none⟩ ∧ off + n * s ≤ k') ∨ (n = 0 ∧ n = 0) := .inl ⟨b, k, hl, rfl, hsz⟩
        have hmap : ∀ m lo : Nat, (if m = lo then (some ⟨b, off, none⟩ : Option Addr) else (some ⟨b, off, none⟩ : Option Addr).map (·.add (lo * s))) = some (if m = lo then ⟨b, off, none⟩ else (⟨b, off, none⟩ : Addr).add (lo * s)) := by
          intro m lo; split <;> rfl
        split at hr
        · simp at hr; subst hr
          rw [hlo0 rfl, hhi0 rfl]
          have hr := rep_slice_cut (Nat.le_refl n) hbb (Nat.zero_le n) (Nat.le_refl n)
          rw [hmap] at hr
          simp only [Nat.zero_mul, Nat.add_zero, Nat.sub_zero] at hr
          refine ⟨_, ?_, hr, rfl, rfl⟩
          simp [Instr.sliceAt, underlying, hu, Instr.sliceBounds, asize_run hs, Instr.sureAddr]
        · rename_i k1 m
          simp only [Option.some.injEq] at hr; subst hr
          obtain ⟨z', e1, r1⟩ := hhi _ rfl
          have : z' = .int k1 m := r1
          subst this
          rw [hlo0 rfl, e1]
          have hr := rep_slice_cut (Nat.le_refl n) hbb (lo := 0) (hi := m.toNat) (Nat.zero_le _) ho.2
          rw [hmap] at hr
          simp only [Nat.zero_mul, Nat.add_zero, Nat.sub_zero] at hr
          refine ⟨_, ?_, hr, rfl, rfl⟩
          simp [Instr.sliceAt, underlying, hu, Instr.sliceBounds, asize_run hs, Instr.sureAddr, sliceBound_run (y := n) ho.1 ho.2]
        · rename_i k1 m
          simp only [Option.some.injEq] at hr; subst hr
          obtain ⟨z', e1, r1⟩ := hlo _ rfl
          have : z' = .int k1 m := r1
          subst this
          rw [hhi0 rfl, e1]
          have hr := rep_slice_cut (Nat.le_refl n) hbb (lo := m.toNat) (hi := n) ho.2 (Nat.le_refl _)
          rw [hmap] at hr
          refine ⟨_, ?_, hr, rfl, rfl⟩
          simp [Instr.sliceAt, underlying, hu, Instr.sliceBounds, asize_run hs, Instr.sureAddr, sliceBound_run (y := n) ho.1 ho.2]
        · cases hr
      · cases hr
    · cases hr
  · cases hr

theorem opt_rep {ρ : Operand → AVal} {ρ' : Operand → Value} (hρ : ∀ x, Rep V (ρ x) (ρ' x)) (o : Option Operand) :
    (∀ z, o.map ρ = some z → ∃ z', o.map ρ' = some z' ∧ Rep V z z') ∧ (o.map ρ = none → o.map ρ' = none) := by
  cases o with
  | none => simp
  | some x => simp; exact hρ x

theorem aop_sound {ρ : Operand → AVal} {ρ' : Operand → Value} {o : Oper} {h : Heap A} {r : ORes A} {hR : PHeap} {w : World} (hr : aop P ρ o.op h = some r) (ho : r.obl) (hi : Inv I V (toF h) hR w)
    (hn : ∀ l, h.length ≤ l → l < h.length + r.new.length → V l = none) (hρ : ∀ x, Rep V (ρ x) (ρ' x)) :
    OpOk I P V h.length hR w r.v (toF (r.apply h)) r.new.length (execOp ρ' o) := by
  have pureIf : ∀ {s : Sem Value} {q : Option (AVal × Option Prop)}, aofPure q = some r → (∀ v p, q = some (v, p) → onp p → ∃ v', s.run P w = .ok v' w ∧ Rep V v v') →
      execOp ρ' o = (do Pure.pure (.value (← s))) → OpOk I P V h.length hR w r.v (toF (r.apply h)) r.new.length (execOp ρ' o) := by
    intro s q hq hs he
    cases q with
    | none => cases hq
    | some x =>
      obtain ⟨v, p⟩ := x
      simp [aofPure] at hq; subst hq
      obtain ⟨v', h1, h2⟩ := hs v p rfl ho
      rw [apply_nil rfl rfl, he]
      exact OpOk.pure hi h2 (by simp [h1])
  have pureV : ∀ {s : Sem Value} {q : Option AVal}, aofVal q = some r → (∀ v, q = some v → ∃ v', s.run P w = .ok v' w ∧ Rep V v v') →
      execOp ρ' o = (do Pure.pure (.value (← s))) → OpOk I P V h.length hR w r.v (toF (r.apply h)) r.new.length (execOp ρ' o) := by
    intro s q hq hs he
    cases q with
    | none => cases hq
    | some v =>
      simp [aofVal] at hq; subst hq
      obtain ⟨v', h1, h2⟩ := hs v rfl
      rw [apply_nil rfl rfl, he]
      exact OpOk.pure hi h2 (by simp [h1])
  cases hop : o.op with
  | move x =>
    rw [hop] at hr; simp [aop] at hr; subst hr
    rw [apply_nil rfl rfl]
    exact OpOk.pure hi (hρ x) (by simp [execOp, hop])
  | assign x =>
    rw [hop] at hr; simp [aop] at hr; subst hr
    rw [apply_nil rfl rfl]
    exact OpOk.pure hi (hρ x) (by simp [execOp, hop])
  | pick c a b =>
    rw [hop] at hr
    refine pureV (s := do Pure.pure (if ← asBool (ρ' c) then ρ' a else ρ' b)) hr ?_ (by simp [execOp, hop])
    intro v hv
    unfold apick at hv
    split at hv
    · rename_i b0 p q e1 e2 e3
      simp at hv; subst hv
      have r1 := hρ c; rw [e1] at r1
      have r2 := hρ a; rw [e2] at r2
      have r3 := hρ b; rw [e3] at r3
      have s1 : ρ' c = .bool b0 := r1
      have s2 : ρ' a = .bool p := r2
      have s3 : ρ' b = .bool q := r3
      rw [s1, s2, s3]
      refine ⟨.bool (cond b0 p q), ?_, rfl⟩
      cases b0 <;> simp [asBool]
    · rename_i b0 e1 e2
      simp at hv; subst hv
      have r1 := hρ c; rw [e1] at r1
      have s1 : ρ' c = .bool b0 := r1
      rw [s1]
      cases b0
      · exact ⟨ρ' b, by simp [asBool], hρ b⟩
      · exact ⟨ρ' a, by simp [asBool], hρ a⟩
    · cases hv
  | alloc e =>
    rw [hop] at hr
    simp only [aop] at hr
    cases hz : azero P e with
    | none => rw [hz] at hr; cases hr
    | some z =>
      rw [hz] at hr; simp at hr; subst hr
      obtain ⟨zv, rfl, hzr⟩ := azero_run (w := w) hz
      refine OpOk.newCells (T := e) hi (hn _ (Nat.le_refl _) (by simp)) (rep_cells_val V zv) ?_
      simp [execOp, hop, Instr.alloc, hzr, newVar, newRow]
  | box e x =>
    rw [hop] at hr; simp only [aop] at hr
    split at hr
    · rename_i htold
      simp at hr; subst hr
      refine OpOk.newCells (T := e) hi (hn _ (Nat.le_refl _) (by simp)) (rep_cells (hρ x) htold) ?_
      simp [execOp, hop, Instr.box, newVar, newRow]
    · cases hr
  | build t parts =>
    rw [hop] at hr
    refine pureV (s := Instr.build t (parts.map fun (i, x) => (i, ρ' x))) hr ?_ (by simp [execOp, hop])
    intro v hv
    have := abuild_run (V := V) (w := w) hv (repP_map hρ parts.toList)
    have e : (parts.map fun (i, x) => (i, ρ' x)) = (List.map (fun x => (x.1, ρ' x.2)) parts.toList).toArray := by
      apply Array.ext'; simp
    rw [e]; exact this
  | buildSlice t len parts =>
    rw [hop] at hr
    refine abuildSlice_ok hr (repP_map hρ parts.toList) hi hn ?_
    have e : (parts.map fun (i, x) => (i, ρ' x)) = (List.map (fun x => (x.1, ρ' x.2)) parts.toList).toArray := by
      apply Array.ext'; simp
    simp only [execOp, hop, e]
  | load t a =>
    rw [hop] at hr
    simp only [aop] at hr
    split at hr
    · rename_i l off e1
      have r1 := hρ a; rw [e1] at r1
      obtain ⟨v', h1, h2, h3, h4⟩ := aload_run hr ho hi r1
      rw [apply_nil h3 h4, h4]
      exact OpOk.pure hi h2 (by simp [execOp, hop, h1])
    · rename_i cs e1
      have r1 := hρ a; rw [e1] at r1
      cases hv : aloadC P t cs with
      | none => rw [hv] at hr; cases hr
      | some v =>
        rw [hv] at hr; simp [aofVal] at hr; subst hr
        obtain ⟨v', h1, h2⟩ := aloadC_run (V := V) hv hi r1
        rw [apply_nil rfl rfl]
        exact OpOk.pure hi h2 (by simp [execOp, hop, h1])
    · rename_i l r0 w0 j e1
      have r1 := hρ a; rw [e1] at r1
      obtain ⟨v', h1, h2, h3, h4⟩ := aloadT_run hr ho hi r1
      rw [apply_nil h3 h4, h4]
      exact OpOk.pure hi h2 (by simp [execOp, hop, h1])
    · cases hr
  | store t a x =>
    rw [hop] at hr
    simp only [aop] at hr
    split at hr
    · rename_i l off e1
      have r1 := hρ a; rw [e1] at r1
      obtain ⟨w', h1, h2, h3, h4, h5⟩ := astore_run hr ho hi r1 (hρ x)
      exact ⟨.skip, w', V, undef, by simp [execOp, hop, h1], .inr ⟨rfl, rfl⟩, V.le_refl, fun l e f => (f e).elim, by rw [h4]; rfl, h2, h3⟩
    · rename_i l r0 w0 j e1
      have r1 := hρ a; rw [e1] at r1
      obtain ⟨w', h1, h2, h3, h4, h5⟩ := astoreT_run hr ho hi r1 (hρ x)
      exact ⟨.skip, w', V, undef, by simp [execOp, hop, h1], .inr ⟨rfl, rfl⟩, V.le_refl, fun l e f => (f e).elim, by rw [h4]; rfl, h2, h3⟩
    · cases hr
  | nilCheck x =>
    rw [hop] at hr
    simp only [aop] at hr
    cases hv : anilCheck (ρ x) with
    | none => rw [hv] at hr; cases hr
    | some v =>
      rw [hv] at hr; simp [aofVal] at hr; subst hr
      rw [apply_nil rfl rfl]
      have rx := hρ x
      have hsame : v = ρ x := by
        unfold anilCheck at hv
        split at hv <;> simp at hv <;> (rename_i e; rw [e]; exact hv.symm)
      refine OpOk.pure (v' := ρ' x) hi (by rw [show (ORes.pure (A := A) v).v = ρ x from hsame]; exact rx) ?_
      unfold anilCheck at hv
      split at hv
      · rename_i e; rw [e] at rx; obtain ⟨b, k, _, e2⟩ := rx; simp [execOp, hop, e2]
      · rename_i e; rw [e] at rx; obtain ⟨b, off, cs, T, fz, e2, _⟩ := rx; simp [execOp, hop, e2]
      · rename_i e; rw [e] at rx; obtain ⟨b, k, _, e2⟩ := rx; simp [execOp, hop, e2]
      · rename_i e; rw [e] at rx; obtain ⟨y, e2, _⟩ := rx; simp [execOp, hop, e2]
      · rename_i e; rw [e] at rx; obtain ⟨f, c, e2, _⟩ := rx; simp [execOp, hop, e2]
      · cases hv
  | binOp op t x y yt =>
    rw [hop] at hr
    refine pureIf (s := do eqGuard op t x y (ρ' x) (ρ' y); binOp op t (ρ' x) (ρ' y)) hr ?_ (by simp [execOp, hop])
    intro v p hv hp
    exact abin_run hv hp (hρ x) (hρ y)
  | unOp op t x =>
    rw [hop] at hr
    refine pureV (s := Op.unary op (ρ' x)) hr ?_ (by simp [execOp, hop])
    intro v hv
    have rx := hρ x
    unfold aun at hv
    split at hv
    · rename_i b e
      simp at hv; subst hv
      rw [e] at rx
      have : ρ' x = .bool b := rx
      rw [this]
      exact ⟨.bool (!b), by simp [Op.unary], rfl⟩
    · rename_i k n e
      simp at hv; subst hv
      rw [e] at rx
      have : ρ' x = .int k n := rx
      rw [this]
      exact ⟨.int k (k.wrap (-n)), by simp [Op.unary, Op.intArith], rfl⟩
    · cases hv
  | convert src dst x =>
    rw [hop] at hr
    refine pureV (s := convert src dst (ρ' x)) hr ?_ (by simp [execOp, hop])
    intro v hv
    have rx := hρ x
    unfold aconv at hv
    split at hv
    · rename_i d k k' n hs hu e
      simp at hv; subst hv
      rw [e] at rx
      have : ρ' x = .int k' n := rx
      rw [this]
      refine ⟨.int k (k.wrap n), ?_, rfl⟩
      simp only [convert, underlying, Sem.run_bind, run_program, Result.andThen_ok, hs, hu, Sem.run_pure, Conv.intToInt]
    · rename_i d s hs hu e
      simp at hv; subst hv
      rw [e] at rx
      have : ρ' x = .string s := rx
      rw [this]
      refine ⟨.string s, ?_, rfl⟩
      simp only [convert, underlying, Sem.run_bind, run_program, Result.andThen_ok, hs, hu, Sem.run_pure]
    · cases hv
  | makeInterface t x =>
    rw [hop] at hr
    simp only [aop] at hr
    split at hr
    · cases hr
    · rename_i d hne hu
      simp at hr; subst hr
      rw [apply_nil rfl rfl]
      refine OpOk.pure (v' := .iface t (ρ' x)) hi ⟨_, rfl, hρ x⟩ ?_
      simp only [execOp, hop, Instr.makeInterface, underlying, Sem.run_bind, run_program, Result.andThen_ok, hu, Sem.run_pure]
    · cases hr
  | makeFunc fn first caps =>
    rw [hop] at hr; simp [aop] at hr; subst hr
    rw [apply_nil rfl rfl]
    refine OpOk.pure (v' := .func fn (first.map ρ') (caps.map ρ')) hi ⟨_, _, rfl, by simpa using repL_map hρ first.toList, by simpa using repL_map hρ caps.toList⟩ ?_
    simp [execOp, hop, Instr.makeFunc]
  | slice t x lo hi' mx =>
    rw [hop] at hr
    simp only [aop] at hr
    obtain ⟨o1, o2⟩ := opt_rep hρ lo
    obtain ⟨o3, o4⟩ := opt_rep hρ hi'
    obtain ⟨o5, o6⟩ := opt_rep hρ mx
    split at hr
    · obtain ⟨v', h1, h2, h3, h4⟩ := asliceArr_run hr ho hi (hρ x) o1 o2 o3 o4 o6
      rw [apply_nil h3 h4, h4]
      exact OpOk.pure hi h2 (by simp [execOp, hop, h1])
    · refine pureIf (s := Instr.sliceAt t (ρ' x) (lo.map ρ') (hi'.map ρ') (mx.map ρ')) hr ?_ (by simp [execOp, hop])
      intro v p hv hp
      exact aslice_run hv hp (hρ x) o1 o2 o3 o4 o5 o6
  | fieldAddr s x f =>
    rw [hop] at hr
    refine pureV (s := Instr.fieldAt s (ρ' x) f) hr ?_ (by simp [execOp, hop])
    intro v hv
    have rx := hρ x
    unfold afieldAddr at hv
    split at hv
    · rename_i fs l off hu e
      split at hv
      · rename_i fd hfd
        split at hv
        · rename_i m hs
          simp at hv; subst hv
          rw [e] at rx
          obtain ⟨b, k, hl, e2⟩ := rx
          rw [e2]
          refine ⟨.pointer (some ⟨b, off + fd.offset, none⟩), ?_, ⟨b, k, hl, rfl⟩⟩
          simp [Instr.fieldAt, underlying, hu, hfd, Instr.sureAddr, fieldPlace, asize_run hs, Addr.add_lit]
        · cases hv
      · cases hv
    · rename_i fs as hu e
      split at hv
      · rename_i fd hfd
        split at hv
        · rename_i m hs
          simp at hv; subst hv
          rw [e] at rx
          obtain ⟨b, off, cs, T, fz, e2, hcon, hrep⟩ := rx
          rw [e2]
          refine ⟨.pointer (some ⟨b, off + fd.offset, none⟩), ?_, cptr_drop hcon hrep⟩
          simp [Instr.fieldAt, underlying, hu, hfd, Instr.sureAddr, fieldPlace, asize_run hs, Addr.add_lit]
        · cases hv
      · cases hv
    · rename_i fs l r0 w0 j hu e
      split at hv
      · rename_i fd hfd
        split at hv
        · rename_i m hs
          simp at hv; subst hv
          rw [e] at rx
          obtain ⟨b, k, hl, e2⟩ := rx
          rw [e2]
          refine ⟨.pointer (some ⟨b, r0 * w0 + j + fd.offset, none⟩), ?_, b, k, hl, by rw [Nat.add_assoc]⟩
          simp [Instr.fieldAt, underlying, hu, hfd, Instr.sureAddr, fieldPlace, asize_run hs, Addr.add_lit]
        · cases hv
      · cases hv
    · cases hv
  | field s x f =>
    rw [hop] at hr
    refine pureV (s := Instr.field s (ρ' x) f) hr ?_ (by simp [execOp, hop])
    intro v hv
    have rx := hρ x
    unfold afield at hv
    split at hv
    · rename_i fs cs hu e
      split at hv
      · rename_i fd hfd
        rw [e] at rx
        obtain ⟨xs, e2, rx⟩ := rx
        rw [e2]
        obtain ⟨v', h1, h2⟩ := apart_run (w := w) hv rx
        exact ⟨v', by simp [Instr.field, underlying, hu, hfd, asAgg, h1], h2⟩
      · cases hv
    · cases hv
  | indexAddr t x i =>
    rw [hop] at hr
    refine pureIf (s := Instr.indexAt t (ρ' x) (ρ' i)) hr ?_ (by simp [execOp, hop])
    intro v p hv hp
    exact aindexAddr_run hv hp (hρ x) (hρ i)
  | index t x i =>
    rw [hop] at hr
    refine pureIf (s := Instr.index t (ρ' x) (ρ' i)) hr ?_ (by simp [execOp, hop])
    intro v p hv hp
    exact aindex_run hv hp (hρ x) (hρ i)
  | extract x i =>
    rw [hop] at hr
    simp only [aop] at hr
    split at hr
    · rename_i vs e
      have rx := hρ x
      rw [e] at rx
      obtain ⟨xs, e2, rx⟩ := rx
      refine pureV (s := Instr.extract (ρ' x) i) hr ?_ (by simp [execOp, hop])
      intro v hv
      obtain ⟨y, hy, ry⟩ := RepL.get rx i v hv
      rw [e2]
      rw [Array.getElem?_toList] at hy
      exact ⟨y, by simp [Instr.extract, hy], ry⟩
    · cases hr
  | makeSlice t n m =>
    rw [hop] at hr
    exact amakeSlice_ok hr ho hi hn (hρ n) (hρ m) (by simp only [execOp, hop])
  | makeMap t res =>
    rw [hop] at hr
    cases res with
    | some x => simp [aop] at hr
    | none => exact amakeMap_ok hr hi hn (by simp only [execOp, hop]; rfl)
  | lookup t x i ck =>
    rw [hop] at hr
    exact alookup_ok hr ho hi (hρ x) (hρ i) (by simp only [execOp, hop])
  | mapUpdate t m k v =>
    rw [hop] at hr
    exact amapUpdate_ok hr ho hi (hρ m) (hρ k) (hρ v) (by simp only [execOp, hop])
  | call c =>
    rw [hop] at hr
    simp only [aop] at hr
    split at hr
    case h_2 => cases hr
    rename_i b hb
    have hrun : ∃ cs, execOp ρ' o = builtin b c.argTypes o.type cs (c.args.map ρ') := by
      have h0 : execOp ρ' o = (do let d ← resolve ρ' c o.type; invoke d.target d.args) := by simp only [execOp, hop]
      rw [h0]
      unfold resolve
      rw [hb]
      exact ⟨_, rfl⟩
    obtain ⟨cs, hrun⟩ := hrun
    have hargs := repL_map hρ c.args.toList
    have hargs' : (c.args.map ρ').toList = c.args.toList.map ρ' := by simp
    rw [← hargs'] at hargs
    generalize hxs : c.args.toList.map ρ = xs at hr hargs
    generalize hts : c.argTypes.toList = ts at hr
    have hty : c.argTypes = ts.toArray := by rw [← hts]
    unfold abuiltin at hr
    split at hr
    · rename_i t x
      obtain ⟨y, ys, e1, r1, r2⟩ := hargs
      have r2' : ys = [] := r2
      subst r2'
      have e2 : c.args.map ρ' = #[y] := by apply Array.ext'; rw [e1]
      split at hr
      · rename_i v0 hv0
        refine pureV (s := Builtin.len_ #[t] o.type #[y]) hr ?_ (by rw [hrun, hty, e2]; rfl)
        intro v hv
        cases hv
        exact alen_run hv0 r1
      · exact alenM_ok (ty := o.type) hr ho hi r1 (by rw [hrun, hty, e2]; rfl)
    · rename_i x xs'
      obtain ⟨y, ys, e1, r1, r2⟩ := hargs
      refine pureV (s := Builtin.min_ c.argTypes o.type (c.args.map ρ')) hr ?_ (by rw [hrun]; rfl)
      intro v hv
      obtain ⟨v', h1, h2⟩ := amin_run (w := w) xs' x v y ys hv r1 r2
      exact ⟨v', by unfold Builtin.min_; rw [e1]; exact h1, h2⟩
    · rename_i x xs'
      obtain ⟨y, ys, e1, r1, r2⟩ := hargs
      refine pureV (s := Builtin.max_ c.argTypes o.type (c.args.map ρ')) hr ?_ (by rw [hrun]; rfl)
      intro v hv
      obtain ⟨v', h1, h2⟩ := amax_run (w := w) xs' x v y ys hv r1 r2
      exact ⟨v', by unfold Builtin.max_; rw [e1]; exact h1, h2⟩
    · rename_i st xt s x
      obtain ⟨y, ys, e1, r1, z, zs, e3, r3, r4⟩ := hargs
      have r4' : zs = [] := r4
      subst r4' e3
      have e2 : c.args.map ρ' = #[y, z] := by apply Array.ext'; rw [e1]
      exact aappend_ok (ty := o.type) hr ho hi hn r1 r3 (by rw [hrun, hty, e2]; rfl)
    · rename_i dt xt d x
      obtain ⟨y, ys, e1, r1, z, zs, e3, r3, r4⟩ := hargs
      have r4' : zs = [] := r4
      subst r4' e3
      have e2 : c.args.map ρ' = #[y, z] := by apply Array.ext'; rw [e1]
      exact acopy_ok (xt := xt) (ty := o.type) hr ho hi r1 r3 (by rw [hrun, hty, e2]; rfl)
    · cases hr
  | _ => rw [hop] at hr; simp [aop] at hr

end
end Go.Sh

