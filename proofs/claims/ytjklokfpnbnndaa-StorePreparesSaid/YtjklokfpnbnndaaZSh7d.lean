/- The small-heap evaluator, part 7d: copy, make, len, min, max. -/
import Derived.Test.YtjklokfpnbnndaaZSh7c
import Derived.IntWalk
set_option linter.all false
set_option linter.unusedVariables false
set_option linter.unusedSectionVars false
namespace Go.Sh
open Go
variable [Con] {A : Type} {I : A → Nat → PHeap → Prop}
section
variable {P : Program} {V : Val}

theorem alen_run {t ty : TypeId} {a v : AVal} {x : Value} {w : World} (h : alen P t a = some v) (hx : Rep V a x) : ∃ v', (Builtin.len_ #[t] ty #[x]).run P w = .ok v' w ∧ Rep V v v' := by
  unfold alen at h
  split at h
  · rename_i s hu
    simp at h; subst h
    have : x = .string s := hx
    subst this
    exact ⟨_, by simp [Builtin.len_, underlying, hu, goInt], rfl⟩
  · rename_i hu
    simp at h; subst h
    obtain ⟨base, cap, rfl, _⟩ := hx
    exact ⟨_, by simp [Builtin.len_, underlying, hu, goInt], rfl⟩
  · rename_i hu
    simp at h; subst h
    have : x = .slice _ _ _ := hx
    subst this
    exact ⟨_, by simp [Builtin.len_, underlying, hu, goInt], rfl⟩
  · rename_i hu
    simp at h; subst h
    obtain ⟨base, cap, rfl, _⟩ := hx
    exact ⟨_, by simp [Builtin.len_, underlying, hu, goInt], rfl⟩
  · rename_i hu
    simp at h; subst h
    obtain ⟨base, cap, rfl, _⟩ := hx
    exact ⟨_, by simp [Builtin.len_, underlying, hu, goInt], rfl⟩
  · rename_i hu
    simp at h; subst h
    obtain ⟨base, cap, rfl, _⟩ := hx
    exact ⟨_, by simp [Builtin.len_, underlying, hu, goInt], rfl⟩
  · rename_i hu
    simp at h; subst h
    obtain ⟨base, rfl⟩ := hx
    exact ⟨.int .i64 0, by simp [Builtin.len_, underlying, hu, goInt], rfl⟩
  · rename_i n e hu
    simp at h; subst h
    exact ⟨_, by simp [Builtin.len_, underlying, hu, goInt], rfl⟩
  · cases h

theorem amin_run {w : World} : ∀ (xs : List AVal) (x v : AVal) (x' : Value) (ys : List Value), aminmax (fun m n => ilt m n) x xs = some v → Rep V x x' → RepL V xs ys → ∃ v', (ys.foldlM Builtin.min2 x').run P w = .ok v' w ∧ Rep V v v' := by
  intro xs
  induction xs with
  | nil =>
    intro x v x' ys h hx hr
    have : ys = [] := hr
    subst this
    cases x <;> simp [aminmax] at h
    subst h
    exact ⟨x', by simp, hx⟩
  | cons y xs ih =>
    rintro x v x' _ h hx ⟨y', ys, rfl, ry, rs⟩
    cases x <;> cases y <;> simp [aminmax] at h
    obtain ⟨rfl, h⟩ := h
    rename_i k n m
    have e1 : x' = .int k n := hx
    have e2 : y' = .int k m := ry
    subst e1 e2
    obtain ⟨v', h1, h2⟩ := ih _ v (.int k (if m < n then m else n)) ys h (by by_cases hc : m < n <;> simp [hc, Rep, ilt_eq]) rs
    exact ⟨v', by simp only [List.foldlM_cons, Builtin.min2, Sem.run_bind, Sem.run_pure, Result.andThen_ok, h1], h2⟩

theorem amax_run {w : World} : ∀ (xs : List AVal) (x v : AVal) (x' : Value) (ys : List Value), aminmax (fun m n => ilt n m) x xs = some v → Rep V x x' → RepL V xs ys → ∃ v', (ys.foldlM Builtin.max2 x').run P w = .ok v' w ∧ Rep V v v' := by
  intro xs
  induction xs with
  | nil =>
    intro x v x' ys h hx hr
    have : ys = [] := hr
    subst this
    cases x <;> simp [aminmax] at h
    subst h
    exact ⟨x', by simp, hx⟩
  | cons y xs ih =>
    rintro x v x' _ h hx ⟨y', ys, rfl, ry, rs⟩
    cases x <;> cases y <;> simp [aminmax] at h
    obtain ⟨rfl, h⟩ := h
    rename_i k n m
    have e1 : x' = .int k n := hx
    have e2 : y' = .int k m := ry
    subst e1 e2
    obtain ⟨v', h1, h2⟩ := ih _ v (.int k (if m > n then m else n)) ys h (by by_cases hc : m > n <;> simp [hc, Rep, ilt_eq]) rs
    exact ⟨v', by simp only [List.foldlM_cons, Builtin.max2, Sem.run_bind, Sem.run_pure, Result.andThen_ok, h1], h2⟩

theorem codeOf_val {z : Value} {c : Code1} (h : codeOf z = some c) : z = c.val 0 := by
  unfold codeOf at h
  split at h
  · simp at h; subst h; rfl
  · simp at h; subst h; rfl
  · cases h

theorem range_one {v : Value} (n : Nat) : ((Array.range n).map fun i => (#[v] : Array Value)[i % (#[v] : Array Value).size]!).toList = List.replicate n v := by
  apply List.ext_getElem
  · simp
  · intro i h1 h2
    simp at h1
    simp [Nat.mod_one]

theorem flatten_rep {as : List AVal} {vs : List Value} (h : RepL V as vs) : ∀ n : Nat, RepL V (List.replicate n as).flatten (List.replicate n vs).flatten
  | 0 => by simp [RepL]
  | n + 1 => by
    simp only [List.replicate_succ, List.flatten_cons]
    exact RepL.append h (flatten_rep h n)

theorem range_many {zs : Array Value} (n : Nat) : ((Array.range (n * zs.size)).map fun i => zs[i % zs.size]!).toList = (List.replicate n zs.toList).flatten := by
  rw [Array.toList_map, Array.toList_range]
  induction n with
  | zero => simp
  | succ n ih =>
    rw [Nat.succ_mul, Nat.add_comm, List.range_add, List.map_append]
    simp only [List.replicate_succ, List.flatten_cons]
    congr 1
    · apply List.ext_getElem
      · simp
      · intro i h1 h2
        simp at h1
        simp [Nat.mod_eq_of_lt h1, h1]
    · rw [← ih, List.map_map]
      apply List.map_congr_left
      intro i _
      simp

theorem makeSlice_run {t e : TypeId} {i : TypeInfo} {z : Value} {k k' : IntKind} {n : Int} {w : World} (hu : P.underlying t = some (.slice e)) (hi : P.info? e = some i) (hz : i.zero = some z) (hb : i.bytes ≤ 4096) (h0 : 0 ≤ n) (hn : n ≤ 4294967296) (hs : z.cells.size = i.size) (hp : 0 < i.size) :
    (Instr.makeSlice t (.int k n) (.int k' n)).run P w = .ok (.slice (some ⟨w.heap.size, 0, none⟩) n.toNat n.toNat) { w with heap := w.heap.push (.cells (((Array.range (n.toNat * i.size)).map fun j => z.cells[j % z.cells.size]!)) e) } := by
  have hw : IntKind.i64.wrap n = n := IntWalk.i64_in n ⟨by omega, by omega⟩
  have hti : (typeInfo e).run P w = .ok i w := by simp [typeInfo, hi]
  have h48 : ¬ ((i.bytes : Int) * n > 2 ^ 48) := by
    have : (i.bytes : Int) * n ≤ 4096 * 4294967296 := Int.mul_le_mul (by omega) hn h0 (by omega)
    omega
  have hneg : ¬ n < 0 := by omega
  have hsz : asize P e = some i.size := by simp [asize, hi]
  have hzr : (zeroValue e).run P w = .ok z w := by simp [zeroValue, typeInfo, hi, hz]
  have hd48 : decide ((i.bytes : Int) * n > 2 ^ 48) = false := by simpa using h48
  have hdneg : decide (n < 0) = false := by simpa using hneg
  by_cases hz0 : n.toNat * i.size = 0
  · simp only [Instr.makeSlice, underlying, hu, Sem.run_bind, run_program, Result.andThen_ok, Sem.run_pure, asInt, asIntOf, hti, hw, hdneg, hd48]
    simp [asize_run hsz, hz0, newRow, Array.range_zero']
  · simp only [Instr.makeSlice, underlying, hu, Sem.run_bind, run_program, Result.andThen_ok, Sem.run_pure, asInt, asIntOf, hti, hw, hdneg, hd48]
    simp [asize_run hsz, hz0, newRow, hzr]

theorem amakeSlice_ok {t : TypeId} {n m : AVal} {h : Heap A} {r : ORes A} {hR : PHeap} {w : World} {n' m' : Value} {sem : Sem Next} (hr : amakeSlice P t n m h = some r) (ho : r.obl) (hi : Inv I V (toF h) hR w)
    (hn : ∀ l, h.length ≤ l → l < h.length + r.new.length → V l = none) (h1 : Rep V n n') (h2 : Rep V m m') (hsem : sem = (do Pure.pure (.value (← Instr.makeSlice t n' m')))) :
    OpOk I P V h.length hR w r.v (toF (r.apply h)) r.new.length sem := by
  subst hsem
  unfold amakeSlice at hr
  split at hr
  case h_2 => cases hr
  rename_i e k n k' m hu
  have e1 : n' = .int k n := h1
  have e2 : m' = .int k' m := h2
  subst e1 e2
  cases hti : P.info? e with
  | none => rw [hti] at hr; cases hr
  | some i =>
    rw [hti] at hr
    simp only at hr
    split at hr
    case isFalse => cases hr
    rename_i hc
    obtain ⟨hb, hp⟩ := hc
    cases hz : i.zero with
    | none => rw [hz] at hr; cases hr
    | some z =>
      rw [hz] at hr
      simp only at hr
      have hzl := RepL.length (rep_cells_val V z)
      rw [Array.length_toList] at hzl
      cases hco : codeOf z with
      | some c =>
        rw [hco] at hr
        simp only at hr
        split at hr
        case isFalse => cases hr
        rename_i hs1
        simp only [Option.some.injEq] at hr; subst hr
        obtain ⟨o1, rfl, o3⟩ := ho
        have hzv := codeOf_val hco
        have hcell : z.cells = #[c.val 0] := by rw [hzv]; cases c <;> rfl
        have hrun := makeSlice_run (k := k) (k' := k') (w := w) hu hti hz hb o1 o3 (by rw [hcell, hs1]; rfl) hp
        have hV := hn h.length (Nat.le_refl _) (by simp)
        rw [hs1, Nat.mul_one, hcell] at hrun
        have hinv := Inv.push (e := .ints c (List.replicate n.toNat 0)) (k := n.toNat) (o := .cells ((Array.range n.toNat).map fun j => (#[c.val 0] : Array Value)[j % (#[c.val 0] : Array Value).size]!) e) hi hV (hget_ge (Nat.le_refl _))
          (interp_row (row := List.replicate n.toNat (c.val 0)) (tail := []) (Val.add_self _ _ _) (by simp [RepRow]) (by rw [range_one]; simp) (by simp))
        refine ⟨_, _, V.add h.length (w.heap.size, n.toNat), _, bind_run hrun, .inl rfl, Val.le_add hV, add_dom, ?_, ?_, ⟨rfl, rfl, by simp, fun _ => frozen_alloc _ _ _ _⟩⟩
        · exact ⟨_, _, rfl, Nat.le_refl _, .inl ⟨_, _, Val.add_self _ _ _, rfl, by omega⟩⟩
        · show Inv I _ (toF (h ++ [some _])) hR _
          rw [toF_push]; exact hinv
      | none =>
        rw [hco] at hr
        simp only [Option.some.injEq] at hr; subst hr
        obtain ⟨⟨o1, rfl, o3⟩, o4⟩ := ho
        have hzs : z.cells.size = i.size := by rw [hzl]; exact o4
        have hrun := makeSlice_run (k := k) (k' := k') (w := w) hu hti hz hb o1 o3 hzs hp
        have hV := hn h.length (Nat.le_refl _) (by simp)
        have hrep := flatten_rep (rep_cells_val V z) n.toNat
        rw [← hzs] at hrun
        have hinv := Inv.push (e := .cells ((List.replicate n.toNat (ofVal z).cells).flatten)) (k := n.toNat * i.size) (o := .cells ((Array.range (n.toNat * z.cells.size)).map fun j => z.cells[j % z.cells.size]!) e) hi hV (hget_ge (Nat.le_refl _))
          (interp_row (row := (List.replicate n.toNat z.cells.toList).flatten) (tail := []) (Val.add_self _ _ _) (RepL.mono (Val.le_add hV) _ _ hrep) (by rw [range_many]; simp) (by simp [hzs]))
        refine ⟨_, _, V.add h.length (w.heap.size, n.toNat * i.size), _, bind_run hrun, .inl rfl, Val.le_add hV, add_dom, ?_, ?_, ⟨rfl, rfl, by simp, fun _ => frozen_alloc _ _ _ _⟩⟩
        · exact ⟨_, _, rfl, Nat.le_refl _, .inl ⟨_, _, Val.add_self _ _ _, rfl, by omega⟩⟩
        · show Inv I _ (toF (h ++ [some _])) hR _
          rw [toF_push]; exact hinv

theorem overV_ints (c : Code1) : ∀ (ys xs : List Int) (off : Nat), off + ys.length ≤ xs.length → overV (xs.map c.val) off (ys.map c.val) = (overI xs off ys).map c.val
  | [], xs, off, _ => by simp [overV, overI]
  | y :: ys, xs, off, h => by
    simp only [List.length_cons] at h
    simp only [List.map_cons, overV]
    rw [← List.map_set, overV_ints c ys (xs.set off y) (off + 1) (by simp; omega)]
    congr 1
    unfold overI
    rw [List.take_set, List.drop_set_of_lt (by omega)]
    have hlt : off < xs.length := by omega
    have e1 : (xs.take (off + 1)).set off y = xs.take off ++ [y] := by
      rw [List.take_succ_eq_append_getElem hlt, List.set_append_right _ _ (by simp; omega)]
      have : off - (List.take off xs).length = 0 := by rw [List.length_take]; omega
      rw [this]; rfl
    rw [e1]
    simp [Nat.add_assoc, Nat.add_comm 1 ys.length]

theorem copy_none {dt xt ty e : TypeId} {base2 : Option Addr} {n cap m cap2 sz : Nat} {w : World} {ws : List Value} (h1 : P.underlying dt = some (.slice e)) (h3 : asize P e = some sz)
    (h4 : (Builtin.firstCells sz (Nat.min m n) (.slice base2 m cap2)).run P w = .ok ws.toArray w) :
    (Builtin.copy_ #[dt, xt] ty #[.slice none n cap, .slice base2 m cap2]).run P w = .ok (.int .i64 ((Nat.min m n : Nat) : Int)) w := by
  generalize hq : Nat.min m n = q at *
  simp [Builtin.copy_, underlying, h1, Builtin.lenOf, asize_run h3, hq, h4, goInt]
theorem copy_some {dt xt ty e : TypeId} {a : Addr} {base2 : Option Addr} {n cap m cap2 sz : Nat} {w w' : World} {ws : List Value} (h1 : P.underlying dt = some (.slice e)) (h3 : asize P e = some sz)
    (h4 : (Builtin.firstCells sz (Nat.min m n) (.slice base2 m cap2)).run P w = .ok ws.toArray w) (h6 : (storeCells a ws).run P w = .ok () w') :
    (Builtin.copy_ #[dt, xt] ty #[.slice (some a) n cap, .slice base2 m cap2]).run P w = .ok (.int .i64 ((Nat.min m n : Nat) : Int)) w' := by
  generalize hq : Nat.min m n = q at *
  simp [Builtin.copy_, underlying, h1, Builtin.lenOf, asize_run h3, hq, h4, h6, goInt]

theorem acopy_ok {dt xt ty : TypeId} {d x : AVal} {h : Heap A} {r : ORes A} {hR : PHeap} {w : World} {d' x' : Value} {sem : Sem Next} (hr : acopy P dt d x h = some r) (ho : r.obl) (hi : Inv I V (toF h) hR w)
    (h1 : Rep V d d') (h2 : Rep V x x') (hsem : sem = (do Pure.pure (.value (← Builtin.copy_ #[dt, xt] ty #[d', x'])))) :
    OpOk I P V h.length hR w r.v (toF (r.apply h)) r.new.length sem := by
  subst hsem
  unfold acopy at hr
  split at hr
  case h_2 => cases hr
  rename_i e hu
  split at hr
  case h_2 => cases hr
  rename_i l off n hs
  obtain ⟨base, cap, rfl, hcap, hb⟩ := h1
  split at hr
  · rename_i c xs c' ys m lx p hl hsrc
    split at hr
    case isFalse => cases hr
    rename_i hc
    obtain ⟨rfl, hc2⟩ := hc
    simp only [Option.some.injEq] at hr; subst hr
    obtain ⟨o1, o2⟩ := oalso_iff.1 ho
    obtain ⟨ws, base2, cap2, rfl, s2, s3', s3, s4⟩ := asource_run (V := V) hsrc o1 hi h2
    have e3 : ws = ys.map c.val := s3
    have hlt := hget_lt hl
    have first := s2 (Nat.min m n) (Nat.min_le_left _ _)
    rw [Nat.mul_one] at first
    have hF : toF (hupd h [(l, some (.ints c (overI xs off (ys.take (min m n)))))] ++ ([] : List (Option (Entry A)))) = (toF h).put l (some (.ints c (overI xs off (ys.take (min m n))))) := by
      rw [List.append_nil]; exact toF_set _ hlt
    have hwsl : (ws.take (Nat.min m n)).length = min m n := by
      rw [List.length_take, s3']
      show min (min m n) (m * 1) = min m n
      omega
    show OpOk I P V h.length hR w _ (toF (hupd h [(l, some (.ints c (overI xs off (ys.take (min m n)))))] ++ [])) 0 _
    rw [hF]
    by_cases hmn : min m n = 0
    · have hnil : ys.take (min m n) = [] := by rw [hmn]; rfl
      have hsame : (toF h).put l (some (.ints c (overI xs off (ys.take (min m n))))) = toF h := by
        rw [hnil]
        have : overI xs off [] = xs := by simp [overI]
        rw [this]
        funext q
        by_cases hq : q = l
        · subst hq; simp [FHeap.put]; exact hl.symm
        · simp [FHeap.put, hq]
      rw [hsame]
      refine OpOk.pure (v' := .int .i64 ((min m n : Nat) : Int)) hi rfl ?_
      have hw0 : ws.take (Nat.min m n) = [] := List.length_eq_zero_iff.1 (by rw [hwsl]; exact hmn)
      rw [hw0] at first
      refine bind_run ?_
      cases base with
      | none => exact copy_none hu hs first
      | some a => exact copy_some hu hs first (by simp [storeCells])
    · have hn0 : n ≠ 0 := by omega
      have hxne : xs ≠ [] := by intro e; subst e; simp at o2; omega
      obtain ⟨b, k, cs, T, tail, t1, t2, t3, t4⟩ := hi.ints (l := l) hl hxne
      rcases hb with ⟨b', k', t5, rfl, t6⟩ | ⟨t5, _⟩
      · rw [t1] at t5; cases t5
        have hsz : cs.size = xs.length + tail.length := by rw [← Array.length_toList, t4]; simp
        obtain ⟨w', cs', q1, q2, q3, q4, q5⟩ := storeCells_row (P := P) (ws.take (Nat.min m n)) 0 w b off cs T t2 (fun v hv => s4 v (List.mem_of_mem_take hv)) (by rw [hwsl]; omega)
        have hrun : (Builtin.copy_ #[dt, xt] ty #[.slice (some ⟨b, off, none⟩) n cap, .slice base2 m cap2]).run P w = .ok (.int .i64 ((min m n : Nat) : Int)) w' := by
          exact copy_some hu hs first q1
        have e5 : ws.take (Nat.min m n) = (ys.take (min m n)).map c.val := by rw [e3]; exact (List.map_take ..).symm
        have hyl : (ys.take (min m n)).length = min m n := by
          have := congrArg List.length e5
          rw [hwsl, List.length_map] at this; exact this.symm
        have hover : overV (xs.map c.val) off ((ys.take (min m n)).map c.val) = (overI xs off (ys.take (min m n))).map c.val := overV_ints c _ _ _ (by rw [hyl]; omega)
        refine ⟨_, w', V, _, bind_run hrun, .inl rfl, V.le_refl, fun l e f => (f e).elim, rfl, ?_, q5⟩
        refine hi.replace (e := .ints c xs) hl (b := b) (o' := .cells cs' T) ?_ ?_ q2 q4
        · intro g hg
          rcases hg with ⟨e, _⟩ | ⟨b1, k1, hl1, cs1, T1, tl1, e4, _⟩
          · exact (hxne e).elim
          · rw [t1] at hl1; cases hl1
            exact ⟨_, e4⟩
        · refine .inr ⟨b, k, t1, cs', T, tail, rfl, ?_, ?_⟩
          · rw [← Array.length_toList, q3, overV_length, Array.length_toList]; exact t3
          · rw [q3, t4, Nat.add_zero, e5, overV_append _ _ _ _ (by simp only [List.length_map]; rw [hyl]; omega), hover]
      · exact (hn0 t5).elim
  · rename_i c xs lx p hl hsrc
    simp only [Option.some.injEq] at hr; subst hr
    rw [apply_nil rfl rfl]
    refine OpOk.pure (v' := .int .i64 0) hi rfl (bind_run ?_)
    have hx0 : ∃ base2 cap2, x' = .slice base2 0 cap2 := by
      unfold asource at hsrc
      split at hsrc
      · split at hsrc
        · split at hsrc
          · split at hsrc <;> simp at hsrc
          · split at hsrc
            · simp only [Option.some.injEq, Prod.mk.injEq] at hsrc
              obtain ⟨_, rfl, _⟩ := hsrc
              obtain ⟨base2, cap2, e, _⟩ := h2
              exact ⟨base2, cap2, e⟩
            · cases hsrc
          · cases hsrc
        · cases hsrc
      · split at hsrc <;> simp at hsrc
      · split at hsrc
        · split at hsrc
          · split at hsrc <;> simp at hsrc
          · cases hsrc
        · cases hsrc
      · obtain ⟨base2, e⟩ := h2
        exact ⟨base2, 0, e⟩
      · split at hsrc
        · rename_i hnil
          have := isNilSlice_eq hnil
          subst this
          exact ⟨none, 0, h2⟩
        · cases hsrc
    obtain ⟨base2, cap2, rfl⟩ := hx0
    have first : (Builtin.firstCells 1 0 (.slice base2 0 cap2)).run P w = .ok #[] w := firstCells_zero
    have e0 : Nat.min 0 n = 0 := Nat.zero_min n
    have first' : (Builtin.firstCells 1 (Nat.min 0 n) (.slice base2 0 cap2)).run P w = .ok ([] : List Value).toArray w := by rw [e0]; exact first
    have : (Value.int .i64 0) = .int .i64 ((Nat.min 0 n : Nat) : Int) := by rw [e0]; rfl
    rw [this]
    cases base with
    | none => exact copy_none hu hs first'
    | some a => exact copy_some hu hs first' (by simp [storeCells])
  · cases hr

end
end Go.Sh
