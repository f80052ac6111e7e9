/- The small-heap evaluator, part 7c: append. -/
import Derived.Test.YtjklokfpnbnndaaZSh7b
set_option linter.all false
set_option linter.unusedVariables false
set_option linter.unusedSectionVars false
namespace Go.Sh
open Go
variable [Con] {A : Type} {I : A → Nat → PHeap → Prop}
section
variable {P : Program} {V : Val}

theorem append_fit_none {st xt ty e e2 : TypeId} {base2 : Option Addr} {sLen sCap m cap2 sz : Nat} {w : World} {ws : List Value} (h1 : P.underlying st = some (.slice e)) (h2 : P.underlying xt = some (.slice e2)) (h3 : asize P e = some sz)
    (h4 : (Builtin.firstCells sz m (.slice base2 m cap2)).run P w = .ok ws.toArray w) (h5 : sLen + m ≤ sCap) :
    (Builtin.append_ #[st, xt] ty #[.slice none sLen sCap, .slice base2 m cap2]).run P w = .ok (.slice none (sLen + m) sCap) w := by
  simp [Builtin.append_, underlying, h1, h2, asize_run h3, Builtin.lenOf, h4, h5]

theorem append_fit {st xt ty e e2 : TypeId} {a : Addr} {base2 : Option Addr} {sLen sCap m cap2 sz : Nat} {w w' : World} {ws : List Value} (h1 : P.underlying st = some (.slice e)) (h2 : P.underlying xt = some (.slice e2)) (h3 : asize P e = some sz)
    (h4 : (Builtin.firstCells sz m (.slice base2 m cap2)).run P w = .ok ws.toArray w) (h5 : sLen + m ≤ sCap) (h6 : (storeCells (a.add (sLen * sz)) ws).run P w = .ok () w') :
    (Builtin.append_ #[st, xt] ty #[.slice (some a) sLen sCap, .slice base2 m cap2]).run P w = .ok (.slice (some a) (sLen + m) sCap) w' := by
  simp [Builtin.append_, underlying, h1, h2, asize_run h3, Builtin.lenOf, h4, h5, h6]

theorem append_grow {st xt ty e e2 : TypeId} {i : TypeInfo} {z : Value} {base base2 : Option Addr} {sLen sCap m cap2 : Nat} {w : World} {ws row : List Value} (h1 : P.underlying st = some (.slice e)) (h2 : P.underlying xt = some (.slice e2)) (h3 : P.info? e = some i) (hz : i.zero = some z)
    (h4 : (Builtin.firstCells i.size m (.slice base2 m cap2)).run P { w with drawn := w.drawn + 1 } = .ok ws.toArray { w with drawn := w.drawn + 1 }) (h5 : sCap < sLen + m) (hb : i.bytes ≤ 4096) (hm : sLen + m ≤ 4294967296)
    (h6 : (Builtin.firstCells i.size sLen (.slice base sLen sCap)).run P { w with drawn := w.drawn + 1 } = .ok row.toArray { w with drawn := w.drawn + 1 }) :
    ∃ cap rest, sLen + m ≤ cap ∧ rest.length = (cap - (sLen + m)) * z.cells.size ∧
      (Builtin.append_ #[st, xt] ty #[.slice base sLen sCap, .slice base2 m cap2]).run P w =
        .ok (.slice (some ⟨w.heap.size, 0, none⟩) (sLen + m) cap) { w with drawn := w.drawn + 1, heap := w.heap.push (.cells (row ++ ws ++ rest).toArray e) } := by
  have hsz : asize P e = some i.size := by simp [asize, h3]
  have hn : ¬ (sLen + m ≤ sCap) := by omega
  have hmx : IntKind.i64.max = 9223372036854775807 := by decide
  have hn2 : ¬ ((((sLen + m : Nat) : Int) > IntKind.i64.max) ∧ (false = true ∨ i.bytes = 0)) := by rw [hmx]; omega
  have hcap := nextslicecap_le h5
  have hn3 : ¬ (Builtin.nextslicecap (sLen + m) sCap * i.bytes > 2 ^ 48) := by
    have : Builtin.nextslicecap (sLen + m) sCap * i.bytes ≤ (2 * 4294967296) * 4096 := Nat.mul_le_mul (by omega) hb
    omega
  let q := Question.appendCap (sLen + m) sCap e
  refine ⟨q.cut (w.tape w.drawn q), (Builtin.zeroCells z.cells (q.cut (w.tape w.drawn q) - (sLen + m))).toList, ?_, ?_, ?_⟩
  · show sLen + m ≤ sLen + m + _; omega
  · simp [Builtin.zeroCells]
  · have hf : Question.forced (.appendCap (sLen + m) sCap e) = false := rfl
    have hti : (typeInfo e).run P w = .ok i w := by simp [typeInfo, h3]
    have hti2 : (typeInfo e).run P { w with drawn := w.drawn + 1 } = .ok i { w with drawn := w.drawn + 1 } := by simp [typeInfo, h3]
    have hzr : (zeroValue e).run P { w with drawn := w.drawn + 1 } = .ok z { w with drawn := w.drawn + 1 } := by simp [zeroValue, typeInfo, h3, hz]
    unfold Builtin.append_
    simp only [List.getElem?_toArray, List.getElem?_cons_zero, List.getElem?_cons_succ, Sem.run_bind, underlying, run_program, Result.andThen_ok, h1, h2, Sem.run_pure, asize_run hsz, Builtin.lenOf, Bool.false_eq_true, if_false, hn, Sem.run_ite]
    simp only [hti, Result.andThen_ok, hn3, if_false, run_choose, hf, Bool.false_eq_true, Sem.run_bind, run_askRoom, h6, h4, hzr, Bool.not_false, if_true, Sem.run_pure, newRow, run_newObj, hti2, false_or]
    have hn4 : ¬ ((((sLen + m : Nat) : Int) > IntKind.i64.max) ∧ i.bytes = 0) := by rw [hmx]; omega
    rw [if_neg hn4]
    congr 3
    apply congrArg (fun c => Obj.cells c e)
    apply Array.ext'
    simp [q]


theorem bind_run {s : Sem Value} {v : Value} {w w' : World} (h : s.run P w = .ok v w') : (do Pure.pure (.value (← s)) : Sem Next).run P w = .ok (.value v) w' := by
  simp only [Sem.run_bind, h, Result.andThen_ok, Sem.run_pure]

theorem overV_end : ∀ (ws row tail : List Value), ws.length ≤ tail.length → overV (row ++ tail) row.length ws = (row ++ ws) ++ tail.drop ws.length
  | [], row, tail, _ => by simp [overV]
  | x :: ws, row, [], h => by simp at h
  | x :: ws, row, y :: tail, h => by
    simp only [overV, List.length_cons, List.drop_succ_cons]
    have e1 : (row ++ y :: tail).set row.length x = (row ++ [x]) ++ tail := by
      rw [List.set_append_right _ _ (Nat.le_refl _), Nat.sub_self]; simp
    have e2 : row.length + 1 = (row ++ [x]).length := by simp
    rw [e1, e2, overV_end ws (row ++ [x]) tail (by simp at h; omega)]
    simp

theorem OpOk.conv {P : Program} {V : Val} {n : Nat} {hR : PHeap} {w : World} {v u : AVal} {h : FHeap A} {k : Nat} {s : Sem Next} (hc : ∀ V' x, Rep V' v x → Rep V' u x) (ho : OpOk I P V n hR w v h k s) : OpOk I P V n hR w u h k s := by
  obtain ⟨nx, w', V', v', h1, h2, h3, h4, h5, h6, h7⟩ := ho
  exact ⟨nx, w', V', v', h1, h2, h3, h4, hc _ _ h5, h6, h7⟩
theorem rep_tslice0 {V : Val} {l n sz : Nat} {x : Value} (h : Rep V (.slice l 0 n sz) x) : Rep V (.tslice l 0 n sz) x := by
  obtain ⟨base, cap, e, hc, hb⟩ := h
  refine ⟨base, cap, e, hc, ?_⟩
  rw [Nat.zero_mul]; exact hb

theorem aappend_ok {st xt ty : TypeId} {s x : AVal} {h : Heap A} {r : ORes A} {hR : PHeap} {w : World} {s' x' : Value} {sem : Sem Next} (hr : aappend P st xt s x h = some r) (ho : r.obl) (hi : Inv I V (toF h) hR w)
    (hn : ∀ l, h.length ≤ l → l < h.length + r.new.length → V l = none) (hs : Rep V s s') (hx : Rep V x x') (hsem : sem = (do Pure.pure (.value (← Builtin.append_ #[st, xt] ty #[s', x'])))) :
    OpOk I P V h.length hR w r.v (toF (r.apply h)) r.new.length sem := by
  subst hsem
  unfold aappend at hr
  split at hr
  case h_2 => cases hr
  rename_i e e2 h1 h2
  cases hti : P.info? e with
  | none => rw [hti] at hr; cases hr
  | some i =>
    rw [hti] at hr
    simp only at hr
    split at hr
    case isFalse => cases hr
    rename_i hcond
    obtain ⟨hpos, hbytes, hzero⟩ := hcond
    have hsz : asize P e = some i.size := by simp [asize, hti]
    obtain ⟨z, hz, hzl⟩ : ∃ z, i.zero = some z ∧ (ofVal z).cells.length = i.size := by
      cases hz : i.zero with
      | none => rw [hz] at hzero; cases hzero
      | some z => rw [hz] at hzero; exact ⟨z, rfl, by simpa using hzero⟩
    have hzs : z.cells.size = i.size := by
      have := RepL.length (rep_cells_val V z)
      rw [Array.length_toList] at this; rw [this, hzl]
    cases hsrc : asource x i.size h with
    | none => rw [hsrc] at hr; cases hr
    | some q =>
      obtain ⟨ey, m, lx, p⟩ := q
      rw [hsrc] at hr
      simp only at hr
      -- what is appended, whatever has been drawn
      have src : ∀ n, onp p → ∃ ws base2 cap2, x' = .slice base2 m cap2 ∧ (Builtin.firstCells i.size m x').run P { w with drawn := n } = .ok ws.toArray { w with drawn := n } ∧ ws.length = m * i.size ∧ RepRow V ey ws ∧ ∀ v ∈ ws, v.oneCell' = true :=
        fun n hp => by
          obtain ⟨ws, base2, cap2, e1, e2, e3, e4, e5⟩ := asource_run hsrc hp (hi.drew n) hx
          refine ⟨ws, base2, cap2, e1, ?_, e3, e4, e5⟩
          have := e2 m (Nat.le_refl _)
          rwa [← e3, List.take_length] at this
      -- the label's row, and what it comes to
      have main : ∀ (l n : Nat) (en e' : Entry A) (base : Option Addr) (cap : Nat), hget h l = some en → s' = .slice base n cap → n ≤ cap → ajoin en ey = some e' → onp p → n + m ≤ 4294967296 →
          ((∃ c xs, en = .ints c xs ∧ n = xs.length ∧ i.size = 1) ∨ (∃ vs, en = .cells vs ∧ n * i.size = vs.length) ∨ (∃ ks rows, en = .tab ks rows ∧ n = rows.length ∧ i.size = ks.length)) →
          ((∃ b k, V l = some (b, k) ∧ base = some ⟨b, 0, none⟩ ∧ 0 + cap * i.size ≤ k) ∨ (n = 0 ∧ cap = 0)) → V h.length = none →
          OpOk I P V h.length hR w (.slice h.length 0 (n + m) i.size) (toF (hupd h [(l, none)] ++ [e'].map some)) 1 (do Pure.pure (.value (← Builtin.append_ #[st, xt] ty #[s', x']))) := by
        intro l n en e' base cap hl hs' hcap hj hp hbig hrow hb hV
        have hwd : en.wide = true := by
          rcases hrow with ⟨c, xs, rfl, _⟩ | ⟨vs, rfl, _⟩ | ⟨ks, rows, rfl, _, hk⟩
          · rfl
          · rfl
          · show Nat.blt 0 ks.length = true
            exact Nat.ble_eq_true_of_le (by omega)
        subst hs'
        have hlt := hget_lt hl
        have hF : toF (hupd h [(l, none)] ++ [e'].map some) = ((toF h).put l none).put h.length (some e') := by
          have h1 : hupd h [(l, none)] = h.set l none := rfl
          rw [h1]
          have h2 : (h.set l none).length = h.length := by simp
          have := toF_push (h.set l none) e'
          rw [h2, toF_set none hlt] at this
          exact this
        rw [hF]
        have hne : h.length ≠ l := by omega
        obtain ⟨ws, base2, cap2, rfl, hw1, hw2, hw3, hw4⟩ := src w.drawn hp
        obtain ⟨ws', base2', cap2', he', hw1', hw2', hw3', hw4'⟩ := src (w.drawn + 1) hp
        cases he'
        -- a new block
        have grow : ∀ row : List Value, RepRow V en row → row.length = n * i.size → cap < n + m → (∀ d, (Builtin.firstCells i.size n (.slice base n cap)).run P { w with drawn := d } = .ok row.toArray { w with drawn := d }) →
            OpOk I P V h.length hR w (.slice h.length 0 (n + m) i.size) (((toF h).put l none).put h.length (some e')) 1 (do Pure.pure (.value (← Builtin.append_ #[st, xt] ty #[.slice base n cap, .slice base2 m cap2]))) := by
          intro row r1 r2 hlt2 r3
          obtain ⟨ncap, rest, g1, g2, g3⟩ := append_grow (ty := ty) h1 h2 hti hz hw1' hlt2 hbytes hbig (r3 _)
          have hrow' : RepRow V e' (row ++ ws') := ajoin_row hj r1 hw3'
          have hsize : (row ++ ws' ++ rest).toArray.size = ncap * i.size := by
            simp only [List.size_toArray, List.length_append, r2, hw2', g2, hzs]
            rw [← Nat.add_mul, ← Nat.add_mul]; congr 1; omega
          have hinv := Inv.push (e := e') (k := ncap * i.size) (o := .cells (row ++ ws' ++ rest).toArray e) ((hi.drew (w.drawn + 1)).kill l) hV (by simp [FHeap.put, hne]; exact hget_ge (Nat.le_refl _))
            (interp_row (Val.add_self _ _ _) (RepRow.mono (Val.le_add hV) hrow') (by simp; rfl) hsize)
          have hrun : (do Pure.pure (.value (← Builtin.append_ #[st, xt] ty #[.slice base n cap, .slice base2 m cap2])) : Sem Next).run P w = .ok (.value (.slice (some ⟨w.heap.size, 0, none⟩) (n + m) ncap)) { w with drawn := w.drawn + 1, heap := w.heap.push (.cells (row ++ ws' ++ rest).toArray e) } := by
            simp only [Sem.run_bind, g3, Result.andThen_ok, Sem.run_pure]
          refine ⟨_, _, V.add h.length (w.heap.size, ncap * i.size), _, hrun, .inl rfl, Val.le_add hV, add_dom, ?_, hinv, ⟨rfl, rfl, by simp, fun _ => frozen_alloc _ _ _ _⟩⟩
          exact ⟨_, _, rfl, g1, .inl ⟨_, _, Val.add_self _ _ _, rfl, by omega⟩⟩
        -- the label's own value there
        have hVx : ∃ V' : Val, V.le V' ∧ (∀ x, V l = some x → V' h.length = some x) ∧ (∀ l, V l = none → V' l ≠ none → h.length ≤ l ∧ l < h.length + 1) := by
          cases hvl : V l with
          | none => exact ⟨V, V.le_refl, fun x e => (by cases e), fun l e f => (f e).elim⟩
          | some x => exact ⟨V.add h.length x, Val.le_add hV, fun y e => by cases e; exact Val.add_self _ _ _, add_dom⟩
        obtain ⟨V', v1, v2, v3⟩ := hVx
        obtain ⟨row, r1, r2, r3⟩ := row_at hi hl hpos hrow hb
        rcases r3 with ⟨b, k, cs, T, tail, t1, t2, t3, t4, t5, t6, t7⟩ | ⟨t1, t2⟩
        · subst t2
          have hfirst : ∀ d, (Builtin.firstCells i.size n (.slice (some ⟨b, 0, none⟩) n cap)).run P { w with drawn := d } = .ok row.toArray { w with drawn := d } := by
            intro d
            refine firstCells_row (w := { w with drawn := d }) t3 row r2 ?_
            intro j v hj
            rw [← Array.getElem?_toList, t5, Nat.zero_add, List.getElem?_append_left]
            · exact hj
            · cases Nat.lt_or_ge j row.length with
              | inl g => exact g
              | inr g => rw [List.getElem?_eq_none g] at hj; cases hj
          by_cases hfit : n + m ≤ cap
          · have hsp : n * i.size + ws.length ≤ cs.size := by
              rw [hw2, ← Nat.add_mul]
              exact Nat.le_trans (Nat.mul_le_mul_right _ hfit) (by omega)
            obtain ⟨w', cs', q1, q2, q3, q4, q5⟩ := storeCells_row (P := P) ws 0 w b (n * i.size) cs T t3 hw4 (by omega)
            have hrun := append_fit (ty := ty) (a := ⟨b, 0, none⟩) h1 h2 hsz hw1 hfit (w' := w') (by rw [Addr.add_lit, Nat.zero_add]; exact q1)
            have hrow' : RepRow V e' (row ++ ws) := ajoin_row hj r1 hw3
            have hcs' : cs'.toList = (row ++ ws) ++ tail.drop ws.length := by
              rw [q3, t5, Nat.add_zero, ← r2]
              exact overV_end ws row tail (by rw [← Array.length_toList, t5, ← r2] at hsp; simp at hsp; omega)
            have hk' : cs'.size = k := by
              rw [← Array.length_toList, q3, overV_length, Array.length_toList]; exact t4
            have hrep := hi.replace (e := en) (e' := e') hl (b := b) (o' := .cells cs' T) t7 (interp_row t1 hrow' hcs' hk') q2 q4
            have hmv := hrep.move (m := h.length) hne (e := e') (e' := e') (by simp [FHeap.put]) (by simp [FHeap.put, hne]; exact hget_ge (Nat.le_refl _)) v1 (fun g hg => interp_moved v1 v2 hg)
            have hput : (((toF h).put l (some e')).put l none).put h.length (some e') = ((toF h).put l none).put h.length (some e') := by
              funext x; by_cases hx1 : x = h.length
              · simp [FHeap.put, hx1]
              · by_cases hx2 : x = l <;> simp [FHeap.put, hx1, hx2]
            rw [hput] at hmv
            refine ⟨_, w', V', _, bind_run hrun, .inl rfl, v1, v3, ?_, hmv, q5⟩
            exact ⟨_, cap, rfl, hfit, .inl ⟨b, k, v2 _ t1, rfl, by omega⟩⟩
          · exact grow row r1 r2 (by omega) hfirst
        · subst t1 t2
          have hrow0 : row = [] := List.length_eq_zero_iff.1 (by simpa using r2)
          subst hrow0
          by_cases hm : m = 0
          · subst hm
            have hws : ws = [] := List.length_eq_zero_iff.1 (by simpa using hw2)
            subst hws
            have hrun : (Builtin.append_ #[st, xt] ty #[.slice base 0 0, .slice base2 0 cap2]).run P w = .ok (.slice base 0 0) w := by
              cases base with
              | none => exact append_fit_none h1 h2 hsz hw1 (Nat.le_refl _)
              | some a => exact append_fit h1 h2 hsz hw1 (Nat.le_refl _) (by simp [storeCells])
            refine ⟨_, w, V', _, bind_run hrun, .inl rfl, v1, v3, ?_, ?_, Grows.refl w⟩
            · exact ⟨base, 0, rfl, Nat.le_refl _, .inr ⟨rfl, rfl⟩⟩
            · exact hi.move hne hl (hget_ge (Nat.le_refl _)) v1 (fun g hg => ajoin_nil hwd hj r1 hw3 v1 v2 hg)
          · exact grow [] r1 r2 (by omega) (fun d => firstCells_zero)
      -- nothing appended to nothing
      have nil0 : ∀ (base : Option Addr), s' = .slice base 0 0 → onp p → m = 0 → Rep V (r.v) (.slice base 0 0) → OpOk I P V h.length hR w r.v (toF h) 0 (do Pure.pure (.value (← Builtin.append_ #[st, xt] ty #[s', x']))) := by
        intro base hs' hp hm hrep
        subst hs' hm
        obtain ⟨ws, base2, cap2, rfl, hw1, hw2, hw3, hw4⟩ := src w.drawn hp
        have hws : ws = [] := List.length_eq_zero_iff.1 (by simpa using hw2)
        subst hws
        have hrun : (Builtin.append_ #[st, xt] ty #[.slice base 0 0, .slice base2 0 cap2]).run P w = .ok (.slice base 0 0) w := by
          cases base with
          | none => exact append_fit_none h1 h2 hsz hw1 (Nat.le_refl _)
          | some a => exact append_fit h1 h2 hsz hw1 (Nat.le_refl _) (by simp [storeCells])
        exact OpOk.pure hi hrep (bind_run hrun)
      -- a row appended to nothing
      have nil1 : ∀ (base : Option Addr), s' = .slice base 0 0 → onp p → m ≤ 4294967296 → (ey = .cells [] → False) → V h.length = none → (RepRow V ey [] → ∀ V' : Val, (∃ b, V' h.length = some (b, 0)) → ey.interp I V' h.length .emp) →
          OpOk I P V h.length hR w (.slice h.length 0 m i.size) (toF (h ++ [some ey])) 1 (do Pure.pure (.value (← Builtin.append_ #[st, xt] ty #[s', x']))) := by
        intro base hs' o1 o2 hne hV hemp
        subst hs'
        obtain ⟨ws, base2, cap2, rfl, hw1, hw2, hw3, hw4⟩ := src (w.drawn + 1) o1
        obtain ⟨ws0, base20, cap20, h0, hw10, hw20, hw30, hw40⟩ := src w.drawn o1
        cases h0
        by_cases hm : m = 0
        · subst hm
          have hws : ws0 = [] := List.length_eq_zero_iff.1 (by simpa using hw20)
          subst hws
          have hrun : (Builtin.append_ #[st, xt] ty #[.slice base 0 0, .slice base2 0 cap2]).run P w = .ok (.slice base 0 0) w := by
            cases base with
            | none => exact append_fit_none h1 h2 hsz hw10 (Nat.le_refl _)
            | some a => exact append_fit h1 h2 hsz hw10 (Nat.le_refl _) (by simp [storeCells])
          have hinv := hi.emptyE hV (hget_ge (Nat.le_refl _)) (hemp hw30)
          refine ⟨_, w, V.add h.length (0, 0), _, bind_run hrun, .inl rfl, Val.le_add hV, add_dom, ⟨_, _, rfl, Nat.le_refl _, .inr ⟨rfl, rfl⟩⟩, ?_, Grows.refl w⟩
          rw [toF_push]; exact hinv
        · obtain ⟨ncap, rest, g1, g2, g3⟩ := append_grow (ty := ty) (base := base) (sLen := 0) (sCap := 0) (row := []) h1 h2 hti hz hw1 (by omega) hbytes (by omega) firstCells_zero
          have hsize : ([] ++ ws ++ rest).toArray.size = ncap * i.size := by
            simp only [List.size_toArray, List.length_append, hw2, g2, hzs, List.length_nil, Nat.zero_add]
            rw [← Nat.add_mul]; congr 1; omega
          have hinv := Inv.push (e := ey) (k := ncap * i.size) (o := .cells ([] ++ ws ++ rest).toArray e) (hi.drew (w.drawn + 1)) hV (hget_ge (Nat.le_refl _))
            (interp_row (Val.add_self _ _ _) (RepRow.mono (Val.le_add hV) hw3) (by simp; rfl) hsize)
          have hrun := bind_run g3
          rw [Nat.zero_add] at hrun g1
          refine ⟨_, _, V.add h.length (w.heap.size, ncap * i.size), _, hrun, .inl rfl, Val.le_add hV, add_dom, ?_, ?_, ⟨rfl, rfl, by simp, fun _ => frozen_alloc _ _ _ _⟩⟩
          · exact ⟨_, _, rfl, g1, .inl ⟨_, _, Val.add_self _ _ _, rfl, by omega⟩⟩
          · rw [toF_push]; exact hinv
      have nilE : (ey = .cells [] → False) → (∀ ks ys, ey = .tab ks ys → False) → RepRow V ey [] → ∀ V' : Val, (∃ b, V' h.length = some (b, 0)) → ey.interp I V' h.length .emp := by
        intro hne hne2 hr V' hb
        cases ey with
        | ints c xs => cases xs with
          | nil => exact .inl ⟨rfl, rfl, hb⟩
          | cons y ys => have e2 : ([] : List Value) = _ := hr; cases e2
        | cells vs =>
          have : vs = [] := List.length_eq_zero_iff.1 (RepL.length hr).symm
          subst this; exact (hne rfl).elim
        | abs t => exact hr.elim
        | tab ks ys => exact (hne2 ks ys rfl).elim
        | imap kk vc m => exact hr.elim
      split at hr
      · rename_i l off n sz
        split at hr
        case isFalse => cases hr
        rename_i hc
        obtain ⟨hc1, hc2⟩ := hc
        subst hc1
        obtain ⟨base, cap, hs', hcap, hb⟩ := hs
        split at hr
        · rename_i c xs hl
          cases hj : ajoin (.ints c xs) ey with
          | none => rw [hj] at hr; cases hr
          | some e' =>
            rw [hj] at hr; simp only [Option.some.injEq] at hr; subst hr
            obtain ⟨o1, o2, o3, o4, o5⟩ := oalso_iff.1 ho
            subst o2
            exact main l n (.ints c xs) e' base cap hl hs' hcap hj o1 o5 (.inl ⟨c, xs, rfl, o3, o4⟩) hb (hn _ (Nat.le_refl _) (by simp))
        · rename_i vs hl
          split at hr
          case isFalse => cases hr
          rename_i hv
          cases hj : ajoin (.cells vs) ey with
          | none => rw [hj] at hr; cases hr
          | some e' =>
            rw [hj] at hr; simp only [Option.some.injEq] at hr; subst hr
            obtain ⟨o1, o5⟩ := oalso_iff.1 ho
            rw [hv.1] at hb
            exact main l n (.cells vs) e' base cap hl hs' hcap hj o1 o5 (.inr (.inl ⟨vs, rfl, hv.2⟩)) hb (hn _ (Nat.le_refl _) (by simp))
        · cases hr
      · rename_i l r0 n w0
        split at hr
        case isFalse => cases hr
        rename_i hc
        obtain ⟨hc1, hc2⟩ := hc
        subst hc1
        obtain ⟨base, cap, hs', hcap, hb⟩ := hs
        split at hr
        · rename_i ks rows hl
          split at hr
          case isFalse => cases hr
          rename_i hkw
          cases hj : ajoin (.tab ks rows) ey with
          | none => rw [hj] at hr; cases hr
          | some e' =>
            rw [hj] at hr; simp only [Option.some.injEq] at hr; subst hr
            obtain ⟨o1, o2, o3, o5⟩ := oalso_iff.1 ho
            subst o2
            rw [Nat.zero_mul] at hb
            exact OpOk.conv (fun _ _ => rep_tslice0) (main l n (.tab ks rows) e' base cap hl hs' hcap hj o1 o5 (.inr (.inr ⟨ks, rows, rfl, o3, hkw.symm⟩)) hb (hn _ (Nat.le_refl _) (by simp)))
        · cases hr
      · obtain ⟨base, hs'⟩ := hs
        split at hr
        · simp only [Option.some.injEq] at hr; subst hr
          obtain ⟨o1, o2⟩ := oalso_iff.1 ho
          subst o2
          rw [apply_nil rfl rfl]
          exact nil0 base hs' o1 rfl ⟨base, rfl⟩
        · split at hr
          case isFalse => cases hr
          rename_i ks ys hk
          simp only [Option.some.injEq] at hr; subst hr
          obtain ⟨o1, o2⟩ := oalso_iff.1 ho
          exact OpOk.conv (fun _ _ => rep_tslice0) (nil1 base hs' o1 o2 (fun h => by cases h) (hn _ (Nat.le_refl _) (by simp)) (fun h => by
            refine fun V' hb => ?_
            have : ys = [] := tabVals_nil (by omega) h
            subst this
            exact .inl ⟨rfl, rfl, hb⟩))
        · rename_i hne hne2
          simp only [Option.some.injEq] at hr; subst hr
          obtain ⟨o1, o2⟩ := oalso_iff.1 ho
          exact nil1 base hs' o1 o2 (fun h => hne h) (hn _ (Nat.le_refl _) (by simp)) (nilE hne hne2)
      · split at hr
        case isFalse => cases hr
        rename_i hnil
        have := isNilSlice_eq hnil
        subst this
        have hs' : s' = .slice none 0 0 := hs
        split at hr
        · simp only [Option.some.injEq] at hr; subst hr
          obtain ⟨o1, o2⟩ := oalso_iff.1 ho
          subst o2
          rw [apply_nil rfl rfl]
          exact nil0 none hs' o1 rfl rfl
        · split at hr
          case isFalse => cases hr
          rename_i ks ys hk
          simp only [Option.some.injEq] at hr; subst hr
          obtain ⟨o1, o2⟩ := oalso_iff.1 ho
          exact OpOk.conv (fun _ _ => rep_tslice0) (nil1 none hs' o1 o2 (fun h => by cases h) (hn _ (Nat.le_refl _) (by simp)) (fun h => by
            refine fun V' hb => ?_
            have : ys = [] := tabVals_nil (by omega) h
            subst this
            exact .inl ⟨rfl, rfl, hb⟩))
        · rename_i hne hne2
          simp only [Option.some.injEq] at hr; subst hr
          obtain ⟨o1, o2⟩ := oalso_iff.1 ho
          exact nil1 none hs' o1 o2 (fun h => hne h) (hn _ (Nat.le_refl _) (by simp)) (nilE hne hne2)

end
end Go.Sh
