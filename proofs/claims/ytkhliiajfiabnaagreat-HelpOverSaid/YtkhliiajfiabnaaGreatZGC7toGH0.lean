import Derived.Test.YtkhliiajfiabnaaGreatZGB0toGC6
set_option linter.all false
namespace Go.Sh
open Go Go.Proofs
variable [Con]
structure PrO where
  d : Bool
  x : PRS
  st : STS
  s : MS
instance : Inhabited PrO := ⟨⟨false, ⟨0, 0, 0, false⟩, ⟨0, 0, []⟩, ⟨0, 0, [], 0, 0, 0, 0, 0, false⟩⟩⟩
instance : Inhabited PRS := ⟨⟨0, 0, 0, false⟩⟩
abbrev prH (t n : Int) (x : PRS) (st : STS) (s : MS) : Heap Ob := [some (.abs (.prepare t n x) [1]), some (.abs (.store t n st) []), memC 3 s, memX s]
abbrev prD (t n : Int) (x : PRS) (st : STS) (s : MS) : Heap Ob := [some (.cells [.ptr 1 0, .int .i64 x.key, .int .i64 x.nxt, .int .u64 x.found, .bool x.loaded]), some (.abs (.store t n st) []), memC 3 s, memX s]
def PrO.fin (t n : Int) (y : PrO) : Out Ob := .ite y.d (.ret (.bool true) (prD t n y.x y.st y.s)) (.ret (.bool false) (prH t n y.x y.st y.s))
def prP0 (t n : Int) (v : AVal) (g : Heap Ob) : Option (Prop × PrO) := match v, g with
  | .bool d, [some (.cells [.ptr 1 0, .int .i64 key, .int .i64 nxt, .int .u64 found, .bool loaded]), e1, e3, e4, e2] => (match stL 4 [e1, e2], memL 3 [e3, e4] with
    | some (l2, t2, n2, st), some (l, s) => some ((t2 = t ∧ n2 = n) ∧ l = s.xs.length ∧ l2 = st.R.length, ⟨d, ⟨key, nxt, found, loaded⟩, st, s⟩)
    | _, _ => none)
  | _, _ => none
def prP (t n : Int) (v : AVal) (g : Heap Ob) : Option (Prop × PrO) := prP0 t n v g
theorem prP0_ok {t n : Int} : Reads (obI tbl) 4 (prP0 t n) (PrO.fin t n) := by
  intro v g p x hp hq K hK
  unfold prP0 at hp
  split at hp
  case h_2 => cases hp
  rename_i d key nxt found loaded e1 e3 e4 e2
  split at hp
  case h_2 => cases hp
  rename_i l2 t2 n2 st l s hs hm
  simp only [Option.some.injEq, Prod.mk.injEq] at hp
  obtain ⟨rfl, rfl⟩ := hp
  obtain ⟨⟨rfl, rfl⟩, hl, hl2⟩ := hq
  have hh := memL_eq hm hl
  simp only [List.cons.injEq, and_true] at hh
  obtain ⟨rfl, rfl⟩ := hh
  have hh := stL_eq hs hl2
  simp only [List.cons.injEq, and_true] at hh
  obtain ⟨rfl, rfl⟩ := hh
  refine read2 hK (fun h => ?_) (fun h => ?_)
  · exact ⟨⟨_, _, (Tells.pack (prD t2 n2 (⟨key, nxt, found, loaded⟩ : PRS) st s) (.store t2 n2 st) 1 0 (stG t2 n2 st) [] (by kernel_rfl) rfl rfl (by kernel_rfl)), h⟩⟩
  · exact ⟨⟨_, _, ((Tells.pack (unpackH (prH t2 n2 (⟨key, nxt, found, loaded⟩ : PRS) st s) 0 1 (prepareG0 t2 n2 (⟨key, nxt, found, loaded⟩ : PRS)) [1]) (.store t2 n2 st) 1 0 (stG t2 n2 st) [] (by kernel_rfl) rfl rfl (by kernel_rfl)).trans (Tells.pack (prH t2 n2 (⟨key, nxt, found, loaded⟩ : PRS) st s) (.prepare t2 n2 (⟨key, nxt, found, loaded⟩ : PRS)) 0 1 (prepareG0 t2 n2 (⟨key, nxt, found, loaded⟩ : PRS)) [1] (by kernel_rfl) rfl (congrArg (Prod.mk 1) rfl) (by kernel_rfl))), h⟩⟩
theorem prP_ok {t n : Int} : Reads (obI tbl) 4 (prP t n) (PrO.fin t n) := by
  intro v g p x hp hq K hK
  unfold prP at hp
  exact prP0_ok v g p x hp hq K hK
def prT_ (t n : Int) (x : PRS) (st : STS) (s : MS) : Tr PrO := Tr.ite (!x.4) (Tr.pre (List.length s.3 = List.length s.3 ∧ (0 : Int) ≤ s.4 ∧ s.4 ≤ (4611686018427387904 : Int)) (Tr.pre ((t = t ∧ n = n) ∧ List.length s.3 = List.length s.3 ∧ List.length st.3 = List.length st.3) (Tr.ret { d := false, x := { key := x.1, nxt := x.2, found := peek s.3 st.2, loaded := true }, st := { me := st.1, sp := st.2, R := st.3 }, s := { t := s.1, n := s.2, xs := s.3, c := s.4 + 1, k := (1 : Int), a := st.2, o := peek s.3 st.2, w := peek s.3 st.2, ok := inB s.3 st.2 } }))) (Tr.pre True (Tr.pre ((0 : Int) ≤ cutI x.3 25 18 ∧ cutI x.3 25 (18 : Int) ≤ (1000000 : Int)) (Tr.pre True (Tr.pre (List.length s.3 = List.length s.3 ∧ (0 : Int) ≤ s.4 ∧ s.4 ≤ (4611686018427387904 : Int)) (Tr.pre ((t = t ∧ n = n) ∧ List.length (putI s.3 st.2 (bif bif fitI x.1 10 then bif fitI x.2 9 then bif fitI 0 5 then fitI (newerI (cutI x.3 25 18)) 18 else false else false else false then putV x.1 x.2 false 0 (newerI (cutI x.3 25 18)) else 0)) = List.length (putI s.3 st.2 (bif bif fitI x.1 10 then bif fitI x.2 9 then bif fitI 0 5 then fitI (newerI (cutI x.3 25 18)) 18 else false else false else false then putV x.1 x.2 false 0 (newerI (cutI x.3 25 18)) else 0)) ∧ List.length st.3 = List.length st.3) (Tr.ret { d := true, x := { key := x.1, nxt := x.2, found := x.3, loaded := x.4 }, st := { me := st.1, sp := st.2, R := st.3 }, s := { t := s.1, n := s.2, xs := putI s.3 st.2 (bif bif fitI x.1 10 then bif fitI x.2 9 then bif fitI 0 5 then fitI (newerI (cutI x.3 25 18)) 18 else false else false else false then putV x.1 x.2 false 0 (newerI (cutI x.3 25 18)) else 0), c := s.4 + 1, k := (2 : Int), a := st.2, o := peek s.3 st.2, w := bif inB s.3 st.2 then bif bif fitI x.1 10 then bif fitI x.2 9 then bif fitI 0 5 then fitI (newerI (cutI x.3 25 18)) 18 else false else false else false then putV x.1 x.2 false 0 (newerI (cutI x.3 25 18)) else 0 else 0, ok := inB s.3 st.2 } }))))))
theorem prT__sum (t n : Int) (x : PRS) (st : STS) (s : MS) (K : PrO → Prop) (h : (prT_ t n x st s).run K) : CallOk (obI tbl) Tryz.prog 92 [.ptr 0 0, .ptr 2 0] [some (.cells [.ptr 1 0, .int .i64 x.key, .int .i64 x.nxt, .int .u64 x.found, .bool x.loaded]), stC 4 t n st, memC 3 s, memX s, stX st] (LeafM 4 0 [] [(.cell 1 4, .ints (some .i64))] (prP t n) K) := by
  exact callOk_of (E := EC6) Tryz.checked.mixed (L := LL) (n := 10) (of_nf (q := (prT_ t n x st s).run K) (by kernel_rfl) h)
def prT (t n : Int) (x : PRS) (st : STS) (s : MS) : Tr PrO := prT_ t n x st s
def prF (t n : Int) (x : PRS) (st : STS) (s : MS) : PrO := (prT t n x st s).val
def prOk (t n : Int) (x : PRS) (st : STS) (s : MS) : Prop := (prT t n x st s).ok
theorem pr_step (t n : Int) (x : PRS) (st : STS) (s : MS) (K : AVal → Heap Ob → Prop) (h : (prT t n x st s).run (fun y => (PrO.fin t n y).run K)) : CallOk (obI tbl) Tryz.prog 92 [.ptr 0 0, .ptr 2 0] (prH t n x st s) K := by
  unfold prT at h
  exact CallOk.openM (root := 0) (pos := []) (cs := [(.cell 1 4, .ints (some .i64))]) (parse := prP t n) (fin := PrO.fin t n) prP_ok ((Opens.unpack (.prepare t n x) 0 1 (prepareG0 t n x) [1] rfl (congrArg (Prod.mk 1) rfl) (by kernel_rfl) rfl).trans (Opens.unpack (.store t n st) 1 0 (stG t n st) [] rfl rfl rfl rfl)) (prT__sum t n x st s _ h)
noncomputable def prSA : Spec Ob := fun args h => match args, h with
  | [.ptr 0 0, .ptr 2 0], [some (.abs (.prepare t n x) [1]), some (.abs (.store t2 n2 st) []), e3, e4] => (match memL 3 [e3, e4] with
    | some (l, s) => some (.pre ((l = s.xs.length ∧ t2 = t ∧ n2 = n) ∧ prOk t n x st s) (PrO.fin t n (prF t n x st s)))
    | none => none)
  | _, _ => none
theorem pr_okA : Spec.ok (obI tbl) Tryz.prog 92 prSA := by
  intro args h o ho K hK
  unfold prSA at ho
  split at ho
  case h_2 => cases ho
  split at ho
  case h_2 => cases ho
  rename_i hm
  simp only [Option.some.injEq] at ho; subst ho
  obtain ⟨⟨⟨hl, rfl, rfl⟩, ok⟩, hK⟩ := hK
  have hh := memL_eq hm hl
  simp only [List.cons.injEq, and_true] at hh
  obtain ⟨rfl, rfl⟩ := hh
  exact pr_step _ _ _ _ _ K (Tr.run_of ok hK)
def PrO.finB (t n : Int) (y : PrO) : Out Ob := .ite y.d (.ret (.bool true) ([some (.cells [.ptr 1 0, .int .i64 y.x.key, .int .i64 y.x.nxt, .int .u64 y.x.found, .bool y.x.loaded]), stC 5 t n y.st, none, memC 4 y.s, memX y.s, stX y.st])) (.ret (.bool false) [some (.abs (.prepare t n y.x) [1]), stC 5 t n y.st, none, memC 4 y.s, memX y.s, stX y.st])
noncomputable def prSB : Spec Ob := fun args h => match args, h with
  | [.ptr 0 0, .ptr 3 0], [some (.abs (.prepare t n x) [1]), e1, e2, e3, e4] => (match stL 2 [e1, e2], memL 4 [e3, e4] with
    | some (l2, t2, n2, st), some (l, s) => some (.pre ((l = s.xs.length ∧ l2 = st.R.length ∧ t2 = t ∧ n2 = n) ∧ prOk t n x st s) (PrO.finB t n (prF t n x st s)))
    | _, _ => none)
  | _, _ => none
theorem pr_okB : Spec.ok (obI tbl) Tryz.prog 92 prSB := by
  intro args h o ho K hK
  unfold prSB at ho
  split at ho
  case h_2 => cases ho
  split at ho
  case h_2 => cases ho
  rename_i hs hm
  simp only [Option.some.injEq] at ho; subst ho
  obtain ⟨⟨⟨hl, hl2, rfl, rfl⟩, ok⟩, hK⟩ := hK
  have hh := memL_eq hm hl
  simp only [List.cons.injEq, and_true] at hh
  obtain ⟨rfl, rfl⟩ := hh
  have hh := stL_eq hs hl2
  simp only [List.cons.injEq, and_true] at hh
  obtain ⟨rfl, rfl⟩ := hh
  exact storeForm (fun ι hι => by simp [Entry.ren, AVal.renL, AVal.ren, hι]) (fun ι hι => by simp [Entry.ren, hι]) (fun K hK => pr_step _ _ _ _ _ K (Tr.run_of ok hK)) K hK
noncomputable def prS : Spec Ob := Spec.or prSA prSB
theorem pr_ok : Spec.ok (obI tbl) Tryz.prog 92 prS := Spec.or_ok pr_okA pr_okB
def prNP (t n : Int) (v : AVal) (g : Heap Ob) : Option (Prop × (PRS × STS)) := match v, g with
  | .ptr 2 0, [e1, e2, some (.cells [.ptr 0 0, .int .i64 key, .int .i64 nxt, .int .u64 found, .bool loaded])] => (match stL 1 [e1, e2] with
    | some (l2, t2, n2, st) => some ((t2 = t ∧ n2 = n ∧ l2 = st.R.length), ⟨(⟨key, nxt, found, loaded⟩ : PRS), st⟩)
    | none => none)
  | _, _ => none
abbrev prNH (t n : Int) (y : (PRS × STS)) : Heap Ob := [stC 1 t n y.2, stX y.2, some (.abs (.prepare t n y.1) [0])]
theorem prNP_ok {t n : Int} : Reads (obI tbl) 2 (prNP t n) (fun y => .ret (.ptr 2 0) (prNH t n y)) := by
  intro v g p x hp hq K hK
  unfold prNP at hp
  split at hp
  case h_2 => cases hp
  rename_i e1 e2 key nxt found loaded
  split at hp
  case h_2 => cases hp
  rename_i l2 t2 n2 st hs
  simp only [Option.some.injEq, Prod.mk.injEq] at hp
  obtain ⟨rfl, rfl⟩ := hp
  obtain ⟨rfl, rfl, hl2⟩ := hq
  have hh := stL_eq hs hl2
  simp only [List.cons.injEq, and_true] at hh
  obtain ⟨rfl, rfl⟩ := hh
  exact ⟨⟨_, _, Tells.pack (prNH t2 n2 ((⟨key, nxt, found, loaded⟩ : PRS), st)) (.prepare t2 n2 (⟨key, nxt, found, loaded⟩ : PRS)) 2 1 (prepareG0 t2 n2 (⟨key, nxt, found, loaded⟩ : PRS)) [0] (by kernel_rfl) rfl (congrArg (Prod.mk 1) rfl) (by kernel_rfl), hK⟩⟩
def prNT (t n : Int) (key nx : Int) (st : STS) : Tr (PRS × STS) := Tr.pre (t = t ∧ n = n ∧ List.length st.3 = List.length st.3) (Tr.ret ({ key := key, nxt := nx, found := (0 : Int), loaded := false }, { me := st.1, sp := st.2, R := st.3 }))
def prNF (t n : Int) (key nx : Int) (st : STS) : (PRS × STS) := (prNT t n key nx st).val
def prNOk (t n : Int) (key nx : Int) (st : STS) : Prop := (prNT t n key nx st).ok
def prNS : Spec Ob := fun args h => match args, h with
  | [.ptr 0 0, .int .i64 key, .int .i64 nx], [e1, e2] => (match stL 1 [e1, e2] with
    | some (l2, t, n, st) => some (.pre (l2 = st.R.length ∧ prNOk t n key nx st) (.ret (.ptr 2 0) (prNH t n (prNF t n key nx st))))
    | none => none)
  | _, _ => none
theorem prN_ok : Spec.ok (obI tbl) Tryz.prog 114 prNS := by
  intro args h o ho K hK
  unfold prNS at ho
  split at ho
  case h_2 => cases ho
  rename_i key nx e1 e2
  split at ho
  case h_2 => cases ho
  rename_i l2 t n st hs
  simp only [Option.some.injEq] at ho; subst ho
  obtain ⟨⟨hl2, ok⟩, hK⟩ := hK
  have hh := stL_eq hs hl2
  simp only [List.cons.injEq, and_true] at hh
  obtain ⟨rfl, rfl⟩ := hh
  refine CallOk.plainM (root := 2) (pos := []) (cs := []) (parse := prNP t n) prNP_ok ?_
  exact callOk_of (E := EC6) Tryz.checked.mixed (L := LL) (n := 10) (of_nf (q := (prNT t n key nx st).run (fun y => (Out.ret (.ptr 2 0) (prNH t n y)).run K)) (by kernel_rfl) (Tr.run_of ok hK))
noncomputable def EC7 := ((EC6.addS 92 prS pr_ok).addS 114 prNS prN_ok)
end Go.Sh

namespace Go.Sh
open Go Go.Proofs
variable [Con]
structure FnO where
  d : Bool
  x : FNS
  s : MS
instance : Inhabited FnO := ⟨⟨false, ⟨0, 0, 0, 0, 0, [], false, 0, 0, 0, 0, 0, 0, ⟨0, 0, 0, 0⟩⟩, ⟨0, 0, [], 0, 0, 0, 0, 0, false⟩⟩⟩
instance : Inhabited FNS := ⟨⟨0, 0, 0, 0, 0, [], false, 0, 0, 0, 0, 0, 0, ⟨0, 0, 0, 0⟩⟩⟩
abbrev fnH (t n : Int) (x : FNS) (s : MS) : Heap Ob := [some (.abs (.find t n x) []), memC 2 s, memX s]
abbrev fnD (t n : Int) (x : FNS) (s : MS) : Heap Ob := [some (.cells [.int .i64 t, .int .i64 n, .int .i64 x.pred, .int .u64 x.pw, .int .i64 x.curr, .int .u64 x.cw, .int .i64 x.tries, .slice 3 0 x.ul.length 1, .bool x.ab, .int .i64 x.me, .int .i64 x.frm, .int .i64 x.key, .int .i64 x.limit, .int .i64 x.at', .int .i64 x.moved, .top]), memC 2 s, memX s, some (.ints (some .i64) x.ul)]
def FnO.fin (t n : Int) (y : FnO) : Out Ob := .ite y.d (.ret (.bool true) (fnD t n y.x y.s)) (.ret (.bool false) (fnH t n y.x y.s))
def fnP0 (t n : Int) (v : AVal) (g : Heap Ob) : Option (Prop × FnO) := match v, g with
  | .bool d, [some (.cells [.int .i64 t1, .int .i64 n1, .int .i64 pred, .int .u64 pw, .int .i64 curr, .int .u64 cw, .int .i64 tries, .slice 3 0 ul_l 1, .bool ab, .int .i64 me, .int .i64 frm, .int .i64 key, .int .i64 limit, .int .i64 at', .int .i64 moved, .top]), e1, e2, some (.ints (some .i64) ul)] => (match memL 2 [e1, e2] with
    | some (l, s) => some ((t1 = t ∧ n1 = n) ∧ ul_l = ul.length ∧ (at' ≠ 4) ∧ l = s.xs.length, ⟨d, ⟨pred, pw, curr, cw, tries, ul, ab, me, frm, key, limit, at', moved, ⟨0, 0, 0, 0⟩⟩, s⟩)
    | none => none)
  | _, _ => none
def fnP1 (t n : Int) (v : AVal) (g : Heap Ob) : Option (Prop × FnO) := match v, g with
  | .bool d, [some (.cells [.int .i64 t1, .int .i64 n1, .int .i64 pred, .int .u64 pw, .int .i64 curr, .int .u64 cw, .int .i64 tries, .slice 3 0 ul_l 1, .bool ab, .int .i64 me, .int .i64 frm, .int .i64 key, .int .i64 limit, .int .i64 at', .int .i64 moved, .ptr 4 0]), e1, e2, some (.ints (some .i64) ul), some (.abs (.clear t' n' sub) [])] => (match memL 2 [e1, e2] with
    | some (l, s) => some ((t1 = t ∧ n1 = n) ∧ ul_l = ul.length ∧ t' = t ∧ n' = n ∧ (at' = 4) ∧ l = s.xs.length, ⟨d, ⟨pred, pw, curr, cw, tries, ul, ab, me, frm, key, limit, at', moved, sub⟩, s⟩)
    | none => none)
  | _, _ => none
def fnP (t n : Int) (v : AVal) (g : Heap Ob) : Option (Prop × FnO) := (match fnP0 t n v g with
  | some r => some r
  | none => fnP1 t n v g)
theorem fnP0_ok {t n : Int} : Reads (obI tbl) 3 (fnP0 t n) (FnO.fin t n) := by
  intro v g p x hp hq K hK
  unfold fnP0 at hp
  split at hp
  case h_2 => cases hp
  rename_i d t1 n1 pred pw curr cw tries ul_l ab me frm key limit at' moved e1 e2 ul
  split at hp
  case h_2 => cases hp
  rename_i l s hm
  simp only [Option.some.injEq, Prod.mk.injEq] at hp
  obtain ⟨rfl, rfl⟩ := hp
  obtain ⟨⟨rfl, rfl⟩, rfl, hat, hl⟩ := hq
  have hh := memL_eq hm hl
  simp only [List.cons.injEq, and_true] at hh
  obtain ⟨rfl, rfl⟩ := hh
  refine read2 hK (fun h => ?_) (fun h => ?_)
  · exact ⟨⟨_, _, Tells.refl _ _ _, h⟩⟩
  · exact ⟨⟨_, _, (Tells.pack (fnH t1 n1 (⟨pred, pw, curr, cw, tries, ul, ab, me, frm, key, limit, at', moved, ⟨0, 0, 0, 0⟩⟩ : FNS) s) (.find t1 n1 (⟨pred, pw, curr, cw, tries, ul, ab, me, frm, key, limit, at', moved, ⟨0, 0, 0, 0⟩⟩ : FNS)) 0 0 (findG0 t1 n1 (⟨pred, pw, curr, cw, tries, ul, ab, me, frm, key, limit, at', moved, ⟨0, 0, 0, 0⟩⟩ : FNS)) [] (by kernel_rfl) rfl (congrArg (Prod.mk 0) (findG_no hat)) (by kernel_rfl)), h⟩⟩
theorem fnP1_ok {t n : Int} : Reads (obI tbl) 3 (fnP1 t n) (FnO.fin t n) := by
  intro v g p x hp hq K hK
  unfold fnP1 at hp
  split at hp
  case h_2 => cases hp
  rename_i d t1 n1 pred pw curr cw tries ul_l ab me frm key limit at' moved e1 e2 ul t' n' sub
  split at hp
  case h_2 => cases hp
  rename_i l s hm
  simp only [Option.some.injEq, Prod.mk.injEq] at hp
  obtain ⟨rfl, rfl⟩ := hp
  obtain ⟨⟨rfl, rfl⟩, rfl, rfl, rfl, hat, hl⟩ := hq
  have hh := memL_eq hm hl
  simp only [List.cons.injEq, and_true] at hh
  obtain ⟨rfl, rfl⟩ := hh
  refine read2 hK (fun h => ?_) (fun h => ?_)
  · exact ⟨⟨_, _, (Tells.weak (topP_weak _ 0 [15])).trans ((Tells.pick (upto 0 4) rfl).trans (Tells.eq (by kernel_rfl) (by kernel_rfl))), h⟩⟩
  · exact ⟨⟨_, _, (Tells.pack (fnH t' n' (⟨pred, pw, curr, cw, tries, ul, ab, me, frm, key, limit, at', moved, sub⟩ : FNS) s) (.find t' n' (⟨pred, pw, curr, cw, tries, ul, ab, me, frm, key, limit, at', moved, sub⟩ : FNS)) 0 0 (findG_cl t' n' (⟨pred, pw, curr, cw, tries, ul, ab, me, frm, key, limit, at', moved, sub⟩ : FNS)) [] (by kernel_rfl) rfl (congrArg (Prod.mk 0) (findG_4 hat)) (by kernel_rfl)), h⟩⟩
theorem fnP_ok {t n : Int} : Reads (obI tbl) 3 (fnP t n) (FnO.fin t n) := by
  intro v g p x hp hq K hK
  unfold fnP at hp
  split at hp
  · rename_i r hr
    cases hp
    exact fnP0_ok v g p x hr hq K hK
  exact fnP1_ok v g p x hp hq K hK
def fnT_0 (t n : Int) (x : FNS) (s : MS) : Tr FnO := Tr.pre (List.length s.3 = List.length s.3 ∧ (0 : Int) ≤ s.4 ∧ s.4 ≤ (4611686018427387904 : Int)) (Tr.pre True (Tr.ite (ieq (cutI (peek s.3 x.1) 19 1) 1) (Tr.ite (ilt x.11 (W (x.5 + 1))) (Tr.ite (ilt x.11 (W (x.5 + 1))) (Tr.pre ((t = t ∧ n = n) ∧ List.length x.6 = List.length x.6 ∧ (0 : Int) ≠ (4 : Int) ∧ List.length s.3 = List.length s.3) (Tr.ret { d := true, x := { pred := (0 : Int), pw := (0 : Int), curr := (0 : Int), cw := (0 : Int), tries := W (x.5 + 1), ul := x.6, ab := ilt x.11 (W (x.5 + 1)), me := x.8, frm := x.9, key := x.10, limit := x.11, at' := (0 : Int), moved := x.13, cl := { addr := (0 : Int), at' := (0 : Int), word := (0 : Int), found := (0 : Int) } }, s := { t := s.1, n := s.2, xs := s.3, c := s.4 + 1, k := (1 : Int), a := x.1, o := peek s.3 x.1, w := peek s.3 x.1, ok := inB s.3 x.1 } })) (Tr.pre True (Tr.ite (ieq (cutI (peek s.3 x.1) 19 1) 1) (Tr.pre ((t = t ∧ n = n) ∧ List.length x.6 = List.length x.6 ∧ (0 : Int) ≠ (4 : Int) ∧ List.length s.3 = List.length s.3) (Tr.ret { d := false, x := { pred := x.9, pw := (0 : Int), curr := (0 : Int), cw := (0 : Int), tries := W (x.5 + 1), ul := x.6, ab := ilt x.11 (W (x.5 + 1)), me := x.8, frm := x.9, key := x.10, limit := x.11, at' := (0 : Int), moved := (0 : Int), cl := { addr := (0 : Int), at' := (0 : Int), word := (0 : Int), found := (0 : Int) } }, s := { t := s.1, n := s.2, xs := s.3, c := s.4 + 1, k := (1 : Int), a := x.1, o := peek s.3 x.1, w := peek s.3 x.1, ok := inB s.3 x.1 } })) (Tr.pre ((t = t ∧ n = n) ∧ List.length x.6 = List.length x.6 ∧ (1 : Int) ≠ (4 : Int) ∧ List.length s.3 = List.length s.3) (Tr.ret { d := ieq (cutI (peek s.3 x.1) 10 9) 0, x := { pred := (0 : Int), pw := peek s.3 x.1, curr := cutI (peek s.3 x.1) 10 9, cw := (0 : Int), tries := W (x.5 + 1), ul := x.6, ab := ilt x.11 (W (x.5 + 1)), me := x.8, frm := x.9, key := x.10, limit := x.11, at' := (1 : Int), moved := x.13, cl := { addr := (0 : Int), at' := (0 : Int), word := (0 : Int), found := (0 : Int) } }, s := { t := s.1, n := s.2, xs := s.3, c := s.4 + 1, k := (1 : Int), a := x.1, o := peek s.3 x.1, w := peek s.3 x.1, ok := inB s.3 x.1 } }))))) (Tr.ite (ilt x.11 (W (x.5 + 1))) (Tr.pre ((t = t ∧ n = n) ∧ List.length x.6 = List.length x.6 ∧ (0 : Int) ≠ (4 : Int) ∧ List.length s.3 = List.length s.3) (Tr.ret { d := true, x := { pred := x.1, pw := x.2, curr := x.3, cw := x.4, tries := W (x.5 + 1), ul := x.6, ab := ilt x.11 (W (x.5 + 1)), me := x.8, frm := x.9, key := x.10, limit := x.11, at' := (0 : Int), moved := x.13, cl := { addr := (0 : Int), at' := (0 : Int), word := (0 : Int), found := (0 : Int) } }, s := { t := s.1, n := s.2, xs := s.3, c := s.4 + 1, k := (1 : Int), a := x.1, o := peek s.3 x.1, w := peek s.3 x.1, ok := inB s.3 x.1 } })) (Tr.pre True (Tr.ite (ieq (cutI (peek s.3 x.1) 19 1) 1) (Tr.pre ((t = t ∧ n = n) ∧ List.length x.6 = List.length x.6 ∧ (0 : Int) ≠ (4 : Int) ∧ List.length s.3 = List.length s.3) (Tr.ret { d := false, x := { pred := x.9, pw := x.2, curr := x.3, cw := x.4, tries := W (x.5 + 1), ul := x.6, ab := ilt x.11 (W (x.5 + 1)), me := x.8, frm := x.9, key := x.10, limit := x.11, at' := (0 : Int), moved := (0 : Int), cl := { addr := (0 : Int), at' := (0 : Int), word := (0 : Int), found := (0 : Int) } }, s := { t := s.1, n := s.2, xs := s.3, c := s.4 + 1, k := (1 : Int), a := x.1, o := peek s.3 x.1, w := peek s.3 x.1, ok := inB s.3 x.1 } })) (Tr.pre ((t = t ∧ n = n) ∧ List.length x.6 = List.length x.6 ∧ (1 : Int) ≠ (4 : Int) ∧ List.length s.3 = List.length s.3) (Tr.ret { d := ieq (cutI (peek s.3 x.1) 10 9) 0, x := { pred := x.1, pw := peek s.3 x.1, curr := cutI (peek s.3 x.1) 10 9, cw := (0 : Int), tries := W (x.5 + 1), ul := x.6, ab := ilt x.11 (W (x.5 + 1)), me := x.8, frm := x.9, key := x.10, limit := x.11, at' := (1 : Int), moved := x.13, cl := { addr := (0 : Int), at' := (0 : Int), word := (0 : Int), found := (0 : Int) } }, s := { t := s.1, n := s.2, xs := s.3, c := s.4 + 1, k := (1 : Int), a := x.1, o := peek s.3 x.1, w := peek s.3 x.1, ok := inB s.3 x.1 } })))))) (Tr.pre True (Tr.ite (ieq (cutI (peek s.3 x.1) 19 1) 1) (Tr.pre ((t = t ∧ n = n) ∧ List.length x.6 = List.length x.6 ∧ (0 : Int) ≠ (4 : Int) ∧ List.length s.3 = List.length s.3) (Tr.ret { d := false, x := { pred := x.9, pw := x.2, curr := x.3, cw := x.4, tries := x.5, ul := x.6, ab := x.7, me := x.8, frm := x.9, key := x.10, limit := x.11, at' := (0 : Int), moved := (0 : Int), cl := { addr := (0 : Int), at' := (0 : Int), word := (0 : Int), found := (0 : Int) } }, s := { t := s.1, n := s.2, xs := s.3, c := s.4 + 1, k := (1 : Int), a := x.1, o := peek s.3 x.1, w := peek s.3 x.1, ok := inB s.3 x.1 } })) (Tr.pre ((t = t ∧ n = n) ∧ List.length x.6 = List.length x.6 ∧ (1 : Int) ≠ (4 : Int) ∧ List.length s.3 = List.length s.3) (Tr.ret { d := ieq (cutI (peek s.3 x.1) 10 9) 0, x := { pred := x.1, pw := peek s.3 x.1, curr := cutI (peek s.3 x.1) 10 9, cw := (0 : Int), tries := x.5, ul := x.6, ab := x.7, me := x.8, frm := x.9, key := x.10, limit := x.11, at' := (1 : Int), moved := x.13, cl := { addr := (0 : Int), at' := (0 : Int), word := (0 : Int), found := (0 : Int) } }, s := { t := s.1, n := s.2, xs := s.3, c := s.4 + 1, k := (1 : Int), a := x.1, o := peek s.3 x.1, w := peek s.3 x.1, ok := inB s.3 x.1 } }))))))
theorem fnT_0_sum (t n : Int) (x : FNS) (s : MS) (K : FnO → Prop) (h : (fnT_0 t n x s).run K) : CallOk (obI tbl) Tryz.prog 88 [.ptr 0 0, .ptr 1 0] [some (.cells [.int .i64 t, .int .i64 n, .int .i64 x.pred, .int .u64 x.pw, .int .i64 x.curr, .int .u64 x.cw, .int .i64 x.tries, .slice 3 0 x.ul.length 1, .bool x.ab, .int .i64 x.me, .int .i64 x.frm, .int .i64 x.key, .int .i64 x.limit, .int .i64 0, .int .i64 x.moved, .top]), memC 2 s, memX s, some (.ints (some .i64) x.ul)] (LeafM 3 0 [15] [(.cell 0 7, .ints (some .i64))] (fnP t n) K) := by
  exact callOk_of (E := EC7) Tryz.checked.mixed (L := LL) (n := 10) (of_nf (q := (fnT_0 t n x s).run K) (by kernel_rfl) h)
def fnT_1 (t n : Int) (x : FNS) (s : MS) : Tr FnO := Tr.pre ((((0 : Int) ≤ t ∧ t ≤ (100000 : Int)) ∧ ((0 : Int) ≤ n ∧ n ≤ (100000 : Int)) ∧ ((-1099511627776 : Int) ≤ x.8 ∧ x.8 ≤ (1099511627776 : Int)) ∧ (-1099511627776 : Int) ≤ (1 : Int) ∧ (1 : Int) ≤ (1099511627776 : Int)) ∧ True) (Tr.pre ((List.length s.3 = List.length s.3 ∧ (0 : Int) ≤ s.4 ∧ s.4 ≤ (4611686018427387904 : Int)) ∧ True) (Tr.pre ((t = t ∧ n = n) ∧ List.length x.6 = List.length x.6 ∧ (2 : Int) ≠ (4 : Int) ∧ List.length (putI s.3 (2 * n + 5 + 2 * x.8 + 1) (WU x.3)) = List.length (putI s.3 (2 * n + 5 + 2 * x.8 + 1) (WU x.3))) (Tr.ret { d := false, x := { pred := x.1, pw := x.2, curr := x.3, cw := x.4, tries := x.5, ul := x.6, ab := x.7, me := x.8, frm := x.9, key := x.10, limit := x.11, at' := (2 : Int), moved := x.13, cl := { addr := (0 : Int), at' := (0 : Int), word := (0 : Int), found := (0 : Int) } }, s := { t := s.1, n := s.2, xs := putI s.3 (2 * n + 5 + 2 * x.8 + 1) (WU x.3), c := s.4 + 1, k := (2 : Int), a := (2 : Int) * n + 5 + 2 * x.8 + 1, o := peek s.3 (2 * n + 5 + 2 * x.8 + 1), w := bif inB s.3 (2 * n + 5 + 2 * x.8 + 1) then WU x.3 else 0, ok := inB s.3 (2 * n + 5 + 2 * x.8 + 1) } })))
theorem fnT_1_sum (t n : Int) (x : FNS) (s : MS) (K : FnO → Prop) (h : (fnT_1 t n x s).run K) : CallOk (obI tbl) Tryz.prog 88 [.ptr 0 0, .ptr 1 0] [some (.cells [.int .i64 t, .int .i64 n, .int .i64 x.pred, .int .u64 x.pw, .int .i64 x.curr, .int .u64 x.cw, .int .i64 x.tries, .slice 3 0 x.ul.length 1, .bool x.ab, .int .i64 x.me, .int .i64 x.frm, .int .i64 x.key, .int .i64 x.limit, .int .i64 1, .int .i64 x.moved, .top]), memC 2 s, memX s, some (.ints (some .i64) x.ul)] (LeafM 3 0 [15] [(.cell 0 7, .ints (some .i64))] (fnP t n) K) := by
  exact callOk_of (E := EC7) Tryz.checked.mixed (L := LL) (n := 10) (of_nf (q := (fnT_1 t n x s).run K) (by kernel_rfl) h)
def fnT_2 (t n : Int) (x : FNS) (s : MS) : Tr FnO := Tr.pre (List.length s.3 = List.length s.3 ∧ (0 : Int) ≤ s.4 ∧ s.4 ≤ (4611686018427387904 : Int)) (Tr.ite (!ieq (peek s.3 x.1) x.2) (Tr.ite (ilt x.11 (W (x.5 + 1))) (Tr.ite (ilt x.11 (W (x.5 + 1))) (Tr.pre ((t = t ∧ n = n) ∧ List.length x.6 = List.length x.6 ∧ (2 : Int) ≠ (4 : Int) ∧ List.length s.3 = List.length s.3) (Tr.ret { d := true, x := { pred := (0 : Int), pw := (0 : Int), curr := (0 : Int), cw := (0 : Int), tries := W (x.5 + 1), ul := x.6, ab := ilt x.11 (W (x.5 + 1)), me := x.8, frm := x.9, key := x.10, limit := x.11, at' := (2 : Int), moved := x.13, cl := { addr := (0 : Int), at' := (0 : Int), word := (0 : Int), found := (0 : Int) } }, s := { t := s.1, n := s.2, xs := s.3, c := s.4 + 1, k := (1 : Int), a := x.1, o := peek s.3 x.1, w := peek s.3 x.1, ok := inB s.3 x.1 } })) (Tr.pre True (Tr.ite (ieq (cutI (peek s.3 x.1) 19 1) 1) (Tr.pre ((t = t ∧ n = n) ∧ List.length x.6 = List.length x.6 ∧ (0 : Int) ≠ (4 : Int) ∧ List.length s.3 = List.length s.3) (Tr.ret { d := false, x := { pred := x.9, pw := (0 : Int), curr := (0 : Int), cw := (0 : Int), tries := W (x.5 + 1), ul := x.6, ab := ilt x.11 (W (x.5 + 1)), me := x.8, frm := x.9, key := x.10, limit := x.11, at' := (0 : Int), moved := (0 : Int), cl := { addr := (0 : Int), at' := (0 : Int), word := (0 : Int), found := (0 : Int) } }, s := { t := s.1, n := s.2, xs := s.3, c := s.4 + 1, k := (1 : Int), a := x.1, o := peek s.3 x.1, w := peek s.3 x.1, ok := inB s.3 x.1 } })) (Tr.pre ((t = t ∧ n = n) ∧ List.length x.6 = List.length x.6 ∧ (1 : Int) ≠ (4 : Int) ∧ List.length s.3 = List.length s.3) (Tr.ret { d := ieq (cutI (peek s.3 x.1) 10 9) 0, x := { pred := (0 : Int), pw := peek s.3 x.1, curr := cutI (peek s.3 x.1) 10 9, cw := (0 : Int), tries := W (x.5 + 1), ul := x.6, ab := ilt x.11 (W (x.5 + 1)), me := x.8, frm := x.9, key := x.10, limit := x.11, at' := (1 : Int), moved := x.13, cl := { addr := (0 : Int), at' := (0 : Int), word := (0 : Int), found := (0 : Int) } }, s := { t := s.1, n := s.2, xs := s.3, c := s.4 + 1, k := (1 : Int), a := x.1, o := peek s.3 x.1, w := peek s.3 x.1, ok := inB s.3 x.1 } }))))) (Tr.ite (ilt x.11 (W (x.5 + 1))) (Tr.pre ((t = t ∧ n = n) ∧ List.length x.6 = List.length x.6 ∧ (2 : Int) ≠ (4 : Int) ∧ List.length s.3 = List.length s.3) (Tr.ret { d := true, x := { pred := x.1, pw := x.2, curr := x.3, cw := x.4, tries := W (x.5 + 1), ul := x.6, ab := ilt x.11 (W (x.5 + 1)), me := x.8, frm := x.9, key := x.10, limit := x.11, at' := (2 : Int), moved := x.13, cl := { addr := (0 : Int), at' := (0 : Int), word := (0 : Int), found := (0 : Int) } }, s := { t := s.1, n := s.2, xs := s.3, c := s.4 + 1, k := (1 : Int), a := x.1, o := peek s.3 x.1, w := peek s.3 x.1, ok := inB s.3 x.1 } })) (Tr.pre True (Tr.ite (ieq (cutI (peek s.3 x.1) 19 1) 1) (Tr.pre ((t = t ∧ n = n) ∧ List.length x.6 = List.length x.6 ∧ (0 : Int) ≠ (4 : Int) ∧ List.length s.3 = List.length s.3) (Tr.ret { d := false, x := { pred := x.9, pw := x.2, curr := x.3, cw := x.4, tries := W (x.5 + 1), ul := x.6, ab := ilt x.11 (W (x.5 + 1)), me := x.8, frm := x.9, key := x.10, limit := x.11, at' := (0 : Int), moved := (0 : Int), cl := { addr := (0 : Int), at' := (0 : Int), word := (0 : Int), found := (0 : Int) } }, s := { t := s.1, n := s.2, xs := s.3, c := s.4 + 1, k := (1 : Int), a := x.1, o := peek s.3 x.1, w := peek s.3 x.1, ok := inB s.3 x.1 } })) (Tr.pre ((t = t ∧ n = n) ∧ List.length x.6 = List.length x.6 ∧ (1 : Int) ≠ (4 : Int) ∧ List.length s.3 = List.length s.3) (Tr.ret { d := ieq (cutI (peek s.3 x.1) 10 9) 0, x := { pred := x.1, pw := peek s.3 x.1, curr := cutI (peek s.3 x.1) 10 9, cw := (0 : Int), tries := W (x.5 + 1), ul := x.6, ab := ilt x.11 (W (x.5 + 1)), me := x.8, frm := x.9, key := x.10, limit := x.11, at' := (1 : Int), moved := x.13, cl := { addr := (0 : Int), at' := (0 : Int), word := (0 : Int), found := (0 : Int) } }, s := { t := s.1, n := s.2, xs := s.3, c := s.4 + 1, k := (1 : Int), a := x.1, o := peek s.3 x.1, w := peek s.3 x.1, ok := inB s.3 x.1 } })))))) (Tr.pre ((t = t ∧ n = n) ∧ List.length x.6 = List.length x.6 ∧ (3 : Int) ≠ (4 : Int) ∧ List.length s.3 = List.length s.3) (Tr.ret { d := false, x := { pred := x.1, pw := x.2, curr := x.3, cw := x.4, tries := x.5, ul := x.6, ab := x.7, me := x.8, frm := x.9, key := x.10, limit := x.11, at' := (3 : Int), moved := x.13, cl := { addr := (0 : Int), at' := (0 : Int), word := (0 : Int), found := (0 : Int) } }, s := { t := s.1, n := s.2, xs := s.3, c := s.4 + 1, k := (1 : Int), a := x.1, o := peek s.3 x.1, w := peek s.3 x.1, ok := inB s.3 x.1 } })))
theorem fnT_2_sum (t n : Int) (x : FNS) (s : MS) (K : FnO → Prop) (h : (fnT_2 t n x s).run K) : CallOk (obI tbl) Tryz.prog 88 [.ptr 0 0, .ptr 1 0] [some (.cells [.int .i64 t, .int .i64 n, .int .i64 x.pred, .int .u64 x.pw, .int .i64 x.curr, .int .u64 x.cw, .int .i64 x.tries, .slice 3 0 x.ul.length 1, .bool x.ab, .int .i64 x.me, .int .i64 x.frm, .int .i64 x.key, .int .i64 x.limit, .int .i64 2, .int .i64 x.moved, .top]), memC 2 s, memX s, some (.ints (some .i64) x.ul)] (LeafM 3 0 [15] [(.cell 0 7, .ints (some .i64))] (fnP t n) K) := by
  exact callOk_of (E := EC7) Tryz.checked.mixed (L := LL) (n := 10) (of_nf (q := (fnT_2 t n x s).run K) (by kernel_rfl) h)
def fnT_3 (t n : Int) (x : FNS) (s : MS) : Tr FnO := Tr.pre (List.length s.3 = List.length s.3 ∧ (0 : Int) ≤ s.4 ∧ s.4 ≤ (4611686018427387904 : Int)) (Tr.pre True (Tr.ite (!ieq (cutI (peek s.3 x.3) 19 1) 1) (Tr.ite (ile x.10 (cutI (peek s.3 x.3) 0 10)) (Tr.pre ((t = t ∧ n = n) ∧ List.length x.6 = List.length x.6 ∧ (3 : Int) ≠ (4 : Int) ∧ List.length s.3 = List.length s.3) (Tr.ret { d := true, x := { pred := x.1, pw := x.2, curr := x.3, cw := peek s.3 x.3, tries := x.5, ul := x.6, ab := x.7, me := x.8, frm := x.9, key := x.10, limit := x.11, at' := (3 : Int), moved := x.13, cl := { addr := (0 : Int), at' := (0 : Int), word := (0 : Int), found := (0 : Int) } }, s := { t := s.1, n := s.2, xs := s.3, c := s.4 + 1, k := (1 : Int), a := x.3, o := peek s.3 x.3, w := peek s.3 x.3, ok := inB s.3 x.3 } })) (Tr.ite (!ieq (cutI (peek s.3 x.3) 19 1) 1) (Tr.pre ((t = t ∧ n = n) ∧ List.length x.6 = List.length x.6 ∧ (6 : Int) ≠ (4 : Int) ∧ List.length s.3 = List.length s.3) (Tr.ret { d := false, x := { pred := x.1, pw := x.2, curr := x.3, cw := peek s.3 x.3, tries := x.5, ul := x.6, ab := x.7, me := x.8, frm := x.9, key := x.10, limit := x.11, at' := (6 : Int), moved := x.13, cl := { addr := (0 : Int), at' := (0 : Int), word := (0 : Int), found := (0 : Int) } }, s := { t := s.1, n := s.2, xs := s.3, c := s.4 + 1, k := (1 : Int), a := x.3, o := peek s.3 x.3, w := peek s.3 x.3, ok := inB s.3 x.3 } })) (Tr.ite (!ieq (cutI (peek s.3 x.3) 20 5) 0) (Tr.pre (clNOk t n x.3 ∧ True) (Tr.pre ((t = t ∧ n = n) ∧ List.length x.6 = List.length x.6 ∧ t = t ∧ n = n ∧ (4 : Int) = (4 : Int) ∧ List.length s.3 = List.length s.3) (Tr.ret { d := false, x := { pred := x.1, pw := x.2, curr := x.3, cw := peek s.3 x.3, tries := x.5, ul := x.6, ab := x.7, me := x.8, frm := x.9, key := x.10, limit := x.11, at' := (4 : Int), moved := x.13, cl := clNF t n x.3 }, s := { t := s.1, n := s.2, xs := s.3, c := s.4 + 1, k := (1 : Int), a := x.3, o := peek s.3 x.3, w := peek s.3 x.3, ok := inB s.3 x.3 } }))) (Tr.pre True (Tr.ite (!ieq (cutI x.2 20 5) 0) (Tr.pre (clNOk t n x.1 ∧ True) (Tr.pre ((t = t ∧ n = n) ∧ List.length x.6 = List.length x.6 ∧ t = t ∧ n = n ∧ (4 : Int) = (4 : Int) ∧ List.length s.3 = List.length s.3) (Tr.ret { d := false, x := { pred := x.1, pw := x.2, curr := x.3, cw := peek s.3 x.3, tries := x.5, ul := x.6, ab := x.7, me := x.8, frm := x.9, key := x.10, limit := x.11, at' := (4 : Int), moved := x.13, cl := clNF t n x.1 }, s := { t := s.1, n := s.2, xs := s.3, c := s.4 + 1, k := (1 : Int), a := x.3, o := peek s.3 x.3, w := peek s.3 x.3, ok := inB s.3 x.3 } }))) (Tr.pre ((t = t ∧ n = n) ∧ List.length x.6 = List.length x.6 ∧ (5 : Int) ≠ (4 : Int) ∧ List.length s.3 = List.length s.3) (Tr.ret { d := false, x := { pred := x.1, pw := x.2, curr := x.3, cw := peek s.3 x.3, tries := x.5, ul := x.6, ab := x.7, me := x.8, frm := x.9, key := x.10, limit := x.11, at' := (5 : Int), moved := x.13, cl := { addr := (0 : Int), at' := (0 : Int), word := (0 : Int), found := (0 : Int) } }, s := { t := s.1, n := s.2, xs := s.3, c := s.4 + 1, k := (1 : Int), a := x.3, o := peek s.3 x.3, w := peek s.3 x.3, ok := inB s.3 x.3 } }))))))) (Tr.ite (!ieq (cutI (peek s.3 x.3) 19 1) 1) (Tr.pre ((t = t ∧ n = n) ∧ List.length x.6 = List.length x.6 ∧ (6 : Int) ≠ (4 : Int) ∧ List.length s.3 = List.length s.3) (Tr.ret { d := false, x := { pred := x.1, pw := x.2, curr := x.3, cw := peek s.3 x.3, tries := x.5, ul := x.6, ab := x.7, me := x.8, frm := x.9, key := x.10, limit := x.11, at' := (6 : Int), moved := x.13, cl := { addr := (0 : Int), at' := (0 : Int), word := (0 : Int), found := (0 : Int) } }, s := { t := s.1, n := s.2, xs := s.3, c := s.4 + 1, k := (1 : Int), a := x.3, o := peek s.3 x.3, w := peek s.3 x.3, ok := inB s.3 x.3 } })) (Tr.ite (!ieq (cutI (peek s.3 x.3) 20 5) 0) (Tr.pre (clNOk t n x.3 ∧ True) (Tr.pre ((t = t ∧ n = n) ∧ List.length x.6 = List.length x.6 ∧ t = t ∧ n = n ∧ (4 : Int) = (4 : Int) ∧ List.length s.3 = List.length s.3) (Tr.ret { d := false, x := { pred := x.1, pw := x.2, curr := x.3, cw := peek s.3 x.3, tries := x.5, ul := x.6, ab := x.7, me := x.8, frm := x.9, key := x.10, limit := x.11, at' := (4 : Int), moved := x.13, cl := clNF t n x.3 }, s := { t := s.1, n := s.2, xs := s.3, c := s.4 + 1, k := (1 : Int), a := x.3, o := peek s.3 x.3, w := peek s.3 x.3, ok := inB s.3 x.3 } }))) (Tr.pre True (Tr.ite (!ieq (cutI x.2 20 5) 0) (Tr.pre (clNOk t n x.1 ∧ True) (Tr.pre ((t = t ∧ n = n) ∧ List.length x.6 = List.length x.6 ∧ t = t ∧ n = n ∧ (4 : Int) = (4 : Int) ∧ List.length s.3 = List.length s.3) (Tr.ret { d := false, x := { pred := x.1, pw := x.2, curr := x.3, cw := peek s.3 x.3, tries := x.5, ul := x.6, ab := x.7, me := x.8, frm := x.9, key := x.10, limit := x.11, at' := (4 : Int), moved := x.13, cl := clNF t n x.1 }, s := { t := s.1, n := s.2, xs := s.3, c := s.4 + 1, k := (1 : Int), a := x.3, o := peek s.3 x.3, w := peek s.3 x.3, ok := inB s.3 x.3 } }))) (Tr.pre ((t = t ∧ n = n) ∧ List.length x.6 = List.length x.6 ∧ (5 : Int) ≠ (4 : Int) ∧ List.length s.3 = List.length s.3) (Tr.ret { d := false, x := { pred := x.1, pw := x.2, curr := x.3, cw := peek s.3 x.3, tries := x.5, ul := x.6, ab := x.7, me := x.8, frm := x.9, key := x.10, limit := x.11, at' := (5 : Int), moved := x.13, cl := { addr := (0 : Int), at' := (0 : Int), word := (0 : Int), found := (0 : Int) } }, s := { t := s.1, n := s.2, xs := s.3, c := s.4 + 1, k := (1 : Int), a := x.3, o := peek s.3 x.3, w := peek s.3 x.3, ok := inB s.3 x.3 } }))))))))
theorem fnT_3_sum (t n : Int) (x : FNS) (s : MS) (K : FnO → Prop) (h : (fnT_3 t n x s).run K) : CallOk (obI tbl) Tryz.prog 88 [.ptr 0 0, .ptr 1 0] [some (.cells [.int .i64 t, .int .i64 n, .int .i64 x.pred, .int .u64 x.pw, .int .i64 x.curr, .int .u64 x.cw, .int .i64 x.tries, .slice 3 0 x.ul.length 1, .bool x.ab, .int .i64 x.me, .int .i64 x.frm, .int .i64 x.key, .int .i64 x.limit, .int .i64 3, .int .i64 x.moved, .top]), memC 2 s, memX s, some (.ints (some .i64) x.ul)] (LeafM 3 0 [15] [(.cell 0 7, .ints (some .i64))] (fnP t n) K) := by
  exact callOk_of (E := EC7) Tryz.checked.mixed (L := LL) (n := 10) (of_nf (q := (fnT_3 t n x s).run K) (by kernel_rfl) h)
def fnT_4 (t n : Int) (x : FNS) (s : MS) : Tr FnO := Tr.pre (List.length s.3 = List.length s.3 ∧ clOk t n x.14 s) (Tr.ite (clF t n x.14 s).1 (Tr.ite (ilt x.11 (W (x.5 + 1))) (Tr.pre ((t = t ∧ n = n) ∧ List.length x.6 = List.length x.6 ∧ (0 : Int) ≠ (4 : Int) ∧ List.length (ClO.s (clF t n x.14 s)).3 = List.length (ClO.s (clF t n x.14 s)).3) (Tr.ret { d := ilt x.11 (W (x.5 + 1)), x := { pred := (0 : Int), pw := (0 : Int), curr := (0 : Int), cw := (0 : Int), tries := W (x.5 + 1), ul := x.6, ab := ilt x.11 (W (x.5 + 1)), me := x.8, frm := x.9, key := x.10, limit := x.11, at' := (0 : Int), moved := x.13, cl := { addr := (0 : Int), at' := (0 : Int), word := (0 : Int), found := (0 : Int) } }, s := { t := (ClO.s (clF t n x.14 s)).1, n := (ClO.s (clF t n x.14 s)).2, xs := (ClO.s (clF t n x.14 s)).3, c := (ClO.s (clF t n x.14 s)).4, k := (ClO.s (clF t n x.14 s)).5, a := (ClO.s (clF t n x.14 s)).6, o := (ClO.s (clF t n x.14 s)).7, w := (ClO.s (clF t n x.14 s)).8, ok := (ClO.s (clF t n x.14 s)).9 } })) (Tr.pre ((t = t ∧ n = n) ∧ List.length x.6 = List.length x.6 ∧ (0 : Int) ≠ (4 : Int) ∧ List.length (ClO.s (clF t n x.14 s)).3 = List.length (ClO.s (clF t n x.14 s)).3) (Tr.ret { d := ilt x.11 (W (x.5 + 1)), x := { pred := x.1, pw := x.2, curr := x.3, cw := x.4, tries := W (x.5 + 1), ul := x.6, ab := ilt x.11 (W (x.5 + 1)), me := x.8, frm := x.9, key := x.10, limit := x.11, at' := (0 : Int), moved := x.13, cl := { addr := (0 : Int), at' := (0 : Int), word := (0 : Int), found := (0 : Int) } }, s := { t := (ClO.s (clF t n x.14 s)).1, n := (ClO.s (clF t n x.14 s)).2, xs := (ClO.s (clF t n x.14 s)).3, c := (ClO.s (clF t n x.14 s)).4, k := (ClO.s (clF t n x.14 s)).5, a := (ClO.s (clF t n x.14 s)).6, o := (ClO.s (clF t n x.14 s)).7, w := (ClO.s (clF t n x.14 s)).8, ok := (ClO.s (clF t n x.14 s)).9 } }))) (Tr.pre ((t = t ∧ n = n) ∧ List.length x.6 = List.length x.6 ∧ t = t ∧ n = n ∧ (4 : Int) = (4 : Int) ∧ List.length (ClO.s (clF t n x.14 s)).3 = List.length (ClO.s (clF t n x.14 s)).3) (Tr.ret { d := false, x := { pred := x.1, pw := x.2, curr := x.3, cw := x.4, tries := x.5, ul := x.6, ab := x.7, me := x.8, frm := x.9, key := x.10, limit := x.11, at' := (4 : Int), moved := x.13, cl := (clF t n x.14 s).2 }, s := { t := (ClO.s (clF t n x.14 s)).1, n := (ClO.s (clF t n x.14 s)).2, xs := (ClO.s (clF t n x.14 s)).3, c := (ClO.s (clF t n x.14 s)).4, k := (ClO.s (clF t n x.14 s)).5, a := (ClO.s (clF t n x.14 s)).6, o := (ClO.s (clF t n x.14 s)).7, w := (ClO.s (clF t n x.14 s)).8, ok := (ClO.s (clF t n x.14 s)).9 } })))
theorem fnT_4_sum (t n : Int) (x : FNS) (s : MS) (K : FnO → Prop) (h : (fnT_4 t n x s).run K) : CallOk (obI tbl) Tryz.prog 88 [.ptr 0 0, .ptr 1 0] [some (.cells [.int .i64 t, .int .i64 n, .int .i64 x.pred, .int .u64 x.pw, .int .i64 x.curr, .int .u64 x.cw, .int .i64 x.tries, .slice 3 0 x.ul.length 1, .bool x.ab, .int .i64 x.me, .int .i64 x.frm, .int .i64 x.key, .int .i64 x.limit, .int .i64 4, .int .i64 x.moved, .ptr 4 0]), memC 2 s, memX s, some (.ints (some .i64) x.ul), some (.abs (.clear t n x.cl) [])] (LeafM 3 0 [15] [(.cell 0 7, .ints (some .i64))] (fnP t n) K) := by
  exact callOk_of (E := EC7) Tryz.checked.mixed (L := LL) (n := 10) (of_nf (q := (fnT_4 t n x s).run K) (by kernel_rfl) h)
def fnT_5 (t n : Int) (x : FNS) (s : MS) : Tr FnO := Tr.pre True (Tr.pre True (Tr.pre ((0 : Int) ≤ cutI x.2 25 18 ∧ cutI x.2 25 (18 : Int) ≤ (1000000 : Int)) (Tr.pre True (Tr.pre ((List.length s.3 = List.length s.3 ∧ (0 : Int) ≤ s.4 ∧ s.4 ≤ (4611686018427387904 : Int)) ∧ True) (Tr.ite (!casB s.3 x.1 x.2) (Tr.ite (ilt x.11 (W (x.5 + 1))) (Tr.pre ((t = t ∧ n = n) ∧ List.length x.6 = List.length x.6 ∧ (0 : Int) ≠ (4 : Int) ∧ List.length (bif casB s.3 x.1 x.2 then putI s.3 x.1 (bif bif fitI (cutI x.2 0 10) 10 then bif fitI (cutI x.4 10 9) 9 then bif fitI (cutI x.2 20 5) 5 then fitI (newerI (cutI x.2 25 18)) 18 else false else false else false then putV (cutI x.2 0 10) (cutI x.4 10 9) (ieq (cutI x.2 19 1) 1) (cutI x.2 20 5) (newerI (cutI x.2 25 18)) else 0) else s.3) = List.length (bif casB s.3 x.1 x.2 then putI s.3 x.1 (bif bif fitI (cutI x.2 0 10) 10 then bif fitI (cutI x.4 10 9) 9 then bif fitI (cutI x.2 20 5) 5 then fitI (newerI (cutI x.2 25 18)) 18 else false else false else false then putV (cutI x.2 0 10) (cutI x.4 10 9) (ieq (cutI x.2 19 1) 1) (cutI x.2 20 5) (newerI (cutI x.2 25 18)) else 0) else s.3)) (Tr.ret { d := ilt x.11 (W (x.5 + 1)), x := { pred := (0 : Int), pw := (0 : Int), curr := (0 : Int), cw := (0 : Int), tries := W (x.5 + 1), ul := x.6, ab := ilt x.11 (W (x.5 + 1)), me := x.8, frm := x.9, key := x.10, limit := x.11, at' := (0 : Int), moved := x.13, cl := { addr := (0 : Int), at' := (0 : Int), word := (0 : Int), found := (0 : Int) } }, s := { t := s.1, n := s.2, xs := bif casB s.3 x.1 x.2 then putI s.3 x.1 (bif bif fitI (cutI x.2 0 10) 10 then bif fitI (cutI x.4 10 9) 9 then bif fitI (cutI x.2 20 5) 5 then fitI (newerI (cutI x.2 25 18)) 18 else false else false else false then putV (cutI x.2 0 10) (cutI x.4 10 9) (ieq (cutI x.2 19 1) 1) (cutI x.2 20 5) (newerI (cutI x.2 25 18)) else 0) else s.3, c := s.4 + 1, k := (3 : Int), a := x.1, o := peek s.3 x.1, w := bif inB s.3 x.1 then bif bif fitI (cutI x.2 0 10) 10 then bif fitI (cutI x.4 10 9) 9 then bif fitI (cutI x.2 20 5) 5 then fitI (newerI (cutI x.2 25 18)) 18 else false else false else false then putV (cutI x.2 0 10) (cutI x.4 10 9) (ieq (cutI x.2 19 1) 1) (cutI x.2 20 5) (newerI (cutI x.2 25 18)) else 0 else 0, ok := casB s.3 x.1 x.2 } })) (Tr.pre ((t = t ∧ n = n) ∧ List.length x.6 = List.length x.6 ∧ (0 : Int) ≠ (4 : Int) ∧ List.length (bif casB s.3 x.1 x.2 then putI s.3 x.1 (bif bif fitI (cutI x.2 0 10) 10 then bif fitI (cutI x.4 10 9) 9 then bif fitI (cutI x.2 20 5) 5 then fitI (newerI (cutI x.2 25 18)) 18 else false else false else false then putV (cutI x.2 0 10) (cutI x.4 10 9) (ieq (cutI x.2 19 1) 1) (cutI x.2 20 5) (newerI (cutI x.2 25 18)) else 0) else s.3) = List.length (bif casB s.3 x.1 x.2 then putI s.3 x.1 (bif bif fitI (cutI x.2 0 10) 10 then bif fitI (cutI x.4 10 9) 9 then bif fitI (cutI x.2 20 5) 5 then fitI (newerI (cutI x.2 25 18)) 18 else false else false else false then putV (cutI x.2 0 10) (cutI x.4 10 9) (ieq (cutI x.2 19 1) 1) (cutI x.2 20 5) (newerI (cutI x.2 25 18)) else 0) else s.3)) (Tr.ret { d := ilt x.11 (W (x.5 + 1)), x := { pred := x.1, pw := x.2, curr := x.3, cw := x.4, tries := W (x.5 + 1), ul := x.6, ab := ilt x.11 (W (x.5 + 1)), me := x.8, frm := x.9, key := x.10, limit := x.11, at' := (0 : Int), moved := x.13, cl := { addr := (0 : Int), at' := (0 : Int), word := (0 : Int), found := (0 : Int) } }, s := { t := s.1, n := s.2, xs := bif casB s.3 x.1 x.2 then putI s.3 x.1 (bif bif fitI (cutI x.2 0 10) 10 then bif fitI (cutI x.4 10 9) 9 then bif fitI (cutI x.2 20 5) 5 then fitI (newerI (cutI x.2 25 18)) 18 else false else false else false then putV (cutI x.2 0 10) (cutI x.4 10 9) (ieq (cutI x.2 19 1) 1) (cutI x.2 20 5) (newerI (cutI x.2 25 18)) else 0) else s.3, c := s.4 + 1, k := (3 : Int), a := x.1, o := peek s.3 x.1, w := bif inB s.3 x.1 then bif bif fitI (cutI x.2 0 10) 10 then bif fitI (cutI x.4 10 9) 9 then bif fitI (cutI x.2 20 5) 5 then fitI (newerI (cutI x.2 25 18)) 18 else false else false else false then putV (cutI x.2 0 10) (cutI x.4 10 9) (ieq (cutI x.2 19 1) 1) (cutI x.2 20 5) (newerI (cutI x.2 25 18)) else 0 else 0, ok := casB s.3 x.1 x.2 } }))) (Tr.pre (0 = 0 ∧ List.length x.6 = List.length x.6 ∧ 1 = 1 ∧ List.length x.6 + (1 : Nat) ≤ (4294967296 : Nat)) (Tr.ite (ile (W (x.13 + 1)) n) (Tr.pre True (Tr.ite (ieq (cutI (bif bif fitI (cutI x.2 0 10) 10 then bif fitI (cutI x.4 10 9) 9 then bif fitI (cutI x.2 20 5) 5 then fitI (newerI (cutI x.2 25 18)) 18 else false else false else false then putV (cutI x.2 0 10) (cutI x.4 10 9) (ieq (cutI x.2 19 1) 1) (cutI x.2 20 5) (newerI (cutI x.2 25 18)) else 0) 19 1) 1) (Tr.pre ((t = t ∧ n = n) ∧ List.length x.6 + (1 : Nat) = List.length (x.6 ++ [x.3]) ∧ (0 : Int) ≠ (4 : Int) ∧ List.length (bif casB s.3 x.1 x.2 then putI s.3 x.1 (bif bif fitI (cutI x.2 0 10) 10 then bif fitI (cutI x.4 10 9) 9 then bif fitI (cutI x.2 20 5) 5 then fitI (newerI (cutI x.2 25 18)) 18 else false else false else false then putV (cutI x.2 0 10) (cutI x.4 10 9) (ieq (cutI x.2 19 1) 1) (cutI x.2 20 5) (newerI (cutI x.2 25 18)) else 0) else s.3) = List.length (bif casB s.3 x.1 x.2 then putI s.3 x.1 (bif bif fitI (cutI x.2 0 10) 10 then bif fitI (cutI x.4 10 9) 9 then bif fitI (cutI x.2 20 5) 5 then fitI (newerI (cutI x.2 25 18)) 18 else false else false else false then putV (cutI x.2 0 10) (cutI x.4 10 9) (ieq (cutI x.2 19 1) 1) (cutI x.2 20 5) (newerI (cutI x.2 25 18)) else 0) else s.3)) (Tr.ret { d := false, x := { pred := x.9, pw := x.2, curr := x.3, cw := x.4, tries := x.5, ul := x.6 ++ [x.3], ab := x.7, me := x.8, frm := x.9, key := x.10, limit := x.11, at' := (0 : Int), moved := (0 : Int), cl := { addr := (0 : Int), at' := (0 : Int), word := (0 : Int), found := (0 : Int) } }, s := { t := s.1, n := s.2, xs := bif casB s.3 x.1 x.2 then putI s.3 x.1 (bif bif fitI (cutI x.2 0 10) 10 then bif fitI (cutI x.4 10 9) 9 then bif fitI (cutI x.2 20 5) 5 then fitI (newerI (cutI x.2 25 18)) 18 else false else false else false then putV (cutI x.2 0 10) (cutI x.4 10 9) (ieq (cutI x.2 19 1) 1) (cutI x.2 20 5) (newerI (cutI x.2 25 18)) else 0) else s.3, c := s.4 + 1, k := (3 : Int), a := x.1, o := peek s.3 x.1, w := bif inB s.3 x.1 then bif bif fitI (cutI x.2 0 10) 10 then bif fitI (cutI x.4 10 9) 9 then bif fitI (cutI x.2 20 5) 5 then fitI (newerI (cutI x.2 25 18)) 18 else false else false else false then putV (cutI x.2 0 10) (cutI x.4 10 9) (ieq (cutI x.2 19 1) 1) (cutI x.2 20 5) (newerI (cutI x.2 25 18)) else 0 else 0, ok := casB s.3 x.1 x.2 } })) (Tr.pre ((t = t ∧ n = n) ∧ List.length x.6 + (1 : Nat) = List.length (x.6 ++ [x.3]) ∧ (1 : Int) ≠ (4 : Int) ∧ List.length (bif casB s.3 x.1 x.2 then putI s.3 x.1 (bif bif fitI (cutI x.2 0 10) 10 then bif fitI (cutI x.4 10 9) 9 then bif fitI (cutI x.2 20 5) 5 then fitI (newerI (cutI x.2 25 18)) 18 else false else false else false then putV (cutI x.2 0 10) (cutI x.4 10 9) (ieq (cutI x.2 19 1) 1) (cutI x.2 20 5) (newerI (cutI x.2 25 18)) else 0) else s.3) = List.length (bif casB s.3 x.1 x.2 then putI s.3 x.1 (bif bif fitI (cutI x.2 0 10) 10 then bif fitI (cutI x.4 10 9) 9 then bif fitI (cutI x.2 20 5) 5 then fitI (newerI (cutI x.2 25 18)) 18 else false else false else false then putV (cutI x.2 0 10) (cutI x.4 10 9) (ieq (cutI x.2 19 1) 1) (cutI x.2 20 5) (newerI (cutI x.2 25 18)) else 0) else s.3)) (Tr.ret { d := ieq (cutI (bif bif fitI (cutI x.2 0 10) 10 then bif fitI (cutI x.4 10 9) 9 then bif fitI (cutI x.2 20 5) 5 then fitI (newerI (cutI x.2 25 18)) 18 else false else false else false then putV (cutI x.2 0 10) (cutI x.4 10 9) (ieq (cutI x.2 19 1) 1) (cutI x.2 20 5) (newerI (cutI x.2 25 18)) else 0) 10 9) 0, x := { pred := x.1, pw := bif bif fitI (cutI x.2 0 10) 10 then bif fitI (cutI x.4 10 9) 9 then bif fitI (cutI x.2 20 5) 5 then fitI (newerI (cutI x.2 25 18)) 18 else false else false else false then putV (cutI x.2 0 10) (cutI x.4 10 9) (ieq (cutI x.2 19 1) 1) (cutI x.2 20 5) (newerI (cutI x.2 25 18)) else 0, curr := cutI (bif bif fitI (cutI x.2 0 10) 10 then bif fitI (cutI x.4 10 9) 9 then bif fitI (cutI x.2 20 5) 5 then fitI (newerI (cutI x.2 25 18)) 18 else false else false else false then putV (cutI x.2 0 10) (cutI x.4 10 9) (ieq (cutI x.2 19 1) 1) (cutI x.2 20 5) (newerI (cutI x.2 25 18)) else 0) 10 9, cw := (0 : Int), tries := x.5, ul := x.6 ++ [x.3], ab := x.7, me := x.8, frm := x.9, key := x.10, limit := x.11, at' := (1 : Int), moved := W (x.13 + 1), cl := { addr := (0 : Int), at' := (0 : Int), word := (0 : Int), found := (0 : Int) } }, s := { t := s.1, n := s.2, xs := bif casB s.3 x.1 x.2 then putI s.3 x.1 (bif bif fitI (cutI x.2 0 10) 10 then bif fitI (cutI x.4 10 9) 9 then bif fitI (cutI x.2 20 5) 5 then fitI (newerI (cutI x.2 25 18)) 18 else false else false else false then putV (cutI x.2 0 10) (cutI x.4 10 9) (ieq (cutI x.2 19 1) 1) (cutI x.2 20 5) (newerI (cutI x.2 25 18)) else 0) else s.3, c := s.4 + 1, k := (3 : Int), a := x.1, o := peek s.3 x.1, w := bif inB s.3 x.1 then bif bif fitI (cutI x.2 0 10) 10 then bif fitI (cutI x.4 10 9) 9 then bif fitI (cutI x.2 20 5) 5 then fitI (newerI (cutI x.2 25 18)) 18 else false else false else false then putV (cutI x.2 0 10) (cutI x.4 10 9) (ieq (cutI x.2 19 1) 1) (cutI x.2 20 5) (newerI (cutI x.2 25 18)) else 0 else 0, ok := casB s.3 x.1 x.2 } })))) (Tr.ite (ilt x.11 (W (x.5 + 1))) (Tr.ite (ilt x.11 (W (x.5 + 1))) (Tr.pre ((t = t ∧ n = n) ∧ List.length x.6 + (1 : Nat) = List.length (x.6 ++ [x.3]) ∧ (5 : Int) ≠ (4 : Int) ∧ List.length (bif casB s.3 x.1 x.2 then putI s.3 x.1 (bif bif fitI (cutI x.2 0 10) 10 then bif fitI (cutI x.4 10 9) 9 then bif fitI (cutI x.2 20 5) 5 then fitI (newerI (cutI x.2 25 18)) 18 else false else false else false then putV (cutI x.2 0 10) (cutI x.4 10 9) (ieq (cutI x.2 19 1) 1) (cutI x.2 20 5) (newerI (cutI x.2 25 18)) else 0) else s.3) = List.length (bif casB s.3 x.1 x.2 then putI s.3 x.1 (bif bif fitI (cutI x.2 0 10) 10 then bif fitI (cutI x.4 10 9) 9 then bif fitI (cutI x.2 20 5) 5 then fitI (newerI (cutI x.2 25 18)) 18 else false else false else false then putV (cutI x.2 0 10) (cutI x.4 10 9) (ieq (cutI x.2 19 1) 1) (cutI x.2 20 5) (newerI (cutI x.2 25 18)) else 0) else s.3)) (Tr.ret { d := true, x := { pred := (0 : Int), pw := (0 : Int), curr := (0 : Int), cw := (0 : Int), tries := W (x.5 + 1), ul := x.6 ++ [x.3], ab := ilt x.11 (W (x.5 + 1)), me := x.8, frm := x.9, key := x.10, limit := x.11, at' := (5 : Int), moved := W (x.13 + 1), cl := { addr := (0 : Int), at' := (0 : Int), word := (0 : Int), found := (0 : Int) } }, s := { t := s.1, n := s.2, xs := bif casB s.3 x.1 x.2 then putI s.3 x.1 (bif bif fitI (cutI x.2 0 10) 10 then bif fitI (cutI x.4 10 9) 9 then bif fitI (cutI x.2 20 5) 5 then fitI (newerI (cutI x.2 25 18)) 18 else false else false else false then putV (cutI x.2 0 10) (cutI x.4 10 9) (ieq (cutI x.2 19 1) 1) (cutI x.2 20 5) (newerI (cutI x.2 25 18)) else 0) else s.3, c := s.4 + 1, k := (3 : Int), a := x.1, o := peek s.3 x.1, w := bif inB s.3 x.1 then bif bif fitI (cutI x.2 0 10) 10 then bif fitI (cutI x.4 10 9) 9 then bif fitI (cutI x.2 20 5) 5 then fitI (newerI (cutI x.2 25 18)) 18 else false else false else false then putV (cutI x.2 0 10) (cutI x.4 10 9) (ieq (cutI x.2 19 1) 1) (cutI x.2 20 5) (newerI (cutI x.2 25 18)) else 0 else 0, ok := casB s.3 x.1 x.2 } })) (Tr.pre ((t = t ∧ n = n) ∧ List.length x.6 + (1 : Nat) = List.length (x.6 ++ [x.3]) ∧ (0 : Int) ≠ (4 : Int) ∧ List.length (bif casB s.3 x.1 x.2 then putI s.3 x.1 (bif bif fitI (cutI x.2 0 10) 10 then bif fitI (cutI x.4 10 9) 9 then bif fitI (cutI x.2 20 5) 5 then fitI (newerI (cutI x.2 25 18)) 18 else false else false else false then putV (cutI x.2 0 10) (cutI x.4 10 9) (ieq (cutI x.2 19 1) 1) (cutI x.2 20 5) (newerI (cutI x.2 25 18)) else 0) else s.3) = List.length (bif casB s.3 x.1 x.2 then putI s.3 x.1 (bif bif fitI (cutI x.2 0 10) 10 then bif fitI (cutI x.4 10 9) 9 then bif fitI (cutI x.2 20 5) 5 then fitI (newerI (cutI x.2 25 18)) 18 else false else false else false then putV (cutI x.2 0 10) (cutI x.4 10 9) (ieq (cutI x.2 19 1) 1) (cutI x.2 20 5) (newerI (cutI x.2 25 18)) else 0) else s.3)) (Tr.ret { d := false, x := { pred := x.9, pw := (0 : Int), curr := (0 : Int), cw := (0 : Int), tries := W (x.5 + 1), ul := x.6 ++ [x.3], ab := ilt x.11 (W (x.5 + 1)), me := x.8, frm := x.9, key := x.10, limit := x.11, at' := (0 : Int), moved := (0 : Int), cl := { addr := (0 : Int), at' := (0 : Int), word := (0 : Int), found := (0 : Int) } }, s := { t := s.1, n := s.2, xs := bif casB s.3 x.1 x.2 then putI s.3 x.1 (bif bif fitI (cutI x.2 0 10) 10 then bif fitI (cutI x.4 10 9) 9 then bif fitI (cutI x.2 20 5) 5 then fitI (newerI (cutI x.2 25 18)) 18 else false else false else false then putV (cutI x.2 0 10) (cutI x.4 10 9) (ieq (cutI x.2 19 1) 1) (cutI x.2 20 5) (newerI (cutI x.2 25 18)) else 0) else s.3, c := s.4 + 1, k := (3 : Int), a := x.1, o := peek s.3 x.1, w := bif inB s.3 x.1 then bif bif fitI (cutI x.2 0 10) 10 then bif fitI (cutI x.4 10 9) 9 then bif fitI (cutI x.2 20 5) 5 then fitI (newerI (cutI x.2 25 18)) 18 else false else false else false then putV (cutI x.2 0 10) (cutI x.4 10 9) (ieq (cutI x.2 19 1) 1) (cutI x.2 20 5) (newerI (cutI x.2 25 18)) else 0 else 0, ok := casB s.3 x.1 x.2 } }))) (Tr.ite (ilt x.11 (W (x.5 + 1))) (Tr.pre ((t = t ∧ n = n) ∧ List.length x.6 + (1 : Nat) = List.length (x.6 ++ [x.3]) ∧ (5 : Int) ≠ (4 : Int) ∧ List.length (bif casB s.3 x.1 x.2 then putI s.3 x.1 (bif bif fitI (cutI x.2 0 10) 10 then bif fitI (cutI x.4 10 9) 9 then bif fitI (cutI x.2 20 5) 5 then fitI (newerI (cutI x.2 25 18)) 18 else false else false else false then putV (cutI x.2 0 10) (cutI x.4 10 9) (ieq (cutI x.2 19 1) 1) (cutI x.2 20 5) (newerI (cutI x.2 25 18)) else 0) else s.3) = List.length (bif casB s.3 x.1 x.2 then putI s.3 x.1 (bif bif fitI (cutI x.2 0 10) 10 then bif fitI (cutI x.4 10 9) 9 then bif fitI (cutI x.2 20 5) 5 then fitI (newerI (cutI x.2 25 18)) 18 else false else false else false then putV (cutI x.2 0 10) (cutI x.4 10 9) (ieq (cutI x.2 19 1) 1) (cutI x.2 20 5) (newerI (cutI x.2 25 18)) else 0) else s.3)) (Tr.ret { d := true, x := { pred := x.1, pw := x.2, curr := x.3, cw := x.4, tries := W (x.5 + 1), ul := x.6 ++ [x.3], ab := ilt x.11 (W (x.5 + 1)), me := x.8, frm := x.9, key := x.10, limit := x.11, at' := (5 : Int), moved := W (x.13 + 1), cl := { addr := (0 : Int), at' := (0 : Int), word := (0 : Int), found := (0 : Int) } }, s := { t := s.1, n := s.2, xs := bif casB s.3 x.1 x.2 then putI s.3 x.1 (bif bif fitI (cutI x.2 0 10) 10 then bif fitI (cutI x.4 10 9) 9 then bif fitI (cutI x.2 20 5) 5 then fitI (newerI (cutI x.2 25 18)) 18 else false else false else false then putV (cutI x.2 0 10) (cutI x.4 10 9) (ieq (cutI x.2 19 1) 1) (cutI x.2 20 5) (newerI (cutI x.2 25 18)) else 0) else s.3, c := s.4 + 1, k := (3 : Int), a := x.1, o := peek s.3 x.1, w := bif inB s.3 x.1 then bif bif fitI (cutI x.2 0 10) 10 then bif fitI (cutI x.4 10 9) 9 then bif fitI (cutI x.2 20 5) 5 then fitI (newerI (cutI x.2 25 18)) 18 else false else false else false then putV (cutI x.2 0 10) (cutI x.4 10 9) (ieq (cutI x.2 19 1) 1) (cutI x.2 20 5) (newerI (cutI x.2 25 18)) else 0 else 0, ok := casB s.3 x.1 x.2 } })) (Tr.pre ((t = t ∧ n = n) ∧ List.length x.6 + (1 : Nat) = List.length (x.6 ++ [x.3]) ∧ (0 : Int) ≠ (4 : Int) ∧ List.length (bif casB s.3 x.1 x.2 then putI s.3 x.1 (bif bif fitI (cutI x.2 0 10) 10 then bif fitI (cutI x.4 10 9) 9 then bif fitI (cutI x.2 20 5) 5 then fitI (newerI (cutI x.2 25 18)) 18 else false else false else false then putV (cutI x.2 0 10) (cutI x.4 10 9) (ieq (cutI x.2 19 1) 1) (cutI x.2 20 5) (newerI (cutI x.2 25 18)) else 0) else s.3) = List.length (bif casB s.3 x.1 x.2 then putI s.3 x.1 (bif bif fitI (cutI x.2 0 10) 10 then bif fitI (cutI x.4 10 9) 9 then bif fitI (cutI x.2 20 5) 5 then fitI (newerI (cutI x.2 25 18)) 18 else false else false else false then putV (cutI x.2 0 10) (cutI x.4 10 9) (ieq (cutI x.2 19 1) 1) (cutI x.2 20 5) (newerI (cutI x.2 25 18)) else 0) else s.3)) (Tr.ret { d := false, x := { pred := x.9, pw := x.2, curr := x.3, cw := x.4, tries := W (x.5 + 1), ul := x.6 ++ [x.3], ab := ilt x.11 (W (x.5 + 1)), me := x.8, frm := x.9, key := x.10, limit := x.11, at' := (0 : Int), moved := (0 : Int), cl := { addr := (0 : Int), at' := (0 : Int), word := (0 : Int), found := (0 : Int) } }, s := { t := s.1, n := s.2, xs := bif casB s.3 x.1 x.2 then putI s.3 x.1 (bif bif fitI (cutI x.2 0 10) 10 then bif fitI (cutI x.4 10 9) 9 then bif fitI (cutI x.2 20 5) 5 then fitI (newerI (cutI x.2 25 18)) 18 else false else false else false then putV (cutI x.2 0 10) (cutI x.4 10 9) (ieq (cutI x.2 19 1) 1) (cutI x.2 20 5) (newerI (cutI x.2 25 18)) else 0) else s.3, c := s.4 + 1, k := (3 : Int), a := x.1, o := peek s.3 x.1, w := bif inB s.3 x.1 then bif bif fitI (cutI x.2 0 10) 10 then bif fitI (cutI x.4 10 9) 9 then bif fitI (cutI x.2 20 5) 5 then fitI (newerI (cutI x.2 25 18)) 18 else false else false else false then putV (cutI x.2 0 10) (cutI x.4 10 9) (ieq (cutI x.2 19 1) 1) (cutI x.2 20 5) (newerI (cutI x.2 25 18)) else 0 else 0, ok := casB s.3 x.1 x.2 } })))))))))))
theorem fnT_5_sum (t n : Int) (x : FNS) (s : MS) (K : FnO → Prop) (h : (fnT_5 t n x s).run K) : CallOk (obI tbl) Tryz.prog 88 [.ptr 0 0, .ptr 1 0] [some (.cells [.int .i64 t, .int .i64 n, .int .i64 x.pred, .int .u64 x.pw, .int .i64 x.curr, .int .u64 x.cw, .int .i64 x.tries, .slice 3 0 x.ul.length 1, .bool x.ab, .int .i64 x.me, .int .i64 x.frm, .int .i64 x.key, .int .i64 x.limit, .int .i64 5, .int .i64 x.moved, .top]), memC 2 s, memX s, some (.ints (some .i64) x.ul)] (LeafM 3 0 [15] [(.cell 0 7, .ints (some .i64))] (fnP t n) K) := by
  exact callOk_of (E := EC7) Tryz.checked.mixed (L := LL) (n := 10) (of_nf (q := (fnT_5 t n x s).run K) (by kernel_rfl) h)
def fnT_6 (t n : Int) (x : FNS) (s : MS) : Tr FnO := Tr.pre ((((0 : Int) ≤ t ∧ t ≤ (100000 : Int)) ∧ ((0 : Int) ≤ n ∧ n ≤ (100000 : Int)) ∧ ((-1099511627776 : Int) ≤ x.8 ∧ x.8 ≤ (1099511627776 : Int)) ∧ (-1099511627776 : Int) ≤ (0 : Int) ∧ (0 : Int) ≤ (1099511627776 : Int)) ∧ True) (Tr.pre ((List.length s.3 = List.length s.3 ∧ (0 : Int) ≤ s.4 ∧ s.4 ≤ (4611686018427387904 : Int)) ∧ True) (Tr.ite (ile (W (x.13 + 1)) n) (Tr.pre ((t = t ∧ n = n) ∧ List.length x.6 = List.length x.6 ∧ (0 : Int) ≠ (4 : Int) ∧ List.length (putI s.3 (2 * n + 5 + 2 * x.8 + 0) (WU x.3)) = List.length (putI s.3 (2 * n + 5 + 2 * x.8 + 0) (WU x.3))) (Tr.ret { d := false, x := { pred := x.3, pw := x.2, curr := x.3, cw := x.4, tries := x.5, ul := x.6, ab := x.7, me := x.8, frm := x.9, key := x.10, limit := x.11, at' := (0 : Int), moved := W (x.13 + 1), cl := { addr := (0 : Int), at' := (0 : Int), word := (0 : Int), found := (0 : Int) } }, s := { t := s.1, n := s.2, xs := putI s.3 (2 * n + 5 + 2 * x.8 + 0) (WU x.3), c := s.4 + 1, k := (2 : Int), a := (2 : Int) * n + 5 + 2 * x.8 + 0, o := peek s.3 (2 * n + 5 + 2 * x.8 + 0), w := bif inB s.3 (2 * n + 5 + 2 * x.8 + 0) then WU x.3 else 0, ok := inB s.3 (2 * n + 5 + 2 * x.8 + 0) } })) (Tr.ite (ilt x.11 (W (x.5 + 1))) (Tr.ite (ilt x.11 (W (x.5 + 1))) (Tr.pre ((t = t ∧ n = n) ∧ List.length x.6 = List.length x.6 ∧ (0 : Int) ≠ (4 : Int) ∧ List.length (putI s.3 (2 * n + 5 + 2 * x.8 + 0) (WU x.3)) = List.length (putI s.3 (2 * n + 5 + 2 * x.8 + 0) (WU x.3))) (Tr.ret { d := true, x := { pred := (0 : Int), pw := (0 : Int), curr := (0 : Int), cw := (0 : Int), tries := W (x.5 + 1), ul := x.6, ab := ilt x.11 (W (x.5 + 1)), me := x.8, frm := x.9, key := x.10, limit := x.11, at' := (0 : Int), moved := W (x.13 + 1), cl := { addr := (0 : Int), at' := (0 : Int), word := (0 : Int), found := (0 : Int) } }, s := { t := s.1, n := s.2, xs := putI s.3 (2 * n + 5 + 2 * x.8 + 0) (WU x.3), c := s.4 + 1, k := (2 : Int), a := (2 : Int) * n + 5 + 2 * x.8 + 0, o := peek s.3 (2 * n + 5 + 2 * x.8 + 0), w := bif inB s.3 (2 * n + 5 + 2 * x.8 + 0) then WU x.3 else 0, ok := inB s.3 (2 * n + 5 + 2 * x.8 + 0) } })) (Tr.pre ((t = t ∧ n = n) ∧ List.length x.6 = List.length x.6 ∧ (0 : Int) ≠ (4 : Int) ∧ List.length (putI s.3 (2 * n + 5 + 2 * x.8 + 0) (WU x.3)) = List.length (putI s.3 (2 * n + 5 + 2 * x.8 + 0) (WU x.3))) (Tr.ret { d := false, x := { pred := x.9, pw := (0 : Int), curr := (0 : Int), cw := (0 : Int), tries := W (x.5 + 1), ul := x.6, ab := ilt x.11 (W (x.5 + 1)), me := x.8, frm := x.9, key := x.10, limit := x.11, at' := (0 : Int), moved := (0 : Int), cl := { addr := (0 : Int), at' := (0 : Int), word := (0 : Int), found := (0 : Int) } }, s := { t := s.1, n := s.2, xs := putI s.3 (2 * n + 5 + 2 * x.8 + 0) (WU x.3), c := s.4 + 1, k := (2 : Int), a := (2 : Int) * n + 5 + 2 * x.8 + 0, o := peek s.3 (2 * n + 5 + 2 * x.8 + 0), w := bif inB s.3 (2 * n + 5 + 2 * x.8 + 0) then WU x.3 else 0, ok := inB s.3 (2 * n + 5 + 2 * x.8 + 0) } }))) (Tr.ite (ilt x.11 (W (x.5 + 1))) (Tr.pre ((t = t ∧ n = n) ∧ List.length x.6 = List.length x.6 ∧ (0 : Int) ≠ (4 : Int) ∧ List.length (putI s.3 (2 * n + 5 + 2 * x.8 + 0) (WU x.3)) = List.length (putI s.3 (2 * n + 5 + 2 * x.8 + 0) (WU x.3))) (Tr.ret { d := true, x := { pred := x.3, pw := x.2, curr := x.3, cw := x.4, tries := W (x.5 + 1), ul := x.6, ab := ilt x.11 (W (x.5 + 1)), me := x.8, frm := x.9, key := x.10, limit := x.11, at' := (0 : Int), moved := W (x.13 + 1), cl := { addr := (0 : Int), at' := (0 : Int), word := (0 : Int), found := (0 : Int) } }, s := { t := s.1, n := s.2, xs := putI s.3 (2 * n + 5 + 2 * x.8 + 0) (WU x.3), c := s.4 + 1, k := (2 : Int), a := (2 : Int) * n + 5 + 2 * x.8 + 0, o := peek s.3 (2 * n + 5 + 2 * x.8 + 0), w := bif inB s.3 (2 * n + 5 + 2 * x.8 + 0) then WU x.3 else 0, ok := inB s.3 (2 * n + 5 + 2 * x.8 + 0) } })) (Tr.pre ((t = t ∧ n = n) ∧ List.length x.6 = List.length x.6 ∧ (0 : Int) ≠ (4 : Int) ∧ List.length (putI s.3 (2 * n + 5 + 2 * x.8 + 0) (WU x.3)) = List.length (putI s.3 (2 * n + 5 + 2 * x.8 + 0) (WU x.3))) (Tr.ret { d := false, x := { pred := x.9, pw := x.2, curr := x.3, cw := x.4, tries := W (x.5 + 1), ul := x.6, ab := ilt x.11 (W (x.5 + 1)), me := x.8, frm := x.9, key := x.10, limit := x.11, at' := (0 : Int), moved := (0 : Int), cl := { addr := (0 : Int), at' := (0 : Int), word := (0 : Int), found := (0 : Int) } }, s := { t := s.1, n := s.2, xs := putI s.3 (2 * n + 5 + 2 * x.8 + 0) (WU x.3), c := s.4 + 1, k := (2 : Int), a := (2 : Int) * n + 5 + 2 * x.8 + 0, o := peek s.3 (2 * n + 5 + 2 * x.8 + 0), w := bif inB s.3 (2 * n + 5 + 2 * x.8 + 0) then WU x.3 else 0, ok := inB s.3 (2 * n + 5 + 2 * x.8 + 0) } }))))))
theorem fnT_6_sum (t n : Int) (x : FNS) (s : MS) (K : FnO → Prop) (h : (fnT_6 t n x s).run K) : CallOk (obI tbl) Tryz.prog 88 [.ptr 0 0, .ptr 1 0] [some (.cells [.int .i64 t, .int .i64 n, .int .i64 x.pred, .int .u64 x.pw, .int .i64 x.curr, .int .u64 x.cw, .int .i64 x.tries, .slice 3 0 x.ul.length 1, .bool x.ab, .int .i64 x.me, .int .i64 x.frm, .int .i64 x.key, .int .i64 x.limit, .int .i64 6, .int .i64 x.moved, .top]), memC 2 s, memX s, some (.ints (some .i64) x.ul)] (LeafM 3 0 [15] [(.cell 0 7, .ints (some .i64))] (fnP t n) K) := by
  exact callOk_of (E := EC7) Tryz.checked.mixed (L := LL) (n := 10) (of_nf (q := (fnT_6 t n x s).run K) (by kernel_rfl) h)
def fnT (t n : Int) (x : FNS) (s : MS) : Tr FnO :=
  bif ieq x.at' 0 then fnT_0 t n x s else
  bif ieq x.at' 1 then fnT_1 t n x s else
  bif ieq x.at' 2 then fnT_2 t n x s else
  bif ieq x.at' 3 then fnT_3 t n x s else
  bif ieq x.at' 4 then fnT_4 t n x s else
  bif ieq x.at' 5 then fnT_5 t n x s else
  bif ieq x.at' 6 then fnT_6 t n x s else .pre False (.ret default)
def fnF (t n : Int) (x : FNS) (s : MS) : FnO := (fnT t n x s).val
def fnOk (t n : Int) (x : FNS) (s : MS) : Prop := (fnT t n x s).ok
theorem fn_step (t n : Int) (x : FNS) (s : MS) (K : AVal → Heap Ob → Prop) (h : (fnT t n x s).run (fun y => (FnO.fin t n y).run K)) : CallOk (obI tbl) Tryz.prog 88 [.ptr 0 0, .ptr 1 0] (fnH t n x s) K := by
  unfold fnT at h
  by_cases e : x.at' = 0
  · rw [e] at h
    have h : (fnT_0 t n x s).run _ := h
    refine CallOk.openM (root := 0) (pos := [15]) (cs := [(.cell 0 7, .ints (some .i64))]) (parse := fnP t n) (fin := FnO.fin t n) fnP_ok (Opens.unpack (.find t n x) 0 0 (findG0 t n x) [] rfl (congrArg (Prod.mk 0) (findG_no (by omega))) (by kernel_rfl) rfl) ?_
    have q := fnT_0_sum t n x s _ h
    rw [← e] at q
    exact q
  rw [ieq_n e] at h
  by_cases e : x.at' = 1
  · rw [e] at h
    have h : (fnT_1 t n x s).run _ := h
    refine CallOk.openM (root := 0) (pos := [15]) (cs := [(.cell 0 7, .ints (some .i64))]) (parse := fnP t n) (fin := FnO.fin t n) fnP_ok (Opens.unpack (.find t n x) 0 0 (findG0 t n x) [] rfl (congrArg (Prod.mk 0) (findG_no (by omega))) (by kernel_rfl) rfl) ?_
    have q := fnT_1_sum t n x s _ h
    rw [← e] at q
    exact q
  rw [ieq_n e] at h
  by_cases e : x.at' = 2
  · rw [e] at h
    have h : (fnT_2 t n x s).run _ := h
    refine CallOk.openM (root := 0) (pos := [15]) (cs := [(.cell 0 7, .ints (some .i64))]) (parse := fnP t n) (fin := FnO.fin t n) fnP_ok (Opens.unpack (.find t n x) 0 0 (findG0 t n x) [] rfl (congrArg (Prod.mk 0) (findG_no (by omega))) (by kernel_rfl) rfl) ?_
    have q := fnT_2_sum t n x s _ h
    rw [← e] at q
    exact q
  rw [ieq_n e] at h
  by_cases e : x.at' = 3
  · rw [e] at h
    have h : (fnT_3 t n x s).run _ := h
    refine CallOk.openM (root := 0) (pos := [15]) (cs := [(.cell 0 7, .ints (some .i64))]) (parse := fnP t n) (fin := FnO.fin t n) fnP_ok (Opens.unpack (.find t n x) 0 0 (findG0 t n x) [] rfl (congrArg (Prod.mk 0) (findG_no (by omega))) (by kernel_rfl) rfl) ?_
    have q := fnT_3_sum t n x s _ h
    rw [← e] at q
    exact q
  rw [ieq_n e] at h
  by_cases e : x.at' = 4
  · rw [e] at h
    have h : (fnT_4 t n x s).run _ := h
    refine CallOk.openM (root := 0) (pos := [15]) (cs := [(.cell 0 7, .ints (some .i64))]) (parse := fnP t n) (fin := FnO.fin t n) fnP_ok (Opens.unpack (.find t n x) 0 0 (findG_cl t n x) [] rfl (congrArg (Prod.mk 0) (findG_4 e)) (by kernel_rfl) rfl) ?_
    have q := fnT_4_sum t n x s _ h
    rw [← e] at q
    exact q
  rw [ieq_n e] at h
  by_cases e : x.at' = 5
  · rw [e] at h
    have h : (fnT_5 t n x s).run _ := h
    refine CallOk.openM (root := 0) (pos := [15]) (cs := [(.cell 0 7, .ints (some .i64))]) (parse := fnP t n) (fin := FnO.fin t n) fnP_ok (Opens.unpack (.find t n x) 0 0 (findG0 t n x) [] rfl (congrArg (Prod.mk 0) (findG_no (by omega))) (by kernel_rfl) rfl) ?_
    have q := fnT_5_sum t n x s _ h
    rw [← e] at q
    exact q
  rw [ieq_n e] at h
  by_cases e : x.at' = 6
  · rw [e] at h
    have h : (fnT_6 t n x s).run _ := h
    refine CallOk.openM (root := 0) (pos := [15]) (cs := [(.cell 0 7, .ints (some .i64))]) (parse := fnP t n) (fin := FnO.fin t n) fnP_ok (Opens.unpack (.find t n x) 0 0 (findG0 t n x) [] rfl (congrArg (Prod.mk 0) (findG_no (by omega))) (by kernel_rfl) rfl) ?_
    have q := fnT_6_sum t n x s _ h
    rw [← e] at q
    exact q
  rw [ieq_n e] at h
  exact h.1.elim
noncomputable def fnS : Spec Ob := fun args h => match args, h with
  | [.ptr 0 0, .ptr 1 0], [some (.abs (.find t n x) []), e1, e2] => (match memL 2 [e1, e2] with
    | some (l, s) => some (.pre (l = s.xs.length ∧ fnOk t n x s) (FnO.fin t n (fnF t n x s)))
    | none => none)
  | _, _ => none
theorem fn_ok : Spec.ok (obI tbl) Tryz.prog 88 fnS := by
  intro args h o ho K hK
  unfold fnS at ho
  split at ho
  case h_2 => cases ho
  split at ho
  case h_2 => cases ho
  rename_i hm
  simp only [Option.some.injEq] at ho; subst ho
  obtain ⟨⟨hl, ok⟩, hK⟩ := hK
  have hh := memL_eq hm hl
  simp only [List.cons.injEq, and_true] at hh
  obtain ⟨rfl, rfl⟩ := hh
  exact fn_step _ _ _ _ K (Tr.run_of ok hK)
def fnNP (t n : Int) (v : AVal) (g : Heap Ob) : Option (Prop × FNS) := match v, g with
  | .ptr 0 0, [some (.cells [.int .i64 t1, .int .i64 n1, .int .i64 pred, .int .u64 pw, .int .i64 curr, .int .u64 cw, .int .i64 tries, .slice 1 0 ul_l 1, .bool ab, .int .i64 me, .int .i64 frm, .int .i64 key, .int .i64 limit, .int .i64 at', .int .i64 moved, .top]), some (.ints (some .i64) ul)] => some ((t1 = t ∧ n1 = n) ∧ ul_l = ul.length ∧ (at' ≠ 4), (⟨pred, pw, curr, cw, tries, ul, ab, me, frm, key, limit, at', moved, ⟨0, 0, 0, 0⟩⟩ : FNS))
  | _, _ => none
abbrev fnNH (t n : Int) (y : FNS) : Heap Ob := [some (.abs (.find t n y) [])]
theorem fnNP_ok {t n : Int} : Reads (obI tbl) 0 (fnNP t n) (fun y => .ret (.ptr 0 0) (fnNH t n y)) := by
  intro v g p x hp hq K hK
  unfold fnNP at hp
  split at hp
  case h_2 => cases hp
  rename_i t1 n1 pred pw curr cw tries ul_l ab me frm key limit at' moved ul
  simp only [Option.some.injEq, Prod.mk.injEq] at hp
  obtain ⟨rfl, rfl⟩ := hp
  obtain ⟨⟨rfl, rfl⟩, rfl, hat⟩ := hq
  exact ⟨⟨_, _, Tells.pack (fnNH t1 n1 (⟨pred, pw, curr, cw, tries, ul, ab, me, frm, key, limit, at', moved, ⟨0, 0, 0, 0⟩⟩ : FNS)) (.find t1 n1 (⟨pred, pw, curr, cw, tries, ul, ab, me, frm, key, limit, at', moved, ⟨0, 0, 0, 0⟩⟩ : FNS)) 0 0 (findG0 t1 n1 (⟨pred, pw, curr, cw, tries, ul, ab, me, frm, key, limit, at', moved, ⟨0, 0, 0, 0⟩⟩ : FNS)) [] (by kernel_rfl) rfl (congrArg (Prod.mk 0) (findG_no hat)) (by kernel_rfl), hK⟩⟩
def fnNT (t n : Int) (me hd key lim : Int) : Tr FNS := Tr.pre (((0 : Int) ≤ n ∧ n ≤ (100000 : Int)) ∧ (-1000000 : Int) ≤ hd ∧ hd ≤ (1000000 : Int)) (Tr.pre (((0 : Int) ≤ n ∧ n ≤ (100000 : Int)) ∧ (-1000000 : Int) ≤ hd ∧ hd ≤ (1000000 : Int)) (Tr.pre ((t = t ∧ n = n) ∧ 0 = 0 ∧ (0 : Int) ≠ (4 : Int)) (Tr.ret { pred := n + 1 + hd, pw := (0 : Int), curr := (0 : Int), cw := (0 : Int), tries := (0 : Int), ul := [], ab := false, me := me, frm := n + 1 + hd, key := key, limit := lim, at' := (0 : Int), moved := (0 : Int), cl := { addr := (0 : Int), at' := (0 : Int), word := (0 : Int), found := (0 : Int) } })))
def fnNF (t n : Int) (me hd key lim : Int) : FNS := (fnNT t n me hd key lim).val
def fnNOk (t n : Int) (me hd key lim : Int) : Prop := (fnNT t n me hd key lim).ok
def fnNS : Spec Ob := fun args h => match args, h with
  | [.agg [.int .i64 t, .int .i64 n], .int .i64 me, .int .i64 hd, .int .i64 key, .int .i64 lim], [] => some (.pre (fnNOk t n me hd key lim) (.ret (.ptr 0 0) (fnNH t n (fnNF t n me hd key lim))))
  | _, _ => none
theorem fnN_ok : Spec.ok (obI tbl) Tryz.prog 66 fnNS := by
  intro args h o ho K hK
  unfold fnNS at ho
  split at ho
  case h_2 => cases ho
  rename_i t n me hd key lim
  simp only [Option.some.injEq] at ho; subst ho
  obtain ⟨ok, hK⟩ := hK
  refine CallOk.plainM (root := 0) (pos := [15]) (cs := [(.cell 0 7, .ints (some .i64))]) (parse := fnNP t n) fnNP_ok ?_
  exact callOk_of (E := EC7) Tryz.checked.mixed (L := LL) (n := 10) (of_nf (q := (fnNT t n me hd key lim).run (fun y => (Out.ret (.ptr 0 0) (fnNH t n y)).run K)) (by kernel_rfl) (Tr.run_of ok hK))
noncomputable def EF := ((EC7.addS 88 fnS fn_ok).addS 66 fnNS fnN_ok)
end Go.Sh

namespace Go.Sh
open Go Go.Proofs
variable [Con]
def retC : Spec Ob := fun args h => match args, h with
  | [.ptr 0 0, .slice 2 0 k 1], [e1, e2, some (.cells [.int .i64 p])] => (match stL 1 [e1, e2] with
    | some (l, t, n, st) => some (.pre (l = st.R.length ∧ k = 1 ∧ st.R.length + 1 ≤ 4294967296) (.ret (.tup []) [some (.cells [.int .i64 t, .int .i64 n, .int .i64 st.me, .int .i64 st.sp, .slice 3 0 (st.R.length + 1) 1]), none, some (.cells [.int .i64 p]), some (.ints (some .i64) (st.R ++ [p]))]))
    | none => none)
  | _, _ => none
theorem retC_ok : Spec.ok (obI tbl) Tryz.prog 35 retC := by
  intro args h o ho K hK
  unfold retC at ho
  split at ho
  case h_2 => cases ho
  rename_i k e1 e2 p
  split at ho
  case h_2 => cases ho
  rename_i l t n st hs
  simp only [Option.some.injEq] at ho; subst ho
  obtain ⟨⟨hl, rfl, hle⟩, hK⟩ := hK
  have hh := stL_eq hs hl
  simp only [List.cons.injEq, and_true] at hh
  obtain ⟨rfl, rfl⟩ := hh
  refine CallOk.trim (callOk_of (E := EF) Tryz.checked.mixed (L := LL) (n := 10) (of_nf (q := (0 = 0 ∧ List.length st.3 = List.length st.3 ∧ 1 = 1 ∧ List.length st.3 + (1 : Nat) ≤ (4294967296 : Nat)) ∧ K (AVal.tup []) [some (Entry.cells [AVal.int .i64 t, AVal.int .i64 n, AVal.int .i64 st.1, AVal.int .i64 st.2, AVal.slice 3 0 (List.length st.3 + 1) 1]), none, some (Entry.cells [AVal.int .i64 p]), some (Entry.ints (some .i64) (st.3 ++ [p]))]) (by kernel_rfl) ?_))
  exact ⟨⟨rfl, rfl, rfl, hle⟩, hK⟩
def retI : Spec Ob := fun args h => match args, h with
  | [.ptr 0 0, .slice 2 0 k 1], [e1, e2, some (.ints (some .i64) xs)] => (match stL 1 [e1, e2] with
    | some (l, t, n, st) => some (.pre (l = st.R.length ∧ k = xs.length ∧ st.R.length + xs.length ≤ 4294967296) (.ret (.tup []) [some (.cells [.int .i64 t, .int .i64 n, .int .i64 st.me, .int .i64 st.sp, .slice 3 0 (st.R.length + xs.length) 1]), none, some (.ints (some .i64) xs), some (.ints (some .i64) (st.R ++ xs))]))
    | none => none)
  | _, _ => none
theorem retI_ok : Spec.ok (obI tbl) Tryz.prog 35 retI := by
  intro args h o ho K hK
  unfold retI at ho
  split at ho
  case h_2 => cases ho
  rename_i k e1 e2 xs
  split at ho
  case h_2 => cases ho
  rename_i l t n st hs
  simp only [Option.some.injEq] at ho; subst ho
  obtain ⟨⟨hl, rfl, hle⟩, hK⟩ := hK
  have hh := stL_eq hs hl
  simp only [List.cons.injEq, and_true] at hh
  obtain ⟨rfl, rfl⟩ := hh
  refine CallOk.trim (callOk_of (E := EF) Tryz.checked.mixed (L := LL) (n := 10) (of_nf (q := (0 + List.length xs ≤ List.length xs ∧ 0 = 0 ∧ List.length st.3 = List.length st.3 ∧ 1 = 1 ∧ List.length st.3 + List.length xs ≤ (4294967296 : Nat)) ∧ K (AVal.tup []) [some (Entry.cells [AVal.int .i64 t, AVal.int .i64 n, AVal.int .i64 st.1, AVal.int .i64 st.2, AVal.slice 3 0 (List.length st.3 + List.length xs) 1]), none, some (Entry.ints (some .i64) xs), some (Entry.ints (some .i64) (st.3 ++ List.take (List.length xs) (List.drop 0 xs)))]) (by kernel_rfl) ?_))
  refine ⟨⟨by omega, rfl, rfl, rfl, hle⟩, ?_⟩
  rw [List.drop_zero, List.take_length]
  exact hK
noncomputable def retS : Spec Ob := Spec.or retC retI
theorem ret_ok : Spec.ok (obI tbl) Tryz.prog 35 retS := Spec.or_ok retC_ok retI_ok
noncomputable def ER := EF.addS 35 retS ret_ok
end Go.Sh

namespace Go.Sh
open Go Go.Proofs
variable [Con]
structure FtO where
  d : Bool
  x : FTS
  st : STS
  s : MS
instance : Inhabited FtO := ⟨⟨false, ⟨0, false, 0, false, 0, 0, 0, 0, 0, 0, ⟨false, 0, false, 0, 0, 0, 0, false, 0⟩, ⟨0, 0, 0, 0, 0, [], false, 0, 0, 0, 0, 0, 0, ⟨0, 0, 0, 0⟩⟩, ⟨0, 0, 0, 0⟩, ⟨0, 0, 0, false⟩⟩, ⟨0, 0, []⟩, ⟨0, 0, [], 0, 0, 0, 0, 0, false⟩⟩⟩
instance : Inhabited FTS := ⟨⟨0, false, 0, false, 0, 0, 0, 0, 0, 0, ⟨false, 0, false, 0, 0, 0, 0, false, 0⟩, ⟨0, 0, 0, 0, 0, [], false, 0, 0, 0, 0, 0, 0, ⟨0, 0, 0, 0⟩⟩, ⟨0, 0, 0, 0⟩, ⟨0, 0, 0, false⟩⟩⟩
abbrev ftH (t n : Int) (x : FTS) (st : STS) (s : MS) : Heap Ob := [some (.abs (.fast t n x) [1]), some (.abs (.store t n st) []), memC 3 s, memX s]
abbrev ftD (t n : Int) (x : FTS) (st : STS) (s : MS) : Heap Ob := [some (.cells [.ptr 1 0, .int .i64 x.code, .bool x.okk, .int .i64 x.val, .bool x.failed, .int .i64 x.tries, .int .i64 x.sh, .int .i64 x.kd, .int .i64 x.ky, .int .i64 x.most, .int .i64 x.at', .bool x.p.now, .int .i64 x.p.code, .bool x.p.okk, .int .i64 x.p.val, .int .i64 x.p.addr, .int .u64 x.p.old, .int .i64 x.p.nxt, .bool x.p.mark, .int .i64 x.p.pops, .top, .top, .top]), some (.abs (.store t n st) []), memC 3 s, memX s]
def FtO.fin (t n : Int) (y : FtO) : Out Ob := .ite y.d (.ret (.bool true) (ftD t n y.x y.st y.s)) (.ret (.bool false) (ftH t n y.x y.st y.s))
def FtO.finB (t n : Int) (y : FtO) : Out Ob := .ite y.d (.ret (.bool true) ([some (.cells [.ptr 1 0, .int .i64 y.x.code, .bool y.x.okk, .int .i64 y.x.val, .bool y.x.failed, .int .i64 y.x.tries, .int .i64 y.x.sh, .int .i64 y.x.kd, .int .i64 y.x.ky, .int .i64 y.x.most, .int .i64 y.x.at', .bool y.x.p.now, .int .i64 y.x.p.code, .bool y.x.p.okk, .int .i64 y.x.p.val, .int .i64 y.x.p.addr, .int .u64 y.x.p.old, .int .i64 y.x.p.nxt, .bool y.x.p.mark, .int .i64 y.x.p.pops, .top, .top, .top]), stC 5 t n y.st, none, memC 4 y.s, memX y.s, stX y.st])) (.ret (.bool false) [some (.abs (.fast t n y.x) [1]), stC 5 t n y.st, none, memC 4 y.s, memX y.s, stX y.st])
noncomputable def ET := ((ER))
end Go.Sh

namespace Go.Sh
open Go Go.Proofs
variable [Con]
def hdescS : RSpec Ob := fun args h => match args, h with
  | [.ptr 0 0], [some (.cells [.ptr 1 0, .int .i64 u, .int .u64 no, .int .i64 rounds, .int .i64 limit, .int .i64 at', .int .u64 found, .int .i64 sh, .int .i64 kd, .int .i64 ky, .bool p_now, .int .i64 p_code, .bool p_okk, .int .i64 p_val, .int .i64 p_addr, .int .u64 p_old, .int .i64 p_nxt, .bool p_mark, .int .i64 p_pops, .top, .top, .top, .top, .top]), some (.cells [.int .i64 t, .int .i64 n, .int .i64 me, .int .i64 sp, .slice 2 0 k 1]), some (.ints (some .i64) R)] => some (True, .agg [.int .i64 (cutI found 0 12), .int .i64 (cutI found 12 9), .int .i64 (cutI found 21 18), .int .i64 (cutI found 39 9), .bool (ieq (cutI found 48 1) 1), .int .i64 (cutI found 49 3), .int .i64 (cutI found 52 10)])
  | _, _ => none
theorem hdesc_ok : Spec.ok (obI tbl) Tryz.prog 167 hdescS.spec := by
  intro args h o ho K hK
  unfold RSpec.spec hdescS at ho
  split at ho
  case h_2 => cases ho
  rename_i p v hp
  split at hp
  case h_2 => cases hp
  rename_i u no rounds limit at' found sh kd ky p_now p_code p_okk p_val p_addr p_old p_nxt p_mark p_pops t n me sp k R
  simp only [Option.some.injEq, Prod.mk.injEq] at hp
  obtain ⟨rfl, rfl⟩ := hp
  simp only [Option.some.injEq] at ho; subst ho
  obtain ⟨hp, hK⟩ := hK
  have hK : K (.agg [.int .i64 (cutI found 0 12), .int .i64 (cutI found 12 9), .int .i64 (cutI found 21 18), .int .i64 (cutI found 39 9), .bool (ieq (cutI found 48 1) 1), .int .i64 (cutI found 49 3), .int .i64 (cutI found 52 10)]) [some (.cells [.ptr 1 0, .int .i64 u, .int .u64 no, .int .i64 rounds, .int .i64 limit, .int .i64 at', .int .u64 found, .int .i64 sh, .int .i64 kd, .int .i64 ky, .bool p_now, .int .i64 p_code, .bool p_okk, .int .i64 p_val, .int .i64 p_addr, .int .u64 p_old, .int .i64 p_nxt, .bool p_mark, .int .i64 p_pops, .top, .top, .top, .top, .top]), some (.cells [.int .i64 t, .int .i64 n, .int .i64 me, .int .i64 sp, .slice 2 0 k 1]), some (.ints (some .i64) R)] := hK
  refine CallOk.trim (callOk_of (E := ET) Tryz.checked.mixed (L := LL) (n := 10) (of_nf (q := True ∧ K (AVal.agg [AVal.int .i64 (cutI found 0 12), AVal.int .i64 (cutI found 12 9), AVal.int .i64 (cutI found 21 18), AVal.int .i64 (cutI found 39 9), AVal.bool (ieq (cutI found 48 1) 1), AVal.int .i64 (cutI found 49 3), AVal.int .i64 (cutI found 52 10)]) [some (Entry.cells [AVal.ptr 1 0, AVal.int .i64 u, AVal.int .u64 no, AVal.int .i64 rounds, AVal.int .i64 limit, AVal.int .i64 at', AVal.int .u64 found, AVal.int .i64 sh, AVal.int .i64 kd, AVal.int .i64 ky, AVal.bool p_now, AVal.int .i64 p_code, AVal.bool p_okk, AVal.int .i64 p_val, AVal.int .i64 p_addr, AVal.int .u64 p_old, AVal.int .i64 p_nxt, AVal.bool p_mark, AVal.int .i64 p_pops, AVal.top, AVal.top, AVal.top, AVal.top, AVal.top]), some (Entry.cells [AVal.int .i64 t, AVal.int .i64 n, AVal.int .i64 me, AVal.int .i64 sp, AVal.slice 2 0 k 1]), some (Entry.ints (some .i64) R)]) (by kernel_rfl) ?_))
  exact ⟨trivial, hK⟩
noncomputable def EH0 := ET.addR 167 hdescS hdesc_ok
end Go.Sh

