import Derived.Test.YtebhcmbdpifodaaZM0toGC3
set_option linter.all false
namespace Go.Sh
open Go Go.Proofs
variable [Con]
structure AnO where
  d : Bool
  x : ANS
  s : MS
instance : Inhabited AnO := ⟨⟨false, ⟨0, 0, 0, 0, false, 0⟩, ⟨0, 0, [], 0, 0, 0, 0, 0, false⟩⟩⟩
instance : Inhabited ANS := ⟨⟨0, 0, 0, 0, false, 0⟩⟩
abbrev anH (t n : Int) (x : ANS) (s : MS) : Heap Ob := [some (.abs (.announce t n x) []), memC 2 s, memX s]
abbrev anD (t n : Int) (x : ANS) (s : MS) : Heap Ob := [some (.cells [.int .i64 t, .int .i64 n, .int .u64 x.no, .int .i64 x.me, .int .i64 x.at', .int .u64 x.bits, .bool x.wrong, .int .u64 x.found]), memC 2 s, memX s]
def AnO.fin (t n : Int) (y : AnO) : Out Ob := .ite y.d (.ret (.bool true) (anD t n y.x y.s)) (.ret (.bool false) (anH t n y.x y.s))
def anP0 (t n : Int) (v : AVal) (g : Heap Ob) : Option (Prop × AnO) := match v, g with
  | .bool d, [some (.cells [.int .i64 t1, .int .i64 n1, .int .u64 no, .int .i64 me, .int .i64 at', .int .u64 bits, .bool wrong, .int .u64 found]), e1, e2] => (match memL 2 [e1, e2] with
    | some (l, s) => some ((t1 = t ∧ n1 = n) ∧ l = s.xs.length, ⟨d, ⟨no, me, at', bits, wrong, found⟩, s⟩)
    | none => none)
  | _, _ => none
def anP (t n : Int) (v : AVal) (g : Heap Ob) : Option (Prop × AnO) := anP0 t n v g
theorem anP0_ok {t n : Int} : Reads (obI tbl) 3 (anP0 t n) (AnO.fin t n) := by
  intro v g p x hp hq K hK
  unfold anP0 at hp
  split at hp
  case h_2 => cases hp
  rename_i d t1 n1 no me at' bits wrong found e1 e2
  split at hp
  case h_2 => cases hp
  rename_i l s hm
  simp only [Option.some.injEq, Prod.mk.injEq] at hp
  obtain ⟨rfl, rfl⟩ := hp
  obtain ⟨⟨rfl, rfl⟩, hl⟩ := hq
  have hh := memL_eq hm hl
  simp only [List.cons.injEq, and_true] at hh
  obtain ⟨rfl, rfl⟩ := hh
  refine read2 hK (fun h => ?_) (fun h => ?_)
  · exact ⟨⟨_, _, Tells.refl _ _ _, h⟩⟩
  · exact ⟨⟨_, _, (Tells.pack (anH t1 n1 (⟨no, me, at', bits, wrong, found⟩ : ANS) s) (.announce t1 n1 (⟨no, me, at', bits, wrong, found⟩ : ANS)) 0 0 (announceG0 t1 n1 (⟨no, me, at', bits, wrong, found⟩ : ANS)) [] (by kernel_rfl) rfl (congrArg (Prod.mk 0) rfl) (by kernel_rfl)), h⟩⟩
theorem anP_ok {t n : Int} : Reads (obI tbl) 3 (anP t n) (AnO.fin t n) := by
  intro v g p x hp hq K hK
  unfold anP at hp
  exact anP0_ok v g p x hp hq K hK
def anT_0 (t n : Int) (x : ANS) (s : MS) : Tr AnO := .ite x.5 (.pre (List.length s.3 = List.length s.3 ∧ (0 : Int) ≤ s.4 ∧ s.4 ≤ (4611686018427387904 : Int)) (.pre ((t = t ∧ n = n) ∧ List.length s.3 = List.length s.3) (.ret { d := true, x := { no := x.1, me := x.2, at' := 0, bits := x.4, wrong := x.5, found := x.6 }, s := { t := s.1, n := s.2, xs := s.3, c := s.4 + 1, k := 1, a := 0, o := peek s.3 0, w := peek s.3 0, ok := inB s.3 0 } }))) (.pre ((((0 : Int) ≤ t ∧ t ≤ (100000 : Int)) ∧ ((0 : Int) ≤ n ∧ n ≤ (100000 : Int)) ∧ (-1099511627776 : Int) ≤ x.2 ∧ x.2 ≤ (1099511627776 : Int)) ∧ True) (.pre ((List.length s.3 = List.length s.3 ∧ (0 : Int) ≤ s.4 ∧ s.4 ≤ (4611686018427387904 : Int)) ∧ True) (.pre ((t = t ∧ n = n) ∧ List.length (putI s.3 (2 * n + 5 + 2 * t + 3 * x.2 + 1) x.4) = List.length (putI s.3 (2 * n + 5 + 2 * t + 3 * x.2 + 1) x.4)) (.ret { d := false, x := { no := x.1, me := x.2, at' := W (0 + 1), bits := x.4, wrong := x.5, found := x.6 }, s := { t := s.1, n := s.2, xs := putI s.3 (2 * n + 5 + 2 * t + 3 * x.2 + 1) x.4, c := s.4 + 1, k := 2, a := 2 * n + 5 + 2 * t + 3 * x.2 + 1, o := peek s.3 (2 * n + 5 + 2 * t + 3 * x.2 + 1), w := bif inB s.3 (2 * n + 5 + 2 * t + 3 * x.2 + 1) then x.4 else 0, ok := inB s.3 (2 * n + 5 + 2 * t + 3 * x.2 + 1) } }))))
theorem anT_0_sum (t n : Int) (x : ANS) (s : MS) (K : AnO → Prop) (h : (anT_0 t n x s).run K) : CallOk (obI tbl) Try.prog 9 [.ptr 0 0, .ptr 1 0] [some (.cells [.int .i64 t, .int .i64 n, .int .u64 x.no, .int .i64 x.me, .int .i64 0, .int .u64 x.bits, .bool x.wrong, .int .u64 x.found]), memC 2 s, memX s] (LeafM 3 0 [] [] (anP t n) K) := by
  exact callOk_of (E := EC3) Try.checked.mixed (L := LL) (n := 10) (of_nf (q := (anT_0 t n x s).run K) (by kernel_rfl) h)
def anT_1 (t n : Int) (x : ANS) (s : MS) : Tr AnO := .ite x.5 (.pre (List.length s.3 = List.length s.3 ∧ (0 : Int) ≤ s.4 ∧ s.4 ≤ (4611686018427387904 : Int)) (.pre ((t = t ∧ n = n) ∧ List.length s.3 = List.length s.3) (.ret { d := true, x := { no := x.1, me := x.2, at' := 1, bits := x.4, wrong := x.5, found := x.6 }, s := { t := s.1, n := s.2, xs := s.3, c := s.4 + 1, k := 1, a := 0, o := peek s.3 0, w := peek s.3 0, ok := inB s.3 0 } }))) (.pre (((0 : Int) ≤ t ∧ t ≤ (100000 : Int)) ∧ (0 : Int) ≤ n ∧ n ≤ (100000 : Int)) (.pre (List.length s.3 = List.length s.3 ∧ (0 : Int) ≤ s.4 ∧ s.4 ≤ (4611686018427387904 : Int)) (.pre ((t = t ∧ n = n) ∧ List.length (putI s.3 (2 * n + 5 + 2 * t + 3 * t) (WU (peek s.3 (2 * n + 5 + 2 * t + 3 * t) + 1))) = List.length (putI s.3 (2 * n + 5 + 2 * t + 3 * t) (WU (peek s.3 (2 * n + 5 + 2 * t + 3 * t) + 1)))) (.ret { d := false, x := { no := WU (peek s.3 (2 * n + 5 + 2 * t + 3 * t) + 1), me := x.2, at' := W (1 + 1), bits := x.4, wrong := x.5, found := x.6 }, s := { t := s.1, n := s.2, xs := putI s.3 (2 * n + 5 + 2 * t + 3 * t) (WU (peek s.3 (2 * n + 5 + 2 * t + 3 * t) + 1)), c := s.4 + 1, k := 4, a := 2 * n + 5 + 2 * t + 3 * t, o := peek s.3 (2 * n + 5 + 2 * t + 3 * t), w := bif inB s.3 (2 * n + 5 + 2 * t + 3 * t) then WU (peek s.3 (2 * n + 5 + 2 * t + 3 * t) + 1) else 0, ok := inB s.3 (2 * n + 5 + 2 * t + 3 * t) } }))))
theorem anT_1_sum (t n : Int) (x : ANS) (s : MS) (K : AnO → Prop) (h : (anT_1 t n x s).run K) : CallOk (obI tbl) Try.prog 9 [.ptr 0 0, .ptr 1 0] [some (.cells [.int .i64 t, .int .i64 n, .int .u64 x.no, .int .i64 x.me, .int .i64 1, .int .u64 x.bits, .bool x.wrong, .int .u64 x.found]), memC 2 s, memX s] (LeafM 3 0 [] [] (anP t n) K) := by
  exact callOk_of (E := EC3) Try.checked.mixed (L := LL) (n := 10) (of_nf (q := (anT_1 t n x s).run K) (by kernel_rfl) h)
def anT_2 (t n : Int) (x : ANS) (s : MS) : Tr AnO := .ite x.5 (.pre (List.length s.3 = List.length s.3 ∧ (0 : Int) ≤ s.4 ∧ s.4 ≤ (4611686018427387904 : Int)) (.pre ((t = t ∧ n = n) ∧ List.length s.3 = List.length s.3) (.ret { d := true, x := { no := x.1, me := x.2, at' := 2, bits := x.4, wrong := x.5, found := x.6 }, s := { t := s.1, n := s.2, xs := s.3, c := s.4 + 1, k := 1, a := 0, o := peek s.3 0, w := peek s.3 0, ok := inB s.3 0 } }))) (.pre ((((0 : Int) ≤ t ∧ t ≤ (100000 : Int)) ∧ ((0 : Int) ≤ n ∧ n ≤ (100000 : Int)) ∧ (-1099511627776 : Int) ≤ x.2 ∧ x.2 ≤ (1099511627776 : Int)) ∧ True) (.pre ((List.length s.3 = List.length s.3 ∧ (0 : Int) ≤ s.4 ∧ s.4 ≤ (4611686018427387904 : Int)) ∧ True) (.pre ((t = t ∧ n = n) ∧ List.length (putI s.3 (2 * n + 5 + 2 * t + 3 * x.2) x.1) = List.length (putI s.3 (2 * n + 5 + 2 * t + 3 * x.2) x.1)) (.ret { d := false, x := { no := x.1, me := x.2, at' := W (2 + 1), bits := x.4, wrong := x.5, found := x.6 }, s := { t := s.1, n := s.2, xs := putI s.3 (2 * n + 5 + 2 * t + 3 * x.2) x.1, c := s.4 + 1, k := 2, a := 2 * n + 5 + 2 * t + 3 * x.2, o := peek s.3 (2 * n + 5 + 2 * t + 3 * x.2), w := bif inB s.3 (2 * n + 5 + 2 * t + 3 * x.2) then x.1 else 0, ok := inB s.3 (2 * n + 5 + 2 * t + 3 * x.2) } }))))
theorem anT_2_sum (t n : Int) (x : ANS) (s : MS) (K : AnO → Prop) (h : (anT_2 t n x s).run K) : CallOk (obI tbl) Try.prog 9 [.ptr 0 0, .ptr 1 0] [some (.cells [.int .i64 t, .int .i64 n, .int .u64 x.no, .int .i64 x.me, .int .i64 2, .int .u64 x.bits, .bool x.wrong, .int .u64 x.found]), memC 2 s, memX s] (LeafM 3 0 [] [] (anP t n) K) := by
  exact callOk_of (E := EC3) Try.checked.mixed (L := LL) (n := 10) (of_nf (q := (anT_2 t n x s).run K) (by kernel_rfl) h)
def anT_3 (t n : Int) (x : ANS) (s : MS) : Tr AnO := .ite x.5 (.pre (List.length s.3 = List.length s.3 ∧ (0 : Int) ≤ s.4 ∧ s.4 ≤ (4611686018427387904 : Int)) (.pre ((t = t ∧ n = n) ∧ List.length s.3 = List.length s.3) (.ret { d := true, x := { no := x.1, me := x.2, at' := 3, bits := x.4, wrong := x.5, found := x.6 }, s := { t := s.1, n := s.2, xs := s.3, c := s.4 + 1, k := 1, a := 0, o := peek s.3 0, w := peek s.3 0, ok := inB s.3 0 } }))) (.pre ((((0 : Int) ≤ t ∧ t ≤ (100000 : Int)) ∧ ((0 : Int) ≤ n ∧ n ≤ (100000 : Int)) ∧ (-1099511627776 : Int) ≤ x.2 ∧ x.2 ≤ (1099511627776 : Int)) ∧ True) (.pre ((List.length s.3 = List.length s.3 ∧ (0 : Int) ≤ s.4 ∧ s.4 ≤ (4611686018427387904 : Int)) ∧ True) (.pre ((t = t ∧ n = n) ∧ List.length s.3 = List.length s.3) (.ret { d := false, x := { no := x.1, me := x.2, at' := W (3 + 1), bits := x.4, wrong := x.5, found := peek s.3 (2 * n + 5 + 2 * t + 3 * x.2 + 2) }, s := { t := s.1, n := s.2, xs := s.3, c := s.4 + 1, k := 1, a := 2 * n + 5 + 2 * t + 3 * x.2 + 2, o := peek s.3 (2 * n + 5 + 2 * t + 3 * x.2 + 2), w := peek s.3 (2 * n + 5 + 2 * t + 3 * x.2 + 2), ok := inB s.3 (2 * n + 5 + 2 * t + 3 * x.2 + 2) } }))))
theorem anT_3_sum (t n : Int) (x : ANS) (s : MS) (K : AnO → Prop) (h : (anT_3 t n x s).run K) : CallOk (obI tbl) Try.prog 9 [.ptr 0 0, .ptr 1 0] [some (.cells [.int .i64 t, .int .i64 n, .int .u64 x.no, .int .i64 x.me, .int .i64 3, .int .u64 x.bits, .bool x.wrong, .int .u64 x.found]), memC 2 s, memX s] (LeafM 3 0 [] [] (anP t n) K) := by
  exact callOk_of (E := EC3) Try.checked.mixed (L := LL) (n := 10) (of_nf (q := (anT_3 t n x s).run K) (by kernel_rfl) h)
def anT_4 (t n : Int) (x : ANS) (s : MS) : Tr AnO := .ite x.5 (.pre (List.length s.3 = List.length s.3 ∧ (0 : Int) ≤ s.4 ∧ s.4 ≤ (4611686018427387904 : Int)) (.pre ((t = t ∧ n = n) ∧ List.length s.3 = List.length s.3) (.ret { d := true, x := { no := x.1, me := x.2, at' := 4, bits := x.4, wrong := x.5, found := x.6 }, s := { t := s.1, n := s.2, xs := s.3, c := s.4 + 1, k := 1, a := 0, o := peek s.3 0, w := peek s.3 0, ok := inB s.3 0 } }))) (.pre True (.pre ((0 : Int) ≤ cutI x.6 0 12 ∧ cutI x.6 0 (12 : Int) ≤ (1000000 : Int)) (.pre True (.pre ((((0 : Int) ≤ t ∧ t ≤ (100000 : Int)) ∧ ((0 : Int) ≤ n ∧ n ≤ (100000 : Int)) ∧ (-1099511627776 : Int) ≤ x.2 ∧ x.2 ≤ (1099511627776 : Int)) ∧ True) (.pre ((List.length s.3 = List.length s.3 ∧ (0 : Int) ≤ s.4 ∧ s.4 ≤ (4611686018427387904 : Int)) ∧ True) (.pre ((t = t ∧ n = n) ∧ List.length (putI s.3 (2 * n + 5 + 2 * t + 3 * x.2 + 2) (bif dOk (attI (cutI x.6 0 12)) 0 0 0 1 0 then dPutV (attI (cutI x.6 0 12)) 0 0 0 false 1 0 else 0)) = List.length (putI s.3 (2 * n + 5 + 2 * t + 3 * x.2 + 2) (bif dOk (attI (cutI x.6 0 12)) 0 0 0 1 0 then dPutV (attI (cutI x.6 0 12)) 0 0 0 false 1 0 else 0))) (.ret { d := true, x := { no := x.1, me := x.2, at' := W (4 + 1), bits := x.4, wrong := x.5, found := x.6 }, s := { t := s.1, n := s.2, xs := putI s.3 (2 * n + 5 + 2 * t + 3 * x.2 + 2) (bif dOk (attI (cutI x.6 0 12)) 0 0 0 1 0 then dPutV (attI (cutI x.6 0 12)) 0 0 0 false 1 0 else 0), c := s.4 + 1, k := 2, a := 2 * n + 5 + 2 * t + 3 * x.2 + 2, o := peek s.3 (2 * n + 5 + 2 * t + 3 * x.2 + 2), w := bif inB s.3 (2 * n + 5 + 2 * t + 3 * x.2 + 2) then bif dOk (attI (cutI x.6 0 12)) 0 0 0 1 0 then dPutV (attI (cutI x.6 0 12)) 0 0 0 false 1 0 else 0 else 0, ok := inB s.3 (2 * n + 5 + 2 * t + 3 * x.2 + 2) } })))))))
theorem anT_4_sum (t n : Int) (x : ANS) (s : MS) (K : AnO → Prop) (h : (anT_4 t n x s).run K) : CallOk (obI tbl) Try.prog 9 [.ptr 0 0, .ptr 1 0] [some (.cells [.int .i64 t, .int .i64 n, .int .u64 x.no, .int .i64 x.me, .int .i64 4, .int .u64 x.bits, .bool x.wrong, .int .u64 x.found]), memC 2 s, memX s] (LeafM 3 0 [] [] (anP t n) K) := by
  exact callOk_of (E := EC3) Try.checked.mixed (L := LL) (n := 10) (of_nf (q := (anT_4 t n x s).run K) (by kernel_rfl) h)
def anT (t n : Int) (x : ANS) (s : MS) : Tr AnO :=
  bif ieq x.at' 0 then anT_0 t n x s else
  bif ieq x.at' 1 then anT_1 t n x s else
  bif ieq x.at' 2 then anT_2 t n x s else
  bif ieq x.at' 3 then anT_3 t n x s else
  bif ieq x.at' 4 then anT_4 t n x s else .pre False (.ret default)
def anF (t n : Int) (x : ANS) (s : MS) : AnO := (anT t n x s).val
def anOk (t n : Int) (x : ANS) (s : MS) : Prop := (anT t n x s).ok
theorem an_step (t n : Int) (x : ANS) (s : MS) (K : AVal → Heap Ob → Prop) (h : (anT t n x s).run (fun y => (AnO.fin t n y).run K)) : CallOk (obI tbl) Try.prog 9 [.ptr 0 0, .ptr 1 0] (anH t n x s) K := by
  unfold anT at h
  by_cases e : x.at' = 0
  · rw [e] at h
    have h : (anT_0 t n x s).run _ := h
    refine CallOk.openM (root := 0) (pos := []) (cs := []) (parse := anP t n) (fin := AnO.fin t n) anP_ok (Opens.unpack (.announce t n x) 0 0 (announceG0 t n x) [] rfl (congrArg (Prod.mk 0) rfl) (by kernel_rfl) rfl) ?_
    have q := anT_0_sum t n x s _ h
    rw [← e] at q
    exact q
  rw [ieq_n e] at h
  by_cases e : x.at' = 1
  · rw [e] at h
    have h : (anT_1 t n x s).run _ := h
    refine CallOk.openM (root := 0) (pos := []) (cs := []) (parse := anP t n) (fin := AnO.fin t n) anP_ok (Opens.unpack (.announce t n x) 0 0 (announceG0 t n x) [] rfl (congrArg (Prod.mk 0) rfl) (by kernel_rfl) rfl) ?_
    have q := anT_1_sum t n x s _ h
    rw [← e] at q
    exact q
  rw [ieq_n e] at h
  by_cases e : x.at' = 2
  · rw [e] at h
    have h : (anT_2 t n x s).run _ := h
    refine CallOk.openM (root := 0) (pos := []) (cs := []) (parse := anP t n) (fin := AnO.fin t n) anP_ok (Opens.unpack (.announce t n x) 0 0 (announceG0 t n x) [] rfl (congrArg (Prod.mk 0) rfl) (by kernel_rfl) rfl) ?_
    have q := anT_2_sum t n x s _ h
    rw [← e] at q
    exact q
  rw [ieq_n e] at h
  by_cases e : x.at' = 3
  · rw [e] at h
    have h : (anT_3 t n x s).run _ := h
    refine CallOk.openM (root := 0) (pos := []) (cs := []) (parse := anP t n) (fin := AnO.fin t n) anP_ok (Opens.unpack (.announce t n x) 0 0 (announceG0 t n x) [] rfl (congrArg (Prod.mk 0) rfl) (by kernel_rfl) rfl) ?_
    have q := anT_3_sum t n x s _ h
    rw [← e] at q
    exact q
  rw [ieq_n e] at h
  by_cases e : x.at' = 4
  · rw [e] at h
    have h : (anT_4 t n x s).run _ := h
    refine CallOk.openM (root := 0) (pos := []) (cs := []) (parse := anP t n) (fin := AnO.fin t n) anP_ok (Opens.unpack (.announce t n x) 0 0 (announceG0 t n x) [] rfl (congrArg (Prod.mk 0) rfl) (by kernel_rfl) rfl) ?_
    have q := anT_4_sum t n x s _ h
    rw [← e] at q
    exact q
  rw [ieq_n e] at h
  exact h.1.elim
noncomputable def anS : Spec Ob := fun args h => match args, h with
  | [.ptr 0 0, .ptr 1 0], [some (.abs (.announce t n x) []), e1, e2] => (match memL 2 [e1, e2] with
    | some (l, s) => some (.pre (l = s.xs.length ∧ anOk t n x s) (AnO.fin t n (anF t n x s)))
    | none => none)
  | _, _ => none
theorem an_ok : Spec.ok (obI tbl) Try.prog 9 anS := by
  intro args h o ho K hK
  unfold anS at ho
  split at ho
  case h_2 => cases ho
  split at ho
  case h_2 => cases ho
  rename_i hm
  simp only [Option.some.injEq] at ho; subst ho
  obtain ⟨⟨hl, ok⟩, hK⟩ := hK
  have hh := memL_eq hm hl
  simp only [List.cons.injEq, and_true] at hh
  obtain ⟨rfl, rfl⟩ := hh
  exact an_step _ _ _ _ K (Tr.run_of ok hK)
def anNP (t n : Int) (v : AVal) (g : Heap Ob) : Option (Prop × ANS) := match v, g with
  | .ptr 0 0, [some (.cells [.int .i64 t1, .int .i64 n1, .int .u64 no, .int .i64 me, .int .i64 at', .int .u64 bits, .bool wrong, .int .u64 found])] => some ((t1 = t ∧ n1 = n), (⟨no, me, at', bits, wrong, found⟩ : ANS))
  | _, _ => none
abbrev anNH (t n : Int) (y : ANS) : Heap Ob := [some (.abs (.announce t n y) [])]
theorem anNP_ok {t n : Int} : Reads (obI tbl) 0 (anNP t n) (fun y => .ret (.ptr 0 0) (anNH t n y)) := by
  intro v g p x hp hq K hK
  unfold anNP at hp
  split at hp
  case h_2 => cases hp
  rename_i t1 n1 no me at' bits wrong found
  simp only [Option.some.injEq, Prod.mk.injEq] at hp
  obtain ⟨rfl, rfl⟩ := hp
  obtain ⟨rfl, rfl⟩ := hq
  exact ⟨⟨_, _, Tells.pack (anNH t1 n1 (⟨no, me, at', bits, wrong, found⟩ : ANS)) (.announce t1 n1 (⟨no, me, at', bits, wrong, found⟩ : ANS)) 0 0 (announceG0 t1 n1 (⟨no, me, at', bits, wrong, found⟩ : ANS)) [] (by kernel_rfl) rfl (congrArg (Prod.mk 0) rfl) (by kernel_rfl), hK⟩⟩
def anNT (t n : Int) (u sh kd ky : Int) : Tr ANS := .pre True (.pre (t = t ∧ n = n) (.ret { no := 0, me := u, at' := 0, bits := bif rightT sh kd ky then tskV sh kd ky else 0, wrong := !ieq (bif rightT sh kd ky then 0 else 1) 0, found := 0 }))
def anNF (t n : Int) (u sh kd ky : Int) : ANS := (anNT t n u sh kd ky).val
def anNOk (t n : Int) (u sh kd ky : Int) : Prop := (anNT t n u sh kd ky).ok
def anNS : Spec Ob := fun args h => match args, h with
  | [.agg [.int .i64 t, .int .i64 n], .int .i64 u, .agg [.int .i64 sh, .int .i64 kd, .int .i64 ky]], [] => some (.pre (anNOk t n u sh kd ky) (.ret (.ptr 0 0) (anNH t n (anNF t n u sh kd ky))))
  | _, _ => none
theorem anN_ok : Spec.ok (obI tbl) Try.prog 8 anNS := by
  intro args h o ho K hK
  unfold anNS at ho
  split at ho
  case h_2 => cases ho
  rename_i t n u sh kd ky
  simp only [Option.some.injEq] at ho; subst ho
  obtain ⟨ok, hK⟩ := hK
  refine CallOk.plainM (root := 0) (pos := []) (cs := []) (parse := anNP t n) anNP_ok ?_
  exact callOk_of (E := EC3) Try.checked.mixed (L := LL) (n := 10) (of_nf (q := (anNT t n u sh kd ky).run (fun y => (Out.ret (.ptr 0 0) (anNH t n y)).run K)) (by kernel_rfl) (Tr.run_of ok hK))
noncomputable def EC4 := ((EC3.addS 9 anS an_ok).addS 8 anNS anN_ok)
end Go.Sh

