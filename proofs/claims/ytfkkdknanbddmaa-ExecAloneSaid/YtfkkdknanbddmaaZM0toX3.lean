import Derived.Test.YtfkkdknanbddmaaRows
import Derived.IntWalk
import Derived.Test.YtfkkdknanbddmaaZSh23
set_option linter.all false
/- The shared memory: its state, as the contracts tell it. -/
namespace Go.Sh
open Go Go.Proofs
variable [Con]
abbrev W (x : Int) : Int := IntKind.wrap IntKind.i64 x
abbrev WU (x : Int) : Int := IntKind.wrap IntKind.u64 x
theorem W_in {x : Int} (h : -9223372036854775808 ≤ x ∧ x ≤ 9223372036854775807) : IntKind.wrap IntKind.i64 x = x := IntWalk.i64_in x h

/-- memory: how many threads and nodes, the words, how many actions, the last one -/
structure MS where
  t : Int
  n : Int
  xs : List Int
  c : Int
  k : Int
  a : Int
  o : Int
  w : Int
  ok : Bool

/-- a machine that takes a node -/
structure AL where
  got : Int
  at' : Int
  left : Int
  found : Int
  free : Bool
/-- a machine that sweeps: how far it is (0: not begun, 1: it looks at the slots, else: it gives back) -/
structure SWS where
  ph : Nat
  N : List Int
  m : List (Int × Int)
  i : Int
  ks : List Int
  fs : List Int
  gs : List Int
  j : Nat
  l : Nat
/-- a machine that ensures a node (0: not begun, 1: it takes, 2 and more: it sweeps) -/
structure ENS where
  ph : Nat
  sh : Bool
  dn : Bool
  x : AL
  y : SWS
/-- a store -/
structure STS where
  me : Int
  sp : Int
  R : List Int
/-- objects that are told whole -/
inductive Mc where
  | sweep (t n : Int) (y : SWS)
  | ensure (t n : Int) (e : ENS)
  | store (t n : Int) (s : STS)
abbrev Ob := Mc
def alE (t n : Int) (x : AL) : Option (Entry Mc) := some (.cells [.int .i64 t, .int .i64 n, .int .i64 x.got, .int .i64 x.at', .int .i64 x.left, .int .u64 x.found, .bool x.free])
def swG (t n : Int) (y : SWS) : Heap Mc := match y.ph with
  | 0 => [some (.cells [.ptr 1 0, .raw (.pointer none)]), none]
  | 1 => [some (.cells [.ptr 1 0, .ptr 2 0]), none, some (.cells [.int .i64 t, .int .i64 n, .raw (.slice none 0 0), .raw (.slice none 0 0), .slice 3 0 y.N.length 1, .map 4, .int .i64 y.i, .raw (.pointer none)]), some (.ints (some .i64) y.N), some (.imap .i64 none y.m)]
  | 2 => [some (.cells [.ptr 1 0, .ptr 2 0]), none, some (.cells [.int .i64 t, .int .i64 n, .slice 3 0 y.ks.length 1, .slice 4 0 y.fs.length 1, .slice 5 0 y.N.length 1, .map 6, .int .i64 y.i, .ptr 7 0]), some (.ints (some .i64) y.ks), some (.ints (some .i64) y.fs), some (.ints (some .i64) y.N), some (.imap .i64 none y.m), some (.cells [.int .i64 t, .int .i64 n, .slice 8 y.j y.l 1]), some (.ints (some .i64) y.gs)]
  | _ => [some (.cells [.ptr 1 0, .top]), none]
def enG (t n : Int) (e : ENS) : Heap Mc := match e.ph with
  | 0 => [some (.cells [.ptr 1 0, .bool e.sh, .raw (.pointer none), .raw (.pointer none), .bool e.dn]), none]
  | 1 => [some (.cells [.ptr 1 0, .bool e.sh, .ptr 2 0, .raw (.pointer none), .bool e.dn]), none, alE t n e.x]
  | 2 => [some (.cells [.ptr 1 0, .bool e.sh, .ptr 2 0, .ptr 3 0, .bool e.dn]), none, alE t n e.x, some (.cells [.ptr 1 0, .raw (.pointer none)])]
  | 3 => [some (.cells [.ptr 1 0, .bool e.sh, .ptr 2 0, .ptr 3 0, .bool e.dn]), none, alE t n e.x, some (.cells [.ptr 1 0, .ptr 4 0]), some (.cells [.int .i64 t, .int .i64 n, .raw (.slice none 0 0), .raw (.slice none 0 0), .slice 5 0 e.y.N.length 1, .map 6, .int .i64 e.y.i, .raw (.pointer none)]), some (.ints (some .i64) e.y.N), some (.imap .i64 none e.y.m)]
  | _ => [some (.cells [.ptr 1 0, .bool e.sh, .ptr 2 0, .ptr 3 0, .bool e.dn]), none, alE t n e.x, some (.cells [.ptr 1 0, .ptr 4 0]), some (.cells [.int .i64 t, .int .i64 n, .slice 5 0 e.y.ks.length 1, .slice 6 0 e.y.fs.length 1, .slice 7 0 e.y.N.length 1, .map 8, .int .i64 e.y.i, .ptr 9 0]), some (.ints (some .i64) e.y.ks), some (.ints (some .i64) e.y.fs), some (.ints (some .i64) e.y.N), some (.imap .i64 none e.y.m), some (.cells [.int .i64 t, .int .i64 n, .slice 10 e.y.j e.y.l 1]), some (.ints (some .i64) e.y.gs)]
def stG (t n : Int) (s : STS) : Heap Mc := [some (.cells [.int .i64 t, .int .i64 n, .int .i64 s.me, .int .i64 s.sp, .slice 1 0 s.R.length 1]), some (.ints (some .i64) s.R)]
def tbl : Mc → Nat × Heap Mc
  | .sweep t n y => (1, swG t n y)
  | .ensure t n e => (1, enG t n e)
  | .store t n s => (0, stG t n s)
def memH (s : MS) : Heap Ob := [some (.cells [.int .i64 s.t, .int .i64 s.n, .slice 1 0 s.xs.length 1, .int .i64 s.c, .int .i64 s.k, .int .i64 s.a, .int .u64 s.o, .int .u64 s.w, .bool s.ok]), some (.ints (some .u64) s.xs)]
noncomputable def E0 : Env Ob Try.prog where
  I := obI tbl
  cps := fun _ => none
  det := fun _ => none
  meth := methOf Try.prog
  cpsOk := by intro f S h; cases h
  detOk := by intro f S h; cases h
  methOk := fun t n f h v w _ => methOf_run h v w
end Go.Sh

/- The shared memory: what its functions come to. -/
namespace Go.Sh
open Go Go.Proofs
variable [Con]
theorem W_add {x : Int} (h : -9223372036854775808 ≤ x ∧ x ≤ 9223372036854775807) : IntKind.wrap IntKind.i64 x = x := W_in h
theorem cond_go {b : Bool} {X Y : Prop} (h1 : b = true → X) (h2 : b = false → Y) : cond b X Y := cond_intro h1 h2

def laySizeS : Spec Ob := fun args h => match args, h with
  | [.agg [.int .i64 t, .int .i64 n]], [] => some (.pre ((0 ≤ t ∧ t ≤ 100000) ∧ (0 ≤ n ∧ n ≤ 100000)) (.ret (.int .i64 (2 * n + 5 * t + 6)) []))
  | _, _ => none
theorem laySize_ok : Spec.ok E0.I Try.prog 30 laySizeS := by
  intro args h o ho K hK
  unfold laySizeS at ho
  split at ho
  case h_2 => cases ho
  rename_i t n
  simp only [Option.some.injEq] at ho; subst ho
  obtain ⟨hp, hK⟩ := hK
  have hK : K (.int .i64 (2 * n + 5 * t + 6)) [] := hK
  refine CallOk.trim (callOk_of (E := E0) Try.checked.mixed (L := fun _ _ => none) (n := 10) (of_nf (q := K (AVal.int .i64 (W (W (W (W (W (W (W (W (W (1 + n) + 4) + W (n + 1)) - 1) + W (2 * t)) + 0) + W (3 * t)) + 0) + 1))) []) (by kernel_rfl) ?_))
  simp (disch := omega) only [W, W_in]
  refine cast (congrArg (fun z => K (AVal.int .i64 z) []) ?_) hK
  omega

def layLifeS : Spec Ob := fun args h => match args, h with
  | [.agg [.int .i64 t, .int .i64 n], .int .i64 a], [] => some (.pre ((0 ≤ t ∧ t ≤ 100000) ∧ (0 ≤ n ∧ n ≤ 100000) ∧ (-1099511627776 ≤ a ∧ a ≤ 1099511627776)) (.ret (.int .i64 (n + 4 + a)) []))
  | _, _ => none
theorem layLife_ok : Spec.ok E0.I Try.prog 33 layLifeS := by
  intro args h o ho K hK
  unfold layLifeS at ho
  split at ho
  case h_2 => cases ho
  rename_i t n a
  simp only [Option.some.injEq] at ho; subst ho
  obtain ⟨hp, hK⟩ := hK
  have hK : K (.int .i64 (n + 4 + a)) [] := hK
  refine CallOk.trim (callOk_of (E := E0) Try.checked.mixed (L := fun _ _ => none) (n := 10) (of_nf (q := K (AVal.int .i64 (W (W (W (W (1 + n) + 4) + a) - 1))) []) (by kernel_rfl) ?_))
  simp (disch := omega) only [W, W_in]
  refine cast (congrArg (fun z => K (AVal.int .i64 z) []) ?_) hK
  omega

def laySlotS : Spec Ob := fun args h => match args, h with
  | [.agg [.int .i64 t, .int .i64 n], .int .i64 a, .int .i64 b], [] => some (.pre ((0 ≤ t ∧ t ≤ 100000) ∧ (0 ≤ n ∧ n ≤ 100000) ∧ (-1099511627776 ≤ a ∧ a ≤ 1099511627776) ∧ (-1099511627776 ≤ b ∧ b ≤ 1099511627776)) (.ret (.int .i64 (2 * n + 5 + 2 * a + b)) []))
  | _, _ => none
theorem laySlot_ok : Spec.ok E0.I Try.prog 31 laySlotS := by
  intro args h o ho K hK
  unfold laySlotS at ho
  split at ho
  case h_2 => cases ho
  rename_i t n a b
  simp only [Option.some.injEq] at ho; subst ho
  obtain ⟨hp, hK⟩ := hK
  have hK : K (.int .i64 (2 * n + 5 + 2 * a + b)) [] := hK
  refine CallOk.trim (callOk_of (E := E0) Try.checked.mixed (L := fun _ _ => none) (n := 10) (of_nf (q := K (AVal.int .i64 (W (W (W (W (W (W (1 + n) + 4) + W (n + 1)) - 1) + W (2 * a)) + b))) []) (by kernel_rfl) ?_))
  simp (disch := omega) only [W, W_in]
  refine cast (congrArg (fun z => K (AVal.int .i64 z) []) ?_) hK
  omega

def layDescS : Spec Ob := fun args h => match args, h with
  | [.agg [.int .i64 t, .int .i64 n], .int .i64 a], [] => some (.pre ((0 ≤ t ∧ t ≤ 100000) ∧ (0 ≤ n ∧ n ≤ 100000) ∧ (-1099511627776 ≤ a ∧ a ≤ 1099511627776)) (.ret (.int .i64 (2 * n + 5 + 2 * t + 3 * a + 2)) []))
  | _, _ => none
theorem layDesc_ok : Spec.ok E0.I Try.prog 10 layDescS := by
  intro args h o ho K hK
  unfold layDescS at ho
  split at ho
  case h_2 => cases ho
  rename_i t n a
  simp only [Option.some.injEq] at ho; subst ho
  obtain ⟨hp, hK⟩ := hK
  have hK : K (.int .i64 (2 * n + 5 + 2 * t + 3 * a + 2)) [] := hK
  refine CallOk.trim (callOk_of (E := E0) Try.checked.mixed (L := fun _ _ => none) (n := 10) (of_nf (q := K (AVal.int .i64 (W (W (W (W (W (W (W (W (1 + n) + 4) + W (n + 1)) - 1) + W (2 * t)) + 0) + W (3 * a)) + 2))) []) (by kernel_rfl) ?_))
  simp (disch := omega) only [W, W_in]
  refine cast (congrArg (fun z => K (AVal.int .i64 z) []) ?_) hK
  omega

def layTaskS : Spec Ob := fun args h => match args, h with
  | [.agg [.int .i64 t, .int .i64 n], .int .i64 a], [] => some (.pre ((0 ≤ t ∧ t ≤ 100000) ∧ (0 ≤ n ∧ n ≤ 100000) ∧ (-1099511627776 ≤ a ∧ a ≤ 1099511627776)) (.ret (.int .i64 (2 * n + 5 + 2 * t + 3 * a + 1)) []))
  | _, _ => none
def layTicketS : Spec Ob := fun args h => match args, h with
  | [.agg [.int .i64 t, .int .i64 n], .int .i64 a], [] => some (.pre ((0 ≤ t ∧ t ≤ 100000) ∧ (0 ≤ n ∧ n ≤ 100000) ∧ (-1099511627776 ≤ a ∧ a ≤ 1099511627776)) (.ret (.int .i64 (2 * n + 5 + 2 * t + 3 * a)) []))
  | _, _ => none
def layCounterS : Spec Ob := fun args h => match args, h with
  | [.agg [.int .i64 t, .int .i64 n]], [] => some (.pre ((0 ≤ t ∧ t ≤ 100000) ∧ (0 ≤ n ∧ n ≤ 100000)) (.ret (.int .i64 (2 * n + 5 + 2 * t + 3 * t)) []))
  | _, _ => none
theorem layCounter_ok : Spec.ok E0.I Try.prog 32 layCounterS := by
  intro args h o ho K hK
  unfold layCounterS at ho
  split at ho
  case h_2 => cases ho
  rename_i t n
  simp only [Option.some.injEq] at ho; subst ho
  obtain ⟨hp, hK⟩ := hK
  have hK : K (.int .i64 (2 * n + 5 + 2 * t + 3 * t)) [] := hK
  refine CallOk.trim (callOk_of (E := E0) Try.checked.mixed (L := fun _ _ => none) (n := 10) (of_nf (q := K (AVal.int .i64 (W (W (W (W (W (W (W (W (1 + n) + 4) + W (n + 1)) - 1) + W (2 * t)) + 0) + W (3 * t)) + 0))) []) (by kernel_rfl) ?_))
  simp (disch := omega) only [W, W_in]
  refine cast (congrArg (fun z => K (AVal.int .i64 z) []) ?_) hK
  omega

def slotsS : Spec Ob := fun args h => match args, h with
  | [.agg [.int .i64 t, .int .i64 n]], [] => some (.pre ((0 ≤ t ∧ t ≤ 100000) ∧ (0 ≤ n ∧ n ≤ 100000)) (.ret (.int .i64 (2 * t)) []))
  | _, _ => none
/- OPQ -/
def rightB (t n : Int) : Bool := ile 1 t && ile t 8 && ile 1 n && ile n 200
theorem rightB_true {t n : Int} : rightB t n = true ↔ 1 ≤ t ∧ t ≤ 8 ∧ 1 ≤ n ∧ n ≤ 200 := by
  unfold rightB; simp only [ile_eq, Bool.and_eq_true, decide_eq_true_eq]; omega
/- OPQ -/
def nodeB (n a : Int) : Bool := ile 1 a && ile a n
theorem nodeB_true {n a : Int} : nodeB n a = true ↔ 1 ≤ a ∧ a ≤ n := by
  unfold nodeB; simp only [ile_eq, Bool.and_eq_true, decide_eq_true_eq]

def layRightS : Spec Ob := fun args h => match args, h with
  | [.agg [.int .i64 t, .int .i64 n]], [] => some (.pre (True) (.ret (.bool (rightB t n)) []))
  | _, _ => none
theorem layRight_ok : Spec.ok E0.I Try.prog 29 layRightS := by
  intro args h o ho K hK
  unfold layRightS at ho
  split at ho
  case h_2 => cases ho
  rename_i t n
  simp only [Option.some.injEq] at ho; subst ho
  obtain ⟨hp, hK⟩ := hK
  have hK : K (.bool (rightB t n)) [] := hK
  refine CallOk.trim (callOk_of (E := E0) Try.checked.mixed (L := fun _ _ => none) (n := 10) (of_nf (q := bif ile 1 t then bif ile t 8 then bif ile 1 n then K (AVal.bool (ile n 200)) [] else K (AVal.bool false) [] else K (AVal.bool false) [] else K (AVal.bool false) []) (by kernel_rfl) ?_))
  unfold rightB at hK
  refine cond_go (fun e1 => cond_go (fun e2 => cond_go (fun e3 => ?_) (fun e3 => ?_)) (fun e2 => ?_)) (fun e1 => ?_)
  all_goals (simp only [*, Bool.true_and, Bool.false_and, Bool.and_false] at hK; exact hK)

def layNodeS : Spec Ob := fun args h => match args, h with
  | [.agg [.int .i64 t, .int .i64 n], .int .i64 a], [] => some (.pre (True) (.ret (.bool (nodeB n a)) []))
  | _, _ => none
theorem layNode_ok : Spec.ok E0.I Try.prog 64 layNodeS := by
  intro args h o ho K hK
  unfold layNodeS at ho
  split at ho
  case h_2 => cases ho
  rename_i t n a
  simp only [Option.some.injEq] at ho; subst ho
  obtain ⟨hp, hK⟩ := hK
  have hK : K (.bool (nodeB n a)) [] := hK
  refine CallOk.trim (callOk_of (E := E0) Try.checked.mixed (L := fun _ _ => none) (n := 10) (of_nf (q := bif ile 1 a then K (AVal.bool (ile a n)) [] else K (AVal.bool false) []) (by kernel_rfl) ?_))
  unfold nodeB at hK
  refine cond_go (fun e1 => ?_) (fun e1 => ?_)
  all_goals (simp only [*, Bool.true_and, Bool.false_and, Bool.and_false] at hK; exact hK)

noncomputable def E1 := (((((((((E0.addS 30 laySizeS laySize_ok).addS 33 layLifeS layLife_ok).addS 31 laySlotS laySlot_ok).addS 10 layDescS layDesc_ok))).addS 32 layCounterS layCounter_ok)).addS 29 layRightS layRight_ok).addS 64 layNodeS layNode_ok

/-- a word -/
def peek (xs : List Int) (a : Int) : Int := if 0 ≤ a ∧ a < xs.length then xs.getD a.toNat 0 else 0
theorem peek_in {xs : List Int} {a : Int} (h : 0 ≤ a ∧ a < xs.length) : peek xs a = xs.getD a.toNat 0 := if_pos h
theorem peek_out {xs : List Int} {a : Int} (h : ¬ (0 ≤ a ∧ a < xs.length)) : peek xs a = 0 := if_neg h
/- OPQ -/
def inB (xs : List Int) (a : Int) : Bool := ile 0 a && ilt a (xs.length : Int)
theorem inB_true {xs : List Int} {a : Int} : inB xs a = true ↔ 0 ≤ a ∧ a < xs.length := by
  unfold inB; simp only [ile_eq, ilt_eq, Bool.and_eq_true, decide_eq_true_eq]
def setI (xs : List Int) (a x : Int) : List Int := xs.set a.toNat x
theorem setI_length (xs : List Int) (a x : Int) : (setI xs a x).length = xs.length := by simp [setI]
/-- an action that was done -/
def MS.did (s : MS) (k a w : Int) (ok : Bool) (xs : List Int) : MS := { s with xs := xs, c := s.c + 1, k := k, a := a, o := peek s.xs a, w := w, ok := ok }
def MS.load (s : MS) (a : Int) : MS := s.did 1 a (peek s.xs a) (inB s.xs a) s.xs
def MS.store (s : MS) (a x : Int) : MS := bif inB s.xs a then s.did 2 a x true (setI s.xs a x) else s.did 2 a 0 false s.xs

def memPat (h : Heap Ob) : Option (Nat × MS) := match h with
  | [some (.cells [.int .i64 t, .int .i64 n, .slice 1 0 len 1, .int .i64 c, .int .i64 k, .int .i64 a, .int .u64 o, .int .u64 w, .bool ok]), some (.ints (some .u64) xs)] => some (len, ⟨t, n, xs, c, k, a, o, w, ok⟩)
  | _ => none

theorem memPat_eq {h : Heap Ob} {l : Nat} {s : MS} (e : memPat h = some (l, s)) (hl : l = s.xs.length) : h = memH s := by
  unfold memPat at e
  split at e
  · simp only [Option.some.injEq, Prod.mk.injEq] at e
    obtain ⟨rfl, rfl⟩ := e
    simp only at hl; subst hl; rfl
  · cases e
theorem nat_id (x : Nat) : 0 + x * 1 = x := by omega

def peekS : Spec Ob := fun args h => match args, memPat h with
  | [.ptr 0 0, .int .i64 a], some (l, s) => some (.pre (l = s.xs.length ∧ True) (.ret (.int .u64 (peek s.xs a)) (memH (s))))
  | _, _ => none
theorem peek_ok : Spec.ok E1.I Try.prog 9 peekS := by
  intro args h o ho K hK
  unfold peekS at ho
  split at ho
  case h_2 => cases ho
  rename_i a l s hm
  simp only [Option.some.injEq] at ho; subst ho
  obtain ⟨⟨hl, hp⟩, hK⟩ := hK
  have hh := memPat_eq hm hl
  subst hh
  have hK : K (.int .u64 (peek s.xs a)) (memH (s)) := hK
  refine CallOk.trim (callOk_of (E := E1) Try.checked.mixed (L := fun _ _ => none) (n := 10) (of_nf (q := bif ilt a 0 then K (AVal.int .u64 0) [some (Entry.cells [AVal.int .i64 s.1, AVal.int .i64 s.2, AVal.slice 1 0 (List.length s.3) 1, AVal.int .i64 s.4, AVal.int .i64 s.5, AVal.int .i64 s.6, AVal.int .u64 s.7, AVal.int .u64 s.8, AVal.bool s.9]), some (Entry.ints (some .u64) s.3)] else bif ile (↑(List.length s.3) : Int) a then K (AVal.int .u64 0) [some (Entry.cells [AVal.int .i64 s.1, AVal.int .i64 s.2, AVal.slice 1 0 (List.length s.3) 1, AVal.int .i64 s.4, AVal.int .i64 s.5, AVal.int .i64 s.6, AVal.int .u64 s.7, AVal.int .u64 s.8, AVal.bool s.9]), some (Entry.ints (some .u64) s.3)] else ((0 : Int) ≤ a ∧ a < (↑(List.length s.3) : Int)) ∧ 0 + Int.toNat a * (1 : Nat) < List.length s.3 ∧ K (AVal.int .u64 (List.getD s.3 (0 + Int.toNat a * 1) 0)) [some (Entry.cells [AVal.int .i64 s.1, AVal.int .i64 s.2, AVal.slice 1 0 (List.length s.3) 1, AVal.int .i64 s.4, AVal.int .i64 s.5, AVal.int .i64 s.6, AVal.int .u64 s.7, AVal.int .u64 s.8, AVal.bool s.9]), some (Entry.ints (some .u64) s.3)]) (by kernel_rfl) ?_))
  refine cond_go (fun e1 => ?_) (fun e1 => cond_go (fun e2 => ?_) (fun e2 => ?_))
  · rw [ilt_eq, decide_eq_true_eq] at e1
    rw [peek_out (by omega)] at hK; exact hK
  · rw [ile_eq, decide_eq_true_eq] at e2
    rw [peek_out (by omega)] at hK; exact hK
  · rw [ilt_eq, decide_eq_false_iff_not] at e1
    rw [ile_eq, decide_eq_false_iff_not] at e2
    refine ⟨by omega, by omega, ?_⟩
    rw [peek_in (by omega)] at hK
    rw [nat_id]; exact hK

def actionsS : Spec Ob := fun args h => match args, memPat h with
  | [.ptr 0 0], some (l, s) => some (.pre (l = s.xs.length ∧ True) (.ret (.int .i64 s.c) (memH (s))))
  | _, _ => none
def lastS : Spec Ob := fun args h => match args, memPat h with
  | [.ptr 0 0], some (l, s) => some (.pre (l = s.xs.length ∧ True) (.ret (.agg [.int .i64 s.k, .int .i64 s.a, .int .u64 s.o, .int .u64 s.w, .bool s.ok]) (memH (s))))
  | _, _ => none
def lastLS : Spec Ob := fun args h => match args, memPat h with
  | [.ptr 0 0], some (l, s) => some (.pre (l = s.xs.length ∧ True) (.ret (.agg [.int .i64 s.k, .int .i64 s.a, .int .u64 s.o, .int .u64 s.w, .bool s.ok]) (memH (s))))
  | _, _ => none
noncomputable def E2 := (((E1.addS 9 peekS peek_ok)))

end Go.Sh

/- The shared memory: the four actions. -/
namespace Go.Sh
open Go Go.Proofs
variable [Con]
def putI (xs : List Int) (a x : Int) : List Int := if 0 ≤ a ∧ a < xs.length then xs.set a.toNat x else xs
theorem putI_length (xs : List Int) (a x : Int) : (putI xs a x).length = xs.length := by unfold putI; split <;> simp
theorem putI_in {xs : List Int} {a x : Int} (h : 0 ≤ a ∧ a < xs.length) : putI xs a x = xs.set a.toNat x := if_pos h
theorem putI_out {xs : List Int} {a x : Int} (h : ¬ (0 ≤ a ∧ a < xs.length)) : putI xs a x = xs := if_neg h
theorem inB_false {xs : List Int} {a : Int} (h : ¬ (0 ≤ a ∧ a < xs.length)) : inB xs a = false := by
  cases e : inB xs a with
  | false => rfl
  | true => exact (h (inB_true.1 e)).elim
theorem set_peek {xs : List Int} {a : Int} (h : 0 ≤ a ∧ a < xs.length) : xs.set a.toNat (peek xs a) = xs := by
  rw [peek_in h]
  apply List.ext_getElem?
  intro i
  rw [List.getElem?_set]
  by_cases hi : a.toNat = i
  · subst hi
    have : a.toNat < xs.length := by omega
    simp [this]
  · simp [hi]
def MS.loadd (s : MS) (a : Int) : MS := s.did 1 a (peek s.xs a) (inB s.xs a) s.xs
def MS.stored (s : MS) (a x : Int) : MS := s.did 2 a (bif inB s.xs a then x else 0) (inB s.xs a) (putI s.xs a x)
/- OPQ -/
def casB (xs : List Int) (a x : Int) : Bool := inB xs a && ieq (peek xs a) x
def MS.cased (s : MS) (a x y : Int) : MS := s.did 3 a (bif inB s.xs a then y else 0) (casB s.xs a x) (bif casB s.xs a x then putI s.xs a y else s.xs)
def MS.added (s : MS) (a x : Int) : MS := s.did 4 a (bif inB s.xs a then IntKind.wrap .u64 (peek s.xs a + x) else 0) (inB s.xs a) (putI s.xs a (IntKind.wrap .u64 (peek s.xs a + x)))
theorem memH_did (s : MS) (k a w : Int) (ok : Bool) (xs : List Int) (h : xs.length = s.xs.length) : memH (s.did k a w ok xs) = [some (.cells [.int .i64 s.t, .int .i64 s.n, .slice 1 0 s.xs.length 1, .int .i64 (s.c + 1), .int .i64 k, .int .i64 a, .int .u64 (peek s.xs a), .int .u64 w, .bool ok]), some (.ints (some .u64) xs)] := by
  unfold memH MS.did
  simp only [h]

def loadS : Spec Ob := fun args h => match args, memPat h with
  | [.ptr 0 0, .int .i64 a], some (l, s) => some (.pre (l = s.xs.length ∧ (0 ≤ s.c ∧ s.c ≤ 4611686018427387904)) (.ret (.int .u64 (peek s.xs a)) (memH (s.loadd a))))
  | _, _ => none
theorem load_ok : Spec.ok E2.I Try.prog 69 loadS := by
  intro args h o ho K hK
  unfold loadS at ho
  split at ho
  case h_2 => cases ho
  rename_i a l s hm
  simp only [Option.some.injEq] at ho; subst ho
  obtain ⟨⟨hl, hp⟩, hK⟩ := hK
  have hh := memPat_eq hm hl
  subst hh
  have hK : K (.int .u64 (peek s.xs a)) (memH (s.loadd a)) := hK
  refine CallOk.trim (callOk_of (E := E2) Try.checked.mixed (L := fun _ _ => none) (n := 10) (of_nf (q := (List.length s.3 = List.length s.3 ∧ True) ∧ bif ilt a 0 then K (AVal.int .u64 (peek s.3 a)) [some (Entry.cells [AVal.int .i64 s.1, AVal.int .i64 s.2, AVal.slice 1 0 (List.length s.3) 1, AVal.int .i64 (W (s.4 + 1)), AVal.int .i64 1, AVal.int .i64 a, AVal.int .u64 (peek s.3 a), AVal.int .u64 (peek s.3 a), AVal.bool false]), some (Entry.ints (some .u64) s.3)] else bif ile (↑(List.length s.3) : Int) a then K (AVal.int .u64 (peek s.3 a)) [some (Entry.cells [AVal.int .i64 s.1, AVal.int .i64 s.2, AVal.slice 1 0 (List.length s.3) 1, AVal.int .i64 (W (s.4 + 1)), AVal.int .i64 1, AVal.int .i64 a, AVal.int .u64 (peek s.3 a), AVal.int .u64 (peek s.3 a), AVal.bool false]), some (Entry.ints (some .u64) s.3)] else ((0 : Int) ≤ a ∧ a < (↑(List.length s.3) : Int)) ∧ 0 + Int.toNat a * (1 : Nat) < List.length s.3 ∧ K (AVal.int .u64 (peek s.3 a)) [some (Entry.cells [AVal.int .i64 s.1, AVal.int .i64 s.2, AVal.slice 1 0 (List.length s.3) 1, AVal.int .i64 (W (s.4 + 1)), AVal.int .i64 1, AVal.int .i64 a, AVal.int .u64 (peek s.3 a), AVal.int .u64 (peek s.3 a), AVal.bool true]), some (Entry.ints (some .u64) (List.set s.3 (0 + Int.toNat a * 1) (peek s.3 a)))]) (by kernel_rfl) ?_))
  refine ⟨⟨rfl, trivial⟩, ?_⟩
  have hc : IntKind.wrap .i64 (s.c + 1) = s.c + 1 := W_in (by omega)
  simp only [W, WU, hc, nat_id]
  unfold MS.loadd at hK
  rw [memH_did _ _ _ _ _ _ rfl] at hK
  refine cond_go (fun e1 => ?_) (fun e1 => cond_go (fun e2 => ?_) (fun e2 => ?_))
  · rw [ilt_eq, decide_eq_true_eq] at e1
    rw [inB_false (by omega)] at hK; exact hK
  · rw [ile_eq, decide_eq_true_eq] at e2
    rw [inB_false (by omega)] at hK; exact hK
  · rw [ilt_eq, decide_eq_false_iff_not] at e1
    rw [ile_eq, decide_eq_false_iff_not] at e2
    refine ⟨by omega, by omega, ?_⟩
    rw [inB_true.2 (by omega)] at hK
    rw [set_peek (by omega)]; exact hK

def storeS : Spec Ob := fun args h => match args, memPat h with
  | [.ptr 0 0, .int .i64 a, .int .u64 x], some (l, s) => some (.pre (l = s.xs.length ∧ (0 ≤ s.c ∧ s.c ≤ 4611686018427387904)) (.ret (.tup []) (memH (s.stored a x))))
  | _, _ => none
theorem store_ok : Spec.ok E2.I Try.prog 16 storeS := by
  intro args h o ho K hK
  unfold storeS at ho
  split at ho
  case h_2 => cases ho
  rename_i a x l s hm
  simp only [Option.some.injEq] at ho; subst ho
  obtain ⟨⟨hl, hp⟩, hK⟩ := hK
  have hh := memPat_eq hm hl
  subst hh
  have hK : K (.tup []) (memH (s.stored a x)) := hK
  refine CallOk.trim (callOk_of (E := E2) Try.checked.mixed (L := fun _ _ => none) (n := 10) (of_nf (q := (List.length s.3 = List.length s.3 ∧ True) ∧ bif ilt a 0 then K (AVal.tup []) [some (Entry.cells [AVal.int .i64 s.1, AVal.int .i64 s.2, AVal.slice 1 0 (List.length s.3) 1, AVal.int .i64 (W (s.4 + 1)), AVal.int .i64 2, AVal.int .i64 a, AVal.int .u64 (peek s.3 a), AVal.int .u64 (peek s.3 a), AVal.bool false]), some (Entry.ints (some .u64) s.3)] else bif ile (↑(List.length s.3) : Int) a then K (AVal.tup []) [some (Entry.cells [AVal.int .i64 s.1, AVal.int .i64 s.2, AVal.slice 1 0 (List.length s.3) 1, AVal.int .i64 (W (s.4 + 1)), AVal.int .i64 2, AVal.int .i64 a, AVal.int .u64 (peek s.3 a), AVal.int .u64 (peek s.3 a), AVal.bool false]), some (Entry.ints (some .u64) s.3)] else ((0 : Int) ≤ a ∧ a < (↑(List.length s.3) : Int)) ∧ 0 + Int.toNat a * (1 : Nat) < List.length s.3 ∧ K (AVal.tup []) [some (Entry.cells [AVal.int .i64 s.1, AVal.int .i64 s.2, AVal.slice 1 0 (List.length s.3) 1, AVal.int .i64 (W (s.4 + 1)), AVal.int .i64 2, AVal.int .i64 a, AVal.int .u64 (peek s.3 a), AVal.int .u64 x, AVal.bool true]), some (Entry.ints (some .u64) (List.set s.3 (0 + Int.toNat a * 1) x))]) (by kernel_rfl) ?_))
  refine ⟨⟨rfl, trivial⟩, ?_⟩
  have hc : IntKind.wrap .i64 (s.c + 1) = s.c + 1 := W_in (by omega)
  simp only [W, WU, hc, nat_id]
  unfold MS.stored at hK
  rw [memH_did _ _ _ _ _ _ (putI_length _ _ _)] at hK
  refine cond_go (fun e1 => ?_) (fun e1 => cond_go (fun e2 => ?_) (fun e2 => ?_))
  · rw [ilt_eq, decide_eq_true_eq] at e1
    rw [inB_false (by omega), putI_out (by omega)] at hK
    rw [peek_out (by omega)] at hK ⊢; exact hK
  · rw [ile_eq, decide_eq_true_eq] at e2
    rw [inB_false (by omega), putI_out (by omega)] at hK
    rw [peek_out (by omega)] at hK ⊢; exact hK
  · rw [ilt_eq, decide_eq_false_iff_not] at e1
    rw [ile_eq, decide_eq_false_iff_not] at e2
    refine ⟨by omega, by omega, ?_⟩
    rw [inB_true.2 (by omega), putI_in (by omega)] at hK
    exact hK

def casS : Spec Ob := fun args h => match args, memPat h with
  | [.ptr 0 0, .int .i64 a, .int .u64 x, .int .u64 y], some (l, s) => some (.pre (l = s.xs.length ∧ (0 ≤ s.c ∧ s.c ≤ 4611686018427387904)) (.ret (.bool (casB s.xs a x)) (memH (s.cased a x y))))
  | _, _ => none
theorem cas_ok : Spec.ok E2.I Try.prog 71 casS := by
  intro args h o ho K hK
  unfold casS at ho
  split at ho
  case h_2 => cases ho
  rename_i a x y l s hm
  simp only [Option.some.injEq] at ho; subst ho
  obtain ⟨⟨hl, hp⟩, hK⟩ := hK
  have hh := memPat_eq hm hl
  subst hh
  have hK : K (.bool (casB s.xs a x)) (memH (s.cased a x y)) := hK
  refine CallOk.trim (callOk_of (E := E2) Try.checked.mixed (L := fun _ _ => none) (n := 10) (of_nf (q := (List.length s.3 = List.length s.3 ∧ True) ∧ bif ilt a 0 then K (AVal.bool false) [some (Entry.cells [AVal.int .i64 s.1, AVal.int .i64 s.2, AVal.slice 1 0 (List.length s.3) 1, AVal.int .i64 (W (s.4 + 1)), AVal.int .i64 3, AVal.int .i64 a, AVal.int .u64 (peek s.3 a), AVal.int .u64 (peek s.3 a), AVal.bool false]), some (Entry.ints (some .u64) s.3)] else bif ile (↑(List.length s.3) : Int) a then K (AVal.bool false) [some (Entry.cells [AVal.int .i64 s.1, AVal.int .i64 s.2, AVal.slice 1 0 (List.length s.3) 1, AVal.int .i64 (W (s.4 + 1)), AVal.int .i64 3, AVal.int .i64 a, AVal.int .u64 (peek s.3 a), AVal.int .u64 (peek s.3 a), AVal.bool false]), some (Entry.ints (some .u64) s.3)] else bif ieq (peek s.3 a) x then ((0 : Int) ≤ a ∧ a < (↑(List.length s.3) : Int)) ∧ 0 + Int.toNat a * (1 : Nat) < List.length s.3 ∧ K (AVal.bool (ieq (peek s.3 a) x)) [some (Entry.cells [AVal.int .i64 s.1, AVal.int .i64 s.2, AVal.slice 1 0 (List.length s.3) 1, AVal.int .i64 (W (s.4 + 1)), AVal.int .i64 3, AVal.int .i64 a, AVal.int .u64 (peek s.3 a), AVal.int .u64 y, AVal.bool (ieq (peek s.3 a) x)]), some (Entry.ints (some .u64) (List.set s.3 (0 + Int.toNat a * 1) y))] else K (AVal.bool (ieq (peek s.3 a) x)) [some (Entry.cells [AVal.int .i64 s.1, AVal.int .i64 s.2, AVal.slice 1 0 (List.length s.3) 1, AVal.int .i64 (W (s.4 + 1)), AVal.int .i64 3, AVal.int .i64 a, AVal.int .u64 (peek s.3 a), AVal.int .u64 y, AVal.bool (ieq (peek s.3 a) x)]), some (Entry.ints (some .u64) s.3)]) (by kernel_rfl) ?_))
  refine ⟨⟨rfl, trivial⟩, ?_⟩
  have hc : IntKind.wrap .i64 (s.c + 1) = s.c + 1 := W_in (by omega)
  simp only [W, WU, hc, nat_id]
  unfold MS.cased at hK
  rw [memH_did _ _ _ _ _ _ (by cases casB s.xs a x <;> first | exact putI_length _ _ _ | rfl)] at hK
  unfold casB at hK
  refine cond_go (fun e1 => ?_) (fun e1 => cond_go (fun e2 => ?_) (fun e2 => ?_))
  · rw [ilt_eq, decide_eq_true_eq] at e1
    rw [inB_false (by omega)] at hK
    rw [peek_out (by omega)] at hK ⊢; exact hK
  · rw [ile_eq, decide_eq_true_eq] at e2
    rw [inB_false (by omega)] at hK
    rw [peek_out (by omega)] at hK ⊢; exact hK
  · rw [ilt_eq, decide_eq_false_iff_not] at e1
    rw [ile_eq, decide_eq_false_iff_not] at e2
    rw [inB_true.2 (by omega), putI_in (by omega)] at hK
    simp only [Bool.true_and, cond_true] at hK
    refine cond_go (fun e3 => ⟨by omega, by omega, ?_⟩) (fun e3 => ?_)
    · rw [e3] at hK ⊢; exact hK
    · rw [e3] at hK ⊢; exact hK

def addS : Spec Ob := fun args h => match args, memPat h with
  | [.ptr 0 0, .int .i64 a, .int .u64 x], some (l, s) => some (.pre (l = s.xs.length ∧ (0 ≤ s.c ∧ s.c ≤ 4611686018427387904)) (.ret (.int .u64 (peek s.xs a)) (memH (s.added a x))))
  | _, _ => none
theorem add_ok : Spec.ok E2.I Try.prog 65 addS := by
  intro args h o ho K hK
  unfold addS at ho
  split at ho
  case h_2 => cases ho
  rename_i a x l s hm
  simp only [Option.some.injEq] at ho; subst ho
  obtain ⟨⟨hl, hp⟩, hK⟩ := hK
  have hh := memPat_eq hm hl
  subst hh
  have hK : K (.int .u64 (peek s.xs a)) (memH (s.added a x)) := hK
  refine CallOk.trim (callOk_of (E := E2) Try.checked.mixed (L := fun _ _ => none) (n := 10) (of_nf (q := (List.length s.3 = List.length s.3 ∧ True) ∧ bif ilt a 0 then K (AVal.int .u64 (peek s.3 a)) [some (Entry.cells [AVal.int .i64 s.1, AVal.int .i64 s.2, AVal.slice 1 0 (List.length s.3) 1, AVal.int .i64 (W (s.4 + 1)), AVal.int .i64 4, AVal.int .i64 a, AVal.int .u64 (peek s.3 a), AVal.int .u64 (peek s.3 a), AVal.bool false]), some (Entry.ints (some .u64) s.3)] else bif ile (↑(List.length s.3) : Int) a then K (AVal.int .u64 (peek s.3 a)) [some (Entry.cells [AVal.int .i64 s.1, AVal.int .i64 s.2, AVal.slice 1 0 (List.length s.3) 1, AVal.int .i64 (W (s.4 + 1)), AVal.int .i64 4, AVal.int .i64 a, AVal.int .u64 (peek s.3 a), AVal.int .u64 (peek s.3 a), AVal.bool false]), some (Entry.ints (some .u64) s.3)] else ((0 : Int) ≤ a ∧ a < (↑(List.length s.3) : Int)) ∧ 0 + Int.toNat a * (1 : Nat) < List.length s.3 ∧ K (AVal.int .u64 (peek s.3 a)) [some (Entry.cells [AVal.int .i64 s.1, AVal.int .i64 s.2, AVal.slice 1 0 (List.length s.3) 1, AVal.int .i64 (W (s.4 + 1)), AVal.int .i64 4, AVal.int .i64 a, AVal.int .u64 (peek s.3 a), AVal.int .u64 (WU (peek s.3 a + x)), AVal.bool true]), some (Entry.ints (some .u64) (List.set s.3 (0 + Int.toNat a * 1) (WU (peek s.3 a + x))))]) (by kernel_rfl) ?_))
  refine ⟨⟨rfl, trivial⟩, ?_⟩
  have hc : IntKind.wrap .i64 (s.c + 1) = s.c + 1 := W_in (by omega)
  simp only [W, WU, hc, nat_id]
  unfold MS.added at hK
  rw [memH_did _ _ _ _ _ _ (putI_length _ _ _)] at hK
  refine cond_go (fun e1 => ?_) (fun e1 => cond_go (fun e2 => ?_) (fun e2 => ?_))
  · rw [ilt_eq, decide_eq_true_eq] at e1
    rw [inB_false (by omega), putI_out (by omega)] at hK
    rw [peek_out (by omega)] at hK ⊢; exact hK
  · rw [ile_eq, decide_eq_true_eq] at e2
    rw [inB_false (by omega), putI_out (by omega)] at hK
    rw [peek_out (by omega)] at hK ⊢; exact hK
  · rw [ilt_eq, decide_eq_false_iff_not] at e1
    rw [ile_eq, decide_eq_false_iff_not] at e2
    refine ⟨by omega, by omega, ?_⟩
    rw [inB_true.2 (by omega), putI_in (by omega)] at hK
    exact hK

noncomputable def E3 := (((E2.addS 69 loadS load_ok).addS 16 storeS store_ok).addS 71 casS cas_ok).addS 65 addS add_ok

end Go.Sh

/- A store's first node; a machine that takes a node, begun. -/
namespace Go.Sh
open Go Go.Proofs
variable [Con]
def firstV (t n me : Int) : Int := if t < 1 then 1 else 1 + Int.tdiv (me * n) t
theorem tdiv_in {x t : Int} (h : 0 ≤ x) (ht : 1 ≤ t) : 0 ≤ Int.tdiv x t ∧ Int.tdiv x t ≤ x := by
  rw [Int.tdiv_eq_ediv_of_nonneg h]
  exact ⟨Int.ediv_nonneg h (by omega), Int.ediv_le_self t h⟩

def first0S : Spec Ob := fun args h => match args, h with
  | [.ptr 0 0], some (.cells (.int .i64 t :: .int .i64 n :: .int .i64 me :: tl)) :: rest => some (.pre ((0 ≤ me ∧ me ≤ 100000) ∧ (0 ≤ n ∧ n ≤ 100000)) (.ret (.int .i64 (firstV t n me)) (some (.cells (.int .i64 t :: .int .i64 n :: .int .i64 me :: tl)) :: rest)))
  | _, _ => none
def firstS : RSpec Ob := fun args h => match args, h with
  | [.ptr 0 0], some (.cells (.int .i64 t :: .int .i64 n :: .int .i64 me :: tl)) :: rest => some (((0 ≤ me ∧ me ≤ 100000) ∧ (0 ≤ n ∧ n ≤ 100000)), .int .i64 (firstV t n me))
  | _, _ => none
def lifeNewS : Spec Ob := fun args h => match args, h with
  | [.agg [.int .i64 t, .int .i64 n], .int .i64 a], [] => some (.pre (True) (.ret (.ptr 0 0) ([some (.cells [.int .i64 t, .int .i64 n, .int .i64 0, .int .i64 (bif nodeB n a then a else 1), .int .i64 n, .int .u64 0, .bool false])])))
  | _, _ => none
noncomputable def E4a := E3

noncomputable def E4 := E4a

end Go.Sh

/- The example of a store. -/
namespace Go.Sh
open Go Go.Proofs
variable [Con]
noncomputable def LL : FuncId → Nat → Option (Plan Ob) := fun _ _ => some (.rounds 12)

def awake13S : Spec Ob := fun args h => match args, h with
  | [], [] => some (.pre (True) (.ret (.bool true) ([])))
  | _, _ => none
noncomputable def E5 := E4

end Go.Sh

/- A list's copy; two lists that are one. -/
namespace Go.Sh
open Go Go.Proofs
variable [Con]
def cloneS : Spec Ob := fun args h => match args, h with
  | [.slice 0 0 n 1], [some (.ints (some .i64) xs)] => some (.pre (n = xs.length ∧ n ≤ 4294967296) (.ret (.slice 1 0 xs.length 1) [some (.ints (some .i64) xs), some (.ints (some .i64) xs)]))
  | _, _ => none
/- OPQ -/
def sameB (xs ys : List Int) : Bool := decide (xs = ys)
theorem sameB_true {xs ys : List Int} : sameB xs ys = true ↔ xs = ys := by unfold sameB; exact decide_eq_true_iff
structure okI (xs ys : List Int) (i : Nat) : Prop where
  h1 : i ≤ xs.length
  h2 : xs.length = ys.length
  h3 : xs.take i = ys.take i
def HI (xs ys : List Int) : Hint Ob := { X := Nat, st := fun i => ([.slice 0 0 xs.length 1, .slice 1 0 ys.length 1, .top, .top, .top, .int .i64 (i : Int)] ++ List.replicate 20 .top, [some (.ints (some .i64) xs), some (.ints (some .i64) ys)]), ok := okI xs ys, mu := fun i => xs.length - i, keep := [0, 1, 5] }
def intsS0 : Spec Ob := fun args h => match args, h with
  | [.slice 0 0 n 1, .slice 1 0 m 1], [some (.ints (some .i64) xs), some (.ints (some .i64) ys)] => some (.pre ((n = xs.length ∧ m = ys.length) ∧ n ≤ 4294967296) (.ret (.bool (sameB xs ys)) [some (.ints (some .i64) xs), some (.ints (some .i64) ys)]))
  | _, _ => none
def intsS : RSpec Ob := fun args h => match args, h with
  | [.slice 0 0 n 1, .slice 1 0 m 1], [some (.ints (some .i64) xs), some (.ints (some .i64) ys)] => some ((n = xs.length ∧ m = ys.length) ∧ n ≤ 4294967296, .bool (sameB xs ys))
  | _, _ => none
noncomputable def E6 := (E5)
end Go.Sh

/- A store: begun; what it holds; whether it is full. -/
namespace Go.Sh
open Go Go.Proofs
variable [Con]
def storeNewS : Spec Ob := fun args h => match args, h with
  | [.agg [.int .i64 t, .int .i64 n], .int .i64 me], [] => some (.ret (.ptr 0 0) [some (.cells [.int .i64 t, .int .i64 n, .int .i64 me, .int .i64 0, .raw (.slice none 0 0)])])
  | _, _ => none
/- OPQ -/
def heldL (sp : Int) (xs : List Int) : List Int := bif ieq sp 0 then xs else sp :: xs
def heldS : Spec Ob := fun args h => match args, h with
  | [.ptr 0 0], [some (.cells [.int .i64 t, .int .i64 n, .int .i64 me, .int .i64 sp, .slice 1 0 k 1]), some (.ints (some .i64) xs)] => some (.pre (k = xs.length ∧ k ≤ 1000000) (.ret (.slice 2 0 (heldL sp xs).length 1) [some (.cells [.int .i64 t, .int .i64 n, .int .i64 me, .int .i64 sp, .slice 1 0 k 1]), some (.ints (some .i64) xs), some (.ints (some .i64) (heldL sp xs))]))
  | _, _ => none
def fullS0 : Spec Ob := fun args h => match args, h with
  | [.ptr 0 0], some (.cells [.int .i64 t, .int .i64 n, .int .i64 me, .int .i64 sp, .slice 1 0 k 1]) :: rest => some (.pre (0 ≤ t ∧ t ≤ 100000) (.ret (.bool (ile (4 * t) (k : Int))) (some (.cells [.int .i64 t, .int .i64 n, .int .i64 me, .int .i64 sp, .slice 1 0 k 1]) :: rest)))
  | _, _ => none
def fullS : RSpec Ob := fun args h => match args, h with
  | [.ptr 0 0], some (.cells [.int .i64 t, .int .i64 n, .int .i64 me, .int .i64 sp, .slice 1 0 k 1]) :: rest => some (0 ≤ t ∧ t ≤ 100000, .bool (ile (4 * t) (k : Int)))
  | _, _ => none
noncomputable def E7 := ((E6))
end Go.Sh

/- The kinds of a shape. -/
namespace Go.Sh
open Go Go.Proofs
variable [Con]
/- OPQ -/
def kindsL (s : Int) : List Int := bif ieq s 1 || ieq s 2 then [1, 2, 3] else bif ieq s 3 || ieq s 4 then [4, 5] else []
def kindsS : Spec Ob := fun args h => match args, h with
  | [.int .i64 s], [] => some (.ret (.slice 0 0 (kindsL s).length 1) [some (.ints (some .i64) (kindsL s))])
  | _, _ => none
noncomputable def E8 := E7
theorem sameB_self (xs : List Int) : sameB xs xs = true := sameB_true.2 rfl
theorem ieq_self (a : Int) : ieq a a = true := by rw [ieq_eq]; simp
end Go.Sh

/- A number in a list. -/
namespace Go.Sh
open Go Go.Proofs
variable [Con]
/- OPQ -/
def hasB (xs : List Int) (n : Int) : Bool := decide (n ∈ xs)
theorem hasB_true {xs : List Int} {n : Int} : hasB xs n = true ↔ n ∈ xs := by unfold hasB; exact decide_eq_true_iff
structure okC (xs : List Int) (n : Int) (i : Nat) : Prop where
  h1 : i ≤ xs.length
  h2 : n ∉ xs.take i
def HC (xs : List Int) (n : Int) : Hint Ob := { X := Nat, st := fun i => ([.slice 0 0 xs.length 1, .int .i64 n, .top, .top, .top, .top, .top, .int .i64 (xs.length : Int), .int .i64 (i : Int)] ++ List.replicate 10 .top, [some (.ints (some .i64) xs)]), ok := okC xs n, mu := fun i => xs.length - i, keep := [0, 1, 7, 8] }
def hasS0 : Spec Ob := fun args h => match args, h with
  | [.slice 0 0 k 1, .int .i64 n], [some (.ints (some .i64) xs)] => some (.pre (k = xs.length ∧ k ≤ 4294967296) (.ret (.bool (hasB xs n)) [some (.ints (some .i64) xs)]))
  | _, _ => none
def hasS : RSpec Ob := fun args h => match args, h with
  | [.slice 0 0 k 1, .int .i64 n], [some (.ints (some .i64) xs)] => some (k = xs.length ∧ k ≤ 4294967296, .bool (hasB xs n))
  | _, _ => none
noncomputable def E9 := E8
end Go.Sh

/- Whether an operation is one of a shape. -/
namespace Go.Sh
open Go Go.Proofs
variable [Con]
theorem kindsL_len (s : Int) : (kindsL s).length ≤ 3 := by
  unfold kindsL
  cases (ieq s 1 || ieq s 2) <;> cases (ieq s 3 || ieq s 4) <;> simp
/- OPQ -/
def rightT (s k y : Int) : Bool := hasB (kindsL s) k && (ile 0 y && ile y (bif ieq k 5 then 0 else 999))
def rightS : RSpec Ob := fun args h => match args, h with
  | [.int .i64 s, .agg [.int .i64 k, .int .i64 y]], [] => some (True, .bool (rightT s k y))
  | _, _ => none
noncomputable def E10 := E9
end Go.Sh

/- A node's word: bits of others. -/
namespace Go.Sh
open Go Go.Proofs
variable [Con]
/- OPQ -/
def cutI (x a w : Int) : Int := x / 2 ^ a.toNat % 2 ^ w.toNat
/- OPQ -/
def bitI (b : Bool) : Int := bif b then 1 else 0
/- OPQ -/
def fitI (n w : Int) : Bool := ile 0 n && ilt n (2 ^ w.toNat)
theorem toNat_ofInt (n : Nat) (x : Int) : ((BitVec.ofInt n x).toNat : Int) = x % 2 ^ n := by
  rw [BitVec.toNat_ofInt]
  have h : (0 : Int) < (2 ^ n : Nat) := by exact_mod_cast Nat.two_pow_pos n
  have h2 : 0 ≤ x % ((2 ^ n : Nat) : Int) := Int.emod_nonneg _ (by omega)
  rw [Int.toNat_of_nonneg h2]
  push_cast
  rfl
theorem two_pos (w : Nat) : (0 : Int) < 2 ^ w := by
  have : ((2 ^ w : Nat) : Int) = 2 ^ w := by push_cast; rfl
  have h : 0 < 2 ^ w := Nat.two_pow_pos w
  omega
theorem two_le {w n : Nat} (h : w ≤ n) : (2 : Int) ^ w ≤ 2 ^ n := by
  have a : ((2 ^ w : Nat) : Int) = 2 ^ w := by push_cast; rfl
  have b : ((2 ^ n : Nat) : Int) = 2 ^ n := by push_cast; rfl
  have h : 2 ^ w ≤ 2 ^ n := Nat.pow_le_pow_right (by omega) h
  omega
theorem two_dvd {w n : Nat} (h : w ≤ n) : (2 : Int) ^ w ∣ 2 ^ n := by
  have a : ((2 ^ w : Nat) : Int) = 2 ^ w := by push_cast; rfl
  have b : ((2 ^ n : Nat) : Int) = 2 ^ n := by push_cast; rfl
  rw [← a, ← b]
  exact Int.natCast_dvd_natCast.2 (Nat.pow_dvd_pow 2 h)
theorem and_mask {n w : Nat} (x : Int) (h : w < n) : ((BitVec.ofInt n x &&& BitVec.ofInt n (2 ^ w - 1)).toNat : Int) = x % 2 ^ w := by
  have hp := two_pos w
  have h3 : (2 : Int) ^ w ≤ 2 ^ n := two_le (by omega)
  have e1 : (BitVec.ofInt n (2 ^ w - 1)).toNat = 2 ^ w - 1 := by
    have : ((BitVec.ofInt n (2 ^ w - 1)).toNat : Int) = ((2 ^ w - 1 : Nat) : Int) := by
      rw [toNat_ofInt, Int.emod_eq_of_lt (by omega) (by omega)]
      have a : ((2 ^ w : Nat) : Int) = 2 ^ w := by push_cast; rfl
      have : 1 ≤ 2 ^ w := Nat.one_le_two_pow
      omega
    exact_mod_cast this
  rw [BitVec.toNat_and, e1, Nat.and_two_pow_sub_one_eq_mod]
  push_cast
  rw [toNat_ofInt]
  exact Int.emod_emod_of_dvd _ (two_dvd (by omega))
theorem or_shift {n a : Nat} {x y : Int} (hx : 0 ≤ x ∧ x < 2 ^ a) (hy : 0 ≤ y) (h : y * 2 ^ a + x < 2 ^ n) :
    ((BitVec.ofInt n x ||| BitVec.ofInt n (y * 2 ^ a)).toNat : Int) = x + y * 2 ^ a := by
  have hp := two_pos a
  have hya : 0 ≤ y * 2 ^ a := Int.mul_nonneg hy (by omega)
  obtain ⟨u, rfl⟩ := Int.eq_ofNat_of_zero_le hx.1
  obtain ⟨v, rfl⟩ := Int.eq_ofNat_of_zero_le hy
  have e1 : (BitVec.ofInt n (u : Int)).toNat = u := by
    have : ((BitVec.ofInt n (u : Int)).toNat : Int) = (u : Int) := by
      rw [toNat_ofInt, Int.emod_eq_of_lt (by omega) (by omega)]
    exact_mod_cast this
  have e2 : (BitVec.ofInt n ((v : Int) * 2 ^ a)).toNat = v * 2 ^ a := by
    have : ((BitVec.ofInt n ((v : Int) * 2 ^ a)).toNat : Int) = ((v * 2 ^ a : Nat) : Int) := by
      rw [toNat_ofInt, Int.emod_eq_of_lt (by omega) (by omega)]; push_cast; rfl
    exact_mod_cast this
  have hu : u < 2 ^ a := by
    have b : ((2 ^ a : Nat) : Int) = 2 ^ a := by push_cast; rfl
    omega
  rw [BitVec.toNat_or, e1, e2]
  have : u ||| v * 2 ^ a = u + v * 2 ^ a := by
    have := Nat.shiftLeft_add_eq_or_of_lt hu v
    rw [Nat.shiftLeft_eq] at this
    rw [Nat.or_comm, ← this]; omega
  rw [this]; push_cast; rfl

theorem WU_in {x : Int} (h : 0 ≤ x ∧ x ≤ 18446744073709551615) : IntKind.wrap IntKind.u64 x = x := IntWalk.u64_in x h
theorem two_lt {w n : Nat} (h : w ≤ n) {b : Int} (e : b = 2 ^ n) : (2 : Int) ^ w ≤ b := by rw [e]; exact two_le h
def cutS : RSpec Ob := fun args h => match args, h with
  | [.int .u64 x, .int .i64 a, .int .i64 w], [] => some ((0 ≤ a ∧ a ≤ 63) ∧ (0 ≤ w ∧ w ≤ 62), .int .i64 (cutI x a w))
  | _, _ => none
theorem cut_ok : Spec.ok E10.I Try.prog 68 cutS.spec := by
  intro args h o ho K hK
  unfold RSpec.spec at ho
  split at ho
  case h_2 => cases ho
  rename_i p v hv
  unfold cutS at hv
  split at hv
  case h_2 => cases hv
  rename_i x a w
  simp only [Option.some.injEq, Prod.mk.injEq] at hv
  obtain ⟨rfl, rfl⟩ := hv
  simp only [Option.some.injEq] at ho; subst ho
  obtain ⟨⟨ha, hw⟩, hK⟩ := hK
  have hK : K (.int .i64 (cutI x a w)) [] := hK
  refine CallOk.trim (callOk_of (E := E10) Try.checked.mixed (L := fun _ _ => none) (n := 10) (of_nf (q := (0 : Int) ≤ a ∧ (0 : Int) ≤ w ∧ K (AVal.int .i64 (W (WU (↑(BitVec.toNat (BitVec.ofInt (IntKind.bits .u64) (Int.fdiv x (2 ^ min (Int.toNat a) (IntKind.bits .u64))) &&& BitVec.ofInt (IntKind.bits .u64) (WU (WU (1 * 2 ^ min (Int.toNat w) (IntKind.bits .u64)) - 1)))) : Int)))) []) (by kernel_rfl) ?_))
  refine ⟨by omega, by omega, ?_⟩
  refine cast (congrArg (fun z => K (AVal.int .i64 z) []) ?_) hK
  show cutI x a w = _
  have hb : IntKind.bits .u64 = 64 := rfl
  rw [hb]
  have h1 : min a.toNat 64 = a.toNat := by omega
  have h2 : min w.toNat 64 = w.toNat := by omega
  have h3 : (2 : Int) ^ w.toNat ≤ 4611686018427387904 := two_lt (n := 62) (by omega) (by decide)
  have h4 := two_pos w.toNat
  have h5 := two_pos a.toNat
  rw [h1, h2, Int.fdiv_eq_ediv_of_nonneg _ (by omega)]
  simp only [WU, W, Int.one_mul]
  rw [WU_in (x := 2 ^ w.toNat) (by omega), WU_in (x := 2 ^ w.toNat - 1) (by omega), and_mask _ (by omega)]
  have h6 := Int.emod_nonneg (x / 2 ^ a.toNat) (b := 2 ^ w.toNat) (by omega)
  have h7 := Int.emod_lt_of_pos (x / 2 ^ a.toNat) (b := 2 ^ w.toNat) (by omega)
  rw [WU_in (by omega), W_in (by omega)]
  rfl
def bitS : RSpec Ob := fun args h => match args, h with
  | [.bool b], [] => some (True, .int .i64 (bitI b))
  | _, _ => none
theorem bit_ok : Spec.ok E10.I Try.prog 81 bitS.spec := by
  intro args h o ho K hK
  unfold RSpec.spec at ho
  split at ho
  case h_2 => cases ho
  rename_i p v hv
  unfold bitS at hv
  split at hv
  case h_2 => cases hv
  rename_i b
  simp only [Option.some.injEq, Prod.mk.injEq] at hv
  obtain ⟨rfl, rfl⟩ := hv
  simp only [Option.some.injEq] at ho; subst ho
  obtain ⟨_, hK⟩ := hK
  have hK : K (.int .i64 (bitI b)) [] := hK
  refine CallOk.trim (callOk_of (E := E10) Try.checked.mixed (L := fun _ _ => none) (n := 10) (of_nf (q := bif b then K (AVal.int .i64 1) [] else K (AVal.int .i64 0) []) (by kernel_rfl) ?_))
  cases b <;> exact hK
def fitS : RSpec Ob := fun args h => match args, h with
  | [.agg [.int .i64 n, .int .i64 w]], [] => some (0 ≤ w ∧ w ≤ 62, .bool (fitI n w))
  | _, _ => none
theorem fit_ok : Spec.ok E10.I Try.prog 78 fitS.spec := by
  intro args h o ho K hK
  unfold RSpec.spec at ho
  split at ho
  case h_2 => cases ho
  rename_i p v hv
  unfold fitS at hv
  split at hv
  case h_2 => cases hv
  rename_i n w
  simp only [Option.some.injEq, Prod.mk.injEq] at hv
  obtain ⟨rfl, rfl⟩ := hv
  simp only [Option.some.injEq] at ho; subst ho
  obtain ⟨hw, hK⟩ := hK
  have hK : K (.bool (fitI n w)) [] := hK
  refine CallOk.trim (callOk_of (E := E10) Try.checked.mixed (L := fun _ _ => none) (n := 10) (of_nf (q := bif ile 0 n then (0 : Int) ≤ w ∧ K (AVal.bool (ilt n (W (1 * 2 ^ min (Int.toNat w) (IntKind.bits .i64))))) [] else K (AVal.bool false) []) (by kernel_rfl) ?_))
  unfold fitI at hK
  have hb : IntKind.bits .i64 = 64 := rfl
  have h2 : min w.toNat 64 = w.toNat := by omega
  have h3 : (2 : Int) ^ w.toNat ≤ 4611686018427387904 := two_lt (n := 62) (by omega) (by decide)
  have h4 := two_pos w.toNat
  refine cond_go (fun e => ⟨by omega, ?_⟩) (fun e => ?_)
  · rw [e] at hK
    rw [hb, h2, W, Int.one_mul, W_in (by omega)]
    exact hK
  · rw [e] at hK; exact hK
/- OPQ -/
def newerI (v : Int) : Int := (v + 1) % 262144
def linkS : RSpec Ob := fun args h => match args, h with
  | [.agg [.int .i64 k, .int .i64 x, .bool m, .int .i64 c, .int .i64 v], .int .i64 y], [] => some (0 ≤ v ∧ v ≤ 1000000, .agg [.int .i64 k, .int .i64 y, .bool m, .int .i64 c, .int .i64 (newerI v)])
  | _, _ => none
noncomputable def E11 := ((((E10.addR 68 cutS cut_ok).addR 81 bitS bit_ok).addR 78 fitS fit_ok))

end Go.Sh

/- A node's word: told, and put. -/
namespace Go.Sh
open Go Go.Proofs
variable [Con]
def getV (x : Int) : AVal := .agg [.int .i64 (cutI x 0 10), .int .i64 (cutI x 10 9), .bool (ieq (cutI x 19 1) 1), .int .i64 (cutI x 20 5), .int .i64 (cutI x 25 18)]
def getS : RSpec Ob := fun args h => match args, h with
  | [.int .u64 x], [] => some (True, .agg [.int .i64 (cutI x 0 10), .int .i64 (cutI x 10 9), .bool (ieq (cutI x 19 1) 1), .int .i64 (cutI x 20 5), .int .i64 (cutI x 25 18)])
  | _, _ => none
set_option maxRecDepth 100000 in
theorem get_ok : Spec.ok E11.I Try.prog 53 getS.spec := by
  intro args h o ho K hK
  unfold RSpec.spec at ho
  split at ho
  case h_2 => cases ho
  rename_i p v hv
  unfold getS at hv
  split at hv
  case h_2 => cases hv
  rename_i x
  simp only [Option.some.injEq, Prod.mk.injEq] at hv
  obtain ⟨rfl, rfl⟩ := hv
  simp only [Option.some.injEq] at ho; subst ho
  obtain ⟨_, hK⟩ := hK
  refine CallOk.trim (callOk_of (E := E11) Try.checked.mixed (L := LL) (n := 10) (of_nf (q := ((0 : Int) ≤ (0 : Int) ∧ (0 : Int) < (↑5 : Int)) ∧ ((0 : Int) ≤ (0 : Int) ∧ (0 : Int) < (↑1 : Int)) ∧ 1 + (1 : Nat) ≤ (4294967296 : Nat) ∧ ((0 : Int) ≤ W (0 + 1) ∧ W (0 + 1) < (↑5 : Int)) ∧ ((0 : Int) ≤ W (0 + 1) ∧ W (0 + 1) < (↑(1 + 1) : Int)) ∧ 1 + 1 + (1 : Nat) ≤ (4294967296 : Nat) ∧ ((0 : Int) ≤ W (W (0 + 1) + 1) ∧ W (W (0 + 1) + 1) < (↑5 : Int)) ∧ ((0 : Int) ≤ W (W (0 + 1) + 1) ∧ W (W (0 + 1) + 1) < (↑(1 + 1 + 1) : Int)) ∧ 1 + 1 + 1 + (1 : Nat) ≤ (4294967296 : Nat) ∧ ((0 : Int) ≤ W (W (W (0 + 1) + 1) + 1) ∧ W (W (W (0 + 1) + 1) + 1) < (↑5 : Int)) ∧ ((0 : Int) ≤ W (W (W (0 + 1) + 1) + 1) ∧ W (W (W (0 + 1) + 1) + 1) < (↑(1 + 1 + 1 + 1) : Int)) ∧ 1 + 1 + 1 + 1 + (1 : Nat) ≤ (4294967296 : Nat) ∧ ((0 : Int) ≤ W (W (W (W (0 + 1) + 1) + 1) + 1) ∧ W (W (W (W (0 + 1) + 1) + 1) + 1) < (↑5 : Int)) ∧ ((0 : Int) ≤ W (W (W (W (0 + 1) + 1) + 1) + 1) ∧ W (W (W (W (0 + 1) + 1) + 1) + 1) < (↑(1 + 1 + 1 + 1 + 1) : Int)) ∧ 1 + 1 + 1 + 1 + 1 + (1 : Nat) ≤ (4294967296 : Nat) ∧ ((0 : Int) ≤ (0 : Int) ∧ (0 : Int) < (↑(1 + 1 + 1 + 1 + 1 + 1) : Int)) ∧ (((0 : Int) ≤ (0 : Int) ∧ (0 : Int) ≤ (63 : Int)) ∧ (0 : Int) ≤ (10 : Int) ∧ (10 : Int) ≤ (62 : Int)) ∧ ((0 : Int) ≤ (1 : Int) ∧ (1 : Int) < (↑(1 + 1 + 1 + 1 + 1 + 1) : Int)) ∧ (((0 : Int) ≤ W (0 + 10) ∧ W (0 + 10) ≤ (63 : Int)) ∧ (0 : Int) ≤ (9 : Int) ∧ (9 : Int) ≤ (62 : Int)) ∧ ((0 : Int) ≤ (2 : Int) ∧ (2 : Int) < (↑(1 + 1 + 1 + 1 + 1 + 1) : Int)) ∧ (((0 : Int) ≤ W (W (0 + 10) + 9) ∧ W (W (0 + 10) + 9) ≤ (63 : Int)) ∧ (0 : Int) ≤ (1 : Int) ∧ (1 : Int) ≤ (62 : Int)) ∧ ((0 : Int) ≤ (3 : Int) ∧ (3 : Int) < (↑(1 + 1 + 1 + 1 + 1 + 1) : Int)) ∧ (((0 : Int) ≤ W (W (W (0 + 10) + 9) + 1) ∧ W (W (W (0 + 10) + 9) + 1) ≤ (63 : Int)) ∧ (0 : Int) ≤ (5 : Int) ∧ (5 : Int) ≤ (62 : Int)) ∧ ((0 : Int) ≤ (4 : Int) ∧ (4 : Int) < (↑(1 + 1 + 1 + 1 + 1 + 1) : Int)) ∧ (((0 : Int) ≤ W (W (W (W (0 + 10) + 9) + 1) + 5) ∧ W (W (W (W (0 + 10) + 9) + 1) + 5) ≤ (63 : Int)) ∧ (0 : Int) ≤ (18 : Int) ∧ (18 : Int) ≤ (62 : Int)) ∧ K (AVal.agg [AVal.int .i64 (cutI x 0 10), AVal.int .i64 (cutI x (W (0 + 10)) 9), AVal.bool (ieq (cutI x (W (W (0 + 10) + 9)) 1) 1), AVal.int .i64 (cutI x (W (W (W (0 + 10) + 9) + 1)) 5), AVal.int .i64 (cutI x (W (W (W (W (0 + 10) + 9) + 1) + 5)) 18)]) []) (by kernel_rfl) ?_))
  simp (disch := omega) only [W, W_in, Int.reduceAdd, Int.zero_add]
  repeat refine ⟨by omega, ?_⟩
  exact hK
theorem fitI_true {n w : Int} : fitI n w = true ↔ 0 ≤ n ∧ n < 2 ^ w.toNat := by
  unfold fitI; simp only [ile_eq, ilt_eq, Bool.and_eq_true, decide_eq_true_eq]
theorem or_sh {a : Nat} {x y p s q : Int} (e : p = 2 ^ a) (hx : 0 ≤ x ∧ x < p) (hy : 0 ≤ y) (h : y * p + x ≤ 18446744073709551615) (hs : s = x + y * p) (eq : q = p) :
    WU (((BitVec.ofInt 64 x ||| BitVec.ofInt 64 (WU (WU y * q))).toNat : Int)) = s := by
  subst eq
  have hya : 0 ≤ y * q := Int.mul_nonneg hy (by omega)
  have h1 : y ≤ y * q := by
    have := Int.mul_le_mul_of_nonneg_left (show (1 : Int) ≤ q by omega) hy
    omega
  have e1 : WU y = y := WU_in (by omega)
  rw [e1]
  have e2 : WU (y * q) = y * q := WU_in (by omega)
  rw [e2]
  subst e
  rw [or_shift hx hy (by have : (2 : Int) ^ 64 = 18446744073709551616 := by decide
                         omega)]
  rw [hs]
  exact WU_in (by omega)
theorem fit_bit (m : Bool) : fitI (bitI m) 1 = true := by cases m <;> rfl
theorem fit_not {n w : Int} (h : (!fitI n w) = true) : fitI n w = false := by simpa using h
theorem fit_yes {n w : Int} (h : (!fitI n w) = false) : fitI n w = true := by simpa using h
def putOk (k x : Int) (m : Bool) (c v : Int) : Bool := fitI k 10 && (fitI x 9 && (fitI c 5 && fitI v 18))
def putV (k x : Int) (m : Bool) (c v : Int) : Int := k + x * 1024 + bitI m * 524288 + c * 1048576 + v * 33554432
def putS : RSpec Ob := fun args h => match args, h with
  | [.agg [.int .i64 k, .int .i64 x, .bool m, .int .i64 c, .int .i64 v]], [] => some (True, .tup [.int .u64 (bif putOk k x m c v then putV k x m c v else 0), .int .i64 (bif putOk k x m c v then 0 else 2)])
  | _, _ => none
set_option maxRecDepth 100000 in
theorem put_ok : Spec.ok E11.I Try.prog 70 putS.spec := by
  intro args h o ho K hK
  unfold RSpec.spec at ho
  split at ho
  case h_2 => cases ho
  rename_i p v hv
  unfold putS at hv
  split at hv
  case h_2 => cases hv
  rename_i k x m c v
  simp only [Option.some.injEq, Prod.mk.injEq] at hv
  obtain ⟨rfl, rfl⟩ := hv
  simp only [Option.some.injEq] at ho; subst ho
  obtain ⟨_, hK⟩ := hK
  refine CallOk.trim (callOk_of (E := E11) Try.checked.mixed (L := LL) (n := 10) (of_nf (q := True ∧ ((0 : Int) ≤ (0 : Int) ∧ (0 : Int) < (↑5 : Int)) ∧ ((0 : Int) ≤ (10 : Int) ∧ (10 : Int) ≤ (62 : Int)) ∧ bif !fitI k 10 then K (AVal.tup [AVal.int .u64 0, AVal.int .i64 2]) [] else (0 : Int) ≤ (0 : Int) ∧ ((0 : Int) ≤ W (0 + 1) ∧ W (0 + 1) < (↑5 : Int)) ∧ ((0 : Int) ≤ (9 : Int) ∧ (9 : Int) ≤ (62 : Int)) ∧ bif !fitI x 9 then K (AVal.tup [AVal.int .u64 0, AVal.int .i64 2]) [] else (0 : Int) ≤ W (0 + 10) ∧ ((0 : Int) ≤ W (W (0 + 1) + 1) ∧ W (W (0 + 1) + 1) < (↑5 : Int)) ∧ ((0 : Int) ≤ (1 : Int) ∧ (1 : Int) ≤ (62 : Int)) ∧ bif !fitI (bitI m) 1 then K (AVal.tup [AVal.int .u64 0, AVal.int .i64 2]) [] else (0 : Int) ≤ W (W (0 + 10) + 9) ∧ ((0 : Int) ≤ W (W (W (0 + 1) + 1) + 1) ∧ W (W (W (0 + 1) + 1) + 1) < (↑5 : Int)) ∧ ((0 : Int) ≤ (5 : Int) ∧ (5 : Int) ≤ (62 : Int)) ∧ bif !fitI c 5 then K (AVal.tup [AVal.int .u64 0, AVal.int .i64 2]) [] else (0 : Int) ≤ W (W (W (0 + 10) + 9) + 1) ∧ ((0 : Int) ≤ W (W (W (W (0 + 1) + 1) + 1) + 1) ∧ W (W (W (W (0 + 1) + 1) + 1) + 1) < (↑5 : Int)) ∧ ((0 : Int) ≤ (18 : Int) ∧ (18 : Int) ≤ (62 : Int)) ∧ bif !fitI v 18 then K (AVal.tup [AVal.int .u64 0, AVal.int .i64 2]) [] else (0 : Int) ≤ W (W (W (W (0 + 10) + 9) + 1) + 5) ∧ K (AVal.tup [AVal.int .u64 (WU (↑(BitVec.toNat (BitVec.ofInt (IntKind.bits .u64) (WU (↑(BitVec.toNat (BitVec.ofInt (IntKind.bits .u64) (WU (↑(BitVec.toNat (BitVec.ofInt (IntKind.bits .u64) (WU (↑(BitVec.toNat (BitVec.ofInt (IntKind.bits .u64) (WU (↑(BitVec.toNat (BitVec.ofInt (IntKind.bits .u64) 0 ||| BitVec.ofInt (IntKind.bits .u64) (WU (WU k * 2 ^ min (Int.toNat 0) (IntKind.bits .u64))))) : Int)) ||| BitVec.ofInt (IntKind.bits .u64) (WU (WU x * 2 ^ min (Int.toNat (W (0 + 10))) (IntKind.bits .u64))))) : Int)) ||| BitVec.ofInt (IntKind.bits .u64) (WU (WU (bitI m) * 2 ^ min (Int.toNat (W (W (0 + 10) + 9))) (IntKind.bits .u64))))) : Int)) ||| BitVec.ofInt (IntKind.bits .u64) (WU (WU c * 2 ^ min (Int.toNat (W (W (W (0 + 10) + 9) + 1))) (IntKind.bits .u64))))) : Int)) ||| BitVec.ofInt (IntKind.bits .u64) (WU (WU v * 2 ^ min (Int.toNat (W (W (W (W (0 + 10) + 9) + 1) + 5))) (IntKind.bits .u64))))) : Int)), AVal.int .i64 0]) []) (by kernel_rfl) ?_))
  simp (disch := omega) only [W, W_in, Int.reduceAdd, Int.zero_add, Int.reduceToNat]
  refine ⟨trivial, ⟨by omega, by omega⟩, by omega, cond_go (fun e => ?_) (fun e1 => ⟨by omega, by omega, by omega, cond_go (fun e => ?_) (fun e2 => ⟨by omega, by omega, by omega, cond_go (fun e => ?_) (fun _ => ⟨by omega, by omega, by omega, cond_go (fun e => ?_) (fun e3 => ⟨by omega, by omega, by omega, cond_go (fun e => ?_) (fun e4 => ⟨by omega, ?_⟩)⟩)⟩)⟩)⟩)⟩
  · unfold putOk at hK
    rw [fit_not e] at hK
    exact hK
  · unfold putOk at hK
    rw [fit_yes e1, fit_not e] at hK
    exact hK
  · rw [fit_bit] at e; cases e
  · unfold putOk at hK
    rw [fit_yes e1, fit_yes e2, fit_not e] at hK
    exact hK
  · unfold putOk at hK
    rw [fit_yes e1, fit_yes e2, fit_yes e3, fit_not e] at hK
    exact hK
  · unfold putOk at hK
    rw [fit_yes e1, fit_yes e2, fit_yes e3, fit_yes e4] at hK
    have f1 := fitI_true.1 (fit_yes e1)
    have f2 := fitI_true.1 (fit_yes e2)
    have f3 := fitI_true.1 (fit_yes e3)
    have f4 := fitI_true.1 (fit_yes e4)
    have fm : 0 ≤ bitI m ∧ bitI m ≤ 1 := by cases m <;> decide
    have hb : IntKind.bits .u64 = 64 := rfl
    have p1 : (2 : Int) ^ (10 : Int).toNat = 1024 := by decide
    have p2 : (2 : Int) ^ (9 : Int).toNat = 512 := by decide
    have p3 : (2 : Int) ^ (5 : Int).toNat = 32 := by decide
    have p4 : (2 : Int) ^ (18 : Int).toNat = 262144 := by decide
    rw [p1] at f1; rw [p2] at f2; rw [p3] at f3; rw [p4] at f4
    refine cast (congrArg (fun z => K (AVal.tup [.int .u64 z, .int .i64 0]) []) ?_) hK
    show putV k x m c v = _
    unfold putV
    symm
    have q0 := or_sh (a := 0) (x := 0) (y := k) (p := 1) (q := 2 ^ min 0 64) (s := k) (by decide) (by omega) (by omega) (by omega) (by omega) (by decide)
    have q1 := or_sh (a := 10) (x := k) (y := x) (p := 1024) (q := 2 ^ min 10 64) (s := k + x * 1024) (by decide) (by omega) (by omega) (by omega) (by omega) (by decide)
    have q2 := or_sh (a := 19) (x := k + x * 1024) (y := bitI m) (p := 524288) (q := 2 ^ min 19 64) (s := k + x * 1024 + bitI m * 524288) (by decide) (by omega) (by omega) (by omega) (by omega) (by decide)
    have q3 := or_sh (a := 20) (x := k + x * 1024 + bitI m * 524288) (y := c) (p := 1048576) (q := 2 ^ min 20 64) (s := k + x * 1024 + bitI m * 524288 + c * 1048576) (by decide) (by omega) (by omega) (by omega) (by omega) (by decide)
    have q4 := or_sh (a := 25) (x := k + x * 1024 + bitI m * 524288 + c * 1048576) (y := v) (p := 33554432) (q := 2 ^ min 25 64) (s := k + x * 1024 + bitI m * 524288 + c * 1048576 + v * 33554432) (by decide) (by omega) (by omega) (by omega) (by omega) (by decide)
    rw [hb]
    rw [WU] at q0 q1 q2 q3 q4
    simp only [WU] at q0 q1 q2 q3 q4 ⊢
    rw [q0, q1, q2, q3, q4]
noncomputable def E12 := (E11.addR 53 getS get_ok).addR 70 putS put_ok
end Go.Sh

/- A number in a list; a world's memory. -/
namespace Go.Sh
open Go Go.Proofs
variable [Con]
def HD (xs : List Int) (n : Int) : Hint Ob := { X := Nat, st := fun i => ([.slice 0 0 xs.length 1, .int .i64 n, .top, .top, .top, .int .i64 (i : Int)] ++ List.replicate 12 .top, [some (.ints (some .i64) xs)]), ok := okC xs n, mu := fun i => xs.length - i, keep := [0, 1, 5] }
noncomputable def E13a := E12

/- OPQ -/
def thr (t : Int) : Int := 1 + Int.tmod t 4
/- OPQ -/
def nod (n : Int) : Int := 1 + Int.tmod n 12
theorem thr_in {t : Int} (h : 0 ≤ t ∧ t ≤ 255) : 1 ≤ thr t ∧ thr t ≤ 4 := by unfold thr; rw [Int.tmod_eq_emod_of_nonneg h.1]; omega
theorem nod_in {t : Int} (h : 0 ≤ t ∧ t ≤ 255) : 1 ≤ nod t ∧ nod t ≤ 12 := by unfold nod; rw [Int.tmod_eq_emod_of_nonneg h.1]; omega
/- OPQ -/
def memW (t n : Int) (xs : List Int) : List Int := overI (List.replicate (2 * n + 5 * t + 6).toNat 0) 0 (xs.take (2 * n + 5 * t + 6).toNat)
theorem memW_length (t n : Int) (xs : List Int) : (memW t n xs).length = (2 * n + 5 * t + 6).toNat := by
  unfold memW overI; simp; omega
theorem W_id {x : Int} (h : -9223372036854775808 ≤ x ∧ x ≤ 9223372036854775807) : W x = x := W_in h
def memoryS : Spec Ob := fun args h => match args, h with
  | [.agg [.int .u8 t, .int .u8 n, .iview (some .u64) xs]], [] => some (.pre ((0 ≤ t ∧ t ≤ 255) ∧ (0 ≤ n ∧ n ≤ 255)) (.ret (.tup [.ptr 0 0, .agg [.int .i64 (thr t), .int .i64 (nod n)], .agg [.int .i64 (thr t), .int .i64 (nod n)]]) (memH ⟨thr t, nod n, memW (thr t) (nod n) xs, 0, 0, 0, 0, 0, false⟩)))
  | _, _ => none
theorem memory_ok : Spec.ok E13a.I Try.prog 15 memoryS := by
  intro args h o ho K hK
  unfold memoryS at ho
  split at ho
  case h_2 => cases ho
  rename_i t n xs
  simp only [Option.some.injEq] at ho; subst ho
  obtain ⟨⟨ht, hn⟩, hK⟩ := hK
  have hK : K (.tup [.ptr 0 0, .agg [.int .i64 (thr t), .int .i64 (nod n)], .agg [.int .i64 (thr t), .int .i64 (nod n)]]) (memH ⟨thr t, nod n, memW (thr t) (nod n) xs, 0, 0, 0, 0, 0, false⟩) := hK
  refine CallOk.trim (callOk_of (E := E13a) Try.checked.mixed (L := LL) (n := 10) (of_nf (q := (4 : Int) ≠ (0 : Int) ∧ (12 : Int) ≠ (0 : Int) ∧ bif ilt (W (W (W (2 * W (1 + Int.tmod (W n) 12)) + W (5 * W (1 + Int.tmod (W t) 4))) + 6)) (↑(List.length xs) : Int) then ((0 : Int) ≤ W (W (W (2 * W (1 + Int.tmod (W n) 12)) + W (5 * W (1 + Int.tmod (W t) 4))) + 6) ∧ Int.toNat (W (W (W (2 * W (1 + Int.tmod (W n) 12)) + W (5 * W (1 + Int.tmod (W t) 4))) + 6)) ≤ List.length xs) ∧ True ∧ bif !rightB (W (1 + Int.tmod (W t) 4)) (W (1 + Int.tmod (W n) 12)) then K (AVal.tup [AVal.raw (Value.pointer none), AVal.agg [AVal.int .i64 (W (1 + Int.tmod (W t) 4)), AVal.int .i64 (W (1 + Int.tmod (W n) 12))], AVal.agg [AVal.int .i64 0, AVal.int .i64 0]]) [] else (((0 : Int) ≤ W (1 + Int.tmod (W t) 4) ∧ W (1 + Int.tmod (W t) 4) ≤ (100000 : Int)) ∧ (0 : Int) ≤ W (1 + Int.tmod (W n) 12) ∧ W (1 + Int.tmod (W n) 12) ≤ (100000 : Int)) ∧ bif ilt (2 * W (1 + Int.tmod (W n) 12) + 5 * W (1 + Int.tmod (W t) 4) + 6) (↑(List.length (List.take (Int.toNat (W (W (W (2 * W (1 + Int.tmod (W n) 12)) + W (5 * W (1 + Int.tmod (W t) 4))) + 6))) xs)) : Int) then K (AVal.tup [AVal.raw (Value.pointer none), AVal.agg [AVal.int .i64 (W (1 + Int.tmod (W t) 4)), AVal.int .i64 (W (1 + Int.tmod (W n) 12))], AVal.agg [AVal.int .i64 0, AVal.int .i64 0]]) [] else ((((0 : Int) ≤ W (1 + Int.tmod (W t) 4) ∧ W (1 + Int.tmod (W t) 4) ≤ (100000 : Int)) ∧ (0 : Int) ≤ W (1 + Int.tmod (W n) 12) ∧ W (1 + Int.tmod (W n) 12) ≤ (100000 : Int)) ∧ True) ∧ ((0 : Int) ≤ (2 : Int) * W (1 + Int.tmod (W n) 12) + 5 * W (1 + Int.tmod (W t) 4) + 6 ∧ 2 * W (1 + Int.tmod (W n) 12) + 5 * W (1 + Int.tmod (W t) 4) + (6 : Int) = (2 : Int) * W (1 + Int.tmod (W n) 12) + 5 * W (1 + Int.tmod (W t) 4) + 6 ∧ 2 * W (1 + Int.tmod (W n) 12) + 5 * W (1 + Int.tmod (W t) 4) + (6 : Int) ≤ (4294967296 : Int)) ∧ 0 + Int.toNat (2 * W (1 + Int.tmod (W n) 12) + 5 * W (1 + Int.tmod (W t) 4) + 6) ≤ List.length (List.replicate (Int.toNat (2 * W (1 + Int.tmod (W n) 12) + 5 * W (1 + Int.tmod (W t) 4) + 6)) (0 : Int)) ∧ K (AVal.tup [AVal.ptr 0 0, AVal.agg [AVal.int .i64 (W (1 + Int.tmod (W t) 4)), AVal.int .i64 (W (1 + Int.tmod (W n) 12))], AVal.agg [AVal.int .i64 (W (1 + Int.tmod (W t) 4)), AVal.int .i64 (W (1 + Int.tmod (W n) 12))]]) [some (Entry.cells [AVal.int .i64 (W (1 + Int.tmod (W t) 4)), AVal.int .i64 (W (1 + Int.tmod (W n) 12)), AVal.slice 1 0 (Int.toNat (2 * W (1 + Int.tmod (W n) 12) + 5 * W (1 + Int.tmod (W t) 4) + 6)) 1, AVal.int .i64 0, AVal.int .i64 0, AVal.int .i64 0, AVal.int .u64 0, AVal.int .u64 0, AVal.bool false]), some (Entry.ints (some .u64) (overI (List.replicate (Int.toNat (2 * W (1 + Int.tmod (W n) 12) + 5 * W (1 + Int.tmod (W t) 4) + 6)) (0 : Int)) 0 (List.take (min (List.length (List.take (Int.toNat (W (W (W (2 * W (1 + Int.tmod (W n) 12)) + W (5 * W (1 + Int.tmod (W t) 4))) + 6))) xs)) (Int.toNat (2 * W (1 + Int.tmod (W n) 12) + 5 * W (1 + Int.tmod (W t) 4) + 6))) (List.take (Int.toNat (W (W (W (2 * W (1 + Int.tmod (W n) 12)) + W (5 * W (1 + Int.tmod (W t) 4))) + 6))) xs))))] else True ∧ bif !rightB (W (1 + Int.tmod (W t) 4)) (W (1 + Int.tmod (W n) 12)) then K (AVal.tup [AVal.raw (Value.pointer none), AVal.agg [AVal.int .i64 (W (1 + Int.tmod (W t) 4)), AVal.int .i64 (W (1 + Int.tmod (W n) 12))], AVal.agg [AVal.int .i64 0, AVal.int .i64 0]]) [] else (((0 : Int) ≤ W (1 + Int.tmod (W t) 4) ∧ W (1 + Int.tmod (W t) 4) ≤ (100000 : Int)) ∧ (0 : Int) ≤ W (1 + Int.tmod (W n) 12) ∧ W (1 + Int.tmod (W n) 12) ≤ (100000 : Int)) ∧ bif ilt (2 * W (1 + Int.tmod (W n) 12) + 5 * W (1 + Int.tmod (W t) 4) + 6) (↑(List.length xs) : Int) then K (AVal.tup [AVal.raw (Value.pointer none), AVal.agg [AVal.int .i64 (W (1 + Int.tmod (W t) 4)), AVal.int .i64 (W (1 + Int.tmod (W n) 12))], AVal.agg [AVal.int .i64 0, AVal.int .i64 0]]) [] else ((((0 : Int) ≤ W (1 + Int.tmod (W t) 4) ∧ W (1 + Int.tmod (W t) 4) ≤ (100000 : Int)) ∧ (0 : Int) ≤ W (1 + Int.tmod (W n) 12) ∧ W (1 + Int.tmod (W n) 12) ≤ (100000 : Int)) ∧ True) ∧ ((0 : Int) ≤ (2 : Int) * W (1 + Int.tmod (W n) 12) + 5 * W (1 + Int.tmod (W t) 4) + 6 ∧ 2 * W (1 + Int.tmod (W n) 12) + 5 * W (1 + Int.tmod (W t) 4) + (6 : Int) = (2 : Int) * W (1 + Int.tmod (W n) 12) + 5 * W (1 + Int.tmod (W t) 4) + 6 ∧ 2 * W (1 + Int.tmod (W n) 12) + 5 * W (1 + Int.tmod (W t) 4) + (6 : Int) ≤ (4294967296 : Int)) ∧ 0 + Int.toNat (2 * W (1 + Int.tmod (W n) 12) + 5 * W (1 + Int.tmod (W t) 4) + 6) ≤ List.length (List.replicate (Int.toNat (2 * W (1 + Int.tmod (W n) 12) + 5 * W (1 + Int.tmod (W t) 4) + 6)) (0 : Int)) ∧ K (AVal.tup [AVal.ptr 0 0, AVal.agg [AVal.int .i64 (W (1 + Int.tmod (W t) 4)), AVal.int .i64 (W (1 + Int.tmod (W n) 12))], AVal.agg [AVal.int .i64 (W (1 + Int.tmod (W t) 4)), AVal.int .i64 (W (1 + Int.tmod (W n) 12))]]) [some (Entry.cells [AVal.int .i64 (W (1 + Int.tmod (W t) 4)), AVal.int .i64 (W (1 + Int.tmod (W n) 12)), AVal.slice 1 0 (Int.toNat (2 * W (1 + Int.tmod (W n) 12) + 5 * W (1 + Int.tmod (W t) 4) + 6)) 1, AVal.int .i64 0, AVal.int .i64 0, AVal.int .i64 0, AVal.int .u64 0, AVal.int .u64 0, AVal.bool false]), some (Entry.ints (some .u64) (overI (List.replicate (Int.toNat (2 * W (1 + Int.tmod (W n) 12) + 5 * W (1 + Int.tmod (W t) 4) + 6)) (0 : Int)) 0 (List.take (min (List.length xs) (Int.toNat (2 * W (1 + Int.tmod (W n) 12) + 5 * W (1 + Int.tmod (W t) 4) + 6))) xs)))]) (by kernel_rfl) ?_))
  have e1 : W t = t := W_id (by omega)
  have e2 : W n = n := W_id (by omega)
  have h1 := thr_in ht
  have h2 := nod_in hn
  have e3 : W (1 + Int.tmod t 4) = thr t := W_id (by show _ ≤ thr t ∧ thr t ≤ _; omega)
  have e4 : W (1 + Int.tmod n 12) = nod n := W_id (by show _ ≤ nod n ∧ nod n ≤ _; omega)
  rw [e1, e2, e3, e4]
  have e5 : W (W (W (2 * nod n) + W (5 * thr t)) + 6) = 2 * nod n + 5 * thr t + 6 := by
    simp (disch := omega) only [W, W_in]
  rw [e5, rightB_true.2 (by omega)]
  unfold memH at hK
  have hl := memW_length (thr t) (nod n) xs
  simp only [hl] at hK
  have hz : (List.replicate (2 * nod n + 5 * thr t + 6).toNat (0 : Int)).length = (2 * nod n + 5 * thr t + 6).toNat := List.length_replicate
  refine ⟨by omega, by omega, cond_go (fun e => ⟨by rw [ilt_eq, decide_eq_true_eq] at e; omega, trivial, cond_go (fun e => by cases e) (fun _ => ⟨by omega, cond_go (fun e6 => ?_) (fun _ => ⟨⟨by omega, trivial⟩, by omega, by rw [List.length_replicate]; omega, ?_⟩)⟩)⟩) (fun e => ⟨trivial, cond_go (fun e => by cases e) (fun _ => ⟨by omega, cond_go (fun e6 => ?_) (fun _ => ⟨⟨by omega, trivial⟩, by omega, by rw [List.length_replicate]; omega, ?_⟩)⟩)⟩)⟩
  · rw [ilt_eq, decide_eq_true_eq, List.length_take] at e6; omega
  · rw [ilt_eq, decide_eq_true_eq] at e
    have e7 : min (List.take (2 * nod n + 5 * thr t + 6).toNat xs).length (2 * nod n + 5 * thr t + 6).toNat = (2 * nod n + 5 * thr t + 6).toNat := by rw [List.length_take]; omega
    rw [e7, List.take_take, Nat.min_self]
    exact hK
  · rw [e6] at e; cases e
  · rw [ilt_eq, decide_eq_false_iff_not] at e
    have e7 : List.take (min xs.length (2 * nod n + 5 * thr t + 6).toNat) xs = List.take (2 * nod n + 5 * thr t + 6).toNat xs := by
      rw [Nat.min_eq_left (by omega), List.take_of_length_le (Nat.le_refl _), List.take_of_length_le (by omega)]
    rw [e7]
    exact hK
noncomputable def E13 := E13a.addS 15 memoryS memory_ok
end Go.Sh

/- A store over a layout, and the document's. -/
namespace Go.Sh
open Go Go.Proofs
variable [Con]
/- OPQ -/
def nodeK (n v : Int) : Int := 1 + Int.tmod v n
def mkStep (n sp : Int) (R : List Int) (v : Int) : List Int := bif ieq (nodeK n v) sp then R else bif hasB R (nodeK n v) then R else R ++ [nodeK n v]
/- OPQ -/
def mkL (n sp : Int) (ns : List Int) : List Int := ns.foldl (mkStep n sp) []
theorem mkStep_len (n sp : Int) (R : List Int) (v : Int) : (mkStep n sp R v).length ≤ R.length + 1 := by
  unfold mkStep
  cases ieq (nodeK n v) sp <;> cases hasB R (nodeK n v) <;> simp
theorem mkL_snoc (n sp : Int) (ns : List Int) (v : Int) : mkL n sp (ns ++ [v]) = mkStep n sp (mkL n sp ns) v := by
  unfold mkL; simp [List.foldl_append]
structure okM (n sp : Int) (ns : List Int) (x : Nat × List Int) : Prop where
  h1 : x.1 ≤ ns.length
  h2 : x.2.length ≤ x.1
  h3 : x.2 = mkL n sp (ns.take x.1)
def HM (t n me sp me' sp' : Int) (ns : List Int) : Hint Ob := { X := Nat × List Int, st := fun x => ([.top, .top, .ptr 0 0, .ptr 1 0, .top, .top, .ptr 2 0, .ptr 4 0] ++ List.replicate 32 .top ++ [.iview (some .u8) ns, .int .i64 (ns.length : Int), .int .i64 (x.1 : Int)] ++ List.replicate 41 .top, [some (.cells [.int .u8 me, .int .u8 sp, .iview (some .u8) ns]), some (.cells [.int .i64 t, .int .i64 n]), some (.cells [.int .i64 t, .int .i64 n, .int .i64 me', .int .i64 sp', .slice 3 0 x.2.length 1]), some (.ints (some .i64) x.2), some (.cells [.int .i64 me', .int .i64 sp', .slice 5 0 x.2.length 1]), some (.ints (some .i64) x.2)]), ok := okM n sp' ns, mu := fun x => ns.length - x.1, keep := [2, 3, 6, 7, 40, 41, 42], casts := [(.cell 2 4, .ints (some .i64)), (.cell 3 2, .ints (some .i64)), (.cell 4 2, .ints (some .i64))] }
def makeS : Spec Ob := fun args h => match args, h with
  | [.agg [.int .u8 me, .int .u8 sp, .iview (some .u8) ns], .agg [.int .i64 t, .int .i64 n]], [] => some (.pre (((0 ≤ me ∧ me ≤ 255) ∧ (0 ≤ sp ∧ sp ≤ 255) ∧ (1 ≤ t ∧ t ≤ 1000) ∧ (1 ≤ n ∧ n ≤ 1000) ∧ ns.length ≤ 100000) ∧ ∀ v ∈ ns, 0 ≤ v ∧ v ≤ 255) (.ret (.tup [.ptr 0 0, .ptr 2 0]) [some (.cells [.int .i64 t, .int .i64 n, .int .i64 (Int.tmod me t), .int .i64 (Int.tmod sp (n + 1)), .slice 1 0 (mkL n (Int.tmod sp (n + 1)) ns).length 1]), some (.ints (some .i64) (mkL n (Int.tmod sp (n + 1)) ns)), some (.cells [.int .i64 (Int.tmod me t), .int .i64 (Int.tmod sp (n + 1)), .slice 3 0 (mkL n (Int.tmod sp (n + 1)) ns).length 1]), some (.ints (some .i64) (mkL n (Int.tmod sp (n + 1)) ns))]))
  | _, _ => none
theorem tmod_in {x t : Int} (h : 0 ≤ x) (ht : 1 ≤ t) : 0 ≤ Int.tmod x t ∧ Int.tmod x t < t := by
  rw [Int.tmod_eq_emod_of_nonneg h]
  exact ⟨Int.emod_nonneg _ (by omega), Int.emod_lt_of_pos _ (by omega)⟩
noncomputable def E14 := E13
end Go.Sh

/- A word's numbers, and its bits, as the document has them. -/
namespace Go.Sh
open Go Go.Proofs
variable [Con]
theorem emod_in (x : Int) {b : Int} (h : 0 < b) : 0 ≤ x % b ∧ x % b < b := ⟨Int.emod_nonneg _ (by omega), Int.emod_lt_of_pos _ h⟩
theorem cutI_in {x a w : Int} : 0 ≤ cutI x a w ∧ cutI x a w < 2 ^ w.toNat := emod_in _ (two_pos _)
def unS : RSpec Ob := fun args h => match args, h with
  | [.int .u64 x], [] => some (0 ≤ x ∧ x ≤ 18446744073709551615, .agg [.int .i64 (cutI x 0 10), .int .i64 (cutI x 10 9), .bool (ieq (cutI x 19 1) 1), .int .i64 (cutI x 20 5), .int .i64 (cutI x 25 18)])
  | _, _ => none
theorem un_ok : Spec.ok E14.I Try.prog 21 unS.spec := by
  intro args h o ho K hK
  unfold RSpec.spec at ho
  split at ho
  case h_2 => cases ho
  rename_i p v hv
  unfold unS at hv
  split at hv
  case h_2 => cases hv
  rename_i x
  simp only [Option.some.injEq, Prod.mk.injEq] at hv
  obtain ⟨rfl, rfl⟩ := hv
  simp only [Option.some.injEq] at ho; subst ho
  obtain ⟨hx, hK⟩ := hK
  refine CallOk.trim (callOk_of (E := E14) Try.checked.mixed (L := LL) (n := 10) (of_nf (q := (8796093022208 : Int) ≠ (0 : Int) ∧ (1024 : Int) ≠ (0 : Int) ∧ (1024 : Int) ≠ (0 : Int) ∧ (512 : Int) ≠ (0 : Int) ∧ (524288 : Int) ≠ (0 : Int) ∧ (2 : Int) ≠ (0 : Int) ∧ (1048576 : Int) ≠ (0 : Int) ∧ (32 : Int) ≠ (0 : Int) ∧ (33554432 : Int) ≠ (0 : Int) ∧ K (AVal.agg [AVal.int .i64 (Int.tmod (W (Int.tmod x 8796093022208)) 1024), AVal.int .i64 (Int.tmod (W (Int.tdiv (W (Int.tmod x 8796093022208)) 1024)) 512), AVal.bool (ieq (Int.tmod (W (Int.tdiv (W (Int.tmod x 8796093022208)) 524288)) 2) 1), AVal.int .i64 (Int.tmod (W (Int.tdiv (W (Int.tmod x 8796093022208)) 1048576)) 32), AVal.int .i64 (W (Int.tdiv (W (Int.tmod x 8796093022208)) 33554432))]) []) (by kernel_rfl) ?_))
  have e0 : Int.tmod x 8796093022208 = x % 8796093022208 := Int.tmod_eq_emod_of_nonneg hx.1
  have e1 : W (Int.tmod x 8796093022208) = x % 8796093022208 := by rw [e0]; exact W_id (by omega)
  rw [e1]
  have t0 : Int.tmod (x % 8796093022208) 1024 = cutI x 0 10 := by
    rw [Int.tmod_eq_emod_of_nonneg (by omega)]; unfold cutI; show _ = x / 1 % 1024; omega
  have t1 : W (Int.tdiv (x % 8796093022208) 1024) = x % 8796093022208 / 1024 := by rw [Int.tdiv_eq_ediv_of_nonneg (by omega)]; exact W_id (by omega)
  have t2 : W (Int.tdiv (x % 8796093022208) 524288) = x % 8796093022208 / 524288 := by rw [Int.tdiv_eq_ediv_of_nonneg (by omega)]; exact W_id (by omega)
  have t3 : W (Int.tdiv (x % 8796093022208) 1048576) = x % 8796093022208 / 1048576 := by rw [Int.tdiv_eq_ediv_of_nonneg (by omega)]; exact W_id (by omega)
  have t4 : W (Int.tdiv (x % 8796093022208) 33554432) = cutI x 25 18 := by
    rw [Int.tdiv_eq_ediv_of_nonneg (by omega), W_id (by omega)]; unfold cutI; show _ = x / 33554432 % 262144; omega
  have s1 : Int.tmod (x % 8796093022208 / 1024) 512 = cutI x 10 9 := by
    rw [Int.tmod_eq_emod_of_nonneg (by omega)]; unfold cutI; show _ = x / 1024 % 512; omega
  have s2 : Int.tmod (x % 8796093022208 / 524288) 2 = cutI x 19 1 := by
    rw [Int.tmod_eq_emod_of_nonneg (by omega)]; unfold cutI; show _ = x / 524288 % 2; omega
  have s3 : Int.tmod (x % 8796093022208 / 1048576) 32 = cutI x 20 5 := by
    rw [Int.tmod_eq_emod_of_nonneg (by omega)]; unfold cutI; show _ = x / 1048576 % 32; omega
  rw [t0, t1, t2, t3, t4, s1, s2, s3]
  repeat refine ⟨by omega, ?_⟩
  exact hK
def reS : RSpec Ob := fun args h => match args, h with
  | [.agg [.int .i64 k, .int .i64 y, .bool m, .int .i64 c, .int .i64 v]], [] => some ((0 ≤ k ∧ k < 1024) ∧ (0 ≤ y ∧ y < 512) ∧ (0 ≤ c ∧ c < 32) ∧ (0 ≤ v ∧ v < 262144), .int .u64 (putV k y m c v))
  | _, _ => none
theorem re_ok : Spec.ok E14.I Try.prog 23 reS.spec := by
  intro args h o ho K hK
  unfold RSpec.spec at ho
  split at ho
  case h_2 => cases ho
  rename_i p vv hv
  unfold reS at hv
  split at hv
  case h_2 => cases hv
  rename_i k y m c v
  simp only [Option.some.injEq, Prod.mk.injEq] at hv
  obtain ⟨rfl, rfl⟩ := hv
  simp only [Option.some.injEq] at ho; subst ho
  obtain ⟨⟨hk, hy, hc, hv⟩, hK⟩ := hK
  have hK : K (.int .u64 (putV k y m c v)) [] := hK
  refine CallOk.trim (callOk_of (E := E14) Try.checked.mixed (L := LL) (n := 10) (of_nf (q := bif m then (1024 : Int) ≠ (0 : Int) ∧ (512 : Int) ≠ (0 : Int) ∧ (32 : Int) ≠ (0 : Int) ∧ (262144 : Int) ≠ (0 : Int) ∧ K (AVal.int .u64 (WU (W (W (W (W (Int.tmod k 1024 + W (Int.tmod y 512 * 1024)) + W (1 * 524288)) + W (Int.tmod c 32 * 1048576)) + W (Int.tmod v 262144 * 33554432))))) [] else (1024 : Int) ≠ (0 : Int) ∧ (512 : Int) ≠ (0 : Int) ∧ (32 : Int) ≠ (0 : Int) ∧ (262144 : Int) ≠ (0 : Int) ∧ K (AVal.int .u64 (WU (W (W (W (W (Int.tmod k 1024 + W (Int.tmod y 512 * 1024)) + W (0 * 524288)) + W (Int.tmod c 32 * 1048576)) + W (Int.tmod v 262144 * 33554432))))) []) (by kernel_rfl) ?_))
  have e1 : Int.tmod k 1024 = k := by rw [Int.tmod_eq_emod_of_nonneg (by omega)]; omega
  have e2 : Int.tmod y 512 = y := by rw [Int.tmod_eq_emod_of_nonneg (by omega)]; omega
  have e3 : Int.tmod c 32 = c := by rw [Int.tmod_eq_emod_of_nonneg (by omega)]; omega
  have e4 : Int.tmod v 262144 = v := by rw [Int.tmod_eq_emod_of_nonneg (by omega)]; omega
  rw [e1, e2, e3, e4]
  unfold putV at hK
  cases m
  all_goals
    simp (disch := omega) only [W, WU, W_in, WU_in, cond_true, cond_false, bitI] at hK ⊢
    repeat refine ⟨by omega, ?_⟩
    refine cast (congrArg (fun z => K (AVal.int .u64 z) []) ?_) hK
    omega
noncomputable def E15 := (E14.addR 21 unS un_ok).addR 23 reS re_ok
end Go.Sh

/- A tape of actions: what is asked of it. -/
namespace Go.Sh
open Go Go.Proofs
variable [Con]
structure TS where
  i : Int
  bad : Bool
  out : Bool
instance : Inhabited TS := ⟨⟨0, false, false⟩⟩
def a0 (r : List Int) : Int := List.headD r 0
def a1 (r : List Int) : Int := List.headD (List.tail r) 0
def a2 (r : List Int) : Int := List.headD (List.tail (List.tail r)) 0
def a3 (r : List Int) : Int := List.headD (List.tail (List.tail (List.tail r))) 0
/- OPQ -/
def a4 (r : List Int) : Bool := !ieq (List.headD (List.tail (List.tail (List.tail (List.tail r)))) 0) 0
def tRow (A : List (List Int)) (s : TS) : List Int := List.getD A (0 + Int.toNat s.i) []
/- OPQ -/
def tHit (A : List (List Int)) (s : TS) (k a : Int) : Bool := !s.bad && (!s.out && (!ile (A.length : Int) s.i && (ieq (a0 (tRow A s)) k && ieq (a1 (tRow A s)) a)))
/- OPQ -/
def tGot (A : List (List Int)) (s : TS) (k a : Int) : List Int := bif tHit A s k a then tRow A s else []
/- OPQ -/
def tTook (A : List (List Int)) (s : TS) (k a : Int) : TS := bif s.bad || s.out then s else bif ile (A.length : Int) s.i then ⟨s.i, s.bad, true⟩ else ⟨s.i + 1, !tHit A s k a, s.out⟩
/- OPQ -/
def tStor (A : List (List Int)) (s : TS) (a x : Int) : TS := ⟨(tTook A s 2 a).i, (tTook A s 2 a).bad || (!(tTook A s 2 a).out && (a4 (tGot A s 2 a) && !ieq (a3 (tGot A s 2 a)) x)), (tTook A s 2 a).out⟩
def tNo (r : List Int) : Bool := !a4 r && (ieq (a2 r) 0 && ieq (a3 r) 0)
/- OPQ -/
def tCas (A : List (List Int)) (s : TS) (a x y : Int) : TS := ⟨(tTook A s 3 a).i, (tTook A s 3 a).bad || (!(tTook A s 3 a).out && (!tNo (tGot A s 3 a) && (!ieq (a3 (tGot A s 3 a)) y || !(a4 (tGot A s 3 a) == ieq (a2 (tGot A s 3 a)) x)))), (tTook A s 3 a).out⟩
/- OPQ -/
def tAdd (A : List (List Int)) (s : TS) (a x : Int) : TS := ⟨(tTook A s 4 a).i, (tTook A s 4 a).bad || (!(tTook A s 4 a).out && (a4 (tGot A s 4 a) && !ieq (a3 (tGot A s 4 a)) (WU (a2 (tGot A s 4 a) + x)))), (tTook A s 4 a).out⟩
def tapeH (A : List (List Int)) (s : TS) : Heap Ob := [some (.cells [.tslice 1 0 A.length 5, .int .i64 s.i, .bool s.bad, .bool s.out]), some (.tab [some .i64, some .i64, some .u64, some .u64, none] A)]
def tapePat (h : Heap Ob) : Option (Nat × TS × List (List Int)) := match h with
  | [some (.cells [.tslice 1 0 len 5, .int .i64 i, .bool bad, .bool out]), some (.tab [some .i64, some .i64, some .u64, some .u64, none] A)] => some (len, ⟨i, bad, out⟩, A)
  | _ => none
theorem tapePat_eq {h : Heap Ob} {l : Nat} {s : TS} {A : List (List Int)} (e : tapePat h = some (l, s, A)) (hl : l = A.length) : h = tapeH A s := by
  unfold tapePat at e
  split at e
  · simp only [Option.some.injEq, Prod.mk.injEq] at e
    obtain ⟨rfl, rfl, rfl⟩ := e
    subst hl; rfl
  · cases e
theorem not_tr {b : Bool} (h : (!b) = true) : b = false := by simpa using h
theorem not_fa {b : Bool} (h : (!b) = false) : b = true := by simpa using h

def takeS : Spec Ob := fun args h => match args, tapePat h with
  | [.ptr 0 0, .int .i64 k, .int .i64 a], some (l, s, A) => some (.pre (l = A.length ∧ (0 ≤ s.i ∧ s.i ≤ 4611686018427387904)) (.ret (.agg [.int .i64 (a0 (tGot A s k a)), .int .i64 (a1 (tGot A s k a)), .int .u64 (a2 (tGot A s k a)), .int .u64 (a3 (tGot A s k a)), .bool (a4 (tGot A s k a))]) (tapeH A (tTook A s k a))))
  | _, _ => none
def overS : RSpec Ob := fun args h => match args, h with
  | [.ptr 0 0], some (.cells [v, .int .i64 i, .bool bad, .bool out]) :: rest => some (True, .bool (bad || out))
  | _, _ => none
noncomputable def E16a := (E15)
end Go.Sh

/- A tape of actions: the four that are asked of it, and whether it fits. -/
namespace Go.Sh
open Go Go.Proofs
variable [Con]
def tloadS : Spec Ob := fun args h => match args, tapePat h with
  | [.ptr 0 0, .int .i64 a], some (l, s, A) => some (.pre (l = A.length ∧ (0 ≤ s.i ∧ s.i ≤ 4611686018427387904)) (.ret (.int .u64 (a2 (tGot A s 1 a))) (tapeH A (tTook A s 1 a))))
  | _, _ => none
def tstoreS : Spec Ob := fun args h => match args, tapePat h with
  | [.ptr 0 0, .int .i64 a, .int .u64 x], some (l, s, A) => some (.pre (l = A.length ∧ (0 ≤ s.i ∧ s.i ≤ 4611686018427387904)) (.ret (.tup []) (tapeH A (tStor A s a x))))
  | _, _ => none
def taddS : Spec Ob := fun args h => match args, tapePat h with
  | [.ptr 0 0, .int .i64 a, .int .u64 x], some (l, s, A) => some (.pre (l = A.length ∧ (0 ≤ s.i ∧ s.i ≤ 4611686018427387904)) (.ret (.int .u64 (a2 (tGot A s 4 a))) (tapeH A (tAdd A s a x))))
  | _, _ => none
def tcasS : Spec Ob := fun args h => match args, tapePat h with
  | [.ptr 0 0, .int .i64 a, .int .u64 x, .int .u64 y], some (l, s, A) => some (.pre (l = A.length ∧ (0 ≤ s.i ∧ s.i ≤ 4611686018427387904)) (.ret (.bool (a4 (tGot A s 3 a))) (tapeH A (tCas A s a x y))))
  | _, _ => none
/- OPQ -/
def fitsB (n : Int) (s : TS) (e : Bool) : Bool := !s.bad && (ieq s.i n && (bif s.out then !e else e))
def fitsS : RSpec Ob := fun args h => match args, h with
  | [.ptr 0 0, .bool e], some (.cells [.tslice 1 0 n 5, .int .i64 i, .bool bad, .bool out]) :: rest => some (True, .bool (fitsB n ⟨i, bad, out⟩ e))
  | _, _ => none
abbrev KA : List (Place × CastK) := [(.cell 0 0, .tab [some .i64, some .i64, some .u64, some .u64, none])]
noncomputable def E16 := ((((E16a))))
end Go.Sh

/- Words are words. -/
namespace Go.Sh
open Go Go.Proofs
variable [Con]
theorem bounds_u64 {n : Int} (h : codeWf (some .u64) n) : 0 ≤ n ∧ n ≤ 18446744073709551615 := by
  have h : (decide (IntKind.min .u64 ≤ n) && decide (n ≤ IntKind.max .u64)) = true := h
  simp only [Bool.and_eq_true, decide_eq_true_eq] at h
  exact h
/-- words are words -/
structure okW (xs : List Int) : Prop where
  h : ∀ x ∈ xs, 0 ≤ x ∧ x ≤ 18446744073709551615
theorem okW_memW {t n : Int} {xs : List Int} (h : okW xs) : okW (memW t n xs) := by
  refine ⟨fun x hx => ?_⟩
  unfold memW overI at hx
  simp only [List.take_zero, List.nil_append, List.mem_append] at hx
  rcases hx with hx | hx
  · exact h.h x (List.mem_of_mem_take hx)
  · have := List.mem_of_mem_drop hx
    rw [List.mem_replicate] at this
    omega
theorem okW_peek {xs : List Int} (h : okW xs) (a : Int) : 0 ≤ peek xs a ∧ peek xs a ≤ 18446744073709551615 := by
  unfold peek
  split
  · rename_i hi
    have hlt : a.toNat < xs.length := by omega
    rw [List.getD_eq_getElem?_getD, List.getElem?_eq_getElem hlt]
    exact h.h _ (List.getElem_mem hlt)
  · omega
theorem mkL_len (n sp : Int) (ns : List Int) : (mkL n sp ns).length ≤ ns.length := by
  have : ∀ (l R : List Int), (l.foldl (mkStep n sp) R).length ≤ R.length + l.length := by
    intro l
    induction l with
    | nil => intro R; simp
    | cons v l ih => intro R; have h1 := ih (mkStep n sp R v); have h2 := mkStep_len n sp R v; simp only [List.foldl_cons, List.length_cons]; omega
  have h := this ns []
  unfold mkL
  simpa using h
end Go.Sh

/- Descriptors: told, and put. -/
namespace Go.Sh
open Go Go.Proofs
variable [Con]
/- OPQ -/
def pendB (s : Int) : Bool := ile 1 s && ile s 4
/- OPQ -/
def resC (d e : Int) : Int := bif ieq e 5 then (bif ieq d 1 then 4 else 0) else 5
/- OPQ -/
def resO (d e : Int) (m : Bool) : Bool := bif ieq e 5 then (bif ieq d 1 then false else m) else false
/- OPQ -/
def resX (d e f : Int) : Int := bif ieq e 5 then (bif ieq d 1 then 0 else f) else 0
/- OPQ -/
def dPutV (a b c d : Int) (m : Bool) (e f : Int) : Int := a + b * 4096 + c * 2097152 + d * 549755813888 + bitI m * 281474976710656 + e * 562949953421312 + f * 4503599627370496
/- OPQ -/
def dOk (a b c d e f : Int) : Bool := fitI a 12 && (fitI b 9 && (fitI c 18 && (fitI d 9 && (fitI e 3 && fitI f 10))))
theorem cut_raw {x a w : Int} (ha : 0 ≤ a ∧ a ≤ 63) (hw : 0 ≤ w ∧ w ≤ 62) : IntKind.wrap .i64 (IntKind.wrap .u64 ((BitVec.ofInt (IntKind.bits .u64) (Int.fdiv x (2 ^ min (Int.toNat a) (IntKind.bits .u64))) &&& BitVec.ofInt (IntKind.bits .u64) (IntKind.wrap .u64 (IntKind.wrap .u64 (1 * 2 ^ min (Int.toNat w) (IntKind.bits .u64)) - 1))).toNat : Int)) = cutI x a w := by
  have hb : IntKind.bits .u64 = 64 := rfl
  rw [hb]
  have h1 : min a.toNat 64 = a.toNat := by omega
  have h2 : min w.toNat 64 = w.toNat := by omega
  have h3 : (2 : Int) ^ w.toNat ≤ 4611686018427387904 := two_lt (n := 62) (by omega) (by decide)
  have h4 := two_pos w.toNat
  have h5 := two_pos a.toNat
  rw [h1, h2, Int.fdiv_eq_ediv_of_nonneg _ (by omega)]
  simp only [WU, W, Int.one_mul]
  rw [WU_in (x := 2 ^ w.toNat) (by omega), WU_in (x := 2 ^ w.toNat - 1) (by omega), and_mask _ (by omega)]
  have h6 := Int.emod_nonneg (x / 2 ^ a.toNat) (b := 2 ^ w.toNat) (by omega)
  have h7 := Int.emod_lt_of_pos (x / 2 ^ a.toNat) (b := 2 ^ w.toNat) (by omega)
  rw [WU_in (by omega), W_in (by omega)]
  rfl
def dgetS : RSpec Ob := fun args h => match args, h with
  | [.int .u64 x], [] => some (True, .agg [.int .i64 (cutI x 0 12), .int .i64 (cutI x 12 9), .int .i64 (cutI x 21 18), .int .i64 (cutI x 39 9), .bool (ieq (cutI x 48 1) 1), .int .i64 (cutI x 49 3), .int .i64 (cutI x 52 10)])
  | _, _ => none
set_option maxRecDepth 100000 in
theorem dget_ok : Spec.ok E16.I Try.prog 66 dgetS.spec := by
  intro args h o ho K hK
  unfold RSpec.spec at ho
  split at ho
  case h_2 => cases ho
  rename_i pp vv hv
  unfold dgetS at hv
  split at hv
  case h_2 => cases hv
  rename_i x
  simp only [Option.some.injEq, Prod.mk.injEq] at hv
  obtain ⟨rfl, rfl⟩ := hv
  simp only [Option.some.injEq] at ho; subst ho
  obtain ⟨hp, hK⟩ := hK
  have hK : K (.agg [.int .i64 (cutI x 0 12), .int .i64 (cutI x 12 9), .int .i64 (cutI x 21 18), .int .i64 (cutI x 39 9), .bool (ieq (cutI x 48 1) 1), .int .i64 (cutI x 49 3), .int .i64 (cutI x 52 10)]) [] := hK
  refine CallOk.trim (callOk_of (E := E16) Try.checked.mixed (L := LL) (n := 10) (of_nf (q := ((0 : Int) ≤ (0 : Int) ∧ (0 : Int) < (↑7 : Int)) ∧ ((0 : Int) ≤ (0 : Int) ∧ (0 : Int) < (↑1 : Int)) ∧ 1 + (1 : Nat) ≤ (4294967296 : Nat) ∧ ((0 : Int) ≤ W (0 + 1) ∧ W (0 + 1) < (↑7 : Int)) ∧ ((0 : Int) ≤ W (0 + 1) ∧ W (0 + 1) < (↑(1 + 1) : Int)) ∧ 1 + 1 + (1 : Nat) ≤ (4294967296 : Nat) ∧ ((0 : Int) ≤ W (W (0 + 1) + 1) ∧ W (W (0 + 1) + 1) < (↑7 : Int)) ∧ ((0 : Int) ≤ W (W (0 + 1) + 1) ∧ W (W (0 + 1) + 1) < (↑(1 + 1 + 1) : Int)) ∧ 1 + 1 + 1 + (1 : Nat) ≤ (4294967296 : Nat) ∧ ((0 : Int) ≤ W (W (W (0 + 1) + 1) + 1) ∧ W (W (W (0 + 1) + 1) + 1) < (↑7 : Int)) ∧ ((0 : Int) ≤ W (W (W (0 + 1) + 1) + 1) ∧ W (W (W (0 + 1) + 1) + 1) < (↑(1 + 1 + 1 + 1) : Int)) ∧ 1 + 1 + 1 + 1 + (1 : Nat) ≤ (4294967296 : Nat) ∧ ((0 : Int) ≤ W (W (W (W (0 + 1) + 1) + 1) + 1) ∧ W (W (W (W (0 + 1) + 1) + 1) + 1) < (↑7 : Int)) ∧ ((0 : Int) ≤ W (W (W (W (0 + 1) + 1) + 1) + 1) ∧ W (W (W (W (0 + 1) + 1) + 1) + 1) < (↑(1 + 1 + 1 + 1 + 1) : Int)) ∧ 1 + 1 + 1 + 1 + 1 + (1 : Nat) ≤ (4294967296 : Nat) ∧ ((0 : Int) ≤ W (W (W (W (W (0 + 1) + 1) + 1) + 1) + 1) ∧ W (W (W (W (W (0 + 1) + 1) + 1) + 1) + 1) < (↑7 : Int)) ∧ ((0 : Int) ≤ W (W (W (W (W (0 + 1) + 1) + 1) + 1) + 1) ∧ W (W (W (W (W (0 + 1) + 1) + 1) + 1) + 1) < (↑(1 + 1 + 1 + 1 + 1 + 1) : Int)) ∧ 1 + 1 + 1 + 1 + 1 + 1 + (1 : Nat) ≤ (4294967296 : Nat) ∧ ((0 : Int) ≤ W (W (W (W (W (W (0 + 1) + 1) + 1) + 1) + 1) + 1) ∧ W (W (W (W (W (W (0 + 1) + 1) + 1) + 1) + 1) + 1) < (↑7 : Int)) ∧ ((0 : Int) ≤ W (W (W (W (W (W (0 + 1) + 1) + 1) + 1) + 1) + 1) ∧ W (W (W (W (W (W (0 + 1) + 1) + 1) + 1) + 1) + 1) < (↑(1 + 1 + 1 + 1 + 1 + 1 + 1) : Int)) ∧ 1 + 1 + 1 + 1 + 1 + 1 + 1 + (1 : Nat) ≤ (4294967296 : Nat) ∧ ((0 : Int) ≤ (0 : Int) ∧ (0 : Int) < (↑(1 + 1 + 1 + 1 + 1 + 1 + 1 + 1) : Int)) ∧ (0 : Int) ≤ (0 : Int) ∧ ((0 : Int) ≤ (0 : Int) ∧ (0 : Int) < (↑7 : Int)) ∧ (0 : Int) ≤ (12 : Int) ∧ ((0 : Int) ≤ (0 : Int) ∧ (0 : Int) < (↑7 : Int)) ∧ ((0 : Int) ≤ W (0 + 1) ∧ W (0 + 1) < (↑(1 + 1 + 1 + 1 + 1 + 1 + 1 + 1) : Int)) ∧ (0 : Int) ≤ W (0 + 12) ∧ ((0 : Int) ≤ W (0 + 1) ∧ W (0 + 1) < (↑7 : Int)) ∧ (0 : Int) ≤ (9 : Int) ∧ ((0 : Int) ≤ W (0 + 1) ∧ W (0 + 1) < (↑7 : Int)) ∧ ((0 : Int) ≤ W (W (0 + 1) + 1) ∧ W (W (0 + 1) + 1) < (↑(1 + 1 + 1 + 1 + 1 + 1 + 1 + 1) : Int)) ∧ (0 : Int) ≤ W (W (0 + 12) + 9) ∧ ((0 : Int) ≤ W (W (0 + 1) + 1) ∧ W (W (0 + 1) + 1) < (↑7 : Int)) ∧ (0 : Int) ≤ (18 : Int) ∧ ((0 : Int) ≤ W (W (0 + 1) + 1) ∧ W (W (0 + 1) + 1) < (↑7 : Int)) ∧ ((0 : Int) ≤ W (W (W (0 + 1) + 1) + 1) ∧ W (W (W (0 + 1) + 1) + 1) < (↑(1 + 1 + 1 + 1 + 1 + 1 + 1 + 1) : Int)) ∧ (0 : Int) ≤ W (W (W (0 + 12) + 9) + 18) ∧ ((0 : Int) ≤ W (W (W (0 + 1) + 1) + 1) ∧ W (W (W (0 + 1) + 1) + 1) < (↑7 : Int)) ∧ (0 : Int) ≤ (9 : Int) ∧ ((0 : Int) ≤ W (W (W (0 + 1) + 1) + 1) ∧ W (W (W (0 + 1) + 1) + 1) < (↑7 : Int)) ∧ ((0 : Int) ≤ W (W (W (W (0 + 1) + 1) + 1) + 1) ∧ W (W (W (W (0 + 1) + 1) + 1) + 1) < (↑(1 + 1 + 1 + 1 + 1 + 1 + 1 + 1) : Int)) ∧ (0 : Int) ≤ W (W (W (W (0 + 12) + 9) + 18) + 9) ∧ ((0 : Int) ≤ W (W (W (W (0 + 1) + 1) + 1) + 1) ∧ W (W (W (W (0 + 1) + 1) + 1) + 1) < (↑7 : Int)) ∧ (0 : Int) ≤ (1 : Int) ∧ ((0 : Int) ≤ W (W (W (W (0 + 1) + 1) + 1) + 1) ∧ W (W (W (W (0 + 1) + 1) + 1) + 1) < (↑7 : Int)) ∧ ((0 : Int) ≤ W (W (W (W (W (0 + 1) + 1) + 1) + 1) + 1) ∧ W (W (W (W (W (0 + 1) + 1) + 1) + 1) + 1) < (↑(1 + 1 + 1 + 1 + 1 + 1 + 1 + 1) : Int)) ∧ (0 : Int) ≤ W (W (W (W (W (0 + 12) + 9) + 18) + 9) + 1) ∧ ((0 : Int) ≤ W (W (W (W (W (0 + 1) + 1) + 1) + 1) + 1) ∧ W (W (W (W (W (0 + 1) + 1) + 1) + 1) + 1) < (↑7 : Int)) ∧ (0 : Int) ≤ (3 : Int) ∧ ((0 : Int) ≤ W (W (W (W (W (0 + 1) + 1) + 1) + 1) + 1) ∧ W (W (W (W (W (0 + 1) + 1) + 1) + 1) + 1) < (↑7 : Int)) ∧ ((0 : Int) ≤ W (W (W (W (W (W (0 + 1) + 1) + 1) + 1) + 1) + 1) ∧ W (W (W (W (W (W (0 + 1) + 1) + 1) + 1) + 1) + 1) < (↑(1 + 1 + 1 + 1 + 1 + 1 + 1 + 1) : Int)) ∧ (0 : Int) ≤ W (W (W (W (W (W (0 + 12) + 9) + 18) + 9) + 1) + 3) ∧ ((0 : Int) ≤ W (W (W (W (W (W (0 + 1) + 1) + 1) + 1) + 1) + 1) ∧ W (W (W (W (W (W (0 + 1) + 1) + 1) + 1) + 1) + 1) < (↑7 : Int)) ∧ (0 : Int) ≤ (10 : Int) ∧ ((0 : Int) ≤ W (W (W (W (W (W (0 + 1) + 1) + 1) + 1) + 1) + 1) ∧ W (W (W (W (W (W (0 + 1) + 1) + 1) + 1) + 1) + 1) < (↑7 : Int)) ∧ ((0 : Int) ≤ (0 : Int) ∧ (0 : Int) < (↑7 : Int)) ∧ ((0 : Int) ≤ (1 : Int) ∧ (1 : Int) < (↑7 : Int)) ∧ ((0 : Int) ≤ (2 : Int) ∧ (2 : Int) < (↑7 : Int)) ∧ ((0 : Int) ≤ (3 : Int) ∧ (3 : Int) < (↑7 : Int)) ∧ ((0 : Int) ≤ (4 : Int) ∧ (4 : Int) < (↑7 : Int)) ∧ ((0 : Int) ≤ (5 : Int) ∧ (5 : Int) < (↑7 : Int)) ∧ ((0 : Int) ≤ (6 : Int) ∧ (6 : Int) < (↑7 : Int)) ∧ K (AVal.agg [AVal.int .i64 (W (WU (↑(BitVec.toNat (BitVec.ofInt (IntKind.bits .u64) (Int.fdiv x (2 ^ min (Int.toNat 0) (IntKind.bits .u64))) &&& BitVec.ofInt (IntKind.bits .u64) (WU (WU (1 * 2 ^ min (Int.toNat 12) (IntKind.bits .u64)) - 1)))) : Int))), AVal.int .i64 (W (WU (↑(BitVec.toNat (BitVec.ofInt (IntKind.bits .u64) (Int.fdiv x (2 ^ min (Int.toNat (W (0 + 12))) (IntKind.bits .u64))) &&& BitVec.ofInt (IntKind.bits .u64) (WU (WU (1 * 2 ^ min (Int.toNat 9) (IntKind.bits .u64)) - 1)))) : Int))), AVal.int .i64 (W (WU (↑(BitVec.toNat (BitVec.ofInt (IntKind.bits .u64) (Int.fdiv x (2 ^ min (Int.toNat (W (W (0 + 12) + 9))) (IntKind.bits .u64))) &&& BitVec.ofInt (IntKind.bits .u64) (WU (WU (1 * 2 ^ min (Int.toNat 18) (IntKind.bits .u64)) - 1)))) : Int))), AVal.int .i64 (W (WU (↑(BitVec.toNat (BitVec.ofInt (IntKind.bits .u64) (Int.fdiv x (2 ^ min (Int.toNat (W (W (W (0 + 12) + 9) + 18))) (IntKind.bits .u64))) &&& BitVec.ofInt (IntKind.bits .u64) (WU (WU (1 * 2 ^ min (Int.toNat 9) (IntKind.bits .u64)) - 1)))) : Int))), AVal.bool (ieq (W (WU (↑(BitVec.toNat (BitVec.ofInt (IntKind.bits .u64) (Int.fdiv x (2 ^ min (Int.toNat (W (W (W (W (0 + 12) + 9) + 18) + 9))) (IntKind.bits .u64))) &&& BitVec.ofInt (IntKind.bits .u64) (WU (WU (1 * 2 ^ min (Int.toNat 1) (IntKind.bits .u64)) - 1)))) : Int))) 1), AVal.int .i64 (W (WU (↑(BitVec.toNat (BitVec.ofInt (IntKind.bits .u64) (Int.fdiv x (2 ^ min (Int.toNat (W (W (W (W (W (0 + 12) + 9) + 18) + 9) + 1))) (IntKind.bits .u64))) &&& BitVec.ofInt (IntKind.bits .u64) (WU (WU (1 * 2 ^ min (Int.toNat 3) (IntKind.bits .u64)) - 1)))) : Int))), AVal.int .i64 (W (WU (↑(BitVec.toNat (BitVec.ofInt (IntKind.bits .u64) (Int.fdiv x (2 ^ min (Int.toNat (W (W (W (W (W (W (0 + 12) + 9) + 18) + 9) + 1) + 3))) (IntKind.bits .u64))) &&& BitVec.ofInt (IntKind.bits .u64) (WU (WU (1 * 2 ^ min (Int.toNat 10) (IntKind.bits .u64)) - 1)))) : Int)))]) []) (by kernel_rfl) ?_))
  simp (disch := omega) only [W, WU, W_in, Int.reduceAdd, Int.zero_add]
  simp (disch := omega) only [cut_raw]
  repeat refine ⟨by omega, ?_⟩
  exact hK
theorem lt_go {a b : Int} {X Y : Prop} (h1 : a < b → X) (h2 : b ≤ a → Y) : cond (ilt a b) X Y :=
  cond_go (fun e => h1 (by rw [ilt_eq, decide_eq_true_eq] at e; exact e)) (fun e => h2 (by rw [ilt_eq, decide_eq_false_iff_not] at e; omega))
theorem le_go {a b : Int} {X Y : Prop} (h1 : a ≤ b → X) (h2 : b < a → Y) : cond (ile a b) X Y :=
  cond_go (fun e => h1 (by rw [ile_eq, decide_eq_true_eq] at e; exact e)) (fun e => h2 (by rw [ile_eq, decide_eq_false_iff_not] at e; omega))
theorem eq_go {a b : Int} {X Y : Prop} (h1 : a = b → X) (h2 : a ≠ b → Y) : cond (ieq a b) X Y :=
  cond_go (fun e => h1 (by rw [ieq_eq] at e; simpa using e)) (fun e => h2 (by rw [ieq_eq] at e; simpa using e))
theorem dOk_true {a b c d e f : Int} : dOk a b c d e f = true ↔ (0 ≤ a ∧ a < 4096) ∧ (0 ≤ b ∧ b < 512) ∧ (0 ≤ c ∧ c < 262144) ∧ (0 ≤ d ∧ d < 512) ∧ (0 ≤ e ∧ e < 8) ∧ (0 ≤ f ∧ f < 1024) := by
  unfold dOk; simp only [Bool.and_eq_true, fitI_true]; rfl
def dputS : RSpec Ob := fun args h => match args, h with
  | [.agg [.int .i64 a, .int .i64 b, .int .i64 c, .int .i64 d, .bool m, .int .i64 e, .int .i64 f]], [] => some (True, .tup [.int .u64 (bif dOk a b c d e f then dPutV a b c d m e f else 0), .int .i64 (bif dOk a b c d e f then 0 else 2)])
  | _, _ => none
set_option maxRecDepth 100000 in
theorem dput_ok : Spec.ok E16.I Try.prog 72 dputS.spec := by
  intro args h o ho K hK
  unfold RSpec.spec at ho
  split at ho
  case h_2 => cases ho
  rename_i pp vv hv
  unfold dputS at hv
  split at hv
  case h_2 => cases hv
  rename_i a b c d m e f
  simp only [Option.some.injEq, Prod.mk.injEq] at hv
  obtain ⟨rfl, rfl⟩ := hv
  simp only [Option.some.injEq] at ho; subst ho
  obtain ⟨hp, hK⟩ := hK
  have hK : K (.tup [.int .u64 (bif dOk a b c d e f then dPutV a b c d m e f else 0), .int .i64 (bif dOk a b c d e f then 0 else 2)]) [] := hK
  refine CallOk.trim (callOk_of (E := E16) Try.checked.mixed (L := LL) (n := 10) (of_nf (q := ((0 : Int) ≤ (0 : Int) ∧ (0 : Int) < (↑7 : Int)) ∧ ((0 : Int) ≤ (0 : Int) ∧ (0 : Int) < (↑1 : Int)) ∧ 1 + (1 : Nat) ≤ (4294967296 : Nat) ∧ ((0 : Int) ≤ W (0 + 1) ∧ W (0 + 1) < (↑7 : Int)) ∧ ((0 : Int) ≤ W (0 + 1) ∧ W (0 + 1) < (↑(1 + 1) : Int)) ∧ 1 + 1 + (1 : Nat) ≤ (4294967296 : Nat) ∧ ((0 : Int) ≤ W (W (0 + 1) + 1) ∧ W (W (0 + 1) + 1) < (↑7 : Int)) ∧ ((0 : Int) ≤ W (W (0 + 1) + 1) ∧ W (W (0 + 1) + 1) < (↑(1 + 1 + 1) : Int)) ∧ 1 + 1 + 1 + (1 : Nat) ≤ (4294967296 : Nat) ∧ ((0 : Int) ≤ W (W (W (0 + 1) + 1) + 1) ∧ W (W (W (0 + 1) + 1) + 1) < (↑7 : Int)) ∧ ((0 : Int) ≤ W (W (W (0 + 1) + 1) + 1) ∧ W (W (W (0 + 1) + 1) + 1) < (↑(1 + 1 + 1 + 1) : Int)) ∧ 1 + 1 + 1 + 1 + (1 : Nat) ≤ (4294967296 : Nat) ∧ ((0 : Int) ≤ W (W (W (W (0 + 1) + 1) + 1) + 1) ∧ W (W (W (W (0 + 1) + 1) + 1) + 1) < (↑7 : Int)) ∧ ((0 : Int) ≤ W (W (W (W (0 + 1) + 1) + 1) + 1) ∧ W (W (W (W (0 + 1) + 1) + 1) + 1) < (↑(1 + 1 + 1 + 1 + 1) : Int)) ∧ 1 + 1 + 1 + 1 + 1 + (1 : Nat) ≤ (4294967296 : Nat) ∧ ((0 : Int) ≤ W (W (W (W (W (0 + 1) + 1) + 1) + 1) + 1) ∧ W (W (W (W (W (0 + 1) + 1) + 1) + 1) + 1) < (↑7 : Int)) ∧ ((0 : Int) ≤ W (W (W (W (W (0 + 1) + 1) + 1) + 1) + 1) ∧ W (W (W (W (W (0 + 1) + 1) + 1) + 1) + 1) < (↑(1 + 1 + 1 + 1 + 1 + 1) : Int)) ∧ 1 + 1 + 1 + 1 + 1 + 1 + (1 : Nat) ≤ (4294967296 : Nat) ∧ ((0 : Int) ≤ W (W (W (W (W (W (0 + 1) + 1) + 1) + 1) + 1) + 1) ∧ W (W (W (W (W (W (0 + 1) + 1) + 1) + 1) + 1) + 1) < (↑7 : Int)) ∧ ((0 : Int) ≤ W (W (W (W (W (W (0 + 1) + 1) + 1) + 1) + 1) + 1) ∧ W (W (W (W (W (W (0 + 1) + 1) + 1) + 1) + 1) + 1) < (↑(1 + 1 + 1 + 1 + 1 + 1 + 1) : Int)) ∧ 1 + 1 + 1 + 1 + 1 + 1 + 1 + (1 : Nat) ≤ (4294967296 : Nat) ∧ bif m then ((0 : Int) ≤ (0 : Int) ∧ (0 : Int) < (↑7 : Int)) ∧ bif ilt a 0 then K (AVal.tup [AVal.int .u64 0, AVal.int .i64 2]) [] else ((0 : Int) ≤ (0 : Int) ∧ (0 : Int) < (↑7 : Int)) ∧ (0 : Int) ≤ (12 : Int) ∧ bif ile (W (1 * 2 ^ min (Int.toNat 12) (IntKind.bits .i64))) a then K (AVal.tup [AVal.int .u64 0, AVal.int .i64 2]) [] else ((0 : Int) ≤ (0 : Int) ∧ (0 : Int) < (↑(1 + 1 + 1 + 1 + 1 + 1 + 1 + 1) : Int)) ∧ (0 : Int) ≤ (0 : Int) ∧ ((0 : Int) ≤ W (0 + 1) ∧ W (0 + 1) < (↑7 : Int)) ∧ bif ilt b 0 then K (AVal.tup [AVal.int .u64 0, AVal.int .i64 2]) [] else ((0 : Int) ≤ W (0 + 1) ∧ W (0 + 1) < (↑7 : Int)) ∧ (0 : Int) ≤ (9 : Int) ∧ bif ile (W (1 * 2 ^ min (Int.toNat 9) (IntKind.bits .i64))) b then K (AVal.tup [AVal.int .u64 0, AVal.int .i64 2]) [] else ((0 : Int) ≤ W (0 + 1) ∧ W (0 + 1) < (↑(1 + 1 + 1 + 1 + 1 + 1 + 1 + 1) : Int)) ∧ (0 : Int) ≤ W (0 + 12) ∧ ((0 : Int) ≤ W (W (0 + 1) + 1) ∧ W (W (0 + 1) + 1) < (↑7 : Int)) ∧ bif ilt c 0 then K (AVal.tup [AVal.int .u64 0, AVal.int .i64 2]) [] else ((0 : Int) ≤ W (W (0 + 1) + 1) ∧ W (W (0 + 1) + 1) < (↑7 : Int)) ∧ (0 : Int) ≤ (18 : Int) ∧ bif ile (W (1 * 2 ^ min (Int.toNat 18) (IntKind.bits .i64))) c then K (AVal.tup [AVal.int .u64 0, AVal.int .i64 2]) [] else ((0 : Int) ≤ W (W (0 + 1) + 1) ∧ W (W (0 + 1) + 1) < (↑(1 + 1 + 1 + 1 + 1 + 1 + 1 + 1) : Int)) ∧ (0 : Int) ≤ W (W (0 + 12) + 9) ∧ ((0 : Int) ≤ W (W (W (0 + 1) + 1) + 1) ∧ W (W (W (0 + 1) + 1) + 1) < (↑7 : Int)) ∧ bif ilt d 0 then K (AVal.tup [AVal.int .u64 0, AVal.int .i64 2]) [] else ((0 : Int) ≤ W (W (W (0 + 1) + 1) + 1) ∧ W (W (W (0 + 1) + 1) + 1) < (↑7 : Int)) ∧ (0 : Int) ≤ (9 : Int) ∧ bif ile (W (1 * 2 ^ min (Int.toNat 9) (IntKind.bits .i64))) d then K (AVal.tup [AVal.int .u64 0, AVal.int .i64 2]) [] else ((0 : Int) ≤ W (W (W (0 + 1) + 1) + 1) ∧ W (W (W (0 + 1) + 1) + 1) < (↑(1 + 1 + 1 + 1 + 1 + 1 + 1 + 1) : Int)) ∧ (0 : Int) ≤ W (W (W (0 + 12) + 9) + 18) ∧ ((0 : Int) ≤ W (W (W (W (0 + 1) + 1) + 1) + 1) ∧ W (W (W (W (0 + 1) + 1) + 1) + 1) < (↑7 : Int)) ∧ ((0 : Int) ≤ W (W (W (W (0 + 1) + 1) + 1) + 1) ∧ W (W (W (W (0 + 1) + 1) + 1) + 1) < (↑7 : Int)) ∧ (0 : Int) ≤ (1 : Int) ∧ ((0 : Int) ≤ W (W (W (W (0 + 1) + 1) + 1) + 1) ∧ W (W (W (W (0 + 1) + 1) + 1) + 1) < (↑(1 + 1 + 1 + 1 + 1 + 1 + 1 + 1) : Int)) ∧ (0 : Int) ≤ W (W (W (W (0 + 12) + 9) + 18) + 9) ∧ ((0 : Int) ≤ W (W (W (W (W (0 + 1) + 1) + 1) + 1) + 1) ∧ W (W (W (W (W (0 + 1) + 1) + 1) + 1) + 1) < (↑7 : Int)) ∧ bif ilt e 0 then K (AVal.tup [AVal.int .u64 0, AVal.int .i64 2]) [] else ((0 : Int) ≤ W (W (W (W (W (0 + 1) + 1) + 1) + 1) + 1) ∧ W (W (W (W (W (0 + 1) + 1) + 1) + 1) + 1) < (↑7 : Int)) ∧ (0 : Int) ≤ (3 : Int) ∧ bif ile (W (1 * 2 ^ min (Int.toNat 3) (IntKind.bits .i64))) e then K (AVal.tup [AVal.int .u64 0, AVal.int .i64 2]) [] else ((0 : Int) ≤ W (W (W (W (W (0 + 1) + 1) + 1) + 1) + 1) ∧ W (W (W (W (W (0 + 1) + 1) + 1) + 1) + 1) < (↑(1 + 1 + 1 + 1 + 1 + 1 + 1 + 1) : Int)) ∧ (0 : Int) ≤ W (W (W (W (W (0 + 12) + 9) + 18) + 9) + 1) ∧ ((0 : Int) ≤ W (W (W (W (W (W (0 + 1) + 1) + 1) + 1) + 1) + 1) ∧ W (W (W (W (W (W (0 + 1) + 1) + 1) + 1) + 1) + 1) < (↑7 : Int)) ∧ bif ilt f 0 then K (AVal.tup [AVal.int .u64 0, AVal.int .i64 2]) [] else ((0 : Int) ≤ W (W (W (W (W (W (0 + 1) + 1) + 1) + 1) + 1) + 1) ∧ W (W (W (W (W (W (0 + 1) + 1) + 1) + 1) + 1) + 1) < (↑7 : Int)) ∧ (0 : Int) ≤ (10 : Int) ∧ bif ile (W (1 * 2 ^ min (Int.toNat 10) (IntKind.bits .i64))) f then K (AVal.tup [AVal.int .u64 0, AVal.int .i64 2]) [] else ((0 : Int) ≤ W (W (W (W (W (W (0 + 1) + 1) + 1) + 1) + 1) + 1) ∧ W (W (W (W (W (W (0 + 1) + 1) + 1) + 1) + 1) + 1) < (↑(1 + 1 + 1 + 1 + 1 + 1 + 1 + 1) : Int)) ∧ (0 : Int) ≤ W (W (W (W (W (W (0 + 12) + 9) + 18) + 9) + 1) + 3) ∧ K (AVal.tup [AVal.int .u64 (WU (↑(BitVec.toNat (BitVec.ofInt (IntKind.bits .u64) (WU (↑(BitVec.toNat (BitVec.ofInt (IntKind.bits .u64) (WU (↑(BitVec.toNat (BitVec.ofInt (IntKind.bits .u64) (WU (↑(BitVec.toNat (BitVec.ofInt (IntKind.bits .u64) (WU (↑(BitVec.toNat (BitVec.ofInt (IntKind.bits .u64) (WU (↑(BitVec.toNat (BitVec.ofInt (IntKind.bits .u64) (WU (↑(BitVec.toNat (BitVec.ofInt (IntKind.bits .u64) 0 ||| BitVec.ofInt (IntKind.bits .u64) (WU (WU a * 2 ^ min (Int.toNat 0) (IntKind.bits .u64))))) : Int)) ||| BitVec.ofInt (IntKind.bits .u64) (WU (WU b * 2 ^ min (Int.toNat (W (0 + 12))) (IntKind.bits .u64))))) : Int)) ||| BitVec.ofInt (IntKind.bits .u64) (WU (WU c * 2 ^ min (Int.toNat (W (W (0 + 12) + 9))) (IntKind.bits .u64))))) : Int)) ||| BitVec.ofInt (IntKind.bits .u64) (WU (WU d * 2 ^ min (Int.toNat (W (W (W (0 + 12) + 9) + 18))) (IntKind.bits .u64))))) : Int)) ||| BitVec.ofInt (IntKind.bits .u64) (WU (WU 1 * 2 ^ min (Int.toNat (W (W (W (W (0 + 12) + 9) + 18) + 9))) (IntKind.bits .u64))))) : Int)) ||| BitVec.ofInt (IntKind.bits .u64) (WU (WU e * 2 ^ min (Int.toNat (W (W (W (W (W (0 + 12) + 9) + 18) + 9) + 1))) (IntKind.bits .u64))))) : Int)) ||| BitVec.ofInt (IntKind.bits .u64) (WU (WU f * 2 ^ min (Int.toNat (W (W (W (W (W (W (0 + 12) + 9) + 18) + 9) + 1) + 3))) (IntKind.bits .u64))))) : Int)), AVal.int .i64 0]) [] else ((0 : Int) ≤ (0 : Int) ∧ (0 : Int) < (↑7 : Int)) ∧ bif ilt a 0 then K (AVal.tup [AVal.int .u64 0, AVal.int .i64 2]) [] else ((0 : Int) ≤ (0 : Int) ∧ (0 : Int) < (↑7 : Int)) ∧ (0 : Int) ≤ (12 : Int) ∧ bif ile (W (1 * 2 ^ min (Int.toNat 12) (IntKind.bits .i64))) a then K (AVal.tup [AVal.int .u64 0, AVal.int .i64 2]) [] else ((0 : Int) ≤ (0 : Int) ∧ (0 : Int) < (↑(1 + 1 + 1 + 1 + 1 + 1 + 1 + 1) : Int)) ∧ (0 : Int) ≤ (0 : Int) ∧ ((0 : Int) ≤ W (0 + 1) ∧ W (0 + 1) < (↑7 : Int)) ∧ bif ilt b 0 then K (AVal.tup [AVal.int .u64 0, AVal.int .i64 2]) [] else ((0 : Int) ≤ W (0 + 1) ∧ W (0 + 1) < (↑7 : Int)) ∧ (0 : Int) ≤ (9 : Int) ∧ bif ile (W (1 * 2 ^ min (Int.toNat 9) (IntKind.bits .i64))) b then K (AVal.tup [AVal.int .u64 0, AVal.int .i64 2]) [] else ((0 : Int) ≤ W (0 + 1) ∧ W (0 + 1) < (↑(1 + 1 + 1 + 1 + 1 + 1 + 1 + 1) : Int)) ∧ (0 : Int) ≤ W (0 + 12) ∧ ((0 : Int) ≤ W (W (0 + 1) + 1) ∧ W (W (0 + 1) + 1) < (↑7 : Int)) ∧ bif ilt c 0 then K (AVal.tup [AVal.int .u64 0, AVal.int .i64 2]) [] else ((0 : Int) ≤ W (W (0 + 1) + 1) ∧ W (W (0 + 1) + 1) < (↑7 : Int)) ∧ (0 : Int) ≤ (18 : Int) ∧ bif ile (W (1 * 2 ^ min (Int.toNat 18) (IntKind.bits .i64))) c then K (AVal.tup [AVal.int .u64 0, AVal.int .i64 2]) [] else ((0 : Int) ≤ W (W (0 + 1) + 1) ∧ W (W (0 + 1) + 1) < (↑(1 + 1 + 1 + 1 + 1 + 1 + 1 + 1) : Int)) ∧ (0 : Int) ≤ W (W (0 + 12) + 9) ∧ ((0 : Int) ≤ W (W (W (0 + 1) + 1) + 1) ∧ W (W (W (0 + 1) + 1) + 1) < (↑7 : Int)) ∧ bif ilt d 0 then K (AVal.tup [AVal.int .u64 0, AVal.int .i64 2]) [] else ((0 : Int) ≤ W (W (W (0 + 1) + 1) + 1) ∧ W (W (W (0 + 1) + 1) + 1) < (↑7 : Int)) ∧ (0 : Int) ≤ (9 : Int) ∧ bif ile (W (1 * 2 ^ min (Int.toNat 9) (IntKind.bits .i64))) d then K (AVal.tup [AVal.int .u64 0, AVal.int .i64 2]) [] else ((0 : Int) ≤ W (W (W (0 + 1) + 1) + 1) ∧ W (W (W (0 + 1) + 1) + 1) < (↑(1 + 1 + 1 + 1 + 1 + 1 + 1 + 1) : Int)) ∧ (0 : Int) ≤ W (W (W (0 + 12) + 9) + 18) ∧ ((0 : Int) ≤ W (W (W (W (0 + 1) + 1) + 1) + 1) ∧ W (W (W (W (0 + 1) + 1) + 1) + 1) < (↑7 : Int)) ∧ ((0 : Int) ≤ W (W (W (W (0 + 1) + 1) + 1) + 1) ∧ W (W (W (W (0 + 1) + 1) + 1) + 1) < (↑7 : Int)) ∧ (0 : Int) ≤ (1 : Int) ∧ ((0 : Int) ≤ W (W (W (W (0 + 1) + 1) + 1) + 1) ∧ W (W (W (W (0 + 1) + 1) + 1) + 1) < (↑(1 + 1 + 1 + 1 + 1 + 1 + 1 + 1) : Int)) ∧ (0 : Int) ≤ W (W (W (W (0 + 12) + 9) + 18) + 9) ∧ ((0 : Int) ≤ W (W (W (W (W (0 + 1) + 1) + 1) + 1) + 1) ∧ W (W (W (W (W (0 + 1) + 1) + 1) + 1) + 1) < (↑7 : Int)) ∧ bif ilt e 0 then K (AVal.tup [AVal.int .u64 0, AVal.int .i64 2]) [] else ((0 : Int) ≤ W (W (W (W (W (0 + 1) + 1) + 1) + 1) + 1) ∧ W (W (W (W (W (0 + 1) + 1) + 1) + 1) + 1) < (↑7 : Int)) ∧ (0 : Int) ≤ (3 : Int) ∧ bif ile (W (1 * 2 ^ min (Int.toNat 3) (IntKind.bits .i64))) e then K (AVal.tup [AVal.int .u64 0, AVal.int .i64 2]) [] else ((0 : Int) ≤ W (W (W (W (W (0 + 1) + 1) + 1) + 1) + 1) ∧ W (W (W (W (W (0 + 1) + 1) + 1) + 1) + 1) < (↑(1 + 1 + 1 + 1 + 1 + 1 + 1 + 1) : Int)) ∧ (0 : Int) ≤ W (W (W (W (W (0 + 12) + 9) + 18) + 9) + 1) ∧ ((0 : Int) ≤ W (W (W (W (W (W (0 + 1) + 1) + 1) + 1) + 1) + 1) ∧ W (W (W (W (W (W (0 + 1) + 1) + 1) + 1) + 1) + 1) < (↑7 : Int)) ∧ bif ilt f 0 then K (AVal.tup [AVal.int .u64 0, AVal.int .i64 2]) [] else ((0 : Int) ≤ W (W (W (W (W (W (0 + 1) + 1) + 1) + 1) + 1) + 1) ∧ W (W (W (W (W (W (0 + 1) + 1) + 1) + 1) + 1) + 1) < (↑7 : Int)) ∧ (0 : Int) ≤ (10 : Int) ∧ bif ile (W (1 * 2 ^ min (Int.toNat 10) (IntKind.bits .i64))) f then K (AVal.tup [AVal.int .u64 0, AVal.int .i64 2]) [] else ((0 : Int) ≤ W (W (W (W (W (W (0 + 1) + 1) + 1) + 1) + 1) + 1) ∧ W (W (W (W (W (W (0 + 1) + 1) + 1) + 1) + 1) + 1) < (↑(1 + 1 + 1 + 1 + 1 + 1 + 1 + 1) : Int)) ∧ (0 : Int) ≤ W (W (W (W (W (W (0 + 12) + 9) + 18) + 9) + 1) + 3) ∧ K (AVal.tup [AVal.int .u64 (WU (↑(BitVec.toNat (BitVec.ofInt (IntKind.bits .u64) (WU (↑(BitVec.toNat (BitVec.ofInt (IntKind.bits .u64) (WU (↑(BitVec.toNat (BitVec.ofInt (IntKind.bits .u64) (WU (↑(BitVec.toNat (BitVec.ofInt (IntKind.bits .u64) (WU (↑(BitVec.toNat (BitVec.ofInt (IntKind.bits .u64) (WU (↑(BitVec.toNat (BitVec.ofInt (IntKind.bits .u64) (WU (↑(BitVec.toNat (BitVec.ofInt (IntKind.bits .u64) 0 ||| BitVec.ofInt (IntKind.bits .u64) (WU (WU a * 2 ^ min (Int.toNat 0) (IntKind.bits .u64))))) : Int)) ||| BitVec.ofInt (IntKind.bits .u64) (WU (WU b * 2 ^ min (Int.toNat (W (0 + 12))) (IntKind.bits .u64))))) : Int)) ||| BitVec.ofInt (IntKind.bits .u64) (WU (WU c * 2 ^ min (Int.toNat (W (W (0 + 12) + 9))) (IntKind.bits .u64))))) : Int)) ||| BitVec.ofInt (IntKind.bits .u64) (WU (WU d * 2 ^ min (Int.toNat (W (W (W (0 + 12) + 9) + 18))) (IntKind.bits .u64))))) : Int)) ||| BitVec.ofInt (IntKind.bits .u64) (WU (WU 0 * 2 ^ min (Int.toNat (W (W (W (W (0 + 12) + 9) + 18) + 9))) (IntKind.bits .u64))))) : Int)) ||| BitVec.ofInt (IntKind.bits .u64) (WU (WU e * 2 ^ min (Int.toNat (W (W (W (W (W (0 + 12) + 9) + 18) + 9) + 1))) (IntKind.bits .u64))))) : Int)) ||| BitVec.ofInt (IntKind.bits .u64) (WU (WU f * 2 ^ min (Int.toNat (W (W (W (W (W (W (0 + 12) + 9) + 18) + 9) + 1) + 3))) (IntKind.bits .u64))))) : Int)), AVal.int .i64 0]) []) (by kernel_rfl) ?_))
  have no : dOk a b c d e f = false → K (.tup [.int .u64 0, .int .i64 2]) [] := by intro h; rw [h] at hK; exact hK
  have yes : dOk a b c d e f = true → K (.tup [.int .u64 (dPutV a b c d m e f), .int .i64 0]) [] := by intro h; rw [h] at hK; exact hK
  clear hK hp
  have w10 : W (1 * 2 ^ min (Int.toNat 10) (IntKind.bits .i64)) = 1024 := by decide
  have w12 : W (1 * 2 ^ min (Int.toNat 12) (IntKind.bits .i64)) = 4096 := by decide
  have w9 : W (1 * 2 ^ min (Int.toNat 9) (IntKind.bits .i64)) = 512 := by decide
  have w18 : W (1 * 2 ^ min (Int.toNat 18) (IntKind.bits .i64)) = 262144 := by decide
  have w3 : W (1 * 2 ^ min (Int.toNat 3) (IntKind.bits .i64)) = 8 := by decide
  rw [w10, w12, w9, w18, w3]
  simp (disch := omega) only [W, W_in, Int.reduceAdd, Int.zero_add, Int.reduceToNat]
  cases m
  · simp only [cond_true, cond_false]
    repeat' first
      | refine ⟨by omega, ?_⟩
      | refine lt_go (fun _ => ?_) (fun _ => ?_)
      | refine le_go (fun _ => ?_) (fun _ => ?_)
    all_goals first
      | exact no (by cases h : dOk a b c d e f with
                     | false => rfl
                     | true => have := dOk_true.1 h; omega)
      | skip
    have ok : dOk a b c d e f = true := dOk_true.2 (by omega)
    refine cast (congrArg (fun z => K (AVal.tup [.int .u64 z, .int .i64 0]) []) ?_) (yes ok)
    symm
    have hb : IntKind.bits .u64 = 64 := rfl
    rw [hb]
    clear yes no ok
    have q0 := or_sh (a := 0) (x := 0) (y := a) (p := 1) (q := 2 ^ min 0 64) (s := a) (by decide) (by omega) (by omega) (by omega) (by omega) (by decide)
    have q1 := or_sh (a := 12) (x := a) (y := b) (p := 4096) (q := 2 ^ min 12 64) (s := a + b * 4096) (by decide) (by omega) (by omega) (by omega) (by omega) (by decide)
    have q2 := or_sh (a := 21) (x := a + b * 4096) (y := c) (p := 2097152) (q := 2 ^ min 21 64) (s := a + b * 4096 + c * 2097152) (by decide) (by omega) (by omega) (by omega) (by omega) (by decide)
    have q3 := or_sh (a := 39) (x := a + b * 4096 + c * 2097152) (y := d) (p := 549755813888) (q := 2 ^ min 39 64) (s := a + b * 4096 + c * 2097152 + d * 549755813888) (by decide) (by omega) (by omega) (by omega) (by omega) (by decide)
    have q4 := or_sh (a := 48) (x := a + b * 4096 + c * 2097152 + d * 549755813888) (y := 0) (p := 281474976710656) (q := 2 ^ min 48 64) (s := a + b * 4096 + c * 2097152 + d * 549755813888 + 0 * 281474976710656) (by decide) (by omega) (by omega) (by omega) (by omega) (by decide)
    have q5 := or_sh (a := 49) (x := a + b * 4096 + c * 2097152 + d * 549755813888 + 0 * 281474976710656) (y := e) (p := 562949953421312) (q := 2 ^ min 49 64) (s := a + b * 4096 + c * 2097152 + d * 549755813888 + 0 * 281474976710656 + e * 562949953421312) (by decide) (by omega) (by omega) (by omega) (by omega) (by decide)
    have q6 := or_sh (a := 52) (x := a + b * 4096 + c * 2097152 + d * 549755813888 + 0 * 281474976710656 + e * 562949953421312) (y := f) (p := 4503599627370496) (q := 2 ^ min 52 64) (s := a + b * 4096 + c * 2097152 + d * 549755813888 + 0 * 281474976710656 + e * 562949953421312 + f * 4503599627370496) (by decide) (by omega) (by omega) (by omega) (by omega) (by decide)
    simp only [WU] at q0 q1 q2 q3 q4 q5 q6 ⊢
    rw [q0, q1, q2, q3, q4, q5, q6]
    unfold dPutV bitI
    rfl
  · simp only [cond_true, cond_false]
    repeat' first
      | refine ⟨by omega, ?_⟩
      | refine lt_go (fun _ => ?_) (fun _ => ?_)
      | refine le_go (fun _ => ?_) (fun _ => ?_)
    all_goals first
      | exact no (by cases h : dOk a b c d e f with
                     | false => rfl
                     | true => have := dOk_true.1 h; omega)
      | skip
    have ok : dOk a b c d e f = true := dOk_true.2 (by omega)
    refine cast (congrArg (fun z => K (AVal.tup [.int .u64 z, .int .i64 0]) []) ?_) (yes ok)
    symm
    have hb : IntKind.bits .u64 = 64 := rfl
    rw [hb]
    clear yes no ok
    have q0 := or_sh (a := 0) (x := 0) (y := a) (p := 1) (q := 2 ^ min 0 64) (s := a) (by decide) (by omega) (by omega) (by omega) (by omega) (by decide)
    have q1 := or_sh (a := 12) (x := a) (y := b) (p := 4096) (q := 2 ^ min 12 64) (s := a + b * 4096) (by decide) (by omega) (by omega) (by omega) (by omega) (by decide)
    have q2 := or_sh (a := 21) (x := a + b * 4096) (y := c) (p := 2097152) (q := 2 ^ min 21 64) (s := a + b * 4096 + c * 2097152) (by decide) (by omega) (by omega) (by omega) (by omega) (by decide)
    have q3 := or_sh (a := 39) (x := a + b * 4096 + c * 2097152) (y := d) (p := 549755813888) (q := 2 ^ min 39 64) (s := a + b * 4096 + c * 2097152 + d * 549755813888) (by decide) (by omega) (by omega) (by omega) (by omega) (by decide)
    have q4 := or_sh (a := 48) (x := a + b * 4096 + c * 2097152 + d * 549755813888) (y := 1) (p := 281474976710656) (q := 2 ^ min 48 64) (s := a + b * 4096 + c * 2097152 + d * 549755813888 + 1 * 281474976710656) (by decide) (by omega) (by omega) (by omega) (by omega) (by decide)
    have q5 := or_sh (a := 49) (x := a + b * 4096 + c * 2097152 + d * 549755813888 + 1 * 281474976710656) (y := e) (p := 562949953421312) (q := 2 ^ min 49 64) (s := a + b * 4096 + c * 2097152 + d * 549755813888 + 1 * 281474976710656 + e * 562949953421312) (by decide) (by omega) (by omega) (by omega) (by omega) (by decide)
    have q6 := or_sh (a := 52) (x := a + b * 4096 + c * 2097152 + d * 549755813888 + 1 * 281474976710656 + e * 562949953421312) (y := f) (p := 4503599627370496) (q := 2 ^ min 52 64) (s := a + b * 4096 + c * 2097152 + d * 549755813888 + 1 * 281474976710656 + e * 562949953421312 + f * 4503599627370496) (by decide) (by omega) (by omega) (by omega) (by omega) (by decide)
    simp only [WU] at q0 q1 q2 q3 q4 q5 q6 ⊢
    rw [q0, q1, q2, q3, q4, q5, q6]
    unfold dPutV bitI
    rfl
noncomputable def E20 := (E16.addR 66 dgetS dget_ok).addR 72 dputS dput_ok
end Go.Sh

/- Descriptors: the next attempt, what they tell. -/
namespace Go.Sh
open Go Go.Proofs
variable [Con]
/- OPQ -/
def attI (a : Int) : Int := (a + 1) % 4096
def next1S : RSpec Ob := fun args h => match args, h with
  | [.agg [.int .i64 a, .int .i64 b, .int .i64 c, .int .i64 d, .bool m, .int .i64 e, .int .i64 f]], [] => some (0 ≤ a ∧ a ≤ 1000000, .agg [.int .i64 (attI a), .int .i64 0, .int .i64 0, .int .i64 0, .bool false, .int .i64 1, .int .i64 0])
  | _, _ => none
theorem next1_ok : Spec.ok E20.I Try.prog 63 next1S.spec := by
  intro args h o ho K hK
  unfold RSpec.spec at ho
  split at ho
  case h_2 => cases ho
  rename_i pp vv hv
  unfold next1S at hv
  split at hv
  case h_2 => cases hv
  rename_i a b c d m e f
  simp only [Option.some.injEq, Prod.mk.injEq] at hv
  obtain ⟨rfl, rfl⟩ := hv
  simp only [Option.some.injEq] at ho; subst ho
  obtain ⟨hp, hK⟩ := hK
  have hK : K (.agg [.int .i64 (attI a), .int .i64 0, .int .i64 0, .int .i64 0, .bool false, .int .i64 1, .int .i64 0]) [] := hK
  refine CallOk.trim (callOk_of (E := E20) Try.checked.mixed (L := LL) (n := 10) (of_nf (q := K (AVal.agg [AVal.int .i64 (W (↑(BitVec.toNat (BitVec.ofInt (IntKind.bits .i64) (W (a + 1)) &&& BitVec.ofInt (IntKind.bits .i64) 4095)) : Int)), AVal.int .i64 0, AVal.int .i64 0, AVal.int .i64 0, AVal.bool false, AVal.int .i64 1, AVal.int .i64 0]) []) (by kernel_rfl) ?_))
  refine cast (congrArg (fun z => K (.agg [.int .i64 z, .int .i64 0, .int .i64 0, .int .i64 0, .bool false, .int .i64 1, .int .i64 0]) []) ?_) hK
  show attI a = _
  have hb : IntKind.bits .i64 = 64 := rfl
  simp only [W]
  rw [hb, W_in (x := a + 1) (by omega)]
  have := and_mask (n := 64) (w := 12) (a + 1) (by omega)
  have e : (2 : Int) ^ 12 - 1 = 4095 := by decide
  rw [e] at this
  rw [this]
  have e2 : (2 : Int) ^ 12 = 4096 := by decide
  rw [e2, W_in (by omega)]
  rfl
def pendDS : RSpec Ob := fun args h => match args, h with
  | [.agg [.int .i64 a, .int .i64 b, .int .i64 c, .int .i64 d, .bool m, .int .i64 e, .int .i64 f]], [] => some (True, .bool (pendB e))
  | _, _ => none
def resDS : RSpec Ob := fun args h => match args, h with
  | [.agg [.int .i64 a, .int .i64 b, .int .i64 c, .int .i64 d, .bool m, .int .i64 e, .int .i64 f]], [] => some (True, .agg [.int .i64 (resC d e), .bool (resO d e m), .int .i64 (resX d e f)])
  | _, _ => none
def endedS : RSpec Ob := fun args h => match args, h with
  | [.agg [.int .i64 a, .int .i64 b, .int .i64 c, .int .i64 d, .bool m, .int .i64 e, .int .i64 f], .agg [.int .i64 g, .bool o, .int .i64 v]], [] => some (True, .agg [.int .i64 a, .int .i64 0, .int .i64 0, .int .i64 (bif ieq g 4 then 1 else 0), .bool o, .int .i64 5, .int .i64 v])
  | _, _ => none
theorem ended_ok : Spec.ok E20.I Try.prog 62 endedS.spec := by
  intro args h o ho K hK
  unfold RSpec.spec at ho
  split at ho
  case h_2 => cases ho
  rename_i pp vv hv
  unfold endedS at hv
  split at hv
  case h_2 => cases hv
  rename_i a b c d m e f g o v
  simp only [Option.some.injEq, Prod.mk.injEq] at hv
  obtain ⟨rfl, rfl⟩ := hv
  simp only [Option.some.injEq] at ho; subst ho
  obtain ⟨hp, hK⟩ := hK
  have hK : K (.agg [.int .i64 a, .int .i64 0, .int .i64 0, .int .i64 (bif ieq g 4 then 1 else 0), .bool o, .int .i64 5, .int .i64 v]) [] := hK
  refine CallOk.trim (callOk_of (E := E20) Try.checked.mixed (L := LL) (n := 10) (of_nf (q := bif ieq g 4 then K (AVal.agg [AVal.int .i64 a, AVal.int .i64 0, AVal.int .i64 0, AVal.int .i64 1, AVal.bool o, AVal.int .i64 5, AVal.int .i64 v]) [] else K (AVal.agg [AVal.int .i64 a, AVal.int .i64 0, AVal.int .i64 0, AVal.int .i64 0, AVal.bool o, AVal.int .i64 5, AVal.int .i64 v]) []) (by kernel_rfl) ?_))
  generalize ieq g 4 = b1 at hK ⊢
  cases b1 <;> exact hK
def undS : RSpec Ob := fun args h => match args, h with
  | [.int .u64 x], [] => some (0 ≤ x ∧ x ≤ 18446744073709551615, .agg [.int .i64 (cutI x 0 12), .int .i64 (cutI x 12 9), .int .i64 (cutI x 21 18), .int .i64 (cutI x 39 9), .bool (ieq (cutI x 48 1) 1), .int .i64 (cutI x 49 3), .int .i64 (cutI x 52 10)])
  | _, _ => none
theorem und_ok : Spec.ok E20.I Try.prog 8 undS.spec := by
  intro args h o ho K hK
  unfold RSpec.spec at ho
  split at ho
  case h_2 => cases ho
  rename_i pp vv hv
  unfold undS at hv
  split at hv
  case h_2 => cases hv
  rename_i x
  simp only [Option.some.injEq, Prod.mk.injEq] at hv
  obtain ⟨rfl, rfl⟩ := hv
  simp only [Option.some.injEq] at ho; subst ho
  obtain ⟨hp, hK⟩ := hK
  have hK : K (.agg [.int .i64 (cutI x 0 12), .int .i64 (cutI x 12 9), .int .i64 (cutI x 21 18), .int .i64 (cutI x 39 9), .bool (ieq (cutI x 48 1) 1), .int .i64 (cutI x 49 3), .int .i64 (cutI x 52 10)]) [] := hK
  refine CallOk.trim (callOk_of (E := E20) Try.checked.mixed (L := LL) (n := 10) (of_nf (q := (4611686018427387904 : Int) ≠ (0 : Int) ∧ (4096 : Int) ≠ (0 : Int) ∧ (4096 : Int) ≠ (0 : Int) ∧ (512 : Int) ≠ (0 : Int) ∧ (2097152 : Int) ≠ (0 : Int) ∧ (262144 : Int) ≠ (0 : Int) ∧ (549755813888 : Int) ≠ (0 : Int) ∧ (512 : Int) ≠ (0 : Int) ∧ (281474976710656 : Int) ≠ (0 : Int) ∧ (2 : Int) ≠ (0 : Int) ∧ (562949953421312 : Int) ≠ (0 : Int) ∧ (8 : Int) ≠ (0 : Int) ∧ (4503599627370496 : Int) ≠ (0 : Int) ∧ (1024 : Int) ≠ (0 : Int) ∧ K (AVal.agg [AVal.int .i64 (Int.tmod (W (Int.tmod x 4611686018427387904)) 4096), AVal.int .i64 (Int.tmod (W (Int.tdiv (W (Int.tmod x 4611686018427387904)) 4096)) 512), AVal.int .i64 (Int.tmod (W (Int.tdiv (W (Int.tmod x 4611686018427387904)) 2097152)) 262144), AVal.int .i64 (Int.tmod (W (Int.tdiv (W (Int.tmod x 4611686018427387904)) 549755813888)) 512), AVal.bool (ieq (Int.tmod (W (Int.tdiv (W (Int.tmod x 4611686018427387904)) 281474976710656)) 2) 1), AVal.int .i64 (Int.tmod (W (Int.tdiv (W (Int.tmod x 4611686018427387904)) 562949953421312)) 8), AVal.int .i64 (Int.tmod (W (Int.tdiv (W (Int.tmod x 4611686018427387904)) 4503599627370496)) 1024)]) []) (by kernel_rfl) ?_))
  have e0 : Int.tmod x 4611686018427387904 = x % 4611686018427387904 := Int.tmod_eq_emod_of_nonneg hp.1
  have e1 : W (Int.tmod x 4611686018427387904) = x % 4611686018427387904 := by rw [e0]; exact W_id (by omega)
  rw [e1]
  have t0 : Int.tmod (x % 4611686018427387904) 4096 = cutI x 0 12 := by
    rw [Int.tmod_eq_emod_of_nonneg (by omega)]; unfold cutI; show _ = x / 1 % 4096; omega
  have t1 : W (Int.tdiv (x % 4611686018427387904) 4096) = x % 4611686018427387904 / 4096 := by rw [Int.tdiv_eq_ediv_of_nonneg (by omega)]; exact W_id (by omega)
  have s1 : Int.tmod (x % 4611686018427387904 / 4096) 512 = cutI x 12 9 := by
    rw [Int.tmod_eq_emod_of_nonneg (by omega)]; unfold cutI; show _ = x / 4096 % 512; omega
  have t2 : W (Int.tdiv (x % 4611686018427387904) 2097152) = x % 4611686018427387904 / 2097152 := by rw [Int.tdiv_eq_ediv_of_nonneg (by omega)]; exact W_id (by omega)
  have s2 : Int.tmod (x % 4611686018427387904 / 2097152) 262144 = cutI x 21 18 := by
    rw [Int.tmod_eq_emod_of_nonneg (by omega)]; unfold cutI; show _ = x / 2097152 % 262144; omega
  have t3 : W (Int.tdiv (x % 4611686018427387904) 549755813888) = x % 4611686018427387904 / 549755813888 := by rw [Int.tdiv_eq_ediv_of_nonneg (by omega)]; exact W_id (by omega)
  have s3 : Int.tmod (x % 4611686018427387904 / 549755813888) 512 = cutI x 39 9 := by
    rw [Int.tmod_eq_emod_of_nonneg (by omega)]; unfold cutI; show _ = x / 549755813888 % 512; omega
  have t4 : W (Int.tdiv (x % 4611686018427387904) 281474976710656) = x % 4611686018427387904 / 281474976710656 := by rw [Int.tdiv_eq_ediv_of_nonneg (by omega)]; exact W_id (by omega)
  have s4 : Int.tmod (x % 4611686018427387904 / 281474976710656) 2 = cutI x 48 1 := by
    rw [Int.tmod_eq_emod_of_nonneg (by omega)]; unfold cutI; show _ = x / 281474976710656 % 2; omega
  have t5 : W (Int.tdiv (x % 4611686018427387904) 562949953421312) = x % 4611686018427387904 / 562949953421312 := by rw [Int.tdiv_eq_ediv_of_nonneg (by omega)]; exact W_id (by omega)
  have s5 : Int.tmod (x % 4611686018427387904 / 562949953421312) 8 = cutI x 49 3 := by
    rw [Int.tmod_eq_emod_of_nonneg (by omega)]; unfold cutI; show _ = x / 562949953421312 % 8; omega
  have t6 : W (Int.tdiv (x % 4611686018427387904) 4503599627370496) = x % 4611686018427387904 / 4503599627370496 := by rw [Int.tdiv_eq_ediv_of_nonneg (by omega)]; exact W_id (by omega)
  have s6 : Int.tmod (x % 4611686018427387904 / 4503599627370496) 1024 = cutI x 52 10 := by
    rw [Int.tmod_eq_emod_of_nonneg (by omega)]; unfold cutI; show _ = x / 4503599627370496 % 1024; omega
  rw [t0, t1, t2, t3, t4, t5, t6, s1, s2, s3, s4, s5, s6]
  repeat refine ⟨by omega, ?_⟩
  exact hK
def redS : RSpec Ob := fun args h => match args, h with
  | [.agg [.int .i64 a, .int .i64 b, .int .i64 c, .int .i64 d, .bool m, .int .i64 e, .int .i64 f]], [] => some ((0 ≤ a ∧ a ≤ 1000000) ∧ (0 ≤ b ∧ b ≤ 1000000) ∧ (0 ≤ c ∧ c ≤ 1000000) ∧ (0 ≤ d ∧ d ≤ 1000000) ∧ (0 ≤ e ∧ e ≤ 1000000) ∧ (0 ≤ f ∧ f ≤ 1000000), .int .u64 (dPutV (a % 4096) (b % 512) (c % 262144) (d % 512) m (e % 8) (f % 1024)))
  | _, _ => none
theorem red_ok : Spec.ok E20.I Try.prog 17 redS.spec := by
  intro args h o ho K hK
  unfold RSpec.spec at ho
  split at ho
  case h_2 => cases ho
  rename_i pp vv hv
  unfold redS at hv
  split at hv
  case h_2 => cases hv
  rename_i a b c d m e f
  simp only [Option.some.injEq, Prod.mk.injEq] at hv
  obtain ⟨rfl, rfl⟩ := hv
  simp only [Option.some.injEq] at ho; subst ho
  obtain ⟨hp, hK⟩ := hK
  have hK : K (.int .u64 (dPutV (a % 4096) (b % 512) (c % 262144) (d % 512) m (e % 8) (f % 1024))) [] := hK
  refine CallOk.trim (callOk_of (E := E20) Try.checked.mixed (L := LL) (n := 10) (of_nf (q := bif m then (1024 : Int) ≠ (0 : Int) ∧ (8 : Int) ≠ (0 : Int) ∧ (512 : Int) ≠ (0 : Int) ∧ (262144 : Int) ≠ (0 : Int) ∧ (512 : Int) ≠ (0 : Int) ∧ (4096 : Int) ≠ (0 : Int) ∧ K (AVal.int .u64 (WU (W (W (W (W (W (W (W (W (W (W (W (W (Int.tmod f 1024 * 8) + Int.tmod e 8) * 2) + 1) * 512) + Int.tmod d 512) * 262144) + Int.tmod c 262144) * 512) + Int.tmod b 512) * 4096) + Int.tmod a 4096)))) [] else (1024 : Int) ≠ (0 : Int) ∧ (8 : Int) ≠ (0 : Int) ∧ (512 : Int) ≠ (0 : Int) ∧ (262144 : Int) ≠ (0 : Int) ∧ (512 : Int) ≠ (0 : Int) ∧ (4096 : Int) ≠ (0 : Int) ∧ K (AVal.int .u64 (WU (W (W (W (W (W (W (W (W (W (W (W (W (Int.tmod f 1024 * 8) + Int.tmod e 8) * 2) + 0) * 512) + Int.tmod d 512) * 262144) + Int.tmod c 262144) * 512) + Int.tmod b 512) * 4096) + Int.tmod a 4096)))) []) (by kernel_rfl) ?_))
  obtain ⟨p1, p2, p3, p4, p5, p6⟩ := hp
  have m1 : Int.tmod a 4096 = a % 4096 := Int.tmod_eq_emod_of_nonneg p1.1
  have m2 : Int.tmod b 512 = b % 512 := Int.tmod_eq_emod_of_nonneg p2.1
  have m3 : Int.tmod c 262144 = c % 262144 := Int.tmod_eq_emod_of_nonneg p3.1
  have m4 : Int.tmod d 512 = d % 512 := Int.tmod_eq_emod_of_nonneg p4.1
  have m5 : Int.tmod e 8 = e % 8 := Int.tmod_eq_emod_of_nonneg p5.1
  have m6 : Int.tmod f 1024 = f % 1024 := Int.tmod_eq_emod_of_nonneg p6.1
  rw [m1, m2, m3, m4, m5, m6]
  unfold dPutV bitI at hK
  cases m
  all_goals
    simp only [cond_true, cond_false] at hK ⊢
    simp (disch := omega) only [W, WU, W_in, WU_in]
    repeat refine ⟨by omega, ?_⟩
    refine cast (congrArg (fun z => K (AVal.int .u64 z) []) ?_) hK
    omega
noncomputable def E21a := (((((E20.addR 63 next1S next1_ok))).addR 62 endedS ended_ok).addR 8 undS und_ok).addR 17 redS red_ok
def pend14S : RSpec Ob := fun args h => match args, h with
  | [.int .u64 x], [] => some (0 ≤ x ∧ x ≤ 18446744073709551615, .bool (pendB (cutI x 49 3)))
  | _, _ => none
def ans14S : RSpec Ob := fun args h => match args, h with
  | [.int .u64 x], [] => some (0 ≤ x ∧ x ≤ 18446744073709551615, .agg [.int .i64 (resC (cutI x 39 9) (cutI x 49 3)), .bool (resO (cutI x 39 9) (cutI x 49 3) (ieq (cutI x 48 1) 1)), .int .i64 (resX (cutI x 39 9) (cutI x 49 3) (cutI x 52 10))])
  | _, _ => none
noncomputable def E21 := (E21a)
end Go.Sh

/- Tasks: told, and put; an announcement, begun; whether one is pending. -/
namespace Go.Sh
open Go Go.Proofs
variable [Con]
theorem rightT_iff {s k y : Int} : rightT s k y = true ↔ (((s = 1 ∨ s = 2) ∧ 1 ≤ k ∧ k ≤ 3) ∨ ((s = 3 ∨ s = 4) ∧ (k = 4 ∨ k = 5))) ∧ 0 ≤ y ∧ y ≤ 999 ∧ (k = 5 → y ≤ 0) := by
  have hm : (bif ieq k 5 then (0 : Int) else 999) = if k = 5 then 0 else 999 := by
    rw [ieq_eq]; by_cases h : k = 5
    · simp [h]
    · have h' : (k == 5) = false := by simpa using h
      rw [h', if_neg h]; rfl
  have hk : k ∈ kindsL s ↔ (((s = 1 ∨ s = 2) ∧ 1 ≤ k ∧ k ≤ 3) ∨ ((s = 3 ∨ s = 4) ∧ (k = 4 ∨ k = 5))) := by
    unfold kindsL
    rw [ieq_eq, ieq_eq, ieq_eq, ieq_eq]
    by_cases h1 : s = 1
    · subst h1; simp; omega
    by_cases h2 : s = 2
    · subst h2; simp; omega
    by_cases h3 : s = 3
    · subst h3; simp
    by_cases h4 : s = 4
    · subst h4; simp
    have g1 : (s == 1) = false := by simpa using h1
    have g2 : (s == 2) = false := by simpa using h2
    have g3 : (s == 3) = false := by simpa using h3
    have g4 : (s == 4) = false := by simpa using h4
    rw [g1, g2, g3, g4]
    simp [h1, h2, h3, h4]
  unfold rightT
  rw [Bool.and_eq_true, Bool.and_eq_true, hasB_true, hk, ile_eq, ile_eq, decide_eq_true_eq, decide_eq_true_eq, hm]
  by_cases h5 : k = 5
  · simp [h5]; omega
  · simp [h5]
/- OPQ -/
def tskV (s k y : Int) : Int := s + 8 * k + 64 * y
def tputS : RSpec Ob := fun args h => match args, h with
  | [.agg [.int .i64 s, .int .i64 k, .int .i64 y]], [] => some (True, .tup [.int .u64 (bif rightT s k y then tskV s k y else 0), .int .i64 (bif rightT s k y then 0 else 1)])
  | _, _ => none
def tput14S : RSpec Ob := fun args h => match args, h with
  | [.agg [.int .i64 s, .int .i64 k, .int .i64 y]], [] => some ((0 ≤ s ∧ s ≤ 1000) ∧ (0 ≤ k ∧ k ≤ 1000) ∧ (0 ≤ y ∧ y ≤ 1000), .int .u64 (tskV s k y))
  | _, _ => none
def mayS : RSpec Ob := fun args h => match args, h with
  | [.int .i64 s, .agg [.int .i64 k, .int .i64 y]], [] => some (True, .bool (rightT s k y))
  | _, _ => none
noncomputable def E22a := ((E21))
/- OPQ -/
def tgB (x : Int) : Bool := ilt x 65536 && rightT (cutI x 0 3) (cutI x 3 3) (cutI x 6 10)
theorem cut_two {z : Int} (w : Nat) (hw : w ≤ 61) {c : Int} (hc : c = 2 ^ w - 1) : IntKind.wrap .i64 (IntKind.wrap .u64 ((BitVec.ofInt 64 z &&& BitVec.ofInt 64 c).toNat : Int)) = z % 2 ^ w := by
  subst hc
  rw [and_mask _ (by omega)]
  have h4 := two_pos w
  have h3 : (2 : Int) ^ w ≤ 2305843009213693952 := two_lt (n := 61) hw (by decide)
  have h6 := Int.emod_nonneg z (b := 2 ^ w) (by omega)
  have h7 := Int.emod_lt_of_pos z (b := 2 ^ w) (by omega)
  rw [WU_in (by omega), W_in (by omega)]
def tgetS : RSpec Ob := fun args h => match args, h with
  | [.int .u64 x], [] => some (0 ≤ x ∧ x ≤ 18446744073709551615, .tup [.agg [.int .i64 (bif tgB x then cutI x 0 3 else 0), .int .i64 (bif tgB x then cutI x 3 3 else 0), .int .i64 (bif tgB x then cutI x 6 10 else 0)], .int .i64 (bif tgB x then 0 else 3)])
  | _, _ => none
def tget14S : RSpec Ob := fun args h => match args, h with
  | [.int .u64 x], [] => some (0 ≤ x ∧ x ≤ 18446744073709551615, .tup [.agg [.int .i64 (bif ilt x 65536 then cutI x 0 3 else 0), .int .i64 (bif ilt x 65536 then cutI x 3 3 else 0), .int .i64 (bif ilt x 65536 then cutI x 6 10 else 0)], .bool (tgB x)])
  | _, _ => none
noncomputable def E22b := (E22a)
def recNewS : Spec Ob := fun args h => match args, h with
  | [.agg [.int .i64 t, .int .i64 n], .int .i64 me, .agg [.int .i64 s, .int .i64 k, .int .i64 y]], [] => some (.ret (.ptr 0 0) [some (.cells [.int .i64 t, .int .i64 n, .int .u64 0, .int .i64 me, .int .i64 0, .int .u64 (bif rightT s k y then tskV s k y else 0), .bool (!rightT s k y), .int .u64 0])])
  | _, _ => none
/- OPQ -/
def pndB (xs : List Int) (t n a : Int) : Bool := ile 0 a && (ilt a t && pendB (cutI (peek xs (2 * n + 5 + 2 * t + 3 * a + 2)) 49 3))
def pndS : RSpec Ob := fun args h => match args, memPat h with
  | [.ptr 0 0, .agg [.int .i64 t, .int .i64 n], .int .i64 a], some (l, s) => some (l = s.xs.length ∧ (0 ≤ t ∧ t ≤ 100000) ∧ (0 ≤ n ∧ n ≤ 100000), .bool (pndB s.xs t n a))
  | _, _ => none
noncomputable def E22 := (E22b)
end Go.Sh

/- The example of an announcement. -/
namespace Go.Sh
open Go Go.Proofs
variable [Con]
def awake14S : Spec Ob := fun args h => match args, h with
  | [], [] => some (.pre (True) (.ret (.bool true) ([])))
  | _, _ => none
noncomputable def E23 := E22
end Go.Sh

/- The layout's addresses, as the document has them; an answer, asked for. -/
namespace Go.Sh
open Go Go.Proofs
variable [Con]
def lLifeS : RSpec Ob := fun args h => match args, h with
  | [.agg [.int .i64 t, .int .i64 n], .int .i64 a], [] => some ((0 ≤ t ∧ t ≤ 100000) ∧ (0 ≤ n ∧ n ≤ 100000) ∧ (-1099511627776 ≤ a ∧ a ≤ 1099511627776), .int .i64 (n + 4 + a))
  | _, _ => none
def lSlotS : RSpec Ob := fun args h => match args, h with
  | [.agg [.int .i64 t, .int .i64 n], .int .i64 a, .int .i64 b], [] => some ((0 ≤ t ∧ t ≤ 100000) ∧ (0 ≤ n ∧ n ≤ 100000) ∧ (-1099511627776 ≤ a ∧ a ≤ 1099511627776) ∧ (-1099511627776 ≤ b ∧ b ≤ 1099511627776), .int .i64 (2 * n + 5 + 2 * a + b))
  | _, _ => none
def lTicketS : RSpec Ob := fun args h => match args, h with
  | [.agg [.int .i64 t, .int .i64 n], .int .i64 a], [] => some ((0 ≤ t ∧ t ≤ 100000) ∧ (0 ≤ n ∧ n ≤ 100000) ∧ (-1099511627776 ≤ a ∧ a ≤ 1099511627776), .int .i64 (2 * n + 5 + 2 * t + 3 * a))
  | _, _ => none
def lTaskS : RSpec Ob := fun args h => match args, h with
  | [.agg [.int .i64 t, .int .i64 n], .int .i64 a], [] => some ((0 ≤ t ∧ t ≤ 100000) ∧ (0 ≤ n ∧ n ≤ 100000) ∧ (-1099511627776 ≤ a ∧ a ≤ 1099511627776), .int .i64 (2 * n + 5 + 2 * t + 3 * a + 1))
  | _, _ => none
def lDescS : RSpec Ob := fun args h => match args, h with
  | [.agg [.int .i64 t, .int .i64 n], .int .i64 a], [] => some ((0 ≤ t ∧ t ≤ 100000) ∧ (0 ≤ n ∧ n ≤ 100000) ∧ (-1099511627776 ≤ a ∧ a ≤ 1099511627776), .int .i64 (2 * n + 5 + 2 * t + 3 * a + 2))
  | _, _ => none
def lCounterS : RSpec Ob := fun args h => match args, h with
  | [.agg [.int .i64 t, .int .i64 n]], [] => some ((0 ≤ t ∧ t ≤ 100000) ∧ (0 ≤ n ∧ n ≤ 100000), .int .i64 (2 * n + 5 + 2 * t + 3 * t))
  | _, _ => none
noncomputable def E24 := (((((E23)))))
end Go.Sh

/- A round that is executed: its parts. -/
namespace Go.Sh
open Go Go.Proofs
variable [Con]
structure XE where
  pop : Int
  gave : Int
  u : Int
  sh : Int
  kd : Int
  ky : Int
  only : Bool
  att : Int
  at' : Int
  found : Int
  word : Int
def xC (t n : Int) (x : XE) : Option (Entry Ob) := some (.cells [.int .i64 t, .int .i64 n, .int .i64 x.pop, .int .i64 x.gave, .int .i64 x.u, .int .i64 x.sh, .int .i64 x.kd, .int .i64 x.ky, .bool x.only, .int .i64 x.att, .int .i64 x.at', .int .u64 x.found, .int .u64 x.word])
abbrev memC (l : Nat) (s : MS) : Option (Entry Mc) := some (.cells [.int .i64 s.t, .int .i64 s.n, .slice l 0 s.xs.length 1, .int .i64 s.c, .int .i64 s.k, .int .i64 s.a, .int .u64 s.o, .int .u64 s.w, .bool s.ok])
abbrev memX (s : MS) : Option (Entry Mc) := some (.ints (some .u64) s.xs)
def xH (t n : Int) (x : XE) (s : MS) : Heap Ob := [xC t n x, memC 2 s, memX s]
def memL (w : Nat) (h : Heap Ob) : Option (Nat × MS) := match h with
  | [some (.cells [.int .i64 t, .int .i64 n, .slice l 0 len 1, .int .i64 c, .int .i64 k, .int .i64 a, .int .u64 o, .int .u64 v, .bool ok]), some (.ints (some .u64) xs)] => if l = w then some (len, ⟨t, n, xs, c, k, a, o, v, ok⟩) else none
  | _ => none
theorem memL_eq {w : Nat} {h : Heap Ob} {l : Nat} {s : MS} (e : memL w h = some (l, s)) (hl : l = s.xs.length) : h = [some (.cells [.int .i64 s.t, .int .i64 s.n, .slice w 0 s.xs.length 1, .int .i64 s.c, .int .i64 s.k, .int .i64 s.a, .int .u64 s.o, .int .u64 s.w, .bool s.ok]), some (.ints (some .u64) s.xs)] := by
  unfold memL at e
  split at e
  · split at e
    · rename_i hw
      simp only [Option.some.injEq, Prod.mk.injEq] at e
      obtain ⟨rfl, rfl⟩ := e
      subst hw
      simp only at hl; subst hl; rfl
    · cases e
  · cases e
def xnewO (t n u sh kd ky : Int) : Out Ob := Out.ret (AVal.ptr 0 0) [some (Entry.cells [AVal.int .i64 t, AVal.int .i64 n, AVal.int .i64 0, AVal.int .i64 0, AVal.int .i64 u, AVal.int .i64 sh, AVal.int .i64 kd, AVal.int .i64 ky, AVal.bool false, AVal.int .i64 0, AVal.int .i64 0, AVal.int .u64 0, AVal.int .u64 0])]
theorem xnew_sum (t n u sh kd ky : Int) (K : AVal → Heap Ob → Prop) (h : (xnewO t n u sh kd ky).run K) : CallOk (obI tbl) Try.prog 12 [.agg [.int .i64 t, .int .i64 n], .int .i64 u, .agg [.int .i64 sh, .int .i64 kd, .int .i64 ky]] [] K := by
  refine CallOk.trim (callOk_of (E := E24) Try.checked.mixed (L := LL) (n := 10) (of_nf (q := (xnewO t n u sh kd ky).run K) (by kernel_rfl) h))
def xnewS : Spec Ob := fun args h => match args, h with
  | [.agg [.int .i64 t, .int .i64 n], .int .i64 u, .agg [.int .i64 sh, .int .i64 kd, .int .i64 ky]], [] => some (xnewO t n u sh kd ky)
  | _, _ => none
theorem xnew_ok : Spec.ok (obI tbl) Try.prog 12 xnewS := by
  intro args h o ho K hK
  unfold xnewS at ho
  split at ho
  case h_2 => cases ho
  simp only [Option.some.injEq] at ho; subst ho
  exact xnew_sum _ _ _ _ _ _ K hK
def linksO (sh kd ky : Int) : Out Ob := Out.ite (ieq kd 1) (Out.ret (AVal.bool true) []) (Out.ret (AVal.bool (ieq kd 4)) [])
theorem links_sum (sh kd ky : Int) (K : AVal → Heap Ob → Prop) (h : (linksO sh kd ky).run K) : CallOk (obI tbl) Try.prog 13 [.agg [.int .i64 sh, .int .i64 kd, .int .i64 ky]] [] K := by
  refine CallOk.trim (callOk_of (E := E24) Try.checked.mixed (L := LL) (n := 10) (of_nf (q := (linksO sh kd ky).run K) (by kernel_rfl) h))
def linksS : Spec Ob := fun args h => match args, h with
  | [.agg [.int .i64 sh, .int .i64 kd, .int .i64 ky]], [] => some (linksO sh kd ky)
  | _, _ => none
theorem links_ok : Spec.ok (obI tbl) Try.prog 13 linksS := by
  intro args h o ho K hK
  unfold linksS at ho
  split at ho
  case h_2 => cases ho
  simp only [Option.some.injEq] at ho; subst ho
  exact links_sum _ _ _ K hK
end Go.Sh

/- A round that is executed: its parts. -/
namespace Go.Sh
open Go Go.Proofs
variable [Con]
/- OPQ -/
def linksB (kd : Int) : Bool := ieq kd 1 || ieq kd 4
/- OPQ -/
def popsB (sh kd : Int) : Bool := ieq kd 5 && ieq sh 4
noncomputable def EX1 := E24.addS 12 xnewS xnew_ok
def linksRS : RSpec Ob := fun args h => match args, h with
  | [.agg [.int .i64 sh, .int .i64 kd, .int .i64 ky]], [] => some (True, .bool (linksB kd))
  | _, _ => none
theorem linksR_ok : Spec.ok (obI tbl) Try.prog 13 linksRS.spec := by
  intro args h o ho K hK
  unfold RSpec.spec linksRS at ho
  split at ho
  case h_2 => cases ho
  rename_i p v hp
  split at hp
  case h_2 => cases hp
  rename_i sh kd ky
  simp only [Option.some.injEq, Prod.mk.injEq] at hp
  obtain ⟨rfl, rfl⟩ := hp
  simp only [Option.some.injEq] at ho; subst ho
  obtain ⟨hp, hK⟩ := hK
  have hK : K (.bool (linksB kd)) ([] : Heap Ob) := hK
  refine CallOk.trim (callOk_of (E := EX1) Try.checked.mixed (L := LL) (n := 10) (of_nf (q := bif ieq kd 1 then K (AVal.bool true) [] else K (AVal.bool (ieq kd 4)) []) (by kernel_rfl) ?_))
  unfold linksB at hK
  cases h : ieq kd 1 <;> rw [h] at hK <;> exact hK
def popsRS : RSpec Ob := fun args h => match args, h with
  | [.agg [.int .i64 sh, .int .i64 kd, .int .i64 ky]], [] => some (True, .bool (popsB sh kd))
  | _, _ => none
theorem popsR_ok : Spec.ok (obI tbl) Try.prog 58 popsRS.spec := by
  intro args h o ho K hK
  unfold RSpec.spec popsRS at ho
  split at ho
  case h_2 => cases ho
  rename_i p v hp
  split at hp
  case h_2 => cases hp
  rename_i sh kd ky
  simp only [Option.some.injEq, Prod.mk.injEq] at hp
  obtain ⟨rfl, rfl⟩ := hp
  simp only [Option.some.injEq] at ho; subst ho
  obtain ⟨hp, hK⟩ := hK
  have hK : K (.bool (popsB sh kd)) ([] : Heap Ob) := hK
  refine CallOk.trim (callOk_of (E := EX1) Try.checked.mixed (L := LL) (n := 10) (of_nf (q := bif ieq kd 5 then K (AVal.bool (ieq sh 4)) [] else K (AVal.bool false) []) (by kernel_rfl) ?_))
  unfold popsB at hK
  cases h : ieq kd 5 <;> rw [h] at hK <;> exact hK
def claimRS : RSpec Ob := fun args h => match args, h with
  | [.agg [.int .i64 k, .int .i64 y, .bool m, .int .i64 c, .int .i64 v], .int .i64 b, .int .i64 x, .bool q], [] => some (-1000000 ≤ b ∧ b ≤ 1000000, .agg [.int .i64 k, .int .i64 x, .bool q, .int .i64 (b + 1), .int .i64 v])
  | _, _ => none
theorem claimR_ok : Spec.ok (obI tbl) Try.prog 57 claimRS.spec := by
  intro args h o ho K hK
  unfold RSpec.spec claimRS at ho
  split at ho
  case h_2 => cases ho
  rename_i p v hp
  split at hp
  case h_2 => cases hp
  rename_i k y m c v b x q
  simp only [Option.some.injEq, Prod.mk.injEq] at hp
  obtain ⟨rfl, rfl⟩ := hp
  simp only [Option.some.injEq] at ho; subst ho
  obtain ⟨hp, hK⟩ := hK
  have hK : K (.agg [.int .i64 k, .int .i64 x, .bool q, .int .i64 (b + 1), .int .i64 v]) ([] : Heap Ob) := hK
  refine CallOk.trim (callOk_of (E := EX1) Try.checked.mixed (L := LL) (n := 10) (of_nf (q := K (AVal.agg [AVal.int .i64 k, AVal.int .i64 x, AVal.bool q, AVal.int .i64 (W (b + 1)), AVal.int .i64 v]) []) (by kernel_rfl) ?_))
  rw [W_id (by omega)]
  exact hK
def xdescRS : RSpec Ob := fun args h => match args, h with
  | [.ptr 0 0], [some (.cells [.int .i64 t, .int .i64 n, .int .i64 pop, .int .i64 gave, .int .i64 u, .int .i64 sh, .int .i64 kd, .int .i64 ky, .bool only, .int .i64 att, .int .i64 at', .int .u64 found, .int .u64 word])] => some (True, .agg [.int .i64 (cutI found 0 12), .int .i64 (cutI found 12 9), .int .i64 (cutI found 21 18), .int .i64 (cutI found 39 9), .bool (ieq (cutI found 48 1) 1), .int .i64 (cutI found 49 3), .int .i64 (cutI found 52 10)])
  | _, _ => none
theorem xdescR_ok : Spec.ok (obI tbl) Try.prog 52 xdescRS.spec := by
  intro args h o ho K hK
  unfold RSpec.spec xdescRS at ho
  split at ho
  case h_2 => cases ho
  rename_i p v hp
  split at hp
  case h_2 => cases hp
  rename_i t n pop gave u sh kd ky only att at' found word
  simp only [Option.some.injEq, Prod.mk.injEq] at hp
  obtain ⟨rfl, rfl⟩ := hp
  simp only [Option.some.injEq] at ho; subst ho
  obtain ⟨hp, hK⟩ := hK
  have hK : K (.agg [.int .i64 (cutI found 0 12), .int .i64 (cutI found 12 9), .int .i64 (cutI found 21 18), .int .i64 (cutI found 39 9), .bool (ieq (cutI found 48 1) 1), .int .i64 (cutI found 49 3), .int .i64 (cutI found 52 10)]) [some (.cells [.int .i64 t, .int .i64 n, .int .i64 pop, .int .i64 gave, .int .i64 u, .int .i64 sh, .int .i64 kd, .int .i64 ky, .bool only, .int .i64 att, .int .i64 at', .int .u64 found, .int .u64 word])] := hK
  refine CallOk.trim (callOk_of (E := EX1) Try.checked.mixed (L := LL) (n := 10) (of_nf (q := True ∧ K (AVal.agg [AVal.int .i64 (cutI found 0 12), AVal.int .i64 (cutI found 12 9), AVal.int .i64 (cutI found 21 18), AVal.int .i64 (cutI found 39 9), AVal.bool (ieq (cutI found 48 1) 1), AVal.int .i64 (cutI found 49 3), AVal.int .i64 (cutI found 52 10)]) [some (Entry.cells [AVal.int .i64 t, AVal.int .i64 n, AVal.int .i64 pop, AVal.int .i64 gave, AVal.int .i64 u, AVal.int .i64 sh, AVal.int .i64 kd, AVal.int .i64 ky, AVal.bool only, AVal.int .i64 att, AVal.int .i64 at', AVal.int .u64 found, AVal.int .u64 word])]) (by kernel_rfl) ?_))
  exact ⟨trivial, hK⟩
noncomputable def EX2 := (((EX1.addR 13 linksRS linksR_ok).addR 58 popsRS popsR_ok).addR 57 claimRS claimR_ok).addR 52 xdescRS xdescR_ok
end Go.Sh

/- A round that is executed: its changes. -/
namespace Go.Sh
open Go Go.Proofs
variable [Con]
def xputO (t n : Int) (x : XE) (k y : Int) (m : Bool) (c v : Int) (s : MS) : Out Ob := Out.pre True (Out.pre True (Out.pre ((List.length s.3 = List.length s.3 ∧ (0 : Int) ≤ s.4 ∧ s.4 ≤ (4611686018427387904 : Int)) ∧ True) (Out.ret (AVal.bool (casB s.3 (cutI x.10 12 9) x.11)) [some (Entry.cells [AVal.int .i64 t, AVal.int .i64 n, AVal.int .i64 x.1, AVal.int .i64 x.2, AVal.int .i64 x.3, AVal.int .i64 x.4, AVal.int .i64 x.5, AVal.int .i64 x.6, AVal.bool x.7, AVal.int .i64 x.8, AVal.int .i64 x.9, AVal.int .u64 x.10, AVal.int .u64 x.11]), some (Entry.cells [AVal.int .i64 s.1, AVal.int .i64 s.2, AVal.slice 2 0 (List.length (bif casB s.3 (cutI x.10 12 9) x.11 then putI s.3 (cutI x.10 12 9) (bif bif fitI k 10 then bif fitI y 9 then bif fitI c 5 then fitI v 18 else false else false else false then putV k y m c v else 0) else s.3)) 1, AVal.int .i64 (s.4 + 1), AVal.int .i64 3, AVal.int .i64 (cutI x.10 12 9), AVal.int .u64 (peek s.3 (cutI x.10 12 9)), AVal.int .u64 (bif inB s.3 (cutI x.10 12 9) then bif bif fitI k 10 then bif fitI y 9 then bif fitI c 5 then fitI v 18 else false else false else false then putV k y m c v else 0 else 0), AVal.bool (casB s.3 (cutI x.10 12 9) x.11)]), some (Entry.ints (some .u64) (bif casB s.3 (cutI x.10 12 9) x.11 then putI s.3 (cutI x.10 12 9) (bif bif fitI k 10 then bif fitI y 9 then bif fitI c 5 then fitI v 18 else false else false else false then putV k y m c v else 0) else s.3))])))
theorem xput_sum (t n : Int) (x : XE) (k y : Int) (m : Bool) (c v : Int) (s : MS) (K : AVal → Heap Ob → Prop) (h : (xputO t n x k y m c v s).run K) : CallOk (obI tbl) Try.prog 56 [.ptr 0 0, .ptr 1 0, .agg [.int .i64 k, .int .i64 y, .bool m, .int .i64 c, .int .i64 v]] (xH t n x s) K := by
  refine CallOk.trim (callOk_of (E := EX2) Try.checked.mixed (L := LL) (n := 10) (of_nf (q := (xputO t n x k y m c v s).run K) (by kernel_rfl) h))
def xputS : Spec Ob := fun args h => match args, h with
  | [.ptr 0 0, .ptr 1 0, .agg [.int .i64 k, .int .i64 y, .bool m, .int .i64 c, .int .i64 v]], [some (.cells [.int .i64 t, .int .i64 n, .int .i64 pop, .int .i64 gave, .int .i64 u, .int .i64 sh, .int .i64 kd, .int .i64 ky, .bool only, .int .i64 att, .int .i64 at', .int .u64 found, .int .u64 word]), e1, e2] => (match memL 2 [e1, e2] with
    | some (l, s) => some (.pre (l = s.xs.length) (xputO t n ⟨pop, gave, u, sh, kd, ky, only, att, at', found, word⟩ k y m c v s))
    | none => none)
  | _, _ => none
theorem xput_ok : Spec.ok (obI tbl) Try.prog 56 xputS := by
  intro args h o ho K hK
  unfold xputS at ho
  split at ho
  case h_2 => cases ho
  split at ho
  case h_2 => cases ho
  rename_i hm
  simp only [Option.some.injEq] at ho; subst ho
  obtain ⟨hl, hK⟩ := hK
  have hh := memL_eq hm hl
  simp only [List.cons.injEq, and_true] at hh
  obtain ⟨rfl, rfl⟩ := hh
  exact xput_sum _ _ _ _ _ _ _ _ _ K hK
def xturnO (t n : Int) (x : XE) (a b c d : Int) (m : Bool) (e f : Int) (s : MS) : Out Ob := Out.pre True (Out.pre ((((0 : Int) ≤ t ∧ t ≤ (100000 : Int)) ∧ ((0 : Int) ≤ n ∧ n ≤ (100000 : Int)) ∧ (-1099511627776 : Int) ≤ x.3 ∧ x.3 ≤ (1099511627776 : Int)) ∧ True) (Out.pre ((List.length s.3 = List.length s.3 ∧ (0 : Int) ≤ s.4 ∧ s.4 ≤ (4611686018427387904 : Int)) ∧ True) (Out.ret (AVal.bool (casB s.3 (2 * n + 5 + 2 * t + 3 * x.3 + 2) x.10)) [some (Entry.cells [AVal.int .i64 t, AVal.int .i64 n, AVal.int .i64 x.1, AVal.int .i64 x.2, AVal.int .i64 x.3, AVal.int .i64 x.4, AVal.int .i64 x.5, AVal.int .i64 x.6, AVal.bool x.7, AVal.int .i64 x.8, AVal.int .i64 x.9, AVal.int .u64 x.10, AVal.int .u64 x.11]), some (Entry.cells [AVal.int .i64 s.1, AVal.int .i64 s.2, AVal.slice 2 0 (List.length (bif casB s.3 (2 * n + 5 + 2 * t + 3 * x.3 + 2) x.10 then putI s.3 (2 * n + 5 + 2 * t + 3 * x.3 + 2) (bif dOk a b c d e f then dPutV a b c d m e f else 0) else s.3)) 1, AVal.int .i64 (s.4 + 1), AVal.int .i64 3, AVal.int .i64 (2 * n + 5 + 2 * t + 3 * x.3 + 2), AVal.int .u64 (peek s.3 (2 * n + 5 + 2 * t + 3 * x.3 + 2)), AVal.int .u64 (bif inB s.3 (2 * n + 5 + 2 * t + 3 * x.3 + 2) then bif dOk a b c d e f then dPutV a b c d m e f else 0 else 0), AVal.bool (casB s.3 (2 * n + 5 + 2 * t + 3 * x.3 + 2) x.10)]), some (Entry.ints (some .u64) (bif casB s.3 (2 * n + 5 + 2 * t + 3 * x.3 + 2) x.10 then putI s.3 (2 * n + 5 + 2 * t + 3 * x.3 + 2) (bif dOk a b c d e f then dPutV a b c d m e f else 0) else s.3))])))
theorem xturn_sum (t n : Int) (x : XE) (a b c d : Int) (m : Bool) (e f : Int) (s : MS) (K : AVal → Heap Ob → Prop) (h : (xturnO t n x a b c d m e f s).run K) : CallOk (obI tbl) Try.prog 59 [.ptr 0 0, .ptr 1 0, .agg [.int .i64 a, .int .i64 b, .int .i64 c, .int .i64 d, .bool m, .int .i64 e, .int .i64 f]] (xH t n x s) K := by
  refine CallOk.trim (callOk_of (E := EX2) Try.checked.mixed (L := LL) (n := 10) (of_nf (q := (xturnO t n x a b c d m e f s).run K) (by kernel_rfl) h))
def xturnS : Spec Ob := fun args h => match args, h with
  | [.ptr 0 0, .ptr 1 0, .agg [.int .i64 a, .int .i64 b, .int .i64 c, .int .i64 d, .bool m, .int .i64 e, .int .i64 f]], [some (.cells [.int .i64 t, .int .i64 n, .int .i64 pop, .int .i64 gave, .int .i64 u, .int .i64 sh, .int .i64 kd, .int .i64 ky, .bool only, .int .i64 att, .int .i64 at', .int .u64 found, .int .u64 word]), e1, e2] => (match memL 2 [e1, e2] with
    | some (l, s) => some (.pre (l = s.xs.length) (xturnO t n ⟨pop, gave, u, sh, kd, ky, only, att, at', found, word⟩ a b c d m e f s))
    | none => none)
  | _, _ => none
theorem xturn_ok : Spec.ok (obI tbl) Try.prog 59 xturnS := by
  intro args h o ho K hK
  unfold xturnS at ho
  split at ho
  case h_2 => cases ho
  split at ho
  case h_2 => cases ho
  rename_i hm
  simp only [Option.some.injEq] at ho; subst ho
  obtain ⟨hl, hK⟩ := hK
  have hh := memL_eq hm hl
  simp only [List.cons.injEq, and_true] at hh
  obtain ⟨rfl, rfl⟩ := hh
  exact xturn_sum _ _ _ _ _ _ _ _ _ _ _ K hK
noncomputable def EX3 := (EX2.addS 56 xputS xput_ok).addS 59 xturnS xturn_ok
end Go.Sh

