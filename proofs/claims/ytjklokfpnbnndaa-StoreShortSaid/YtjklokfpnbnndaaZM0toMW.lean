import Derived.Test.YtjklokfpnbnndaaRows
import Derived.IntWalk
import Derived.Test.YtjklokfpnbnndaaZSh23
set_option linter.all false
/- The shared memory: its state, as the contracts tell it. -/
namespace Go.Sh
open Go Go.Proofs
variable [Con]
abbrev W (x : Int) : Int := IntKind.wrap IntKind.i64 x
abbrev WU (x : Int) : Int := IntKind.wrap IntKind.u64 x
theorem W_in {x : Int} (h : -9223372036854775808 ≤ x ∧ x ≤ 9223372036854775807) : IntKind.wrap IntKind.i64 x = x := IntWalk.i64_in x h

/-- memory: how many threads and nodes, the words, how many actions, the last one -/
structure MS where
  t : Int
  n : Int
  xs : List Int
  c : Int
  k : Int
  a : Int
  o : Int
  w : Int
  ok : Bool

/-- a machine that takes a node -/
structure AL where
  got : Int
  at' : Int
  left : Int
  found : Int
  free : Bool
/-- a machine that sweeps: how far it is (0: not begun, 1: it looks at the slots, else: it gives back) -/
structure SWS where
  ph : Nat
  N : List Int
  m : List (Int × Int)
  i : Int
  ks : List Int
  fs : List Int
  gs : List Int
  j : Nat
  l : Nat
/-- a machine that ensures a node (0: not begun, 1: it takes, 2 and more: it sweeps) -/
structure ENS where
  ph : Nat
  sh : Bool
  dn : Bool
  x : AL
  y : SWS
/-- a store -/
structure STS where
  me : Int
  sp : Int
  R : List Int
/-- objects that are told whole -/
inductive Mc where
  | sweep (t n : Int) (y : SWS)
  | ensure (t n : Int) (e : ENS)
  | store (t n : Int) (s : STS)
abbrev Ob := Mc
def alE (t n : Int) (x : AL) : Option (Entry Mc) := some (.cells [.int .i64 t, .int .i64 n, .int .i64 x.got, .int .i64 x.at', .int .i64 x.left, .int .u64 x.found, .bool x.free])
def swG (t n : Int) (y : SWS) : Heap Mc := match y.ph with
  | 0 => [some (.cells [.ptr 1 0, .raw (.pointer none)]), none]
  | 1 => [some (.cells [.ptr 1 0, .ptr 2 0]), none, some (.cells [.int .i64 t, .int .i64 n, .raw (.slice none 0 0), .raw (.slice none 0 0), .slice 3 0 y.N.length 1, .map 4, .int .i64 y.i, .raw (.pointer none)]), some (.ints (some .i64) y.N), some (.imap .i64 none y.m)]
  | 2 => [some (.cells [.ptr 1 0, .ptr 2 0]), none, some (.cells [.int .i64 t, .int .i64 n, .slice 3 0 y.ks.length 1, .slice 4 0 y.fs.length 1, .slice 5 0 y.N.length 1, .map 6, .int .i64 y.i, .ptr 7 0]), some (.ints (some .i64) y.ks), some (.ints (some .i64) y.fs), some (.ints (some .i64) y.N), some (.imap .i64 none y.m), some (.cells [.int .i64 t, .int .i64 n, .slice 8 y.j y.l 1]), some (.ints (some .i64) y.gs)]
  | _ => [some (.cells [.ptr 1 0, .top]), none]
def enG (t n : Int) (e : ENS) : Heap Mc := match e.ph with
  | 0 => [some (.cells [.ptr 1 0, .bool e.sh, .raw (.pointer none), .raw (.pointer none), .bool e.dn]), none]
  | 1 => [some (.cells [.ptr 1 0, .bool e.sh, .ptr 2 0, .raw (.pointer none), .bool e.dn]), none, alE t n e.x]
  | 2 => [some (.cells [.ptr 1 0, .bool e.sh, .ptr 2 0, .ptr 3 0, .bool e.dn]), none, alE t n e.x, some (.cells [.ptr 1 0, .raw (.pointer none)])]
  | 3 => [some (.cells [.ptr 1 0, .bool e.sh, .ptr 2 0, .ptr 3 0, .bool e.dn]), none, alE t n e.x, some (.cells [.ptr 1 0, .ptr 4 0]), some (.cells [.int .i64 t, .int .i64 n, .raw (.slice none 0 0), .raw (.slice none 0 0), .slice 5 0 e.y.N.length 1, .map 6, .int .i64 e.y.i, .raw (.pointer none)]), some (.ints (some .i64) e.y.N), some (.imap .i64 none e.y.m)]
  | _ => [some (.cells [.ptr 1 0, .bool e.sh, .ptr 2 0, .ptr 3 0, .bool e.dn]), none, alE t n e.x, some (.cells [.ptr 1 0, .ptr 4 0]), some (.cells [.int .i64 t, .int .i64 n, .slice 5 0 e.y.ks.length 1, .slice 6 0 e.y.fs.length 1, .slice 7 0 e.y.N.length 1, .map 8, .int .i64 e.y.i, .ptr 9 0]), some (.ints (some .i64) e.y.ks), some (.ints (some .i64) e.y.fs), some (.ints (some .i64) e.y.N), some (.imap .i64 none e.y.m), some (.cells [.int .i64 t, .int .i64 n, .slice 10 e.y.j e.y.l 1]), some (.ints (some .i64) e.y.gs)]
def stG (t n : Int) (s : STS) : Heap Mc := [some (.cells [.int .i64 t, .int .i64 n, .int .i64 s.me, .int .i64 s.sp, .slice 1 0 s.R.length 1]), some (.ints (some .i64) s.R)]
def tbl : Mc → Nat × Heap Mc
  | .sweep t n y => (1, swG t n y)
  | .ensure t n e => (1, enG t n e)
  | .store t n s => (0, stG t n s)
def memH (s : MS) : Heap Ob := [some (.cells [.int .i64 s.t, .int .i64 s.n, .slice 1 0 s.xs.length 1, .int .i64 s.c, .int .i64 s.k, .int .i64 s.a, .int .u64 s.o, .int .u64 s.w, .bool s.ok]), some (.ints (some .u64) s.xs)]
noncomputable def E0 : Env Ob Try.prog where
  I := obI tbl
  cps := fun _ => none
  det := fun _ => none
  meth := methOf Try.prog
  cpsOk := by intro f S h; cases h
  detOk := by intro f S h; cases h
  methOk := fun t n f h v w _ => methOf_run h v w
end Go.Sh

/- The shared memory: what its functions come to. -/
namespace Go.Sh
open Go Go.Proofs
variable [Con]
theorem W_add {x : Int} (h : -9223372036854775808 ≤ x ∧ x ≤ 9223372036854775807) : IntKind.wrap IntKind.i64 x = x := W_in h
theorem cond_go {b : Bool} {X Y : Prop} (h1 : b = true → X) (h2 : b = false → Y) : cond b X Y := cond_intro h1 h2

def laySizeS : Spec Ob := fun args h => match args, h with
  | [.agg [.int .i64 t, .int .i64 n]], [] => some (.pre ((0 ≤ t ∧ t ≤ 100000) ∧ (0 ≤ n ∧ n ≤ 100000)) (.ret (.int .i64 (2 * n + 5 * t + 6)) []))
  | _, _ => none
theorem laySize_ok : Spec.ok E0.I Try.prog 81 laySizeS := by
  intro args h o ho K hK
  unfold laySizeS at ho
  split at ho
  case h_2 => cases ho
  rename_i t n
  simp only [Option.some.injEq] at ho; subst ho
  obtain ⟨hp, hK⟩ := hK
  have hK : K (.int .i64 (2 * n + 5 * t + 6)) [] := hK
  refine CallOk.trim (callOk_of (E := E0) Try.checked.mixed (L := fun _ _ => none) (n := 10) (of_nf (q := K (AVal.int .i64 (W (W (W (W (W (W (W (W (W (1 + n) + 4) + W (n + 1)) - 1) + W (2 * t)) + 0) + W (3 * t)) + 0) + 1))) []) (by kernel_rfl) ?_))
  simp (disch := omega) only [W, W_in]
  refine cast (congrArg (fun z => K (AVal.int .i64 z) []) ?_) hK
  omega

def layLifeS : Spec Ob := fun args h => match args, h with
  | [.agg [.int .i64 t, .int .i64 n], .int .i64 a], [] => some (.pre ((0 ≤ t ∧ t ≤ 100000) ∧ (0 ≤ n ∧ n ≤ 100000) ∧ (-1099511627776 ≤ a ∧ a ≤ 1099511627776)) (.ret (.int .i64 (n + 4 + a)) []))
  | _, _ => none
theorem layLife_ok : Spec.ok E0.I Try.prog 19 layLifeS := by
  intro args h o ho K hK
  unfold layLifeS at ho
  split at ho
  case h_2 => cases ho
  rename_i t n a
  simp only [Option.some.injEq] at ho; subst ho
  obtain ⟨hp, hK⟩ := hK
  have hK : K (.int .i64 (n + 4 + a)) [] := hK
  refine CallOk.trim (callOk_of (E := E0) Try.checked.mixed (L := fun _ _ => none) (n := 10) (of_nf (q := K (AVal.int .i64 (W (W (W (W (1 + n) + 4) + a) - 1))) []) (by kernel_rfl) ?_))
  simp (disch := omega) only [W, W_in]
  refine cast (congrArg (fun z => K (AVal.int .i64 z) []) ?_) hK
  omega

def laySlotS : Spec Ob := fun args h => match args, h with
  | [.agg [.int .i64 t, .int .i64 n], .int .i64 a, .int .i64 b], [] => some (.pre ((0 ≤ t ∧ t ≤ 100000) ∧ (0 ≤ n ∧ n ≤ 100000) ∧ (-1099511627776 ≤ a ∧ a ≤ 1099511627776) ∧ (-1099511627776 ≤ b ∧ b ≤ 1099511627776)) (.ret (.int .i64 (2 * n + 5 + 2 * a + b)) []))
  | _, _ => none
theorem laySlot_ok : Spec.ok E0.I Try.prog 70 laySlotS := by
  intro args h o ho K hK
  unfold laySlotS at ho
  split at ho
  case h_2 => cases ho
  rename_i t n a b
  simp only [Option.some.injEq] at ho; subst ho
  obtain ⟨hp, hK⟩ := hK
  have hK : K (.int .i64 (2 * n + 5 + 2 * a + b)) [] := hK
  refine CallOk.trim (callOk_of (E := E0) Try.checked.mixed (L := fun _ _ => none) (n := 10) (of_nf (q := K (AVal.int .i64 (W (W (W (W (W (W (1 + n) + 4) + W (n + 1)) - 1) + W (2 * a)) + b))) []) (by kernel_rfl) ?_))
  simp (disch := omega) only [W, W_in]
  refine cast (congrArg (fun z => K (AVal.int .i64 z) []) ?_) hK
  omega

def layDescS : Spec Ob := fun args h => match args, h with
  | [.agg [.int .i64 t, .int .i64 n], .int .i64 a], [] => some (.pre ((0 ≤ t ∧ t ≤ 100000) ∧ (0 ≤ n ∧ n ≤ 100000) ∧ (-1099511627776 ≤ a ∧ a ≤ 1099511627776)) (.ret (.int .i64 (2 * n + 5 + 2 * t + 3 * a + 2)) []))
  | _, _ => none
theorem layDesc_ok : Spec.ok E0.I Try.prog 49 layDescS := by
  intro args h o ho K hK
  unfold layDescS at ho
  split at ho
  case h_2 => cases ho
  rename_i t n a
  simp only [Option.some.injEq] at ho; subst ho
  obtain ⟨hp, hK⟩ := hK
  have hK : K (.int .i64 (2 * n + 5 + 2 * t + 3 * a + 2)) [] := hK
  refine CallOk.trim (callOk_of (E := E0) Try.checked.mixed (L := fun _ _ => none) (n := 10) (of_nf (q := K (AVal.int .i64 (W (W (W (W (W (W (W (W (1 + n) + 4) + W (n + 1)) - 1) + W (2 * t)) + 0) + W (3 * a)) + 2))) []) (by kernel_rfl) ?_))
  simp (disch := omega) only [W, W_in]
  refine cast (congrArg (fun z => K (AVal.int .i64 z) []) ?_) hK
  omega

def layTaskS : Spec Ob := fun args h => match args, h with
  | [.agg [.int .i64 t, .int .i64 n], .int .i64 a], [] => some (.pre ((0 ≤ t ∧ t ≤ 100000) ∧ (0 ≤ n ∧ n ≤ 100000) ∧ (-1099511627776 ≤ a ∧ a ≤ 1099511627776)) (.ret (.int .i64 (2 * n + 5 + 2 * t + 3 * a + 1)) []))
  | _, _ => none
theorem layTask_ok : Spec.ok E0.I Try.prog 84 layTaskS := by
  intro args h o ho K hK
  unfold layTaskS at ho
  split at ho
  case h_2 => cases ho
  rename_i t n a
  simp only [Option.some.injEq] at ho; subst ho
  obtain ⟨hp, hK⟩ := hK
  have hK : K (.int .i64 (2 * n + 5 + 2 * t + 3 * a + 1)) [] := hK
  refine CallOk.trim (callOk_of (E := E0) Try.checked.mixed (L := fun _ _ => none) (n := 10) (of_nf (q := K (AVal.int .i64 (W (W (W (W (W (W (W (W (1 + n) + 4) + W (n + 1)) - 1) + W (2 * t)) + 0) + W (3 * a)) + 1))) []) (by kernel_rfl) ?_))
  simp (disch := omega) only [W, W_in]
  refine cast (congrArg (fun z => K (AVal.int .i64 z) []) ?_) hK
  omega

def layTicketS : Spec Ob := fun args h => match args, h with
  | [.agg [.int .i64 t, .int .i64 n], .int .i64 a], [] => some (.pre ((0 ≤ t ∧ t ≤ 100000) ∧ (0 ≤ n ∧ n ≤ 100000) ∧ (-1099511627776 ≤ a ∧ a ≤ 1099511627776)) (.ret (.int .i64 (2 * n + 5 + 2 * t + 3 * a)) []))
  | _, _ => none
theorem layTicket_ok : Spec.ok E0.I Try.prog 47 layTicketS := by
  intro args h o ho K hK
  unfold layTicketS at ho
  split at ho
  case h_2 => cases ho
  rename_i t n a
  simp only [Option.some.injEq] at ho; subst ho
  obtain ⟨hp, hK⟩ := hK
  have hK : K (.int .i64 (2 * n + 5 + 2 * t + 3 * a)) [] := hK
  refine CallOk.trim (callOk_of (E := E0) Try.checked.mixed (L := fun _ _ => none) (n := 10) (of_nf (q := K (AVal.int .i64 (W (W (W (W (W (W (W (W (1 + n) + 4) + W (n + 1)) - 1) + W (2 * t)) + 0) + W (3 * a)) + 0))) []) (by kernel_rfl) ?_))
  simp (disch := omega) only [W, W_in]
  refine cast (congrArg (fun z => K (AVal.int .i64 z) []) ?_) hK
  omega

def layCounterS : Spec Ob := fun args h => match args, h with
  | [.agg [.int .i64 t, .int .i64 n]], [] => some (.pre ((0 ≤ t ∧ t ≤ 100000) ∧ (0 ≤ n ∧ n ≤ 100000)) (.ret (.int .i64 (2 * n + 5 + 2 * t + 3 * t)) []))
  | _, _ => none
theorem layCounter_ok : Spec.ok E0.I Try.prog 51 layCounterS := by
  intro args h o ho K hK
  unfold layCounterS at ho
  split at ho
  case h_2 => cases ho
  rename_i t n
  simp only [Option.some.injEq] at ho; subst ho
  obtain ⟨hp, hK⟩ := hK
  have hK : K (.int .i64 (2 * n + 5 + 2 * t + 3 * t)) [] := hK
  refine CallOk.trim (callOk_of (E := E0) Try.checked.mixed (L := fun _ _ => none) (n := 10) (of_nf (q := K (AVal.int .i64 (W (W (W (W (W (W (W (W (1 + n) + 4) + W (n + 1)) - 1) + W (2 * t)) + 0) + W (3 * t)) + 0))) []) (by kernel_rfl) ?_))
  simp (disch := omega) only [W, W_in]
  refine cast (congrArg (fun z => K (AVal.int .i64 z) []) ?_) hK
  omega

def slotsS : Spec Ob := fun args h => match args, h with
  | [.agg [.int .i64 t, .int .i64 n]], [] => some (.pre ((0 ≤ t ∧ t ≤ 100000) ∧ (0 ≤ n ∧ n ≤ 100000)) (.ret (.int .i64 (2 * t)) []))
  | _, _ => none
theorem slots_ok : Spec.ok E0.I Try.prog 69 slotsS := by
  intro args h o ho K hK
  unfold slotsS at ho
  split at ho
  case h_2 => cases ho
  rename_i t n
  simp only [Option.some.injEq] at ho; subst ho
  obtain ⟨hp, hK⟩ := hK
  have hK : K (.int .i64 (2 * t)) [] := hK
  refine CallOk.trim (callOk_of (E := E0) Try.checked.mixed (L := fun _ _ => none) (n := 10) (of_nf (q := K (AVal.int .i64 (W (2 * t))) []) (by kernel_rfl) ?_))
  simp (disch := omega) only [W, W_in]
  refine cast (congrArg (fun z => K (AVal.int .i64 z) []) ?_) hK
  omega

/- OPQ -/
def rightB (t n : Int) : Bool := ile 1 t && ile t 8 && ile 1 n && ile n 200
theorem rightB_true {t n : Int} : rightB t n = true ↔ 1 ≤ t ∧ t ≤ 8 ∧ 1 ≤ n ∧ n ≤ 200 := by
  unfold rightB; simp only [ile_eq, Bool.and_eq_true, decide_eq_true_eq]; omega
/- OPQ -/
def nodeB (n a : Int) : Bool := ile 1 a && ile a n
theorem nodeB_true {n a : Int} : nodeB n a = true ↔ 1 ≤ a ∧ a ≤ n := by
  unfold nodeB; simp only [ile_eq, Bool.and_eq_true, decide_eq_true_eq]

def layRightS : Spec Ob := fun args h => match args, h with
  | [.agg [.int .i64 t, .int .i64 n]], [] => some (.pre (True) (.ret (.bool (rightB t n)) []))
  | _, _ => none
theorem layRight_ok : Spec.ok E0.I Try.prog 80 layRightS := by
  intro args h o ho K hK
  unfold layRightS at ho
  split at ho
  case h_2 => cases ho
  rename_i t n
  simp only [Option.some.injEq] at ho; subst ho
  obtain ⟨hp, hK⟩ := hK
  have hK : K (.bool (rightB t n)) [] := hK
  refine CallOk.trim (callOk_of (E := E0) Try.checked.mixed (L := fun _ _ => none) (n := 10) (of_nf (q := bif ile 1 t then bif ile t 8 then bif ile 1 n then K (AVal.bool (ile n 200)) [] else K (AVal.bool false) [] else K (AVal.bool false) [] else K (AVal.bool false) []) (by kernel_rfl) ?_))
  unfold rightB at hK
  refine cond_go (fun e1 => cond_go (fun e2 => cond_go (fun e3 => ?_) (fun e3 => ?_)) (fun e2 => ?_)) (fun e1 => ?_)
  all_goals (simp only [*, Bool.true_and, Bool.false_and, Bool.and_false] at hK; exact hK)

def layNodeS : Spec Ob := fun args h => match args, h with
  | [.agg [.int .i64 t, .int .i64 n], .int .i64 a], [] => some (.pre (True) (.ret (.bool (nodeB n a)) []))
  | _, _ => none
theorem layNode_ok : Spec.ok E0.I Try.prog 71 layNodeS := by
  intro args h o ho K hK
  unfold layNodeS at ho
  split at ho
  case h_2 => cases ho
  rename_i t n a
  simp only [Option.some.injEq] at ho; subst ho
  obtain ⟨hp, hK⟩ := hK
  have hK : K (.bool (nodeB n a)) [] := hK
  refine CallOk.trim (callOk_of (E := E0) Try.checked.mixed (L := fun _ _ => none) (n := 10) (of_nf (q := bif ile 1 a then K (AVal.bool (ile a n)) [] else K (AVal.bool false) []) (by kernel_rfl) ?_))
  unfold nodeB at hK
  refine cond_go (fun e1 => ?_) (fun e1 => ?_)
  all_goals (simp only [*, Bool.true_and, Bool.false_and, Bool.and_false] at hK; exact hK)

noncomputable def E1 := (((((((((E0.addS 81 laySizeS laySize_ok).addS 19 layLifeS layLife_ok).addS 70 laySlotS laySlot_ok).addS 49 layDescS layDesc_ok).addS 84 layTaskS layTask_ok).addS 47 layTicketS layTicket_ok).addS 51 layCounterS layCounter_ok).addS 69 slotsS slots_ok).addS 80 layRightS layRight_ok).addS 71 layNodeS layNode_ok

/-- a word -/
def peek (xs : List Int) (a : Int) : Int := if 0 ≤ a ∧ a < xs.length then xs.getD a.toNat 0 else 0
theorem peek_in {xs : List Int} {a : Int} (h : 0 ≤ a ∧ a < xs.length) : peek xs a = xs.getD a.toNat 0 := if_pos h
theorem peek_out {xs : List Int} {a : Int} (h : ¬ (0 ≤ a ∧ a < xs.length)) : peek xs a = 0 := if_neg h
/- OPQ -/
def inB (xs : List Int) (a : Int) : Bool := ile 0 a && ilt a (xs.length : Int)
theorem inB_true {xs : List Int} {a : Int} : inB xs a = true ↔ 0 ≤ a ∧ a < xs.length := by
  unfold inB; simp only [ile_eq, ilt_eq, Bool.and_eq_true, decide_eq_true_eq]
def setI (xs : List Int) (a x : Int) : List Int := xs.set a.toNat x
theorem setI_length (xs : List Int) (a x : Int) : (setI xs a x).length = xs.length := by simp [setI]
/-- an action that was done -/
def MS.did (s : MS) (k a w : Int) (ok : Bool) (xs : List Int) : MS := { s with xs := xs, c := s.c + 1, k := k, a := a, o := peek s.xs a, w := w, ok := ok }
def MS.load (s : MS) (a : Int) : MS := s.did 1 a (peek s.xs a) (inB s.xs a) s.xs
def MS.store (s : MS) (a x : Int) : MS := bif inB s.xs a then s.did 2 a x true (setI s.xs a x) else s.did 2 a 0 false s.xs

def memPat (h : Heap Ob) : Option (Nat × MS) := match h with
  | [some (.cells [.int .i64 t, .int .i64 n, .slice 1 0 len 1, .int .i64 c, .int .i64 k, .int .i64 a, .int .u64 o, .int .u64 w, .bool ok]), some (.ints (some .u64) xs)] => some (len, ⟨t, n, xs, c, k, a, o, w, ok⟩)
  | _ => none

theorem memPat_eq {h : Heap Ob} {l : Nat} {s : MS} (e : memPat h = some (l, s)) (hl : l = s.xs.length) : h = memH s := by
  unfold memPat at e
  split at e
  · simp only [Option.some.injEq, Prod.mk.injEq] at e
    obtain ⟨rfl, rfl⟩ := e
    simp only at hl; subst hl; rfl
  · cases e
theorem nat_id (x : Nat) : 0 + x * 1 = x := by omega

def peekS : Spec Ob := fun args h => match args, memPat h with
  | [.ptr 0 0, .int .i64 a], some (l, s) => some (.pre (l = s.xs.length ∧ True) (.ret (.int .u64 (peek s.xs a)) (memH (s))))
  | _, _ => none
theorem peek_ok : Spec.ok E1.I Try.prog 27 peekS := by
  intro args h o ho K hK
  unfold peekS at ho
  split at ho
  case h_2 => cases ho
  rename_i a l s hm
  simp only [Option.some.injEq] at ho; subst ho
  obtain ⟨⟨hl, hp⟩, hK⟩ := hK
  have hh := memPat_eq hm hl
  subst hh
  have hK : K (.int .u64 (peek s.xs a)) (memH (s)) := hK
  refine CallOk.trim (callOk_of (E := E1) Try.checked.mixed (L := fun _ _ => none) (n := 10) (of_nf (q := bif ilt a 0 then K (AVal.int .u64 0) [some (Entry.cells [AVal.int .i64 s.1, AVal.int .i64 s.2, AVal.slice 1 0 (List.length s.3) 1, AVal.int .i64 s.4, AVal.int .i64 s.5, AVal.int .i64 s.6, AVal.int .u64 s.7, AVal.int .u64 s.8, AVal.bool s.9]), some (Entry.ints (some .u64) s.3)] else bif ile (↑(List.length s.3) : Int) a then K (AVal.int .u64 0) [some (Entry.cells [AVal.int .i64 s.1, AVal.int .i64 s.2, AVal.slice 1 0 (List.length s.3) 1, AVal.int .i64 s.4, AVal.int .i64 s.5, AVal.int .i64 s.6, AVal.int .u64 s.7, AVal.int .u64 s.8, AVal.bool s.9]), some (Entry.ints (some .u64) s.3)] else ((0 : Int) ≤ a ∧ a < (↑(List.length s.3) : Int)) ∧ 0 + Int.toNat a * (1 : Nat) < List.length s.3 ∧ K (AVal.int .u64 (List.getD s.3 (0 + Int.toNat a * 1) 0)) [some (Entry.cells [AVal.int .i64 s.1, AVal.int .i64 s.2, AVal.slice 1 0 (List.length s.3) 1, AVal.int .i64 s.4, AVal.int .i64 s.5, AVal.int .i64 s.6, AVal.int .u64 s.7, AVal.int .u64 s.8, AVal.bool s.9]), some (Entry.ints (some .u64) s.3)]) (by kernel_rfl) ?_))
  refine cond_go (fun e1 => ?_) (fun e1 => cond_go (fun e2 => ?_) (fun e2 => ?_))
  · rw [ilt_eq, decide_eq_true_eq] at e1
    rw [peek_out (by omega)] at hK; exact hK
  · rw [ile_eq, decide_eq_true_eq] at e2
    rw [peek_out (by omega)] at hK; exact hK
  · rw [ilt_eq, decide_eq_false_iff_not] at e1
    rw [ile_eq, decide_eq_false_iff_not] at e2
    refine ⟨by omega, by omega, ?_⟩
    rw [peek_in (by omega)] at hK
    rw [nat_id]; exact hK

def actionsS : Spec Ob := fun args h => match args, memPat h with
  | [.ptr 0 0], some (l, s) => some (.pre (l = s.xs.length ∧ True) (.ret (.int .i64 s.c) (memH (s))))
  | _, _ => none
theorem actions_ok : Spec.ok E1.I Try.prog 60 actionsS := by
  intro args h o ho K hK
  unfold actionsS at ho
  split at ho
  case h_2 => cases ho
  rename_i  l s hm
  simp only [Option.some.injEq] at ho; subst ho
  obtain ⟨⟨hl, hp⟩, hK⟩ := hK
  have hh := memPat_eq hm hl
  subst hh
  have hK : K (.int .i64 s.c) (memH (s)) := hK
  refine CallOk.trim (callOk_of (E := E1) Try.checked.mixed (L := fun _ _ => none) (n := 10) (of_nf (q := K (AVal.int .i64 s.4) [some (Entry.cells [AVal.int .i64 s.1, AVal.int .i64 s.2, AVal.slice 1 0 (List.length s.3) 1, AVal.int .i64 s.4, AVal.int .i64 s.5, AVal.int .i64 s.6, AVal.int .u64 s.7, AVal.int .u64 s.8, AVal.bool s.9]), some (Entry.ints (some .u64) s.3)]) (by kernel_rfl) ?_))
  exact hK

def lastS : Spec Ob := fun args h => match args, memPat h with
  | [.ptr 0 0], some (l, s) => some (.pre (l = s.xs.length ∧ True) (.ret (.agg [.int .i64 s.k, .int .i64 s.a, .int .u64 s.o, .int .u64 s.w, .bool s.ok]) (memH (s))))
  | _, _ => none
theorem last_ok : Spec.ok E1.I Try.prog 98 lastS := by
  intro args h o ho K hK
  unfold lastS at ho
  split at ho
  case h_2 => cases ho
  rename_i  l s hm
  simp only [Option.some.injEq] at ho; subst ho
  obtain ⟨⟨hl, hp⟩, hK⟩ := hK
  have hh := memPat_eq hm hl
  subst hh
  have hK : K (.agg [.int .i64 s.k, .int .i64 s.a, .int .u64 s.o, .int .u64 s.w, .bool s.ok]) (memH (s)) := hK
  refine CallOk.trim (callOk_of (E := E1) Try.checked.mixed (L := fun _ _ => none) (n := 10) (of_nf (q := K (AVal.agg [AVal.int .i64 s.5, AVal.int .i64 s.6, AVal.int .u64 s.7, AVal.int .u64 s.8, AVal.bool s.9]) [some (Entry.cells [AVal.int .i64 s.1, AVal.int .i64 s.2, AVal.slice 1 0 (List.length s.3) 1, AVal.int .i64 s.4, AVal.int .i64 s.5, AVal.int .i64 s.6, AVal.int .u64 s.7, AVal.int .u64 s.8, AVal.bool s.9]), some (Entry.ints (some .u64) s.3)]) (by kernel_rfl) ?_))
  exact hK

def lastLS : Spec Ob := fun args h => match args, memPat h with
  | [.ptr 0 0], some (l, s) => some (.pre (l = s.xs.length ∧ True) (.ret (.agg [.int .i64 s.k, .int .i64 s.a, .int .u64 s.o, .int .u64 s.w, .bool s.ok]) (memH (s))))
  | _, _ => none
theorem lastL_ok : Spec.ok E1.I Try.prog 61 lastLS := by
  intro args h o ho K hK
  unfold lastLS at ho
  split at ho
  case h_2 => cases ho
  rename_i  l s hm
  simp only [Option.some.injEq] at ho; subst ho
  obtain ⟨⟨hl, hp⟩, hK⟩ := hK
  have hh := memPat_eq hm hl
  subst hh
  have hK : K (.agg [.int .i64 s.k, .int .i64 s.a, .int .u64 s.o, .int .u64 s.w, .bool s.ok]) (memH (s)) := hK
  refine CallOk.trim (callOk_of (E := E1) Try.checked.mixed (L := fun _ _ => none) (n := 10) (of_nf (q := K (AVal.agg [AVal.int .i64 s.5, AVal.int .i64 s.6, AVal.int .u64 s.7, AVal.int .u64 s.8, AVal.bool s.9]) [some (Entry.cells [AVal.int .i64 s.1, AVal.int .i64 s.2, AVal.slice 1 0 (List.length s.3) 1, AVal.int .i64 s.4, AVal.int .i64 s.5, AVal.int .i64 s.6, AVal.int .u64 s.7, AVal.int .u64 s.8, AVal.bool s.9]), some (Entry.ints (some .u64) s.3)]) (by kernel_rfl) ?_))
  exact hK

noncomputable def E2 := (((E1.addS 27 peekS peek_ok).addS 60 actionsS actions_ok).addS 98 lastS last_ok).addS 61 lastLS lastL_ok

end Go.Sh

/- The shared memory: the four actions. -/
namespace Go.Sh
open Go Go.Proofs
variable [Con]
def putI (xs : List Int) (a x : Int) : List Int := if 0 ≤ a ∧ a < xs.length then xs.set a.toNat x else xs
theorem putI_length (xs : List Int) (a x : Int) : (putI xs a x).length = xs.length := by unfold putI; split <;> simp
theorem putI_in {xs : List Int} {a x : Int} (h : 0 ≤ a ∧ a < xs.length) : putI xs a x = xs.set a.toNat x := if_pos h
theorem putI_out {xs : List Int} {a x : Int} (h : ¬ (0 ≤ a ∧ a < xs.length)) : putI xs a x = xs := if_neg h
theorem inB_false {xs : List Int} {a : Int} (h : ¬ (0 ≤ a ∧ a < xs.length)) : inB xs a = false := by
  cases e : inB xs a with
  | false => rfl
  | true => exact (h (inB_true.1 e)).elim
theorem set_peek {xs : List Int} {a : Int} (h : 0 ≤ a ∧ a < xs.length) : xs.set a.toNat (peek xs a) = xs := by
  rw [peek_in h]
  apply List.ext_getElem?
  intro i
  rw [List.getElem?_set]
  by_cases hi : a.toNat = i
  · subst hi
    have : a.toNat < xs.length := by omega
    simp [this]
  · simp [hi]
def MS.loadd (s : MS) (a : Int) : MS := s.did 1 a (peek s.xs a) (inB s.xs a) s.xs
def MS.stored (s : MS) (a x : Int) : MS := s.did 2 a (bif inB s.xs a then x else 0) (inB s.xs a) (putI s.xs a x)
/- OPQ -/
def casB (xs : List Int) (a x : Int) : Bool := inB xs a && ieq (peek xs a) x
def MS.cased (s : MS) (a x y : Int) : MS := s.did 3 a (bif inB s.xs a then y else 0) (casB s.xs a x) (bif casB s.xs a x then putI s.xs a y else s.xs)
def MS.added (s : MS) (a x : Int) : MS := s.did 4 a (bif inB s.xs a then IntKind.wrap .u64 (peek s.xs a + x) else 0) (inB s.xs a) (putI s.xs a (IntKind.wrap .u64 (peek s.xs a + x)))
theorem memH_did (s : MS) (k a w : Int) (ok : Bool) (xs : List Int) (h : xs.length = s.xs.length) : memH (s.did k a w ok xs) = [some (.cells [.int .i64 s.t, .int .i64 s.n, .slice 1 0 s.xs.length 1, .int .i64 (s.c + 1), .int .i64 k, .int .i64 a, .int .u64 (peek s.xs a), .int .u64 w, .bool ok]), some (.ints (some .u64) xs)] := by
  unfold memH MS.did
  simp only [h]

def loadS : Spec Ob := fun args h => match args, memPat h with
  | [.ptr 0 0, .int .i64 a], some (l, s) => some (.pre (l = s.xs.length ∧ (0 ≤ s.c ∧ s.c ≤ 4611686018427387904)) (.ret (.int .u64 (peek s.xs a)) (memH (s.loadd a))))
  | _, _ => none
theorem load_ok : Spec.ok E2.I Try.prog 83 loadS := by
  intro args h o ho K hK
  unfold loadS at ho
  split at ho
  case h_2 => cases ho
  rename_i a l s hm
  simp only [Option.some.injEq] at ho; subst ho
  obtain ⟨⟨hl, hp⟩, hK⟩ := hK
  have hh := memPat_eq hm hl
  subst hh
  have hK : K (.int .u64 (peek s.xs a)) (memH (s.loadd a)) := hK
  refine CallOk.trim (callOk_of (E := E2) Try.checked.mixed (L := fun _ _ => none) (n := 10) (of_nf (q := (List.length s.3 = List.length s.3 ∧ True) ∧ bif ilt a 0 then K (AVal.int .u64 (peek s.3 a)) [some (Entry.cells [AVal.int .i64 s.1, AVal.int .i64 s.2, AVal.slice 1 0 (List.length s.3) 1, AVal.int .i64 (W (s.4 + 1)), AVal.int .i64 1, AVal.int .i64 a, AVal.int .u64 (peek s.3 a), AVal.int .u64 (peek s.3 a), AVal.bool false]), some (Entry.ints (some .u64) s.3)] else bif ile (↑(List.length s.3) : Int) a then K (AVal.int .u64 (peek s.3 a)) [some (Entry.cells [AVal.int .i64 s.1, AVal.int .i64 s.2, AVal.slice 1 0 (List.length s.3) 1, AVal.int .i64 (W (s.4 + 1)), AVal.int .i64 1, AVal.int .i64 a, AVal.int .u64 (peek s.3 a), AVal.int .u64 (peek s.3 a), AVal.bool false]), some (Entry.ints (some .u64) s.3)] else ((0 : Int) ≤ a ∧ a < (↑(List.length s.3) : Int)) ∧ 0 + Int.toNat a * (1 : Nat) < List.length s.3 ∧ K (AVal.int .u64 (peek s.3 a)) [some (Entry.cells [AVal.int .i64 s.1, AVal.int .i64 s.2, AVal.slice 1 0 (List.length s.3) 1, AVal.int .i64 (W (s.4 + 1)), AVal.int .i64 1, AVal.int .i64 a, AVal.int .u64 (peek s.3 a), AVal.int .u64 (peek s.3 a), AVal.bool true]), some (Entry.ints (some .u64) (List.set s.3 (0 + Int.toNat a * 1) (peek s.3 a)))]) (by kernel_rfl) ?_))
  refine ⟨⟨rfl, trivial⟩, ?_⟩
  have hc : IntKind.wrap .i64 (s.c + 1) = s.c + 1 := W_in (by omega)
  simp only [W, WU, hc, nat_id]
  unfold MS.loadd at hK
  rw [memH_did _ _ _ _ _ _ rfl] at hK
  refine cond_go (fun e1 => ?_) (fun e1 => cond_go (fun e2 => ?_) (fun e2 => ?_))
  · rw [ilt_eq, decide_eq_true_eq] at e1
    rw [inB_false (by omega)] at hK; exact hK
  · rw [ile_eq, decide_eq_true_eq] at e2
    rw [inB_false (by omega)] at hK; exact hK
  · rw [ilt_eq, decide_eq_false_iff_not] at e1
    rw [ile_eq, decide_eq_false_iff_not] at e2
    refine ⟨by omega, by omega, ?_⟩
    rw [inB_true.2 (by omega)] at hK
    rw [set_peek (by omega)]; exact hK

def storeS : Spec Ob := fun args h => match args, memPat h with
  | [.ptr 0 0, .int .i64 a, .int .u64 x], some (l, s) => some (.pre (l = s.xs.length ∧ (0 ≤ s.c ∧ s.c ≤ 4611686018427387904)) (.ret (.tup []) (memH (s.stored a x))))
  | _, _ => none
theorem store_ok : Spec.ok E2.I Try.prog 18 storeS := by
  intro args h o ho K hK
  unfold storeS at ho
  split at ho
  case h_2 => cases ho
  rename_i a x l s hm
  simp only [Option.some.injEq] at ho; subst ho
  obtain ⟨⟨hl, hp⟩, hK⟩ := hK
  have hh := memPat_eq hm hl
  subst hh
  have hK : K (.tup []) (memH (s.stored a x)) := hK
  refine CallOk.trim (callOk_of (E := E2) Try.checked.mixed (L := fun _ _ => none) (n := 10) (of_nf (q := (List.length s.3 = List.length s.3 ∧ True) ∧ bif ilt a 0 then K (AVal.tup []) [some (Entry.cells [AVal.int .i64 s.1, AVal.int .i64 s.2, AVal.slice 1 0 (List.length s.3) 1, AVal.int .i64 (W (s.4 + 1)), AVal.int .i64 2, AVal.int .i64 a, AVal.int .u64 (peek s.3 a), AVal.int .u64 (peek s.3 a), AVal.bool false]), some (Entry.ints (some .u64) s.3)] else bif ile (↑(List.length s.3) : Int) a then K (AVal.tup []) [some (Entry.cells [AVal.int .i64 s.1, AVal.int .i64 s.2, AVal.slice 1 0 (List.length s.3) 1, AVal.int .i64 (W (s.4 + 1)), AVal.int .i64 2, AVal.int .i64 a, AVal.int .u64 (peek s.3 a), AVal.int .u64 (peek s.3 a), AVal.bool false]), some (Entry.ints (some .u64) s.3)] else ((0 : Int) ≤ a ∧ a < (↑(List.length s.3) : Int)) ∧ 0 + Int.toNat a * (1 : Nat) < List.length s.3 ∧ K (AVal.tup []) [some (Entry.cells [AVal.int .i64 s.1, AVal.int .i64 s.2, AVal.slice 1 0 (List.length s.3) 1, AVal.int .i64 (W (s.4 + 1)), AVal.int .i64 2, AVal.int .i64 a, AVal.int .u64 (peek s.3 a), AVal.int .u64 x, AVal.bool true]), some (Entry.ints (some .u64) (List.set s.3 (0 + Int.toNat a * 1) x))]) (by kernel_rfl) ?_))
  refine ⟨⟨rfl, trivial⟩, ?_⟩
  have hc : IntKind.wrap .i64 (s.c + 1) = s.c + 1 := W_in (by omega)
  simp only [W, WU, hc, nat_id]
  unfold MS.stored at hK
  rw [memH_did _ _ _ _ _ _ (putI_length _ _ _)] at hK
  refine cond_go (fun e1 => ?_) (fun e1 => cond_go (fun e2 => ?_) (fun e2 => ?_))
  · rw [ilt_eq, decide_eq_true_eq] at e1
    rw [inB_false (by omega), putI_out (by omega)] at hK
    rw [peek_out (by omega)] at hK ⊢; exact hK
  · rw [ile_eq, decide_eq_true_eq] at e2
    rw [inB_false (by omega), putI_out (by omega)] at hK
    rw [peek_out (by omega)] at hK ⊢; exact hK
  · rw [ilt_eq, decide_eq_false_iff_not] at e1
    rw [ile_eq, decide_eq_false_iff_not] at e2
    refine ⟨by omega, by omega, ?_⟩
    rw [inB_true.2 (by omega), putI_in (by omega)] at hK
    exact hK

def casS : Spec Ob := fun args h => match args, memPat h with
  | [.ptr 0 0, .int .i64 a, .int .u64 x, .int .u64 y], some (l, s) => some (.pre (l = s.xs.length ∧ (0 ≤ s.c ∧ s.c ≤ 4611686018427387904)) (.ret (.bool (casB s.xs a x)) (memH (s.cased a x y))))
  | _, _ => none
theorem cas_ok : Spec.ok E2.I Try.prog 141 casS := by
  intro args h o ho K hK
  unfold casS at ho
  split at ho
  case h_2 => cases ho
  rename_i a x y l s hm
  simp only [Option.some.injEq] at ho; subst ho
  obtain ⟨⟨hl, hp⟩, hK⟩ := hK
  have hh := memPat_eq hm hl
  subst hh
  have hK : K (.bool (casB s.xs a x)) (memH (s.cased a x y)) := hK
  refine CallOk.trim (callOk_of (E := E2) Try.checked.mixed (L := fun _ _ => none) (n := 10) (of_nf (q := (List.length s.3 = List.length s.3 ∧ True) ∧ bif ilt a 0 then K (AVal.bool false) [some (Entry.cells [AVal.int .i64 s.1, AVal.int .i64 s.2, AVal.slice 1 0 (List.length s.3) 1, AVal.int .i64 (W (s.4 + 1)), AVal.int .i64 3, AVal.int .i64 a, AVal.int .u64 (peek s.3 a), AVal.int .u64 (peek s.3 a), AVal.bool false]), some (Entry.ints (some .u64) s.3)] else bif ile (↑(List.length s.3) : Int) a then K (AVal.bool false) [some (Entry.cells [AVal.int .i64 s.1, AVal.int .i64 s.2, AVal.slice 1 0 (List.length s.3) 1, AVal.int .i64 (W (s.4 + 1)), AVal.int .i64 3, AVal.int .i64 a, AVal.int .u64 (peek s.3 a), AVal.int .u64 (peek s.3 a), AVal.bool false]), some (Entry.ints (some .u64) s.3)] else bif ieq (peek s.3 a) x then ((0 : Int) ≤ a ∧ a < (↑(List.length s.3) : Int)) ∧ 0 + Int.toNat a * (1 : Nat) < List.length s.3 ∧ K (AVal.bool (ieq (peek s.3 a) x)) [some (Entry.cells [AVal.int .i64 s.1, AVal.int .i64 s.2, AVal.slice 1 0 (List.length s.3) 1, AVal.int .i64 (W (s.4 + 1)), AVal.int .i64 3, AVal.int .i64 a, AVal.int .u64 (peek s.3 a), AVal.int .u64 y, AVal.bool (ieq (peek s.3 a) x)]), some (Entry.ints (some .u64) (List.set s.3 (0 + Int.toNat a * 1) y))] else K (AVal.bool (ieq (peek s.3 a) x)) [some (Entry.cells [AVal.int .i64 s.1, AVal.int .i64 s.2, AVal.slice 1 0 (List.length s.3) 1, AVal.int .i64 (W (s.4 + 1)), AVal.int .i64 3, AVal.int .i64 a, AVal.int .u64 (peek s.3 a), AVal.int .u64 y, AVal.bool (ieq (peek s.3 a) x)]), some (Entry.ints (some .u64) s.3)]) (by kernel_rfl) ?_))
  refine ⟨⟨rfl, trivial⟩, ?_⟩
  have hc : IntKind.wrap .i64 (s.c + 1) = s.c + 1 := W_in (by omega)
  simp only [W, WU, hc, nat_id]
  unfold MS.cased at hK
  rw [memH_did _ _ _ _ _ _ (by cases casB s.xs a x <;> first | exact putI_length _ _ _ | rfl)] at hK
  unfold casB at hK
  refine cond_go (fun e1 => ?_) (fun e1 => cond_go (fun e2 => ?_) (fun e2 => ?_))
  · rw [ilt_eq, decide_eq_true_eq] at e1
    rw [inB_false (by omega)] at hK
    rw [peek_out (by omega)] at hK ⊢; exact hK
  · rw [ile_eq, decide_eq_true_eq] at e2
    rw [inB_false (by omega)] at hK
    rw [peek_out (by omega)] at hK ⊢; exact hK
  · rw [ilt_eq, decide_eq_false_iff_not] at e1
    rw [ile_eq, decide_eq_false_iff_not] at e2
    rw [inB_true.2 (by omega), putI_in (by omega)] at hK
    simp only [Bool.true_and, cond_true] at hK
    refine cond_go (fun e3 => ⟨by omega, by omega, ?_⟩) (fun e3 => ?_)
    · rw [e3] at hK ⊢; exact hK
    · rw [e3] at hK ⊢; exact hK

def addS : Spec Ob := fun args h => match args, memPat h with
  | [.ptr 0 0, .int .i64 a, .int .u64 x], some (l, s) => some (.pre (l = s.xs.length ∧ (0 ≤ s.c ∧ s.c ≤ 4611686018427387904)) (.ret (.int .u64 (peek s.xs a)) (memH (s.added a x))))
  | _, _ => none
theorem add_ok : Spec.ok E2.I Try.prog 85 addS := by
  intro args h o ho K hK
  unfold addS at ho
  split at ho
  case h_2 => cases ho
  rename_i a x l s hm
  simp only [Option.some.injEq] at ho; subst ho
  obtain ⟨⟨hl, hp⟩, hK⟩ := hK
  have hh := memPat_eq hm hl
  subst hh
  have hK : K (.int .u64 (peek s.xs a)) (memH (s.added a x)) := hK
  refine CallOk.trim (callOk_of (E := E2) Try.checked.mixed (L := fun _ _ => none) (n := 10) (of_nf (q := (List.length s.3 = List.length s.3 ∧ True) ∧ bif ilt a 0 then K (AVal.int .u64 (peek s.3 a)) [some (Entry.cells [AVal.int .i64 s.1, AVal.int .i64 s.2, AVal.slice 1 0 (List.length s.3) 1, AVal.int .i64 (W (s.4 + 1)), AVal.int .i64 4, AVal.int .i64 a, AVal.int .u64 (peek s.3 a), AVal.int .u64 (peek s.3 a), AVal.bool false]), some (Entry.ints (some .u64) s.3)] else bif ile (↑(List.length s.3) : Int) a then K (AVal.int .u64 (peek s.3 a)) [some (Entry.cells [AVal.int .i64 s.1, AVal.int .i64 s.2, AVal.slice 1 0 (List.length s.3) 1, AVal.int .i64 (W (s.4 + 1)), AVal.int .i64 4, AVal.int .i64 a, AVal.int .u64 (peek s.3 a), AVal.int .u64 (peek s.3 a), AVal.bool false]), some (Entry.ints (some .u64) s.3)] else ((0 : Int) ≤ a ∧ a < (↑(List.length s.3) : Int)) ∧ 0 + Int.toNat a * (1 : Nat) < List.length s.3 ∧ K (AVal.int .u64 (peek s.3 a)) [some (Entry.cells [AVal.int .i64 s.1, AVal.int .i64 s.2, AVal.slice 1 0 (List.length s.3) 1, AVal.int .i64 (W (s.4 + 1)), AVal.int .i64 4, AVal.int .i64 a, AVal.int .u64 (peek s.3 a), AVal.int .u64 (WU (peek s.3 a + x)), AVal.bool true]), some (Entry.ints (some .u64) (List.set s.3 (0 + Int.toNat a * 1) (WU (peek s.3 a + x))))]) (by kernel_rfl) ?_))
  refine ⟨⟨rfl, trivial⟩, ?_⟩
  have hc : IntKind.wrap .i64 (s.c + 1) = s.c + 1 := W_in (by omega)
  simp only [W, WU, hc, nat_id]
  unfold MS.added at hK
  rw [memH_did _ _ _ _ _ _ (putI_length _ _ _)] at hK
  refine cond_go (fun e1 => ?_) (fun e1 => cond_go (fun e2 => ?_) (fun e2 => ?_))
  · rw [ilt_eq, decide_eq_true_eq] at e1
    rw [inB_false (by omega), putI_out (by omega)] at hK
    rw [peek_out (by omega)] at hK ⊢; exact hK
  · rw [ile_eq, decide_eq_true_eq] at e2
    rw [inB_false (by omega), putI_out (by omega)] at hK
    rw [peek_out (by omega)] at hK ⊢; exact hK
  · rw [ilt_eq, decide_eq_false_iff_not] at e1
    rw [ile_eq, decide_eq_false_iff_not] at e2
    refine ⟨by omega, by omega, ?_⟩
    rw [inB_true.2 (by omega), putI_in (by omega)] at hK
    exact hK

noncomputable def E3 := (((E2.addS 83 loadS load_ok).addS 18 storeS store_ok).addS 141 casS cas_ok).addS 85 addS add_ok

end Go.Sh

/- A store's first node; a machine that takes a node, begun. -/
namespace Go.Sh
open Go Go.Proofs
variable [Con]
def firstV (t n me : Int) : Int := if t < 1 then 1 else 1 + Int.tdiv (me * n) t
theorem tdiv_in {x t : Int} (h : 0 ≤ x) (ht : 1 ≤ t) : 0 ≤ Int.tdiv x t ∧ Int.tdiv x t ≤ x := by
  rw [Int.tdiv_eq_ediv_of_nonneg h]
  exact ⟨Int.ediv_nonneg h (by omega), Int.ediv_le_self t h⟩

def first0S : Spec Ob := fun args h => match args, h with
  | [.ptr 0 0], some (.cells (.int .i64 t :: .int .i64 n :: .int .i64 me :: tl)) :: rest => some (.pre ((0 ≤ me ∧ me ≤ 100000) ∧ (0 ≤ n ∧ n ≤ 100000)) (.ret (.int .i64 (firstV t n me)) (some (.cells (.int .i64 t :: .int .i64 n :: .int .i64 me :: tl)) :: rest)))
  | _, _ => none
theorem first0_ok : Spec.ok E3.I Try.prog 138 first0S := by
  intro args h o ho K hK
  unfold first0S at ho
  split at ho
  case h_2 => cases ho
  rename_i t n me tl rest
  simp only [Option.some.injEq] at ho; subst ho
  obtain ⟨hp, hK⟩ := hK
  have hK : K (.int .i64 (firstV t n me)) (some (.cells (.int .i64 t :: .int .i64 n :: .int .i64 me :: tl)) :: rest) := hK
  refine (callOk_of (E := E3) Try.checked.mixed (L := fun _ _ => none) (n := 10) (of_nf (q := bif ilt t 1 then K (AVal.int .i64 1) (some (Entry.cells (AVal.int .i64 t :: AVal.int .i64 n :: AVal.int .i64 me :: tl)) :: rest) else t ≠ (0 : Int) ∧ K (AVal.int .i64 (W (1 + W (Int.tdiv (W (me * n)) t)))) (some (Entry.cells (AVal.int .i64 t :: AVal.int .i64 n :: AVal.int .i64 me :: tl)) :: rest)) (by kernel_rfl) ?_))
  obtain ⟨⟨h1, h2⟩, h3, h4⟩ := hp
  have hm : 0 ≤ me * n ∧ me * n ≤ 100000 * 100000 := ⟨Int.mul_nonneg h1 h3, Int.mul_le_mul h2 h4 h3 (by omega)⟩
  refine cond_go (fun e => ?_) (fun e => ?_)
  · rw [ilt_eq, decide_eq_true_eq] at e
    unfold firstV at hK; rw [if_pos e] at hK; exact hK
  · rw [ilt_eq, decide_eq_false_iff_not] at e
    refine ⟨by omega, ?_⟩
    unfold firstV at hK; rw [if_neg e] at hK
    have := tdiv_in (x := me * n) (t := t) hm.1 (by omega)
    simp (disch := omega) only [W, W_in]
    exact hK

def firstS : RSpec Ob := fun args h => match args, h with
  | [.ptr 0 0], some (.cells (.int .i64 t :: .int .i64 n :: .int .i64 me :: tl)) :: rest => some (((0 ≤ me ∧ me ≤ 100000) ∧ (0 ≤ n ∧ n ≤ 100000)), .int .i64 (firstV t n me))
  | _, _ => none
theorem first_ok : Spec.ok E3.I Try.prog 138 firstS.spec := by
  intro args h o ho
  unfold RSpec.spec at ho
  split at ho
  case h_2 => cases ho
  rename_i p v hv
  unfold firstS at hv
  split at hv
  case h_2 => cases hv
  simp only [Option.some.injEq, Prod.mk.injEq] at hv
  obtain ⟨rfl, rfl⟩ := hv
  exact first0_ok _ _ o ho

def lifeNewS : Spec Ob := fun args h => match args, h with
  | [.agg [.int .i64 t, .int .i64 n], .int .i64 a], [] => some (.pre (True) (.ret (.ptr 0 0) ([some (.cells [.int .i64 t, .int .i64 n, .int .i64 0, .int .i64 (bif nodeB n a then a else 1), .int .i64 n, .int .u64 0, .bool false])])))
  | _, _ => none
theorem lifeNew_ok : Spec.ok E3.I Try.prog 137 lifeNewS := by
  intro args h o ho K hK
  unfold lifeNewS at ho
  split at ho
  case h_2 => cases ho
  rename_i t n a
  simp only [Option.some.injEq] at ho; subst ho
  obtain ⟨hp, hK⟩ := hK
  have hK : K (.ptr 0 0) ([some (.cells [.int .i64 t, .int .i64 n, .int .i64 0, .int .i64 (bif nodeB n a then a else 1), .int .i64 n, .int .u64 0, .bool false])]) := hK
  refine CallOk.trim (callOk_of (E := E3) Try.checked.mixed (L := fun _ _ => none) (n := 10) (of_nf (q := True ∧ bif !nodeB n a then K (AVal.ptr 0 0) [some (Entry.cells [AVal.int .i64 t, AVal.int .i64 n, AVal.int .i64 0, AVal.int .i64 1, AVal.int .i64 n, AVal.int .u64 0, AVal.bool false])] else K (AVal.ptr 0 0) [some (Entry.cells [AVal.int .i64 t, AVal.int .i64 n, AVal.int .i64 0, AVal.int .i64 a, AVal.int .i64 n, AVal.int .u64 0, AVal.bool false])]) (by kernel_rfl) ?_))
  refine ⟨trivial, cond_go (fun e => ?_) (fun e => ?_)⟩
  · have e' : nodeB n a = false := by simpa using e
    rw [e'] at hK; exact hK
  · have e' : nodeB n a = true := by simpa using e
    rw [e'] at hK; exact hK

noncomputable def E4a := E3.addS 137 lifeNewS lifeNew_ok

noncomputable def E4 := E4a.addR 138 firstS first_ok

end Go.Sh

/- The example of a store. -/
namespace Go.Sh
open Go Go.Proofs
variable [Con]
noncomputable def LL : FuncId → Nat → Option (Plan Ob) := fun _ _ => some (.rounds 12)

def awake13S : Spec Ob := fun args h => match args, h with
  | [], [] => some (.pre (True) (.ret (.bool true) ([])))
  | _, _ => none
theorem awake13_ok : Spec.ok E4.I Try.prog 14 awake13S := by
  intro args h o ho K hK
  unfold awake13S at ho
  split at ho
  case h_2 => cases ho
  skip
  simp only [Option.some.injEq] at ho; subst ho
  obtain ⟨hp, hK⟩ := hK
  have hK : K (.bool true) ([]) := hK
  refine CallOk.trim (callOk_of (E := E4) Try.checked.mixed (L := LL) (n := 10) (of_nf (q := True ∧ (((0 : Int) ≤ (2 : Int) ∧ (2 : Int) ≤ (100000 : Int)) ∧ (0 : Int) ≤ (4 : Int) ∧ (4 : Int) ≤ (100000 : Int)) ∧ ((((0 : Int) ≤ (2 : Int) ∧ (2 : Int) ≤ (100000 : Int)) ∧ (0 : Int) ≤ (4 : Int) ∧ (4 : Int) ≤ (100000 : Int)) ∧ True) ∧ ((0 : Int) ≤ (2 : Int) * 4 + 5 * 2 + 6 ∧ 2 * 4 + 5 * 2 + (6 : Int) = (2 : Int) * 4 + 5 * 2 + 6 ∧ 2 * 4 + 5 * 2 + (6 : Int) ≤ (4294967296 : Int)) ∧ ((0 : Int) ≤ (0 : Int) ∧ (0 : Int) < (↑1 : Int)) ∧ (((0 : Int) ≤ (1 : Int) ∧ (1 : Int) ≤ (100000 : Int)) ∧ (0 : Int) ≤ (4 : Int) ∧ (4 : Int) ≤ (100000 : Int)) ∧ (True ∧ True) ∧ ((((0 : Int) ≤ (2 : Int) ∧ (2 : Int) ≤ (100000 : Int)) ∧ ((0 : Int) ≤ (4 : Int) ∧ (4 : Int) ≤ (100000 : Int)) ∧ (-1099511627776 : Int) ≤ firstV 2 4 1 ∧ firstV 2 4 (1 : Int) ≤ (1099511627776 : Int)) ∧ True) ∧ ((24 = 24 ∧ (0 : Int) ≤ (0 : Int) ∧ (0 : Int) ≤ (4611686018427387904 : Int)) ∧ True) ∧ (2 : Int) ≠ (0 : Int) ∧ ((((0 : Int) ≤ (2 : Int) ∧ (2 : Int) ≤ (100000 : Int)) ∧ ((0 : Int) ≤ (4 : Int) ∧ (4 : Int) ≤ (100000 : Int)) ∧ (-1099511627776 : Int) ≤ firstV 2 4 1 ∧ firstV 2 4 (1 : Int) ≤ (1099511627776 : Int)) ∧ True) ∧ ((24 = 24 ∧ (0 : Int) ≤ (0 : Int) + 1 ∧ 0 + (1 : Int) ≤ (4611686018427387904 : Int)) ∧ True) ∧ True ∧ (((0 : Int) ≤ (2 : Int) ∧ (2 : Int) ≤ (100000 : Int)) ∧ ((0 : Int) ≤ (4 : Int) ∧ (4 : Int) ≤ (100000 : Int)) ∧ (-1099511627776 : Int) ≤ (3 : Int) ∧ (3 : Int) ≤ (1099511627776 : Int)) ∧ (24 = 24 ∧ True) ∧ (2 : Int) ≠ (0 : Int) ∧ K (AVal.bool true) []) (by kernel_rfl) ?_))
  have hf : firstV 2 4 1 = 3 := by decide
  simp only [hf]
  simp
  exact hK

noncomputable def E5 := E4.addS 14 awake13S awake13_ok

end Go.Sh

/- A list's copy; two lists that are one. -/
namespace Go.Sh
open Go Go.Proofs
variable [Con]
def cloneS : Spec Ob := fun args h => match args, h with
  | [.slice 0 0 n 1], [some (.ints (some .i64) xs)] => some (.pre (n = xs.length ∧ n ≤ 4294967296) (.ret (.slice 1 0 xs.length 1) [some (.ints (some .i64) xs), some (.ints (some .i64) xs)]))
  | _, _ => none
theorem clone_ok : Spec.ok E5.I Try.prog 76 cloneS := by
  intro args h o ho K hK
  unfold cloneS at ho
  split at ho
  case h_2 => cases ho
  rename_i n xs
  simp only [Option.some.injEq] at ho; subst ho
  obtain ⟨⟨rfl, hp⟩, hK⟩ := hK
  have hK : K (.slice 1 0 xs.length 1) [some (.ints (some .i64) xs), some (.ints (some .i64) xs)] := hK
  refine CallOk.trim (CallOk.castR (cs := [(.slot 0, .ints (some .i64))]) (callOk_of (E := E5) Try.checked.mixed (L := LL) (n := 10) (of_nf (q := ∀ (b : Bool), (b = true → List.length xs = 0) → bif b then K (AVal.slice 1 0 0 1) [some (Entry.ints (some .i64) xs), some (Entry.ints (some .i64) [])] else (0 + List.length xs ≤ List.length xs ∧ 0 + List.length xs ≤ (4294967296 : Nat)) ∧ K (AVal.slice 1 0 (0 + List.length xs) 1) [some (Entry.ints (some .i64) xs), some (Entry.ints (some .i64) ([] ++ List.take (List.length xs) (List.drop 0 xs)))]) (by kernel_rfl) ?_)))
  intro b hb
  refine cond_go (fun e => ?_) (fun e => ⟨⟨by omega, by omega⟩, ?_⟩)
  · have h0 := List.length_eq_zero_iff.1 (hb e)
    subst h0; exact hK
  · simpa using hK

/- OPQ -/
def sameB (xs ys : List Int) : Bool := decide (xs = ys)
theorem sameB_true {xs ys : List Int} : sameB xs ys = true ↔ xs = ys := by unfold sameB; exact decide_eq_true_iff
structure okI (xs ys : List Int) (i : Nat) : Prop where
  h1 : i ≤ xs.length
  h2 : xs.length = ys.length
  h3 : xs.take i = ys.take i
def HI (xs ys : List Int) : Hint Ob := { X := Nat, st := fun i => ([.slice 0 0 xs.length 1, .slice 1 0 ys.length 1, .top, .top, .top, .int .i64 (i : Int)] ++ List.replicate 20 .top, [some (.ints (some .i64) xs), some (.ints (some .i64) ys)]), ok := okI xs ys, mu := fun i => xs.length - i, keep := [0, 1, 5] }
def intsS0 : Spec Ob := fun args h => match args, h with
  | [.slice 0 0 n 1, .slice 1 0 m 1], [some (.ints (some .i64) xs), some (.ints (some .i64) ys)] => some (.pre ((n = xs.length ∧ m = ys.length) ∧ n ≤ 4294967296) (.ret (.bool (sameB xs ys)) [some (.ints (some .i64) xs), some (.ints (some .i64) ys)]))
  | _, _ => none
theorem ints0_ok : Spec.ok E5.I Try.prog 23 intsS0 := by
  intro args h o ho K hK
  unfold intsS0 at ho
  split at ho
  case h_2 => cases ho
  rename_i n m xs ys
  simp only [Option.some.injEq] at ho; subst ho
  obtain ⟨⟨⟨rfl, rfl⟩, hp⟩, hK⟩ := hK
  have hK : K (.bool (sameB xs ys)) [some (.ints (some .i64) xs), some (.ints (some .i64) ys)] := hK
  refine (callOk_of (E := E5) Try.checked.mixed (L := fun _ _ => some (.states (HI xs ys))) (n := 10) (of_nf (q := bif !ieq (↑(List.length xs) : Int) (↑(List.length ys) : Int) then K (AVal.bool false) [some (Entry.ints (some .i64) xs), some (Entry.ints (some .i64) ys)] else okSt (HI xs ys) (Hint.ok (HI xs ys)) [AVal.slice 0 0 (List.length xs) 1, AVal.slice 1 0 (List.length ys) 1, AVal.top, AVal.top, AVal.top, AVal.int .i64 0, AVal.top, AVal.top, AVal.top, AVal.top, AVal.top, AVal.top, AVal.top, AVal.top, AVal.top, AVal.top, AVal.top, AVal.top, AVal.top, AVal.top, AVal.top, AVal.top, AVal.top, AVal.top, AVal.top, AVal.top] [some (Entry.ints (some .i64) xs), some (Entry.ints (some .i64) ys)] ∧ ∀ (x : Nat), okI xs ys x → bif ilt (↑x : Int) (↑(List.length xs) : Int) then ((0 : Int) ≤ (↑x : Int) ∧ (↑x : Int) < (↑(List.length xs) : Int)) ∧ 0 + Int.toNat (↑x : Int) * (1 : Nat) < List.length xs ∧ ((0 : Int) ≤ (↑x : Int) ∧ (↑x : Int) < (↑(List.length ys) : Int)) ∧ 0 + Int.toNat (↑x : Int) * (1 : Nat) < List.length ys ∧ bif !ieq (List.getD xs (0 + Int.toNat (↑x : Int) * 1) 0) (List.getD ys (0 + Int.toNat (↑x : Int) * 1) 0) then K (AVal.bool false) [some (Entry.ints (some .i64) xs), some (Entry.ints (some .i64) ys)] else okSt (HI xs ys) (fun x' => Hint.ok (HI xs ys) x' ∧ Hint.mu (HI xs ys) x' < Hint.mu (HI xs ys) x) [AVal.slice 0 0 (List.length xs) 1, AVal.slice 1 0 (List.length ys) 1, AVal.top, AVal.top, AVal.top, AVal.int .i64 (W ((↑x : Int) + 1)), AVal.top, AVal.top, AVal.top, AVal.top, AVal.top, AVal.top, AVal.top, AVal.top, AVal.top, AVal.top, AVal.top, AVal.top, AVal.top, AVal.top, AVal.top, AVal.top, AVal.top, AVal.top, AVal.top, AVal.top] [some (Entry.ints (some .i64) xs), some (Entry.ints (some .i64) ys)] else K (AVal.bool true) [some (Entry.ints (some .i64) xs), some (Entry.ints (some .i64) ys)]) (by kernel_rfl) ?_))
  have hS : sameB xs ys = decide (xs = ys) := rfl
  refine cond_go (fun e => ?_) (fun e => ⟨okSt_intro (H := HI xs ys) (0 : Nat) rfl ⟨Nat.zero_le _, ?_, rfl⟩, ?_⟩)
  · rw [ieq_eq] at e
    have : xs ≠ ys := by rintro rfl; simp at e
    rw [hS, decide_eq_false this] at hK; exact hK
  · rw [ieq_eq] at e; simp at e; omega
  · rintro i ⟨h1, h2, h3⟩
    refine cond_go (fun e1 => ?_) (fun e1 => ?_)
    · rw [ilt_eq, decide_eq_true_eq] at e1
      have hi : i < xs.length := by omega
      have e2 : 0 + (i : Int).toNat * 1 = i := by omega
      rw [e2]
      refine ⟨by omega, hi, by omega, by omega, cond_go (fun e3 => ?_) (fun e3 => ?_)⟩
      · rw [ieq_eq] at e3
        have : xs ≠ ys := by rintro rfl; simp at e3
        rw [hS, decide_eq_false this] at hK; exact hK
      · rw [ieq_eq] at e3
        have e3 : xs.getD i 0 = ys.getD i 0 := by simpa using e3
        have e4 : IntKind.wrap .i64 ((i : Int) + 1) = ((i + 1 : Nat) : Int) := by rw [W_in (by omega)]; rfl
        refine okSt_intro (H := HI xs ys) (i + 1 : Nat) (by simp only [W, e4]; rfl) ⟨⟨hi, h2, ?_⟩, by show xs.length - (i + 1) < xs.length - i; omega⟩
        have hj : i < ys.length := by omega
        rw [List.getD_eq_getElem?_getD, List.getElem?_eq_getElem hi, List.getD_eq_getElem?_getD, List.getElem?_eq_getElem hj] at e3
        rw [List.take_succ_eq_append_getElem hi, List.take_succ_eq_append_getElem hj, h3]
        have e5 : xs[i] = ys[i] := by simpa using e3
        rw [e5]
    · rw [ilt_eq, decide_eq_false_iff_not] at e1
      have : xs = ys := by
        rw [List.take_of_length_le (by omega), List.take_of_length_le (by omega)] at h3; exact h3
      rw [hS, decide_eq_true this] at hK; exact hK

def intsS : RSpec Ob := fun args h => match args, h with
  | [.slice 0 0 n 1, .slice 1 0 m 1], [some (.ints (some .i64) xs), some (.ints (some .i64) ys)] => some ((n = xs.length ∧ m = ys.length) ∧ n ≤ 4294967296, .bool (sameB xs ys))
  | _, _ => none
theorem ints_ok : Spec.ok E5.I Try.prog 23 intsS.spec := by
  intro args h o ho
  unfold RSpec.spec at ho
  split at ho
  case h_2 => cases ho
  rename_i p v hv
  unfold intsS at hv
  split at hv
  case h_2 => cases hv
  simp only [Option.some.injEq, Prod.mk.injEq] at hv
  obtain ⟨rfl, rfl⟩ := hv
  exact ints0_ok _ _ o ho
noncomputable def E6 := (E5.addS 76 cloneS clone_ok).addR 23 intsS ints_ok
end Go.Sh

/- A store: begun; what it holds; whether it is full. -/
namespace Go.Sh
open Go Go.Proofs
variable [Con]
def storeNewS : Spec Ob := fun args h => match args, h with
  | [.agg [.int .i64 t, .int .i64 n], .int .i64 me], [] => some (.ret (.ptr 0 0) [some (.cells [.int .i64 t, .int .i64 n, .int .i64 me, .int .i64 0, .raw (.slice none 0 0)])])
  | _, _ => none
theorem storeNew_ok : Spec.ok E6.I Try.prog 34 storeNewS := by
  intro args h o ho K hK
  unfold storeNewS at ho
  split at ho
  case h_2 => cases ho
  rename_i t n me
  simp only [Option.some.injEq] at ho; subst ho
  have hK : K (.ptr 0 0) [some (.cells [.int .i64 t, .int .i64 n, .int .i64 me, .int .i64 0, .raw (.slice none 0 0)])] := hK
  exact CallOk.trim (callOk_of (E := E6) Try.checked.mixed (L := LL) (n := 10) (of_nf (q := K (AVal.ptr 0 0) [some (Entry.cells [AVal.int .i64 t, AVal.int .i64 n, AVal.int .i64 me, AVal.int .i64 0, AVal.raw (Value.slice none 0 0)])]) (by kernel_rfl) hK))

/- OPQ -/
def heldL (sp : Int) (xs : List Int) : List Int := bif ieq sp 0 then xs else sp :: xs
def heldS : Spec Ob := fun args h => match args, h with
  | [.ptr 0 0], [some (.cells [.int .i64 t, .int .i64 n, .int .i64 me, .int .i64 sp, .slice 1 0 k 1]), some (.ints (some .i64) xs)] => some (.pre (k = xs.length ∧ k ≤ 1000000) (.ret (.slice 2 0 (heldL sp xs).length 1) [some (.cells [.int .i64 t, .int .i64 n, .int .i64 me, .int .i64 sp, .slice 1 0 k 1]), some (.ints (some .i64) xs), some (.ints (some .i64) (heldL sp xs))]))
  | _, _ => none
theorem held_ok : Spec.ok E6.I Try.prog 37 heldS := by
  intro args h o ho K hK
  unfold heldS at ho
  split at ho
  case h_2 => cases ho
  rename_i t n me sp k xs
  simp only [Option.some.injEq] at ho; subst ho
  obtain ⟨⟨rfl, hp⟩, hK⟩ := hK
  have hK : K (.slice 2 0 (heldL sp xs).length 1) [some (.cells [.int .i64 t, .int .i64 n, .int .i64 me, .int .i64 sp, .slice 1 0 xs.length 1]), some (.ints (some .i64) xs), some (.ints (some .i64) (heldL sp xs))] := hK
  refine CallOk.trim (CallOk.castR (cs := [(.slot 0, .ints (some .i64))]) (callOk_of (E := E6) Try.checked.mixed (L := LL) (n := 10) (of_nf (q := bif ieq sp 0 then (List.length xs = List.length xs ∧ List.length xs ≤ (4294967296 : Nat)) ∧ K (AVal.slice 2 0 (List.length xs) 1) [some (Entry.cells [AVal.int .i64 t, AVal.int .i64 n, AVal.int .i64 me, AVal.int .i64 sp, AVal.slice 1 0 (List.length xs) 1]), some (Entry.ints (some .i64) xs), some (Entry.ints (some .i64) xs)] else (0 + List.length xs ≤ List.length xs ∧ 1 + List.length xs ≤ (4294967296 : Nat)) ∧ K (AVal.slice 2 0 (1 + List.length xs) 1) [some (Entry.cells [AVal.int .i64 t, AVal.int .i64 n, AVal.int .i64 me, AVal.int .i64 sp, AVal.slice 1 0 (List.length xs) 1]), some (Entry.ints (some .i64) xs), some (Entry.ints (some .i64) ([sp] ++ List.take (List.length xs) (List.drop 0 xs)))]) (by kernel_rfl) ?_)))
  unfold heldL at hK
  refine cond_go (fun e => ⟨⟨rfl, by omega⟩, ?_⟩) (fun e => ⟨⟨by omega, by omega⟩, ?_⟩)
  · rw [e] at hK; exact hK
  · rw [e] at hK
    simp only [cond_false] at hK
    have e1 : 1 + xs.length = (sp :: xs).length := by simp; omega
    have e2 : [sp] ++ List.take xs.length (List.drop 0 xs) = sp :: xs := by simp
    rw [e1, e2]; exact hK

def fullS0 : Spec Ob := fun args h => match args, h with
  | [.ptr 0 0], some (.cells [.int .i64 t, .int .i64 n, .int .i64 me, .int .i64 sp, .slice 1 0 k 1]) :: rest => some (.pre (0 ≤ t ∧ t ≤ 100000) (.ret (.bool (ile (4 * t) (k : Int))) (some (.cells [.int .i64 t, .int .i64 n, .int .i64 me, .int .i64 sp, .slice 1 0 k 1]) :: rest)))
  | _, _ => none
theorem full0_ok : Spec.ok E6.I Try.prog 38 fullS0 := by
  intro args h o ho K hK
  unfold fullS0 at ho
  split at ho
  case h_2 => cases ho
  rename_i t n me sp k rest
  simp only [Option.some.injEq] at ho; subst ho
  obtain ⟨hp, hK⟩ := hK
  have hK : K (.bool (ile (4 * t) (k : Int))) (some (.cells [.int .i64 t, .int .i64 n, .int .i64 me, .int .i64 sp, .slice 1 0 k 1]) :: rest) := hK
  refine (callOk_of (E := E6) Try.checked.mixed (L := LL) (n := 10) (of_nf (q := K (AVal.bool (ile (W (4 * t)) (↑k : Int))) (some (Entry.cells [AVal.int .i64 t, AVal.int .i64 n, AVal.int .i64 me, AVal.int .i64 sp, AVal.slice 1 0 k 1]) :: rest)) (by kernel_rfl) ?_))
  simp (disch := omega) only [W, W_in]
  exact hK
def fullS : RSpec Ob := fun args h => match args, h with
  | [.ptr 0 0], some (.cells [.int .i64 t, .int .i64 n, .int .i64 me, .int .i64 sp, .slice 1 0 k 1]) :: rest => some (0 ≤ t ∧ t ≤ 100000, .bool (ile (4 * t) (k : Int)))
  | _, _ => none
theorem full_ok : Spec.ok E6.I Try.prog 38 fullS.spec := by
  intro args h o ho
  unfold RSpec.spec at ho
  split at ho
  case h_2 => cases ho
  rename_i p v hv
  unfold fullS at hv
  split at hv
  case h_2 => cases hv
  simp only [Option.some.injEq, Prod.mk.injEq] at hv
  obtain ⟨rfl, rfl⟩ := hv
  exact full0_ok _ _ o ho
noncomputable def E7 := ((E6.addS 34 storeNewS storeNew_ok).addS 37 heldS held_ok).addR 38 fullS full_ok
end Go.Sh

/- The kinds of a shape. -/
namespace Go.Sh
open Go Go.Proofs
variable [Con]
/- OPQ -/
def kindsL (s : Int) : List Int := bif ieq s 1 || ieq s 2 then [1, 2, 3] else bif ieq s 3 || ieq s 4 then [4, 5] else []
def kindsS : Spec Ob := fun args h => match args, h with
  | [.int .i64 s], [] => some (.ret (.slice 0 0 (kindsL s).length 1) [some (.ints (some .i64) (kindsL s))])
  | _, _ => none
theorem kinds_ok : Spec.ok E7.I Try.prog 110 kindsS := by
  intro args h o ho K hK
  unfold kindsS at ho
  split at ho
  case h_2 => cases ho
  rename_i s
  simp only [Option.some.injEq] at ho; subst ho
  have hK : K (.slice 0 0 (kindsL s).length 1) [some (.ints (some .i64) (kindsL s))] := hK
  refine CallOk.trim (CallOk.castR (cs := [(.slot 0, .ints (some .i64))]) (callOk_of (E := E7) Try.checked.mixed (L := LL) (n := 10) (of_nf (q := bif ieq s 1 then K (AVal.slice 0 0 3 1) [some (Entry.ints (some .i64) [1, 2, 3])] else bif ieq s 2 then K (AVal.slice 0 0 3 1) [some (Entry.ints (some .i64) [1, 2, 3])] else bif ieq s 3 then K (AVal.slice 0 0 2 1) [some (Entry.ints (some .i64) [4, 5])] else bif ieq s 4 then K (AVal.slice 0 0 2 1) [some (Entry.ints (some .i64) [4, 5])] else K (AVal.slice 0 0 0 1) [some (Entry.ints (some .i64) [])]) (by kernel_rfl) ?_)))
  unfold kindsL at hK
  cases e1 : ieq s 1 <;> cases e2 : ieq s 2 <;> cases e3 : ieq s 3 <;> cases e4 : ieq s 4 <;> simp only [e1, e2, e3, e4, Bool.or_true, Bool.or_false, Bool.true_or, Bool.false_or, cond_true, cond_false] at hK ⊢ <;> exact hK
noncomputable def E8 := E7.addS 110 kindsS kinds_ok
theorem sameB_self (xs : List Int) : sameB xs xs = true := sameB_true.2 rfl
theorem ieq_self (a : Int) : ieq a a = true := by rw [ieq_eq]; simp
end Go.Sh

/- A number in a list. -/
namespace Go.Sh
open Go Go.Proofs
variable [Con]
/- OPQ -/
def hasB (xs : List Int) (n : Int) : Bool := decide (n ∈ xs)
theorem hasB_true {xs : List Int} {n : Int} : hasB xs n = true ↔ n ∈ xs := by unfold hasB; exact decide_eq_true_iff
structure okC (xs : List Int) (n : Int) (i : Nat) : Prop where
  h1 : i ≤ xs.length
  h2 : n ∉ xs.take i
def HC (xs : List Int) (n : Int) : Hint Ob := { X := Nat, st := fun i => ([.slice 0 0 xs.length 1, .int .i64 n, .top, .top, .top, .top, .top, .int .i64 (xs.length : Int), .int .i64 (i : Int)] ++ List.replicate 10 .top, [some (.ints (some .i64) xs)]), ok := okC xs n, mu := fun i => xs.length - i, keep := [0, 1, 7, 8] }
def hasS0 : Spec Ob := fun args h => match args, h with
  | [.slice 0 0 k 1, .int .i64 n], [some (.ints (some .i64) xs)] => some (.pre (k = xs.length ∧ k ≤ 4294967296) (.ret (.bool (hasB xs n)) [some (.ints (some .i64) xs)]))
  | _, _ => none
theorem has0_ok : Spec.ok E8.I Try.prog 100 hasS0 := by
  intro args h o ho K hK
  unfold hasS0 at ho
  split at ho
  case h_2 => cases ho
  rename_i k n xs
  simp only [Option.some.injEq] at ho; subst ho
  obtain ⟨⟨rfl, hp⟩, hK⟩ := hK
  have hK : K (.bool (hasB xs n)) [some (.ints (some .i64) xs)] := hK
  refine (callOk_of (E := E8) Try.checked.mixed (L := fun _ _ => some (.states (HC xs n))) (n := 10) (of_nf (q := okSt (HC xs n) (Hint.ok (HC xs n)) [AVal.slice 0 0 (List.length xs) 1, AVal.int .i64 n, AVal.top, AVal.top, AVal.top, AVal.top, AVal.top, AVal.int .i64 (↑(List.length xs) : Int), AVal.int .i64 0, AVal.top, AVal.top, AVal.top, AVal.top, AVal.top, AVal.top, AVal.top, AVal.top, AVal.top, AVal.top] [some (Entry.ints (some .i64) xs)] ∧ ∀ (x : Nat), okC xs n x → bif ilt (↑x : Int) (↑(List.length xs) : Int) then ((0 : Int) ≤ (↑x : Int) ∧ (↑x : Int) < (↑(List.length xs) : Int)) ∧ 0 + Int.toNat (↑x : Int) * (1 : Nat) < List.length xs ∧ bif ieq n (List.getD xs (0 + Int.toNat (↑x : Int) * 1) 0) then K (AVal.bool (ile 0 (↑x : Int))) [some (Entry.ints (some .i64) xs)] else okSt (HC xs n) (fun x' => Hint.ok (HC xs n) x' ∧ Hint.mu (HC xs n) x' < Hint.mu (HC xs n) x) [AVal.slice 0 0 (List.length xs) 1, AVal.int .i64 n, AVal.top, AVal.top, AVal.top, AVal.top, AVal.top, AVal.int .i64 (↑(List.length xs) : Int), AVal.int .i64 (W ((↑x : Int) + 1)), AVal.top, AVal.top, AVal.top, AVal.top, AVal.top, AVal.top, AVal.top, AVal.top, AVal.top, AVal.top] [some (Entry.ints (some .i64) xs)] else K (AVal.bool false) [some (Entry.ints (some .i64) xs)]) (by kernel_rfl) ?_))
  have hS : hasB xs n = decide (n ∈ xs) := rfl
  refine ⟨okSt_intro (H := HC xs n) (0 : Nat) rfl ⟨Nat.zero_le _, by simp⟩, ?_⟩
  rintro i ⟨h1, h2⟩
  refine cond_go (fun e1 => ?_) (fun e1 => ?_)
  · rw [ilt_eq, decide_eq_true_eq] at e1
    have hi : i < xs.length := by omega
    have e2 : 0 + (i : Int).toNat * 1 = i := by omega
    rw [e2]
    have e4 : IntKind.wrap .i64 ((i : Int) + 1) = ((i + 1 : Nat) : Int) := by rw [W_in (by omega)]; rfl
    have hg : xs.getD i 0 = xs[i] := by rw [List.getD_eq_getElem?_getD, List.getElem?_eq_getElem hi]; rfl
    refine ⟨by omega, hi, cond_go (fun e3 => ?_) (fun e3 => ?_)⟩
    · rw [ieq_eq, hg] at e3
      have e3 : n = xs[i] := by simpa using e3
      have hm : n ∈ xs := by rw [e3]; exact List.getElem_mem hi
      have h0 : ile 0 (i : Int) = true := by rw [ile_eq, decide_eq_true_eq]; omega
      rw [hS, decide_eq_true hm] at hK
      first | (rw [h0]; exact hK) | exact hK
    · rw [ieq_eq, hg] at e3
      have e3 : ¬ n = xs[i] := by simpa using e3
      refine okSt_intro (H := HC xs n) (i + 1 : Nat) (by simp only [W, e4]; rfl) ⟨⟨hi, ?_⟩, by show xs.length - (i + 1) < xs.length - i; omega⟩
      rw [List.take_succ_eq_append_getElem hi]
      intro hm
      rcases List.mem_append.1 hm with h | h
      · exact h2 h
      · exact e3 (by simpa using h)
  · rw [ilt_eq, decide_eq_false_iff_not] at e1
    rw [List.take_of_length_le (by omega)] at h2
    rw [hS, decide_eq_false h2] at hK
    exact hK
def hasS : RSpec Ob := fun args h => match args, h with
  | [.slice 0 0 k 1, .int .i64 n], [some (.ints (some .i64) xs)] => some (k = xs.length ∧ k ≤ 4294967296, .bool (hasB xs n))
  | _, _ => none
theorem has_ok : Spec.ok E8.I Try.prog 100 hasS.spec := by
  intro args h o ho
  unfold RSpec.spec at ho
  split at ho
  case h_2 => cases ho
  rename_i p v hv
  unfold hasS at hv
  split at hv
  case h_2 => cases hv
  simp only [Option.some.injEq, Prod.mk.injEq] at hv
  obtain ⟨rfl, rfl⟩ := hv
  exact has0_ok _ _ o ho
noncomputable def E9 := E8.addR 100 hasS has_ok
end Go.Sh

/- Whether an operation is one of a shape. -/
namespace Go.Sh
open Go Go.Proofs
variable [Con]
theorem kindsL_len (s : Int) : (kindsL s).length ≤ 3 := by
  unfold kindsL
  cases (ieq s 1 || ieq s 2) <;> cases (ieq s 3 || ieq s 4) <;> simp
/- OPQ -/
def rightT (s k y : Int) : Bool := hasB (kindsL s) k && (ile 0 y && ile y (bif ieq k 5 then 0 else 999))
def rightS : RSpec Ob := fun args h => match args, h with
  | [.int .i64 s, .agg [.int .i64 k, .int .i64 y]], [] => some (True, .bool (rightT s k y))
  | _, _ => none
theorem right_ok : Spec.ok E9.I Try.prog 105 rightS.spec := by
  intro args h o ho K hK
  unfold RSpec.spec at ho
  split at ho
  case h_2 => cases ho
  rename_i p v hv
  unfold rightS at hv
  split at hv
  case h_2 => cases hv
  rename_i s k y
  simp only [Option.some.injEq, Prod.mk.injEq] at hv
  obtain ⟨rfl, rfl⟩ := hv
  simp only [Option.some.injEq] at ho; subst ho
  obtain ⟨_, hK⟩ := hK
  have hK : K (.bool (rightT s k y)) [] := hK
  refine CallOk.trim (callOk_of (E := E9) Try.checked.mixed (L := LL) (n := 10) (of_nf (q := bif ieq k 5 then (List.length (kindsL s) = List.length (kindsL s) ∧ List.length (kindsL s) ≤ (4294967296 : Nat)) ∧ bif hasB (kindsL s) k then bif ile 0 y then K (AVal.bool (ile y 0)) [] else K (AVal.bool false) [] else K (AVal.bool false) [] else (List.length (kindsL s) = List.length (kindsL s) ∧ List.length (kindsL s) ≤ (4294967296 : Nat)) ∧ bif hasB (kindsL s) k then bif ile 0 y then K (AVal.bool (ile y 999)) [] else K (AVal.bool false) [] else K (AVal.bool false) []) (by kernel_rfl) ?_))
  have hl := kindsL_len s
  unfold rightT at hK
  refine cond_go (fun e1 => ⟨⟨rfl, by omega⟩, cond_go (fun e2 => cond_go (fun e3 => ?_) (fun e3 => ?_)) (fun e2 => ?_)⟩) (fun e1 => ⟨⟨rfl, by omega⟩, cond_go (fun e2 => cond_go (fun e3 => ?_) (fun e3 => ?_)) (fun e2 => ?_)⟩) <;>
    (simp only [e1, e2, cond_true, cond_false, Bool.true_and, Bool.false_and] at hK <;> first | (simp only [e3, Bool.true_and, Bool.false_and] at hK; exact hK) | exact hK)
noncomputable def E10 := E9.addR 105 rightS right_ok
end Go.Sh

/- A node's word: bits of others. -/
namespace Go.Sh
open Go Go.Proofs
variable [Con]
/- OPQ -/
def cutI (x a w : Int) : Int := x / 2 ^ a.toNat % 2 ^ w.toNat
/- OPQ -/
def bitI (b : Bool) : Int := bif b then 1 else 0
/- OPQ -/
def fitI (n w : Int) : Bool := ile 0 n && ilt n (2 ^ w.toNat)
theorem toNat_ofInt (n : Nat) (x : Int) : ((BitVec.ofInt n x).toNat : Int) = x % 2 ^ n := by
  rw [BitVec.toNat_ofInt]
  have h : (0 : Int) < (2 ^ n : Nat) := by exact_mod_cast Nat.two_pow_pos n
  have h2 : 0 ≤ x % ((2 ^ n : Nat) : Int) := Int.emod_nonneg _ (by omega)
  rw [Int.toNat_of_nonneg h2]
  push_cast
  rfl
theorem two_pos (w : Nat) : (0 : Int) < 2 ^ w := by
  have : ((2 ^ w : Nat) : Int) = 2 ^ w := by push_cast; rfl
  have h : 0 < 2 ^ w := Nat.two_pow_pos w
  omega
theorem two_le {w n : Nat} (h : w ≤ n) : (2 : Int) ^ w ≤ 2 ^ n := by
  have a : ((2 ^ w : Nat) : Int) = 2 ^ w := by push_cast; rfl
  have b : ((2 ^ n : Nat) : Int) = 2 ^ n := by push_cast; rfl
  have h : 2 ^ w ≤ 2 ^ n := Nat.pow_le_pow_right (by omega) h
  omega
theorem two_dvd {w n : Nat} (h : w ≤ n) : (2 : Int) ^ w ∣ 2 ^ n := by
  have a : ((2 ^ w : Nat) : Int) = 2 ^ w := by push_cast; rfl
  have b : ((2 ^ n : Nat) : Int) = 2 ^ n := by push_cast; rfl
  rw [← a, ← b]
  exact Int.natCast_dvd_natCast.2 (Nat.pow_dvd_pow 2 h)
theorem and_mask {n w : Nat} (x : Int) (h : w < n) : ((BitVec.ofInt n x &&& BitVec.ofInt n (2 ^ w - 1)).toNat : Int) = x % 2 ^ w := by
  have hp := two_pos w
  have h3 : (2 : Int) ^ w ≤ 2 ^ n := two_le (by omega)
  have e1 : (BitVec.ofInt n (2 ^ w - 1)).toNat = 2 ^ w - 1 := by
    have : ((BitVec.ofInt n (2 ^ w - 1)).toNat : Int) = ((2 ^ w - 1 : Nat) : Int) := by
      rw [toNat_ofInt, Int.emod_eq_of_lt (by omega) (by omega)]
      have a : ((2 ^ w : Nat) : Int) = 2 ^ w := by push_cast; rfl
      have : 1 ≤ 2 ^ w := Nat.one_le_two_pow
      omega
    exact_mod_cast this
  rw [BitVec.toNat_and, e1, Nat.and_two_pow_sub_one_eq_mod]
  push_cast
  rw [toNat_ofInt]
  exact Int.emod_emod_of_dvd _ (two_dvd (by omega))
theorem or_shift {n a : Nat} {x y : Int} (hx : 0 ≤ x ∧ x < 2 ^ a) (hy : 0 ≤ y) (h : y * 2 ^ a + x < 2 ^ n) :
    ((BitVec.ofInt n x ||| BitVec.ofInt n (y * 2 ^ a)).toNat : Int) = x + y * 2 ^ a := by
  have hp := two_pos a
  have hya : 0 ≤ y * 2 ^ a := Int.mul_nonneg hy (by omega)
  obtain ⟨u, rfl⟩ := Int.eq_ofNat_of_zero_le hx.1
  obtain ⟨v, rfl⟩ := Int.eq_ofNat_of_zero_le hy
  have e1 : (BitVec.ofInt n (u : Int)).toNat = u := by
    have : ((BitVec.ofInt n (u : Int)).toNat : Int) = (u : Int) := by
      rw [toNat_ofInt, Int.emod_eq_of_lt (by omega) (by omega)]
    exact_mod_cast this
  have e2 : (BitVec.ofInt n ((v : Int) * 2 ^ a)).toNat = v * 2 ^ a := by
    have : ((BitVec.ofInt n ((v : Int) * 2 ^ a)).toNat : Int) = ((v * 2 ^ a : Nat) : Int) := by
      rw [toNat_ofInt, Int.emod_eq_of_lt (by omega) (by omega)]; push_cast; rfl
    exact_mod_cast this
  have hu : u < 2 ^ a := by
    have b : ((2 ^ a : Nat) : Int) = 2 ^ a := by push_cast; rfl
    omega
  rw [BitVec.toNat_or, e1, e2]
  have : u ||| v * 2 ^ a = u + v * 2 ^ a := by
    have := Nat.shiftLeft_add_eq_or_of_lt hu v
    rw [Nat.shiftLeft_eq] at this
    rw [Nat.or_comm, ← this]; omega
  rw [this]; push_cast; rfl

theorem WU_in {x : Int} (h : 0 ≤ x ∧ x ≤ 18446744073709551615) : IntKind.wrap IntKind.u64 x = x := IntWalk.u64_in x h
theorem two_lt {w n : Nat} (h : w ≤ n) {b : Int} (e : b = 2 ^ n) : (2 : Int) ^ w ≤ b := by rw [e]; exact two_le h
def cutS : RSpec Ob := fun args h => match args, h with
  | [.int .u64 x, .int .i64 a, .int .i64 w], [] => some ((0 ≤ a ∧ a ≤ 63) ∧ (0 ≤ w ∧ w ≤ 62), .int .i64 (cutI x a w))
  | _, _ => none
theorem cut_ok : Spec.ok E10.I Try.prog 149 cutS.spec := by
  intro args h o ho K hK
  unfold RSpec.spec at ho
  split at ho
  case h_2 => cases ho
  rename_i p v hv
  unfold cutS at hv
  split at hv
  case h_2 => cases hv
  rename_i x a w
  simp only [Option.some.injEq, Prod.mk.injEq] at hv
  obtain ⟨rfl, rfl⟩ := hv
  simp only [Option.some.injEq] at ho; subst ho
  obtain ⟨⟨ha, hw⟩, hK⟩ := hK
  have hK : K (.int .i64 (cutI x a w)) [] := hK
  refine CallOk.trim (callOk_of (E := E10) Try.checked.mixed (L := fun _ _ => none) (n := 10) (of_nf (q := (0 : Int) ≤ a ∧ (0 : Int) ≤ w ∧ K (AVal.int .i64 (W (WU (↑(BitVec.toNat (BitVec.ofInt (IntKind.bits .u64) (Int.fdiv x (2 ^ min (Int.toNat a) (IntKind.bits .u64))) &&& BitVec.ofInt (IntKind.bits .u64) (WU (WU (1 * 2 ^ min (Int.toNat w) (IntKind.bits .u64)) - 1)))) : Int)))) []) (by kernel_rfl) ?_))
  refine ⟨by omega, by omega, ?_⟩
  refine cast (congrArg (fun z => K (AVal.int .i64 z) []) ?_) hK
  show cutI x a w = _
  have hb : IntKind.bits .u64 = 64 := rfl
  rw [hb]
  have h1 : min a.toNat 64 = a.toNat := by omega
  have h2 : min w.toNat 64 = w.toNat := by omega
  have h3 : (2 : Int) ^ w.toNat ≤ 4611686018427387904 := two_lt (n := 62) (by omega) (by decide)
  have h4 := two_pos w.toNat
  have h5 := two_pos a.toNat
  rw [h1, h2, Int.fdiv_eq_ediv_of_nonneg _ (by omega)]
  simp only [WU, W, Int.one_mul]
  rw [WU_in (x := 2 ^ w.toNat) (by omega), WU_in (x := 2 ^ w.toNat - 1) (by omega), and_mask _ (by omega)]
  have h6 := Int.emod_nonneg (x / 2 ^ a.toNat) (b := 2 ^ w.toNat) (by omega)
  have h7 := Int.emod_lt_of_pos (x / 2 ^ a.toNat) (b := 2 ^ w.toNat) (by omega)
  rw [WU_in (by omega), W_in (by omega)]
  rfl
def bitS : RSpec Ob := fun args h => match args, h with
  | [.bool b], [] => some (True, .int .i64 (bitI b))
  | _, _ => none
theorem bit_ok : Spec.ok E10.I Try.prog 151 bitS.spec := by
  intro args h o ho K hK
  unfold RSpec.spec at ho
  split at ho
  case h_2 => cases ho
  rename_i p v hv
  unfold bitS at hv
  split at hv
  case h_2 => cases hv
  rename_i b
  simp only [Option.some.injEq, Prod.mk.injEq] at hv
  obtain ⟨rfl, rfl⟩ := hv
  simp only [Option.some.injEq] at ho; subst ho
  obtain ⟨_, hK⟩ := hK
  have hK : K (.int .i64 (bitI b)) [] := hK
  refine CallOk.trim (callOk_of (E := E10) Try.checked.mixed (L := fun _ _ => none) (n := 10) (of_nf (q := bif b then K (AVal.int .i64 1) [] else K (AVal.int .i64 0) []) (by kernel_rfl) ?_))
  cases b <;> exact hK
def fitS : RSpec Ob := fun args h => match args, h with
  | [.agg [.int .i64 n, .int .i64 w]], [] => some (0 ≤ w ∧ w ≤ 62, .bool (fitI n w))
  | _, _ => none
theorem fit_ok : Spec.ok E10.I Try.prog 148 fitS.spec := by
  intro args h o ho K hK
  unfold RSpec.spec at ho
  split at ho
  case h_2 => cases ho
  rename_i p v hv
  unfold fitS at hv
  split at hv
  case h_2 => cases hv
  rename_i n w
  simp only [Option.some.injEq, Prod.mk.injEq] at hv
  obtain ⟨rfl, rfl⟩ := hv
  simp only [Option.some.injEq] at ho; subst ho
  obtain ⟨hw, hK⟩ := hK
  have hK : K (.bool (fitI n w)) [] := hK
  refine CallOk.trim (callOk_of (E := E10) Try.checked.mixed (L := fun _ _ => none) (n := 10) (of_nf (q := bif ile 0 n then (0 : Int) ≤ w ∧ K (AVal.bool (ilt n (W (1 * 2 ^ min (Int.toNat w) (IntKind.bits .i64))))) [] else K (AVal.bool false) []) (by kernel_rfl) ?_))
  unfold fitI at hK
  have hb : IntKind.bits .i64 = 64 := rfl
  have h2 : min w.toNat 64 = w.toNat := by omega
  have h3 : (2 : Int) ^ w.toNat ≤ 4611686018427387904 := two_lt (n := 62) (by omega) (by decide)
  have h4 := two_pos w.toNat
  refine cond_go (fun e => ⟨by omega, ?_⟩) (fun e => ?_)
  · rw [e] at hK
    rw [hb, h2, W, Int.one_mul, W_in (by omega)]
    exact hK
  · rw [e] at hK; exact hK
/- OPQ -/
def newerI (v : Int) : Int := (v + 1) % 262144
def linkS : RSpec Ob := fun args h => match args, h with
  | [.agg [.int .i64 k, .int .i64 x, .bool m, .int .i64 c, .int .i64 v], .int .i64 y], [] => some (0 ≤ v ∧ v ≤ 1000000, .agg [.int .i64 k, .int .i64 y, .bool m, .int .i64 c, .int .i64 (newerI v)])
  | _, _ => none
theorem link_ok : Spec.ok E10.I Try.prog 146 linkS.spec := by
  intro args h o ho K hK
  unfold RSpec.spec at ho
  split at ho
  case h_2 => cases ho
  rename_i p v hv
  unfold linkS at hv
  split at hv
  case h_2 => cases hv
  rename_i k x m c v y
  simp only [Option.some.injEq, Prod.mk.injEq] at hv
  obtain ⟨rfl, rfl⟩ := hv
  simp only [Option.some.injEq] at ho; subst ho
  obtain ⟨hw, hK⟩ := hK
  have hK : K (.agg [.int .i64 k, .int .i64 y, .bool m, .int .i64 c, .int .i64 (newerI v)]) [] := hK
  refine CallOk.trim (callOk_of (E := E10) Try.checked.mixed (L := fun _ _ => none) (n := 10) (of_nf (q := K (AVal.agg [AVal.int .i64 k, AVal.int .i64 y, AVal.bool m, AVal.int .i64 c, AVal.int .i64 (W (↑(BitVec.toNat (BitVec.ofInt (IntKind.bits .i64) (W (v + 1)) &&& BitVec.ofInt (IntKind.bits .i64) 262143)) : Int))]) []) (by kernel_rfl) ?_))
  refine cast (congrArg (fun z => K (.agg [.int .i64 k, .int .i64 y, .bool m, .int .i64 c, .int .i64 z]) []) ?_) hK
  show newerI v = _
  have hb : IntKind.bits .i64 = 64 := rfl
  simp only [W]
  rw [hb, W_in (x := v + 1) (by omega)]
  have := and_mask (n := 64) (w := 18) (v + 1) (by omega)
  have e : (2 : Int) ^ 18 - 1 = 262143 := by decide
  rw [e] at this
  rw [this]
  have e2 : (2 : Int) ^ 18 = 262144 := by decide
  rw [e2, W_in (by omega)]
  rfl
noncomputable def E11 := ((((E10.addR 149 cutS cut_ok).addR 151 bitS bit_ok).addR 148 fitS fit_ok).addR 146 linkS link_ok)

end Go.Sh

/- A node's word: told, and put. -/
namespace Go.Sh
open Go Go.Proofs
variable [Con]
def getV (x : Int) : AVal := .agg [.int .i64 (cutI x 0 10), .int .i64 (cutI x 10 9), .bool (ieq (cutI x 19 1) 1), .int .i64 (cutI x 20 5), .int .i64 (cutI x 25 18)]
def getS : RSpec Ob := fun args h => match args, h with
  | [.int .u64 x], [] => some (True, .agg [.int .i64 (cutI x 0 10), .int .i64 (cutI x 10 9), .bool (ieq (cutI x 19 1) 1), .int .i64 (cutI x 20 5), .int .i64 (cutI x 25 18)])
  | _, _ => none
set_option maxRecDepth 100000 in
theorem get_ok : Spec.ok E11.I Try.prog 145 getS.spec := by
  intro args h o ho K hK
  unfold RSpec.spec at ho
  split at ho
  case h_2 => cases ho
  rename_i p v hv
  unfold getS at hv
  split at hv
  case h_2 => cases hv
  rename_i x
  simp only [Option.some.injEq, Prod.mk.injEq] at hv
  obtain ⟨rfl, rfl⟩ := hv
  simp only [Option.some.injEq] at ho; subst ho
  obtain ⟨_, hK⟩ := hK
  refine CallOk.trim (callOk_of (E := E11) Try.checked.mixed (L := LL) (n := 10) (of_nf (q := ((0 : Int) ≤ (0 : Int) ∧ (0 : Int) < (↑5 : Int)) ∧ ((0 : Int) ≤ (0 : Int) ∧ (0 : Int) < (↑1 : Int)) ∧ 1 + (1 : Nat) ≤ (4294967296 : Nat) ∧ ((0 : Int) ≤ W (0 + 1) ∧ W (0 + 1) < (↑5 : Int)) ∧ ((0 : Int) ≤ W (0 + 1) ∧ W (0 + 1) < (↑(1 + 1) : Int)) ∧ 1 + 1 + (1 : Nat) ≤ (4294967296 : Nat) ∧ ((0 : Int) ≤ W (W (0 + 1) + 1) ∧ W (W (0 + 1) + 1) < (↑5 : Int)) ∧ ((0 : Int) ≤ W (W (0 + 1) + 1) ∧ W (W (0 + 1) + 1) < (↑(1 + 1 + 1) : Int)) ∧ 1 + 1 + 1 + (1 : Nat) ≤ (4294967296 : Nat) ∧ ((0 : Int) ≤ W (W (W (0 + 1) + 1) + 1) ∧ W (W (W (0 + 1) + 1) + 1) < (↑5 : Int)) ∧ ((0 : Int) ≤ W (W (W (0 + 1) + 1) + 1) ∧ W (W (W (0 + 1) + 1) + 1) < (↑(1 + 1 + 1 + 1) : Int)) ∧ 1 + 1 + 1 + 1 + (1 : Nat) ≤ (4294967296 : Nat) ∧ ((0 : Int) ≤ W (W (W (W (0 + 1) + 1) + 1) + 1) ∧ W (W (W (W (0 + 1) + 1) + 1) + 1) < (↑5 : Int)) ∧ ((0 : Int) ≤ W (W (W (W (0 + 1) + 1) + 1) + 1) ∧ W (W (W (W (0 + 1) + 1) + 1) + 1) < (↑(1 + 1 + 1 + 1 + 1) : Int)) ∧ 1 + 1 + 1 + 1 + 1 + (1 : Nat) ≤ (4294967296 : Nat) ∧ ((0 : Int) ≤ (0 : Int) ∧ (0 : Int) < (↑(1 + 1 + 1 + 1 + 1 + 1) : Int)) ∧ (((0 : Int) ≤ (0 : Int) ∧ (0 : Int) ≤ (63 : Int)) ∧ (0 : Int) ≤ (10 : Int) ∧ (10 : Int) ≤ (62 : Int)) ∧ ((0 : Int) ≤ (1 : Int) ∧ (1 : Int) < (↑(1 + 1 + 1 + 1 + 1 + 1) : Int)) ∧ (((0 : Int) ≤ W (0 + 10) ∧ W (0 + 10) ≤ (63 : Int)) ∧ (0 : Int) ≤ (9 : Int) ∧ (9 : Int) ≤ (62 : Int)) ∧ ((0 : Int) ≤ (2 : Int) ∧ (2 : Int) < (↑(1 + 1 + 1 + 1 + 1 + 1) : Int)) ∧ (((0 : Int) ≤ W (W (0 + 10) + 9) ∧ W (W (0 + 10) + 9) ≤ (63 : Int)) ∧ (0 : Int) ≤ (1 : Int) ∧ (1 : Int) ≤ (62 : Int)) ∧ ((0 : Int) ≤ (3 : Int) ∧ (3 : Int) < (↑(1 + 1 + 1 + 1 + 1 + 1) : Int)) ∧ (((0 : Int) ≤ W (W (W (0 + 10) + 9) + 1) ∧ W (W (W (0 + 10) + 9) + 1) ≤ (63 : Int)) ∧ (0 : Int) ≤ (5 : Int) ∧ (5 : Int) ≤ (62 : Int)) ∧ ((0 : Int) ≤ (4 : Int) ∧ (4 : Int) < (↑(1 + 1 + 1 + 1 + 1 + 1) : Int)) ∧ (((0 : Int) ≤ W (W (W (W (0 + 10) + 9) + 1) + 5) ∧ W (W (W (W (0 + 10) + 9) + 1) + 5) ≤ (63 : Int)) ∧ (0 : Int) ≤ (18 : Int) ∧ (18 : Int) ≤ (62 : Int)) ∧ K (AVal.agg [AVal.int .i64 (cutI x 0 10), AVal.int .i64 (cutI x (W (0 + 10)) 9), AVal.bool (ieq (cutI x (W (W (0 + 10) + 9)) 1) 1), AVal.int .i64 (cutI x (W (W (W (0 + 10) + 9) + 1)) 5), AVal.int .i64 (cutI x (W (W (W (W (0 + 10) + 9) + 1) + 5)) 18)]) []) (by kernel_rfl) ?_))
  simp (disch := omega) only [W, W_in, Int.reduceAdd, Int.zero_add]
  repeat refine ⟨by omega, ?_⟩
  exact hK
theorem fitI_true {n w : Int} : fitI n w = true ↔ 0 ≤ n ∧ n < 2 ^ w.toNat := by
  unfold fitI; simp only [ile_eq, ilt_eq, Bool.and_eq_true, decide_eq_true_eq]
theorem or_sh {a : Nat} {x y p s q : Int} (e : p = 2 ^ a) (hx : 0 ≤ x ∧ x < p) (hy : 0 ≤ y) (h : y * p + x ≤ 18446744073709551615) (hs : s = x + y * p) (eq : q = p) :
    WU (((BitVec.ofInt 64 x ||| BitVec.ofInt 64 (WU (WU y * q))).toNat : Int)) = s := by
  subst eq
  have hya : 0 ≤ y * q := Int.mul_nonneg hy (by omega)
  have h1 : y ≤ y * q := by
    have := Int.mul_le_mul_of_nonneg_left (show (1 : Int) ≤ q by omega) hy
    omega
  have e1 : WU y = y := WU_in (by omega)
  rw [e1]
  have e2 : WU (y * q) = y * q := WU_in (by omega)
  rw [e2]
  subst e
  rw [or_shift hx hy (by have : (2 : Int) ^ 64 = 18446744073709551616 := by decide
                         omega)]
  rw [hs]
  exact WU_in (by omega)
theorem fit_bit (m : Bool) : fitI (bitI m) 1 = true := by cases m <;> rfl
theorem fit_not {n w : Int} (h : (!fitI n w) = true) : fitI n w = false := by simpa using h
theorem fit_yes {n w : Int} (h : (!fitI n w) = false) : fitI n w = true := by simpa using h
def putOk (k x : Int) (m : Bool) (c v : Int) : Bool := fitI k 10 && (fitI x 9 && (fitI c 5 && fitI v 18))
def putV (k x : Int) (m : Bool) (c v : Int) : Int := k + x * 1024 + bitI m * 524288 + c * 1048576 + v * 33554432
def putS : RSpec Ob := fun args h => match args, h with
  | [.agg [.int .i64 k, .int .i64 x, .bool m, .int .i64 c, .int .i64 v]], [] => some (True, .tup [.int .u64 (bif putOk k x m c v then putV k x m c v else 0), .int .i64 (bif putOk k x m c v then 0 else 2)])
  | _, _ => none
set_option maxRecDepth 100000 in
theorem put_ok : Spec.ok E11.I Try.prog 144 putS.spec := by
  intro args h o ho K hK
  unfold RSpec.spec at ho
  split at ho
  case h_2 => cases ho
  rename_i p v hv
  unfold putS at hv
  split at hv
  case h_2 => cases hv
  rename_i k x m c v
  simp only [Option.some.injEq, Prod.mk.injEq] at hv
  obtain ⟨rfl, rfl⟩ := hv
  simp only [Option.some.injEq] at ho; subst ho
  obtain ⟨_, hK⟩ := hK
  refine CallOk.trim (callOk_of (E := E11) Try.checked.mixed (L := LL) (n := 10) (of_nf (q := True ∧ ((0 : Int) ≤ (0 : Int) ∧ (0 : Int) < (↑5 : Int)) ∧ ((0 : Int) ≤ (10 : Int) ∧ (10 : Int) ≤ (62 : Int)) ∧ bif !fitI k 10 then K (AVal.tup [AVal.int .u64 0, AVal.int .i64 2]) [] else (0 : Int) ≤ (0 : Int) ∧ ((0 : Int) ≤ W (0 + 1) ∧ W (0 + 1) < (↑5 : Int)) ∧ ((0 : Int) ≤ (9 : Int) ∧ (9 : Int) ≤ (62 : Int)) ∧ bif !fitI x 9 then K (AVal.tup [AVal.int .u64 0, AVal.int .i64 2]) [] else (0 : Int) ≤ W (0 + 10) ∧ ((0 : Int) ≤ W (W (0 + 1) + 1) ∧ W (W (0 + 1) + 1) < (↑5 : Int)) ∧ ((0 : Int) ≤ (1 : Int) ∧ (1 : Int) ≤ (62 : Int)) ∧ bif !fitI (bitI m) 1 then K (AVal.tup [AVal.int .u64 0, AVal.int .i64 2]) [] else (0 : Int) ≤ W (W (0 + 10) + 9) ∧ ((0 : Int) ≤ W (W (W (0 + 1) + 1) + 1) ∧ W (W (W (0 + 1) + 1) + 1) < (↑5 : Int)) ∧ ((0 : Int) ≤ (5 : Int) ∧ (5 : Int) ≤ (62 : Int)) ∧ bif !fitI c 5 then K (AVal.tup [AVal.int .u64 0, AVal.int .i64 2]) [] else (0 : Int) ≤ W (W (W (0 + 10) + 9) + 1) ∧ ((0 : Int) ≤ W (W (W (W (0 + 1) + 1) + 1) + 1) ∧ W (W (W (W (0 + 1) + 1) + 1) + 1) < (↑5 : Int)) ∧ ((0 : Int) ≤ (18 : Int) ∧ (18 : Int) ≤ (62 : Int)) ∧ bif !fitI v 18 then K (AVal.tup [AVal.int .u64 0, AVal.int .i64 2]) [] else (0 : Int) ≤ W (W (W (W (0 + 10) + 9) + 1) + 5) ∧ K (AVal.tup [AVal.int .u64 (WU (↑(BitVec.toNat (BitVec.ofInt (IntKind.bits .u64) (WU (↑(BitVec.toNat (BitVec.ofInt (IntKind.bits .u64) (WU (↑(BitVec.toNat (BitVec.ofInt (IntKind.bits .u64) (WU (↑(BitVec.toNat (BitVec.ofInt (IntKind.bits .u64) (WU (↑(BitVec.toNat (BitVec.ofInt (IntKind.bits .u64) 0 ||| BitVec.ofInt (IntKind.bits .u64) (WU (WU k * 2 ^ min (Int.toNat 0) (IntKind.bits .u64))))) : Int)) ||| BitVec.ofInt (IntKind.bits .u64) (WU (WU x * 2 ^ min (Int.toNat (W (0 + 10))) (IntKind.bits .u64))))) : Int)) ||| BitVec.ofInt (IntKind.bits .u64) (WU (WU (bitI m) * 2 ^ min (Int.toNat (W (W (0 + 10) + 9))) (IntKind.bits .u64))))) : Int)) ||| BitVec.ofInt (IntKind.bits .u64) (WU (WU c * 2 ^ min (Int.toNat (W (W (W (0 + 10) + 9) + 1))) (IntKind.bits .u64))))) : Int)) ||| BitVec.ofInt (IntKind.bits .u64) (WU (WU v * 2 ^ min (Int.toNat (W (W (W (W (0 + 10) + 9) + 1) + 5))) (IntKind.bits .u64))))) : Int)), AVal.int .i64 0]) []) (by kernel_rfl) ?_))
  simp (disch := omega) only [W, W_in, Int.reduceAdd, Int.zero_add, Int.reduceToNat]
  refine ⟨trivial, ⟨by omega, by omega⟩, by omega, cond_go (fun e => ?_) (fun e1 => ⟨by omega, by omega, by omega, cond_go (fun e => ?_) (fun e2 => ⟨by omega, by omega, by omega, cond_go (fun e => ?_) (fun _ => ⟨by omega, by omega, by omega, cond_go (fun e => ?_) (fun e3 => ⟨by omega, by omega, by omega, cond_go (fun e => ?_) (fun e4 => ⟨by omega, ?_⟩)⟩)⟩)⟩)⟩)⟩
  · unfold putOk at hK
    rw [fit_not e] at hK
    exact hK
  · unfold putOk at hK
    rw [fit_yes e1, fit_not e] at hK
    exact hK
  · rw [fit_bit] at e; cases e
  · unfold putOk at hK
    rw [fit_yes e1, fit_yes e2, fit_not e] at hK
    exact hK
  · unfold putOk at hK
    rw [fit_yes e1, fit_yes e2, fit_yes e3, fit_not e] at hK
    exact hK
  · unfold putOk at hK
    rw [fit_yes e1, fit_yes e2, fit_yes e3, fit_yes e4] at hK
    have f1 := fitI_true.1 (fit_yes e1)
    have f2 := fitI_true.1 (fit_yes e2)
    have f3 := fitI_true.1 (fit_yes e3)
    have f4 := fitI_true.1 (fit_yes e4)
    have fm : 0 ≤ bitI m ∧ bitI m ≤ 1 := by cases m <;> decide
    have hb : IntKind.bits .u64 = 64 := rfl
    have p1 : (2 : Int) ^ (10 : Int).toNat = 1024 := by decide
    have p2 : (2 : Int) ^ (9 : Int).toNat = 512 := by decide
    have p3 : (2 : Int) ^ (5 : Int).toNat = 32 := by decide
    have p4 : (2 : Int) ^ (18 : Int).toNat = 262144 := by decide
    rw [p1] at f1; rw [p2] at f2; rw [p3] at f3; rw [p4] at f4
    refine cast (congrArg (fun z => K (AVal.tup [.int .u64 z, .int .i64 0]) []) ?_) hK
    show putV k x m c v = _
    unfold putV
    symm
    have q0 := or_sh (a := 0) (x := 0) (y := k) (p := 1) (q := 2 ^ min 0 64) (s := k) (by decide) (by omega) (by omega) (by omega) (by omega) (by decide)
    have q1 := or_sh (a := 10) (x := k) (y := x) (p := 1024) (q := 2 ^ min 10 64) (s := k + x * 1024) (by decide) (by omega) (by omega) (by omega) (by omega) (by decide)
    have q2 := or_sh (a := 19) (x := k + x * 1024) (y := bitI m) (p := 524288) (q := 2 ^ min 19 64) (s := k + x * 1024 + bitI m * 524288) (by decide) (by omega) (by omega) (by omega) (by omega) (by decide)
    have q3 := or_sh (a := 20) (x := k + x * 1024 + bitI m * 524288) (y := c) (p := 1048576) (q := 2 ^ min 20 64) (s := k + x * 1024 + bitI m * 524288 + c * 1048576) (by decide) (by omega) (by omega) (by omega) (by omega) (by decide)
    have q4 := or_sh (a := 25) (x := k + x * 1024 + bitI m * 524288 + c * 1048576) (y := v) (p := 33554432) (q := 2 ^ min 25 64) (s := k + x * 1024 + bitI m * 524288 + c * 1048576 + v * 33554432) (by decide) (by omega) (by omega) (by omega) (by omega) (by decide)
    rw [hb]
    rw [WU] at q0 q1 q2 q3 q4
    simp only [WU] at q0 q1 q2 q3 q4 ⊢
    rw [q0, q1, q2, q3, q4]
noncomputable def E12 := (E11.addR 145 getS get_ok).addR 144 putS put_ok
end Go.Sh

/- A number in a list; a world's memory. -/
namespace Go.Sh
open Go Go.Proofs
variable [Con]
def HD (xs : List Int) (n : Int) : Hint Ob := { X := Nat, st := fun i => ([.slice 0 0 xs.length 1, .int .i64 n, .top, .top, .top, .int .i64 (i : Int)] ++ List.replicate 12 .top, [some (.ints (some .i64) xs)]), ok := okC xs n, mu := fun i => xs.length - i, keep := [0, 1, 5] }
theorem hasR0_ok : Spec.ok E12.I Try.prog 25 hasS0 := by
  intro args h o ho K hK
  unfold hasS0 at ho
  split at ho
  case h_2 => cases ho
  rename_i k n xs
  simp only [Option.some.injEq] at ho; subst ho
  obtain ⟨⟨rfl, hp⟩, hK⟩ := hK
  have hK : K (.bool (hasB xs n)) [some (.ints (some .i64) xs)] := hK
  refine (callOk_of (E := E12) Try.checked.mixed (L := fun _ _ => some (.states (HD xs n))) (n := 10) (of_nf (q := okSt (HD xs n) (Hint.ok (HD xs n)) [AVal.slice 0 0 (List.length xs) 1, AVal.int .i64 n, AVal.top, AVal.top, AVal.top, AVal.int .i64 0, AVal.top, AVal.top, AVal.top, AVal.top, AVal.top, AVal.top, AVal.top, AVal.top, AVal.top, AVal.top, AVal.top, AVal.top] [some (Entry.ints (some .i64) xs)] ∧ ∀ (x : Nat), okC xs n x → bif ilt (↑x : Int) (↑(List.length xs) : Int) then ((0 : Int) ≤ (↑x : Int) ∧ (↑x : Int) < (↑(List.length xs) : Int)) ∧ 0 + Int.toNat (↑x : Int) * (1 : Nat) < List.length xs ∧ bif ieq (List.getD xs (0 + Int.toNat (↑x : Int) * 1) 0) n then K (AVal.bool true) [some (Entry.ints (some .i64) xs)] else okSt (HD xs n) (fun x' => Hint.ok (HD xs n) x' ∧ Hint.mu (HD xs n) x' < Hint.mu (HD xs n) x) [AVal.slice 0 0 (List.length xs) 1, AVal.int .i64 n, AVal.top, AVal.top, AVal.top, AVal.int .i64 (W ((↑x : Int) + 1)), AVal.top, AVal.top, AVal.top, AVal.top, AVal.top, AVal.top, AVal.top, AVal.top, AVal.top, AVal.top, AVal.top, AVal.top] [some (Entry.ints (some .i64) xs)] else K (AVal.bool false) [some (Entry.ints (some .i64) xs)]) (by kernel_rfl) ?_))
  have hS : hasB xs n = decide (n ∈ xs) := rfl
  refine ⟨okSt_intro (H := HD xs n) (0 : Nat) rfl ⟨Nat.zero_le _, by simp⟩, ?_⟩
  rintro i ⟨h1, h2⟩
  refine cond_go (fun e1 => ?_) (fun e1 => ?_)
  · rw [ilt_eq, decide_eq_true_eq] at e1
    have hi : i < xs.length := by omega
    have e2 : 0 + (i : Int).toNat * 1 = i := by omega
    rw [e2]
    have e4 : IntKind.wrap .i64 ((i : Int) + 1) = ((i + 1 : Nat) : Int) := by rw [W_in (by omega)]; rfl
    have hg : xs.getD i 0 = xs[i] := by rw [List.getD_eq_getElem?_getD, List.getElem?_eq_getElem hi]; rfl
    refine ⟨by omega, hi, cond_go (fun e3 => ?_) (fun e3 => ?_)⟩
    · rw [ieq_eq, hg] at e3
      have e3 : xs[i] = n := by simpa using e3
      have hm : n ∈ xs := by rw [← e3]; exact List.getElem_mem hi
      rw [hS, decide_eq_true hm] at hK
      exact hK
    · rw [ieq_eq, hg] at e3
      have e3 : ¬ xs[i] = n := by simpa using e3
      refine okSt_intro (H := HD xs n) (i + 1 : Nat) (by simp only [W, e4]; rfl) ⟨⟨hi, ?_⟩, by show xs.length - (i + 1) < xs.length - i; omega⟩
      rw [List.take_succ_eq_append_getElem hi]
      intro hm
      rcases List.mem_append.1 hm with h | h
      · exact h2 h
      · simp at h; omega
  · rw [ilt_eq, decide_eq_false_iff_not] at e1
    rw [List.take_of_length_le (by omega)] at h2
    rw [hS, decide_eq_false h2] at hK
    exact hK
theorem hasR_ok : Spec.ok E12.I Try.prog 25 hasS.spec := by
  intro args h o ho
  unfold RSpec.spec at ho
  split at ho
  case h_2 => cases ho
  rename_i p v hv
  unfold hasS at hv
  split at hv
  case h_2 => cases hv
  simp only [Option.some.injEq, Prod.mk.injEq] at hv
  obtain ⟨rfl, rfl⟩ := hv
  exact hasR0_ok _ _ o ho
noncomputable def E13a := E12.addR 25 hasS hasR_ok

/- OPQ -/
def thr (t : Int) : Int := 1 + Int.tmod t 4
/- OPQ -/
def nod (n : Int) : Int := 1 + Int.tmod n 12
theorem thr_in {t : Int} (h : 0 ≤ t ∧ t ≤ 255) : 1 ≤ thr t ∧ thr t ≤ 4 := by unfold thr; rw [Int.tmod_eq_emod_of_nonneg h.1]; omega
theorem nod_in {t : Int} (h : 0 ≤ t ∧ t ≤ 255) : 1 ≤ nod t ∧ nod t ≤ 12 := by unfold nod; rw [Int.tmod_eq_emod_of_nonneg h.1]; omega
/- OPQ -/
def memW (t n : Int) (xs : List Int) : List Int := overI (List.replicate (2 * n + 5 * t + 6).toNat 0) 0 (xs.take (2 * n + 5 * t + 6).toNat)
theorem memW_length (t n : Int) (xs : List Int) : (memW t n xs).length = (2 * n + 5 * t + 6).toNat := by
  unfold memW overI; simp; omega
theorem W_id {x : Int} (h : -9223372036854775808 ≤ x ∧ x ≤ 9223372036854775807) : W x = x := W_in h
def memoryS : Spec Ob := fun args h => match args, h with
  | [.agg [.int .u8 t, .int .u8 n, .iview (some .u64) xs]], [] => some (.pre ((0 ≤ t ∧ t ≤ 255) ∧ (0 ≤ n ∧ n ≤ 255)) (.ret (.tup [.ptr 0 0, .agg [.int .i64 (thr t), .int .i64 (nod n)], .agg [.int .i64 (thr t), .int .i64 (nod n)]]) (memH ⟨thr t, nod n, memW (thr t) (nod n) xs, 0, 0, 0, 0, 0, false⟩)))
  | _, _ => none
theorem memory_ok : Spec.ok E13a.I Try.prog 16 memoryS := by
  intro args h o ho K hK
  unfold memoryS at ho
  split at ho
  case h_2 => cases ho
  rename_i t n xs
  simp only [Option.some.injEq] at ho; subst ho
  obtain ⟨⟨ht, hn⟩, hK⟩ := hK
  have hK : K (.tup [.ptr 0 0, .agg [.int .i64 (thr t), .int .i64 (nod n)], .agg [.int .i64 (thr t), .int .i64 (nod n)]]) (memH ⟨thr t, nod n, memW (thr t) (nod n) xs, 0, 0, 0, 0, 0, false⟩) := hK
  refine CallOk.trim (callOk_of (E := E13a) Try.checked.mixed (L := LL) (n := 10) (of_nf (q := (4 : Int) ≠ (0 : Int) ∧ (12 : Int) ≠ (0 : Int) ∧ bif ilt (W (W (W (2 * W (1 + Int.tmod (W n) 12)) + W (5 * W (1 + Int.tmod (W t) 4))) + 6)) (↑(List.length xs) : Int) then ((0 : Int) ≤ W (W (W (2 * W (1 + Int.tmod (W n) 12)) + W (5 * W (1 + Int.tmod (W t) 4))) + 6) ∧ Int.toNat (W (W (W (2 * W (1 + Int.tmod (W n) 12)) + W (5 * W (1 + Int.tmod (W t) 4))) + 6)) ≤ List.length xs) ∧ True ∧ bif !rightB (W (1 + Int.tmod (W t) 4)) (W (1 + Int.tmod (W n) 12)) then K (AVal.tup [AVal.raw (Value.pointer none), AVal.agg [AVal.int .i64 (W (1 + Int.tmod (W t) 4)), AVal.int .i64 (W (1 + Int.tmod (W n) 12))], AVal.agg [AVal.int .i64 0, AVal.int .i64 0]]) [] else (((0 : Int) ≤ W (1 + Int.tmod (W t) 4) ∧ W (1 + Int.tmod (W t) 4) ≤ (100000 : Int)) ∧ (0 : Int) ≤ W (1 + Int.tmod (W n) 12) ∧ W (1 + Int.tmod (W n) 12) ≤ (100000 : Int)) ∧ bif ilt (2 * W (1 + Int.tmod (W n) 12) + 5 * W (1 + Int.tmod (W t) 4) + 6) (↑(List.length (List.take (Int.toNat (W (W (W (2 * W (1 + Int.tmod (W n) 12)) + W (5 * W (1 + Int.tmod (W t) 4))) + 6))) xs)) : Int) then K (AVal.tup [AVal.raw (Value.pointer none), AVal.agg [AVal.int .i64 (W (1 + Int.tmod (W t) 4)), AVal.int .i64 (W (1 + Int.tmod (W n) 12))], AVal.agg [AVal.int .i64 0, AVal.int .i64 0]]) [] else ((((0 : Int) ≤ W (1 + Int.tmod (W t) 4) ∧ W (1 + Int.tmod (W t) 4) ≤ (100000 : Int)) ∧ (0 : Int) ≤ W (1 + Int.tmod (W n) 12) ∧ W (1 + Int.tmod (W n) 12) ≤ (100000 : Int)) ∧ True) ∧ ((0 : Int) ≤ (2 : Int) * W (1 + Int.tmod (W n) 12) + 5 * W (1 + Int.tmod (W t) 4) + 6 ∧ 2 * W (1 + Int.tmod (W n) 12) + 5 * W (1 + Int.tmod (W t) 4) + (6 : Int) = (2 : Int) * W (1 + Int.tmod (W n) 12) + 5 * W (1 + Int.tmod (W t) 4) + 6 ∧ 2 * W (1 + Int.tmod (W n) 12) + 5 * W (1 + Int.tmod (W t) 4) + (6 : Int) ≤ (4294967296 : Int)) ∧ 0 + Int.toNat (2 * W (1 + Int.tmod (W n) 12) + 5 * W (1 + Int.tmod (W t) 4) + 6) ≤ List.length (List.replicate (Int.toNat (2 * W (1 + Int.tmod (W n) 12) + 5 * W (1 + Int.tmod (W t) 4) + 6)) (0 : Int)) ∧ K (AVal.tup [AVal.ptr 0 0, AVal.agg [AVal.int .i64 (W (1 + Int.tmod (W t) 4)), AVal.int .i64 (W (1 + Int.tmod (W n) 12))], AVal.agg [AVal.int .i64 (W (1 + Int.tmod (W t) 4)), AVal.int .i64 (W (1 + Int.tmod (W n) 12))]]) [some (Entry.cells [AVal.int .i64 (W (1 + Int.tmod (W t) 4)), AVal.int .i64 (W (1 + Int.tmod (W n) 12)), AVal.slice 1 0 (Int.toNat (2 * W (1 + Int.tmod (W n) 12) + 5 * W (1 + Int.tmod (W t) 4) + 6)) 1, AVal.int .i64 0, AVal.int .i64 0, AVal.int .i64 0, AVal.int .u64 0, AVal.int .u64 0, AVal.bool false]), some (Entry.ints (some .u64) (overI (List.replicate (Int.toNat (2 * W (1 + Int.tmod (W n) 12) + 5 * W (1 + Int.tmod (W t) 4) + 6)) (0 : Int)) 0 (List.take (min (List.length (List.take (Int.toNat (W (W (W (2 * W (1 + Int.tmod (W n) 12)) + W (5 * W (1 + Int.tmod (W t) 4))) + 6))) xs)) (Int.toNat (2 * W (1 + Int.tmod (W n) 12) + 5 * W (1 + Int.tmod (W t) 4) + 6))) (List.take (Int.toNat (W (W (W (2 * W (1 + Int.tmod (W n) 12)) + W (5 * W (1 + Int.tmod (W t) 4))) + 6))) xs))))] else True ∧ bif !rightB (W (1 + Int.tmod (W t) 4)) (W (1 + Int.tmod (W n) 12)) then K (AVal.tup [AVal.raw (Value.pointer none), AVal.agg [AVal.int .i64 (W (1 + Int.tmod (W t) 4)), AVal.int .i64 (W (1 + Int.tmod (W n) 12))], AVal.agg [AVal.int .i64 0, AVal.int .i64 0]]) [] else (((0 : Int) ≤ W (1 + Int.tmod (W t) 4) ∧ W (1 + Int.tmod (W t) 4) ≤ (100000 : Int)) ∧ (0 : Int) ≤ W (1 + Int.tmod (W n) 12) ∧ W (1 + Int.tmod (W n) 12) ≤ (100000 : Int)) ∧ bif ilt (2 * W (1 + Int.tmod (W n) 12) + 5 * W (1 + Int.tmod (W t) 4) + 6) (↑(List.length xs) : Int) then K (AVal.tup [AVal.raw (Value.pointer none), AVal.agg [AVal.int .i64 (W (1 + Int.tmod (W t) 4)), AVal.int .i64 (W (1 + Int.tmod (W n) 12))], AVal.agg [AVal.int .i64 0, AVal.int .i64 0]]) [] else ((((0 : Int) ≤ W (1 + Int.tmod (W t) 4) ∧ W (1 + Int.tmod (W t) 4) ≤ (100000 : Int)) ∧ (0 : Int) ≤ W (1 + Int.tmod (W n) 12) ∧ W (1 + Int.tmod (W n) 12) ≤ (100000 : Int)) ∧ True) ∧ ((0 : Int) ≤ (2 : Int) * W (1 + Int.tmod (W n) 12) + 5 * W (1 + Int.tmod (W t) 4) + 6 ∧ 2 * W (1 + Int.tmod (W n) 12) + 5 * W (1 + Int.tmod (W t) 4) + (6 : Int) = (2 : Int) * W (1 + Int.tmod (W n) 12) + 5 * W (1 + Int.tmod (W t) 4) + 6 ∧ 2 * W (1 + Int.tmod (W n) 12) + 5 * W (1 + Int.tmod (W t) 4) + (6 : Int) ≤ (4294967296 : Int)) ∧ 0 + Int.toNat (2 * W (1 + Int.tmod (W n) 12) + 5 * W (1 + Int.tmod (W t) 4) + 6) ≤ List.length (List.replicate (Int.toNat (2 * W (1 + Int.tmod (W n) 12) + 5 * W (1 + Int.tmod (W t) 4) + 6)) (0 : Int)) ∧ K (AVal.tup [AVal.ptr 0 0, AVal.agg [AVal.int .i64 (W (1 + Int.tmod (W t) 4)), AVal.int .i64 (W (1 + Int.tmod (W n) 12))], AVal.agg [AVal.int .i64 (W (1 + Int.tmod (W t) 4)), AVal.int .i64 (W (1 + Int.tmod (W n) 12))]]) [some (Entry.cells [AVal.int .i64 (W (1 + Int.tmod (W t) 4)), AVal.int .i64 (W (1 + Int.tmod (W n) 12)), AVal.slice 1 0 (Int.toNat (2 * W (1 + Int.tmod (W n) 12) + 5 * W (1 + Int.tmod (W t) 4) + 6)) 1, AVal.int .i64 0, AVal.int .i64 0, AVal.int .i64 0, AVal.int .u64 0, AVal.int .u64 0, AVal.bool false]), some (Entry.ints (some .u64) (overI (List.replicate (Int.toNat (2 * W (1 + Int.tmod (W n) 12) + 5 * W (1 + Int.tmod (W t) 4) + 6)) (0 : Int)) 0 (List.take (min (List.length xs) (Int.toNat (2 * W (1 + Int.tmod (W n) 12) + 5 * W (1 + Int.tmod (W t) 4) + 6))) xs)))]) (by kernel_rfl) ?_))
  have e1 : W t = t := W_id (by omega)
  have e2 : W n = n := W_id (by omega)
  have h1 := thr_in ht
  have h2 := nod_in hn
  have e3 : W (1 + Int.tmod t 4) = thr t := W_id (by show _ ≤ thr t ∧ thr t ≤ _; omega)
  have e4 : W (1 + Int.tmod n 12) = nod n := W_id (by show _ ≤ nod n ∧ nod n ≤ _; omega)
  rw [e1, e2, e3, e4]
  have e5 : W (W (W (2 * nod n) + W (5 * thr t)) + 6) = 2 * nod n + 5 * thr t + 6 := by
    simp (disch := omega) only [W, W_in]
  rw [e5, rightB_true.2 (by omega)]
  unfold memH at hK
  have hl := memW_length (thr t) (nod n) xs
  simp only [hl] at hK
  have hz : (List.replicate (2 * nod n + 5 * thr t + 6).toNat (0 : Int)).length = (2 * nod n + 5 * thr t + 6).toNat := List.length_replicate
  refine ⟨by omega, by omega, cond_go (fun e => ⟨by rw [ilt_eq, decide_eq_true_eq] at e; omega, trivial, cond_go (fun e => by cases e) (fun _ => ⟨by omega, cond_go (fun e6 => ?_) (fun _ => ⟨⟨by omega, trivial⟩, by omega, by rw [List.length_replicate]; omega, ?_⟩)⟩)⟩) (fun e => ⟨trivial, cond_go (fun e => by cases e) (fun _ => ⟨by omega, cond_go (fun e6 => ?_) (fun _ => ⟨⟨by omega, trivial⟩, by omega, by rw [List.length_replicate]; omega, ?_⟩)⟩)⟩)⟩
  · rw [ilt_eq, decide_eq_true_eq, List.length_take] at e6; omega
  · rw [ilt_eq, decide_eq_true_eq] at e
    have e7 : min (List.take (2 * nod n + 5 * thr t + 6).toNat xs).length (2 * nod n + 5 * thr t + 6).toNat = (2 * nod n + 5 * thr t + 6).toNat := by rw [List.length_take]; omega
    rw [e7, List.take_take, Nat.min_self]
    exact hK
  · rw [e6] at e; cases e
  · rw [ilt_eq, decide_eq_false_iff_not] at e
    have e7 : List.take (min xs.length (2 * nod n + 5 * thr t + 6).toNat) xs = List.take (2 * nod n + 5 * thr t + 6).toNat xs := by
      rw [Nat.min_eq_left (by omega), List.take_of_length_le (Nat.le_refl _), List.take_of_length_le (by omega)]
    rw [e7]
    exact hK
noncomputable def E13 := E13a.addS 16 memoryS memory_ok
end Go.Sh

/- A store over a layout, and the document's. -/
namespace Go.Sh
open Go Go.Proofs
variable [Con]
/- OPQ -/
def nodeK (n v : Int) : Int := 1 + Int.tmod v n
def mkStep (n sp : Int) (R : List Int) (v : Int) : List Int := bif ieq (nodeK n v) sp then R else bif hasB R (nodeK n v) then R else R ++ [nodeK n v]
/- OPQ -/
def mkL (n sp : Int) (ns : List Int) : List Int := ns.foldl (mkStep n sp) []
theorem mkStep_len (n sp : Int) (R : List Int) (v : Int) : (mkStep n sp R v).length ≤ R.length + 1 := by
  unfold mkStep
  cases ieq (nodeK n v) sp <;> cases hasB R (nodeK n v) <;> simp
theorem mkL_snoc (n sp : Int) (ns : List Int) (v : Int) : mkL n sp (ns ++ [v]) = mkStep n sp (mkL n sp ns) v := by
  unfold mkL; simp [List.foldl_append]
structure okM (n sp : Int) (ns : List Int) (x : Nat × List Int) : Prop where
  h1 : x.1 ≤ ns.length
  h2 : x.2.length ≤ x.1
  h3 : x.2 = mkL n sp (ns.take x.1)
def HM (t n me sp me' sp' : Int) (ns : List Int) : Hint Ob := { X := Nat × List Int, st := fun x => ([.top, .top, .ptr 0 0, .ptr 1 0, .top, .top, .ptr 2 0, .ptr 4 0] ++ List.replicate 32 .top ++ [.iview (some .u8) ns, .int .i64 (ns.length : Int), .int .i64 (x.1 : Int)] ++ List.replicate 41 .top, [some (.cells [.int .u8 me, .int .u8 sp, .iview (some .u8) ns]), some (.cells [.int .i64 t, .int .i64 n]), some (.cells [.int .i64 t, .int .i64 n, .int .i64 me', .int .i64 sp', .slice 3 0 x.2.length 1]), some (.ints (some .i64) x.2), some (.cells [.int .i64 me', .int .i64 sp', .slice 5 0 x.2.length 1]), some (.ints (some .i64) x.2)]), ok := okM n sp' ns, mu := fun x => ns.length - x.1, keep := [2, 3, 6, 7, 40, 41, 42], casts := [(.cell 2 4, .ints (some .i64)), (.cell 3 2, .ints (some .i64)), (.cell 4 2, .ints (some .i64))] }
def makeS : Spec Ob := fun args h => match args, h with
  | [.agg [.int .u8 me, .int .u8 sp, .iview (some .u8) ns], .agg [.int .i64 t, .int .i64 n]], [] => some (.pre (((0 ≤ me ∧ me ≤ 255) ∧ (0 ≤ sp ∧ sp ≤ 255) ∧ (1 ≤ t ∧ t ≤ 1000) ∧ (1 ≤ n ∧ n ≤ 1000) ∧ ns.length ≤ 100000) ∧ ∀ v ∈ ns, 0 ≤ v ∧ v ≤ 255) (.ret (.tup [.ptr 0 0, .ptr 2 0]) [some (.cells [.int .i64 t, .int .i64 n, .int .i64 (Int.tmod me t), .int .i64 (Int.tmod sp (n + 1)), .slice 1 0 (mkL n (Int.tmod sp (n + 1)) ns).length 1]), some (.ints (some .i64) (mkL n (Int.tmod sp (n + 1)) ns)), some (.cells [.int .i64 (Int.tmod me t), .int .i64 (Int.tmod sp (n + 1)), .slice 3 0 (mkL n (Int.tmod sp (n + 1)) ns).length 1]), some (.ints (some .i64) (mkL n (Int.tmod sp (n + 1)) ns))]))
  | _, _ => none
theorem tmod_in {x t : Int} (h : 0 ≤ x) (ht : 1 ≤ t) : 0 ≤ Int.tmod x t ∧ Int.tmod x t < t := by
  rw [Int.tmod_eq_emod_of_nonneg h]
  exact ⟨Int.emod_nonneg _ (by omega), Int.emod_lt_of_pos _ (by omega)⟩
theorem make_ok : Spec.ok E13.I Try.prog 17 makeS := by
  intro args h o ho K hK
  unfold makeS at ho
  split at ho
  case h_2 => cases ho
  rename_i me sp ns t n
  simp only [Option.some.injEq] at ho; subst ho
  obtain ⟨⟨⟨hme, hsp, ht, hn, hl⟩, hv⟩, hK⟩ := hK
  refine CallOk.trim (callOk_of (E := E13) Try.checked.mixed (L := fun _ _ => some (.states (HM t n me sp (Int.tmod (W me) t) (Int.tmod (W sp) (W (n + 1))) ns))) (n := 10) (of_nf (q := t ≠ (0 : Int) ∧ W (n + 1) ≠ (0 : Int) ∧ okSt (HM t n me sp (Int.tmod (W me) t) (Int.tmod (W sp) (W (n + 1))) ns) (Hint.ok (HM t n me sp (Int.tmod (W me) t) (Int.tmod (W sp) (W (n + 1))) ns)) [AVal.top, AVal.top, AVal.ptr 0 0, AVal.ptr 1 0, AVal.top, AVal.top, AVal.ptr 2 0, AVal.ptr 4 0, AVal.top, AVal.top, AVal.top, AVal.top, AVal.top, AVal.top, AVal.top, AVal.top, AVal.top, AVal.top, AVal.top, AVal.top, AVal.top, AVal.top, AVal.top, AVal.top, AVal.top, AVal.top, AVal.top, AVal.top, AVal.top, AVal.top, AVal.top, AVal.top, AVal.top, AVal.top, AVal.top, AVal.top, AVal.top, AVal.top, AVal.top, AVal.top, AVal.iview (some .u8) ns, AVal.int .i64 (↑(List.length ns) : Int), AVal.int .i64 0, AVal.top, AVal.top, AVal.top, AVal.top, AVal.top, AVal.top, AVal.top, AVal.top, AVal.top, AVal.top, AVal.top, AVal.top, AVal.top, AVal.top, AVal.top, AVal.top, AVal.top, AVal.top, AVal.top, AVal.top, AVal.top, AVal.top, AVal.top, AVal.top, AVal.top, AVal.top, AVal.top, AVal.top, AVal.top, AVal.top, AVal.top, AVal.top, AVal.top, AVal.top, AVal.top, AVal.top, AVal.top, AVal.top, AVal.top, AVal.top, AVal.top] [some (Entry.cells [AVal.int .u8 me, AVal.int .u8 sp, AVal.iview (some .u8) ns]), some (Entry.cells [AVal.int .i64 t, AVal.int .i64 n]), some (Entry.cells [AVal.int .i64 t, AVal.int .i64 n, AVal.int .i64 (Int.tmod (W me) t), AVal.int .i64 (Int.tmod (W sp) (W (n + 1))), AVal.slice 3 0 0 1]), some (Entry.ints (some .i64) []), some (Entry.cells [AVal.int .i64 (Int.tmod (W me) t), AVal.int .i64 (Int.tmod (W sp) (W (n + 1))), AVal.slice 5 0 0 1]), some (Entry.ints (some .i64) [])] ∧ ∀ (x : (Nat × List Int)), okM n (Int.tmod (W sp) (W (n + 1))) ns x → bif ilt (↑x.1 : Int) (↑(List.length ns) : Int) then ((0 : Int) ≤ (↑x.1 : Int) ∧ (↑x.1 : Int) < (↑(List.length ns) : Int)) ∧ n ≠ (0 : Int) ∧ bif !ieq (W (1 + Int.tmod (W (List.getD ns (Int.toNat (↑x.1 : Int)) 0)) n)) (Int.tmod (W sp) (W (n + 1))) then (List.length x.2 = List.length x.2 ∧ List.length x.2 ≤ (4294967296 : Nat)) ∧ bif !hasB x.2 (W (1 + Int.tmod (W (List.getD ns (Int.toNat (↑x.1 : Int)) 0)) n)) then (0 = 0 ∧ List.length x.2 = List.length x.2 ∧ 1 = 1 ∧ List.length x.2 + (1 : Nat) ≤ (4294967296 : Nat)) ∧ (0 = 0 ∧ List.length x.2 = List.length x.2 ∧ 1 = 1 ∧ List.length x.2 + (1 : Nat) ≤ (4294967296 : Nat)) ∧ okSt (HM t n me sp (Int.tmod (W me) t) (Int.tmod (W sp) (W (n + 1))) ns) (fun x' => Hint.ok (HM t n me sp (Int.tmod (W me) t) (Int.tmod (W sp) (W (n + 1))) ns) x' ∧ Hint.mu (HM t n me sp (Int.tmod (W me) t) (Int.tmod (W sp) (W (n + 1))) ns) x' < Hint.mu (HM t n me sp (Int.tmod (W me) t) (Int.tmod (W sp) (W (n + 1))) ns) x) [AVal.top, AVal.top, AVal.ptr 0 0, AVal.ptr 1 0, AVal.top, AVal.top, AVal.ptr 2 0, AVal.ptr 4 0, AVal.top, AVal.top, AVal.top, AVal.top, AVal.top, AVal.top, AVal.top, AVal.top, AVal.top, AVal.top, AVal.top, AVal.top, AVal.top, AVal.top, AVal.top, AVal.top, AVal.top, AVal.top, AVal.top, AVal.top, AVal.top, AVal.top, AVal.top, AVal.top, AVal.top, AVal.top, AVal.top, AVal.top, AVal.top, AVal.top, AVal.top, AVal.top, AVal.iview (some .u8) ns, AVal.int .i64 (↑(List.length ns) : Int), AVal.int .i64 (W ((↑x.1 : Int) + 1)), AVal.top, AVal.top, AVal.top, AVal.top, AVal.top, AVal.top, AVal.top, AVal.top, AVal.top, AVal.top, AVal.top, AVal.top, AVal.top, AVal.top, AVal.top, AVal.top, AVal.top, AVal.top, AVal.top, AVal.top, AVal.top, AVal.top, AVal.top, AVal.top, AVal.top, AVal.top, AVal.top, AVal.top, AVal.top, AVal.top, AVal.top, AVal.top, AVal.top, AVal.top, AVal.top, AVal.top, AVal.top, AVal.top, AVal.top, AVal.top, AVal.top] [some (Entry.cells [AVal.int .u8 me, AVal.int .u8 sp, AVal.iview (some .u8) ns]), some (Entry.cells [AVal.int .i64 t, AVal.int .i64 n]), some (Entry.cells [AVal.int .i64 t, AVal.int .i64 n, AVal.int .i64 (Int.tmod (W me) t), AVal.int .i64 (Int.tmod (W sp) (W (n + 1))), AVal.slice 3 0 (List.length x.2 + 1) 1]), some (Entry.ints (some .i64) (x.2 ++ [W (1 + Int.tmod (W (List.getD ns (Int.toNat (↑x.1 : Int)) 0)) n)])), some (Entry.cells [AVal.int .i64 (Int.tmod (W me) t), AVal.int .i64 (Int.tmod (W sp) (W (n + 1))), AVal.slice 5 0 (List.length x.2 + 1) 1]), some (Entry.ints (some .i64) (x.2 ++ [W (1 + Int.tmod (W (List.getD ns (Int.toNat (↑x.1 : Int)) 0)) n)]))] else okSt (HM t n me sp (Int.tmod (W me) t) (Int.tmod (W sp) (W (n + 1))) ns) (fun x' => Hint.ok (HM t n me sp (Int.tmod (W me) t) (Int.tmod (W sp) (W (n + 1))) ns) x' ∧ Hint.mu (HM t n me sp (Int.tmod (W me) t) (Int.tmod (W sp) (W (n + 1))) ns) x' < Hint.mu (HM t n me sp (Int.tmod (W me) t) (Int.tmod (W sp) (W (n + 1))) ns) x) [AVal.top, AVal.top, AVal.ptr 0 0, AVal.ptr 1 0, AVal.top, AVal.top, AVal.ptr 2 0, AVal.ptr 4 0, AVal.top, AVal.top, AVal.top, AVal.top, AVal.top, AVal.top, AVal.top, AVal.top, AVal.top, AVal.top, AVal.top, AVal.top, AVal.top, AVal.top, AVal.top, AVal.top, AVal.top, AVal.top, AVal.top, AVal.top, AVal.top, AVal.top, AVal.top, AVal.top, AVal.top, AVal.top, AVal.top, AVal.top, AVal.top, AVal.top, AVal.top, AVal.top, AVal.iview (some .u8) ns, AVal.int .i64 (↑(List.length ns) : Int), AVal.int .i64 (W ((↑x.1 : Int) + 1)), AVal.top, AVal.top, AVal.top, AVal.top, AVal.top, AVal.top, AVal.top, AVal.top, AVal.top, AVal.top, AVal.top, AVal.top, AVal.top, AVal.top, AVal.top, AVal.top, AVal.top, AVal.top, AVal.top, AVal.top, AVal.top, AVal.top, AVal.top, AVal.top, AVal.top, AVal.top, AVal.top, AVal.top, AVal.top, AVal.top, AVal.top, AVal.top, AVal.top, AVal.top, AVal.top, AVal.top, AVal.top, AVal.top, AVal.top, AVal.top, AVal.top] [some (Entry.cells [AVal.int .u8 me, AVal.int .u8 sp, AVal.iview (some .u8) ns]), some (Entry.cells [AVal.int .i64 t, AVal.int .i64 n]), some (Entry.cells [AVal.int .i64 t, AVal.int .i64 n, AVal.int .i64 (Int.tmod (W me) t), AVal.int .i64 (Int.tmod (W sp) (W (n + 1))), AVal.slice 3 0 (List.length x.2) 1]), some (Entry.ints (some .i64) x.2), some (Entry.cells [AVal.int .i64 (Int.tmod (W me) t), AVal.int .i64 (Int.tmod (W sp) (W (n + 1))), AVal.slice 5 0 (List.length x.2) 1]), some (Entry.ints (some .i64) x.2)] else okSt (HM t n me sp (Int.tmod (W me) t) (Int.tmod (W sp) (W (n + 1))) ns) (fun x' => Hint.ok (HM t n me sp (Int.tmod (W me) t) (Int.tmod (W sp) (W (n + 1))) ns) x' ∧ Hint.mu (HM t n me sp (Int.tmod (W me) t) (Int.tmod (W sp) (W (n + 1))) ns) x' < Hint.mu (HM t n me sp (Int.tmod (W me) t) (Int.tmod (W sp) (W (n + 1))) ns) x) [AVal.top, AVal.top, AVal.ptr 0 0, AVal.ptr 1 0, AVal.top, AVal.top, AVal.ptr 2 0, AVal.ptr 4 0, AVal.top, AVal.top, AVal.top, AVal.top, AVal.top, AVal.top, AVal.top, AVal.top, AVal.top, AVal.top, AVal.top, AVal.top, AVal.top, AVal.top, AVal.top, AVal.top, AVal.top, AVal.top, AVal.top, AVal.top, AVal.top, AVal.top, AVal.top, AVal.top, AVal.top, AVal.top, AVal.top, AVal.top, AVal.top, AVal.top, AVal.top, AVal.top, AVal.iview (some .u8) ns, AVal.int .i64 (↑(List.length ns) : Int), AVal.int .i64 (W ((↑x.1 : Int) + 1)), AVal.top, AVal.top, AVal.top, AVal.top, AVal.top, AVal.top, AVal.top, AVal.top, AVal.top, AVal.top, AVal.top, AVal.top, AVal.top, AVal.top, AVal.top, AVal.top, AVal.top, AVal.top, AVal.top, AVal.top, AVal.top, AVal.top, AVal.top, AVal.top, AVal.top, AVal.top, AVal.top, AVal.top, AVal.top, AVal.top, AVal.top, AVal.top, AVal.top, AVal.top, AVal.top, AVal.top, AVal.top, AVal.top, AVal.top, AVal.top, AVal.top] [some (Entry.cells [AVal.int .u8 me, AVal.int .u8 sp, AVal.iview (some .u8) ns]), some (Entry.cells [AVal.int .i64 t, AVal.int .i64 n]), some (Entry.cells [AVal.int .i64 t, AVal.int .i64 n, AVal.int .i64 (Int.tmod (W me) t), AVal.int .i64 (Int.tmod (W sp) (W (n + 1))), AVal.slice 3 0 (List.length x.2) 1]), some (Entry.ints (some .i64) x.2), some (Entry.cells [AVal.int .i64 (Int.tmod (W me) t), AVal.int .i64 (Int.tmod (W sp) (W (n + 1))), AVal.slice 5 0 (List.length x.2) 1]), some (Entry.ints (some .i64) x.2)] else K (AVal.tup [AVal.ptr 0 0, AVal.ptr 2 0]) [some (Entry.cells [AVal.int .i64 t, AVal.int .i64 n, AVal.int .i64 (Int.tmod (W me) t), AVal.int .i64 (Int.tmod (W sp) (W (n + 1))), AVal.slice 1 0 (List.length x.2) 1]), some (Entry.ints (some .i64) x.2), some (Entry.cells [AVal.int .i64 (Int.tmod (W me) t), AVal.int .i64 (Int.tmod (W sp) (W (n + 1))), AVal.slice 3 0 (List.length x.2) 1]), some (Entry.ints (some .i64) x.2)]) (by kernel_rfl) ?_))
  have e1 : W me = me := W_id (by omega)
  have e2 : W sp = sp := W_id (by omega)
  have e3 : W (n + 1) = n + 1 := W_id (by omega)
  rw [e1, e2, e3]
  generalize Int.tmod sp (n + 1) = sp' at hK ⊢
  generalize Int.tmod me t = me' at hK ⊢
  refine ⟨by omega, by omega, okSt_intro (H := HM t n me sp me' sp' ns) ((0 : Nat), ([] : List Int)) rfl ⟨Nat.zero_le _, Nat.le_refl _, rfl⟩, ?_⟩
  rintro ⟨i, R⟩ ⟨h1, h2, h3⟩
  dsimp only at h1 h2 h3 ⊢
  refine cond_go (fun e => ?_) (fun e => ?_)
  · rw [ilt_eq, decide_eq_true_eq] at e
    have hi : i < ns.length := by omega
    have hg : ns.getD (i : Int).toNat 0 = ns[i] := by rw [Int.toNat_natCast, List.getD_eq_getElem?_getD, List.getElem?_eq_getElem hi]; rfl
    have hvi := hv ns[i] (List.getElem_mem hi)
    have hm := tmod_in (x := ns[i]) (t := n) (by omega) (by omega)
    have e4 : W ns[i] = ns[i] := W_id (by omega)
    have e5 : W (1 + Int.tmod ns[i] n) = nodeK n ns[i] := W_id (by show _ ≤ 1 + Int.tmod ns[i] n ∧ 1 + Int.tmod ns[i] n ≤ _; omega)
    have e6 : W ((i : Int) + 1) = ((i + 1 : Nat) : Int) := by rw [W_id (by omega)]; rfl
    have hs : mkL n sp' (ns.take (i + 1)) = mkStep n sp' R ns[i] := by
      rw [List.take_succ_eq_append_getElem hi, mkL_snoc, ← h3]
    have hmu : ns.length - (i + 1) < ns.length - i := by omega
    rw [hg, e4, e5, e6]
    unfold mkStep at hs
    refine ⟨by omega, by omega, cond_go (fun c1 => ⟨⟨rfl, by omega⟩, cond_go (fun c2 => ⟨⟨rfl, rfl, rfl, by omega⟩, ⟨rfl, rfl, rfl, by omega⟩, ?_⟩) (fun c2 => ?_)⟩) (fun c1 => ?_)⟩
    · have c1 : ieq (nodeK n ns[i]) sp' = false := by simpa using c1
      have c2 : hasB R (nodeK n ns[i]) = false := by simpa using c2
      rw [c1, c2] at hs
      refine okSt_intro (H := HM t n me sp me' sp' ns) ((i + 1 : Nat), (R ++ [nodeK n ns[i]] : List Int)) (by simp only [HM, List.length_append]; rfl) ⟨⟨hi, ?_, hs.symm⟩, hmu⟩
      show (R ++ [nodeK n ns[i]]).length ≤ i + 1
      simp; omega
    · have c1 : ieq (nodeK n ns[i]) sp' = false := by simpa using c1
      have c2 : hasB R (nodeK n ns[i]) = true := by simpa using c2
      rw [c1, c2] at hs
      exact okSt_intro (H := HM t n me sp me' sp' ns) ((i + 1 : Nat), R) rfl ⟨⟨hi, by show R.length ≤ i + 1; omega, hs.symm⟩, hmu⟩
    · have c1 : ieq (nodeK n ns[i]) sp' = true := by simpa using c1
      rw [c1] at hs
      exact okSt_intro (H := HM t n me sp me' sp' ns) ((i + 1 : Nat), R) rfl ⟨⟨hi, by show R.length ≤ i + 1; omega, hs.symm⟩, hmu⟩
  · rw [ilt_eq, decide_eq_false_iff_not] at e
    rw [List.take_of_length_le (by omega)] at h3
    subst h3
    exact hK
noncomputable def E14 := E13.addS 17 makeS make_ok
end Go.Sh

/- A word's numbers, and its bits, as the document has them. -/
namespace Go.Sh
open Go Go.Proofs
variable [Con]
theorem emod_in (x : Int) {b : Int} (h : 0 < b) : 0 ≤ x % b ∧ x % b < b := ⟨Int.emod_nonneg _ (by omega), Int.emod_lt_of_pos _ h⟩
theorem cutI_in {x a w : Int} : 0 ≤ cutI x a w ∧ cutI x a w < 2 ^ w.toNat := emod_in _ (two_pos _)
def unS : RSpec Ob := fun args h => match args, h with
  | [.int .u64 x], [] => some (0 ≤ x ∧ x ≤ 18446744073709551615, .agg [.int .i64 (cutI x 0 10), .int .i64 (cutI x 10 9), .bool (ieq (cutI x 19 1) 1), .int .i64 (cutI x 20 5), .int .i64 (cutI x 25 18)])
  | _, _ => none
theorem un_ok : Spec.ok E14.I Try.prog 77 unS.spec := by
  intro args h o ho K hK
  unfold RSpec.spec at ho
  split at ho
  case h_2 => cases ho
  rename_i p v hv
  unfold unS at hv
  split at hv
  case h_2 => cases hv
  rename_i x
  simp only [Option.some.injEq, Prod.mk.injEq] at hv
  obtain ⟨rfl, rfl⟩ := hv
  simp only [Option.some.injEq] at ho; subst ho
  obtain ⟨hx, hK⟩ := hK
  refine CallOk.trim (callOk_of (E := E14) Try.checked.mixed (L := LL) (n := 10) (of_nf (q := (8796093022208 : Int) ≠ (0 : Int) ∧ (1024 : Int) ≠ (0 : Int) ∧ (1024 : Int) ≠ (0 : Int) ∧ (512 : Int) ≠ (0 : Int) ∧ (524288 : Int) ≠ (0 : Int) ∧ (2 : Int) ≠ (0 : Int) ∧ (1048576 : Int) ≠ (0 : Int) ∧ (32 : Int) ≠ (0 : Int) ∧ (33554432 : Int) ≠ (0 : Int) ∧ K (AVal.agg [AVal.int .i64 (Int.tmod (W (Int.tmod x 8796093022208)) 1024), AVal.int .i64 (Int.tmod (W (Int.tdiv (W (Int.tmod x 8796093022208)) 1024)) 512), AVal.bool (ieq (Int.tmod (W (Int.tdiv (W (Int.tmod x 8796093022208)) 524288)) 2) 1), AVal.int .i64 (Int.tmod (W (Int.tdiv (W (Int.tmod x 8796093022208)) 1048576)) 32), AVal.int .i64 (W (Int.tdiv (W (Int.tmod x 8796093022208)) 33554432))]) []) (by kernel_rfl) ?_))
  have e0 : Int.tmod x 8796093022208 = x % 8796093022208 := Int.tmod_eq_emod_of_nonneg hx.1
  have e1 : W (Int.tmod x 8796093022208) = x % 8796093022208 := by rw [e0]; exact W_id (by omega)
  rw [e1]
  have t0 : Int.tmod (x % 8796093022208) 1024 = cutI x 0 10 := by
    rw [Int.tmod_eq_emod_of_nonneg (by omega)]; unfold cutI; show _ = x / 1 % 1024; omega
  have t1 : W (Int.tdiv (x % 8796093022208) 1024) = x % 8796093022208 / 1024 := by rw [Int.tdiv_eq_ediv_of_nonneg (by omega)]; exact W_id (by omega)
  have t2 : W (Int.tdiv (x % 8796093022208) 524288) = x % 8796093022208 / 524288 := by rw [Int.tdiv_eq_ediv_of_nonneg (by omega)]; exact W_id (by omega)
  have t3 : W (Int.tdiv (x % 8796093022208) 1048576) = x % 8796093022208 / 1048576 := by rw [Int.tdiv_eq_ediv_of_nonneg (by omega)]; exact W_id (by omega)
  have t4 : W (Int.tdiv (x % 8796093022208) 33554432) = cutI x 25 18 := by
    rw [Int.tdiv_eq_ediv_of_nonneg (by omega), W_id (by omega)]; unfold cutI; show _ = x / 33554432 % 262144; omega
  have s1 : Int.tmod (x % 8796093022208 / 1024) 512 = cutI x 10 9 := by
    rw [Int.tmod_eq_emod_of_nonneg (by omega)]; unfold cutI; show _ = x / 1024 % 512; omega
  have s2 : Int.tmod (x % 8796093022208 / 524288) 2 = cutI x 19 1 := by
    rw [Int.tmod_eq_emod_of_nonneg (by omega)]; unfold cutI; show _ = x / 524288 % 2; omega
  have s3 : Int.tmod (x % 8796093022208 / 1048576) 32 = cutI x 20 5 := by
    rw [Int.tmod_eq_emod_of_nonneg (by omega)]; unfold cutI; show _ = x / 1048576 % 32; omega
  rw [t0, t1, t2, t3, t4, s1, s2, s3]
  repeat refine ⟨by omega, ?_⟩
  exact hK
def reS : RSpec Ob := fun args h => match args, h with
  | [.agg [.int .i64 k, .int .i64 y, .bool m, .int .i64 c, .int .i64 v]], [] => some ((0 ≤ k ∧ k < 1024) ∧ (0 ≤ y ∧ y < 512) ∧ (0 ≤ c ∧ c < 32) ∧ (0 ≤ v ∧ v < 262144), .int .u64 (putV k y m c v))
  | _, _ => none
theorem re_ok : Spec.ok E14.I Try.prog 79 reS.spec := by
  intro args h o ho K hK
  unfold RSpec.spec at ho
  split at ho
  case h_2 => cases ho
  rename_i p vv hv
  unfold reS at hv
  split at hv
  case h_2 => cases hv
  rename_i k y m c v
  simp only [Option.some.injEq, Prod.mk.injEq] at hv
  obtain ⟨rfl, rfl⟩ := hv
  simp only [Option.some.injEq] at ho; subst ho
  obtain ⟨⟨hk, hy, hc, hv⟩, hK⟩ := hK
  have hK : K (.int .u64 (putV k y m c v)) [] := hK
  refine CallOk.trim (callOk_of (E := E14) Try.checked.mixed (L := LL) (n := 10) (of_nf (q := bif m then (1024 : Int) ≠ (0 : Int) ∧ (512 : Int) ≠ (0 : Int) ∧ (32 : Int) ≠ (0 : Int) ∧ (262144 : Int) ≠ (0 : Int) ∧ K (AVal.int .u64 (WU (W (W (W (W (Int.tmod k 1024 + W (Int.tmod y 512 * 1024)) + W (1 * 524288)) + W (Int.tmod c 32 * 1048576)) + W (Int.tmod v 262144 * 33554432))))) [] else (1024 : Int) ≠ (0 : Int) ∧ (512 : Int) ≠ (0 : Int) ∧ (32 : Int) ≠ (0 : Int) ∧ (262144 : Int) ≠ (0 : Int) ∧ K (AVal.int .u64 (WU (W (W (W (W (Int.tmod k 1024 + W (Int.tmod y 512 * 1024)) + W (0 * 524288)) + W (Int.tmod c 32 * 1048576)) + W (Int.tmod v 262144 * 33554432))))) []) (by kernel_rfl) ?_))
  have e1 : Int.tmod k 1024 = k := by rw [Int.tmod_eq_emod_of_nonneg (by omega)]; omega
  have e2 : Int.tmod y 512 = y := by rw [Int.tmod_eq_emod_of_nonneg (by omega)]; omega
  have e3 : Int.tmod c 32 = c := by rw [Int.tmod_eq_emod_of_nonneg (by omega)]; omega
  have e4 : Int.tmod v 262144 = v := by rw [Int.tmod_eq_emod_of_nonneg (by omega)]; omega
  rw [e1, e2, e3, e4]
  unfold putV at hK
  cases m
  all_goals
    simp (disch := omega) only [W, WU, W_in, WU_in, cond_true, cond_false, bitI] at hK ⊢
    repeat refine ⟨by omega, ?_⟩
    refine cast (congrArg (fun z => K (AVal.int .u64 z) []) ?_) hK
    omega
noncomputable def E15 := (E14.addR 77 unS un_ok).addR 79 reS re_ok
end Go.Sh

/- A tape of actions: what is asked of it. -/
namespace Go.Sh
open Go Go.Proofs
variable [Con]
structure TS where
  i : Int
  bad : Bool
  out : Bool
instance : Inhabited TS := ⟨⟨0, false, false⟩⟩
def a0 (r : List Int) : Int := List.headD r 0
def a1 (r : List Int) : Int := List.headD (List.tail r) 0
def a2 (r : List Int) : Int := List.headD (List.tail (List.tail r)) 0
def a3 (r : List Int) : Int := List.headD (List.tail (List.tail (List.tail r))) 0
/- OPQ -/
def a4 (r : List Int) : Bool := !ieq (List.headD (List.tail (List.tail (List.tail (List.tail r)))) 0) 0
def tRow (A : List (List Int)) (s : TS) : List Int := List.getD A (0 + Int.toNat s.i) []
/- OPQ -/
def tHit (A : List (List Int)) (s : TS) (k a : Int) : Bool := !s.bad && (!s.out && (!ile (A.length : Int) s.i && (ieq (a0 (tRow A s)) k && ieq (a1 (tRow A s)) a)))
/- OPQ -/
def tGot (A : List (List Int)) (s : TS) (k a : Int) : List Int := bif tHit A s k a then tRow A s else []
/- OPQ -/
def tTook (A : List (List Int)) (s : TS) (k a : Int) : TS := bif s.bad || s.out then s else bif ile (A.length : Int) s.i then ⟨s.i, s.bad, true⟩ else ⟨s.i + 1, !tHit A s k a, s.out⟩
/- OPQ -/
def tStor (A : List (List Int)) (s : TS) (a x : Int) : TS := ⟨(tTook A s 2 a).i, (tTook A s 2 a).bad || (!(tTook A s 2 a).out && (a4 (tGot A s 2 a) && !ieq (a3 (tGot A s 2 a)) x)), (tTook A s 2 a).out⟩
def tNo (r : List Int) : Bool := !a4 r && (ieq (a2 r) 0 && ieq (a3 r) 0)
/- OPQ -/
def tCas (A : List (List Int)) (s : TS) (a x y : Int) : TS := ⟨(tTook A s 3 a).i, (tTook A s 3 a).bad || (!(tTook A s 3 a).out && (!tNo (tGot A s 3 a) && (!ieq (a3 (tGot A s 3 a)) y || !(a4 (tGot A s 3 a) == ieq (a2 (tGot A s 3 a)) x)))), (tTook A s 3 a).out⟩
/- OPQ -/
def tAdd (A : List (List Int)) (s : TS) (a x : Int) : TS := ⟨(tTook A s 4 a).i, (tTook A s 4 a).bad || (!(tTook A s 4 a).out && (a4 (tGot A s 4 a) && !ieq (a3 (tGot A s 4 a)) (WU (a2 (tGot A s 4 a) + x)))), (tTook A s 4 a).out⟩
def tapeH (A : List (List Int)) (s : TS) : Heap Ob := [some (.cells [.tslice 1 0 A.length 5, .int .i64 s.i, .bool s.bad, .bool s.out]), some (.tab [some .i64, some .i64, some .u64, some .u64, none] A)]
def tapePat (h : Heap Ob) : Option (Nat × TS × List (List Int)) := match h with
  | [some (.cells [.tslice 1 0 len 5, .int .i64 i, .bool bad, .bool out]), some (.tab [some .i64, some .i64, some .u64, some .u64, none] A)] => some (len, ⟨i, bad, out⟩, A)
  | _ => none
theorem tapePat_eq {h : Heap Ob} {l : Nat} {s : TS} {A : List (List Int)} (e : tapePat h = some (l, s, A)) (hl : l = A.length) : h = tapeH A s := by
  unfold tapePat at e
  split at e
  · simp only [Option.some.injEq, Prod.mk.injEq] at e
    obtain ⟨rfl, rfl, rfl⟩ := e
    subst hl; rfl
  · cases e
theorem not_tr {b : Bool} (h : (!b) = true) : b = false := by simpa using h
theorem not_fa {b : Bool} (h : (!b) = false) : b = true := by simpa using h

def takeS : Spec Ob := fun args h => match args, tapePat h with
  | [.ptr 0 0, .int .i64 k, .int .i64 a], some (l, s, A) => some (.pre (l = A.length ∧ (0 ≤ s.i ∧ s.i ≤ 4611686018427387904)) (.ret (.agg [.int .i64 (a0 (tGot A s k a)), .int .i64 (a1 (tGot A s k a)), .int .u64 (a2 (tGot A s k a)), .int .u64 (a3 (tGot A s k a)), .bool (a4 (tGot A s k a))]) (tapeH A (tTook A s k a))))
  | _, _ => none
theorem take_ok : Spec.ok E15.I Try.prog 101 takeS := by
  intro args h o ho K hK
  unfold takeS at ho
  split at ho
  case h_2 => cases ho
  rename_i k a l s A hm
  simp only [Option.some.injEq] at ho; subst ho
  obtain ⟨⟨hl, hp⟩, hK⟩ := hK
  have hh := tapePat_eq hm hl
  subst hh
  have hK : K (.agg [.int .i64 (a0 (tGot A s k a)), .int .i64 (a1 (tGot A s k a)), .int .u64 (a2 (tGot A s k a)), .int .u64 (a3 (tGot A s k a)), .bool (a4 (tGot A s k a))]) (tapeH A (tTook A s k a)) := hK
  refine CallOk.trim (callOk_of (E := E15) Try.checked.mixed (L := fun _ _ => none) (n := 10) (of_nf (q := bif s.2 then K (AVal.agg [AVal.int .i64 0, AVal.int .i64 0, AVal.int .u64 0, AVal.int .u64 0, AVal.bool false]) [some (Entry.cells [AVal.tslice 1 0 (List.length A) 5, AVal.int .i64 s.1, AVal.bool s.2, AVal.bool s.3]), some (Entry.tab [some .i64, some .i64, some .u64, some .u64, none] A)] else bif s.3 then K (AVal.agg [AVal.int .i64 0, AVal.int .i64 0, AVal.int .u64 0, AVal.int .u64 0, AVal.bool false]) [some (Entry.cells [AVal.tslice 1 0 (List.length A) 5, AVal.int .i64 s.1, AVal.bool s.2, AVal.bool s.3]), some (Entry.tab [some .i64, some .i64, some .u64, some .u64, none] A)] else bif ile (↑(List.length A) : Int) s.1 then K (AVal.agg [AVal.int .i64 0, AVal.int .i64 0, AVal.int .u64 0, AVal.int .u64 0, AVal.bool false]) [some (Entry.cells [AVal.tslice 1 0 (List.length A) 5, AVal.int .i64 s.1, AVal.bool s.2, AVal.bool true]), some (Entry.tab [some .i64, some .i64, some .u64, some .u64, none] A)] else ((0 : Int) ≤ s.1 ∧ s.1 < (↑(List.length A) : Int)) ∧ 0 + Int.toNat s.1 < List.length A ∧ bif !ieq (List.headD (List.getD A (0 + Int.toNat s.1) []) 0) k then K (AVal.agg [AVal.int .i64 0, AVal.int .i64 0, AVal.int .u64 0, AVal.int .u64 0, AVal.bool false]) [some (Entry.cells [AVal.tslice 1 0 (List.length A) 5, AVal.int .i64 (W (s.1 + 1)), AVal.bool true, AVal.bool s.3]), some (Entry.tab [some .i64, some .i64, some .u64, some .u64, none] A)] else bif !ieq (List.headD (List.tail (List.getD A (0 + Int.toNat s.1) [])) 0) a then K (AVal.agg [AVal.int .i64 0, AVal.int .i64 0, AVal.int .u64 0, AVal.int .u64 0, AVal.bool false]) [some (Entry.cells [AVal.tslice 1 0 (List.length A) 5, AVal.int .i64 (W (s.1 + 1)), AVal.bool true, AVal.bool s.3]), some (Entry.tab [some .i64, some .i64, some .u64, some .u64, none] A)] else K (AVal.agg [AVal.int .i64 (List.headD (List.getD A (0 + Int.toNat s.1) []) 0), AVal.int .i64 (List.headD (List.tail (List.getD A (0 + Int.toNat s.1) [])) 0), AVal.int .u64 (List.headD (List.tail (List.tail (List.getD A (0 + Int.toNat s.1) []))) 0), AVal.int .u64 (List.headD (List.tail (List.tail (List.tail (List.getD A (0 + Int.toNat s.1) [])))) 0), AVal.bool !ieq (List.headD (List.tail (List.tail (List.tail (List.tail (List.getD A (0 + Int.toNat s.1) []))))) 0) 0]) [some (Entry.cells [AVal.tslice 1 0 (List.length A) 5, AVal.int .i64 (W (s.1 + 1)), AVal.bool s.2, AVal.bool s.3]), some (Entry.tab [some .i64, some .i64, some .u64, some .u64, none] A)]) (by kernel_rfl) ?_))
  obtain ⟨i, bad, out⟩ := s
  cases bad
  case true => simpa [tGot, tTook, tHit, a0, a1, a2, a3, a4, tapeH, ieq_eq] using hK
  cases out
  case true => simpa [tGot, tTook, tHit, a0, a1, a2, a3, a4, tapeH, ieq_eq] using hK
  simp only [cond_false] at hp ⊢
  refine cond_go (fun e => ?_) (fun e => ?_)
  · have h1 : tHit A ⟨i, false, false⟩ k a = false := by unfold tHit; simp only [e, Bool.not_true, Bool.false_and, Bool.and_false]
    simp only [tGot, tTook, h1, e, Bool.or_false, cond_true, cond_false] at hK
    exact hK
  · have e' := e
    rw [ile_eq, decide_eq_false_iff_not] at e'
    have hw : W (i + 1) = i + 1 := W_id (by omega)
    rw [hw]
    have hg : ∀ b, tHit A ⟨i, false, false⟩ k a = b → tTook A ⟨i, false, false⟩ k a = ⟨i + 1, !b, false⟩ := by
      intro b hb
      simp only [tTook, hb, e, Bool.or_false, cond_false]
    have hr : tRow A ⟨i, false, false⟩ = List.getD A (0 + Int.toNat i) [] := rfl
    have no : tHit A ⟨i, false, false⟩ k a = false → tGot A ⟨i, false, false⟩ k a = [] := by intro hb; unfold tGot; rw [hb]; rfl
    have yes : tHit A ⟨i, false, false⟩ k a = true → tGot A ⟨i, false, false⟩ k a = tRow A ⟨i, false, false⟩ := by intro hb; unfold tGot; rw [hb]; rfl
    refine ⟨by omega, by omega, cond_go (fun c1 => ?_) (fun c1 => cond_go (fun c2 => ?_) (fun c2 => ?_))⟩
    · have c1 := not_tr c1
      have h1 : tHit A ⟨i, false, false⟩ k a = false := by unfold tHit; rw [hr]; simp only [a0, c1, Bool.false_and, Bool.and_false]
      rw [hg _ h1, no h1] at hK
      exact hK
    · have c2 := not_tr c2
      have h1 : tHit A ⟨i, false, false⟩ k a = false := by unfold tHit; rw [hr]; simp only [a1, c2, Bool.and_false]
      rw [hg _ h1, no h1] at hK
      exact hK
    · have c1 := not_fa c1
      have c2 := not_fa c2
      have h1 : tHit A ⟨i, false, false⟩ k a = true := by unfold tHit; rw [hr]; simp only [a0, a1, c1, c2, e, Bool.not_false, Bool.and_true]
      rw [hg _ h1, yes h1] at hK
      exact hK
def overS : RSpec Ob := fun args h => match args, h with
  | [.ptr 0 0], some (.cells [v, .int .i64 i, .bool bad, .bool out]) :: rest => some (True, .bool (bad || out))
  | _, _ => none
theorem over_ok : Spec.ok E15.I Try.prog 74 overS.spec := by
  intro args h o ho K hK
  unfold RSpec.spec at ho
  split at ho
  case h_2 => cases ho
  rename_i p v hv
  unfold overS at hv
  split at hv
  case h_2 => cases hv
  rename_i v i bad out rest
  simp only [Option.some.injEq, Prod.mk.injEq] at hv
  obtain ⟨rfl, rfl⟩ := hv
  simp only [Option.some.injEq] at ho; subst ho
  obtain ⟨_, hK⟩ := hK
  refine (callOk_of (E := E15) Try.checked.mixed (L := fun _ _ => none) (n := 10) (of_nf (q := bif bad then K (AVal.bool true) (some (Entry.cells [v, AVal.int .i64 i, AVal.bool bad, AVal.bool out]) :: rest) else K (AVal.bool out) (some (Entry.cells [v, AVal.int .i64 i, AVal.bool bad, AVal.bool out]) :: rest)) (by kernel_rfl) ?_))
  cases bad <;> cases out <;> exact hK
noncomputable def E16a := (E15.addS 101 (castSpec [(.cell 0 0, .tab [some .i64, some .i64, some .u64, some .u64, none])] takeS) (castSpec_ok take_ok)).addR 74 overS over_ok
end Go.Sh

/- A tape of actions: the four that are asked of it, and whether it fits. -/
namespace Go.Sh
open Go Go.Proofs
variable [Con]
def tloadS : Spec Ob := fun args h => match args, tapePat h with
  | [.ptr 0 0, .int .i64 a], some (l, s, A) => some (.pre (l = A.length ∧ (0 ≤ s.i ∧ s.i ≤ 4611686018427387904)) (.ret (.int .u64 (a2 (tGot A s 1 a))) (tapeH A (tTook A s 1 a))))
  | _, _ => none
theorem tload_ok : Spec.ok E16a.I Try.prog 72 tloadS := by
  intro args h o ho K hK
  unfold tloadS at ho
  split at ho
  case h_2 => cases ho
  rename_i a l s A hm
  simp only [Option.some.injEq] at ho; subst ho
  obtain ⟨⟨hl, hp⟩, hK⟩ := hK
  have hh := tapePat_eq hm hl
  subst hh
  have hK : K (.int .u64 (a2 (tGot A s 1 a))) (tapeH A (tTook A s 1 a)) := hK
  refine CallOk.trim (callOk_of (E := E16a) Try.checked.mixed (L := fun _ _ => none) (n := 10) (of_nf (q := (List.length A = List.length A ∧ (0 : Int) ≤ s.1 ∧ s.1 ≤ (4611686018427387904 : Int)) ∧ K (AVal.int .u64 (a2 (tGot A s 1 a))) [some (Entry.cells [AVal.tslice 1 0 (List.length A) 5, AVal.int .i64 (tTook A s 1 a).1, AVal.bool (tTook A s 1 a).2, AVal.bool (tTook A s 1 a).3]), some (Entry.tab [some .i64, some .i64, some .u64, some .u64, none] A)]) (by kernel_rfl) ?_))
  exact ⟨⟨rfl, hp⟩, hK⟩
def tstoreS : Spec Ob := fun args h => match args, tapePat h with
  | [.ptr 0 0, .int .i64 a, .int .u64 x], some (l, s, A) => some (.pre (l = A.length ∧ (0 ≤ s.i ∧ s.i ≤ 4611686018427387904)) (.ret (.tup []) (tapeH A (tStor A s a x))))
  | _, _ => none
theorem tstore_ok : Spec.ok E16a.I Try.prog 78 tstoreS := by
  intro args h o ho K hK
  unfold tstoreS at ho
  split at ho
  case h_2 => cases ho
  rename_i a x l s A hm
  simp only [Option.some.injEq] at ho; subst ho
  obtain ⟨⟨hl, hp⟩, hK⟩ := hK
  have hh := tapePat_eq hm hl
  subst hh
  have hK : K (.tup []) (tapeH A (tStor A s a x)) := hK
  refine CallOk.trim (callOk_of (E := E16a) Try.checked.mixed (L := fun _ _ => none) (n := 10) (of_nf (q := (List.length A = List.length A ∧ (0 : Int) ≤ s.1 ∧ s.1 ≤ (4611686018427387904 : Int)) ∧ True ∧ bif !bif (tTook A s 2 a).2 then true else (tTook A s 2 a).3 then bif a4 (tGot A s 2 a) then bif !ieq (a3 (tGot A s 2 a)) x then K (AVal.tup []) [some (Entry.cells [AVal.tslice 1 0 (List.length A) 5, AVal.int .i64 (tTook A s 2 a).1, AVal.bool true, AVal.bool (tTook A s 2 a).3]), some (Entry.tab [some .i64, some .i64, some .u64, some .u64, none] A)] else K (AVal.tup []) [some (Entry.cells [AVal.tslice 1 0 (List.length A) 5, AVal.int .i64 (tTook A s 2 a).1, AVal.bool (tTook A s 2 a).2, AVal.bool (tTook A s 2 a).3]), some (Entry.tab [some .i64, some .i64, some .u64, some .u64, none] A)] else K (AVal.tup []) [some (Entry.cells [AVal.tslice 1 0 (List.length A) 5, AVal.int .i64 (tTook A s 2 a).1, AVal.bool (tTook A s 2 a).2, AVal.bool (tTook A s 2 a).3]), some (Entry.tab [some .i64, some .i64, some .u64, some .u64, none] A)] else K (AVal.tup []) [some (Entry.cells [AVal.tslice 1 0 (List.length A) 5, AVal.int .i64 (tTook A s 2 a).1, AVal.bool (tTook A s 2 a).2, AVal.bool (tTook A s 2 a).3]), some (Entry.tab [some .i64, some .i64, some .u64, some .u64, none] A)]) (by kernel_rfl) ?_))
  unfold tStor tapeH at hK
  refine ⟨⟨rfl, hp⟩, trivial, ?_⟩
  generalize tTook A s 2 a = t at hK ⊢
  generalize tGot A s 2 a = g at hK ⊢
  obtain ⟨i, bad, out⟩ := t
  dsimp only at hK ⊢
  generalize a4 g = b1 at hK ⊢
  generalize ieq (a3 g) x = b2 at hK ⊢
  cases bad <;> cases out <;> cases b1 <;> cases b2 <;> exact hK
def taddS : Spec Ob := fun args h => match args, tapePat h with
  | [.ptr 0 0, .int .i64 a, .int .u64 x], some (l, s, A) => some (.pre (l = A.length ∧ (0 ≤ s.i ∧ s.i ≤ 4611686018427387904)) (.ret (.int .u64 (a2 (tGot A s 4 a))) (tapeH A (tAdd A s a x))))
  | _, _ => none
theorem tadd_ok : Spec.ok E16a.I Try.prog 94 taddS := by
  intro args h o ho K hK
  unfold taddS at ho
  split at ho
  case h_2 => cases ho
  rename_i a x l s A hm
  simp only [Option.some.injEq] at ho; subst ho
  obtain ⟨⟨hl, hp⟩, hK⟩ := hK
  have hh := tapePat_eq hm hl
  subst hh
  have hK : K (.int .u64 (a2 (tGot A s 4 a))) (tapeH A (tAdd A s a x)) := hK
  refine CallOk.trim (callOk_of (E := E16a) Try.checked.mixed (L := fun _ _ => none) (n := 10) (of_nf (q := (List.length A = List.length A ∧ (0 : Int) ≤ s.1 ∧ s.1 ≤ (4611686018427387904 : Int)) ∧ True ∧ bif !bif (tTook A s 4 a).2 then true else (tTook A s 4 a).3 then bif a4 (tGot A s 4 a) then bif !ieq (a3 (tGot A s 4 a)) (WU (a2 (tGot A s 4 a) + x)) then K (AVal.int .u64 (a2 (tGot A s 4 a))) [some (Entry.cells [AVal.tslice 1 0 (List.length A) 5, AVal.int .i64 (tTook A s 4 a).1, AVal.bool true, AVal.bool (tTook A s 4 a).3]), some (Entry.tab [some .i64, some .i64, some .u64, some .u64, none] A)] else K (AVal.int .u64 (a2 (tGot A s 4 a))) [some (Entry.cells [AVal.tslice 1 0 (List.length A) 5, AVal.int .i64 (tTook A s 4 a).1, AVal.bool (tTook A s 4 a).2, AVal.bool (tTook A s 4 a).3]), some (Entry.tab [some .i64, some .i64, some .u64, some .u64, none] A)] else K (AVal.int .u64 (a2 (tGot A s 4 a))) [some (Entry.cells [AVal.tslice 1 0 (List.length A) 5, AVal.int .i64 (tTook A s 4 a).1, AVal.bool (tTook A s 4 a).2, AVal.bool (tTook A s 4 a).3]), some (Entry.tab [some .i64, some .i64, some .u64, some .u64, none] A)] else K (AVal.int .u64 (a2 (tGot A s 4 a))) [some (Entry.cells [AVal.tslice 1 0 (List.length A) 5, AVal.int .i64 (tTook A s 4 a).1, AVal.bool (tTook A s 4 a).2, AVal.bool (tTook A s 4 a).3]), some (Entry.tab [some .i64, some .i64, some .u64, some .u64, none] A)]) (by kernel_rfl) ?_))
  unfold tAdd tapeH at hK
  refine ⟨⟨rfl, hp⟩, trivial, ?_⟩
  generalize tTook A s 4 a = t at hK ⊢
  generalize tGot A s 4 a = g at hK ⊢
  obtain ⟨i, bad, out⟩ := t
  dsimp only at hK ⊢
  generalize a4 g = b1 at hK ⊢
  generalize ieq (a3 g) _ = b2 at hK ⊢
  cases bad <;> cases out <;> cases b1 <;> cases b2 <;> exact hK
def tcasS : Spec Ob := fun args h => match args, tapePat h with
  | [.ptr 0 0, .int .i64 a, .int .u64 x, .int .u64 y], some (l, s, A) => some (.pre (l = A.length ∧ (0 ≤ s.i ∧ s.i ≤ 4611686018427387904)) (.ret (.bool (a4 (tGot A s 3 a))) (tapeH A (tCas A s a x y))))
  | _, _ => none
theorem tcas_ok : Spec.ok E16a.I Try.prog 103 tcasS := by
  intro args h o ho K hK
  unfold tcasS at ho
  split at ho
  case h_2 => cases ho
  rename_i a x y l s A hm
  simp only [Option.some.injEq] at ho; subst ho
  obtain ⟨⟨hl, hp⟩, hK⟩ := hK
  have hh := tapePat_eq hm hl
  subst hh
  have hK : K (.bool (a4 (tGot A s 3 a))) (tapeH A (tCas A s a x y)) := hK
  refine CallOk.trim (callOk_of (E := E16a) Try.checked.mixed (L := fun _ _ => none) (n := 10) (of_nf (q := (List.length A = List.length A ∧ (0 : Int) ≤ s.1 ∧ s.1 ≤ (4611686018427387904 : Int)) ∧ bif !a4 (tGot A s 3 a) then bif ieq (a2 (tGot A s 3 a)) 0 then True ∧ bif !bif (tTook A s 3 a).2 then true else (tTook A s 3 a).3 then bif !ieq (a3 (tGot A s 3 a)) 0 then bif !ieq (a3 (tGot A s 3 a)) y then K (AVal.bool (a4 (tGot A s 3 a))) [some (Entry.cells [AVal.tslice 1 0 (List.length A) 5, AVal.int .i64 (tTook A s 3 a).1, AVal.bool true, AVal.bool (tTook A s 3 a).3]), some (Entry.tab [some .i64, some .i64, some .u64, some .u64, none] A)] else bif !bif a4 (tGot A s 3 a) then ieq (a2 (tGot A s 3 a)) x else !ieq (a2 (tGot A s 3 a)) x then K (AVal.bool (a4 (tGot A s 3 a))) [some (Entry.cells [AVal.tslice 1 0 (List.length A) 5, AVal.int .i64 (tTook A s 3 a).1, AVal.bool true, AVal.bool (tTook A s 3 a).3]), some (Entry.tab [some .i64, some .i64, some .u64, some .u64, none] A)] else K (AVal.bool (a4 (tGot A s 3 a))) [some (Entry.cells [AVal.tslice 1 0 (List.length A) 5, AVal.int .i64 (tTook A s 3 a).1, AVal.bool (tTook A s 3 a).2, AVal.bool (tTook A s 3 a).3]), some (Entry.tab [some .i64, some .i64, some .u64, some .u64, none] A)] else K (AVal.bool (a4 (tGot A s 3 a))) [some (Entry.cells [AVal.tslice 1 0 (List.length A) 5, AVal.int .i64 (tTook A s 3 a).1, AVal.bool (tTook A s 3 a).2, AVal.bool (tTook A s 3 a).3]), some (Entry.tab [some .i64, some .i64, some .u64, some .u64, none] A)] else K (AVal.bool (a4 (tGot A s 3 a))) [some (Entry.cells [AVal.tslice 1 0 (List.length A) 5, AVal.int .i64 (tTook A s 3 a).1, AVal.bool (tTook A s 3 a).2, AVal.bool (tTook A s 3 a).3]), some (Entry.tab [some .i64, some .i64, some .u64, some .u64, none] A)] else True ∧ bif !bif (tTook A s 3 a).2 then true else (tTook A s 3 a).3 then bif !ieq (a3 (tGot A s 3 a)) y then K (AVal.bool (a4 (tGot A s 3 a))) [some (Entry.cells [AVal.tslice 1 0 (List.length A) 5, AVal.int .i64 (tTook A s 3 a).1, AVal.bool true, AVal.bool (tTook A s 3 a).3]), some (Entry.tab [some .i64, some .i64, some .u64, some .u64, none] A)] else bif !bif a4 (tGot A s 3 a) then ieq (a2 (tGot A s 3 a)) x else !ieq (a2 (tGot A s 3 a)) x then K (AVal.bool (a4 (tGot A s 3 a))) [some (Entry.cells [AVal.tslice 1 0 (List.length A) 5, AVal.int .i64 (tTook A s 3 a).1, AVal.bool true, AVal.bool (tTook A s 3 a).3]), some (Entry.tab [some .i64, some .i64, some .u64, some .u64, none] A)] else K (AVal.bool (a4 (tGot A s 3 a))) [some (Entry.cells [AVal.tslice 1 0 (List.length A) 5, AVal.int .i64 (tTook A s 3 a).1, AVal.bool (tTook A s 3 a).2, AVal.bool (tTook A s 3 a).3]), some (Entry.tab [some .i64, some .i64, some .u64, some .u64, none] A)] else K (AVal.bool (a4 (tGot A s 3 a))) [some (Entry.cells [AVal.tslice 1 0 (List.length A) 5, AVal.int .i64 (tTook A s 3 a).1, AVal.bool (tTook A s 3 a).2, AVal.bool (tTook A s 3 a).3]), some (Entry.tab [some .i64, some .i64, some .u64, some .u64, none] A)] else True ∧ bif !bif (tTook A s 3 a).2 then true else (tTook A s 3 a).3 then bif !ieq (a3 (tGot A s 3 a)) y then K (AVal.bool (a4 (tGot A s 3 a))) [some (Entry.cells [AVal.tslice 1 0 (List.length A) 5, AVal.int .i64 (tTook A s 3 a).1, AVal.bool true, AVal.bool (tTook A s 3 a).3]), some (Entry.tab [some .i64, some .i64, some .u64, some .u64, none] A)] else bif !bif a4 (tGot A s 3 a) then ieq (a2 (tGot A s 3 a)) x else !ieq (a2 (tGot A s 3 a)) x then K (AVal.bool (a4 (tGot A s 3 a))) [some (Entry.cells [AVal.tslice 1 0 (List.length A) 5, AVal.int .i64 (tTook A s 3 a).1, AVal.bool true, AVal.bool (tTook A s 3 a).3]), some (Entry.tab [some .i64, some .i64, some .u64, some .u64, none] A)] else K (AVal.bool (a4 (tGot A s 3 a))) [some (Entry.cells [AVal.tslice 1 0 (List.length A) 5, AVal.int .i64 (tTook A s 3 a).1, AVal.bool (tTook A s 3 a).2, AVal.bool (tTook A s 3 a).3]), some (Entry.tab [some .i64, some .i64, some .u64, some .u64, none] A)] else K (AVal.bool (a4 (tGot A s 3 a))) [some (Entry.cells [AVal.tslice 1 0 (List.length A) 5, AVal.int .i64 (tTook A s 3 a).1, AVal.bool (tTook A s 3 a).2, AVal.bool (tTook A s 3 a).3]), some (Entry.tab [some .i64, some .i64, some .u64, some .u64, none] A)]) (by kernel_rfl) ?_))
  unfold tCas tNo tapeH at hK
  refine ⟨⟨rfl, hp⟩, ?_⟩
  generalize tTook A s 3 a = t at hK ⊢
  generalize tGot A s 3 a = g at hK ⊢
  obtain ⟨i, bad, out⟩ := t
  dsimp only at hK ⊢
  generalize a4 g = b1 at hK ⊢
  generalize ieq (a3 g) y = b2 at hK ⊢
  generalize ieq (a2 g) x = b3 at hK ⊢
  generalize ieq (a2 g) 0 = b4 at hK ⊢
  generalize ieq (a3 g) 0 = b5 at hK ⊢
  have go : ∀ {b : Bool} {X Y : Prop}, (b = true → X) → (b = false → Y) → cond b X Y := fun h1 h2 => cond_go h1 h2
  cases b1 <;> cases b2 <;> cases b3 <;> cases b4 <;> cases b5 <;> cases bad <;> cases out <;> first | exact hK | exact ⟨trivial, hK⟩
/- OPQ -/
def fitsB (n : Int) (s : TS) (e : Bool) : Bool := !s.bad && (ieq s.i n && (bif s.out then !e else e))
def fitsS : RSpec Ob := fun args h => match args, h with
  | [.ptr 0 0, .bool e], some (.cells [.tslice 1 0 n 5, .int .i64 i, .bool bad, .bool out]) :: rest => some (True, .bool (fitsB n ⟨i, bad, out⟩ e))
  | _, _ => none
theorem fits_ok : Spec.ok E16a.I Try.prog 31 fitsS.spec := by
  intro args h o ho K hK
  unfold RSpec.spec at ho
  split at ho
  case h_2 => cases ho
  rename_i p v hv
  unfold fitsS at hv
  split at hv
  case h_2 => cases hv
  rename_i e n i bad out rest
  simp only [Option.some.injEq, Prod.mk.injEq] at hv
  obtain ⟨rfl, rfl⟩ := hv
  simp only [Option.some.injEq] at ho; subst ho
  obtain ⟨_, hK⟩ := hK
  refine (callOk_of (E := E16a) Try.checked.mixed (L := fun _ _ => none) (n := 10) (of_nf (q := bif bad then K (AVal.bool false) (some (Entry.cells [AVal.tslice 1 0 n 5, AVal.int .i64 i, AVal.bool bad, AVal.bool out]) :: rest) else bif !ieq i (↑n : Int) then K (AVal.bool false) (some (Entry.cells [AVal.tslice 1 0 n 5, AVal.int .i64 i, AVal.bool bad, AVal.bool out]) :: rest) else K (AVal.bool !bif out then e else !e) (some (Entry.cells [AVal.tslice 1 0 n 5, AVal.int .i64 i, AVal.bool bad, AVal.bool out]) :: rest)) (by kernel_rfl) ?_))
  unfold fitsB at hK
  dsimp only at hK
  generalize ieq i (n : Int) = b at hK ⊢
  cases bad <;> cases out <;> cases b <;> cases e <;> exact hK
abbrev KA : List (Place × CastK) := [(.cell 0 0, .tab [some .i64, some .i64, some .u64, some .u64, none])]
noncomputable def E16 := ((((E16a.addS 72 (castSpec KA tloadS) (castSpec_ok tload_ok)).addS 78 (castSpec KA tstoreS) (castSpec_ok tstore_ok)).addS 94 (castSpec KA taddS) (castSpec_ok tadd_ok)).addS 103 (castSpec KA tcasS) (castSpec_ok tcas_ok)).addR 31 fitsS fits_ok
end Go.Sh

/- Words are words. -/
namespace Go.Sh
open Go Go.Proofs
variable [Con]
theorem bounds_u64 {n : Int} (h : codeWf (some .u64) n) : 0 ≤ n ∧ n ≤ 18446744073709551615 := by
  have h : (decide (IntKind.min .u64 ≤ n) && decide (n ≤ IntKind.max .u64)) = true := h
  simp only [Bool.and_eq_true, decide_eq_true_eq] at h
  exact h
/-- words are words -/
structure okW (xs : List Int) : Prop where
  h : ∀ x ∈ xs, 0 ≤ x ∧ x ≤ 18446744073709551615
theorem okW_memW {t n : Int} {xs : List Int} (h : okW xs) : okW (memW t n xs) := by
  refine ⟨fun x hx => ?_⟩
  unfold memW overI at hx
  simp only [List.take_zero, List.nil_append, List.mem_append] at hx
  rcases hx with hx | hx
  · exact h.h x (List.mem_of_mem_take hx)
  · have := List.mem_of_mem_drop hx
    rw [List.mem_replicate] at this
    omega
theorem okW_peek {xs : List Int} (h : okW xs) (a : Int) : 0 ≤ peek xs a ∧ peek xs a ≤ 18446744073709551615 := by
  unfold peek
  split
  · rename_i hi
    have hlt : a.toNat < xs.length := by omega
    rw [List.getD_eq_getElem?_getD, List.getElem?_eq_getElem hlt]
    exact h.h _ (List.getElem_mem hlt)
  · omega
theorem mkL_len (n sp : Int) (ns : List Int) : (mkL n sp ns).length ≤ ns.length := by
  have : ∀ (l R : List Int), (l.foldl (mkStep n sp) R).length ≤ R.length + l.length := by
    intro l
    induction l with
    | nil => intro R; simp
    | cons v l ih => intro R; have h1 := ih (mkStep n sp R v); have h2 := mkStep_len n sp R v; simp only [List.foldl_cons, List.length_cons]; omega
  have h := this ns []
  unfold mkL
  simpa using h
end Go.Sh

