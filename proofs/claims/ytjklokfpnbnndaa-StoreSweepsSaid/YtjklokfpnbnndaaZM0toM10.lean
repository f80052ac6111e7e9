import Derived.Test.YtjklokfpnbnndaaRows
import Derived.IntWalk
import Derived.Test.YtjklokfpnbnndaaZSh15toSh19
set_option linter.all false
/- The shared memory: its state, as the contracts tell it. -/
namespace Go.Sh
open Go Go.Proofs
variable [Con]
abbrev W (x : Int) : Int := IntKind.wrap IntKind.i64 x
abbrev WU (x : Int) : Int := IntKind.wrap IntKind.u64 x
theorem W_in {x : Int} (h : -9223372036854775808 ≤ x ∧ x ≤ 9223372036854775807) : IntKind.wrap IntKind.i64 x = x := IntWalk.i64_in x h

/-- memory: how many threads and nodes, the words, how many actions, the last one -/
structure MS where
  t : Int
  n : Int
  xs : List Int
  c : Int
  k : Int
  a : Int
  o : Int
  w : Int
  ok : Bool
def memH (s : MS) : Heap Unit := [some (.cells [.int .i64 s.t, .int .i64 s.n, .slice 1 0 s.xs.length 1, .int .i64 s.c, .int .i64 s.k, .int .i64 s.a, .int .u64 s.o, .int .u64 s.w, .bool s.ok]), some (.ints (some .u64) s.xs)]

noncomputable def E0 : Env Unit Try.prog where
  I := fun _ _ _ => False
  cps := fun _ => none
  det := fun _ => none
  meth := methOf Try.prog
  cpsOk := by intro f S h; cases h
  detOk := by intro f S h; cases h
  methOk := fun t n f h v w _ => methOf_run h v w
end Go.Sh

/- The shared memory: what its functions come to. -/
namespace Go.Sh
open Go Go.Proofs
variable [Con]
theorem W_add {x : Int} (h : -9223372036854775808 ≤ x ∧ x ≤ 9223372036854775807) : IntKind.wrap IntKind.i64 x = x := W_in h
theorem cond_go {b : Bool} {X Y : Prop} (h1 : b = true → X) (h2 : b = false → Y) : cond b X Y := cond_intro h1 h2

def laySizeS : Spec Unit := fun args h => match args, h with
  | [.agg [.int .i64 t, .int .i64 n]], [] => some (.pre ((0 ≤ t ∧ t ≤ 100000) ∧ (0 ≤ n ∧ n ≤ 100000)) (.ret (.int .i64 (2 * n + 5 * t + 6)) []))
  | _, _ => none
theorem laySize_ok : Spec.ok E0.I Try.prog 81 laySizeS := by
  intro args h o ho K hK
  unfold laySizeS at ho
  split at ho
  case h_2 => cases ho
  rename_i t n
  simp only [Option.some.injEq] at ho; subst ho
  obtain ⟨hp, hK⟩ := hK
  have hK : K (.int .i64 (2 * n + 5 * t + 6)) [] := hK
  refine CallOk.trim (callOk_of (E := E0) Try.checked.mixed (L := fun _ _ => none) (n := 10) (of_nf (q := K (AVal.int .i64 (W (W (W (W (W (W (W (W (W (1 + n) + 4) + W (n + 1)) - 1) + W (2 * t)) + 0) + W (3 * t)) + 0) + 1))) []) (by kernel_rfl) ?_))
  simp (disch := omega) only [W, W_in]
  refine cast (congrArg (fun z => K (AVal.int .i64 z) []) ?_) hK
  omega

def layLifeS : Spec Unit := fun args h => match args, h with
  | [.agg [.int .i64 t, .int .i64 n], .int .i64 a], [] => some (.pre ((0 ≤ t ∧ t ≤ 100000) ∧ (0 ≤ n ∧ n ≤ 100000) ∧ (-1099511627776 ≤ a ∧ a ≤ 1099511627776)) (.ret (.int .i64 (n + 4 + a)) []))
  | _, _ => none
theorem layLife_ok : Spec.ok E0.I Try.prog 19 layLifeS := by
  intro args h o ho K hK
  unfold layLifeS at ho
  split at ho
  case h_2 => cases ho
  rename_i t n a
  simp only [Option.some.injEq] at ho; subst ho
  obtain ⟨hp, hK⟩ := hK
  have hK : K (.int .i64 (n + 4 + a)) [] := hK
  refine CallOk.trim (callOk_of (E := E0) Try.checked.mixed (L := fun _ _ => none) (n := 10) (of_nf (q := K (AVal.int .i64 (W (W (W (W (1 + n) + 4) + a) - 1))) []) (by kernel_rfl) ?_))
  simp (disch := omega) only [W, W_in]
  refine cast (congrArg (fun z => K (AVal.int .i64 z) []) ?_) hK
  omega

def laySlotS : Spec Unit := fun args h => match args, h with
  | [.agg [.int .i64 t, .int .i64 n], .int .i64 a, .int .i64 b], [] => some (.pre ((0 ≤ t ∧ t ≤ 100000) ∧ (0 ≤ n ∧ n ≤ 100000) ∧ (-1099511627776 ≤ a ∧ a ≤ 1099511627776) ∧ (-1099511627776 ≤ b ∧ b ≤ 1099511627776)) (.ret (.int .i64 (2 * n + 5 + 2 * a + b)) []))
  | _, _ => none
theorem laySlot_ok : Spec.ok E0.I Try.prog 70 laySlotS := by
  intro args h o ho K hK
  unfold laySlotS at ho
  split at ho
  case h_2 => cases ho
  rename_i t n a b
  simp only [Option.some.injEq] at ho; subst ho
  obtain ⟨hp, hK⟩ := hK
  have hK : K (.int .i64 (2 * n + 5 + 2 * a + b)) [] := hK
  refine CallOk.trim (callOk_of (E := E0) Try.checked.mixed (L := fun _ _ => none) (n := 10) (of_nf (q := K (AVal.int .i64 (W (W (W (W (W (W (1 + n) + 4) + W (n + 1)) - 1) + W (2 * a)) + b))) []) (by kernel_rfl) ?_))
  simp (disch := omega) only [W, W_in]
  refine cast (congrArg (fun z => K (AVal.int .i64 z) []) ?_) hK
  omega

def layDescS : Spec Unit := fun args h => match args, h with
  | [.agg [.int .i64 t, .int .i64 n], .int .i64 a], [] => some (.pre ((0 ≤ t ∧ t ≤ 100000) ∧ (0 ≤ n ∧ n ≤ 100000) ∧ (-1099511627776 ≤ a ∧ a ≤ 1099511627776)) (.ret (.int .i64 (2 * n + 5 + 2 * t + 3 * a + 2)) []))
  | _, _ => none
theorem layDesc_ok : Spec.ok E0.I Try.prog 49 layDescS := by
  intro args h o ho K hK
  unfold layDescS at ho
  split at ho
  case h_2 => cases ho
  rename_i t n a
  simp only [Option.some.injEq] at ho; subst ho
  obtain ⟨hp, hK⟩ := hK
  have hK : K (.int .i64 (2 * n + 5 + 2 * t + 3 * a + 2)) [] := hK
  refine CallOk.trim (callOk_of (E := E0) Try.checked.mixed (L := fun _ _ => none) (n := 10) (of_nf (q := K (AVal.int .i64 (W (W (W (W (W (W (W (W (1 + n) + 4) + W (n + 1)) - 1) + W (2 * t)) + 0) + W (3 * a)) + 2))) []) (by kernel_rfl) ?_))
  simp (disch := omega) only [W, W_in]
  refine cast (congrArg (fun z => K (AVal.int .i64 z) []) ?_) hK
  omega

def layTaskS : Spec Unit := fun args h => match args, h with
  | [.agg [.int .i64 t, .int .i64 n], .int .i64 a], [] => some (.pre ((0 ≤ t ∧ t ≤ 100000) ∧ (0 ≤ n ∧ n ≤ 100000) ∧ (-1099511627776 ≤ a ∧ a ≤ 1099511627776)) (.ret (.int .i64 (2 * n + 5 + 2 * t + 3 * a + 1)) []))
  | _, _ => none
theorem layTask_ok : Spec.ok E0.I Try.prog 84 layTaskS := by
  intro args h o ho K hK
  unfold layTaskS at ho
  split at ho
  case h_2 => cases ho
  rename_i t n a
  simp only [Option.some.injEq] at ho; subst ho
  obtain ⟨hp, hK⟩ := hK
  have hK : K (.int .i64 (2 * n + 5 + 2 * t + 3 * a + 1)) [] := hK
  refine CallOk.trim (callOk_of (E := E0) Try.checked.mixed (L := fun _ _ => none) (n := 10) (of_nf (q := K (AVal.int .i64 (W (W (W (W (W (W (W (W (1 + n) + 4) + W (n + 1)) - 1) + W (2 * t)) + 0) + W (3 * a)) + 1))) []) (by kernel_rfl) ?_))
  simp (disch := omega) only [W, W_in]
  refine cast (congrArg (fun z => K (AVal.int .i64 z) []) ?_) hK
  omega

def layTicketS : Spec Unit := fun args h => match args, h with
  | [.agg [.int .i64 t, .int .i64 n], .int .i64 a], [] => some (.pre ((0 ≤ t ∧ t ≤ 100000) ∧ (0 ≤ n ∧ n ≤ 100000) ∧ (-1099511627776 ≤ a ∧ a ≤ 1099511627776)) (.ret (.int .i64 (2 * n + 5 + 2 * t + 3 * a)) []))
  | _, _ => none
theorem layTicket_ok : Spec.ok E0.I Try.prog 47 layTicketS := by
  intro args h o ho K hK
  unfold layTicketS at ho
  split at ho
  case h_2 => cases ho
  rename_i t n a
  simp only [Option.some.injEq] at ho; subst ho
  obtain ⟨hp, hK⟩ := hK
  have hK : K (.int .i64 (2 * n + 5 + 2 * t + 3 * a)) [] := hK
  refine CallOk.trim (callOk_of (E := E0) Try.checked.mixed (L := fun _ _ => none) (n := 10) (of_nf (q := K (AVal.int .i64 (W (W (W (W (W (W (W (W (1 + n) + 4) + W (n + 1)) - 1) + W (2 * t)) + 0) + W (3 * a)) + 0))) []) (by kernel_rfl) ?_))
  simp (disch := omega) only [W, W_in]
  refine cast (congrArg (fun z => K (AVal.int .i64 z) []) ?_) hK
  omega

def layCounterS : Spec Unit := fun args h => match args, h with
  | [.agg [.int .i64 t, .int .i64 n]], [] => some (.pre ((0 ≤ t ∧ t ≤ 100000) ∧ (0 ≤ n ∧ n ≤ 100000)) (.ret (.int .i64 (2 * n + 5 + 2 * t + 3 * t)) []))
  | _, _ => none
theorem layCounter_ok : Spec.ok E0.I Try.prog 51 layCounterS := by
  intro args h o ho K hK
  unfold layCounterS at ho
  split at ho
  case h_2 => cases ho
  rename_i t n
  simp only [Option.some.injEq] at ho; subst ho
  obtain ⟨hp, hK⟩ := hK
  have hK : K (.int .i64 (2 * n + 5 + 2 * t + 3 * t)) [] := hK
  refine CallOk.trim (callOk_of (E := E0) Try.checked.mixed (L := fun _ _ => none) (n := 10) (of_nf (q := K (AVal.int .i64 (W (W (W (W (W (W (W (W (1 + n) + 4) + W (n + 1)) - 1) + W (2 * t)) + 0) + W (3 * t)) + 0))) []) (by kernel_rfl) ?_))
  simp (disch := omega) only [W, W_in]
  refine cast (congrArg (fun z => K (AVal.int .i64 z) []) ?_) hK
  omega

def slotsS : Spec Unit := fun args h => match args, h with
  | [.agg [.int .i64 t, .int .i64 n]], [] => some (.pre ((0 ≤ t ∧ t ≤ 100000) ∧ (0 ≤ n ∧ n ≤ 100000)) (.ret (.int .i64 (2 * t)) []))
  | _, _ => none
theorem slots_ok : Spec.ok E0.I Try.prog 69 slotsS := by
  intro args h o ho K hK
  unfold slotsS at ho
  split at ho
  case h_2 => cases ho
  rename_i t n
  simp only [Option.some.injEq] at ho; subst ho
  obtain ⟨hp, hK⟩ := hK
  have hK : K (.int .i64 (2 * t)) [] := hK
  refine CallOk.trim (callOk_of (E := E0) Try.checked.mixed (L := fun _ _ => none) (n := 10) (of_nf (q := K (AVal.int .i64 (W (2 * t))) []) (by kernel_rfl) ?_))
  simp (disch := omega) only [W, W_in]
  refine cast (congrArg (fun z => K (AVal.int .i64 z) []) ?_) hK
  omega

/- OPQ -/
def rightB (t n : Int) : Bool := ile 1 t && ile t 8 && ile 1 n && ile n 200
theorem rightB_true {t n : Int} : rightB t n = true ↔ 1 ≤ t ∧ t ≤ 8 ∧ 1 ≤ n ∧ n ≤ 200 := by
  unfold rightB; simp only [ile_eq, Bool.and_eq_true, decide_eq_true_eq]; omega
/- OPQ -/
def nodeB (n a : Int) : Bool := ile 1 a && ile a n
theorem nodeB_true {n a : Int} : nodeB n a = true ↔ 1 ≤ a ∧ a ≤ n := by
  unfold nodeB; simp only [ile_eq, Bool.and_eq_true, decide_eq_true_eq]

def layRightS : Spec Unit := fun args h => match args, h with
  | [.agg [.int .i64 t, .int .i64 n]], [] => some (.pre (True) (.ret (.bool (rightB t n)) []))
  | _, _ => none
theorem layRight_ok : Spec.ok E0.I Try.prog 80 layRightS := by
  intro args h o ho K hK
  unfold layRightS at ho
  split at ho
  case h_2 => cases ho
  rename_i t n
  simp only [Option.some.injEq] at ho; subst ho
  obtain ⟨hp, hK⟩ := hK
  have hK : K (.bool (rightB t n)) [] := hK
  refine CallOk.trim (callOk_of (E := E0) Try.checked.mixed (L := fun _ _ => none) (n := 10) (of_nf (q := bif ile 1 t then bif ile t 8 then bif ile 1 n then K (AVal.bool (ile n 200)) [] else K (AVal.bool false) [] else K (AVal.bool false) [] else K (AVal.bool false) []) (by kernel_rfl) ?_))
  unfold rightB at hK
  refine cond_go (fun e1 => cond_go (fun e2 => cond_go (fun e3 => ?_) (fun e3 => ?_)) (fun e2 => ?_)) (fun e1 => ?_)
  all_goals (simp only [*, Bool.true_and, Bool.false_and, Bool.and_false] at hK; exact hK)

def layNodeS : Spec Unit := fun args h => match args, h with
  | [.agg [.int .i64 t, .int .i64 n], .int .i64 a], [] => some (.pre (True) (.ret (.bool (nodeB n a)) []))
  | _, _ => none
theorem layNode_ok : Spec.ok E0.I Try.prog 71 layNodeS := by
  intro args h o ho K hK
  unfold layNodeS at ho
  split at ho
  case h_2 => cases ho
  rename_i t n a
  simp only [Option.some.injEq] at ho; subst ho
  obtain ⟨hp, hK⟩ := hK
  have hK : K (.bool (nodeB n a)) [] := hK
  refine CallOk.trim (callOk_of (E := E0) Try.checked.mixed (L := fun _ _ => none) (n := 10) (of_nf (q := bif ile 1 a then K (AVal.bool (ile a n)) [] else K (AVal.bool false) []) (by kernel_rfl) ?_))
  unfold nodeB at hK
  refine cond_go (fun e1 => ?_) (fun e1 => ?_)
  all_goals (simp only [*, Bool.true_and, Bool.false_and, Bool.and_false] at hK; exact hK)

noncomputable def E1 := (((((((((E0.addS 81 laySizeS laySize_ok).addS 19 layLifeS layLife_ok).addS 70 laySlotS laySlot_ok).addS 49 layDescS layDesc_ok).addS 84 layTaskS layTask_ok).addS 47 layTicketS layTicket_ok).addS 51 layCounterS layCounter_ok).addS 69 slotsS slots_ok).addS 80 layRightS layRight_ok).addS 71 layNodeS layNode_ok

/-- a word -/
def peek (xs : List Int) (a : Int) : Int := if 0 ≤ a ∧ a < xs.length then xs.getD a.toNat 0 else 0
theorem peek_in {xs : List Int} {a : Int} (h : 0 ≤ a ∧ a < xs.length) : peek xs a = xs.getD a.toNat 0 := if_pos h
theorem peek_out {xs : List Int} {a : Int} (h : ¬ (0 ≤ a ∧ a < xs.length)) : peek xs a = 0 := if_neg h
/- OPQ -/
def inB (xs : List Int) (a : Int) : Bool := ile 0 a && ilt a (xs.length : Int)
theorem inB_true {xs : List Int} {a : Int} : inB xs a = true ↔ 0 ≤ a ∧ a < xs.length := by
  unfold inB; simp only [ile_eq, ilt_eq, Bool.and_eq_true, decide_eq_true_eq]
def setI (xs : List Int) (a x : Int) : List Int := xs.set a.toNat x
theorem setI_length (xs : List Int) (a x : Int) : (setI xs a x).length = xs.length := by simp [setI]
/-- an action that was done -/
def MS.did (s : MS) (k a w : Int) (ok : Bool) (xs : List Int) : MS := { s with xs := xs, c := s.c + 1, k := k, a := a, o := peek s.xs a, w := w, ok := ok }
def MS.load (s : MS) (a : Int) : MS := s.did 1 a (peek s.xs a) (inB s.xs a) s.xs
def MS.store (s : MS) (a x : Int) : MS := bif inB s.xs a then s.did 2 a x true (setI s.xs a x) else s.did 2 a 0 false s.xs

def memPat (h : Heap Unit) : Option (Nat × MS) := match h with
  | [some (.cells [.int .i64 t, .int .i64 n, .slice 1 0 len 1, .int .i64 c, .int .i64 k, .int .i64 a, .int .u64 o, .int .u64 w, .bool ok]), some (.ints (some .u64) xs)] => some (len, ⟨t, n, xs, c, k, a, o, w, ok⟩)
  | _ => none

theorem memPat_eq {h : Heap Unit} {l : Nat} {s : MS} (e : memPat h = some (l, s)) (hl : l = s.xs.length) : h = memH s := by
  unfold memPat at e
  split at e
  · simp only [Option.some.injEq, Prod.mk.injEq] at e
    obtain ⟨rfl, rfl⟩ := e
    simp only at hl; subst hl; rfl
  · cases e
theorem nat_id (x : Nat) : 0 + x * 1 = x := by omega

def peekS : Spec Unit := fun args h => match args, memPat h with
  | [.ptr 0 0, .int .i64 a], some (l, s) => some (.pre (l = s.xs.length ∧ True) (.ret (.int .u64 (peek s.xs a)) (memH (s))))
  | _, _ => none
theorem peek_ok : Spec.ok E1.I Try.prog 27 peekS := by
  intro args h o ho K hK
  unfold peekS at ho
  split at ho
  case h_2 => cases ho
  rename_i a l s hm
  simp only [Option.some.injEq] at ho; subst ho
  obtain ⟨⟨hl, hp⟩, hK⟩ := hK
  have hh := memPat_eq hm hl
  subst hh
  have hK : K (.int .u64 (peek s.xs a)) (memH (s)) := hK
  refine CallOk.trim (callOk_of (E := E1) Try.checked.mixed (L := fun _ _ => none) (n := 10) (of_nf (q := bif ilt a 0 then K (AVal.int .u64 0) [some (Entry.cells [AVal.int .i64 s.1, AVal.int .i64 s.2, AVal.slice 1 0 (List.length s.3) 1, AVal.int .i64 s.4, AVal.int .i64 s.5, AVal.int .i64 s.6, AVal.int .u64 s.7, AVal.int .u64 s.8, AVal.bool s.9]), some (Entry.ints (some .u64) s.3)] else bif ile (↑(List.length s.3) : Int) a then K (AVal.int .u64 0) [some (Entry.cells [AVal.int .i64 s.1, AVal.int .i64 s.2, AVal.slice 1 0 (List.length s.3) 1, AVal.int .i64 s.4, AVal.int .i64 s.5, AVal.int .i64 s.6, AVal.int .u64 s.7, AVal.int .u64 s.8, AVal.bool s.9]), some (Entry.ints (some .u64) s.3)] else ((0 : Int) ≤ a ∧ a < (↑(List.length s.3) : Int)) ∧ 0 + Int.toNat a * (1 : Nat) < List.length s.3 ∧ K (AVal.int .u64 (List.getD s.3 (0 + Int.toNat a * 1) 0)) [some (Entry.cells [AVal.int .i64 s.1, AVal.int .i64 s.2, AVal.slice 1 0 (List.length s.3) 1, AVal.int .i64 s.4, AVal.int .i64 s.5, AVal.int .i64 s.6, AVal.int .u64 s.7, AVal.int .u64 s.8, AVal.bool s.9]), some (Entry.ints (some .u64) s.3)]) (by kernel_rfl) ?_))
  refine cond_go (fun e1 => ?_) (fun e1 => cond_go (fun e2 => ?_) (fun e2 => ?_))
  · rw [ilt_eq, decide_eq_true_eq] at e1
    rw [peek_out (by omega)] at hK; exact hK
  · rw [ile_eq, decide_eq_true_eq] at e2
    rw [peek_out (by omega)] at hK; exact hK
  · rw [ilt_eq, decide_eq_false_iff_not] at e1
    rw [ile_eq, decide_eq_false_iff_not] at e2
    refine ⟨by omega, by omega, ?_⟩
    rw [peek_in (by omega)] at hK
    rw [nat_id]; exact hK

def actionsS : Spec Unit := fun args h => match args, memPat h with
  | [.ptr 0 0], some (l, s) => some (.pre (l = s.xs.length ∧ True) (.ret (.int .i64 s.c) (memH (s))))
  | _, _ => none
theorem actions_ok : Spec.ok E1.I Try.prog 60 actionsS := by
  intro args h o ho K hK
  unfold actionsS at ho
  split at ho
  case h_2 => cases ho
  rename_i  l s hm
  simp only [Option.some.injEq] at ho; subst ho
  obtain ⟨⟨hl, hp⟩, hK⟩ := hK
  have hh := memPat_eq hm hl
  subst hh
  have hK : K (.int .i64 s.c) (memH (s)) := hK
  refine CallOk.trim (callOk_of (E := E1) Try.checked.mixed (L := fun _ _ => none) (n := 10) (of_nf (q := K (AVal.int .i64 s.4) [some (Entry.cells [AVal.int .i64 s.1, AVal.int .i64 s.2, AVal.slice 1 0 (List.length s.3) 1, AVal.int .i64 s.4, AVal.int .i64 s.5, AVal.int .i64 s.6, AVal.int .u64 s.7, AVal.int .u64 s.8, AVal.bool s.9]), some (Entry.ints (some .u64) s.3)]) (by kernel_rfl) ?_))
  exact hK

def lastS : Spec Unit := fun args h => match args, memPat h with
  | [.ptr 0 0], some (l, s) => some (.pre (l = s.xs.length ∧ True) (.ret (.agg [.int .i64 s.k, .int .i64 s.a, .int .u64 s.o, .int .u64 s.w, .bool s.ok]) (memH (s))))
  | _, _ => none
theorem last_ok : Spec.ok E1.I Try.prog 98 lastS := by
  intro args h o ho K hK
  unfold lastS at ho
  split at ho
  case h_2 => cases ho
  rename_i  l s hm
  simp only [Option.some.injEq] at ho; subst ho
  obtain ⟨⟨hl, hp⟩, hK⟩ := hK
  have hh := memPat_eq hm hl
  subst hh
  have hK : K (.agg [.int .i64 s.k, .int .i64 s.a, .int .u64 s.o, .int .u64 s.w, .bool s.ok]) (memH (s)) := hK
  refine CallOk.trim (callOk_of (E := E1) Try.checked.mixed (L := fun _ _ => none) (n := 10) (of_nf (q := K (AVal.agg [AVal.int .i64 s.5, AVal.int .i64 s.6, AVal.int .u64 s.7, AVal.int .u64 s.8, AVal.bool s.9]) [some (Entry.cells [AVal.int .i64 s.1, AVal.int .i64 s.2, AVal.slice 1 0 (List.length s.3) 1, AVal.int .i64 s.4, AVal.int .i64 s.5, AVal.int .i64 s.6, AVal.int .u64 s.7, AVal.int .u64 s.8, AVal.bool s.9]), some (Entry.ints (some .u64) s.3)]) (by kernel_rfl) ?_))
  exact hK

def lastLS : Spec Unit := fun args h => match args, memPat h with
  | [.ptr 0 0], some (l, s) => some (.pre (l = s.xs.length ∧ True) (.ret (.agg [.int .i64 s.k, .int .i64 s.a, .int .u64 s.o, .int .u64 s.w, .bool s.ok]) (memH (s))))
  | _, _ => none
theorem lastL_ok : Spec.ok E1.I Try.prog 61 lastLS := by
  intro args h o ho K hK
  unfold lastLS at ho
  split at ho
  case h_2 => cases ho
  rename_i  l s hm
  simp only [Option.some.injEq] at ho; subst ho
  obtain ⟨⟨hl, hp⟩, hK⟩ := hK
  have hh := memPat_eq hm hl
  subst hh
  have hK : K (.agg [.int .i64 s.k, .int .i64 s.a, .int .u64 s.o, .int .u64 s.w, .bool s.ok]) (memH (s)) := hK
  refine CallOk.trim (callOk_of (E := E1) Try.checked.mixed (L := fun _ _ => none) (n := 10) (of_nf (q := K (AVal.agg [AVal.int .i64 s.5, AVal.int .i64 s.6, AVal.int .u64 s.7, AVal.int .u64 s.8, AVal.bool s.9]) [some (Entry.cells [AVal.int .i64 s.1, AVal.int .i64 s.2, AVal.slice 1 0 (List.length s.3) 1, AVal.int .i64 s.4, AVal.int .i64 s.5, AVal.int .i64 s.6, AVal.int .u64 s.7, AVal.int .u64 s.8, AVal.bool s.9]), some (Entry.ints (some .u64) s.3)]) (by kernel_rfl) ?_))
  exact hK

noncomputable def E2 := (((E1.addS 27 peekS peek_ok).addS 60 actionsS actions_ok).addS 98 lastS last_ok).addS 61 lastLS lastL_ok

end Go.Sh

/- The shared memory: the four actions. -/
namespace Go.Sh
open Go Go.Proofs
variable [Con]
def putI (xs : List Int) (a x : Int) : List Int := if 0 ≤ a ∧ a < xs.length then xs.set a.toNat x else xs
theorem putI_length (xs : List Int) (a x : Int) : (putI xs a x).length = xs.length := by unfold putI; split <;> simp
theorem putI_in {xs : List Int} {a x : Int} (h : 0 ≤ a ∧ a < xs.length) : putI xs a x = xs.set a.toNat x := if_pos h
theorem putI_out {xs : List Int} {a x : Int} (h : ¬ (0 ≤ a ∧ a < xs.length)) : putI xs a x = xs := if_neg h
theorem inB_false {xs : List Int} {a : Int} (h : ¬ (0 ≤ a ∧ a < xs.length)) : inB xs a = false := by
  cases e : inB xs a with
  | false => rfl
  | true => exact (h (inB_true.1 e)).elim
theorem set_peek {xs : List Int} {a : Int} (h : 0 ≤ a ∧ a < xs.length) : xs.set a.toNat (peek xs a) = xs := by
  rw [peek_in h]
  apply List.ext_getElem?
  intro i
  rw [List.getElem?_set]
  by_cases hi : a.toNat = i
  · subst hi
    have : a.toNat < xs.length := by omega
    simp [this]
  · simp [hi]
def MS.loadd (s : MS) (a : Int) : MS := s.did 1 a (peek s.xs a) (inB s.xs a) s.xs
def MS.stored (s : MS) (a x : Int) : MS := s.did 2 a (bif inB s.xs a then x else 0) (inB s.xs a) (putI s.xs a x)
/- OPQ -/
def casB (xs : List Int) (a x : Int) : Bool := inB xs a && ieq (peek xs a) x
def MS.cased (s : MS) (a x y : Int) : MS := s.did 3 a (bif inB s.xs a then y else 0) (casB s.xs a x) (bif casB s.xs a x then putI s.xs a y else s.xs)
def MS.added (s : MS) (a x : Int) : MS := s.did 4 a (bif inB s.xs a then IntKind.wrap .u64 (peek s.xs a + x) else 0) (inB s.xs a) (putI s.xs a (IntKind.wrap .u64 (peek s.xs a + x)))
theorem memH_did (s : MS) (k a w : Int) (ok : Bool) (xs : List Int) (h : xs.length = s.xs.length) : memH (s.did k a w ok xs) = [some (.cells [.int .i64 s.t, .int .i64 s.n, .slice 1 0 s.xs.length 1, .int .i64 (s.c + 1), .int .i64 k, .int .i64 a, .int .u64 (peek s.xs a), .int .u64 w, .bool ok]), some (.ints (some .u64) xs)] := by
  unfold memH MS.did
  simp only [h]

def loadS : Spec Unit := fun args h => match args, memPat h with
  | [.ptr 0 0, .int .i64 a], some (l, s) => some (.pre (l = s.xs.length ∧ (0 ≤ s.c ∧ s.c ≤ 4611686018427387904)) (.ret (.int .u64 (peek s.xs a)) (memH (s.loadd a))))
  | _, _ => none
theorem load_ok : Spec.ok E2.I Try.prog 83 loadS := by
  intro args h o ho K hK
  unfold loadS at ho
  split at ho
  case h_2 => cases ho
  rename_i a l s hm
  simp only [Option.some.injEq] at ho; subst ho
  obtain ⟨⟨hl, hp⟩, hK⟩ := hK
  have hh := memPat_eq hm hl
  subst hh
  have hK : K (.int .u64 (peek s.xs a)) (memH (s.loadd a)) := hK
  refine CallOk.trim (callOk_of (E := E2) Try.checked.mixed (L := fun _ _ => none) (n := 10) (of_nf (q := (List.length s.3 = List.length s.3 ∧ True) ∧ bif ilt a 0 then K (AVal.int .u64 (peek s.3 a)) [some (Entry.cells [AVal.int .i64 s.1, AVal.int .i64 s.2, AVal.slice 1 0 (List.length s.3) 1, AVal.int .i64 (W (s.4 + 1)), AVal.int .i64 1, AVal.int .i64 a, AVal.int .u64 (peek s.3 a), AVal.int .u64 (peek s.3 a), AVal.bool false]), some (Entry.ints (some .u64) s.3)] else bif ile (↑(List.length s.3) : Int) a then K (AVal.int .u64 (peek s.3 a)) [some (Entry.cells [AVal.int .i64 s.1, AVal.int .i64 s.2, AVal.slice 1 0 (List.length s.3) 1, AVal.int .i64 (W (s.4 + 1)), AVal.int .i64 1, AVal.int .i64 a, AVal.int .u64 (peek s.3 a), AVal.int .u64 (peek s.3 a), AVal.bool false]), some (Entry.ints (some .u64) s.3)] else ((0 : Int) ≤ a ∧ a < (↑(List.length s.3) : Int)) ∧ 0 + Int.toNat a * (1 : Nat) < List.length s.3 ∧ K (AVal.int .u64 (peek s.3 a)) [some (Entry.cells [AVal.int .i64 s.1, AVal.int .i64 s.2, AVal.slice 1 0 (List.length s.3) 1, AVal.int .i64 (W (s.4 + 1)), AVal.int .i64 1, AVal.int .i64 a, AVal.int .u64 (peek s.3 a), AVal.int .u64 (peek s.3 a), AVal.bool true]), some (Entry.ints (some .u64) (List.set s.3 (0 + Int.toNat a * 1) (peek s.3 a)))]) (by kernel_rfl) ?_))
  refine ⟨⟨rfl, trivial⟩, ?_⟩
  have hc : IntKind.wrap .i64 (s.c + 1) = s.c + 1 := W_in (by omega)
  simp only [W, WU, hc, nat_id]
  unfold MS.loadd at hK
  rw [memH_did _ _ _ _ _ _ rfl] at hK
  refine cond_go (fun e1 => ?_) (fun e1 => cond_go (fun e2 => ?_) (fun e2 => ?_))
  · rw [ilt_eq, decide_eq_true_eq] at e1
    rw [inB_false (by omega)] at hK; exact hK
  · rw [ile_eq, decide_eq_true_eq] at e2
    rw [inB_false (by omega)] at hK; exact hK
  · rw [ilt_eq, decide_eq_false_iff_not] at e1
    rw [ile_eq, decide_eq_false_iff_not] at e2
    refine ⟨by omega, by omega, ?_⟩
    rw [inB_true.2 (by omega)] at hK
    rw [set_peek (by omega)]; exact hK

def storeS : Spec Unit := fun args h => match args, memPat h with
  | [.ptr 0 0, .int .i64 a, .int .u64 x], some (l, s) => some (.pre (l = s.xs.length ∧ (0 ≤ s.c ∧ s.c ≤ 4611686018427387904)) (.ret (.tup []) (memH (s.stored a x))))
  | _, _ => none
theorem store_ok : Spec.ok E2.I Try.prog 18 storeS := by
  intro args h o ho K hK
  unfold storeS at ho
  split at ho
  case h_2 => cases ho
  rename_i a x l s hm
  simp only [Option.some.injEq] at ho; subst ho
  obtain ⟨⟨hl, hp⟩, hK⟩ := hK
  have hh := memPat_eq hm hl
  subst hh
  have hK : K (.tup []) (memH (s.stored a x)) := hK
  refine CallOk.trim (callOk_of (E := E2) Try.checked.mixed (L := fun _ _ => none) (n := 10) (of_nf (q := (List.length s.3 = List.length s.3 ∧ True) ∧ bif ilt a 0 then K (AVal.tup []) [some (Entry.cells [AVal.int .i64 s.1, AVal.int .i64 s.2, AVal.slice 1 0 (List.length s.3) 1, AVal.int .i64 (W (s.4 + 1)), AVal.int .i64 2, AVal.int .i64 a, AVal.int .u64 (peek s.3 a), AVal.int .u64 (peek s.3 a), AVal.bool false]), some (Entry.ints (some .u64) s.3)] else bif ile (↑(List.length s.3) : Int) a then K (AVal.tup []) [some (Entry.cells [AVal.int .i64 s.1, AVal.int .i64 s.2, AVal.slice 1 0 (List.length s.3) 1, AVal.int .i64 (W (s.4 + 1)), AVal.int .i64 2, AVal.int .i64 a, AVal.int .u64 (peek s.3 a), AVal.int .u64 (peek s.3 a), AVal.bool false]), some (Entry.ints (some .u64) s.3)] else ((0 : Int) ≤ a ∧ a < (↑(List.length s.3) : Int)) ∧ 0 + Int.toNat a * (1 : Nat) < List.length s.3 ∧ K (AVal.tup []) [some (Entry.cells [AVal.int .i64 s.1, AVal.int .i64 s.2, AVal.slice 1 0 (List.length s.3) 1, AVal.int .i64 (W (s.4 + 1)), AVal.int .i64 2, AVal.int .i64 a, AVal.int .u64 (peek s.3 a), AVal.int .u64 x, AVal.bool true]), some (Entry.ints (some .u64) (List.set s.3 (0 + Int.toNat a * 1) x))]) (by kernel_rfl) ?_))
  refine ⟨⟨rfl, trivial⟩, ?_⟩
  have hc : IntKind.wrap .i64 (s.c + 1) = s.c + 1 := W_in (by omega)
  simp only [W, WU, hc, nat_id]
  unfold MS.stored at hK
  rw [memH_did _ _ _ _ _ _ (putI_length _ _ _)] at hK
  refine cond_go (fun e1 => ?_) (fun e1 => cond_go (fun e2 => ?_) (fun e2 => ?_))
  · rw [ilt_eq, decide_eq_true_eq] at e1
    rw [inB_false (by omega), putI_out (by omega)] at hK
    rw [peek_out (by omega)] at hK ⊢; exact hK
  · rw [ile_eq, decide_eq_true_eq] at e2
    rw [inB_false (by omega), putI_out (by omega)] at hK
    rw [peek_out (by omega)] at hK ⊢; exact hK
  · rw [ilt_eq, decide_eq_false_iff_not] at e1
    rw [ile_eq, decide_eq_false_iff_not] at e2
    refine ⟨by omega, by omega, ?_⟩
    rw [inB_true.2 (by omega), putI_in (by omega)] at hK
    exact hK

def casS : Spec Unit := fun args h => match args, memPat h with
  | [.ptr 0 0, .int .i64 a, .int .u64 x, .int .u64 y], some (l, s) => some (.pre (l = s.xs.length ∧ (0 ≤ s.c ∧ s.c ≤ 4611686018427387904)) (.ret (.bool (casB s.xs a x)) (memH (s.cased a x y))))
  | _, _ => none
theorem cas_ok : Spec.ok E2.I Try.prog 141 casS := by
  intro args h o ho K hK
  unfold casS at ho
  split at ho
  case h_2 => cases ho
  rename_i a x y l s hm
  simp only [Option.some.injEq] at ho; subst ho
  obtain ⟨⟨hl, hp⟩, hK⟩ := hK
  have hh := memPat_eq hm hl
  subst hh
  have hK : K (.bool (casB s.xs a x)) (memH (s.cased a x y)) := hK
  refine CallOk.trim (callOk_of (E := E2) Try.checked.mixed (L := fun _ _ => none) (n := 10) (of_nf (q := (List.length s.3 = List.length s.3 ∧ True) ∧ bif ilt a 0 then K (AVal.bool false) [some (Entry.cells [AVal.int .i64 s.1, AVal.int .i64 s.2, AVal.slice 1 0 (List.length s.3) 1, AVal.int .i64 (W (s.4 + 1)), AVal.int .i64 3, AVal.int .i64 a, AVal.int .u64 (peek s.3 a), AVal.int .u64 (peek s.3 a), AVal.bool false]), some (Entry.ints (some .u64) s.3)] else bif ile (↑(List.length s.3) : Int) a then K (AVal.bool false) [some (Entry.cells [AVal.int .i64 s.1, AVal.int .i64 s.2, AVal.slice 1 0 (List.length s.3) 1, AVal.int .i64 (W (s.4 + 1)), AVal.int .i64 3, AVal.int .i64 a, AVal.int .u64 (peek s.3 a), AVal.int .u64 (peek s.3 a), AVal.bool false]), some (Entry.ints (some .u64) s.3)] else bif ieq (peek s.3 a) x then ((0 : Int) ≤ a ∧ a < (↑(List.length s.3) : Int)) ∧ 0 + Int.toNat a * (1 : Nat) < List.length s.3 ∧ K (AVal.bool (ieq (peek s.3 a) x)) [some (Entry.cells [AVal.int .i64 s.1, AVal.int .i64 s.2, AVal.slice 1 0 (List.length s.3) 1, AVal.int .i64 (W (s.4 + 1)), AVal.int .i64 3, AVal.int .i64 a, AVal.int .u64 (peek s.3 a), AVal.int .u64 y, AVal.bool (ieq (peek s.3 a) x)]), some (Entry.ints (some .u64) (List.set s.3 (0 + Int.toNat a * 1) y))] else K (AVal.bool (ieq (peek s.3 a) x)) [some (Entry.cells [AVal.int .i64 s.1, AVal.int .i64 s.2, AVal.slice 1 0 (List.length s.3) 1, AVal.int .i64 (W (s.4 + 1)), AVal.int .i64 3, AVal.int .i64 a, AVal.int .u64 (peek s.3 a), AVal.int .u64 y, AVal.bool (ieq (peek s.3 a) x)]), some (Entry.ints (some .u64) s.3)]) (by kernel_rfl) ?_))
  refine ⟨⟨rfl, trivial⟩, ?_⟩
  have hc : IntKind.wrap .i64 (s.c + 1) = s.c + 1 := W_in (by omega)
  simp only [W, WU, hc, nat_id]
  unfold MS.cased at hK
  rw [memH_did _ _ _ _ _ _ (by cases casB s.xs a x <;> first | exact putI_length _ _ _ | rfl)] at hK
  unfold casB at hK
  refine cond_go (fun e1 => ?_) (fun e1 => cond_go (fun e2 => ?_) (fun e2 => ?_))
  · rw [ilt_eq, decide_eq_true_eq] at e1
    rw [inB_false (by omega)] at hK
    rw [peek_out (by omega)] at hK ⊢; exact hK
  · rw [ile_eq, decide_eq_true_eq] at e2
    rw [inB_false (by omega)] at hK
    rw [peek_out (by omega)] at hK ⊢; exact hK
  · rw [ilt_eq, decide_eq_false_iff_not] at e1
    rw [ile_eq, decide_eq_false_iff_not] at e2
    rw [inB_true.2 (by omega), putI_in (by omega)] at hK
    simp only [Bool.true_and, cond_true] at hK
    refine cond_go (fun e3 => ⟨by omega, by omega, ?_⟩) (fun e3 => ?_)
    · rw [e3] at hK ⊢; exact hK
    · rw [e3] at hK ⊢; exact hK

def addS : Spec Unit := fun args h => match args, memPat h with
  | [.ptr 0 0, .int .i64 a, .int .u64 x], some (l, s) => some (.pre (l = s.xs.length ∧ (0 ≤ s.c ∧ s.c ≤ 4611686018427387904)) (.ret (.int .u64 (peek s.xs a)) (memH (s.added a x))))
  | _, _ => none
theorem add_ok : Spec.ok E2.I Try.prog 85 addS := by
  intro args h o ho K hK
  unfold addS at ho
  split at ho
  case h_2 => cases ho
  rename_i a x l s hm
  simp only [Option.some.injEq] at ho; subst ho
  obtain ⟨⟨hl, hp⟩, hK⟩ := hK
  have hh := memPat_eq hm hl
  subst hh
  have hK : K (.int .u64 (peek s.xs a)) (memH (s.added a x)) := hK
  refine CallOk.trim (callOk_of (E := E2) Try.checked.mixed (L := fun _ _ => none) (n := 10) (of_nf (q := (List.length s.3 = List.length s.3 ∧ True) ∧ bif ilt a 0 then K (AVal.int .u64 (peek s.3 a)) [some (Entry.cells [AVal.int .i64 s.1, AVal.int .i64 s.2, AVal.slice 1 0 (List.length s.3) 1, AVal.int .i64 (W (s.4 + 1)), AVal.int .i64 4, AVal.int .i64 a, AVal.int .u64 (peek s.3 a), AVal.int .u64 (peek s.3 a), AVal.bool false]), some (Entry.ints (some .u64) s.3)] else bif ile (↑(List.length s.3) : Int) a then K (AVal.int .u64 (peek s.3 a)) [some (Entry.cells [AVal.int .i64 s.1, AVal.int .i64 s.2, AVal.slice 1 0 (List.length s.3) 1, AVal.int .i64 (W (s.4 + 1)), AVal.int .i64 4, AVal.int .i64 a, AVal.int .u64 (peek s.3 a), AVal.int .u64 (peek s.3 a), AVal.bool false]), some (Entry.ints (some .u64) s.3)] else ((0 : Int) ≤ a ∧ a < (↑(List.length s.3) : Int)) ∧ 0 + Int.toNat a * (1 : Nat) < List.length s.3 ∧ K (AVal.int .u64 (peek s.3 a)) [some (Entry.cells [AVal.int .i64 s.1, AVal.int .i64 s.2, AVal.slice 1 0 (List.length s.3) 1, AVal.int .i64 (W (s.4 + 1)), AVal.int .i64 4, AVal.int .i64 a, AVal.int .u64 (peek s.3 a), AVal.int .u64 (WU (peek s.3 a + x)), AVal.bool true]), some (Entry.ints (some .u64) (List.set s.3 (0 + Int.toNat a * 1) (WU (peek s.3 a + x))))]) (by kernel_rfl) ?_))
  refine ⟨⟨rfl, trivial⟩, ?_⟩
  have hc : IntKind.wrap .i64 (s.c + 1) = s.c + 1 := W_in (by omega)
  simp only [W, WU, hc, nat_id]
  unfold MS.added at hK
  rw [memH_did _ _ _ _ _ _ (putI_length _ _ _)] at hK
  refine cond_go (fun e1 => ?_) (fun e1 => cond_go (fun e2 => ?_) (fun e2 => ?_))
  · rw [ilt_eq, decide_eq_true_eq] at e1
    rw [inB_false (by omega), putI_out (by omega)] at hK
    rw [peek_out (by omega)] at hK ⊢; exact hK
  · rw [ile_eq, decide_eq_true_eq] at e2
    rw [inB_false (by omega), putI_out (by omega)] at hK
    rw [peek_out (by omega)] at hK ⊢; exact hK
  · rw [ilt_eq, decide_eq_false_iff_not] at e1
    rw [ile_eq, decide_eq_false_iff_not] at e2
    refine ⟨by omega, by omega, ?_⟩
    rw [inB_true.2 (by omega), putI_in (by omega)] at hK
    exact hK

noncomputable def E3 := (((E2.addS 83 loadS load_ok).addS 18 storeS store_ok).addS 141 casS cas_ok).addS 85 addS add_ok

end Go.Sh

/- A store's first node; a machine that takes a node, begun. -/
namespace Go.Sh
open Go Go.Proofs
variable [Con]
def firstV (t n me : Int) : Int := if t < 1 then 1 else 1 + Int.tdiv (me * n) t
theorem tdiv_in {x t : Int} (h : 0 ≤ x) (ht : 1 ≤ t) : 0 ≤ Int.tdiv x t ∧ Int.tdiv x t ≤ x := by
  rw [Int.tdiv_eq_ediv_of_nonneg h]
  exact ⟨Int.ediv_nonneg h (by omega), Int.ediv_le_self t h⟩

def first0S : Spec Unit := fun args h => match args, h with
  | [.ptr 0 0], some (.cells (.int .i64 t :: .int .i64 n :: .int .i64 me :: tl)) :: rest => some (.pre ((0 ≤ me ∧ me ≤ 100000) ∧ (0 ≤ n ∧ n ≤ 100000)) (.ret (.int .i64 (firstV t n me)) (some (.cells (.int .i64 t :: .int .i64 n :: .int .i64 me :: tl)) :: rest)))
  | _, _ => none
theorem first0_ok : Spec.ok E3.I Try.prog 138 first0S := by
  intro args h o ho K hK
  unfold first0S at ho
  split at ho
  case h_2 => cases ho
  rename_i t n me tl rest
  simp only [Option.some.injEq] at ho; subst ho
  obtain ⟨hp, hK⟩ := hK
  have hK : K (.int .i64 (firstV t n me)) (some (.cells (.int .i64 t :: .int .i64 n :: .int .i64 me :: tl)) :: rest) := hK
  refine (callOk_of (E := E3) Try.checked.mixed (L := fun _ _ => none) (n := 10) (of_nf (q := bif ilt t 1 then K (AVal.int .i64 1) (some (Entry.cells (AVal.int .i64 t :: AVal.int .i64 n :: AVal.int .i64 me :: tl)) :: rest) else t ≠ (0 : Int) ∧ K (AVal.int .i64 (W (1 + W (Int.tdiv (W (me * n)) t)))) (some (Entry.cells (AVal.int .i64 t :: AVal.int .i64 n :: AVal.int .i64 me :: tl)) :: rest)) (by kernel_rfl) ?_))
  obtain ⟨⟨h1, h2⟩, h3, h4⟩ := hp
  have hm : 0 ≤ me * n ∧ me * n ≤ 100000 * 100000 := ⟨Int.mul_nonneg h1 h3, Int.mul_le_mul h2 h4 h3 (by omega)⟩
  refine cond_go (fun e => ?_) (fun e => ?_)
  · rw [ilt_eq, decide_eq_true_eq] at e
    unfold firstV at hK; rw [if_pos e] at hK; exact hK
  · rw [ilt_eq, decide_eq_false_iff_not] at e
    refine ⟨by omega, ?_⟩
    unfold firstV at hK; rw [if_neg e] at hK
    have := tdiv_in (x := me * n) (t := t) hm.1 (by omega)
    simp (disch := omega) only [W, W_in]
    exact hK

def firstS : RSpec Unit := fun args h => match args, h with
  | [.ptr 0 0], some (.cells (.int .i64 t :: .int .i64 n :: .int .i64 me :: tl)) :: rest => some (((0 ≤ me ∧ me ≤ 100000) ∧ (0 ≤ n ∧ n ≤ 100000)), .int .i64 (firstV t n me))
  | _, _ => none
theorem first_ok : Spec.ok E3.I Try.prog 138 firstS.spec := by
  intro args h o ho
  unfold RSpec.spec at ho
  split at ho
  case h_2 => cases ho
  rename_i p v hv
  unfold firstS at hv
  split at hv
  case h_2 => cases hv
  simp only [Option.some.injEq, Prod.mk.injEq] at hv
  obtain ⟨rfl, rfl⟩ := hv
  exact first0_ok _ _ o ho

def lifeNewS : Spec Unit := fun args h => match args, h with
  | [.agg [.int .i64 t, .int .i64 n], .int .i64 a], [] => some (.pre (True) (.ret (.ptr 0 0) ([some (.cells [.int .i64 t, .int .i64 n, .int .i64 0, .int .i64 (bif nodeB n a then a else 1), .int .i64 n, .int .u64 0, .bool false])])))
  | _, _ => none
theorem lifeNew_ok : Spec.ok E3.I Try.prog 137 lifeNewS := by
  intro args h o ho K hK
  unfold lifeNewS at ho
  split at ho
  case h_2 => cases ho
  rename_i t n a
  simp only [Option.some.injEq] at ho; subst ho
  obtain ⟨hp, hK⟩ := hK
  have hK : K (.ptr 0 0) ([some (.cells [.int .i64 t, .int .i64 n, .int .i64 0, .int .i64 (bif nodeB n a then a else 1), .int .i64 n, .int .u64 0, .bool false])]) := hK
  refine CallOk.trim (callOk_of (E := E3) Try.checked.mixed (L := fun _ _ => none) (n := 10) (of_nf (q := True ∧ bif !nodeB n a then K (AVal.ptr 0 0) [some (Entry.cells [AVal.int .i64 t, AVal.int .i64 n, AVal.int .i64 0, AVal.int .i64 1, AVal.int .i64 n, AVal.int .u64 0, AVal.bool false])] else K (AVal.ptr 0 0) [some (Entry.cells [AVal.int .i64 t, AVal.int .i64 n, AVal.int .i64 0, AVal.int .i64 a, AVal.int .i64 n, AVal.int .u64 0, AVal.bool false])]) (by kernel_rfl) ?_))
  refine ⟨trivial, cond_go (fun e => ?_) (fun e => ?_)⟩
  · have e' : nodeB n a = false := by simpa using e
    rw [e'] at hK; exact hK
  · have e' : nodeB n a = true := by simpa using e
    rw [e'] at hK; exact hK

noncomputable def E4a := E3.addS 137 lifeNewS lifeNew_ok

noncomputable def E4 := E4a.addR 138 firstS first_ok

end Go.Sh

/- The example of a store. -/
namespace Go.Sh
open Go Go.Proofs
variable [Con]
noncomputable def LL : FuncId → Nat → Option (Plan Unit) := fun _ _ => some (.rounds 12)

def awake13S : Spec Unit := fun args h => match args, h with
  | [], [] => some (.pre (True) (.ret (.bool true) ([])))
  | _, _ => none
theorem awake13_ok : Spec.ok E4.I Try.prog 14 awake13S := by
  intro args h o ho K hK
  unfold awake13S at ho
  split at ho
  case h_2 => cases ho
  skip
  simp only [Option.some.injEq] at ho; subst ho
  obtain ⟨hp, hK⟩ := hK
  have hK : K (.bool true) ([]) := hK
  refine CallOk.trim (callOk_of (E := E4) Try.checked.mixed (L := LL) (n := 10) (of_nf (q := True ∧ (((0 : Int) ≤ (2 : Int) ∧ (2 : Int) ≤ (100000 : Int)) ∧ (0 : Int) ≤ (4 : Int) ∧ (4 : Int) ≤ (100000 : Int)) ∧ ((((0 : Int) ≤ (2 : Int) ∧ (2 : Int) ≤ (100000 : Int)) ∧ (0 : Int) ≤ (4 : Int) ∧ (4 : Int) ≤ (100000 : Int)) ∧ True) ∧ ((0 : Int) ≤ (2 : Int) * 4 + 5 * 2 + 6 ∧ 2 * 4 + 5 * 2 + (6 : Int) = (2 : Int) * 4 + 5 * 2 + 6 ∧ 2 * 4 + 5 * 2 + (6 : Int) ≤ (4294967296 : Int)) ∧ ((0 : Int) ≤ (0 : Int) ∧ (0 : Int) < (↑1 : Int)) ∧ (((0 : Int) ≤ (1 : Int) ∧ (1 : Int) ≤ (100000 : Int)) ∧ (0 : Int) ≤ (4 : Int) ∧ (4 : Int) ≤ (100000 : Int)) ∧ (True ∧ True) ∧ ((((0 : Int) ≤ (2 : Int) ∧ (2 : Int) ≤ (100000 : Int)) ∧ ((0 : Int) ≤ (4 : Int) ∧ (4 : Int) ≤ (100000 : Int)) ∧ (-1099511627776 : Int) ≤ firstV 2 4 1 ∧ firstV 2 4 (1 : Int) ≤ (1099511627776 : Int)) ∧ True) ∧ ((24 = 24 ∧ (0 : Int) ≤ (0 : Int) ∧ (0 : Int) ≤ (4611686018427387904 : Int)) ∧ True) ∧ (2 : Int) ≠ (0 : Int) ∧ ((((0 : Int) ≤ (2 : Int) ∧ (2 : Int) ≤ (100000 : Int)) ∧ ((0 : Int) ≤ (4 : Int) ∧ (4 : Int) ≤ (100000 : Int)) ∧ (-1099511627776 : Int) ≤ firstV 2 4 1 ∧ firstV 2 4 (1 : Int) ≤ (1099511627776 : Int)) ∧ True) ∧ ((24 = 24 ∧ (0 : Int) ≤ (0 : Int) + 1 ∧ 0 + (1 : Int) ≤ (4611686018427387904 : Int)) ∧ True) ∧ True ∧ (((0 : Int) ≤ (2 : Int) ∧ (2 : Int) ≤ (100000 : Int)) ∧ ((0 : Int) ≤ (4 : Int) ∧ (4 : Int) ≤ (100000 : Int)) ∧ (-1099511627776 : Int) ≤ (3 : Int) ∧ (3 : Int) ≤ (1099511627776 : Int)) ∧ (24 = 24 ∧ True) ∧ (2 : Int) ≠ (0 : Int) ∧ K (AVal.bool true) []) (by kernel_rfl) ?_))
  have hf : firstV 2 4 1 = 3 := by decide
  simp only [hf]
  simp
  exact hK

noncomputable def E5 := E4.addS 14 awake13S awake13_ok

end Go.Sh

/- A list's copy; two lists that are one. -/
namespace Go.Sh
open Go Go.Proofs
variable [Con]
def cloneS : Spec Unit := fun args h => match args, h with
  | [.slice 0 0 n 1], [some (.ints (some .i64) xs)] => some (.pre (n = xs.length ∧ n ≤ 4294967296) (.ret (.slice 1 0 xs.length 1) [some (.ints (some .i64) xs), some (.ints (some .i64) xs)]))
  | _, _ => none
theorem clone_ok : Spec.ok E5.I Try.prog 76 cloneS := by
  intro args h o ho K hK
  unfold cloneS at ho
  split at ho
  case h_2 => cases ho
  rename_i n xs
  simp only [Option.some.injEq] at ho; subst ho
  obtain ⟨⟨rfl, hp⟩, hK⟩ := hK
  have hK : K (.slice 1 0 xs.length 1) [some (.ints (some .i64) xs), some (.ints (some .i64) xs)] := hK
  refine CallOk.trim (CallOk.castR (cs := [(.slot 0, .ints (some .i64))]) (callOk_of (E := E5) Try.checked.mixed (L := LL) (n := 10) (of_nf (q := ∀ (b : Bool), (b = true → List.length xs = 0) → bif b then K (AVal.slice 1 0 0 1) [some (Entry.ints (some .i64) xs), some (Entry.ints (some .i64) [])] else (0 + List.length xs ≤ List.length xs ∧ 0 + List.length xs ≤ (4294967296 : Nat)) ∧ K (AVal.slice 1 0 (0 + List.length xs) 1) [some (Entry.ints (some .i64) xs), some (Entry.ints (some .i64) ([] ++ List.take (List.length xs) (List.drop 0 xs)))]) (by kernel_rfl) ?_)))
  intro b hb
  refine cond_go (fun e => ?_) (fun e => ⟨⟨by omega, by omega⟩, ?_⟩)
  · have h0 := List.length_eq_zero_iff.1 (hb e)
    subst h0; exact hK
  · simpa using hK

/- OPQ -/
def sameB (xs ys : List Int) : Bool := decide (xs = ys)
theorem sameB_true {xs ys : List Int} : sameB xs ys = true ↔ xs = ys := by unfold sameB; exact decide_eq_true_iff
structure okI (xs ys : List Int) (i : Nat) : Prop where
  h1 : i ≤ xs.length
  h2 : xs.length = ys.length
  h3 : xs.take i = ys.take i
def HI (xs ys : List Int) : Hint Unit := { X := Nat, st := fun i => ([.slice 0 0 xs.length 1, .slice 1 0 ys.length 1, .top, .top, .top, .int .i64 (i : Int)] ++ List.replicate 20 .top, [some (.ints (some .i64) xs), some (.ints (some .i64) ys)]), ok := okI xs ys, mu := fun i => xs.length - i, keep := [0, 1, 5] }
def intsS0 : Spec Unit := fun args h => match args, h with
  | [.slice 0 0 n 1, .slice 1 0 m 1], [some (.ints (some .i64) xs), some (.ints (some .i64) ys)] => some (.pre ((n = xs.length ∧ m = ys.length) ∧ n ≤ 4294967296) (.ret (.bool (sameB xs ys)) [some (.ints (some .i64) xs), some (.ints (some .i64) ys)]))
  | _, _ => none
theorem ints0_ok : Spec.ok E5.I Try.prog 23 intsS0 := by
  intro args h o ho K hK
  unfold intsS0 at ho
  split at ho
  case h_2 => cases ho
  rename_i n m xs ys
  simp only [Option.some.injEq] at ho; subst ho
  obtain ⟨⟨⟨rfl, rfl⟩, hp⟩, hK⟩ := hK
  have hK : K (.bool (sameB xs ys)) [some (.ints (some .i64) xs), some (.ints (some .i64) ys)] := hK
  refine (callOk_of (E := E5) Try.checked.mixed (L := fun _ _ => some (.states (HI xs ys))) (n := 10) (of_nf (q := bif !ieq (↑(List.length xs) : Int) (↑(List.length ys) : Int) then K (AVal.bool false) [some (Entry.ints (some .i64) xs), some (Entry.ints (some .i64) ys)] else okSt (HI xs ys) (Hint.ok (HI xs ys)) [AVal.slice 0 0 (List.length xs) 1, AVal.slice 1 0 (List.length ys) 1, AVal.top, AVal.top, AVal.top, AVal.int .i64 0, AVal.top, AVal.top, AVal.top, AVal.top, AVal.top, AVal.top, AVal.top, AVal.top, AVal.top, AVal.top, AVal.top, AVal.top, AVal.top, AVal.top, AVal.top, AVal.top, AVal.top, AVal.top, AVal.top, AVal.top] [some (Entry.ints (some .i64) xs), some (Entry.ints (some .i64) ys)] ∧ ∀ (x : Nat), okI xs ys x → bif ilt (↑x : Int) (↑(List.length xs) : Int) then ((0 : Int) ≤ (↑x : Int) ∧ (↑x : Int) < (↑(List.length xs) : Int)) ∧ 0 + Int.toNat (↑x : Int) * (1 : Nat) < List.length xs ∧ ((0 : Int) ≤ (↑x : Int) ∧ (↑x : Int) < (↑(List.length ys) : Int)) ∧ 0 + Int.toNat (↑x : Int) * (1 : Nat) < List.length ys ∧ bif !ieq (List.getD xs (0 + Int.toNat (↑x : Int) * 1) 0) (List.getD ys (0 + Int.toNat (↑x : Int) * 1) 0) then K (AVal.bool false) [some (Entry.ints (some .i64) xs), some (Entry.ints (some .i64) ys)] else okSt (HI xs ys) (fun x' => Hint.ok (HI xs ys) x' ∧ Hint.mu (HI xs ys) x' < Hint.mu (HI xs ys) x) [AVal.slice 0 0 (List.length xs) 1, AVal.slice 1 0 (List.length ys) 1, AVal.top, AVal.top, AVal.top, AVal.int .i64 (W ((↑x : Int) + 1)), AVal.top, AVal.top, AVal.top, AVal.top, AVal.top, AVal.top, AVal.top, AVal.top, AVal.top, AVal.top, AVal.top, AVal.top, AVal.top, AVal.top, AVal.top, AVal.top, AVal.top, AVal.top, AVal.top, AVal.top] [some (Entry.ints (some .i64) xs), some (Entry.ints (some .i64) ys)] else K (AVal.bool true) [some (Entry.ints (some .i64) xs), some (Entry.ints (some .i64) ys)]) (by kernel_rfl) ?_))
  have hS : sameB xs ys = decide (xs = ys) := rfl
  refine cond_go (fun e => ?_) (fun e => ⟨okSt_intro (H := HI xs ys) (0 : Nat) rfl ⟨Nat.zero_le _, ?_, rfl⟩, ?_⟩)
  · rw [ieq_eq] at e
    have : xs ≠ ys := by rintro rfl; simp at e
    rw [hS, decide_eq_false this] at hK; exact hK
  · rw [ieq_eq] at e; simp at e; omega
  · rintro i ⟨h1, h2, h3⟩
    refine cond_go (fun e1 => ?_) (fun e1 => ?_)
    · rw [ilt_eq, decide_eq_true_eq] at e1
      have hi : i < xs.length := by omega
      have e2 : 0 + (i : Int).toNat * 1 = i := by omega
      rw [e2]
      refine ⟨by omega, hi, by omega, by omega, cond_go (fun e3 => ?_) (fun e3 => ?_)⟩
      · rw [ieq_eq] at e3
        have : xs ≠ ys := by rintro rfl; simp at e3
        rw [hS, decide_eq_false this] at hK; exact hK
      · rw [ieq_eq] at e3
        have e3 : xs.getD i 0 = ys.getD i 0 := by simpa using e3
        have e4 : IntKind.wrap .i64 ((i : Int) + 1) = ((i + 1 : Nat) : Int) := by rw [W_in (by omega)]; rfl
        refine okSt_intro (H := HI xs ys) (i + 1 : Nat) (by simp only [W, e4]; rfl) ⟨⟨hi, h2, ?_⟩, by show xs.length - (i + 1) < xs.length - i; omega⟩
        have hj : i < ys.length := by omega
        rw [List.getD_eq_getElem?_getD, List.getElem?_eq_getElem hi, List.getD_eq_getElem?_getD, List.getElem?_eq_getElem hj] at e3
        rw [List.take_succ_eq_append_getElem hi, List.take_succ_eq_append_getElem hj, h3]
        have e5 : xs[i] = ys[i] := by simpa using e3
        rw [e5]
    · rw [ilt_eq, decide_eq_false_iff_not] at e1
      have : xs = ys := by
        rw [List.take_of_length_le (by omega), List.take_of_length_le (by omega)] at h3; exact h3
      rw [hS, decide_eq_true this] at hK; exact hK

def intsS : RSpec Unit := fun args h => match args, h with
  | [.slice 0 0 n 1, .slice 1 0 m 1], [some (.ints (some .i64) xs), some (.ints (some .i64) ys)] => some ((n = xs.length ∧ m = ys.length) ∧ n ≤ 4294967296, .bool (sameB xs ys))
  | _, _ => none
theorem ints_ok : Spec.ok E5.I Try.prog 23 intsS.spec := by
  intro args h o ho
  unfold RSpec.spec at ho
  split at ho
  case h_2 => cases ho
  rename_i p v hv
  unfold intsS at hv
  split at hv
  case h_2 => cases hv
  simp only [Option.some.injEq, Prod.mk.injEq] at hv
  obtain ⟨rfl, rfl⟩ := hv
  exact ints0_ok _ _ o ho
noncomputable def E6 := (E5.addS 76 cloneS clone_ok).addR 23 intsS ints_ok
end Go.Sh

/- A store: begun; what it holds; whether it is full. -/
namespace Go.Sh
open Go Go.Proofs
variable [Con]
def storeNewS : Spec Unit := fun args h => match args, h with
  | [.agg [.int .i64 t, .int .i64 n], .int .i64 me], [] => some (.ret (.ptr 0 0) [some (.cells [.int .i64 t, .int .i64 n, .int .i64 me, .int .i64 0, .raw (.slice none 0 0)])])
  | _, _ => none
theorem storeNew_ok : Spec.ok E6.I Try.prog 34 storeNewS := by
  intro args h o ho K hK
  unfold storeNewS at ho
  split at ho
  case h_2 => cases ho
  rename_i t n me
  simp only [Option.some.injEq] at ho; subst ho
  have hK : K (.ptr 0 0) [some (.cells [.int .i64 t, .int .i64 n, .int .i64 me, .int .i64 0, .raw (.slice none 0 0)])] := hK
  exact CallOk.trim (callOk_of (E := E6) Try.checked.mixed (L := LL) (n := 10) (of_nf (q := K (AVal.ptr 0 0) [some (Entry.cells [AVal.int .i64 t, AVal.int .i64 n, AVal.int .i64 me, AVal.int .i64 0, AVal.raw (Value.slice none 0 0)])]) (by kernel_rfl) hK))

/- OPQ -/
def heldL (sp : Int) (xs : List Int) : List Int := bif ieq sp 0 then xs else sp :: xs
def heldS : Spec Unit := fun args h => match args, h with
  | [.ptr 0 0], [some (.cells [.int .i64 t, .int .i64 n, .int .i64 me, .int .i64 sp, .slice 1 0 k 1]), some (.ints (some .i64) xs)] => some (.pre (k = xs.length ∧ k ≤ 1000000) (.ret (.slice 2 0 (heldL sp xs).length 1) [some (.cells [.int .i64 t, .int .i64 n, .int .i64 me, .int .i64 sp, .slice 1 0 k 1]), some (.ints (some .i64) xs), some (.ints (some .i64) (heldL sp xs))]))
  | _, _ => none
theorem held_ok : Spec.ok E6.I Try.prog 37 heldS := by
  intro args h o ho K hK
  unfold heldS at ho
  split at ho
  case h_2 => cases ho
  rename_i t n me sp k xs
  simp only [Option.some.injEq] at ho; subst ho
  obtain ⟨⟨rfl, hp⟩, hK⟩ := hK
  have hK : K (.slice 2 0 (heldL sp xs).length 1) [some (.cells [.int .i64 t, .int .i64 n, .int .i64 me, .int .i64 sp, .slice 1 0 xs.length 1]), some (.ints (some .i64) xs), some (.ints (some .i64) (heldL sp xs))] := hK
  refine CallOk.trim (CallOk.castR (cs := [(.slot 0, .ints (some .i64))]) (callOk_of (E := E6) Try.checked.mixed (L := LL) (n := 10) (of_nf (q := bif ieq sp 0 then (List.length xs = List.length xs ∧ List.length xs ≤ (4294967296 : Nat)) ∧ K (AVal.slice 2 0 (List.length xs) 1) [some (Entry.cells [AVal.int .i64 t, AVal.int .i64 n, AVal.int .i64 me, AVal.int .i64 sp, AVal.slice 1 0 (List.length xs) 1]), some (Entry.ints (some .i64) xs), some (Entry.ints (some .i64) xs)] else (0 + List.length xs ≤ List.length xs ∧ 1 + List.length xs ≤ (4294967296 : Nat)) ∧ K (AVal.slice 2 0 (1 + List.length xs) 1) [some (Entry.cells [AVal.int .i64 t, AVal.int .i64 n, AVal.int .i64 me, AVal.int .i64 sp, AVal.slice 1 0 (List.length xs) 1]), some (Entry.ints (some .i64) xs), some (Entry.ints (some .i64) ([sp] ++ List.take (List.length xs) (List.drop 0 xs)))]) (by kernel_rfl) ?_)))
  unfold heldL at hK
  refine cond_go (fun e => ⟨⟨rfl, by omega⟩, ?_⟩) (fun e => ⟨⟨by omega, by omega⟩, ?_⟩)
  · rw [e] at hK; exact hK
  · rw [e] at hK
    simp only [cond_false] at hK
    have e1 : 1 + xs.length = (sp :: xs).length := by simp; omega
    have e2 : [sp] ++ List.take xs.length (List.drop 0 xs) = sp :: xs := by simp
    rw [e1, e2]; exact hK

def fullS0 : Spec Unit := fun args h => match args, h with
  | [.ptr 0 0], some (.cells [.int .i64 t, .int .i64 n, .int .i64 me, .int .i64 sp, .slice 1 0 k 1]) :: rest => some (.pre (0 ≤ t ∧ t ≤ 100000) (.ret (.bool (ile (4 * t) (k : Int))) (some (.cells [.int .i64 t, .int .i64 n, .int .i64 me, .int .i64 sp, .slice 1 0 k 1]) :: rest)))
  | _, _ => none
theorem full0_ok : Spec.ok E6.I Try.prog 38 fullS0 := by
  intro args h o ho K hK
  unfold fullS0 at ho
  split at ho
  case h_2 => cases ho
  rename_i t n me sp k rest
  simp only [Option.some.injEq] at ho; subst ho
  obtain ⟨hp, hK⟩ := hK
  have hK : K (.bool (ile (4 * t) (k : Int))) (some (.cells [.int .i64 t, .int .i64 n, .int .i64 me, .int .i64 sp, .slice 1 0 k 1]) :: rest) := hK
  refine (callOk_of (E := E6) Try.checked.mixed (L := LL) (n := 10) (of_nf (q := K (AVal.bool (ile (W (4 * t)) (↑k : Int))) (some (Entry.cells [AVal.int .i64 t, AVal.int .i64 n, AVal.int .i64 me, AVal.int .i64 sp, AVal.slice 1 0 k 1]) :: rest)) (by kernel_rfl) ?_))
  simp (disch := omega) only [W, W_in]
  exact hK
def fullS : RSpec Unit := fun args h => match args, h with
  | [.ptr 0 0], some (.cells [.int .i64 t, .int .i64 n, .int .i64 me, .int .i64 sp, .slice 1 0 k 1]) :: rest => some (0 ≤ t ∧ t ≤ 100000, .bool (ile (4 * t) (k : Int)))
  | _, _ => none
theorem full_ok : Spec.ok E6.I Try.prog 38 fullS.spec := by
  intro args h o ho
  unfold RSpec.spec at ho
  split at ho
  case h_2 => cases ho
  rename_i p v hv
  unfold fullS at hv
  split at hv
  case h_2 => cases hv
  simp only [Option.some.injEq, Prod.mk.injEq] at hv
  obtain ⟨rfl, rfl⟩ := hv
  exact full0_ok _ _ o ho
noncomputable def E7 := ((E6.addS 34 storeNewS storeNew_ok).addS 37 heldS held_ok).addR 38 fullS full_ok
end Go.Sh

/- What a store holds: the law's walk. -/
namespace Go.Sh
open Go Go.Proofs
variable [Con]
structure okH (n : Nat) (x : Nat × Int × List Int) : Prop where
  h1 : x.1 ≤ n
  h2 : x.2.2.length ≤ 2 * x.1
structure okN (n : Nat) (i0 : Int) (x : Int × List Int × List Int × Nat × List Int) : Prop where
  h1 : 0 ≤ i0
  h2 : i0 < n
  h3 : (x.2.1.length : Int) ≤ 2 * i0 + 2
  h4 : heldL x.1 x.2.1 = x.2.2.1
  h5 : x.2.2.2.1 ≤ x.2.2.2.2.length
  h6 : x.2.2.2.2.length ≤ 1000000
def rest85 : List AVal := List.replicate 85 .top
def HH (f g : Nat → Int) (n : Nat) (t : Int) : Hint Unit := { X := Nat × Int × List Int, st := fun x => ([.top, .top, .top, .top, .top, .ptr 0 0, .ptr 1 0, .slice 3 0 x.2.2.length 1, .int .i64 x.2.1] ++ List.replicate 18 .top ++ [.view n 2 (fun i => [.int .u8 (f i), .int .u8 (g i)]), .int .i64 (n : Int), .int .i64 (x.1 : Int)] ++ List.replicate 85 .top, [some (.cells [.int .i64 t, .int .i64 200]), some (.cells [.int .i64 t, .int .i64 200, .int .i64 0, .int .i64 x.2.1, .slice 2 0 x.2.2.length 1]), some (.ints (some .i64) x.2.2), some (.ints (some .i64) x.2.2)]), ok := okH n, mu := fun x => n - x.1, keep := [5, 6, 7, 8, 27, 28, 29], casts := [(.slot 7, .ints (some .i64)), (.cell 1 4, .ints (some .i64))] }
def HN (f g : Nat → Int) (n : Nat) (t : Int) (i0 : Int) : Hint Unit := { X := Int × List Int × List Int × Nat × List Int, st := fun x => ([.top, .top, .top, .top, .top, .ptr 0 0, .ptr 1 0, .slice 3 0 x.2.1.length 1, .int .i64 x.1, .top, .top, .top, .slice 4 0 x.2.2.1.length 1, .slice 5 0 x.2.2.2.2.length 1] ++ List.replicate 13 .top ++ [.view n 2 (fun i => [.int .u8 (f i), .int .u8 (g i)]), .int .i64 (n : Int), .int .i64 i0] ++ List.replicate 71 .top ++ [.int .i64 (x.2.2.2.2.length : Int), .int .i64 (x.2.2.2.1 : Int)] ++ List.replicate 12 .top, [some (.cells [.int .i64 t, .int .i64 200]), some (.cells [.int .i64 t, .int .i64 200, .int .i64 0, .int .i64 x.1, .slice 2 0 x.2.1.length 1]), some (.ints (some .i64) x.2.1), some (.ints (some .i64) x.2.1), some (.ints (some .i64) x.2.2.1), some (.ints (some .i64) x.2.2.2.2)]), ok := okN n i0, mu := fun x => x.2.2.2.2.length - x.2.2.2.1, keep := [5, 6, 7, 8, 12, 13, 27, 28, 29, 101, 102] }
def planH (f g : Nat → Int) (n : Nat) (t : Int) : FuncId → Nat → Option (Plan Unit) := fun _ k => if k = 10 then some (.states (HH f g n t)) else some (.statesAt 29 (HN f g n t))
theorem bounds_u8 {n : Int} (h : codeWf (some .u8) n) : 0 ≤ n ∧ n ≤ 255 := by
  have h : (decide (IntKind.min .u8 ≤ n) && decide (n ≤ IntKind.max .u8)) = true := h
  simp only [Bool.and_eq_true, decide_eq_true_eq] at h
  exact h
theorem heldL_len (sp : Int) (xs : List Int) : (heldL sp xs).length ≤ xs.length + 1 := by
  unfold heldL
  cases ieq sp 0 <;> simp
theorem heldL_no {sp : Int} (xs : List Int) (h : ieq sp 0 = false) : heldL sp xs = [sp] ++ xs := by unfold heldL; rw [h]; rfl
theorem heldL_yes {sp : Int} (xs : List Int) (h : ieq sp 0 = true) : heldL sp xs = xs := by unfold heldL; rw [h]; rfl
theorem sameB_self (xs : List Int) : sameB xs xs = true := sameB_true.2 rfl
theorem ieq_self (a : Int) : ieq a a = true := by rw [ieq_eq]; simp
theorem same_self (b : Bool) : (bif b then b else !b) = true := by cases b <;> rfl
theorem not_go {b : Bool} (h : (!b) = true) : b = false := by simpa using h
theorem not_go' {b : Bool} (h : (!b) = false) : b = true := by simpa using h
theorem holds_ok (f g : Nat → Int) (n : Nat) (th : Int) (hth : 0 ≤ th ∧ th ≤ 255) : CallOk E7.I Try.prog 6 [.int .u8 th, .view n 2 (fun i => [.int .u8 (f i), .int .u8 (g i)])] ([] : Heap Unit) (fun v _ => v = .bool true) := by
  refine callOk_of (E := E7) Try.checked.mixed (L := planH f g n (W (1 + Int.tmod (W th) 8))) (n := 10) (of_nf (q := True ∧ bif ilt 60 (↑n : Int) then AVal.bool true = AVal.bool true else (8 : Int) ≠ (0 : Int) ∧ okSt (HH f g n (W (1 + Int.tmod (W th) 8))) (Hint.ok (HH f g n (W (1 + Int.tmod (W th) 8)))) [AVal.top, AVal.top, AVal.top, AVal.top, AVal.top, AVal.ptr 0 0, AVal.ptr 1 0, AVal.slice 3 0 0 1, AVal.int .i64 0, AVal.top, AVal.top, AVal.top, AVal.top, AVal.top, AVal.top, AVal.top, AVal.top, AVal.top, AVal.top, AVal.top, AVal.top, AVal.top, AVal.top, AVal.top, AVal.top, AVal.top, AVal.top, AVal.view n 2 fun i => [AVal.int .u8 (f i), AVal.int .u8 (g i)], AVal.int .i64 (↑n : Int), AVal.int .i64 0, AVal.top, AVal.top, AVal.top, AVal.top, AVal.top, AVal.top, AVal.top, AVal.top, AVal.top, AVal.top, AVal.top, AVal.top, AVal.top, AVal.top, AVal.top, AVal.top, AVal.top, AVal.top, AVal.top, AVal.top, AVal.top, AVal.top, AVal.top, AVal.top, AVal.top, AVal.top, AVal.top, AVal.top, AVal.top, AVal.top, AVal.top, AVal.top, AVal.top, AVal.top, AVal.top, AVal.top, AVal.top, AVal.top, AVal.top, AVal.top, AVal.top, AVal.top, AVal.top, AVal.top, AVal.top, AVal.top, AVal.top, AVal.top, AVal.top, AVal.top, AVal.top, AVal.top, AVal.top, AVal.top, AVal.top, AVal.top, AVal.top, AVal.top, AVal.top, AVal.top, AVal.top, AVal.top, AVal.top, AVal.top, AVal.top, AVal.top, AVal.top, AVal.top, AVal.top, AVal.top, AVal.top, AVal.top, AVal.top, AVal.top, AVal.top, AVal.top, AVal.top, AVal.top, AVal.top, AVal.top, AVal.top, AVal.top, AVal.top, AVal.top, AVal.top] [some (Entry.cells [AVal.int .i64 (W (1 + Int.tmod (W th) 8)), AVal.int .i64 200]), some (Entry.cells [AVal.int .i64 (W (1 + Int.tmod (W th) 8)), AVal.int .i64 200, AVal.int .i64 0, AVal.int .i64 0, AVal.slice 2 0 0 1]), some (Entry.ints (some .i64) []), some (Entry.ints (some .i64) [])] ∧ ∀ (x : Hint.X (HH f g n (W (1 + Int.tmod (W th) 8)))), okH n x → bif ilt (↑x.1 : Int) (↑n : Int) then ((0 : Int) ≤ (↑x.1 : Int) ∧ (↑x.1 : Int) < (↑n : Int)) ∧ ((0 : Int) ≤ (1 : Int) ∧ (1 : Int) < (↑2 : Int)) ∧ ((0 : Int) ≤ (0 : Int) ∧ (0 : Int) < (↑2 : Int)) ∧ (3 : Int) ≠ (0 : Int) ∧ bif ieq (Int.tmod (f (Int.toNat (↑x.1 : Int))) 3) 0 then (0 = 0 ∧ List.length (Prod.snd x).2 = List.length (Prod.snd x).2 ∧ 1 = 1 ∧ List.length (Prod.snd x).2 + (2 : Nat) ≤ (4294967296 : Nat)) ∧ (0 = 0 ∧ List.length (Prod.snd x).2 = List.length (Prod.snd x).2 ∧ 1 = 1 ∧ List.length (Prod.snd x).2 + (2 : Nat) ≤ (4294967296 : Nat)) ∧ (0 + (List.length (Prod.snd x).2 + 2) ≤ List.length ((Prod.snd x).2 ++ [W (g (Int.toNat (↑x.1 : Int))), W (W (g (Int.toNat (↑x.1 : Int))) + 1)]) ∧ 0 + (List.length (Prod.snd x).2 + 2) ≤ (4294967296 : Nat)) ∧ bif !ieq (Prod.snd x).1 0 then (0 + (List.length (Prod.snd x).2 + 2) ≤ List.length ((Prod.snd x).2 ++ [W (g (Int.toNat (↑x.1 : Int))), W (W (g (Int.toNat (↑x.1 : Int))) + 1)]) ∧ 1 + (List.length (Prod.snd x).2 + 2) ≤ (4294967296 : Nat)) ∧ (List.length (Prod.snd x).2 + (2 : Nat) = List.length ((Prod.snd x).2 ++ [W (g (Int.toNat (↑x.1 : Int))), W (W (g (Int.toNat (↑x.1 : Int))) + 1)]) ∧ List.length (Prod.snd x).2 + (2 : Nat) ≤ (1000000 : Nat)) ∧ ((List.length (heldL (Prod.snd x).1 ((Prod.snd x).2 ++ [W (g (Int.toNat (↑x.1 : Int))), W (W (g (Int.toNat (↑x.1 : Int))) + 1)])) = List.length (heldL (Prod.snd x).1 ((Prod.snd x).2 ++ [W (g (Int.toNat (↑x.1 : Int))), W (W (g (Int.toNat (↑x.1 : Int))) + 1)])) ∧ 1 + (List.length (Prod.snd x).2 + 2) = List.length ([(Prod.snd x).1] ++ List.take (List.length (Prod.snd x).2 + 2) (List.drop 0 ((Prod.snd x).2 ++ [W (g (Int.toNat (↑x.1 : Int))), W (W (g (Int.toNat (↑x.1 : Int))) + 1)])))) ∧ List.length (heldL (Prod.snd x).1 ((Prod.snd x).2 ++ [W (g (Int.toNat (↑x.1 : Int))), W (W (g (Int.toNat (↑x.1 : Int))) + 1)])) ≤ (4294967296 : Nat)) ∧ bif !sameB (heldL (Prod.snd x).1 ((Prod.snd x).2 ++ [W (g (Int.toNat (↑x.1 : Int))), W (W (g (Int.toNat (↑x.1 : Int))) + 1)])) ([(Prod.snd x).1] ++ List.take (List.length (Prod.snd x).2 + 2) (List.drop 0 ((Prod.snd x).2 ++ [W (g (Int.toNat (↑x.1 : Int))), W (W (g (Int.toNat (↑x.1 : Int))) + 1)]))) then AVal.bool false = AVal.bool true else ((0 : Int) ≤ W (1 + Int.tmod (W th) 8) ∧ W (1 + Int.tmod (W th) 8) ≤ (100000 : Int)) ∧ bif !bif ile (4 * W (1 + Int.tmod (W th) 8)) (↑(List.length (Prod.snd x).2 + 2) : Int) then ile (W (4 * W (1 + Int.tmod (W th) 8))) (↑(List.length (Prod.snd x).2 + 2) : Int) else !ile (W (4 * W (1 + Int.tmod (W th) 8))) (↑(List.length (Prod.snd x).2 + 2) : Int) then AVal.bool false = AVal.bool true else bif !ieq (Prod.snd x).1 (Prod.snd x).1 then AVal.bool false = AVal.bool true else okSt (HN f g n (W (1 + Int.tmod (W th) 8)) (↑(Prod.fst x) : Int)) (Hint.ok (HN f g n (W (1 + Int.tmod (W th) 8)) (↑(Prod.fst x) : Int))) [AVal.top, AVal.top, AVal.top, AVal.top, AVal.top, AVal.ptr 0 0, AVal.ptr 1 0, AVal.slice 3 0 (List.length (Prod.snd x).2 + 2) 1, AVal.int .i64 (Prod.snd x).1, AVal.top, AVal.top, AVal.top, AVal.slice 4 0 (1 + (List.length (Prod.snd x).2 + 2)) 1, AVal.slice 5 0 (List.length (heldL (Prod.snd x).1 ((Prod.snd x).2 ++ [W (g (Int.toNat (↑x.1 : Int))), W (W (g (Int.toNat (↑x.1 : Int))) + 1)]))) 1, AVal.top, AVal.top, AVal.top, AVal.top, AVal.top, AVal.top, AVal.top, AVal.top, AVal.top, AVal.top, AVal.top, AVal.top, AVal.top, AVal.view n 2 fun i => [AVal.int .u8 (f i), AVal.int .u8 (g i)], AVal.int .i64 (↑n : Int), AVal.int .i64 (↑x.1 : Int), AVal.top, AVal.top, AVal.top, AVal.top, AVal.top, AVal.top, AVal.top, AVal.top, AVal.top, AVal.top, AVal.top, AVal.top, AVal.top, AVal.top, AVal.top, AVal.top, AVal.top, AVal.top, AVal.top, AVal.top, AVal.top, AVal.top, AVal.top, AVal.top, AVal.top, AVal.top, AVal.top, AVal.top, AVal.top, AVal.top, AVal.top, AVal.top, AVal.top, AVal.top, AVal.top, AVal.top, AVal.top, AVal.top, AVal.top, AVal.top, AVal.top, AVal.top, AVal.top, AVal.top, AVal.top, AVal.top, AVal.top, AVal.top, AVal.top, AVal.top, AVal.top, AVal.top, AVal.top, AVal.top, AVal.top, AVal.top, AVal.top, AVal.top, AVal.top, AVal.top, AVal.top, AVal.top, AVal.top, AVal.top, AVal.top, AVal.top, AVal.top, AVal.top, AVal.top, AVal.top, AVal.top, AVal.int .i64 (↑(List.length (heldL (Prod.snd x).1 ((Prod.snd x).2 ++ [W (g (Int.toNat (↑x.1 : Int))), W (W (g (Int.toNat (↑x.1 : Int))) + 1)]))) : Int), AVal.int .i64 0, AVal.top, AVal.top, AVal.top, AVal.top, AVal.top, AVal.top, AVal.top, AVal.top, AVal.top, AVal.top, AVal.top, AVal.top] [some (Entry.cells [AVal.int .i64 (W (1 + Int.tmod (W th) 8)), AVal.int .i64 200]), some (Entry.cells [AVal.int .i64 (W (1 + Int.tmod (W th) 8)), AVal.int .i64 200, AVal.int .i64 0, AVal.int .i64 (Prod.snd x).1, AVal.slice 2 0 (List.length (Prod.snd x).2 + 2) 1]), some (Entry.ints (some .i64) ((Prod.snd x).2 ++ [W (g (Int.toNat (↑x.1 : Int))), W (W (g (Int.toNat (↑x.1 : Int))) + 1)])), some (Entry.ints (some .i64) ((Prod.snd x).2 ++ [W (g (Int.toNat (↑x.1 : Int))), W (W (g (Int.toNat (↑x.1 : Int))) + 1)])), some (Entry.ints (some .i64) ([(Prod.snd x).1] ++ List.take (List.length (Prod.snd x).2 + 2) (List.drop 0 ((Prod.snd x).2 ++ [W (g (Int.toNat (↑x.1 : Int))), W (W (g (Int.toNat (↑x.1 : Int))) + 1)])))), some (Entry.ints (some .i64) (heldL (Prod.snd x).1 ((Prod.snd x).2 ++ [W (g (Int.toNat (↑x.1 : Int))), W (W (g (Int.toNat (↑x.1 : Int))) + 1)])))] ∧ ∀ (x_1 : Hint.X (HN f g n (W (1 + Int.tmod (W th) 8)) (↑(Prod.fst x) : Int))), okN n (↑x.1 : Int) x_1 → bif ilt (↑(Prod.snd (Prod.snd (Prod.snd x_1))).1 : Int) (↑(List.length (Prod.snd (Prod.snd (Prod.snd x_1))).2) : Int) then ((0 : Int) ≤ (↑(Prod.snd (Prod.snd (Prod.snd x_1))).1 : Int) ∧ (↑(Prod.snd (Prod.snd (Prod.snd x_1))).1 : Int) < (↑(List.length (Prod.snd (Prod.snd (Prod.snd x_1))).2) : Int)) ∧ 0 + Int.toNat (↑(Prod.snd (Prod.snd (Prod.snd x_1))).1 : Int) * (1 : Nat) < List.length (Prod.snd (Prod.snd (Prod.snd x_1))).2 ∧ okSt (HN f g n (W (1 + Int.tmod (W th) 8)) (↑(Prod.fst x) : Int)) (fun x' => Hint.ok (HN f g n (W (1 + Int.tmod (W th) 8)) (↑(Prod.fst x) : Int)) x' ∧ Hint.mu (HN f g n (W (1 + Int.tmod (W th) 8)) (↑(Prod.fst x) : Int)) x' < Hint.mu (HN f g n (W (1 + Int.tmod (W th) 8)) (↑(Prod.fst x) : Int)) x_1) [AVal.top, AVal.top, AVal.top, AVal.top, AVal.top, AVal.ptr 0 0, AVal.ptr 1 0, AVal.slice 3 0 (List.length (Prod.snd x_1).1) 1, AVal.int .i64 x_1.1, AVal.top, AVal.top, AVal.top, AVal.slice 4 0 (List.length (Prod.snd (Prod.snd x_1)).1) 1, AVal.slice 5 0 (List.length (Prod.snd (Prod.snd (Prod.snd x_1))).2) 1, AVal.top, AVal.top, AVal.top, AVal.top, AVal.top, AVal.top, AVal.top, AVal.top, AVal.top, AVal.top, AVal.top, AVal.top, AVal.top, AVal.view n 2 fun i => [AVal.int .u8 (f i), AVal.int .u8 (g i)], AVal.int .i64 (↑n : Int), AVal.int .i64 (↑x.1 : Int), AVal.top, AVal.top, AVal.top, AVal.top, AVal.top, AVal.top, AVal.top, AVal.top, AVal.top, AVal.top, AVal.top, AVal.top, AVal.top, AVal.top, AVal.top, AVal.top, AVal.top, AVal.top, AVal.top, AVal.top, AVal.top, AVal.top, AVal.top, AVal.top, AVal.top, AVal.top, AVal.top, AVal.top, AVal.top, AVal.top, AVal.top, AVal.top, AVal.top, AVal.top, AVal.top, AVal.top, AVal.top, AVal.top, AVal.top, AVal.top, AVal.top, AVal.top, AVal.top, AVal.top, AVal.top, AVal.top, AVal.top, AVal.top, AVal.top, AVal.top, AVal.top, AVal.top, AVal.top, AVal.top, AVal.top, AVal.top, AVal.top, AVal.top, AVal.top, AVal.top, AVal.top, AVal.top, AVal.top, AVal.top, AVal.top, AVal.top, AVal.top, AVal.top, AVal.top, AVal.top, AVal.top, AVal.int .i64 (↑(List.length (Prod.snd (Prod.snd (Prod.snd x_1))).2) : Int), AVal.int .i64 (W ((↑(Prod.snd (Prod.snd (Prod.snd x_1))).1 : Int) + 1)), AVal.top, AVal.top, AVal.top, AVal.top, AVal.top, AVal.top, AVal.top, AVal.top, AVal.top, AVal.top, AVal.top, AVal.top] [some (Entry.cells [AVal.int .i64 (W (1 + Int.tmod (W th) 8)), AVal.int .i64 200]), some (Entry.cells [AVal.int .i64 (W (1 + Int.tmod (W th) 8)), AVal.int .i64 200, AVal.int .i64 0, AVal.int .i64 x_1.1, AVal.slice 2 0 (List.length (Prod.snd x_1).1) 1]), some (Entry.ints (some .i64) (Prod.snd x_1).1), some (Entry.ints (some .i64) (Prod.snd x_1).1), some (Entry.ints (some .i64) (Prod.snd (Prod.snd x_1)).1), some (Entry.ints (some .i64) (List.set (Prod.snd (Prod.snd (Prod.snd x_1))).2 (0 + Int.toNat (↑(Prod.snd (Prod.snd (Prod.snd x_1))).1 : Int) * 1) (-1 : Int)))] else (List.length (Prod.snd x_1).1 = List.length (Prod.snd x_1).1 ∧ List.length (Prod.snd x_1).1 ≤ (1000000 : Nat)) ∧ ((List.length (heldL x_1.1 (Prod.snd x_1).1) = List.length (heldL x_1.1 (Prod.snd x_1).1) ∧ List.length (Prod.snd (Prod.snd x_1)).1 = List.length (Prod.snd (Prod.snd x_1)).1) ∧ List.length (heldL x_1.1 (Prod.snd x_1).1) ≤ (4294967296 : Nat)) ∧ bif !sameB (heldL x_1.1 (Prod.snd x_1).1) (Prod.snd (Prod.snd x_1)).1 then AVal.bool false = AVal.bool true else okSt (HH f g n (W (1 + Int.tmod (W th) 8))) (fun x' => Hint.ok (HH f g n (W (1 + Int.tmod (W th) 8))) x' ∧ Hint.mu (HH f g n (W (1 + Int.tmod (W th) 8))) x' < Hint.mu (HH f g n (W (1 + Int.tmod (W th) 8))) x) [AVal.top, AVal.top, AVal.top, AVal.top, AVal.top, AVal.ptr 0 0, AVal.ptr 1 0, AVal.slice 3 0 (List.length (Prod.snd x_1).1) 1, AVal.int .i64 x_1.1, AVal.top, AVal.top, AVal.top, AVal.top, AVal.top, AVal.top, AVal.top, AVal.top, AVal.top, AVal.top, AVal.top, AVal.top, AVal.top, AVal.top, AVal.top, AVal.top, AVal.top, AVal.top, AVal.view n 2 fun i => [AVal.int .u8 (f i), AVal.int .u8 (g i)], AVal.int .i64 (↑n : Int), AVal.int .i64 (W ((↑x.1 : Int) + 1)), AVal.top, AVal.top, AVal.top, AVal.top, AVal.top, AVal.top, AVal.top, AVal.top, AVal.top, AVal.top, AVal.top, AVal.top, AVal.top, AVal.top, AVal.top, AVal.top, AVal.top, AVal.top, AVal.top, AVal.top, AVal.top, AVal.top, AVal.top, AVal.top, AVal.top, AVal.top, AVal.top, AVal.top, AVal.top, AVal.top, AVal.top, AVal.top, AVal.top, AVal.top, AVal.top, AVal.top, AVal.top, AVal.top, AVal.top, AVal.top, AVal.top, AVal.top, AVal.top, AVal.top, AVal.top, AVal.top, AVal.top, AVal.top, AVal.top, AVal.top, AVal.top, AVal.top, AVal.top, AVal.top, AVal.top, AVal.top, AVal.top, AVal.top, AVal.top, AVal.top, AVal.top, AVal.top, AVal.top, AVal.top, AVal.top, AVal.top, AVal.top, AVal.top, AVal.top, AVal.top, AVal.top, AVal.top, AVal.top, AVal.top, AVal.top, AVal.top, AVal.top, AVal.top, AVal.top, AVal.top, AVal.top, AVal.top, AVal.top, AVal.top, AVal.top] [some (Entry.cells [AVal.int .i64 (W (1 + Int.tmod (W th) 8)), AVal.int .i64 200]), some (Entry.cells [AVal.int .i64 (W (1 + Int.tmod (W th) 8)), AVal.int .i64 200, AVal.int .i64 0, AVal.int .i64 x_1.1, AVal.slice 2 0 (List.length (Prod.snd x_1).1) 1]), some (Entry.ints (some .i64) (Prod.snd x_1).1), some (Entry.ints (some .i64) (Prod.snd x_1).1)] else (List.length (Prod.snd x).2 + (2 : Nat) = List.length ((Prod.snd x).2 ++ [W (g (Int.toNat (↑x.1 : Int))), W (W (g (Int.toNat (↑x.1 : Int))) + 1)]) ∧ List.length (Prod.snd x).2 + (2 : Nat) ≤ (1000000 : Nat)) ∧ ((List.length (heldL (Prod.snd x).1 ((Prod.snd x).2 ++ [W (g (Int.toNat (↑x.1 : Int))), W (W (g (Int.toNat (↑x.1 : Int))) + 1)])) = List.length (heldL (Prod.snd x).1 ((Prod.snd x).2 ++ [W (g (Int.toNat (↑x.1 : Int))), W (W (g (Int.toNat (↑x.1 : Int))) + 1)])) ∧ 0 + (List.length (Prod.snd x).2 + 2) = List.length ([] ++ List.take (List.length (Prod.snd x).2 + 2) (List.drop 0 ((Prod.snd x).2 ++ [W (g (Int.toNat (↑x.1 : Int))), W (W (g (Int.toNat (↑x.1 : Int))) + 1)])))) ∧ List.length (heldL (Prod.snd x).1 ((Prod.snd x).2 ++ [W (g (Int.toNat (↑x.1 : Int))), W (W (g (Int.toNat (↑x.1 : Int))) + 1)])) ≤ (4294967296 : Nat)) ∧ bif !sameB (heldL (Prod.snd x).1 ((Prod.snd x).2 ++ [W (g (Int.toNat (↑x.1 : Int))), W (W (g (Int.toNat (↑x.1 : Int))) + 1)])) ([] ++ List.take (List.length (Prod.snd x).2 + 2) (List.drop 0 ((Prod.snd x).2 ++ [W (g (Int.toNat (↑x.1 : Int))), W (W (g (Int.toNat (↑x.1 : Int))) + 1)]))) then AVal.bool false = AVal.bool true else ((0 : Int) ≤ W (1 + Int.tmod (W th) 8) ∧ W (1 + Int.tmod (W th) 8) ≤ (100000 : Int)) ∧ bif !bif ile (4 * W (1 + Int.tmod (W th) 8)) (↑(List.length (Prod.snd x).2 + 2) : Int) then ile (W (4 * W (1 + Int.tmod (W th) 8))) (↑(List.length (Prod.snd x).2 + 2) : Int) else !ile (W (4 * W (1 + Int.tmod (W th) 8))) (↑(List.length (Prod.snd x).2 + 2) : Int) then AVal.bool false = AVal.bool true else bif !ieq (Prod.snd x).1 (Prod.snd x).1 then AVal.bool false = AVal.bool true else okSt (HN f g n (W (1 + Int.tmod (W th) 8)) (↑(Prod.fst x) : Int)) (Hint.ok (HN f g n (W (1 + Int.tmod (W th) 8)) (↑(Prod.fst x) : Int))) [AVal.top, AVal.top, AVal.top, AVal.top, AVal.top, AVal.ptr 0 0, AVal.ptr 1 0, AVal.slice 3 0 (List.length (Prod.snd x).2 + 2) 1, AVal.int .i64 (Prod.snd x).1, AVal.top, AVal.top, AVal.top, AVal.slice 4 0 (0 + (List.length (Prod.snd x).2 + 2)) 1, AVal.slice 5 0 (List.length (heldL (Prod.snd x).1 ((Prod.snd x).2 ++ [W (g (Int.toNat (↑x.1 : Int))), W (W (g (Int.toNat (↑x.1 : Int))) + 1)]))) 1, AVal.top, AVal.top, AVal.top, AVal.top, AVal.top, AVal.top, AVal.top, AVal.top, AVal.top, AVal.top, AVal.top, AVal.top, AVal.top, AVal.view n 2 fun i => [AVal.int .u8 (f i), AVal.int .u8 (g i)], AVal.int .i64 (↑n : Int), AVal.int .i64 (↑x.1 : Int), AVal.top, AVal.top, AVal.top, AVal.top, AVal.top, AVal.top, AVal.top, AVal.top, AVal.top, AVal.top, AVal.top, AVal.top, AVal.top, AVal.top, AVal.top, AVal.top, AVal.top, AVal.top, AVal.top, AVal.top, AVal.top, AVal.top, AVal.top, AVal.top, AVal.top, AVal.top, AVal.top, AVal.top, AVal.top, AVal.top, AVal.top, AVal.top, AVal.top, AVal.top, AVal.top, AVal.top, AVal.top, AVal.top, AVal.top, AVal.top, AVal.top, AVal.top, AVal.top, AVal.top, AVal.top, AVal.top, AVal.top, AVal.top, AVal.top, AVal.top, AVal.top, AVal.top, AVal.top, AVal.top, AVal.top, AVal.top, AVal.top, AVal.top, AVal.top, AVal.top, AVal.top, AVal.top, AVal.top, AVal.top, AVal.top, AVal.top, AVal.top, AVal.top, AVal.top, AVal.top, AVal.top, AVal.int .i64 (↑(List.length (heldL (Prod.snd x).1 ((Prod.snd x).2 ++ [W (g (Int.toNat (↑x.1 : Int))), W (W (g (Int.toNat (↑x.1 : Int))) + 1)]))) : Int), AVal.int .i64 0, AVal.top, AVal.top, AVal.top, AVal.top, AVal.top, AVal.top, AVal.top, AVal.top, AVal.top, AVal.top, AVal.top, AVal.top] [some (Entry.cells [AVal.int .i64 (W (1 + Int.tmod (W th) 8)), AVal.int .i64 200]), some (Entry.cells [AVal.int .i64 (W (1 + Int.tmod (W th) 8)), AVal.int .i64 200, AVal.int .i64 0, AVal.int .i64 (Prod.snd x).1, AVal.slice 2 0 (List.length (Prod.snd x).2 + 2) 1]), some (Entry.ints (some .i64) ((Prod.snd x).2 ++ [W (g (Int.toNat (↑x.1 : Int))), W (W (g (Int.toNat (↑x.1 : Int))) + 1)])), some (Entry.ints (some .i64) ((Prod.snd x).2 ++ [W (g (Int.toNat (↑x.1 : Int))), W (W (g (Int.toNat (↑x.1 : Int))) + 1)])), some (Entry.ints (some .i64) ([] ++ List.take (List.length (Prod.snd x).2 + 2) (List.drop 0 ((Prod.snd x).2 ++ [W (g (Int.toNat (↑x.1 : Int))), W (W (g (Int.toNat (↑x.1 : Int))) + 1)])))), some (Entry.ints (some .i64) (heldL (Prod.snd x).1 ((Prod.snd x).2 ++ [W (g (Int.toNat (↑x.1 : Int))), W (W (g (Int.toNat (↑x.1 : Int))) + 1)])))] ∧ ∀ (x_1 : Hint.X (HN f g n (W (1 + Int.tmod (W th) 8)) (↑(Prod.fst x) : Int))), okN n (↑x.1 : Int) x_1 → bif ilt (↑(Prod.snd (Prod.snd (Prod.snd x_1))).1 : Int) (↑(List.length (Prod.snd (Prod.snd (Prod.snd x_1))).2) : Int) then ((0 : Int) ≤ (↑(Prod.snd (Prod.snd (Prod.snd x_1))).1 : Int) ∧ (↑(Prod.snd (Prod.snd (Prod.snd x_1))).1 : Int) < (↑(List.length (Prod.snd (Prod.snd (Prod.snd x_1))).2) : Int)) ∧ 0 + Int.toNat (↑(Prod.snd (Prod.snd (Prod.snd x_1))).1 : Int) * (1 : Nat) < List.length (Prod.snd (Prod.snd (Prod.snd x_1))).2 ∧ okSt (HN f g n (W (1 + Int.tmod (W th) 8)) (↑(Prod.fst x) : Int)) (fun x' => Hint.ok (HN f g n (W (1 + Int.tmod (W th) 8)) (↑(Prod.fst x) : Int)) x' ∧ Hint.mu (HN f g n (W (1 + Int.tmod (W th) 8)) (↑(Prod.fst x) : Int)) x' < Hint.mu (HN f g n (W (1 + Int.tmod (W th) 8)) (↑(Prod.fst x) : Int)) x_1) [AVal.top, AVal.top, AVal.top, AVal.top, AVal.top, AVal.ptr 0 0, AVal.ptr 1 0, AVal.slice 3 0 (List.length (Prod.snd x_1).1) 1, AVal.int .i64 x_1.1, AVal.top, AVal.top, AVal.top, AVal.slice 4 0 (List.length (Prod.snd (Prod.snd x_1)).1) 1, AVal.slice 5 0 (List.length (Prod.snd (Prod.snd (Prod.snd x_1))).2) 1, AVal.top, AVal.top, AVal.top, AVal.top, AVal.top, AVal.top, AVal.top, AVal.top, AVal.top, AVal.top, AVal.top, AVal.top, AVal.top, AVal.view n 2 fun i => [AVal.int .u8 (f i), AVal.int .u8 (g i)], AVal.int .i64 (↑n : Int), AVal.int .i64 (↑x.1 : Int), AVal.top, AVal.top, AVal.top, AVal.top, AVal.top, AVal.top, AVal.top, AVal.top, AVal.top, AVal.top, AVal.top, AVal.top, AVal.top, AVal.top, AVal.top, AVal.top, AVal.top, AVal.top, AVal.top, AVal.top, AVal.top, AVal.top, AVal.top, AVal.top, AVal.top, AVal.top, AVal.top, AVal.top, AVal.top, AVal.top, AVal.top, AVal.top, AVal.top, AVal.top, AVal.top, AVal.top, AVal.top, AVal.top, AVal.top, AVal.top, AVal.top, AVal.top, AVal.top, AVal.top, AVal.top, AVal.top, AVal.top, AVal.top, AVal.top, AVal.top, AVal.top, AVal.top, AVal.top, AVal.top, AVal.top, AVal.top, AVal.top, AVal.top, AVal.top, AVal.top, AVal.top, AVal.top, AVal.top, AVal.top, AVal.top, AVal.top, AVal.top, AVal.top, AVal.top, AVal.top, AVal.top, AVal.int .i64 (↑(List.length (Prod.snd (Prod.snd (Prod.snd x_1))).2) : Int), AVal.int .i64 (W ((↑(Prod.snd (Prod.snd (Prod.snd x_1))).1 : Int) + 1)), AVal.top, AVal.top, AVal.top, AVal.top, AVal.top, AVal.top, AVal.top, AVal.top, AVal.top, AVal.top, AVal.top, AVal.top] [some (Entry.cells [AVal.int .i64 (W (1 + Int.tmod (W th) 8)), AVal.int .i64 200]), some (Entry.cells [AVal.int .i64 (W (1 + Int.tmod (W th) 8)), AVal.int .i64 200, AVal.int .i64 0, AVal.int .i64 x_1.1, AVal.slice 2 0 (List.length (Prod.snd x_1).1) 1]), some (Entry.ints (some .i64) (Prod.snd x_1).1), some (Entry.ints (some .i64) (Prod.snd x_1).1), some (Entry.ints (some .i64) (Prod.snd (Prod.snd x_1)).1), some (Entry.ints (some .i64) (List.set (Prod.snd (Prod.snd (Prod.snd x_1))).2 (0 + Int.toNat (↑(Prod.snd (Prod.snd (Prod.snd x_1))).1 : Int) * 1) (-1 : Int)))] else (List.length (Prod.snd x_1).1 = List.length (Prod.snd x_1).1 ∧ List.length (Prod.snd x_1).1 ≤ (1000000 : Nat)) ∧ ((List.length (heldL x_1.1 (Prod.snd x_1).1) = List.length (heldL x_1.1 (Prod.snd x_1).1) ∧ List.length (Prod.snd (Prod.snd x_1)).1 = List.length (Prod.snd (Prod.snd x_1)).1) ∧ List.length (heldL x_1.1 (Prod.snd x_1).1) ≤ (4294967296 : Nat)) ∧ bif !sameB (heldL x_1.1 (Prod.snd x_1).1) (Prod.snd (Prod.snd x_1)).1 then AVal.bool false = AVal.bool true else okSt (HH f g n (W (1 + Int.tmod (W th) 8))) (fun x' => Hint.ok (HH f g n (W (1 + Int.tmod (W th) 8))) x' ∧ Hint.mu (HH f g n (W (1 + Int.tmod (W th) 8))) x' < Hint.mu (HH f g n (W (1 + Int.tmod (W th) 8))) x) [AVal.top, AVal.top, AVal.top, AVal.top, AVal.top, AVal.ptr 0 0, AVal.ptr 1 0, AVal.slice 3 0 (List.length (Prod.snd x_1).1) 1, AVal.int .i64 x_1.1, AVal.top, AVal.top, AVal.top, AVal.top, AVal.top, AVal.top, AVal.top, AVal.top, AVal.top, AVal.top, AVal.top, AVal.top, AVal.top, AVal.top, AVal.top, AVal.top, AVal.top, AVal.top, AVal.view n 2 fun i => [AVal.int .u8 (f i), AVal.int .u8 (g i)], AVal.int .i64 (↑n : Int), AVal.int .i64 (W ((↑x.1 : Int) + 1)), AVal.top, AVal.top, AVal.top, AVal.top, AVal.top, AVal.top, AVal.top, AVal.top, AVal.top, AVal.top, AVal.top, AVal.top, AVal.top, AVal.top, AVal.top, AVal.top, AVal.top, AVal.top, AVal.top, AVal.top, AVal.top, AVal.top, AVal.top, AVal.top, AVal.top, AVal.top, AVal.top, AVal.top, AVal.top, AVal.top, AVal.top, AVal.top, AVal.top, AVal.top, AVal.top, AVal.top, AVal.top, AVal.top, AVal.top, AVal.top, AVal.top, AVal.top, AVal.top, AVal.top, AVal.top, AVal.top, AVal.top, AVal.top, AVal.top, AVal.top, AVal.top, AVal.top, AVal.top, AVal.top, AVal.top, AVal.top, AVal.top, AVal.top, AVal.top, AVal.top, AVal.top, AVal.top, AVal.top, AVal.top, AVal.top, AVal.top, AVal.top, AVal.top, AVal.top, AVal.top, AVal.top, AVal.top, AVal.top, AVal.top, AVal.top, AVal.top, AVal.top, AVal.top, AVal.top, AVal.top, AVal.top, AVal.top, AVal.top, AVal.top, AVal.top] [some (Entry.cells [AVal.int .i64 (W (1 + Int.tmod (W th) 8)), AVal.int .i64 200]), some (Entry.cells [AVal.int .i64 (W (1 + Int.tmod (W th) 8)), AVal.int .i64 200, AVal.int .i64 0, AVal.int .i64 x_1.1, AVal.slice 2 0 (List.length (Prod.snd x_1).1) 1]), some (Entry.ints (some .i64) (Prod.snd x_1).1), some (Entry.ints (some .i64) (Prod.snd x_1).1)] else bif ieq (Int.tmod (f (Int.toNat (↑x.1 : Int))) 3) 1 then (0 + List.length (Prod.snd x).2 ≤ List.length (Prod.snd x).2 ∧ 0 + List.length (Prod.snd x).2 ≤ (4294967296 : Nat)) ∧ bif !ieq (W (g (Int.toNat (↑x.1 : Int)))) 0 then (0 + List.length (Prod.snd x).2 ≤ List.length (Prod.snd x).2 ∧ 1 + List.length (Prod.snd x).2 ≤ (4294967296 : Nat)) ∧ (List.length (Prod.snd x).2 = List.length (Prod.snd x).2 ∧ List.length (Prod.snd x).2 ≤ (1000000 : Nat)) ∧ ((List.length (heldL (W (g (Int.toNat (↑x.1 : Int)))) (Prod.snd x).2) = List.length (heldL (W (g (Int.toNat (↑x.1 : Int)))) (Prod.snd x).2) ∧ 1 + List.length (Prod.snd x).2 = List.length ([W (g (Int.toNat (↑x.1 : Int)))] ++ List.take (List.length (Prod.snd x).2) (List.drop 0 (Prod.snd x).2))) ∧ List.length (heldL (W (g (Int.toNat (↑x.1 : Int)))) (Prod.snd x).2) ≤ (4294967296 : Nat)) ∧ bif !sameB (heldL (W (g (Int.toNat (↑x.1 : Int)))) (Prod.snd x).2) ([W (g (Int.toNat (↑x.1 : Int)))] ++ List.take (List.length (Prod.snd x).2) (List.drop 0 (Prod.snd x).2)) then AVal.bool false = AVal.bool true else ((0 : Int) ≤ W (1 + Int.tmod (W th) 8) ∧ W (1 + Int.tmod (W th) 8) ≤ (100000 : Int)) ∧ bif !bif ile (4 * W (1 + Int.tmod (W th) 8)) (↑(List.length (Prod.snd x).2) : Int) then ile (W (4 * W (1 + Int.tmod (W th) 8))) (↑(List.length (Prod.snd x).2) : Int) else !ile (W (4 * W (1 + Int.tmod (W th) 8))) (↑(List.length (Prod.snd x).2) : Int) then AVal.bool false = AVal.bool true else bif !ieq (W (g (Int.toNat (↑x.1 : Int)))) (W (g (Int.toNat (↑x.1 : Int)))) then AVal.bool false = AVal.bool true else okSt (HN f g n (W (1 + Int.tmod (W th) 8)) (↑(Prod.fst x) : Int)) (Hint.ok (HN f g n (W (1 + Int.tmod (W th) 8)) (↑(Prod.fst x) : Int))) [AVal.top, AVal.top, AVal.top, AVal.top, AVal.top, AVal.ptr 0 0, AVal.ptr 1 0, AVal.slice 3 0 (List.length (Prod.snd x).2) 1, AVal.int .i64 (W (g (Int.toNat (↑x.1 : Int)))), AVal.top, AVal.top, AVal.top, AVal.slice 4 0 (1 + List.length (Prod.snd x).2) 1, AVal.slice 5 0 (List.length (heldL (W (g (Int.toNat (↑x.1 : Int)))) (Prod.snd x).2)) 1, AVal.top, AVal.top, AVal.top, AVal.top, AVal.top, AVal.top, AVal.top, AVal.top, AVal.top, AVal.top, AVal.top, AVal.top, AVal.top, AVal.view n 2 fun i => [AVal.int .u8 (f i), AVal.int .u8 (g i)], AVal.int .i64 (↑n : Int), AVal.int .i64 (↑x.1 : Int), AVal.top, AVal.top, AVal.top, AVal.top, AVal.top, AVal.top, AVal.top, AVal.top, AVal.top, AVal.top, AVal.top, AVal.top, AVal.top, AVal.top, AVal.top, AVal.top, AVal.top, AVal.top, AVal.top, AVal.top, AVal.top, AVal.top, AVal.top, AVal.top, AVal.top, AVal.top, AVal.top, AVal.top, AVal.top, AVal.top, AVal.top, AVal.top, AVal.top, AVal.top, AVal.top, AVal.top, AVal.top, AVal.top, AVal.top, AVal.top, AVal.top, AVal.top, AVal.top, AVal.top, AVal.top, AVal.top, AVal.top, AVal.top, AVal.top, AVal.top, AVal.top, AVal.top, AVal.top, AVal.top, AVal.top, AVal.top, AVal.top, AVal.top, AVal.top, AVal.top, AVal.top, AVal.top, AVal.top, AVal.top, AVal.top, AVal.top, AVal.top, AVal.top, AVal.top, AVal.top, AVal.top, AVal.int .i64 (↑(List.length (heldL (W (g (Int.toNat (↑x.1 : Int)))) (Prod.snd x).2)) : Int), AVal.int .i64 0, AVal.top, AVal.top, AVal.top, AVal.top, AVal.top, AVal.top, AVal.top, AVal.top, AVal.top, AVal.top, AVal.top, AVal.top] [some (Entry.cells [AVal.int .i64 (W (1 + Int.tmod (W th) 8)), AVal.int .i64 200]), some (Entry.cells [AVal.int .i64 (W (1 + Int.tmod (W th) 8)), AVal.int .i64 200, AVal.int .i64 0, AVal.int .i64 (W (g (Int.toNat (↑x.1 : Int)))), AVal.slice 2 0 (List.length (Prod.snd x).2) 1]), some (Entry.ints (some .i64) (Prod.snd x).2), some (Entry.ints (some .i64) (Prod.snd x).2), some (Entry.ints (some .i64) ([W (g (Int.toNat (↑x.1 : Int)))] ++ List.take (List.length (Prod.snd x).2) (List.drop 0 (Prod.snd x).2))), some (Entry.ints (some .i64) (heldL (W (g (Int.toNat (↑x.1 : Int)))) (Prod.snd x).2))] ∧ ∀ (x_1 : Hint.X (HN f g n (W (1 + Int.tmod (W th) 8)) (↑(Prod.fst x) : Int))), okN n (↑x.1 : Int) x_1 → bif ilt (↑(Prod.snd (Prod.snd (Prod.snd x_1))).1 : Int) (↑(List.length (Prod.snd (Prod.snd (Prod.snd x_1))).2) : Int) then ((0 : Int) ≤ (↑(Prod.snd (Prod.snd (Prod.snd x_1))).1 : Int) ∧ (↑(Prod.snd (Prod.snd (Prod.snd x_1))).1 : Int) < (↑(List.length (Prod.snd (Prod.snd (Prod.snd x_1))).2) : Int)) ∧ 0 + Int.toNat (↑(Prod.snd (Prod.snd (Prod.snd x_1))).1 : Int) * (1 : Nat) < List.length (Prod.snd (Prod.snd (Prod.snd x_1))).2 ∧ okSt (HN f g n (W (1 + Int.tmod (W th) 8)) (↑(Prod.fst x) : Int)) (fun x' => Hint.ok (HN f g n (W (1 + Int.tmod (W th) 8)) (↑(Prod.fst x) : Int)) x' ∧ Hint.mu (HN f g n (W (1 + Int.tmod (W th) 8)) (↑(Prod.fst x) : Int)) x' < Hint.mu (HN f g n (W (1 + Int.tmod (W th) 8)) (↑(Prod.fst x) : Int)) x_1) [AVal.top, AVal.top, AVal.top, AVal.top, AVal.top, AVal.ptr 0 0, AVal.ptr 1 0, AVal.slice 3 0 (List.length (Prod.snd x_1).1) 1, AVal.int .i64 x_1.1, AVal.top, AVal.top, AVal.top, AVal.slice 4 0 (List.length (Prod.snd (Prod.snd x_1)).1) 1, AVal.slice 5 0 (List.length (Prod.snd (Prod.snd (Prod.snd x_1))).2) 1, AVal.top, AVal.top, AVal.top, AVal.top, AVal.top, AVal.top, AVal.top, AVal.top, AVal.top, AVal.top, AVal.top, AVal.top, AVal.top, AVal.view n 2 fun i => [AVal.int .u8 (f i), AVal.int .u8 (g i)], AVal.int .i64 (↑n : Int), AVal.int .i64 (↑x.1 : Int), AVal.top, AVal.top, AVal.top, AVal.top, AVal.top, AVal.top, AVal.top, AVal.top, AVal.top, AVal.top, AVal.top, AVal.top, AVal.top, AVal.top, AVal.top, AVal.top, AVal.top, AVal.top, AVal.top, AVal.top, AVal.top, AVal.top, AVal.top, AVal.top, AVal.top, AVal.top, AVal.top, AVal.top, AVal.top, AVal.top, AVal.top, AVal.top, AVal.top, AVal.top, AVal.top, AVal.top, AVal.top, AVal.top, AVal.top, AVal.top, AVal.top, AVal.top, AVal.top, AVal.top, AVal.top, AVal.top, AVal.top, AVal.top, AVal.top, AVal.top, AVal.top, AVal.top, AVal.top, AVal.top, AVal.top, AVal.top, AVal.top, AVal.top, AVal.top, AVal.top, AVal.top, AVal.top, AVal.top, AVal.top, AVal.top, AVal.top, AVal.top, AVal.top, AVal.top, AVal.top, AVal.top, AVal.int .i64 (↑(List.length (Prod.snd (Prod.snd (Prod.snd x_1))).2) : Int), AVal.int .i64 (W ((↑(Prod.snd (Prod.snd (Prod.snd x_1))).1 : Int) + 1)), AVal.top, AVal.top, AVal.top, AVal.top, AVal.top, AVal.top, AVal.top, AVal.top, AVal.top, AVal.top, AVal.top, AVal.top] [some (Entry.cells [AVal.int .i64 (W (1 + Int.tmod (W th) 8)), AVal.int .i64 200]), some (Entry.cells [AVal.int .i64 (W (1 + Int.tmod (W th) 8)), AVal.int .i64 200, AVal.int .i64 0, AVal.int .i64 x_1.1, AVal.slice 2 0 (List.length (Prod.snd x_1).1) 1]), some (Entry.ints (some .i64) (Prod.snd x_1).1), some (Entry.ints (some .i64) (Prod.snd x_1).1), some (Entry.ints (some .i64) (Prod.snd (Prod.snd x_1)).1), some (Entry.ints (some .i64) (List.set (Prod.snd (Prod.snd (Prod.snd x_1))).2 (0 + Int.toNat (↑(Prod.snd (Prod.snd (Prod.snd x_1))).1 : Int) * 1) (-1 : Int)))] else (List.length (Prod.snd x_1).1 = List.length (Prod.snd x_1).1 ∧ List.length (Prod.snd x_1).1 ≤ (1000000 : Nat)) ∧ ((List.length (heldL x_1.1 (Prod.snd x_1).1) = List.length (heldL x_1.1 (Prod.snd x_1).1) ∧ List.length (Prod.snd (Prod.snd x_1)).1 = List.length (Prod.snd (Prod.snd x_1)).1) ∧ List.length (heldL x_1.1 (Prod.snd x_1).1) ≤ (4294967296 : Nat)) ∧ bif !sameB (heldL x_1.1 (Prod.snd x_1).1) (Prod.snd (Prod.snd x_1)).1 then AVal.bool false = AVal.bool true else okSt (HH f g n (W (1 + Int.tmod (W th) 8))) (fun x' => Hint.ok (HH f g n (W (1 + Int.tmod (W th) 8))) x' ∧ Hint.mu (HH f g n (W (1 + Int.tmod (W th) 8))) x' < Hint.mu (HH f g n (W (1 + Int.tmod (W th) 8))) x) [AVal.top, AVal.top, AVal.top, AVal.top, AVal.top, AVal.ptr 0 0, AVal.ptr 1 0, AVal.slice 3 0 (List.length (Prod.snd x_1).1) 1, AVal.int .i64 x_1.1, AVal.top, AVal.top, AVal.top, AVal.top, AVal.top, AVal.top, AVal.top, AVal.top, AVal.top, AVal.top, AVal.top, AVal.top, AVal.top, AVal.top, AVal.top, AVal.top, AVal.top, AVal.top, AVal.view n 2 fun i => [AVal.int .u8 (f i), AVal.int .u8 (g i)], AVal.int .i64 (↑n : Int), AVal.int .i64 (W ((↑x.1 : Int) + 1)), AVal.top, AVal.top, AVal.top, AVal.top, AVal.top, AVal.top, AVal.top, AVal.top, AVal.top, AVal.top, AVal.top, AVal.top, AVal.top, AVal.top, AVal.top, AVal.top, AVal.top, AVal.top, AVal.top, AVal.top, AVal.top, AVal.top, AVal.top, AVal.top, AVal.top, AVal.top, AVal.top, AVal.top, AVal.top, AVal.top, AVal.top, AVal.top, AVal.top, AVal.top, AVal.top, AVal.top, AVal.top, AVal.top, AVal.top, AVal.top, AVal.top, AVal.top, AVal.top, AVal.top, AVal.top, AVal.top, AVal.top, AVal.top, AVal.top, AVal.top, AVal.top, AVal.top, AVal.top, AVal.top, AVal.top, AVal.top, AVal.top, AVal.top, AVal.top, AVal.top, AVal.top, AVal.top, AVal.top, AVal.top, AVal.top, AVal.top, AVal.top, AVal.top, AVal.top, AVal.top, AVal.top, AVal.top, AVal.top, AVal.top, AVal.top, AVal.top, AVal.top, AVal.top, AVal.top, AVal.top, AVal.top, AVal.top, AVal.top, AVal.top, AVal.top] [some (Entry.cells [AVal.int .i64 (W (1 + Int.tmod (W th) 8)), AVal.int .i64 200]), some (Entry.cells [AVal.int .i64 (W (1 + Int.tmod (W th) 8)), AVal.int .i64 200, AVal.int .i64 0, AVal.int .i64 x_1.1, AVal.slice 2 0 (List.length (Prod.snd x_1).1) 1]), some (Entry.ints (some .i64) (Prod.snd x_1).1), some (Entry.ints (some .i64) (Prod.snd x_1).1)] else (List.length (Prod.snd x).2 = List.length (Prod.snd x).2 ∧ List.length (Prod.snd x).2 ≤ (1000000 : Nat)) ∧ ((List.length (heldL (W (g (Int.toNat (↑x.1 : Int)))) (Prod.snd x).2) = List.length (heldL (W (g (Int.toNat (↑x.1 : Int)))) (Prod.snd x).2) ∧ 0 + List.length (Prod.snd x).2 = List.length ([] ++ List.take (List.length (Prod.snd x).2) (List.drop 0 (Prod.snd x).2))) ∧ List.length (heldL (W (g (Int.toNat (↑x.1 : Int)))) (Prod.snd x).2) ≤ (4294967296 : Nat)) ∧ bif !sameB (heldL (W (g (Int.toNat (↑x.1 : Int)))) (Prod.snd x).2) ([] ++ List.take (List.length (Prod.snd x).2) (List.drop 0 (Prod.snd x).2)) then AVal.bool false = AVal.bool true else ((0 : Int) ≤ W (1 + Int.tmod (W th) 8) ∧ W (1 + Int.tmod (W th) 8) ≤ (100000 : Int)) ∧ bif !bif ile (4 * W (1 + Int.tmod (W th) 8)) (↑(List.length (Prod.snd x).2) : Int) then ile (W (4 * W (1 + Int.tmod (W th) 8))) (↑(List.length (Prod.snd x).2) : Int) else !ile (W (4 * W (1 + Int.tmod (W th) 8))) (↑(List.length (Prod.snd x).2) : Int) then AVal.bool false = AVal.bool true else bif !ieq (W (g (Int.toNat (↑x.1 : Int)))) (W (g (Int.toNat (↑x.1 : Int)))) then AVal.bool false = AVal.bool true else okSt (HN f g n (W (1 + Int.tmod (W th) 8)) (↑(Prod.fst x) : Int)) (Hint.ok (HN f g n (W (1 + Int.tmod (W th) 8)) (↑(Prod.fst x) : Int))) [AVal.top, AVal.top, AVal.top, AVal.top, AVal.top, AVal.ptr 0 0, AVal.ptr 1 0, AVal.slice 3 0 (List.length (Prod.snd x).2) 1, AVal.int .i64 (W (g (Int.toNat (↑x.1 : Int)))), AVal.top, AVal.top, AVal.top, AVal.slice 4 0 (0 + List.length (Prod.snd x).2) 1, AVal.slice 5 0 (List.length (heldL (W (g (Int.toNat (↑x.1 : Int)))) (Prod.snd x).2)) 1, AVal.top, AVal.top, AVal.top, AVal.top, AVal.top, AVal.top, AVal.top, AVal.top, AVal.top, AVal.top, AVal.top, AVal.top, AVal.top, AVal.view n 2 fun i => [AVal.int .u8 (f i), AVal.int .u8 (g i)], AVal.int .i64 (↑n : Int), AVal.int .i64 (↑x.1 : Int), AVal.top, AVal.top, AVal.top, AVal.top, AVal.top, AVal.top, AVal.top, AVal.top, AVal.top, AVal.top, AVal.top, AVal.top, AVal.top, AVal.top, AVal.top, AVal.top, AVal.top, AVal.top, AVal.top, AVal.top, AVal.top, AVal.top, AVal.top, AVal.top, AVal.top, AVal.top, AVal.top, AVal.top, AVal.top, AVal.top, AVal.top, AVal.top, AVal.top, AVal.top, AVal.top, AVal.top, AVal.top, AVal.top, AVal.top, AVal.top, AVal.top, AVal.top, AVal.top, AVal.top, AVal.top, AVal.top, AVal.top, AVal.top, AVal.top, AVal.top, AVal.top, AVal.top, AVal.top, AVal.top, AVal.top, AVal.top, AVal.top, AVal.top, AVal.top, AVal.top, AVal.top, AVal.top, AVal.top, AVal.top, AVal.top, AVal.top, AVal.top, AVal.top, AVal.top, AVal.top, AVal.top, AVal.int .i64 (↑(List.length (heldL (W (g (Int.toNat (↑x.1 : Int)))) (Prod.snd x).2)) : Int), AVal.int .i64 0, AVal.top, AVal.top, AVal.top, AVal.top, AVal.top, AVal.top, AVal.top, AVal.top, AVal.top, AVal.top, AVal.top, AVal.top] [some (Entry.cells [AVal.int .i64 (W (1 + Int.tmod (W th) 8)), AVal.int .i64 200]), some (Entry.cells [AVal.int .i64 (W (1 + Int.tmod (W th) 8)), AVal.int .i64 200, AVal.int .i64 0, AVal.int .i64 (W (g (Int.toNat (↑x.1 : Int)))), AVal.slice 2 0 (List.length (Prod.snd x).2) 1]), some (Entry.ints (some .i64) (Prod.snd x).2), some (Entry.ints (some .i64) (Prod.snd x).2), some (Entry.ints (some .i64) ([] ++ List.take (List.length (Prod.snd x).2) (List.drop 0 (Prod.snd x).2))), some (Entry.ints (some .i64) (heldL (W (g (Int.toNat (↑x.1 : Int)))) (Prod.snd x).2))] ∧ ∀ (x_1 : Hint.X (HN f g n (W (1 + Int.tmod (W th) 8)) (↑(Prod.fst x) : Int))), okN n (↑x.1 : Int) x_1 → bif ilt (↑(Prod.snd (Prod.snd (Prod.snd x_1))).1 : Int) (↑(List.length (Prod.snd (Prod.snd (Prod.snd x_1))).2) : Int) then ((0 : Int) ≤ (↑(Prod.snd (Prod.snd (Prod.snd x_1))).1 : Int) ∧ (↑(Prod.snd (Prod.snd (Prod.snd x_1))).1 : Int) < (↑(List.length (Prod.snd (Prod.snd (Prod.snd x_1))).2) : Int)) ∧ 0 + Int.toNat (↑(Prod.snd (Prod.snd (Prod.snd x_1))).1 : Int) * (1 : Nat) < List.length (Prod.snd (Prod.snd (Prod.snd x_1))).2 ∧ okSt (HN f g n (W (1 + Int.tmod (W th) 8)) (↑(Prod.fst x) : Int)) (fun x' => Hint.ok (HN f g n (W (1 + Int.tmod (W th) 8)) (↑(Prod.fst x) : Int)) x' ∧ Hint.mu (HN f g n (W (1 + Int.tmod (W th) 8)) (↑(Prod.fst x) : Int)) x' < Hint.mu (HN f g n (W (1 + Int.tmod (W th) 8)) (↑(Prod.fst x) : Int)) x_1) [AVal.top, AVal.top, AVal.top, AVal.top, AVal.top, AVal.ptr 0 0, AVal.ptr 1 0, AVal.slice 3 0 (List.length (Prod.snd x_1).1) 1, AVal.int .i64 x_1.1, AVal.top, AVal.top, AVal.top, AVal.slice 4 0 (List.length (Prod.snd (Prod.snd x_1)).1) 1, AVal.slice 5 0 (List.length (Prod.snd (Prod.snd (Prod.snd x_1))).2) 1, AVal.top, AVal.top, AVal.top, AVal.top, AVal.top, AVal.top, AVal.top, AVal.top, AVal.top, AVal.top, AVal.top, AVal.top, AVal.top, AVal.view n 2 fun i => [AVal.int .u8 (f i), AVal.int .u8 (g i)], AVal.int .i64 (↑n : Int), AVal.int .i64 (↑x.1 : Int), AVal.top, AVal.top, AVal.top, AVal.top, AVal.top, AVal.top, AVal.top, AVal.top, AVal.top, AVal.top, AVal.top, AVal.top, AVal.top, AVal.top, AVal.top, AVal.top, AVal.top, AVal.top, AVal.top, AVal.top, AVal.top, AVal.top, AVal.top, AVal.top, AVal.top, AVal.top, AVal.top, AVal.top, AVal.top, AVal.top, AVal.top, AVal.top, AVal.top, AVal.top, AVal.top, AVal.top, AVal.top, AVal.top, AVal.top, AVal.top, AVal.top, AVal.top, AVal.top, AVal.top, AVal.top, AVal.top, AVal.top, AVal.top, AVal.top, AVal.top, AVal.top, AVal.top, AVal.top, AVal.top, AVal.top, AVal.top, AVal.top, AVal.top, AVal.top, AVal.top, AVal.top, AVal.top, AVal.top, AVal.top, AVal.top, AVal.top, AVal.top, AVal.top, AVal.top, AVal.top, AVal.top, AVal.int .i64 (↑(List.length (Prod.snd (Prod.snd (Prod.snd x_1))).2) : Int), AVal.int .i64 (W ((↑(Prod.snd (Prod.snd (Prod.snd x_1))).1 : Int) + 1)), AVal.top, AVal.top, AVal.top, AVal.top, AVal.top, AVal.top, AVal.top, AVal.top, AVal.top, AVal.top, AVal.top, AVal.top] [some (Entry.cells [AVal.int .i64 (W (1 + Int.tmod (W th) 8)), AVal.int .i64 200]), some (Entry.cells [AVal.int .i64 (W (1 + Int.tmod (W th) 8)), AVal.int .i64 200, AVal.int .i64 0, AVal.int .i64 x_1.1, AVal.slice 2 0 (List.length (Prod.snd x_1).1) 1]), some (Entry.ints (some .i64) (Prod.snd x_1).1), some (Entry.ints (some .i64) (Prod.snd x_1).1), some (Entry.ints (some .i64) (Prod.snd (Prod.snd x_1)).1), some (Entry.ints (some .i64) (List.set (Prod.snd (Prod.snd (Prod.snd x_1))).2 (0 + Int.toNat (↑(Prod.snd (Prod.snd (Prod.snd x_1))).1 : Int) * 1) (-1 : Int)))] else (List.length (Prod.snd x_1).1 = List.length (Prod.snd x_1).1 ∧ List.length (Prod.snd x_1).1 ≤ (1000000 : Nat)) ∧ ((List.length (heldL x_1.1 (Prod.snd x_1).1) = List.length (heldL x_1.1 (Prod.snd x_1).1) ∧ List.length (Prod.snd (Prod.snd x_1)).1 = List.length (Prod.snd (Prod.snd x_1)).1) ∧ List.length (heldL x_1.1 (Prod.snd x_1).1) ≤ (4294967296 : Nat)) ∧ bif !sameB (heldL x_1.1 (Prod.snd x_1).1) (Prod.snd (Prod.snd x_1)).1 then AVal.bool false = AVal.bool true else okSt (HH f g n (W (1 + Int.tmod (W th) 8))) (fun x' => Hint.ok (HH f g n (W (1 + Int.tmod (W th) 8))) x' ∧ Hint.mu (HH f g n (W (1 + Int.tmod (W th) 8))) x' < Hint.mu (HH f g n (W (1 + Int.tmod (W th) 8))) x) [AVal.top, AVal.top, AVal.top, AVal.top, AVal.top, AVal.ptr 0 0, AVal.ptr 1 0, AVal.slice 3 0 (List.length (Prod.snd x_1).1) 1, AVal.int .i64 x_1.1, AVal.top, AVal.top, AVal.top, AVal.top, AVal.top, AVal.top, AVal.top, AVal.top, AVal.top, AVal.top, AVal.top, AVal.top, AVal.top, AVal.top, AVal.top, AVal.top, AVal.top, AVal.top, AVal.view n 2 fun i => [AVal.int .u8 (f i), AVal.int .u8 (g i)], AVal.int .i64 (↑n : Int), AVal.int .i64 (W ((↑x.1 : Int) + 1)), AVal.top, AVal.top, AVal.top, AVal.top, AVal.top, AVal.top, AVal.top, AVal.top, AVal.top, AVal.top, AVal.top, AVal.top, AVal.top, AVal.top, AVal.top, AVal.top, AVal.top, AVal.top, AVal.top, AVal.top, AVal.top, AVal.top, AVal.top, AVal.top, AVal.top, AVal.top, AVal.top, AVal.top, AVal.top, AVal.top, AVal.top, AVal.top, AVal.top, AVal.top, AVal.top, AVal.top, AVal.top, AVal.top, AVal.top, AVal.top, AVal.top, AVal.top, AVal.top, AVal.top, AVal.top, AVal.top, AVal.top, AVal.top, AVal.top, AVal.top, AVal.top, AVal.top, AVal.top, AVal.top, AVal.top, AVal.top, AVal.top, AVal.top, AVal.top, AVal.top, AVal.top, AVal.top, AVal.top, AVal.top, AVal.top, AVal.top, AVal.top, AVal.top, AVal.top, AVal.top, AVal.top, AVal.top, AVal.top, AVal.top, AVal.top, AVal.top, AVal.top, AVal.top, AVal.top, AVal.top, AVal.top, AVal.top, AVal.top, AVal.top, AVal.top] [some (Entry.cells [AVal.int .i64 (W (1 + Int.tmod (W th) 8)), AVal.int .i64 200]), some (Entry.cells [AVal.int .i64 (W (1 + Int.tmod (W th) 8)), AVal.int .i64 200, AVal.int .i64 0, AVal.int .i64 x_1.1, AVal.slice 2 0 (List.length (Prod.snd x_1).1) 1]), some (Entry.ints (some .i64) (Prod.snd x_1).1), some (Entry.ints (some .i64) (Prod.snd x_1).1)] else bif ieq (Int.tmod (f (Int.toNat (↑x.1 : Int))) 3) 2 then bif !ieq (Prod.snd x).1 (Prod.snd x).1 then AVal.bool false = AVal.bool true else (0 + List.length (Prod.snd x).2 ≤ List.length (Prod.snd x).2 ∧ 0 + List.length (Prod.snd x).2 ≤ (4294967296 : Nat)) ∧ (List.length (Prod.snd x).2 = List.length (Prod.snd x).2 ∧ List.length (Prod.snd x).2 ≤ (1000000 : Nat)) ∧ ((List.length (heldL 0 (Prod.snd x).2) = List.length (heldL 0 (Prod.snd x).2) ∧ 0 + List.length (Prod.snd x).2 = List.length ([] ++ List.take (List.length (Prod.snd x).2) (List.drop 0 (Prod.snd x).2))) ∧ List.length (heldL 0 (Prod.snd x).2) ≤ (4294967296 : Nat)) ∧ bif !sameB (heldL 0 (Prod.snd x).2) ([] ++ List.take (List.length (Prod.snd x).2) (List.drop 0 (Prod.snd x).2)) then AVal.bool false = AVal.bool true else ((0 : Int) ≤ W (1 + Int.tmod (W th) 8) ∧ W (1 + Int.tmod (W th) 8) ≤ (100000 : Int)) ∧ bif !bif ile (4 * W (1 + Int.tmod (W th) 8)) (↑(List.length (Prod.snd x).2) : Int) then ile (W (4 * W (1 + Int.tmod (W th) 8))) (↑(List.length (Prod.snd x).2) : Int) else !ile (W (4 * W (1 + Int.tmod (W th) 8))) (↑(List.length (Prod.snd x).2) : Int) then AVal.bool false = AVal.bool true else okSt (HN f g n (W (1 + Int.tmod (W th) 8)) (↑(Prod.fst x) : Int)) (Hint.ok (HN f g n (W (1 + Int.tmod (W th) 8)) (↑(Prod.fst x) : Int))) [AVal.top, AVal.top, AVal.top, AVal.top, AVal.top, AVal.ptr 0 0, AVal.ptr 1 0, AVal.slice 3 0 (List.length (Prod.snd x).2) 1, AVal.int .i64 0, AVal.top, AVal.top, AVal.top, AVal.slice 4 0 (0 + List.length (Prod.snd x).2) 1, AVal.slice 5 0 (List.length (heldL 0 (Prod.snd x).2)) 1, AVal.top, AVal.top, AVal.top, AVal.top, AVal.top, AVal.top, AVal.top, AVal.top, AVal.top, AVal.top, AVal.top, AVal.top, AVal.top, AVal.view n 2 fun i => [AVal.int .u8 (f i), AVal.int .u8 (g i)], AVal.int .i64 (↑n : Int), AVal.int .i64 (↑x.1 : Int), AVal.top, AVal.top, AVal.top, AVal.top, AVal.top, AVal.top, AVal.top, AVal.top, AVal.top, AVal.top, AVal.top, AVal.top, AVal.top, AVal.top, AVal.top, AVal.top, AVal.top, AVal.top, AVal.top, AVal.top, AVal.top, AVal.top, AVal.top, AVal.top, AVal.top, AVal.top, AVal.top, AVal.top, AVal.top, AVal.top, AVal.top, AVal.top, AVal.top, AVal.top, AVal.top, AVal.top, AVal.top, AVal.top, AVal.top, AVal.top, AVal.top, AVal.top, AVal.top, AVal.top, AVal.top, AVal.top, AVal.top, AVal.top, AVal.top, AVal.top, AVal.top, AVal.top, AVal.top, AVal.top, AVal.top, AVal.top, AVal.top, AVal.top, AVal.top, AVal.top, AVal.top, AVal.top, AVal.top, AVal.top, AVal.top, AVal.top, AVal.top, AVal.top, AVal.top, AVal.top, AVal.top, AVal.int .i64 (↑(List.length (heldL 0 (Prod.snd x).2)) : Int), AVal.int .i64 0, AVal.top, AVal.top, AVal.top, AVal.top, AVal.top, AVal.top, AVal.top, AVal.top, AVal.top, AVal.top, AVal.top, AVal.top] [some (Entry.cells [AVal.int .i64 (W (1 + Int.tmod (W th) 8)), AVal.int .i64 200]), some (Entry.cells [AVal.int .i64 (W (1 + Int.tmod (W th) 8)), AVal.int .i64 200, AVal.int .i64 0, AVal.int .i64 0, AVal.slice 2 0 (List.length (Prod.snd x).2) 1]), some (Entry.ints (some .i64) (Prod.snd x).2), some (Entry.ints (some .i64) (Prod.snd x).2), some (Entry.ints (some .i64) ([] ++ List.take (List.length (Prod.snd x).2) (List.drop 0 (Prod.snd x).2))), some (Entry.ints (some .i64) (heldL 0 (Prod.snd x).2))] ∧ ∀ (x_1 : Hint.X (HN f g n (W (1 + Int.tmod (W th) 8)) (↑(Prod.fst x) : Int))), okN n (↑x.1 : Int) x_1 → bif ilt (↑(Prod.snd (Prod.snd (Prod.snd x_1))).1 : Int) (↑(List.length (Prod.snd (Prod.snd (Prod.snd x_1))).2) : Int) then ((0 : Int) ≤ (↑(Prod.snd (Prod.snd (Prod.snd x_1))).1 : Int) ∧ (↑(Prod.snd (Prod.snd (Prod.snd x_1))).1 : Int) < (↑(List.length (Prod.snd (Prod.snd (Prod.snd x_1))).2) : Int)) ∧ 0 + Int.toNat (↑(Prod.snd (Prod.snd (Prod.snd x_1))).1 : Int) * (1 : Nat) < List.length (Prod.snd (Prod.snd (Prod.snd x_1))).2 ∧ okSt (HN f g n (W (1 + Int.tmod (W th) 8)) (↑(Prod.fst x) : Int)) (fun x' => Hint.ok (HN f g n (W (1 + Int.tmod (W th) 8)) (↑(Prod.fst x) : Int)) x' ∧ Hint.mu (HN f g n (W (1 + Int.tmod (W th) 8)) (↑(Prod.fst x) : Int)) x' < Hint.mu (HN f g n (W (1 + Int.tmod (W th) 8)) (↑(Prod.fst x) : Int)) x_1) [AVal.top, AVal.top, AVal.top, AVal.top, AVal.top, AVal.ptr 0 0, AVal.ptr 1 0, AVal.slice 3 0 (List.length (Prod.snd x_1).1) 1, AVal.int .i64 x_1.1, AVal.top, AVal.top, AVal.top, AVal.slice 4 0 (List.length (Prod.snd (Prod.snd x_1)).1) 1, AVal.slice 5 0 (List.length (Prod.snd (Prod.snd (Prod.snd x_1))).2) 1, AVal.top, AVal.top, AVal.top, AVal.top, AVal.top, AVal.top, AVal.top, AVal.top, AVal.top, AVal.top, AVal.top, AVal.top, AVal.top, AVal.view n 2 fun i => [AVal.int .u8 (f i), AVal.int .u8 (g i)], AVal.int .i64 (↑n : Int), AVal.int .i64 (↑x.1 : Int), AVal.top, AVal.top, AVal.top, AVal.top, AVal.top, AVal.top, AVal.top, AVal.top, AVal.top, AVal.top, AVal.top, AVal.top, AVal.top, AVal.top, AVal.top, AVal.top, AVal.top, AVal.top, AVal.top, AVal.top, AVal.top, AVal.top, AVal.top, AVal.top, AVal.top, AVal.top, AVal.top, AVal.top, AVal.top, AVal.top, AVal.top, AVal.top, AVal.top, AVal.top, AVal.top, AVal.top, AVal.top, AVal.top, AVal.top, AVal.top, AVal.top, AVal.top, AVal.top, AVal.top, AVal.top, AVal.top, AVal.top, AVal.top, AVal.top, AVal.top, AVal.top, AVal.top, AVal.top, AVal.top, AVal.top, AVal.top, AVal.top, AVal.top, AVal.top, AVal.top, AVal.top, AVal.top, AVal.top, AVal.top, AVal.top, AVal.top, AVal.top, AVal.top, AVal.top, AVal.top, AVal.top, AVal.int .i64 (↑(List.length (Prod.snd (Prod.snd (Prod.snd x_1))).2) : Int), AVal.int .i64 (W ((↑(Prod.snd (Prod.snd (Prod.snd x_1))).1 : Int) + 1)), AVal.top, AVal.top, AVal.top, AVal.top, AVal.top, AVal.top, AVal.top, AVal.top, AVal.top, AVal.top, AVal.top, AVal.top] [some (Entry.cells [AVal.int .i64 (W (1 + Int.tmod (W th) 8)), AVal.int .i64 200]), some (Entry.cells [AVal.int .i64 (W (1 + Int.tmod (W th) 8)), AVal.int .i64 200, AVal.int .i64 0, AVal.int .i64 x_1.1, AVal.slice 2 0 (List.length (Prod.snd x_1).1) 1]), some (Entry.ints (some .i64) (Prod.snd x_1).1), some (Entry.ints (some .i64) (Prod.snd x_1).1), some (Entry.ints (some .i64) (Prod.snd (Prod.snd x_1)).1), some (Entry.ints (some .i64) (List.set (Prod.snd (Prod.snd (Prod.snd x_1))).2 (0 + Int.toNat (↑(Prod.snd (Prod.snd (Prod.snd x_1))).1 : Int) * 1) (-1 : Int)))] else (List.length (Prod.snd x_1).1 = List.length (Prod.snd x_1).1 ∧ List.length (Prod.snd x_1).1 ≤ (1000000 : Nat)) ∧ ((List.length (heldL x_1.1 (Prod.snd x_1).1) = List.length (heldL x_1.1 (Prod.snd x_1).1) ∧ List.length (Prod.snd (Prod.snd x_1)).1 = List.length (Prod.snd (Prod.snd x_1)).1) ∧ List.length (heldL x_1.1 (Prod.snd x_1).1) ≤ (4294967296 : Nat)) ∧ bif !sameB (heldL x_1.1 (Prod.snd x_1).1) (Prod.snd (Prod.snd x_1)).1 then AVal.bool false = AVal.bool true else okSt (HH f g n (W (1 + Int.tmod (W th) 8))) (fun x' => Hint.ok (HH f g n (W (1 + Int.tmod (W th) 8))) x' ∧ Hint.mu (HH f g n (W (1 + Int.tmod (W th) 8))) x' < Hint.mu (HH f g n (W (1 + Int.tmod (W th) 8))) x) [AVal.top, AVal.top, AVal.top, AVal.top, AVal.top, AVal.ptr 0 0, AVal.ptr 1 0, AVal.slice 3 0 (List.length (Prod.snd x_1).1) 1, AVal.int .i64 x_1.1, AVal.top, AVal.top, AVal.top, AVal.top, AVal.top, AVal.top, AVal.top, AVal.top, AVal.top, AVal.top, AVal.top, AVal.top, AVal.top, AVal.top, AVal.top, AVal.top, AVal.top, AVal.top, AVal.view n 2 fun i => [AVal.int .u8 (f i), AVal.int .u8 (g i)], AVal.int .i64 (↑n : Int), AVal.int .i64 (W ((↑x.1 : Int) + 1)), AVal.top, AVal.top, AVal.top, AVal.top, AVal.top, AVal.top, AVal.top, AVal.top, AVal.top, AVal.top, AVal.top, AVal.top, AVal.top, AVal.top, AVal.top, AVal.top, AVal.top, AVal.top, AVal.top, AVal.top, AVal.top, AVal.top, AVal.top, AVal.top, AVal.top, AVal.top, AVal.top, AVal.top, AVal.top, AVal.top, AVal.top, AVal.top, AVal.top, AVal.top, AVal.top, AVal.top, AVal.top, AVal.top, AVal.top, AVal.top, AVal.top, AVal.top, AVal.top, AVal.top, AVal.top, AVal.top, AVal.top, AVal.top, AVal.top, AVal.top, AVal.top, AVal.top, AVal.top, AVal.top, AVal.top, AVal.top, AVal.top, AVal.top, AVal.top, AVal.top, AVal.top, AVal.top, AVal.top, AVal.top, AVal.top, AVal.top, AVal.top, AVal.top, AVal.top, AVal.top, AVal.top, AVal.top, AVal.top, AVal.top, AVal.top, AVal.top, AVal.top, AVal.top, AVal.top, AVal.top, AVal.top, AVal.top, AVal.top, AVal.top, AVal.top] [some (Entry.cells [AVal.int .i64 (W (1 + Int.tmod (W th) 8)), AVal.int .i64 200]), some (Entry.cells [AVal.int .i64 (W (1 + Int.tmod (W th) 8)), AVal.int .i64 200, AVal.int .i64 0, AVal.int .i64 x_1.1, AVal.slice 2 0 (List.length (Prod.snd x_1).1) 1]), some (Entry.ints (some .i64) (Prod.snd x_1).1), some (Entry.ints (some .i64) (Prod.snd x_1).1)] else (0 + List.length (Prod.snd x).2 ≤ List.length (Prod.snd x).2 ∧ 0 + List.length (Prod.snd x).2 ≤ (4294967296 : Nat)) ∧ bif !ieq (Prod.snd x).1 0 then (0 + List.length (Prod.snd x).2 ≤ List.length (Prod.snd x).2 ∧ 1 + List.length (Prod.snd x).2 ≤ (4294967296 : Nat)) ∧ (List.length (Prod.snd x).2 = List.length (Prod.snd x).2 ∧ List.length (Prod.snd x).2 ≤ (1000000 : Nat)) ∧ ((List.length (heldL (Prod.snd x).1 (Prod.snd x).2) = List.length (heldL (Prod.snd x).1 (Prod.snd x).2) ∧ 1 + List.length (Prod.snd x).2 = List.length ([(Prod.snd x).1] ++ List.take (List.length (Prod.snd x).2) (List.drop 0 (Prod.snd x).2))) ∧ List.length (heldL (Prod.snd x).1 (Prod.snd x).2) ≤ (4294967296 : Nat)) ∧ bif !sameB (heldL (Prod.snd x).1 (Prod.snd x).2) ([(Prod.snd x).1] ++ List.take (List.length (Prod.snd x).2) (List.drop 0 (Prod.snd x).2)) then AVal.bool false = AVal.bool true else ((0 : Int) ≤ W (1 + Int.tmod (W th) 8) ∧ W (1 + Int.tmod (W th) 8) ≤ (100000 : Int)) ∧ bif !bif ile (4 * W (1 + Int.tmod (W th) 8)) (↑(List.length (Prod.snd x).2) : Int) then ile (W (4 * W (1 + Int.tmod (W th) 8))) (↑(List.length (Prod.snd x).2) : Int) else !ile (W (4 * W (1 + Int.tmod (W th) 8))) (↑(List.length (Prod.snd x).2) : Int) then AVal.bool false = AVal.bool true else bif !ieq (Prod.snd x).1 (Prod.snd x).1 then AVal.bool false = AVal.bool true else okSt (HN f g n (W (1 + Int.tmod (W th) 8)) (↑(Prod.fst x) : Int)) (Hint.ok (HN f g n (W (1 + Int.tmod (W th) 8)) (↑(Prod.fst x) : Int))) [AVal.top, AVal.top, AVal.top, AVal.top, AVal.top, AVal.ptr 0 0, AVal.ptr 1 0, AVal.slice 3 0 (List.length (Prod.snd x).2) 1, AVal.int .i64 (Prod.snd x).1, AVal.top, AVal.top, AVal.top, AVal.slice 4 0 (1 + List.length (Prod.snd x).2) 1, AVal.slice 5 0 (List.length (heldL (Prod.snd x).1 (Prod.snd x).2)) 1, AVal.top, AVal.top, AVal.top, AVal.top, AVal.top, AVal.top, AVal.top, AVal.top, AVal.top, AVal.top, AVal.top, AVal.top, AVal.top, AVal.view n 2 fun i => [AVal.int .u8 (f i), AVal.int .u8 (g i)], AVal.int .i64 (↑n : Int), AVal.int .i64 (↑x.1 : Int), AVal.top, AVal.top, AVal.top, AVal.top, AVal.top, AVal.top, AVal.top, AVal.top, AVal.top, AVal.top, AVal.top, AVal.top, AVal.top, AVal.top, AVal.top, AVal.top, AVal.top, AVal.top, AVal.top, AVal.top, AVal.top, AVal.top, AVal.top, AVal.top, AVal.top, AVal.top, AVal.top, AVal.top, AVal.top, AVal.top, AVal.top, AVal.top, AVal.top, AVal.top, AVal.top, AVal.top, AVal.top, AVal.top, AVal.top, AVal.top, AVal.top, AVal.top, AVal.top, AVal.top, AVal.top, AVal.top, AVal.top, AVal.top, AVal.top, AVal.top, AVal.top, AVal.top, AVal.top, AVal.top, AVal.top, AVal.top, AVal.top, AVal.top, AVal.top, AVal.top, AVal.top, AVal.top, AVal.top, AVal.top, AVal.top, AVal.top, AVal.top, AVal.top, AVal.top, AVal.top, AVal.top, AVal.int .i64 (↑(List.length (heldL (Prod.snd x).1 (Prod.snd x).2)) : Int), AVal.int .i64 0, AVal.top, AVal.top, AVal.top, AVal.top, AVal.top, AVal.top, AVal.top, AVal.top, AVal.top, AVal.top, AVal.top, AVal.top] [some (Entry.cells [AVal.int .i64 (W (1 + Int.tmod (W th) 8)), AVal.int .i64 200]), some (Entry.cells [AVal.int .i64 (W (1 + Int.tmod (W th) 8)), AVal.int .i64 200, AVal.int .i64 0, AVal.int .i64 (Prod.snd x).1, AVal.slice 2 0 (List.length (Prod.snd x).2) 1]), some (Entry.ints (some .i64) (Prod.snd x).2), some (Entry.ints (some .i64) (Prod.snd x).2), some (Entry.ints (some .i64) ([(Prod.snd x).1] ++ List.take (List.length (Prod.snd x).2) (List.drop 0 (Prod.snd x).2))), some (Entry.ints (some .i64) (heldL (Prod.snd x).1 (Prod.snd x).2))] ∧ ∀ (x_1 : Hint.X (HN f g n (W (1 + Int.tmod (W th) 8)) (↑(Prod.fst x) : Int))), okN n (↑x.1 : Int) x_1 → bif ilt (↑(Prod.snd (Prod.snd (Prod.snd x_1))).1 : Int) (↑(List.length (Prod.snd (Prod.snd (Prod.snd x_1))).2) : Int) then ((0 : Int) ≤ (↑(Prod.snd (Prod.snd (Prod.snd x_1))).1 : Int) ∧ (↑(Prod.snd (Prod.snd (Prod.snd x_1))).1 : Int) < (↑(List.length (Prod.snd (Prod.snd (Prod.snd x_1))).2) : Int)) ∧ 0 + Int.toNat (↑(Prod.snd (Prod.snd (Prod.snd x_1))).1 : Int) * (1 : Nat) < List.length (Prod.snd (Prod.snd (Prod.snd x_1))).2 ∧ okSt (HN f g n (W (1 + Int.tmod (W th) 8)) (↑(Prod.fst x) : Int)) (fun x' => Hint.ok (HN f g n (W (1 + Int.tmod (W th) 8)) (↑(Prod.fst x) : Int)) x' ∧ Hint.mu (HN f g n (W (1 + Int.tmod (W th) 8)) (↑(Prod.fst x) : Int)) x' < Hint.mu (HN f g n (W (1 + Int.tmod (W th) 8)) (↑(Prod.fst x) : Int)) x_1) [AVal.top, AVal.top, AVal.top, AVal.top, AVal.top, AVal.ptr 0 0, AVal.ptr 1 0, AVal.slice 3 0 (List.length (Prod.snd x_1).1) 1, AVal.int .i64 x_1.1, AVal.top, AVal.top, AVal.top, AVal.slice 4 0 (List.length (Prod.snd (Prod.snd x_1)).1) 1, AVal.slice 5 0 (List.length (Prod.snd (Prod.snd (Prod.snd x_1))).2) 1, AVal.top, AVal.top, AVal.top, AVal.top, AVal.top, AVal.top, AVal.top, AVal.top, AVal.top, AVal.top, AVal.top, AVal.top, AVal.top, AVal.view n 2 fun i => [AVal.int .u8 (f i), AVal.int .u8 (g i)], AVal.int .i64 (↑n : Int), AVal.int .i64 (↑x.1 : Int), AVal.top, AVal.top, AVal.top, AVal.top, AVal.top, AVal.top, AVal.top, AVal.top, AVal.top, AVal.top, AVal.top, AVal.top, AVal.top, AVal.top, AVal.top, AVal.top, AVal.top, AVal.top, AVal.top, AVal.top, AVal.top, AVal.top, AVal.top, AVal.top, AVal.top, AVal.top, AVal.top, AVal.top, AVal.top, AVal.top, AVal.top, AVal.top, AVal.top, AVal.top, AVal.top, AVal.top, AVal.top, AVal.top, AVal.top, AVal.top, AVal.top, AVal.top, AVal.top, AVal.top, AVal.top, AVal.top, AVal.top, AVal.top, AVal.top, AVal.top, AVal.top, AVal.top, AVal.top, AVal.top, AVal.top, AVal.top, AVal.top, AVal.top, AVal.top, AVal.top, AVal.top, AVal.top, AVal.top, AVal.top, AVal.top, AVal.top, AVal.top, AVal.top, AVal.top, AVal.top, AVal.top, AVal.int .i64 (↑(List.length (Prod.snd (Prod.snd (Prod.snd x_1))).2) : Int), AVal.int .i64 (W ((↑(Prod.snd (Prod.snd (Prod.snd x_1))).1 : Int) + 1)), AVal.top, AVal.top, AVal.top, AVal.top, AVal.top, AVal.top, AVal.top, AVal.top, AVal.top, AVal.top, AVal.top, AVal.top] [some (Entry.cells [AVal.int .i64 (W (1 + Int.tmod (W th) 8)), AVal.int .i64 200]), some (Entry.cells [AVal.int .i64 (W (1 + Int.tmod (W th) 8)), AVal.int .i64 200, AVal.int .i64 0, AVal.int .i64 x_1.1, AVal.slice 2 0 (List.length (Prod.snd x_1).1) 1]), some (Entry.ints (some .i64) (Prod.snd x_1).1), some (Entry.ints (some .i64) (Prod.snd x_1).1), some (Entry.ints (some .i64) (Prod.snd (Prod.snd x_1)).1), some (Entry.ints (some .i64) (List.set (Prod.snd (Prod.snd (Prod.snd x_1))).2 (0 + Int.toNat (↑(Prod.snd (Prod.snd (Prod.snd x_1))).1 : Int) * 1) (-1 : Int)))] else (List.length (Prod.snd x_1).1 = List.length (Prod.snd x_1).1 ∧ List.length (Prod.snd x_1).1 ≤ (1000000 : Nat)) ∧ ((List.length (heldL x_1.1 (Prod.snd x_1).1) = List.length (heldL x_1.1 (Prod.snd x_1).1) ∧ List.length (Prod.snd (Prod.snd x_1)).1 = List.length (Prod.snd (Prod.snd x_1)).1) ∧ List.length (heldL x_1.1 (Prod.snd x_1).1) ≤ (4294967296 : Nat)) ∧ bif !sameB (heldL x_1.1 (Prod.snd x_1).1) (Prod.snd (Prod.snd x_1)).1 then AVal.bool false = AVal.bool true else okSt (HH f g n (W (1 + Int.tmod (W th) 8))) (fun x' => Hint.ok (HH f g n (W (1 + Int.tmod (W th) 8))) x' ∧ Hint.mu (HH f g n (W (1 + Int.tmod (W th) 8))) x' < Hint.mu (HH f g n (W (1 + Int.tmod (W th) 8))) x) [AVal.top, AVal.top, AVal.top, AVal.top, AVal.top, AVal.ptr 0 0, AVal.ptr 1 0, AVal.slice 3 0 (List.length (Prod.snd x_1).1) 1, AVal.int .i64 x_1.1, AVal.top, AVal.top, AVal.top, AVal.top, AVal.top, AVal.top, AVal.top, AVal.top, AVal.top, AVal.top, AVal.top, AVal.top, AVal.top, AVal.top, AVal.top, AVal.top, AVal.top, AVal.top, AVal.view n 2 fun i => [AVal.int .u8 (f i), AVal.int .u8 (g i)], AVal.int .i64 (↑n : Int), AVal.int .i64 (W ((↑x.1 : Int) + 1)), AVal.top, AVal.top, AVal.top, AVal.top, AVal.top, AVal.top, AVal.top, AVal.top, AVal.top, AVal.top, AVal.top, AVal.top, AVal.top, AVal.top, AVal.top, AVal.top, AVal.top, AVal.top, AVal.top, AVal.top, AVal.top, AVal.top, AVal.top, AVal.top, AVal.top, AVal.top, AVal.top, AVal.top, AVal.top, AVal.top, AVal.top, AVal.top, AVal.top, AVal.top, AVal.top, AVal.top, AVal.top, AVal.top, AVal.top, AVal.top, AVal.top, AVal.top, AVal.top, AVal.top, AVal.top, AVal.top, AVal.top, AVal.top, AVal.top, AVal.top, AVal.top, AVal.top, AVal.top, AVal.top, AVal.top, AVal.top, AVal.top, AVal.top, AVal.top, AVal.top, AVal.top, AVal.top, AVal.top, AVal.top, AVal.top, AVal.top, AVal.top, AVal.top, AVal.top, AVal.top, AVal.top, AVal.top, AVal.top, AVal.top, AVal.top, AVal.top, AVal.top, AVal.top, AVal.top, AVal.top, AVal.top, AVal.top, AVal.top, AVal.top, AVal.top] [some (Entry.cells [AVal.int .i64 (W (1 + Int.tmod (W th) 8)), AVal.int .i64 200]), some (Entry.cells [AVal.int .i64 (W (1 + Int.tmod (W th) 8)), AVal.int .i64 200, AVal.int .i64 0, AVal.int .i64 x_1.1, AVal.slice 2 0 (List.length (Prod.snd x_1).1) 1]), some (Entry.ints (some .i64) (Prod.snd x_1).1), some (Entry.ints (some .i64) (Prod.snd x_1).1)] else (List.length (Prod.snd x).2 = List.length (Prod.snd x).2 ∧ List.length (Prod.snd x).2 ≤ (1000000 : Nat)) ∧ ((List.length (heldL (Prod.snd x).1 (Prod.snd x).2) = List.length (heldL (Prod.snd x).1 (Prod.snd x).2) ∧ 0 + List.length (Prod.snd x).2 = List.length ([] ++ List.take (List.length (Prod.snd x).2) (List.drop 0 (Prod.snd x).2))) ∧ List.length (heldL (Prod.snd x).1 (Prod.snd x).2) ≤ (4294967296 : Nat)) ∧ bif !sameB (heldL (Prod.snd x).1 (Prod.snd x).2) ([] ++ List.take (List.length (Prod.snd x).2) (List.drop 0 (Prod.snd x).2)) then AVal.bool false = AVal.bool true else ((0 : Int) ≤ W (1 + Int.tmod (W th) 8) ∧ W (1 + Int.tmod (W th) 8) ≤ (100000 : Int)) ∧ bif !bif ile (4 * W (1 + Int.tmod (W th) 8)) (↑(List.length (Prod.snd x).2) : Int) then ile (W (4 * W (1 + Int.tmod (W th) 8))) (↑(List.length (Prod.snd x).2) : Int) else !ile (W (4 * W (1 + Int.tmod (W th) 8))) (↑(List.length (Prod.snd x).2) : Int) then AVal.bool false = AVal.bool true else bif !ieq (Prod.snd x).1 (Prod.snd x).1 then AVal.bool false = AVal.bool true else okSt (HN f g n (W (1 + Int.tmod (W th) 8)) (↑(Prod.fst x) : Int)) (Hint.ok (HN f g n (W (1 + Int.tmod (W th) 8)) (↑(Prod.fst x) : Int))) [AVal.top, AVal.top, AVal.top, AVal.top, AVal.top, AVal.ptr 0 0, AVal.ptr 1 0, AVal.slice 3 0 (List.length (Prod.snd x).2) 1, AVal.int .i64 (Prod.snd x).1, AVal.top, AVal.top, AVal.top, AVal.slice 4 0 (0 + List.length (Prod.snd x).2) 1, AVal.slice 5 0 (List.length (heldL (Prod.snd x).1 (Prod.snd x).2)) 1, AVal.top, AVal.top, AVal.top, AVal.top, AVal.top, AVal.top, AVal.top, AVal.top, AVal.top, AVal.top, AVal.top, AVal.top, AVal.top, AVal.view n 2 fun i => [AVal.int .u8 (f i), AVal.int .u8 (g i)], AVal.int .i64 (↑n : Int), AVal.int .i64 (↑x.1 : Int), AVal.top, AVal.top, AVal.top, AVal.top, AVal.top, AVal.top, AVal.top, AVal.top, AVal.top, AVal.top, AVal.top, AVal.top, AVal.top, AVal.top, AVal.top, AVal.top, AVal.top, AVal.top, AVal.top, AVal.top, AVal.top, AVal.top, AVal.top, AVal.top, AVal.top, AVal.top, AVal.top, AVal.top, AVal.top, AVal.top, AVal.top, AVal.top, AVal.top, AVal.top, AVal.top, AVal.top, AVal.top, AVal.top, AVal.top, AVal.top, AVal.top, AVal.top, AVal.top, AVal.top, AVal.top, AVal.top, AVal.top, AVal.top, AVal.top, AVal.top, AVal.top, AVal.top, AVal.top, AVal.top, AVal.top, AVal.top, AVal.top, AVal.top, AVal.top, AVal.top, AVal.top, AVal.top, AVal.top, AVal.top, AVal.top, AVal.top, AVal.top, AVal.top, AVal.top, AVal.top, AVal.top, AVal.int .i64 (↑(List.length (heldL (Prod.snd x).1 (Prod.snd x).2)) : Int), AVal.int .i64 0, AVal.top, AVal.top, AVal.top, AVal.top, AVal.top, AVal.top, AVal.top, AVal.top, AVal.top, AVal.top, AVal.top, AVal.top] [some (Entry.cells [AVal.int .i64 (W (1 + Int.tmod (W th) 8)), AVal.int .i64 200]), some (Entry.cells [AVal.int .i64 (W (1 + Int.tmod (W th) 8)), AVal.int .i64 200, AVal.int .i64 0, AVal.int .i64 (Prod.snd x).1, AVal.slice 2 0 (List.length (Prod.snd x).2) 1]), some (Entry.ints (some .i64) (Prod.snd x).2), some (Entry.ints (some .i64) (Prod.snd x).2), some (Entry.ints (some .i64) ([] ++ List.take (List.length (Prod.snd x).2) (List.drop 0 (Prod.snd x).2))), some (Entry.ints (some .i64) (heldL (Prod.snd x).1 (Prod.snd x).2))] ∧ ∀ (x_1 : Hint.X (HN f g n (W (1 + Int.tmod (W th) 8)) (↑(Prod.fst x) : Int))), okN n (↑x.1 : Int) x_1 → bif ilt (↑(Prod.snd (Prod.snd (Prod.snd x_1))).1 : Int) (↑(List.length (Prod.snd (Prod.snd (Prod.snd x_1))).2) : Int) then ((0 : Int) ≤ (↑(Prod.snd (Prod.snd (Prod.snd x_1))).1 : Int) ∧ (↑(Prod.snd (Prod.snd (Prod.snd x_1))).1 : Int) < (↑(List.length (Prod.snd (Prod.snd (Prod.snd x_1))).2) : Int)) ∧ 0 + Int.toNat (↑(Prod.snd (Prod.snd (Prod.snd x_1))).1 : Int) * (1 : Nat) < List.length (Prod.snd (Prod.snd (Prod.snd x_1))).2 ∧ okSt (HN f g n (W (1 + Int.tmod (W th) 8)) (↑(Prod.fst x) : Int)) (fun x' => Hint.ok (HN f g n (W (1 + Int.tmod (W th) 8)) (↑(Prod.fst x) : Int)) x' ∧ Hint.mu (HN f g n (W (1 + Int.tmod (W th) 8)) (↑(Prod.fst x) : Int)) x' < Hint.mu (HN f g n (W (1 + Int.tmod (W th) 8)) (↑(Prod.fst x) : Int)) x_1) [AVal.top, AVal.top, AVal.top, AVal.top, AVal.top, AVal.ptr 0 0, AVal.ptr 1 0, AVal.slice 3 0 (List.length (Prod.snd x_1).1) 1, AVal.int .i64 x_1.1, AVal.top, AVal.top, AVal.top, AVal.slice 4 0 (List.length (Prod.snd (Prod.snd x_1)).1) 1, AVal.slice 5 0 (List.length (Prod.snd (Prod.snd (Prod.snd x_1))).2) 1, AVal.top, AVal.top, AVal.top, AVal.top, AVal.top, AVal.top, AVal.top, AVal.top, AVal.top, AVal.top, AVal.top, AVal.top, AVal.top, AVal.view n 2 fun i => [AVal.int .u8 (f i), AVal.int .u8 (g i)], AVal.int .i64 (↑n : Int), AVal.int .i64 (↑x.1 : Int), AVal.top, AVal.top, AVal.top, AVal.top, AVal.top, AVal.top, AVal.top, AVal.top, AVal.top, AVal.top, AVal.top, AVal.top, AVal.top, AVal.top, AVal.top, AVal.top, AVal.top, AVal.top, AVal.top, AVal.top, AVal.top, AVal.top, AVal.top, AVal.top, AVal.top, AVal.top, AVal.top, AVal.top, AVal.top, AVal.top, AVal.top, AVal.top, AVal.top, AVal.top, AVal.top, AVal.top, AVal.top, AVal.top, AVal.top, AVal.top, AVal.top, AVal.top, AVal.top, AVal.top, AVal.top, AVal.top, AVal.top, AVal.top, AVal.top, AVal.top, AVal.top, AVal.top, AVal.top, AVal.top, AVal.top, AVal.top, AVal.top, AVal.top, AVal.top, AVal.top, AVal.top, AVal.top, AVal.top, AVal.top, AVal.top, AVal.top, AVal.top, AVal.top, AVal.top, AVal.top, AVal.top, AVal.int .i64 (↑(List.length (Prod.snd (Prod.snd (Prod.snd x_1))).2) : Int), AVal.int .i64 (W ((↑(Prod.snd (Prod.snd (Prod.snd x_1))).1 : Int) + 1)), AVal.top, AVal.top, AVal.top, AVal.top, AVal.top, AVal.top, AVal.top, AVal.top, AVal.top, AVal.top, AVal.top, AVal.top] [some (Entry.cells [AVal.int .i64 (W (1 + Int.tmod (W th) 8)), AVal.int .i64 200]), some (Entry.cells [AVal.int .i64 (W (1 + Int.tmod (W th) 8)), AVal.int .i64 200, AVal.int .i64 0, AVal.int .i64 x_1.1, AVal.slice 2 0 (List.length (Prod.snd x_1).1) 1]), some (Entry.ints (some .i64) (Prod.snd x_1).1), some (Entry.ints (some .i64) (Prod.snd x_1).1), some (Entry.ints (some .i64) (Prod.snd (Prod.snd x_1)).1), some (Entry.ints (some .i64) (List.set (Prod.snd (Prod.snd (Prod.snd x_1))).2 (0 + Int.toNat (↑(Prod.snd (Prod.snd (Prod.snd x_1))).1 : Int) * 1) (-1 : Int)))] else (List.length (Prod.snd x_1).1 = List.length (Prod.snd x_1).1 ∧ List.length (Prod.snd x_1).1 ≤ (1000000 : Nat)) ∧ ((List.length (heldL x_1.1 (Prod.snd x_1).1) = List.length (heldL x_1.1 (Prod.snd x_1).1) ∧ List.length (Prod.snd (Prod.snd x_1)).1 = List.length (Prod.snd (Prod.snd x_1)).1) ∧ List.length (heldL x_1.1 (Prod.snd x_1).1) ≤ (4294967296 : Nat)) ∧ bif !sameB (heldL x_1.1 (Prod.snd x_1).1) (Prod.snd (Prod.snd x_1)).1 then AVal.bool false = AVal.bool true else okSt (HH f g n (W (1 + Int.tmod (W th) 8))) (fun x' => Hint.ok (HH f g n (W (1 + Int.tmod (W th) 8))) x' ∧ Hint.mu (HH f g n (W (1 + Int.tmod (W th) 8))) x' < Hint.mu (HH f g n (W (1 + Int.tmod (W th) 8))) x) [AVal.top, AVal.top, AVal.top, AVal.top, AVal.top, AVal.ptr 0 0, AVal.ptr 1 0, AVal.slice 3 0 (List.length (Prod.snd x_1).1) 1, AVal.int .i64 x_1.1, AVal.top, AVal.top, AVal.top, AVal.top, AVal.top, AVal.top, AVal.top, AVal.top, AVal.top, AVal.top, AVal.top, AVal.top, AVal.top, AVal.top, AVal.top, AVal.top, AVal.top, AVal.top, AVal.view n 2 fun i => [AVal.int .u8 (f i), AVal.int .u8 (g i)], AVal.int .i64 (↑n : Int), AVal.int .i64 (W ((↑x.1 : Int) + 1)), AVal.top, AVal.top, AVal.top, AVal.top, AVal.top, AVal.top, AVal.top, AVal.top, AVal.top, AVal.top, AVal.top, AVal.top, AVal.top, AVal.top, AVal.top, AVal.top, AVal.top, AVal.top, AVal.top, AVal.top, AVal.top, AVal.top, AVal.top, AVal.top, AVal.top, AVal.top, AVal.top, AVal.top, AVal.top, AVal.top, AVal.top, AVal.top, AVal.top, AVal.top, AVal.top, AVal.top, AVal.top, AVal.top, AVal.top, AVal.top, AVal.top, AVal.top, AVal.top, AVal.top, AVal.top, AVal.top, AVal.top, AVal.top, AVal.top, AVal.top, AVal.top, AVal.top, AVal.top, AVal.top, AVal.top, AVal.top, AVal.top, AVal.top, AVal.top, AVal.top, AVal.top, AVal.top, AVal.top, AVal.top, AVal.top, AVal.top, AVal.top, AVal.top, AVal.top, AVal.top, AVal.top, AVal.top, AVal.top, AVal.top, AVal.top, AVal.top, AVal.top, AVal.top, AVal.top, AVal.top, AVal.top, AVal.top, AVal.top, AVal.top, AVal.top] [some (Entry.cells [AVal.int .i64 (W (1 + Int.tmod (W th) 8)), AVal.int .i64 200]), some (Entry.cells [AVal.int .i64 (W (1 + Int.tmod (W th) 8)), AVal.int .i64 200, AVal.int .i64 0, AVal.int .i64 x_1.1, AVal.slice 2 0 (List.length (Prod.snd x_1).1) 1]), some (Entry.ints (some .i64) (Prod.snd x_1).1), some (Entry.ints (some .i64) (Prod.snd x_1).1)] else AVal.bool true = AVal.bool true) (by kernel_rfl) ?_)
  have ht : 0 ≤ W (1 + Int.tmod (W th) 8) ∧ W (1 + Int.tmod (W th) 8) ≤ 8 := by
    have h1 : W th = th := W_in (by omega)
    have h2 : Int.tmod th 8 = th % 8 := Int.tmod_eq_emod_of_nonneg hth.1
    rw [h1, h2, W, W_in (by omega)]
    omega
  generalize W (1 + Int.tmod (W th) 8) = t at ht ⊢
  refine ⟨trivial, cond_go (fun _ => rfl) (fun e60 => ?_)⟩
  rw [ilt_eq, decide_eq_false_iff_not] at e60
  have hn : n ≤ 60 := by omega
  refine ⟨by decide, okSt_intro (H := HH f g n t) ((0 : Nat), (0 : Int), ([] : List Int)) rfl ⟨Nat.zero_le _, Nat.le_refl _⟩, ?_⟩
  rintro ⟨i, sp, R⟩ ⟨h1, h2⟩
  dsimp only at h1 h2 ⊢
  refine cond_go (fun e => ?_) (fun _ => rfl)
  rw [ilt_eq, decide_eq_true_eq] at e
  have hi : i < n := by omega
  have hW4 : W (4 * t) = 4 * t := W_in (by omega)
  have hWi : W ((i : Int) + 1) = ((i + 1 : Nat) : Int) := by rw [W, W_in (by omega)]; rfl
  generalize W (g (i : Int).toNat) = a
  generalize W (a + 1) = b
  refine ⟨by omega, by decide, by decide, by decide, ?_⟩
  refine cond_go (fun ea => ?_) (fun ea => cond_go (fun eb => ?_) (fun eb => cond_go (fun ec => ?_) (fun ec => ?_)))
  · have hl : R.length + 2 = (R ++ [a, b]).length := by simp
    rw [hl]
    generalize R ++ [a, b] = R1 at hl ⊢
    refine ⟨⟨rfl, rfl, rfl, by omega⟩, ⟨rfl, rfl, rfl, by omega⟩, ⟨by omega, by omega⟩, cond_go (fun hsp => ?_) (fun hsp => ?_)⟩
    · replace hsp := not_go hsp
      have hh := heldL_no R1 hsp
      have e2 : 1 + (R1).length = ([sp] ++ R1).length := by simp; omega
      simp only [hh, List.drop_zero, List.take_length, Nat.zero_add, List.nil_append, e2, sameB_self, hW4, same_self, ieq_self, Bool.not_true, cond_false]
      refine ⟨?_, ?_, ?_, ?_, okSt_intro (H := HN f g n t i) (sp, R1, [sp] ++ R1, (0 : Nat), [sp] ++ R1) rfl ⟨by omega, by omega, by show ((R1).length : Int) ≤ 2 * i + 2; omega, hh, Nat.zero_le _, ?_⟩, ?_⟩
      · and_intros <;> first | exact trivial | omega | (simp; omega)
      · and_intros <;> first | exact trivial | omega | (simp; omega)
      · and_intros <;> first | exact trivial | omega | (simp; omega)
      · and_intros <;> first | exact trivial | omega | (simp; omega)
      · show ([sp] ++ R1).length ≤ 1000000
        first | omega | (simp; omega)
      · rintro ⟨sp', R', ws, j, ys⟩ ⟨g1, g2, g3, g4, g5, g6⟩
        dsimp only at g3 g4 g5 g6 ⊢
        refine cond_go (fun e1 => ?_) (fun e1 => ?_)
        · rw [ilt_eq, decide_eq_true_eq] at e1
          have hj : W ((j : Int) + 1) = ((j + 1 : Nat) : Int) := by rw [W, W_in (by omega)]; rfl
          have hjj : (j : Int).toNat * 1 = j := by omega
          rw [hj, hjj]
          refine ⟨by omega, by omega, okSt_intro (H := HN f g n t i) (sp', R', ws, (j + 1 : Nat), ys.set j (-1)) (by simp only [HN, List.length_set]; rfl) ⟨⟨g1, g2, g3, g4, ?_, ?_⟩, ?_⟩⟩
          · show j + 1 ≤ (ys.set j (-1)).length
            simp only [List.length_set]; omega
          · show (ys.set j (-1)).length ≤ 1000000
            simp only [List.length_set]; omega
          · show (ys.set j (-1)).length - (j + 1) < ys.length - j
            simp only [List.length_set]; omega
        · have hl := heldL_len sp' R'
          refine ⟨⟨trivial, by omega⟩, ⟨⟨trivial, trivial⟩, by omega⟩, ?_⟩
          rw [g4, sameB_self, hWi]
          exact okSt_intro (H := HH f g n t) ((i + 1 : Nat), sp', R') rfl ⟨⟨hi, by show R'.length ≤ 2 * (i + 1); omega⟩, by show n - (i + 1) < n - i; omega⟩
    · replace hsp := not_go' hsp
      have hh := heldL_yes R1 hsp
      simp only [hh, List.drop_zero, List.take_length, Nat.zero_add, List.nil_append, sameB_self, hW4, same_self, ieq_self, Bool.not_true, cond_false]
      refine ⟨?_, ?_, ?_, okSt_intro (H := HN f g n t i) (sp, R1, R1, (0 : Nat), R1) rfl ⟨by omega, by omega, by show ((R1).length : Int) ≤ 2 * i + 2; omega, hh, Nat.zero_le _, ?_⟩, ?_⟩
      · and_intros <;> first | exact trivial | omega | (simp; omega)
      · and_intros <;> first | exact trivial | omega | (simp; omega)
      · and_intros <;> first | exact trivial | omega | (simp; omega)
      · show (R1).length ≤ 1000000
        first | omega | (simp; omega)
      · rintro ⟨sp', R', ws, j, ys⟩ ⟨g1, g2, g3, g4, g5, g6⟩
        dsimp only at g3 g4 g5 g6 ⊢
        refine cond_go (fun e1 => ?_) (fun e1 => ?_)
        · rw [ilt_eq, decide_eq_true_eq] at e1
          have hj : W ((j : Int) + 1) = ((j + 1 : Nat) : Int) := by rw [W, W_in (by omega)]; rfl
          have hjj : (j : Int).toNat * 1 = j := by omega
          rw [hj, hjj]
          refine ⟨by omega, by omega, okSt_intro (H := HN f g n t i) (sp', R', ws, (j + 1 : Nat), ys.set j (-1)) (by simp only [HN, List.length_set]; rfl) ⟨⟨g1, g2, g3, g4, ?_, ?_⟩, ?_⟩⟩
          · show j + 1 ≤ (ys.set j (-1)).length
            simp only [List.length_set]; omega
          · show (ys.set j (-1)).length ≤ 1000000
            simp only [List.length_set]; omega
          · show (ys.set j (-1)).length - (j + 1) < ys.length - j
            simp only [List.length_set]; omega
        · have hl := heldL_len sp' R'
          refine ⟨⟨trivial, by omega⟩, ⟨⟨trivial, trivial⟩, by omega⟩, ?_⟩
          rw [g4, sameB_self, hWi]
          exact okSt_intro (H := HH f g n t) ((i + 1 : Nat), sp', R') rfl ⟨⟨hi, by show R'.length ≤ 2 * (i + 1); omega⟩, by show n - (i + 1) < n - i; omega⟩
  · refine ⟨⟨by omega, by omega⟩, cond_go (fun hsp => ?_) (fun hsp => ?_)⟩
    · replace hsp := not_go hsp
      have hh := heldL_no R hsp
      have e2 : 1 + (R).length = ([a] ++ R).length := by simp; omega
      simp only [hh, List.drop_zero, List.take_length, Nat.zero_add, List.nil_append, e2, sameB_self, hW4, same_self, ieq_self, Bool.not_true, cond_false]
      refine ⟨?_, ?_, ?_, ?_, okSt_intro (H := HN f g n t i) (a, R, [a] ++ R, (0 : Nat), [a] ++ R) rfl ⟨by omega, by omega, by show ((R).length : Int) ≤ 2 * i + 2; omega, hh, Nat.zero_le _, ?_⟩, ?_⟩
      · and_intros <;> first | exact trivial | omega | (simp; omega)
      · and_intros <;> first | exact trivial | omega | (simp; omega)
      · and_intros <;> first | exact trivial | omega | (simp; omega)
      · and_intros <;> first | exact trivial | omega | (simp; omega)
      · show ([a] ++ R).length ≤ 1000000
        first | omega | (simp; omega)
      · rintro ⟨sp', R', ws, j, ys⟩ ⟨g1, g2, g3, g4, g5, g6⟩
        dsimp only at g3 g4 g5 g6 ⊢
        refine cond_go (fun e1 => ?_) (fun e1 => ?_)
        · rw [ilt_eq, decide_eq_true_eq] at e1
          have hj : W ((j : Int) + 1) = ((j + 1 : Nat) : Int) := by rw [W, W_in (by omega)]; rfl
          have hjj : (j : Int).toNat * 1 = j := by omega
          rw [hj, hjj]
          refine ⟨by omega, by omega, okSt_intro (H := HN f g n t i) (sp', R', ws, (j + 1 : Nat), ys.set j (-1)) (by simp only [HN, List.length_set]; rfl) ⟨⟨g1, g2, g3, g4, ?_, ?_⟩, ?_⟩⟩
          · show j + 1 ≤ (ys.set j (-1)).length
            simp only [List.length_set]; omega
          · show (ys.set j (-1)).length ≤ 1000000
            simp only [List.length_set]; omega
          · show (ys.set j (-1)).length - (j + 1) < ys.length - j
            simp only [List.length_set]; omega
        · have hl := heldL_len sp' R'
          refine ⟨⟨trivial, by omega⟩, ⟨⟨trivial, trivial⟩, by omega⟩, ?_⟩
          rw [g4, sameB_self, hWi]
          exact okSt_intro (H := HH f g n t) ((i + 1 : Nat), sp', R') rfl ⟨⟨hi, by show R'.length ≤ 2 * (i + 1); omega⟩, by show n - (i + 1) < n - i; omega⟩
    · replace hsp := not_go' hsp
      have hh := heldL_yes R hsp
      simp only [hh, List.drop_zero, List.take_length, Nat.zero_add, List.nil_append, sameB_self, hW4, same_self, ieq_self, Bool.not_true, cond_false]
      refine ⟨?_, ?_, ?_, okSt_intro (H := HN f g n t i) (a, R, R, (0 : Nat), R) rfl ⟨by omega, by omega, by show ((R).length : Int) ≤ 2 * i + 2; omega, hh, Nat.zero_le _, ?_⟩, ?_⟩
      · and_intros <;> first | exact trivial | omega | (simp; omega)
      · and_intros <;> first | exact trivial | omega | (simp; omega)
      · and_intros <;> first | exact trivial | omega | (simp; omega)
      · show (R).length ≤ 1000000
        first | omega | (simp; omega)
      · rintro ⟨sp', R', ws, j, ys⟩ ⟨g1, g2, g3, g4, g5, g6⟩
        dsimp only at g3 g4 g5 g6 ⊢
        refine cond_go (fun e1 => ?_) (fun e1 => ?_)
        · rw [ilt_eq, decide_eq_true_eq] at e1
          have hj : W ((j : Int) + 1) = ((j + 1 : Nat) : Int) := by rw [W, W_in (by omega)]; rfl
          have hjj : (j : Int).toNat * 1 = j := by omega
          rw [hj, hjj]
          refine ⟨by omega, by omega, okSt_intro (H := HN f g n t i) (sp', R', ws, (j + 1 : Nat), ys.set j (-1)) (by simp only [HN, List.length_set]; rfl) ⟨⟨g1, g2, g3, g4, ?_, ?_⟩, ?_⟩⟩
          · show j + 1 ≤ (ys.set j (-1)).length
            simp only [List.length_set]; omega
          · show (ys.set j (-1)).length ≤ 1000000
            simp only [List.length_set]; omega
          · show (ys.set j (-1)).length - (j + 1) < ys.length - j
            simp only [List.length_set]; omega
        · have hl := heldL_len sp' R'
          refine ⟨⟨trivial, by omega⟩, ⟨⟨trivial, trivial⟩, by omega⟩, ?_⟩
          rw [g4, sameB_self, hWi]
          exact okSt_intro (H := HH f g n t) ((i + 1 : Nat), sp', R') rfl ⟨⟨hi, by show R'.length ≤ 2 * (i + 1); omega⟩, by show n - (i + 1) < n - i; omega⟩
  · rw [ieq_self]
    have hsp : ieq 0 0 = true := ieq_self 0
    have hh := heldL_yes R hsp
    simp only [hh, List.drop_zero, List.take_length, Nat.zero_add, List.nil_append, sameB_self, hW4, same_self, ieq_self, Bool.not_true, cond_false]
    refine ⟨?_, ?_, ?_, ?_, okSt_intro (H := HN f g n t i) (0, R, R, (0 : Nat), R) rfl ⟨by omega, by omega, by show ((R).length : Int) ≤ 2 * i + 2; omega, hh, Nat.zero_le _, ?_⟩, ?_⟩
    · and_intros <;> first | exact trivial | omega | (simp; omega)
    · and_intros <;> first | exact trivial | omega | (simp; omega)
    · and_intros <;> first | exact trivial | omega | (simp; omega)
    · and_intros <;> first | exact trivial | omega | (simp; omega)
    · show (R).length ≤ 1000000
      first | omega | (simp; omega)
    · rintro ⟨sp', R', ws, j, ys⟩ ⟨g1, g2, g3, g4, g5, g6⟩
      dsimp only at g3 g4 g5 g6 ⊢
      refine cond_go (fun e1 => ?_) (fun e1 => ?_)
      · rw [ilt_eq, decide_eq_true_eq] at e1
        have hj : W ((j : Int) + 1) = ((j + 1 : Nat) : Int) := by rw [W, W_in (by omega)]; rfl
        have hjj : (j : Int).toNat * 1 = j := by omega
        rw [hj, hjj]
        refine ⟨by omega, by omega, okSt_intro (H := HN f g n t i) (sp', R', ws, (j + 1 : Nat), ys.set j (-1)) (by simp only [HN, List.length_set]; rfl) ⟨⟨g1, g2, g3, g4, ?_, ?_⟩, ?_⟩⟩
        · show j + 1 ≤ (ys.set j (-1)).length
          simp only [List.length_set]; omega
        · show (ys.set j (-1)).length ≤ 1000000
          simp only [List.length_set]; omega
        · show (ys.set j (-1)).length - (j + 1) < ys.length - j
          simp only [List.length_set]; omega
      · have hl := heldL_len sp' R'
        refine ⟨⟨trivial, by omega⟩, ⟨⟨trivial, trivial⟩, by omega⟩, ?_⟩
        rw [g4, sameB_self, hWi]
        exact okSt_intro (H := HH f g n t) ((i + 1 : Nat), sp', R') rfl ⟨⟨hi, by show R'.length ≤ 2 * (i + 1); omega⟩, by show n - (i + 1) < n - i; omega⟩
  · refine ⟨⟨by omega, by omega⟩, cond_go (fun hsp => ?_) (fun hsp => ?_)⟩
    · replace hsp := not_go hsp
      have hh := heldL_no R hsp
      have e2 : 1 + (R).length = ([sp] ++ R).length := by simp; omega
      simp only [hh, List.drop_zero, List.take_length, Nat.zero_add, List.nil_append, e2, sameB_self, hW4, same_self, ieq_self, Bool.not_true, cond_false]
      refine ⟨?_, ?_, ?_, ?_, okSt_intro (H := HN f g n t i) (sp, R, [sp] ++ R, (0 : Nat), [sp] ++ R) rfl ⟨by omega, by omega, by show ((R).length : Int) ≤ 2 * i + 2; omega, hh, Nat.zero_le _, ?_⟩, ?_⟩
      · and_intros <;> first | exact trivial | omega | (simp; omega)
      · and_intros <;> first | exact trivial | omega | (simp; omega)
      · and_intros <;> first | exact trivial | omega | (simp; omega)
      · and_intros <;> first | exact trivial | omega | (simp; omega)
      · show ([sp] ++ R).length ≤ 1000000
        first | omega | (simp; omega)
      · rintro ⟨sp', R', ws, j, ys⟩ ⟨g1, g2, g3, g4, g5, g6⟩
        dsimp only at g3 g4 g5 g6 ⊢
        refine cond_go (fun e1 => ?_) (fun e1 => ?_)
        · rw [ilt_eq, decide_eq_true_eq] at e1
          have hj : W ((j : Int) + 1) = ((j + 1 : Nat) : Int) := by rw [W, W_in (by omega)]; rfl
          have hjj : (j : Int).toNat * 1 = j := by omega
          rw [hj, hjj]
          refine ⟨by omega, by omega, okSt_intro (H := HN f g n t i) (sp', R', ws, (j + 1 : Nat), ys.set j (-1)) (by simp only [HN, List.length_set]; rfl) ⟨⟨g1, g2, g3, g4, ?_, ?_⟩, ?_⟩⟩
          · show j + 1 ≤ (ys.set j (-1)).length
            simp only [List.length_set]; omega
          · show (ys.set j (-1)).length ≤ 1000000
            simp only [List.length_set]; omega
          · show (ys.set j (-1)).length - (j + 1) < ys.length - j
            simp only [List.length_set]; omega
        · have hl := heldL_len sp' R'
          refine ⟨⟨trivial, by omega⟩, ⟨⟨trivial, trivial⟩, by omega⟩, ?_⟩
          rw [g4, sameB_self, hWi]
          exact okSt_intro (H := HH f g n t) ((i + 1 : Nat), sp', R') rfl ⟨⟨hi, by show R'.length ≤ 2 * (i + 1); omega⟩, by show n - (i + 1) < n - i; omega⟩
    · replace hsp := not_go' hsp
      have hh := heldL_yes R hsp
      simp only [hh, List.drop_zero, List.take_length, Nat.zero_add, List.nil_append, sameB_self, hW4, same_self, ieq_self, Bool.not_true, cond_false]
      refine ⟨?_, ?_, ?_, okSt_intro (H := HN f g n t i) (sp, R, R, (0 : Nat), R) rfl ⟨by omega, by omega, by show ((R).length : Int) ≤ 2 * i + 2; omega, hh, Nat.zero_le _, ?_⟩, ?_⟩
      · and_intros <;> first | exact trivial | omega | (simp; omega)
      · and_intros <;> first | exact trivial | omega | (simp; omega)
      · and_intros <;> first | exact trivial | omega | (simp; omega)
      · show (R).length ≤ 1000000
        first | omega | (simp; omega)
      · rintro ⟨sp', R', ws, j, ys⟩ ⟨g1, g2, g3, g4, g5, g6⟩
        dsimp only at g3 g4 g5 g6 ⊢
        refine cond_go (fun e1 => ?_) (fun e1 => ?_)
        · rw [ilt_eq, decide_eq_true_eq] at e1
          have hj : W ((j : Int) + 1) = ((j + 1 : Nat) : Int) := by rw [W, W_in (by omega)]; rfl
          have hjj : (j : Int).toNat * 1 = j := by omega
          rw [hj, hjj]
          refine ⟨by omega, by omega, okSt_intro (H := HN f g n t i) (sp', R', ws, (j + 1 : Nat), ys.set j (-1)) (by simp only [HN, List.length_set]; rfl) ⟨⟨g1, g2, g3, g4, ?_, ?_⟩, ?_⟩⟩
          · show j + 1 ≤ (ys.set j (-1)).length
            simp only [List.length_set]; omega
          · show (ys.set j (-1)).length ≤ 1000000
            simp only [List.length_set]; omega
          · show (ys.set j (-1)).length - (j + 1) < ys.length - j
            simp only [List.length_set]; omega
        · have hl := heldL_len sp' R'
          refine ⟨⟨trivial, by omega⟩, ⟨⟨trivial, trivial⟩, by omega⟩, ?_⟩
          rw [g4, sameB_self, hWi]
          exact okSt_intro (H := HH f g n t) ((i + 1 : Nat), sp', R') rfl ⟨⟨hi, by show R'.length ≤ 2 * (i + 1); omega⟩, by show n - (i + 1) < n - i; omega⟩
end Go.Sh

/- The kinds of a shape. -/
namespace Go.Sh
open Go Go.Proofs
variable [Con]
/- OPQ -/
def kindsL (s : Int) : List Int := bif ieq s 1 || ieq s 2 then [1, 2, 3] else bif ieq s 3 || ieq s 4 then [4, 5] else []
def kindsS : Spec Unit := fun args h => match args, h with
  | [.int .i64 s], [] => some (.ret (.slice 0 0 (kindsL s).length 1) [some (.ints (some .i64) (kindsL s))])
  | _, _ => none
theorem kinds_ok : Spec.ok E7.I Try.prog 110 kindsS := by
  intro args h o ho K hK
  unfold kindsS at ho
  split at ho
  case h_2 => cases ho
  rename_i s
  simp only [Option.some.injEq] at ho; subst ho
  have hK : K (.slice 0 0 (kindsL s).length 1) [some (.ints (some .i64) (kindsL s))] := hK
  refine CallOk.trim (CallOk.castR (cs := [(.slot 0, .ints (some .i64))]) (callOk_of (E := E7) Try.checked.mixed (L := LL) (n := 10) (of_nf (q := bif ieq s 1 then K (AVal.slice 0 0 3 1) [some (Entry.ints (some .i64) [1, 2, 3])] else bif ieq s 2 then K (AVal.slice 0 0 3 1) [some (Entry.ints (some .i64) [1, 2, 3])] else bif ieq s 3 then K (AVal.slice 0 0 2 1) [some (Entry.ints (some .i64) [4, 5])] else bif ieq s 4 then K (AVal.slice 0 0 2 1) [some (Entry.ints (some .i64) [4, 5])] else K (AVal.slice 0 0 0 1) [some (Entry.ints (some .i64) [])]) (by kernel_rfl) ?_)))
  unfold kindsL at hK
  cases e1 : ieq s 1 <;> cases e2 : ieq s 2 <;> cases e3 : ieq s 3 <;> cases e4 : ieq s 4 <;> simp only [e1, e2, e3, e4, Bool.or_true, Bool.or_false, Bool.true_or, Bool.false_or, cond_true, cond_false] at hK ⊢ <;> exact hK
noncomputable def E8 := E7.addS 110 kindsS kinds_ok
end Go.Sh

/- A number in a list. -/
namespace Go.Sh
open Go Go.Proofs
variable [Con]
/- OPQ -/
def hasB (xs : List Int) (n : Int) : Bool := decide (n ∈ xs)
theorem hasB_true {xs : List Int} {n : Int} : hasB xs n = true ↔ n ∈ xs := by unfold hasB; exact decide_eq_true_iff
structure okC (xs : List Int) (n : Int) (i : Nat) : Prop where
  h1 : i ≤ xs.length
  h2 : n ∉ xs.take i
def HC (xs : List Int) (n : Int) : Hint Unit := { X := Nat, st := fun i => ([.slice 0 0 xs.length 1, .int .i64 n, .top, .top, .top, .top, .top, .int .i64 (xs.length : Int), .int .i64 (i : Int)] ++ List.replicate 10 .top, [some (.ints (some .i64) xs)]), ok := okC xs n, mu := fun i => xs.length - i, keep := [0, 1, 7, 8] }
def hasS0 : Spec Unit := fun args h => match args, h with
  | [.slice 0 0 k 1, .int .i64 n], [some (.ints (some .i64) xs)] => some (.pre (k = xs.length ∧ k ≤ 4294967296) (.ret (.bool (hasB xs n)) [some (.ints (some .i64) xs)]))
  | _, _ => none
theorem has0_ok : Spec.ok E8.I Try.prog 100 hasS0 := by
  intro args h o ho K hK
  unfold hasS0 at ho
  split at ho
  case h_2 => cases ho
  rename_i k n xs
  simp only [Option.some.injEq] at ho; subst ho
  obtain ⟨⟨rfl, hp⟩, hK⟩ := hK
  have hK : K (.bool (hasB xs n)) [some (.ints (some .i64) xs)] := hK
  refine (callOk_of (E := E8) Try.checked.mixed (L := fun _ _ => some (.states (HC xs n))) (n := 10) (of_nf (q := okSt (HC xs n) (Hint.ok (HC xs n)) [AVal.slice 0 0 (List.length xs) 1, AVal.int .i64 n, AVal.top, AVal.top, AVal.top, AVal.top, AVal.top, AVal.int .i64 (↑(List.length xs) : Int), AVal.int .i64 0, AVal.top, AVal.top, AVal.top, AVal.top, AVal.top, AVal.top, AVal.top, AVal.top, AVal.top, AVal.top] [some (Entry.ints (some .i64) xs)] ∧ ∀ (x : Nat), okC xs n x → bif ilt (↑x : Int) (↑(List.length xs) : Int) then ((0 : Int) ≤ (↑x : Int) ∧ (↑x : Int) < (↑(List.length xs) : Int)) ∧ 0 + Int.toNat (↑x : Int) * (1 : Nat) < List.length xs ∧ bif ieq n (List.getD xs (0 + Int.toNat (↑x : Int) * 1) 0) then K (AVal.bool (ile 0 (↑x : Int))) [some (Entry.ints (some .i64) xs)] else okSt (HC xs n) (fun x' => Hint.ok (HC xs n) x' ∧ Hint.mu (HC xs n) x' < Hint.mu (HC xs n) x) [AVal.slice 0 0 (List.length xs) 1, AVal.int .i64 n, AVal.top, AVal.top, AVal.top, AVal.top, AVal.top, AVal.int .i64 (↑(List.length xs) : Int), AVal.int .i64 (W ((↑x : Int) + 1)), AVal.top, AVal.top, AVal.top, AVal.top, AVal.top, AVal.top, AVal.top, AVal.top, AVal.top, AVal.top] [some (Entry.ints (some .i64) xs)] else K (AVal.bool false) [some (Entry.ints (some .i64) xs)]) (by kernel_rfl) ?_))
  have hS : hasB xs n = decide (n ∈ xs) := rfl
  refine ⟨okSt_intro (H := HC xs n) (0 : Nat) rfl ⟨Nat.zero_le _, by simp⟩, ?_⟩
  rintro i ⟨h1, h2⟩
  refine cond_go (fun e1 => ?_) (fun e1 => ?_)
  · rw [ilt_eq, decide_eq_true_eq] at e1
    have hi : i < xs.length := by omega
    have e2 : 0 + (i : Int).toNat * 1 = i := by omega
    rw [e2]
    have e4 : IntKind.wrap .i64 ((i : Int) + 1) = ((i + 1 : Nat) : Int) := by rw [W_in (by omega)]; rfl
    have hg : xs.getD i 0 = xs[i] := by rw [List.getD_eq_getElem?_getD, List.getElem?_eq_getElem hi]; rfl
    refine ⟨by omega, hi, cond_go (fun e3 => ?_) (fun e3 => ?_)⟩
    · rw [ieq_eq, hg] at e3
      have e3 : n = xs[i] := by simpa using e3
      have hm : n ∈ xs := by rw [e3]; exact List.getElem_mem hi
      have h0 : ile 0 (i : Int) = true := by rw [ile_eq, decide_eq_true_eq]; omega
      rw [hS, decide_eq_true hm] at hK
      first | (rw [h0]; exact hK) | exact hK
    · rw [ieq_eq, hg] at e3
      have e3 : ¬ n = xs[i] := by simpa using e3
      refine okSt_intro (H := HC xs n) (i + 1 : Nat) (by simp only [W, e4]; rfl) ⟨⟨hi, ?_⟩, by show xs.length - (i + 1) < xs.length - i; omega⟩
      rw [List.take_succ_eq_append_getElem hi]
      intro hm
      rcases List.mem_append.1 hm with h | h
      · exact h2 h
      · exact e3 (by simpa using h)
  · rw [ilt_eq, decide_eq_false_iff_not] at e1
    rw [List.take_of_length_le (by omega)] at h2
    rw [hS, decide_eq_false h2] at hK
    exact hK
def hasS : RSpec Unit := fun args h => match args, h with
  | [.slice 0 0 k 1, .int .i64 n], [some (.ints (some .i64) xs)] => some (k = xs.length ∧ k ≤ 4294967296, .bool (hasB xs n))
  | _, _ => none
theorem has_ok : Spec.ok E8.I Try.prog 100 hasS.spec := by
  intro args h o ho
  unfold RSpec.spec at ho
  split at ho
  case h_2 => cases ho
  rename_i p v hv
  unfold hasS at hv
  split at hv
  case h_2 => cases hv
  simp only [Option.some.injEq, Prod.mk.injEq] at hv
  obtain ⟨rfl, rfl⟩ := hv
  exact has0_ok _ _ o ho
noncomputable def E9 := E8.addR 100 hasS has_ok
end Go.Sh

/- Whether an operation is one of a shape. -/
namespace Go.Sh
open Go Go.Proofs
variable [Con]
theorem kindsL_len (s : Int) : (kindsL s).length ≤ 3 := by
  unfold kindsL
  cases (ieq s 1 || ieq s 2) <;> cases (ieq s 3 || ieq s 4) <;> simp
/- OPQ -/
def rightT (s k y : Int) : Bool := hasB (kindsL s) k && (ile 0 y && ile y (bif ieq k 5 then 0 else 999))
def rightS : RSpec Unit := fun args h => match args, h with
  | [.int .i64 s, .agg [.int .i64 k, .int .i64 y]], [] => some (True, .bool (rightT s k y))
  | _, _ => none
theorem right_ok : Spec.ok E9.I Try.prog 105 rightS.spec := by
  intro args h o ho K hK
  unfold RSpec.spec at ho
  split at ho
  case h_2 => cases ho
  rename_i p v hv
  unfold rightS at hv
  split at hv
  case h_2 => cases hv
  rename_i s k y
  simp only [Option.some.injEq, Prod.mk.injEq] at hv
  obtain ⟨rfl, rfl⟩ := hv
  simp only [Option.some.injEq] at ho; subst ho
  obtain ⟨_, hK⟩ := hK
  have hK : K (.bool (rightT s k y)) [] := hK
  refine CallOk.trim (callOk_of (E := E9) Try.checked.mixed (L := LL) (n := 10) (of_nf (q := bif ieq k 5 then (List.length (kindsL s) = List.length (kindsL s) ∧ List.length (kindsL s) ≤ (4294967296 : Nat)) ∧ bif hasB (kindsL s) k then bif ile 0 y then K (AVal.bool (ile y 0)) [] else K (AVal.bool false) [] else K (AVal.bool false) [] else (List.length (kindsL s) = List.length (kindsL s) ∧ List.length (kindsL s) ≤ (4294967296 : Nat)) ∧ bif hasB (kindsL s) k then bif ile 0 y then K (AVal.bool (ile y 999)) [] else K (AVal.bool false) [] else K (AVal.bool false) []) (by kernel_rfl) ?_))
  have hl := kindsL_len s
  unfold rightT at hK
  refine cond_go (fun e1 => ⟨⟨rfl, by omega⟩, cond_go (fun e2 => cond_go (fun e3 => ?_) (fun e3 => ?_)) (fun e2 => ?_)⟩) (fun e1 => ⟨⟨rfl, by omega⟩, cond_go (fun e2 => cond_go (fun e3 => ?_) (fun e3 => ?_)) (fun e2 => ?_)⟩) <;>
    (simp only [e1, e2, cond_true, cond_false, Bool.true_and, Bool.false_and] at hK <;> first | (simp only [e3, Bool.true_and, Bool.false_and] at hK; exact hK) | exact hK)
noncomputable def E10 := E9.addR 105 rightS right_ok
end Go.Sh

