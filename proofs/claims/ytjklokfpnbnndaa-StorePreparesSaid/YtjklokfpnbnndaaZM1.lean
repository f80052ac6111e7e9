/- The shared memory: what its functions come to. -/
import Derived.Test.YtjklokfpnbnndaaZM0
set_option linter.all false
set_option linter.unusedVariables false
set_option linter.unusedSectionVars false
namespace Go.Sh
open Go Go.Proofs
variable [Con]
theorem W_add {x : Int} (h : -9223372036854775808 ≤ x ∧ x ≤ 9223372036854775807) : IntKind.wrap IntKind.i64 x = x := W_in h
theorem cond_go {b : Bool} {X Y : Prop} (h1 : b = true → X) (h2 : b = false → Y) : cond b X Y := cond_intro h1 h2

def laySizeS : Spec Unit := fun args h => match args, h with
  | [.agg [.int .i64 t, .int .i64 n]], [] => some (.pre ((0 ≤ t ∧ t ≤ 100000) ∧ (0 ≤ n ∧ n ≤ 100000)) (.ret (.int .i64 (2 * n + 5 * t + 6)) []))
  | _, _ => none
theorem laySize_ok : Spec.ok E0.I Try.prog 81 laySizeS := by
  intro args h o ho K hK
  unfold laySizeS at ho
  split at ho
  case h_2 => cases ho
  rename_i t n
  simp only [Option.some.injEq] at ho; subst ho
  obtain ⟨hp, hK⟩ := hK
  have hK : K (.int .i64 (2 * n + 5 * t + 6)) [] := hK
  refine CallOk.trim (callOk_of (E := E0) Try.checked.mixed (L := fun _ _ => none) (n := 10) (of_nf (q := K (AVal.int .i64 (W (W (W (W (W (W (W (W (W (1 + n) + 4) + W (n + 1)) - 1) + W (2 * t)) + 0) + W (3 * t)) + 0) + 1))) []) (by kernel_rfl) ?_))
  simp (disch := omega) only [W, W_in]
  refine cast (congrArg (fun z => K (AVal.int .i64 z) []) ?_) hK
  omega

def layLifeS : Spec Unit := fun args h => match args, h with
  | [.agg [.int .i64 t, .int .i64 n], .int .i64 a], [] => some (.pre ((0 ≤ t ∧ t ≤ 100000) ∧ (0 ≤ n ∧ n ≤ 100000) ∧ (-1099511627776 ≤ a ∧ a ≤ 1099511627776)) (.ret (.int .i64 (n + 4 + a)) []))
  | _, _ => none
theorem layLife_ok : Spec.ok E0.I Try.prog 19 layLifeS := by
  intro args h o ho K hK
  unfold layLifeS at ho
  split at ho
  case h_2 => cases ho
  rename_i t n a
  simp only [Option.some.injEq] at ho; subst ho
  obtain ⟨hp, hK⟩ := hK
  have hK : K (.int .i64 (n + 4 + a)) [] := hK
  refine CallOk.trim (callOk_of (E := E0) Try.checked.mixed (L := fun _ _ => none) (n := 10) (of_nf (q := K (AVal.int .i64 (W (W (W (W (1 + n) + 4) + a) - 1))) []) (by kernel_rfl) ?_))
  simp (disch := omega) only [W, W_in]
  refine cast (congrArg (fun z => K (AVal.int .i64 z) []) ?_) hK
  omega

def laySlotS : Spec Unit := fun args h => match args, h with
  | [.agg [.int .i64 t, .int .i64 n], .int .i64 a, .int .i64 b], [] => some (.pre ((0 ≤ t ∧ t ≤ 100000) ∧ (0 ≤ n ∧ n ≤ 100000) ∧ (-1099511627776 ≤ a ∧ a ≤ 1099511627776) ∧ (-1099511627776 ≤ b ∧ b ≤ 1099511627776)) (.ret (.int .i64 (2 * n + 5 + 2 * a + b)) []))
  | _, _ => none
theorem laySlot_ok : Spec.ok E0.I Try.prog 70 laySlotS := by
  intro args h o ho K hK
  unfold laySlotS at ho
  split at ho
  case h_2 => cases ho
  rename_i t n a b
  simp only [Option.some.injEq] at ho; subst ho
  obtain ⟨hp, hK⟩ := hK
  have hK : K (.int .i64 (2 * n + 5 + 2 * a + b)) [] := hK
  refine CallOk.trim (callOk_of (E := E0) Try.checked.mixed (L := fun _ _ => none) (n := 10) (of_nf (q := K (AVal.int .i64 (W (W (W (W (W (W (1 + n) + 4) + W (n + 1)) - 1) + W (2 * a)) + b))) []) (by kernel_rfl) ?_))
  simp (disch := omega) only [W, W_in]
  refine cast (congrArg (fun z => K (AVal.int .i64 z) []) ?_) hK
  omega

def layDescS : Spec Unit := fun args h => match args, h with
  | [.agg [.int .i64 t, .int .i64 n], .int .i64 a], [] => some (.pre ((0 ≤ t ∧ t ≤ 100000) ∧ (0 ≤ n ∧ n ≤ 100000) ∧ (-1099511627776 ≤ a ∧ a ≤ 1099511627776)) (.ret (.int .i64 (2 * n + 5 + 2 * t + 3 * a + 2)) []))
  | _, _ => none
theorem layDesc_ok : Spec.ok E0.I Try.prog 49 layDescS := by
  intro args h o ho K hK
  unfold layDescS at ho
  split at ho
  case h_2 => cases ho
  rename_i t n a
  simp only [Option.some.injEq] at ho; subst ho
  obtain ⟨hp, hK⟩ := hK
  have hK : K (.int .i64 (2 * n + 5 + 2 * t + 3 * a + 2)) [] := hK
  refine CallOk.trim (callOk_of (E := E0) Try.checked.mixed (L := fun _ _ => none) (n := 10) (of_nf (q := K (AVal.int .i64 (W (W (W (W (W (W (W (W (1 + n) + 4) + W (n + 1)) - 1) + W (2 * t)) + 0) + W (3 * a)) + 2))) []) (by kernel_rfl) ?_))
  simp (disch := omega) only [W, W_in]
  refine cast (congrArg (fun z => K (AVal.int .i64 z) []) ?_) hK
  omega

def layTaskS : Spec Unit := fun args h => match args, h with
  | [.agg [.int .i64 t, .int .i64 n], .int .i64 a], [] => some (.pre ((0 ≤ t ∧ t ≤ 100000) ∧ (0 ≤ n ∧ n ≤ 100000) ∧ (-1099511627776 ≤ a ∧ a ≤ 1099511627776)) (.ret (.int .i64 (2 * n + 5 + 2 * t + 3 * a + 1)) []))
  | _, _ => none
theorem layTask_ok : Spec.ok E0.I Try.prog 84 layTaskS := by
  intro args h o ho K hK
  unfold layTaskS at ho
  split at ho
  case h_2 => cases ho
  rename_i t n a
  simp only [Option.some.injEq] at ho; subst ho
  obtain ⟨hp, hK⟩ := hK
  have hK : K (.int .i64 (2 * n + 5 + 2 * t + 3 * a + 1)) [] := hK
  refine CallOk.trim (callOk_of (E := E0) Try.checked.mixed (L := fun _ _ => none) (n := 10) (of_nf (q := K (AVal.int .i64 (W (W (W (W (W (W (W (W (1 + n) + 4) + W (n + 1)) - 1) + W (2 * t)) + 0) + W (3 * a)) + 1))) []) (by kernel_rfl) ?_))
  simp (disch := omega) only [W, W_in]
  refine cast (congrArg (fun z => K (AVal.int .i64 z) []) ?_) hK
  omega

def layTicketS : Spec Unit := fun args h => match args, h with
  | [.agg [.int .i64 t, .int .i64 n], .int .i64 a], [] => some (.pre ((0 ≤ t ∧ t ≤ 100000) ∧ (0 ≤ n ∧ n ≤ 100000) ∧ (-1099511627776 ≤ a ∧ a ≤ 1099511627776)) (.ret (.int .i64 (2 * n + 5 + 2 * t + 3 * a)) []))
  | _, _ => none
theorem layTicket_ok : Spec.ok E0.I Try.prog 47 layTicketS := by
  intro args h o ho K hK
  unfold layTicketS at ho
  split at ho
  case h_2 => cases ho
  rename_i t n a
  simp only [Option.some.injEq] at ho; subst ho
  obtain ⟨hp, hK⟩ := hK
  have hK : K (.int .i64 (2 * n + 5 + 2 * t + 3 * a)) [] := hK
  refine CallOk.trim (callOk_of (E := E0) Try.checked.mixed (L := fun _ _ => none) (n := 10) (of_nf (q := K (AVal.int .i64 (W (W (W (W (W (W (W (W (1 + n) + 4) + W (n + 1)) - 1) + W (2 * t)) + 0) + W (3 * a)) + 0))) []) (by kernel_rfl) ?_))
  simp (disch := omega) only [W, W_in]
  refine cast (congrArg (fun z => K (AVal.int .i64 z) []) ?_) hK
  omega

def layCounterS : Spec Unit := fun args h => match args, h with
  | [.agg [.int .i64 t, .int .i64 n]], [] => some (.pre ((0 ≤ t ∧ t ≤ 100000) ∧ (0 ≤ n ∧ n ≤ 100000)) (.ret (.int .i64 (2 * n + 5 + 2 * t + 3 * t)) []))
  | _, _ => none
theorem layCounter_ok : Spec.ok E0.I Try.prog 51 layCounterS := by
  intro args h o ho K hK
  unfold layCounterS at ho
  split at ho
  case h_2 => cases ho
  rename_i t n
  simp only [Option.some.injEq] at ho; subst ho
  obtain ⟨hp, hK⟩ := hK
  have hK : K (.int .i64 (2 * n + 5 + 2 * t + 3 * t)) [] := hK
  refine CallOk.trim (callOk_of (E := E0) Try.checked.mixed (L := fun _ _ => none) (n := 10) (of_nf (q := K (AVal.int .i64 (W (W (W (W (W (W (W (W (1 + n) + 4) + W (n + 1)) - 1) + W (2 * t)) + 0) + W (3 * t)) + 0))) []) (by kernel_rfl) ?_))
  simp (disch := omega) only [W, W_in]
  refine cast (congrArg (fun z => K (AVal.int .i64 z) []) ?_) hK
  omega

def slotsS : Spec Unit := fun args h => match args, h with
  | [.agg [.int .i64 t, .int .i64 n]], [] => some (.pre ((0 ≤ t ∧ t ≤ 100000) ∧ (0 ≤ n ∧ n ≤ 100000)) (.ret (.int .i64 (2 * t)) []))
  | _, _ => none
theorem slots_ok : Spec.ok E0.I Try.prog 69 slotsS := by
  intro args h o ho K hK
  unfold slotsS at ho
  split at ho
  case h_2 => cases ho
  rename_i t n
  simp only [Option.some.injEq] at ho; subst ho
  obtain ⟨hp, hK⟩ := hK
  have hK : K (.int .i64 (2 * t)) [] := hK
  refine CallOk.trim (callOk_of (E := E0) Try.checked.mixed (L := fun _ _ => none) (n := 10) (of_nf (q := K (AVal.int .i64 (W (2 * t))) []) (by kernel_rfl) ?_))
  simp (disch := omega) only [W, W_in]
  refine cast (congrArg (fun z => K (AVal.int .i64 z) []) ?_) hK
  omega

/- OPQ -/
def rightB (t n : Int) : Bool := ile 1 t && ile t 8 && ile 1 n && ile n 200
theorem rightB_true {t n : Int} : rightB t n = true ↔ 1 ≤ t ∧ t ≤ 8 ∧ 1 ≤ n ∧ n ≤ 200 := by
  unfold rightB; simp only [ile_eq, Bool.and_eq_true, decide_eq_true_eq]; omega
/- OPQ -/
def nodeB (n a : Int) : Bool := ile 1 a && ile a n
theorem nodeB_true {n a : Int} : nodeB n a = true ↔ 1 ≤ a ∧ a ≤ n := by
  unfold nodeB; simp only [ile_eq, Bool.and_eq_true, decide_eq_true_eq]

def layRightS : Spec Unit := fun args h => match args, h with
  | [.agg [.int .i64 t, .int .i64 n]], [] => some (.pre (True) (.ret (.bool (rightB t n)) []))
  | _, _ => none
theorem layRight_ok : Spec.ok E0.I Try.prog 80 layRightS := by
  intro args h o ho K hK
  unfold layRightS at ho
  split at ho
  case h_2 => cases ho
  rename_i t n
  simp only [Option.some.injEq] at ho; subst ho
  obtain ⟨hp, hK⟩ := hK
  have hK : K (.bool (rightB t n)) [] := hK
  refine CallOk.trim (callOk_of (E := E0) Try.checked.mixed (L := fun _ _ => none) (n := 10) (of_nf (q := bif ile 1 t then bif ile t 8 then bif ile 1 n then K (AVal.bool (ile n 200)) [] else K (AVal.bool false) [] else K (AVal.bool false) [] else K (AVal.bool false) []) (by kernel_rfl) ?_))
  unfold rightB at hK
  refine cond_go (fun e1 => cond_go (fun e2 => cond_go (fun e3 => ?_) (fun e3 => ?_)) (fun e2 => ?_)) (fun e1 => ?_)
  all_goals (simp only [*, Bool.true_and, Bool.false_and, Bool.and_false] at hK; exact hK)

def layNodeS : Spec Unit := fun args h => match args, h with
  | [.agg [.int .i64 t, .int .i64 n], .int .i64 a], [] => some (.pre (True) (.ret (.bool (nodeB n a)) []))
  | _, _ => none
theorem layNode_ok : Spec.ok E0.I Try.prog 71 layNodeS := by
  intro args h o ho K hK
  unfold layNodeS at ho
  split at ho
  case h_2 => cases ho
  rename_i t n a
  simp only [Option.some.injEq] at ho; subst ho
  obtain ⟨hp, hK⟩ := hK
  have hK : K (.bool (nodeB n a)) [] := hK
  refine CallOk.trim (callOk_of (E := E0) Try.checked.mixed (L := fun _ _ => none) (n := 10) (of_nf (q := bif ile 1 a then K (AVal.bool (ile a n)) [] else K (AVal.bool false) []) (by kernel_rfl) ?_))
  unfold nodeB at hK
  refine cond_go (fun e1 => ?_) (fun e1 => ?_)
  all_goals (simp only [*, Bool.true_and, Bool.false_and, Bool.and_false] at hK; exact hK)

noncomputable def E1 := (((((((((E0.addS 81 laySizeS laySize_ok).addS 19 layLifeS layLife_ok).addS 70 laySlotS laySlot_ok).addS 49 layDescS layDesc_ok).addS 84 layTaskS layTask_ok).addS 47 layTicketS layTicket_ok).addS 51 layCounterS layCounter_ok).addS 69 slotsS slots_ok).addS 80 layRightS layRight_ok).addS 71 layNodeS layNode_ok

/-- a word -/
def peek (xs : List Int) (a : Int) : Int := if 0 ≤ a ∧ a < xs.length then xs.getD a.toNat 0 else 0
theorem peek_in {xs : List Int} {a : Int} (h : 0 ≤ a ∧ a < xs.length) : peek xs a = xs.getD a.toNat 0 := if_pos h
theorem peek_out {xs : List Int} {a : Int} (h : ¬ (0 ≤ a ∧ a < xs.length)) : peek xs a = 0 := if_neg h
/- OPQ -/
def inB (xs : List Int) (a : Int) : Bool := ile 0 a && ilt a (xs.length : Int)
theorem inB_true {xs : List Int} {a : Int} : inB xs a = true ↔ 0 ≤ a ∧ a < xs.length := by
  unfold inB; simp only [ile_eq, ilt_eq, Bool.and_eq_true, decide_eq_true_eq]
def setI (xs : List Int) (a x : Int) : List Int := xs.set a.toNat x
theorem setI_length (xs : List Int) (a x : Int) : (setI xs a x).length = xs.length := by simp [setI]
/-- an action that was done -/
def MS.did (s : MS) (k a w : Int) (ok : Bool) (xs : List Int) : MS := { s with xs := xs, c := s.c + 1, k := k, a := a, o := peek s.xs a, w := w, ok := ok }
def MS.load (s : MS) (a : Int) : MS := s.did 1 a (peek s.xs a) (inB s.xs a) s.xs
def MS.store (s : MS) (a x : Int) : MS := bif inB s.xs a then s.did 2 a x true (setI s.xs a x) else s.did 2 a 0 false s.xs

def memPat (h : Heap Unit) : Option (Nat × MS) := match h with
  | [some (.cells [.int .i64 t, .int .i64 n, .slice 1 0 len 1, .int .i64 c, .int .i64 k, .int .i64 a, .int .u64 o, .int .u64 w, .bool ok]), some (.ints (some .u64) xs)] => some (len, ⟨t, n, xs, c, k, a, o, w, ok⟩)
  | _ => none

theorem memPat_eq {h : Heap Unit} {l : Nat} {s : MS} (e : memPat h = some (l, s)) (hl : l = s.xs.length) : h = memH s := by
  unfold memPat at e
  split at e
  · simp only [Option.some.injEq, Prod.mk.injEq] at e
    obtain ⟨rfl, rfl⟩ := e
    simp only at hl; subst hl; rfl
  · cases e
theorem nat_id (x : Nat) : 0 + x * 1 = x := by omega

def peekS : Spec Unit := fun args h => match args, memPat h with
  | [.ptr 0 0, .int .i64 a], some (l, s) => some (.pre (l = s.xs.length ∧ True) (.ret (.int .u64 (peek s.xs a)) (memH (s))))
  | _, _ => none
theorem peek_ok : Spec.ok E1.I Try.prog 27 peekS := by
  intro args h o ho K hK
  unfold peekS at ho
  split at ho
  case h_2 => cases ho
  rename_i a l s hm
  simp only [Option.some.injEq] at ho; subst ho
  obtain ⟨⟨hl, hp⟩, hK⟩ := hK
  have hh := memPat_eq hm hl
  subst hh
  have hK : K (.int .u64 (peek s.xs a)) (memH (s)) := hK
  refine CallOk.trim (callOk_of (E := E1) Try.checked.mixed (L := fun _ _ => none) (n := 10) (of_nf (q := bif ilt a 0 then K (AVal.int .u64 0) [some (Entry.cells [AVal.int .i64 s.1, AVal.int .i64 s.2, AVal.slice 1 0 (List.length s.3) 1, AVal.int .i64 s.4, AVal.int .i64 s.5, AVal.int .i64 s.6, AVal.int .u64 s.7, AVal.int .u64 s.8, AVal.bool s.9]), some (Entry.ints (some .u64) s.3)] else bif ile (↑(List.length s.3) : Int) a then K (AVal.int .u64 0) [some (Entry.cells [AVal.int .i64 s.1, AVal.int .i64 s.2, AVal.slice 1 0 (List.length s.3) 1, AVal.int .i64 s.4, AVal.int .i64 s.5, AVal.int .i64 s.6, AVal.int .u64 s.7, AVal.int .u64 s.8, AVal.bool s.9]), some (Entry.ints (some .u64) s.3)] else ((0 : Int) ≤ a ∧ a < (↑(List.length s.3) : Int)) ∧ 0 + Int.toNat a * (1 : Nat) < List.length s.3 ∧ K (AVal.int .u64 (List.getD s.3 (0 + Int.toNat a * 1) 0)) [some (Entry.cells [AVal.int .i64 s.1, AVal.int .i64 s.2, AVal.slice 1 0 (List.length s.3) 1, AVal.int .i64 s.4, AVal.int .i64 s.5, AVal.int .i64 s.6, AVal.int .u64 s.7, AVal.int .u64 s.8, AVal.bool s.9]), some (Entry.ints (some .u64) s.3)]) (by kernel_rfl) ?_))
  refine cond_go (fun e1 => ?_) (fun e1 => cond_go (fun e2 => ?_) (fun e2 => ?_))
  · rw [ilt_eq, decide_eq_true_eq] at e1
    rw [peek_out (by omega)] at hK; exact hK
  · rw [ile_eq, decide_eq_true_eq] at e2
    rw [peek_out (by omega)] at hK; exact hK
  · rw [ilt_eq, decide_eq_false_iff_not] at e1
    rw [ile_eq, decide_eq_false_iff_not] at e2
    refine ⟨by omega, by omega, ?_⟩
    rw [peek_in (by omega)] at hK
    rw [nat_id]; exact hK

def actionsS : Spec Unit := fun args h => match args, memPat h with
  | [.ptr 0 0], some (l, s) => some (.pre (l = s.xs.length ∧ True) (.ret (.int .i64 s.c) (memH (s))))
  | _, _ => none
theorem actions_ok : Spec.ok E1.I Try.prog 60 actionsS := by
  intro args h o ho K hK
  unfold actionsS at ho
  split at ho
  case h_2 => cases ho
  rename_i  l s hm
  simp only [Option.some.injEq] at ho; subst ho
  obtain ⟨⟨hl, hp⟩, hK⟩ := hK
  have hh := memPat_eq hm hl
  subst hh
  have hK : K (.int .i64 s.c) (memH (s)) := hK
  refine CallOk.trim (callOk_of (E := E1) Try.checked.mixed (L := fun _ _ => none) (n := 10) (of_nf (q := K (AVal.int .i64 s.4) [some (Entry.cells [AVal.int .i64 s.1, AVal.int .i64 s.2, AVal.slice 1 0 (List.length s.3) 1, AVal.int .i64 s.4, AVal.int .i64 s.5, AVal.int .i64 s.6, AVal.int .u64 s.7, AVal.int .u64 s.8, AVal.bool s.9]), some (Entry.ints (some .u64) s.3)]) (by kernel_rfl) ?_))
  exact hK

def lastS : Spec Unit := fun args h => match args, memPat h with
  | [.ptr 0 0], some (l, s) => some (.pre (l = s.xs.length ∧ True) (.ret (.agg [.int .i64 s.k, .int .i64 s.a, .int .u64 s.o, .int .u64 s.w, .bool s.ok]) (memH (s))))
  | _, _ => none
theorem last_ok : Spec.ok E1.I Try.prog 98 lastS := by
  intro args h o ho K hK
  unfold lastS at ho
  split at ho
  case h_2 => cases ho
  rename_i  l s hm
  simp only [Option.some.injEq] at ho; subst ho
  obtain ⟨⟨hl, hp⟩, hK⟩ := hK
  have hh := memPat_eq hm hl
  subst hh
  have hK : K (.agg [.int .i64 s.k, .int .i64 s.a, .int .u64 s.o, .int .u64 s.w, .bool s.ok]) (memH (s)) := hK
  refine CallOk.trim (callOk_of (E := E1) Try.checked.mixed (L := fun _ _ => none) (n := 10) (of_nf (q := K (AVal.agg [AVal.int .i64 s.5, AVal.int .i64 s.6, AVal.int .u64 s.7, AVal.int .u64 s.8, AVal.bool s.9]) [some (Entry.cells [AVal.int .i64 s.1, AVal.int .i64 s.2, AVal.slice 1 0 (List.length s.3) 1, AVal.int .i64 s.4, AVal.int .i64 s.5, AVal.int .i64 s.6, AVal.int .u64 s.7, AVal.int .u64 s.8, AVal.bool s.9]), some (Entry.ints (some .u64) s.3)]) (by kernel_rfl) ?_))
  exact hK

def lastLS : Spec Unit := fun args h => match args, memPat h with
  | [.ptr 0 0], some (l, s) => some (.pre (l = s.xs.length ∧ True) (.ret (.agg [.int .i64 s.k, .int .i64 s.a, .int .u64 s.o, .int .u64 s.w, .bool s.ok]) (memH (s))))
  | _, _ => none
theorem lastL_ok : Spec.ok E1.I Try.prog 61 lastLS := by
  intro args h o ho K hK
  unfold lastLS at ho
  split at ho
  case h_2 => cases ho
  rename_i  l s hm
  simp only [Option.some.injEq] at ho; subst ho
  obtain ⟨⟨hl, hp⟩, hK⟩ := hK
  have hh := memPat_eq hm hl
  subst hh
  have hK : K (.agg [.int .i64 s.k, .int .i64 s.a, .int .u64 s.o, .int .u64 s.w, .bool s.ok]) (memH (s)) := hK
  refine CallOk.trim (callOk_of (E := E1) Try.checked.mixed (L := fun _ _ => none) (n := 10) (of_nf (q := K (AVal.agg [AVal.int .i64 s.5, AVal.int .i64 s.6, AVal.int .u64 s.7, AVal.int .u64 s.8, AVal.bool s.9]) [some (Entry.cells [AVal.int .i64 s.1, AVal.int .i64 s.2, AVal.slice 1 0 (List.length s.3) 1, AVal.int .i64 s.4, AVal.int .i64 s.5, AVal.int .i64 s.6, AVal.int .u64 s.7, AVal.int .u64 s.8, AVal.bool s.9]), some (Entry.ints (some .u64) s.3)]) (by kernel_rfl) ?_))
  exact hK

noncomputable def E2 := (((E1.addS 27 peekS peek_ok).addS 60 actionsS actions_ok).addS 98 lastS last_ok).addS 61 lastLS lastL_ok

end Go.Sh
