/- The shared memory: the four actions. -/
import Derived.Test.YtjklokfpnbnndaaZM1
set_option linter.all false
set_option linter.unusedVariables false
set_option linter.unusedSectionVars false
namespace Go.Sh
open Go Go.Proofs
variable [Con]
def putI (xs : List Int) (a x : Int) : List Int := if 0 ≤ a ∧ a < xs.length then xs.set a.toNat x else xs
theorem putI_length (xs : List Int) (a x : Int) : (putI xs a x).length = xs.length := by unfold putI; split <;> simp
theorem putI_in {xs : List Int} {a x : Int} (h : 0 ≤ a ∧ a < xs.length) : putI xs a x = xs.set a.toNat x := if_pos h
theorem putI_out {xs : List Int} {a x : Int} (h : ¬ (0 ≤ a ∧ a < xs.length)) : putI xs a x = xs := if_neg h
theorem inB_false {xs : List Int} {a : Int} (h : ¬ (0 ≤ a ∧ a < xs.length)) : inB xs a = false := by
  cases e : inB xs a with
  | false => rfl
  | true => exact (h (inB_true.1 e)).elim
theorem set_peek {xs : List Int} {a : Int} (h : 0 ≤ a ∧ a < xs.length) : xs.set a.toNat (peek xs a) = xs := by
  rw [peek_in h]
  apply List.ext_getElem?
  intro i
  rw [List.getElem?_set]
  by_cases hi : a.toNat = i
  · subst hi
    have : a.toNat < xs.length := by omega
    simp [this]
  · simp [hi]
def MS.loadd (s : MS) (a : Int) : MS := s.did 1 a (peek s.xs a) (inB s.xs a) s.xs
def MS.stored (s : MS) (a x : Int) : MS := s.did 2 a (bif inB s.xs a then x else 0) (inB s.xs a) (putI s.xs a x)
/- OPQ -/
def casB (xs : List Int) (a x : Int) : Bool := inB xs a && ieq (peek xs a) x
def MS.cased (s : MS) (a x y : Int) : MS := s.did 3 a (bif inB s.xs a then y else 0) (casB s.xs a x) (bif casB s.xs a x then putI s.xs a y else s.xs)
def MS.added (s : MS) (a x : Int) : MS := s.did 4 a (bif inB s.xs a then IntKind.wrap .u64 (peek s.xs a + x) else 0) (inB s.xs a) (putI s.xs a (IntKind.wrap .u64 (peek s.xs a + x)))
theorem memH_did (s : MS) (k a w : Int) (ok : Bool) (xs : List Int) (h : xs.length = s.xs.length) : memH (s.did k a w ok xs) = [some (.cells [.int .i64 s.t, .int .i64 s.n, .slice 1 0 s.xs.length 1, .int .i64 (s.c + 1), .int .i64 k, .int .i64 a, .int .u64 (peek s.xs a), .int .u64 w, .bool ok]), some (.ints (some .u64) xs)] := by
  unfold memH MS.did
  simp only [h]

def loadS : Spec Unit := fun args h => match args, memPat h with
  | [.ptr 0 0, .int .i64 a], some (l, s) => some (.pre (l = s.xs.length ∧ (0 ≤ s.c ∧ s.c ≤ 4611686018427387904)) (.ret (.int .u64 (peek s.xs a)) (memH (s.loadd a))))
  | _, _ => none
theorem load_ok : Spec.ok E2.I Try.prog 83 loadS := by
  intro args h o ho K hK
  unfold loadS at ho
  split at ho
  case h_2 => cases ho
  rename_i a l s hm
  simp only [Option.some.injEq] at ho; subst ho
  obtain ⟨⟨hl, hp⟩, hK⟩ := hK
  have hh := memPat_eq hm hl
  subst hh
  have hK : K (.int .u64 (peek s.xs a)) (memH (s.loadd a)) := hK
  refine CallOk.trim (callOk_of (E := E2) Try.checked.mixed (L := fun _ _ => none) (n := 10) (of_nf (q := (List.length s.3 = List.length s.3 ∧ True) ∧ bif ilt a 0 then K (AVal.int .u64 (peek s.3 a)) [some (Entry.cells [AVal.int .i64 s.1, AVal.int .i64 s.2, AVal.slice 1 0 (List.length s.3) 1, AVal.int .i64 (W (s.4 + 1)), AVal.int .i64 1, AVal.int .i64 a, AVal.int .u64 (peek s.3 a), AVal.int .u64 (peek s.3 a), AVal.bool false]), some (Entry.ints (some .u64) s.3)] else bif ile (↑(List.length s.3) : Int) a then K (AVal.int .u64 (peek s.3 a)) [some (Entry.cells [AVal.int .i64 s.1, AVal.int .i64 s.2, AVal.slice 1 0 (List.length s.3) 1, AVal.int .i64 (W (s.4 + 1)), AVal.int .i64 1, AVal.int .i64 a, AVal.int .u64 (peek s.3 a), AVal.int .u64 (peek s.3 a), AVal.bool false]), some (Entry.ints (some .u64) s.3)] else ((0 : Int) ≤ a ∧ a < (↑(List.length s.3) : Int)) ∧ 0 + Int.toNat a * (1 : Nat) < List.length s.3 ∧ K (AVal.int .u64 (peek s.3 a)) [some (Entry.cells [AVal.int .i64 s.1, AVal.int .i64 s.2, AVal.slice 1 0 (List.length s.3) 1, AVal.int .i64 (W (s.4 + 1)), AVal.int .i64 1, AVal.int .i64 a, AVal.int .u64 (peek s.3 a), AVal.int .u64 (peek s.3 a), AVal.bool true]), some (Entry.ints (some .u64) (List.set s.3 (0 + Int.toNat a * 1) (peek s.3 a)))]) (by kernel_rfl) ?_))
  refine ⟨⟨rfl, trivial⟩, ?_⟩
  have hc : IntKind.wrap .i64 (s.c + 1) = s.c + 1 := W_in (by omega)
  simp only [W, WU, hc, nat_id]
  unfold MS.loadd at hK
  rw [memH_did _ _ _ _ _ _ rfl] at hK
  refine cond_go (fun e1 => ?_) (fun e1 => cond_go (fun e2 => ?_) (fun e2 => ?_))
  · rw [ilt_eq, decide_eq_true_eq] at e1
    rw [inB_false (by omega)] at hK; exact hK
  · rw [ile_eq, decide_eq_true_eq] at e2
    rw [inB_false (by omega)] at hK; exact hK
  · rw [ilt_eq, decide_eq_false_iff_not] at e1
    rw [ile_eq, decide_eq_false_iff_not] at e2
    refine ⟨by omega, by omega, ?_⟩
    rw [inB_true.2 (by omega)] at hK
    rw [set_peek (by omega)]; exact hK

def storeS : Spec Unit := fun args h => match args, memPat h with
  | [.ptr 0 0, .int .i64 a, .int .u64 x], some (l, s) => some (.pre (l = s.xs.length ∧ (0 ≤ s.c ∧ s.c ≤ 4611686018427387904)) (.ret (.tup []) (memH (s.stored a x))))
  | _, _ => none
theorem store_ok : Spec.ok E2.I Try.prog 18 storeS := by
  intro args h o ho K hK
  unfold storeS at ho
  split at ho
  case h_2 => cases ho
  rename_i a x l s hm
  simp only [Option.some.injEq] at ho; subst ho
  obtain ⟨⟨hl, hp⟩, hK⟩ := hK
  have hh := memPat_eq hm hl
  subst hh
  have hK : K (.tup []) (memH (s.stored a x)) := hK
  refine CallOk.trim (callOk_of (E := E2) Try.checked.mixed (L := fun _ _ => none) (n := 10) (of_nf (q := (List.length s.3 = List.length s.3 ∧ True) ∧ bif ilt a 0 then K (AVal.tup []) [some (Entry.cells [AVal.int .i64 s.1, AVal.int .i64 s.2, AVal.slice 1 0 (List.length s.3) 1, AVal.int .i64 (W (s.4 + 1)), AVal.int .i64 2, AVal.int .i64 a, AVal.int .u64 (peek s.3 a), AVal.int .u64 (peek s.3 a), AVal.bool false]), some (Entry.ints (some .u64) s.3)] else bif ile (↑(List.length s.3) : Int) a then K (AVal.tup []) [some (Entry.cells [AVal.int .i64 s.1, AVal.int .i64 s.2, AVal.slice 1 0 (List.length s.3) 1, AVal.int .i64 (W (s.4 + 1)), AVal.int .i64 2, AVal.int .i64 a, AVal.int .u64 (peek s.3 a), AVal.int .u64 (peek s.3 a), AVal.bool false]), some (Entry.ints (some .u64) s.3)] else ((0 : Int) ≤ a ∧ a < (↑(List.length s.3) : Int)) ∧ 0 + Int.toNat a * (1 : Nat) < List.length s.3 ∧ K (AVal.tup []) [some (Entry.cells [AVal.int .i64 s.1, AVal.int .i64 s.2, AVal.slice 1 0 (List.length s.3) 1, AVal.int .i64 (W (s.4 + 1)), AVal.int .i64 2, AVal.int .i64 a, AVal.int .u64 (peek s.3 a), AVal.int .u64 x, AVal.bool true]), some (Entry.ints (some .u64) (List.set s.3 (0 + Int.toNat a * 1) x))]) (by kernel_rfl) ?_))
  refine ⟨⟨rfl, trivial⟩, ?_⟩
  have hc : IntKind.wrap .i64 (s.c + 1) = s.c + 1 := W_in (by omega)
  simp only [W, WU, hc, nat_id]
  unfold MS.stored at hK
  rw [memH_did _ _ _ _ _ _ (putI_length _ _ _)] at hK
  refine cond_go (fun e1 => ?_) (fun e1 => cond_go (fun e2 => ?_) (fun e2 => ?_))
  · rw [ilt_eq, decide_eq_true_eq] at e1
    rw [inB_false (by omega), putI_out (by omega)] at hK
    rw [peek_out (by omega)] at hK ⊢; exact hK
  · rw [ile_eq, decide_eq_true_eq] at e2
    rw [inB_false (by omega), putI_out (by omega)] at hK
    rw [peek_out (by omega)] at hK ⊢; exact hK
  · rw [ilt_eq, decide_eq_false_iff_not] at e1
    rw [ile_eq, decide_eq_false_iff_not] at e2
    refine ⟨by omega, by omega, ?_⟩
    rw [inB_true.2 (by omega), putI_in (by omega)] at hK
    exact hK

def casS : Spec Unit := fun args h => match args, memPat h with
  | [.ptr 0 0, .int .i64 a, .int .u64 x, .int .u64 y], some (l, s) => some (.pre (l = s.xs.length ∧ (0 ≤ s.c ∧ s.c ≤ 4611686018427387904)) (.ret (.bool (casB s.xs a x)) (memH (s.cased a x y))))
  | _, _ => none
theorem cas_ok : Spec.ok E2.I Try.prog 141 casS := by
  intro args h o ho K hK
  unfold casS at ho
  split at ho
  case h_2 => cases ho
  rename_i a x y l s hm
  simp only [Option.some.injEq] at ho; subst ho
  obtain ⟨⟨hl, hp⟩, hK⟩ := hK
  have hh := memPat_eq hm hl
  subst hh
  have hK : K (.bool (casB s.xs a x)) (memH (s.cased a x y)) := hK
  refine CallOk.trim (callOk_of (E := E2) Try.checked.mixed (L := fun _ _ => none) (n := 10) (of_nf (q := (List.length s.3 = List.length s.3 ∧ True) ∧ bif ilt a 0 then K (AVal.bool false) [some (Entry.cells [AVal.int .i64 s.1, AVal.int .i64 s.2, AVal.slice 1 0 (List.length s.3) 1, AVal.int .i64 (W (s.4 + 1)), AVal.int .i64 3, AVal.int .i64 a, AVal.int .u64 (peek s.3 a), AVal.int .u64 (peek s.3 a), AVal.bool false]), some (Entry.ints (some .u64) s.3)] else bif ile (↑(List.length s.3) : Int) a then K (AVal.bool false) [some (Entry.cells [AVal.int .i64 s.1, AVal.int .i64 s.2, AVal.slice 1 0 (List.length s.3) 1, AVal.int .i64 (W (s.4 + 1)), AVal.int .i64 3, AVal.int .i64 a, AVal.int .u64 (peek s.3 a), AVal.int .u64 (peek s.3 a), AVal.bool false]), some (Entry.ints (some .u64) s.3)] else bif ieq (peek s.3 a) x then ((0 : Int) ≤ a ∧ a < (↑(List.length s.3) : Int)) ∧ 0 + Int.toNat a * (1 : Nat) < List.length s.3 ∧ K (AVal.bool (ieq (peek s.3 a) x)) [some (Entry.cells [AVal.int .i64 s.1, AVal.int .i64 s.2, AVal.slice 1 0 (List.length s.3) 1, AVal.int .i64 (W (s.4 + 1)), AVal.int .i64 3, AVal.int .i64 a, AVal.int .u64 (peek s.3 a), AVal.int .u64 y, AVal.bool (ieq (peek s.3 a) x)]), some (Entry.ints (some .u64) (List.set s.3 (0 + Int.toNat a * 1) y))] else K (AVal.bool (ieq (peek s.3 a) x)) [some (Entry.cells [AVal.int .i64 s.1, AVal.int .i64 s.2, AVal.slice 1 0 (List.length s.3) 1, AVal.int .i64 (W (s.4 + 1)), AVal.int .i64 3, AVal.int .i64 a, AVal.int .u64 (peek s.3 a), AVal.int .u64 y, AVal.bool (ieq (peek s.3 a) x)]), some (Entry.ints (some .u64) s.3)]) (by kernel_rfl) ?_))
  refine ⟨⟨rfl, trivial⟩, ?_⟩
  have hc : IntKind.wrap .i64 (s.c + 1) = s.c + 1 := W_in (by omega)
  simp only [W, WU, hc, nat_id]
  unfold MS.cased at hK
  rw [memH_did _ _ _ _ _ _ (by cases casB s.xs a x <;> first | exact putI_length _ _ _ | rfl)] at hK
  unfold casB at hK
  refine cond_go (fun e1 => ?_) (fun e1 => cond_go (fun e2 => ?_) (fun e2 => ?_))
  · rw [ilt_eq, decide_eq_true_eq] at e1
    rw [inB_false (by omega)] at hK
    rw [peek_out (by omega)] at hK ⊢; exact hK
  · rw [ile_eq, decide_eq_true_eq] at e2
    rw [inB_false (by omega)] at hK
    rw [peek_out (by omega)] at hK ⊢; exact hK
  · rw [ilt_eq, decide_eq_false_iff_not] at e1
    rw [ile_eq, decide_eq_false_iff_not] at e2
    rw [inB_true.2 (by omega), putI_in (by omega)] at hK
    simp only [Bool.true_and, cond_true] at hK
    refine cond_go (fun e3 => ⟨by omega, by omega, ?_⟩) (fun e3 => ?_)
    · rw [e3] at hK ⊢; exact hK
    · rw [e3] at hK ⊢; exact hK

def addS : Spec Unit := fun args h => match args, memPat h with
  | [.ptr 0 0, .int .i64 a, .int .u64 x], some (l, s) => some (.pre (l = s.xs.length ∧ (0 ≤ s.c ∧ s.c ≤ 4611686018427387904)) (.ret (.int .u64 (peek s.xs a)) (memH (s.added a x))))
  | _, _ => none
theorem add_ok : Spec.ok E2.I Try.prog 85 addS := by
  intro args h o ho K hK
  unfold addS at ho
  split at ho
  case h_2 => cases ho
  rename_i a x l s hm
  simp only [Option.some.injEq] at ho; subst ho
  obtain ⟨⟨hl, hp⟩, hK⟩ := hK
  have hh := memPat_eq hm hl
  subst hh
  have hK : K (.int .u64 (peek s.xs a)) (memH (s.added a x)) := hK
  refine CallOk.trim (callOk_of (E := E2) Try.checked.mixed (L := fun _ _ => none) (n := 10) (of_nf (q := (List.length s.3 = List.length s.3 ∧ True) ∧ bif ilt a 0 then K (AVal.int .u64 (peek s.3 a)) [some (Entry.cells [AVal.int .i64 s.1, AVal.int .i64 s.2, AVal.slice 1 0 (List.length s.3) 1, AVal.int .i64 (W (s.4 + 1)), AVal.int .i64 4, AVal.int .i64 a, AVal.int .u64 (peek s.3 a), AVal.int .u64 (peek s.3 a), AVal.bool false]), some (Entry.ints (some .u64) s.3)] else bif ile (↑(List.length s.3) : Int) a then K (AVal.int .u64 (peek s.3 a)) [some (Entry.cells [AVal.int .i64 s.1, AVal.int .i64 s.2, AVal.slice 1 0 (List.length s.3) 1, AVal.int .i64 (W (s.4 + 1)), AVal.int .i64 4, AVal.int .i64 a, AVal.int .u64 (peek s.3 a), AVal.int .u64 (peek s.3 a), AVal.bool false]), some (Entry.ints (some .u64) s.3)] else ((0 : Int) ≤ a ∧ a < (↑(List.length s.3) : Int)) ∧ 0 + Int.toNat a * (1 : Nat) < List.length s.3 ∧ K (AVal.int .u64 (peek s.3 a)) [some (Entry.cells [AVal.int .i64 s.1, AVal.int .i64 s.2, AVal.slice 1 0 (List.length s.3) 1, AVal.int .i64 (W (s.4 + 1)), AVal.int .i64 4, AVal.int .i64 a, AVal.int .u64 (peek s.3 a), AVal.int .u64 (WU (peek s.3 a + x)), AVal.bool true]), some (Entry.ints (some .u64) (List.set s.3 (0 + Int.toNat a * 1) (WU (peek s.3 a + x))))]) (by kernel_rfl) ?_))
  refine ⟨⟨rfl, trivial⟩, ?_⟩
  have hc : IntKind.wrap .i64 (s.c + 1) = s.c + 1 := W_in (by omega)
  simp only [W, WU, hc, nat_id]
  unfold MS.added at hK
  rw [memH_did _ _ _ _ _ _ (putI_length _ _ _)] at hK
  refine cond_go (fun e1 => ?_) (fun e1 => cond_go (fun e2 => ?_) (fun e2 => ?_))
  · rw [ilt_eq, decide_eq_true_eq] at e1
    rw [inB_false (by omega), putI_out (by omega)] at hK
    rw [peek_out (by omega)] at hK ⊢; exact hK
  · rw [ile_eq, decide_eq_true_eq] at e2
    rw [inB_false (by omega), putI_out (by omega)] at hK
    rw [peek_out (by omega)] at hK ⊢; exact hK
  · rw [ilt_eq, decide_eq_false_iff_not] at e1
    rw [ile_eq, decide_eq_false_iff_not] at e2
    refine ⟨by omega, by omega, ?_⟩
    rw [inB_true.2 (by omega), putI_in (by omega)] at hK
    exact hK

noncomputable def E3 := (((E2.addS 83 loadS load_ok).addS 18 storeS store_ok).addS 141 casS cas_ok).addS 85 addS add_ok

end Go.Sh
