/- A tape of actions: the four that are asked of it, and whether it fits. -/
import Derived.Test.YtjklokfpnbnndaaZM16
set_option linter.all false
set_option linter.unusedVariables false
set_option linter.unusedSectionVars false
namespace Go.Sh
open Go Go.Proofs
variable [Con]
def tloadS : Spec Unit := fun args h => match args, tapePat h with
  | [.ptr 0 0, .int .i64 a], some (l, s, A) => some (.pre (l = A.length ∧ (0 ≤ s.i ∧ s.i ≤ 4611686018427387904)) (.ret (.int .u64 (a2 (tGot A s 1 a))) (tapeH A (tTook A s 1 a))))
  | _, _ => none
theorem tload_ok : Spec.ok E16a.I Try.prog 72 tloadS := by
  intro args h o ho K hK
  unfold tloadS at ho
  split at ho
  case h_2 => cases ho
  rename_i a l s A hm
  simp only [Option.some.injEq] at ho; subst ho
  obtain ⟨⟨hl, hp⟩, hK⟩ := hK
  have hh := tapePat_eq hm hl
  subst hh
  have hK : K (.int .u64 (a2 (tGot A s 1 a))) (tapeH A (tTook A s 1 a)) := hK
  refine CallOk.trim (callOk_of (E := E16a) Try.checked.mixed (L := fun _ _ => none) (n := 10) (of_nf (q := (List.length A = List.length A ∧ (0 : Int) ≤ s.1 ∧ s.1 ≤ (4611686018427387904 : Int)) ∧ K (AVal.int .u64 (a2 (tGot A s 1 a))) [some (Entry.cells [AVal.tslice 1 0 (List.length A) 5, AVal.int .i64 (tTook A s 1 a).1, AVal.bool (tTook A s 1 a).2, AVal.bool (tTook A s 1 a).3]), some (Entry.tab [some .i64, some .i64, some .u64, some .u64, none] A)]) (by kernel_rfl) ?_))
  exact ⟨⟨rfl, hp⟩, hK⟩
def tstoreS : Spec Unit := fun args h => match args, tapePat h with
  | [.ptr 0 0, .int .i64 a, .int .u64 x], some (l, s, A) => some (.pre (l = A.length ∧ (0 ≤ s.i ∧ s.i ≤ 4611686018427387904)) (.ret (.tup []) (tapeH A (tStor A s a x))))
  | _, _ => none
theorem tstore_ok : Spec.ok E16a.I Try.prog 78 tstoreS := by
  intro args h o ho K hK
  unfold tstoreS at ho
  split at ho
  case h_2 => cases ho
  rename_i a x l s A hm
  simp only [Option.some.injEq] at ho; subst ho
  obtain ⟨⟨hl, hp⟩, hK⟩ := hK
  have hh := tapePat_eq hm hl
  subst hh
  have hK : K (.tup []) (tapeH A (tStor A s a x)) := hK
  refine CallOk.trim (callOk_of (E := E16a) Try.checked.mixed (L := fun _ _ => none) (n := 10) (of_nf (q := (List.length A = List.length A ∧ (0 : Int) ≤ s.1 ∧ s.1 ≤ (4611686018427387904 : Int)) ∧ True ∧ bif !bif (tTook A s 2 a).2 then true else (tTook A s 2 a).3 then bif a4 (tGot A s 2 a) then bif !ieq (a3 (tGot A s 2 a)) x then K (AVal.tup []) [some (Entry.cells [AVal.tslice 1 0 (List.length A) 5, AVal.int .i64 (tTook A s 2 a).1, AVal.bool true, AVal.bool (tTook A s 2 a).3]), some (Entry.tab [some .i64, some .i64, some .u64, some .u64, none] A)] else K (AVal.tup []) [some (Entry.cells [AVal.tslice 1 0 (List.length A) 5, AVal.int .i64 (tTook A s 2 a).1, AVal.bool (tTook A s 2 a).2, AVal.bool (tTook A s 2 a).3]), some (Entry.tab [some .i64, some .i64, some .u64, some .u64, none] A)] else K (AVal.tup []) [some (Entry.cells [AVal.tslice 1 0 (List.length A) 5, AVal.int .i64 (tTook A s 2 a).1, AVal.bool (tTook A s 2 a).2, AVal.bool (tTook A s 2 a).3]), some (Entry.tab [some .i64, some .i64, some .u64, some .u64, none] A)] else K (AVal.tup []) [some (Entry.cells [AVal.tslice 1 0 (List.length A) 5, AVal.int .i64 (tTook A s 2 a).1, AVal.bool (tTook A s 2 a).2, AVal.bool (tTook A s 2 a).3]), some (Entry.tab [some .i64, some .i64, some .u64, some .u64, none] A)]) (by kernel_rfl) ?_))
  unfold tStor tapeH at hK
  refine ⟨⟨rfl, hp⟩, trivial, ?_⟩
  generalize tTook A s 2 a = t at hK ⊢
  generalize tGot A s 2 a = g at hK ⊢
  obtain ⟨i, bad, out⟩ := t
  dsimp only at hK ⊢
  generalize a4 g = b1 at hK ⊢
  generalize ieq (a3 g) x = b2 at hK ⊢
  cases bad <;> cases out <;> cases b1 <;> cases b2 <;> exact hK
def taddS : Spec Unit := fun args h => match args, tapePat h with
  | [.ptr 0 0, .int .i64 a, .int .u64 x], some (l, s, A) => some (.pre (l = A.length ∧ (0 ≤ s.i ∧ s.i ≤ 4611686018427387904)) (.ret (.int .u64 (a2 (tGot A s 4 a))) (tapeH A (tAdd A s a x))))
  | _, _ => none
theorem tadd_ok : Spec.ok E16a.I Try.prog 94 taddS := by
  intro args h o ho K hK
  unfold taddS at ho
  split at ho
  case h_2 => cases ho
  rename_i a x l s A hm
  simp only [Option.some.injEq] at ho; subst ho
  obtain ⟨⟨hl, hp⟩, hK⟩ := hK
  have hh := tapePat_eq hm hl
  subst hh
  have hK : K (.int .u64 (a2 (tGot A s 4 a))) (tapeH A (tAdd A s a x)) := hK
  refine CallOk.trim (callOk_of (E := E16a) Try.checked.mixed (L := fun _ _ => none) (n := 10) (of_nf (q := (List.length A = List.length A ∧ (0 : Int) ≤ s.1 ∧ s.1 ≤ (4611686018427387904 : Int)) ∧ True ∧ bif !bif (tTook A s 4 a).2 then true else (tTook A s 4 a).3 then bif a4 (tGot A s 4 a) then bif !ieq (a3 (tGot A s 4 a)) (WU (a2 (tGot A s 4 a) + x)) then K (AVal.int .u64 (a2 (tGot A s 4 a))) [some (Entry.cells [AVal.tslice 1 0 (List.length A) 5, AVal.int .i64 (tTook A s 4 a).1, AVal.bool true, AVal.bool (tTook A s 4 a).3]), some (Entry.tab [some .i64, some .i64, some .u64, some .u64, none] A)] else K (AVal.int .u64 (a2 (tGot A s 4 a))) [some (Entry.cells [AVal.tslice 1 0 (List.length A) 5, AVal.int .i64 (tTook A s 4 a).1, AVal.bool (tTook A s 4 a).2, AVal.bool (tTook A s 4 a).3]), some (Entry.tab [some .i64, some .i64, some .u64, some .u64, none] A)] else K (AVal.int .u64 (a2 (tGot A s 4 a))) [some (Entry.cells [AVal.tslice 1 0 (List.length A) 5, AVal.int .i64 (tTook A s 4 a).1, AVal.bool (tTook A s 4 a).2, AVal.bool (tTook A s 4 a).3]), some (Entry.tab [some .i64, some .i64, some .u64, some .u64, none] A)] else K (AVal.int .u64 (a2 (tGot A s 4 a))) [some (Entry.cells [AVal.tslice 1 0 (List.length A) 5, AVal.int .i64 (tTook A s 4 a).1, AVal.bool (tTook A s 4 a).2, AVal.bool (tTook A s 4 a).3]), some (Entry.tab [some .i64, some .i64, some .u64, some .u64, none] A)]) (by kernel_rfl) ?_))
  unfold tAdd tapeH at hK
  refine ⟨⟨rfl, hp⟩, trivial, ?_⟩
  generalize tTook A s 4 a = t at hK ⊢
  generalize tGot A s 4 a = g at hK ⊢
  obtain ⟨i, bad, out⟩ := t
  dsimp only at hK ⊢
  generalize a4 g = b1 at hK ⊢
  generalize ieq (a3 g) _ = b2 at hK ⊢
  cases bad <;> cases out <;> cases b1 <;> cases b2 <;> exact hK
def tcasS : Spec Unit := fun args h => match args, tapePat h with
  | [.ptr 0 0, .int .i64 a, .int .u64 x, .int .u64 y], some (l, s, A) => some (.pre (l = A.length ∧ (0 ≤ s.i ∧ s.i ≤ 4611686018427387904)) (.ret (.bool (a4 (tGot A s 3 a))) (tapeH A (tCas A s a x y))))
  | _, _ => none
theorem tcas_ok : Spec.ok E16a.I Try.prog 103 tcasS := by
  intro args h o ho K hK
  unfold tcasS at ho
  split at ho
  case h_2 => cases ho
  rename_i a x y l s A hm
  simp only [Option.some.injEq] at ho; subst ho
  obtain ⟨⟨hl, hp⟩, hK⟩ := hK
  have hh := tapePat_eq hm hl
  subst hh
  have hK : K (.bool (a4 (tGot A s 3 a))) (tapeH A (tCas A s a x y)) := hK
  refine CallOk.trim (callOk_of (E := E16a) Try.checked.mixed (L := fun _ _ => none) (n := 10) (of_nf (q := (List.length A = List.length A ∧ (0 : Int) ≤ s.1 ∧ s.1 ≤ (4611686018427387904 : Int)) ∧ bif !a4 (tGot A s 3 a) then bif ieq (a2 (tGot A s 3 a)) 0 then True ∧ bif !bif (tTook A s 3 a).2 then true else (tTook A s 3 a).3 then bif !ieq (a3 (tGot A s 3 a)) 0 then bif !ieq (a3 (tGot A s 3 a)) y then K (AVal.bool (a4 (tGot A s 3 a))) [some (Entry.cells [AVal.tslice 1 0 (List.length A) 5, AVal.int .i64 (tTook A s 3 a).1, AVal.bool true, AVal.bool (tTook A s 3 a).3]), some (Entry.tab [some .i64, some .i64, some .u64, some .u64, none] A)] else bif !bif a4 (tGot A s 3 a) then ieq (a2 (tGot A s 3 a)) x else !ieq (a2 (tGot A s 3 a)) x then K (AVal.bool (a4 (tGot A s 3 a))) [some (Entry.cells [AVal.tslice 1 0 (List.length A) 5, AVal.int .i64 (tTook A s 3 a).1, AVal.bool true, AVal.bool (tTook A s 3 a).3]), some (Entry.tab [some .i64, some .i64, some .u64, some .u64, none] A)] else K (AVal.bool (a4 (tGot A s 3 a))) [some (Entry.cells [AVal.tslice 1 0 (List.length A) 5, AVal.int .i64 (tTook A s 3 a).1, AVal.bool (tTook A s 3 a).2, AVal.bool (tTook A s 3 a).3]), some (Entry.tab [some .i64, some .i64, some .u64, some .u64, none] A)] else K (AVal.bool (a4 (tGot A s 3 a))) [some (Entry.cells [AVal.tslice 1 0 (List.length A) 5, AVal.int .i64 (tTook A s 3 a).1, AVal.bool (tTook A s 3 a).2, AVal.bool (tTook A s 3 a).3]), some (Entry.tab [some .i64, some .i64, some .u64, some .u64, none] A)] else K (AVal.bool (a4 (tGot A s 3 a))) [some (Entry.cells [AVal.tslice 1 0 (List.length A) 5, AVal.int .i64 (tTook A s 3 a).1, AVal.bool (tTook A s 3 a).2, AVal.bool (tTook A s 3 a).3]), some (Entry.tab [some .i64, some .i64, some .u64, some .u64, none] A)] else True ∧ bif !bif (tTook A s 3 a).2 then true else (tTook A s 3 a).3 then bif !ieq (a3 (tGot A s 3 a)) y then K (AVal.bool (a4 (tGot A s 3 a))) [some (Entry.cells [AVal.tslice 1 0 (List.length A) 5, AVal.int .i64 (tTook A s 3 a).1, AVal.bool true, AVal.bool (tTook A s 3 a).3]), some (Entry.tab [some .i64, some .i64, some .u64, some .u64, none] A)] else bif !bif a4 (tGot A s 3 a) then ieq (a2 (tGot A s 3 a)) x else !ieq (a2 (tGot A s 3 a)) x then K (AVal.bool (a4 (tGot A s 3 a))) [some (Entry.cells [AVal.tslice 1 0 (List.length A) 5, AVal.int .i64 (tTook A s 3 a).1, AVal.bool true, AVal.bool (tTook A s 3 a).3]), some (Entry.tab [some .i64, some .i64, some .u64, some .u64, none] A)] else K (AVal.bool (a4 (tGot A s 3 a))) [some (Entry.cells [AVal.tslice 1 0 (List.length A) 5, AVal.int .i64 (tTook A s 3 a).1, AVal.bool (tTook A s 3 a).2, AVal.bool (tTook A s 3 a).3]), some (Entry.tab [some .i64, some .i64, some .u64, some .u64, none] A)] else K (AVal.bool (a4 (tGot A s 3 a))) [some (Entry.cells [AVal.tslice 1 0 (List.length A) 5, AVal.int .i64 (tTook A s 3 a).1, AVal.bool (tTook A s 3 a).2, AVal.bool (tTook A s 3 a).3]), some (Entry.tab [some .i64, some .i64, some .u64, some .u64, none] A)] else True ∧ bif !bif (tTook A s 3 a).2 then true else (tTook A s 3 a).3 then bif !ieq (a3 (tGot A s 3 a)) y then K (AVal.bool (a4 (tGot A s 3 a))) [some (Entry.cells [AVal.tslice 1 0 (List.length A) 5, AVal.int .i64 (tTook A s 3 a).1, AVal.bool true, AVal.bool (tTook A s 3 a).3]), some (Entry.tab [some .i64, some .i64, some .u64, some .u64, none] A)] else bif !bif a4 (tGot A s 3 a) then ieq (a2 (tGot A s 3 a)) x else !ieq (a2 (tGot A s 3 a)) x then K (AVal.bool (a4 (tGot A s 3 a))) [some (Entry.cells [AVal.tslice 1 0 (List.length A) 5, AVal.int .i64 (tTook A s 3 a).1, AVal.bool true, AVal.bool (tTook A s 3 a).3]), some (Entry.tab [some .i64, some .i64, some .u64, some .u64, none] A)] else K (AVal.bool (a4 (tGot A s 3 a))) [some (Entry.cells [AVal.tslice 1 0 (List.length A) 5, AVal.int .i64 (tTook A s 3 a).1, AVal.bool (tTook A s 3 a).2, AVal.bool (tTook A s 3 a).3]), some (Entry.tab [some .i64, some .i64, some .u64, some .u64, none] A)] else K (AVal.bool (a4 (tGot A s 3 a))) [some (Entry.cells [AVal.tslice 1 0 (List.length A) 5, AVal.int .i64 (tTook A s 3 a).1, AVal.bool (tTook A s 3 a).2, AVal.bool (tTook A s 3 a).3]), some (Entry.tab [some .i64, some .i64, some .u64, some .u64, none] A)]) (by kernel_rfl) ?_))
  unfold tCas tNo tapeH at hK
  refine ⟨⟨rfl, hp⟩, ?_⟩
  generalize tTook A s 3 a = t at hK ⊢
  generalize tGot A s 3 a = g at hK ⊢
  obtain ⟨i, bad, out⟩ := t
  dsimp only at hK ⊢
  generalize a4 g = b1 at hK ⊢
  generalize ieq (a3 g) y = b2 at hK ⊢
  generalize ieq (a2 g) x = b3 at hK ⊢
  generalize ieq (a2 g) 0 = b4 at hK ⊢
  generalize ieq (a3 g) 0 = b5 at hK ⊢
  have go : ∀ {b : Bool} {X Y : Prop}, (b = true → X) → (b = false → Y) → cond b X Y := fun h1 h2 => cond_go h1 h2
  cases b1 <;> cases b2 <;> cases b3 <;> cases b4 <;> cases b5 <;> cases bad <;> cases out <;> first | exact hK | exact ⟨trivial, hK⟩
/- OPQ -/
def fitsB (n : Int) (s : TS) (e : Bool) : Bool := !s.bad && (ieq s.i n && (bif s.out then !e else e))
def fitsS : RSpec Unit := fun args h => match args, h with
  | [.ptr 0 0, .bool e], some (.cells [.tslice 1 0 n 5, .int .i64 i, .bool bad, .bool out]) :: rest => some (True, .bool (fitsB n ⟨i, bad, out⟩ e))
  | _, _ => none
theorem fits_ok : Spec.ok E16a.I Try.prog 31 fitsS.spec := by
  intro args h o ho K hK
  unfold RSpec.spec at ho
  split at ho
  case h_2 => cases ho
  rename_i p v hv
  unfold fitsS at hv
  split at hv
  case h_2 => cases hv
  rename_i e n i bad out rest
  simp only [Option.some.injEq, Prod.mk.injEq] at hv
  obtain ⟨rfl, rfl⟩ := hv
  simp only [Option.some.injEq] at ho; subst ho
  obtain ⟨_, hK⟩ := hK
  refine (callOk_of (E := E16a) Try.checked.mixed (L := fun _ _ => none) (n := 10) (of_nf (q := bif bad then K (AVal.bool false) (some (Entry.cells [AVal.tslice 1 0 n 5, AVal.int .i64 i, AVal.bool bad, AVal.bool out]) :: rest) else bif !ieq i (↑n : Int) then K (AVal.bool false) (some (Entry.cells [AVal.tslice 1 0 n 5, AVal.int .i64 i, AVal.bool bad, AVal.bool out]) :: rest) else K (AVal.bool !bif out then e else !e) (some (Entry.cells [AVal.tslice 1 0 n 5, AVal.int .i64 i, AVal.bool bad, AVal.bool out]) :: rest)) (by kernel_rfl) ?_))
  unfold fitsB at hK
  dsimp only at hK
  generalize ieq i (n : Int) = b at hK ⊢
  cases bad <;> cases out <;> cases b <;> cases e <;> exact hK
abbrev KA : List (Place × CastK) := [(.cell 0 0, .tab [some .i64, some .i64, some .u64, some .u64, none])]
noncomputable def E16 := ((((E16a.addS 72 (castSpec KA tloadS) (castSpec_ok tload_ok)).addS 78 (castSpec KA tstoreS) (castSpec_ok tstore_ok)).addS 94 (castSpec KA taddS) (castSpec_ok tadd_ok)).addS 103 (castSpec KA tcasS) (castSpec_ok tcas_ok)).addR 31 fitsS fits_ok
end Go.Sh
