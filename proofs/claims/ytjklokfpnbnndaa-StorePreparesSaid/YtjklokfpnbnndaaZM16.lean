/- A tape of actions: what is asked of it. -/
import Derived.Test.YtjklokfpnbnndaaZM15
set_option linter.all false
set_option linter.unusedVariables false
set_option linter.unusedSectionVars false
namespace Go.Sh
open Go Go.Proofs
variable [Con]
structure TS where
  i : Int
  bad : Bool
  out : Bool
instance : Inhabited TS := ⟨⟨0, false, false⟩⟩
def a0 (r : List Int) : Int := List.headD r 0
def a1 (r : List Int) : Int := List.headD (List.tail r) 0
def a2 (r : List Int) : Int := List.headD (List.tail (List.tail r)) 0
def a3 (r : List Int) : Int := List.headD (List.tail (List.tail (List.tail r))) 0
/- OPQ -/
def a4 (r : List Int) : Bool := !ieq (List.headD (List.tail (List.tail (List.tail (List.tail r)))) 0) 0
def tRow (A : List (List Int)) (s : TS) : List Int := List.getD A (0 + Int.toNat s.i) []
/- OPQ -/
def tHit (A : List (List Int)) (s : TS) (k a : Int) : Bool := !s.bad && (!s.out && (!ile (A.length : Int) s.i && (ieq (a0 (tRow A s)) k && ieq (a1 (tRow A s)) a)))
/- OPQ -/
def tGot (A : List (List Int)) (s : TS) (k a : Int) : List Int := bif tHit A s k a then tRow A s else []
/- OPQ -/
def tTook (A : List (List Int)) (s : TS) (k a : Int) : TS := bif s.bad || s.out then s else bif ile (A.length : Int) s.i then ⟨s.i, s.bad, true⟩ else ⟨s.i + 1, !tHit A s k a, s.out⟩
/- OPQ -/
def tStor (A : List (List Int)) (s : TS) (a x : Int) : TS := ⟨(tTook A s 2 a).i, (tTook A s 2 a).bad || (!(tTook A s 2 a).out && (a4 (tGot A s 2 a) && !ieq (a3 (tGot A s 2 a)) x)), (tTook A s 2 a).out⟩
def tNo (r : List Int) : Bool := !a4 r && (ieq (a2 r) 0 && ieq (a3 r) 0)
/- OPQ -/
def tCas (A : List (List Int)) (s : TS) (a x y : Int) : TS := ⟨(tTook A s 3 a).i, (tTook A s 3 a).bad || (!(tTook A s 3 a).out && (!tNo (tGot A s 3 a) && (!ieq (a3 (tGot A s 3 a)) y || !(a4 (tGot A s 3 a) == ieq (a2 (tGot A s 3 a)) x)))), (tTook A s 3 a).out⟩
/- OPQ -/
def tAdd (A : List (List Int)) (s : TS) (a x : Int) : TS := ⟨(tTook A s 4 a).i, (tTook A s 4 a).bad || (!(tTook A s 4 a).out && (a4 (tGot A s 4 a) && !ieq (a3 (tGot A s 4 a)) (WU (a2 (tGot A s 4 a) + x)))), (tTook A s 4 a).out⟩
def tapeH (A : List (List Int)) (s : TS) : Heap Unit := [some (.cells [.tslice 1 0 A.length 5, .int .i64 s.i, .bool s.bad, .bool s.out]), some (.tab [some .i64, some .i64, some .u64, some .u64, none] A)]
def tapePat (h : Heap Unit) : Option (Nat × TS × List (List Int)) := match h with
  | [some (.cells [.tslice 1 0 len 5, .int .i64 i, .bool bad, .bool out]), some (.tab [some .i64, some .i64, some .u64, some .u64, none] A)] => some (len, ⟨i, bad, out⟩, A)
  | _ => none
theorem tapePat_eq {h : Heap Unit} {l : Nat} {s : TS} {A : List (List Int)} (e : tapePat h = some (l, s, A)) (hl : l = A.length) : h = tapeH A s := by
  unfold tapePat at e
  split at e
  · simp only [Option.some.injEq, Prod.mk.injEq] at e
    obtain ⟨rfl, rfl, rfl⟩ := e
    subst hl; rfl
  · cases e
theorem not_tr {b : Bool} (h : (!b) = true) : b = false := by simpa using h
theorem not_fa {b : Bool} (h : (!b) = false) : b = true := by simpa using h

def takeS : Spec Unit := fun args h => match args, tapePat h with
  | [.ptr 0 0, .int .i64 k, .int .i64 a], some (l, s, A) => some (.pre (l = A.length ∧ (0 ≤ s.i ∧ s.i ≤ 4611686018427387904)) (.ret (.agg [.int .i64 (a0 (tGot A s k a)), .int .i64 (a1 (tGot A s k a)), .int .u64 (a2 (tGot A s k a)), .int .u64 (a3 (tGot A s k a)), .bool (a4 (tGot A s k a))]) (tapeH A (tTook A s k a))))
  | _, _ => none
theorem take_ok : Spec.ok E15.I Try.prog 101 takeS := by
  intro args h o ho K hK
  unfold takeS at ho
  split at ho
  case h_2 => cases ho
  rename_i k a l s A hm
  simp only [Option.some.injEq] at ho; subst ho
  obtain ⟨⟨hl, hp⟩, hK⟩ := hK
  have hh := tapePat_eq hm hl
  subst hh
  have hK : K (.agg [.int .i64 (a0 (tGot A s k a)), .int .i64 (a1 (tGot A s k a)), .int .u64 (a2 (tGot A s k a)), .int .u64 (a3 (tGot A s k a)), .bool (a4 (tGot A s k a))]) (tapeH A (tTook A s k a)) := hK
  refine CallOk.trim (callOk_of (E := E15) Try.checked.mixed (L := fun _ _ => none) (n := 10) (of_nf (q := bif s.2 then K (AVal.agg [AVal.int .i64 0, AVal.int .i64 0, AVal.int .u64 0, AVal.int .u64 0, AVal.bool false]) [some (Entry.cells [AVal.tslice 1 0 (List.length A) 5, AVal.int .i64 s.1, AVal.bool s.2, AVal.bool s.3]), some (Entry.tab [some .i64, some .i64, some .u64, some .u64, none] A)] else bif s.3 then K (AVal.agg [AVal.int .i64 0, AVal.int .i64 0, AVal.int .u64 0, AVal.int .u64 0, AVal.bool false]) [some (Entry.cells [AVal.tslice 1 0 (List.length A) 5, AVal.int .i64 s.1, AVal.bool s.2, AVal.bool s.3]), some (Entry.tab [some .i64, some .i64, some .u64, some .u64, none] A)] else bif ile (↑(List.length A) : Int) s.1 then K (AVal.agg [AVal.int .i64 0, AVal.int .i64 0, AVal.int .u64 0, AVal.int .u64 0, AVal.bool false]) [some (Entry.cells [AVal.tslice 1 0 (List.length A) 5, AVal.int .i64 s.1, AVal.bool s.2, AVal.bool true]), some (Entry.tab [some .i64, some .i64, some .u64, some .u64, none] A)] else ((0 : Int) ≤ s.1 ∧ s.1 < (↑(List.length A) : Int)) ∧ 0 + Int.toNat s.1 < List.length A ∧ bif !ieq (List.headD (List.getD A (0 + Int.toNat s.1) []) 0) k then K (AVal.agg [AVal.int .i64 0, AVal.int .i64 0, AVal.int .u64 0, AVal.int .u64 0, AVal.bool false]) [some (Entry.cells [AVal.tslice 1 0 (List.length A) 5, AVal.int .i64 (W (s.1 + 1)), AVal.bool true, AVal.bool s.3]), some (Entry.tab [some .i64, some .i64, some .u64, some .u64, none] A)] else bif !ieq (List.headD (List.tail (List.getD A (0 + Int.toNat s.1) [])) 0) a then K (AVal.agg [AVal.int .i64 0, AVal.int .i64 0, AVal.int .u64 0, AVal.int .u64 0, AVal.bool false]) [some (Entry.cells [AVal.tslice 1 0 (List.length A) 5, AVal.int .i64 (W (s.1 + 1)), AVal.bool true, AVal.bool s.3]), some (Entry.tab [some .i64, some .i64, some .u64, some .u64, none] A)] else K (AVal.agg [AVal.int .i64 (List.headD (List.getD A (0 + Int.toNat s.1) []) 0), AVal.int .i64 (List.headD (List.tail (List.getD A (0 + Int.toNat s.1) [])) 0), AVal.int .u64 (List.headD (List.tail (List.tail (List.getD A (0 + Int.toNat s.1) []))) 0), AVal.int .u64 (List.headD (List.tail (List.tail (List.tail (List.getD A (0 + Int.toNat s.1) [])))) 0), AVal.bool !ieq (List.headD (List.tail (List.tail (List.tail (List.tail (List.getD A (0 + Int.toNat s.1) []))))) 0) 0]) [some (Entry.cells [AVal.tslice 1 0 (List.length A) 5, AVal.int .i64 (W (s.1 + 1)), AVal.bool s.2, AVal.bool s.3]), some (Entry.tab [some .i64, some .i64, some .u64, some .u64, none] A)]) (by kernel_rfl) ?_))
  obtain ⟨i, bad, out⟩ := s
  cases bad
  case true => simpa [tGot, tTook, tHit, a0, a1, a2, a3, a4, tapeH, ieq_eq] using hK
  cases out
  case true => simpa [tGot, tTook, tHit, a0, a1, a2, a3, a4, tapeH, ieq_eq] using hK
  simp only [cond_false] at hp ⊢
  refine cond_go (fun e => ?_) (fun e => ?_)
  · have h1 : tHit A ⟨i, false, false⟩ k a = false := by unfold tHit; simp only [e, Bool.not_true, Bool.false_and, Bool.and_false]
    simp only [tGot, tTook, h1, e, Bool.or_false, cond_true, cond_false] at hK
    exact hK
  · have e' := e
    rw [ile_eq, decide_eq_false_iff_not] at e'
    have hw : W (i + 1) = i + 1 := W_id (by omega)
    rw [hw]
    have hg : ∀ b, tHit A ⟨i, false, false⟩ k a = b → tTook A ⟨i, false, false⟩ k a = ⟨i + 1, !b, false⟩ := by
      intro b hb
      simp only [tTook, hb, e, Bool.or_false, cond_false]
    have hr : tRow A ⟨i, false, false⟩ = List.getD A (0 + Int.toNat i) [] := rfl
    have no : tHit A ⟨i, false, false⟩ k a = false → tGot A ⟨i, false, false⟩ k a = [] := by intro hb; unfold tGot; rw [hb]; rfl
    have yes : tHit A ⟨i, false, false⟩ k a = true → tGot A ⟨i, false, false⟩ k a = tRow A ⟨i, false, false⟩ := by intro hb; unfold tGot; rw [hb]; rfl
    refine ⟨by omega, by omega, cond_go (fun c1 => ?_) (fun c1 => cond_go (fun c2 => ?_) (fun c2 => ?_))⟩
    · have c1 := not_tr c1
      have h1 : tHit A ⟨i, false, false⟩ k a = false := by unfold tHit; rw [hr]; simp only [a0, c1, Bool.false_and, Bool.and_false]
      rw [hg _ h1, no h1] at hK
      exact hK
    · have c2 := not_tr c2
      have h1 : tHit A ⟨i, false, false⟩ k a = false := by unfold tHit; rw [hr]; simp only [a1, c2, Bool.and_false]
      rw [hg _ h1, no h1] at hK
      exact hK
    · have c1 := not_fa c1
      have c2 := not_fa c2
      have h1 : tHit A ⟨i, false, false⟩ k a = true := by unfold tHit; rw [hr]; simp only [a0, a1, c1, c2, e, Bool.not_false, Bool.and_true]
      rw [hg _ h1, yes h1] at hK
      exact hK
def overS : RSpec Unit := fun args h => match args, h with
  | [.ptr 0 0], some (.cells [v, .int .i64 i, .bool bad, .bool out]) :: rest => some (True, .bool (bad || out))
  | _, _ => none
theorem over_ok : Spec.ok E15.I Try.prog 74 overS.spec := by
  intro args h o ho K hK
  unfold RSpec.spec at ho
  split at ho
  case h_2 => cases ho
  rename_i p v hv
  unfold overS at hv
  split at hv
  case h_2 => cases hv
  rename_i v i bad out rest
  simp only [Option.some.injEq, Prod.mk.injEq] at hv
  obtain ⟨rfl, rfl⟩ := hv
  simp only [Option.some.injEq] at ho; subst ho
  obtain ⟨_, hK⟩ := hK
  refine (callOk_of (E := E15) Try.checked.mixed (L := fun _ _ => none) (n := 10) (of_nf (q := bif bad then K (AVal.bool true) (some (Entry.cells [v, AVal.int .i64 i, AVal.bool bad, AVal.bool out]) :: rest) else K (AVal.bool out) (some (Entry.cells [v, AVal.int .i64 i, AVal.bool bad, AVal.bool out]) :: rest)) (by kernel_rfl) ?_))
  cases bad <;> cases out <;> exact hK
noncomputable def E16a := (E15.addS 101 (castSpec [(.cell 0 0, .tab [some .i64, some .i64, some .u64, some .u64, none])] takeS) (castSpec_ok take_ok)).addR 74 overS over_ok
end Go.Sh
