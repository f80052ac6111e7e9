/- The laws of the bounds: what holds of the document's example, and the document's numbers. -/
import Derived.Test.YtmopmpjkpkjfmaaZB1
set_option linter.all false
set_option linter.unusedVariables false
namespace Go.Sh
open Go Go.Proofs
set_option linter.unusedSectionVars false
variable [Con]
def awakeS : List AVal → Option (AVal × Option Prop)
  | [] => some (.bool true, none)
  | _ => none
theorem awake_ok : DSpec.ok E3.I Try.prog 6 (pureSpec awakeS) := DSpec.ofPure (by
  intro args v p h hp
  unfold awakeS at h
  split at h
  case h_2 => cases h
  simp only [Option.some.injEq, Prod.mk.injEq] at h
  obtain ⟨rfl, rfl⟩ := h
  refine ⟨rfl, rfl, callOk_of (E := E3) Try.checked.mixed (L := fun _ _ => none) (n := 3) (of_nf (q := Good 2 4 1 ∧ Good 2 4 1 ∧ Good 2 4 1 ∧ Good 2 4 1 ∧ Good 2 4 1 ∧ AVal.bool true = AVal.bool true) (by kernel_rfl) ?_)⟩
  simp [Good])

def Good3 (n c a b : Int) : Prop := 1 ≤ n ∧ n ≤ 8 ∧ 1 ≤ c ∧ c ≤ 200
def rFindS : List AVal → Option (AVal × Option Prop)
  | [.int .i64 c, .int .i64 k] => some (.int .i64 (5 * c * k + 16 * k + 5 * c + 16), some (1 ≤ c ∧ c ≤ 200 ∧ 0 ≤ k ∧ k ≤ 50))
  | _ => none
theorem rFind_ok : DSpec.ok E3.I Try.prog 9 (pureSpec rFindS) := DSpec.ofPure (by
  intro args v p h hp
  unfold rFindS at h
  split at h
  case h_2 => cases h
  rename_i c k
  simp only [Option.some.injEq, Prod.mk.injEq] at h
  obtain ⟨rfl, rfl⟩ := h
  refine ⟨rfl, rfl, callOk_of (E := E3) Try.checked.mixed (L := fun _ _ => none) (n := 3) (of_nf (q := AVal.int .i64 (W (W (W (W (W (5 * c) * k) + W (16 * k)) + W (5 * c)) + 16)) = AVal.int .i64 (5 * c * k + 16 * k + 5 * c + 16)) (by kernel_rfl) ?_)⟩
  obtain ⟨h1, h2, h3, h4⟩ := hp
  simp only [W]
  have := mul_le (a := 5 * c) (b := k) (A := 1000) (B := 50) (by omega) (by omega) (by omega) (by omega)
  simp (disch := omega) only [W_in])

def rHelpS : List AVal → Option (AVal × Option Prop)
  | [.int .i64 n, .int .i64 c, .int .i64 a, .int .i64 b] => some (.int .i64 (hlp n c (clamp a) (clamp b)), some (1 ≤ n ∧ n ≤ 8 ∧ 1 ≤ c ∧ c ≤ 200))
  | _ => none
def rhW (n c a b : Int) : Int := W (W (W (W (W (W (W (W (W (W (a * W (W (W (W (W (W (W (25 * c) + 80) + 30) + 28) + W (5 * c)) + W (2 * n)) + 1)) + W (b * W (W (W (15 * c) + 48) + 20))) + W (5 * c)) + 16) + 10) + 28) + W (10 * c)) + W (4 * n)) + 2) + 3)
theorem rHelp_eq {n c a b : Int} (hg : 1 ≤ n ∧ n ≤ 8 ∧ 1 ≤ c ∧ c ≤ 200) (ha : 0 ≤ a ∧ a ≤ 100000) (hb : 0 ≤ b ∧ b ≤ 100000) : rhW n c a b = hlp n c a b := by
  obtain ⟨g1, g2, g3, g4⟩ := hg
  unfold rhW
  simp only [W]
  have := mul_le (a := a) (b := 25 * c + 80 + 30 + 28 + 5 * c + 2 * n + 1) (A := 100000) (B := 7000) (by omega) (by omega) (by omega) (by omega)
  have := mul_le (a := b) (b := 15 * c + 48 + 20) (A := 100000) (B := 4000) (by omega) (by omega) (by omega) (by omega)
  simp (disch := omega) only [W_in]
  unfold hlp
  grind
theorem rHelp_ok : DSpec.ok E3.I Try.prog 12 (pureSpec rHelpS) := DSpec.ofPure (by
  intro args v p h hp
  unfold rHelpS at h
  split at h
  case h_2 => cases h
  rename_i n c a b
  simp only [Option.some.injEq, Prod.mk.injEq] at h
  obtain ⟨rfl, rfl⟩ := h
  refine ⟨rfl, rfl, callOk_of (E := E3) Try.checked.mixed (L := fun _ _ => none) (n := 3) (of_nf (q :=
    bif ilt a 0 then
      bif ilt b 0 then AVal.int .i64 (rhW n c 0 0) = AVal.int .i64 (hlp n c (clamp a) (clamp b))
      else bif ilt 100000 b then AVal.int .i64 (rhW n c 0 100000) = AVal.int .i64 (hlp n c (clamp a) (clamp b)) else AVal.int .i64 (rhW n c 0 b) = AVal.int .i64 (hlp n c (clamp a) (clamp b))
    else
      bif ilt b 0 then bif ilt 100000 a then AVal.int .i64 (rhW n c 100000 0) = AVal.int .i64 (hlp n c (clamp a) (clamp b)) else AVal.int .i64 (rhW n c a 0) = AVal.int .i64 (hlp n c (clamp a) (clamp b))
      else bif ilt 100000 a then bif ilt 100000 b then AVal.int .i64 (rhW n c 100000 100000) = AVal.int .i64 (hlp n c (clamp a) (clamp b)) else AVal.int .i64 (rhW n c 100000 b) = AVal.int .i64 (hlp n c (clamp a) (clamp b))
        else bif ilt 100000 b then AVal.int .i64 (rhW n c a 100000) = AVal.int .i64 (hlp n c (clamp a) (clamp b)) else AVal.int .i64 (rhW n c a b) = AVal.int .i64 (hlp n c (clamp a) (clamp b))) (by kernel_rfl) ?_)⟩
  simp only [ilt_eq, clamp_eq]
  refine cond_intro (fun e1 => ?_) (fun e1 => ?_)
  · refine cond_intro (fun e2 => ?_) (fun e2 => cond_intro (fun e3 => ?_) (fun e3 => ?_)) <;>
    · simp only [decide_eq_true_eq, decide_eq_false_iff_not] at *
      rw [rHelp_eq hp (by omega) (by omega)]
      simp [*]
      try omega
  · refine cond_intro (fun e2 => cond_intro (fun e3 => ?_) (fun e3 => ?_)) (fun e2 => cond_intro (fun e3 => cond_intro (fun e4 => ?_) (fun e4 => ?_)) (fun e3 => cond_intro (fun e4 => ?_) (fun e4 => ?_))) <;>
    · simp only [decide_eq_true_eq, decide_eq_false_iff_not] at *
      rw [rHelp_eq hp (by omega) (by omega)]
      simp [*]
      try omega)

def rOwnS : List AVal → Option (AVal × Option Prop)
  | [.int .i64 n, .int .i64 c, .int .i64 k] => some (.int .i64 (own n c k), some (Good n c k))
  | _ => none
theorem rOwn_ok : DSpec.ok E3.I Try.prog 14 (pureSpec rOwnS) := DSpec.ofPure (by
  intro args v p h hp
  unfold rOwnS at h
  split at h
  case h_2 => cases h
  rename_i n c k
  simp only [Option.some.injEq, Prod.mk.injEq] at h
  obtain ⟨rfl, rfl⟩ := h
  refine ⟨rfl, rfl, callOk_of (E := E3) Try.checked.mixed (L := fun _ _ => none) (n := 3) (of_nf (q := AVal.int .i64 (W (W (W (W (W (6 * n) + W (21 * c)) + 65) + W (W (15 * c) * k)) + W (56 * k))) = AVal.int .i64 (own n c k)) (by kernel_rfl) ?_)⟩
  have hg : Good n c k := hp
  obtain ⟨g1, g2, g3, g4, g5, g6⟩ := hg
  simp only [W]
  have := mul_le (a := 15 * c) (b := k) (A := 3000) (B := 50) (by omega) (by omega) (by omega) (by omega)
  simp (disch := omega) only [W_in]
  unfold own
  congr 1
  grind)
noncomputable def E4 := (((E3.addDet 6 (pureSpec awakeS) awake_ok).addDet 9 (pureSpec rFindS) rFind_ok).addDet 12 (pureSpec rHelpS) rHelp_ok).addDet 14 (pureSpec rOwnS) rOwn_ok

def rOpS : List AVal → Option (AVal × Option Prop)
  | [.int .i64 n, .int .i64 c, .int .i64 k] => some (.int .i64 (2 * hlp n c (clamp (3 * n * n + c + 2)) (clamp (n * n + n)) + own n c k), some (Good n c k))
  | _ => none
theorem rOp_ok : DSpec.ok E4.I Try.prog 16 (pureSpec rOpS) := DSpec.ofPure (by
  intro args v p h hp
  unfold rOpS at h
  split at h
  case h_2 => cases h
  rename_i n c k
  simp only [Option.some.injEq, Prod.mk.injEq] at h
  obtain ⟨rfl, rfl⟩ := h
  refine ⟨rfl, rfl, callOk_of (E := E4) Try.checked.mixed (L := fun _ _ => none) (n := 3) (of_nf (q := (1 ≤ n ∧ n ≤ 8 ∧ 1 ≤ c ∧ c ≤ 200) ∧ (1 ≤ n ∧ n ≤ 8 ∧ 1 ≤ c ∧ c ≤ 200 ∧ 0 ≤ k ∧ k ≤ 50) ∧ AVal.int .i64 (W (W (2 * hlp n c (clamp (W (W (W (W (3 * n) * n) + c) + 2))) (clamp (W (W (n * n) + n)))) + own n c k)) = AVal.int .i64 (2 * hlp n c (clamp (3 * n * n + c + 2)) (clamp (n * n + n)) + own n c k)) (by kernel_rfl) ?_)⟩
  have hg : Good n c k := hp
  have h1 := hlp_in hg (clamp_in (3 * n * n + c + 2)) (clamp_in (n * n + n))
  have h2 := own_in hg
  obtain ⟨g1, g2, g3, g4, g5, g6⟩ := hg
  refine ⟨⟨g1, g2, g3, g4⟩, hp, ?_⟩
  simp only [W]
  have := mul_le (a := n) (b := n) (A := 8) (B := 8) (by omega) (by omega) (by omega) (by omega)
  have := mul_le (a := 3 * n) (b := n) (A := 24) (B := 8) (by omega) (by omega) (by omega) (by omega)
  simp (disch := omega) only [W_in])
def rAloneS : List AVal → Option (AVal × Option Prop)
  | [.int .i64 n, .int .i64 c, .int .i64 k] => some (.int .i64 (2 * hlp n c (clamp 1) (clamp n) + own n c k), some (Good n c k))
  | _ => none
theorem rAlone_ok : DSpec.ok E4.I Try.prog 18 (pureSpec rAloneS) := DSpec.ofPure (by
  intro args v p h hp
  unfold rAloneS at h
  split at h
  case h_2 => cases h
  rename_i n c k
  simp only [Option.some.injEq, Prod.mk.injEq] at h
  obtain ⟨rfl, rfl⟩ := h
  refine ⟨rfl, rfl, callOk_of (E := E4) Try.checked.mixed (L := fun _ _ => none) (n := 3) (of_nf (q := (1 ≤ n ∧ n ≤ 8 ∧ 1 ≤ c ∧ c ≤ 200) ∧ (1 ≤ n ∧ n ≤ 8 ∧ 1 ≤ c ∧ c ≤ 200 ∧ 0 ≤ k ∧ k ≤ 50) ∧ AVal.int .i64 (W (W (2 * hlp n c (clamp 1) (clamp n)) + own n c k)) = AVal.int .i64 (2 * hlp n c (clamp 1) (clamp n) + own n c k)) (by kernel_rfl) ?_)⟩
  have hg : Good n c k := hp
  have h1 := hlp_in hg (clamp_in 1) (clamp_in n)
  have h2 := own_in hg
  obtain ⟨g1, g2, g3, g4, g5, g6⟩ := hg
  refine ⟨⟨g1, g2, g3, g4⟩, hp, ?_⟩
  simp only [W]
  simp (disch := omega) only [W_in])
noncomputable def E5 := (E4.addDet 16 (pureSpec rOpS) rOp_ok).addDet 18 (pureSpec rAloneS) rAlone_ok
end Go.Sh
