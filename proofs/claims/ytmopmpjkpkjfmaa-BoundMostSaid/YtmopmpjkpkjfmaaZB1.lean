/- The bounds' numbers: what each function of package bound answers, of a layout and tries that are right. -/
import Derived.Test.YtmopmpjkpkjfmaaRows
import Derived.IntWalk
import Derived.Test.YtmopmpjkpkjfmaaZSh19
set_option linter.all false
set_option linter.unusedVariables false
namespace Go.Sh
open Go Go.Proofs
set_option linter.unusedSectionVars false
variable [Con]
noncomputable def E0 : Env Unit Try.prog where
  I := fun _ _ _ => False
  cps := fun _ => none
  det := fun _ => none
  meth := fun _ _ => none
  cpsOk := by intro f S h; cases h
  detOk := by intro f S h; cases h
  methOk := by intro t n f h; cases h
abbrev W (x : Int) : Int := IntKind.wrap IntKind.i64 x
def Good (n c k : Int) : Prop := 1 ≤ n ∧ n ≤ 8 ∧ 1 ≤ c ∧ c ≤ 200 ∧ 0 ≤ k ∧ k ≤ 50
theorem W_in {x : Int} (h : -9223372036854775808 ≤ x ∧ x ≤ 9223372036854775807) : IntKind.wrap IntKind.i64 x = x := IntWalk.i64_in x h

def lapS : List AVal → Option (AVal × Option Prop)
  | [.agg [.int .i64 n, .int .i64 c, .int .i64 k]] => some (.int .i64 (5 * c + 16), some (Good n c k))
  | _ => none
theorem lap_ok : DSpec.ok E0.I Try.prog 23 (pureSpec lapS) := DSpec.ofPure (by
  intro args v p h hp
  unfold lapS at h
  split at h
  case h_2 => cases h
  rename_i n c k
  simp only [Option.some.injEq, Prod.mk.injEq] at h
  obtain ⟨rfl, rfl⟩ := h
  have hg : Good n c k := hp
  obtain ⟨g1, g2, g3, g4, g5, g6⟩ := hg
  refine ⟨rfl, rfl, callOk_of (E := E0) Try.checked.mixed (L := fun _ _ => none) (n := 3) (of_nf (q := AVal.int .i64 (W (W (5 * c) + 16)) = AVal.int .i64 (5 * c + 16)) (by kernel_rfl) ?_)⟩
  simp only [W]
  rw [W_in (x := 5 * c) (by omega), W_in (by omega)])

def ensS : List AVal → Option (AVal × Option Prop)
  | [.agg [.int .i64 n, .int .i64 c, .int .i64 k]] => some (.int .i64 (5 * c + 2 * n + 1), some (Good n c k))
  | _ => none
theorem ens_ok : DSpec.ok E0.I Try.prog 10 (pureSpec ensS) := DSpec.ofPure (by
  intro args v p h hp
  unfold ensS at h
  split at h
  case h_2 => cases h
  rename_i n c k
  simp only [Option.some.injEq, Prod.mk.injEq] at h
  obtain ⟨rfl, rfl⟩ := h
  have hg : Good n c k := hp
  obtain ⟨g1, g2, g3, g4, g5, g6⟩ := hg
  refine ⟨rfl, rfl, callOk_of (E := E0) Try.checked.mixed (L := fun _ _ => none) (n := 3) (of_nf (q := AVal.int .i64 (W (W (W (5 * c) + W (2 * n)) + 1)) = AVal.int .i64 (5 * c + 2 * n + 1)) (by kernel_rfl) ?_)⟩
  simp only [W]
  rw [W_in (x := 5 * c) (by omega), W_in (x := 2 * n) (by omega), W_in (x := 5 * c + 2 * n) (by omega), W_in (by omega)])
noncomputable def E1 := (E0.addDet 23 (pureSpec lapS) lap_ok).addDet 10 (pureSpec ensS) ens_ok

/-- a product's bounds -/
theorem mul_le {a b A B : Int} (ha : 0 ≤ a) (hb : 0 ≤ b) (h1 : a ≤ A) (h2 : b ≤ B) : 0 ≤ a * b ∧ a * b ≤ A * B :=
  ⟨Int.mul_nonneg ha hb, Int.mul_le_mul h1 h2 hb (by omega)⟩

def findS : List AVal → Option (AVal × Option Prop)
  | [.agg [.int .i64 n, .int .i64 c, .int .i64 k]] => some (.int .i64 ((k + 1) * (5 * c + 16)), some (Good n c k))
  | _ => none
theorem find_ok : DSpec.ok E1.I Try.prog 8 (pureSpec findS) := DSpec.ofPure (by
  intro args v p h hp
  unfold findS at h
  split at h
  case h_2 => cases h
  rename_i n c k
  simp only [Option.some.injEq, Prod.mk.injEq] at h
  obtain ⟨rfl, rfl⟩ := h
  have hg : Good n c k := hp
  obtain ⟨g1, g2, g3, g4, g5, g6⟩ := hg
  refine ⟨rfl, rfl, callOk_of (E := E1) Try.checked.mixed (L := fun _ _ => none) (n := 3) (of_nf (q := (Good n c k) ∧ AVal.int .i64 (W (W (k + 1) * (5 * c + 16))) = AVal.int .i64 ((k + 1) * (5 * c + 16))) (by kernel_rfl) ⟨hp, ?_⟩)⟩
  simp only [W]
  have := mul_le (a := k + 1) (b := 5 * c + 16) (A := 51) (B := 1016) (by omega) (by omega) (by omega) (by omega)
  rw [W_in (x := k + 1) (by omega), W_in (by omega)])

def clamp (d : Int) : Int := bif ilt 100000 (bif ilt d 0 then 0 else d) then 100000 else bif ilt d 0 then 0 else d
theorem clamp_eq (d : Int) : clamp d = if d < 0 then 0 else if 100000 < d then 100000 else d := by
  unfold clamp
  simp only [ilt_eq]
  by_cases h : d < 0
  · simp [h]
  · by_cases h2 : 100000 < d <;> simp [h, h2]
theorem clamp_in (d : Int) : 0 ≤ clamp d ∧ clamp d ≤ 100000 := by
  rw [clamp_eq]; split
  · omega
  · split <;> omega
def hlp (n c D M : Int) : Int := (5 * D + 1 + 3 * M) * (5 * c + 16) + 10 * (3 * D + 1 + 2 * M) + 28 * (D + 1) + (D + 2) * (5 * c + 2 * n + 1) + 3
def helpS : List AVal → Option (AVal × Option Prop)
  | [.agg [.int .i64 n, .int .i64 c, .int .i64 k], .int .i64 d, .int .i64 m] => some (.int .i64 (hlp n c (clamp d) (clamp m)), some (Good n c k))
  | _ => none
theorem hlp_wrap {n c k D M : Int} (hg : Good n c k) (hD : 0 ≤ D ∧ D ≤ 100000) (hM : 0 ≤ M ∧ M ≤ 100000) :
    W (W (W (W (W (W (W (W (5 * D) + 1) + W (3 * M)) * (5 * c + 16)) + W (10 * W (W (W (3 * D) + 1) + W (2 * M)))) + W (28 * W (D + 1))) + W (W (D + 2) * (5 * c + 2 * n + 1))) + 3) = hlp n c D M := by
  obtain ⟨g1, g2, g3, g4, g5, g6⟩ := hg
  simp only [W]
  have := mul_le (a := 5 * D + 1 + 3 * M) (b := 5 * c + 16) (A := 800001) (B := 1016) (by omega) (by omega) (by omega) (by omega)
  have := mul_le (a := D + 2) (b := 5 * c + 2 * n + 1) (A := 100002) (B := 1017) (by omega) (by omega) (by omega) (by omega)
  unfold hlp
  rw [W_in (x := 5 * D) (by omega), W_in (x := 3 * M) (by omega), W_in (x := 3 * D) (by omega), W_in (x := 2 * M) (by omega), W_in (x := 5 * D + 1) (by omega), W_in (x := 3 * D + 1) (by omega), W_in (x := D + 1) (by omega),
    W_in (x := D + 2) (by omega), W_in (x := 28 * (D + 1)) (by omega), W_in (x := 5 * D + 1 + 3 * M) (by omega), W_in (x := 3 * D + 1 + 2 * M) (by omega), W_in (x := 10 * (3 * D + 1 + 2 * M)) (by omega),
    W_in (x := (5 * D + 1 + 3 * M) * (5 * c + 16)) (by omega), W_in (x := (D + 2) * (5 * c + 2 * n + 1)) (by omega)]
  generalize (5 * D + 1 + 3 * M) * (5 * c + 16) = X at *
  generalize (D + 2) * (5 * c + 2 * n + 1) = Y at *
  rw [W_in (x := X + 10 * (3 * D + 1 + 2 * M)) (by omega), W_in (x := X + 10 * (3 * D + 1 + 2 * M) + 28 * (D + 1)) (by omega), W_in (x := X + 10 * (3 * D + 1 + 2 * M) + 28 * (D + 1) + Y) (by omega), W_in (by omega)]

theorem help_ok : DSpec.ok E1.I Try.prog 11 (pureSpec helpS) := DSpec.ofPure (by
  intro args v p h hp
  unfold helpS at h
  split at h
  case h_2 => cases h
  rename_i n c k d m
  simp only [Option.some.injEq, Prod.mk.injEq] at h
  obtain ⟨rfl, rfl⟩ := h
  have hg : Good n c k := hp
  refine ⟨rfl, rfl, callOk_of (E := E1) Try.checked.mixed (L := fun _ _ => none) (n := 3) (of_nf (q := (Good n c k) ∧ (Good n c k) ∧ AVal.int .i64 (W (W (W (W (W (W (W (W (5 * clamp d) + 1) + W (3 * clamp m)) * (5 * c + 16)) + W (10 * W (W (W (3 * clamp d) + 1) + W (2 * clamp m)))) + W (28 * W (clamp d + 1))) + W (W (clamp d + 2) * (5 * c + 2 * n + 1))) + 3)) = AVal.int .i64 (hlp n c (clamp d) (clamp m))) (by kernel_rfl) ?_)⟩
  exact ⟨hg, hg, congrArg (AVal.int .i64) (hlp_wrap hg (clamp_in d) (clamp_in m))⟩)

def own (n c k : Int) : Int := 6 * n + 6 * c + 9 + (k + 1) * (15 * c + 56)
theorem own_in {n c k : Int} (hg : Good n c k) : 0 ≤ own n c k ∧ own n c k ≤ 200000 := by
  obtain ⟨g1, g2, g3, g4, g5, g6⟩ := hg
  have := mul_le (a := k + 1) (b := 15 * c + 56) (A := 51) (B := 3056) (by omega) (by omega) (by omega) (by omega)
  unfold own; omega
theorem hlp_in {n c k D M : Int} (hg : Good n c k) (hD : 0 ≤ D ∧ D ≤ 100000) (hM : 0 ≤ M ∧ M ≤ 100000) : 0 ≤ hlp n c D M ∧ hlp n c D M ≤ 2000000000 := by
  obtain ⟨g1, g2, g3, g4, g5, g6⟩ := hg
  have := mul_le (a := 5 * D + 1 + 3 * M) (b := 5 * c + 16) (A := 800001) (B := 1016) (by omega) (by omega) (by omega) (by omega)
  have := mul_le (a := D + 2) (b := 5 * c + 2 * n + 1) (A := 100002) (B := 1017) (by omega) (by omega) (by omega) (by omega)
  unfold hlp; omega

def ownS : List AVal → Option (AVal × Option Prop)
  | [.agg [.int .i64 n, .int .i64 c, .int .i64 k]] => some (.int .i64 (own n c k), some (Good n c k))
  | _ => none
theorem own_ok : DSpec.ok E1.I Try.prog 13 (pureSpec ownS) := DSpec.ofPure (by
  intro args v p h hp
  unfold ownS at h
  split at h
  case h_2 => cases h
  rename_i n c k
  simp only [Option.some.injEq, Prod.mk.injEq] at h
  obtain ⟨rfl, rfl⟩ := h
  have hg : Good n c k := hp
  obtain ⟨g1, g2, g3, g4, g5, g6⟩ := hp
  refine ⟨rfl, rfl, callOk_of (E := E1) Try.checked.mixed (L := fun _ _ => none) (n := 3) (of_nf (q := AVal.int .i64 (W (W (W (W (6 * n) + W (6 * c)) + 9) + W (W (k + 1) * W (W (15 * c) + 56)))) = AVal.int .i64 (own n c k)) (by kernel_rfl) ?_)⟩
  simp only [W]
  have := mul_le (a := k + 1) (b := 15 * c + 56) (A := 51) (B := 3056) (by omega) (by omega) (by omega) (by omega)
  unfold own
  rw [W_in (x := 6 * n) (by omega), W_in (x := 6 * c) (by omega), W_in (x := 15 * c) (by omega), W_in (x := k + 1) (by omega), W_in (x := 15 * c + 56) (by omega), W_in (x := 6 * n + 6 * c) (by omega), W_in (x := 6 * n + 6 * c + 9) (by omega),
    W_in (x := (k + 1) * (15 * c + 56)) (by omega), W_in (by omega)])
noncomputable def E2 := (E1.addDet 11 (pureSpec helpS) help_ok).addDet 13 (pureSpec ownS) own_ok

def opS : List AVal → Option (AVal × Option Prop)
  | [.agg [.int .i64 n, .int .i64 c, .int .i64 k]] => some (.int .i64 (2 * hlp n c (clamp (3 * n * n + c + 2)) (clamp (n * n + n)) + own n c k), some (Good n c k))
  | _ => none
theorem op_ok : DSpec.ok E2.I Try.prog 15 (pureSpec opS) := DSpec.ofPure (by
  intro args v p h hp
  unfold opS at h
  split at h
  case h_2 => cases h
  rename_i n c k
  simp only [Option.some.injEq, Prod.mk.injEq] at h
  obtain ⟨rfl, rfl⟩ := h
  have hg : Good n c k := hp
  obtain ⟨g1, g2, g3, g4, g5, g6⟩ := hp
  refine ⟨rfl, rfl, callOk_of (E := E2) Try.checked.mixed (L := fun _ _ => none) (n := 3) (of_nf (q := Good n c k ∧ Good n c k ∧ AVal.int .i64 (W (W (2 * hlp n c (clamp (W (W (W (W (3 * n) * n) + c) + 2))) (clamp (W (W (n * n) + n)))) + own n c k)) = AVal.int .i64 (2 * hlp n c (clamp (3 * n * n + c + 2)) (clamp (n * n + n)) + own n c k)) (by kernel_rfl) ?_)⟩
  refine ⟨hg, hg, ?_⟩
  simp only [W]
  have := mul_le (a := n) (b := n) (A := 8) (B := 8) (by omega) (by omega) (by omega) (by omega)
  have e : 3 * n * n = 3 * (n * n) := Int.mul_assoc 3 n n
  have h1 := hlp_in hg (clamp_in (3 * n * n + c + 2)) (clamp_in (n * n + n))
  have h2 := own_in hg
  rw [W_in (x := 3 * n) (by omega), W_in (x := 3 * n * n) (by omega), W_in (x := 3 * n * n + c) (by omega), W_in (x := 3 * n * n + c + 2) (by omega), W_in (x := n * n) (by omega), W_in (x := n * n + n) (by omega),
    W_in (x := 2 * _) (by omega), W_in (by omega)])

def aloneS : List AVal → Option (AVal × Option Prop)
  | [.agg [.int .i64 n, .int .i64 c, .int .i64 k]] => some (.int .i64 (2 * hlp n c (clamp 1) (clamp n) + own n c k), some (Good n c k))
  | _ => none
theorem alone_ok : DSpec.ok E2.I Try.prog 17 (pureSpec aloneS) := DSpec.ofPure (by
  intro args v p h hp
  unfold aloneS at h
  split at h
  case h_2 => cases h
  rename_i n c k
  simp only [Option.some.injEq, Prod.mk.injEq] at h
  obtain ⟨rfl, rfl⟩ := h
  have hg : Good n c k := hp
  obtain ⟨g1, g2, g3, g4, g5, g6⟩ := hp
  refine ⟨rfl, rfl, callOk_of (E := E2) Try.checked.mixed (L := fun _ _ => none) (n := 3) (of_nf (q := Good n c k ∧ Good n c k ∧ AVal.int .i64 (W (W (2 * hlp n c (clamp 1) (clamp n)) + own n c k)) = AVal.int .i64 (2 * hlp n c (clamp 1) (clamp n) + own n c k)) (by kernel_rfl) ?_)⟩
  refine ⟨hg, hg, ?_⟩
  simp only [W]
  have h1 := hlp_in hg (clamp_in 1) (clamp_in n)
  have h2 := own_in hg
  rw [W_in (x := 2 * _) (by omega), W_in (by omega)])

def roomS : List AVal → Option (AVal × Option Prop)
  | [.agg [.int .i64 n, .int .i64 c, .int .i64 k]] => some (.int .i64 (4 * n * n + 1), some (Good n c k))
  | _ => none
theorem room_ok : DSpec.ok E2.I Try.prog 19 (pureSpec roomS) := DSpec.ofPure (by
  intro args v p h hp
  unfold roomS at h
  split at h
  case h_2 => cases h
  rename_i n c k
  simp only [Option.some.injEq, Prod.mk.injEq] at h
  obtain ⟨rfl, rfl⟩ := h
  have hg : Good n c k := hp
  obtain ⟨g1, g2, g3, g4, g5, g6⟩ := hp
  refine ⟨rfl, rfl, callOk_of (E := E2) Try.checked.mixed (L := fun _ _ => none) (n := 3) (of_nf (q := AVal.int .i64 (W (W (W (4 * n) * n) + 1)) = AVal.int .i64 (4 * n * n + 1)) (by kernel_rfl) ?_)⟩
  simp only [W]
  have := mul_le (a := n) (b := n) (A := 8) (B := 8) (by omega) (by omega) (by omega) (by omega)
  have e : 4 * n * n = 4 * (n * n) := Int.mul_assoc 4 n n
  rw [W_in (x := 4 * n) (by omega), W_in (x := 4 * n * n) (by omega), W_in (by omega)])

def waitsS : List AVal → Option (AVal × Option Prop)
  | [.agg [.int .i64 n, .int .i64 c, .int .i64 k]] => some (.int .i64 (n - 1), some (Good n c k))
  | _ => none
theorem waits_ok : DSpec.ok E2.I Try.prog 20 (pureSpec waitsS) := DSpec.ofPure (by
  intro args v p h hp
  unfold waitsS at h
  split at h
  case h_2 => cases h
  rename_i n c k
  simp only [Option.some.injEq, Prod.mk.injEq] at h
  obtain ⟨rfl, rfl⟩ := h
  have hg : Good n c k := hp
  obtain ⟨g1, g2, g3, g4, g5, g6⟩ := hp
  refine ⟨rfl, rfl, callOk_of (E := E2) Try.checked.mixed (L := fun _ _ => none) (n := 3) (of_nf (q := AVal.int .i64 (W (n - 1)) = AVal.int .i64 (n - 1)) (by kernel_rfl) ?_)⟩
  simp only [W]
  rw [W_in (by omega)])

def goodB (n c k : Int) : Bool := ile 1 n && ile n 8 && ile 1 c && ile c 200 && ile 0 k && ile k 50
theorem goodB_true {n c k : Int} : goodB n c k = true ↔ Good n c k := by
  unfold goodB Good; simp only [ile_eq, Bool.and_eq_true, decide_eq_true_eq]; omega
def newV (n c k e : Int) : AVal := .tup [.agg [.int .i64 n, .int .i64 c, .int .i64 k], .int .i64 e]
def newS : CSpec Unit := fun args h K => match args with
  | [.agg [.int .i64 n, .int .i64 c], .int .i64 k] => cond (goodB n c k) (K (newV n c k 0) h) (K (newV 0 0 0 2) h)
  | _ => False
theorem new_ok : CSpec.ok E2.I Try.prog 7 newS := by
  intro args h K hS
  unfold newS at hS
  split at hS
  case h_2 => cases hS
  rename_i n c k
  have key : CallOk E2.I Try.prog 7 [.agg [.int .i64 n, .int .i64 c], .int .i64 k] [] fun v' _ => v' = (cond (goodB n c k) (newV n c k 0) (newV 0 0 0 2)) := by
    refine callOk_of (E := E2) Try.checked.mixed (L := fun _ _ => none) (n := 3) (of_nf (q :=
      bif ile 1 n then
        bif ile n 8 then
          bif ile 1 c then
            bif !ile c 200 then newV 0 0 0 2 = (cond (goodB n c k) (newV n c k 0) (newV 0 0 0 2))
            else bif ilt k 0 then newV 0 0 0 2 = (cond (goodB n c k) (newV n c k 0) (newV 0 0 0 2))
              else bif ilt 50 k then newV 0 0 0 2 = (cond (goodB n c k) (newV n c k 0) (newV 0 0 0 2))
                else newV n c k 0 = (cond (goodB n c k) (newV n c k 0) (newV 0 0 0 2))
          else newV 0 0 0 2 = (cond (goodB n c k) (newV n c k 0) (newV 0 0 0 2))
        else newV 0 0 0 2 = (cond (goodB n c k) (newV n c k 0) (newV 0 0 0 2))
      else newV 0 0 0 2 = (cond (goodB n c k) (newV n c k 0) (newV 0 0 0 2))) (by kernel_rfl) ?_)
    have no : ¬ Good n c k → newV 0 0 0 2 = (cond (goodB n c k) (newV n c k 0) (newV 0 0 0 2)) := by
      intro hn
      have : goodB n c k = false := by
        cases e : goodB n c k with
        | true => exact (hn (goodB_true.1 e)).elim
        | false => rfl
      rw [this]; rfl
    simp only [ile_eq, ilt_eq]
    refine cond_intro (fun e1 => cond_intro (fun e2 => cond_intro (fun e3 => cond_intro (fun e4 => no ?_) (fun e4 => cond_intro (fun e5 => no ?_) (fun e5 => cond_intro (fun e6 => no ?_) (fun e6 => ?_)))) (fun e3 => no ?_)) (fun e2 => no ?_)) (fun e1 => no ?_)
    case refine_4 =>
      have : goodB n c k = true := goodB_true.2 (by simp only [decide_eq_true_eq, decide_eq_false_iff_not, Bool.not_eq_true', Bool.not_eq_false'] at *; unfold Good; omega)
      rw [this]; rfl
    all_goals (simp only [decide_eq_true_eq, decide_eq_false_iff_not, Bool.not_eq_true', Bool.not_eq_false'] at *; unfold Good; omega)
  cases e : goodB n c k with
  | true => rw [e] at hS key; exact key.beside rfl rfl hS
  | false => rw [e] at hS key; exact key.beside rfl rfl hS
noncomputable def E3 := (((((E2.addDet 8 (pureSpec findS) find_ok).addDet 15 (pureSpec opS) op_ok).addDet 17 (pureSpec aloneS) alone_ok).addDet 19 (pureSpec roomS) room_ok).addDet 20 (pureSpec waitsS) waits_ok).addCps 7 newS new_ok
end Go.Sh
