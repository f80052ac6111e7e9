/- The laws of the bounds, walked. -/
import Derived.Test.YtmopmpjkpkjfmaaZB2
set_option linter.all false
set_option linter.unusedVariables false
namespace Go.Sh
open Go Go.Proofs
set_option linter.unusedSectionVars false
variable [Con]
theorem cond_same {b : Bool} {X : Prop} (h : X) : cond b X X := by cases b <;> exact h

theorem reckons_ok (n c k a b : Int) (hn : -9223372036854775808 ≤ n ∧ n ≤ 9223372036854775807) (hc : -9223372036854775808 ≤ c ∧ c ≤ 9223372036854775807) (hk : -9223372036854775808 ≤ k ∧ k ≤ 9223372036854775807) : CallOk E5.I Try.prog 3 [.agg [.int .i64 n, .int .i64 c], .int .i64 k, .agg [.int .i64 a, .int .i64 b]] ([] : Heap Unit) (fun v _ => v = .bool true) := by
  refine callOk_of (E := E5) Try.checked.mixed (L := fun _ _ => none) (n := 3) (of_nf (q := bif bif bif bif bif bif ile 1 n then ile n 8 else false then ile 1 c else false then ile c 200 else false then ile 0 k else false then ile k 50 else false then bif ilt n 1 then AVal.bool false = AVal.bool true else bif ilt 8 n then AVal.bool false = AVal.bool true else bif ilt c 1 then AVal.bool false = AVal.bool true else bif ilt 200 c then AVal.bool false = AVal.bool true else bif ilt k 0 then AVal.bool false = AVal.bool true else bif ilt 50 k then AVal.bool false = AVal.bool true else bif bif ieq n n then bif ieq c c then true else false else false then bif ieq k k then (1 ≤ n ∧ n ≤ 8 ∧ 1 ≤ c ∧ c ≤ 200 ∧ 0 ≤ k ∧ k ≤ 50) ∧ (1 ≤ c ∧ c ≤ 200 ∧ 0 ≤ k ∧ k ≤ 50) ∧ bif ieq ((k + 1) * (5 * c + 16)) (5 * c * k + 16 * k + 5 * c + 16) then (1 ≤ n ∧ n ≤ 8 ∧ 1 ≤ c ∧ c ≤ 200 ∧ 0 ≤ k ∧ k ≤ 50) ∧ bif ieq (5 * c + 2 * n + 1) (W (W (W (5 * c) + W (2 * n)) + 1)) then ((0 : Int) ≤ (0 : Int) ∧ (0 : Int) < ↑(2 : Nat)) ∧ ((0 : Int) ≤ (1 : Int) ∧ (1 : Int) < ↑(2 : Nat)) ∧ (1 ≤ n ∧ n ≤ 8 ∧ 1 ≤ c ∧ c ≤ 200 ∧ 0 ≤ k ∧ k ≤ 50) ∧ ((0 : Int) ≤ (0 : Int) ∧ (0 : Int) < ↑(2 : Nat)) ∧ ((0 : Int) ≤ (1 : Int) ∧ (1 : Int) < ↑(2 : Nat)) ∧ (1 ≤ n ∧ n ≤ 8 ∧ 1 ≤ c ∧ c ≤ 200) ∧ bif ieq (hlp n c (clamp a) (clamp b)) (hlp n c (clamp a) (clamp b)) then (1 ≤ n ∧ n ≤ 8 ∧ 1 ≤ c ∧ c ≤ 200 ∧ 0 ≤ k ∧ k ≤ 50) ∧ (1 ≤ n ∧ n ≤ 8 ∧ 1 ≤ c ∧ c ≤ 200 ∧ 0 ≤ k ∧ k ≤ 50) ∧ bif ieq (own n c k) (own n c k) then (1 ≤ n ∧ n ≤ 8 ∧ 1 ≤ c ∧ c ≤ 200 ∧ 0 ≤ k ∧ k ≤ 50) ∧ (1 ≤ n ∧ n ≤ 8 ∧ 1 ≤ c ∧ c ≤ 200 ∧ 0 ≤ k ∧ k ≤ 50) ∧ bif ieq (2 * hlp n c (clamp (3 * n * n + c + 2)) (clamp (n * n + n)) + own n c k) (2 * hlp n c (clamp (3 * n * n + c + 2)) (clamp (n * n + n)) + own n c k) then (1 ≤ n ∧ n ≤ 8 ∧ 1 ≤ c ∧ c ≤ 200 ∧ 0 ≤ k ∧ k ≤ 50) ∧ (1 ≤ n ∧ n ≤ 8 ∧ 1 ≤ c ∧ c ≤ 200 ∧ 0 ≤ k ∧ k ≤ 50) ∧ bif ieq (2 * hlp n c (clamp 1) (clamp n) + own n c k) (2 * hlp n c (clamp 1) (clamp n) + own n c k) then (1 ≤ n ∧ n ≤ 8 ∧ 1 ≤ c ∧ c ≤ 200 ∧ 0 ≤ k ∧ k ≤ 50) ∧ bif ieq (4 * n * n + 1) (W (W (W (4 * n) * n) + 1)) then (1 ≤ n ∧ n ≤ 8 ∧ 1 ≤ c ∧ c ≤ 200 ∧ 0 ≤ k ∧ k ≤ 50) ∧ AVal.bool (ieq (n - 1) (W (n - 1))) = AVal.bool true else AVal.bool false = AVal.bool true else AVal.bool false = AVal.bool true else AVal.bool false = AVal.bool true else AVal.bool false = AVal.bool true else AVal.bool false = AVal.bool true else AVal.bool false = AVal.bool true else AVal.bool false = AVal.bool true else AVal.bool false = AVal.bool true else AVal.bool false = AVal.bool true else bif ilt n 1 then AVal.bool true = AVal.bool true else bif ilt 8 n then AVal.bool true = AVal.bool true else bif ilt c 1 then AVal.bool true = AVal.bool true else bif ilt 200 c then AVal.bool true = AVal.bool true else bif ilt k 0 then AVal.bool true = AVal.bool true else bif ilt 50 k then AVal.bool true = AVal.bool true else AVal.bool false = AVal.bool true) (by kernel_rfl) ?_)
  refine cond_intro (fun e => ?_) (fun e => ?_)
  · have hg : Good n c k := goodB_true.1 (by simpa [goodB, Bool.cond_false_right] using e)
    have hg' := hg
    obtain ⟨g1, g2, g3, g4, g5, g6⟩ := hg
    have m1 := mul_le (a := n) (b := n) (A := 8) (B := 8) (by omega) (by omega) (by omega) (by omega)
    have m2 := mul_le (a := 4 * n) (b := n) (A := 32) (B := 8) (by omega) (by omega) (by omega) (by omega)
    have e1 : IntKind.wrap .i64 (n - 1) = n - 1 := W_in (by omega)
    have e2 : IntKind.wrap .i64 (IntKind.wrap .i64 (IntKind.wrap .i64 (5 * c) + IntKind.wrap .i64 (2 * n)) + 1) = 5 * c + 2 * n + 1 := by simp (disch := omega) only [W_in]
    have e3 : IntKind.wrap .i64 (IntKind.wrap .i64 (IntKind.wrap .i64 (4 * n) * n) + 1) = 4 * n * n + 1 := by simp (disch := omega) only [W_in]
    have e4 : (k + 1) * (5 * c + 16) = 5 * c * k + 16 * k + 5 * c + 16 := by grind
    simp only [W, e1, e2, e3, e4, ilt_eq, ieq_eq, beq_self_eq_true, cond_true]
    have d1 : ¬ n < 1 := by omega
    have d2 : ¬ 8 < n := by omega
    have d3 : ¬ c < 1 := by omega
    have d4 : ¬ 200 < c := by omega
    have d5 : ¬ k < 0 := by omega
    have d6 : ¬ 50 < k := by omega
    simp only [d1, d2, d3, d4, d5, d6, decide_false, cond_false]
    simp [*]
  · have hg : ¬ Good n c k := fun hg => by
      have := goodB_true.2 hg
      rw [show goodB n c k = _ from rfl] at this
      simp [goodB, Bool.cond_false_right] at this e
      simp_all
    refine cond_intro (fun _ => rfl) (fun f1 => cond_intro (fun _ => rfl) (fun f2 => cond_intro (fun _ => rfl) (fun f3 => cond_intro (fun _ => rfl) (fun f4 => cond_intro (fun _ => rfl) (fun f5 => cond_intro (fun _ => rfl) (fun f6 => ?_))))))
    simp only [ilt_eq, decide_eq_false_iff_not] at *
    exact (hg (by unfold Good; omega)).elim
end Go.Sh
