/- The law of the bounds' growth, walked. -/
import Derived.Test.YtmopmpjkpkjfmaaZB3
set_option linter.all false
set_option linter.unusedVariables false
namespace Go.Sh
open Go Go.Proofs
set_option linter.unusedSectionVars false
variable [Con]
theorem hlp_le {n c D M n' c' D' M' : Int} (h1 : 0 ≤ n) (h2 : 0 ≤ c) (h3 : 0 ≤ D) (h4 : 0 ≤ M) (g1 : n ≤ n') (g2 : c ≤ c') (g3 : D ≤ D') (g4 : M ≤ M') : hlp n c D M + 28 * (D' - D) + 20 * (M' - M) ≤ hlp n' c' D' M' := by
  have a1 : (5 * D + 1 + 3 * M) * (5 * c + 16) ≤ (5 * D' + 1 + 3 * M') * (5 * c' + 16) := Int.mul_le_mul (by omega) (by omega) (by omega) (by omega)
  have a2 : (D + 2) * (5 * c + 2 * n + 1) ≤ (D' + 2) * (5 * c' + 2 * n' + 1) := Int.mul_le_mul (by omega) (by omega) (by omega) (by omega)
  unfold hlp; omega
theorem own_lt {n c k n' c' k' : Int} (h1 : 0 ≤ n) (h2 : 0 ≤ c) (h3 : 0 ≤ k) (g1 : n ≤ n') (g2 : c ≤ c') (g3 : k ≤ k') (g : n + c + k < n' + c' + k') : own n c k < own n' c' k' := by
  have a1 : (k + 1) * (15 * c + 56) ≤ (k' + 1) * (15 * c' + 56) := Int.mul_le_mul (by omega) (by omega) (by omega) (by omega)
  have a2 : k < k' → (k + 1) * (15 * c + 56) < (k' + 1) * (15 * c' + 56) := by
    intro hk
    have : (k + 1) * (15 * c + 56) < (k' + 1) * (15 * c + 56) := Int.mul_lt_mul_of_pos_right (by omega) (by omega)
    have : (k' + 1) * (15 * c + 56) ≤ (k' + 1) * (15 * c' + 56) := Int.mul_le_mul_of_nonneg_left (by omega) (by omega)
    omega
  unfold own
  by_cases hk : k < k'
  · have := a2 hk; omega
  · omega
theorem sq_le {n n' : Int} (h : 0 ≤ n) (g : n ≤ n') : n * n ≤ n' * n' := Int.mul_le_mul g g h (by omega)
theorem op_lt {n c k n' c' k' : Int} (h1 : 1 ≤ n) (h2 : 1 ≤ c) (h3 : 0 ≤ k) (g1 : n ≤ n') (g2 : c ≤ c') (g3 : k ≤ k') (g : n + c + k < n' + c' + k') :
    2 * hlp n c (3 * n * n + c + 2) (n * n + n) + own n c k < 2 * hlp n' c' (3 * n' * n' + c' + 2) (n' * n' + n') + own n' c' k' := by
  have := sq_le (n := n) (n' := n') (by omega) g1
  have e1 : 3 * n * n = 3 * (n * n) := Int.mul_assoc 3 n n
  have e2 : 3 * n' * n' = 3 * (n' * n') := Int.mul_assoc 3 n' n'
  have p : 0 ≤ n * n := Int.mul_nonneg (by omega) (by omega)
  have := hlp_le (n := n) (c := c) (D := 3 * n * n + c + 2) (M := n * n + n) (n' := n') (c' := c') (D' := 3 * n' * n' + c' + 2) (M' := n' * n' + n') (by omega) (by omega) (by omega) (by omega) g1 g2 (by omega) (by omega)
  have := own_lt (n := n) (c := c) (k := k) (by omega) (by omega) h3 g1 g2 g3 g
  omega
theorem alone_lt {n c k n' c' k' : Int} (h1 : 1 ≤ n) (h2 : 1 ≤ c) (h3 : 0 ≤ k) (g1 : n ≤ n') (g2 : c ≤ c') (g3 : k ≤ k') (g : n + c + k < n' + c' + k') :
    2 * hlp n c 1 n + own n c k < 2 * hlp n' c' 1 n' + own n' c' k' := by
  have := hlp_le (n := n) (c := c) (D := 1) (M := n) (n' := n') (c' := c') (D' := 1) (M' := n') (by omega) (by omega) (by omega) (by omega) g1 g2 (by omega) (by omega)
  have := own_lt (n := n) (c := c) (k := k) (by omega) (by omega) h3 g1 g2 g3 g
  omega
theorem alone_op {n c k : Int} (h1 : 1 ≤ n) (h2 : 1 ≤ c) : 2 * hlp n c 1 n + own n c k < 2 * hlp n c (3 * n * n + c + 2) (n * n + n) + own n c k := by
  have e1 : 3 * n * n = 3 * (n * n) := Int.mul_assoc 3 n n
  have p : 0 ≤ n * n := Int.mul_nonneg (by omega) (by omega)
  have := hlp_le (n := n) (c := c) (D := 1) (M := n) (n' := n) (c' := c) (D' := 3 * n * n + c + 2) (M' := n * n + n) (by omega) (by omega) (by omega) (by omega) (by omega) (by omega) (by omega) (by omega)
  omega
theorem clamp_id {x : Int} (h : 0 ≤ x ∧ x ≤ 100000) : clamp x = x := by
  rw [clamp_eq, if_neg (by omega), if_neg (by omega)]
theorem own_pos {n c k : Int} (h1 : 1 ≤ n) (h2 : 1 ≤ c) (h3 : 0 ≤ k) : 0 ≤ own n c k := by
  have := Int.mul_nonneg (a := k + 1) (b := 15 * c + 56) (by omega) (by omega)
  unfold own; omega
theorem hlp_pos {n c D M : Int} (h1 : 1 ≤ n) (h2 : 1 ≤ c) (h3 : 0 ≤ D) (h4 : 0 ≤ M) : 0 < hlp n c D M := by
  have := Int.mul_nonneg (a := 5 * D + 1 + 3 * M) (b := 5 * c + 16) (by omega) (by omega)
  have := Int.mul_nonneg (a := D + 2) (b := 5 * c + 2 * n + 1) (by omega) (by omega)
  unfold hlp; omega

/-- one round of the law, and what goes on -/
theorem round_intro {N C K n c k : Int} {X : Prop} (hg : Good N C K) (hg' : Good n c k) (g1 : N ≤ n) (g2 : C ≤ c) (g3 : K ≤ k) (g : N + C + K < n + c + k) (hX : X) :
    (bif ile (2 * hlp n c (clamp (3 * n * n + c + 2)) (clamp (n * n + n)) + own n c k) (2 * hlp N C (clamp (3 * N * N + C + 2)) (clamp (N * N + N)) + own N C K) then AVal.bool false = AVal.bool true else
      Good n c k ∧ Good N C K ∧ bif ile (2 * hlp n c (clamp 1) (clamp n) + own n c k) (2 * hlp N C (clamp 1) (clamp N) + own N C K) then AVal.bool false = AVal.bool true else X) := by
  have h1 := op_lt (by obtain ⟨a, _⟩ := hg; exact a) (by obtain ⟨_, _, a, _⟩ := hg; exact a) (by obtain ⟨_, _, _, _, a, _⟩ := hg; exact a) g1 g2 g3 g
  have h2 := alone_lt (by obtain ⟨a, _⟩ := hg; exact a) (by obtain ⟨_, _, a, _⟩ := hg; exact a) (by obtain ⟨_, _, _, _, a, _⟩ := hg; exact a) g1 g2 g3 g
  obtain ⟨a1, a2, a3, a4, a5, a6⟩ := hg
  obtain ⟨b1, b2, b3, b4, b5, b6⟩ := hg'
  have m1 := mul_le (a := n) (b := n) (A := 8) (B := 8) (by omega) (by omega) (by omega) (by omega)
  have m2 := mul_le (a := N) (b := N) (A := 8) (B := 8) (by omega) (by omega) (by omega) (by omega)
  have e1 : 3 * n * n = 3 * (n * n) := Int.mul_assoc 3 n n
  have e2 : 3 * N * N = 3 * (N * N) := Int.mul_assoc 3 N N
  have c1 : clamp (3 * n * n + c + 2) = 3 * n * n + c + 2 := clamp_id (by omega)
  have c2 : clamp (3 * N * N + C + 2) = 3 * N * N + C + 2 := clamp_id (by omega)
  have c3 : clamp (n * n + n) = n * n + n := clamp_id (by omega)
  have c4 : clamp (N * N + N) = N * N + N := clamp_id (by omega)
  have c5 : clamp n = n := clamp_id (by omega)
  have c6 : clamp N = N := clamp_id (by omega)
  have c7 : clamp 1 = 1 := clamp_id (by omega)
  rw [c1, c2, c3, c4, c5, c6, c7, ile_eq, decide_eq_false (by omega), cond_false, ile_eq, decide_eq_false (by omega), cond_false]
  exact ⟨⟨b1, b2, b3, b4, b5, b6⟩, ⟨a1, a2, a3, a4, a5, a6⟩, hX⟩

theorem tmod_in {x m : Int} (h : 0 ≤ x) (hm : 0 < m) : 0 ≤ Int.tmod x m ∧ Int.tmod x m < m := by
  rw [Int.tmod_eq_emod_of_nonneg h]
  exact ⟨Int.emod_nonneg _ (by omega), Int.emod_lt_of_pos _ hm⟩
theorem good_iff (n c k : Int) : (bif bif bif bif bif ile 1 n then ile n 8 else false then ile 1 c else false then ile c 200 else false then ile 0 k else false then ile k 50 else false) = goodB n c k := by
  simp [goodB, Bool.cond_false_right]
theorem goodB_of {n c k : Int} (h : Good n c k) : goodB n c k = true := goodB_true.2 h
theorem and_go {P Q : Prop} (h : P) (g : Q) : P ∧ Q := ⟨h, g⟩
theorem le_no {a b : Int} {P Q : Prop} (h : b < a) (g : Q) : bif ile a b then P else Q := by
  rw [ile_eq, decide_eq_false (by omega), cond_false]; exact g
theorem lt_no {a b : Int} {P Q : Prop} (h : b ≤ a) (g : Q) : bif ilt a b then P else Q := by
  rw [ilt_eq, decide_eq_false (by omega), cond_false]; exact g
theorem lt_yes {a b : Int} {P Q : Prop} (h : a < b) (g : P) : bif ilt a b then P else Q := by
  rw [ilt_eq, decide_eq_true h, cond_true]; exact g
theorem eq_yes {a b : Int} {P Q : Prop} (h : a = b) (g : P) : bif ieq a b then P else Q := by
  rw [ieq_eq, h, beq_self_eq_true, cond_true]; exact g
theorem good_yes {n c k : Int} {P Q : Prop} (h : Good n c k) (g : P) : bif bif bif bif bif bif ile 1 n then ile n 8 else false then ile 1 c else false then ile c 200 else false then ile 0 k else false then ile k 50 else false then P else Q := by
  rw [good_iff, goodB_of h, cond_true]; exact g

def gn (N : Int) : Int := W (1 + Int.tmod (W N) 7)
def gc (N : Int) : Int := W (1 + Int.tmod (W N) 199)
def gk (N : Int) : Int := Int.tmod (W N) 50
set_option maxHeartbeats 4000000 in
theorem grows_ok (N C K : Int) (hN : 0 ≤ N ∧ N ≤ 255) (hC : 0 ≤ C ∧ C ≤ 255) (hK : 0 ≤ K ∧ K ≤ 255) : CallOk E5.I Try.prog 4 [.int .u8 N, .int .u8 C, .int .u8 K] ([] : Heap Unit) (fun v _ => v = .bool true) := by
  refine callOk_of (E := E5) Try.checked.mixed (L := fun f _ => if f = 4 then some (.rounds 4) else none) (n := 3) (of_nf (q := (7 : Int) ≠ (0 : Int) ∧ (199 : Int) ≠ (0 : Int) ∧ 50 ≠ (0 : Int) ∧ bif bif bif bif bif bif ile 1 (gn N) then ile (gn N) 8 else false then ile 1 (gc C) else false then ile (gc C) 200 else false then ile 0 (gk K) else false then ile (gk K) 50 else false then ((0 : Int) ≤ (0 : Int) ∧ (0 : Int) < ↑(3 : Nat)) ∧ ((0 : Int) ≤ (0 : Int) ∧ (0 : Int) < ↑(3 : Nat)) ∧ ((0 : Int) ≤ (1 : Int) ∧ (1 : Int) < ↑(3 : Nat)) ∧ ((0 : Int) ≤ (2 : Int) ∧ (2 : Int) < ↑(3 : Nat)) ∧ bif bif bif bif bif bif ile 1 (W (gn N + 1)) then ile (W (gn N + 1)) 8 else false then ile 1 (W (gc C + 0)) else false then ile (W (gc C + 0)) 200 else false then ile 0 (W (gk K + 0)) else false then ile (W (gk K + 0)) 50 else false then (1 ≤ W (gn N + 1) ∧ W (gn N + 1) ≤ 8 ∧ 1 ≤ W (gc C + 0) ∧ W (gc C + 0) ≤ 200 ∧ 0 ≤ W (gk K + 0) ∧ W (gk K + 0) ≤ 50) ∧ (1 ≤ gn N ∧ gn N ≤ 8 ∧ 1 ≤ gc C ∧ gc C ≤ 200 ∧ 0 ≤ gk K ∧ gk K ≤ 50) ∧ bif ile (2 * hlp (W (gn N + 1)) (W (gc C + 0)) (clamp (3 * W (gn N + 1) * W (gn N + 1) + W (gc C + 0) + 2)) (clamp (W (gn N + 1) * W (gn N + 1) + W (gn N + 1))) + own (W (gn N + 1)) (W (gc C + 0)) (W (gk K + 0))) (2 * hlp (gn N) (gc C) (clamp (3 * gn N * gn N + gc C + 2)) (clamp (gn N * gn N + gn N)) + own (gn N) (gc C) (gk K)) then AVal.bool false = AVal.bool true else (1 ≤ W (gn N + 1) ∧ W (gn N + 1) ≤ 8 ∧ 1 ≤ W (gc C + 0) ∧ W (gc C + 0) ≤ 200 ∧ 0 ≤ W (gk K + 0) ∧ W (gk K + 0) ≤ 50) ∧ (1 ≤ gn N ∧ gn N ≤ 8 ∧ 1 ≤ gc C ∧ gc C ≤ 200 ∧ 0 ≤ gk K ∧ gk K ≤ 50) ∧ bif ile (2 * hlp (W (gn N + 1)) (W (gc C + 0)) (clamp 1) (clamp (W (gn N + 1))) + own (W (gn N + 1)) (W (gc C + 0)) (W (gk K + 0))) (2 * hlp (gn N) (gc C) (clamp 1) (clamp (gn N)) + own (gn N) (gc C) (gk K)) then AVal.bool false = AVal.bool true else (1 ≤ W (gn N + 1) ∧ W (gn N + 1) ≤ 8 ∧ 1 ≤ W (gc C + 0) ∧ W (gc C + 0) ≤ 200 ∧ 0 ≤ W (gk K + 0) ∧ W (gk K + 0) ≤ 50) ∧ (1 ≤ gn N ∧ gn N ≤ 8 ∧ 1 ≤ gc C ∧ gc C ≤ 200 ∧ 0 ≤ gk K ∧ gk K ≤ 50) ∧ bif ilt ((W (gk K + 0) + 1) * (5 * W (gc C + 0) + 16)) ((gk K + 1) * (5 * gc C + 16)) then AVal.bool false = AVal.bool true else (1 ≤ W (gn N + 1) ∧ W (gn N + 1) ≤ 8 ∧ 1 ≤ W (gc C + 0) ∧ W (gc C + 0) ≤ 200 ∧ 0 ≤ W (gk K + 0) ∧ W (gk K + 0) ≤ 50) ∧ (1 ≤ gn N ∧ gn N ≤ 8 ∧ 1 ≤ gc C ∧ gc C ≤ 200 ∧ 0 ≤ gk K ∧ gk K ≤ 50) ∧ bif ilt (4 * W (gn N + 1) * W (gn N + 1) + 1) (4 * gn N * gn N + 1) then AVal.bool false = AVal.bool true else (1 ≤ W (gn N + 1) ∧ W (gn N + 1) ≤ 8 ∧ 1 ≤ W (gc C + 0) ∧ W (gc C + 0) ≤ 200 ∧ 0 ≤ W (gk K + 0) ∧ W (gk K + 0) ≤ 50) ∧ (1 ≤ gn N ∧ gn N ≤ 8 ∧ 1 ≤ gc C ∧ gc C ≤ 200 ∧ 0 ≤ gk K ∧ gk K ≤ 50) ∧ bif ilt (W (gn N + 1) - 1) (gn N - 1) then AVal.bool false = AVal.bool true else (1 ≤ W (gn N + 1) ∧ W (gn N + 1) ≤ 8 ∧ 1 ≤ W (gc C + 0) ∧ W (gc C + 0) ≤ 200 ∧ 0 ≤ W (gk K + 0) ∧ W (gk K + 0) ≤ 50) ∧ (1 ≤ gn N ∧ gn N ≤ 8 ∧ 1 ≤ gc C ∧ gc C ≤ 200 ∧ 0 ≤ gk K ∧ gk K ≤ 50) ∧ bif ilt (hlp (W (gn N + 1)) (W (gc C + 0)) (clamp 5) (clamp 5)) (hlp (gn N) (gc C) (clamp 5) (clamp 5)) then AVal.bool false = AVal.bool true else (0 ≤ W (0 + 1) ∧ W (0 + 1) < ↑3) ∧ ((0 : Int) ≤ (0 : Int) ∧ (0 : Int) < ↑(3 : Nat)) ∧ ((0 : Int) ≤ (1 : Int) ∧ (1 : Int) < ↑(3 : Nat)) ∧ ((0 : Int) ≤ (2 : Int) ∧ (2 : Int) < ↑(3 : Nat)) ∧ bif bif bif bif bif bif ile 1 (W (gn N + 0)) then ile (W (gn N + 0)) 8 else false then ile 1 (W (gc C + 1)) else false then ile (W (gc C + 1)) 200 else false then ile 0 (W (gk K + 0)) else false then ile (W (gk K + 0)) 50 else false then (1 ≤ W (gn N + 0) ∧ W (gn N + 0) ≤ 8 ∧ 1 ≤ W (gc C + 1) ∧ W (gc C + 1) ≤ 200 ∧ 0 ≤ W (gk K + 0) ∧ W (gk K + 0) ≤ 50) ∧ (1 ≤ gn N ∧ gn N ≤ 8 ∧ 1 ≤ gc C ∧ gc C ≤ 200 ∧ 0 ≤ gk K ∧ gk K ≤ 50) ∧ bif ile (2 * hlp (W (gn N + 0)) (W (gc C + 1)) (clamp (3 * W (gn N + 0) * W (gn N + 0) + W (gc C + 1) + 2)) (clamp (W (gn N + 0) * W (gn N + 0) + W (gn N + 0))) + own (W (gn N + 0)) (W (gc C + 1)) (W (gk K + 0))) (2 * hlp (gn N) (gc C) (clamp (3 * gn N * gn N + gc C + 2)) (clamp (gn N * gn N + gn N)) + own (gn N) (gc C) (gk K)) then AVal.bool false = AVal.bool true else (1 ≤ W (gn N + 0) ∧ W (gn N + 0) ≤ 8 ∧ 1 ≤ W (gc C + 1) ∧ W (gc C + 1) ≤ 200 ∧ 0 ≤ W (gk K + 0) ∧ W (gk K + 0) ≤ 50) ∧ (1 ≤ gn N ∧ gn N ≤ 8 ∧ 1 ≤ gc C ∧ gc C ≤ 200 ∧ 0 ≤ gk K ∧ gk K ≤ 50) ∧ bif ile (2 * hlp (W (gn N + 0)) (W (gc C + 1)) (clamp 1) (clamp (W (gn N + 0))) + own (W (gn N + 0)) (W (gc C + 1)) (W (gk K + 0))) (2 * hlp (gn N) (gc C) (clamp 1) (clamp (gn N)) + own (gn N) (gc C) (gk K)) then AVal.bool false = AVal.bool true else (1 ≤ W (gn N + 0) ∧ W (gn N + 0) ≤ 8 ∧ 1 ≤ W (gc C + 1) ∧ W (gc C + 1) ≤ 200 ∧ 0 ≤ W (gk K + 0) ∧ W (gk K + 0) ≤ 50) ∧ (1 ≤ gn N ∧ gn N ≤ 8 ∧ 1 ≤ gc C ∧ gc C ≤ 200 ∧ 0 ≤ gk K ∧ gk K ≤ 50) ∧ bif ilt ((W (gk K + 0) + 1) * (5 * W (gc C + 1) + 16)) ((gk K + 1) * (5 * gc C + 16)) then AVal.bool false = AVal.bool true else (1 ≤ W (gn N + 0) ∧ W (gn N + 0) ≤ 8 ∧ 1 ≤ W (gc C + 1) ∧ W (gc C + 1) ≤ 200 ∧ 0 ≤ W (gk K + 0) ∧ W (gk K + 0) ≤ 50) ∧ (1 ≤ gn N ∧ gn N ≤ 8 ∧ 1 ≤ gc C ∧ gc C ≤ 200 ∧ 0 ≤ gk K ∧ gk K ≤ 50) ∧ bif ilt (4 * W (gn N + 0) * W (gn N + 0) + 1) (4 * gn N * gn N + 1) then AVal.bool false = AVal.bool true else (1 ≤ W (gn N + 0) ∧ W (gn N + 0) ≤ 8 ∧ 1 ≤ W (gc C + 1) ∧ W (gc C + 1) ≤ 200 ∧ 0 ≤ W (gk K + 0) ∧ W (gk K + 0) ≤ 50) ∧ (1 ≤ gn N ∧ gn N ≤ 8 ∧ 1 ≤ gc C ∧ gc C ≤ 200 ∧ 0 ≤ gk K ∧ gk K ≤ 50) ∧ bif ilt (W (gn N + 0) - 1) (gn N - 1) then AVal.bool false = AVal.bool true else (1 ≤ W (gn N + 0) ∧ W (gn N + 0) ≤ 8 ∧ 1 ≤ W (gc C + 1) ∧ W (gc C + 1) ≤ 200 ∧ 0 ≤ W (gk K + 0) ∧ W (gk K + 0) ≤ 50) ∧ (1 ≤ gn N ∧ gn N ≤ 8 ∧ 1 ≤ gc C ∧ gc C ≤ 200 ∧ 0 ≤ gk K ∧ gk K ≤ 50) ∧ bif ilt (hlp (W (gn N + 0)) (W (gc C + 1)) (clamp 5) (clamp 5)) (hlp (gn N) (gc C) (clamp 5) (clamp 5)) then AVal.bool false = AVal.bool true else (0 ≤ W (W (0 + 1) + 1) ∧ W (W (0 + 1) + 1) < ↑3) ∧ ((0 : Int) ≤ (0 : Int) ∧ (0 : Int) < ↑(3 : Nat)) ∧ ((0 : Int) ≤ (1 : Int) ∧ (1 : Int) < ↑(3 : Nat)) ∧ ((0 : Int) ≤ (2 : Int) ∧ (2 : Int) < ↑(3 : Nat)) ∧ bif bif bif bif bif bif ile 1 (W (gn N + 0)) then ile (W (gn N + 0)) 8 else false then ile 1 (W (gc C + 0)) else false then ile (W (gc C + 0)) 200 else false then ile 0 (W (gk K + 1)) else false then ile (W (gk K + 1)) 50 else false then (1 ≤ W (gn N + 0) ∧ W (gn N + 0) ≤ 8 ∧ 1 ≤ W (gc C + 0) ∧ W (gc C + 0) ≤ 200 ∧ 0 ≤ W (gk K + 1) ∧ W (gk K + 1) ≤ 50) ∧ (1 ≤ gn N ∧ gn N ≤ 8 ∧ 1 ≤ gc C ∧ gc C ≤ 200 ∧ 0 ≤ gk K ∧ gk K ≤ 50) ∧ bif ile (2 * hlp (W (gn N + 0)) (W (gc C + 0)) (clamp (3 * W (gn N + 0) * W (gn N + 0) + W (gc C + 0) + 2)) (clamp (W (gn N + 0) * W (gn N + 0) + W (gn N + 0))) + own (W (gn N + 0)) (W (gc C + 0)) (W (gk K + 1))) (2 * hlp (gn N) (gc C) (clamp (3 * gn N * gn N + gc C + 2)) (clamp (gn N * gn N + gn N)) + own (gn N) (gc C) (gk K)) then AVal.bool false = AVal.bool true else (1 ≤ W (gn N + 0) ∧ W (gn N + 0) ≤ 8 ∧ 1 ≤ W (gc C + 0) ∧ W (gc C + 0) ≤ 200 ∧ 0 ≤ W (gk K + 1) ∧ W (gk K + 1) ≤ 50) ∧ (1 ≤ gn N ∧ gn N ≤ 8 ∧ 1 ≤ gc C ∧ gc C ≤ 200 ∧ 0 ≤ gk K ∧ gk K ≤ 50) ∧ bif ile (2 * hlp (W (gn N + 0)) (W (gc C + 0)) (clamp 1) (clamp (W (gn N + 0))) + own (W (gn N + 0)) (W (gc C + 0)) (W (gk K + 1))) (2 * hlp (gn N) (gc C) (clamp 1) (clamp (gn N)) + own (gn N) (gc C) (gk K)) then AVal.bool false = AVal.bool true else (1 ≤ W (gn N + 0) ∧ W (gn N + 0) ≤ 8 ∧ 1 ≤ W (gc C + 0) ∧ W (gc C + 0) ≤ 200 ∧ 0 ≤ W (gk K + 1) ∧ W (gk K + 1) ≤ 50) ∧ (1 ≤ gn N ∧ gn N ≤ 8 ∧ 1 ≤ gc C ∧ gc C ≤ 200 ∧ 0 ≤ gk K ∧ gk K ≤ 50) ∧ bif ilt ((W (gk K + 1) + 1) * (5 * W (gc C + 0) + 16)) ((gk K + 1) * (5 * gc C + 16)) then AVal.bool false = AVal.bool true else (1 ≤ W (gn N + 0) ∧ W (gn N + 0) ≤ 8 ∧ 1 ≤ W (gc C + 0) ∧ W (gc C + 0) ≤ 200 ∧ 0 ≤ W (gk K + 1) ∧ W (gk K + 1) ≤ 50) ∧ (1 ≤ gn N ∧ gn N ≤ 8 ∧ 1 ≤ gc C ∧ gc C ≤ 200 ∧ 0 ≤ gk K ∧ gk K ≤ 50) ∧ bif ilt (4 * W (gn N + 0) * W (gn N + 0) + 1) (4 * gn N * gn N + 1) then AVal.bool false = AVal.bool true else (1 ≤ W (gn N + 0) ∧ W (gn N + 0) ≤ 8 ∧ 1 ≤ W (gc C + 0) ∧ W (gc C + 0) ≤ 200 ∧ 0 ≤ W (gk K + 1) ∧ W (gk K + 1) ≤ 50) ∧ (1 ≤ gn N ∧ gn N ≤ 8 ∧ 1 ≤ gc C ∧ gc C ≤ 200 ∧ 0 ≤ gk K ∧ gk K ≤ 50) ∧ bif ilt (W (gn N + 0) - 1) (gn N - 1) then AVal.bool false = AVal.bool true else (1 ≤ W (gn N + 0) ∧ W (gn N + 0) ≤ 8 ∧ 1 ≤ W (gc C + 0) ∧ W (gc C + 0) ≤ 200 ∧ 0 ≤ W (gk K + 1) ∧ W (gk K + 1) ≤ 50) ∧ (1 ≤ gn N ∧ gn N ≤ 8 ∧ 1 ≤ gc C ∧ gc C ≤ 200 ∧ 0 ≤ gk K ∧ gk K ≤ 50) ∧ bif ilt (hlp (W (gn N + 0)) (W (gc C + 0)) (clamp 5) (clamp 5)) (hlp (gn N) (gc C) (clamp 5) (clamp 5)) then AVal.bool false = AVal.bool true else (1 ≤ gn N ∧ gn N ≤ 8 ∧ 1 ≤ gc C ∧ gc C ≤ 200 ∧ 0 ≤ gk K ∧ gk K ≤ 50) ∧ (1 ≤ gn N ∧ gn N ≤ 8 ∧ 1 ≤ gc C ∧ gc C ≤ 200 ∧ 0 ≤ gk K ∧ gk K ≤ 50) ∧ bif ilt (2 * hlp (gn N) (gc C) (clamp 1) (clamp (gn N)) + own (gn N) (gc C) (gk K)) (2 * hlp (gn N) (gc C) (clamp (3 * gn N * gn N + gc C + 2)) (clamp (gn N * gn N + gn N)) + own (gn N) (gc C) (gk K)) then (1 ≤ gn N ∧ gn N ≤ 8 ∧ 1 ≤ gc C ∧ gc C ≤ 200 ∧ 0 ≤ gk K ∧ gk K ≤ 50) ∧ (1 ≤ gn N ∧ gn N ≤ 8 ∧ 1 ≤ gc C ∧ gc C ≤ 200 ∧ 0 ≤ gk K ∧ gk K ≤ 50) ∧ bif ilt (hlp (gn N) (gc C) (clamp 4) (clamp 3)) (hlp (gn N) (gc C) (clamp 5) (clamp 3)) then (1 ≤ gn N ∧ gn N ≤ 8 ∧ 1 ≤ gc C ∧ gc C ≤ 200 ∧ 0 ≤ gk K ∧ gk K ≤ 50) ∧ (1 ≤ gn N ∧ gn N ≤ 8 ∧ 1 ≤ gc C ∧ gc C ≤ 200 ∧ 0 ≤ gk K ∧ gk K ≤ 50) ∧ bif ilt (hlp (gn N) (gc C) (clamp 4) (clamp 3)) (hlp (gn N) (gc C) (clamp 4) (clamp 4)) then (1 ≤ gn N ∧ gn N ≤ 8 ∧ 1 ≤ gc C ∧ gc C ≤ 200 ∧ 0 ≤ gk K ∧ gk K ≤ 50) ∧ (1 ≤ gn N ∧ gn N ≤ 8 ∧ 1 ≤ gc C ∧ gc C ≤ 200 ∧ 0 ≤ gk K ∧ gk K ≤ 50) ∧ bif ieq (hlp (gn N) (gc C) (clamp (-1 : Int)) (clamp (-1 : Int))) (hlp (gn N) (gc C) (clamp 0) (clamp 0)) then (1 ≤ gn N ∧ gn N ≤ 8 ∧ 1 ≤ gc C ∧ gc C ≤ 200 ∧ 0 ≤ gk K ∧ gk K ≤ 50) ∧ (1 ≤ gn N ∧ gn N ≤ 8 ∧ 1 ≤ gc C ∧ gc C ≤ 200 ∧ 0 ≤ gk K ∧ gk K ≤ 50) ∧ AVal.bool (ilt (own (gn N) (gc C) (gk K)) (2 * hlp (gn N) (gc C) (clamp 1) (clamp (gn N)) + own (gn N) (gc C) (gk K))) = AVal.bool true else AVal.bool false = AVal.bool true else AVal.bool false = AVal.bool true else AVal.bool false = AVal.bool true else AVal.bool false = AVal.bool true else AVal.bool false = AVal.bool true else AVal.bool false = AVal.bool true else AVal.bool false = AVal.bool true else AVal.bool false = AVal.bool true) (by kernel_rfl) ?_)
  have t1 := tmod_in (x := N) (m := 7) hN.1 (by omega)
  have t2 := tmod_in (x := C) (m := 199) hC.1 (by omega)
  have t3 := tmod_in (x := K) (m := 50) hK.1 (by omega)
  have w1 : IntKind.wrap .i64 N = N := W_in (by omega)
  have w2 : IntKind.wrap .i64 C = C := W_in (by omega)
  have w3 : IntKind.wrap .i64 K = K := W_in (by omega)
  have hn : 1 ≤ gn N ∧ gn N ≤ 7 := by unfold gn; simp only [W, w1]; rw [W_in (by omega)]; omega
  have hc : 1 ≤ gc C ∧ gc C ≤ 199 := by unfold gc; simp only [W, w2]; rw [W_in (by omega)]; omega
  have hk : 0 ≤ gk K ∧ gk K ≤ 49 := by unfold gk; simp only [W, w3]; omega
  clear t1 t2 t3 w1 w2 w3
  generalize gn N = n at *
  generalize gc C = c at *
  generalize gk K = k at *
  clear hN hC hK N C K
  have v0 : IntKind.wrap .i64 (0 + 1) = 1 := by decide +kernel
  have v1 : IntKind.wrap .i64 (1 + 1) = 2 := by decide +kernel
  have u1 : IntKind.wrap .i64 (n + 1) = n + 1 := W_in (by omega)
  have u2 : IntKind.wrap .i64 (c + 1) = c + 1 := W_in (by omega)
  have u3 : IntKind.wrap .i64 (k + 1) = k + 1 := W_in (by omega)
  have u4 : IntKind.wrap .i64 n = n := W_in (by omega)
  have u5 : IntKind.wrap .i64 c = c := W_in (by omega)
  have u6 : IntKind.wrap .i64 k = k := W_in (by omega)
  have c0 : clamp (-1) = 0 := by rw [clamp_eq]; rfl
  have c00 : clamp 0 = 0 := clamp_id (by omega)
  have c1 : clamp 1 = 1 := clamp_id (by omega)
  have c3 : clamp 3 = 3 := clamp_id (by omega)
  have c4 : clamp 4 = 4 := clamp_id (by omega)
  have c5 : clamp 5 = 5 := clamp_id (by omega)
  have cn : clamp n = n := clamp_id (by omega)
  have cn1 : clamp (n + 1) = n + 1 := clamp_id (by omega)
  have m1 := mul_le (a := n) (b := n) (A := 7) (B := 7) (by omega) (by omega) (by omega) (by omega)
  have m2 := mul_le (a := n + 1) (b := n + 1) (A := 8) (B := 8) (by omega) (by omega) (by omega) (by omega)
  have e1 : 3 * n * n = 3 * (n * n) := Int.mul_assoc 3 n n
  have e2 : 3 * (n + 1) * (n + 1) = 3 * ((n + 1) * (n + 1)) := Int.mul_assoc 3 _ _
  have e3 : 4 * n * n = 4 * (n * n) := Int.mul_assoc 4 n n
  have e4 : 4 * (n + 1) * (n + 1) = 4 * ((n + 1) * (n + 1)) := Int.mul_assoc 4 _ _
  have d1 : clamp (3 * n * n + c + 2) = 3 * n * n + c + 2 := clamp_id (by omega)
  have d2 : clamp (3 * (n + 1) * (n + 1) + c + 2) = 3 * (n + 1) * (n + 1) + c + 2 := clamp_id (by omega)
  have d3 : clamp (3 * n * n + (c + 1) + 2) = 3 * n * n + (c + 1) + 2 := clamp_id (by omega)
  have d4 : clamp (n * n + n) = n * n + n := clamp_id (by omega)
  have d5 : clamp ((n + 1) * (n + 1) + (n + 1)) = (n + 1) * (n + 1) + (n + 1) := clamp_id (by omega)
  have f1 := op_lt (n := n) (c := c) (k := k) (n' := n + 1) (c' := c) (k' := k) (by omega) (by omega) (by omega) (by omega) (by omega) (by omega) (by omega)
  have f2 := op_lt (n := n) (c := c) (k := k) (n' := n) (c' := c + 1) (k' := k) (by omega) (by omega) (by omega) (by omega) (by omega) (by omega) (by omega)
  have f3 := op_lt (n := n) (c := c) (k := k) (n' := n) (c' := c) (k' := k + 1) (by omega) (by omega) (by omega) (by omega) (by omega) (by omega) (by omega)
  have g1 := alone_lt (n := n) (c := c) (k := k) (n' := n + 1) (c' := c) (k' := k) (by omega) (by omega) (by omega) (by omega) (by omega) (by omega) (by omega)
  have g2 := alone_lt (n := n) (c := c) (k := k) (n' := n) (c' := c + 1) (k' := k) (by omega) (by omega) (by omega) (by omega) (by omega) (by omega) (by omega)
  have g3 := alone_lt (n := n) (c := c) (k := k) (n' := n) (c' := c) (k' := k + 1) (by omega) (by omega) (by omega) (by omega) (by omega) (by omega) (by omega)
  have l1 := hlp_le (n := n) (c := c) (D := 5) (M := 5) (n' := n + 1) (c' := c) (D' := 5) (M' := 5) (by omega) (by omega) (by omega) (by omega) (by omega) (by omega) (by omega) (by omega)
  have l2 := hlp_le (n := n) (c := c) (D := 5) (M := 5) (n' := n) (c' := c + 1) (D' := 5) (M' := 5) (by omega) (by omega) (by omega) (by omega) (by omega) (by omega) (by omega) (by omega)
  have l3 := hlp_le (n := n) (c := c) (D := 4) (M := 3) (n' := n) (c' := c) (D' := 5) (M' := 3) (by omega) (by omega) (by omega) (by omega) (by omega) (by omega) (by omega) (by omega)
  have l4 := hlp_le (n := n) (c := c) (D := 4) (M := 3) (n' := n) (c' := c) (D' := 4) (M' := 4) (by omega) (by omega) (by omega) (by omega) (by omega) (by omega) (by omega) (by omega)
  have l5 := hlp_pos (n := n) (c := c) (D := 1) (M := n) (by omega) (by omega) (by omega) (by omega)
  have q0 := alone_op (n := n) (c := c) (k := k) (by omega) (by omega)
  have p1 : (k + 1) * (5 * c + 16) ≤ (k + 1) * (5 * (c + 1) + 16) := Int.mul_le_mul_of_nonneg_left (by omega) (by omega)
  have p2 : (k + 1) * (5 * c + 16) ≤ (k + 1 + 1) * (5 * c + 16) := Int.mul_le_mul_of_nonneg_right (by omega) (by omega)
  have p3 : n * n ≤ (n + 1) * (n + 1) := sq_le (by omega) (by omega)
  simp only [Int.add_zero, u1, u2, u3, u4, u5, u6, v0, v1, c0, c00, c1, c3, c4, c5, cn, cn1, d1, d2, d3, d4, d5]
  repeat' (first
    | exact rfl
    | (refine good_yes (by unfold Good; omega) ?_)
    | (refine le_no (by omega) ?_)
    | (refine lt_no (by omega) ?_)
    | (refine lt_yes (by omega) ?_)
    | (refine eq_yes (by omega) ?_)
    | (refine and_go (by first | omega | decide) ?_))
  rw [ilt_eq, decide_eq_true (by omega)]
end Go.Sh
