/- A word's numbers, and its bits, as the document has them. -/
import Derived.Test.YtjklokfpnbnndaaZM14
set_option linter.all false
set_option linter.unusedVariables false
set_option linter.unusedSectionVars false
namespace Go.Sh
open Go Go.Proofs
variable [Con]
theorem emod_in (x : Int) {b : Int} (h : 0 < b) : 0 ≤ x % b ∧ x % b < b := ⟨Int.emod_nonneg _ (by omega), Int.emod_lt_of_pos _ h⟩
theorem cutI_in {x a w : Int} : 0 ≤ cutI x a w ∧ cutI x a w < 2 ^ w.toNat := emod_in _ (two_pos _)
def unS : RSpec Unit := fun args h => match args, h with
  | [.int .u64 x], [] => some (0 ≤ x ∧ x ≤ 18446744073709551615, .agg [.int .i64 (cutI x 0 10), .int .i64 (cutI x 10 9), .bool (ieq (cutI x 19 1) 1), .int .i64 (cutI x 20 5), .int .i64 (cutI x 25 18)])
  | _, _ => none
theorem un_ok : Spec.ok E14.I Try.prog 77 unS.spec := by
  intro args h o ho K hK
  unfold RSpec.spec at ho
  split at ho
  case h_2 => cases ho
  rename_i p v hv
  unfold unS at hv
  split at hv
  case h_2 => cases hv
  rename_i x
  simp only [Option.some.injEq, Prod.mk.injEq] at hv
  obtain ⟨rfl, rfl⟩ := hv
  simp only [Option.some.injEq] at ho; subst ho
  obtain ⟨hx, hK⟩ := hK
  refine CallOk.trim (callOk_of (E := E14) Try.checked.mixed (L := LL) (n := 10) (of_nf (q := (8796093022208 : Int) ≠ (0 : Int) ∧ (1024 : Int) ≠ (0 : Int) ∧ (1024 : Int) ≠ (0 : Int) ∧ (512 : Int) ≠ (0 : Int) ∧ (524288 : Int) ≠ (0 : Int) ∧ (2 : Int) ≠ (0 : Int) ∧ (1048576 : Int) ≠ (0 : Int) ∧ (32 : Int) ≠ (0 : Int) ∧ (33554432 : Int) ≠ (0 : Int) ∧ K (AVal.agg [AVal.int .i64 (Int.tmod (W (Int.tmod x 8796093022208)) 1024), AVal.int .i64 (Int.tmod (W (Int.tdiv (W (Int.tmod x 8796093022208)) 1024)) 512), AVal.bool (ieq (Int.tmod (W (Int.tdiv (W (Int.tmod x 8796093022208)) 524288)) 2) 1), AVal.int .i64 (Int.tmod (W (Int.tdiv (W (Int.tmod x 8796093022208)) 1048576)) 32), AVal.int .i64 (W (Int.tdiv (W (Int.tmod x 8796093022208)) 33554432))]) []) (by kernel_rfl) ?_))
  have e0 : Int.tmod x 8796093022208 = x % 8796093022208 := Int.tmod_eq_emod_of_nonneg hx.1
  have e1 : W (Int.tmod x 8796093022208) = x % 8796093022208 := by rw [e0]; exact W_id (by omega)
  rw [e1]
  have t0 : Int.tmod (x % 8796093022208) 1024 = cutI x 0 10 := by
    rw [Int.tmod_eq_emod_of_nonneg (by omega)]; unfold cutI; show _ = x / 1 % 1024; omega
  have t1 : W (Int.tdiv (x % 8796093022208) 1024) = x % 8796093022208 / 1024 := by rw [Int.tdiv_eq_ediv_of_nonneg (by omega)]; exact W_id (by omega)
  have t2 : W (Int.tdiv (x % 8796093022208) 524288) = x % 8796093022208 / 524288 := by rw [Int.tdiv_eq_ediv_of_nonneg (by omega)]; exact W_id (by omega)
  have t3 : W (Int.tdiv (x % 8796093022208) 1048576) = x % 8796093022208 / 1048576 := by rw [Int.tdiv_eq_ediv_of_nonneg (by omega)]; exact W_id (by omega)
  have t4 : W (Int.tdiv (x % 8796093022208) 33554432) = cutI x 25 18 := by
    rw [Int.tdiv_eq_ediv_of_nonneg (by omega), W_id (by omega)]; unfold cutI; show _ = x / 33554432 % 262144; omega
  have s1 : Int.tmod (x % 8796093022208 / 1024) 512 = cutI x 10 9 := by
    rw [Int.tmod_eq_emod_of_nonneg (by omega)]; unfold cutI; show _ = x / 1024 % 512; omega
  have s2 : Int.tmod (x % 8796093022208 / 524288) 2 = cutI x 19 1 := by
    rw [Int.tmod_eq_emod_of_nonneg (by omega)]; unfold cutI; show _ = x / 524288 % 2; omega
  have s3 : Int.tmod (x % 8796093022208 / 1048576) 32 = cutI x 20 5 := by
    rw [Int.tmod_eq_emod_of_nonneg (by omega)]; unfold cutI; show _ = x / 1048576 % 32; omega
  rw [t0, t1, t2, t3, t4, s1, s2, s3]
  repeat refine ⟨by omega, ?_⟩
  exact hK
def reS : RSpec Unit := fun args h => match args, h with
  | [.agg [.int .i64 k, .int .i64 y, .bool m, .int .i64 c, .int .i64 v]], [] => some ((0 ≤ k ∧ k < 1024) ∧ (0 ≤ y ∧ y < 512) ∧ (0 ≤ c ∧ c < 32) ∧ (0 ≤ v ∧ v < 262144), .int .u64 (putV k y m c v))
  | _, _ => none
theorem re_ok : Spec.ok E14.I Try.prog 79 reS.spec := by
  intro args h o ho K hK
  unfold RSpec.spec at ho
  split at ho
  case h_2 => cases ho
  rename_i p vv hv
  unfold reS at hv
  split at hv
  case h_2 => cases hv
  rename_i k y m c v
  simp only [Option.some.injEq, Prod.mk.injEq] at hv
  obtain ⟨rfl, rfl⟩ := hv
  simp only [Option.some.injEq] at ho; subst ho
  obtain ⟨⟨hk, hy, hc, hv⟩, hK⟩ := hK
  have hK : K (.int .u64 (putV k y m c v)) [] := hK
  refine CallOk.trim (callOk_of (E := E14) Try.checked.mixed (L := LL) (n := 10) (of_nf (q := bif m then (1024 : Int) ≠ (0 : Int) ∧ (512 : Int) ≠ (0 : Int) ∧ (32 : Int) ≠ (0 : Int) ∧ (262144 : Int) ≠ (0 : Int) ∧ K (AVal.int .u64 (WU (W (W (W (W (Int.tmod k 1024 + W (Int.tmod y 512 * 1024)) + W (1 * 524288)) + W (Int.tmod c 32 * 1048576)) + W (Int.tmod v 262144 * 33554432))))) [] else (1024 : Int) ≠ (0 : Int) ∧ (512 : Int) ≠ (0 : Int) ∧ (32 : Int) ≠ (0 : Int) ∧ (262144 : Int) ≠ (0 : Int) ∧ K (AVal.int .u64 (WU (W (W (W (W (Int.tmod k 1024 + W (Int.tmod y 512 * 1024)) + W (0 * 524288)) + W (Int.tmod c 32 * 1048576)) + W (Int.tmod v 262144 * 33554432))))) []) (by kernel_rfl) ?_))
  have e1 : Int.tmod k 1024 = k := by rw [Int.tmod_eq_emod_of_nonneg (by omega)]; omega
  have e2 : Int.tmod y 512 = y := by rw [Int.tmod_eq_emod_of_nonneg (by omega)]; omega
  have e3 : Int.tmod c 32 = c := by rw [Int.tmod_eq_emod_of_nonneg (by omega)]; omega
  have e4 : Int.tmod v 262144 = v := by rw [Int.tmod_eq_emod_of_nonneg (by omega)]; omega
  rw [e1, e2, e3, e4]
  unfold putV at hK
  cases m
  all_goals
    simp (disch := omega) only [W, WU, W_in, WU_in, cond_true, cond_false, bitI] at hK ⊢
    repeat refine ⟨by omega, ?_⟩
    refine cast (congrArg (fun z => K (AVal.int .u64 z) []) ?_) hK
    omega
noncomputable def E15 := (E14.addR 77 unS un_ok).addR 79 reS re_ok
end Go.Sh
