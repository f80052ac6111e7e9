import Derived.Test.YtjklokfpnbnndaaZM0toMW
set_option linter.all false
/- Descriptors: told, and put. -/
namespace Go.Sh
open Go Go.Proofs
variable [Con]
/- OPQ -/
def pendB (s : Int) : Bool := ile 1 s && ile s 4
/- OPQ -/
def resC (d e : Int) : Int := bif ieq e 5 then (bif ieq d 1 then 4 else 0) else 5
/- OPQ -/
def resO (d e : Int) (m : Bool) : Bool := bif ieq e 5 then (bif ieq d 1 then false else m) else false
/- OPQ -/
def resX (d e f : Int) : Int := bif ieq e 5 then (bif ieq d 1 then 0 else f) else 0
/- OPQ -/
def dPutV (a b c d : Int) (m : Bool) (e f : Int) : Int := a + b * 4096 + c * 2097152 + d * 549755813888 + bitI m * 281474976710656 + e * 562949953421312 + f * 4503599627370496
/- OPQ -/
def dOk (a b c d e f : Int) : Bool := fitI a 12 && (fitI b 9 && (fitI c 18 && (fitI d 9 && (fitI e 3 && fitI f 10))))
theorem cut_raw {x a w : Int} (ha : 0 ≤ a ∧ a ≤ 63) (hw : 0 ≤ w ∧ w ≤ 62) : IntKind.wrap .i64 (IntKind.wrap .u64 ((BitVec.ofInt (IntKind.bits .u64) (Int.fdiv x (2 ^ min (Int.toNat a) (IntKind.bits .u64))) &&& BitVec.ofInt (IntKind.bits .u64) (IntKind.wrap .u64 (IntKind.wrap .u64 (1 * 2 ^ min (Int.toNat w) (IntKind.bits .u64)) - 1))).toNat : Int)) = cutI x a w := by
  have hb : IntKind.bits .u64 = 64 := rfl
  rw [hb]
  have h1 : min a.toNat 64 = a.toNat := by omega
  have h2 : min w.toNat 64 = w.toNat := by omega
  have h3 : (2 : Int) ^ w.toNat ≤ 4611686018427387904 := two_lt (n := 62) (by omega) (by decide)
  have h4 := two_pos w.toNat
  have h5 := two_pos a.toNat
  rw [h1, h2, Int.fdiv_eq_ediv_of_nonneg _ (by omega)]
  simp only [WU, W, Int.one_mul]
  rw [WU_in (x := 2 ^ w.toNat) (by omega), WU_in (x := 2 ^ w.toNat - 1) (by omega), and_mask _ (by omega)]
  have h6 := Int.emod_nonneg (x / 2 ^ a.toNat) (b := 2 ^ w.toNat) (by omega)
  have h7 := Int.emod_lt_of_pos (x / 2 ^ a.toNat) (b := 2 ^ w.toNat) (by omega)
  rw [WU_in (by omega), W_in (by omega)]
  rfl
def dgetS : RSpec Ob := fun args h => match args, h with
  | [.int .u64 x], [] => some (True, .agg [.int .i64 (cutI x 0 12), .int .i64 (cutI x 12 9), .int .i64 (cutI x 21 18), .int .i64 (cutI x 39 9), .bool (ieq (cutI x 48 1) 1), .int .i64 (cutI x 49 3), .int .i64 (cutI x 52 10)])
  | _, _ => none
set_option maxRecDepth 100000 in
theorem dget_ok : Spec.ok E16.I Try.prog 56 dgetS.spec := by
  intro args h o ho K hK
  unfold RSpec.spec at ho
  split at ho
  case h_2 => cases ho
  rename_i pp vv hv
  unfold dgetS at hv
  split at hv
  case h_2 => cases hv
  rename_i x
  simp only [Option.some.injEq, Prod.mk.injEq] at hv
  obtain ⟨rfl, rfl⟩ := hv
  simp only [Option.some.injEq] at ho; subst ho
  obtain ⟨hp, hK⟩ := hK
  have hK : K (.agg [.int .i64 (cutI x 0 12), .int .i64 (cutI x 12 9), .int .i64 (cutI x 21 18), .int .i64 (cutI x 39 9), .bool (ieq (cutI x 48 1) 1), .int .i64 (cutI x 49 3), .int .i64 (cutI x 52 10)]) [] := hK
  refine CallOk.trim (callOk_of (E := E16) Try.checked.mixed (L := LL) (n := 10) (of_nf (q := ((0 : Int) ≤ (0 : Int) ∧ (0 : Int) < (↑7 : Int)) ∧ ((0 : Int) ≤ (0 : Int) ∧ (0 : Int) < (↑1 : Int)) ∧ 1 + (1 : Nat) ≤ (4294967296 : Nat) ∧ ((0 : Int) ≤ W (0 + 1) ∧ W (0 + 1) < (↑7 : Int)) ∧ ((0 : Int) ≤ W (0 + 1) ∧ W (0 + 1) < (↑(1 + 1) : Int)) ∧ 1 + 1 + (1 : Nat) ≤ (4294967296 : Nat) ∧ ((0 : Int) ≤ W (W (0 + 1) + 1) ∧ W (W (0 + 1) + 1) < (↑7 : Int)) ∧ ((0 : Int) ≤ W (W (0 + 1) + 1) ∧ W (W (0 + 1) + 1) < (↑(1 + 1 + 1) : Int)) ∧ 1 + 1 + 1 + (1 : Nat) ≤ (4294967296 : Nat) ∧ ((0 : Int) ≤ W (W (W (0 + 1) + 1) + 1) ∧ W (W (W (0 + 1) + 1) + 1) < (↑7 : Int)) ∧ ((0 : Int) ≤ W (W (W (0 + 1) + 1) + 1) ∧ W (W (W (0 + 1) + 1) + 1) < (↑(1 + 1 + 1 + 1) : Int)) ∧ 1 + 1 + 1 + 1 + (1 : Nat) ≤ (4294967296 : Nat) ∧ ((0 : Int) ≤ W (W (W (W (0 + 1) + 1) + 1) + 1) ∧ W (W (W (W (0 + 1) + 1) + 1) + 1) < (↑7 : Int)) ∧ ((0 : Int) ≤ W (W (W (W (0 + 1) + 1) + 1) + 1) ∧ W (W (W (W (0 + 1) + 1) + 1) + 1) < (↑(1 + 1 + 1 + 1 + 1) : Int)) ∧ 1 + 1 + 1 + 1 + 1 + (1 : Nat) ≤ (4294967296 : Nat) ∧ ((0 : Int) ≤ W (W (W (W (W (0 + 1) + 1) + 1) + 1) + 1) ∧ W (W (W (W (W (0 + 1) + 1) + 1) + 1) + 1) < (↑7 : Int)) ∧ ((0 : Int) ≤ W (W (W (W (W (0 + 1) + 1) + 1) + 1) + 1) ∧ W (W (W (W (W (0 + 1) + 1) + 1) + 1) + 1) < (↑(1 + 1 + 1 + 1 + 1 + 1) : Int)) ∧ 1 + 1 + 1 + 1 + 1 + 1 + (1 : Nat) ≤ (4294967296 : Nat) ∧ ((0 : Int) ≤ W (W (W (W (W (W (0 + 1) + 1) + 1) + 1) + 1) + 1) ∧ W (W (W (W (W (W (0 + 1) + 1) + 1) + 1) + 1) + 1) < (↑7 : Int)) ∧ ((0 : Int) ≤ W (W (W (W (W (W (0 + 1) + 1) + 1) + 1) + 1) + 1) ∧ W (W (W (W (W (W (0 + 1) + 1) + 1) + 1) + 1) + 1) < (↑(1 + 1 + 1 + 1 + 1 + 1 + 1) : Int)) ∧ 1 + 1 + 1 + 1 + 1 + 1 + 1 + (1 : Nat) ≤ (4294967296 : Nat) ∧ ((0 : Int) ≤ (0 : Int) ∧ (0 : Int) < (↑(1 + 1 + 1 + 1 + 1 + 1 + 1 + 1) : Int)) ∧ (0 : Int) ≤ (0 : Int) ∧ ((0 : Int) ≤ (0 : Int) ∧ (0 : Int) < (↑7 : Int)) ∧ (0 : Int) ≤ (12 : Int) ∧ ((0 : Int) ≤ (0 : Int) ∧ (0 : Int) < (↑7 : Int)) ∧ ((0 : Int) ≤ W (0 + 1) ∧ W (0 + 1) < (↑(1 + 1 + 1 + 1 + 1 + 1 + 1 + 1) : Int)) ∧ (0 : Int) ≤ W (0 + 12) ∧ ((0 : Int) ≤ W (0 + 1) ∧ W (0 + 1) < (↑7 : Int)) ∧ (0 : Int) ≤ (9 : Int) ∧ ((0 : Int) ≤ W (0 + 1) ∧ W (0 + 1) < (↑7 : Int)) ∧ ((0 : Int) ≤ W (W (0 + 1) + 1) ∧ W (W (0 + 1) + 1) < (↑(1 + 1 + 1 + 1 + 1 + 1 + 1 + 1) : Int)) ∧ (0 : Int) ≤ W (W (0 + 12) + 9) ∧ ((0 : Int) ≤ W (W (0 + 1) + 1) ∧ W (W (0 + 1) + 1) < (↑7 : Int)) ∧ (0 : Int) ≤ (18 : Int) ∧ ((0 : Int) ≤ W (W (0 + 1) + 1) ∧ W (W (0 + 1) + 1) < (↑7 : Int)) ∧ ((0 : Int) ≤ W (W (W (0 + 1) + 1) + 1) ∧ W (W (W (0 + 1) + 1) + 1) < (↑(1 + 1 + 1 + 1 + 1 + 1 + 1 + 1) : Int)) ∧ (0 : Int) ≤ W (W (W (0 + 12) + 9) + 18) ∧ ((0 : Int) ≤ W (W (W (0 + 1) + 1) + 1) ∧ W (W (W (0 + 1) + 1) + 1) < (↑7 : Int)) ∧ (0 : Int) ≤ (9 : Int) ∧ ((0 : Int) ≤ W (W (W (0 + 1) + 1) + 1) ∧ W (W (W (0 + 1) + 1) + 1) < (↑7 : Int)) ∧ ((0 : Int) ≤ W (W (W (W (0 + 1) + 1) + 1) + 1) ∧ W (W (W (W (0 + 1) + 1) + 1) + 1) < (↑(1 + 1 + 1 + 1 + 1 + 1 + 1 + 1) : Int)) ∧ (0 : Int) ≤ W (W (W (W (0 + 12) + 9) + 18) + 9) ∧ ((0 : Int) ≤ W (W (W (W (0 + 1) + 1) + 1) + 1) ∧ W (W (W (W (0 + 1) + 1) + 1) + 1) < (↑7 : Int)) ∧ (0 : Int) ≤ (1 : Int) ∧ ((0 : Int) ≤ W (W (W (W (0 + 1) + 1) + 1) + 1) ∧ W (W (W (W (0 + 1) + 1) + 1) + 1) < (↑7 : Int)) ∧ ((0 : Int) ≤ W (W (W (W (W (0 + 1) + 1) + 1) + 1) + 1) ∧ W (W (W (W (W (0 + 1) + 1) + 1) + 1) + 1) < (↑(1 + 1 + 1 + 1 + 1 + 1 + 1 + 1) : Int)) ∧ (0 : Int) ≤ W (W (W (W (W (0 + 12) + 9) + 18) + 9) + 1) ∧ ((0 : Int) ≤ W (W (W (W (W (0 + 1) + 1) + 1) + 1) + 1) ∧ W (W (W (W (W (0 + 1) + 1) + 1) + 1) + 1) < (↑7 : Int)) ∧ (0 : Int) ≤ (3 : Int) ∧ ((0 : Int) ≤ W (W (W (W (W (0 + 1) + 1) + 1) + 1) + 1) ∧ W (W (W (W (W (0 + 1) + 1) + 1) + 1) + 1) < (↑7 : Int)) ∧ ((0 : Int) ≤ W (W (W (W (W (W (0 + 1) + 1) + 1) + 1) + 1) + 1) ∧ W (W (W (W (W (W (0 + 1) + 1) + 1) + 1) + 1) + 1) < (↑(1 + 1 + 1 + 1 + 1 + 1 + 1 + 1) : Int)) ∧ (0 : Int) ≤ W (W (W (W (W (W (0 + 12) + 9) + 18) + 9) + 1) + 3) ∧ ((0 : Int) ≤ W (W (W (W (W (W (0 + 1) + 1) + 1) + 1) + 1) + 1) ∧ W (W (W (W (W (W (0 + 1) + 1) + 1) + 1) + 1) + 1) < (↑7 : Int)) ∧ (0 : Int) ≤ (10 : Int) ∧ ((0 : Int) ≤ W (W (W (W (W (W (0 + 1) + 1) + 1) + 1) + 1) + 1) ∧ W (W (W (W (W (W (0 + 1) + 1) + 1) + 1) + 1) + 1) < (↑7 : Int)) ∧ ((0 : Int) ≤ (0 : Int) ∧ (0 : Int) < (↑7 : Int)) ∧ ((0 : Int) ≤ (1 : Int) ∧ (1 : Int) < (↑7 : Int)) ∧ ((0 : Int) ≤ (2 : Int) ∧ (2 : Int) < (↑7 : Int)) ∧ ((0 : Int) ≤ (3 : Int) ∧ (3 : Int) < (↑7 : Int)) ∧ ((0 : Int) ≤ (4 : Int) ∧ (4 : Int) < (↑7 : Int)) ∧ ((0 : Int) ≤ (5 : Int) ∧ (5 : Int) < (↑7 : Int)) ∧ ((0 : Int) ≤ (6 : Int) ∧ (6 : Int) < (↑7 : Int)) ∧ K (AVal.agg [AVal.int .i64 (W (WU (↑(BitVec.toNat (BitVec.ofInt (IntKind.bits .u64) (Int.fdiv x (2 ^ min (Int.toNat 0) (IntKind.bits .u64))) &&& BitVec.ofInt (IntKind.bits .u64) (WU (WU (1 * 2 ^ min (Int.toNat 12) (IntKind.bits .u64)) - 1)))) : Int))), AVal.int .i64 (W (WU (↑(BitVec.toNat (BitVec.ofInt (IntKind.bits .u64) (Int.fdiv x (2 ^ min (Int.toNat (W (0 + 12))) (IntKind.bits .u64))) &&& BitVec.ofInt (IntKind.bits .u64) (WU (WU (1 * 2 ^ min (Int.toNat 9) (IntKind.bits .u64)) - 1)))) : Int))), AVal.int .i64 (W (WU (↑(BitVec.toNat (BitVec.ofInt (IntKind.bits .u64) (Int.fdiv x (2 ^ min (Int.toNat (W (W (0 + 12) + 9))) (IntKind.bits .u64))) &&& BitVec.ofInt (IntKind.bits .u64) (WU (WU (1 * 2 ^ min (Int.toNat 18) (IntKind.bits .u64)) - 1)))) : Int))), AVal.int .i64 (W (WU (↑(BitVec.toNat (BitVec.ofInt (IntKind.bits .u64) (Int.fdiv x (2 ^ min (Int.toNat (W (W (W (0 + 12) + 9) + 18))) (IntKind.bits .u64))) &&& BitVec.ofInt (IntKind.bits .u64) (WU (WU (1 * 2 ^ min (Int.toNat 9) (IntKind.bits .u64)) - 1)))) : Int))), AVal.bool (ieq (W (WU (↑(BitVec.toNat (BitVec.ofInt (IntKind.bits .u64) (Int.fdiv x (2 ^ min (Int.toNat (W (W (W (W (0 + 12) + 9) + 18) + 9))) (IntKind.bits .u64))) &&& BitVec.ofInt (IntKind.bits .u64) (WU (WU (1 * 2 ^ min (Int.toNat 1) (IntKind.bits .u64)) - 1)))) : Int))) 1), AVal.int .i64 (W (WU (↑(BitVec.toNat (BitVec.ofInt (IntKind.bits .u64) (Int.fdiv x (2 ^ min (Int.toNat (W (W (W (W (W (0 + 12) + 9) + 18) + 9) + 1))) (IntKind.bits .u64))) &&& BitVec.ofInt (IntKind.bits .u64) (WU (WU (1 * 2 ^ min (Int.toNat 3) (IntKind.bits .u64)) - 1)))) : Int))), AVal.int .i64 (W (WU (↑(BitVec.toNat (BitVec.ofInt (IntKind.bits .u64) (Int.fdiv x (2 ^ min (Int.toNat (W (W (W (W (W (W (0 + 12) + 9) + 18) + 9) + 1) + 3))) (IntKind.bits .u64))) &&& BitVec.ofInt (IntKind.bits .u64) (WU (WU (1 * 2 ^ min (Int.toNat 10) (IntKind.bits .u64)) - 1)))) : Int)))]) []) (by kernel_rfl) ?_))
  simp (disch := omega) only [W, WU, W_in, Int.reduceAdd, Int.zero_add]
  simp (disch := omega) only [cut_raw]
  repeat refine ⟨by omega, ?_⟩
  exact hK
theorem lt_go {a b : Int} {X Y : Prop} (h1 : a < b → X) (h2 : b ≤ a → Y) : cond (ilt a b) X Y :=
  cond_go (fun e => h1 (by rw [ilt_eq, decide_eq_true_eq] at e; exact e)) (fun e => h2 (by rw [ilt_eq, decide_eq_false_iff_not] at e; omega))
theorem le_go {a b : Int} {X Y : Prop} (h1 : a ≤ b → X) (h2 : b < a → Y) : cond (ile a b) X Y :=
  cond_go (fun e => h1 (by rw [ile_eq, decide_eq_true_eq] at e; exact e)) (fun e => h2 (by rw [ile_eq, decide_eq_false_iff_not] at e; omega))
theorem eq_go {a b : Int} {X Y : Prop} (h1 : a = b → X) (h2 : a ≠ b → Y) : cond (ieq a b) X Y :=
  cond_go (fun e => h1 (by rw [ieq_eq] at e; simpa using e)) (fun e => h2 (by rw [ieq_eq] at e; simpa using e))
theorem dOk_true {a b c d e f : Int} : dOk a b c d e f = true ↔ (0 ≤ a ∧ a < 4096) ∧ (0 ≤ b ∧ b < 512) ∧ (0 ≤ c ∧ c < 262144) ∧ (0 ≤ d ∧ d < 512) ∧ (0 ≤ e ∧ e < 8) ∧ (0 ≤ f ∧ f < 1024) := by
  unfold dOk; simp only [Bool.and_eq_true, fitI_true]; rfl
def dputS : RSpec Ob := fun args h => match args, h with
  | [.agg [.int .i64 a, .int .i64 b, .int .i64 c, .int .i64 d, .bool m, .int .i64 e, .int .i64 f]], [] => some (True, .tup [.int .u64 (bif dOk a b c d e f then dPutV a b c d m e f else 0), .int .i64 (bif dOk a b c d e f then 0 else 2)])
  | _, _ => none
set_option maxRecDepth 100000 in
theorem dput_ok : Spec.ok E16.I Try.prog 53 dputS.spec := by
  intro args h o ho K hK
  unfold RSpec.spec at ho
  split at ho
  case h_2 => cases ho
  rename_i pp vv hv
  unfold dputS at hv
  split at hv
  case h_2 => cases hv
  rename_i a b c d m e f
  simp only [Option.some.injEq, Prod.mk.injEq] at hv
  obtain ⟨rfl, rfl⟩ := hv
  simp only [Option.some.injEq] at ho; subst ho
  obtain ⟨hp, hK⟩ := hK
  have hK : K (.tup [.int .u64 (bif dOk a b c d e f then dPutV a b c d m e f else 0), .int .i64 (bif dOk a b c d e f then 0 else 2)]) [] := hK
  refine CallOk.trim (callOk_of (E := E16) Try.checked.mixed (L := LL) (n := 10) (of_nf (q := ((0 : Int) ≤ (0 : Int) ∧ (0 : Int) < (↑7 : Int)) ∧ ((0 : Int) ≤ (0 : Int) ∧ (0 : Int) < (↑1 : Int)) ∧ 1 + (1 : Nat) ≤ (4294967296 : Nat) ∧ ((0 : Int) ≤ W (0 + 1) ∧ W (0 + 1) < (↑7 : Int)) ∧ ((0 : Int) ≤ W (0 + 1) ∧ W (0 + 1) < (↑(1 + 1) : Int)) ∧ 1 + 1 + (1 : Nat) ≤ (4294967296 : Nat) ∧ ((0 : Int) ≤ W (W (0 + 1) + 1) ∧ W (W (0 + 1) + 1) < (↑7 : Int)) ∧ ((0 : Int) ≤ W (W (0 + 1) + 1) ∧ W (W (0 + 1) + 1) < (↑(1 + 1 + 1) : Int)) ∧ 1 + 1 + 1 + (1 : Nat) ≤ (4294967296 : Nat) ∧ ((0 : Int) ≤ W (W (W (0 + 1) + 1) + 1) ∧ W (W (W (0 + 1) + 1) + 1) < (↑7 : Int)) ∧ ((0 : Int) ≤ W (W (W (0 + 1) + 1) + 1) ∧ W (W (W (0 + 1) + 1) + 1) < (↑(1 + 1 + 1 + 1) : Int)) ∧ 1 + 1 + 1 + 1 + (1 : Nat) ≤ (4294967296 : Nat) ∧ ((0 : Int) ≤ W (W (W (W (0 + 1) + 1) + 1) + 1) ∧ W (W (W (W (0 + 1) + 1) + 1) + 1) < (↑7 : Int)) ∧ ((0 : Int) ≤ W (W (W (W (0 + 1) + 1) + 1) + 1) ∧ W (W (W (W (0 + 1) + 1) + 1) + 1) < (↑(1 + 1 + 1 + 1 + 1) : Int)) ∧ 1 + 1 + 1 + 1 + 1 + (1 : Nat) ≤ (4294967296 : Nat) ∧ ((0 : Int) ≤ W (W (W (W (W (0 + 1) + 1) + 1) + 1) + 1) ∧ W (W (W (W (W (0 + 1) + 1) + 1) + 1) + 1) < (↑7 : Int)) ∧ ((0 : Int) ≤ W (W (W (W (W (0 + 1) + 1) + 1) + 1) + 1) ∧ W (W (W (W (W (0 + 1) + 1) + 1) + 1) + 1) < (↑(1 + 1 + 1 + 1 + 1 + 1) : Int)) ∧ 1 + 1 + 1 + 1 + 1 + 1 + (1 : Nat) ≤ (4294967296 : Nat) ∧ ((0 : Int) ≤ W (W (W (W (W (W (0 + 1) + 1) + 1) + 1) + 1) + 1) ∧ W (W (W (W (W (W (0 + 1) + 1) + 1) + 1) + 1) + 1) < (↑7 : Int)) ∧ ((0 : Int) ≤ W (W (W (W (W (W (0 + 1) + 1) + 1) + 1) + 1) + 1) ∧ W (W (W (W (W (W (0 + 1) + 1) + 1) + 1) + 1) + 1) < (↑(1 + 1 + 1 + 1 + 1 + 1 + 1) : Int)) ∧ 1 + 1 + 1 + 1 + 1 + 1 + 1 + (1 : Nat) ≤ (4294967296 : Nat) ∧ bif m then ((0 : Int) ≤ (0 : Int) ∧ (0 : Int) < (↑7 : Int)) ∧ bif ilt a 0 then K (AVal.tup [AVal.int .u64 0, AVal.int .i64 2]) [] else ((0 : Int) ≤ (0 : Int) ∧ (0 : Int) < (↑7 : Int)) ∧ (0 : Int) ≤ (12 : Int) ∧ bif ile (W (1 * 2 ^ min (Int.toNat 12) (IntKind.bits .i64))) a then K (AVal.tup [AVal.int .u64 0, AVal.int .i64 2]) [] else ((0 : Int) ≤ (0 : Int) ∧ (0 : Int) < (↑(1 + 1 + 1 + 1 + 1 + 1 + 1 + 1) : Int)) ∧ (0 : Int) ≤ (0 : Int) ∧ ((0 : Int) ≤ W (0 + 1) ∧ W (0 + 1) < (↑7 : Int)) ∧ bif ilt b 0 then K (AVal.tup [AVal.int .u64 0, AVal.int .i64 2]) [] else ((0 : Int) ≤ W (0 + 1) ∧ W (0 + 1) < (↑7 : Int)) ∧ (0 : Int) ≤ (9 : Int) ∧ bif ile (W (1 * 2 ^ min (Int.toNat 9) (IntKind.bits .i64))) b then K (AVal.tup [AVal.int .u64 0, AVal.int .i64 2]) [] else ((0 : Int) ≤ W (0 + 1) ∧ W (0 + 1) < (↑(1 + 1 + 1 + 1 + 1 + 1 + 1 + 1) : Int)) ∧ (0 : Int) ≤ W (0 + 12) ∧ ((0 : Int) ≤ W (W (0 + 1) + 1) ∧ W (W (0 + 1) + 1) < (↑7 : Int)) ∧ bif ilt c 0 then K (AVal.tup [AVal.int .u64 0, AVal.int .i64 2]) [] else ((0 : Int) ≤ W (W (0 + 1) + 1) ∧ W (W (0 + 1) + 1) < (↑7 : Int)) ∧ (0 : Int) ≤ (18 : Int) ∧ bif ile (W (1 * 2 ^ min (Int.toNat 18) (IntKind.bits .i64))) c then K (AVal.tup [AVal.int .u64 0, AVal.int .i64 2]) [] else ((0 : Int) ≤ W (W (0 + 1) + 1) ∧ W (W (0 + 1) + 1) < (↑(1 + 1 + 1 + 1 + 1 + 1 + 1 + 1) : Int)) ∧ (0 : Int) ≤ W (W (0 + 12) + 9) ∧ ((0 : Int) ≤ W (W (W (0 + 1) + 1) + 1) ∧ W (W (W (0 + 1) + 1) + 1) < (↑7 : Int)) ∧ bif ilt d 0 then K (AVal.tup [AVal.int .u64 0, AVal.int .i64 2]) [] else ((0 : Int) ≤ W (W (W (0 + 1) + 1) + 1) ∧ W (W (W (0 + 1) + 1) + 1) < (↑7 : Int)) ∧ (0 : Int) ≤ (9 : Int) ∧ bif ile (W (1 * 2 ^ min (Int.toNat 9) (IntKind.bits .i64))) d then K (AVal.tup [AVal.int .u64 0, AVal.int .i64 2]) [] else ((0 : Int) ≤ W (W (W (0 + 1) + 1) + 1) ∧ W (W (W (0 + 1) + 1) + 1) < (↑(1 + 1 + 1 + 1 + 1 + 1 + 1 + 1) : Int)) ∧ (0 : Int) ≤ W (W (W (0 + 12) + 9) + 18) ∧ ((0 : Int) ≤ W (W (W (W (0 + 1) + 1) + 1) + 1) ∧ W (W (W (W (0 + 1) + 1) + 1) + 1) < (↑7 : Int)) ∧ ((0 : Int) ≤ W (W (W (W (0 + 1) + 1) + 1) + 1) ∧ W (W (W (W (0 + 1) + 1) + 1) + 1) < (↑7 : Int)) ∧ (0 : Int) ≤ (1 : Int) ∧ ((0 : Int) ≤ W (W (W (W (0 + 1) + 1) + 1) + 1) ∧ W (W (W (W (0 + 1) + 1) + 1) + 1) < (↑(1 + 1 + 1 + 1 + 1 + 1 + 1 + 1) : Int)) ∧ (0 : Int) ≤ W (W (W (W (0 + 12) + 9) + 18) + 9) ∧ ((0 : Int) ≤ W (W (W (W (W (0 + 1) + 1) + 1) + 1) + 1) ∧ W (W (W (W (W (0 + 1) + 1) + 1) + 1) + 1) < (↑7 : Int)) ∧ bif ilt e 0 then K (AVal.tup [AVal.int .u64 0, AVal.int .i64 2]) [] else ((0 : Int) ≤ W (W (W (W (W (0 + 1) + 1) + 1) + 1) + 1) ∧ W (W (W (W (W (0 + 1) + 1) + 1) + 1) + 1) < (↑7 : Int)) ∧ (0 : Int) ≤ (3 : Int) ∧ bif ile (W (1 * 2 ^ min (Int.toNat 3) (IntKind.bits .i64))) e then K (AVal.tup [AVal.int .u64 0, AVal.int .i64 2]) [] else ((0 : Int) ≤ W (W (W (W (W (0 + 1) + 1) + 1) + 1) + 1) ∧ W (W (W (W (W (0 + 1) + 1) + 1) + 1) + 1) < (↑(1 + 1 + 1 + 1 + 1 + 1 + 1 + 1) : Int)) ∧ (0 : Int) ≤ W (W (W (W (W (0 + 12) + 9) + 18) + 9) + 1) ∧ ((0 : Int) ≤ W (W (W (W (W (W (0 + 1) + 1) + 1) + 1) + 1) + 1) ∧ W (W (W (W (W (W (0 + 1) + 1) + 1) + 1) + 1) + 1) < (↑7 : Int)) ∧ bif ilt f 0 then K (AVal.tup [AVal.int .u64 0, AVal.int .i64 2]) [] else ((0 : Int) ≤ W (W (W (W (W (W (0 + 1) + 1) + 1) + 1) + 1) + 1) ∧ W (W (W (W (W (W (0 + 1) + 1) + 1) + 1) + 1) + 1) < (↑7 : Int)) ∧ (0 : Int) ≤ (10 : Int) ∧ bif ile (W (1 * 2 ^ min (Int.toNat 10) (IntKind.bits .i64))) f then K (AVal.tup [AVal.int .u64 0, AVal.int .i64 2]) [] else ((0 : Int) ≤ W (W (W (W (W (W (0 + 1) + 1) + 1) + 1) + 1) + 1) ∧ W (W (W (W (W (W (0 + 1) + 1) + 1) + 1) + 1) + 1) < (↑(1 + 1 + 1 + 1 + 1 + 1 + 1 + 1) : Int)) ∧ (0 : Int) ≤ W (W (W (W (W (W (0 + 12) + 9) + 18) + 9) + 1) + 3) ∧ K (AVal.tup [AVal.int .u64 (WU (↑(BitVec.toNat (BitVec.ofInt (IntKind.bits .u64) (WU (↑(BitVec.toNat (BitVec.ofInt (IntKind.bits .u64) (WU (↑(BitVec.toNat (BitVec.ofInt (IntKind.bits .u64) (WU (↑(BitVec.toNat (BitVec.ofInt (IntKind.bits .u64) (WU (↑(BitVec.toNat (BitVec.ofInt (IntKind.bits .u64) (WU (↑(BitVec.toNat (BitVec.ofInt (IntKind.bits .u64) (WU (↑(BitVec.toNat (BitVec.ofInt (IntKind.bits .u64) 0 ||| BitVec.ofInt (IntKind.bits .u64) (WU (WU a * 2 ^ min (Int.toNat 0) (IntKind.bits .u64))))) : Int)) ||| BitVec.ofInt (IntKind.bits .u64) (WU (WU b * 2 ^ min (Int.toNat (W (0 + 12))) (IntKind.bits .u64))))) : Int)) ||| BitVec.ofInt (IntKind.bits .u64) (WU (WU c * 2 ^ min (Int.toNat (W (W (0 + 12) + 9))) (IntKind.bits .u64))))) : Int)) ||| BitVec.ofInt (IntKind.bits .u64) (WU (WU d * 2 ^ min (Int.toNat (W (W (W (0 + 12) + 9) + 18))) (IntKind.bits .u64))))) : Int)) ||| BitVec.ofInt (IntKind.bits .u64) (WU (WU 1 * 2 ^ min (Int.toNat (W (W (W (W (0 + 12) + 9) + 18) + 9))) (IntKind.bits .u64))))) : Int)) ||| BitVec.ofInt (IntKind.bits .u64) (WU (WU e * 2 ^ min (Int.toNat (W (W (W (W (W (0 + 12) + 9) + 18) + 9) + 1))) (IntKind.bits .u64))))) : Int)) ||| BitVec.ofInt (IntKind.bits .u64) (WU (WU f * 2 ^ min (Int.toNat (W (W (W (W (W (W (0 + 12) + 9) + 18) + 9) + 1) + 3))) (IntKind.bits .u64))))) : Int)), AVal.int .i64 0]) [] else ((0 : Int) ≤ (0 : Int) ∧ (0 : Int) < (↑7 : Int)) ∧ bif ilt a 0 then K (AVal.tup [AVal.int .u64 0, AVal.int .i64 2]) [] else ((0 : Int) ≤ (0 : Int) ∧ (0 : Int) < (↑7 : Int)) ∧ (0 : Int) ≤ (12 : Int) ∧ bif ile (W (1 * 2 ^ min (Int.toNat 12) (IntKind.bits .i64))) a then K (AVal.tup [AVal.int .u64 0, AVal.int .i64 2]) [] else ((0 : Int) ≤ (0 : Int) ∧ (0 : Int) < (↑(1 + 1 + 1 + 1 + 1 + 1 + 1 + 1) : Int)) ∧ (0 : Int) ≤ (0 : Int) ∧ ((0 : Int) ≤ W (0 + 1) ∧ W (0 + 1) < (↑7 : Int)) ∧ bif ilt b 0 then K (AVal.tup [AVal.int .u64 0, AVal.int .i64 2]) [] else ((0 : Int) ≤ W (0 + 1) ∧ W (0 + 1) < (↑7 : Int)) ∧ (0 : Int) ≤ (9 : Int) ∧ bif ile (W (1 * 2 ^ min (Int.toNat 9) (IntKind.bits .i64))) b then K (AVal.tup [AVal.int .u64 0, AVal.int .i64 2]) [] else ((0 : Int) ≤ W (0 + 1) ∧ W (0 + 1) < (↑(1 + 1 + 1 + 1 + 1 + 1 + 1 + 1) : Int)) ∧ (0 : Int) ≤ W (0 + 12) ∧ ((0 : Int) ≤ W (W (0 + 1) + 1) ∧ W (W (0 + 1) + 1) < (↑7 : Int)) ∧ bif ilt c 0 then K (AVal.tup [AVal.int .u64 0, AVal.int .i64 2]) [] else ((0 : Int) ≤ W (W (0 + 1) + 1) ∧ W (W (0 + 1) + 1) < (↑7 : Int)) ∧ (0 : Int) ≤ (18 : Int) ∧ bif ile (W (1 * 2 ^ min (Int.toNat 18) (IntKind.bits .i64))) c then K (AVal.tup [AVal.int .u64 0, AVal.int .i64 2]) [] else ((0 : Int) ≤ W (W (0 + 1) + 1) ∧ W (W (0 + 1) + 1) < (↑(1 + 1 + 1 + 1 + 1 + 1 + 1 + 1) : Int)) ∧ (0 : Int) ≤ W (W (0 + 12) + 9) ∧ ((0 : Int) ≤ W (W (W (0 + 1) + 1) + 1) ∧ W (W (W (0 + 1) + 1) + 1) < (↑7 : Int)) ∧ bif ilt d 0 then K (AVal.tup [AVal.int .u64 0, AVal.int .i64 2]) [] else ((0 : Int) ≤ W (W (W (0 + 1) + 1) + 1) ∧ W (W (W (0 + 1) + 1) + 1) < (↑7 : Int)) ∧ (0 : Int) ≤ (9 : Int) ∧ bif ile (W (1 * 2 ^ min (Int.toNat 9) (IntKind.bits .i64))) d then K (AVal.tup [AVal.int .u64 0, AVal.int .i64 2]) [] else ((0 : Int) ≤ W (W (W (0 + 1) + 1) + 1) ∧ W (W (W (0 + 1) + 1) + 1) < (↑(1 + 1 + 1 + 1 + 1 + 1 + 1 + 1) : Int)) ∧ (0 : Int) ≤ W (W (W (0 + 12) + 9) + 18) ∧ ((0 : Int) ≤ W (W (W (W (0 + 1) + 1) + 1) + 1) ∧ W (W (W (W (0 + 1) + 1) + 1) + 1) < (↑7 : Int)) ∧ ((0 : Int) ≤ W (W (W (W (0 + 1) + 1) + 1) + 1) ∧ W (W (W (W (0 + 1) + 1) + 1) + 1) < (↑7 : Int)) ∧ (0 : Int) ≤ (1 : Int) ∧ ((0 : Int) ≤ W (W (W (W (0 + 1) + 1) + 1) + 1) ∧ W (W (W (W (0 + 1) + 1) + 1) + 1) < (↑(1 + 1 + 1 + 1 + 1 + 1 + 1 + 1) : Int)) ∧ (0 : Int) ≤ W (W (W (W (0 + 12) + 9) + 18) + 9) ∧ ((0 : Int) ≤ W (W (W (W (W (0 + 1) + 1) + 1) + 1) + 1) ∧ W (W (W (W (W (0 + 1) + 1) + 1) + 1) + 1) < (↑7 : Int)) ∧ bif ilt e 0 then K (AVal.tup [AVal.int .u64 0, AVal.int .i64 2]) [] else ((0 : Int) ≤ W (W (W (W (W (0 + 1) + 1) + 1) + 1) + 1) ∧ W (W (W (W (W (0 + 1) + 1) + 1) + 1) + 1) < (↑7 : Int)) ∧ (0 : Int) ≤ (3 : Int) ∧ bif ile (W (1 * 2 ^ min (Int.toNat 3) (IntKind.bits .i64))) e then K (AVal.tup [AVal.int .u64 0, AVal.int .i64 2]) [] else ((0 : Int) ≤ W (W (W (W (W (0 + 1) + 1) + 1) + 1) + 1) ∧ W (W (W (W (W (0 + 1) + 1) + 1) + 1) + 1) < (↑(1 + 1 + 1 + 1 + 1 + 1 + 1 + 1) : Int)) ∧ (0 : Int) ≤ W (W (W (W (W (0 + 12) + 9) + 18) + 9) + 1) ∧ ((0 : Int) ≤ W (W (W (W (W (W (0 + 1) + 1) + 1) + 1) + 1) + 1) ∧ W (W (W (W (W (W (0 + 1) + 1) + 1) + 1) + 1) + 1) < (↑7 : Int)) ∧ bif ilt f 0 then K (AVal.tup [AVal.int .u64 0, AVal.int .i64 2]) [] else ((0 : Int) ≤ W (W (W (W (W (W (0 + 1) + 1) + 1) + 1) + 1) + 1) ∧ W (W (W (W (W (W (0 + 1) + 1) + 1) + 1) + 1) + 1) < (↑7 : Int)) ∧ (0 : Int) ≤ (10 : Int) ∧ bif ile (W (1 * 2 ^ min (Int.toNat 10) (IntKind.bits .i64))) f then K (AVal.tup [AVal.int .u64 0, AVal.int .i64 2]) [] else ((0 : Int) ≤ W (W (W (W (W (W (0 + 1) + 1) + 1) + 1) + 1) + 1) ∧ W (W (W (W (W (W (0 + 1) + 1) + 1) + 1) + 1) + 1) < (↑(1 + 1 + 1 + 1 + 1 + 1 + 1 + 1) : Int)) ∧ (0 : Int) ≤ W (W (W (W (W (W (0 + 12) + 9) + 18) + 9) + 1) + 3) ∧ K (AVal.tup [AVal.int .u64 (WU (↑(BitVec.toNat (BitVec.ofInt (IntKind.bits .u64) (WU (↑(BitVec.toNat (BitVec.ofInt (IntKind.bits .u64) (WU (↑(BitVec.toNat (BitVec.ofInt (IntKind.bits .u64) (WU (↑(BitVec.toNat (BitVec.ofInt (IntKind.bits .u64) (WU (↑(BitVec.toNat (BitVec.ofInt (IntKind.bits .u64) (WU (↑(BitVec.toNat (BitVec.ofInt (IntKind.bits .u64) (WU (↑(BitVec.toNat (BitVec.ofInt (IntKind.bits .u64) 0 ||| BitVec.ofInt (IntKind.bits .u64) (WU (WU a * 2 ^ min (Int.toNat 0) (IntKind.bits .u64))))) : Int)) ||| BitVec.ofInt (IntKind.bits .u64) (WU (WU b * 2 ^ min (Int.toNat (W (0 + 12))) (IntKind.bits .u64))))) : Int)) ||| BitVec.ofInt (IntKind.bits .u64) (WU (WU c * 2 ^ min (Int.toNat (W (W (0 + 12) + 9))) (IntKind.bits .u64))))) : Int)) ||| BitVec.ofInt (IntKind.bits .u64) (WU (WU d * 2 ^ min (Int.toNat (W (W (W (0 + 12) + 9) + 18))) (IntKind.bits .u64))))) : Int)) ||| BitVec.ofInt (IntKind.bits .u64) (WU (WU 0 * 2 ^ min (Int.toNat (W (W (W (W (0 + 12) + 9) + 18) + 9))) (IntKind.bits .u64))))) : Int)) ||| BitVec.ofInt (IntKind.bits .u64) (WU (WU e * 2 ^ min (Int.toNat (W (W (W (W (W (0 + 12) + 9) + 18) + 9) + 1))) (IntKind.bits .u64))))) : Int)) ||| BitVec.ofInt (IntKind.bits .u64) (WU (WU f * 2 ^ min (Int.toNat (W (W (W (W (W (W (0 + 12) + 9) + 18) + 9) + 1) + 3))) (IntKind.bits .u64))))) : Int)), AVal.int .i64 0]) []) (by kernel_rfl) ?_))
  have no : dOk a b c d e f = false → K (.tup [.int .u64 0, .int .i64 2]) [] := by intro h; rw [h] at hK; exact hK
  have yes : dOk a b c d e f = true → K (.tup [.int .u64 (dPutV a b c d m e f), .int .i64 0]) [] := by intro h; rw [h] at hK; exact hK
  clear hK hp
  have w10 : W (1 * 2 ^ min (Int.toNat 10) (IntKind.bits .i64)) = 1024 := by decide
  have w12 : W (1 * 2 ^ min (Int.toNat 12) (IntKind.bits .i64)) = 4096 := by decide
  have w9 : W (1 * 2 ^ min (Int.toNat 9) (IntKind.bits .i64)) = 512 := by decide
  have w18 : W (1 * 2 ^ min (Int.toNat 18) (IntKind.bits .i64)) = 262144 := by decide
  have w3 : W (1 * 2 ^ min (Int.toNat 3) (IntKind.bits .i64)) = 8 := by decide
  rw [w10, w12, w9, w18, w3]
  simp (disch := omega) only [W, W_in, Int.reduceAdd, Int.zero_add, Int.reduceToNat]
  cases m
  · simp only [cond_true, cond_false]
    repeat' first
      | refine ⟨by omega, ?_⟩
      | refine lt_go (fun _ => ?_) (fun _ => ?_)
      | refine le_go (fun _ => ?_) (fun _ => ?_)
    all_goals first
      | exact no (by cases h : dOk a b c d e f with
                     | false => rfl
                     | true => have := dOk_true.1 h; omega)
      | skip
    have ok : dOk a b c d e f = true := dOk_true.2 (by omega)
    refine cast (congrArg (fun z => K (AVal.tup [.int .u64 z, .int .i64 0]) []) ?_) (yes ok)
    symm
    have hb : IntKind.bits .u64 = 64 := rfl
    rw [hb]
    clear yes no ok
    have q0 := or_sh (a := 0) (x := 0) (y := a) (p := 1) (q := 2 ^ min 0 64) (s := a) (by decide) (by omega) (by omega) (by omega) (by omega) (by decide)
    have q1 := or_sh (a := 12) (x := a) (y := b) (p := 4096) (q := 2 ^ min 12 64) (s := a + b * 4096) (by decide) (by omega) (by omega) (by omega) (by omega) (by decide)
    have q2 := or_sh (a := 21) (x := a + b * 4096) (y := c) (p := 2097152) (q := 2 ^ min 21 64) (s := a + b * 4096 + c * 2097152) (by decide) (by omega) (by omega) (by omega) (by omega) (by decide)
    have q3 := or_sh (a := 39) (x := a + b * 4096 + c * 2097152) (y := d) (p := 549755813888) (q := 2 ^ min 39 64) (s := a + b * 4096 + c * 2097152 + d * 549755813888) (by decide) (by omega) (by omega) (by omega) (by omega) (by decide)
    have q4 := or_sh (a := 48) (x := a + b * 4096 + c * 2097152 + d * 549755813888) (y := 0) (p := 281474976710656) (q := 2 ^ min 48 64) (s := a + b * 4096 + c * 2097152 + d * 549755813888 + 0 * 281474976710656) (by decide) (by omega) (by omega) (by omega) (by omega) (by decide)
    have q5 := or_sh (a := 49) (x := a + b * 4096 + c * 2097152 + d * 549755813888 + 0 * 281474976710656) (y := e) (p := 562949953421312) (q := 2 ^ min 49 64) (s := a + b * 4096 + c * 2097152 + d * 549755813888 + 0 * 281474976710656 + e * 562949953421312) (by decide) (by omega) (by omega) (by omega) (by omega) (by decide)
    have q6 := or_sh (a := 52) (x := a + b * 4096 + c * 2097152 + d * 549755813888 + 0 * 281474976710656 + e * 562949953421312) (y := f) (p := 4503599627370496) (q := 2 ^ min 52 64) (s := a + b * 4096 + c * 2097152 + d * 549755813888 + 0 * 281474976710656 + e * 562949953421312 + f * 4503599627370496) (by decide) (by omega) (by omega) (by omega) (by omega) (by decide)
    simp only [WU] at q0 q1 q2 q3 q4 q5 q6 ⊢
    rw [q0, q1, q2, q3, q4, q5, q6]
    unfold dPutV bitI
    rfl
  · simp only [cond_true, cond_false]
    repeat' first
      | refine ⟨by omega, ?_⟩
      | refine lt_go (fun _ => ?_) (fun _ => ?_)
      | refine le_go (fun _ => ?_) (fun _ => ?_)
    all_goals first
      | exact no (by cases h : dOk a b c d e f with
                     | false => rfl
                     | true => have := dOk_true.1 h; omega)
      | skip
    have ok : dOk a b c d e f = true := dOk_true.2 (by omega)
    refine cast (congrArg (fun z => K (AVal.tup [.int .u64 z, .int .i64 0]) []) ?_) (yes ok)
    symm
    have hb : IntKind.bits .u64 = 64 := rfl
    rw [hb]
    clear yes no ok
    have q0 := or_sh (a := 0) (x := 0) (y := a) (p := 1) (q := 2 ^ min 0 64) (s := a) (by decide) (by omega) (by omega) (by omega) (by omega) (by decide)
    have q1 := or_sh (a := 12) (x := a) (y := b) (p := 4096) (q := 2 ^ min 12 64) (s := a + b * 4096) (by decide) (by omega) (by omega) (by omega) (by omega) (by decide)
    have q2 := or_sh (a := 21) (x := a + b * 4096) (y := c) (p := 2097152) (q := 2 ^ min 21 64) (s := a + b * 4096 + c * 2097152) (by decide) (by omega) (by omega) (by omega) (by omega) (by decide)
    have q3 := or_sh (a := 39) (x := a + b * 4096 + c * 2097152) (y := d) (p := 549755813888) (q := 2 ^ min 39 64) (s := a + b * 4096 + c * 2097152 + d * 549755813888) (by decide) (by omega) (by omega) (by omega) (by omega) (by decide)
    have q4 := or_sh (a := 48) (x := a + b * 4096 + c * 2097152 + d * 549755813888) (y := 1) (p := 281474976710656) (q := 2 ^ min 48 64) (s := a + b * 4096 + c * 2097152 + d * 549755813888 + 1 * 281474976710656) (by decide) (by omega) (by omega) (by omega) (by omega) (by decide)
    have q5 := or_sh (a := 49) (x := a + b * 4096 + c * 2097152 + d * 549755813888 + 1 * 281474976710656) (y := e) (p := 562949953421312) (q := 2 ^ min 49 64) (s := a + b * 4096 + c * 2097152 + d * 549755813888 + 1 * 281474976710656 + e * 562949953421312) (by decide) (by omega) (by omega) (by omega) (by omega) (by decide)
    have q6 := or_sh (a := 52) (x := a + b * 4096 + c * 2097152 + d * 549755813888 + 1 * 281474976710656 + e * 562949953421312) (y := f) (p := 4503599627370496) (q := 2 ^ min 52 64) (s := a + b * 4096 + c * 2097152 + d * 549755813888 + 1 * 281474976710656 + e * 562949953421312 + f * 4503599627370496) (by decide) (by omega) (by omega) (by omega) (by omega) (by decide)
    simp only [WU] at q0 q1 q2 q3 q4 q5 q6 ⊢
    rw [q0, q1, q2, q3, q4, q5, q6]
    unfold dPutV bitI
    rfl
noncomputable def E20 := (E16.addR 56 dgetS dget_ok).addR 53 dputS dput_ok
end Go.Sh

/- Descriptors: the next attempt, what they tell. -/
namespace Go.Sh
open Go Go.Proofs
variable [Con]
/- OPQ -/
def attI (a : Int) : Int := (a + 1) % 4096
def next1S : RSpec Ob := fun args h => match args, h with
  | [.agg [.int .i64 a, .int .i64 b, .int .i64 c, .int .i64 d, .bool m, .int .i64 e, .int .i64 f]], [] => some (0 ≤ a ∧ a ≤ 1000000, .agg [.int .i64 (attI a), .int .i64 0, .int .i64 0, .int .i64 0, .bool false, .int .i64 1, .int .i64 0])
  | _, _ => none
theorem next1_ok : Spec.ok E20.I Try.prog 86 next1S.spec := by
  intro args h o ho K hK
  unfold RSpec.spec at ho
  split at ho
  case h_2 => cases ho
  rename_i pp vv hv
  unfold next1S at hv
  split at hv
  case h_2 => cases hv
  rename_i a b c d m e f
  simp only [Option.some.injEq, Prod.mk.injEq] at hv
  obtain ⟨rfl, rfl⟩ := hv
  simp only [Option.some.injEq] at ho; subst ho
  obtain ⟨hp, hK⟩ := hK
  have hK : K (.agg [.int .i64 (attI a), .int .i64 0, .int .i64 0, .int .i64 0, .bool false, .int .i64 1, .int .i64 0]) [] := hK
  refine CallOk.trim (callOk_of (E := E20) Try.checked.mixed (L := LL) (n := 10) (of_nf (q := K (AVal.agg [AVal.int .i64 (W (↑(BitVec.toNat (BitVec.ofInt (IntKind.bits .i64) (W (a + 1)) &&& BitVec.ofInt (IntKind.bits .i64) 4095)) : Int)), AVal.int .i64 0, AVal.int .i64 0, AVal.int .i64 0, AVal.bool false, AVal.int .i64 1, AVal.int .i64 0]) []) (by kernel_rfl) ?_))
  refine cast (congrArg (fun z => K (.agg [.int .i64 z, .int .i64 0, .int .i64 0, .int .i64 0, .bool false, .int .i64 1, .int .i64 0]) []) ?_) hK
  show attI a = _
  have hb : IntKind.bits .i64 = 64 := rfl
  simp only [W]
  rw [hb, W_in (x := a + 1) (by omega)]
  have := and_mask (n := 64) (w := 12) (a + 1) (by omega)
  have e : (2 : Int) ^ 12 - 1 = 4095 := by decide
  rw [e] at this
  rw [this]
  have e2 : (2 : Int) ^ 12 = 4096 := by decide
  rw [e2, W_in (by omega)]
  rfl
def pendDS : RSpec Ob := fun args h => match args, h with
  | [.agg [.int .i64 a, .int .i64 b, .int .i64 c, .int .i64 d, .bool m, .int .i64 e, .int .i64 f]], [] => some (True, .bool (pendB e))
  | _, _ => none
theorem pendD_ok : Spec.ok E8.I Try.prog 88 pendDS.spec := by
  intro args h o ho K hK
  unfold RSpec.spec at ho
  split at ho
  case h_2 => cases ho
  rename_i pp vv hv
  unfold pendDS at hv
  split at hv
  case h_2 => cases hv
  rename_i a b c d m e f
  simp only [Option.some.injEq, Prod.mk.injEq] at hv
  obtain ⟨rfl, rfl⟩ := hv
  simp only [Option.some.injEq] at ho; subst ho
  obtain ⟨hp, hK⟩ := hK
  have hK : K (.bool (pendB e)) [] := hK
  refine CallOk.trim (callOk_of (E := E8) Try.checked.mixed (L := LL) (n := 10) (of_nf (q := ((0 : Int) ≤ (0 : Int) ∧ (0 : Int) < (↑4 : Int)) ∧ bif ieq e 1 then K (AVal.bool true) [] else ((0 : Int) ≤ W (0 + 1) ∧ W (0 + 1) < (↑4 : Int)) ∧ bif ieq e 2 then K (AVal.bool true) [] else ((0 : Int) ≤ W (W (0 + 1) + 1) ∧ W (W (0 + 1) + 1) < (↑4 : Int)) ∧ bif ieq e 3 then K (AVal.bool true) [] else ((0 : Int) ≤ W (W (W (0 + 1) + 1) + 1) ∧ W (W (W (0 + 1) + 1) + 1) < (↑4 : Int)) ∧ bif ieq e 4 then K (AVal.bool true) [] else K (AVal.bool false) []) (by kernel_rfl) ?_))
  have hb : ∀ v : Bool, pendB e = v → K (.bool v) [] := by intro v h; rw [← h]; exact hK
  have yes : 1 ≤ e ∧ e ≤ 4 → pendB e = true := by intro h; unfold pendB; rw [ile_eq, ile_eq, decide_eq_true h.1, decide_eq_true h.2]; rfl
  have no : ¬ (1 ≤ e ∧ e ≤ 4) → pendB e = false := by
    intro h; unfold pendB; rw [ile_eq, ile_eq]
    by_cases h1 : 1 ≤ e
    · rw [decide_eq_true h1, decide_eq_false (by omega)]; rfl
    · rw [decide_eq_false h1]; rfl
  simp (disch := omega) only [W, W_in, Int.reduceAdd, Int.zero_add]
  repeat' first
    | refine ⟨by omega, ?_⟩
    | refine eq_go (fun _ => ?_) (fun _ => ?_)
  all_goals first
    | exact hb _ (yes (by omega))
    | exact hb _ (no (by omega))
def resDS : RSpec Ob := fun args h => match args, h with
  | [.agg [.int .i64 a, .int .i64 b, .int .i64 c, .int .i64 d, .bool m, .int .i64 e, .int .i64 f]], [] => some (True, .agg [.int .i64 (resC d e), .bool (resO d e m), .int .i64 (resX d e f)])
  | _, _ => none
theorem resD_ok : Spec.ok E20.I Try.prog 92 resDS.spec := by
  intro args h o ho K hK
  unfold RSpec.spec at ho
  split at ho
  case h_2 => cases ho
  rename_i pp vv hv
  unfold resDS at hv
  split at hv
  case h_2 => cases hv
  rename_i a b c d m e f
  simp only [Option.some.injEq, Prod.mk.injEq] at hv
  obtain ⟨rfl, rfl⟩ := hv
  simp only [Option.some.injEq] at ho; subst ho
  obtain ⟨hp, hK⟩ := hK
  have hK : K (.agg [.int .i64 (resC d e), .bool (resO d e m), .int .i64 (resX d e f)]) [] := hK
  refine CallOk.trim (callOk_of (E := E20) Try.checked.mixed (L := LL) (n := 10) (of_nf (q := bif !ieq e 5 then K (AVal.agg [AVal.int .i64 5, AVal.bool false, AVal.int .i64 0]) [] else bif ieq d 1 then K (AVal.agg [AVal.int .i64 4, AVal.bool false, AVal.int .i64 0]) [] else K (AVal.agg [AVal.int .i64 0, AVal.bool m, AVal.int .i64 f]) []) (by kernel_rfl) ?_))
  unfold resC resO resX at hK
  generalize ieq e 5 = b1 at hK ⊢
  generalize ieq d 1 = b2 at hK ⊢
  cases b1 <;> cases b2 <;> exact hK
def endedS : RSpec Ob := fun args h => match args, h with
  | [.agg [.int .i64 a, .int .i64 b, .int .i64 c, .int .i64 d, .bool m, .int .i64 e, .int .i64 f], .agg [.int .i64 g, .bool o, .int .i64 v]], [] => some (True, .agg [.int .i64 a, .int .i64 0, .int .i64 0, .int .i64 (bif ieq g 4 then 1 else 0), .bool o, .int .i64 5, .int .i64 v])
  | _, _ => none
theorem ended_ok : Spec.ok E20.I Try.prog 52 endedS.spec := by
  intro args h o ho K hK
  unfold RSpec.spec at ho
  split at ho
  case h_2 => cases ho
  rename_i pp vv hv
  unfold endedS at hv
  split at hv
  case h_2 => cases hv
  rename_i a b c d m e f g o v
  simp only [Option.some.injEq, Prod.mk.injEq] at hv
  obtain ⟨rfl, rfl⟩ := hv
  simp only [Option.some.injEq] at ho; subst ho
  obtain ⟨hp, hK⟩ := hK
  have hK : K (.agg [.int .i64 a, .int .i64 0, .int .i64 0, .int .i64 (bif ieq g 4 then 1 else 0), .bool o, .int .i64 5, .int .i64 v]) [] := hK
  refine CallOk.trim (callOk_of (E := E20) Try.checked.mixed (L := LL) (n := 10) (of_nf (q := bif ieq g 4 then K (AVal.agg [AVal.int .i64 a, AVal.int .i64 0, AVal.int .i64 0, AVal.int .i64 1, AVal.bool o, AVal.int .i64 5, AVal.int .i64 v]) [] else K (AVal.agg [AVal.int .i64 a, AVal.int .i64 0, AVal.int .i64 0, AVal.int .i64 0, AVal.bool o, AVal.int .i64 5, AVal.int .i64 v]) []) (by kernel_rfl) ?_))
  generalize ieq g 4 = b1 at hK ⊢
  cases b1 <;> exact hK
def undS : RSpec Ob := fun args h => match args, h with
  | [.int .u64 x], [] => some (0 ≤ x ∧ x ≤ 18446744073709551615, .agg [.int .i64 (cutI x 0 12), .int .i64 (cutI x 12 9), .int .i64 (cutI x 21 18), .int .i64 (cutI x 39 9), .bool (ieq (cutI x 48 1) 1), .int .i64 (cutI x 49 3), .int .i64 (cutI x 52 10)])
  | _, _ => none
theorem und_ok : Spec.ok E20.I Try.prog 48 undS.spec := by
  intro args h o ho K hK
  unfold RSpec.spec at ho
  split at ho
  case h_2 => cases ho
  rename_i pp vv hv
  unfold undS at hv
  split at hv
  case h_2 => cases hv
  rename_i x
  simp only [Option.some.injEq, Prod.mk.injEq] at hv
  obtain ⟨rfl, rfl⟩ := hv
  simp only [Option.some.injEq] at ho; subst ho
  obtain ⟨hp, hK⟩ := hK
  have hK : K (.agg [.int .i64 (cutI x 0 12), .int .i64 (cutI x 12 9), .int .i64 (cutI x 21 18), .int .i64 (cutI x 39 9), .bool (ieq (cutI x 48 1) 1), .int .i64 (cutI x 49 3), .int .i64 (cutI x 52 10)]) [] := hK
  refine CallOk.trim (callOk_of (E := E20) Try.checked.mixed (L := LL) (n := 10) (of_nf (q := (4611686018427387904 : Int) ≠ (0 : Int) ∧ (4096 : Int) ≠ (0 : Int) ∧ (4096 : Int) ≠ (0 : Int) ∧ (512 : Int) ≠ (0 : Int) ∧ (2097152 : Int) ≠ (0 : Int) ∧ (262144 : Int) ≠ (0 : Int) ∧ (549755813888 : Int) ≠ (0 : Int) ∧ (512 : Int) ≠ (0 : Int) ∧ (281474976710656 : Int) ≠ (0 : Int) ∧ (2 : Int) ≠ (0 : Int) ∧ (562949953421312 : Int) ≠ (0 : Int) ∧ (8 : Int) ≠ (0 : Int) ∧ (4503599627370496 : Int) ≠ (0 : Int) ∧ (1024 : Int) ≠ (0 : Int) ∧ K (AVal.agg [AVal.int .i64 (Int.tmod (W (Int.tmod x 4611686018427387904)) 4096), AVal.int .i64 (Int.tmod (W (Int.tdiv (W (Int.tmod x 4611686018427387904)) 4096)) 512), AVal.int .i64 (Int.tmod (W (Int.tdiv (W (Int.tmod x 4611686018427387904)) 2097152)) 262144), AVal.int .i64 (Int.tmod (W (Int.tdiv (W (Int.tmod x 4611686018427387904)) 549755813888)) 512), AVal.bool (ieq (Int.tmod (W (Int.tdiv (W (Int.tmod x 4611686018427387904)) 281474976710656)) 2) 1), AVal.int .i64 (Int.tmod (W (Int.tdiv (W (Int.tmod x 4611686018427387904)) 562949953421312)) 8), AVal.int .i64 (Int.tmod (W (Int.tdiv (W (Int.tmod x 4611686018427387904)) 4503599627370496)) 1024)]) []) (by kernel_rfl) ?_))
  have e0 : Int.tmod x 4611686018427387904 = x % 4611686018427387904 := Int.tmod_eq_emod_of_nonneg hp.1
  have e1 : W (Int.tmod x 4611686018427387904) = x % 4611686018427387904 := by rw [e0]; exact W_id (by omega)
  rw [e1]
  have t0 : Int.tmod (x % 4611686018427387904) 4096 = cutI x 0 12 := by
    rw [Int.tmod_eq_emod_of_nonneg (by omega)]; unfold cutI; show _ = x / 1 % 4096; omega
  have t1 : W (Int.tdiv (x % 4611686018427387904) 4096) = x % 4611686018427387904 / 4096 := by rw [Int.tdiv_eq_ediv_of_nonneg (by omega)]; exact W_id (by omega)
  have s1 : Int.tmod (x % 4611686018427387904 / 4096) 512 = cutI x 12 9 := by
    rw [Int.tmod_eq_emod_of_nonneg (by omega)]; unfold cutI; show _ = x / 4096 % 512; omega
  have t2 : W (Int.tdiv (x % 4611686018427387904) 2097152) = x % 4611686018427387904 / 2097152 := by rw [Int.tdiv_eq_ediv_of_nonneg (by omega)]; exact W_id (by omega)
  have s2 : Int.tmod (x % 4611686018427387904 / 2097152) 262144 = cutI x 21 18 := by
    rw [Int.tmod_eq_emod_of_nonneg (by omega)]; unfold cutI; show _ = x / 2097152 % 262144; omega
  have t3 : W (Int.tdiv (x % 4611686018427387904) 549755813888) = x % 4611686018427387904 / 549755813888 := by rw [Int.tdiv_eq_ediv_of_nonneg (by omega)]; exact W_id (by omega)
  have s3 : Int.tmod (x % 4611686018427387904 / 549755813888) 512 = cutI x 39 9 := by
    rw [Int.tmod_eq_emod_of_nonneg (by omega)]; unfold cutI; show _ = x / 549755813888 % 512; omega
  have t4 : W (Int.tdiv (x % 4611686018427387904) 281474976710656) = x % 4611686018427387904 / 281474976710656 := by rw [Int.tdiv_eq_ediv_of_nonneg (by omega)]; exact W_id (by omega)
  have s4 : Int.tmod (x % 4611686018427387904 / 281474976710656) 2 = cutI x 48 1 := by
    rw [Int.tmod_eq_emod_of_nonneg (by omega)]; unfold cutI; show _ = x / 281474976710656 % 2; omega
  have t5 : W (Int.tdiv (x % 4611686018427387904) 562949953421312) = x % 4611686018427387904 / 562949953421312 := by rw [Int.tdiv_eq_ediv_of_nonneg (by omega)]; exact W_id (by omega)
  have s5 : Int.tmod (x % 4611686018427387904 / 562949953421312) 8 = cutI x 49 3 := by
    rw [Int.tmod_eq_emod_of_nonneg (by omega)]; unfold cutI; show _ = x / 562949953421312 % 8; omega
  have t6 : W (Int.tdiv (x % 4611686018427387904) 4503599627370496) = x % 4611686018427387904 / 4503599627370496 := by rw [Int.tdiv_eq_ediv_of_nonneg (by omega)]; exact W_id (by omega)
  have s6 : Int.tmod (x % 4611686018427387904 / 4503599627370496) 1024 = cutI x 52 10 := by
    rw [Int.tmod_eq_emod_of_nonneg (by omega)]; unfold cutI; show _ = x / 4503599627370496 % 1024; omega
  rw [t0, t1, t2, t3, t4, t5, t6, s1, s2, s3, s4, s5, s6]
  repeat refine ⟨by omega, ?_⟩
  exact hK
def redS : RSpec Ob := fun args h => match args, h with
  | [.agg [.int .i64 a, .int .i64 b, .int .i64 c, .int .i64 d, .bool m, .int .i64 e, .int .i64 f]], [] => some ((0 ≤ a ∧ a ≤ 1000000) ∧ (0 ≤ b ∧ b ≤ 1000000) ∧ (0 ≤ c ∧ c ≤ 1000000) ∧ (0 ≤ d ∧ d ≤ 1000000) ∧ (0 ≤ e ∧ e ≤ 1000000) ∧ (0 ≤ f ∧ f ≤ 1000000), .int .u64 (dPutV (a % 4096) (b % 512) (c % 262144) (d % 512) m (e % 8) (f % 1024)))
  | _, _ => none
theorem red_ok : Spec.ok E20.I Try.prog 97 redS.spec := by
  intro args h o ho K hK
  unfold RSpec.spec at ho
  split at ho
  case h_2 => cases ho
  rename_i pp vv hv
  unfold redS at hv
  split at hv
  case h_2 => cases hv
  rename_i a b c d m e f
  simp only [Option.some.injEq, Prod.mk.injEq] at hv
  obtain ⟨rfl, rfl⟩ := hv
  simp only [Option.some.injEq] at ho; subst ho
  obtain ⟨hp, hK⟩ := hK
  have hK : K (.int .u64 (dPutV (a % 4096) (b % 512) (c % 262144) (d % 512) m (e % 8) (f % 1024))) [] := hK
  refine CallOk.trim (callOk_of (E := E20) Try.checked.mixed (L := LL) (n := 10) (of_nf (q := bif m then (1024 : Int) ≠ (0 : Int) ∧ (8 : Int) ≠ (0 : Int) ∧ (512 : Int) ≠ (0 : Int) ∧ (262144 : Int) ≠ (0 : Int) ∧ (512 : Int) ≠ (0 : Int) ∧ (4096 : Int) ≠ (0 : Int) ∧ K (AVal.int .u64 (WU (W (W (W (W (W (W (W (W (W (W (W (W (Int.tmod f 1024 * 8) + Int.tmod e 8) * 2) + 1) * 512) + Int.tmod d 512) * 262144) + Int.tmod c 262144) * 512) + Int.tmod b 512) * 4096) + Int.tmod a 4096)))) [] else (1024 : Int) ≠ (0 : Int) ∧ (8 : Int) ≠ (0 : Int) ∧ (512 : Int) ≠ (0 : Int) ∧ (262144 : Int) ≠ (0 : Int) ∧ (512 : Int) ≠ (0 : Int) ∧ (4096 : Int) ≠ (0 : Int) ∧ K (AVal.int .u64 (WU (W (W (W (W (W (W (W (W (W (W (W (W (Int.tmod f 1024 * 8) + Int.tmod e 8) * 2) + 0) * 512) + Int.tmod d 512) * 262144) + Int.tmod c 262144) * 512) + Int.tmod b 512) * 4096) + Int.tmod a 4096)))) []) (by kernel_rfl) ?_))
  obtain ⟨p1, p2, p3, p4, p5, p6⟩ := hp
  have m1 : Int.tmod a 4096 = a % 4096 := Int.tmod_eq_emod_of_nonneg p1.1
  have m2 : Int.tmod b 512 = b % 512 := Int.tmod_eq_emod_of_nonneg p2.1
  have m3 : Int.tmod c 262144 = c % 262144 := Int.tmod_eq_emod_of_nonneg p3.1
  have m4 : Int.tmod d 512 = d % 512 := Int.tmod_eq_emod_of_nonneg p4.1
  have m5 : Int.tmod e 8 = e % 8 := Int.tmod_eq_emod_of_nonneg p5.1
  have m6 : Int.tmod f 1024 = f % 1024 := Int.tmod_eq_emod_of_nonneg p6.1
  rw [m1, m2, m3, m4, m5, m6]
  unfold dPutV bitI at hK
  cases m
  all_goals
    simp only [cond_true, cond_false] at hK ⊢
    simp (disch := omega) only [W, WU, W_in, WU_in]
    repeat refine ⟨by omega, ?_⟩
    refine cast (congrArg (fun z => K (AVal.int .u64 z) []) ?_) hK
    omega
noncomputable def E21a := (((((E20.addR 86 next1S next1_ok).addR 88 pendDS pendD_ok).addR 92 resDS resD_ok).addR 52 endedS ended_ok).addR 48 undS und_ok).addR 97 redS red_ok
def pend14S : RSpec Ob := fun args h => match args, h with
  | [.int .u64 x], [] => some (0 ≤ x ∧ x ≤ 18446744073709551615, .bool (pendB (cutI x 49 3)))
  | _, _ => none
theorem pend14_ok : Spec.ok E21a.I Try.prog 59 pend14S.spec := by
  intro args h o ho K hK
  unfold RSpec.spec at ho
  split at ho
  case h_2 => cases ho
  rename_i pp vv hv
  unfold pend14S at hv
  split at hv
  case h_2 => cases hv
  rename_i x
  simp only [Option.some.injEq, Prod.mk.injEq] at hv
  obtain ⟨rfl, rfl⟩ := hv
  simp only [Option.some.injEq] at ho; subst ho
  obtain ⟨hp, hK⟩ := hK
  have hK : K (.bool (pendB (cutI x 49 3))) [] := hK
  refine CallOk.trim (callOk_of (E := E21a) Try.checked.mixed (L := LL) (n := 10) (of_nf (q := ((0 : Int) ≤ x ∧ x ≤ (18446744073709551615 : Int)) ∧ bif ile 1 (cutI x 49 3) then K (AVal.bool (ile (cutI x 49 3) 4)) [] else K (AVal.bool false) []) (by kernel_rfl) ?_))
  unfold pendB at hK
  refine ⟨hp, ?_⟩
  generalize ile 1 (cutI x 49 3) = b1 at hK ⊢
  generalize ile (cutI x 49 3) 4 = b2 at hK ⊢
  cases b1 <;> cases b2 <;> exact hK
def ans14S : RSpec Ob := fun args h => match args, h with
  | [.int .u64 x], [] => some (0 ≤ x ∧ x ≤ 18446744073709551615, .agg [.int .i64 (resC (cutI x 39 9) (cutI x 49 3)), .bool (resO (cutI x 39 9) (cutI x 49 3) (ieq (cutI x 48 1) 1)), .int .i64 (resX (cutI x 39 9) (cutI x 49 3) (cutI x 52 10))])
  | _, _ => none
theorem ans14_ok : Spec.ok E21a.I Try.prog 62 ans14S.spec := by
  intro args h o ho K hK
  unfold RSpec.spec at ho
  split at ho
  case h_2 => cases ho
  rename_i pp vv hv
  unfold ans14S at hv
  split at hv
  case h_2 => cases hv
  rename_i x
  simp only [Option.some.injEq, Prod.mk.injEq] at hv
  obtain ⟨rfl, rfl⟩ := hv
  simp only [Option.some.injEq] at ho; subst ho
  obtain ⟨hp, hK⟩ := hK
  have hK : K (.agg [.int .i64 (resC (cutI x 39 9) (cutI x 49 3)), .bool (resO (cutI x 39 9) (cutI x 49 3) (ieq (cutI x 48 1) 1)), .int .i64 (resX (cutI x 39 9) (cutI x 49 3) (cutI x 52 10))]) [] := hK
  refine CallOk.trim (callOk_of (E := E21a) Try.checked.mixed (L := LL) (n := 10) (of_nf (q := ((0 : Int) ≤ x ∧ x ≤ (18446744073709551615 : Int)) ∧ bif !ieq (cutI x 49 3) 5 then K (AVal.agg [AVal.int .i64 5, AVal.bool false, AVal.int .i64 0]) [] else bif ieq (cutI x 39 9) 1 then K (AVal.agg [AVal.int .i64 4, AVal.bool false, AVal.int .i64 0]) [] else K (AVal.agg [AVal.int .i64 0, AVal.bool (ieq (cutI x 48 1) 1), AVal.int .i64 (cutI x 52 10)]) []) (by kernel_rfl) ?_))
  unfold resC resO resX at hK
  refine ⟨hp, ?_⟩
  generalize ieq (cutI x 49 3) 5 = b1 at hK ⊢
  generalize ieq (cutI x 39 9) 1 = b2 at hK ⊢
  cases b1 <;> cases b2 <;> exact hK
noncomputable def E21 := (E21a.addR 59 pend14S pend14_ok).addR 62 ans14S ans14_ok
end Go.Sh

/- Tasks: told, and put; an announcement, begun; whether one is pending. -/
namespace Go.Sh
open Go Go.Proofs
variable [Con]
theorem rightT_iff {s k y : Int} : rightT s k y = true ↔ (((s = 1 ∨ s = 2) ∧ 1 ≤ k ∧ k ≤ 3) ∨ ((s = 3 ∨ s = 4) ∧ (k = 4 ∨ k = 5))) ∧ 0 ≤ y ∧ y ≤ 999 ∧ (k = 5 → y ≤ 0) := by
  have hm : (bif ieq k 5 then (0 : Int) else 999) = if k = 5 then 0 else 999 := by
    rw [ieq_eq]; by_cases h : k = 5
    · simp [h]
    · have h' : (k == 5) = false := by simpa using h
      rw [h', if_neg h]; rfl
  have hk : k ∈ kindsL s ↔ (((s = 1 ∨ s = 2) ∧ 1 ≤ k ∧ k ≤ 3) ∨ ((s = 3 ∨ s = 4) ∧ (k = 4 ∨ k = 5))) := by
    unfold kindsL
    rw [ieq_eq, ieq_eq, ieq_eq, ieq_eq]
    by_cases h1 : s = 1
    · subst h1; simp; omega
    by_cases h2 : s = 2
    · subst h2; simp; omega
    by_cases h3 : s = 3
    · subst h3; simp
    by_cases h4 : s = 4
    · subst h4; simp
    have g1 : (s == 1) = false := by simpa using h1
    have g2 : (s == 2) = false := by simpa using h2
    have g3 : (s == 3) = false := by simpa using h3
    have g4 : (s == 4) = false := by simpa using h4
    rw [g1, g2, g3, g4]
    simp [h1, h2, h3, h4]
  unfold rightT
  rw [Bool.and_eq_true, Bool.and_eq_true, hasB_true, hk, ile_eq, ile_eq, decide_eq_true_eq, decide_eq_true_eq, hm]
  by_cases h5 : k = 5
  · simp [h5]; omega
  · simp [h5]
/- OPQ -/
def tskV (s k y : Int) : Int := s + 8 * k + 64 * y
def tputS : RSpec Ob := fun args h => match args, h with
  | [.agg [.int .i64 s, .int .i64 k, .int .i64 y]], [] => some (True, .tup [.int .u64 (bif rightT s k y then tskV s k y else 0), .int .i64 (bif rightT s k y then 0 else 1)])
  | _, _ => none
theorem tput_ok : Spec.ok E21.I Try.prog 82 tputS.spec := by
  intro args h o ho K hK
  unfold RSpec.spec at ho
  split at ho
  case h_2 => cases ho
  rename_i pp vv hv
  unfold tputS at hv
  split at hv
  case h_2 => cases hv
  rename_i s k y
  simp only [Option.some.injEq, Prod.mk.injEq] at hv
  obtain ⟨rfl, rfl⟩ := hv
  simp only [Option.some.injEq] at ho; subst ho
  obtain ⟨hp, hK⟩ := hK
  have hK : K (.tup [.int .u64 (bif rightT s k y then tskV s k y else 0), .int .i64 (bif rightT s k y then 0 else 1)]) [] := hK
  refine CallOk.trim (callOk_of (E := E21) Try.checked.mixed (L := LL) (n := 10) (of_nf (q := True ∧ bif !rightT s k y then K (AVal.tup [AVal.int .u64 0, AVal.int .i64 1]) [] else (0 : Int) ≤ (3 : Int) ∧ (0 : Int) ≤ (6 : Int) ∧ K (AVal.tup [AVal.int .u64 (WU (W (↑(BitVec.toNat (BitVec.ofInt (IntKind.bits .i64) (W (↑(BitVec.toNat (BitVec.ofInt (IntKind.bits .i64) s ||| BitVec.ofInt (IntKind.bits .i64) (W (k * 2 ^ min (Int.toNat 3) (IntKind.bits .i64))))) : Int)) ||| BitVec.ofInt (IntKind.bits .i64) (W (y * 2 ^ min (Int.toNat 6) (IntKind.bits .i64))))) : Int))), AVal.int .i64 0]) []) (by kernel_rfl) ?_))
  refine ⟨trivial, cond_go (fun e => ?_) (fun e => ⟨by omega, by omega, ?_⟩)⟩
  · rw [not_tr e] at hK; exact hK
  · have e := not_fa e
    rw [e] at hK
    have h := rightT_iff.1 e
    refine cast (congrArg (fun z => K (.tup [.int .u64 z, .int .i64 0]) []) ?_) hK
    show tskV s k y = _
    have hb : IntKind.bits .i64 = 64 := rfl
    rw [hb]
    have p3 : (2 : Int) ^ min (Int.toNat 3) 64 = 2 ^ 3 := by decide
    have p6 : (2 : Int) ^ min (Int.toNat 6) 64 = 2 ^ 6 := by decide
    have v3 : (2 : Int) ^ 3 = 8 := by decide
    have v6 : (2 : Int) ^ 6 = 64 := by decide
    have v64 : (2 : Int) ^ 64 = 18446744073709551616 := by decide
    rw [p3, p6]
    have q1 := or_shift (n := 64) (a := 3) (x := s) (y := k) (by omega) (by omega) (by omega)
    have w1 : W (k * 2 ^ 3) = k * 2 ^ 3 := W_id (by omega)
    rw [w1, q1]
    have w2 : W (s + k * 2 ^ 3) = s + k * 2 ^ 3 := W_id (by omega)
    have w3 : W (y * 2 ^ 6) = y * 2 ^ 6 := W_id (by omega)
    have q2 := or_shift (n := 64) (a := 6) (x := s + k * 2 ^ 3) (y := y) (by omega) (by omega) (by omega)
    rw [w2, w3, q2]
    have w4 : W (s + k * 2 ^ 3 + y * 2 ^ 6) = s + k * 2 ^ 3 + y * 2 ^ 6 := W_id (by omega)
    have w5 : WU (s + k * 2 ^ 3 + y * 2 ^ 6) = s + k * 2 ^ 3 + y * 2 ^ 6 := WU_in (by omega)
    rw [w4, w5, v3, v6]
    unfold tskV
    omega
def tput14S : RSpec Ob := fun args h => match args, h with
  | [.agg [.int .i64 s, .int .i64 k, .int .i64 y]], [] => some ((0 ≤ s ∧ s ≤ 1000) ∧ (0 ≤ k ∧ k ≤ 1000) ∧ (0 ≤ y ∧ y ≤ 1000), .int .u64 (tskV s k y))
  | _, _ => none
theorem tput14_ok : Spec.ok E21.I Try.prog 93 tput14S.spec := by
  intro args h o ho K hK
  unfold RSpec.spec at ho
  split at ho
  case h_2 => cases ho
  rename_i pp vv hv
  unfold tput14S at hv
  split at hv
  case h_2 => cases hv
  rename_i s k y
  simp only [Option.some.injEq, Prod.mk.injEq] at hv
  obtain ⟨rfl, rfl⟩ := hv
  simp only [Option.some.injEq] at ho; subst ho
  obtain ⟨hp, hK⟩ := hK
  have hK : K (.int .u64 (tskV s k y)) [] := hK
  refine CallOk.trim (callOk_of (E := E21) Try.checked.mixed (L := LL) (n := 10) (of_nf (q := K (AVal.int .u64 (WU (W (W (s + W (8 * k)) + W (64 * y))))) []) (by kernel_rfl) ?_))
  unfold tskV at hK
  simp (disch := omega) only [W, WU, W_in, WU_in]
  exact hK
def mayS : RSpec Ob := fun args h => match args, h with
  | [.int .i64 s, .agg [.int .i64 k, .int .i64 y]], [] => some (True, .bool (rightT s k y))
  | _, _ => none
theorem may_ok : Spec.ok E21.I Try.prog 44 mayS.spec := by
  intro args h o ho K hK
  unfold RSpec.spec at ho
  split at ho
  case h_2 => cases ho
  rename_i pp vv hv
  unfold mayS at hv
  split at hv
  case h_2 => cases hv
  rename_i s k y
  simp only [Option.some.injEq, Prod.mk.injEq] at hv
  obtain ⟨rfl, rfl⟩ := hv
  simp only [Option.some.injEq] at ho; subst ho
  obtain ⟨hp, hK⟩ := hK
  have hK : K (.bool (rightT s k y)) [] := hK
  refine CallOk.trim (callOk_of (E := E21) Try.checked.mixed (L := LL) (n := 10) (of_nf (q := bif ilt y 0 then K (AVal.bool false) [] else bif ilt 999 y then K (AVal.bool false) [] else bif ieq s 1 then bif ile 1 k then K (AVal.bool (ile k 3)) [] else K (AVal.bool false) [] else bif ieq s 2 then bif ile 1 k then K (AVal.bool (ile k 3)) [] else K (AVal.bool false) [] else bif ieq s 3 then bif ieq k 4 then K (AVal.bool true) [] else bif ieq k 5 then K (AVal.bool (ieq y 0)) [] else K (AVal.bool false) [] else bif ieq s 4 then bif ieq k 4 then K (AVal.bool true) [] else bif ieq k 5 then K (AVal.bool (ieq y 0)) [] else K (AVal.bool false) [] else K (AVal.bool false) []) (by kernel_rfl) ?_))
  have hb : ∀ v : Bool, rightT s k y = v → K (.bool v) [] := by intro v h; rw [← h]; exact hK
  have yes := (rightT_iff (s := s) (k := k) (y := y)).2
  have no : ¬ ((((s = 1 ∨ s = 2) ∧ 1 ≤ k ∧ k ≤ 3) ∨ ((s = 3 ∨ s = 4) ∧ (k = 4 ∨ k = 5))) ∧ 0 ≤ y ∧ y ≤ 999 ∧ (k = 5 → y ≤ 0)) → rightT s k y = false := by
    intro h
    cases e : rightT s k y with
    | false => rfl
    | true => exact (h (rightT_iff.1 e)).elim
  have hle : ∀ a b : Int, K (.bool (ile a b)) [] ∨ ¬ K (.bool (ile a b)) [] := fun _ _ => Classical.em _
  repeat' first
    | refine lt_go (fun _ => ?_) (fun _ => ?_)
    | refine le_go (fun _ => ?_) (fun _ => ?_)
    | refine eq_go (fun _ => ?_) (fun _ => ?_)
  all_goals first
    | exact hb _ (no (by omega))
    | exact hb _ (yes (by omega))
    | (rw [ile_eq]; by_cases c : k ≤ 3
       · rw [decide_eq_true c]; exact hb _ (yes (by omega))
       · rw [decide_eq_false c]; exact hb _ (no (by omega)))
    | (rw [ieq_eq]; by_cases c : y = 0
       · subst c; exact hb _ (yes (by omega))
       · have c' : (y == 0) = false := by simpa using c
         rw [c']; exact hb _ (no (by omega)))
noncomputable def E22a := ((E21.addR 82 tputS tput_ok).addR 93 tput14S tput14_ok).addR 44 mayS may_ok
/- OPQ -/
def tgB (x : Int) : Bool := ilt x 65536 && rightT (cutI x 0 3) (cutI x 3 3) (cutI x 6 10)
theorem cut_two {z : Int} (w : Nat) (hw : w ≤ 61) {c : Int} (hc : c = 2 ^ w - 1) : IntKind.wrap .i64 (IntKind.wrap .u64 ((BitVec.ofInt 64 z &&& BitVec.ofInt 64 c).toNat : Int)) = z % 2 ^ w := by
  subst hc
  rw [and_mask _ (by omega)]
  have h4 := two_pos w
  have h3 : (2 : Int) ^ w ≤ 2305843009213693952 := two_lt (n := 61) hw (by decide)
  have h6 := Int.emod_nonneg z (b := 2 ^ w) (by omega)
  have h7 := Int.emod_lt_of_pos z (b := 2 ^ w) (by omega)
  rw [WU_in (by omega), W_in (by omega)]
def tgetS : RSpec Ob := fun args h => match args, h with
  | [.int .u64 x], [] => some (0 ≤ x ∧ x ≤ 18446744073709551615, .tup [.agg [.int .i64 (bif tgB x then cutI x 0 3 else 0), .int .i64 (bif tgB x then cutI x 3 3 else 0), .int .i64 (bif tgB x then cutI x 6 10 else 0)], .int .i64 (bif tgB x then 0 else 3)])
  | _, _ => none
theorem tget_ok : Spec.ok E22a.I Try.prog 99 tgetS.spec := by
  intro args h o ho K hK
  unfold RSpec.spec at ho
  split at ho
  case h_2 => cases ho
  rename_i pp vv hv
  unfold tgetS at hv
  split at hv
  case h_2 => cases hv
  rename_i x
  simp only [Option.some.injEq, Prod.mk.injEq] at hv
  obtain ⟨rfl, rfl⟩ := hv
  simp only [Option.some.injEq] at ho; subst ho
  obtain ⟨hp, hK⟩ := hK
  have hK : K (.tup [.agg [.int .i64 (bif tgB x then cutI x 0 3 else 0), .int .i64 (bif tgB x then cutI x 3 3 else 0), .int .i64 (bif tgB x then cutI x 6 10 else 0)], .int .i64 (bif tgB x then 0 else 3)]) [] := hK
  refine CallOk.trim (callOk_of (E := E22a) Try.checked.mixed (L := LL) (n := 10) (of_nf (q := (0 : Int) ≤ (3 : Int) ∧ (0 : Int) ≤ (6 : Int) ∧ (0 : Int) ≤ (16 : Int) ∧ bif !ieq (Int.fdiv x (2 ^ min (Int.toNat 16) (IntKind.bits .u64))) 0 then K (AVal.tup [AVal.agg [AVal.int .i64 0, AVal.int .i64 0, AVal.int .i64 0], AVal.int .i64 3]) [] else True ∧ bif !rightT (W (WU (↑(BitVec.toNat (BitVec.ofInt (IntKind.bits .u64) x &&& BitVec.ofInt (IntKind.bits .u64) 7)) : Int))) (W (WU (↑(BitVec.toNat (BitVec.ofInt (IntKind.bits .u64) (Int.fdiv x (2 ^ min (Int.toNat 3) (IntKind.bits .u64))) &&& BitVec.ofInt (IntKind.bits .u64) 7)) : Int))) (W (WU (↑(BitVec.toNat (BitVec.ofInt (IntKind.bits .u64) (Int.fdiv x (2 ^ min (Int.toNat 6) (IntKind.bits .u64))) &&& BitVec.ofInt (IntKind.bits .u64) 1023)) : Int))) then K (AVal.tup [AVal.agg [AVal.int .i64 0, AVal.int .i64 0, AVal.int .i64 0], AVal.int .i64 3]) [] else K (AVal.tup [AVal.agg [AVal.int .i64 (W (WU (↑(BitVec.toNat (BitVec.ofInt (IntKind.bits .u64) x &&& BitVec.ofInt (IntKind.bits .u64) 7)) : Int))), AVal.int .i64 (W (WU (↑(BitVec.toNat (BitVec.ofInt (IntKind.bits .u64) (Int.fdiv x (2 ^ min (Int.toNat 3) (IntKind.bits .u64))) &&& BitVec.ofInt (IntKind.bits .u64) 7)) : Int))), AVal.int .i64 (W (WU (↑(BitVec.toNat (BitVec.ofInt (IntKind.bits .u64) (Int.fdiv x (2 ^ min (Int.toNat 6) (IntKind.bits .u64))) &&& BitVec.ofInt (IntKind.bits .u64) 1023)) : Int)))], AVal.int .i64 0]) []) (by kernel_rfl) ?_))
  have hb : IntKind.bits .u64 = 64 := rfl
  have p3 : (2 : Int) ^ min (Int.toNat 3) 64 = 8 := by decide
  have p6 : (2 : Int) ^ min (Int.toNat 6) 64 = 64 := by decide
  have p16 : (2 : Int) ^ min (Int.toNat 16) 64 = 65536 := by decide
  have c0 : cutI x 0 3 = x % 2 ^ 3 := by unfold cutI; show x / 1 % 8 = x % 8; omega
  have c1 : cutI x 3 3 = Int.fdiv x 8 % 2 ^ 3 := by rw [Int.fdiv_eq_ediv_of_nonneg _ (by omega)]; rfl
  have c2 : cutI x 6 10 = Int.fdiv x 64 % 2 ^ 10 := by rw [Int.fdiv_eq_ediv_of_nonneg _ (by omega)]; rfl
  rw [hb, p3, p6, p16]
  simp only [W, WU]
  rw [cut_two (z := x) 3 (by omega) (c := 7) (by decide), cut_two (z := Int.fdiv x 8) 3 (by omega) (c := 7) (by decide), cut_two (z := Int.fdiv x 64) 10 (by omega) (c := 1023) (by decide), ← c0, ← c1, ← c2]
  unfold tgB at hK
  have e16 : ieq (Int.fdiv x 65536) 0 = ilt x 65536 := by
    rw [Int.fdiv_eq_ediv_of_nonneg _ (by omega), ieq_eq, ilt_eq]
    by_cases h : x < 65536
    · rw [decide_eq_true h]; simp; omega
    · rw [decide_eq_false h]; simp; omega
  rw [e16]
  generalize ilt x 65536 = b1 at hK ⊢
  generalize rightT (cutI x 0 3) (cutI x 3 3) (cutI x 6 10) = b2 at hK ⊢
  refine ⟨by omega, by omega, by omega, ?_⟩
  cases b1 <;> cases b2 <;> first | exact hK | exact ⟨trivial, hK⟩
def tget14S : RSpec Ob := fun args h => match args, h with
  | [.int .u64 x], [] => some (0 ≤ x ∧ x ≤ 18446744073709551615, .tup [.agg [.int .i64 (bif ilt x 65536 then cutI x 0 3 else 0), .int .i64 (bif ilt x 65536 then cutI x 3 3 else 0), .int .i64 (bif ilt x 65536 then cutI x 6 10 else 0)], .bool (tgB x)])
  | _, _ => none
theorem tget14_ok : Spec.ok E22a.I Try.prog 64 tget14S.spec := by
  intro args h o ho K hK
  unfold RSpec.spec at ho
  split at ho
  case h_2 => cases ho
  rename_i pp vv hv
  unfold tget14S at hv
  split at hv
  case h_2 => cases hv
  rename_i x
  simp only [Option.some.injEq, Prod.mk.injEq] at hv
  obtain ⟨rfl, rfl⟩ := hv
  simp only [Option.some.injEq] at ho; subst ho
  obtain ⟨hp, hK⟩ := hK
  have hK : K (.tup [.agg [.int .i64 (bif ilt x 65536 then cutI x 0 3 else 0), .int .i64 (bif ilt x 65536 then cutI x 3 3 else 0), .int .i64 (bif ilt x 65536 then cutI x 6 10 else 0)], .bool (tgB x)]) [] := hK
  refine CallOk.trim (callOk_of (E := E22a) Try.checked.mixed (L := LL) (n := 10) (of_nf (q := bif ile 65536 x then K (AVal.tup [AVal.agg [AVal.int .i64 0, AVal.int .i64 0, AVal.int .i64 0], AVal.bool false]) [] else (8 : Int) ≠ (0 : Int) ∧ (8 : Int) ≠ (0 : Int) ∧ (8 : Int) ≠ (0 : Int) ∧ (64 : Int) ≠ (0 : Int) ∧ True ∧ K (AVal.tup [AVal.agg [AVal.int .i64 (W (Int.tmod x 8)), AVal.int .i64 (W (Int.tmod (WU (Int.tdiv x 8)) 8)), AVal.int .i64 (W (WU (Int.tdiv x 64)))], AVal.bool (rightT (W (Int.tmod x 8)) (W (Int.tmod (WU (Int.tdiv x 8)) 8)) (W (WU (Int.tdiv x 64))))]) []) (by kernel_rfl) ?_))
  have m0 : Int.tmod x 8 = x % 8 := Int.tmod_eq_emod_of_nonneg hp.1
  have m1 : Int.tdiv x 8 = x / 8 := Int.tdiv_eq_ediv_of_nonneg hp.1
  have m2 : Int.tdiv x 64 = x / 64 := Int.tdiv_eq_ediv_of_nonneg hp.1
  have m3 : Int.tmod (x / 8) 8 = x / 8 % 8 := Int.tmod_eq_emod_of_nonneg (by omega)
  have c0 : cutI x 0 3 = x % 8 := by unfold cutI; show x / 1 % 8 = x % 8; omega
  have c1 : cutI x 3 3 = x / 8 % 8 := rfl
  unfold tgB at hK
  refine le_go (fun h => ?_) (fun h => ?_)
  · have e : ilt x 65536 = false := by rw [ilt_eq]; exact decide_eq_false (by omega)
    rw [e] at hK; exact hK
  · have e : ilt x 65536 = true := by rw [ilt_eq]; exact decide_eq_true (by omega)
    rw [e] at hK
    have c2 : cutI x 6 10 = x / 64 := by unfold cutI; show x / 64 % 1024 = x / 64; omega
    have w1 : WU (x / 8) = x / 8 := WU_in (by omega)
    have w2 : WU (x / 64) = x / 64 := WU_in (by omega)
    have w3 : W (x / 64) = x / 64 := W_id (by omega)
    have w4 : W (x % 8) = x % 8 := W_id (by omega)
    have w5 : W (x / 8 % 8) = x / 8 % 8 := W_id (by omega)
    rw [m0, m1, m2, w1, w2, w3, m3, w4, w5]
    rw [c0, c1, c2] at hK
    exact ⟨by omega, by omega, by omega, by omega, trivial, hK⟩
noncomputable def E22b := (E22a.addR 99 tgetS tget_ok).addR 64 tget14S tget14_ok
def recNewS : Spec Ob := fun args h => match args, h with
  | [.agg [.int .i64 t, .int .i64 n], .int .i64 me, .agg [.int .i64 s, .int .i64 k, .int .i64 y]], [] => some (.ret (.ptr 0 0) [some (.cells [.int .i64 t, .int .i64 n, .int .u64 0, .int .i64 me, .int .i64 0, .int .u64 (bif rightT s k y then tskV s k y else 0), .bool (!rightT s k y), .int .u64 0])])
  | _, _ => none
theorem recNew_ok : Spec.ok E22b.I Try.prog 45 recNewS := by
  intro args h o ho K hK
  unfold recNewS at ho
  split at ho
  case h_2 => cases ho
  rename_i t n me s k y
  simp only [Option.some.injEq] at ho; subst ho
  have hK : K (.ptr 0 0) [some (.cells [.int .i64 t, .int .i64 n, .int .u64 0, .int .i64 me, .int .i64 0, .int .u64 (bif rightT s k y then tskV s k y else 0), .bool (!rightT s k y), .int .u64 0])] := hK
  refine CallOk.trim (callOk_of (E := E22b) Try.checked.mixed (L := LL) (n := 10) (of_nf (q := True ∧ K (AVal.ptr 0 0) [some (Entry.cells [AVal.int .i64 t, AVal.int .i64 n, AVal.int .u64 0, AVal.int .i64 me, AVal.int .i64 0, AVal.int .u64 (bif rightT s k y then tskV s k y else 0), AVal.bool !ieq (bif rightT s k y then 0 else 1) 0, AVal.int .u64 0])]) (by kernel_rfl) ?_))
  generalize rightT s k y = b at hK ⊢
  refine ⟨trivial, ?_⟩
  cases b <;> exact hK
/- OPQ -/
def pndB (xs : List Int) (t n a : Int) : Bool := ile 0 a && (ilt a t && pendB (cutI (peek xs (2 * n + 5 + 2 * t + 3 * a + 2)) 49 3))
def pndS : RSpec Ob := fun args h => match args, memPat h with
  | [.ptr 0 0, .agg [.int .i64 t, .int .i64 n], .int .i64 a], some (l, s) => some (l = s.xs.length ∧ (0 ≤ t ∧ t ≤ 100000) ∧ (0 ≤ n ∧ n ≤ 100000), .bool (pndB s.xs t n a))
  | _, _ => none
theorem pnd_ok : Spec.ok E22b.I Try.prog 50 pndS.spec := by
  intro args h o ho K hK
  unfold RSpec.spec at ho
  split at ho
  case h_2 => cases ho
  rename_i pp vv hv
  unfold pndS at hv
  split at hv
  case h_2 => cases hv
  rename_i t n a l s hm
  simp only [Option.some.injEq, Prod.mk.injEq] at hv
  obtain ⟨rfl, rfl⟩ := hv
  simp only [Option.some.injEq] at ho; subst ho
  obtain ⟨⟨hl, ht, hn⟩, hK⟩ := hK
  have hh := memPat_eq hm hl
  subst hh
  have hK : K (.bool (pndB s.xs t n a)) (memH s) := hK
  refine CallOk.trim (callOk_of (E := E22b) Try.checked.mixed (L := LL) (n := 10) (of_nf (q := bif ile 0 a then bif ilt a t then (((0 : Int) ≤ t ∧ t ≤ (100000 : Int)) ∧ ((0 : Int) ≤ n ∧ n ≤ (100000 : Int)) ∧ (-1099511627776 : Int) ≤ a ∧ a ≤ (1099511627776 : Int)) ∧ (List.length s.3 = List.length s.3 ∧ True) ∧ True ∧ True ∧ K (AVal.bool (pendB (cutI (peek s.3 (2 * n + 5 + 2 * t + 3 * a + 2)) 49 3))) [some (Entry.cells [AVal.int .i64 s.1, AVal.int .i64 s.2, AVal.slice 1 0 (List.length s.3) 1, AVal.int .i64 s.4, AVal.int .i64 s.5, AVal.int .i64 s.6, AVal.int .u64 s.7, AVal.int .u64 s.8, AVal.bool s.9]), some (Entry.ints (some .u64) s.3)] else K (AVal.bool false) [some (Entry.cells [AVal.int .i64 s.1, AVal.int .i64 s.2, AVal.slice 1 0 (List.length s.3) 1, AVal.int .i64 s.4, AVal.int .i64 s.5, AVal.int .i64 s.6, AVal.int .u64 s.7, AVal.int .u64 s.8, AVal.bool s.9]), some (Entry.ints (some .u64) s.3)] else K (AVal.bool false) [some (Entry.cells [AVal.int .i64 s.1, AVal.int .i64 s.2, AVal.slice 1 0 (List.length s.3) 1, AVal.int .i64 s.4, AVal.int .i64 s.5, AVal.int .i64 s.6, AVal.int .u64 s.7, AVal.int .u64 s.8, AVal.bool s.9]), some (Entry.ints (some .u64) s.3)]) (by kernel_rfl) ?_))
  unfold pndB at hK
  refine cond_go (fun e1 => cond_go (fun e2 => ?_) (fun e2 => ?_)) (fun e1 => ?_)
  · rw [e1, e2] at hK
    rw [ile_eq, decide_eq_true_eq] at e1
    rw [ilt_eq, decide_eq_true_eq] at e2
    exact ⟨by omega, ⟨rfl, trivial⟩, trivial, trivial, hK⟩
  · rw [e1, e2] at hK; exact hK
  · rw [e1] at hK; exact hK
noncomputable def E22 := (E22b.addS 45 recNewS recNew_ok).addR 50 pndS pnd_ok
end Go.Sh

/- The example of an announcement. -/
namespace Go.Sh
open Go Go.Proofs
variable [Con]
def awake14S : Spec Ob := fun args h => match args, h with
  | [], [] => some (.pre (True) (.ret (.bool true) ([])))
  | _, _ => none
theorem awake14_ok : Spec.ok E22.I Try.prog 42 awake14S := by
  intro args h o ho K hK
  unfold awake14S at ho
  split at ho
  case h_2 => cases ho
  skip
  simp only [Option.some.injEq] at ho; subst ho
  obtain ⟨hp, hK⟩ := hK
  have hK : K (.bool true) ([]) := hK
  refine CallOk.trim (callOk_of (E := E22) Try.checked.mixed (L := LL) (n := 10) (of_nf (q := True ∧ (((0 : Int) ≤ (2 : Int) ∧ (2 : Int) ≤ (100000 : Int)) ∧ (0 : Int) ≤ (2 : Int) ∧ (2 : Int) ≤ (100000 : Int)) ∧ ((((0 : Int) ≤ (2 : Int) ∧ (2 : Int) ≤ (100000 : Int)) ∧ (0 : Int) ≤ (2 : Int) ∧ (2 : Int) ≤ (100000 : Int)) ∧ True) ∧ ((0 : Int) ≤ (2 : Int) * 2 + 5 * 2 + 6 ∧ 2 * 2 + 5 * 2 + (6 : Int) = (2 : Int) * 2 + 5 * 2 + 6 ∧ 2 * 2 + 5 * 2 + (6 : Int) ≤ (4294967296 : Int)) ∧ ((0 : Int) ≤ (0 : Int) ∧ (0 : Int) < (↑1 : Int)) ∧ ((((0 : Int) ≤ (2 : Int) ∧ (2 : Int) ≤ (100000 : Int)) ∧ ((0 : Int) ≤ (2 : Int) ∧ (2 : Int) ≤ (100000 : Int)) ∧ (-1099511627776 : Int) ≤ (1 : Int) ∧ (1 : Int) ≤ (1099511627776 : Int)) ∧ True) ∧ ((20 = 20 ∧ (0 : Int) ≤ (0 : Int) ∧ (0 : Int) ≤ (4611686018427387904 : Int)) ∧ True) ∧ (((0 : Int) ≤ (2 : Int) ∧ (2 : Int) ≤ (100000 : Int)) ∧ (0 : Int) ≤ (2 : Int) ∧ (2 : Int) ≤ (100000 : Int)) ∧ (20 = 20 ∧ (0 : Int) ≤ (0 : Int) + 1 ∧ 0 + (1 : Int) ≤ (4611686018427387904 : Int)) ∧ ((((0 : Int) ≤ (2 : Int) ∧ (2 : Int) ≤ (100000 : Int)) ∧ ((0 : Int) ≤ (2 : Int) ∧ (2 : Int) ≤ (100000 : Int)) ∧ (-1099511627776 : Int) ≤ (1 : Int) ∧ (1 : Int) ≤ (1099511627776 : Int)) ∧ True) ∧ ((20 = 20 ∧ (0 : Int) ≤ (0 : Int) + 1 + 1 ∧ 0 + 1 + (1 : Int) ≤ (4611686018427387904 : Int)) ∧ True) ∧ ((((0 : Int) ≤ (2 : Int) ∧ (2 : Int) ≤ (100000 : Int)) ∧ ((0 : Int) ≤ (2 : Int) ∧ (2 : Int) ≤ (100000 : Int)) ∧ (-1099511627776 : Int) ≤ (1 : Int) ∧ (1 : Int) ≤ (1099511627776 : Int)) ∧ True) ∧ ((20 = 20 ∧ (0 : Int) ≤ (0 : Int) + 1 + 1 + 1 ∧ 0 + 1 + 1 + (1 : Int) ≤ (4611686018427387904 : Int)) ∧ True) ∧ True ∧ ((0 : Int) ≤ cutI (peek (putI (putI (putI (List.replicate (Int.toNat (2 * 2 + 5 * 2 + 6)) 0) (2 * 2 + 5 + 2 * 2 + 3 * 1 + 1) (tskV 3 5 0)) (2 * 2 + 5 + 2 * 2 + 3 * 2) (WU (peek (putI (List.replicate (Int.toNat (2 * 2 + 5 * 2 + 6)) 0) (2 * 2 + 5 + 2 * 2 + 3 * 1 + 1) (tskV 3 5 0)) (2 * 2 + 5 + 2 * 2 + 3 * 2) + 1))) (2 * 2 + 5 + 2 * 2 + 3 * 1) (WU (peek (putI (List.replicate (Int.toNat (2 * 2 + 5 * 2 + 6)) 0) (2 * 2 + 5 + 2 * 2 + 3 * 1 + 1) (tskV 3 5 0)) (2 * 2 + 5 + 2 * 2 + 3 * 2) + 1))) (2 * 2 + 5 + 2 * 2 + 3 * 1 + 2)) 0 12 ∧ cutI (peek (putI (putI (putI (List.replicate (Int.toNat (2 * 2 + 5 * 2 + 6)) 0) (2 * 2 + 5 + 2 * 2 + 3 * 1 + 1) (tskV 3 5 0)) (2 * 2 + 5 + 2 * 2 + 3 * 2) (WU (peek (putI (List.replicate (Int.toNat (2 * 2 + 5 * 2 + 6)) 0) (2 * 2 + 5 + 2 * 2 + 3 * 1 + 1) (tskV 3 5 0)) (2 * 2 + 5 + 2 * 2 + 3 * 2) + 1))) (2 * 2 + 5 + 2 * 2 + 3 * 1) (WU (peek (putI (List.replicate (Int.toNat (2 * 2 + 5 * 2 + 6)) 0) (2 * 2 + 5 + 2 * 2 + 3 * 1 + 1) (tskV 3 5 0)) (2 * 2 + 5 + 2 * 2 + 3 * 2) + 1))) (2 * 2 + 5 + 2 * 2 + 3 * 1 + 2)) 0 (12 : Int) ≤ (1000000 : Int)) ∧ True ∧ ((((0 : Int) ≤ (2 : Int) ∧ (2 : Int) ≤ (100000 : Int)) ∧ ((0 : Int) ≤ (2 : Int) ∧ (2 : Int) ≤ (100000 : Int)) ∧ (-1099511627776 : Int) ≤ (1 : Int) ∧ (1 : Int) ≤ (1099511627776 : Int)) ∧ True) ∧ ((20 = 20 ∧ (0 : Int) ≤ (0 : Int) + 1 + 1 + 1 + 1 ∧ 0 + 1 + 1 + 1 + (1 : Int) ≤ (4611686018427387904 : Int)) ∧ True) ∧ (20 = 20 ∧ ((0 : Int) ≤ (2 : Int) ∧ (2 : Int) ≤ (100000 : Int)) ∧ (0 : Int) ≤ (2 : Int) ∧ (2 : Int) ≤ (100000 : Int)) ∧ (20 = 20 ∧ ((0 : Int) ≤ (2 : Int) ∧ (2 : Int) ≤ (100000 : Int)) ∧ (0 : Int) ≤ (2 : Int) ∧ (2 : Int) ≤ (100000 : Int)) ∧ (((0 : Int) ≤ (2 : Int) ∧ (2 : Int) ≤ (100000 : Int)) ∧ ((0 : Int) ≤ (2 : Int) ∧ (2 : Int) ≤ (100000 : Int)) ∧ (-1099511627776 : Int) ≤ (1 : Int) ∧ (1 : Int) ≤ (1099511627776 : Int)) ∧ (20 = 20 ∧ True) ∧ ((0 : Int) ≤ peek (putI (putI (putI (putI (List.replicate (Int.toNat (2 * 2 + 5 * 2 + 6)) 0) (2 * 2 + 5 + 2 * 2 + 3 * 1 + 1) (tskV 3 5 0)) (2 * 2 + 5 + 2 * 2 + 3 * 2) (WU (peek (putI (List.replicate (Int.toNat (2 * 2 + 5 * 2 + 6)) 0) (2 * 2 + 5 + 2 * 2 + 3 * 1 + 1) (tskV 3 5 0)) (2 * 2 + 5 + 2 * 2 + 3 * 2) + 1))) (2 * 2 + 5 + 2 * 2 + 3 * 1) (WU (peek (putI (List.replicate (Int.toNat (2 * 2 + 5 * 2 + 6)) 0) (2 * 2 + 5 + 2 * 2 + 3 * 1 + 1) (tskV 3 5 0)) (2 * 2 + 5 + 2 * 2 + 3 * 2) + 1))) (2 * 2 + 5 + 2 * 2 + 3 * 1 + 2) (dPutV (attI (cutI (peek (putI (putI (putI (List.replicate (Int.toNat (2 * 2 + 5 * 2 + 6)) 0) (2 * 2 + 5 + 2 * 2 + 3 * 1 + 1) (tskV 3 5 0)) (2 * 2 + 5 + 2 * 2 + 3 * 2) (WU (peek (putI (List.replicate (Int.toNat (2 * 2 + 5 * 2 + 6)) 0) (2 * 2 + 5 + 2 * 2 + 3 * 1 + 1) (tskV 3 5 0)) (2 * 2 + 5 + 2 * 2 + 3 * 2) + 1))) (2 * 2 + 5 + 2 * 2 + 3 * 1) (WU (peek (putI (List.replicate (Int.toNat (2 * 2 + 5 * 2 + 6)) 0) (2 * 2 + 5 + 2 * 2 + 3 * 1 + 1) (tskV 3 5 0)) (2 * 2 + 5 + 2 * 2 + 3 * 2) + 1))) (2 * 2 + 5 + 2 * 2 + 3 * 1 + 2)) 0 12)) 0 0 0 false 1 0)) (2 * 2 + 5 + 2 * 2 + 3 * 1 + 2) ∧ peek (putI (putI (putI (putI (List.replicate (Int.toNat (2 * 2 + 5 * 2 + 6)) 0) (2 * 2 + 5 + 2 * 2 + 3 * 1 + 1) (tskV 3 5 0)) (2 * 2 + 5 + 2 * 2 + 3 * 2) (WU (peek (putI (List.replicate (Int.toNat (2 * 2 + 5 * 2 + 6)) 0) (2 * 2 + 5 + 2 * 2 + 3 * 1 + 1) (tskV 3 5 0)) (2 * 2 + 5 + 2 * 2 + 3 * 2) + 1))) (2 * 2 + 5 + 2 * 2 + 3 * 1) (WU (peek (putI (List.replicate (Int.toNat (2 * 2 + 5 * 2 + 6)) 0) (2 * 2 + 5 + 2 * 2 + 3 * 1 + 1) (tskV 3 5 0)) (2 * 2 + 5 + 2 * 2 + 3 * 2) + 1))) (2 * 2 + 5 + 2 * 2 + 3 * 1 + 2) (dPutV (attI (cutI (peek (putI (putI (putI (List.replicate (Int.toNat (2 * 2 + 5 * 2 + 6)) 0) (2 * 2 + 5 + 2 * 2 + 3 * 1 + 1) (tskV 3 5 0)) (2 * 2 + 5 + 2 * 2 + 3 * 2) (WU (peek (putI (List.replicate (Int.toNat (2 * 2 + 5 * 2 + 6)) 0) (2 * 2 + 5 + 2 * 2 + 3 * 1 + 1) (tskV 3 5 0)) (2 * 2 + 5 + 2 * 2 + 3 * 2) + 1))) (2 * 2 + 5 + 2 * 2 + 3 * 1) (WU (peek (putI (List.replicate (Int.toNat (2 * 2 + 5 * 2 + 6)) 0) (2 * 2 + 5 + 2 * 2 + 3 * 1 + 1) (tskV 3 5 0)) (2 * 2 + 5 + 2 * 2 + 3 * 2) + 1))) (2 * 2 + 5 + 2 * 2 + 3 * 1 + 2)) 0 12)) 0 0 0 false 1 0)) (2 * 2 + 5 + 2 * 2 + 3 * 1 + 2) ≤ (18446744073709551615 : Int)) ∧ K (AVal.bool true) []) (by kernel_rfl) ?_))
  repeat refine ⟨by first | trivial | decide | omega, ?_⟩
  exact hK
noncomputable def E23 := E22.addS 42 awake14S awake14_ok
end Go.Sh

/- The layout's addresses, as the document has them; an answer, asked for. -/
namespace Go.Sh
open Go Go.Proofs
variable [Con]
def lLifeS : RSpec Ob := fun args h => match args, h with
  | [.agg [.int .i64 t, .int .i64 n], .int .i64 a], [] => some ((0 ≤ t ∧ t ≤ 100000) ∧ (0 ≤ n ∧ n ≤ 100000) ∧ (-1099511627776 ≤ a ∧ a ≤ 1099511627776), .int .i64 (n + 4 + a))
  | _, _ => none
theorem lLife_ok : Spec.ok E23.I Try.prog 102 lLifeS.spec := by
  intro args h o ho K hK
  unfold RSpec.spec at ho
  split at ho
  case h_2 => cases ho
  rename_i pp vv hv
  unfold lLifeS at hv
  split at hv
  case h_2 => cases hv
  rename_i t n a
  simp only [Option.some.injEq, Prod.mk.injEq] at hv
  obtain ⟨rfl, rfl⟩ := hv
  simp only [Option.some.injEq] at ho; subst ho
  obtain ⟨hp, hK⟩ := hK
  have hK : K (.int .i64 (n + 4 + a)) [] := hK
  refine CallOk.trim (callOk_of (E := E23) Try.checked.mixed (L := LL) (n := 10) (of_nf (q := K (AVal.int .i64 (W (W (n + 4) + a))) []) (by kernel_rfl) ?_))
  simp (disch := omega) only [W, W_in]
  refine cast (congrArg (fun z => K (AVal.int .i64 z) []) ?_) hK
  omega
def lSlotS : RSpec Ob := fun args h => match args, h with
  | [.agg [.int .i64 t, .int .i64 n], .int .i64 a, .int .i64 b], [] => some ((0 ≤ t ∧ t ≤ 100000) ∧ (0 ≤ n ∧ n ≤ 100000) ∧ (-1099511627776 ≤ a ∧ a ≤ 1099511627776) ∧ (-1099511627776 ≤ b ∧ b ≤ 1099511627776), .int .i64 (2 * n + 5 + 2 * a + b))
  | _, _ => none
theorem lSlot_ok : Spec.ok E23.I Try.prog 104 lSlotS.spec := by
  intro args h o ho K hK
  unfold RSpec.spec at ho
  split at ho
  case h_2 => cases ho
  rename_i pp vv hv
  unfold lSlotS at hv
  split at hv
  case h_2 => cases hv
  rename_i t n a b
  simp only [Option.some.injEq, Prod.mk.injEq] at hv
  obtain ⟨rfl, rfl⟩ := hv
  simp only [Option.some.injEq] at ho; subst ho
  obtain ⟨hp, hK⟩ := hK
  have hK : K (.int .i64 (2 * n + 5 + 2 * a + b)) [] := hK
  refine CallOk.trim (callOk_of (E := E23) Try.checked.mixed (L := LL) (n := 10) (of_nf (q := K (AVal.int .i64 (W (W (W (W (2 * n) + 5) + W (2 * a)) + b))) []) (by kernel_rfl) ?_))
  simp (disch := omega) only [W, W_in]
  refine cast (congrArg (fun z => K (AVal.int .i64 z) []) ?_) hK
  omega
def lTicketS : RSpec Ob := fun args h => match args, h with
  | [.agg [.int .i64 t, .int .i64 n], .int .i64 a], [] => some ((0 ≤ t ∧ t ≤ 100000) ∧ (0 ≤ n ∧ n ≤ 100000) ∧ (-1099511627776 ≤ a ∧ a ≤ 1099511627776), .int .i64 (2 * n + 5 + 2 * t + 3 * a))
  | _, _ => none
theorem lTicket_ok : Spec.ok E23.I Try.prog 96 lTicketS.spec := by
  intro args h o ho K hK
  unfold RSpec.spec at ho
  split at ho
  case h_2 => cases ho
  rename_i pp vv hv
  unfold lTicketS at hv
  split at hv
  case h_2 => cases hv
  rename_i t n a
  simp only [Option.some.injEq, Prod.mk.injEq] at hv
  obtain ⟨rfl, rfl⟩ := hv
  simp only [Option.some.injEq] at ho; subst ho
  obtain ⟨hp, hK⟩ := hK
  have hK : K (.int .i64 (2 * n + 5 + 2 * t + 3 * a)) [] := hK
  refine CallOk.trim (callOk_of (E := E23) Try.checked.mixed (L := LL) (n := 10) (of_nf (q := K (AVal.int .i64 (W (W (W (W (2 * n) + 5) + W (2 * t)) + W (3 * a)))) []) (by kernel_rfl) ?_))
  simp (disch := omega) only [W, W_in]
  refine cast (congrArg (fun z => K (AVal.int .i64 z) []) ?_) hK
  omega
def lTaskS : RSpec Ob := fun args h => match args, h with
  | [.agg [.int .i64 t, .int .i64 n], .int .i64 a], [] => some ((0 ≤ t ∧ t ≤ 100000) ∧ (0 ≤ n ∧ n ≤ 100000) ∧ (-1099511627776 ≤ a ∧ a ≤ 1099511627776), .int .i64 (2 * n + 5 + 2 * t + 3 * a + 1))
  | _, _ => none
theorem lTask_ok : Spec.ok E23.I Try.prog 63 lTaskS.spec := by
  intro args h o ho K hK
  unfold RSpec.spec at ho
  split at ho
  case h_2 => cases ho
  rename_i pp vv hv
  unfold lTaskS at hv
  split at hv
  case h_2 => cases hv
  rename_i t n a
  simp only [Option.some.injEq, Prod.mk.injEq] at hv
  obtain ⟨rfl, rfl⟩ := hv
  simp only [Option.some.injEq] at ho; subst ho
  obtain ⟨hp, hK⟩ := hK
  have hK : K (.int .i64 (2 * n + 5 + 2 * t + 3 * a + 1)) [] := hK
  refine CallOk.trim (callOk_of (E := E23) Try.checked.mixed (L := LL) (n := 10) (of_nf (q := K (AVal.int .i64 (W (W (W (W (W (2 * n) + 5) + W (2 * t)) + W (3 * a)) + 1))) []) (by kernel_rfl) ?_))
  simp (disch := omega) only [W, W_in]
  refine cast (congrArg (fun z => K (AVal.int .i64 z) []) ?_) hK
  omega
def lDescS : RSpec Ob := fun args h => match args, h with
  | [.agg [.int .i64 t, .int .i64 n], .int .i64 a], [] => some ((0 ≤ t ∧ t ≤ 100000) ∧ (0 ≤ n ∧ n ≤ 100000) ∧ (-1099511627776 ≤ a ∧ a ≤ 1099511627776), .int .i64 (2 * n + 5 + 2 * t + 3 * a + 2))
  | _, _ => none
theorem lDesc_ok : Spec.ok E23.I Try.prog 58 lDescS.spec := by
  intro args h o ho K hK
  unfold RSpec.spec at ho
  split at ho
  case h_2 => cases ho
  rename_i pp vv hv
  unfold lDescS at hv
  split at hv
  case h_2 => cases hv
  rename_i t n a
  simp only [Option.some.injEq, Prod.mk.injEq] at hv
  obtain ⟨rfl, rfl⟩ := hv
  simp only [Option.some.injEq] at ho; subst ho
  obtain ⟨hp, hK⟩ := hK
  have hK : K (.int .i64 (2 * n + 5 + 2 * t + 3 * a + 2)) [] := hK
  refine CallOk.trim (callOk_of (E := E23) Try.checked.mixed (L := LL) (n := 10) (of_nf (q := K (AVal.int .i64 (W (W (W (W (W (2 * n) + 5) + W (2 * t)) + W (3 * a)) + 2))) []) (by kernel_rfl) ?_))
  simp (disch := omega) only [W, W_in]
  refine cast (congrArg (fun z => K (AVal.int .i64 z) []) ?_) hK
  omega
def lCounterS : RSpec Ob := fun args h => match args, h with
  | [.agg [.int .i64 t, .int .i64 n]], [] => some ((0 ≤ t ∧ t ≤ 100000) ∧ (0 ≤ n ∧ n ≤ 100000), .int .i64 (2 * n + 5 + 2 * t + 3 * t))
  | _, _ => none
theorem lCounter_ok : Spec.ok E23.I Try.prog 95 lCounterS.spec := by
  intro args h o ho K hK
  unfold RSpec.spec at ho
  split at ho
  case h_2 => cases ho
  rename_i pp vv hv
  unfold lCounterS at hv
  split at hv
  case h_2 => cases hv
  rename_i t n
  simp only [Option.some.injEq, Prod.mk.injEq] at hv
  obtain ⟨rfl, rfl⟩ := hv
  simp only [Option.some.injEq] at ho; subst ho
  obtain ⟨hp, hK⟩ := hK
  have hK : K (.int .i64 (2 * n + 5 + 2 * t + 3 * t)) [] := hK
  refine CallOk.trim (callOk_of (E := E23) Try.checked.mixed (L := LL) (n := 10) (of_nf (q := K (AVal.int .i64 (W (W (W (W (2 * n) + 5) + W (2 * t)) + W (3 * t)))) []) (by kernel_rfl) ?_))
  simp (disch := omega) only [W, W_in]
  refine cast (congrArg (fun z => K (AVal.int .i64 z) []) ?_) hK
  omega
noncomputable def E24 := (((((E23.addR 102 lLifeS lLife_ok).addR 104 lSlotS lSlot_ok).addR 96 lTicketS lTicket_ok).addR 63 lTaskS lTask_ok).addR 58 lDescS lDesc_ok).addR 95 lCounterS lCounter_ok
end Go.Sh

/- A scan, begun; nodes that are given back; the nodes, parted. -/
namespace Go.Sh
open Go Go.Proofs
variable [Con]
def guardNewS : Spec Ob := fun args h => match args, h with
  | [.agg [.int .i64 t, .int .i64 n], .slice 0 0 k 1], [some (.ints (some .i64) xs)] => some (.pre (k = xs.length ∧ k ≤ 1000000) (.ret (.ptr 1 0) [some (.ints (some .i64) xs), some (.cells [.int .i64 t, .int .i64 n, .raw (.slice none 0 0), .raw (.slice none 0 0), .slice 2 0 xs.length 1, .map 3, .int .i64 0, .raw (.pointer none)]), some (.ints (some .i64) xs), some (.imap .i64 none [])]))
  | _, _ => none
theorem guardNew_ok : Spec.ok E24.I Try.prog 129 guardNewS := by
  intro args h o ho K hK
  unfold guardNewS at ho
  split at ho
  case h_2 => cases ho
  rename_i t n k xs
  simp only [Option.some.injEq] at ho; subst ho
  obtain ⟨⟨rfl, hp⟩, hK⟩ := hK
  refine CallOk.trim (callOk_of (E := E24) Try.checked.mixed (L := LL) (n := 10) (of_nf (q := ((List.length xs = List.length xs ∧ List.length xs ≤ (4294967296 : Nat)) ∧ True) ∧ K (AVal.ptr 1 0) [some (Entry.ints (some .i64) xs), some (Entry.cells [AVal.int .i64 t, AVal.int .i64 n, AVal.raw (Value.slice none 0 0), AVal.raw (Value.slice none 0 0), AVal.slice 2 0 (List.length xs) 1, AVal.map 3, AVal.int .i64 0, AVal.raw (Value.pointer none)]), some (Entry.ints (some .i64) xs), some (Entry.imap .i64 none [])]) (by kernel_rfl) ?_))
  exact ⟨⟨⟨rfl, by omega⟩, trivial⟩, hK⟩
def backS : Spec Ob := fun args h => match args, h with
  | [.agg [.int .i64 t, .int .i64 n], .slice 0 0 k 1], [some (.ints (some .i64) xs)] => some (.pre (k = xs.length ∧ k ≤ 1000000) (.ret (.ptr 1 0) [some (.ints (some .i64) xs), some (.cells [.int .i64 t, .int .i64 n, .slice 2 0 xs.length 1]), some (.ints (some .i64) xs)]))
  | _, _ => none
theorem back_ok : Spec.ok E24.I Try.prog 133 backS := by
  intro args h o ho K hK
  unfold backS at ho
  split at ho
  case h_2 => cases ho
  rename_i t n k xs
  simp only [Option.some.injEq] at ho; subst ho
  obtain ⟨⟨rfl, hp⟩, hK⟩ := hK
  refine CallOk.trim (callOk_of (E := E24) Try.checked.mixed (L := LL) (n := 10) (of_nf (q := ((List.length xs = List.length xs ∧ List.length xs ≤ (4294967296 : Nat)) ∧ True) ∧ K (AVal.ptr 1 0) [some (Entry.ints (some .i64) xs), some (Entry.cells [AVal.int .i64 t, AVal.int .i64 n, AVal.slice 2 0 (List.length xs) 1]), some (Entry.ints (some .i64) xs)]) (by kernel_rfl) ?_))
  exact ⟨⟨⟨rfl, by omega⟩, trivial⟩, hK⟩
noncomputable def E35a := (E24.addS 129 guardNewS guardNew_ok).addS 133 backS back_ok
/- OPQ -/
def mhas (m : List (Int × Int)) (n : Int) : Bool := !ieq (Option.getD (mget m n) 0) 0
/- OPQ -/
def keptL (m : List (Int × Int)) (xs : List Int) : List Int := xs.filter (mhas m)
/- OPQ -/
def freedL (m : List (Int × Int)) (xs : List Int) : List Int := xs.filter (fun n => !mhas m n)
structure okPt (m : List (Int × Int)) (xs : List Int) (x : Nat × List Int × List Int) : Prop where
  h1 : x.1 ≤ xs.length
  h2 : x.2.1 = keptL m (xs.take x.1)
  h3 : x.2.2 = freedL m (xs.take x.1)
def HPt (t n at' : Int) (m : List (Int × Int)) (xs : List Int) : Hint Ob := { X := Nat × List Int × List Int, st := fun x => ([.ptr 0 0, .top, .top, .top, .top, .top, .top, .top, .slice 1 0 xs.length 1, .int .i64 (xs.length : Int), .int .i64 (x.1 : Int)] ++ List.replicate 48 .top, [some (.cells [.int .i64 t, .int .i64 n, .slice 3 0 x.2.1.length 1, .slice 4 0 x.2.2.length 1, .slice 1 0 xs.length 1, .map 2, .int .i64 at', .raw (.pointer none)]), some (.ints (some .i64) xs), some (.imap .i64 none m), some (.ints (some .i64) x.2.1), some (.ints (some .i64) x.2.2)]), ok := okPt m xs, mu := fun x => xs.length - x.1, keep := [0, 8, 9, 10], casts := [(.cell 0 2, .ints (some .i64)), (.cell 0 3, .ints (some .i64))] }
def partsS : Spec Ob := fun args h => match args, h with
  | [.ptr 0 0], [some (.cells [.int .i64 t, .int .i64 n, .raw (.slice none 0 0), .raw (.slice none 0 0), .slice 1 0 k 1, .map 2, .int .i64 at', .raw (.pointer none)]), some (.ints (some .i64) xs), some (.imap .i64 none m)] => some (.pre (k = xs.length ∧ k ≤ 1000000) (.ret (.bool (ieq ((freedL m xs).length : Int) 0)) [some (.cells [.int .i64 t, .int .i64 n, .slice 3 0 (keptL m xs).length 1, .slice 4 0 (freedL m xs).length 1, .slice 1 0 xs.length 1, .map 2, .int .i64 at', .ptr 5 0]), some (.ints (some .i64) xs), some (.imap .i64 none m), some (.ints (some .i64) (keptL m xs)), some (.ints (some .i64) (freedL m xs)), some (.cells [.int .i64 t, .int .i64 n, .slice 6 0 (freedL m xs).length 1]), some (.ints (some .i64) (freedL m xs))]))
  | _, _ => none
theorem filt_len (p : Int → Bool) (xs : List Int) : (xs.filter p).length ≤ xs.length := List.length_filter_le p xs
theorem parts_ok : Spec.ok E35a.I Try.prog 132 partsS := by
  intro args h o ho K hK
  unfold partsS at ho
  split at ho
  case h_2 => cases ho
  rename_i t n k at' xs m
  simp only [Option.some.injEq] at ho; subst ho
  obtain ⟨⟨rfl, hp⟩, hK⟩ := hK
  refine CallOk.trim (callOk_of (E := E35a) Try.checked.mixed (L := fun _ _ => some (.states (HPt t n at' m xs))) (n := 10) (of_nf (q := okSt (HPt t n at' m xs) (Hint.ok (HPt t n at' m xs)) [AVal.ptr 0 0, AVal.top, AVal.top, AVal.top, AVal.top, AVal.top, AVal.top, AVal.top, AVal.slice 1 0 (List.length xs) 1, AVal.int .i64 (↑(List.length xs) : Int), AVal.int .i64 0, AVal.top, AVal.top, AVal.top, AVal.top, AVal.top, AVal.top, AVal.top, AVal.top, AVal.top, AVal.top, AVal.top, AVal.top, AVal.top, AVal.top, AVal.top, AVal.top, AVal.top, AVal.top, AVal.top, AVal.top, AVal.top, AVal.top, AVal.top, AVal.top, AVal.top, AVal.top, AVal.top, AVal.top, AVal.top, AVal.top, AVal.top, AVal.top, AVal.top, AVal.top, AVal.top, AVal.top, AVal.top, AVal.top, AVal.top, AVal.top, AVal.top, AVal.top, AVal.top, AVal.top, AVal.top, AVal.top, AVal.top, AVal.top] [some (Entry.cells [AVal.int .i64 t, AVal.int .i64 n, AVal.slice 3 0 0 1, AVal.slice 4 0 0 1, AVal.slice 1 0 (List.length xs) 1, AVal.map 2, AVal.int .i64 at', AVal.raw (Value.pointer none)]), some (Entry.ints (some .i64) xs), some (Entry.imap .i64 none m), some (Entry.ints (some .i64) []), some (Entry.ints (some .i64) [])] ∧ ∀ (x : (Nat × List Int × List Int)), okPt m xs x → bif ilt (↑x.1 : Int) (↑(List.length xs) : Int) then ((0 : Int) ≤ (↑x.1 : Int) ∧ (↑x.1 : Int) < (↑(List.length xs) : Int)) ∧ 0 + Int.toNat (↑x.1 : Int) * (1 : Nat) < List.length xs ∧ bif !ieq (Option.getD (mget m (List.getD xs (0 + Int.toNat (↑x.1 : Int) * 1) 0)) 0) 0 then (0 = 0 ∧ List.length (Prod.snd x).1 = List.length (Prod.snd x).1 ∧ 1 = 1 ∧ List.length (Prod.snd x).1 + (1 : Nat) ≤ (4294967296 : Nat)) ∧ okSt (HPt t n at' m xs) (fun x' => Hint.ok (HPt t n at' m xs) x' ∧ Hint.mu (HPt t n at' m xs) x' < Hint.mu (HPt t n at' m xs) x) [AVal.ptr 0 0, AVal.top, AVal.top, AVal.top, AVal.top, AVal.top, AVal.top, AVal.top, AVal.slice 1 0 (List.length xs) 1, AVal.int .i64 (↑(List.length xs) : Int), AVal.int .i64 (W ((↑x.1 : Int) + 1)), AVal.top, AVal.top, AVal.top, AVal.top, AVal.top, AVal.top, AVal.top, AVal.top, AVal.top, AVal.top, AVal.top, AVal.top, AVal.top, AVal.top, AVal.top, AVal.top, AVal.top, AVal.top, AVal.top, AVal.top, AVal.top, AVal.top, AVal.top, AVal.top, AVal.top, AVal.top, AVal.top, AVal.top, AVal.top, AVal.top, AVal.top, AVal.top, AVal.top, AVal.top, AVal.top, AVal.top, AVal.top, AVal.top, AVal.top, AVal.top, AVal.top, AVal.top, AVal.top, AVal.top, AVal.top, AVal.top, AVal.top, AVal.top] [some (Entry.cells [AVal.int .i64 t, AVal.int .i64 n, AVal.slice 3 0 (List.length (Prod.snd x).1 + 1) 1, AVal.slice 4 0 (List.length (Prod.snd x).2) 1, AVal.slice 1 0 (List.length xs) 1, AVal.map 2, AVal.int .i64 at', AVal.raw (Value.pointer none)]), some (Entry.ints (some .i64) xs), some (Entry.imap .i64 none m), some (Entry.ints (some .i64) ((Prod.snd x).1 ++ [List.getD xs (0 + Int.toNat (↑x.1 : Int) * 1) 0])), some (Entry.ints (some .i64) (Prod.snd x).2)] else (0 = 0 ∧ List.length (Prod.snd x).2 = List.length (Prod.snd x).2 ∧ 1 = 1 ∧ List.length (Prod.snd x).2 + (1 : Nat) ≤ (4294967296 : Nat)) ∧ okSt (HPt t n at' m xs) (fun x' => Hint.ok (HPt t n at' m xs) x' ∧ Hint.mu (HPt t n at' m xs) x' < Hint.mu (HPt t n at' m xs) x) [AVal.ptr 0 0, AVal.top, AVal.top, AVal.top, AVal.top, AVal.top, AVal.top, AVal.top, AVal.slice 1 0 (List.length xs) 1, AVal.int .i64 (↑(List.length xs) : Int), AVal.int .i64 (W ((↑x.1 : Int) + 1)), AVal.top, AVal.top, AVal.top, AVal.top, AVal.top, AVal.top, AVal.top, AVal.top, AVal.top, AVal.top, AVal.top, AVal.top, AVal.top, AVal.top, AVal.top, AVal.top, AVal.top, AVal.top, AVal.top, AVal.top, AVal.top, AVal.top, AVal.top, AVal.top, AVal.top, AVal.top, AVal.top, AVal.top, AVal.top, AVal.top, AVal.top, AVal.top, AVal.top, AVal.top, AVal.top, AVal.top, AVal.top, AVal.top, AVal.top, AVal.top, AVal.top, AVal.top, AVal.top, AVal.top, AVal.top, AVal.top, AVal.top, AVal.top] [some (Entry.cells [AVal.int .i64 t, AVal.int .i64 n, AVal.slice 3 0 (List.length (Prod.snd x).1) 1, AVal.slice 4 0 (List.length (Prod.snd x).2 + 1) 1, AVal.slice 1 0 (List.length xs) 1, AVal.map 2, AVal.int .i64 at', AVal.raw (Value.pointer none)]), some (Entry.ints (some .i64) xs), some (Entry.imap .i64 none m), some (Entry.ints (some .i64) (Prod.snd x).1), some (Entry.ints (some .i64) ((Prod.snd x).2 ++ [List.getD xs (0 + Int.toNat (↑x.1 : Int) * 1) 0]))] else ((List.length (Prod.snd x).2 = List.length (Prod.snd x).2 ∧ List.length (Prod.snd x).2 ≤ (1000000 : Nat)) ∧ True) ∧ K (AVal.bool (ieq (↑(List.length (Prod.snd x).2) : Int) 0)) [some (Entry.cells [AVal.int .i64 t, AVal.int .i64 n, AVal.slice 3 0 (List.length (Prod.snd x).1) 1, AVal.slice 4 0 (List.length (Prod.snd x).2) 1, AVal.slice 1 0 (List.length xs) 1, AVal.map 2, AVal.int .i64 at', AVal.ptr 5 0]), some (Entry.ints (some .i64) xs), some (Entry.imap .i64 none m), some (Entry.ints (some .i64) (Prod.snd x).1), some (Entry.ints (some .i64) (Prod.snd x).2), some (Entry.cells [AVal.int .i64 t, AVal.int .i64 n, AVal.slice 6 0 (List.length (Prod.snd x).2) 1]), some (Entry.ints (some .i64) (Prod.snd x).2)]) (by kernel_rfl) ?_))
  refine ⟨okSt_intro (H := HPt t n at' m xs) ((0 : Nat), ([] : List Int), ([] : List Int)) rfl ⟨Nat.zero_le _, rfl, rfl⟩, ?_⟩
  rintro ⟨i, ks, fs⟩ ⟨h1, h2, h3⟩
  dsimp only at h1 h2 h3 ⊢
  refine lt_go (fun hi => ?_) (fun hi => ?_)
  · have hi' : i < xs.length := by omega
    have e2 : 0 + (i : Int).toNat * 1 = i := by omega
    have hg : xs.getD i 0 = xs[i] := by rw [List.getD_eq_getElem?_getD, List.getElem?_eq_getElem hi']; rfl
    have e4 : W ((i : Int) + 1) = ((i + 1 : Nat) : Int) := by rw [W_id (by omega)]; rfl
    have hk : keptL m (xs.take (i + 1)) = ks ++ (bif mhas m xs[i] then [xs[i]] else []) := by
      rw [h2]; unfold keptL; rw [List.take_succ_eq_append_getElem hi', List.filter_append]
      cases hm : mhas m xs[i] <;> simp [hm]
    have hf : freedL m (xs.take (i + 1)) = fs ++ (bif mhas m xs[i] then [] else [xs[i]]) := by
      rw [h3]; unfold freedL; rw [List.take_succ_eq_append_getElem hi', List.filter_append]
      cases hm : mhas m xs[i] <;> simp [hm]
    have hkl : ks.length ≤ xs.length := by rw [h2]; exact Nat.le_trans (filt_len _ _) (by simp; omega)
    have hfl : fs.length ≤ xs.length := by rw [h3]; exact Nat.le_trans (filt_len _ _) (by simp; omega)
    have hmu : xs.length - (i + 1) < xs.length - i := by omega
    rw [e2, e4, hg]
    have hd : (!ieq (Option.getD (mget m xs[i]) 0) 0) = mhas m xs[i] := rfl
    rw [hd]
    refine ⟨by omega, by omega, cond_go (fun hm => ⟨⟨rfl, rfl, rfl, by omega⟩, ?_⟩) (fun hm => ⟨⟨rfl, rfl, rfl, by omega⟩, ?_⟩)⟩
    · rw [hm] at hk hf
      simp only [cond_true, List.append_nil] at hk hf
      exact okSt_intro (H := HPt t n at' m xs) ((i + 1 : Nat), ks ++ [xs[i]], fs) (by simp only [HPt, List.length_append]; rfl) ⟨⟨hi', hk.symm, hf.symm⟩, hmu⟩
    · rw [hm] at hk hf
      simp only [cond_false, List.append_nil] at hk hf
      exact okSt_intro (H := HPt t n at' m xs) ((i + 1 : Nat), ks, fs ++ [xs[i]]) (by simp only [HPt, List.length_append]; rfl) ⟨⟨hi', hk.symm, hf.symm⟩, hmu⟩
  · rw [List.take_of_length_le (by omega)] at h2 h3
    subst h2 h3
    have := filt_len (fun n => !mhas m n) xs
    refine ⟨⟨⟨rfl, ?_⟩, trivial⟩, hK⟩
    show (freedL m xs).length ≤ 1000000
    unfold freedL
    omega
noncomputable def E35 := E35a.addS 132 partsS parts_ok
end Go.Sh

/- A sweep's steps. -/
namespace Go.Sh
open Go Go.Proofs
variable [Con]
def swA (t n me sp : Int) (R : List Int) (s : MS) : Heap Ob := [some (.cells [.ptr 1 0, .raw (.pointer none)]), some (.cells [.int .i64 t, .int .i64 n, .int .i64 me, .int .i64 sp, .slice 2 0 R.length 1]), some (.ints (some .i64) R), some (.cells [.int .i64 s.t, .int .i64 s.n, .slice 4 0 s.xs.length 1, .int .i64 s.c, .int .i64 s.k, .int .i64 s.a, .int .u64 s.o, .int .u64 s.w, .bool s.ok]), some (.ints (some .u64) s.xs)]
def swA' (t n me sp : Int) (R : List Int) (s : MS) (m : List (Int × Int)) (i : Int) : Heap Ob := [some (.cells [.ptr 1 0, .ptr 5 0]), some (.cells [.int .i64 t, .int .i64 n, .int .i64 me, .int .i64 sp, .slice 2 0 R.length 1]), some (.ints (some .i64) R), some (.cells [.int .i64 s.t, .int .i64 s.n, .slice 4 0 s.xs.length 1, .int .i64 s.c, .int .i64 s.k, .int .i64 s.a, .int .u64 s.o, .int .u64 s.w, .bool s.ok]), some (.ints (some .u64) s.xs), some (.cells [.int .i64 t, .int .i64 n, .raw (.slice none 0 0), .raw (.slice none 0 0), .slice 6 0 R.length 1, .map 7, .int .i64 i, .raw (.pointer none)]), some (.ints (some .i64) R), some (.imap .i64 none m)]
def swB (t n me sp : Int) (R N : List Int) (s : MS) (m : List (Int × Int)) (i : Int) : Heap Ob := [some (.cells [.ptr 1 0, .ptr 3 0]), some (.cells [.int .i64 t, .int .i64 n, .int .i64 me, .int .i64 sp, .slice 2 0 R.length 1]), some (.ints (some .i64) R), some (.cells [.int .i64 t, .int .i64 n, .raw (.slice none 0 0), .raw (.slice none 0 0), .slice 4 0 N.length 1, .map 5, .int .i64 i, .raw (.pointer none)]), some (.ints (some .i64) N), some (.imap .i64 none m), some (.cells [.int .i64 s.t, .int .i64 s.n, .slice 7 0 s.xs.length 1, .int .i64 s.c, .int .i64 s.k, .int .i64 s.a, .int .u64 s.o, .int .u64 s.w, .bool s.ok]), some (.ints (some .u64) s.xs)]
def swB' (t n me sp : Int) (st : AVal) (R N ks fs : List Int) (s : MS) (m : List (Int × Int)) (i : Int) : Heap Ob := [some (.cells [.ptr 1 0, .ptr 3 0]), some (.cells [.int .i64 t, .int .i64 n, .int .i64 me, .int .i64 sp, st]), some (.ints (some .i64) R), some (.cells [.int .i64 t, .int .i64 n, .slice 8 0 ks.length 1, .slice 9 0 fs.length 1, .slice 4 0 N.length 1, .map 5, .int .i64 i, .ptr 10 0]), some (.ints (some .i64) N), some (.imap .i64 none m), some (.cells [.int .i64 s.t, .int .i64 s.n, .slice 7 0 s.xs.length 1, .int .i64 s.c, .int .i64 s.k, .int .i64 s.a, .int .u64 s.o, .int .u64 s.w, .bool s.ok]), some (.ints (some .u64) s.xs), some (.ints (some .i64) ks), some (.ints (some .i64) fs), some (.cells [.int .i64 t, .int .i64 n, .slice 11 0 fs.length 1]), some (.ints (some .i64) fs)]
def swC (t n me sp : Int) (st : AVal) (R N ks fs gs : List Int) (s : MS) (m : List (Int × Int)) (i : Int) (j l : Nat) : Heap Ob := [some (.cells [.ptr 1 0, .ptr 3 0]), some (.cells [.int .i64 t, .int .i64 n, .int .i64 me, .int .i64 sp, st]), some (.ints (some .i64) R), some (.cells [.int .i64 t, .int .i64 n, .slice 4 0 ks.length 1, .slice 5 0 fs.length 1, .slice 6 0 N.length 1, .map 7, .int .i64 i, .ptr 8 0]), some (.ints (some .i64) ks), some (.ints (some .i64) fs), some (.ints (some .i64) N), some (.imap .i64 none m), some (.cells [.int .i64 t, .int .i64 n, .slice 9 j l 1]), some (.ints (some .i64) gs), some (.cells [.int .i64 s.t, .int .i64 s.n, .slice 11 0 s.xs.length 1, .int .i64 s.c, .int .i64 s.k, .int .i64 s.a, .int .u64 s.o, .int .u64 s.w, .bool s.ok]), some (.ints (some .u64) s.xs)]
def slotV (n i : Int) (s : MS) : Int := W (peek s.xs (2 * n + 5 + 2 * 0 + i))
def memL (w : Nat) (h : Heap Ob) : Option (Nat × MS) := match h with
  | [some (.cells [.int .i64 t, .int .i64 n, .slice l 0 len 1, .int .i64 c, .int .i64 k, .int .i64 a, .int .u64 o, .int .u64 v, .bool ok]), some (.ints (some .u64) xs)] => if l = w then some (len, ⟨t, n, xs, c, k, a, o, v, ok⟩) else none
  | _ => none
theorem memL_eq {w : Nat} {h : Heap Ob} {l : Nat} {s : MS} (e : memL w h = some (l, s)) (hl : l = s.xs.length) : h = [some (.cells [.int .i64 s.t, .int .i64 s.n, .slice w 0 s.xs.length 1, .int .i64 s.c, .int .i64 s.k, .int .i64 s.a, .int .u64 s.o, .int .u64 s.w, .bool s.ok]), some (.ints (some .u64) s.xs)] := by
  unfold memL at e
  split at e
  · split at e
    · rename_i hw
      simp only [Option.some.injEq, Prod.mk.injEq] at e
      obtain ⟨rfl, rfl⟩ := e
      subst hw
      simp only at hl; subst hl; rfl
    · cases e
  · cases e
def slotA (n i : Int) : Int := 2 * n + 5 + 2 * 0 + i
def seenM (m : List (Int × Int)) (n i : Int) (s : MS) : List (Int × Int) := mput m (W (peek s.xs (slotA n i))) 1
def lifeA (n : Int) (gs : List Int) (j : Nat) : Int := n + 4 + List.getD gs (j + Int.toNat 0 * 1) 0
noncomputable def swS1 : Spec Ob := fun args h => match args, h with
  | [.ptr 0 0, .ptr 3 0], [some (.cells [.ptr 1 0, .raw (.pointer none)]), some (.cells [.int .i64 t, .int .i64 n, .int .i64 me, .int .i64 sp, .slice 2 0 k 1]), some (.ints (some .i64) R), e1, e2] => (match memL 4 [e1, e2] with
    | some (l, s) => some (.pre ((l = s.xs.length ∧ k = R.length) ∧ (1 ≤ t ∧ t ≤ 1000) ∧ (1 ≤ n ∧ n ≤ 1000) ∧ (0 ≤ s.c ∧ s.c ≤ 1000000) ∧ R.length ≤ 1000000) (.ret (.bool false) (swA' t n me sp R (s.loadd (slotA n 0)) (seenM [] n 0 s) 1)))
    | none => none)
  | _, _ => none
noncomputable def swS2 : Spec Ob := fun args h => match args, h with
  | [.ptr 0 0, .ptr 6 0], [some (.cells [.ptr 1 0, .ptr 3 0]), some (.cells [.int .i64 t, .int .i64 n, .int .i64 me, .int .i64 sp, .slice 2 0 k 1]), some (.ints (some .i64) R), some (.cells [.int .i64 t', .int .i64 n', .raw (.slice none 0 0), .raw (.slice none 0 0), .slice 4 0 k' 1, .map 5, .int .i64 i, .raw (.pointer none)]), some (.ints (some .i64) N), some (.imap .i64 none m), e1, e2] => (match memL 7 [e1, e2] with
    | some (l, s) => some (.pre ((l = s.xs.length ∧ k = R.length ∧ k' = N.length ∧ t' = t ∧ n' = n) ∧ (1 ≤ t ∧ t ≤ 1000) ∧ (1 ≤ n ∧ n ≤ 1000) ∧ (0 ≤ s.c ∧ s.c ≤ 1000000) ∧ N.length ≤ 1000000 ∧ (0 ≤ i ∧ i < 2 * t)) (.ite (ieq (i + 1) (2 * t))
        (.ite (ieq ((freedL (seenM m n i s) N).length : Int) 0) (.ret (.bool true) (swB' t n me sp (.slice 8 0 (keptL (seenM m n i s) N).length 1) R N (keptL (seenM m n i s) N) (freedL (seenM m n i s) N) (s.loadd (slotA n i)) (seenM m n i s) (i + 1)))
          (.ret (.bool false) (swB' t n me sp (.slice 2 0 R.length 1) R N (keptL (seenM m n i s) N) (freedL (seenM m n i s) N) (s.loadd (slotA n i)) (seenM m n i s) (i + 1))))
        (.ret (.bool false) (swB t n me sp R N (s.loadd (slotA n i)) (seenM m n i s) (i + 1)))))
    | none => none)
  | _, _ => none
noncomputable def swS3 : Spec Ob := fun args h => match args, h with
  | [.ptr 0 0, .ptr 10 0], [some (.cells [.ptr 1 0, .ptr 3 0]), some (.cells [.int .i64 t, .int .i64 n, .int .i64 me, .int .i64 sp, .slice 2 0 k 1]), some (.ints (some .i64) R), some (.cells [.int .i64 t', .int .i64 n', .slice 4 0 k1 1, .slice 5 0 k2 1, .slice 6 0 k3 1, .map 7, .int .i64 i, .ptr 8 0]), some (.ints (some .i64) ks), some (.ints (some .i64) fs), some (.ints (some .i64) N), some (.imap .i64 none m), some (.cells [.int .i64 t'', .int .i64 n'', .slice 9 j l' 1]), some (.ints (some .i64) gs), e1, e2] => (match memL 11 [e1, e2] with
    | some (l, s) => some (.pre ((l = s.xs.length ∧ k = R.length ∧ k1 = ks.length ∧ k2 = fs.length ∧ k3 = N.length ∧ t' = t ∧ n' = n ∧ t'' = t ∧ n'' = n) ∧ (1 ≤ t ∧ t ≤ 1000) ∧ (1 ≤ n ∧ n ≤ 1000) ∧ (0 ≤ s.c ∧ s.c ≤ 1000000) ∧ 2 * t ≤ i ∧ (1 ≤ l' ∧ gs.length = j + l') ∧ (-1000000 ≤ List.getD gs (j + Int.toNat 0 * 1) 0 ∧ List.getD gs (j + Int.toNat 0 * 1) 0 ≤ 1000000)) (.ite (ieq ((l' - 1 : Nat) : Int) 0)
        (.ret (.bool true) (swC t n me sp (.slice 4 0 ks.length 1) R N ks fs gs (s.added (lifeA n gs j) 1) m i (j + 1) (l' - 1)))
        (.ret (.bool false) (swC t n me sp (.slice 2 0 R.length 1) R N ks fs gs (s.added (lifeA n gs j) 1) m i (j + 1) (l' - 1)))))
    | none => none)
  | _, _ => none
noncomputable def swStepS : Spec Ob := fun args h => match swS1 args h with
  | some o => some o
  | none => match swS2 args h with
    | some o => some o
    | none => swS3 args h
theorem stA_ok (t n me sp : Int) (R : List Int) (s : MS) (K : AVal → Heap Ob → Prop) (ht : 1 ≤ t ∧ t ≤ 1000) (hn : 1 ≤ n ∧ n ≤ 1000) (hc : 0 ≤ s.c ∧ s.c ≤ 1000000) (hR : R.length ≤ 1000000) (hK : K (.bool false) (swA' t n me sp R (s.loadd (slotA n 0)) (seenM [] n 0 s) 1)) : CallOk E35.I Try.prog 128 [.ptr 0 0, .ptr 3 0] (swA t n me sp R s) K := by
  refine CallOk.trim (callOk_of (E := E35) Try.checked.mixed (L := LL) (n := 10) (of_nf (q := ((List.length R = List.length R ∧ List.length R ≤ (1000000 : Nat)) ∧ True) ∧ ((((0 : Int) ≤ t ∧ t ≤ (100000 : Int)) ∧ (0 : Int) ≤ n ∧ n ≤ (100000 : Int)) ∧ True) ∧ bif ile (2 * t) 0 then False else ((((0 : Int) ≤ t ∧ t ≤ (100000 : Int)) ∧ ((0 : Int) ≤ n ∧ n ≤ (100000 : Int)) ∧ ((-1099511627776 : Int) ≤ (0 : Int) ∧ (0 : Int) ≤ (1099511627776 : Int)) ∧ (-1099511627776 : Int) ≤ (0 : Int) ∧ (0 : Int) ≤ (1099511627776 : Int)) ∧ True) ∧ ((List.length s.3 = List.length s.3 ∧ (0 : Int) ≤ s.4 ∧ s.4 ≤ (4611686018427387904 : Int)) ∧ True) ∧ ((((0 : Int) ≤ t ∧ t ≤ (100000 : Int)) ∧ (0 : Int) ≤ n ∧ n ≤ (100000 : Int)) ∧ True) ∧ bif ieq (W (0 + 1)) (2 * t) then ((List.length R = List.length R ∧ List.length R ≤ (1000000 : Nat)) ∧ True) ∧ bif !ieq (↑(List.length (freedL (mput [] (W (peek s.3 (2 * n + 5 + 2 * 0 + 0))) 1) R)) : Int) 0 then K (AVal.bool false) [some (Entry.cells [AVal.ptr 1 0, AVal.ptr 5 0]), some (Entry.cells [AVal.int .i64 t, AVal.int .i64 n, AVal.int .i64 me, AVal.int .i64 sp, AVal.slice 2 0 (List.length R) 1]), some (Entry.ints (some .i64) R), some (Entry.cells [AVal.int .i64 s.1, AVal.int .i64 s.2, AVal.slice 4 0 (List.length s.3) 1, AVal.int .i64 (s.4 + 1), AVal.int .i64 1, AVal.int .i64 (2 * n + 5 + 2 * 0 + 0), AVal.int .u64 (peek s.3 (2 * n + 5 + 2 * 0 + 0)), AVal.int .u64 (peek s.3 (2 * n + 5 + 2 * 0 + 0)), AVal.bool (inB s.3 (2 * n + 5 + 2 * 0 + 0))]), some (Entry.ints (some .u64) s.3), some (Entry.cells [AVal.int .i64 t, AVal.int .i64 n, AVal.slice 6 0 (List.length (keptL (mput [] (W (peek s.3 (2 * n + 5 + 2 * 0 + 0))) 1) R)) 1, AVal.slice 7 0 (List.length (freedL (mput [] (W (peek s.3 (2 * n + 5 + 2 * 0 + 0))) 1) R)) 1, AVal.slice 8 0 (List.length R) 1, AVal.map 9, AVal.int .i64 (W (0 + 1)), AVal.ptr 10 0]), some (Entry.ints (some .i64) (keptL (mput [] (W (peek s.3 (2 * n + 5 + 2 * 0 + 0))) 1) R)), some (Entry.ints (some .i64) (freedL (mput [] (W (peek s.3 (2 * n + 5 + 2 * 0 + 0))) 1) R)), some (Entry.ints (some .i64) R), some (Entry.imap .i64 none (mput [] (W (peek s.3 (2 * n + 5 + 2 * 0 + 0))) 1)), some (Entry.cells [AVal.int .i64 t, AVal.int .i64 n, AVal.slice 11 0 (List.length (freedL (mput [] (W (peek s.3 (2 * n + 5 + 2 * 0 + 0))) 1) R)) 1]), some (Entry.ints (some .i64) (freedL (mput [] (W (peek s.3 (2 * n + 5 + 2 * 0 + 0))) 1) R))] else K (AVal.bool true) [some (Entry.cells [AVal.ptr 1 0, AVal.ptr 5 0]), some (Entry.cells [AVal.int .i64 t, AVal.int .i64 n, AVal.int .i64 me, AVal.int .i64 sp, AVal.slice 6 0 (List.length (keptL (mput [] (W (peek s.3 (2 * n + 5 + 2 * 0 + 0))) 1) R)) 1]), some (Entry.ints (some .i64) R), some (Entry.cells [AVal.int .i64 s.1, AVal.int .i64 s.2, AVal.slice 4 0 (List.length s.3) 1, AVal.int .i64 (s.4 + 1), AVal.int .i64 1, AVal.int .i64 (2 * n + 5 + 2 * 0 + 0), AVal.int .u64 (peek s.3 (2 * n + 5 + 2 * 0 + 0)), AVal.int .u64 (peek s.3 (2 * n + 5 + 2 * 0 + 0)), AVal.bool (inB s.3 (2 * n + 5 + 2 * 0 + 0))]), some (Entry.ints (some .u64) s.3), some (Entry.cells [AVal.int .i64 t, AVal.int .i64 n, AVal.slice 6 0 (List.length (keptL (mput [] (W (peek s.3 (2 * n + 5 + 2 * 0 + 0))) 1) R)) 1, AVal.slice 7 0 (List.length (freedL (mput [] (W (peek s.3 (2 * n + 5 + 2 * 0 + 0))) 1) R)) 1, AVal.slice 8 0 (List.length R) 1, AVal.map 9, AVal.int .i64 (W (0 + 1)), AVal.ptr 10 0]), some (Entry.ints (some .i64) (keptL (mput [] (W (peek s.3 (2 * n + 5 + 2 * 0 + 0))) 1) R)), some (Entry.ints (some .i64) (freedL (mput [] (W (peek s.3 (2 * n + 5 + 2 * 0 + 0))) 1) R)), some (Entry.ints (some .i64) R), some (Entry.imap .i64 none (mput [] (W (peek s.3 (2 * n + 5 + 2 * 0 + 0))) 1)), some (Entry.cells [AVal.int .i64 t, AVal.int .i64 n, AVal.slice 11 0 (List.length (freedL (mput [] (W (peek s.3 (2 * n + 5 + 2 * 0 + 0))) 1) R)) 1]), some (Entry.ints (some .i64) (freedL (mput [] (W (peek s.3 (2 * n + 5 + 2 * 0 + 0))) 1) R))] else K (AVal.bool false) [some (Entry.cells [AVal.ptr 1 0, AVal.ptr 5 0]), some (Entry.cells [AVal.int .i64 t, AVal.int .i64 n, AVal.int .i64 me, AVal.int .i64 sp, AVal.slice 2 0 (List.length R) 1]), some (Entry.ints (some .i64) R), some (Entry.cells [AVal.int .i64 s.1, AVal.int .i64 s.2, AVal.slice 4 0 (List.length s.3) 1, AVal.int .i64 (s.4 + 1), AVal.int .i64 1, AVal.int .i64 (2 * n + 5 + 2 * 0 + 0), AVal.int .u64 (peek s.3 (2 * n + 5 + 2 * 0 + 0)), AVal.int .u64 (peek s.3 (2 * n + 5 + 2 * 0 + 0)), AVal.bool (inB s.3 (2 * n + 5 + 2 * 0 + 0))]), some (Entry.ints (some .u64) s.3), some (Entry.cells [AVal.int .i64 t, AVal.int .i64 n, AVal.raw (Value.slice none 0 0), AVal.raw (Value.slice none 0 0), AVal.slice 6 0 (List.length R) 1, AVal.map 7, AVal.int .i64 (W (0 + 1)), AVal.raw (Value.pointer none)]), some (Entry.ints (some .i64) R), some (Entry.imap .i64 none (mput [] (W (peek s.3 (2 * n + 5 + 2 * 0 + 0))) 1))]) (by kernel_rfl) ?_))
  refine ⟨⟨⟨rfl, hR⟩, trivial⟩, ⟨by omega, trivial⟩, le_go (fun h => by omega) (fun _ => ⟨⟨by omega, trivial⟩, ⟨⟨rfl, by omega⟩, trivial⟩, ⟨by omega, trivial⟩, ?_⟩)⟩
  have e : W (0 + 1) = 1 := by decide
  rw [e]
  refine eq_go (fun h => by omega) (fun _ => hK)
theorem stB_ok (t n me sp i : Int) (R N : List Int) (s : MS) (m : List (Int × Int)) (K : AVal → Heap Ob → Prop) (ht : 1 ≤ t ∧ t ≤ 1000) (hn : 1 ≤ n ∧ n ≤ 1000) (hc : 0 ≤ s.c ∧ s.c ≤ 1000000) (hN : N.length ≤ 1000000) (hi : 0 ≤ i ∧ i < 2 * t)
    (hK : cond (ieq (i + 1) (2 * t)) (cond (ieq ((freedL (seenM m n i s) N).length : Int) 0) (K (.bool true) (swB' t n me sp (.slice 8 0 (keptL (seenM m n i s) N).length 1) R N (keptL (seenM m n i s) N) (freedL (seenM m n i s) N) (s.loadd (slotA n i)) (seenM m n i s) (i + 1))) (K (.bool false) (swB' t n me sp (.slice 2 0 R.length 1) R N (keptL (seenM m n i s) N) (freedL (seenM m n i s) N) (s.loadd (slotA n i)) (seenM m n i s) (i + 1)))) (K (.bool false) (swB t n me sp R N (s.loadd (slotA n i)) (seenM m n i s) (i + 1)))) : CallOk E35.I Try.prog 128 [.ptr 0 0, .ptr 6 0] (swB t n me sp R N s m i) K := by
  refine CallOk.trim (callOk_of (E := E35) Try.checked.mixed (L := LL) (n := 10) (of_nf (q := ((((0 : Int) ≤ t ∧ t ≤ (100000 : Int)) ∧ (0 : Int) ≤ n ∧ n ≤ (100000 : Int)) ∧ True) ∧ bif ile (2 * t) i then False else ((((0 : Int) ≤ t ∧ t ≤ (100000 : Int)) ∧ ((0 : Int) ≤ n ∧ n ≤ (100000 : Int)) ∧ ((-1099511627776 : Int) ≤ (0 : Int) ∧ (0 : Int) ≤ (1099511627776 : Int)) ∧ (-1099511627776 : Int) ≤ i ∧ i ≤ (1099511627776 : Int)) ∧ True) ∧ ((List.length s.3 = List.length s.3 ∧ (0 : Int) ≤ s.4 ∧ s.4 ≤ (4611686018427387904 : Int)) ∧ True) ∧ ((((0 : Int) ≤ t ∧ t ≤ (100000 : Int)) ∧ (0 : Int) ≤ n ∧ n ≤ (100000 : Int)) ∧ True) ∧ bif ieq (W (i + 1)) (2 * t) then ((List.length N = List.length N ∧ List.length N ≤ (1000000 : Nat)) ∧ True) ∧ bif !ieq (↑(List.length (freedL (mput m (W (peek s.3 (2 * n + 5 + 2 * 0 + i))) 1) N)) : Int) 0 then K (AVal.bool false) [some (Entry.cells [AVal.ptr 1 0, AVal.ptr 3 0]), some (Entry.cells [AVal.int .i64 t, AVal.int .i64 n, AVal.int .i64 me, AVal.int .i64 sp, AVal.slice 2 0 (List.length R) 1]), some (Entry.ints (some .i64) R), some (Entry.cells [AVal.int .i64 t, AVal.int .i64 n, AVal.slice 8 0 (List.length (keptL (mput m (W (peek s.3 (2 * n + 5 + 2 * 0 + i))) 1) N)) 1, AVal.slice 9 0 (List.length (freedL (mput m (W (peek s.3 (2 * n + 5 + 2 * 0 + i))) 1) N)) 1, AVal.slice 4 0 (List.length N) 1, AVal.map 5, AVal.int .i64 (W (i + 1)), AVal.ptr 10 0]), some (Entry.ints (some .i64) N), some (Entry.imap .i64 none (mput m (W (peek s.3 (2 * n + 5 + 2 * 0 + i))) 1)), some (Entry.cells [AVal.int .i64 s.1, AVal.int .i64 s.2, AVal.slice 7 0 (List.length s.3) 1, AVal.int .i64 (s.4 + 1), AVal.int .i64 1, AVal.int .i64 (2 * n + 5 + 2 * 0 + i), AVal.int .u64 (peek s.3 (2 * n + 5 + 2 * 0 + i)), AVal.int .u64 (peek s.3 (2 * n + 5 + 2 * 0 + i)), AVal.bool (inB s.3 (2 * n + 5 + 2 * 0 + i))]), some (Entry.ints (some .u64) s.3), some (Entry.ints (some .i64) (keptL (mput m (W (peek s.3 (2 * n + 5 + 2 * 0 + i))) 1) N)), some (Entry.ints (some .i64) (freedL (mput m (W (peek s.3 (2 * n + 5 + 2 * 0 + i))) 1) N)), some (Entry.cells [AVal.int .i64 t, AVal.int .i64 n, AVal.slice 11 0 (List.length (freedL (mput m (W (peek s.3 (2 * n + 5 + 2 * 0 + i))) 1) N)) 1]), some (Entry.ints (some .i64) (freedL (mput m (W (peek s.3 (2 * n + 5 + 2 * 0 + i))) 1) N))] else K (AVal.bool true) [some (Entry.cells [AVal.ptr 1 0, AVal.ptr 3 0]), some (Entry.cells [AVal.int .i64 t, AVal.int .i64 n, AVal.int .i64 me, AVal.int .i64 sp, AVal.slice 8 0 (List.length (keptL (mput m (W (peek s.3 (2 * n + 5 + 2 * 0 + i))) 1) N)) 1]), some (Entry.ints (some .i64) R), some (Entry.cells [AVal.int .i64 t, AVal.int .i64 n, AVal.slice 8 0 (List.length (keptL (mput m (W (peek s.3 (2 * n + 5 + 2 * 0 + i))) 1) N)) 1, AVal.slice 9 0 (List.length (freedL (mput m (W (peek s.3 (2 * n + 5 + 2 * 0 + i))) 1) N)) 1, AVal.slice 4 0 (List.length N) 1, AVal.map 5, AVal.int .i64 (W (i + 1)), AVal.ptr 10 0]), some (Entry.ints (some .i64) N), some (Entry.imap .i64 none (mput m (W (peek s.3 (2 * n + 5 + 2 * 0 + i))) 1)), some (Entry.cells [AVal.int .i64 s.1, AVal.int .i64 s.2, AVal.slice 7 0 (List.length s.3) 1, AVal.int .i64 (s.4 + 1), AVal.int .i64 1, AVal.int .i64 (2 * n + 5 + 2 * 0 + i), AVal.int .u64 (peek s.3 (2 * n + 5 + 2 * 0 + i)), AVal.int .u64 (peek s.3 (2 * n + 5 + 2 * 0 + i)), AVal.bool (inB s.3 (2 * n + 5 + 2 * 0 + i))]), some (Entry.ints (some .u64) s.3), some (Entry.ints (some .i64) (keptL (mput m (W (peek s.3 (2 * n + 5 + 2 * 0 + i))) 1) N)), some (Entry.ints (some .i64) (freedL (mput m (W (peek s.3 (2 * n + 5 + 2 * 0 + i))) 1) N)), some (Entry.cells [AVal.int .i64 t, AVal.int .i64 n, AVal.slice 11 0 (List.length (freedL (mput m (W (peek s.3 (2 * n + 5 + 2 * 0 + i))) 1) N)) 1]), some (Entry.ints (some .i64) (freedL (mput m (W (peek s.3 (2 * n + 5 + 2 * 0 + i))) 1) N))] else K (AVal.bool false) [some (Entry.cells [AVal.ptr 1 0, AVal.ptr 3 0]), some (Entry.cells [AVal.int .i64 t, AVal.int .i64 n, AVal.int .i64 me, AVal.int .i64 sp, AVal.slice 2 0 (List.length R) 1]), some (Entry.ints (some .i64) R), some (Entry.cells [AVal.int .i64 t, AVal.int .i64 n, AVal.raw (Value.slice none 0 0), AVal.raw (Value.slice none 0 0), AVal.slice 4 0 (List.length N) 1, AVal.map 5, AVal.int .i64 (W (i + 1)), AVal.raw (Value.pointer none)]), some (Entry.ints (some .i64) N), some (Entry.imap .i64 none (mput m (W (peek s.3 (2 * n + 5 + 2 * 0 + i))) 1)), some (Entry.cells [AVal.int .i64 s.1, AVal.int .i64 s.2, AVal.slice 7 0 (List.length s.3) 1, AVal.int .i64 (s.4 + 1), AVal.int .i64 1, AVal.int .i64 (2 * n + 5 + 2 * 0 + i), AVal.int .u64 (peek s.3 (2 * n + 5 + 2 * 0 + i)), AVal.int .u64 (peek s.3 (2 * n + 5 + 2 * 0 + i)), AVal.bool (inB s.3 (2 * n + 5 + 2 * 0 + i))]), some (Entry.ints (some .u64) s.3)]) (by kernel_rfl) ?_))
  have e : W (i + 1) = i + 1 := W_id (by omega)
  rw [e]
  refine ⟨⟨by omega, trivial⟩, le_go (fun h => by omega) (fun _ => ⟨⟨by omega, trivial⟩, ⟨⟨rfl, by omega⟩, trivial⟩, ⟨by omega, trivial⟩, ?_⟩)⟩
  cases h1 : ieq (i + 1) (2 * t) with
  | false => rw [h1] at hK; exact hK
  | true =>
    rw [h1] at hK
    refine ⟨⟨⟨rfl, hN⟩, trivial⟩, ?_⟩
    cases h2 : ieq ((freedL (seenM m n i s) N).length : Int) 0 with
    | false => rw [h2] at hK; unfold seenM slotA at h2; rw [h2]; exact hK
    | true => rw [h2] at hK; unfold seenM slotA at h2; rw [h2]; exact hK
theorem stC_ok (t n me sp i : Int) (R N ks fs gs : List Int) (s : MS) (m : List (Int × Int)) (j l : Nat) (K : AVal → Heap Ob → Prop) (ht : 1 ≤ t ∧ t ≤ 1000) (hn : 1 ≤ n ∧ n ≤ 1000) (hc : 0 ≤ s.c ∧ s.c ≤ 1000000) (hi : 2 * t ≤ i) (hl : 1 ≤ l ∧ gs.length = j + l) (hg : -1000000 ≤ List.getD gs (j + Int.toNat 0 * 1) 0 ∧ List.getD gs (j + Int.toNat 0 * 1) 0 ≤ 1000000)
    (hK : cond (ieq ((l - 1 : Nat) : Int) 0) (K (.bool true) (swC t n me sp (.slice 4 0 ks.length 1) R N ks fs gs (s.added (lifeA n gs j) 1) m i (j + 1) (l - 1))) (K (.bool false) (swC t n me sp (.slice 2 0 R.length 1) R N ks fs gs (s.added (lifeA n gs j) 1) m i (j + 1) (l - 1)))) : CallOk E35.I Try.prog 128 [.ptr 0 0, .ptr 10 0] (swC t n me sp (.slice 2 0 R.length 1) R N ks fs gs s m i j l) K := by
  refine CallOk.trim (callOk_of (E := E35) Try.checked.mixed (L := LL) (n := 10) (of_nf (q := ((((0 : Int) ≤ t ∧ t ≤ (100000 : Int)) ∧ (0 : Int) ≤ n ∧ n ≤ (100000 : Int)) ∧ True) ∧ bif ile (2 * t) i then bif ieq (↑l : Int) 0 then (List.length s.3 = List.length s.3 ∧ (0 : Int) ≤ s.4 ∧ s.4 ≤ (4611686018427387904 : Int)) ∧ K (AVal.bool true) [some (Entry.cells [AVal.ptr 1 0, AVal.ptr 3 0]), some (Entry.cells [AVal.int .i64 t, AVal.int .i64 n, AVal.int .i64 me, AVal.int .i64 sp, AVal.slice 4 0 (List.length ks) 1]), some (Entry.ints (some .i64) R), some (Entry.cells [AVal.int .i64 t, AVal.int .i64 n, AVal.slice 4 0 (List.length ks) 1, AVal.slice 5 0 (List.length fs) 1, AVal.slice 6 0 (List.length N) 1, AVal.map 7, AVal.int .i64 i, AVal.ptr 8 0]), some (Entry.ints (some .i64) ks), some (Entry.ints (some .i64) fs), some (Entry.ints (some .i64) N), some (Entry.imap .i64 none m), some (Entry.cells [AVal.int .i64 t, AVal.int .i64 n, AVal.slice 9 j l 1]), some (Entry.ints (some .i64) gs), some (Entry.cells [AVal.int .i64 s.1, AVal.int .i64 s.2, AVal.slice 11 0 (List.length s.3) 1, AVal.int .i64 (s.4 + 1), AVal.int .i64 1, AVal.int .i64 0, AVal.int .u64 (peek s.3 0), AVal.int .u64 (peek s.3 0), AVal.bool (inB s.3 0)]), some (Entry.ints (some .u64) s.3)] else ((0 : Int) ≤ (0 : Int) ∧ (0 : Int) < (↑l : Int)) ∧ j + Int.toNat 0 * (1 : Nat) < List.length gs ∧ ((((0 : Int) ≤ t ∧ t ≤ (100000 : Int)) ∧ ((0 : Int) ≤ n ∧ n ≤ (100000 : Int)) ∧ (-1099511627776 : Int) ≤ List.getD gs (j + Int.toNat 0 * 1) 0 ∧ List.getD gs (j + Int.toNat 0 * 1) (0 : Int) ≤ (1099511627776 : Int)) ∧ True) ∧ ((List.length s.3 = List.length s.3 ∧ (0 : Int) ≤ s.4 ∧ s.4 ≤ (4611686018427387904 : Int)) ∧ True) ∧ ((0 : Int) ≤ (1 : Int) ∧ Int.toNat (1 : Int) ≤ l) ∧ bif !ieq (↑(l - Int.toNat 1) : Int) 0 then K (AVal.bool false) [some (Entry.cells [AVal.ptr 1 0, AVal.ptr 3 0]), some (Entry.cells [AVal.int .i64 t, AVal.int .i64 n, AVal.int .i64 me, AVal.int .i64 sp, AVal.slice 2 0 (List.length R) 1]), some (Entry.ints (some .i64) R), some (Entry.cells [AVal.int .i64 t, AVal.int .i64 n, AVal.slice 4 0 (List.length ks) 1, AVal.slice 5 0 (List.length fs) 1, AVal.slice 6 0 (List.length N) 1, AVal.map 7, AVal.int .i64 i, AVal.ptr 8 0]), some (Entry.ints (some .i64) ks), some (Entry.ints (some .i64) fs), some (Entry.ints (some .i64) N), some (Entry.imap .i64 none m), some (Entry.cells [AVal.int .i64 t, AVal.int .i64 n, AVal.slice 9 (j + Int.toNat 1 * 1) (l - Int.toNat 1) 1]), some (Entry.ints (some .i64) gs), some (Entry.cells [AVal.int .i64 s.1, AVal.int .i64 s.2, AVal.slice 11 0 (List.length (putI s.3 (n + 4 + List.getD gs (j + Int.toNat 0 * 1) 0) (WU (peek s.3 (n + 4 + List.getD gs (j + Int.toNat 0 * 1) 0) + 1)))) 1, AVal.int .i64 (s.4 + 1), AVal.int .i64 4, AVal.int .i64 (n + 4 + List.getD gs (j + Int.toNat 0 * 1) 0), AVal.int .u64 (peek s.3 (n + 4 + List.getD gs (j + Int.toNat 0 * 1) 0)), AVal.int .u64 (bif inB s.3 (n + 4 + List.getD gs (j + Int.toNat 0 * 1) 0) then WU (peek s.3 (n + 4 + List.getD gs (j + Int.toNat 0 * 1) 0) + 1) else 0), AVal.bool (inB s.3 (n + 4 + List.getD gs (j + Int.toNat 0 * 1) 0))]), some (Entry.ints (some .u64) (putI s.3 (n + 4 + List.getD gs (j + Int.toNat 0 * 1) 0) (WU (peek s.3 (n + 4 + List.getD gs (j + Int.toNat 0 * 1) 0) + 1))))] else K (AVal.bool true) [some (Entry.cells [AVal.ptr 1 0, AVal.ptr 3 0]), some (Entry.cells [AVal.int .i64 t, AVal.int .i64 n, AVal.int .i64 me, AVal.int .i64 sp, AVal.slice 4 0 (List.length ks) 1]), some (Entry.ints (some .i64) R), some (Entry.cells [AVal.int .i64 t, AVal.int .i64 n, AVal.slice 4 0 (List.length ks) 1, AVal.slice 5 0 (List.length fs) 1, AVal.slice 6 0 (List.length N) 1, AVal.map 7, AVal.int .i64 i, AVal.ptr 8 0]), some (Entry.ints (some .i64) ks), some (Entry.ints (some .i64) fs), some (Entry.ints (some .i64) N), some (Entry.imap .i64 none m), some (Entry.cells [AVal.int .i64 t, AVal.int .i64 n, AVal.slice 9 (j + Int.toNat 1 * 1) (l - Int.toNat 1) 1]), some (Entry.ints (some .i64) gs), some (Entry.cells [AVal.int .i64 s.1, AVal.int .i64 s.2, AVal.slice 11 0 (List.length (putI s.3 (n + 4 + List.getD gs (j + Int.toNat 0 * 1) 0) (WU (peek s.3 (n + 4 + List.getD gs (j + Int.toNat 0 * 1) 0) + 1)))) 1, AVal.int .i64 (s.4 + 1), AVal.int .i64 4, AVal.int .i64 (n + 4 + List.getD gs (j + Int.toNat 0 * 1) 0), AVal.int .u64 (peek s.3 (n + 4 + List.getD gs (j + Int.toNat 0 * 1) 0)), AVal.int .u64 (bif inB s.3 (n + 4 + List.getD gs (j + Int.toNat 0 * 1) 0) then WU (peek s.3 (n + 4 + List.getD gs (j + Int.toNat 0 * 1) 0) + 1) else 0), AVal.bool (inB s.3 (n + 4 + List.getD gs (j + Int.toNat 0 * 1) 0))]), some (Entry.ints (some .u64) (putI s.3 (n + 4 + List.getD gs (j + Int.toNat 0 * 1) 0) (WU (peek s.3 (n + 4 + List.getD gs (j + Int.toNat 0 * 1) 0) + 1))))] else ((((0 : Int) ≤ t ∧ t ≤ (100000 : Int)) ∧ ((0 : Int) ≤ n ∧ n ≤ (100000 : Int)) ∧ ((-1099511627776 : Int) ≤ (0 : Int) ∧ (0 : Int) ≤ (1099511627776 : Int)) ∧ (-1099511627776 : Int) ≤ i ∧ i ≤ (1099511627776 : Int)) ∧ True) ∧ ((List.length s.3 = List.length s.3 ∧ (0 : Int) ≤ s.4 ∧ s.4 ≤ (4611686018427387904 : Int)) ∧ True) ∧ ((((0 : Int) ≤ t ∧ t ≤ (100000 : Int)) ∧ (0 : Int) ≤ n ∧ n ≤ (100000 : Int)) ∧ True) ∧ bif ieq (W (i + 1)) (2 * t) then False else K (AVal.bool false) [some (Entry.cells [AVal.ptr 1 0, AVal.ptr 3 0]), some (Entry.cells [AVal.int .i64 t, AVal.int .i64 n, AVal.int .i64 me, AVal.int .i64 sp, AVal.slice 2 0 (List.length R) 1]), some (Entry.ints (some .i64) R), some (Entry.cells [AVal.int .i64 t, AVal.int .i64 n, AVal.slice 4 0 (List.length ks) 1, AVal.slice 5 0 (List.length fs) 1, AVal.slice 6 0 (List.length N) 1, AVal.map 7, AVal.int .i64 (W (i + 1)), AVal.ptr 8 0]), some (Entry.ints (some .i64) ks), some (Entry.ints (some .i64) fs), some (Entry.ints (some .i64) N), some (Entry.imap .i64 none (mput m (W (peek s.3 (2 * n + 5 + 2 * 0 + i))) 1)), some (Entry.cells [AVal.int .i64 t, AVal.int .i64 n, AVal.slice 9 j l 1]), some (Entry.ints (some .i64) gs), some (Entry.cells [AVal.int .i64 s.1, AVal.int .i64 s.2, AVal.slice 11 0 (List.length s.3) 1, AVal.int .i64 (s.4 + 1), AVal.int .i64 1, AVal.int .i64 (2 * n + 5 + 2 * 0 + i), AVal.int .u64 (peek s.3 (2 * n + 5 + 2 * 0 + i)), AVal.int .u64 (peek s.3 (2 * n + 5 + 2 * 0 + i)), AVal.bool (inB s.3 (2 * n + 5 + 2 * 0 + i))]), some (Entry.ints (some .u64) s.3)]) (by kernel_rfl) ?_))
  refine ⟨⟨by omega, trivial⟩, le_go (fun h => eq_go (fun h0 => by omega) (fun _ => ⟨by omega, by omega, ⟨by omega, trivial⟩, ⟨⟨rfl, by omega⟩, trivial⟩, by omega, ?_⟩)) (fun h => by omega)⟩
  have e : l - Int.toNat 1 = l - 1 := rfl
  rw [e]
  cases h1 : ieq ((l - 1 : Nat) : Int) 0 with
  | false => rw [h1] at hK; exact hK
  | true => rw [h1] at hK; exact hK
theorem swS1_ok : Spec.ok E35.I Try.prog 128 swS1 := by
  intro args h o ho K hK
  unfold swS1 at ho
  split at ho
  case h_2 => cases ho
  split at ho
  case h_2 => cases ho
  rename_i hm
  simp only [Option.some.injEq] at ho; subst ho
  obtain ⟨⟨⟨hl, hk⟩, ht, hn, hc, hR⟩, hK⟩ := hK
  have hh := memL_eq hm hl
  simp only [List.cons.injEq, and_true] at hh
  obtain ⟨rfl, rfl⟩ := hh
  subst hk
  exact stA_ok _ _ _ _ _ _ K ht hn hc hR hK
theorem swS2_ok : Spec.ok E35.I Try.prog 128 swS2 := by
  intro args h o ho K hK
  unfold swS2 at ho
  split at ho
  case h_2 => cases ho
  split at ho
  case h_2 => cases ho
  rename_i hm
  simp only [Option.some.injEq] at ho; subst ho
  obtain ⟨⟨⟨hl, hk, hk', h1, h2⟩, ht, hn, hc, hN, hi⟩, hK⟩ := hK
  have hh := memL_eq hm hl
  simp only [List.cons.injEq, and_true] at hh
  obtain ⟨rfl, rfl⟩ := hh
  subst hk hk' h1 h2
  exact stB_ok _ _ _ _ _ _ _ _ _ K ht hn hc hN hi hK
theorem swS3_ok : Spec.ok E35.I Try.prog 128 swS3 := by
  intro args h o ho K hK
  unfold swS3 at ho
  split at ho
  case h_2 => cases ho
  split at ho
  case h_2 => cases ho
  rename_i hm
  simp only [Option.some.injEq] at ho; subst ho
  obtain ⟨⟨⟨hl, hk, hk1, hk2, hk3, h1, h2, h3, h4⟩, ht, hn, hc, hi, hl', hg⟩, hK⟩ := hK
  have hh := memL_eq hm hl
  simp only [List.cons.injEq, and_true] at hh
  obtain ⟨rfl, rfl⟩ := hh
  subst hk hk1 hk2 hk3 h1 h2 h3 h4
  exact stC_ok _ _ _ _ _ _ _ _ _ _ _ _ _ _ K ht hn hc hi hl' hg hK
theorem swStep_ok : Spec.ok E35.I Try.prog 128 swStepS := by
  intro args h o ho
  unfold swStepS at ho
  split at ho
  · rename_i e; cases ho; exact swS1_ok _ _ _ e
  · split at ho
    · rename_i e; cases ho; exact swS2_ok _ _ _ e
    · exact swS3_ok _ _ _ ho
noncomputable def E36 := E35.addS 128 swStepS swStep_ok
end Go.Sh

/- A machine that takes a node: a step. -/
namespace Go.Sh
open Go Go.Proofs
variable [Con]
def alH (t n : Int) (x : AL) (s : MS) : Heap Ob := [some (.cells [.int .i64 t, .int .i64 n, .int .i64 x.got, .int .i64 x.at', .int .i64 x.left, .int .u64 x.found, .bool x.free]), some (.cells [.int .i64 s.t, .int .i64 s.n, .slice 2 0 s.xs.length 1, .int .i64 s.c, .int .i64 s.k, .int .i64 s.a, .int .u64 s.o, .int .u64 s.w, .bool s.ok]), some (.ints (some .u64) s.xs)]
/- OPQ -/
def oddB (y : Int) : Bool := !ieq (Int.tmod y 2) 0
/- OPQ -/
def nextN (n a : Int) : Int := Int.tmod a n + 1
def alS0 (t n : Int) (x : AL) (s : MS) : Out Ob := .ite x.free
  (.ite (casB s.xs (n + 4 + x.at') x.found) (.ret (.bool true) (alH t n ⟨x.at', x.at', x.left, x.found, true⟩ (s.cased (n + 4 + x.at') x.found (WU (x.found + 1)))))
    (.ret (.bool (ile (x.left - 1) 0)) (alH t n ⟨x.got, nextN n x.at', x.left - 1, x.found, false⟩ (s.cased (n + 4 + x.at') x.found (WU (x.found + 1))))))
  (.ite (oddB (peek s.xs (n + 4 + x.at'))) (.ret (.bool (ile (x.left - 1) 0)) (alH t n ⟨x.got, nextN n x.at', x.left - 1, peek s.xs (n + 4 + x.at'), false⟩ (s.loadd (n + 4 + x.at'))))
    (.ret (.bool false) (alH t n ⟨x.got, x.at', x.left, peek s.xs (n + 4 + x.at'), true⟩ (s.loadd (n + 4 + x.at')))))
theorem al_step (t n : Int) (x : AL) (s : MS) (K : AVal → Heap Ob → Prop) (ht : 1 ≤ t ∧ t ≤ 1000) (hn : 1 ≤ n ∧ n ≤ 1000) (ha : 1 ≤ x.at' ∧ x.at' ≤ n) (hl : 0 ≤ x.left ∧ x.left ≤ 1000) (hc : 0 ≤ s.c ∧ s.c ≤ 1000000) (hK : (alS0 t n x s).run K) : CallOk E36.I Try.prog 139 [.ptr 0 0, .ptr 1 0] (alH t n x s) K := by
  refine CallOk.trim (callOk_of (E := E36) Try.checked.mixed (L := LL) (n := 10) (of_nf (q := bif !x.5 then ((((0 : Int) ≤ t ∧ t ≤ (100000 : Int)) ∧ ((0 : Int) ≤ n ∧ n ≤ (100000 : Int)) ∧ (-1099511627776 : Int) ≤ x.2 ∧ x.2 ≤ (1099511627776 : Int)) ∧ True) ∧ ((List.length s.3 = List.length s.3 ∧ (0 : Int) ≤ s.4 ∧ s.4 ≤ (4611686018427387904 : Int)) ∧ True) ∧ (2 : Int) ≠ (0 : Int) ∧ bif !ieq (Int.tmod (peek s.3 (n + 4 + x.2)) 2) 0 then n ≠ (0 : Int) ∧ K (AVal.bool (ile (W (x.3 - 1)) 0)) [some (Entry.cells [AVal.int .i64 t, AVal.int .i64 n, AVal.int .i64 x.1, AVal.int .i64 (W (Int.tmod x.2 n + 1)), AVal.int .i64 (W (x.3 - 1)), AVal.int .u64 (peek s.3 (n + 4 + x.2)), AVal.bool false]), some (Entry.cells [AVal.int .i64 s.1, AVal.int .i64 s.2, AVal.slice 2 0 (List.length s.3) 1, AVal.int .i64 (s.4 + 1), AVal.int .i64 1, AVal.int .i64 (n + 4 + x.2), AVal.int .u64 (peek s.3 (n + 4 + x.2)), AVal.int .u64 (peek s.3 (n + 4 + x.2)), AVal.bool (inB s.3 (n + 4 + x.2))]), some (Entry.ints (some .u64) s.3)] else K (AVal.bool false) [some (Entry.cells [AVal.int .i64 t, AVal.int .i64 n, AVal.int .i64 x.1, AVal.int .i64 x.2, AVal.int .i64 x.3, AVal.int .u64 (peek s.3 (n + 4 + x.2)), AVal.bool (ieq (Int.tmod (peek s.3 (n + 4 + x.2)) 2) 0)]), some (Entry.cells [AVal.int .i64 s.1, AVal.int .i64 s.2, AVal.slice 2 0 (List.length s.3) 1, AVal.int .i64 (s.4 + 1), AVal.int .i64 1, AVal.int .i64 (n + 4 + x.2), AVal.int .u64 (peek s.3 (n + 4 + x.2)), AVal.int .u64 (peek s.3 (n + 4 + x.2)), AVal.bool (inB s.3 (n + 4 + x.2))]), some (Entry.ints (some .u64) s.3)] else ((((0 : Int) ≤ t ∧ t ≤ (100000 : Int)) ∧ ((0 : Int) ≤ n ∧ n ≤ (100000 : Int)) ∧ (-1099511627776 : Int) ≤ x.2 ∧ x.2 ≤ (1099511627776 : Int)) ∧ True) ∧ ((List.length s.3 = List.length s.3 ∧ (0 : Int) ≤ s.4 ∧ s.4 ≤ (4611686018427387904 : Int)) ∧ True) ∧ bif casB s.3 (n + 4 + x.2) x.4 then K (AVal.bool true) [some (Entry.cells [AVal.int .i64 t, AVal.int .i64 n, AVal.int .i64 x.2, AVal.int .i64 x.2, AVal.int .i64 x.3, AVal.int .u64 x.4, AVal.bool x.5]), some (Entry.cells [AVal.int .i64 s.1, AVal.int .i64 s.2, AVal.slice 2 0 (List.length (bif casB s.3 (n + 4 + x.2) x.4 then putI s.3 (n + 4 + x.2) (WU (x.4 + 1)) else s.3)) 1, AVal.int .i64 (s.4 + 1), AVal.int .i64 3, AVal.int .i64 (n + 4 + x.2), AVal.int .u64 (peek s.3 (n + 4 + x.2)), AVal.int .u64 (bif inB s.3 (n + 4 + x.2) then WU (x.4 + 1) else 0), AVal.bool (casB s.3 (n + 4 + x.2) x.4)]), some (Entry.ints (some .u64) (bif casB s.3 (n + 4 + x.2) x.4 then putI s.3 (n + 4 + x.2) (WU (x.4 + 1)) else s.3))] else n ≠ (0 : Int) ∧ K (AVal.bool (ile (W (x.3 - 1)) 0)) [some (Entry.cells [AVal.int .i64 t, AVal.int .i64 n, AVal.int .i64 x.1, AVal.int .i64 (W (Int.tmod x.2 n + 1)), AVal.int .i64 (W (x.3 - 1)), AVal.int .u64 x.4, AVal.bool false]), some (Entry.cells [AVal.int .i64 s.1, AVal.int .i64 s.2, AVal.slice 2 0 (List.length (bif casB s.3 (n + 4 + x.2) x.4 then putI s.3 (n + 4 + x.2) (WU (x.4 + 1)) else s.3)) 1, AVal.int .i64 (s.4 + 1), AVal.int .i64 3, AVal.int .i64 (n + 4 + x.2), AVal.int .u64 (peek s.3 (n + 4 + x.2)), AVal.int .u64 (bif inB s.3 (n + 4 + x.2) then WU (x.4 + 1) else 0), AVal.bool (casB s.3 (n + 4 + x.2) x.4)]), some (Entry.ints (some .u64) (bif casB s.3 (n + 4 + x.2) x.4 then putI s.3 (n + 4 + x.2) (WU (x.4 + 1)) else s.3))]) (by kernel_rfl) ?_))
  obtain ⟨got, at', left, found, free⟩ := x
  dsimp only at ha hl ⊢
  have hm := tmod_in (x := at') (t := n) (by omega) (by omega)
  have e1 : W (left - 1) = left - 1 := W_id (by omega)
  have e2 : W (Int.tmod at' n + 1) = nextN n at' := W_id (by show _ ≤ Int.tmod at' n + 1 ∧ Int.tmod at' n + 1 ≤ _; omega)
  rw [e1, e2]
  unfold alS0 at hK
  dsimp only [Out.run] at hK
  cases free with
  | false =>
    simp only [cond_false, Bool.not_false, cond_true] at hK ⊢
    refine ⟨⟨by omega, trivial⟩, ⟨⟨trivial, by omega⟩, trivial⟩, by omega, ?_⟩
    unfold oddB at hK
    generalize ho : ieq (Int.tmod (peek s.xs (n + 4 + at')) 2) 0 = b at hK ⊢
    cases b with
    | false => exact ⟨by omega, hK⟩
    | true => exact hK
  | true =>
    simp only [cond_true, Bool.not_true, cond_false] at hK ⊢
    refine ⟨⟨by omega, trivial⟩, ⟨⟨trivial, by omega⟩, trivial⟩, ?_⟩
    unfold alH at hK
    cases hb : casB s.xs (n + 4 + at') found with
    | true =>
      rw [hb] at hK
      simp only [cond_true] at hK ⊢
      unfold MS.cased at hK
      rw [hb] at hK
      exact hK
    | false =>
      rw [hb] at hK
      simp only [cond_false] at hK ⊢
      unfold MS.cased at hK
      rw [hb] at hK
      exact ⟨by omega, hK⟩
noncomputable def alS : Spec Ob := fun args h => match args, h with
  | [.ptr 0 0, .ptr 1 0], [some (.cells [.int .i64 t, .int .i64 n, .int .i64 got, .int .i64 at', .int .i64 left, .int .u64 found, .bool free]), e1, e2] => match memL 2 [e1, e2] with
    | some (l, s) => some (.pre (l = s.xs.length ∧ (1 ≤ t ∧ t ≤ 1000) ∧ (1 ≤ n ∧ n ≤ 1000) ∧ (1 ≤ at' ∧ at' ≤ n) ∧ (0 ≤ left ∧ left ≤ 1000) ∧ (0 ≤ s.c ∧ s.c ≤ 1000000)) (alS0 t n ⟨got, at', left, found, free⟩ s))
    | none => none
  | _, _ => none
theorem al_ok : Spec.ok E36.I Try.prog 139 alS := by
  intro args h o ho K hK
  unfold alS at ho
  split at ho
  case h_2 => cases ho
  split at ho
  case h_2 => cases ho
  rename_i hm
  simp only [Option.some.injEq] at ho; subst ho
  obtain ⟨⟨hl, ht, hn, ha, hl', hc⟩, hK⟩ := hK
  have hh := memL_eq hm hl
  simp only [List.cons.injEq, and_true] at hh
  obtain ⟨rfl, rfl⟩ := hh
  exact al_step _ _ _ _ K ht hn ha hl' hc hK
noncomputable def E42 := E36.addS 139 alS al_ok
end Go.Sh

/- Rows of what was done: lemmas. -/
namespace Go.Sh
open Go Go.Proofs
variable [Con]
def mH (s : MS) : Heap Ob := [some (.cells [.int .i64 s.t, .int .i64 s.n, .slice 1 0 s.xs.length 1, .int .i64 s.c, .int .i64 s.k, .int .i64 s.a, .int .u64 s.o, .int .u64 s.w, .bool s.ok]), some (.ints (some .u64) s.xs)]
def rowsFrom (n : Int) : Nat → List Int → List (List Int)
  | _, [] => []
  | i, y :: r => [1, slotA n i, y, y, 1] :: rowsFrom n (i + 1) r
def rowsG (n : Int) (gs : List (Int × Int)) : List (List Int) := gs.map fun g => [4, n + 4 + g.1, g.2, WU (g.2 + 1), 1]
def seenOf (ys : List Int) : List (Int × Int) := ys.foldl (fun m y => mput m (W y) 1) []
theorem okW_put {xs : List Int} (h : okW xs) {a x : Int} (hx : 0 ≤ x ∧ x ≤ 18446744073709551615) : okW (putI xs a x) := by
  unfold putI
  split
  · refine ⟨fun y hy => ?_⟩
    rcases List.mem_or_eq_of_mem_set hy with h1 | h1
    · exact h.h y h1
    · subst h1; exact hx
  · exact h
theorem WU_rng (x : Int) : 0 ≤ WU x ∧ WU x ≤ 18446744073709551615 := by
  unfold WU
  simp only [IntKind.wrap, IntKind.bits, IntKind.signed]
  simp
  omega
theorem okW_snoc {xs : List Int} (h : okW xs) {y : Int} (hy : 0 ≤ y ∧ y ≤ 18446744073709551615) : okW (xs ++ [y]) := by
  refine ⟨fun x hx => ?_⟩
  rcases List.mem_append.1 hx with h1 | h1
  · exact h.h x h1
  · rw [List.mem_singleton] at h1; subst h1; exact hy
theorem rowsFrom_snoc (n : Int) (y : Int) (ys : List Int) : ∀ i : Nat, rowsFrom n i (ys ++ [y]) = rowsFrom n i ys ++ [[1, slotA n ((i + ys.length : Nat) : Int), y, y, 1]] := by
  induction ys with
  | nil => intro i; rfl
  | cons z r ih =>
    intro i
    show [1, slotA n i, z, z, 1] :: rowsFrom n (i + 1) (r ++ [y]) = _
    rw [ih (i + 1)]
    have e : i + 1 + r.length = i + (z :: r).length := by rw [List.length_cons]; omega
    rw [e]; rfl
theorem rowsFrom_len (n : Int) (ys : List Int) : ∀ i : Nat, (rowsFrom n i ys).length = ys.length := by
  induction ys with
  | nil => intro i; rfl
  | cons z r ih => intro i; show (rowsFrom n (i + 1) r).length + 1 = _; rw [ih]; rfl
theorem rowsG_snoc (n : Int) (gs : List (Int × Int)) (g : Int × Int) : rowsG n (gs ++ [g]) = rowsG n gs ++ [[4, n + 4 + g.1, g.2, WU (g.2 + 1), 1]] := by
  unfold rowsG; rw [List.map_append]; rfl
theorem seenOf_snoc (ys : List Int) (y : Int) : seenOf (ys ++ [y]) = mput (seenOf ys) (W y) 1 := by
  unfold seenOf; rw [List.foldl_append]; rfl
/- OPQ -/
def ysOf (A : List (List Int)) (t : Int) : List Int := (A.take (2 * t).toNat).map a2
/- OPQ -/
def inY (ys : List Int) (r : Int) : Bool := ys.any fun y => ieq y (WU r)
/- OPQ -/
def keptY (ys : List Int) (R : List Int) : List Int := R.filter (inY ys)
/- OPQ -/
def freedY (ys : List Int) (R : List Int) : List Int := R.filter fun r => !inY ys r
theorem tkk {A : List (List Int)} {i k a : Int} {r : List Int} (hi : 0 ≤ i) (h : A[i.toNat]? = some r) (hk : a0 r = k) (ha : a1 r = a) : tTook A ⟨i, false, false⟩ k a = ⟨i + 1, false, false⟩ ∧ tGot A ⟨i, false, false⟩ k a = r := by
  have hlt : i.toNat < A.length := by
    rcases Nat.lt_or_ge i.toNat A.length with h1 | h1
    · exact h1
    · rw [List.getElem?_eq_none h1] at h; cases h
  have hl : ile (A.length : Int) i = false := by rw [ile_eq]; exact decide_eq_false (by omega)
  have hr : tRow A ⟨i, false, false⟩ = r := by
    unfold tRow
    show List.getD A (0 + i.toNat) [] = r
    rw [Nat.zero_add, List.getD_eq_getElem?_getD, h]; rfl
  have hh : tHit A ⟨i, false, false⟩ k a = true := by
    unfold tHit
    rw [hr, hl, hk, ha, ieq_self, ieq_self]; rfl
  constructor
  · unfold tTook; rw [hh, hl]; rfl
  · unfold tGot; rw [hh, hr]; rfl
theorem tstt {A : List (List Int)} {i a x : Int} {r : List Int} (hi : 0 ≤ i) (h : A[i.toNat]? = some r) (hk : a0 r = 2) (ha : a1 r = a) (hx : a4 r = true → a3 r = x) : tStor A ⟨i, false, false⟩ a x = ⟨i + 1, false, false⟩ := by
  obtain ⟨e1, e2⟩ := tkk hi h hk ha
  unfold tStor
  rw [e1, e2]
  cases e : a4 r with
  | false => rfl
  | true => rw [hx e, ieq_self]; rfl
theorem tadd {A : List (List Int)} {i a x : Int} {r : List Int} (hi : 0 ≤ i) (h : A[i.toNat]? = some r) (hk : a0 r = 4) (ha : a1 r = a) (hx : a4 r = true → a3 r = WU (a2 r + x)) : tAdd A ⟨i, false, false⟩ a x = ⟨i + 1, false, false⟩ := by
  obtain ⟨e1, e2⟩ := tkk hi h hk ha
  unfold tAdd
  rw [e1, e2]
  cases e : a4 r with
  | false => rfl
  | true => rw [hx e, ieq_self]; rfl
theorem rowsFrom_get (n : Int) (ys : List Int) : ∀ (k i : Nat) (h : i < ys.length), (rowsFrom n k ys)[i]? = some [1, slotA n ((k + i : Nat) : Int), ys[i], ys[i], 1] := by
  induction ys with
  | nil => intro k i h; cases h
  | cons z r ih =>
    intro k i h
    cases i with
    | zero => rfl
    | succ i =>
      have h' : i < r.length := by simpa using h
      have := ih (k + 1) i h'
      have e : k + 1 + i = k + (i + 1) := by omega
      rw [e] at this
      exact this
theorem rowsG_get (n : Int) (gs : List (Int × Int)) (j : Nat) (h : j < gs.length) : (rowsG n gs)[j]? = some [4, n + 4 + gs[j].1, gs[j].2, WU (gs[j].2 + 1), 1] := by
  unfold rowsG
  rw [List.getElem?_map, List.getElem?_eq_getElem h]; rfl
theorem inY_snoc (ys : List Int) (y r : Int) : inY (ys ++ [y]) r = (bif inY ys r then true else ieq y (WU r)) := by
  unfold inY
  rw [List.any_append]
  cases (ys.any fun y => ieq y (WU r)) <;> simp
theorem keptY_snoc (ys R : List Int) (r : Int) : keptY ys (R ++ [r]) = keptY ys R ++ (bif inY ys r then [r] else []) := by
  unfold keptY
  rw [List.filter_append]
  cases h : inY ys r <;> simp [h]
theorem freedY_snoc (ys R : List Int) (r : Int) : freedY ys (R ++ [r]) = freedY ys R ++ (bif inY ys r then [] else [r]) := by
  unfold freedY
  rw [List.filter_append]
  cases h : inY ys r <;> simp [h]
theorem rowsFrom_map (n : Int) (ys : List Int) : ∀ k : Nat, (rowsFrom n k ys).map a2 = ys := by
  induction ys with
  | nil => intro k; rfl
  | cons z r ih => intro k; show a2 [1, slotA n k, z, z, 1] :: (rowsFrom n (k + 1) r).map a2 = _; rw [ih]; rfl
theorem ysOf_rows {A : List (List Int)} {n t : Int} {ys : List Int} {G : List (List Int)} (hA : A = rowsFrom n 0 ys ++ G) (hl : (ys.length : Int) = 2 * t) : ysOf A t = ys := by
  unfold ysOf
  have e : (2 * t).toNat = (rowsFrom n 0 ys).length := by rw [rowsFrom_len]; omega
  rw [e, hA, List.take_left', rowsFrom_map]
  rfl
theorem mget_mput (m : List (Int × Int)) (k v r : Int) : mget (mput m k v) r = if r = k then some v else mget m r := by
  induction m with
  | nil =>
    unfold mput mget
    by_cases h : r = k
    · subst h; simp
    · have h' : ¬ k = r := fun c => h c.symm
      simp [h, h']
  | cons x m ih =>
    unfold mput
    by_cases hx : x.1 = k
    · rw [if_pos hx]
      unfold mget
      by_cases h : r = k
      · subst h; simp
      · have h' : ¬ k = r := fun c => h c.symm
        have h2 : ¬ x.1 = r := by rw [hx]; exact h'
        simp [h, h', h2]
    · rw [if_neg hx]
      unfold mget at ih ⊢
      by_cases h2 : x.1 = r
      · have h3 : ¬ r = k := by rw [← h2]; exact hx
        simp [h2, h3]
      · simp only [List.find?_cons, beq_iff_eq, h2]
        have h4 : (x.1 == r) = false := by simpa using h2
        rw [h4]
        exact ih
theorem W_small {y r : Int} (hy : 0 ≤ y ∧ y ≤ 18446744073709551615) (hr : 1 ≤ r ∧ r ≤ 1000) : W y = r ↔ y = r := by
  unfold W
  simp only [IntKind.wrap, IntKind.bits, IntKind.signed]
  simp
  split <;> omega
theorem mhas_mput (m : List (Int × Int)) (k r : Int) : mhas (mput m k 1) r = (decide (r = k) || mhas m r) := by
  unfold mhas
  rw [mget_mput]
  by_cases h : r = k
  · rw [if_pos h, decide_eq_true h]; rfl
  · rw [if_neg h, decide_eq_false h]; rfl
theorem mhas_fold (r : Int) (hr : 1 ≤ r ∧ r ≤ 1000) (ys : List Int) : ∀ m : List (Int × Int), okW ys → mhas (ys.foldl (fun m y => mput m (W y) 1) m) r = (mhas m r || inY ys r) := by
  induction ys with
  | nil => intro m _; unfold inY; simp
  | cons y l ih =>
    intro m h
    have hl : okW l := ⟨fun x hx => h.h x (List.mem_cons_of_mem _ hx)⟩
    have hy := h.h y List.mem_cons_self
    rw [List.foldl_cons, ih _ hl, mhas_mput]
    have e : decide (r = W y) = ieq y (WU r) := by
      have w : WU r = r := WU_in (by omega)
      rw [w, ieq_eq]
      have := W_small hy hr
      by_cases c : y = r
      · have c2 : r = W y := (this.2 c).symm
        rw [decide_eq_true c2]; simp [c]
      · have c2 : ¬ r = W y := fun d => c (this.1 d.symm)
        rw [decide_eq_false c2]; simp [c]
    rw [e]
    unfold inY
    simp only [List.any_cons]
    cases ieq y (WU r) <;> cases mhas m r <;> simp
theorem mhas_seen {ys : List Int} (h : okW ys) {r : Int} (hr : 1 ≤ r ∧ r ≤ 1000) : mhas (seenOf ys) r = inY ys r := by
  unfold seenOf
  rw [mhas_fold r hr ys [] h]
  have : mhas [] r = false := rfl
  rw [this, Bool.false_or]
theorem kept_eq {ys R : List Int} (h : okW ys) (hR : ∀ r ∈ R, 1 ≤ r ∧ r ≤ 1000) : keptL (seenOf ys) R = keptY ys R := by
  unfold keptL keptY
  exact List.filter_congr fun r hr => mhas_seen h (hR r hr)
theorem freed_eq {ys R : List Int} (h : okW ys) (hR : ∀ r ∈ R, 1 ≤ r ∧ r ≤ 1000) : freedL (seenOf ys) R = freedY ys R := by
  unfold freedL freedY
  exact List.filter_congr fun r hr => by rw [mhas_seen h (hR r hr)]
theorem mkL_in (n sp : Int) (ns : List Int) (hn : 1 ≤ n) (hv : ∀ v ∈ ns, 0 ≤ v ∧ v ≤ 255) : ∀ r ∈ mkL n sp ns, 1 ≤ r ∧ r ≤ n := by
  have key : ∀ (l R : List Int), (∀ v ∈ l, 0 ≤ v ∧ v ≤ 255) → (∀ r ∈ R, 1 ≤ r ∧ r ≤ n) → ∀ r ∈ l.foldl (mkStep n sp) R, 1 ≤ r ∧ r ≤ n := by
    intro l
    induction l with
    | nil => intro R _ hR; exact hR
    | cons v l ih =>
      intro R hl hR
      rw [List.foldl_cons]
      refine ih _ (fun x hx => hl x (List.mem_cons_of_mem _ hx)) ?_
      have hk : 1 ≤ nodeK n v ∧ nodeK n v ≤ n := by
        have h0 := hl v List.mem_cons_self
        have := tmod_in (x := v) (t := n) h0.1 hn
        unfold nodeK; omega
      intro r hr
      unfold mkStep at hr
      cases h1 : ieq (nodeK n v) sp <;> cases h2 : hasB R (nodeK n v) <;> rw [h1] at hr <;> try rw [h2] at hr
      all_goals simp only [cond_true, cond_false] at hr
      all_goals first
        | exact hR r hr
        | (rcases List.mem_append.1 hr with h | h
           · exact hR r h
           · rw [List.mem_singleton] at h; rw [h]; exact hk)
  exact key ns [] hv (fun r hr => by cases hr)
end Go.Sh

