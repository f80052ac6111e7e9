/- A node's word: told, and put. -/
import Derived.Test.YtjklokfpnbnndaaZM11
set_option linter.all false
set_option linter.unusedVariables false
set_option linter.unusedSectionVars false
namespace Go.Sh
open Go Go.Proofs
variable [Con]
def getV (x : Int) : AVal := .agg [.int .i64 (cutI x 0 10), .int .i64 (cutI x 10 9), .bool (ieq (cutI x 19 1) 1), .int .i64 (cutI x 20 5), .int .i64 (cutI x 25 18)]
def getS : RSpec Unit := fun args h => match args, h with
  | [.int .u64 x], [] => some (True, .agg [.int .i64 (cutI x 0 10), .int .i64 (cutI x 10 9), .bool (ieq (cutI x 19 1) 1), .int .i64 (cutI x 20 5), .int .i64 (cutI x 25 18)])
  | _, _ => none
set_option maxRecDepth 100000 in
theorem get_ok : Spec.ok E11.I Try.prog 145 getS.spec := by
  intro args h o ho K hK
  unfold RSpec.spec at ho
  split at ho
  case h_2 => cases ho
  rename_i p v hv
  unfold getS at hv
  split at hv
  case h_2 => cases hv
  rename_i x
  simp only [Option.some.injEq, Prod.mk.injEq] at hv
  obtain ⟨rfl, rfl⟩ := hv
  simp only [Option.some.injEq] at ho; subst ho
  obtain ⟨_, hK⟩ := hK
  refine CallOk.trim (callOk_of (E := E11) Try.checked.mixed (L := LL) (n := 10) (of_nf (q := ((0 : Int) ≤ (0 : Int) ∧ (0 : Int) < (↑5 : Int)) ∧ ((0 : Int) ≤ (0 : Int) ∧ (0 : Int) < (↑1 : Int)) ∧ 1 + (1 : Nat) ≤ (4294967296 : Nat) ∧ ((0 : Int) ≤ W (0 + 1) ∧ W (0 + 1) < (↑5 : Int)) ∧ ((0 : Int) ≤ W (0 + 1) ∧ W (0 + 1) < (↑(1 + 1) : Int)) ∧ 1 + 1 + (1 : Nat) ≤ (4294967296 : Nat) ∧ ((0 : Int) ≤ W (W (0 + 1) + 1) ∧ W (W (0 + 1) + 1) < (↑5 : Int)) ∧ ((0 : Int) ≤ W (W (0 + 1) + 1) ∧ W (W (0 + 1) + 1) < (↑(1 + 1 + 1) : Int)) ∧ 1 + 1 + 1 + (1 : Nat) ≤ (4294967296 : Nat) ∧ ((0 : Int) ≤ W (W (W (0 + 1) + 1) + 1) ∧ W (W (W (0 + 1) + 1) + 1) < (↑5 : Int)) ∧ ((0 : Int) ≤ W (W (W (0 + 1) + 1) + 1) ∧ W (W (W (0 + 1) + 1) + 1) < (↑(1 + 1 + 1 + 1) : Int)) ∧ 1 + 1 + 1 + 1 + (1 : Nat) ≤ (4294967296 : Nat) ∧ ((0 : Int) ≤ W (W (W (W (0 + 1) + 1) + 1) + 1) ∧ W (W (W (W (0 + 1) + 1) + 1) + 1) < (↑5 : Int)) ∧ ((0 : Int) ≤ W (W (W (W (0 + 1) + 1) + 1) + 1) ∧ W (W (W (W (0 + 1) + 1) + 1) + 1) < (↑(1 + 1 + 1 + 1 + 1) : Int)) ∧ 1 + 1 + 1 + 1 + 1 + (1 : Nat) ≤ (4294967296 : Nat) ∧ ((0 : Int) ≤ (0 : Int) ∧ (0 : Int) < (↑(1 + 1 + 1 + 1 + 1 + 1) : Int)) ∧ (((0 : Int) ≤ (0 : Int) ∧ (0 : Int) ≤ (63 : Int)) ∧ (0 : Int) ≤ (10 : Int) ∧ (10 : Int) ≤ (62 : Int)) ∧ ((0 : Int) ≤ (1 : Int) ∧ (1 : Int) < (↑(1 + 1 + 1 + 1 + 1 + 1) : Int)) ∧ (((0 : Int) ≤ W (0 + 10) ∧ W (0 + 10) ≤ (63 : Int)) ∧ (0 : Int) ≤ (9 : Int) ∧ (9 : Int) ≤ (62 : Int)) ∧ ((0 : Int) ≤ (2 : Int) ∧ (2 : Int) < (↑(1 + 1 + 1 + 1 + 1 + 1) : Int)) ∧ (((0 : Int) ≤ W (W (0 + 10) + 9) ∧ W (W (0 + 10) + 9) ≤ (63 : Int)) ∧ (0 : Int) ≤ (1 : Int) ∧ (1 : Int) ≤ (62 : Int)) ∧ ((0 : Int) ≤ (3 : Int) ∧ (3 : Int) < (↑(1 + 1 + 1 + 1 + 1 + 1) : Int)) ∧ (((0 : Int) ≤ W (W (W (0 + 10) + 9) + 1) ∧ W (W (W (0 + 10) + 9) + 1) ≤ (63 : Int)) ∧ (0 : Int) ≤ (5 : Int) ∧ (5 : Int) ≤ (62 : Int)) ∧ ((0 : Int) ≤ (4 : Int) ∧ (4 : Int) < (↑(1 + 1 + 1 + 1 + 1 + 1) : Int)) ∧ (((0 : Int) ≤ W (W (W (W (0 + 10) + 9) + 1) + 5) ∧ W (W (W (W (0 + 10) + 9) + 1) + 5) ≤ (63 : Int)) ∧ (0 : Int) ≤ (18 : Int) ∧ (18 : Int) ≤ (62 : Int)) ∧ K (AVal.agg [AVal.int .i64 (cutI x 0 10), AVal.int .i64 (cutI x (W (0 + 10)) 9), AVal.bool (ieq (cutI x (W (W (0 + 10) + 9)) 1) 1), AVal.int .i64 (cutI x (W (W (W (0 + 10) + 9) + 1)) 5), AVal.int .i64 (cutI x (W (W (W (W (0 + 10) + 9) + 1) + 5)) 18)]) []) (by kernel_rfl) ?_))
  simp (disch := omega) only [W, W_in, Int.reduceAdd, Int.zero_add]
  repeat refine ⟨by omega, ?_⟩
  exact hK
theorem fitI_true {n w : Int} : fitI n w = true ↔ 0 ≤ n ∧ n < 2 ^ w.toNat := by
  unfold fitI; simp only [ile_eq, ilt_eq, Bool.and_eq_true, decide_eq_true_eq]
theorem or_sh {a : Nat} {x y p s q : Int} (e : p = 2 ^ a) (hx : 0 ≤ x ∧ x < p) (hy : 0 ≤ y) (h : y * p + x ≤ 18446744073709551615) (hs : s = x + y * p) (eq : q = p) :
    WU (((BitVec.ofInt 64 x ||| BitVec.ofInt 64 (WU (WU y * q))).toNat : Int)) = s := by
  subst eq
  have hya : 0 ≤ y * q := Int.mul_nonneg hy (by omega)
  have h1 : y ≤ y * q := by
    have := Int.mul_le_mul_of_nonneg_left (show (1 : Int) ≤ q by omega) hy
    omega
  have e1 : WU y = y := WU_in (by omega)
  rw [e1]
  have e2 : WU (y * q) = y * q := WU_in (by omega)
  rw [e2]
  subst e
  rw [or_shift hx hy (by have : (2 : Int) ^ 64 = 18446744073709551616 := by decide
                         omega)]
  rw [hs]
  exact WU_in (by omega)
theorem fit_bit (m : Bool) : fitI (bitI m) 1 = true := by cases m <;> rfl
theorem fit_not {n w : Int} (h : (!fitI n w) = true) : fitI n w = false := by simpa using h
theorem fit_yes {n w : Int} (h : (!fitI n w) = false) : fitI n w = true := by simpa using h
def putOk (k x : Int) (m : Bool) (c v : Int) : Bool := fitI k 10 && (fitI x 9 && (fitI c 5 && fitI v 18))
def putV (k x : Int) (m : Bool) (c v : Int) : Int := k + x * 1024 + bitI m * 524288 + c * 1048576 + v * 33554432
def putS : RSpec Unit := fun args h => match args, h with
  | [.agg [.int .i64 k, .int .i64 x, .bool m, .int .i64 c, .int .i64 v]], [] => some (True, .tup [.int .u64 (bif putOk k x m c v then putV k x m c v else 0), .int .i64 (bif putOk k x m c v then 0 else 2)])
  | _, _ => none
set_option maxRecDepth 100000 in
theorem put_ok : Spec.ok E11.I Try.prog 144 putS.spec := by
  intro args h o ho K hK
  unfold RSpec.spec at ho
  split at ho
  case h_2 => cases ho
  rename_i p v hv
  unfold putS at hv
  split at hv
  case h_2 => cases hv
  rename_i k x m c v
  simp only [Option.some.injEq, Prod.mk.injEq] at hv
  obtain ⟨rfl, rfl⟩ := hv
  simp only [Option.some.injEq] at ho; subst ho
  obtain ⟨_, hK⟩ := hK
  refine CallOk.trim (callOk_of (E := E11) Try.checked.mixed (L := LL) (n := 10) (of_nf (q := True ∧ ((0 : Int) ≤ (0 : Int) ∧ (0 : Int) < (↑5 : Int)) ∧ ((0 : Int) ≤ (10 : Int) ∧ (10 : Int) ≤ (62 : Int)) ∧ bif !fitI k 10 then K (AVal.tup [AVal.int .u64 0, AVal.int .i64 2]) [] else (0 : Int) ≤ (0 : Int) ∧ ((0 : Int) ≤ W (0 + 1) ∧ W (0 + 1) < (↑5 : Int)) ∧ ((0 : Int) ≤ (9 : Int) ∧ (9 : Int) ≤ (62 : Int)) ∧ bif !fitI x 9 then K (AVal.tup [AVal.int .u64 0, AVal.int .i64 2]) [] else (0 : Int) ≤ W (0 + 10) ∧ ((0 : Int) ≤ W (W (0 + 1) + 1) ∧ W (W (0 + 1) + 1) < (↑5 : Int)) ∧ ((0 : Int) ≤ (1 : Int) ∧ (1 : Int) ≤ (62 : Int)) ∧ bif !fitI (bitI m) 1 then K (AVal.tup [AVal.int .u64 0, AVal.int .i64 2]) [] else (0 : Int) ≤ W (W (0 + 10) + 9) ∧ ((0 : Int) ≤ W (W (W (0 + 1) + 1) + 1) ∧ W (W (W (0 + 1) + 1) + 1) < (↑5 : Int)) ∧ ((0 : Int) ≤ (5 : Int) ∧ (5 : Int) ≤ (62 : Int)) ∧ bif !fitI c 5 then K (AVal.tup [AVal.int .u64 0, AVal.int .i64 2]) [] else (0 : Int) ≤ W (W (W (0 + 10) + 9) + 1) ∧ ((0 : Int) ≤ W (W (W (W (0 + 1) + 1) + 1) + 1) ∧ W (W (W (W (0 + 1) + 1) + 1) + 1) < (↑5 : Int)) ∧ ((0 : Int) ≤ (18 : Int) ∧ (18 : Int) ≤ (62 : Int)) ∧ bif !fitI v 18 then K (AVal.tup [AVal.int .u64 0, AVal.int .i64 2]) [] else (0 : Int) ≤ W (W (W (W (0 + 10) + 9) + 1) + 5) ∧ K (AVal.tup [AVal.int .u64 (WU (↑(BitVec.toNat (BitVec.ofInt (IntKind.bits .u64) (WU (↑(BitVec.toNat (BitVec.ofInt (IntKind.bits .u64) (WU (↑(BitVec.toNat (BitVec.ofInt (IntKind.bits .u64) (WU (↑(BitVec.toNat (BitVec.ofInt (IntKind.bits .u64) (WU (↑(BitVec.toNat (BitVec.ofInt (IntKind.bits .u64) 0 ||| BitVec.ofInt (IntKind.bits .u64) (WU (WU k * 2 ^ min (Int.toNat 0) (IntKind.bits .u64))))) : Int)) ||| BitVec.ofInt (IntKind.bits .u64) (WU (WU x * 2 ^ min (Int.toNat (W (0 + 10))) (IntKind.bits .u64))))) : Int)) ||| BitVec.ofInt (IntKind.bits .u64) (WU (WU (bitI m) * 2 ^ min (Int.toNat (W (W (0 + 10) + 9))) (IntKind.bits .u64))))) : Int)) ||| BitVec.ofInt (IntKind.bits .u64) (WU (WU c * 2 ^ min (Int.toNat (W (W (W (0 + 10) + 9) + 1))) (IntKind.bits .u64))))) : Int)) ||| BitVec.ofInt (IntKind.bits .u64) (WU (WU v * 2 ^ min (Int.toNat (W (W (W (W (0 + 10) + 9) + 1) + 5))) (IntKind.bits .u64))))) : Int)), AVal.int .i64 0]) []) (by kernel_rfl) ?_))
  simp (disch := omega) only [W, W_in, Int.reduceAdd, Int.zero_add, Int.reduceToNat]
  refine ⟨trivial, ⟨by omega, by omega⟩, by omega, cond_go (fun e => ?_) (fun e1 => ⟨by omega, by omega, by omega, cond_go (fun e => ?_) (fun e2 => ⟨by omega, by omega, by omega, cond_go (fun e => ?_) (fun _ => ⟨by omega, by omega, by omega, cond_go (fun e => ?_) (fun e3 => ⟨by omega, by omega, by omega, cond_go (fun e => ?_) (fun e4 => ⟨by omega, ?_⟩)⟩)⟩)⟩)⟩)⟩
  · unfold putOk at hK
    rw [fit_not e] at hK
    exact hK
  · unfold putOk at hK
    rw [fit_yes e1, fit_not e] at hK
    exact hK
  · rw [fit_bit] at e; cases e
  · unfold putOk at hK
    rw [fit_yes e1, fit_yes e2, fit_not e] at hK
    exact hK
  · unfold putOk at hK
    rw [fit_yes e1, fit_yes e2, fit_yes e3, fit_not e] at hK
    exact hK
  · unfold putOk at hK
    rw [fit_yes e1, fit_yes e2, fit_yes e3, fit_yes e4] at hK
    have f1 := fitI_true.1 (fit_yes e1)
    have f2 := fitI_true.1 (fit_yes e2)
    have f3 := fitI_true.1 (fit_yes e3)
    have f4 := fitI_true.1 (fit_yes e4)
    have fm : 0 ≤ bitI m ∧ bitI m ≤ 1 := by cases m <;> decide
    have hb : IntKind.bits .u64 = 64 := rfl
    have p1 : (2 : Int) ^ (10 : Int).toNat = 1024 := by decide
    have p2 : (2 : Int) ^ (9 : Int).toNat = 512 := by decide
    have p3 : (2 : Int) ^ (5 : Int).toNat = 32 := by decide
    have p4 : (2 : Int) ^ (18 : Int).toNat = 262144 := by decide
    rw [p1] at f1; rw [p2] at f2; rw [p3] at f3; rw [p4] at f4
    refine cast (congrArg (fun z => K (AVal.tup [.int .u64 z, .int .i64 0]) []) ?_) hK
    show putV k x m c v = _
    unfold putV
    symm
    have q0 := or_sh (a := 0) (x := 0) (y := k) (p := 1) (q := 2 ^ min 0 64) (s := k) (by decide) (by omega) (by omega) (by omega) (by omega) (by decide)
    have q1 := or_sh (a := 10) (x := k) (y := x) (p := 1024) (q := 2 ^ min 10 64) (s := k + x * 1024) (by decide) (by omega) (by omega) (by omega) (by omega) (by decide)
    have q2 := or_sh (a := 19) (x := k + x * 1024) (y := bitI m) (p := 524288) (q := 2 ^ min 19 64) (s := k + x * 1024 + bitI m * 524288) (by decide) (by omega) (by omega) (by omega) (by omega) (by decide)
    have q3 := or_sh (a := 20) (x := k + x * 1024 + bitI m * 524288) (y := c) (p := 1048576) (q := 2 ^ min 20 64) (s := k + x * 1024 + bitI m * 524288 + c * 1048576) (by decide) (by omega) (by omega) (by omega) (by omega) (by decide)
    have q4 := or_sh (a := 25) (x := k + x * 1024 + bitI m * 524288 + c * 1048576) (y := v) (p := 33554432) (q := 2 ^ min 25 64) (s := k + x * 1024 + bitI m * 524288 + c * 1048576 + v * 33554432) (by decide) (by omega) (by omega) (by omega) (by omega) (by decide)
    rw [hb]
    rw [WU] at q0 q1 q2 q3 q4
    simp only [WU] at q0 q1 q2 q3 q4 ⊢
    rw [q0, q1, q2, q3, q4]
noncomputable def E12 := (E11.addR 145 getS get_ok).addR 144 putS put_ok
end Go.Sh
