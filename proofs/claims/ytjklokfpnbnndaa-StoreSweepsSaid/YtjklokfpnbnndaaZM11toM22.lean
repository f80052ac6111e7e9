import Derived.Test.YtjklokfpnbnndaaZM0toM10
set_option linter.all false
/- A node's word: bits of others. -/
namespace Go.Sh
open Go Go.Proofs
variable [Con]
/- OPQ -/
def cutI (x a w : Int) : Int := x / 2 ^ a.toNat % 2 ^ w.toNat
/- OPQ -/
def bitI (b : Bool) : Int := bif b then 1 else 0
/- OPQ -/
def fitI (n w : Int) : Bool := ile 0 n && ilt n (2 ^ w.toNat)
theorem toNat_ofInt (n : Nat) (x : Int) : ((BitVec.ofInt n x).toNat : Int) = x % 2 ^ n := by
  rw [BitVec.toNat_ofInt]
  have h : (0 : Int) < (2 ^ n : Nat) := by exact_mod_cast Nat.two_pow_pos n
  have h2 : 0 ≤ x % ((2 ^ n : Nat) : Int) := Int.emod_nonneg _ (by omega)
  rw [Int.toNat_of_nonneg h2]
  push_cast
  rfl
theorem two_pos (w : Nat) : (0 : Int) < 2 ^ w := by
  have : ((2 ^ w : Nat) : Int) = 2 ^ w := by push_cast; rfl
  have h : 0 < 2 ^ w := Nat.two_pow_pos w
  omega
theorem two_le {w n : Nat} (h : w ≤ n) : (2 : Int) ^ w ≤ 2 ^ n := by
  have a : ((2 ^ w : Nat) : Int) = 2 ^ w := by push_cast; rfl
  have b : ((2 ^ n : Nat) : Int) = 2 ^ n := by push_cast; rfl
  have h : 2 ^ w ≤ 2 ^ n := Nat.pow_le_pow_right (by omega) h
  omega
theorem two_dvd {w n : Nat} (h : w ≤ n) : (2 : Int) ^ w ∣ 2 ^ n := by
  have a : ((2 ^ w : Nat) : Int) = 2 ^ w := by push_cast; rfl
  have b : ((2 ^ n : Nat) : Int) = 2 ^ n := by push_cast; rfl
  rw [← a, ← b]
  exact Int.natCast_dvd_natCast.2 (Nat.pow_dvd_pow 2 h)
theorem and_mask {n w : Nat} (x : Int) (h : w < n) : ((BitVec.ofInt n x &&& BitVec.ofInt n (2 ^ w - 1)).toNat : Int) = x % 2 ^ w := by
  have hp := two_pos w
  have h3 : (2 : Int) ^ w ≤ 2 ^ n := two_le (by omega)
  have e1 : (BitVec.ofInt n (2 ^ w - 1)).toNat = 2 ^ w - 1 := by
    have : ((BitVec.ofInt n (2 ^ w - 1)).toNat : Int) = ((2 ^ w - 1 : Nat) : Int) := by
      rw [toNat_ofInt, Int.emod_eq_of_lt (by omega) (by omega)]
      have a : ((2 ^ w : Nat) : Int) = 2 ^ w := by push_cast; rfl
      have : 1 ≤ 2 ^ w := Nat.one_le_two_pow
      omega
    exact_mod_cast this
  rw [BitVec.toNat_and, e1, Nat.and_two_pow_sub_one_eq_mod]
  push_cast
  rw [toNat_ofInt]
  exact Int.emod_emod_of_dvd _ (two_dvd (by omega))
theorem or_shift {n a : Nat} {x y : Int} (hx : 0 ≤ x ∧ x < 2 ^ a) (hy : 0 ≤ y) (h : y * 2 ^ a + x < 2 ^ n) :
    ((BitVec.ofInt n x ||| BitVec.ofInt n (y * 2 ^ a)).toNat : Int) = x + y * 2 ^ a := by
  have hp := two_pos a
  have hya : 0 ≤ y * 2 ^ a := Int.mul_nonneg hy (by omega)
  obtain ⟨u, rfl⟩ := Int.eq_ofNat_of_zero_le hx.1
  obtain ⟨v, rfl⟩ := Int.eq_ofNat_of_zero_le hy
  have e1 : (BitVec.ofInt n (u : Int)).toNat = u := by
    have : ((BitVec.ofInt n (u : Int)).toNat : Int) = (u : Int) := by
      rw [toNat_ofInt, Int.emod_eq_of_lt (by omega) (by omega)]
    exact_mod_cast this
  have e2 : (BitVec.ofInt n ((v : Int) * 2 ^ a)).toNat = v * 2 ^ a := by
    have : ((BitVec.ofInt n ((v : Int) * 2 ^ a)).toNat : Int) = ((v * 2 ^ a : Nat) : Int) := by
      rw [toNat_ofInt, Int.emod_eq_of_lt (by omega) (by omega)]; push_cast; rfl
    exact_mod_cast this
  have hu : u < 2 ^ a := by
    have b : ((2 ^ a : Nat) : Int) = 2 ^ a := by push_cast; rfl
    omega
  rw [BitVec.toNat_or, e1, e2]
  have : u ||| v * 2 ^ a = u + v * 2 ^ a := by
    have := Nat.shiftLeft_add_eq_or_of_lt hu v
    rw [Nat.shiftLeft_eq] at this
    rw [Nat.or_comm, ← this]; omega
  rw [this]; push_cast; rfl

theorem WU_in {x : Int} (h : 0 ≤ x ∧ x ≤ 18446744073709551615) : IntKind.wrap IntKind.u64 x = x := IntWalk.u64_in x h
theorem two_lt {w n : Nat} (h : w ≤ n) {b : Int} (e : b = 2 ^ n) : (2 : Int) ^ w ≤ b := by rw [e]; exact two_le h
def cutS : RSpec Unit := fun args h => match args, h with
  | [.int .u64 x, .int .i64 a, .int .i64 w], [] => some ((0 ≤ a ∧ a ≤ 63) ∧ (0 ≤ w ∧ w ≤ 62), .int .i64 (cutI x a w))
  | _, _ => none
theorem cut_ok : Spec.ok E10.I Try.prog 149 cutS.spec := by
  intro args h o ho K hK
  unfold RSpec.spec at ho
  split at ho
  case h_2 => cases ho
  rename_i p v hv
  unfold cutS at hv
  split at hv
  case h_2 => cases hv
  rename_i x a w
  simp only [Option.some.injEq, Prod.mk.injEq] at hv
  obtain ⟨rfl, rfl⟩ := hv
  simp only [Option.some.injEq] at ho; subst ho
  obtain ⟨⟨ha, hw⟩, hK⟩ := hK
  have hK : K (.int .i64 (cutI x a w)) [] := hK
  refine CallOk.trim (callOk_of (E := E10) Try.checked.mixed (L := fun _ _ => none) (n := 10) (of_nf (q := (0 : Int) ≤ a ∧ (0 : Int) ≤ w ∧ K (AVal.int .i64 (W (WU (↑(BitVec.toNat (BitVec.ofInt (IntKind.bits .u64) (Int.fdiv x (2 ^ min (Int.toNat a) (IntKind.bits .u64))) &&& BitVec.ofInt (IntKind.bits .u64) (WU (WU (1 * 2 ^ min (Int.toNat w) (IntKind.bits .u64)) - 1)))) : Int)))) []) (by kernel_rfl) ?_))
  refine ⟨by omega, by omega, ?_⟩
  refine cast (congrArg (fun z => K (AVal.int .i64 z) []) ?_) hK
  show cutI x a w = _
  have hb : IntKind.bits .u64 = 64 := rfl
  rw [hb]
  have h1 : min a.toNat 64 = a.toNat := by omega
  have h2 : min w.toNat 64 = w.toNat := by omega
  have h3 : (2 : Int) ^ w.toNat ≤ 4611686018427387904 := two_lt (n := 62) (by omega) (by decide)
  have h4 := two_pos w.toNat
  have h5 := two_pos a.toNat
  rw [h1, h2, Int.fdiv_eq_ediv_of_nonneg _ (by omega)]
  simp only [WU, W, Int.one_mul]
  rw [WU_in (x := 2 ^ w.toNat) (by omega), WU_in (x := 2 ^ w.toNat - 1) (by omega), and_mask _ (by omega)]
  have h6 := Int.emod_nonneg (x / 2 ^ a.toNat) (b := 2 ^ w.toNat) (by omega)
  have h7 := Int.emod_lt_of_pos (x / 2 ^ a.toNat) (b := 2 ^ w.toNat) (by omega)
  rw [WU_in (by omega), W_in (by omega)]
  rfl
def bitS : RSpec Unit := fun args h => match args, h with
  | [.bool b], [] => some (True, .int .i64 (bitI b))
  | _, _ => none
theorem bit_ok : Spec.ok E10.I Try.prog 151 bitS.spec := by
  intro args h o ho K hK
  unfold RSpec.spec at ho
  split at ho
  case h_2 => cases ho
  rename_i p v hv
  unfold bitS at hv
  split at hv
  case h_2 => cases hv
  rename_i b
  simp only [Option.some.injEq, Prod.mk.injEq] at hv
  obtain ⟨rfl, rfl⟩ := hv
  simp only [Option.some.injEq] at ho; subst ho
  obtain ⟨_, hK⟩ := hK
  have hK : K (.int .i64 (bitI b)) [] := hK
  refine CallOk.trim (callOk_of (E := E10) Try.checked.mixed (L := fun _ _ => none) (n := 10) (of_nf (q := bif b then K (AVal.int .i64 1) [] else K (AVal.int .i64 0) []) (by kernel_rfl) ?_))
  cases b <;> exact hK
def fitS : RSpec Unit := fun args h => match args, h with
  | [.agg [.int .i64 n, .int .i64 w]], [] => some (0 ≤ w ∧ w ≤ 62, .bool (fitI n w))
  | _, _ => none
theorem fit_ok : Spec.ok E10.I Try.prog 148 fitS.spec := by
  intro args h o ho K hK
  unfold RSpec.spec at ho
  split at ho
  case h_2 => cases ho
  rename_i p v hv
  unfold fitS at hv
  split at hv
  case h_2 => cases hv
  rename_i n w
  simp only [Option.some.injEq, Prod.mk.injEq] at hv
  obtain ⟨rfl, rfl⟩ := hv
  simp only [Option.some.injEq] at ho; subst ho
  obtain ⟨hw, hK⟩ := hK
  have hK : K (.bool (fitI n w)) [] := hK
  refine CallOk.trim (callOk_of (E := E10) Try.checked.mixed (L := fun _ _ => none) (n := 10) (of_nf (q := bif ile 0 n then (0 : Int) ≤ w ∧ K (AVal.bool (ilt n (W (1 * 2 ^ min (Int.toNat w) (IntKind.bits .i64))))) [] else K (AVal.bool false) []) (by kernel_rfl) ?_))
  unfold fitI at hK
  have hb : IntKind.bits .i64 = 64 := rfl
  have h2 : min w.toNat 64 = w.toNat := by omega
  have h3 : (2 : Int) ^ w.toNat ≤ 4611686018427387904 := two_lt (n := 62) (by omega) (by decide)
  have h4 := two_pos w.toNat
  refine cond_go (fun e => ⟨by omega, ?_⟩) (fun e => ?_)
  · rw [e] at hK
    rw [hb, h2, W, Int.one_mul, W_in (by omega)]
    exact hK
  · rw [e] at hK; exact hK
/- OPQ -/
def newerI (v : Int) : Int := (v + 1) % 262144
def linkS : RSpec Unit := fun args h => match args, h with
  | [.agg [.int .i64 k, .int .i64 x, .bool m, .int .i64 c, .int .i64 v], .int .i64 y], [] => some (0 ≤ v ∧ v ≤ 1000000, .agg [.int .i64 k, .int .i64 y, .bool m, .int .i64 c, .int .i64 (newerI v)])
  | _, _ => none
theorem link_ok : Spec.ok E10.I Try.prog 146 linkS.spec := by
  intro args h o ho K hK
  unfold RSpec.spec at ho
  split at ho
  case h_2 => cases ho
  rename_i p v hv
  unfold linkS at hv
  split at hv
  case h_2 => cases hv
  rename_i k x m c v y
  simp only [Option.some.injEq, Prod.mk.injEq] at hv
  obtain ⟨rfl, rfl⟩ := hv
  simp only [Option.some.injEq] at ho; subst ho
  obtain ⟨hw, hK⟩ := hK
  have hK : K (.agg [.int .i64 k, .int .i64 y, .bool m, .int .i64 c, .int .i64 (newerI v)]) [] := hK
  refine CallOk.trim (callOk_of (E := E10) Try.checked.mixed (L := fun _ _ => none) (n := 10) (of_nf (q := K (AVal.agg [AVal.int .i64 k, AVal.int .i64 y, AVal.bool m, AVal.int .i64 c, AVal.int .i64 (W (↑(BitVec.toNat (BitVec.ofInt (IntKind.bits .i64) (W (v + 1)) &&& BitVec.ofInt (IntKind.bits .i64) 262143)) : Int))]) []) (by kernel_rfl) ?_))
  refine cast (congrArg (fun z => K (.agg [.int .i64 k, .int .i64 y, .bool m, .int .i64 c, .int .i64 z]) []) ?_) hK
  show newerI v = _
  have hb : IntKind.bits .i64 = 64 := rfl
  simp only [W]
  rw [hb, W_in (x := v + 1) (by omega)]
  have := and_mask (n := 64) (w := 18) (v + 1) (by omega)
  have e : (2 : Int) ^ 18 - 1 = 262143 := by decide
  rw [e] at this
  rw [this]
  have e2 : (2 : Int) ^ 18 = 262144 := by decide
  rw [e2, W_in (by omega)]
  rfl
noncomputable def E11 := ((((E10.addR 149 cutS cut_ok).addR 151 bitS bit_ok).addR 148 fitS fit_ok).addR 146 linkS link_ok)

end Go.Sh

/- A node's word: told, and put. -/
namespace Go.Sh
open Go Go.Proofs
variable [Con]
def getV (x : Int) : AVal := .agg [.int .i64 (cutI x 0 10), .int .i64 (cutI x 10 9), .bool (ieq (cutI x 19 1) 1), .int .i64 (cutI x 20 5), .int .i64 (cutI x 25 18)]
def getS : RSpec Unit := fun args h => match args, h with
  | [.int .u64 x], [] => some (True, .agg [.int .i64 (cutI x 0 10), .int .i64 (cutI x 10 9), .bool (ieq (cutI x 19 1) 1), .int .i64 (cutI x 20 5), .int .i64 (cutI x 25 18)])
  | _, _ => none
set_option maxRecDepth 100000 in
theorem get_ok : Spec.ok E11.I Try.prog 145 getS.spec := by
  intro args h o ho K hK
  unfold RSpec.spec at ho
  split at ho
  case h_2 => cases ho
  rename_i p v hv
  unfold getS at hv
  split at hv
  case h_2 => cases hv
  rename_i x
  simp only [Option.some.injEq, Prod.mk.injEq] at hv
  obtain ⟨rfl, rfl⟩ := hv
  simp only [Option.some.injEq] at ho; subst ho
  obtain ⟨_, hK⟩ := hK
  refine CallOk.trim (callOk_of (E := E11) Try.checked.mixed (L := LL) (n := 10) (of_nf (q := ((0 : Int) ≤ (0 : Int) ∧ (0 : Int) < (↑5 : Int)) ∧ ((0 : Int) ≤ (0 : Int) ∧ (0 : Int) < (↑1 : Int)) ∧ 1 + (1 : Nat) ≤ (4294967296 : Nat) ∧ ((0 : Int) ≤ W (0 + 1) ∧ W (0 + 1) < (↑5 : Int)) ∧ ((0 : Int) ≤ W (0 + 1) ∧ W (0 + 1) < (↑(1 + 1) : Int)) ∧ 1 + 1 + (1 : Nat) ≤ (4294967296 : Nat) ∧ ((0 : Int) ≤ W (W (0 + 1) + 1) ∧ W (W (0 + 1) + 1) < (↑5 : Int)) ∧ ((0 : Int) ≤ W (W (0 + 1) + 1) ∧ W (W (0 + 1) + 1) < (↑(1 + 1 + 1) : Int)) ∧ 1 + 1 + 1 + (1 : Nat) ≤ (4294967296 : Nat) ∧ ((0 : Int) ≤ W (W (W (0 + 1) + 1) + 1) ∧ W (W (W (0 + 1) + 1) + 1) < (↑5 : Int)) ∧ ((0 : Int) ≤ W (W (W (0 + 1) + 1) + 1) ∧ W (W (W (0 + 1) + 1) + 1) < (↑(1 + 1 + 1 + 1) : Int)) ∧ 1 + 1 + 1 + 1 + (1 : Nat) ≤ (4294967296 : Nat) ∧ ((0 : Int) ≤ W (W (W (W (0 + 1) + 1) + 1) + 1) ∧ W (W (W (W (0 + 1) + 1) + 1) + 1) < (↑5 : Int)) ∧ ((0 : Int) ≤ W (W (W (W (0 + 1) + 1) + 1) + 1) ∧ W (W (W (W (0 + 1) + 1) + 1) + 1) < (↑(1 + 1 + 1 + 1 + 1) : Int)) ∧ 1 + 1 + 1 + 1 + 1 + (1 : Nat) ≤ (4294967296 : Nat) ∧ ((0 : Int) ≤ (0 : Int) ∧ (0 : Int) < (↑(1 + 1 + 1 + 1 + 1 + 1) : Int)) ∧ (((0 : Int) ≤ (0 : Int) ∧ (0 : Int) ≤ (63 : Int)) ∧ (0 : Int) ≤ (10 : Int) ∧ (10 : Int) ≤ (62 : Int)) ∧ ((0 : Int) ≤ (1 : Int) ∧ (1 : Int) < (↑(1 + 1 + 1 + 1 + 1 + 1) : Int)) ∧ (((0 : Int) ≤ W (0 + 10) ∧ W (0 + 10) ≤ (63 : Int)) ∧ (0 : Int) ≤ (9 : Int) ∧ (9 : Int) ≤ (62 : Int)) ∧ ((0 : Int) ≤ (2 : Int) ∧ (2 : Int) < (↑(1 + 1 + 1 + 1 + 1 + 1) : Int)) ∧ (((0 : Int) ≤ W (W (0 + 10) + 9) ∧ W (W (0 + 10) + 9) ≤ (63 : Int)) ∧ (0 : Int) ≤ (1 : Int) ∧ (1 : Int) ≤ (62 : Int)) ∧ ((0 : Int) ≤ (3 : Int) ∧ (3 : Int) < (↑(1 + 1 + 1 + 1 + 1 + 1) : Int)) ∧ (((0 : Int) ≤ W (W (W (0 + 10) + 9) + 1) ∧ W (W (W (0 + 10) + 9) + 1) ≤ (63 : Int)) ∧ (0 : Int) ≤ (5 : Int) ∧ (5 : Int) ≤ (62 : Int)) ∧ ((0 : Int) ≤ (4 : Int) ∧ (4 : Int) < (↑(1 + 1 + 1 + 1 + 1 + 1) : Int)) ∧ (((0 : Int) ≤ W (W (W (W (0 + 10) + 9) + 1) + 5) ∧ W (W (W (W (0 + 10) + 9) + 1) + 5) ≤ (63 : Int)) ∧ (0 : Int) ≤ (18 : Int) ∧ (18 : Int) ≤ (62 : Int)) ∧ K (AVal.agg [AVal.int .i64 (cutI x 0 10), AVal.int .i64 (cutI x (W (0 + 10)) 9), AVal.bool (ieq (cutI x (W (W (0 + 10) + 9)) 1) 1), AVal.int .i64 (cutI x (W (W (W (0 + 10) + 9) + 1)) 5), AVal.int .i64 (cutI x (W (W (W (W (0 + 10) + 9) + 1) + 5)) 18)]) []) (by kernel_rfl) ?_))
  simp (disch := omega) only [W, W_in, Int.reduceAdd, Int.zero_add]
  repeat refine ⟨by omega, ?_⟩
  exact hK
theorem fitI_true {n w : Int} : fitI n w = true ↔ 0 ≤ n ∧ n < 2 ^ w.toNat := by
  unfold fitI; simp only [ile_eq, ilt_eq, Bool.and_eq_true, decide_eq_true_eq]
theorem or_sh {a : Nat} {x y p s q : Int} (e : p = 2 ^ a) (hx : 0 ≤ x ∧ x < p) (hy : 0 ≤ y) (h : y * p + x ≤ 18446744073709551615) (hs : s = x + y * p) (eq : q = p) :
    WU (((BitVec.ofInt 64 x ||| BitVec.ofInt 64 (WU (WU y * q))).toNat : Int)) = s := by
  subst eq
  have hya : 0 ≤ y * q := Int.mul_nonneg hy (by omega)
  have h1 : y ≤ y * q := by
    have := Int.mul_le_mul_of_nonneg_left (show (1 : Int) ≤ q by omega) hy
    omega
  have e1 : WU y = y := WU_in (by omega)
  rw [e1]
  have e2 : WU (y * q) = y * q := WU_in (by omega)
  rw [e2]
  subst e
  rw [or_shift hx hy (by have : (2 : Int) ^ 64 = 18446744073709551616 := by decide
                         omega)]
  rw [hs]
  exact WU_in (by omega)
theorem fit_bit (m : Bool) : fitI (bitI m) 1 = true := by cases m <;> rfl
theorem fit_not {n w : Int} (h : (!fitI n w) = true) : fitI n w = false := by simpa using h
theorem fit_yes {n w : Int} (h : (!fitI n w) = false) : fitI n w = true := by simpa using h
def putOk (k x : Int) (m : Bool) (c v : Int) : Bool := fitI k 10 && (fitI x 9 && (fitI c 5 && fitI v 18))
def putV (k x : Int) (m : Bool) (c v : Int) : Int := k + x * 1024 + bitI m * 524288 + c * 1048576 + v * 33554432
def putS : RSpec Unit := fun args h => match args, h with
  | [.agg [.int .i64 k, .int .i64 x, .bool m, .int .i64 c, .int .i64 v]], [] => some (True, .tup [.int .u64 (bif putOk k x m c v then putV k x m c v else 0), .int .i64 (bif putOk k x m c v then 0 else 2)])
  | _, _ => none
set_option maxRecDepth 100000 in
theorem put_ok : Spec.ok E11.I Try.prog 144 putS.spec := by
  intro args h o ho K hK
  unfold RSpec.spec at ho
  split at ho
  case h_2 => cases ho
  rename_i p v hv
  unfold putS at hv
  split at hv
  case h_2 => cases hv
  rename_i k x m c v
  simp only [Option.some.injEq, Prod.mk.injEq] at hv
  obtain ⟨rfl, rfl⟩ := hv
  simp only [Option.some.injEq] at ho; subst ho
  obtain ⟨_, hK⟩ := hK
  refine CallOk.trim (callOk_of (E := E11) Try.checked.mixed (L := LL) (n := 10) (of_nf (q := True ∧ ((0 : Int) ≤ (0 : Int) ∧ (0 : Int) < (↑5 : Int)) ∧ ((0 : Int) ≤ (10 : Int) ∧ (10 : Int) ≤ (62 : Int)) ∧ bif !fitI k 10 then K (AVal.tup [AVal.int .u64 0, AVal.int .i64 2]) [] else (0 : Int) ≤ (0 : Int) ∧ ((0 : Int) ≤ W (0 + 1) ∧ W (0 + 1) < (↑5 : Int)) ∧ ((0 : Int) ≤ (9 : Int) ∧ (9 : Int) ≤ (62 : Int)) ∧ bif !fitI x 9 then K (AVal.tup [AVal.int .u64 0, AVal.int .i64 2]) [] else (0 : Int) ≤ W (0 + 10) ∧ ((0 : Int) ≤ W (W (0 + 1) + 1) ∧ W (W (0 + 1) + 1) < (↑5 : Int)) ∧ ((0 : Int) ≤ (1 : Int) ∧ (1 : Int) ≤ (62 : Int)) ∧ bif !fitI (bitI m) 1 then K (AVal.tup [AVal.int .u64 0, AVal.int .i64 2]) [] else (0 : Int) ≤ W (W (0 + 10) + 9) ∧ ((0 : Int) ≤ W (W (W (0 + 1) + 1) + 1) ∧ W (W (W (0 + 1) + 1) + 1) < (↑5 : Int)) ∧ ((0 : Int) ≤ (5 : Int) ∧ (5 : Int) ≤ (62 : Int)) ∧ bif !fitI c 5 then K (AVal.tup [AVal.int .u64 0, AVal.int .i64 2]) [] else (0 : Int) ≤ W (W (W (0 + 10) + 9) + 1) ∧ ((0 : Int) ≤ W (W (W (W (0 + 1) + 1) + 1) + 1) ∧ W (W (W (W (0 + 1) + 1) + 1) + 1) < (↑5 : Int)) ∧ ((0 : Int) ≤ (18 : Int) ∧ (18 : Int) ≤ (62 : Int)) ∧ bif !fitI v 18 then K (AVal.tup [AVal.int .u64 0, AVal.int .i64 2]) [] else (0 : Int) ≤ W (W (W (W (0 + 10) + 9) + 1) + 5) ∧ K (AVal.tup [AVal.int .u64 (WU (↑(BitVec.toNat (BitVec.ofInt (IntKind.bits .u64) (WU (↑(BitVec.toNat (BitVec.ofInt (IntKind.bits .u64) (WU (↑(BitVec.toNat (BitVec.ofInt (IntKind.bits .u64) (WU (↑(BitVec.toNat (BitVec.ofInt (IntKind.bits .u64) (WU (↑(BitVec.toNat (BitVec.ofInt (IntKind.bits .u64) 0 ||| BitVec.ofInt (IntKind.bits .u64) (WU (WU k * 2 ^ min (Int.toNat 0) (IntKind.bits .u64))))) : Int)) ||| BitVec.ofInt (IntKind.bits .u64) (WU (WU x * 2 ^ min (Int.toNat (W (0 + 10))) (IntKind.bits .u64))))) : Int)) ||| BitVec.ofInt (IntKind.bits .u64) (WU (WU (bitI m) * 2 ^ min (Int.toNat (W (W (0 + 10) + 9))) (IntKind.bits .u64))))) : Int)) ||| BitVec.ofInt (IntKind.bits .u64) (WU (WU c * 2 ^ min (Int.toNat (W (W (W (0 + 10) + 9) + 1))) (IntKind.bits .u64))))) : Int)) ||| BitVec.ofInt (IntKind.bits .u64) (WU (WU v * 2 ^ min (Int.toNat (W (W (W (W (0 + 10) + 9) + 1) + 5))) (IntKind.bits .u64))))) : Int)), AVal.int .i64 0]) []) (by kernel_rfl) ?_))
  simp (disch := omega) only [W, W_in, Int.reduceAdd, Int.zero_add, Int.reduceToNat]
  refine ⟨trivial, ⟨by omega, by omega⟩, by omega, cond_go (fun e => ?_) (fun e1 => ⟨by omega, by omega, by omega, cond_go (fun e => ?_) (fun e2 => ⟨by omega, by omega, by omega, cond_go (fun e => ?_) (fun _ => ⟨by omega, by omega, by omega, cond_go (fun e => ?_) (fun e3 => ⟨by omega, by omega, by omega, cond_go (fun e => ?_) (fun e4 => ⟨by omega, ?_⟩)⟩)⟩)⟩)⟩)⟩
  · unfold putOk at hK
    rw [fit_not e] at hK
    exact hK
  · unfold putOk at hK
    rw [fit_yes e1, fit_not e] at hK
    exact hK
  · rw [fit_bit] at e; cases e
  · unfold putOk at hK
    rw [fit_yes e1, fit_yes e2, fit_not e] at hK
    exact hK
  · unfold putOk at hK
    rw [fit_yes e1, fit_yes e2, fit_yes e3, fit_not e] at hK
    exact hK
  · unfold putOk at hK
    rw [fit_yes e1, fit_yes e2, fit_yes e3, fit_yes e4] at hK
    have f1 := fitI_true.1 (fit_yes e1)
    have f2 := fitI_true.1 (fit_yes e2)
    have f3 := fitI_true.1 (fit_yes e3)
    have f4 := fitI_true.1 (fit_yes e4)
    have fm : 0 ≤ bitI m ∧ bitI m ≤ 1 := by cases m <;> decide
    have hb : IntKind.bits .u64 = 64 := rfl
    have p1 : (2 : Int) ^ (10 : Int).toNat = 1024 := by decide
    have p2 : (2 : Int) ^ (9 : Int).toNat = 512 := by decide
    have p3 : (2 : Int) ^ (5 : Int).toNat = 32 := by decide
    have p4 : (2 : Int) ^ (18 : Int).toNat = 262144 := by decide
    rw [p1] at f1; rw [p2] at f2; rw [p3] at f3; rw [p4] at f4
    refine cast (congrArg (fun z => K (AVal.tup [.int .u64 z, .int .i64 0]) []) ?_) hK
    show putV k x m c v = _
    unfold putV
    symm
    have q0 := or_sh (a := 0) (x := 0) (y := k) (p := 1) (q := 2 ^ min 0 64) (s := k) (by decide) (by omega) (by omega) (by omega) (by omega) (by decide)
    have q1 := or_sh (a := 10) (x := k) (y := x) (p := 1024) (q := 2 ^ min 10 64) (s := k + x * 1024) (by decide) (by omega) (by omega) (by omega) (by omega) (by decide)
    have q2 := or_sh (a := 19) (x := k + x * 1024) (y := bitI m) (p := 524288) (q := 2 ^ min 19 64) (s := k + x * 1024 + bitI m * 524288) (by decide) (by omega) (by omega) (by omega) (by omega) (by decide)
    have q3 := or_sh (a := 20) (x := k + x * 1024 + bitI m * 524288) (y := c) (p := 1048576) (q := 2 ^ min 20 64) (s := k + x * 1024 + bitI m * 524288 + c * 1048576) (by decide) (by omega) (by omega) (by omega) (by omega) (by decide)
    have q4 := or_sh (a := 25) (x := k + x * 1024 + bitI m * 524288 + c * 1048576) (y := v) (p := 33554432) (q := 2 ^ min 25 64) (s := k + x * 1024 + bitI m * 524288 + c * 1048576 + v * 33554432) (by decide) (by omega) (by omega) (by omega) (by omega) (by decide)
    rw [hb]
    rw [WU] at q0 q1 q2 q3 q4
    simp only [WU] at q0 q1 q2 q3 q4 ⊢
    rw [q0, q1, q2, q3, q4]
noncomputable def E12 := (E11.addR 145 getS get_ok).addR 144 putS put_ok
end Go.Sh

/- A number in a list; a world's memory. -/
namespace Go.Sh
open Go Go.Proofs
variable [Con]
def HD (xs : List Int) (n : Int) : Hint Unit := { X := Nat, st := fun i => ([.slice 0 0 xs.length 1, .int .i64 n, .top, .top, .top, .int .i64 (i : Int)] ++ List.replicate 12 .top, [some (.ints (some .i64) xs)]), ok := okC xs n, mu := fun i => xs.length - i, keep := [0, 1, 5] }
theorem hasR0_ok : Spec.ok E12.I Try.prog 25 hasS0 := by
  intro args h o ho K hK
  unfold hasS0 at ho
  split at ho
  case h_2 => cases ho
  rename_i k n xs
  simp only [Option.some.injEq] at ho; subst ho
  obtain ⟨⟨rfl, hp⟩, hK⟩ := hK
  have hK : K (.bool (hasB xs n)) [some (.ints (some .i64) xs)] := hK
  refine (callOk_of (E := E12) Try.checked.mixed (L := fun _ _ => some (.states (HD xs n))) (n := 10) (of_nf (q := okSt (HD xs n) (Hint.ok (HD xs n)) [AVal.slice 0 0 (List.length xs) 1, AVal.int .i64 n, AVal.top, AVal.top, AVal.top, AVal.int .i64 0, AVal.top, AVal.top, AVal.top, AVal.top, AVal.top, AVal.top, AVal.top, AVal.top, AVal.top, AVal.top, AVal.top, AVal.top] [some (Entry.ints (some .i64) xs)] ∧ ∀ (x : Nat), okC xs n x → bif ilt (↑x : Int) (↑(List.length xs) : Int) then ((0 : Int) ≤ (↑x : Int) ∧ (↑x : Int) < (↑(List.length xs) : Int)) ∧ 0 + Int.toNat (↑x : Int) * (1 : Nat) < List.length xs ∧ bif ieq (List.getD xs (0 + Int.toNat (↑x : Int) * 1) 0) n then K (AVal.bool true) [some (Entry.ints (some .i64) xs)] else okSt (HD xs n) (fun x' => Hint.ok (HD xs n) x' ∧ Hint.mu (HD xs n) x' < Hint.mu (HD xs n) x) [AVal.slice 0 0 (List.length xs) 1, AVal.int .i64 n, AVal.top, AVal.top, AVal.top, AVal.int .i64 (W ((↑x : Int) + 1)), AVal.top, AVal.top, AVal.top, AVal.top, AVal.top, AVal.top, AVal.top, AVal.top, AVal.top, AVal.top, AVal.top, AVal.top] [some (Entry.ints (some .i64) xs)] else K (AVal.bool false) [some (Entry.ints (some .i64) xs)]) (by kernel_rfl) ?_))
  have hS : hasB xs n = decide (n ∈ xs) := rfl
  refine ⟨okSt_intro (H := HD xs n) (0 : Nat) rfl ⟨Nat.zero_le _, by simp⟩, ?_⟩
  rintro i ⟨h1, h2⟩
  refine cond_go (fun e1 => ?_) (fun e1 => ?_)
  · rw [ilt_eq, decide_eq_true_eq] at e1
    have hi : i < xs.length := by omega
    have e2 : 0 + (i : Int).toNat * 1 = i := by omega
    rw [e2]
    have e4 : IntKind.wrap .i64 ((i : Int) + 1) = ((i + 1 : Nat) : Int) := by rw [W_in (by omega)]; rfl
    have hg : xs.getD i 0 = xs[i] := by rw [List.getD_eq_getElem?_getD, List.getElem?_eq_getElem hi]; rfl
    refine ⟨by omega, hi, cond_go (fun e3 => ?_) (fun e3 => ?_)⟩
    · rw [ieq_eq, hg] at e3
      have e3 : xs[i] = n := by simpa using e3
      have hm : n ∈ xs := by rw [← e3]; exact List.getElem_mem hi
      rw [hS, decide_eq_true hm] at hK
      exact hK
    · rw [ieq_eq, hg] at e3
      have e3 : ¬ xs[i] = n := by simpa using e3
      refine okSt_intro (H := HD xs n) (i + 1 : Nat) (by simp only [W, e4]; rfl) ⟨⟨hi, ?_⟩, by show xs.length - (i + 1) < xs.length - i; omega⟩
      rw [List.take_succ_eq_append_getElem hi]
      intro hm
      rcases List.mem_append.1 hm with h | h
      · exact h2 h
      · simp at h; omega
  · rw [ilt_eq, decide_eq_false_iff_not] at e1
    rw [List.take_of_length_le (by omega)] at h2
    rw [hS, decide_eq_false h2] at hK
    exact hK
theorem hasR_ok : Spec.ok E12.I Try.prog 25 hasS.spec := by
  intro args h o ho
  unfold RSpec.spec at ho
  split at ho
  case h_2 => cases ho
  rename_i p v hv
  unfold hasS at hv
  split at hv
  case h_2 => cases hv
  simp only [Option.some.injEq, Prod.mk.injEq] at hv
  obtain ⟨rfl, rfl⟩ := hv
  exact hasR0_ok _ _ o ho
noncomputable def E13a := E12.addR 25 hasS hasR_ok

/- OPQ -/
def thr (t : Int) : Int := 1 + Int.tmod t 4
/- OPQ -/
def nod (n : Int) : Int := 1 + Int.tmod n 12
theorem thr_in {t : Int} (h : 0 ≤ t ∧ t ≤ 255) : 1 ≤ thr t ∧ thr t ≤ 4 := by unfold thr; rw [Int.tmod_eq_emod_of_nonneg h.1]; omega
theorem nod_in {t : Int} (h : 0 ≤ t ∧ t ≤ 255) : 1 ≤ nod t ∧ nod t ≤ 12 := by unfold nod; rw [Int.tmod_eq_emod_of_nonneg h.1]; omega
/- OPQ -/
def memW (t n : Int) (xs : List Int) : List Int := overI (List.replicate (2 * n + 5 * t + 6).toNat 0) 0 (xs.take (2 * n + 5 * t + 6).toNat)
theorem memW_length (t n : Int) (xs : List Int) : (memW t n xs).length = (2 * n + 5 * t + 6).toNat := by
  unfold memW overI; simp; omega
theorem W_id {x : Int} (h : -9223372036854775808 ≤ x ∧ x ≤ 9223372036854775807) : W x = x := W_in h
def memoryS : Spec Unit := fun args h => match args, h with
  | [.agg [.int .u8 t, .int .u8 n, .iview (some .u64) xs]], [] => some (.pre ((0 ≤ t ∧ t ≤ 255) ∧ (0 ≤ n ∧ n ≤ 255)) (.ret (.tup [.ptr 0 0, .agg [.int .i64 (thr t), .int .i64 (nod n)], .agg [.int .i64 (thr t), .int .i64 (nod n)]]) (memH ⟨thr t, nod n, memW (thr t) (nod n) xs, 0, 0, 0, 0, 0, false⟩)))
  | _, _ => none
theorem memory_ok : Spec.ok E13a.I Try.prog 16 memoryS := by
  intro args h o ho K hK
  unfold memoryS at ho
  split at ho
  case h_2 => cases ho
  rename_i t n xs
  simp only [Option.some.injEq] at ho; subst ho
  obtain ⟨⟨ht, hn⟩, hK⟩ := hK
  have hK : K (.tup [.ptr 0 0, .agg [.int .i64 (thr t), .int .i64 (nod n)], .agg [.int .i64 (thr t), .int .i64 (nod n)]]) (memH ⟨thr t, nod n, memW (thr t) (nod n) xs, 0, 0, 0, 0, 0, false⟩) := hK
  refine CallOk.trim (callOk_of (E := E13a) Try.checked.mixed (L := LL) (n := 10) (of_nf (q := (4 : Int) ≠ (0 : Int) ∧ (12 : Int) ≠ (0 : Int) ∧ bif ilt (W (W (W (2 * W (1 + Int.tmod (W n) 12)) + W (5 * W (1 + Int.tmod (W t) 4))) + 6)) (↑(List.length xs) : Int) then ((0 : Int) ≤ W (W (W (2 * W (1 + Int.tmod (W n) 12)) + W (5 * W (1 + Int.tmod (W t) 4))) + 6) ∧ Int.toNat (W (W (W (2 * W (1 + Int.tmod (W n) 12)) + W (5 * W (1 + Int.tmod (W t) 4))) + 6)) ≤ List.length xs) ∧ True ∧ bif !rightB (W (1 + Int.tmod (W t) 4)) (W (1 + Int.tmod (W n) 12)) then K (AVal.tup [AVal.raw (Value.pointer none), AVal.agg [AVal.int .i64 (W (1 + Int.tmod (W t) 4)), AVal.int .i64 (W (1 + Int.tmod (W n) 12))], AVal.agg [AVal.int .i64 0, AVal.int .i64 0]]) [] else (((0 : Int) ≤ W (1 + Int.tmod (W t) 4) ∧ W (1 + Int.tmod (W t) 4) ≤ (100000 : Int)) ∧ (0 : Int) ≤ W (1 + Int.tmod (W n) 12) ∧ W (1 + Int.tmod (W n) 12) ≤ (100000 : Int)) ∧ bif ilt (2 * W (1 + Int.tmod (W n) 12) + 5 * W (1 + Int.tmod (W t) 4) + 6) (↑(List.length (List.take (Int.toNat (W (W (W (2 * W (1 + Int.tmod (W n) 12)) + W (5 * W (1 + Int.tmod (W t) 4))) + 6))) xs)) : Int) then K (AVal.tup [AVal.raw (Value.pointer none), AVal.agg [AVal.int .i64 (W (1 + Int.tmod (W t) 4)), AVal.int .i64 (W (1 + Int.tmod (W n) 12))], AVal.agg [AVal.int .i64 0, AVal.int .i64 0]]) [] else ((((0 : Int) ≤ W (1 + Int.tmod (W t) 4) ∧ W (1 + Int.tmod (W t) 4) ≤ (100000 : Int)) ∧ (0 : Int) ≤ W (1 + Int.tmod (W n) 12) ∧ W (1 + Int.tmod (W n) 12) ≤ (100000 : Int)) ∧ True) ∧ ((0 : Int) ≤ (2 : Int) * W (1 + Int.tmod (W n) 12) + 5 * W (1 + Int.tmod (W t) 4) + 6 ∧ 2 * W (1 + Int.tmod (W n) 12) + 5 * W (1 + Int.tmod (W t) 4) + (6 : Int) = (2 : Int) * W (1 + Int.tmod (W n) 12) + 5 * W (1 + Int.tmod (W t) 4) + 6 ∧ 2 * W (1 + Int.tmod (W n) 12) + 5 * W (1 + Int.tmod (W t) 4) + (6 : Int) ≤ (4294967296 : Int)) ∧ 0 + Int.toNat (2 * W (1 + Int.tmod (W n) 12) + 5 * W (1 + Int.tmod (W t) 4) + 6) ≤ List.length (List.replicate (Int.toNat (2 * W (1 + Int.tmod (W n) 12) + 5 * W (1 + Int.tmod (W t) 4) + 6)) (0 : Int)) ∧ K (AVal.tup [AVal.ptr 0 0, AVal.agg [AVal.int .i64 (W (1 + Int.tmod (W t) 4)), AVal.int .i64 (W (1 + Int.tmod (W n) 12))], AVal.agg [AVal.int .i64 (W (1 + Int.tmod (W t) 4)), AVal.int .i64 (W (1 + Int.tmod (W n) 12))]]) [some (Entry.cells [AVal.int .i64 (W (1 + Int.tmod (W t) 4)), AVal.int .i64 (W (1 + Int.tmod (W n) 12)), AVal.slice 1 0 (Int.toNat (2 * W (1 + Int.tmod (W n) 12) + 5 * W (1 + Int.tmod (W t) 4) + 6)) 1, AVal.int .i64 0, AVal.int .i64 0, AVal.int .i64 0, AVal.int .u64 0, AVal.int .u64 0, AVal.bool false]), some (Entry.ints (some .u64) (overI (List.replicate (Int.toNat (2 * W (1 + Int.tmod (W n) 12) + 5 * W (1 + Int.tmod (W t) 4) + 6)) (0 : Int)) 0 (List.take (min (List.length (List.take (Int.toNat (W (W (W (2 * W (1 + Int.tmod (W n) 12)) + W (5 * W (1 + Int.tmod (W t) 4))) + 6))) xs)) (Int.toNat (2 * W (1 + Int.tmod (W n) 12) + 5 * W (1 + Int.tmod (W t) 4) + 6))) (List.take (Int.toNat (W (W (W (2 * W (1 + Int.tmod (W n) 12)) + W (5 * W (1 + Int.tmod (W t) 4))) + 6))) xs))))] else True ∧ bif !rightB (W (1 + Int.tmod (W t) 4)) (W (1 + Int.tmod (W n) 12)) then K (AVal.tup [AVal.raw (Value.pointer none), AVal.agg [AVal.int .i64 (W (1 + Int.tmod (W t) 4)), AVal.int .i64 (W (1 + Int.tmod (W n) 12))], AVal.agg [AVal.int .i64 0, AVal.int .i64 0]]) [] else (((0 : Int) ≤ W (1 + Int.tmod (W t) 4) ∧ W (1 + Int.tmod (W t) 4) ≤ (100000 : Int)) ∧ (0 : Int) ≤ W (1 + Int.tmod (W n) 12) ∧ W (1 + Int.tmod (W n) 12) ≤ (100000 : Int)) ∧ bif ilt (2 * W (1 + Int.tmod (W n) 12) + 5 * W (1 + Int.tmod (W t) 4) + 6) (↑(List.length xs) : Int) then K (AVal.tup [AVal.raw (Value.pointer none), AVal.agg [AVal.int .i64 (W (1 + Int.tmod (W t) 4)), AVal.int .i64 (W (1 + Int.tmod (W n) 12))], AVal.agg [AVal.int .i64 0, AVal.int .i64 0]]) [] else ((((0 : Int) ≤ W (1 + Int.tmod (W t) 4) ∧ W (1 + Int.tmod (W t) 4) ≤ (100000 : Int)) ∧ (0 : Int) ≤ W (1 + Int.tmod (W n) 12) ∧ W (1 + Int.tmod (W n) 12) ≤ (100000 : Int)) ∧ True) ∧ ((0 : Int) ≤ (2 : Int) * W (1 + Int.tmod (W n) 12) + 5 * W (1 + Int.tmod (W t) 4) + 6 ∧ 2 * W (1 + Int.tmod (W n) 12) + 5 * W (1 + Int.tmod (W t) 4) + (6 : Int) = (2 : Int) * W (1 + Int.tmod (W n) 12) + 5 * W (1 + Int.tmod (W t) 4) + 6 ∧ 2 * W (1 + Int.tmod (W n) 12) + 5 * W (1 + Int.tmod (W t) 4) + (6 : Int) ≤ (4294967296 : Int)) ∧ 0 + Int.toNat (2 * W (1 + Int.tmod (W n) 12) + 5 * W (1 + Int.tmod (W t) 4) + 6) ≤ List.length (List.replicate (Int.toNat (2 * W (1 + Int.tmod (W n) 12) + 5 * W (1 + Int.tmod (W t) 4) + 6)) (0 : Int)) ∧ K (AVal.tup [AVal.ptr 0 0, AVal.agg [AVal.int .i64 (W (1 + Int.tmod (W t) 4)), AVal.int .i64 (W (1 + Int.tmod (W n) 12))], AVal.agg [AVal.int .i64 (W (1 + Int.tmod (W t) 4)), AVal.int .i64 (W (1 + Int.tmod (W n) 12))]]) [some (Entry.cells [AVal.int .i64 (W (1 + Int.tmod (W t) 4)), AVal.int .i64 (W (1 + Int.tmod (W n) 12)), AVal.slice 1 0 (Int.toNat (2 * W (1 + Int.tmod (W n) 12) + 5 * W (1 + Int.tmod (W t) 4) + 6)) 1, AVal.int .i64 0, AVal.int .i64 0, AVal.int .i64 0, AVal.int .u64 0, AVal.int .u64 0, AVal.bool false]), some (Entry.ints (some .u64) (overI (List.replicate (Int.toNat (2 * W (1 + Int.tmod (W n) 12) + 5 * W (1 + Int.tmod (W t) 4) + 6)) (0 : Int)) 0 (List.take (min (List.length xs) (Int.toNat (2 * W (1 + Int.tmod (W n) 12) + 5 * W (1 + Int.tmod (W t) 4) + 6))) xs)))]) (by kernel_rfl) ?_))
  have e1 : W t = t := W_id (by omega)
  have e2 : W n = n := W_id (by omega)
  have h1 := thr_in ht
  have h2 := nod_in hn
  have e3 : W (1 + Int.tmod t 4) = thr t := W_id (by show _ ≤ thr t ∧ thr t ≤ _; omega)
  have e4 : W (1 + Int.tmod n 12) = nod n := W_id (by show _ ≤ nod n ∧ nod n ≤ _; omega)
  rw [e1, e2, e3, e4]
  have e5 : W (W (W (2 * nod n) + W (5 * thr t)) + 6) = 2 * nod n + 5 * thr t + 6 := by
    simp (disch := omega) only [W, W_in]
  rw [e5, rightB_true.2 (by omega)]
  unfold memH at hK
  have hl := memW_length (thr t) (nod n) xs
  simp only [hl] at hK
  have hz : (List.replicate (2 * nod n + 5 * thr t + 6).toNat (0 : Int)).length = (2 * nod n + 5 * thr t + 6).toNat := List.length_replicate
  refine ⟨by omega, by omega, cond_go (fun e => ⟨by rw [ilt_eq, decide_eq_true_eq] at e; omega, trivial, cond_go (fun e => by cases e) (fun _ => ⟨by omega, cond_go (fun e6 => ?_) (fun _ => ⟨⟨by omega, trivial⟩, by omega, by rw [List.length_replicate]; omega, ?_⟩)⟩)⟩) (fun e => ⟨trivial, cond_go (fun e => by cases e) (fun _ => ⟨by omega, cond_go (fun e6 => ?_) (fun _ => ⟨⟨by omega, trivial⟩, by omega, by rw [List.length_replicate]; omega, ?_⟩)⟩)⟩)⟩
  · rw [ilt_eq, decide_eq_true_eq, List.length_take] at e6; omega
  · rw [ilt_eq, decide_eq_true_eq] at e
    have e7 : min (List.take (2 * nod n + 5 * thr t + 6).toNat xs).length (2 * nod n + 5 * thr t + 6).toNat = (2 * nod n + 5 * thr t + 6).toNat := by rw [List.length_take]; omega
    rw [e7, List.take_take, Nat.min_self]
    exact hK
  · rw [e6] at e; cases e
  · rw [ilt_eq, decide_eq_false_iff_not] at e
    have e7 : List.take (min xs.length (2 * nod n + 5 * thr t + 6).toNat) xs = List.take (2 * nod n + 5 * thr t + 6).toNat xs := by
      rw [Nat.min_eq_left (by omega), List.take_of_length_le (Nat.le_refl _), List.take_of_length_le (by omega)]
    rw [e7]
    exact hK
noncomputable def E13 := E13a.addS 16 memoryS memory_ok
end Go.Sh

/- A store over a layout, and the document's. -/
namespace Go.Sh
open Go Go.Proofs
variable [Con]
/- OPQ -/
def nodeK (n v : Int) : Int := 1 + Int.tmod v n
def mkStep (n sp : Int) (R : List Int) (v : Int) : List Int := bif ieq (nodeK n v) sp then R else bif hasB R (nodeK n v) then R else R ++ [nodeK n v]
/- OPQ -/
def mkL (n sp : Int) (ns : List Int) : List Int := ns.foldl (mkStep n sp) []
theorem mkStep_len (n sp : Int) (R : List Int) (v : Int) : (mkStep n sp R v).length ≤ R.length + 1 := by
  unfold mkStep
  cases ieq (nodeK n v) sp <;> cases hasB R (nodeK n v) <;> simp
theorem mkL_snoc (n sp : Int) (ns : List Int) (v : Int) : mkL n sp (ns ++ [v]) = mkStep n sp (mkL n sp ns) v := by
  unfold mkL; simp [List.foldl_append]
structure okM (n sp : Int) (ns : List Int) (x : Nat × List Int) : Prop where
  h1 : x.1 ≤ ns.length
  h2 : x.2.length ≤ x.1
  h3 : x.2 = mkL n sp (ns.take x.1)
def HM (t n me sp me' sp' : Int) (ns : List Int) : Hint Unit := { X := Nat × List Int, st := fun x => ([.top, .top, .ptr 0 0, .ptr 1 0, .top, .top, .ptr 2 0, .ptr 4 0] ++ List.replicate 32 .top ++ [.iview (some .u8) ns, .int .i64 (ns.length : Int), .int .i64 (x.1 : Int)] ++ List.replicate 41 .top, [some (.cells [.int .u8 me, .int .u8 sp, .iview (some .u8) ns]), some (.cells [.int .i64 t, .int .i64 n]), some (.cells [.int .i64 t, .int .i64 n, .int .i64 me', .int .i64 sp', .slice 3 0 x.2.length 1]), some (.ints (some .i64) x.2), some (.cells [.int .i64 me', .int .i64 sp', .slice 5 0 x.2.length 1]), some (.ints (some .i64) x.2)]), ok := okM n sp' ns, mu := fun x => ns.length - x.1, keep := [2, 3, 6, 7, 40, 41, 42], casts := [(.cell 2 4, .ints (some .i64)), (.cell 3 2, .ints (some .i64)), (.cell 4 2, .ints (some .i64))] }
def makeS : Spec Unit := fun args h => match args, h with
  | [.agg [.int .u8 me, .int .u8 sp, .iview (some .u8) ns], .agg [.int .i64 t, .int .i64 n]], [] => some (.pre (((0 ≤ me ∧ me ≤ 255) ∧ (0 ≤ sp ∧ sp ≤ 255) ∧ (1 ≤ t ∧ t ≤ 1000) ∧ (1 ≤ n ∧ n ≤ 1000) ∧ ns.length ≤ 100000) ∧ ∀ v ∈ ns, 0 ≤ v ∧ v ≤ 255) (.ret (.tup [.ptr 0 0, .ptr 2 0]) [some (.cells [.int .i64 t, .int .i64 n, .int .i64 (Int.tmod me t), .int .i64 (Int.tmod sp (n + 1)), .slice 1 0 (mkL n (Int.tmod sp (n + 1)) ns).length 1]), some (.ints (some .i64) (mkL n (Int.tmod sp (n + 1)) ns)), some (.cells [.int .i64 (Int.tmod me t), .int .i64 (Int.tmod sp (n + 1)), .slice 3 0 (mkL n (Int.tmod sp (n + 1)) ns).length 1]), some (.ints (some .i64) (mkL n (Int.tmod sp (n + 1)) ns))]))
  | _, _ => none
theorem tmod_in {x t : Int} (h : 0 ≤ x) (ht : 1 ≤ t) : 0 ≤ Int.tmod x t ∧ Int.tmod x t < t := by
  rw [Int.tmod_eq_emod_of_nonneg h]
  exact ⟨Int.emod_nonneg _ (by omega), Int.emod_lt_of_pos _ (by omega)⟩
theorem make_ok : Spec.ok E13.I Try.prog 17 makeS := by
  intro args h o ho K hK
  unfold makeS at ho
  split at ho
  case h_2 => cases ho
  rename_i me sp ns t n
  simp only [Option.some.injEq] at ho; subst ho
  obtain ⟨⟨⟨hme, hsp, ht, hn, hl⟩, hv⟩, hK⟩ := hK
  refine CallOk.trim (callOk_of (E := E13) Try.checked.mixed (L := fun _ _ => some (.states (HM t n me sp (Int.tmod (W me) t) (Int.tmod (W sp) (W (n + 1))) ns))) (n := 10) (of_nf (q := t ≠ (0 : Int) ∧ W (n + 1) ≠ (0 : Int) ∧ okSt (HM t n me sp (Int.tmod (W me) t) (Int.tmod (W sp) (W (n + 1))) ns) (Hint.ok (HM t n me sp (Int.tmod (W me) t) (Int.tmod (W sp) (W (n + 1))) ns)) [AVal.top, AVal.top, AVal.ptr 0 0, AVal.ptr 1 0, AVal.top, AVal.top, AVal.ptr 2 0, AVal.ptr 4 0, AVal.top, AVal.top, AVal.top, AVal.top, AVal.top, AVal.top, AVal.top, AVal.top, AVal.top, AVal.top, AVal.top, AVal.top, AVal.top, AVal.top, AVal.top, AVal.top, AVal.top, AVal.top, AVal.top, AVal.top, AVal.top, AVal.top, AVal.top, AVal.top, AVal.top, AVal.top, AVal.top, AVal.top, AVal.top, AVal.top, AVal.top, AVal.top, AVal.iview (some .u8) ns, AVal.int .i64 (↑(List.length ns) : Int), AVal.int .i64 0, AVal.top, AVal.top, AVal.top, AVal.top, AVal.top, AVal.top, AVal.top, AVal.top, AVal.top, AVal.top, AVal.top, AVal.top, AVal.top, AVal.top, AVal.top, AVal.top, AVal.top, AVal.top, AVal.top, AVal.top, AVal.top, AVal.top, AVal.top, AVal.top, AVal.top, AVal.top, AVal.top, AVal.top, AVal.top, AVal.top, AVal.top, AVal.top, AVal.top, AVal.top, AVal.top, AVal.top, AVal.top, AVal.top, AVal.top, AVal.top, AVal.top] [some (Entry.cells [AVal.int .u8 me, AVal.int .u8 sp, AVal.iview (some .u8) ns]), some (Entry.cells [AVal.int .i64 t, AVal.int .i64 n]), some (Entry.cells [AVal.int .i64 t, AVal.int .i64 n, AVal.int .i64 (Int.tmod (W me) t), AVal.int .i64 (Int.tmod (W sp) (W (n + 1))), AVal.slice 3 0 0 1]), some (Entry.ints (some .i64) []), some (Entry.cells [AVal.int .i64 (Int.tmod (W me) t), AVal.int .i64 (Int.tmod (W sp) (W (n + 1))), AVal.slice 5 0 0 1]), some (Entry.ints (some .i64) [])] ∧ ∀ (x : (Nat × List Int)), okM n (Int.tmod (W sp) (W (n + 1))) ns x → bif ilt (↑x.1 : Int) (↑(List.length ns) : Int) then ((0 : Int) ≤ (↑x.1 : Int) ∧ (↑x.1 : Int) < (↑(List.length ns) : Int)) ∧ n ≠ (0 : Int) ∧ bif !ieq (W (1 + Int.tmod (W (List.getD ns (Int.toNat (↑x.1 : Int)) 0)) n)) (Int.tmod (W sp) (W (n + 1))) then (List.length x.2 = List.length x.2 ∧ List.length x.2 ≤ (4294967296 : Nat)) ∧ bif !hasB x.2 (W (1 + Int.tmod (W (List.getD ns (Int.toNat (↑x.1 : Int)) 0)) n)) then (0 = 0 ∧ List.length x.2 = List.length x.2 ∧ 1 = 1 ∧ List.length x.2 + (1 : Nat) ≤ (4294967296 : Nat)) ∧ (0 = 0 ∧ List.length x.2 = List.length x.2 ∧ 1 = 1 ∧ List.length x.2 + (1 : Nat) ≤ (4294967296 : Nat)) ∧ okSt (HM t n me sp (Int.tmod (W me) t) (Int.tmod (W sp) (W (n + 1))) ns) (fun x' => Hint.ok (HM t n me sp (Int.tmod (W me) t) (Int.tmod (W sp) (W (n + 1))) ns) x' ∧ Hint.mu (HM t n me sp (Int.tmod (W me) t) (Int.tmod (W sp) (W (n + 1))) ns) x' < Hint.mu (HM t n me sp (Int.tmod (W me) t) (Int.tmod (W sp) (W (n + 1))) ns) x) [AVal.top, AVal.top, AVal.ptr 0 0, AVal.ptr 1 0, AVal.top, AVal.top, AVal.ptr 2 0, AVal.ptr 4 0, AVal.top, AVal.top, AVal.top, AVal.top, AVal.top, AVal.top, AVal.top, AVal.top, AVal.top, AVal.top, AVal.top, AVal.top, AVal.top, AVal.top, AVal.top, AVal.top, AVal.top, AVal.top, AVal.top, AVal.top, AVal.top, AVal.top, AVal.top, AVal.top, AVal.top, AVal.top, AVal.top, AVal.top, AVal.top, AVal.top, AVal.top, AVal.top, AVal.iview (some .u8) ns, AVal.int .i64 (↑(List.length ns) : Int), AVal.int .i64 (W ((↑x.1 : Int) + 1)), AVal.top, AVal.top, AVal.top, AVal.top, AVal.top, AVal.top, AVal.top, AVal.top, AVal.top, AVal.top, AVal.top, AVal.top, AVal.top, AVal.top, AVal.top, AVal.top, AVal.top, AVal.top, AVal.top, AVal.top, AVal.top, AVal.top, AVal.top, AVal.top, AVal.top, AVal.top, AVal.top, AVal.top, AVal.top, AVal.top, AVal.top, AVal.top, AVal.top, AVal.top, AVal.top, AVal.top, AVal.top, AVal.top, AVal.top, AVal.top, AVal.top] [some (Entry.cells [AVal.int .u8 me, AVal.int .u8 sp, AVal.iview (some .u8) ns]), some (Entry.cells [AVal.int .i64 t, AVal.int .i64 n]), some (Entry.cells [AVal.int .i64 t, AVal.int .i64 n, AVal.int .i64 (Int.tmod (W me) t), AVal.int .i64 (Int.tmod (W sp) (W (n + 1))), AVal.slice 3 0 (List.length x.2 + 1) 1]), some (Entry.ints (some .i64) (x.2 ++ [W (1 + Int.tmod (W (List.getD ns (Int.toNat (↑x.1 : Int)) 0)) n)])), some (Entry.cells [AVal.int .i64 (Int.tmod (W me) t), AVal.int .i64 (Int.tmod (W sp) (W (n + 1))), AVal.slice 5 0 (List.length x.2 + 1) 1]), some (Entry.ints (some .i64) (x.2 ++ [W (1 + Int.tmod (W (List.getD ns (Int.toNat (↑x.1 : Int)) 0)) n)]))] else okSt (HM t n me sp (Int.tmod (W me) t) (Int.tmod (W sp) (W (n + 1))) ns) (fun x' => Hint.ok (HM t n me sp (Int.tmod (W me) t) (Int.tmod (W sp) (W (n + 1))) ns) x' ∧ Hint.mu (HM t n me sp (Int.tmod (W me) t) (Int.tmod (W sp) (W (n + 1))) ns) x' < Hint.mu (HM t n me sp (Int.tmod (W me) t) (Int.tmod (W sp) (W (n + 1))) ns) x) [AVal.top, AVal.top, AVal.ptr 0 0, AVal.ptr 1 0, AVal.top, AVal.top, AVal.ptr 2 0, AVal.ptr 4 0, AVal.top, AVal.top, AVal.top, AVal.top, AVal.top, AVal.top, AVal.top, AVal.top, AVal.top, AVal.top, AVal.top, AVal.top, AVal.top, AVal.top, AVal.top, AVal.top, AVal.top, AVal.top, AVal.top, AVal.top, AVal.top, AVal.top, AVal.top, AVal.top, AVal.top, AVal.top, AVal.top, AVal.top, AVal.top, AVal.top, AVal.top, AVal.top, AVal.iview (some .u8) ns, AVal.int .i64 (↑(List.length ns) : Int), AVal.int .i64 (W ((↑x.1 : Int) + 1)), AVal.top, AVal.top, AVal.top, AVal.top, AVal.top, AVal.top, AVal.top, AVal.top, AVal.top, AVal.top, AVal.top, AVal.top, AVal.top, AVal.top, AVal.top, AVal.top, AVal.top, AVal.top, AVal.top, AVal.top, AVal.top, AVal.top, AVal.top, AVal.top, AVal.top, AVal.top, AVal.top, AVal.top, AVal.top, AVal.top, AVal.top, AVal.top, AVal.top, AVal.top, AVal.top, AVal.top, AVal.top, AVal.top, AVal.top, AVal.top, AVal.top] [some (Entry.cells [AVal.int .u8 me, AVal.int .u8 sp, AVal.iview (some .u8) ns]), some (Entry.cells [AVal.int .i64 t, AVal.int .i64 n]), some (Entry.cells [AVal.int .i64 t, AVal.int .i64 n, AVal.int .i64 (Int.tmod (W me) t), AVal.int .i64 (Int.tmod (W sp) (W (n + 1))), AVal.slice 3 0 (List.length x.2) 1]), some (Entry.ints (some .i64) x.2), some (Entry.cells [AVal.int .i64 (Int.tmod (W me) t), AVal.int .i64 (Int.tmod (W sp) (W (n + 1))), AVal.slice 5 0 (List.length x.2) 1]), some (Entry.ints (some .i64) x.2)] else okSt (HM t n me sp (Int.tmod (W me) t) (Int.tmod (W sp) (W (n + 1))) ns) (fun x' => Hint.ok (HM t n me sp (Int.tmod (W me) t) (Int.tmod (W sp) (W (n + 1))) ns) x' ∧ Hint.mu (HM t n me sp (Int.tmod (W me) t) (Int.tmod (W sp) (W (n + 1))) ns) x' < Hint.mu (HM t n me sp (Int.tmod (W me) t) (Int.tmod (W sp) (W (n + 1))) ns) x) [AVal.top, AVal.top, AVal.ptr 0 0, AVal.ptr 1 0, AVal.top, AVal.top, AVal.ptr 2 0, AVal.ptr 4 0, AVal.top, AVal.top, AVal.top, AVal.top, AVal.top, AVal.top, AVal.top, AVal.top, AVal.top, AVal.top, AVal.top, AVal.top, AVal.top, AVal.top, AVal.top, AVal.top, AVal.top, AVal.top, AVal.top, AVal.top, AVal.top, AVal.top, AVal.top, AVal.top, AVal.top, AVal.top, AVal.top, AVal.top, AVal.top, AVal.top, AVal.top, AVal.top, AVal.iview (some .u8) ns, AVal.int .i64 (↑(List.length ns) : Int), AVal.int .i64 (W ((↑x.1 : Int) + 1)), AVal.top, AVal.top, AVal.top, AVal.top, AVal.top, AVal.top, AVal.top, AVal.top, AVal.top, AVal.top, AVal.top, AVal.top, AVal.top, AVal.top, AVal.top, AVal.top, AVal.top, AVal.top, AVal.top, AVal.top, AVal.top, AVal.top, AVal.top, AVal.top, AVal.top, AVal.top, AVal.top, AVal.top, AVal.top, AVal.top, AVal.top, AVal.top, AVal.top, AVal.top, AVal.top, AVal.top, AVal.top, AVal.top, AVal.top, AVal.top, AVal.top] [some (Entry.cells [AVal.int .u8 me, AVal.int .u8 sp, AVal.iview (some .u8) ns]), some (Entry.cells [AVal.int .i64 t, AVal.int .i64 n]), some (Entry.cells [AVal.int .i64 t, AVal.int .i64 n, AVal.int .i64 (Int.tmod (W me) t), AVal.int .i64 (Int.tmod (W sp) (W (n + 1))), AVal.slice 3 0 (List.length x.2) 1]), some (Entry.ints (some .i64) x.2), some (Entry.cells [AVal.int .i64 (Int.tmod (W me) t), AVal.int .i64 (Int.tmod (W sp) (W (n + 1))), AVal.slice 5 0 (List.length x.2) 1]), some (Entry.ints (some .i64) x.2)] else K (AVal.tup [AVal.ptr 0 0, AVal.ptr 2 0]) [some (Entry.cells [AVal.int .i64 t, AVal.int .i64 n, AVal.int .i64 (Int.tmod (W me) t), AVal.int .i64 (Int.tmod (W sp) (W (n + 1))), AVal.slice 1 0 (List.length x.2) 1]), some (Entry.ints (some .i64) x.2), some (Entry.cells [AVal.int .i64 (Int.tmod (W me) t), AVal.int .i64 (Int.tmod (W sp) (W (n + 1))), AVal.slice 3 0 (List.length x.2) 1]), some (Entry.ints (some .i64) x.2)]) (by kernel_rfl) ?_))
  have e1 : W me = me := W_id (by omega)
  have e2 : W sp = sp := W_id (by omega)
  have e3 : W (n + 1) = n + 1 := W_id (by omega)
  rw [e1, e2, e3]
  generalize Int.tmod sp (n + 1) = sp' at hK ⊢
  generalize Int.tmod me t = me' at hK ⊢
  refine ⟨by omega, by omega, okSt_intro (H := HM t n me sp me' sp' ns) ((0 : Nat), ([] : List Int)) rfl ⟨Nat.zero_le _, Nat.le_refl _, rfl⟩, ?_⟩
  rintro ⟨i, R⟩ ⟨h1, h2, h3⟩
  dsimp only at h1 h2 h3 ⊢
  refine cond_go (fun e => ?_) (fun e => ?_)
  · rw [ilt_eq, decide_eq_true_eq] at e
    have hi : i < ns.length := by omega
    have hg : ns.getD (i : Int).toNat 0 = ns[i] := by rw [Int.toNat_natCast, List.getD_eq_getElem?_getD, List.getElem?_eq_getElem hi]; rfl
    have hvi := hv ns[i] (List.getElem_mem hi)
    have hm := tmod_in (x := ns[i]) (t := n) (by omega) (by omega)
    have e4 : W ns[i] = ns[i] := W_id (by omega)
    have e5 : W (1 + Int.tmod ns[i] n) = nodeK n ns[i] := W_id (by show _ ≤ 1 + Int.tmod ns[i] n ∧ 1 + Int.tmod ns[i] n ≤ _; omega)
    have e6 : W ((i : Int) + 1) = ((i + 1 : Nat) : Int) := by rw [W_id (by omega)]; rfl
    have hs : mkL n sp' (ns.take (i + 1)) = mkStep n sp' R ns[i] := by
      rw [List.take_succ_eq_append_getElem hi, mkL_snoc, ← h3]
    have hmu : ns.length - (i + 1) < ns.length - i := by omega
    rw [hg, e4, e5, e6]
    unfold mkStep at hs
    refine ⟨by omega, by omega, cond_go (fun c1 => ⟨⟨rfl, by omega⟩, cond_go (fun c2 => ⟨⟨rfl, rfl, rfl, by omega⟩, ⟨rfl, rfl, rfl, by omega⟩, ?_⟩) (fun c2 => ?_)⟩) (fun c1 => ?_)⟩
    · have c1 : ieq (nodeK n ns[i]) sp' = false := by simpa using c1
      have c2 : hasB R (nodeK n ns[i]) = false := by simpa using c2
      rw [c1, c2] at hs
      refine okSt_intro (H := HM t n me sp me' sp' ns) ((i + 1 : Nat), (R ++ [nodeK n ns[i]] : List Int)) (by simp only [HM, List.length_append]; rfl) ⟨⟨hi, ?_, hs.symm⟩, hmu⟩
      show (R ++ [nodeK n ns[i]]).length ≤ i + 1
      simp; omega
    · have c1 : ieq (nodeK n ns[i]) sp' = false := by simpa using c1
      have c2 : hasB R (nodeK n ns[i]) = true := by simpa using c2
      rw [c1, c2] at hs
      exact okSt_intro (H := HM t n me sp me' sp' ns) ((i + 1 : Nat), R) rfl ⟨⟨hi, by show R.length ≤ i + 1; omega, hs.symm⟩, hmu⟩
    · have c1 : ieq (nodeK n ns[i]) sp' = true := by simpa using c1
      rw [c1] at hs
      exact okSt_intro (H := HM t n me sp me' sp' ns) ((i + 1 : Nat), R) rfl ⟨⟨hi, by show R.length ≤ i + 1; omega, hs.symm⟩, hmu⟩
  · rw [ilt_eq, decide_eq_false_iff_not] at e
    rw [List.take_of_length_le (by omega)] at h3
    subst h3
    exact hK
noncomputable def E14 := E13.addS 17 makeS make_ok
end Go.Sh

/- A word's numbers, and its bits, as the document has them. -/
namespace Go.Sh
open Go Go.Proofs
variable [Con]
theorem emod_in (x : Int) {b : Int} (h : 0 < b) : 0 ≤ x % b ∧ x % b < b := ⟨Int.emod_nonneg _ (by omega), Int.emod_lt_of_pos _ h⟩
theorem cutI_in {x a w : Int} : 0 ≤ cutI x a w ∧ cutI x a w < 2 ^ w.toNat := emod_in _ (two_pos _)
def unS : RSpec Unit := fun args h => match args, h with
  | [.int .u64 x], [] => some (0 ≤ x ∧ x ≤ 18446744073709551615, .agg [.int .i64 (cutI x 0 10), .int .i64 (cutI x 10 9), .bool (ieq (cutI x 19 1) 1), .int .i64 (cutI x 20 5), .int .i64 (cutI x 25 18)])
  | _, _ => none
theorem un_ok : Spec.ok E14.I Try.prog 77 unS.spec := by
  intro args h o ho K hK
  unfold RSpec.spec at ho
  split at ho
  case h_2 => cases ho
  rename_i p v hv
  unfold unS at hv
  split at hv
  case h_2 => cases hv
  rename_i x
  simp only [Option.some.injEq, Prod.mk.injEq] at hv
  obtain ⟨rfl, rfl⟩ := hv
  simp only [Option.some.injEq] at ho; subst ho
  obtain ⟨hx, hK⟩ := hK
  refine CallOk.trim (callOk_of (E := E14) Try.checked.mixed (L := LL) (n := 10) (of_nf (q := (8796093022208 : Int) ≠ (0 : Int) ∧ (1024 : Int) ≠ (0 : Int) ∧ (1024 : Int) ≠ (0 : Int) ∧ (512 : Int) ≠ (0 : Int) ∧ (524288 : Int) ≠ (0 : Int) ∧ (2 : Int) ≠ (0 : Int) ∧ (1048576 : Int) ≠ (0 : Int) ∧ (32 : Int) ≠ (0 : Int) ∧ (33554432 : Int) ≠ (0 : Int) ∧ K (AVal.agg [AVal.int .i64 (Int.tmod (W (Int.tmod x 8796093022208)) 1024), AVal.int .i64 (Int.tmod (W (Int.tdiv (W (Int.tmod x 8796093022208)) 1024)) 512), AVal.bool (ieq (Int.tmod (W (Int.tdiv (W (Int.tmod x 8796093022208)) 524288)) 2) 1), AVal.int .i64 (Int.tmod (W (Int.tdiv (W (Int.tmod x 8796093022208)) 1048576)) 32), AVal.int .i64 (W (Int.tdiv (W (Int.tmod x 8796093022208)) 33554432))]) []) (by kernel_rfl) ?_))
  have e0 : Int.tmod x 8796093022208 = x % 8796093022208 := Int.tmod_eq_emod_of_nonneg hx.1
  have e1 : W (Int.tmod x 8796093022208) = x % 8796093022208 := by rw [e0]; exact W_id (by omega)
  rw [e1]
  have t0 : Int.tmod (x % 8796093022208) 1024 = cutI x 0 10 := by
    rw [Int.tmod_eq_emod_of_nonneg (by omega)]; unfold cutI; show _ = x / 1 % 1024; omega
  have t1 : W (Int.tdiv (x % 8796093022208) 1024) = x % 8796093022208 / 1024 := by rw [Int.tdiv_eq_ediv_of_nonneg (by omega)]; exact W_id (by omega)
  have t2 : W (Int.tdiv (x % 8796093022208) 524288) = x % 8796093022208 / 524288 := by rw [Int.tdiv_eq_ediv_of_nonneg (by omega)]; exact W_id (by omega)
  have t3 : W (Int.tdiv (x % 8796093022208) 1048576) = x % 8796093022208 / 1048576 := by rw [Int.tdiv_eq_ediv_of_nonneg (by omega)]; exact W_id (by omega)
  have t4 : W (Int.tdiv (x % 8796093022208) 33554432) = cutI x 25 18 := by
    rw [Int.tdiv_eq_ediv_of_nonneg (by omega), W_id (by omega)]; unfold cutI; show _ = x / 33554432 % 262144; omega
  have s1 : Int.tmod (x % 8796093022208 / 1024) 512 = cutI x 10 9 := by
    rw [Int.tmod_eq_emod_of_nonneg (by omega)]; unfold cutI; show _ = x / 1024 % 512; omega
  have s2 : Int.tmod (x % 8796093022208 / 524288) 2 = cutI x 19 1 := by
    rw [Int.tmod_eq_emod_of_nonneg (by omega)]; unfold cutI; show _ = x / 524288 % 2; omega
  have s3 : Int.tmod (x % 8796093022208 / 1048576) 32 = cutI x 20 5 := by
    rw [Int.tmod_eq_emod_of_nonneg (by omega)]; unfold cutI; show _ = x / 1048576 % 32; omega
  rw [t0, t1, t2, t3, t4, s1, s2, s3]
  repeat refine ⟨by omega, ?_⟩
  exact hK
def reS : RSpec Unit := fun args h => match args, h with
  | [.agg [.int .i64 k, .int .i64 y, .bool m, .int .i64 c, .int .i64 v]], [] => some ((0 ≤ k ∧ k < 1024) ∧ (0 ≤ y ∧ y < 512) ∧ (0 ≤ c ∧ c < 32) ∧ (0 ≤ v ∧ v < 262144), .int .u64 (putV k y m c v))
  | _, _ => none
theorem re_ok : Spec.ok E14.I Try.prog 79 reS.spec := by
  intro args h o ho K hK
  unfold RSpec.spec at ho
  split at ho
  case h_2 => cases ho
  rename_i p vv hv
  unfold reS at hv
  split at hv
  case h_2 => cases hv
  rename_i k y m c v
  simp only [Option.some.injEq, Prod.mk.injEq] at hv
  obtain ⟨rfl, rfl⟩ := hv
  simp only [Option.some.injEq] at ho; subst ho
  obtain ⟨⟨hk, hy, hc, hv⟩, hK⟩ := hK
  have hK : K (.int .u64 (putV k y m c v)) [] := hK
  refine CallOk.trim (callOk_of (E := E14) Try.checked.mixed (L := LL) (n := 10) (of_nf (q := bif m then (1024 : Int) ≠ (0 : Int) ∧ (512 : Int) ≠ (0 : Int) ∧ (32 : Int) ≠ (0 : Int) ∧ (262144 : Int) ≠ (0 : Int) ∧ K (AVal.int .u64 (WU (W (W (W (W (Int.tmod k 1024 + W (Int.tmod y 512 * 1024)) + W (1 * 524288)) + W (Int.tmod c 32 * 1048576)) + W (Int.tmod v 262144 * 33554432))))) [] else (1024 : Int) ≠ (0 : Int) ∧ (512 : Int) ≠ (0 : Int) ∧ (32 : Int) ≠ (0 : Int) ∧ (262144 : Int) ≠ (0 : Int) ∧ K (AVal.int .u64 (WU (W (W (W (W (Int.tmod k 1024 + W (Int.tmod y 512 * 1024)) + W (0 * 524288)) + W (Int.tmod c 32 * 1048576)) + W (Int.tmod v 262144 * 33554432))))) []) (by kernel_rfl) ?_))
  have e1 : Int.tmod k 1024 = k := by rw [Int.tmod_eq_emod_of_nonneg (by omega)]; omega
  have e2 : Int.tmod y 512 = y := by rw [Int.tmod_eq_emod_of_nonneg (by omega)]; omega
  have e3 : Int.tmod c 32 = c := by rw [Int.tmod_eq_emod_of_nonneg (by omega)]; omega
  have e4 : Int.tmod v 262144 = v := by rw [Int.tmod_eq_emod_of_nonneg (by omega)]; omega
  rw [e1, e2, e3, e4]
  unfold putV at hK
  cases m
  all_goals
    simp (disch := omega) only [W, WU, W_in, WU_in, cond_true, cond_false, bitI] at hK ⊢
    repeat refine ⟨by omega, ?_⟩
    refine cast (congrArg (fun z => K (AVal.int .u64 z) []) ?_) hK
    omega
noncomputable def E15 := (E14.addR 77 unS un_ok).addR 79 reS re_ok
end Go.Sh

/- A tape of actions: what is asked of it. -/
namespace Go.Sh
open Go Go.Proofs
variable [Con]
structure TS where
  i : Int
  bad : Bool
  out : Bool
instance : Inhabited TS := ⟨⟨0, false, false⟩⟩
def a0 (r : List Int) : Int := List.headD r 0
def a1 (r : List Int) : Int := List.headD (List.tail r) 0
def a2 (r : List Int) : Int := List.headD (List.tail (List.tail r)) 0
def a3 (r : List Int) : Int := List.headD (List.tail (List.tail (List.tail r))) 0
/- OPQ -/
def a4 (r : List Int) : Bool := !ieq (List.headD (List.tail (List.tail (List.tail (List.tail r)))) 0) 0
def tRow (A : List (List Int)) (s : TS) : List Int := List.getD A (0 + Int.toNat s.i) []
/- OPQ -/
def tHit (A : List (List Int)) (s : TS) (k a : Int) : Bool := !s.bad && (!s.out && (!ile (A.length : Int) s.i && (ieq (a0 (tRow A s)) k && ieq (a1 (tRow A s)) a)))
/- OPQ -/
def tGot (A : List (List Int)) (s : TS) (k a : Int) : List Int := bif tHit A s k a then tRow A s else []
/- OPQ -/
def tTook (A : List (List Int)) (s : TS) (k a : Int) : TS := bif s.bad || s.out then s else bif ile (A.length : Int) s.i then ⟨s.i, s.bad, true⟩ else ⟨s.i + 1, !tHit A s k a, s.out⟩
/- OPQ -/
def tStor (A : List (List Int)) (s : TS) (a x : Int) : TS := ⟨(tTook A s 2 a).i, (tTook A s 2 a).bad || (!(tTook A s 2 a).out && (a4 (tGot A s 2 a) && !ieq (a3 (tGot A s 2 a)) x)), (tTook A s 2 a).out⟩
def tNo (r : List Int) : Bool := !a4 r && (ieq (a2 r) 0 && ieq (a3 r) 0)
/- OPQ -/
def tCas (A : List (List Int)) (s : TS) (a x y : Int) : TS := ⟨(tTook A s 3 a).i, (tTook A s 3 a).bad || (!(tTook A s 3 a).out && (!tNo (tGot A s 3 a) && (!ieq (a3 (tGot A s 3 a)) y || !(a4 (tGot A s 3 a) == ieq (a2 (tGot A s 3 a)) x)))), (tTook A s 3 a).out⟩
/- OPQ -/
def tAdd (A : List (List Int)) (s : TS) (a x : Int) : TS := ⟨(tTook A s 4 a).i, (tTook A s 4 a).bad || (!(tTook A s 4 a).out && (a4 (tGot A s 4 a) && !ieq (a3 (tGot A s 4 a)) (WU (a2 (tGot A s 4 a) + x)))), (tTook A s 4 a).out⟩
def tapeH (A : List (List Int)) (s : TS) : Heap Unit := [some (.cells [.tslice 1 0 A.length 5, .int .i64 s.i, .bool s.bad, .bool s.out]), some (.tab [some .i64, some .i64, some .u64, some .u64, none] A)]
def tapePat (h : Heap Unit) : Option (Nat × TS × List (List Int)) := match h with
  | [some (.cells [.tslice 1 0 len 5, .int .i64 i, .bool bad, .bool out]), some (.tab [some .i64, some .i64, some .u64, some .u64, none] A)] => some (len, ⟨i, bad, out⟩, A)
  | _ => none
theorem tapePat_eq {h : Heap Unit} {l : Nat} {s : TS} {A : List (List Int)} (e : tapePat h = some (l, s, A)) (hl : l = A.length) : h = tapeH A s := by
  unfold tapePat at e
  split at e
  · simp only [Option.some.injEq, Prod.mk.injEq] at e
    obtain ⟨rfl, rfl, rfl⟩ := e
    subst hl; rfl
  · cases e
theorem not_tr {b : Bool} (h : (!b) = true) : b = false := by simpa using h
theorem not_fa {b : Bool} (h : (!b) = false) : b = true := by simpa using h

def takeS : Spec Unit := fun args h => match args, tapePat h with
  | [.ptr 0 0, .int .i64 k, .int .i64 a], some (l, s, A) => some (.pre (l = A.length ∧ (0 ≤ s.i ∧ s.i ≤ 4611686018427387904)) (.ret (.agg [.int .i64 (a0 (tGot A s k a)), .int .i64 (a1 (tGot A s k a)), .int .u64 (a2 (tGot A s k a)), .int .u64 (a3 (tGot A s k a)), .bool (a4 (tGot A s k a))]) (tapeH A (tTook A s k a))))
  | _, _ => none
theorem take_ok : Spec.ok E15.I Try.prog 101 takeS := by
  intro args h o ho K hK
  unfold takeS at ho
  split at ho
  case h_2 => cases ho
  rename_i k a l s A hm
  simp only [Option.some.injEq] at ho; subst ho
  obtain ⟨⟨hl, hp⟩, hK⟩ := hK
  have hh := tapePat_eq hm hl
  subst hh
  have hK : K (.agg [.int .i64 (a0 (tGot A s k a)), .int .i64 (a1 (tGot A s k a)), .int .u64 (a2 (tGot A s k a)), .int .u64 (a3 (tGot A s k a)), .bool (a4 (tGot A s k a))]) (tapeH A (tTook A s k a)) := hK
  refine CallOk.trim (callOk_of (E := E15) Try.checked.mixed (L := fun _ _ => none) (n := 10) (of_nf (q := bif s.2 then K (AVal.agg [AVal.int .i64 0, AVal.int .i64 0, AVal.int .u64 0, AVal.int .u64 0, AVal.bool false]) [some (Entry.cells [AVal.tslice 1 0 (List.length A) 5, AVal.int .i64 s.1, AVal.bool s.2, AVal.bool s.3]), some (Entry.tab [some .i64, some .i64, some .u64, some .u64, none] A)] else bif s.3 then K (AVal.agg [AVal.int .i64 0, AVal.int .i64 0, AVal.int .u64 0, AVal.int .u64 0, AVal.bool false]) [some (Entry.cells [AVal.tslice 1 0 (List.length A) 5, AVal.int .i64 s.1, AVal.bool s.2, AVal.bool s.3]), some (Entry.tab [some .i64, some .i64, some .u64, some .u64, none] A)] else bif ile (↑(List.length A) : Int) s.1 then K (AVal.agg [AVal.int .i64 0, AVal.int .i64 0, AVal.int .u64 0, AVal.int .u64 0, AVal.bool false]) [some (Entry.cells [AVal.tslice 1 0 (List.length A) 5, AVal.int .i64 s.1, AVal.bool s.2, AVal.bool true]), some (Entry.tab [some .i64, some .i64, some .u64, some .u64, none] A)] else ((0 : Int) ≤ s.1 ∧ s.1 < (↑(List.length A) : Int)) ∧ 0 + Int.toNat s.1 < List.length A ∧ bif !ieq (List.headD (List.getD A (0 + Int.toNat s.1) []) 0) k then K (AVal.agg [AVal.int .i64 0, AVal.int .i64 0, AVal.int .u64 0, AVal.int .u64 0, AVal.bool false]) [some (Entry.cells [AVal.tslice 1 0 (List.length A) 5, AVal.int .i64 (W (s.1 + 1)), AVal.bool true, AVal.bool s.3]), some (Entry.tab [some .i64, some .i64, some .u64, some .u64, none] A)] else bif !ieq (List.headD (List.tail (List.getD A (0 + Int.toNat s.1) [])) 0) a then K (AVal.agg [AVal.int .i64 0, AVal.int .i64 0, AVal.int .u64 0, AVal.int .u64 0, AVal.bool false]) [some (Entry.cells [AVal.tslice 1 0 (List.length A) 5, AVal.int .i64 (W (s.1 + 1)), AVal.bool true, AVal.bool s.3]), some (Entry.tab [some .i64, some .i64, some .u64, some .u64, none] A)] else K (AVal.agg [AVal.int .i64 (List.headD (List.getD A (0 + Int.toNat s.1) []) 0), AVal.int .i64 (List.headD (List.tail (List.getD A (0 + Int.toNat s.1) [])) 0), AVal.int .u64 (List.headD (List.tail (List.tail (List.getD A (0 + Int.toNat s.1) []))) 0), AVal.int .u64 (List.headD (List.tail (List.tail (List.tail (List.getD A (0 + Int.toNat s.1) [])))) 0), AVal.bool !ieq (List.headD (List.tail (List.tail (List.tail (List.tail (List.getD A (0 + Int.toNat s.1) []))))) 0) 0]) [some (Entry.cells [AVal.tslice 1 0 (List.length A) 5, AVal.int .i64 (W (s.1 + 1)), AVal.bool s.2, AVal.bool s.3]), some (Entry.tab [some .i64, some .i64, some .u64, some .u64, none] A)]) (by kernel_rfl) ?_))
  obtain ⟨i, bad, out⟩ := s
  cases bad
  case true => simpa [tGot, tTook, tHit, a0, a1, a2, a3, a4, tapeH, ieq_eq] using hK
  cases out
  case true => simpa [tGot, tTook, tHit, a0, a1, a2, a3, a4, tapeH, ieq_eq] using hK
  simp only [cond_false] at hp ⊢
  refine cond_go (fun e => ?_) (fun e => ?_)
  · have h1 : tHit A ⟨i, false, false⟩ k a = false := by unfold tHit; simp only [e, Bool.not_true, Bool.false_and, Bool.and_false]
    simp only [tGot, tTook, h1, e, Bool.or_false, cond_true, cond_false] at hK
    exact hK
  · have e' := e
    rw [ile_eq, decide_eq_false_iff_not] at e'
    have hw : W (i + 1) = i + 1 := W_id (by omega)
    rw [hw]
    have hg : ∀ b, tHit A ⟨i, false, false⟩ k a = b → tTook A ⟨i, false, false⟩ k a = ⟨i + 1, !b, false⟩ := by
      intro b hb
      simp only [tTook, hb, e, Bool.or_false, cond_false]
    have hr : tRow A ⟨i, false, false⟩ = List.getD A (0 + Int.toNat i) [] := rfl
    have no : tHit A ⟨i, false, false⟩ k a = false → tGot A ⟨i, false, false⟩ k a = [] := by intro hb; unfold tGot; rw [hb]; rfl
    have yes : tHit A ⟨i, false, false⟩ k a = true → tGot A ⟨i, false, false⟩ k a = tRow A ⟨i, false, false⟩ := by intro hb; unfold tGot; rw [hb]; rfl
    refine ⟨by omega, by omega, cond_go (fun c1 => ?_) (fun c1 => cond_go (fun c2 => ?_) (fun c2 => ?_))⟩
    · have c1 := not_tr c1
      have h1 : tHit A ⟨i, false, false⟩ k a = false := by unfold tHit; rw [hr]; simp only [a0, c1, Bool.false_and, Bool.and_false]
      rw [hg _ h1, no h1] at hK
      exact hK
    · have c2 := not_tr c2
      have h1 : tHit A ⟨i, false, false⟩ k a = false := by unfold tHit; rw [hr]; simp only [a1, c2, Bool.and_false]
      rw [hg _ h1, no h1] at hK
      exact hK
    · have c1 := not_fa c1
      have c2 := not_fa c2
      have h1 : tHit A ⟨i, false, false⟩ k a = true := by unfold tHit; rw [hr]; simp only [a0, a1, c1, c2, e, Bool.not_false, Bool.and_true]
      rw [hg _ h1, yes h1] at hK
      exact hK
def overS : RSpec Unit := fun args h => match args, h with
  | [.ptr 0 0], some (.cells [v, .int .i64 i, .bool bad, .bool out]) :: rest => some (True, .bool (bad || out))
  | _, _ => none
theorem over_ok : Spec.ok E15.I Try.prog 74 overS.spec := by
  intro args h o ho K hK
  unfold RSpec.spec at ho
  split at ho
  case h_2 => cases ho
  rename_i p v hv
  unfold overS at hv
  split at hv
  case h_2 => cases hv
  rename_i v i bad out rest
  simp only [Option.some.injEq, Prod.mk.injEq] at hv
  obtain ⟨rfl, rfl⟩ := hv
  simp only [Option.some.injEq] at ho; subst ho
  obtain ⟨_, hK⟩ := hK
  refine (callOk_of (E := E15) Try.checked.mixed (L := fun _ _ => none) (n := 10) (of_nf (q := bif bad then K (AVal.bool true) (some (Entry.cells [v, AVal.int .i64 i, AVal.bool bad, AVal.bool out]) :: rest) else K (AVal.bool out) (some (Entry.cells [v, AVal.int .i64 i, AVal.bool bad, AVal.bool out]) :: rest)) (by kernel_rfl) ?_))
  cases bad <;> cases out <;> exact hK
noncomputable def E16a := (E15.addS 101 (castSpec [(.cell 0 0, .tab [some .i64, some .i64, some .u64, some .u64, none])] takeS) (castSpec_ok take_ok)).addR 74 overS over_ok
end Go.Sh

/- A tape of actions: the four that are asked of it, and whether it fits. -/
namespace Go.Sh
open Go Go.Proofs
variable [Con]
def tloadS : Spec Unit := fun args h => match args, tapePat h with
  | [.ptr 0 0, .int .i64 a], some (l, s, A) => some (.pre (l = A.length ∧ (0 ≤ s.i ∧ s.i ≤ 4611686018427387904)) (.ret (.int .u64 (a2 (tGot A s 1 a))) (tapeH A (tTook A s 1 a))))
  | _, _ => none
theorem tload_ok : Spec.ok E16a.I Try.prog 72 tloadS := by
  intro args h o ho K hK
  unfold tloadS at ho
  split at ho
  case h_2 => cases ho
  rename_i a l s A hm
  simp only [Option.some.injEq] at ho; subst ho
  obtain ⟨⟨hl, hp⟩, hK⟩ := hK
  have hh := tapePat_eq hm hl
  subst hh
  have hK : K (.int .u64 (a2 (tGot A s 1 a))) (tapeH A (tTook A s 1 a)) := hK
  refine CallOk.trim (callOk_of (E := E16a) Try.checked.mixed (L := fun _ _ => none) (n := 10) (of_nf (q := (List.length A = List.length A ∧ (0 : Int) ≤ s.1 ∧ s.1 ≤ (4611686018427387904 : Int)) ∧ K (AVal.int .u64 (a2 (tGot A s 1 a))) [some (Entry.cells [AVal.tslice 1 0 (List.length A) 5, AVal.int .i64 (tTook A s 1 a).1, AVal.bool (tTook A s 1 a).2, AVal.bool (tTook A s 1 a).3]), some (Entry.tab [some .i64, some .i64, some .u64, some .u64, none] A)]) (by kernel_rfl) ?_))
  exact ⟨⟨rfl, hp⟩, hK⟩
def tstoreS : Spec Unit := fun args h => match args, tapePat h with
  | [.ptr 0 0, .int .i64 a, .int .u64 x], some (l, s, A) => some (.pre (l = A.length ∧ (0 ≤ s.i ∧ s.i ≤ 4611686018427387904)) (.ret (.tup []) (tapeH A (tStor A s a x))))
  | _, _ => none
theorem tstore_ok : Spec.ok E16a.I Try.prog 78 tstoreS := by
  intro args h o ho K hK
  unfold tstoreS at ho
  split at ho
  case h_2 => cases ho
  rename_i a x l s A hm
  simp only [Option.some.injEq] at ho; subst ho
  obtain ⟨⟨hl, hp⟩, hK⟩ := hK
  have hh := tapePat_eq hm hl
  subst hh
  have hK : K (.tup []) (tapeH A (tStor A s a x)) := hK
  refine CallOk.trim (callOk_of (E := E16a) Try.checked.mixed (L := fun _ _ => none) (n := 10) (of_nf (q := (List.length A = List.length A ∧ (0 : Int) ≤ s.1 ∧ s.1 ≤ (4611686018427387904 : Int)) ∧ True ∧ bif !bif (tTook A s 2 a).2 then true else (tTook A s 2 a).3 then bif a4 (tGot A s 2 a) then bif !ieq (a3 (tGot A s 2 a)) x then K (AVal.tup []) [some (Entry.cells [AVal.tslice 1 0 (List.length A) 5, AVal.int .i64 (tTook A s 2 a).1, AVal.bool true, AVal.bool (tTook A s 2 a).3]), some (Entry.tab [some .i64, some .i64, some .u64, some .u64, none] A)] else K (AVal.tup []) [some (Entry.cells [AVal.tslice 1 0 (List.length A) 5, AVal.int .i64 (tTook A s 2 a).1, AVal.bool (tTook A s 2 a).2, AVal.bool (tTook A s 2 a).3]), some (Entry.tab [some .i64, some .i64, some .u64, some .u64, none] A)] else K (AVal.tup []) [some (Entry.cells [AVal.tslice 1 0 (List.length A) 5, AVal.int .i64 (tTook A s 2 a).1, AVal.bool (tTook A s 2 a).2, AVal.bool (tTook A s 2 a).3]), some (Entry.tab [some .i64, some .i64, some .u64, some .u64, none] A)] else K (AVal.tup []) [some (Entry.cells [AVal.tslice 1 0 (List.length A) 5, AVal.int .i64 (tTook A s 2 a).1, AVal.bool (tTook A s 2 a).2, AVal.bool (tTook A s 2 a).3]), some (Entry.tab [some .i64, some .i64, some .u64, some .u64, none] A)]) (by kernel_rfl) ?_))
  unfold tStor tapeH at hK
  refine ⟨⟨rfl, hp⟩, trivial, ?_⟩
  generalize tTook A s 2 a = t at hK ⊢
  generalize tGot A s 2 a = g at hK ⊢
  obtain ⟨i, bad, out⟩ := t
  dsimp only at hK ⊢
  generalize a4 g = b1 at hK ⊢
  generalize ieq (a3 g) x = b2 at hK ⊢
  cases bad <;> cases out <;> cases b1 <;> cases b2 <;> exact hK
def taddS : Spec Unit := fun args h => match args, tapePat h with
  | [.ptr 0 0, .int .i64 a, .int .u64 x], some (l, s, A) => some (.pre (l = A.length ∧ (0 ≤ s.i ∧ s.i ≤ 4611686018427387904)) (.ret (.int .u64 (a2 (tGot A s 4 a))) (tapeH A (tAdd A s a x))))
  | _, _ => none
theorem tadd_ok : Spec.ok E16a.I Try.prog 94 taddS := by
  intro args h o ho K hK
  unfold taddS at ho
  split at ho
  case h_2 => cases ho
  rename_i a x l s A hm
  simp only [Option.some.injEq] at ho; subst ho
  obtain ⟨⟨hl, hp⟩, hK⟩ := hK
  have hh := tapePat_eq hm hl
  subst hh
  have hK : K (.int .u64 (a2 (tGot A s 4 a))) (tapeH A (tAdd A s a x)) := hK
  refine CallOk.trim (callOk_of (E := E16a) Try.checked.mixed (L := fun _ _ => none) (n := 10) (of_nf (q := (List.length A = List.length A ∧ (0 : Int) ≤ s.1 ∧ s.1 ≤ (4611686018427387904 : Int)) ∧ True ∧ bif !bif (tTook A s 4 a).2 then true else (tTook A s 4 a).3 then bif a4 (tGot A s 4 a) then bif !ieq (a3 (tGot A s 4 a)) (WU (a2 (tGot A s 4 a) + x)) then K (AVal.int .u64 (a2 (tGot A s 4 a))) [some (Entry.cells [AVal.tslice 1 0 (List.length A) 5, AVal.int .i64 (tTook A s 4 a).1, AVal.bool true, AVal.bool (tTook A s 4 a).3]), some (Entry.tab [some .i64, some .i64, some .u64, some .u64, none] A)] else K (AVal.int .u64 (a2 (tGot A s 4 a))) [some (Entry.cells [AVal.tslice 1 0 (List.length A) 5, AVal.int .i64 (tTook A s 4 a).1, AVal.bool (tTook A s 4 a).2, AVal.bool (tTook A s 4 a).3]), some (Entry.tab [some .i64, some .i64, some .u64, some .u64, none] A)] else K (AVal.int .u64 (a2 (tGot A s 4 a))) [some (Entry.cells [AVal.tslice 1 0 (List.length A) 5, AVal.int .i64 (tTook A s 4 a).1, AVal.bool (tTook A s 4 a).2, AVal.bool (tTook A s 4 a).3]), some (Entry.tab [some .i64, some .i64, some .u64, some .u64, none] A)] else K (AVal.int .u64 (a2 (tGot A s 4 a))) [some (Entry.cells [AVal.tslice 1 0 (List.length A) 5, AVal.int .i64 (tTook A s 4 a).1, AVal.bool (tTook A s 4 a).2, AVal.bool (tTook A s 4 a).3]), some (Entry.tab [some .i64, some .i64, some .u64, some .u64, none] A)]) (by kernel_rfl) ?_))
  unfold tAdd tapeH at hK
  refine ⟨⟨rfl, hp⟩, trivial, ?_⟩
  generalize tTook A s 4 a = t at hK ⊢
  generalize tGot A s 4 a = g at hK ⊢
  obtain ⟨i, bad, out⟩ := t
  dsimp only at hK ⊢
  generalize a4 g = b1 at hK ⊢
  generalize ieq (a3 g) _ = b2 at hK ⊢
  cases bad <;> cases out <;> cases b1 <;> cases b2 <;> exact hK
def tcasS : Spec Unit := fun args h => match args, tapePat h with
  | [.ptr 0 0, .int .i64 a, .int .u64 x, .int .u64 y], some (l, s, A) => some (.pre (l = A.length ∧ (0 ≤ s.i ∧ s.i ≤ 4611686018427387904)) (.ret (.bool (a4 (tGot A s 3 a))) (tapeH A (tCas A s a x y))))
  | _, _ => none
theorem tcas_ok : Spec.ok E16a.I Try.prog 103 tcasS := by
  intro args h o ho K hK
  unfold tcasS at ho
  split at ho
  case h_2 => cases ho
  rename_i a x y l s A hm
  simp only [Option.some.injEq] at ho; subst ho
  obtain ⟨⟨hl, hp⟩, hK⟩ := hK
  have hh := tapePat_eq hm hl
  subst hh
  have hK : K (.bool (a4 (tGot A s 3 a))) (tapeH A (tCas A s a x y)) := hK
  refine CallOk.trim (callOk_of (E := E16a) Try.checked.mixed (L := fun _ _ => none) (n := 10) (of_nf (q := (List.length A = List.length A ∧ (0 : Int) ≤ s.1 ∧ s.1 ≤ (4611686018427387904 : Int)) ∧ bif !a4 (tGot A s 3 a) then bif ieq (a2 (tGot A s 3 a)) 0 then True ∧ bif !bif (tTook A s 3 a).2 then true else (tTook A s 3 a).3 then bif !ieq (a3 (tGot A s 3 a)) 0 then bif !ieq (a3 (tGot A s 3 a)) y then K (AVal.bool (a4 (tGot A s 3 a))) [some (Entry.cells [AVal.tslice 1 0 (List.length A) 5, AVal.int .i64 (tTook A s 3 a).1, AVal.bool true, AVal.bool (tTook A s 3 a).3]), some (Entry.tab [some .i64, some .i64, some .u64, some .u64, none] A)] else bif !bif a4 (tGot A s 3 a) then ieq (a2 (tGot A s 3 a)) x else !ieq (a2 (tGot A s 3 a)) x then K (AVal.bool (a4 (tGot A s 3 a))) [some (Entry.cells [AVal.tslice 1 0 (List.length A) 5, AVal.int .i64 (tTook A s 3 a).1, AVal.bool true, AVal.bool (tTook A s 3 a).3]), some (Entry.tab [some .i64, some .i64, some .u64, some .u64, none] A)] else K (AVal.bool (a4 (tGot A s 3 a))) [some (Entry.cells [AVal.tslice 1 0 (List.length A) 5, AVal.int .i64 (tTook A s 3 a).1, AVal.bool (tTook A s 3 a).2, AVal.bool (tTook A s 3 a).3]), some (Entry.tab [some .i64, some .i64, some .u64, some .u64, none] A)] else K (AVal.bool (a4 (tGot A s 3 a))) [some (Entry.cells [AVal.tslice 1 0 (List.length A) 5, AVal.int .i64 (tTook A s 3 a).1, AVal.bool (tTook A s 3 a).2, AVal.bool (tTook A s 3 a).3]), some (Entry.tab [some .i64, some .i64, some .u64, some .u64, none] A)] else K (AVal.bool (a4 (tGot A s 3 a))) [some (Entry.cells [AVal.tslice 1 0 (List.length A) 5, AVal.int .i64 (tTook A s 3 a).1, AVal.bool (tTook A s 3 a).2, AVal.bool (tTook A s 3 a).3]), some (Entry.tab [some .i64, some .i64, some .u64, some .u64, none] A)] else True ∧ bif !bif (tTook A s 3 a).2 then true else (tTook A s 3 a).3 then bif !ieq (a3 (tGot A s 3 a)) y then K (AVal.bool (a4 (tGot A s 3 a))) [some (Entry.cells [AVal.tslice 1 0 (List.length A) 5, AVal.int .i64 (tTook A s 3 a).1, AVal.bool true, AVal.bool (tTook A s 3 a).3]), some (Entry.tab [some .i64, some .i64, some .u64, some .u64, none] A)] else bif !bif a4 (tGot A s 3 a) then ieq (a2 (tGot A s 3 a)) x else !ieq (a2 (tGot A s 3 a)) x then K (AVal.bool (a4 (tGot A s 3 a))) [some (Entry.cells [AVal.tslice 1 0 (List.length A) 5, AVal.int .i64 (tTook A s 3 a).1, AVal.bool true, AVal.bool (tTook A s 3 a).3]), some (Entry.tab [some .i64, some .i64, some .u64, some .u64, none] A)] else K (AVal.bool (a4 (tGot A s 3 a))) [some (Entry.cells [AVal.tslice 1 0 (List.length A) 5, AVal.int .i64 (tTook A s 3 a).1, AVal.bool (tTook A s 3 a).2, AVal.bool (tTook A s 3 a).3]), some (Entry.tab [some .i64, some .i64, some .u64, some .u64, none] A)] else K (AVal.bool (a4 (tGot A s 3 a))) [some (Entry.cells [AVal.tslice 1 0 (List.length A) 5, AVal.int .i64 (tTook A s 3 a).1, AVal.bool (tTook A s 3 a).2, AVal.bool (tTook A s 3 a).3]), some (Entry.tab [some .i64, some .i64, some .u64, some .u64, none] A)] else True ∧ bif !bif (tTook A s 3 a).2 then true else (tTook A s 3 a).3 then bif !ieq (a3 (tGot A s 3 a)) y then K (AVal.bool (a4 (tGot A s 3 a))) [some (Entry.cells [AVal.tslice 1 0 (List.length A) 5, AVal.int .i64 (tTook A s 3 a).1, AVal.bool true, AVal.bool (tTook A s 3 a).3]), some (Entry.tab [some .i64, some .i64, some .u64, some .u64, none] A)] else bif !bif a4 (tGot A s 3 a) then ieq (a2 (tGot A s 3 a)) x else !ieq (a2 (tGot A s 3 a)) x then K (AVal.bool (a4 (tGot A s 3 a))) [some (Entry.cells [AVal.tslice 1 0 (List.length A) 5, AVal.int .i64 (tTook A s 3 a).1, AVal.bool true, AVal.bool (tTook A s 3 a).3]), some (Entry.tab [some .i64, some .i64, some .u64, some .u64, none] A)] else K (AVal.bool (a4 (tGot A s 3 a))) [some (Entry.cells [AVal.tslice 1 0 (List.length A) 5, AVal.int .i64 (tTook A s 3 a).1, AVal.bool (tTook A s 3 a).2, AVal.bool (tTook A s 3 a).3]), some (Entry.tab [some .i64, some .i64, some .u64, some .u64, none] A)] else K (AVal.bool (a4 (tGot A s 3 a))) [some (Entry.cells [AVal.tslice 1 0 (List.length A) 5, AVal.int .i64 (tTook A s 3 a).1, AVal.bool (tTook A s 3 a).2, AVal.bool (tTook A s 3 a).3]), some (Entry.tab [some .i64, some .i64, some .u64, some .u64, none] A)]) (by kernel_rfl) ?_))
  unfold tCas tNo tapeH at hK
  refine ⟨⟨rfl, hp⟩, ?_⟩
  generalize tTook A s 3 a = t at hK ⊢
  generalize tGot A s 3 a = g at hK ⊢
  obtain ⟨i, bad, out⟩ := t
  dsimp only at hK ⊢
  generalize a4 g = b1 at hK ⊢
  generalize ieq (a3 g) y = b2 at hK ⊢
  generalize ieq (a2 g) x = b3 at hK ⊢
  generalize ieq (a2 g) 0 = b4 at hK ⊢
  generalize ieq (a3 g) 0 = b5 at hK ⊢
  have go : ∀ {b : Bool} {X Y : Prop}, (b = true → X) → (b = false → Y) → cond b X Y := fun h1 h2 => cond_go h1 h2
  cases b1 <;> cases b2 <;> cases b3 <;> cases b4 <;> cases b5 <;> cases bad <;> cases out <;> first | exact hK | exact ⟨trivial, hK⟩
/- OPQ -/
def fitsB (n : Int) (s : TS) (e : Bool) : Bool := !s.bad && (ieq s.i n && (bif s.out then !e else e))
def fitsS : RSpec Unit := fun args h => match args, h with
  | [.ptr 0 0, .bool e], some (.cells [.tslice 1 0 n 5, .int .i64 i, .bool bad, .bool out]) :: rest => some (True, .bool (fitsB n ⟨i, bad, out⟩ e))
  | _, _ => none
theorem fits_ok : Spec.ok E16a.I Try.prog 31 fitsS.spec := by
  intro args h o ho K hK
  unfold RSpec.spec at ho
  split at ho
  case h_2 => cases ho
  rename_i p v hv
  unfold fitsS at hv
  split at hv
  case h_2 => cases hv
  rename_i e n i bad out rest
  simp only [Option.some.injEq, Prod.mk.injEq] at hv
  obtain ⟨rfl, rfl⟩ := hv
  simp only [Option.some.injEq] at ho; subst ho
  obtain ⟨_, hK⟩ := hK
  refine (callOk_of (E := E16a) Try.checked.mixed (L := fun _ _ => none) (n := 10) (of_nf (q := bif bad then K (AVal.bool false) (some (Entry.cells [AVal.tslice 1 0 n 5, AVal.int .i64 i, AVal.bool bad, AVal.bool out]) :: rest) else bif !ieq i (↑n : Int) then K (AVal.bool false) (some (Entry.cells [AVal.tslice 1 0 n 5, AVal.int .i64 i, AVal.bool bad, AVal.bool out]) :: rest) else K (AVal.bool !bif out then e else !e) (some (Entry.cells [AVal.tslice 1 0 n 5, AVal.int .i64 i, AVal.bool bad, AVal.bool out]) :: rest)) (by kernel_rfl) ?_))
  unfold fitsB at hK
  dsimp only at hK
  generalize ieq i (n : Int) = b at hK ⊢
  cases bad <;> cases out <;> cases b <;> cases e <;> exact hK
abbrev KA : List (Place × CastK) := [(.cell 0 0, .tab [some .i64, some .i64, some .u64, some .u64, none])]
noncomputable def E16 := ((((E16a.addS 72 (castSpec KA tloadS) (castSpec_ok tload_ok)).addS 78 (castSpec KA tstoreS) (castSpec_ok tstore_ok)).addS 94 (castSpec KA taddS) (castSpec_ok tadd_ok)).addS 103 (castSpec KA tcasS) (castSpec_ok tcas_ok)).addR 31 fitsS fits_ok
end Go.Sh

/- Words are words. -/
namespace Go.Sh
open Go Go.Proofs
variable [Con]
theorem bounds_u64 {n : Int} (h : codeWf (some .u64) n) : 0 ≤ n ∧ n ≤ 18446744073709551615 := by
  have h : (decide (IntKind.min .u64 ≤ n) && decide (n ≤ IntKind.max .u64)) = true := h
  simp only [Bool.and_eq_true, decide_eq_true_eq] at h
  exact h
/-- words are words -/
structure okW (xs : List Int) : Prop where
  h : ∀ x ∈ xs, 0 ≤ x ∧ x ≤ 18446744073709551615
theorem okW_memW {t n : Int} {xs : List Int} (h : okW xs) : okW (memW t n xs) := by
  refine ⟨fun x hx => ?_⟩
  unfold memW overI at hx
  simp only [List.take_zero, List.nil_append, List.mem_append] at hx
  rcases hx with hx | hx
  · exact h.h x (List.mem_of_mem_take hx)
  · have := List.mem_of_mem_drop hx
    rw [List.mem_replicate] at this
    omega
theorem okW_peek {xs : List Int} (h : okW xs) (a : Int) : 0 ≤ peek xs a ∧ peek xs a ≤ 18446744073709551615 := by
  unfold peek
  split
  · rename_i hi
    have hlt : a.toNat < xs.length := by omega
    rw [List.getD_eq_getElem?_getD, List.getElem?_eq_getElem hlt]
    exact h.h _ (List.getElem_mem hlt)
  · omega
theorem mkL_len (n sp : Int) (ns : List Int) : (mkL n sp ns).length ≤ ns.length := by
  have : ∀ (l R : List Int), (l.foldl (mkStep n sp) R).length ≤ R.length + l.length := by
    intro l
    induction l with
    | nil => intro R; simp
    | cons v l ih => intro R; have h1 := ih (mkStep n sp R v); have h2 := mkStep_len n sp R v; simp only [List.foldl_cons, List.length_cons]; omega
  have h := this ns []
  unfold mkL
  simpa using h
end Go.Sh

/- Descriptors: told, and put. -/
namespace Go.Sh
open Go Go.Proofs
variable [Con]
/- OPQ -/
def pendB (s : Int) : Bool := ile 1 s && ile s 4
/- OPQ -/
def resC (d e : Int) : Int := bif ieq e 5 then (bif ieq d 1 then 4 else 0) else 5
/- OPQ -/
def resO (d e : Int) (m : Bool) : Bool := bif ieq e 5 then (bif ieq d 1 then false else m) else false
/- OPQ -/
def resX (d e f : Int) : Int := bif ieq e 5 then (bif ieq d 1 then 0 else f) else 0
/- OPQ -/
def dPutV (a b c d : Int) (m : Bool) (e f : Int) : Int := a + b * 4096 + c * 2097152 + d * 549755813888 + bitI m * 281474976710656 + e * 562949953421312 + f * 4503599627370496
/- OPQ -/
def dOk (a b c d e f : Int) : Bool := fitI a 12 && (fitI b 9 && (fitI c 18 && (fitI d 9 && (fitI e 3 && fitI f 10))))
theorem cut_raw {x a w : Int} (ha : 0 ≤ a ∧ a ≤ 63) (hw : 0 ≤ w ∧ w ≤ 62) : IntKind.wrap .i64 (IntKind.wrap .u64 ((BitVec.ofInt (IntKind.bits .u64) (Int.fdiv x (2 ^ min (Int.toNat a) (IntKind.bits .u64))) &&& BitVec.ofInt (IntKind.bits .u64) (IntKind.wrap .u64 (IntKind.wrap .u64 (1 * 2 ^ min (Int.toNat w) (IntKind.bits .u64)) - 1))).toNat : Int)) = cutI x a w := by
  have hb : IntKind.bits .u64 = 64 := rfl
  rw [hb]
  have h1 : min a.toNat 64 = a.toNat := by omega
  have h2 : min w.toNat 64 = w.toNat := by omega
  have h3 : (2 : Int) ^ w.toNat ≤ 4611686018427387904 := two_lt (n := 62) (by omega) (by decide)
  have h4 := two_pos w.toNat
  have h5 := two_pos a.toNat
  rw [h1, h2, Int.fdiv_eq_ediv_of_nonneg _ (by omega)]
  simp only [WU, W, Int.one_mul]
  rw [WU_in (x := 2 ^ w.toNat) (by omega), WU_in (x := 2 ^ w.toNat - 1) (by omega), and_mask _ (by omega)]
  have h6 := Int.emod_nonneg (x / 2 ^ a.toNat) (b := 2 ^ w.toNat) (by omega)
  have h7 := Int.emod_lt_of_pos (x / 2 ^ a.toNat) (b := 2 ^ w.toNat) (by omega)
  rw [WU_in (by omega), W_in (by omega)]
  rfl
def dgetS : RSpec Unit := fun args h => match args, h with
  | [.int .u64 x], [] => some (True, .agg [.int .i64 (cutI x 0 12), .int .i64 (cutI x 12 9), .int .i64 (cutI x 21 18), .int .i64 (cutI x 39 9), .bool (ieq (cutI x 48 1) 1), .int .i64 (cutI x 49 3), .int .i64 (cutI x 52 10)])
  | _, _ => none
set_option maxRecDepth 100000 in
theorem dget_ok : Spec.ok E16.I Try.prog 56 dgetS.spec := by
  intro args h o ho K hK
  unfold RSpec.spec at ho
  split at ho
  case h_2 => cases ho
  rename_i pp vv hv
  unfold dgetS at hv
  split at hv
  case h_2 => cases hv
  rename_i x
  simp only [Option.some.injEq, Prod.mk.injEq] at hv
  obtain ⟨rfl, rfl⟩ := hv
  simp only [Option.some.injEq] at ho; subst ho
  obtain ⟨hp, hK⟩ := hK
  have hK : K (.agg [.int .i64 (cutI x 0 12), .int .i64 (cutI x 12 9), .int .i64 (cutI x 21 18), .int .i64 (cutI x 39 9), .bool (ieq (cutI x 48 1) 1), .int .i64 (cutI x 49 3), .int .i64 (cutI x 52 10)]) [] := hK
  refine CallOk.trim (callOk_of (E := E16) Try.checked.mixed (L := LL) (n := 10) (of_nf (q := ((0 : Int) ≤ (0 : Int) ∧ (0 : Int) < (↑7 : Int)) ∧ ((0 : Int) ≤ (0 : Int) ∧ (0 : Int) < (↑1 : Int)) ∧ 1 + (1 : Nat) ≤ (4294967296 : Nat) ∧ ((0 : Int) ≤ W (0 + 1) ∧ W (0 + 1) < (↑7 : Int)) ∧ ((0 : Int) ≤ W (0 + 1) ∧ W (0 + 1) < (↑(1 + 1) : Int)) ∧ 1 + 1 + (1 : Nat) ≤ (4294967296 : Nat) ∧ ((0 : Int) ≤ W (W (0 + 1) + 1) ∧ W (W (0 + 1) + 1) < (↑7 : Int)) ∧ ((0 : Int) ≤ W (W (0 + 1) + 1) ∧ W (W (0 + 1) + 1) < (↑(1 + 1 + 1) : Int)) ∧ 1 + 1 + 1 + (1 : Nat) ≤ (4294967296 : Nat) ∧ ((0 : Int) ≤ W (W (W (0 + 1) + 1) + 1) ∧ W (W (W (0 + 1) + 1) + 1) < (↑7 : Int)) ∧ ((0 : Int) ≤ W (W (W (0 + 1) + 1) + 1) ∧ W (W (W (0 + 1) + 1) + 1) < (↑(1 + 1 + 1 + 1) : Int)) ∧ 1 + 1 + 1 + 1 + (1 : Nat) ≤ (4294967296 : Nat) ∧ ((0 : Int) ≤ W (W (W (W (0 + 1) + 1) + 1) + 1) ∧ W (W (W (W (0 + 1) + 1) + 1) + 1) < (↑7 : Int)) ∧ ((0 : Int) ≤ W (W (W (W (0 + 1) + 1) + 1) + 1) ∧ W (W (W (W (0 + 1) + 1) + 1) + 1) < (↑(1 + 1 + 1 + 1 + 1) : Int)) ∧ 1 + 1 + 1 + 1 + 1 + (1 : Nat) ≤ (4294967296 : Nat) ∧ ((0 : Int) ≤ W (W (W (W (W (0 + 1) + 1) + 1) + 1) + 1) ∧ W (W (W (W (W (0 + 1) + 1) + 1) + 1) + 1) < (↑7 : Int)) ∧ ((0 : Int) ≤ W (W (W (W (W (0 + 1) + 1) + 1) + 1) + 1) ∧ W (W (W (W (W (0 + 1) + 1) + 1) + 1) + 1) < (↑(1 + 1 + 1 + 1 + 1 + 1) : Int)) ∧ 1 + 1 + 1 + 1 + 1 + 1 + (1 : Nat) ≤ (4294967296 : Nat) ∧ ((0 : Int) ≤ W (W (W (W (W (W (0 + 1) + 1) + 1) + 1) + 1) + 1) ∧ W (W (W (W (W (W (0 + 1) + 1) + 1) + 1) + 1) + 1) < (↑7 : Int)) ∧ ((0 : Int) ≤ W (W (W (W (W (W (0 + 1) + 1) + 1) + 1) + 1) + 1) ∧ W (W (W (W (W (W (0 + 1) + 1) + 1) + 1) + 1) + 1) < (↑(1 + 1 + 1 + 1 + 1 + 1 + 1) : Int)) ∧ 1 + 1 + 1 + 1 + 1 + 1 + 1 + (1 : Nat) ≤ (4294967296 : Nat) ∧ ((0 : Int) ≤ (0 : Int) ∧ (0 : Int) < (↑(1 + 1 + 1 + 1 + 1 + 1 + 1 + 1) : Int)) ∧ (0 : Int) ≤ (0 : Int) ∧ ((0 : Int) ≤ (0 : Int) ∧ (0 : Int) < (↑7 : Int)) ∧ (0 : Int) ≤ (12 : Int) ∧ ((0 : Int) ≤ (0 : Int) ∧ (0 : Int) < (↑7 : Int)) ∧ ((0 : Int) ≤ W (0 + 1) ∧ W (0 + 1) < (↑(1 + 1 + 1 + 1 + 1 + 1 + 1 + 1) : Int)) ∧ (0 : Int) ≤ W (0 + 12) ∧ ((0 : Int) ≤ W (0 + 1) ∧ W (0 + 1) < (↑7 : Int)) ∧ (0 : Int) ≤ (9 : Int) ∧ ((0 : Int) ≤ W (0 + 1) ∧ W (0 + 1) < (↑7 : Int)) ∧ ((0 : Int) ≤ W (W (0 + 1) + 1) ∧ W (W (0 + 1) + 1) < (↑(1 + 1 + 1 + 1 + 1 + 1 + 1 + 1) : Int)) ∧ (0 : Int) ≤ W (W (0 + 12) + 9) ∧ ((0 : Int) ≤ W (W (0 + 1) + 1) ∧ W (W (0 + 1) + 1) < (↑7 : Int)) ∧ (0 : Int) ≤ (18 : Int) ∧ ((0 : Int) ≤ W (W (0 + 1) + 1) ∧ W (W (0 + 1) + 1) < (↑7 : Int)) ∧ ((0 : Int) ≤ W (W (W (0 + 1) + 1) + 1) ∧ W (W (W (0 + 1) + 1) + 1) < (↑(1 + 1 + 1 + 1 + 1 + 1 + 1 + 1) : Int)) ∧ (0 : Int) ≤ W (W (W (0 + 12) + 9) + 18) ∧ ((0 : Int) ≤ W (W (W (0 + 1) + 1) + 1) ∧ W (W (W (0 + 1) + 1) + 1) < (↑7 : Int)) ∧ (0 : Int) ≤ (9 : Int) ∧ ((0 : Int) ≤ W (W (W (0 + 1) + 1) + 1) ∧ W (W (W (0 + 1) + 1) + 1) < (↑7 : Int)) ∧ ((0 : Int) ≤ W (W (W (W (0 + 1) + 1) + 1) + 1) ∧ W (W (W (W (0 + 1) + 1) + 1) + 1) < (↑(1 + 1 + 1 + 1 + 1 + 1 + 1 + 1) : Int)) ∧ (0 : Int) ≤ W (W (W (W (0 + 12) + 9) + 18) + 9) ∧ ((0 : Int) ≤ W (W (W (W (0 + 1) + 1) + 1) + 1) ∧ W (W (W (W (0 + 1) + 1) + 1) + 1) < (↑7 : Int)) ∧ (0 : Int) ≤ (1 : Int) ∧ ((0 : Int) ≤ W (W (W (W (0 + 1) + 1) + 1) + 1) ∧ W (W (W (W (0 + 1) + 1) + 1) + 1) < (↑7 : Int)) ∧ ((0 : Int) ≤ W (W (W (W (W (0 + 1) + 1) + 1) + 1) + 1) ∧ W (W (W (W (W (0 + 1) + 1) + 1) + 1) + 1) < (↑(1 + 1 + 1 + 1 + 1 + 1 + 1 + 1) : Int)) ∧ (0 : Int) ≤ W (W (W (W (W (0 + 12) + 9) + 18) + 9) + 1) ∧ ((0 : Int) ≤ W (W (W (W (W (0 + 1) + 1) + 1) + 1) + 1) ∧ W (W (W (W (W (0 + 1) + 1) + 1) + 1) + 1) < (↑7 : Int)) ∧ (0 : Int) ≤ (3 : Int) ∧ ((0 : Int) ≤ W (W (W (W (W (0 + 1) + 1) + 1) + 1) + 1) ∧ W (W (W (W (W (0 + 1) + 1) + 1) + 1) + 1) < (↑7 : Int)) ∧ ((0 : Int) ≤ W (W (W (W (W (W (0 + 1) + 1) + 1) + 1) + 1) + 1) ∧ W (W (W (W (W (W (0 + 1) + 1) + 1) + 1) + 1) + 1) < (↑(1 + 1 + 1 + 1 + 1 + 1 + 1 + 1) : Int)) ∧ (0 : Int) ≤ W (W (W (W (W (W (0 + 12) + 9) + 18) + 9) + 1) + 3) ∧ ((0 : Int) ≤ W (W (W (W (W (W (0 + 1) + 1) + 1) + 1) + 1) + 1) ∧ W (W (W (W (W (W (0 + 1) + 1) + 1) + 1) + 1) + 1) < (↑7 : Int)) ∧ (0 : Int) ≤ (10 : Int) ∧ ((0 : Int) ≤ W (W (W (W (W (W (0 + 1) + 1) + 1) + 1) + 1) + 1) ∧ W (W (W (W (W (W (0 + 1) + 1) + 1) + 1) + 1) + 1) < (↑7 : Int)) ∧ ((0 : Int) ≤ (0 : Int) ∧ (0 : Int) < (↑7 : Int)) ∧ ((0 : Int) ≤ (1 : Int) ∧ (1 : Int) < (↑7 : Int)) ∧ ((0 : Int) ≤ (2 : Int) ∧ (2 : Int) < (↑7 : Int)) ∧ ((0 : Int) ≤ (3 : Int) ∧ (3 : Int) < (↑7 : Int)) ∧ ((0 : Int) ≤ (4 : Int) ∧ (4 : Int) < (↑7 : Int)) ∧ ((0 : Int) ≤ (5 : Int) ∧ (5 : Int) < (↑7 : Int)) ∧ ((0 : Int) ≤ (6 : Int) ∧ (6 : Int) < (↑7 : Int)) ∧ K (AVal.agg [AVal.int .i64 (W (WU (↑(BitVec.toNat (BitVec.ofInt (IntKind.bits .u64) (Int.fdiv x (2 ^ min (Int.toNat 0) (IntKind.bits .u64))) &&& BitVec.ofInt (IntKind.bits .u64) (WU (WU (1 * 2 ^ min (Int.toNat 12) (IntKind.bits .u64)) - 1)))) : Int))), AVal.int .i64 (W (WU (↑(BitVec.toNat (BitVec.ofInt (IntKind.bits .u64) (Int.fdiv x (2 ^ min (Int.toNat (W (0 + 12))) (IntKind.bits .u64))) &&& BitVec.ofInt (IntKind.bits .u64) (WU (WU (1 * 2 ^ min (Int.toNat 9) (IntKind.bits .u64)) - 1)))) : Int))), AVal.int .i64 (W (WU (↑(BitVec.toNat (BitVec.ofInt (IntKind.bits .u64) (Int.fdiv x (2 ^ min (Int.toNat (W (W (0 + 12) + 9))) (IntKind.bits .u64))) &&& BitVec.ofInt (IntKind.bits .u64) (WU (WU (1 * 2 ^ min (Int.toNat 18) (IntKind.bits .u64)) - 1)))) : Int))), AVal.int .i64 (W (WU (↑(BitVec.toNat (BitVec.ofInt (IntKind.bits .u64) (Int.fdiv x (2 ^ min (Int.toNat (W (W (W (0 + 12) + 9) + 18))) (IntKind.bits .u64))) &&& BitVec.ofInt (IntKind.bits .u64) (WU (WU (1 * 2 ^ min (Int.toNat 9) (IntKind.bits .u64)) - 1)))) : Int))), AVal.bool (ieq (W (WU (↑(BitVec.toNat (BitVec.ofInt (IntKind.bits .u64) (Int.fdiv x (2 ^ min (Int.toNat (W (W (W (W (0 + 12) + 9) + 18) + 9))) (IntKind.bits .u64))) &&& BitVec.ofInt (IntKind.bits .u64) (WU (WU (1 * 2 ^ min (Int.toNat 1) (IntKind.bits .u64)) - 1)))) : Int))) 1), AVal.int .i64 (W (WU (↑(BitVec.toNat (BitVec.ofInt (IntKind.bits .u64) (Int.fdiv x (2 ^ min (Int.toNat (W (W (W (W (W (0 + 12) + 9) + 18) + 9) + 1))) (IntKind.bits .u64))) &&& BitVec.ofInt (IntKind.bits .u64) (WU (WU (1 * 2 ^ min (Int.toNat 3) (IntKind.bits .u64)) - 1)))) : Int))), AVal.int .i64 (W (WU (↑(BitVec.toNat (BitVec.ofInt (IntKind.bits .u64) (Int.fdiv x (2 ^ min (Int.toNat (W (W (W (W (W (W (0 + 12) + 9) + 18) + 9) + 1) + 3))) (IntKind.bits .u64))) &&& BitVec.ofInt (IntKind.bits .u64) (WU (WU (1 * 2 ^ min (Int.toNat 10) (IntKind.bits .u64)) - 1)))) : Int)))]) []) (by kernel_rfl) ?_))
  simp (disch := omega) only [W, WU, W_in, Int.reduceAdd, Int.zero_add]
  simp (disch := omega) only [cut_raw]
  repeat refine ⟨by omega, ?_⟩
  exact hK
theorem lt_go {a b : Int} {X Y : Prop} (h1 : a < b → X) (h2 : b ≤ a → Y) : cond (ilt a b) X Y :=
  cond_go (fun e => h1 (by rw [ilt_eq, decide_eq_true_eq] at e; exact e)) (fun e => h2 (by rw [ilt_eq, decide_eq_false_iff_not] at e; omega))
theorem le_go {a b : Int} {X Y : Prop} (h1 : a ≤ b → X) (h2 : b < a → Y) : cond (ile a b) X Y :=
  cond_go (fun e => h1 (by rw [ile_eq, decide_eq_true_eq] at e; exact e)) (fun e => h2 (by rw [ile_eq, decide_eq_false_iff_not] at e; omega))
theorem eq_go {a b : Int} {X Y : Prop} (h1 : a = b → X) (h2 : a ≠ b → Y) : cond (ieq a b) X Y :=
  cond_go (fun e => h1 (by rw [ieq_eq] at e; simpa using e)) (fun e => h2 (by rw [ieq_eq] at e; simpa using e))
theorem dOk_true {a b c d e f : Int} : dOk a b c d e f = true ↔ (0 ≤ a ∧ a < 4096) ∧ (0 ≤ b ∧ b < 512) ∧ (0 ≤ c ∧ c < 262144) ∧ (0 ≤ d ∧ d < 512) ∧ (0 ≤ e ∧ e < 8) ∧ (0 ≤ f ∧ f < 1024) := by
  unfold dOk; simp only [Bool.and_eq_true, fitI_true]; rfl
def dputS : RSpec Unit := fun args h => match args, h with
  | [.agg [.int .i64 a, .int .i64 b, .int .i64 c, .int .i64 d, .bool m, .int .i64 e, .int .i64 f]], [] => some (True, .tup [.int .u64 (bif dOk a b c d e f then dPutV a b c d m e f else 0), .int .i64 (bif dOk a b c d e f then 0 else 2)])
  | _, _ => none
set_option maxRecDepth 100000 in
theorem dput_ok : Spec.ok E16.I Try.prog 53 dputS.spec := by
  intro args h o ho K hK
  unfold RSpec.spec at ho
  split at ho
  case h_2 => cases ho
  rename_i pp vv hv
  unfold dputS at hv
  split at hv
  case h_2 => cases hv
  rename_i a b c d m e f
  simp only [Option.some.injEq, Prod.mk.injEq] at hv
  obtain ⟨rfl, rfl⟩ := hv
  simp only [Option.some.injEq] at ho; subst ho
  obtain ⟨hp, hK⟩ := hK
  have hK : K (.tup [.int .u64 (bif dOk a b c d e f then dPutV a b c d m e f else 0), .int .i64 (bif dOk a b c d e f then 0 else 2)]) [] := hK
  refine CallOk.trim (callOk_of (E := E16) Try.checked.mixed (L := LL) (n := 10) (of_nf (q := ((0 : Int) ≤ (0 : Int) ∧ (0 : Int) < (↑7 : Int)) ∧ ((0 : Int) ≤ (0 : Int) ∧ (0 : Int) < (↑1 : Int)) ∧ 1 + (1 : Nat) ≤ (4294967296 : Nat) ∧ ((0 : Int) ≤ W (0 + 1) ∧ W (0 + 1) < (↑7 : Int)) ∧ ((0 : Int) ≤ W (0 + 1) ∧ W (0 + 1) < (↑(1 + 1) : Int)) ∧ 1 + 1 + (1 : Nat) ≤ (4294967296 : Nat) ∧ ((0 : Int) ≤ W (W (0 + 1) + 1) ∧ W (W (0 + 1) + 1) < (↑7 : Int)) ∧ ((0 : Int) ≤ W (W (0 + 1) + 1) ∧ W (W (0 + 1) + 1) < (↑(1 + 1 + 1) : Int)) ∧ 1 + 1 + 1 + (1 : Nat) ≤ (4294967296 : Nat) ∧ ((0 : Int) ≤ W (W (W (0 + 1) + 1) + 1) ∧ W (W (W (0 + 1) + 1) + 1) < (↑7 : Int)) ∧ ((0 : Int) ≤ W (W (W (0 + 1) + 1) + 1) ∧ W (W (W (0 + 1) + 1) + 1) < (↑(1 + 1 + 1 + 1) : Int)) ∧ 1 + 1 + 1 + 1 + (1 : Nat) ≤ (4294967296 : Nat) ∧ ((0 : Int) ≤ W (W (W (W (0 + 1) + 1) + 1) + 1) ∧ W (W (W (W (0 + 1) + 1) + 1) + 1) < (↑7 : Int)) ∧ ((0 : Int) ≤ W (W (W (W (0 + 1) + 1) + 1) + 1) ∧ W (W (W (W (0 + 1) + 1) + 1) + 1) < (↑(1 + 1 + 1 + 1 + 1) : Int)) ∧ 1 + 1 + 1 + 1 + 1 + (1 : Nat) ≤ (4294967296 : Nat) ∧ ((0 : Int) ≤ W (W (W (W (W (0 + 1) + 1) + 1) + 1) + 1) ∧ W (W (W (W (W (0 + 1) + 1) + 1) + 1) + 1) < (↑7 : Int)) ∧ ((0 : Int) ≤ W (W (W (W (W (0 + 1) + 1) + 1) + 1) + 1) ∧ W (W (W (W (W (0 + 1) + 1) + 1) + 1) + 1) < (↑(1 + 1 + 1 + 1 + 1 + 1) : Int)) ∧ 1 + 1 + 1 + 1 + 1 + 1 + (1 : Nat) ≤ (4294967296 : Nat) ∧ ((0 : Int) ≤ W (W (W (W (W (W (0 + 1) + 1) + 1) + 1) + 1) + 1) ∧ W (W (W (W (W (W (0 + 1) + 1) + 1) + 1) + 1) + 1) < (↑7 : Int)) ∧ ((0 : Int) ≤ W (W (W (W (W (W (0 + 1) + 1) + 1) + 1) + 1) + 1) ∧ W (W (W (W (W (W (0 + 1) + 1) + 1) + 1) + 1) + 1) < (↑(1 + 1 + 1 + 1 + 1 + 1 + 1) : Int)) ∧ 1 + 1 + 1 + 1 + 1 + 1 + 1 + (1 : Nat) ≤ (4294967296 : Nat) ∧ bif m then ((0 : Int) ≤ (0 : Int) ∧ (0 : Int) < (↑7 : Int)) ∧ bif ilt a 0 then K (AVal.tup [AVal.int .u64 0, AVal.int .i64 2]) [] else ((0 : Int) ≤ (0 : Int) ∧ (0 : Int) < (↑7 : Int)) ∧ (0 : Int) ≤ (12 : Int) ∧ bif ile (W (1 * 2 ^ min (Int.toNat 12) (IntKind.bits .i64))) a then K (AVal.tup [AVal.int .u64 0, AVal.int .i64 2]) [] else ((0 : Int) ≤ (0 : Int) ∧ (0 : Int) < (↑(1 + 1 + 1 + 1 + 1 + 1 + 1 + 1) : Int)) ∧ (0 : Int) ≤ (0 : Int) ∧ ((0 : Int) ≤ W (0 + 1) ∧ W (0 + 1) < (↑7 : Int)) ∧ bif ilt b 0 then K (AVal.tup [AVal.int .u64 0, AVal.int .i64 2]) [] else ((0 : Int) ≤ W (0 + 1) ∧ W (0 + 1) < (↑7 : Int)) ∧ (0 : Int) ≤ (9 : Int) ∧ bif ile (W (1 * 2 ^ min (Int.toNat 9) (IntKind.bits .i64))) b then K (AVal.tup [AVal.int .u64 0, AVal.int .i64 2]) [] else ((0 : Int) ≤ W (0 + 1) ∧ W (0 + 1) < (↑(1 + 1 + 1 + 1 + 1 + 1 + 1 + 1) : Int)) ∧ (0 : Int) ≤ W (0 + 12) ∧ ((0 : Int) ≤ W (W (0 + 1) + 1) ∧ W (W (0 + 1) + 1) < (↑7 : Int)) ∧ bif ilt c 0 then K (AVal.tup [AVal.int .u64 0, AVal.int .i64 2]) [] else ((0 : Int) ≤ W (W (0 + 1) + 1) ∧ W (W (0 + 1) + 1) < (↑7 : Int)) ∧ (0 : Int) ≤ (18 : Int) ∧ bif ile (W (1 * 2 ^ min (Int.toNat 18) (IntKind.bits .i64))) c then K (AVal.tup [AVal.int .u64 0, AVal.int .i64 2]) [] else ((0 : Int) ≤ W (W (0 + 1) + 1) ∧ W (W (0 + 1) + 1) < (↑(1 + 1 + 1 + 1 + 1 + 1 + 1 + 1) : Int)) ∧ (0 : Int) ≤ W (W (0 + 12) + 9) ∧ ((0 : Int) ≤ W (W (W (0 + 1) + 1) + 1) ∧ W (W (W (0 + 1) + 1) + 1) < (↑7 : Int)) ∧ bif ilt d 0 then K (AVal.tup [AVal.int .u64 0, AVal.int .i64 2]) [] else ((0 : Int) ≤ W (W (W (0 + 1) + 1) + 1) ∧ W (W (W (0 + 1) + 1) + 1) < (↑7 : Int)) ∧ (0 : Int) ≤ (9 : Int) ∧ bif ile (W (1 * 2 ^ min (Int.toNat 9) (IntKind.bits .i64))) d then K (AVal.tup [AVal.int .u64 0, AVal.int .i64 2]) [] else ((0 : Int) ≤ W (W (W (0 + 1) + 1) + 1) ∧ W (W (W (0 + 1) + 1) + 1) < (↑(1 + 1 + 1 + 1 + 1 + 1 + 1 + 1) : Int)) ∧ (0 : Int) ≤ W (W (W (0 + 12) + 9) + 18) ∧ ((0 : Int) ≤ W (W (W (W (0 + 1) + 1) + 1) + 1) ∧ W (W (W (W (0 + 1) + 1) + 1) + 1) < (↑7 : Int)) ∧ ((0 : Int) ≤ W (W (W (W (0 + 1) + 1) + 1) + 1) ∧ W (W (W (W (0 + 1) + 1) + 1) + 1) < (↑7 : Int)) ∧ (0 : Int) ≤ (1 : Int) ∧ ((0 : Int) ≤ W (W (W (W (0 + 1) + 1) + 1) + 1) ∧ W (W (W (W (0 + 1) + 1) + 1) + 1) < (↑(1 + 1 + 1 + 1 + 1 + 1 + 1 + 1) : Int)) ∧ (0 : Int) ≤ W (W (W (W (0 + 12) + 9) + 18) + 9) ∧ ((0 : Int) ≤ W (W (W (W (W (0 + 1) + 1) + 1) + 1) + 1) ∧ W (W (W (W (W (0 + 1) + 1) + 1) + 1) + 1) < (↑7 : Int)) ∧ bif ilt e 0 then K (AVal.tup [AVal.int .u64 0, AVal.int .i64 2]) [] else ((0 : Int) ≤ W (W (W (W (W (0 + 1) + 1) + 1) + 1) + 1) ∧ W (W (W (W (W (0 + 1) + 1) + 1) + 1) + 1) < (↑7 : Int)) ∧ (0 : Int) ≤ (3 : Int) ∧ bif ile (W (1 * 2 ^ min (Int.toNat 3) (IntKind.bits .i64))) e then K (AVal.tup [AVal.int .u64 0, AVal.int .i64 2]) [] else ((0 : Int) ≤ W (W (W (W (W (0 + 1) + 1) + 1) + 1) + 1) ∧ W (W (W (W (W (0 + 1) + 1) + 1) + 1) + 1) < (↑(1 + 1 + 1 + 1 + 1 + 1 + 1 + 1) : Int)) ∧ (0 : Int) ≤ W (W (W (W (W (0 + 12) + 9) + 18) + 9) + 1) ∧ ((0 : Int) ≤ W (W (W (W (W (W (0 + 1) + 1) + 1) + 1) + 1) + 1) ∧ W (W (W (W (W (W (0 + 1) + 1) + 1) + 1) + 1) + 1) < (↑7 : Int)) ∧ bif ilt f 0 then K (AVal.tup [AVal.int .u64 0, AVal.int .i64 2]) [] else ((0 : Int) ≤ W (W (W (W (W (W (0 + 1) + 1) + 1) + 1) + 1) + 1) ∧ W (W (W (W (W (W (0 + 1) + 1) + 1) + 1) + 1) + 1) < (↑7 : Int)) ∧ (0 : Int) ≤ (10 : Int) ∧ bif ile (W (1 * 2 ^ min (Int.toNat 10) (IntKind.bits .i64))) f then K (AVal.tup [AVal.int .u64 0, AVal.int .i64 2]) [] else ((0 : Int) ≤ W (W (W (W (W (W (0 + 1) + 1) + 1) + 1) + 1) + 1) ∧ W (W (W (W (W (W (0 + 1) + 1) + 1) + 1) + 1) + 1) < (↑(1 + 1 + 1 + 1 + 1 + 1 + 1 + 1) : Int)) ∧ (0 : Int) ≤ W (W (W (W (W (W (0 + 12) + 9) + 18) + 9) + 1) + 3) ∧ K (AVal.tup [AVal.int .u64 (WU (↑(BitVec.toNat (BitVec.ofInt (IntKind.bits .u64) (WU (↑(BitVec.toNat (BitVec.ofInt (IntKind.bits .u64) (WU (↑(BitVec.toNat (BitVec.ofInt (IntKind.bits .u64) (WU (↑(BitVec.toNat (BitVec.ofInt (IntKind.bits .u64) (WU (↑(BitVec.toNat (BitVec.ofInt (IntKind.bits .u64) (WU (↑(BitVec.toNat (BitVec.ofInt (IntKind.bits .u64) (WU (↑(BitVec.toNat (BitVec.ofInt (IntKind.bits .u64) 0 ||| BitVec.ofInt (IntKind.bits .u64) (WU (WU a * 2 ^ min (Int.toNat 0) (IntKind.bits .u64))))) : Int)) ||| BitVec.ofInt (IntKind.bits .u64) (WU (WU b * 2 ^ min (Int.toNat (W (0 + 12))) (IntKind.bits .u64))))) : Int)) ||| BitVec.ofInt (IntKind.bits .u64) (WU (WU c * 2 ^ min (Int.toNat (W (W (0 + 12) + 9))) (IntKind.bits .u64))))) : Int)) ||| BitVec.ofInt (IntKind.bits .u64) (WU (WU d * 2 ^ min (Int.toNat (W (W (W (0 + 12) + 9) + 18))) (IntKind.bits .u64))))) : Int)) ||| BitVec.ofInt (IntKind.bits .u64) (WU (WU 1 * 2 ^ min (Int.toNat (W (W (W (W (0 + 12) + 9) + 18) + 9))) (IntKind.bits .u64))))) : Int)) ||| BitVec.ofInt (IntKind.bits .u64) (WU (WU e * 2 ^ min (Int.toNat (W (W (W (W (W (0 + 12) + 9) + 18) + 9) + 1))) (IntKind.bits .u64))))) : Int)) ||| BitVec.ofInt (IntKind.bits .u64) (WU (WU f * 2 ^ min (Int.toNat (W (W (W (W (W (W (0 + 12) + 9) + 18) + 9) + 1) + 3))) (IntKind.bits .u64))))) : Int)), AVal.int .i64 0]) [] else ((0 : Int) ≤ (0 : Int) ∧ (0 : Int) < (↑7 : Int)) ∧ bif ilt a 0 then K (AVal.tup [AVal.int .u64 0, AVal.int .i64 2]) [] else ((0 : Int) ≤ (0 : Int) ∧ (0 : Int) < (↑7 : Int)) ∧ (0 : Int) ≤ (12 : Int) ∧ bif ile (W (1 * 2 ^ min (Int.toNat 12) (IntKind.bits .i64))) a then K (AVal.tup [AVal.int .u64 0, AVal.int .i64 2]) [] else ((0 : Int) ≤ (0 : Int) ∧ (0 : Int) < (↑(1 + 1 + 1 + 1 + 1 + 1 + 1 + 1) : Int)) ∧ (0 : Int) ≤ (0 : Int) ∧ ((0 : Int) ≤ W (0 + 1) ∧ W (0 + 1) < (↑7 : Int)) ∧ bif ilt b 0 then K (AVal.tup [AVal.int .u64 0, AVal.int .i64 2]) [] else ((0 : Int) ≤ W (0 + 1) ∧ W (0 + 1) < (↑7 : Int)) ∧ (0 : Int) ≤ (9 : Int) ∧ bif ile (W (1 * 2 ^ min (Int.toNat 9) (IntKind.bits .i64))) b then K (AVal.tup [AVal.int .u64 0, AVal.int .i64 2]) [] else ((0 : Int) ≤ W (0 + 1) ∧ W (0 + 1) < (↑(1 + 1 + 1 + 1 + 1 + 1 + 1 + 1) : Int)) ∧ (0 : Int) ≤ W (0 + 12) ∧ ((0 : Int) ≤ W (W (0 + 1) + 1) ∧ W (W (0 + 1) + 1) < (↑7 : Int)) ∧ bif ilt c 0 then K (AVal.tup [AVal.int .u64 0, AVal.int .i64 2]) [] else ((0 : Int) ≤ W (W (0 + 1) + 1) ∧ W (W (0 + 1) + 1) < (↑7 : Int)) ∧ (0 : Int) ≤ (18 : Int) ∧ bif ile (W (1 * 2 ^ min (Int.toNat 18) (IntKind.bits .i64))) c then K (AVal.tup [AVal.int .u64 0, AVal.int .i64 2]) [] else ((0 : Int) ≤ W (W (0 + 1) + 1) ∧ W (W (0 + 1) + 1) < (↑(1 + 1 + 1 + 1 + 1 + 1 + 1 + 1) : Int)) ∧ (0 : Int) ≤ W (W (0 + 12) + 9) ∧ ((0 : Int) ≤ W (W (W (0 + 1) + 1) + 1) ∧ W (W (W (0 + 1) + 1) + 1) < (↑7 : Int)) ∧ bif ilt d 0 then K (AVal.tup [AVal.int .u64 0, AVal.int .i64 2]) [] else ((0 : Int) ≤ W (W (W (0 + 1) + 1) + 1) ∧ W (W (W (0 + 1) + 1) + 1) < (↑7 : Int)) ∧ (0 : Int) ≤ (9 : Int) ∧ bif ile (W (1 * 2 ^ min (Int.toNat 9) (IntKind.bits .i64))) d then K (AVal.tup [AVal.int .u64 0, AVal.int .i64 2]) [] else ((0 : Int) ≤ W (W (W (0 + 1) + 1) + 1) ∧ W (W (W (0 + 1) + 1) + 1) < (↑(1 + 1 + 1 + 1 + 1 + 1 + 1 + 1) : Int)) ∧ (0 : Int) ≤ W (W (W (0 + 12) + 9) + 18) ∧ ((0 : Int) ≤ W (W (W (W (0 + 1) + 1) + 1) + 1) ∧ W (W (W (W (0 + 1) + 1) + 1) + 1) < (↑7 : Int)) ∧ ((0 : Int) ≤ W (W (W (W (0 + 1) + 1) + 1) + 1) ∧ W (W (W (W (0 + 1) + 1) + 1) + 1) < (↑7 : Int)) ∧ (0 : Int) ≤ (1 : Int) ∧ ((0 : Int) ≤ W (W (W (W (0 + 1) + 1) + 1) + 1) ∧ W (W (W (W (0 + 1) + 1) + 1) + 1) < (↑(1 + 1 + 1 + 1 + 1 + 1 + 1 + 1) : Int)) ∧ (0 : Int) ≤ W (W (W (W (0 + 12) + 9) + 18) + 9) ∧ ((0 : Int) ≤ W (W (W (W (W (0 + 1) + 1) + 1) + 1) + 1) ∧ W (W (W (W (W (0 + 1) + 1) + 1) + 1) + 1) < (↑7 : Int)) ∧ bif ilt e 0 then K (AVal.tup [AVal.int .u64 0, AVal.int .i64 2]) [] else ((0 : Int) ≤ W (W (W (W (W (0 + 1) + 1) + 1) + 1) + 1) ∧ W (W (W (W (W (0 + 1) + 1) + 1) + 1) + 1) < (↑7 : Int)) ∧ (0 : Int) ≤ (3 : Int) ∧ bif ile (W (1 * 2 ^ min (Int.toNat 3) (IntKind.bits .i64))) e then K (AVal.tup [AVal.int .u64 0, AVal.int .i64 2]) [] else ((0 : Int) ≤ W (W (W (W (W (0 + 1) + 1) + 1) + 1) + 1) ∧ W (W (W (W (W (0 + 1) + 1) + 1) + 1) + 1) < (↑(1 + 1 + 1 + 1 + 1 + 1 + 1 + 1) : Int)) ∧ (0 : Int) ≤ W (W (W (W (W (0 + 12) + 9) + 18) + 9) + 1) ∧ ((0 : Int) ≤ W (W (W (W (W (W (0 + 1) + 1) + 1) + 1) + 1) + 1) ∧ W (W (W (W (W (W (0 + 1) + 1) + 1) + 1) + 1) + 1) < (↑7 : Int)) ∧ bif ilt f 0 then K (AVal.tup [AVal.int .u64 0, AVal.int .i64 2]) [] else ((0 : Int) ≤ W (W (W (W (W (W (0 + 1) + 1) + 1) + 1) + 1) + 1) ∧ W (W (W (W (W (W (0 + 1) + 1) + 1) + 1) + 1) + 1) < (↑7 : Int)) ∧ (0 : Int) ≤ (10 : Int) ∧ bif ile (W (1 * 2 ^ min (Int.toNat 10) (IntKind.bits .i64))) f then K (AVal.tup [AVal.int .u64 0, AVal.int .i64 2]) [] else ((0 : Int) ≤ W (W (W (W (W (W (0 + 1) + 1) + 1) + 1) + 1) + 1) ∧ W (W (W (W (W (W (0 + 1) + 1) + 1) + 1) + 1) + 1) < (↑(1 + 1 + 1 + 1 + 1 + 1 + 1 + 1) : Int)) ∧ (0 : Int) ≤ W (W (W (W (W (W (0 + 12) + 9) + 18) + 9) + 1) + 3) ∧ K (AVal.tup [AVal.int .u64 (WU (↑(BitVec.toNat (BitVec.ofInt (IntKind.bits .u64) (WU (↑(BitVec.toNat (BitVec.ofInt (IntKind.bits .u64) (WU (↑(BitVec.toNat (BitVec.ofInt (IntKind.bits .u64) (WU (↑(BitVec.toNat (BitVec.ofInt (IntKind.bits .u64) (WU (↑(BitVec.toNat (BitVec.ofInt (IntKind.bits .u64) (WU (↑(BitVec.toNat (BitVec.ofInt (IntKind.bits .u64) (WU (↑(BitVec.toNat (BitVec.ofInt (IntKind.bits .u64) 0 ||| BitVec.ofInt (IntKind.bits .u64) (WU (WU a * 2 ^ min (Int.toNat 0) (IntKind.bits .u64))))) : Int)) ||| BitVec.ofInt (IntKind.bits .u64) (WU (WU b * 2 ^ min (Int.toNat (W (0 + 12))) (IntKind.bits .u64))))) : Int)) ||| BitVec.ofInt (IntKind.bits .u64) (WU (WU c * 2 ^ min (Int.toNat (W (W (0 + 12) + 9))) (IntKind.bits .u64))))) : Int)) ||| BitVec.ofInt (IntKind.bits .u64) (WU (WU d * 2 ^ min (Int.toNat (W (W (W (0 + 12) + 9) + 18))) (IntKind.bits .u64))))) : Int)) ||| BitVec.ofInt (IntKind.bits .u64) (WU (WU 0 * 2 ^ min (Int.toNat (W (W (W (W (0 + 12) + 9) + 18) + 9))) (IntKind.bits .u64))))) : Int)) ||| BitVec.ofInt (IntKind.bits .u64) (WU (WU e * 2 ^ min (Int.toNat (W (W (W (W (W (0 + 12) + 9) + 18) + 9) + 1))) (IntKind.bits .u64))))) : Int)) ||| BitVec.ofInt (IntKind.bits .u64) (WU (WU f * 2 ^ min (Int.toNat (W (W (W (W (W (W (0 + 12) + 9) + 18) + 9) + 1) + 3))) (IntKind.bits .u64))))) : Int)), AVal.int .i64 0]) []) (by kernel_rfl) ?_))
  have no : dOk a b c d e f = false → K (.tup [.int .u64 0, .int .i64 2]) [] := by intro h; rw [h] at hK; exact hK
  have yes : dOk a b c d e f = true → K (.tup [.int .u64 (dPutV a b c d m e f), .int .i64 0]) [] := by intro h; rw [h] at hK; exact hK
  clear hK hp
  have w10 : W (1 * 2 ^ min (Int.toNat 10) (IntKind.bits .i64)) = 1024 := by decide
  have w12 : W (1 * 2 ^ min (Int.toNat 12) (IntKind.bits .i64)) = 4096 := by decide
  have w9 : W (1 * 2 ^ min (Int.toNat 9) (IntKind.bits .i64)) = 512 := by decide
  have w18 : W (1 * 2 ^ min (Int.toNat 18) (IntKind.bits .i64)) = 262144 := by decide
  have w3 : W (1 * 2 ^ min (Int.toNat 3) (IntKind.bits .i64)) = 8 := by decide
  rw [w10, w12, w9, w18, w3]
  simp (disch := omega) only [W, W_in, Int.reduceAdd, Int.zero_add, Int.reduceToNat]
  cases m
  · simp only [cond_true, cond_false]
    repeat' first
      | refine ⟨by omega, ?_⟩
      | refine lt_go (fun _ => ?_) (fun _ => ?_)
      | refine le_go (fun _ => ?_) (fun _ => ?_)
    all_goals first
      | exact no (by cases h : dOk a b c d e f with
                     | false => rfl
                     | true => have := dOk_true.1 h; omega)
      | skip
    have ok : dOk a b c d e f = true := dOk_true.2 (by omega)
    refine cast (congrArg (fun z => K (AVal.tup [.int .u64 z, .int .i64 0]) []) ?_) (yes ok)
    symm
    have hb : IntKind.bits .u64 = 64 := rfl
    rw [hb]
    clear yes no ok
    have q0 := or_sh (a := 0) (x := 0) (y := a) (p := 1) (q := 2 ^ min 0 64) (s := a) (by decide) (by omega) (by omega) (by omega) (by omega) (by decide)
    have q1 := or_sh (a := 12) (x := a) (y := b) (p := 4096) (q := 2 ^ min 12 64) (s := a + b * 4096) (by decide) (by omega) (by omega) (by omega) (by omega) (by decide)
    have q2 := or_sh (a := 21) (x := a + b * 4096) (y := c) (p := 2097152) (q := 2 ^ min 21 64) (s := a + b * 4096 + c * 2097152) (by decide) (by omega) (by omega) (by omega) (by omega) (by decide)
    have q3 := or_sh (a := 39) (x := a + b * 4096 + c * 2097152) (y := d) (p := 549755813888) (q := 2 ^ min 39 64) (s := a + b * 4096 + c * 2097152 + d * 549755813888) (by decide) (by omega) (by omega) (by omega) (by omega) (by decide)
    have q4 := or_sh (a := 48) (x := a + b * 4096 + c * 2097152 + d * 549755813888) (y := 0) (p := 281474976710656) (q := 2 ^ min 48 64) (s := a + b * 4096 + c * 2097152 + d * 549755813888 + 0 * 281474976710656) (by decide) (by omega) (by omega) (by omega) (by omega) (by decide)
    have q5 := or_sh (a := 49) (x := a + b * 4096 + c * 2097152 + d * 549755813888 + 0 * 281474976710656) (y := e) (p := 562949953421312) (q := 2 ^ min 49 64) (s := a + b * 4096 + c * 2097152 + d * 549755813888 + 0 * 281474976710656 + e * 562949953421312) (by decide) (by omega) (by omega) (by omega) (by omega) (by decide)
    have q6 := or_sh (a := 52) (x := a + b * 4096 + c * 2097152 + d * 549755813888 + 0 * 281474976710656 + e * 562949953421312) (y := f) (p := 4503599627370496) (q := 2 ^ min 52 64) (s := a + b * 4096 + c * 2097152 + d * 549755813888 + 0 * 281474976710656 + e * 562949953421312 + f * 4503599627370496) (by decide) (by omega) (by omega) (by omega) (by omega) (by decide)
    simp only [WU] at q0 q1 q2 q3 q4 q5 q6 ⊢
    rw [q0, q1, q2, q3, q4, q5, q6]
    unfold dPutV bitI
    rfl
  · simp only [cond_true, cond_false]
    repeat' first
      | refine ⟨by omega, ?_⟩
      | refine lt_go (fun _ => ?_) (fun _ => ?_)
      | refine le_go (fun _ => ?_) (fun _ => ?_)
    all_goals first
      | exact no (by cases h : dOk a b c d e f with
                     | false => rfl
                     | true => have := dOk_true.1 h; omega)
      | skip
    have ok : dOk a b c d e f = true := dOk_true.2 (by omega)
    refine cast (congrArg (fun z => K (AVal.tup [.int .u64 z, .int .i64 0]) []) ?_) (yes ok)
    symm
    have hb : IntKind.bits .u64 = 64 := rfl
    rw [hb]
    clear yes no ok
    have q0 := or_sh (a := 0) (x := 0) (y := a) (p := 1) (q := 2 ^ min 0 64) (s := a) (by decide) (by omega) (by omega) (by omega) (by omega) (by decide)
    have q1 := or_sh (a := 12) (x := a) (y := b) (p := 4096) (q := 2 ^ min 12 64) (s := a + b * 4096) (by decide) (by omega) (by omega) (by omega) (by omega) (by decide)
    have q2 := or_sh (a := 21) (x := a + b * 4096) (y := c) (p := 2097152) (q := 2 ^ min 21 64) (s := a + b * 4096 + c * 2097152) (by decide) (by omega) (by omega) (by omega) (by omega) (by decide)
    have q3 := or_sh (a := 39) (x := a + b * 4096 + c * 2097152) (y := d) (p := 549755813888) (q := 2 ^ min 39 64) (s := a + b * 4096 + c * 2097152 + d * 549755813888) (by decide) (by omega) (by omega) (by omega) (by omega) (by decide)
    have q4 := or_sh (a := 48) (x := a + b * 4096 + c * 2097152 + d * 549755813888) (y := 1) (p := 281474976710656) (q := 2 ^ min 48 64) (s := a + b * 4096 + c * 2097152 + d * 549755813888 + 1 * 281474976710656) (by decide) (by omega) (by omega) (by omega) (by omega) (by decide)
    have q5 := or_sh (a := 49) (x := a + b * 4096 + c * 2097152 + d * 549755813888 + 1 * 281474976710656) (y := e) (p := 562949953421312) (q := 2 ^ min 49 64) (s := a + b * 4096 + c * 2097152 + d * 549755813888 + 1 * 281474976710656 + e * 562949953421312) (by decide) (by omega) (by omega) (by omega) (by omega) (by decide)
    have q6 := or_sh (a := 52) (x := a + b * 4096 + c * 2097152 + d * 549755813888 + 1 * 281474976710656 + e * 562949953421312) (y := f) (p := 4503599627370496) (q := 2 ^ min 52 64) (s := a + b * 4096 + c * 2097152 + d * 549755813888 + 1 * 281474976710656 + e * 562949953421312 + f * 4503599627370496) (by decide) (by omega) (by omega) (by omega) (by omega) (by decide)
    simp only [WU] at q0 q1 q2 q3 q4 q5 q6 ⊢
    rw [q0, q1, q2, q3, q4, q5, q6]
    unfold dPutV bitI
    rfl
noncomputable def E20 := (E16.addR 56 dgetS dget_ok).addR 53 dputS dput_ok
end Go.Sh

/- Descriptors: the next attempt, what they tell. -/
namespace Go.Sh
open Go Go.Proofs
variable [Con]
/- OPQ -/
def attI (a : Int) : Int := (a + 1) % 4096
def next1S : RSpec Unit := fun args h => match args, h with
  | [.agg [.int .i64 a, .int .i64 b, .int .i64 c, .int .i64 d, .bool m, .int .i64 e, .int .i64 f]], [] => some (0 ≤ a ∧ a ≤ 1000000, .agg [.int .i64 (attI a), .int .i64 0, .int .i64 0, .int .i64 0, .bool false, .int .i64 1, .int .i64 0])
  | _, _ => none
theorem next1_ok : Spec.ok E20.I Try.prog 86 next1S.spec := by
  intro args h o ho K hK
  unfold RSpec.spec at ho
  split at ho
  case h_2 => cases ho
  rename_i pp vv hv
  unfold next1S at hv
  split at hv
  case h_2 => cases hv
  rename_i a b c d m e f
  simp only [Option.some.injEq, Prod.mk.injEq] at hv
  obtain ⟨rfl, rfl⟩ := hv
  simp only [Option.some.injEq] at ho; subst ho
  obtain ⟨hp, hK⟩ := hK
  have hK : K (.agg [.int .i64 (attI a), .int .i64 0, .int .i64 0, .int .i64 0, .bool false, .int .i64 1, .int .i64 0]) [] := hK
  refine CallOk.trim (callOk_of (E := E20) Try.checked.mixed (L := LL) (n := 10) (of_nf (q := K (AVal.agg [AVal.int .i64 (W (↑(BitVec.toNat (BitVec.ofInt (IntKind.bits .i64) (W (a + 1)) &&& BitVec.ofInt (IntKind.bits .i64) 4095)) : Int)), AVal.int .i64 0, AVal.int .i64 0, AVal.int .i64 0, AVal.bool false, AVal.int .i64 1, AVal.int .i64 0]) []) (by kernel_rfl) ?_))
  refine cast (congrArg (fun z => K (.agg [.int .i64 z, .int .i64 0, .int .i64 0, .int .i64 0, .bool false, .int .i64 1, .int .i64 0]) []) ?_) hK
  show attI a = _
  have hb : IntKind.bits .i64 = 64 := rfl
  simp only [W]
  rw [hb, W_in (x := a + 1) (by omega)]
  have := and_mask (n := 64) (w := 12) (a + 1) (by omega)
  have e : (2 : Int) ^ 12 - 1 = 4095 := by decide
  rw [e] at this
  rw [this]
  have e2 : (2 : Int) ^ 12 = 4096 := by decide
  rw [e2, W_in (by omega)]
  rfl
def pendDS : RSpec Unit := fun args h => match args, h with
  | [.agg [.int .i64 a, .int .i64 b, .int .i64 c, .int .i64 d, .bool m, .int .i64 e, .int .i64 f]], [] => some (True, .bool (pendB e))
  | _, _ => none
theorem pendD_ok : Spec.ok E8.I Try.prog 88 pendDS.spec := by
  intro args h o ho K hK
  unfold RSpec.spec at ho
  split at ho
  case h_2 => cases ho
  rename_i pp vv hv
  unfold pendDS at hv
  split at hv
  case h_2 => cases hv
  rename_i a b c d m e f
  simp only [Option.some.injEq, Prod.mk.injEq] at hv
  obtain ⟨rfl, rfl⟩ := hv
  simp only [Option.some.injEq] at ho; subst ho
  obtain ⟨hp, hK⟩ := hK
  have hK : K (.bool (pendB e)) [] := hK
  refine CallOk.trim (callOk_of (E := E8) Try.checked.mixed (L := LL) (n := 10) (of_nf (q := ((0 : Int) ≤ (0 : Int) ∧ (0 : Int) < (↑4 : Int)) ∧ bif ieq e 1 then K (AVal.bool true) [] else ((0 : Int) ≤ W (0 + 1) ∧ W (0 + 1) < (↑4 : Int)) ∧ bif ieq e 2 then K (AVal.bool true) [] else ((0 : Int) ≤ W (W (0 + 1) + 1) ∧ W (W (0 + 1) + 1) < (↑4 : Int)) ∧ bif ieq e 3 then K (AVal.bool true) [] else ((0 : Int) ≤ W (W (W (0 + 1) + 1) + 1) ∧ W (W (W (0 + 1) + 1) + 1) < (↑4 : Int)) ∧ bif ieq e 4 then K (AVal.bool true) [] else K (AVal.bool false) []) (by kernel_rfl) ?_))
  have hb : ∀ v : Bool, pendB e = v → K (.bool v) [] := by intro v h; rw [← h]; exact hK
  have yes : 1 ≤ e ∧ e ≤ 4 → pendB e = true := by intro h; unfold pendB; rw [ile_eq, ile_eq, decide_eq_true h.1, decide_eq_true h.2]; rfl
  have no : ¬ (1 ≤ e ∧ e ≤ 4) → pendB e = false := by
    intro h; unfold pendB; rw [ile_eq, ile_eq]
    by_cases h1 : 1 ≤ e
    · rw [decide_eq_true h1, decide_eq_false (by omega)]; rfl
    · rw [decide_eq_false h1]; rfl
  simp (disch := omega) only [W, W_in, Int.reduceAdd, Int.zero_add]
  repeat' first
    | refine ⟨by omega, ?_⟩
    | refine eq_go (fun _ => ?_) (fun _ => ?_)
  all_goals first
    | exact hb _ (yes (by omega))
    | exact hb _ (no (by omega))
def resDS : RSpec Unit := fun args h => match args, h with
  | [.agg [.int .i64 a, .int .i64 b, .int .i64 c, .int .i64 d, .bool m, .int .i64 e, .int .i64 f]], [] => some (True, .agg [.int .i64 (resC d e), .bool (resO d e m), .int .i64 (resX d e f)])
  | _, _ => none
theorem resD_ok : Spec.ok E20.I Try.prog 92 resDS.spec := by
  intro args h o ho K hK
  unfold RSpec.spec at ho
  split at ho
  case h_2 => cases ho
  rename_i pp vv hv
  unfold resDS at hv
  split at hv
  case h_2 => cases hv
  rename_i a b c d m e f
  simp only [Option.some.injEq, Prod.mk.injEq] at hv
  obtain ⟨rfl, rfl⟩ := hv
  simp only [Option.some.injEq] at ho; subst ho
  obtain ⟨hp, hK⟩ := hK
  have hK : K (.agg [.int .i64 (resC d e), .bool (resO d e m), .int .i64 (resX d e f)]) [] := hK
  refine CallOk.trim (callOk_of (E := E20) Try.checked.mixed (L := LL) (n := 10) (of_nf (q := bif !ieq e 5 then K (AVal.agg [AVal.int .i64 5, AVal.bool false, AVal.int .i64 0]) [] else bif ieq d 1 then K (AVal.agg [AVal.int .i64 4, AVal.bool false, AVal.int .i64 0]) [] else K (AVal.agg [AVal.int .i64 0, AVal.bool m, AVal.int .i64 f]) []) (by kernel_rfl) ?_))
  unfold resC resO resX at hK
  generalize ieq e 5 = b1 at hK ⊢
  generalize ieq d 1 = b2 at hK ⊢
  cases b1 <;> cases b2 <;> exact hK
def endedS : RSpec Unit := fun args h => match args, h with
  | [.agg [.int .i64 a, .int .i64 b, .int .i64 c, .int .i64 d, .bool m, .int .i64 e, .int .i64 f], .agg [.int .i64 g, .bool o, .int .i64 v]], [] => some (True, .agg [.int .i64 a, .int .i64 0, .int .i64 0, .int .i64 (bif ieq g 4 then 1 else 0), .bool o, .int .i64 5, .int .i64 v])
  | _, _ => none
theorem ended_ok : Spec.ok E20.I Try.prog 52 endedS.spec := by
  intro args h o ho K hK
  unfold RSpec.spec at ho
  split at ho
  case h_2 => cases ho
  rename_i pp vv hv
  unfold endedS at hv
  split at hv
  case h_2 => cases hv
  rename_i a b c d m e f g o v
  simp only [Option.some.injEq, Prod.mk.injEq] at hv
  obtain ⟨rfl, rfl⟩ := hv
  simp only [Option.some.injEq] at ho; subst ho
  obtain ⟨hp, hK⟩ := hK
  have hK : K (.agg [.int .i64 a, .int .i64 0, .int .i64 0, .int .i64 (bif ieq g 4 then 1 else 0), .bool o, .int .i64 5, .int .i64 v]) [] := hK
  refine CallOk.trim (callOk_of (E := E20) Try.checked.mixed (L := LL) (n := 10) (of_nf (q := bif ieq g 4 then K (AVal.agg [AVal.int .i64 a, AVal.int .i64 0, AVal.int .i64 0, AVal.int .i64 1, AVal.bool o, AVal.int .i64 5, AVal.int .i64 v]) [] else K (AVal.agg [AVal.int .i64 a, AVal.int .i64 0, AVal.int .i64 0, AVal.int .i64 0, AVal.bool o, AVal.int .i64 5, AVal.int .i64 v]) []) (by kernel_rfl) ?_))
  generalize ieq g 4 = b1 at hK ⊢
  cases b1 <;> exact hK
def undS : RSpec Unit := fun args h => match args, h with
  | [.int .u64 x], [] => some (0 ≤ x ∧ x ≤ 18446744073709551615, .agg [.int .i64 (cutI x 0 12), .int .i64 (cutI x 12 9), .int .i64 (cutI x 21 18), .int .i64 (cutI x 39 9), .bool (ieq (cutI x 48 1) 1), .int .i64 (cutI x 49 3), .int .i64 (cutI x 52 10)])
  | _, _ => none
theorem und_ok : Spec.ok E20.I Try.prog 48 undS.spec := by
  intro args h o ho K hK
  unfold RSpec.spec at ho
  split at ho
  case h_2 => cases ho
  rename_i pp vv hv
  unfold undS at hv
  split at hv
  case h_2 => cases hv
  rename_i x
  simp only [Option.some.injEq, Prod.mk.injEq] at hv
  obtain ⟨rfl, rfl⟩ := hv
  simp only [Option.some.injEq] at ho; subst ho
  obtain ⟨hp, hK⟩ := hK
  have hK : K (.agg [.int .i64 (cutI x 0 12), .int .i64 (cutI x 12 9), .int .i64 (cutI x 21 18), .int .i64 (cutI x 39 9), .bool (ieq (cutI x 48 1) 1), .int .i64 (cutI x 49 3), .int .i64 (cutI x 52 10)]) [] := hK
  refine CallOk.trim (callOk_of (E := E20) Try.checked.mixed (L := LL) (n := 10) (of_nf (q := (4611686018427387904 : Int) ≠ (0 : Int) ∧ (4096 : Int) ≠ (0 : Int) ∧ (4096 : Int) ≠ (0 : Int) ∧ (512 : Int) ≠ (0 : Int) ∧ (2097152 : Int) ≠ (0 : Int) ∧ (262144 : Int) ≠ (0 : Int) ∧ (549755813888 : Int) ≠ (0 : Int) ∧ (512 : Int) ≠ (0 : Int) ∧ (281474976710656 : Int) ≠ (0 : Int) ∧ (2 : Int) ≠ (0 : Int) ∧ (562949953421312 : Int) ≠ (0 : Int) ∧ (8 : Int) ≠ (0 : Int) ∧ (4503599627370496 : Int) ≠ (0 : Int) ∧ (1024 : Int) ≠ (0 : Int) ∧ K (AVal.agg [AVal.int .i64 (Int.tmod (W (Int.tmod x 4611686018427387904)) 4096), AVal.int .i64 (Int.tmod (W (Int.tdiv (W (Int.tmod x 4611686018427387904)) 4096)) 512), AVal.int .i64 (Int.tmod (W (Int.tdiv (W (Int.tmod x 4611686018427387904)) 2097152)) 262144), AVal.int .i64 (Int.tmod (W (Int.tdiv (W (Int.tmod x 4611686018427387904)) 549755813888)) 512), AVal.bool (ieq (Int.tmod (W (Int.tdiv (W (Int.tmod x 4611686018427387904)) 281474976710656)) 2) 1), AVal.int .i64 (Int.tmod (W (Int.tdiv (W (Int.tmod x 4611686018427387904)) 562949953421312)) 8), AVal.int .i64 (Int.tmod (W (Int.tdiv (W (Int.tmod x 4611686018427387904)) 4503599627370496)) 1024)]) []) (by kernel_rfl) ?_))
  have e0 : Int.tmod x 4611686018427387904 = x % 4611686018427387904 := Int.tmod_eq_emod_of_nonneg hp.1
  have e1 : W (Int.tmod x 4611686018427387904) = x % 4611686018427387904 := by rw [e0]; exact W_id (by omega)
  rw [e1]
  have t0 : Int.tmod (x % 4611686018427387904) 4096 = cutI x 0 12 := by
    rw [Int.tmod_eq_emod_of_nonneg (by omega)]; unfold cutI; show _ = x / 1 % 4096; omega
  have t1 : W (Int.tdiv (x % 4611686018427387904) 4096) = x % 4611686018427387904 / 4096 := by rw [Int.tdiv_eq_ediv_of_nonneg (by omega)]; exact W_id (by omega)
  have s1 : Int.tmod (x % 4611686018427387904 / 4096) 512 = cutI x 12 9 := by
    rw [Int.tmod_eq_emod_of_nonneg (by omega)]; unfold cutI; show _ = x / 4096 % 512; omega
  have t2 : W (Int.tdiv (x % 4611686018427387904) 2097152) = x % 4611686018427387904 / 2097152 := by rw [Int.tdiv_eq_ediv_of_nonneg (by omega)]; exact W_id (by omega)
  have s2 : Int.tmod (x % 4611686018427387904 / 2097152) 262144 = cutI x 21 18 := by
    rw [Int.tmod_eq_emod_of_nonneg (by omega)]; unfold cutI; show _ = x / 2097152 % 262144; omega
  have t3 : W (Int.tdiv (x % 4611686018427387904) 549755813888) = x % 4611686018427387904 / 549755813888 := by rw [Int.tdiv_eq_ediv_of_nonneg (by omega)]; exact W_id (by omega)
  have s3 : Int.tmod (x % 4611686018427387904 / 549755813888) 512 = cutI x 39 9 := by
    rw [Int.tmod_eq_emod_of_nonneg (by omega)]; unfold cutI; show _ = x / 549755813888 % 512; omega
  have t4 : W (Int.tdiv (x % 4611686018427387904) 281474976710656) = x % 4611686018427387904 / 281474976710656 := by rw [Int.tdiv_eq_ediv_of_nonneg (by omega)]; exact W_id (by omega)
  have s4 : Int.tmod (x % 4611686018427387904 / 281474976710656) 2 = cutI x 48 1 := by
    rw [Int.tmod_eq_emod_of_nonneg (by omega)]; unfold cutI; show _ = x / 281474976710656 % 2; omega
  have t5 : W (Int.tdiv (x % 4611686018427387904) 562949953421312) = x % 4611686018427387904 / 562949953421312 := by rw [Int.tdiv_eq_ediv_of_nonneg (by omega)]; exact W_id (by omega)
  have s5 : Int.tmod (x % 4611686018427387904 / 562949953421312) 8 = cutI x 49 3 := by
    rw [Int.tmod_eq_emod_of_nonneg (by omega)]; unfold cutI; show _ = x / 562949953421312 % 8; omega
  have t6 : W (Int.tdiv (x % 4611686018427387904) 4503599627370496) = x % 4611686018427387904 / 4503599627370496 := by rw [Int.tdiv_eq_ediv_of_nonneg (by omega)]; exact W_id (by omega)
  have s6 : Int.tmod (x % 4611686018427387904 / 4503599627370496) 1024 = cutI x 52 10 := by
    rw [Int.tmod_eq_emod_of_nonneg (by omega)]; unfold cutI; show _ = x / 4503599627370496 % 1024; omega
  rw [t0, t1, t2, t3, t4, t5, t6, s1, s2, s3, s4, s5, s6]
  repeat refine ⟨by omega, ?_⟩
  exact hK
def redS : RSpec Unit := fun args h => match args, h with
  | [.agg [.int .i64 a, .int .i64 b, .int .i64 c, .int .i64 d, .bool m, .int .i64 e, .int .i64 f]], [] => some ((0 ≤ a ∧ a ≤ 1000000) ∧ (0 ≤ b ∧ b ≤ 1000000) ∧ (0 ≤ c ∧ c ≤ 1000000) ∧ (0 ≤ d ∧ d ≤ 1000000) ∧ (0 ≤ e ∧ e ≤ 1000000) ∧ (0 ≤ f ∧ f ≤ 1000000), .int .u64 (dPutV (a % 4096) (b % 512) (c % 262144) (d % 512) m (e % 8) (f % 1024)))
  | _, _ => none
theorem red_ok : Spec.ok E20.I Try.prog 97 redS.spec := by
  intro args h o ho K hK
  unfold RSpec.spec at ho
  split at ho
  case h_2 => cases ho
  rename_i pp vv hv
  unfold redS at hv
  split at hv
  case h_2 => cases hv
  rename_i a b c d m e f
  simp only [Option.some.injEq, Prod.mk.injEq] at hv
  obtain ⟨rfl, rfl⟩ := hv
  simp only [Option.some.injEq] at ho; subst ho
  obtain ⟨hp, hK⟩ := hK
  have hK : K (.int .u64 (dPutV (a % 4096) (b % 512) (c % 262144) (d % 512) m (e % 8) (f % 1024))) [] := hK
  refine CallOk.trim (callOk_of (E := E20) Try.checked.mixed (L := LL) (n := 10) (of_nf (q := bif m then (1024 : Int) ≠ (0 : Int) ∧ (8 : Int) ≠ (0 : Int) ∧ (512 : Int) ≠ (0 : Int) ∧ (262144 : Int) ≠ (0 : Int) ∧ (512 : Int) ≠ (0 : Int) ∧ (4096 : Int) ≠ (0 : Int) ∧ K (AVal.int .u64 (WU (W (W (W (W (W (W (W (W (W (W (W (W (Int.tmod f 1024 * 8) + Int.tmod e 8) * 2) + 1) * 512) + Int.tmod d 512) * 262144) + Int.tmod c 262144) * 512) + Int.tmod b 512) * 4096) + Int.tmod a 4096)))) [] else (1024 : Int) ≠ (0 : Int) ∧ (8 : Int) ≠ (0 : Int) ∧ (512 : Int) ≠ (0 : Int) ∧ (262144 : Int) ≠ (0 : Int) ∧ (512 : Int) ≠ (0 : Int) ∧ (4096 : Int) ≠ (0 : Int) ∧ K (AVal.int .u64 (WU (W (W (W (W (W (W (W (W (W (W (W (W (Int.tmod f 1024 * 8) + Int.tmod e 8) * 2) + 0) * 512) + Int.tmod d 512) * 262144) + Int.tmod c 262144) * 512) + Int.tmod b 512) * 4096) + Int.tmod a 4096)))) []) (by kernel_rfl) ?_))
  obtain ⟨p1, p2, p3, p4, p5, p6⟩ := hp
  have m1 : Int.tmod a 4096 = a % 4096 := Int.tmod_eq_emod_of_nonneg p1.1
  have m2 : Int.tmod b 512 = b % 512 := Int.tmod_eq_emod_of_nonneg p2.1
  have m3 : Int.tmod c 262144 = c % 262144 := Int.tmod_eq_emod_of_nonneg p3.1
  have m4 : Int.tmod d 512 = d % 512 := Int.tmod_eq_emod_of_nonneg p4.1
  have m5 : Int.tmod e 8 = e % 8 := Int.tmod_eq_emod_of_nonneg p5.1
  have m6 : Int.tmod f 1024 = f % 1024 := Int.tmod_eq_emod_of_nonneg p6.1
  rw [m1, m2, m3, m4, m5, m6]
  unfold dPutV bitI at hK
  cases m
  all_goals
    simp only [cond_true, cond_false] at hK ⊢
    simp (disch := omega) only [W, WU, W_in, WU_in]
    repeat refine ⟨by omega, ?_⟩
    refine cast (congrArg (fun z => K (AVal.int .u64 z) []) ?_) hK
    omega
noncomputable def E21a := (((((E20.addR 86 next1S next1_ok).addR 88 pendDS pendD_ok).addR 92 resDS resD_ok).addR 52 endedS ended_ok).addR 48 undS und_ok).addR 97 redS red_ok
def pend14S : RSpec Unit := fun args h => match args, h with
  | [.int .u64 x], [] => some (0 ≤ x ∧ x ≤ 18446744073709551615, .bool (pendB (cutI x 49 3)))
  | _, _ => none
theorem pend14_ok : Spec.ok E21a.I Try.prog 59 pend14S.spec := by
  intro args h o ho K hK
  unfold RSpec.spec at ho
  split at ho
  case h_2 => cases ho
  rename_i pp vv hv
  unfold pend14S at hv
  split at hv
  case h_2 => cases hv
  rename_i x
  simp only [Option.some.injEq, Prod.mk.injEq] at hv
  obtain ⟨rfl, rfl⟩ := hv
  simp only [Option.some.injEq] at ho; subst ho
  obtain ⟨hp, hK⟩ := hK
  have hK : K (.bool (pendB (cutI x 49 3))) [] := hK
  refine CallOk.trim (callOk_of (E := E21a) Try.checked.mixed (L := LL) (n := 10) (of_nf (q := ((0 : Int) ≤ x ∧ x ≤ (18446744073709551615 : Int)) ∧ bif ile 1 (cutI x 49 3) then K (AVal.bool (ile (cutI x 49 3) 4)) [] else K (AVal.bool false) []) (by kernel_rfl) ?_))
  unfold pendB at hK
  refine ⟨hp, ?_⟩
  generalize ile 1 (cutI x 49 3) = b1 at hK ⊢
  generalize ile (cutI x 49 3) 4 = b2 at hK ⊢
  cases b1 <;> cases b2 <;> exact hK
def ans14S : RSpec Unit := fun args h => match args, h with
  | [.int .u64 x], [] => some (0 ≤ x ∧ x ≤ 18446744073709551615, .agg [.int .i64 (resC (cutI x 39 9) (cutI x 49 3)), .bool (resO (cutI x 39 9) (cutI x 49 3) (ieq (cutI x 48 1) 1)), .int .i64 (resX (cutI x 39 9) (cutI x 49 3) (cutI x 52 10))])
  | _, _ => none
theorem ans14_ok : Spec.ok E21a.I Try.prog 62 ans14S.spec := by
  intro args h o ho K hK
  unfold RSpec.spec at ho
  split at ho
  case h_2 => cases ho
  rename_i pp vv hv
  unfold ans14S at hv
  split at hv
  case h_2 => cases hv
  rename_i x
  simp only [Option.some.injEq, Prod.mk.injEq] at hv
  obtain ⟨rfl, rfl⟩ := hv
  simp only [Option.some.injEq] at ho; subst ho
  obtain ⟨hp, hK⟩ := hK
  have hK : K (.agg [.int .i64 (resC (cutI x 39 9) (cutI x 49 3)), .bool (resO (cutI x 39 9) (cutI x 49 3) (ieq (cutI x 48 1) 1)), .int .i64 (resX (cutI x 39 9) (cutI x 49 3) (cutI x 52 10))]) [] := hK
  refine CallOk.trim (callOk_of (E := E21a) Try.checked.mixed (L := LL) (n := 10) (of_nf (q := ((0 : Int) ≤ x ∧ x ≤ (18446744073709551615 : Int)) ∧ bif !ieq (cutI x 49 3) 5 then K (AVal.agg [AVal.int .i64 5, AVal.bool false, AVal.int .i64 0]) [] else bif ieq (cutI x 39 9) 1 then K (AVal.agg [AVal.int .i64 4, AVal.bool false, AVal.int .i64 0]) [] else K (AVal.agg [AVal.int .i64 0, AVal.bool (ieq (cutI x 48 1) 1), AVal.int .i64 (cutI x 52 10)]) []) (by kernel_rfl) ?_))
  unfold resC resO resX at hK
  refine ⟨hp, ?_⟩
  generalize ieq (cutI x 49 3) 5 = b1 at hK ⊢
  generalize ieq (cutI x 39 9) 1 = b2 at hK ⊢
  cases b1 <;> cases b2 <;> exact hK
noncomputable def E21 := (E21a.addR 59 pend14S pend14_ok).addR 62 ans14S ans14_ok
end Go.Sh

/- Tasks: told, and put; an announcement, begun; whether one is pending. -/
namespace Go.Sh
open Go Go.Proofs
variable [Con]
theorem rightT_iff {s k y : Int} : rightT s k y = true ↔ (((s = 1 ∨ s = 2) ∧ 1 ≤ k ∧ k ≤ 3) ∨ ((s = 3 ∨ s = 4) ∧ (k = 4 ∨ k = 5))) ∧ 0 ≤ y ∧ y ≤ 999 ∧ (k = 5 → y ≤ 0) := by
  have hm : (bif ieq k 5 then (0 : Int) else 999) = if k = 5 then 0 else 999 := by
    rw [ieq_eq]; by_cases h : k = 5
    · simp [h]
    · have h' : (k == 5) = false := by simpa using h
      rw [h', if_neg h]; rfl
  have hk : k ∈ kindsL s ↔ (((s = 1 ∨ s = 2) ∧ 1 ≤ k ∧ k ≤ 3) ∨ ((s = 3 ∨ s = 4) ∧ (k = 4 ∨ k = 5))) := by
    unfold kindsL
    rw [ieq_eq, ieq_eq, ieq_eq, ieq_eq]
    by_cases h1 : s = 1
    · subst h1; simp; omega
    by_cases h2 : s = 2
    · subst h2; simp; omega
    by_cases h3 : s = 3
    · subst h3; simp
    by_cases h4 : s = 4
    · subst h4; simp
    have g1 : (s == 1) = false := by simpa using h1
    have g2 : (s == 2) = false := by simpa using h2
    have g3 : (s == 3) = false := by simpa using h3
    have g4 : (s == 4) = false := by simpa using h4
    rw [g1, g2, g3, g4]
    simp [h1, h2, h3, h4]
  unfold rightT
  rw [Bool.and_eq_true, Bool.and_eq_true, hasB_true, hk, ile_eq, ile_eq, decide_eq_true_eq, decide_eq_true_eq, hm]
  by_cases h5 : k = 5
  · simp [h5]; omega
  · simp [h5]
/- OPQ -/
def tskV (s k y : Int) : Int := s + 8 * k + 64 * y
def tputS : RSpec Unit := fun args h => match args, h with
  | [.agg [.int .i64 s, .int .i64 k, .int .i64 y]], [] => some (True, .tup [.int .u64 (bif rightT s k y then tskV s k y else 0), .int .i64 (bif rightT s k y then 0 else 1)])
  | _, _ => none
theorem tput_ok : Spec.ok E21.I Try.prog 82 tputS.spec := by
  intro args h o ho K hK
  unfold RSpec.spec at ho
  split at ho
  case h_2 => cases ho
  rename_i pp vv hv
  unfold tputS at hv
  split at hv
  case h_2 => cases hv
  rename_i s k y
  simp only [Option.some.injEq, Prod.mk.injEq] at hv
  obtain ⟨rfl, rfl⟩ := hv
  simp only [Option.some.injEq] at ho; subst ho
  obtain ⟨hp, hK⟩ := hK
  have hK : K (.tup [.int .u64 (bif rightT s k y then tskV s k y else 0), .int .i64 (bif rightT s k y then 0 else 1)]) [] := hK
  refine CallOk.trim (callOk_of (E := E21) Try.checked.mixed (L := LL) (n := 10) (of_nf (q := True ∧ bif !rightT s k y then K (AVal.tup [AVal.int .u64 0, AVal.int .i64 1]) [] else (0 : Int) ≤ (3 : Int) ∧ (0 : Int) ≤ (6 : Int) ∧ K (AVal.tup [AVal.int .u64 (WU (W (↑(BitVec.toNat (BitVec.ofInt (IntKind.bits .i64) (W (↑(BitVec.toNat (BitVec.ofInt (IntKind.bits .i64) s ||| BitVec.ofInt (IntKind.bits .i64) (W (k * 2 ^ min (Int.toNat 3) (IntKind.bits .i64))))) : Int)) ||| BitVec.ofInt (IntKind.bits .i64) (W (y * 2 ^ min (Int.toNat 6) (IntKind.bits .i64))))) : Int))), AVal.int .i64 0]) []) (by kernel_rfl) ?_))
  refine ⟨trivial, cond_go (fun e => ?_) (fun e => ⟨by omega, by omega, ?_⟩)⟩
  · rw [not_tr e] at hK; exact hK
  · have e := not_fa e
    rw [e] at hK
    have h := rightT_iff.1 e
    refine cast (congrArg (fun z => K (.tup [.int .u64 z, .int .i64 0]) []) ?_) hK
    show tskV s k y = _
    have hb : IntKind.bits .i64 = 64 := rfl
    rw [hb]
    have p3 : (2 : Int) ^ min (Int.toNat 3) 64 = 2 ^ 3 := by decide
    have p6 : (2 : Int) ^ min (Int.toNat 6) 64 = 2 ^ 6 := by decide
    have v3 : (2 : Int) ^ 3 = 8 := by decide
    have v6 : (2 : Int) ^ 6 = 64 := by decide
    have v64 : (2 : Int) ^ 64 = 18446744073709551616 := by decide
    rw [p3, p6]
    have q1 := or_shift (n := 64) (a := 3) (x := s) (y := k) (by omega) (by omega) (by omega)
    have w1 : W (k * 2 ^ 3) = k * 2 ^ 3 := W_id (by omega)
    rw [w1, q1]
    have w2 : W (s + k * 2 ^ 3) = s + k * 2 ^ 3 := W_id (by omega)
    have w3 : W (y * 2 ^ 6) = y * 2 ^ 6 := W_id (by omega)
    have q2 := or_shift (n := 64) (a := 6) (x := s + k * 2 ^ 3) (y := y) (by omega) (by omega) (by omega)
    rw [w2, w3, q2]
    have w4 : W (s + k * 2 ^ 3 + y * 2 ^ 6) = s + k * 2 ^ 3 + y * 2 ^ 6 := W_id (by omega)
    have w5 : WU (s + k * 2 ^ 3 + y * 2 ^ 6) = s + k * 2 ^ 3 + y * 2 ^ 6 := WU_in (by omega)
    rw [w4, w5, v3, v6]
    unfold tskV
    omega
def tput14S : RSpec Unit := fun args h => match args, h with
  | [.agg [.int .i64 s, .int .i64 k, .int .i64 y]], [] => some ((0 ≤ s ∧ s ≤ 1000) ∧ (0 ≤ k ∧ k ≤ 1000) ∧ (0 ≤ y ∧ y ≤ 1000), .int .u64 (tskV s k y))
  | _, _ => none
theorem tput14_ok : Spec.ok E21.I Try.prog 93 tput14S.spec := by
  intro args h o ho K hK
  unfold RSpec.spec at ho
  split at ho
  case h_2 => cases ho
  rename_i pp vv hv
  unfold tput14S at hv
  split at hv
  case h_2 => cases hv
  rename_i s k y
  simp only [Option.some.injEq, Prod.mk.injEq] at hv
  obtain ⟨rfl, rfl⟩ := hv
  simp only [Option.some.injEq] at ho; subst ho
  obtain ⟨hp, hK⟩ := hK
  have hK : K (.int .u64 (tskV s k y)) [] := hK
  refine CallOk.trim (callOk_of (E := E21) Try.checked.mixed (L := LL) (n := 10) (of_nf (q := K (AVal.int .u64 (WU (W (W (s + W (8 * k)) + W (64 * y))))) []) (by kernel_rfl) ?_))
  unfold tskV at hK
  simp (disch := omega) only [W, WU, W_in, WU_in]
  exact hK
def mayS : RSpec Unit := fun args h => match args, h with
  | [.int .i64 s, .agg [.int .i64 k, .int .i64 y]], [] => some (True, .bool (rightT s k y))
  | _, _ => none
theorem may_ok : Spec.ok E21.I Try.prog 44 mayS.spec := by
  intro args h o ho K hK
  unfold RSpec.spec at ho
  split at ho
  case h_2 => cases ho
  rename_i pp vv hv
  unfold mayS at hv
  split at hv
  case h_2 => cases hv
  rename_i s k y
  simp only [Option.some.injEq, Prod.mk.injEq] at hv
  obtain ⟨rfl, rfl⟩ := hv
  simp only [Option.some.injEq] at ho; subst ho
  obtain ⟨hp, hK⟩ := hK
  have hK : K (.bool (rightT s k y)) [] := hK
  refine CallOk.trim (callOk_of (E := E21) Try.checked.mixed (L := LL) (n := 10) (of_nf (q := bif ilt y 0 then K (AVal.bool false) [] else bif ilt 999 y then K (AVal.bool false) [] else bif ieq s 1 then bif ile 1 k then K (AVal.bool (ile k 3)) [] else K (AVal.bool false) [] else bif ieq s 2 then bif ile 1 k then K (AVal.bool (ile k 3)) [] else K (AVal.bool false) [] else bif ieq s 3 then bif ieq k 4 then K (AVal.bool true) [] else bif ieq k 5 then K (AVal.bool (ieq y 0)) [] else K (AVal.bool false) [] else bif ieq s 4 then bif ieq k 4 then K (AVal.bool true) [] else bif ieq k 5 then K (AVal.bool (ieq y 0)) [] else K (AVal.bool false) [] else K (AVal.bool false) []) (by kernel_rfl) ?_))
  have hb : ∀ v : Bool, rightT s k y = v → K (.bool v) [] := by intro v h; rw [← h]; exact hK
  have yes := (rightT_iff (s := s) (k := k) (y := y)).2
  have no : ¬ ((((s = 1 ∨ s = 2) ∧ 1 ≤ k ∧ k ≤ 3) ∨ ((s = 3 ∨ s = 4) ∧ (k = 4 ∨ k = 5))) ∧ 0 ≤ y ∧ y ≤ 999 ∧ (k = 5 → y ≤ 0)) → rightT s k y = false := by
    intro h
    cases e : rightT s k y with
    | false => rfl
    | true => exact (h (rightT_iff.1 e)).elim
  have hle : ∀ a b : Int, K (.bool (ile a b)) [] ∨ ¬ K (.bool (ile a b)) [] := fun _ _ => Classical.em _
  repeat' first
    | refine lt_go (fun _ => ?_) (fun _ => ?_)
    | refine le_go (fun _ => ?_) (fun _ => ?_)
    | refine eq_go (fun _ => ?_) (fun _ => ?_)
  all_goals first
    | exact hb _ (no (by omega))
    | exact hb _ (yes (by omega))
    | (rw [ile_eq]; by_cases c : k ≤ 3
       · rw [decide_eq_true c]; exact hb _ (yes (by omega))
       · rw [decide_eq_false c]; exact hb _ (no (by omega)))
    | (rw [ieq_eq]; by_cases c : y = 0
       · subst c; exact hb _ (yes (by omega))
       · have c' : (y == 0) = false := by simpa using c
         rw [c']; exact hb _ (no (by omega)))
noncomputable def E22a := ((E21.addR 82 tputS tput_ok).addR 93 tput14S tput14_ok).addR 44 mayS may_ok
/- OPQ -/
def tgB (x : Int) : Bool := ilt x 65536 && rightT (cutI x 0 3) (cutI x 3 3) (cutI x 6 10)
theorem cut_two {z : Int} (w : Nat) (hw : w ≤ 61) {c : Int} (hc : c = 2 ^ w - 1) : IntKind.wrap .i64 (IntKind.wrap .u64 ((BitVec.ofInt 64 z &&& BitVec.ofInt 64 c).toNat : Int)) = z % 2 ^ w := by
  subst hc
  rw [and_mask _ (by omega)]
  have h4 := two_pos w
  have h3 : (2 : Int) ^ w ≤ 2305843009213693952 := two_lt (n := 61) hw (by decide)
  have h6 := Int.emod_nonneg z (b := 2 ^ w) (by omega)
  have h7 := Int.emod_lt_of_pos z (b := 2 ^ w) (by omega)
  rw [WU_in (by omega), W_in (by omega)]
def tgetS : RSpec Unit := fun args h => match args, h with
  | [.int .u64 x], [] => some (0 ≤ x ∧ x ≤ 18446744073709551615, .tup [.agg [.int .i64 (bif tgB x then cutI x 0 3 else 0), .int .i64 (bif tgB x then cutI x 3 3 else 0), .int .i64 (bif tgB x then cutI x 6 10 else 0)], .int .i64 (bif tgB x then 0 else 3)])
  | _, _ => none
theorem tget_ok : Spec.ok E22a.I Try.prog 99 tgetS.spec := by
  intro args h o ho K hK
  unfold RSpec.spec at ho
  split at ho
  case h_2 => cases ho
  rename_i pp vv hv
  unfold tgetS at hv
  split at hv
  case h_2 => cases hv
  rename_i x
  simp only [Option.some.injEq, Prod.mk.injEq] at hv
  obtain ⟨rfl, rfl⟩ := hv
  simp only [Option.some.injEq] at ho; subst ho
  obtain ⟨hp, hK⟩ := hK
  have hK : K (.tup [.agg [.int .i64 (bif tgB x then cutI x 0 3 else 0), .int .i64 (bif tgB x then cutI x 3 3 else 0), .int .i64 (bif tgB x then cutI x 6 10 else 0)], .int .i64 (bif tgB x then 0 else 3)]) [] := hK
  refine CallOk.trim (callOk_of (E := E22a) Try.checked.mixed (L := LL) (n := 10) (of_nf (q := (0 : Int) ≤ (3 : Int) ∧ (0 : Int) ≤ (6 : Int) ∧ (0 : Int) ≤ (16 : Int) ∧ bif !ieq (Int.fdiv x (2 ^ min (Int.toNat 16) (IntKind.bits .u64))) 0 then K (AVal.tup [AVal.agg [AVal.int .i64 0, AVal.int .i64 0, AVal.int .i64 0], AVal.int .i64 3]) [] else True ∧ bif !rightT (W (WU (↑(BitVec.toNat (BitVec.ofInt (IntKind.bits .u64) x &&& BitVec.ofInt (IntKind.bits .u64) 7)) : Int))) (W (WU (↑(BitVec.toNat (BitVec.ofInt (IntKind.bits .u64) (Int.fdiv x (2 ^ min (Int.toNat 3) (IntKind.bits .u64))) &&& BitVec.ofInt (IntKind.bits .u64) 7)) : Int))) (W (WU (↑(BitVec.toNat (BitVec.ofInt (IntKind.bits .u64) (Int.fdiv x (2 ^ min (Int.toNat 6) (IntKind.bits .u64))) &&& BitVec.ofInt (IntKind.bits .u64) 1023)) : Int))) then K (AVal.tup [AVal.agg [AVal.int .i64 0, AVal.int .i64 0, AVal.int .i64 0], AVal.int .i64 3]) [] else K (AVal.tup [AVal.agg [AVal.int .i64 (W (WU (↑(BitVec.toNat (BitVec.ofInt (IntKind.bits .u64) x &&& BitVec.ofInt (IntKind.bits .u64) 7)) : Int))), AVal.int .i64 (W (WU (↑(BitVec.toNat (BitVec.ofInt (IntKind.bits .u64) (Int.fdiv x (2 ^ min (Int.toNat 3) (IntKind.bits .u64))) &&& BitVec.ofInt (IntKind.bits .u64) 7)) : Int))), AVal.int .i64 (W (WU (↑(BitVec.toNat (BitVec.ofInt (IntKind.bits .u64) (Int.fdiv x (2 ^ min (Int.toNat 6) (IntKind.bits .u64))) &&& BitVec.ofInt (IntKind.bits .u64) 1023)) : Int)))], AVal.int .i64 0]) []) (by kernel_rfl) ?_))
  have hb : IntKind.bits .u64 = 64 := rfl
  have p3 : (2 : Int) ^ min (Int.toNat 3) 64 = 8 := by decide
  have p6 : (2 : Int) ^ min (Int.toNat 6) 64 = 64 := by decide
  have p16 : (2 : Int) ^ min (Int.toNat 16) 64 = 65536 := by decide
  have c0 : cutI x 0 3 = x % 2 ^ 3 := by unfold cutI; show x / 1 % 8 = x % 8; omega
  have c1 : cutI x 3 3 = Int.fdiv x 8 % 2 ^ 3 := by rw [Int.fdiv_eq_ediv_of_nonneg _ (by omega)]; rfl
  have c2 : cutI x 6 10 = Int.fdiv x 64 % 2 ^ 10 := by rw [Int.fdiv_eq_ediv_of_nonneg _ (by omega)]; rfl
  rw [hb, p3, p6, p16]
  simp only [W, WU]
  rw [cut_two (z := x) 3 (by omega) (c := 7) (by decide), cut_two (z := Int.fdiv x 8) 3 (by omega) (c := 7) (by decide), cut_two (z := Int.fdiv x 64) 10 (by omega) (c := 1023) (by decide), ← c0, ← c1, ← c2]
  unfold tgB at hK
  have e16 : ieq (Int.fdiv x 65536) 0 = ilt x 65536 := by
    rw [Int.fdiv_eq_ediv_of_nonneg _ (by omega), ieq_eq, ilt_eq]
    by_cases h : x < 65536
    · rw [decide_eq_true h]; simp; omega
    · rw [decide_eq_false h]; simp; omega
  rw [e16]
  generalize ilt x 65536 = b1 at hK ⊢
  generalize rightT (cutI x 0 3) (cutI x 3 3) (cutI x 6 10) = b2 at hK ⊢
  refine ⟨by omega, by omega, by omega, ?_⟩
  cases b1 <;> cases b2 <;> first | exact hK | exact ⟨trivial, hK⟩
def tget14S : RSpec Unit := fun args h => match args, h with
  | [.int .u64 x], [] => some (0 ≤ x ∧ x ≤ 18446744073709551615, .tup [.agg [.int .i64 (bif ilt x 65536 then cutI x 0 3 else 0), .int .i64 (bif ilt x 65536 then cutI x 3 3 else 0), .int .i64 (bif ilt x 65536 then cutI x 6 10 else 0)], .bool (tgB x)])
  | _, _ => none
theorem tget14_ok : Spec.ok E22a.I Try.prog 64 tget14S.spec := by
  intro args h o ho K hK
  unfold RSpec.spec at ho
  split at ho
  case h_2 => cases ho
  rename_i pp vv hv
  unfold tget14S at hv
  split at hv
  case h_2 => cases hv
  rename_i x
  simp only [Option.some.injEq, Prod.mk.injEq] at hv
  obtain ⟨rfl, rfl⟩ := hv
  simp only [Option.some.injEq] at ho; subst ho
  obtain ⟨hp, hK⟩ := hK
  have hK : K (.tup [.agg [.int .i64 (bif ilt x 65536 then cutI x 0 3 else 0), .int .i64 (bif ilt x 65536 then cutI x 3 3 else 0), .int .i64 (bif ilt x 65536 then cutI x 6 10 else 0)], .bool (tgB x)]) [] := hK
  refine CallOk.trim (callOk_of (E := E22a) Try.checked.mixed (L := LL) (n := 10) (of_nf (q := bif ile 65536 x then K (AVal.tup [AVal.agg [AVal.int .i64 0, AVal.int .i64 0, AVal.int .i64 0], AVal.bool false]) [] else (8 : Int) ≠ (0 : Int) ∧ (8 : Int) ≠ (0 : Int) ∧ (8 : Int) ≠ (0 : Int) ∧ (64 : Int) ≠ (0 : Int) ∧ True ∧ K (AVal.tup [AVal.agg [AVal.int .i64 (W (Int.tmod x 8)), AVal.int .i64 (W (Int.tmod (WU (Int.tdiv x 8)) 8)), AVal.int .i64 (W (WU (Int.tdiv x 64)))], AVal.bool (rightT (W (Int.tmod x 8)) (W (Int.tmod (WU (Int.tdiv x 8)) 8)) (W (WU (Int.tdiv x 64))))]) []) (by kernel_rfl) ?_))
  have m0 : Int.tmod x 8 = x % 8 := Int.tmod_eq_emod_of_nonneg hp.1
  have m1 : Int.tdiv x 8 = x / 8 := Int.tdiv_eq_ediv_of_nonneg hp.1
  have m2 : Int.tdiv x 64 = x / 64 := Int.tdiv_eq_ediv_of_nonneg hp.1
  have m3 : Int.tmod (x / 8) 8 = x / 8 % 8 := Int.tmod_eq_emod_of_nonneg (by omega)
  have c0 : cutI x 0 3 = x % 8 := by unfold cutI; show x / 1 % 8 = x % 8; omega
  have c1 : cutI x 3 3 = x / 8 % 8 := rfl
  unfold tgB at hK
  refine le_go (fun h => ?_) (fun h => ?_)
  · have e : ilt x 65536 = false := by rw [ilt_eq]; exact decide_eq_false (by omega)
    rw [e] at hK; exact hK
  · have e : ilt x 65536 = true := by rw [ilt_eq]; exact decide_eq_true (by omega)
    rw [e] at hK
    have c2 : cutI x 6 10 = x / 64 := by unfold cutI; show x / 64 % 1024 = x / 64; omega
    have w1 : WU (x / 8) = x / 8 := WU_in (by omega)
    have w2 : WU (x / 64) = x / 64 := WU_in (by omega)
    have w3 : W (x / 64) = x / 64 := W_id (by omega)
    have w4 : W (x % 8) = x % 8 := W_id (by omega)
    have w5 : W (x / 8 % 8) = x / 8 % 8 := W_id (by omega)
    rw [m0, m1, m2, w1, w2, w3, m3, w4, w5]
    rw [c0, c1, c2] at hK
    exact ⟨by omega, by omega, by omega, by omega, trivial, hK⟩
noncomputable def E22b := (E22a.addR 99 tgetS tget_ok).addR 64 tget14S tget14_ok
def recNewS : Spec Unit := fun args h => match args, h with
  | [.agg [.int .i64 t, .int .i64 n], .int .i64 me, .agg [.int .i64 s, .int .i64 k, .int .i64 y]], [] => some (.ret (.ptr 0 0) [some (.cells [.int .i64 t, .int .i64 n, .int .u64 0, .int .i64 me, .int .i64 0, .int .u64 (bif rightT s k y then tskV s k y else 0), .bool (!rightT s k y), .int .u64 0])])
  | _, _ => none
theorem recNew_ok : Spec.ok E22b.I Try.prog 45 recNewS := by
  intro args h o ho K hK
  unfold recNewS at ho
  split at ho
  case h_2 => cases ho
  rename_i t n me s k y
  simp only [Option.some.injEq] at ho; subst ho
  have hK : K (.ptr 0 0) [some (.cells [.int .i64 t, .int .i64 n, .int .u64 0, .int .i64 me, .int .i64 0, .int .u64 (bif rightT s k y then tskV s k y else 0), .bool (!rightT s k y), .int .u64 0])] := hK
  refine CallOk.trim (callOk_of (E := E22b) Try.checked.mixed (L := LL) (n := 10) (of_nf (q := True ∧ K (AVal.ptr 0 0) [some (Entry.cells [AVal.int .i64 t, AVal.int .i64 n, AVal.int .u64 0, AVal.int .i64 me, AVal.int .i64 0, AVal.int .u64 (bif rightT s k y then tskV s k y else 0), AVal.bool !ieq (bif rightT s k y then 0 else 1) 0, AVal.int .u64 0])]) (by kernel_rfl) ?_))
  generalize rightT s k y = b at hK ⊢
  refine ⟨trivial, ?_⟩
  cases b <;> exact hK
/- OPQ -/
def pndB (xs : List Int) (t n a : Int) : Bool := ile 0 a && (ilt a t && pendB (cutI (peek xs (2 * n + 5 + 2 * t + 3 * a + 2)) 49 3))
def pndS : RSpec Unit := fun args h => match args, memPat h with
  | [.ptr 0 0, .agg [.int .i64 t, .int .i64 n], .int .i64 a], some (l, s) => some (l = s.xs.length ∧ (0 ≤ t ∧ t ≤ 100000) ∧ (0 ≤ n ∧ n ≤ 100000), .bool (pndB s.xs t n a))
  | _, _ => none
theorem pnd_ok : Spec.ok E22b.I Try.prog 50 pndS.spec := by
  intro args h o ho K hK
  unfold RSpec.spec at ho
  split at ho
  case h_2 => cases ho
  rename_i pp vv hv
  unfold pndS at hv
  split at hv
  case h_2 => cases hv
  rename_i t n a l s hm
  simp only [Option.some.injEq, Prod.mk.injEq] at hv
  obtain ⟨rfl, rfl⟩ := hv
  simp only [Option.some.injEq] at ho; subst ho
  obtain ⟨⟨hl, ht, hn⟩, hK⟩ := hK
  have hh := memPat_eq hm hl
  subst hh
  have hK : K (.bool (pndB s.xs t n a)) (memH s) := hK
  refine CallOk.trim (callOk_of (E := E22b) Try.checked.mixed (L := LL) (n := 10) (of_nf (q := bif ile 0 a then bif ilt a t then (((0 : Int) ≤ t ∧ t ≤ (100000 : Int)) ∧ ((0 : Int) ≤ n ∧ n ≤ (100000 : Int)) ∧ (-1099511627776 : Int) ≤ a ∧ a ≤ (1099511627776 : Int)) ∧ (List.length s.3 = List.length s.3 ∧ True) ∧ True ∧ True ∧ K (AVal.bool (pendB (cutI (peek s.3 (2 * n + 5 + 2 * t + 3 * a + 2)) 49 3))) [some (Entry.cells [AVal.int .i64 s.1, AVal.int .i64 s.2, AVal.slice 1 0 (List.length s.3) 1, AVal.int .i64 s.4, AVal.int .i64 s.5, AVal.int .i64 s.6, AVal.int .u64 s.7, AVal.int .u64 s.8, AVal.bool s.9]), some (Entry.ints (some .u64) s.3)] else K (AVal.bool false) [some (Entry.cells [AVal.int .i64 s.1, AVal.int .i64 s.2, AVal.slice 1 0 (List.length s.3) 1, AVal.int .i64 s.4, AVal.int .i64 s.5, AVal.int .i64 s.6, AVal.int .u64 s.7, AVal.int .u64 s.8, AVal.bool s.9]), some (Entry.ints (some .u64) s.3)] else K (AVal.bool false) [some (Entry.cells [AVal.int .i64 s.1, AVal.int .i64 s.2, AVal.slice 1 0 (List.length s.3) 1, AVal.int .i64 s.4, AVal.int .i64 s.5, AVal.int .i64 s.6, AVal.int .u64 s.7, AVal.int .u64 s.8, AVal.bool s.9]), some (Entry.ints (some .u64) s.3)]) (by kernel_rfl) ?_))
  unfold pndB at hK
  refine cond_go (fun e1 => cond_go (fun e2 => ?_) (fun e2 => ?_)) (fun e1 => ?_)
  · rw [e1, e2] at hK
    rw [ile_eq, decide_eq_true_eq] at e1
    rw [ilt_eq, decide_eq_true_eq] at e2
    exact ⟨by omega, ⟨rfl, trivial⟩, trivial, trivial, hK⟩
  · rw [e1, e2] at hK; exact hK
  · rw [e1] at hK; exact hK
noncomputable def E22 := (E22b.addS 45 recNewS recNew_ok).addR 50 pndS pnd_ok
end Go.Sh

