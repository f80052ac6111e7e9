/- A node's word: bits of others. -/
import Derived.Test.YtjklokfpnbnndaaZM10
set_option linter.all false
set_option linter.unusedVariables false
set_option linter.unusedSectionVars false
namespace Go.Sh
open Go Go.Proofs
variable [Con]
/- OPQ -/
def cutI (x a w : Int) : Int := x / 2 ^ a.toNat % 2 ^ w.toNat
/- OPQ -/
def bitI (b : Bool) : Int := bif b then 1 else 0
/- OPQ -/
def fitI (n w : Int) : Bool := ile 0 n && ilt n (2 ^ w.toNat)
theorem toNat_ofInt (n : Nat) (x : Int) : ((BitVec.ofInt n x).toNat : Int) = x % 2 ^ n := by
  rw [BitVec.toNat_ofInt]
  have h : (0 : Int) < (2 ^ n : Nat) := by exact_mod_cast Nat.two_pow_pos n
  have h2 : 0 ≤ x % ((2 ^ n : Nat) : Int) := Int.emod_nonneg _ (by omega)
  rw [Int.toNat_of_nonneg h2]
  push_cast
  rfl
theorem two_pos (w : Nat) : (0 : Int) < 2 ^ w := by
  have : ((2 ^ w : Nat) : Int) = 2 ^ w := by push_cast; rfl
  have h : 0 < 2 ^ w := Nat.two_pow_pos w
  omega
theorem two_le {w n : Nat} (h : w ≤ n) : (2 : Int) ^ w ≤ 2 ^ n := by
  have a : ((2 ^ w : Nat) : Int) = 2 ^ w := by push_cast; rfl
  have b : ((2 ^ n : Nat) : Int) = 2 ^ n := by push_cast; rfl
  have h : 2 ^ w ≤ 2 ^ n := Nat.pow_le_pow_right (by omega) h
  omega
theorem two_dvd {w n : Nat} (h : w ≤ n) : (2 : Int) ^ w ∣ 2 ^ n := by
  have a : ((2 ^ w : Nat) : Int) = 2 ^ w := by push_cast; rfl
  have b : ((2 ^ n : Nat) : Int) = 2 ^ n := by push_cast; rfl
  rw [← a, ← b]
  exact Int.natCast_dvd_natCast.2 (Nat.pow_dvd_pow 2 h)
theorem and_mask {n w : Nat} (x : Int) (h : w < n) : ((BitVec.ofInt n x &&& BitVec.ofInt n (2 ^ w - 1)).toNat : Int) = x % 2 ^ w := by
  have hp := two_pos w
  have h3 : (2 : Int) ^ w ≤ 2 ^ n := two_le (by omega)
  have e1 : (BitVec.ofInt n (2 ^ w - 1)).toNat = 2 ^ w - 1 := by
    have : ((BitVec.ofInt n (2 ^ w - 1)).toNat : Int) = ((2 ^ w - 1 : Nat) : Int) := by
      rw [toNat_ofInt, Int.emod_eq_of_lt (by omega) (by omega)]
      have a : ((2 ^ w : Nat) : Int) = 2 ^ w := by push_cast; rfl
      have : 1 ≤ 2 ^ w := Nat.one_le_two_pow
      omega
    exact_mod_cast this
  rw [BitVec.toNat_and, e1, Nat.and_two_pow_sub_one_eq_mod]
  push_cast
  rw [toNat_ofInt]
  exact Int.emod_emod_of_dvd _ (two_dvd (by omega))
theorem or_shift {n a : Nat} {x y : Int} (hx : 0 ≤ x ∧ x < 2 ^ a) (hy : 0 ≤ y) (h : y * 2 ^ a + x < 2 ^ n) :
    ((BitVec.ofInt n x ||| BitVec.ofInt n (y * 2 ^ a)).toNat : Int) = x + y * 2 ^ a := by
  have hp := two_pos a
  have hya : 0 ≤ y * 2 ^ a := Int.mul_nonneg hy (by omega)
  obtain ⟨u, rfl⟩ := Int.eq_ofNat_of_zero_le hx.1
  obtain ⟨v, rfl⟩ := Int.eq_ofNat_of_zero_le hy
  have e1 : (BitVec.ofInt n (u : Int)).toNat = u := by
    have : ((BitVec.ofInt n (u : Int)).toNat : Int) = (u : Int) := by
      rw [toNat_ofInt, Int.emod_eq_of_lt (by omega) (by omega)]
    exact_mod_cast this
  have e2 : (BitVec.ofInt n ((v : Int) * 2 ^ a)).toNat = v * 2 ^ a := by
    have : ((BitVec.ofInt n ((v : Int) * 2 ^ a)).toNat : Int) = ((v * 2 ^ a : Nat) : Int) := by
      rw [toNat_ofInt, Int.emod_eq_of_lt (by omega) (by omega)]; push_cast; rfl
    exact_mod_cast this
  have hu : u < 2 ^ a := by
    have b : ((2 ^ a : Nat) : Int) = 2 ^ a := by push_cast; rfl
    omega
  rw [BitVec.toNat_or, e1, e2]
  have : u ||| v * 2 ^ a = u + v * 2 ^ a := by
    have := Nat.shiftLeft_add_eq_or_of_lt hu v
    rw [Nat.shiftLeft_eq] at this
    rw [Nat.or_comm, ← this]; omega
  rw [this]; push_cast; rfl

theorem WU_in {x : Int} (h : 0 ≤ x ∧ x ≤ 18446744073709551615) : IntKind.wrap IntKind.u64 x = x := IntWalk.u64_in x h
theorem two_lt {w n : Nat} (h : w ≤ n) {b : Int} (e : b = 2 ^ n) : (2 : Int) ^ w ≤ b := by rw [e]; exact two_le h
def cutS : RSpec Unit := fun args h => match args, h with
  | [.int .u64 x, .int .i64 a, .int .i64 w], [] => some ((0 ≤ a ∧ a ≤ 63) ∧ (0 ≤ w ∧ w ≤ 62), .int .i64 (cutI x a w))
  | _, _ => none
theorem cut_ok : Spec.ok E10.I Try.prog 149 cutS.spec := by
  intro args h o ho K hK
  unfold RSpec.spec at ho
  split at ho
  case h_2 => cases ho
  rename_i p v hv
  unfold cutS at hv
  split at hv
  case h_2 => cases hv
  rename_i x a w
  simp only [Option.some.injEq, Prod.mk.injEq] at hv
  obtain ⟨rfl, rfl⟩ := hv
  simp only [Option.some.injEq] at ho; subst ho
  obtain ⟨⟨ha, hw⟩, hK⟩ := hK
  have hK : K (.int .i64 (cutI x a w)) [] := hK
  refine CallOk.trim (callOk_of (E := E10) Try.checked.mixed (L := fun _ _ => none) (n := 10) (of_nf (q := (0 : Int) ≤ a ∧ (0 : Int) ≤ w ∧ K (AVal.int .i64 (W (WU (↑(BitVec.toNat (BitVec.ofInt (IntKind.bits .u64) (Int.fdiv x (2 ^ min (Int.toNat a) (IntKind.bits .u64))) &&& BitVec.ofInt (IntKind.bits .u64) (WU (WU (1 * 2 ^ min (Int.toNat w) (IntKind.bits .u64)) - 1)))) : Int)))) []) (by kernel_rfl) ?_))
  refine ⟨by omega, by omega, ?_⟩
  refine cast (congrArg (fun z => K (AVal.int .i64 z) []) ?_) hK
  show cutI x a w = _
  have hb : IntKind.bits .u64 = 64 := rfl
  rw [hb]
  have h1 : min a.toNat 64 = a.toNat := by omega
  have h2 : min w.toNat 64 = w.toNat := by omega
  have h3 : (2 : Int) ^ w.toNat ≤ 4611686018427387904 := two_lt (n := 62) (by omega) (by decide)
  have h4 := two_pos w.toNat
  have h5 := two_pos a.toNat
  rw [h1, h2, Int.fdiv_eq_ediv_of_nonneg _ (by omega)]
  simp only [WU, W, Int.one_mul]
  rw [WU_in (x := 2 ^ w.toNat) (by omega), WU_in (x := 2 ^ w.toNat - 1) (by omega), and_mask _ (by omega)]
  have h6 := Int.emod_nonneg (x / 2 ^ a.toNat) (b := 2 ^ w.toNat) (by omega)
  have h7 := Int.emod_lt_of_pos (x / 2 ^ a.toNat) (b := 2 ^ w.toNat) (by omega)
  rw [WU_in (by omega), W_in (by omega)]
  rfl
def bitS : RSpec Unit := fun args h => match args, h with
  | [.bool b], [] => some (True, .int .i64 (bitI b))
  | _, _ => none
theorem bit_ok : Spec.ok E10.I Try.prog 151 bitS.spec := by
  intro args h o ho K hK
  unfold RSpec.spec at ho
  split at ho
  case h_2 => cases ho
  rename_i p v hv
  unfold bitS at hv
  split at hv
  case h_2 => cases hv
  rename_i b
  simp only [Option.some.injEq, Prod.mk.injEq] at hv
  obtain ⟨rfl, rfl⟩ := hv
  simp only [Option.some.injEq] at ho; subst ho
  obtain ⟨_, hK⟩ := hK
  have hK : K (.int .i64 (bitI b)) [] := hK
  refine CallOk.trim (callOk_of (E := E10) Try.checked.mixed (L := fun _ _ => none) (n := 10) (of_nf (q := bif b then K (AVal.int .i64 1) [] else K (AVal.int .i64 0) []) (by kernel_rfl) ?_))
  cases b <;> exact hK
def fitS : RSpec Unit := fun args h => match args, h with
  | [.agg [.int .i64 n, .int .i64 w]], [] => some (0 ≤ w ∧ w ≤ 62, .bool (fitI n w))
  | _, _ => none
theorem fit_ok : Spec.ok E10.I Try.prog 148 fitS.spec := by
  intro args h o ho K hK
  unfold RSpec.spec at ho
  split at ho
  case h_2 => cases ho
  rename_i p v hv
  unfold fitS at hv
  split at hv
  case h_2 => cases hv
  rename_i n w
  simp only [Option.some.injEq, Prod.mk.injEq] at hv
  obtain ⟨rfl, rfl⟩ := hv
  simp only [Option.some.injEq] at ho; subst ho
  obtain ⟨hw, hK⟩ := hK
  have hK : K (.bool (fitI n w)) [] := hK
  refine CallOk.trim (callOk_of (E := E10) Try.checked.mixed (L := fun _ _ => none) (n := 10) (of_nf (q := bif ile 0 n then (0 : Int) ≤ w ∧ K (AVal.bool (ilt n (W (1 * 2 ^ min (Int.toNat w) (IntKind.bits .i64))))) [] else K (AVal.bool false) []) (by kernel_rfl) ?_))
  unfold fitI at hK
  have hb : IntKind.bits .i64 = 64 := rfl
  have h2 : min w.toNat 64 = w.toNat := by omega
  have h3 : (2 : Int) ^ w.toNat ≤ 4611686018427387904 := two_lt (n := 62) (by omega) (by decide)
  have h4 := two_pos w.toNat
  refine cond_go (fun e => ⟨by omega, ?_⟩) (fun e => ?_)
  · rw [e] at hK
    rw [hb, h2, W, Int.one_mul, W_in (by omega)]
    exact hK
  · rw [e] at hK; exact hK
/- OPQ -/
def newerI (v : Int) : Int := (v + 1) % 262144
def linkS : RSpec Unit := fun args h => match args, h with
  | [.agg [.int .i64 k, .int .i64 x, .bool m, .int .i64 c, .int .i64 v], .int .i64 y], [] => some (0 ≤ v ∧ v ≤ 1000000, .agg [.int .i64 k, .int .i64 y, .bool m, .int .i64 c, .int .i64 (newerI v)])
  | _, _ => none
theorem link_ok : Spec.ok E10.I Try.prog 146 linkS.spec := by
  intro args h o ho K hK
  unfold RSpec.spec at ho
  split at ho
  case h_2 => cases ho
  rename_i p v hv
  unfold linkS at hv
  split at hv
  case h_2 => cases hv
  rename_i k x m c v y
  simp only [Option.some.injEq, Prod.mk.injEq] at hv
  obtain ⟨rfl, rfl⟩ := hv
  simp only [Option.some.injEq] at ho; subst ho
  obtain ⟨hw, hK⟩ := hK
  have hK : K (.agg [.int .i64 k, .int .i64 y, .bool m, .int .i64 c, .int .i64 (newerI v)]) [] := hK
  refine CallOk.trim (callOk_of (E := E10) Try.checked.mixed (L := fun _ _ => none) (n := 10) (of_nf (q := K (AVal.agg [AVal.int .i64 k, AVal.int .i64 y, AVal.bool m, AVal.int .i64 c, AVal.int .i64 (W (↑(BitVec.toNat (BitVec.ofInt (IntKind.bits .i64) (W (v + 1)) &&& BitVec.ofInt (IntKind.bits .i64) 262143)) : Int))]) []) (by kernel_rfl) ?_))
  refine cast (congrArg (fun z => K (.agg [.int .i64 k, .int .i64 y, .bool m, .int .i64 c, .int .i64 z]) []) ?_) hK
  show newerI v = _
  have hb : IntKind.bits .i64 = 64 := rfl
  simp only [W]
  rw [hb, W_in (x := v + 1) (by omega)]
  have := and_mask (n := 64) (w := 18) (v + 1) (by omega)
  have e : (2 : Int) ^ 18 - 1 = 262143 := by decide
  rw [e] at this
  rw [this]
  have e2 : (2 : Int) ^ 18 = 262144 := by decide
  rw [e2, W_in (by omega)]
  rfl
noncomputable def E11 := ((((E10.addR 149 cutS cut_ok).addR 151 bitS bit_ok).addR 148 fitS fit_ok).addR 146 linkS link_ok)

end Go.Sh
