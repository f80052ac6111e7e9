import Derived.Test.YtkhliiajfiabnaaGreatZM24toM61
set_option linter.all false
namespace Go.Sh
open Go Go.Proofs
variable [Con]
abbrev stC (l : Nat) (t n : Int) (st : STS) : Option (Entry Mc) := some (.cells [.int .i64 t, .int .i64 n, .int .i64 st.me, .int .i64 st.sp, .slice l 0 st.R.length 1])
abbrev stX (st : STS) : Option (Entry Mc) := some (.ints (some .i64) st.R)
def stL (w : Nat) (h : Heap Ob) : Option (Nat × Int × Int × STS) := match h with
  | [some (.cells [.int .i64 t, .int .i64 n, .int .i64 me, .int .i64 sp, .slice l 0 len 1]), some (.ints (some .i64) xs)] => if l = w then some (len, t, n, ⟨me, sp, xs⟩) else none
  | _ => none
theorem stL_eq {w : Nat} {h : Heap Ob} {l : Nat} {t n : Int} {st : STS} (e : stL w h = some (l, t, n, st)) (hl : l = st.R.length) : h = [stC w t n st, stX st] := by
  unfold stL at e
  split at e
  · split at e
    · rename_i hw
      simp only [Option.some.injEq, Prod.mk.injEq] at e
      obtain ⟨rfl, rfl, rfl, rfl⟩ := e
      subst hw
      simp only at hl; subst hl; rfl
    · cases e
  · cases e
theorem storeForm {f : FuncId} {t n : Int} {st st' : STS} {s s' : MS} {M : Mc} {e1 e2 : Entry Mc} {d : Bool} (h1 : ∀ ι : Nat → Nat, ι 1 = 1 → e1.ren ι = e1) (h2 : ∀ ι : Nat → Nat, ι 1 = 1 → e2.ren ι = e2)
    (hA : ∀ K, (Out.ite d (.ret (.bool true) [some e1, some (.abs (.store t n st') []), memC 3 s', memX s']) (.ret (.bool false) [some e2, some (.abs (.store t n st') []), memC 3 s', memX s'])).run K → CallOk (obI tbl) Tryz.prog f [.ptr 0 0, .ptr 2 0] [some (.abs M [1]), some (.abs (.store t n st) []), memC 3 s, memX s] K)
    (K : AVal → Heap Ob → Prop) (hK : (Out.ite d (.ret (.bool true) [some e1, stC 5 t n st', none, memC 4 s', memX s', stX st']) (.ret (.bool false) [some e2, stC 5 t n st', none, memC 4 s', memX s', stX st'])).run K) :
    CallOk (obI tbl) Tryz.prog f [.ptr 0 0, .ptr 3 0] [some (.abs M [1]), stC 2 t n st, stX st, memC 4 s, memX s] K := by
  refine CallOk.tells ?_
  refine CallOk.embed (h0 := [some (.abs M [1]), stC 4 t n st, memC 3 s, memX s, stX st]) (args0 := [.ptr 0 0, .ptr 2 0]) (K0 := fun v g => TellsK (obI tbl) 5 K (v.ren (iota [0, 1, 3, 4, 2] 5)) (merge [some (.abs M [1]), stC 2 t n st, stX st, memC 4 s, memX s] [0, 1, 3, 4, 2] g)) ?_ [0, 1, 3, 4, 2] rfl (by decide) (by intro l hl; simp at hl ⊢; omega) ?_ rfl (fun v g hk _ => hk)
  · refine CallOk.shut tbl [some (.abs M [1]), some (.abs (.store t n st) []), memC 3 s, memX s] (.store t n st) 1 0 (stG t n st) [] (by kernel_rfl) rfl rfl (by kernel_rfl) (hA _ ?_)
    have i1 : farI 4 1 1 = 1 := rfl
    have i2 : iota [0, 1, 3, 4, 2] 5 1 = 1 := rfl
    cases d with
    | true =>
      have q1 : ((e1.ren (farI 4 1)).ren (iota [0, 1, 3, 4, 2] 5)) = e1 := by rw [h1 _ i1, h1 _ i2]
      refine ⟨_, _, Tells.trans (Tells.eq (g2 := [some e1, some (.abs (.store t n st') []), none, memC 4 s', memX s']) (by kernel_rfl) ?_) (Tells.unpack (.store t n st') 1 0 (stG t n st') [] rfl rfl rfl rfl), hK⟩
      show [some ((e1.ren (farI 4 1)).ren (iota [0, 1, 3, 4, 2] 5)), _, _, _, _] = _
      rw [q1]; rfl
    | false =>
      have q2 : ((e2.ren (farI 4 1)).ren (iota [0, 1, 3, 4, 2] 5)) = e2 := by rw [h2 _ i1, h2 _ i2]
      refine ⟨_, _, Tells.trans (Tells.eq (g2 := [some e2, some (.abs (.store t n st') []), none, memC 4 s', memX s']) (by kernel_rfl) ?_) (Tells.unpack (.store t n st') 1 0 (stG t n st') [] rfl rfl rfl rfl), hK⟩
      show [some ((e2.ren (farI 4 1)).ren (iota [0, 1, 3, 4, 2] 5)), _, _, _, _] = _
      rw [q2]; rfl
  · intro i l hi
    match i, hi with
    | 0, hi => cases hi; rfl
    | 1, hi => cases hi; rfl
    | 2, hi => cases hi; rfl
    | 3, hi => cases hi; rfl
    | 4, hi => cases hi; rfl
    | _ + 5, hi => cases hi
def linksB (kd : Int) : Bool := ieq kd 1 || ieq kd 4
def popsB (sh kd : Int) : Bool := ieq kd 5 && ieq sh 4
def foundB (ky curr cw : Int) : Bool := bif ieq curr 0 then false else ieq (cutI cw 0 10) ky
def headI (sh ky : Int) : Int := bif ieq sh 2 then ky % 4 else 0
def keyI (sh kd ky : Int) : Int := bif ieq sh 2 then ky else bif ieq sh 1 then ky else bif ieq sh 3 then (bif linksB kd then 1024 else -1) else -1
def headS : RSpec Ob := fun args h => match args, h with
  | [.agg [.int .i64 t, .int .i64 n], .int .i64 a], [] => some ((0 ≤ n ∧ n ≤ 100000) ∧ (-1000000 ≤ a ∧ a ≤ 1000000), .int .i64 (n + 1 + a))
  | _, _ => none
theorem head_ok : Spec.ok (obI tbl) Tryz.prog 52 headS.spec := by
  intro args h o ho K hK
  unfold RSpec.spec headS at ho
  split at ho
  case h_2 => cases ho
  rename_i p v hp
  split at hp
  case h_2 => cases hp
  rename_i t n a
  simp only [Option.some.injEq, Prod.mk.injEq] at hp
  obtain ⟨rfl, rfl⟩ := hp
  simp only [Option.some.injEq] at ho; subst ho
  obtain ⟨hp, hK⟩ := hK
  have hK : K (.int .i64 (n + 1 + a)) [] := hK
  refine CallOk.trim (callOk_of (E := enE) Tryz.checked.mixed (L := LL) (n := 10) (of_nf (q := K (AVal.int .i64 (W (W (1 + n) + a))) []) (by kernel_rfl) ?_))
  simp (disch := omega) only [W, W_in]
  refine cast (congrArg (fun z => K (AVal.int .i64 z) []) ?_) hK
  omega
def wfreeS : RSpec Ob := fun args h => match args, h with
  | [.agg [.int .i64 k, .int .i64 y, .bool m, .int .i64 c, .int .i64 v]], [] => some (0 ≤ v ∧ v ≤ 1000000, .agg [.int .i64 k, .int .i64 y, .bool m, .int .i64 0, .int .i64 (newerI v)])
  | _, _ => none
theorem wfree_ok : Spec.ok (obI tbl) Tryz.prog 120 wfreeS.spec := by
  intro args h o ho K hK
  unfold RSpec.spec wfreeS at ho
  split at ho
  case h_2 => cases ho
  rename_i p v hp
  split at hp
  case h_2 => cases hp
  rename_i k y m c v
  simp only [Option.some.injEq, Prod.mk.injEq] at hp
  obtain ⟨rfl, rfl⟩ := hp
  simp only [Option.some.injEq] at ho; subst ho
  obtain ⟨hp, hK⟩ := hK
  have hK : K (.agg [.int .i64 k, .int .i64 y, .bool m, .int .i64 0, .int .i64 (newerI v)]) [] := hK
  refine CallOk.trim (callOk_of (E := enE) Tryz.checked.mixed (L := LL) (n := 10) (of_nf (q := K (AVal.agg [AVal.int .i64 k, AVal.int .i64 y, AVal.bool m, AVal.int .i64 0, AVal.int .i64 (W (↑(BitVec.toNat (BitVec.ofInt (IntKind.bits .i64) (W (v + 1)) &&& BitVec.ofInt (IntKind.bits .i64) 262143)) : Int))]) []) (by kernel_rfl) ?_))
  refine cast (congrArg (fun z => K (.agg [.int .i64 k, .int .i64 y, .bool m, .int .i64 0, .int .i64 z]) []) ?_) hK
  show newerI v = _
  have hb : IntKind.bits .i64 = 64 := rfl
  simp only [W]
  rw [hb, W_in (x := v + 1) (by omega)]
  have := and_mask (n := 64) (w := 18) (v + 1) (by omega)
  have e : (2 : Int) ^ 18 - 1 = 262143 := by decide
  rw [e] at this
  rw [this]
  have e2 : (2 : Int) ^ 18 = 262144 := by decide
  rw [e2, W_in (by omega)]
  rfl
def wclaimS : RSpec Ob := fun args h => match args, h with
  | [.agg [.int .i64 k, .int .i64 y, .bool m, .int .i64 c, .int .i64 v], .int .i64 b, .int .i64 x, .bool q], [] => some (-1000000 ≤ b ∧ b ≤ 1000000, .agg [.int .i64 k, .int .i64 x, .bool q, .int .i64 (b + 1), .int .i64 v])
  | _, _ => none
theorem wclaim_ok : Spec.ok (obI tbl) Tryz.prog 123 wclaimS.spec := by
  intro args h o ho K hK
  unfold RSpec.spec wclaimS at ho
  split at ho
  case h_2 => cases ho
  rename_i p v hp
  split at hp
  case h_2 => cases hp
  rename_i k y m c v b x q
  simp only [Option.some.injEq, Prod.mk.injEq] at hp
  obtain ⟨rfl, rfl⟩ := hp
  simp only [Option.some.injEq] at ho; subst ho
  obtain ⟨hp, hK⟩ := hK
  have hK : K (.agg [.int .i64 k, .int .i64 x, .bool q, .int .i64 (b + 1), .int .i64 v]) [] := hK
  refine CallOk.trim (callOk_of (E := enE) Tryz.checked.mixed (L := LL) (n := 10) (of_nf (q := K (AVal.agg [AVal.int .i64 k, AVal.int .i64 x, AVal.bool q, AVal.int .i64 (W (b + 1)), AVal.int .i64 v]) []) (by kernel_rfl) ?_))
  rw [W_id (by omega)]
  exact hK
def tlinksS : RSpec Ob := fun args h => match args, h with
  | [.agg [.int .i64 sh, .int .i64 kd, .int .i64 ky]], [] => some (True, .bool (linksB kd))
  | _, _ => none
theorem tlinks_ok : Spec.ok (obI tbl) Tryz.prog 61 tlinksS.spec := by
  intro args h o ho K hK
  unfold RSpec.spec tlinksS at ho
  split at ho
  case h_2 => cases ho
  rename_i p v hp
  split at hp
  case h_2 => cases hp
  rename_i sh kd ky
  simp only [Option.some.injEq, Prod.mk.injEq] at hp
  obtain ⟨rfl, rfl⟩ := hp
  simp only [Option.some.injEq] at ho; subst ho
  obtain ⟨hp, hK⟩ := hK
  have hK : K (.bool (linksB kd)) [] := hK
  refine CallOk.trim (callOk_of (E := enE) Tryz.checked.mixed (L := LL) (n := 10) (of_nf (q := bif ieq kd 1 then K (AVal.bool true) [] else K (AVal.bool (ieq kd 4)) []) (by kernel_rfl) ?_))
  unfold linksB at hK
  cases h : ieq kd 1 <;> rw [h] at hK <;> exact hK
def tpopsS : RSpec Ob := fun args h => match args, h with
  | [.agg [.int .i64 sh, .int .i64 kd, .int .i64 ky]], [] => some (True, .bool (popsB sh kd))
  | _, _ => none
theorem tpops_ok : Spec.ok (obI tbl) Tryz.prog 145 tpopsS.spec := by
  intro args h o ho K hK
  unfold RSpec.spec tpopsS at ho
  split at ho
  case h_2 => cases ho
  rename_i p v hp
  split at hp
  case h_2 => cases hp
  rename_i sh kd ky
  simp only [Option.some.injEq, Prod.mk.injEq] at hp
  obtain ⟨rfl, rfl⟩ := hp
  simp only [Option.some.injEq] at ho; subst ho
  obtain ⟨hp, hK⟩ := hK
  have hK : K (.bool (popsB sh kd)) [] := hK
  refine CallOk.trim (callOk_of (E := enE) Tryz.checked.mixed (L := LL) (n := 10) (of_nf (q := bif ieq kd 5 then K (AVal.bool (ieq sh 4)) [] else K (AVal.bool false) []) (by kernel_rfl) ?_))
  unfold popsB at hK
  cases h : ieq kd 5 <;> rw [h] at hK <;> exact hK
noncomputable def hasCS : Spec Ob := castSpec [(.slot 0, .ints (some .i64))] hasS.spec
theorem hasC_ok : Spec.ok (obI tbl) Tryz.prog 98 hasCS := castSpec_ok has_ok
noncomputable def EB0 := ((((((enE.addS 98 hasCS hasC_ok).addR 52 headS head_ok).addR 120 wfreeS wfree_ok).addR 123 wclaimS wclaim_ok).addR 61 tlinksS tlinks_ok).addR 145 tpopsS tpops_ok)
def isS : Spec Ob := fun args h => match args, h with
  | [.agg [.int .i64 a, .int .i64 b, .int .i64 c, .int .i64 d, .bool m, .int .i64 e, .int .i64 f], .slice 0 0 1 1], [some (.cells [.int .i64 s])] => some (.ret (.bool (hasB [s] e)) [some (.ints (some .i64) [s])])
  | _, _ => none
theorem is_ok : Spec.ok (obI tbl) Tryz.prog 136 isS := by
  intro args h o ho K hK
  unfold isS at ho
  split at ho
  case h_2 => cases ho
  rename_i a b c d m e f s
  simp only [Option.some.injEq] at ho; subst ho
  have hK : K (.bool (hasB [s] e)) [some (.ints (some .i64) [s])] := hK
  refine CallOk.trim (callOk_of (E := EB0) Tryz.checked.mixed (L := LL) (n := 10) (of_nf (q := (1 = 1 ∧ (1 : Nat) ≤ (4294967296 : Nat)) ∧ K (AVal.bool (hasB [s] e)) [some (Entry.ints (some .i64) [s])]) (by kernel_rfl) ?_))
  exact ⟨⟨rfl, by omega⟩, hK⟩
noncomputable def EB0b := EB0.addS 136 isS is_ok
def cthrS : RSpec Ob := fun args h => match args, h with
  | [.int .u64 x], [] => some (True, .int .i64 (cutI x 20 5 - 1))
  | _, _ => none
theorem cthr_ok : Spec.ok (obI tbl) Tryz.prog 115 cthrS.spec := by
  intro args h o ho K hK
  unfold RSpec.spec cthrS at ho
  split at ho
  case h_2 => cases ho
  rename_i p v hp
  split at hp
  case h_2 => cases hp
  rename_i x
  simp only [Option.some.injEq, Prod.mk.injEq] at hp
  obtain ⟨rfl, rfl⟩ := hp
  simp only [Option.some.injEq] at ho; subst ho
  obtain ⟨hp, hK⟩ := hK
  have hK : K (.int .i64 (cutI x 20 5 - 1)) [] := hK
  refine CallOk.trim (callOk_of (E := EB0b) Tryz.checked.mixed (L := LL) (n := 10) (of_nf (q := True ∧ K (AVal.int .i64 (W (cutI x 20 5 - 1))) []) (by kernel_rfl) ?_))
  have hb : 0 ≤ cutI x 20 5 ∧ cutI x 20 5 < 32 := by
    unfold cutI
    have e : (2 : Int) ^ (5 : Int).toNat = 32 := by decide
    rw [e]
    exact ⟨Int.emod_nonneg _ (by decide), Int.emod_lt_of_pos _ (by decide)⟩
  have e1 : W (cutI x 20 5 - 1) = cutI x 20 5 - 1 := W_in (by omega)
  rw [e1]
  exact ⟨trivial, hK⟩
def dwithS : RSpec Ob := fun args h => match args, h with
  | [.agg [.int .i64 a, .int .i64 b, .int .i64 c, .int .i64 d, .bool m, .int .i64 e, .int .i64 f], .int .i64 g], [] => some (True, .agg [.int .i64 a, .int .i64 b, .int .i64 c, .int .i64 d, .bool m, .int .i64 g, .int .i64 f])
  | _, _ => none
theorem dwith_ok : Spec.ok (obI tbl) Tryz.prog 118 dwithS.spec := by
  intro args h o ho K hK
  unfold RSpec.spec dwithS at ho
  split at ho
  case h_2 => cases ho
  rename_i p v hp
  split at hp
  case h_2 => cases hp
  rename_i a b c d m e f g
  simp only [Option.some.injEq, Prod.mk.injEq] at hp
  obtain ⟨rfl, rfl⟩ := hp
  simp only [Option.some.injEq] at ho; subst ho
  obtain ⟨hp, hK⟩ := hK
  have hK : K (.agg [.int .i64 a, .int .i64 b, .int .i64 c, .int .i64 d, .bool m, .int .i64 g, .int .i64 f]) [] := hK
  refine CallOk.trim (callOk_of (E := EB0b) Tryz.checked.mixed (L := LL) (n := 10) (of_nf (q := K (AVal.agg [AVal.int .i64 a, AVal.int .i64 b, AVal.int .i64 c, AVal.int .i64 d, AVal.bool m, AVal.int .i64 g, AVal.int .i64 f]) []) (by kernel_rfl) ?_))
  exact hK
noncomputable def EB0c := (EB0b.addR 115 cthrS cthr_ok).addR 118 dwithS dwith_ok
end Go.Sh

namespace Go.Sh
open Go Go.Proofs
variable [Con]
def tplaceS : RSpec Ob := fun args h => match args, h with
  | [.agg [.int .i64 sh, .int .i64 kd, .int .i64 ky]], [] => some (True, .agg [.int .i64 (headI sh ky), .int .i64 (keyI sh kd ky)])
  | _, _ => none
theorem tplace_ok : Spec.ok (obI tbl) Tryz.prog 65 tplaceS.spec := by
  intro args h o ho K hK
  unfold RSpec.spec tplaceS at ho
  split at ho
  case h_2 => cases ho
  rename_i p v hp
  split at hp
  case h_2 => cases hp
  rename_i sh kd ky
  simp only [Option.some.injEq, Prod.mk.injEq] at hp
  obtain ⟨rfl, rfl⟩ := hp
  simp only [Option.some.injEq] at ho; subst ho
  obtain ⟨hp, hK⟩ := hK
  have hK : K (.agg [.int .i64 (headI sh ky), .int .i64 (keyI sh kd ky)]) [] := hK
  refine CallOk.trim (callOk_of (E := EB0c) Tryz.checked.mixed (L := LL) (n := 10) (of_nf (q := bif ieq sh 2 then K (AVal.agg [AVal.int .i64 (W (↑(BitVec.toNat (BitVec.ofInt (IntKind.bits .i64) ky &&& BitVec.ofInt (IntKind.bits .i64) 3)) : Int)), AVal.int .i64 ky]) [] else bif ieq sh 1 then K (AVal.agg [AVal.int .i64 0, AVal.int .i64 ky]) [] else bif ieq sh 2 then K (AVal.agg [AVal.int .i64 0, AVal.int .i64 ky]) [] else bif ieq sh 3 then True ∧ bif linksB kd then K (AVal.agg [AVal.int .i64 0, AVal.int .i64 1024]) [] else K (AVal.agg [AVal.int .i64 0, AVal.int .i64 (-1 : Int)]) [] else K (AVal.agg [AVal.int .i64 0, AVal.int .i64 (-1 : Int)]) []) (by kernel_rfl) ?_))
  have e4 : W (((BitVec.ofInt (IntKind.bits .i64) ky &&& BitVec.ofInt (IntKind.bits .i64) 3).toNat : Nat) : Int) = ky % 4 := by
    have hb : IntKind.bits .i64 = 64 := rfl
    rw [hb]
    have := and_mask (n := 64) (w := 2) ky (by omega)
    have e : (2 : Int) ^ 2 - 1 = 3 := by decide
    rw [e] at this
    rw [this]
    have e2 : (2 : Int) ^ 2 = 4 := by decide
    rw [e2]
    exact W_in (by omega)
  unfold headI keyI at hK
  refine cond_go (fun e => ?_) (fun e => cond_go (fun e1 => ?_) (fun e1 => cond_go (fun e2 => ?_) (fun e2 => cond_go (fun e3 => ⟨trivial, cond_go (fun e5 => ?_) (fun e5 => ?_)⟩) (fun e3 => ?_))))
  · rw [e] at hK; rw [e4]; exact hK
  · rw [e, e1] at hK; exact hK
  · rw [e] at e2; cases e2
  · rw [e, e1, e3, e5] at hK; exact hK
  · rw [e, e1, e3, e5] at hK; exact hK
  · rw [e, e1, e3] at hK; exact hK
def pfoundS : RSpec Ob := fun args h => match args, h with
  | [.agg [.int .i64 sh, .int .i64 kd, .int .i64 ky, .int .i64 pred, .int .u64 pw, .int .i64 curr, .int .u64 cw]], [] => some (True, .bool (foundB ky curr cw))
  | _, _ => none
theorem pfound_ok : Spec.ok (obI tbl) Tryz.prog 131 pfoundS.spec := by
  intro args h o ho K hK
  unfold RSpec.spec pfoundS at ho
  split at ho
  case h_2 => cases ho
  rename_i p v hp
  split at hp
  case h_2 => cases hp
  rename_i sh kd ky pred pw curr cw
  simp only [Option.some.injEq, Prod.mk.injEq] at hp
  obtain ⟨rfl, rfl⟩ := hp
  simp only [Option.some.injEq] at ho; subst ho
  obtain ⟨hp, hK⟩ := hK
  have hK : K (.bool (foundB ky curr cw)) [] := hK
  refine CallOk.trim (callOk_of (E := EB0c) Tryz.checked.mixed (L := LL) (n := 10) (of_nf (q := bif !ieq curr 0 then True ∧ K (AVal.bool (ieq (cutI cw 0 10) ky)) [] else K (AVal.bool false) []) (by kernel_rfl) ?_))
  unfold foundB at hK
  cases h : ieq curr 0 with
  | true => rw [h] at hK; exact hK
  | false => rw [h] at hK; exact ⟨trivial, hK⟩
noncomputable def EB1 := (EB0c.addR 65 tplaceS tplace_ok).addR 131 pfoundS pfound_ok
def planP (v : AVal) (g : Heap Ob) : Option (Prop × PLN) := match v, g with
  | .agg [.bool now, .int .i64 code, .bool okk, .int .i64 val, .int .i64 addr, .int .u64 old, .int .i64 nxt, .bool mark, .int .i64 pops], [] => some (True, ⟨now, code, okk, val, addr, old, nxt, mark, pops⟩)
  | _, _ => none
def planV (y : PLN) : AVal := .agg [.bool y.now, .int .i64 y.code, .bool y.okk, .int .i64 y.val, .int .i64 y.addr, .int .u64 y.old, .int .i64 y.nxt, .bool y.mark, .int .i64 y.pops]
theorem planP_ok : Reads (obI tbl) 0 planP (fun y => .ret (planV y) []) := by
  intro v g p x hp hq K hK
  unfold planP at hp
  split at hp
  case h_2 => cases hp
  simp only [Option.some.injEq, Prod.mk.injEq] at hp
  obtain ⟨rfl, rfl⟩ := hp
  exact ⟨⟨_, _, Tells.refl _ _ _, hK⟩⟩
def planT (sh kd ky pred pw curr cw spare : Int) : Tr (PLN) := Tr.pre True (Tr.ite (!rightT sh kd ky) (Tr.pre True (Tr.ret { now := true, code := (1 : Int), okk := false, val := (0 : Int), addr := (0 : Int), old := (0 : Int), nxt := (0 : Int), mark := false, pops := (0 : Int) })) (Tr.ite (ieq kd 4) (Tr.ite (ieq kd 4) (Tr.pre True (Tr.pre True (Tr.ret { now := false, code := (0 : Int), okk := true, val := (0 : Int), addr := pred, old := pw, nxt := spare, mark := ieq (cutI pw 19 1) 1, pops := (0 : Int) }))) (Tr.ite (ieq kd 2) (Tr.pre True (Tr.ite (foundB ky curr cw) (Tr.pre True (Tr.pre True (Tr.ret { now := false, code := (0 : Int), okk := true, val := (0 : Int), addr := curr, old := cw, nxt := cutI cw 10 9, mark := true, pops := (0 : Int) }))) (Tr.ite (ieq kd 5) (Tr.ite (ieq curr 0) (Tr.pre True (Tr.ret { now := true, code := (0 : Int), okk := false, val := (0 : Int), addr := (0 : Int), old := (0 : Int), nxt := (0 : Int), mark := false, pops := (0 : Int) })) (Tr.pre True (Tr.pre True (Tr.ite (popsB sh kd) (Tr.pre True (Tr.pre True (Tr.pre True (Tr.ret { now := false, code := (0 : Int), okk := true, val := cutI cw 0 10, addr := pred, old := pw, nxt := cutI cw 10 9, mark := ieq (cutI pw 19 1) 1, pops := curr })))) (Tr.pre True (Tr.pre True (Tr.ret { now := false, code := (0 : Int), okk := true, val := cutI cw 0 10, addr := curr, old := cw, nxt := cutI cw 10 9, mark := true, pops := (0 : Int) }))))))) (Tr.ite (ieq kd 3) (Tr.pre True (Tr.pre True (Tr.ret { now := true, code := (0 : Int), okk := foundB ky curr cw, val := (0 : Int), addr := (0 : Int), old := (0 : Int), nxt := (0 : Int), mark := false, pops := (0 : Int) }))) (Tr.pre True (Tr.ret { now := true, code := (0 : Int), okk := false, val := (0 : Int), addr := (0 : Int), old := (0 : Int), nxt := (0 : Int), mark := false, pops := (0 : Int) })))))) (Tr.ite (ieq kd 5) (Tr.ite (ieq curr 0) (Tr.pre True (Tr.ret { now := true, code := (0 : Int), okk := false, val := (0 : Int), addr := (0 : Int), old := (0 : Int), nxt := (0 : Int), mark := false, pops := (0 : Int) })) (Tr.pre True (Tr.pre True (Tr.ite (popsB sh kd) (Tr.pre True (Tr.pre True (Tr.pre True (Tr.ret { now := false, code := (0 : Int), okk := true, val := cutI cw 0 10, addr := pred, old := pw, nxt := cutI cw 10 9, mark := ieq (cutI pw 19 1) 1, pops := curr })))) (Tr.pre True (Tr.pre True (Tr.ret { now := false, code := (0 : Int), okk := true, val := cutI cw 0 10, addr := curr, old := cw, nxt := cutI cw 10 9, mark := true, pops := (0 : Int) }))))))) (Tr.ite (ieq kd 3) (Tr.pre True (Tr.pre True (Tr.ret { now := true, code := (0 : Int), okk := foundB ky curr cw, val := (0 : Int), addr := (0 : Int), old := (0 : Int), nxt := (0 : Int), mark := false, pops := (0 : Int) }))) (Tr.pre True (Tr.ret { now := true, code := (0 : Int), okk := false, val := (0 : Int), addr := (0 : Int), old := (0 : Int), nxt := (0 : Int), mark := false, pops := (0 : Int) })))))) (Tr.ite (ieq kd 1) (Tr.pre True (Tr.ite (!foundB ky curr cw) (Tr.pre True (Tr.pre True (Tr.ret { now := false, code := (0 : Int), okk := true, val := (0 : Int), addr := pred, old := pw, nxt := spare, mark := ieq (cutI pw 19 1) 1, pops := (0 : Int) }))) (Tr.ite (ieq kd 2) (Tr.pre True (Tr.ite (foundB ky curr cw) (Tr.pre True (Tr.pre True (Tr.ret { now := false, code := (0 : Int), okk := true, val := (0 : Int), addr := curr, old := cw, nxt := cutI cw 10 9, mark := true, pops := (0 : Int) }))) (Tr.ite (ieq kd 5) (Tr.ite (ieq curr 0) (Tr.pre True (Tr.ret { now := true, code := (0 : Int), okk := false, val := (0 : Int), addr := (0 : Int), old := (0 : Int), nxt := (0 : Int), mark := false, pops := (0 : Int) })) (Tr.pre True (Tr.pre True (Tr.ite (popsB sh kd) (Tr.pre True (Tr.pre True (Tr.pre True (Tr.ret { now := false, code := (0 : Int), okk := true, val := cutI cw 0 10, addr := pred, old := pw, nxt := cutI cw 10 9, mark := ieq (cutI pw 19 1) 1, pops := curr })))) (Tr.pre True (Tr.pre True (Tr.ret { now := false, code := (0 : Int), okk := true, val := cutI cw 0 10, addr := curr, old := cw, nxt := cutI cw 10 9, mark := true, pops := (0 : Int) }))))))) (Tr.ite (ieq kd 3) (Tr.pre True (Tr.pre True (Tr.ret { now := true, code := (0 : Int), okk := foundB ky curr cw, val := (0 : Int), addr := (0 : Int), old := (0 : Int), nxt := (0 : Int), mark := false, pops := (0 : Int) }))) (Tr.pre True (Tr.ret { now := true, code := (0 : Int), okk := false, val := (0 : Int), addr := (0 : Int), old := (0 : Int), nxt := (0 : Int), mark := false, pops := (0 : Int) })))))) (Tr.ite (ieq kd 5) (Tr.ite (ieq curr 0) (Tr.pre True (Tr.ret { now := true, code := (0 : Int), okk := false, val := (0 : Int), addr := (0 : Int), old := (0 : Int), nxt := (0 : Int), mark := false, pops := (0 : Int) })) (Tr.pre True (Tr.pre True (Tr.ite (popsB sh kd) (Tr.pre True (Tr.pre True (Tr.pre True (Tr.ret { now := false, code := (0 : Int), okk := true, val := cutI cw 0 10, addr := pred, old := pw, nxt := cutI cw 10 9, mark := ieq (cutI pw 19 1) 1, pops := curr })))) (Tr.pre True (Tr.pre True (Tr.ret { now := false, code := (0 : Int), okk := true, val := cutI cw 0 10, addr := curr, old := cw, nxt := cutI cw 10 9, mark := true, pops := (0 : Int) }))))))) (Tr.ite (ieq kd 3) (Tr.pre True (Tr.pre True (Tr.ret { now := true, code := (0 : Int), okk := foundB ky curr cw, val := (0 : Int), addr := (0 : Int), old := (0 : Int), nxt := (0 : Int), mark := false, pops := (0 : Int) }))) (Tr.pre True (Tr.ret { now := true, code := (0 : Int), okk := false, val := (0 : Int), addr := (0 : Int), old := (0 : Int), nxt := (0 : Int), mark := false, pops := (0 : Int) }))))))) (Tr.ite (ieq kd 2) (Tr.pre True (Tr.ite (foundB ky curr cw) (Tr.pre True (Tr.pre True (Tr.ret { now := false, code := (0 : Int), okk := true, val := (0 : Int), addr := curr, old := cw, nxt := cutI cw 10 9, mark := true, pops := (0 : Int) }))) (Tr.ite (ieq kd 5) (Tr.ite (ieq curr 0) (Tr.pre True (Tr.ret { now := true, code := (0 : Int), okk := false, val := (0 : Int), addr := (0 : Int), old := (0 : Int), nxt := (0 : Int), mark := false, pops := (0 : Int) })) (Tr.pre True (Tr.pre True (Tr.ite (popsB sh kd) (Tr.pre True (Tr.pre True (Tr.pre True (Tr.ret { now := false, code := (0 : Int), okk := true, val := cutI cw 0 10, addr := pred, old := pw, nxt := cutI cw 10 9, mark := ieq (cutI pw 19 1) 1, pops := curr })))) (Tr.pre True (Tr.pre True (Tr.ret { now := false, code := (0 : Int), okk := true, val := cutI cw 0 10, addr := curr, old := cw, nxt := cutI cw 10 9, mark := true, pops := (0 : Int) }))))))) (Tr.ite (ieq kd 3) (Tr.pre True (Tr.pre True (Tr.ret { now := true, code := (0 : Int), okk := foundB ky curr cw, val := (0 : Int), addr := (0 : Int), old := (0 : Int), nxt := (0 : Int), mark := false, pops := (0 : Int) }))) (Tr.pre True (Tr.ret { now := true, code := (0 : Int), okk := false, val := (0 : Int), addr := (0 : Int), old := (0 : Int), nxt := (0 : Int), mark := false, pops := (0 : Int) })))))) (Tr.ite (ieq kd 5) (Tr.ite (ieq curr 0) (Tr.pre True (Tr.ret { now := true, code := (0 : Int), okk := false, val := (0 : Int), addr := (0 : Int), old := (0 : Int), nxt := (0 : Int), mark := false, pops := (0 : Int) })) (Tr.pre True (Tr.pre True (Tr.ite (popsB sh kd) (Tr.pre True (Tr.pre True (Tr.pre True (Tr.ret { now := false, code := (0 : Int), okk := true, val := cutI cw 0 10, addr := pred, old := pw, nxt := cutI cw 10 9, mark := ieq (cutI pw 19 1) 1, pops := curr })))) (Tr.pre True (Tr.pre True (Tr.ret { now := false, code := (0 : Int), okk := true, val := cutI cw 0 10, addr := curr, old := cw, nxt := cutI cw 10 9, mark := true, pops := (0 : Int) }))))))) (Tr.ite (ieq kd 3) (Tr.pre True (Tr.pre True (Tr.ret { now := true, code := (0 : Int), okk := foundB ky curr cw, val := (0 : Int), addr := (0 : Int), old := (0 : Int), nxt := (0 : Int), mark := false, pops := (0 : Int) }))) (Tr.pre True (Tr.ret { now := true, code := (0 : Int), okk := false, val := (0 : Int), addr := (0 : Int), old := (0 : Int), nxt := (0 : Int), mark := false, pops := (0 : Int) }))))))))
def planF (sh kd ky pred pw curr cw spare : Int) : PLN := (planT sh kd ky pred pw curr cw spare).val
def planOk (sh kd ky pred pw curr cw spare : Int) : Prop := (planT sh kd ky pred pw curr cw spare).ok
def planS : Spec Ob := fun args h => match args, h with
  | [.agg [.int .i64 sh, .int .i64 kd, .int .i64 ky], .agg [.int .i64 pred, .int .u64 pw, .int .i64 curr, .int .u64 cw], .int .i64 spare], [] => some (.pre (planOk sh kd ky pred pw curr cw spare) (.ret (planV (planF sh kd ky pred pw curr cw spare)) []))
  | _, _ => none
theorem plan_ok : Spec.ok (obI tbl) Tryz.prog 111 planS := by
  intro args h o ho K hK
  unfold planS at ho
  split at ho
  case h_2 => cases ho
  rename_i sh kd ky pred pw curr cw spare
  simp only [Option.some.injEq] at ho; subst ho
  obtain ⟨ok, hK⟩ := hK
  refine CallOk.plainM (root := 0) (pos := []) (cs := []) planP_ok ?_
  exact callOk_of (E := EB1) Tryz.checked.mixed (L := LL) (n := 10) (of_nf (q := (planT sh kd ky pred pw curr cw spare).run (fun y => (Out.ret (planV y) []).run K)) (by kernel_rfl) (Tr.run_of ok hK))
def planWP (v : AVal) (g : Heap Ob) : Option (Prop × Int) := match v, g with
  | .int .u64 x, [] => some (True, x)
  | _, _ => none
def planWV (y : Int) : AVal := .int .u64 y
theorem planWP_ok : Reads (obI tbl) 0 planWP (fun y => .ret (planWV y) []) := by
  intro v g p x hp hq K hK
  unfold planWP at hp
  split at hp
  case h_2 => cases hp
  simp only [Option.some.injEq, Prod.mk.injEq] at hp
  obtain ⟨rfl, rfl⟩ := hp
  exact ⟨⟨_, _, Tells.refl _ _ _, hK⟩⟩
def planWT (now : Bool) (code : Int) (okk : Bool) (val : Int) (addr : Int) (old : Int) (nxt : Int) (mark : Bool) (pops : Int) : Tr (Int) := Tr.ite now (Tr.pre True (Tr.ret 0)) (Tr.pre True (Tr.pre ((-1000000 : Int) ≤ (0 : Int) ∧ (0 : Int) ≤ (1000000 : Int)) (Tr.pre ((0 : Int) ≤ cutI old 25 18 ∧ cutI old 25 (18 : Int) ≤ (1000000 : Int)) (Tr.pre True (Tr.pre True (Tr.ret (bif bif fitI (cutI old 0 10) 10 then bif fitI nxt 9 then bif fitI 0 5 then fitI (newerI (cutI old 25 18)) 18 else false else false else false then putV (cutI old 0 10) nxt mark 0 (newerI (cutI old 25 18)) else 0)))))))
def planWF (now : Bool) (code : Int) (okk : Bool) (val : Int) (addr : Int) (old : Int) (nxt : Int) (mark : Bool) (pops : Int) : Int := (planWT now code okk val addr old nxt mark pops).val
def planWOk (now : Bool) (code : Int) (okk : Bool) (val : Int) (addr : Int) (old : Int) (nxt : Int) (mark : Bool) (pops : Int) : Prop := (planWT now code okk val addr old nxt mark pops).ok
def planWS : Spec Ob := fun args h => match args, h with
  | [.agg [.bool now, .int .i64 code, .bool okk, .int .i64 val, .int .i64 addr, .int .u64 old, .int .i64 nxt, .bool mark, .int .i64 pops]], [] => some (.pre (planWOk now code okk val addr old nxt mark pops) (.ret (planWV (planWF now code okk val addr old nxt mark pops)) []))
  | _, _ => none
theorem planW_ok : Spec.ok (obI tbl) Tryz.prog 94 planWS := by
  intro args h o ho K hK
  unfold planWS at ho
  split at ho
  case h_2 => cases ho
  rename_i now code okk val addr old nxt mark pops
  simp only [Option.some.injEq] at ho; subst ho
  obtain ⟨ok, hK⟩ := hK
  refine CallOk.plainM (root := 0) (pos := []) (cs := []) planWP_ok ?_
  exact callOk_of (E := EB1) Tryz.checked.mixed (L := LL) (n := 10) (of_nf (q := (planWT now code okk val addr old nxt mark pops).run (fun y => (Out.ret (planWV y) []).run K)) (by kernel_rfl) (Tr.run_of ok hK))
def planCP (v : AVal) (g : Heap Ob) : Option (Prop × Bool) := match v, g with
  | .bool x, [] => some (True, x)
  | _, _ => none
def planCV (y : Bool) : AVal := .bool y
theorem planCP_ok : Reads (obI tbl) 0 planCP (fun y => .ret (planCV y) []) := by
  intro v g p x hp hq K hK
  unfold planCP at hp
  split at hp
  case h_2 => cases hp
  simp only [Option.some.injEq, Prod.mk.injEq] at hp
  obtain ⟨rfl, rfl⟩ := hp
  exact ⟨⟨_, _, Tells.refl _ _ _, hK⟩⟩
def planCT (now : Bool) (code : Int) (okk : Bool) (val : Int) (addr : Int) (old : Int) (nxt : Int) (mark : Bool) (pops : Int) : Tr (Bool) := Tr.ite (!now) (Tr.pre True (Tr.pre True (Tr.ret !ieq (cutI old 20 5) 0))) (Tr.pre True (Tr.ret false))
def planCF (now : Bool) (code : Int) (okk : Bool) (val : Int) (addr : Int) (old : Int) (nxt : Int) (mark : Bool) (pops : Int) : Bool := (planCT now code okk val addr old nxt mark pops).val
def planCOk (now : Bool) (code : Int) (okk : Bool) (val : Int) (addr : Int) (old : Int) (nxt : Int) (mark : Bool) (pops : Int) : Prop := (planCT now code okk val addr old nxt mark pops).ok
def planCS : Spec Ob := fun args h => match args, h with
  | [.agg [.bool now, .int .i64 code, .bool okk, .int .i64 val, .int .i64 addr, .int .u64 old, .int .i64 nxt, .bool mark, .int .i64 pops]], [] => some (.pre (planCOk now code okk val addr old nxt mark pops) (.ret (planCV (planCF now code okk val addr old nxt mark pops)) []))
  | _, _ => none
theorem planC_ok : Spec.ok (obI tbl) Tryz.prog 112 planCS := by
  intro args h o ho K hK
  unfold planCS at ho
  split at ho
  case h_2 => cases ho
  rename_i now code okk val addr old nxt mark pops
  simp only [Option.some.injEq] at ho; subst ho
  obtain ⟨ok, hK⟩ := hK
  refine CallOk.plainM (root := 0) (pos := []) (cs := []) planCP_ok ?_
  exact callOk_of (E := EB1) Tryz.checked.mixed (L := LL) (n := 10) (of_nf (q := (planCT now code okk val addr old nxt mark pops).run (fun y => (Out.ret (planCV y) []).run K)) (by kernel_rfl) (Tr.run_of ok hK))
def planDP (v : AVal) (g : Heap Ob) : Option (Prop × (Int × Int)) := match v, g with
  | .tup [.int .u64 x, .int .i64 e], [] => some (True, (x, e))
  | _, _ => none
def planDV (y : (Int × Int)) : AVal := .tup [.int .u64 y.1, .int .i64 y.2]
theorem planDP_ok : Reads (obI tbl) 0 planDP (fun y => .ret (planDV y) []) := by
  intro v g p x hp hq K hK
  unfold planDP at hp
  split at hp
  case h_2 => cases hp
  simp only [Option.some.injEq, Prod.mk.injEq] at hp
  obtain ⟨rfl, rfl⟩ := hp
  exact ⟨⟨_, _, Tells.refl _ _ _, hK⟩⟩
def planDT (now : Bool) (code : Int) (okk : Bool) (val : Int) (addr : Int) (old : Int) (nxt : Int) (mark : Bool) (pops : Int) (att : Int) : Tr ((Int × Int)) := Tr.ite now (Tr.pre True (Tr.ret (0, 5))) (Tr.pre True (Tr.pre True (Tr.pre True (Tr.ret (bif dOk att addr (cutI old 25 18) nxt 2 val then dPutV att addr (cutI old 25 18) nxt mark 2 val else 0, bif dOk att addr (cutI old 25 18) nxt 2 val then 0 else 2)))))
def planDF (now : Bool) (code : Int) (okk : Bool) (val : Int) (addr : Int) (old : Int) (nxt : Int) (mark : Bool) (pops : Int) (att : Int) : (Int × Int) := (planDT now code okk val addr old nxt mark pops att).val
def planDOk (now : Bool) (code : Int) (okk : Bool) (val : Int) (addr : Int) (old : Int) (nxt : Int) (mark : Bool) (pops : Int) (att : Int) : Prop := (planDT now code okk val addr old nxt mark pops att).ok
def planDS : Spec Ob := fun args h => match args, h with
  | [.agg [.bool now, .int .i64 code, .bool okk, .int .i64 val, .int .i64 addr, .int .u64 old, .int .i64 nxt, .bool mark, .int .i64 pops], .int .i64 att], [] => some (.pre (planDOk now code okk val addr old nxt mark pops att) (.ret (planDV (planDF now code okk val addr old nxt mark pops att)) []))
  | _, _ => none
theorem planD_ok : Spec.ok (obI tbl) Tryz.prog 174 planDS := by
  intro args h o ho K hK
  unfold planDS at ho
  split at ho
  case h_2 => cases ho
  rename_i now code okk val addr old nxt mark pops att
  simp only [Option.some.injEq] at ho; subst ho
  obtain ⟨ok, hK⟩ := hK
  refine CallOk.plainM (root := 0) (pos := []) (cs := []) planDP_ok ?_
  exact callOk_of (E := EB1) Tryz.checked.mixed (L := LL) (n := 10) (of_nf (q := (planDT now code okk val addr old nxt mark pops att).run (fun y => (Out.ret (planDV y) []).run K)) (by kernel_rfl) (Tr.run_of ok hK))
noncomputable def EB2 := (((EB1.addS 111 planS plan_ok).addS 94 planWS planW_ok).addS 112 planCS planC_ok).addS 174 planDS planD_ok
end Go.Sh

namespace Go.Sh
open Go Go.Proofs
variable [Con]
abbrev enDC (x : ENS) : Entry Mc := .cells [.ptr 1 0, .bool x.sh, .top, .top, .bool x.dn]
theorem en_done {t n : Int} {x : ENS} {st : STS} {s : MS} : Tells (obI tbl) 4 (.bool true) [some (.abs (.ensure t n x) [1]), some (.abs (.store t n st) []), memC 3 s, memX s] (.bool true) [some (enDC x), some (.abs (.store t n st) []), memC 3 s, memX s] := by
  obtain ⟨ph, sh, dn, a, y⟩ := x
  match ph with
  | 0 => exact (Tells.unpack (.ensure t n ⟨0, sh, dn, a, y⟩) 0 1 (enG t n ⟨0, sh, dn, a, y⟩) [1] rfl rfl (by kernel_rfl) rfl).trans ((Tells.weak (topP_weak _ 0 [2, 3])).trans ((Tells.pick (upto 0 4) rfl).trans (Tells.eq (by kernel_rfl) (by kernel_rfl))))
  | 1 => exact (Tells.unpack (.ensure t n ⟨1, sh, dn, a, y⟩) 0 1 (enG t n ⟨1, sh, dn, a, y⟩) [1] rfl rfl (by kernel_rfl) rfl).trans ((Tells.weak (topP_weak _ 0 [2, 3])).trans ((Tells.pick (upto 0 4) rfl).trans (Tells.eq (by kernel_rfl) (by kernel_rfl))))
  | 2 => exact (Tells.unpack (.ensure t n ⟨2, sh, dn, a, y⟩) 0 1 (enG t n ⟨2, sh, dn, a, y⟩) [1] rfl rfl (by kernel_rfl) rfl).trans ((Tells.weak (topP_weak _ 0 [2, 3])).trans ((Tells.pick (upto 0 4) rfl).trans (Tells.eq (by kernel_rfl) (by kernel_rfl))))
  | 3 => exact (Tells.unpack (.ensure t n ⟨3, sh, dn, a, y⟩) 0 1 (enG t n ⟨3, sh, dn, a, y⟩) [1] rfl rfl (by kernel_rfl) rfl).trans ((Tells.weak (topP_weak _ 0 [2, 3])).trans ((Tells.pick (upto 0 4) rfl).trans (Tells.eq (by kernel_rfl) (by kernel_rfl))))
  | k + 4 => exact (Tells.unpack (.ensure t n ⟨k + 4, sh, dn, a, y⟩) 0 1 (enG t n ⟨k + 4, sh, dn, a, y⟩) [1] rfl rfl (by kernel_rfl) rfl).trans ((Tells.weak (topP_weak _ 0 [2, 3])).trans ((Tells.pick (upto 0 4) rfl).trans (Tells.eq (by kernel_rfl) (by kernel_rfl))))
def EO.fin (t n : Int) (y : EO) : Out Ob := .ite y.d (.ret (.bool true) [some (enDC y.e), some (.abs (.store t n y.st) []), memC 3 y.s, memX y.s]) (.ret (.bool false) [some (.abs (.ensure t n y.e) [1]), some (.abs (.store t n y.st) []), memC 3 y.s, memX y.s])
theorem en_stepA (t n : Int) (e : ENS) (st : STS) (s : MS) (K : AVal → Heap Ob → Prop) (ok : okE t n e st s) (hK : ((enF t n e st s).fin t n).run K) : CallOk (obI tbl) Tryz.prog 63 [.ptr 0 0, .ptr 2 0] (enH t n e st s) K := by
  refine CallOk.tells (en_step t n e st s _ ok ?_)
  show TellsK (obI tbl) 4 K (.bool (enF t n e st s).d) _
  generalize enF t n e st s = y at hK ⊢
  exact read2 hK (fun h => ⟨⟨_, _, en_done, h⟩⟩) (fun h => ⟨⟨_, _, Tells.refl _ _ _, h⟩⟩)
noncomputable def enSA : Spec Ob := fun args h => match args, h with
  | [.ptr 0 0, .ptr 2 0], [some (.abs (.ensure t n x) [1]), some (.abs (.store t2 n2 st) []), e3, e4] => (match memL 3 [e3, e4] with
    | some (l, s) => some (.pre ((l = s.xs.length ∧ t2 = t ∧ n2 = n) ∧ okE t n x st s) (EO.fin t n (enF t n x st s)))
    | none => none)
  | _, _ => none
theorem en_okA : Spec.ok (obI tbl) Tryz.prog 63 enSA := by
  intro args h o ho K hK
  unfold enSA at ho
  split at ho
  case h_2 => cases ho
  split at ho
  case h_2 => cases ho
  rename_i hm
  simp only [Option.some.injEq] at ho; subst ho
  obtain ⟨⟨⟨hl, rfl, rfl⟩, ok⟩, hK⟩ := hK
  have hh := memL_eq hm hl
  simp only [List.cons.injEq, and_true] at hh
  obtain ⟨rfl, rfl⟩ := hh
  exact en_stepA _ _ _ _ _ K ok hK
def EO.finB (t n : Int) (y : EO) : Out Ob := .ite y.d (.ret (.bool true) [some (enDC y.e), stC 5 t n y.st, none, memC 4 y.s, memX y.s, stX y.st]) (.ret (.bool false) [some (.abs (.ensure t n y.e) [1]), stC 5 t n y.st, none, memC 4 y.s, memX y.s, stX y.st])
noncomputable def enSB : Spec Ob := fun args h => match args, h with
  | [.ptr 0 0, .ptr 3 0], [some (.abs (.ensure t n x) [1]), e1, e2, e3, e4] => (match stL 2 [e1, e2], memL 4 [e3, e4] with
    | some (l2, t2, n2, st), some (l, s) => some (.pre ((l = s.xs.length ∧ l2 = st.R.length ∧ t2 = t ∧ n2 = n) ∧ okE t n x st s) (EO.finB t n (enF t n x st s)))
    | _, _ => none)
  | _, _ => none
theorem en_okB : Spec.ok (obI tbl) Tryz.prog 63 enSB := by
  intro args h o ho K hK
  unfold enSB at ho
  split at ho
  case h_2 => cases ho
  split at ho
  case h_2 => cases ho
  rename_i hs hm
  simp only [Option.some.injEq] at ho; subst ho
  obtain ⟨⟨⟨hl, hl2, rfl, rfl⟩, ok⟩, hK⟩ := hK
  have hh := memL_eq hm hl
  simp only [List.cons.injEq, and_true] at hh
  obtain ⟨rfl, rfl⟩ := hh
  have hh := stL_eq hs hl2
  simp only [List.cons.injEq, and_true] at hh
  obtain ⟨rfl, rfl⟩ := hh
  exact storeForm (fun ι hι => by simp [Entry.ren, AVal.renL, AVal.ren, hι]) (fun ι hι => by simp [Entry.ren, hι]) (fun K hK => en_stepA _ _ _ _ _ K ok hK) K hK
noncomputable def enS2 : Spec Ob := Spec.or enSA enSB
theorem en_ok2 : Spec.ok (obI tbl) Tryz.prog 63 enS2 := Spec.or_ok en_okA en_okB
abbrev swDC (x : SWS) : Entry Mc := .cells [.ptr 1 0, .top]
theorem sw_done {t n : Int} {x : SWS} {st : STS} {s : MS} : Tells (obI tbl) 4 (.bool true) [some (.abs (.sweep t n x) [1]), some (.abs (.store t n st) []), memC 3 s, memX s] (.bool true) [some (swDC x), some (.abs (.store t n st) []), memC 3 s, memX s] := by
  obtain ⟨ph, N, m, i, ks, fs, gs, j, l⟩ := x
  match ph with
  | 0 => exact (Tells.unpack (.sweep t n ⟨0, N, m, i, ks, fs, gs, j, l⟩) 0 1 (swG t n ⟨0, N, m, i, ks, fs, gs, j, l⟩) [1] rfl rfl (by kernel_rfl) rfl).trans ((Tells.weak (topP_weak _ 0 [1])).trans ((Tells.pick (upto 0 4) rfl).trans (Tells.eq (by kernel_rfl) (by kernel_rfl))))
  | 1 => exact (Tells.unpack (.sweep t n ⟨1, N, m, i, ks, fs, gs, j, l⟩) 0 1 (swG t n ⟨1, N, m, i, ks, fs, gs, j, l⟩) [1] rfl rfl (by kernel_rfl) rfl).trans ((Tells.weak (topP_weak _ 0 [1])).trans ((Tells.pick (upto 0 4) rfl).trans (Tells.eq (by kernel_rfl) (by kernel_rfl))))
  | 2 => exact (Tells.unpack (.sweep t n ⟨2, N, m, i, ks, fs, gs, j, l⟩) 0 1 (swG t n ⟨2, N, m, i, ks, fs, gs, j, l⟩) [1] rfl rfl (by kernel_rfl) rfl).trans ((Tells.weak (topP_weak _ 0 [1])).trans ((Tells.pick (upto 0 4) rfl).trans (Tells.eq (by kernel_rfl) (by kernel_rfl))))
  | k + 3 => exact (Tells.unpack (.sweep t n ⟨k + 3, N, m, i, ks, fs, gs, j, l⟩) 0 1 (swG t n ⟨k + 3, N, m, i, ks, fs, gs, j, l⟩) [1] rfl rfl (by kernel_rfl) rfl).trans ((Tells.weak (topP_weak _ 0 [1])).trans ((Tells.pick (upto 0 4) rfl).trans (Tells.eq (by kernel_rfl) (by kernel_rfl))))
def SO.fin (t n : Int) (y : SO) : Out Ob := .ite y.d (.ret (.bool true) [some (swDC y.e), some (.abs (.store t n y.st) []), memC 3 y.s, memX y.s]) (.ret (.bool false) [some (.abs (.sweep t n y.e) [1]), some (.abs (.store t n y.st) []), memC 3 y.s, memX y.s])
theorem sw_stepA (t n : Int) (e : SWS) (st : STS) (s : MS) (K : AVal → Heap Ob → Prop) (ok : okSwp t n e st s) (hK : ((swF t n e st s).fin t n).run K) : CallOk (obI tbl) Tryz.prog 100 [.ptr 0 0, .ptr 2 0] (swH t n e st s) K := by
  refine CallOk.tells (sw_step t n e st s _ ok ?_)
  show TellsK (obI tbl) 4 K (.bool (swF t n e st s).d) _
  generalize swF t n e st s = y at hK ⊢
  exact read2 hK (fun h => ⟨⟨_, _, sw_done, h⟩⟩) (fun h => ⟨⟨_, _, Tells.refl _ _ _, h⟩⟩)
noncomputable def swSA : Spec Ob := fun args h => match args, h with
  | [.ptr 0 0, .ptr 2 0], [some (.abs (.sweep t n x) [1]), some (.abs (.store t2 n2 st) []), e3, e4] => (match memL 3 [e3, e4] with
    | some (l, s) => some (.pre ((l = s.xs.length ∧ t2 = t ∧ n2 = n) ∧ okSwp t n x st s) (SO.fin t n (swF t n x st s)))
    | none => none)
  | _, _ => none
theorem sw_okA : Spec.ok (obI tbl) Tryz.prog 100 swSA := by
  intro args h o ho K hK
  unfold swSA at ho
  split at ho
  case h_2 => cases ho
  split at ho
  case h_2 => cases ho
  rename_i hm
  simp only [Option.some.injEq] at ho; subst ho
  obtain ⟨⟨⟨hl, rfl, rfl⟩, ok⟩, hK⟩ := hK
  have hh := memL_eq hm hl
  simp only [List.cons.injEq, and_true] at hh
  obtain ⟨rfl, rfl⟩ := hh
  exact sw_stepA _ _ _ _ _ K ok hK
def SO.finB (t n : Int) (y : SO) : Out Ob := .ite y.d (.ret (.bool true) [some (swDC y.e), stC 5 t n y.st, none, memC 4 y.s, memX y.s, stX y.st]) (.ret (.bool false) [some (.abs (.sweep t n y.e) [1]), stC 5 t n y.st, none, memC 4 y.s, memX y.s, stX y.st])
noncomputable def swSB : Spec Ob := fun args h => match args, h with
  | [.ptr 0 0, .ptr 3 0], [some (.abs (.sweep t n x) [1]), e1, e2, e3, e4] => (match stL 2 [e1, e2], memL 4 [e3, e4] with
    | some (l2, t2, n2, st), some (l, s) => some (.pre ((l = s.xs.length ∧ l2 = st.R.length ∧ t2 = t ∧ n2 = n) ∧ okSwp t n x st s) (SO.finB t n (swF t n x st s)))
    | _, _ => none)
  | _, _ => none
theorem sw_okB : Spec.ok (obI tbl) Tryz.prog 100 swSB := by
  intro args h o ho K hK
  unfold swSB at ho
  split at ho
  case h_2 => cases ho
  split at ho
  case h_2 => cases ho
  rename_i hs hm
  simp only [Option.some.injEq] at ho; subst ho
  obtain ⟨⟨⟨hl, hl2, rfl, rfl⟩, ok⟩, hK⟩ := hK
  have hh := memL_eq hm hl
  simp only [List.cons.injEq, and_true] at hh
  obtain ⟨rfl, rfl⟩ := hh
  have hh := stL_eq hs hl2
  simp only [List.cons.injEq, and_true] at hh
  obtain ⟨rfl, rfl⟩ := hh
  exact storeForm (fun ι hι => by simp [Entry.ren, AVal.renL, AVal.ren, hι]) (fun ι hι => by simp [Entry.ren, hι]) (fun K hK => sw_stepA _ _ _ _ _ K ok hK) K hK
noncomputable def swSC : Spec Ob := Spec.or swSA swSB
theorem sw_ok2 : Spec.ok (obI tbl) Tryz.prog 100 swSC := Spec.or_ok sw_okA sw_okB
def enNP (t n : Int) (v : AVal) (g : Heap Ob) : Option (Prop × STS) := match v, g with
  | .ptr 2 0, [e1, e2, some (.cells [.ptr 0 0, .bool false, .raw (.pointer none), .raw (.pointer none), .bool false])] => (match stL 1 [e1, e2] with
    | some (l2, t2, n2, st) => some (t2 = t ∧ n2 = n ∧ l2 = st.R.length, st)
    | none => none)
  | _, _ => none
abbrev enNH (t n : Int) (y : STS) : Heap Ob := [stC 1 t n y, stX y, some (.abs (.ensure t n ⟨0, false, false, ⟨0, 0, 0, 0, false⟩, ⟨0, [], [], 0, [], [], [], 0, 0⟩⟩) [0])]
theorem enNP_ok {t n : Int} : Reads (obI tbl) 2 (enNP t n) (fun y => .ret (.ptr 2 0) (enNH t n y)) := by
  intro v g p x hp hq K hK
  unfold enNP at hp
  split at hp
  case h_2 => cases hp
  split at hp
  case h_2 => cases hp
  rename_i l2 t2 n2 st hs
  simp only [Option.some.injEq, Prod.mk.injEq] at hp
  obtain ⟨rfl, rfl⟩ := hp
  obtain ⟨rfl, rfl, hl2⟩ := hq
  have hh := stL_eq hs hl2
  simp only [List.cons.injEq, and_true] at hh
  obtain ⟨rfl, rfl⟩ := hh
  exact ⟨⟨_, _, Tells.pack (enNH t2 n2 st) (.ensure t2 n2 ⟨0, false, false, ⟨0, 0, 0, 0, false⟩, ⟨0, [], [], 0, [], [], [], 0, 0⟩⟩) 2 1 (enG t2 n2 ⟨0, false, false, ⟨0, 0, 0, 0, false⟩, ⟨0, [], [], 0, [], [], [], 0, 0⟩⟩) [0] (by kernel_rfl) rfl rfl (by kernel_rfl), hK⟩⟩
def enNT (t n : Int) (st : STS) : Tr STS := Tr.pre (t = t ∧ n = n ∧ List.length st.3 = List.length st.3) (Tr.ret { me := st.1, sp := st.2, R := st.3 })
def enNS : Spec Ob := fun args h => match args, h with
  | [.ptr 0 0], [e1, e2] => (match stL 1 [e1, e2] with
    | some (l2, t, n, st) => some (.pre (l2 = st.R.length ∧ (enNT t n st).ok) (.ret (.ptr 2 0) (enNH t n (enNT t n st).val)))
    | none => none)
  | _, _ => none
theorem enN_ok : Spec.ok (obI tbl) Tryz.prog 62 enNS := by
  intro args h o ho K hK
  unfold enNS at ho
  split at ho
  case h_2 => cases ho
  split at ho
  case h_2 => cases ho
  rename_i l2 t n st hs
  simp only [Option.some.injEq] at ho; subst ho
  obtain ⟨⟨hl2, ok⟩, hK⟩ := hK
  have hh := stL_eq hs hl2
  simp only [List.cons.injEq, and_true] at hh
  obtain ⟨rfl, rfl⟩ := hh
  refine CallOk.plainM (root := 2) (pos := []) (cs := []) (parse := enNP t n) enNP_ok ?_
  exact callOk_of (E := EB2) Tryz.checked.mixed (L := LL) (n := 10) (of_nf (q := (enNT t n st).run (fun y => (Out.ret (.ptr 2 0) (enNH t n y)).run K)) (by kernel_rfl) (Tr.run_of ok hK))
def swNP (t n : Int) (v : AVal) (g : Heap Ob) : Option (Prop × STS) := match v, g with
  | .ptr 2 0, [e1, e2, some (.cells [.ptr 0 0, .raw (.pointer none)])] => (match stL 1 [e1, e2] with
    | some (l2, t2, n2, st) => some (t2 = t ∧ n2 = n ∧ l2 = st.R.length, st)
    | none => none)
  | _, _ => none
abbrev swNH (t n : Int) (y : STS) : Heap Ob := [stC 1 t n y, stX y, some (.abs (.sweep t n ⟨0, [], [], 0, [], [], [], 0, 0⟩) [0])]
theorem swNP_ok {t n : Int} : Reads (obI tbl) 2 (swNP t n) (fun y => .ret (.ptr 2 0) (swNH t n y)) := by
  intro v g p x hp hq K hK
  unfold swNP at hp
  split at hp
  case h_2 => cases hp
  split at hp
  case h_2 => cases hp
  rename_i l2 t2 n2 st hs
  simp only [Option.some.injEq, Prod.mk.injEq] at hp
  obtain ⟨rfl, rfl⟩ := hp
  obtain ⟨rfl, rfl, hl2⟩ := hq
  have hh := stL_eq hs hl2
  simp only [List.cons.injEq, and_true] at hh
  obtain ⟨rfl, rfl⟩ := hh
  exact ⟨⟨_, _, Tells.pack (swNH t2 n2 st) (.sweep t2 n2 ⟨0, [], [], 0, [], [], [], 0, 0⟩) 2 1 (swG t2 n2 ⟨0, [], [], 0, [], [], [], 0, 0⟩) [0] (by kernel_rfl) rfl rfl (by kernel_rfl), hK⟩⟩
def swNT (t n : Int) (st : STS) : Tr STS := Tr.pre (t = t ∧ n = n ∧ List.length st.3 = List.length st.3) (Tr.ret { me := st.1, sp := st.2, R := st.3 })
def swNS : Spec Ob := fun args h => match args, h with
  | [.ptr 0 0], [e1, e2] => (match stL 1 [e1, e2] with
    | some (l2, t, n, st) => some (.pre (l2 = st.R.length ∧ (swNT t n st).ok) (.ret (.ptr 2 0) (swNH t n (swNT t n st).val)))
    | none => none)
  | _, _ => none
theorem swN_ok : Spec.ok (obI tbl) Tryz.prog 86 swNS := by
  intro args h o ho K hK
  unfold swNS at ho
  split at ho
  case h_2 => cases ho
  split at ho
  case h_2 => cases ho
  rename_i l2 t n st hs
  simp only [Option.some.injEq] at ho; subst ho
  obtain ⟨⟨hl2, ok⟩, hK⟩ := hK
  have hh := stL_eq hs hl2
  simp only [List.cons.injEq, and_true] at hh
  obtain ⟨rfl, rfl⟩ := hh
  refine CallOk.plainM (root := 2) (pos := []) (cs := []) (parse := swNP t n) swNP_ok ?_
  exact callOk_of (E := EB2) Tryz.checked.mixed (L := LL) (n := 10) (of_nf (q := (swNT t n st).run (fun y => (Out.ret (.ptr 2 0) (swNH t n y)).run K)) (by kernel_rfl) (Tr.run_of ok hK))
noncomputable def EB3 := (((EB2.addS 63 enS2 en_ok2).addS 100 swSC sw_ok2).addS 62 enNS enN_ok).addS 86 swNS swN_ok
end Go.Sh

namespace Go.Sh
open Go Go.Proofs
variable [Con]
structure ClO where
  d : Bool
  x : CLS
  s : MS
instance : Inhabited ClO := ⟨⟨false, ⟨0, 0, 0, 0⟩, ⟨0, 0, [], 0, 0, 0, 0, 0, false⟩⟩⟩
instance : Inhabited CLS := ⟨⟨0, 0, 0, 0⟩⟩
abbrev clH (t n : Int) (x : CLS) (s : MS) : Heap Ob := [some (.abs (.clear t n x) []), memC 2 s, memX s]
abbrev clD (t n : Int) (x : CLS) (s : MS) : Heap Ob := [some (.cells [.int .i64 t, .int .i64 n, .int .i64 x.addr, .int .i64 x.at', .int .u64 x.word, .int .u64 x.found]), memC 2 s, memX s]
def ClO.fin (t n : Int) (y : ClO) : Out Ob := .ite y.d (.ret (.bool true) (clD t n y.x y.s)) (.ret (.bool false) (clH t n y.x y.s))
def clP0 (t n : Int) (v : AVal) (g : Heap Ob) : Option (Prop × ClO) := match v, g with
  | .bool d, [some (.cells [.int .i64 t1, .int .i64 n1, .int .i64 addr, .int .i64 at', .int .u64 word, .int .u64 found]), e1, e2] => (match memL 2 [e1, e2] with
    | some (l, s) => some ((t1 = t ∧ n1 = n) ∧ l = s.xs.length, ⟨d, ⟨addr, at', word, found⟩, s⟩)
    | none => none)
  | _, _ => none
def clP (t n : Int) (v : AVal) (g : Heap Ob) : Option (Prop × ClO) := clP0 t n v g
theorem clP0_ok {t n : Int} : Reads (obI tbl) 3 (clP0 t n) (ClO.fin t n) := by
  intro v g p x hp hq K hK
  unfold clP0 at hp
  split at hp
  case h_2 => cases hp
  rename_i d t1 n1 addr at' word found e1 e2
  split at hp
  case h_2 => cases hp
  rename_i l s hm
  simp only [Option.some.injEq, Prod.mk.injEq] at hp
  obtain ⟨rfl, rfl⟩ := hp
  obtain ⟨⟨rfl, rfl⟩, hl⟩ := hq
  have hh := memL_eq hm hl
  simp only [List.cons.injEq, and_true] at hh
  obtain ⟨rfl, rfl⟩ := hh
  refine read2 hK (fun h => ?_) (fun h => ?_)
  · exact ⟨⟨_, _, Tells.refl _ _ _, h⟩⟩
  · exact ⟨⟨_, _, (Tells.pack (clH t1 n1 (⟨addr, at', word, found⟩ : CLS) s) (.clear t1 n1 (⟨addr, at', word, found⟩ : CLS)) 0 0 (clearG0 t1 n1 (⟨addr, at', word, found⟩ : CLS)) [] (by kernel_rfl) rfl (congrArg (Prod.mk 0) rfl) (by kernel_rfl)), h⟩⟩
theorem clP_ok {t n : Int} : Reads (obI tbl) 3 (clP t n) (ClO.fin t n) := by
  intro v g p x hp hq K hK
  unfold clP at hp
  exact clP0_ok v g p x hp hq K hK
def clT_0 (t n : Int) (x : CLS) (s : MS) : Tr ClO := Tr.pre (List.length s.3 = List.length s.3 ∧ (0 : Int) ≤ s.4 ∧ s.4 ≤ (4611686018427387904 : Int)) (Tr.pre True (Tr.ite (ilt (cutI (peek s.3 x.1) 20 5 - 1) 0) (Tr.pre ((t = t ∧ n = n) ∧ List.length s.3 = List.length s.3) (Tr.ret { d := true, x := { addr := x.1, at' := (1 : Int), word := peek s.3 x.1, found := x.4 }, s := { t := s.1, n := s.2, xs := s.3, c := s.4 + 1, k := (1 : Int), a := x.1, o := peek s.3 x.1, w := peek s.3 x.1, ok := inB s.3 x.1 } })) (Tr.pre ((t = t ∧ n = n) ∧ List.length s.3 = List.length s.3) (Tr.ret { d := ile t (cutI (peek s.3 x.1) 20 5 - 1), x := { addr := x.1, at' := (1 : Int), word := peek s.3 x.1, found := x.4 }, s := { t := s.1, n := s.2, xs := s.3, c := s.4 + 1, k := (1 : Int), a := x.1, o := peek s.3 x.1, w := peek s.3 x.1, ok := inB s.3 x.1 } }))))
theorem clT_0_sum (t n : Int) (x : CLS) (s : MS) (K : ClO → Prop) (h : (clT_0 t n x s).run K) : CallOk (obI tbl) Tryz.prog 90 [.ptr 0 0, .ptr 1 0] [some (.cells [.int .i64 t, .int .i64 n, .int .i64 x.addr, .int .i64 0, .int .u64 x.word, .int .u64 x.found]), memC 2 s, memX s] (LeafM 3 0 [] [] (clP t n) K) := by
  exact callOk_of (E := EB3) Tryz.checked.mixed (L := LL) (n := 10) (of_nf (q := (clT_0 t n x s).run K) (by kernel_rfl) h)
def clT_1 (t n : Int) (x : CLS) (s : MS) : Tr ClO := Tr.pre True (Tr.pre ((((0 : Int) ≤ t ∧ t ≤ (100000 : Int)) ∧ ((0 : Int) ≤ n ∧ n ≤ (100000 : Int)) ∧ (-1099511627776 : Int) ≤ cutI x.3 20 5 - 1 ∧ cutI x.3 20 5 - (1 : Int) ≤ (1099511627776 : Int)) ∧ True) (Tr.pre ((List.length s.3 = List.length s.3 ∧ (0 : Int) ≤ s.4 ∧ s.4 ≤ (4611686018427387904 : Int)) ∧ True) (Tr.pre True (Tr.ite (hasB [2] (cutI (peek s.3 (2 * n + 5 + 2 * t + 3 * (cutI x.3 20 5 - 1) + 2)) 49 3)) (Tr.ite (ieq (cutI (peek s.3 (2 * n + 5 + 2 * t + 3 * (cutI x.3 20 5 - 1) + 2)) 12 9) x.1) (Tr.pre True (Tr.ite (ieq (cutI (peek s.3 (2 * n + 5 + 2 * t + 3 * (cutI x.3 20 5 - 1) + 2)) 21 18) (cutI x.3 25 18)) (Tr.pre ((t = t ∧ n = n) ∧ List.length s.3 = List.length s.3) (Tr.ret { d := false, x := { addr := x.1, at' := (2 : Int), word := x.3, found := peek s.3 (2 * n + 5 + 2 * t + 3 * (cutI x.3 20 5 - 1) + 2) }, s := { t := s.1, n := s.2, xs := s.3, c := s.4 + 1, k := (1 : Int), a := (2 : Int) * n + 5 + 2 * t + 3 * (cutI x.3 20 5 - 1) + 2, o := peek s.3 (2 * n + 5 + 2 * t + 3 * (cutI x.3 20 5 - 1) + 2), w := peek s.3 (2 * n + 5 + 2 * t + 3 * (cutI x.3 20 5 - 1) + 2), ok := inB s.3 (2 * n + 5 + 2 * t + 3 * (cutI x.3 20 5 - 1) + 2) } })) (Tr.pre ((t = t ∧ n = n) ∧ List.length s.3 = List.length s.3) (Tr.ret { d := false, x := { addr := x.1, at' := (3 : Int), word := x.3, found := peek s.3 (2 * n + 5 + 2 * t + 3 * (cutI x.3 20 5 - 1) + 2) }, s := { t := s.1, n := s.2, xs := s.3, c := s.4 + 1, k := (1 : Int), a := (2 : Int) * n + 5 + 2 * t + 3 * (cutI x.3 20 5 - 1) + 2, o := peek s.3 (2 * n + 5 + 2 * t + 3 * (cutI x.3 20 5 - 1) + 2), w := peek s.3 (2 * n + 5 + 2 * t + 3 * (cutI x.3 20 5 - 1) + 2), ok := inB s.3 (2 * n + 5 + 2 * t + 3 * (cutI x.3 20 5 - 1) + 2) } })))) (Tr.pre ((t = t ∧ n = n) ∧ List.length s.3 = List.length s.3) (Tr.ret { d := false, x := { addr := x.1, at' := (3 : Int), word := x.3, found := peek s.3 (2 * n + 5 + 2 * t + 3 * (cutI x.3 20 5 - 1) + 2) }, s := { t := s.1, n := s.2, xs := s.3, c := s.4 + 1, k := (1 : Int), a := (2 : Int) * n + 5 + 2 * t + 3 * (cutI x.3 20 5 - 1) + 2, o := peek s.3 (2 * n + 5 + 2 * t + 3 * (cutI x.3 20 5 - 1) + 2), w := peek s.3 (2 * n + 5 + 2 * t + 3 * (cutI x.3 20 5 - 1) + 2), ok := inB s.3 (2 * n + 5 + 2 * t + 3 * (cutI x.3 20 5 - 1) + 2) } }))) (Tr.pre ((t = t ∧ n = n) ∧ List.length s.3 = List.length s.3) (Tr.ret { d := false, x := { addr := x.1, at' := (3 : Int), word := x.3, found := peek s.3 (2 * n + 5 + 2 * t + 3 * (cutI x.3 20 5 - 1) + 2) }, s := { t := s.1, n := s.2, xs := s.3, c := s.4 + 1, k := (1 : Int), a := (2 : Int) * n + 5 + 2 * t + 3 * (cutI x.3 20 5 - 1) + 2, o := peek s.3 (2 * n + 5 + 2 * t + 3 * (cutI x.3 20 5 - 1) + 2), w := peek s.3 (2 * n + 5 + 2 * t + 3 * (cutI x.3 20 5 - 1) + 2), ok := inB s.3 (2 * n + 5 + 2 * t + 3 * (cutI x.3 20 5 - 1) + 2) } }))))))
theorem clT_1_sum (t n : Int) (x : CLS) (s : MS) (K : ClO → Prop) (h : (clT_1 t n x s).run K) : CallOk (obI tbl) Tryz.prog 90 [.ptr 0 0, .ptr 1 0] [some (.cells [.int .i64 t, .int .i64 n, .int .i64 x.addr, .int .i64 1, .int .u64 x.word, .int .u64 x.found]), memC 2 s, memX s] (LeafM 3 0 [] [] (clP t n) K) := by
  exact callOk_of (E := EB3) Tryz.checked.mixed (L := LL) (n := 10) (of_nf (q := (clT_1 t n x s).run K) (by kernel_rfl) h)
def clT_2 (t n : Int) (x : CLS) (s : MS) : Tr ClO := Tr.pre True (Tr.pre True (Tr.pre True (Tr.pre True (Tr.pre ((((0 : Int) ≤ t ∧ t ≤ (100000 : Int)) ∧ ((0 : Int) ≤ n ∧ n ≤ (100000 : Int)) ∧ (-1099511627776 : Int) ≤ cutI x.3 20 5 - 1 ∧ cutI x.3 20 5 - (1 : Int) ≤ (1099511627776 : Int)) ∧ True) (Tr.pre ((List.length s.3 = List.length s.3 ∧ (0 : Int) ≤ s.4 ∧ s.4 ≤ (4611686018427387904 : Int)) ∧ True) (Tr.pre ((t = t ∧ n = n) ∧ List.length (bif casB s.3 (2 * n + 5 + 2 * t + 3 * (cutI x.3 20 5 - 1) + 2) x.4 then putI s.3 (2 * n + 5 + 2 * t + 3 * (cutI x.3 20 5 - 1) + 2) (bif dOk (cutI x.4 0 12) (cutI x.4 12 9) (cutI x.4 21 18) (cutI x.4 39 9) 3 (cutI x.4 52 10) then dPutV (cutI x.4 0 12) (cutI x.4 12 9) (cutI x.4 21 18) (cutI x.4 39 9) (ieq (cutI x.4 48 1) 1) 3 (cutI x.4 52 10) else 0) else s.3) = List.length (bif casB s.3 (2 * n + 5 + 2 * t + 3 * (cutI x.3 20 5 - 1) + 2) x.4 then putI s.3 (2 * n + 5 + 2 * t + 3 * (cutI x.3 20 5 - 1) + 2) (bif dOk (cutI x.4 0 12) (cutI x.4 12 9) (cutI x.4 21 18) (cutI x.4 39 9) 3 (cutI x.4 52 10) then dPutV (cutI x.4 0 12) (cutI x.4 12 9) (cutI x.4 21 18) (cutI x.4 39 9) (ieq (cutI x.4 48 1) 1) 3 (cutI x.4 52 10) else 0) else s.3)) (Tr.ret { d := false, x := { addr := x.1, at' := (3 : Int), word := x.3, found := x.4 }, s := { t := s.1, n := s.2, xs := bif casB s.3 (2 * n + 5 + 2 * t + 3 * (cutI x.3 20 5 - 1) + 2) x.4 then putI s.3 (2 * n + 5 + 2 * t + 3 * (cutI x.3 20 5 - 1) + 2) (bif dOk (cutI x.4 0 12) (cutI x.4 12 9) (cutI x.4 21 18) (cutI x.4 39 9) 3 (cutI x.4 52 10) then dPutV (cutI x.4 0 12) (cutI x.4 12 9) (cutI x.4 21 18) (cutI x.4 39 9) (ieq (cutI x.4 48 1) 1) 3 (cutI x.4 52 10) else 0) else s.3, c := s.4 + 1, k := (3 : Int), a := (2 : Int) * n + 5 + 2 * t + 3 * (cutI x.3 20 5 - 1) + 2, o := peek s.3 (2 * n + 5 + 2 * t + 3 * (cutI x.3 20 5 - 1) + 2), w := bif inB s.3 (2 * n + 5 + 2 * t + 3 * (cutI x.3 20 5 - 1) + 2) then bif dOk (cutI x.4 0 12) (cutI x.4 12 9) (cutI x.4 21 18) (cutI x.4 39 9) 3 (cutI x.4 52 10) then dPutV (cutI x.4 0 12) (cutI x.4 12 9) (cutI x.4 21 18) (cutI x.4 39 9) (ieq (cutI x.4 48 1) 1) 3 (cutI x.4 52 10) else 0 else 0, ok := casB s.3 (2 * n + 5 + 2 * t + 3 * (cutI x.3 20 5 - 1) + 2) x.4 } })))))))
theorem clT_2_sum (t n : Int) (x : CLS) (s : MS) (K : ClO → Prop) (h : (clT_2 t n x s).run K) : CallOk (obI tbl) Tryz.prog 90 [.ptr 0 0, .ptr 1 0] [some (.cells [.int .i64 t, .int .i64 n, .int .i64 x.addr, .int .i64 2, .int .u64 x.word, .int .u64 x.found]), memC 2 s, memX s] (LeafM 3 0 [] [] (clP t n) K) := by
  exact callOk_of (E := EB3) Tryz.checked.mixed (L := LL) (n := 10) (of_nf (q := (clT_2 t n x s).run K) (by kernel_rfl) h)
def clT_3 (t n : Int) (x : CLS) (s : MS) : Tr ClO := Tr.pre True (Tr.pre ((0 : Int) ≤ cutI x.3 25 18 ∧ cutI x.3 25 (18 : Int) ≤ (1000000 : Int)) (Tr.pre True (Tr.pre ((List.length s.3 = List.length s.3 ∧ (0 : Int) ≤ s.4 ∧ s.4 ≤ (4611686018427387904 : Int)) ∧ True) (Tr.pre ((t = t ∧ n = n) ∧ List.length (bif casB s.3 x.1 x.3 then putI s.3 x.1 (bif bif fitI (cutI x.3 0 10) 10 then bif fitI (cutI x.3 10 9) 9 then bif fitI 0 5 then fitI (newerI (cutI x.3 25 18)) 18 else false else false else false then putV (cutI x.3 0 10) (cutI x.3 10 9) (ieq (cutI x.3 19 1) 1) 0 (newerI (cutI x.3 25 18)) else 0) else s.3) = List.length (bif casB s.3 x.1 x.3 then putI s.3 x.1 (bif bif fitI (cutI x.3 0 10) 10 then bif fitI (cutI x.3 10 9) 9 then bif fitI 0 5 then fitI (newerI (cutI x.3 25 18)) 18 else false else false else false then putV (cutI x.3 0 10) (cutI x.3 10 9) (ieq (cutI x.3 19 1) 1) 0 (newerI (cutI x.3 25 18)) else 0) else s.3)) (Tr.ret { d := true, x := { addr := x.1, at' := (3 : Int), word := x.3, found := x.4 }, s := { t := s.1, n := s.2, xs := bif casB s.3 x.1 x.3 then putI s.3 x.1 (bif bif fitI (cutI x.3 0 10) 10 then bif fitI (cutI x.3 10 9) 9 then bif fitI 0 5 then fitI (newerI (cutI x.3 25 18)) 18 else false else false else false then putV (cutI x.3 0 10) (cutI x.3 10 9) (ieq (cutI x.3 19 1) 1) 0 (newerI (cutI x.3 25 18)) else 0) else s.3, c := s.4 + 1, k := (3 : Int), a := x.1, o := peek s.3 x.1, w := bif inB s.3 x.1 then bif bif fitI (cutI x.3 0 10) 10 then bif fitI (cutI x.3 10 9) 9 then bif fitI 0 5 then fitI (newerI (cutI x.3 25 18)) 18 else false else false else false then putV (cutI x.3 0 10) (cutI x.3 10 9) (ieq (cutI x.3 19 1) 1) 0 (newerI (cutI x.3 25 18)) else 0 else 0, ok := casB s.3 x.1 x.3 } })))))
theorem clT_3_sum (t n : Int) (x : CLS) (s : MS) (K : ClO → Prop) (h : (clT_3 t n x s).run K) : CallOk (obI tbl) Tryz.prog 90 [.ptr 0 0, .ptr 1 0] [some (.cells [.int .i64 t, .int .i64 n, .int .i64 x.addr, .int .i64 3, .int .u64 x.word, .int .u64 x.found]), memC 2 s, memX s] (LeafM 3 0 [] [] (clP t n) K) := by
  exact callOk_of (E := EB3) Tryz.checked.mixed (L := LL) (n := 10) (of_nf (q := (clT_3 t n x s).run K) (by kernel_rfl) h)
def clT (t n : Int) (x : CLS) (s : MS) : Tr ClO :=
  bif ieq x.at' 0 then clT_0 t n x s else
  bif ieq x.at' 1 then clT_1 t n x s else
  bif ieq x.at' 2 then clT_2 t n x s else
  bif ieq x.at' 3 then clT_3 t n x s else .pre False (.ret default)
def clF (t n : Int) (x : CLS) (s : MS) : ClO := (clT t n x s).val
def clOk (t n : Int) (x : CLS) (s : MS) : Prop := (clT t n x s).ok
theorem cl_step (t n : Int) (x : CLS) (s : MS) (K : AVal → Heap Ob → Prop) (h : (clT t n x s).run (fun y => (ClO.fin t n y).run K)) : CallOk (obI tbl) Tryz.prog 90 [.ptr 0 0, .ptr 1 0] (clH t n x s) K := by
  unfold clT at h
  by_cases e : x.at' = 0
  · rw [e] at h
    have h : (clT_0 t n x s).run _ := h
    refine CallOk.openM (root := 0) (pos := []) (cs := []) (parse := clP t n) (fin := ClO.fin t n) clP_ok (Opens.unpack (.clear t n x) 0 0 (clearG0 t n x) [] rfl (congrArg (Prod.mk 0) rfl) (by kernel_rfl) rfl) ?_
    have q := clT_0_sum t n x s _ h
    rw [← e] at q
    exact q
  rw [ieq_n e] at h
  by_cases e : x.at' = 1
  · rw [e] at h
    have h : (clT_1 t n x s).run _ := h
    refine CallOk.openM (root := 0) (pos := []) (cs := []) (parse := clP t n) (fin := ClO.fin t n) clP_ok (Opens.unpack (.clear t n x) 0 0 (clearG0 t n x) [] rfl (congrArg (Prod.mk 0) rfl) (by kernel_rfl) rfl) ?_
    have q := clT_1_sum t n x s _ h
    rw [← e] at q
    exact q
  rw [ieq_n e] at h
  by_cases e : x.at' = 2
  · rw [e] at h
    have h : (clT_2 t n x s).run _ := h
    refine CallOk.openM (root := 0) (pos := []) (cs := []) (parse := clP t n) (fin := ClO.fin t n) clP_ok (Opens.unpack (.clear t n x) 0 0 (clearG0 t n x) [] rfl (congrArg (Prod.mk 0) rfl) (by kernel_rfl) rfl) ?_
    have q := clT_2_sum t n x s _ h
    rw [← e] at q
    exact q
  rw [ieq_n e] at h
  by_cases e : x.at' = 3
  · rw [e] at h
    have h : (clT_3 t n x s).run _ := h
    refine CallOk.openM (root := 0) (pos := []) (cs := []) (parse := clP t n) (fin := ClO.fin t n) clP_ok (Opens.unpack (.clear t n x) 0 0 (clearG0 t n x) [] rfl (congrArg (Prod.mk 0) rfl) (by kernel_rfl) rfl) ?_
    have q := clT_3_sum t n x s _ h
    rw [← e] at q
    exact q
  rw [ieq_n e] at h
  exact h.1.elim
noncomputable def clS : Spec Ob := fun args h => match args, h with
  | [.ptr 0 0, .ptr 1 0], [some (.abs (.clear t n x) []), e1, e2] => (match memL 2 [e1, e2] with
    | some (l, s) => some (.pre (l = s.xs.length ∧ clOk t n x s) (ClO.fin t n (clF t n x s)))
    | none => none)
  | _, _ => none
theorem cl_ok : Spec.ok (obI tbl) Tryz.prog 90 clS := by
  intro args h o ho K hK
  unfold clS at ho
  split at ho
  case h_2 => cases ho
  split at ho
  case h_2 => cases ho
  rename_i hm
  simp only [Option.some.injEq] at ho; subst ho
  obtain ⟨⟨hl, ok⟩, hK⟩ := hK
  have hh := memL_eq hm hl
  simp only [List.cons.injEq, and_true] at hh
  obtain ⟨rfl, rfl⟩ := hh
  exact cl_step _ _ _ _ K (Tr.run_of ok hK)
def clNP (t n : Int) (v : AVal) (g : Heap Ob) : Option (Prop × CLS) := match v, g with
  | .ptr 0 0, [some (.cells [.int .i64 t1, .int .i64 n1, .int .i64 addr, .int .i64 at', .int .u64 word, .int .u64 found])] => some ((t1 = t ∧ n1 = n), (⟨addr, at', word, found⟩ : CLS))
  | _, _ => none
abbrev clNH (t n : Int) (y : CLS) : Heap Ob := [some (.abs (.clear t n y) [])]
theorem clNP_ok {t n : Int} : Reads (obI tbl) 0 (clNP t n) (fun y => .ret (.ptr 0 0) (clNH t n y)) := by
  intro v g p x hp hq K hK
  unfold clNP at hp
  split at hp
  case h_2 => cases hp
  rename_i t1 n1 addr at' word found
  simp only [Option.some.injEq, Prod.mk.injEq] at hp
  obtain ⟨rfl, rfl⟩ := hp
  obtain ⟨rfl, rfl⟩ := hq
  exact ⟨⟨_, _, Tells.pack (clNH t1 n1 (⟨addr, at', word, found⟩ : CLS)) (.clear t1 n1 (⟨addr, at', word, found⟩ : CLS)) 0 0 (clearG0 t1 n1 (⟨addr, at', word, found⟩ : CLS)) [] (by kernel_rfl) rfl (congrArg (Prod.mk 0) rfl) (by kernel_rfl), hK⟩⟩
def clNT (t n : Int) (a : Int) : Tr CLS := Tr.pre (t = t ∧ n = n) (Tr.ret { addr := a, at' := (0 : Int), word := (0 : Int), found := (0 : Int) })
def clNF (t n : Int) (a : Int) : CLS := (clNT t n a).val
def clNOk (t n : Int) (a : Int) : Prop := (clNT t n a).ok
def clNS : Spec Ob := fun args h => match args, h with
  | [.agg [.int .i64 t, .int .i64 n], .int .i64 a], [] => some (.pre (clNOk t n a) (.ret (.ptr 0 0) (clNH t n (clNF t n a))))
  | _, _ => none
theorem clN_ok : Spec.ok (obI tbl) Tryz.prog 113 clNS := by
  intro args h o ho K hK
  unfold clNS at ho
  split at ho
  case h_2 => cases ho
  rename_i t n a
  simp only [Option.some.injEq] at ho; subst ho
  obtain ⟨ok, hK⟩ := hK
  refine CallOk.plainM (root := 0) (pos := []) (cs := []) (parse := clNP t n) clNP_ok ?_
  exact callOk_of (E := EB3) Tryz.checked.mixed (L := LL) (n := 10) (of_nf (q := (clNT t n a).run (fun y => (Out.ret (.ptr 0 0) (clNH t n y)).run K)) (by kernel_rfl) (Tr.run_of ok hK))
noncomputable def EC1 := ((EB3.addS 90 clS cl_ok).addS 113 clNS clN_ok)
end Go.Sh

namespace Go.Sh
open Go Go.Proofs
variable [Con]
noncomputable def EQ1 := ((EC1))
noncomputable def EQ2 := EQ1
end Go.Sh

namespace Go.Sh
open Go Go.Proofs
variable [Con]
noncomputable def EQ := EQ2
end Go.Sh

namespace Go.Sh
open Go Go.Proofs
variable [Con]
structure HdO where
  d : Bool
  x : HDS
  s : MS
instance : Inhabited HdO := ⟨⟨false, ⟨0, 0, 0, false⟩, ⟨0, 0, [], 0, 0, 0, 0, 0, false⟩⟩⟩
instance : Inhabited HDS := ⟨⟨0, 0, 0, false⟩⟩
abbrev hdH (t n : Int) (x : HDS) (s : MS) : Heap Ob := [some (.abs (.head t n x) []), memC 2 s, memX s]
abbrev hdD (t n : Int) (x : HDS) (s : MS) : Heap Ob := [some (.cells [.int .i64 t, .int .i64 n, .int .i64 x.u, .int .u64 x.no, .int .i64 x.at', .bool x.tk]), memC 2 s, memX s]
def HdO.fin (t n : Int) (y : HdO) : Out Ob := .ite y.d (.ret (.bool true) (hdD t n y.x y.s)) (.ret (.bool false) (hdH t n y.x y.s))
noncomputable def EC2 := ((EQ))
end Go.Sh

namespace Go.Sh
open Go Go.Proofs
variable [Con]
structure DrO where
  d : Bool
  x : DRS
  s : MS
instance : Inhabited DrO := ⟨⟨false, ⟨0, 0⟩, ⟨0, 0, [], 0, 0, 0, 0, 0, false⟩⟩⟩
instance : Inhabited DRS := ⟨⟨0, 0⟩⟩
abbrev drH (t n : Int) (x : DRS) (s : MS) : Heap Ob := [some (.abs (.drop t n x) []), memC 2 s, memX s]
abbrev drD (t n : Int) (x : DRS) (s : MS) : Heap Ob := [some (.cells [.int .i64 t, .int .i64 n, .int .i64 x.th, .int .i64 x.at']), memC 2 s, memX s]
def DrO.fin (t n : Int) (y : DrO) : Out Ob := .ite y.d (.ret (.bool true) (drD t n y.x y.s)) (.ret (.bool false) (drH t n y.x y.s))
noncomputable def EC3 := ((EC2))
end Go.Sh

namespace Go.Sh
open Go Go.Proofs
variable [Con]
structure AnO where
  d : Bool
  x : ANS
  s : MS
instance : Inhabited AnO := ⟨⟨false, ⟨0, 0, 0, 0, false, 0⟩, ⟨0, 0, [], 0, 0, 0, 0, 0, false⟩⟩⟩
instance : Inhabited ANS := ⟨⟨0, 0, 0, 0, false, 0⟩⟩
abbrev anH (t n : Int) (x : ANS) (s : MS) : Heap Ob := [some (.abs (.announce t n x) []), memC 2 s, memX s]
abbrev anD (t n : Int) (x : ANS) (s : MS) : Heap Ob := [some (.cells [.int .i64 t, .int .i64 n, .int .u64 x.no, .int .i64 x.me, .int .i64 x.at', .int .u64 x.bits, .bool x.wrong, .int .u64 x.found]), memC 2 s, memX s]
def AnO.fin (t n : Int) (y : AnO) : Out Ob := .ite y.d (.ret (.bool true) (anD t n y.x y.s)) (.ret (.bool false) (anH t n y.x y.s))
def anP0 (t n : Int) (v : AVal) (g : Heap Ob) : Option (Prop × AnO) := match v, g with
  | .bool d, [some (.cells [.int .i64 t1, .int .i64 n1, .int .u64 no, .int .i64 me, .int .i64 at', .int .u64 bits, .bool wrong, .int .u64 found]), e1, e2] => (match memL 2 [e1, e2] with
    | some (l, s) => some ((t1 = t ∧ n1 = n) ∧ l = s.xs.length, ⟨d, ⟨no, me, at', bits, wrong, found⟩, s⟩)
    | none => none)
  | _, _ => none
def anP (t n : Int) (v : AVal) (g : Heap Ob) : Option (Prop × AnO) := anP0 t n v g
theorem anP0_ok {t n : Int} : Reads (obI tbl) 3 (anP0 t n) (AnO.fin t n) := by
  intro v g p x hp hq K hK
  unfold anP0 at hp
  split at hp
  case h_2 => cases hp
  rename_i d t1 n1 no me at' bits wrong found e1 e2
  split at hp
  case h_2 => cases hp
  rename_i l s hm
  simp only [Option.some.injEq, Prod.mk.injEq] at hp
  obtain ⟨rfl, rfl⟩ := hp
  obtain ⟨⟨rfl, rfl⟩, hl⟩ := hq
  have hh := memL_eq hm hl
  simp only [List.cons.injEq, and_true] at hh
  obtain ⟨rfl, rfl⟩ := hh
  refine read2 hK (fun h => ?_) (fun h => ?_)
  · exact ⟨⟨_, _, Tells.refl _ _ _, h⟩⟩
  · exact ⟨⟨_, _, (Tells.pack (anH t1 n1 (⟨no, me, at', bits, wrong, found⟩ : ANS) s) (.announce t1 n1 (⟨no, me, at', bits, wrong, found⟩ : ANS)) 0 0 (announceG0 t1 n1 (⟨no, me, at', bits, wrong, found⟩ : ANS)) [] (by kernel_rfl) rfl (congrArg (Prod.mk 0) rfl) (by kernel_rfl)), h⟩⟩
theorem anP_ok {t n : Int} : Reads (obI tbl) 3 (anP t n) (AnO.fin t n) := by
  intro v g p x hp hq K hK
  unfold anP at hp
  exact anP0_ok v g p x hp hq K hK
def anT_0 (t n : Int) (x : ANS) (s : MS) : Tr AnO := Tr.ite x.5 (Tr.pre (List.length s.3 = List.length s.3 ∧ (0 : Int) ≤ s.4 ∧ s.4 ≤ (4611686018427387904 : Int)) (Tr.pre ((t = t ∧ n = n) ∧ List.length s.3 = List.length s.3) (Tr.ret { d := true, x := { no := x.1, me := x.2, at' := (0 : Int), bits := x.4, wrong := x.5, found := x.6 }, s := { t := s.1, n := s.2, xs := s.3, c := s.4 + 1, k := (1 : Int), a := (0 : Int), o := peek s.3 0, w := peek s.3 0, ok := inB s.3 0 } }))) (Tr.pre ((((0 : Int) ≤ t ∧ t ≤ (100000 : Int)) ∧ ((0 : Int) ≤ n ∧ n ≤ (100000 : Int)) ∧ (-1099511627776 : Int) ≤ x.2 ∧ x.2 ≤ (1099511627776 : Int)) ∧ True) (Tr.pre ((List.length s.3 = List.length s.3 ∧ (0 : Int) ≤ s.4 ∧ s.4 ≤ (4611686018427387904 : Int)) ∧ True) (Tr.pre ((t = t ∧ n = n) ∧ List.length (putI s.3 (2 * n + 5 + 2 * t + 3 * x.2 + 1) x.4) = List.length (putI s.3 (2 * n + 5 + 2 * t + 3 * x.2 + 1) x.4)) (Tr.ret { d := false, x := { no := x.1, me := x.2, at' := W (0 + 1), bits := x.4, wrong := x.5, found := x.6 }, s := { t := s.1, n := s.2, xs := putI s.3 (2 * n + 5 + 2 * t + 3 * x.2 + 1) x.4, c := s.4 + 1, k := (2 : Int), a := (2 : Int) * n + 5 + 2 * t + 3 * x.2 + 1, o := peek s.3 (2 * n + 5 + 2 * t + 3 * x.2 + 1), w := bif inB s.3 (2 * n + 5 + 2 * t + 3 * x.2 + 1) then x.4 else 0, ok := inB s.3 (2 * n + 5 + 2 * t + 3 * x.2 + 1) } }))))
theorem anT_0_sum (t n : Int) (x : ANS) (s : MS) (K : AnO → Prop) (h : (anT_0 t n x s).run K) : CallOk (obI tbl) Tryz.prog 189 [.ptr 0 0, .ptr 1 0] [some (.cells [.int .i64 t, .int .i64 n, .int .u64 x.no, .int .i64 x.me, .int .i64 0, .int .u64 x.bits, .bool x.wrong, .int .u64 x.found]), memC 2 s, memX s] (LeafM 3 0 [] [] (anP t n) K) := by
  exact callOk_of (E := EC3) Tryz.checked.mixed (L := LL) (n := 10) (of_nf (q := (anT_0 t n x s).run K) (by kernel_rfl) h)
def anT_1 (t n : Int) (x : ANS) (s : MS) : Tr AnO := Tr.ite x.5 (Tr.pre (List.length s.3 = List.length s.3 ∧ (0 : Int) ≤ s.4 ∧ s.4 ≤ (4611686018427387904 : Int)) (Tr.pre ((t = t ∧ n = n) ∧ List.length s.3 = List.length s.3) (Tr.ret { d := true, x := { no := x.1, me := x.2, at' := (1 : Int), bits := x.4, wrong := x.5, found := x.6 }, s := { t := s.1, n := s.2, xs := s.3, c := s.4 + 1, k := (1 : Int), a := (0 : Int), o := peek s.3 0, w := peek s.3 0, ok := inB s.3 0 } }))) (Tr.pre (((0 : Int) ≤ t ∧ t ≤ (100000 : Int)) ∧ (0 : Int) ≤ n ∧ n ≤ (100000 : Int)) (Tr.pre (List.length s.3 = List.length s.3 ∧ (0 : Int) ≤ s.4 ∧ s.4 ≤ (4611686018427387904 : Int)) (Tr.pre ((t = t ∧ n = n) ∧ List.length (putI s.3 (2 * n + 5 + 2 * t + 3 * t) (WU (peek s.3 (2 * n + 5 + 2 * t + 3 * t) + 1))) = List.length (putI s.3 (2 * n + 5 + 2 * t + 3 * t) (WU (peek s.3 (2 * n + 5 + 2 * t + 3 * t) + 1)))) (Tr.ret { d := false, x := { no := WU (peek s.3 (2 * n + 5 + 2 * t + 3 * t) + 1), me := x.2, at' := W (1 + 1), bits := x.4, wrong := x.5, found := x.6 }, s := { t := s.1, n := s.2, xs := putI s.3 (2 * n + 5 + 2 * t + 3 * t) (WU (peek s.3 (2 * n + 5 + 2 * t + 3 * t) + 1)), c := s.4 + 1, k := (4 : Int), a := (2 : Int) * n + 5 + 2 * t + 3 * t, o := peek s.3 (2 * n + 5 + 2 * t + 3 * t), w := bif inB s.3 (2 * n + 5 + 2 * t + 3 * t) then WU (peek s.3 (2 * n + 5 + 2 * t + 3 * t) + 1) else 0, ok := inB s.3 (2 * n + 5 + 2 * t + 3 * t) } }))))
theorem anT_1_sum (t n : Int) (x : ANS) (s : MS) (K : AnO → Prop) (h : (anT_1 t n x s).run K) : CallOk (obI tbl) Tryz.prog 189 [.ptr 0 0, .ptr 1 0] [some (.cells [.int .i64 t, .int .i64 n, .int .u64 x.no, .int .i64 x.me, .int .i64 1, .int .u64 x.bits, .bool x.wrong, .int .u64 x.found]), memC 2 s, memX s] (LeafM 3 0 [] [] (anP t n) K) := by
  exact callOk_of (E := EC3) Tryz.checked.mixed (L := LL) (n := 10) (of_nf (q := (anT_1 t n x s).run K) (by kernel_rfl) h)
def anT_2 (t n : Int) (x : ANS) (s : MS) : Tr AnO := Tr.ite x.5 (Tr.pre (List.length s.3 = List.length s.3 ∧ (0 : Int) ≤ s.4 ∧ s.4 ≤ (4611686018427387904 : Int)) (Tr.pre ((t = t ∧ n = n) ∧ List.length s.3 = List.length s.3) (Tr.ret { d := true, x := { no := x.1, me := x.2, at' := (2 : Int), bits := x.4, wrong := x.5, found := x.6 }, s := { t := s.1, n := s.2, xs := s.3, c := s.4 + 1, k := (1 : Int), a := (0 : Int), o := peek s.3 0, w := peek s.3 0, ok := inB s.3 0 } }))) (Tr.pre ((((0 : Int) ≤ t ∧ t ≤ (100000 : Int)) ∧ ((0 : Int) ≤ n ∧ n ≤ (100000 : Int)) ∧ (-1099511627776 : Int) ≤ x.2 ∧ x.2 ≤ (1099511627776 : Int)) ∧ True) (Tr.pre ((List.length s.3 = List.length s.3 ∧ (0 : Int) ≤ s.4 ∧ s.4 ≤ (4611686018427387904 : Int)) ∧ True) (Tr.pre ((t = t ∧ n = n) ∧ List.length (putI s.3 (2 * n + 5 + 2 * t + 3 * x.2) x.1) = List.length (putI s.3 (2 * n + 5 + 2 * t + 3 * x.2) x.1)) (Tr.ret { d := false, x := { no := x.1, me := x.2, at' := W (2 + 1), bits := x.4, wrong := x.5, found := x.6 }, s := { t := s.1, n := s.2, xs := putI s.3 (2 * n + 5 + 2 * t + 3 * x.2) x.1, c := s.4 + 1, k := (2 : Int), a := (2 : Int) * n + 5 + 2 * t + 3 * x.2, o := peek s.3 (2 * n + 5 + 2 * t + 3 * x.2), w := bif inB s.3 (2 * n + 5 + 2 * t + 3 * x.2) then x.1 else 0, ok := inB s.3 (2 * n + 5 + 2 * t + 3 * x.2) } }))))
theorem anT_2_sum (t n : Int) (x : ANS) (s : MS) (K : AnO → Prop) (h : (anT_2 t n x s).run K) : CallOk (obI tbl) Tryz.prog 189 [.ptr 0 0, .ptr 1 0] [some (.cells [.int .i64 t, .int .i64 n, .int .u64 x.no, .int .i64 x.me, .int .i64 2, .int .u64 x.bits, .bool x.wrong, .int .u64 x.found]), memC 2 s, memX s] (LeafM 3 0 [] [] (anP t n) K) := by
  exact callOk_of (E := EC3) Tryz.checked.mixed (L := LL) (n := 10) (of_nf (q := (anT_2 t n x s).run K) (by kernel_rfl) h)
def anT_3 (t n : Int) (x : ANS) (s : MS) : Tr AnO := Tr.ite x.5 (Tr.pre (List.length s.3 = List.length s.3 ∧ (0 : Int) ≤ s.4 ∧ s.4 ≤ (4611686018427387904 : Int)) (Tr.pre ((t = t ∧ n = n) ∧ List.length s.3 = List.length s.3) (Tr.ret { d := true, x := { no := x.1, me := x.2, at' := (3 : Int), bits := x.4, wrong := x.5, found := x.6 }, s := { t := s.1, n := s.2, xs := s.3, c := s.4 + 1, k := (1 : Int), a := (0 : Int), o := peek s.3 0, w := peek s.3 0, ok := inB s.3 0 } }))) (Tr.pre ((((0 : Int) ≤ t ∧ t ≤ (100000 : Int)) ∧ ((0 : Int) ≤ n ∧ n ≤ (100000 : Int)) ∧ (-1099511627776 : Int) ≤ x.2 ∧ x.2 ≤ (1099511627776 : Int)) ∧ True) (Tr.pre ((List.length s.3 = List.length s.3 ∧ (0 : Int) ≤ s.4 ∧ s.4 ≤ (4611686018427387904 : Int)) ∧ True) (Tr.pre ((t = t ∧ n = n) ∧ List.length s.3 = List.length s.3) (Tr.ret { d := false, x := { no := x.1, me := x.2, at' := W (3 + 1), bits := x.4, wrong := x.5, found := peek s.3 (2 * n + 5 + 2 * t + 3 * x.2 + 2) }, s := { t := s.1, n := s.2, xs := s.3, c := s.4 + 1, k := (1 : Int), a := (2 : Int) * n + 5 + 2 * t + 3 * x.2 + 2, o := peek s.3 (2 * n + 5 + 2 * t + 3 * x.2 + 2), w := peek s.3 (2 * n + 5 + 2 * t + 3 * x.2 + 2), ok := inB s.3 (2 * n + 5 + 2 * t + 3 * x.2 + 2) } }))))
theorem anT_3_sum (t n : Int) (x : ANS) (s : MS) (K : AnO → Prop) (h : (anT_3 t n x s).run K) : CallOk (obI tbl) Tryz.prog 189 [.ptr 0 0, .ptr 1 0] [some (.cells [.int .i64 t, .int .i64 n, .int .u64 x.no, .int .i64 x.me, .int .i64 3, .int .u64 x.bits, .bool x.wrong, .int .u64 x.found]), memC 2 s, memX s] (LeafM 3 0 [] [] (anP t n) K) := by
  exact callOk_of (E := EC3) Tryz.checked.mixed (L := LL) (n := 10) (of_nf (q := (anT_3 t n x s).run K) (by kernel_rfl) h)
def anT_4 (t n : Int) (x : ANS) (s : MS) : Tr AnO := Tr.ite x.5 (Tr.pre (List.length s.3 = List.length s.3 ∧ (0 : Int) ≤ s.4 ∧ s.4 ≤ (4611686018427387904 : Int)) (Tr.pre ((t = t ∧ n = n) ∧ List.length s.3 = List.length s.3) (Tr.ret { d := true, x := { no := x.1, me := x.2, at' := (4 : Int), bits := x.4, wrong := x.5, found := x.6 }, s := { t := s.1, n := s.2, xs := s.3, c := s.4 + 1, k := (1 : Int), a := (0 : Int), o := peek s.3 0, w := peek s.3 0, ok := inB s.3 0 } }))) (Tr.pre True (Tr.pre ((0 : Int) ≤ cutI x.6 0 12 ∧ cutI x.6 0 (12 : Int) ≤ (1000000 : Int)) (Tr.pre True (Tr.pre ((((0 : Int) ≤ t ∧ t ≤ (100000 : Int)) ∧ ((0 : Int) ≤ n ∧ n ≤ (100000 : Int)) ∧ (-1099511627776 : Int) ≤ x.2 ∧ x.2 ≤ (1099511627776 : Int)) ∧ True) (Tr.pre ((List.length s.3 = List.length s.3 ∧ (0 : Int) ≤ s.4 ∧ s.4 ≤ (4611686018427387904 : Int)) ∧ True) (Tr.pre ((t = t ∧ n = n) ∧ List.length (putI s.3 (2 * n + 5 + 2 * t + 3 * x.2 + 2) (bif dOk (attI (cutI x.6 0 12)) 0 0 0 1 0 then dPutV (attI (cutI x.6 0 12)) 0 0 0 false 1 0 else 0)) = List.length (putI s.3 (2 * n + 5 + 2 * t + 3 * x.2 + 2) (bif dOk (attI (cutI x.6 0 12)) 0 0 0 1 0 then dPutV (attI (cutI x.6 0 12)) 0 0 0 false 1 0 else 0))) (Tr.ret { d := true, x := { no := x.1, me := x.2, at' := W (4 + 1), bits := x.4, wrong := x.5, found := x.6 }, s := { t := s.1, n := s.2, xs := putI s.3 (2 * n + 5 + 2 * t + 3 * x.2 + 2) (bif dOk (attI (cutI x.6 0 12)) 0 0 0 1 0 then dPutV (attI (cutI x.6 0 12)) 0 0 0 false 1 0 else 0), c := s.4 + 1, k := (2 : Int), a := (2 : Int) * n + 5 + 2 * t + 3 * x.2 + 2, o := peek s.3 (2 * n + 5 + 2 * t + 3 * x.2 + 2), w := bif inB s.3 (2 * n + 5 + 2 * t + 3 * x.2 + 2) then bif dOk (attI (cutI x.6 0 12)) 0 0 0 1 0 then dPutV (attI (cutI x.6 0 12)) 0 0 0 false 1 0 else 0 else 0, ok := inB s.3 (2 * n + 5 + 2 * t + 3 * x.2 + 2) } })))))))
theorem anT_4_sum (t n : Int) (x : ANS) (s : MS) (K : AnO → Prop) (h : (anT_4 t n x s).run K) : CallOk (obI tbl) Tryz.prog 189 [.ptr 0 0, .ptr 1 0] [some (.cells [.int .i64 t, .int .i64 n, .int .u64 x.no, .int .i64 x.me, .int .i64 4, .int .u64 x.bits, .bool x.wrong, .int .u64 x.found]), memC 2 s, memX s] (LeafM 3 0 [] [] (anP t n) K) := by
  exact callOk_of (E := EC3) Tryz.checked.mixed (L := LL) (n := 10) (of_nf (q := (anT_4 t n x s).run K) (by kernel_rfl) h)
def anT (t n : Int) (x : ANS) (s : MS) : Tr AnO :=
  bif ieq x.at' 0 then anT_0 t n x s else
  bif ieq x.at' 1 then anT_1 t n x s else
  bif ieq x.at' 2 then anT_2 t n x s else
  bif ieq x.at' 3 then anT_3 t n x s else
  bif ieq x.at' 4 then anT_4 t n x s else .pre False (.ret default)
def anF (t n : Int) (x : ANS) (s : MS) : AnO := (anT t n x s).val
def anOk (t n : Int) (x : ANS) (s : MS) : Prop := (anT t n x s).ok
theorem an_step (t n : Int) (x : ANS) (s : MS) (K : AVal → Heap Ob → Prop) (h : (anT t n x s).run (fun y => (AnO.fin t n y).run K)) : CallOk (obI tbl) Tryz.prog 189 [.ptr 0 0, .ptr 1 0] (anH t n x s) K := by
  unfold anT at h
  by_cases e : x.at' = 0
  · rw [e] at h
    have h : (anT_0 t n x s).run _ := h
    refine CallOk.openM (root := 0) (pos := []) (cs := []) (parse := anP t n) (fin := AnO.fin t n) anP_ok (Opens.unpack (.announce t n x) 0 0 (announceG0 t n x) [] rfl (congrArg (Prod.mk 0) rfl) (by kernel_rfl) rfl) ?_
    have q := anT_0_sum t n x s _ h
    rw [← e] at q
    exact q
  rw [ieq_n e] at h
  by_cases e : x.at' = 1
  · rw [e] at h
    have h : (anT_1 t n x s).run _ := h
    refine CallOk.openM (root := 0) (pos := []) (cs := []) (parse := anP t n) (fin := AnO.fin t n) anP_ok (Opens.unpack (.announce t n x) 0 0 (announceG0 t n x) [] rfl (congrArg (Prod.mk 0) rfl) (by kernel_rfl) rfl) ?_
    have q := anT_1_sum t n x s _ h
    rw [← e] at q
    exact q
  rw [ieq_n e] at h
  by_cases e : x.at' = 2
  · rw [e] at h
    have h : (anT_2 t n x s).run _ := h
    refine CallOk.openM (root := 0) (pos := []) (cs := []) (parse := anP t n) (fin := AnO.fin t n) anP_ok (Opens.unpack (.announce t n x) 0 0 (announceG0 t n x) [] rfl (congrArg (Prod.mk 0) rfl) (by kernel_rfl) rfl) ?_
    have q := anT_2_sum t n x s _ h
    rw [← e] at q
    exact q
  rw [ieq_n e] at h
  by_cases e : x.at' = 3
  · rw [e] at h
    have h : (anT_3 t n x s).run _ := h
    refine CallOk.openM (root := 0) (pos := []) (cs := []) (parse := anP t n) (fin := AnO.fin t n) anP_ok (Opens.unpack (.announce t n x) 0 0 (announceG0 t n x) [] rfl (congrArg (Prod.mk 0) rfl) (by kernel_rfl) rfl) ?_
    have q := anT_3_sum t n x s _ h
    rw [← e] at q
    exact q
  rw [ieq_n e] at h
  by_cases e : x.at' = 4
  · rw [e] at h
    have h : (anT_4 t n x s).run _ := h
    refine CallOk.openM (root := 0) (pos := []) (cs := []) (parse := anP t n) (fin := AnO.fin t n) anP_ok (Opens.unpack (.announce t n x) 0 0 (announceG0 t n x) [] rfl (congrArg (Prod.mk 0) rfl) (by kernel_rfl) rfl) ?_
    have q := anT_4_sum t n x s _ h
    rw [← e] at q
    exact q
  rw [ieq_n e] at h
  exact h.1.elim
noncomputable def anS : Spec Ob := fun args h => match args, h with
  | [.ptr 0 0, .ptr 1 0], [some (.abs (.announce t n x) []), e1, e2] => (match memL 2 [e1, e2] with
    | some (l, s) => some (.pre (l = s.xs.length ∧ anOk t n x s) (AnO.fin t n (anF t n x s)))
    | none => none)
  | _, _ => none
theorem an_ok : Spec.ok (obI tbl) Tryz.prog 189 anS := by
  intro args h o ho K hK
  unfold anS at ho
  split at ho
  case h_2 => cases ho
  split at ho
  case h_2 => cases ho
  rename_i hm
  simp only [Option.some.injEq] at ho; subst ho
  obtain ⟨⟨hl, ok⟩, hK⟩ := hK
  have hh := memL_eq hm hl
  simp only [List.cons.injEq, and_true] at hh
  obtain ⟨rfl, rfl⟩ := hh
  exact an_step _ _ _ _ K (Tr.run_of ok hK)
def anNP (t n : Int) (v : AVal) (g : Heap Ob) : Option (Prop × ANS) := match v, g with
  | .ptr 0 0, [some (.cells [.int .i64 t1, .int .i64 n1, .int .u64 no, .int .i64 me, .int .i64 at', .int .u64 bits, .bool wrong, .int .u64 found])] => some ((t1 = t ∧ n1 = n), (⟨no, me, at', bits, wrong, found⟩ : ANS))
  | _, _ => none
abbrev anNH (t n : Int) (y : ANS) : Heap Ob := [some (.abs (.announce t n y) [])]
theorem anNP_ok {t n : Int} : Reads (obI tbl) 0 (anNP t n) (fun y => .ret (.ptr 0 0) (anNH t n y)) := by
  intro v g p x hp hq K hK
  unfold anNP at hp
  split at hp
  case h_2 => cases hp
  rename_i t1 n1 no me at' bits wrong found
  simp only [Option.some.injEq, Prod.mk.injEq] at hp
  obtain ⟨rfl, rfl⟩ := hp
  obtain ⟨rfl, rfl⟩ := hq
  exact ⟨⟨_, _, Tells.pack (anNH t1 n1 (⟨no, me, at', bits, wrong, found⟩ : ANS)) (.announce t1 n1 (⟨no, me, at', bits, wrong, found⟩ : ANS)) 0 0 (announceG0 t1 n1 (⟨no, me, at', bits, wrong, found⟩ : ANS)) [] (by kernel_rfl) rfl (congrArg (Prod.mk 0) rfl) (by kernel_rfl), hK⟩⟩
def anNT (t n : Int) (u sh kd ky : Int) : Tr ANS := Tr.pre True (Tr.pre (t = t ∧ n = n) (Tr.ret { no := (0 : Int), me := u, at' := (0 : Int), bits := bif rightT sh kd ky then tskV sh kd ky else 0, wrong := !ieq (bif rightT sh kd ky then 0 else 1) 0, found := (0 : Int) }))
def anNF (t n : Int) (u sh kd ky : Int) : ANS := (anNT t n u sh kd ky).val
def anNOk (t n : Int) (u sh kd ky : Int) : Prop := (anNT t n u sh kd ky).ok
def anNS : Spec Ob := fun args h => match args, h with
  | [.agg [.int .i64 t, .int .i64 n], .int .i64 u, .agg [.int .i64 sh, .int .i64 kd, .int .i64 ky]], [] => some (.pre (anNOk t n u sh kd ky) (.ret (.ptr 0 0) (anNH t n (anNF t n u sh kd ky))))
  | _, _ => none
theorem anN_ok : Spec.ok (obI tbl) Tryz.prog 29 anNS := by
  intro args h o ho K hK
  unfold anNS at ho
  split at ho
  case h_2 => cases ho
  rename_i t n u sh kd ky
  simp only [Option.some.injEq] at ho; subst ho
  obtain ⟨ok, hK⟩ := hK
  refine CallOk.plainM (root := 0) (pos := []) (cs := []) (parse := anNP t n) anNP_ok ?_
  exact callOk_of (E := EC3) Tryz.checked.mixed (L := LL) (n := 10) (of_nf (q := (anNT t n u sh kd ky).run (fun y => (Out.ret (.ptr 0 0) (anNH t n y)).run K)) (by kernel_rfl) (Tr.run_of ok hK))
noncomputable def EC4 := ((EC3.addS 189 anS an_ok).addS 29 anNS anN_ok)
end Go.Sh

namespace Go.Sh
open Go Go.Proofs
variable [Con]
structure AwO where
  d : Bool
  x : AWS
  s : MS
instance : Inhabited AwO := ⟨⟨false, ⟨0, false, 0, 0⟩, ⟨0, 0, [], 0, 0, 0, 0, 0, false⟩⟩⟩
instance : Inhabited AWS := ⟨⟨0, false, 0, 0⟩⟩
abbrev awH (t n : Int) (x : AWS) (s : MS) : Heap Ob := [some (.abs (.answer t n x) []), memC 2 s, memX s]
abbrev awD (t n : Int) (x : AWS) (s : MS) : Heap Ob := [some (.cells [.int .i64 t, .int .i64 n, .int .i64 x.code, .bool x.okk, .int .i64 x.val, .int .i64 x.me]), memC 2 s, memX s]
def AwO.fin (t n : Int) (y : AwO) : Out Ob := .ite y.d (.ret (.bool true) (awD t n y.x y.s)) (.ret (.bool false) (awH t n y.x y.s))
noncomputable def EC5 := ((EC4))
end Go.Sh

namespace Go.Sh
open Go Go.Proofs
variable [Con]
def xdescS : RSpec Ob := fun args h => match args, h with
  | [.ptr 0 0], [some (.cells [.int .i64 t, .int .i64 n, .int .i64 pop, .int .i64 gave, .int .i64 u, .int .i64 sh, .int .i64 kd, .int .i64 ky, .bool only, .int .i64 att, .int .i64 at', .int .u64 found, .int .u64 word])] => some (True, .agg [.int .i64 (cutI found 0 12), .int .i64 (cutI found 12 9), .int .i64 (cutI found 21 18), .int .i64 (cutI found 39 9), .bool (ieq (cutI found 48 1) 1), .int .i64 (cutI found 49 3), .int .i64 (cutI found 52 10)])
  | _, _ => none
theorem xdesc_ok : Spec.ok (obI tbl) Tryz.prog 182 xdescS.spec := by
  intro args h o ho K hK
  unfold RSpec.spec xdescS at ho
  split at ho
  case h_2 => cases ho
  rename_i p v hp
  split at hp
  case h_2 => cases hp
  rename_i t n pop gave u sh kd ky only att at' found word
  simp only [Option.some.injEq, Prod.mk.injEq] at hp
  obtain ⟨rfl, rfl⟩ := hp
  simp only [Option.some.injEq] at ho; subst ho
  obtain ⟨hp, hK⟩ := hK
  have hK : K (.agg [.int .i64 (cutI found 0 12), .int .i64 (cutI found 12 9), .int .i64 (cutI found 21 18), .int .i64 (cutI found 39 9), .bool (ieq (cutI found 48 1) 1), .int .i64 (cutI found 49 3), .int .i64 (cutI found 52 10)]) [some (.cells [.int .i64 t, .int .i64 n, .int .i64 pop, .int .i64 gave, .int .i64 u, .int .i64 sh, .int .i64 kd, .int .i64 ky, .bool only, .int .i64 att, .int .i64 at', .int .u64 found, .int .u64 word])] := hK
  refine CallOk.trim (callOk_of (E := EC5) Tryz.checked.mixed (L := LL) (n := 10) (of_nf (q := True ∧ K (AVal.agg [AVal.int .i64 (cutI found 0 12), AVal.int .i64 (cutI found 12 9), AVal.int .i64 (cutI found 21 18), AVal.int .i64 (cutI found 39 9), AVal.bool (ieq (cutI found 48 1) 1), AVal.int .i64 (cutI found 49 3), AVal.int .i64 (cutI found 52 10)]) [some (Entry.cells [AVal.int .i64 t, AVal.int .i64 n, AVal.int .i64 pop, AVal.int .i64 gave, AVal.int .i64 u, AVal.int .i64 sh, AVal.int .i64 kd, AVal.int .i64 ky, AVal.bool only, AVal.int .i64 att, AVal.int .i64 at', AVal.int .u64 found, AVal.int .u64 word])]) (by kernel_rfl) ?_))
  exact ⟨trivial, hK⟩
noncomputable def EX1 := EC5.addR 182 xdescS xdesc_ok
def xputO (t n pop gave u sh kd ky : Int) (only : Bool) (att at' found word : Int) (k y : Int) (m : Bool) (c v : Int) (s : MS) : Out Ob := Out.pre True (Out.pre True (Out.pre ((List.length s.3 = List.length s.3 ∧ (0 : Int) ≤ s.4 ∧ s.4 ≤ (4611686018427387904 : Int)) ∧ True) (Out.ret (AVal.bool (casB s.3 (cutI found 12 9) word)) [some (Entry.cells [AVal.int .i64 t, AVal.int .i64 n, AVal.int .i64 pop, AVal.int .i64 gave, AVal.int .i64 u, AVal.int .i64 sh, AVal.int .i64 kd, AVal.int .i64 ky, AVal.bool only, AVal.int .i64 att, AVal.int .i64 at', AVal.int .u64 found, AVal.int .u64 word]), some (Entry.cells [AVal.int .i64 s.1, AVal.int .i64 s.2, AVal.slice 2 0 (List.length (bif casB s.3 (cutI found 12 9) word then putI s.3 (cutI found 12 9) (bif bif fitI k 10 then bif fitI y 9 then bif fitI c 5 then fitI v 18 else false else false else false then putV k y m c v else 0) else s.3)) 1, AVal.int .i64 (s.4 + 1), AVal.int .i64 3, AVal.int .i64 (cutI found 12 9), AVal.int .u64 (peek s.3 (cutI found 12 9)), AVal.int .u64 (bif inB s.3 (cutI found 12 9) then bif bif fitI k 10 then bif fitI y 9 then bif fitI c 5 then fitI v 18 else false else false else false then putV k y m c v else 0 else 0), AVal.bool (casB s.3 (cutI found 12 9) word)]), some (Entry.ints (some .u64) (bif casB s.3 (cutI found 12 9) word then putI s.3 (cutI found 12 9) (bif bif fitI k 10 then bif fitI y 9 then bif fitI c 5 then fitI v 18 else false else false else false then putV k y m c v else 0) else s.3))])))
theorem xput_sum (t n pop gave u sh kd ky : Int) (only : Bool) (att at' found word : Int) (k y : Int) (m : Bool) (c v : Int) (s : MS) (K : AVal → Heap Ob → Prop) (h : (xputO t n pop gave u sh kd ky only att at' found word k y m c v s).run K) : CallOk (obI tbl) Tryz.prog 185 [.ptr 0 0, .ptr 1 0, .agg [.int .i64 k, .int .i64 y, .bool m, .int .i64 c, .int .i64 v]] [some (.cells [.int .i64 t, .int .i64 n, .int .i64 pop, .int .i64 gave, .int .i64 u, .int .i64 sh, .int .i64 kd, .int .i64 ky, .bool only, .int .i64 att, .int .i64 at', .int .u64 found, .int .u64 word]), memC 2 s, memX s] K := by
  refine CallOk.trim (callOk_of (E := EX1) Tryz.checked.mixed (L := LL) (n := 10) (of_nf (q := (xputO t n pop gave u sh kd ky only att at' found word k y m c v s).run K) (by kernel_rfl) h))
def xputS : Spec Ob := fun args h => match args, h with
  | [.ptr 0 0, .ptr 1 0, .agg [.int .i64 k, .int .i64 y, .bool m, .int .i64 c, .int .i64 v]], [some (.cells [.int .i64 t, .int .i64 n, .int .i64 pop, .int .i64 gave, .int .i64 u, .int .i64 sh, .int .i64 kd, .int .i64 ky, .bool only, .int .i64 att, .int .i64 at', .int .u64 found, .int .u64 word]), e1, e2] => (match memL 2 [e1, e2] with
    | some (l, s) => some (.pre (l = s.xs.length) (xputO t n pop gave u sh kd ky only att at' found word k y m c v s))
    | none => none)
  | _, _ => none
theorem xput_ok : Spec.ok (obI tbl) Tryz.prog 185 xputS := by
  intro args h o ho K hK
  unfold xputS at ho
  split at ho
  case h_2 => cases ho
  split at ho
  case h_2 => cases ho
  rename_i hm
  simp only [Option.some.injEq] at ho; subst ho
  obtain ⟨hl, hK⟩ := hK
  have hh := memL_eq hm hl
  simp only [List.cons.injEq, and_true] at hh
  obtain ⟨rfl, rfl⟩ := hh
  exact xput_sum _ _ _ _ _ _ _ _ _ _ _ _ _ _ _ _ _ _ _ K hK
def xturnO (t n pop gave u sh kd ky : Int) (only : Bool) (att at' found word : Int) (a b c d : Int) (m : Bool) (e f : Int) (s : MS) : Out Ob := Out.pre True (Out.pre ((((0 : Int) ≤ t ∧ t ≤ (100000 : Int)) ∧ ((0 : Int) ≤ n ∧ n ≤ (100000 : Int)) ∧ (-1099511627776 : Int) ≤ u ∧ u ≤ (1099511627776 : Int)) ∧ True) (Out.pre ((List.length s.3 = List.length s.3 ∧ (0 : Int) ≤ s.4 ∧ s.4 ≤ (4611686018427387904 : Int)) ∧ True) (Out.ret (AVal.bool (casB s.3 (2 * n + 5 + 2 * t + 3 * u + 2) found)) [some (Entry.cells [AVal.int .i64 t, AVal.int .i64 n, AVal.int .i64 pop, AVal.int .i64 gave, AVal.int .i64 u, AVal.int .i64 sh, AVal.int .i64 kd, AVal.int .i64 ky, AVal.bool only, AVal.int .i64 att, AVal.int .i64 at', AVal.int .u64 found, AVal.int .u64 word]), some (Entry.cells [AVal.int .i64 s.1, AVal.int .i64 s.2, AVal.slice 2 0 (List.length (bif casB s.3 (2 * n + 5 + 2 * t + 3 * u + 2) found then putI s.3 (2 * n + 5 + 2 * t + 3 * u + 2) (bif dOk a b c d e f then dPutV a b c d m e f else 0) else s.3)) 1, AVal.int .i64 (s.4 + 1), AVal.int .i64 3, AVal.int .i64 (2 * n + 5 + 2 * t + 3 * u + 2), AVal.int .u64 (peek s.3 (2 * n + 5 + 2 * t + 3 * u + 2)), AVal.int .u64 (bif inB s.3 (2 * n + 5 + 2 * t + 3 * u + 2) then bif dOk a b c d e f then dPutV a b c d m e f else 0 else 0), AVal.bool (casB s.3 (2 * n + 5 + 2 * t + 3 * u + 2) found)]), some (Entry.ints (some .u64) (bif casB s.3 (2 * n + 5 + 2 * t + 3 * u + 2) found then putI s.3 (2 * n + 5 + 2 * t + 3 * u + 2) (bif dOk a b c d e f then dPutV a b c d m e f else 0) else s.3))])))
theorem xturn_sum (t n pop gave u sh kd ky : Int) (only : Bool) (att at' found word : Int) (a b c d : Int) (m : Bool) (e f : Int) (s : MS) (K : AVal → Heap Ob → Prop) (h : (xturnO t n pop gave u sh kd ky only att at' found word a b c d m e f s).run K) : CallOk (obI tbl) Tryz.prog 186 [.ptr 0 0, .ptr 1 0, .agg [.int .i64 a, .int .i64 b, .int .i64 c, .int .i64 d, .bool m, .int .i64 e, .int .i64 f]] [some (.cells [.int .i64 t, .int .i64 n, .int .i64 pop, .int .i64 gave, .int .i64 u, .int .i64 sh, .int .i64 kd, .int .i64 ky, .bool only, .int .i64 att, .int .i64 at', .int .u64 found, .int .u64 word]), memC 2 s, memX s] K := by
  refine CallOk.trim (callOk_of (E := EX1) Tryz.checked.mixed (L := LL) (n := 10) (of_nf (q := (xturnO t n pop gave u sh kd ky only att at' found word a b c d m e f s).run K) (by kernel_rfl) h))
def xturnS : Spec Ob := fun args h => match args, h with
  | [.ptr 0 0, .ptr 1 0, .agg [.int .i64 a, .int .i64 b, .int .i64 c, .int .i64 d, .bool m, .int .i64 e, .int .i64 f]], [some (.cells [.int .i64 t, .int .i64 n, .int .i64 pop, .int .i64 gave, .int .i64 u, .int .i64 sh, .int .i64 kd, .int .i64 ky, .bool only, .int .i64 att, .int .i64 at', .int .u64 found, .int .u64 word]), e1, e2] => (match memL 2 [e1, e2] with
    | some (l, s) => some (.pre (l = s.xs.length) (xturnO t n pop gave u sh kd ky only att at' found word a b c d m e f s))
    | none => none)
  | _, _ => none
theorem xturn_ok : Spec.ok (obI tbl) Tryz.prog 186 xturnS := by
  intro args h o ho K hK
  unfold xturnS at ho
  split at ho
  case h_2 => cases ho
  split at ho
  case h_2 => cases ho
  rename_i hm
  simp only [Option.some.injEq] at ho; subst ho
  obtain ⟨hl, hK⟩ := hK
  have hh := memL_eq hm hl
  simp only [List.cons.injEq, and_true] at hh
  obtain ⟨rfl, rfl⟩ := hh
  exact xturn_sum _ _ _ _ _ _ _ _ _ _ _ _ _ _ _ _ _ _ _ _ _ K hK
noncomputable def EX2 := (EX1.addS 185 xputS xput_ok).addS 186 xturnS xturn_ok
instance : Inhabited STS := ⟨⟨0, 0, []⟩⟩
end Go.Sh

namespace Go.Sh
open Go Go.Proofs
variable [Con]
structure ExO where
  d : Bool
  x : EXS
  s : MS
instance : Inhabited ExO := ⟨⟨false, ⟨0, 0, 0, 0, 0, 0, false, 0, 0, 0, 0⟩, ⟨0, 0, [], 0, 0, 0, 0, 0, false⟩⟩⟩
instance : Inhabited EXS := ⟨⟨0, 0, 0, 0, 0, 0, false, 0, 0, 0, 0⟩⟩
abbrev exH (t n : Int) (x : EXS) (s : MS) : Heap Ob := [some (.abs (.exec t n x) []), memC 2 s, memX s]
abbrev exD (t n : Int) (x : EXS) (s : MS) : Heap Ob := [some (.cells [.int .i64 t, .int .i64 n, .int .i64 x.popped, .int .i64 x.gave, .int .i64 x.u, .int .i64 x.sh, .int .i64 x.kd, .int .i64 x.ky, .bool x.only, .int .i64 x.att, .int .i64 x.at', .int .u64 x.found, .int .u64 x.word]), memC 2 s, memX s]
def ExO.fin (t n : Int) (y : ExO) : Out Ob := .ite y.d (.ret (.bool true) (exD t n y.x y.s)) (.ret (.bool false) (exH t n y.x y.s))
def exP0 (t n : Int) (v : AVal) (g : Heap Ob) : Option (Prop × ExO) := match v, g with
  | .bool d, [some (.cells [.int .i64 t1, .int .i64 n1, .int .i64 popped, .int .i64 gave, .int .i64 u, .int .i64 sh, .int .i64 kd, .int .i64 ky, .bool only, .int .i64 att, .int .i64 at', .int .u64 found, .int .u64 word]), e1, e2] => (match memL 2 [e1, e2] with
    | some (l, s) => some ((t1 = t ∧ n1 = n) ∧ l = s.xs.length, ⟨d, ⟨popped, gave, u, sh, kd, ky, only, att, at', found, word⟩, s⟩)
    | none => none)
  | _, _ => none
def exP (t n : Int) (v : AVal) (g : Heap Ob) : Option (Prop × ExO) := exP0 t n v g
theorem exP0_ok {t n : Int} : Reads (obI tbl) 3 (exP0 t n) (ExO.fin t n) := by
  intro v g p x hp hq K hK
  unfold exP0 at hp
  split at hp
  case h_2 => cases hp
  rename_i d t1 n1 popped gave u sh kd ky only att at' found word e1 e2
  split at hp
  case h_2 => cases hp
  rename_i l s hm
  simp only [Option.some.injEq, Prod.mk.injEq] at hp
  obtain ⟨rfl, rfl⟩ := hp
  obtain ⟨⟨rfl, rfl⟩, hl⟩ := hq
  have hh := memL_eq hm hl
  simp only [List.cons.injEq, and_true] at hh
  obtain ⟨rfl, rfl⟩ := hh
  refine read2 hK (fun h => ?_) (fun h => ?_)
  · exact ⟨⟨_, _, Tells.refl _ _ _, h⟩⟩
  · exact ⟨⟨_, _, (Tells.pack (exH t1 n1 (⟨popped, gave, u, sh, kd, ky, only, att, at', found, word⟩ : EXS) s) (.exec t1 n1 (⟨popped, gave, u, sh, kd, ky, only, att, at', found, word⟩ : EXS)) 0 0 (execG0 t1 n1 (⟨popped, gave, u, sh, kd, ky, only, att, at', found, word⟩ : EXS)) [] (by kernel_rfl) rfl (congrArg (Prod.mk 0) rfl) (by kernel_rfl)), h⟩⟩
theorem exP_ok {t n : Int} : Reads (obI tbl) 3 (exP t n) (ExO.fin t n) := by
  intro v g p x hp hq K hK
  unfold exP at hp
  exact exP0_ok v g p x hp hq K hK
def exT_0 (t n : Int) (x : EXS) (s : MS) : Tr ExO := Tr.pre True (Tr.pre True (Tr.pre ((((0 : Int) ≤ t ∧ t ≤ (100000 : Int)) ∧ ((0 : Int) ≤ n ∧ n ≤ (100000 : Int)) ∧ (-1099511627776 : Int) ≤ x.3 ∧ x.3 ≤ (1099511627776 : Int)) ∧ True) (Tr.pre ((List.length s.3 = List.length s.3 ∧ (0 : Int) ≤ s.4 ∧ s.4 ≤ (4611686018427387904 : Int)) ∧ True) (Tr.ite x.7 (Tr.pre True (Tr.ite (!ieq (cutI (peek s.3 (2 * n + 5 + 2 * t + 3 * x.3 + 2)) 0 12) x.8) (Tr.pre ((t = t ∧ n = n) ∧ List.length s.3 = List.length s.3) (Tr.ret { d := true, x := { popped := x.1, gave := x.2, u := x.3, sh := x.4, kd := x.5, ky := x.6, only := x.7, att := x.8, at' := (0 : Int), found := peek s.3 (2 * n + 5 + 2 * t + 3 * x.3 + 2), word := x.11 }, s := { t := s.1, n := s.2, xs := s.3, c := s.4 + 1, k := (1 : Int), a := (2 : Int) * n + 5 + 2 * t + 3 * x.3 + 2, o := peek s.3 (2 * n + 5 + 2 * t + 3 * x.3 + 2), w := peek s.3 (2 * n + 5 + 2 * t + 3 * x.3 + 2), ok := inB s.3 (2 * n + 5 + 2 * t + 3 * x.3 + 2) } })) (Tr.pre True (Tr.ite (ieq (cutI (peek s.3 (2 * n + 5 + 2 * t + 3 * x.3 + 2)) 49 3) 2) (Tr.pre ((t = t ∧ n = n) ∧ List.length s.3 = List.length s.3) (Tr.ret { d := false, x := { popped := x.1, gave := x.2, u := x.3, sh := x.4, kd := x.5, ky := x.6, only := x.7, att := x.8, at' := (1 : Int), found := peek s.3 (2 * n + 5 + 2 * t + 3 * x.3 + 2), word := x.11 }, s := { t := s.1, n := s.2, xs := s.3, c := s.4 + 1, k := (1 : Int), a := (2 : Int) * n + 5 + 2 * t + 3 * x.3 + 2, o := peek s.3 (2 * n + 5 + 2 * t + 3 * x.3 + 2), w := peek s.3 (2 * n + 5 + 2 * t + 3 * x.3 + 2), ok := inB s.3 (2 * n + 5 + 2 * t + 3 * x.3 + 2) } })) (Tr.ite (ieq (cutI (peek s.3 (2 * n + 5 + 2 * t + 3 * x.3 + 2)) 49 3) 3) (Tr.pre ((t = t ∧ n = n) ∧ List.length s.3 = List.length s.3) (Tr.ret { d := false, x := { popped := x.1, gave := x.2, u := x.3, sh := x.4, kd := x.5, ky := x.6, only := x.7, att := x.8, at' := (5 : Int), found := peek s.3 (2 * n + 5 + 2 * t + 3 * x.3 + 2), word := x.11 }, s := { t := s.1, n := s.2, xs := s.3, c := s.4 + 1, k := (1 : Int), a := (2 : Int) * n + 5 + 2 * t + 3 * x.3 + 2, o := peek s.3 (2 * n + 5 + 2 * t + 3 * x.3 + 2), w := peek s.3 (2 * n + 5 + 2 * t + 3 * x.3 + 2), ok := inB s.3 (2 * n + 5 + 2 * t + 3 * x.3 + 2) } })) (Tr.ite (ieq (cutI (peek s.3 (2 * n + 5 + 2 * t + 3 * x.3 + 2)) 49 3) 4) (Tr.pre ((t = t ∧ n = n) ∧ List.length s.3 = List.length s.3) (Tr.ret { d := false, x := { popped := x.1, gave := x.2, u := x.3, sh := x.4, kd := x.5, ky := x.6, only := x.7, att := x.8, at' := (8 : Int), found := peek s.3 (2 * n + 5 + 2 * t + 3 * x.3 + 2), word := x.11 }, s := { t := s.1, n := s.2, xs := s.3, c := s.4 + 1, k := (1 : Int), a := (2 : Int) * n + 5 + 2 * t + 3 * x.3 + 2, o := peek s.3 (2 * n + 5 + 2 * t + 3 * x.3 + 2), w := peek s.3 (2 * n + 5 + 2 * t + 3 * x.3 + 2), ok := inB s.3 (2 * n + 5 + 2 * t + 3 * x.3 + 2) } })) (Tr.pre ((t = t ∧ n = n) ∧ List.length s.3 = List.length s.3) (Tr.ret { d := true, x := { popped := x.1, gave := x.2, u := x.3, sh := x.4, kd := x.5, ky := x.6, only := x.7, att := x.8, at' := (0 : Int), found := peek s.3 (2 * n + 5 + 2 * t + 3 * x.3 + 2), word := x.11 }, s := { t := s.1, n := s.2, xs := s.3, c := s.4 + 1, k := (1 : Int), a := (2 : Int) * n + 5 + 2 * t + 3 * x.3 + 2, o := peek s.3 (2 * n + 5 + 2 * t + 3 * x.3 + 2), w := peek s.3 (2 * n + 5 + 2 * t + 3 * x.3 + 2), ok := inB s.3 (2 * n + 5 + 2 * t + 3 * x.3 + 2) } })))))))) (Tr.pre True (Tr.ite (ieq (cutI (peek s.3 (2 * n + 5 + 2 * t + 3 * x.3 + 2)) 49 3) 2) (Tr.pre ((t = t ∧ n = n) ∧ List.length s.3 = List.length s.3) (Tr.ret { d := false, x := { popped := x.1, gave := x.2, u := x.3, sh := x.4, kd := x.5, ky := x.6, only := x.7, att := x.8, at' := (1 : Int), found := peek s.3 (2 * n + 5 + 2 * t + 3 * x.3 + 2), word := x.11 }, s := { t := s.1, n := s.2, xs := s.3, c := s.4 + 1, k := (1 : Int), a := (2 : Int) * n + 5 + 2 * t + 3 * x.3 + 2, o := peek s.3 (2 * n + 5 + 2 * t + 3 * x.3 + 2), w := peek s.3 (2 * n + 5 + 2 * t + 3 * x.3 + 2), ok := inB s.3 (2 * n + 5 + 2 * t + 3 * x.3 + 2) } })) (Tr.ite (ieq (cutI (peek s.3 (2 * n + 5 + 2 * t + 3 * x.3 + 2)) 49 3) 3) (Tr.pre ((t = t ∧ n = n) ∧ List.length s.3 = List.length s.3) (Tr.ret { d := false, x := { popped := x.1, gave := x.2, u := x.3, sh := x.4, kd := x.5, ky := x.6, only := x.7, att := x.8, at' := (5 : Int), found := peek s.3 (2 * n + 5 + 2 * t + 3 * x.3 + 2), word := x.11 }, s := { t := s.1, n := s.2, xs := s.3, c := s.4 + 1, k := (1 : Int), a := (2 : Int) * n + 5 + 2 * t + 3 * x.3 + 2, o := peek s.3 (2 * n + 5 + 2 * t + 3 * x.3 + 2), w := peek s.3 (2 * n + 5 + 2 * t + 3 * x.3 + 2), ok := inB s.3 (2 * n + 5 + 2 * t + 3 * x.3 + 2) } })) (Tr.ite (ieq (cutI (peek s.3 (2 * n + 5 + 2 * t + 3 * x.3 + 2)) 49 3) 4) (Tr.pre ((t = t ∧ n = n) ∧ List.length s.3 = List.length s.3) (Tr.ret { d := false, x := { popped := x.1, gave := x.2, u := x.3, sh := x.4, kd := x.5, ky := x.6, only := x.7, att := x.8, at' := (8 : Int), found := peek s.3 (2 * n + 5 + 2 * t + 3 * x.3 + 2), word := x.11 }, s := { t := s.1, n := s.2, xs := s.3, c := s.4 + 1, k := (1 : Int), a := (2 : Int) * n + 5 + 2 * t + 3 * x.3 + 2, o := peek s.3 (2 * n + 5 + 2 * t + 3 * x.3 + 2), w := peek s.3 (2 * n + 5 + 2 * t + 3 * x.3 + 2), ok := inB s.3 (2 * n + 5 + 2 * t + 3 * x.3 + 2) } })) (Tr.pre ((t = t ∧ n = n) ∧ List.length s.3 = List.length s.3) (Tr.ret { d := true, x := { popped := x.1, gave := x.2, u := x.3, sh := x.4, kd := x.5, ky := x.6, only := x.7, att := x.8, at' := (0 : Int), found := peek s.3 (2 * n + 5 + 2 * t + 3 * x.3 + 2), word := x.11 }, s := { t := s.1, n := s.2, xs := s.3, c := s.4 + 1, k := (1 : Int), a := (2 : Int) * n + 5 + 2 * t + 3 * x.3 + 2, o := peek s.3 (2 * n + 5 + 2 * t + 3 * x.3 + 2), w := peek s.3 (2 * n + 5 + 2 * t + 3 * x.3 + 2), ok := inB s.3 (2 * n + 5 + 2 * t + 3 * x.3 + 2) } }))))))))))
theorem exT_0_sum (t n : Int) (x : EXS) (s : MS) (K : ExO → Prop) (h : (exT_0 t n x s).run K) : CallOk (obI tbl) Tryz.prog 179 [.ptr 0 0, .ptr 1 0] [some (.cells [.int .i64 t, .int .i64 n, .int .i64 x.popped, .int .i64 x.gave, .int .i64 x.u, .int .i64 x.sh, .int .i64 x.kd, .int .i64 x.ky, .bool x.only, .int .i64 x.att, .int .i64 0, .int .u64 x.found, .int .u64 x.word]), memC 2 s, memX s] (LeafM 3 0 [] [] (exP t n) K) := by
  exact callOk_of (E := EX2) Tryz.checked.mixed (L := LL) (n := 10) (of_nf (q := (exT_0 t n x s).run K) (by kernel_rfl) h)
def exT_1 (t n : Int) (x : EXS) (s : MS) : Tr ExO := Tr.pre True (Tr.pre True (Tr.pre True (Tr.pre (List.length s.3 = List.length s.3 ∧ (0 : Int) ≤ s.4 ∧ s.4 ≤ (4611686018427387904 : Int)) (Tr.pre True (Tr.pre True (Tr.ite (ieq (cutI (peek s.3 (cutI x.10 12 9)) 25 18) (cutI x.10 21 18)) (Tr.ite (ieq (cutI (peek s.3 (cutI x.10 12 9)) 20 5) 0) (Tr.pre ((t = t ∧ n = n) ∧ List.length s.3 = List.length s.3) (Tr.ret { d := false, x := { popped := x.1, gave := x.2, u := x.3, sh := x.4, kd := x.5, ky := x.6, only := x.7, att := x.8, at' := (2 : Int), found := x.10, word := peek s.3 (cutI x.10 12 9) }, s := { t := s.1, n := s.2, xs := s.3, c := s.4 + 1, k := (1 : Int), a := cutI x.10 12 9, o := peek s.3 (cutI x.10 12 9), w := peek s.3 (cutI x.10 12 9), ok := inB s.3 (cutI x.10 12 9) } })) (Tr.pre True (Tr.ite (ieq (cutI (peek s.3 (cutI x.10 12 9)) 25 18) (cutI x.10 21 18)) (Tr.ite (ieq (cutI (peek s.3 (cutI x.10 12 9)) 20 5) (W (x.3 + 1))) (Tr.pre ((t = t ∧ n = n) ∧ List.length s.3 = List.length s.3) (Tr.ret { d := false, x := { popped := x.1, gave := x.2, u := x.3, sh := x.4, kd := x.5, ky := x.6, only := x.7, att := x.8, at' := (3 : Int), found := x.10, word := peek s.3 (cutI x.10 12 9) }, s := { t := s.1, n := s.2, xs := s.3, c := s.4 + 1, k := (1 : Int), a := cutI x.10 12 9, o := peek s.3 (cutI x.10 12 9), w := peek s.3 (cutI x.10 12 9), ok := inB s.3 (cutI x.10 12 9) } })) (Tr.pre ((t = t ∧ n = n) ∧ List.length s.3 = List.length s.3) (Tr.ret { d := false, x := { popped := x.1, gave := x.2, u := x.3, sh := x.4, kd := x.5, ky := x.6, only := x.7, att := x.8, at' := (4 : Int), found := x.10, word := peek s.3 (cutI x.10 12 9) }, s := { t := s.1, n := s.2, xs := s.3, c := s.4 + 1, k := (1 : Int), a := cutI x.10 12 9, o := peek s.3 (cutI x.10 12 9), w := peek s.3 (cutI x.10 12 9), ok := inB s.3 (cutI x.10 12 9) } }))) (Tr.pre ((t = t ∧ n = n) ∧ List.length s.3 = List.length s.3) (Tr.ret { d := false, x := { popped := x.1, gave := x.2, u := x.3, sh := x.4, kd := x.5, ky := x.6, only := x.7, att := x.8, at' := (4 : Int), found := x.10, word := peek s.3 (cutI x.10 12 9) }, s := { t := s.1, n := s.2, xs := s.3, c := s.4 + 1, k := (1 : Int), a := cutI x.10 12 9, o := peek s.3 (cutI x.10 12 9), w := peek s.3 (cutI x.10 12 9), ok := inB s.3 (cutI x.10 12 9) } }))))) (Tr.pre True (Tr.ite (ieq (cutI (peek s.3 (cutI x.10 12 9)) 25 18) (cutI x.10 21 18)) (Tr.ite (ieq (cutI (peek s.3 (cutI x.10 12 9)) 20 5) (W (x.3 + 1))) (Tr.pre ((t = t ∧ n = n) ∧ List.length s.3 = List.length s.3) (Tr.ret { d := false, x := { popped := x.1, gave := x.2, u := x.3, sh := x.4, kd := x.5, ky := x.6, only := x.7, att := x.8, at' := (3 : Int), found := x.10, word := peek s.3 (cutI x.10 12 9) }, s := { t := s.1, n := s.2, xs := s.3, c := s.4 + 1, k := (1 : Int), a := cutI x.10 12 9, o := peek s.3 (cutI x.10 12 9), w := peek s.3 (cutI x.10 12 9), ok := inB s.3 (cutI x.10 12 9) } })) (Tr.pre ((t = t ∧ n = n) ∧ List.length s.3 = List.length s.3) (Tr.ret { d := false, x := { popped := x.1, gave := x.2, u := x.3, sh := x.4, kd := x.5, ky := x.6, only := x.7, att := x.8, at' := (4 : Int), found := x.10, word := peek s.3 (cutI x.10 12 9) }, s := { t := s.1, n := s.2, xs := s.3, c := s.4 + 1, k := (1 : Int), a := cutI x.10 12 9, o := peek s.3 (cutI x.10 12 9), w := peek s.3 (cutI x.10 12 9), ok := inB s.3 (cutI x.10 12 9) } }))) (Tr.pre ((t = t ∧ n = n) ∧ List.length s.3 = List.length s.3) (Tr.ret { d := false, x := { popped := x.1, gave := x.2, u := x.3, sh := x.4, kd := x.5, ky := x.6, only := x.7, att := x.8, at' := (4 : Int), found := x.10, word := peek s.3 (cutI x.10 12 9) }, s := { t := s.1, n := s.2, xs := s.3, c := s.4 + 1, k := (1 : Int), a := cutI x.10 12 9, o := peek s.3 (cutI x.10 12 9), w := peek s.3 (cutI x.10 12 9), ok := inB s.3 (cutI x.10 12 9) } }))))))))))
theorem exT_1_sum (t n : Int) (x : EXS) (s : MS) (K : ExO → Prop) (h : (exT_1 t n x s).run K) : CallOk (obI tbl) Tryz.prog 179 [.ptr 0 0, .ptr 1 0] [some (.cells [.int .i64 t, .int .i64 n, .int .i64 x.popped, .int .i64 x.gave, .int .i64 x.u, .int .i64 x.sh, .int .i64 x.kd, .int .i64 x.ky, .bool x.only, .int .i64 x.att, .int .i64 1, .int .u64 x.found, .int .u64 x.word]), memC 2 s, memX s] (LeafM 3 0 [] [] (exP t n) K) := by
  exact callOk_of (E := EX2) Tryz.checked.mixed (L := LL) (n := 10) (of_nf (q := (exT_1 t n x s).run K) (by kernel_rfl) h)
def exT_2 (t n : Int) (x : EXS) (s : MS) : Tr ExO := Tr.pre True (Tr.pre True (Tr.pre ((-1000000 : Int) ≤ x.3 ∧ x.3 ≤ (1000000 : Int)) (Tr.pre (List.length s.3 = List.length s.3 ∧ True ∧ True ∧ ((List.length s.3 = List.length s.3 ∧ (0 : Int) ≤ s.4 ∧ s.4 ≤ (4611686018427387904 : Int)) ∧ True) ∧ True) (Tr.ite (casB s.3 (cutI x.10 12 9) x.11) (Tr.pre True (Tr.ite (popsB x.4 x.5) (Tr.pre ((t = t ∧ n = n) ∧ List.length (bif casB s.3 (cutI x.10 12 9) x.11 then putI s.3 (cutI x.10 12 9) (bif bif fitI (cutI x.11 0 10) 10 then bif fitI (cutI x.10 39 9) 9 then bif fitI (x.3 + 1) 5 then fitI (cutI x.11 25 18) 18 else false else false else false then putV (cutI x.11 0 10) (cutI x.10 39 9) (ieq (cutI x.10 48 1) 1) (x.3 + 1) (cutI x.11 25 18) else 0) else s.3) = List.length (bif casB s.3 (cutI x.10 12 9) x.11 then putI s.3 (cutI x.10 12 9) (bif bif fitI (cutI x.11 0 10) 10 then bif fitI (cutI x.10 39 9) 9 then bif fitI (x.3 + 1) 5 then fitI (cutI x.11 25 18) 18 else false else false else false then putV (cutI x.11 0 10) (cutI x.10 39 9) (ieq (cutI x.10 48 1) 1) (x.3 + 1) (cutI x.11 25 18) else 0) else s.3)) (Tr.ret { d := true, x := { popped := cutI x.11 10 9, gave := x.2, u := x.3, sh := x.4, kd := x.5, ky := x.6, only := x.7, att := x.8, at' := (2 : Int), found := x.10, word := x.11 }, s := { t := s.1, n := s.2, xs := bif casB s.3 (cutI x.10 12 9) x.11 then putI s.3 (cutI x.10 12 9) (bif bif fitI (cutI x.11 0 10) 10 then bif fitI (cutI x.10 39 9) 9 then bif fitI (x.3 + 1) 5 then fitI (cutI x.11 25 18) 18 else false else false else false then putV (cutI x.11 0 10) (cutI x.10 39 9) (ieq (cutI x.10 48 1) 1) (x.3 + 1) (cutI x.11 25 18) else 0) else s.3, c := s.4 + 1, k := (3 : Int), a := cutI x.10 12 9, o := peek s.3 (cutI x.10 12 9), w := bif inB s.3 (cutI x.10 12 9) then bif bif fitI (cutI x.11 0 10) 10 then bif fitI (cutI x.10 39 9) 9 then bif fitI (x.3 + 1) 5 then fitI (cutI x.11 25 18) 18 else false else false else false then putV (cutI x.11 0 10) (cutI x.10 39 9) (ieq (cutI x.10 48 1) 1) (x.3 + 1) (cutI x.11 25 18) else 0 else 0, ok := casB s.3 (cutI x.10 12 9) x.11 } })) (Tr.pre ((t = t ∧ n = n) ∧ List.length (bif casB s.3 (cutI x.10 12 9) x.11 then putI s.3 (cutI x.10 12 9) (bif bif fitI (cutI x.11 0 10) 10 then bif fitI (cutI x.10 39 9) 9 then bif fitI (x.3 + 1) 5 then fitI (cutI x.11 25 18) 18 else false else false else false then putV (cutI x.11 0 10) (cutI x.10 39 9) (ieq (cutI x.10 48 1) 1) (x.3 + 1) (cutI x.11 25 18) else 0) else s.3) = List.length (bif casB s.3 (cutI x.10 12 9) x.11 then putI s.3 (cutI x.10 12 9) (bif bif fitI (cutI x.11 0 10) 10 then bif fitI (cutI x.10 39 9) 9 then bif fitI (x.3 + 1) 5 then fitI (cutI x.11 25 18) 18 else false else false else false then putV (cutI x.11 0 10) (cutI x.10 39 9) (ieq (cutI x.10 48 1) 1) (x.3 + 1) (cutI x.11 25 18) else 0) else s.3)) (Tr.ret { d := true, x := { popped := x.1, gave := x.2, u := x.3, sh := x.4, kd := x.5, ky := x.6, only := x.7, att := x.8, at' := (2 : Int), found := x.10, word := x.11 }, s := { t := s.1, n := s.2, xs := bif casB s.3 (cutI x.10 12 9) x.11 then putI s.3 (cutI x.10 12 9) (bif bif fitI (cutI x.11 0 10) 10 then bif fitI (cutI x.10 39 9) 9 then bif fitI (x.3 + 1) 5 then fitI (cutI x.11 25 18) 18 else false else false else false then putV (cutI x.11 0 10) (cutI x.10 39 9) (ieq (cutI x.10 48 1) 1) (x.3 + 1) (cutI x.11 25 18) else 0) else s.3, c := s.4 + 1, k := (3 : Int), a := cutI x.10 12 9, o := peek s.3 (cutI x.10 12 9), w := bif inB s.3 (cutI x.10 12 9) then bif bif fitI (cutI x.11 0 10) 10 then bif fitI (cutI x.10 39 9) 9 then bif fitI (x.3 + 1) 5 then fitI (cutI x.11 25 18) 18 else false else false else false then putV (cutI x.11 0 10) (cutI x.10 39 9) (ieq (cutI x.10 48 1) 1) (x.3 + 1) (cutI x.11 25 18) else 0 else 0, ok := casB s.3 (cutI x.10 12 9) x.11 } })))) (Tr.pre ((t = t ∧ n = n) ∧ List.length (bif casB s.3 (cutI x.10 12 9) x.11 then putI s.3 (cutI x.10 12 9) (bif bif fitI (cutI x.11 0 10) 10 then bif fitI (cutI x.10 39 9) 9 then bif fitI (x.3 + 1) 5 then fitI (cutI x.11 25 18) 18 else false else false else false then putV (cutI x.11 0 10) (cutI x.10 39 9) (ieq (cutI x.10 48 1) 1) (x.3 + 1) (cutI x.11 25 18) else 0) else s.3) = List.length (bif casB s.3 (cutI x.10 12 9) x.11 then putI s.3 (cutI x.10 12 9) (bif bif fitI (cutI x.11 0 10) 10 then bif fitI (cutI x.10 39 9) 9 then bif fitI (x.3 + 1) 5 then fitI (cutI x.11 25 18) 18 else false else false else false then putV (cutI x.11 0 10) (cutI x.10 39 9) (ieq (cutI x.10 48 1) 1) (x.3 + 1) (cutI x.11 25 18) else 0) else s.3)) (Tr.ret { d := true, x := { popped := x.1, gave := x.2, u := x.3, sh := x.4, kd := x.5, ky := x.6, only := x.7, att := x.8, at' := (2 : Int), found := x.10, word := x.11 }, s := { t := s.1, n := s.2, xs := bif casB s.3 (cutI x.10 12 9) x.11 then putI s.3 (cutI x.10 12 9) (bif bif fitI (cutI x.11 0 10) 10 then bif fitI (cutI x.10 39 9) 9 then bif fitI (x.3 + 1) 5 then fitI (cutI x.11 25 18) 18 else false else false else false then putV (cutI x.11 0 10) (cutI x.10 39 9) (ieq (cutI x.10 48 1) 1) (x.3 + 1) (cutI x.11 25 18) else 0) else s.3, c := s.4 + 1, k := (3 : Int), a := cutI x.10 12 9, o := peek s.3 (cutI x.10 12 9), w := bif inB s.3 (cutI x.10 12 9) then bif bif fitI (cutI x.11 0 10) 10 then bif fitI (cutI x.10 39 9) 9 then bif fitI (x.3 + 1) 5 then fitI (cutI x.11 25 18) 18 else false else false else false then putV (cutI x.11 0 10) (cutI x.10 39 9) (ieq (cutI x.10 48 1) 1) (x.3 + 1) (cutI x.11 25 18) else 0 else 0, ok := casB s.3 (cutI x.10 12 9) x.11 } }))))))
theorem exT_2_sum (t n : Int) (x : EXS) (s : MS) (K : ExO → Prop) (h : (exT_2 t n x s).run K) : CallOk (obI tbl) Tryz.prog 179 [.ptr 0 0, .ptr 1 0] [some (.cells [.int .i64 t, .int .i64 n, .int .i64 x.popped, .int .i64 x.gave, .int .i64 x.u, .int .i64 x.sh, .int .i64 x.kd, .int .i64 x.ky, .bool x.only, .int .i64 x.att, .int .i64 2, .int .u64 x.found, .int .u64 x.word]), memC 2 s, memX s] (LeafM 3 0 [] [] (exP t n) K) := by
  exact callOk_of (E := EX2) Tryz.checked.mixed (L := LL) (n := 10) (of_nf (q := (exT_2 t n x s).run K) (by kernel_rfl) h)
def exT_3 (t n : Int) (x : EXS) (s : MS) : Tr ExO := Tr.pre True (Tr.pre True (Tr.pre True (Tr.pre (List.length s.3 = List.length s.3) (Tr.pre True (Tr.pre ((((0 : Int) ≤ t ∧ t ≤ (100000 : Int)) ∧ ((0 : Int) ≤ n ∧ n ≤ (100000 : Int)) ∧ (-1099511627776 : Int) ≤ x.3 ∧ x.3 ≤ (1099511627776 : Int)) ∧ True) (Tr.pre ((List.length s.3 = List.length s.3 ∧ (0 : Int) ≤ s.4 ∧ s.4 ≤ (4611686018427387904 : Int)) ∧ True) (Tr.pre ((t = t ∧ n = n) ∧ List.length (bif casB s.3 (2 * n + 5 + 2 * t + 3 * x.3 + 2) x.10 then putI s.3 (2 * n + 5 + 2 * t + 3 * x.3 + 2) (bif dOk (cutI x.10 0 12) (cutI x.10 12 9) (cutI x.10 21 18) (cutI x.10 39 9) 3 (cutI x.10 52 10) then dPutV (cutI x.10 0 12) (cutI x.10 12 9) (cutI x.10 21 18) (cutI x.10 39 9) (ieq (cutI x.10 48 1) 1) 3 (cutI x.10 52 10) else 0) else s.3) = List.length (bif casB s.3 (2 * n + 5 + 2 * t + 3 * x.3 + 2) x.10 then putI s.3 (2 * n + 5 + 2 * t + 3 * x.3 + 2) (bif dOk (cutI x.10 0 12) (cutI x.10 12 9) (cutI x.10 21 18) (cutI x.10 39 9) 3 (cutI x.10 52 10) then dPutV (cutI x.10 0 12) (cutI x.10 12 9) (cutI x.10 21 18) (cutI x.10 39 9) (ieq (cutI x.10 48 1) 1) 3 (cutI x.10 52 10) else 0) else s.3)) (Tr.ret { d := true, x := { popped := x.1, gave := x.2, u := x.3, sh := x.4, kd := x.5, ky := x.6, only := x.7, att := x.8, at' := (3 : Int), found := x.10, word := x.11 }, s := { t := s.1, n := s.2, xs := bif casB s.3 (2 * n + 5 + 2 * t + 3 * x.3 + 2) x.10 then putI s.3 (2 * n + 5 + 2 * t + 3 * x.3 + 2) (bif dOk (cutI x.10 0 12) (cutI x.10 12 9) (cutI x.10 21 18) (cutI x.10 39 9) 3 (cutI x.10 52 10) then dPutV (cutI x.10 0 12) (cutI x.10 12 9) (cutI x.10 21 18) (cutI x.10 39 9) (ieq (cutI x.10 48 1) 1) 3 (cutI x.10 52 10) else 0) else s.3, c := s.4 + 1, k := (3 : Int), a := (2 : Int) * n + 5 + 2 * t + 3 * x.3 + 2, o := peek s.3 (2 * n + 5 + 2 * t + 3 * x.3 + 2), w := bif inB s.3 (2 * n + 5 + 2 * t + 3 * x.3 + 2) then bif dOk (cutI x.10 0 12) (cutI x.10 12 9) (cutI x.10 21 18) (cutI x.10 39 9) 3 (cutI x.10 52 10) then dPutV (cutI x.10 0 12) (cutI x.10 12 9) (cutI x.10 21 18) (cutI x.10 39 9) (ieq (cutI x.10 48 1) 1) 3 (cutI x.10 52 10) else 0 else 0, ok := casB s.3 (2 * n + 5 + 2 * t + 3 * x.3 + 2) x.10 } }))))))))
theorem exT_3_sum (t n : Int) (x : EXS) (s : MS) (K : ExO → Prop) (h : (exT_3 t n x s).run K) : CallOk (obI tbl) Tryz.prog 179 [.ptr 0 0, .ptr 1 0] [some (.cells [.int .i64 t, .int .i64 n, .int .i64 x.popped, .int .i64 x.gave, .int .i64 x.u, .int .i64 x.sh, .int .i64 x.kd, .int .i64 x.ky, .bool x.only, .int .i64 x.att, .int .i64 3, .int .u64 x.found, .int .u64 x.word]), memC 2 s, memX s] (LeafM 3 0 [] [] (exP t n) K) := by
  exact callOk_of (E := EX2) Tryz.checked.mixed (L := LL) (n := 10) (of_nf (q := (exT_3 t n x s).run K) (by kernel_rfl) h)
def exT_4 (t n : Int) (x : EXS) (s : MS) : Tr ExO := Tr.pre True (Tr.pre True (Tr.pre True (Tr.pre (List.length s.3 = List.length s.3) (Tr.pre True (Tr.pre ((((0 : Int) ≤ t ∧ t ≤ (100000 : Int)) ∧ ((0 : Int) ≤ n ∧ n ≤ (100000 : Int)) ∧ (-1099511627776 : Int) ≤ x.3 ∧ x.3 ≤ (1099511627776 : Int)) ∧ True) (Tr.pre ((List.length s.3 = List.length s.3 ∧ (0 : Int) ≤ s.4 ∧ s.4 ≤ (4611686018427387904 : Int)) ∧ True) (Tr.pre ((t = t ∧ n = n) ∧ List.length (bif casB s.3 (2 * n + 5 + 2 * t + 3 * x.3 + 2) x.10 then putI s.3 (2 * n + 5 + 2 * t + 3 * x.3 + 2) (bif dOk (cutI x.10 0 12) (cutI x.10 12 9) (cutI x.10 21 18) (cutI x.10 39 9) 4 (cutI x.10 52 10) then dPutV (cutI x.10 0 12) (cutI x.10 12 9) (cutI x.10 21 18) (cutI x.10 39 9) (ieq (cutI x.10 48 1) 1) 4 (cutI x.10 52 10) else 0) else s.3) = List.length (bif casB s.3 (2 * n + 5 + 2 * t + 3 * x.3 + 2) x.10 then putI s.3 (2 * n + 5 + 2 * t + 3 * x.3 + 2) (bif dOk (cutI x.10 0 12) (cutI x.10 12 9) (cutI x.10 21 18) (cutI x.10 39 9) 4 (cutI x.10 52 10) then dPutV (cutI x.10 0 12) (cutI x.10 12 9) (cutI x.10 21 18) (cutI x.10 39 9) (ieq (cutI x.10 48 1) 1) 4 (cutI x.10 52 10) else 0) else s.3)) (Tr.ret { d := true, x := { popped := x.1, gave := x.2, u := x.3, sh := x.4, kd := x.5, ky := x.6, only := x.7, att := x.8, at' := (4 : Int), found := x.10, word := x.11 }, s := { t := s.1, n := s.2, xs := bif casB s.3 (2 * n + 5 + 2 * t + 3 * x.3 + 2) x.10 then putI s.3 (2 * n + 5 + 2 * t + 3 * x.3 + 2) (bif dOk (cutI x.10 0 12) (cutI x.10 12 9) (cutI x.10 21 18) (cutI x.10 39 9) 4 (cutI x.10 52 10) then dPutV (cutI x.10 0 12) (cutI x.10 12 9) (cutI x.10 21 18) (cutI x.10 39 9) (ieq (cutI x.10 48 1) 1) 4 (cutI x.10 52 10) else 0) else s.3, c := s.4 + 1, k := (3 : Int), a := (2 : Int) * n + 5 + 2 * t + 3 * x.3 + 2, o := peek s.3 (2 * n + 5 + 2 * t + 3 * x.3 + 2), w := bif inB s.3 (2 * n + 5 + 2 * t + 3 * x.3 + 2) then bif dOk (cutI x.10 0 12) (cutI x.10 12 9) (cutI x.10 21 18) (cutI x.10 39 9) 4 (cutI x.10 52 10) then dPutV (cutI x.10 0 12) (cutI x.10 12 9) (cutI x.10 21 18) (cutI x.10 39 9) (ieq (cutI x.10 48 1) 1) 4 (cutI x.10 52 10) else 0 else 0, ok := casB s.3 (2 * n + 5 + 2 * t + 3 * x.3 + 2) x.10 } }))))))))
theorem exT_4_sum (t n : Int) (x : EXS) (s : MS) (K : ExO → Prop) (h : (exT_4 t n x s).run K) : CallOk (obI tbl) Tryz.prog 179 [.ptr 0 0, .ptr 1 0] [some (.cells [.int .i64 t, .int .i64 n, .int .i64 x.popped, .int .i64 x.gave, .int .i64 x.u, .int .i64 x.sh, .int .i64 x.kd, .int .i64 x.ky, .bool x.only, .int .i64 x.att, .int .i64 4, .int .u64 x.found, .int .u64 x.word]), memC 2 s, memX s] (LeafM 3 0 [] [] (exP t n) K) := by
  exact callOk_of (E := EX2) Tryz.checked.mixed (L := LL) (n := 10) (of_nf (q := (exT_4 t n x s).run K) (by kernel_rfl) h)
def exT_5 (t n : Int) (x : EXS) (s : MS) : Tr ExO := Tr.pre True (Tr.pre True (Tr.pre True (Tr.pre (List.length s.3 = List.length s.3 ∧ (0 : Int) ≤ s.4 ∧ s.4 ≤ (4611686018427387904 : Int)) (Tr.pre True (Tr.pre True (Tr.ite (ieq (cutI (peek s.3 (cutI x.10 12 9)) 25 18) (cutI x.10 21 18)) (Tr.ite (ieq (cutI (peek s.3 (cutI x.10 12 9)) 20 5) 0) (Tr.pre ((t = t ∧ n = n) ∧ List.length s.3 = List.length s.3) (Tr.ret { d := false, x := { popped := x.1, gave := x.2, u := x.3, sh := x.4, kd := x.5, ky := x.6, only := x.7, att := x.8, at' := (7 : Int), found := x.10, word := peek s.3 (cutI x.10 12 9) }, s := { t := s.1, n := s.2, xs := s.3, c := s.4 + 1, k := (1 : Int), a := cutI x.10 12 9, o := peek s.3 (cutI x.10 12 9), w := peek s.3 (cutI x.10 12 9), ok := inB s.3 (cutI x.10 12 9) } })) (Tr.pre True (Tr.ite (ieq (cutI (peek s.3 (cutI x.10 12 9)) 25 18) (cutI x.10 21 18)) (Tr.ite (ieq (cutI (peek s.3 (cutI x.10 12 9)) 20 5) (W (x.3 + 1))) (Tr.pre ((t = t ∧ n = n) ∧ List.length s.3 = List.length s.3) (Tr.ret { d := false, x := { popped := x.1, gave := x.2, u := x.3, sh := x.4, kd := x.5, ky := x.6, only := x.7, att := x.8, at' := (6 : Int), found := x.10, word := peek s.3 (cutI x.10 12 9) }, s := { t := s.1, n := s.2, xs := s.3, c := s.4 + 1, k := (1 : Int), a := cutI x.10 12 9, o := peek s.3 (cutI x.10 12 9), w := peek s.3 (cutI x.10 12 9), ok := inB s.3 (cutI x.10 12 9) } })) (Tr.pre ((t = t ∧ n = n) ∧ List.length s.3 = List.length s.3) (Tr.ret { d := false, x := { popped := x.1, gave := x.2, u := x.3, sh := x.4, kd := x.5, ky := x.6, only := x.7, att := x.8, at' := (7 : Int), found := x.10, word := peek s.3 (cutI x.10 12 9) }, s := { t := s.1, n := s.2, xs := s.3, c := s.4 + 1, k := (1 : Int), a := cutI x.10 12 9, o := peek s.3 (cutI x.10 12 9), w := peek s.3 (cutI x.10 12 9), ok := inB s.3 (cutI x.10 12 9) } }))) (Tr.pre ((t = t ∧ n = n) ∧ List.length s.3 = List.length s.3) (Tr.ret { d := false, x := { popped := x.1, gave := x.2, u := x.3, sh := x.4, kd := x.5, ky := x.6, only := x.7, att := x.8, at' := (7 : Int), found := x.10, word := peek s.3 (cutI x.10 12 9) }, s := { t := s.1, n := s.2, xs := s.3, c := s.4 + 1, k := (1 : Int), a := cutI x.10 12 9, o := peek s.3 (cutI x.10 12 9), w := peek s.3 (cutI x.10 12 9), ok := inB s.3 (cutI x.10 12 9) } }))))) (Tr.pre True (Tr.ite (ieq (cutI (peek s.3 (cutI x.10 12 9)) 25 18) (cutI x.10 21 18)) (Tr.ite (ieq (cutI (peek s.3 (cutI x.10 12 9)) 20 5) (W (x.3 + 1))) (Tr.pre ((t = t ∧ n = n) ∧ List.length s.3 = List.length s.3) (Tr.ret { d := false, x := { popped := x.1, gave := x.2, u := x.3, sh := x.4, kd := x.5, ky := x.6, only := x.7, att := x.8, at' := (6 : Int), found := x.10, word := peek s.3 (cutI x.10 12 9) }, s := { t := s.1, n := s.2, xs := s.3, c := s.4 + 1, k := (1 : Int), a := cutI x.10 12 9, o := peek s.3 (cutI x.10 12 9), w := peek s.3 (cutI x.10 12 9), ok := inB s.3 (cutI x.10 12 9) } })) (Tr.pre ((t = t ∧ n = n) ∧ List.length s.3 = List.length s.3) (Tr.ret { d := false, x := { popped := x.1, gave := x.2, u := x.3, sh := x.4, kd := x.5, ky := x.6, only := x.7, att := x.8, at' := (7 : Int), found := x.10, word := peek s.3 (cutI x.10 12 9) }, s := { t := s.1, n := s.2, xs := s.3, c := s.4 + 1, k := (1 : Int), a := cutI x.10 12 9, o := peek s.3 (cutI x.10 12 9), w := peek s.3 (cutI x.10 12 9), ok := inB s.3 (cutI x.10 12 9) } }))) (Tr.pre ((t = t ∧ n = n) ∧ List.length s.3 = List.length s.3) (Tr.ret { d := false, x := { popped := x.1, gave := x.2, u := x.3, sh := x.4, kd := x.5, ky := x.6, only := x.7, att := x.8, at' := (7 : Int), found := x.10, word := peek s.3 (cutI x.10 12 9) }, s := { t := s.1, n := s.2, xs := s.3, c := s.4 + 1, k := (1 : Int), a := cutI x.10 12 9, o := peek s.3 (cutI x.10 12 9), w := peek s.3 (cutI x.10 12 9), ok := inB s.3 (cutI x.10 12 9) } }))))))))))
theorem exT_5_sum (t n : Int) (x : EXS) (s : MS) (K : ExO → Prop) (h : (exT_5 t n x s).run K) : CallOk (obI tbl) Tryz.prog 179 [.ptr 0 0, .ptr 1 0] [some (.cells [.int .i64 t, .int .i64 n, .int .i64 x.popped, .int .i64 x.gave, .int .i64 x.u, .int .i64 x.sh, .int .i64 x.kd, .int .i64 x.ky, .bool x.only, .int .i64 x.att, .int .i64 5, .int .u64 x.found, .int .u64 x.word]), memC 2 s, memX s] (LeafM 3 0 [] [] (exP t n) K) := by
  exact callOk_of (E := EX2) Tryz.checked.mixed (L := LL) (n := 10) (of_nf (q := (exT_5 t n x s).run K) (by kernel_rfl) h)
def exT_6 (t n : Int) (x : EXS) (s : MS) : Tr ExO := Tr.pre True (Tr.pre True (Tr.pre ((0 : Int) ≤ cutI x.11 25 18 ∧ cutI x.11 25 (18 : Int) ≤ (1000000 : Int)) (Tr.pre (List.length s.3 = List.length s.3) (Tr.pre True (Tr.pre True (Tr.pre ((List.length s.3 = List.length s.3 ∧ (0 : Int) ≤ s.4 ∧ s.4 ≤ (4611686018427387904 : Int)) ∧ True) (Tr.pre ((t = t ∧ n = n) ∧ List.length (bif casB s.3 (cutI x.10 12 9) x.11 then putI s.3 (cutI x.10 12 9) (bif bif fitI (cutI x.11 0 10) 10 then bif fitI (cutI x.11 10 9) 9 then bif fitI 0 5 then fitI (newerI (cutI x.11 25 18)) 18 else false else false else false then putV (cutI x.11 0 10) (cutI x.11 10 9) (ieq (cutI x.11 19 1) 1) 0 (newerI (cutI x.11 25 18)) else 0) else s.3) = List.length (bif casB s.3 (cutI x.10 12 9) x.11 then putI s.3 (cutI x.10 12 9) (bif bif fitI (cutI x.11 0 10) 10 then bif fitI (cutI x.11 10 9) 9 then bif fitI 0 5 then fitI (newerI (cutI x.11 25 18)) 18 else false else false else false then putV (cutI x.11 0 10) (cutI x.11 10 9) (ieq (cutI x.11 19 1) 1) 0 (newerI (cutI x.11 25 18)) else 0) else s.3)) (Tr.ret { d := false, x := { popped := x.1, gave := x.2, u := x.3, sh := x.4, kd := x.5, ky := x.6, only := x.7, att := x.8, at' := (7 : Int), found := x.10, word := x.11 }, s := { t := s.1, n := s.2, xs := bif casB s.3 (cutI x.10 12 9) x.11 then putI s.3 (cutI x.10 12 9) (bif bif fitI (cutI x.11 0 10) 10 then bif fitI (cutI x.11 10 9) 9 then bif fitI 0 5 then fitI (newerI (cutI x.11 25 18)) 18 else false else false else false then putV (cutI x.11 0 10) (cutI x.11 10 9) (ieq (cutI x.11 19 1) 1) 0 (newerI (cutI x.11 25 18)) else 0) else s.3, c := s.4 + 1, k := (3 : Int), a := cutI x.10 12 9, o := peek s.3 (cutI x.10 12 9), w := bif inB s.3 (cutI x.10 12 9) then bif bif fitI (cutI x.11 0 10) 10 then bif fitI (cutI x.11 10 9) 9 then bif fitI 0 5 then fitI (newerI (cutI x.11 25 18)) 18 else false else false else false then putV (cutI x.11 0 10) (cutI x.11 10 9) (ieq (cutI x.11 19 1) 1) 0 (newerI (cutI x.11 25 18)) else 0 else 0, ok := casB s.3 (cutI x.10 12 9) x.11 } }))))))))
theorem exT_6_sum (t n : Int) (x : EXS) (s : MS) (K : ExO → Prop) (h : (exT_6 t n x s).run K) : CallOk (obI tbl) Tryz.prog 179 [.ptr 0 0, .ptr 1 0] [some (.cells [.int .i64 t, .int .i64 n, .int .i64 x.popped, .int .i64 x.gave, .int .i64 x.u, .int .i64 x.sh, .int .i64 x.kd, .int .i64 x.ky, .bool x.only, .int .i64 x.att, .int .i64 6, .int .u64 x.found, .int .u64 x.word]), memC 2 s, memX s] (LeafM 3 0 [] [] (exP t n) K) := by
  exact callOk_of (E := EX2) Tryz.checked.mixed (L := LL) (n := 10) (of_nf (q := (exT_6 t n x s).run K) (by kernel_rfl) h)
def exT_7 (t n : Int) (x : EXS) (s : MS) : Tr ExO := Tr.pre True (Tr.pre True (Tr.pre True (Tr.pre (List.length s.3 = List.length s.3) (Tr.pre True (Tr.pre ((((0 : Int) ≤ t ∧ t ≤ (100000 : Int)) ∧ ((0 : Int) ≤ n ∧ n ≤ (100000 : Int)) ∧ (-1099511627776 : Int) ≤ x.3 ∧ x.3 ≤ (1099511627776 : Int)) ∧ True) (Tr.pre ((List.length s.3 = List.length s.3 ∧ (0 : Int) ≤ s.4 ∧ s.4 ≤ (4611686018427387904 : Int)) ∧ True) (Tr.pre ((t = t ∧ n = n) ∧ List.length (bif casB s.3 (2 * n + 5 + 2 * t + 3 * x.3 + 2) x.10 then putI s.3 (2 * n + 5 + 2 * t + 3 * x.3 + 2) (bif dOk (cutI x.10 0 12) 0 0 0 5 (cutI x.10 52 10) then dPutV (cutI x.10 0 12) 0 0 0 true 5 (cutI x.10 52 10) else 0) else s.3) = List.length (bif casB s.3 (2 * n + 5 + 2 * t + 3 * x.3 + 2) x.10 then putI s.3 (2 * n + 5 + 2 * t + 3 * x.3 + 2) (bif dOk (cutI x.10 0 12) 0 0 0 5 (cutI x.10 52 10) then dPutV (cutI x.10 0 12) 0 0 0 true 5 (cutI x.10 52 10) else 0) else s.3)) (Tr.ret { d := true, x := { popped := x.1, gave := x.2, u := x.3, sh := x.4, kd := x.5, ky := x.6, only := x.7, att := x.8, at' := (7 : Int), found := x.10, word := x.11 }, s := { t := s.1, n := s.2, xs := bif casB s.3 (2 * n + 5 + 2 * t + 3 * x.3 + 2) x.10 then putI s.3 (2 * n + 5 + 2 * t + 3 * x.3 + 2) (bif dOk (cutI x.10 0 12) 0 0 0 5 (cutI x.10 52 10) then dPutV (cutI x.10 0 12) 0 0 0 true 5 (cutI x.10 52 10) else 0) else s.3, c := s.4 + 1, k := (3 : Int), a := (2 : Int) * n + 5 + 2 * t + 3 * x.3 + 2, o := peek s.3 (2 * n + 5 + 2 * t + 3 * x.3 + 2), w := bif inB s.3 (2 * n + 5 + 2 * t + 3 * x.3 + 2) then bif dOk (cutI x.10 0 12) 0 0 0 5 (cutI x.10 52 10) then dPutV (cutI x.10 0 12) 0 0 0 true 5 (cutI x.10 52 10) else 0 else 0, ok := casB s.3 (2 * n + 5 + 2 * t + 3 * x.3 + 2) x.10 } }))))))))
theorem exT_7_sum (t n : Int) (x : EXS) (s : MS) (K : ExO → Prop) (h : (exT_7 t n x s).run K) : CallOk (obI tbl) Tryz.prog 179 [.ptr 0 0, .ptr 1 0] [some (.cells [.int .i64 t, .int .i64 n, .int .i64 x.popped, .int .i64 x.gave, .int .i64 x.u, .int .i64 x.sh, .int .i64 x.kd, .int .i64 x.ky, .bool x.only, .int .i64 x.att, .int .i64 7, .int .u64 x.found, .int .u64 x.word]), memC 2 s, memX s] (LeafM 3 0 [] [] (exP t n) K) := by
  exact callOk_of (E := EX2) Tryz.checked.mixed (L := LL) (n := 10) (of_nf (q := (exT_7 t n x s).run K) (by kernel_rfl) h)
def exT_8 (t n : Int) (x : EXS) (s : MS) : Tr ExO := Tr.pre True (Tr.pre True (Tr.pre ((0 : Int) ≤ cutI x.10 0 12 ∧ cutI x.10 0 (12 : Int) ≤ (1000000 : Int)) (Tr.pre (List.length s.3 = List.length s.3 ∧ True ∧ ((((0 : Int) ≤ t ∧ t ≤ (100000 : Int)) ∧ ((0 : Int) ≤ n ∧ n ≤ (100000 : Int)) ∧ (-1099511627776 : Int) ≤ x.3 ∧ x.3 ≤ (1099511627776 : Int)) ∧ True) ∧ ((List.length s.3 = List.length s.3 ∧ (0 : Int) ≤ s.4 ∧ s.4 ≤ (4611686018427387904 : Int)) ∧ True) ∧ True) (Tr.ite (!casB s.3 (2 * n + 5 + 2 * t + 3 * x.3 + 2) x.10) (Tr.pre ((t = t ∧ n = n) ∧ List.length (bif casB s.3 (2 * n + 5 + 2 * t + 3 * x.3 + 2) x.10 then putI s.3 (2 * n + 5 + 2 * t + 3 * x.3 + 2) (bif dOk (attI (cutI x.10 0 12)) 0 0 0 1 0 then dPutV (attI (cutI x.10 0 12)) 0 0 0 false 1 0 else 0) else s.3) = List.length (bif casB s.3 (2 * n + 5 + 2 * t + 3 * x.3 + 2) x.10 then putI s.3 (2 * n + 5 + 2 * t + 3 * x.3 + 2) (bif dOk (attI (cutI x.10 0 12)) 0 0 0 1 0 then dPutV (attI (cutI x.10 0 12)) 0 0 0 false 1 0 else 0) else s.3)) (Tr.ret { d := true, x := { popped := x.1, gave := x.2, u := x.3, sh := x.4, kd := x.5, ky := x.6, only := x.7, att := x.8, at' := (9 : Int), found := x.10, word := x.11 }, s := { t := s.1, n := s.2, xs := bif casB s.3 (2 * n + 5 + 2 * t + 3 * x.3 + 2) x.10 then putI s.3 (2 * n + 5 + 2 * t + 3 * x.3 + 2) (bif dOk (attI (cutI x.10 0 12)) 0 0 0 1 0 then dPutV (attI (cutI x.10 0 12)) 0 0 0 false 1 0 else 0) else s.3, c := s.4 + 1, k := (3 : Int), a := (2 : Int) * n + 5 + 2 * t + 3 * x.3 + 2, o := peek s.3 (2 * n + 5 + 2 * t + 3 * x.3 + 2), w := bif inB s.3 (2 * n + 5 + 2 * t + 3 * x.3 + 2) then bif dOk (attI (cutI x.10 0 12)) 0 0 0 1 0 then dPutV (attI (cutI x.10 0 12)) 0 0 0 false 1 0 else 0 else 0, ok := casB s.3 (2 * n + 5 + 2 * t + 3 * x.3 + 2) x.10 } })) (Tr.pre True (Tr.ite (!linksB x.5) (Tr.pre ((t = t ∧ n = n) ∧ List.length (bif casB s.3 (2 * n + 5 + 2 * t + 3 * x.3 + 2) x.10 then putI s.3 (2 * n + 5 + 2 * t + 3 * x.3 + 2) (bif dOk (attI (cutI x.10 0 12)) 0 0 0 1 0 then dPutV (attI (cutI x.10 0 12)) 0 0 0 false 1 0 else 0) else s.3) = List.length (bif casB s.3 (2 * n + 5 + 2 * t + 3 * x.3 + 2) x.10 then putI s.3 (2 * n + 5 + 2 * t + 3 * x.3 + 2) (bif dOk (attI (cutI x.10 0 12)) 0 0 0 1 0 then dPutV (attI (cutI x.10 0 12)) 0 0 0 false 1 0 else 0) else s.3)) (Tr.ret { d := true, x := { popped := x.1, gave := x.2, u := x.3, sh := x.4, kd := x.5, ky := x.6, only := x.7, att := x.8, at' := (9 : Int), found := x.10, word := x.11 }, s := { t := s.1, n := s.2, xs := bif casB s.3 (2 * n + 5 + 2 * t + 3 * x.3 + 2) x.10 then putI s.3 (2 * n + 5 + 2 * t + 3 * x.3 + 2) (bif dOk (attI (cutI x.10 0 12)) 0 0 0 1 0 then dPutV (attI (cutI x.10 0 12)) 0 0 0 false 1 0 else 0) else s.3, c := s.4 + 1, k := (3 : Int), a := (2 : Int) * n + 5 + 2 * t + 3 * x.3 + 2, o := peek s.3 (2 * n + 5 + 2 * t + 3 * x.3 + 2), w := bif inB s.3 (2 * n + 5 + 2 * t + 3 * x.3 + 2) then bif dOk (attI (cutI x.10 0 12)) 0 0 0 1 0 then dPutV (attI (cutI x.10 0 12)) 0 0 0 false 1 0 else 0 else 0, ok := casB s.3 (2 * n + 5 + 2 * t + 3 * x.3 + 2) x.10 } })) (Tr.pre (True ∧ True) (Tr.pre ((t = t ∧ n = n) ∧ List.length (bif casB s.3 (2 * n + 5 + 2 * t + 3 * x.3 + 2) x.10 then putI s.3 (2 * n + 5 + 2 * t + 3 * x.3 + 2) (bif dOk (attI (cutI x.10 0 12)) 0 0 0 1 0 then dPutV (attI (cutI x.10 0 12)) 0 0 0 false 1 0 else 0) else s.3) = List.length (bif casB s.3 (2 * n + 5 + 2 * t + 3 * x.3 + 2) x.10 then putI s.3 (2 * n + 5 + 2 * t + 3 * x.3 + 2) (bif dOk (attI (cutI x.10 0 12)) 0 0 0 1 0 then dPutV (attI (cutI x.10 0 12)) 0 0 0 false 1 0 else 0) else s.3)) (Tr.ret { d := !nodeB n (cutI x.10 39 9), x := { popped := x.1, gave := x.2, u := x.3, sh := x.4, kd := x.5, ky := x.6, only := x.7, att := x.8, at' := (9 : Int), found := x.10, word := x.11 }, s := { t := s.1, n := s.2, xs := bif casB s.3 (2 * n + 5 + 2 * t + 3 * x.3 + 2) x.10 then putI s.3 (2 * n + 5 + 2 * t + 3 * x.3 + 2) (bif dOk (attI (cutI x.10 0 12)) 0 0 0 1 0 then dPutV (attI (cutI x.10 0 12)) 0 0 0 false 1 0 else 0) else s.3, c := s.4 + 1, k := (3 : Int), a := (2 : Int) * n + 5 + 2 * t + 3 * x.3 + 2, o := peek s.3 (2 * n + 5 + 2 * t + 3 * x.3 + 2), w := bif inB s.3 (2 * n + 5 + 2 * t + 3 * x.3 + 2) then bif dOk (attI (cutI x.10 0 12)) 0 0 0 1 0 then dPutV (attI (cutI x.10 0 12)) 0 0 0 false 1 0 else 0 else 0, ok := casB s.3 (2 * n + 5 + 2 * t + 3 * x.3 + 2) x.10 } })))))))))
theorem exT_8_sum (t n : Int) (x : EXS) (s : MS) (K : ExO → Prop) (h : (exT_8 t n x s).run K) : CallOk (obI tbl) Tryz.prog 179 [.ptr 0 0, .ptr 1 0] [some (.cells [.int .i64 t, .int .i64 n, .int .i64 x.popped, .int .i64 x.gave, .int .i64 x.u, .int .i64 x.sh, .int .i64 x.kd, .int .i64 x.ky, .bool x.only, .int .i64 x.att, .int .i64 8, .int .u64 x.found, .int .u64 x.word]), memC 2 s, memX s] (LeafM 3 0 [] [] (exP t n) K) := by
  exact callOk_of (E := EX2) Tryz.checked.mixed (L := LL) (n := 10) (of_nf (q := (exT_8 t n x s).run K) (by kernel_rfl) h)
def exT_9 (t n : Int) (x : EXS) (s : MS) : Tr ExO := Tr.pre True (Tr.pre True (Tr.pre ((((0 : Int) ≤ t ∧ t ≤ (100000 : Int)) ∧ ((0 : Int) ≤ n ∧ n ≤ (100000 : Int)) ∧ (-1099511627776 : Int) ≤ cutI x.10 39 9 ∧ cutI x.10 39 (9 : Int) ≤ (1099511627776 : Int)) ∧ True) (Tr.pre ((List.length s.3 = List.length s.3 ∧ (0 : Int) ≤ s.4 ∧ s.4 ≤ (4611686018427387904 : Int)) ∧ True) (Tr.pre ((t = t ∧ n = n) ∧ List.length (putI s.3 (n + 4 + cutI x.10 39 9) (WU (peek s.3 (n + 4 + cutI x.10 39 9) + 1))) = List.length (putI s.3 (n + 4 + cutI x.10 39 9) (WU (peek s.3 (n + 4 + cutI x.10 39 9) + 1)))) (Tr.ret { d := true, x := { popped := x.1, gave := cutI x.10 39 9, u := x.3, sh := x.4, kd := x.5, ky := x.6, only := x.7, att := x.8, at' := (9 : Int), found := x.10, word := x.11 }, s := { t := s.1, n := s.2, xs := putI s.3 (n + 4 + cutI x.10 39 9) (WU (peek s.3 (n + 4 + cutI x.10 39 9) + 1)), c := s.4 + 1, k := (4 : Int), a := n + 4 + cutI x.10 39 9, o := peek s.3 (n + 4 + cutI x.10 39 9), w := bif inB s.3 (n + 4 + cutI x.10 39 9) then WU (peek s.3 (n + 4 + cutI x.10 39 9) + 1) else 0, ok := inB s.3 (n + 4 + cutI x.10 39 9) } })))))
theorem exT_9_sum (t n : Int) (x : EXS) (s : MS) (K : ExO → Prop) (h : (exT_9 t n x s).run K) : CallOk (obI tbl) Tryz.prog 179 [.ptr 0 0, .ptr 1 0] [some (.cells [.int .i64 t, .int .i64 n, .int .i64 x.popped, .int .i64 x.gave, .int .i64 x.u, .int .i64 x.sh, .int .i64 x.kd, .int .i64 x.ky, .bool x.only, .int .i64 x.att, .int .i64 9, .int .u64 x.found, .int .u64 x.word]), memC 2 s, memX s] (LeafM 3 0 [] [] (exP t n) K) := by
  exact callOk_of (E := EX2) Tryz.checked.mixed (L := LL) (n := 10) (of_nf (q := (exT_9 t n x s).run K) (by kernel_rfl) h)
def exT (t n : Int) (x : EXS) (s : MS) : Tr ExO :=
  bif ieq x.at' 0 then exT_0 t n x s else
  bif ieq x.at' 1 then exT_1 t n x s else
  bif ieq x.at' 2 then exT_2 t n x s else
  bif ieq x.at' 3 then exT_3 t n x s else
  bif ieq x.at' 4 then exT_4 t n x s else
  bif ieq x.at' 5 then exT_5 t n x s else
  bif ieq x.at' 6 then exT_6 t n x s else
  bif ieq x.at' 7 then exT_7 t n x s else
  bif ieq x.at' 8 then exT_8 t n x s else
  bif ieq x.at' 9 then exT_9 t n x s else .pre False (.ret default)
def exF (t n : Int) (x : EXS) (s : MS) : ExO := (exT t n x s).val
def exOk (t n : Int) (x : EXS) (s : MS) : Prop := (exT t n x s).ok
theorem ex_step (t n : Int) (x : EXS) (s : MS) (K : AVal → Heap Ob → Prop) (h : (exT t n x s).run (fun y => (ExO.fin t n y).run K)) : CallOk (obI tbl) Tryz.prog 179 [.ptr 0 0, .ptr 1 0] (exH t n x s) K := by
  unfold exT at h
  by_cases e : x.at' = 0
  · rw [e] at h
    have h : (exT_0 t n x s).run _ := h
    refine CallOk.openM (root := 0) (pos := []) (cs := []) (parse := exP t n) (fin := ExO.fin t n) exP_ok (Opens.unpack (.exec t n x) 0 0 (execG0 t n x) [] rfl (congrArg (Prod.mk 0) rfl) (by kernel_rfl) rfl) ?_
    have q := exT_0_sum t n x s _ h
    rw [← e] at q
    exact q
  rw [ieq_n e] at h
  by_cases e : x.at' = 1
  · rw [e] at h
    have h : (exT_1 t n x s).run _ := h
    refine CallOk.openM (root := 0) (pos := []) (cs := []) (parse := exP t n) (fin := ExO.fin t n) exP_ok (Opens.unpack (.exec t n x) 0 0 (execG0 t n x) [] rfl (congrArg (Prod.mk 0) rfl) (by kernel_rfl) rfl) ?_
    have q := exT_1_sum t n x s _ h
    rw [← e] at q
    exact q
  rw [ieq_n e] at h
  by_cases e : x.at' = 2
  · rw [e] at h
    have h : (exT_2 t n x s).run _ := h
    refine CallOk.openM (root := 0) (pos := []) (cs := []) (parse := exP t n) (fin := ExO.fin t n) exP_ok (Opens.unpack (.exec t n x) 0 0 (execG0 t n x) [] rfl (congrArg (Prod.mk 0) rfl) (by kernel_rfl) rfl) ?_
    have q := exT_2_sum t n x s _ h
    rw [← e] at q
    exact q
  rw [ieq_n e] at h
  by_cases e : x.at' = 3
  · rw [e] at h
    have h : (exT_3 t n x s).run _ := h
    refine CallOk.openM (root := 0) (pos := []) (cs := []) (parse := exP t n) (fin := ExO.fin t n) exP_ok (Opens.unpack (.exec t n x) 0 0 (execG0 t n x) [] rfl (congrArg (Prod.mk 0) rfl) (by kernel_rfl) rfl) ?_
    have q := exT_3_sum t n x s _ h
    rw [← e] at q
    exact q
  rw [ieq_n e] at h
  by_cases e : x.at' = 4
  · rw [e] at h
    have h : (exT_4 t n x s).run _ := h
    refine CallOk.openM (root := 0) (pos := []) (cs := []) (parse := exP t n) (fin := ExO.fin t n) exP_ok (Opens.unpack (.exec t n x) 0 0 (execG0 t n x) [] rfl (congrArg (Prod.mk 0) rfl) (by kernel_rfl) rfl) ?_
    have q := exT_4_sum t n x s _ h
    rw [← e] at q
    exact q
  rw [ieq_n e] at h
  by_cases e : x.at' = 5
  · rw [e] at h
    have h : (exT_5 t n x s).run _ := h
    refine CallOk.openM (root := 0) (pos := []) (cs := []) (parse := exP t n) (fin := ExO.fin t n) exP_ok (Opens.unpack (.exec t n x) 0 0 (execG0 t n x) [] rfl (congrArg (Prod.mk 0) rfl) (by kernel_rfl) rfl) ?_
    have q := exT_5_sum t n x s _ h
    rw [← e] at q
    exact q
  rw [ieq_n e] at h
  by_cases e : x.at' = 6
  · rw [e] at h
    have h : (exT_6 t n x s).run _ := h
    refine CallOk.openM (root := 0) (pos := []) (cs := []) (parse := exP t n) (fin := ExO.fin t n) exP_ok (Opens.unpack (.exec t n x) 0 0 (execG0 t n x) [] rfl (congrArg (Prod.mk 0) rfl) (by kernel_rfl) rfl) ?_
    have q := exT_6_sum t n x s _ h
    rw [← e] at q
    exact q
  rw [ieq_n e] at h
  by_cases e : x.at' = 7
  · rw [e] at h
    have h : (exT_7 t n x s).run _ := h
    refine CallOk.openM (root := 0) (pos := []) (cs := []) (parse := exP t n) (fin := ExO.fin t n) exP_ok (Opens.unpack (.exec t n x) 0 0 (execG0 t n x) [] rfl (congrArg (Prod.mk 0) rfl) (by kernel_rfl) rfl) ?_
    have q := exT_7_sum t n x s _ h
    rw [← e] at q
    exact q
  rw [ieq_n e] at h
  by_cases e : x.at' = 8
  · rw [e] at h
    have h : (exT_8 t n x s).run _ := h
    refine CallOk.openM (root := 0) (pos := []) (cs := []) (parse := exP t n) (fin := ExO.fin t n) exP_ok (Opens.unpack (.exec t n x) 0 0 (execG0 t n x) [] rfl (congrArg (Prod.mk 0) rfl) (by kernel_rfl) rfl) ?_
    have q := exT_8_sum t n x s _ h
    rw [← e] at q
    exact q
  rw [ieq_n e] at h
  by_cases e : x.at' = 9
  · rw [e] at h
    have h : (exT_9 t n x s).run _ := h
    refine CallOk.openM (root := 0) (pos := []) (cs := []) (parse := exP t n) (fin := ExO.fin t n) exP_ok (Opens.unpack (.exec t n x) 0 0 (execG0 t n x) [] rfl (congrArg (Prod.mk 0) rfl) (by kernel_rfl) rfl) ?_
    have q := exT_9_sum t n x s _ h
    rw [← e] at q
    exact q
  rw [ieq_n e] at h
  exact h.1.elim
noncomputable def exS : Spec Ob := fun args h => match args, h with
  | [.ptr 0 0, .ptr 1 0], [some (.abs (.exec t n x) []), e1, e2] => (match memL 2 [e1, e2] with
    | some (l, s) => some (.pre (l = s.xs.length ∧ exOk t n x s) (ExO.fin t n (exF t n x s)))
    | none => none)
  | _, _ => none
theorem ex_ok : Spec.ok (obI tbl) Tryz.prog 179 exS := by
  intro args h o ho K hK
  unfold exS at ho
  split at ho
  case h_2 => cases ho
  split at ho
  case h_2 => cases ho
  rename_i hm
  simp only [Option.some.injEq] at ho; subst ho
  obtain ⟨⟨hl, ok⟩, hK⟩ := hK
  have hh := memL_eq hm hl
  simp only [List.cons.injEq, and_true] at hh
  obtain ⟨rfl, rfl⟩ := hh
  exact ex_step _ _ _ _ K (Tr.run_of ok hK)
def exNP (t n : Int) (v : AVal) (g : Heap Ob) : Option (Prop × EXS) := match v, g with
  | .ptr 0 0, [some (.cells [.int .i64 t1, .int .i64 n1, .int .i64 popped, .int .i64 gave, .int .i64 u, .int .i64 sh, .int .i64 kd, .int .i64 ky, .bool only, .int .i64 att, .int .i64 at', .int .u64 found, .int .u64 word])] => some ((t1 = t ∧ n1 = n), (⟨popped, gave, u, sh, kd, ky, only, att, at', found, word⟩ : EXS))
  | _, _ => none
abbrev exNH (t n : Int) (y : EXS) : Heap Ob := [some (.abs (.exec t n y) [])]
theorem exNP_ok {t n : Int} : Reads (obI tbl) 0 (exNP t n) (fun y => .ret (.ptr 0 0) (exNH t n y)) := by
  intro v g p x hp hq K hK
  unfold exNP at hp
  split at hp
  case h_2 => cases hp
  rename_i t1 n1 popped gave u sh kd ky only att at' found word
  simp only [Option.some.injEq, Prod.mk.injEq] at hp
  obtain ⟨rfl, rfl⟩ := hp
  obtain ⟨rfl, rfl⟩ := hq
  exact ⟨⟨_, _, Tells.pack (exNH t1 n1 (⟨popped, gave, u, sh, kd, ky, only, att, at', found, word⟩ : EXS)) (.exec t1 n1 (⟨popped, gave, u, sh, kd, ky, only, att, at', found, word⟩ : EXS)) 0 0 (execG0 t1 n1 (⟨popped, gave, u, sh, kd, ky, only, att, at', found, word⟩ : EXS)) [] (by kernel_rfl) rfl (congrArg (Prod.mk 0) rfl) (by kernel_rfl), hK⟩⟩
def exNT (t n : Int) (u sh kd ky att : Int) : Tr EXS := Tr.pre (t = t ∧ n = n) (Tr.ret { popped := (0 : Int), gave := (0 : Int), u := u, sh := sh, kd := kd, ky := ky, only := true, att := att, at' := (0 : Int), found := (0 : Int), word := (0 : Int) })
def exNF (t n : Int) (u sh kd ky att : Int) : EXS := (exNT t n u sh kd ky att).val
def exNOk (t n : Int) (u sh kd ky att : Int) : Prop := (exNT t n u sh kd ky att).ok
def exNS : Spec Ob := fun args h => match args, h with
  | [.agg [.int .i64 t, .int .i64 n], .int .i64 u, .agg [.int .i64 sh, .int .i64 kd, .int .i64 ky], .int .i64 att], [] => some (.pre (exNOk t n u sh kd ky att) (.ret (.ptr 0 0) (exNH t n (exNF t n u sh kd ky att))))
  | _, _ => none
theorem exN_ok : Spec.ok (obI tbl) Tryz.prog 177 exNS := by
  intro args h o ho K hK
  unfold exNS at ho
  split at ho
  case h_2 => cases ho
  rename_i t n u sh kd ky att
  simp only [Option.some.injEq] at ho; subst ho
  obtain ⟨ok, hK⟩ := hK
  refine CallOk.plainM (root := 0) (pos := []) (cs := []) (parse := exNP t n) exNP_ok ?_
  exact callOk_of (E := EX2) Tryz.checked.mixed (L := LL) (n := 10) (of_nf (q := (exNT t n u sh kd ky att).run (fun y => (Out.ret (.ptr 0 0) (exNH t n y)).run K)) (by kernel_rfl) (Tr.run_of ok hK))
noncomputable def EC6 := ((EX2.addS 179 exS ex_ok).addS 177 exNS exN_ok)
end Go.Sh

