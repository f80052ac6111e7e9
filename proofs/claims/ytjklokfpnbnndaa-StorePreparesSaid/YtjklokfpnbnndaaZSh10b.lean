/- The small-heap evaluator, part 10b: the same list of operations, its temporaries kept as what was written last over what was there. -/
import Derived.Test.YtjklokfpnbnndaaZSh10
set_option linter.all false
set_option linter.unusedVariables false
set_option linter.unusedSectionVars false
namespace Go.Sh
open Go
variable [Con] {A : Type}

/-- the value written last -/
def dfind : List (Nat × AVal) → Nat → AVal → AVal
  | [], _, b => b
  | (s, v) :: δ, t, b => cond (Nat.beq s t) v (dfind δ t b)
def dget (δ : List (Nat × AVal)) (base : List AVal) (t : Nat) : AVal :=
  match δ with
  | [] => base.getD t (.raw undef)
  | (s, v) :: δ => cond (Nat.beq s t) v (dget δ base t)
/-- all of them -/
def dnorm (δ : List (Nat × AVal)) : Nat → List AVal → List AVal
  | _, [] => []
  | i, b :: bs => dfind δ i b :: dnorm δ (i + 1) bs
/-- a list's cells laid open -/
def force : List AVal → (List AVal → Prop) → Prop
  | [], K => K []
  | x :: xs, K => force xs fun ys => K (x :: ys)
theorem force_eq : ∀ (l : List AVal) (K : List AVal → Prop), force l K = K l
  | [], K => rfl
  | x :: xs, K => force_eq xs _

def dapply : List (Nat × AVal) → List AVal → List AVal
  | [], base => base
  | (s, v) :: δ, base => (dapply δ base).set s v
theorem dapply_length : ∀ (δ : List (Nat × AVal)) (base : List AVal), (dapply δ base).length = base.length
  | [], _ => rfl
  | (s, v) :: δ, base => by simp [dapply, dapply_length δ base]

def din (n : Nat) : List (Nat × AVal) → Prop
  | [] => True
  | (s, _) :: δ => s < n ∧ din n δ

theorem beq_eq (a b : Nat) : Nat.beq a b = decide (a = b) := by
  cases h : Nat.beq a b with
  | true => simp [Nat.eq_of_beq_eq_true h]
  | false =>
    have : a ≠ b := Nat.ne_of_beq_eq_false h
    simp [this]

theorem dget_eq : ∀ (δ : List (Nat × AVal)) (base : List AVal) (t : Nat), din base.length δ → dget δ base t = (dapply δ base).getD t (.raw undef)
  | [], _, _, _ => rfl
  | (s, v) :: δ, base, t, h => by
    unfold dget dapply
    rw [dget_eq δ base t h.2, beq_eq]
    by_cases e : s = t
    · subst e
      simp [List.getD_eq_getElem?_getD, List.getElem?_set, dapply_length, h.1]
    · simp [e, List.getD_eq_getElem?_getD, List.getElem?_set_ne e]

theorem dfind_eq : ∀ (δ : List (Nat × AVal)) (base : List AVal) (t : Nat) (b : AVal), din base.length δ → base[t]? = some b → (dapply δ base)[t]? = some (dfind δ t b)
  | [], _, _, _, _, h => h
  | (s, v) :: δ, base, t, b, h, hb => by
    unfold dfind dapply
    rw [beq_eq]
    by_cases e : s = t
    · subst e
      simp [List.getElem?_set, dapply_length, h.1]
    · simp only [e, decide_false, cond_false]
      rw [List.getElem?_set_ne e]; exact dfind_eq δ base t b h.2 hb

theorem dnorm_get (δ : List (Nat × AVal)) : ∀ (bs : List AVal) (i t : Nat), (dnorm δ i bs)[t]? = bs[t]?.map (dfind δ (i + t))
  | [], i, t => by simp [dnorm]
  | b :: bs, i, 0 => by simp [dnorm]
  | b :: bs, i, t + 1 => by
    simp only [dnorm, List.getElem?_cons_succ]
    rw [dnorm_get δ bs (i + 1) t, show i + 1 + t = i + (t + 1) from by omega]

theorem dnorm_eq {δ : List (Nat × AVal)} {base : List AVal} (h : din base.length δ) : dnorm δ 0 base = dapply δ base := by
  apply List.ext_getElem?
  intro t
  rw [dnorm_get]
  cases hb : base[t]? with
  | none =>
    rw [List.getElem?_eq_none_iff] at hb
    simp only [Option.map_none]
    rw [List.getElem?_eq_none]
    rw [dapply_length]; exact hb
  | some b => rw [dfind_eq δ base t b h hb]; simp

section
variable {P : Program} (E : Env A P)

def aevalD (δ : List (Nat × AVal)) (base : List AVal) : Operand → AVal
  | .tmp t => dget δ base t
  | .const v => ofVal v
  | .global g => .raw (.pointer (some ⟨g, 0, none⟩))
  | .func f => .func (.func f) [] []
theorem aevalD_eq {δ : List (Nat × AVal)} {base : List AVal} (h : din base.length δ) : aevalD δ base = aeval (dapply δ base) := by
  funext x
  cases x with
  | tmp t => exact dget_eq δ base t h
  | _ => rfl

def dput (δ : List (Nat × AVal)) (dst : Option Tmp) (v : AVal) : List (Nat × AVal) :=
  match dst with
  | some d => (d, v) :: δ
  | none => δ
def dok (n : Nat) (dst : Option Tmp) : Bool :=
  match dst with
  | some d => Nat.blt d n
  | none => true
theorem dput_eq {n : Nat} {δ : List (Nat × AVal)} {base : List AVal} {dst : Option Tmp} {v : AVal} : aput (dapply δ base) dst v = dapply (dput δ dst v) base := by
  cases dst <;> rfl
theorem dput_in {n : Nat} {δ : List (Nat × AVal)} {dst : Option Tmp} {v : AVal} (h : din n δ) (hd : dok n dst = true) : din n (dput δ dst v) := by
  cases dst with
  | none => exact h
  | some d => exact ⟨Nat.le_of_ble_eq_true hd, h⟩

/-- the destination of the operation j, of those that were seen: the i-th is next -/
def seenDst (seen : List (Option Tmp)) (i j : Nat) : Option Tmp := match seen[Nat.sub (Nat.pred i) j]? with
  | some d => d
  | none => none

def evOpsD (inl : Inl A) (base : List AVal) (n : Nat) : List Oper → List (Option Tmp) → Nat → List (Nat × AVal) → Heap A → (List AVal → Heap A → Prop) → Prop
  | [], _, _, δ, h, K => force (dnorm δ 0 base) fun tm => K tm h
  | o :: rest, seen, i, δ, h, K =>
    onlyIf (dok n o.dst) <|
    match o.guard with
    | none => evOp E inl (aevalD δ base) o.op h fun v h' => evOpsD inl base n rest (o.dst :: seen) (Nat.succ i) (dput δ o.dst v) h' K
    | some (j, want) =>
      onlyIf (Nat.blt j i) <|
      match seenDst seen i j with
      | none => False
      | some d =>
        match dget δ base d with
        | .bool b => onlyIf (Nat.blt d n) <|
          cond b
            (if want then evOp E inl (aevalD ((d, .bool true) :: δ) base) o.op h fun v h' => evOpsD inl base n rest (o.dst :: seen) (Nat.succ i) (dput ((d, .bool true) :: δ) o.dst v) h' K
              else evOpsD inl base n rest (o.dst :: seen) (Nat.succ i) (dput ((d, .bool true) :: δ) o.dst (.raw undef)) h K)
            (if want then evOpsD inl base n rest (o.dst :: seen) (Nat.succ i) (dput ((d, .bool false) :: δ) o.dst (.raw undef)) h K
              else evOp E inl (aevalD ((d, .bool false) :: δ) base) o.op h fun v h' => evOpsD inl base n rest (o.dst :: seen) (Nat.succ i) (dput ((d, .bool false) :: δ) o.dst v) h' K)
        | v => if isTuple v then evOpsD inl base n rest (o.dst :: seen) (Nat.succ i) (dput δ o.dst (.raw undef)) h K else False

variable {E}

def Seen (ops : Array Oper) (rest : List Oper) (seen : List (Option Tmp)) (i : Nat) : Prop := ∃ pre : List Oper, ops.toList = pre ++ rest ∧ seen = (pre.map (·.dst)).reverse ∧ i = pre.length
theorem Seen.next {ops : Array Oper} {o : Oper} {rest : List Oper} {seen : List (Option Tmp)} {i : Nat} (h : Seen ops (o :: rest) seen i) : Seen ops rest (o.dst :: seen) (Nat.succ i) := by
  obtain ⟨pre, h1, h2, h3⟩ := h
  exact ⟨pre ++ [o], by rw [h1]; simp, by rw [h2]; simp, by rw [h3]; simp⟩
theorem Seen.dst {ops : Array Oper} {rest : List Oper} {seen : List (Option Tmp)} {i j : Nat} (h : Seen ops rest seen i) (hj : Nat.blt j i = true) : (ops[j]?).bind (·.dst) = seenDst seen i j := by
  obtain ⟨pre, h1, h2, h3⟩ := h
  have hlt : j < pre.length := by rw [← h3]; exact Nat.le_of_ble_eq_true hj
  have e1 : ops[j]? = pre[j]? := by rw [← Array.getElem?_toList, h1, List.getElem?_append_left hlt]
  unfold seenDst
  have e2 : seen[Nat.sub (Nat.pred i) j]? = (pre.map (·.dst))[j]? := by
    rw [h2]
    have hs : Nat.sub (Nat.pred i) j = pre.length - 1 - j := by rw [h3]; rfl
    rw [hs, List.getElem?_reverse (by simp; omega)]
    congr 1; simp; omega
  rw [e1, e2, List.getElem?_map, List.getElem?_eq_getElem hlt]
  rfl

theorem evOpsD_sound {inl : Inl A} (hinl : InlOk E inl) {ops : Array Oper} {base : List AVal} {n : Nat} (hbn : base.length = n) {Q : Exit → Act → World → Prop} : ∀ (rest : List Oper) (seen : List (Option Tmp)) (i : Nat) (δ : List (Nat × AVal)) (h : Heap A) (K : List AVal → Heap A → Prop) (a : Act) (w : World) (V : Val) (hR : PHeap),
    Seen ops rest seen i → evOpsD E inl base n rest seen i δ h K → din n δ → Inv E.I V (toF h) hR w → Fresh V h.length → RepL V (dapply δ base) a.tmps.toList → a.defers = [] →
    (∀ a' w', Then E V h.length hR w K a' w' → Q .normal a' w') → wpList P ops Q rest a w := by
  intro rest
  induction rest with
  | nil =>
    intro seen i δ h K a w V hR hsn he hin hi hf ht hd hQ
    unfold evOpsD at he
    rw [force_eq, dnorm_eq (by rw [hbn]; exact hin)] at he
    exact wpList_nil (hQ a w ⟨dapply δ base, V, h, he, ht, V.le_refl, hf, Nat.le_refl _, hi, Grows.refl w, hd⟩)
  | cons o rest ih =>
    intro seen i δ h K a w V hR hsn he hin hi hf ht hd hQ
    have he := onlyIf_iff.1 he
    obtain ⟨hok, he⟩ := he
    have run : ∀ δ' : List (Nat × AVal), din n δ' → RepL V (dapply δ' base) a.tmps.toList → (evOp E inl (aevalD δ' base) o.op h fun v h' => evOpsD E inl base n rest (o.dst :: seen) (Nat.succ i) (dput δ' o.dst v) h' K) → Region.wanted o (yielded ops a.tmps) = true → wpList P ops Q (o :: rest) a w := by
      intro δ' hin' ht' hev hw
      refine wpList_step fun K' hK' => ?_
      rw [if_pos hw]
      rw [aevalD_eq (by rw [hbn]; exact hin')] at hev
      refine evOp_sound hinl hev hi hf ht' ?_
      intro v v' V' h' w' k1 k2 k3 k4 k5 k6 k7
      refine hK' _ _ (ih _ _ _ _ _ _ _ V' hR hsn.next k1 (dput_in hin' hok) k6 k4 (by rw [← dput_eq (n := n)]; exact aput_rep (RepL.mono k3 _ _ ht') k2) (by rw [put_defers]; exact hd) ?_)
      intro a' w'' hT
      exact hQ a' w'' (hT.chain k3 k5 k7)
    have skip : ∀ δ' : List (Nat × AVal), din n δ' → RepL V (dapply δ' base) a.tmps.toList → evOpsD E inl base n rest (o.dst :: seen) (Nat.succ i) (dput δ' o.dst (.raw undef)) h K → Region.wanted o (yielded ops a.tmps) = false → wpList P ops Q (o :: rest) a w := by
      intro δ' hin' ht' hev hw
      refine wpList_step fun K' hK' => ?_
      rw [if_neg (by rw [hw]; simp)]
      exact hK' _ _ (ih _ _ _ _ _ _ _ V hR hsn.next hev (dput_in hin' hok) hi hf (by rw [← dput_eq (n := n)]; exact aput_rep ht' rfl) (by rw [put_defers]; exact hd) hQ)
    cases hg : o.guard with
    | none =>
      rw [hg] at he
      exact run δ hin ht he (by simp [Region.wanted, hg])
    | some g =>
      obtain ⟨j, want⟩ := g
      rw [hg] at he
      simp only at he
      obtain ⟨hji, he⟩ := onlyIf_iff.1 he
      have hjd := hsn.dst hji
      cases hj : (ops[j]?).bind (·.dst) with
      | none => rw [← hjd, hj] at he; exact he.elim
      | some d =>
        rw [← hjd, hj] at he
        simp only at he
        have hdg := dget_eq δ base d (by rw [hbn]; exact hin)
        split at he
        · rename_i b hb
          obtain ⟨hdn, he⟩ := onlyIf_iff.1 he
          rw [hdg] at hb
          have hgd := getD_bool hb
          obtain ⟨y, hy, ry⟩ := RepL.get ht d _ hgd
          rw [Array.getElem?_toList] at hy
          have ry' : y = .bool b := ry
          subst ry'
          have hyl : yielded ops a.tmps j = some b := yielded_bool hj hy
          have hs : dapply ((d, .bool b) :: δ) base = dapply δ base := set_same _ d _ hgd
          have hin2 : ∀ v, din n ((d, v) :: δ) := fun v => ⟨Nat.le_of_ble_eq_true hdn, hin⟩
          have hwb : Region.wanted o (yielded ops a.tmps) = (b == want) := by simp [Region.wanted, hg, hyl]
          cases b with
          | true =>
            simp only [cond_true] at he
            cases want with
            | true => rw [if_pos rfl] at he; exact run _ (hin2 _) (by rw [hs]; exact ht) he (by rw [hwb]; rfl)
            | false => rw [if_neg (by simp)] at he; exact skip _ (hin2 _) (by rw [hs]; exact ht) he (by rw [hwb]; rfl)
          | false =>
            simp only [cond_false] at he
            cases want with
            | true => rw [if_pos rfl] at he; exact skip _ (hin2 _) (by rw [hs]; exact ht) he (by rw [hwb]; rfl)
            | false => rw [if_neg (by simp)] at he; exact run _ (hin2 _) (by rw [hs]; exact ht) he (by rw [hwb]; rfl)
        · rename_i hnb
          split at he
          · rename_i htp
            rw [hdg] at htp
            have hyl : yielded ops a.tmps j = none := by
              refine yielded_tuple hj ?_
              cases e : a.tmps[d]? with
              | none => exact .inl rfl
              | some x =>
                right
                have hlt : d < (dapply δ base).length := by
                  have h1 := RepL.length ht
                  rw [Array.length_toList] at h1
                  cases Nat.lt_or_ge d a.tmps.size with
                  | inl g => exact Nat.lt_of_lt_of_eq g h1
                  | inr g => rw [Array.getElem?_eq_none g] at e; cases e
                obtain ⟨y, hy, ry⟩ := RepL.get ht d _ (List.getElem?_eq_getElem hlt)
                rw [Array.getElem?_toList, e] at hy
                cases hy
                have e2 : (dapply δ base).getD d (.raw undef) = (dapply δ base)[d] := by rw [List.getD_eq_getElem?_getD, List.getElem?_eq_getElem hlt]; rfl
                rw [e2] at htp
                unfold isTuple at htp
                split at htp
                · rename_i vs e3
                  rw [e3] at ry
                  have : x = .tuple vs := ry
                  exact ⟨vs, by rw [this]⟩
                · cases htp
            exact skip δ hin ht he (by simp [Region.wanted, hg, hyl])
          · exact he.elim

end
end Go.Sh
