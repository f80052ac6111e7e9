import Derived.ControlIn
import Derived.TacticsIn
import Derived.RangeFuncIn
import Derived.RowKit3
import Derived.WideKeyArgs
import Derived.OpenShut
import Derived.Test.YtebhcmbdpifodaaZSh9toSh14b
set_option linter.all false
namespace Go.Sh
open Go
variable [Con] {A : Type}

inductive CastK where
  | ints (c : Code1)
  | tab (ks : List Code1)
inductive Place where
  | slot (i : Nat)
  | cell (l j : Nat)

def isNone : AVal → Bool
  | .raw (.slice none 0 0) => true
  | .empty => true
  | _ => false
def castV (K : CastK) (v : AVal) (h : Heap A) : Option (AVal × Heap A) :=
  match K with
  | .ints c => cond (isNone v) (some (.slice h.length 0 0 1, h ++ [some (.ints c [])])) <|
    match v with
    | .slice l 0 n 1 => match hget h l with
      | some (.ints c' _) => if c = c' then some (v, h) else none
      | some (.cells vs) => match toCodes c vs with
        | some ns => some (v, h.set l (some (.ints c ns)))
        | none => none
      | _ => none
    | _ => none
  | .tab ks => cond (isNone v) (some (.tslice h.length 0 0 ks.length, h ++ [some (.tab ks [])])) <|
    match v with
    | .tslice l r n w => some (v, h)
    | .slice l 0 n w => if w = ks.length then match hget h l with
        | some (.cells vs) => match rowsOf ks n vs with
          | some rs => some (.tslice l 0 n w, h.set l (some (.tab ks rs)))
          | none => none
        | _ => none
      else none
    | _ => none

def castS (pl : Place) (K : CastK) (tm : List AVal) (h : Heap A) : Option (List AVal × Heap A) :=
  match pl with
  | .slot i => match tm[i]? with
    | some v => match castV K v h with
      | some (v', h') => some (tm.set i v', h')
      | none => none
    | none => none
  | .cell l j => match hget h l with
    | some (.cells vs) => match vs[j]? with
      | some v => match castV K v h with
        | some (v', h') => match hget h' l with
          | some (.cells vs') => some (tm, h'.set l (some (.cells (vs'.set j v'))))
          | _ => none
        | none => none
      | none => none
    | _ => none
def castAll : List (Place × CastK) → List AVal → Heap A → Option (List AVal × Heap A)
  | [], tm, h => some (tm, h)
  | (pl, K) :: cs, tm, h => match castS pl K tm h with
    | some (tm', h') => castAll cs tm' h'
    | none => castAll cs tm h

section
variable {P : Program} {I : Itp A}

theorem Inv.weaken {V : Val} {h : FHeap A} {hR : PHeap} {w : World} (hi : Inv I V h hR w) {l : Nat} {e e' : Entry A} (hl : h l = some e) (he : ∀ g, e.interp I V l g → g.sub w → e'.interp I V l g) : Inv I V (h.put l (some e')) hR w := by
  obtain ⟨hs, h1, h2, h3, h4, h5, h6⟩ := hi
  refine ⟨hs, ?_, ?_, h3, h4, h5, h6⟩
  · intro m x hm
    by_cases hml : m = l
    · subst hml; simp [FHeap.put] at hm; subst hm; exact he _ (h1 m e hl) (h5 m)
    · simp [FHeap.put, hml] at hm; exact h1 m x hm
  · intro m hm
    by_cases hml : m = l
    · subst hml; simp [FHeap.put] at hm
    · simp [FHeap.put, hml] at hm; exact h2 m hm

def CastOk (I : Itp A) (V : Val) (h h' : Heap A) (hR : PHeap) (w : World) (V' : Val) : Prop :=
  V.le V' ∧ Fresh V' h'.length ∧ h.length ≤ h'.length ∧ Inv I V' (toF h') hR w

theorem rep_none {V : Val} {v : AVal} {x : Value} (h : isNone v = true) (hx : Rep V v x) : ∃ base, x = .slice base 0 0 := by
  unfold isNone at h
  split at h
  · exact ⟨none, hx⟩
  · exact hx
  · cases h

theorem Fresh.add {V : Val} {n : Nat} (hf : Fresh V n) (x : Nat × Nat) : Fresh (V.add n x) (n + 1) := by
  intro l hl
  rw [Val.add_ne _ _ (by omega)]
  exact hf l (by omega)

theorem castV_ok {K : CastK} {v v' : AVal} {h h' : Heap A} {V : Val} {hR : PHeap} {w : World} {x : Value} (hc : castV K v h = some (v', h')) (hi : Inv I V (toF h) hR w) (hf : Fresh V h.length) (hx : Rep V v x) :
    ∃ V', CastOk I V h h' hR w V' ∧ Rep V' v' x := by
  have none : ∀ (e : Entry A), (∀ V' : Val, (∃ b, V' h.length = some (b, 0)) → e.interp I V' h.length .emp) → CastOk I V h (h ++ [some e]) hR w (V.add h.length (0, 0)) := by
    intro e he
    have hV := hf h.length (Nat.le_refl _)
    refine ⟨Val.le_add hV, ?_, by simp, ?_⟩
    · rw [List.length_append]; exact hf.add _
    · rw [toF_push]; exact hi.emptyE hV (hget_ge (Nat.le_refl _)) he
  have stay : CastOk I V h h hR w V := ⟨V.le_refl, hf, Nat.le_refl _, hi⟩
  have weak : ∀ (l : Nat) (e e' : Entry A), hget h l = some e → (∀ g, e.interp I V l g → e'.interp I V l g) → CastOk I V h (h.set l (some e')) hR w V := by
    intro l e e' hl he
    refine ⟨V.le_refl, by rw [List.length_set]; exact hf, by simp, ?_⟩
    rw [toF_set _ (hget_lt hl)]
    exact hi.weaken hl (fun g hg _ => he g hg)
  unfold castV at hc
  cases K with
  | ints c =>
    simp only at hc
    cases hn : isNone v with
    | true =>
      rw [hn] at hc
      simp only [cond_true, Option.some.injEq, Prod.mk.injEq] at hc
      obtain ⟨rfl, rfl⟩ := hc
      obtain ⟨base, rfl⟩ := rep_none hn hx
      exact ⟨_, none (.ints c []) (fun V' hb => .inl ⟨rfl, rfl, hb⟩), base, 0, rfl, Nat.le_refl _, .inr ⟨rfl, rfl⟩⟩
    | false =>
      rw [hn] at hc
      simp only [cond_false] at hc
      split at hc
      · rename_i l n
        split at hc
        · split at hc
          · simp only [Option.some.injEq, Prod.mk.injEq] at hc
            obtain ⟨rfl, rfl⟩ := hc
            exact ⟨V, stay, hx⟩
          · cases hc
        · rename_i vs hl
          split at hc
          · rename_i ns hns
            simp only [Option.some.injEq, Prod.mk.injEq] at hc
            obtain ⟨rfl, rfl⟩ := hc
            refine ⟨V, weak l (.cells vs) (.ints c ns) hl ?_, hx⟩
            rintro g ⟨b, k, e1, cs, T, e2, e3, rs, tail, e4, r⟩
            exact .inr ⟨b, k, e1, cs, T, tail, e2, e3, by rw [e4, toCodes_row hns r]⟩
          · cases hc
        · cases hc
      · cases hc
  | tab ks =>
    simp only at hc
    cases hn : isNone v with
    | true =>
      rw [hn] at hc
      simp only [cond_true, Option.some.injEq, Prod.mk.injEq] at hc
      obtain ⟨rfl, rfl⟩ := hc
      obtain ⟨base, rfl⟩ := rep_none hn hx
      exact ⟨_, none (.tab ks []) (fun V' hb => .inl ⟨rfl, rfl, hb⟩), base, 0, rfl, Nat.le_refl _, .inr ⟨rfl, rfl⟩⟩
    | false =>
      rw [hn] at hc
      simp only [cond_false] at hc
      split at hc
      · simp only [Option.some.injEq, Prod.mk.injEq] at hc
        obtain ⟨rfl, rfl⟩ := hc
        exact ⟨V, stay, hx⟩
      · rename_i l n w0
        split at hc
        case isFalse => cases hc
        rename_i hw; subst hw
        split at hc
        · rename_i vs hl
          split at hc
          · rename_i rs hrs
            simp only [Option.some.injEq, Prod.mk.injEq] at hc
            obtain ⟨rfl, rfl⟩ := hc
            refine ⟨V, weak l (.cells vs) (.tab ks rs) hl ?_, rep_tslice0 hx⟩
            rintro g ⟨b, k, e1, cs, T, e2, e3, rs', tail, e4, r⟩
            exact .inr ⟨b, k, e1, cs, T, tail, e2, e3, by rw [e4, rowsOf_vals hrs r]⟩
          · cases hc
        · cases hc
      · cases hc

theorem castS_ok {pl : Place} {K : CastK} {tm tm' : List AVal} {h h' : Heap A} {V : Val} {hR : PHeap} {w : World} {xs : List Value} (hc : castS pl K tm h = some (tm', h')) (hi : Inv I V (toF h) hR w) (hf : Fresh V h.length) (hx : RepL V tm xs) :
    ∃ V', CastOk I V h h' hR w V' ∧ RepL V' tm' xs := by
  unfold castS at hc
  cases pl with
  | slot i =>
    simp only at hc
    split at hc
    · rename_i v hv
      split at hc
      · rename_i v' h2 hcv
        simp only [Option.some.injEq, Prod.mk.injEq] at hc
        obtain ⟨rfl, rfl⟩ := hc
        obtain ⟨y, hy, ry⟩ := RepL.get hx i v hv
        obtain ⟨V', k1, k2⟩ := castV_ok hcv hi hf ry
        refine ⟨V', k1, ?_⟩
        have := RepL.set (RepL.mono k1.1 _ _ hx) i v' y k2
        rwa [set_same xs i y hy] at this
      · cases hc
    · cases hc
  | cell l j =>
    simp only at hc
    split at hc
    · rename_i vs hl
      split at hc
      · rename_i v hv
        split at hc
        · rename_i v' h2 hcv
          split at hc
          · rename_i vs' hl'
            simp only [Option.some.injEq, Prod.mk.injEq] at hc
            obtain ⟨rfl, rfl⟩ := hc
            obtain ⟨b, k, cs, T, rs, tail, e1, e2, e3, e4, e5⟩ := hi.cells (l := l) hl
            obtain ⟨y, hy, ry⟩ := RepL.get e5 j v hv
            obtain ⟨V', ⟨k1, k2, k3, k4⟩, k5⟩ := castV_ok hcv hi hf ry
            refine ⟨V', ⟨k1, by rw [List.length_set]; exact k2, by rw [List.length_set]; exact k3, ?_⟩, RepL.mono k1 _ _ hx⟩
            rw [toF_set _ (hget_lt hl')]
            obtain ⟨b', kk, cs', T', rs', tail', q1, q2, q3, q4, q5⟩ := k4.cells (l := l) hl'
            have hb := k1 l _ e1
            rw [hb] at q1; cases q1
            rw [e2] at q2
            simp only [Option.some.injEq, Obj.cells.injEq] at q2
            obtain ⟨rfl, _⟩ := q2
            refine k4.weaken hl' ?_
            rintro g ⟨b1, k1', a1, cs1, T1, a2, a3, rs1, tail1, a4, a5⟩ hgs
            have hjl : j < rs.length := by
              cases Nat.lt_or_ge j rs.length with
              | inl g => exact g
              | inr g => rw [List.getElem?_eq_none g] at hy; cases hy
            by_cases hjv : j < vs'.length
            · refine ⟨b1, k1', a1, cs1, T1, a2, a3, rs1, tail1, a4, ?_⟩
              have hcs1 : cs1 = cs := by
                rw [hb] at a1; cases a1
                have hsub : w.heap[b]? = some (.cells cs1 T1) := by
                  rw [a2] at hgs; exact PHeap.one_sub.1 hgs
                rw [e2] at hsub
                simp only [Option.some.injEq, Obj.cells.injEq] at hsub
                exact hsub.1.symm
              subst hcs1
              have hr1 : rs1[j]? = some y := by
                have h1 : cs1.toList[j]? = some y := by
                  rw [e4, List.getElem?_append_left hjl]; exact hy
                rw [a4, List.getElem?_append_left (by rw [RepL.length a5]; exact hjv)] at h1
                exact h1
              have := RepL.set a5 j v' y k5
              rwa [set_same rs1 j y hr1] at this
            · have : vs'.set j v' = vs' := List.set_eq_of_length_le (by omega)
              rw [this]
              exact ⟨b1, k1', a1, cs1, T1, a2, a3, rs1, tail1, a4, a5⟩
          · cases hc
        · cases hc
      · cases hc
    · cases hc

theorem castAll_ok : ∀ {cs : List (Place × CastK)} {tm tm' : List AVal} {h h' : Heap A} {V : Val} {hR : PHeap} {w : World} {xs : List Value}, castAll cs tm h = some (tm', h') → Inv I V (toF h) hR w → Fresh V h.length → RepL V tm xs →
    ∃ V', CastOk I V h h' hR w V' ∧ RepL V' tm' xs
  | [], tm, tm', h, h', V, hR, w, xs, hc, hi, hf, hx => by
    simp only [castAll, Option.some.injEq, Prod.mk.injEq] at hc
    obtain ⟨rfl, rfl⟩ := hc
    exact ⟨V, ⟨V.le_refl, hf, Nat.le_refl _, hi⟩, hx⟩
  | (pl, K) :: cs, tm, tm', h, h', V, hR, w, xs, hc, hi, hf, hx => by
    simp only [castAll] at hc
    split at hc
    · rename_i tm1 h1 h2
      obtain ⟨V1, ⟨a1, a2, a3, a4⟩, b1⟩ := castS_ok h2 hi hf hx
      obtain ⟨V2, ⟨c1, c2, c3, c4⟩, d1⟩ := castAll_ok hc a4 a2 b1
      exact ⟨V2, ⟨Val.le_trans a1 c1, c2, Nat.le_trans a3 c3, c4⟩, d1⟩
    · exact castAll_ok hc hi hf hx
end
end Go.Sh

namespace Go.Sh
open Go
variable [Con] {A : Type}
section
variable {P : Program} (E : Env A P)
abbrev FW (ro : Option Nat) : Fence := { Fence.wide with round := ro }
def yieldOf (ρ : Operand → AVal) (c : Call) : Option Nat :=
  match c.callee with
  | .value f => match ρ f with
    | .func (.yield l) [] [] => some l
    | _ => none
  | _ => none
def evOpY (inl : Inl A) (ρ : Operand → AVal) (op : Op) (h : Heap A) (K : AVal → Heap A → Prop) : Prop :=
  match op with
  | .call c => match yieldOf ρ c with
    | some l => E.yld l (c.args.toList.map ρ) h K
    | none => evOp E inl ρ (.call c) h K
  | .defer _ => False
  | op => evOp E inl ρ op h K
def evOpsY (inl : Inl A) (base : List AVal) (n : Nat) : List Oper → List (Option Tmp) → Nat → List (Nat × AVal) → Heap A → (List AVal → Heap A → Prop) → Prop
  | [], _, _, δ, h, K => force (dnorm δ 0 base) fun tm => K tm h
  | o :: rest, seen, i, δ, h, K =>
    onlyIf (dok n o.dst) <|
    match o.guard with
    | none => evOpY E inl (aevalD δ base) o.op h fun v h' => evOpsY inl base n rest (o.dst :: seen) (Nat.succ i) (dput δ o.dst v) h' K
    | some (j, want) =>
      onlyIf (Nat.blt j i) <|
      match seenDst seen i j with
      | none => False
      | some d =>
        match dget δ base d with
        | .bool b => onlyIf (Nat.blt d n) <|
          cond b
            (if want then evOpY E inl (aevalD ((d, .bool true) :: δ) base) o.op h fun v h' => evOpsY inl base n rest (o.dst :: seen) (Nat.succ i) (dput ((d, .bool true) :: δ) o.dst v) h' K
              else evOpsY inl base n rest (o.dst :: seen) (Nat.succ i) (dput ((d, .bool true) :: δ) o.dst (.raw undef)) h K)
            (if want then evOpsY inl base n rest (o.dst :: seen) (Nat.succ i) (dput ((d, .bool false) :: δ) o.dst (.raw undef)) h K
              else evOpY E inl (aevalD ((d, .bool false) :: δ) base) o.op h fun v h' => evOpsY inl base n rest (o.dst :: seen) (Nat.succ i) (dput ((d, .bool false) :: δ) o.dst v) h' K)
        | v => if isTuple v then evOpsY inl base n rest (o.dst :: seen) (Nat.succ i) (dput δ o.dst (.raw undef)) h K else False


variable {E}
theorem wpIn_of_wp {ro : Option Nat} {o : Oper} (hdf : ∀ c, o.op ≠ .defer c) {a : Act} {w : World} {next : Act → World → Prop} {Q : Exit → Act → World → Prop} (h : o.wp P a w next Q) : o.wpIn (FW ro) 0 P a w next Q := by
  refine ⟨fun _ _ => trivial, ?_⟩
  rw [Oper.semAt_eq _ _ _ hdf]
  unfold Oper.wp at h
  revert h
  generalize (execOp a.eval o).run P w = r
  intro h
  unfold Oper.upon at h
  split at h
  · exact h
  · exact h
  · exact h
  · exact ⟨fun e => (by cases e), callsIn_wide.2 h⟩
  · exact ⟨fun e => (by cases e), fun c cs _ => let ⟨v, w', r, s⟩ := h c cs; ⟨v, w', r, stepsIn_wide.2 s⟩⟩
  · exact h
  · exact h.elim
theorem evOpY_sound {ro : Option Nat} {inl : Inl A} (hinl : InlOk E inl) {a : Act} {o : Oper} {tm : List AVal} {h : Heap A} {K : AVal → Heap A → Prop} (he : evOpY E inl (aeval tm) o.op h K) {V : Val} {hR : PHeap} {w : World}
    (hi : Inv E.I V (toF h) hR w) (hf : Fresh V h.length) (ht : RepL V tm a.tmps.toList) {next : Act → World → Prop} {Q : Exit → Act → World → Prop}
    (hn : ∀ v v' V' h' w', K v h' → Rep V' v v' → V.le V' → Fresh V' h'.length → h.length ≤ h'.length → Inv E.I V' (toF h') hR w' → Grows w w' → next (a.put o.dst v') w') :
    o.wpIn (FW ro) 0 P a w next Q := by
  unfold evOpY at he
  split at he
  · rename_i c hop
    split at he
    · rename_i l hy
      unfold yieldOf at hy
      split at hy
      · rename_i f hcal
        split at hy
        · rename_i l' hfv
          simp only [Option.some.injEq] at hy
          subst hy
          have rf := aeval_rep ht f
          rw [hfv] at rf
          obtain ⟨fs, cs, e1, r1, r2⟩ := rf
          have r1 : fs.toList = [] := r1
          have r2 : cs.toList = [] := r2
          have r1 : fs = #[] := by apply Array.ext'; simpa using r1
          have r2 : cs = #[] := by apply Array.ext'; simpa using r2
          subst r1; subst r2
          have hargs : RepL V (c.args.toList.map (aeval tm)) (c.args.map a.eval).toList := by
            rw [Array.toList_map]
            exact repL_map (aeval_rep ht) c.args.toList
          obtain ⟨fn, tmps, assign, body, y1, y2⟩ := E.yldOk l' _ h K he V hR w _ hi hf hargs
          refine ⟨fun _ _ => trivial, ?_⟩
          rw [Oper.semAt_eq _ _ _ (fun c' e => by rw [hop] at e; cases e)]
          have hrun : (execOp a.eval o).run P w = .ok (.round l' fn tmps assign body) w := by
            simp only [execOp, hop, resolve, hcal, e1, Deferred.ofValue, Sem.run_bind, Sem.run_pure, Result.andThen_ok, invoke]
            simpa using y1
          rw [hrun]
          refine ⟨fun e => (by cases e), y2.mono ?_⟩
          rintro e w' ⟨v, v', V', h', h1, rfl, h3, h4, h5, h6, h7, h8⟩
          exact hn v v' V' h' w' h1 h3 h4 h5 h6 h7 h8
        · cases hy
      · cases hy
    · exact wpIn_of_wp (fun c' e => by rw [hop] at e; cases e) (evOp_sound hinl (by rw [hop]; exact he) hi hf ht hn)
  · exact he.elim
  · rename_i h1 h2
    exact wpIn_of_wp h2 (evOp_sound hinl he hi hf ht hn)
theorem evOpsY_sound {ro : Option Nat} {inl : Inl A} (hinl : InlOk E inl) {ops : Array Oper} {base : List AVal} {n : Nat} (hbn : base.length = n) {Q : Exit → Act → World → Prop} : ∀ (rest : List Oper) (seen : List (Option Tmp)) (i : Nat) (δ : List (Nat × AVal)) (h : Heap A) (K : List AVal → Heap A → Prop) (a : Act) (w : World) (V : Val) (hR : PHeap),
    Seen ops rest seen i → evOpsY E inl base n rest seen i δ h K → din n δ → Inv E.I V (toF h) hR w → Fresh V h.length → RepL V (dapply δ base) a.tmps.toList → a.defers = [] →
    (∀ a' w', Then E V h.length hR w K a' w' → Q .normal a' w') → wpListIn (FW ro) 0 P ops Q rest a w := by
  intro rest
  induction rest with
  | nil =>
    intro seen i δ h K a w V hR hsn he hin hi hf ht hd hQ
    unfold evOpsY at he
    rw [force_eq, dnorm_eq (by rw [hbn]; exact hin)] at he
    exact wpListIn_nil (hQ a w ⟨dapply δ base, V, h, he, ht, V.le_refl, hf, Nat.le_refl _, hi, Grows.refl w, hd⟩)
  | cons o rest ih =>
    intro seen i δ h K a w V hR hsn he hin hi hf ht hd hQ
    have he := onlyIf_iff.1 he
    obtain ⟨hok, he⟩ := he
    have run : ∀ δ' : List (Nat × AVal), din n δ' → RepL V (dapply δ' base) a.tmps.toList → (evOpY E inl (aevalD δ' base) o.op h fun v h' => evOpsY E inl base n rest (o.dst :: seen) (Nat.succ i) (dput δ' o.dst v) h' K) → Region.wanted o (yielded ops a.tmps) = true → wpListIn (FW ro) 0 P ops Q (o :: rest) a w := by
      intro δ' hin' ht' hev hw
      refine wpListIn_step fun K' hK' => ?_
      rw [if_pos hw]
      rw [aevalD_eq (by rw [hbn]; exact hin')] at hev
      refine evOpY_sound hinl hev hi hf ht' ?_
      intro v v' V' h' w' k1 k2 k3 k4 k5 k6 k7
      refine hK' _ _ (ih _ _ _ _ _ _ _ V' hR hsn.next k1 (dput_in hin' hok) k6 k4 (by rw [← dput_eq (n := n)]; exact aput_rep (RepL.mono k3 _ _ ht') k2) (by rw [put_defers]; exact hd) ?_)
      intro a' w'' hT
      exact hQ a' w'' (hT.chain k3 k5 k7)
    have skip : ∀ δ' : List (Nat × AVal), din n δ' → RepL V (dapply δ' base) a.tmps.toList → evOpsY E inl base n rest (o.dst :: seen) (Nat.succ i) (dput δ' o.dst (.raw undef)) h K → Region.wanted o (yielded ops a.tmps) = false → wpListIn (FW ro) 0 P ops Q (o :: rest) a w := by
      intro δ' hin' ht' hev hw
      refine wpListIn_step fun K' hK' => ?_
      rw [if_neg (by rw [hw]; simp)]
      exact ⟨fun _ _ => trivial, hK' _ _ (ih _ _ _ _ _ _ _ V hR hsn.next hev (dput_in hin' hok) hi hf (by rw [← dput_eq (n := n)]; exact aput_rep ht' rfl) (by rw [put_defers]; exact hd) hQ)⟩
    cases hg : o.guard with
    | none =>
      rw [hg] at he
      exact run δ hin ht he (by simp [Region.wanted, hg])
    | some g =>
      obtain ⟨j, want⟩ := g
      rw [hg] at he
      simp only at he
      obtain ⟨hji, he⟩ := onlyIf_iff.1 he
      have hjd := hsn.dst hji
      cases hj : (ops[j]?).bind (·.dst) with
      | none => rw [← hjd, hj] at he; exact he.elim
      | some d =>
        rw [← hjd, hj] at he
        simp only at he
        have hdg := dget_eq δ base d (by rw [hbn]; exact hin)
        split at he
        · rename_i b hb
          obtain ⟨hdn, he⟩ := onlyIf_iff.1 he
          rw [hdg] at hb
          have hgd := getD_bool hb
          obtain ⟨y, hy, ry⟩ := RepL.get ht d _ hgd
          rw [Array.getElem?_toList] at hy
          have ry' : y = .bool b := ry
          subst ry'
          have hyl : yielded ops a.tmps j = some b := yielded_bool hj hy
          have hs : dapply ((d, .bool b) :: δ) base = dapply δ base := set_same _ d _ hgd
          have hin2 : ∀ v, din n ((d, v) :: δ) := fun v => ⟨Nat.le_of_ble_eq_true hdn, hin⟩
          have hwb : Region.wanted o (yielded ops a.tmps) = (b == want) := by simp [Region.wanted, hg, hyl]
          cases b with
          | true =>
            simp only [cond_true] at he
            cases want with
            | true => rw [if_pos rfl] at he; exact run _ (hin2 _) (by rw [hs]; exact ht) he (by rw [hwb]; rfl)
            | false => rw [if_neg (by simp)] at he; exact skip _ (hin2 _) (by rw [hs]; exact ht) he (by rw [hwb]; rfl)
          | false =>
            simp only [cond_false] at he
            cases want with
            | true => rw [if_pos rfl] at he; exact skip _ (hin2 _) (by rw [hs]; exact ht) he (by rw [hwb]; rfl)
            | false => rw [if_neg (by simp)] at he; exact run _ (hin2 _) (by rw [hs]; exact ht) he (by rw [hwb]; rfl)
        · rename_i hnb
          split at he
          · rename_i htp
            rw [hdg] at htp
            have hyl : yielded ops a.tmps j = none := by
              refine yielded_tuple hj ?_
              cases e : a.tmps[d]? with
              | none => exact .inl rfl
              | some x =>
                right
                have hlt : d < (dapply δ base).length := by
                  have h1 := RepL.length ht
                  rw [Array.length_toList] at h1
                  cases Nat.lt_or_ge d a.tmps.size with
                  | inl g => exact Nat.lt_of_lt_of_eq g h1
                  | inr g => rw [Array.getElem?_eq_none g] at e; cases e
                obtain ⟨y, hy, ry⟩ := RepL.get ht d _ (List.getElem?_eq_getElem hlt)
                rw [Array.getElem?_toList, e] at hy
                cases hy
                have e2 : (dapply δ base).getD d (.raw undef) = (dapply δ base)[d] := by rw [List.getD_eq_getElem?_getD, List.getElem?_eq_getElem hlt]; rfl
                rw [e2] at htp
                unfold isTuple at htp
                split at htp
                · rename_i vs e3
                  rw [e3] at ry
                  have : x = .tuple vs := ry
                  exact ⟨vs, by rw [this]⟩
                · cases htp
            exact skip δ hin ht he (by simp [Region.wanted, hg, hyl])
          · exact he.elim

end
end Go.Sh

namespace Go.Sh
open Go
variable [Con] {A : Type}

inductive Ex where
  | normal
  | exit (id : Nat)
  | ret

abbrev CPost (A : Type) := Ex → List AVal → Heap A → Prop
def Ex.out : Ex → Exit
  | .normal => .normal
  | .exit id => .exit id
  | .ret => .ret

structure Hint (A : Type) where
  X : Type
  st : X → List AVal × Heap A
  ok : X → Prop
  mu : X → Nat
  keep : List Nat
  casts : List (Place × CastK) := []
  sel : List AVal → Heap A → Bool := fun _ _ => true

inductive okSt (H : Hint A) (ok : H.X → Prop) (tm : List AVal) (h : Heap A) : Prop where
  | mk (x : H.X) (h1 : H.st x = (tm, h)) (h2 : ok x)
theorem okSt_intro {H : Hint A} {ok : H.X → Prop} {tm : List AVal} {h : Heap A} (x : H.X) (h1 : H.st x = (tm, h)) (h2 : ok x) : okSt H ok tm h := ⟨x, h1, h2⟩

def AtHead (H : Hint A) (n : Nat) (tm : List AVal) (h : Heap A) (ok : H.X → Prop) : Prop :=
  match castAll H.casts tm h with
  | some (tm, h) =>
    onlyIf (goodPl (gather n h (keptLabels H.keep 0 tm)) h.length && keeps (gather n h (keptLabels H.keep 0 tm)) 0 n) <|
      okSt H ok (sift (gather n h (keptLabels H.keep 0 tm)) H.keep 0 tm) (trimH (gather n h (keptLabels H.keep 0 tm)) h)
  | none => False

def LoopBy (H : Hint A) (n : Nat) (body : List AVal → Heap A → CPost A → Prop) (tm : List AVal) (h : Heap A) (K : CPost A) : Prop :=
  AtHead H n tm h H.ok ∧ ∀ x, H.ok x → body (H.st x).1 (H.st x).2 fun e tm' h' => match e with
    | .normal => AtHead H n tm' h' fun x' => H.ok x' ∧ H.mu x' < H.mu x
    | .exit id => K (.exit id) tm' h'
    | .ret => K .ret tm' h'

def below : Option Nat → Nat → Prop
  | none, _ => True
  | some m, k => k < m
def AtHeads : List (Hint A) → Nat → List AVal → Heap A → Option Nat → Prop
  | [], _, _, _, _ => False
  | H :: r, n, tm, h, b => cond (H.sel tm h) (AtHead H n tm h (fun x => H.ok x ∧ below b (H.mu x))) (AtHeads r n tm h b)
def AllH : List (Hint A) → (Hint A → Prop) → Prop
  | [], _ => True
  | H :: r, p => p H ∧ AllH r p
theorem AllH_mem {p : Hint A → Prop} : ∀ {l : List (Hint A)}, AllH l p → ∀ H, H ∈ l → p H
  | [], _, _, hm => by cases hm
  | G :: r, h, H, hm => by
    rcases List.mem_cons.1 hm with rfl | hm
    · exact h.1
    · exact AllH_mem h.2 H hm
def LoopBys (Hs : List (Hint A)) (n : Nat) (body : List AVal → Heap A → CPost A → Prop) (tm : List AVal) (h : Heap A) (K : CPost A) : Prop :=
  AtHeads Hs n tm h none ∧ AllH Hs fun H => ∀ x, H.ok x → body (H.st x).1 (H.st x).2 fun e tm' h' => match e with
    | .normal => AtHeads Hs n tm' h' (some (H.mu x))
    | .exit id => K (.exit id) tm' h'
    | .ret => K .ret tm' h'

def Rounds (body : List AVal → Heap A → CPost A → Prop) : Nat → List AVal → Heap A → CPost A → Prop
  | 0, _, _, _ => False
  | m + 1, tm, h, K => body tm h fun e tm' h' => match e with
    | .normal => Rounds body m tm' h' K
    | .exit id => K (.exit id) tm' h'
    | .ret => K .ret tm' h'

inductive Plan (A : Type) where
  | rounds (m : Nat)
  | states (H : Hint A)
  | statesAt (k : Nat) (F : Int → Hint A)
  | cases (Hs : List (Hint A))

def codeKey : Code → Option Nat
  | .region id _ _ => some id
  | .seq x y => match codeKey x with
    | some k => some k
    | none => codeKey y
  | .cond _ x y => match codeKey x with
    | some k => some k
    | none => codeKey y
  | .block _ c => codeKey c
  | .loop c => codeKey c
  | .scope c => codeKey c
  | .rangeFunc _ _ a c => match codeKey a with
    | some k => some k
    | none => codeKey c
  | _ => none

section
variable {P : Program} (E : Env A P)

def evRegion (inl : Inl A) (nt : Nat) (ops : Array Oper) (draw : Bool) (tm : List AVal) (h : Heap A) (K : List AVal → Heap A → Prop) : Prop :=
  onlyIf (Nat.beq tm.length nt) (cond draw (evDraw E (fun rest seen i δ h pm => onlyIf (totB pm i rest) (evOpsD E inl tm nt rest seen i δ h K)) ops tm nt ops.toList [] 0 [] h [] [] K) (evOpsY E inl tm nt ops.toList [] 0 [] h K))

def evCode (inl : Inl A) (L : Nat → Option (Plan A)) (nt n0 : Nat) : Code → List AVal → Heap A → CPost A → Prop
  | .skip, tm, h, K => K .normal tm h
  | .region _ ops draw, tm, h, K => evRegion E inl nt ops draw tm h (K .normal)
  | .seq x y, tm, h, K => evCode inl L nt n0 x tm h fun e tm' h' => match e with
      | .normal => evCode inl L nt n0 y tm' h' K
      | .exit id => K (.exit id) tm' h'
      | .ret => K .ret tm' h'
  | .cond c x y, tm, h, K => match aeval tm c with
      | .bool b => cond b (evCode inl L nt n0 x tm h K) (evCode inl L nt n0 y tm h K)
      | _ => False
  | .block id c, tm, h, K => evCode inl L nt n0 c tm h fun e tm' h' => match e with
      | .normal => K .normal tm' h'
      | .exit i => if i = id then K .normal tm' h' else K (.exit i) tm' h'
      | .ret => K .ret tm' h'
  | .loop c, tm, h, K => match codeKey c with
    | some k => match L k with
      | some (.rounds m) => Rounds (evCode inl L nt n0 c) m tm h K
      | some (.states H) => LoopBy H n0 (evCode inl L nt n0 c) tm h K
      | some (.statesAt k F) => (match tm.getD k .top with
        | .int _ i => LoopBy (F i) n0 (evCode inl L nt n0 c) tm h K
        | _ => False)
      | some (.cases Hs) => LoopBys Hs n0 (evCode inl L nt n0 c) tm h K
      | none => False
    | none => False
  | .exit id, tm, h, K => K (.exit id) tm h
  | .label _, tm, h, K => K .normal tm h
  | .ret, tm, h, K => K .ret tm h
  | _, _, _, _ => False

def aresult (P : Program) (tm : List AVal) (h : Heap A) : ResultVar → Option (AVal × Option Prop)
  | .tmp t => some (tm.getD t (.raw undef), none)
  | .cell a t => match tm.getD a (.raw undef) with
    | .ptr l off => (aload P t l off h).map fun r => (r.v, r.need)
    | _ => none

def oboth : Option Prop → Option Prop → Option Prop
  | none, q => q
  | some p, none => some p
  | some p, some q => some (p ∧ q)
theorem oboth_iff {p q : Option Prop} : onp (oboth p q) ↔ onp p ∧ onp q := by
  cases p with
  | none => exact ⟨fun h => ⟨trivial, h⟩, fun h => h.2⟩
  | some p => cases q with
    | none => exact ⟨fun h => ⟨h, trivial⟩, fun h => h.1⟩
    | some q => exact Iff.rfl

def aresults (P : Program) (tm : List AVal) (h : Heap A) : List ResultVar → Option (List AVal × Option Prop)
  | [] => some ([], none)
  | r :: rs => match aresult P tm h r, aresults P tm h rs with
    | some (v, p), some (vs, q) => some (v :: vs, oboth p q)
    | _, _ => none

def amk : List AVal → AVal
  | [v] => v
  | vs => .tup vs

def evBody (inl : Inl A) (L : Nat → Option (Plan A)) (fn : Func) (c : Code) (args : List AVal) (h : Heap A) (K : AVal → Heap A → Prop) : Prop :=
  evCode E inl L fn.ntmps h.length c (args ++ List.replicate (fn.ntmps - args.length) (.raw undef)) h fun e tm h' => match e with
    | .exit _ => False
    | _ => match aresults P tm h' fn.results.toList with
      | some (vs, p) => oand p (K (amk vs) h')
      | none => False

def evInl (L : FuncId → Nat → Option (Plan A)) : Nat → Inl A
  | 0 => fun _ _ _ _ => False
  | n + 1 => fun g args h K => match P.funcs[g]? with
    | some fn => match fn.body with
      | some c => evBody E (evInl L n) (L g) fn c args h K
      | none => False
    | none => False

variable {E}

theorem masks_append_get {a b : List Oper} {j : Nat} (hj : j < a.length) : (masks [] (a ++ b)).getD j 0 = (masks [] a).getD j 0 := by
  have key : ∀ (b acc : List Oper) (h : j < acc.length), (masks [] (acc ++ b)).getD j 0 = (masks [] acc).getD j 0 := by
    intro b
    induction b with
    | nil => intro acc h; rw [List.append_nil]
    | cons x b ih =>
      intro acc h
      have e : acc ++ x :: b = (acc ++ [x]) ++ b := by simp
      rw [e, ih (acc ++ [x]) (by simp; omega), masks_snoc, List.getD_eq_getElem?_getD, List.getElem?_append_left (by rw [masks_length]; simpa using h), ← List.getD_eq_getElem?_getD]
  exact key b a hj
theorem totB_spec : ∀ (rest done : List Oper) (pm : List Nat), pm = (masks [] done).reverse → edgesOk done → totB pm done.length rest = true →
    edgesOk (done ++ rest) ∧ ∀ k, done.length ≤ k → k < (done ++ rest).length → ∀ i, i < k → ((masks [] (done ++ rest)).getD k 0).testBit i = true
  | [], done, pm, hpm, he, _ => ⟨by rw [List.append_nil]; exact he, fun k h1 h2 => by simp at h2; omega⟩
  | o :: rest, done, pm, hpm, he, ht => by
    unfold totB at ht
    simp only [Bool.and_eq_true] at ht
    obtain ⟨⟨t1, t2⟩, t3⟩ := ht
    have hpl : pm.length = done.length := by rw [hpm, List.length_reverse, masks_length]; simp
    have hm : maskR pm done.length o = mask (masks [] done) o := by
      have := maskR_eq (pm := pm) (o := o) (by rw [hpl]; exact t1)
      rw [hpl] at this
      rw [this, hpm, List.reverse_reverse]
    have he2 : edgesOk (done ++ [o]) := by
      intro i o' hi
      by_cases hlt : i < done.length
      · rw [List.getElem?_append_left hlt] at hi; exact he i o' hi
      · rw [List.getElem?_append_right (by omega)] at hi
        have : i = done.length := by
          cases hq : i - done.length with
          | zero => omega
          | succ n => rw [hq] at hi; simp at hi
        subst this
        simp at hi; subst hi
        exact t1
    have hpm2 : (maskR pm done.length o :: pm) = (masks [] (done ++ [o])).reverse := by
      rw [masks_snoc, List.reverse_append, hm, hpm]; rfl
    obtain ⟨r1, r2⟩ := totB_spec rest (done ++ [o]) _ hpm2 he2 (by simpa using t3)
    have e : done ++ o :: rest = (done ++ [o]) ++ rest := by simp
    rw [e]
    refine ⟨r1, fun k h1 h2 i hi => ?_⟩
    by_cases hk : k = done.length
    · subst hk
      rw [masks_append_get (by simp), masks_snoc, List.getD_eq_getElem?_getD, List.getElem?_append_right (by rw [masks_length]; simp)]
      simp only [masks_length, List.length_nil, Nat.zero_add, Nat.sub_self, List.getElem?_cons_zero, Option.getD_some]
      rw [← hm, Nat.eq_of_beq_eq_true t2]
      show Nat.testBit (2 ^ done.length - 1) i = true
      rw [Nat.testBit_two_pow_sub_one]; simpa using hi
    · exact r2 k (by simp; omega) h2 i hi

theorem evCode_sound {inl : Inl A} (hinl : InlOk E inl) (hm : P.follows .mixedOrders = true) {L : Nat → Option (Plan A)} {nt n0 : Nat} {V0 : Val} {hR : PHeap} {w0 : World} (hf0 : Fresh V0 n0) : ∀ (c : Code) (tm : List AVal) (h : Heap A) (K : CPost A) (a : Act) (w : World) (V : Val) (Q : Exit → Act → World → Prop),
    evCode E inl L nt n0 c tm h K → Inv E.I V (toF h) hR w → Fresh V h.length → RepL V tm a.tmps.toList → a.defers = [] → V0.le V → n0 ≤ h.length → Grows w0 w →
    (∀ e a' w', Then E V0 n0 hR w0 (K e) a' w' → Q e.out a' w') → c.wp P Q a w := by
  intro c
  induction c with
  | skip =>
    intro tm h K a w V Q he hi hf ht hd hV hn hg hQ
    exact wp_skip (hQ .normal a w ⟨tm, V, h, he, ht, hV, hf, hn, hi, hg, hd⟩)
  | region id ops draw =>
    intro tm h K a w V Q he hi hf ht hd hV hn hg hQ
    simp only [evCode, evRegion] at he
    obtain ⟨hnt, he⟩ := onlyIf_iff.1 he
    cases draw with
    | false =>
      simp only [cond_false] at he
      exact wpIn_wide.1 (wpIn_region_list (evOpsY_sound (ro := none) hinl (Nat.eq_of_beq_eq_true hnt) ops.toList [] 0 [] h (K .normal) a w V hR ⟨[], rfl, rfl, rfl⟩ he trivial hi hf ht hd (fun a' w' hT => hQ .normal a' w' (hT.chain hV hn hg))))
    | true =>
      simp only [cond_true] at he
      obtain ⟨its, rest2, tmN, hN, pm', h1, h2, h3, h4⟩ := evDraw_trace (Nat.eq_of_beq_eq_true hnt) ops.toList [] 0 [] h [] [] ⟨[], rfl, rfl, rfl⟩ trivial rfl (Built.nil ops) he
      have h1 : Trace E ops tm h its tmN hN := h1
      obtain ⟨b1, b2, b3, b4⟩ := h3
      simp only [List.append_nil, List.reverse_reverse] at b1 b2 b3 b4
      have hlenO : its.length + rest2.length = ops.size := by have := congrArg List.length h2; simpa using this
      have htk : its.map (·.o) = ops.toList.take its.length := by
        rw [← h2, List.take_append_of_le_length (by simp), List.take_of_length_le (by simp)]
      have hdr : ops.toList.drop its.length = rest2 := by
        rw [← h2, List.drop_append_of_le_length (by simp), List.drop_of_length_le (by simp)]; rfl
      have hrest : edgesOk ops.toList ∧ (∀ k, its.length ≤ k → k < ops.size → ∀ i, i < k → ((masks [] ops.toList).getD k 0).testBit i = true) := by
        rcases h4 with ⟨e, _⟩ | ⟨seen', δ', _, _, _, hS⟩
        · subst e
          simp only [List.append_nil] at h2
          refine ⟨by rw [← h2]; exact b2, fun k hk hk2 => ?_⟩
          simp at hlenO; omega
        · obtain ⟨ht, _⟩ := onlyIf_iff.1 hS
          rw [Nat.zero_add] at ht
          have := totB_spec rest2 (its.map (·.o)) pm' b1 b2 (by rw [List.length_map]; exact ht)
          rw [h2] at this
          refine ⟨this.1, fun k hk hk2 => this.2 k (by simpa using hk) (by simpa using hk2)⟩
      have b4' : PairsP ops (masks [] ops.toList) its := by
        intro i k x y hi hk hik
        have := b4 i k x y hi hk hik
        rw [b1, List.reverse_reverse] at this
        rw [← h2, masks_append_get (by simp; exact (List.getElem?_eq_some_iff.1 hk).1)]
        exact this
      have d : Drawn E ops tm h its tmN hN := ⟨h1, htk, hrest.1, b3, b4'⟩
      refine wp_region_any hm ?_
      have hD0 : (fun i => (Array.replicate ops.size false).getD i false) = fun _ => false := by
        funext i
        rw [Array.getD_eq_getD_getElem?, Array.getElem?_replicate]
        split <;> rfl
      have at_end : ∀ (a' : Act) (w' : World), Stand E tm h its V hR w (fun i => decide (i < its.length)) a' w' → ∃ V', V.le V' ∧ Fresh V' hN.length ∧ RepL V' tmN a'.tmps.toList ∧ Inv E.I V' (toF hN) hR w' ∧ Grows w w' ∧ a'.defers = [] := by
        rintro a' w' ⟨V', g1, g2, g3, g4, g5, g6⟩
        obtain ⟨e1, e2⟩ := h1.end b3 0 (fun i => decide (i < its.length)) (by intro k hk; simpa using hk)
        rw [e1] at g3
        rw [e2] at g4
        refine ⟨V', g1, ?_, g3, g4, g5, g6⟩
        intro l hl
        cases e : V' l with
        | none => rfl
        | some x =>
          rcases g2 l (by rw [e]; simp) with h | ⟨i, it, hi, _, q1, q2⟩
          · have := h1.le; exact (h (hf l (by omega))).elim
          · obtain ⟨hk', hok, _, _, hkn⟩ := h1.at b3 0 i it hi
            have : it.n = hk'.length := hok.1
            omega
      refine d.any hf (hR := hR) (w0 := w) (by omega) hrest.2 ?_ ops.size _ a _ (by simp) ?_ ?_ ?_ ?_
      · intro fuel listed a' w' hls hl hfu hs
        obtain ⟨V', g1, g2, g3, g4, g5, g6⟩ := at_end a' w' hs
        refine any_of_list hrest.1 hrest.2 rest2 its.length fuel listed a' w' hdr (Nat.le_refl _) hls hl (by omega) ?_
        rcases h4 with ⟨e, hK⟩ | ⟨seen', δ', hδ, hin, hsn, hS⟩
        · subst e
          exact hQ .normal a' w' ⟨tmN, V', hN, hK, g3, Val.le_trans hV g1, g2, Nat.le_trans hn h1.le, g4, hg.trans g5, g6⟩
        · obtain ⟨_, hev⟩ := onlyIf_iff.1 hS
          refine evOpsD_sound hinl (Nat.eq_of_beq_eq_true hnt) rest2 seen' _ δ' hN (K .normal) a' w' V' hR hsn hev hin g4 g2 (by rw [← hδ]; exact g3) g6 ?_
          intro a'' w'' hT
          exact hQ .normal a'' w'' (hT.chain (Val.le_trans hV g1) (Nat.le_trans hn h1.le) (hg.trans g5))
      · refine Nat.le_trans (Nat.add_le_add_right (List.length_filter_le _ _) _) (by simp; omega)
      · rw [hD0]; intro j o _ hj; cases hj
      · intro i _; exact congrFun hD0 i
      · rw [hD0]
        refine ⟨V, V.le_refl, fun l hl => .inl hl, ?_, ?_, ⟨rfl, rfl, Nat.le_refl _, fun _ _ => rfl⟩, hd⟩
        · rw [tmF_none _ _ _ (fun _ _ => rfl)]; exact ht
        · rw [hF_none _ _ _ (fun _ _ => rfl)]; exact hi.drew _
  | seq x y ihx ihy =>
    intro tm h K a w V Q he hi hf ht hd hV hn hg hQ
    refine wp_seq (ihx tm h _ a w V _ he hi hf ht hd hV hn hg ?_)
    rintro e a' w' ⟨tm', V', h', k1, k2, k3, k4, k5, k6, k7, k8⟩
    cases e with
    | normal => exact ihy tm' h' K a' w' V' Q k1 k6 k4 k2 k8 k3 k5 k7 hQ
    | exit id => exact hQ (.exit id) a' w' ⟨tm', V', h', k1, k2, k3, k4, k5, k6, k7, k8⟩
    | ret => exact hQ .ret a' w' ⟨tm', V', h', k1, k2, k3, k4, k5, k6, k7, k8⟩
  | cond c x y ihx ihy =>
    intro tm h K a w V Q he hi hf ht hd hV hn hg hQ
    simp only [evCode] at he
    split at he
    · rename_i b hb
      have hc := aeval_rep ht c
      rw [hb] at hc
      have hc' : a.eval c = .bool b := hc
      refine wp_cond hc' ?_
      cases b with
      | true => exact ihx tm h K a w V Q he hi hf ht hd hV hn hg hQ
      | false => exact ihy tm h K a w V Q he hi hf ht hd hV hn hg hQ
    · exact he.elim
  | block id c ih =>
    intro tm h K a w V Q he hi hf ht hd hV hn hg hQ
    refine wp_block (ih tm h _ a w V _ he hi hf ht hd hV hn hg ?_)
    rintro e a' w' ⟨tm', V', h', k1, k2, k3, k4, k5, k6, k7, k8⟩
    cases e with
    | normal => exact hQ .normal a' w' ⟨tm', V', h', k1, k2, k3, k4, k5, k6, k7, k8⟩
    | exit i =>
      simp only [Ex.out, Exit.inBlock]
      by_cases hi' : i = id
      · simp only [hi', if_true] at k1 ⊢
        exact hQ .normal a' w' ⟨tm', V', h', k1, k2, k3, k4, k5, k6, k7, k8⟩
      · simp only [hi', if_false] at k1 ⊢
        exact hQ (.exit i) a' w' ⟨tm', V', h', k1, k2, k3, k4, k5, k6, k7, k8⟩
    | ret => exact hQ .ret a' w' ⟨tm', V', h', k1, k2, k3, k4, k5, k6, k7, k8⟩
  | loop c ih =>
    intro tm h K a w V Q he hi hf ht hd hV hn hg hQ
    have he : (∃ m, Rounds (evCode E inl L nt n0 c) m tm h K) ∨ (∃ H, LoopBy H n0 (evCode E inl L nt n0 c) tm h K) ∨ (∃ Hs, LoopBys Hs n0 (evCode E inl L nt n0 c) tm h K) := by
      simp only [evCode] at he
      split at he
      · split at he
        · exact .inl ⟨_, he⟩
        · exact .inr (.inl ⟨_, he⟩)
        · split at he
          · exact .inr (.inl ⟨_, he⟩)
          · exact he.elim
        · exact .inr (.inr ⟨_, he⟩)
        · exact he.elim
      · exact he.elim
    · rcases he with ⟨m, he⟩ | ⟨H, he⟩ | ⟨Hs, he⟩
      · skip
        have key : ∀ m tm h a w V, Rounds (evCode E inl L nt n0 c) m tm h K → Inv E.I V (toF h) hR w → Fresh V h.length → RepL V tm a.tmps.toList → a.defers = [] → V0.le V → n0 ≤ h.length → Grows w0 w →
            ∀ (b : Frame) (k : List _root_.Go.Item) (cs : List Frame), ∃ e a' w', Q e a' w' ∧ Arrives P (lone (b.at a (.code c :: .inLoop c :: k)) cs w) b k cs e a' w' := by
          intro m
          induction m with
          | zero => intro tm h a w V hr; exact hr.elim
          | succ m ihm =>
            intro tm h a w V hr hi hf ht hd hV hn hg b k cs
            have hb := ih tm h _ a w V (Exit.then (fun a2 w2 => ∃ tm2 h2 V2, Rounds (evCode E inl L nt n0 c) m tm2 h2 K ∧ RepL V2 tm2 a2.tmps.toList ∧ V0.le V2 ∧ Fresh V2 h2.length ∧ n0 ≤ h2.length ∧ Inv E.I V2 (toF h2) hR w2 ∧ Grows w0 w2 ∧ a2.defers = []) Q) hr hi hf ht hd hV hn hg (by
              rintro e a2 w2 ⟨tm2, V2, h2, k1, k2, k3, k4, k5, k6, k7, k8⟩
              cases e with
              | normal => exact ⟨tm2, h2, V2, k1, k2, k3, k4, k5, k6, k7, k8⟩
              | exit id => exact hQ (.exit id) a2 w2 ⟨tm2, V2, h2, k1, k2, k3, k4, k5, k6, k7, k8⟩
              | ret => exact hQ .ret a2 w2 ⟨tm2, V2, h2, k1, k2, k3, k4, k5, k6, k7, k8⟩)
            obtain ⟨e, a2, w2, hq, harr⟩ := hb b (.inLoop c :: k) cs
            cases e with
            | normal =>
              obtain ⟨tm2, h2, V2, q1, q3, q4, q5, q6, q7, q8, q9⟩ := hq
              obtain ⟨e3, a3, w3, hq3, harr3⟩ := ihm tm2 h2 a2 w2 V2 q1 q7 q5 q3 q9 q4 q6 q8 b k cs
              exact ⟨e3, a3, w3, hq3, .of_steps (Steps.trans harr (.one step_inLoop)) harr3⟩
            | exit id => exact ⟨_, a2, w2, hq, .pass (x := .inLoop c) rfl (fun _ _ => .inl (by simp)) harr⟩
            | goto l => exact ⟨_, a2, w2, hq, .pass (x := .inLoop c) rfl (fun _ _ => .inl (by simp)) harr⟩
            | ret => exact ⟨_, a2, w2, hq, .pass (x := .inLoop c) rfl (fun _ _ => .inl (by simp)) harr⟩
            | panic ch => exact ⟨_, a2, w2, hq, .pass (x := .inLoop c) rfl (fun _ _ => .inl (by simp)) harr⟩
            | outgrown => exact ⟨_, a2, w2, hq, .pass (x := .inLoop c) rfl (fun _ _ => .inl (by simp)) harr⟩
        intro b k cs
        obtain ⟨e, a', w', hq, harr⟩ := key m tm h a w V he hi hf ht hd hV hn hg b k cs
        exact ⟨e, a', w', hq, .of_steps (.one step_loop) harr⟩
      · obtain ⟨hstart, hround⟩ := he
        have head : ∀ {tm1 : List AVal} {h1 : Heap A} {V1 : Val} {a1 : Act} {w1 : World} {ok : H.X → Prop}, AtHead H n0 tm1 h1 ok → Inv E.I V1 (toF h1) hR w1 → Fresh V1 h1.length → RepL V1 tm1 a1.tmps.toList → V0.le V1 →
            ∃ x V2, ok x ∧ RepL V2 (H.st x).1 a1.tmps.toList ∧ V0.le V2 ∧ Fresh V2 (H.st x).2.length ∧ n0 ≤ (H.st x).2.length ∧ Inv E.I V2 (toF (H.st x).2) hR w1 := by
          intro tm1 h1 V1 a1 w1 ok hat hi1 hf1 ht1 hV1
          unfold AtHead at hat
          split at hat
          case h_2 => exact hat.elim
          rename_i tm2 h2 hcast
          obtain ⟨Vc, ⟨cle, cfr, clen, cinv⟩, crep⟩ := castAll_ok hcast hi1 hf1 ht1
          have hV1 := Val.le_trans hV1 cle
          clear hi1 hf1 ht1
          have hi1 := cinv
          have hf1 := cfr
          have ht1 := crep
          obtain ⟨g0, ⟨x, g3, g4⟩⟩ := onlyIf_iff.1 hat
          obtain ⟨g1, g2⟩ := Bool.and_eq_true_iff.1 g0
          obtain ⟨m1, m2, m3, m4⟩ := Picks.elim g1 g2 hi1 hf1
          refine ⟨x, fun i => Vc (lab (gather n0 h2 (keptLabels H.keep 0 tm2)) h2.length i), g4, by rw [g3]; exact sift_rep 0 _ _ ht1, ?_, by rw [g3]; exact m2, by rw [g3]; exact m3, by rw [g3]; exact m4⟩
          intro l y hl
          have hlt : l < n0 := by
            cases Nat.lt_or_ge l n0 with
            | inl g => exact g
            | inr g => rw [hf0 l g] at hl; cases hl
          show Vc (lab _ _ l) = some y
          rw [m1 l hlt]; exact hV1 l y hl
        have key : ∀ m x V1 a1 w1, H.mu x < m → H.ok x → RepL V1 (H.st x).1 a1.tmps.toList → V0.le V1 → Fresh V1 (H.st x).2.length → n0 ≤ (H.st x).2.length → Inv E.I V1 (toF (H.st x).2) hR w1 → Grows w0 w1 → a1.defers = [] →
            ∀ (b : Frame) (k : List _root_.Go.Item) (cs : List Frame), ∃ e a' w', Q e a' w' ∧ Arrives P (lone (b.at a1 (.code c :: .inLoop c :: k)) cs w1) b k cs e a' w' := by
          intro m
          induction m with
          | zero => intro x V1 a1 w1 hlt; omega
          | succ m ihm =>
            intro x V1 a1 w1 hlt j1 j2 j3 j4 j5 j6 j7 j8 b k cs
            have hb := ih (H.st x).1 (H.st x).2 _ a1 w1 V1 (Exit.then (fun a2 w2 => ∃ x2 V2, H.mu x2 < m ∧ H.ok x2 ∧ RepL V2 (H.st x2).1 a2.tmps.toList ∧ V0.le V2 ∧ Fresh V2 (H.st x2).2.length ∧ n0 ≤ (H.st x2).2.length ∧ Inv E.I V2 (toF (H.st x2).2) hR w2 ∧ Grows w0 w2 ∧ a2.defers = []) Q) (hround x j1) j6 j4 j2 j8 j3 j5 j7 (by
              rintro e a2 w2 ⟨tm2, V2, h2, k1, k2, k3, k4, k5, k6, k7, k8⟩
              cases e with
              | normal =>
                obtain ⟨x3, V3, ⟨m1, m1'⟩, m2, m3, m4, m5, m6⟩ := head k1 k6 k4 k2 k3
                exact ⟨x3, V3, by omega, m1, m2, m3, m4, m5, m6, k7, k8⟩
              | exit id => exact hQ (.exit id) a2 w2 ⟨tm2, V2, h2, k1, k2, k3, k4, k5, k6, k7, k8⟩
              | ret => exact hQ .ret a2 w2 ⟨tm2, V2, h2, k1, k2, k3, k4, k5, k6, k7, k8⟩)
            obtain ⟨e, a2, w2, hq, harr⟩ := hb b (.inLoop c :: k) cs
            cases e with
            | normal =>
              obtain ⟨x2, V2, q1, q2, q3, q4, q5, q6, q7, q8, q9⟩ := hq
              obtain ⟨e3, a3, w3, hq3, harr3⟩ := ihm x2 V2 a2 w2 q1 q2 q3 q4 q5 q6 q7 q8 q9 b k cs
              exact ⟨e3, a3, w3, hq3, .of_steps (Steps.trans harr (.one step_inLoop)) harr3⟩
            | exit id => exact ⟨_, a2, w2, hq, .pass (x := .inLoop c) rfl (fun _ _ => .inl (by simp)) harr⟩
            | goto l => exact ⟨_, a2, w2, hq, .pass (x := .inLoop c) rfl (fun _ _ => .inl (by simp)) harr⟩
            | ret => exact ⟨_, a2, w2, hq, .pass (x := .inLoop c) rfl (fun _ _ => .inl (by simp)) harr⟩
            | panic ch => exact ⟨_, a2, w2, hq, .pass (x := .inLoop c) rfl (fun _ _ => .inl (by simp)) harr⟩
            | outgrown => exact ⟨_, a2, w2, hq, .pass (x := .inLoop c) rfl (fun _ _ => .inl (by simp)) harr⟩
        intro b k cs
        obtain ⟨x, V2, m1, m2, m3, m4, m5, m6⟩ := head hstart hi hf ht hV
        obtain ⟨e, a', w', hq, harr⟩ := key (H.mu x + 1) x V2 a w (Nat.lt_succ_self _) m1 m2 m3 m4 m5 m6 hg hd b k cs
        exact ⟨e, a', w', hq, .of_steps (.one step_loop) harr⟩
      · obtain ⟨hstart, hround⟩ := he
        have head1 : ∀ (H : Hint A) {tm1 : List AVal} {h1 : Heap A} {V1 : Val} {a1 : Act} {w1 : World} {ok : H.X → Prop}, AtHead H n0 tm1 h1 ok → Inv E.I V1 (toF h1) hR w1 → Fresh V1 h1.length → RepL V1 tm1 a1.tmps.toList → V0.le V1 →
            ∃ x V2, ok x ∧ RepL V2 (H.st x).1 a1.tmps.toList ∧ V0.le V2 ∧ Fresh V2 (H.st x).2.length ∧ n0 ≤ (H.st x).2.length ∧ Inv E.I V2 (toF (H.st x).2) hR w1 := by
          intro H tm1 h1 V1 a1 w1 ok hat hi1 hf1 ht1 hV1
          unfold AtHead at hat
          split at hat
          case h_2 => exact hat.elim
          rename_i tm2 h2 hcast
          obtain ⟨Vc, ⟨cle, cfr, clen, cinv⟩, crep⟩ := castAll_ok hcast hi1 hf1 ht1
          have hV1 := Val.le_trans hV1 cle
          clear hi1 hf1 ht1
          have hi1 := cinv
          have hf1 := cfr
          have ht1 := crep
          obtain ⟨g0, ⟨x, g3, g4⟩⟩ := onlyIf_iff.1 hat
          obtain ⟨g1, g2⟩ := Bool.and_eq_true_iff.1 g0
          obtain ⟨m1, m2, m3, m4⟩ := Picks.elim g1 g2 hi1 hf1
          refine ⟨x, fun i => Vc (lab (gather n0 h2 (keptLabels H.keep 0 tm2)) h2.length i), g4, by rw [g3]; exact sift_rep 0 _ _ ht1, ?_, by rw [g3]; exact m2, by rw [g3]; exact m3, by rw [g3]; exact m4⟩
          intro l y hl
          have hlt : l < n0 := by
            cases Nat.lt_or_ge l n0 with
            | inl g => exact g
            | inr g => rw [hf0 l g] at hl; cases hl
          show Vc (lab _ _ l) = some y
          rw [m1 l hlt]; exact hV1 l y hl
        have hr' := AllH_mem hround
        have head : ∀ (Gs : List (Hint A)) {tm1 : List AVal} {h1 : Heap A} {V1 : Val} {a1 : Act} {w1 : World} {bo : Option Nat}, AtHeads Gs n0 tm1 h1 bo → Inv E.I V1 (toF h1) hR w1 → Fresh V1 h1.length → RepL V1 tm1 a1.tmps.toList → V0.le V1 →
            ∃ H : Hint A, H ∈ Gs ∧ ∃ x V2, (H.ok x ∧ ∀ m, bo = some m → H.mu x < m) ∧ RepL V2 (H.st x).1 a1.tmps.toList ∧ V0.le V2 ∧ Fresh V2 (H.st x).2.length ∧ n0 ≤ (H.st x).2.length ∧ Inv E.I V2 (toF (H.st x).2) hR w1 := by
          intro Gs
          induction Gs with
          | nil => intro tm1 h1 V1 a1 w1 bo hat; exact hat.elim
          | cons G r ihG =>
            intro tm1 h1 V1 a1 w1 bo hat hi1 hf1 ht1 hV1
            unfold AtHeads at hat
            cases hsel : G.sel tm1 h1 <;> rw [hsel] at hat
            case true =>
              obtain ⟨x, V2, ⟨m1, m1'⟩, m2, m3, m4, m5, m6⟩ := head1 G hat hi1 hf1 ht1 hV1
              refine ⟨G, List.mem_cons_self, x, V2, ⟨m1, ?_⟩, m2, m3, m4, m5, m6⟩
              intro m hm
              subst hm
              exact m1'
            case false =>
              obtain ⟨H, hH, x, V2, m⟩ := ihG hat hi1 hf1 ht1 hV1
              exact ⟨H, List.mem_cons_of_mem _ hH, x, V2, m⟩
        have key : ∀ m (H : Hint A) (_ : H ∈ Hs) (x : H.X) V1 a1 w1, H.mu x < m → H.ok x → RepL V1 (H.st x).1 a1.tmps.toList → V0.le V1 → Fresh V1 (H.st x).2.length → n0 ≤ (H.st x).2.length → Inv E.I V1 (toF (H.st x).2) hR w1 → Grows w0 w1 → a1.defers = [] →
            ∀ (b : Frame) (k : List _root_.Go.Item) (cs : List Frame), ∃ e a' w', Q e a' w' ∧ Arrives P (lone (b.at a1 (.code c :: .inLoop c :: k)) cs w1) b k cs e a' w' := by
          intro m
          induction m with
          | zero => intro H hH x V1 a1 w1 hlt; omega
          | succ m ihm =>
            intro H hH x V1 a1 w1 hlt j1 j2 j3 j4 j5 j6 j7 j8 b k cs
            have hb := ih (H.st x).1 (H.st x).2 _ a1 w1 V1 (Exit.then (fun a2 w2 => ∃ G : Hint A, G ∈ Hs ∧ ∃ x2 V2, G.mu x2 < m ∧ G.ok x2 ∧ RepL V2 (G.st x2).1 a2.tmps.toList ∧ V0.le V2 ∧ Fresh V2 (G.st x2).2.length ∧ n0 ≤ (G.st x2).2.length ∧ Inv E.I V2 (toF (G.st x2).2) hR w2 ∧ Grows w0 w2 ∧ a2.defers = []) Q) (hr' H hH x j1) j6 j4 j2 j8 j3 j5 j7 (by
              rintro e a2 w2 ⟨tm2, V2, h2, k1, k2, k3, k4, k5, k6, k7, k8⟩
              cases e with
              | normal =>
                obtain ⟨G, hG, x3, V3, ⟨m1, m1'⟩, m2, m3, m4, m5, m6⟩ := head Hs k1 k6 k4 k2 k3
                have := m1' _ rfl
                exact ⟨G, hG, x3, V3, by omega, m1, m2, m3, m4, m5, m6, k7, k8⟩
              | exit id => exact hQ (.exit id) a2 w2 ⟨tm2, V2, h2, k1, k2, k3, k4, k5, k6, k7, k8⟩
              | ret => exact hQ .ret a2 w2 ⟨tm2, V2, h2, k1, k2, k3, k4, k5, k6, k7, k8⟩)
            obtain ⟨e, a2, w2, hq, harr⟩ := hb b (.inLoop c :: k) cs
            cases e with
            | normal =>
              obtain ⟨G, hG, x2, V2, q1, q2, q3, q4, q5, q6, q7, q8, q9⟩ := hq
              obtain ⟨e3, a3, w3, hq3, harr3⟩ := ihm G hG x2 V2 a2 w2 q1 q2 q3 q4 q5 q6 q7 q8 q9 b k cs
              exact ⟨e3, a3, w3, hq3, .of_steps (Steps.trans harr (.one step_inLoop)) harr3⟩
            | exit id => exact ⟨_, a2, w2, hq, .pass (x := .inLoop c) rfl (fun _ _ => .inl (by simp)) harr⟩
            | goto l => exact ⟨_, a2, w2, hq, .pass (x := .inLoop c) rfl (fun _ _ => .inl (by simp)) harr⟩
            | ret => exact ⟨_, a2, w2, hq, .pass (x := .inLoop c) rfl (fun _ _ => .inl (by simp)) harr⟩
            | panic ch => exact ⟨_, a2, w2, hq, .pass (x := .inLoop c) rfl (fun _ _ => .inl (by simp)) harr⟩
            | outgrown => exact ⟨_, a2, w2, hq, .pass (x := .inLoop c) rfl (fun _ _ => .inl (by simp)) harr⟩
        intro b k cs
        obtain ⟨H, hH, x, V2, ⟨m1, _⟩, m2, m3, m4, m5, m6⟩ := head Hs hstart hi hf ht hV
        obtain ⟨e, a', w', hq, harr⟩ := key (H.mu x + 1) H hH x V2 a w (Nat.lt_succ_self _) m1 m2 m3 m4 m5 m6 hg hd b k cs
        exact ⟨e, a', w', hq, .of_steps (.one step_loop) harr⟩
  | exit id =>
    intro tm h K a w V Q he hi hf ht hd hV hn hg hQ
    exact wp_exit (hQ (.exit id) a w ⟨tm, V, h, he, ht, hV, hf, hn, hi, hg, hd⟩)
  | label l =>
    intro tm h K a w V Q he hi hf ht hd hV hn hg hQ
    exact wp_label (hQ .normal a w ⟨tm, V, h, he, ht, hV, hf, hn, hi, hg, hd⟩)
  | ret =>
    intro tm h K a w V Q he hi hf ht hd hV hn hg hQ
    exact wp_ret (hQ .ret a w ⟨tm, V, h, he, ht, hV, hf, hn, hi, hg, hd⟩)
  | _ => intro tm h K a w V Q he; exact he.elim

def rvar (tmps : Array Value) : ResultVar → Sem Value
  | .tmp t => Pure.pure (tmps.getD t undef)
  | .cell a t => do loadVar t (← asAddr (tmps.getD a undef))
theorem results_eq (fn : Func) (tmps : Array Value) : results fn tmps = (do
    let vs ← fn.results.mapM (rvar tmps)
    Pure.pure (if h : vs.size = 1 then vs[0] else .tuple vs)) := by
  unfold results
  congr 1

theorem aresult_run {tm : List AVal} {h : Heap A} {r : ResultVar} {v : AVal} {p : Option Prop} (hr : aresult P tm h r = some (v, p)) (hp : onp p) {V : Val} {hR : PHeap} {w : World} {tmps : Array Value} (hi : Inv E.I V (toF h) hR w) (ht : RepL V tm tmps.toList) :
    ∃ v', (rvar tmps r).run P w = .ok v' w ∧ Rep V v v' := by
  have hρ : ∀ x, Rep V (aeval tm x) (Act.eval ⟨tmps, []⟩ x) := aeval_rep (a := ⟨tmps, []⟩) ht
  cases r with
  | tmp t =>
    simp only [aresult, Option.some.injEq, Prod.mk.injEq] at hr
    obtain ⟨rfl, rfl⟩ := hr
    exact ⟨_, rfl, hρ (.tmp t)⟩
  | cell a t =>
    simp only [aresult] at hr
    split at hr
    · rename_i l off e
      have ra : Rep V (tm.getD a (.raw undef)) (tmps.getD a undef) := hρ (.tmp a)
      rw [e] at ra
      cases hq : aload P t l off h with
      | none => rw [hq] at hr; cases hr
      | some q =>
        rw [hq] at hr
        simp only [Option.map_some, Option.some.injEq, Prod.mk.injEq] at hr
        obtain ⟨rfl, rfl⟩ := hr
        obtain ⟨v', h1, h2, _, _⟩ := aload_run hq hp hi ra
        obtain ⟨b, k, hl, e2⟩ := ra
        rw [e2] at h1
        refine ⟨v', ?_, h2⟩
        show (do loadVar t (← asAddr (tmps.getD a undef)) : Sem Value).run P w = .ok v' w
        rw [e2]
        simpa [asAddr, Instr.loadAt, Instr.sureAddr] using h1
    · cases hr

theorem aresults_run {fn : Func} {tm : List AVal} {h : Heap A} {V : Val} {hR : PHeap} {w : World} {tmps : Array Value} (hi : Inv E.I V (toF h) hR w) (ht : RepL V tm tmps.toList) {vs : List AVal} {p : Option Prop} (hr : aresults P tm h fn.results.toList = some (vs, p)) (hp : onp p) :
    ∃ v', (results fn tmps).run P w = .ok v' w ∧ Rep V (amk vs) v' := by
  have key : ∀ (rs : List ResultVar) (vs : List AVal) (p : Option Prop), aresults P tm h rs = some (vs, p) → onp p →
      ∃ ws, (rs.mapM (rvar tmps)).run P w = .ok ws w ∧ RepL V vs ws := by
    intro rs
    induction rs with
    | nil =>
      intro vs p h1 h2
      simp only [aresults, Option.some.injEq, Prod.mk.injEq] at h1
      obtain ⟨rfl, rfl⟩ := h1
      exact ⟨[], rfl, rfl⟩
    | cons r rs ih =>
      intro vs p h1 h2
      simp only [aresults] at h1
      split at h1
      · rename_i v q vs' q' e1 e2
        simp only [Option.some.injEq, Prod.mk.injEq] at h1
        obtain ⟨rfl, rfl⟩ := h1
        have h2 := oboth_iff.1 h2
        obtain ⟨v', g1, g2⟩ := aresult_run e1 h2.1 hi ht
        obtain ⟨ws, g3, g4⟩ := ih vs' q' e2 h2.2
        refine ⟨v' :: ws, ?_, ⟨v', ws, rfl, g2, g4⟩⟩
        rw [List.mapM_cons]
        simp only [Sem.run_bind]
        rw [g1]
        simp only [Result.andThen_ok, Sem.run_bind]
        rw [g3]
        rfl
      · cases h1
  obtain ⟨ws, h1, h2⟩ := key _ vs p hr hp
  have hmap : (fn.results.mapM (rvar tmps)).run P w = .ok ws.toArray w := by
    rw [Array.mapM_eq_mapM_toList, Sem.run_map, h1]; rfl
  have hrun : (results fn tmps).run P w = .ok (if h : ws.toArray.size = 1 then ws.toArray[0] else .tuple ws.toArray) w := by
    rw [results_eq, Sem.run_bind, hmap]
    rfl
  refine ⟨_, hrun, ?_⟩
  match vs, ws, h2 with
  | [], _, r => have e : _ = [] := r; subst e; exact ⟨#[], rfl, rfl⟩
  | [v], _, ⟨y, ys, e, r, s⟩ => have e2 : ys = [] := s; subst e2; subst e; exact r
  | v1 :: v2 :: vs, _, ⟨y, _, e, r, y2, ys, e2, r2, s⟩ =>
    subst e2; subst e
    exact ⟨_, rfl, y, _, rfl, r, y2, ys, rfl, r2, s⟩

theorem evBody_sound {inl : Inl A} (hinl : InlOk E inl) (hm : P.follows .mixedOrders = true) {g : FuncId} {fn : Func} {c : Code} (hg : P.funcs[g]? = some fn) (hb : fn.body = some c) {args : List AVal} {h : Heap A} {K : AVal → Heap A → Prop} {L : Nat → Option (Plan A)} (he : evBody E inl L fn c args h K)
    {V : Val} {hR : PHeap} {w : World} {args' : Array Value} (hi : Inv E.I V (toF h) hR w) (hf : Fresh V h.length) (hr : RepL V args args'.toList) : Calls P g args' w (Post E.I V h.length hR K w) := by
  have hlen : args'.size = args.length := by rw [← Array.length_toList]; exact RepL.length hr
  refine calls_of_wp hg hb (evCode_sound hinl hm hf c _ h _ _ w V _ he hi hf ?_ rfl V.le_refl (Nat.le_refl _) (Grows.refl w) ?_)
  · show RepL V _ (args' ++ Array.replicate (fn.ntmps - args'.size) undef).toList
    rw [Array.toList_append, Array.toList_replicate, hlen]
    refine RepL.append hr ?_
    have : ∀ n : Nat, RepL V (List.replicate n (.raw undef)) (List.replicate n undef) := by
      intro n
      induction n with
      | zero => exact rfl
      | succ n ih => exact ⟨undef, _, rfl, rfl, ih⟩
    exact this _
  · rintro e a' w' ⟨tm', V', h', k1, k2, k3, k4, k5, k6, k7, k8⟩
    have fin : (match aresults P tm' h' fn.results.toList with | some (vs, p) => oand p (K (amk vs) h') | none => False) → a'.defers = [] ∧ ∃ v, (results fn a'.tmps).run P w' = .ok v w' ∧ Post E.I V h.length hR K w (.returned v) w' := by
      intro hh
      split at hh
      · rename_i vs p hres
        have hh := oand_iff.1 hh
        obtain ⟨v', g1, g2⟩ := aresults_run (E := E) k6 k2 hres hh.1
        exact ⟨k8, v', g1, amk vs, v', V', h', hh.2, rfl, g2, k3, k4, k5, k6, k7⟩
      · exact hh.elim
    cases e with
    | normal => exact fin k1
    | exit id => exact k1.elim
    | ret => exact fin k1

theorem evInl_sound (hm : P.follows .mixedOrders = true) (L : FuncId → Nat → Option (Plan A)) : ∀ n, InlOk E (evInl E L n)
  | 0 => fun _ _ _ _ he => he.elim
  | n + 1 => by
    intro g args h K he V hR w args' hi hf hr
    unfold evInl at he
    split at he
    · rename_i fn hg
      split at he
      · rename_i c hb
        exact evBody_sound (evInl_sound hm L n) hm hg hb he hi hf hr
      · exact he.elim
    · exact he.elim

end
end Go.Sh

namespace Go.Sh
open Go
variable [Con] {A : Type}

def CallOk (I : Itp A) (P : Program) (f : FuncId) (args : List AVal) (h : Heap A) (K : AVal → Heap A → Prop) : Prop :=
  ∀ V hR w (args' : Array Value), Inv I V (toF h) hR w → Fresh V h.length → RepL V args args'.toList → Calls P f args' w (Post I V h.length hR K w)

theorem CallOk.mono {I : Itp A} {P : Program} {f : FuncId} {args : List AVal} {h : Heap A} {K K' : AVal → Heap A → Prop} (h0 : CallOk I P f args h K) (hk : ∀ v h', K v h' → K' v h') : CallOk I P f args h K' := by
  intro V hR w args' hi hf hr
  refine (h0 V hR w args' hi hf hr).mono ?_
  rintro e w' ⟨v, v', V', h', k1, k2⟩
  exact ⟨v, v', V', h', hk _ _ k1, k2⟩

section
variable {P : Program} {I : Itp A}

def Trim (n : Nat) (K : AVal → Heap A → Prop) (v : AVal) (h' : Heap A) : Prop :=
  onlyIf (goodPl (gather n h' v.labels) h'.length && keeps (gather n h' v.labels) 0 n) (K (trimV (gather n h' v.labels) v) (trimH (gather n h' v.labels) h'))

theorem CallOk.trim {f : FuncId} {args : List AVal} {h : Heap A} {K : AVal → Heap A → Prop} (h0 : CallOk I P f args h (Trim h.length K)) : CallOk I P f args h K := by
  intro V hR w args' hi hf hr
  refine (h0 V hR w args' hi hf hr).mono ?_
  rintro e w' ⟨v, v', V', h', ht, k2, k3, k4, k5, k6, k7, k8⟩
  obtain ⟨g0, hK⟩ := onlyIf_iff.1 ht
  obtain ⟨g1, g2⟩ := Bool.and_eq_true_iff.1 g0
  generalize gather h.length h' v.labels = pl at g1 g2 hK
  obtain ⟨e1, e2⟩ := keeps_spec g2
  have hp := trimH_picks (h := h') g1
  refine ⟨trimV pl v, v', fun i => V' (lab pl h'.length i), trimH pl h', hK, k2, trimV_rep k3, ?_, ?_, by rw [hp.len]; exact e1, k7.pick hp, k8⟩
  · intro l x hl
    have hlt : l < h.length := by
      cases Nat.lt_or_ge l h.length with
      | inl g => exact g
      | inr g => rw [hf l g] at hl; cases hl
    show V' (lab pl h'.length l) = some x
    have : lab pl h'.length l = l := by unfold lab; rw [e2 l hlt]; simp
    rw [this]; exact k4 l x hl
  · intro l hl
    rw [hp.len] at hl
    show V' (lab pl h'.length l) = none
    have : lab pl h'.length l = h'.length + l := by unfold lab; rw [List.getElem?_eq_none hl]
    rw [this]; exact k5 _ (by omega)

def CastR (cs : List (Place × CastK)) (K : AVal → Heap A → Prop) (v : AVal) (g : Heap A) : Prop :=
  match castAll cs [v] g with
  | some ([v'], g') => K v' g'
  | _ => False
theorem CallOk.castR {f : FuncId} {args : List AVal} {h : Heap A} {K : AVal → Heap A → Prop} {cs : List (Place × CastK)} (h0 : CallOk I P f args h (CastR cs K)) : CallOk I P f args h K := by
  intro V hR w args' hi hf hr
  refine (h0 V hR w args' hi hf hr).mono ?_
  rintro e w' ⟨v, v', V', g, ht, k2, k3, k4, k5, k6, k7, k8⟩
  unfold CastR at ht
  split at ht
  · rename_i v1 g1 hc
    obtain ⟨V1, ⟨c1, c2, c3, c4⟩, c5⟩ := castAll_ok hc k7 k5 (xs := [v']) ⟨v', [], rfl, k3, rfl⟩
    obtain ⟨y, ys, e1, r1, _⟩ := c5
    simp only [List.cons.injEq] at e1
    exact ⟨v1, v', V1, g1, ht, k2, by rw [e1.1]; exact r1, Val.le_trans k4 c1, c2, Nat.le_trans k6 c3, c4, k8⟩
  · exact ht.elim

def hputs : List Nat → List (Option (Entry A)) → Heap A → Heap A
  | l :: il, e :: es, h => hputs il es (h.set l e)
  | _, _, h => h

def iota (il : List Nat) (n i : Nat) : Nat := match il[i]? with
  | some l => l
  | none => n + (i - il.length)

theorem iota_some {il : List Nat} {n i l : Nat} (h : il[i]? = some l) : iota il n i = l := by unfold iota; rw [h]
theorem iota_none {il : List Nat} {n i : Nat} (h : il[i]? = none) : iota il n i = n + (i - il.length) := by unfold iota; rw [h]

def merge (h : Heap A) (il : List Nat) (g : Heap A) : Heap A :=
  hputs il ((g.take il.length).map (Option.map (Entry.ren (iota il h.length)))) h ++ (g.drop il.length).map (Option.map (Entry.ren (iota il h.length)))

theorem hputs_length : ∀ (il : List Nat) (es : List (Option (Entry A))) (h : Heap A), (hputs il es h).length = h.length
  | [], _, _ => rfl
  | _ :: _, [], _ => rfl
  | l :: il, e :: es, h => by unfold hputs; rw [hputs_length il es]; simp

theorem hputs_other : ∀ (il : List Nat) (es : List (Option (Entry A))) (h : Heap A) (m : Nat), m ∉ il → hget (hputs il es h) m = hget h m
  | [], _, _, _, _ => rfl
  | _ :: _, [], _, _, _ => rfl
  | l :: il, e :: es, h, m, hm => by
    unfold hputs
    rw [hputs_other il es _ m (by simp at hm; exact hm.2)]
    simp only [hget, List.getD_eq_getElem?_getD]
    rw [List.getElem?_set_ne (by simp at hm; exact fun e => hm.1 e.symm)]

theorem hputs_get : ∀ (il : List Nat) (es : List (Option (Entry A))) (h : Heap A) (i l : Nat), il.Nodup → (∀ l ∈ il, l < h.length) → il[i]? = some l → i < es.length → hget (hputs il es h) l = es.getD i none
  | [], _, _, i, l, _, _, h, _ => by simp at h
  | _ :: _, [], _, i, _, _, _, _, h => by simp at h
  | m :: il, e :: es, h, 0, l, hnd, hlt, hi, _ => by
    simp at hi; subst hi
    unfold hputs
    rw [hputs_other il es _ m (List.nodup_cons.1 hnd).1]
    have : m < h.length := hlt m (by simp)
    simp [hget, List.getD_eq_getElem?_getD, this]
  | m :: il, e :: es, h, i + 1, l, hnd, hlt, hi, hes => by
    simp at hi
    unfold hputs
    rw [hputs_get il es _ i l (List.nodup_cons.1 hnd).2 (by intro l hl; simp; exact hlt l (by simp [hl])) hi (by simpa using hes)]
    simp

theorem iota_inj {il : List Nat} {n : Nat} (hnd : il.Nodup) (hlt : ∀ l ∈ il, l < n) : ∀ i j, iota il n i = iota il n j → i = j := by
  intro i j h
  have lt_of : ∀ {i a}, il[i]? = some a → i < il.length := by
    intro i a hi
    cases Nat.lt_or_ge i il.length with
    | inl g => exact g
    | inr g => rw [List.getElem?_eq_none g] at hi; cases hi
  unfold iota at h
  cases hi : il[i]? with
  | some a =>
    rw [hi] at h
    cases hj : il[j]? with
    | some b =>
      rw [hj] at h
      simp only at h
      subst h
      exact (List.getElem?_inj (lt_of hi) hnd).1 (hi.trans hj.symm)
    | none =>
      rw [hj] at h
      simp only at h
      have := hlt a (List.mem_of_getElem? hi)
      omega
  | none =>
    rw [hi] at h
    cases hj : il[j]? with
    | some b =>
      rw [hj] at h
      simp only at h
      have := hlt b (List.mem_of_getElem? hj)
      omega
    | none =>
      rw [hj] at h
      simp only at h
      have h1 := List.getElem?_eq_none_iff.1 hi
      have h2 := List.getElem?_eq_none_iff.1 hj
      omega

theorem CallOk.embed {f : FuncId} {args0 args : List AVal} {h0 h : Heap A} {K0 K : AVal → Heap A → Prop} (hs : CallOk I P f args0 h0 K0) (il : List Nat) (hlen : il.length = h0.length) (hnd : il.Nodup)
    (hlt : ∀ l ∈ il, l < h.length) (hent : ∀ i l, il[i]? = some l → hget h l = (hget h0 i).map (Entry.ren (iota il h.length))) (hargs : args = AVal.renL (iota il h.length) args0)
    (hK : ∀ v g, K0 v g → h0.length ≤ g.length → K (v.ren (iota il h.length)) (merge h il g)) : CallOk I P f args h K := by
  intro V hR w args' hi hf hr
  classical
  have hinj := iota_inj (n := h.length) hnd hlt
  have lt_of : ∀ {i a}, il[i]? = some a → i < il.length := by
    intro i a hi
    cases Nat.lt_or_ge i il.length with
    | inl g => exact g
    | inr g => rw [List.getElem?_eq_none g] at hi; cases hi
  obtain ⟨hR', hin, hcont⟩ := hi.split (fun l => decide (l ∈ il))
  have hV0 : Inv I (fun i => V (iota il h.length i)) (toF h0) hR' w := by
    refine (Inv.relabel hinj ?_ ?_).1 hin
    · intro i
      cases hii : il[i]? with
      | some l =>
        have e1 : iota il h.length i = l := by unfold iota; rw [hii]
        rw [e1, if_pos (by simpa using List.mem_of_getElem? hii)]
        exact hent i l hii
      | none =>
        have e1 : iota il h.length i = h.length + (i - il.length) := by unfold iota; rw [hii]
        have hge := List.getElem?_eq_none_iff.1 hii
        rw [e1, if_neg (by simp; intro hm; have := hlt _ hm; omega)]
        have : toF h0 i = none := hget_ge (by omega)
        rw [this]; rfl
    · intro m hm
      rw [if_neg]
      simp only [decide_eq_true_eq]
      intro hmem
      obtain ⟨i, hilt, he⟩ := List.getElem_of_mem hmem
      refine hm i ?_
      unfold iota
      rw [List.getElem?_eq_getElem hilt, he]
  have hf0 : Fresh (fun i => V (iota il h.length i)) h0.length := by
    intro i hi
    show V (iota il h.length i) = none
    have : il[i]? = none := List.getElem?_eq_none (by omega)
    rw [iota_none this]
    exact hf _ (by omega)
  have hr0 : RepL (fun i => V (iota il h.length i)) args0 args'.toList := by
    rw [hargs] at hr
    exact (RepL.ren args0 _).1 hr
  refine (hs _ hR' w args' hV0 hf0 hr0).mono ?_
  rintro e w' ⟨v, v', V', g, k1, k2, k3, k4, k5, k6, k7, k8⟩
  -- the great heap's labels
  let V1 : Val := fun m => if h.length ≤ m then V' (il.length + (m - h.length)) else if hm : ∃ i : Nat, il[i]? = some m then V' (Classical.choose hm) else V m
  have hV1 : ∀ i, V1 (iota il h.length i) = V' i := by
    intro i
    cases hii : il[i]? with
    | some l =>
      have e1 : iota il h.length i = l := by unfold iota; rw [hii]
      have hl := hlt l (List.mem_of_getElem? hii)
      have hm : ∃ i : Nat, il[i]? = some l := ⟨i, hii⟩
      show (if h.length ≤ iota il h.length i then _ else _) = _
      rw [e1, if_neg (by omega), dif_pos hm]
      have hc := Classical.choose_spec hm
      have := (List.getElem?_inj (lt_of hc) hnd).1 (hc.trans hii.symm)
      rw [this]
    | none =>
      have e1 : iota il h.length i = h.length + (i - il.length) := by unfold iota; rw [hii]
      have hge := List.getElem?_eq_none_iff.1 hii
      show (if h.length ≤ iota il h.length i then _ else _) = _
      rw [e1, if_pos (by omega)]
      congr 1; omega
  have hV1fun : (fun i => V1 (iota il h.length i)) = V' := funext hV1
  have hle : V.le V1 := by
    intro m x hm
    have hlt' : m < h.length := by
      cases Nat.lt_or_ge m h.length with
      | inl g => exact g
      | inr g => rw [hf m g] at hm; cases hm
    show (if h.length ≤ m then _ else _) = some x
    rw [if_neg (by omega)]
    split
    · rename_i hmm
      have hc := Classical.choose_spec hmm
      refine k4 _ x ?_
      show V (iota il h.length _) = some x
      have e1 : iota il h.length (Classical.choose hmm) = m := by unfold iota; rw [hc]
      rw [e1]; exact hm
    · exact hm
  -- the small heap, under the great one's labels
  let G : FHeap A := fun m => if h.length ≤ m then (hget g (il.length + (m - h.length))).map (Entry.ren (iota il h.length)) else if hm : ∃ i : Nat, il[i]? = some m then (hget g (Classical.choose hm)).map (Entry.ren (iota il h.length)) else none
  have hG : ∀ i, G (iota il h.length i) = (toF g i).map (Entry.ren (iota il h.length)) := by
    intro i
    cases hii : il[i]? with
    | some l =>
      have e1 : iota il h.length i = l := by unfold iota; rw [hii]
      have hl := hlt l (List.mem_of_getElem? hii)
      have hm : ∃ i : Nat, il[i]? = some l := ⟨i, hii⟩
      show (if h.length ≤ iota il h.length i then _ else _) = _
      rw [e1, if_neg (by omega), dif_pos hm]
      have hc := Classical.choose_spec hm
      have := (List.getElem?_inj (lt_of hc) hnd).1 (hc.trans hii.symm)
      rw [this]; rfl
    | none =>
      have e1 : iota il h.length i = h.length + (i - il.length) := by unfold iota; rw [hii]
      have hge := List.getElem?_eq_none_iff.1 hii
      show (if h.length ≤ iota il h.length i then _ else _) = _
      rw [e1, if_pos (by omega), show il.length + (h.length + (i - il.length) - h.length) = i from by omega]
      rfl
  have hGz : ∀ m, (∀ l, iota il h.length l ≠ m) → G m = none := by
    intro m hm
    show (if h.length ≤ m then _ else _) = none
    by_cases hge : h.length ≤ m
    · refine (hm (il.length + (m - h.length)) ?_).elim
      rw [iota_none (List.getElem?_eq_none (by omega))]
      omega
    · rw [if_neg hge, dif_neg]
      rintro ⟨i, hi⟩
      refine hm i ?_
      unfold iota; rw [hi]
  have hGinv : Inv I V1 G hR' w' := (Inv.relabel hinj hG hGz).2 (by rw [hV1fun]; exact k7)
  have hfin := hcont V1 G w' hle hGinv (by
    intro l hl hne
    have hl' : l ∉ il := by simpa using hl
    have hlt' : l < h.length := by
      cases Nat.lt_or_ge l h.length with
      | inl g => exact g
      | inr g => exact (hne (hget_ge g)).elim
    show (if h.length ≤ l then _ else _) = none
    rw [if_neg (by omega), dif_neg]
    rintro ⟨i, hi⟩
    exact hl' (List.mem_of_getElem? hi))
  have hml : (merge h il g).length = h.length + (g.length - il.length) := by
    unfold merge; rw [List.length_append, hputs_length, List.length_map, List.length_drop]
  have htk : ((g.take il.length).map (Option.map (Entry.ren (iota il h.length)))).length = il.length := by
    rw [List.length_map, List.length_take]; omega
  have heq : (fun l => if (fun l => decide (l ∈ il)) l = false ∧ toF h l ≠ none then toF h l else G l) = toF (merge h il g) := by
    funext m
    show _ = hget (merge h il g) m
    by_cases hge : h.length ≤ m
    · have e0 : toF h m = none := hget_ge hge
      rw [if_neg (by rw [e0]; simp)]
      show (if h.length ≤ m then _ else _) = _
      rw [if_pos hge]
      unfold merge
      simp only [hget, List.getD_eq_getElem?_getD]
      rw [List.getElem?_append_right (by rw [hputs_length]; exact hge), hputs_length, List.getElem?_map, List.getElem?_drop]
      cases hq : g[il.length + (m - h.length)]? with
      | none => rfl
      | some x => rfl
    · have hlt' : m < h.length := by omega
      have e1 : hget (merge h il g) m = hget (hputs il ((g.take il.length).map (Option.map (Entry.ren (iota il h.length)))) h) m := by
        unfold merge
        exact hget_append_left (by rw [hputs_length]; exact hlt')
      rw [e1]
      by_cases hmem : m ∈ il
      · obtain ⟨i, hilt, he⟩ := List.getElem_of_mem hmem
        have hii : il[i]? = some m := by rw [List.getElem?_eq_getElem hilt, he]
        rw [if_neg (by simp [hmem]), hputs_get il _ h i m hnd hlt hii (by rw [htk]; exact hilt)]
        have e2 : iota il h.length i = m := by unfold iota; rw [hii]
        have := hG i
        rw [e2] at this
        rw [this, List.getD_eq_getElem?_getD, List.getElem?_map, List.getElem?_take, if_pos hilt]
        show Option.map _ (hget g i) = _
        simp only [hget, List.getD_eq_getElem?_getD]
        cases g[i]? <;> rfl
      · rw [hputs_other il _ h m hmem]
        by_cases hne : toF h m = none
        · rw [if_neg (by simp [hne])]
          show (if h.length ≤ m then _ else _) = _
          rw [if_neg hge, dif_neg]
          · exact hne.symm
          · rintro ⟨i, hi⟩
            exact hmem (List.mem_of_getElem? hi)
        · rw [if_pos ⟨by simp [hmem], hne⟩]; rfl
  rw [heq] at hfin
  refine ⟨v.ren (iota il h.length), v', V1, merge h il g, hK v g k1 k6, k2, ?_, hle, ?_, by rw [hml]; omega, hfin, k8⟩
  · refine (Rep.ren v v').2 ?_
    rw [hV1fun]; exact k3
  · intro l hl
    rw [hml] at hl
    show (if h.length ≤ l then _ else _) = none
    rw [if_pos (by omega)]
    exact k5 _ (by omega)

end
end Go.Sh

namespace Go.Sh
open Go
variable [Con] {A : Type} {P : Program} {I : Itp A}

def PHeap.all (w : World) : PHeap := fun b => w.heap[b]?

def Kept (W W' : World) : Prop := W.keptBut W' (fun _ => False) ∧ (∀ a : Addr, a.block < W.heap.size → W'.frozen? a = W.frozen? a) ∧ W.heap.size ≤ W'.heap.size
theorem grown_of {w w' : World} (h : (PHeap.all w).sub w') (g : Grows w w') : Kept w w' := by
  refine ⟨⟨g.os, g.output, ?_⟩, g.frz, g.size⟩
  intro i hi
  have e : w.heap[i]? = some w.heap[i] := Array.getElem?_eq_getElem hi
  have e' := h i _ e
  rw [e, e']
  generalize w.heap[i] = o
  cases o with
  | cells c t fr => exact ⟨rfl, rfl, rfl, fun _ _ => rfl⟩
  | map es clock => exact .inr ⟨rfl, rfl⟩
  | _ => rfl

theorem inv_nil (w : World) (hc : ∀ b o, Con.con b = some o → w.heap[b]? = some o) : Inv I (fun _ => none) (toF ([] : Heap A)) (PHeap.all w) w :=
  ⟨fun _ => .emp, (fun l e h => by simp [toF, hget] at h), fun _ _ => rfl, fun _ _ _ => PHeap.disj_emp _, fun _ => (PHeap.disj_emp _).symm, fun _ => PHeap.emp_sub _, fun b o h => h, hc⟩

theorem Inv.con {V : Val} {h : FHeap A} {hR : PHeap} {w : World} (hi : Inv I V h hR w) : ∀ b o, Con.con b = some o → w.heap[b]? = some o := by
  obtain ⟨_, _, _, _, _, _, h6⟩ := hi
  exact fun b o e => h6.1 b o (h6.2 b o e)
theorem CallOk.grown {f : FuncId} {args : List AVal} {K : AVal → Heap A → Prop} (h : CallOk I P f args [] K) {args' : Array Value} (hr : RepL (fun _ => none) args args'.toList) (w : World) (hc : ∀ b o, Con.con b = some o → w.heap[b]? = some o) :
    Calls P f args' w fun e w' => ∃ v v' V' h', K v h' ∧ e = .returned v' ∧ Rep V' v v' ∧ Kept w w' := by
  refine (h _ _ w args' (inv_nil w hc) (fun _ _ => rfl) hr).mono ?_
  rintro e w' ⟨v, v', V', h', k1, k2, k3, k4, k5, k6, k7, k8⟩
  obtain ⟨hs, _, _, _, _, _, h6, _⟩ := k7
  exact ⟨v, v', V', h', k1, k2, k3, grown_of h6 k8⟩

theorem CallOk.law {f : FuncId} {args : List AVal} (h : CallOk I P f args ([] : Heap A) fun v _ => v = .bool true) {args' : Array Value} (hr : RepL (fun _ => none) args args'.toList) (w : World) (hc : ∀ b o, Con.con b = some o → w.heap[b]? = some o) :
    Calls P f args' w fun e w' => e = .returned (.bool true) ∧ Kept w w' := by
  refine (h.grown hr w hc).mono ?_
  rintro e w' ⟨v, v', V', h', rfl, rfl, r, g⟩
  have : v' = .bool true := r
  subst this
  exact ⟨rfl, g⟩

mutual
theorem Rep.free {V V' : Val} : ∀ (a : AVal) (x : Value), a.within [] = true → Rep V a x → Rep V' a x
  | .bool _, _, _, r => r
  | .int _ _, _, _, r => r
  | .str _, _, _, r => r
  | .ptr _ _, _, h, _ => by simp [AVal.within] at h
  | .slice _ _ _ _, _, h, _ => by simp [AVal.within] at h
  | .map _, _, h, _ => by simp [AVal.within] at h
  | .func _ f c, _, h, ⟨fs, cs, hv, r, s⟩ => by
    simp only [AVal.within, Bool.and_eq_true] at h
    exact ⟨fs, cs, hv, RepL.free f _ h.1 r, RepL.free c _ h.2 s⟩
  | .iface _ a, _, h, ⟨x, hv, r⟩ => ⟨x, hv, Rep.free a _ h r⟩
  | .agg as, _, h, ⟨cs, hv, r⟩ => ⟨cs, hv, RepL.free as _ h r⟩
  | .tup as, _, h, ⟨cs, hv, r⟩ => ⟨cs, hv, RepL.free as _ h r⟩
  | .raw _, _, _, r => r
  | .any, _, _, r => r
  | .top, _, _, r => r
  | .iview _ _, _, _, r => r
  | .view _ _ _, _, _, r => r
  | .cptr _, _, _, r => r
  | .tslice _ _ _ _, _, h, _ => by simp [AVal.within] at h
  | .tptr _ _ _ _, _, h, _ => by simp [AVal.within] at h
  | .empty, _, _, r => r
theorem RepL.free {V V' : Val} : ∀ (a : List AVal) (x : List Value), AVal.withinL [] a = true → RepL V a x → RepL V' a x
  | [], _, _, r => r
  | a :: as, _, h, ⟨v, vs, e, r, s⟩ => by
    simp only [AVal.withinL, Bool.and_eq_true] at h
    exact ⟨v, vs, e, Rep.free a v h.1 r, RepL.free as vs h.2 s⟩
end

structure Ev (p : Prop) : Prop where
  get : p
theorem callOk_of {E : Env A P} (hm : P.follows .mixedOrders = true) {L : FuncId → Nat → Option (Plan A)} {n : Nat} {f : FuncId} {args : List AVal} {h : Heap A} {K : AVal → Heap A → Prop} (he : Ev (evInl E L n f args h K)) : CallOk E.I P f args h K :=
  evInl_sound hm L n f args h K he.get

theorem of_nf {p q : Prop} (h : p = q) (hq : q) : Ev p := ⟨h ▸ hq⟩

theorem cond_intro {b : Bool} {X Y : Prop} (h1 : b = true → X) (h2 : b = false → Y) : cond b X Y := by
  cases b
  · exact h2 rfl
  · exact h1 rfl

end Go.Sh

namespace Go.Sh
open Go
variable [Con] {A : Type}

inductive Out (A : Type) : Type 1 where
  | ret (v : AVal) (g : Heap A)
  | ite (b : Bool) (x y : Out A)
  | all (X : Type) (ok : X → Prop) (f : X → Out A)
  | pre (p : Prop) (o : Out A)

def Out.run : Out A → (AVal → Heap A → Prop) → Prop
  | .ret v g, K => K v g
  | .ite b x y, K => cond b (x.run K) (y.run K)
  | .all X ok f, K => ∀ x, ok x → (f x).run K
  | .pre p o, K => p ∧ o.run K

abbrev Spec (A : Type) := List AVal → Heap A → Option (Out A)

def reachL (h : Heap A) : Nat → List Nat → List Nat → List Nat
  | 0, _, acc => acc
  | _ + 1, [], acc => acc
  | d + 1, l :: todo, acc => cond (acc.elem l) (reachL h d todo acc) (match hget h l with
    | some e => reachL h d (e.labels ++ todo) (acc ++ [l])
    | none => reachL h d todo (acc ++ [l]))
def foot (args : List AVal) (h : Heap A) : List Nat := reachL h 5000 (AVal.labelsL args) []

def takeH (pl : List Nat) (h : Heap A) : List Nat → Option (Heap A)
  | [] => some []
  | l :: ls => match hget h l, takeH pl h ls with
    | some e, some g => cond (e.within pl) (some (some (e.ren (inv pl)) :: g)) none
    | _, _ => none

def putB (ι : Nat → Nat) : List Nat → Heap A → Heap A → Heap A
  | l :: il, e :: g, h => putB ι il g (h.set l (e.map (Entry.ren ι)))
  | [], [], h => h
  | _, g, h => h ++ g.map (Option.map (Entry.ren ι))

theorem putB_eq (ι : Nat → Nat) : ∀ (il : List Nat) (g h : Heap A), il.length ≤ g.length → putB ι il g h = hputs il ((g.take il.length).map (Option.map (Entry.ren ι))) h ++ (g.drop il.length).map (Option.map (Entry.ren ι))
  | [], [], h, _ => by simp [putB, hputs]
  | [], e :: g, h, _ => by simp [putB, hputs]
  | l :: il, [], h, hl => by simp at hl
  | l :: il, e :: g, h, hl => by
    simp only [putB, List.length_cons, List.take_succ_cons, List.drop_succ_cons, List.map_cons]
    rw [putB_eq ι il g _ (by simpa using hl)]
    rfl

def canonC (F : Spec A) : CSpec A := fun args h K =>
  let il := foot args h
  onlyIf (goodPl il h.length && AVal.withinL il args) <|
  match takeH il h il with
  | none => False
  | some h0 => match F (AVal.renL (inv il) args) h0 with
    | none => False
    | some o => o.run fun v g => onlyIf (Nat.ble il.length g.length) (K (v.ren (iota il h.length)) (putB (iota il h.length) il g h))

theorem takeH_get {pl : List Nat} {h : Heap A} : ∀ {ls : List Nat} {g : Heap A}, takeH pl h ls = some g → g.length = ls.length ∧ ∀ (i l : Nat), ls[i]? = some l → ∃ e, hget h l = some e ∧ e.within pl = true ∧ hget g i = some (e.ren (inv pl))
  | [], g, h => by simp [takeH] at h; subst h; simp
  | l :: ls, g, h => by
    simp only [takeH] at h
    split at h
    · rename_i e g' h1 h2
      cases hw : e.within pl with
      | false => rw [hw] at h; cases h
      | true =>
        rw [hw] at h
        simp only [cond_true, Option.some.injEq] at h
        subst h
        obtain ⟨q1, q2⟩ := takeH_get h2
        refine ⟨by simp [q1], ?_⟩
        intro i l' hi
        cases i with
        | zero => simp at hi; subst hi; exact ⟨e, h1, hw, rfl⟩
        | succ i =>
          simp at hi
          obtain ⟨e', a1, a2, a3⟩ := q2 i l' hi
          exact ⟨e', a1, a2, by simpa [hget] using a3⟩
    · cases h

theorem iota_inv {il : List Nat} {n l : Nat} (h : il.elem l = true) : iota il n (inv il l) = l := by
  have := lab_inv (n := n) h
  unfold lab at this
  unfold iota
  cases hq : il[inv il l]? with
  | some m => rw [hq] at this; exact this
  | none =>
    exfalso
    have hm : l ∈ il := List.elem_iff.1 h
    have : ∀ (pl : List Nat), l ∈ pl → pl[inv pl l]? = some l := by
      intro pl
      induction pl with
      | nil => intro h; cases h
      | cons m pl ih =>
        intro hm
        unfold inv
        by_cases e : m = l
        · rw [if_pos e]; simp [e]
        · rw [if_neg e, List.getElem?_cons_succ]
          rcases List.mem_cons.1 hm with h | h
          · exact (e h.symm).elim
          · exact ih h
    rw [this il hm] at hq; cases hq

mutual
theorem AVal.ren_iota {pl : List Nat} {n : Nat} : ∀ (v : AVal), v.within pl = true → (v.ren (inv pl)).ren (iota pl n) = v
  | .bool _, _ => rfl
  | .int _ _, _ => rfl
  | .str _, _ => rfl
  | .ptr l off, h => by simp only [AVal.ren]; rw [iota_inv h]
  | .slice l off len sz, h => by simp only [AVal.ren]; rw [iota_inv h]
  | .map l, h => by simp only [AVal.ren]; rw [iota_inv h]
  | .func fn f c, h => by
    simp only [AVal.within, Bool.and_eq_true] at h
    simp only [AVal.ren]; rw [AVal.renL_iota f h.1, AVal.renL_iota c h.2]
  | .iface t a, h => by simp only [AVal.ren]; rw [AVal.ren_iota a h]
  | .agg as, h => by simp only [AVal.ren]; rw [AVal.renL_iota as h]
  | .tup as, h => by simp only [AVal.ren]; rw [AVal.renL_iota as h]
  | .raw _, _ => rfl
  | .any, _ => rfl
  | .top, _ => rfl
  | .iview _ _, _ => rfl
  | .view _ _ _, _ => rfl
  | .cptr _, _ => rfl
  | .tslice l r n w, h => by simp only [AVal.ren]; rw [iota_inv h]
  | .tptr l r w j, h => by simp only [AVal.ren]; rw [iota_inv h]
  | .empty, _ => rfl
theorem AVal.renL_iota {pl : List Nat} {n : Nat} : ∀ (v : List AVal), AVal.withinL pl v = true → AVal.renL (iota pl n) (AVal.renL (inv pl) v) = v
  | [], _ => rfl
  | a :: as, h => by
    simp only [AVal.withinL, Bool.and_eq_true] at h
    simp only [AVal.renL]; rw [AVal.ren_iota a h.1, AVal.renL_iota as h.2]
end
theorem allIn_iota {pl : List Nat} {n : Nat} : ∀ (ps : List Nat), allIn pl ps = true → (ps.map (inv pl)).map (iota pl n) = ps
  | [], _ => rfl
  | p :: ps, h => by
    simp only [allIn, Bool.and_eq_true] at h
    simp only [List.map_cons]; rw [iota_inv h.1, allIn_iota ps h.2]
theorem Entry.ren_iota {pl : List Nat} {n : Nat} (e : Entry A) (h : e.within pl = true) : (e.ren (inv pl)).ren (iota pl n) = e := by
  cases e with
  | cells vs => simp only [Entry.ren]; rw [AVal.renL_iota vs h]
  | ints c xs => rfl
  | abs t ps => simp only [Entry.ren]; rw [allIn_iota ps h]
  | tab ks rows => rfl
  | imap kk vc m => rfl
  | iter lm kk vc m left cur => simp only [Entry.ren]; rw [iota_inv h]

section
variable {P : Program} {I : Itp A}

def Spec.ok (I : Itp A) (P : Program) (f : FuncId) (F : Spec A) : Prop :=
  ∀ args h o, F args h = some o → ∀ K, o.run K → CallOk I P f args h K

def castSpec (cs : List (Place × CastK)) (F : Spec A) : Spec A := fun args h => match castAll cs args h with
  | some (a, g) => F a g
  | none => none
theorem castSpec_ok {f : FuncId} {cs : List (Place × CastK)} {F : Spec A} (hF : Spec.ok I P f F) : Spec.ok I P f (castSpec cs F) := by
  intro args h o ho K hK
  unfold castSpec at ho
  split at ho
  · rename_i a g hc
    intro V hR w args' hi hf hr
    obtain ⟨V', ⟨v1, v2, v3, v4⟩, v5⟩ := castAll_ok hc hi hf hr
    refine (hF a g o ho K hK V' hR w args' v4 v2 v5).mono ?_
    rintro e w' ⟨v, v', V'', h', k1, k2, k3, k4, k5, k6, k7, k8⟩
    exact ⟨v, v', V'', h', k1, k2, k3, Val.le_trans v1 k4, k5, Nat.le_trans v3 k6, k7, k8⟩
  · cases ho

theorem canonC_ok {f : FuncId} {F : Spec A} (hF : Spec.ok I P f F) : CSpec.ok I P f (canonC F) := by
  intro args h K hS
  unfold canonC at hS
  obtain ⟨hg, hS⟩ := onlyIf_iff.1 hS
  obtain ⟨hg1, hg2⟩ := Bool.and_eq_true_iff.1 hg
  split at hS
  · exact hS.elim
  · rename_i h0 ht
    split at hS
    · exact hS.elim
    · rename_i o ho
      obtain ⟨hnd, hlt⟩ := goodPl_spec hg1
      obtain ⟨hlen, hent⟩ := takeH_get ht
      refine CallOk.embed (hF _ _ _ ho _ hS) (foot args h) hlen.symm hnd hlt ?_ ?_ ?_
      · intro i l hi
        obtain ⟨e, e1, e2, e3⟩ := hent i l hi
        rw [e1, e3]
        simp only [Option.map_some]
        rw [Entry.ren_iota e e2]
      · exact (AVal.renL_iota args hg2).symm
      · intro v g hK hl
        obtain ⟨hb, hK⟩ := onlyIf_iff.1 hK
        rw [putB_eq _ _ _ _ (Nat.le_of_ble_eq_true hb)] at hK
        exact hK
end
end Go.Sh

namespace Go.Sh
open Go
variable [Con] {A : Type}

mutual
theorem Rep.congrV {V V' : Val} {pl : List Nat} (hV : ∀ l, pl.elem l = true → V l = V' l) : ∀ (a : AVal) (v : Value), a.within pl = true → Rep V a v → Rep V' a v
  | .bool _, _, _, r => r
  | .int _ _, _, _, r => r
  | .str _, _, _, r => r
  | .ptr l off, _, h, ⟨b, k, hl, hv⟩ => ⟨b, k, by rw [← hV l h]; exact hl, hv⟩
  | .slice l off len sz, _, h, ⟨base, cap, hv, hc, r⟩ => ⟨base, cap, hv, hc, r.imp (fun ⟨b, k, hl, e⟩ => ⟨b, k, by rw [← hV l h]; exact hl, e⟩) id⟩
  | .map l, _, h, ⟨b, k, hl, hv⟩ => ⟨b, k, by rw [← hV l h]; exact hl, hv⟩
  | .func _ f c, _, h, ⟨fs, cs, hv, r, s⟩ => by
    simp only [AVal.within, Bool.and_eq_true] at h
    exact ⟨fs, cs, hv, RepL.congrV hV f _ h.1 r, RepL.congrV hV c _ h.2 s⟩
  | .iface _ a, _, h, ⟨x, hv, r⟩ => ⟨x, hv, Rep.congrV hV a _ h r⟩
  | .agg as, _, h, ⟨cs, hv, r⟩ => ⟨cs, hv, RepL.congrV hV as _ h r⟩
  | .tup as, _, h, ⟨cs, hv, r⟩ => ⟨cs, hv, RepL.congrV hV as _ h r⟩
  | .raw _, _, _, r => r
  | .any, _, _, r => r
  | .top, _, _, r => r
  | .iview _ _, _, _, r => r
  | .view _ _ _, _, _, r => r
  | .cptr _, _, _, r => r
  | .tslice l _ _ _, _, h, ⟨base, cap, hv, hc, r⟩ => ⟨base, cap, hv, hc, r.imp (fun ⟨b, k, hl, e⟩ => ⟨b, k, by rw [← hV l h]; exact hl, e⟩) id⟩
  | .tptr l _ _ _, _, h, ⟨b, k, hl, hv⟩ => ⟨b, k, by rw [← hV l h]; exact hl, hv⟩
  | .empty, _, _, r => r
theorem RepL.congrV {V V' : Val} {pl : List Nat} (hV : ∀ l, pl.elem l = true → V l = V' l) : ∀ (a : List AVal) (v : List Value), AVal.withinL pl a = true → RepL V a v → RepL V' a v
  | [], _, _, r => r
  | a :: as, _, h, ⟨v, vs, e, r, s⟩ => by
    simp only [AVal.withinL, Bool.and_eq_true] at h
    exact ⟨v, vs, e, Rep.congrV hV a v h.1 r, RepL.congrV hV as vs h.2 s⟩
end

section
variable {P : Program} {I : Itp A}

theorem allIn_mem {pl : List Nat} : ∀ {ps : List Nat}, allIn pl ps = true → ∀ m ∈ ps, pl.elem m = true
  | [], _, _, hm => by cases hm
  | p :: ps, h, m, hm => by
    simp only [allIn, Bool.and_eq_true] at h
    rcases List.mem_cons.1 hm with rfl | hm
    · exact h.1
    · exact allIn_mem h.2 m hm
theorem Inv.congrV {V V' : Val} {pl : List Nat} (hV : ∀ l, pl.elem l = true → V l = V' l) {h : FHeap A} {hR : PHeap} {w : World} (hin : ∀ l e, h l = some e → pl.elem l = true ∧ e.within pl = true) (hi : Inv I V h hR w) : Inv I V' h hR w := by
  obtain ⟨hs, h1, h2, h3, h4, h5, h6⟩ := hi
  refine ⟨hs, ?_, h2, h3, h4, h5, h6⟩
  intro l e he
  obtain ⟨q1, q2⟩ := hin l e he
  have hi := h1 l e he
  cases e with
  | cells vs =>
    obtain ⟨b, k, hl, cs, T, e1, e2, rs, tail, e3, r⟩ := hi
    exact ⟨b, k, by rw [← hV l q1]; exact hl, cs, T, e1, e2, rs, tail, e3, RepL.congrV hV _ _ q2 r⟩
  | ints c xs =>
    rcases hi with ⟨e1, e2, b, hl⟩ | ⟨b, k, hl, r⟩
    · exact .inl ⟨e1, e2, b, by rw [← hV l q1]; exact hl⟩
    · exact .inr ⟨b, k, by rw [← hV l q1]; exact hl, r⟩
  | abs t ps =>
    obtain ⟨b, k, hl, bs, hb, r⟩ := hi
    exact ⟨b, k, by rw [← hV l q1]; exact hl, bs, Locs.congr (fun m hm => hV m (allIn_mem q2 m hm)) hb, r⟩
  | tab ks rows =>
    rcases hi with ⟨e1, e2, b, hl⟩ | ⟨b, k, hl, r⟩
    · exact .inl ⟨e1, e2, b, by rw [← hV l q1]; exact hl⟩
    · exact .inr ⟨b, k, by rw [← hV l q1]; exact hl, r⟩
  | imap kk vc m =>
    obtain ⟨b, k, hl, r⟩ := hi
    exact ⟨b, k, by rw [← hV l q1]; exact hl, r⟩
  | iter lm kk vc m left cur =>
    obtain ⟨b, k, hl, bm, km, hm, r⟩ := hi
    exact ⟨b, k, by rw [← hV l q1]; exact hl, bm, km, by rw [← hV lm q2]; exact hm, r⟩

theorem Inv.dom {V : Val} {h : FHeap A} {hR : PHeap} {w : World} (hi : Inv I V h hR w) {l : Nat} {e : Entry A} (he : h l = some e) : ∃ x, V l = some x := by
  obtain ⟨hs, h1, _⟩ := hi
  have := h1 l e he
  cases e with
  | cells vs => obtain ⟨b, k, hl, _⟩ := this; exact ⟨_, hl⟩
  | ints c xs =>
    rcases this with ⟨_, _, b, hl⟩ | ⟨b, k, hl, _⟩
    · exact ⟨_, hl⟩
    · exact ⟨_, hl⟩
  | abs t ps => obtain ⟨b, k, hl, _⟩ := this; exact ⟨_, hl⟩
  | tab ks rows =>
    rcases this with ⟨_, _, b, hl⟩ | ⟨b, k, hl, _⟩
    · exact ⟨_, hl⟩
    · exact ⟨_, hl⟩
  | imap kk vc m => obtain ⟨b, k, hl, _⟩ := this; exact ⟨_, hl⟩
  | iter lm kk vc m left cur => obtain ⟨b, k, hl, _⟩ := this; exact ⟨_, hl⟩

def Out.det : Out A → Option (Option Prop × AVal × Heap A)
  | .ret v g => some (none, v, g)
  | .pre p o => match o.det with
    | some (q, v, g) => some (some (p ∧ onp q), v, g)
    | none => none
  | _ => none
theorem Out.det_run {K : AVal → Heap A → Prop} : ∀ {o : Out A} {q : Option Prop} {v : AVal} {g : Heap A}, o.det = some (q, v, g) → onp q → K v g → o.run K
  | .ret v g, q, v', g', h, _, hk => by
    simp only [Out.det, Option.some.injEq, Prod.mk.injEq] at h
    obtain ⟨_, rfl, rfl⟩ := h; exact hk
  | .pre p o, q, v', g', h, hq, hk => by
    simp only [Out.det] at h
    split at h
    · rename_i q' v2 g2 hd
      simp only [Option.some.injEq, Prod.mk.injEq] at h
      obtain ⟨rfl, rfl, rfl⟩ := h
      exact ⟨hq.1, Out.det_run hd hq.2 hk⟩
    · cases h
  | .ite _ _ _, _, _, _, h, _, _ => by simp [Out.det] at h
  | .all _ _ _, _, _, _, h, _, _ => by simp [Out.det] at h

def allSome : Heap A → Option (List (Entry A))
  | [] => some []
  | some e :: h => (allSome h).map (e :: ·)
  | none :: _ => none
theorem allSome_eq : ∀ {h : Heap A} {l : List (Entry A)}, allSome h = some l → h = l.map some
  | [], l, e => by simp [allSome] at e; subst e; rfl
  | some x :: h, l, e => by
    simp only [allSome] at e
    cases hq : allSome h with
    | none => rw [hq] at e; cases e
    | some l' => rw [hq] at e; simp at e; subst e; simp [allSome_eq hq]
  | none :: h, l, e => by simp [allSome] at e

def heapWithin (n : Nat) (g : Heap A) : Bool := g.all fun e => match e with
  | some e => e.within (upto 0 n)
  | none => true

def zipU (ι : Nat → Nat) : List Nat → Heap A → List (Nat × Option (Entry A))
  | l :: il, e :: g => (l, e.map (Entry.ren ι)) :: zipU ι il g
  | _, _ => []
theorem zipU_hupd (ι : Nat → Nat) : ∀ (il : List Nat) (g h : Heap A), hupd h (zipU ι il g) = hputs il ((g.take il.length).map (Option.map (Entry.ren ι))) h
  | [], _, h => rfl
  | l :: il, [], h => rfl
  | l :: il, e :: g, h => by
    simp only [zipU, List.length_cons, List.take_succ_cons, List.map_cons]
    show hupd (h.set l _) (zipU ι il g) = hputs il _ (h.set l _)
    exact zipU_hupd ι il g _

def canonD (F : Spec A) : DSpec A := fun args h =>
  let il := foot args h
  if (goodPl il h.length && AVal.withinL il args) = true then
    match takeH il h il with
    | none => none
    | some h0 => match F (AVal.renL (inv il) args) h0 with
      | none => none
      | some o => match o.det with
        | none => none
        | some (q, v, g) =>
          match allSome (g.drop il.length) with
          | none => none
          | some new =>
            if (Nat.ble il.length g.length && v.within (upto 0 g.length) && heapWithin g.length g) = true then
              some { v := v.ren (iota il h.length), upd := zipU (iota il h.length) il g, new := new.map (Entry.ren (iota il h.length)), foot := il, need := q }
            else none
  else none

theorem upto_mem : ∀ (n i l : Nat), (upto i n).elem l = true ↔ i ≤ l ∧ l < i + n
  | 0, i, l => by simp only [upto, List.elem_eq_mem, List.not_mem_nil, decide_false]; constructor
                  · intro h; cases h
                  · intro h; omega
  | n + 1, i, l => by
    simp only [upto, List.elem_eq_mem, List.mem_cons, decide_eq_true_eq]
    have := upto_mem n (i + 1) l
    simp only [List.elem_eq_mem, decide_eq_true_eq] at this
    rw [this]
    omega

theorem canonD_ok {f : FuncId} {F : Spec A} (hF : Spec.ok I P f F) : DSpec.ok I P f (canonD F) := by
  intro args h r hS hob V hR w args' hi hf hr
  unfold canonD at hS
  simp only at hS
  split at hS
  case isFalse => cases hS
  rename_i hg
  obtain ⟨hg1, hg2⟩ := Bool.and_eq_true_iff.1 hg
  split at hS
  · cases hS
  rename_i h0 ht
  split at hS
  · cases hS
  rename_i o ho
  split at hS
  · cases hS
  rename_i q v0 g0 hdet
  split at hS
  · cases hS
  rename_i new hnew
  split at hS
  case isFalse => cases hS
  rename_i hchk
  obtain ⟨hchk1, hw2⟩ := Bool.and_eq_true_iff.1 hchk
  obtain ⟨hle0, hw1⟩ := Bool.and_eq_true_iff.1 hchk1
  have hkle := Nat.le_of_ble_eq_true hle0
  simp only [Option.some.injEq] at hS
  subst hS
  generalize hil : foot args h = il at *
  have hob' : onp q := hob
  have hgd := allSome_eq hnew
  obtain ⟨hnd, hlt⟩ := goodPl_spec hg1
  obtain ⟨hlen, hent⟩ := takeH_get ht
  have hinj := iota_inj (n := h.length) hnd hlt
  have hnl : new.length = g0.length - il.length := by
    have := congrArg List.length hgd
    simpa using this.symm
  have hf' : FreshOn V h.length (g0.length - il.length) := by
    have : (new.map (Entry.ren (iota il h.length))).length = g0.length - il.length := by rw [List.length_map, hnl]
    have hf2 : FreshOn V h.length (new.map (Entry.ren (iota il h.length))).length := hf
    rw [this] at hf2; exact hf2
  have lt_of : ∀ {i a}, il[i]? = some a → i < il.length := by
    intro i a hi
    cases Nat.lt_or_ge i il.length with
    | inl g => exact g
    | inr g => rw [List.getElem?_eq_none g] at hi; cases hi
  classical
  obtain ⟨hR', hin, hcont⟩ := hi.split (fun l => decide (l ∈ il))
  -- the valuation on those labels alone
  let Vr : Val := fun l => if l ∈ il then V l else none
  have hVr : ∀ l, il.elem l = true → V l = Vr l := by
    intro l hl
    show V l = if l ∈ il then V l else none
    rw [if_pos (List.elem_iff.1 hl)]
  have hin2 : Inv I Vr (fun l => if (fun l => decide (l ∈ il)) l then toF h l else none) hR' w := by
    refine Inv.congrV hVr ?_ hin
    intro l e he
    by_cases hl : l ∈ il
    · rw [if_pos (by simpa using hl)] at he
      obtain ⟨i, hi', hge⟩ := List.getElem_of_mem hl
      obtain ⟨e', a1, a2, _⟩ := hent i l (by rw [List.getElem?_eq_getElem hi', hge])
      have he' : hget h l = some e := he
      rw [a1] at he'
      cases he'
      exact ⟨List.elem_iff.2 hl, a2⟩
    · rw [if_neg (by simpa using hl)] at he; cases he
  have hV0 : Inv I (fun i => Vr (iota il h.length i)) (toF h0) hR' w := by
    refine (Inv.relabel hinj ?_ ?_).1 hin2
    · intro i
      cases hii : il[i]? with
      | some l =>
        have e1 : iota il h.length i = l := iota_some hii
        obtain ⟨e, a1, a2, a3⟩ := hent i l hii
        rw [e1, if_pos (by simpa using List.mem_of_getElem? hii)]
        show hget h l = (hget h0 i).map _
        rw [a1, a3]
        simp only [Option.map_some]
        rw [Entry.ren_iota e a2]
      | none =>
        have e1 := iota_none (n := h.length) hii
        have hge := List.getElem?_eq_none_iff.1 hii
        rw [e1, if_neg (by simp; intro hm; have := hlt _ hm; omega)]
        have : toF h0 i = none := hget_ge (by omega)
        rw [this]; rfl
    · intro m hm
      rw [if_neg]
      simp only [decide_eq_true_eq]
      intro hmem
      obtain ⟨i, hilt, he⟩ := List.getElem_of_mem hmem
      refine hm i ?_
      rw [iota_some (by rw [List.getElem?_eq_getElem hilt, he])]
  have hf0 : Fresh (fun i => Vr (iota il h.length i)) h0.length := by
    intro i hi
    show Vr (iota il h.length i) = none
    have : il[i]? = none := List.getElem?_eq_none (by omega)
    rw [iota_none this]
    show (if _ ∈ il then _ else none) = none
    rw [if_neg]
    intro hm; have := hlt _ hm; omega
  have hr0 : RepL (fun i => Vr (iota il h.length i)) (AVal.renL (inv il) args) args'.toList := by
    refine (RepL.ren _ _).1 ?_
    rw [AVal.renL_iota args hg2]
    exact RepL.congrV hVr _ _ hg2 hr
  refine (hF _ _ _ ho (fun v g => v = v0 ∧ g = g0) (Out.det_run hdet hob' ⟨rfl, rfl⟩) _ hR' w args' hV0 hf0 hr0).mono ?_
  rintro e w' ⟨v, v', V', g, ⟨rfl, rfl⟩, k2, k3, k4, k5, k6, k7, k8⟩
  -- the great heap's labels
  let V1 : Val := fun m => if h.length ≤ m ∧ m < h.length + (g.length - il.length) then V' (il.length + (m - h.length)) else V m
  have hle : V.le V1 := by
    intro m x hm
    show (if _ then _ else _) = some x
    by_cases hc : h.length ≤ m ∧ m < h.length + (g.length - il.length)
    · rw [hf' m hc.1 hc.2] at hm; cases hm
    · rw [if_neg hc]; exact hm
  have hV1 : ∀ i, i < g.length → V1 (iota il h.length i) = V' i := by
    intro i hig
    cases hii : il[i]? with
    | some l =>
      have e1 : iota il h.length i = l := iota_some hii
      have hl := hlt l (List.mem_of_getElem? hii)
      obtain ⟨e, a1, _, _⟩ := hent i l hii
      obtain ⟨x, hx⟩ := hi.dom (l := l) a1
      have hxr : Vr (iota il h.length i) = some x := by
        rw [e1]
        show (if l ∈ il then V l else none) = some x
        rw [if_pos (List.mem_of_getElem? hii)]; exact hx
      rw [k4 i x hxr, e1]
      show (if _ then _ else _) = some x
      rw [if_neg (by omega)]; exact hx
    | none =>
      have hge := List.getElem?_eq_none_iff.1 hii
      rw [iota_none hii]
      show (if _ then _ else _) = _
      rw [if_pos (by omega)]
      congr 1; omega
  have hag : ∀ l, (upto 0 g.length).elem l = true → V' l = (fun i => V1 (iota il h.length i)) l := by
    intro l hl
    have := (upto_mem _ _ _).1 hl
    exact (hV1 l (by omega)).symm
  have hg7 : Inv I (fun i => V1 (iota il h.length i)) (toF g) hR' w' := by
    refine Inv.congrV hag ?_ k7
    intro l e he
    have hll : l < g.length := hget_lt (h := g) he
    refine ⟨(upto_mem _ _ _).2 (by omega), ?_⟩
    unfold heapWithin at hw2
    rw [List.all_eq_true] at hw2
    have he' : hget g l = some e := he
    unfold hget at he'
    rw [List.getD_eq_getElem?_getD, List.getElem?_eq_getElem hll] at he'
    have := hw2 g[l] (List.getElem_mem hll)
    have he2 : g[l] = some e := he'
    rw [he2] at this; exact this
  let G : FHeap A := fun m => if h.length ≤ m then (hget g (il.length + (m - h.length))).map (Entry.ren (iota il h.length)) else if hm : ∃ i : Nat, il[i]? = some m then (hget g (Classical.choose hm)).map (Entry.ren (iota il h.length)) else none
  have hG : ∀ i, G (iota il h.length i) = (toF g i).map (Entry.ren (iota il h.length)) := by
    intro i
    cases hii : il[i]? with
    | some l =>
      have e1 : iota il h.length i = l := iota_some hii
      have hl := hlt l (List.mem_of_getElem? hii)
      have hm : ∃ i : Nat, il[i]? = some l := ⟨i, hii⟩
      show (if h.length ≤ iota il h.length i then _ else _) = _
      rw [e1, if_neg (by omega), dif_pos hm]
      have hc := Classical.choose_spec hm
      have := (List.getElem?_inj (lt_of hc) hnd).1 (hc.trans hii.symm)
      rw [this]; rfl
    | none =>
      have e1 := iota_none (n := h.length) hii
      have hge := List.getElem?_eq_none_iff.1 hii
      show (if h.length ≤ iota il h.length i then _ else _) = _
      rw [e1, if_pos (by omega), show il.length + (h.length + (i - il.length) - h.length) = i from by omega]
      rfl
  have hGz : ∀ m, (∀ l, iota il h.length l ≠ m) → G m = none := by
    intro m hm
    show (if h.length ≤ m then _ else _) = none
    by_cases hge : h.length ≤ m
    · refine (hm (il.length + (m - h.length)) ?_).elim
      rw [iota_none (List.getElem?_eq_none (by omega))]
      omega
    · rw [if_neg hge, dif_neg]
      rintro ⟨i, hi⟩
      exact hm i (iota_some hi)
  have hGinv : Inv I V1 G hR' w' := (Inv.relabel hinj hG hGz).2 hg7
  have hfin := hcont V1 G w' hle hGinv (by
    intro l hl hne
    have hl' : l ∉ il := by simpa using hl
    have hlt' : l < h.length := by
      cases Nat.lt_or_ge l h.length with
      | inl g => exact g
      | inr g => exact (hne (hget_ge g)).elim
    show (if h.length ≤ l then _ else _) = none
    rw [if_neg (by omega), dif_neg]
    rintro ⟨i, hi⟩
    exact hl' (List.mem_of_getElem? hi))
  have htk : ((g.take il.length).map (Option.map (Entry.ren (iota il h.length)))).length = il.length := by
    rw [List.length_map, List.length_take]; omega
  -- the heap that is told
  generalize hap : ORes.apply (A := A) { v := v.ren (iota il h.length), upd := zipU (iota il h.length) il g, new := new.map (Entry.ren (iota il h.length)), foot := il, need := q } h = apl
  have happ : apl = hputs il ((g.take il.length).map (Option.map (Entry.ren (iota il h.length)))) h ++ (g.drop il.length).map (Option.map (Entry.ren (iota il h.length))) := by
    rw [← hap]
    show hupd h (zipU (iota il h.length) il g) ++ (new.map (Entry.ren (iota il h.length))).map some = _
    rw [zipU_hupd, hgd]
    simp
  have heq : (fun l => if (fun l => decide (l ∈ il)) l = false ∧ toF h l ≠ none then toF h l else G l) = toF apl := by
    rw [happ]
    funext m
    show _ = hget (hputs il ((g.take il.length).map (Option.map (Entry.ren (iota il h.length)))) h ++ (g.drop il.length).map (Option.map (Entry.ren (iota il h.length)))) m
    by_cases hge : h.length ≤ m
    · have e0 : toF h m = none := hget_ge hge
      rw [if_neg (by rw [e0]; simp)]
      show (if h.length ≤ m then _ else _) = _
      rw [if_pos hge]
      simp only [hget, List.getD_eq_getElem?_getD]
      rw [List.getElem?_append_right (by rw [hputs_length]; exact hge), hputs_length, List.getElem?_map, List.getElem?_drop]
      cases hq : g[il.length + (m - h.length)]? with
      | none => rfl
      | some x => rfl
    · have hlt' : m < h.length := by omega
      rw [hget_append_left (by rw [hputs_length]; exact hlt')]
      by_cases hmem : m ∈ il
      · obtain ⟨i, hilt, he⟩ := List.getElem_of_mem hmem
        have hii : il[i]? = some m := by rw [List.getElem?_eq_getElem hilt, he]
        rw [if_neg (by simp [hmem]), hputs_get il _ h i m hnd hlt hii (by rw [htk]; exact hilt)]
        have := hG i
        rw [iota_some hii] at this
        rw [this, List.getD_eq_getElem?_getD, List.getElem?_map, List.getElem?_take, if_pos hilt]
        show Option.map _ (hget g i) = _
        simp only [hget, List.getD_eq_getElem?_getD]
        cases g[i]? <;> rfl
      · rw [hputs_other il _ h m hmem]
        by_cases hne : toF h m = none
        · rw [if_neg (by simp [hne])]
          show (if h.length ≤ m then _ else _) = _
          rw [if_neg hge, dif_neg]
          · exact hne.symm
          · rintro ⟨i, hi⟩
            exact hmem (List.mem_of_getElem? hi)
        · rw [if_pos ⟨by simp [hmem], hne⟩]; rfl
  rw [heq] at hfin
  refine ⟨v', V1, k2, ?_, hle, ?_, hfin, k8⟩
  · refine (Rep.ren v v').2 ?_
    exact Rep.congrV hag _ _ hw1 k3
  · intro l e1 e2
    show h.length ≤ l ∧ l < h.length + (new.map (Entry.ren (iota il h.length))).length
    rw [List.length_map, hnl]
    by_cases hc : h.length ≤ l ∧ l < h.length + (g.length - il.length)
    · exact hc
    · exfalso
      apply e2
      show (if _ then _ else _) = none
      rw [if_neg hc]; exact e1

def Env.addS (E : Env A P) (f : FuncId) (F : Spec A) (h : Spec.ok E.I P f F) : Env A P where
  I := E.I
  cps := fun g => if g = f then some (canonC F) else E.cps g
  det := fun g => if g = f then some (canonD F) else E.det g
  meth := E.meth
  cpsOk := by
    intro g T hg
    by_cases e : g = f
    · rw [if_pos e] at hg; cases hg; rw [e]; exact canonC_ok h
    · rw [if_neg e] at hg; exact E.cpsOk g T hg
  detOk := by
    intro g T hg
    by_cases e : g = f
    · rw [if_pos e] at hg; cases hg; rw [e]; exact canonD_ok h
    · rw [if_neg e] at hg; exact E.detOk g T hg
  methOk := E.methOk
  row := E.row
  rowOk := E.rowOk
  fld := E.fld
  fldOk := E.fldOk
end
end Go.Sh
namespace Go.Sh
open Go
def methOf (P : Program) (t : TypeId) (name : String) : Option FuncId :=
  match P.info? t, P.underlying t with
  | some i, some (.pointer _) => match i.methods.toList.find? (·.name == name) with
    | some m => match m.path.toList, m.func with
      | [], some (f, true) => some f
      | _, _ => none
    | none => none
  | _, _ => none
theorem methOf_run {P : Program} {t : TypeId} {name : String} {f : FuncId} (h : methOf P t name = some f) (v : Value) (w : World) : (method (P.types.size + Made.depth) t v name).run P w = .ok (f, v) w := by
  unfold methOf at h
  split at h
  · rename_i i e hi hu
    split at h
    · rename_i m hm
      split at h
      · rename_i f' hp hf
        simp only [Option.some.injEq] at h
        subst h
        rw [Array.find?_toList] at hm
        have hd : P.types.size + Made.depth = (P.types.size + (Made.depth - 1)) + 1 := by
          have : Made.depth ≠ 0 := by decide
          omega
        rw [hd]
        unfold method
        have hti : (typeInfo t).run P w = .ok i w := by simp [typeInfo, hi]
        simp only [Sem.run_bind, hti, Result.andThen_ok, hm, hp, follow, Sem.run_pure, hf, receiverAt, underlying, run_program, hu, Go.Place.get]
      · cases h
    · cases h
  · cases h
end Go.Sh

namespace Go.Sh
open Go
variable [Con] {A : Type}

abbrev RSpec (A : Type) := List AVal → Heap A → Option (Prop × AVal)
def RSpec.spec (F : RSpec A) : Spec A := fun args h => match F args h with
  | some (p, v) => some (.pre p (.ret v h))
  | none => none

def canonR (F : RSpec A) : DSpec A := fun args h =>
  let il := foot args h
  if (goodPl il h.length && AVal.withinL il args) = true then
    match takeH il h il with
    | none => none
    | some h0 => match F (AVal.renL (inv il) args) h0 with
      | none => none
      | some (p, v) =>
        if (v.within (upto 0 il.length)) = true then
          some { v := v.ren (iota il h.length), upd := [], new := [], foot := il, need := some p }
        else none
  else none

theorem takeH_within (pl : List Nat) (h : Heap A) : ∀ (ls : List Nat) (g : Heap A), takeH pl h ls = some g → ∀ (i : Nat) (e : Entry A), hget g i = some e → ∃ e' l, e = Entry.ren (inv pl) e' ∧ e'.within pl = true ∧ ls[i]? = some l ∧ hget h l = some e'
  | ls, g, ht, i, e, he => by
    obtain ⟨q1, q2⟩ := takeH_get ht
    have hlt := hget_lt he
    have : ls[i]? = some (ls[i]'(by omega)) := List.getElem?_eq_getElem (by omega)
    obtain ⟨e', a1, a2, a3⟩ := q2 i _ this
    rw [he] at a3
    exact ⟨e', _, by simpa using a3, a2, this, a1⟩

theorem putB_self {h : Heap A} {il pl : List Nat} (n : Nat) : ∀ {ls : List Nat} {g : Heap A}, takeH il h ls = some g → hupd h (zipU (iota il n) ls g) = h
  | [], g, ht => by cases g <;> rfl
  | l :: ls, g, ht => by
    simp only [takeH] at ht
    split at ht
    · rename_i e g' h1 h2
      cases hw : e.within il with
      | false => rw [hw] at ht; cases ht
      | true =>
        rw [hw] at ht
        simp only [cond_true, Option.some.injEq] at ht
        subst ht
        show hupd (h.set l ((some (e.ren (inv il))).map (Entry.ren (iota il n)))) (zipU (iota il n) ls g') = h
        have : h.set l ((some (e.ren (inv il))).map (Entry.ren (iota il n))) = h := by
          simp only [Option.map_some]
          rw [Entry.ren_iota e hw, ← h1]
          apply List.ext_getElem?
          intro i
          by_cases hi : l = i
          · subst hi
            have hl := hget_lt (h := h) h1
            rw [List.getElem?_set_self hl, List.getElem?_eq_getElem hl]
            simp [hget, List.getD_eq_getElem?_getD, List.getElem?_eq_getElem hl]
          · rw [List.getElem?_set_ne hi]
        rw [this]
        exact putB_self (pl := pl) n h2
    · cases ht

theorem allSome_nil : allSome ([] : Heap A) = some [] := rfl

section
variable {P : Program} {I : Itp A}

theorem inv_lt {pl : List Nat} {l : Nat} (h : pl.elem l = true) : (upto 0 pl.length).elem (inv pl l) = true := by
  rw [upto_mem]
  refine ⟨Nat.zero_le _, ?_⟩
  rw [Nat.zero_add]
  have hm : l ∈ pl := List.elem_iff.1 h
  clear h
  induction pl with
  | nil => cases hm
  | cons m pl ih =>
    unfold inv
    by_cases e : m = l
    · rw [if_pos e]; simp
    · rw [if_neg e]
      rcases List.mem_cons.1 hm with h | h
      · exact (e h.symm).elim
      · have := ih h; simp; omega
mutual
theorem AVal.within_inv {pl : List Nat} : ∀ (v : AVal), v.within pl = true → (v.ren (inv pl)).within (upto 0 pl.length) = true
  | .bool _, _ => rfl
  | .int _ _, _ => rfl
  | .str _, _ => rfl
  | .ptr l off, h => inv_lt (pl := pl) h
  | .slice l off len sz, h => inv_lt (pl := pl) h
  | .map l, h => inv_lt (pl := pl) h
  | .func fn f c, h => by
    simp only [AVal.within, Bool.and_eq_true] at h
    simp only [AVal.ren, AVal.within, Bool.and_eq_true]; exact ⟨AVal.withinL_inv f h.1, AVal.withinL_inv c h.2⟩
  | .iface t a, h => AVal.within_inv a h
  | .agg as, h => AVal.withinL_inv as h
  | .tup as, h => AVal.withinL_inv as h
  | .raw _, _ => rfl
  | .any, _ => rfl
  | .top, _ => rfl
  | .iview _ _, _ => rfl
  | .view _ _ _, _ => rfl
  | .cptr _, _ => rfl
  | .tslice l r n w, h => inv_lt (pl := pl) h
  | .tptr l r w j, h => inv_lt (pl := pl) h
  | .empty, _ => rfl
theorem AVal.withinL_inv {pl : List Nat} : ∀ (v : List AVal), AVal.withinL pl v = true → AVal.withinL (upto 0 pl.length) (AVal.renL (inv pl) v) = true
  | [], _ => rfl
  | a :: as, h => by
    simp only [AVal.withinL, Bool.and_eq_true] at h
    simp only [AVal.renL, AVal.withinL, Bool.and_eq_true]; exact ⟨AVal.within_inv a h.1, AVal.withinL_inv as h.2⟩
end
theorem allIn_inv {pl : List Nat} : ∀ (ps : List Nat), allIn pl ps = true → allIn (upto 0 pl.length) (ps.map (inv pl)) = true
  | [], _ => rfl
  | p :: ps, h => by
    simp only [allIn, Bool.and_eq_true] at h
    simp only [List.map_cons, allIn, Bool.and_eq_true]; exact ⟨inv_lt h.1, allIn_inv ps h.2⟩
theorem Entry.within_inv {pl : List Nat} (e : Entry A) (h : e.within pl = true) : (e.ren (inv pl)).within (upto 0 pl.length) = true := by
  cases e with
  | cells vs => exact AVal.withinL_inv vs h
  | ints c xs => rfl
  | abs t ps => exact allIn_inv ps h
  | tab ks rows => rfl
  | imap kk vc m => rfl
  | iter lm kk vc m left cur => exact inv_lt h
theorem takeH_heapWithin {il : List Nat} {h g : Heap A} (ht : takeH il h il = some g) (hnd : il.Nodup) : heapWithin g.length g = true := by
  unfold heapWithin
  rw [List.all_eq_true]
  intro e he
  cases e with
  | none => rfl
  | some e =>
    obtain ⟨i, hi, hge⟩ := List.getElem_of_mem he
    have hx : hget g i = some e := by simp [hget, List.getD_eq_getElem?_getD, List.getElem?_eq_getElem hi, hge]
    obtain ⟨e', l, a1, a2, _, _⟩ := takeH_within il h il g ht i e hx
    rw [a1, (takeH_get ht).1]
    exact Entry.within_inv e' a2

theorem canonR_ok {f : FuncId} {F : RSpec A} (hF : Spec.ok I P f F.spec) : DSpec.ok I P f (canonR F) := by
  intro args h r hS hob V hR w args' hi hf hr
  have hD : ∃ r', canonD F.spec args h = some r' ∧ r'.v = r.v ∧ r'.new = [] ∧ r.new = [] ∧ r.upd = [] ∧ hupd h r'.upd = h ∧ (r.obl → r'.obl) := by
    unfold canonR at hS
    simp only at hS
    split at hS
    case isFalse => cases hS
    rename_i hg
    split at hS
    · cases hS
    rename_i h0 ht
    split at hS
    · cases hS
    rename_i p v ho
    split at hS
    case isFalse => cases hS
    rename_i hv
    simp only [Option.some.injEq] at hS
    subst hS
    obtain ⟨hg1, hg2⟩ := Bool.and_eq_true_iff.1 hg
    obtain ⟨hnd, hlt⟩ := goodPl_spec hg1
    obtain ⟨hlen, hent⟩ := takeH_get ht
    have hw := takeH_heapWithin ht hnd
    refine ⟨{ v := v.ren (iota (foot args h) h.length), upd := zipU (iota (foot args h) h.length) (foot args h) h0, new := [], foot := foot args h, need := some (p ∧ True) }, ?_, rfl, rfl, rfl, rfl, putB_self (pl := []) _ ht, fun hp => ⟨hp, trivial⟩⟩
    unfold canonD
    simp only [hg, if_true, ht, RSpec.spec, ho, Out.det]
    rw [List.drop_eq_nil_of_le (by omega), allSome_nil]
    simp only
    rw [hw, hlen, hv]
    simp [onp]
  obtain ⟨r', e1, e2, e3, e4, e5, e6, e7⟩ := hD
  have := canonD_ok hF args h r' e1 (e7 hob) V hR w args' hi (by rw [e3]; rw [e4] at hf; exact hf) hr
  refine this.mono ?_
  rintro e w' ⟨v', V', k1, k2, k3, k4, k5, k6⟩
  refine ⟨v', V', k1, by rw [← e2]; exact k2, k3, by rw [e4]; rw [e3] at k4; exact k4, ?_, k6⟩
  have ha : r'.apply h = r.apply h := by
    unfold ORes.apply
    rw [e6, e3, e4, e5]; rfl
  rw [← ha]; exact k5

def Env.addR (E : Env A P) (f : FuncId) (F : RSpec A) (h : Spec.ok E.I P f F.spec) : Env A P where
  I := E.I
  cps := fun g => if g = f then some (canonC F.spec) else E.cps g
  det := fun g => if g = f then some (canonR F) else E.det g
  meth := E.meth
  cpsOk := by
    intro g T hg
    by_cases e : g = f
    · rw [if_pos e] at hg; cases hg; rw [e]; exact canonC_ok h
    · rw [if_neg e] at hg; exact E.cpsOk g T hg
  detOk := by
    intro g T hg
    by_cases e : g = f
    · rw [if_pos e] at hg; cases hg; rw [e]; exact canonR_ok h
    · rw [if_neg e] at hg; exact E.detOk g T hg
  methOk := E.methOk
  row := E.row
  rowOk := E.rowOk
  fld := E.fld
  fldOk := E.fldOk
end
end Go.Sh

namespace Go.Sh
open Go

inductive Shp where
  | code (c : Code1)
  | str
  | ints (c : Code1)
  | rows (r : List Shp)

mutual
def Den : Shp → Type
  | .code _ => Int
  | .str => ByteArray
  | .ints _ => List Int
  | .rows r => List (DenL r)
def DenL : List Shp → Type
  | [] => Unit
  | s :: r => Den s × DenL r
end
mutual
def dfl : (s : Shp) → Den s
  | .code _ => (0 : Int)
  | .str => ByteArray.empty
  | .ints _ => ([] : List Int)
  | .rows r => ([] : List (DenL r))
def dflL : (r : List Shp) → DenL r
  | [] => ()
  | s :: r => (dfl s, dflL r)
end
mutual
def toA : (s : Shp) → Den s → AVal
  | .code c, n => Code1.aval c n
  | .str, s => .str s
  | .ints c, xs => .iview c xs
  | .rows r, xs => .view (List.length (α := DenL r) xs) r.length (fun i => toAL r (List.getD (α := DenL r) xs i (dflL r)))
def toAL : (r : List Shp) → DenL r → List AVal
  | [], _ => []
  | s :: r, x => toA s x.1 :: toAL r x.2
end
def codeWf : Code1 → Int → Prop
  | some k, n => (Lit.int k n).wf = true
  | none, n => n = 0 ∨ n = 1
mutual
def okS : (s : Shp) → Den s → Prop
  | .code c, n => codeWf c n
  | .str, s => ByteArray.size s ≤ maxLen
  | .ints c, xs => List.length (α := Int) xs ≤ maxLen ∧ ∀ x : Int, List.Mem x xs → codeWf c x
  | .rows r, xs => List.length (α := DenL r) xs ≤ maxLen ∧ ∀ x : DenL r, List.Mem x xs → okL r x
def okL : (r : List Shp) → DenL r → Prop
  | [], _ => True
  | s :: r, x => okS s x.1 ∧ okL r x.2
end

def shpFields (P : Program) (rec : TypeId → Option (List Shp)) : Nat → List Field → Option (List Shp)
  | _, [] => some []
  | off, f :: fs => match rec f.type with
    | some r => if f.offset = off ∧ P.cellsOf f.type = r.length then (shpFields P rec (off + r.length) fs).map (r ++ ·) else none
    | none => none
def shp (P : Program) : Nat → TypeId → Option (List Shp)
  | 0, _ => none
  | d + 1, t => match P.underlying t with
    | some .bool => some [.code none]
    | some (.int k) => some [.code (some k)]
    | some .string => some [.str]
    | some (.slice e) => match shp P d e with
      | some [.code c] => if P.cellsOf e = 1 then some [.ints c] else none
      | some r => if P.cellsOf e = r.length ∧ 0 < r.length then some [.rows r] else none
      | none => none
    | some (.struct fs) => match shpFields P (shp P d) 0 fs.toList with
      | some r => if P.cellsOf t = r.length then some r else none
      | none => none
    | some (.array n e) => match shp P d e with
      | some r => if P.cellsOf e = r.length ∧ P.cellsOf t = n * r.length then some ((List.replicate n r).flatten) else none
      | none => none
    | _ => none

theorem toAL_length : ∀ (r : List Shp) (x : DenL r), (toAL r x).length = r.length
  | [], _ => rfl
  | s :: r, x => by show (toA s x.1 :: toAL r x.2).length = _; simp [toAL_length r x.2]

def appL : (r q : List Shp) → DenL r → DenL q → DenL (r ++ q)
  | [], _, _, y => y
  | _ :: r, q, x, y => (x.1, appL r q x.2 y)
theorem toAL_app : ∀ (r q : List Shp) (x : DenL r) (y : DenL q), toAL (r ++ q) (appL r q x y) = toAL r x ++ toAL q y
  | [], _, _, _ => rfl
  | s :: r, q, x, y => by
    show toA s x.1 :: toAL (r ++ q) (appL r q x.2 y) = toA s x.1 :: (toAL r x.2 ++ toAL q y)
    rw [toAL_app r q]
theorem okL_app : ∀ (r q : List Shp) (x : DenL r) (y : DenL q), okL r x → okL q y → okL (r ++ q) (appL r q x y)
  | [], _, _, _, _, h => h
  | s :: r, q, x, y, hx, hy => ⟨hx.1, okL_app r q x.2 y hx.2 hy⟩

theorem exists_list {α : Type} {p : Nat → α → Prop} : ∀ (n : Nat), (∀ i, i < n → ∃ x, p i x) → ∃ l : List α, l.length = n ∧ ∀ i (h : i < l.length), p i l[i]
  | 0, _ => ⟨[], rfl, fun i h => by simp at h⟩
  | n + 1, h => by
    obtain ⟨l, h1, h2⟩ := exists_list n (fun i hi => h i (by omega))
    obtain ⟨x, hx⟩ := h n (by omega)
    refine ⟨l ++ [x], by simp [h1], ?_⟩
    intro i hi
    by_cases hc : i < l.length
    · rw [List.getElem_append_left hc]; exact h2 i hc
    · have : i = n := by simp at hi; omega
      subst this
      rw [List.getElem_append_right (by omega)]
      simpa [h1] using hx

section
variable {H : Type} {enc : TypeId × Value → H} {P : Program} {w : World}

theorem add_zero (a : Addr) : a.add 0 = a := by simp [Addr.add]
theorem add_block (a : Addr) (n : Nat) : (a.add n).block = a.block := by unfold Addr.add; split <;> rfl
theorem add_off (a : Addr) (n : Nat) : (a.add n).off = a.off + n := by
  unfold Addr.add
  split <;> simp_all
theorem row_of_cells {a : Addr} {n : Nat} {cs : List Value} (h : w.cells? 0 a n = some cs) (hn : 0 < n) :
    ∃ c T fz, a.spot = none ∧ w.heap[a.block]? = some (.cells c T fz) ∧ (c.toList.drop a.off).take n = cs := by
  obtain ⟨_, hl, hc⟩ := World.cells?_some h
  have h0 := hc 0 hn
  obtain ⟨v0, hv0⟩ : ∃ v, cs[0]? = some v := ⟨cs[0], List.getElem?_eq_getElem (by omega)⟩
  rw [hv0] at h0
  have ha0 : a.add 0 = a := by simp [Addr.add]
  rw [ha0] at h0
  have hs := World.cell?_spot h0
  obtain ⟨b, off, sp⟩ := a
  simp only at hs
  subst hs
  unfold World.cell? at h0
  split at h0
  · rename_i c T fz hb
    refine ⟨c, T, fz, rfl, hb, ?_⟩
    apply List.ext_getElem?
    intro j
    rw [List.getElem?_take]
    by_cases hj : j < n
    · rw [if_pos hj, List.getElem?_drop, ← hc j hj, Addr.add_lit, Array.getElem?_toList]
      exact (cell_of_row w b (off + j) c T fz hb).symm
    · rw [if_neg hj, List.getElem?_eq_none (by omega)]
  · cases h0

theorem code_rep {V : Val} [Con] {r : List Shp} {x : DenL r} {c : Code1} {cs : List Value} (hr : r = [.code c]) (h : RepL V (toAL r x) cs) (ho : okL r x) : ∃ n, cs = [Code1.val c n] ∧ codeWf c n := by
  subst hr
  obtain ⟨v, vs, rfl, h1, h2⟩ := h
  have h2' : vs = [] := h2
  subst h2'
  refine ⟨x.1, ?_, ho.1⟩
  have h1' : Rep V (Code1.aval c x.1) v := h1
  cases c with
  | some k => have : v = .int k x.1 := h1'; rw [this]; rfl
  | none => have : v = Code1.val none x.1 := h1'; rw [this]

theorem shpFields_rep [Con] {rec : TypeId → Option (List Shp)} {cs : List Value} {rd : TypeId → List Value → Prop}
    (hrec : ∀ t r l, rec t = some r → rd t l → ∃ x : DenL r, okL r x ∧ RepL (fun _ => none) (toAL r x) l) :
    ∀ (fs : List Field) (off : Nat) (r : List Shp), shpFields P rec off fs = some r → off + r.length ≤ cs.length → (∀ f ∈ fs, rd f.type ((cs.drop f.offset).take (P.cellsOf f.type))) →
      ∃ x : DenL r, okL r x ∧ RepL (fun _ => none) (toAL r x) ((cs.drop off).take r.length)
  | [], off, r, h, _, _ => by
    simp [shpFields] at h; subst h
    exact ⟨(), trivial, by simp [toAL, RepL]⟩
  | f :: fs, off, r, h, hl, hrd => by
    simp only [shpFields] at h
    cases hf : rec f.type with
    | none => rw [hf] at h; cases h
    | some q =>
      rw [hf] at h
      simp only at h
      split at h
      · rename_i hc
        obtain ⟨ho, hq⟩ := hc
        cases hfs : shpFields P rec (off + q.length) fs with
        | none => rw [hfs] at h; cases h
        | some r' =>
          rw [hfs] at h
          simp at h; subst h
          rw [List.length_append] at hl
          obtain ⟨x, ox, rx⟩ := hrec f.type q _ hf (hrd f (by simp))
          obtain ⟨y, oy, ry⟩ := shpFields_rep hrec fs _ r' hfs (by omega) (fun g hg => hrd g (by simp [hg]))
          refine ⟨appL q r' x y, okL_app q r' x y ox oy, ?_⟩
          rw [toAL_app, List.length_append, List.take_add, List.drop_drop]
          rw [ho, hq] at rx
          exact RepL.append rx ry
      · cases h

theorem flatten_rep2 [Con] {P' : List Value → Prop} {r : List Shp} (hr : ∀ l, P' l → ∃ x : DenL r, okL r x ∧ RepL (fun _ => none) (toAL r x) l) :
    ∀ (n : Nat) (cs : List Value), cs.length = n * r.length → (∀ i, i < n → P' ((cs.drop (i * r.length)).take r.length)) →
      ∃ x : DenL ((List.replicate n r).flatten), okL _ x ∧ RepL (fun _ => none) (toAL _ x) cs
  | 0, cs, hl, _ => by
    have : cs = [] := List.length_eq_zero_iff.1 (by omega)
    subst this
    exact ⟨(), trivial, by simp [toAL, RepL]⟩
  | n + 1, cs, hl, h => by
    obtain ⟨x, ox, rx⟩ := hr _ (h 0 (by omega))
    rw [Nat.zero_mul, List.drop_zero] at rx
    obtain ⟨y, oy, ry⟩ := flatten_rep2 hr n (cs.drop r.length) (by rw [List.length_drop, hl, Nat.succ_mul]; omega) (by
      intro i hi
      have := h (i + 1) (by omega)
      rw [List.drop_drop]
      rw [show r.length + i * r.length = (i + 1) * r.length from by rw [Nat.succ_mul]; omega]
      exact this)
    refine ⟨appL r _ x y, okL_app r _ x y ox oy, ?_⟩
    show RepL _ (toAL (r ++ (List.replicate n r).flatten) _) cs
    rw [toAL_app]
    have := RepL.append rx ry
    rwa [List.take_append_drop] at this

theorem trod_rep [Con] (hcon : ∀ b o, w.heap[b]? = some o → Con.con b = some o) : ∀ (m n : Nat) (t : TypeId) (cs : List Value) (x : DataW H × List MemPlace) (held : Bool) (r : List Shp),
    DataW.trod enc P w 0 (fun _ => true) held n t cs = some x → shp P m t = some r → ∃ x : DenL r, okL r x ∧ RepL (fun _ => none) (toAL r x) cs := by
  intro m
  induction m with
  | zero => intro n t cs x held r _ h; simp [shp] at h
  | succ m ih =>
    intro n t cs x held r h hs
    unfold shp at hs
    split at hs
    · rename_i ht
      obtain ⟨b, rfl, _⟩ := DataW.trod_bool ht h
      simp at hs; subst hs
      refine ⟨((cond b 1 0 : Int), ()), ⟨?_, trivial⟩, ?_⟩
      · show (cond b 1 0 : Int) = 0 ∨ (cond b 1 0 : Int) = 1
        cases b <;> simp
      · refine ⟨.bool b, [], rfl, ?_, rfl⟩
        show Value.bool b = .bool ((cond b 1 0 : Int) != 0)
        cases b <;> rfl
    · rename_i k ht
      obtain ⟨v, rfl, _, hw⟩ := DataW.trod_int ht h
      simp at hs; subst hs
      exact ⟨(v, ()), ⟨hw, trivial⟩, .int k v, [], rfl, rfl, rfl⟩
    · rename_i ht
      obtain ⟨s, rfl, _, hw⟩ := DataW.trod_string ht h
      simp at hs; subst hs
      exact ⟨(s, ()), ⟨hw, trivial⟩, .string s, [], rfl, rfl, rfl⟩
    · rename_i e ht
      have sl := DataW.trod_slice ht h
      split at hs
      · rename_i c he
        split at hs
        case isFalse => cases hs
        rename_i hce
        simp at hs; subst hs
        rcases sl with ⟨rfl, _⟩ | ⟨a, len, cap, elems, rest, k, _, rfl, _, _, h1, h2, h3, h4, _⟩
        · refine ⟨(([] : List Int), ()), ⟨⟨Nat.zero_le _, fun x h => by cases h⟩, trivial⟩, .slice none 0 0, [], rfl, ?_, rfl⟩
          exact ⟨none, 0, rfl, Nat.le_refl _, .inr rfl⟩
        · have hel : ∀ i, i < len → ∃ v : Int, codeWf c v ∧ ∃ c' T fz, (i = 0 → a.spot = none) ∧ w.heap[a.block]? = some (.cells c' T fz) ∧ (c'.toList.drop (a.off + i)).take 1 = [Code1.val c v] := by
            intro i hi
            have hb := h4 i hi
            rw [hce, Nat.mul_one] at hb
            cases hc : w.cells? 0 (a.add i) 1 with
            | none => rw [hc, List.getElem?_eq_getElem (by omega)] at hb; cases hb
            | some l =>
              rw [hc, List.getElem?_eq_getElem (by omega)] at hb
              simp only [Option.bind_some] at hb
              obtain ⟨y, oy, ry⟩ := ih k e l _ held [.code c] hb he
              obtain ⟨v, rfl, hv⟩ := code_rep rfl ry oy
              obtain ⟨c', T, fz, q1, q2, q3⟩ := row_of_cells hc (by omega)
              have e1 : (a.add i).block = a.block := add_block a _
              rw [e1] at q2
              have e2 : (a.add i).off = a.off + i := add_off a i
              rw [e2] at q3
              exact ⟨v, hv, c', T, fz, fun h0 => by subst h0; rw [add_zero] at q1; exact q1, q2, q3⟩
          obtain ⟨xs, hxl, hx⟩ := exists_list len hel
          refine ⟨(xs, ()), ⟨⟨by show xs.length ≤ _; omega, ?_⟩, trivial⟩, .slice (some a) len cap, [], rfl, ?_, rfl⟩
          · intro v hv
            obtain ⟨i, hi, rfl⟩ := List.getElem_of_mem hv
            exact (hx i hi).1
          · show Rep _ (.iview c xs) _
            refine ⟨some a, cap, by rw [hxl], by rw [hxl]; exact h1, ?_⟩
            by_cases h0 : len = 0
            · right; exact List.length_eq_zero_iff.1 (by omega)
            · left
              obtain ⟨_, c', T, fz, q1, q2, _⟩ := hx 0 (by omega)
              obtain ⟨b, off, sp⟩ := a
              simp only at q1 q2; have q1 := q1 trivial; subst q1
              refine ⟨b, off, c', T, fz, rfl, hcon _ _ q2, (c'.toList.drop off).drop len, ?_⟩
              have : xs.map (Code1.val c) = (c'.toList.drop off).take len := by
                apply List.ext_getElem?
                intro i
                rw [List.getElem?_map, List.getElem?_take]
                by_cases hi : i < len
                · rw [if_pos hi, List.getElem?_eq_getElem (by omega)]
                  obtain ⟨_, c2, T2, fz2, _, p2, p3⟩ := hx i (by omega)
                  simp only at p2 p3
                  rw [q2] at p2
                  simp only [Option.some.injEq, Obj.cells.injEq] at p2
                  obtain ⟨rfl, _⟩ := p2
                  have := congrArg (fun l => l[0]?) p3
                  simp only [List.getElem?_take, List.getElem?_drop] at this
                  rw [List.getElem?_drop]
                  simpa using this.symm
                · rw [if_neg hi, List.getElem?_eq_none (by omega)]; rfl
              rw [this, List.take_append_drop]
      · rename_i q hq he
        split at hs
        case isFalse => cases hs
        rename_i hce
        simp at hs; subst hs
        rcases sl with ⟨rfl, _⟩ | ⟨a, len, cap, elems, rest, k, _, rfl, _, _, h1, h2, h3, h4, _⟩
        · refine ⟨(([] : List (DenL q)), ()), ⟨⟨Nat.zero_le _, fun x h => by cases h⟩, trivial⟩, .slice none 0 0, [], rfl, ?_, rfl⟩
          exact ⟨none, 0, rfl, Nat.le_refl _, .inr rfl⟩
        · have hel : ∀ i, i < len → ∃ y : DenL q, okL q y ∧ ∃ c' T fz, (i = 0 → a.spot = none) ∧ w.heap[a.block]? = some (.cells c' T fz) ∧ RepL (fun _ => none) (toAL q y) ((c'.toList.drop (a.off + i * q.length)).take q.length) := by
            intro i hi
            have hb := h4 i hi
            rw [hce.1] at hb
            cases hc : w.cells? 0 (a.add (i * q.length)) q.length with
            | none => rw [hc, List.getElem?_eq_getElem (by omega)] at hb; cases hb
            | some l =>
              rw [hc, List.getElem?_eq_getElem (by omega)] at hb
              simp only [Option.bind_some] at hb
              obtain ⟨y, oy, ry⟩ := ih k e l _ held q hb he
              obtain ⟨c', T, fz, q1, q2, q3⟩ := row_of_cells hc hce.2
              have e1 : (a.add (i * q.length)).block = a.block := add_block a _
              rw [e1] at q2
              have e2 : (a.add (i * q.length)).off = a.off + i * q.length := add_off a _
              rw [e2] at q3
              exact ⟨y, oy, c', T, fz, fun h0 => by subst h0; rw [Nat.zero_mul, add_zero] at q1; exact q1, q2, by rw [q3]; exact ry⟩
          obtain ⟨xs, hxl, hx⟩ := exists_list len hel
          refine ⟨(xs, ()), ⟨⟨by show xs.length ≤ _; omega, ?_⟩, trivial⟩, .slice (some a) len cap, [], rfl, ?_, rfl⟩
          · intro v hv
            obtain ⟨i, hi, rfl⟩ := List.getElem_of_mem hv
            exact (hx i hi).1
          · show Rep _ (.view xs.length q.length fun i => toAL q (xs.getD i (dflL q))) _
            refine ⟨some a, cap, by rw [hxl], by rw [hxl]; exact h1, ?_⟩
            by_cases h0 : len = 0
            · right; omega
            · left
              obtain ⟨_, c', T, fz, q1, q2, _⟩ := hx 0 (by omega)
              obtain ⟨b, off, sp⟩ := a
              simp only at q1 q2; have q1 := q1 trivial; subst q1
              refine ⟨b, off, c', T, fz, rfl, hcon _ _ q2, ?_⟩
              intro i hi
              refine ⟨toAL_length _ _, ?_⟩
              show RepL _ (toAL q (xs.getD i (dflL q))) _
              rw [List.getD_eq_getElem?_getD, List.getElem?_eq_getElem hi]
              obtain ⟨_, c2, T2, fz2, _, p2, p3⟩ := hx i hi
              simp only at p2 p3
              rw [q2] at p2
              simp only [Option.some.injEq, Obj.cells.injEq] at p2
              obtain ⟨rfl, _⟩ := p2
              exact p3
      · cases hs
    · rename_i fs ht
      split at hs
      · rename_i q hq
        split at hs
        case isFalse => cases hs
        rename_i hct
        simp at hs; subst hs
        obtain ⟨xs, k, _, _, hl, hxl, hf⟩ := DataW.trod_struct ht h
        obtain ⟨y, oy, ry⟩ := shpFields_rep (P := P) (cs := cs) (rec := shp P m) (rd := fun t l => ∃ z, DataW.trod enc P w 0 (fun _ => true) held k t l = some z)
          (fun t r l ht' ⟨z, hz⟩ => ih k t l z held r hz ht') fs.toList 0 q hq (by omega) (by
            intro f hf'
            obtain ⟨i, hi, rfl⟩ := List.getElem_of_mem hf'
            have hi' : i < fs.size := by simpa using hi
            have := hf i fs[i] (Array.getElem?_eq_getElem hi')
            rw [List.getElem?_eq_getElem (by omega)] at this
            exact ⟨_, by simpa using this⟩)
        refine ⟨y, oy, ?_⟩
        rw [List.drop_zero, List.take_of_length_le (by omega)] at ry
        exact ry
      · cases hs
    · rename_i k e ht
      split at hs
      · rename_i q hq
        split at hs
        case isFalse => cases hs
        rename_i hce
        simp at hs; subst hs
        obtain ⟨xs, j, _, _, hl, hxl, hf⟩ := DataW.trod_array ht h
        refine flatten_rep2 (P' := fun l => ∃ z, DataW.trod enc P w 0 (fun _ => true) held j e l = some z) (r := q) (fun l ⟨z, hz⟩ => ih j e l z held q hz hq) k cs (by omega) ?_
        intro i hi
        have := hf i hi
        rw [hce.1, List.getElem?_eq_getElem (by omega)] at this
        exact ⟨_, this⟩
      · cases hs
    · cases hs

end
end Go.Sh

namespace Go.Sh
open Go Go.ChangeShapes Go.RowKit

def argShp (P : Program) : List TypeId → Option (List (Bool × List Shp))
  | [] => some []
  | t :: ts => match aisAgg P t, shp P 40 t, argShp P ts with
    | some b, some r, some l => if b = true ∨ r.length = 1 then some ((b, r) :: l) else none
    | _, _, _ => none
def DenA : List (Bool × List Shp) → Type
  | [] => Unit
  | (_, r) :: l => DenL r × DenA l
def toArgs : (l : List (Bool × List Shp)) → DenA l → List AVal
  | [], _ => []
  | (true, r) :: l, x => .agg (toAL r x.1) :: toArgs l x.2
  | (false, r) :: l, x => (toAL r x.1).headD .top :: toArgs l x.2
def okA : (l : List (Bool × List Shp)) → DenA l → Prop
  | [], _ => True
  | (_, r) :: l, x => okL r x.1 ∧ okA l x.2

section
variable {H : Type} {enc : TypeId × Value → H} {P : Program} {w : World}

theorem single_of_ok {t : TypeId} {v : Value} {base : Nat} (hb : aisAgg P t = some false) (ho : Value.okWide P w .any base t v) (hs : ∃ m r, shp P m t = some r) : v.cells = #[v] := by
  obtain ⟨m, r, hs⟩ := hs
  cases m with
  | zero => simp [shp] at hs
  | succ m =>
    unfold shp at hs
    unfold aisAgg at hb
    unfold Value.okWide at ho
    cases hu : P.underlying t with
    | none => rw [hu] at hs; cases hs
    | some d =>
      rw [hu] at ho hb hs
      cases v with
      | agg cs =>
        exfalso
        cases d <;> simp at hb hs <;> simp [Cell.okWide, hu, Cell.ok] at ho
      | _ => rfl

theorem args_rep [Con] (hcon : ∀ b o, w.heap[b]? = some o → Con.con b = some o) {base : Nat} : ∀ (ts : List TypeId) (vs : List Value) (ds : List (DataW H)) (ps : List MemPlace) (l : List (Bool × List Shp)),
    DataW.TrodAll enc P w 0 (fun _ => true) true ts vs ds ps → (∀ (j : Nat) t v, ts[j]? = some t → vs[j]? = some v → Value.okWide P w .any base t v) → argShp P ts = some l →
    ∃ x : DenA l, okA l x ∧ RepL (fun _ => none) (toArgs l x) vs
  | [], vs, ds, ps, l, h, _, hl => by
    obtain ⟨rfl, rfl, rfl⟩ := trodAll_nil h
    simp [argShp] at hl; subst hl
    exact ⟨(), trivial, by simp [toArgs, RepL]⟩
  | t :: ts, vs, ds, ps, l, h, hv, hl => by
    obtain ⟨v, vs', d, ds', p, q, rfl, rfl, rfl, h1, h2⟩ := trodAll_cons h
    simp only [argShp] at hl
    split at hl
    · rename_i b r l' hb hr hl'
      split at hl
      case isFalse => cases hl
      rename_i hc
      simp at hl; subst hl
      obtain ⟨y, oy, ry⟩ := args_rep hcon ts vs' ds' q l' h2 (fun j t v a b => hv (j + 1) t v (by simpa using a) (by simpa using b)) hl'
      obtain ⟨n, hn⟩ := h1
      obtain ⟨x, ox, rx⟩ := trod_rep hcon 40 n t _ _ true r hn hr
      have hok := hv 0 t v rfl rfl
      cases b with
      | true =>
        refine ⟨(x, y), ⟨ox, oy⟩, v, vs', rfl, ?_, ry⟩
        have : ∃ cs, v = .agg cs := by
          unfold Value.okWide at hok
          unfold aisAgg at hb
          cases hu : P.underlying t with
          | none => rw [hu] at hb; cases hb
          | some d =>
            rw [hu] at hok hb
            cases d <;> simp at hb <;> (obtain ⟨cs, e, _⟩ := hok; exact ⟨cs, e⟩)
        obtain ⟨cs, rfl⟩ := this
        exact ⟨cs, rfl, rx⟩
      | false =>
        refine ⟨(x, y), ⟨ox, oy⟩, v, vs', rfl, ?_, ry⟩
        rw [single_of_ok hb hok ⟨40, r, hr⟩] at rx
        have hr1 : r.length = 1 := by simpa using hc
        show Rep _ ((toAL r x).headD .top) v
        match r, hr1, x, rx with
        | [s], _, x, rx =>
          obtain ⟨u, us, e, r1, _⟩ := rx
          simp only [List.cons.injEq] at e
          rw [e.1]; exact r1
    · cases hl

theorem trodAll_stays {W W' : World} (hl : laidOutB P = true) {sp : Nat → Bool} : ∀ (ts : List TypeId) (vs : List Value) (ds : List (DataW H)) (ps : List MemPlace),
    (∀ t ∈ ts, P.readableRec t = true ∧ t < P.types.size) → DataW.TrodAll enc P W 0 (fun _ => true) true ts vs ds ps → (∀ p ∈ ps, W.sameAt W' p) → (∀ p ∈ ps, sp p.block = true) → DataW.TrodAll enc P W' 0 sp true ts vs ds ps
  | [], vs, ds, ps, _, h, _, _ => by
    obtain ⟨rfl, rfl, rfl⟩ := trodAll_nil h
    exact trodAll_mk0
  | t :: ts, vs, ds, ps, ht, h, hs, hp => by
    obtain ⟨v, vs', d, ds', p, q, rfl, rfl, rfl, h1, h2⟩ := trodAll_cons h
    exact trodAll_cons_mk (WideElems.Trod_stays hl (ht t (by simp)).1 (ht t (by simp)).2 h1 (fun x hx => hs x (by simp [hx])) (fun x hx => hp x (by simp [hx])))
      (trodAll_stays hl ts vs' ds' q (fun u hu => ht u (by simp [hu])) h2 (fun x hx => hs x (by simp [hx])) (fun x hx => hp x (by simp [hx])))

theorem trodAll_length {w : World} {sp : Nat → Bool} {b : Nat} {hd : Bool} : ∀ (ts : List TypeId) (vs : List Value) (ds : List (DataW H)) (ps : List MemPlace), DataW.TrodAll enc P w b sp hd ts vs ds ps → ds.length = ts.length
  | [], vs, ds, ps, h => by obtain ⟨rfl, rfl, rfl⟩ := trodAll_nil h; rfl
  | t :: ts, vs, ds, ps, h => by
    obtain ⟨v, vs', d, ds', p, q, rfl, rfl, rfl, h1, h2⟩ := trodAll_cons h
    simp [trodAll_length ts vs' ds' q h2]

abbrev Con.of (W : World) : Con := ⟨fun b => W.heap[b]?⟩

theorem post_same {f : Func} {s : ChangeSpec} {apart fresh handsOn again : Bool} {W W' : World} {args : Array Value} {v : Value} {ds gs : List (DataW H)} {before pa pv : List MemPlace}
    (hW : DataW.Whole enc P f.params.toList s.vars apart W args.toList ds gs before)
    (h1 : ∀ (b : Nat) (sp : Nat → Bool) (hd : Bool), DataW.TrodAll enc P W' b sp hd f.resultTypes.toList (v.resultList f.resultTypes.size) (s.fn H (ds ++ gs)).results [])
    (h2 : ∀ sp : Nat → Bool, (∀ p ∈ before, sp p.block = true) → DataW.TrodAll enc P W' 0 sp true f.params.toList args.toList (s.fn H (ds ++ gs)).args pa)
    (h3 : ∀ sp : Nat → Bool, (∀ p ∈ before, sp p.block = true) → DataW.TrodVars enc P W' sp s.vars (s.fn H (ds ++ gs)).vars pv)
    (hb : before = pa ++ pv) (hk : W.keptBut W' (· ∈ before)) (hz : ∀ a : Addr, a.block < W.heap.size → W'.frozen? a = W.frozen? a)
    (ho : ∀ (j : Nat) (t : TypeId) (r : Value), f.resultTypes[j]? = some t → (v.resultList f.resultTypes.size)[j]? = some r → Value.okWide P W' .any 0 t r) :
    s.post enc P f apart fresh handsOn again W args v W' := by
  have lt : ∀ p ∈ before, p.block < W.heap.size := fun p hp => hW.lt p hp
  refine ⟨ds, gs, before, [], pa, pv, hW, h1 _ _ _, h2 _ (fun p hp => by simpa using lt p hp), h3 _ (fun p hp => by simpa using lt p hp), World.keptBut_mono (fun p hp => ⟨hp, .inr (List.mem_append.1 (hb ▸ hp))⟩) hk, fun _ => ⟨ho, _, _, ([] ++ pa) ++ pv, ⟨[] ++ pa, pv, trodAll_append (h2 _ (fun _ _ => rfl)) (h1 _ _ _), h3 _ (fun _ _ => rfl), rfl, ?_, ?_⟩, ?_⟩⟩
  · intro b off hp
    have hp' : MemPlace.cell b off ∈ before := by rw [hb]; simpa using hp
    obtain ⟨_, _, _, _, _, q, _⟩ := hW
    rw [hz _ (lt _ hp')]
    exact q b off hp'
  · intro ha
    obtain ⟨_, _, _, _, _, _, q⟩ := hW
    have := q ha
    rw [hb] at this
    simpa using this
  · intro p hp _
    rw [hb]
    simpa using hp

theorem law_post {A : Type} {F : Func} {f : FuncId} {s : ChangeSpec} {tb : TypeId} {l : List (Bool × List Shp)} (hl : laidOutB P = true)
    (hpar : F.params.toList.all (fun t => P.readableRec t && decide (t < P.types.size)) = true) (hsh : argShp P F.params.toList = some l) (hv : s.vars = []) (hres : F.resultTypes = #[tb]) (htb : P.underlying tb = some .bool)
    (hfn : ∀ ds : List (DataW H), ds.length = F.params.toList.length → s.fn H ds = { results := [.lit (.bool true)], args := ds })
    (law : ∀ W0 : World, ∃ I : Itp A, ∀ x : DenA l, okA l x → @CallOk (Con.of W0) A I P f (toArgs l x) ([] : Heap A) (fun v _ => v = .bool true))
    (W : World) (base : Nat) (args : Array Value) (ds gs : List (DataW H)) (before : List MemPlace)
    (hval : ∀ (j : Nat) t v, F.params[j]? = some t → args[j]? = some v → Value.okWide P W .any base t v)
    (hW : DataW.Whole enc P F.params.toList s.vars false W args.toList ds gs before) :
    Calls P f args W fun e W' => ∃ v, e = .returned v ∧ s.post enc P F false true false false W args v W' := by
  have hW' := hW
  obtain ⟨p, q, hA, hV, rfl, hfz, hnd⟩ := hW
  rw [hv] at hV
  obtain ⟨rfl, rfl⟩ := trodVars_none hV
  obtain ⟨I, hI⟩ := law W
  letI : Con := Con.of W
  obtain ⟨x, ox, rx⟩ := args_rep (enc := enc) (P := P) (w := W) (base := base) (fun b o h => h) F.params.toList args.toList ds p l hA (fun j t v a b => hval j t v (by simpa using a) (by simpa using b)) hsh
  have hlen := trodAll_length _ _ _ _ hA
  refine (CallOk.law (hI x ox) rx W (fun b o h => h)).mono ?_
  rintro e W' ⟨rfl, hg⟩
  have hsame : ∀ p' ∈ p, W.sameAt W' p' := by
    intro p' hp
    have hlt : p'.block < W.heap.size := hW'.lt p' (by simpa using hp)
    have hk := hg.1.2.2 p'.block hlt
    cases p' with
    | cell b off =>
      show W'.cell? ⟨b, off, none⟩ = W.cell? ⟨b, off, none⟩
      simp only [MemPlace.block] at hk hlt
      unfold World.cell?
      simp only
      cases h1 : W.heap[b]? with
      | none => rw [Array.getElem?_eq_getElem hlt] at h1; cases h1
      | some o =>
        rw [h1] at hk
        cases h2 : W'.heap[b]? with
        | none => rw [h2] at hk; cases o <;> simp at hk
        | some o' =>
          rw [h2] at hk
          cases o <;> cases o' <;> simp at hk <;> first | rfl | skip
          rename_i c t fr c' t' fr'
          obtain ⟨_, _, hsz, hc⟩ := hk
          exact hc off
    | map b =>
      show W'.heap[b]? = W.heap[b]?
      simp only [MemPlace.block] at hk hlt
      cases h1 : W.heap[b]? with
      | none => rw [Array.getElem?_eq_getElem hlt] at h1; cases h1
      | some o =>
        rw [h1] at hk
        cases h2 : W'.heap[b]? with
        | none => rw [h2] at hk; cases o <;> simp at hk
        | some o' =>
          rw [h2] at hk
          cases o <;> cases o' <;> simp at hk <;> first | (simp_all; done) | skip
          rename_i c t fr c' t' fr'
          obtain ⟨rfl, rfl, hsz, hc⟩ := hk
          have : c = c' := by
            apply Array.ext_getElem?
            intro i
            exact (hc i).symm
          rw [this]
  have hpar' : ∀ t ∈ F.params.toList, P.readableRec t = true ∧ t < P.types.size := by
    intro t ht
    have := List.all_eq_true.1 hpar t ht
    simpa using this
  have hf0 : s.fn H (ds ++ []) = { results := [.lit (.bool true)], args := ds } := by rw [List.append_nil]; exact hfn ds hlen
  refine ⟨_, rfl, post_same (pa := p) (pv := []) hW' ?_ ?_ ?_ rfl (World.keptBut_mono (fun _ h => h.elim) hg.1) hg.2.1 ?_⟩
  · intro b sp hd
    rw [hf0, hres]
    exact trodAll_cons_mk (shut_bool htb _) trodAll_mk0
  · intro sp hsp
    rw [hf0]
    exact trodAll_stays hl _ _ _ _ hpar' hA hsame (fun p' hp => hsp p' (by simpa using hp))
  · intro sp _
    rw [hf0, hv]
    rfl
  · exact ok_one hres rfl (okWide_bool_mk htb _)

end
end Go.Sh

