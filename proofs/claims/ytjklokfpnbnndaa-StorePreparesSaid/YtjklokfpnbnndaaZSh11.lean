/- The small-heap evaluator, part 11: a statement that leaves its order open. -/
import Derived.Test.YtjklokfpnbnndaaZSh10b
set_option linter.all false
set_option linter.unusedVariables false
set_option linter.unusedSectionVars false
namespace Go.Sh
open Go
variable [Con] {A : Type}

/-- of a heap the labels of a list alone -/
def hres (foot : List Nat) : Nat → Heap A → Heap A
  | _, [] => []
  | i, e :: h => (cond (foot.contains i) e none) :: hres foot (i + 1) h

/-- an operation that was done (or passed over), as the order of the text has it -/
structure Item (A : Type) where
  o : Oper
  ran : Bool
  v : AVal
  upd : List (Nat × Option (Entry A))
  new : List (Entry A)
  foot : List Nat
  n : Nat

section
variable {P : Program} (E : Env A P)

/-- one operation whose outcome is settled -/
def dop (ρ : Operand → AVal) (op : Op) (h : Heap A) : Option (ORes A) :=
  match op with
  | .call c =>
    match callee E ρ c with
    | some (g, args) => if plainFn P g = true then
        match E.det g with
        | some D => D args h
        | none => none
      else none
    | none => aop P ρ (.call c) h
  | op => aop P ρ op h

def Item.puts (it : Item A) (l : Nat) : Bool := it.upd.any (fun x => x.1 == l) || (decide (it.n ≤ l) && decide (l < it.n + it.new.length))

def wellItem (it : Item A) : Bool := it.upd.all fun x => it.foot.contains x.1 && decide (x.1 < it.n)

def dstApart (ops : Array Oper) (x y : Oper) : Bool :=
  match x.dst with
  | some d => !(y.looksAt ops).contains d && y.dst != some d
  | none => true

/-- two that can be done in either order -/
def indep (ops : Array Oper) (x y : Item A) : Bool :=
  dstApart ops x.o y.o && dstApart ops y.o x.o && y.foot.all (fun l => !x.puts l) && x.foot.all (fun l => !y.puts l)

def mask (acc : List Nat) (o : Oper) : Nat :=
  o.after.toList.foldl (fun s e => if Region.binds .any e then s ||| 2 ^ e.on ||| acc.getD e.on 0 else s) 0
/-- for each operation, which ones have to come ahead of it -/
def masks : List Nat → List Oper → List Nat
  | acc, [] => acc
  | acc, o :: rest => masks (acc ++ [mask acc o]) rest

/-- any two that aren't ordered can be done in either order -/
def PairsP (ops : Array Oper) (ms : List Nat) (its : List (Item A)) : Prop :=
  ∀ i j x y, its[i]? = some x → its[j]? = some y → i < j → (ms.getD j 0).testBit i = true ∨ indep ops x y = true

def edgesAt (j : Nat) (o : Oper) : Bool := o.after.toList.all fun e => !Region.binds .any e || Nat.blt e.on j
def edgesOk (ops : List Oper) : Prop := ∀ (i : Nat) (o : Oper), ops[i]? = some o → edgesAt i o = true

/-- an item against those ahead of it (the last one first) that it isn't ordered with -/
def scan (ops : Array Oper) (y : Item A) : List (Item A) → Nat → Nat → Bool
  | [], _, _ => true
  | x :: prev, u, i => cond (Nat.beq u 0) true (cond (Nat.ble (2 ^ Nat.pred i) u) (indep ops x y && scan ops y prev (Nat.sub u (2 ^ Nat.pred i)) (Nat.pred i)) (scan ops y prev u (Nat.pred i)))
theorem scan_spec {ops : Array Oper} {y : Item A} : ∀ (prev : List (Item A)) (u : Nat), u < 2 ^ prev.length → scan ops y prev u prev.length = true → ∀ (k : Nat) (x : Item A), prev.reverse[k]? = some x → u.testBit k = true → indep ops x y = true
  | [], u, _, _, k, x, hk, _ => by simp at hk
  | z :: prev, u, hu, h, k, x, hk, hb => by
    unfold scan at h
    simp only [List.length_cons, Nat.pred_succ] at h hu
    rw [List.reverse_cons] at hk
    cases h0 : Nat.beq u 0 with
    | true =>
      have : u = 0 := Nat.eq_of_beq_eq_true h0
      subst this; simp at hb
    | false =>
      rw [h0] at h
      simp only [cond_false] at h
      have hkl : k < prev.length ∨ k = prev.length := by
        cases Nat.lt_or_ge k (prev.length + 1) with
        | inl g => omega
        | inr g => rw [List.getElem?_eq_none (by simp; omega)] at hk; cases hk
      have hlow : k < prev.length → prev.reverse[k]? = some x := by
        intro hlt
        rw [List.getElem?_append_left (by simpa using hlt)] at hk; exact hk
      have htop : k = prev.length → z = x := by
        intro e
        subst e
        rw [List.getElem?_append_right (by simp)] at hk
        simpa using hk
      cases h1 : Nat.ble (2 ^ prev.length) u with
      | true =>
        rw [h1] at h
        simp only [cond_true, Bool.and_eq_true] at h
        have hle : 2 ^ prev.length ≤ u := Nat.le_of_ble_eq_true h1
        have hlt : u - 2 ^ prev.length < 2 ^ prev.length := by rw [Nat.pow_succ] at hu; omega
        rcases hkl with hkl | hkl
        · refine scan_spec prev _ hlt h.2 k x (hlow hkl) ?_
          have e : u = 2 ^ prev.length + (u - 2 ^ prev.length) := by omega
          rw [e, Nat.testBit_two_pow_add_gt (by omega)] at hb
          exact hb
        · rw [← htop hkl]; exact h.1
      | false =>
        rw [h1] at h
        simp only [cond_false] at h
        have hlt : u < 2 ^ prev.length := by
          have : ¬ 2 ^ prev.length ≤ u := fun hle => by rw [Nat.ble_eq_true_of_le hle] at h1; cases h1
          omega
        rcases hkl with hkl | hkl
        · exact scan_spec prev u hlt h k x (hlow hkl) hb
        · subst hkl
          rw [Nat.testBit_lt_two_pow hlt] at hb; cases hb

def maskR (pm : List Nat) (j : Nat) (o : Oper) : Nat :=
  o.after.toList.foldl (fun s e => cond (Region.binds .any e) (Nat.lor (Nat.lor s (2 ^ e.on)) (pm.getD (Nat.sub (Nat.pred j) e.on) 0)) s) 0
theorem maskR_eq {pm : List Nat} {o : Oper} (he : edgesAt pm.length o = true) : maskR pm pm.length o = mask pm.reverse o := by
  unfold maskR mask
  unfold edgesAt at he
  generalize o.after.toList = l at he
  have key : ∀ s, l.foldl (fun s e => cond (Region.binds .any e) (Nat.lor (Nat.lor s (2 ^ e.on)) (pm.getD (Nat.sub (Nat.pred pm.length) e.on) 0)) s) s = l.foldl (fun s e => if Region.binds .any e then s ||| 2 ^ e.on ||| pm.reverse.getD e.on 0 else s) s := by
    induction l with
    | nil => intro s; rfl
    | cons e l ih =>
      intro s
      simp only [List.all_cons, Bool.and_eq_true] at he
      simp only [List.foldl_cons]
      rw [ih he.2]
      congr 1
      cases hb : Region.binds .any e with
      | false => rfl
      | true =>
        simp only [cond_true, if_true]
        have hlt : e.on < pm.length := by
          have h1 := he.1
          rw [hb] at h1
          have h2 : Nat.blt e.on pm.length = true := by simpa only [Bool.not_true, Bool.false_or] using h1
          exact Nat.le_of_ble_eq_true h2
        have : pm.reverse.getD e.on 0 = pm.getD (Nat.sub (Nat.pred pm.length) e.on) 0 := by
          rw [List.getD_eq_getElem?_getD, List.getD_eq_getElem?_getD, List.getElem?_reverse hlt]
          rfl
        rw [this]; rfl
  exact key 0

theorem masks_snoc : ∀ (l : List Oper) (acc : List Nat) (o : Oper), masks acc (l ++ [o]) = masks acc l ++ [mask (masks acc l) o]
  | [], acc, o => rfl
  | x :: l, acc, o => by
    show masks (acc ++ [mask acc x]) (l ++ [o]) = _
    rw [masks_snoc l]; rfl
theorem masks_length : ∀ (l : List Oper) (acc : List Nat), (masks acc l).length = acc.length + l.length
  | [], acc => rfl
  | x :: l, acc => by
    show (masks (acc ++ [mask acc x]) l).length = _
    rw [masks_length l]; simp; omega

/-- one more item: is it in order? -/
def stepOk (ops : Array Oper) (prev : List (Item A)) (j m : Nat) (y : Item A) : Bool :=
  edgesAt j y.o && wellItem y && scan ops y prev (Nat.xor (Nat.pred (2 ^ j)) (Nat.land m (Nat.pred (2 ^ j)))) j

/-- a number, reckoned out -/
def forceNat (n : Nat) (K : Nat → Prop) : Prop := match n with
  | 0 => K 0
  | p + 1 => K (Nat.succ p)
theorem forceNat_eq (n : Nat) (K : Nat → Prop) : forceNat n K = K n := by cases n <;> rfl

/-- the items so far (the last one first), and what has to come ahead of each -/
structure Built (ops : Array Oper) (prev : List (Item A)) (pm : List Nat) : Prop where
  masks : pm = (masks [] (prev.reverse.map (·.o))).reverse
  edges : edgesOk (prev.reverse.map (·.o))
  wells : prev.reverse.all wellItem = true
  pairs : PairsP ops pm.reverse prev.reverse

theorem Built.nil (ops : Array Oper) : Built ops ([] : List (Item A)) [] :=
  ⟨rfl, fun i o h => by simp at h, rfl, fun i j x y h => by simp at h⟩

theorem Built.cons {ops : Array Oper} {prev : List (Item A)} {pm : List Nat} (h : Built ops prev pm) {y : Item A} {m j : Nat} (hj : j = prev.length) (hm : m = maskR pm j y.o) (hs : stepOk ops prev j m y = true) : Built ops (y :: prev) (m :: pm) := by
  obtain ⟨h1, h2, h3, h4⟩ := h
  unfold stepOk at hs
  rw [Bool.and_eq_true, Bool.and_eq_true] at hs
  obtain ⟨⟨s1, s2⟩, s3⟩ := hs
  have hpl : pm.length = prev.length := by rw [h1, List.length_reverse, masks_length]; simp
  have hmk : m = mask pm.reverse y.o := by rw [hm, hj, ← hpl]; exact maskR_eq (by rw [hpl, ← hj]; exact s1)
  refine ⟨?_, ?_, ?_, ?_⟩
  · rw [List.reverse_cons, List.map_append, List.map_cons, List.map_nil, masks_snoc, List.reverse_append, ← h1.symm.symm]
    have : pm.reverse = Go.Sh.masks [] (prev.reverse.map (·.o)) := by rw [h1, List.reverse_reverse]
    rw [← this, hmk]; simp
  · intro i o hi
    rw [List.reverse_cons, List.map_append] at hi
    by_cases hlt : i < prev.length
    · rw [List.getElem?_append_left (by simpa using hlt)] at hi; exact h2 i o hi
    · rw [List.getElem?_append_right (by simp; omega)] at hi
      simp only [List.length_map, List.length_reverse, List.map_cons, List.map_nil] at hi
      have : i = prev.length := by
        cases hq : i - prev.length with
        | zero => omega
        | succ n => rw [hq] at hi; simp at hi
      subst this
      simp at hi; subst hi
      rw [← hj]; exact s1
  · rw [List.reverse_cons, List.all_append, h3]; simpa using s2
  · intro i k x z hi hk hik
    rw [List.reverse_cons] at hi hk ⊢
    by_cases hlt : k < prev.length
    · rw [List.getElem?_append_left (by simp; omega)] at hi
      rw [List.getElem?_append_left (by simp; omega)] at hk
      have := h4 i k x z hi hk hik
      rw [List.getD_eq_getElem?_getD, List.getElem?_append_left (by simp; omega), ← List.getD_eq_getElem?_getD]; exact this
    · have hkl : k = prev.length := by
        cases Nat.lt_or_ge k (prev.length + 1) with
        | inl g => omega
        | inr g => rw [List.getElem?_eq_none (by simp; omega)] at hk; cases hk
      subst hkl
      rw [List.getElem?_append_left (by simp; omega)] at hi
      rw [List.getElem?_append_right (by simp)] at hk
      simp at hk; subst hk
      have e : (pm.reverse ++ [m]).getD prev.length 0 = m := by
        rw [List.getD_eq_getElem?_getD, List.getElem?_append_right (by simp; omega)]
        simp [hpl]
      rw [e]
      cases hb : m.testBit i with
      | true => exact .inl rfl
      | false =>
        right
        subst hj
        have hpow : Nat.pred (2 ^ prev.length) = 2 ^ prev.length - 1 := rfl
        refine scan_spec prev _ ?_ s3 i x hi ?_
        · have h2p : 0 < 2 ^ prev.length := Nat.two_pow_pos _
          refine Nat.xor_lt_two_pow (n := prev.length) (by rw [hpow]; omega) ?_
          exact Nat.lt_of_le_of_lt Nat.and_le_right (by rw [hpow]; omega)
        · show Nat.testBit (Nat.pred (2 ^ prev.length) ^^^ (m &&& Nat.pred (2 ^ prev.length))) i = true
          rw [Nat.testBit_xor, Nat.testBit_and, hpow, Nat.testBit_two_pow_sub_one, hb]
          simp [hik]

def evDraw (ops : Array Oper) (base : List AVal) (n : Nat) : List Oper → List (Option Tmp) → Nat → List (Nat × AVal) → Heap A → List (Item A) → List Nat → (List AVal → Heap A → Prop) → Prop
  | [], _, _, δ, h, _, _, K => force (dnorm δ 0 base) fun tm => K tm h
  | o :: rest, seen, i, δ, h, prev, pm, K =>
    onlyIf (dok n o.dst) <|
    let run (δ : List (Nat × AVal)) : Prop :=
      match dop E (aevalD δ base) o.op h with
      | some r0 =>
        match dop E (aevalD δ base) o.op (hres r0.foot 0 h) with
        | some r => oand r.need (forceNat (maskR pm i o) fun m => onlyIf (stepOk ops prev i m ⟨o, true, r.v, r.upd, r.new, r0.foot, h.length⟩)
            (evDraw ops base n rest (o.dst :: seen) (Nat.succ i) (dput δ o.dst r.v) (r.applyF h) (⟨o, true, r.v, r.upd, r.new, r0.foot, h.length⟩ :: prev) (m :: pm) K))
        | none => False
      | none => False
    let skip (δ : List (Nat × AVal)) : Prop := forceNat (maskR pm i o) fun m => onlyIf (stepOk ops prev i m ⟨o, false, .raw undef, [], [], [], h.length⟩)
      (evDraw ops base n rest (o.dst :: seen) (Nat.succ i) (dput δ o.dst (.raw undef)) h (⟨o, false, .raw undef, [], [], [], h.length⟩ :: prev) (m :: pm) K)
    match o.guard with
    | none => run δ
    | some (j, want) =>
      onlyIf (Nat.blt j i) <|
      match seenDst seen i j with
      | none => False
      | some d =>
        match dget δ base d with
        | .bool b => onlyIf (Nat.blt d n) <| cond b (if want then run ((d, .bool true) :: δ) else skip ((d, .bool true) :: δ)) (if want then skip ((d, .bool false) :: δ) else run ((d, .bool false) :: δ))
        | v => if isTuple v then skip δ else False

variable {E}

/-- what an item stands for: done from where the ones ahead of it in the text have led -/
def ItemOk (E : Env A P) (ops : Array Oper) (tm : List AVal) (h : Heap A) (it : Item A) : Prop :=
  it.n = h.length ∧
  ((it.ran = true ∧ (∃ r, dop E (aeval tm) it.o.op (hres it.foot 0 h) = some r ∧ r.obl ∧ r.v = it.v ∧ r.upd = it.upd ∧ r.new = it.new) ∧
      (∀ j want, it.o.guard = some (j, want) → ∃ d, (ops[j]?).bind (·.dst) = some d ∧ tm[d]? = some (.bool want))) ∨
   (it.ran = false ∧ it.v = .raw undef ∧ it.upd = [] ∧ it.new = [] ∧
      ∃ j want d, it.o.guard = some (j, want) ∧ (ops[j]?).bind (·.dst) = some d ∧ (tm[d]? = some (.bool (!want)) ∨ isTuple (tm.getD d (.raw undef)) = true)))

def Item.applyH (it : Item A) (h : Heap A) : Heap A := hupd h it.upd ++ it.new.map some

/-- the run of the text: each item in its place -/
inductive Trace (E : Env A P) (ops : Array Oper) : List AVal → Heap A → List (Item A) → List AVal → Heap A → Prop
  | nil (tm : List AVal) (h : Heap A) : Trace E ops tm h [] tm h
  | cons {tm tm' : List AVal} {h h' : Heap A} {it : Item A} {its : List (Item A)} : ItemOk E ops tm h it → Trace E ops (aput tm it.o.dst it.v) (it.applyH h) its tm' h' → Trace E ops tm h (it :: its) tm' h'

theorem evDraw_trace {ops : Array Oper} {base : List AVal} {n : Nat} (hbn : base.length = n) {K : List AVal → Heap A → Prop} : ∀ (rest : List Oper) (seen : List (Option Tmp)) (i : Nat) (δ : List (Nat × AVal)) (h : Heap A) (prev : List (Item A)) (pm : List Nat), Seen ops rest seen i → din n δ → i = prev.length → Built ops prev pm →
    evDraw E ops base n rest seen i δ h prev pm K →
    ∃ its tm' h' pm', Trace E ops (dapply δ base) h its tm' h' ∧ its.map (·.o) = rest ∧ Built ops (its.reverse ++ prev) pm' ∧ K tm' h' := by
  intro rest
  induction rest with
  | nil =>
    intro seen i δ h prev pm _ hin _ hb he
    unfold evDraw at he
    rw [force_eq, dnorm_eq (by rw [hbn]; exact hin)] at he
    exact ⟨[], _, h, pm, .nil _ h, rfl, hb, he⟩
  | cons o rest ih =>
    intro seen i δ h prev pm hsn hin hi hb he
    obtain ⟨hok, he⟩ := onlyIf_iff.1 he
    have run : ∀ δ' : List (Nat × AVal), din n δ' → dapply δ' base = dapply δ base → (∀ j want, o.guard = some (j, want) → ∃ d, (ops[j]?).bind (·.dst) = some d ∧ (dapply δ base)[d]? = some (.bool want)) →
        (match dop E (aevalD δ' base) o.op h with
          | some r0 =>
            match dop E (aevalD δ' base) o.op (hres r0.foot 0 h) with
            | some r => oand r.need (forceNat (maskR pm i o) fun m => onlyIf (stepOk ops prev i m ⟨o, true, r.v, r.upd, r.new, r0.foot, h.length⟩)
                (evDraw E ops base n rest (o.dst :: seen) (Nat.succ i) (dput δ' o.dst r.v) (r.applyF h) (⟨o, true, r.v, r.upd, r.new, r0.foot, h.length⟩ :: prev) (m :: pm) K))
            | none => False
          | none => False) → ∃ its tm' h' pm', Trace E ops (dapply δ base) h its tm' h' ∧ its.map (·.o) = o :: rest ∧ Built ops (its.reverse ++ prev) pm' ∧ K tm' h' := by
      intro δ' hin' heq hg hh
      rw [aevalD_eq (by rw [hbn]; exact hin'), heq] at hh
      split at hh
      · rename_i r0 hr0
        split at hh
        · rename_i r hr
          obtain ⟨ho, hev⟩ := oand_iff.1 hh
          rw [forceNat_eq, applyF_eq] at hev
          obtain ⟨hst, hev⟩ := onlyIf_iff.1 hev
          obtain ⟨its, tm2, h2, pm2, h3, h4, h5, h6⟩ := ih _ _ _ _ _ _ hsn.next (dput_in hin' hok) (by rw [hi]; rfl) (hb.cons hi rfl hst) hev
          refine ⟨⟨o, true, r.v, r.upd, r.new, r0.foot, h.length⟩ :: its, tm2, h2, pm2, .cons ⟨rfl, .inl ⟨rfl, ⟨r, hr, ho, rfl, rfl, rfl⟩, hg⟩⟩ ?_, by simp [h4], by simpa using h5, h6⟩
          rw [← dput_eq (n := n), heq] at h3; exact h3
        · exact hh.elim
      · exact hh.elim
    have skip : ∀ δ' : List (Nat × AVal), din n δ' → dapply δ' base = dapply δ base → (∃ j want d, o.guard = some (j, want) ∧ (ops[j]?).bind (·.dst) = some d ∧ ((dapply δ base)[d]? = some (.bool (!want)) ∨ isTuple ((dapply δ base).getD d (.raw undef)) = true)) →
        (forceNat (maskR pm i o) fun m => onlyIf (stepOk ops prev i m ⟨o, false, .raw undef, [], [], [], h.length⟩)
          (evDraw E ops base n rest (o.dst :: seen) (Nat.succ i) (dput δ' o.dst (.raw undef)) h (⟨o, false, .raw undef, [], [], [], h.length⟩ :: prev) (m :: pm) K)) →
        ∃ its tm' h' pm', Trace E ops (dapply δ base) h its tm' h' ∧ its.map (·.o) = o :: rest ∧ Built ops (its.reverse ++ prev) pm' ∧ K tm' h' := by
      intro δ' hin' heq hg hev
      rw [forceNat_eq] at hev
      obtain ⟨hst, hev⟩ := onlyIf_iff.1 hev
      obtain ⟨its, tm2, h2, pm2, h3, h4, h5, h6⟩ := ih _ _ _ _ _ _ hsn.next (dput_in hin' hok) (by rw [hi]; rfl) (hb.cons hi rfl hst) hev
      refine ⟨⟨o, false, .raw undef, [], [], [], h.length⟩ :: its, tm2, h2, pm2, .cons ⟨rfl, .inr ⟨rfl, rfl, rfl, rfl, hg⟩⟩ ?_, by simp [h4], by simpa using h5, h6⟩
      rw [← dput_eq (n := n), heq] at h3
      simpa [Item.applyH, hupd] using h3
    cases hg : o.guard with
    | none =>
      rw [hg] at he
      exact run δ hin rfl (fun j want e => by rw [hg] at e; cases e) he
    | some g =>
      obtain ⟨j, want⟩ := g
      rw [hg] at he
      simp only at he
      obtain ⟨hji, he⟩ := onlyIf_iff.1 he
      have hjd := hsn.dst hji
      cases hj : (ops[j]?).bind (·.dst) with
      | none => rw [← hjd, hj] at he; exact he.elim
      | some d =>
        rw [← hjd, hj] at he
        simp only at he
        have hdg := dget_eq δ base d (by rw [hbn]; exact hin)
        split at he
        · rename_i b hb'
          obtain ⟨hdn, he⟩ := onlyIf_iff.1 he
          rw [hdg] at hb'
          have hgd := getD_bool hb'
          have hs : dapply ((d, .bool b) :: δ) base = dapply δ base := set_same _ d _ hgd
          have hin2 : ∀ v, din n ((d, v) :: δ) := fun v => ⟨Nat.le_of_ble_eq_true hdn, hin⟩
          have r1 : want = b → ∀ j' want', o.guard = some (j', want') → ∃ d, (ops[j']?).bind (·.dst) = some d ∧ (dapply δ base)[d]? = some (.bool want') := by
            intro e j' want' e2
            rw [hg] at e2
            cases e2
            exact ⟨d, hj, by rw [e]; exact hgd⟩
          have r2 : want = !b → ∃ j want d, o.guard = some (j, want) ∧ (ops[j]?).bind (·.dst) = some d ∧ ((dapply δ base)[d]? = some (.bool (!want)) ∨ isTuple ((dapply δ base).getD d (.raw undef)) = true) := by
            intro e
            exact ⟨j, want, d, hg, hj, .inl (by rw [e]; simpa using hgd)⟩
          cases b with
          | true =>
            simp only [cond_true] at he
            cases want with
            | true => rw [if_pos rfl] at he; exact run _ (hin2 _) hs (r1 rfl) he
            | false => rw [if_neg (by simp)] at he; exact skip _ (hin2 _) hs (r2 rfl) he
          | false =>
            simp only [cond_false] at he
            cases want with
            | true => rw [if_pos rfl] at he; exact skip _ (hin2 _) hs (r2 rfl) he
            | false => rw [if_neg (by simp)] at he; exact run _ (hin2 _) hs (r1 rfl) he
        · rename_i hnb
          split at he
          · rename_i htp
            rw [hdg] at htp
            exact skip δ hin rfl ⟨j, want, d, hg, hj, .inr htp⟩ he
          · exact he.elim

end
end Go.Sh
