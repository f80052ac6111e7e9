/- The small-heap evaluator, part 15: code, and functions. -/
import Derived.Test.YtjklokfpnbnndaaZSh14c
set_option linter.all false
set_option linter.unusedVariables false
set_option linter.unusedSectionVars false
namespace Go.Sh
open Go
variable [Con] {A : Type}

/-- how a piece of code is left -/
inductive Ex where
  | normal
  | exit (id : Nat)
  | ret

abbrev CPost (A : Type) := Ex → List AVal → Heap A → Prop
def Ex.out : Ex → Exit
  | .normal => .normal
  | .exit id => .exit id
  | .ret => .ret

/-- a loop's rounds: the states at its head, told by x; what x keeps to; what each round lowers; the temporaries that are told -/
structure Hint (A : Type) where
  X : Type
  st : X → List AVal × Heap A
  ok : X → Prop
  mu : X → Nat
  keep : List Nat
  casts : List (Place × CastK) := []

/-- a state that a loop's rounds may begin in -/
inductive okSt (H : Hint A) (ok : H.X → Prop) (tm : List AVal) (h : Heap A) : Prop where
  | mk (x : H.X) (h1 : H.st x = (tm, h)) (h2 : ok x)
theorem okSt_intro {H : Hint A} {ok : H.X → Prop} {tm : List AVal} {h : Heap A} (x : H.X) (h1 : H.st x = (tm, h)) (h2 : ok x) : okSt H ok tm h := ⟨x, h1, h2⟩

/-- a state at a loop's head -/
def AtHead (H : Hint A) (n : Nat) (tm : List AVal) (h : Heap A) (ok : H.X → Prop) : Prop :=
  match castAll H.casts tm h with
  | some (tm, h) =>
    onlyIf (goodPl (gather n h (keptLabels H.keep 0 tm)) h.length && keeps (gather n h (keptLabels H.keep 0 tm)) 0 n) <|
      okSt H ok (sift (gather n h (keptLabels H.keep 0 tm)) H.keep 0 tm) (trimH (gather n h (keptLabels H.keep 0 tm)) h)
  | none => False

def LoopBy (H : Hint A) (n : Nat) (body : List AVal → Heap A → CPost A → Prop) (tm : List AVal) (h : Heap A) (K : CPost A) : Prop :=
  AtHead H n tm h H.ok ∧ ∀ x, H.ok x → body (H.st x).1 (H.st x).2 fun e tm' h' => match e with
    | .normal => AtHead H n tm' h' fun x' => H.ok x' ∧ H.mu x' < H.mu x
    | .exit id => K (.exit id) tm' h'
    | .ret => K .ret tm' h'

/-- so many rounds, one by one -/
def Rounds (body : List AVal → Heap A → CPost A → Prop) : Nat → List AVal → Heap A → CPost A → Prop
  | 0, _, _, _ => False
  | m + 1, tm, h, K => body tm h fun e tm' h' => match e with
    | .normal => Rounds body m tm' h' K
    | .exit id => K (.exit id) tm' h'
    | .ret => K .ret tm' h'

/-- how a loop is gone through -/
inductive Plan (A : Type) where
  | rounds (m : Nat)
  | states (H : Hint A)
  | statesAt (k : Nat) (F : Int → Hint A)

/-- a loop's name: the number of the first region in it -/
def codeKey : Code → Option Nat
  | .region id _ _ => some id
  | .seq x y => match codeKey x with
    | some k => some k
    | none => codeKey y
  | .cond _ x y => match codeKey x with
    | some k => some k
    | none => codeKey y
  | .block _ c => codeKey c
  | .loop c => codeKey c
  | .scope c => codeKey c
  | .rangeFunc _ _ a c => match codeKey a with
    | some k => some k
    | none => codeKey c
  | _ => none

section
variable {P : Program} (E : Env A P)

def evRegion (inl : Inl A) (nt : Nat) (ops : Array Oper) (draw : Bool) (tm : List AVal) (h : Heap A) (K : List AVal → Heap A → Prop) : Prop :=
  onlyIf (Nat.beq tm.length nt) (cond draw (evDraw E ops tm nt ops.toList [] 0 [] h [] [] K) (evOpsD E inl tm nt ops.toList [] 0 [] h K))

/-- what a piece of code comes to -/
def evCode (inl : Inl A) (L : Nat → Option (Plan A)) (nt n0 : Nat) : Code → List AVal → Heap A → CPost A → Prop
  | .skip, tm, h, K => K .normal tm h
  | .region _ ops draw, tm, h, K => evRegion E inl nt ops draw tm h (K .normal)
  | .seq x y, tm, h, K => evCode inl L nt n0 x tm h fun e tm' h' => match e with
      | .normal => evCode inl L nt n0 y tm' h' K
      | .exit id => K (.exit id) tm' h'
      | .ret => K .ret tm' h'
  | .cond c x y, tm, h, K => match aeval tm c with
      | .bool b => cond b (evCode inl L nt n0 x tm h K) (evCode inl L nt n0 y tm h K)
      | _ => False
  | .block id c, tm, h, K => evCode inl L nt n0 c tm h fun e tm' h' => match e with
      | .normal => K .normal tm' h'
      | .exit i => if i = id then K .normal tm' h' else K (.exit i) tm' h'
      | .ret => K .ret tm' h'
  | .loop c, tm, h, K => match codeKey c with
    | some k => match L k with
      | some (.rounds m) => Rounds (evCode inl L nt n0 c) m tm h K
      | some (.states H) => LoopBy H n0 (evCode inl L nt n0 c) tm h K
      | some (.statesAt k F) => (match tm.getD k .top with
        | .int _ i => LoopBy (F i) n0 (evCode inl L nt n0 c) tm h K
        | _ => False)
      | none => False
    | none => False
  | .exit id, tm, h, K => K (.exit id) tm h
  | .label _, tm, h, K => K .normal tm h
  | .ret, tm, h, K => K .ret tm h
  | _, _, _, _ => False

def aresult (P : Program) (tm : List AVal) (h : Heap A) : ResultVar → Option (AVal × Option Prop)
  | .tmp t => some (tm.getD t (.raw undef), none)
  | .cell a t => match tm.getD a (.raw undef) with
    | .ptr l off => (aload P t l off h).map fun r => (r.v, r.need)
    | _ => none

def oboth : Option Prop → Option Prop → Option Prop
  | none, q => q
  | some p, none => some p
  | some p, some q => some (p ∧ q)
theorem oboth_iff {p q : Option Prop} : onp (oboth p q) ↔ onp p ∧ onp q := by
  cases p with
  | none => exact ⟨fun h => ⟨trivial, h⟩, fun h => h.2⟩
  | some p => cases q with
    | none => exact ⟨fun h => ⟨h, trivial⟩, fun h => h.1⟩
    | some q => exact Iff.rfl

def aresults (P : Program) (tm : List AVal) (h : Heap A) : List ResultVar → Option (List AVal × Option Prop)
  | [] => some ([], none)
  | r :: rs => match aresult P tm h r, aresults P tm h rs with
    | some (v, p), some (vs, q) => some (v :: vs, oboth p q)
    | _, _ => none

def amk : List AVal → AVal
  | [v] => v
  | vs => .tup vs

def evBody (inl : Inl A) (L : Nat → Option (Plan A)) (fn : Func) (c : Code) (args : List AVal) (h : Heap A) (K : AVal → Heap A → Prop) : Prop :=
  evCode E inl L fn.ntmps h.length c (args ++ List.replicate (fn.ntmps - args.length) (.raw undef)) h fun e tm h' => match e with
    | .exit _ => False
    | _ => match aresults P tm h' fn.results.toList with
      | some (vs, p) => oand p (K (amk vs) h')
      | none => False

/-- functions entered, so many deep -/
def evInl (L : FuncId → Nat → Option (Plan A)) : Nat → Inl A
  | 0 => fun _ _ _ _ => False
  | n + 1 => fun g args h K => match P.funcs[g]? with
    | some fn => match fn.body with
      | some c => evBody E (evInl L n) (L g) fn c args h K
      | none => False
    | none => False

variable {E}

theorem evCode_sound {inl : Inl A} (hinl : InlOk E inl) (hm : P.follows .mixedOrders = true) {L : Nat → Option (Plan A)} {nt n0 : Nat} {V0 : Val} {hR : PHeap} {w0 : World} (hf0 : Fresh V0 n0) : ∀ (c : Code) (tm : List AVal) (h : Heap A) (K : CPost A) (a : Act) (w : World) (V : Val) (Q : Exit → Act → World → Prop),
    evCode E inl L nt n0 c tm h K → Inv E.I V (toF h) hR w → Fresh V h.length → RepL V tm a.tmps.toList → a.defers = [] → V0.le V → n0 ≤ h.length → Grows w0 w →
    (∀ e a' w', Then E V0 n0 hR w0 (K e) a' w' → Q e.out a' w') → c.wp P Q a w := by
  intro c
  induction c with
  | skip =>
    intro tm h K a w V Q he hi hf ht hd hV hn hg hQ
    exact wp_skip (hQ .normal a w ⟨tm, V, h, he, ht, hV, hf, hn, hi, hg, hd⟩)
  | region id ops draw =>
    intro tm h K a w V Q he hi hf ht hd hV hn hg hQ
    simp only [evCode, evRegion] at he
    obtain ⟨hnt, he⟩ := onlyIf_iff.1 he
    cases draw with
    | false =>
      simp only [cond_false] at he
      exact wp_region_list (evOpsD_sound hinl (Nat.eq_of_beq_eq_true hnt) ops.toList [] 0 [] h (K .normal) a w V hR ⟨[], rfl, rfl, rfl⟩ he trivial hi hf ht hd (fun a' w' hT => hQ .normal a' w' (hT.chain hV hn hg)))
    | true =>
      simp only [cond_true] at he
      obtain ⟨its, tmN, hN, pm', h1, h2, h3, h4⟩ := evDraw_trace (Nat.eq_of_beq_eq_true hnt) ops.toList [] 0 [] h [] [] ⟨[], rfl, rfl, rfl⟩ trivial rfl (Built.nil ops) he
      have h1 : Trace E ops tm h its tmN hN := h1
      obtain ⟨b1, b2, b3, b4⟩ := h3
      simp only [List.append_nil, List.reverse_reverse] at b1 b2 b3 b4
      rw [h2] at b1 b2
      rw [b1, List.reverse_reverse] at b4
      have d : Drawn E ops tm h its tmN hN := ⟨h1, h2, b2, b3, b4⟩
      refine wp_region_any hm ?_
      have hlen : its.length = ops.size := by have := congrArg List.length h2; simpa using this
      have hD0 : (fun i => (Array.replicate ops.size false).getD i false) = fun _ => false := by
        funext i
        rw [Array.getD_eq_getD_getElem?, Array.getElem?_replicate]
        split <;> rfl
      refine d.any hf (hR := hR) (w0 := w) ?_ ops.size _ a _ (by simp) ?_ ?_ ?_
      · rintro a' w' ⟨V', g1, g2, g3, g4, g5, g6⟩
        obtain ⟨e1, e2⟩ := h1.end b3 0 (fun i => decide (i < its.length)) (by intro k hk; simpa using hk)
        rw [e1] at g3
        rw [e2] at g4
        refine hQ .normal a' w' ⟨tmN, V', hN, h4, g3, Val.le_trans hV g1, ?_, Nat.le_trans hn h1.le, g4, hg.trans g5, g6⟩
        intro l hl
        cases e : V' l with
        | none => rfl
        | some x =>
          rcases g2 l (by rw [e]; simp) with h | ⟨i, it, hi, _, q1, q2⟩
          · have := h1.le; exact (h (hf l (by omega))).elim
          · obtain ⟨hk', hok, _, _, hkn⟩ := h1.at b3 0 i it hi
            have : it.n = hk'.length := hok.1
            omega
      · refine Nat.le_trans (List.length_filter_le _ _) (by simp)
      · rw [hD0]; intro j o _ hj; cases hj
      · rw [hD0]
        refine ⟨V, V.le_refl, fun l hl => .inl hl, ?_, ?_, ⟨rfl, rfl, Nat.le_refl _, fun _ => rfl⟩, hd⟩
        · rw [tmF_none _ _ _ (fun _ _ => rfl)]; exact ht
        · rw [hF_none _ _ _ (fun _ _ => rfl)]; exact hi.drew _
  | seq x y ihx ihy =>
    intro tm h K a w V Q he hi hf ht hd hV hn hg hQ
    refine wp_seq (ihx tm h _ a w V _ he hi hf ht hd hV hn hg ?_)
    rintro e a' w' ⟨tm', V', h', k1, k2, k3, k4, k5, k6, k7, k8⟩
    cases e with
    | normal => exact ihy tm' h' K a' w' V' Q k1 k6 k4 k2 k8 k3 k5 k7 hQ
    | exit id => exact hQ (.exit id) a' w' ⟨tm', V', h', k1, k2, k3, k4, k5, k6, k7, k8⟩
    | ret => exact hQ .ret a' w' ⟨tm', V', h', k1, k2, k3, k4, k5, k6, k7, k8⟩
  | cond c x y ihx ihy =>
    intro tm h K a w V Q he hi hf ht hd hV hn hg hQ
    simp only [evCode] at he
    split at he
    · rename_i b hb
      have hc := aeval_rep ht c
      rw [hb] at hc
      have hc' : a.eval c = .bool b := hc
      refine wp_cond hc' ?_
      cases b with
      | true => exact ihx tm h K a w V Q he hi hf ht hd hV hn hg hQ
      | false => exact ihy tm h K a w V Q he hi hf ht hd hV hn hg hQ
    · exact he.elim
  | block id c ih =>
    intro tm h K a w V Q he hi hf ht hd hV hn hg hQ
    refine wp_block (ih tm h _ a w V _ he hi hf ht hd hV hn hg ?_)
    rintro e a' w' ⟨tm', V', h', k1, k2, k3, k4, k5, k6, k7, k8⟩
    cases e with
    | normal => exact hQ .normal a' w' ⟨tm', V', h', k1, k2, k3, k4, k5, k6, k7, k8⟩
    | exit i =>
      simp only [Ex.out, Exit.inBlock]
      by_cases hi' : i = id
      · simp only [hi', if_true] at k1 ⊢
        exact hQ .normal a' w' ⟨tm', V', h', k1, k2, k3, k4, k5, k6, k7, k8⟩
      · simp only [hi', if_false] at k1 ⊢
        exact hQ (.exit i) a' w' ⟨tm', V', h', k1, k2, k3, k4, k5, k6, k7, k8⟩
    | ret => exact hQ .ret a' w' ⟨tm', V', h', k1, k2, k3, k4, k5, k6, k7, k8⟩
  | loop c ih =>
    intro tm h K a w V Q he hi hf ht hd hV hn hg hQ
    have he : (∃ m, Rounds (evCode E inl L nt n0 c) m tm h K) ∨ (∃ H, LoopBy H n0 (evCode E inl L nt n0 c) tm h K) := by
      simp only [evCode] at he
      split at he
      · split at he
        · exact .inl ⟨_, he⟩
        · exact .inr ⟨_, he⟩
        · split at he
          · exact .inr ⟨_, he⟩
          · exact he.elim
        · exact he.elim
      · exact he.elim
    · rcases he with ⟨m, he⟩ | ⟨H, he⟩
      · skip
        have key : ∀ m tm h a w V, Rounds (evCode E inl L nt n0 c) m tm h K → Inv E.I V (toF h) hR w → Fresh V h.length → RepL V tm a.tmps.toList → a.defers = [] → V0.le V → n0 ≤ h.length → Grows w0 w →
            ∀ (b : Frame) (k : List _root_.Go.Item) (cs : List Frame), ∃ e a' w', Q e a' w' ∧ Arrives P (lone (b.at a (.code c :: .inLoop c :: k)) cs w) b k cs e a' w' := by
          intro m
          induction m with
          | zero => intro tm h a w V hr; exact hr.elim
          | succ m ihm =>
            intro tm h a w V hr hi hf ht hd hV hn hg b k cs
            have hb := ih tm h _ a w V (Exit.then (fun a2 w2 => ∃ tm2 h2 V2, Rounds (evCode E inl L nt n0 c) m tm2 h2 K ∧ RepL V2 tm2 a2.tmps.toList ∧ V0.le V2 ∧ Fresh V2 h2.length ∧ n0 ≤ h2.length ∧ Inv E.I V2 (toF h2) hR w2 ∧ Grows w0 w2 ∧ a2.defers = []) Q) hr hi hf ht hd hV hn hg (by
              rintro e a2 w2 ⟨tm2, V2, h2, k1, k2, k3, k4, k5, k6, k7, k8⟩
              cases e with
              | normal => exact ⟨tm2, h2, V2, k1, k2, k3, k4, k5, k6, k7, k8⟩
              | exit id => exact hQ (.exit id) a2 w2 ⟨tm2, V2, h2, k1, k2, k3, k4, k5, k6, k7, k8⟩
              | ret => exact hQ .ret a2 w2 ⟨tm2, V2, h2, k1, k2, k3, k4, k5, k6, k7, k8⟩)
            obtain ⟨e, a2, w2, hq, harr⟩ := hb b (.inLoop c :: k) cs
            cases e with
            | normal =>
              obtain ⟨tm2, h2, V2, q1, q3, q4, q5, q6, q7, q8, q9⟩ := hq
              obtain ⟨e3, a3, w3, hq3, harr3⟩ := ihm tm2 h2 a2 w2 V2 q1 q7 q5 q3 q9 q4 q6 q8 b k cs
              exact ⟨e3, a3, w3, hq3, .of_steps (Steps.trans harr (.one step_inLoop)) harr3⟩
            | exit id => exact ⟨_, a2, w2, hq, .pass (x := .inLoop c) rfl (fun _ _ => .inl (by simp)) harr⟩
            | goto l => exact ⟨_, a2, w2, hq, .pass (x := .inLoop c) rfl (fun _ _ => .inl (by simp)) harr⟩
            | ret => exact ⟨_, a2, w2, hq, .pass (x := .inLoop c) rfl (fun _ _ => .inl (by simp)) harr⟩
            | panic ch => exact ⟨_, a2, w2, hq, .pass (x := .inLoop c) rfl (fun _ _ => .inl (by simp)) harr⟩
            | outgrown => exact ⟨_, a2, w2, hq, .pass (x := .inLoop c) rfl (fun _ _ => .inl (by simp)) harr⟩
        intro b k cs
        obtain ⟨e, a', w', hq, harr⟩ := key m tm h a w V he hi hf ht hd hV hn hg b k cs
        exact ⟨e, a', w', hq, .of_steps (.one step_loop) harr⟩
      · obtain ⟨hstart, hround⟩ := he
        have head : ∀ {tm1 : List AVal} {h1 : Heap A} {V1 : Val} {a1 : Act} {w1 : World} {ok : H.X → Prop}, AtHead H n0 tm1 h1 ok → Inv E.I V1 (toF h1) hR w1 → Fresh V1 h1.length → RepL V1 tm1 a1.tmps.toList → V0.le V1 →
            ∃ x V2, ok x ∧ RepL V2 (H.st x).1 a1.tmps.toList ∧ V0.le V2 ∧ Fresh V2 (H.st x).2.length ∧ n0 ≤ (H.st x).2.length ∧ Inv E.I V2 (toF (H.st x).2) hR w1 := by
          intro tm1 h1 V1 a1 w1 ok hat hi1 hf1 ht1 hV1
          unfold AtHead at hat
          split at hat
          case h_2 => exact hat.elim
          rename_i tm2 h2 hcast
          obtain ⟨Vc, ⟨cle, cfr, clen, cinv⟩, crep⟩ := castAll_ok hcast hi1 hf1 ht1
          have hV1 := Val.le_trans hV1 cle
          clear hi1 hf1 ht1
          have hi1 := cinv
          have hf1 := cfr
          have ht1 := crep
          obtain ⟨g0, ⟨x, g3, g4⟩⟩ := onlyIf_iff.1 hat
          obtain ⟨g1, g2⟩ := Bool.and_eq_true_iff.1 g0
          obtain ⟨m1, m2, m3, m4⟩ := Picks.elim g1 g2 hi1 hf1
          refine ⟨x, fun i => Vc (lab (gather n0 h2 (keptLabels H.keep 0 tm2)) h2.length i), g4, by rw [g3]; exact sift_rep 0 _ _ ht1, ?_, by rw [g3]; exact m2, by rw [g3]; exact m3, by rw [g3]; exact m4⟩
          intro l y hl
          have hlt : l < n0 := by
            cases Nat.lt_or_ge l n0 with
            | inl g => exact g
            | inr g => rw [hf0 l g] at hl; cases hl
          show Vc (lab _ _ l) = some y
          rw [m1 l hlt]; exact hV1 l y hl
        have key : ∀ m x V1 a1 w1, H.mu x < m → H.ok x → RepL V1 (H.st x).1 a1.tmps.toList → V0.le V1 → Fresh V1 (H.st x).2.length → n0 ≤ (H.st x).2.length → Inv E.I V1 (toF (H.st x).2) hR w1 → Grows w0 w1 → a1.defers = [] →
            ∀ (b : Frame) (k : List _root_.Go.Item) (cs : List Frame), ∃ e a' w', Q e a' w' ∧ Arrives P (lone (b.at a1 (.code c :: .inLoop c :: k)) cs w1) b k cs e a' w' := by
          intro m
          induction m with
          | zero => intro x V1 a1 w1 hlt; omega
          | succ m ihm =>
            intro x V1 a1 w1 hlt j1 j2 j3 j4 j5 j6 j7 j8 b k cs
            have hb := ih (H.st x).1 (H.st x).2 _ a1 w1 V1 (Exit.then (fun a2 w2 => ∃ x2 V2, H.mu x2 < m ∧ H.ok x2 ∧ RepL V2 (H.st x2).1 a2.tmps.toList ∧ V0.le V2 ∧ Fresh V2 (H.st x2).2.length ∧ n0 ≤ (H.st x2).2.length ∧ Inv E.I V2 (toF (H.st x2).2) hR w2 ∧ Grows w0 w2 ∧ a2.defers = []) Q) (hround x j1) j6 j4 j2 j8 j3 j5 j7 (by
              rintro e a2 w2 ⟨tm2, V2, h2, k1, k2, k3, k4, k5, k6, k7, k8⟩
              cases e with
              | normal =>
                obtain ⟨x3, V3, ⟨m1, m1'⟩, m2, m3, m4, m5, m6⟩ := head k1 k6 k4 k2 k3
                exact ⟨x3, V3, by omega, m1, m2, m3, m4, m5, m6, k7, k8⟩
              | exit id => exact hQ (.exit id) a2 w2 ⟨tm2, V2, h2, k1, k2, k3, k4, k5, k6, k7, k8⟩
              | ret => exact hQ .ret a2 w2 ⟨tm2, V2, h2, k1, k2, k3, k4, k5, k6, k7, k8⟩)
            obtain ⟨e, a2, w2, hq, harr⟩ := hb b (.inLoop c :: k) cs
            cases e with
            | normal =>
              obtain ⟨x2, V2, q1, q2, q3, q4, q5, q6, q7, q8, q9⟩ := hq
              obtain ⟨e3, a3, w3, hq3, harr3⟩ := ihm x2 V2 a2 w2 q1 q2 q3 q4 q5 q6 q7 q8 q9 b k cs
              exact ⟨e3, a3, w3, hq3, .of_steps (Steps.trans harr (.one step_inLoop)) harr3⟩
            | exit id => exact ⟨_, a2, w2, hq, .pass (x := .inLoop c) rfl (fun _ _ => .inl (by simp)) harr⟩
            | goto l => exact ⟨_, a2, w2, hq, .pass (x := .inLoop c) rfl (fun _ _ => .inl (by simp)) harr⟩
            | ret => exact ⟨_, a2, w2, hq, .pass (x := .inLoop c) rfl (fun _ _ => .inl (by simp)) harr⟩
            | panic ch => exact ⟨_, a2, w2, hq, .pass (x := .inLoop c) rfl (fun _ _ => .inl (by simp)) harr⟩
            | outgrown => exact ⟨_, a2, w2, hq, .pass (x := .inLoop c) rfl (fun _ _ => .inl (by simp)) harr⟩
        intro b k cs
        obtain ⟨x, V2, m1, m2, m3, m4, m5, m6⟩ := head hstart hi hf ht hV
        obtain ⟨e, a', w', hq, harr⟩ := key (H.mu x + 1) x V2 a w (Nat.lt_succ_self _) m1 m2 m3 m4 m5 m6 hg hd b k cs
        exact ⟨e, a', w', hq, .of_steps (.one step_loop) harr⟩
  | exit id =>
    intro tm h K a w V Q he hi hf ht hd hV hn hg hQ
    exact wp_exit (hQ (.exit id) a w ⟨tm, V, h, he, ht, hV, hf, hn, hi, hg, hd⟩)
  | label l =>
    intro tm h K a w V Q he hi hf ht hd hV hn hg hQ
    exact wp_label (hQ .normal a w ⟨tm, V, h, he, ht, hV, hf, hn, hi, hg, hd⟩)
  | ret =>
    intro tm h K a w V Q he hi hf ht hd hV hn hg hQ
    exact wp_ret (hQ .ret a w ⟨tm, V, h, he, ht, hV, hf, hn, hi, hg, hd⟩)
  | _ => intro tm h K a w V Q he; exact he.elim

def rvar (tmps : Array Value) : ResultVar → Sem Value
  | .tmp t => Pure.pure (tmps.getD t undef)
  | .cell a t => do loadVar t (← asAddr (tmps.getD a undef))
theorem results_eq (fn : Func) (tmps : Array Value) : results fn tmps = (do
    let vs ← fn.results.mapM (rvar tmps)
    Pure.pure (if h : vs.size = 1 then vs[0] else .tuple vs)) := by
  unfold results
  congr 1

theorem aresult_run {tm : List AVal} {h : Heap A} {r : ResultVar} {v : AVal} {p : Option Prop} (hr : aresult P tm h r = some (v, p)) (hp : onp p) {V : Val} {hR : PHeap} {w : World} {tmps : Array Value} (hi : Inv E.I V (toF h) hR w) (ht : RepL V tm tmps.toList) :
    ∃ v', (rvar tmps r).run P w = .ok v' w ∧ Rep V v v' := by
  have hρ : ∀ x, Rep V (aeval tm x) (Act.eval ⟨tmps, []⟩ x) := aeval_rep (a := ⟨tmps, []⟩) ht
  cases r with
  | tmp t =>
    simp only [aresult, Option.some.injEq, Prod.mk.injEq] at hr
    obtain ⟨rfl, rfl⟩ := hr
    exact ⟨_, rfl, hρ (.tmp t)⟩
  | cell a t =>
    simp only [aresult] at hr
    split at hr
    · rename_i l off e
      have ra : Rep V (tm.getD a (.raw undef)) (tmps.getD a undef) := hρ (.tmp a)
      rw [e] at ra
      cases hq : aload P t l off h with
      | none => rw [hq] at hr; cases hr
      | some q =>
        rw [hq] at hr
        simp only [Option.map_some, Option.some.injEq, Prod.mk.injEq] at hr
        obtain ⟨rfl, rfl⟩ := hr
        obtain ⟨v', h1, h2, _, _⟩ := aload_run hq hp hi ra
        obtain ⟨b, k, hl, e2⟩ := ra
        rw [e2] at h1
        refine ⟨v', ?_, h2⟩
        show (do loadVar t (← asAddr (tmps.getD a undef)) : Sem Value).run P w = .ok v' w
        rw [e2]
        simpa [asAddr, Instr.loadAt, Instr.sureAddr] using h1
    · cases hr

theorem aresults_run {fn : Func} {tm : List AVal} {h : Heap A} {V : Val} {hR : PHeap} {w : World} {tmps : Array Value} (hi : Inv E.I V (toF h) hR w) (ht : RepL V tm tmps.toList) {vs : List AVal} {p : Option Prop} (hr : aresults P tm h fn.results.toList = some (vs, p)) (hp : onp p) :
    ∃ v', (results fn tmps).run P w = .ok v' w ∧ Rep V (amk vs) v' := by
  have key : ∀ (rs : List ResultVar) (vs : List AVal) (p : Option Prop), aresults P tm h rs = some (vs, p) → onp p →
      ∃ ws, (rs.mapM (rvar tmps)).run P w = .ok ws w ∧ RepL V vs ws := by
    intro rs
    induction rs with
    | nil =>
      intro vs p h1 h2
      simp only [aresults, Option.some.injEq, Prod.mk.injEq] at h1
      obtain ⟨rfl, rfl⟩ := h1
      exact ⟨[], rfl, rfl⟩
    | cons r rs ih =>
      intro vs p h1 h2
      simp only [aresults] at h1
      split at h1
      · rename_i v q vs' q' e1 e2
        simp only [Option.some.injEq, Prod.mk.injEq] at h1
        obtain ⟨rfl, rfl⟩ := h1
        have h2 := oboth_iff.1 h2
        obtain ⟨v', g1, g2⟩ := aresult_run e1 h2.1 hi ht
        obtain ⟨ws, g3, g4⟩ := ih vs' q' e2 h2.2
        refine ⟨v' :: ws, ?_, ⟨v', ws, rfl, g2, g4⟩⟩
        rw [List.mapM_cons]
        simp only [Sem.run_bind]
        rw [g1]
        simp only [Result.andThen_ok, Sem.run_bind]
        rw [g3]
        rfl
      · cases h1
  obtain ⟨ws, h1, h2⟩ := key _ vs p hr hp
  have hmap : (fn.results.mapM (rvar tmps)).run P w = .ok ws.toArray w := by
    rw [Array.mapM_eq_mapM_toList, Sem.run_map, h1]; rfl
  have hrun : (results fn tmps).run P w = .ok (if h : ws.toArray.size = 1 then ws.toArray[0] else .tuple ws.toArray) w := by
    rw [results_eq, Sem.run_bind, hmap]
    rfl
  refine ⟨_, hrun, ?_⟩
  match vs, ws, h2 with
  | [], _, r => have e : _ = [] := r; subst e; exact ⟨#[], rfl, rfl⟩
  | [v], _, ⟨y, ys, e, r, s⟩ => have e2 : ys = [] := s; subst e2; subst e; exact r
  | v1 :: v2 :: vs, _, ⟨y, _, e, r, y2, ys, e2, r2, s⟩ =>
    subst e2; subst e
    exact ⟨_, rfl, y, _, rfl, r, y2, ys, rfl, r2, s⟩

theorem evBody_sound {inl : Inl A} (hinl : InlOk E inl) (hm : P.follows .mixedOrders = true) {g : FuncId} {fn : Func} {c : Code} (hg : P.funcs[g]? = some fn) (hb : fn.body = some c) {args : List AVal} {h : Heap A} {K : AVal → Heap A → Prop} {L : Nat → Option (Plan A)} (he : evBody E inl L fn c args h K)
    {V : Val} {hR : PHeap} {w : World} {args' : Array Value} (hi : Inv E.I V (toF h) hR w) (hf : Fresh V h.length) (hr : RepL V args args'.toList) : Calls P g args' w (Post E.I V h.length hR K w) := by
  have hlen : args'.size = args.length := by rw [← Array.length_toList]; exact RepL.length hr
  refine calls_of_wp hg hb (evCode_sound hinl hm hf c _ h _ _ w V _ he hi hf ?_ rfl V.le_refl (Nat.le_refl _) (Grows.refl w) ?_)
  · show RepL V _ (args' ++ Array.replicate (fn.ntmps - args'.size) undef).toList
    rw [Array.toList_append, Array.toList_replicate, hlen]
    refine RepL.append hr ?_
    have : ∀ n : Nat, RepL V (List.replicate n (.raw undef)) (List.replicate n undef) := by
      intro n
      induction n with
      | zero => exact rfl
      | succ n ih => exact ⟨undef, _, rfl, rfl, ih⟩
    exact this _
  · rintro e a' w' ⟨tm', V', h', k1, k2, k3, k4, k5, k6, k7, k8⟩
    have fin : (match aresults P tm' h' fn.results.toList with | some (vs, p) => oand p (K (amk vs) h') | none => False) → a'.defers = [] ∧ ∃ v, (results fn a'.tmps).run P w' = .ok v w' ∧ Post E.I V h.length hR K w (.returned v) w' := by
      intro hh
      split at hh
      · rename_i vs p hres
        have hh := oand_iff.1 hh
        obtain ⟨v', g1, g2⟩ := aresults_run (E := E) k6 k2 hres hh.1
        exact ⟨k8, v', g1, amk vs, v', V', h', hh.2, rfl, g2, k3, k4, k5, k6, k7⟩
      · exact hh.elim
    cases e with
    | normal => exact fin k1
    | exit id => exact k1.elim
    | ret => exact fin k1

theorem evInl_sound (hm : P.follows .mixedOrders = true) (L : FuncId → Nat → Option (Plan A)) : ∀ n, InlOk E (evInl E L n)
  | 0 => fun _ _ _ _ he => he.elim
  | n + 1 => by
    intro g args h K he V hR w args' hi hf hr
    unfold evInl at he
    split at he
    · rename_i fn hg
      split at he
      · rename_i c hb
        exact evBody_sound (evInl_sound hm L n) hm hg hb he hi hf hr
      · exact he.elim
    · exact he.elim

end
end Go.Sh
