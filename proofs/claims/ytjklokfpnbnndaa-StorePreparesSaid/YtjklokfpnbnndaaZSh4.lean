/- The small-heap evaluator, part 4: one operation is sound. -/
import Derived.Test.YtjklokfpnbnndaaZSh3
set_option linter.all false
set_option linter.unusedSectionVars false
namespace Go.Sh
open Go
variable [Con] {A : Type} {I : A → Nat → PHeap → Prop}

theorem rep_ofCell (V : Val) (v : Value) : Rep V (ofCell v) v := by
  cases v <;> simp [ofCell, Rep]
theorem repL_ofCells (V : Val) : ∀ l : List Value, RepL V (l.map ofCell) l
  | [] => by simp [RepL]
  | v :: l => ⟨v, l, rfl, rep_ofCell V v, repL_ofCells V l⟩
theorem rep_ofVal (V : Val) (v : Value) : Rep V (ofVal v) v := by
  cases v with
  | agg cs => exact ⟨cs, rfl, repL_ofCells V _⟩
  | func fn fs cs => exact ⟨fs, cs, rfl, repL_ofCells V _, repL_ofCells V _⟩
  | _ => simp [ofVal, Rep]

theorem repL_raw (V : Val) : ∀ l : List Value, RepL V (l.map .raw) l
  | [] => by simp [RepL]
  | v :: l => ⟨v, l, rfl, by simp [Rep], repL_raw V l⟩

theorem rep_cells {V : Val} {a : AVal} {v : Value} (h : Rep V a v) (ht : a.told = true) : RepL V a.cells v.cells.toList := by
  have one : ∀ (a : AVal) (v : Value), Rep V a v → v.cells = #[v] → RepL V [a] v.cells.toList := by
    intro a v h e; rw [e]; exact ⟨v, [], rfl, h, by simp [RepL]⟩
  cases a with
  | agg as => obtain ⟨cs, e, r⟩ := h; subst e; exact r
  | raw v' => have : v = v' := h; subst this; exact repL_raw V _
  | tup as => have h' := h; obtain ⟨cs, e, r⟩ := h; subst e; exact one _ _ h' rfl
  | bool b => have h' := h; have : v = .bool b := h; subst this; exact one _ _ h' rfl
  | int k n => have h' := h; have : v = .int k n := h; subst this; exact one _ _ h' rfl
  | str s => have h' := h; have : v = .string s := h; subst this; exact one _ _ h' rfl
  | ptr l off => have h' := h; obtain ⟨b, k, _, e⟩ := h; subst e; exact one _ _ h' rfl
  | slice l off len sz => have h' := h; obtain ⟨b, c, e, _⟩ := h; subst e; exact one _ _ h' rfl
  | map l => have h' := h; obtain ⟨b, k, _, e⟩ := h; subst e; exact one _ _ h' rfl
  | func fn f c => have h' := h; obtain ⟨b, k, e, _⟩ := h; subst e; exact one _ _ h' rfl
  | iface t x => have h' := h; obtain ⟨b, e, _⟩ := h; subst e; exact one _ _ h' rfl
  | iview c xs => have h' := h; obtain ⟨b, c, e, _⟩ := h; subst e; exact one _ _ h' rfl
  | view n w row => have h' := h; obtain ⟨b, c, e, _⟩ := h; subst e; exact one _ _ h' rfl
  | cptr as => have h' := h; obtain ⟨b, off, cs, T, fz, e, _⟩ := h; subst e; exact one _ _ h' rfl
  | tslice l r n w => have h' := h; obtain ⟨b, c, e, _⟩ := h; subst e; exact one _ _ h' rfl
  | tptr l r w j => have h' := h; obtain ⟨b, k, _, e⟩ := h; subst e; exact one _ _ h' rfl
  | empty => have h' := h; obtain ⟨b, e⟩ := h; subst e; exact one _ _ h' rfl
  | any =>
    have h' : v.oneCell' = true := h
    refine one _ _ h ?_
    cases v <;> first | rfl | cases h'
  | top => cases ht
theorem ofVal_told (v : Value) : (ofVal v).told = true := by cases v <;> rfl
theorem rep_cells_val (V : Val) (v : Value) : RepL V (ofVal v).cells v.cells.toList := rep_cells (rep_ofVal V v) (ofVal_told v)

theorem rep_atom {V : Val} {a : AVal} {v : Value} (h : Rep V a v) (ha : a.atom = true) : v.oneCell' = true := by
  cases a with
  | agg as => cases ha
  | tup as => cases ha
  | raw v' => have : v = v' := h; subst this; exact ha
  | bool b => have : v = .bool b := h; subst this; rfl
  | int k n => have : v = .int k n := h; subst this; rfl
  | str s => have : v = .string s := h; subst this; rfl
  | ptr l off => obtain ⟨b, k, _, e⟩ := h; subst e; rfl
  | slice l off len sz => obtain ⟨b, c, e, _⟩ := h; subst e; rfl
  | map l => obtain ⟨b, k, _, e⟩ := h; subst e; rfl
  | func fn f c => obtain ⟨b, k, e, _⟩ := h; subst e; rfl
  | iface t x => obtain ⟨b, e, _⟩ := h; subst e; rfl
  | any => exact h
  | iview c xs => obtain ⟨b, c, e, _⟩ := h; subst e; rfl
  | view n w row => obtain ⟨b, c, e, _⟩ := h; subst e; rfl
  | cptr as => obtain ⟨b, off, cs, T, fz, e, _⟩ := h; subst e; rfl
  | tslice l r n w => obtain ⟨b, c, e, _⟩ := h; subst e; rfl
  | tptr l r w j => obtain ⟨b, k, _, e⟩ := h; subst e; rfl
  | empty => obtain ⟨b, e⟩ := h; subst e; rfl
  | top => cases ha

theorem Code1.rep (V : Val) (c : Code1) (n : Int) : Rep V (c.aval n) (c.val n) := by
  cases c <;> simp [Code1.aval, Code1.val, Rep]

theorem hget_append_left {h : Heap A} {k : Heap A} {l : Nat} (hl : l < h.length) : hget (h ++ k) l = hget h l := by
  simp [hget, List.getD, List.getElem?_append_left hl]
theorem hget_ge {h : Heap A} {l : Nat} (hl : h.length ≤ l) : hget h l = none := by
  simp [hget, List.getD, List.getElem?_eq_none hl]
theorem hget_lt {h : Heap A} {l : Nat} {e : Entry A} (hl : hget h l = some e) : l < h.length := by
  cases Nat.lt_or_ge l h.length with
  | inl h => exact h
  | inr g => rw [hget_ge g] at hl; cases hl

theorem toF_push (h : Heap A) (e : Entry A) : toF (h ++ [some e]) = (toF h).put h.length (some e) := by
  funext l
  show hget (h ++ [some e]) l = if l = h.length then some e else hget h l
  by_cases hl : l = h.length
  · subst hl; simp [hget, List.getD]
  · rw [if_neg hl]
    cases Nat.lt_or_ge l h.length with
    | inl g => exact hget_append_left g
    | inr g => rw [hget_ge (by simp; omega), hget_ge g]

theorem toF_set {h : Heap A} {l : Nat} (e : Option (Entry A)) (hl : l < h.length) : toF (h.set l e) = (toF h).put l e := by
  funext m
  show hget (h.set l e) m = if m = l then e else hget h m
  by_cases hm : m = l
  · subst hm; simp [hget, List.getD, hl]
  · rw [if_neg hm]; simp [hget, List.getD, List.getElem?_set_ne (Ne.symm hm)]

/-- what an operation does -/
def OpOk (I : A → Nat → PHeap → Prop) (P : Program) (V : Val) (n : Nat) (hR : PHeap) (w : World) (v : AVal) (h' : FHeap A) (k : Nat) (s : Sem Next) : Prop :=
  ∃ nx w' V' v', s.run P w = .ok nx w' ∧ (nx = .value v' ∨ nx = .skip ∧ v' = undef) ∧ V.le V' ∧
    (∀ l, V l = none → V' l ≠ none → n ≤ l ∧ l < n + k) ∧ Rep V' v v' ∧ Inv I V' h' hR w' ∧ Grows w w'

theorem OpOk.pure {P : Program} {V : Val} {n : Nat} {hR : PHeap} {w : World} {v : AVal} {h : FHeap A} {s : Sem Next} {v' : Value}
    (hi : Inv I V h hR w) (hr : Rep V v v') (hs : s.run P w = .ok (.value v') w) : OpOk I P V n hR w v h 0 s :=
  ⟨_, w, V, v', hs, .inl rfl, V.le_refl, fun l e h => (h e).elim, hr, hi, Grows.refl w⟩

section
variable {P : Program} {V : Val} {w : World}

theorem asize_run {t : TypeId} {n : Nat} (h : asize P t = some n) : (sizeOf t).run P w = .ok n w := by
  unfold asize at h
  cases e : P.info? t with
  | none => rw [e] at h; cases h
  | some i =>
    rw [e] at h; simp at h
    simp [sizeOf, typeInfo, e, h]

theorem aisAgg_run {t : TypeId} {b : Bool} (h : aisAgg P t = some b) : (isAgg t).run P w = .ok b w := by
  unfold aisAgg at h
  simp only [isAgg, underlying]
  cases e : P.underlying t with
  | none => rw [e] at h; cases h
  | some d =>
    rw [e] at h
    cases d <;> simp at h <;> subst h <;> simp [e]

theorem azero_run {t : TypeId} {z : AVal} (h : azero P t = some z) : ∃ v, z = ofVal v ∧ (zeroValue t).run P w = .ok v w := by
  unfold azero at h
  cases e : P.info? t with
  | none => rw [e] at h; cases h
  | some i =>
    rw [e] at h
    cases e2 : i.zero with
    | none => simp [e2] at h
    | some v =>
      simp [e2] at h
      exact ⟨v, h.symm, by simp [zeroValue, typeInfo, e, e2]⟩

theorem apart_run {t : TypeId} {cs : List AVal} {off : Nat} {v : AVal} {xs : Array Value} (hp : apart P t cs off = some v) (hr : RepL V cs xs.toList) :
    ∃ v', (part t xs off).run P w = .ok v' w ∧ Rep V v v' := by
  unfold apart at hp
  cases e1 : aisAgg P t with
  | none => simp [e1] at hp
  | some b =>
    cases b with
    | true =>
      cases e2 : asize P t with
      | none => simp [e1, e2] at hp
      | some n =>
        simp [e1, e2] at hp
        subst hp
        refine ⟨.agg (xs.extract off (off + n)), by simp [part, aisAgg_run e1, asize_run e2], ?_⟩
        refine ⟨_, rfl, ?_⟩
        rw [Array.toList_extract]
        have := (RepL.take (RepL.drop hr off) n)
        have e : xs.toList.extract off (off + n) = List.take n (List.drop off xs.toList) := by
          simp [List.extract]
        rw [e]; exact this
    | false =>
      simp [e1] at hp
      obtain ⟨y, hy, r⟩ := RepL.get hr off v hp
      refine ⟨y, ?_, r⟩
      have : xs[off]? = some y := by rw [← Array.getElem?_toList]; exact hy
      simp [part, aisAgg_run e1, this]

theorem over_length : ∀ (xs cs : List AVal) (off : Nat), (over cs off xs).length = cs.length
  | [], _, _ => rfl
  | x :: xs, cs, off => by simp [over, over_length xs]

def overV : List Value → Nat → List Value → List Value
  | cs, _, [] => cs
  | cs, off, x :: xs => overV (cs.set off x) (off + 1) xs

theorem over_rep : ∀ {xs : List AVal} {ys : List Value} {cs : List AVal} {ds : List Value} (off : Nat), RepL V xs ys → RepL V cs ds → RepL V (over cs off xs) (overV ds off ys)
  | [], _, _, _, _, r, s => by rw [r]; exact s
  | x :: xs, _, cs, ds, off, ⟨v, vs, e, r, s⟩, t => by
    subst e
    exact over_rep (off + 1) s (RepL.set t off x v r)

theorem overV_append : ∀ (ys ds tl : List Value) (off : Nat), off + ys.length ≤ ds.length → overV (ds ++ tl) off ys = overV ds off ys ++ tl
  | [], _, _, _, _ => rfl
  | y :: ys, ds, tl, off, h => by
    simp only [List.length_cons] at h
    simp only [overV]
    rw [List.set_append_left _ _ (by omega)]
    exact overV_append ys (ds.set off y) tl (off + 1) (by simp; omega)

theorem overV_length : ∀ (ys ds : List Value) (off : Nat), (overV ds off ys).length = ds.length
  | [], _, _ => rfl
  | y :: ys, ds, off => by simp [overV, overV_length ys]

theorem overV_foldl (ys : List Value) : ∀ (j : Nat) (cs : Array Value) (off : Nat),
    ((ys.zipIdx j).foldl (fun cs (c, i) => cs.setIfInBounds (off + i) c) cs).toList = overV cs.toList (off + j) ys := by
  induction ys with
  | nil => intro j cs off; rfl
  | cons y ys ih =>
    intro j cs off
    simp only [List.zipIdx_cons, List.foldl_cons, overV]
    rw [ih (j + 1) _ off]
    simp [Nat.add_assoc]

theorem fill_foldl (v : Value) (cells : Array Value) (off : Nat) :
    (v.cells.zipIdx.foldl (fun cs (c, j) => cs.setIfInBounds (off + j) c) cells).toList = overV cells.toList off v.cells.toList := by
  have := overV_foldl v.cells.toList 0 cells off
  simp only [Nat.add_zero] at this
  rw [← this, ← Array.foldl_toList]
  simp

/-- parts, one beside the other -/
inductive RepP (V : Val) : List (Nat × AVal) → List (Nat × Value) → Prop
  | nil : RepP V [] []
  | cons {i : Nat} {a : AVal} {v : Value} {as vs} : Rep V a v → RepP V as vs → RepP V ((i, a) :: as) ((i, v) :: vs)

theorem afill_run {place : Nat → Option (Nat × Nat)} : ∀ {ps : List (Nat × AVal)} {qs : List (Nat × Value)} {cs : List AVal} {ds : Array Value} {out : List AVal},
    RepP V ps qs → RepL V cs ds.toList → afill place cs ps = some out → ∃ out', Instr.fill place ds qs = some out' ∧ RepL V out out'.toList
  | [], _, cs, ds, out, .nil, r, h => by
    simp [afill] at h; subst h; exact ⟨ds, rfl, r⟩
  | (i, a) :: ps, _, cs, ds, out, .cons (v := v) (vs := vs) ra rp, r, h => by
    simp only [afill] at h
    cases hp : place i with
    | none => rw [hp] at h; cases h
    | some x =>
      obtain ⟨off, size⟩ := x
      rw [hp] at h
      simp only at h
      split at h
      · rename_i hc
        obtain ⟨hc, hct⟩ := hc
        have rc := rep_cells ra hct
        have hlen : v.cells.size = a.cells.length := by rw [← Array.length_toList]; exact RepL.length rc
        have hlen2 : ds.size = cs.length := by rw [← Array.length_toList]; exact RepL.length r
        have r2 := over_rep (cs := cs) off rc r
        rw [← fill_foldl v ds off] at r2
        obtain ⟨out', h1, h2⟩ := afill_run rp r2 h
        refine ⟨out', ?_, h2⟩
        simp only [Instr.fill, hp]
        rw [if_neg (by simp; omega)]
        exact h1
      · cases h

end
end Go.Sh
