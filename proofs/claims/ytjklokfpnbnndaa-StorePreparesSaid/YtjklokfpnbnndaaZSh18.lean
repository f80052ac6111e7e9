/- The small-heap evaluator, part 18: a law's arguments, as they are read; what a law that says true leaves. -/
import Derived.Test.YtjklokfpnbnndaaZSh22
import Derived.WideKeyArgs
import Derived.OpenShut
set_option linter.all false
set_option linter.unusedVariables false
set_option linter.unusedSectionVars false
namespace Go.Sh
open Go

/-- shapes of plain data: numbers and bools, strings, rows of numbers, rows of such -/
inductive Shp where
  | code (c : Code1)
  | str
  | ints (c : Code1)
  | rows (r : List Shp)

mutual
def Den : Shp → Type
  | .code _ => Int
  | .str => ByteArray
  | .ints _ => List Int
  | .rows r => List (DenL r)
def DenL : List Shp → Type
  | [] => Unit
  | s :: r => Den s × DenL r
end
mutual
def dfl : (s : Shp) → Den s
  | .code _ => (0 : Int)
  | .str => ByteArray.empty
  | .ints _ => ([] : List Int)
  | .rows r => ([] : List (DenL r))
def dflL : (r : List Shp) → DenL r
  | [] => ()
  | s :: r => (dfl s, dflL r)
end
mutual
def toA : (s : Shp) → Den s → AVal
  | .code c, n => Code1.aval c n
  | .str, s => .str s
  | .ints c, xs => .iview c xs
  | .rows r, xs => .view (List.length (α := DenL r) xs) r.length (fun i => toAL r (List.getD (α := DenL r) xs i (dflL r)))
def toAL : (r : List Shp) → DenL r → List AVal
  | [], _ => []
  | s :: r, x => toA s x.1 :: toAL r x.2
end
def codeWf : Code1 → Int → Prop
  | some k, n => (Lit.int k n).wf = true
  | none, n => n = 0 ∨ n = 1
mutual
def okS : (s : Shp) → Den s → Prop
  | .code c, n => codeWf c n
  | .str, s => ByteArray.size s ≤ maxLen
  | .ints c, xs => List.length (α := Int) xs ≤ maxLen ∧ ∀ x : Int, List.Mem x xs → codeWf c x
  | .rows r, xs => List.length (α := DenL r) xs ≤ maxLen ∧ ∀ x : DenL r, List.Mem x xs → okL r x
def okL : (r : List Shp) → DenL r → Prop
  | [], _ => True
  | s :: r, x => okS s x.1 ∧ okL r x.2
end

def shpFields (P : Program) (rec : TypeId → Option (List Shp)) : Nat → List Field → Option (List Shp)
  | _, [] => some []
  | off, f :: fs => match rec f.type with
    | some r => if f.offset = off ∧ P.cellsOf f.type = r.length then (shpFields P rec (off + r.length) fs).map (r ++ ·) else none
    | none => none
def shp (P : Program) : Nat → TypeId → Option (List Shp)
  | 0, _ => none
  | d + 1, t => match P.underlying t with
    | some .bool => some [.code none]
    | some (.int k) => some [.code (some k)]
    | some .string => some [.str]
    | some (.slice e) => match shp P d e with
      | some [.code c] => if P.cellsOf e = 1 then some [.ints c] else none
      | some r => if P.cellsOf e = r.length ∧ 0 < r.length then some [.rows r] else none
      | none => none
    | some (.struct fs) => match shpFields P (shp P d) 0 fs.toList with
      | some r => if P.cellsOf t = r.length then some r else none
      | none => none
    | some (.array n e) => match shp P d e with
      | some r => if P.cellsOf e = r.length ∧ P.cellsOf t = n * r.length then some ((List.replicate n r).flatten) else none
      | none => none
    | _ => none

theorem toAL_length : ∀ (r : List Shp) (x : DenL r), (toAL r x).length = r.length
  | [], _ => rfl
  | s :: r, x => by show (toA s x.1 :: toAL r x.2).length = _; simp [toAL_length r x.2]

def appL : (r q : List Shp) → DenL r → DenL q → DenL (r ++ q)
  | [], _, _, y => y
  | _ :: r, q, x, y => (x.1, appL r q x.2 y)
theorem toAL_app : ∀ (r q : List Shp) (x : DenL r) (y : DenL q), toAL (r ++ q) (appL r q x y) = toAL r x ++ toAL q y
  | [], _, _, _ => rfl
  | s :: r, q, x, y => by
    show toA s x.1 :: toAL (r ++ q) (appL r q x.2 y) = toA s x.1 :: (toAL r x.2 ++ toAL q y)
    rw [toAL_app r q]
theorem okL_app : ∀ (r q : List Shp) (x : DenL r) (y : DenL q), okL r x → okL q y → okL (r ++ q) (appL r q x y)
  | [], _, _, _, _, h => h
  | s :: r, q, x, y, hx, hy => ⟨hx.1, okL_app r q x.2 y hx.2 hy⟩

theorem exists_list {α : Type} {p : Nat → α → Prop} : ∀ (n : Nat), (∀ i, i < n → ∃ x, p i x) → ∃ l : List α, l.length = n ∧ ∀ i (h : i < l.length), p i l[i]
  | 0, _ => ⟨[], rfl, fun i h => by simp at h⟩
  | n + 1, h => by
    obtain ⟨l, h1, h2⟩ := exists_list n (fun i hi => h i (by omega))
    obtain ⟨x, hx⟩ := h n (by omega)
    refine ⟨l ++ [x], by simp [h1], ?_⟩
    intro i hi
    by_cases hc : i < l.length
    · rw [List.getElem_append_left hc]; exact h2 i hc
    · have : i = n := by simp at hi; omega
      subst this
      rw [List.getElem_append_right (by omega)]
      simpa [h1] using hx

section
variable {H : Type} {enc : TypeId × Value → H} {P : Program} {w : World}

theorem add_zero (a : Addr) : a.add 0 = a := by simp [Addr.add]
theorem add_block (a : Addr) (n : Nat) : (a.add n).block = a.block := by unfold Addr.add; split <;> rfl
theorem add_off (a : Addr) (n : Nat) : (a.add n).off = a.off + n := by
  unfold Addr.add
  split <;> simp_all
/-- cells that are read lie in a row -/
theorem row_of_cells {a : Addr} {n : Nat} {cs : List Value} (h : w.cells? 0 a n = some cs) (hn : 0 < n) :
    ∃ c T fz, a.spot = none ∧ w.heap[a.block]? = some (.cells c T fz) ∧ (c.toList.drop a.off).take n = cs := by
  obtain ⟨_, hl, hc⟩ := World.cells?_some h
  have h0 := hc 0 hn
  obtain ⟨v0, hv0⟩ : ∃ v, cs[0]? = some v := ⟨cs[0], List.getElem?_eq_getElem (by omega)⟩
  rw [hv0] at h0
  have ha0 : a.add 0 = a := by simp [Addr.add]
  rw [ha0] at h0
  have hs := World.cell?_spot h0
  obtain ⟨b, off, sp⟩ := a
  simp only at hs
  subst hs
  unfold World.cell? at h0
  split at h0
  · rename_i c T fz hb
    refine ⟨c, T, fz, rfl, hb, ?_⟩
    apply List.ext_getElem?
    intro j
    rw [List.getElem?_take]
    by_cases hj : j < n
    · rw [if_pos hj, List.getElem?_drop, ← hc j hj, Addr.add_lit, Array.getElem?_toList]
      exact (cell_of_row w b (off + j) c T fz hb).symm
    · rw [if_neg hj, List.getElem?_eq_none (by omega)]
  · cases h0

theorem code_rep {V : Val} [Con] {r : List Shp} {x : DenL r} {c : Code1} {cs : List Value} (hr : r = [.code c]) (h : RepL V (toAL r x) cs) (ho : okL r x) : ∃ n, cs = [Code1.val c n] ∧ codeWf c n := by
  subst hr
  obtain ⟨v, vs, rfl, h1, h2⟩ := h
  have h2' : vs = [] := h2
  subst h2'
  refine ⟨x.1, ?_, ho.1⟩
  have h1' : Rep V (Code1.aval c x.1) v := h1
  cases c with
  | some k => have : v = .int k x.1 := h1'; rw [this]; rfl
  | none => have : v = Code1.val none x.1 := h1'; rw [this]

theorem shpFields_rep [Con] {rec : TypeId → Option (List Shp)} {cs : List Value} {rd : TypeId → List Value → Prop}
    (hrec : ∀ t r l, rec t = some r → rd t l → ∃ x : DenL r, okL r x ∧ RepL (fun _ => none) (toAL r x) l) :
    ∀ (fs : List Field) (off : Nat) (r : List Shp), shpFields P rec off fs = some r → off + r.length ≤ cs.length → (∀ f ∈ fs, rd f.type ((cs.drop f.offset).take (P.cellsOf f.type))) →
      ∃ x : DenL r, okL r x ∧ RepL (fun _ => none) (toAL r x) ((cs.drop off).take r.length)
  | [], off, r, h, _, _ => by
    simp [shpFields] at h; subst h
    exact ⟨(), trivial, by simp [toAL, RepL]⟩
  | f :: fs, off, r, h, hl, hrd => by
    simp only [shpFields] at h
    cases hf : rec f.type with
    | none => rw [hf] at h; cases h
    | some q =>
      rw [hf] at h
      simp only at h
      split at h
      · rename_i hc
        obtain ⟨ho, hq⟩ := hc
        cases hfs : shpFields P rec (off + q.length) fs with
        | none => rw [hfs] at h; cases h
        | some r' =>
          rw [hfs] at h
          simp at h; subst h
          rw [List.length_append] at hl
          obtain ⟨x, ox, rx⟩ := hrec f.type q _ hf (hrd f (by simp))
          obtain ⟨y, oy, ry⟩ := shpFields_rep hrec fs _ r' hfs (by omega) (fun g hg => hrd g (by simp [hg]))
          refine ⟨appL q r' x y, okL_app q r' x y ox oy, ?_⟩
          rw [toAL_app, List.length_append, List.take_add, List.drop_drop]
          rw [ho, hq] at rx
          exact RepL.append rx ry
      · cases h

theorem flatten_rep2 [Con] {P' : List Value → Prop} {r : List Shp} (hr : ∀ l, P' l → ∃ x : DenL r, okL r x ∧ RepL (fun _ => none) (toAL r x) l) :
    ∀ (n : Nat) (cs : List Value), cs.length = n * r.length → (∀ i, i < n → P' ((cs.drop (i * r.length)).take r.length)) →
      ∃ x : DenL ((List.replicate n r).flatten), okL _ x ∧ RepL (fun _ => none) (toAL _ x) cs
  | 0, cs, hl, _ => by
    have : cs = [] := List.length_eq_zero_iff.1 (by omega)
    subst this
    exact ⟨(), trivial, by simp [toAL, RepL]⟩
  | n + 1, cs, hl, h => by
    obtain ⟨x, ox, rx⟩ := hr _ (h 0 (by omega))
    rw [Nat.zero_mul, List.drop_zero] at rx
    obtain ⟨y, oy, ry⟩ := flatten_rep2 hr n (cs.drop r.length) (by rw [List.length_drop, hl, Nat.succ_mul]; omega) (by
      intro i hi
      have := h (i + 1) (by omega)
      rw [List.drop_drop]
      rw [show r.length + i * r.length = (i + 1) * r.length from by rw [Nat.succ_mul]; omega]
      exact this)
    refine ⟨appL r _ x y, okL_app r _ x y ox oy, ?_⟩
    show RepL _ (toAL (r ++ (List.replicate n r).flatten) _) cs
    rw [toAL_app]
    have := RepL.append rx ry
    rwa [List.take_append_drop] at this

theorem trod_rep [Con] (hcon : ∀ b o, w.heap[b]? = some o → Con.con b = some o) : ∀ (m n : Nat) (t : TypeId) (cs : List Value) (x : DataW H × List MemPlace) (held : Bool) (r : List Shp),
    DataW.trod enc P w 0 (fun _ => true) held n t cs = some x → shp P m t = some r → ∃ x : DenL r, okL r x ∧ RepL (fun _ => none) (toAL r x) cs := by
  intro m
  induction m with
  | zero => intro n t cs x held r _ h; simp [shp] at h
  | succ m ih =>
    intro n t cs x held r h hs
    unfold shp at hs
    split at hs
    · rename_i ht
      obtain ⟨b, rfl, _⟩ := DataW.trod_bool ht h
      simp at hs; subst hs
      refine ⟨((cond b 1 0 : Int), ()), ⟨?_, trivial⟩, ?_⟩
      · show (cond b 1 0 : Int) = 0 ∨ (cond b 1 0 : Int) = 1
        cases b <;> simp
      · refine ⟨.bool b, [], rfl, ?_, rfl⟩
        show Value.bool b = .bool ((cond b 1 0 : Int) != 0)
        cases b <;> rfl
    · rename_i k ht
      obtain ⟨v, rfl, _, hw⟩ := DataW.trod_int ht h
      simp at hs; subst hs
      exact ⟨(v, ()), ⟨hw, trivial⟩, .int k v, [], rfl, rfl, rfl⟩
    · rename_i ht
      obtain ⟨s, rfl, _, hw⟩ := DataW.trod_string ht h
      simp at hs; subst hs
      exact ⟨(s, ()), ⟨hw, trivial⟩, .string s, [], rfl, rfl, rfl⟩
    · rename_i e ht
      have sl := DataW.trod_slice ht h
      split at hs
      · rename_i c he
        split at hs
        case isFalse => cases hs
        rename_i hce
        simp at hs; subst hs
        rcases sl with ⟨rfl, _⟩ | ⟨a, len, cap, elems, rest, k, _, rfl, _, _, h1, h2, h3, h4, _⟩
        · refine ⟨(([] : List Int), ()), ⟨⟨Nat.zero_le _, fun x h => by cases h⟩, trivial⟩, .slice none 0 0, [], rfl, ?_, rfl⟩
          exact ⟨none, 0, rfl, Nat.le_refl _, .inr rfl⟩
        · have hel : ∀ i, i < len → ∃ v : Int, codeWf c v ∧ ∃ c' T fz, (i = 0 → a.spot = none) ∧ w.heap[a.block]? = some (.cells c' T fz) ∧ (c'.toList.drop (a.off + i)).take 1 = [Code1.val c v] := by
            intro i hi
            have hb := h4 i hi
            rw [hce, Nat.mul_one] at hb
            cases hc : w.cells? 0 (a.add i) 1 with
            | none => rw [hc, List.getElem?_eq_getElem (by omega)] at hb; cases hb
            | some l =>
              rw [hc, List.getElem?_eq_getElem (by omega)] at hb
              simp only [Option.bind_some] at hb
              obtain ⟨y, oy, ry⟩ := ih k e l _ held [.code c] hb he
              obtain ⟨v, rfl, hv⟩ := code_rep rfl ry oy
              obtain ⟨c', T, fz, q1, q2, q3⟩ := row_of_cells hc (by omega)
              have e1 : (a.add i).block = a.block := add_block a _
              rw [e1] at q2
              have e2 : (a.add i).off = a.off + i := add_off a i
              rw [e2] at q3
              exact ⟨v, hv, c', T, fz, fun h0 => by subst h0; rw [add_zero] at q1; exact q1, q2, q3⟩
          obtain ⟨xs, hxl, hx⟩ := exists_list len hel
          refine ⟨(xs, ()), ⟨⟨by show xs.length ≤ _; omega, ?_⟩, trivial⟩, .slice (some a) len cap, [], rfl, ?_, rfl⟩
          · intro v hv
            obtain ⟨i, hi, rfl⟩ := List.getElem_of_mem hv
            exact (hx i hi).1
          · show Rep _ (.iview c xs) _
            refine ⟨some a, cap, by rw [hxl], by rw [hxl]; exact h1, ?_⟩
            by_cases h0 : len = 0
            · right; exact List.length_eq_zero_iff.1 (by omega)
            · left
              obtain ⟨_, c', T, fz, q1, q2, _⟩ := hx 0 (by omega)
              obtain ⟨b, off, sp⟩ := a
              simp only at q1 q2; have q1 := q1 trivial; subst q1
              refine ⟨b, off, c', T, fz, rfl, hcon _ _ q2, (c'.toList.drop off).drop len, ?_⟩
              have : xs.map (Code1.val c) = (c'.toList.drop off).take len := by
                apply List.ext_getElem?
                intro i
                rw [List.getElem?_map, List.getElem?_take]
                by_cases hi : i < len
                · rw [if_pos hi, List.getElem?_eq_getElem (by omega)]
                  obtain ⟨_, c2, T2, fz2, _, p2, p3⟩ := hx i (by omega)
                  simp only at p2 p3
                  rw [q2] at p2
                  simp only [Option.some.injEq, Obj.cells.injEq] at p2
                  obtain ⟨rfl, _⟩ := p2
                  have := congrArg (fun l => l[0]?) p3
                  simp only [List.getElem?_take, List.getElem?_drop] at this
                  rw [List.getElem?_drop]
                  simpa using this.symm
                · rw [if_neg hi, List.getElem?_eq_none (by omega)]; rfl
              rw [this, List.take_append_drop]
      · rename_i q hq he
        split at hs
        case isFalse => cases hs
        rename_i hce
        simp at hs; subst hs
        rcases sl with ⟨rfl, _⟩ | ⟨a, len, cap, elems, rest, k, _, rfl, _, _, h1, h2, h3, h4, _⟩
        · refine ⟨(([] : List (DenL q)), ()), ⟨⟨Nat.zero_le _, fun x h => by cases h⟩, trivial⟩, .slice none 0 0, [], rfl, ?_, rfl⟩
          exact ⟨none, 0, rfl, Nat.le_refl _, .inr rfl⟩
        · have hel : ∀ i, i < len → ∃ y : DenL q, okL q y ∧ ∃ c' T fz, (i = 0 → a.spot = none) ∧ w.heap[a.block]? = some (.cells c' T fz) ∧ RepL (fun _ => none) (toAL q y) ((c'.toList.drop (a.off + i * q.length)).take q.length) := by
            intro i hi
            have hb := h4 i hi
            rw [hce.1] at hb
            cases hc : w.cells? 0 (a.add (i * q.length)) q.length with
            | none => rw [hc, List.getElem?_eq_getElem (by omega)] at hb; cases hb
            | some l =>
              rw [hc, List.getElem?_eq_getElem (by omega)] at hb
              simp only [Option.bind_some] at hb
              obtain ⟨y, oy, ry⟩ := ih k e l _ held q hb he
              obtain ⟨c', T, fz, q1, q2, q3⟩ := row_of_cells hc hce.2
              have e1 : (a.add (i * q.length)).block = a.block := add_block a _
              rw [e1] at q2
              have e2 : (a.add (i * q.length)).off = a.off + i * q.length := add_off a _
              rw [e2] at q3
              exact ⟨y, oy, c', T, fz, fun h0 => by subst h0; rw [Nat.zero_mul, add_zero] at q1; exact q1, q2, by rw [q3]; exact ry⟩
          obtain ⟨xs, hxl, hx⟩ := exists_list len hel
          refine ⟨(xs, ()), ⟨⟨by show xs.length ≤ _; omega, ?_⟩, trivial⟩, .slice (some a) len cap, [], rfl, ?_, rfl⟩
          · intro v hv
            obtain ⟨i, hi, rfl⟩ := List.getElem_of_mem hv
            exact (hx i hi).1
          · show Rep _ (.view xs.length q.length fun i => toAL q (xs.getD i (dflL q))) _
            refine ⟨some a, cap, by rw [hxl], by rw [hxl]; exact h1, ?_⟩
            by_cases h0 : len = 0
            · right; omega
            · left
              obtain ⟨_, c', T, fz, q1, q2, _⟩ := hx 0 (by omega)
              obtain ⟨b, off, sp⟩ := a
              simp only at q1 q2; have q1 := q1 trivial; subst q1
              refine ⟨b, off, c', T, fz, rfl, hcon _ _ q2, ?_⟩
              intro i hi
              refine ⟨toAL_length _ _, ?_⟩
              show RepL _ (toAL q (xs.getD i (dflL q))) _
              rw [List.getD_eq_getElem?_getD, List.getElem?_eq_getElem hi]
              obtain ⟨_, c2, T2, fz2, _, p2, p3⟩ := hx i hi
              simp only at p2 p3
              rw [q2] at p2
              simp only [Option.some.injEq, Obj.cells.injEq] at p2
              obtain ⟨rfl, _⟩ := p2
              exact p3
      · cases hs
    · rename_i fs ht
      split at hs
      · rename_i q hq
        split at hs
        case isFalse => cases hs
        rename_i hct
        simp at hs; subst hs
        obtain ⟨xs, k, _, _, hl, hxl, hf⟩ := DataW.trod_struct ht h
        obtain ⟨y, oy, ry⟩ := shpFields_rep (P := P) (cs := cs) (rec := shp P m) (rd := fun t l => ∃ z, DataW.trod enc P w 0 (fun _ => true) held k t l = some z)
          (fun t r l ht' ⟨z, hz⟩ => ih k t l z held r hz ht') fs.toList 0 q hq (by omega) (by
            intro f hf'
            obtain ⟨i, hi, rfl⟩ := List.getElem_of_mem hf'
            have hi' : i < fs.size := by simpa using hi
            have := hf i fs[i] (Array.getElem?_eq_getElem hi')
            rw [List.getElem?_eq_getElem (by omega)] at this
            exact ⟨_, by simpa using this⟩)
        refine ⟨y, oy, ?_⟩
        rw [List.drop_zero, List.take_of_length_le (by omega)] at ry
        exact ry
      · cases hs
    · rename_i k e ht
      split at hs
      · rename_i q hq
        split at hs
        case isFalse => cases hs
        rename_i hce
        simp at hs; subst hs
        obtain ⟨xs, j, _, _, hl, hxl, hf⟩ := DataW.trod_array ht h
        refine flatten_rep2 (P' := fun l => ∃ z, DataW.trod enc P w 0 (fun _ => true) held j e l = some z) (r := q) (fun l ⟨z, hz⟩ => ih j e l z held q hz hq) k cs (by omega) ?_
        intro i hi
        have := hf i hi
        rw [hce.1, List.getElem?_eq_getElem (by omega)] at this
        exact ⟨_, this⟩
      · cases hs
    · cases hs

end
end Go.Sh
