/- The small-heap evaluator, part 1: abstract values, entries, what it means that a world holds them. -/
import Derived.Orders
import Derived.KernelRfl
import Derived.Laws.Cells
import Derived.Laws.World
set_option linter.all false
namespace Go.Sh
open Go

/-- Abstract values: blocks are labels. -/
inductive AVal where
  | bool (b : Bool)
  | int (k : IntKind) (n : Int)
  | str (s : ByteArray)
  | ptr (l : Nat) (off : Nat)
  | slice (l off len sz : Nat)
  | map (l : Nat)
  | func (fn : Fn) (first caps : List AVal)
  | iface (t : TypeId) (v : AVal)
  | agg (cs : List AVal)
  | tup (vs : List AVal)
  | raw (v : Value)
  | any
  | top
  | iview (c : Option IntKind) (xs : List Int)
  | view (n w : Nat) (row : Nat → List AVal)
  | cptr (cs : List AVal)
  | tslice (l r n w : Nat)
  | tptr (l r w j : Nat)
  | empty

/-- codes of cells in a long row: an integer kind, or none for bools -/
abbrev Code1 := Option IntKind
def Code1.val : Code1 → Int → Value
  | some k, n => .int k n
  | none, n => .bool (n != 0)
def Code1.aval : Code1 → Int → AVal
  | some k, n => .int k n
  | none, n => .bool (n != 0)

/-- partial heaps -/
abbrev PHeap := Nat → Option Obj
/-- memory that nobody writes -/
class Con where
  con : PHeap

/-- what a label stands for: a block, and how many cells it has -/
abbrev Val := Nat → Option (Nat × Nat)

def Val.le (V V' : Val) : Prop := ∀ l x, V l = some x → V' l = some x

variable [Con]
mutual
def Rep (V : Val) : AVal → Value → Prop
  | .bool b, v => v = .bool b
  | .int k n, v => v = .int k n
  | .str s, v => v = .string s
  | .ptr l off, v => ∃ b k, V l = some (b, k) ∧ v = .pointer (some ⟨b, off, none⟩)
  | .slice l off len sz, v => ∃ base cap, v = .slice base len cap ∧ len ≤ cap ∧
      ((∃ b k, V l = some (b, k) ∧ base = some ⟨b, off, none⟩ ∧ off + cap * sz ≤ k) ∨ (len = 0 ∧ cap = 0))
  | .map l, v => ∃ b k, V l = some (b, k) ∧ v = .map (some b)
  | .func fn first caps, v => ∃ fs cs, v = .func fn fs cs ∧ RepL V first fs.toList ∧ RepL V caps cs.toList
  | .iface t a, v => ∃ x, v = .iface t x ∧ Rep V a x
  | .agg as, v => ∃ cs, v = .agg cs ∧ RepL V as cs.toList
  | .tup as, v => ∃ cs, v = .tuple cs ∧ RepL V as cs.toList
  | .raw v', v => v = v'
  | .any, v => v.oneCell' = true
  | .top, _ => True
  | .iview c xs, v => ∃ base cap, v = .slice base xs.length cap ∧ xs.length ≤ cap ∧
      ((∃ b off cs T fz, base = some ⟨b, off, none⟩ ∧ Con.con b = some (.cells cs T fz) ∧ ∃ tail, cs.toList.drop off = xs.map (Code1.val c) ++ tail) ∨ xs = [])
  | .view n w row, v => ∃ base cap, v = .slice base n cap ∧ n ≤ cap ∧
      ((∃ b off cs T fz, base = some ⟨b, off, none⟩ ∧ Con.con b = some (.cells cs T fz) ∧ ∀ i, i < n → (row i).length = w ∧ RepL (fun _ => none) (row i) ((cs.toList.drop (off + i * w)).take w)) ∨ n = 0)
  | .tslice l r n w, v => ∃ base cap, v = .slice base n cap ∧ n ≤ cap ∧
      ((∃ b k, V l = some (b, k) ∧ base = some ⟨b, r * w, none⟩ ∧ r * w + cap * w ≤ k) ∨ (n = 0 ∧ cap = 0))
  | .tptr l r w j, v => ∃ b k, V l = some (b, k) ∧ v = .pointer (some ⟨b, r * w + j, none⟩)
  | .empty, v => ∃ base, v = .slice base 0 0
  | .cptr as, v => ∃ b off cs T fz, v = .pointer (some ⟨b, off, none⟩) ∧ Con.con b = some (.cells cs T fz) ∧ RepL (fun _ => none) as ((cs.toList.drop off).take as.length)
def RepL (V : Val) : List AVal → List Value → Prop
  | [], l => l = []
  | a :: as, l => ∃ v vs, l = v :: vs ∧ Rep V a v ∧ RepL V as vs
end

mutual
theorem Rep.mono {V V' : Val} (h : V.le V') : ∀ (a : AVal) (v : Value), Rep V a v → Rep V' a v
  | .bool _, _, r => r
  | .int _ _, _, r => r
  | .str _, _, r => r
  | .ptr _ _, _, ⟨b, k, hl, hv⟩ => ⟨b, k, h _ _ hl, hv⟩
  | .slice _ _ _ _, _, ⟨base, cap, hv, hc, r⟩ => ⟨base, cap, hv, hc, r.imp (fun ⟨b, k, hl, e⟩ => ⟨b, k, h _ _ hl, e⟩) id⟩
  | .map _, _, ⟨b, k, hl, hv⟩ => ⟨b, k, h _ _ hl, hv⟩
  | .func _ f c, _, ⟨fs, cs, hv, r, s⟩ => ⟨fs, cs, hv, RepL.mono h f _ r, RepL.mono h c _ s⟩
  | .iface _ a, _, ⟨x, hv, r⟩ => ⟨x, hv, Rep.mono h a _ r⟩
  | .agg as, _, ⟨cs, hv, r⟩ => ⟨cs, hv, RepL.mono h as _ r⟩
  | .tup as, _, ⟨cs, hv, r⟩ => ⟨cs, hv, RepL.mono h as _ r⟩
  | .raw _, _, r => r
  | .any, _, r => r
  | .top, _, r => r
  | .iview _ _, _, r => r
  | .view _ _ _, _, r => r
  | .tslice _ _ _ _, _, ⟨base, cap, hv, hc, r⟩ => ⟨base, cap, hv, hc, r.imp (fun ⟨b, k, hl, e⟩ => ⟨b, k, h _ _ hl, e⟩) id⟩
  | .tptr _ _ _ _, _, ⟨b, k, hl, hv⟩ => ⟨b, k, h _ _ hl, hv⟩
  | .empty, _, r => r
  | .cptr _, _, r => r
theorem RepL.mono {V V' : Val} (h : V.le V') : ∀ (a : List AVal) (v : List Value), RepL V a v → RepL V' a v
  | [], _, r => r
  | a :: as, _, ⟨v, vs, e, r, s⟩ => ⟨v, vs, e, Rep.mono h a v r, RepL.mono h as vs s⟩
end

theorem RepL.length {V : Val} : ∀ {a : List AVal} {v : List Value}, RepL V a v → v.length = a.length
  | [], _, r => by rw [r]; rfl
  | _ :: _, _, ⟨_, _, e, _, s⟩ => by rw [e]; simp [RepL.length s]

theorem RepL.get {V : Val} : ∀ {a : List AVal} {v : List Value} (_ : RepL V a v) (i : Nat) (x : AVal), a[i]? = some x → ∃ y, v[i]? = some y ∧ Rep V x y
  | [], _, _, i, x, h => by simp at h
  | a :: as, _, ⟨v, vs, e, r, s⟩, i, x, h => by
    subst e
    cases i with
    | zero => simp at h; subst h; exact ⟨v, by simp, r⟩
    | succ i => simp at h; obtain ⟨y, hy, hr⟩ := RepL.get s i x h; exact ⟨y, by simpa using hy, hr⟩

theorem RepL.append {V : Val} : ∀ {a b : List AVal} {v w : List Value}, RepL V a v → RepL V b w → RepL V (a ++ b) (v ++ w)
  | [], _, _, _, r, s => by rw [r]; exact s
  | _ :: _, _, _, _, ⟨v, vs, e, r, t⟩, s => ⟨v, _, by rw [e]; rfl, r, RepL.append t s⟩

theorem RepL.take {V : Val} : ∀ {a : List AVal} {v : List Value} (_ : RepL V a v) (n : Nat), RepL V (a.take n) (v.take n)
  | [], _, r, n => by rw [r]; simp [RepL]
  | a :: as, _, ⟨v, vs, e, r, s⟩, n => by
    subst e
    cases n with
    | zero => simp [RepL]
    | succ n => exact ⟨v, vs.take n, by simp, r, RepL.take s n⟩

theorem RepL.drop {V : Val} : ∀ {a : List AVal} {v : List Value} (_ : RepL V a v) (n : Nat), RepL V (a.drop n) (v.drop n)
  | [], _, r, n => by rw [r]; simp [RepL]
  | a :: as, _, ⟨v, vs, e, r, s⟩, n => by
    subst e
    cases n with
    | zero => exact ⟨v, vs, by simp, r, s⟩
    | succ n => simpa using RepL.drop s n

theorem RepL.set {V : Val} : ∀ {a : List AVal} {v : List Value} (_ : RepL V a v) (i : Nat) (x : AVal) (y : Value), Rep V x y → RepL V (a.set i x) (v.set i y)
  | [], _, r, i, x, y, _ => by rw [r]; simp [RepL]
  | a :: as, _, ⟨v, vs, e, r, s⟩, i, x, y, h => by
    subst e
    cases i with
    | zero => exact ⟨y, vs, by simp, h, s⟩
    | succ i => exact ⟨v, vs.set i y, by simp, r, RepL.set s i x y h⟩

def PHeap.emp : PHeap := fun _ => none
def PHeap.one (b : Nat) (o : Obj) : PHeap := fun x => if x = b then some o else none
def PHeap.sub (h : PHeap) (w : World) : Prop := ∀ b o, h b = some o → w.heap[b]? = some o
def PHeap.disj (h g : PHeap) : Prop := ∀ b, h b = none ∨ g b = none

theorem PHeap.disj.symm {h g : PHeap} (d : PHeap.disj h g) : PHeap.disj g h := fun b => (d b).symm
theorem PHeap.disj_emp (h : PHeap) : PHeap.disj h .emp := fun _ => .inr rfl
theorem PHeap.emp_sub (w : World) : PHeap.emp.sub w := fun _ _ h => by cases h

/-- a row's cells, by their codes -/
def rowVals : List Code1 → List Int → List Value
  | [], _ => []
  | k :: ks, xs => Code1.val k (xs.headD 0) :: rowVals ks xs.tail
def tabVals (ks : List Code1) (rows : List (List Int)) : List Value := (rows.map (rowVals ks)).flatten

/-- Entries: what stands at a label. -/
inductive Entry (A : Type) where
  | cells (vs : List AVal)
  | ints (c : Code1) (xs : List Int)
  | abs (t : A)
  | tab (ks : List Code1) (rows : List (List Int))
  | imap (kk : IntKind) (vc : Code1) (m : List (Int × Int))

variable {A : Type}

def Entry.interp (I : A → Nat → PHeap → Prop) (V : Val) (l : Nat) : Entry A → PHeap → Prop
  | .cells vs, h => ∃ b k, V l = some (b, k) ∧ ∃ cs T, h = .one b (.cells cs T) ∧ cs.size = k ∧ ∃ rs tail, cs.toList = rs ++ tail ∧ RepL V vs rs
  | .ints c xs, h => (xs = [] ∧ h = .emp ∧ ∃ b, V l = some (b, 0)) ∨ ∃ b k, V l = some (b, k) ∧ ∃ cs T tail, h = .one b (.cells cs T) ∧ cs.size = k ∧ cs.toList = xs.map c.val ++ tail
  | .abs t, h => ∃ b k, V l = some (b, k) ∧ I t b h
  | .tab ks rows, h => (rows = [] ∧ h = .emp ∧ ∃ b, V l = some (b, 0)) ∨ ∃ b k, V l = some (b, k) ∧ ∃ cs T tail, h = .one b (.cells cs T) ∧ cs.size = k ∧ cs.toList = tabVals ks rows ++ tail
  | .imap kk vc m, h => ∃ b k, V l = some (b, k) ∧ ∃ es clock, h = .one b (.map es clock) ∧ es.toList.map (fun e => (e.key, e.val)) = m.map (fun x => (Value.int kk x.1, Code1.val vc x.2))

theorem Entry.interp_mono {I : A → Nat → PHeap → Prop} {V V' : Val} (hV : V.le V') {l : Nat} {e : Entry A} {h : PHeap} (hi : e.interp I V l h) : e.interp I V' l h := by
  cases e with
  | cells vs =>
    obtain ⟨b, k, hl, cs, T, e1, e2, rs, tail, e3, r⟩ := hi
    exact ⟨b, k, hV _ _ hl, cs, T, e1, e2, rs, tail, e3, RepL.mono hV _ _ r⟩
  | ints c xs =>
    rcases hi with ⟨e1, e2, b, hl⟩ | ⟨b, k, hl, r⟩
    · exact .inl ⟨e1, e2, b, hV _ _ hl⟩
    · exact .inr ⟨b, k, hV _ _ hl, r⟩
  | abs t =>
    obtain ⟨b, k, hl, r⟩ := hi
    exact ⟨b, k, hV _ _ hl, r⟩
  | tab ks rows =>
    rcases hi with ⟨e1, e2, b, hl⟩ | ⟨b, k, hl, r⟩
    · exact .inl ⟨e1, e2, b, hV _ _ hl⟩
    · exact .inr ⟨b, k, hV _ _ hl, r⟩
  | imap kk vc m =>
    obtain ⟨b, k, hl, r⟩ := hi
    exact ⟨b, k, hV _ _ hl, r⟩

/-- heaps of entries, by label -/
abbrev FHeap (A : Type) := Nat → Option (Entry A)

/-- the frame: it is there, and holds what nobody writes -/
def hRok (hR : PHeap) (w : World) : Prop := hR.sub w ∧ ∀ b o, Con.con b = some o → hR b = some o

/-- the world w holds the entries of h (under V), each apart from the others, and hR beside them -/
def Inv (I : A → Nat → PHeap → Prop) (V : Val) (h : FHeap A) (hR : PHeap) (w : World) : Prop :=
  ∃ hs : Nat → PHeap, (∀ l e, h l = some e → e.interp I V l (hs l)) ∧ (∀ l, h l = none → hs l = .emp) ∧
    (∀ l m, l ≠ m → (hs l).disj (hs m)) ∧ (∀ l, (hs l).disj hR) ∧ (∀ l, (hs l).sub w) ∧ hRok hR w

/-- nothing but blocks has changed -/
structure Grows (w w' : World) : Prop where
  os : w'.os = w.os
  output : w'.output = w.output
  size : w.heap.size ≤ w'.heap.size
  frz : ∀ a, w'.frozen? a = w.frozen? a

theorem frozen_alloc (w : World) (c : Array Value) (t : TypeId) (a : Addr) : (w.alloc (.cells c t)).frozen? a = w.frozen? a := by
  unfold World.frozen? World.alloc
  simp only [Array.getElem?_push]
  by_cases h : a.block = w.heap.size
  · have e : w.heap[a.block]? = none := by rw [h]; simp
    rw [if_pos h, e]; simp
  · rw [if_neg h]
theorem Grows.refl (w : World) : Grows w w := ⟨rfl, rfl, Nat.le_refl _, fun _ => rfl⟩
theorem Grows.trans {a b c : World} (h : Grows a b) (k : Grows b c) : Grows a c := ⟨k.os.trans h.os, k.output.trans h.output, Nat.le_trans h.size k.size, fun x => (k.frz x).trans (h.frz x)⟩
theorem Grows.drew {a b : World} (h : Grows a b) (n : Nat) : Grows a { b with drawn := n } := ⟨h.os, h.output, h.size, h.frz⟩

theorem Inv.mono {I : A → Nat → PHeap → Prop} {V V' : Val} {h : FHeap A} {hR : PHeap} {w : World} (hV : V.le V') (hi : Inv I V h hR w) : Inv I V' h hR w := by
  obtain ⟨hs, h1, h2, h3, h4, h5, h6⟩ := hi
  exact ⟨hs, fun l e he => Entry.interp_mono hV (h1 l e he), h2, h3, h4, h5, h6⟩

theorem Inv.drew {I : A → Nat → PHeap → Prop} {V : Val} {h : FHeap A} {hR : PHeap} {w : World} (n : Nat) (hi : Inv I V h hR w) : Inv I V h hR { w with drawn := n } := by
  obtain ⟨hs, h1, h2, h3, h4, h5, h6⟩ := hi
  exact ⟨hs, h1, h2, h3, h4, h5, h6⟩

theorem Val.le_refl (V : Val) : V.le V := fun _ _ h => h
theorem Val.le_trans {a b c : Val} (h : a.le b) (k : b.le c) : a.le c := fun l x e => k l x (h l x e)

/-- a label more -/
def Val.add (V : Val) (l : Nat) (x : Nat × Nat) : Val := fun m => if m = l then some x else V m
theorem Val.le_add {V : Val} {l : Nat} {x : Nat × Nat} (h : V l = none) : V.le (V.add l x) := by
  intro m y e
  unfold Val.add
  split
  · rename_i hm; subst hm; rw [h] at e; cases e
  · exact e
theorem Val.add_self (V : Val) (l : Nat) (x : Nat × Nat) : V.add l x l = some x := by simp [Val.add]
theorem Val.add_ne (V : Val) {l m : Nat} (x : Nat × Nat) (h : m ≠ l) : V.add l x m = V m := by simp [Val.add, h]

def FHeap.put (h : FHeap A) (l : Nat) (e : Option (Entry A)) : FHeap A := fun m => if m = l then e else h m

end Go.Sh
