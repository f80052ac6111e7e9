/- The small-heap evaluator, part 3: one operation. -/
import Derived.Test.YtjklokfpnbnndaaZSh2
import Derived.Test.YtjklokfpnbnndaaZSh0
import Derived.Laws.StructEq
import Derived.Laws.Build
import Derived.Laws.Rows
set_option linter.all false
namespace Go.Sh
open Go
variable {A : Type} {I : A → Nat → PHeap → Prop}

abbrev Heap (A : Type) := List (Option (Entry A))
def hget (h : Heap A) (l : Nat) : Option (Entry A) := h.getD l none
def toF (h : Heap A) : FHeap A := fun l => hget h l

structure ORes (A : Type) where
  v : AVal
  upd : List (Nat × Option (Entry A))
  new : List (Entry A)
  foot : List Nat
  need : Option Prop

/-- conditions, where there are any -/
abbrev onp : Option Prop → Prop
  | none => True
  | some p => p
def ORes.obl (r : ORes A) : Prop := onp r.need
def oand : Option Prop → Prop → Prop
  | none, q => q
  | some p, q => p ∧ q
theorem oand_iff {p : Option Prop} {q : Prop} : oand p q ↔ onp p ∧ q := by
  cases p with
  | none => exact ⟨fun h => ⟨trivial, h⟩, fun h => h.2⟩
  | some p => exact Iff.rfl
def onlyIf (b : Bool) (q : Prop) : Prop := cond b q False
theorem onlyIf_iff {b : Bool} {q : Prop} : onlyIf b q ↔ b = true ∧ q := by
  cases b with
  | true => exact ⟨fun h => ⟨rfl, h⟩, fun h => h.2⟩
  | false => exact ⟨fun h => h.elim, fun h => Bool.noConfusion h.1⟩
def oalso : Option Prop → Prop → Option Prop
  | none, q => some q
  | some p, q => some (p ∧ q)
theorem oalso_iff {p : Option Prop} {q : Prop} : onp (oalso p q) ↔ onp p ∧ q := by
  cases p with
  | none => exact ⟨fun h => ⟨trivial, h⟩, fun h => h.2⟩
  | some p => exact Iff.rfl

def hupd (h : Heap A) (u : List (Nat × Option (Entry A))) : Heap A := u.foldl (fun h x => h.set x.1 x.2) h
def ORes.apply (r : ORes A) (h : Heap A) : Heap A := hupd h r.upd ++ r.new.map some

/-- the same, nothing laid over a heap that stays -/
def ORes.applyF (r : ORes A) (h : Heap A) : Heap A := match r.upd, r.new with
  | [], [] => h
  | u, [] => hupd h u
  | u, n => hupd h u ++ n.map some
theorem applyF_eq (r : ORes A) (h : Heap A) : r.applyF h = r.apply h := by
  obtain ⟨v, upd, new, foot, need⟩ := r
  cases upd <;> cases new <;> simp [ORes.applyF, ORes.apply, hupd]

def ofCell : Value → AVal
  | .bool b => .bool b
  | .int k n => .int k n
  | .string s => .str s
  | v => .raw v
def ofVal : Value → AVal
  | .agg cs => .agg (cs.toList.map ofCell)
  | .bool b => .bool b
  | .int k n => .int k n
  | .string s => .str s
  | .func fn fs cs => .func fn (fs.toList.map ofCell) (cs.toList.map ofCell)
  | v => .raw v

def AVal.cells : AVal → List AVal
  | .agg cs => cs
  | .raw v => v.cells.toList.map .raw
  | a => [a]
def AVal.told : AVal → Bool
  | .top => false
  | _ => true
def AVal.atom : AVal → Bool
  | .top => false
  | .agg _ => false
  | .tup _ => false
  | .raw v => v.oneCell'
  | _ => true

def aeval (tm : List AVal) : Operand → AVal
  | .tmp t => tm.getD t (.raw undef)
  | .const v => ofVal v
  | .global g => .raw (.pointer (some ⟨g, 0, none⟩))
  | .func f => .func (.func f) [] []

def aisAgg (P : Program) (t : TypeId) : Option Bool :=
  match P.underlying t with
  | some (.struct _) => some true
  | some (.array _ _) => some true
  | some _ => some false
  | none => none
def asize (P : Program) (t : TypeId) : Option Nat := (P.info? t).map (·.size)

def apart (P : Program) (t : TypeId) (cs : List AVal) (off : Nat) : Option AVal :=
  match aisAgg P t, asize P t with
  | some true, some n => some (.agg ((cs.drop off).take n))
  | some false, _ => cs[off]?
  | _, _ => none

/-- cells put over others -/
def over : List AVal → Nat → List AVal → List AVal
  | cs, _, [] => cs
  | cs, off, x :: xs => over (cs.set off x) (off + 1) xs

def afill (place : Nat → Option (Nat × Nat)) (cells : List AVal) : List (Nat × AVal) → Option (List AVal)
  | [] => some cells
  | (i, v) :: rest =>
    match place i with
    | none => none
    | some (off, size) =>
      if (v.cells.length = size ∧ off + v.cells.length ≤ cells.length) ∧ v.told = true then afill place (over cells off v.cells) rest else none

def fieldPlaces (P : Program) (fs : Array Field) (i : Nat) : Option (Nat × Nat) :=
  match fs[i]? with
  | some f => (asize P f.type).map fun n => (f.offset, n)
  | none => none

def ORes.pure (v : AVal) : ORes A := { v, upd := [], new := [], foot := [], need := none }
def ORes.pureIf (v : AVal) (p : Option Prop) : ORes A := { v, upd := [], new := [], foot := [], need := p }

/-- the fields of a struct, compared one by one -/
def aeqF (P : Program) (rec : TypeId → AVal → AVal → Option Bool) (xs ys : List AVal) : List Field → Option Bool
  | [] => some true
  | f :: fs =>
    if f.name = "_" then aeqF P rec xs ys fs else
    match apart P f.type xs f.offset, apart P f.type ys f.offset with
    | some a, some b =>
      match rec f.type a b with
      | some r => match aeqF P rec xs ys fs with
        | some q => some (r && q)
        | none => none
      | none => none
    | _, _ => none
def aeq (P : Program) : Nat → TypeId → AVal → AVal → Option Bool
  | 0, _, _, _ => none
  | d + 1, t, x, y =>
    match P.underlying t, x, y with
    | some .bool, .bool a, .bool b => some (cond a b (!b))
    | some (.int _), .int k a, .int k' b => if k = k' then some (ieq a b) else none
    | some .string, .str a, .str b => some (seq a b)
    | some (.pointer _), .raw (.pointer none), .raw (.pointer none) => some true
    | some (.pointer _), .raw (.pointer none), .ptr _ _ => some false
    | some (.pointer _), .ptr _ _, .raw (.pointer none) => some false
    | some (.struct fs), .agg xs, .agg ys =>
      if P.stoodInHeld t then none else aeqF P (aeq P d) xs ys fs.toList
    | _, _, _ => none

def abin (P : Program) (op : BinOp) (t : TypeId) (x y : AVal) : Option (AVal × Option Prop) :=
  match x, y with
  | .int k a, .int k' b =>
    match op with
    | .shl => some (.int k (k.wrap (a * 2 ^ (min b.toNat k.bits))), some (0 ≤ b))
    | .shr => some (.int k (a.fdiv (2 ^ (min b.toNat k.bits))), some (0 ≤ b))
    | .add => if k = k' then some (.int k (k.wrap (a + b)), none) else none
    | .sub => if k = k' then some (.int k (k.wrap (a - b)), none) else none
    | .mul => if k = k' then some (.int k (k.wrap (a * b)), none) else none
    | .quo => if k = k' then some (.int k (k.wrap (a.tdiv b)), some (b ≠ 0)) else none
    | .rem => if k = k' then some (.int k (a.tmod b), some (b ≠ 0)) else none
    | .and => if k = k' then some (.int k (k.wrap (BitVec.ofInt k.bits a &&& BitVec.ofInt k.bits b).toNat), none) else none
    | .or => if k = k' then some (.int k (k.wrap (BitVec.ofInt k.bits a ||| BitVec.ofInt k.bits b).toNat), none) else none
    | .xor => if k = k' then some (.int k (k.wrap (BitVec.ofInt k.bits a ^^^ BitVec.ofInt k.bits b).toNat), none) else none
    | .andNot => if k = k' then some (.int k (k.wrap (BitVec.ofInt k.bits a &&& ~~~ BitVec.ofInt k.bits b).toNat), none) else none
    | .eql => if k = k' then some (.bool (ieq a b), none) else none
    | .neq => if k = k' then some (.bool (!ieq a b), none) else none
    | .lss => if k = k' then some (.bool (ilt a b), none) else none
    | .leq => if k = k' then some (.bool (ile a b), none) else none
    | .gtr => if k = k' then some (.bool (ilt b a), none) else none
    | .geq => if k = k' then some (.bool (ile b a), none) else none
  | .str a, .str b =>
    match op with
    | .add => some (.str (a ++ b), some (a.size + b.size ≤ 9223372036854775807))
    | .eql => some (.bool (seq a b), none)
    | .neq => some (.bool (!(seq a b)), none)
    | _ => none
  | x, y =>
    if P.eqGuardType P.depth t = true then none else
    match op with
    | .eql => (aeq P 50 t x y).map fun r => (.bool r, none)
    | .neq => (aeq P 50 t x y).map fun r => (.bool (!r), none)
    | _ => none

/-- a row's cells, told -/
def rowA : List Code1 → List Int → List AVal
  | [], _ => []
  | k :: ks, xs => Code1.aval k (xs.headD 0) :: rowA ks xs.tail
/-- numbers put into a row -/
def rowPut (w : Nat) (row : List Int) (j : Nat) (ns : List Int) : List Int :=
  (List.range w).map fun i => if j ≤ i ∧ i < j + ns.length then ns.getD (i - j) 0 else row.getD i 0

def fromCode : Code1 → AVal → Option Int
  | some k, .int k' n => if k = k' then some n else none
  | none, .bool b => some (cond b 1 0)
  | _, _ => none

def rowOf : List Code1 → List AVal → Option (List Int)
  | [], [] => some []
  | k :: ks, v :: vs => match fromCode k v, rowOf ks vs with
    | some n, some ns => some (n :: ns)
    | _, _ => none
  | _, _ => none
def rowsOf (ks : List Code1) : Nat → List AVal → Option (List (List Int))
  | 0, [] => some []
  | 0, _ :: _ => none
  | n + 1, vs => match rowOf ks (vs.take ks.length), rowsOf ks n (vs.drop ks.length) with
    | some r, some rs => some (r :: rs)
    | _, _ => none

def aloadT (P : Program) (t : TypeId) (l r w j : Nat) (h : Heap A) : Option (ORes A) :=
  match hget h l, aisAgg P t, asize P t with
  | some (.tab ks rows), some true, some n =>
    if ks.length = w ∧ j + n ≤ w then some { v := .agg (((rowA ks (rows.getD r [])).drop j).take n), upd := [], new := [], foot := [l], need := some (r < rows.length) } else none
  | some (.tab ks rows), some false, _ =>
    if ks.length = w then
      match (rowA ks (rows.getD r []))[j]? with
      | some v => some { v, upd := [], new := [], foot := [l], need := some (r < rows.length) }
      | none => none
    else none
  | _, _, _ => none
def astoreT (P : Program) (t : TypeId) (l r w j : Nat) (x : AVal) (h : Heap A) : Option (ORes A) :=
  match hget h l with
  | some (.tab ks rows) =>
    if asize P t = some x.cells.length ∧ ks.length = w ∧ j + x.cells.length ≤ w then
      match rowOf ((ks.drop j).take x.cells.length) x.cells with
      | some ns => some { v := .raw undef, upd := [(l, some (.tab ks (rows.set r (rowPut w (rows.getD r []) j ns))))], new := [], foot := [l], need := some (r < rows.length) }
      | none => none
    else none
  | _ => none

def aload (P : Program) (t : TypeId) (l off : Nat) (h : Heap A) : Option (ORes A) :=
  match hget h l, aisAgg P t, asize P t with
  | some (.cells vs), some true, some n =>
    if off + n ≤ vs.length then some { v := .agg ((vs.drop off).take n), upd := [], new := [], foot := [l], need := none } else none
  | some (.cells vs), some false, _ =>
    match vs[off]? with
    | some v => some { v, upd := [], new := [], foot := [l], need := none }
    | none => none
  | some (.ints c xs), some false, _ => some { v := c.aval (xs.getD off 0), upd := [], new := [], foot := [l], need := some (off < xs.length) }
  | _, _, _ => none

def astore (P : Program) (t : TypeId) (l off : Nat) (x : AVal) (h : Heap A) : Option (ORes A) :=
  match hget h l with
  | some (.cells vs) =>
    if asize P t = some x.cells.length ∧ x.cells.all AVal.atom = true ∧ off + x.cells.length ≤ vs.length then
      some { v := .raw undef, upd := [(l, some (.cells (over vs off x.cells)))], new := [], foot := [l], need := none }
    else none
  | some (.ints c xs) =>
    if asize P t = some 1 then
      match fromCode c x with
      | some n => some { v := .raw undef, upd := [(l, some (.ints c (xs.set off n)))], new := [], foot := [l], need := some (off < xs.length) }
      | none => none
    else none
  | _ => none

def aindexAddr (P : Program) (t : TypeId) (x i : AVal) : Option (AVal × Option Prop) :=
  match P.underlying t, x, i with
  | some (.slice e), .slice l off len _, .int _ n =>
    match asize P e with
    | some s => some (.ptr l (off + n.toNat * s), some (0 ≤ n ∧ n < len))
    | none => none
  | some (.array len e), .ptr l off, .int _ n =>
    match asize P e with
    | some s => some (.ptr l (off + n.toNat * s), some (0 ≤ n ∧ n < len))
    | none => none
  | some (.slice e), .iview c xs, .int _ n => if asize P e = some 1 then some (.cptr [Code1.aval c (xs.getD n.toNat 0)], some (0 ≤ n ∧ n < xs.length)) else none
  | some (.slice e), .view m w row, .int _ n => if asize P e = some w then some (.cptr (row n.toNat), some (0 ≤ n ∧ n < m)) else none
  | some (.slice e), .tslice l r m w, .int _ n => if asize P e = some w then some (.tptr l (r + n.toNat) w 0, some (0 ≤ n ∧ n < m)) else none
  | some (.array len e), .tptr l r w j, .int _ n =>
    match asize P e with
    | some s => some (.tptr l r w (j + n.toNat * s), some (0 ≤ n ∧ n < len))
    | none => none
  | some (.array len e), .cptr cs, .int _ n =>
    match asize P e with
    | some s => some (.cptr (cs.drop (n.toNat * s)), some (0 ≤ n ∧ n < len))
    | none => none
  | _, _, _ => none

/-- cells that nobody writes, read -/
def aloadC (P : Program) (t : TypeId) (cs : List AVal) : Option AVal :=
  match aisAgg P t, asize P t with
  | some true, some n => if n ≤ cs.length then some (.agg (cs.take n)) else none
  | some false, _ => cs[0]?
  | _, _ => none

def aindex (P : Program) (t : TypeId) (x i : AVal) : Option (AVal × Option Prop) :=
  match P.underlying t, x, i with
  | some (.array len e), .agg cs, .int _ n =>
    match asize P e with
    | some s => (apart P e cs (n.toNat * s)).map fun v => (v, some (0 ≤ n ∧ n < len))
    | none => none
  | some .string, .str s, .int _ n => some (.int .u8 ((s.data.getD n.toNat 0).toNat : Int), some (0 ≤ n ∧ n.toNat < s.size))
  | _, _, _ => none

def AVal.isSlice : AVal → Bool
  | .slice _ _ _ _ => true
  | .tslice _ _ _ _ => true
  | .iview _ _ => true
  | .view _ _ _ => true
  | .empty => true
  | .raw (.slice none 0 0) => true
  | _ => false
def aslice (P : Program) (t : TypeId) (x : AVal) (lo hi mx : Option AVal) : Option (AVal × Option Prop) :=
  match P.underlying t, x, mx with
  | some (.slice e), x, some (.int _ m) =>
    match asize P e, lo, hi with
    | some _, none, some (.int _ b) => if x.isSlice = true then some (.empty, some (b = 0 ∧ m = 0)) else none
    | _, _, _ => none
  | some (.slice e), .tslice l r n w, none =>
    if asize P e = some w then
      match lo, hi with
      | none, none => some (.tslice l r n w, none)
      | some (.int _ a), none => some (.tslice l (r + a.toNat) (n - a.toNat) w, some (0 ≤ a ∧ a.toNat ≤ n))
      | none, some (.int _ b) => some (.tslice l r b.toNat w, some (0 ≤ b ∧ b.toNat ≤ n))
      | some (.int _ a), some (.int _ b) => some (.tslice l (r + a.toNat) (b.toNat - a.toNat) w, some (0 ≤ a ∧ a.toNat ≤ b.toNat ∧ 0 ≤ b ∧ b.toNat ≤ n))
      | _, _ => none
    else none
  | some (.slice e), .slice l off len sz, none =>
    match asize P e, lo, hi with
    | some s, none, none => if s = sz then some (.slice l off len sz, none) else none
    | some s, some (.int _ a), none => if s = sz then some (.slice l (off + a.toNat * sz) (len - a.toNat) sz, some (0 ≤ a ∧ a.toNat ≤ len)) else none
    | some s, none, some (.int _ b) => if s = sz then some (.slice l off b.toNat sz, some (0 ≤ b ∧ b.toNat ≤ len)) else none
    | some s, some (.int _ a), some (.int _ b) => if s = sz then some (.slice l (off + a.toNat * sz) (b.toNat - a.toNat) sz, some (0 ≤ a ∧ a.toNat ≤ b.toNat ∧ 0 ≤ b ∧ b.toNat ≤ len)) else none
    | _, _, _ => none
  | some (.slice e), .iview c xs, none =>
    if asize P e = some 1 then
      match lo, hi with
      | none, none => some (.iview c xs, none)
      | some (.int _ a), none => some (.iview c (xs.drop a.toNat), some (0 ≤ a ∧ a.toNat ≤ xs.length))
      | none, some (.int _ b) => some (.iview c (xs.take b.toNat), some (0 ≤ b ∧ b.toNat ≤ xs.length))
      | some (.int _ a), some (.int _ b) => some (.iview c ((xs.take b.toNat).drop a.toNat), some (0 ≤ a ∧ a.toNat ≤ b.toNat ∧ 0 ≤ b ∧ b.toNat ≤ xs.length))
      | _, _ => none
    else none
  | some (.slice e), .view m w row, none =>
    if asize P e = some w then
      match lo, hi with
      | none, none => some (.view m w row, none)
      | some (.int _ a), none => some (.view (m - a.toNat) w (fun i => row (a.toNat + i)), some (0 ≤ a ∧ a.toNat ≤ m))
      | none, some (.int _ b) => some (.view b.toNat w row, some (0 ≤ b ∧ b.toNat ≤ m))
      | some (.int _ a), some (.int _ b) => some (.view (b.toNat - a.toNat) w (fun i => row (a.toNat + i)), some (0 ≤ a ∧ a.toNat ≤ b.toNat ∧ 0 ≤ b ∧ b.toNat ≤ m))
      | _, _ => none
    else none
  | some .string, .str s, none =>
    match lo, hi with
    | none, none => some (.str (s.extract 0 s.size), none)
    | some (.int _ a), none => some (.str (s.extract a.toNat s.size), some (0 ≤ a ∧ a.toNat ≤ s.size))
    | none, some (.int _ b) => some (.str (s.extract 0 b.toNat), some (0 ≤ b ∧ b.toNat ≤ s.size))
    | some (.int _ a), some (.int _ b) => some (.str (s.extract a.toNat b.toNat), some (0 ≤ a ∧ a.toNat ≤ b.toNat ∧ 0 ≤ b ∧ b.toNat ≤ s.size))
    | _, _ => none
  | _, _, _ => none

/-- an array variable sliced whole (or in part) -/
def asliceArr (P : Program) (t : TypeId) (x : AVal) (lo hi mx : Option AVal) (h : Heap A) : Option (ORes A) :=
  match P.underlying t, x, mx with
  | some (.array n e), .ptr l off, none =>
    match asize P e, hget h l with
    | some s, some (.cells vs) =>
      if off + n * s ≤ vs.length then
        match lo, hi with
        | none, none => some { v := .slice l off n s, upd := [], new := [], foot := [l], need := none }
        | none, some (.int _ b) => some { v := .slice l off b.toNat s, upd := [], new := [], foot := [l], need := some (0 ≤ b ∧ b.toNat ≤ n) }
        | some (.int _ a), none => some { v := .slice l (off + a.toNat * s) (n - a.toNat) s, upd := [], new := [], foot := [l], need := some (0 ≤ a ∧ a.toNat ≤ n) }
        | _, _ => none
      else none
    | _, _ => none
  | _, _, _ => none

def aconv (P : Program) (src dst : TypeId) (x : AVal) : Option AVal :=
  match P.underlying src, P.underlying dst, x with
  | some _, some (.int k), .int _ n => some (.int k (k.wrap n))
  | some _, some .string, .str s => some (.str s)
  | _, _, _ => none

def aun (op : UnOp) (x : AVal) : Option AVal :=
  match op, x with
  | .not, .bool b => some (.bool !b)
  | .neg, .int k n => some (.int k (k.wrap (0 - n)))
  | _, _ => none

def apick (c x y : AVal) : Option AVal :=
  match c, x, y with
  | .bool b, .bool p, .bool q => some (.bool (cond b p q))
  | .bool b, x, y => some (cond b x y)
  | _, _, _ => none

def anilCheck (x : AVal) : Option AVal :=
  match x with
  | .ptr l off => some (.ptr l off)
  | .cptr cs => some (.cptr cs)
  | .tptr l r w j => some (.tptr l r w j)
  | .iface t v => some (.iface t v)
  | .func (.func f) a b => some (.func (.func f) a b)
  | _ => none

def azero (P : Program) (t : TypeId) : Option AVal := ((P.info? t).bind (·.zero)).map ofVal

def abuild (P : Program) (t : TypeId) (parts : List (Nat × AVal)) : Option AVal :=
  match azero P t, P.underlying t with
  | some z, some (.struct fs) => if fs.toList.all (fun f => (asize P f.type).isSome) = true then (afill (fieldPlaces P fs) z.cells parts).map .agg else none
  | some z, some (.array _ e) =>
    match asize P e with
    | some s => (afill (fun i => some (i * s, s)) z.cells parts).map .agg
    | none => none
  | _, _ => none

def abuildSlice (P : Program) (t : TypeId) (len : Nat) (parts : List (Nat × AVal)) (h : Heap A) : Option (ORes A) :=
  match P.underlying t with
  | some (.slice e) =>
    match asize P e, azero P e with
    | some s, some z =>
      if len * s ≤ 16777216 ∧ z.cells.length = s ∧ 0 < s then
        match afill (fun i => some (i * s, s)) ((List.range (len * s)).map fun j => z.cells.getD (j % s) (.raw undef)) parts with
        | some cs => some { v := .slice h.length 0 len s, upd := [], new := [.cells cs], foot := [], need := none }
        | none => none
      else none
    | _, _ => none
  | _ => none

def aofPure (r : Option (AVal × Option Prop)) : Option (ORes A) := r.map fun x => ORes.pureIf x.1 x.2
def aofVal (r : Option AVal) : Option (ORes A) := r.map fun x => ORes.pure x

def afieldAddr (P : Program) (s : TypeId) (x : AVal) (f : Nat) : Option AVal :=
  match P.underlying s, x with
  | some (.struct fs), .ptr l off =>
    match fs[f]? with
    | some fd => match asize P fd.type with
      | some (_ + 1) => some (.ptr l (off + fd.offset))
      | _ => none
    | none => none
  | some (.struct fs), .cptr cs =>
    match fs[f]? with
    | some fd => match asize P fd.type with
      | some (_ + 1) => some (.cptr (cs.drop fd.offset))
      | _ => none
    | none => none
  | some (.struct fs), .tptr l r w j =>
    match fs[f]? with
    | some fd => match asize P fd.type with
      | some (_ + 1) => some (.tptr l r w (j + fd.offset))
      | _ => none
    | none => none
  | _, _ => none

def afield (P : Program) (s : TypeId) (x : AVal) (f : Nat) : Option AVal :=
  match P.underlying s, x with
  | some (.struct fs), .agg cs =>
    match fs[f]? with
    | some fd => apart P fd.type cs fd.offset
    | none => none
  | _, _ => none

def isNilSlice : AVal → Bool
  | .raw (.slice none 0 0) => true
  | _ => false

def aminmax (lt : Int → Int → Bool) : AVal → List AVal → Option AVal
  | .int k n, [] => some (.int k n)
  | .int k n, .int k' m :: rest => if k = k' then aminmax lt (.int k (cond (lt m n) m n)) rest else none
  | _, _ => none

/-- cells as numbers of a long row -/
def toCodes (c : Code1) : List AVal → Option (List Int)
  | [] => some []
  | x :: xs => match fromCode c x, toCodes c xs with
    | some n, some ns => some (n :: ns)
    | _, _ => none

/-- what is appended, seen as an entry, and under which condition; the labels that are looked at -/
def asource (x : AVal) (sz : Nat) (h : Heap A) : Option (Entry A × Nat × List Nat × Option Prop) :=
  match x with
  | .slice l off n s =>
    if s = sz then
      match hget h l with
      | some (.ints c xs) => if sz = 1 then some (.ints c ((xs.drop off).take n), n, [l], some (off + n ≤ xs.length)) else none
      | some (.cells vs) => if off + n * sz ≤ vs.length ∧ ((vs.drop off).take (n * sz)).all AVal.atom = true then some (.cells ((vs.drop off).take (n * sz)), n, [l], none) else none
      | _ => none
    else none
  | .iview c xs => if sz = 1 then some (.ints c xs, xs.length, [], none) else none
  | .tslice l r n w => if w = sz then
      match hget h l with
      | some (.tab ks rows) => if ks.length = w then some (.tab ks ((rows.drop r).take n), n, [l], some (r + n ≤ rows.length)) else none
      | _ => none
    else none
  | .empty => some (.cells [], 0, [], none)
  | x => if isNilSlice x then some (.cells [], 0, [], none) else none

/-- two rows, one behind the other -/
def ajoin : Entry A → Entry A → Option (Entry A)
  | .ints c xs, .ints c' ys => if c = c' then some (.ints c (xs ++ ys)) else none
  | .ints c xs, .cells vs => (toCodes c vs).map fun ys => .ints c (xs ++ ys)
  | .cells vs, .ints c ys => (toCodes c vs).map fun xs => .ints c (xs ++ ys)
  | .cells vs, .cells ws => some (.cells (vs ++ ws))
  | .tab ks xs, .tab ks' ys => if ks = ks' then some (.tab ks (xs ++ ys)) else none
  | .tab ks xs, .cells vs => (rowsOf ks (vs.length / ks.length) vs).map fun ys => .tab ks (xs ++ ys)
  | _, _ => none

def aappend (P : Program) (st xt : TypeId) (s x : AVal) (h : Heap A) : Option (ORes A) :=
  match P.underlying st, P.underlying xt with
  | some (.slice e), some (.slice _) =>
    match P.info? e with
    | some i =>
      if 0 < i.size ∧ i.bytes ≤ 4096 ∧ (i.zero.map fun z => (ofVal z).cells.length) = some i.size then
        match asource x i.size h with
        | some (ey, m, lx, p) =>
          match s with
          | .slice l off n sz =>
            if sz = i.size ∧ lx.contains l = false then
              match hget h l with
              | some (.ints c xs) =>
                match ajoin (.ints c xs) ey with
                | some e' => some { v := .slice h.length 0 (n + m) sz, upd := [(l, none)], new := [e'], foot := l :: lx, need := oalso p (off = 0 ∧ n = xs.length ∧ sz = 1 ∧ n + m ≤ 4294967296) }
                | none => none
              | some (.cells vs) =>
                if off = 0 ∧ n * sz = vs.length then
                  match ajoin (.cells vs) ey with
                  | some e' => some { v := .slice h.length 0 (n + m) sz, upd := [(l, none)], new := [e'], foot := l :: lx, need := oalso p (n + m ≤ 4294967296) }
                  | none => none
                else none
              | _ => none
            else none
          | .tslice l r n w =>
            if w = i.size ∧ lx.contains l = false then
              match hget h l with
              | some (.tab ks rows) =>
                if ks.length = w then
                  match ajoin (.tab ks rows) ey with
                  | some e' => some { v := .tslice h.length 0 (n + m) w, upd := [(l, none)], new := [e'], foot := l :: lx, need := oalso p (r = 0 ∧ n = rows.length ∧ n + m ≤ 4294967296) }
                  | none => none
                else none
              | _ => none
            else none
          | .empty =>
              match ey with
              | .cells [] => some { v := .empty, upd := [], new := [], foot := lx, need := oalso p (m = 0) }
              | .tab ks ys => if ks.length = i.size then some { v := .tslice h.length 0 m i.size, upd := [], new := [.tab ks ys], foot := lx, need := oalso p (m ≤ 4294967296) } else none
              | ey => some { v := .slice h.length 0 m i.size, upd := [], new := [ey], foot := lx, need := oalso p (m ≤ 4294967296) }
          | s => if isNilSlice s then
              match ey with
              | .cells [] => some { v := .raw (.slice none 0 0), upd := [], new := [], foot := lx, need := oalso p (m = 0) }
              | .tab ks ys => if ks.length = i.size then some { v := .tslice h.length 0 m i.size, upd := [], new := [.tab ks ys], foot := lx, need := oalso p (m ≤ 4294967296) } else none
              | ey => some { v := .slice h.length 0 m i.size, upd := [], new := [ey], foot := lx, need := oalso p (m ≤ 4294967296) }
            else none
        | none => none
      else none
    | none => none
  | _, _ => none

def alen (P : Program) (t : TypeId) (x : AVal) : Option AVal :=
  match P.underlying t, x with
  | some .string, .str s => some (.int .i64 (s.size : Int))
  | some (.slice _), .slice _ _ n _ => some (.int .i64 (n : Int))
  | some (.slice _), .raw (.slice _ n _) => some (.int .i64 (n : Int))
  | some (.slice _), .iview _ xs => some (.int .i64 (xs.length : Int))
  | some (.slice _), .view n _ _ => some (.int .i64 (n : Int))
  | some (.slice _), .tslice _ _ n _ => some (.int .i64 (n : Int))
  | some (.slice _), .empty => some (.int .i64 0)
  | some (.array n _), _ => some (.int .i64 (n : Int))
  | _, _ => none

/-- numbers put over others in a row -/
def overI (xs : List Int) (off : Nat) (ys : List Int) : List Int := xs.take off ++ ys ++ xs.drop (off + ys.length)

def acopy (P : Program) (dt : TypeId) (d x : AVal) (h : Heap A) : Option (ORes A) :=
  match P.underlying dt with
  | some (.slice e) =>
    match asize P e, d with
    | some 1, .slice l off n 1 =>
      match hget h l, asource x 1 h with
      | some (.ints c xs), some (.ints c' ys, m, lx, p) =>
        if c = c' ∧ lx.contains l = false then
          some { v := .int .i64 (min m n : Nat), upd := [(l, some (.ints c (overI xs off (ys.take (min m n)))))], new := [], foot := l :: lx, need := oalso p (off + n ≤ xs.length) }
        else none
      | some (.ints _ _), some (.cells [], 0, _, _) => some { v := .int .i64 0, upd := [], new := [], foot := [l], need := none }
      | _, _ => none
    | _, _ => none
  | _ => none

def abuiltin (P : Program) (b : Builtin) (ts : List TypeId) (xs : List AVal) (h : Heap A) : Option (ORes A) :=
  match b, ts, xs with
  | .len, [t], [x] => aofVal (alen P t x)
  | .min, _, x :: xs => aofVal (aminmax (fun m n => ilt m n) x xs)
  | .max, _, x :: xs => aofVal (aminmax (fun m n => ilt n m) x xs)
  | .append, [st, xt], [s, x] => aappend P st xt s x h
  | .copy, [dt, _], [d, x] => acopy P dt d x h
  | _, _, _ => none

/-- the kind of a row's cells, by their zero -/
def codeOf : Value → Option Code1
  | .int k 0 => some (some k)
  | .bool false => some none
  | _ => none

def amakeSlice (P : Program) (t : TypeId) (n m : AVal) (h : Heap A) : Option (ORes A) :=
  match P.underlying t, n, m with
  | some (.slice e), .int _ n, .int _ m =>
    match P.info? e with
    | some i =>
      if i.bytes ≤ 4096 ∧ 0 < i.size then
        match i.zero with
        | some z =>
          match codeOf z with
          | some c => if i.size = 1 then some { v := .slice h.length 0 n.toNat 1, upd := [], new := [.ints c (List.replicate n.toNat 0)], foot := [], need := some (0 ≤ n ∧ n = m ∧ n ≤ 4294967296) } else none
          | none => some { v := .slice h.length 0 n.toNat i.size, upd := [], new := [.cells ((List.replicate n.toNat (ofVal z).cells).flatten)], foot := [], need := some ((0 ≤ n ∧ n = m ∧ n ≤ 4294967296) ∧ (ofVal z).cells.length = i.size) }
        | none => none
      else none
    | none => none
  | _, _, _ => none

def mget (m : List (Int × Int)) (k : Int) : Option Int := (m.find? fun x => x.1 == k).map (·.2)
def mput : List (Int × Int) → Int → Int → List (Int × Int)
  | [], k, v => [(k, v)]
  | x :: m, k, v => if x.1 = k then (k, v) :: m else x :: mput m k v
def alookup (P : Program) (t : TypeId) (x i : AVal) (ck : Bool) (h : Heap A) : Option (ORes A) :=
  match P.underlying t, x, i with
  | some (.map kt vt), .map l, .int kk n =>
    match P.underlying kt, hget h l with
    | some (.int _), some (.imap kk' vc m) =>
      if kk = kk' ∧ ((P.info? vt).bind (·.zero)).bind codeOf = some vc then
        some { v := if ck then .tup [Code1.aval vc ((mget m n).getD 0), .bool (mget m n).isSome] else Code1.aval vc ((mget m n).getD 0), upd := [], new := [], foot := [l], need := none }
      else none
    | _, _ => none
  | _, _, _ => none
def amapUpdate (P : Program) (t : TypeId) (x i y : AVal) (h : Heap A) : Option (ORes A) :=
  match P.underlying t, x, i with
  | some (.map kt _), .map l, .int kk n =>
    match P.underlying kt, hget h l with
    | some (.int _), some (.imap kk' vc m) =>
      if kk = kk' then
        match fromCode vc y with
        | some v => some { v := .raw undef, upd := [(l, some (.imap kk vc (mput m n v)))], new := [], foot := [l], need := none }
        | none => none
      else none
    | _, _ => none
  | _, _, _ => none
def amakeMap (P : Program) (t : TypeId) (h : Heap A) : Option (ORes A) :=
  match P.underlying t with
  | some (.map kt vt) =>
    match P.underlying kt, (P.info? vt).bind (·.zero) with
    | some (.int kk), some z => match codeOf z with
      | some vc => some { v := .map h.length, upd := [], new := [.imap kk vc []], foot := [], need := none }
      | none => none
    | _, _ => none
  | _ => none

/-- the operations that call nothing -/
def aop (P : Program) (ρ : Operand → AVal) (op : Op) (h : Heap A) : Option (ORes A) :=
  match op with
  | .move x => some (.pure (ρ x))
  | .assign x => some (.pure (ρ x))
  | .pick c a b => aofVal (apick (ρ c) (ρ a) (ρ b))
  | .alloc e => match azero P e with
    | some z => some { v := .ptr h.length 0, upd := [], new := [.cells z.cells], foot := [], need := none }
    | none => none
  | .box _ x => if (ρ x).told = true then some { v := .ptr h.length 0, upd := [], new := [.cells (ρ x).cells], foot := [], need := none } else none
  | .build t parts => aofVal (abuild P t (parts.toList.map fun x => (x.1, ρ x.2)))
  | .buildSlice t len parts => abuildSlice P t len (parts.toList.map fun x => (x.1, ρ x.2)) h
  | .load t a => match ρ a with
    | .ptr l off => aload P t l off h
    | .cptr cs => aofVal (aloadC P t cs)
    | .tptr l r w j => aloadT P t l r w j h
    | _ => none
  | .store t a x => match ρ a with
    | .ptr l off => astore P t l off (ρ x) h
    | .tptr l r w j => astoreT P t l r w j (ρ x) h
    | _ => none
  | .nilCheck x => aofVal (anilCheck (ρ x))
  | .binOp op t x y _ => aofPure (abin P op t (ρ x) (ρ y))
  | .unOp op _ x => aofVal (aun op (ρ x))
  | .convert src dst x => aofVal (aconv P src dst (ρ x))
  | .makeInterface t x => match P.underlying t with
    | some (.interface _) => none
    | some _ => some (.pure (.iface t (ρ x)))
    | none => none
  | .makeFunc fn first caps => some (.pure (.func fn (first.toList.map ρ) (caps.toList.map ρ)))
  | .slice t x lo hi mx => match P.underlying t with
    | some (.array _ _) => asliceArr P t (ρ x) (lo.map ρ) (hi.map ρ) (mx.map ρ) h
    | _ => aofPure (aslice P t (ρ x) (lo.map ρ) (hi.map ρ) (mx.map ρ))
  | .fieldAddr s x f => aofVal (afieldAddr P s (ρ x) f)
  | .field s x f => aofVal (afield P s (ρ x) f)
  | .indexAddr t x i => aofPure (aindexAddr P t (ρ x) (ρ i))
  | .index t x i => aofPure (aindex P t (ρ x) (ρ i))
  | .extract x i => match ρ x with
    | .tup vs => aofVal vs[i]?
    | _ => none
  | .makeSlice t n m => amakeSlice P t (ρ n) (ρ m) h
  | .makeMap t none => amakeMap P t h
  | .lookup t x i ck => alookup P t (ρ x) (ρ i) ck h
  | .mapUpdate t m k v => amapUpdate P t (ρ m) (ρ k) (ρ v) h
  | .call c => match c.callee with
    | .builtin b => abuiltin P b c.argTypes.toList (c.args.toList.map ρ) h
    | _ => none
  | _ => none

end Go.Sh
