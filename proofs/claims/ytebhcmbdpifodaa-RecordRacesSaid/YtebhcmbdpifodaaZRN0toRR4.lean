import Derived.Test.YtebhcmbdpifodaaZSh38toSh39
set_option linter.all false
namespace Go.Sh
open Go Go.Proofs
variable [Con]
instance : Inhabited ANN := ⟨⟨0, 0, ⟨0, 0, 0, 0, false, 0⟩⟩⟩
def anHas (ws : List (Option ANN)) (i : Nat) : Bool := (ws.getD i none).isSome
def anAt (ws : List (Option ANN)) (i : Nat) : ANN := (ws.getD i none).getD default
def anSet (ws : List (Option ANN)) (i : Nat) (w : ANN) : List (Option ANN) := ws.set i (some w)
def anClr (ws : List (Option ANN)) (i : Nat) : List (Option ANN) := ws.set i none
def anNew (n : Nat) : List (Option ANN) := List.replicate n none
abbrev anM (w : ANN) : Mc := .announce w.t w.n w.x
theorem an_true {ws : List (Option ANN)} {i : Nat} (h : anHas ws i = true) (hi : i < ws.length) : (ws.map (Option.map anM))[i]? = some (some (anM (anAt ws i))) := by
  unfold anHas at h
  unfold anAt
  rw [List.getD_eq_getElem?_getD, List.getElem?_eq_getElem hi] at h ⊢
  rw [List.getElem?_map, List.getElem?_eq_getElem hi]
  generalize ws[i] = o at h ⊢
  cases o with
  | none => cases h
  | some w => rfl
theorem an_false {ws : List (Option ANN)} {i : Nat} (h : anHas ws i = false) (hi : i < ws.length) : (ws.map (Option.map anM))[i]? = some none := by
  unfold anHas at h
  rw [List.getD_eq_getElem?_getD, List.getElem?_eq_getElem hi] at h
  rw [List.getElem?_map, List.getElem?_eq_getElem hi]
  generalize ws[i] = o at h ⊢
  cases o with
  | none => rfl
  | some w => cases h
theorem an_map (o : Option ANN) (ws : List (Option ANN)) (i : Nat) : (ws.set i o).map (Option.map anM) = (ws.map (Option.map anM)).set i (o.map anM) := by
  rw [List.map_set]
theorem anSet_map (ws : List (Option ANN)) (i : Nat) (w : ANN) : (anSet ws i w).map (Option.map anM) = (ws.map (Option.map anM)).set i (some (anM w)) := an_map (some w) ws i
theorem anClr_map (ws : List (Option ANN)) (i : Nat) : (anClr ws i).map (Option.map anM) = (ws.map (Option.map anM)).set i none := an_map none ws i
theorem anNew_map (n : Nat) : (anNew n).map (Option.map anM) = List.replicate n none := by
  unfold anNew; simp
def RKan : RowP tbl where
  R := List (Option ANN)
  row := .anrow
  hole := .anhole
  els := fun ws => ws.map (Option.map anM)
  len := List.length
  upd := fun ws i t => match t with
    | .announce t n w => some (anSet ws i ⟨t, n, w⟩)
    | _ => none
  isRow := fun t => match t with
    | .anrow ws => some ws
    | _ => none
  isHole := fun t => match t with
    | .anhole ws i => some (ws, i)
    | _ => none
  is := anHas
  get := fun ws i => anM (anAt ws i)
  clr := anClr
  new := anNew
  isRow_eq := by
    intro t r h
    cases t <;> first | (cases h; rfl) | cases h
  isHole_eq := by
    intro t r i h
    cases t <;> first | (cases h; rfl) | cases h
  len_eq := fun r => by simp
  upd_eq := by
    intro r i t r' h
    cases t with
    | announce t n w => cases h; exact anSet_map r i ⟨t, n, w⟩
    | _ => cases h
  is_true := by
    intro r i h hi
    exact an_true h hi
  is_false := by
    intro r i h hi
    exact an_false h hi
  tbRow := fun r => rfl
  tbHole := fun r i => rfl
  clr_eq := fun r i => anClr_map r i
  new_eq := fun n => anNew_map n
instance : Inhabited EXN := ⟨⟨0, 0, ⟨0, 0, 0, 0, 0, 0, false, 0, 0, 0, 0⟩⟩⟩
end Go.Sh

namespace Go.Sh
open Go Go.Proofs
variable [Con]
def cnt2 (o : Option ANN) : Nat := match o with
  | some w => if 2 ≤ w.x.at' then 1 else 0
  | none => 0
def cntT (ws : List (Option ANN)) : Nat := (ws.map cnt2).sum
theorem cntT_set : ∀ (ws : List (Option ANN)) (u : Nat) (p o : Option ANN), ws[u]? = some p → cntT (ws.set u o) + cnt2 p = cntT ws + cnt2 o
  | [], u, p, o, h => by simp at h
  | q :: r, 0, p, o, h => by
    simp only [List.getElem?_cons_zero, Option.some.injEq] at h
    subst h
    simp only [List.set_cons_zero, cntT, List.map_cons, List.sum_cons]
    omega
  | q :: r, u + 1, p, o, h => by
    simp only [List.getElem?_cons_succ] at h
    have := cntT_set r u p o h
    simp only [List.set_cons_succ, cntT, List.map_cons, List.sum_cons] at this ⊢
    omega
theorem cntT_le : ∀ ws : List (Option ANN), cntT ws ≤ ws.length
  | [] => Nat.le_refl _
  | q :: r => by
    have := cntT_le r
    have h2 : cnt2 q ≤ 1 := by
      cases q with
      | none => exact Nat.zero_le _
      | some w => unfold cnt2; dsimp only; split <;> omega
    simp only [cntT, List.map_cons, List.sum_cons, List.length_cons] at this ⊢
    omega
theorem cntT_nil (n : Nat) : cntT (anNew n) = 0 := by
  unfold anNew cntT
  simp [cnt2]
abbrev aT (n u : Int) : Int := 2 * 3 + 5 + 2 * n + 3 * u + 1
abbrev aK (n u : Int) : Int := 2 * 3 + 5 + 2 * n + 3 * u
abbrev aD (n u : Int) : Int := 2 * 3 + 5 + 2 * n + 3 * u + 2
abbrev aC (n : Int) : Int := 2 * 3 + 5 + 2 * n + 3 * n
theorem peek_set {xs : List Int} {a b x : Int} : peek (putI xs a x) b = if a = b ∧ 0 ≤ a ∧ a < xs.length then x else peek xs b := by
  unfold putI
  split
  · rename_i h
    unfold peek
    simp only [List.length_set]
    by_cases hb : 0 ≤ b ∧ b < xs.length
    · rw [if_pos hb, if_pos hb]
      have hlt : b.toNat < xs.length := by omega
      rw [List.getD_eq_getElem?_getD, List.getElem?_set, List.getD_eq_getElem?_getD]
      by_cases hab : a = b
      · subst hab
        simp [hlt, h]
      · rw [if_neg (by omega), if_neg (by omega)]
    · rw [if_neg hb, if_neg hb, if_neg (by omega)]
  · rename_i h
    rw [if_neg (by omega)]
theorem peek_set_eq {xs : List Int} {a x : Int} (h : 0 ≤ a ∧ a < xs.length) : peek (putI xs a x) a = x := by rw [peek_set, if_pos ⟨rfl, h⟩]
theorem peek_set_ne {xs : List Int} {a b x : Int} (h : a ≠ b) : peek (putI xs a x) b = peek xs b := by rw [peek_set, if_neg (fun c => h c.1)]
theorem putI_len (xs : List Int) (a x : Int) : (putI xs a x).length = xs.length := by unfold putI; split <;> simp
structure MAC (n : Int) (s : MS) (lu : Int) (seen : List (Int × Int)) (u : Nat) (a : ANS) : Prop where
  me : a.me = u
  wr : a.wrong = false
  lo : 0 ≤ a.at'
  hi : a.at' ≤ 4
  no : 2 ≤ a.at' → lu < a.no ∧ a.no ≤ peek s.xs (aC n) ∧ ∀ y ∈ seen, y.1 ≠ a.no
  tk : 3 ≤ a.at' → peek s.xs (aK n u) = a.no
  fd : a.at' = 4 → a.found = peek s.xs (aD n u)
structure PER (n : Int) (k : Nat) (s : MS) (ws : List (Option ANN)) (last many : List Int) (seen : List (Int × Int)) (u : Nat) : Prop where
  d0 : 0 ≤ peek s.xs (aD n u)
  d1 : peek s.xs (aD n u) ≤ 18446744073709551615
  at' : cutI (peek s.xs (aD n u)) 0 12 = many.getD u 0
  m0 : 0 ≤ many.getD u 0
  m1 : many.getD u 0 ≤ k
  l0 : 0 ≤ last.getD u 0
  l1 : last.getD u 0 ≤ peek s.xs (aC n)
  mac : ∀ w, ws[u]? = some (some w) → (w.t = n ∧ w.n = 3) ∧ MAC n s (last.getD u 0) seen u w.x
structure RRI (n : Int) (k : Nat) (s : MS) (ws : List (Option ANN)) (last many : List Int) (seen : List (Int × Int)) : Prop where
  n1 : 1 ≤ n
  n8 : n ≤ 8
  k0 : k ≤ 200
  t : s.t = n
  nn : s.n = 3
  len : (s.xs.length : Int) = 12 + 5 * n
  c0 : 0 ≤ s.c
  c1 : s.c ≤ k
  lw : ws.length = n.toNat
  ll : last.length = n.toNat
  lm : many.length = n.toNat
  cs : peek s.xs (aC n) = (seen.length : Int) + cntT ws
  ck : peek s.xs (aC n) ≤ k
  sn : ∀ y ∈ seen, 1 ≤ y.1 ∧ y.1 ≤ peek s.xs (aC n)
  per : ∀ u, u < n.toNat → PER n k s ws last many seen u
  dis : ∀ (u v : Nat) (w z : ANN), u ≠ v → ws[u]? = some (some w) → ws[v]? = some (some z) → 2 ≤ w.x.at' → 2 ≤ z.x.at' → w.x.no ≠ z.x.no
theorem mget_noneR {m : List (Int × Int)} {k : Int} (h : ∀ y ∈ m, y.1 ≠ k) : mget m k = none := by
  unfold mget
  rw [Option.map_eq_none_iff, List.find?_eq_none]
  intro y hy
  simpa using h y hy
theorem mput_noneR : ∀ {m : List (Int × Int)} {k v : Int}, (∀ y ∈ m, y.1 ≠ k) → mput m k v = m ++ [(k, v)]
  | [], k, v, _ => rfl
  | y :: m, k, v, h => by
    unfold mput
    rw [if_neg (h y List.mem_cons_self), mput_noneR (fun z hz => h z (List.mem_cons_of_mem _ hz))]; rfl
theorem mget_mputR : ∀ {m : List (Int × Int)} {k v : Int}, (∀ y ∈ m, y.1 ≠ k) → mget (mput m k v) k = some v := by
  intro m k v h
  rw [mput_noneR h]
  unfold mget
  rw [List.find?_append, List.find?_eq_none.2 (fun y hy => by simpa using h y hy)]
  simp
theorem an_at0 {n : Int} {x : ANS} {s : MS} (hw : x.wrong = false) (h : x.at' = 0) : ∃ s', anF n 3 x s = ⟨false, { x with at' := 1 }, s'⟩ ∧ s'.t = s.t ∧ s'.n = s.n ∧ s'.c = s.c + 1 ∧ s'.xs = putI s.xs (aT n x.me) x.bits := by
  obtain ⟨no, me, at', bits, wrong, found⟩ := x
  dsimp only at hw h
  subst hw h
  exact ⟨_, rfl, rfl, rfl, rfl, rfl⟩
theorem an_at1 {n : Int} {x : ANS} {s : MS} (hw : x.wrong = false) (h : x.at' = 1) : ∃ s', anF n 3 x s = ⟨false, { x with at' := 2, no := WU (peek s.xs (aC n) + 1) }, s'⟩ ∧ s'.t = s.t ∧ s'.n = s.n ∧ s'.c = s.c + 1 ∧ s'.xs = putI s.xs (aC n) (WU (peek s.xs (aC n) + 1)) := by
  obtain ⟨no, me, at', bits, wrong, found⟩ := x
  dsimp only at hw h
  subst hw h
  exact ⟨_, rfl, rfl, rfl, rfl, rfl⟩
theorem an_at2 {n : Int} {x : ANS} {s : MS} (hw : x.wrong = false) (h : x.at' = 2) : ∃ s', anF n 3 x s = ⟨false, { x with at' := 3 }, s'⟩ ∧ s'.t = s.t ∧ s'.n = s.n ∧ s'.c = s.c + 1 ∧ s'.xs = putI s.xs (aK n x.me) x.no := by
  obtain ⟨no, me, at', bits, wrong, found⟩ := x
  dsimp only at hw h
  subst hw h
  exact ⟨_, rfl, rfl, rfl, rfl, rfl⟩
theorem an_at3 {n : Int} {x : ANS} {s : MS} (hw : x.wrong = false) (h : x.at' = 3) : ∃ s', anF n 3 x s = ⟨false, { x with at' := 4, found := peek s.xs (aD n x.me) }, s'⟩ ∧ s'.t = s.t ∧ s'.n = s.n ∧ s'.c = s.c + 1 ∧ s'.xs = s.xs := by
  obtain ⟨no, me, at', bits, wrong, found⟩ := x
  dsimp only at hw h
  subst hw h
  exact ⟨_, rfl, rfl, rfl, rfl, rfl⟩
def nxtD (f : Int) : Int := bif dOk (attI (cutI f 0 12)) 0 0 0 1 0 then dPutV (attI (cutI f 0 12)) 0 0 0 false 1 0 else 0
theorem an_at4 {n : Int} {x : ANS} {s : MS} (hw : x.wrong = false) (h : x.at' = 4) : ∃ s', anF n 3 x s = ⟨true, { x with at' := 5 }, s'⟩ ∧ s'.t = s.t ∧ s'.n = s.n ∧ s'.c = s.c + 1 ∧ s'.xs = putI s.xs (aD n x.me) (nxtD x.found) := by
  obtain ⟨no, me, at', bits, wrong, found⟩ := x
  dsimp only at hw h
  subst hw h
  exact ⟨_, rfl, rfl, rfl, rfl, rfl⟩
theorem an_okR {n : Int} {x : ANS} {s : MS} (hn : 1 ≤ n ∧ n ≤ 8) (hm : 0 ≤ x.me ∧ x.me < n) (hw : x.wrong = false) (h0 : 0 ≤ x.at') (h4 : x.at' ≤ 4) (hc : 0 ≤ s.c ∧ s.c ≤ 200) (hf : x.at' = 4 → 0 ≤ cutI x.found 0 12 ∧ cutI x.found 0 12 ≤ 1000000) : anOk n 3 x s := by
  obtain ⟨no, me, at', bits, wrong, found⟩ := x
  dsimp only at hw h0 h4 hf hm
  subst hw
  have hcc : (0 : Int) ≤ s.4 ∧ s.4 ≤ 4611686018427387904 := by show 0 ≤ s.c ∧ s.c ≤ _; omega
  have ht : (0 : Int) ≤ n ∧ n ≤ 100000 := by omega
  have hmm : (-1099511627776 : Int) ≤ me ∧ me ≤ 1099511627776 := by omega
  rcases (by omega : at' = 0 ∨ at' = 1 ∨ at' = 2 ∨ at' = 3 ∨ at' = 4) with rfl | rfl | rfl | rfl | rfl
  · exact ⟨⟨⟨ht, by decide, hmm⟩, trivial⟩, ⟨⟨rfl, hcc⟩, trivial⟩, ⟨⟨rfl, rfl⟩, rfl⟩, trivial⟩
  · exact ⟨⟨ht, by decide⟩, ⟨rfl, hcc⟩, ⟨⟨rfl, rfl⟩, rfl⟩, trivial⟩
  · exact ⟨⟨⟨ht, by decide, hmm⟩, trivial⟩, ⟨⟨rfl, hcc⟩, trivial⟩, ⟨⟨rfl, rfl⟩, rfl⟩, trivial⟩
  · exact ⟨⟨⟨ht, by decide, hmm⟩, trivial⟩, ⟨⟨rfl, hcc⟩, trivial⟩, ⟨⟨rfl, rfl⟩, rfl⟩, trivial⟩
  · exact ⟨trivial, hf rfl, trivial, ⟨⟨ht, by decide, hmm⟩, trivial⟩, ⟨⟨rfl, hcc⟩, trivial⟩, ⟨⟨rfl, rfl⟩, rfl⟩, trivial⟩
theorem nxtD_of {f : Int} {m : Int} (h : cutI f 0 12 = m) (h0 : 0 ≤ m) (h1 : m ≤ 1000) : nxtD f = (m + 1) + 562949953421312 := by
  unfold nxtD
  rw [h]
  have e : attI m = m + 1 := by unfold attI; omega
  rw [e]
  have hd : dOk (m + 1) 0 0 0 1 0 = true := by
    unfold dOk fitI
    simp only [ile_eq, ilt_eq]
    simp
    omega
  rw [hd]
  show dPutV (m + 1) 0 0 0 false 1 0 = _
  unfold dPutV bitI
  simp only [cond_false]
  omega
theorem cut_nxt {m : Int} (h0 : 0 ≤ m) (h1 : m ≤ 1000) : cutI (m + 1 + 562949953421312) 0 12 = m + 1 := by
  unfold cutI
  show _ / 1 % 4096 = _
  omega
theorem pend_nxt {m : Int} (h0 : 0 ≤ m) (h1 : m ≤ 1000) : pendB (cutI (m + 1 + 562949953421312) 49 3) = true := by
  have : cutI (m + 1 + 562949953421312) 49 3 = 1 := by
    unfold cutI
    show _ / 562949953421312 % 8 = _
    omega
  rw [this]; rfl
end Go.Sh

namespace Go.Sh
open Go Go.Proofs
variable [Con]
noncomputable def ER1 : Env Ob Try.prog := { EC4 with row := RKan.ops Try.prog (itOps Try.prog (RKan.toRowK.ops Try.prog)), rowOk := RowP.ops_ok RKan (itOps_ok (RowK.ops_ok RKan.toRowK)) }
def tops (k : Nat) (l : List AVal) : List AVal := List.replicate k .top ++ l
structure ok1 (m : Nat) (f g : Nat → Int) (i : Nat) : Prop where
  hi : i ≤ m
  may : ∀ j, j < i → rightT 1 (f j) (g j) = true
def HR1 (n : Int) (m : Nat) (f g : Nat → Int) (os : List Int) (s0 : MS) : Hint Ob := { X := Nat, st := fun i => ([.top, .view m 2 (fun i => [.int .i64 (f i), .int .i64 (g i)]), .iview (some .u8) os, .top, .top, .top, .top, .int .i64 n, .ptr 0 0, .ptr 1 0] ++ List.replicate 45 .top ++ [.view m 2 (fun i => [.int .i64 (f i), .int .i64 (g i)]), .int .i64 (m : Int), .int .i64 (i : Int)] ++ List.replicate 149 .top, [some (.cells [.int .i64 n, .int .i64 3]), memC 2 s0, memX s0]), ok := ok1 m f g, mu := fun i => m - i, keep := [1, 2, 7, 8, 9, 55, 56, 57] }
structure RRX where
  i : Nat
  s : MS
  ws : List (Option ANN)
  last : List Int
  many : List Int
  seen : List (Int × Int)
structure RRY where
  x : RRX
  j : Nat
  a : ANS
structure okRR (n : Int) (m : Nat) (f g : Nat → Int) (os : List Int) (x : RRX) : Prop where
  inv : RRI n x.i x.s x.ws x.last x.many x.seen
  hi : x.i ≤ os.length
  h2 : os.length ≤ 200
  hm : 0 < m ∧ m ≤ 20
  may : ∀ j, j < m → rightT 1 (f j) (g j) = true
structure okRY (n : Int) (m : Nat) (f g : Nat → Int) (os : List Int) (y : RRY) : Prop where
  inv : RRI n y.x.i y.x.s (anSet y.x.ws y.j ⟨n, 3, y.a⟩) y.x.last y.x.many y.x.seen
  lj : y.j < y.x.ws.length
  hi : y.x.i ≤ os.length
  h2 : os.length ≤ 200
  hm : 0 < m ∧ m ≤ 20
  may : ∀ j, j < m → rightT 1 (f j) (g j) = true
def HR2 (n : Int) (m : Nat) (f g : Nat → Int) (os : List Int) : Hint Ob := { X := RRX, st := fun x => ([.top, .view m 2 (fun i => [.int .i64 (f i), .int .i64 (g i)]), .top, .top, .top, .top, .top, .int .i64 n, .ptr 0 0, .ptr 1 0, .top, .top, .top, .slice 3 0 n.toNat 1, .slice 4 0 n.toNat 1, .slice 5 0 n.toNat 1, .map 6] ++ List.replicate 55 .top ++ [.iview (some .u8) os, .int .i64 (os.length : Int), .int .i64 (x.i : Int)] ++ List.replicate 132 .top, [some (.cells [.int .i64 n, .int .i64 3]), memC 2 x.s, memX x.s, some (.abs (.anrow x.ws) []), some (.ints (some .u64) x.last), some (.ints (some .i64) x.many), some (.imap .u64 (some .i64) x.seen)]), ok := okRR n m f g os, mu := fun x => os.length - x.i, keep := [1, 7, 8, 9, 13, 14, 15, 16, 72, 73, 74], sel := fun tm h => match tm.getD 13 .top with
    | .slice l _ _ _ => (match hget h l with
      | some (.abs (.anrow _) _) => true
      | _ => false)
    | _ => false }
def HR2h (n : Int) (m : Nat) (f g : Nat → Int) (os : List Int) : Hint Ob := { X := RRY, st := fun y => ([.top, .view m 2 (fun i => [.int .i64 (f i), .int .i64 (g i)]), .top, .top, .top, .top, .top, .int .i64 n, .ptr 0 0, .ptr 1 0, .top, .top, .top, .slice 3 0 n.toNat 1, .slice 5 0 n.toNat 1, .slice 6 0 n.toNat 1, .map 7] ++ List.replicate 55 .top ++ [.iview (some .u8) os, .int .i64 (os.length : Int), .int .i64 (y.x.i : Int)] ++ List.replicate 132 .top, [some (.cells [.int .i64 n, .int .i64 3]), memC 2 y.x.s, memX y.x.s, some (.abs (.anhole y.x.ws y.j) [4]), some (.abs (.announce n 3 y.a) []), some (.ints (some .u64) y.x.last), some (.ints (some .i64) y.x.many), some (.imap .u64 (some .i64) y.x.seen)]), ok := okRY n m f g os, mu := fun y => os.length - y.x.i, keep := [1, 7, 8, 9, 13, 14, 15, 16, 72, 73, 74] }
structure IT where
  m : List (Int × Int)
  left : List (Int × Int)
  cur : Option (Int × Int)
structure ok3 (n d : Int) (x : IT) : Prop where
  sub : ∀ y ∈ x.left, 1 ≤ y.1 ∧ y.1 ≤ WU d
  l1 : (x.m.length : Int) ≤ d
  l2 : d ≤ (x.m.length : Int) + n
def HR3 (n d : Int) : Hint Ob := { X := IT, st := fun x => ([.top, .top, .top, .top, .top, .top, .top, .int .i64 n, .top, .top, .top, .top, .top, .top, .top, .top, .map 0, .top, .top, .top, .top, .int .i64 d] ++ List.replicate 160 .top ++ [.ptr 1 0] ++ List.replicate 24 .top, [none, some (.iter 0 .u64 (some .i64) x.m x.left x.cur)]), ok := ok3 n d, mu := fun x => x.left.length, keep := [7, 16, 21, 182] }
def rrPl (n : Int) (m : Nat) (f g : Nat → Int) (os : List Int) (s0 : MS) : FuncId → Nat → Option (Plan Ob) := fun _ k => if k = 11 then some (.states (HR1 n m f g os s0)) else if k = 21 then some (.cases [HR2 n m f g os, HR2h n m f g os]) else if k = 36 then some (.statesAt 21 (HR3 n)) else none
def rq1 (n : Int) (x2 : RRX) := (peek x2.2.3 (2 * 3 + 5 + 2 * n + 3 * n))
def rq2 (os : List Int) (x2 : RRX) := (List.getD os (Int.toNat (↑x2.1 : Int)) 0)
def rq3 (th : Int) := (2 * 3 + 5 * W (1 + Int.tmod (W th) 8) + 6)
def rq4 (m : Nat) (x3 : RRY) := (Int.tmod (↑(RRX.i x3.1) : Int) (↑m : Int))
def rq5 (os : List Int) (x3 : RRY) := (List.getD os (Int.toNat (↑x3.1.1 : Int)) 0)
def rq6 (m : Nat) (x2 : RRX) := (Int.toNat (Int.tmod (↑x2.1 : Int) (↑m : Int)))
def rq7 (n : Int) (x2 : RRX) := (peek (MS.xs x2.2) (2 * 3 + 5 + 2 * n + 3 * n))
def rq8 (n : Int) (os : List Int) (x2 : RRX) := (0 + Int.toNat (Int.tmod (W (rq2 os x2)) n) * 1)
def rq9 (n : Int) (os : List Int) (x2 : RRX) := (W (List.getD x2.5 (rq8 n os x2) 0 + 1))
def rq10 (n : Int) (os : List Int) (x2 : RRX) := (List.set x2.5 (rq8 n os x2) (rq9 n os x2))
def rq11 (n : Int) (os : List Int) (x3 : RRY) := (0 + Int.toNat (Int.tmod (W (rq5 os x3)) n) * 1)
def rq12 (n : Int) (os : List Int) (x3 : RRY) := (W (List.getD x3.1.5 (rq11 n os x3) 0 + 1))
def rq13 (n : Int) (os : List Int) (x3 : RRY) := (List.set x3.1.5 (rq11 n os x3) (rq12 n os x3))
def rq14 (m : Nat) (x3 : RRY) := (Int.toNat (Int.tmod (↑x3.1.1 : Int) (↑m : Int)))
def rq15 (n : Int) (x : Nat) (x3 : RRY) := (anSet x3.1.3 x3.2 { t := n, n := 3, x := x3.3 })
def rq16 (n : Int) (x3 : RRY) := (peek (RRX.s x3.1).3 (2 * 3 + 5 + 2 * n + 3 * n))
def rq17 (os : List Int) (x3 : RRY) := (List.getD os (Int.toNat (↑(RRX.i x3.1) : Int)) 0)
def rq18 (n : Int) (os : List Int) (x3 : RRY) := (0 + Int.toNat (Int.tmod (W (rq17 os x3)) n) * 1)
def rq19 (n : Int) (os : List Int) (x2 : RRX) := (anSet x2.3 (rq8 n os x2) (anAt x2.3 (rq8 n os x2)))
def rq20 (n : Int) (x3 : RRY) := (peek (MS.xs (RRX.s x3.1)) (2 * 3 + 5 + 2 * n + 3 * n))
def rq21 (n : Int) (os : List Int) (x2 : RRX) := (2 * 3 + 5 + 2 * n + 3 * Int.tmod (W (rq2 os x2)) n + 2)
def rq22 (n : Int) (os : List Int) (x3 : RRY) := (2 * 3 + 5 + 2 * n + 3 * Int.tmod (W (rq5 os x3)) n + 2)
def rq23 (n : Int) (x : Nat) (x3 : RRY) := (anSet (RRX.ws x3.1) x3.2 { t := n, n := 3, x := x3.3 })
def rq24 (n : Int) (os : List Int) (x : Nat) (x3 : RRY) := (anSet (rq15 n x x3) (rq11 n os x3) (anAt (rq23 n x x3) (rq11 n os x3)))
def rq25 (n : Int) (os : List Int) (x : Nat) (x3 : RRY) := (anSet (rq23 n x x3) (rq18 n os x3) (anAt (rq23 n x x3) (rq18 n os x3)))
def rq26 (os : List Int) (x2 : RRX) := ((.iview (some .u8) os) :: (.int .i64 (↑(List.length os) : Int)) :: (.int .i64 (W ((↑x2.1 : Int) + 1))) :: tops 132 ([]))
def rq27 (n : Int) (m : Nat) (f : Nat → Int) (g : Nat → Int) (os : List Int) (x : Nat) (x2 : RRX) := (anSet x2.3 (rq8 n os x2) { t := n, n := 3, x := anNF n 3 (Int.tmod (W (rq2 os x2)) n) 1 (f (rq6 m x2)) (g (rq6 m x2)) })
def rq28 (n : Int) (m : Nat) (f : Nat → Int) (g : Nat → Int) (os : List Int) (x : Nat) (x2 : RRX) := (anAt (rq27 n m f g os x x2) (rq8 n os x2))
def rq29 (n : Int) (m : Nat) (f : Nat → Int) (g : Nat → Int) (os : List Int) (x : Nat) (x2 : RRX) := (anF (rq28 n m f g os x x2).1 (rq28 n m f g os x x2).2 (rq28 n m f g os x x2).3 x2.2)
def rq30 (os : List Int) (x3 : RRY) := ((.iview (some .u8) os) :: (.int .i64 (↑(List.length os) : Int)) :: (.int .i64 (W ((↑x3.1.1 : Int) + 1))) :: tops 132 ([]))
def rq31 (n : Int) (os : List Int) (x2 : RRX) := (anF (anAt (rq19 n os x2) (rq8 n os x2)).1 (anAt (rq19 n os x2) (rq8 n os x2)).2 (anAt (rq19 n os x2) (rq8 n os x2)).3 x2.2)
def rq32 (n : Int) (m : Nat) (f : Nat → Int) (g : Nat → Int) (os : List Int) (x : Nat) (x3 : RRY) := (anSet (rq15 n x x3) (rq11 n os x3) { t := n, n := 3, x := anNF n 3 (Int.tmod (W (rq5 os x3)) n) 1 (f (rq14 m x3)) (g (rq14 m x3)) })
def rq33 (n : Int) (os : List Int) (x : Nat) (x3 : RRY) := (anF (anAt (rq25 n os x x3) (rq11 n os x3)).1 (anAt (rq25 n os x x3) (rq11 n os x3)).2 (anAt (rq25 n os x x3) (rq11 n os x3)).3 x3.1.2)
def rq34 (n : Int) (m : Nat) (f : Nat → Int) (g : Nat → Int) (os : List Int) (x : Nat) (x3 : RRY) := (anSet (rq23 n x x3) (rq18 n os x3) { t := n, n := 3, x := anNF n 3 (Int.tmod (W (rq17 os x3)) n) 1 (f (Int.toNat (rq4 m x3))) (g (Int.toNat (rq4 m x3))) })
def rq35 (n : Int) (m : Nat) (f : Nat → Int) (g : Nat → Int) (os : List Int) (x : Nat) (x3 : RRY) := (anAt (rq34 n m f g os x x3) (rq11 n os x3))
def rq36 (n : Int) (m : Nat) (f : Nat → Int) (g : Nat → Int) (os : List Int) (x : Nat) (x3 : RRY) := (anAt (rq34 n m f g os x x3) (rq18 n os x3))
def rq37 (n : Int) (m : Nat) (f : Nat → Int) (g : Nat → Int) (os : List Int) (x : Nat) (x3 : RRY) := (anF (rq35 n m f g os x x3).1 (rq35 n m f g os x x3).2 (rq35 n m f g os x x3).3 x3.1.2)
def rrVC (n th : Int) (m : Nat) (f g : Nat → Int) (os : List Int) (s0 : MS) (K : AVal → Heap Ob → Prop) : Prop := True ∧ (8 : Int) ≠ (0 : Int) ∧ bif ilt 200 (↑(List.length os) : Int) then K (.bool true) [] else bif ieq (↑m : Int) 0 then K (.bool true) [] else bif ilt 20 (↑m : Int) then K (.bool true) [] else True ∧ bif !rightB (W (1 + Int.tmod (W th) 8)) 3 then K (.bool false) [] else (((0 : Int) ≤ W (1 + Int.tmod (W th) 8) ∧ W (1 + Int.tmod (W th) 8) ≤ (100000 : Int)) ∧ (0 : Int) ≤ (3 : Int) ∧ (3 : Int) ≤ (100000 : Int)) ∧ bif ilt (rq3 th) (↑0 : Int) then K (.bool false) [] else ((((0 : Int) ≤ W (1 + Int.tmod (W th) 8) ∧ W (1 + Int.tmod (W th) 8) ≤ (100000 : Int)) ∧ (0 : Int) ≤ (3 : Int) ∧ (3 : Int) ≤ (100000 : Int)) ∧ True) ∧ ((0 : Int) ≤ (2 : Int) * 3 + 5 * W (1 + Int.tmod (W th) 8) + 6 ∧ 2 * 3 + 5 * W (1 + Int.tmod (W th) 8) + (6 : Int) = (2 : Int) * 3 + 5 * W (1 + Int.tmod (W th) 8) + 6 ∧ 2 * 3 + 5 * W (1 + Int.tmod (W th) 8) + (6 : Int) ≤ (4294967296 : Int)) ∧ okSt (HR1 n m f g os s0) (Hint.ok (HR1 n m f g os s0)) (.top :: (.view m 2 fun i => [.int .i64 (f i), .int .i64 (g i)]) :: (.iview (some .u8) os) :: tops 4 ((.int .i64 (W (1 + Int.tmod (W th) 8))) :: (.ptr 0 0) :: (.ptr 1 0) :: tops 45 ((.view m 2 fun i => [.int .i64 (f i), .int .i64 (g i)]) :: (.int .i64 (↑m : Int)) :: (.int .i64 0) :: tops 149 ([])))) [some (.cells [.int .i64 (W (1 + Int.tmod (W th) 8)), .int .i64 3]), some (.cells [.int .i64 (W (1 + Int.tmod (W th) 8)), .int .i64 3, .slice 2 0 (Int.toNat (rq3 th)) 1, .int .i64 0, .int .i64 0, .int .i64 0, .int .u64 0, .int .u64 0, .bool false]), some (.ints (some .u64) (List.replicate (Int.toNat (rq3 th)) 0))] ∧ ∀ (x : Nat), ok1 m f g x → bif ilt (↑x : Int) (↑m : Int) then ((0 : Int) ≤ (↑x : Int) ∧ (↑x : Int) < (↑m : Int)) ∧ True ∧ bif !rightT 1 (f (Int.toNat (↑x : Int))) (g (Int.toNat (↑x : Int))) then K (.bool true) [] else okSt (HR1 n m f g os s0) (fun x' => Hint.ok (HR1 n m f g os s0) x' ∧ Hint.mu (HR1 n m f g os s0) x' < Hint.mu (HR1 n m f g os s0) x) (.top :: (.view m 2 fun i => [.int .i64 (f i), .int .i64 (g i)]) :: (.iview (some .u8) os) :: tops 4 ((.int .i64 n) :: (.ptr 0 0) :: (.ptr 1 0) :: tops 45 ((.view m 2 fun i => [.int .i64 (f i), .int .i64 (g i)]) :: (.int .i64 (↑m : Int)) :: (.int .i64 (W ((↑x : Int) + 1))) :: tops 149 ([])))) [some (.cells [.int .i64 n, .int .i64 3]), some (.cells [.int .i64 s0.1, .int .i64 s0.2, .slice 2 0 (List.length s0.3) 1, .int .i64 s0.4, .int .i64 s0.5, .int .i64 s0.6, .int .u64 s0.7, .int .u64 s0.8, .bool s0.9]), some (.ints (some .u64) s0.3)] else ((0 : Int) ≤ n ∧ n = n ∧ n ≤ (4294967296 : Int)) ∧ ((0 : Int) ≤ n ∧ n = n ∧ n ≤ (4294967296 : Int)) ∧ ((0 : Int) ≤ n ∧ n = n ∧ n ≤ (4294967296 : Int)) ∧ okSt (HR2 n m f g os) (fun x => Hint.ok (HR2 n m f g os) x ∧ below none (Hint.mu (HR2 n m f g os) x)) (.top :: (.view m 2 fun i => [.int .i64 (f i), .int .i64 (g i)]) :: tops 5 ((.int .i64 n) :: (.ptr 0 0) :: (.ptr 1 0) :: .top :: .top :: .top :: (.slice 3 0 (Int.toNat n) 1) :: (.slice 4 0 (Int.toNat n) 1) :: (.slice 5 0 (Int.toNat n) 1) :: (.map 6) :: tops 55 ((.iview (some .u8) os) :: (.int .i64 (↑(List.length os) : Int)) :: (.int .i64 0) :: tops 132 ([])))) [some (.cells [.int .i64 n, .int .i64 3]), some (.cells [.int .i64 s0.1, .int .i64 s0.2, .slice 2 0 (List.length s0.3) 1, .int .i64 s0.4, .int .i64 s0.5, .int .i64 s0.6, .int .u64 s0.7, .int .u64 s0.8, .bool s0.9]), some (.ints (some .u64) s0.3), some (.abs (.anrow (anNew (Int.toNat n))) []), some (.ints (some .u64) (List.replicate (Int.toNat n) 0)), some (.ints (some .i64) (List.replicate (Int.toNat n) 0)), some (.imap .u64 (some .i64) [])] ∧ (∀ (x2 : RRX), okRR n m f g os x2 → bif ilt (↑x2.1 : Int) (↑(List.length os) : Int) then ((0 : Int) ≤ (↑x2.1 : Int) ∧ (↑x2.1 : Int) < (↑(List.length os) : Int)) ∧ n ≠ (0 : Int) ∧ ((0 : Int) ≤ Int.tmod (W (rq2 os x2)) n ∧ Int.tmod (W (rq2 os x2)) n < (↑(Int.toNat n) : Int)) ∧ 0 + Int.toNat (Int.tmod (W (rq2 os x2)) n) * (1 : Nat) < List.length x2.3 ∧ bif anHas x2.3 (rq8 n os x2) then ((0 : Int) ≤ Int.tmod (W (rq2 os x2)) n ∧ Int.tmod (W (rq2 os x2)) n < (↑(Int.toNat n) : Int)) ∧ 0 + Int.toNat (Int.tmod (W (rq2 os x2)) n) * (1 : Nat) < List.length x2.3 ∧ 0 + Int.toNat (Int.tmod (W (rq2 os x2)) n) * (1 : Nat) < List.length (rq19 n os x2) ∧ bif anHas (rq19 n os x2) (rq8 n os x2) then (List.length x2.2.3 = List.length x2.2.3 ∧ anOk (anAt (rq19 n os x2) (rq8 n os x2)).1 (anAt (rq19 n os x2) (rq8 n os x2)).2 (anAt (rq19 n os x2) (rq8 n os x2)).3 x2.2) ∧ bif (rq31 n os x2).1 then ((0 : Int) ≤ Int.tmod (W (rq2 os x2)) n ∧ Int.tmod (W (rq2 os x2)) n < (↑(Int.toNat n) : Int)) ∧ 0 + Int.toNat (Int.tmod (W (rq2 os x2)) n) * (1 : Nat) < List.length x2.5 ∧ ((0 : Int) ≤ Int.tmod (W (rq2 os x2)) n ∧ Int.tmod (W (rq2 os x2)) n < (↑(Int.toNat n) : Int)) ∧ 0 + Int.toNat (Int.tmod (W (rq2 os x2)) n) * (1 : Nat) < List.length x2.5 ∧ ((0 : Int) ≤ Int.tmod (W (rq2 os x2)) n ∧ Int.tmod (W (rq2 os x2)) n < (↑(Int.toNat n) : Int)) ∧ (0 + Int.toNat (Int.tmod (W (rq2 os x2)) n) * (1 : Nat) < List.length (rq19 n os x2) ∧ 0 + Int.toNat (Int.tmod (W (rq2 os x2)) n) * (1 : Nat) = (0 : Nat) + Int.toNat (Int.tmod (W (rq2 os x2)) n) * 1) ∧ bif ilt 1 (Option.getD (mget (mput x2.6 (ANS.no (AnO.x (anF (ANN.t (anAt (rq19 n os x2) (rq8 n os x2))) (ANN.n (anAt (rq19 n os x2) (rq8 n os x2))) (ANN.x (anAt (rq19 n os x2) (rq8 n os x2))) x2.2))) (W (Option.getD (mget x2.6 (ANS.no (AnO.x (anF (ANN.t (anAt (rq19 n os x2) (rq8 n os x2))) (ANN.n (anAt (rq19 n os x2) (rq8 n os x2))) (ANN.x (anAt (rq19 n os x2) (rq8 n os x2))) x2.2)))) 0 + 1))) (AnO.x (rq31 n os x2)).1) 0) then K (.bool false) [] else ((0 : Int) ≤ Int.tmod (W (rq2 os x2)) n ∧ Int.tmod (W (rq2 os x2)) n < (↑(Int.toNat n) : Int)) ∧ 0 + Int.toNat (Int.tmod (W (rq2 os x2)) n) * (1 : Nat) < List.length x2.4 ∧ bif ile (AnO.x (rq31 n os x2)).1 (List.getD x2.4 (rq8 n os x2) 0) then K (.bool false) [] else ((((0 : Int) ≤ n ∧ n ≤ (100000 : Int)) ∧ ((0 : Int) ≤ (3 : Int) ∧ (3 : Int) ≤ (100000 : Int)) ∧ (-1099511627776 : Int) ≤ Int.tmod (W (rq2 os x2)) n ∧ Int.tmod (W (rq2 os x2)) n ≤ (1099511627776 : Int)) ∧ True) ∧ ((List.length (AnO.s (rq31 n os x2)).3 = List.length (AnO.s (rq31 n os x2)).3 ∧ True) ∧ True) ∧ bif !ieq (peek (AnO.s (rq31 n os x2)).3 (2 * 3 + 5 + 2 * n + 3 * Int.tmod (W (rq2 os x2)) n)) (AnO.x (rq31 n os x2)).1 then K (.bool false) [] else ((((0 : Int) ≤ n ∧ n ≤ (100000 : Int)) ∧ ((0 : Int) ≤ (3 : Int) ∧ (3 : Int) ≤ (100000 : Int)) ∧ (-1099511627776 : Int) ≤ Int.tmod (W (rq2 os x2)) n ∧ Int.tmod (W (rq2 os x2)) n ≤ (1099511627776 : Int)) ∧ True) ∧ ((List.length (AnO.s (rq31 n os x2)).3 = List.length (AnO.s (rq31 n os x2)).3 ∧ True) ∧ True) ∧ ((0 : Int) ≤ peek (AnO.s (rq31 n os x2)).3 (rq21 n os x2) ∧ peek (AnO.s (rq31 n os x2)).3 (rq21 n os x2) ≤ (18446744073709551615 : Int)) ∧ ((0 : Int) ≤ Int.tmod (W (rq2 os x2)) n ∧ Int.tmod (W (rq2 os x2)) n < (↑(Int.toNat n) : Int)) ∧ 0 + Int.toNat (Int.tmod (W (rq2 os x2)) n) * (1 : Nat) < List.length (rq10 n os x2) ∧ bif !ieq (cutI (peek (AnO.s (rq31 n os x2)).3 (rq21 n os x2)) 0 12) (List.getD (rq10 n os x2) (rq8 n os x2) 0) then K (.bool false) [] else (List.length (AnO.s (rq31 n os x2)).3 = List.length (AnO.s (rq31 n os x2)).3 ∧ ((0 : Int) ≤ n ∧ n ≤ (100000 : Int)) ∧ (0 : Int) ≤ (3 : Int) ∧ (3 : Int) ≤ (100000 : Int)) ∧ bif !pndB (AnO.s (rq31 n os x2)).3 n 3 (Int.tmod (W (rq2 os x2)) n) then K (.bool false) [] else ((0 : Int) ≤ Int.tmod (W (rq2 os x2)) n ∧ Int.tmod (W (rq2 os x2)) n < (↑(Int.toNat n) : Int)) ∧ 0 + Int.toNat (Int.tmod (W (rq2 os x2)) n) * (1 : Nat) < List.length x2.4 ∧ ((0 : Int) ≤ Int.tmod (W (rq2 os x2)) n ∧ Int.tmod (W (rq2 os x2)) n < (↑(Int.toNat n) : Int)) ∧ (0 + Int.toNat (Int.tmod (W (rq2 os x2)) n) * (1 : Nat) < List.length (rq19 n os x2) ∧ 0 + Int.toNat (Int.tmod (W (rq2 os x2)) n) * (1 : Nat) = (0 : Nat) + Int.toNat (Int.tmod (W (rq2 os x2)) n) * 1) ∧ okSt (HR2 n m f g os) (fun x_1 => Hint.ok (HR2 n m f g os) x_1 ∧ below (some (Hint.mu (HR2 n m f g os) x2)) (Hint.mu (HR2 n m f g os) x_1)) (.top :: (.view m 2 fun i => [.int .i64 (f i), .int .i64 (g i)]) :: tops 5 ((.int .i64 n) :: (.ptr 0 0) :: (.ptr 1 0) :: .top :: .top :: .top :: (.slice 3 0 (Int.toNat n) 1) :: (.slice 4 0 (Int.toNat n) 1) :: (.slice 5 0 (Int.toNat n) 1) :: (.map 6) :: tops 55 (rq26 os x2))) [some (.cells [.int .i64 n, .int .i64 3]), some (.cells [.int .i64 (AnO.s (rq31 n os x2)).1, .int .i64 (AnO.s (rq31 n os x2)).2, .slice 2 0 (List.length (AnO.s (rq31 n os x2)).3) 1, .int .i64 (AnO.s (rq31 n os x2)).4, .int .i64 (AnO.s (rq31 n os x2)).5, .int .i64 (AnO.s (rq31 n os x2)).6, .int .u64 (AnO.s (rq31 n os x2)).7, .int .u64 (AnO.s (rq31 n os x2)).8, .bool (AnO.s (rq31 n os x2)).9]), some (.ints (some .u64) (AnO.s (rq31 n os x2)).3), some (.abs (.anrow (anClr (rq19 n os x2) (rq8 n os x2))) []), some (.ints (some .u64) (List.set x2.4 (rq8 n os x2) (AnO.x (rq31 n os x2)).1)), some (.ints (some .i64) (rq10 n os x2)), some (.imap .u64 (some .i64) (mput x2.6 (AnO.x (rq31 n os x2)).1 (W (Option.getD (mget x2.6 (AnO.x (rq31 n os x2)).1) 0 + 1))))] else okSt (HR2h n m f g os) (fun x_1 => Hint.ok (HR2h n m f g os) x_1 ∧ below (some (Hint.mu (HR2 n m f g os) x2)) (Hint.mu (HR2h n m f g os) x_1)) (.top :: (.view m 2 fun i => [.int .i64 (f i), .int .i64 (g i)]) :: tops 5 ((.int .i64 n) :: (.ptr 0 0) :: (.ptr 1 0) :: .top :: .top :: .top :: (.slice 3 0 (Int.toNat n) 1) :: (.slice 5 0 (Int.toNat n) 1) :: (.slice 6 0 (Int.toNat n) 1) :: (.map 7) :: tops 55 (rq26 os x2))) [some (.cells [.int .i64 n, .int .i64 3]), some (.cells [.int .i64 (AnO.s (rq31 n os x2)).1, .int .i64 (AnO.s (rq31 n os x2)).2, .slice 2 0 (List.length (AnO.s (rq31 n os x2)).3) 1, .int .i64 (AnO.s (rq31 n os x2)).4, .int .i64 (AnO.s (rq31 n os x2)).5, .int .i64 (AnO.s (rq31 n os x2)).6, .int .u64 (AnO.s (rq31 n os x2)).7, .int .u64 (AnO.s (rq31 n os x2)).8, .bool (AnO.s (rq31 n os x2)).9]), some (.ints (some .u64) (AnO.s (rq31 n os x2)).3), some (.abs (.anhole (rq19 n os x2) (rq8 n os x2)) [4]), some (.abs (.announce (anAt (rq19 n os x2) (rq8 n os x2)).1 (anAt (rq19 n os x2) (rq8 n os x2)).2 (rq31 n os x2).2) []), some (.ints (some .u64) x2.4), some (.ints (some .i64) x2.5), some (.imap .u64 (some .i64) x2.6)] else False else (↑m : Int) ≠ (0 : Int) ∧ ((0 : Int) ≤ Int.tmod (↑x2.1 : Int) (↑m : Int) ∧ Int.tmod (↑x2.1 : Int) (↑m : Int) < (↑m : Int)) ∧ (anNOk n 3 (Int.tmod (W (rq2 os x2)) n) 1 (f (rq6 m x2)) (g (rq6 m x2)) ∧ True) ∧ ((0 : Int) ≤ Int.tmod (W (rq2 os x2)) n ∧ Int.tmod (W (rq2 os x2)) n < (↑(Int.toNat n) : Int)) ∧ (0 + Int.toNat (Int.tmod (W (rq2 os x2)) n) * (1 : Nat) < List.length x2.3 ∧ anHas x2.3 (rq8 n os x2) = false) ∧ ((0 : Int) ≤ Int.tmod (W (rq2 os x2)) n ∧ Int.tmod (W (rq2 os x2)) n < (↑(Int.toNat n) : Int)) ∧ 0 + Int.toNat (Int.tmod (W (rq2 os x2)) n) * (1 : Nat) < List.length x2.3 ∧ 0 + Int.toNat (Int.tmod (W (rq2 os x2)) n) * (1 : Nat) < List.length (rq27 n m f g os x x2) ∧ bif anHas (rq27 n m f g os x x2) (rq8 n os x2) then (List.length x2.2.3 = List.length x2.2.3 ∧ anOk (rq28 n m f g os x x2).1 (rq28 n m f g os x x2).2 (rq28 n m f g os x x2).3 x2.2) ∧ bif (rq29 n m f g os x x2).1 then ((0 : Int) ≤ Int.tmod (W (rq2 os x2)) n ∧ Int.tmod (W (rq2 os x2)) n < (↑(Int.toNat n) : Int)) ∧ 0 + Int.toNat (Int.tmod (W (rq2 os x2)) n) * (1 : Nat) < List.length x2.5 ∧ ((0 : Int) ≤ Int.tmod (W (rq2 os x2)) n ∧ Int.tmod (W (rq2 os x2)) n < (↑(Int.toNat n) : Int)) ∧ 0 + Int.toNat (Int.tmod (W (rq2 os x2)) n) * (1 : Nat) < List.length x2.5 ∧ ((0 : Int) ≤ Int.tmod (W (rq2 os x2)) n ∧ Int.tmod (W (rq2 os x2)) n < (↑(Int.toNat n) : Int)) ∧ (0 + Int.toNat (Int.tmod (W (rq2 os x2)) n) * (1 : Nat) < List.length (rq27 n m f g os x x2) ∧ 0 + Int.toNat (Int.tmod (W (rq2 os x2)) n) * (1 : Nat) = (0 : Nat) + Int.toNat (Int.tmod (W (rq2 os x2)) n) * 1) ∧ bif ilt 1 (Option.getD (mget (mput x2.6 (ANS.no (AnO.x (anF (ANN.t (rq28 n m f g os x x2)) (ANN.n (rq28 n m f g os x x2)) (ANN.x (rq28 n m f g os x x2)) x2.2))) (W (Option.getD (mget x2.6 (ANS.no (AnO.x (anF (ANN.t (rq28 n m f g os x x2)) (ANN.n (rq28 n m f g os x x2)) (ANN.x (rq28 n m f g os x x2)) x2.2)))) 0 + 1))) (AnO.x (rq29 n m f g os x x2)).1) 0) then K (.bool false) [] else ((0 : Int) ≤ Int.tmod (W (rq2 os x2)) n ∧ Int.tmod (W (rq2 os x2)) n < (↑(Int.toNat n) : Int)) ∧ 0 + Int.toNat (Int.tmod (W (rq2 os x2)) n) * (1 : Nat) < List.length x2.4 ∧ bif ile (AnO.x (rq29 n m f g os x x2)).1 (List.getD x2.4 (rq8 n os x2) 0) then K (.bool false) [] else ((((0 : Int) ≤ n ∧ n ≤ (100000 : Int)) ∧ ((0 : Int) ≤ (3 : Int) ∧ (3 : Int) ≤ (100000 : Int)) ∧ (-1099511627776 : Int) ≤ Int.tmod (W (rq2 os x2)) n ∧ Int.tmod (W (rq2 os x2)) n ≤ (1099511627776 : Int)) ∧ True) ∧ ((List.length (AnO.s (rq29 n m f g os x x2)).3 = List.length (AnO.s (rq29 n m f g os x x2)).3 ∧ True) ∧ True) ∧ bif !ieq (peek (AnO.s (rq29 n m f g os x x2)).3 (2 * 3 + 5 + 2 * n + 3 * Int.tmod (W (rq2 os x2)) n)) (AnO.x (rq29 n m f g os x x2)).1 then K (.bool false) [] else ((((0 : Int) ≤ n ∧ n ≤ (100000 : Int)) ∧ ((0 : Int) ≤ (3 : Int) ∧ (3 : Int) ≤ (100000 : Int)) ∧ (-1099511627776 : Int) ≤ Int.tmod (W (rq2 os x2)) n ∧ Int.tmod (W (rq2 os x2)) n ≤ (1099511627776 : Int)) ∧ True) ∧ ((List.length (AnO.s (rq29 n m f g os x x2)).3 = List.length (AnO.s (rq29 n m f g os x x2)).3 ∧ True) ∧ True) ∧ ((0 : Int) ≤ peek (AnO.s (rq29 n m f g os x x2)).3 (rq21 n os x2) ∧ peek (AnO.s (rq29 n m f g os x x2)).3 (rq21 n os x2) ≤ (18446744073709551615 : Int)) ∧ ((0 : Int) ≤ Int.tmod (W (rq2 os x2)) n ∧ Int.tmod (W (rq2 os x2)) n < (↑(Int.toNat n) : Int)) ∧ 0 + Int.toNat (Int.tmod (W (rq2 os x2)) n) * (1 : Nat) < List.length (rq10 n os x2) ∧ bif !ieq (cutI (peek (AnO.s (rq29 n m f g os x x2)).3 (rq21 n os x2)) 0 12) (List.getD (rq10 n os x2) (rq8 n os x2) 0) then K (.bool false) [] else (List.length (AnO.s (rq29 n m f g os x x2)).3 = List.length (AnO.s (rq29 n m f g os x x2)).3 ∧ ((0 : Int) ≤ n ∧ n ≤ (100000 : Int)) ∧ (0 : Int) ≤ (3 : Int) ∧ (3 : Int) ≤ (100000 : Int)) ∧ bif !pndB (AnO.s (rq29 n m f g os x x2)).3 n 3 (Int.tmod (W (rq2 os x2)) n) then K (.bool false) [] else ((0 : Int) ≤ Int.tmod (W (rq2 os x2)) n ∧ Int.tmod (W (rq2 os x2)) n < (↑(Int.toNat n) : Int)) ∧ 0 + Int.toNat (Int.tmod (W (rq2 os x2)) n) * (1 : Nat) < List.length x2.4 ∧ ((0 : Int) ≤ Int.tmod (W (rq2 os x2)) n ∧ Int.tmod (W (rq2 os x2)) n < (↑(Int.toNat n) : Int)) ∧ (0 + Int.toNat (Int.tmod (W (rq2 os x2)) n) * (1 : Nat) < List.length (rq27 n m f g os x x2) ∧ 0 + Int.toNat (Int.tmod (W (rq2 os x2)) n) * (1 : Nat) = (0 : Nat) + Int.toNat (Int.tmod (W (rq2 os x2)) n) * 1) ∧ okSt (HR2 n m f g os) (fun x_1 => Hint.ok (HR2 n m f g os) x_1 ∧ below (some (Hint.mu (HR2 n m f g os) x2)) (Hint.mu (HR2 n m f g os) x_1)) (.top :: (.view m 2 fun i => [.int .i64 (f i), .int .i64 (g i)]) :: tops 5 ((.int .i64 n) :: (.ptr 0 0) :: (.ptr 1 0) :: .top :: .top :: .top :: (.slice 3 0 (Int.toNat n) 1) :: (.slice 4 0 (Int.toNat n) 1) :: (.slice 5 0 (Int.toNat n) 1) :: (.map 6) :: tops 55 (rq26 os x2))) [some (.cells [.int .i64 n, .int .i64 3]), some (.cells [.int .i64 (AnO.s (rq29 n m f g os x x2)).1, .int .i64 (AnO.s (rq29 n m f g os x x2)).2, .slice 2 0 (List.length (AnO.s (rq29 n m f g os x x2)).3) 1, .int .i64 (AnO.s (rq29 n m f g os x x2)).4, .int .i64 (AnO.s (rq29 n m f g os x x2)).5, .int .i64 (AnO.s (rq29 n m f g os x x2)).6, .int .u64 (AnO.s (rq29 n m f g os x x2)).7, .int .u64 (AnO.s (rq29 n m f g os x x2)).8, .bool (AnO.s (rq29 n m f g os x x2)).9]), some (.ints (some .u64) (AnO.s (rq29 n m f g os x x2)).3), some (.abs (.anrow (anClr (rq27 n m f g os x x2) (rq8 n os x2))) []), some (.ints (some .u64) (List.set x2.4 (rq8 n os x2) (AnO.x (rq29 n m f g os x x2)).1)), some (.ints (some .i64) (rq10 n os x2)), some (.imap .u64 (some .i64) (mput x2.6 (AnO.x (rq29 n m f g os x x2)).1 (W (Option.getD (mget x2.6 (AnO.x (rq29 n m f g os x x2)).1) 0 + 1))))] else okSt (HR2h n m f g os) (fun x_1 => Hint.ok (HR2h n m f g os) x_1 ∧ below (some (Hint.mu (HR2 n m f g os) x2)) (Hint.mu (HR2h n m f g os) x_1)) (.top :: (.view m 2 fun i => [.int .i64 (f i), .int .i64 (g i)]) :: tops 5 ((.int .i64 n) :: (.ptr 0 0) :: (.ptr 1 0) :: .top :: .top :: .top :: (.slice 3 0 (Int.toNat n) 1) :: (.slice 5 0 (Int.toNat n) 1) :: (.slice 6 0 (Int.toNat n) 1) :: (.map 7) :: tops 55 (rq26 os x2))) [some (.cells [.int .i64 n, .int .i64 3]), some (.cells [.int .i64 (AnO.s (rq29 n m f g os x x2)).1, .int .i64 (AnO.s (rq29 n m f g os x x2)).2, .slice 2 0 (List.length (AnO.s (rq29 n m f g os x x2)).3) 1, .int .i64 (AnO.s (rq29 n m f g os x x2)).4, .int .i64 (AnO.s (rq29 n m f g os x x2)).5, .int .i64 (AnO.s (rq29 n m f g os x x2)).6, .int .u64 (AnO.s (rq29 n m f g os x x2)).7, .int .u64 (AnO.s (rq29 n m f g os x x2)).8, .bool (AnO.s (rq29 n m f g os x x2)).9]), some (.ints (some .u64) (AnO.s (rq29 n m f g os x x2)).3), some (.abs (.anhole (rq27 n m f g os x x2) (rq8 n os x2)) [4]), some (.abs (.announce (rq28 n m f g os x x2).1 (rq28 n m f g os x x2).2 (rq29 n m f g os x x2).2) []), some (.ints (some .u64) x2.4), some (.ints (some .i64) x2.5), some (.imap .u64 (some .i64) x2.6)] else False else (((0 : Int) ≤ n ∧ n ≤ (100000 : Int)) ∧ (0 : Int) ≤ (3 : Int) ∧ (3 : Int) ≤ (100000 : Int)) ∧ (List.length x2.2.3 = List.length x2.2.3 ∧ True) ∧ okSt (HR3 n (W (rq7 n x2))) (Hint.ok (HR3 n (W (rq7 n x2)))) (tops 7 ((.int .i64 n) :: tops 8 ((.map 0) :: tops 4 ((.int .i64 (W (rq1 n x2))) :: tops 160 ((.ptr 1 0) :: tops 24 ([])))))) [none, some (.iter 0 .u64 (some .i64) x2.6 x2.6 none)] ∧ ∀ (x_1 : Hint.X (HR3 n (W (rq7 n x2)))), ok3 n (W (rq1 n x2)) x_1 → (x_1.2 = [] → bif ile (↑(List.length x_1.1) : Int) (W (rq1 n x2)) then K (.bool (ile (W (rq1 n x2)) (W ((↑(List.length x_1.1) : Int) + n)))) [] else K (.bool false) []) ∧ ∀ (y : Int × Int) (left' : List (Int × Int)), List.Mem y x_1.2 → List.Sublist left' x_1.2 → List.length left' < List.length x_1.2 → bif ilt y.1 1 then K (.bool false) [] else bif ilt (WU (W (rq1 n x2))) y.1 then K (.bool false) [] else okSt (HR3 n (W (rq7 n x2))) (fun x' => Hint.ok (HR3 n (W (rq7 n x2))) x' ∧ Hint.mu (HR3 n (W (rq7 n x2))) x' < Hint.mu (HR3 n (W (rq7 n x2))) x_1) (tops 7 ((.int .i64 n) :: tops 8 ((.map 0) :: tops 4 ((.int .i64 (W (rq1 n x2))) :: tops 160 ((.ptr 1 0) :: tops 24 ([])))))) [none, some (.iter 0 .u64 (some .i64) x_1.1 left' (some y))]) ∧ (∀ (x3 : RRY), okRY n m f g os x3 → bif ilt (↑x3.1.1 : Int) (↑(List.length os) : Int) then ((0 : Int) ≤ (↑x3.1.1 : Int) ∧ (↑x3.1.1 : Int) < (↑(List.length os) : Int)) ∧ n ≠ (0 : Int) ∧ ((0 : Int) ≤ Int.tmod (W (rq5 os x3)) n ∧ Int.tmod (W (rq5 os x3)) n < (↑(Int.toNat n) : Int)) ∧ x3.2 < List.length x3.1.3 ∧ 0 + Int.toNat (Int.tmod (W (rq5 os x3)) n) * (1 : Nat) < List.length (rq15 n x x3) ∧ bif anHas (rq23 n x x3) (rq11 n os x3) then ((0 : Int) ≤ Int.tmod (W (rq5 os x3)) n ∧ Int.tmod (W (rq5 os x3)) n < (↑(Int.toNat n) : Int)) ∧ 0 + Int.toNat (Int.tmod (W (rq5 os x3)) n) * (1 : Nat) < List.length (rq15 n x x3) ∧ 0 + Int.toNat (Int.tmod (W (rq5 os x3)) n) * (1 : Nat) < List.length (rq24 n os x x3) ∧ bif anHas (rq25 n os x x3) (rq11 n os x3) then (List.length (RRX.s x3.1).3 = List.length (RRX.s x3.1).3 ∧ anOk (anAt (rq25 n os x x3) (rq11 n os x3)).1 (anAt (rq25 n os x x3) (rq11 n os x3)).2 (anAt (rq25 n os x x3) (rq11 n os x3)).3 x3.1.2) ∧ bif (rq33 n os x x3).1 then ((0 : Int) ≤ Int.tmod (W (rq5 os x3)) n ∧ Int.tmod (W (rq5 os x3)) n < (↑(Int.toNat n) : Int)) ∧ 0 + Int.toNat (Int.tmod (W (rq5 os x3)) n) * (1 : Nat) < List.length x3.1.5 ∧ ((0 : Int) ≤ Int.tmod (W (rq5 os x3)) n ∧ Int.tmod (W (rq5 os x3)) n < (↑(Int.toNat n) : Int)) ∧ 0 + Int.toNat (Int.tmod (W (rq5 os x3)) n) * (1 : Nat) < List.length x3.1.5 ∧ ((0 : Int) ≤ Int.tmod (W (rq5 os x3)) n ∧ Int.tmod (W (rq5 os x3)) n < (↑(Int.toNat n) : Int)) ∧ (0 + Int.toNat (Int.tmod (W (rq5 os x3)) n) * (1 : Nat) < List.length (rq24 n os x x3) ∧ 0 + Int.toNat (Int.tmod (W (rq5 os x3)) n) * (1 : Nat) = (0 : Nat) + Int.toNat (Int.tmod (W (rq5 os x3)) n) * 1) ∧ bif ilt 1 (Option.getD (mget (mput (RRX.seen x3.1) (ANS.no (AnO.x (anF (ANN.t (anAt (rq25 n os x x3) (rq18 n os x3))) (ANN.n (anAt (rq25 n os x x3) (rq18 n os x3))) (ANN.x (anAt (rq25 n os x x3) (rq18 n os x3))) (RRX.s x3.1)))) (W (Option.getD (mget (RRX.seen x3.1) (ANS.no (AnO.x (anF (ANN.t (anAt (rq25 n os x x3) (rq18 n os x3))) (ANN.n (anAt (rq25 n os x x3) (rq18 n os x3))) (ANN.x (anAt (rq25 n os x x3) (rq18 n os x3))) (RRX.s x3.1))))) 0 + 1))) (AnO.x (rq33 n os x x3)).1) 0) then K (.bool false) [] else ((0 : Int) ≤ Int.tmod (W (rq5 os x3)) n ∧ Int.tmod (W (rq5 os x3)) n < (↑(Int.toNat n) : Int)) ∧ 0 + Int.toNat (Int.tmod (W (rq5 os x3)) n) * (1 : Nat) < List.length x3.1.4 ∧ bif ile (AnO.x (rq33 n os x x3)).1 (List.getD x3.1.4 (rq11 n os x3) 0) then K (.bool false) [] else ((((0 : Int) ≤ n ∧ n ≤ (100000 : Int)) ∧ ((0 : Int) ≤ (3 : Int) ∧ (3 : Int) ≤ (100000 : Int)) ∧ (-1099511627776 : Int) ≤ Int.tmod (W (rq5 os x3)) n ∧ Int.tmod (W (rq5 os x3)) n ≤ (1099511627776 : Int)) ∧ True) ∧ ((List.length (AnO.s (rq33 n os x x3)).3 = List.length (AnO.s (rq33 n os x x3)).3 ∧ True) ∧ True) ∧ bif !ieq (peek (AnO.s (rq33 n os x x3)).3 (2 * 3 + 5 + 2 * n + 3 * Int.tmod (W (rq5 os x3)) n)) (AnO.x (rq33 n os x x3)).1 then K (.bool false) [] else ((((0 : Int) ≤ n ∧ n ≤ (100000 : Int)) ∧ ((0 : Int) ≤ (3 : Int) ∧ (3 : Int) ≤ (100000 : Int)) ∧ (-1099511627776 : Int) ≤ Int.tmod (W (rq5 os x3)) n ∧ Int.tmod (W (rq5 os x3)) n ≤ (1099511627776 : Int)) ∧ True) ∧ ((List.length (AnO.s (rq33 n os x x3)).3 = List.length (AnO.s (rq33 n os x x3)).3 ∧ True) ∧ True) ∧ ((0 : Int) ≤ peek (AnO.s (rq33 n os x x3)).3 (rq22 n os x3) ∧ peek (AnO.s (rq33 n os x x3)).3 (rq22 n os x3) ≤ (18446744073709551615 : Int)) ∧ ((0 : Int) ≤ Int.tmod (W (rq5 os x3)) n ∧ Int.tmod (W (rq5 os x3)) n < (↑(Int.toNat n) : Int)) ∧ 0 + Int.toNat (Int.tmod (W (rq5 os x3)) n) * (1 : Nat) < List.length (rq13 n os x3) ∧ bif !ieq (cutI (peek (AnO.s (rq33 n os x x3)).3 (rq22 n os x3)) 0 12) (List.getD (rq13 n os x3) (rq11 n os x3) 0) then K (.bool false) [] else (List.length (AnO.s (rq33 n os x x3)).3 = List.length (AnO.s (rq33 n os x x3)).3 ∧ ((0 : Int) ≤ n ∧ n ≤ (100000 : Int)) ∧ (0 : Int) ≤ (3 : Int) ∧ (3 : Int) ≤ (100000 : Int)) ∧ bif !pndB (AnO.s (rq33 n os x x3)).3 n 3 (Int.tmod (W (rq5 os x3)) n) then K (.bool false) [] else ((0 : Int) ≤ Int.tmod (W (rq5 os x3)) n ∧ Int.tmod (W (rq5 os x3)) n < (↑(Int.toNat n) : Int)) ∧ 0 + Int.toNat (Int.tmod (W (rq5 os x3)) n) * (1 : Nat) < List.length x3.1.4 ∧ ((0 : Int) ≤ Int.tmod (W (rq5 os x3)) n ∧ Int.tmod (W (rq5 os x3)) n < (↑(Int.toNat n) : Int)) ∧ (0 + Int.toNat (Int.tmod (W (rq5 os x3)) n) * (1 : Nat) < List.length (rq24 n os x x3) ∧ 0 + Int.toNat (Int.tmod (W (rq5 os x3)) n) * (1 : Nat) = (0 : Nat) + Int.toNat (Int.tmod (W (rq5 os x3)) n) * 1) ∧ okSt (HR2 n m f g os) (fun x_1 => Hint.ok (HR2 n m f g os) x_1 ∧ below (some (Hint.mu (HR2h n m f g os) x3)) (Hint.mu (HR2 n m f g os) x_1)) (.top :: (.view m 2 fun i => [.int .i64 (f i), .int .i64 (g i)]) :: tops 5 ((.int .i64 n) :: (.ptr 0 0) :: (.ptr 1 0) :: .top :: .top :: .top :: (.slice 3 0 (Int.toNat n) 1) :: (.slice 4 0 (Int.toNat n) 1) :: (.slice 5 0 (Int.toNat n) 1) :: (.map 6) :: tops 55 (rq30 os x3))) [some (.cells [.int .i64 n, .int .i64 3]), some (.cells [.int .i64 (AnO.s (rq33 n os x x3)).1, .int .i64 (AnO.s (rq33 n os x x3)).2, .slice 2 0 (List.length (AnO.s (rq33 n os x x3)).3) 1, .int .i64 (AnO.s (rq33 n os x x3)).4, .int .i64 (AnO.s (rq33 n os x x3)).5, .int .i64 (AnO.s (rq33 n os x x3)).6, .int .u64 (AnO.s (rq33 n os x x3)).7, .int .u64 (AnO.s (rq33 n os x x3)).8, .bool (AnO.s (rq33 n os x x3)).9]), some (.ints (some .u64) (AnO.s (rq33 n os x x3)).3), some (.abs (.anrow (anClr (rq25 n os x x3) (rq18 n os x3))) []), some (.ints (some .u64) (List.set x3.1.4 (rq11 n os x3) (AnO.x (rq33 n os x x3)).1)), some (.ints (some .i64) (rq13 n os x3)), some (.imap .u64 (some .i64) (mput x3.1.6 (AnO.x (rq33 n os x x3)).1 (W (Option.getD (mget (RRX.seen x3.1) (AnO.x (rq33 n os x x3)).1) 0 + 1))))] else okSt (HR2h n m f g os) (fun x_1 => Hint.ok (HR2h n m f g os) x_1 ∧ below (some (Hint.mu (HR2h n m f g os) x3)) (Hint.mu (HR2h n m f g os) x_1)) (.top :: (.view m 2 fun i => [.int .i64 (f i), .int .i64 (g i)]) :: tops 5 ((.int .i64 n) :: (.ptr 0 0) :: (.ptr 1 0) :: .top :: .top :: .top :: (.slice 3 0 (Int.toNat n) 1) :: (.slice 5 0 (Int.toNat n) 1) :: (.slice 6 0 (Int.toNat n) 1) :: (.map 7) :: tops 55 (rq30 os x3))) [some (.cells [.int .i64 n, .int .i64 3]), some (.cells [.int .i64 (AnO.s (rq33 n os x x3)).1, .int .i64 (AnO.s (rq33 n os x x3)).2, .slice 2 0 (List.length (AnO.s (rq33 n os x x3)).3) 1, .int .i64 (AnO.s (rq33 n os x x3)).4, .int .i64 (AnO.s (rq33 n os x x3)).5, .int .i64 (AnO.s (rq33 n os x x3)).6, .int .u64 (AnO.s (rq33 n os x x3)).7, .int .u64 (AnO.s (rq33 n os x x3)).8, .bool (AnO.s (rq33 n os x x3)).9]), some (.ints (some .u64) (AnO.s (rq33 n os x x3)).3), some (.abs (.anhole (rq25 n os x x3) (rq11 n os x3)) [4]), some (.abs (.announce (anAt (rq25 n os x x3) (rq11 n os x3)).1 (anAt (rq25 n os x x3) (rq11 n os x3)).2 (rq33 n os x x3).2) []), some (.ints (some .u64) x3.1.4), some (.ints (some .i64) x3.1.5), some (.imap .u64 (some .i64) x3.1.6)] else False else (↑m : Int) ≠ (0 : Int) ∧ ((0 : Int) ≤ Int.tmod (↑x3.1.1 : Int) (↑m : Int) ∧ Int.tmod (↑x3.1.1 : Int) (↑m : Int) < (↑m : Int)) ∧ (anNOk n 3 (Int.tmod (W (rq5 os x3)) n) 1 (f (rq14 m x3)) (g (rq14 m x3)) ∧ True) ∧ ((0 : Int) ≤ Int.tmod (W (rq5 os x3)) n ∧ Int.tmod (W (rq5 os x3)) n < (↑(Int.toNat n) : Int)) ∧ (0 + Int.toNat (Int.tmod (W (rq5 os x3)) n) * (1 : Nat) < List.length (rq15 n x x3) ∧ anHas (rq23 n x x3) (rq11 n os x3) = false) ∧ ((0 : Int) ≤ Int.tmod (W (rq5 os x3)) n ∧ Int.tmod (W (rq5 os x3)) n < (↑(Int.toNat n) : Int)) ∧ 0 + Int.toNat (Int.tmod (W (rq5 os x3)) n) * (1 : Nat) < List.length (rq15 n x x3) ∧ 0 + Int.toNat (Int.tmod (W (rq5 os x3)) n) * (1 : Nat) < List.length (rq32 n m f g os x x3) ∧ bif anHas (rq34 n m f g os x x3) (rq11 n os x3) then (List.length (RRX.s x3.1).3 = List.length (RRX.s x3.1).3 ∧ anOk (rq35 n m f g os x x3).1 (rq35 n m f g os x x3).2 (rq35 n m f g os x x3).3 x3.1.2) ∧ bif (rq37 n m f g os x x3).1 then ((0 : Int) ≤ Int.tmod (W (rq5 os x3)) n ∧ Int.tmod (W (rq5 os x3)) n < (↑(Int.toNat n) : Int)) ∧ 0 + Int.toNat (Int.tmod (W (rq5 os x3)) n) * (1 : Nat) < List.length x3.1.5 ∧ ((0 : Int) ≤ Int.tmod (W (rq5 os x3)) n ∧ Int.tmod (W (rq5 os x3)) n < (↑(Int.toNat n) : Int)) ∧ 0 + Int.toNat (Int.tmod (W (rq5 os x3)) n) * (1 : Nat) < List.length x3.1.5 ∧ ((0 : Int) ≤ Int.tmod (W (rq5 os x3)) n ∧ Int.tmod (W (rq5 os x3)) n < (↑(Int.toNat n) : Int)) ∧ (0 + Int.toNat (Int.tmod (W (rq5 os x3)) n) * (1 : Nat) < List.length (rq32 n m f g os x x3) ∧ 0 + Int.toNat (Int.tmod (W (rq5 os x3)) n) * (1 : Nat) = (0 : Nat) + Int.toNat (Int.tmod (W (rq5 os x3)) n) * 1) ∧ bif ilt 1 (Option.getD (mget (mput (RRX.seen x3.1) (ANS.no (AnO.x (anF (ANN.t (rq36 n m f g os x x3)) (ANN.n (rq36 n m f g os x x3)) (ANN.x (rq36 n m f g os x x3)) (RRX.s x3.1)))) (W (Option.getD (mget (RRX.seen x3.1) (ANS.no (AnO.x (anF (ANN.t (rq36 n m f g os x x3)) (ANN.n (rq36 n m f g os x x3)) (ANN.x (rq36 n m f g os x x3)) (RRX.s x3.1))))) 0 + 1))) (AnO.x (rq37 n m f g os x x3)).1) 0) then K (.bool false) [] else ((0 : Int) ≤ Int.tmod (W (rq5 os x3)) n ∧ Int.tmod (W (rq5 os x3)) n < (↑(Int.toNat n) : Int)) ∧ 0 + Int.toNat (Int.tmod (W (rq5 os x3)) n) * (1 : Nat) < List.length x3.1.4 ∧ bif ile (AnO.x (rq37 n m f g os x x3)).1 (List.getD x3.1.4 (rq11 n os x3) 0) then K (.bool false) [] else ((((0 : Int) ≤ n ∧ n ≤ (100000 : Int)) ∧ ((0 : Int) ≤ (3 : Int) ∧ (3 : Int) ≤ (100000 : Int)) ∧ (-1099511627776 : Int) ≤ Int.tmod (W (rq5 os x3)) n ∧ Int.tmod (W (rq5 os x3)) n ≤ (1099511627776 : Int)) ∧ True) ∧ ((List.length (AnO.s (rq37 n m f g os x x3)).3 = List.length (AnO.s (rq37 n m f g os x x3)).3 ∧ True) ∧ True) ∧ bif !ieq (peek (AnO.s (rq37 n m f g os x x3)).3 (2 * 3 + 5 + 2 * n + 3 * Int.tmod (W (rq5 os x3)) n)) (AnO.x (rq37 n m f g os x x3)).1 then K (.bool false) [] else ((((0 : Int) ≤ n ∧ n ≤ (100000 : Int)) ∧ ((0 : Int) ≤ (3 : Int) ∧ (3 : Int) ≤ (100000 : Int)) ∧ (-1099511627776 : Int) ≤ Int.tmod (W (rq5 os x3)) n ∧ Int.tmod (W (rq5 os x3)) n ≤ (1099511627776 : Int)) ∧ True) ∧ ((List.length (AnO.s (rq37 n m f g os x x3)).3 = List.length (AnO.s (rq37 n m f g os x x3)).3 ∧ True) ∧ True) ∧ ((0 : Int) ≤ peek (AnO.s (rq37 n m f g os x x3)).3 (rq22 n os x3) ∧ peek (AnO.s (rq37 n m f g os x x3)).3 (rq22 n os x3) ≤ (18446744073709551615 : Int)) ∧ ((0 : Int) ≤ Int.tmod (W (rq5 os x3)) n ∧ Int.tmod (W (rq5 os x3)) n < (↑(Int.toNat n) : Int)) ∧ 0 + Int.toNat (Int.tmod (W (rq5 os x3)) n) * (1 : Nat) < List.length (rq13 n os x3) ∧ bif !ieq (cutI (peek (AnO.s (rq37 n m f g os x x3)).3 (rq22 n os x3)) 0 12) (List.getD (rq13 n os x3) (rq11 n os x3) 0) then K (.bool false) [] else (List.length (AnO.s (rq37 n m f g os x x3)).3 = List.length (AnO.s (rq37 n m f g os x x3)).3 ∧ ((0 : Int) ≤ n ∧ n ≤ (100000 : Int)) ∧ (0 : Int) ≤ (3 : Int) ∧ (3 : Int) ≤ (100000 : Int)) ∧ bif !pndB (AnO.s (rq37 n m f g os x x3)).3 n 3 (Int.tmod (W (rq5 os x3)) n) then K (.bool false) [] else ((0 : Int) ≤ Int.tmod (W (rq5 os x3)) n ∧ Int.tmod (W (rq5 os x3)) n < (↑(Int.toNat n) : Int)) ∧ 0 + Int.toNat (Int.tmod (W (rq5 os x3)) n) * (1 : Nat) < List.length x3.1.4 ∧ ((0 : Int) ≤ Int.tmod (W (rq5 os x3)) n ∧ Int.tmod (W (rq5 os x3)) n < (↑(Int.toNat n) : Int)) ∧ (0 + Int.toNat (Int.tmod (W (rq5 os x3)) n) * (1 : Nat) < List.length (rq32 n m f g os x x3) ∧ 0 + Int.toNat (Int.tmod (W (rq5 os x3)) n) * (1 : Nat) = (0 : Nat) + Int.toNat (Int.tmod (W (rq5 os x3)) n) * 1) ∧ okSt (HR2 n m f g os) (fun x_1 => Hint.ok (HR2 n m f g os) x_1 ∧ below (some (Hint.mu (HR2h n m f g os) x3)) (Hint.mu (HR2 n m f g os) x_1)) (.top :: (.view m 2 fun i => [.int .i64 (f i), .int .i64 (g i)]) :: tops 5 ((.int .i64 n) :: (.ptr 0 0) :: (.ptr 1 0) :: .top :: .top :: .top :: (.slice 3 0 (Int.toNat n) 1) :: (.slice 4 0 (Int.toNat n) 1) :: (.slice 5 0 (Int.toNat n) 1) :: (.map 6) :: tops 55 (rq30 os x3))) [some (.cells [.int .i64 n, .int .i64 3]), some (.cells [.int .i64 (AnO.s (rq37 n m f g os x x3)).1, .int .i64 (AnO.s (rq37 n m f g os x x3)).2, .slice 2 0 (List.length (AnO.s (rq37 n m f g os x x3)).3) 1, .int .i64 (AnO.s (rq37 n m f g os x x3)).4, .int .i64 (AnO.s (rq37 n m f g os x x3)).5, .int .i64 (AnO.s (rq37 n m f g os x x3)).6, .int .u64 (AnO.s (rq37 n m f g os x x3)).7, .int .u64 (AnO.s (rq37 n m f g os x x3)).8, .bool (AnO.s (rq37 n m f g os x x3)).9]), some (.ints (some .u64) (AnO.s (rq37 n m f g os x x3)).3), some (.abs (.anrow (anClr (rq34 n m f g os x x3) (rq18 n os x3))) []), some (.ints (some .u64) (List.set x3.1.4 (rq11 n os x3) (AnO.x (rq37 n m f g os x x3)).1)), some (.ints (some .i64) (rq13 n os x3)), some (.imap .u64 (some .i64) (mput x3.1.6 (AnO.x (rq37 n m f g os x x3)).1 (W (Option.getD (mget (RRX.seen x3.1) (AnO.x (rq37 n m f g os x x3)).1) 0 + 1))))] else okSt (HR2h n m f g os) (fun x_1 => Hint.ok (HR2h n m f g os) x_1 ∧ below (some (Hint.mu (HR2h n m f g os) x3)) (Hint.mu (HR2h n m f g os) x_1)) (.top :: (.view m 2 fun i => [.int .i64 (f i), .int .i64 (g i)]) :: tops 5 ((.int .i64 n) :: (.ptr 0 0) :: (.ptr 1 0) :: .top :: .top :: .top :: (.slice 3 0 (Int.toNat n) 1) :: (.slice 5 0 (Int.toNat n) 1) :: (.slice 6 0 (Int.toNat n) 1) :: (.map 7) :: tops 55 (rq30 os x3))) [some (.cells [.int .i64 n, .int .i64 3]), some (.cells [.int .i64 (AnO.s (rq37 n m f g os x x3)).1, .int .i64 (AnO.s (rq37 n m f g os x x3)).2, .slice 2 0 (List.length (AnO.s (rq37 n m f g os x x3)).3) 1, .int .i64 (AnO.s (rq37 n m f g os x x3)).4, .int .i64 (AnO.s (rq37 n m f g os x x3)).5, .int .i64 (AnO.s (rq37 n m f g os x x3)).6, .int .u64 (AnO.s (rq37 n m f g os x x3)).7, .int .u64 (AnO.s (rq37 n m f g os x x3)).8, .bool (AnO.s (rq37 n m f g os x x3)).9]), some (.ints (some .u64) (AnO.s (rq37 n m f g os x x3)).3), some (.abs (.anhole (rq34 n m f g os x x3) (rq11 n os x3)) [4]), some (.abs (.announce (rq35 n m f g os x x3).1 (rq35 n m f g os x x3).2 (rq37 n m f g os x x3).2) []), some (.ints (some .u64) x3.1.4), some (.ints (some .i64) x3.1.5), some (.imap .u64 (some .i64) x3.1.6)] else False else (((0 : Int) ≤ n ∧ n ≤ (100000 : Int)) ∧ (0 : Int) ≤ (3 : Int) ∧ (3 : Int) ≤ (100000 : Int)) ∧ (List.length (RRX.s x3.1).3 = List.length (RRX.s x3.1).3 ∧ True) ∧ okSt (HR3 n (W (rq20 n x3))) (Hint.ok (HR3 n (W (rq20 n x3)))) (tops 7 ((.int .i64 n) :: tops 8 ((.map 0) :: tops 4 ((.int .i64 (W (rq16 n x3))) :: tops 160 ((.ptr 1 0) :: tops 24 ([])))))) [none, some (.iter 0 .u64 (some .i64) x3.1.6 x3.1.6 none)] ∧ ∀ (x_12 : Hint.X (HR3 n (W (rq20 n x3)))), ok3 n (W (rq16 n x3)) x_12 → (x_12.2 = [] → bif ile (↑(List.length x_12.1) : Int) (W (rq16 n x3)) then K (.bool (ile (W (rq16 n x3)) (W ((↑(List.length x_12.1) : Int) + n)))) [] else K (.bool false) []) ∧ ∀ (y : Int × Int) (left' : List (Int × Int)), List.Mem y x_12.2 → List.Sublist left' x_12.2 → List.length left' < List.length x_12.2 → bif ilt y.1 1 then K (.bool false) [] else bif ilt (WU (W (rq16 n x3))) y.1 then K (.bool false) [] else okSt (HR3 n (W (rq20 n x3))) (fun x' => Hint.ok (HR3 n (W (rq20 n x3))) x' ∧ Hint.mu (HR3 n (W (rq20 n x3))) x' < Hint.mu (HR3 n (W (rq20 n x3))) x_12) (tops 7 ((.int .i64 n) :: tops 8 ((.map 0) :: tops 4 ((.int .i64 (W (rq16 n x3))) :: tops 160 ((.ptr 1 0) :: tops 24 ([])))))) [none, some (.iter 0 .u64 (some .i64) x_12.1 left' (some y))]) ∧ True
theorem rr_print (n th : Int) (m : Nat) (f g : Nat → Int) (os : List Int) (s0 : MS) (K : AVal → Heap Ob → Prop) (h : rrVC n th m f g os s0 K) : CallOk (obI tbl) Try.prog 3 [.int .u8 th, .view m 2 (fun i => [.int .i64 (f i), .int .i64 (g i)]), .iview (some .u8) os] [] K := by
  refine CallOk.trim (callOk_of (E := ER1) Try.checked.mixed (L := (rrPl n m f g os s0)) (n := 10) (of_nf (q := rrVC n th m f g os s0 K) (by kernel_rfl) h))
end Go.Sh

namespace Go.Sh
open Go Go.Proofs
variable [Con]
theorem anSet_len (ws : List (Option ANN)) (u : Nat) (w : ANN) : (anSet ws u w).length = ws.length := by unfold anSet; simp
theorem anClr_len (ws : List (Option ANN)) (u : Nat) : (anClr ws u).length = ws.length := by unfold anClr; simp
theorem anHas_get {ws : List (Option ANN)} {u : Nat} (h : anHas ws u = true) : ws[u]? = some (some (anAt ws u)) := by
  unfold anHas at h
  unfold anAt
  rw [List.getD_eq_getElem?_getD] at h ⊢
  cases e : ws[u]? with
  | none => rw [e] at h; cases h
  | some o => cases o with
    | none => rw [e] at h; cases h
    | some w => rfl
theorem anHas_none {ws : List (Option ANN)} {u : Nat} (h : anHas ws u = false) (hu : u < ws.length) : ws[u]? = some none := by
  unfold anHas at h
  rw [List.getD_eq_getElem?_getD] at h
  cases e : ws[u]? with
  | none => rw [List.getElem?_eq_none_iff] at e; omega
  | some o => cases o with
    | none => rfl
    | some w => rw [e] at h; cases h
theorem anSet_same {ws : List (Option ANN)} {u : Nat} {w : ANN} (h : ws[u]? = some (some w)) : anSet ws u w = ws := by
  unfold anSet; exact set_same ws u _ h
theorem anSet_get {ws : List (Option ANN)} {u : Nat} (w : ANN) (hu : u < ws.length) : (anSet ws u w)[u]? = some (some w) := by
  unfold anSet; simp [hu]
theorem anSet_ne {ws : List (Option ANN)} {u v : Nat} (w : ANN) (h : u ≠ v) : (anSet ws u w)[v]? = ws[v]? := by
  unfold anSet; rw [List.getElem?_set_ne h]
theorem anClr_ne {ws : List (Option ANN)} {u v : Nat} (h : u ≠ v) : (anClr ws u)[v]? = ws[v]? := by
  unfold anClr; rw [List.getElem?_set_ne h]
theorem anClr_get {ws : List (Option ANN)} {u : Nat} (hu : u < ws.length) : (anClr ws u)[u]? = some none := by
  unfold anClr; simp [hu]
theorem anAt_of {ws : List (Option ANN)} {u : Nat} {w : ANN} (h : ws[u]? = some (some w)) : anAt ws u = w := by
  unfold anAt; rw [List.getD_eq_getElem?_getD, h]; rfl
theorem anHas_of {ws : List (Option ANN)} {u : Nat} {w : ANN} (h : ws[u]? = some (some w)) : anHas ws u = true := by
  unfold anHas; rw [List.getD_eq_getElem?_getD, h]; rfl
section
variable {n : Int} {k : Nat} {s : MS} {ws : List (Option ANN)} {last many : List Int} {seen : List (Int × Int)}
theorem RRI.new (h : RRI n k s ws last many seen) {u : Nat} (hu : u < n.toNat) (hn : ws[u]? = some none) {kd ky : Int} (hr : rightT 1 kd ky = true) : RRI n k s (anSet ws u ⟨n, 3, anNF n 3 u 1 kd ky⟩) last many seen := by
  have hul : u < ws.length := by rw [h.lw]; exact hu
  have e : anNF n 3 u 1 kd ky = ⟨0, u, 0, tskV 1 kd ky, false, 0⟩ := by
    show (⟨0, _, 0, bif rightT 1 kd ky then tskV 1 kd ky else 0, !ieq (bif rightT 1 kd ky then 0 else 1) 0, 0⟩ : ANS) = _
    rw [hr]; rfl
  have hc := cntT_set ws u none (some ⟨n, 3, anNF n 3 u 1 kd ky⟩) hn
  have hc2 : cnt2 (some ⟨n, 3, anNF n 3 u 1 kd ky⟩) = 0 := by rw [e]; rfl
  have hcn : cnt2 none = 0 := rfl
  refine { h with lw := by rw [anSet_len]; exact h.lw, cs := ?_, per := ?_, dis := ?_ }
  · have : cntT (anSet ws u ⟨n, 3, anNF n 3 u 1 kd ky⟩) = cntT ws := by unfold anSet; omega
    rw [this]; exact h.cs
  · intro v hv
    have p := h.per v hv
    refine { p with mac := ?_ }
    intro w hw
    by_cases huv : u = v
    · subst huv
      rw [anSet_get _ hul] at hw
      simp only [Option.some.injEq] at hw
      subst hw
      rw [e]
      exact ⟨⟨rfl, rfl⟩, ⟨rfl, rfl, Int.le_refl _, by simp, fun h => by simp at h, fun h => by simp at h, fun h => by simp at h⟩⟩
    · rw [anSet_ne _ huv] at hw
      exact p.mac w hw
  · intro a b w z hab hw hz h1 h2
    by_cases hua : u = a
    · subst hua
      rw [anSet_get _ hul] at hw
      simp only [Option.some.injEq] at hw
      subst hw
      rw [e] at h1
      simp at h1
    · rw [anSet_ne _ hua] at hw
      by_cases hub : u = b
      · subst hub
        rw [anSet_get _ hul] at hz
        simp only [Option.some.injEq] at hz
        subst hz
        rw [e] at h2
        simp at h2
      · rw [anSet_ne _ hub] at hz
        exact h.dis a b w z hab hw hz h1 h2

theorem cnt2_eq (w : ANN) : cnt2 (some w) = if 2 ≤ w.x.at' then 1 else 0 := rfl

theorem RRI.quiet (h : RRI n k s ws last many seen) (hk : k + 1 ≤ 200) {u : Nat} (hu : u < n.toNat) {w : ANN} (hw : ws[u]? = some (some w)) {s' : MS} {a : ANS}
    (ht : s'.t = s.t) (hn : s'.n = s.n) (hc : s'.c = s.c + 1) (hl : s'.xs.length = s.xs.length)
    (hC : peek s'.xs (aC n) = peek s.xs (aC n)) (hD : ∀ v : Nat, peek s'.xs (aD n v) = peek s.xs (aD n v)) (hK : ∀ v : Nat, v ≠ u → peek s'.xs (aK n v) = peek s.xs (aK n v))
    (hm : MAC n s' (last.getD u 0) seen u a) (hc2 : cnt2 (some ⟨n, 3, a⟩) = cnt2 (some w)) (hno : 2 ≤ a.at' → a.no = w.x.no ∧ 2 ≤ w.x.at') : RRI n (k + 1) s' (anSet ws u ⟨n, 3, a⟩) last many seen := by
  have hul : u < ws.length := by rw [h.lw]; exact hu
  have hcs := cntT_set ws u (some w) (some ⟨n, 3, a⟩) hw
  refine ⟨h.n1, h.n8, hk, ht.trans h.t, hn.trans h.nn, by rw [hl]; exact h.len, by rw [hc]; have := h.c0; omega, by rw [hc]; have := h.c1; omega, by rw [anSet_len]; exact h.lw, h.ll, h.lm, ?_, ?_, ?_, ?_, ?_⟩
  · have : cntT (anSet ws u ⟨n, 3, a⟩) = cntT ws := by unfold anSet; omega
    rw [this, hC]; exact h.cs
  · rw [hC]; have := h.ck; omega
  · intro y hy; rw [hC]; exact h.sn y hy
  · intro v hv
    have p := h.per v hv
    refine ⟨by rw [hD]; exact p.d0, by rw [hD]; exact p.d1, by rw [hD]; exact p.at', p.m0, by have := p.m1; omega, p.l0, by rw [hC]; exact p.l1, ?_⟩
    intro w' hw'
    by_cases huv : u = v
    · subst huv
      rw [anSet_get _ hul] at hw'
      simp only [Option.some.injEq] at hw'
      subst hw'
      exact ⟨⟨rfl, rfl⟩, hm⟩
    · rw [anSet_ne _ huv] at hw'
      obtain ⟨q1, q2⟩ := p.mac w' hw'
      refine ⟨q1, q2.me, q2.wr, q2.lo, q2.hi, ?_, ?_, ?_⟩
      · rw [hC]; exact q2.no
      · rw [hK v (fun e => huv e.symm)]; exact q2.tk
      · rw [hD]; exact q2.fd
  · intro a' b w1 z hab hw1 hz h1 h2
    by_cases hua : u = a'
    · subst hua
      rw [anSet_get _ hul] at hw1
      simp only [Option.some.injEq] at hw1
      subst hw1
      rw [anSet_ne _ hab] at hz
      obtain ⟨e1, e2⟩ := hno h1
      show a.no ≠ z.x.no
      rw [e1]
      exact h.dis u b w z hab hw hz e2 h2
    · rw [anSet_ne _ hua] at hw1
      by_cases hub : u = b
      · subst hub
        rw [anSet_get _ hul] at hz
        simp only [Option.some.injEq] at hz
        subst hz
        obtain ⟨e1, e2⟩ := hno h2
        show w1.x.no ≠ a.no
        rw [e1]
        exact h.dis a' u w1 w hab hw1 hw h1 e2
      · rw [anSet_ne _ hub] at hz
        exact h.dis a' b w1 z hab hw1 hz h1 h2

theorem RRI.draws (h : RRI n k s ws last many seen) (hk : k + 1 ≤ 200) {u : Nat} (hu : u < n.toNat) {w : ANN} (hw : ws[u]? = some (some w)) {s' : MS} {a : ANS}
    (ht : s'.t = s.t) (hn : s'.n = s.n) (hc : s'.c = s.c + 1) (hl : s'.xs.length = s.xs.length)
    (hC : peek s'.xs (aC n) = peek s.xs (aC n) + 1) (hD : ∀ v : Nat, v < n.toNat → peek s'.xs (aD n v) = peek s.xs (aD n v)) (hK : ∀ v : Nat, v < n.toNat → peek s'.xs (aK n v) = peek s.xs (aK n v))
    (hw1 : w.x.at' = 1) (ha : a.at' = 2) (hno : a.no = peek s.xs (aC n) + 1) (hme : a.me = u) (hwr : a.wrong = false) : RRI n (k + 1) s' (anSet ws u ⟨n, 3, a⟩) last many seen := by
  have hul : u < ws.length := by rw [h.lw]; exact hu
  have hcs := cntT_set ws u (some w) (some ⟨n, 3, a⟩) hw
  have c1 : cnt2 (some w) = 0 := by rw [cnt2_eq, hw1]; rfl
  have c2 : cnt2 (some ⟨n, 3, a⟩) = 1 := by rw [cnt2_eq]; show (if 2 ≤ a.at' then 1 else 0) = 1; rw [ha]; rfl
  refine ⟨h.n1, h.n8, hk, ht.trans h.t, hn.trans h.nn, by rw [hl]; exact h.len, by rw [hc]; have := h.c0; omega, by rw [hc]; have := h.c1; omega, by rw [anSet_len]; exact h.lw, h.ll, h.lm, ?_, ?_, ?_, ?_, ?_⟩
  · have : cntT (anSet ws u ⟨n, 3, a⟩) = cntT ws + 1 := by unfold anSet; omega
    rw [this, hC, h.cs]; omega
  · rw [hC]; have := h.ck; omega
  · intro y hy; rw [hC]; have := h.sn y hy; omega
  · intro v hv
    have p := h.per v hv
    refine ⟨by rw [hD v hv]; exact p.d0, by rw [hD v hv]; exact p.d1, by rw [hD v hv]; exact p.at', p.m0, by have := p.m1; omega, p.l0, by rw [hC]; have := p.l1; omega, ?_⟩
    intro w' hw'
    by_cases huv : u = v
    · subst huv
      rw [anSet_get _ hul] at hw'
      simp only [Option.some.injEq] at hw'
      subst hw'
      refine ⟨⟨rfl, rfl⟩, hme, hwr, by show 0 ≤ a.at'; omega, by show a.at' ≤ 4; omega, fun _ => ⟨?_, ?_, ?_⟩, fun h => ?_, fun h => ?_⟩
      · show _ < a.no; have := p.l1; omega
      · rw [hC]; show a.no ≤ _; omega
      · intro y hy; show y.1 ≠ a.no; have := h.sn y hy; omega
      · have h' : 3 ≤ a.at' := h; omega
      · have h' : a.at' = 4 := h; omega
    · rw [anSet_ne _ huv] at hw'
      obtain ⟨q1, q2⟩ := p.mac w' hw'
      refine ⟨q1, q2.me, q2.wr, q2.lo, q2.hi, ?_, ?_, ?_⟩
      · intro h2; obtain ⟨r1, r2, r3⟩ := q2.no h2; exact ⟨r1, by rw [hC]; omega, r3⟩
      · rw [hK v hv]; exact q2.tk
      · rw [hD v hv]; exact q2.fd
  · intro a' b w1 z hab hw1' hz h1 h2
    by_cases hua : u = a'
    · subst hua
      rw [anSet_get _ hul] at hw1'
      simp only [Option.some.injEq] at hw1'
      subst hw1'
      rw [anSet_ne _ hab] at hz
      have hb : b < n.toNat := by rw [← h.lw]; exact (List.getElem?_eq_some_iff.1 hz).1
      have := ((h.per b hb).mac z hz).2.no h2
      show a.no ≠ z.x.no; omega
    · rw [anSet_ne _ hua] at hw1'
      by_cases hub : u = b
      · subst hub
        rw [anSet_get _ hul] at hz
        simp only [Option.some.injEq] at hz
        subst hz
        have hb : a' < n.toNat := by rw [← h.lw]; exact (List.getElem?_eq_some_iff.1 hw1').1
        have := ((h.per a' hb).mac w1 hw1').2.no h1
        show w1.x.no ≠ a.no; omega
      · rw [anSet_ne _ hub] at hz
        exact h.dis a' b w1 z hab hw1' hz h1 h2

theorem RRI.ends (h : RRI n k s ws last many seen) (hk : k + 1 ≤ 200) {u : Nat} (hu : u < n.toNat) {w : ANN} (hw : ws[u]? = some (some w)) {s' : MS}
    (ht : s'.t = s.t) (hn : s'.n = s.n) (hc : s'.c = s.c + 1) (hl : s'.xs.length = s.xs.length)
    (hC : peek s'.xs (aC n) = peek s.xs (aC n)) (hD : ∀ v : Nat, v ≠ u → peek s'.xs (aD n v) = peek s.xs (aD n v)) (hK : ∀ v : Nat, peek s'.xs (aK n v) = peek s.xs (aK n v))
    (hw1 : w.x.at' = 4) (hDu : peek s'.xs (aD n u) = many.getD u 0 + 1 + 562949953421312) : RRI n (k + 1) s' (anClr ws u) (last.set u w.x.no) (many.set u (many.getD u 0 + 1)) (mput seen w.x.no 1) := by
  have hul : u < ws.length := by rw [h.lw]; exact hu
  have hcs := cntT_set ws u (some w) none hw
  have c1 : cnt2 (some w) = 1 := by rw [cnt2_eq, hw1]; rfl
  have c2 : cnt2 none = 0 := rfl
  obtain ⟨⟨w1, w2⟩, M⟩ := (h.per u hu).mac w hw
  obtain ⟨m1, m2, m3⟩ := M.no (by omega)
  have pu := h.per u hu
  have hput := mput_noneR (k := w.x.no) (v := 1) m3
  refine ⟨h.n1, h.n8, hk, ht.trans h.t, hn.trans h.nn, by rw [hl]; exact h.len, by rw [hc]; have := h.c0; omega, by rw [hc]; have := h.c1; omega, by rw [anClr_len]; exact h.lw, by rw [List.length_set]; exact h.ll, by rw [List.length_set]; exact h.lm, ?_, ?_, ?_, ?_, ?_⟩
  · have : cntT (anClr ws u) + 1 = cntT ws := by unfold anClr; omega
    rw [hC, h.cs, hput]; simp only [List.length_append, List.length_cons, List.length_nil]; omega
  · rw [hC]; have := h.ck; omega
  · intro y hy
    rw [hput, List.mem_append, List.mem_singleton] at hy
    rw [hC]
    rcases hy with hy | rfl
    · exact h.sn y hy
    · have := pu.l0; show 1 ≤ w.x.no ∧ _; omega
  · intro v hv
    have p := h.per v hv
    by_cases huv : u = v
    · subst huv
      have em : (many.set u (many.getD u 0 + 1)).getD u 0 = many.getD u 0 + 1 := by
        rw [List.getD_eq_getElem?_getD, List.getElem?_set_self (by rw [h.lm]; exact hu)]; rfl
      have el : (last.set u w.x.no).getD u 0 = w.x.no := by
        rw [List.getD_eq_getElem?_getD, List.getElem?_set_self (by rw [h.ll]; exact hu)]; rfl
      have b0 := pu.m0
      have b1 := pu.m1
      have b2 := h.k0
      refine ⟨by rw [hDu]; omega, by rw [hDu]; omega, by rw [hDu, em]; exact cut_nxt b0 (by omega), by rw [em]; omega, by rw [em]; omega, by rw [el]; have := pu.l0; omega, by rw [el, hC]; omega, ?_⟩
      intro w' hw'
      rw [anClr_get hul] at hw'
      cases hw'
    · have em : (many.set u (many.getD u 0 + 1)).getD v 0 = many.getD v 0 := by
        rw [List.getD_eq_getElem?_getD, List.getElem?_set_ne huv, List.getD_eq_getElem?_getD]
      have el : (last.set u w.x.no).getD v 0 = last.getD v 0 := by
        rw [List.getD_eq_getElem?_getD, List.getElem?_set_ne huv, List.getD_eq_getElem?_getD]
      have hDv := hD v (fun e => huv e.symm)
      refine ⟨by rw [hDv]; exact p.d0, by rw [hDv]; exact p.d1, by rw [hDv, em]; exact p.at', by rw [em]; exact p.m0, by rw [em]; have := p.m1; omega, by rw [el]; exact p.l0, by rw [el, hC]; exact p.l1, ?_⟩
      intro w' hw'
      rw [anClr_ne huv] at hw'
      obtain ⟨q1, q2⟩ := p.mac w' hw'
      refine ⟨q1, q2.me, q2.wr, q2.lo, q2.hi, ?_, ?_, ?_⟩
      · intro h2
        obtain ⟨r1, r2, r3⟩ := q2.no h2
        refine ⟨by rw [el]; exact r1, by rw [hC]; exact r2, ?_⟩
        intro y hy
        rw [hput, List.mem_append, List.mem_singleton] at hy
        rcases hy with hy | rfl
        · exact r3 y hy
        · exact h.dis u v w w' huv hw hw' (by omega) h2
      · rw [hK]; exact q2.tk
      · rw [hDv]; exact q2.fd
  · intro a' b w1' z hab hw1' hz h1 h2
    by_cases hua : u = a'
    · subst hua; rw [anClr_get hul] at hw1'; cases hw1'
    · rw [anClr_ne hua] at hw1'
      by_cases hub : u = b
      · subst hub; rw [anClr_get hul] at hz; cases hz
      · rw [anClr_ne hub] at hz
        exact h.dis a' b w1' z hab hw1' hz h1 h2

theorem RRI.step (h : RRI n k s ws last many seen) (hk : k + 1 ≤ 200) {u : Nat} (hu : u < n.toNat) {w : ANN} (hw : ws[u]? = some (some w)) :
    anOk w.t w.n w.x s ∧ ((anF w.t w.n w.x s).d = false ∧ RRI n (k + 1) (anF w.t w.n w.x s).s (anSet ws u ⟨n, 3, (anF w.t w.n w.x s).x⟩) last many seen ∨
      (anF w.t w.n w.x s).d = true ∧ (anF w.t w.n w.x s).x.no = w.x.no ∧ (∀ y ∈ seen, y.1 ≠ w.x.no) ∧ last.getD u 0 < w.x.no ∧ peek (anF w.t w.n w.x s).s.xs (aK n u) = w.x.no ∧
        (anF w.t w.n w.x s).s.t = n ∧ (anF w.t w.n w.x s).s.n = 3 ∧
        peek (anF w.t w.n w.x s).s.xs (aD n u) = many.getD u 0 + 1 + 562949953421312 ∧ 0 ≤ many.getD u 0 ∧ many.getD u 0 ≤ 200 ∧
        RRI n (k + 1) (anF w.t w.n w.x s).s (anClr ws u) (last.set u w.x.no) (many.set u (many.getD u 0 + 1)) (mput seen w.x.no 1)) := by
  obtain ⟨⟨rfl, e2⟩, M⟩ := (h.per u hu).mac w hw
  have hn1 := h.n1
  have hn8 := h.n8
  have hlen := h.len
  have hk0 := h.k0
  have p := h.per u hu
  have hun : (u : Int) < w.t := by omega
  have hm0 := p.m0
  have hm1 := p.m1
  rw [e2]
  have M' := M
  obtain ⟨Mme, Mwr, Mlo, Mhi, Mno, Mtk, Mfd⟩ := M
  refine ⟨an_okR ⟨hn1, hn8⟩ (by rw [Mme]; omega) Mwr Mlo Mhi ⟨h.c0, by have := h.c1; omega⟩ (fun e => by rw [Mfd e, p.at']; omega), ?_⟩
  rcases (by omega : w.x.at' = 0 ∨ w.x.at' = 1 ∨ w.x.at' = 2 ∨ w.x.at' = 3 ∨ w.x.at' = 4) with h0 | h0 | h0 | h0 | h0
  · obtain ⟨s', e, q1, q2, q3, q4⟩ := an_at0 (n := w.t) (s := s) Mwr h0
    rw [e]
    refine .inl ⟨rfl, h.quiet hk hu hw q1 q2 q3 (by rw [q4, putI_len]) (by rw [q4, Mme, peek_set_ne (by simp only [aT, aK, aD, aC]; omega)]) (fun v => by rw [q4, Mme, peek_set_ne (by simp only [aT, aK, aD, aC]; omega)]) (fun v _ => by rw [q4, Mme, peek_set_ne (by simp only [aT, aK, aD, aC]; omega)]) ⟨Mme, Mwr, by simp, by simp, fun h => by simp at h, fun h => by simp at h, fun h => by simp at h⟩ (by rw [cnt2_eq, cnt2_eq, h0]; rfl) (fun h => by simp at h)⟩
  · obtain ⟨s', e, q1, q2, q3, q4⟩ := an_at1 (n := w.t) (s := s) Mwr h0
    have hck := h.ck
    have hcs := h.cs
    have hwu : WU (peek s.xs (aC w.t) + 1) = peek s.xs (aC w.t) + 1 := by
      refine IntWalk.u64_in _ ?_
      omega
    rw [e]
    rw [hwu] at q4 ⊢
    have hCin : 0 ≤ aC w.t ∧ aC w.t < s.xs.length := by simp only [aC]; omega
    refine .inl ⟨rfl, h.draws hk hu hw q1 q2 q3 (by rw [q4, putI_len]) (by rw [q4, peek_set_eq hCin]) (fun v hv => by rw [q4, peek_set_ne (by simp only [aT, aK, aD, aC]; omega)]) (fun v hv => by rw [q4, peek_set_ne (by simp only [aT, aK, aD, aC]; omega)]) h0 rfl rfl Mme Mwr⟩
  · obtain ⟨s', e, q1, q2, q3, q4⟩ := an_at2 (n := w.t) (s := s) Mwr h0
    rw [e]
    obtain ⟨m1, m2, m3⟩ := Mno (by omega)
    have hKin : 0 ≤ aK w.t u ∧ aK w.t u < s.xs.length := by simp only [aK]; omega
    have hCe : peek s'.xs (aC w.t) = peek s.xs (aC w.t) := by rw [q4, Mme, peek_set_ne (by simp only [aT, aK, aD, aC]; omega)]
    refine .inl ⟨rfl, h.quiet hk hu hw q1 q2 q3 (by rw [q4, putI_len]) hCe (fun v => by rw [q4, Mme, peek_set_ne (by simp only [aT, aK, aD, aC]; omega)]) (fun v hv => by rw [q4, Mme, peek_set_ne (by simp only [aT, aK, aD, aC]; omega)]) ⟨Mme, Mwr, by simp, by simp, fun _ => ⟨m1, by rw [hCe]; exact m2, m3⟩, fun _ => by rw [q4, Mme, peek_set_eq hKin], fun h => by simp at h⟩ (by rw [cnt2_eq, cnt2_eq, h0]; rfl) (fun _ => ⟨rfl, by omega⟩)⟩
  · obtain ⟨s', e, q1, q2, q3, q4⟩ := an_at3 (n := w.t) (s := s) Mwr h0
    rw [e]
    obtain ⟨m1, m2, m3⟩ := Mno (by omega)
    refine .inl ⟨rfl, h.quiet hk hu hw q1 q2 q3 (by rw [q4]) (by rw [q4]) (fun v => by rw [q4]) (fun v _ => by rw [q4]) ⟨Mme, Mwr, by simp, by simp, fun _ => ⟨m1, by rw [q4]; exact m2, m3⟩, fun _ => by rw [q4]; exact Mtk (by omega), fun _ => by rw [q4, Mme]⟩ (by rw [cnt2_eq, cnt2_eq, h0]; rfl) (fun _ => ⟨rfl, by omega⟩)⟩
  · obtain ⟨s', e, q1, q2, q3, q4⟩ := an_at4 (n := w.t) (s := s) Mwr h0
    rw [e]
    obtain ⟨m1, m2, m3⟩ := Mno (by omega)
    have hDin : 0 ≤ aD w.t u ∧ aD w.t u < s.xs.length := by simp only [aD]; omega
    have hnx : nxtD w.x.found = many.getD u 0 + 1 + 562949953421312 := nxtD_of (by rw [Mfd h0]; exact p.at') hm0 (by omega)
    have hDu : peek s'.xs (aD w.t u) = many.getD u 0 + 1 + 562949953421312 := by rw [q4, Mme, peek_set_eq hDin, hnx]
    have hKe : ∀ v : Nat, peek s'.xs (aK w.t v) = peek s.xs (aK w.t v) := fun v => by rw [q4, Mme, peek_set_ne (by simp only [aT, aK, aD, aC]; omega)]
    have hCe : peek s'.xs (aC w.t) = peek s.xs (aC w.t) := by rw [q4, Mme, peek_set_ne (by simp only [aT, aK, aD, aC]; omega)]
    refine .inr ⟨rfl, rfl, m3, m1, (hKe u).trans (Mtk (by omega)), q1.trans h.t, q2.trans h.nn, hDu, hm0, by omega, ?_⟩
    exact h.ends hk hu hw q1 q2 q3 (by rw [q4, putI_len]) hCe (fun v hv => by rw [q4, Mme, peek_set_ne (by simp only [aT, aK, aD, aC]; omega)]) hKe h0 hDu
end
end Go.Sh

namespace Go.Sh
open Go Go.Proofs
variable [Con]
def bodyP (n : Int) (m : Nat) (f g : Nat → Int) (os : List Int) (B i : Nat) (tu : Int) (s : MS) (R : List (Option ANN)) (last many : List Int) (seen : List (Int × Int)) (K : AVal → Heap Ob → Prop) : Prop := (List.length s.3 = List.length s.3 ∧ anOk (anAt R (0 + Int.toNat tu * 1)).1 (anAt R (0 + Int.toNat tu * 1)).2 (anAt R (0 + Int.toNat tu * 1)).3 s) ∧ bif (anF (anAt R (0 + Int.toNat tu * 1)).1 (anAt R (0 + Int.toNat tu * 1)).2 (anAt R (0 + Int.toNat tu * 1)).3 s).1 then ((0 : Int) ≤ tu ∧ tu < (↑(Int.toNat n) : Int)) ∧ 0 + Int.toNat (tu) * (1 : Nat) < List.length many ∧ ((0 : Int) ≤ tu ∧ tu < (↑(Int.toNat n) : Int)) ∧ 0 + Int.toNat (tu) * (1 : Nat) < List.length many ∧ ((0 : Int) ≤ tu ∧ tu < (↑(Int.toNat n) : Int)) ∧ (0 + Int.toNat (tu) * (1 : Nat) < List.length R ∧ 0 + Int.toNat (tu) * (1 : Nat) = (0 : Nat) + Int.toNat (tu) * 1) ∧ bif ilt 1 (Option.getD (mget (mput seen (ANS.no (AnO.x (anF (ANN.t (anAt R (0 + Int.toNat tu * 1))) (ANN.n (anAt R (0 + Int.toNat tu * 1))) (ANN.x (anAt R (0 + Int.toNat tu * 1))) s))) (W (Option.getD (mget seen (ANS.no (AnO.x (anF (ANN.t (anAt R (0 + Int.toNat tu * 1))) (ANN.n (anAt R (0 + Int.toNat tu * 1))) (ANN.x (anAt R (0 + Int.toNat tu * 1))) s)))) 0 + 1))) (AnO.x (anF (anAt R (0 + Int.toNat tu * 1)).1 (anAt R (0 + Int.toNat tu * 1)).2 (anAt R (0 + Int.toNat tu * 1)).3 s)).1) 0) then K (.bool false) [] else ((0 : Int) ≤ tu ∧ tu < (↑(Int.toNat n) : Int)) ∧ 0 + Int.toNat (tu) * (1 : Nat) < List.length last ∧ bif ile (AnO.x (anF (anAt R (0 + Int.toNat tu * 1)).1 (anAt R (0 + Int.toNat tu * 1)).2 (anAt R (0 + Int.toNat tu * 1)).3 s)).1 (List.getD last (0 + Int.toNat tu * 1) 0) then K (.bool false) [] else ((((0 : Int) ≤ n ∧ n ≤ (100000 : Int)) ∧ ((0 : Int) ≤ (3 : Int) ∧ (3 : Int) ≤ (100000 : Int)) ∧ (-1099511627776 : Int) ≤ tu ∧ tu ≤ (1099511627776 : Int)) ∧ True) ∧ ((List.length (AnO.s (anF (anAt R (0 + Int.toNat tu * 1)).1 (anAt R (0 + Int.toNat tu * 1)).2 (anAt R (0 + Int.toNat tu * 1)).3 s)).3 = List.length (AnO.s (anF (anAt R (0 + Int.toNat tu * 1)).1 (anAt R (0 + Int.toNat tu * 1)).2 (anAt R (0 + Int.toNat tu * 1)).3 s)).3 ∧ True) ∧ True) ∧ bif !ieq (peek (AnO.s (anF (anAt R (0 + Int.toNat tu * 1)).1 (anAt R (0 + Int.toNat tu * 1)).2 (anAt R (0 + Int.toNat tu * 1)).3 s)).3 (2 * 3 + 5 + 2 * n + 3 * tu)) (AnO.x (anF (anAt R (0 + Int.toNat tu * 1)).1 (anAt R (0 + Int.toNat tu * 1)).2 (anAt R (0 + Int.toNat tu * 1)).3 s)).1 then K (.bool false) [] else ((((0 : Int) ≤ n ∧ n ≤ (100000 : Int)) ∧ ((0 : Int) ≤ (3 : Int) ∧ (3 : Int) ≤ (100000 : Int)) ∧ (-1099511627776 : Int) ≤ tu ∧ tu ≤ (1099511627776 : Int)) ∧ True) ∧ ((List.length (AnO.s (anF (anAt R (0 + Int.toNat tu * 1)).1 (anAt R (0 + Int.toNat tu * 1)).2 (anAt R (0 + Int.toNat tu * 1)).3 s)).3 = List.length (AnO.s (anF (anAt R (0 + Int.toNat tu * 1)).1 (anAt R (0 + Int.toNat tu * 1)).2 (anAt R (0 + Int.toNat tu * 1)).3 s)).3 ∧ True) ∧ True) ∧ ((0 : Int) ≤ peek (AnO.s (anF (anAt R (0 + Int.toNat tu * 1)).1 (anAt R (0 + Int.toNat tu * 1)).2 (anAt R (0 + Int.toNat tu * 1)).3 s)).3 (2 * 3 + 5 + 2 * n + 3 * tu + 2) ∧ peek (AnO.s (anF (anAt R (0 + Int.toNat tu * 1)).1 (anAt R (0 + Int.toNat tu * 1)).2 (anAt R (0 + Int.toNat tu * 1)).3 s)).3 (2 * 3 + 5 + 2 * n + 3 * tu + 2) ≤ (18446744073709551615 : Int)) ∧ ((0 : Int) ≤ tu ∧ tu < (↑(Int.toNat n) : Int)) ∧ 0 + Int.toNat (tu) * (1 : Nat) < List.length (List.set many (0 + Int.toNat tu * 1) (W (List.getD many (0 + Int.toNat tu * 1) 0 + 1))) ∧ bif !ieq (cutI (peek (AnO.s (anF (anAt R (0 + Int.toNat tu * 1)).1 (anAt R (0 + Int.toNat tu * 1)).2 (anAt R (0 + Int.toNat tu * 1)).3 s)).3 (2 * 3 + 5 + 2 * n + 3 * tu + 2)) 0 12) (List.getD (List.set many (0 + Int.toNat tu * 1) (W (List.getD many (0 + Int.toNat tu * 1) 0 + 1))) (0 + Int.toNat tu * 1) 0) then K (.bool false) [] else (List.length (AnO.s (anF (anAt R (0 + Int.toNat tu * 1)).1 (anAt R (0 + Int.toNat tu * 1)).2 (anAt R (0 + Int.toNat tu * 1)).3 s)).3 = List.length (AnO.s (anF (anAt R (0 + Int.toNat tu * 1)).1 (anAt R (0 + Int.toNat tu * 1)).2 (anAt R (0 + Int.toNat tu * 1)).3 s)).3 ∧ ((0 : Int) ≤ n ∧ n ≤ (100000 : Int)) ∧ (0 : Int) ≤ (3 : Int) ∧ (3 : Int) ≤ (100000 : Int)) ∧ bif !pndB (AnO.s (anF (anAt R (0 + Int.toNat tu * 1)).1 (anAt R (0 + Int.toNat tu * 1)).2 (anAt R (0 + Int.toNat tu * 1)).3 s)).3 n 3 (tu) then K (.bool false) [] else ((0 : Int) ≤ tu ∧ tu < (↑(Int.toNat n) : Int)) ∧ 0 + Int.toNat (tu) * (1 : Nat) < List.length last ∧ ((0 : Int) ≤ tu ∧ tu < (↑(Int.toNat n) : Int)) ∧ (0 + Int.toNat (tu) * (1 : Nat) < List.length R ∧ 0 + Int.toNat (tu) * (1 : Nat) = (0 : Nat) + Int.toNat (tu) * 1) ∧ okSt (HR2 n m f g os) (fun x_1 => Hint.ok (HR2 n m f g os) x_1 ∧ below (some B) (Hint.mu (HR2 n m f g os) x_1)) (.top :: (.view m 2 fun i => [.int .i64 (f i), .int .i64 (g i)]) :: tops 5 ((.int .i64 n) :: (.ptr 0 0) :: (.ptr 1 0) :: .top :: .top :: .top :: (.slice 3 0 (Int.toNat n) 1) :: (.slice 4 0 (Int.toNat n) 1) :: (.slice 5 0 (Int.toNat n) 1) :: (.map 6) :: tops 55 ((.iview (some .u8) os) :: (.int .i64 (↑(List.length os) : Int)) :: (.int .i64 (W ((↑i : Int) + 1))) :: tops 132 ([])))) [some (.cells [.int .i64 n, .int .i64 3]), some (.cells [.int .i64 (AnO.s (anF (anAt R (0 + Int.toNat tu * 1)).1 (anAt R (0 + Int.toNat tu * 1)).2 (anAt R (0 + Int.toNat tu * 1)).3 s)).1, .int .i64 (AnO.s (anF (anAt R (0 + Int.toNat tu * 1)).1 (anAt R (0 + Int.toNat tu * 1)).2 (anAt R (0 + Int.toNat tu * 1)).3 s)).2, .slice 2 0 (List.length (AnO.s (anF (anAt R (0 + Int.toNat tu * 1)).1 (anAt R (0 + Int.toNat tu * 1)).2 (anAt R (0 + Int.toNat tu * 1)).3 s)).3) 1, .int .i64 (AnO.s (anF (anAt R (0 + Int.toNat tu * 1)).1 (anAt R (0 + Int.toNat tu * 1)).2 (anAt R (0 + Int.toNat tu * 1)).3 s)).4, .int .i64 (AnO.s (anF (anAt R (0 + Int.toNat tu * 1)).1 (anAt R (0 + Int.toNat tu * 1)).2 (anAt R (0 + Int.toNat tu * 1)).3 s)).5, .int .i64 (AnO.s (anF (anAt R (0 + Int.toNat tu * 1)).1 (anAt R (0 + Int.toNat tu * 1)).2 (anAt R (0 + Int.toNat tu * 1)).3 s)).6, .int .u64 (AnO.s (anF (anAt R (0 + Int.toNat tu * 1)).1 (anAt R (0 + Int.toNat tu * 1)).2 (anAt R (0 + Int.toNat tu * 1)).3 s)).7, .int .u64 (AnO.s (anF (anAt R (0 + Int.toNat tu * 1)).1 (anAt R (0 + Int.toNat tu * 1)).2 (anAt R (0 + Int.toNat tu * 1)).3 s)).8, .bool (AnO.s (anF (anAt R (0 + Int.toNat tu * 1)).1 (anAt R (0 + Int.toNat tu * 1)).2 (anAt R (0 + Int.toNat tu * 1)).3 s)).9]), some (.ints (some .u64) (AnO.s (anF (anAt R (0 + Int.toNat tu * 1)).1 (anAt R (0 + Int.toNat tu * 1)).2 (anAt R (0 + Int.toNat tu * 1)).3 s)).3), some (.abs (.anrow (anClr R (0 + Int.toNat tu * 1))) []), some (.ints (some .u64) (List.set last (0 + Int.toNat tu * 1) (AnO.x (anF (anAt R (0 + Int.toNat tu * 1)).1 (anAt R (0 + Int.toNat tu * 1)).2 (anAt R (0 + Int.toNat tu * 1)).3 s)).1)), some (.ints (some .i64) (List.set many (0 + Int.toNat tu * 1) (W (List.getD many (0 + Int.toNat tu * 1) 0 + 1)))), some (.imap .u64 (some .i64) (mput seen (AnO.x (anF (anAt R (0 + Int.toNat tu * 1)).1 (anAt R (0 + Int.toNat tu * 1)).2 (anAt R (0 + Int.toNat tu * 1)).3 s)).1 (W (Option.getD (mget seen (AnO.x (anF (anAt R (0 + Int.toNat tu * 1)).1 (anAt R (0 + Int.toNat tu * 1)).2 (anAt R (0 + Int.toNat tu * 1)).3 s)).1) 0 + 1))))] else okSt (HR2h n m f g os) (fun x_1 => Hint.ok (HR2h n m f g os) x_1 ∧ below (some B) (Hint.mu (HR2h n m f g os) x_1)) (.top :: (.view m 2 fun i => [.int .i64 (f i), .int .i64 (g i)]) :: tops 5 ((.int .i64 n) :: (.ptr 0 0) :: (.ptr 1 0) :: .top :: .top :: .top :: (.slice 3 0 (Int.toNat n) 1) :: (.slice 5 0 (Int.toNat n) 1) :: (.slice 6 0 (Int.toNat n) 1) :: (.map 7) :: tops 55 ((.iview (some .u8) os) :: (.int .i64 (↑(List.length os) : Int)) :: (.int .i64 (W ((↑i : Int) + 1))) :: tops 132 ([])))) [some (.cells [.int .i64 n, .int .i64 3]), some (.cells [.int .i64 (AnO.s (anF (anAt R (0 + Int.toNat tu * 1)).1 (anAt R (0 + Int.toNat tu * 1)).2 (anAt R (0 + Int.toNat tu * 1)).3 s)).1, .int .i64 (AnO.s (anF (anAt R (0 + Int.toNat tu * 1)).1 (anAt R (0 + Int.toNat tu * 1)).2 (anAt R (0 + Int.toNat tu * 1)).3 s)).2, .slice 2 0 (List.length (AnO.s (anF (anAt R (0 + Int.toNat tu * 1)).1 (anAt R (0 + Int.toNat tu * 1)).2 (anAt R (0 + Int.toNat tu * 1)).3 s)).3) 1, .int .i64 (AnO.s (anF (anAt R (0 + Int.toNat tu * 1)).1 (anAt R (0 + Int.toNat tu * 1)).2 (anAt R (0 + Int.toNat tu * 1)).3 s)).4, .int .i64 (AnO.s (anF (anAt R (0 + Int.toNat tu * 1)).1 (anAt R (0 + Int.toNat tu * 1)).2 (anAt R (0 + Int.toNat tu * 1)).3 s)).5, .int .i64 (AnO.s (anF (anAt R (0 + Int.toNat tu * 1)).1 (anAt R (0 + Int.toNat tu * 1)).2 (anAt R (0 + Int.toNat tu * 1)).3 s)).6, .int .u64 (AnO.s (anF (anAt R (0 + Int.toNat tu * 1)).1 (anAt R (0 + Int.toNat tu * 1)).2 (anAt R (0 + Int.toNat tu * 1)).3 s)).7, .int .u64 (AnO.s (anF (anAt R (0 + Int.toNat tu * 1)).1 (anAt R (0 + Int.toNat tu * 1)).2 (anAt R (0 + Int.toNat tu * 1)).3 s)).8, .bool (AnO.s (anF (anAt R (0 + Int.toNat tu * 1)).1 (anAt R (0 + Int.toNat tu * 1)).2 (anAt R (0 + Int.toNat tu * 1)).3 s)).9]), some (.ints (some .u64) (AnO.s (anF (anAt R (0 + Int.toNat tu * 1)).1 (anAt R (0 + Int.toNat tu * 1)).2 (anAt R (0 + Int.toNat tu * 1)).3 s)).3), some (.abs (.anhole R (0 + Int.toNat tu * 1)) [4]), some (.abs (.announce (anAt R (0 + Int.toNat tu * 1)).1 (anAt R (0 + Int.toNat tu * 1)).2 (anF (anAt R (0 + Int.toNat tu * 1)).1 (anAt R (0 + Int.toNat tu * 1)).2 (anAt R (0 + Int.toNat tu * 1)).3 s).2) []), some (.ints (some .u64) last), some (.ints (some .i64) many), some (.imap .u64 (some .i64) seen)]
theorem body_ok {n : Int} {m : Nat} {f g : Nat → Int} {os : List Int} {B i : Nat} {tu : Int} {s : MS} {R : List (Option ANN)} {last many : List Int} {seen : List (Int × Int)} {K : AVal → Heap Ob → Prop}
    (h : RRI n i s R last many seen) (hi : i < os.length) (h2 : os.length ≤ 200) (hB : B = os.length - i) (t0 : 0 ≤ tu) (t1 : tu < n) (hw : R[0 + Int.toNat tu * 1]? = some (some (anAt R (0 + Int.toNat tu * 1))))
    (hm : 0 < m ∧ m ≤ 20) (may : ∀ j, j < m → rightT 1 (f j) (g j) = true) : bodyP n m f g os B i tu s R last many seen K := by
  have hu : 0 + Int.toNat tu * 1 < n.toNat := by omega
  have hun : ((0 + Int.toNat tu * 1 : Nat) : Int) = tu := by omega
  obtain ⟨ok, hs⟩ := h.step (by omega) hu hw
  have hul : 0 + Int.toNat tu * 1 < R.length := by rw [h.lw]; exact hu
  have hll : 0 + Int.toNat tu * 1 < last.length := by rw [h.ll]; exact hu
  have hlm : 0 + Int.toNat tu * 1 < many.length := by rw [h.lm]; exact hu
  have r0 : (0 : Int) ≤ tu ∧ tu < ((Int.toNat n : Nat) : Int) := by omega
  have n1 := h.n1
  have n8 := h.n8
  have rn : (0 : Int) ≤ n ∧ n ≤ 100000 := by omega
  have rt : (-1099511627776 : Int) ≤ tu ∧ tu ≤ 1099511627776 := by omega
  have e1 : W ((i : Int) + 1) = ((i + 1 : Nat) : Int) := W_in (by omega)
  obtain ⟨⟨w1, w2⟩, M⟩ := (h.per _ hu).mac _ hw
  unfold bodyP
  generalize hA : anAt R (0 + Int.toNat tu * 1) = A at *
  obtain ⟨t', n', a⟩ := A
  have w1' : n = t' := w1.symm
  have w2' : (3 : Int) = n' := w2.symm
  subst w1' w2'
  refine ⟨⟨rfl, ok⟩, ?_⟩
  rcases hs with ⟨hd, hI⟩ | ⟨hd, hno, hsn, hla, hk, ht, hn, hD, hm0, hm1, hI⟩
  · rw [show (anF n 3 a s).1 = false from hd]
    rw [e1]
    exact okSt_intro (H := HR2h n m f g os) ⟨⟨i + 1, (anF n 3 a s).s, R, last, many, seen⟩, 0 + Int.toNat tu * 1, (anF n 3 a s).x⟩ (by kernel_rfl) ⟨⟨hI, hul, by show i + 1 ≤ _; omega, h2, hm, may⟩, by show os.length - (i + 1) < B; omega⟩
  · rw [show (anF n 3 a s).1 = true from hd]
    have hno' : ANS.no (AnO.x (anF n 3 a s)) = a.no := hno
    have g1 : mget seen a.no = none := mget_noneR hsn
    have g2 : W (Option.getD (mget seen a.no) 0 + 1) = 1 := by rw [g1]; rfl
    have g3 : mget (mput seen a.no 1) a.no = some 1 := mget_mputR hsn
    have q1 : ilt 1 (Option.getD (mget (mput seen a.no 1) a.no) 0) = false := by rw [g3]; rfl
    have q2 : ile a.no (List.getD last (0 + Int.toNat tu * 1) 0) = false := by
      have hla' : last.getD (0 + Int.toNat tu * 1) 0 < a.no := hla
      rw [ile_eq, decide_eq_false_iff_not]; omega
    have hk' : peek (AnO.s (anF n 3 a s)).3 (2 * 3 + 5 + 2 * n + 3 * tu) = a.no := by rw [hun] at hk; exact hk
    have hD' : peek (AnO.s (anF n 3 a s)).3 (2 * 3 + 5 + 2 * n + 3 * tu + 2) = List.getD many (0 + Int.toNat tu * 1) 0 + 1 + 562949953421312 := by rw [hun] at hD; exact hD
    have e2 : W (List.getD many (0 + Int.toNat tu * 1) 0 + 1) = List.getD many (0 + Int.toNat tu * 1) 0 + 1 := W_in (by omega)
    have em : List.getD (List.set many (0 + Int.toNat tu * 1) (List.getD many (0 + Int.toNat tu * 1) 0 + 1)) (0 + Int.toNat tu * 1) 0 = List.getD many (0 + Int.toNat tu * 1) 0 + 1 := by
      conv => lhs; rw [List.getD_eq_getElem?_getD, List.getElem?_set_self hlm]
      rfl
    have hp : pndB (AnO.s (anF n 3 a s)).3 n 3 tu = true := by
      unfold pndB
      rw [ile_eq, ilt_eq, decide_eq_true t0, decide_eq_true t1]
      show pendB (cutI (peek (AnO.s (anF n 3 a s)).3 (2 * 3 + 5 + 2 * n + 3 * tu + 2)) 49 3) = true
      rw [hD']
      exact pend_nxt hm0 (by omega)
    have hc := cut_nxt hm0 (by omega)
    have ieq_r : ∀ x : Int, ieq x x = true := fun x => by rw [ieq_eq]; simp
    refine ⟨r0, hlm, r0, hlm, r0, ⟨hul, rfl⟩, ?_⟩
    rw [hno', g2, q1]
    refine ⟨r0, hll, ?_⟩
    rw [q2]
    refine ⟨⟨⟨rn, by decide, rt⟩, trivial⟩, ⟨⟨rfl, trivial⟩, trivial⟩, ?_⟩
    rw [hk', ieq_r]
    refine ⟨⟨⟨rn, by decide, rt⟩, trivial⟩, ⟨⟨rfl, trivial⟩, trivial⟩, by rw [hD']; omega, r0, by rw [List.length_set]; exact hlm, ?_⟩
    rw [hD', hc, e2, em, ieq_r]
    refine ⟨⟨rfl, rn, by decide⟩, ?_⟩
    rw [hp]
    refine ⟨r0, hll, r0, ⟨hul, rfl⟩, ?_⟩
    rw [e1]
    exact okSt_intro (H := HR2 n m f g os) ⟨i + 1, (anF n 3 a s).s, anClr R (0 + Int.toNat tu * 1), last.set (0 + Int.toNat tu * 1) a.no, many.set (0 + Int.toNat tu * 1) (many.getD (0 + Int.toNat tu * 1) 0 + 1), mput seen a.no 1⟩ (by kernel_rfl) ⟨⟨hI, by show i + 1 ≤ _; omega, h2, hm, may⟩, by show os.length - (i + 1) < B; omega⟩
end Go.Sh

namespace Go.Sh
open Go Go.Proofs
variable [Con]
theorem out_ok {n d : Int} {seen : List (Int × Int)} {K : AVal → Heap Ob → Prop} (hn : 1 ≤ n ∧ n ≤ 8) (h0 : 0 ≤ d ∧ d ≤ 1000) (h1 : (seen.length : Int) ≤ d) (h2 : d ≤ (seen.length : Int) + n) (hs : ∀ y ∈ seen, 1 ≤ y.1 ∧ y.1 ≤ d) (hK : K (.bool true) []) :
    okSt (HR3 n (W d)) (Hint.ok (HR3 n (W d))) (tops 7 ((.int .i64 n) :: tops 8 ((.map 0) :: tops 4 ((.int .i64 (W d)) :: tops 160 ((.ptr 1 0) :: tops 24 ([])))))) [none, some (.iter 0 .u64 (some .i64) seen seen none)] ∧ ∀ (x_1 : Hint.X (HR3 n (W d))), ok3 n (W d) x_1 → (IT.left x_1 = [] → bif ile (↑(List.length (IT.m x_1)) : Int) (W d) then K (.bool (ile (W d) (W ((↑(List.length (IT.m x_1)) : Int) + n)))) [] else K (.bool false) []) ∧ ∀ (y : Int × Int) (left' : List (Int × Int)), List.Mem y (IT.left x_1) → List.Sublist left' (IT.left x_1) → List.length left' < List.length (IT.left x_1) → bif ilt y.1 1 then K (.bool false) [] else bif ilt (WU (W d)) y.1 then K (.bool false) [] else okSt (HR3 n (W d)) (fun x' => Hint.ok (HR3 n (W d)) x' ∧ Hint.mu (HR3 n (W d)) x' < Hint.mu (HR3 n (W d)) x_1) (tops 7 ((.int .i64 n) :: tops 8 ((.map 0) :: tops 4 ((.int .i64 (W d)) :: tops 160 ((.ptr 1 0) :: tops 24 ([])))))) [none, some (.iter 0 .u64 (some .i64) (IT.m x_1) left' (some y))] := by
  have e1 : W d = d := W_in (by omega)
  have e2 : WU d = d := IntWalk.u64_in _ (by omega)
  rw [e1]
  refine ⟨okSt_intro (H := HR3 n d) ⟨seen, seen, none⟩ (by kernel_rfl) ⟨fun y hy => by rw [e2]; exact hs y hy, h1, h2⟩, ?_⟩
  intro x ok
  have ok : ok3 n d x := ok
  obtain ⟨hsub, l1, l2⟩ := ok
  refine ⟨fun hx => ?_, fun y left' hy hl hlt => ?_⟩
  · have a1 : ile (↑(List.length (IT.m x)) : Int) d = true := by rw [ile_eq]; exact decide_eq_true l1
    rw [a1]
    have a2 : W ((↑(List.length (IT.m x)) : Int) + n) = (↑(List.length (IT.m x)) : Int) + n := W_in (by omega)
    rw [a2]
    have a3 : ile d ((↑(List.length (IT.m x)) : Int) + n) = true := by rw [ile_eq]; exact decide_eq_true l2
    rw [a3]
    exact hK
  · have hy' : y ∈ IT.left x := hy
    have hyb := hsub y hy'
    rw [e2] at hyb
    have a1 : ilt y.1 1 = false := by rw [ilt_eq, decide_eq_false_iff_not]; omega
    have a2 : ilt d y.1 = false := by rw [ilt_eq, decide_eq_false_iff_not]; omega
    rw [a1, e2, a2]
    exact okSt_intro (H := HR3 n d) ⟨IT.m x, left', some y⟩ (by kernel_rfl) ⟨⟨fun z hz => hsub z (hl.subset hz), l1, l2⟩, hlt⟩

theorem RRI.init {n : Int} (h1 : 1 ≤ n) (h8 : n ≤ 8) {s : MS} (ht : s.t = n) (hn : s.n = 3) (hx : s.xs = List.replicate (Int.toNat (2 * 3 + 5 * n + 6)) 0) (hc : s.c = 0) : RRI n 0 s (anNew n.toNat) (List.replicate n.toNat 0) (List.replicate n.toNat 0) [] := by
  have hp : ∀ a, peek s.xs a = 0 := by
    intro a
    unfold peek
    rw [hx]
    split
    · rw [List.getD_eq_getElem?_getD, List.getElem?_replicate]
      split <;> rfl
    · rfl
  have hg : ∀ u : Nat, (List.replicate n.toNat (0 : Int)).getD u 0 = 0 := by
    intro u
    rw [List.getD_eq_getElem?_getD, List.getElem?_replicate]
    split <;> rfl
  have hw : ∀ (u : Nat) (w : ANN), (anNew n.toNat)[u]? = some (some w) → False := by
    intro u w h
    unfold anNew at h
    rw [List.getElem?_replicate] at h
    split at h
    · simp at h
    · cases h
  refine ⟨h1, h8, by omega, ht, hn, by rw [hx, List.length_replicate]; omega, by omega, by omega, by unfold anNew; simp, by simp, by simp, ?_, ?_, ?_, ?_, ?_⟩
  · rw [hp, cntT_nil]; rfl
  · rw [hp]; omega
  · intro y hy; cases hy
  · intro u hu
    refine ⟨by rw [hp]; omega, by rw [hp]; omega, by rw [hp, hg]; rfl, by rw [hg]; omega, by rw [hg]; omega, by rw [hg]; omega, by rw [hg, hp]; omega, fun w h => (hw u w h).elim⟩
  · intro u v w z _ h; exact (hw u w h).elim

theorem RRI.out {n : Int} {k : Nat} {s : MS} {ws : List (Option ANN)} {last many : List Int} {seen : List (Int × Int)} (h : RRI n k s ws last many seen) :
    (0 ≤ peek s.xs (aC n) ∧ peek s.xs (aC n) ≤ 1000) ∧ (seen.length : Int) ≤ peek s.xs (aC n) ∧ peek s.xs (aC n) ≤ (seen.length : Int) + n := by
  have a := h.cs
  have b := h.ck
  have c := h.k0
  have d := cntT_le ws
  have e := h.lw
  have f := h.n1
  omega

theorem rr_vc {n th : Int} {m : Nat} {f g : Nat → Int} {os : List Int} {s0 : MS} {K : AVal → Heap Ob → Prop} (hth : 0 ≤ th ∧ th ≤ 255) (hn : n = 1 + th % 8)
    (hs0 : s0 = ⟨n, 3, List.replicate (Int.toNat (2 * 3 + 5 * n + 6)) 0, 0, 0, 0, 0, 0, false⟩) (hos : ∀ x ∈ os, 0 ≤ x ∧ x ≤ 255) (hK : K (.bool true) []) : rrVC n th m f g os s0 K := by
  have hnW : W (1 + Int.tmod (W th) 8) = n := by
    have a1 : W th = th := W_in (by omega)
    rw [a1, Int.tmod_eq_emod_of_nonneg (by omega)]
    have a2 : W (1 + th % 8) = 1 + th % 8 := W_in (by omega)
    rw [a2, hn]
  have n1 : 1 ≤ n := by omega
  have n8 : n ≤ 8 := by omega
  have rn : (0 : Int) ≤ n ∧ n ≤ 100000 := by omega
  have h3 : (0 : Int) ≤ 3 ∧ (3 : Int) ≤ 100000 := by omega
  have eq3 : rq3 th = 2 * 3 + 5 * n + 6 := by unfold rq3; rw [hnW]
  unfold rrVC
  rw [hnW, eq3]
  refine ⟨trivial, by decide, cond_go (fun _ => hK) (fun e200 => cond_go (fun _ => hK) (fun em0 => cond_go (fun _ => hK) (fun em20 => ⟨trivial, ?_⟩)))⟩
  rw [ilt_eq, decide_eq_false_iff_not] at e200 em20
  have em0 : ¬ ((m : Int) = 0) := by rw [ieq_eq] at em0; simpa using em0
  have hm : 0 < m ∧ m ≤ 20 := by omega
  have h200 : os.length ≤ 200 := by omega
  have hr : rightB n 3 = true := by
    unfold rightB
    simp only [ile_eq]
    simp
    omega
  rw [hr]
  refine ⟨⟨rn, h3⟩, ?_⟩
  have hl : ilt (2 * 3 + 5 * n + 6) 0 = false := by rw [ilt_eq, decide_eq_false_iff_not]; omega
  rw [hl]
  refine ⟨⟨⟨rn, h3⟩, trivial⟩, ⟨by omega, rfl, by omega⟩, ?_, ?_⟩
  · have hlen : Int.toNat (2 * 3 + 5 * n + 6) = s0.xs.length := by rw [hs0]; simp
    have hxs : List.replicate (Int.toNat (2 * 3 + 5 * n + 6)) (0 : Int) = s0.xs := by rw [hs0]
    rw [hxs, hlen]
    generalize s0.xs = L at *
    rw [hxs] at hs0
    subst hs0
    exact okSt_intro (H := HR1 n m f g os _) (0 : Nat) (by kernel_rfl) ⟨Nat.zero_le _, fun j hj => by omega⟩
  intro x hx
  obtain ⟨hxm, hmay⟩ := hx
  refine cond_go (fun e => ?_) (fun e => ?_)
  · rw [ilt_eq, decide_eq_true_eq] at e
    refine ⟨⟨by omega, e⟩, trivial, ?_⟩
    have ex : Int.toNat (x : Int) = x := by omega
    rw [ex]
    cases hr2 : rightT 1 (f x) (g x) with
    | false => exact hK
    | true =>
      have e1 : W ((x : Int) + 1) = ((x + 1 : Nat) : Int) := W_in (by omega)
      rw [e1]
      refine okSt_intro (H := HR1 n m f g os s0) (x + 1 : Nat) (by kernel_rfl) ⟨⟨by omega, fun j hj => ?_⟩, by show m - (x + 1) < m - x; omega⟩
      by_cases hjx : j = x
      · subst hjx; exact hr2
      · exact hmay j (by omega)
  rw [ilt_eq, decide_eq_false_iff_not] at e
  have hxm' : x = m := by omega
  subst hxm'
  have rN : (0 : Int) ≤ n ∧ n = n ∧ n ≤ 4294967296 := ⟨by omega, rfl, by omega⟩
  have hI0 : RRI n 0 s0 (anNew n.toNat) (List.replicate n.toNat 0) (List.replicate n.toNat 0) [] := RRI.init n1 n8 (by rw [hs0]) (by rw [hs0]) (by rw [hs0]) (by rw [hs0])
  refine ⟨rN, rN, rN, okSt_intro (H := HR2 n x f g os) ⟨0, s0, anNew n.toNat, List.replicate n.toNat 0, List.replicate n.toNat 0, []⟩ (by kernel_rfl) ⟨⟨hI0, Nat.zero_le _, h200, hm, hmay⟩, trivial⟩, ?_, ?_, trivial⟩
  · intro y hy
    obtain ⟨hI, hi, _, _, _⟩ := hy
    refine cond_go (fun e => ?_) (fun e => ?_)
    · rw [ilt_eq, decide_eq_true_eq] at e
      have e' : y.i < os.length := by have : ((y.i : Nat) : Int) < (os.length : Nat) := e; omega
      have hod : 0 ≤ rq2 os y ∧ rq2 os y ≤ 255 := by
        have : rq2 os y = os[y.i] := by
          unfold rq2
          show List.getD os (Int.toNat (y.i : Int)) 0 = _
          rw [show Int.toNat (y.i : Int) = y.i from by omega, List.getD_eq_getElem?_getD, List.getElem?_eq_getElem e']; rfl
        rw [this]
        exact hos _ (List.getElem_mem e')
      have t0 : 0 ≤ Int.tmod (W (rq2 os y)) n := by
        have a1 : W (rq2 os y) = rq2 os y := W_in (by omega)
        rw [a1]; exact Int.tmod_nonneg _ hod.1
      have t1 : Int.tmod (W (rq2 os y)) n < n := Int.tmod_lt_of_pos _ (by omega)
      have hul : 0 + Int.toNat (Int.tmod (W (rq2 os y)) n) * 1 < y.ws.length := by rw [hI.lw]; omega
      have hu : 0 + Int.toNat (Int.tmod (W (rq2 os y)) n) * 1 < n.toNat := by omega
      have hun : ((0 + Int.toNat (Int.tmod (W (rq2 os y)) n) * 1 : Nat) : Int) = Int.tmod (W (rq2 os y)) n := by omega
      have r0 : (0 : Int) ≤ Int.tmod (W (rq2 os y)) n ∧ Int.tmod (W (rq2 os y)) n < ((Int.toNat n : Nat) : Int) := by omega
      refine ⟨⟨by omega, e⟩, by omega, r0, hul, ?_⟩
      cases hh : anHas y.3 (rq8 n os y) with
      | true =>
        have hg := anHas_get hh
        have hs : rq19 n os y = y.3 := anSet_same hg
        refine ⟨r0, hul, by rw [hs]; exact hul, ?_⟩
        rw [show anHas (rq19 n os y) (rq8 n os y) = true from by rw [hs]; exact hh]
        have := body_ok (K := K) (B := os.length - y.i) (f := f) (g := g) (os := os) (R := rq19 n os y) (by rw [hs]; exact hI) e' h200 rfl t0 t1 (by rw [hs]; exact hg) hm hmay
        exact this
      | false =>
        have hg := anHas_none hh hul
        have tm0 : 0 ≤ Int.tmod ((y.i : Nat) : Int) (x : Int) := Int.tmod_nonneg _ (by omega)
        have tm1 : Int.tmod ((y.i : Nat) : Int) (x : Int) < (x : Int) := Int.tmod_lt_of_pos _ (by omega)
        have hr6 : rq6 x y < x := by
          unfold rq6
          show Int.toNat (Int.tmod ((y.i : Nat) : Int) (x : Int)) < x
          omega
        have hrt := hmay (rq6 x y) hr6
        have hlen : ((y.ws.length : Nat)) = (rq27 n x f g os x y).length := (anSet_len _ _ _).symm
        have hget : (rq27 n x f g os x y)[rq8 n os y]? = some (some ⟨n, 3, anNF n 3 (Int.tmod (W (rq2 os y)) n) 1 (f (rq6 x y)) (g (rq6 x y))⟩) := anSet_get _ hul
        refine ⟨by omega, ⟨tm0, tm1⟩, ⟨⟨trivial, ⟨rfl, rfl⟩, trivial⟩, trivial⟩, r0, ⟨hul, rfl⟩, r0, hul, by rw [← hlen]; exact hul, ?_⟩
        rw [anHas_of hget]
        have hnew := hI.new hu hg hrt
        rw [hun] at hnew
        have := body_ok (K := K) (B := os.length - y.i) (f := f) (g := g) (os := os) (R := rq27 n x f g os x y) hnew e' h200 rfl t0 t1 (by rw [show anAt (rq27 n x f g os x y) (0 + Int.toNat (Int.tmod (W (rq2 os y)) n) * 1) = _ from anAt_of hget]; exact hget) hm hmay
        exact this
    · refine ⟨⟨rn, h3⟩, ⟨rfl, trivial⟩, ?_⟩
      obtain ⟨o1, o2, o3⟩ := hI.out
      exact out_ok ⟨n1, n8⟩ o1 o2 o3 hI.sn hK
  · intro y hy
    obtain ⟨hI, hlj, hi, _, _, _⟩ := hy
    have hRl : (rq15 n x y).length = y.x.ws.length := anSet_len _ _ _
    refine cond_go (fun e => ?_) (fun e => ?_)
    · rw [ilt_eq, decide_eq_true_eq] at e
      have e' : y.x.i < os.length := by have : ((y.x.i : Nat) : Int) < (os.length : Nat) := e; omega
      have hod : 0 ≤ rq5 os y ∧ rq5 os y ≤ 255 := by
        have : rq5 os y = os[y.x.i] := by
          unfold rq5
          show List.getD os (Int.toNat (y.x.i : Int)) 0 = _
          rw [show Int.toNat (y.x.i : Int) = y.x.i from by omega, List.getD_eq_getElem?_getD, List.getElem?_eq_getElem e']; rfl
        rw [this]
        exact hos _ (List.getElem_mem e')
      have t0 : 0 ≤ Int.tmod (W (rq5 os y)) n := by
        have a1 : W (rq5 os y) = rq5 os y := W_in (by omega)
        rw [a1]; exact Int.tmod_nonneg _ hod.1
      have t1 : Int.tmod (W (rq5 os y)) n < n := Int.tmod_lt_of_pos _ (by omega)
      have hRw : (rq15 n x y).length = n.toNat := hI.lw
      have hul : 0 + Int.toNat (Int.tmod (W (rq5 os y)) n) * 1 < (rq15 n x y).length := by rw [hRw]; omega
      have hu : 0 + Int.toNat (Int.tmod (W (rq5 os y)) n) * 1 < n.toNat := by omega
      have hun : ((0 + Int.toNat (Int.tmod (W (rq5 os y)) n) * 1 : Nat) : Int) = Int.tmod (W (rq5 os y)) n := by omega
      have r0 : (0 : Int) ≤ Int.tmod (W (rq5 os y)) n ∧ Int.tmod (W (rq5 os y)) n < ((Int.toNat n : Nat) : Int) := by omega
      refine ⟨⟨by omega, e⟩, by omega, r0, hlj, hul, ?_⟩
      cases hh : anHas (rq23 n x y) (rq11 n os y) with
      | true =>
        have hg : (rq15 n x y)[rq11 n os y]? = some (some (anAt (rq15 n x y) (rq11 n os y))) := anHas_get hh
        have hs : rq24 n os x y = rq15 n x y := anSet_same hg
        have hs2 : rq25 n os x y = rq15 n x y := hs
        refine ⟨r0, hul, by rw [hs]; exact hul, ?_⟩
        rw [show anHas (rq25 n os x y) (rq11 n os y) = true from by rw [hs2]; exact hh]
        have := body_ok (K := K) (B := os.length - y.x.i) (f := f) (g := g) (os := os) (R := rq25 n os x y) (by rw [hs2]; exact hI) e' h200 rfl t0 t1 (by rw [hs2]; exact hg) hm hmay
        exact this
      | false =>
        have hg : (rq15 n x y)[rq11 n os y]? = some none := anHas_none hh hul
        have tm0 : 0 ≤ Int.tmod ((y.x.i : Nat) : Int) (x : Int) := Int.tmod_nonneg _ (by omega)
        have tm1 : Int.tmod ((y.x.i : Nat) : Int) (x : Int) < (x : Int) := Int.tmod_lt_of_pos _ (by omega)
        have hr6 : rq14 x y < x := by
          unfold rq14
          show Int.toNat (Int.tmod ((y.x.i : Nat) : Int) (x : Int)) < x
          omega
        have hrt := hmay (rq14 x y) hr6
        have hlen : (rq15 n x y).length = (rq32 n x f g os x y).length := (anSet_len _ _ _).symm
        have hget : (rq32 n x f g os x y)[rq11 n os y]? = some (some ⟨n, 3, anNF n 3 (Int.tmod (W (rq5 os y)) n) 1 (f (rq14 x y)) (g (rq14 x y))⟩) := anSet_get _ hul
        have hget2 : (rq34 n x f g os x y)[rq11 n os y]? = some (some ⟨n, 3, anNF n 3 (Int.tmod (W (rq5 os y)) n) 1 (f (rq14 x y)) (g (rq14 x y))⟩) := hget
        refine ⟨by omega, ⟨tm0, tm1⟩, ⟨⟨trivial, ⟨rfl, rfl⟩, trivial⟩, trivial⟩, r0, ⟨hul, rfl⟩, r0, hul, by rw [← hlen]; exact hul, ?_⟩
        rw [anHas_of hget2]
        have hnew := hI.new hu hg hrt
        rw [hun] at hnew
        have := body_ok (K := K) (B := os.length - y.x.i) (f := f) (g := g) (os := os) (R := rq34 n x f g os x y) hnew e' h200 rfl t0 t1 (by rw [show anAt (rq34 n x f g os x y) (0 + Int.toNat (Int.tmod (W (rq5 os y)) n) * 1) = _ from anAt_of hget2]; exact hget2) hm hmay
        exact this
    · refine ⟨⟨rn, h3⟩, ⟨rfl, trivial⟩, ?_⟩
      obtain ⟨o1, o2, o3⟩ := hI.out
      exact out_ok ⟨n1, n8⟩ o1 o2 o3 hI.sn hK
end Go.Sh

