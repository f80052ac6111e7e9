import Derived.Test.YtjklokfpnbnndaaZSh24
set_option linter.all false
/- A machine that ensures a spare node, watched: the contract. -/
namespace Go.Sh
open Go Go.Proofs
variable [Con]
/-- what a machine that was watched leaves -/
structure ENR where
  A : List (List Int)
  sh : Bool
  st : STS
  s : MS
structure enDone (t n : Int) (e0 : ENS) (st0 : STS) (r : ENR) : Prop where
  ex : ∃ k e st A s, enTr t n e0 st0 k e st A ∧ okW s.xs ∧ s.xs.length = (2 * n + 5 * t + 6).toNat ∧ (enF t n e st s).d = true ∧ r.A = A ++ [rowM (enF t n e st s).s] ∧ r.sh = (enF t n e st s).e.sh ∧ r.st = (enF t n e st s).st ∧ r.s = (enF t n e st s).s
def enRH (t n : Int) (r : ENR) : Heap Ob := mH r.s ++ [some (.cells [.ptr 3 0, .bool r.sh, .top, .top, .top]), some (.cells [.int .i64 t, .int .i64 n, .int .i64 r.st.me, .int .i64 r.st.sp, .slice 5 0 r.st.R.length 1]), none, some (.ints (some .i64) r.st.R), some (.cells [.tslice 7 0 r.A.length 5, .int .i64 0, .bool false, .bool false]), some (.tab [some .i64, some .i64, some .u64, some .u64, none] r.A)]
def enRG (t n : Int) (r : ENR) : Heap Ob := mH r.s ++ [some (.cells [.ptr 3 0, .bool r.sh, .top, .top, .top]), some (.cells [.int .i64 t, .int .i64 n, .int .i64 r.st.me, .int .i64 r.st.sp, .slice 7 0 r.st.R.length 1]), none, some (.cells [.tslice 6 0 r.A.length 5, .int .i64 0, .bool false, .bool false]), some (.tab [some .i64, some .i64, some .u64, some .u64, none] r.A), some (.ints (some .i64) r.st.R)]
theorem wc {x y : Option (Entry Ob)} {g g2 : Heap Ob} (h : weakE x y) (k : weakH g g2) : weakH (x :: g) (y :: g2) := ⟨h, k⟩
theorem wv {v w : AVal} {vs ws : List AVal} (h : w = v ∨ w = .top) (k : weakV vs ws) : weakV (v :: vs) (w :: ws) := ⟨h, k⟩
theorem less_intro {K : AVal → Heap Ob → Prop} {v : AVal} {g g1 g2 g3 : Heap Ob} (e : g = g1) (e2 : g3 = g2) (w : weakH g1 g3) (hK : K v g2) : LessK K v g := by subst e e2; exact ⟨_, w, hK⟩
theorem vend : weakV [] [] := trivial
theorem wend : weakH ([] : Heap Ob) [] := trivial
theorem wcell {vs ws : List AVal} (h : weakV vs ws) : weakE (some (.cells vs) : Option (Entry Ob)) (some (.cells ws)) := h
theorem wvs : ∀ vs : List AVal, weakV vs vs
  | [] => trivial
  | v :: vs => ⟨.inl rfl, wvs vs⟩
theorem wsame : ∀ x : Option (Entry Ob), weakE x x
  | none => trivial
  | some (.cells vs) => wvs vs
  | some (.ints c xs) => rfl
  | some (.abs t ps) => rfl
  | some (.tab ks r) => rfl
  | some (.imap k v m) => rfl
theorem wnone {x : Option (Entry Ob)} : weakE x none := by cases x <;> simp [weakE]
theorem en_open {t n : Int} {r : ENR} {e : ENS} {K : AVal → Heap Ob → Prop} (hs : r.sh = e.sh) (hK : K (.tup [.ptr 6 0, .bool true, .bool true]) (enRH t n r)) :
    OpenK tbl (OpenK tbl (LessK (Trim 5 K))) (.tup [.ptr 5 0, .bool true, .bool true]) (mH r.s ++ [some (.abs (.ensure t n e) [3]), some (.abs (.store t n r.st) []), none, some (.cells [.tslice 6 0 r.A.length 5, .int .i64 0, .bool false, .bool false]), some (.tab [some .i64, some .i64, some .u64, some .u64, none] r.A)]) := by
  refine ⟨.store t n r.st, 3, 0, stG t n r.st, [], rfl, rfl, rfl, ?_⟩
  obtain ⟨ph, sh, dn, x, y⟩ := e
  dsimp only at hs
  subst hs
  match ph with
  | 0 => exact ⟨.ensure t n ⟨0, r.sh, dn, x, y⟩, 2, 1, enG t n ⟨0, r.sh, dn, x, y⟩, [3], rfl, rfl, rfl, less_intro (g2 := enRG t n r ++ []) (by exact rfl) (by exact rfl) (wc (wsame _) (wc (wsame _) (wc (wcell (wv (.inl rfl) (wv (.inl rfl) (wv (.inr rfl) (wv (.inr rfl) (wv (.inr rfl) vend)))))) (wc (wsame _) (wc (wsame _) (wc (wsame _) (wc (wsame _) (wc (wsame _) wend)))))))) (Eq.mp (by kernel_rfl) hK)⟩
  | 1 => exact ⟨.ensure t n ⟨1, r.sh, dn, x, y⟩, 2, 1, enG t n ⟨1, r.sh, dn, x, y⟩, [3], rfl, rfl, rfl, less_intro (g2 := enRG t n r ++ [none]) (by exact rfl) (by exact rfl) (wc (wsame _) (wc (wsame _) (wc (wcell (wv (.inl rfl) (wv (.inl rfl) (wv (.inr rfl) (wv (.inr rfl) (wv (.inr rfl) vend)))))) (wc (wsame _) (wc (wsame _) (wc (wsame _) (wc (wsame _) (wc (wsame _) (wc wnone wend))))))))) (Eq.mp (by kernel_rfl) hK)⟩
  | 2 => exact ⟨.ensure t n ⟨2, r.sh, dn, x, y⟩, 2, 1, enG t n ⟨2, r.sh, dn, x, y⟩, [3], rfl, rfl, rfl, less_intro (g2 := enRG t n r ++ [none, none]) (by exact rfl) (by exact rfl) (wc (wsame _) (wc (wsame _) (wc (wcell (wv (.inl rfl) (wv (.inl rfl) (wv (.inr rfl) (wv (.inr rfl) (wv (.inr rfl) vend)))))) (wc (wsame _) (wc (wsame _) (wc (wsame _) (wc (wsame _) (wc (wsame _) (wc wnone (wc wnone wend)))))))))) (Eq.mp (by kernel_rfl) hK)⟩
  | 3 => exact ⟨.ensure t n ⟨3, r.sh, dn, x, y⟩, 2, 1, enG t n ⟨3, r.sh, dn, x, y⟩, [3], rfl, rfl, rfl, less_intro (g2 := enRG t n r ++ [none, none, none, none, none]) (by exact rfl) (by exact rfl) (wc (wsame _) (wc (wsame _) (wc (wcell (wv (.inl rfl) (wv (.inl rfl) (wv (.inr rfl) (wv (.inr rfl) (wv (.inr rfl) vend)))))) (wc (wsame _) (wc (wsame _) (wc (wsame _) (wc (wsame _) (wc (wsame _) (wc wnone (wc wnone (wc wnone (wc wnone (wc wnone wend))))))))))))) (Eq.mp (by kernel_rfl) hK)⟩
  | k + 4 => exact ⟨.ensure t n ⟨k + 4, r.sh, dn, x, y⟩, 2, 1, enG t n ⟨k + 4, r.sh, dn, x, y⟩, [3], rfl, rfl, rfl, less_intro (g2 := enRG t n r ++ [none, none, none, none, none, none, none, none, none]) (by exact rfl) (by exact rfl) (wc (wsame _) (wc (wsame _) (wc (wcell (wv (.inl rfl) (wv (.inl rfl) (wv (.inr rfl) (wv (.inr rfl) (wv (.inr rfl) vend)))))) (wc (wsame _) (wc (wsame _) (wc (wsame _) (wc (wsame _) (wc (wsame _) (wc wnone (wc wnone (wc wnone (wc wnone (wc wnone (wc wnone (wc wnone (wc wnone (wc wnone wend))))))))))))))))) (Eq.mp (by kernel_rfl) hK)⟩
set_option maxRecDepth 20000 in
theorem en_call (p : Nat) (fa fx : Nat → Int) (t n : Int) (dn : Bool) (x : AL) (y : SWS) (st : STS) (s : MS) (K : AVal → Heap Ob → Prop) (hfx : ∀ i, 0 ≤ fx i ∧ fx i ≤ 18446744073709551615) (ht : 1 ≤ t ∧ t ≤ 8) (hn : 1 ≤ n ∧ n ≤ 1000) (hc0 : s.c = 0) (hl0 : s.xs.length = (2 * n + 5 * t + 6).toNat) (hw0 : okW s.xs)
    (hinv : ∀ k e st1 A, enTr t n ⟨0, false, dn, x, y⟩ st k e st1 A → k < 200 ∧ ∀ s : MS, 0 ≤ s.c ∧ s.c ≤ 1000000 → okE t n e st1 s)
    (hK : ∀ r, enDone t n ⟨0, false, dn, x, y⟩ st r → K (.tup [.ptr 6 0, .bool true, .bool true]) (enRH t n r)) :
    CallOk (obI tbl) Try.prog 29 [.ptr 0 0, .iface 58 (.ptr 2 0), .view p 2 (fun i => [.int .i64 (fa i), .int .u64 (fx i)]), .int .i64 200] (mH s ++ [some (.cells [.ptr 3 0, .bool false, .raw (.pointer none), .raw (.pointer none), .bool dn]), some (.cells [.int .i64 t, .int .i64 n, .int .i64 st.me, .int .i64 st.sp, .slice 4 0 st.R.length 1]), some (.ints (some .i64) st.R)]) K := by
  refine CallOk.trim (CallOk.less (CallOk.opened tbl (CallOk.opened tbl ?_)))
  refine CallOk.shut tbl (mH s ++ [some (.abs (.ensure t n ⟨0, false, dn, x, y⟩) [3]), some (.cells [.int .i64 t, .int .i64 n, .int .i64 st.me, .int .i64 st.sp, .slice 4 0 st.R.length 1]), some (.ints (some .i64) st.R)]) (.ensure t n ⟨0, false, dn, x, y⟩) 2 1 (enG t n ⟨0, false, dn, x, y⟩) [3] rfl rfl rfl rfl ?_
  refine CallOk.shut tbl (mH s ++ [some (.abs (.ensure t n ⟨0, false, dn, x, y⟩) [3]), some (.abs (.store t n st) [])]) (.store t n st) 3 0 (stG t n st) [] rfl rfl rfl rfl ?_
  refine en_print p fa fx t n ⟨0, false, dn, x, y⟩ st s _ (en_watch p fa fx t n _ st s _ hfx ht hn hc0 hl0 hw0 hinv ?_)
  intro k e st1 A s1 tr hw hl hk hd
  exact en_open (r := ⟨A ++ [rowM (enF t n e st1 s1).s], (enF t n e st1 s1).e.sh, (enF t n e st1 s1).st, (enF t n e st1 s1).s⟩) (e := (enF t n e st1 s1).e) rfl (hK _ ⟨k, e, st1, A, s1, tr, hw, hl, hd, rfl, rfl, rfl, rfl⟩)
end Go.Sh

/- A machine that ensures a spare node, watched: what was done, as a list. -/
namespace Go.Sh
open Go Go.Proofs
variable [Con]
/-- rows of tries to take a node that all failed: from a, with k left, to b, with j left -/
inductive TkR (n : Int) : Int → Nat → List (List Int) → Int → Nat → Prop where
  | nil (a : Int) (k : Nat) : TkR n a k [] a k
  | odd (a : Int) (k : Nat) (A : List (List Int)) (b : Int) (j : Nat) (y : Int) (h : TkR n a k A b (j + 1)) (hb : 1 ≤ b ∧ b ≤ n) (ho : oddB y = true) : TkR n a k (A ++ [[1, n + 4 + b, y, y, 1]]) (nextN n b) j
  | lost (a : Int) (k : Nat) (A : List (List Int)) (b : Int) (j : Nat) (y o : Int) (h : TkR n a k A b (j + 1)) (hb : 1 ≤ b ∧ b ≤ n) (ho : oddB y = false) (hne : o ≠ y) : TkR n a k (A ++ [[1, n + 4 + b, y, y, 1], [3, n + 4 + b, o, WU (y + 1), 0]]) (nextN n b) j
theorem TkR.len {n a : Int} {k : Nat} {A : List (List Int)} {b : Int} {j : Nat} (h : TkR n a k A b j) : A.length + 2 * j ≤ 2 * k := by
  induction h with
  | nil => simp
  | odd => simp only [List.length_append, List.length_cons, List.length_nil]; omega
  | lost => simp only [List.length_append, List.length_cons, List.length_nil]; omega
theorem nextN_in {n b : Int} (hn : 1 ≤ n) (hb : 1 ≤ b ∧ b ≤ n) : 1 ≤ nextN n b ∧ nextN n b ≤ n := by
  have := tmod_in (x := b) (t := n) (by omega) (by omega)
  unfold nextN; omega
def freeRow (n : Int) (x : AL) : List (List Int) := bif x.free then [[1, n + 4 + x.at', x.found, x.found, 1]] else []
structure okX (n a : Int) (k : Nat) (x : AL) (A1 : List (List Int)) : Prop where
  hg : x.got = 0
  ha : 1 ≤ x.at' ∧ x.at' ≤ n
  hl : 1 ≤ x.left ∧ x.left ≤ n
  tr : TkR n a k A1 x.at' x.left.toNat
  hf : x.free = true → oddB x.found = false
/-- what comes of a try -/
inductive TkC (n a : Int) (k : Nat) (e : ENS) (st : STS) (o : EO) (B : List (List Int)) : Prop where
  | got (A2 : List (List Int)) (b : Int) (j : Nat) (y : Int) (h : TkR n a k A2 b (j + 1)) (hb : 1 ≤ b ∧ b ≤ n) (ho : oddB y = false) (hB : B = A2 ++ [[1, n + 4 + b, y, y, 1], [3, n + 4 + b, y, WU (y + 1), 1]]) (hd : o.d = true) (hs : o.e.sh = e.sh) (ht : o.st = { st with sp := b })
  | on (x : AL) (A2 : List (List Int)) (h : okX n a k x A2) (hB : B = A2 ++ freeRow n x) (hd : o.d = false) (he : o.e = { e with ph := 1, x := x }) (ht : o.st = st)
  | out (x : AL) (b : Int) (h : TkR n a k B b 0) (hd : o.d = (e.dn || ieq (st.R.length : Int) 0)) (he : o.e = { e with ph := 2, sh := e.dn || ieq (st.R.length : Int) 0, x := x }) (ht : o.st = { st with sp := 0 })
theorem rowM_load {s : MS} {a : Int} (h : inB s.xs a = true) : rowM (s.loadd a) = [1, a, peek s.xs a, peek s.xs a, 1] := by
  show [1, a, peek s.xs a, peek s.xs a, bif inB s.xs a then 1 else 0] = _
  rw [h]; rfl
theorem rowM_add {s : MS} {a x : Int} (h : inB s.xs a = true) : rowM (s.added a x) = [4, a, peek s.xs a, WU (peek s.xs a + x), 1] := by
  show [4, a, peek s.xs a, bif inB s.xs a then _ else 0, bif inB s.xs a then 1 else 0] = _
  rw [h]; rfl
theorem rowM_cas {s : MS} {a o x : Int} (h : inB s.xs a = true) : rowM (s.cased a o x) = [3, a, peek s.xs a, x, bif casB s.xs a o then 1 else 0] := by
  show [3, a, peek s.xs a, bif inB s.xs a then x else 0, bif casB s.xs a o then 1 else 0] = _
  rw [h]; rfl
theorem enOn_case {n a : Int} {k : Nat} {e : ENS} {st : STS} {x : AL} {s : MS} {B : List (List Int)} (hg : x.got = 0) (ha : 1 ≤ x.at' ∧ x.at' ≤ n) (hl : 0 ≤ x.left ∧ x.left ≤ n) (tr : TkR n a k B x.at' x.left.toNat) (hf : x.free = false) : TkC n a k e st (enOn e st x s) B := by
  unfold enOn
  cases h : ile x.left 0 with
  | true =>
    rw [ile_eq, decide_eq_true_eq] at h
    have e0 : x.left.toNat = 0 := by omega
    rw [e0] at tr
    exact .out x x.at' tr rfl rfl rfl
  | false =>
    rw [ile_eq, decide_eq_false_iff_not] at h
    refine .on x B ⟨hg, ha, by omega, tr, fun c => by rw [hf] at c; cases c⟩ ?_ rfl rfl rfl
    unfold freeRow; rw [hf]; simp
theorem enTake_case {t n a : Int} {k : Nat} {e : ENS} {st : STS} {x : AL} {s : MS} {A1 : List (List Int)} (hn : 1 ≤ n) (ht : 1 ≤ t) (hlen : s.xs.length = (2 * n + 5 * t + 6).toNat) (h : okX n a k x A1) : TkC n a k e st (enTake n e st x s) (A1 ++ freeRow n x ++ [rowM (enTake n e st x s).s]) := by
  obtain ⟨hg, ha, hl, tr, hf⟩ := h
  have hin : inB s.xs (n + 4 + x.at') = true := inB_true.2 (by omega)
  have hnx := nextN_in hn ha
  have el : x.left.toNat = (x.left - 1).toNat + 1 := by omega
  rw [el] at tr
  unfold enTake freeRow
  cases hfr : x.free with
  | false =>
    simp only [cond_false, List.append_nil]
    cases ho : oddB (peek s.xs (n + 4 + x.at')) with
    | true =>
      have es : (enOn e st ⟨0, nextN n x.at', x.left - 1, peek s.xs (n + 4 + x.at'), false⟩ (s.loadd (n + 4 + x.at'))).s = s.loadd (n + 4 + x.at') := by unfold enOn; split <;> rfl
      dsimp only
      rw [es, rowM_load hin]
      exact enOn_case rfl hnx (by dsimp only; omega) (.odd _ _ _ _ _ _ tr ha ho) rfl
    | false =>
      dsimp only
      rw [rowM_load hin]
      refine .on ⟨0, x.at', x.left, peek s.xs (n + 4 + x.at'), true⟩ A1 ⟨rfl, ha, hl, by rw [el]; exact tr, fun _ => ho⟩ rfl rfl rfl rfl
  | true =>
    have hev := hf hfr
    simp only [cond_true]
    cases hb : casB s.xs (n + 4 + x.at') x.found with
    | true =>
      have hp : peek s.xs (n + 4 + x.at') = x.found := by
        unfold casB at hb
        rw [hin, ieq_eq] at hb
        simpa using hb
      dsimp only
      rw [rowM_cas hin, hb, hp]
      exact .got A1 x.at' _ x.found tr ha hev (by rw [List.append_assoc]; rfl) rfl rfl rfl
    | false =>
      have hp : peek s.xs (n + 4 + x.at') ≠ x.found := by
        unfold casB at hb
        rw [hin, ieq_eq] at hb
        simpa using hb
      have es : (enOn e st ⟨0, nextN n x.at', x.left - 1, x.found, false⟩ (s.cased (n + 4 + x.at') x.found (WU (x.found + 1)))).s = s.cased (n + 4 + x.at') x.found (WU (x.found + 1)) := by unfold enOn; split <;> rfl
      dsimp only
      rw [es, rowM_cas hin, hb, List.append_assoc]
      exact enOn_case rfl hnx (by dsimp only; omega) (.lost _ _ _ _ _ _ _ tr ha hev hp) rfl
/-- a scan's rows -/
structure ScR (t n : Int) (R : List Int) (S : List (List Int)) (ks fs : List Int) : Prop where
  ex : ∃ (ys : List Int) (gs : List (Int × Int)), okW ys ∧ (ys.length : Int) = 2 * t ∧ S = rowsFrom n 0 ys ++ rowsG n gs ∧ gs.map (·.1) = fs ∧ ks = keptL (seenOf ys) R ∧ fs = freedL (seenOf ys) R
/-- what was done till now -/
inductive HisE (t n a : Int) (k : Nat) (e0 : ENS) (st0 : STS) : ENS → STS → List (List Int) → Prop where
  | new : HisE t n a k e0 st0 e0 st0 []
  | take (x : AL) (y : SWS) (A1 : List (List Int)) (h0 : st0.sp = 0) (hx : okX n a k x A1) : HisE t n a k e0 st0 ⟨1, false, false, x, y⟩ st0 (A1 ++ freeRow n x)
  | swA (x : AL) (y : SWS) (A1 : List (List Int)) (b : Int) (h0 : st0.sp = 0) (h1 : TkR n a k A1 b 0) (hR : st0.R ≠ []) : HisE t n a k e0 st0 ⟨2, false, false, x, y⟩ { st0 with sp := 0 } A1
  | swB (x : AL) (y : SWS) (A1 : List (List Int)) (b : Int) (ys : List Int) (h0 : st0.sp = 0) (h1 : TkR n a k A1 b 0) (hR : st0.R ≠ []) (hw : okW ys) (hi : y.i = (ys.length : Int)) (h2 : 1 ≤ y.i ∧ y.i < 2 * t) (hm : y.m = seenOf ys) (hN : y.N = st0.R) : HisE t n a k e0 st0 ⟨3, false, false, x, y⟩ { st0 with sp := 0 } (A1 ++ rowsFrom n 0 ys)
  | swC (x : AL) (y : SWS) (A1 : List (List Int)) (b : Int) (ys : List Int) (gs : List (Int × Int)) (h0 : st0.sp = 0) (h1 : TkR n a k A1 b 0) (hR : st0.R ≠ []) (hw : okW ys) (hi : (ys.length : Int) = 2 * t) (h2 : y.i = 2 * t) (hk : y.ks = keptL (seenOf ys) st0.R) (hf : y.fs = freedL (seenOf ys) st0.R) (hg : y.gs = y.fs) (hj : y.j < y.fs.length) (hl : y.l = y.fs.length - y.j) (hgs : gs.map (·.1) = y.fs.take y.j) : HisE t n a k e0 st0 ⟨4, false, false, x, y⟩ { st0 with sp := 0 } (A1 ++ (rowsFrom n 0 ys ++ rowsG n gs))
  | again (x : AL) (y : SWS) (A1 S : List (List Int)) (b : Int) (ks fs : List Int) (h0 : st0.sp = 0) (h1 : TkR n a k A1 b 0) (hR : st0.R ≠ []) (hS : ScR t n st0.R S ks fs) (hf : fs ≠ []) : HisE t n a k e0 st0 ⟨0, false, true, x, y⟩ ⟨st0.me, 0, ks⟩ (A1 ++ S)
  | take2 (x : AL) (y : SWS) (A1 S A2 : List (List Int)) (b : Int) (ks fs : List Int) (h0 : st0.sp = 0) (h1 : TkR n a k A1 b 0) (hR : st0.R ≠ []) (hS : ScR t n st0.R S ks fs) (hf : fs ≠ []) (hx : okX n a k x A2) : HisE t n a k e0 st0 ⟨1, false, true, x, y⟩ ⟨st0.me, 0, ks⟩ (A1 ++ S ++ (A2 ++ freeRow n x))
/-- what was done in all; is it short; the store -/
inductive FinE (t n a : Int) (k : Nat) (st0 : STS) : List (List Int) → Bool → STS → Prop where
  | has (y z : Int) (h0 : st0.sp ≠ 0) : FinE t n a k st0 [[1, 0, y, y, z]] false st0
  | got (A1 : List (List Int)) (b : Int) (j : Nat) (y : Int) (h0 : st0.sp = 0) (h1 : TkR n a k A1 b (j + 1)) (hb : 1 ≤ b ∧ b ≤ n) (ho : oddB y = false) : FinE t n a k st0 (A1 ++ [[1, n + 4 + b, y, y, 1], [3, n + 4 + b, y, WU (y + 1), 1]]) false { st0 with sp := b }
  | none (A1 : List (List Int)) (b : Int) (h0 : st0.sp = 0) (h1 : TkR n a k A1 b 0) (hR : st0.R = []) : FinE t n a k st0 A1 true { st0 with sp := 0 }
  | kept (A1 S : List (List Int)) (b : Int) (ks : List Int) (h0 : st0.sp = 0) (h1 : TkR n a k A1 b 0) (hR : st0.R ≠ []) (hS : ScR t n st0.R S ks []) : FinE t n a k st0 (A1 ++ S) true ⟨st0.me, 0, ks⟩
  | got2 (A1 S A2 : List (List Int)) (b b2 : Int) (j : Nat) (y : Int) (ks fs : List Int) (h0 : st0.sp = 0) (h1 : TkR n a k A1 b 0) (hR : st0.R ≠ []) (hS : ScR t n st0.R S ks fs) (hf : fs ≠ []) (h2 : TkR n a k A2 b2 (j + 1)) (hb : 1 ≤ b2 ∧ b2 ≤ n) (ho : oddB y = false) : FinE t n a k st0 (A1 ++ S ++ (A2 ++ [[1, n + 4 + b2, y, y, 1], [3, n + 4 + b2, y, WU (y + 1), 1]])) false ⟨st0.me, b2, ks⟩
  | none2 (A1 S A2 : List (List Int)) (b b2 : Int) (ks fs : List Int) (h0 : st0.sp = 0) (h1 : TkR n a k A1 b 0) (hR : st0.R ≠ []) (hS : ScR t n st0.R S ks fs) (hf : fs ≠ []) (h2 : TkR n a k A2 b2 0) : FinE t n a k st0 (A1 ++ S ++ A2) true ⟨st0.me, 0, ks⟩
theorem at0_in {t n me : Int} (hn : 1 ≤ n) : 1 ≤ at0 t n me ∧ at0 t n me ≤ n := by
  unfold at0 nodeB
  cases h1 : (ile 1 (firstV t n me)) <;> cases h2 : ile (firstV t n me) n <;> simp only [Bool.and_true, Bool.and_false, Bool.and_self, cond_true, cond_false] <;> rw [ile_eq] at h1 h2 <;> simp at h1 h2 <;> omega
theorem nil_of {R : List Int} (h : ieq (R.length : Int) 0 = true) : R = [] := by
  rw [ieq_eq] at h
  have : (R.length : Int) = 0 := by simpa using h
  exact List.length_eq_zero_iff.1 (by omega)
/-- a step more, or the end -/
theorem his_step {t n a : Int} {k : Nat} {x0 : AL} {y0 : SWS} {st0 : STS} {e : ENS} {st : STS} {A : List (List Int)} {s : MS} (ht : 1 ≤ t ∧ t ≤ 8) (hn : 1 ≤ n ∧ n ≤ 1000) (ha : a = at0 t n st0.me) (hk : k = n.toNat) (hRn : ∀ r ∈ st0.R, 1 ≤ r ∧ r ≤ n)
    (h : HisE t n a k ⟨0, false, false, x0, y0⟩ st0 e st A) (hw : okW s.xs) (hlen : s.xs.length = (2 * n + 5 * t + 6).toNat) :
    ((enF t n e st s).d = false → HisE t n a k ⟨0, false, false, x0, y0⟩ st0 (enF t n e st s).e (enF t n e st s).st (A ++ [rowM (enF t n e st s).s])) ∧ ((enF t n e st s).d = true → FinE t n a k st0 (A ++ [rowM (enF t n e st s).s]) (enF t n e st s).e.sh (enF t n e st s).st) := by
  have hat : 1 ≤ a ∧ a ≤ n := by rw [ha]; exact at0_in hn.1
  have hx0 : okX n a k ⟨0, a, n, 0, false⟩ [] := ⟨rfl, hat, by dsimp only; omega, by rw [hk]; exact .nil a _, fun c => by cases c⟩
  cases h with
  | new =>
    cases hz : ieq st0.sp 0 with
    | false =>
      have hz' : st0.sp ≠ 0 := by rw [ieq_eq] at hz; simpa using hz
      have ee : enF t n ⟨0, false, false, x0, y0⟩ st0 s = ⟨true, ⟨0, false, false, x0, y0⟩, st0, s.loadd 0⟩ := by unfold enF; dsimp only; rw [hz] <;> rfl
      rw [ee]
      exact ⟨fun c => (Bool.noConfusion c), fun _ => .has _ _ hz'⟩
    | true =>
      have hz' : st0.sp = 0 := by rw [ieq_eq] at hz; simpa using hz
      have ee : enF t n ⟨0, false, false, x0, y0⟩ st0 s = enTake n ⟨0, false, false, x0, y0⟩ st0 ⟨0, a, n, 0, false⟩ s := by unfold enF; dsimp only; rw [hz, ha] <;> rfl
      rw [ee]
      have hc := enTake_case (e := ⟨0, false, false, x0, y0⟩) (st := st0) (s := s) hn.1 ht.1 hlen hx0
      have e1 : ([] : List (List Int)) ++ freeRow n ⟨0, a, n, 0, false⟩ = [] := rfl
      rw [e1] at hc
      cases hc with
      | got A2 b j y h hb ho hB hd hs ht =>
        rw [hB, hd, hs, ht]
        exact ⟨fun c => Bool.noConfusion c, fun _ => .got A2 b j y hz' h hb ho⟩
      | on x A2 h hB hd he ht =>
        rw [hB, hd, he, ht]
        exact ⟨fun _ => .take x y0 A2 hz' h, fun c => Bool.noConfusion c⟩
      | out x b h hd he ht =>
        rw [hd, he, ht]
        cases hr : ieq (st0.R.length : Int) 0 with
        | true =>
          have : st0.R = [] := nil_of hr
          exact ⟨fun c => Bool.noConfusion c, fun _ => .none _ b hz' h this⟩
        | false =>
          have : st0.R ≠ [] := by intro c; rw [c] at hr; cases hr
          exact ⟨fun _ => .swA x y0 _ b hz' h this, fun c => Bool.noConfusion c⟩
  | take x y A1 h0 hx =>
    have ee : enF t n ⟨1, false, false, x, y⟩ st0 s = enTake n ⟨1, false, false, x, y⟩ st0 x s := rfl
    rw [ee]
    have hc := enTake_case (e := ⟨1, false, false, x, y⟩) (st := st0) (s := s) hn.1 ht.1 hlen hx
    cases hc with
    | got A2 b j y h hb ho hB hd hs ht =>
      rw [hB, hd, hs, ht]
      exact ⟨fun c => Bool.noConfusion c, fun _ => .got A2 b j y h0 h hb ho⟩
    | on x' A2 h hB hd he ht =>
      rw [hB, hd, he, ht]
      exact ⟨fun _ => .take x' y A2 h0 h, fun c => Bool.noConfusion c⟩
    | out x' b h hd he ht =>
      rw [hd, he, ht]
      cases hr : ieq (st0.R.length : Int) 0 with
      | true =>
        have : st0.R = [] := nil_of hr
        exact ⟨fun c => Bool.noConfusion c, fun _ => .none _ b h0 h this⟩
      | false =>
        have : st0.R ≠ [] := by intro c; rw [c] at hr; cases hr
        exact ⟨fun _ => .swA x' y _ b h0 h this, fun c => Bool.noConfusion c⟩
  | swA x y A1 b h0 h1 hR =>
    have hin : inB s.xs (slotA n 0) = true := inB_true.2 (by unfold slotA; omega)
    have ee : enF t n ⟨2, false, false, x, y⟩ { st0 with sp := 0 } s = ⟨false, ⟨3, false, false, x, { y with N := st0.R, m := seenM [] n 0 s, i := 1 }⟩, { st0 with sp := 0 }, s.loadd (slotA n 0)⟩ := rfl
    rw [ee]
    refine ⟨fun _ => ?_, fun c => Bool.noConfusion c⟩
    dsimp only
    rw [rowM_load hin]
    exact .swB x _ A b [peek s.xs (slotA n 0)] h0 h1 hR ⟨fun z hz => by rw [List.mem_singleton] at hz; subst hz; exact okW_peek hw _⟩ rfl (by dsimp only; omega) rfl rfl
  | swB x y A1 b ys h0 h1 hR hwy hi h2 hm hN =>
    have hin : inB s.xs (slotA n y.i) = true := inB_true.2 (by unfold slotA; omega)
    have hrow : A1 ++ rowsFrom n 0 ys ++ [[1, slotA n y.i, peek s.xs (slotA n y.i), peek s.xs (slotA n y.i), 1]] = A1 ++ rowsFrom n 0 (ys ++ [peek s.xs (slotA n y.i)]) := by
      rw [rowsFrom_snoc, List.append_assoc, Nat.zero_add, ← hi]
    have hsee : seenM y.m n y.i s = seenOf (ys ++ [peek s.xs (slotA n y.i)]) := by rw [seenOf_snoc, ← hm]; rfl
    have hoy : okW (ys ++ [peek s.xs (slotA n y.i)]) := okW_snoc hwy (okW_peek hw _)
    have hyl : ((ys ++ [peek s.xs (slotA n y.i)]).length : Int) = y.i + 1 := by rw [List.length_append]; simp; omega
    cases he : ieq (y.i + 1) (2 * t) with
    | false =>
      have he' : y.i + 1 ≠ 2 * t := by rw [ieq_eq] at he; simpa using he
      have ee : enF t n ⟨3, false, false, x, y⟩ { st0 with sp := 0 } s = ⟨false, ⟨3, false, false, x, { y with m := seenM y.m n y.i s, i := y.i + 1 }⟩, { st0 with sp := 0 }, s.loadd (slotA n y.i)⟩ := by unfold enF; dsimp only; rw [he] <;> rfl
      rw [ee]
      refine ⟨fun _ => ?_, fun c => Bool.noConfusion c⟩
      dsimp only
      rw [rowM_load hin, hrow]
      exact .swB x _ A1 b _ h0 h1 hR hoy hyl.symm (by dsimp only; omega) hsee hN
    | true =>
      have he' : y.i + 1 = 2 * t := by rw [ieq_eq] at he; simpa using he
      cases hz : ieq ((freedL (seenM y.m n y.i s) y.N).length : Int) 0 with
      | true =>
        have ee : enF t n ⟨3, false, false, x, y⟩ { st0 with sp := 0 } s = ⟨true, ⟨0, true, true, x, y⟩, { st0 with sp := 0, R := keptL (seenM y.m n y.i s) y.N }, s.loadd (slotA n y.i)⟩ := by unfold enF; dsimp only; rw [he, hz] <;> rfl
        rw [ee]
        refine ⟨fun c => Bool.noConfusion c, fun _ => ?_⟩
        dsimp only
        rw [rowM_load hin, hrow, hsee, hN]
        rw [hsee, hN] at hz
        have hz' : freedL (seenOf (ys ++ [peek s.xs (slotA n y.i)])) st0.R = [] := by
          rw [ieq_eq] at hz
          have : ((freedL (seenOf (ys ++ [peek s.xs (slotA n y.i)])) st0.R).length : Int) = 0 := by simpa using hz
          exact List.length_eq_zero_iff.1 (by omega)
        exact .kept A1 _ b _ h0 h1 hR ⟨_, [], hoy, by omega, by simp [rowsG], rfl, rfl, hz'.symm⟩
      | false =>
        have ee : enF t n ⟨3, false, false, x, y⟩ { st0 with sp := 0 } s = ⟨false, ⟨4, false, false, x, ⟨0, y.N, seenM y.m n y.i s, y.i + 1, keptL (seenM y.m n y.i s) y.N, freedL (seenM y.m n y.i s) y.N, freedL (seenM y.m n y.i s) y.N, 0, (freedL (seenM y.m n y.i s) y.N).length⟩⟩, { st0 with sp := 0 }, s.loadd (slotA n y.i)⟩ := by unfold enF; dsimp only; rw [he, hz] <;> rfl
        rw [ee]
        refine ⟨fun _ => ?_, fun c => Bool.noConfusion c⟩
        dsimp only
        rw [rowM_load hin, hrow]
        have hz' : 0 < (freedL (seenM y.m n y.i s) y.N).length := by
          rw [ieq_eq] at hz
          have : ((freedL (seenM y.m n y.i s) y.N).length : Int) ≠ 0 := by simpa using hz
          omega
        have := HisE.swC (t := t) (n := n) (a := a) (k := k) (e0 := ⟨0, false, false, x0, y0⟩) (st0 := st0) x ⟨0, y.N, seenM y.m n y.i s, y.i + 1, keptL (seenM y.m n y.i s) y.N, freedL (seenM y.m n y.i s) y.N, freedL (seenM y.m n y.i s) y.N, 0, (freedL (seenM y.m n y.i s) y.N).length⟩ A1 b _ [] h0 h1 hR hoy (by omega) he' (by rw [hsee, hN]) (by rw [hsee, hN]) rfl hz' rfl rfl
        simpa [rowsG] using this
  | swC x y A1 b ys gs h0 h1 hR hwy hi h2 hk' hf hg hj hl hgs =>
    have hfj : List.getD y.fs (y.j + Int.toNat 0 * 1) 0 = y.fs[y.j] := by
      show List.getD y.fs (y.j + 0) 0 = y.fs[y.j]
      rw [Nat.add_zero, List.getD_eq_getElem?_getD, List.getElem?_eq_getElem hj]; rfl
    have hfn : 1 ≤ y.fs[y.j] ∧ y.fs[y.j] ≤ n := by
      have hm1 : y.fs[y.j] ∈ y.fs := List.getElem_mem hj
      have hm2 : y.fs[y.j] ∈ freedL (seenOf ys) st0.R := by rw [← hf]; exact hm1
      unfold freedL at hm2
      exact hRn _ (List.mem_filter.1 hm2).1
    have hlf : lifeA n y.gs y.j = n + 4 + y.fs[y.j] := by unfold lifeA; rw [hg, hfj]
    have hin : inB s.xs (lifeA n y.gs y.j) = true := inB_true.2 (by omega)
    have hrow : A1 ++ (rowsFrom n 0 ys ++ rowsG n gs) ++ [[4, lifeA n y.gs y.j, peek s.xs (lifeA n y.gs y.j), WU (peek s.xs (lifeA n y.gs y.j) + 1), 1]] = A1 ++ (rowsFrom n 0 ys ++ rowsG n (gs ++ [(y.fs[y.j], peek s.xs (lifeA n y.gs y.j))])) := by
      rw [rowsG_snoc, List.append_assoc, List.append_assoc, hlf]
    have hgs' : (gs ++ [(y.fs[y.j], peek s.xs (lifeA n y.gs y.j))]).map (·.1) = y.fs.take (y.j + 1) := by
      rw [List.map_append, hgs, List.take_succ_eq_append_getElem hj]; rfl
    cases hz : ieq ((y.l - 1 : Nat) : Int) 0 with
    | false =>
      have hz' : y.l - 1 ≠ 0 := by
        rw [ieq_eq] at hz
        have : ((y.l - 1 : Nat) : Int) ≠ 0 := by simpa using hz
        omega
      have ee : enF t n ⟨4, false, false, x, y⟩ { st0 with sp := 0 } s = ⟨false, ⟨4, false, false, x, { y with j := y.j + 1, l := y.l - 1 }⟩, { st0 with sp := 0 }, s.added (lifeA n y.gs y.j) 1⟩ := by unfold enF; dsimp only; rw [hz] <;> rfl
      rw [ee]
      refine ⟨fun _ => ?_, fun c => Bool.noConfusion c⟩
      dsimp only
      rw [rowM_add hin, hrow]
      exact .swC x { y with j := y.j + 1, l := y.l - 1 } A1 b ys _ h0 h1 hR hwy hi h2 hk' hf hg (by dsimp only; omega) (by dsimp only; omega) hgs'
    | true =>
      have hz' : y.l - 1 = 0 := by
        rw [ieq_eq] at hz
        have : ((y.l - 1 : Nat) : Int) = 0 := by simpa using hz
        omega
      have hfne : y.fs ≠ [] := by intro c; rw [c] at hj; cases hj
      have hfz : ieq (y.fs.length : Int) 0 = false := by
        cases h : ieq (y.fs.length : Int) 0 with
        | false => rfl
        | true => exact absurd (nil_of h) hfne
      have ee : enF t n ⟨4, false, false, x, y⟩ { st0 with sp := 0 } s = ⟨false, ⟨0, false, true, x, y⟩, { st0 with sp := 0, R := y.ks }, s.added (lifeA n y.gs y.j) 1⟩ := by unfold enF; dsimp only; rw [hz, hfz] <;> rfl
      rw [ee]
      refine ⟨fun _ => ?_, fun c => Bool.noConfusion c⟩
      dsimp only
      rw [rowM_add hin, hrow]
      exact .again x y A1 _ b y.ks y.fs h0 h1 hR ⟨ys, _, hwy, hi, rfl, by rw [hgs', List.take_of_length_le (by omega)], hk', hf⟩ hfne
  | again x y A1 S b ks fs h0 h1 hR hS hf =>
    have ee : enF t n ⟨0, false, true, x, y⟩ ⟨st0.me, 0, ks⟩ s = enTake n ⟨0, false, true, x, y⟩ ⟨st0.me, 0, ks⟩ ⟨0, a, n, 0, false⟩ s := by rw [ha]; rfl
    rw [ee]
    have hc := enTake_case (e := ⟨0, false, true, x, y⟩) (st := ⟨st0.me, 0, ks⟩) (s := s) hn.1 ht.1 hlen hx0
    have e1 : ([] : List (List Int)) ++ freeRow n ⟨0, a, n, 0, false⟩ = [] := rfl
    rw [e1, List.nil_append] at hc
    cases hc with
    | got A2 b2 j y h hb ho hB hd hs ht =>
      rw [hB, hd, hs, ht]
      exact ⟨fun c => Bool.noConfusion c, fun _ => .got2 A1 S A2 b b2 j y ks fs h0 h1 hR hS hf h hb ho⟩
    | on x' A2 h hB hd he ht =>
      rw [hB, hd, he, ht]
      exact ⟨fun _ => .take2 x' y A1 S A2 b ks fs h0 h1 hR hS hf h, fun c => Bool.noConfusion c⟩
    | out x' b2 h hd he ht =>
      rw [hd, he, ht]
      exact ⟨fun c => Bool.noConfusion c, fun _ => .none2 A1 S _ b b2 ks fs h0 h1 hR hS hf h⟩
  | take2 x y A1 S A2 b ks fs h0 h1 hR hS hf hx =>
    have ee : enF t n ⟨1, false, true, x, y⟩ ⟨st0.me, 0, ks⟩ s = enTake n ⟨1, false, true, x, y⟩ ⟨st0.me, 0, ks⟩ x s := rfl
    rw [ee]
    have hc := enTake_case (e := ⟨1, false, true, x, y⟩) (st := ⟨st0.me, 0, ks⟩) (s := s) hn.1 ht.1 hlen hx
    rw [List.append_assoc (A1 ++ S)]
    cases hc with
    | got A3 b2 j y h hb ho hB hd hs ht =>
      rw [hB, hd, hs, ht]
      exact ⟨fun c => Bool.noConfusion c, fun _ => .got2 A1 S A3 b b2 j y ks fs h0 h1 hR hS hf h hb ho⟩
    | on x' A3 h hB hd he ht =>
      rw [hB, hd, he, ht]
      exact ⟨fun _ => .take2 x' y A1 S A3 b ks fs h0 h1 hR hS hf h, fun c => Bool.noConfusion c⟩
    | out x' b2 h hd he ht =>
      rw [hd, he, ht]
      exact ⟨fun c => Bool.noConfusion c, fun _ => .none2 A1 S _ b b2 ks fs h0 h1 hR hS hf h⟩
theorem his_tr {t n : Int} {x0 : AL} {y0 : SWS} {st0 : STS} (ht : 1 ≤ t ∧ t ≤ 8) (hn : 1 ≤ n ∧ n ≤ 1000) (hRn : ∀ r ∈ st0.R, 1 ≤ r ∧ r ≤ n) {k : Nat} {e : ENS} {st : STS} {A : List (List Int)} (h : enTr t n ⟨0, false, false, x0, y0⟩ st0 k e st A) : A.length = k ∧ HisE t n (at0 t n st0.me) n.toNat ⟨0, false, false, x0, y0⟩ st0 e st A := by
  induction h with
  | nil => exact ⟨rfl, .new⟩
  | snoc k e st A s h hw hl hd ih =>
    exact ⟨by rw [List.length_append, ih.1]; rfl, (his_step ht hn rfl rfl hRn ih.2 hw hl).1 hd⟩
theorem ScR.len {t n : Int} {R : List Int} {S : List (List Int)} {ks fs : List Int} (h : ScR t n R S ks fs) : (S.length : Int) ≤ 2 * t + R.length := by
  obtain ⟨ys, gs, h1, h2, h3, h4, h5, h6⟩ := h
  have e1 : gs.length = fs.length := by rw [← h4, List.length_map]
  have e2 : fs.length ≤ R.length := by rw [h6]; exact filt_len _ _
  rw [h3, List.length_append, rowsFrom_len]
  unfold rowsG
  rw [List.length_map]; omega
theorem freeRow_len (n : Int) (x : AL) : (freeRow n x).length ≤ 1 := by unfold freeRow; cases x.free <;> simp
/-- the steps are few, and the machine is as its step asks for -/
theorem his_ok {t n : Int} {x0 : AL} {y0 : SWS} {st0 : STS} (ht : 1 ≤ t ∧ t ≤ 8) (hn : 1 ≤ n ∧ n ≤ 30) (hm : 0 ≤ st0.me ∧ st0.me ≤ 1000) (hR : st0.R.length ≤ 40) (hRn : ∀ r ∈ st0.R, 1 ≤ r ∧ r ≤ n) {e : ENS} {st : STS} {A : List (List Int)}
    (h : HisE t n (at0 t n st0.me) n.toNat ⟨0, false, false, x0, y0⟩ st0 e st A) : A.length < 200 ∧ ∀ s : MS, 0 ≤ s.c ∧ s.c ≤ 1000000 → okE t n e st s := by
  cases h with
  | new => exact ⟨by simp, fun s hs => ⟨by omega, by omega, hs, hm, by omega, trivial⟩⟩
  | take x y A1 h0 hx =>
    refine ⟨?_, fun s hs => ⟨by omega, by omega, hs, hm, by omega, ⟨hx.hg, hx.ha, by show 0 ≤ x.left ∧ x.left ≤ 1000; have := hx.hl; omega⟩⟩⟩
    have := hx.tr.len; have := freeRow_len n x
    rw [List.length_append]; omega
  | swA x y A1 b h0 h1 hR' =>
    refine ⟨?_, fun s hs => ⟨by omega, by omega, hs, hm, by show st0.R.length ≤ _; omega, trivial⟩⟩
    have := h1.len; omega
  | swB x y A1 b ys h0 h1 hR' hw hi h2 hm' hN =>
    refine ⟨?_, fun s hs => ⟨by omega, by omega, hs, hm, by show st0.R.length ≤ _; omega, ?_⟩⟩
    · have := h1.len
      rw [List.length_append, rowsFrom_len]; omega
    · show y.N.length ≤ 1000000 ∧ 0 ≤ y.i ∧ y.i < 2 * t
      rw [hN]; omega
  | swC x y A1 b ys gs h0 h1 hR' hw hi h2 hk hf hg hj hl hgs =>
    have e2 : y.fs.length ≤ st0.R.length := by rw [hf]; exact filt_len _ _
    have e1 : gs.length ≤ y.fs.length := by
      have := congrArg List.length hgs
      rw [List.length_map, List.length_take] at this; omega
    refine ⟨?_, fun s hs => ⟨by omega, by omega, hs, hm, by show st0.R.length ≤ _; omega, ?_⟩⟩
    · have := h1.len
      rw [List.length_append, List.length_append, rowsFrom_len]
      unfold rowsG
      rw [List.length_map]; omega
    · show 2 * t ≤ y.i ∧ 1 ≤ y.l ∧ y.gs.length = y.j + y.l ∧ -1000000 ≤ List.getD y.gs (y.j + Int.toNat 0 * 1) 0 ∧ List.getD y.gs (y.j + Int.toNat 0 * 1) 0 ≤ 1000000
      have hfj : List.getD y.gs (y.j + Int.toNat 0 * 1) 0 = y.fs[y.j] := by
        rw [hg]
        show List.getD y.fs (y.j + 0) 0 = y.fs[y.j]
        rw [Nat.add_zero, List.getD_eq_getElem?_getD, List.getElem?_eq_getElem hj]; rfl
      have hfn : 1 ≤ y.fs[y.j] ∧ y.fs[y.j] ≤ n := by
        have hm1 : y.fs[y.j] ∈ y.fs := List.getElem_mem hj
        have hm2 : y.fs[y.j] ∈ freedL (seenOf ys) st0.R := by rw [← hf]; exact hm1
        unfold freedL at hm2
        exact hRn _ (List.mem_filter.1 hm2).1
      rw [hfj, hg]; omega
  | again x y A1 S b ks fs h0 h1 hR' hS hf =>
    have hkl : ks.length ≤ st0.R.length := by obtain ⟨ys, gs, q1, q2, q3, q4, q5, q6⟩ := hS; rw [q5]; exact filt_len _ _
    refine ⟨?_, fun s hs => ⟨by omega, by omega, hs, hm, by show ks.length ≤ _; omega, trivial⟩⟩
    have := h1.len; have := hS.len
    rw [List.length_append]; omega
  | take2 x y A1 S A2 b ks fs h0 h1 hR' hS hf hx =>
    have hkl : ks.length ≤ st0.R.length := by obtain ⟨ys, gs, q1, q2, q3, q4, q5, q6⟩ := hS; rw [q5]; exact filt_len _ _
    refine ⟨?_, fun s hs => ⟨by omega, by omega, hs, hm, by show ks.length ≤ _; omega, ⟨hx.hg, hx.ha, by show 0 ≤ x.left ∧ x.left ≤ 1000; have := hx.hl; omega⟩⟩⟩
    have := h1.len; have := hS.len; have := hx.tr.len; have := freeRow_len n x; have := hx.hl
    rw [List.length_append, List.length_append, List.length_append]; omega
theorem en_fin {t n : Int} {x0 : AL} {y0 : SWS} {st0 : STS} {r : ENR} (ht : 1 ≤ t ∧ t ≤ 8) (hn : 1 ≤ n ∧ n ≤ 1000) (hRn : ∀ r ∈ st0.R, 1 ≤ r ∧ r ≤ n) (h : enDone t n ⟨0, false, false, x0, y0⟩ st0 r) : FinE t n (at0 t n st0.me) n.toNat st0 r.A r.sh r.st := by
  obtain ⟨k, e, st, A, s, tr, hw, hl, hd, e1, e2, e3, e4⟩ := h
  have := (his_step ht hn rfl rfl hRn (his_tr ht hn hRn tr).2 hw hl).2 hd
  rw [e1, e2, e3]; exact this
end Go.Sh

/- The document's way to take a node, over a tape: what comes of it. -/
namespace Go.Sh
open Go Go.Proofs
variable [Con]
theorem tcas {A : List (List Int)} {i a x y : Int} {r : List Int} (hi : 0 ≤ i) (h : A[i.toNat]? = some r) (hk : a0 r = 3) (ha : a1 r = a) (h3 : a3 r = y) (h4 : a4 r = ieq (a2 r) x) : tCas A ⟨i, false, false⟩ a x y = ⟨i + 1, false, false⟩ := by
  obtain ⟨e1, e2⟩ := tkk hi h hk ha
  unfold tCas
  rw [e1, e2, h3, h4, ieq_self]
  cases ieq (a2 r) x <;> cases tNo r <;> rfl
def at1 (n a : Int) : Int := bif nodeB n a then a else 1
theorem nodeB_dec (n a : Int) : nodeB n a = decide (1 ≤ a ∧ a ≤ n) := by
  unfold nodeB
  cases h1 : (ile 1 a) <;> cases h2 : ile a n <;> rw [ile_eq] at h1 h2 <;> simp at h1 h2 <;> simp <;> omega
theorem take_walk (A : List (List Int)) (t n a : Int) (p : Nat) (g : Int) (q : Nat) (K : AVal → Heap Ob → Prop) (ht : 1 ≤ t ∧ t ≤ 8) (hn : 1 ≤ n ∧ n ≤ 1000) (hp : p ≤ A.length) (hA : A.length ≤ 1000000) (h00 : TkO n A n.toNat (at1 n a) p g q) (hK : K (.int .i64 g) (tpT A (q : Int))) : takeVC A t n a (p : Int) g q K := by
  have start : ∀ b : Int, at1 n a = b → 1 ≤ b ∧ b ≤ n → okTK n A g q ⟨0, b, p⟩ := by
    intro b hb hb2
    refine ⟨by show ((0 : Nat) : Int) ≤ n; omega, hb2, hp, ?_⟩
    show TkO n A (n.toNat - 0) b p g q
    rw [← hb]; exact h00
  unfold takeVC
  refine lt_go (fun h1 => ?_) (fun h1 => lt_go (fun h2 => ?_) (fun h2 => ?_))
  · have e : at1 n a = 1 := by unfold at1; rw [nodeB_dec, decide_eq_false (by omega)]; rfl
    refine ⟨okSt_intro (H := HTK A t n g q) ⟨0, 1, p⟩ rfl (start 1 e (by omega)), ?_⟩
    rintro ⟨i, b, p⟩ ⟨hi, hb, hp, tr⟩
    dsimp only at hi hb hp tr ⊢
    refine lt_go (fun hin => ?_) (fun hin => ?_)
    · have ek : n.toNat - i = (n.toNat - (i + 1)) + 1 := by omega
      rw [ek] at tr
      have hnx := nextN_in hn.1 hb
      have e1 : W (Int.tmod b n + 1) = nextN n b := W_id (by have := nextN_in hn.1 hb; unfold nextN at this; omega)
      have e2 : W ((i : Int) + 1) = ((i + 1 : Nat) : Int) := by rw [W_id (by omega)]; rfl
      have hmu : n.toNat - (i + 1) < n.toNat - i := by omega
      rw [e1, e2]
      cases tr with
      | odd k a2 p2 y z w g2 q2 h ho hr =>
        have hlt : p < A.length := by
          rcases Nat.lt_or_ge p A.length with h1 | h1
          · exact h1
          · rw [List.getElem?_eq_none h1] at h; cases h
        obtain ⟨c1, c2⟩ := tkk (A := A) (i := (p : Int)) (k := 1) (a := n + 4 + b) (by omega) h rfl rfl
        rw [c1, c2]
        refine ⟨trivial, by omega, ⟨rfl, by omega⟩, by omega, ?_⟩
        have ho' : ieq (Int.tmod y 2) 0 = false := by unfold oddB at ho; simpa using ho
        show cond (ieq (Int.tmod y 2) 0) _ _
        rw [ho']
        exact ⟨by omega, okSt_intro (H := HTK A t n g q) ⟨i + 1, nextN n b, p + 1⟩ rfl ⟨⟨by show ((i + 1 : Nat) : Int) ≤ n; omega, hnx, hlt, hr⟩, hmu⟩⟩
      | got k a2 p2 y z w h ho h2 =>
        have hlt : p + 1 < A.length := by
          rcases Nat.lt_or_ge (p + 1) A.length with h1 | h1
          · exact h1
          · rw [List.getElem?_eq_none h1] at h2; cases h2
        obtain ⟨c1, c2⟩ := tkk (A := A) (i := (p : Int)) (k := 1) (a := n + 4 + g) (by omega) h rfl rfl
        have h2' : A[((p : Int) + 1).toNat]? = some [3, n + 4 + g, y, WU (y + 1), 1] := by rw [← h2]; rfl
        obtain ⟨c3, c4⟩ := tkk (A := A) (i := (p : Int) + 1) (k := 3) (a := n + 4 + g) (by omega) h2' rfl rfl
        have c5 := tcas (A := A) (i := (p : Int) + 1) (a := n + 4 + g) (x := y) (y := WU (y + 1)) (by omega) h2' rfl rfl rfl (by show (!ieq 1 0) = ieq y y; rw [ieq_self]; rfl)
        rw [c1, c2, c4]
        refine ⟨trivial, by omega, ⟨rfl, by omega⟩, by omega, ?_⟩
        have ho' : ieq (Int.tmod y 2) 0 = true := by unfold oddB at ho; simpa using ho
        show cond (ieq (Int.tmod y 2) 0) _ _
        rw [ho']
        refine ⟨by omega, ⟨rfl, by show 0 ≤ (p : Int) + 1 ∧ (p : Int) + 1 ≤ _; omega⟩, ?_⟩
        show K (.int .i64 g) [some (.cells [.tslice 1 0 A.length 5, .int .i64 (tCas A ⟨(p : Int) + 1, false, false⟩ (n + 4 + g) y (WU (y + 1))).i, .bool (tCas A ⟨(p : Int) + 1, false, false⟩ (n + 4 + g) y (WU (y + 1))).bad, .bool (tCas A ⟨(p : Int) + 1, false, false⟩ (n + 4 + g) y (WU (y + 1))).out]), some (.tab [some .i64, some .i64, some .u64, some .u64, none] A)]
        rw [c5]
        exact hK
      | lost k a2 p2 y z w o g2 q2 h ho h2 hne hr =>
        have hlt : p + 1 < A.length := by
          rcases Nat.lt_or_ge (p + 1) A.length with h1 | h1
          · exact h1
          · rw [List.getElem?_eq_none h1] at h2; cases h2
        obtain ⟨c1, c2⟩ := tkk (A := A) (i := (p : Int)) (k := 1) (a := n + 4 + b) (by omega) h rfl rfl
        have h2' : A[((p : Int) + 1).toNat]? = some [3, n + 4 + b, o, WU (y + 1), 0] := by rw [← h2]; rfl
        obtain ⟨c3, c4⟩ := tkk (A := A) (i := (p : Int) + 1) (k := 3) (a := n + 4 + b) (by omega) h2' rfl rfl
        have hoy : ieq o y = false := by rw [ieq_eq]; simpa using hne
        have c5 := tcas (A := A) (i := (p : Int) + 1) (a := n + 4 + b) (x := y) (y := WU (y + 1)) (by omega) h2' rfl rfl rfl (by show (!ieq 0 0) = ieq o y; rw [hoy]; rfl)
        rw [c1, c2, c4]
        refine ⟨trivial, by omega, ⟨rfl, by omega⟩, by omega, ?_⟩
        have ho' : ieq (Int.tmod y 2) 0 = true := by unfold oddB at ho; simpa using ho
        show cond (ieq (Int.tmod y 2) 0) _ _
        rw [ho']
        refine ⟨by omega, ⟨rfl, by show 0 ≤ (p : Int) + 1 ∧ (p : Int) + 1 ≤ _; omega⟩, by omega, ?_⟩
        show okSt _ _ _ [some (.cells [.tslice 1 0 A.length 5, .int .i64 (tCas A ⟨(p : Int) + 1, false, false⟩ (n + 4 + b) y (WU (y + 1))).i, .bool (tCas A ⟨(p : Int) + 1, false, false⟩ (n + 4 + b) y (WU (y + 1))).bad, .bool (tCas A ⟨(p : Int) + 1, false, false⟩ (n + 4 + b) y (WU (y + 1))).out]), some (.tab [some .i64, some .i64, some .u64, some .u64, none] A), _]
        rw [c5]
        exact okSt_intro (H := HTK A t n g q) ⟨i + 1, nextN n b, p + 2⟩ rfl ⟨⟨by show ((i + 1 : Nat) : Int) ≤ n; omega, hnx, hlt, hr⟩, hmu⟩
    · have e0 : n.toNat - i = 0 := by omega
      rw [e0] at tr
      cases tr
      exact hK
  · have e : at1 n a = 1 := by unfold at1; rw [nodeB_dec, decide_eq_false (by omega)]; rfl
    refine ⟨okSt_intro (H := HTK A t n g q) ⟨0, 1, p⟩ rfl (start 1 e (by omega)), ?_⟩
    rintro ⟨i, b, p⟩ ⟨hi, hb, hp, tr⟩
    dsimp only at hi hb hp tr ⊢
    refine lt_go (fun hin => ?_) (fun hin => ?_)
    · have ek : n.toNat - i = (n.toNat - (i + 1)) + 1 := by omega
      rw [ek] at tr
      have hnx := nextN_in hn.1 hb
      have e1 : W (Int.tmod b n + 1) = nextN n b := W_id (by have := nextN_in hn.1 hb; unfold nextN at this; omega)
      have e2 : W ((i : Int) + 1) = ((i + 1 : Nat) : Int) := by rw [W_id (by omega)]; rfl
      have hmu : n.toNat - (i + 1) < n.toNat - i := by omega
      rw [e1, e2]
      cases tr with
      | odd k a2 p2 y z w g2 q2 h ho hr =>
        have hlt : p < A.length := by
          rcases Nat.lt_or_ge p A.length with h1 | h1
          · exact h1
          · rw [List.getElem?_eq_none h1] at h; cases h
        obtain ⟨c1, c2⟩ := tkk (A := A) (i := (p : Int)) (k := 1) (a := n + 4 + b) (by omega) h rfl rfl
        rw [c1, c2]
        refine ⟨trivial, by omega, ⟨rfl, by omega⟩, by omega, ?_⟩
        have ho' : ieq (Int.tmod y 2) 0 = false := by unfold oddB at ho; simpa using ho
        show cond (ieq (Int.tmod y 2) 0) _ _
        rw [ho']
        exact ⟨by omega, okSt_intro (H := HTK A t n g q) ⟨i + 1, nextN n b, p + 1⟩ rfl ⟨⟨by show ((i + 1 : Nat) : Int) ≤ n; omega, hnx, hlt, hr⟩, hmu⟩⟩
      | got k a2 p2 y z w h ho h2 =>
        have hlt : p + 1 < A.length := by
          rcases Nat.lt_or_ge (p + 1) A.length with h1 | h1
          · exact h1
          · rw [List.getElem?_eq_none h1] at h2; cases h2
        obtain ⟨c1, c2⟩ := tkk (A := A) (i := (p : Int)) (k := 1) (a := n + 4 + g) (by omega) h rfl rfl
        have h2' : A[((p : Int) + 1).toNat]? = some [3, n + 4 + g, y, WU (y + 1), 1] := by rw [← h2]; rfl
        obtain ⟨c3, c4⟩ := tkk (A := A) (i := (p : Int) + 1) (k := 3) (a := n + 4 + g) (by omega) h2' rfl rfl
        have c5 := tcas (A := A) (i := (p : Int) + 1) (a := n + 4 + g) (x := y) (y := WU (y + 1)) (by omega) h2' rfl rfl rfl (by show (!ieq 1 0) = ieq y y; rw [ieq_self]; rfl)
        rw [c1, c2, c4]
        refine ⟨trivial, by omega, ⟨rfl, by omega⟩, by omega, ?_⟩
        have ho' : ieq (Int.tmod y 2) 0 = true := by unfold oddB at ho; simpa using ho
        show cond (ieq (Int.tmod y 2) 0) _ _
        rw [ho']
        refine ⟨by omega, ⟨rfl, by show 0 ≤ (p : Int) + 1 ∧ (p : Int) + 1 ≤ _; omega⟩, ?_⟩
        show K (.int .i64 g) [some (.cells [.tslice 1 0 A.length 5, .int .i64 (tCas A ⟨(p : Int) + 1, false, false⟩ (n + 4 + g) y (WU (y + 1))).i, .bool (tCas A ⟨(p : Int) + 1, false, false⟩ (n + 4 + g) y (WU (y + 1))).bad, .bool (tCas A ⟨(p : Int) + 1, false, false⟩ (n + 4 + g) y (WU (y + 1))).out]), some (.tab [some .i64, some .i64, some .u64, some .u64, none] A)]
        rw [c5]
        exact hK
      | lost k a2 p2 y z w o g2 q2 h ho h2 hne hr =>
        have hlt : p + 1 < A.length := by
          rcases Nat.lt_or_ge (p + 1) A.length with h1 | h1
          · exact h1
          · rw [List.getElem?_eq_none h1] at h2; cases h2
        obtain ⟨c1, c2⟩ := tkk (A := A) (i := (p : Int)) (k := 1) (a := n + 4 + b) (by omega) h rfl rfl
        have h2' : A[((p : Int) + 1).toNat]? = some [3, n + 4 + b, o, WU (y + 1), 0] := by rw [← h2]; rfl
        obtain ⟨c3, c4⟩ := tkk (A := A) (i := (p : Int) + 1) (k := 3) (a := n + 4 + b) (by omega) h2' rfl rfl
        have hoy : ieq o y = false := by rw [ieq_eq]; simpa using hne
        have c5 := tcas (A := A) (i := (p : Int) + 1) (a := n + 4 + b) (x := y) (y := WU (y + 1)) (by omega) h2' rfl rfl rfl (by show (!ieq 0 0) = ieq o y; rw [hoy]; rfl)
        rw [c1, c2, c4]
        refine ⟨trivial, by omega, ⟨rfl, by omega⟩, by omega, ?_⟩
        have ho' : ieq (Int.tmod y 2) 0 = true := by unfold oddB at ho; simpa using ho
        show cond (ieq (Int.tmod y 2) 0) _ _
        rw [ho']
        refine ⟨by omega, ⟨rfl, by show 0 ≤ (p : Int) + 1 ∧ (p : Int) + 1 ≤ _; omega⟩, by omega, ?_⟩
        show okSt _ _ _ [some (.cells [.tslice 1 0 A.length 5, .int .i64 (tCas A ⟨(p : Int) + 1, false, false⟩ (n + 4 + b) y (WU (y + 1))).i, .bool (tCas A ⟨(p : Int) + 1, false, false⟩ (n + 4 + b) y (WU (y + 1))).bad, .bool (tCas A ⟨(p : Int) + 1, false, false⟩ (n + 4 + b) y (WU (y + 1))).out]), some (.tab [some .i64, some .i64, some .u64, some .u64, none] A), _]
        rw [c5]
        exact okSt_intro (H := HTK A t n g q) ⟨i + 1, nextN n b, p + 2⟩ rfl ⟨⟨by show ((i + 1 : Nat) : Int) ≤ n; omega, hnx, hlt, hr⟩, hmu⟩
    · have e0 : n.toNat - i = 0 := by omega
      rw [e0] at tr
      cases tr
      exact hK
  · have e : at1 n a = a := by unfold at1; rw [nodeB_dec, decide_eq_true (by omega)]; rfl
    refine ⟨okSt_intro (H := HTK A t n g q) ⟨0, a, p⟩ rfl (start a e (by omega)), ?_⟩
    rintro ⟨i, b, p⟩ ⟨hi, hb, hp, tr⟩
    dsimp only at hi hb hp tr ⊢
    refine lt_go (fun hin => ?_) (fun hin => ?_)
    · have ek : n.toNat - i = (n.toNat - (i + 1)) + 1 := by omega
      rw [ek] at tr
      have hnx := nextN_in hn.1 hb
      have e1 : W (Int.tmod b n + 1) = nextN n b := W_id (by have := nextN_in hn.1 hb; unfold nextN at this; omega)
      have e2 : W ((i : Int) + 1) = ((i + 1 : Nat) : Int) := by rw [W_id (by omega)]; rfl
      have hmu : n.toNat - (i + 1) < n.toNat - i := by omega
      rw [e1, e2]
      cases tr with
      | odd k a2 p2 y z w g2 q2 h ho hr =>
        have hlt : p < A.length := by
          rcases Nat.lt_or_ge p A.length with h1 | h1
          · exact h1
          · rw [List.getElem?_eq_none h1] at h; cases h
        obtain ⟨c1, c2⟩ := tkk (A := A) (i := (p : Int)) (k := 1) (a := n + 4 + b) (by omega) h rfl rfl
        rw [c1, c2]
        refine ⟨trivial, by omega, ⟨rfl, by omega⟩, by omega, ?_⟩
        have ho' : ieq (Int.tmod y 2) 0 = false := by unfold oddB at ho; simpa using ho
        show cond (ieq (Int.tmod y 2) 0) _ _
        rw [ho']
        exact ⟨by omega, okSt_intro (H := HTK A t n g q) ⟨i + 1, nextN n b, p + 1⟩ rfl ⟨⟨by show ((i + 1 : Nat) : Int) ≤ n; omega, hnx, hlt, hr⟩, hmu⟩⟩
      | got k a2 p2 y z w h ho h2 =>
        have hlt : p + 1 < A.length := by
          rcases Nat.lt_or_ge (p + 1) A.length with h1 | h1
          · exact h1
          · rw [List.getElem?_eq_none h1] at h2; cases h2
        obtain ⟨c1, c2⟩ := tkk (A := A) (i := (p : Int)) (k := 1) (a := n + 4 + g) (by omega) h rfl rfl
        have h2' : A[((p : Int) + 1).toNat]? = some [3, n + 4 + g, y, WU (y + 1), 1] := by rw [← h2]; rfl
        obtain ⟨c3, c4⟩ := tkk (A := A) (i := (p : Int) + 1) (k := 3) (a := n + 4 + g) (by omega) h2' rfl rfl
        have c5 := tcas (A := A) (i := (p : Int) + 1) (a := n + 4 + g) (x := y) (y := WU (y + 1)) (by omega) h2' rfl rfl rfl (by show (!ieq 1 0) = ieq y y; rw [ieq_self]; rfl)
        rw [c1, c2, c4]
        refine ⟨trivial, by omega, ⟨rfl, by omega⟩, by omega, ?_⟩
        have ho' : ieq (Int.tmod y 2) 0 = true := by unfold oddB at ho; simpa using ho
        show cond (ieq (Int.tmod y 2) 0) _ _
        rw [ho']
        refine ⟨by omega, ⟨rfl, by show 0 ≤ (p : Int) + 1 ∧ (p : Int) + 1 ≤ _; omega⟩, ?_⟩
        show K (.int .i64 g) [some (.cells [.tslice 1 0 A.length 5, .int .i64 (tCas A ⟨(p : Int) + 1, false, false⟩ (n + 4 + g) y (WU (y + 1))).i, .bool (tCas A ⟨(p : Int) + 1, false, false⟩ (n + 4 + g) y (WU (y + 1))).bad, .bool (tCas A ⟨(p : Int) + 1, false, false⟩ (n + 4 + g) y (WU (y + 1))).out]), some (.tab [some .i64, some .i64, some .u64, some .u64, none] A)]
        rw [c5]
        exact hK
      | lost k a2 p2 y z w o g2 q2 h ho h2 hne hr =>
        have hlt : p + 1 < A.length := by
          rcases Nat.lt_or_ge (p + 1) A.length with h1 | h1
          · exact h1
          · rw [List.getElem?_eq_none h1] at h2; cases h2
        obtain ⟨c1, c2⟩ := tkk (A := A) (i := (p : Int)) (k := 1) (a := n + 4 + b) (by omega) h rfl rfl
        have h2' : A[((p : Int) + 1).toNat]? = some [3, n + 4 + b, o, WU (y + 1), 0] := by rw [← h2]; rfl
        obtain ⟨c3, c4⟩ := tkk (A := A) (i := (p : Int) + 1) (k := 3) (a := n + 4 + b) (by omega) h2' rfl rfl
        have hoy : ieq o y = false := by rw [ieq_eq]; simpa using hne
        have c5 := tcas (A := A) (i := (p : Int) + 1) (a := n + 4 + b) (x := y) (y := WU (y + 1)) (by omega) h2' rfl rfl rfl (by show (!ieq 0 0) = ieq o y; rw [hoy]; rfl)
        rw [c1, c2, c4]
        refine ⟨trivial, by omega, ⟨rfl, by omega⟩, by omega, ?_⟩
        have ho' : ieq (Int.tmod y 2) 0 = true := by unfold oddB at ho; simpa using ho
        show cond (ieq (Int.tmod y 2) 0) _ _
        rw [ho']
        refine ⟨by omega, ⟨rfl, by show 0 ≤ (p : Int) + 1 ∧ (p : Int) + 1 ≤ _; omega⟩, by omega, ?_⟩
        show okSt _ _ _ [some (.cells [.tslice 1 0 A.length 5, .int .i64 (tCas A ⟨(p : Int) + 1, false, false⟩ (n + 4 + b) y (WU (y + 1))).i, .bool (tCas A ⟨(p : Int) + 1, false, false⟩ (n + 4 + b) y (WU (y + 1))).bad, .bool (tCas A ⟨(p : Int) + 1, false, false⟩ (n + 4 + b) y (WU (y + 1))).out]), some (.tab [some .i64, some .i64, some .u64, some .u64, none] A), _]
        rw [c5]
        exact okSt_intro (H := HTK A t n g q) ⟨i + 1, nextN n b, p + 2⟩ rfl ⟨⟨by show ((i + 1 : Nat) : Int) ≤ n; omega, hnx, hlt, hr⟩, hmu⟩
    · have e0 : n.toNat - i = 0 := by omega
      rw [e0] at tr
      cases tr
      exact hK
theorem TkO.uniq {n : Int} {A : List (List Int)} {k : Nat} {a : Int} {p : Nat} {g : Int} {q : Nat} (h : TkO n A k a p g q) : ∀ {g' : Int} {q' : Nat}, TkO n A k a p g' q' → g = g' ∧ q = q' := by
  induction h with
  | out a p => intro g' q' h'; cases h'; exact ⟨rfl, rfl⟩
  | odd k a p y z w g q h ho hr ih =>
    intro g' q' h'
    cases h' with
    | odd _ _ _ y2 z2 w2 _ _ h2 ho2 hr2 => exact ih hr2
    | got _ _ _ y2 z2 w2 h2 ho2 h3 => rw [h] at h2; simp only [Option.some.injEq, List.cons.injEq] at h2; rw [h2.2.2.1, ho2] at ho; cases ho
    | lost _ _ _ y2 z2 w2 o2 _ _ h2 ho2 h3 hne hr2 => rw [h] at h2; simp only [Option.some.injEq, List.cons.injEq] at h2; rw [h2.2.2.1, ho2] at ho; cases ho
  | got k a p y z w h ho h2 =>
    intro g' q' h'
    cases h' with
    | odd _ _ _ y2 z2 w2 _ _ h3 ho2 hr2 => rw [h] at h3; simp only [Option.some.injEq, List.cons.injEq] at h3; rw [h3.2.2.1, ho2] at ho; cases ho
    | got _ _ _ y2 z2 w2 h3 ho2 h4 => exact ⟨rfl, rfl⟩
    | lost _ _ _ y2 z2 w2 o2 _ _ h3 ho2 h4 hne hr2 => rw [h2] at h4; simp at h4
  | lost k a p y z w o g q h ho h2 hne hr ih =>
    intro g' q' h'
    cases h' with
    | odd _ _ _ y2 z2 w2 _ _ h3 ho2 hr2 => rw [h] at h3; simp only [Option.some.injEq, List.cons.injEq] at h3; rw [h3.2.2.1, ho2] at ho; cases ho
    | got _ _ _ y2 z2 w2 h3 ho2 h4 => rw [h2] at h4; simp at h4
    | lost _ _ _ y2 z2 w2 o2 _ _ h3 ho2 h4 hne2 hr2 => exact ih hr2
/-- tries that failed, and what comes behind them -/
theorem TkR.fore {n a : Int} {k : Nat} {A : List (List Int)} {b : Int} {j : Nat} (h : TkR n a k A b j) : ∀ (P Q : List (List Int)) (g : Int) (q : Nat), TkO n (P ++ (A ++ Q)) j b (P.length + A.length) g q → TkO n (P ++ (A ++ Q)) k a P.length g q := by
  induction h with
  | nil => intro P Q g q h'; exact h'
  | odd A b j y h hb ho ih =>
    intro P Q g q h'
    rw [List.append_assoc] at h' ⊢
    refine ih P ([[1, n + 4 + b, y, y, 1]] ++ Q) g q (.odd _ _ _ y y 1 _ _ ?_ ho ?_)
    · rw [List.getElem?_append_right (by omega), Nat.add_sub_cancel_left, List.getElem?_append_right (by omega), Nat.sub_self]; rfl
    · rw [List.length_append] at h'
      exact h'
  | lost A b j y o h hb ho hne ih =>
    intro P Q g q h'
    rw [List.append_assoc] at h' ⊢
    refine ih P ([[1, n + 4 + b, y, y, 1], [3, n + 4 + b, o, WU (y + 1), 0]] ++ Q) g q (.lost _ _ _ y y 1 o _ _ ?_ ho ?_ hne ?_)
    · rw [List.getElem?_append_right (by omega), Nat.add_sub_cancel_left, List.getElem?_append_right (by omega), Nat.sub_self]; rfl
    · rw [Nat.add_assoc, List.getElem?_append_right (by omega), Nat.add_sub_cancel_left, List.getElem?_append_right (by omega), Nat.add_sub_cancel_left]; rfl
    · rw [List.length_append] at h'
      exact h'
theorem take_none {n a : Int} {k : Nat} {A : List (List Int)} {b : Int} (h : TkR n a k A b 0) (P Q : List (List Int)) : TkO n (P ++ (A ++ Q)) k a P.length 0 (P.length + A.length) := h.fore P Q _ _ (.out _ _)
theorem take_got {n a : Int} {k : Nat} {A : List (List Int)} {b : Int} {j : Nat} {y : Int} (h : TkR n a k A b (j + 1)) (ho : oddB y = false) (P Q : List (List Int)) : TkO n (P ++ (A ++ ([[1, n + 4 + b, y, y, 1], [3, n + 4 + b, y, WU (y + 1), 1]] ++ Q))) k a P.length b (P.length + A.length + 2) := by
  refine h.fore P _ _ _ (.got _ _ _ y y 1 ?_ ho ?_)
  · rw [List.getElem?_append_right (by omega), Nat.add_sub_cancel_left, List.getElem?_append_right (by omega), Nat.sub_self]; rfl
  · rw [Nat.add_assoc, List.getElem?_append_right (by omega), Nat.add_sub_cancel_left, List.getElem?_append_right (by omega), Nat.add_sub_cancel_left]; rfl
def tkS : Spec Ob := fun args h => match args, h with
  | [.ptr 0 0, .agg [.int .i64 t, .int .i64 n], .int .i64 a], [some (.cells [.tslice 1 0 l 5, .int .i64 i, .bool bad, .bool out]), some (.tab [some .i64, some .i64, some .u64, some .u64, none] A)] => some (.pre ((l = A.length ∧ bad = false ∧ out = false) ∧ (1 ≤ t ∧ t ≤ 8) ∧ (1 ≤ n ∧ n ≤ 1000) ∧ A.length ≤ 1000000 ∧ ∃ (p : Nat) (g : Int) (q : Nat), i = (p : Int) ∧ p ≤ A.length ∧ TkO n A n.toNat (at1 n a) p g q) (.all (Int × Nat) (fun x => TkO n A n.toNat (at1 n a) i.toNat x.1 x.2) (fun x => .ret (.int .i64 x.1) (tpT A (x.2 : Int)))))
  | _, _ => none
theorem tk_ok : Spec.ok (obI tbl) Try.prog 73 tkS := by
  intro args h o ho K hK
  unfold tkS at ho
  split at ho
  case h_2 => cases ho
  rename_i t n a l i bad out A
  simp only [Option.some.injEq] at ho; subst ho
  obtain ⟨⟨⟨hl, hb, hu⟩, ht, hn, hA, p, g, q, hi, hp, tr⟩, hK⟩ := hK
  subst hl hb hu hi
  exact take_print A t n a (p : Int) g q K (take_walk A t n a p g q K ht hn hp hA tr (hK (g, q) tr))
end Go.Sh

/- The document's scan, in the midst of a tape. -/
namespace Go.Sh
open Go Go.Proofs
variable [Con]
def tpH (A : List (List Int)) (i : Int) (R : List Int) (t n : Int) : Heap Ob := [some (.cells [.tslice 1 0 A.length 5, .int .i64 i, .bool false, .bool false]), some (.tab [some .i64, some .i64, some .u64, some .u64, none] A), some (.ints (some .i64) R), some (.cells [.int .i64 t, .int .i64 n])]
def HY1 (A : List (List Int)) (R ys : List Int) (t n b : Int) : Hint Ob := { X := Nat, st := fun i => ([.ptr 0 0, .top, .slice 2 0 R.length 1, .top, .ptr 3 0, .top, .top, .top, .slice 4 0 (ys.take i).length 1, .int .i64 (i : Int)] ++ List.replicate 73 .top, tpH A (b + (i : Int)) R t n ++ [some (.ints (some .u64) (ys.take i))]), ok := fun i => (i : Int) ≤ 2 * t, mu := fun i => (2 * t).toNat - i, keep := [0, 2, 4, 8, 9], casts := [(.slot 8, .ints (some .u64))] }
def HY2 (A : List (List Int)) (R ys : List Int) (t n b : Int) : Hint Ob := { X := Nat × List Int × List Int, st := fun x => ([.ptr 0 0, .top, .top, .top, .ptr 3 0, .top, .top, .top, .slice 4 0 ys.length 1, .top, .slice 5 0 x.2.1.length 1, .slice 6 0 x.2.2.length 1] ++ List.replicate 27 .top ++ [.slice 2 0 R.length 1, .int .i64 (R.length : Int), .int .i64 (x.1 : Int)] ++ List.replicate 41 .top, tpH A (b + 2 * t) R t n ++ [some (.ints (some .u64) ys), some (.ints (some .i64) x.2.1), some (.ints (some .i64) x.2.2)]), ok := fun x => x.1 ≤ R.length ∧ x.2.1 = keptY ys (R.take x.1) ∧ x.2.2 = freedY ys (R.take x.1), mu := fun x => R.length - x.1, keep := [0, 4, 8, 10, 11, 39, 40, 41], casts := [(.slot 10, .ints (some .i64)), (.slot 11, .ints (some .i64))] }
def HY3 (A : List (List Int)) (R ys : List Int) (t n b : Int) (i0 : Int) : Hint Ob := { X := Nat, st := fun j => ([.ptr 0 0, .top, .top, .top, .ptr 3 0, .top, .top, .top, .slice 4 0 ys.length 1, .top, .slice 5 0 (keptY ys (R.take i0.toNat)).length 1, .slice 6 0 (freedY ys (R.take i0.toNat)).length 1, .top, .int .i64 (List.getD R i0.toNat 0), .bool (inY (ys.take j) (List.getD R i0.toNat 0))] ++ List.replicate 24 .top ++ [.slice 2 0 R.length 1, .int .i64 (R.length : Int), .int .i64 i0, .top, .top, .top, .slice 4 0 ys.length 1, .int .i64 (ys.length : Int), .int .i64 (j : Int)] ++ List.replicate 35 .top, tpH A (b + 2 * t) R t n ++ [some (.ints (some .u64) ys), some (.ints (some .i64) (keptY ys (R.take i0.toNat))), some (.ints (some .i64) (freedY ys (R.take i0.toNat)))]), ok := fun j => j ≤ ys.length, mu := fun j => ys.length - j, keep := [0, 4, 8, 10, 11, 13, 14, 39, 40, 41, 45, 46, 47] }
def HY4 (A : List (List Int)) (R ks fs : List Int) (t n b : Int) : Hint Ob := { X := Nat, st := fun j => ([.ptr 0 0, .top, .top, .top, .ptr 3 0, .top, .top, .top, .top, .top, .slice 4 0 ks.length 1, .slice 5 0 fs.length 1] ++ List.replicate 57 .top ++ [.slice 5 0 fs.length 1, .int .i64 (fs.length : Int), .int .i64 (j : Int)] ++ List.replicate 11 .top, tpH A (b + 2 * t + j) R t n ++ [some (.ints (some .i64) ks), some (.ints (some .i64) fs)]), ok := fun j => j ≤ fs.length, mu := fun j => fs.length - j, keep := [0, 4, 10, 11, 69, 70, 71] }
def planY (A : List (List Int)) (R ys : List Int) (t n b : Int) : FuncId → Nat → Option (Plan Ob) := fun _ k => if k = 3 then some (.states (HY1 A R ys t n b)) else if k = 8 then some (.states (HY2 A R ys t n b)) else if k = 12 then some (.statesAt 41 (HY3 A R ys t n b)) else some (.states (HY4 A R (keptY ys R) (freedY ys R) t n b))
set_option maxHeartbeats 4000000 in
theorem scanB (A : List (List Int)) (R ys : List Int) (gs : List (Int × Int)) (P Q : List (List Int)) (t n b : Int) (K : AVal → Heap Ob → Prop) (ht : 1 ≤ t ∧ t ≤ 8) (hn : 1 ≤ n ∧ n ≤ 1000) (hR : R.length ≤ 60) (hRn : ∀ r ∈ R, 1 ≤ r ∧ r ≤ n) (hyl : (ys.length : Int) = 2 * t) (hb : b = (P.length : Int)) (hAb : A.length ≤ 1000000) (hA : A = P ++ (rowsFrom n 0 ys ++ (rowsG n gs ++ Q))) (hg : gs.map (·.1) = freedY ys R)
    (hK : K (.tup [.slice 3 0 (keptY ys R).length 1, .slice 4 0 (freedY ys R).length 1]) [some (.cells [.tslice 1 0 A.length 5, .int .i64 (b + 2 * t + ((freedY ys R).length : Int)), .bool false, .bool false]), some (.tab [some .i64, some .i64, some .u64, some .u64, none] A), some (.ints (some .i64) R), some (.ints (some .i64) (keptY ys R)), some (.ints (some .i64) (freedY ys R))]) : CallOk E42.I Try.prog 75 [.ptr 0 0, .agg [.int .i64 t, .int .i64 n], .slice 2 0 R.length 1] [some (.cells [.tslice 1 0 A.length 5, .int .i64 b, .bool false, .bool false]), some (.tab [some .i64, some .i64, some .u64, some .u64, none] A), some (.ints (some .i64) R)] K := by
  refine CallOk.trim (callOk_of (E := E42) Try.checked.mixed (L := planY A R ys t n b) (n := 10) (of_nf (q := okSt (HY1 A R ys t n b) (Hint.ok (HY1 A R ys t n b)) [AVal.ptr 0 0, AVal.top, AVal.slice 2 0 (List.length R) 1, AVal.top, AVal.ptr 3 0, AVal.top, AVal.top, AVal.top, AVal.slice 4 0 0 1, AVal.int .i64 0, AVal.top, AVal.top, AVal.top, AVal.top, AVal.top, AVal.top, AVal.top, AVal.top, AVal.top, AVal.top, AVal.top, AVal.top, AVal.top, AVal.top, AVal.top, AVal.top, AVal.top, AVal.top, AVal.top, AVal.top, AVal.top, AVal.top, AVal.top, AVal.top, AVal.top, AVal.top, AVal.top, AVal.top, AVal.top, AVal.top, AVal.top, AVal.top, AVal.top, AVal.top, AVal.top, AVal.top, AVal.top, AVal.top, AVal.top, AVal.top, AVal.top, AVal.top, AVal.top, AVal.top, AVal.top, AVal.top, AVal.top, AVal.top, AVal.top, AVal.top, AVal.top, AVal.top, AVal.top, AVal.top, AVal.top, AVal.top, AVal.top, AVal.top, AVal.top, AVal.top, AVal.top, AVal.top, AVal.top, AVal.top, AVal.top, AVal.top, AVal.top, AVal.top, AVal.top, AVal.top, AVal.top, AVal.top, AVal.top] [some (Entry.cells [AVal.tslice 1 0 (List.length A) 5, AVal.int .i64 b, AVal.bool false, AVal.bool false]), some (Entry.tab [some .i64, some .i64, some .u64, some .u64, none] A), some (Entry.ints (some .i64) R), some (Entry.cells [AVal.int .i64 t, AVal.int .i64 n]), some (Entry.ints (some .u64) [])] ∧ ∀ (x : Nat), (↑x : Int) ≤ (2 : Int) * t → bif ilt (↑x : Int) (W (2 * t)) then True ∧ (((0 : Int) ≤ t ∧ t ≤ (100000 : Int)) ∧ ((0 : Int) ≤ n ∧ n ≤ (100000 : Int)) ∧ ((-1099511627776 : Int) ≤ (0 : Int) ∧ (0 : Int) ≤ (1099511627776 : Int)) ∧ (-1099511627776 : Int) ≤ (↑x : Int) ∧ (↑x : Int) ≤ (1099511627776 : Int)) ∧ (List.length A = List.length A ∧ (0 : Int) ≤ b + (↑x : Int) ∧ b + (↑x : Int) ≤ (4611686018427387904 : Int)) ∧ (0 = 0 ∧ List.length (List.take x ys) = List.length (List.take x ys) ∧ 1 = 1 ∧ List.length (List.take x ys) + (1 : Nat) ≤ (4294967296 : Nat)) ∧ okSt (HY1 A R ys t n b) (fun x' => Hint.ok (HY1 A R ys t n b) x' ∧ Hint.mu (HY1 A R ys t n b) x' < Hint.mu (HY1 A R ys t n b) x) [AVal.ptr 0 0, AVal.top, AVal.slice 2 0 (List.length R) 1, AVal.top, AVal.ptr 3 0, AVal.top, AVal.top, AVal.top, AVal.slice 4 0 (List.length (List.take x ys) + 1) 1, AVal.int .i64 (W ((↑x : Int) + 1)), AVal.top, AVal.top, AVal.top, AVal.top, AVal.top, AVal.top, AVal.top, AVal.top, AVal.top, AVal.top, AVal.top, AVal.top, AVal.top, AVal.top, AVal.top, AVal.top, AVal.top, AVal.top, AVal.top, AVal.top, AVal.top, AVal.top, AVal.top, AVal.top, AVal.top, AVal.top, AVal.top, AVal.top, AVal.top, AVal.top, AVal.top, AVal.top, AVal.top, AVal.top, AVal.top, AVal.top, AVal.top, AVal.top, AVal.top, AVal.top, AVal.top, AVal.top, AVal.top, AVal.top, AVal.top, AVal.top, AVal.top, AVal.top, AVal.top, AVal.top, AVal.top, AVal.top, AVal.top, AVal.top, AVal.top, AVal.top, AVal.top, AVal.top, AVal.top, AVal.top, AVal.top, AVal.top, AVal.top, AVal.top, AVal.top, AVal.top, AVal.top, AVal.top, AVal.top, AVal.top, AVal.top, AVal.top, AVal.top] [some (Entry.cells [AVal.tslice 1 0 (List.length A) 5, AVal.int .i64 (tTook A { i := b + (↑x : Int), bad := false, out := false } 1 (2 * n + 5 + 2 * 0 + (↑x : Int))).1, AVal.bool (tTook A { i := b + (↑x : Int), bad := false, out := false } 1 (2 * n + 5 + 2 * 0 + (↑x : Int))).2, AVal.bool (tTook A { i := b + (↑x : Int), bad := false, out := false } 1 (2 * n + 5 + 2 * 0 + (↑x : Int))).3]), some (Entry.tab [some .i64, some .i64, some .u64, some .u64, none] A), some (Entry.ints (some .i64) R), some (Entry.cells [AVal.int .i64 t, AVal.int .i64 n]), some (Entry.ints (some .u64) (List.take x ys ++ [a2 (tGot A { i := b + (↑x : Int), bad := false, out := false } 1 (2 * n + 5 + 2 * 0 + (↑x : Int)))]))] else okSt (HY2 A R ys t n b) (Hint.ok (HY2 A R ys t n b)) [AVal.ptr 0 0, AVal.top, AVal.top, AVal.top, AVal.ptr 3 0, AVal.top, AVal.top, AVal.top, AVal.slice 4 0 (List.length (List.take x ys)) 1, AVal.top, AVal.slice 5 0 0 1, AVal.slice 6 0 0 1, AVal.top, AVal.top, AVal.top, AVal.top, AVal.top, AVal.top, AVal.top, AVal.top, AVal.top, AVal.top, AVal.top, AVal.top, AVal.top, AVal.top, AVal.top, AVal.top, AVal.top, AVal.top, AVal.top, AVal.top, AVal.top, AVal.top, AVal.top, AVal.top, AVal.top, AVal.top, AVal.top, AVal.slice 2 0 (List.length R) 1, AVal.int .i64 (↑(List.length R) : Int), AVal.int .i64 0, AVal.top, AVal.top, AVal.top, AVal.top, AVal.top, AVal.top, AVal.top, AVal.top, AVal.top, AVal.top, AVal.top, AVal.top, AVal.top, AVal.top, AVal.top, AVal.top, AVal.top, AVal.top, AVal.top, AVal.top, AVal.top, AVal.top, AVal.top, AVal.top, AVal.top, AVal.top, AVal.top, AVal.top, AVal.top, AVal.top, AVal.top, AVal.top, AVal.top, AVal.top, AVal.top, AVal.top, AVal.top, AVal.top, AVal.top, AVal.top, AVal.top] [some (Entry.cells [AVal.tslice 1 0 (List.length A) 5, AVal.int .i64 (b + (↑x : Int)), AVal.bool false, AVal.bool false]), some (Entry.tab [some .i64, some .i64, some .u64, some .u64, none] A), some (Entry.ints (some .i64) R), some (Entry.cells [AVal.int .i64 t, AVal.int .i64 n]), some (Entry.ints (some .u64) (List.take x ys)), some (Entry.ints (some .i64) []), some (Entry.ints (some .i64) [])] ∧ ∀ (x : (Nat × List Int × List Int)), x.1 ≤ List.length R ∧ (Prod.snd x).1 = keptY ys (List.take x.1 R) ∧ (Prod.snd x).2 = freedY ys (List.take x.1 R) → bif ilt (↑x.1 : Int) (↑(List.length R) : Int) then ((0 : Int) ≤ (↑x.1 : Int) ∧ (↑x.1 : Int) < (↑(List.length R) : Int)) ∧ 0 + Int.toNat (↑x.1 : Int) * (1 : Nat) < List.length R ∧ okSt (HY3 A R ys t n b (↑(Prod.fst x) : Int)) (Hint.ok (HY3 A R ys t n b (↑(Prod.fst x) : Int))) [AVal.ptr 0 0, AVal.top, AVal.top, AVal.top, AVal.ptr 3 0, AVal.top, AVal.top, AVal.top, AVal.slice 4 0 (List.length ys) 1, AVal.top, AVal.slice 5 0 (List.length (Prod.snd x).1) 1, AVal.slice 6 0 (List.length (Prod.snd x).2) 1, AVal.top, AVal.int .i64 (List.getD R (0 + Int.toNat (↑x.1 : Int) * 1) 0), AVal.bool false, AVal.top, AVal.top, AVal.top, AVal.top, AVal.top, AVal.top, AVal.top, AVal.top, AVal.top, AVal.top, AVal.top, AVal.top, AVal.top, AVal.top, AVal.top, AVal.top, AVal.top, AVal.top, AVal.top, AVal.top, AVal.top, AVal.top, AVal.top, AVal.top, AVal.slice 2 0 (List.length R) 1, AVal.int .i64 (↑(List.length R) : Int), AVal.int .i64 (↑x.1 : Int), AVal.top, AVal.top, AVal.top, AVal.slice 4 0 (List.length ys) 1, AVal.int .i64 (↑(List.length ys) : Int), AVal.int .i64 0, AVal.top, AVal.top, AVal.top, AVal.top, AVal.top, AVal.top, AVal.top, AVal.top, AVal.top, AVal.top, AVal.top, AVal.top, AVal.top, AVal.top, AVal.top, AVal.top, AVal.top, AVal.top, AVal.top, AVal.top, AVal.top, AVal.top, AVal.top, AVal.top, AVal.top, AVal.top, AVal.top, AVal.top, AVal.top, AVal.top, AVal.top, AVal.top, AVal.top, AVal.top, AVal.top] [some (Entry.cells [AVal.tslice 1 0 (List.length A) 5, AVal.int .i64 (b + 2 * t), AVal.bool false, AVal.bool false]), some (Entry.tab [some .i64, some .i64, some .u64, some .u64, none] A), some (Entry.ints (some .i64) R), some (Entry.cells [AVal.int .i64 t, AVal.int .i64 n]), some (Entry.ints (some .u64) ys), some (Entry.ints (some .i64) (Prod.snd x).1), some (Entry.ints (some .i64) (Prod.snd x).2)] ∧ ∀ (x_1 : Nat), x_1 ≤ List.length ys → bif ilt (↑x_1 : Int) (↑(List.length ys) : Int) then ((0 : Int) ≤ (↑x_1 : Int) ∧ (↑x_1 : Int) < (↑(List.length ys) : Int)) ∧ 0 + Int.toNat (↑x_1 : Int) * (1 : Nat) < List.length ys ∧ bif inY (List.take x_1 ys) (List.getD R (Int.toNat (↑x.1 : Int)) 0) then okSt (HY3 A R ys t n b (↑(Prod.fst x) : Int)) (fun x' => Hint.ok (HY3 A R ys t n b (↑(Prod.fst x) : Int)) x' ∧ Hint.mu (HY3 A R ys t n b (↑(Prod.fst x) : Int)) x' < Hint.mu (HY3 A R ys t n b (↑(Prod.fst x) : Int)) x_1) [AVal.ptr 0 0, AVal.top, AVal.top, AVal.top, AVal.ptr 3 0, AVal.top, AVal.top, AVal.top, AVal.slice 4 0 (List.length ys) 1, AVal.top, AVal.slice 5 0 (List.length (keptY ys (List.take (Int.toNat (↑x.1 : Int)) R))) 1, AVal.slice 6 0 (List.length (freedY ys (List.take (Int.toNat (↑x.1 : Int)) R))) 1, AVal.top, AVal.int .i64 (List.getD R (Int.toNat (↑x.1 : Int)) 0), AVal.bool true, AVal.top, AVal.top, AVal.top, AVal.top, AVal.top, AVal.top, AVal.top, AVal.top, AVal.top, AVal.top, AVal.top, AVal.top, AVal.top, AVal.top, AVal.top, AVal.top, AVal.top, AVal.top, AVal.top, AVal.top, AVal.top, AVal.top, AVal.top, AVal.top, AVal.slice 2 0 (List.length R) 1, AVal.int .i64 (↑(List.length R) : Int), AVal.int .i64 (↑x.1 : Int), AVal.top, AVal.top, AVal.top, AVal.slice 4 0 (List.length ys) 1, AVal.int .i64 (↑(List.length ys) : Int), AVal.int .i64 (W ((↑x_1 : Int) + 1)), AVal.top, AVal.top, AVal.top, AVal.top, AVal.top, AVal.top, AVal.top, AVal.top, AVal.top, AVal.top, AVal.top, AVal.top, AVal.top, AVal.top, AVal.top, AVal.top, AVal.top, AVal.top, AVal.top, AVal.top, AVal.top, AVal.top, AVal.top, AVal.top, AVal.top, AVal.top, AVal.top, AVal.top, AVal.top, AVal.top, AVal.top, AVal.top, AVal.top, AVal.top, AVal.top] [some (Entry.cells [AVal.tslice 1 0 (List.length A) 5, AVal.int .i64 (b + 2 * t), AVal.bool false, AVal.bool false]), some (Entry.tab [some .i64, some .i64, some .u64, some .u64, none] A), some (Entry.ints (some .i64) R), some (Entry.cells [AVal.int .i64 t, AVal.int .i64 n]), some (Entry.ints (some .u64) ys), some (Entry.ints (some .i64) (keptY ys (List.take (Int.toNat (↑x.1 : Int)) R))), some (Entry.ints (some .i64) (freedY ys (List.take (Int.toNat (↑x.1 : Int)) R)))] else okSt (HY3 A R ys t n b (↑(Prod.fst x) : Int)) (fun x' => Hint.ok (HY3 A R ys t n b (↑(Prod.fst x) : Int)) x' ∧ Hint.mu (HY3 A R ys t n b (↑(Prod.fst x) : Int)) x' < Hint.mu (HY3 A R ys t n b (↑(Prod.fst x) : Int)) x_1) [AVal.ptr 0 0, AVal.top, AVal.top, AVal.top, AVal.ptr 3 0, AVal.top, AVal.top, AVal.top, AVal.slice 4 0 (List.length ys) 1, AVal.top, AVal.slice 5 0 (List.length (keptY ys (List.take (Int.toNat (↑x.1 : Int)) R))) 1, AVal.slice 6 0 (List.length (freedY ys (List.take (Int.toNat (↑x.1 : Int)) R))) 1, AVal.top, AVal.int .i64 (List.getD R (Int.toNat (↑x.1 : Int)) 0), AVal.bool (ieq (List.getD ys (0 + Int.toNat (↑x_1 : Int) * 1) 0) (WU (List.getD R (Int.toNat (↑x.1 : Int)) 0))), AVal.top, AVal.top, AVal.top, AVal.top, AVal.top, AVal.top, AVal.top, AVal.top, AVal.top, AVal.top, AVal.top, AVal.top, AVal.top, AVal.top, AVal.top, AVal.top, AVal.top, AVal.top, AVal.top, AVal.top, AVal.top, AVal.top, AVal.top, AVal.top, AVal.slice 2 0 (List.length R) 1, AVal.int .i64 (↑(List.length R) : Int), AVal.int .i64 (↑x.1 : Int), AVal.top, AVal.top, AVal.top, AVal.slice 4 0 (List.length ys) 1, AVal.int .i64 (↑(List.length ys) : Int), AVal.int .i64 (W ((↑x_1 : Int) + 1)), AVal.top, AVal.top, AVal.top, AVal.top, AVal.top, AVal.top, AVal.top, AVal.top, AVal.top, AVal.top, AVal.top, AVal.top, AVal.top, AVal.top, AVal.top, AVal.top, AVal.top, AVal.top, AVal.top, AVal.top, AVal.top, AVal.top, AVal.top, AVal.top, AVal.top, AVal.top, AVal.top, AVal.top, AVal.top, AVal.top, AVal.top, AVal.top, AVal.top, AVal.top, AVal.top] [some (Entry.cells [AVal.tslice 1 0 (List.length A) 5, AVal.int .i64 (b + 2 * t), AVal.bool false, AVal.bool false]), some (Entry.tab [some .i64, some .i64, some .u64, some .u64, none] A), some (Entry.ints (some .i64) R), some (Entry.cells [AVal.int .i64 t, AVal.int .i64 n]), some (Entry.ints (some .u64) ys), some (Entry.ints (some .i64) (keptY ys (List.take (Int.toNat (↑x.1 : Int)) R))), some (Entry.ints (some .i64) (freedY ys (List.take (Int.toNat (↑x.1 : Int)) R)))] else bif inY (List.take x_1 ys) (List.getD R (Int.toNat (↑x.1 : Int)) 0) then (0 = 0 ∧ List.length (keptY ys (List.take (Int.toNat (↑x.1 : Int)) R)) = List.length (keptY ys (List.take (Int.toNat (↑x.1 : Int)) R)) ∧ 1 = 1 ∧ List.length (keptY ys (List.take (Int.toNat (↑x.1 : Int)) R)) + (1 : Nat) ≤ (4294967296 : Nat)) ∧ okSt (HY2 A R ys t n b) (fun x' => Hint.ok (HY2 A R ys t n b) x' ∧ Hint.mu (HY2 A R ys t n b) x' < Hint.mu (HY2 A R ys t n b) x) [AVal.ptr 0 0, AVal.top, AVal.top, AVal.top, AVal.ptr 3 0, AVal.top, AVal.top, AVal.top, AVal.slice 4 0 (List.length ys) 1, AVal.top, AVal.slice 5 0 (List.length (keptY ys (List.take (Int.toNat (↑x.1 : Int)) R)) + 1) 1, AVal.slice 6 0 (List.length (freedY ys (List.take (Int.toNat (↑x.1 : Int)) R))) 1, AVal.top, AVal.top, AVal.top, AVal.top, AVal.top, AVal.top, AVal.top, AVal.top, AVal.top, AVal.top, AVal.top, AVal.top, AVal.top, AVal.top, AVal.top, AVal.top, AVal.top, AVal.top, AVal.top, AVal.top, AVal.top, AVal.top, AVal.top, AVal.top, AVal.top, AVal.top, AVal.top, AVal.slice 2 0 (List.length R) 1, AVal.int .i64 (↑(List.length R) : Int), AVal.int .i64 (W ((↑x.1 : Int) + 1)), AVal.top, AVal.top, AVal.top, AVal.top, AVal.top, AVal.top, AVal.top, AVal.top, AVal.top, AVal.top, AVal.top, AVal.top, AVal.top, AVal.top, AVal.top, AVal.top, AVal.top, AVal.top, AVal.top, AVal.top, AVal.top, AVal.top, AVal.top, AVal.top, AVal.top, AVal.top, AVal.top, AVal.top, AVal.top, AVal.top, AVal.top, AVal.top, AVal.top, AVal.top, AVal.top, AVal.top, AVal.top, AVal.top, AVal.top, AVal.top, AVal.top] [some (Entry.cells [AVal.tslice 1 0 (List.length A) 5, AVal.int .i64 (b + 2 * t), AVal.bool false, AVal.bool false]), some (Entry.tab [some .i64, some .i64, some .u64, some .u64, none] A), some (Entry.ints (some .i64) R), some (Entry.cells [AVal.int .i64 t, AVal.int .i64 n]), some (Entry.ints (some .u64) ys), some (Entry.ints (some .i64) (keptY ys (List.take (Int.toNat (↑x.1 : Int)) R) ++ [List.getD R (Int.toNat (↑x.1 : Int)) 0])), some (Entry.ints (some .i64) (freedY ys (List.take (Int.toNat (↑x.1 : Int)) R)))] else (0 = 0 ∧ List.length (freedY ys (List.take (Int.toNat (↑x.1 : Int)) R)) = List.length (freedY ys (List.take (Int.toNat (↑x.1 : Int)) R)) ∧ 1 = 1 ∧ List.length (freedY ys (List.take (Int.toNat (↑x.1 : Int)) R)) + (1 : Nat) ≤ (4294967296 : Nat)) ∧ okSt (HY2 A R ys t n b) (fun x' => Hint.ok (HY2 A R ys t n b) x' ∧ Hint.mu (HY2 A R ys t n b) x' < Hint.mu (HY2 A R ys t n b) x) [AVal.ptr 0 0, AVal.top, AVal.top, AVal.top, AVal.ptr 3 0, AVal.top, AVal.top, AVal.top, AVal.slice 4 0 (List.length ys) 1, AVal.top, AVal.slice 5 0 (List.length (keptY ys (List.take (Int.toNat (↑x.1 : Int)) R))) 1, AVal.slice 6 0 (List.length (freedY ys (List.take (Int.toNat (↑x.1 : Int)) R)) + 1) 1, AVal.top, AVal.top, AVal.top, AVal.top, AVal.top, AVal.top, AVal.top, AVal.top, AVal.top, AVal.top, AVal.top, AVal.top, AVal.top, AVal.top, AVal.top, AVal.top, AVal.top, AVal.top, AVal.top, AVal.top, AVal.top, AVal.top, AVal.top, AVal.top, AVal.top, AVal.top, AVal.top, AVal.slice 2 0 (List.length R) 1, AVal.int .i64 (↑(List.length R) : Int), AVal.int .i64 (W ((↑x.1 : Int) + 1)), AVal.top, AVal.top, AVal.top, AVal.top, AVal.top, AVal.top, AVal.top, AVal.top, AVal.top, AVal.top, AVal.top, AVal.top, AVal.top, AVal.top, AVal.top, AVal.top, AVal.top, AVal.top, AVal.top, AVal.top, AVal.top, AVal.top, AVal.top, AVal.top, AVal.top, AVal.top, AVal.top, AVal.top, AVal.top, AVal.top, AVal.top, AVal.top, AVal.top, AVal.top, AVal.top, AVal.top, AVal.top, AVal.top, AVal.top, AVal.top, AVal.top] [some (Entry.cells [AVal.tslice 1 0 (List.length A) 5, AVal.int .i64 (b + 2 * t), AVal.bool false, AVal.bool false]), some (Entry.tab [some .i64, some .i64, some .u64, some .u64, none] A), some (Entry.ints (some .i64) R), some (Entry.cells [AVal.int .i64 t, AVal.int .i64 n]), some (Entry.ints (some .u64) ys), some (Entry.ints (some .i64) (keptY ys (List.take (Int.toNat (↑x.1 : Int)) R))), some (Entry.ints (some .i64) (freedY ys (List.take (Int.toNat (↑x.1 : Int)) R) ++ [List.getD R (Int.toNat (↑x.1 : Int)) 0]))] else okSt (HY4 A R (keptY ys R) (freedY ys R) t n b) (Hint.ok (HY4 A R (keptY ys R) (freedY ys R) t n b)) [AVal.ptr 0 0, AVal.top, AVal.top, AVal.top, AVal.ptr 3 0, AVal.top, AVal.top, AVal.top, AVal.top, AVal.top, AVal.slice 4 0 (List.length (Prod.snd x).1) 1, AVal.slice 5 0 (List.length (Prod.snd x).2) 1, AVal.top, AVal.top, AVal.top, AVal.top, AVal.top, AVal.top, AVal.top, AVal.top, AVal.top, AVal.top, AVal.top, AVal.top, AVal.top, AVal.top, AVal.top, AVal.top, AVal.top, AVal.top, AVal.top, AVal.top, AVal.top, AVal.top, AVal.top, AVal.top, AVal.top, AVal.top, AVal.top, AVal.top, AVal.top, AVal.top, AVal.top, AVal.top, AVal.top, AVal.top, AVal.top, AVal.top, AVal.top, AVal.top, AVal.top, AVal.top, AVal.top, AVal.top, AVal.top, AVal.top, AVal.top, AVal.top, AVal.top, AVal.top, AVal.top, AVal.top, AVal.top, AVal.top, AVal.top, AVal.top, AVal.top, AVal.top, AVal.top, AVal.slice 5 0 (List.length (Prod.snd x).2) 1, AVal.int .i64 (↑(List.length (Prod.snd x).2) : Int), AVal.int .i64 0, AVal.top, AVal.top, AVal.top, AVal.top, AVal.top, AVal.top, AVal.top, AVal.top, AVal.top, AVal.top, AVal.top] [some (Entry.cells [AVal.tslice 1 0 (List.length A) 5, AVal.int .i64 (b + 2 * t), AVal.bool false, AVal.bool false]), some (Entry.tab [some .i64, some .i64, some .u64, some .u64, none] A), some (Entry.ints (some .i64) R), some (Entry.cells [AVal.int .i64 t, AVal.int .i64 n]), some (Entry.ints (some .i64) (Prod.snd x).1), some (Entry.ints (some .i64) (Prod.snd x).2)] ∧ ∀ (x : Nat), x ≤ List.length (freedY ys R) → bif ilt (↑x : Int) (↑(List.length (freedY ys R)) : Int) then ((0 : Int) ≤ (↑x : Int) ∧ (↑x : Int) < (↑(List.length (freedY ys R)) : Int)) ∧ 0 + Int.toNat (↑x : Int) * (1 : Nat) < List.length (freedY ys R) ∧ (((0 : Int) ≤ t ∧ t ≤ (100000 : Int)) ∧ ((0 : Int) ≤ n ∧ n ≤ (100000 : Int)) ∧ (-1099511627776 : Int) ≤ List.getD (freedY ys R) (0 + Int.toNat (↑x : Int) * 1) 0 ∧ List.getD (freedY ys R) (0 + Int.toNat (↑x : Int) * 1) (0 : Int) ≤ (1099511627776 : Int)) ∧ (List.length A = List.length A ∧ (0 : Int) ≤ b + 2 * t + (↑x : Int) ∧ b + 2 * t + (↑x : Int) ≤ (4611686018427387904 : Int)) ∧ okSt (HY4 A R (keptY ys R) (freedY ys R) t n b) (fun x' => Hint.ok (HY4 A R (keptY ys R) (freedY ys R) t n b) x' ∧ Hint.mu (HY4 A R (keptY ys R) (freedY ys R) t n b) x' < Hint.mu (HY4 A R (keptY ys R) (freedY ys R) t n b) x) [AVal.ptr 0 0, AVal.top, AVal.top, AVal.top, AVal.ptr 3 0, AVal.top, AVal.top, AVal.top, AVal.top, AVal.top, AVal.slice 4 0 (List.length (keptY ys R)) 1, AVal.slice 5 0 (List.length (freedY ys R)) 1, AVal.top, AVal.top, AVal.top, AVal.top, AVal.top, AVal.top, AVal.top, AVal.top, AVal.top, AVal.top, AVal.top, AVal.top, AVal.top, AVal.top, AVal.top, AVal.top, AVal.top, AVal.top, AVal.top, AVal.top, AVal.top, AVal.top, AVal.top, AVal.top, AVal.top, AVal.top, AVal.top, AVal.top, AVal.top, AVal.top, AVal.top, AVal.top, AVal.top, AVal.top, AVal.top, AVal.top, AVal.top, AVal.top, AVal.top, AVal.top, AVal.top, AVal.top, AVal.top, AVal.top, AVal.top, AVal.top, AVal.top, AVal.top, AVal.top, AVal.top, AVal.top, AVal.top, AVal.top, AVal.top, AVal.top, AVal.top, AVal.top, AVal.slice 5 0 (List.length (freedY ys R)) 1, AVal.int .i64 (↑(List.length (freedY ys R)) : Int), AVal.int .i64 (W ((↑x : Int) + 1)), AVal.top, AVal.top, AVal.top, AVal.top, AVal.top, AVal.top, AVal.top, AVal.top, AVal.top, AVal.top, AVal.top] [some (Entry.cells [AVal.tslice 1 0 (List.length A) 5, AVal.int .i64 (tAdd A { i := b + 2 * t + (↑x : Int), bad := false, out := false } (n + 4 + List.getD (freedY ys R) (0 + Int.toNat (↑x : Int) * 1) 0) 1).1, AVal.bool (tAdd A { i := b + 2 * t + (↑x : Int), bad := false, out := false } (n + 4 + List.getD (freedY ys R) (0 + Int.toNat (↑x : Int) * 1) 0) 1).2, AVal.bool (tAdd A { i := b + 2 * t + (↑x : Int), bad := false, out := false } (n + 4 + List.getD (freedY ys R) (0 + Int.toNat (↑x : Int) * 1) 0) 1).3]), some (Entry.tab [some .i64, some .i64, some .u64, some .u64, none] A), some (Entry.ints (some .i64) R), some (Entry.cells [AVal.int .i64 t, AVal.int .i64 n]), some (Entry.ints (some .i64) (keptY ys R)), some (Entry.ints (some .i64) (freedY ys R))] else K (AVal.tup [AVal.slice 3 0 (List.length (keptY ys R)) 1, AVal.slice 4 0 (List.length (freedY ys R)) 1]) [some (Entry.cells [AVal.tslice 1 0 (List.length A) 5, AVal.int .i64 (b + 2 * t + (↑x : Int)), AVal.bool false, AVal.bool false]), some (Entry.tab [some .i64, some .i64, some .u64, some .u64, none] A), some (Entry.ints (some .i64) R), some (Entry.ints (some .i64) (keptY ys R)), some (Entry.ints (some .i64) (freedY ys R))]) (by kernel_rfl) ?_))
  have w2 : W (2 * t) = 2 * t := W_id (by omega)
  have hAl : P.length ≤ A.length := by rw [hA, List.length_append]; omega
  have hgl : gs.length = (freedY ys R).length := by rw [← hg, List.length_map]
  have z9 : b + ((0 : Nat) : Int) = b := by omega
  refine ⟨okSt_intro (H := HY1 A R ys t n b) (0 : Nat) (by simp only [HY1, tpH, z9]; rfl) (by show ((0 : Nat) : Int) ≤ 2 * t; omega), ?_⟩
  intro i hi
  rw [w2]
  refine lt_go (fun h1 => ?_) (fun h1 => ?_)
  · have hi' : i < ys.length := by omega
    have hrow : A[(b + (i : Int)).toNat]? = some [1, slotA n ((0 + i : Nat) : Int), ys[i], ys[i], 1] := by
      have e : (b + (i : Int)).toNat = P.length + i := by omega
      have e2 : P.length + i - P.length = i := by omega
      rw [e, hA, List.getElem?_append_right (by omega), e2, List.getElem?_append_left (by rw [rowsFrom_len]; exact hi')]
      exact rowsFrom_get n ys 0 i hi'
    rw [Nat.zero_add] at hrow
    obtain ⟨e1, e2⟩ := tkk (A := A) (i := b + (i : Int)) (k := 1) (a := 2 * n + 5 + 2 * 0 + (i : Int)) (by omega) hrow rfl rfl
    have e6 : W ((i : Int) + 1) = ((i + 1 : Nat) : Int) := by rw [W_id (by omega)]; rfl
    have hts : ys.take (i + 1) = ys.take i ++ [ys[i]] := List.take_succ_eq_append_getElem hi'
    have htl : (ys.take i).length ≤ ys.length := by rw [List.length_take]; omega
    have z3 : b + (i : Int) + 1 = b + ((i + 1 : Nat) : Int) := by omega
    rw [e1, e2, e6]
    refine ⟨trivial, by omega, ⟨rfl, by omega⟩, ⟨rfl, rfl, rfl, by omega⟩, ?_⟩
    exact okSt_intro (H := HY1 A R ys t n b) (i + 1 : Nat) (by simp only [HY1, tpH, hts, z3, List.length_append]; rfl) ⟨by show ((i + 1 : Nat) : Int) ≤ 2 * t; omega, by show (2 * t).toNat - (i + 1) < (2 * t).toNat - i; omega⟩
  have hi2 : (i : Int) = 2 * t := by omega
  have hty : ys.take i = ys := List.take_of_length_le (by omega)
  rw [hty, hi2]
  refine ⟨okSt_intro (H := HY2 A R ys t n b) ((0 : Nat), ([] : List Int), ([] : List Int)) rfl ⟨Nat.zero_le _, rfl, rfl⟩, ?_⟩
  rintro ⟨u, ks, fs⟩ ⟨q1, q2, q3⟩
  dsimp only at q1 q2 q3 ⊢
  have hkl : ks.length ≤ R.length := by rw [q2]; unfold keptY; exact Nat.le_trans (filt_len _ _) (by rw [List.length_take]; omega)
  have hfl : fs.length ≤ R.length := by rw [q3]; unfold freedY; exact Nat.le_trans (filt_len _ _) (by rw [List.length_take]; omega)
  subst q2 q3
  refine lt_go (fun hu => ?_) (fun hu => ?_)
  · have hu' : u < R.length := by omega
    have ez : 0 + Int.toNat (u : Int) * 1 = Int.toNat (u : Int) := by omega
    have hr : List.getD R (Int.toNat (u : Int)) 0 = R[u] := by
      show List.getD R u 0 = R[u]
      rw [List.getD_eq_getElem?_getD, List.getElem?_eq_getElem hu']; rfl
    have e6 : W ((u : Int) + 1) = ((u + 1 : Nat) : Int) := by rw [W_id (by omega)]; rfl
    rw [ez]
    refine ⟨by omega, by omega, okSt_intro (H := HY3 A R ys t n b (u : Int)) (0 : Nat) rfl (Nat.zero_le _), ?_⟩
    intro j hj
    refine lt_go (fun h => ?_) (fun h => ?_)
    · have hj' : j < ys.length := by omega
      have ey : 0 + Int.toNat (j : Int) * 1 = j := by omega
      have hyj : List.getD ys j 0 = ys[j] := by rw [List.getD_eq_getElem?_getD, List.getElem?_eq_getElem hj']; rfl
      have e7 : W ((j : Int) + 1) = ((j + 1 : Nat) : Int) := by rw [W_id (by omega)]; rfl
      have hs := inY_snoc (ys.take j) ys[j] (List.getD R (Int.toNat (u : Int)) 0)
      rw [← List.take_succ_eq_append_getElem hj'] at hs
      rw [ey, hyj, e7]
      refine ⟨by omega, by omega, ?_⟩
      have hmu : ys.length - (j + 1) < ys.length - j := by omega
      cases hb : inY (ys.take j) (List.getD R (Int.toNat (u : Int)) 0) with
      | true =>
        rw [hb] at hs
        exact okSt_intro (H := HY3 A R ys t n b (u : Int)) (j + 1 : Nat) (by simp only [HY3, tpH, hs]; rfl) ⟨hj', hmu⟩
      | false =>
        rw [hb] at hs
        exact okSt_intro (H := HY3 A R ys t n b (u : Int)) (j + 1 : Nat) (by simp only [HY3, tpH, hs]; rfl) ⟨hj', hmu⟩
    · have htj : ys.take j = ys := List.take_of_length_le (by omega)
      have hts : R.take (u + 1) = R.take u ++ [R[u]] := List.take_succ_eq_append_getElem hu'
      have hk := keptY_snoc ys (R.take u) R[u]
      have hf := freedY_snoc ys (R.take u) R[u]
      rw [← hts] at hk hf
      have hmu : R.length - (u + 1) < R.length - u := by omega
      have eu : Int.toNat (u : Int) = u := rfl
      rw [htj, hr, e6, eu]
      cases hb : inY ys R[u] with
      | true =>
        rw [hb] at hk hf
        simp only [cond_true, List.append_nil] at hk hf
        refine ⟨⟨rfl, rfl, rfl, by omega⟩, ?_⟩
        exact okSt_intro (H := HY2 A R ys t n b) ((u + 1 : Nat), keptY ys (R.take (u + 1)), freedY ys (R.take (u + 1))) (by simp only [HY2, tpH, hk, hf, List.length_append]; rfl) ⟨⟨hu', rfl, rfl⟩, hmu⟩
      | false =>
        rw [hb] at hk hf
        simp only [cond_false, List.append_nil] at hk hf
        refine ⟨⟨rfl, rfl, rfl, by omega⟩, ?_⟩
        exact okSt_intro (H := HY2 A R ys t n b) ((u + 1 : Nat), keptY ys (R.take (u + 1)), freedY ys (R.take (u + 1))) (by simp only [HY2, tpH, hk, hf, List.length_append]; rfl) ⟨⟨hu', rfl, rfl⟩, hmu⟩
  · have hRt : R.take u = R := List.take_of_length_le (by omega)
    rw [hRt] at hkl hfl ⊢
    have z0 : (b + 2 * t + ((0 : Nat) : Int)) = b + 2 * t := by omega
    refine ⟨okSt_intro (H := HY4 A R (keptY ys R) (freedY ys R) t n b) (0 : Nat) (by simp only [HY4, tpH, z0]; rfl) (Nat.zero_le _), ?_⟩
    intro j hj
    refine lt_go (fun h => ?_) (fun h => ?_)
    · have hj' : j < (freedY ys R).length := by omega
      have hjg : j < gs.length := by omega
      have ey : 0 + Int.toNat (j : Int) * 1 = j := by omega
      have hfj : List.getD (freedY ys R) j 0 = (freedY ys R)[j] := by rw [List.getD_eq_getElem?_getD, List.getElem?_eq_getElem hj']; rfl
      have hgj : gs[j].1 = (freedY ys R)[j] := by
        have := congrArg (fun l => l[j]?) hg
        simp only [List.getElem?_map] at this
        rw [List.getElem?_eq_getElem hjg, List.getElem?_eq_getElem hj'] at this
        simpa using this
      have hfn : 1 ≤ (freedY ys R)[j] ∧ (freedY ys R)[j] ≤ n := by
        have hm1 : (freedY ys R)[j] ∈ freedY ys R := List.getElem_mem hj'
        unfold freedY at hm1
        exact hRn _ (List.mem_filter.1 hm1).1
      have hrow : A[(b + 2 * t + (j : Int)).toNat]? = some [4, n + 4 + (freedY ys R)[j], gs[j].2, WU (gs[j].2 + 1), 1] := by
        have e : (b + 2 * t + (j : Int)).toNat = P.length + (ys.length + j) := by omega
        have e2 : P.length + (ys.length + j) - P.length = ys.length + j := by omega
        have e3 : ys.length + j - ys.length = j := by omega
        rw [e, hA, List.getElem?_append_right (by omega), e2, List.getElem?_append_right (by rw [rowsFrom_len]; omega), rowsFrom_len, e3,
          List.getElem?_append_left (by unfold rowsG; rw [List.length_map]; exact hjg), rowsG_get n gs j hjg, hgj]
      have e1 := tadd (A := A) (i := b + 2 * t + (j : Int)) (a := n + 4 + (freedY ys R)[j]) (x := 1) (by omega) hrow rfl rfl (fun _ => rfl)
      have e7 : W ((j : Int) + 1) = ((j + 1 : Nat) : Int) := by rw [W_id (by omega)]; rfl
      have z1 : b + 2 * t + (j : Int) + 1 = b + 2 * t + ((j + 1 : Nat) : Int) := by omega
      rw [ey, hfj, e1, e7]
      refine ⟨by omega, by omega, by omega, ⟨rfl, by omega⟩, ?_⟩
      exact okSt_intro (H := HY4 A R (keptY ys R) (freedY ys R) t n b) (j + 1 : Nat) (by simp only [HY4, tpH, z1]; rfl) ⟨hj', by show (freedY ys R).length - (j + 1) < (freedY ys R).length - j; omega⟩
    · have e : (j : Int) = ((freedY ys R).length : Int) := by omega
      rw [e]
      exact hK
end Go.Sh

/- What a law of Ensure's asks for: its contracts. -/
namespace Go.Sh
open Go Go.Proofs
variable [Con]
noncomputable def watchEnS : Spec Ob := fun args h => match args, h with
  | [.ptr 0 0, .iface 58 (.ptr 2 0), .view p 2 row, .int .i64 200], [e1, e2, some (.cells [.ptr 3 0, .bool false, .raw (.pointer none), .raw (.pointer none), .bool false]), some (.cells [.int .i64 t, .int .i64 n, .int .i64 me, .int .i64 sp, .slice 4 0 k 1]), some (.ints (some .i64) R)] => match memPat [e1, e2] with
    | some (l, s) => some (.pre ((l = s.xs.length ∧ k = R.length ∧ s.c = 0 ∧ (1 ≤ t ∧ t ≤ 8) ∧ (1 ≤ n ∧ n ≤ 30) ∧ (0 ≤ me ∧ me ≤ 1000) ∧ R.length ≤ 40) ∧ s.xs.length = (2 * n + 5 * t + 6).toNat ∧ okW s.xs ∧ (∀ r ∈ R, 1 ≤ r ∧ r ≤ n) ∧ ∃ fa fx : Nat → Int, row = (fun i => [.int .i64 (fa i), .int .u64 (fx i)]) ∧ ∀ i, 0 ≤ fx i ∧ fx i ≤ 18446744073709551615) (.all ENR (fun r => FinE t n (at0 t n me) n.toNat ⟨me, sp, R⟩ r.A r.sh r.st) (fun r => .ret (.tup [.ptr 6 0, .bool true, .bool true]) (enRH t n r))))
    | none => none
  | _, _ => none
theorem watchEn_ok : Spec.ok (obI tbl) Try.prog 29 watchEnS := by
  intro args h o ho K hK
  unfold watchEnS at ho
  split at ho
  case h_2 => cases ho
  rename_i p row e1 e2 t n me sp k R
  split at ho
  case h_2 => cases ho
  rename_i l s hm
  simp only [Option.some.injEq] at ho; subst ho
  obtain ⟨⟨⟨hl, hk, hc, ht, hn, hme, hR⟩, hlen, hw, hRn, fa, fx, hrow, hfx⟩, hK⟩ := hK
  have hh := memPat_eq hm hl
  subst hk hrow
  unfold memH at hh
  simp only [List.cons.injEq, and_true] at hh
  obtain ⟨rfl, rfl⟩ := hh
  refine en_call p fa fx t n false ⟨0, 0, 0, 0, false⟩ ⟨0, [], [], 0, [], [], [], 0, 0⟩ ⟨me, sp, R⟩ s K hfx ht (by omega) hc hlen hw ?_ ?_
  · intro k e st1 A tr
    obtain ⟨h1, h2⟩ := his_tr (st0 := ⟨me, sp, R⟩) ht (by omega) hRn tr
    have h3 := his_ok (st0 := ⟨me, sp, R⟩) ht hn hme hR hRn h2
    exact ⟨by omega, h3.2⟩
  · intro r hr
    exact hK r (en_fin (st0 := ⟨me, sp, R⟩) ht (by omega) hRn hr)
/- OPQ -/
def ysAt (A : List (List Int)) (b t : Int) : List Int := ((A.drop b.toNat).take (2 * t).toNat).map a2
theorem ysAt_rows {A P X : List (List Int)} {n b t : Int} {ys : List Int} (hA : A = P ++ (rowsFrom n 0 ys ++ X)) (hb : b = (P.length : Int)) (hl : (ys.length : Int) = 2 * t) : ysAt A b t = ys := by
  unfold ysAt
  have e : (2 * t).toNat = (rowsFrom n 0 ys).length := by rw [rowsFrom_len]; omega
  have e2 : b.toNat = P.length := by omega
  rw [e, e2, hA, List.drop_left', List.take_left', rowsFrom_map]
  · rfl
  · rfl
def scS : Spec Ob := fun args h => match args, h with
  | [.ptr 0 0, .agg [.int .i64 t, .int .i64 n], .slice 2 0 k 1], [some (.cells [.tslice 1 0 l 5, .int .i64 b, .bool bad, .bool out]), some (.tab [some .i64, some .i64, some .u64, some .u64, none] A), some (.ints (some .i64) R)] => some (.pre ((l = A.length ∧ k = R.length ∧ bad = false ∧ out = false) ∧ (1 ≤ t ∧ t ≤ 8) ∧ (1 ≤ n ∧ n ≤ 1000) ∧ R.length ≤ 60 ∧ (∀ r ∈ R, 1 ≤ r ∧ r ≤ n) ∧ ((ysAt A b t).length : Int) = 2 * t ∧ A.length ≤ 1000000 ∧ ∃ (P Q : List (List Int)) (gs : List (Int × Int)), b = (P.length : Int) ∧ A = P ++ (rowsFrom n 0 (ysAt A b t) ++ (rowsG n gs ++ Q)) ∧ gs.map (·.1) = freedY (ysAt A b t) R) (.ret (.tup [.slice 3 0 (keptY (ysAt A b t) R).length 1, .slice 4 0 (freedY (ysAt A b t) R).length 1]) [some (.cells [.tslice 1 0 A.length 5, .int .i64 (b + 2 * t + ((freedY (ysAt A b t) R).length : Int)), .bool false, .bool false]), some (.tab [some .i64, some .i64, some .u64, some .u64, none] A), some (.ints (some .i64) R), some (.ints (some .i64) (keptY (ysAt A b t) R)), some (.ints (some .i64) (freedY (ysAt A b t) R))]))
  | _, _ => none
theorem sc_ok : Spec.ok (obI tbl) Try.prog 75 scS := by
  intro args h o ho K hK
  unfold scS at ho
  split at ho
  case h_2 => cases ho
  rename_i t n k l b bad out A R
  simp only [Option.some.injEq] at ho; subst ho
  obtain ⟨⟨⟨hl, hk, hb, hu⟩, ht, hn, hR, hRn, hy, hAl, P, Q, gs, hP, hA, hg⟩, hK⟩ := hK
  subst hl hk hb hu
  exact scanB A R (ysAt A b t) gs P Q t n b K ht hn hR hRn hy hP hAl hA hg hK
noncomputable def E54 := ((E42.addS 29 watchEnS watchEn_ok).addS 73 tkS tk_ok).addS 75 scS sc_ok
end Go.Sh

/- A machine that ensures a spare node: the law's walk. -/
namespace Go.Sh
open Go Go.Proofs
variable [Con]
def ensVC (t n me sp : Int) (ws ns : List Int) (p : Nat) (fa fx : Nat → Int) : Prop := True ∧ bif ilt 60 (↑(List.length ws) : Int) then AVal.bool true = AVal.bool true else bif ilt 60 (↑p : Int) then AVal.bool true = AVal.bool true else bif ilt 40 (↑(List.length ns) : Int) then AVal.bool true = AVal.bool true else (((0 : Int) ≤ t ∧ t ≤ (255 : Int)) ∧ (0 : Int) ≤ n ∧ n ≤ (255 : Int)) ∧ ((((0 : Int) ≤ me ∧ me ≤ (255 : Int)) ∧ ((0 : Int) ≤ sp ∧ sp ≤ (255 : Int)) ∧ ((1 : Int) ≤ thr t ∧ thr t ≤ (1000 : Int)) ∧ ((1 : Int) ≤ nod n ∧ nod n ≤ (1000 : Int)) ∧ List.length ns ≤ (100000 : Nat)) ∧ ∀ (v : Int), List.Mem v ns → (0 : Int) ≤ v ∧ v ≤ (255 : Int)) ∧ ((List.length (memW (thr t) (nod n) ws) = List.length (memW (thr t) (nod n) ws) ∧ List.length (mkL (nod n) (Int.tmod sp (nod n + 1)) ns) = List.length (mkL (nod n) (Int.tmod sp (nod n + 1)) ns) ∧ (0 : Int) = (0 : Int) ∧ ((1 : Int) ≤ thr t ∧ thr t ≤ (8 : Int)) ∧ ((1 : Int) ≤ nod n ∧ nod n ≤ (30 : Int)) ∧ ((0 : Int) ≤ Int.tmod me (thr t) ∧ Int.tmod me (thr t) ≤ (1000 : Int)) ∧ List.length (mkL (nod n) (Int.tmod sp (nod n + 1)) ns) ≤ (40 : Nat)) ∧ List.length (memW (thr t) (nod n) ws) = Int.toNat (2 * nod n + 5 * thr t + 6) ∧ okW (memW (thr t) (nod n) ws) ∧ (∀ (r : Int), List.Mem r (mkL (nod n) (Int.tmod sp (nod n + 1)) ns) → (1 : Int) ≤ r ∧ r ≤ nod n) ∧ ∃ fa_1 fx_1 : Nat → Int, ((fun i => [AVal.int .i64 (fa i), AVal.int .u64 (fx i)]) = fun i => [AVal.int .i64 (fa_1 i), AVal.int .u64 (fx_1 i)]) ∧ ∀ (i : Nat), (0 : Int) ≤ fx_1 i ∧ fx_1 i ≤ (18446744073709551615 : Int)) ∧ ∀ (x : ENR), FinE (thr t) (nod n) (at0 (thr t) (nod n) (Int.tmod me (thr t))) (Int.toNat (nod n)) { me := Int.tmod me (thr t), sp := Int.tmod sp (nod n + 1), R := mkL (nod n) (Int.tmod sp (nod n + 1)) ns } x.1 (ENR.sh x) (ENR.st x) → bif !ieq (Int.tmod sp (nod n + 1)) 0 then (List.length x.1 = List.length x.1 ∧ (0 : Int) ≤ (0 : Int) ∧ (0 : Int) ≤ (4611686018427387904 : Int)) ∧ True ∧ bif fitsB (↑(List.length x.1) : Int) (tTook x.1 { i := (0 : Int), bad := false, out := false } 1 0) true then bif !x.2 then bif ieq (ENR.st x).1 (Int.tmod me (thr t)) then bif ieq (ENR.st x).2 (Int.tmod sp (nod n + 1)) then ((List.length (ENR.st x).3 = List.length (ENR.st x).3 ∧ List.length (mkL (nod n) (Int.tmod sp (nod n + 1)) ns) = List.length (mkL (nod n) (Int.tmod sp (nod n + 1)) ns)) ∧ List.length (ENR.st x).3 ≤ (4294967296 : Nat)) ∧ AVal.bool (sameB (ENR.st x).3 (mkL (nod n) (Int.tmod sp (nod n + 1)) ns)) = AVal.bool true else AVal.bool false = AVal.bool true else AVal.bool false = AVal.bool true else AVal.bool false = AVal.bool true else AVal.bool false = AVal.bool true else thr t ≠ (0 : Int) ∧ ((List.length x.1 = List.length x.1 ∧ false = false ∧ false = false) ∧ ((1 : Int) ≤ thr t ∧ thr t ≤ (8 : Int)) ∧ ((1 : Int) ≤ nod n ∧ nod n ≤ (1000 : Int)) ∧ List.length x.1 ≤ (1000000 : Nat) ∧ ∃ (p : Nat) (g : Int) (q : Nat), (0 : Int) = (↑p : Int) ∧ p ≤ List.length x.1 ∧ TkO (nod n) x.1 (Int.toNat (nod n)) (at1 (nod n) (W (1 + W (Int.tdiv (W (Int.tmod me (thr t) * nod n)) (thr t))))) p g q) ∧ ∀ (x_1 : Int × Nat), TkO (nod n) x.1 (Int.toNat (nod n)) (at1 (nod n) (W (1 + W (Int.tdiv (W (Int.tmod me (thr t) * nod n)) (thr t))))) (Int.toNat 0) x_1.1 (Prod.snd x_1) → True ∧ bif !ieq x_1.1 0 then True ∧ bif fitsB (↑(List.length x.1) : Int) { i := (↑x_1.2 : Int), bad := false, out := false } true then bif !x.2 then bif ieq (ENR.st x).1 (Int.tmod me (thr t)) then bif ieq (ENR.st x).2 x_1.1 then ((List.length (ENR.st x).3 = List.length (ENR.st x).3 ∧ List.length (mkL (nod n) (Int.tmod sp (nod n + 1)) ns) = List.length (mkL (nod n) (Int.tmod sp (nod n + 1)) ns)) ∧ List.length (ENR.st x).3 ≤ (4294967296 : Nat)) ∧ AVal.bool (sameB (ENR.st x).3 (mkL (nod n) (Int.tmod sp (nod n + 1)) ns)) = AVal.bool true else AVal.bool false = AVal.bool true else AVal.bool false = AVal.bool true else AVal.bool false = AVal.bool true else AVal.bool false = AVal.bool true else bif ieq (↑(List.length (mkL (nod n) (Int.tmod sp (nod n + 1)) ns)) : Int) 0 then True ∧ bif fitsB (↑(List.length x.1) : Int) { i := (↑x_1.2 : Int), bad := false, out := false } true then bif bif x.2 then true else false then bif ieq (ENR.st x).1 (Int.tmod me (thr t)) then bif ieq (ENR.st x).2 x_1.1 then ((List.length (ENR.st x).3 = List.length (ENR.st x).3 ∧ List.length (mkL (nod n) (Int.tmod sp (nod n + 1)) ns) = List.length (mkL (nod n) (Int.tmod sp (nod n + 1)) ns)) ∧ List.length (ENR.st x).3 ≤ (4294967296 : Nat)) ∧ AVal.bool (sameB (ENR.st x).3 (mkL (nod n) (Int.tmod sp (nod n + 1)) ns)) = AVal.bool true else AVal.bool false = AVal.bool true else AVal.bool false = AVal.bool true else AVal.bool false = AVal.bool true else AVal.bool false = AVal.bool true else (((List.length x.1 = List.length x.1 ∧ List.length (mkL (nod n) (Int.tmod sp (nod n + 1)) ns) = List.length (mkL (nod n) (Int.tmod sp (nod n + 1)) ns) ∧ false = false ∧ false = false) ∧ ((1 : Int) ≤ thr t ∧ thr t ≤ (8 : Int)) ∧ ((1 : Int) ≤ nod n ∧ nod n ≤ (1000 : Int)) ∧ List.length (mkL (nod n) (Int.tmod sp (nod n + 1)) ns) ≤ (60 : Nat) ∧ (∀ (r : Int), List.Mem r (mkL (nod n) (Int.tmod sp (nod n + 1)) ns) → (1 : Int) ≤ r ∧ r ≤ nod n) ∧ (↑(List.length (ysAt x.1 (↑x_1.2 : Int) (thr t))) : Int) = (2 : Int) * thr t ∧ List.length x.1 ≤ (1000000 : Nat) ∧ ∃ (P Q : List (List Int)) (gs : List (Int × Int)), (↑x_1.2 : Int) = (↑(List.length P) : Int) ∧ x.1 = P ++ (rowsFrom (nod n) 0 (ysAt x.1 (↑x_1.2 : Int) (thr t)) ++ (rowsG (nod n) gs ++ Q)) ∧ List.map (fun x => Prod.fst x) gs = freedY (ysAt x.1 (↑x_1.2 : Int) (thr t)) (mkL (nod n) (Int.tmod sp (nod n + 1)) ns)) ∧ True) ∧ True ∧ bif ieq (↑(List.length (freedY (ysAt x.1 (↑x_1.2 : Int) (thr t)) (mkL (nod n) (Int.tmod sp (nod n + 1)) ns))) : Int) 0 then True ∧ bif fitsB (↑(List.length x.1) : Int) { i := (↑x_1.2 : Int) + 2 * thr t + (↑(List.length (freedY (ysAt x.1 (↑x_1.2 : Int) (thr t)) (mkL (nod n) (Int.tmod sp (nod n + 1)) ns))) : Int), bad := false, out := false } true then bif bif x.2 then true else false then bif ieq (ENR.st x).1 (Int.tmod me (thr t)) then bif ieq (ENR.st x).2 x_1.1 then ((List.length (ENR.st x).3 = List.length (ENR.st x).3 ∧ List.length (keptY (ysAt x.1 (↑x_1.2 : Int) (thr t)) (mkL (nod n) (Int.tmod sp (nod n + 1)) ns)) = List.length (keptY (ysAt x.1 (↑x_1.2 : Int) (thr t)) (mkL (nod n) (Int.tmod sp (nod n + 1)) ns))) ∧ List.length (ENR.st x).3 ≤ (4294967296 : Nat)) ∧ AVal.bool (sameB (ENR.st x).3 (keptY (ysAt x.1 (↑x_1.2 : Int) (thr t)) (mkL (nod n) (Int.tmod sp (nod n + 1)) ns))) = AVal.bool true else AVal.bool false = AVal.bool true else AVal.bool false = AVal.bool true else AVal.bool false = AVal.bool true else AVal.bool false = AVal.bool true else ((List.length x.1 = List.length x.1 ∧ false = false ∧ false = false) ∧ ((1 : Int) ≤ thr t ∧ thr t ≤ (8 : Int)) ∧ ((1 : Int) ≤ nod n ∧ nod n ≤ (1000 : Int)) ∧ List.length x.1 ≤ (1000000 : Nat) ∧ ∃ (p : Nat) (g : Int) (q : Nat), (↑x_1.2 : Int) + 2 * thr t + (↑(List.length (freedY (ysAt x.1 (↑x_1.2 : Int) (thr t)) (mkL (nod n) (Int.tmod sp (nod n + 1)) ns))) : Int) = (↑p : Int) ∧ p ≤ List.length x.1 ∧ TkO (nod n) x.1 (Int.toNat (nod n)) (at1 (nod n) (W (1 + W (Int.tdiv (W (Int.tmod me (thr t) * nod n)) (thr t))))) p g q) ∧ ∀ (x_2 : Int × Nat), TkO (nod n) x.1 (Int.toNat (nod n)) (at1 (nod n) (W (1 + W (Int.tdiv (W (Int.tmod me (thr t) * nod n)) (thr t))))) (Int.toNat ((↑(Prod.snd x_1) : Int) + 2 * thr t + (↑(List.length (freedY (ysAt (ENR.A x) (↑(Prod.snd x_1) : Int) (thr t)) (mkL (nod n) (Int.tmod sp (nod n + 1)) ns))) : Int))) x_2.1 (Prod.snd x_2) → True ∧ True ∧ bif fitsB (↑(List.length x.1) : Int) { i := (↑x_2.2 : Int), bad := false, out := false } true then bif bif x.2 then ieq x_2.1 0 else !ieq x_2.1 0 then bif ieq (ENR.st x).1 (Int.tmod me (thr t)) then bif ieq (ENR.st x).2 x_2.1 then ((List.length (ENR.st x).3 = List.length (ENR.st x).3 ∧ List.length (keptY (ysAt x.1 (↑x_1.2 : Int) (thr t)) (mkL (nod n) (Int.tmod sp (nod n + 1)) ns)) = List.length (keptY (ysAt x.1 (↑x_1.2 : Int) (thr t)) (mkL (nod n) (Int.tmod sp (nod n + 1)) ns))) ∧ List.length (ENR.st x).3 ≤ (4294967296 : Nat)) ∧ AVal.bool (sameB (ENR.st x).3 (keptY (ysAt x.1 (↑x_1.2 : Int) (thr t)) (mkL (nod n) (Int.tmod sp (nod n + 1)) ns))) = AVal.bool true else AVal.bool false = AVal.bool true else AVal.bool false = AVal.bool true else AVal.bool false = AVal.bool true else AVal.bool false = AVal.bool true
theorem ens_print (t n me sp : Int) (ws ns : List Int) (p : Nat) (fa fx : Nat → Int) (h : ensVC t n me sp ws ns p fa fx) : CallOk (obI tbl) Try.prog 4 [.agg [.int .u8 t, .int .u8 n, .iview (some .u64) ws], .agg [.int .u8 me, .int .u8 sp, .iview (some .u8) ns], .view p 2 (fun i => [.int .i64 (fa i), .int .u64 (fx i)])] ([] : Heap Ob) (fun v _ => v = .bool true) := by
  refine callOk_of (E := E54) Try.checked.mixed (L := LL) (n := 10) (of_nf (q := ensVC t n me sp ws ns p fa fx) (by kernel_rfl) h)
end Go.Sh

/- A machine that ensures a spare node: the law. -/
namespace Go.Sh
open Go Go.Proofs
variable [Con]
theorem at1_at0 {t n me : Int} (ht : 1 ≤ t ∧ t ≤ 4) (hn : 1 ≤ n ∧ n ≤ 12) (hm : 0 ≤ me ∧ me ≤ 4) : at1 n (W (1 + W (Int.tdiv (W (me * n)) t))) = at0 t n me := by
  have h0 : 0 ≤ me * n := Int.mul_nonneg hm.1 (by omega)
  have h1 : me * n ≤ 4 * 12 := Int.mul_le_mul hm.2 hn.2 (by omega) (by omega)
  have e1 : W (me * n) = me * n := W_id (by omega)
  have h2 : 0 ≤ Int.tdiv (me * n) t ∧ Int.tdiv (me * n) t ≤ me * n := by
    rw [Int.tdiv_eq_ediv_of_nonneg h0]
    exact ⟨Int.ediv_nonneg h0 (by omega), Int.ediv_le_self _ h0⟩
  rw [e1]
  have e2 : W (Int.tdiv (me * n) t) = Int.tdiv (me * n) t := W_id (by omega)
  rw [e2]
  have e3 : W (1 + Int.tdiv (me * n) t) = 1 + Int.tdiv (me * n) t := W_id (by omega)
  rw [e3]
  have e4 : firstV t n me = 1 + Int.tdiv (me * n) t := by unfold firstV; rw [if_neg (by omega)]
  unfold at1 at0
  rw [e4]
theorem fits_end (k : Nat) : fitsB (k : Int) ⟨(k : Int), false, false⟩ true = true := by unfold fitsB; rw [ieq_self]; rfl
theorem got_len (A1 : List (List Int)) (a b : List Int) : (A1 ++ [a, b]).length = A1.length + 2 := by simp
theorem ensures_ok (t n me sp : Int) (ws ns : List Int) (p : Nat) (fa fx : Nat → Int) (ht : 0 ≤ t ∧ t ≤ 255) (hn : 0 ≤ n ∧ n ≤ 255) (hme : 0 ≤ me ∧ me ≤ 255) (hsp : 0 ≤ sp ∧ sp ≤ 255) (hws : okW ws) (hns : ∀ v ∈ ns, 0 ≤ v ∧ v ≤ 255) (hfx : ∀ i, 0 ≤ fx i ∧ fx i ≤ 18446744073709551615) : ensVC t n me sp ws ns p fa fx := by
  unfold ensVC
  have h1 := thr_in ht
  have h2 := nod_in hn
  have hW : okW (memW (thr t) (nod n) ws) := okW_memW hws
  have hl := memW_length (thr t) (nod n) ws
  have hR := mkL_in (nod n) (Int.tmod sp (nod n + 1)) ns (by omega) hns
  have hlen := mkL_len (nod n) (Int.tmod sp (nod n + 1)) ns
  have hme2 := tmod_in (x := me) (t := thr t) hme.1 (by omega)
  generalize memW (thr t) (nod n) ws = MW at hW hl ⊢
  generalize mkL (nod n) (Int.tmod sp (nod n + 1)) ns = ML at hR hlen ⊢
  generalize Int.tmod sp (nod n + 1) = SP
  generalize Int.tmod me (thr t) = ME at hme2 ⊢
  generalize thr t = T at h1 hl hme2 ⊢
  generalize nod n = N at h2 hl hR ⊢
  have hat := at1_at0 (t := T) (n := N) (me := ME) h1 h2 (by omega)
  refine ⟨trivial, cond_go (fun _ => rfl) (fun _ => cond_go (fun _ => rfl) (fun _ => lt_go (fun _ => rfl) (fun h40 => ⟨⟨ht, hn⟩, ⟨by omega, fun v hv => hns v hv⟩, ⟨⟨rfl, rfl, rfl, by omega, by omega, by omega, by omega⟩, hl, hW, fun r hr => hR r hr, fa, fx, rfl, hfx⟩, ?_⟩)))⟩
  have hR' : ∀ r ∈ ML, 1 ≤ r ∧ r ≤ 1000 := fun r hr => by have := hR r hr; omega
  rintro ⟨A, sh, st, s⟩ hf
  dsimp only at hf ⊢
  rw [hat]
  have hT0 : T ≠ 0 := by omega
  have scan : ∀ (S P Q : List (List Int)) (ks fs : List Int) (b : Int), ScR T N ML S ks fs → A = P ++ (S ++ Q) → b = (P.length : Int) → ((ysAt A b T).length : Int) = 2 * T ∧ (∃ (P Q : List (List Int)) (gs : List (Int × Int)), b = (P.length : Int) ∧ A = P ++ (rowsFrom N 0 (ysAt A b T) ++ (rowsG N gs ++ Q)) ∧ gs.map (fun x => x.1) = freedY (ysAt A b T) ML) ∧ keptY (ysAt A b T) ML = ks ∧ freedY (ysAt A b T) ML = fs ∧ b + 2 * T + (fs.length : Int) = ((P.length + S.length : Nat) : Int) := by
    intro S P Q ks fs b hS hA hb
    obtain ⟨ys, gs, q1, q2, q3, q4, q5, q6⟩ := hS
    have hA2 : A = P ++ (rowsFrom N 0 ys ++ (rowsG N gs ++ Q)) := by rw [hA, q3, List.append_assoc]
    have hy := ysAt_rows hA2 hb q2
    have ek := kept_eq q1 hR'
    have ef := freed_eq q1 hR'
    rw [hy]
    refine ⟨q2, ⟨P, Q, gs, hb, hA2, by rw [← ef, ← q6]; exact q4⟩, by rw [← ek, q5], by rw [← ef, q6], ?_⟩
    have e1 : gs.length = fs.length := by rw [← q4, List.length_map]
    have e2 : S.length = ys.length + gs.length := by rw [q3, List.length_append, rowsFrom_len]; unfold rowsG; rw [List.length_map]
    rw [e2, ← e1, hb]; omega
  cases hf with
  | has y z h0 =>
    have hz : ieq SP 0 = false := by rw [ieq_eq]; simpa using h0
    rw [hz]
    obtain ⟨c1, c2⟩ := tkk (A := [[1, 0, y, y, z]]) (i := 0) (k := 1) (a := 0) (by omega) rfl rfl rfl
    refine ⟨⟨rfl, by omega⟩, trivial, ?_⟩
    rw [c1]
    show cond (fitsB 1 ⟨1, false, false⟩ true) _ _
    have := fits_end 1
    rw [show fitsB 1 ⟨1, false, false⟩ true = true from this, ieq_self, ieq_self, sameB_self]
    exact ⟨⟨⟨rfl, rfl⟩, by show ML.length ≤ 4294967296; omega⟩, rfl⟩
  | got A1 b j y h0 hT hb ho =>
    dsimp only at h0
    subst h0
    have hl1 := hT.len
    have htk := take_got hT ho [] []
    simp only [List.nil_append, List.append_nil, List.length_nil, Nat.zero_add] at htk
    refine ⟨hT0, ⟨⟨rfl, rfl, rfl⟩, by omega, by omega, by rw [got_len]; omega, 0, b, _, rfl, Nat.zero_le _, htk⟩, ?_⟩
    rintro ⟨g, q⟩ hq
    obtain ⟨e1, e2⟩ := htk.uniq hq
    dsimp only at e1 e2 ⊢
    subst e1 e2
    have hb0 : ieq b 0 = false := by rw [ieq_eq]; simp; omega
    refine ⟨trivial, ?_⟩
    rw [hb0]
    refine ⟨trivial, ?_⟩
    have hfe := fits_end (A1.length + 2)
    rw [got_len, hfe, ieq_self, ieq_self, sameB_self]
    exact ⟨⟨⟨rfl, rfl⟩, by omega⟩, rfl⟩
  | none _ b h0 hT hRe =>
    dsimp only at h0 hRe
    subst h0 hRe
    have hl1 := hT.len
    have htk := take_none hT [] []
    simp only [List.nil_append, List.append_nil, List.length_nil, Nat.zero_add] at htk
    refine ⟨hT0, ⟨⟨rfl, rfl, rfl⟩, by omega, by omega, by omega, 0, 0, _, rfl, Nat.zero_le _, htk⟩, ?_⟩
    rintro ⟨g, q⟩ hq
    obtain ⟨e1, e2⟩ := htk.uniq hq
    dsimp only at e1 e2 ⊢
    subst e1 e2
    refine ⟨trivial, trivial, ?_⟩
    have hfe := fits_end A.length
    rw [hfe, ieq_self, ieq_self, sameB_self]
    exact ⟨⟨⟨rfl, rfl⟩, by simp⟩, rfl⟩
  | kept A1 S b ks h0 hT hRe hS =>
    dsimp only at h0 hRe hS
    subst h0
    have hl1 := hT.len
    have hl2 := hS.len
    have hks : ks.length ≤ ML.length := by obtain ⟨ys, gs, q1, q2, q3, q4, q5, q6⟩ := hS; rw [q5]; exact filt_len _ _
    have htk := take_none hT [] S
    simp only [List.nil_append, List.length_nil, Nat.zero_add] at htk
    obtain ⟨s1, s2, s3, s4, s5⟩ := scan S A1 [] ks [] _ hS (by rw [List.append_nil]) rfl
    have hz : ieq (ML.length : Int) 0 = false := by
      cases h : ieq (ML.length : Int) 0 with
      | false => rfl
      | true => exact absurd (nil_of h) hRe
    refine ⟨hT0, ⟨⟨rfl, rfl, rfl⟩, by omega, by omega, by rw [List.length_append]; omega, 0, 0, _, rfl, Nat.zero_le _, htk⟩, ?_⟩
    rintro ⟨g, q⟩ hq
    obtain ⟨e1, e2⟩ := htk.uniq hq
    dsimp only at e1 e2 ⊢
    subst e1 e2
    refine ⟨trivial, ?_⟩
    rw [show ieq 0 0 = true from rfl, hz]
    refine ⟨⟨⟨⟨rfl, rfl, rfl, rfl⟩, by omega, by omega, by omega, hR, s1, by rw [List.length_append]; omega, s2⟩, trivial⟩, trivial, ?_⟩
    rw [s3, s4, s5]
    have hfe := fits_end (A1 ++ S).length
    refine ⟨trivial, ?_⟩
    rw [← List.length_append, hfe, ieq_self, sameB_self]
    exact ⟨⟨⟨rfl, rfl⟩, by omega⟩, rfl⟩
  | got2 A1 S A2 b b2 j y ks fs h0 hT hRe hS hfs h2 hb ho =>
    dsimp only at h0 hRe hS
    subst h0
    have hl1 := hT.len
    have hl2 := hS.len
    have hl3 := h2.len
    have hks : ks.length ≤ ML.length := by obtain ⟨ys, gs, q1, q2, q3, q4, q5, q6⟩ := hS; rw [q5]; exact filt_len _ _
    have htk := take_none hT [] (S ++ (A2 ++ [[1, N + 4 + b2, y, y, 1], [3, N + 4 + b2, y, WU (y + 1), 1]]))
    simp only [List.nil_append, List.length_nil, Nat.zero_add] at htk
    have htk2 := take_got h2 ho (A1 ++ S) []
    simp only [List.append_nil] at htk2
    rw [← List.append_assoc] at htk
    obtain ⟨s1, s2, s3, s4, s5⟩ := scan S A1 (A2 ++ [[1, N + 4 + b2, y, y, 1], [3, N + 4 + b2, y, WU (y + 1), 1]]) ks fs _ hS (by rw [List.append_assoc]) rfl
    have hz : ieq (ML.length : Int) 0 = false := by
      cases h : ieq (ML.length : Int) 0 with
      | false => rfl
      | true => exact absurd (nil_of h) hRe
    have hzf : ieq (fs.length : Int) 0 = false := by
      cases h : ieq (fs.length : Int) 0 with
      | false => rfl
      | true => exact absurd (nil_of h) hfs
    have hAl : (A1 ++ S ++ (A2 ++ [[1, N + 4 + b2, y, y, 1], [3, N + 4 + b2, y, WU (y + 1), 1]])).length = (A1 ++ S).length + A2.length + 2 := by rw [List.length_append, got_len]; omega
    have hASl : (A1 ++ S).length = A1.length + S.length := List.length_append
    refine ⟨hT0, ⟨⟨rfl, rfl, rfl⟩, by omega, by omega, by rw [hAl]; omega, 0, 0, _, rfl, Nat.zero_le _, htk⟩, ?_⟩
    rintro ⟨g, q⟩ hq
    obtain ⟨e1, e2⟩ := htk.uniq hq
    dsimp only at e1 e2 ⊢
    subst e1 e2
    refine ⟨trivial, ?_⟩
    rw [show ieq 0 0 = true from rfl, hz]
    refine ⟨⟨⟨⟨rfl, rfl, rfl, rfl⟩, by omega, by omega, by omega, hR, s1, by rw [hAl]; omega, s2⟩, trivial⟩, trivial, ?_⟩
    rw [s3, s4, s5, hzf, ← hASl]
    refine ⟨⟨⟨rfl, rfl, rfl⟩, by omega, by omega, by rw [hAl]; omega, (A1 ++ S).length, b2, _, rfl, by rw [hAl]; omega, htk2⟩, ?_⟩
    rintro ⟨g, q⟩ hq
    obtain ⟨e1, e2⟩ := htk2.uniq hq
    dsimp only at e1 e2 ⊢
    subst e1 e2
    have hb0 : ieq b2 0 = false := by rw [ieq_eq]; simp; omega
    have hfe := fits_end ((A1 ++ S).length + A2.length + 2)
    refine ⟨trivial, trivial, ?_⟩
    rw [hAl, hfe, hb0, ieq_self, ieq_self, sameB_self]
    exact ⟨⟨⟨rfl, rfl⟩, by omega⟩, rfl⟩
  | none2 A1 S A2 b b2 ks fs h0 hT hRe hS hfs h2 =>
    dsimp only at h0 hRe hS
    subst h0
    have hl1 := hT.len
    have hl2 := hS.len
    have hl3 := h2.len
    have hks : ks.length ≤ ML.length := by obtain ⟨ys, gs, q1, q2, q3, q4, q5, q6⟩ := hS; rw [q5]; exact filt_len _ _
    have htk := take_none hT [] (S ++ A2)
    simp only [List.nil_append, List.length_nil, Nat.zero_add] at htk
    have htk2 := take_none h2 (A1 ++ S) []
    simp only [List.append_nil] at htk2
    rw [← List.append_assoc] at htk
    obtain ⟨s1, s2, s3, s4, s5⟩ := scan S A1 A2 ks fs _ hS (by rw [List.append_assoc]) rfl
    have hz : ieq (ML.length : Int) 0 = false := by
      cases h : ieq (ML.length : Int) 0 with
      | false => rfl
      | true => exact absurd (nil_of h) hRe
    have hzf : ieq (fs.length : Int) 0 = false := by
      cases h : ieq (fs.length : Int) 0 with
      | false => rfl
      | true => exact absurd (nil_of h) hfs
    have hAl : (A1 ++ S ++ A2).length = (A1 ++ S).length + A2.length := List.length_append
    have hASl : (A1 ++ S).length = A1.length + S.length := List.length_append
    refine ⟨hT0, ⟨⟨rfl, rfl, rfl⟩, by omega, by omega, by rw [hAl]; omega, 0, 0, _, rfl, Nat.zero_le _, htk⟩, ?_⟩
    rintro ⟨g, q⟩ hq
    obtain ⟨e1, e2⟩ := htk.uniq hq
    dsimp only at e1 e2 ⊢
    subst e1 e2
    refine ⟨trivial, ?_⟩
    rw [show ieq 0 0 = true from rfl, hz]
    refine ⟨⟨⟨⟨rfl, rfl, rfl, rfl⟩, by omega, by omega, by omega, hR, s1, by rw [hAl]; omega, s2⟩, trivial⟩, trivial, ?_⟩
    rw [s3, s4, s5, hzf, ← hASl]
    refine ⟨⟨⟨rfl, rfl, rfl⟩, by omega, by omega, by rw [hAl]; omega, (A1 ++ S).length, 0, _, rfl, by rw [hAl]; omega, htk2⟩, ?_⟩
    rintro ⟨g, q⟩ hq
    obtain ⟨e1, e2⟩ := htk2.uniq hq
    dsimp only at e1 e2 ⊢
    subst e1 e2
    have hfe := fits_end ((A1 ++ S).length + A2.length)
    refine ⟨trivial, trivial, ?_⟩
    rw [hAl, hfe, show ieq 0 0 = true from rfl, ieq_self, sameB_self]
    exact ⟨⟨⟨rfl, rfl⟩, by omega⟩, rfl⟩
end Go.Sh

