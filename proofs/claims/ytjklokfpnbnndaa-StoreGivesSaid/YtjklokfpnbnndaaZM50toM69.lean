import Derived.Test.YtjklokfpnbnndaaZSh24
set_option linter.all false
/- A machine that ensures a spare node, watched: the contract. -/
namespace Go.Sh
open Go Go.Proofs
variable [Con]
/-- what a machine that was watched leaves -/
structure ENR where
  A : List (List Int)
  sh : Bool
  st : STS
  s : MS
structure enDone (t n : Int) (e0 : ENS) (st0 : STS) (r : ENR) : Prop where
  ex : ∃ k e st A s, enTr t n e0 st0 k e st A ∧ okW s.xs ∧ s.xs.length = (2 * n + 5 * t + 6).toNat ∧ (enF t n e st s).d = true ∧ r.A = A ++ [rowM (enF t n e st s).s] ∧ r.sh = (enF t n e st s).e.sh ∧ r.st = (enF t n e st s).st ∧ r.s = (enF t n e st s).s
def enRH (t n : Int) (r : ENR) : Heap Ob := mH r.s ++ [some (.cells [.ptr 3 0, .bool r.sh, .top, .top, .top]), some (.cells [.int .i64 t, .int .i64 n, .int .i64 r.st.me, .int .i64 r.st.sp, .slice 5 0 r.st.R.length 1]), none, some (.ints (some .i64) r.st.R), some (.cells [.tslice 7 0 r.A.length 5, .int .i64 0, .bool false, .bool false]), some (.tab [some .i64, some .i64, some .u64, some .u64, none] r.A)]
def enRG (t n : Int) (r : ENR) : Heap Ob := mH r.s ++ [some (.cells [.ptr 3 0, .bool r.sh, .top, .top, .top]), some (.cells [.int .i64 t, .int .i64 n, .int .i64 r.st.me, .int .i64 r.st.sp, .slice 7 0 r.st.R.length 1]), none, some (.cells [.tslice 6 0 r.A.length 5, .int .i64 0, .bool false, .bool false]), some (.tab [some .i64, some .i64, some .u64, some .u64, none] r.A), some (.ints (some .i64) r.st.R)]
theorem wc {x y : Option (Entry Ob)} {g g2 : Heap Ob} (h : weakE x y) (k : weakH g g2) : weakH (x :: g) (y :: g2) := ⟨h, k⟩
theorem wv {v w : AVal} {vs ws : List AVal} (h : w = v ∨ w = .top) (k : weakV vs ws) : weakV (v :: vs) (w :: ws) := ⟨h, k⟩
theorem less_intro {K : AVal → Heap Ob → Prop} {v : AVal} {g g1 g2 g3 : Heap Ob} (e : g = g1) (e2 : g3 = g2) (w : weakH g1 g3) (hK : K v g2) : LessK K v g := by subst e e2; exact ⟨_, w, hK⟩
theorem vend : weakV [] [] := trivial
theorem wend : weakH ([] : Heap Ob) [] := trivial
theorem wcell {vs ws : List AVal} (h : weakV vs ws) : weakE (some (.cells vs) : Option (Entry Ob)) (some (.cells ws)) := h
theorem wvs : ∀ vs : List AVal, weakV vs vs
  | [] => trivial
  | v :: vs => ⟨.inl rfl, wvs vs⟩
theorem wsame : ∀ x : Option (Entry Ob), weakE x x
  | none => trivial
  | some (.cells vs) => wvs vs
  | some (.ints c xs) => rfl
  | some (.abs t ps) => rfl
  | some (.tab ks r) => rfl
  | some (.imap k v m) => rfl
theorem wnone {x : Option (Entry Ob)} : weakE x none := by cases x <;> simp [weakE]
theorem en_open {t n : Int} {r : ENR} {e : ENS} {K : AVal → Heap Ob → Prop} (hs : r.sh = e.sh) (hK : K (.tup [.ptr 6 0, .bool true, .bool true]) (enRH t n r)) :
    OpenK tbl (OpenK tbl (LessK (Trim 5 K))) (.tup [.ptr 5 0, .bool true, .bool true]) (mH r.s ++ [some (.abs (.ensure t n e) [3]), some (.abs (.store t n r.st) []), none, some (.cells [.tslice 6 0 r.A.length 5, .int .i64 0, .bool false, .bool false]), some (.tab [some .i64, some .i64, some .u64, some .u64, none] r.A)]) := by
  refine ⟨.store t n r.st, 3, 0, stG t n r.st, [], rfl, rfl, rfl, ?_⟩
  obtain ⟨ph, sh, dn, x, y⟩ := e
  dsimp only at hs
  subst hs
  match ph with
  | 0 => exact ⟨.ensure t n ⟨0, r.sh, dn, x, y⟩, 2, 1, enG t n ⟨0, r.sh, dn, x, y⟩, [3], rfl, rfl, rfl, less_intro (g2 := enRG t n r ++ []) (by exact rfl) (by exact rfl) (wc (wsame _) (wc (wsame _) (wc (wcell (wv (.inl rfl) (wv (.inl rfl) (wv (.inr rfl) (wv (.inr rfl) (wv (.inr rfl) vend)))))) (wc (wsame _) (wc (wsame _) (wc (wsame _) (wc (wsame _) (wc (wsame _) wend)))))))) (Eq.mp (by kernel_rfl) hK)⟩
  | 1 => exact ⟨.ensure t n ⟨1, r.sh, dn, x, y⟩, 2, 1, enG t n ⟨1, r.sh, dn, x, y⟩, [3], rfl, rfl, rfl, less_intro (g2 := enRG t n r ++ [none]) (by exact rfl) (by exact rfl) (wc (wsame _) (wc (wsame _) (wc (wcell (wv (.inl rfl) (wv (.inl rfl) (wv (.inr rfl) (wv (.inr rfl) (wv (.inr rfl) vend)))))) (wc (wsame _) (wc (wsame _) (wc (wsame _) (wc (wsame _) (wc (wsame _) (wc wnone wend))))))))) (Eq.mp (by kernel_rfl) hK)⟩
  | 2 => exact ⟨.ensure t n ⟨2, r.sh, dn, x, y⟩, 2, 1, enG t n ⟨2, r.sh, dn, x, y⟩, [3], rfl, rfl, rfl, less_intro (g2 := enRG t n r ++ [none, none]) (by exact rfl) (by exact rfl) (wc (wsame _) (wc (wsame _) (wc (wcell (wv (.inl rfl) (wv (.inl rfl) (wv (.inr rfl) (wv (.inr rfl) (wv (.inr rfl) vend)))))) (wc (wsame _) (wc (wsame _) (wc (wsame _) (wc (wsame _) (wc (wsame _) (wc wnone (wc wnone wend)))))))))) (Eq.mp (by kernel_rfl) hK)⟩
  | 3 => exact ⟨.ensure t n ⟨3, r.sh, dn, x, y⟩, 2, 1, enG t n ⟨3, r.sh, dn, x, y⟩, [3], rfl, rfl, rfl, less_intro (g2 := enRG t n r ++ [none, none, none, none, none]) (by exact rfl) (by exact rfl) (wc (wsame _) (wc (wsame _) (wc (wcell (wv (.inl rfl) (wv (.inl rfl) (wv (.inr rfl) (wv (.inr rfl) (wv (.inr rfl) vend)))))) (wc (wsame _) (wc (wsame _) (wc (wsame _) (wc (wsame _) (wc (wsame _) (wc wnone (wc wnone (wc wnone (wc wnone (wc wnone wend))))))))))))) (Eq.mp (by kernel_rfl) hK)⟩
  | k + 4 => exact ⟨.ensure t n ⟨k + 4, r.sh, dn, x, y⟩, 2, 1, enG t n ⟨k + 4, r.sh, dn, x, y⟩, [3], rfl, rfl, rfl, less_intro (g2 := enRG t n r ++ [none, none, none, none, none, none, none, none, none]) (by exact rfl) (by exact rfl) (wc (wsame _) (wc (wsame _) (wc (wcell (wv (.inl rfl) (wv (.inl rfl) (wv (.inr rfl) (wv (.inr rfl) (wv (.inr rfl) vend)))))) (wc (wsame _) (wc (wsame _) (wc (wsame _) (wc (wsame _) (wc (wsame _) (wc wnone (wc wnone (wc wnone (wc wnone (wc wnone (wc wnone (wc wnone (wc wnone (wc wnone wend))))))))))))))))) (Eq.mp (by kernel_rfl) hK)⟩
set_option maxRecDepth 20000 in
theorem en_call (p : Nat) (fa fx : Nat → Int) (t n : Int) (dn : Bool) (x : AL) (y : SWS) (st : STS) (s : MS) (K : AVal → Heap Ob → Prop) (hfx : ∀ i, 0 ≤ fx i ∧ fx i ≤ 18446744073709551615) (ht : 1 ≤ t ∧ t ≤ 8) (hn : 1 ≤ n ∧ n ≤ 1000) (hc0 : s.c = 0) (hl0 : s.xs.length = (2 * n + 5 * t + 6).toNat) (hw0 : okW s.xs)
    (hinv : ∀ k e st1 A, enTr t n ⟨0, false, dn, x, y⟩ st k e st1 A → k < 200 ∧ ∀ s : MS, 0 ≤ s.c ∧ s.c ≤ 1000000 → okE t n e st1 s)
    (hK : ∀ r, enDone t n ⟨0, false, dn, x, y⟩ st r → K (.tup [.ptr 6 0, .bool true, .bool true]) (enRH t n r)) :
    CallOk (obI tbl) Try.prog 29 [.ptr 0 0, .iface 58 (.ptr 2 0), .view p 2 (fun i => [.int .i64 (fa i), .int .u64 (fx i)]), .int .i64 200] (mH s ++ [some (.cells [.ptr 3 0, .bool false, .raw (.pointer none), .raw (.pointer none), .bool dn]), some (.cells [.int .i64 t, .int .i64 n, .int .i64 st.me, .int .i64 st.sp, .slice 4 0 st.R.length 1]), some (.ints (some .i64) st.R)]) K := by
  refine CallOk.trim (CallOk.less (CallOk.opened tbl (CallOk.opened tbl ?_)))
  refine CallOk.shut tbl (mH s ++ [some (.abs (.ensure t n ⟨0, false, dn, x, y⟩) [3]), some (.cells [.int .i64 t, .int .i64 n, .int .i64 st.me, .int .i64 st.sp, .slice 4 0 st.R.length 1]), some (.ints (some .i64) st.R)]) (.ensure t n ⟨0, false, dn, x, y⟩) 2 1 (enG t n ⟨0, false, dn, x, y⟩) [3] rfl rfl rfl rfl ?_
  refine CallOk.shut tbl (mH s ++ [some (.abs (.ensure t n ⟨0, false, dn, x, y⟩) [3]), some (.abs (.store t n st) [])]) (.store t n st) 3 0 (stG t n st) [] rfl rfl rfl rfl ?_
  refine en_print p fa fx t n ⟨0, false, dn, x, y⟩ st s _ (en_watch p fa fx t n _ st s _ hfx ht hn hc0 hl0 hw0 hinv ?_)
  intro k e st1 A s1 tr hw hl hk hd
  exact en_open (r := ⟨A ++ [rowM (enF t n e st1 s1).s], (enF t n e st1 s1).e.sh, (enF t n e st1 s1).st, (enF t n e st1 s1).s⟩) (e := (enF t n e st1 s1).e) rfl (hK _ ⟨k, e, st1, A, s1, tr, hw, hl, hd, rfl, rfl, rfl, rfl⟩)
end Go.Sh

/- A machine that ensures a spare node, watched: what was done, as a list. -/
namespace Go.Sh
open Go Go.Proofs
variable [Con]
/-- rows of tries to take a node that all failed: from a, with k left, to b, with j left -/
inductive TkR (n : Int) : Int → Nat → List (List Int) → Int → Nat → Prop where
  | nil (a : Int) (k : Nat) : TkR n a k [] a k
  | odd (a : Int) (k : Nat) (A : List (List Int)) (b : Int) (j : Nat) (y : Int) (h : TkR n a k A b (j + 1)) (hb : 1 ≤ b ∧ b ≤ n) (ho : oddB y = true) : TkR n a k (A ++ [[1, n + 4 + b, y, y, 1]]) (nextN n b) j
  | lost (a : Int) (k : Nat) (A : List (List Int)) (b : Int) (j : Nat) (y o : Int) (h : TkR n a k A b (j + 1)) (hb : 1 ≤ b ∧ b ≤ n) (ho : oddB y = false) (hne : o ≠ y) : TkR n a k (A ++ [[1, n + 4 + b, y, y, 1], [3, n + 4 + b, o, WU (y + 1), 0]]) (nextN n b) j
theorem TkR.len {n a : Int} {k : Nat} {A : List (List Int)} {b : Int} {j : Nat} (h : TkR n a k A b j) : A.length + 2 * j ≤ 2 * k := by
  induction h with
  | nil => simp
  | odd => simp only [List.length_append, List.length_cons, List.length_nil]; omega
  | lost => simp only [List.length_append, List.length_cons, List.length_nil]; omega
theorem nextN_in {n b : Int} (hn : 1 ≤ n) (hb : 1 ≤ b ∧ b ≤ n) : 1 ≤ nextN n b ∧ nextN n b ≤ n := by
  have := tmod_in (x := b) (t := n) (by omega) (by omega)
  unfold nextN; omega
def freeRow (n : Int) (x : AL) : List (List Int) := bif x.free then [[1, n + 4 + x.at', x.found, x.found, 1]] else []
structure okX (n a : Int) (k : Nat) (x : AL) (A1 : List (List Int)) : Prop where
  hg : x.got = 0
  ha : 1 ≤ x.at' ∧ x.at' ≤ n
  hl : 1 ≤ x.left ∧ x.left ≤ n
  tr : TkR n a k A1 x.at' x.left.toNat
  hf : x.free = true → oddB x.found = false
/-- what comes of a try -/
inductive TkC (n a : Int) (k : Nat) (e : ENS) (st : STS) (o : EO) (B : List (List Int)) : Prop where
  | got (A2 : List (List Int)) (b : Int) (j : Nat) (y : Int) (h : TkR n a k A2 b (j + 1)) (hb : 1 ≤ b ∧ b ≤ n) (ho : oddB y = false) (hB : B = A2 ++ [[1, n + 4 + b, y, y, 1], [3, n + 4 + b, y, WU (y + 1), 1]]) (hd : o.d = true) (hs : o.e.sh = e.sh) (ht : o.st = { st with sp := b })
  | on (x : AL) (A2 : List (List Int)) (h : okX n a k x A2) (hB : B = A2 ++ freeRow n x) (hd : o.d = false) (he : o.e = { e with ph := 1, x := x }) (ht : o.st = st)
  | out (x : AL) (b : Int) (h : TkR n a k B b 0) (hd : o.d = (e.dn || ieq (st.R.length : Int) 0)) (he : o.e = { e with ph := 2, sh := e.dn || ieq (st.R.length : Int) 0, x := x }) (ht : o.st = { st with sp := 0 })
theorem rowM_load {s : MS} {a : Int} (h : inB s.xs a = true) : rowM (s.loadd a) = [1, a, peek s.xs a, peek s.xs a, 1] := by
  show [1, a, peek s.xs a, peek s.xs a, bif inB s.xs a then 1 else 0] = _
  rw [h]; rfl
theorem rowM_add {s : MS} {a x : Int} (h : inB s.xs a = true) : rowM (s.added a x) = [4, a, peek s.xs a, WU (peek s.xs a + x), 1] := by
  show [4, a, peek s.xs a, bif inB s.xs a then _ else 0, bif inB s.xs a then 1 else 0] = _
  rw [h]; rfl
theorem rowM_cas {s : MS} {a o x : Int} (h : inB s.xs a = true) : rowM (s.cased a o x) = [3, a, peek s.xs a, x, bif casB s.xs a o then 1 else 0] := by
  show [3, a, peek s.xs a, bif inB s.xs a then x else 0, bif casB s.xs a o then 1 else 0] = _
  rw [h]; rfl
theorem enOn_case {n a : Int} {k : Nat} {e : ENS} {st : STS} {x : AL} {s : MS} {B : List (List Int)} (hg : x.got = 0) (ha : 1 ≤ x.at' ∧ x.at' ≤ n) (hl : 0 ≤ x.left ∧ x.left ≤ n) (tr : TkR n a k B x.at' x.left.toNat) (hf : x.free = false) : TkC n a k e st (enOn e st x s) B := by
  unfold enOn
  cases h : ile x.left 0 with
  | true =>
    rw [ile_eq, decide_eq_true_eq] at h
    have e0 : x.left.toNat = 0 := by omega
    rw [e0] at tr
    exact .out x x.at' tr rfl rfl rfl
  | false =>
    rw [ile_eq, decide_eq_false_iff_not] at h
    refine .on x B ⟨hg, ha, by omega, tr, fun c => by rw [hf] at c; cases c⟩ ?_ rfl rfl rfl
    unfold freeRow; rw [hf]; simp
theorem enTake_case {t n a : Int} {k : Nat} {e : ENS} {st : STS} {x : AL} {s : MS} {A1 : List (List Int)} (hn : 1 ≤ n) (ht : 1 ≤ t) (hlen : s.xs.length = (2 * n + 5 * t + 6).toNat) (h : okX n a k x A1) : TkC n a k e st (enTake n e st x s) (A1 ++ freeRow n x ++ [rowM (enTake n e st x s).s]) := by
  obtain ⟨hg, ha, hl, tr, hf⟩ := h
  have hin : inB s.xs (n + 4 + x.at') = true := inB_true.2 (by omega)
  have hnx := nextN_in hn ha
  have el : x.left.toNat = (x.left - 1).toNat + 1 := by omega
  rw [el] at tr
  unfold enTake freeRow
  cases hfr : x.free with
  | false =>
    simp only [cond_false, List.append_nil]
    cases ho : oddB (peek s.xs (n + 4 + x.at')) with
    | true =>
      have es : (enOn e st ⟨0, nextN n x.at', x.left - 1, peek s.xs (n + 4 + x.at'), false⟩ (s.loadd (n + 4 + x.at'))).s = s.loadd (n + 4 + x.at') := by unfold enOn; split <;> rfl
      dsimp only
      rw [es, rowM_load hin]
      exact enOn_case rfl hnx (by dsimp only; omega) (.odd _ _ _ _ _ _ tr ha ho) rfl
    | false =>
      dsimp only
      rw [rowM_load hin]
      refine .on ⟨0, x.at', x.left, peek s.xs (n + 4 + x.at'), true⟩ A1 ⟨rfl, ha, hl, by rw [el]; exact tr, fun _ => ho⟩ rfl rfl rfl rfl
  | true =>
    have hev := hf hfr
    simp only [cond_true]
    cases hb : casB s.xs (n + 4 + x.at') x.found with
    | true =>
      have hp : peek s.xs (n + 4 + x.at') = x.found := by
        unfold casB at hb
        rw [hin, ieq_eq] at hb
        simpa using hb
      dsimp only
      rw [rowM_cas hin, hb, hp]
      exact .got A1 x.at' _ x.found tr ha hev (by rw [List.append_assoc]; rfl) rfl rfl rfl
    | false =>
      have hp : peek s.xs (n + 4 + x.at') ≠ x.found := by
        unfold casB at hb
        rw [hin, ieq_eq] at hb
        simpa using hb
      have es : (enOn e st ⟨0, nextN n x.at', x.left - 1, x.found, false⟩ (s.cased (n + 4 + x.at') x.found (WU (x.found + 1)))).s = s.cased (n + 4 + x.at') x.found (WU (x.found + 1)) := by unfold enOn; split <;> rfl
      dsimp only
      rw [es, rowM_cas hin, hb, List.append_assoc]
      exact enOn_case rfl hnx (by dsimp only; omega) (.lost _ _ _ _ _ _ _ tr ha hev hp) rfl
/-- a scan's rows -/
structure ScR (t n : Int) (R : List Int) (S : List (List Int)) (ks fs : List Int) : Prop where
  ex : ∃ (ys : List Int) (gs : List (Int × Int)), okW ys ∧ (ys.length : Int) = 2 * t ∧ S = rowsFrom n 0 ys ++ rowsG n gs ∧ gs.map (·.1) = fs ∧ ks = keptL (seenOf ys) R ∧ fs = freedL (seenOf ys) R
/-- what was done till now -/
inductive HisE (t n a : Int) (k : Nat) (e0 : ENS) (st0 : STS) : ENS → STS → List (List Int) → Prop where
  | new : HisE t n a k e0 st0 e0 st0 []
  | take (x : AL) (y : SWS) (A1 : List (List Int)) (h0 : st0.sp = 0) (hx : okX n a k x A1) : HisE t n a k e0 st0 ⟨1, false, false, x, y⟩ st0 (A1 ++ freeRow n x)
  | swA (x : AL) (y : SWS) (A1 : List (List Int)) (b : Int) (h0 : st0.sp = 0) (h1 : TkR n a k A1 b 0) (hR : st0.R ≠ []) : HisE t n a k e0 st0 ⟨2, false, false, x, y⟩ { st0 with sp := 0 } A1
  | swB (x : AL) (y : SWS) (A1 : List (List Int)) (b : Int) (ys : List Int) (h0 : st0.sp = 0) (h1 : TkR n a k A1 b 0) (hR : st0.R ≠ []) (hw : okW ys) (hi : y.i = (ys.length : Int)) (h2 : 1 ≤ y.i ∧ y.i < 2 * t) (hm : y.m = seenOf ys) (hN : y.N = st0.R) : HisE t n a k e0 st0 ⟨3, false, false, x, y⟩ { st0 with sp := 0 } (A1 ++ rowsFrom n 0 ys)
  | swC (x : AL) (y : SWS) (A1 : List (List Int)) (b : Int) (ys : List Int) (gs : List (Int × Int)) (h0 : st0.sp = 0) (h1 : TkR n a k A1 b 0) (hR : st0.R ≠ []) (hw : okW ys) (hi : (ys.length : Int) = 2 * t) (h2 : y.i = 2 * t) (hk : y.ks = keptL (seenOf ys) st0.R) (hf : y.fs = freedL (seenOf ys) st0.R) (hg : y.gs = y.fs) (hj : y.j < y.fs.length) (hl : y.l = y.fs.length - y.j) (hgs : gs.map (·.1) = y.fs.take y.j) : HisE t n a k e0 st0 ⟨4, false, false, x, y⟩ { st0 with sp := 0 } (A1 ++ (rowsFrom n 0 ys ++ rowsG n gs))
  | again (x : AL) (y : SWS) (A1 S : List (List Int)) (b : Int) (ks fs : List Int) (h0 : st0.sp = 0) (h1 : TkR n a k A1 b 0) (hR : st0.R ≠ []) (hS : ScR t n st0.R S ks fs) (hf : fs ≠ []) : HisE t n a k e0 st0 ⟨0, false, true, x, y⟩ ⟨st0.me, 0, ks⟩ (A1 ++ S)
  | take2 (x : AL) (y : SWS) (A1 S A2 : List (List Int)) (b : Int) (ks fs : List Int) (h0 : st0.sp = 0) (h1 : TkR n a k A1 b 0) (hR : st0.R ≠ []) (hS : ScR t n st0.R S ks fs) (hf : fs ≠ []) (hx : okX n a k x A2) : HisE t n a k e0 st0 ⟨1, false, true, x, y⟩ ⟨st0.me, 0, ks⟩ (A1 ++ S ++ (A2 ++ freeRow n x))
/-- what was done in all; is it short; the store -/
inductive FinE (t n a : Int) (k : Nat) (st0 : STS) : List (List Int) → Bool → STS → Prop where
  | has (y z : Int) (h0 : st0.sp ≠ 0) : FinE t n a k st0 [[1, 0, y, y, z]] false st0
  | got (A1 : List (List Int)) (b : Int) (j : Nat) (y : Int) (h0 : st0.sp = 0) (h1 : TkR n a k A1 b (j + 1)) (hb : 1 ≤ b ∧ b ≤ n) (ho : oddB y = false) : FinE t n a k st0 (A1 ++ [[1, n + 4 + b, y, y, 1], [3, n + 4 + b, y, WU (y + 1), 1]]) false { st0 with sp := b }
  | none (A1 : List (List Int)) (b : Int) (h0 : st0.sp = 0) (h1 : TkR n a k A1 b 0) (hR : st0.R = []) : FinE t n a k st0 A1 true { st0 with sp := 0 }
  | kept (A1 S : List (List Int)) (b : Int) (ks : List Int) (h0 : st0.sp = 0) (h1 : TkR n a k A1 b 0) (hR : st0.R ≠ []) (hS : ScR t n st0.R S ks []) : FinE t n a k st0 (A1 ++ S) true ⟨st0.me, 0, ks⟩
  | got2 (A1 S A2 : List (List Int)) (b b2 : Int) (j : Nat) (y : Int) (ks fs : List Int) (h0 : st0.sp = 0) (h1 : TkR n a k A1 b 0) (hR : st0.R ≠ []) (hS : ScR t n st0.R S ks fs) (hf : fs ≠ []) (h2 : TkR n a k A2 b2 (j + 1)) (hb : 1 ≤ b2 ∧ b2 ≤ n) (ho : oddB y = false) : FinE t n a k st0 (A1 ++ S ++ (A2 ++ [[1, n + 4 + b2, y, y, 1], [3, n + 4 + b2, y, WU (y + 1), 1]])) false ⟨st0.me, b2, ks⟩
  | none2 (A1 S A2 : List (List Int)) (b b2 : Int) (ks fs : List Int) (h0 : st0.sp = 0) (h1 : TkR n a k A1 b 0) (hR : st0.R ≠ []) (hS : ScR t n st0.R S ks fs) (hf : fs ≠ []) (h2 : TkR n a k A2 b2 0) : FinE t n a k st0 (A1 ++ S ++ A2) true ⟨st0.me, 0, ks⟩
theorem at0_in {t n me : Int} (hn : 1 ≤ n) : 1 ≤ at0 t n me ∧ at0 t n me ≤ n := by
  unfold at0 nodeB
  cases h1 : (ile 1 (firstV t n me)) <;> cases h2 : ile (firstV t n me) n <;> simp only [Bool.and_true, Bool.and_false, Bool.and_self, cond_true, cond_false] <;> rw [ile_eq] at h1 h2 <;> simp at h1 h2 <;> omega
theorem nil_of {R : List Int} (h : ieq (R.length : Int) 0 = true) : R = [] := by
  rw [ieq_eq] at h
  have : (R.length : Int) = 0 := by simpa using h
  exact List.length_eq_zero_iff.1 (by omega)
/-- a step more, or the end -/
theorem his_step {t n a : Int} {k : Nat} {x0 : AL} {y0 : SWS} {st0 : STS} {e : ENS} {st : STS} {A : List (List Int)} {s : MS} (ht : 1 ≤ t ∧ t ≤ 8) (hn : 1 ≤ n ∧ n ≤ 1000) (ha : a = at0 t n st0.me) (hk : k = n.toNat) (hRn : ∀ r ∈ st0.R, 1 ≤ r ∧ r ≤ n)
    (h : HisE t n a k ⟨0, false, false, x0, y0⟩ st0 e st A) (hw : okW s.xs) (hlen : s.xs.length = (2 * n + 5 * t + 6).toNat) :
    ((enF t n e st s).d = false → HisE t n a k ⟨0, false, false, x0, y0⟩ st0 (enF t n e st s).e (enF t n e st s).st (A ++ [rowM (enF t n e st s).s])) ∧ ((enF t n e st s).d = true → FinE t n a k st0 (A ++ [rowM (enF t n e st s).s]) (enF t n e st s).e.sh (enF t n e st s).st) := by
  have hat : 1 ≤ a ∧ a ≤ n := by rw [ha]; exact at0_in hn.1
  have hx0 : okX n a k ⟨0, a, n, 0, false⟩ [] := ⟨rfl, hat, by dsimp only; omega, by rw [hk]; exact .nil a _, fun c => by cases c⟩
  cases h with
  | new =>
    cases hz : ieq st0.sp 0 with
    | false =>
      have hz' : st0.sp ≠ 0 := by rw [ieq_eq] at hz; simpa using hz
      have ee : enF t n ⟨0, false, false, x0, y0⟩ st0 s = ⟨true, ⟨0, false, false, x0, y0⟩, st0, s.loadd 0⟩ := by unfold enF; dsimp only; rw [hz] <;> rfl
      rw [ee]
      exact ⟨fun c => (Bool.noConfusion c), fun _ => .has _ _ hz'⟩
    | true =>
      have hz' : st0.sp = 0 := by rw [ieq_eq] at hz; simpa using hz
      have ee : enF t n ⟨0, false, false, x0, y0⟩ st0 s = enTake n ⟨0, false, false, x0, y0⟩ st0 ⟨0, a, n, 0, false⟩ s := by unfold enF; dsimp only; rw [hz, ha] <;> rfl
      rw [ee]
      have hc := enTake_case (e := ⟨0, false, false, x0, y0⟩) (st := st0) (s := s) hn.1 ht.1 hlen hx0
      have e1 : ([] : List (List Int)) ++ freeRow n ⟨0, a, n, 0, false⟩ = [] := rfl
      rw [e1] at hc
      cases hc with
      | got A2 b j y h hb ho hB hd hs ht =>
        rw [hB, hd, hs, ht]
        exact ⟨fun c => Bool.noConfusion c, fun _ => .got A2 b j y hz' h hb ho⟩
      | on x A2 h hB hd he ht =>
        rw [hB, hd, he, ht]
        exact ⟨fun _ => .take x y0 A2 hz' h, fun c => Bool.noConfusion c⟩
      | out x b h hd he ht =>
        rw [hd, he, ht]
        cases hr : ieq (st0.R.length : Int) 0 with
        | true =>
          have : st0.R = [] := nil_of hr
          exact ⟨fun c => Bool.noConfusion c, fun _ => .none _ b hz' h this⟩
        | false =>
          have : st0.R ≠ [] := by intro c; rw [c] at hr; cases hr
          exact ⟨fun _ => .swA x y0 _ b hz' h this, fun c => Bool.noConfusion c⟩
  | take x y A1 h0 hx =>
    have ee : enF t n ⟨1, false, false, x, y⟩ st0 s = enTake n ⟨1, false, false, x, y⟩ st0 x s := rfl
    rw [ee]
    have hc := enTake_case (e := ⟨1, false, false, x, y⟩) (st := st0) (s := s) hn.1 ht.1 hlen hx
    cases hc with
    | got A2 b j y h hb ho hB hd hs ht =>
      rw [hB, hd, hs, ht]
      exact ⟨fun c => Bool.noConfusion c, fun _ => .got A2 b j y h0 h hb ho⟩
    | on x' A2 h hB hd he ht =>
      rw [hB, hd, he, ht]
      exact ⟨fun _ => .take x' y A2 h0 h, fun c => Bool.noConfusion c⟩
    | out x' b h hd he ht =>
      rw [hd, he, ht]
      cases hr : ieq (st0.R.length : Int) 0 with
      | true =>
        have : st0.R = [] := nil_of hr
        exact ⟨fun c => Bool.noConfusion c, fun _ => .none _ b h0 h this⟩
      | false =>
        have : st0.R ≠ [] := by intro c; rw [c] at hr; cases hr
        exact ⟨fun _ => .swA x' y _ b h0 h this, fun c => Bool.noConfusion c⟩
  | swA x y A1 b h0 h1 hR =>
    have hin : inB s.xs (slotA n 0) = true := inB_true.2 (by unfold slotA; omega)
    have ee : enF t n ⟨2, false, false, x, y⟩ { st0 with sp := 0 } s = ⟨false, ⟨3, false, false, x, { y with N := st0.R, m := seenM [] n 0 s, i := 1 }⟩, { st0 with sp := 0 }, s.loadd (slotA n 0)⟩ := rfl
    rw [ee]
    refine ⟨fun _ => ?_, fun c => Bool.noConfusion c⟩
    dsimp only
    rw [rowM_load hin]
    exact .swB x _ A b [peek s.xs (slotA n 0)] h0 h1 hR ⟨fun z hz => by rw [List.mem_singleton] at hz; subst hz; exact okW_peek hw _⟩ rfl (by dsimp only; omega) rfl rfl
  | swB x y A1 b ys h0 h1 hR hwy hi h2 hm hN =>
    have hin : inB s.xs (slotA n y.i) = true := inB_true.2 (by unfold slotA; omega)
    have hrow : A1 ++ rowsFrom n 0 ys ++ [[1, slotA n y.i, peek s.xs (slotA n y.i), peek s.xs (slotA n y.i), 1]] = A1 ++ rowsFrom n 0 (ys ++ [peek s.xs (slotA n y.i)]) := by
      rw [rowsFrom_snoc, List.append_assoc, Nat.zero_add, ← hi]
    have hsee : seenM y.m n y.i s = seenOf (ys ++ [peek s.xs (slotA n y.i)]) := by rw [seenOf_snoc, ← hm]; rfl
    have hoy : okW (ys ++ [peek s.xs (slotA n y.i)]) := okW_snoc hwy (okW_peek hw _)
    have hyl : ((ys ++ [peek s.xs (slotA n y.i)]).length : Int) = y.i + 1 := by rw [List.length_append]; simp; omega
    cases he : ieq (y.i + 1) (2 * t) with
    | false =>
      have he' : y.i + 1 ≠ 2 * t := by rw [ieq_eq] at he; simpa using he
      have ee : enF t n ⟨3, false, false, x, y⟩ { st0 with sp := 0 } s = ⟨false, ⟨3, false, false, x, { y with m := seenM y.m n y.i s, i := y.i + 1 }⟩, { st0 with sp := 0 }, s.loadd (slotA n y.i)⟩ := by unfold enF; dsimp only; rw [he] <;> rfl
      rw [ee]
      refine ⟨fun _ => ?_, fun c => Bool.noConfusion c⟩
      dsimp only
      rw [rowM_load hin, hrow]
      exact .swB x _ A1 b _ h0 h1 hR hoy hyl.symm (by dsimp only; omega) hsee hN
    | true =>
      have he' : y.i + 1 = 2 * t := by rw [ieq_eq] at he; simpa using he
      cases hz : ieq ((freedL (seenM y.m n y.i s) y.N).length : Int) 0 with
      | true =>
        have ee : enF t n ⟨3, false, false, x, y⟩ { st0 with sp := 0 } s = ⟨true, ⟨0, true, true, x, y⟩, { st0 with sp := 0, R := keptL (seenM y.m n y.i s) y.N }, s.loadd (slotA n y.i)⟩ := by unfold enF; dsimp only; rw [he, hz] <;> rfl
        rw [ee]
        refine ⟨fun c => Bool.noConfusion c, fun _ => ?_⟩
        dsimp only
        rw [rowM_load hin, hrow, hsee, hN]
        rw [hsee, hN] at hz
        have hz' : freedL (seenOf (ys ++ [peek s.xs (slotA n y.i)])) st0.R = [] := by
          rw [ieq_eq] at hz
          have : ((freedL (seenOf (ys ++ [peek s.xs (slotA n y.i)])) st0.R).length : Int) = 0 := by simpa using hz
          exact List.length_eq_zero_iff.1 (by omega)
        exact .kept A1 _ b _ h0 h1 hR ⟨_, [], hoy, by omega, by simp [rowsG], rfl, rfl, hz'.symm⟩
      | false =>
        have ee : enF t n ⟨3, false, false, x, y⟩ { st0 with sp := 0 } s = ⟨false, ⟨4, false, false, x, ⟨0, y.N, seenM y.m n y.i s, y.i + 1, keptL (seenM y.m n y.i s) y.N, freedL (seenM y.m n y.i s) y.N, freedL (seenM y.m n y.i s) y.N, 0, (freedL (seenM y.m n y.i s) y.N).length⟩⟩, { st0 with sp := 0 }, s.loadd (slotA n y.i)⟩ := by unfold enF; dsimp only; rw [he, hz] <;> rfl
        rw [ee]
        refine ⟨fun _ => ?_, fun c => Bool.noConfusion c⟩
        dsimp only
        rw [rowM_load hin, hrow]
        have hz' : 0 < (freedL (seenM y.m n y.i s) y.N).length := by
          rw [ieq_eq] at hz
          have : ((freedL (seenM y.m n y.i s) y.N).length : Int) ≠ 0 := by simpa using hz
          omega
        have := HisE.swC (t := t) (n := n) (a := a) (k := k) (e0 := ⟨0, false, false, x0, y0⟩) (st0 := st0) x ⟨0, y.N, seenM y.m n y.i s, y.i + 1, keptL (seenM y.m n y.i s) y.N, freedL (seenM y.m n y.i s) y.N, freedL (seenM y.m n y.i s) y.N, 0, (freedL (seenM y.m n y.i s) y.N).length⟩ A1 b _ [] h0 h1 hR hoy (by omega) he' (by rw [hsee, hN]) (by rw [hsee, hN]) rfl hz' rfl rfl
        simpa [rowsG] using this
  | swC x y A1 b ys gs h0 h1 hR hwy hi h2 hk' hf hg hj hl hgs =>
    have hfj : List.getD y.fs (y.j + Int.toNat 0 * 1) 0 = y.fs[y.j] := by
      show List.getD y.fs (y.j + 0) 0 = y.fs[y.j]
      rw [Nat.add_zero, List.getD_eq_getElem?_getD, List.getElem?_eq_getElem hj]; rfl
    have hfn : 1 ≤ y.fs[y.j] ∧ y.fs[y.j] ≤ n := by
      have hm1 : y.fs[y.j] ∈ y.fs := List.getElem_mem hj
      have hm2 : y.fs[y.j] ∈ freedL (seenOf ys) st0.R := by rw [← hf]; exact hm1
      unfold freedL at hm2
      exact hRn _ (List.mem_filter.1 hm2).1
    have hlf : lifeA n y.gs y.j = n + 4 + y.fs[y.j] := by unfold lifeA; rw [hg, hfj]
    have hin : inB s.xs (lifeA n y.gs y.j) = true := inB_true.2 (by omega)
    have hrow : A1 ++ (rowsFrom n 0 ys ++ rowsG n gs) ++ [[4, lifeA n y.gs y.j, peek s.xs (lifeA n y.gs y.j), WU (peek s.xs (lifeA n y.gs y.j) + 1), 1]] = A1 ++ (rowsFrom n 0 ys ++ rowsG n (gs ++ [(y.fs[y.j], peek s.xs (lifeA n y.gs y.j))])) := by
      rw [rowsG_snoc, List.append_assoc, List.append_assoc, hlf]
    have hgs' : (gs ++ [(y.fs[y.j], peek s.xs (lifeA n y.gs y.j))]).map (·.1) = y.fs.take (y.j + 1) := by
      rw [List.map_append, hgs, List.take_succ_eq_append_getElem hj]; rfl
    cases hz : ieq ((y.l - 1 : Nat) : Int) 0 with
    | false =>
      have hz' : y.l - 1 ≠ 0 := by
        rw [ieq_eq] at hz
        have : ((y.l - 1 : Nat) : Int) ≠ 0 := by simpa using hz
        omega
      have ee : enF t n ⟨4, false, false, x, y⟩ { st0 with sp := 0 } s = ⟨false, ⟨4, false, false, x, { y with j := y.j + 1, l := y.l - 1 }⟩, { st0 with sp := 0 }, s.added (lifeA n y.gs y.j) 1⟩ := by unfold enF; dsimp only; rw [hz] <;> rfl
      rw [ee]
      refine ⟨fun _ => ?_, fun c => Bool.noConfusion c⟩
      dsimp only
      rw [rowM_add hin, hrow]
      exact .swC x { y with j := y.j + 1, l := y.l - 1 } A1 b ys _ h0 h1 hR hwy hi h2 hk' hf hg (by dsimp only; omega) (by dsimp only; omega) hgs'
    | true =>
      have hz' : y.l - 1 = 0 := by
        rw [ieq_eq] at hz
        have : ((y.l - 1 : Nat) : Int) = 0 := by simpa using hz
        omega
      have hfne : y.fs ≠ [] := by intro c; rw [c] at hj; cases hj
      have hfz : ieq (y.fs.length : Int) 0 = false := by
        cases h : ieq (y.fs.length : Int) 0 with
        | false => rfl
        | true => exact absurd (nil_of h) hfne
      have ee : enF t n ⟨4, false, false, x, y⟩ { st0 with sp := 0 } s = ⟨false, ⟨0, false, true, x, y⟩, { st0 with sp := 0, R := y.ks }, s.added (lifeA n y.gs y.j) 1⟩ := by unfold enF; dsimp only; rw [hz, hfz] <;> rfl
      rw [ee]
      refine ⟨fun _ => ?_, fun c => Bool.noConfusion c⟩
      dsimp only
      rw [rowM_add hin, hrow]
      exact .again x y A1 _ b y.ks y.fs h0 h1 hR ⟨ys, _, hwy, hi, rfl, by rw [hgs', List.take_of_length_le (by omega)], hk', hf⟩ hfne
  | again x y A1 S b ks fs h0 h1 hR hS hf =>
    have ee : enF t n ⟨0, false, true, x, y⟩ ⟨st0.me, 0, ks⟩ s = enTake n ⟨0, false, true, x, y⟩ ⟨st0.me, 0, ks⟩ ⟨0, a, n, 0, false⟩ s := by rw [ha]; rfl
    rw [ee]
    have hc := enTake_case (e := ⟨0, false, true, x, y⟩) (st := ⟨st0.me, 0, ks⟩) (s := s) hn.1 ht.1 hlen hx0
    have e1 : ([] : List (List Int)) ++ freeRow n ⟨0, a, n, 0, false⟩ = [] := rfl
    rw [e1, List.nil_append] at hc
    cases hc with
    | got A2 b2 j y h hb ho hB hd hs ht =>
      rw [hB, hd, hs, ht]
      exact ⟨fun c => Bool.noConfusion c, fun _ => .got2 A1 S A2 b b2 j y ks fs h0 h1 hR hS hf h hb ho⟩
    | on x' A2 h hB hd he ht =>
      rw [hB, hd, he, ht]
      exact ⟨fun _ => .take2 x' y A1 S A2 b ks fs h0 h1 hR hS hf h, fun c => Bool.noConfusion c⟩
    | out x' b2 h hd he ht =>
      rw [hd, he, ht]
      exact ⟨fun c => Bool.noConfusion c, fun _ => .none2 A1 S _ b b2 ks fs h0 h1 hR hS hf h⟩
  | take2 x y A1 S A2 b ks fs h0 h1 hR hS hf hx =>
    have ee : enF t n ⟨1, false, true, x, y⟩ ⟨st0.me, 0, ks⟩ s = enTake n ⟨1, false, true, x, y⟩ ⟨st0.me, 0, ks⟩ x s := rfl
    rw [ee]
    have hc := enTake_case (e := ⟨1, false, true, x, y⟩) (st := ⟨st0.me, 0, ks⟩) (s := s) hn.1 ht.1 hlen hx
    rw [List.append_assoc (A1 ++ S)]
    cases hc with
    | got A3 b2 j y h hb ho hB hd hs ht =>
      rw [hB, hd, hs, ht]
      exact ⟨fun c => Bool.noConfusion c, fun _ => .got2 A1 S A3 b b2 j y ks fs h0 h1 hR hS hf h hb ho⟩
    | on x' A3 h hB hd he ht =>
      rw [hB, hd, he, ht]
      exact ⟨fun _ => .take2 x' y A1 S A3 b ks fs h0 h1 hR hS hf h, fun c => Bool.noConfusion c⟩
    | out x' b2 h hd he ht =>
      rw [hd, he, ht]
      exact ⟨fun c => Bool.noConfusion c, fun _ => .none2 A1 S _ b b2 ks fs h0 h1 hR hS hf h⟩
theorem his_tr {t n : Int} {x0 : AL} {y0 : SWS} {st0 : STS} (ht : 1 ≤ t ∧ t ≤ 8) (hn : 1 ≤ n ∧ n ≤ 1000) (hRn : ∀ r ∈ st0.R, 1 ≤ r ∧ r ≤ n) {k : Nat} {e : ENS} {st : STS} {A : List (List Int)} (h : enTr t n ⟨0, false, false, x0, y0⟩ st0 k e st A) : A.length = k ∧ HisE t n (at0 t n st0.me) n.toNat ⟨0, false, false, x0, y0⟩ st0 e st A := by
  induction h with
  | nil => exact ⟨rfl, .new⟩
  | snoc k e st A s h hw hl hd ih =>
    exact ⟨by rw [List.length_append, ih.1]; rfl, (his_step ht hn rfl rfl hRn ih.2 hw hl).1 hd⟩
theorem ScR.len {t n : Int} {R : List Int} {S : List (List Int)} {ks fs : List Int} (h : ScR t n R S ks fs) : (S.length : Int) ≤ 2 * t + R.length := by
  obtain ⟨ys, gs, h1, h2, h3, h4, h5, h6⟩ := h
  have e1 : gs.length = fs.length := by rw [← h4, List.length_map]
  have e2 : fs.length ≤ R.length := by rw [h6]; exact filt_len _ _
  rw [h3, List.length_append, rowsFrom_len]
  unfold rowsG
  rw [List.length_map]; omega
theorem freeRow_len (n : Int) (x : AL) : (freeRow n x).length ≤ 1 := by unfold freeRow; cases x.free <;> simp
/-- the steps are few, and the machine is as its step asks for -/
theorem his_ok {t n : Int} {x0 : AL} {y0 : SWS} {st0 : STS} (ht : 1 ≤ t ∧ t ≤ 8) (hn : 1 ≤ n ∧ n ≤ 30) (hm : 0 ≤ st0.me ∧ st0.me ≤ 1000) (hR : st0.R.length ≤ 40) (hRn : ∀ r ∈ st0.R, 1 ≤ r ∧ r ≤ n) {e : ENS} {st : STS} {A : List (List Int)}
    (h : HisE t n (at0 t n st0.me) n.toNat ⟨0, false, false, x0, y0⟩ st0 e st A) : A.length < 200 ∧ ∀ s : MS, 0 ≤ s.c ∧ s.c ≤ 1000000 → okE t n e st s := by
  cases h with
  | new => exact ⟨by simp, fun s hs => ⟨by omega, by omega, hs, hm, by omega, trivial⟩⟩
  | take x y A1 h0 hx =>
    refine ⟨?_, fun s hs => ⟨by omega, by omega, hs, hm, by omega, ⟨hx.hg, hx.ha, by show 0 ≤ x.left ∧ x.left ≤ 1000; have := hx.hl; omega⟩⟩⟩
    have := hx.tr.len; have := freeRow_len n x
    rw [List.length_append]; omega
  | swA x y A1 b h0 h1 hR' =>
    refine ⟨?_, fun s hs => ⟨by omega, by omega, hs, hm, by show st0.R.length ≤ _; omega, trivial⟩⟩
    have := h1.len; omega
  | swB x y A1 b ys h0 h1 hR' hw hi h2 hm' hN =>
    refine ⟨?_, fun s hs => ⟨by omega, by omega, hs, hm, by show st0.R.length ≤ _; omega, ?_⟩⟩
    · have := h1.len
      rw [List.length_append, rowsFrom_len]; omega
    · show y.N.length ≤ 1000000 ∧ 0 ≤ y.i ∧ y.i < 2 * t
      rw [hN]; omega
  | swC x y A1 b ys gs h0 h1 hR' hw hi h2 hk hf hg hj hl hgs =>
    have e2 : y.fs.length ≤ st0.R.length := by rw [hf]; exact filt_len _ _
    have e1 : gs.length ≤ y.fs.length := by
      have := congrArg List.length hgs
      rw [List.length_map, List.length_take] at this; omega
    refine ⟨?_, fun s hs => ⟨by omega, by omega, hs, hm, by show st0.R.length ≤ _; omega, ?_⟩⟩
    · have := h1.len
      rw [List.length_append, List.length_append, rowsFrom_len]
      unfold rowsG
      rw [List.length_map]; omega
    · show 2 * t ≤ y.i ∧ 1 ≤ y.l ∧ y.gs.length = y.j + y.l ∧ -1000000 ≤ List.getD y.gs (y.j + Int.toNat 0 * 1) 0 ∧ List.getD y.gs (y.j + Int.toNat 0 * 1) 0 ≤ 1000000
      have hfj : List.getD y.gs (y.j + Int.toNat 0 * 1) 0 = y.fs[y.j] := by
        rw [hg]
        show List.getD y.fs (y.j + 0) 0 = y.fs[y.j]
        rw [Nat.add_zero, List.getD_eq_getElem?_getD, List.getElem?_eq_getElem hj]; rfl
      have hfn : 1 ≤ y.fs[y.j] ∧ y.fs[y.j] ≤ n := by
        have hm1 : y.fs[y.j] ∈ y.fs := List.getElem_mem hj
        have hm2 : y.fs[y.j] ∈ freedL (seenOf ys) st0.R := by rw [← hf]; exact hm1
        unfold freedL at hm2
        exact hRn _ (List.mem_filter.1 hm2).1
      rw [hfj, hg]; omega
  | again x y A1 S b ks fs h0 h1 hR' hS hf =>
    have hkl : ks.length ≤ st0.R.length := by obtain ⟨ys, gs, q1, q2, q3, q4, q5, q6⟩ := hS; rw [q5]; exact filt_len _ _
    refine ⟨?_, fun s hs => ⟨by omega, by omega, hs, hm, by show ks.length ≤ _; omega, trivial⟩⟩
    have := h1.len; have := hS.len
    rw [List.length_append]; omega
  | take2 x y A1 S A2 b ks fs h0 h1 hR' hS hf hx =>
    have hkl : ks.length ≤ st0.R.length := by obtain ⟨ys, gs, q1, q2, q3, q4, q5, q6⟩ := hS; rw [q5]; exact filt_len _ _
    refine ⟨?_, fun s hs => ⟨by omega, by omega, hs, hm, by show ks.length ≤ _; omega, ⟨hx.hg, hx.ha, by show 0 ≤ x.left ∧ x.left ≤ 1000; have := hx.hl; omega⟩⟩⟩
    have := h1.len; have := hS.len; have := hx.tr.len; have := freeRow_len n x; have := hx.hl
    rw [List.length_append, List.length_append, List.length_append]; omega
theorem en_fin {t n : Int} {x0 : AL} {y0 : SWS} {st0 : STS} {r : ENR} (ht : 1 ≤ t ∧ t ≤ 8) (hn : 1 ≤ n ∧ n ≤ 1000) (hRn : ∀ r ∈ st0.R, 1 ≤ r ∧ r ≤ n) (h : enDone t n ⟨0, false, false, x0, y0⟩ st0 r) : FinE t n (at0 t n st0.me) n.toNat st0 r.A r.sh r.st := by
  obtain ⟨k, e, st, A, s, tr, hw, hl, hd, e1, e2, e3, e4⟩ := h
  have := (his_step ht hn rfl rfl hRn (his_tr ht hn hRn tr).2 hw hl).2 hd
  rw [e1, e2, e3]; exact this
end Go.Sh

/- A machine that sweeps, told whole: what a step comes to. -/
namespace Go.Sh
open Go Go.Proofs
variable [Con]
structure SO where
  d : Bool
  e : SWS
  st : STS
  s : MS
instance : Inhabited SO := ⟨⟨false, ⟨0, [], [], 0, [], [], [], 0, 0⟩, ⟨0, 0, []⟩, ⟨0, 0, [], 0, 0, 0, 0, 0, false⟩⟩⟩
/- OPQ -/
def swF (t n : Int) (y : SWS) (st : STS) (s : MS) : SO := match y.ph with
  | 0 => ⟨false, { y with ph := 1, N := st.R, m := seenM [] n 0 s, i := 1 }, st, s.loadd (slotA n 0)⟩
  | 1 => (match ieq (y.i + 1) (2 * t), ieq ((freedL (seenM y.m n y.i s) y.N).length : Int) 0 with
    | true, true => ⟨true, { y with ph := 3 }, { st with R := keptL (seenM y.m n y.i s) y.N }, s.loadd (slotA n y.i)⟩
    | true, false => ⟨false, ⟨2, y.N, seenM y.m n y.i s, y.i + 1, keptL (seenM y.m n y.i s) y.N, freedL (seenM y.m n y.i s) y.N, freedL (seenM y.m n y.i s) y.N, 0, (freedL (seenM y.m n y.i s) y.N).length⟩, st, s.loadd (slotA n y.i)⟩
    | false, _ => ⟨false, { y with m := seenM y.m n y.i s, i := y.i + 1 }, st, s.loadd (slotA n y.i)⟩)
  | _ => (match ieq ((y.l - 1 : Nat) : Int) 0 with
    | true => ⟨true, { y with ph := 3 }, { st with R := y.ks }, s.added (lifeA n y.gs y.j) 1⟩
    | false => ⟨false, { y with j := y.j + 1, l := y.l - 1 }, st, s.added (lifeA n y.gs y.j) 1⟩)
def okSwP (t n : Int) (y : SWS) : Prop := match y.ph with
  | 0 => True
  | 1 => y.N.length ≤ 1000000 ∧ 0 ≤ y.i ∧ y.i < 2 * t
  | 2 => 2 * t ≤ y.i ∧ 1 ≤ y.l ∧ y.gs.length = y.j + y.l ∧ -1000000 ≤ List.getD y.gs (y.j + Int.toNat 0 * 1) 0 ∧ List.getD y.gs (y.j + Int.toNat 0 * 1) 0 ≤ 1000000
  | _ => False
structure okSwp (t n : Int) (y : SWS) (st : STS) (s : MS) : Prop where
  ht : 1 ≤ t ∧ t ≤ 1000
  hn : 1 ≤ n ∧ n ≤ 1000
  hc : 0 ≤ s.c ∧ s.c ≤ 1000000
  hR : st.R.length ≤ 1000000
  ho : okSwP t n y
def swH (t n : Int) (y : SWS) (st : STS) (s : MS) : Heap Ob := [some (.abs (.sweep t n y) [1]), some (.abs (.store t n st) []), memC 3 s, memX s]
def SO.left (o : SO) (t n : Int) (K : AVal → Heap Ob → Prop) : Prop := K (.bool o.d) (swH t n o.e o.st o.s)
theorem shutS {K : AVal → Heap Ob → Prop} {t n : Int} {o : SO} {g' : Heap Ob} (pl : List Nat) (hK : o.left t n K)
    (hb : (goodPl pl g'.length && keeps pl 0 4 && obOk 1 (swG t n o.e)) = true)
    (hT : trimH pl g' = unpackH [some (.abs (.sweep t n o.e) [1]), some (.cells [.int .i64 t, .int .i64 n, .int .i64 o.st.me, .int .i64 o.st.sp, .slice 4 0 o.st.R.length 1]), memC 3 o.s, memX o.s, some (.ints (some .i64) o.st.R)] 0 1 (swG t n o.e) [1]) : PackK tbl 4 (PackK tbl 4 K) (.bool o.d) g' := by
  simp only [Bool.and_eq_true] at hb
  obtain ⟨⟨b1, b2⟩, b3⟩ := hb
  refine ⟨pl, _, .sweep t n o.e, 0, 1, _, [1], ?_, hT, rfl, rfl, ⟨[0, 1, 2, 3, 4], [some (.abs (.sweep t n o.e) [1]), some (.abs (.store t n o.st) []), memC 3 o.s, memX o.s], .store t n o.st, 1, 0, stG t n o.st, [], rfl, rfl, rfl, rfl, ?_⟩⟩
  · rw [b1, b2, b3]; rfl
  · exact hK
def sw0VC (t n me sp : Int) (R : List Int) (y : SWS) (s : MS) (K : AVal → Heap Ob → Prop) : Prop := ((List.length s.3 = List.length s.3 ∧ List.length R = List.length R) ∧ ((1 : Int) ≤ t ∧ t ≤ (1000 : Int)) ∧ ((1 : Int) ≤ n ∧ n ≤ (1000 : Int)) ∧ ((0 : Int) ≤ s.4 ∧ s.4 ≤ (1000000 : Int)) ∧ List.length R ≤ (1000000 : Nat)) ∧ K (AVal.bool false) [some (Entry.cells [AVal.ptr 1 0, AVal.ptr 5 0]), some (Entry.cells [AVal.int .i64 t, AVal.int .i64 n, AVal.int .i64 me, AVal.int .i64 sp, AVal.slice 4 0 (List.length R) 1]), some (Entry.cells [AVal.int .i64 s.1, AVal.int .i64 s.2, AVal.slice 3 0 (List.length s.3) 1, AVal.int .i64 (s.4 + 1), AVal.int .i64 1, AVal.int .i64 (slotA n 0), AVal.int .u64 (peek s.3 (slotA n 0)), AVal.int .u64 (peek s.3 (slotA n 0)), AVal.bool (inB s.3 (slotA n 0))]), some (Entry.ints (some .u64) s.3), some (Entry.ints (some .i64) R), some (Entry.cells [AVal.int .i64 t, AVal.int .i64 n, AVal.raw (Value.slice none 0 0), AVal.raw (Value.slice none 0 0), AVal.slice 6 0 (List.length R) 1, AVal.map 7, AVal.int .i64 1, AVal.raw (Value.pointer none)]), some (Entry.ints (some .i64) R), some (Entry.imap .i64 none (seenM [] n 0 s))]
theorem sw0' (t n me sp : Int) (R : List Int) (y : SWS) (s : MS) (K : AVal → Heap Ob → Prop) (hK : sw0VC t n me sp R y s K) : CallOk (obI tbl) Try.prog 128 [.ptr 0 0, .ptr 2 0] [some (.cells [.ptr 1 0, .raw (.pointer none)]), some (.cells [.int .i64 t, .int .i64 n, .int .i64 me, .int .i64 sp, .slice 4 0 R.length 1]), memC 3 s, memX s, some (.ints (some .i64) R)] K :=
  (canonC_ok swStep_ok) _ _ _ (Ev.get (of_nf (p := canonC swStepS [.ptr 0 0, .ptr 2 0] [some (.cells [.ptr 1 0, .raw (.pointer none)]), some (.cells [.int .i64 t, .int .i64 n, .int .i64 me, .int .i64 sp, .slice 4 0 R.length 1]), memC 3 s, memX s, some (.ints (some .i64) R)] K) (q := sw0VC t n me sp R y s K) (by kernel_rfl) hK))
def sw1VC (t n me sp : Int) (R : List Int) (y : SWS) (s : MS) (K : AVal → Heap Ob → Prop) : Prop := ((List.length s.3 = List.length s.3 ∧ List.length R = List.length R ∧ List.length y.2 = List.length y.2 ∧ t = t ∧ n = n) ∧ ((1 : Int) ≤ t ∧ t ≤ (1000 : Int)) ∧ ((1 : Int) ≤ n ∧ n ≤ (1000 : Int)) ∧ ((0 : Int) ≤ s.4 ∧ s.4 ≤ (1000000 : Int)) ∧ List.length y.2 ≤ (1000000 : Nat) ∧ (0 : Int) ≤ y.4 ∧ y.4 < (2 : Int) * t) ∧ bif ieq (y.4 + 1) (2 * t) then bif ieq (↑(List.length (freedL (seenM y.3 n y.4 s) y.2)) : Int) 0 then K (AVal.bool true) [some (Entry.cells [AVal.ptr 1 0, AVal.ptr 5 0]), some (Entry.cells [AVal.int .i64 t, AVal.int .i64 n, AVal.int .i64 me, AVal.int .i64 sp, AVal.slice 8 0 (List.length (keptL (seenM y.3 n y.4 s) y.2)) 1]), some (Entry.cells [AVal.int .i64 s.1, AVal.int .i64 s.2, AVal.slice 3 0 (List.length s.3) 1, AVal.int .i64 (s.4 + 1), AVal.int .i64 1, AVal.int .i64 (slotA n y.4), AVal.int .u64 (peek s.3 (slotA n y.4)), AVal.int .u64 (peek s.3 (slotA n y.4)), AVal.bool (inB s.3 (slotA n y.4))]), some (Entry.ints (some .u64) s.3), some (Entry.ints (some .i64) R), some (Entry.cells [AVal.int .i64 t, AVal.int .i64 n, AVal.slice 8 0 (List.length (keptL (seenM y.3 n y.4 s) y.2)) 1, AVal.slice 9 0 (List.length (freedL (seenM y.3 n y.4 s) y.2)) 1, AVal.slice 6 0 (List.length y.2) 1, AVal.map 7, AVal.int .i64 (y.4 + 1), AVal.ptr 10 0]), some (Entry.ints (some .i64) y.2), some (Entry.imap .i64 none (seenM y.3 n y.4 s)), some (Entry.ints (some .i64) (keptL (seenM y.3 n y.4 s) y.2)), some (Entry.ints (some .i64) (freedL (seenM y.3 n y.4 s) y.2)), some (Entry.cells [AVal.int .i64 t, AVal.int .i64 n, AVal.slice 11 0 (List.length (freedL (seenM y.3 n y.4 s) y.2)) 1]), some (Entry.ints (some .i64) (freedL (seenM y.3 n y.4 s) y.2))] else K (AVal.bool false) [some (Entry.cells [AVal.ptr 1 0, AVal.ptr 5 0]), some (Entry.cells [AVal.int .i64 t, AVal.int .i64 n, AVal.int .i64 me, AVal.int .i64 sp, AVal.slice 4 0 (List.length R) 1]), some (Entry.cells [AVal.int .i64 s.1, AVal.int .i64 s.2, AVal.slice 3 0 (List.length s.3) 1, AVal.int .i64 (s.4 + 1), AVal.int .i64 1, AVal.int .i64 (slotA n y.4), AVal.int .u64 (peek s.3 (slotA n y.4)), AVal.int .u64 (peek s.3 (slotA n y.4)), AVal.bool (inB s.3 (slotA n y.4))]), some (Entry.ints (some .u64) s.3), some (Entry.ints (some .i64) R), some (Entry.cells [AVal.int .i64 t, AVal.int .i64 n, AVal.slice 8 0 (List.length (keptL (seenM y.3 n y.4 s) y.2)) 1, AVal.slice 9 0 (List.length (freedL (seenM y.3 n y.4 s) y.2)) 1, AVal.slice 6 0 (List.length y.2) 1, AVal.map 7, AVal.int .i64 (y.4 + 1), AVal.ptr 10 0]), some (Entry.ints (some .i64) y.2), some (Entry.imap .i64 none (seenM y.3 n y.4 s)), some (Entry.ints (some .i64) (keptL (seenM y.3 n y.4 s) y.2)), some (Entry.ints (some .i64) (freedL (seenM y.3 n y.4 s) y.2)), some (Entry.cells [AVal.int .i64 t, AVal.int .i64 n, AVal.slice 11 0 (List.length (freedL (seenM y.3 n y.4 s) y.2)) 1]), some (Entry.ints (some .i64) (freedL (seenM y.3 n y.4 s) y.2))] else K (AVal.bool false) [some (Entry.cells [AVal.ptr 1 0, AVal.ptr 5 0]), some (Entry.cells [AVal.int .i64 t, AVal.int .i64 n, AVal.int .i64 me, AVal.int .i64 sp, AVal.slice 4 0 (List.length R) 1]), some (Entry.cells [AVal.int .i64 s.1, AVal.int .i64 s.2, AVal.slice 3 0 (List.length s.3) 1, AVal.int .i64 (s.4 + 1), AVal.int .i64 1, AVal.int .i64 (slotA n y.4), AVal.int .u64 (peek s.3 (slotA n y.4)), AVal.int .u64 (peek s.3 (slotA n y.4)), AVal.bool (inB s.3 (slotA n y.4))]), some (Entry.ints (some .u64) s.3), some (Entry.ints (some .i64) R), some (Entry.cells [AVal.int .i64 t, AVal.int .i64 n, AVal.raw (Value.slice none 0 0), AVal.raw (Value.slice none 0 0), AVal.slice 6 0 (List.length y.2) 1, AVal.map 7, AVal.int .i64 (y.4 + 1), AVal.raw (Value.pointer none)]), some (Entry.ints (some .i64) y.2), some (Entry.imap .i64 none (seenM y.3 n y.4 s))]
theorem sw1' (t n me sp : Int) (R : List Int) (y : SWS) (s : MS) (K : AVal → Heap Ob → Prop) (hK : sw1VC t n me sp R y s K) : CallOk (obI tbl) Try.prog 128 [.ptr 0 0, .ptr 2 0] [some (.cells [.ptr 1 0, .ptr 5 0]), some (.cells [.int .i64 t, .int .i64 n, .int .i64 me, .int .i64 sp, .slice 4 0 R.length 1]), memC 3 s, memX s, some (.ints (some .i64) R), some (.cells [.int .i64 t, .int .i64 n, .raw (.slice none 0 0), .raw (.slice none 0 0), .slice 6 0 y.N.length 1, .map 7, .int .i64 y.i, .raw (.pointer none)]), some (.ints (some .i64) y.N), some (.imap .i64 none y.m)] K :=
  (canonC_ok swStep_ok) _ _ _ (Ev.get (of_nf (p := canonC swStepS [.ptr 0 0, .ptr 2 0] [some (.cells [.ptr 1 0, .ptr 5 0]), some (.cells [.int .i64 t, .int .i64 n, .int .i64 me, .int .i64 sp, .slice 4 0 R.length 1]), memC 3 s, memX s, some (.ints (some .i64) R), some (.cells [.int .i64 t, .int .i64 n, .raw (.slice none 0 0), .raw (.slice none 0 0), .slice 6 0 y.N.length 1, .map 7, .int .i64 y.i, .raw (.pointer none)]), some (.ints (some .i64) y.N), some (.imap .i64 none y.m)] K) (q := sw1VC t n me sp R y s K) (by kernel_rfl) hK))
def sw2VC (t n me sp : Int) (R : List Int) (y : SWS) (s : MS) (K : AVal → Heap Ob → Prop) : Prop := ((List.length s.3 = List.length s.3 ∧ List.length R = List.length R ∧ List.length y.5 = List.length y.5 ∧ List.length y.6 = List.length y.6 ∧ List.length y.2 = List.length y.2 ∧ t = t ∧ n = n ∧ t = t ∧ n = n) ∧ ((1 : Int) ≤ t ∧ t ≤ (1000 : Int)) ∧ ((1 : Int) ≤ n ∧ n ≤ (1000 : Int)) ∧ ((0 : Int) ≤ s.4 ∧ s.4 ≤ (1000000 : Int)) ∧ 2 * t ≤ y.4 ∧ ((1 : Nat) ≤ y.9 ∧ List.length y.7 = y.8 + y.9) ∧ (-1000000 : Int) ≤ List.getD y.7 (y.8 + Int.toNat 0 * 1) 0 ∧ List.getD y.7 (y.8 + Int.toNat 0 * 1) (0 : Int) ≤ (1000000 : Int)) ∧ bif ieq (↑(y.9 - 1) : Int) 0 then K (AVal.bool true) [some (Entry.cells [AVal.ptr 1 0, AVal.ptr 5 0]), some (Entry.cells [AVal.int .i64 t, AVal.int .i64 n, AVal.int .i64 me, AVal.int .i64 sp, AVal.slice 6 0 (List.length y.5) 1]), some (Entry.cells [AVal.int .i64 s.1, AVal.int .i64 s.2, AVal.slice 3 0 (List.length (putI s.3 (lifeA n y.7 y.8) (WU (peek s.3 (lifeA n y.7 y.8) + 1)))) 1, AVal.int .i64 (s.4 + 1), AVal.int .i64 4, AVal.int .i64 (lifeA n y.7 y.8), AVal.int .u64 (peek s.3 (lifeA n y.7 y.8)), AVal.int .u64 (bif inB s.3 (lifeA n y.7 y.8) then WU (peek s.3 (lifeA n y.7 y.8) + 1) else 0), AVal.bool (inB s.3 (lifeA n y.7 y.8))]), some (Entry.ints (some .u64) (putI s.3 (lifeA n y.7 y.8) (WU (peek s.3 (lifeA n y.7 y.8) + 1)))), some (Entry.ints (some .i64) R), some (Entry.cells [AVal.int .i64 t, AVal.int .i64 n, AVal.slice 6 0 (List.length y.5) 1, AVal.slice 7 0 (List.length y.6) 1, AVal.slice 8 0 (List.length y.2) 1, AVal.map 9, AVal.int .i64 y.4, AVal.ptr 10 0]), some (Entry.ints (some .i64) y.5), some (Entry.ints (some .i64) y.6), some (Entry.ints (some .i64) y.2), some (Entry.imap .i64 none y.3), some (Entry.cells [AVal.int .i64 t, AVal.int .i64 n, AVal.slice 11 (y.8 + 1) (y.9 - 1) 1]), some (Entry.ints (some .i64) y.7)] else K (AVal.bool false) [some (Entry.cells [AVal.ptr 1 0, AVal.ptr 5 0]), some (Entry.cells [AVal.int .i64 t, AVal.int .i64 n, AVal.int .i64 me, AVal.int .i64 sp, AVal.slice 4 0 (List.length R) 1]), some (Entry.cells [AVal.int .i64 s.1, AVal.int .i64 s.2, AVal.slice 3 0 (List.length (putI s.3 (lifeA n y.7 y.8) (WU (peek s.3 (lifeA n y.7 y.8) + 1)))) 1, AVal.int .i64 (s.4 + 1), AVal.int .i64 4, AVal.int .i64 (lifeA n y.7 y.8), AVal.int .u64 (peek s.3 (lifeA n y.7 y.8)), AVal.int .u64 (bif inB s.3 (lifeA n y.7 y.8) then WU (peek s.3 (lifeA n y.7 y.8) + 1) else 0), AVal.bool (inB s.3 (lifeA n y.7 y.8))]), some (Entry.ints (some .u64) (putI s.3 (lifeA n y.7 y.8) (WU (peek s.3 (lifeA n y.7 y.8) + 1)))), some (Entry.ints (some .i64) R), some (Entry.cells [AVal.int .i64 t, AVal.int .i64 n, AVal.slice 6 0 (List.length y.5) 1, AVal.slice 7 0 (List.length y.6) 1, AVal.slice 8 0 (List.length y.2) 1, AVal.map 9, AVal.int .i64 y.4, AVal.ptr 10 0]), some (Entry.ints (some .i64) y.5), some (Entry.ints (some .i64) y.6), some (Entry.ints (some .i64) y.2), some (Entry.imap .i64 none y.3), some (Entry.cells [AVal.int .i64 t, AVal.int .i64 n, AVal.slice 11 (y.8 + 1) (y.9 - 1) 1]), some (Entry.ints (some .i64) y.7)]
theorem sw2' (t n me sp : Int) (R : List Int) (y : SWS) (s : MS) (K : AVal → Heap Ob → Prop) (hK : sw2VC t n me sp R y s K) : CallOk (obI tbl) Try.prog 128 [.ptr 0 0, .ptr 2 0] [some (.cells [.ptr 1 0, .ptr 5 0]), some (.cells [.int .i64 t, .int .i64 n, .int .i64 me, .int .i64 sp, .slice 4 0 R.length 1]), memC 3 s, memX s, some (.ints (some .i64) R), some (.cells [.int .i64 t, .int .i64 n, .slice 6 0 y.ks.length 1, .slice 7 0 y.fs.length 1, .slice 8 0 y.N.length 1, .map 9, .int .i64 y.i, .ptr 10 0]), some (.ints (some .i64) y.ks), some (.ints (some .i64) y.fs), some (.ints (some .i64) y.N), some (.imap .i64 none y.m), some (.cells [.int .i64 t, .int .i64 n, .slice 11 y.j y.l 1]), some (.ints (some .i64) y.gs)] K :=
  (canonC_ok swStep_ok) _ _ _ (Ev.get (of_nf (p := canonC swStepS [.ptr 0 0, .ptr 2 0] [some (.cells [.ptr 1 0, .ptr 5 0]), some (.cells [.int .i64 t, .int .i64 n, .int .i64 me, .int .i64 sp, .slice 4 0 R.length 1]), memC 3 s, memX s, some (.ints (some .i64) R), some (.cells [.int .i64 t, .int .i64 n, .slice 6 0 y.ks.length 1, .slice 7 0 y.fs.length 1, .slice 8 0 y.N.length 1, .map 9, .int .i64 y.i, .ptr 10 0]), some (.ints (some .i64) y.ks), some (.ints (some .i64) y.fs), some (.ints (some .i64) y.N), some (.imap .i64 none y.m), some (.cells [.int .i64 t, .int .i64 n, .slice 11 y.j y.l 1]), some (.ints (some .i64) y.gs)] K) (q := sw2VC t n me sp R y s K) (by kernel_rfl) hK))
end Go.Sh

/- A machine that sweeps, told whole: its step. -/
namespace Go.Sh
open Go Go.Proofs
variable [Con]
theorem wsames : ∀ g : Heap Ob, weakH g g
  | [] => trivial
  | x :: g => ⟨wsame x, wsames g⟩
theorem less_id {K : AVal → Heap Ob → Prop} {v : AVal} {g : Heap Ob} (h : K v g) : LessK K v g := ⟨g, wsames g, h⟩
/-- the first object's second part is told no more -/
theorem less_top {K : AVal → Heap Ob → Prop} {v a b : AVal} {g : Heap Ob} (h : K v (some (.cells [a, .top]) :: g)) : LessK K v (some (.cells [a, b]) :: g) := ⟨_, wc (wcell (wv (.inl rfl) (wv (.inr rfl) vend))) (wsames g), h⟩
theorem sw0 (t n : Int) (y : SWS) (st : STS) (s : MS) (K : AVal → Heap Ob → Prop) (hp : y.ph = 0) (ok : okSwp t n y st s) (hK : (swF t n y st s).left t n K) : CallOk (obI tbl) Try.prog 128 [.ptr 0 0, .ptr 2 0] (swH t n y st s) K := by
  obtain ⟨ht, hn, hc, hR, ho⟩ := ok
  obtain ⟨ph, N, m, i, ks, fs, gs, j, l⟩ := y
  dsimp only at hp
  subst hp
  obtain ⟨me, sp, R⟩ := st
  dsimp only at hR
  refine CallOk.pack tbl (CallOk.pack tbl (CallOk.less ?_))
  refine CallOk.unpack tbl (.store t n ⟨me, sp, R⟩) 1 0 (stG t n ⟨me, sp, R⟩) [] rfl rfl rfl rfl ?_
  refine CallOk.unpack tbl (.sweep t n ⟨0, N, m, i, ks, fs, gs, j, l⟩) 0 1 (swG t n ⟨0, N, m, i, ks, fs, gs, j, l⟩) [1] rfl rfl rfl rfl ?_
  refine sw0' t n me sp R ⟨0, N, m, i, ks, fs, gs, j, l⟩ s _ ?_
  unfold sw0VC
  exact ⟨⟨⟨rfl, rfl⟩, ht, hn, hc, hR⟩, less_id (shutS (o := swF t n ⟨0, N, m, i, ks, fs, gs, j, l⟩ ⟨me, sp, R⟩ s) [0, 1, 2, 3, 4, 5, 6, 7] hK rfl rfl)⟩
theorem sw1 (t n : Int) (y : SWS) (st : STS) (s : MS) (K : AVal → Heap Ob → Prop) (hp : y.ph = 1) (ok : okSwp t n y st s) (hK : (swF t n y st s).left t n K) : CallOk (obI tbl) Try.prog 128 [.ptr 0 0, .ptr 2 0] (swH t n y st s) K := by
  obtain ⟨ht, hn, hc, hR, ho⟩ := ok
  obtain ⟨ph, N, m, i, ks, fs, gs, j, l⟩ := y
  dsimp only at hp
  subst hp
  obtain ⟨me, sp, R⟩ := st
  dsimp only at hR
  refine CallOk.pack tbl (CallOk.pack tbl (CallOk.less ?_))
  refine CallOk.unpack tbl (.store t n ⟨me, sp, R⟩) 1 0 (stG t n ⟨me, sp, R⟩) [] rfl rfl rfl rfl ?_
  refine CallOk.unpack tbl (.sweep t n ⟨1, N, m, i, ks, fs, gs, j, l⟩) 0 1 (swG t n ⟨1, N, m, i, ks, fs, gs, j, l⟩) [1] rfl rfl rfl rfl ?_
  refine sw1' t n me sp R ⟨1, N, m, i, ks, fs, gs, j, l⟩ s _ ?_
  unfold sw1VC
  have ho : N.length ≤ 1000000 ∧ 0 ≤ i ∧ i < 2 * t := ho
  refine ⟨⟨⟨rfl, rfl, rfl, rfl, rfl⟩, ht, hn, hc, ho.1, ho.2⟩, ?_⟩
  unfold swF at hK
  dsimp only at hK ⊢
  cases h1 : ieq (i + 1) (2 * t) with
  | false =>
    rw [h1] at hK
    exact less_id (shutS (o := ⟨false, ⟨1, N, seenM m n i s, i + 1, ks, fs, gs, j, l⟩, ⟨me, sp, R⟩, s.loadd (slotA n i)⟩) [0, 1, 2, 3, 4, 5, 6, 7] hK rfl rfl)
  | true =>
    rw [h1] at hK
    cases h2 : ieq ((freedL (seenM m n i s) N).length : Int) 0 with
    | true =>
      rw [h2] at hK
      exact less_top (shutS (o := ⟨true, ⟨3, N, m, i, ks, fs, gs, j, l⟩, ⟨me, sp, keptL (seenM m n i s) N⟩, s.loadd (slotA n i)⟩) [0, 1, 2, 3, 8] hK rfl rfl)
    | false =>
      rw [h2] at hK
      exact less_id (shutS (o := ⟨false, ⟨2, N, seenM m n i s, i + 1, keptL (seenM m n i s) N, freedL (seenM m n i s) N, freedL (seenM m n i s) N, 0, (freedL (seenM m n i s) N).length⟩, ⟨me, sp, R⟩, s.loadd (slotA n i)⟩) [0, 1, 2, 3, 4, 5, 8, 9, 6, 7, 10, 11] hK rfl rfl)
theorem sw2 (t n : Int) (y : SWS) (st : STS) (s : MS) (K : AVal → Heap Ob → Prop) (hp : y.ph = 2) (ok : okSwp t n y st s) (hK : (swF t n y st s).left t n K) : CallOk (obI tbl) Try.prog 128 [.ptr 0 0, .ptr 2 0] (swH t n y st s) K := by
  obtain ⟨ht, hn, hc, hR, ho⟩ := ok
  obtain ⟨ph, N, m, i, ks, fs, gs, j, l⟩ := y
  dsimp only at hp
  subst hp
  obtain ⟨me, sp, R⟩ := st
  dsimp only at hR
  refine CallOk.pack tbl (CallOk.pack tbl (CallOk.less ?_))
  refine CallOk.unpack tbl (.store t n ⟨me, sp, R⟩) 1 0 (stG t n ⟨me, sp, R⟩) [] rfl rfl rfl rfl ?_
  refine CallOk.unpack tbl (.sweep t n ⟨2, N, m, i, ks, fs, gs, j, l⟩) 0 1 (swG t n ⟨2, N, m, i, ks, fs, gs, j, l⟩) [1] rfl rfl rfl rfl ?_
  refine sw2' t n me sp R ⟨2, N, m, i, ks, fs, gs, j, l⟩ s _ ?_
  unfold sw2VC
  have ho : 2 * t ≤ i ∧ 1 ≤ l ∧ gs.length = j + l ∧ -1000000 ≤ List.getD gs (j + Int.toNat 0 * 1) 0 ∧ List.getD gs (j + Int.toNat 0 * 1) 0 ≤ 1000000 := ho
  refine ⟨⟨⟨rfl, rfl, rfl, rfl, rfl, rfl, rfl, rfl, rfl⟩, ht, hn, hc, ho.1, ⟨ho.2.1, ho.2.2.1⟩, ho.2.2.2⟩, ?_⟩
  unfold swF at hK
  dsimp only at hK ⊢
  cases h1 : ieq ((l - 1 : Nat) : Int) 0 with
  | false =>
    rw [h1] at hK
    exact less_id (shutS (o := ⟨false, ⟨2, N, m, i, ks, fs, gs, j + 1, l - 1⟩, ⟨me, sp, R⟩, s.added (lifeA n gs j) 1⟩) [0, 1, 2, 3, 4, 5, 6, 7, 8, 9, 10, 11] hK rfl rfl)
  | true =>
    rw [h1] at hK
    exact less_top (shutS (o := ⟨true, ⟨3, N, m, i, ks, fs, gs, j, l⟩, ⟨me, sp, ks⟩, s.added (lifeA n gs j) 1⟩) [0, 1, 2, 3, 6] hK rfl rfl)
theorem sw_step (t n : Int) (y : SWS) (st : STS) (s : MS) (K : AVal → Heap Ob → Prop) (ok : okSwp t n y st s) (hK : (swF t n y st s).left t n K) : CallOk (obI tbl) Try.prog 128 [.ptr 0 0, .ptr 2 0] (swH t n y st s) K := by
  match h : y.ph with
  | 0 => exact sw0 t n y st s K h ok hK
  | 1 => exact sw1 t n y st s K h ok hK
  | 2 => exact sw2 t n y st s K h ok hK
  | k + 3 => have := ok.ho; unfold okSwP at this; rw [h] at this; exact this.elim
noncomputable def swS : Spec Ob := fun args h => match args, h with
  | [.ptr 0 0, .ptr 2 0], [some (.abs (.sweep t n e) [1]), some (.abs (.store t' n' st) []), e1, e2] => (match memL 3 [e1, e2] with
    | some (l, s) => some (.pre ((l = s.xs.length ∧ t' = t ∧ n' = n) ∧ okSwp t n e st s) (.ret (.bool (swF t n e st s).d) (swH t n (swF t n e st s).e (swF t n e st s).st (swF t n e st s).s)))
    | none => none)
  | _, _ => none
theorem sw_ok : Spec.ok E42.I Try.prog 128 swS := by
  intro args h o ho K hK
  unfold swS at ho
  split at ho
  case h_2 => cases ho
  split at ho
  case h_2 => cases ho
  rename_i hm
  simp only [Option.some.injEq] at ho; subst ho
  obtain ⟨⟨⟨hl, ht', hn'⟩, ok⟩, hK⟩ := hK
  have hh := memL_eq hm hl
  simp only [List.cons.injEq, and_true] at hh
  obtain ⟨rfl, rfl⟩ := hh
  subst ht' hn'
  exact sw_step _ _ _ _ _ K ok hK
noncomputable def swE := E42.addS 128 swS sw_ok
end Go.Sh

/- A machine that sweeps, run. -/
namespace Go.Sh
open Go Go.Proofs
variable [Con]
/-- a machine's steps, none of them its last, alone -/
inductive swRn (t n : Int) (e0 : SWS) (st0 : STS) (s0 : MS) : Nat → SWS → STS → MS → Prop where
  | nil : swRn t n e0 st0 s0 0 e0 st0 s0
  | snoc (k : Nat) (e : SWS) (st : STS) (s : MS) (h : swRn t n e0 st0 s0 k e st s) (hd : (swF t n e st s).d = false) : swRn t n e0 st0 s0 (k + 1) (swF t n e st s).e (swF t n e st s).st (swF t n e st s).s
/-- all its steps -/
structure swEnd (t n : Int) (e0 : SWS) (st0 : STS) (s0 : MS) (k : Nat) (e : SWS) (st : STS) (s : MS) : Prop where
  ex : ∃ k1 e1 st1 s1, k = k1 + 1 ∧ swRn t n e0 st0 s0 k1 e1 st1 s1 ∧ (swF t n e1 st1 s1).d = true ∧ e = (swF t n e1 st1 s1).e ∧ st = (swF t n e1 st1 s1).st ∧ s = (swF t n e1 st1 s1).s
structure swY where
  k : Nat
  dn : Bool
  e : SWS
  st : STS
  s : MS
structure swRo (t n : Int) (e0 : SWS) (st0 : STS) (s0 : MS) (x : swY) : Prop where
  hk : x.k ≤ 100
  hd : match x.dn with
    | false => swRn t n e0 st0 s0 x.k x.e x.st x.s
    | true => swEnd t n e0 st0 s0 x.k x.e x.st x.s
def swR (t n : Int) (e0 : SWS) (st0 : STS) (s0 : MS) : Hint Ob := { X := swY, st := fun x => ([.ptr 0 0, .int .i64 100, .top, .top, .top, .top, .top, .top, .int .i64 (x.k : Int), .top, .iface 49 (.ptr 3 0), .bool x.dn, .top, .int .i64 1, .int .i64 0] ++ List.replicate 16 .top, mH x.s ++ [some (.cells [.iface 49 (.ptr 3 0)]), some (.abs (.sweep t n x.e) [4]), some (.abs (.store t n x.st) [])]), ok := swRo t n e0 st0 s0, mu := fun x => 2 * (100 - x.k) + (match x.dn with | true => 0 | false => 1), keep := [0, 1, 8, 10, 11, 13, 14] }
def swRP (t n : Int) (e0 : SWS) (st0 : STS) (s0 : MS) : FuncId → Nat → Option (Plan Ob) := fun _ k => if k = 3 then some (.rounds 2) else some (.states (swR t n e0 st0 s0))
def swRVC (t n : Int) (e0 : SWS) (st0 : STS) (s : MS) (K : AVal → Heap Ob → Prop) : Prop := ((0 : Int) ≤ (0 : Int) ∧ (0 : Int) < (↑1 : Int)) ∧ okSt (swR t n e0 st0 s) (Hint.ok (swR t n e0 st0 s)) [AVal.ptr 0 0, AVal.int .i64 100, AVal.top, AVal.top, AVal.top, AVal.top, AVal.top, AVal.top, AVal.int .i64 0, AVal.top, AVal.iface 49 (AVal.ptr 3 0), AVal.bool false, AVal.top, AVal.int .i64 (↑1 : Int), AVal.int .i64 0, AVal.top, AVal.top, AVal.top, AVal.top, AVal.top, AVal.top, AVal.top, AVal.top, AVal.top, AVal.top, AVal.top, AVal.top, AVal.top, AVal.top, AVal.top, AVal.top] [some (Entry.cells [AVal.int .i64 s.1, AVal.int .i64 s.2, AVal.slice 1 0 (List.length s.3) 1, AVal.int .i64 s.4, AVal.int .i64 s.5, AVal.int .i64 s.6, AVal.int .u64 s.7, AVal.int .u64 s.8, AVal.bool s.9]), some (Entry.ints (some .u64) s.3), some (Entry.cells [AVal.iface 49 (AVal.ptr 3 0)]), some (Entry.abs (Mc.sweep t n e0) [4]), some (Entry.abs (Mc.store t n st0) [])] ∧ ∀ (x : swY), swRo t n e0 st0 s x → bif !x.2 then bif ile 100 (↑x.1 : Int) then K (AVal.tup [AVal.int .i64 (↑x.1 : Int), AVal.bool false]) [some (Entry.cells [AVal.int .i64 (swY.s x).1, AVal.int .i64 (swY.s x).2, AVal.slice 1 0 (List.length (swY.s x).3) 1, AVal.int .i64 (swY.s x).4, AVal.int .i64 (swY.s x).5, AVal.int .i64 (swY.s x).6, AVal.int .u64 (swY.s x).7, AVal.int .u64 (swY.s x).8, AVal.bool (swY.s x).9]), some (Entry.ints (some .u64) (swY.s x).3), some (Entry.cells [AVal.iface 49 (AVal.ptr 3 0)]), some (Entry.abs (Mc.sweep t n x.3) [4]), some (Entry.abs (Mc.store t n x.4) [])] else ((List.length (swY.s x).3 = List.length (swY.s x).3 ∧ t = t ∧ n = n) ∧ okSwp t n (swY.e x) (swY.st x) { t := (swY.s x).1, n := (swY.s x).2, xs := (swY.s x).3, c := (swY.s x).4, k := (swY.s x).5, a := (swY.s x).6, o := (swY.s x).7, w := (swY.s x).8, ok := (swY.s x).9 }) ∧ okSt (swR t n e0 st0 s) (fun x' => Hint.ok (swR t n e0 st0 s) x' ∧ Hint.mu (swR t n e0 st0 s) x' < Hint.mu (swR t n e0 st0 s) x) [AVal.ptr 0 0, AVal.int .i64 100, AVal.top, AVal.top, AVal.top, AVal.top, AVal.top, AVal.top, AVal.int .i64 (W ((↑x.1 : Int) + 1)), AVal.top, AVal.iface 49 (AVal.ptr 3 0), AVal.bool (swF t n x.3 x.4 x.5).1, AVal.top, AVal.int .i64 1, AVal.int .i64 0, AVal.top, AVal.top, AVal.top, AVal.top, AVal.top, AVal.top, AVal.top, AVal.top, AVal.top, AVal.top, AVal.top, AVal.top, AVal.top, AVal.top, AVal.top, AVal.top] [some (Entry.cells [AVal.int .i64 (SO.s (swF t n x.3 x.4 x.5)).1, AVal.int .i64 (SO.s (swF t n x.3 x.4 x.5)).2, AVal.slice 1 0 (List.length (SO.s (swF t n x.3 x.4 x.5)).3) 1, AVal.int .i64 (SO.s (swF t n x.3 x.4 x.5)).4, AVal.int .i64 (SO.s (swF t n x.3 x.4 x.5)).5, AVal.int .i64 (SO.s (swF t n x.3 x.4 x.5)).6, AVal.int .u64 (SO.s (swF t n x.3 x.4 x.5)).7, AVal.int .u64 (SO.s (swF t n x.3 x.4 x.5)).8, AVal.bool (SO.s (swF t n x.3 x.4 x.5)).9]), some (Entry.ints (some .u64) (SO.s (swF t n x.3 x.4 x.5)).3), some (Entry.cells [AVal.iface 49 (AVal.ptr 3 0)]), some (Entry.abs (Mc.sweep t n (swF t n x.3 x.4 x.5).2) [4]), some (Entry.abs (Mc.store t n (swF t n x.3 x.4 x.5).3) [])] else K (AVal.tup [AVal.int .i64 (↑x.1 : Int), AVal.bool true]) [some (Entry.cells [AVal.int .i64 (swY.s x).1, AVal.int .i64 (swY.s x).2, AVal.slice 1 0 (List.length (swY.s x).3) 1, AVal.int .i64 (swY.s x).4, AVal.int .i64 (swY.s x).5, AVal.int .i64 (swY.s x).6, AVal.int .u64 (swY.s x).7, AVal.int .u64 (swY.s x).8, AVal.bool (swY.s x).9]), some (Entry.ints (some .u64) (swY.s x).3), some (Entry.cells [AVal.iface 49 (AVal.ptr 3 0)]), some (Entry.abs (Mc.sweep t n x.3) [4]), some (Entry.abs (Mc.store t n x.4) [])]
theorem sw_rprint (t n : Int) (e0 : SWS) (st0 : STS) (s : MS) (K : AVal → Heap Ob → Prop) (hK : swRVC t n e0 st0 s K) : CallOk (obI tbl) Try.prog 21 [.ptr 0 0, .int .i64 100, .slice 2 0 1 1] (mH s ++ [some (.cells [.iface 49 (.ptr 3 0)]), some (.abs (.sweep t n e0) [4]), some (.abs (.store t n st0) [])]) K := by
  refine CallOk.trim (callOk_of (E := swE) Try.checked.mixed (L := swRP t n e0 st0 s) (n := 10) (of_nf (q := swRVC t n e0 st0 s K) (by kernel_rfl) hK))
end Go.Sh

/- A machine that sweeps, run: what comes of it. -/
namespace Go.Sh
open Go Go.Proofs
variable [Con]
set_option maxRecDepth 20000 in
theorem sw_run (t n : Int) (e0 : SWS) (st0 : STS) (s0 : MS) (K : AVal → Heap Ob → Prop)
    (hinv : ∀ k e st s, swRn t n e0 st0 s0 k e st s → k < 100 ∧ okSwp t n e st s)
    (hK : ∀ k e st s, k ≤ 100 → swEnd t n e0 st0 s0 k e st s → K (.tup [.int .i64 (k : Int), .bool true]) (mH s ++ [some (.cells [.iface 49 (.ptr 3 0)]), some (.abs (.sweep t n e) [4]), some (.abs (.store t n st) [])])) : swRVC t n e0 st0 s0 K := by
  unfold swRVC
  refine ⟨by omega, okSt_intro (H := swR t n e0 st0 s0) ⟨0, false, e0, st0, s0⟩ rfl ⟨Nat.zero_le _, .nil⟩, ?_⟩
  rintro ⟨k, dn, e, st, s⟩ ⟨hk, hd⟩
  dsimp only at hk hd ⊢
  cases dn with
  | true => exact hK k e st s hk hd
  | false =>
    have hd : swRn t n e0 st0 s0 k e st s := hd
    obtain ⟨hk', hok⟩ := hinv k e st s hd
    have hb : ile 100 (k : Int) = false := by rw [ile_eq]; exact decide_eq_false (by omega)
    have e1 : W ((k : Int) + 1) = ((k + 1 : Nat) : Int) := by rw [W_id (by omega)]; rfl
    show cond (ile 100 (k : Int)) _ _
    rw [hb, e1]
    refine ⟨⟨⟨rfl, rfl, rfl⟩, hok⟩, ?_⟩
    cases hF : (swF t n e st s).d with
    | true =>
      exact okSt_intro (H := swR t n e0 st0 s0) ⟨k + 1, true, (swF t n e st s).e, (swF t n e st s).st, (swF t n e st s).s⟩ rfl ⟨⟨by show k + 1 ≤ 100; omega, ⟨k, e, st, s, rfl, hd, hF, rfl, rfl, rfl⟩⟩, by show 2 * (100 - (k + 1)) + 0 < 2 * (100 - k) + 1; omega⟩
    | false =>
      exact okSt_intro (H := swR t n e0 st0 s0) ⟨k + 1, false, (swF t n e st s).e, (swF t n e st s).st, (swF t n e st s).s⟩ rfl ⟨⟨by show k + 1 ≤ 100; omega, .snoc k e st s hd hF⟩, by show 2 * (100 - (k + 1)) + 1 < 2 * (100 - k) + 1; omega⟩
end Go.Sh

/- A machine that sweeps, run: memory behind it. -/
namespace Go.Sh
open Go Go.Proofs
variable [Con]
/-- what the slots hold -/
/- OPQ -/
def slotsV (xs : List Int) (n : Int) (k : Nat) : List Int := (List.range k).map fun (i : Nat) => peek xs (slotA n (i : Int))
/-- nodes given back, one by one -/
/- OPQ -/
def backAll (n : Int) (xs fs : List Int) : List Int := fs.foldl (fun xs r => putI xs (n + 4 + r) (WU (peek xs (n + 4 + r) + 1))) xs
theorem slotsV_len (xs : List Int) (n : Int) (k : Nat) : (slotsV xs n k).length = k := by unfold slotsV; simp
theorem slotsV_succ (xs : List Int) (n : Int) (k : Nat) : slotsV xs n (k + 1) = slotsV xs n k ++ [peek xs (slotA n (k : Int))] := by
  unfold slotsV; rw [List.range_succ, List.map_append]; rfl
theorem slotsV_okW {xs : List Int} (h : okW xs) (n : Int) (k : Nat) : okW (slotsV xs n k) := by
  refine ⟨fun x hx => ?_⟩
  unfold slotsV at hx
  obtain ⟨i, _, rfl⟩ := List.mem_map.1 hx
  exact okW_peek h _
theorem backAll_snoc (n : Int) (xs fs : List Int) (r : Int) : backAll n xs (fs ++ [r]) = putI (backAll n xs fs) (n + 4 + r) (WU (peek (backAll n xs fs) (n + 4 + r) + 1)) := by
  unfold backAll; rw [List.foldl_append]; rfl
theorem backAll_len (n : Int) (fs : List Int) : ∀ xs : List Int, (backAll n xs fs).length = xs.length := by
  induction fs with
  | nil => intro xs; rfl
  | cons r fs ih => intro xs; show (backAll n (putI xs _ _) fs).length = _; rw [ih, putI_length]
theorem backAll_okW (n : Int) (fs : List Int) : ∀ xs : List Int, okW xs → okW (backAll n xs fs) := by
  induction fs with
  | nil => intro xs h; exact h
  | cons r fs ih => intro xs h; exact ih _ (okW_put h (WU_rng _))
/-- where a sweep is -/
inductive HisS (t n : Int) (y0 : SWS) (st0 : STS) (s0 : MS) : SWS → STS → MS → Prop where
  | new : HisS t n y0 st0 s0 y0 st0 s0
  | look (y : SWS) (s : MS) (k : Nat) (hp : y.ph = 1) (hi : y.i = (k : Int)) (h2 : 1 ≤ y.i ∧ y.i < 2 * t) (hm : y.m = seenOf (slotsV s0.xs n k)) (hN : y.N = st0.R) (hx : s.xs = s0.xs) : HisS t n y0 st0 s0 y st0 s
  | give (y : SWS) (s : MS) (hp : y.ph = 2) (h2 : y.i = 2 * t) (hk : y.ks = keptL (seenOf (slotsV s0.xs n (2 * t).toNat)) st0.R) (hf : y.fs = freedL (seenOf (slotsV s0.xs n (2 * t).toNat)) st0.R) (hg : y.gs = y.fs) (hj : y.j < y.fs.length) (hl : y.l = y.fs.length - y.j) (hx : s.xs = backAll n s0.xs (y.fs.take y.j)) : HisS t n y0 st0 s0 y st0 s
structure EndS (t n : Int) (st0 : STS) (s0 : MS) (y : SWS) (st : STS) (s : MS) : Prop where
  hp : y.ph = 3
  hs : st = { st0 with R := keptL (seenOf (slotsV s0.xs n (2 * t).toNat)) st0.R }
  hx : s.xs = backAll n s0.xs (freedL (seenOf (slotsV s0.xs n (2 * t).toNat)) st0.R)
theorem hisS_step {t n : Int} {y0 : SWS} {st0 : STS} {s0 : MS} {y : SWS} {st : STS} {s : MS} (ht : 1 ≤ t ∧ t ≤ 8) (hn : 1 ≤ n ∧ n ≤ 1000) (h0 : y0.ph = 0) (h : HisS t n y0 st0 s0 y st s) :
    ((swF t n y st s).d = false → HisS t n y0 st0 s0 (swF t n y st s).e (swF t n y st s).st (swF t n y st s).s) ∧ ((swF t n y st s).d = true → EndS t n st0 s0 (swF t n y st s).e (swF t n y st s).st (swF t n y st s).s) := by
  cases h with
  | new =>
    obtain ⟨ph, N, m, i, ks, fs, gs, j, l⟩ := y0
    dsimp only at h0
    subst h0
    have ee : swF t n ⟨0, N, m, i, ks, fs, gs, j, l⟩ st0 s0 = ⟨false, ⟨1, st0.R, seenM [] n 0 s0, 1, ks, fs, gs, j, l⟩, st0, s0.loadd (slotA n 0)⟩ := rfl
    rw [ee]
    exact ⟨fun _ => .look _ _ 1 rfl rfl (by dsimp only; omega) rfl rfl rfl, fun c => Bool.noConfusion c⟩
  | look _ _ k hp hi h2 hm hN hx =>
    obtain ⟨ph, N, m, i, ks, fs, gs, j, l⟩ := y
    dsimp only at hp hi h2 hm hN
    subst hp hi
    have hsee : seenM m n (k : Int) s = seenOf (slotsV s0.xs n (k + 1)) := by rw [slotsV_succ, seenOf_snoc, ← hm, ← hx]; rfl
    cases he : ieq ((k : Int) + 1) (2 * t) with
    | false =>
      have he' : (k : Int) + 1 ≠ 2 * t := by rw [ieq_eq] at he; simpa using he
      have ee : swF t n ⟨1, N, m, k, ks, fs, gs, j, l⟩ st0 s = ⟨false, ⟨1, N, seenM m n (k : Int) s, (k : Int) + 1, ks, fs, gs, j, l⟩, st0, s.loadd (slotA n (k : Int))⟩ := by unfold swF; dsimp only; rw [he] <;> rfl
      rw [ee]
      exact ⟨fun _ => .look _ _ (k + 1) rfl rfl (by dsimp only; omega) hsee hN hx, fun c => Bool.noConfusion c⟩
    | true =>
      have he' : (k : Int) + 1 = 2 * t := by rw [ieq_eq] at he; simpa using he
      have ek : (2 * t).toNat = k + 1 := by omega
      cases hz : ieq ((freedL (seenM m n (k : Int) s) N).length : Int) 0 with
      | true =>
        have ee : swF t n ⟨1, N, m, k, ks, fs, gs, j, l⟩ st0 s = ⟨true, ⟨3, N, m, k, ks, fs, gs, j, l⟩, { st0 with R := keptL (seenM m n (k : Int) s) N }, s.loadd (slotA n (k : Int))⟩ := by unfold swF; dsimp only; rw [he, hz] <;> rfl
        rw [ee]
        refine ⟨fun c => Bool.noConfusion c, fun _ => ⟨rfl, ?_, ?_⟩⟩
        · rw [ek, ← hsee, hN]
        · rw [ek, ← hsee, ← hN, nil_of hz]; exact hx
      | false =>
        have ee : swF t n ⟨1, N, m, k, ks, fs, gs, j, l⟩ st0 s = ⟨false, ⟨2, N, seenM m n (k : Int) s, (k : Int) + 1, keptL (seenM m n (k : Int) s) N, freedL (seenM m n (k : Int) s) N, freedL (seenM m n (k : Int) s) N, 0, (freedL (seenM m n (k : Int) s) N).length⟩, st0, s.loadd (slotA n (k : Int))⟩ := by unfold swF; dsimp only; rw [he, hz] <;> rfl
        rw [ee]
        have hz' : 0 < (freedL (seenM m n (k : Int) s) N).length := by
          rw [ieq_eq] at hz
          have : ((freedL (seenM m n (k : Int) s) N).length : Int) ≠ 0 := by simpa using hz
          omega
        exact ⟨fun _ => .give _ _ rfl he' (by dsimp only; rw [ek, ← hsee, hN]) (by dsimp only; rw [ek, ← hsee, hN]) rfl hz' rfl hx, fun c => Bool.noConfusion c⟩
  | give _ _ hp h2 hk hf hg hj hl hx =>
    obtain ⟨ph, N, m, i, ks, fs, gs, j, l⟩ := y
    dsimp only at hp h2 hk hf hg hj hl hx
    subst hp
    have hfj : List.getD fs (j + Int.toNat 0 * 1) 0 = fs[j] := by
      show List.getD fs (j + 0) 0 = fs[j]
      rw [Nat.add_zero, List.getD_eq_getElem?_getD, List.getElem?_eq_getElem hj]; rfl
    have hlf : lifeA n gs j = n + 4 + fs[j] := by unfold lifeA; rw [hg, hfj]
    have hx' : (s.added (lifeA n gs j) 1).xs = backAll n s0.xs (fs.take (j + 1)) := by
      rw [List.take_succ_eq_append_getElem hj, backAll_snoc, ← hx, hlf]; rfl
    cases hz : ieq ((l - 1 : Nat) : Int) 0 with
    | false =>
      have hz' : l - 1 ≠ 0 := by
        rw [ieq_eq] at hz
        have : ((l - 1 : Nat) : Int) ≠ 0 := by simpa using hz
        omega
      have ee : swF t n ⟨2, N, m, i, ks, fs, gs, j, l⟩ st0 s = ⟨false, ⟨2, N, m, i, ks, fs, gs, j + 1, l - 1⟩, st0, s.added (lifeA n gs j) 1⟩ := by unfold swF; dsimp only; rw [hz] <;> rfl
      rw [ee]
      exact ⟨fun _ => .give _ _ rfl h2 hk hf hg (by dsimp only; omega) (by dsimp only; omega) hx', fun c => Bool.noConfusion c⟩
    | true =>
      have hz' : l - 1 = 0 := by
        rw [ieq_eq] at hz
        have : ((l - 1 : Nat) : Int) = 0 := by simpa using hz
        omega
      have ee : swF t n ⟨2, N, m, i, ks, fs, gs, j, l⟩ st0 s = ⟨true, ⟨3, N, m, i, ks, fs, gs, j, l⟩, { st0 with R := ks }, s.added (lifeA n gs j) 1⟩ := by unfold swF; dsimp only; rw [hz] <;> rfl
      rw [ee]
      refine ⟨fun c => Bool.noConfusion c, fun _ => ⟨rfl, ?_, ?_⟩⟩
      · dsimp only; rw [hk]
      · dsimp only
        rw [hx', List.take_of_length_le (by omega), hf]
theorem swF_acted (t n : Int) (y : SWS) (st : STS) (s : MS) : Acted s (swF t n y st s).s ∧ (swF t n y st s).s.t = s.t ∧ (swF t n y st s).s.n = s.n := by
  unfold swF
  repeat' split
  all_goals first | exact ⟨acted_load _ _, rfl, rfl⟩ | exact ⟨acted_add _ _ _, rfl, rfl⟩
/-- how far a sweep is, in steps -/
theorem hisS_rn {t n : Int} {y0 : SWS} {st0 : STS} {s0 : MS} (ht : 1 ≤ t ∧ t ≤ 8) (hn : 1 ≤ n ∧ n ≤ 1000) (h0 : y0.ph = 0) {k : Nat} {y : SWS} {st : STS} {s : MS} (h : swRn t n y0 st0 s0 k y st s) : HisS t n y0 st0 s0 y st s ∧ s.c = s0.c + k ∧ s.t = s0.t ∧ s.n = s0.n ∧ ((k : Int) = (match y.ph with | 0 => 0 | 1 => y.i | _ => 2 * t + y.j)) := by
  induction h with
  | nil => exact ⟨.new, by omega, rfl, rfl, by rw [h0]; rfl⟩
  | snoc k y st s h hd ih =>
    obtain ⟨i1, i2, i3, i4, i5⟩ := ih
    have ha := swF_acted t n y st s
    refine ⟨(hisS_step ht hn h0 i1).1 hd, by rw [ha.1.c, i2]; omega, by rw [ha.2.1, i3], by rw [ha.2.2, i4], ?_⟩
    obtain ⟨ph, N, m, i, ks, fs, gs, j, l⟩ := y
    match ph with
    | 0 =>
      have i5 : (k : Int) = 0 := i5
      show ((k + 1 : Nat) : Int) = 1
      omega
    | 1 =>
      have i5 : (k : Int) = i := i5
      unfold swF at hd ⊢
      dsimp only at hd ⊢
      cases he : ieq (i + 1) (2 * t) with
      | false =>
        rw [he] at hd
        show ((k + 1 : Nat) : Int) = i + 1
        omega
      | true =>
        have he' : i + 1 = 2 * t := by rw [ieq_eq] at he; simpa using he
        rw [he] at hd
        cases hz : ieq ((freedL (seenM m n i s) N).length : Int) 0 with
        | true => rw [hz] at hd; exact Bool.noConfusion hd
        | false =>
          show ((k + 1 : Nat) : Int) = 2 * t + ((0 : Nat) : Int)
          omega
    | p + 2 =>
      have i5 : (k : Int) = 2 * t + j := i5
      unfold swF at hd ⊢
      dsimp only at hd ⊢
      cases hz : ieq ((l - 1 : Nat) : Int) 0 with
      | true => rw [hz] at hd; exact Bool.noConfusion hd
      | false =>
        show ((k + 1 : Nat) : Int) = 2 * t + ((j + 1 : Nat) : Int)
        omega
theorem hisS_ok {t n : Int} {y0 : SWS} {st0 : STS} {s0 : MS} (ht : 1 ≤ t ∧ t ≤ 8) (hn : 1 ≤ n ∧ n ≤ 1000) (h0 : y0.ph = 0) (hR : st0.R.length ≤ 60) (hRn : ∀ r ∈ st0.R, 1 ≤ r ∧ r ≤ n) (hc : 0 ≤ s0.c ∧ s0.c ≤ 900000) {k : Nat} {y : SWS} {st : STS} {s : MS} (h : swRn t n y0 st0 s0 k y st s) : k < 100 ∧ okSwp t n y st s := by
  obtain ⟨h1, h2, _, _, h3⟩ := hisS_rn ht hn h0 h
  cases h1 with
  | new =>
    rw [h0] at h3
    have : (k : Int) = 0 := h3
    refine ⟨by omega, ⟨by omega, by omega, by omega, by omega, ?_⟩⟩
    unfold okSwP; rw [h0]; trivial
  | look _ _ k' hp hi h4 hm hN hx =>
    rw [hp] at h3
    have : (k : Int) = y.i := h3
    refine ⟨by omega, ⟨by omega, by omega, by omega, by omega, ?_⟩⟩
    unfold okSwP; rw [hp]
    show y.N.length ≤ 1000000 ∧ 0 ≤ y.i ∧ y.i < 2 * t
    rw [hN]; omega
  | give _ _ hp h4 hk hf hg hj hl hx =>
    rw [hp] at h3
    have h3 : (k : Int) = 2 * t + y.j := h3
    have e2 : y.fs.length ≤ st0.R.length := by rw [hf]; exact filt_len _ _
    refine ⟨by omega, ⟨by omega, by omega, by omega, by omega, ?_⟩⟩
    unfold okSwP; rw [hp]
    show 2 * t ≤ y.i ∧ 1 ≤ y.l ∧ y.gs.length = y.j + y.l ∧ -1000000 ≤ List.getD y.gs (y.j + Int.toNat 0 * 1) 0 ∧ List.getD y.gs (y.j + Int.toNat 0 * 1) 0 ≤ 1000000
    have hfj : List.getD y.gs (y.j + Int.toNat 0 * 1) 0 = y.fs[y.j] := by
      rw [hg]
      show List.getD y.fs (y.j + 0) 0 = y.fs[y.j]
      rw [Nat.add_zero, List.getD_eq_getElem?_getD, List.getElem?_eq_getElem hj]; rfl
    have hfn : 1 ≤ y.fs[y.j] ∧ y.fs[y.j] ≤ n := by
      have hm1 : y.fs[y.j] ∈ y.fs := List.getElem_mem hj
      have hm2 : y.fs[y.j] ∈ freedL (seenOf (slotsV s0.xs n (2 * t).toNat)) st0.R := by rw [← hf]; exact hm1
      unfold freedL at hm2
      exact hRn _ (List.mem_filter.1 hm2).1
    rw [hfj, hg]; omega
def swRH (t n : Int) (st : STS) (s : MS) : Heap Ob := mH s ++ [some (.cells [.iface 49 (.ptr 3 0)]), some (.cells [.ptr 4 0, .top]), some (.cells [.int .i64 t, .int .i64 n, .int .i64 st.me, .int .i64 st.sp, .slice 6 0 st.R.length 1]), none, some (.ints (some .i64) st.R)]
theorem sw_rcall (t n : Int) (st : STS) (s : MS) (K : AVal → Heap Ob → Prop) (ht : 1 ≤ t ∧ t ≤ 8) (hn : 1 ≤ n ∧ n ≤ 1000) (hR : st.R.length ≤ 60) (hRn : ∀ r ∈ st.R, 1 ≤ r ∧ r ≤ n) (hc : 0 ≤ s.c ∧ s.c ≤ 900000)
    (hK : ∀ (k : Nat) (s' : MS), s'.xs = backAll n s.xs (freedL (seenOf (slotsV s.xs n (2 * t).toNat)) st.R) → s'.c = s.c + k → k ≤ 100 → s'.t = s.t → s'.n = s.n → K (.tup [.int .i64 (k : Int), .bool true]) (swRH t n { st with R := keptL (seenOf (slotsV s.xs n (2 * t).toNat)) st.R } s')) :
    CallOk (obI tbl) Try.prog 21 [.ptr 0 0, .int .i64 100, .slice 2 0 1 1] (mH s ++ [some (.cells [.iface 49 (.ptr 3 0)]), some (.cells [.ptr 4 0, .raw (.pointer none)]), some (.cells [.int .i64 t, .int .i64 n, .int .i64 st.me, .int .i64 st.sp, .slice 5 0 st.R.length 1]), some (.ints (some .i64) st.R)]) K := by
  refine CallOk.opened tbl (CallOk.opened tbl ?_)
  refine CallOk.shut tbl (mH s ++ [some (.cells [.iface 49 (.ptr 3 0)]), some (.abs (.sweep t n ⟨0, [], [], 0, [], [], [], 0, 0⟩) [4]), some (.cells [.int .i64 t, .int .i64 n, .int .i64 st.me, .int .i64 st.sp, .slice 5 0 st.R.length 1]), some (.ints (some .i64) st.R)]) (.sweep t n ⟨0, [], [], 0, [], [], [], 0, 0⟩) 3 1 (swG t n ⟨0, [], [], 0, [], [], [], 0, 0⟩) [4] rfl rfl rfl rfl ?_
  refine CallOk.shut tbl (mH s ++ [some (.cells [.iface 49 (.ptr 3 0)]), some (.abs (.sweep t n ⟨0, [], [], 0, [], [], [], 0, 0⟩) [4]), some (.abs (.store t n st) [])]) (.store t n st) 4 0 (stG t n st) [] rfl rfl rfl rfl ?_
  refine sw_rprint t n ⟨0, [], [], 0, [], [], [], 0, 0⟩ st s _ (sw_run t n _ st s _ (fun k e st1 s1 h => hisS_ok ht hn rfl hR hRn hc h) ?_)
  rintro k y st1 s1 hk ⟨k1, y1, st2, s2, e1, h1, h2, e2, e3, e4⟩
  obtain ⟨q1, q2, q3, q4, _⟩ := hisS_rn ht hn rfl h1
  obtain ⟨p1, p2, p3⟩ := (hisS_step ht hn rfl q1).2 h2
  have ha := swF_acted t n y1 st2 s2
  have hh := hK k s1 (by rw [e4]; exact p3) (by rw [e4, ha.1.c, q2, e1]; omega) hk (by rw [e4, ha.2.1, q3]) (by rw [e4, ha.2.2, q4])
  rw [← e2] at p1
  rw [← e3] at p2
  subst p2
  obtain ⟨ph, N, m, i, ks, fs, gs, j, l⟩ := y
  dsimp only at p1
  subst p1
  refine ⟨.store t n { st with R := keptL (seenOf (slotsV s.xs n (2 * t).toNat)) st.R }, 4, 0, stG t n { st with R := keptL (seenOf (slotsV s.xs n (2 * t).toNat)) st.R }, [], rfl, rfl, rfl, ?_⟩
  exact ⟨.sweep t n ⟨3, N, m, i, ks, fs, gs, j, l⟩, 3, 1, swG t n ⟨3, N, m, i, ks, fs, gs, j, l⟩, [4], rfl, rfl, rfl, hh⟩
end Go.Sh

/- Is a node guarded? Slots are cleared; runs. -/
namespace Go.Sh
open Go Go.Proofs
variable [Con]
def HGd (t n nd : Int) (s : MS) : Hint Ob := { X := Nat, st := fun i => ([.ptr 0 0, .top, .int .i64 nd, .top, .ptr 2 0, .top, .top, .top, .top, .int .i64 (2 * t), .int .i64 (i : Int)] ++ List.replicate 15 .top, mH s ++ [some (.cells [.int .i64 t, .int .i64 n])]), ok := fun i => (i : Int) ≤ 2 * t ∧ inY (slotsV s.xs n i) nd = false, mu := fun i => (2 * t).toNat - i, keep := [0, 2, 4, 9, 10] }
def gdVC (t n nd : Int) (s : MS) (K : AVal → Heap Ob → Prop) : Prop := (((0 : Int) ≤ t ∧ t ≤ (100000 : Int)) ∧ (0 : Int) ≤ n ∧ n ≤ (100000 : Int)) ∧ okSt (HGd t n nd s) (Hint.ok (HGd t n nd s)) [AVal.ptr 0 0, AVal.top, AVal.int .i64 nd, AVal.top, AVal.ptr 2 0, AVal.top, AVal.top, AVal.top, AVal.top, AVal.int .i64 (2 * t), AVal.int .i64 0, AVal.top, AVal.top, AVal.top, AVal.top, AVal.top, AVal.top, AVal.top, AVal.top, AVal.top, AVal.top, AVal.top, AVal.top, AVal.top, AVal.top, AVal.top] [some (Entry.cells [AVal.int .i64 s.1, AVal.int .i64 s.2, AVal.slice 1 0 (List.length s.3) 1, AVal.int .i64 s.4, AVal.int .i64 s.5, AVal.int .i64 s.6, AVal.int .u64 s.7, AVal.int .u64 s.8, AVal.bool s.9]), some (Entry.ints (some .u64) s.3), some (Entry.cells [AVal.int .i64 t, AVal.int .i64 n])] ∧ ∀ (x : Nat), (↑x : Int) ≤ (2 : Int) * t ∧ inY (slotsV s.3 n x) nd = false → bif ilt (↑x : Int) (2 * t) then bif ilt 0 nd then (((0 : Int) ≤ t ∧ t ≤ (100000 : Int)) ∧ ((0 : Int) ≤ n ∧ n ≤ (100000 : Int)) ∧ ((-1099511627776 : Int) ≤ (0 : Int) ∧ (0 : Int) ≤ (1099511627776 : Int)) ∧ (-1099511627776 : Int) ≤ (↑x : Int) ∧ (↑x : Int) ≤ (1099511627776 : Int)) ∧ (List.length s.3 = List.length s.3 ∧ True) ∧ bif ieq (peek s.3 (2 * n + 5 + 2 * 0 + (↑x : Int))) (WU nd) then K (AVal.bool true) [some (Entry.cells [AVal.int .i64 s.1, AVal.int .i64 s.2, AVal.slice 1 0 (List.length s.3) 1, AVal.int .i64 s.4, AVal.int .i64 s.5, AVal.int .i64 s.6, AVal.int .u64 s.7, AVal.int .u64 s.8, AVal.bool s.9]), some (Entry.ints (some .u64) s.3)] else okSt (HGd t n nd s) (fun x' => Hint.ok (HGd t n nd s) x' ∧ Hint.mu (HGd t n nd s) x' < Hint.mu (HGd t n nd s) x) [AVal.ptr 0 0, AVal.top, AVal.int .i64 nd, AVal.top, AVal.ptr 2 0, AVal.top, AVal.top, AVal.top, AVal.top, AVal.int .i64 (2 * t), AVal.int .i64 (W ((↑x : Int) + 1)), AVal.top, AVal.top, AVal.top, AVal.top, AVal.top, AVal.top, AVal.top, AVal.top, AVal.top, AVal.top, AVal.top, AVal.top, AVal.top, AVal.top, AVal.top] [some (Entry.cells [AVal.int .i64 s.1, AVal.int .i64 s.2, AVal.slice 1 0 (List.length s.3) 1, AVal.int .i64 s.4, AVal.int .i64 s.5, AVal.int .i64 s.6, AVal.int .u64 s.7, AVal.int .u64 s.8, AVal.bool s.9]), some (Entry.ints (some .u64) s.3), some (Entry.cells [AVal.int .i64 t, AVal.int .i64 n])] else okSt (HGd t n nd s) (fun x' => Hint.ok (HGd t n nd s) x' ∧ Hint.mu (HGd t n nd s) x' < Hint.mu (HGd t n nd s) x) [AVal.ptr 0 0, AVal.top, AVal.int .i64 nd, AVal.top, AVal.ptr 2 0, AVal.top, AVal.top, AVal.top, AVal.top, AVal.int .i64 (2 * t), AVal.int .i64 (W ((↑x : Int) + 1)), AVal.top, AVal.top, AVal.top, AVal.top, AVal.top, AVal.top, AVal.top, AVal.top, AVal.top, AVal.top, AVal.top, AVal.top, AVal.top, AVal.top, AVal.top] [some (Entry.cells [AVal.int .i64 s.1, AVal.int .i64 s.2, AVal.slice 1 0 (List.length s.3) 1, AVal.int .i64 s.4, AVal.int .i64 s.5, AVal.int .i64 s.6, AVal.int .u64 s.7, AVal.int .u64 s.8, AVal.bool s.9]), some (Entry.ints (some .u64) s.3), some (Entry.cells [AVal.int .i64 t, AVal.int .i64 n])] else K (AVal.bool false) [some (Entry.cells [AVal.int .i64 s.1, AVal.int .i64 s.2, AVal.slice 1 0 (List.length s.3) 1, AVal.int .i64 s.4, AVal.int .i64 s.5, AVal.int .i64 s.6, AVal.int .u64 s.7, AVal.int .u64 s.8, AVal.bool s.9]), some (Entry.ints (some .u64) s.3)]
def clVC (t n u : Int) (s : MS) (K : AVal → Heap Ob → Prop) : Prop := ((0 : Int) ≤ (0 : Int) ∧ (0 : Int) < (↑1 : Int)) ∧ ((((0 : Int) ≤ t ∧ t ≤ (100000 : Int)) ∧ ((0 : Int) ≤ n ∧ n ≤ (100000 : Int)) ∧ ((-1099511627776 : Int) ≤ u ∧ u ≤ (1099511627776 : Int)) ∧ (-1099511627776 : Int) ≤ (0 : Int) ∧ (0 : Int) ≤ (1099511627776 : Int)) ∧ True) ∧ ((List.length s.3 = List.length s.3 ∧ (0 : Int) ≤ s.4 ∧ s.4 ≤ (4611686018427387904 : Int)) ∧ True) ∧ ((((0 : Int) ≤ t ∧ t ≤ (100000 : Int)) ∧ ((0 : Int) ≤ n ∧ n ≤ (100000 : Int)) ∧ ((-1099511627776 : Int) ≤ u ∧ u ≤ (1099511627776 : Int)) ∧ (-1099511627776 : Int) ≤ W (0 + 1) ∧ W (0 + 1) ≤ (1099511627776 : Int)) ∧ True) ∧ ((List.length (putI s.3 (2 * n + 5 + 2 * u + 0) 0) = List.length (putI s.3 (2 * n + 5 + 2 * u + 0) 0) ∧ (0 : Int) ≤ s.4 + 1 ∧ s.4 + (1 : Int) ≤ (4611686018427387904 : Int)) ∧ True) ∧ K (AVal.tup [AVal.int .i64 (W (W (0 + 1) + 1)), AVal.bool true]) [some (Entry.cells [AVal.int .i64 s.1, AVal.int .i64 s.2, AVal.slice 1 0 (List.length (putI (putI s.3 (2 * n + 5 + 2 * u + 0) 0) (2 * n + 5 + 2 * u + W (0 + 1)) 0)) 1, AVal.int .i64 (s.4 + 1 + 1), AVal.int .i64 2, AVal.int .i64 (2 * n + 5 + 2 * u + W (0 + 1)), AVal.int .u64 (peek (putI s.3 (2 * n + 5 + 2 * u + 0) 0) (2 * n + 5 + 2 * u + W (0 + 1))), AVal.int .u64 (bif inB (putI s.3 (2 * n + 5 + 2 * u + 0) 0) (2 * n + 5 + 2 * u + W (0 + 1)) then 0 else 0), AVal.bool (inB (putI s.3 (2 * n + 5 + 2 * u + 0) 0) (2 * n + 5 + 2 * u + W (0 + 1)))]), some (Entry.ints (some .u64) (putI (putI s.3 (2 * n + 5 + 2 * u + 0) 0) (2 * n + 5 + 2 * u + W (0 + 1)) 0)), some (Entry.cells [AVal.iface 53 (AVal.ptr 3 0)]), some (Entry.cells [AVal.int .i64 t, AVal.int .i64 n, AVal.int .i64 u, AVal.int .i64 (W (W (0 + 1) + 1))])]
theorem gd_print (t n nd : Int) (s : MS) (K : AVal → Heap Ob → Prop) (hK : gdVC t n nd s K) : CallOk (obI tbl) Try.prog 20 [.ptr 0 0, .agg [.int .i64 t, .int .i64 n], .int .i64 nd] (mH s) K := by
  refine CallOk.trim (callOk_of (E := E42) Try.checked.mixed (L := fun _ _ => some (.states (HGd t n nd s))) (n := 10) (of_nf (q := gdVC t n nd s K) (by kernel_rfl) hK))
theorem cl_print (t n u : Int) (s : MS) (K : AVal → Heap Ob → Prop) (hK : clVC t n u s K) : CallOk (obI tbl) Try.prog 21 [.ptr 0 0, .int .i64 9, .slice 2 0 1 1] (mH s ++ [some (.cells [.iface 53 (.ptr 3 0)]), some (.cells [.int .i64 t, .int .i64 n, .int .i64 u, .int .i64 0])]) K := by
  refine CallOk.trim (callOk_of (E := E42) Try.checked.mixed (L := LL) (n := 10) (of_nf (q := clVC t n u s K) (by kernel_rfl) hK))
end Go.Sh

/- Guarded nodes; slots that are cleared; runs: their contracts. -/
namespace Go.Sh
open Go Go.Proofs
variable [Con]
theorem gd_walk (t n nd : Int) (s : MS) (K : AVal → Heap Ob → Prop) (ht : 1 ≤ t ∧ t ≤ 8) (hn : 1 ≤ n ∧ n ≤ 1000) (hd : 1 ≤ nd ∧ nd ≤ 1000) (hK : K (.bool (inY (slotsV s.xs n (2 * t).toNat) nd)) (mH s)) : gdVC t n nd s K := by
  unfold gdVC
  refine ⟨by omega, okSt_intro (H := HGd t n nd s) (0 : Nat) rfl ⟨by show ((0 : Nat) : Int) ≤ 2 * t; omega, rfl⟩, ?_⟩
  rintro i ⟨hi, hf⟩
  have e1 : W ((i : Int) + 1) = ((i + 1 : Nat) : Int) := by rw [W_id (by omega)]; rfl
  refine lt_go (fun h1 => lt_go (fun _ => ⟨by omega, ⟨rfl, trivial⟩, ?_⟩) (fun h => absurd h (by omega))) (fun h1 => ?_)
  · have hs := slotsV_succ s.xs n i
    have hin := inY_snoc (slotsV s.xs n i) (peek s.xs (slotA n (i : Int))) nd
    rw [← hs, hf] at hin
    simp only [cond_false] at hin
    show cond (ieq (peek s.xs (slotA n (i : Int))) (WU nd)) _ _
    cases hq : ieq (peek s.xs (slotA n (i : Int))) (WU nd) with
    | true =>
      rw [hq] at hin
      have hall : inY (slotsV s.xs n (2 * t).toNat) nd = true := by
        unfold inY at hin ⊢
        rw [List.any_eq_true] at hin ⊢
        obtain ⟨y, hy, hy2⟩ := hin
        refine ⟨y, ?_, hy2⟩
        unfold slotsV at hy ⊢
        obtain ⟨k, hk, rfl⟩ := List.mem_map.1 hy
        exact List.mem_map.2 ⟨k, List.mem_range.2 (by have := List.mem_range.1 hk; omega), rfl⟩
      rw [hall] at hK
      exact hK
    | false =>
      rw [hq] at hin
      rw [e1]
      exact okSt_intro (H := HGd t n nd s) (i + 1 : Nat) rfl ⟨⟨by show ((i + 1 : Nat) : Int) ≤ 2 * t; omega, hin⟩, by show (2 * t).toNat - (i + 1) < (2 * t).toNat - i; omega⟩
  · have : i = (2 * t).toNat := by omega
    subst this
    rw [hf] at hK
    exact hK
def gdS : RSpec Ob := fun args h => match args with
  | [.ptr 0 0, .agg [.int .i64 t, .int .i64 n], .int .i64 nd] => (match memPat h with
    | some (l, s) => some ((l = s.xs.length ∧ (1 ≤ t ∧ t ≤ 8) ∧ (1 ≤ n ∧ n ≤ 1000) ∧ (1 ≤ nd ∧ nd ≤ 1000)), .bool (inY (slotsV s.xs n (2 * t).toNat) nd))
    | none => none)
  | _ => none
theorem gd_ok : Spec.ok (obI tbl) Try.prog 20 gdS.spec := by
  intro args h o ho K hK
  unfold RSpec.spec gdS at ho
  split at ho
  case h_2 => cases ho
  rename_i p v hp
  split at hp
  case h_2 => cases hp
  split at hp
  case h_2 => cases hp
  rename_i hm
  simp only [Option.some.injEq, Prod.mk.injEq] at hp
  obtain ⟨rfl, rfl⟩ := hp
  simp only [Option.some.injEq] at ho; subst ho
  obtain ⟨⟨hl, ht, hn, hd⟩, hK⟩ := hK
  have hh := memPat_eq hm hl
  subst hh
  exact gd_print _ _ _ _ K (gd_walk _ _ _ _ K ht hn hd hK)
/-- a thread's slots are cleared -/
def clrS (s : MS) (n u : Int) : MS := (s.stored (2 * n + 5 + 2 * u + 0) 0).stored (2 * n + 5 + 2 * u + 1) 0
def clS : Spec Ob := fun args h => match args, h with
  | [.ptr 0 0, .int .i64 9, .slice 2 0 1 1], [e1, e2, some (.cells [.iface 53 (.ptr 3 0)]), some (.cells [.int .i64 t, .int .i64 n, .int .i64 u, .int .i64 0])] => (match memPat [e1, e2] with
    | some (l, s) => some (.pre (l = s.xs.length ∧ (1 ≤ t ∧ t ≤ 8) ∧ (1 ≤ n ∧ n ≤ 1000) ∧ (0 ≤ u ∧ u ≤ 100) ∧ (0 ≤ s.c ∧ s.c ≤ 1000000)) (.ret (.tup [.int .i64 2, .bool true]) (mH (clrS s n u) ++ [some (.cells [.iface 53 (.ptr 3 0)]), some (.cells [.int .i64 t, .int .i64 n, .int .i64 u, .int .i64 2])])))
    | none => none)
  | _, _ => none
theorem cl_ok : Spec.ok (obI tbl) Try.prog 21 clS := by
  intro args h o ho K hK
  unfold clS at ho
  split at ho
  case h_2 => cases ho
  rename_i e1 e2 t n u
  split at ho
  case h_2 => cases ho
  rename_i l s hm
  simp only [Option.some.injEq] at ho; subst ho
  obtain ⟨⟨hl, ht, hn, hu, hc⟩, hK⟩ := hK
  have hh := memPat_eq hm hl
  unfold memH at hh
  simp only [List.cons.injEq, and_true] at hh
  obtain ⟨rfl, rfl⟩ := hh
  refine cl_print t n u s K ?_
  unfold clVC
  have w1 : W (0 + 1) = 1 := by decide
  have w2 : W (1 + 1) = 2 := by decide
  rw [w1, w2]
  exact ⟨by omega, ⟨by omega, trivial⟩, ⟨⟨rfl, by omega⟩, trivial⟩, ⟨by omega, trivial⟩, ⟨⟨rfl, by omega⟩, trivial⟩, hK⟩
def runSwS : Spec Ob := fun args h => match args, h with
  | [.ptr 0 0, .int .i64 100, .slice 2 0 1 1], [e1, e2, some (.cells [.iface 49 (.ptr 3 0)]), some (.cells [.ptr 4 0, .raw (.pointer none)]), some (.cells [.int .i64 t, .int .i64 n, .int .i64 me, .int .i64 sp, .slice 5 0 k 1]), some (.ints (some .i64) R)] => (match memPat [e1, e2] with
    | some (l, s) => some (.pre ((l = s.xs.length ∧ k = R.length) ∧ (1 ≤ t ∧ t ≤ 8) ∧ (1 ≤ n ∧ n ≤ 1000) ∧ R.length ≤ 60 ∧ (∀ r ∈ R, 1 ≤ r ∧ r ≤ n) ∧ okW s.xs ∧ (0 ≤ s.c ∧ s.c ≤ 900000)) (.all (Nat × MS) (fun x => x.2.xs = backAll n s.xs (freedY (slotsV s.xs n (2 * t).toNat) R) ∧ x.2.c = s.c + x.1 ∧ x.1 ≤ 100 ∧ x.2.t = s.t ∧ x.2.n = s.n) (fun x => .ret (.tup [.int .i64 (x.1 : Int), .bool true]) (swRH t n ⟨me, sp, keptY (slotsV s.xs n (2 * t).toNat) R⟩ x.2))))
    | none => none)
  | _, _ => none
theorem runSw_ok : Spec.ok (obI tbl) Try.prog 21 runSwS := by
  intro args h o ho K hK
  unfold runSwS at ho
  split at ho
  case h_2 => cases ho
  rename_i e1 e2 t n me sp k R
  split at ho
  case h_2 => cases ho
  rename_i l s hm
  simp only [Option.some.injEq] at ho; subst ho
  obtain ⟨⟨⟨hl, hk⟩, ht, hn, hR, hRn, hw, hc⟩, hK⟩ := hK
  have hh := memPat_eq hm hl
  unfold memH at hh
  simp only [List.cons.injEq, and_true] at hh
  obtain ⟨rfl, rfl⟩ := hh
  subst hk
  have hR' : ∀ r ∈ R, 1 ≤ r ∧ r ≤ 1000 := fun r hr => by have := hRn r hr; omega
  have ek := kept_eq (slotsV_okW hw n (2 * t).toNat) hR'
  have ef := freed_eq (slotsV_okW hw n (2 * t).toNat) hR'
  refine sw_rcall t n ⟨me, sp, R⟩ s K ht hn hR hRn hc ?_
  intro k s' h1 h2 h3 h4 h5
  have := hK (k, s') ⟨by rw [← ef]; exact h1, h2, h3, h4, h5⟩
  rw [← ek] at this
  exact this
def runAllS : Spec Ob := fun args h => match clS args h with
  | some o => some o
  | none => runSwS args h
theorem runAll_ok : Spec.ok (obI tbl) Try.prog 21 runAllS := by
  intro args h o ho
  unfold runAllS at ho
  split at ho
  · rename_i e; cases ho; exact cl_ok _ _ _ e
  · exact runSw_ok _ _ _ ho
noncomputable def E66 := (E42.addS 21 runAllS runAll_ok).addR 20 gdS gd_ok
end Go.Sh

/- Is a node taken? -/
namespace Go.Sh
open Go Go.Proofs
variable [Con]
def tkVC (t n nd : Int) (s : MS) (K : AVal → Heap Ob → Prop) : Prop := True ∧ bif nodeB n nd then (((0 : Int) ≤ t ∧ t ≤ (100000 : Int)) ∧ ((0 : Int) ≤ n ∧ n ≤ (100000 : Int)) ∧ (-1099511627776 : Int) ≤ nd ∧ nd ≤ (1099511627776 : Int)) ∧ (List.length s.3 = List.length s.3 ∧ True) ∧ (2 : Int) ≠ (0 : Int) ∧ K (AVal.bool (ieq (Int.tmod (peek s.3 (n + 4 + nd)) 2) 1)) [some (Entry.cells [AVal.int .i64 s.1, AVal.int .i64 s.2, AVal.slice 1 0 (List.length s.3) 1, AVal.int .i64 s.4, AVal.int .i64 s.5, AVal.int .i64 s.6, AVal.int .u64 s.7, AVal.int .u64 s.8, AVal.bool s.9]), some (Entry.ints (some .u64) s.3)] else K (AVal.bool false) [some (Entry.cells [AVal.int .i64 s.1, AVal.int .i64 s.2, AVal.slice 1 0 (List.length s.3) 1, AVal.int .i64 s.4, AVal.int .i64 s.5, AVal.int .i64 s.6, AVal.int .u64 s.7, AVal.int .u64 s.8, AVal.bool s.9]), some (Entry.ints (some .u64) s.3)]
theorem tk_print (t n nd : Int) (s : MS) (K : AVal → Heap Ob → Prop) (hK : tkVC t n nd s K) : CallOk (obI tbl) Try.prog 24 [.ptr 0 0, .agg [.int .i64 t, .int .i64 n], .int .i64 nd] (mH s) K := by
  refine CallOk.trim (callOk_of (E := E42) Try.checked.mixed (L := LL) (n := 10) (of_nf (q := tkVC t n nd s K) (by kernel_rfl) hK))
/- OPQ -/
def tkB (xs : List Int) (n nd : Int) : Bool := ieq (Int.tmod (peek xs (n + 4 + nd)) 2) 1
def tknS : RSpec Ob := fun args h => match args with
  | [.ptr 0 0, .agg [.int .i64 t, .int .i64 n], .int .i64 nd] => (match memPat h with
    | some (l, s) => some ((l = s.xs.length ∧ (1 ≤ t ∧ t ≤ 8) ∧ (1 ≤ n ∧ n ≤ 1000) ∧ (1 ≤ nd ∧ nd ≤ n)), .bool (tkB s.xs n nd))
    | none => none)
  | _ => none
theorem tkn_ok : Spec.ok (obI tbl) Try.prog 24 tknS.spec := by
  intro args h o ho K hK
  unfold RSpec.spec tknS at ho
  split at ho
  case h_2 => cases ho
  rename_i p v hp
  split at hp
  case h_2 => cases hp
  rename_i t n nd
  split at hp
  case h_2 => cases hp
  rename_i l s hm
  simp only [Option.some.injEq, Prod.mk.injEq] at hp
  obtain ⟨rfl, rfl⟩ := hp
  simp only [Option.some.injEq] at ho; subst ho
  obtain ⟨⟨hl, ht, hn, hd⟩, hK⟩ := hK
  have hh := memPat_eq hm hl
  subst hh
  refine tk_print _ _ _ _ K ?_
  unfold tkVC
  have hb : nodeB n nd = true := by
    unfold nodeB
    rw [ile_eq, ile_eq, decide_eq_true hd.1, decide_eq_true hd.2]; rfl
  rw [hb]
  exact ⟨trivial, by omega, ⟨rfl, trivial⟩, by omega, hK⟩
noncomputable def E67 := E66.addR 24 tknS tkn_ok
end Go.Sh

/- What is given back: the law's walk, told. -/
namespace Go.Sh
open Go Go.Proofs
variable [Con]
/- OPQ -/
def markAll (n : Int) (xs L : List Int) : List Int := L.foldl (fun xs r => putI xs (n + 4 + r) 1) xs
/- OPQ -/
def clrAll (n : Int) (xs : List Int) : Nat → List Int
  | 0 => xs
  | u + 1 => putI (putI (clrAll n xs u) (2 * n + 5 + 2 * (u : Int) + 0) 0) (2 * n + 5 + 2 * (u : Int) + 1) 0
structure G1 where
  j : Nat
  s : MS
  kl : List Int
structure G2 where
  j : Nat
  s : MS
structure okG1 (t n : Int) (R xs ys : List Int) (x : G1) : Prop where
  hj : x.j ≤ R.length
  hx : x.s.xs = markAll n xs (R.take x.j)
  hc : 0 ≤ x.s.c ∧ x.s.c ≤ x.j
  hk : x.kl = keptY ys (R.take x.j)
structure okG2 (R xs : List Int) (x : G2) : Prop where
  hj : x.j ≤ R.length
  hx : x.s.xs = xs
  hc : 0 ≤ x.s.c ∧ x.s.c ≤ 200
structure okG3 (t n : Int) (xs : List Int) (x : G2) : Prop where
  hj : (x.j : Int) ≤ t
  hx : x.s.xs = clrAll n xs x.j
  hc : 0 ≤ x.s.c ∧ x.s.c ≤ 200 + 2 * x.j
structure okG4 (R xs : List Int) (x : G2) : Prop where
  hj : x.j ≤ R.length
  hx : x.s.xs = xs
def lC (t n : Int) : Option (Entry Ob) := some (.cells [.int .i64 t, .int .i64 n])
def sC (t n me sp : Int) (R : List Int) : Option (Entry Ob) := some (.cells [.int .i64 t, .int .i64 n, .int .i64 me, .int .i64 sp, .slice 4 0 R.length 1])
def iC (R : List Int) : Option (Entry Ob) := some (.ints (some .i64) R)
def GH1 (t n me sp : Int) (R xs ys : List Int) : Hint Ob := { X := G1, st := fun x => (List.replicate 5 .top ++ [.ptr 0 0, .ptr 2 0, .top, .ptr 3 0, .top, .slice 5 0 x.kl.length 1, .slice 6 0 R.length 1] ++ List.replicate 41 .top ++ [.slice 6 0 R.length 1, .int .i64 (R.length : Int), .int .i64 (x.j : Int)] ++ List.replicate 97 .top, mH x.s ++ [lC t n, sC t n me sp R, iC R, iC x.kl, iC R]), ok := okG1 t n R xs ys, mu := fun x => R.length - x.j, keep := [5, 6, 8, 10, 11, 53, 54, 55], casts := [(.slot 10, .ints (some .i64))] }
def GH2 (t n me sp : Int) (R ks xs : List Int) : Hint Ob := { X := G2, st := fun x => (List.replicate 5 .top ++ [.ptr 0 0, .ptr 2 0, .top, .ptr 3 0, .top, .slice 5 0 ks.length 1, .slice 6 0 R.length 1] ++ List.replicate 81 .top ++ [.slice 6 0 R.length 1, .int .i64 (R.length : Int), .int .i64 (x.j : Int)] ++ List.replicate 57 .top, mH x.s ++ [lC t n, sC t n me sp ks, iC ks, iC ks, iC R]), ok := okG2 R xs, mu := fun x => R.length - x.j, keep := [5, 6, 8, 10, 11, 93, 94, 95] }
def GH3 (t n me sp : Int) (R ks xs : List Int) : Hint Ob := { X := G2, st := fun x => (List.replicate 5 .top ++ [.ptr 0 0, .ptr 2 0, .top, .ptr 3 0, .top, .top, .slice 5 0 R.length 1] ++ List.replicate 6 .top ++ [.int .i64 (x.j : Int)] ++ List.replicate 134 .top, mH x.s ++ [lC t n, sC t n me sp ks, iC ks, iC R]), ok := okG3 t n xs, mu := fun x => t.toNat - x.j, keep := [5, 6, 8, 11, 18] }
def GH4 (t n : Int) (R xs : List Int) : Hint Ob := { X := G2, st := fun x => (List.replicate 5 .top ++ [.ptr 0 0, .ptr 2 0] ++ List.replicate 133 .top ++ [.slice 3 0 R.length 1, .int .i64 (R.length : Int), .int .i64 (x.j : Int)] ++ List.replicate 10 .top, mH x.s ++ [lC t n, iC R]), ok := okG4 R xs, mu := fun x => R.length - x.j, keep := [5, 6, 140, 141, 142] }
noncomputable def GP (t n me sp : Int) (R ks xs0 ys xs2 xs4 : List Int) : FuncId → Nat → Option (Plan Ob) := fun f k => if f = 3 then (if k = 12 then some (.states (GH1 t n me sp R xs0 ys)) else if k = 22 then some (.states (GH2 t n me sp R ks xs2)) else if k = 28 then some (.states (GH3 t n me sp R ks xs2)) else some (.states (GH4 t n R xs4))) else LL f k
def gvVC (t n me sp : Int) (ws ns : List Int) (T N ME SP : Int) (R ks xs0 ys xs2 xs4 : List Int) : Prop := True ∧ bif ilt 60 (↑(List.length ws) : Int) then AVal.bool true = AVal.bool true else bif ilt 40 (↑(List.length ns) : Int) then AVal.bool true = AVal.bool true else (((0 : Int) ≤ t ∧ t ≤ (255 : Int)) ∧ (0 : Int) ≤ n ∧ n ≤ (255 : Int)) ∧ ((((0 : Int) ≤ me ∧ me ≤ (255 : Int)) ∧ ((0 : Int) ≤ sp ∧ sp ≤ (255 : Int)) ∧ ((1 : Int) ≤ thr t ∧ thr t ≤ (1000 : Int)) ∧ ((1 : Int) ≤ nod n ∧ nod n ≤ (1000 : Int)) ∧ List.length ns ≤ (100000 : Nat)) ∧ ∀ (v : Int), List.Mem v ns → (0 : Int) ≤ v ∧ v ≤ (255 : Int)) ∧ (0 + List.length (mkL (nod n) (Int.tmod sp (nod n + 1)) ns) ≤ List.length (mkL (nod n) (Int.tmod sp (nod n + 1)) ns) ∧ 0 + List.length (mkL (nod n) (Int.tmod sp (nod n + 1)) ns) ≤ (4294967296 : Nat)) ∧ okSt (GH1 T N ME SP R xs0 ys) (Hint.ok (GH1 T N ME SP R xs0 ys)) [AVal.top, AVal.top, AVal.top, AVal.top, AVal.top, AVal.ptr 0 0, AVal.ptr 2 0, AVal.top, AVal.ptr 3 0, AVal.top, AVal.slice 5 0 0 1, AVal.slice 6 0 (0 + List.length (mkL (nod n) (Int.tmod sp (nod n + 1)) ns)) 1, AVal.top, AVal.top, AVal.top, AVal.top, AVal.top, AVal.top, AVal.top, AVal.top, AVal.top, AVal.top, AVal.top, AVal.top, AVal.top, AVal.top, AVal.top, AVal.top, AVal.top, AVal.top, AVal.top, AVal.top, AVal.top, AVal.top, AVal.top, AVal.top, AVal.top, AVal.top, AVal.top, AVal.top, AVal.top, AVal.top, AVal.top, AVal.top, AVal.top, AVal.top, AVal.top, AVal.top, AVal.top, AVal.top, AVal.top, AVal.top, AVal.top, AVal.slice 6 0 (0 + List.length (mkL (nod n) (Int.tmod sp (nod n + 1)) ns)) 1, AVal.int .i64 (↑(0 + List.length (mkL (nod n) (Int.tmod sp (nod n + 1)) ns)) : Int), AVal.int .i64 0, AVal.top, AVal.top, AVal.top, AVal.top, AVal.top, AVal.top, AVal.top, AVal.top, AVal.top, AVal.top, AVal.top, AVal.top, AVal.top, AVal.top, AVal.top, AVal.top, AVal.top, AVal.top, AVal.top, AVal.top, AVal.top, AVal.top, AVal.top, AVal.top, AVal.top, AVal.top, AVal.top, AVal.top, AVal.top, AVal.top, AVal.top, AVal.top, AVal.top, AVal.top, AVal.top, AVal.top, AVal.top, AVal.top, AVal.top, AVal.top, AVal.top, AVal.top, AVal.top, AVal.top, AVal.top, AVal.top, AVal.top, AVal.top, AVal.top, AVal.top, AVal.top, AVal.top, AVal.top, AVal.top, AVal.top, AVal.top, AVal.top, AVal.top, AVal.top, AVal.top, AVal.top, AVal.top, AVal.top, AVal.top, AVal.top, AVal.top, AVal.top, AVal.top, AVal.top, AVal.top, AVal.top, AVal.top, AVal.top, AVal.top, AVal.top, AVal.top, AVal.top, AVal.top, AVal.top, AVal.top, AVal.top, AVal.top, AVal.top, AVal.top, AVal.top, AVal.top, AVal.top, AVal.top, AVal.top, AVal.top, AVal.top, AVal.top, AVal.top, AVal.top, AVal.top, AVal.top, AVal.top] [some (Entry.cells [AVal.int .i64 (thr t), AVal.int .i64 (nod n), AVal.slice 1 0 (List.length (memW (thr t) (nod n) ws)) 1, AVal.int .i64 0, AVal.int .i64 0, AVal.int .i64 0, AVal.int .u64 0, AVal.int .u64 0, AVal.bool false]), some (Entry.ints (some .u64) (memW (thr t) (nod n) ws)), some (Entry.cells [AVal.int .i64 (thr t), AVal.int .i64 (nod n)]), some (Entry.cells [AVal.int .i64 (thr t), AVal.int .i64 (nod n), AVal.int .i64 (Int.tmod me (thr t)), AVal.int .i64 (Int.tmod sp (nod n + 1)), AVal.slice 4 0 (List.length (mkL (nod n) (Int.tmod sp (nod n + 1)) ns)) 1]), some (Entry.ints (some .i64) (mkL (nod n) (Int.tmod sp (nod n + 1)) ns)), some (Entry.ints (some .i64) []), some (Entry.ints (some .i64) ([] ++ List.take (List.length (mkL (nod n) (Int.tmod sp (nod n + 1)) ns)) (List.drop 0 (mkL (nod n) (Int.tmod sp (nod n + 1)) ns))))] ∧ ∀ (x : G1), okG1 T N R xs0 ys x → bif ilt (↑x.1 : Int) (↑(List.length R) : Int) then ((0 : Int) ≤ (↑x.1 : Int) ∧ (↑x.1 : Int) < (↑(List.length R) : Int)) ∧ 0 + Int.toNat (↑x.1 : Int) * (1 : Nat) < List.length R ∧ (((0 : Int) ≤ T ∧ T ≤ (100000 : Int)) ∧ ((0 : Int) ≤ N ∧ N ≤ (100000 : Int)) ∧ (-1099511627776 : Int) ≤ List.getD R (0 + Int.toNat (↑x.1 : Int) * 1) 0 ∧ List.getD R (0 + Int.toNat (↑x.1 : Int) * 1) (0 : Int) ≤ (1099511627776 : Int)) ∧ (List.length (G1.s x).3 = List.length (G1.s x).3 ∧ (0 : Int) ≤ (G1.s x).4 ∧ (G1.s x).4 ≤ (4611686018427387904 : Int)) ∧ (List.length (putI (G1.s x).3 (N + 4 + List.getD R (0 + Int.toNat (↑x.1 : Int) * 1) 0) 1) = List.length (putI (G1.s x).3 (N + 4 + List.getD R (0 + Int.toNat (↑x.1 : Int) * 1) 0) 1) ∧ ((1 : Int) ≤ T ∧ T ≤ (8 : Int)) ∧ ((1 : Int) ≤ N ∧ N ≤ (1000 : Int)) ∧ (1 : Int) ≤ List.getD R (0 + Int.toNat (↑x.1 : Int) * 1) 0 ∧ List.getD R (0 + Int.toNat (↑x.1 : Int) * 1) (0 : Int) ≤ (1000 : Int)) ∧ bif inY (slotsV (putI (G1.s x).3 (N + 4 + List.getD R (0 + Int.toNat (↑x.1 : Int) * 1) 0) 1) N (Int.toNat (2 * T))) (List.getD R (0 + Int.toNat (↑x.1 : Int) * 1) 0) then (0 = 0 ∧ List.length x.3 = List.length x.3 ∧ 1 = 1 ∧ List.length x.3 + (1 : Nat) ≤ (4294967296 : Nat)) ∧ okSt (GH1 T N ME SP R xs0 ys) (fun x' => Hint.ok (GH1 T N ME SP R xs0 ys) x' ∧ Hint.mu (GH1 T N ME SP R xs0 ys) x' < Hint.mu (GH1 T N ME SP R xs0 ys) x) [AVal.top, AVal.top, AVal.top, AVal.top, AVal.top, AVal.ptr 0 0, AVal.ptr 2 0, AVal.top, AVal.ptr 3 0, AVal.top, AVal.slice 5 0 (List.length x.3 + 1) 1, AVal.slice 6 0 (List.length R) 1, AVal.top, AVal.top, AVal.top, AVal.top, AVal.top, AVal.top, AVal.top, AVal.top, AVal.top, AVal.top, AVal.top, AVal.top, AVal.top, AVal.top, AVal.top, AVal.top, AVal.top, AVal.top, AVal.top, AVal.top, AVal.top, AVal.top, AVal.top, AVal.top, AVal.top, AVal.top, AVal.top, AVal.top, AVal.top, AVal.top, AVal.top, AVal.top, AVal.top, AVal.top, AVal.top, AVal.top, AVal.top, AVal.top, AVal.top, AVal.top, AVal.top, AVal.slice 6 0 (List.length R) 1, AVal.int .i64 (↑(List.length R) : Int), AVal.int .i64 (W ((↑x.1 : Int) + 1)), AVal.top, AVal.top, AVal.top, AVal.top, AVal.top, AVal.top, AVal.top, AVal.top, AVal.top, AVal.top, AVal.top, AVal.top, AVal.top, AVal.top, AVal.top, AVal.top, AVal.top, AVal.top, AVal.top, AVal.top, AVal.top, AVal.top, AVal.top, AVal.top, AVal.top, AVal.top, AVal.top, AVal.top, AVal.top, AVal.top, AVal.top, AVal.top, AVal.top, AVal.top, AVal.top, AVal.top, AVal.top, AVal.top, AVal.top, AVal.top, AVal.top, AVal.top, AVal.top, AVal.top, AVal.top, AVal.top, AVal.top, AVal.top, AVal.top, AVal.top, AVal.top, AVal.top, AVal.top, AVal.top, AVal.top, AVal.top, AVal.top, AVal.top, AVal.top, AVal.top, AVal.top, AVal.top, AVal.top, AVal.top, AVal.top, AVal.top, AVal.top, AVal.top, AVal.top, AVal.top, AVal.top, AVal.top, AVal.top, AVal.top, AVal.top, AVal.top, AVal.top, AVal.top, AVal.top, AVal.top, AVal.top, AVal.top, AVal.top, AVal.top, AVal.top, AVal.top, AVal.top, AVal.top, AVal.top, AVal.top, AVal.top, AVal.top, AVal.top, AVal.top, AVal.top, AVal.top, AVal.top] [some (Entry.cells [AVal.int .i64 (G1.s x).1, AVal.int .i64 (G1.s x).2, AVal.slice 1 0 (List.length (putI (G1.s x).3 (N + 4 + List.getD R (0 + Int.toNat (↑x.1 : Int) * 1) 0) 1)) 1, AVal.int .i64 ((G1.s x).4 + 1), AVal.int .i64 2, AVal.int .i64 (N + 4 + List.getD R (0 + Int.toNat (↑x.1 : Int) * 1) 0), AVal.int .u64 (peek (G1.s x).3 (N + 4 + List.getD R (0 + Int.toNat (↑x.1 : Int) * 1) 0)), AVal.int .u64 (bif inB (G1.s x).3 (N + 4 + List.getD R (0 + Int.toNat (↑x.1 : Int) * 1) 0) then 1 else 0), AVal.bool (inB (G1.s x).3 (N + 4 + List.getD R (0 + Int.toNat (↑x.1 : Int) * 1) 0))]), some (Entry.ints (some .u64) (putI (G1.s x).3 (N + 4 + List.getD R (0 + Int.toNat (↑x.1 : Int) * 1) 0) 1)), some (Entry.cells [AVal.int .i64 T, AVal.int .i64 N]), some (Entry.cells [AVal.int .i64 T, AVal.int .i64 N, AVal.int .i64 ME, AVal.int .i64 SP, AVal.slice 4 0 (List.length R) 1]), some (Entry.ints (some .i64) R), some (Entry.ints (some .i64) (x.3 ++ [List.getD R (0 + Int.toNat (↑x.1 : Int) * 1) 0])), some (Entry.ints (some .i64) R)] else okSt (GH1 T N ME SP R xs0 ys) (fun x' => Hint.ok (GH1 T N ME SP R xs0 ys) x' ∧ Hint.mu (GH1 T N ME SP R xs0 ys) x' < Hint.mu (GH1 T N ME SP R xs0 ys) x) [AVal.top, AVal.top, AVal.top, AVal.top, AVal.top, AVal.ptr 0 0, AVal.ptr 2 0, AVal.top, AVal.ptr 3 0, AVal.top, AVal.slice 5 0 (List.length x.3) 1, AVal.slice 6 0 (List.length R) 1, AVal.top, AVal.top, AVal.top, AVal.top, AVal.top, AVal.top, AVal.top, AVal.top, AVal.top, AVal.top, AVal.top, AVal.top, AVal.top, AVal.top, AVal.top, AVal.top, AVal.top, AVal.top, AVal.top, AVal.top, AVal.top, AVal.top, AVal.top, AVal.top, AVal.top, AVal.top, AVal.top, AVal.top, AVal.top, AVal.top, AVal.top, AVal.top, AVal.top, AVal.top, AVal.top, AVal.top, AVal.top, AVal.top, AVal.top, AVal.top, AVal.top, AVal.slice 6 0 (List.length R) 1, AVal.int .i64 (↑(List.length R) : Int), AVal.int .i64 (W ((↑x.1 : Int) + 1)), AVal.top, AVal.top, AVal.top, AVal.top, AVal.top, AVal.top, AVal.top, AVal.top, AVal.top, AVal.top, AVal.top, AVal.top, AVal.top, AVal.top, AVal.top, AVal.top, AVal.top, AVal.top, AVal.top, AVal.top, AVal.top, AVal.top, AVal.top, AVal.top, AVal.top, AVal.top, AVal.top, AVal.top, AVal.top, AVal.top, AVal.top, AVal.top, AVal.top, AVal.top, AVal.top, AVal.top, AVal.top, AVal.top, AVal.top, AVal.top, AVal.top, AVal.top, AVal.top, AVal.top, AVal.top, AVal.top, AVal.top, AVal.top, AVal.top, AVal.top, AVal.top, AVal.top, AVal.top, AVal.top, AVal.top, AVal.top, AVal.top, AVal.top, AVal.top, AVal.top, AVal.top, AVal.top, AVal.top, AVal.top, AVal.top, AVal.top, AVal.top, AVal.top, AVal.top, AVal.top, AVal.top, AVal.top, AVal.top, AVal.top, AVal.top, AVal.top, AVal.top, AVal.top, AVal.top, AVal.top, AVal.top, AVal.top, AVal.top, AVal.top, AVal.top, AVal.top, AVal.top, AVal.top, AVal.top, AVal.top, AVal.top, AVal.top, AVal.top, AVal.top, AVal.top, AVal.top, AVal.top] [some (Entry.cells [AVal.int .i64 (G1.s x).1, AVal.int .i64 (G1.s x).2, AVal.slice 1 0 (List.length (putI (G1.s x).3 (N + 4 + List.getD R (0 + Int.toNat (↑x.1 : Int) * 1) 0) 1)) 1, AVal.int .i64 ((G1.s x).4 + 1), AVal.int .i64 2, AVal.int .i64 (N + 4 + List.getD R (0 + Int.toNat (↑x.1 : Int) * 1) 0), AVal.int .u64 (peek (G1.s x).3 (N + 4 + List.getD R (0 + Int.toNat (↑x.1 : Int) * 1) 0)), AVal.int .u64 (bif inB (G1.s x).3 (N + 4 + List.getD R (0 + Int.toNat (↑x.1 : Int) * 1) 0) then 1 else 0), AVal.bool (inB (G1.s x).3 (N + 4 + List.getD R (0 + Int.toNat (↑x.1 : Int) * 1) 0))]), some (Entry.ints (some .u64) (putI (G1.s x).3 (N + 4 + List.getD R (0 + Int.toNat (↑x.1 : Int) * 1) 0) 1)), some (Entry.cells [AVal.int .i64 T, AVal.int .i64 N]), some (Entry.cells [AVal.int .i64 T, AVal.int .i64 N, AVal.int .i64 ME, AVal.int .i64 SP, AVal.slice 4 0 (List.length R) 1]), some (Entry.ints (some .i64) R), some (Entry.ints (some .i64) x.3), some (Entry.ints (some .i64) R)] else ((List.length (G1.s x).3 = List.length (G1.s x).3 ∧ List.length R = List.length R) ∧ ((1 : Int) ≤ T ∧ T ≤ (8 : Int)) ∧ ((1 : Int) ≤ N ∧ N ≤ (1000 : Int)) ∧ List.length R ≤ (60 : Nat) ∧ (∀ (r : Int), List.Mem r R → (1 : Int) ≤ r ∧ r ≤ N) ∧ okW (G1.s x).3 ∧ (0 : Int) ≤ (G1.s x).4 ∧ (G1.s x).4 ≤ (900000 : Int)) ∧ ∀ (x_1 : Nat × MS), (Prod.snd x_1).3 = backAll N (G1.s x).3 (freedY (slotsV (G1.s x).3 N (Int.toNat (2 * T))) R) ∧ (Prod.snd x_1).4 = (G1.s x).4 + (↑x_1.1 : Int) ∧ x_1.1 ≤ (100 : Nat) ∧ (Prod.snd x_1).1 = (G1.s x).1 ∧ (Prod.snd x_1).2 = (G1.s x).2 → ((List.length (keptY (slotsV (G1.s x).3 N (Int.toNat (2 * T))) R) = List.length (keptY (slotsV (G1.s x).3 N (Int.toNat (2 * T))) R) ∧ List.length x.3 = List.length x.3) ∧ List.length (keptY (slotsV (G1.s x).3 N (Int.toNat (2 * T))) R) ≤ (4294967296 : Nat)) ∧ bif !sameB (keptY (slotsV (G1.s x).3 N (Int.toNat (2 * T))) R) x.3 then AVal.bool false = AVal.bool true else okSt (GH2 T N ME SP R ks xs2) (Hint.ok (GH2 T N ME SP R ks xs2)) [AVal.top, AVal.top, AVal.top, AVal.top, AVal.top, AVal.ptr 0 0, AVal.ptr 2 0, AVal.top, AVal.ptr 3 0, AVal.top, AVal.slice 5 0 (List.length x.3) 1, AVal.slice 6 0 (List.length R) 1, AVal.top, AVal.top, AVal.top, AVal.top, AVal.top, AVal.top, AVal.top, AVal.top, AVal.top, AVal.top, AVal.top, AVal.top, AVal.top, AVal.top, AVal.top, AVal.top, AVal.top, AVal.top, AVal.top, AVal.top, AVal.top, AVal.top, AVal.top, AVal.top, AVal.top, AVal.top, AVal.top, AVal.top, AVal.top, AVal.top, AVal.top, AVal.top, AVal.top, AVal.top, AVal.top, AVal.top, AVal.top, AVal.top, AVal.top, AVal.top, AVal.top, AVal.top, AVal.top, AVal.top, AVal.top, AVal.top, AVal.top, AVal.top, AVal.top, AVal.top, AVal.top, AVal.top, AVal.top, AVal.top, AVal.top, AVal.top, AVal.top, AVal.top, AVal.top, AVal.top, AVal.top, AVal.top, AVal.top, AVal.top, AVal.top, AVal.top, AVal.top, AVal.top, AVal.top, AVal.top, AVal.top, AVal.top, AVal.top, AVal.top, AVal.top, AVal.top, AVal.top, AVal.top, AVal.top, AVal.top, AVal.top, AVal.slice 6 0 (List.length R) 1, AVal.int .i64 (↑(List.length R) : Int), AVal.int .i64 0, AVal.top, AVal.top, AVal.top, AVal.top, AVal.top, AVal.top, AVal.top, AVal.top, AVal.top, AVal.top, AVal.top, AVal.top, AVal.top, AVal.top, AVal.top, AVal.top, AVal.top, AVal.top, AVal.top, AVal.top, AVal.top, AVal.top, AVal.top, AVal.top, AVal.top, AVal.top, AVal.top, AVal.top, AVal.top, AVal.top, AVal.top, AVal.top, AVal.top, AVal.top, AVal.top, AVal.top, AVal.top, AVal.top, AVal.top, AVal.top, AVal.top, AVal.top, AVal.top, AVal.top, AVal.top, AVal.top, AVal.top, AVal.top, AVal.top, AVal.top, AVal.top, AVal.top, AVal.top, AVal.top, AVal.top, AVal.top, AVal.top] [some (Entry.cells [AVal.int .i64 (Prod.snd x_1).1, AVal.int .i64 (Prod.snd x_1).2, AVal.slice 1 0 (List.length (Prod.snd x_1).3) 1, AVal.int .i64 (Prod.snd x_1).4, AVal.int .i64 (Prod.snd x_1).5, AVal.int .i64 (Prod.snd x_1).6, AVal.int .u64 (Prod.snd x_1).7, AVal.int .u64 (Prod.snd x_1).8, AVal.bool (Prod.snd x_1).9]), some (Entry.ints (some .u64) (Prod.snd x_1).3), some (Entry.cells [AVal.int .i64 T, AVal.int .i64 N]), some (Entry.cells [AVal.int .i64 T, AVal.int .i64 N, AVal.int .i64 ME, AVal.int .i64 SP, AVal.slice 4 0 (List.length (keptY (slotsV (G1.s x).3 N (Int.toNat (2 * T))) R)) 1]), some (Entry.ints (some .i64) (keptY (slotsV (G1.s x).3 N (Int.toNat (2 * T))) R)), some (Entry.ints (some .i64) x.3), some (Entry.ints (some .i64) R)] ∧ ∀ (x : G2), okG2 R xs2 x → bif ilt (↑x.1 : Int) (↑(List.length R) : Int) then ((0 : Int) ≤ (↑x.1 : Int) ∧ (↑x.1 : Int) < (↑(List.length R) : Int)) ∧ 0 + Int.toNat (↑x.1 : Int) * (1 : Nat) < List.length R ∧ (List.length (G2.s x).3 = List.length (G2.s x).3 ∧ ((1 : Int) ≤ T ∧ T ≤ (8 : Int)) ∧ ((1 : Int) ≤ N ∧ N ≤ (1000 : Int)) ∧ (1 : Int) ≤ List.getD R (0 + Int.toNat (↑x.1 : Int) * 1) 0 ∧ List.getD R (0 + Int.toNat (↑x.1 : Int) * 1) (0 : Int) ≤ N) ∧ (List.length ks = List.length ks ∧ List.length ks ≤ (4294967296 : Nat)) ∧ bif !bif tkB (G2.s x).3 N (List.getD R (0 + Int.toNat (↑x.1 : Int) * 1) 0) then hasB ks (List.getD R (0 + Int.toNat (↑x.1 : Int) * 1) 0) else !hasB ks (List.getD R (0 + Int.toNat (↑x.1 : Int) * 1) 0) then AVal.bool false = AVal.bool true else okSt (GH2 T N ME SP R ks xs2) (fun x' => Hint.ok (GH2 T N ME SP R ks xs2) x' ∧ Hint.mu (GH2 T N ME SP R ks xs2) x' < Hint.mu (GH2 T N ME SP R ks xs2) x) [AVal.top, AVal.top, AVal.top, AVal.top, AVal.top, AVal.ptr 0 0, AVal.ptr 2 0, AVal.top, AVal.ptr 3 0, AVal.top, AVal.slice 5 0 (List.length ks) 1, AVal.slice 6 0 (List.length R) 1, AVal.top, AVal.top, AVal.top, AVal.top, AVal.top, AVal.top, AVal.top, AVal.top, AVal.top, AVal.top, AVal.top, AVal.top, AVal.top, AVal.top, AVal.top, AVal.top, AVal.top, AVal.top, AVal.top, AVal.top, AVal.top, AVal.top, AVal.top, AVal.top, AVal.top, AVal.top, AVal.top, AVal.top, AVal.top, AVal.top, AVal.top, AVal.top, AVal.top, AVal.top, AVal.top, AVal.top, AVal.top, AVal.top, AVal.top, AVal.top, AVal.top, AVal.top, AVal.top, AVal.top, AVal.top, AVal.top, AVal.top, AVal.top, AVal.top, AVal.top, AVal.top, AVal.top, AVal.top, AVal.top, AVal.top, AVal.top, AVal.top, AVal.top, AVal.top, AVal.top, AVal.top, AVal.top, AVal.top, AVal.top, AVal.top, AVal.top, AVal.top, AVal.top, AVal.top, AVal.top, AVal.top, AVal.top, AVal.top, AVal.top, AVal.top, AVal.top, AVal.top, AVal.top, AVal.top, AVal.top, AVal.top, AVal.slice 6 0 (List.length R) 1, AVal.int .i64 (↑(List.length R) : Int), AVal.int .i64 (W ((↑x.1 : Int) + 1)), AVal.top, AVal.top, AVal.top, AVal.top, AVal.top, AVal.top, AVal.top, AVal.top, AVal.top, AVal.top, AVal.top, AVal.top, AVal.top, AVal.top, AVal.top, AVal.top, AVal.top, AVal.top, AVal.top, AVal.top, AVal.top, AVal.top, AVal.top, AVal.top, AVal.top, AVal.top, AVal.top, AVal.top, AVal.top, AVal.top, AVal.top, AVal.top, AVal.top, AVal.top, AVal.top, AVal.top, AVal.top, AVal.top, AVal.top, AVal.top, AVal.top, AVal.top, AVal.top, AVal.top, AVal.top, AVal.top, AVal.top, AVal.top, AVal.top, AVal.top, AVal.top, AVal.top, AVal.top, AVal.top, AVal.top, AVal.top, AVal.top] [some (Entry.cells [AVal.int .i64 (G2.s x).1, AVal.int .i64 (G2.s x).2, AVal.slice 1 0 (List.length (G2.s x).3) 1, AVal.int .i64 (G2.s x).4, AVal.int .i64 (G2.s x).5, AVal.int .i64 (G2.s x).6, AVal.int .u64 (G2.s x).7, AVal.int .u64 (G2.s x).8, AVal.bool (G2.s x).9]), some (Entry.ints (some .u64) (G2.s x).3), some (Entry.cells [AVal.int .i64 T, AVal.int .i64 N]), some (Entry.cells [AVal.int .i64 T, AVal.int .i64 N, AVal.int .i64 ME, AVal.int .i64 SP, AVal.slice 4 0 (List.length ks) 1]), some (Entry.ints (some .i64) ks), some (Entry.ints (some .i64) ks), some (Entry.ints (some .i64) R)] else okSt (GH3 T N ME SP R ks xs2) (Hint.ok (GH3 T N ME SP R ks xs2)) [AVal.top, AVal.top, AVal.top, AVal.top, AVal.top, AVal.ptr 0 0, AVal.ptr 2 0, AVal.top, AVal.ptr 3 0, AVal.top, AVal.top, AVal.slice 5 0 (List.length R) 1, AVal.top, AVal.top, AVal.top, AVal.top, AVal.top, AVal.top, AVal.int .i64 0, AVal.top, AVal.top, AVal.top, AVal.top, AVal.top, AVal.top, AVal.top, AVal.top, AVal.top, AVal.top, AVal.top, AVal.top, AVal.top, AVal.top, AVal.top, AVal.top, AVal.top, AVal.top, AVal.top, AVal.top, AVal.top, AVal.top, AVal.top, AVal.top, AVal.top, AVal.top, AVal.top, AVal.top, AVal.top, AVal.top, AVal.top, AVal.top, AVal.top, AVal.top, AVal.top, AVal.top, AVal.top, AVal.top, AVal.top, AVal.top, AVal.top, AVal.top, AVal.top, AVal.top, AVal.top, AVal.top, AVal.top, AVal.top, AVal.top, AVal.top, AVal.top, AVal.top, AVal.top, AVal.top, AVal.top, AVal.top, AVal.top, AVal.top, AVal.top, AVal.top, AVal.top, AVal.top, AVal.top, AVal.top, AVal.top, AVal.top, AVal.top, AVal.top, AVal.top, AVal.top, AVal.top, AVal.top, AVal.top, AVal.top, AVal.top, AVal.top, AVal.top, AVal.top, AVal.top, AVal.top, AVal.top, AVal.top, AVal.top, AVal.top, AVal.top, AVal.top, AVal.top, AVal.top, AVal.top, AVal.top, AVal.top, AVal.top, AVal.top, AVal.top, AVal.top, AVal.top, AVal.top, AVal.top, AVal.top, AVal.top, AVal.top, AVal.top, AVal.top, AVal.top, AVal.top, AVal.top, AVal.top, AVal.top, AVal.top, AVal.top, AVal.top, AVal.top, AVal.top, AVal.top, AVal.top, AVal.top, AVal.top, AVal.top, AVal.top, AVal.top, AVal.top, AVal.top, AVal.top, AVal.top, AVal.top, AVal.top, AVal.top, AVal.top, AVal.top, AVal.top, AVal.top, AVal.top, AVal.top, AVal.top] [some (Entry.cells [AVal.int .i64 (G2.s x).1, AVal.int .i64 (G2.s x).2, AVal.slice 1 0 (List.length (G2.s x).3) 1, AVal.int .i64 (G2.s x).4, AVal.int .i64 (G2.s x).5, AVal.int .i64 (G2.s x).6, AVal.int .u64 (G2.s x).7, AVal.int .u64 (G2.s x).8, AVal.bool (G2.s x).9]), some (Entry.ints (some .u64) (G2.s x).3), some (Entry.cells [AVal.int .i64 T, AVal.int .i64 N]), some (Entry.cells [AVal.int .i64 T, AVal.int .i64 N, AVal.int .i64 ME, AVal.int .i64 SP, AVal.slice 4 0 (List.length ks) 1]), some (Entry.ints (some .i64) ks), some (Entry.ints (some .i64) R)] ∧ ∀ (x : G2), okG3 T N xs2 x → bif ilt (↑x.1 : Int) T then (List.length (G2.s x).3 = List.length (G2.s x).3 ∧ ((1 : Int) ≤ T ∧ T ≤ (8 : Int)) ∧ ((1 : Int) ≤ N ∧ N ≤ (1000 : Int)) ∧ ((0 : Int) ≤ (↑x.1 : Int) ∧ (↑x.1 : Int) ≤ (100 : Int)) ∧ (0 : Int) ≤ (G2.s x).4 ∧ (G2.s x).4 ≤ (1000000 : Int)) ∧ okSt (GH3 T N ME SP R ks xs2) (fun x' => Hint.ok (GH3 T N ME SP R ks xs2) x' ∧ Hint.mu (GH3 T N ME SP R ks xs2) x' < Hint.mu (GH3 T N ME SP R ks xs2) x) [AVal.top, AVal.top, AVal.top, AVal.top, AVal.top, AVal.ptr 0 0, AVal.ptr 2 0, AVal.top, AVal.ptr 3 0, AVal.top, AVal.top, AVal.slice 5 0 (List.length R) 1, AVal.top, AVal.top, AVal.top, AVal.top, AVal.top, AVal.top, AVal.int .i64 (W ((↑x.1 : Int) + 1)), AVal.top, AVal.top, AVal.top, AVal.top, AVal.top, AVal.top, AVal.top, AVal.top, AVal.top, AVal.top, AVal.top, AVal.top, AVal.top, AVal.top, AVal.top, AVal.top, AVal.top, AVal.top, AVal.top, AVal.top, AVal.top, AVal.top, AVal.top, AVal.top, AVal.top, AVal.top, AVal.top, AVal.top, AVal.top, AVal.top, AVal.top, AVal.top, AVal.top, AVal.top, AVal.top, AVal.top, AVal.top, AVal.top, AVal.top, AVal.top, AVal.top, AVal.top, AVal.top, AVal.top, AVal.top, AVal.top, AVal.top, AVal.top, AVal.top, AVal.top, AVal.top, AVal.top, AVal.top, AVal.top, AVal.top, AVal.top, AVal.top, AVal.top, AVal.top, AVal.top, AVal.top, AVal.top, AVal.top, AVal.top, AVal.top, AVal.top, AVal.top, AVal.top, AVal.top, AVal.top, AVal.top, AVal.top, AVal.top, AVal.top, AVal.top, AVal.top, AVal.top, AVal.top, AVal.top, AVal.top, AVal.top, AVal.top, AVal.top, AVal.top, AVal.top, AVal.top, AVal.top, AVal.top, AVal.top, AVal.top, AVal.top, AVal.top, AVal.top, AVal.top, AVal.top, AVal.top, AVal.top, AVal.top, AVal.top, AVal.top, AVal.top, AVal.top, AVal.top, AVal.top, AVal.top, AVal.top, AVal.top, AVal.top, AVal.top, AVal.top, AVal.top, AVal.top, AVal.top, AVal.top, AVal.top, AVal.top, AVal.top, AVal.top, AVal.top, AVal.top, AVal.top, AVal.top, AVal.top, AVal.top, AVal.top, AVal.top, AVal.top, AVal.top, AVal.top, AVal.top, AVal.top, AVal.top, AVal.top, AVal.top] [some (Entry.cells [AVal.int .i64 (G2.s x).1, AVal.int .i64 (G2.s x).2, AVal.slice 1 0 (List.length (putI (putI (G2.s x).3 (2 * N + 5 + 2 * (↑x.1 : Int) + 0) 0) (2 * N + 5 + 2 * (↑x.1 : Int) + 1) 0)) 1, AVal.int .i64 ((G2.s x).4 + 1 + 1), AVal.int .i64 2, AVal.int .i64 (2 * N + 5 + 2 * (↑x.1 : Int) + 1), AVal.int .u64 (peek (putI (G2.s x).3 (2 * N + 5 + 2 * (↑x.1 : Int) + 0) 0) (2 * N + 5 + 2 * (↑x.1 : Int) + 1)), AVal.int .u64 (bif inB (putI (G2.s x).3 (2 * N + 5 + 2 * (↑x.1 : Int) + 0) 0) (2 * N + 5 + 2 * (↑x.1 : Int) + 1) then 0 else 0), AVal.bool (inB (putI (G2.s x).3 (2 * N + 5 + 2 * (↑x.1 : Int) + 0) 0) (2 * N + 5 + 2 * (↑x.1 : Int) + 1))]), some (Entry.ints (some .u64) (putI (putI (G2.s x).3 (2 * N + 5 + 2 * (↑x.1 : Int) + 0) 0) (2 * N + 5 + 2 * (↑x.1 : Int) + 1) 0)), some (Entry.cells [AVal.int .i64 T, AVal.int .i64 N]), some (Entry.cells [AVal.int .i64 T, AVal.int .i64 N, AVal.int .i64 ME, AVal.int .i64 SP, AVal.slice 4 0 (List.length ks) 1]), some (Entry.ints (some .i64) ks), some (Entry.ints (some .i64) R)] else ((List.length (G2.s x).3 = List.length (G2.s x).3 ∧ List.length ks = List.length ks) ∧ ((1 : Int) ≤ T ∧ T ≤ (8 : Int)) ∧ ((1 : Int) ≤ N ∧ N ≤ (1000 : Int)) ∧ List.length ks ≤ (60 : Nat) ∧ (∀ (r : Int), List.Mem r ks → (1 : Int) ≤ r ∧ r ≤ N) ∧ okW (G2.s x).3 ∧ (0 : Int) ≤ (G2.s x).4 ∧ (G2.s x).4 ≤ (900000 : Int)) ∧ ∀ (x_2 : Nat × MS), (Prod.snd x_2).3 = backAll N (G2.s x).3 (freedY (slotsV (G2.s x).3 N (Int.toNat (2 * T))) ks) ∧ (Prod.snd x_2).4 = (G2.s x).4 + (↑x_2.1 : Int) ∧ x_2.1 ≤ (100 : Nat) ∧ (Prod.snd x_2).1 = (G2.s x).1 ∧ (Prod.snd x_2).2 = (G2.s x).2 → bif !ieq (↑(List.length (keptY (slotsV (G2.s x).3 N (Int.toNat (2 * T))) ks)) : Int) 0 then AVal.bool false = AVal.bool true else okSt (GH4 T N R xs4) (Hint.ok (GH4 T N R xs4)) [AVal.top, AVal.top, AVal.top, AVal.top, AVal.top, AVal.ptr 0 0, AVal.ptr 2 0, AVal.top, AVal.top, AVal.top, AVal.top, AVal.top, AVal.top, AVal.top, AVal.top, AVal.top, AVal.top, AVal.top, AVal.top, AVal.top, AVal.top, AVal.top, AVal.top, AVal.top, AVal.top, AVal.top, AVal.top, AVal.top, AVal.top, AVal.top, AVal.top, AVal.top, AVal.top, AVal.top, AVal.top, AVal.top, AVal.top, AVal.top, AVal.top, AVal.top, AVal.top, AVal.top, AVal.top, AVal.top, AVal.top, AVal.top, AVal.top, AVal.top, AVal.top, AVal.top, AVal.top, AVal.top, AVal.top, AVal.top, AVal.top, AVal.top, AVal.top, AVal.top, AVal.top, AVal.top, AVal.top, AVal.top, AVal.top, AVal.top, AVal.top, AVal.top, AVal.top, AVal.top, AVal.top, AVal.top, AVal.top, AVal.top, AVal.top, AVal.top, AVal.top, AVal.top, AVal.top, AVal.top, AVal.top, AVal.top, AVal.top, AVal.top, AVal.top, AVal.top, AVal.top, AVal.top, AVal.top, AVal.top, AVal.top, AVal.top, AVal.top, AVal.top, AVal.top, AVal.top, AVal.top, AVal.top, AVal.top, AVal.top, AVal.top, AVal.top, AVal.top, AVal.top, AVal.top, AVal.top, AVal.top, AVal.top, AVal.top, AVal.top, AVal.top, AVal.top, AVal.top, AVal.top, AVal.top, AVal.top, AVal.top, AVal.top, AVal.top, AVal.top, AVal.top, AVal.top, AVal.top, AVal.top, AVal.top, AVal.top, AVal.top, AVal.top, AVal.top, AVal.top, AVal.top, AVal.top, AVal.top, AVal.top, AVal.top, AVal.top, AVal.top, AVal.top, AVal.top, AVal.top, AVal.top, AVal.top, AVal.slice 3 0 (List.length R) 1, AVal.int .i64 (↑(List.length R) : Int), AVal.int .i64 0, AVal.top, AVal.top, AVal.top, AVal.top, AVal.top, AVal.top, AVal.top, AVal.top, AVal.top, AVal.top] [some (Entry.cells [AVal.int .i64 (Prod.snd x_2).1, AVal.int .i64 (Prod.snd x_2).2, AVal.slice 1 0 (List.length (Prod.snd x_2).3) 1, AVal.int .i64 (Prod.snd x_2).4, AVal.int .i64 (Prod.snd x_2).5, AVal.int .i64 (Prod.snd x_2).6, AVal.int .u64 (Prod.snd x_2).7, AVal.int .u64 (Prod.snd x_2).8, AVal.bool (Prod.snd x_2).9]), some (Entry.ints (some .u64) (Prod.snd x_2).3), some (Entry.cells [AVal.int .i64 T, AVal.int .i64 N]), some (Entry.ints (some .i64) R)] ∧ ∀ (x : G2), okG4 R xs4 x → bif ilt (↑x.1 : Int) (↑(List.length R) : Int) then ((0 : Int) ≤ (↑x.1 : Int) ∧ (↑x.1 : Int) < (↑(List.length R) : Int)) ∧ 0 + Int.toNat (↑x.1 : Int) * (1 : Nat) < List.length R ∧ (((0 : Int) ≤ T ∧ T ≤ (100000 : Int)) ∧ ((0 : Int) ≤ N ∧ N ≤ (100000 : Int)) ∧ (-1099511627776 : Int) ≤ List.getD R (0 + Int.toNat (↑x.1 : Int) * 1) 0 ∧ List.getD R (0 + Int.toNat (↑x.1 : Int) * 1) (0 : Int) ≤ (1099511627776 : Int)) ∧ (List.length (G2.s x).3 = List.length (G2.s x).3 ∧ True) ∧ bif !ieq (peek (G2.s x).3 (N + 4 + List.getD R (0 + Int.toNat (↑x.1 : Int) * 1) 0)) 2 then AVal.bool false = AVal.bool true else okSt (GH4 T N R xs4) (fun x' => Hint.ok (GH4 T N R xs4) x' ∧ Hint.mu (GH4 T N R xs4) x' < Hint.mu (GH4 T N R xs4) x) [AVal.top, AVal.top, AVal.top, AVal.top, AVal.top, AVal.ptr 0 0, AVal.ptr 2 0, AVal.top, AVal.top, AVal.top, AVal.top, AVal.top, AVal.top, AVal.top, AVal.top, AVal.top, AVal.top, AVal.top, AVal.top, AVal.top, AVal.top, AVal.top, AVal.top, AVal.top, AVal.top, AVal.top, AVal.top, AVal.top, AVal.top, AVal.top, AVal.top, AVal.top, AVal.top, AVal.top, AVal.top, AVal.top, AVal.top, AVal.top, AVal.top, AVal.top, AVal.top, AVal.top, AVal.top, AVal.top, AVal.top, AVal.top, AVal.top, AVal.top, AVal.top, AVal.top, AVal.top, AVal.top, AVal.top, AVal.top, AVal.top, AVal.top, AVal.top, AVal.top, AVal.top, AVal.top, AVal.top, AVal.top, AVal.top, AVal.top, AVal.top, AVal.top, AVal.top, AVal.top, AVal.top, AVal.top, AVal.top, AVal.top, AVal.top, AVal.top, AVal.top, AVal.top, AVal.top, AVal.top, AVal.top, AVal.top, AVal.top, AVal.top, AVal.top, AVal.top, AVal.top, AVal.top, AVal.top, AVal.top, AVal.top, AVal.top, AVal.top, AVal.top, AVal.top, AVal.top, AVal.top, AVal.top, AVal.top, AVal.top, AVal.top, AVal.top, AVal.top, AVal.top, AVal.top, AVal.top, AVal.top, AVal.top, AVal.top, AVal.top, AVal.top, AVal.top, AVal.top, AVal.top, AVal.top, AVal.top, AVal.top, AVal.top, AVal.top, AVal.top, AVal.top, AVal.top, AVal.top, AVal.top, AVal.top, AVal.top, AVal.top, AVal.top, AVal.top, AVal.top, AVal.top, AVal.top, AVal.top, AVal.top, AVal.top, AVal.top, AVal.top, AVal.top, AVal.top, AVal.top, AVal.top, AVal.top, AVal.slice 3 0 (List.length R) 1, AVal.int .i64 (↑(List.length R) : Int), AVal.int .i64 (W ((↑x.1 : Int) + 1)), AVal.top, AVal.top, AVal.top, AVal.top, AVal.top, AVal.top, AVal.top, AVal.top, AVal.top, AVal.top] [some (Entry.cells [AVal.int .i64 (G2.s x).1, AVal.int .i64 (G2.s x).2, AVal.slice 1 0 (List.length (G2.s x).3) 1, AVal.int .i64 (G2.s x).4, AVal.int .i64 (G2.s x).5, AVal.int .i64 (G2.s x).6, AVal.int .u64 (G2.s x).7, AVal.int .u64 (G2.s x).8, AVal.bool (G2.s x).9]), some (Entry.ints (some .u64) (G2.s x).3), some (Entry.cells [AVal.int .i64 T, AVal.int .i64 N]), some (Entry.ints (some .i64) R)] else AVal.bool true = AVal.bool true
theorem gv_print (t n me sp : Int) (ws ns : List Int) (T N ME SP : Int) (R ks xs0 ys xs2 xs4 : List Int) (h : gvVC t n me sp ws ns T N ME SP R ks xs0 ys xs2 xs4) : CallOk (obI tbl) Try.prog 3 [.agg [.int .u8 t, .int .u8 n, .iview (some .u64) ws], .agg [.int .u8 me, .int .u8 sp, .iview (some .u8) ns]] ([] : Heap Ob) (fun v _ => v = .bool true) := by
  refine callOk_of (E := E67) Try.checked.mixed (L := GP T N ME SP R ks xs0 ys xs2 xs4) (n := 10) (of_nf (q := gvVC t n me sp ws ns T N ME SP R ks xs0 ys xs2 xs4) (by kernel_rfl) h)
end Go.Sh

/- What is given back: the law. -/
namespace Go.Sh
open Go Go.Proofs
variable [Con]
theorem peek_putI {xs : List Int} {a b x : Int} : peek (putI xs a x) b = if a = b ∧ 0 ≤ a ∧ a < xs.length then x else peek xs b := by
  unfold putI
  split
  · rename_i h
    unfold peek
    simp only [List.length_set]
    by_cases hb : 0 ≤ b ∧ b < xs.length
    · rw [if_pos hb, if_pos hb]
      have hlt : b.toNat < xs.length := by omega
      rw [List.getD_eq_getElem?_getD, List.getElem?_set, List.getD_eq_getElem?_getD]
      by_cases hab : a = b
      · subst hab
        simp [hlt, h]
      · rw [if_neg (by omega), if_neg (by omega)]
    · rw [if_neg hb, if_neg hb, if_neg (by omega)]
  · rename_i h
    rw [if_neg (by omega)]
theorem peek_putI_eq {xs : List Int} {a x : Int} (h : 0 ≤ a ∧ a < xs.length) : peek (putI xs a x) a = x := by rw [peek_putI, if_pos ⟨rfl, h⟩]
theorem peek_putI_ne {xs : List Int} {a b x : Int} (h : a ≠ b) : peek (putI xs a x) b = peek xs b := by rw [peek_putI, if_neg (fun c => h c.1)]
theorem node_ne {n r : Int} {L : List Int} (h : r ∉ L) : ∀ p ∈ L, n + 4 + p ≠ n + 4 + r := by
  intro p hp e
  have : p = r := by omega
  subst this
  exact h hp
theorem node_eq {n q r : Int} {L : List Int} (e : n + 4 + q = n + 4 + r) (h : r ∈ L) : q ∈ L := by
  have : q = r := by omega
  subst this
  exact h
/-- puts elsewhere -/
theorem mark_other (n : Int) (L : List Int) : ∀ (xs : List Int) (a : Int), (∀ r ∈ L, n + 4 + r ≠ a) → peek (markAll n xs L) a = peek xs a := by
  induction L with
  | nil => intro xs a _; rfl
  | cons r L ih =>
    intro xs a h
    show peek (markAll n (putI xs (n + 4 + r) 1) L) a = _
    rw [ih _ a (fun q hq => h q (List.mem_cons_of_mem _ hq)), peek_putI_ne (h r List.mem_cons_self)]
theorem mark_snoc (n : Int) (xs L : List Int) (r : Int) : markAll n xs (L ++ [r]) = putI (markAll n xs L) (n + 4 + r) 1 := by
  unfold markAll; rw [List.foldl_append]; rfl
theorem mark_len (n : Int) (L : List Int) : ∀ xs : List Int, (markAll n xs L).length = xs.length := by
  induction L with
  | nil => intro xs; rfl
  | cons r L ih => intro xs; show (markAll n (putI xs _ _) L).length = _; rw [ih, putI_length]
theorem mark_okW (n : Int) (L : List Int) : ∀ xs : List Int, okW xs → okW (markAll n xs L) := by
  induction L with
  | nil => intro xs h; exact h
  | cons r L ih => intro xs h; exact ih _ (okW_put h (by omega))
theorem mark_at (n : Int) (L : List Int) : ∀ (xs : List Int), (∀ r ∈ L, 0 ≤ n + 4 + r ∧ n + 4 + r < xs.length) → ∀ r ∈ L, peek (markAll n xs L) (n + 4 + r) = 1 := by
  induction L with
  | nil => intro xs _ r hr; cases hr
  | cons q L ih =>
    intro xs h r hr
    show peek (markAll n (putI xs (n + 4 + q) 1) L) (n + 4 + r) = 1
    by_cases hm : r ∈ L
    · exact ih _ (fun p hp => by rw [putI_length]; exact h p (List.mem_cons_of_mem _ hp)) r hm
    · have hrq : r = q := by
        rcases List.mem_cons.1 hr with e | e
        · exact e
        · exact (hm e).elim
      subst hrq
      rw [mark_other n L _ _ (node_ne hm), peek_putI_eq (h r List.mem_cons_self)]
theorem back_other (n : Int) (L : List Int) : ∀ (xs : List Int) (a : Int), (∀ r ∈ L, n + 4 + r ≠ a) → peek (backAll n xs L) a = peek xs a := by
  induction L with
  | nil => intro xs a _; rfl
  | cons r L ih =>
    intro xs a h
    show peek (backAll n (putI xs (n + 4 + r) _) L) a = _
    rw [ih _ a (fun q hq => h q (List.mem_cons_of_mem _ hq)), peek_putI_ne (h r List.mem_cons_self)]
theorem back_at (n : Int) (L : List Int) : ∀ (xs : List Int), L.Nodup → (∀ r ∈ L, 0 ≤ n + 4 + r ∧ n + 4 + r < xs.length) → ∀ r ∈ L, peek (backAll n xs L) (n + 4 + r) = WU (peek xs (n + 4 + r) + 1) := by
  induction L with
  | nil => intro xs _ _ r hr; cases hr
  | cons q L ih =>
    intro xs hnd h r hr
    obtain ⟨h1, h2⟩ := List.nodup_cons.1 hnd
    show peek (backAll n (putI xs (n + 4 + q) _) L) (n + 4 + r) = _
    by_cases hm : r ∈ L
    · rw [ih _ h2 (fun p hp => by rw [putI_length]; exact h p (List.mem_cons_of_mem _ hp)) r hm, peek_putI_ne (fun e => h1 (node_eq e hm))]
    · have hrq : r = q := by
        rcases List.mem_cons.1 hr with e | e
        · exact e
        · exact (hm e).elim
      subst hrq
      rw [back_other n L _ _ (node_ne hm), peek_putI_eq (h r List.mem_cons_self)]
theorem clr_len (n : Int) (xs : List Int) : ∀ u : Nat, (clrAll n xs u).length = xs.length
  | 0 => rfl
  | u + 1 => by show (putI (putI _ _ _) _ _).length = _; rw [putI_length, putI_length, clr_len n xs u]
theorem clr_okW (n : Int) (xs : List Int) (h : okW xs) : ∀ u : Nat, okW (clrAll n xs u)
  | 0 => h
  | u + 1 => okW_put (okW_put (clr_okW n xs h u) (by omega)) (by omega)
theorem clr_other (n : Int) (xs : List Int) (a : Int) (h : a < 2 * n + 5) : ∀ u : Nat, peek (clrAll n xs u) a = peek xs a
  | 0 => rfl
  | u + 1 => by
    show peek (putI (putI _ _ _) _ _) a = _
    rw [peek_putI_ne (by omega), peek_putI_ne (by omega), clr_other n xs a h u]
theorem clr_at (n : Int) (xs : List Int) (hn : 1 ≤ n) : ∀ (u : Nat), 2 * n + 5 + 2 * (u : Int) ≤ xs.length → ∀ i : Nat, i < 2 * u → peek (clrAll n xs u) (slotA n (i : Int)) = 0
  | 0, _, i, hi => by omega
  | u + 1, hl, i, hi => by
    show peek (putI (putI (clrAll n xs u) _ _) _ _) _ = 0
    have l1 := clr_len n xs u
    by_cases h1 : i = 2 * u + 1
    · have e : slotA n (i : Int) = 2 * n + 5 + 2 * (u : Int) + 1 := by unfold slotA; omega
      rw [e, peek_putI_eq (by rw [putI_length, l1]; omega)]
    · rw [peek_putI_ne (by unfold slotA; omega)]
      by_cases h2 : i = 2 * u
      · have e : slotA n (i : Int) = 2 * n + 5 + 2 * (u : Int) + 0 := by unfold slotA; omega
        rw [e, peek_putI_eq (by rw [l1]; omega)]
      · rw [peek_putI_ne (by unfold slotA; omega)]
        exact clr_at n xs hn u (by omega) i (by omega)
theorem slots_congr {xs ys : List Int} {n : Int} (hn : 1 ≤ n) (h : ∀ a, 2 * n + 5 ≤ a → peek xs a = peek ys a) (k : Nat) : slotsV xs n k = slotsV ys n k := by
  unfold slotsV
  refine List.map_congr_left fun i _ => h _ ?_
  unfold slotA; omega
theorem mkL_nodup (n sp : Int) (ns : List Int) : (mkL n sp ns).Nodup := by
  have key : ∀ (l R : List Int), R.Nodup → (l.foldl (mkStep n sp) R).Nodup := by
    intro l
    induction l with
    | nil => intro R h; exact h
    | cons v l ih =>
      intro R h
      rw [List.foldl_cons]
      refine ih _ ?_
      unfold mkStep
      cases h1 : ieq (nodeK n v) sp with
      | true => exact h
      | false =>
        cases h2 : hasB R (nodeK n v) with
        | true => exact h
        | false =>
          have h3 : nodeK n v ∉ R := by
            intro c
            have := (hasB_true (xs := R) (n := nodeK n v)).2 c
            rw [h2] at this; cases this
          show (R ++ [nodeK n v]).Nodup
          rw [List.nodup_append]
          refine ⟨h, by simp, ?_⟩
          intro a ha b hb e
          rw [List.mem_singleton] at hb
          exact h3 (by rw [← hb, ← e]; exact ha)
  exact key ns [] List.nodup_nil
/-- all that the law asks of memory, behind each of its parts -/
structure Gv (T N : Int) (R xs0 : List Int) : Prop where
  hT : 1 ≤ T ∧ T ≤ 4
  hN : 1 ≤ N ∧ N ≤ 12
  hR : ∀ r ∈ R, 1 ≤ r ∧ r ≤ N
  hnd : R.Nodup
  hl : xs0.length = (2 * N + 5 * T + 6).toNat
  hw : okW xs0
section
variable {T N : Int} {R xs0 : List Int} (g : Gv T N R xs0)
include g
theorem gv_slots (L : List Int) (hL : ∀ r ∈ L, 1 ≤ r ∧ r ≤ N) (k : Nat) : slotsV (markAll N xs0 L) N k = slotsV xs0 N k :=
  slots_congr g.hN.1 (fun a ha => mark_other N L xs0 a (fun r hr e => by have := hL r hr; omega)) k
theorem gv_one : ∀ r ∈ R, peek (markAll N xs0 R) (N + 4 + r) = 1 :=
  mark_at N R xs0 (fun r hr => by have := g.hR r hr; have := g.hl; have := g.hT; omega)
theorem gv_two (ys : List Int) : ∀ r ∈ R, peek (backAll N (markAll N xs0 R) (freedY ys R)) (N + 4 + r) = bif inY ys r then 1 else 2 := by
  intro r hr
  cases h : inY ys r with
  | true =>
    rw [back_other N _ _ _ (fun q hq e => by
      have hq' : q = r := by omega
      subst hq'
      unfold freedY at hq
      have := (List.mem_filter.1 hq).2
      rw [h] at this; cases this), gv_one g r hr]; rfl
  | false =>
    have hm : r ∈ freedY ys R := by unfold freedY; exact List.mem_filter.2 ⟨hr, by rw [h]; rfl⟩
    have hnd : (freedY ys R).Nodup := by unfold freedY; exact g.hnd.filter _
    have hlt : ∀ q ∈ freedY ys R, 0 ≤ N + 4 + q ∧ N + 4 + q < (markAll N xs0 R).length := by
      intro q hq
      unfold freedY at hq
      have := g.hR q (List.mem_filter.1 hq).1
      rw [mark_len]
      have := g.hl; have := g.hT; omega
    rw [back_at N _ _ hnd hlt r hm, gv_one g r hr]; rfl
theorem gv_tk (ys : List Int) : ∀ r ∈ R, tkB (backAll N (markAll N xs0 R) (freedY ys R)) N r = hasB (keptY ys R) r := by
  intro r hr
  unfold tkB
  rw [gv_two g ys r hr]
  cases h : inY ys r with
  | true =>
    have : r ∈ keptY ys R := by unfold keptY; exact List.mem_filter.2 ⟨hr, h⟩
    rw [hasB_true.2 this]; rfl
  | false =>
    have : ¬ r ∈ keptY ys R := by
      intro c
      unfold keptY at c
      have := (List.mem_filter.1 c).2
      rw [h] at this; cases this
    cases hh : hasB (keptY ys R) r with
    | true => exact (this (hasB_true.1 hh)).elim
    | false => rfl
theorem gv_zero (xs : List Int) (hx : xs.length = xs0.length) : ∀ r, 1 ≤ r ∧ r ≤ N → inY (slotsV (clrAll N xs T.toNat) N (2 * T).toNat) r = false := by
  intro r hr
  have w : WU r = r := WU_in (by have := g.hN; omega)
  cases h : inY (slotsV (clrAll N xs T.toNat) N (2 * T).toNat) r with
  | false => rfl
  | true =>
    unfold inY at h
    rw [List.any_eq_true] at h
    obtain ⟨y, hy, hq⟩ := h
    unfold slotsV at hy
    obtain ⟨i, hi, rfl⟩ := List.mem_map.1 hy
    have hi' := List.mem_range.1 hi
    have := g.hl; have := g.hT; have := g.hN
    rw [clr_at N xs (by omega) T.toNat (by rw [hx]; omega) i (by omega), w, ieq_eq] at hq
    have : (0 : Int) = r := by simpa using hq
    omega
end
theorem filter_none {p : Int → Bool} {l : List Int} (h : ∀ r ∈ l, p r = false) : l.filter p = [] := List.filter_eq_nil_iff.2 (fun r hr => by rw [h r hr]; simp)
set_option maxRecDepth 20000 in
theorem gives_ok (t n me sp : Int) (ws ns : List Int) (ht : 0 ≤ t ∧ t ≤ 255) (hn : 0 ≤ n ∧ n ≤ 255) (hme : 0 ≤ me ∧ me ≤ 255) (hsp : 0 ≤ sp ∧ sp ≤ 255) (hws : okW ws) (hns : ∀ v ∈ ns, 0 ≤ v ∧ v ≤ 255) :
    ∃ T N ME SP R ks xs0 ys xs2 xs4, gvVC t n me sp ws ns T N ME SP R ks xs0 ys xs2 xs4 := by
  have h1 := thr_in ht
  have h2 := nod_in hn
  have hW : okW (memW (thr t) (nod n) ws) := okW_memW hws
  have hl := memW_length (thr t) (nod n) ws
  have hR := mkL_in (nod n) (Int.tmod sp (nod n + 1)) ns (by omega) hns
  have hnd := mkL_nodup (nod n) (Int.tmod sp (nod n + 1)) ns
  have hlen := mkL_len (nod n) (Int.tmod sp (nod n + 1)) ns
  have g : Gv (thr t) (nod n) (mkL (nod n) (Int.tmod sp (nod n + 1)) ns) (memW (thr t) (nod n) ws) := ⟨h1, h2, hR, hnd, hl, hW⟩
  refine ⟨thr t, nod n, Int.tmod me (thr t), Int.tmod sp (nod n + 1), mkL (nod n) (Int.tmod sp (nod n + 1)) ns, keptY (slotsV (memW (thr t) (nod n) ws) (nod n) (2 * thr t).toNat) (mkL (nod n) (Int.tmod sp (nod n + 1)) ns), memW (thr t) (nod n) ws, slotsV (memW (thr t) (nod n) ws) (nod n) (2 * thr t).toNat, backAll (nod n) (markAll (nod n) (memW (thr t) (nod n) ws) (mkL (nod n) (Int.tmod sp (nod n + 1)) ns)) (freedY (slotsV (memW (thr t) (nod n) ws) (nod n) (2 * thr t).toNat) (mkL (nod n) (Int.tmod sp (nod n + 1)) ns)), backAll (nod n) (clrAll (nod n) (backAll (nod n) (markAll (nod n) (memW (thr t) (nod n) ws) (mkL (nod n) (Int.tmod sp (nod n + 1)) ns)) (freedY (slotsV (memW (thr t) (nod n) ws) (nod n) (2 * thr t).toNat) (mkL (nod n) (Int.tmod sp (nod n + 1)) ns))) (thr t).toNat) (keptY (slotsV (memW (thr t) (nod n) ws) (nod n) (2 * thr t).toNat) (mkL (nod n) (Int.tmod sp (nod n + 1)) ns)), ?_⟩
  unfold gvVC
  generalize memW (thr t) (nod n) ws = XS at hW hl g ⊢
  generalize mkL (nod n) (Int.tmod sp (nod n + 1)) ns = R at hR hlen hnd g ⊢
  generalize Int.tmod sp (nod n + 1) = SP
  generalize Int.tmod me (thr t) = ME
  generalize thr t = T at h1 hl g ⊢
  generalize nod n = N at h2 hl hR g ⊢
  generalize hys : slotsV XS N (2 * T).toNat = ys
  generalize hks : keptY ys R = ks
  have hkl : ks.length ≤ R.length := by rw [← hks]; exact filt_len _ _
  have hkR : ∀ r ∈ ks, 1 ≤ r ∧ r ≤ N := fun r hr => hR r (by rw [← hks] at hr; unfold keptY at hr; exact (List.mem_filter.1 hr).1)
  have hknd : ks.Nodup := by rw [← hks]; unfold keptY; exact hnd.filter _
  generalize hx1 : markAll N XS R = xs1
  generalize hx2 : backAll N xs1 (freedY ys R) = xs2
  have l1 : xs1.length = XS.length := by rw [← hx1, mark_len]
  have l2 : xs2.length = XS.length := by rw [← hx2, backAll_len, l1]
  have w1 : okW xs1 := by rw [← hx1]; exact mark_okW N R XS hW
  have w2 : okW xs2 := by rw [← hx2]; exact backAll_okW N _ xs1 w1
  have hz := gv_zero g xs2 l2
  generalize hx3 : clrAll N xs2 T.toNat = xs3 at hz
  have w3 : okW xs3 := by rw [← hx3]; exact clr_okW N xs2 w2 _
  refine ⟨trivial, cond_go (fun _ => rfl) (fun _ => lt_go (fun _ => rfl) (fun h40 => ⟨⟨ht, hn⟩, ⟨by omega, fun v hv => hns v hv⟩, ⟨by omega, by omega⟩, ?_⟩))⟩
  rw [Nat.zero_add]
  refine ⟨okSt_intro (H := GH1 T N ME SP R XS ys) ⟨0, ⟨T, N, XS, 0, 0, 0, 0, 0, false⟩, []⟩ (by simp [GH1, mH, lC, sC, iC]) ⟨Nat.zero_le _, rfl, by show (0 : Int) ≤ 0 ∧ (0 : Int) ≤ ((0 : Nat) : Int); omega, rfl⟩, ?_⟩
  rintro ⟨j, s, kl⟩ ⟨hj, hx, hc, hk⟩
  dsimp only at hj hx hc hk ⊢
  refine lt_go (fun hjr => ?_) (fun hjr => ?_)
  · have hj' : j < R.length := by omega
    have ez : 0 + Int.toNat (j : Int) * 1 = j := by omega
    have hr : List.getD R j 0 = R[j] := by rw [List.getD_eq_getElem?_getD, List.getElem?_eq_getElem hj']; rfl
    have hrn := hR R[j] (List.getElem_mem hj')
    have e6 : W ((j : Int) + 1) = ((j + 1 : Nat) : Int) := by rw [W_id (by omega)]; rfl
    have hts : R.take (j + 1) = R.take j ++ [R[j]] := List.take_succ_eq_append_getElem hj'
    have hx' : putI s.xs (N + 4 + R[j]) 1 = markAll N XS (R.take (j + 1)) := by rw [hts, mark_snoc, ← hx]
    have hsl : slotsV (putI s.xs (N + 4 + R[j]) 1) N (2 * T).toNat = ys := by
      rw [hx', gv_slots g _ (fun r hr => hR r (List.mem_of_mem_take hr)), hys]
    have hkk := keptY_snoc ys (R.take j) R[j]
    rw [← hts] at hkk
    have hkl2 : kl.length ≤ R.length := by rw [hk]; exact Nat.le_trans (filt_len _ _) (by rw [List.length_take]; omega)
    rw [ez, hr, e6, hsl]
    refine ⟨by omega, hj', by omega, ⟨rfl, by omega⟩, ⟨rfl, by omega⟩, ?_⟩
    have hmu : R.length - (j + 1) < R.length - j := by omega
    cases hb : inY ys R[j] with
    | true =>
      rw [hb] at hkk
      refine ⟨⟨rfl, rfl, rfl, by omega⟩, okSt_intro (H := GH1 T N ME SP R XS ys) ⟨j + 1, s.stored (N + 4 + R[j]) 1, kl ++ [R[j]]⟩ (by simp only [GH1, List.length_append]; rfl) ⟨⟨hj', hx', by show 0 ≤ s.c + 1 ∧ s.c + 1 ≤ ((j + 1 : Nat) : Int); omega, by rw [hkk, ← hk]; rfl⟩, hmu⟩⟩
    | false =>
      rw [hb] at hkk
      simp only [cond_false, List.append_nil] at hkk
      exact okSt_intro (H := GH1 T N ME SP R XS ys) ⟨j + 1, s.stored (N + 4 + R[j]) 1, kl⟩ rfl ⟨⟨hj', hx', by show 0 ≤ s.c + 1 ∧ s.c + 1 ≤ ((j + 1 : Nat) : Int); omega, by rw [hkk]; exact hk⟩, hmu⟩
  have hje : R.take j = R := List.take_of_length_le (by omega)
  rw [hje] at hx hk
  rw [hx1] at hx
  rw [hks] at hk
  have hsl : slotsV s.xs N (2 * T).toNat = ys := by rw [hx, ← hx1, gv_slots g R hR, hys]
  rw [hsl, hks, hk, sameB_self]
  refine ⟨⟨⟨rfl, rfl⟩, by omega, by omega, by omega, hR, by rw [hx]; exact w1, by omega⟩, ?_⟩
  rintro ⟨k, s2⟩ ⟨q1, q2, q3, q4, q5⟩
  dsimp only at q1 q2 q3 q4 q5 ⊢
  rw [hx, hx2] at q1
  refine ⟨⟨⟨rfl, rfl⟩, by omega⟩, ?_⟩
  refine ⟨okSt_intro (H := GH2 T N ME SP R ks xs2) ⟨0, s2⟩ rfl ⟨Nat.zero_le _, q1, by show 0 ≤ s2.c ∧ s2.c ≤ 200; omega⟩, ?_⟩
  clear q1 q2 q3 q4 q5 hx hc hk hsl
  rintro ⟨j, s⟩ ⟨hj, hx, hc⟩
  dsimp only at hj hx hc ⊢
  refine lt_go (fun hjr => ?_) (fun hjr => ?_)
  · have hj' : j < R.length := by omega
    have ez : 0 + Int.toNat (j : Int) * 1 = j := by omega
    have hr : List.getD R j 0 = R[j] := by rw [List.getD_eq_getElem?_getD, List.getElem?_eq_getElem hj']; rfl
    have hrn := hR R[j] (List.getElem_mem hj')
    have e6 : W ((j : Int) + 1) = ((j + 1 : Nat) : Int) := by rw [W_id (by omega)]; rfl
    have htk := gv_tk g ys R[j] (List.getElem_mem hj')
    rw [hx1, hx2, hks, ← hx] at htk
    rw [ez, hr, e6, htk]
    refine ⟨by omega, hj', ⟨rfl, by omega⟩, ⟨rfl, by omega⟩, ?_⟩
    have hst : okSt (GH2 T N ME SP R ks xs2) (fun x' => Hint.ok (GH2 T N ME SP R ks xs2) x' ∧ Hint.mu (GH2 T N ME SP R ks xs2) x' < Hint.mu (GH2 T N ME SP R ks xs2) ⟨j, s⟩) _ _ := okSt_intro (H := GH2 T N ME SP R ks xs2) ⟨j + 1, s⟩ rfl ⟨⟨hj', hx, hc⟩, by show R.length - (j + 1) < R.length - j; omega⟩
    cases hasB ks R[j] <;> exact hst
  refine ⟨okSt_intro (H := GH3 T N ME SP R ks xs2) ⟨0, s⟩ rfl ⟨by show ((0 : Nat) : Int) ≤ T; omega, hx, by show 0 ≤ s.c ∧ s.c ≤ 200 + 2 * ((0 : Nat) : Int); omega⟩, ?_⟩
  clear hx hc
  rintro ⟨u, s⟩ ⟨hu, hx, hc⟩
  dsimp only at hu hx hc ⊢
  refine lt_go (fun hut => ?_) (fun hut => ?_)
  · have e6 : W ((u : Int) + 1) = ((u + 1 : Nat) : Int) := by rw [W_id (by omega)]; rfl
    rw [e6]
    refine ⟨⟨rfl, by omega, by omega, by omega, by omega⟩, okSt_intro (H := GH3 T N ME SP R ks xs2) ⟨u + 1, clrS s N (u : Int)⟩ rfl ⟨⟨by show ((u + 1 : Nat) : Int) ≤ T; omega, by show putI (putI s.xs _ _) _ _ = _; rw [hx]; rfl, by show 0 ≤ s.c + 1 + 1 ∧ s.c + 1 + 1 ≤ 200 + 2 * ((u + 1 : Nat) : Int); omega⟩, by show T.toNat - (u + 1) < T.toNat - u; omega⟩⟩
  have hue : u = T.toNat := by omega
  subst hue
  rw [hx3] at hx
  rw [← hx] at hz
  have hkn : keptY (slotsV s.xs N (2 * T).toNat) ks = [] := by unfold keptY; exact filter_none (fun r hr => hz r (hkR r hr))
  have hfa : freedY (slotsV s.xs N (2 * T).toNat) ks = ks := by
    unfold freedY
    exact List.filter_eq_self.2 (fun r hr => by rw [hz r (hkR r hr)]; rfl)
  rw [hkn, hfa]
  refine ⟨⟨⟨rfl, rfl⟩, by omega, by omega, by omega, hkR, by rw [hx]; exact w3, by omega⟩, ?_⟩
  rintro ⟨k, s2⟩ ⟨q1, q2, q3, q4, q5⟩
  dsimp only at q1 q2 q3 q4 q5 ⊢
  rw [hx] at q1
  refine ⟨okSt_intro (H := GH4 T N R (backAll N xs3 ks)) ⟨0, s2⟩ rfl ⟨Nat.zero_le _, q1⟩, ?_⟩
  rintro ⟨j, s⟩ ⟨hj, hx⟩
  dsimp only at hj hx ⊢
  refine lt_go (fun hjr => ?_) (fun _ => rfl)
  have hj' : j < R.length := by omega
  have ez : 0 + Int.toNat (j : Int) * 1 = j := by omega
  have hr : List.getD R j 0 = R[j] := by rw [List.getD_eq_getElem?_getD, List.getElem?_eq_getElem hj']; rfl
  have hrm : R[j] ∈ R := List.getElem_mem hj'
  have hrn := hR R[j] hrm
  have e6 : W ((j : Int) + 1) = ((j + 1 : Nat) : Int) := by rw [W_id (by omega)]; rfl
  have h3 : ∀ r, 1 ≤ r ∧ r ≤ N → peek xs3 (N + 4 + r) = peek xs2 (N + 4 + r) := fun r hr => by rw [← hx3]; exact clr_other N xs2 _ (by omega) _
  have h22 := gv_two g ys R[j] hrm
  rw [hx1, hx2] at h22
  have hfin : peek (backAll N xs3 ks) (N + 4 + R[j]) = 2 := by
    cases hb : inY ys R[j] with
    | true =>
      rw [hb] at h22
      have hm : R[j] ∈ ks := by rw [← hks]; unfold keptY; exact List.mem_filter.2 ⟨hrm, hb⟩
      rw [back_at N ks xs3 hknd (fun r hr => by have := hkR r hr; rw [← hx3, clr_len, l2]; omega) _ hm, h3 _ hrn, h22]; rfl
    | false =>
      rw [hb] at h22
      rw [back_other N ks xs3 _ (fun q hq e => by
        have hq' : q = R[j] := by omega
        rw [hq', ← hks] at hq
        unfold keptY at hq
        have := (List.mem_filter.1 hq).2
        rw [hb] at this; cases this), h3 _ hrn, h22]; rfl
  rw [← hx] at hfin
  rw [ez, hr, e6, hfin]
  refine ⟨by omega, hj', by omega, ⟨rfl, trivial⟩, ?_⟩
  exact okSt_intro (H := GH4 T N R (backAll N xs3 ks)) ⟨j + 1, s⟩ rfl ⟨⟨hj', hx⟩, by show R.length - (j + 1) < R.length - j; omega⟩
end Go.Sh

