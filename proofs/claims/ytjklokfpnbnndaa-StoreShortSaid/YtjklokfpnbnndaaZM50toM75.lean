import Derived.Test.YtjklokfpnbnndaaZSh24
set_option linter.all false
/- A machine that ensures a spare node, watched: the contract. -/
namespace Go.Sh
open Go Go.Proofs
variable [Con]
/-- what a machine that was watched leaves -/
structure ENR where
  A : List (List Int)
  sh : Bool
  st : STS
  s : MS
structure enDone (t n : Int) (e0 : ENS) (st0 : STS) (r : ENR) : Prop where
  ex : ∃ k e st A s, enTr t n e0 st0 k e st A ∧ okW s.xs ∧ s.xs.length = (2 * n + 5 * t + 6).toNat ∧ (enF t n e st s).d = true ∧ r.A = A ++ [rowM (enF t n e st s).s] ∧ r.sh = (enF t n e st s).e.sh ∧ r.st = (enF t n e st s).st ∧ r.s = (enF t n e st s).s
def enRH (t n : Int) (r : ENR) : Heap Ob := mH r.s ++ [some (.cells [.ptr 3 0, .bool r.sh, .top, .top, .top]), some (.cells [.int .i64 t, .int .i64 n, .int .i64 r.st.me, .int .i64 r.st.sp, .slice 5 0 r.st.R.length 1]), none, some (.ints (some .i64) r.st.R), some (.cells [.tslice 7 0 r.A.length 5, .int .i64 0, .bool false, .bool false]), some (.tab [some .i64, some .i64, some .u64, some .u64, none] r.A)]
def enRG (t n : Int) (r : ENR) : Heap Ob := mH r.s ++ [some (.cells [.ptr 3 0, .bool r.sh, .top, .top, .top]), some (.cells [.int .i64 t, .int .i64 n, .int .i64 r.st.me, .int .i64 r.st.sp, .slice 7 0 r.st.R.length 1]), none, some (.cells [.tslice 6 0 r.A.length 5, .int .i64 0, .bool false, .bool false]), some (.tab [some .i64, some .i64, some .u64, some .u64, none] r.A), some (.ints (some .i64) r.st.R)]
theorem wc {x y : Option (Entry Ob)} {g g2 : Heap Ob} (h : weakE x y) (k : weakH g g2) : weakH (x :: g) (y :: g2) := ⟨h, k⟩
theorem wv {v w : AVal} {vs ws : List AVal} (h : w = v ∨ w = .top) (k : weakV vs ws) : weakV (v :: vs) (w :: ws) := ⟨h, k⟩
theorem less_intro {K : AVal → Heap Ob → Prop} {v : AVal} {g g1 g2 g3 : Heap Ob} (e : g = g1) (e2 : g3 = g2) (w : weakH g1 g3) (hK : K v g2) : LessK K v g := by subst e e2; exact ⟨_, w, hK⟩
theorem vend : weakV [] [] := trivial
theorem wend : weakH ([] : Heap Ob) [] := trivial
theorem wcell {vs ws : List AVal} (h : weakV vs ws) : weakE (some (.cells vs) : Option (Entry Ob)) (some (.cells ws)) := h
theorem wvs : ∀ vs : List AVal, weakV vs vs
  | [] => trivial
  | v :: vs => ⟨.inl rfl, wvs vs⟩
theorem wsame : ∀ x : Option (Entry Ob), weakE x x
  | none => trivial
  | some (.cells vs) => wvs vs
  | some (.ints c xs) => rfl
  | some (.abs t ps) => rfl
  | some (.tab ks r) => rfl
  | some (.imap k v m) => rfl
theorem wnone {x : Option (Entry Ob)} : weakE x none := by cases x <;> simp [weakE]
theorem en_open {t n : Int} {r : ENR} {e : ENS} {K : AVal → Heap Ob → Prop} (hs : r.sh = e.sh) (hK : K (.tup [.ptr 6 0, .bool true, .bool true]) (enRH t n r)) :
    OpenK tbl (OpenK tbl (LessK (Trim 5 K))) (.tup [.ptr 5 0, .bool true, .bool true]) (mH r.s ++ [some (.abs (.ensure t n e) [3]), some (.abs (.store t n r.st) []), none, some (.cells [.tslice 6 0 r.A.length 5, .int .i64 0, .bool false, .bool false]), some (.tab [some .i64, some .i64, some .u64, some .u64, none] r.A)]) := by
  refine ⟨.store t n r.st, 3, 0, stG t n r.st, [], rfl, rfl, rfl, ?_⟩
  obtain ⟨ph, sh, dn, x, y⟩ := e
  dsimp only at hs
  subst hs
  match ph with
  | 0 => exact ⟨.ensure t n ⟨0, r.sh, dn, x, y⟩, 2, 1, enG t n ⟨0, r.sh, dn, x, y⟩, [3], rfl, rfl, rfl, less_intro (g2 := enRG t n r ++ []) (by exact rfl) (by exact rfl) (wc (wsame _) (wc (wsame _) (wc (wcell (wv (.inl rfl) (wv (.inl rfl) (wv (.inr rfl) (wv (.inr rfl) (wv (.inr rfl) vend)))))) (wc (wsame _) (wc (wsame _) (wc (wsame _) (wc (wsame _) (wc (wsame _) wend)))))))) (Eq.mp (by kernel_rfl) hK)⟩
  | 1 => exact ⟨.ensure t n ⟨1, r.sh, dn, x, y⟩, 2, 1, enG t n ⟨1, r.sh, dn, x, y⟩, [3], rfl, rfl, rfl, less_intro (g2 := enRG t n r ++ [none]) (by exact rfl) (by exact rfl) (wc (wsame _) (wc (wsame _) (wc (wcell (wv (.inl rfl) (wv (.inl rfl) (wv (.inr rfl) (wv (.inr rfl) (wv (.inr rfl) vend)))))) (wc (wsame _) (wc (wsame _) (wc (wsame _) (wc (wsame _) (wc (wsame _) (wc wnone wend))))))))) (Eq.mp (by kernel_rfl) hK)⟩
  | 2 => exact ⟨.ensure t n ⟨2, r.sh, dn, x, y⟩, 2, 1, enG t n ⟨2, r.sh, dn, x, y⟩, [3], rfl, rfl, rfl, less_intro (g2 := enRG t n r ++ [none, none]) (by exact rfl) (by exact rfl) (wc (wsame _) (wc (wsame _) (wc (wcell (wv (.inl rfl) (wv (.inl rfl) (wv (.inr rfl) (wv (.inr rfl) (wv (.inr rfl) vend)))))) (wc (wsame _) (wc (wsame _) (wc (wsame _) (wc (wsame _) (wc (wsame _) (wc wnone (wc wnone wend)))))))))) (Eq.mp (by kernel_rfl) hK)⟩
  | 3 => exact ⟨.ensure t n ⟨3, r.sh, dn, x, y⟩, 2, 1, enG t n ⟨3, r.sh, dn, x, y⟩, [3], rfl, rfl, rfl, less_intro (g2 := enRG t n r ++ [none, none, none, none, none]) (by exact rfl) (by exact rfl) (wc (wsame _) (wc (wsame _) (wc (wcell (wv (.inl rfl) (wv (.inl rfl) (wv (.inr rfl) (wv (.inr rfl) (wv (.inr rfl) vend)))))) (wc (wsame _) (wc (wsame _) (wc (wsame _) (wc (wsame _) (wc (wsame _) (wc wnone (wc wnone (wc wnone (wc wnone (wc wnone wend))))))))))))) (Eq.mp (by kernel_rfl) hK)⟩
  | k + 4 => exact ⟨.ensure t n ⟨k + 4, r.sh, dn, x, y⟩, 2, 1, enG t n ⟨k + 4, r.sh, dn, x, y⟩, [3], rfl, rfl, rfl, less_intro (g2 := enRG t n r ++ [none, none, none, none, none, none, none, none, none]) (by exact rfl) (by exact rfl) (wc (wsame _) (wc (wsame _) (wc (wcell (wv (.inl rfl) (wv (.inl rfl) (wv (.inr rfl) (wv (.inr rfl) (wv (.inr rfl) vend)))))) (wc (wsame _) (wc (wsame _) (wc (wsame _) (wc (wsame _) (wc (wsame _) (wc wnone (wc wnone (wc wnone (wc wnone (wc wnone (wc wnone (wc wnone (wc wnone (wc wnone wend))))))))))))))))) (Eq.mp (by kernel_rfl) hK)⟩
set_option maxRecDepth 20000 in
theorem en_call (p : Nat) (fa fx : Nat → Int) (t n : Int) (dn : Bool) (x : AL) (y : SWS) (st : STS) (s : MS) (K : AVal → Heap Ob → Prop) (hfx : ∀ i, 0 ≤ fx i ∧ fx i ≤ 18446744073709551615) (ht : 1 ≤ t ∧ t ≤ 8) (hn : 1 ≤ n ∧ n ≤ 1000) (hc0 : s.c = 0) (hl0 : s.xs.length = (2 * n + 5 * t + 6).toNat) (hw0 : okW s.xs)
    (hinv : ∀ k e st1 A, enTr t n ⟨0, false, dn, x, y⟩ st k e st1 A → k < 200 ∧ ∀ s : MS, 0 ≤ s.c ∧ s.c ≤ 1000000 → okE t n e st1 s)
    (hK : ∀ r, enDone t n ⟨0, false, dn, x, y⟩ st r → K (.tup [.ptr 6 0, .bool true, .bool true]) (enRH t n r)) :
    CallOk (obI tbl) Try.prog 29 [.ptr 0 0, .iface 58 (.ptr 2 0), .view p 2 (fun i => [.int .i64 (fa i), .int .u64 (fx i)]), .int .i64 200] (mH s ++ [some (.cells [.ptr 3 0, .bool false, .raw (.pointer none), .raw (.pointer none), .bool dn]), some (.cells [.int .i64 t, .int .i64 n, .int .i64 st.me, .int .i64 st.sp, .slice 4 0 st.R.length 1]), some (.ints (some .i64) st.R)]) K := by
  refine CallOk.trim (CallOk.less (CallOk.opened tbl (CallOk.opened tbl ?_)))
  refine CallOk.shut tbl (mH s ++ [some (.abs (.ensure t n ⟨0, false, dn, x, y⟩) [3]), some (.cells [.int .i64 t, .int .i64 n, .int .i64 st.me, .int .i64 st.sp, .slice 4 0 st.R.length 1]), some (.ints (some .i64) st.R)]) (.ensure t n ⟨0, false, dn, x, y⟩) 2 1 (enG t n ⟨0, false, dn, x, y⟩) [3] rfl rfl rfl rfl ?_
  refine CallOk.shut tbl (mH s ++ [some (.abs (.ensure t n ⟨0, false, dn, x, y⟩) [3]), some (.abs (.store t n st) [])]) (.store t n st) 3 0 (stG t n st) [] rfl rfl rfl rfl ?_
  refine en_print p fa fx t n ⟨0, false, dn, x, y⟩ st s _ (en_watch p fa fx t n _ st s _ hfx ht hn hc0 hl0 hw0 hinv ?_)
  intro k e st1 A s1 tr hw hl hk hd
  exact en_open (r := ⟨A ++ [rowM (enF t n e st1 s1).s], (enF t n e st1 s1).e.sh, (enF t n e st1 s1).st, (enF t n e st1 s1).s⟩) (e := (enF t n e st1 s1).e) rfl (hK _ ⟨k, e, st1, A, s1, tr, hw, hl, hd, rfl, rfl, rfl, rfl⟩)
end Go.Sh

/- A machine that ensures a spare node, watched: what was done, as a list. -/
namespace Go.Sh
open Go Go.Proofs
variable [Con]
/-- rows of tries to take a node that all failed: from a, with k left, to b, with j left -/
inductive TkR (n : Int) : Int → Nat → List (List Int) → Int → Nat → Prop where
  | nil (a : Int) (k : Nat) : TkR n a k [] a k
  | odd (a : Int) (k : Nat) (A : List (List Int)) (b : Int) (j : Nat) (y : Int) (h : TkR n a k A b (j + 1)) (hb : 1 ≤ b ∧ b ≤ n) (ho : oddB y = true) : TkR n a k (A ++ [[1, n + 4 + b, y, y, 1]]) (nextN n b) j
  | lost (a : Int) (k : Nat) (A : List (List Int)) (b : Int) (j : Nat) (y o : Int) (h : TkR n a k A b (j + 1)) (hb : 1 ≤ b ∧ b ≤ n) (ho : oddB y = false) (hne : o ≠ y) : TkR n a k (A ++ [[1, n + 4 + b, y, y, 1], [3, n + 4 + b, o, WU (y + 1), 0]]) (nextN n b) j
theorem TkR.len {n a : Int} {k : Nat} {A : List (List Int)} {b : Int} {j : Nat} (h : TkR n a k A b j) : A.length + 2 * j ≤ 2 * k := by
  induction h with
  | nil => simp
  | odd => simp only [List.length_append, List.length_cons, List.length_nil]; omega
  | lost => simp only [List.length_append, List.length_cons, List.length_nil]; omega
theorem nextN_in {n b : Int} (hn : 1 ≤ n) (hb : 1 ≤ b ∧ b ≤ n) : 1 ≤ nextN n b ∧ nextN n b ≤ n := by
  have := tmod_in (x := b) (t := n) (by omega) (by omega)
  unfold nextN; omega
def freeRow (n : Int) (x : AL) : List (List Int) := bif x.free then [[1, n + 4 + x.at', x.found, x.found, 1]] else []
structure okX (n a : Int) (k : Nat) (x : AL) (A1 : List (List Int)) : Prop where
  hg : x.got = 0
  ha : 1 ≤ x.at' ∧ x.at' ≤ n
  hl : 1 ≤ x.left ∧ x.left ≤ n
  tr : TkR n a k A1 x.at' x.left.toNat
  hf : x.free = true → oddB x.found = false
/-- what comes of a try -/
inductive TkC (n a : Int) (k : Nat) (e : ENS) (st : STS) (o : EO) (B : List (List Int)) : Prop where
  | got (A2 : List (List Int)) (b : Int) (j : Nat) (y : Int) (h : TkR n a k A2 b (j + 1)) (hb : 1 ≤ b ∧ b ≤ n) (ho : oddB y = false) (hB : B = A2 ++ [[1, n + 4 + b, y, y, 1], [3, n + 4 + b, y, WU (y + 1), 1]]) (hd : o.d = true) (hs : o.e.sh = e.sh) (ht : o.st = { st with sp := b })
  | on (x : AL) (A2 : List (List Int)) (h : okX n a k x A2) (hB : B = A2 ++ freeRow n x) (hd : o.d = false) (he : o.e = { e with ph := 1, x := x }) (ht : o.st = st)
  | out (x : AL) (b : Int) (h : TkR n a k B b 0) (hd : o.d = (e.dn || ieq (st.R.length : Int) 0)) (he : o.e = { e with ph := 2, sh := e.dn || ieq (st.R.length : Int) 0, x := x }) (ht : o.st = { st with sp := 0 })
theorem rowM_load {s : MS} {a : Int} (h : inB s.xs a = true) : rowM (s.loadd a) = [1, a, peek s.xs a, peek s.xs a, 1] := by
  show [1, a, peek s.xs a, peek s.xs a, bif inB s.xs a then 1 else 0] = _
  rw [h]; rfl
theorem rowM_add {s : MS} {a x : Int} (h : inB s.xs a = true) : rowM (s.added a x) = [4, a, peek s.xs a, WU (peek s.xs a + x), 1] := by
  show [4, a, peek s.xs a, bif inB s.xs a then _ else 0, bif inB s.xs a then 1 else 0] = _
  rw [h]; rfl
theorem rowM_cas {s : MS} {a o x : Int} (h : inB s.xs a = true) : rowM (s.cased a o x) = [3, a, peek s.xs a, x, bif casB s.xs a o then 1 else 0] := by
  show [3, a, peek s.xs a, bif inB s.xs a then x else 0, bif casB s.xs a o then 1 else 0] = _
  rw [h]; rfl
theorem enOn_case {n a : Int} {k : Nat} {e : ENS} {st : STS} {x : AL} {s : MS} {B : List (List Int)} (hg : x.got = 0) (ha : 1 ≤ x.at' ∧ x.at' ≤ n) (hl : 0 ≤ x.left ∧ x.left ≤ n) (tr : TkR n a k B x.at' x.left.toNat) (hf : x.free = false) : TkC n a k e st (enOn e st x s) B := by
  unfold enOn
  cases h : ile x.left 0 with
  | true =>
    rw [ile_eq, decide_eq_true_eq] at h
    have e0 : x.left.toNat = 0 := by omega
    rw [e0] at tr
    exact .out x x.at' tr rfl rfl rfl
  | false =>
    rw [ile_eq, decide_eq_false_iff_not] at h
    refine .on x B ⟨hg, ha, by omega, tr, fun c => by rw [hf] at c; cases c⟩ ?_ rfl rfl rfl
    unfold freeRow; rw [hf]; simp
theorem enTake_case {t n a : Int} {k : Nat} {e : ENS} {st : STS} {x : AL} {s : MS} {A1 : List (List Int)} (hn : 1 ≤ n) (ht : 1 ≤ t) (hlen : s.xs.length = (2 * n + 5 * t + 6).toNat) (h : okX n a k x A1) : TkC n a k e st (enTake n e st x s) (A1 ++ freeRow n x ++ [rowM (enTake n e st x s).s]) := by
  obtain ⟨hg, ha, hl, tr, hf⟩ := h
  have hin : inB s.xs (n + 4 + x.at') = true := inB_true.2 (by omega)
  have hnx := nextN_in hn ha
  have el : x.left.toNat = (x.left - 1).toNat + 1 := by omega
  rw [el] at tr
  unfold enTake freeRow
  cases hfr : x.free with
  | false =>
    simp only [cond_false, List.append_nil]
    cases ho : oddB (peek s.xs (n + 4 + x.at')) with
    | true =>
      have es : (enOn e st ⟨0, nextN n x.at', x.left - 1, peek s.xs (n + 4 + x.at'), false⟩ (s.loadd (n + 4 + x.at'))).s = s.loadd (n + 4 + x.at') := by unfold enOn; split <;> rfl
      dsimp only
      rw [es, rowM_load hin]
      exact enOn_case rfl hnx (by dsimp only; omega) (.odd _ _ _ _ _ _ tr ha ho) rfl
    | false =>
      dsimp only
      rw [rowM_load hin]
      refine .on ⟨0, x.at', x.left, peek s.xs (n + 4 + x.at'), true⟩ A1 ⟨rfl, ha, hl, by rw [el]; exact tr, fun _ => ho⟩ rfl rfl rfl rfl
  | true =>
    have hev := hf hfr
    simp only [cond_true]
    cases hb : casB s.xs (n + 4 + x.at') x.found with
    | true =>
      have hp : peek s.xs (n + 4 + x.at') = x.found := by
        unfold casB at hb
        rw [hin, ieq_eq] at hb
        simpa using hb
      dsimp only
      rw [rowM_cas hin, hb, hp]
      exact .got A1 x.at' _ x.found tr ha hev (by rw [List.append_assoc]; rfl) rfl rfl rfl
    | false =>
      have hp : peek s.xs (n + 4 + x.at') ≠ x.found := by
        unfold casB at hb
        rw [hin, ieq_eq] at hb
        simpa using hb
      have es : (enOn e st ⟨0, nextN n x.at', x.left - 1, x.found, false⟩ (s.cased (n + 4 + x.at') x.found (WU (x.found + 1)))).s = s.cased (n + 4 + x.at') x.found (WU (x.found + 1)) := by unfold enOn; split <;> rfl
      dsimp only
      rw [es, rowM_cas hin, hb, List.append_assoc]
      exact enOn_case rfl hnx (by dsimp only; omega) (.lost _ _ _ _ _ _ _ tr ha hev hp) rfl
/-- a scan's rows -/
structure ScR (t n : Int) (R : List Int) (S : List (List Int)) (ks fs : List Int) : Prop where
  ex : ∃ (ys : List Int) (gs : List (Int × Int)), okW ys ∧ (ys.length : Int) = 2 * t ∧ S = rowsFrom n 0 ys ++ rowsG n gs ∧ gs.map (·.1) = fs ∧ ks = keptL (seenOf ys) R ∧ fs = freedL (seenOf ys) R
/-- what was done till now -/
inductive HisE (t n a : Int) (k : Nat) (e0 : ENS) (st0 : STS) : ENS → STS → List (List Int) → Prop where
  | new : HisE t n a k e0 st0 e0 st0 []
  | take (x : AL) (y : SWS) (A1 : List (List Int)) (h0 : st0.sp = 0) (hx : okX n a k x A1) : HisE t n a k e0 st0 ⟨1, false, false, x, y⟩ st0 (A1 ++ freeRow n x)
  | swA (x : AL) (y : SWS) (A1 : List (List Int)) (b : Int) (h0 : st0.sp = 0) (h1 : TkR n a k A1 b 0) (hR : st0.R ≠ []) : HisE t n a k e0 st0 ⟨2, false, false, x, y⟩ { st0 with sp := 0 } A1
  | swB (x : AL) (y : SWS) (A1 : List (List Int)) (b : Int) (ys : List Int) (h0 : st0.sp = 0) (h1 : TkR n a k A1 b 0) (hR : st0.R ≠ []) (hw : okW ys) (hi : y.i = (ys.length : Int)) (h2 : 1 ≤ y.i ∧ y.i < 2 * t) (hm : y.m = seenOf ys) (hN : y.N = st0.R) : HisE t n a k e0 st0 ⟨3, false, false, x, y⟩ { st0 with sp := 0 } (A1 ++ rowsFrom n 0 ys)
  | swC (x : AL) (y : SWS) (A1 : List (List Int)) (b : Int) (ys : List Int) (gs : List (Int × Int)) (h0 : st0.sp = 0) (h1 : TkR n a k A1 b 0) (hR : st0.R ≠ []) (hw : okW ys) (hi : (ys.length : Int) = 2 * t) (h2 : y.i = 2 * t) (hk : y.ks = keptL (seenOf ys) st0.R) (hf : y.fs = freedL (seenOf ys) st0.R) (hg : y.gs = y.fs) (hj : y.j < y.fs.length) (hl : y.l = y.fs.length - y.j) (hgs : gs.map (·.1) = y.fs.take y.j) : HisE t n a k e0 st0 ⟨4, false, false, x, y⟩ { st0 with sp := 0 } (A1 ++ (rowsFrom n 0 ys ++ rowsG n gs))
  | again (x : AL) (y : SWS) (A1 S : List (List Int)) (b : Int) (ks fs : List Int) (h0 : st0.sp = 0) (h1 : TkR n a k A1 b 0) (hR : st0.R ≠ []) (hS : ScR t n st0.R S ks fs) (hf : fs ≠ []) : HisE t n a k e0 st0 ⟨0, false, true, x, y⟩ ⟨st0.me, 0, ks⟩ (A1 ++ S)
  | take2 (x : AL) (y : SWS) (A1 S A2 : List (List Int)) (b : Int) (ks fs : List Int) (h0 : st0.sp = 0) (h1 : TkR n a k A1 b 0) (hR : st0.R ≠ []) (hS : ScR t n st0.R S ks fs) (hf : fs ≠ []) (hx : okX n a k x A2) : HisE t n a k e0 st0 ⟨1, false, true, x, y⟩ ⟨st0.me, 0, ks⟩ (A1 ++ S ++ (A2 ++ freeRow n x))
/-- what was done in all; is it short; the store -/
inductive FinE (t n a : Int) (k : Nat) (st0 : STS) : List (List Int) → Bool → STS → Prop where
  | has (y z : Int) (h0 : st0.sp ≠ 0) : FinE t n a k st0 [[1, 0, y, y, z]] false st0
  | got (A1 : List (List Int)) (b : Int) (j : Nat) (y : Int) (h0 : st0.sp = 0) (h1 : TkR n a k A1 b (j + 1)) (hb : 1 ≤ b ∧ b ≤ n) (ho : oddB y = false) : FinE t n a k st0 (A1 ++ [[1, n + 4 + b, y, y, 1], [3, n + 4 + b, y, WU (y + 1), 1]]) false { st0 with sp := b }
  | none (A1 : List (List Int)) (b : Int) (h0 : st0.sp = 0) (h1 : TkR n a k A1 b 0) (hR : st0.R = []) : FinE t n a k st0 A1 true { st0 with sp := 0 }
  | kept (A1 S : List (List Int)) (b : Int) (ks : List Int) (h0 : st0.sp = 0) (h1 : TkR n a k A1 b 0) (hR : st0.R ≠ []) (hS : ScR t n st0.R S ks []) : FinE t n a k st0 (A1 ++ S) true ⟨st0.me, 0, ks⟩
  | got2 (A1 S A2 : List (List Int)) (b b2 : Int) (j : Nat) (y : Int) (ks fs : List Int) (h0 : st0.sp = 0) (h1 : TkR n a k A1 b 0) (hR : st0.R ≠ []) (hS : ScR t n st0.R S ks fs) (hf : fs ≠ []) (h2 : TkR n a k A2 b2 (j + 1)) (hb : 1 ≤ b2 ∧ b2 ≤ n) (ho : oddB y = false) : FinE t n a k st0 (A1 ++ S ++ (A2 ++ [[1, n + 4 + b2, y, y, 1], [3, n + 4 + b2, y, WU (y + 1), 1]])) false ⟨st0.me, b2, ks⟩
  | none2 (A1 S A2 : List (List Int)) (b b2 : Int) (ks fs : List Int) (h0 : st0.sp = 0) (h1 : TkR n a k A1 b 0) (hR : st0.R ≠ []) (hS : ScR t n st0.R S ks fs) (hf : fs ≠ []) (h2 : TkR n a k A2 b2 0) : FinE t n a k st0 (A1 ++ S ++ A2) true ⟨st0.me, 0, ks⟩
theorem at0_in {t n me : Int} (hn : 1 ≤ n) : 1 ≤ at0 t n me ∧ at0 t n me ≤ n := by
  unfold at0 nodeB
  cases h1 : (ile 1 (firstV t n me)) <;> cases h2 : ile (firstV t n me) n <;> simp only [Bool.and_true, Bool.and_false, Bool.and_self, cond_true, cond_false] <;> rw [ile_eq] at h1 h2 <;> simp at h1 h2 <;> omega
theorem nil_of {R : List Int} (h : ieq (R.length : Int) 0 = true) : R = [] := by
  rw [ieq_eq] at h
  have : (R.length : Int) = 0 := by simpa using h
  exact List.length_eq_zero_iff.1 (by omega)
/-- a step more, or the end -/
theorem his_step {t n a : Int} {k : Nat} {x0 : AL} {y0 : SWS} {st0 : STS} {e : ENS} {st : STS} {A : List (List Int)} {s : MS} (ht : 1 ≤ t ∧ t ≤ 8) (hn : 1 ≤ n ∧ n ≤ 1000) (ha : a = at0 t n st0.me) (hk : k = n.toNat) (hRn : ∀ r ∈ st0.R, 1 ≤ r ∧ r ≤ n)
    (h : HisE t n a k ⟨0, false, false, x0, y0⟩ st0 e st A) (hw : okW s.xs) (hlen : s.xs.length = (2 * n + 5 * t + 6).toNat) :
    ((enF t n e st s).d = false → HisE t n a k ⟨0, false, false, x0, y0⟩ st0 (enF t n e st s).e (enF t n e st s).st (A ++ [rowM (enF t n e st s).s])) ∧ ((enF t n e st s).d = true → FinE t n a k st0 (A ++ [rowM (enF t n e st s).s]) (enF t n e st s).e.sh (enF t n e st s).st) := by
  have hat : 1 ≤ a ∧ a ≤ n := by rw [ha]; exact at0_in hn.1
  have hx0 : okX n a k ⟨0, a, n, 0, false⟩ [] := ⟨rfl, hat, by dsimp only; omega, by rw [hk]; exact .nil a _, fun c => by cases c⟩
  cases h with
  | new =>
    cases hz : ieq st0.sp 0 with
    | false =>
      have hz' : st0.sp ≠ 0 := by rw [ieq_eq] at hz; simpa using hz
      have ee : enF t n ⟨0, false, false, x0, y0⟩ st0 s = ⟨true, ⟨0, false, false, x0, y0⟩, st0, s.loadd 0⟩ := by unfold enF; dsimp only; rw [hz] <;> rfl
      rw [ee]
      exact ⟨fun c => (Bool.noConfusion c), fun _ => .has _ _ hz'⟩
    | true =>
      have hz' : st0.sp = 0 := by rw [ieq_eq] at hz; simpa using hz
      have ee : enF t n ⟨0, false, false, x0, y0⟩ st0 s = enTake n ⟨0, false, false, x0, y0⟩ st0 ⟨0, a, n, 0, false⟩ s := by unfold enF; dsimp only; rw [hz, ha] <;> rfl
      rw [ee]
      have hc := enTake_case (e := ⟨0, false, false, x0, y0⟩) (st := st0) (s := s) hn.1 ht.1 hlen hx0
      have e1 : ([] : List (List Int)) ++ freeRow n ⟨0, a, n, 0, false⟩ = [] := rfl
      rw [e1] at hc
      cases hc with
      | got A2 b j y h hb ho hB hd hs ht =>
        rw [hB, hd, hs, ht]
        exact ⟨fun c => Bool.noConfusion c, fun _ => .got A2 b j y hz' h hb ho⟩
      | on x A2 h hB hd he ht =>
        rw [hB, hd, he, ht]
        exact ⟨fun _ => .take x y0 A2 hz' h, fun c => Bool.noConfusion c⟩
      | out x b h hd he ht =>
        rw [hd, he, ht]
        cases hr : ieq (st0.R.length : Int) 0 with
        | true =>
          have : st0.R = [] := nil_of hr
          exact ⟨fun c => Bool.noConfusion c, fun _ => .none _ b hz' h this⟩
        | false =>
          have : st0.R ≠ [] := by intro c; rw [c] at hr; cases hr
          exact ⟨fun _ => .swA x y0 _ b hz' h this, fun c => Bool.noConfusion c⟩
  | take x y A1 h0 hx =>
    have ee : enF t n ⟨1, false, false, x, y⟩ st0 s = enTake n ⟨1, false, false, x, y⟩ st0 x s := rfl
    rw [ee]
    have hc := enTake_case (e := ⟨1, false, false, x, y⟩) (st := st0) (s := s) hn.1 ht.1 hlen hx
    cases hc with
    | got A2 b j y h hb ho hB hd hs ht =>
      rw [hB, hd, hs, ht]
      exact ⟨fun c => Bool.noConfusion c, fun _ => .got A2 b j y h0 h hb ho⟩
    | on x' A2 h hB hd he ht =>
      rw [hB, hd, he, ht]
      exact ⟨fun _ => .take x' y A2 h0 h, fun c => Bool.noConfusion c⟩
    | out x' b h hd he ht =>
      rw [hd, he, ht]
      cases hr : ieq (st0.R.length : Int) 0 with
      | true =>
        have : st0.R = [] := nil_of hr
        exact ⟨fun c => Bool.noConfusion c, fun _ => .none _ b h0 h this⟩
      | false =>
        have : st0.R ≠ [] := by intro c; rw [c] at hr; cases hr
        exact ⟨fun _ => .swA x' y _ b h0 h this, fun c => Bool.noConfusion c⟩
  | swA x y A1 b h0 h1 hR =>
    have hin : inB s.xs (slotA n 0) = true := inB_true.2 (by unfold slotA; omega)
    have ee : enF t n ⟨2, false, false, x, y⟩ { st0 with sp := 0 } s = ⟨false, ⟨3, false, false, x, { y with N := st0.R, m := seenM [] n 0 s, i := 1 }⟩, { st0 with sp := 0 }, s.loadd (slotA n 0)⟩ := rfl
    rw [ee]
    refine ⟨fun _ => ?_, fun c => Bool.noConfusion c⟩
    dsimp only
    rw [rowM_load hin]
    exact .swB x _ A b [peek s.xs (slotA n 0)] h0 h1 hR ⟨fun z hz => by rw [List.mem_singleton] at hz; subst hz; exact okW_peek hw _⟩ rfl (by dsimp only; omega) rfl rfl
  | swB x y A1 b ys h0 h1 hR hwy hi h2 hm hN =>
    have hin : inB s.xs (slotA n y.i) = true := inB_true.2 (by unfold slotA; omega)
    have hrow : A1 ++ rowsFrom n 0 ys ++ [[1, slotA n y.i, peek s.xs (slotA n y.i), peek s.xs (slotA n y.i), 1]] = A1 ++ rowsFrom n 0 (ys ++ [peek s.xs (slotA n y.i)]) := by
      rw [rowsFrom_snoc, List.append_assoc, Nat.zero_add, ← hi]
    have hsee : seenM y.m n y.i s = seenOf (ys ++ [peek s.xs (slotA n y.i)]) := by rw [seenOf_snoc, ← hm]; rfl
    have hoy : okW (ys ++ [peek s.xs (slotA n y.i)]) := okW_snoc hwy (okW_peek hw _)
    have hyl : ((ys ++ [peek s.xs (slotA n y.i)]).length : Int) = y.i + 1 := by rw [List.length_append]; simp; omega
    cases he : ieq (y.i + 1) (2 * t) with
    | false =>
      have he' : y.i + 1 ≠ 2 * t := by rw [ieq_eq] at he; simpa using he
      have ee : enF t n ⟨3, false, false, x, y⟩ { st0 with sp := 0 } s = ⟨false, ⟨3, false, false, x, { y with m := seenM y.m n y.i s, i := y.i + 1 }⟩, { st0 with sp := 0 }, s.loadd (slotA n y.i)⟩ := by unfold enF; dsimp only; rw [he] <;> rfl
      rw [ee]
      refine ⟨fun _ => ?_, fun c => Bool.noConfusion c⟩
      dsimp only
      rw [rowM_load hin, hrow]
      exact .swB x _ A1 b _ h0 h1 hR hoy hyl.symm (by dsimp only; omega) hsee hN
    | true =>
      have he' : y.i + 1 = 2 * t := by rw [ieq_eq] at he; simpa using he
      cases hz : ieq ((freedL (seenM y.m n y.i s) y.N).length : Int) 0 with
      | true =>
        have ee : enF t n ⟨3, false, false, x, y⟩ { st0 with sp := 0 } s = ⟨true, ⟨0, true, true, x, y⟩, { st0 with sp := 0, R := keptL (seenM y.m n y.i s) y.N }, s.loadd (slotA n y.i)⟩ := by unfold enF; dsimp only; rw [he, hz] <;> rfl
        rw [ee]
        refine ⟨fun c => Bool.noConfusion c, fun _ => ?_⟩
        dsimp only
        rw [rowM_load hin, hrow, hsee, hN]
        rw [hsee, hN] at hz
        have hz' : freedL (seenOf (ys ++ [peek s.xs (slotA n y.i)])) st0.R = [] := by
          rw [ieq_eq] at hz
          have : ((freedL (seenOf (ys ++ [peek s.xs (slotA n y.i)])) st0.R).length : Int) = 0 := by simpa using hz
          exact List.length_eq_zero_iff.1 (by omega)
        exact .kept A1 _ b _ h0 h1 hR ⟨_, [], hoy, by omega, by simp [rowsG], rfl, rfl, hz'.symm⟩
      | false =>
        have ee : enF t n ⟨3, false, false, x, y⟩ { st0 with sp := 0 } s = ⟨false, ⟨4, false, false, x, ⟨0, y.N, seenM y.m n y.i s, y.i + 1, keptL (seenM y.m n y.i s) y.N, freedL (seenM y.m n y.i s) y.N, freedL (seenM y.m n y.i s) y.N, 0, (freedL (seenM y.m n y.i s) y.N).length⟩⟩, { st0 with sp := 0 }, s.loadd (slotA n y.i)⟩ := by unfold enF; dsimp only; rw [he, hz] <;> rfl
        rw [ee]
        refine ⟨fun _ => ?_, fun c => Bool.noConfusion c⟩
        dsimp only
        rw [rowM_load hin, hrow]
        have hz' : 0 < (freedL (seenM y.m n y.i s) y.N).length := by
          rw [ieq_eq] at hz
          have : ((freedL (seenM y.m n y.i s) y.N).length : Int) ≠ 0 := by simpa using hz
          omega
        have := HisE.swC (t := t) (n := n) (a := a) (k := k) (e0 := ⟨0, false, false, x0, y0⟩) (st0 := st0) x ⟨0, y.N, seenM y.m n y.i s, y.i + 1, keptL (seenM y.m n y.i s) y.N, freedL (seenM y.m n y.i s) y.N, freedL (seenM y.m n y.i s) y.N, 0, (freedL (seenM y.m n y.i s) y.N).length⟩ A1 b _ [] h0 h1 hR hoy (by omega) he' (by rw [hsee, hN]) (by rw [hsee, hN]) rfl hz' rfl rfl
        simpa [rowsG] using this
  | swC x y A1 b ys gs h0 h1 hR hwy hi h2 hk' hf hg hj hl hgs =>
    have hfj : List.getD y.fs (y.j + Int.toNat 0 * 1) 0 = y.fs[y.j] := by
      show List.getD y.fs (y.j + 0) 0 = y.fs[y.j]
      rw [Nat.add_zero, List.getD_eq_getElem?_getD, List.getElem?_eq_getElem hj]; rfl
    have hfn : 1 ≤ y.fs[y.j] ∧ y.fs[y.j] ≤ n := by
      have hm1 : y.fs[y.j] ∈ y.fs := List.getElem_mem hj
      have hm2 : y.fs[y.j] ∈ freedL (seenOf ys) st0.R := by rw [← hf]; exact hm1
      unfold freedL at hm2
      exact hRn _ (List.mem_filter.1 hm2).1
    have hlf : lifeA n y.gs y.j = n + 4 + y.fs[y.j] := by unfold lifeA; rw [hg, hfj]
    have hin : inB s.xs (lifeA n y.gs y.j) = true := inB_true.2 (by omega)
    have hrow : A1 ++ (rowsFrom n 0 ys ++ rowsG n gs) ++ [[4, lifeA n y.gs y.j, peek s.xs (lifeA n y.gs y.j), WU (peek s.xs (lifeA n y.gs y.j) + 1), 1]] = A1 ++ (rowsFrom n 0 ys ++ rowsG n (gs ++ [(y.fs[y.j], peek s.xs (lifeA n y.gs y.j))])) := by
      rw [rowsG_snoc, List.append_assoc, List.append_assoc, hlf]
    have hgs' : (gs ++ [(y.fs[y.j], peek s.xs (lifeA n y.gs y.j))]).map (·.1) = y.fs.take (y.j + 1) := by
      rw [List.map_append, hgs, List.take_succ_eq_append_getElem hj]; rfl
    cases hz : ieq ((y.l - 1 : Nat) : Int) 0 with
    | false =>
      have hz' : y.l - 1 ≠ 0 := by
        rw [ieq_eq] at hz
        have : ((y.l - 1 : Nat) : Int) ≠ 0 := by simpa using hz
        omega
      have ee : enF t n ⟨4, false, false, x, y⟩ { st0 with sp := 0 } s = ⟨false, ⟨4, false, false, x, { y with j := y.j + 1, l := y.l - 1 }⟩, { st0 with sp := 0 }, s.added (lifeA n y.gs y.j) 1⟩ := by unfold enF; dsimp only; rw [hz] <;> rfl
      rw [ee]
      refine ⟨fun _ => ?_, fun c => Bool.noConfusion c⟩
      dsimp only
      rw [rowM_add hin, hrow]
      exact .swC x { y with j := y.j + 1, l := y.l - 1 } A1 b ys _ h0 h1 hR hwy hi h2 hk' hf hg (by dsimp only; omega) (by dsimp only; omega) hgs'
    | true =>
      have hz' : y.l - 1 = 0 := by
        rw [ieq_eq] at hz
        have : ((y.l - 1 : Nat) : Int) = 0 := by simpa using hz
        omega
      have hfne : y.fs ≠ [] := by intro c; rw [c] at hj; cases hj
      have hfz : ieq (y.fs.length : Int) 0 = false := by
        cases h : ieq (y.fs.length : Int) 0 with
        | false => rfl
        | true => exact absurd (nil_of h) hfne
      have ee : enF t n ⟨4, false, false, x, y⟩ { st0 with sp := 0 } s = ⟨false, ⟨0, false, true, x, y⟩, { st0 with sp := 0, R := y.ks }, s.added (lifeA n y.gs y.j) 1⟩ := by unfold enF; dsimp only; rw [hz, hfz] <;> rfl
      rw [ee]
      refine ⟨fun _ => ?_, fun c => Bool.noConfusion c⟩
      dsimp only
      rw [rowM_add hin, hrow]
      exact .again x y A1 _ b y.ks y.fs h0 h1 hR ⟨ys, _, hwy, hi, rfl, by rw [hgs', List.take_of_length_le (by omega)], hk', hf⟩ hfne
  | again x y A1 S b ks fs h0 h1 hR hS hf =>
    have ee : enF t n ⟨0, false, true, x, y⟩ ⟨st0.me, 0, ks⟩ s = enTake n ⟨0, false, true, x, y⟩ ⟨st0.me, 0, ks⟩ ⟨0, a, n, 0, false⟩ s := by rw [ha]; rfl
    rw [ee]
    have hc := enTake_case (e := ⟨0, false, true, x, y⟩) (st := ⟨st0.me, 0, ks⟩) (s := s) hn.1 ht.1 hlen hx0
    have e1 : ([] : List (List Int)) ++ freeRow n ⟨0, a, n, 0, false⟩ = [] := rfl
    rw [e1, List.nil_append] at hc
    cases hc with
    | got A2 b2 j y h hb ho hB hd hs ht =>
      rw [hB, hd, hs, ht]
      exact ⟨fun c => Bool.noConfusion c, fun _ => .got2 A1 S A2 b b2 j y ks fs h0 h1 hR hS hf h hb ho⟩
    | on x' A2 h hB hd he ht =>
      rw [hB, hd, he, ht]
      exact ⟨fun _ => .take2 x' y A1 S A2 b ks fs h0 h1 hR hS hf h, fun c => Bool.noConfusion c⟩
    | out x' b2 h hd he ht =>
      rw [hd, he, ht]
      exact ⟨fun c => Bool.noConfusion c, fun _ => .none2 A1 S _ b b2 ks fs h0 h1 hR hS hf h⟩
  | take2 x y A1 S A2 b ks fs h0 h1 hR hS hf hx =>
    have ee : enF t n ⟨1, false, true, x, y⟩ ⟨st0.me, 0, ks⟩ s = enTake n ⟨1, false, true, x, y⟩ ⟨st0.me, 0, ks⟩ x s := rfl
    rw [ee]
    have hc := enTake_case (e := ⟨1, false, true, x, y⟩) (st := ⟨st0.me, 0, ks⟩) (s := s) hn.1 ht.1 hlen hx
    rw [List.append_assoc (A1 ++ S)]
    cases hc with
    | got A3 b2 j y h hb ho hB hd hs ht =>
      rw [hB, hd, hs, ht]
      exact ⟨fun c => Bool.noConfusion c, fun _ => .got2 A1 S A3 b b2 j y ks fs h0 h1 hR hS hf h hb ho⟩
    | on x' A3 h hB hd he ht =>
      rw [hB, hd, he, ht]
      exact ⟨fun _ => .take2 x' y A1 S A3 b ks fs h0 h1 hR hS hf h, fun c => Bool.noConfusion c⟩
    | out x' b2 h hd he ht =>
      rw [hd, he, ht]
      exact ⟨fun c => Bool.noConfusion c, fun _ => .none2 A1 S _ b b2 ks fs h0 h1 hR hS hf h⟩
theorem his_tr {t n : Int} {x0 : AL} {y0 : SWS} {st0 : STS} (ht : 1 ≤ t ∧ t ≤ 8) (hn : 1 ≤ n ∧ n ≤ 1000) (hRn : ∀ r ∈ st0.R, 1 ≤ r ∧ r ≤ n) {k : Nat} {e : ENS} {st : STS} {A : List (List Int)} (h : enTr t n ⟨0, false, false, x0, y0⟩ st0 k e st A) : A.length = k ∧ HisE t n (at0 t n st0.me) n.toNat ⟨0, false, false, x0, y0⟩ st0 e st A := by
  induction h with
  | nil => exact ⟨rfl, .new⟩
  | snoc k e st A s h hw hl hd ih =>
    exact ⟨by rw [List.length_append, ih.1]; rfl, (his_step ht hn rfl rfl hRn ih.2 hw hl).1 hd⟩
theorem ScR.len {t n : Int} {R : List Int} {S : List (List Int)} {ks fs : List Int} (h : ScR t n R S ks fs) : (S.length : Int) ≤ 2 * t + R.length := by
  obtain ⟨ys, gs, h1, h2, h3, h4, h5, h6⟩ := h
  have e1 : gs.length = fs.length := by rw [← h4, List.length_map]
  have e2 : fs.length ≤ R.length := by rw [h6]; exact filt_len _ _
  rw [h3, List.length_append, rowsFrom_len]
  unfold rowsG
  rw [List.length_map]; omega
theorem freeRow_len (n : Int) (x : AL) : (freeRow n x).length ≤ 1 := by unfold freeRow; cases x.free <;> simp
/-- the steps are few, and the machine is as its step asks for -/
theorem his_ok {t n : Int} {x0 : AL} {y0 : SWS} {st0 : STS} (ht : 1 ≤ t ∧ t ≤ 8) (hn : 1 ≤ n ∧ n ≤ 30) (hm : 0 ≤ st0.me ∧ st0.me ≤ 1000) (hR : st0.R.length ≤ 40) (hRn : ∀ r ∈ st0.R, 1 ≤ r ∧ r ≤ n) {e : ENS} {st : STS} {A : List (List Int)}
    (h : HisE t n (at0 t n st0.me) n.toNat ⟨0, false, false, x0, y0⟩ st0 e st A) : A.length < 200 ∧ ∀ s : MS, 0 ≤ s.c ∧ s.c ≤ 1000000 → okE t n e st s := by
  cases h with
  | new => exact ⟨by simp, fun s hs => ⟨by omega, by omega, hs, hm, by omega, trivial⟩⟩
  | take x y A1 h0 hx =>
    refine ⟨?_, fun s hs => ⟨by omega, by omega, hs, hm, by omega, ⟨hx.hg, hx.ha, by show 0 ≤ x.left ∧ x.left ≤ 1000; have := hx.hl; omega⟩⟩⟩
    have := hx.tr.len; have := freeRow_len n x
    rw [List.length_append]; omega
  | swA x y A1 b h0 h1 hR' =>
    refine ⟨?_, fun s hs => ⟨by omega, by omega, hs, hm, by show st0.R.length ≤ _; omega, trivial⟩⟩
    have := h1.len; omega
  | swB x y A1 b ys h0 h1 hR' hw hi h2 hm' hN =>
    refine ⟨?_, fun s hs => ⟨by omega, by omega, hs, hm, by show st0.R.length ≤ _; omega, ?_⟩⟩
    · have := h1.len
      rw [List.length_append, rowsFrom_len]; omega
    · show y.N.length ≤ 1000000 ∧ 0 ≤ y.i ∧ y.i < 2 * t
      rw [hN]; omega
  | swC x y A1 b ys gs h0 h1 hR' hw hi h2 hk hf hg hj hl hgs =>
    have e2 : y.fs.length ≤ st0.R.length := by rw [hf]; exact filt_len _ _
    have e1 : gs.length ≤ y.fs.length := by
      have := congrArg List.length hgs
      rw [List.length_map, List.length_take] at this; omega
    refine ⟨?_, fun s hs => ⟨by omega, by omega, hs, hm, by show st0.R.length ≤ _; omega, ?_⟩⟩
    · have := h1.len
      rw [List.length_append, List.length_append, rowsFrom_len]
      unfold rowsG
      rw [List.length_map]; omega
    · show 2 * t ≤ y.i ∧ 1 ≤ y.l ∧ y.gs.length = y.j + y.l ∧ -1000000 ≤ List.getD y.gs (y.j + Int.toNat 0 * 1) 0 ∧ List.getD y.gs (y.j + Int.toNat 0 * 1) 0 ≤ 1000000
      have hfj : List.getD y.gs (y.j + Int.toNat 0 * 1) 0 = y.fs[y.j] := by
        rw [hg]
        show List.getD y.fs (y.j + 0) 0 = y.fs[y.j]
        rw [Nat.add_zero, List.getD_eq_getElem?_getD, List.getElem?_eq_getElem hj]; rfl
      have hfn : 1 ≤ y.fs[y.j] ∧ y.fs[y.j] ≤ n := by
        have hm1 : y.fs[y.j] ∈ y.fs := List.getElem_mem hj
        have hm2 : y.fs[y.j] ∈ freedL (seenOf ys) st0.R := by rw [← hf]; exact hm1
        unfold freedL at hm2
        exact hRn _ (List.mem_filter.1 hm2).1
      rw [hfj, hg]; omega
  | again x y A1 S b ks fs h0 h1 hR' hS hf =>
    have hkl : ks.length ≤ st0.R.length := by obtain ⟨ys, gs, q1, q2, q3, q4, q5, q6⟩ := hS; rw [q5]; exact filt_len _ _
    refine ⟨?_, fun s hs => ⟨by omega, by omega, hs, hm, by show ks.length ≤ _; omega, trivial⟩⟩
    have := h1.len; have := hS.len
    rw [List.length_append]; omega
  | take2 x y A1 S A2 b ks fs h0 h1 hR' hS hf hx =>
    have hkl : ks.length ≤ st0.R.length := by obtain ⟨ys, gs, q1, q2, q3, q4, q5, q6⟩ := hS; rw [q5]; exact filt_len _ _
    refine ⟨?_, fun s hs => ⟨by omega, by omega, hs, hm, by show ks.length ≤ _; omega, ⟨hx.hg, hx.ha, by show 0 ≤ x.left ∧ x.left ≤ 1000; have := hx.hl; omega⟩⟩⟩
    have := h1.len; have := hS.len; have := hx.tr.len; have := freeRow_len n x; have := hx.hl
    rw [List.length_append, List.length_append, List.length_append]; omega
theorem en_fin {t n : Int} {x0 : AL} {y0 : SWS} {st0 : STS} {r : ENR} (ht : 1 ≤ t ∧ t ≤ 8) (hn : 1 ≤ n ∧ n ≤ 1000) (hRn : ∀ r ∈ st0.R, 1 ≤ r ∧ r ≤ n) (h : enDone t n ⟨0, false, false, x0, y0⟩ st0 r) : FinE t n (at0 t n st0.me) n.toNat st0 r.A r.sh r.st := by
  obtain ⟨k, e, st, A, s, tr, hw, hl, hd, e1, e2, e3, e4⟩ := h
  have := (his_step ht hn rfl rfl hRn (his_tr ht hn hRn tr).2 hw hl).2 hd
  rw [e1, e2, e3]; exact this
end Go.Sh

/- A machine that sweeps, told whole: what a step comes to. -/
namespace Go.Sh
open Go Go.Proofs
variable [Con]
structure SO where
  d : Bool
  e : SWS
  st : STS
  s : MS
instance : Inhabited SO := ⟨⟨false, ⟨0, [], [], 0, [], [], [], 0, 0⟩, ⟨0, 0, []⟩, ⟨0, 0, [], 0, 0, 0, 0, 0, false⟩⟩⟩
/- OPQ -/
def swF (t n : Int) (y : SWS) (st : STS) (s : MS) : SO := match y.ph with
  | 0 => ⟨false, { y with ph := 1, N := st.R, m := seenM [] n 0 s, i := 1 }, st, s.loadd (slotA n 0)⟩
  | 1 => (match ieq (y.i + 1) (2 * t), ieq ((freedL (seenM y.m n y.i s) y.N).length : Int) 0 with
    | true, true => ⟨true, { y with ph := 3 }, { st with R := keptL (seenM y.m n y.i s) y.N }, s.loadd (slotA n y.i)⟩
    | true, false => ⟨false, ⟨2, y.N, seenM y.m n y.i s, y.i + 1, keptL (seenM y.m n y.i s) y.N, freedL (seenM y.m n y.i s) y.N, freedL (seenM y.m n y.i s) y.N, 0, (freedL (seenM y.m n y.i s) y.N).length⟩, st, s.loadd (slotA n y.i)⟩
    | false, _ => ⟨false, { y with m := seenM y.m n y.i s, i := y.i + 1 }, st, s.loadd (slotA n y.i)⟩)
  | _ => (match ieq ((y.l - 1 : Nat) : Int) 0 with
    | true => ⟨true, { y with ph := 3 }, { st with R := y.ks }, s.added (lifeA n y.gs y.j) 1⟩
    | false => ⟨false, { y with j := y.j + 1, l := y.l - 1 }, st, s.added (lifeA n y.gs y.j) 1⟩)
def okSwP (t n : Int) (y : SWS) : Prop := match y.ph with
  | 0 => True
  | 1 => y.N.length ≤ 1000000 ∧ 0 ≤ y.i ∧ y.i < 2 * t
  | 2 => 2 * t ≤ y.i ∧ 1 ≤ y.l ∧ y.gs.length = y.j + y.l ∧ -1000000 ≤ List.getD y.gs (y.j + Int.toNat 0 * 1) 0 ∧ List.getD y.gs (y.j + Int.toNat 0 * 1) 0 ≤ 1000000
  | _ => False
structure okSwp (t n : Int) (y : SWS) (st : STS) (s : MS) : Prop where
  ht : 1 ≤ t ∧ t ≤ 1000
  hn : 1 ≤ n ∧ n ≤ 1000
  hc : 0 ≤ s.c ∧ s.c ≤ 1000000
  hR : st.R.length ≤ 1000000
  ho : okSwP t n y
def swH (t n : Int) (y : SWS) (st : STS) (s : MS) : Heap Ob := [some (.abs (.sweep t n y) [1]), some (.abs (.store t n st) []), memC 3 s, memX s]
def SO.left (o : SO) (t n : Int) (K : AVal → Heap Ob → Prop) : Prop := K (.bool o.d) (swH t n o.e o.st o.s)
theorem shutS {K : AVal → Heap Ob → Prop} {t n : Int} {o : SO} {g' : Heap Ob} (pl : List Nat) (hK : o.left t n K)
    (hb : (goodPl pl g'.length && keeps pl 0 4 && obOk 1 (swG t n o.e)) = true)
    (hT : trimH pl g' = unpackH [some (.abs (.sweep t n o.e) [1]), some (.cells [.int .i64 t, .int .i64 n, .int .i64 o.st.me, .int .i64 o.st.sp, .slice 4 0 o.st.R.length 1]), memC 3 o.s, memX o.s, some (.ints (some .i64) o.st.R)] 0 1 (swG t n o.e) [1]) : PackK tbl 4 (PackK tbl 4 K) (.bool o.d) g' := by
  simp only [Bool.and_eq_true] at hb
  obtain ⟨⟨b1, b2⟩, b3⟩ := hb
  refine ⟨pl, _, .sweep t n o.e, 0, 1, _, [1], ?_, hT, rfl, rfl, ⟨[0, 1, 2, 3, 4], [some (.abs (.sweep t n o.e) [1]), some (.abs (.store t n o.st) []), memC 3 o.s, memX o.s], .store t n o.st, 1, 0, stG t n o.st, [], rfl, rfl, rfl, rfl, ?_⟩⟩
  · rw [b1, b2, b3]; rfl
  · exact hK
def sw0VC (t n me sp : Int) (R : List Int) (y : SWS) (s : MS) (K : AVal → Heap Ob → Prop) : Prop := ((List.length s.3 = List.length s.3 ∧ List.length R = List.length R) ∧ ((1 : Int) ≤ t ∧ t ≤ (1000 : Int)) ∧ ((1 : Int) ≤ n ∧ n ≤ (1000 : Int)) ∧ ((0 : Int) ≤ s.4 ∧ s.4 ≤ (1000000 : Int)) ∧ List.length R ≤ (1000000 : Nat)) ∧ K (AVal.bool false) [some (Entry.cells [AVal.ptr 1 0, AVal.ptr 5 0]), some (Entry.cells [AVal.int .i64 t, AVal.int .i64 n, AVal.int .i64 me, AVal.int .i64 sp, AVal.slice 4 0 (List.length R) 1]), some (Entry.cells [AVal.int .i64 s.1, AVal.int .i64 s.2, AVal.slice 3 0 (List.length s.3) 1, AVal.int .i64 (s.4 + 1), AVal.int .i64 1, AVal.int .i64 (slotA n 0), AVal.int .u64 (peek s.3 (slotA n 0)), AVal.int .u64 (peek s.3 (slotA n 0)), AVal.bool (inB s.3 (slotA n 0))]), some (Entry.ints (some .u64) s.3), some (Entry.ints (some .i64) R), some (Entry.cells [AVal.int .i64 t, AVal.int .i64 n, AVal.raw (Value.slice none 0 0), AVal.raw (Value.slice none 0 0), AVal.slice 6 0 (List.length R) 1, AVal.map 7, AVal.int .i64 1, AVal.raw (Value.pointer none)]), some (Entry.ints (some .i64) R), some (Entry.imap .i64 none (seenM [] n 0 s))]
theorem sw0' (t n me sp : Int) (R : List Int) (y : SWS) (s : MS) (K : AVal → Heap Ob → Prop) (hK : sw0VC t n me sp R y s K) : CallOk (obI tbl) Try.prog 128 [.ptr 0 0, .ptr 2 0] [some (.cells [.ptr 1 0, .raw (.pointer none)]), some (.cells [.int .i64 t, .int .i64 n, .int .i64 me, .int .i64 sp, .slice 4 0 R.length 1]), memC 3 s, memX s, some (.ints (some .i64) R)] K :=
  (canonC_ok swStep_ok) _ _ _ (Ev.get (of_nf (p := canonC swStepS [.ptr 0 0, .ptr 2 0] [some (.cells [.ptr 1 0, .raw (.pointer none)]), some (.cells [.int .i64 t, .int .i64 n, .int .i64 me, .int .i64 sp, .slice 4 0 R.length 1]), memC 3 s, memX s, some (.ints (some .i64) R)] K) (q := sw0VC t n me sp R y s K) (by kernel_rfl) hK))
def sw1VC (t n me sp : Int) (R : List Int) (y : SWS) (s : MS) (K : AVal → Heap Ob → Prop) : Prop := ((List.length s.3 = List.length s.3 ∧ List.length R = List.length R ∧ List.length y.2 = List.length y.2 ∧ t = t ∧ n = n) ∧ ((1 : Int) ≤ t ∧ t ≤ (1000 : Int)) ∧ ((1 : Int) ≤ n ∧ n ≤ (1000 : Int)) ∧ ((0 : Int) ≤ s.4 ∧ s.4 ≤ (1000000 : Int)) ∧ List.length y.2 ≤ (1000000 : Nat) ∧ (0 : Int) ≤ y.4 ∧ y.4 < (2 : Int) * t) ∧ bif ieq (y.4 + 1) (2 * t) then bif ieq (↑(List.length (freedL (seenM y.3 n y.4 s) y.2)) : Int) 0 then K (AVal.bool true) [some (Entry.cells [AVal.ptr 1 0, AVal.ptr 5 0]), some (Entry.cells [AVal.int .i64 t, AVal.int .i64 n, AVal.int .i64 me, AVal.int .i64 sp, AVal.slice 8 0 (List.length (keptL (seenM y.3 n y.4 s) y.2)) 1]), some (Entry.cells [AVal.int .i64 s.1, AVal.int .i64 s.2, AVal.slice 3 0 (List.length s.3) 1, AVal.int .i64 (s.4 + 1), AVal.int .i64 1, AVal.int .i64 (slotA n y.4), AVal.int .u64 (peek s.3 (slotA n y.4)), AVal.int .u64 (peek s.3 (slotA n y.4)), AVal.bool (inB s.3 (slotA n y.4))]), some (Entry.ints (some .u64) s.3), some (Entry.ints (some .i64) R), some (Entry.cells [AVal.int .i64 t, AVal.int .i64 n, AVal.slice 8 0 (List.length (keptL (seenM y.3 n y.4 s) y.2)) 1, AVal.slice 9 0 (List.length (freedL (seenM y.3 n y.4 s) y.2)) 1, AVal.slice 6 0 (List.length y.2) 1, AVal.map 7, AVal.int .i64 (y.4 + 1), AVal.ptr 10 0]), some (Entry.ints (some .i64) y.2), some (Entry.imap .i64 none (seenM y.3 n y.4 s)), some (Entry.ints (some .i64) (keptL (seenM y.3 n y.4 s) y.2)), some (Entry.ints (some .i64) (freedL (seenM y.3 n y.4 s) y.2)), some (Entry.cells [AVal.int .i64 t, AVal.int .i64 n, AVal.slice 11 0 (List.length (freedL (seenM y.3 n y.4 s) y.2)) 1]), some (Entry.ints (some .i64) (freedL (seenM y.3 n y.4 s) y.2))] else K (AVal.bool false) [some (Entry.cells [AVal.ptr 1 0, AVal.ptr 5 0]), some (Entry.cells [AVal.int .i64 t, AVal.int .i64 n, AVal.int .i64 me, AVal.int .i64 sp, AVal.slice 4 0 (List.length R) 1]), some (Entry.cells [AVal.int .i64 s.1, AVal.int .i64 s.2, AVal.slice 3 0 (List.length s.3) 1, AVal.int .i64 (s.4 + 1), AVal.int .i64 1, AVal.int .i64 (slotA n y.4), AVal.int .u64 (peek s.3 (slotA n y.4)), AVal.int .u64 (peek s.3 (slotA n y.4)), AVal.bool (inB s.3 (slotA n y.4))]), some (Entry.ints (some .u64) s.3), some (Entry.ints (some .i64) R), some (Entry.cells [AVal.int .i64 t, AVal.int .i64 n, AVal.slice 8 0 (List.length (keptL (seenM y.3 n y.4 s) y.2)) 1, AVal.slice 9 0 (List.length (freedL (seenM y.3 n y.4 s) y.2)) 1, AVal.slice 6 0 (List.length y.2) 1, AVal.map 7, AVal.int .i64 (y.4 + 1), AVal.ptr 10 0]), some (Entry.ints (some .i64) y.2), some (Entry.imap .i64 none (seenM y.3 n y.4 s)), some (Entry.ints (some .i64) (keptL (seenM y.3 n y.4 s) y.2)), some (Entry.ints (some .i64) (freedL (seenM y.3 n y.4 s) y.2)), some (Entry.cells [AVal.int .i64 t, AVal.int .i64 n, AVal.slice 11 0 (List.length (freedL (seenM y.3 n y.4 s) y.2)) 1]), some (Entry.ints (some .i64) (freedL (seenM y.3 n y.4 s) y.2))] else K (AVal.bool false) [some (Entry.cells [AVal.ptr 1 0, AVal.ptr 5 0]), some (Entry.cells [AVal.int .i64 t, AVal.int .i64 n, AVal.int .i64 me, AVal.int .i64 sp, AVal.slice 4 0 (List.length R) 1]), some (Entry.cells [AVal.int .i64 s.1, AVal.int .i64 s.2, AVal.slice 3 0 (List.length s.3) 1, AVal.int .i64 (s.4 + 1), AVal.int .i64 1, AVal.int .i64 (slotA n y.4), AVal.int .u64 (peek s.3 (slotA n y.4)), AVal.int .u64 (peek s.3 (slotA n y.4)), AVal.bool (inB s.3 (slotA n y.4))]), some (Entry.ints (some .u64) s.3), some (Entry.ints (some .i64) R), some (Entry.cells [AVal.int .i64 t, AVal.int .i64 n, AVal.raw (Value.slice none 0 0), AVal.raw (Value.slice none 0 0), AVal.slice 6 0 (List.length y.2) 1, AVal.map 7, AVal.int .i64 (y.4 + 1), AVal.raw (Value.pointer none)]), some (Entry.ints (some .i64) y.2), some (Entry.imap .i64 none (seenM y.3 n y.4 s))]
theorem sw1' (t n me sp : Int) (R : List Int) (y : SWS) (s : MS) (K : AVal → Heap Ob → Prop) (hK : sw1VC t n me sp R y s K) : CallOk (obI tbl) Try.prog 128 [.ptr 0 0, .ptr 2 0] [some (.cells [.ptr 1 0, .ptr 5 0]), some (.cells [.int .i64 t, .int .i64 n, .int .i64 me, .int .i64 sp, .slice 4 0 R.length 1]), memC 3 s, memX s, some (.ints (some .i64) R), some (.cells [.int .i64 t, .int .i64 n, .raw (.slice none 0 0), .raw (.slice none 0 0), .slice 6 0 y.N.length 1, .map 7, .int .i64 y.i, .raw (.pointer none)]), some (.ints (some .i64) y.N), some (.imap .i64 none y.m)] K :=
  (canonC_ok swStep_ok) _ _ _ (Ev.get (of_nf (p := canonC swStepS [.ptr 0 0, .ptr 2 0] [some (.cells [.ptr 1 0, .ptr 5 0]), some (.cells [.int .i64 t, .int .i64 n, .int .i64 me, .int .i64 sp, .slice 4 0 R.length 1]), memC 3 s, memX s, some (.ints (some .i64) R), some (.cells [.int .i64 t, .int .i64 n, .raw (.slice none 0 0), .raw (.slice none 0 0), .slice 6 0 y.N.length 1, .map 7, .int .i64 y.i, .raw (.pointer none)]), some (.ints (some .i64) y.N), some (.imap .i64 none y.m)] K) (q := sw1VC t n me sp R y s K) (by kernel_rfl) hK))
def sw2VC (t n me sp : Int) (R : List Int) (y : SWS) (s : MS) (K : AVal → Heap Ob → Prop) : Prop := ((List.length s.3 = List.length s.3 ∧ List.length R = List.length R ∧ List.length y.5 = List.length y.5 ∧ List.length y.6 = List.length y.6 ∧ List.length y.2 = List.length y.2 ∧ t = t ∧ n = n ∧ t = t ∧ n = n) ∧ ((1 : Int) ≤ t ∧ t ≤ (1000 : Int)) ∧ ((1 : Int) ≤ n ∧ n ≤ (1000 : Int)) ∧ ((0 : Int) ≤ s.4 ∧ s.4 ≤ (1000000 : Int)) ∧ 2 * t ≤ y.4 ∧ ((1 : Nat) ≤ y.9 ∧ List.length y.7 = y.8 + y.9) ∧ (-1000000 : Int) ≤ List.getD y.7 (y.8 + Int.toNat 0 * 1) 0 ∧ List.getD y.7 (y.8 + Int.toNat 0 * 1) (0 : Int) ≤ (1000000 : Int)) ∧ bif ieq (↑(y.9 - 1) : Int) 0 then K (AVal.bool true) [some (Entry.cells [AVal.ptr 1 0, AVal.ptr 5 0]), some (Entry.cells [AVal.int .i64 t, AVal.int .i64 n, AVal.int .i64 me, AVal.int .i64 sp, AVal.slice 6 0 (List.length y.5) 1]), some (Entry.cells [AVal.int .i64 s.1, AVal.int .i64 s.2, AVal.slice 3 0 (List.length (putI s.3 (lifeA n y.7 y.8) (WU (peek s.3 (lifeA n y.7 y.8) + 1)))) 1, AVal.int .i64 (s.4 + 1), AVal.int .i64 4, AVal.int .i64 (lifeA n y.7 y.8), AVal.int .u64 (peek s.3 (lifeA n y.7 y.8)), AVal.int .u64 (bif inB s.3 (lifeA n y.7 y.8) then WU (peek s.3 (lifeA n y.7 y.8) + 1) else 0), AVal.bool (inB s.3 (lifeA n y.7 y.8))]), some (Entry.ints (some .u64) (putI s.3 (lifeA n y.7 y.8) (WU (peek s.3 (lifeA n y.7 y.8) + 1)))), some (Entry.ints (some .i64) R), some (Entry.cells [AVal.int .i64 t, AVal.int .i64 n, AVal.slice 6 0 (List.length y.5) 1, AVal.slice 7 0 (List.length y.6) 1, AVal.slice 8 0 (List.length y.2) 1, AVal.map 9, AVal.int .i64 y.4, AVal.ptr 10 0]), some (Entry.ints (some .i64) y.5), some (Entry.ints (some .i64) y.6), some (Entry.ints (some .i64) y.2), some (Entry.imap .i64 none y.3), some (Entry.cells [AVal.int .i64 t, AVal.int .i64 n, AVal.slice 11 (y.8 + 1) (y.9 - 1) 1]), some (Entry.ints (some .i64) y.7)] else K (AVal.bool false) [some (Entry.cells [AVal.ptr 1 0, AVal.ptr 5 0]), some (Entry.cells [AVal.int .i64 t, AVal.int .i64 n, AVal.int .i64 me, AVal.int .i64 sp, AVal.slice 4 0 (List.length R) 1]), some (Entry.cells [AVal.int .i64 s.1, AVal.int .i64 s.2, AVal.slice 3 0 (List.length (putI s.3 (lifeA n y.7 y.8) (WU (peek s.3 (lifeA n y.7 y.8) + 1)))) 1, AVal.int .i64 (s.4 + 1), AVal.int .i64 4, AVal.int .i64 (lifeA n y.7 y.8), AVal.int .u64 (peek s.3 (lifeA n y.7 y.8)), AVal.int .u64 (bif inB s.3 (lifeA n y.7 y.8) then WU (peek s.3 (lifeA n y.7 y.8) + 1) else 0), AVal.bool (inB s.3 (lifeA n y.7 y.8))]), some (Entry.ints (some .u64) (putI s.3 (lifeA n y.7 y.8) (WU (peek s.3 (lifeA n y.7 y.8) + 1)))), some (Entry.ints (some .i64) R), some (Entry.cells [AVal.int .i64 t, AVal.int .i64 n, AVal.slice 6 0 (List.length y.5) 1, AVal.slice 7 0 (List.length y.6) 1, AVal.slice 8 0 (List.length y.2) 1, AVal.map 9, AVal.int .i64 y.4, AVal.ptr 10 0]), some (Entry.ints (some .i64) y.5), some (Entry.ints (some .i64) y.6), some (Entry.ints (some .i64) y.2), some (Entry.imap .i64 none y.3), some (Entry.cells [AVal.int .i64 t, AVal.int .i64 n, AVal.slice 11 (y.8 + 1) (y.9 - 1) 1]), some (Entry.ints (some .i64) y.7)]
theorem sw2' (t n me sp : Int) (R : List Int) (y : SWS) (s : MS) (K : AVal → Heap Ob → Prop) (hK : sw2VC t n me sp R y s K) : CallOk (obI tbl) Try.prog 128 [.ptr 0 0, .ptr 2 0] [some (.cells [.ptr 1 0, .ptr 5 0]), some (.cells [.int .i64 t, .int .i64 n, .int .i64 me, .int .i64 sp, .slice 4 0 R.length 1]), memC 3 s, memX s, some (.ints (some .i64) R), some (.cells [.int .i64 t, .int .i64 n, .slice 6 0 y.ks.length 1, .slice 7 0 y.fs.length 1, .slice 8 0 y.N.length 1, .map 9, .int .i64 y.i, .ptr 10 0]), some (.ints (some .i64) y.ks), some (.ints (some .i64) y.fs), some (.ints (some .i64) y.N), some (.imap .i64 none y.m), some (.cells [.int .i64 t, .int .i64 n, .slice 11 y.j y.l 1]), some (.ints (some .i64) y.gs)] K :=
  (canonC_ok swStep_ok) _ _ _ (Ev.get (of_nf (p := canonC swStepS [.ptr 0 0, .ptr 2 0] [some (.cells [.ptr 1 0, .ptr 5 0]), some (.cells [.int .i64 t, .int .i64 n, .int .i64 me, .int .i64 sp, .slice 4 0 R.length 1]), memC 3 s, memX s, some (.ints (some .i64) R), some (.cells [.int .i64 t, .int .i64 n, .slice 6 0 y.ks.length 1, .slice 7 0 y.fs.length 1, .slice 8 0 y.N.length 1, .map 9, .int .i64 y.i, .ptr 10 0]), some (.ints (some .i64) y.ks), some (.ints (some .i64) y.fs), some (.ints (some .i64) y.N), some (.imap .i64 none y.m), some (.cells [.int .i64 t, .int .i64 n, .slice 11 y.j y.l 1]), some (.ints (some .i64) y.gs)] K) (q := sw2VC t n me sp R y s K) (by kernel_rfl) hK))
end Go.Sh

/- A machine that sweeps, told whole: its step. -/
namespace Go.Sh
open Go Go.Proofs
variable [Con]
theorem wsames : ∀ g : Heap Ob, weakH g g
  | [] => trivial
  | x :: g => ⟨wsame x, wsames g⟩
theorem less_id {K : AVal → Heap Ob → Prop} {v : AVal} {g : Heap Ob} (h : K v g) : LessK K v g := ⟨g, wsames g, h⟩
/-- the first object's second part is told no more -/
theorem less_top {K : AVal → Heap Ob → Prop} {v a b : AVal} {g : Heap Ob} (h : K v (some (.cells [a, .top]) :: g)) : LessK K v (some (.cells [a, b]) :: g) := ⟨_, wc (wcell (wv (.inl rfl) (wv (.inr rfl) vend))) (wsames g), h⟩
theorem sw0 (t n : Int) (y : SWS) (st : STS) (s : MS) (K : AVal → Heap Ob → Prop) (hp : y.ph = 0) (ok : okSwp t n y st s) (hK : (swF t n y st s).left t n K) : CallOk (obI tbl) Try.prog 128 [.ptr 0 0, .ptr 2 0] (swH t n y st s) K := by
  obtain ⟨ht, hn, hc, hR, ho⟩ := ok
  obtain ⟨ph, N, m, i, ks, fs, gs, j, l⟩ := y
  dsimp only at hp
  subst hp
  obtain ⟨me, sp, R⟩ := st
  dsimp only at hR
  refine CallOk.pack tbl (CallOk.pack tbl (CallOk.less ?_))
  refine CallOk.unpack tbl (.store t n ⟨me, sp, R⟩) 1 0 (stG t n ⟨me, sp, R⟩) [] rfl rfl rfl rfl ?_
  refine CallOk.unpack tbl (.sweep t n ⟨0, N, m, i, ks, fs, gs, j, l⟩) 0 1 (swG t n ⟨0, N, m, i, ks, fs, gs, j, l⟩) [1] rfl rfl rfl rfl ?_
  refine sw0' t n me sp R ⟨0, N, m, i, ks, fs, gs, j, l⟩ s _ ?_
  unfold sw0VC
  exact ⟨⟨⟨rfl, rfl⟩, ht, hn, hc, hR⟩, less_id (shutS (o := swF t n ⟨0, N, m, i, ks, fs, gs, j, l⟩ ⟨me, sp, R⟩ s) [0, 1, 2, 3, 4, 5, 6, 7] hK rfl rfl)⟩
theorem sw1 (t n : Int) (y : SWS) (st : STS) (s : MS) (K : AVal → Heap Ob → Prop) (hp : y.ph = 1) (ok : okSwp t n y st s) (hK : (swF t n y st s).left t n K) : CallOk (obI tbl) Try.prog 128 [.ptr 0 0, .ptr 2 0] (swH t n y st s) K := by
  obtain ⟨ht, hn, hc, hR, ho⟩ := ok
  obtain ⟨ph, N, m, i, ks, fs, gs, j, l⟩ := y
  dsimp only at hp
  subst hp
  obtain ⟨me, sp, R⟩ := st
  dsimp only at hR
  refine CallOk.pack tbl (CallOk.pack tbl (CallOk.less ?_))
  refine CallOk.unpack tbl (.store t n ⟨me, sp, R⟩) 1 0 (stG t n ⟨me, sp, R⟩) [] rfl rfl rfl rfl ?_
  refine CallOk.unpack tbl (.sweep t n ⟨1, N, m, i, ks, fs, gs, j, l⟩) 0 1 (swG t n ⟨1, N, m, i, ks, fs, gs, j, l⟩) [1] rfl rfl rfl rfl ?_
  refine sw1' t n me sp R ⟨1, N, m, i, ks, fs, gs, j, l⟩ s _ ?_
  unfold sw1VC
  have ho : N.length ≤ 1000000 ∧ 0 ≤ i ∧ i < 2 * t := ho
  refine ⟨⟨⟨rfl, rfl, rfl, rfl, rfl⟩, ht, hn, hc, ho.1, ho.2⟩, ?_⟩
  unfold swF at hK
  dsimp only at hK ⊢
  cases h1 : ieq (i + 1) (2 * t) with
  | false =>
    rw [h1] at hK
    exact less_id (shutS (o := ⟨false, ⟨1, N, seenM m n i s, i + 1, ks, fs, gs, j, l⟩, ⟨me, sp, R⟩, s.loadd (slotA n i)⟩) [0, 1, 2, 3, 4, 5, 6, 7] hK rfl rfl)
  | true =>
    rw [h1] at hK
    cases h2 : ieq ((freedL (seenM m n i s) N).length : Int) 0 with
    | true =>
      rw [h2] at hK
      exact less_top (shutS (o := ⟨true, ⟨3, N, m, i, ks, fs, gs, j, l⟩, ⟨me, sp, keptL (seenM m n i s) N⟩, s.loadd (slotA n i)⟩) [0, 1, 2, 3, 8] hK rfl rfl)
    | false =>
      rw [h2] at hK
      exact less_id (shutS (o := ⟨false, ⟨2, N, seenM m n i s, i + 1, keptL (seenM m n i s) N, freedL (seenM m n i s) N, freedL (seenM m n i s) N, 0, (freedL (seenM m n i s) N).length⟩, ⟨me, sp, R⟩, s.loadd (slotA n i)⟩) [0, 1, 2, 3, 4, 5, 8, 9, 6, 7, 10, 11] hK rfl rfl)
theorem sw2 (t n : Int) (y : SWS) (st : STS) (s : MS) (K : AVal → Heap Ob → Prop) (hp : y.ph = 2) (ok : okSwp t n y st s) (hK : (swF t n y st s).left t n K) : CallOk (obI tbl) Try.prog 128 [.ptr 0 0, .ptr 2 0] (swH t n y st s) K := by
  obtain ⟨ht, hn, hc, hR, ho⟩ := ok
  obtain ⟨ph, N, m, i, ks, fs, gs, j, l⟩ := y
  dsimp only at hp
  subst hp
  obtain ⟨me, sp, R⟩ := st
  dsimp only at hR
  refine CallOk.pack tbl (CallOk.pack tbl (CallOk.less ?_))
  refine CallOk.unpack tbl (.store t n ⟨me, sp, R⟩) 1 0 (stG t n ⟨me, sp, R⟩) [] rfl rfl rfl rfl ?_
  refine CallOk.unpack tbl (.sweep t n ⟨2, N, m, i, ks, fs, gs, j, l⟩) 0 1 (swG t n ⟨2, N, m, i, ks, fs, gs, j, l⟩) [1] rfl rfl rfl rfl ?_
  refine sw2' t n me sp R ⟨2, N, m, i, ks, fs, gs, j, l⟩ s _ ?_
  unfold sw2VC
  have ho : 2 * t ≤ i ∧ 1 ≤ l ∧ gs.length = j + l ∧ -1000000 ≤ List.getD gs (j + Int.toNat 0 * 1) 0 ∧ List.getD gs (j + Int.toNat 0 * 1) 0 ≤ 1000000 := ho
  refine ⟨⟨⟨rfl, rfl, rfl, rfl, rfl, rfl, rfl, rfl, rfl⟩, ht, hn, hc, ho.1, ⟨ho.2.1, ho.2.2.1⟩, ho.2.2.2⟩, ?_⟩
  unfold swF at hK
  dsimp only at hK ⊢
  cases h1 : ieq ((l - 1 : Nat) : Int) 0 with
  | false =>
    rw [h1] at hK
    exact less_id (shutS (o := ⟨false, ⟨2, N, m, i, ks, fs, gs, j + 1, l - 1⟩, ⟨me, sp, R⟩, s.added (lifeA n gs j) 1⟩) [0, 1, 2, 3, 4, 5, 6, 7, 8, 9, 10, 11] hK rfl rfl)
  | true =>
    rw [h1] at hK
    exact less_top (shutS (o := ⟨true, ⟨3, N, m, i, ks, fs, gs, j, l⟩, ⟨me, sp, ks⟩, s.added (lifeA n gs j) 1⟩) [0, 1, 2, 3, 6] hK rfl rfl)
theorem sw_step (t n : Int) (y : SWS) (st : STS) (s : MS) (K : AVal → Heap Ob → Prop) (ok : okSwp t n y st s) (hK : (swF t n y st s).left t n K) : CallOk (obI tbl) Try.prog 128 [.ptr 0 0, .ptr 2 0] (swH t n y st s) K := by
  match h : y.ph with
  | 0 => exact sw0 t n y st s K h ok hK
  | 1 => exact sw1 t n y st s K h ok hK
  | 2 => exact sw2 t n y st s K h ok hK
  | k + 3 => have := ok.ho; unfold okSwP at this; rw [h] at this; exact this.elim
noncomputable def swS : Spec Ob := fun args h => match args, h with
  | [.ptr 0 0, .ptr 2 0], [some (.abs (.sweep t n e) [1]), some (.abs (.store t' n' st) []), e1, e2] => (match memL 3 [e1, e2] with
    | some (l, s) => some (.pre ((l = s.xs.length ∧ t' = t ∧ n' = n) ∧ okSwp t n e st s) (.ret (.bool (swF t n e st s).d) (swH t n (swF t n e st s).e (swF t n e st s).st (swF t n e st s).s)))
    | none => none)
  | _, _ => none
theorem sw_ok : Spec.ok E42.I Try.prog 128 swS := by
  intro args h o ho K hK
  unfold swS at ho
  split at ho
  case h_2 => cases ho
  split at ho
  case h_2 => cases ho
  rename_i hm
  simp only [Option.some.injEq] at ho; subst ho
  obtain ⟨⟨⟨hl, ht', hn'⟩, ok⟩, hK⟩ := hK
  have hh := memL_eq hm hl
  simp only [List.cons.injEq, and_true] at hh
  obtain ⟨rfl, rfl⟩ := hh
  subst ht' hn'
  exact sw_step _ _ _ _ _ K ok hK
noncomputable def swE := E42.addS 128 swS sw_ok
end Go.Sh

/- A machine that sweeps, run. -/
namespace Go.Sh
open Go Go.Proofs
variable [Con]
/-- a machine's steps, none of them its last, alone -/
inductive swRn (t n : Int) (e0 : SWS) (st0 : STS) (s0 : MS) : Nat → SWS → STS → MS → Prop where
  | nil : swRn t n e0 st0 s0 0 e0 st0 s0
  | snoc (k : Nat) (e : SWS) (st : STS) (s : MS) (h : swRn t n e0 st0 s0 k e st s) (hd : (swF t n e st s).d = false) : swRn t n e0 st0 s0 (k + 1) (swF t n e st s).e (swF t n e st s).st (swF t n e st s).s
/-- all its steps -/
structure swEnd (t n : Int) (e0 : SWS) (st0 : STS) (s0 : MS) (k : Nat) (e : SWS) (st : STS) (s : MS) : Prop where
  ex : ∃ k1 e1 st1 s1, k = k1 + 1 ∧ swRn t n e0 st0 s0 k1 e1 st1 s1 ∧ (swF t n e1 st1 s1).d = true ∧ e = (swF t n e1 st1 s1).e ∧ st = (swF t n e1 st1 s1).st ∧ s = (swF t n e1 st1 s1).s
structure swY where
  k : Nat
  dn : Bool
  e : SWS
  st : STS
  s : MS
structure swRo (t n : Int) (e0 : SWS) (st0 : STS) (s0 : MS) (x : swY) : Prop where
  hk : x.k ≤ 100
  hd : match x.dn with
    | false => swRn t n e0 st0 s0 x.k x.e x.st x.s
    | true => swEnd t n e0 st0 s0 x.k x.e x.st x.s
def swR (t n : Int) (e0 : SWS) (st0 : STS) (s0 : MS) : Hint Ob := { X := swY, st := fun x => ([.ptr 0 0, .int .i64 100, .top, .top, .top, .top, .top, .top, .int .i64 (x.k : Int), .top, .iface 49 (.ptr 3 0), .bool x.dn, .top, .int .i64 1, .int .i64 0] ++ List.replicate 16 .top, mH x.s ++ [some (.cells [.iface 49 (.ptr 3 0)]), some (.abs (.sweep t n x.e) [4]), some (.abs (.store t n x.st) [])]), ok := swRo t n e0 st0 s0, mu := fun x => 2 * (100 - x.k) + (match x.dn with | true => 0 | false => 1), keep := [0, 1, 8, 10, 11, 13, 14] }
def swRP (t n : Int) (e0 : SWS) (st0 : STS) (s0 : MS) : FuncId → Nat → Option (Plan Ob) := fun _ k => if k = 3 then some (.rounds 2) else some (.states (swR t n e0 st0 s0))
def swRVC (t n : Int) (e0 : SWS) (st0 : STS) (s : MS) (K : AVal → Heap Ob → Prop) : Prop := ((0 : Int) ≤ (0 : Int) ∧ (0 : Int) < (↑1 : Int)) ∧ okSt (swR t n e0 st0 s) (Hint.ok (swR t n e0 st0 s)) [AVal.ptr 0 0, AVal.int .i64 100, AVal.top, AVal.top, AVal.top, AVal.top, AVal.top, AVal.top, AVal.int .i64 0, AVal.top, AVal.iface 49 (AVal.ptr 3 0), AVal.bool false, AVal.top, AVal.int .i64 (↑1 : Int), AVal.int .i64 0, AVal.top, AVal.top, AVal.top, AVal.top, AVal.top, AVal.top, AVal.top, AVal.top, AVal.top, AVal.top, AVal.top, AVal.top, AVal.top, AVal.top, AVal.top, AVal.top] [some (Entry.cells [AVal.int .i64 s.1, AVal.int .i64 s.2, AVal.slice 1 0 (List.length s.3) 1, AVal.int .i64 s.4, AVal.int .i64 s.5, AVal.int .i64 s.6, AVal.int .u64 s.7, AVal.int .u64 s.8, AVal.bool s.9]), some (Entry.ints (some .u64) s.3), some (Entry.cells [AVal.iface 49 (AVal.ptr 3 0)]), some (Entry.abs (Mc.sweep t n e0) [4]), some (Entry.abs (Mc.store t n st0) [])] ∧ ∀ (x : swY), swRo t n e0 st0 s x → bif !x.2 then bif ile 100 (↑x.1 : Int) then K (AVal.tup [AVal.int .i64 (↑x.1 : Int), AVal.bool false]) [some (Entry.cells [AVal.int .i64 (swY.s x).1, AVal.int .i64 (swY.s x).2, AVal.slice 1 0 (List.length (swY.s x).3) 1, AVal.int .i64 (swY.s x).4, AVal.int .i64 (swY.s x).5, AVal.int .i64 (swY.s x).6, AVal.int .u64 (swY.s x).7, AVal.int .u64 (swY.s x).8, AVal.bool (swY.s x).9]), some (Entry.ints (some .u64) (swY.s x).3), some (Entry.cells [AVal.iface 49 (AVal.ptr 3 0)]), some (Entry.abs (Mc.sweep t n x.3) [4]), some (Entry.abs (Mc.store t n x.4) [])] else ((List.length (swY.s x).3 = List.length (swY.s x).3 ∧ t = t ∧ n = n) ∧ okSwp t n (swY.e x) (swY.st x) { t := (swY.s x).1, n := (swY.s x).2, xs := (swY.s x).3, c := (swY.s x).4, k := (swY.s x).5, a := (swY.s x).6, o := (swY.s x).7, w := (swY.s x).8, ok := (swY.s x).9 }) ∧ okSt (swR t n e0 st0 s) (fun x' => Hint.ok (swR t n e0 st0 s) x' ∧ Hint.mu (swR t n e0 st0 s) x' < Hint.mu (swR t n e0 st0 s) x) [AVal.ptr 0 0, AVal.int .i64 100, AVal.top, AVal.top, AVal.top, AVal.top, AVal.top, AVal.top, AVal.int .i64 (W ((↑x.1 : Int) + 1)), AVal.top, AVal.iface 49 (AVal.ptr 3 0), AVal.bool (swF t n x.3 x.4 x.5).1, AVal.top, AVal.int .i64 1, AVal.int .i64 0, AVal.top, AVal.top, AVal.top, AVal.top, AVal.top, AVal.top, AVal.top, AVal.top, AVal.top, AVal.top, AVal.top, AVal.top, AVal.top, AVal.top, AVal.top, AVal.top] [some (Entry.cells [AVal.int .i64 (SO.s (swF t n x.3 x.4 x.5)).1, AVal.int .i64 (SO.s (swF t n x.3 x.4 x.5)).2, AVal.slice 1 0 (List.length (SO.s (swF t n x.3 x.4 x.5)).3) 1, AVal.int .i64 (SO.s (swF t n x.3 x.4 x.5)).4, AVal.int .i64 (SO.s (swF t n x.3 x.4 x.5)).5, AVal.int .i64 (SO.s (swF t n x.3 x.4 x.5)).6, AVal.int .u64 (SO.s (swF t n x.3 x.4 x.5)).7, AVal.int .u64 (SO.s (swF t n x.3 x.4 x.5)).8, AVal.bool (SO.s (swF t n x.3 x.4 x.5)).9]), some (Entry.ints (some .u64) (SO.s (swF t n x.3 x.4 x.5)).3), some (Entry.cells [AVal.iface 49 (AVal.ptr 3 0)]), some (Entry.abs (Mc.sweep t n (swF t n x.3 x.4 x.5).2) [4]), some (Entry.abs (Mc.store t n (swF t n x.3 x.4 x.5).3) [])] else K (AVal.tup [AVal.int .i64 (↑x.1 : Int), AVal.bool true]) [some (Entry.cells [AVal.int .i64 (swY.s x).1, AVal.int .i64 (swY.s x).2, AVal.slice 1 0 (List.length (swY.s x).3) 1, AVal.int .i64 (swY.s x).4, AVal.int .i64 (swY.s x).5, AVal.int .i64 (swY.s x).6, AVal.int .u64 (swY.s x).7, AVal.int .u64 (swY.s x).8, AVal.bool (swY.s x).9]), some (Entry.ints (some .u64) (swY.s x).3), some (Entry.cells [AVal.iface 49 (AVal.ptr 3 0)]), some (Entry.abs (Mc.sweep t n x.3) [4]), some (Entry.abs (Mc.store t n x.4) [])]
theorem sw_rprint (t n : Int) (e0 : SWS) (st0 : STS) (s : MS) (K : AVal → Heap Ob → Prop) (hK : swRVC t n e0 st0 s K) : CallOk (obI tbl) Try.prog 21 [.ptr 0 0, .int .i64 100, .slice 2 0 1 1] (mH s ++ [some (.cells [.iface 49 (.ptr 3 0)]), some (.abs (.sweep t n e0) [4]), some (.abs (.store t n st0) [])]) K := by
  refine CallOk.trim (callOk_of (E := swE) Try.checked.mixed (L := swRP t n e0 st0 s) (n := 10) (of_nf (q := swRVC t n e0 st0 s K) (by kernel_rfl) hK))
end Go.Sh

/- A machine that sweeps, run: what comes of it. -/
namespace Go.Sh
open Go Go.Proofs
variable [Con]
set_option maxRecDepth 20000 in
theorem sw_run (t n : Int) (e0 : SWS) (st0 : STS) (s0 : MS) (K : AVal → Heap Ob → Prop)
    (hinv : ∀ k e st s, swRn t n e0 st0 s0 k e st s → k < 100 ∧ okSwp t n e st s)
    (hK : ∀ k e st s, k ≤ 100 → swEnd t n e0 st0 s0 k e st s → K (.tup [.int .i64 (k : Int), .bool true]) (mH s ++ [some (.cells [.iface 49 (.ptr 3 0)]), some (.abs (.sweep t n e) [4]), some (.abs (.store t n st) [])])) : swRVC t n e0 st0 s0 K := by
  unfold swRVC
  refine ⟨by omega, okSt_intro (H := swR t n e0 st0 s0) ⟨0, false, e0, st0, s0⟩ rfl ⟨Nat.zero_le _, .nil⟩, ?_⟩
  rintro ⟨k, dn, e, st, s⟩ ⟨hk, hd⟩
  dsimp only at hk hd ⊢
  cases dn with
  | true => exact hK k e st s hk hd
  | false =>
    have hd : swRn t n e0 st0 s0 k e st s := hd
    obtain ⟨hk', hok⟩ := hinv k e st s hd
    have hb : ile 100 (k : Int) = false := by rw [ile_eq]; exact decide_eq_false (by omega)
    have e1 : W ((k : Int) + 1) = ((k + 1 : Nat) : Int) := by rw [W_id (by omega)]; rfl
    show cond (ile 100 (k : Int)) _ _
    rw [hb, e1]
    refine ⟨⟨⟨rfl, rfl, rfl⟩, hok⟩, ?_⟩
    cases hF : (swF t n e st s).d with
    | true =>
      exact okSt_intro (H := swR t n e0 st0 s0) ⟨k + 1, true, (swF t n e st s).e, (swF t n e st s).st, (swF t n e st s).s⟩ rfl ⟨⟨by show k + 1 ≤ 100; omega, ⟨k, e, st, s, rfl, hd, hF, rfl, rfl, rfl⟩⟩, by show 2 * (100 - (k + 1)) + 0 < 2 * (100 - k) + 1; omega⟩
    | false =>
      exact okSt_intro (H := swR t n e0 st0 s0) ⟨k + 1, false, (swF t n e st s).e, (swF t n e st s).st, (swF t n e st s).s⟩ rfl ⟨⟨by show k + 1 ≤ 100; omega, .snoc k e st s hd hF⟩, by show 2 * (100 - (k + 1)) + 1 < 2 * (100 - k) + 1; omega⟩
end Go.Sh

/- A machine that sweeps, run: memory behind it. -/
namespace Go.Sh
open Go Go.Proofs
variable [Con]
/-- what the slots hold -/
/- OPQ -/
def slotsV (xs : List Int) (n : Int) (k : Nat) : List Int := (List.range k).map fun (i : Nat) => peek xs (slotA n (i : Int))
/-- nodes given back, one by one -/
/- OPQ -/
def backAll (n : Int) (xs fs : List Int) : List Int := fs.foldl (fun xs r => putI xs (n + 4 + r) (WU (peek xs (n + 4 + r) + 1))) xs
theorem slotsV_len (xs : List Int) (n : Int) (k : Nat) : (slotsV xs n k).length = k := by unfold slotsV; simp
theorem slotsV_succ (xs : List Int) (n : Int) (k : Nat) : slotsV xs n (k + 1) = slotsV xs n k ++ [peek xs (slotA n (k : Int))] := by
  unfold slotsV; rw [List.range_succ, List.map_append]; rfl
theorem slotsV_okW {xs : List Int} (h : okW xs) (n : Int) (k : Nat) : okW (slotsV xs n k) := by
  refine ⟨fun x hx => ?_⟩
  unfold slotsV at hx
  obtain ⟨i, _, rfl⟩ := List.mem_map.1 hx
  exact okW_peek h _
theorem backAll_snoc (n : Int) (xs fs : List Int) (r : Int) : backAll n xs (fs ++ [r]) = putI (backAll n xs fs) (n + 4 + r) (WU (peek (backAll n xs fs) (n + 4 + r) + 1)) := by
  unfold backAll; rw [List.foldl_append]; rfl
theorem backAll_len (n : Int) (fs : List Int) : ∀ xs : List Int, (backAll n xs fs).length = xs.length := by
  induction fs with
  | nil => intro xs; rfl
  | cons r fs ih => intro xs; show (backAll n (putI xs _ _) fs).length = _; rw [ih, putI_length]
theorem backAll_okW (n : Int) (fs : List Int) : ∀ xs : List Int, okW xs → okW (backAll n xs fs) := by
  induction fs with
  | nil => intro xs h; exact h
  | cons r fs ih => intro xs h; exact ih _ (okW_put h (WU_rng _))
/-- where a sweep is -/
inductive HisS (t n : Int) (y0 : SWS) (st0 : STS) (s0 : MS) : SWS → STS → MS → Prop where
  | new : HisS t n y0 st0 s0 y0 st0 s0
  | look (y : SWS) (s : MS) (k : Nat) (hp : y.ph = 1) (hi : y.i = (k : Int)) (h2 : 1 ≤ y.i ∧ y.i < 2 * t) (hm : y.m = seenOf (slotsV s0.xs n k)) (hN : y.N = st0.R) (hx : s.xs = s0.xs) : HisS t n y0 st0 s0 y st0 s
  | give (y : SWS) (s : MS) (hp : y.ph = 2) (h2 : y.i = 2 * t) (hk : y.ks = keptL (seenOf (slotsV s0.xs n (2 * t).toNat)) st0.R) (hf : y.fs = freedL (seenOf (slotsV s0.xs n (2 * t).toNat)) st0.R) (hg : y.gs = y.fs) (hj : y.j < y.fs.length) (hl : y.l = y.fs.length - y.j) (hx : s.xs = backAll n s0.xs (y.fs.take y.j)) : HisS t n y0 st0 s0 y st0 s
structure EndS (t n : Int) (st0 : STS) (s0 : MS) (y : SWS) (st : STS) (s : MS) : Prop where
  hp : y.ph = 3
  hs : st = { st0 with R := keptL (seenOf (slotsV s0.xs n (2 * t).toNat)) st0.R }
  hx : s.xs = backAll n s0.xs (freedL (seenOf (slotsV s0.xs n (2 * t).toNat)) st0.R)
theorem hisS_step {t n : Int} {y0 : SWS} {st0 : STS} {s0 : MS} {y : SWS} {st : STS} {s : MS} (ht : 1 ≤ t ∧ t ≤ 8) (hn : 1 ≤ n ∧ n ≤ 1000) (h0 : y0.ph = 0) (h : HisS t n y0 st0 s0 y st s) :
    ((swF t n y st s).d = false → HisS t n y0 st0 s0 (swF t n y st s).e (swF t n y st s).st (swF t n y st s).s) ∧ ((swF t n y st s).d = true → EndS t n st0 s0 (swF t n y st s).e (swF t n y st s).st (swF t n y st s).s) := by
  cases h with
  | new =>
    obtain ⟨ph, N, m, i, ks, fs, gs, j, l⟩ := y0
    dsimp only at h0
    subst h0
    have ee : swF t n ⟨0, N, m, i, ks, fs, gs, j, l⟩ st0 s0 = ⟨false, ⟨1, st0.R, seenM [] n 0 s0, 1, ks, fs, gs, j, l⟩, st0, s0.loadd (slotA n 0)⟩ := rfl
    rw [ee]
    exact ⟨fun _ => .look _ _ 1 rfl rfl (by dsimp only; omega) rfl rfl rfl, fun c => Bool.noConfusion c⟩
  | look _ _ k hp hi h2 hm hN hx =>
    obtain ⟨ph, N, m, i, ks, fs, gs, j, l⟩ := y
    dsimp only at hp hi h2 hm hN
    subst hp hi
    have hsee : seenM m n (k : Int) s = seenOf (slotsV s0.xs n (k + 1)) := by rw [slotsV_succ, seenOf_snoc, ← hm, ← hx]; rfl
    cases he : ieq ((k : Int) + 1) (2 * t) with
    | false =>
      have he' : (k : Int) + 1 ≠ 2 * t := by rw [ieq_eq] at he; simpa using he
      have ee : swF t n ⟨1, N, m, k, ks, fs, gs, j, l⟩ st0 s = ⟨false, ⟨1, N, seenM m n (k : Int) s, (k : Int) + 1, ks, fs, gs, j, l⟩, st0, s.loadd (slotA n (k : Int))⟩ := by unfold swF; dsimp only; rw [he] <;> rfl
      rw [ee]
      exact ⟨fun _ => .look _ _ (k + 1) rfl rfl (by dsimp only; omega) hsee hN hx, fun c => Bool.noConfusion c⟩
    | true =>
      have he' : (k : Int) + 1 = 2 * t := by rw [ieq_eq] at he; simpa using he
      have ek : (2 * t).toNat = k + 1 := by omega
      cases hz : ieq ((freedL (seenM m n (k : Int) s) N).length : Int) 0 with
      | true =>
        have ee : swF t n ⟨1, N, m, k, ks, fs, gs, j, l⟩ st0 s = ⟨true, ⟨3, N, m, k, ks, fs, gs, j, l⟩, { st0 with R := keptL (seenM m n (k : Int) s) N }, s.loadd (slotA n (k : Int))⟩ := by unfold swF; dsimp only; rw [he, hz] <;> rfl
        rw [ee]
        refine ⟨fun c => Bool.noConfusion c, fun _ => ⟨rfl, ?_, ?_⟩⟩
        · rw [ek, ← hsee, hN]
        · rw [ek, ← hsee, ← hN, nil_of hz]; exact hx
      | false =>
        have ee : swF t n ⟨1, N, m, k, ks, fs, gs, j, l⟩ st0 s = ⟨false, ⟨2, N, seenM m n (k : Int) s, (k : Int) + 1, keptL (seenM m n (k : Int) s) N, freedL (seenM m n (k : Int) s) N, freedL (seenM m n (k : Int) s) N, 0, (freedL (seenM m n (k : Int) s) N).length⟩, st0, s.loadd (slotA n (k : Int))⟩ := by unfold swF; dsimp only; rw [he, hz] <;> rfl
        rw [ee]
        have hz' : 0 < (freedL (seenM m n (k : Int) s) N).length := by
          rw [ieq_eq] at hz
          have : ((freedL (seenM m n (k : Int) s) N).length : Int) ≠ 0 := by simpa using hz
          omega
        exact ⟨fun _ => .give _ _ rfl he' (by dsimp only; rw [ek, ← hsee, hN]) (by dsimp only; rw [ek, ← hsee, hN]) rfl hz' rfl hx, fun c => Bool.noConfusion c⟩
  | give _ _ hp h2 hk hf hg hj hl hx =>
    obtain ⟨ph, N, m, i, ks, fs, gs, j, l⟩ := y
    dsimp only at hp h2 hk hf hg hj hl hx
    subst hp
    have hfj : List.getD fs (j + Int.toNat 0 * 1) 0 = fs[j] := by
      show List.getD fs (j + 0) 0 = fs[j]
      rw [Nat.add_zero, List.getD_eq_getElem?_getD, List.getElem?_eq_getElem hj]; rfl
    have hlf : lifeA n gs j = n + 4 + fs[j] := by unfold lifeA; rw [hg, hfj]
    have hx' : (s.added (lifeA n gs j) 1).xs = backAll n s0.xs (fs.take (j + 1)) := by
      rw [List.take_succ_eq_append_getElem hj, backAll_snoc, ← hx, hlf]; rfl
    cases hz : ieq ((l - 1 : Nat) : Int) 0 with
    | false =>
      have hz' : l - 1 ≠ 0 := by
        rw [ieq_eq] at hz
        have : ((l - 1 : Nat) : Int) ≠ 0 := by simpa using hz
        omega
      have ee : swF t n ⟨2, N, m, i, ks, fs, gs, j, l⟩ st0 s = ⟨false, ⟨2, N, m, i, ks, fs, gs, j + 1, l - 1⟩, st0, s.added (lifeA n gs j) 1⟩ := by unfold swF; dsimp only; rw [hz] <;> rfl
      rw [ee]
      exact ⟨fun _ => .give _ _ rfl h2 hk hf hg (by dsimp only; omega) (by dsimp only; omega) hx', fun c => Bool.noConfusion c⟩
    | true =>
      have hz' : l - 1 = 0 := by
        rw [ieq_eq] at hz
        have : ((l - 1 : Nat) : Int) = 0 := by simpa using hz
        omega
      have ee : swF t n ⟨2, N, m, i, ks, fs, gs, j, l⟩ st0 s = ⟨true, ⟨3, N, m, i, ks, fs, gs, j, l⟩, { st0 with R := ks }, s.added (lifeA n gs j) 1⟩ := by unfold swF; dsimp only; rw [hz] <;> rfl
      rw [ee]
      refine ⟨fun c => Bool.noConfusion c, fun _ => ⟨rfl, ?_, ?_⟩⟩
      · dsimp only; rw [hk]
      · dsimp only
        rw [hx', List.take_of_length_le (by omega), hf]
theorem swF_acted (t n : Int) (y : SWS) (st : STS) (s : MS) : Acted s (swF t n y st s).s ∧ (swF t n y st s).s.t = s.t ∧ (swF t n y st s).s.n = s.n := by
  unfold swF
  repeat' split
  all_goals first | exact ⟨acted_load _ _, rfl, rfl⟩ | exact ⟨acted_add _ _ _, rfl, rfl⟩
/-- how far a sweep is, in steps -/
theorem hisS_rn {t n : Int} {y0 : SWS} {st0 : STS} {s0 : MS} (ht : 1 ≤ t ∧ t ≤ 8) (hn : 1 ≤ n ∧ n ≤ 1000) (h0 : y0.ph = 0) {k : Nat} {y : SWS} {st : STS} {s : MS} (h : swRn t n y0 st0 s0 k y st s) : HisS t n y0 st0 s0 y st s ∧ s.c = s0.c + k ∧ s.t = s0.t ∧ s.n = s0.n ∧ ((k : Int) = (match y.ph with | 0 => 0 | 1 => y.i | _ => 2 * t + y.j)) := by
  induction h with
  | nil => exact ⟨.new, by omega, rfl, rfl, by rw [h0]; rfl⟩
  | snoc k y st s h hd ih =>
    obtain ⟨i1, i2, i3, i4, i5⟩ := ih
    have ha := swF_acted t n y st s
    refine ⟨(hisS_step ht hn h0 i1).1 hd, by rw [ha.1.c, i2]; omega, by rw [ha.2.1, i3], by rw [ha.2.2, i4], ?_⟩
    obtain ⟨ph, N, m, i, ks, fs, gs, j, l⟩ := y
    match ph with
    | 0 =>
      have i5 : (k : Int) = 0 := i5
      show ((k + 1 : Nat) : Int) = 1
      omega
    | 1 =>
      have i5 : (k : Int) = i := i5
      unfold swF at hd ⊢
      dsimp only at hd ⊢
      cases he : ieq (i + 1) (2 * t) with
      | false =>
        rw [he] at hd
        show ((k + 1 : Nat) : Int) = i + 1
        omega
      | true =>
        have he' : i + 1 = 2 * t := by rw [ieq_eq] at he; simpa using he
        rw [he] at hd
        cases hz : ieq ((freedL (seenM m n i s) N).length : Int) 0 with
        | true => rw [hz] at hd; exact Bool.noConfusion hd
        | false =>
          show ((k + 1 : Nat) : Int) = 2 * t + ((0 : Nat) : Int)
          omega
    | p + 2 =>
      have i5 : (k : Int) = 2 * t + j := i5
      unfold swF at hd ⊢
      dsimp only at hd ⊢
      cases hz : ieq ((l - 1 : Nat) : Int) 0 with
      | true => rw [hz] at hd; exact Bool.noConfusion hd
      | false =>
        show ((k + 1 : Nat) : Int) = 2 * t + ((j + 1 : Nat) : Int)
        omega
theorem hisS_ok {t n : Int} {y0 : SWS} {st0 : STS} {s0 : MS} (ht : 1 ≤ t ∧ t ≤ 8) (hn : 1 ≤ n ∧ n ≤ 1000) (h0 : y0.ph = 0) (hR : st0.R.length ≤ 60) (hRn : ∀ r ∈ st0.R, 1 ≤ r ∧ r ≤ n) (hc : 0 ≤ s0.c ∧ s0.c ≤ 900000) {k : Nat} {y : SWS} {st : STS} {s : MS} (h : swRn t n y0 st0 s0 k y st s) : k < 100 ∧ okSwp t n y st s := by
  obtain ⟨h1, h2, _, _, h3⟩ := hisS_rn ht hn h0 h
  cases h1 with
  | new =>
    rw [h0] at h3
    have : (k : Int) = 0 := h3
    refine ⟨by omega, ⟨by omega, by omega, by omega, by omega, ?_⟩⟩
    unfold okSwP; rw [h0]; trivial
  | look _ _ k' hp hi h4 hm hN hx =>
    rw [hp] at h3
    have : (k : Int) = y.i := h3
    refine ⟨by omega, ⟨by omega, by omega, by omega, by omega, ?_⟩⟩
    unfold okSwP; rw [hp]
    show y.N.length ≤ 1000000 ∧ 0 ≤ y.i ∧ y.i < 2 * t
    rw [hN]; omega
  | give _ _ hp h4 hk hf hg hj hl hx =>
    rw [hp] at h3
    have h3 : (k : Int) = 2 * t + y.j := h3
    have e2 : y.fs.length ≤ st0.R.length := by rw [hf]; exact filt_len _ _
    refine ⟨by omega, ⟨by omega, by omega, by omega, by omega, ?_⟩⟩
    unfold okSwP; rw [hp]
    show 2 * t ≤ y.i ∧ 1 ≤ y.l ∧ y.gs.length = y.j + y.l ∧ -1000000 ≤ List.getD y.gs (y.j + Int.toNat 0 * 1) 0 ∧ List.getD y.gs (y.j + Int.toNat 0 * 1) 0 ≤ 1000000
    have hfj : List.getD y.gs (y.j + Int.toNat 0 * 1) 0 = y.fs[y.j] := by
      rw [hg]
      show List.getD y.fs (y.j + 0) 0 = y.fs[y.j]
      rw [Nat.add_zero, List.getD_eq_getElem?_getD, List.getElem?_eq_getElem hj]; rfl
    have hfn : 1 ≤ y.fs[y.j] ∧ y.fs[y.j] ≤ n := by
      have hm1 : y.fs[y.j] ∈ y.fs := List.getElem_mem hj
      have hm2 : y.fs[y.j] ∈ freedL (seenOf (slotsV s0.xs n (2 * t).toNat)) st0.R := by rw [← hf]; exact hm1
      unfold freedL at hm2
      exact hRn _ (List.mem_filter.1 hm2).1
    rw [hfj, hg]; omega
def swRH (t n : Int) (st : STS) (s : MS) : Heap Ob := mH s ++ [some (.cells [.iface 49 (.ptr 3 0)]), some (.cells [.ptr 4 0, .top]), some (.cells [.int .i64 t, .int .i64 n, .int .i64 st.me, .int .i64 st.sp, .slice 6 0 st.R.length 1]), none, some (.ints (some .i64) st.R)]
theorem sw_rcall (t n : Int) (st : STS) (s : MS) (K : AVal → Heap Ob → Prop) (ht : 1 ≤ t ∧ t ≤ 8) (hn : 1 ≤ n ∧ n ≤ 1000) (hR : st.R.length ≤ 60) (hRn : ∀ r ∈ st.R, 1 ≤ r ∧ r ≤ n) (hc : 0 ≤ s.c ∧ s.c ≤ 900000)
    (hK : ∀ (k : Nat) (s' : MS), s'.xs = backAll n s.xs (freedL (seenOf (slotsV s.xs n (2 * t).toNat)) st.R) → s'.c = s.c + k → k ≤ 100 → s'.t = s.t → s'.n = s.n → K (.tup [.int .i64 (k : Int), .bool true]) (swRH t n { st with R := keptL (seenOf (slotsV s.xs n (2 * t).toNat)) st.R } s')) :
    CallOk (obI tbl) Try.prog 21 [.ptr 0 0, .int .i64 100, .slice 2 0 1 1] (mH s ++ [some (.cells [.iface 49 (.ptr 3 0)]), some (.cells [.ptr 4 0, .raw (.pointer none)]), some (.cells [.int .i64 t, .int .i64 n, .int .i64 st.me, .int .i64 st.sp, .slice 5 0 st.R.length 1]), some (.ints (some .i64) st.R)]) K := by
  refine CallOk.opened tbl (CallOk.opened tbl ?_)
  refine CallOk.shut tbl (mH s ++ [some (.cells [.iface 49 (.ptr 3 0)]), some (.abs (.sweep t n ⟨0, [], [], 0, [], [], [], 0, 0⟩) [4]), some (.cells [.int .i64 t, .int .i64 n, .int .i64 st.me, .int .i64 st.sp, .slice 5 0 st.R.length 1]), some (.ints (some .i64) st.R)]) (.sweep t n ⟨0, [], [], 0, [], [], [], 0, 0⟩) 3 1 (swG t n ⟨0, [], [], 0, [], [], [], 0, 0⟩) [4] rfl rfl rfl rfl ?_
  refine CallOk.shut tbl (mH s ++ [some (.cells [.iface 49 (.ptr 3 0)]), some (.abs (.sweep t n ⟨0, [], [], 0, [], [], [], 0, 0⟩) [4]), some (.abs (.store t n st) [])]) (.store t n st) 4 0 (stG t n st) [] rfl rfl rfl rfl ?_
  refine sw_rprint t n ⟨0, [], [], 0, [], [], [], 0, 0⟩ st s _ (sw_run t n _ st s _ (fun k e st1 s1 h => hisS_ok ht hn rfl hR hRn hc h) ?_)
  rintro k y st1 s1 hk ⟨k1, y1, st2, s2, e1, h1, h2, e2, e3, e4⟩
  obtain ⟨q1, q2, q3, q4, _⟩ := hisS_rn ht hn rfl h1
  obtain ⟨p1, p2, p3⟩ := (hisS_step ht hn rfl q1).2 h2
  have ha := swF_acted t n y1 st2 s2
  have hh := hK k s1 (by rw [e4]; exact p3) (by rw [e4, ha.1.c, q2, e1]; omega) hk (by rw [e4, ha.2.1, q3]) (by rw [e4, ha.2.2, q4])
  rw [← e2] at p1
  rw [← e3] at p2
  subst p2
  obtain ⟨ph, N, m, i, ks, fs, gs, j, l⟩ := y
  dsimp only at p1
  subst p1
  refine ⟨.store t n { st with R := keptL (seenOf (slotsV s.xs n (2 * t).toNat)) st.R }, 4, 0, stG t n { st with R := keptL (seenOf (slotsV s.xs n (2 * t).toNat)) st.R }, [], rfl, rfl, rfl, ?_⟩
  exact ⟨.sweep t n ⟨3, N, m, i, ks, fs, gs, j, l⟩, 3, 1, swG t n ⟨3, N, m, i, ks, fs, gs, j, l⟩, [4], rfl, rfl, rfl, hh⟩
end Go.Sh

/- Is a node guarded? Slots are cleared; runs. -/
namespace Go.Sh
open Go Go.Proofs
variable [Con]
def HGd (t n nd : Int) (s : MS) : Hint Ob := { X := Nat, st := fun i => ([.ptr 0 0, .top, .int .i64 nd, .top, .ptr 2 0, .top, .top, .top, .top, .int .i64 (2 * t), .int .i64 (i : Int)] ++ List.replicate 15 .top, mH s ++ [some (.cells [.int .i64 t, .int .i64 n])]), ok := fun i => (i : Int) ≤ 2 * t ∧ inY (slotsV s.xs n i) nd = false, mu := fun i => (2 * t).toNat - i, keep := [0, 2, 4, 9, 10] }
def gdVC (t n nd : Int) (s : MS) (K : AVal → Heap Ob → Prop) : Prop := (((0 : Int) ≤ t ∧ t ≤ (100000 : Int)) ∧ (0 : Int) ≤ n ∧ n ≤ (100000 : Int)) ∧ okSt (HGd t n nd s) (Hint.ok (HGd t n nd s)) [AVal.ptr 0 0, AVal.top, AVal.int .i64 nd, AVal.top, AVal.ptr 2 0, AVal.top, AVal.top, AVal.top, AVal.top, AVal.int .i64 (2 * t), AVal.int .i64 0, AVal.top, AVal.top, AVal.top, AVal.top, AVal.top, AVal.top, AVal.top, AVal.top, AVal.top, AVal.top, AVal.top, AVal.top, AVal.top, AVal.top, AVal.top] [some (Entry.cells [AVal.int .i64 s.1, AVal.int .i64 s.2, AVal.slice 1 0 (List.length s.3) 1, AVal.int .i64 s.4, AVal.int .i64 s.5, AVal.int .i64 s.6, AVal.int .u64 s.7, AVal.int .u64 s.8, AVal.bool s.9]), some (Entry.ints (some .u64) s.3), some (Entry.cells [AVal.int .i64 t, AVal.int .i64 n])] ∧ ∀ (x : Nat), (↑x : Int) ≤ (2 : Int) * t ∧ inY (slotsV s.3 n x) nd = false → bif ilt (↑x : Int) (2 * t) then bif ilt 0 nd then (((0 : Int) ≤ t ∧ t ≤ (100000 : Int)) ∧ ((0 : Int) ≤ n ∧ n ≤ (100000 : Int)) ∧ ((-1099511627776 : Int) ≤ (0 : Int) ∧ (0 : Int) ≤ (1099511627776 : Int)) ∧ (-1099511627776 : Int) ≤ (↑x : Int) ∧ (↑x : Int) ≤ (1099511627776 : Int)) ∧ (List.length s.3 = List.length s.3 ∧ True) ∧ bif ieq (peek s.3 (2 * n + 5 + 2 * 0 + (↑x : Int))) (WU nd) then K (AVal.bool true) [some (Entry.cells [AVal.int .i64 s.1, AVal.int .i64 s.2, AVal.slice 1 0 (List.length s.3) 1, AVal.int .i64 s.4, AVal.int .i64 s.5, AVal.int .i64 s.6, AVal.int .u64 s.7, AVal.int .u64 s.8, AVal.bool s.9]), some (Entry.ints (some .u64) s.3)] else okSt (HGd t n nd s) (fun x' => Hint.ok (HGd t n nd s) x' ∧ Hint.mu (HGd t n nd s) x' < Hint.mu (HGd t n nd s) x) [AVal.ptr 0 0, AVal.top, AVal.int .i64 nd, AVal.top, AVal.ptr 2 0, AVal.top, AVal.top, AVal.top, AVal.top, AVal.int .i64 (2 * t), AVal.int .i64 (W ((↑x : Int) + 1)), AVal.top, AVal.top, AVal.top, AVal.top, AVal.top, AVal.top, AVal.top, AVal.top, AVal.top, AVal.top, AVal.top, AVal.top, AVal.top, AVal.top, AVal.top] [some (Entry.cells [AVal.int .i64 s.1, AVal.int .i64 s.2, AVal.slice 1 0 (List.length s.3) 1, AVal.int .i64 s.4, AVal.int .i64 s.5, AVal.int .i64 s.6, AVal.int .u64 s.7, AVal.int .u64 s.8, AVal.bool s.9]), some (Entry.ints (some .u64) s.3), some (Entry.cells [AVal.int .i64 t, AVal.int .i64 n])] else okSt (HGd t n nd s) (fun x' => Hint.ok (HGd t n nd s) x' ∧ Hint.mu (HGd t n nd s) x' < Hint.mu (HGd t n nd s) x) [AVal.ptr 0 0, AVal.top, AVal.int .i64 nd, AVal.top, AVal.ptr 2 0, AVal.top, AVal.top, AVal.top, AVal.top, AVal.int .i64 (2 * t), AVal.int .i64 (W ((↑x : Int) + 1)), AVal.top, AVal.top, AVal.top, AVal.top, AVal.top, AVal.top, AVal.top, AVal.top, AVal.top, AVal.top, AVal.top, AVal.top, AVal.top, AVal.top, AVal.top] [some (Entry.cells [AVal.int .i64 s.1, AVal.int .i64 s.2, AVal.slice 1 0 (List.length s.3) 1, AVal.int .i64 s.4, AVal.int .i64 s.5, AVal.int .i64 s.6, AVal.int .u64 s.7, AVal.int .u64 s.8, AVal.bool s.9]), some (Entry.ints (some .u64) s.3), some (Entry.cells [AVal.int .i64 t, AVal.int .i64 n])] else K (AVal.bool false) [some (Entry.cells [AVal.int .i64 s.1, AVal.int .i64 s.2, AVal.slice 1 0 (List.length s.3) 1, AVal.int .i64 s.4, AVal.int .i64 s.5, AVal.int .i64 s.6, AVal.int .u64 s.7, AVal.int .u64 s.8, AVal.bool s.9]), some (Entry.ints (some .u64) s.3)]
def clVC (t n u : Int) (s : MS) (K : AVal → Heap Ob → Prop) : Prop := ((0 : Int) ≤ (0 : Int) ∧ (0 : Int) < (↑1 : Int)) ∧ ((((0 : Int) ≤ t ∧ t ≤ (100000 : Int)) ∧ ((0 : Int) ≤ n ∧ n ≤ (100000 : Int)) ∧ ((-1099511627776 : Int) ≤ u ∧ u ≤ (1099511627776 : Int)) ∧ (-1099511627776 : Int) ≤ (0 : Int) ∧ (0 : Int) ≤ (1099511627776 : Int)) ∧ True) ∧ ((List.length s.3 = List.length s.3 ∧ (0 : Int) ≤ s.4 ∧ s.4 ≤ (4611686018427387904 : Int)) ∧ True) ∧ ((((0 : Int) ≤ t ∧ t ≤ (100000 : Int)) ∧ ((0 : Int) ≤ n ∧ n ≤ (100000 : Int)) ∧ ((-1099511627776 : Int) ≤ u ∧ u ≤ (1099511627776 : Int)) ∧ (-1099511627776 : Int) ≤ W (0 + 1) ∧ W (0 + 1) ≤ (1099511627776 : Int)) ∧ True) ∧ ((List.length (putI s.3 (2 * n + 5 + 2 * u + 0) 0) = List.length (putI s.3 (2 * n + 5 + 2 * u + 0) 0) ∧ (0 : Int) ≤ s.4 + 1 ∧ s.4 + (1 : Int) ≤ (4611686018427387904 : Int)) ∧ True) ∧ K (AVal.tup [AVal.int .i64 (W (W (0 + 1) + 1)), AVal.bool true]) [some (Entry.cells [AVal.int .i64 s.1, AVal.int .i64 s.2, AVal.slice 1 0 (List.length (putI (putI s.3 (2 * n + 5 + 2 * u + 0) 0) (2 * n + 5 + 2 * u + W (0 + 1)) 0)) 1, AVal.int .i64 (s.4 + 1 + 1), AVal.int .i64 2, AVal.int .i64 (2 * n + 5 + 2 * u + W (0 + 1)), AVal.int .u64 (peek (putI s.3 (2 * n + 5 + 2 * u + 0) 0) (2 * n + 5 + 2 * u + W (0 + 1))), AVal.int .u64 (bif inB (putI s.3 (2 * n + 5 + 2 * u + 0) 0) (2 * n + 5 + 2 * u + W (0 + 1)) then 0 else 0), AVal.bool (inB (putI s.3 (2 * n + 5 + 2 * u + 0) 0) (2 * n + 5 + 2 * u + W (0 + 1)))]), some (Entry.ints (some .u64) (putI (putI s.3 (2 * n + 5 + 2 * u + 0) 0) (2 * n + 5 + 2 * u + W (0 + 1)) 0)), some (Entry.cells [AVal.iface 53 (AVal.ptr 3 0)]), some (Entry.cells [AVal.int .i64 t, AVal.int .i64 n, AVal.int .i64 u, AVal.int .i64 (W (W (0 + 1) + 1))])]
theorem gd_print (t n nd : Int) (s : MS) (K : AVal → Heap Ob → Prop) (hK : gdVC t n nd s K) : CallOk (obI tbl) Try.prog 20 [.ptr 0 0, .agg [.int .i64 t, .int .i64 n], .int .i64 nd] (mH s) K := by
  refine CallOk.trim (callOk_of (E := E42) Try.checked.mixed (L := fun _ _ => some (.states (HGd t n nd s))) (n := 10) (of_nf (q := gdVC t n nd s K) (by kernel_rfl) hK))
theorem cl_print (t n u : Int) (s : MS) (K : AVal → Heap Ob → Prop) (hK : clVC t n u s K) : CallOk (obI tbl) Try.prog 21 [.ptr 0 0, .int .i64 9, .slice 2 0 1 1] (mH s ++ [some (.cells [.iface 53 (.ptr 3 0)]), some (.cells [.int .i64 t, .int .i64 n, .int .i64 u, .int .i64 0])]) K := by
  refine CallOk.trim (callOk_of (E := E42) Try.checked.mixed (L := LL) (n := 10) (of_nf (q := clVC t n u s K) (by kernel_rfl) hK))
end Go.Sh

/- Guarded nodes; slots that are cleared; runs: their contracts. -/
namespace Go.Sh
open Go Go.Proofs
variable [Con]
theorem gd_walk (t n nd : Int) (s : MS) (K : AVal → Heap Ob → Prop) (ht : 1 ≤ t ∧ t ≤ 8) (hn : 1 ≤ n ∧ n ≤ 1000) (hd : 1 ≤ nd ∧ nd ≤ 1000) (hK : K (.bool (inY (slotsV s.xs n (2 * t).toNat) nd)) (mH s)) : gdVC t n nd s K := by
  unfold gdVC
  refine ⟨by omega, okSt_intro (H := HGd t n nd s) (0 : Nat) rfl ⟨by show ((0 : Nat) : Int) ≤ 2 * t; omega, rfl⟩, ?_⟩
  rintro i ⟨hi, hf⟩
  have e1 : W ((i : Int) + 1) = ((i + 1 : Nat) : Int) := by rw [W_id (by omega)]; rfl
  refine lt_go (fun h1 => lt_go (fun _ => ⟨by omega, ⟨rfl, trivial⟩, ?_⟩) (fun h => absurd h (by omega))) (fun h1 => ?_)
  · have hs := slotsV_succ s.xs n i
    have hin := inY_snoc (slotsV s.xs n i) (peek s.xs (slotA n (i : Int))) nd
    rw [← hs, hf] at hin
    simp only [cond_false] at hin
    show cond (ieq (peek s.xs (slotA n (i : Int))) (WU nd)) _ _
    cases hq : ieq (peek s.xs (slotA n (i : Int))) (WU nd) with
    | true =>
      rw [hq] at hin
      have hall : inY (slotsV s.xs n (2 * t).toNat) nd = true := by
        unfold inY at hin ⊢
        rw [List.any_eq_true] at hin ⊢
        obtain ⟨y, hy, hy2⟩ := hin
        refine ⟨y, ?_, hy2⟩
        unfold slotsV at hy ⊢
        obtain ⟨k, hk, rfl⟩ := List.mem_map.1 hy
        exact List.mem_map.2 ⟨k, List.mem_range.2 (by have := List.mem_range.1 hk; omega), rfl⟩
      rw [hall] at hK
      exact hK
    | false =>
      rw [hq] at hin
      rw [e1]
      exact okSt_intro (H := HGd t n nd s) (i + 1 : Nat) rfl ⟨⟨by show ((i + 1 : Nat) : Int) ≤ 2 * t; omega, hin⟩, by show (2 * t).toNat - (i + 1) < (2 * t).toNat - i; omega⟩
  · have : i = (2 * t).toNat := by omega
    subst this
    rw [hf] at hK
    exact hK
def gdS : RSpec Ob := fun args h => match args with
  | [.ptr 0 0, .agg [.int .i64 t, .int .i64 n], .int .i64 nd] => (match memPat h with
    | some (l, s) => some ((l = s.xs.length ∧ (1 ≤ t ∧ t ≤ 8) ∧ (1 ≤ n ∧ n ≤ 1000) ∧ (1 ≤ nd ∧ nd ≤ 1000)), .bool (inY (slotsV s.xs n (2 * t).toNat) nd))
    | none => none)
  | _ => none
theorem gd_ok : Spec.ok (obI tbl) Try.prog 20 gdS.spec := by
  intro args h o ho K hK
  unfold RSpec.spec gdS at ho
  split at ho
  case h_2 => cases ho
  rename_i p v hp
  split at hp
  case h_2 => cases hp
  split at hp
  case h_2 => cases hp
  rename_i hm
  simp only [Option.some.injEq, Prod.mk.injEq] at hp
  obtain ⟨rfl, rfl⟩ := hp
  simp only [Option.some.injEq] at ho; subst ho
  obtain ⟨⟨hl, ht, hn, hd⟩, hK⟩ := hK
  have hh := memPat_eq hm hl
  subst hh
  exact gd_print _ _ _ _ K (gd_walk _ _ _ _ K ht hn hd hK)
/-- a thread's slots are cleared -/
def clrS (s : MS) (n u : Int) : MS := (s.stored (2 * n + 5 + 2 * u + 0) 0).stored (2 * n + 5 + 2 * u + 1) 0
def clS : Spec Ob := fun args h => match args, h with
  | [.ptr 0 0, .int .i64 9, .slice 2 0 1 1], [e1, e2, some (.cells [.iface 53 (.ptr 3 0)]), some (.cells [.int .i64 t, .int .i64 n, .int .i64 u, .int .i64 0])] => (match memPat [e1, e2] with
    | some (l, s) => some (.pre (l = s.xs.length ∧ (1 ≤ t ∧ t ≤ 8) ∧ (1 ≤ n ∧ n ≤ 1000) ∧ (0 ≤ u ∧ u ≤ 100) ∧ (0 ≤ s.c ∧ s.c ≤ 1000000)) (.ret (.tup [.int .i64 2, .bool true]) (mH (clrS s n u) ++ [some (.cells [.iface 53 (.ptr 3 0)]), some (.cells [.int .i64 t, .int .i64 n, .int .i64 u, .int .i64 2])])))
    | none => none)
  | _, _ => none
theorem cl_ok : Spec.ok (obI tbl) Try.prog 21 clS := by
  intro args h o ho K hK
  unfold clS at ho
  split at ho
  case h_2 => cases ho
  rename_i e1 e2 t n u
  split at ho
  case h_2 => cases ho
  rename_i l s hm
  simp only [Option.some.injEq] at ho; subst ho
  obtain ⟨⟨hl, ht, hn, hu, hc⟩, hK⟩ := hK
  have hh := memPat_eq hm hl
  unfold memH at hh
  simp only [List.cons.injEq, and_true] at hh
  obtain ⟨rfl, rfl⟩ := hh
  refine cl_print t n u s K ?_
  unfold clVC
  have w1 : W (0 + 1) = 1 := by decide
  have w2 : W (1 + 1) = 2 := by decide
  rw [w1, w2]
  exact ⟨by omega, ⟨by omega, trivial⟩, ⟨⟨rfl, by omega⟩, trivial⟩, ⟨by omega, trivial⟩, ⟨⟨rfl, by omega⟩, trivial⟩, hK⟩
def runSwS : Spec Ob := fun args h => match args, h with
  | [.ptr 0 0, .int .i64 100, .slice 2 0 1 1], [e1, e2, some (.cells [.iface 49 (.ptr 3 0)]), some (.cells [.ptr 4 0, .raw (.pointer none)]), some (.cells [.int .i64 t, .int .i64 n, .int .i64 me, .int .i64 sp, .slice 5 0 k 1]), some (.ints (some .i64) R)] => (match memPat [e1, e2] with
    | some (l, s) => some (.pre ((l = s.xs.length ∧ k = R.length) ∧ (1 ≤ t ∧ t ≤ 8) ∧ (1 ≤ n ∧ n ≤ 1000) ∧ R.length ≤ 60 ∧ (∀ r ∈ R, 1 ≤ r ∧ r ≤ n) ∧ okW s.xs ∧ (0 ≤ s.c ∧ s.c ≤ 900000)) (.all (Nat × MS) (fun x => x.2.xs = backAll n s.xs (freedY (slotsV s.xs n (2 * t).toNat) R) ∧ x.2.c = s.c + x.1 ∧ x.1 ≤ 100 ∧ x.2.t = s.t ∧ x.2.n = s.n) (fun x => .ret (.tup [.int .i64 (x.1 : Int), .bool true]) (swRH t n ⟨me, sp, keptY (slotsV s.xs n (2 * t).toNat) R⟩ x.2))))
    | none => none)
  | _, _ => none
theorem runSw_ok : Spec.ok (obI tbl) Try.prog 21 runSwS := by
  intro args h o ho K hK
  unfold runSwS at ho
  split at ho
  case h_2 => cases ho
  rename_i e1 e2 t n me sp k R
  split at ho
  case h_2 => cases ho
  rename_i l s hm
  simp only [Option.some.injEq] at ho; subst ho
  obtain ⟨⟨⟨hl, hk⟩, ht, hn, hR, hRn, hw, hc⟩, hK⟩ := hK
  have hh := memPat_eq hm hl
  unfold memH at hh
  simp only [List.cons.injEq, and_true] at hh
  obtain ⟨rfl, rfl⟩ := hh
  subst hk
  have hR' : ∀ r ∈ R, 1 ≤ r ∧ r ≤ 1000 := fun r hr => by have := hRn r hr; omega
  have ek := kept_eq (slotsV_okW hw n (2 * t).toNat) hR'
  have ef := freed_eq (slotsV_okW hw n (2 * t).toNat) hR'
  refine sw_rcall t n ⟨me, sp, R⟩ s K ht hn hR hRn hc ?_
  intro k s' h1 h2 h3 h4 h5
  have := hK (k, s') ⟨by rw [← ef]; exact h1, h2, h3, h4, h5⟩
  rw [← ek] at this
  exact this
def runAllS : Spec Ob := fun args h => match clS args h with
  | some o => some o
  | none => runSwS args h
theorem runAll_ok : Spec.ok (obI tbl) Try.prog 21 runAllS := by
  intro args h o ho
  unfold runAllS at ho
  split at ho
  · rename_i e; cases ho; exact cl_ok _ _ _ e
  · exact runSw_ok _ _ _ ho
noncomputable def E66 := (E42.addS 21 runAllS runAll_ok).addR 20 gdS gd_ok
end Go.Sh

/- Is a node taken? -/
namespace Go.Sh
open Go Go.Proofs
variable [Con]
def tkVC (t n nd : Int) (s : MS) (K : AVal → Heap Ob → Prop) : Prop := True ∧ bif nodeB n nd then (((0 : Int) ≤ t ∧ t ≤ (100000 : Int)) ∧ ((0 : Int) ≤ n ∧ n ≤ (100000 : Int)) ∧ (-1099511627776 : Int) ≤ nd ∧ nd ≤ (1099511627776 : Int)) ∧ (List.length s.3 = List.length s.3 ∧ True) ∧ (2 : Int) ≠ (0 : Int) ∧ K (AVal.bool (ieq (Int.tmod (peek s.3 (n + 4 + nd)) 2) 1)) [some (Entry.cells [AVal.int .i64 s.1, AVal.int .i64 s.2, AVal.slice 1 0 (List.length s.3) 1, AVal.int .i64 s.4, AVal.int .i64 s.5, AVal.int .i64 s.6, AVal.int .u64 s.7, AVal.int .u64 s.8, AVal.bool s.9]), some (Entry.ints (some .u64) s.3)] else K (AVal.bool false) [some (Entry.cells [AVal.int .i64 s.1, AVal.int .i64 s.2, AVal.slice 1 0 (List.length s.3) 1, AVal.int .i64 s.4, AVal.int .i64 s.5, AVal.int .i64 s.6, AVal.int .u64 s.7, AVal.int .u64 s.8, AVal.bool s.9]), some (Entry.ints (some .u64) s.3)]
theorem tk_print (t n nd : Int) (s : MS) (K : AVal → Heap Ob → Prop) (hK : tkVC t n nd s K) : CallOk (obI tbl) Try.prog 24 [.ptr 0 0, .agg [.int .i64 t, .int .i64 n], .int .i64 nd] (mH s) K := by
  refine CallOk.trim (callOk_of (E := E42) Try.checked.mixed (L := LL) (n := 10) (of_nf (q := tkVC t n nd s K) (by kernel_rfl) hK))
/- OPQ -/
def tkB (xs : List Int) (n nd : Int) : Bool := ieq (Int.tmod (peek xs (n + 4 + nd)) 2) 1
def tknS : RSpec Ob := fun args h => match args with
  | [.ptr 0 0, .agg [.int .i64 t, .int .i64 n], .int .i64 nd] => (match memPat h with
    | some (l, s) => some ((l = s.xs.length ∧ (1 ≤ t ∧ t ≤ 8) ∧ (1 ≤ n ∧ n ≤ 1000) ∧ (1 ≤ nd ∧ nd ≤ n)), .bool (tkB s.xs n nd))
    | none => none)
  | _ => none
theorem tkn_ok : Spec.ok (obI tbl) Try.prog 24 tknS.spec := by
  intro args h o ho K hK
  unfold RSpec.spec tknS at ho
  split at ho
  case h_2 => cases ho
  rename_i p v hp
  split at hp
  case h_2 => cases hp
  rename_i t n nd
  split at hp
  case h_2 => cases hp
  rename_i l s hm
  simp only [Option.some.injEq, Prod.mk.injEq] at hp
  obtain ⟨rfl, rfl⟩ := hp
  simp only [Option.some.injEq] at ho; subst ho
  obtain ⟨⟨hl, ht, hn, hd⟩, hK⟩ := hK
  have hh := memPat_eq hm hl
  subst hh
  refine tk_print _ _ _ _ K ?_
  unfold tkVC
  have hb : nodeB n nd = true := by
    unfold nodeB
    rw [ile_eq, ile_eq, decide_eq_true hd.1, decide_eq_true hd.2]; rfl
  rw [hb]
  exact ⟨trivial, by omega, ⟨rfl, trivial⟩, by omega, hK⟩
noncomputable def E67 := E66.addR 24 tknS tkn_ok
end Go.Sh

/- Memory that is written: lemmas. -/
namespace Go.Sh
open Go Go.Proofs
variable [Con]
theorem peek_putI {xs : List Int} {a b x : Int} : peek (putI xs a x) b = if a = b ∧ 0 ≤ a ∧ a < xs.length then x else peek xs b := by
  unfold putI
  split
  · rename_i h
    unfold peek
    simp only [List.length_set]
    by_cases hb : 0 ≤ b ∧ b < xs.length
    · rw [if_pos hb, if_pos hb]
      have hlt : b.toNat < xs.length := by omega
      rw [List.getD_eq_getElem?_getD, List.getElem?_set, List.getD_eq_getElem?_getD]
      by_cases hab : a = b
      · subst hab
        simp [hlt, h]
      · rw [if_neg (by omega), if_neg (by omega)]
    · rw [if_neg hb, if_neg hb, if_neg (by omega)]
  · rename_i h
    rw [if_neg (by omega)]
theorem peek_putI_eq {xs : List Int} {a x : Int} (h : 0 ≤ a ∧ a < xs.length) : peek (putI xs a x) a = x := by rw [peek_putI, if_pos ⟨rfl, h⟩]
theorem peek_putI_ne {xs : List Int} {a b x : Int} (h : a ≠ b) : peek (putI xs a x) b = peek xs b := by rw [peek_putI, if_neg (fun c => h c.1)]
theorem node_ne {n r : Int} {L : List Int} (h : r ∉ L) : ∀ p ∈ L, n + 4 + p ≠ n + 4 + r := by
  intro p hp e
  have : p = r := by omega
  subst this
  exact h hp
theorem node_eq {n q r : Int} {L : List Int} (e : n + 4 + q = n + 4 + r) (h : r ∈ L) : q ∈ L := by
  have : q = r := by omega
  subst this
  exact h
theorem back_other (n : Int) (L : List Int) : ∀ (xs : List Int) (a : Int), (∀ r ∈ L, n + 4 + r ≠ a) → peek (backAll n xs L) a = peek xs a := by
  induction L with
  | nil => intro xs a _; rfl
  | cons r L ih =>
    intro xs a h
    show peek (backAll n (putI xs (n + 4 + r) _) L) a = _
    rw [ih _ a (fun q hq => h q (List.mem_cons_of_mem _ hq)), peek_putI_ne (h r List.mem_cons_self)]
theorem back_at (n : Int) (L : List Int) : ∀ (xs : List Int), L.Nodup → (∀ r ∈ L, 0 ≤ n + 4 + r ∧ n + 4 + r < xs.length) → ∀ r ∈ L, peek (backAll n xs L) (n + 4 + r) = WU (peek xs (n + 4 + r) + 1) := by
  induction L with
  | nil => intro xs _ _ r hr; cases hr
  | cons q L ih =>
    intro xs hnd h r hr
    obtain ⟨h1, h2⟩ := List.nodup_cons.1 hnd
    show peek (backAll n (putI xs (n + 4 + q) _) L) (n + 4 + r) = _
    by_cases hm : r ∈ L
    · rw [ih _ h2 (fun p hp => by rw [putI_length]; exact h p (List.mem_cons_of_mem _ hp)) r hm, peek_putI_ne (fun e => h1 (node_eq e hm))]
    · have hrq : r = q := by
        rcases List.mem_cons.1 hr with e | e
        · exact e
        · exact (hm e).elim
      subst hrq
      rw [back_other n L _ _ (node_ne hm), peek_putI_eq (h r List.mem_cons_self)]
theorem slots_congr {xs ys : List Int} {n : Int} (hn : 1 ≤ n) (h : ∀ a, 2 * n + 5 ≤ a → peek xs a = peek ys a) (k : Nat) : slotsV xs n k = slotsV ys n k := by
  unfold slotsV
  refine List.map_congr_left fun i _ => h _ ?_
  unfold slotA; omega
theorem mkL_nodup (n sp : Int) (ns : List Int) : (mkL n sp ns).Nodup := by
  have key : ∀ (l R : List Int), R.Nodup → (l.foldl (mkStep n sp) R).Nodup := by
    intro l
    induction l with
    | nil => intro R h; exact h
    | cons v l ih =>
      intro R h
      rw [List.foldl_cons]
      refine ih _ ?_
      unfold mkStep
      cases h1 : ieq (nodeK n v) sp with
      | true => exact h
      | false =>
        cases h2 : hasB R (nodeK n v) with
        | true => exact h
        | false =>
          have h3 : nodeK n v ∉ R := by
            intro c
            have := (hasB_true (xs := R) (n := nodeK n v)).2 c
            rw [h2] at this; cases this
          show (R ++ [nodeK n v]).Nodup
          rw [List.nodup_append]
          refine ⟨h, by simp, ?_⟩
          intro a ha b hb e
          rw [List.mem_singleton] at hb
          exact h3 (by rw [← hb, ← e]; exact ha)
  exact key ns [] List.nodup_nil
end Go.Sh

/- A machine that ensures a spare node, run alone. -/
namespace Go.Sh
open Go Go.Proofs
variable [Con]
/-- a machine's steps, none of them its last, alone -/
inductive enRn (t n : Int) (e0 : ENS) (st0 : STS) (s0 : MS) : Nat → ENS → STS → MS → Prop where
  | nil : enRn t n e0 st0 s0 0 e0 st0 s0
  | snoc (k : Nat) (e : ENS) (st : STS) (s : MS) (h : enRn t n e0 st0 s0 k e st s) (hd : (enF t n e st s).d = false) : enRn t n e0 st0 s0 (k + 1) (enF t n e st s).e (enF t n e st s).st (enF t n e st s).s
/-- all its steps -/
structure enEnd (t n : Int) (e0 : ENS) (st0 : STS) (s0 : MS) (k : Nat) (e : ENS) (st : STS) (s : MS) : Prop where
  ex : ∃ k1 e1 st1 s1, k = k1 + 1 ∧ enRn t n e0 st0 s0 k1 e1 st1 s1 ∧ (enF t n e1 st1 s1).d = true ∧ e = (enF t n e1 st1 s1).e ∧ st = (enF t n e1 st1 s1).st ∧ s = (enF t n e1 st1 s1).s
structure enY where
  k : Nat
  dn : Bool
  e : ENS
  st : STS
  s : MS
structure enRo (t n : Int) (e0 : ENS) (st0 : STS) (s0 : MS) (x : enY) : Prop where
  hk : x.k ≤ 200
  hd : match x.dn with
    | false => enRn t n e0 st0 s0 x.k x.e x.st x.s
    | true => enEnd t n e0 st0 s0 x.k x.e x.st x.s
def enR (t n : Int) (e0 : ENS) (st0 : STS) (s0 : MS) : Hint Ob := { X := enY, st := fun x => ([.ptr 0 0, .int .i64 200, .top, .top, .top, .top, .top, .top, .int .i64 (x.k : Int), .top, .iface 58 (.ptr 3 0), .bool x.dn, .top, .int .i64 1, .int .i64 0] ++ List.replicate 16 .top, mH x.s ++ [some (.cells [.iface 58 (.ptr 3 0)]), some (.abs (.ensure t n x.e) [4]), some (.abs (.store t n x.st) [])]), ok := enRo t n e0 st0 s0, mu := fun x => 2 * (200 - x.k) + (match x.dn with | true => 0 | false => 1), keep := [0, 1, 8, 10, 11, 13, 14] }
def enRP (t n : Int) (e0 : ENS) (st0 : STS) (s0 : MS) : FuncId → Nat → Option (Plan Ob) := fun _ k => if k = 3 then some (.rounds 2) else some (.states (enR t n e0 st0 s0))
def enRVC (t n : Int) (e0 : ENS) (st0 : STS) (s : MS) (K : AVal → Heap Ob → Prop) : Prop := ((0 : Int) ≤ (0 : Int) ∧ (0 : Int) < (↑1 : Int)) ∧ okSt (enR t n e0 st0 s) (Hint.ok (enR t n e0 st0 s)) [AVal.ptr 0 0, AVal.int .i64 200, AVal.top, AVal.top, AVal.top, AVal.top, AVal.top, AVal.top, AVal.int .i64 0, AVal.top, AVal.iface 58 (AVal.ptr 3 0), AVal.bool false, AVal.top, AVal.int .i64 (↑1 : Int), AVal.int .i64 0, AVal.top, AVal.top, AVal.top, AVal.top, AVal.top, AVal.top, AVal.top, AVal.top, AVal.top, AVal.top, AVal.top, AVal.top, AVal.top, AVal.top, AVal.top, AVal.top] [some (Entry.cells [AVal.int .i64 s.1, AVal.int .i64 s.2, AVal.slice 1 0 (List.length s.3) 1, AVal.int .i64 s.4, AVal.int .i64 s.5, AVal.int .i64 s.6, AVal.int .u64 s.7, AVal.int .u64 s.8, AVal.bool s.9]), some (Entry.ints (some .u64) s.3), some (Entry.cells [AVal.iface 58 (AVal.ptr 3 0)]), some (Entry.abs (Mc.ensure t n e0) [4]), some (Entry.abs (Mc.store t n st0) [])] ∧ ∀ (x : enY), enRo t n e0 st0 s x → bif !x.2 then bif ile 200 (↑x.1 : Int) then K (AVal.tup [AVal.int .i64 (↑x.1 : Int), AVal.bool false]) [some (Entry.cells [AVal.int .i64 (enY.s x).1, AVal.int .i64 (enY.s x).2, AVal.slice 1 0 (List.length (enY.s x).3) 1, AVal.int .i64 (enY.s x).4, AVal.int .i64 (enY.s x).5, AVal.int .i64 (enY.s x).6, AVal.int .u64 (enY.s x).7, AVal.int .u64 (enY.s x).8, AVal.bool (enY.s x).9]), some (Entry.ints (some .u64) (enY.s x).3), some (Entry.cells [AVal.iface 58 (AVal.ptr 3 0)]), some (Entry.abs (Mc.ensure t n x.3) [4]), some (Entry.abs (Mc.store t n x.4) [])] else ((List.length (enY.s x).3 = List.length (enY.s x).3 ∧ t = t ∧ n = n) ∧ okE t n (enY.e x) (enY.st x) { t := (enY.s x).1, n := (enY.s x).2, xs := (enY.s x).3, c := (enY.s x).4, k := (enY.s x).5, a := (enY.s x).6, o := (enY.s x).7, w := (enY.s x).8, ok := (enY.s x).9 }) ∧ okSt (enR t n e0 st0 s) (fun x' => Hint.ok (enR t n e0 st0 s) x' ∧ Hint.mu (enR t n e0 st0 s) x' < Hint.mu (enR t n e0 st0 s) x) [AVal.ptr 0 0, AVal.int .i64 200, AVal.top, AVal.top, AVal.top, AVal.top, AVal.top, AVal.top, AVal.int .i64 (W ((↑x.1 : Int) + 1)), AVal.top, AVal.iface 58 (AVal.ptr 3 0), AVal.bool (enF t n x.3 x.4 x.5).1, AVal.top, AVal.int .i64 1, AVal.int .i64 0, AVal.top, AVal.top, AVal.top, AVal.top, AVal.top, AVal.top, AVal.top, AVal.top, AVal.top, AVal.top, AVal.top, AVal.top, AVal.top, AVal.top, AVal.top, AVal.top] [some (Entry.cells [AVal.int .i64 (EO.s (enF t n x.3 x.4 x.5)).1, AVal.int .i64 (EO.s (enF t n x.3 x.4 x.5)).2, AVal.slice 1 0 (List.length (EO.s (enF t n x.3 x.4 x.5)).3) 1, AVal.int .i64 (EO.s (enF t n x.3 x.4 x.5)).4, AVal.int .i64 (EO.s (enF t n x.3 x.4 x.5)).5, AVal.int .i64 (EO.s (enF t n x.3 x.4 x.5)).6, AVal.int .u64 (EO.s (enF t n x.3 x.4 x.5)).7, AVal.int .u64 (EO.s (enF t n x.3 x.4 x.5)).8, AVal.bool (EO.s (enF t n x.3 x.4 x.5)).9]), some (Entry.ints (some .u64) (EO.s (enF t n x.3 x.4 x.5)).3), some (Entry.cells [AVal.iface 58 (AVal.ptr 3 0)]), some (Entry.abs (Mc.ensure t n (enF t n x.3 x.4 x.5).2) [4]), some (Entry.abs (Mc.store t n (enF t n x.3 x.4 x.5).3) [])] else K (AVal.tup [AVal.int .i64 (↑x.1 : Int), AVal.bool true]) [some (Entry.cells [AVal.int .i64 (enY.s x).1, AVal.int .i64 (enY.s x).2, AVal.slice 1 0 (List.length (enY.s x).3) 1, AVal.int .i64 (enY.s x).4, AVal.int .i64 (enY.s x).5, AVal.int .i64 (enY.s x).6, AVal.int .u64 (enY.s x).7, AVal.int .u64 (enY.s x).8, AVal.bool (enY.s x).9]), some (Entry.ints (some .u64) (enY.s x).3), some (Entry.cells [AVal.iface 58 (AVal.ptr 3 0)]), some (Entry.abs (Mc.ensure t n x.3) [4]), some (Entry.abs (Mc.store t n x.4) [])]
theorem en_rprint (t n : Int) (e0 : ENS) (st0 : STS) (s : MS) (K : AVal → Heap Ob → Prop) (hK : enRVC t n e0 st0 s K) : CallOk (obI tbl) Try.prog 21 [.ptr 0 0, .int .i64 200, .slice 2 0 1 1] (mH s ++ [some (.cells [.iface 58 (.ptr 3 0)]), some (.abs (.ensure t n e0) [4]), some (.abs (.store t n st0) [])]) K := by
  refine CallOk.trim (callOk_of (E := enE) Try.checked.mixed (L := enRP t n e0 st0 s) (n := 10) (of_nf (q := enRVC t n e0 st0 s K) (by kernel_rfl) hK))
end Go.Sh

/- A machine that ensures a spare node, run alone: what comes of it. -/
namespace Go.Sh
open Go Go.Proofs
variable [Con]
set_option maxRecDepth 20000 in
theorem en_run (t n : Int) (e0 : ENS) (st0 : STS) (s0 : MS) (K : AVal → Heap Ob → Prop)
    (hinv : ∀ k e st s, enRn t n e0 st0 s0 k e st s → k < 200 ∧ okE t n e st s)
    (hK : ∀ k e st s, k ≤ 200 → enEnd t n e0 st0 s0 k e st s → K (.tup [.int .i64 (k : Int), .bool true]) (mH s ++ [some (.cells [.iface 58 (.ptr 3 0)]), some (.abs (.ensure t n e) [4]), some (.abs (.store t n st) [])])) : enRVC t n e0 st0 s0 K := by
  unfold enRVC
  refine ⟨by omega, okSt_intro (H := enR t n e0 st0 s0) ⟨0, false, e0, st0, s0⟩ rfl ⟨Nat.zero_le _, .nil⟩, ?_⟩
  rintro ⟨k, dn, e, st, s⟩ ⟨hk, hd⟩
  dsimp only at hk hd ⊢
  cases dn with
  | true => exact hK k e st s hk hd
  | false =>
    have hd : enRn t n e0 st0 s0 k e st s := hd
    obtain ⟨hk', hok⟩ := hinv k e st s hd
    have hb : ile 200 (k : Int) = false := by rw [ile_eq]; exact decide_eq_false (by omega)
    have e1 : W ((k : Int) + 1) = ((k + 1 : Nat) : Int) := by rw [W_id (by omega)]; rfl
    show cond (ile 200 (k : Int)) _ _
    rw [hb, e1]
    refine ⟨⟨⟨rfl, rfl, rfl⟩, hok⟩, ?_⟩
    cases hF : (enF t n e st s).d with
    | true =>
      exact okSt_intro (H := enR t n e0 st0 s0) ⟨k + 1, true, (enF t n e st s).e, (enF t n e st s).st, (enF t n e st s).s⟩ rfl ⟨⟨by show k + 1 ≤ 200; omega, ⟨k, e, st, s, rfl, hd, hF, rfl, rfl, rfl⟩⟩, by show 2 * (200 - (k + 1)) + 0 < 2 * (200 - k) + 1; omega⟩
    | false =>
      exact okSt_intro (H := enR t n e0 st0 s0) ⟨k + 1, false, (enF t n e st s).e, (enF t n e st s).st, (enF t n e st s).s⟩ rfl ⟨⟨by show k + 1 ≤ 200; omega, .snoc k e st s hd hF⟩, by show 2 * (200 - (k + 1)) + 1 < 2 * (200 - k) + 1; omega⟩
end Go.Sh

/- A machine that ensures a spare node, run alone: memory behind it. -/
namespace Go.Sh
open Go Go.Proofs
variable [Con]
/-- the node that is tried as the j-th -/
def nx (n a : Int) (j : Nat) : Int := (a - 1 + (j : Int)) % n + 1
theorem nx_in {n a : Int} (hn : 1 ≤ n) (j : Nat) : 1 ≤ nx n a j ∧ nx n a j ≤ n := by
  unfold nx
  have h1 := Int.emod_nonneg (a - 1 + (j : Int)) (show n ≠ 0 by omega)
  have h2 := Int.emod_lt_of_pos (a - 1 + (j : Int)) (show 0 < n by omega)
  omega
theorem nx_zero {n a : Int} (ha : 1 ≤ a ∧ a ≤ n) : nx n a 0 = a := by
  unfold nx
  rw [show a - 1 + ((0 : Nat) : Int) = a - 1 from by omega, Int.emod_eq_of_lt (by omega) (by omega)]; omega
theorem nx_succ {n a : Int} (hn : 1 ≤ n) (j : Nat) : nextN n (nx n a j) = nx n a (j + 1) := by
  have h := nx_in (a := a) hn j
  unfold nextN
  rw [Int.tmod_eq_emod_of_nonneg (by omega)]
  unfold nx
  rw [Int.emod_add_emod]
  rw [show a - 1 + (j : Int) + 1 = a - 1 + ((j + 1 : Nat) : Int) from by omega]
theorem nx_all {n a r : Int} (hn : 1 ≤ n) (hr : 1 ≤ r ∧ r ≤ n) : ∃ j : Nat, j < n.toNat ∧ nx n a j = r := by
  have h1 := Int.emod_nonneg (r - a) (show n ≠ 0 by omega)
  have h2 := Int.emod_lt_of_pos (r - a) (show 0 < n by omega)
  refine ⟨((r - a) % n).toNat, by omega, ?_⟩
  unfold nx
  rw [Int.toNat_of_nonneg h1, Int.add_emod_emod, show a - 1 + (r - a) = r - 1 from by omega, Int.emod_eq_of_lt (by omega) (by omega)]
  omega
/-- the first j nodes that are tried are taken -/
structure odd1 (n a : Int) (xs : List Int) (j : Nat) : Prop where
  h : ∀ i, i < j → oddB (peek xs (n + 4 + nx n a i)) = true
theorem odd1.all {n a : Int} {xs : List Int} (hn : 1 ≤ n) (h : odd1 n a xs n.toNat) : ∀ r, 1 ≤ r ∧ r ≤ n → oddB (peek xs (n + 4 + r)) = true := by
  intro r hr
  obtain ⟨j, h1, h2⟩ := nx_all (a := a) hn hr
  rw [← h2]; exact h.h j h1
structure TkM (n a : Int) (xs : List Int) (x : AL) (j : Nat) : Prop where
  hg : x.got = 0
  ha : x.at' = nx n a j
  hj : (j : Int) < n
  hl : x.left = n - j
  ho : odd1 n a xs j
  hf : x.free = true → x.found = peek xs (n + 4 + nx n a j) ∧ oddB x.found = false
inductive TkA (n a : Int) (xs : List Int) (e : ENS) (st : STS) (o : EO) : Prop where
  | got (b : Int) (hb : 1 ≤ b ∧ b ≤ n) (ho : oddB (peek xs (n + 4 + b)) = false) (hd : o.d = true) (hs : o.e.sh = e.sh) (ht : o.st = { st with sp := b }) (hx : o.s.xs = putI xs (n + 4 + b) (WU (peek xs (n + 4 + b) + 1)))
  | on (x : AL) (j : Nat) (h : TkM n a xs x j) (hd : o.d = false) (he : o.e = { e with ph := 1, x := x }) (ht : o.st = st) (hx : o.s.xs = xs)
  | out (x : AL) (h : odd1 n a xs n.toNat) (hd : o.d = (e.dn || ieq (st.R.length : Int) 0)) (he : o.e = { e with ph := 2, sh := e.dn || ieq (st.R.length : Int) 0, x := x }) (ht : o.st = { st with sp := 0 }) (hx : o.s.xs = xs)
theorem enTake_alone {t n a : Int} {e : ENS} {st : STS} {x : AL} {s : MS} {j : Nat} (hn : 1 ≤ n) (ht : 1 ≤ t) (hlen : s.xs.length = (2 * n + 5 * t + 6).toNat) (h : TkM n a s.xs x j) : TkA n a s.xs e st (enTake n e st x s) := by
  obtain ⟨hg, ha, hj, hl, ho, hf⟩ := h
  have hb := nx_in (a := a) hn j
  have hin : inB s.xs (n + 4 + x.at') = true := inB_true.2 (by rw [ha]; omega)
  unfold enTake
  cases hfr : x.free with
  | false =>
    cases hod : oddB (peek s.xs (n + 4 + x.at')) with
    | true =>
      have ho2 : odd1 n a s.xs (j + 1) := ⟨fun i hi => by
        by_cases c : i < j
        · exact ho.h i c
        · have : i = j := by omega
          subst this
          rw [← ha]; exact hod⟩
      dsimp only
      unfold enOn
      dsimp only
      cases hle : ile (x.left - 1) 0 with
      | true =>
        rw [ile_eq, decide_eq_true_eq] at hle
        have e1 : j + 1 = n.toNat := by omega
        rw [e1] at ho2
        exact .out _ ho2 rfl rfl rfl rfl
      | false =>
        rw [ile_eq, decide_eq_false_iff_not] at hle
        exact .on _ (j + 1) ⟨rfl, by dsimp only; rw [ha, nx_succ hn], by omega, by dsimp only; omega, ho2, fun c => by cases c⟩ rfl rfl rfl rfl
    | false =>
      dsimp only
      exact .on ⟨0, x.at', x.left, peek s.xs (n + 4 + x.at'), true⟩ j ⟨rfl, ha, hj, hl, ho, fun _ => ⟨by dsimp only; rw [ha], hod⟩⟩ rfl rfl rfl rfl
  | true =>
    obtain ⟨f1, f2⟩ := hf hfr
    have hc : casB s.xs (n + 4 + x.at') x.found = true := by
      unfold casB
      rw [hin, ha, ← f1, ieq_self]; rfl
    dsimp only
    rw [hc]
    refine .got (nx n a j) hb (by rw [← f1]; exact f2) rfl rfl (by dsimp only; rw [ha]) ?_
    show (cond (casB s.xs (n + 4 + x.at') x.found) (putI s.xs (n + 4 + x.at') (WU (x.found + 1))) s.xs : List Int) = _
    rw [hc, ha, f1]; rfl
/-- what a sweep of that memory keeps and frees -/
structure SwM (t n : Int) (xs0 R ks fs : List Int) : Prop where
  hk : ks = keptL (seenOf (slotsV xs0 n (2 * t).toNat)) R
  hf : fs = freedL (seenOf (slotsV xs0 n (2 * t).toNat)) R
inductive HisM (t n a : Int) (e0 : ENS) (st0 : STS) (xs0 : List Int) : ENS → STS → MS → Prop where
  | new (s : MS) (hx : s.xs = xs0) : HisM t n a e0 st0 xs0 e0 st0 s
  | take (x : AL) (y : SWS) (s : MS) (j : Nat) (hx : s.xs = xs0) (h : TkM n a xs0 x j) : HisM t n a e0 st0 xs0 ⟨1, false, false, x, y⟩ st0 s
  | swA (x : AL) (y : SWS) (s : MS) (hx : s.xs = xs0) (ho : odd1 n a xs0 n.toNat) (hR : st0.R ≠ []) : HisM t n a e0 st0 xs0 ⟨2, false, false, x, y⟩ { st0 with sp := 0 } s
  | swB (x : AL) (y : SWS) (s : MS) (k : Nat) (hx : s.xs = xs0) (ho : odd1 n a xs0 n.toNat) (hR : st0.R ≠ []) (hi : y.i = (k : Int)) (h2 : 1 ≤ y.i ∧ y.i < 2 * t) (hm : y.m = seenOf (slotsV xs0 n k)) (hN : y.N = st0.R) : HisM t n a e0 st0 xs0 ⟨3, false, false, x, y⟩ { st0 with sp := 0 } s
  | swC (x : AL) (y : SWS) (s : MS) (hx : s.xs = backAll n xs0 (y.fs.take y.j)) (ho : odd1 n a xs0 n.toNat) (hR : st0.R ≠ []) (h2 : y.i = 2 * t) (hS : SwM t n xs0 st0.R y.ks y.fs) (hg : y.gs = y.fs) (hj : y.j < y.fs.length) (hl : y.l = y.fs.length - y.j) : HisM t n a e0 st0 xs0 ⟨4, false, false, x, y⟩ { st0 with sp := 0 } s
  | again (x : AL) (y : SWS) (s : MS) (ks fs : List Int) (hx : s.xs = backAll n xs0 fs) (ho : odd1 n a xs0 n.toNat) (hR : st0.R ≠ []) (hS : SwM t n xs0 st0.R ks fs) (hf : fs ≠ []) : HisM t n a e0 st0 xs0 ⟨0, false, true, x, y⟩ ⟨st0.me, 0, ks⟩ s
  | take2 (x : AL) (y : SWS) (s : MS) (ks fs : List Int) (j : Nat) (hx : s.xs = backAll n xs0 fs) (ho : odd1 n a xs0 n.toNat) (hR : st0.R ≠ []) (hS : SwM t n xs0 st0.R ks fs) (hf : fs ≠ []) (h : TkM n a (backAll n xs0 fs) x j) : HisM t n a e0 st0 xs0 ⟨1, false, true, x, y⟩ ⟨st0.me, 0, ks⟩ s
inductive FinM (t n a : Int) (st0 : STS) (xs0 : List Int) : Bool → STS → List Int → Prop where
  | got (b : Int) (hb : 1 ≤ b ∧ b ≤ n) (ho : oddB (peek xs0 (n + 4 + b)) = false) : FinM t n a st0 xs0 false { st0 with sp := b } (putI xs0 (n + 4 + b) (WU (peek xs0 (n + 4 + b) + 1)))
  | none (ho : odd1 n a xs0 n.toNat) (hR : st0.R = []) : FinM t n a st0 xs0 true { st0 with sp := 0 } xs0
  | kept (ks : List Int) (ho : odd1 n a xs0 n.toNat) (hR : st0.R ≠ []) (hS : SwM t n xs0 st0.R ks []) : FinM t n a st0 xs0 true ⟨st0.me, 0, ks⟩ xs0
  | got2 (ks fs : List Int) (b : Int) (ho : odd1 n a xs0 n.toNat) (hR : st0.R ≠ []) (hS : SwM t n xs0 st0.R ks fs) (hf : fs ≠ []) (hb : 1 ≤ b ∧ b ≤ n) (hob : oddB (peek (backAll n xs0 fs) (n + 4 + b)) = false) : FinM t n a st0 xs0 false ⟨st0.me, b, ks⟩ (putI (backAll n xs0 fs) (n + 4 + b) (WU (peek (backAll n xs0 fs) (n + 4 + b) + 1)))
theorem odd_next {y : Int} (hy : 0 ≤ y ∧ y ≤ 18446744073709551615) : oddB (WU (y + 1)) = !oddB y := by
  have h0 := WU_rng (y + 1)
  have e : WU (y + 1) = (y + 1) % 18446744073709551616 := by
    unfold WU
    simp only [IntKind.wrap, IntKind.bits, IntKind.signed]
    simp
  unfold oddB
  rw [Int.tmod_eq_emod_of_nonneg h0.1, Int.tmod_eq_emod_of_nonneg hy.1, ieq_eq, ieq_eq, e]
  have h1 : (y + 1) % 18446744073709551616 % 2 = (y + 1) % 2 := by omega
  rw [h1]
  by_cases h : y % 2 = 0
  · rw [h, show (y + 1) % 2 = 1 from by omega]; rfl
  · have h2 : y % 2 = 1 := by omega
    rw [h2, show (y + 1) % 2 = 0 from by omega]; rfl
theorem freed_sub {t n : Int} {xs0 R ks fs : List Int} (h : SwM t n xs0 R ks fs) : (∀ r ∈ fs, r ∈ R) ∧ (R.Nodup → fs.Nodup) ∧ fs.length ≤ R.length ∧ ks.length ≤ R.length := by
  obtain ⟨hk, hf⟩ := h
  refine ⟨fun r hr => ?_, fun hnd => ?_, ?_, ?_⟩
  · rw [hf] at hr; unfold freedL at hr; exact (List.mem_filter.1 hr).1
  · rw [hf]; unfold freedL; exact hnd.filter _
  · rw [hf]; exact filt_len _ _
  · rw [hk]; exact filt_len _ _
theorem even_freed {t n a : Int} {xs0 R ks fs : List Int} (hn : 1 ≤ n) (ht : 1 ≤ t) (hRn : ∀ r ∈ R, 1 ≤ r ∧ r ≤ n) (hnd : R.Nodup) (hw : okW xs0) (hlen : xs0.length = (2 * n + 5 * t + 6).toNat) (ho : odd1 n a xs0 n.toNat) (hS : SwM t n xs0 R ks fs) : ∀ r ∈ fs, oddB (peek (backAll n xs0 fs) (n + 4 + r)) = false := by
  intro r hr
  obtain ⟨s1, s2, s3, s4⟩ := freed_sub hS
  have hrn := hRn r (s1 r hr)
  rw [back_at n fs xs0 (s2 hnd) (fun q hq => by have := hRn q (s1 q hq); rw [hlen]; omega) r hr, odd_next (okW_peek hw _), ho.all hn r hrn]; rfl
theorem none2 {t n a : Int} {xs0 R ks fs : List Int} (hn : 1 ≤ n) (ht : 1 ≤ t) (hRn : ∀ r ∈ R, 1 ≤ r ∧ r ≤ n) (hnd : R.Nodup) (hw : okW xs0) (hlen : xs0.length = (2 * n + 5 * t + 6).toNat) (ho : odd1 n a xs0 n.toNat) (hS : SwM t n xs0 R ks fs) (hf : fs ≠ []) (h : odd1 n a (backAll n xs0 fs) n.toNat) : False := by
  obtain ⟨s1, s2, s3, s4⟩ := freed_sub hS
  cases hfs : fs with
  | nil => exact hf hfs
  | cons r l =>
    have hr : r ∈ fs := by rw [hfs]; exact List.mem_cons_self
    have h1 := even_freed hn ht hRn hnd hw hlen ho hS r hr
    have h2 := h.all hn r (hRn r (s1 r hr))
    rw [h1] at h2; cases h2
theorem hisM_step {t n a : Int} {x0 : AL} {y0 : SWS} {st0 : STS} {xs0 : List Int} {e : ENS} {st : STS} {s : MS} (ht : 1 ≤ t ∧ t ≤ 8) (hn : 1 ≤ n ∧ n ≤ 1000) (ha : a = at0 t n st0.me) (h0 : st0.sp = 0) (hRn : ∀ r ∈ st0.R, 1 ≤ r ∧ r ≤ n) (hnd : st0.R.Nodup) (hw : okW xs0) (hlen : xs0.length = (2 * n + 5 * t + 6).toNat)
    (h : HisM t n a ⟨0, false, false, x0, y0⟩ st0 xs0 e st s) :
    ((enF t n e st s).d = false → HisM t n a ⟨0, false, false, x0, y0⟩ st0 xs0 (enF t n e st s).e (enF t n e st s).st (enF t n e st s).s) ∧ ((enF t n e st s).d = true → FinM t n a st0 xs0 (enF t n e st s).e.sh (enF t n e st s).st (enF t n e st s).s.xs) := by
  have hat : 1 ≤ a ∧ a ≤ n := by rw [ha]; exact at0_in hn.1
  have hx0 : ∀ xs : List Int, TkM n a xs ⟨0, a, n, 0, false⟩ 0 := fun xs => ⟨rfl, (nx_zero hat).symm, by omega, by dsimp only; omega, ⟨fun i hi => by omega⟩, fun c => by cases c⟩
  cases h with
  | new _ hx =>
    have ee : enF t n ⟨0, false, false, x0, y0⟩ st0 s = enTake n ⟨0, false, false, x0, y0⟩ st0 ⟨0, a, n, 0, false⟩ s := by unfold enF; dsimp only; rw [h0, ha] <;> rfl
    rw [ee]
    have hc := enTake_alone (e := ⟨0, false, false, x0, y0⟩) (st := st0) (s := s) hn.1 ht.1 (by rw [hx]; exact hlen) (hx0 s.xs)
    rw [hx] at hc
    cases hc with
    | got b hb ho hd hs ht hx =>
      rw [hd, hs, ht, hx]
      exact ⟨fun c => Bool.noConfusion c, fun _ => .got b hb ho⟩
    | on x j h hd he ht hx =>
      rw [hd, he, ht]
      exact ⟨fun _ => .take x y0 _ j hx h, fun c => Bool.noConfusion c⟩
    | out x h hd he ht hx =>
      rw [hd, he, ht, hx]
      cases hr : ieq (st0.R.length : Int) 0 with
      | true => exact ⟨fun c => Bool.noConfusion c, fun _ => .none h (nil_of hr)⟩
      | false =>
        have : st0.R ≠ [] := by intro c; rw [c] at hr; cases hr
        exact ⟨fun _ => .swA x y0 _ hx h this, fun c => Bool.noConfusion c⟩
  | take x y _ j hx hT =>
    have ee : enF t n ⟨1, false, false, x, y⟩ st0 s = enTake n ⟨1, false, false, x, y⟩ st0 x s := rfl
    rw [ee]
    have hc := enTake_alone (e := ⟨1, false, false, x, y⟩) (st := st0) (s := s) hn.1 ht.1 (by rw [hx]; exact hlen) (by rw [hx]; exact hT)
    rw [hx] at hc
    cases hc with
    | got b hb ho hd hs ht hx =>
      rw [hd, hs, ht, hx]
      exact ⟨fun c => Bool.noConfusion c, fun _ => .got b hb ho⟩
    | on x' j' h hd he ht hx =>
      rw [hd, he, ht]
      exact ⟨fun _ => .take x' y _ j' hx h, fun c => Bool.noConfusion c⟩
    | out x' h hd he ht hx =>
      rw [hd, he, ht, hx]
      cases hr : ieq (st0.R.length : Int) 0 with
      | true => exact ⟨fun c => Bool.noConfusion c, fun _ => .none h (nil_of hr)⟩
      | false =>
        have : st0.R ≠ [] := by intro c; rw [c] at hr; cases hr
        exact ⟨fun _ => .swA x' y _ hx h this, fun c => Bool.noConfusion c⟩
  | swA x y _ hx ho hR =>
    have ee : enF t n ⟨2, false, false, x, y⟩ { st0 with sp := 0 } s = ⟨false, ⟨3, false, false, x, { y with N := st0.R, m := seenM [] n 0 s, i := 1 }⟩, { st0 with sp := 0 }, s.loadd (slotA n 0)⟩ := rfl
    rw [ee]
    exact ⟨fun _ => .swB x _ _ 1 hx ho hR rfl (by dsimp only; omega) (by rw [← hx]; rfl) rfl, fun c => Bool.noConfusion c⟩
  | swB x y _ k hx ho hR hi h2 hm hN =>
    have hsee : seenM y.m n y.i s = seenOf (slotsV xs0 n (k + 1)) := by rw [slotsV_succ, seenOf_snoc, ← hm, ← hx, hi]; rfl
    cases he : ieq (y.i + 1) (2 * t) with
    | false =>
      have he' : y.i + 1 ≠ 2 * t := by rw [ieq_eq] at he; simpa using he
      have ee : enF t n ⟨3, false, false, x, y⟩ { st0 with sp := 0 } s = ⟨false, ⟨3, false, false, x, { y with m := seenM y.m n y.i s, i := y.i + 1 }⟩, { st0 with sp := 0 }, s.loadd (slotA n y.i)⟩ := by unfold enF; dsimp only; rw [he] <;> rfl
      rw [ee]
      exact ⟨fun _ => .swB x _ _ (k + 1) hx ho hR (by dsimp only; omega) (by dsimp only; omega) hsee hN, fun c => Bool.noConfusion c⟩
    | true =>
      have he' : y.i + 1 = 2 * t := by rw [ieq_eq] at he; simpa using he
      have ek : (2 * t).toNat = k + 1 := by omega
      cases hz : ieq ((freedL (seenM y.m n y.i s) y.N).length : Int) 0 with
      | true =>
        have ee : enF t n ⟨3, false, false, x, y⟩ { st0 with sp := 0 } s = ⟨true, ⟨0, true, true, x, y⟩, { st0 with sp := 0, R := keptL (seenM y.m n y.i s) y.N }, s.loadd (slotA n y.i)⟩ := by unfold enF; dsimp only; rw [he, hz] <;> rfl
        rw [ee]
        refine ⟨fun c => Bool.noConfusion c, fun _ => ?_⟩
        show FinM t n a st0 xs0 true ⟨st0.me, 0, keptL (seenM y.m n y.i s) y.N⟩ s.xs
        rw [hx]
        exact .kept _ ho hR ⟨by rw [ek, ← hsee, hN], by rw [ek, ← hsee, ← hN]; exact (nil_of hz).symm⟩
      | false =>
        have ee : enF t n ⟨3, false, false, x, y⟩ { st0 with sp := 0 } s = ⟨false, ⟨4, false, false, x, ⟨0, y.N, seenM y.m n y.i s, y.i + 1, keptL (seenM y.m n y.i s) y.N, freedL (seenM y.m n y.i s) y.N, freedL (seenM y.m n y.i s) y.N, 0, (freedL (seenM y.m n y.i s) y.N).length⟩⟩, { st0 with sp := 0 }, s.loadd (slotA n y.i)⟩ := by unfold enF; dsimp only; rw [he, hz] <;> rfl
        rw [ee]
        have hz' : 0 < (freedL (seenM y.m n y.i s) y.N).length := by
          rw [ieq_eq] at hz
          have : ((freedL (seenM y.m n y.i s) y.N).length : Int) ≠ 0 := by simpa using hz
          omega
        exact ⟨fun _ => .swC x _ _ hx ho hR he' ⟨by dsimp only; rw [ek, ← hsee, hN], by dsimp only; rw [ek, ← hsee, hN]⟩ rfl hz' rfl, fun c => Bool.noConfusion c⟩
  | swC x y _ hx ho hR h2 hS hg hj hl =>
    have hfj : List.getD y.fs (y.j + Int.toNat 0 * 1) 0 = y.fs[y.j] := by
      show List.getD y.fs (y.j + 0) 0 = y.fs[y.j]
      rw [Nat.add_zero, List.getD_eq_getElem?_getD, List.getElem?_eq_getElem hj]; rfl
    have hlf : lifeA n y.gs y.j = n + 4 + y.fs[y.j] := by unfold lifeA; rw [hg, hfj]
    have hx' : (s.added (lifeA n y.gs y.j) 1).xs = backAll n xs0 (y.fs.take (y.j + 1)) := by
      rw [List.take_succ_eq_append_getElem hj, backAll_snoc, ← hx, hlf]; rfl
    cases hz : ieq ((y.l - 1 : Nat) : Int) 0 with
    | false =>
      have hz' : y.l - 1 ≠ 0 := by
        rw [ieq_eq] at hz
        have : ((y.l - 1 : Nat) : Int) ≠ 0 := by simpa using hz
        omega
      have ee : enF t n ⟨4, false, false, x, y⟩ { st0 with sp := 0 } s = ⟨false, ⟨4, false, false, x, { y with j := y.j + 1, l := y.l - 1 }⟩, { st0 with sp := 0 }, s.added (lifeA n y.gs y.j) 1⟩ := by unfold enF; dsimp only; rw [hz] <;> rfl
      rw [ee]
      exact ⟨fun _ => .swC x { y with j := y.j + 1, l := y.l - 1 } _ hx' ho hR h2 hS hg (by dsimp only; omega) (by dsimp only; omega), fun c => Bool.noConfusion c⟩
    | true =>
      have hz' : y.l - 1 = 0 := by
        rw [ieq_eq] at hz
        have : ((y.l - 1 : Nat) : Int) = 0 := by simpa using hz
        omega
      have hfne : y.fs ≠ [] := by intro c; rw [c] at hj; cases hj
      have hfz : ieq (y.fs.length : Int) 0 = false := by
        cases h : ieq (y.fs.length : Int) 0 with
        | false => rfl
        | true => exact absurd (nil_of h) hfne
      have ee : enF t n ⟨4, false, false, x, y⟩ { st0 with sp := 0 } s = ⟨false, ⟨0, false, true, x, y⟩, { st0 with sp := 0, R := y.ks }, s.added (lifeA n y.gs y.j) 1⟩ := by unfold enF; dsimp only; rw [hz, hfz] <;> rfl
      rw [ee]
      rw [List.take_of_length_le (by omega)] at hx'
      exact ⟨fun _ => .again x y _ y.ks y.fs hx' ho hR hS hfne, fun c => Bool.noConfusion c⟩
  | again x y _ ks fs hx ho hR hS hf =>
    have ee : enF t n ⟨0, false, true, x, y⟩ ⟨st0.me, 0, ks⟩ s = enTake n ⟨0, false, true, x, y⟩ ⟨st0.me, 0, ks⟩ ⟨0, a, n, 0, false⟩ s := by rw [ha]; rfl
    rw [ee]
    have hc := enTake_alone (e := ⟨0, false, true, x, y⟩) (st := ⟨st0.me, 0, ks⟩) (s := s) hn.1 ht.1 (by rw [hx, backAll_len]; exact hlen) (hx0 s.xs)
    rw [hx] at hc
    cases hc with
    | got b hb hob hd hs ht hx =>
      rw [hd, hs, ht, hx]
      exact ⟨fun c => Bool.noConfusion c, fun _ => .got2 ks fs b ho hR hS hf hb hob⟩
    | on x' j h hd he ht hx =>
      rw [hd, he, ht]
      exact ⟨fun _ => .take2 x' y _ ks fs j hx ho hR hS hf h, fun c => Bool.noConfusion c⟩
    | out x' h hd he hst hx2 => exact (none2 hn.1 ht.1 hRn hnd hw hlen ho hS hf h).elim
  | take2 x y _ ks fs j hx ho hR hS hf hT =>
    have ee : enF t n ⟨1, false, true, x, y⟩ ⟨st0.me, 0, ks⟩ s = enTake n ⟨1, false, true, x, y⟩ ⟨st0.me, 0, ks⟩ x s := rfl
    rw [ee]
    have hc := enTake_alone (e := ⟨1, false, true, x, y⟩) (st := ⟨st0.me, 0, ks⟩) (s := s) hn.1 ht.1 (by rw [hx, backAll_len]; exact hlen) (by rw [hx]; exact hT)
    rw [hx] at hc
    cases hc with
    | got b hb hob hd hs ht hx =>
      rw [hd, hs, ht, hx]
      exact ⟨fun c => Bool.noConfusion c, fun _ => .got2 ks fs b ho hR hS hf hb hob⟩
    | on x' j' h hd he ht hx =>
      rw [hd, he, ht]
      exact ⟨fun _ => .take2 x' y _ ks fs j' hx ho hR hS hf h, fun c => Bool.noConfusion c⟩
    | out x' h hd he hst hx2 => exact (none2 hn.1 ht.1 hRn hnd hw hlen ho hS hf h).elim
end Go.Sh

/- A machine that ensures a spare node, run alone: its contract. -/
namespace Go.Sh
open Go Go.Proofs
variable [Con]
theorem enF_tn (t n : Int) (e : ENS) (st : STS) (s : MS) : (enF t n e st s).s.t = s.t ∧ (enF t n e st s).s.n = s.n := by
  unfold enF enTake enOn
  repeat' split
  all_goals exact ⟨rfl, rfl⟩
theorem en_rn {t n : Int} {e0 : ENS} {st0 : STS} {s0 : MS} (hw : okW s0.xs) (hl : s0.xs.length = (2 * n + 5 * t + 6).toNat) {k : Nat} {e : ENS} {st : STS} {s : MS} (h : enRn t n e0 st0 s0 k e st s) : (∃ A, enTr t n e0 st0 k e st A) ∧ okW s.xs ∧ s.xs.length = (2 * n + 5 * t + 6).toNat ∧ s.c = s0.c + k ∧ s.t = s0.t ∧ s.n = s0.n := by
  induction h with
  | nil => exact ⟨⟨[], .nil⟩, hw, hl, by omega, rfl, rfl⟩
  | snoc k e st s h hd ih =>
    obtain ⟨⟨A, tr⟩, i1, i2, i3, i4, i5⟩ := ih
    have ha := enF_acted t n e st s
    have hb := enF_tn t n e st s
    exact ⟨⟨_, .snoc k e st A s tr i1 i2 hd⟩, ha.w i1, by rw [ha.l, i2], by rw [ha.c, i3]; omega, by rw [hb.1, i4], by rw [hb.2, i5]⟩
theorem en_rnM {t n a : Int} {x0 : AL} {y0 : SWS} {st0 : STS} {s0 : MS} (ht : 1 ≤ t ∧ t ≤ 8) (hn : 1 ≤ n ∧ n ≤ 1000) (ha : a = at0 t n st0.me) (h0 : st0.sp = 0) (hRn : ∀ r ∈ st0.R, 1 ≤ r ∧ r ≤ n) (hnd : st0.R.Nodup) (hw : okW s0.xs) (hlen : s0.xs.length = (2 * n + 5 * t + 6).toNat) {k : Nat} {e : ENS} {st : STS} {s : MS} (h : enRn t n ⟨0, false, false, x0, y0⟩ st0 s0 k e st s) : HisM t n a ⟨0, false, false, x0, y0⟩ st0 s0.xs e st s := by
  induction h with
  | nil => exact .new _ rfl
  | snoc k e st s h hd ih => exact (hisM_step ht hn ha h0 hRn hnd hw hlen ih).1 hd
def enSH (t n : Int) (sh : Bool) (st : STS) (s : MS) : Heap Ob := mH s ++ [some (.cells [.iface 58 (.ptr 3 0)]), some (.cells [.ptr 4 0, .bool sh, .top, .top, .top]), some (.cells [.int .i64 t, .int .i64 n, .int .i64 st.me, .int .i64 st.sp, .slice 6 0 st.R.length 1]), none, some (.ints (some .i64) st.R)]
theorem en_openR {t n : Int} {k : Nat} {e : ENS} {st : STS} {s : MS} {K : AVal → Heap Ob → Prop} (hK : K (.tup [.int .i64 (k : Int), .bool true]) (enSH t n e.sh st s)) :
    OpenK tbl (OpenK tbl (LessK (Trim 6 K))) (.tup [.int .i64 (k : Int), .bool true]) (mH s ++ [some (.cells [.iface 58 (.ptr 3 0)]), some (.abs (.ensure t n e) [4]), some (.abs (.store t n st) []), none]) := by
  refine ⟨.store t n st, 4, 0, stG t n st, [], rfl, rfl, rfl, ?_⟩
  obtain ⟨ph, sh, dn, x, y⟩ := e
  match ph with
  | 0 => exact ⟨.ensure t n ⟨0, sh, dn, x, y⟩, 3, 1, enG t n ⟨0, sh, dn, x, y⟩, [4], rfl, rfl, rfl, less_intro (g2 := enSH t n sh st s ++ []) (by exact rfl) (by exact rfl) (wc (wsame _) (wc (wsame _) (wc (wsame _) (wc (wcell (wv (.inl rfl) (wv (.inl rfl) (wv (.inr rfl) (wv (.inr rfl) (wv (.inr rfl) vend)))))) (wc (wsame _) (wc (wsame _) (wc (wsame _) wend))))))) (Eq.mp (by kernel_rfl) hK)⟩
  | 1 => exact ⟨.ensure t n ⟨1, sh, dn, x, y⟩, 3, 1, enG t n ⟨1, sh, dn, x, y⟩, [4], rfl, rfl, rfl, less_intro (g2 := enSH t n sh st s ++ [none]) (by exact rfl) (by exact rfl) (wc (wsame _) (wc (wsame _) (wc (wsame _) (wc (wcell (wv (.inl rfl) (wv (.inl rfl) (wv (.inr rfl) (wv (.inr rfl) (wv (.inr rfl) vend)))))) (wc (wsame _) (wc (wsame _) (wc (wsame _) (wc wnone wend)))))))) (Eq.mp (by kernel_rfl) hK)⟩
  | 2 => exact ⟨.ensure t n ⟨2, sh, dn, x, y⟩, 3, 1, enG t n ⟨2, sh, dn, x, y⟩, [4], rfl, rfl, rfl, less_intro (g2 := enSH t n sh st s ++ [none, none]) (by exact rfl) (by exact rfl) (wc (wsame _) (wc (wsame _) (wc (wsame _) (wc (wcell (wv (.inl rfl) (wv (.inl rfl) (wv (.inr rfl) (wv (.inr rfl) (wv (.inr rfl) vend)))))) (wc (wsame _) (wc (wsame _) (wc (wsame _) (wc wnone (wc wnone wend))))))))) (Eq.mp (by kernel_rfl) hK)⟩
  | 3 => exact ⟨.ensure t n ⟨3, sh, dn, x, y⟩, 3, 1, enG t n ⟨3, sh, dn, x, y⟩, [4], rfl, rfl, rfl, less_intro (g2 := enSH t n sh st s ++ [none, none, none, none, none]) (by exact rfl) (by exact rfl) (wc (wsame _) (wc (wsame _) (wc (wsame _) (wc (wcell (wv (.inl rfl) (wv (.inl rfl) (wv (.inr rfl) (wv (.inr rfl) (wv (.inr rfl) vend)))))) (wc (wsame _) (wc (wsame _) (wc (wsame _) (wc wnone (wc wnone (wc wnone (wc wnone (wc wnone wend)))))))))))) (Eq.mp (by kernel_rfl) hK)⟩
  | k2 + 4 => exact ⟨.ensure t n ⟨k2 + 4, sh, dn, x, y⟩, 3, 1, enG t n ⟨k2 + 4, sh, dn, x, y⟩, [4], rfl, rfl, rfl, less_intro (g2 := enSH t n sh st s ++ [none, none, none, none, none, none, none, none, none]) (by exact rfl) (by exact rfl) (wc (wsame _) (wc (wsame _) (wc (wsame _) (wc (wcell (wv (.inl rfl) (wv (.inl rfl) (wv (.inr rfl) (wv (.inr rfl) (wv (.inr rfl) vend)))))) (wc (wsame _) (wc (wsame _) (wc (wsame _) (wc wnone (wc wnone (wc wnone (wc wnone (wc wnone (wc wnone (wc wnone (wc wnone (wc wnone wend)))))))))))))))) (Eq.mp (by kernel_rfl) hK)⟩
set_option maxRecDepth 20000 in
theorem en_rcall (t n : Int) (st : STS) (s : MS) (K : AVal → Heap Ob → Prop) (ht : 1 ≤ t ∧ t ≤ 8) (hn : 1 ≤ n ∧ n ≤ 30) (hm : 0 ≤ st.me ∧ st.me ≤ 1000) (h0 : st.sp = 0) (hR : st.R.length ≤ 40) (hRn : ∀ r ∈ st.R, 1 ≤ r ∧ r ≤ n) (hnd : st.R.Nodup) (hw : okW s.xs) (hlen : s.xs.length = (2 * n + 5 * t + 6).toNat) (hc : 0 ≤ s.c ∧ s.c ≤ 900000)
    (hK : ∀ (k : Nat) (sh : Bool) (st' : STS) (s' : MS), FinM t n (at0 t n st.me) st s.xs sh st' s'.xs → K (.tup [.int .i64 (k : Int), .bool true]) (enSH t n sh st' s')) :
    CallOk (obI tbl) Try.prog 21 [.ptr 0 0, .int .i64 200, .slice 2 0 1 1] (mH s ++ [some (.cells [.iface 58 (.ptr 3 0)]), some (.cells [.ptr 4 0, .bool false, .raw (.pointer none), .raw (.pointer none), .bool false]), some (.cells [.int .i64 t, .int .i64 n, .int .i64 st.me, .int .i64 st.sp, .slice 5 0 st.R.length 1]), some (.ints (some .i64) st.R)]) K := by
  refine CallOk.trim (CallOk.less (CallOk.opened tbl (CallOk.opened tbl ?_)))
  refine CallOk.shut tbl (mH s ++ [some (.cells [.iface 58 (.ptr 3 0)]), some (.abs (.ensure t n ⟨0, false, false, ⟨0, 0, 0, 0, false⟩, ⟨0, [], [], 0, [], [], [], 0, 0⟩⟩) [4]), some (.cells [.int .i64 t, .int .i64 n, .int .i64 st.me, .int .i64 st.sp, .slice 5 0 st.R.length 1]), some (.ints (some .i64) st.R)]) (.ensure t n ⟨0, false, false, ⟨0, 0, 0, 0, false⟩, ⟨0, [], [], 0, [], [], [], 0, 0⟩⟩) 3 1 (enG t n ⟨0, false, false, ⟨0, 0, 0, 0, false⟩, ⟨0, [], [], 0, [], [], [], 0, 0⟩⟩) [4] rfl rfl rfl rfl ?_
  refine CallOk.shut tbl (mH s ++ [some (.cells [.iface 58 (.ptr 3 0)]), some (.abs (.ensure t n ⟨0, false, false, ⟨0, 0, 0, 0, false⟩, ⟨0, [], [], 0, [], [], [], 0, 0⟩⟩) [4]), some (.abs (.store t n st) [])]) (.store t n st) 4 0 (stG t n st) [] rfl rfl rfl rfl ?_
  refine en_rprint t n ⟨0, false, false, ⟨0, 0, 0, 0, false⟩, ⟨0, [], [], 0, [], [], [], 0, 0⟩⟩ st s _ (en_run t n _ st s _ ?_ ?_)
  · intro k e st1 s1 h
    obtain ⟨⟨A, tr⟩, i1, i2, i3, i4, i5⟩ := en_rn hw hlen h
    obtain ⟨h1, h2⟩ := his_tr ht (by omega) hRn tr
    have h3 := his_ok ht hn hm hR hRn h2
    exact ⟨by omega, h3.2 s1 (by omega)⟩
  · rintro k e st1 s1 hk ⟨k1, e1, st2, s2, q1, q2, q3, q4, q5, q6⟩
    have hh := (hisM_step ht (by omega) rfl h0 hRn hnd hw hlen (en_rnM ht (by omega) rfl h0 hRn hnd hw hlen q2)).2 q3
    rw [← q4, ← q5, ← q6] at hh
    exact en_openR (hK k e.sh st1 s1 hh)
def runEnS : Spec Ob := fun args h => match args, h with
  | [.ptr 0 0, .int .i64 200, .slice 2 0 1 1], [e1, e2, some (.cells [.iface 58 (.ptr 3 0)]), some (.cells [.ptr 4 0, .bool false, .raw (.pointer none), .raw (.pointer none), .bool false]), some (.cells [.int .i64 t, .int .i64 n, .int .i64 me, .int .i64 sp, .slice 5 0 k 1]), some (.ints (some .i64) R)] => (match memPat [e1, e2] with
    | some (l, s) => some (.pre ((l = s.xs.length ∧ k = R.length) ∧ (1 ≤ t ∧ t ≤ 8) ∧ (1 ≤ n ∧ n ≤ 30) ∧ (0 ≤ me ∧ me ≤ 1000) ∧ sp = 0 ∧ R.length ≤ 40 ∧ (∀ r ∈ R, 1 ≤ r ∧ r ≤ n) ∧ R.Nodup ∧ okW s.xs ∧ s.xs.length = (2 * n + 5 * t + 6).toNat ∧ (0 ≤ s.c ∧ s.c ≤ 900000)) (.all (Nat × Bool × STS × MS) (fun x => FinM t n (at0 t n me) ⟨me, sp, R⟩ s.xs x.2.1 x.2.2.1 x.2.2.2.xs) (fun x => .ret (.tup [.int .i64 (x.1 : Int), .bool true]) (enSH t n x.2.1 x.2.2.1 x.2.2.2))))
    | none => none)
  | _, _ => none
theorem runEn_ok : Spec.ok (obI tbl) Try.prog 21 runEnS := by
  intro args h o ho K hK
  unfold runEnS at ho
  split at ho
  case h_2 => cases ho
  rename_i e1 e2 t n me sp k R
  split at ho
  case h_2 => cases ho
  rename_i l s hm
  simp only [Option.some.injEq] at ho; subst ho
  obtain ⟨⟨⟨hl, hk⟩, ht, hn, hme, hsp, hR, hRn, hnd, hw, hlen, hc⟩, hK⟩ := hK
  have hh := memPat_eq hm hl
  unfold memH at hh
  simp only [List.cons.injEq, and_true] at hh
  obtain ⟨rfl, rfl⟩ := hh
  subst hk
  exact en_rcall t n ⟨me, sp, R⟩ s K ht hn hme hsp hR hRn hnd hw hlen hc (fun k sh st' s' h => hK (k, sh, st', s') h)
end Go.Sh

/- Nodes that are free. -/
namespace Go.Sh
open Go Go.Proofs
variable [Con]
/- OPQ -/
def freeK (xs : List Int) (n : Int) (k : Nat) : List Int := ((List.range k).map fun (i : Nat) => (i : Int) + 1).filter fun r => !tkB xs n r
theorem freeK_succ (xs : List Int) (n : Int) (k : Nat) : freeK xs n (k + 1) = freeK xs n k ++ (bif tkB xs n ((k : Int) + 1) then [] else [(k : Int) + 1]) := by
  unfold freeK
  rw [List.range_succ, List.map_append, List.filter_append]
  cases h : tkB xs n ((k : Int) + 1) <;> simp [h]
theorem freeK_len (xs : List Int) (n : Int) (k : Nat) : (freeK xs n k).length ≤ k := by
  unfold freeK
  exact Nat.le_trans (List.length_filter_le _ _) (by simp)
theorem freeK_mem {xs : List Int} {n : Int} {k : Nat} {r : Int} : r ∈ freeK xs n k ↔ (1 ≤ r ∧ r ≤ k) ∧ tkB xs n r = false := by
  unfold freeK
  rw [List.mem_filter, List.mem_map]
  constructor
  · rintro ⟨⟨i, hi, rfl⟩, h⟩
    have := List.mem_range.1 hi
    exact ⟨by omega, by simpa using h⟩
  · rintro ⟨h, h2⟩
    exact ⟨⟨(r - 1).toNat, List.mem_range.2 (by omega), by omega⟩, by rw [h2]; rfl⟩
def HFr (t n : Int) (s : MS) : Hint Ob := { X := Nat, st := fun i => ([.ptr 0 0, .top, .top, .ptr 2 0, .top, .slice 3 0 (freeK s.xs n i).length 1, .int .i64 ((i : Int) + 1)] ++ List.replicate 15 .top, mH s ++ [some (.cells [.int .i64 t, .int .i64 n]), some (.ints (some .i64) (freeK s.xs n i))]), ok := fun i => (i : Int) ≤ n, mu := fun i => n.toNat - i, keep := [0, 3, 5, 6], casts := [(.slot 5, .ints (some .i64))] }
def frVC (t n : Int) (s : MS) (K : AVal → Heap Ob → Prop) : Prop := okSt (HFr t n s) (Hint.ok (HFr t n s)) [AVal.ptr 0 0, AVal.top, AVal.top, AVal.ptr 2 0, AVal.top, AVal.slice 3 0 0 1, AVal.int .i64 1, AVal.top, AVal.top, AVal.top, AVal.top, AVal.top, AVal.top, AVal.top, AVal.top, AVal.top, AVal.top, AVal.top, AVal.top, AVal.top, AVal.top, AVal.top] [some (Entry.cells [AVal.int .i64 s.1, AVal.int .i64 s.2, AVal.slice 1 0 (List.length s.3) 1, AVal.int .i64 s.4, AVal.int .i64 s.5, AVal.int .i64 s.6, AVal.int .u64 s.7, AVal.int .u64 s.8, AVal.bool s.9]), some (Entry.ints (some .u64) s.3), some (Entry.cells [AVal.int .i64 t, AVal.int .i64 n]), some (Entry.ints (some .i64) [])] ∧ ∀ (x : Nat), (↑x : Int) ≤ n → True ∧ bif nodeB n ((↑x : Int) + 1) then (List.length s.3 = List.length s.3 ∧ ((1 : Int) ≤ t ∧ t ≤ (8 : Int)) ∧ ((1 : Int) ≤ n ∧ n ≤ (1000 : Int)) ∧ (1 : Int) ≤ (↑x : Int) + 1 ∧ (↑x : Int) + (1 : Int) ≤ n) ∧ bif !tkB s.3 n ((↑x : Int) + 1) then (0 = 0 ∧ List.length (freeK s.3 n x) = List.length (freeK s.3 n x) ∧ 1 = 1 ∧ List.length (freeK s.3 n x) + (1 : Nat) ≤ (4294967296 : Nat)) ∧ okSt (HFr t n s) (fun x' => Hint.ok (HFr t n s) x' ∧ Hint.mu (HFr t n s) x' < Hint.mu (HFr t n s) x) [AVal.ptr 0 0, AVal.top, AVal.top, AVal.ptr 2 0, AVal.top, AVal.slice 3 0 (List.length (freeK s.3 n x) + 1) 1, AVal.int .i64 (W ((↑x : Int) + 1 + 1)), AVal.top, AVal.top, AVal.top, AVal.top, AVal.top, AVal.top, AVal.top, AVal.top, AVal.top, AVal.top, AVal.top, AVal.top, AVal.top, AVal.top, AVal.top] [some (Entry.cells [AVal.int .i64 s.1, AVal.int .i64 s.2, AVal.slice 1 0 (List.length s.3) 1, AVal.int .i64 s.4, AVal.int .i64 s.5, AVal.int .i64 s.6, AVal.int .u64 s.7, AVal.int .u64 s.8, AVal.bool s.9]), some (Entry.ints (some .u64) s.3), some (Entry.cells [AVal.int .i64 t, AVal.int .i64 n]), some (Entry.ints (some .i64) (freeK s.3 n x ++ [(↑x : Int) + 1]))] else okSt (HFr t n s) (fun x' => Hint.ok (HFr t n s) x' ∧ Hint.mu (HFr t n s) x' < Hint.mu (HFr t n s) x) [AVal.ptr 0 0, AVal.top, AVal.top, AVal.ptr 2 0, AVal.top, AVal.slice 3 0 (List.length (freeK s.3 n x)) 1, AVal.int .i64 (W ((↑x : Int) + 1 + 1)), AVal.top, AVal.top, AVal.top, AVal.top, AVal.top, AVal.top, AVal.top, AVal.top, AVal.top, AVal.top, AVal.top, AVal.top, AVal.top, AVal.top, AVal.top] [some (Entry.cells [AVal.int .i64 s.1, AVal.int .i64 s.2, AVal.slice 1 0 (List.length s.3) 1, AVal.int .i64 s.4, AVal.int .i64 s.5, AVal.int .i64 s.6, AVal.int .u64 s.7, AVal.int .u64 s.8, AVal.bool s.9]), some (Entry.ints (some .u64) s.3), some (Entry.cells [AVal.int .i64 t, AVal.int .i64 n]), some (Entry.ints (some .i64) (freeK s.3 n x))] else K (AVal.slice 2 0 (List.length (freeK s.3 n x)) 1) [some (Entry.cells [AVal.int .i64 s.1, AVal.int .i64 s.2, AVal.slice 1 0 (List.length s.3) 1, AVal.int .i64 s.4, AVal.int .i64 s.5, AVal.int .i64 s.6, AVal.int .u64 s.7, AVal.int .u64 s.8, AVal.bool s.9]), some (Entry.ints (some .u64) s.3), some (Entry.ints (some .i64) (freeK s.3 n x))]
theorem fr_print (t n : Int) (s : MS) (K : AVal → Heap Ob → Prop) (hK : frVC t n s K) : CallOk (obI tbl) Try.prog 41 [.ptr 0 0, .agg [.int .i64 t, .int .i64 n]] (mH s) K := by
  refine CallOk.trim (callOk_of (E := E67) Try.checked.mixed (L := fun _ _ => some (.states (HFr t n s))) (n := 10) (of_nf (q := frVC t n s K) (by kernel_rfl) hK))
end Go.Sh

/- Nodes that are free: the contract. -/
namespace Go.Sh
open Go Go.Proofs
variable [Con]
theorem nodeB_dec (n a : Int) : nodeB n a = decide (1 ≤ a ∧ a ≤ n) := by
  unfold nodeB
  cases h1 : (ile 1 a) <;> cases h2 : ile a n <;> rw [ile_eq] at h1 h2 <;> simp at h1 h2 <;> simp <;> omega
theorem fr_walk (t n : Int) (s : MS) (K : AVal → Heap Ob → Prop) (ht : 1 ≤ t ∧ t ≤ 8) (hn : 1 ≤ n ∧ n ≤ 1000) (hK : K (.slice 2 0 (freeK s.xs n n.toNat).length 1) (mH s ++ [some (.ints (some .i64) (freeK s.xs n n.toNat))])) : frVC t n s K := by
  unfold frVC
  refine ⟨okSt_intro (H := HFr t n s) (0 : Nat) rfl (by show ((0 : Nat) : Int) ≤ n; omega), ?_⟩
  intro i hi
  refine ⟨trivial, ?_⟩
  have e1 : W ((i : Int) + 1 + 1) = ((i + 1 : Nat) : Int) + 1 := by rw [W_id (by omega)]; omega
  have hs := freeK_succ s.xs n i
  have hfl := freeK_len s.xs n i
  rw [e1]
  cases hb : nodeB n ((i : Int) + 1) with
  | true =>
    have hb' : 1 ≤ (i : Int) + 1 ∧ (i : Int) + 1 ≤ n := by
      rw [nodeB_dec] at hb
      exact of_decide_eq_true hb
    refine ⟨⟨rfl, ht, hn, hb'⟩, ?_⟩
    have hmu : n.toNat - (i + 1) < n.toNat - i := by omega
    cases h : tkB s.xs n ((i : Int) + 1) with
    | true =>
      rw [h] at hs
      simp only [cond_true, List.append_nil] at hs
      exact okSt_intro (H := HFr t n s) (i + 1 : Nat) (by simp only [HFr, hs]; rfl) ⟨by show ((i + 1 : Nat) : Int) ≤ n; omega, hmu⟩
    | false =>
      rw [h] at hs
      simp only [cond_false] at hs
      exact ⟨⟨rfl, rfl, rfl, by omega⟩, okSt_intro (H := HFr t n s) (i + 1 : Nat) (by simp only [HFr, hs, List.length_append]; rfl) ⟨by show ((i + 1 : Nat) : Int) ≤ n; omega, hmu⟩⟩
  | false =>
    have hb' : ¬ (1 ≤ (i : Int) + 1 ∧ (i : Int) + 1 ≤ n) := by
      rw [nodeB_dec] at hb
      exact of_decide_eq_false hb
    have : i = n.toNat := by omega
    subst this
    exact hK
def frS : Spec Ob := fun args h => match args with
  | [.ptr 0 0, .agg [.int .i64 t, .int .i64 n]] => (match memPat h with
    | some (l, s) => some (.pre (l = s.xs.length ∧ (1 ≤ t ∧ t ≤ 8) ∧ (1 ≤ n ∧ n ≤ 1000)) (.ret (.slice 2 0 (freeK s.xs n n.toNat).length 1) (mH s ++ [some (.ints (some .i64) (freeK s.xs n n.toNat))])))
    | none => none)
  | _ => none
theorem fr_ok : Spec.ok (obI tbl) Try.prog 41 frS := by
  intro args h o ho K hK
  unfold frS at ho
  split at ho
  case h_2 => cases ho
  rename_i t n
  split at ho
  case h_2 => cases ho
  rename_i l s hm
  simp only [Option.some.injEq] at ho; subst ho
  obtain ⟨⟨hl, ht, hn⟩, hK⟩ := hK
  have hh := memPat_eq hm hl
  subst hh
  exact fr_print t n s K (fr_walk t n s K ht hn hK)
noncomputable def E75 := (E67.addS 21 runEnS runEn_ok).addS 41 frS fr_ok
end Go.Sh

