import Derived.Test.YtjklokfpnbnndaaZM23toM30
set_option linter.all false
/- An announcement: the law's walk. -/
namespace Go.Sh
open Go Go.Proofs
variable [Con]
theorem tk {A : List (List Int)} {i k a : Int} {r : List Int} (hi : 0 ≤ i) (h : A[i.toNat]? = some r) (hk : a0 r = k) (ha : a1 r = a) : tTook A ⟨i, false, false⟩ k a = ⟨i + 1, false, false⟩ ∧ tGot A ⟨i, false, false⟩ k a = r := by
  have hlt : i.toNat < A.length := by
    rcases Nat.lt_or_ge i.toNat A.length with h1 | h1
    · exact h1
    · rw [List.getElem?_eq_none h1] at h; cases h
  have hl : ile (A.length : Int) i = false := by rw [ile_eq]; exact decide_eq_false (by omega)
  have hr : tRow A ⟨i, false, false⟩ = r := by
    unfold tRow
    show List.getD A (0 + i.toNat) [] = r
    rw [Nat.zero_add, List.getD_eq_getElem?_getD, h]; rfl
  have hh : tHit A ⟨i, false, false⟩ k a = true := by
    unfold tHit
    rw [hr, hl, hk, ha, ieq_self, ieq_self]; rfl
  constructor
  · unfold tTook; rw [hh, hl]; rfl
  · unfold tGot; rw [hh, hr]; rfl
theorem tst {A : List (List Int)} {i a x : Int} {r : List Int} (hi : 0 ≤ i) (h : A[i.toNat]? = some r) (hk : a0 r = 2) (ha : a1 r = a) (hx : a4 r = true → a3 r = x) : tStor A ⟨i, false, false⟩ a x = ⟨i + 1, false, false⟩ := by
  obtain ⟨e1, e2⟩ := tk hi h hk ha
  unfold tStor
  rw [e1, e2]
  cases e : a4 r with
  | false => rfl
  | true => rw [hx e, ieq_self]; rfl
theorem tad {A : List (List Int)} {i a x : Int} {r : List Int} (hi : 0 ≤ i) (h : A[i.toNat]? = some r) (hk : a0 r = 4) (ha : a1 r = a) (hx : a4 r = true → a3 r = WU (a2 r + x)) : tAdd A ⟨i, false, false⟩ a x = ⟨i + 1, false, false⟩ := by
  obtain ⟨e1, e2⟩ := tk hi h hk ha
  unfold tAdd
  rw [e1, e2]
  cases e : a4 r with
  | false => rfl
  | true => rw [hx e, ieq_self]; rfl
theorem announces_ok (t n s k y : Int) (ws : List Int) (p : Nat) (fa fx : Nat → Int) (ht : 0 ≤ t ∧ t ≤ 255) (hn : 0 ≤ n ∧ n ≤ 255) (hws : okW ws) (hfx : ∀ i, 0 ≤ fx i ∧ fx i ≤ 18446744073709551615) :
    CallOk E30.I Try.prog 11 [.agg [.int .u8 t, .int .u8 n, .iview (some .u64) ws], .agg [.int .i64 s, .int .i64 k, .int .i64 y], .view p 2 (fun i => [.int .i64 (fa i), .int .u64 (fx i)])] ([] : Heap Unit) (fun v _ => v = .bool true) := by
  refine callOk_of (E := E30) Try.checked.mixed (L := LL) (n := 10) (of_nf (q := True ∧ bif ilt 60 (↑(List.length ws) : Int) then AVal.bool true = AVal.bool true else bif ilt 60 (↑p : Int) then AVal.bool true = AVal.bool true else (((0 : Int) ≤ t ∧ t ≤ (255 : Int)) ∧ (0 : Int) ≤ n ∧ n ≤ (255 : Int)) ∧ thr t ≠ (0 : Int) ∧ ((List.length (memW (thr t) (nod n) ws) = List.length (memW (thr t) (nod n) ws) ∧ (0 : Int) = (0 : Int) ∧ (0 : Int) = (0 : Int) ∧ (0 : Int) = (0 : Int) ∧ ((1 : Int) ≤ thr t ∧ thr t ≤ (1000 : Int)) ∧ ((1 : Int) ≤ nod n ∧ nod n ≤ (1000 : Int)) ∧ ((0 : Int) ≤ Int.tmod (↑p : Int) (thr t) ∧ Int.tmod (↑p : Int) (thr t) < thr t) ∧ ((0 : Int) ≤ bif rightT s k y then tskV s k y else 0) ∧ (bif rightT s k y then tskV s k y else 0) ≤ (18446744073709551615 : Int)) ∧ List.length (memW (thr t) (nod n) ws) = Int.toNat (2 * nod n + 5 * thr t + 6) ∧ okW (memW (thr t) (nod n) ws) ∧ ∃ fa_1 fx_1 : Nat → Int, ((fun i => [AVal.int .i64 (fa i), AVal.int .u64 (fx i)]) = fun i => [AVal.int .i64 (fa_1 i), AVal.int .u64 (fx_1 i)]) ∧ ∀ (i : Nat), (0 : Int) ≤ fx_1 i ∧ fx_1 i ≤ (18446744073709551615 : Int)) ∧ ∀ (x : AX), doneAX (thr t) (nod n) (Int.tmod (↑p : Int) (thr t)) (bif rightT s k y then tskV s k y else 0) (!rightT s k y) x → True ∧ bif !rightT s k y then (List.length x.5 = List.length x.5 ∧ (0 : Int) ≤ (0 : Int) ∧ (0 : Int) ≤ (4611686018427387904 : Int)) ∧ True ∧ bif fitsB (↑(List.length x.5) : Int) (tTook x.5 { i := (0 : Int), bad := false, out := false } 1 0) true then AVal.bool (ieq x.3 0) = AVal.bool true else AVal.bool false = AVal.bool true else (((0 : Int) ≤ thr t ∧ thr t ≤ (100000 : Int)) ∧ ((0 : Int) ≤ nod n ∧ nod n ≤ (100000 : Int)) ∧ (-1099511627776 : Int) ≤ Int.tmod (↑p : Int) (thr t) ∧ Int.tmod (↑p : Int) (thr t) ≤ (1099511627776 : Int)) ∧ (((0 : Int) ≤ s ∧ s ≤ (1000 : Int)) ∧ ((0 : Int) ≤ k ∧ k ≤ (1000 : Int)) ∧ (0 : Int) ≤ y ∧ y ≤ (1000 : Int)) ∧ ((List.length x.5 = List.length x.5 ∧ (0 : Int) ≤ (0 : Int) ∧ (0 : Int) ≤ (4611686018427387904 : Int)) ∧ True) ∧ (((0 : Int) ≤ thr t ∧ thr t ≤ (100000 : Int)) ∧ (0 : Int) ≤ nod n ∧ nod n ≤ (100000 : Int)) ∧ (List.length x.5 = List.length x.5 ∧ (0 : Int) ≤ (tStor x.5 { i := (0 : Int), bad := false, out := false } (2 * nod n + 5 + 2 * thr t + 3 * Int.tmod (↑p : Int) (thr t) + 1) (tskV s k y)).1 ∧ (tStor x.5 { i := (0 : Int), bad := false, out := false } (2 * nod n + 5 + 2 * thr t + 3 * Int.tmod (↑p : Int) (thr t) + 1) (tskV s k y)).1 ≤ (4611686018427387904 : Int)) ∧ (((0 : Int) ≤ thr t ∧ thr t ≤ (100000 : Int)) ∧ ((0 : Int) ≤ nod n ∧ nod n ≤ (100000 : Int)) ∧ (-1099511627776 : Int) ≤ Int.tmod (↑p : Int) (thr t) ∧ Int.tmod (↑p : Int) (thr t) ≤ (1099511627776 : Int)) ∧ (List.length x.5 = List.length x.5 ∧ (0 : Int) ≤ (tAdd x.5 (tStor x.5 { i := (0 : Int), bad := false, out := false } (2 * nod n + 5 + 2 * thr t + 3 * Int.tmod (↑p : Int) (thr t) + 1) (tskV s k y)) (2 * nod n + 5 + 2 * thr t + 3 * thr t) 1).1 ∧ (tAdd x.5 (tStor x.5 { i := (0 : Int), bad := false, out := false } (2 * nod n + 5 + 2 * thr t + 3 * Int.tmod (↑p : Int) (thr t) + 1) (tskV s k y)) (2 * nod n + 5 + 2 * thr t + 3 * thr t) 1).1 ≤ (4611686018427387904 : Int)) ∧ (((0 : Int) ≤ thr t ∧ thr t ≤ (100000 : Int)) ∧ ((0 : Int) ≤ nod n ∧ nod n ≤ (100000 : Int)) ∧ (-1099511627776 : Int) ≤ Int.tmod (↑p : Int) (thr t) ∧ Int.tmod (↑p : Int) (thr t) ≤ (1099511627776 : Int)) ∧ (List.length x.5 = List.length x.5 ∧ (0 : Int) ≤ (tStor x.5 (tAdd x.5 (tStor x.5 { i := (0 : Int), bad := false, out := false } (2 * nod n + 5 + 2 * thr t + 3 * Int.tmod (↑p : Int) (thr t) + 1) (tskV s k y)) (2 * nod n + 5 + 2 * thr t + 3 * thr t) 1) (2 * nod n + 5 + 2 * thr t + 3 * Int.tmod (↑p : Int) (thr t)) (WU (a2 (tGot x.5 (tStor x.5 { i := (0 : Int), bad := false, out := false } (2 * nod n + 5 + 2 * thr t + 3 * Int.tmod (↑p : Int) (thr t) + 1) (tskV s k y)) 4 (2 * nod n + 5 + 2 * thr t + 3 * thr t)) + 1))).1 ∧ (tStor x.5 (tAdd x.5 (tStor x.5 { i := (0 : Int), bad := false, out := false } (2 * nod n + 5 + 2 * thr t + 3 * Int.tmod (↑p : Int) (thr t) + 1) (tskV s k y)) (2 * nod n + 5 + 2 * thr t + 3 * thr t) 1) (2 * nod n + 5 + 2 * thr t + 3 * Int.tmod (↑p : Int) (thr t)) (WU (a2 (tGot x.5 (tStor x.5 { i := (0 : Int), bad := false, out := false } (2 * nod n + 5 + 2 * thr t + 3 * Int.tmod (↑p : Int) (thr t) + 1) (tskV s k y)) 4 (2 * nod n + 5 + 2 * thr t + 3 * thr t)) + 1))).1 ≤ (4611686018427387904 : Int)) ∧ ((0 : Int) ≤ a2 (tGot x.5 (tStor x.5 (tAdd x.5 (tStor x.5 { i := (0 : Int), bad := false, out := false } (2 * nod n + 5 + 2 * thr t + 3 * Int.tmod (↑p : Int) (thr t) + 1) (tskV s k y)) (2 * nod n + 5 + 2 * thr t + 3 * thr t) 1) (2 * nod n + 5 + 2 * thr t + 3 * Int.tmod (↑p : Int) (thr t)) (WU (a2 (tGot x.5 (tStor x.5 { i := (0 : Int), bad := false, out := false } (2 * nod n + 5 + 2 * thr t + 3 * Int.tmod (↑p : Int) (thr t) + 1) (tskV s k y)) 4 (2 * nod n + 5 + 2 * thr t + 3 * thr t)) + 1))) 1 (2 * nod n + 5 + 2 * thr t + 3 * Int.tmod (↑p : Int) (thr t) + 2)) ∧ a2 (tGot x.5 (tStor x.5 (tAdd x.5 (tStor x.5 { i := (0 : Int), bad := false, out := false } (2 * nod n + 5 + 2 * thr t + 3 * Int.tmod (↑p : Int) (thr t) + 1) (tskV s k y)) (2 * nod n + 5 + 2 * thr t + 3 * thr t) 1) (2 * nod n + 5 + 2 * thr t + 3 * Int.tmod (↑p : Int) (thr t)) (WU (a2 (tGot x.5 (tStor x.5 { i := (0 : Int), bad := false, out := false } (2 * nod n + 5 + 2 * thr t + 3 * Int.tmod (↑p : Int) (thr t) + 1) (tskV s k y)) 4 (2 * nod n + 5 + 2 * thr t + 3 * thr t)) + 1))) 1 (2 * nod n + 5 + 2 * thr t + 3 * Int.tmod (↑p : Int) (thr t) + 2)) ≤ (18446744073709551615 : Int)) ∧ (((0 : Int) ≤ thr t ∧ thr t ≤ (100000 : Int)) ∧ ((0 : Int) ≤ nod n ∧ nod n ≤ (100000 : Int)) ∧ (-1099511627776 : Int) ≤ Int.tmod (↑p : Int) (thr t) ∧ Int.tmod (↑p : Int) (thr t) ≤ (1099511627776 : Int)) ∧ (((0 : Int) ≤ W (cutI (a2 (tGot x.5 (tStor x.5 (tAdd x.5 (tStor x.5 { i := (0 : Int), bad := false, out := false } (2 * nod n + 5 + 2 * thr t + 3 * Int.tmod (↑p : Int) (thr t) + 1) (tskV s k y)) (2 * nod n + 5 + 2 * thr t + 3 * thr t) 1) (2 * nod n + 5 + 2 * thr t + 3 * Int.tmod (↑p : Int) (thr t)) (WU (a2 (tGot x.5 (tStor x.5 { i := (0 : Int), bad := false, out := false } (2 * nod n + 5 + 2 * thr t + 3 * Int.tmod (↑p : Int) (thr t) + 1) (tskV s k y)) 4 (2 * nod n + 5 + 2 * thr t + 3 * thr t)) + 1))) 1 (2 * nod n + 5 + 2 * thr t + 3 * Int.tmod (↑p : Int) (thr t) + 2))) 0 12 + 1) ∧ W (cutI (a2 (tGot x.5 (tStor x.5 (tAdd x.5 (tStor x.5 { i := (0 : Int), bad := false, out := false } (2 * nod n + 5 + 2 * thr t + 3 * Int.tmod (↑p : Int) (thr t) + 1) (tskV s k y)) (2 * nod n + 5 + 2 * thr t + 3 * thr t) 1) (2 * nod n + 5 + 2 * thr t + 3 * Int.tmod (↑p : Int) (thr t)) (WU (a2 (tGot x.5 (tStor x.5 { i := (0 : Int), bad := false, out := false } (2 * nod n + 5 + 2 * thr t + 3 * Int.tmod (↑p : Int) (thr t) + 1) (tskV s k y)) 4 (2 * nod n + 5 + 2 * thr t + 3 * thr t)) + 1))) 1 (2 * nod n + 5 + 2 * thr t + 3 * Int.tmod (↑p : Int) (thr t) + 2))) 0 12 + 1) ≤ (1000000 : Int)) ∧ ((0 : Int) ≤ (0 : Int) ∧ (0 : Int) ≤ (1000000 : Int)) ∧ ((0 : Int) ≤ (0 : Int) ∧ (0 : Int) ≤ (1000000 : Int)) ∧ ((0 : Int) ≤ (0 : Int) ∧ (0 : Int) ≤ (1000000 : Int)) ∧ ((0 : Int) ≤ (1 : Int) ∧ (1 : Int) ≤ (1000000 : Int)) ∧ (0 : Int) ≤ (0 : Int) ∧ (0 : Int) ≤ (1000000 : Int)) ∧ ((List.length x.5 = List.length x.5 ∧ (0 : Int) ≤ (tTook x.5 (tStor x.5 (tAdd x.5 (tStor x.5 { i := (0 : Int), bad := false, out := false } (2 * nod n + 5 + 2 * thr t + 3 * Int.tmod (↑p : Int) (thr t) + 1) (tskV s k y)) (2 * nod n + 5 + 2 * thr t + 3 * thr t) 1) (2 * nod n + 5 + 2 * thr t + 3 * Int.tmod (↑p : Int) (thr t)) (WU (a2 (tGot x.5 (tStor x.5 { i := (0 : Int), bad := false, out := false } (2 * nod n + 5 + 2 * thr t + 3 * Int.tmod (↑p : Int) (thr t) + 1) (tskV s k y)) 4 (2 * nod n + 5 + 2 * thr t + 3 * thr t)) + 1))) 1 (2 * nod n + 5 + 2 * thr t + 3 * Int.tmod (↑p : Int) (thr t) + 2)).1 ∧ (tTook x.5 (tStor x.5 (tAdd x.5 (tStor x.5 { i := (0 : Int), bad := false, out := false } (2 * nod n + 5 + 2 * thr t + 3 * Int.tmod (↑p : Int) (thr t) + 1) (tskV s k y)) (2 * nod n + 5 + 2 * thr t + 3 * thr t) 1) (2 * nod n + 5 + 2 * thr t + 3 * Int.tmod (↑p : Int) (thr t)) (WU (a2 (tGot x.5 (tStor x.5 { i := (0 : Int), bad := false, out := false } (2 * nod n + 5 + 2 * thr t + 3 * Int.tmod (↑p : Int) (thr t) + 1) (tskV s k y)) 4 (2 * nod n + 5 + 2 * thr t + 3 * thr t)) + 1))) 1 (2 * nod n + 5 + 2 * thr t + 3 * Int.tmod (↑p : Int) (thr t) + 2)).1 ≤ (4611686018427387904 : Int)) ∧ True) ∧ True ∧ bif fitsB (↑(List.length x.5) : Int) (tStor x.5 (tTook x.5 (tStor x.5 (tAdd x.5 (tStor x.5 { i := (0 : Int), bad := false, out := false } (2 * nod n + 5 + 2 * thr t + 3 * Int.tmod (↑p : Int) (thr t) + 1) (tskV s k y)) (2 * nod n + 5 + 2 * thr t + 3 * thr t) 1) (2 * nod n + 5 + 2 * thr t + 3 * Int.tmod (↑p : Int) (thr t)) (WU (a2 (tGot x.5 (tStor x.5 { i := (0 : Int), bad := false, out := false } (2 * nod n + 5 + 2 * thr t + 3 * Int.tmod (↑p : Int) (thr t) + 1) (tskV s k y)) 4 (2 * nod n + 5 + 2 * thr t + 3 * thr t)) + 1))) 1 (2 * nod n + 5 + 2 * thr t + 3 * Int.tmod (↑p : Int) (thr t) + 2)) (2 * nod n + 5 + 2 * thr t + 3 * Int.tmod (↑p : Int) (thr t) + 2) (dPutV (W (cutI (a2 (tGot x.5 (tStor x.5 (tAdd x.5 (tStor x.5 { i := (0 : Int), bad := false, out := false } (2 * nod n + 5 + 2 * thr t + 3 * Int.tmod (↑p : Int) (thr t) + 1) (tskV s k y)) (2 * nod n + 5 + 2 * thr t + 3 * thr t) 1) (2 * nod n + 5 + 2 * thr t + 3 * Int.tmod (↑p : Int) (thr t)) (WU (a2 (tGot x.5 (tStor x.5 { i := (0 : Int), bad := false, out := false } (2 * nod n + 5 + 2 * thr t + 3 * Int.tmod (↑p : Int) (thr t) + 1) (tskV s k y)) 4 (2 * nod n + 5 + 2 * thr t + 3 * thr t)) + 1))) 1 (2 * nod n + 5 + 2 * thr t + 3 * Int.tmod (↑p : Int) (thr t) + 2))) 0 12 + 1) % 4096) (0 % 512) (0 % 262144) (0 % 512) false (1 % 8) (0 % 1024))) true then AVal.bool (ieq x.3 (WU (a2 (tGot x.5 (tStor x.5 { i := (0 : Int), bad := false, out := false } (2 * nod n + 5 + 2 * thr t + 3 * Int.tmod (↑p : Int) (thr t) + 1) (tskV s k y)) 4 (2 * nod n + 5 + 2 * thr t + 3 * thr t)) + 1))) = AVal.bool true else AVal.bool false = AVal.bool true) (by kernel_rfl) ?_)
  have h1 := thr_in ht
  have h2 := nod_in hn
  have hW : okW (memW (thr t) (nod n) ws) := okW_memW hws
  have hl := memW_length (thr t) (nod n) ws
  have hme := tmod_in (x := (p : Int)) (t := thr t) (by omega) (by omega)
  generalize memW (thr t) (nod n) ws = MW at hW hl ⊢
  generalize Int.tmod (p : Int) (thr t) = me at hme ⊢
  generalize thr t = T at h1 hme hl ⊢
  generalize nod n = N at h2 hl ⊢
  refine ⟨trivial, cond_go (fun _ => rfl) (fun _ => cond_go (fun _ => rfl) (fun _ => ⟨⟨ht, hn⟩, by omega, ⟨⟨rfl, rfl, rfl, rfl, by omega, by omega, hme, ?_⟩, hl, hW, fa, fx, rfl, hfx⟩, ?_⟩))⟩
  · cases hr : rightT s k y with
    | false => simp only [cond_false]; omega
    | true =>
      have := rightT_iff.1 hr
      simp only [cond_true]
      unfold tskV
      omega
  · rintro ⟨i, ms, no, fo, A⟩ ⟨g0, g1⟩
    dsimp only at g0 g1 ⊢
    refine ⟨trivial, ?_⟩
    cases hr : rightT s k y with
    | false =>
      rw [hr] at g0 g1
      obtain ⟨hno, o, b, hA⟩ := g0 rfl
      subst hA hno
      have e := (tk (A := [[1, 0, o, o, b]]) (i := 0) (k := 1) (a := 0) (r := [1, 0, o, o, b]) (by omega) rfl rfl rfl).1
      simp only [Bool.not_false, cond_true]
      rw [e]
      exact ⟨⟨trivial, by omega⟩, trivial, rfl⟩
    | true =>
      rw [hr] at g0 g1
      obtain ⟨o0, o1, o2, o3, o4, ho3, hA, hno⟩ := g1 rfl
      have hr' := rightT_iff.1 hr
      simp only [cond_true] at hA
      have hc := cut_att o3
      have hc2 : 0 ≤ cutI o3 0 12 ∧ cutI o3 0 12 < 4096 := cutI_in (x := o3) (a := 0) (w := 12)
      have hwc : W (cutI o3 0 12 + 1) = cutI o3 0 12 + 1 := W_id (by omega)
      have e0 : tStor A ⟨0, false, false⟩ (2 * N + 5 + 2 * T + 3 * me + 1) (tskV s k y) = ⟨0 + 1, false, false⟩ := tst (r := [2, 2 * N + 5 + 2 * T + 3 * me + 1, o0, tskV s k y, 1]) (by omega) (by rw [hA]; rfl) rfl rfl (fun _ => rfl)
      have e1 : tAdd A ⟨0 + 1, false, false⟩ (2 * N + 5 + 2 * T + 3 * T) 1 = ⟨0 + 1 + 1, false, false⟩ := tad (r := [4, 2 * N + 5 + 2 * T + 3 * T, o1, WU (o1 + 1), 1]) (by omega) (by rw [hA]; rfl) rfl rfl (fun _ => rfl)
      have e1' : tGot A ⟨0 + 1, false, false⟩ 4 (2 * N + 5 + 2 * T + 3 * T) = [4, 2 * N + 5 + 2 * T + 3 * T, o1, WU (o1 + 1), 1] := (tk (r := [4, 2 * N + 5 + 2 * T + 3 * T, o1, WU (o1 + 1), 1]) (by omega) (by rw [hA]; rfl) rfl rfl).2
      have e2 : tStor A ⟨0 + 1 + 1, false, false⟩ (2 * N + 5 + 2 * T + 3 * me) (WU (o1 + 1)) = ⟨0 + 1 + 1 + 1, false, false⟩ := tst (r := [2, 2 * N + 5 + 2 * T + 3 * me, o2, WU (o1 + 1), 1]) (by omega) (by rw [hA]; rfl) rfl rfl (fun _ => rfl)
      have e3 : tTook A ⟨0 + 1 + 1 + 1, false, false⟩ 1 (2 * N + 5 + 2 * T + 3 * me + 2) = ⟨0 + 1 + 1 + 1 + 1, false, false⟩ := (tk (r := [1, 2 * N + 5 + 2 * T + 3 * me + 2, o3, o3, 1]) (by omega) (by rw [hA]; rfl) rfl rfl).1
      have e3' : tGot A ⟨0 + 1 + 1 + 1, false, false⟩ 1 (2 * N + 5 + 2 * T + 3 * me + 2) = [1, 2 * N + 5 + 2 * T + 3 * me + 2, o3, o3, 1] := (tk (r := [1, 2 * N + 5 + 2 * T + 3 * me + 2, o3, o3, 1]) (by omega) (by rw [hA]; rfl) rfl rfl).2
      have e4 : tStor A ⟨0 + 1 + 1 + 1 + 1, false, false⟩ (2 * N + 5 + 2 * T + 3 * me + 2) (nextW o3) = ⟨0 + 1 + 1 + 1 + 1 + 1, false, false⟩ := tst (r := [2, 2 * N + 5 + 2 * T + 3 * me + 2, o4, nextW o3, 1]) (by omega) (by rw [hA]; rfl) rfl rfl (fun _ => rfl)
      have a21 : a2 [4, 2 * N + 5 + 2 * T + 3 * T, o1, WU (o1 + 1), 1] = o1 := rfl
      have a23 : a2 [1, 2 * N + 5 + 2 * T + 3 * me + 2, o3, o3, 1] = o3 := rfl
      have hnx : dPutV ((cutI o3 0 12 + 1) % 4096) (0 % 512) (0 % 262144) (0 % 512) false (1 % 8) (0 % 1024) = nextW o3 := by rw [nextW_eq hc2]; rfl
      have hAl : A.length = 5 := by rw [hA]; rfl
      simp only [Bool.not_true, cond_false, e0, e1, e1', a21, e2, e3, e3', a23, hwc, hnx, e4, hno, ieq_self]
      have hf : fitsB ((A.length : Nat) : Int) ⟨0 + 1 + 1 + 1 + 1 + 1, false, false⟩ true = true := by rw [hAl]; rfl
      rw [hf]
      simp only [true_and, and_true, cond_true]
      repeat first
        | omega
        | refine ⟨by omega, ?_⟩
end Go.Sh

