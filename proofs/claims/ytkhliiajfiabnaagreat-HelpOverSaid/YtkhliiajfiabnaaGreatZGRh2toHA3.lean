import Derived.Test.YtkhliiajfiabnaaGreatZGHtoGRh
set_option linter.all false
namespace Go.Sh
open Go Go.Proofs
variable [Con]
theorem hp_vc (t n : Int) (N : Nat) (most : Int) (x0 : HPS) (st0 : STS) (s0 : MS) (K : AVal → Heap Ob → Prop) (hN : most = (N : Int)) (hb : N ≤ 1000000) (ok : hpRunOk t n N x0 st0 s0)
    (hK : (Out.ite (hpRun t n N x0 st0 s0).2.1 (.ret (.tup [.int .i64 ((hpRun t n N x0 st0 s0).1 : Int), .bool true]) [memC 1 (hpRun t n N x0 st0 s0).2.2.2.2, memX (hpRun t n N x0 st0 s0).2.2.2.2, some (.cells [.iface 36 (.ptr 3 0)]), some (.cells [.ptr 4 0, .int .i64 (hpRun t n N x0 st0 s0).2.2.1.u, .int .u64 (hpRun t n N x0 st0 s0).2.2.1.no, .int .i64 (hpRun t n N x0 st0 s0).2.2.1.rounds, .int .i64 (hpRun t n N x0 st0 s0).2.2.1.limit, .int .i64 (hpRun t n N x0 st0 s0).2.2.1.at', .int .u64 (hpRun t n N x0 st0 s0).2.2.1.found, .int .i64 (hpRun t n N x0 st0 s0).2.2.1.sh, .int .i64 (hpRun t n N x0 st0 s0).2.2.1.kd, .int .i64 (hpRun t n N x0 st0 s0).2.2.1.ky, .bool (hpRun t n N x0 st0 s0).2.2.1.p.now, .int .i64 (hpRun t n N x0 st0 s0).2.2.1.p.code, .bool (hpRun t n N x0 st0 s0).2.2.1.p.okk, .int .i64 (hpRun t n N x0 st0 s0).2.2.1.p.val, .int .i64 (hpRun t n N x0 st0 s0).2.2.1.p.addr, .int .u64 (hpRun t n N x0 st0 s0).2.2.1.p.old, .int .i64 (hpRun t n N x0 st0 s0).2.2.1.p.nxt, .bool (hpRun t n N x0 st0 s0).2.2.1.p.mark, .int .i64 (hpRun t n N x0 st0 s0).2.2.1.p.pops, .top, .top, .top, .top, .top]), some (.abs (.store t n (hpRun t n N x0 st0 s0).2.2.2.1) [])]) (.ret (.tup [.int .i64 ((hpRun t n N x0 st0 s0).1 : Int), .bool false]) [memC 1 (hpRun t n N x0 st0 s0).2.2.2.2, memX (hpRun t n N x0 st0 s0).2.2.2.2, some (.cells [.iface 36 (.ptr 3 0)]), some (.abs (.help t n (hpRun t n N x0 st0 s0).2.2.1) [4]), some (.abs (.store t n (hpRun t n N x0 st0 s0).2.2.2.1) [])])).run K) : hpRVC t n N most x0 st0 s0 K := by
  unfold hpRVC
  subst hN
  refine ⟨by omega, okSt_intro (H := hpHa t n N N x0 st0 s0) (0, x0, st0, s0) rfl ⟨⟨Nat.zero_le _, ok, rfl⟩, trivial⟩, ?_, ?_, trivial⟩
  · rintro ⟨k, x, st, s⟩ ⟨hk, heq⟩
    rw [heq] at hK
    exact hK
  · rintro ⟨k, x, st, s⟩ ⟨hk, ok, heq⟩
    dsimp only at hk ok heq ⊢
    refine cond_go (fun e => ?_) (fun e => ?_)
    · rw [ile_eq, decide_eq_true_eq] at e
      have hkN : k = N := by omega
      subst hkN
      rw [Nat.sub_self] at heq
      rw [heq, hpRun_0, Nat.zero_add] at hK
      exact hK
    · rw [ile_eq, decide_eq_false_iff_not] at e
      have hkN : N - k = (N - (k + 1)) + 1 := by omega
      rw [hkN] at ok heq
      rw [hpRunOk_s] at ok
      rw [hpRun_s] at heq
      have e4 : W ((k : Int) + 1) = ((k + 1 : Nat) : Int) := by rw [W, W_in (by omega)]; rfl
      refine ⟨⟨⟨rfl, rfl, rfl⟩, ok.1⟩, cond_go (fun hd => ?_) (fun hd => ?_)⟩
      · refine okSt_intro (H := hpHb t n N N x0 st0 s0) (k + 1, (hpF t n x st s).x, (hpF t n x st s).st, (hpF t n x st s).s) (by simp only [e4]; rfl) ⟨⟨by show k + 1 ≤ N; omega, ?_⟩, by show 2 * (N - (k + 1)) < 2 * (N - k) + 1; omega⟩
        have hd' : (hpF t n x st s).d = true := hd
        rw [heq, hd']
        simp only [cond_true]
        rw [Nat.add_comm]
      · refine okSt_intro (H := hpHa t n N N x0 st0 s0) (k + 1, (hpF t n x st s).x, (hpF t n x st s).st, (hpF t n x st s).s) (by simp only [e4]; rfl) ⟨⟨by show k + 1 ≤ N; omega, ok.2 hd, ?_⟩, by show 2 * (N - (k + 1)) + 1 < 2 * (N - k) + 1; omega⟩
        have hd' : (hpF t n x st s).d = false := hd
        rw [heq, hd']
        simp only [cond_false]
        rw [Nat.add_assoc, Nat.add_comm 1 k]
instance : Inhabited MS := ⟨⟨0, 0, [], 0, 0, 0, 0, 0, false⟩⟩
instance : Inhabited STS := ⟨⟨0, 0, []⟩⟩
def hpRN (t n : Int) (f : Nat) (x : HPS) (st : STS) (s : MS) : Nat × Bool × HPS × STS × MS := hpRun t n f x st s
def hpROk (t n : Int) (f : Nat) (x : HPS) (st : STS) (s : MS) : Prop := hpRunOk t n f x st s
noncomputable def hpRunS : Spec Ob := fun args h => match args, h with
  | [.ptr 0 0, .int .i64 most, .slice 2 0 1 1], [e1, e2, some (.cells [.iface 36 (.ptr 3 0)]), some (.abs (.help t n x) [4]), e5, e6] => (match memL 1 [e1, e2], stL 5 [e5, e6] with
    | some (l, s), some (l2, t2, n2, st) => some (.pre ((l = s.xs.length ∧ l2 = st.R.length ∧ t2 = t ∧ n2 = n) ∧ (0 ≤ most ∧ most ≤ 1000000) ∧ hpROk t n most.toNat x st s) (.ite (hpRN t n most.toNat x st s).2.1 (.ret (.tup [.int .i64 ((hpRN t n most.toNat x st s).1 : Int), .bool true]) [memC 1 (hpRN t n most.toNat x st s).2.2.2.2, memX (hpRN t n most.toNat x st s).2.2.2.2, some (.cells [.iface 36 (.ptr 3 0)]), some (.cells [.ptr 4 0, .int .i64 (hpRN t n most.toNat x st s).2.2.1.u, .int .u64 (hpRN t n most.toNat x st s).2.2.1.no, .int .i64 (hpRN t n most.toNat x st s).2.2.1.rounds, .int .i64 (hpRN t n most.toNat x st s).2.2.1.limit, .int .i64 (hpRN t n most.toNat x st s).2.2.1.at', .int .u64 (hpRN t n most.toNat x st s).2.2.1.found, .int .i64 (hpRN t n most.toNat x st s).2.2.1.sh, .int .i64 (hpRN t n most.toNat x st s).2.2.1.kd, .int .i64 (hpRN t n most.toNat x st s).2.2.1.ky, .bool (hpRN t n most.toNat x st s).2.2.1.p.now, .int .i64 (hpRN t n most.toNat x st s).2.2.1.p.code, .bool (hpRN t n most.toNat x st s).2.2.1.p.okk, .int .i64 (hpRN t n most.toNat x st s).2.2.1.p.val, .int .i64 (hpRN t n most.toNat x st s).2.2.1.p.addr, .int .u64 (hpRN t n most.toNat x st s).2.2.1.p.old, .int .i64 (hpRN t n most.toNat x st s).2.2.1.p.nxt, .bool (hpRN t n most.toNat x st s).2.2.1.p.mark, .int .i64 (hpRN t n most.toNat x st s).2.2.1.p.pops, .top, .top, .top, .top, .top]), stC 6 t n (hpRN t n most.toNat x st s).2.2.2.1, none, stX (hpRN t n most.toNat x st s).2.2.2.1]) (.ret (.tup [.int .i64 ((hpRN t n most.toNat x st s).1 : Int), .bool false]) [memC 1 (hpRN t n most.toNat x st s).2.2.2.2, memX (hpRN t n most.toNat x st s).2.2.2.2, some (.cells [.iface 36 (.ptr 3 0)]), some (.abs (.help t n (hpRN t n most.toNat x st s).2.2.1) [4]), stC 6 t n (hpRN t n most.toNat x st s).2.2.2.1, none, stX (hpRN t n most.toNat x st s).2.2.2.1])))
    | _, _ => none)
  | _, _ => none
theorem hpRun_ok : Spec.ok (obI tbl) Tryz.prog 10 hpRunS := by
  intro args h o ho K hK
  unfold hpRunS at ho
  split at ho
  case h_2 => cases ho
  rename_i most e1 e2 t n x e5 e6
  split at ho
  case h_2 => cases ho
  rename_i l s l2 t2 n2 st hm hs
  simp only [Option.some.injEq] at ho; subst ho
  obtain ⟨⟨⟨hl, hl2, rfl, rfl⟩, hb, ok⟩, hK⟩ := hK
  unfold hpROk at ok
  unfold hpRN at hK
  have hh := memL_eq hm hl
  simp only [List.cons.injEq, and_true] at hh
  obtain ⟨rfl, rfl⟩ := hh
  have hh := stL_eq hs hl2
  simp only [List.cons.injEq, and_true] at hh
  obtain ⟨rfl, rfl⟩ := hh
  refine CallOk.tells ?_
  refine CallOk.shut tbl [memC 1 s, memX s, some (.cells [.iface 36 (.ptr 3 0)]), some (.abs (.help t2 n2 x) [4]), some (.abs (.store t2 n2 st) [])] (.store t2 n2 st) 4 0 (stG t2 n2 st) [] (by kernel_rfl) rfl rfl (by kernel_rfl) ?_
  refine hp_rprint t2 n2 most.toNat most x st s _ (hp_vc t2 n2 most.toNat most x st s _ (by omega) (by omega) ok ?_)
  generalize hpRun t2 n2 most.toNat x st s = r at hK ⊢
  obtain ⟨c, b, y, sy, my⟩ := r
  cases b with
  | true => exact ⟨⟨_, _, Tells.unpack (.store t2 n2 sy) 4 0 (stG t2 n2 sy) [] rfl rfl rfl rfl, hK⟩⟩
  | false => exact ⟨⟨_, _, Tells.unpack (.store t2 n2 sy) 4 0 (stG t2 n2 sy) [] rfl rfl rfl rfl, hK⟩⟩
end Go.Sh

namespace Go.Sh
open Go Go.Proofs
variable [Con]
def anRun (t n : Int) : Nat → ANS → MS → Nat × Bool × ANS × MS
  | 0, x, s => (0, false, x, s)
  | f + 1, x, s => bif (anF t n x s).d then (1, true, (anF t n x s).x, (anF t n x s).s) else
    ((anRun t n f (anF t n x s).x (anF t n x s).s).1 + 1, (anRun t n f (anF t n x s).x (anF t n x s).s).2)
def anRunOk (t n : Int) : Nat → ANS → MS → Prop
  | 0, _, _ => True
  | f + 1, x, s => anOk t n x s ∧ ((anF t n x s).d = false → anRunOk t n f (anF t n x s).x (anF t n x s).s)
theorem anRun_0 (t n : Int) (x : ANS) (s : MS) : anRun t n 0 x s = (0, false, x, s) := rfl
theorem anRun_s (t n : Int) (f : Nat) (x : ANS) (s : MS) : anRun t n (f + 1) x s = bif (anF t n x s).d then (1, true, (anF t n x s).x, (anF t n x s).s) else ((anRun t n f (anF t n x s).x (anF t n x s).s).1 + 1, (anRun t n f (anF t n x s).x (anF t n x s).s).2) := rfl
theorem anRunOk_s (t n : Int) (f : Nat) (x : ANS) (s : MS) : anRunOk t n (f + 1) x s = (anOk t n x s ∧ ((anF t n x s).d = false → anRunOk t n f (anF t n x s).x (anF t n x s).s)) := rfl
structure anRa (t n : Int) (N : Nat) (x0 : ANS) (s0 : MS) (x : Nat × ANS × MS) : Prop where
  hk : x.1 ≤ N
  ok : anRunOk t n (N - x.1) x.2.1 x.2.2
  eq : anRun t n N x0 s0 = ((anRun t n (N - x.1) x.2.1 x.2.2).1 + x.1, (anRun t n (N - x.1) x.2.1 x.2.2).2)
structure anRb (t n : Int) (N : Nat) (x0 : ANS) (s0 : MS) (x : Nat × ANS × MS) : Prop where
  hk : x.1 ≤ N
  eq : anRun t n N x0 s0 = (x.1, true, x.2)
def anHa (t n : Int) (N : Nat) (most : Int) (x0 : ANS) (s0 : MS) : Hint Ob := { X := Nat × ANS × MS, st := fun x => ([.ptr 0 0, .int .i64 most, .top, .top, .top, .top, .top, .top, .int .i64 (x.1 : Int), .top, .iface 99 (.ptr 3 0), .bool false, .top, .int .i64 1, .int .i64 0] ++ List.replicate 16 .top, [memC 1 x.2.2, memX x.2.2, some (.cells [.iface 99 (.ptr 3 0)]), some (.abs (.announce t n x.2.1) [])]), ok := anRa t n N x0 s0, mu := fun x => 2 * (N - x.1) + 1, keep := [0, 1, 8, 10, 11, 13, 14] }
def anHb (t n : Int) (N : Nat) (most : Int) (x0 : ANS) (s0 : MS) : Hint Ob := { X := Nat × ANS × MS, st := fun x => ([.ptr 0 0, .int .i64 most, .top, .top, .top, .top, .top, .top, .int .i64 (x.1 : Int), .top, .iface 99 (.ptr 3 0), .bool true, .top, .int .i64 1, .int .i64 0] ++ List.replicate 16 .top, [memC 1 x.2.2, memX x.2.2, some (.cells [.iface 99 (.ptr 3 0)]), some (.cells [.int .i64 t, .int .i64 n, .int .u64 (x.2.1).no, .int .i64 (x.2.1).me, .int .i64 (x.2.1).at', .int .u64 (x.2.1).bits, .bool (x.2.1).wrong, .int .u64 (x.2.1).found])]), ok := anRb t n N x0 s0, mu := fun x => 2 * (N - x.1), keep := [0, 1, 8, 10, 11, 13, 14], sel := fun tm _ => match tm.getD 11 .top with | .bool b => b | _ => false }
def anRP (t n : Int) (N : Nat) (most : Int) (x0 : ANS) (s0 : MS) : FuncId → Nat → Option (Plan Ob) := fun _ k => if k = 3 then some (.rounds 2) else some (.cases [anHb t n N most x0 s0, anHa t n N most x0 s0])
def anRVC (t n : Int) (N : Nat) (most : Int) (x0 : ANS) (s0 : MS) (K : AVal → Heap Ob → Prop) : Prop := ((0 : Int) ≤ (0 : Int) ∧ (0 : Int) < (↑1 : Int)) ∧ okSt (anHa t n N most x0 s0) (fun x => Hint.ok (anHa t n N most x0 s0) x ∧ below none (Hint.mu (anHa t n N most x0 s0) x)) [AVal.ptr 0 0, AVal.int .i64 most, AVal.top, AVal.top, AVal.top, AVal.top, AVal.top, AVal.top, AVal.int .i64 0, AVal.top, AVal.iface 99 (AVal.ptr 3 0), AVal.bool false, AVal.top, AVal.int .i64 (↑1 : Int), AVal.int .i64 0, AVal.top, AVal.top, AVal.top, AVal.top, AVal.top, AVal.top, AVal.top, AVal.top, AVal.top, AVal.top, AVal.top, AVal.top, AVal.top, AVal.top, AVal.top, AVal.top] [some (Entry.cells [AVal.int .i64 s0.1, AVal.int .i64 s0.2, AVal.slice 1 0 (List.length s0.3) 1, AVal.int .i64 s0.4, AVal.int .i64 s0.5, AVal.int .i64 s0.6, AVal.int .u64 s0.7, AVal.int .u64 s0.8, AVal.bool s0.9]), some (Entry.ints (some .u64) s0.3), some (Entry.cells [AVal.iface 99 (AVal.ptr 3 0)]), some (Entry.abs (Mc.announce t n x0) [])] ∧ (∀ (x : (Nat × ANS × MS)), anRb t n N x0 s0 x → K (AVal.tup [AVal.int .i64 (↑x.1 : Int), AVal.bool true]) [some (Entry.cells [AVal.int .i64 (Prod.snd x.2).1, AVal.int .i64 (Prod.snd x.2).2, AVal.slice 1 0 (List.length (Prod.snd x.2).3) 1, AVal.int .i64 (Prod.snd x.2).4, AVal.int .i64 (Prod.snd x.2).5, AVal.int .i64 (Prod.snd x.2).6, AVal.int .u64 (Prod.snd x.2).7, AVal.int .u64 (Prod.snd x.2).8, AVal.bool (Prod.snd x.2).9]), some (Entry.ints (some .u64) (Prod.snd x.2).3), some (Entry.cells [AVal.iface 99 (AVal.ptr 3 0)]), some (Entry.cells [AVal.int .i64 t, AVal.int .i64 n, AVal.int .u64 (Prod.fst x.2).1, AVal.int .i64 (Prod.fst x.2).2, AVal.int .i64 (Prod.fst x.2).3, AVal.int .u64 (Prod.fst x.2).4, AVal.bool (Prod.fst x.2).5, AVal.int .u64 (Prod.fst x.2).6])]) ∧ (∀ (x : (Nat × ANS × MS)), anRa t n N x0 s0 x → bif ile most (↑x.1 : Int) then K (AVal.tup [AVal.int .i64 (↑x.1 : Int), AVal.bool false]) [some (Entry.cells [AVal.int .i64 (Prod.snd x.2).1, AVal.int .i64 (Prod.snd x.2).2, AVal.slice 1 0 (List.length (Prod.snd x.2).3) 1, AVal.int .i64 (Prod.snd x.2).4, AVal.int .i64 (Prod.snd x.2).5, AVal.int .i64 (Prod.snd x.2).6, AVal.int .u64 (Prod.snd x.2).7, AVal.int .u64 (Prod.snd x.2).8, AVal.bool (Prod.snd x.2).9]), some (Entry.ints (some .u64) (Prod.snd x.2).3), some (Entry.cells [AVal.iface 99 (AVal.ptr 3 0)]), some (Entry.abs (Mc.announce t n (Prod.snd x).1) [])] else (List.length (Prod.snd x.2).3 = List.length (Prod.snd x.2).3 ∧ anOk t n (Prod.snd x).1 x.2.2) ∧ bif (anF t n (Prod.snd x).1 x.2.2).1 then okSt (anHb t n N most x0 s0) (fun x_1 => Hint.ok (anHb t n N most x0 s0) x_1 ∧ below (some (Hint.mu (anHa t n N most x0 s0) x)) (Hint.mu (anHb t n N most x0 s0) x_1)) [AVal.ptr 0 0, AVal.int .i64 most, AVal.top, AVal.top, AVal.top, AVal.top, AVal.top, AVal.top, AVal.int .i64 (W ((↑x.1 : Int) + 1)), AVal.top, AVal.iface 99 (AVal.ptr 3 0), AVal.bool true, AVal.top, AVal.int .i64 1, AVal.int .i64 0, AVal.top, AVal.top, AVal.top, AVal.top, AVal.top, AVal.top, AVal.top, AVal.top, AVal.top, AVal.top, AVal.top, AVal.top, AVal.top, AVal.top, AVal.top, AVal.top] [some (Entry.cells [AVal.int .i64 (AnO.s (anF t n (Prod.snd x).1 x.2.2)).1, AVal.int .i64 (AnO.s (anF t n (Prod.snd x).1 x.2.2)).2, AVal.slice 1 0 (List.length (AnO.s (anF t n (Prod.snd x).1 x.2.2)).3) 1, AVal.int .i64 (AnO.s (anF t n (Prod.snd x).1 x.2.2)).4, AVal.int .i64 (AnO.s (anF t n (Prod.snd x).1 x.2.2)).5, AVal.int .i64 (AnO.s (anF t n (Prod.snd x).1 x.2.2)).6, AVal.int .u64 (AnO.s (anF t n (Prod.snd x).1 x.2.2)).7, AVal.int .u64 (AnO.s (anF t n (Prod.snd x).1 x.2.2)).8, AVal.bool (AnO.s (anF t n (Prod.snd x).1 x.2.2)).9]), some (Entry.ints (some .u64) (AnO.s (anF t n (Prod.snd x).1 x.2.2)).3), some (Entry.cells [AVal.iface 99 (AVal.ptr 3 0)]), some (Entry.cells [AVal.int .i64 t, AVal.int .i64 n, AVal.int .u64 (AnO.x (anF t n (Prod.snd x).1 x.2.2)).1, AVal.int .i64 (AnO.x (anF t n (Prod.snd x).1 x.2.2)).2, AVal.int .i64 (AnO.x (anF t n (Prod.snd x).1 x.2.2)).3, AVal.int .u64 (AnO.x (anF t n (Prod.snd x).1 x.2.2)).4, AVal.bool (AnO.x (anF t n (Prod.snd x).1 x.2.2)).5, AVal.int .u64 (AnO.x (anF t n (Prod.snd x).1 x.2.2)).6])] else okSt (anHa t n N most x0 s0) (fun x_1 => Hint.ok (anHa t n N most x0 s0) x_1 ∧ below (some (Hint.mu (anHa t n N most x0 s0) x)) (Hint.mu (anHa t n N most x0 s0) x_1)) [AVal.ptr 0 0, AVal.int .i64 most, AVal.top, AVal.top, AVal.top, AVal.top, AVal.top, AVal.top, AVal.int .i64 (W ((↑x.1 : Int) + 1)), AVal.top, AVal.iface 99 (AVal.ptr 3 0), AVal.bool false, AVal.top, AVal.int .i64 1, AVal.int .i64 0, AVal.top, AVal.top, AVal.top, AVal.top, AVal.top, AVal.top, AVal.top, AVal.top, AVal.top, AVal.top, AVal.top, AVal.top, AVal.top, AVal.top, AVal.top, AVal.top] [some (Entry.cells [AVal.int .i64 (AnO.s (anF t n (Prod.snd x).1 x.2.2)).1, AVal.int .i64 (AnO.s (anF t n (Prod.snd x).1 x.2.2)).2, AVal.slice 1 0 (List.length (AnO.s (anF t n (Prod.snd x).1 x.2.2)).3) 1, AVal.int .i64 (AnO.s (anF t n (Prod.snd x).1 x.2.2)).4, AVal.int .i64 (AnO.s (anF t n (Prod.snd x).1 x.2.2)).5, AVal.int .i64 (AnO.s (anF t n (Prod.snd x).1 x.2.2)).6, AVal.int .u64 (AnO.s (anF t n (Prod.snd x).1 x.2.2)).7, AVal.int .u64 (AnO.s (anF t n (Prod.snd x).1 x.2.2)).8, AVal.bool (AnO.s (anF t n (Prod.snd x).1 x.2.2)).9]), some (Entry.ints (some .u64) (AnO.s (anF t n (Prod.snd x).1 x.2.2)).3), some (Entry.cells [AVal.iface 99 (AVal.ptr 3 0)]), some (Entry.abs (Mc.announce t n (anF t n (Prod.snd x).1 x.2.2).2) [])]) ∧ True
theorem an_rprint (t n : Int) (N : Nat) (most : Int) (x0 : ANS) (s0 : MS) (K : AVal → Heap Ob → Prop) (h : anRVC t n N most x0 s0 K) : CallOk (obI tbl) Tryz.prog 10 [.ptr 0 0, .int .i64 most, .slice 2 0 1 1] [memC 1 s0, memX s0, some (.cells [.iface 99 (.ptr 3 0)]), some (.abs (.announce t n x0) [])] K := by
  refine CallOk.trim (callOk_of (E := ED) Tryz.checked.mixed (L := anRP t n N most x0 s0) (n := 10) (of_nf (q := anRVC t n N most x0 s0 K) (by kernel_rfl) h))
end Go.Sh

namespace Go.Sh
open Go Go.Proofs
variable [Con]
theorem an_vc (t n : Int) (N : Nat) (most : Int) (x0 : ANS) (s0 : MS) (K : AVal → Heap Ob → Prop) (hN : most = (N : Int)) (hb : N ≤ 1000000) (ok : anRunOk t n N x0 s0)
    (hK : (Out.ite (anRun t n N x0 s0).2.1 (.ret (.tup [.int .i64 ((anRun t n N x0 s0).1 : Int), .bool true]) [memC 1 (anRun t n N x0 s0).2.2.2, memX (anRun t n N x0 s0).2.2.2, some (.cells [.iface 99 (.ptr 3 0)]), some (.cells [.int .i64 t, .int .i64 n, .int .u64 (anRun t n N x0 s0).2.2.1.no, .int .i64 (anRun t n N x0 s0).2.2.1.me, .int .i64 (anRun t n N x0 s0).2.2.1.at', .int .u64 (anRun t n N x0 s0).2.2.1.bits, .bool (anRun t n N x0 s0).2.2.1.wrong, .int .u64 (anRun t n N x0 s0).2.2.1.found])]) (.ret (.tup [.int .i64 ((anRun t n N x0 s0).1 : Int), .bool false]) [memC 1 (anRun t n N x0 s0).2.2.2, memX (anRun t n N x0 s0).2.2.2, some (.cells [.iface 99 (.ptr 3 0)]), some (.abs (.announce t n (anRun t n N x0 s0).2.2.1) [])])).run K) : anRVC t n N most x0 s0 K := by
  unfold anRVC
  subst hN
  refine ⟨by omega, okSt_intro (H := anHa t n N N x0 s0) (0, x0, s0) rfl ⟨⟨Nat.zero_le _, ok, rfl⟩, trivial⟩, ?_, ?_, trivial⟩
  · rintro ⟨k, x, s⟩ ⟨hk, heq⟩
    rw [heq] at hK
    exact hK
  · rintro ⟨k, x, s⟩ ⟨hk, ok, heq⟩
    dsimp only at hk ok heq ⊢
    refine cond_go (fun e => ?_) (fun e => ?_)
    · rw [ile_eq, decide_eq_true_eq] at e
      have hkN : k = N := by omega
      subst hkN
      rw [Nat.sub_self] at heq
      rw [heq, anRun_0, Nat.zero_add] at hK
      exact hK
    · rw [ile_eq, decide_eq_false_iff_not] at e
      have hkN : N - k = (N - (k + 1)) + 1 := by omega
      rw [hkN] at ok heq
      rw [anRunOk_s] at ok
      rw [anRun_s] at heq
      have e4 : W ((k : Int) + 1) = ((k + 1 : Nat) : Int) := by rw [W, W_in (by omega)]; rfl
      refine ⟨⟨rfl, ok.1⟩, cond_go (fun hd => ?_) (fun hd => ?_)⟩
      · refine okSt_intro (H := anHb t n N N x0 s0) (k + 1, (anF t n x s).x, (anF t n x s).s) (by simp only [e4]; rfl) ⟨⟨by show k + 1 ≤ N; omega, ?_⟩, by show 2 * (N - (k + 1)) < 2 * (N - k) + 1; omega⟩
        have hd' : (anF t n x s).d = true := hd
        rw [heq, hd']
        simp only [cond_true]
        rw [Nat.add_comm]
      · refine okSt_intro (H := anHa t n N N x0 s0) (k + 1, (anF t n x s).x, (anF t n x s).s) (by simp only [e4]; rfl) ⟨⟨by show k + 1 ≤ N; omega, ok.2 hd, ?_⟩, by show 2 * (N - (k + 1)) + 1 < 2 * (N - k) + 1; omega⟩
        have hd' : (anF t n x s).d = false := hd
        rw [heq, hd']
        simp only [cond_false]
        rw [Nat.add_assoc, Nat.add_comm 1 k]
def anRN (t n : Int) (f : Nat) (x : ANS) (s : MS) : Nat × Bool × ANS × MS := anRun t n f x s
def anROk (t n : Int) (f : Nat) (x : ANS) (s : MS) : Prop := anRunOk t n f x s
noncomputable def anRunS : Spec Ob := fun args h => match args, h with
  | [.ptr 0 0, .int .i64 most, .slice 2 0 1 1], [e1, e2, some (.cells [.iface 99 (.ptr 3 0)]), some (.abs (.announce t n x) [])] => (match memL 1 [e1, e2] with
    | some (l, s) => some (.pre ((l = s.xs.length) ∧ (0 ≤ most ∧ most ≤ 1000000) ∧ anROk t n most.toNat x s) (.ite (anRN t n most.toNat x s).2.1 (.ret (.tup [.int .i64 ((anRN t n most.toNat x s).1 : Int), .bool true]) [memC 1 (anRN t n most.toNat x s).2.2.2, memX (anRN t n most.toNat x s).2.2.2, some (.cells [.iface 99 (.ptr 3 0)]), some (.cells [.int .i64 t, .int .i64 n, .int .u64 (anRN t n most.toNat x s).2.2.1.no, .int .i64 (anRN t n most.toNat x s).2.2.1.me, .int .i64 (anRN t n most.toNat x s).2.2.1.at', .int .u64 (anRN t n most.toNat x s).2.2.1.bits, .bool (anRN t n most.toNat x s).2.2.1.wrong, .int .u64 (anRN t n most.toNat x s).2.2.1.found])]) (.ret (.tup [.int .i64 ((anRN t n most.toNat x s).1 : Int), .bool false]) [memC 1 (anRN t n most.toNat x s).2.2.2, memX (anRN t n most.toNat x s).2.2.2, some (.cells [.iface 99 (.ptr 3 0)]), some (.abs (.announce t n (anRN t n most.toNat x s).2.2.1) [])])))
    | _ => none)
  | _, _ => none
theorem anRun_ok : Spec.ok (obI tbl) Tryz.prog 10 anRunS := by
  intro args h o ho K hK
  unfold anRunS at ho
  split at ho
  case h_2 => cases ho
  rename_i most e1 e2 t n x
  split at ho
  case h_2 => cases ho
  rename_i l s hm
  simp only [Option.some.injEq] at ho; subst ho
  obtain ⟨⟨hl, hb, ok⟩, hK⟩ := hK
  unfold anROk at ok
  unfold anRN at hK
  have hh := memL_eq hm hl
  simp only [List.cons.injEq, and_true] at hh
  obtain ⟨rfl, rfl⟩ := hh
  exact an_rprint t n most.toNat most x s _ (an_vc t n most.toNat most x s _ (by omega) (by omega) ok hK)
end Go.Sh

namespace Go.Sh
open Go Go.Proofs
variable [Con]
end Go.Sh

namespace Go.Sh
open Go Go.Proofs
variable [Con]
noncomputable def runS : Spec Ob := Spec.or hpRunS (anRunS)
theorem run_ok : Spec.ok (obI tbl) Tryz.prog 10 runS := Spec.or_ok hpRun_ok (anRun_ok)
noncomputable def ERun := ED.addS 10 runS run_ok
end Go.Sh

namespace Go.Sh
open Go Go.Proofs
variable [Con]
def clone64S : Spec Ob := fun args h => match args, h with
  | [.slice 0 0 n 1], [some (.ints (some .u64) xs)] => some (.pre (n = xs.length ∧ n ≤ 4294967296) (.ret (.slice 1 0 xs.length 1) [some (.ints (some .u64) xs), some (.ints (some .u64) xs)]))
  | _, _ => none
theorem clone64_ok : Spec.ok (obI tbl) Tryz.prog 30 clone64S := by
  intro args h o ho K hK
  unfold clone64S at ho
  split at ho
  case h_2 => cases ho
  rename_i n xs
  simp only [Option.some.injEq] at ho; subst ho
  obtain ⟨⟨rfl, hp⟩, hK⟩ := hK
  have hK : K (.slice 1 0 xs.length 1) [some (.ints (some .u64) xs), some (.ints (some .u64) xs)] := hK
  refine CallOk.trim (CallOk.castR (cs := [(.slot 0, .ints (some .u64))]) (callOk_of (E := ERun) Tryz.checked.mixed (L := LL) (n := 10) (of_nf (q := ∀ (b : Bool), (b = true → List.length xs = 0) → bif b then K (AVal.slice 1 0 0 1) [some (Entry.ints (some .u64) xs), some (Entry.ints (some .u64) [])] else (0 + List.length xs ≤ List.length xs ∧ 0 + List.length xs ≤ (4294967296 : Nat)) ∧ K (AVal.slice 1 0 (0 + List.length xs) 1) [some (Entry.ints (some .u64) xs), some (Entry.ints (some .u64) ([] ++ List.take (List.length xs) (List.drop 0 xs)))]) (by kernel_rfl) ?_)))
  intro b hb
  refine cond_go (fun e => ?_) (fun e => ⟨⟨by omega, by omega⟩, ?_⟩)
  · have h0 := List.length_eq_zero_iff.1 (hb e)
    subst h0; exact hK
  · simpa using hK

structure okJ (xs ys : List Int) (i : Nat) : Prop where
  h1 : i ≤ xs.length
  h2 : xs.length = ys.length
  h3 : xs.take i = ys.take i
def HJ (xs ys : List Int) : Hint Ob := { X := Nat, st := fun i => ([.slice 0 0 xs.length 1, .slice 1 0 ys.length 1] ++ List.replicate 10 .top ++ [.int .i64 (xs.length : Int), .int .i64 (i : Int)] ++ List.replicate 12 .top, [some (.ints (some .u64) xs), some (.ints (some .u64) ys)]), ok := okJ xs ys, mu := fun i => xs.length - i, keep := [0, 1, 12, 13] }
def eq64S : Spec Ob := fun args h => match args, h with
  | [.slice 0 0 n 1, .slice 1 0 m 1], [some (.ints (some .u64) xs), some (.ints (some .u64) ys)] => some (.pre ((n = xs.length ∧ m = ys.length) ∧ n ≤ 4294967296) (.ret (.bool (sameB xs ys)) [some (.ints (some .u64) xs), some (.ints (some .u64) ys)]))
  | _, _ => none
theorem eq64_ok : Spec.ok (obI tbl) Tryz.prog 31 eq64S := by
  intro args h o ho K hK
  unfold eq64S at ho
  split at ho
  case h_2 => cases ho
  rename_i n m xs ys
  simp only [Option.some.injEq] at ho; subst ho
  obtain ⟨⟨⟨rfl, rfl⟩, hp⟩, hK⟩ := hK
  have hK : K (.bool (sameB xs ys)) [some (.ints (some .u64) xs), some (.ints (some .u64) ys)] := hK
  refine (callOk_of (E := ERun) Tryz.checked.mixed (L := fun _ _ => some (.states (HJ xs ys))) (n := 10) (of_nf (q := bif !ieq (↑(List.length xs) : Int) (↑(List.length ys) : Int) then K (AVal.bool false) [some (Entry.ints (some .u64) xs), some (Entry.ints (some .u64) ys)] else okSt (HJ xs ys) (Hint.ok (HJ xs ys)) [AVal.slice 0 0 (List.length xs) 1, AVal.slice 1 0 (List.length ys) 1, AVal.top, AVal.top, AVal.top, AVal.top, AVal.top, AVal.top, AVal.top, AVal.top, AVal.top, AVal.top, AVal.int .i64 (↑(List.length xs) : Int), AVal.int .i64 0, AVal.top, AVal.top, AVal.top, AVal.top, AVal.top, AVal.top, AVal.top, AVal.top, AVal.top, AVal.top, AVal.top, AVal.top] [some (Entry.ints (some .u64) xs), some (Entry.ints (some .u64) ys)] ∧ ∀ (x : Nat), okJ xs ys x → bif ilt (↑x : Int) (↑(List.length xs) : Int) then ((0 : Int) ≤ (↑x : Int) ∧ (↑x : Int) < (↑(List.length xs) : Int)) ∧ 0 + Int.toNat (↑x : Int) * (1 : Nat) < List.length xs ∧ ((0 : Int) ≤ (↑x : Int) ∧ (↑x : Int) < (↑(List.length ys) : Int)) ∧ 0 + Int.toNat (↑x : Int) * (1 : Nat) < List.length ys ∧ bif !ieq (List.getD xs (0 + Int.toNat (↑x : Int) * 1) 0) (List.getD ys (0 + Int.toNat (↑x : Int) * 1) 0) then K (AVal.bool false) [some (Entry.ints (some .u64) xs), some (Entry.ints (some .u64) ys)] else okSt (HJ xs ys) (fun x' => Hint.ok (HJ xs ys) x' ∧ Hint.mu (HJ xs ys) x' < Hint.mu (HJ xs ys) x) [AVal.slice 0 0 (List.length xs) 1, AVal.slice 1 0 (List.length ys) 1, AVal.top, AVal.top, AVal.top, AVal.top, AVal.top, AVal.top, AVal.top, AVal.top, AVal.top, AVal.top, AVal.int .i64 (↑(List.length xs) : Int), AVal.int .i64 (W ((↑x : Int) + 1)), AVal.top, AVal.top, AVal.top, AVal.top, AVal.top, AVal.top, AVal.top, AVal.top, AVal.top, AVal.top, AVal.top, AVal.top] [some (Entry.ints (some .u64) xs), some (Entry.ints (some .u64) ys)] else K (AVal.bool true) [some (Entry.ints (some .u64) xs), some (Entry.ints (some .u64) ys)]) (by kernel_rfl) ?_))
  have hS : sameB xs ys = decide (xs = ys) := rfl
  refine cond_go (fun e => ?_) (fun e => ⟨okSt_intro (H := HJ xs ys) (0 : Nat) rfl ⟨Nat.zero_le _, ?_, rfl⟩, ?_⟩)
  · rw [ieq_eq] at e
    have : xs ≠ ys := by rintro rfl; simp at e
    rw [hS, decide_eq_false this] at hK; exact hK
  · rw [ieq_eq] at e; simp at e; omega
  · rintro i ⟨h1, h2, h3⟩
    refine cond_go (fun e1 => ?_) (fun e1 => ?_)
    · rw [ilt_eq, decide_eq_true_eq] at e1
      have hi : i < xs.length := by omega
      have e2 : 0 + (i : Int).toNat * 1 = i := by omega
      rw [e2]
      refine ⟨by omega, hi, by omega, by omega, cond_go (fun e3 => ?_) (fun e3 => ?_)⟩
      · rw [ieq_eq] at e3
        have : xs ≠ ys := by rintro rfl; simp at e3
        rw [hS, decide_eq_false this] at hK; exact hK
      · rw [ieq_eq] at e3
        have e3 : xs.getD i 0 = ys.getD i 0 := by simpa using e3
        have e4 : IntKind.wrap .i64 ((i : Int) + 1) = ((i + 1 : Nat) : Int) := by rw [W_in (by omega)]; rfl
        refine okSt_intro (H := HJ xs ys) (i + 1 : Nat) (by simp only [W, e4]; rfl) ⟨⟨hi, h2, ?_⟩, by show xs.length - (i + 1) < xs.length - i; omega⟩
        have hj : i < ys.length := by omega
        rw [List.getD_eq_getElem?_getD, List.getElem?_eq_getElem hi, List.getD_eq_getElem?_getD, List.getElem?_eq_getElem hj] at e3
        rw [List.take_succ_eq_append_getElem hi, List.take_succ_eq_append_getElem hj, h3]
        have e5 : xs[i] = ys[i] := by simpa using e3
        rw [e5]
    · rw [ilt_eq, decide_eq_false_iff_not] at e1
      have : xs = ys := by
        rw [List.take_of_length_le (by omega), List.take_of_length_le (by omega)] at h3; exact h3
      rw [hS, decide_eq_true this] at hK; exact hK

noncomputable def EZ := (ERun.addS 30 clone64S clone64_ok).addS 31 eq64S eq64_ok
end Go.Sh

namespace Go.Sh
open Go Go.Proofs
variable [Con]
def skipB (sh h k : Int) : Bool := bif ieq sh 2 then !ieq (Int.tmod k 4) h else ilt 0 h
def fillIn (sh h n : Int) : List Int → Int → Int → Int → Int → MS → MS
  | [], i, a, ky, vr, s => s.stored a (putV ky 0 false 0 vr)
  | k :: ks, i, a, ky, vr, s => bif skipB sh h k then fillIn sh h n ks (i + 1) a ky vr s else fillIn sh h n ks (i + 1) (i + 1) k 3 ((s.stored a (putV ky (i + 1) false 0 vr)).stored (n + 4 + (i + 1)) 1)
def fillTo (sh n : Int) (xs : List Int) : Nat → Int → MS → MS
  | 0, h, s => s
  | f + 1, h, s => fillTo sh n xs f (h + 1) (fillIn sh h n xs 0 (n + 1 + h) 0 0 s)
def memN (t n : Int) : MS := { t := t, n := n, xs := List.replicate (2 * n + 5 * t + 6).toNat 0, c := 0, k := 0, a := 0, o := 0, w := 0, ok := false }
structure fillOut (sh t n : Int) (xs : List Int) (x : Nat × MS) : Prop where
  h4 : x.1 ≤ 4
  c : 0 ≤ x.2.c ∧ x.2.c ≤ 1000 * x.1
  eq : fillTo sh n xs 4 0 (memN t n) = fillTo sh n xs (4 - x.1) x.1 x.2
structure fillInn (sh t n : Int) (xs : List Int) (h : Int) (x : Nat × Int × Int × Int × MS) : Prop where
  h4 : 0 ≤ h ∧ h < 4
  hi : x.1 ≤ xs.length
  ky : 0 ≤ x.2.2.1 ∧ x.2.2.1 < 1024
  vr : 0 ≤ x.2.2.2.1 ∧ x.2.2.2.1 < 262144
  c : 0 ≤ x.2.2.2.2.c ∧ x.2.2.2.2.c ≤ 1000 * h + 3 * x.1
  eq : fillTo sh n xs 4 0 (memN t n) = fillTo sh n xs (3 - h).toNat (h + 1) (fillIn sh h n (xs.drop x.1) x.1 x.2.1 x.2.2.1 x.2.2.2.1 x.2.2.2.2)
def HFo (sh t m : Int) (xs : List Int) : Hint Ob := { X := Nat × MS, st := fun x => ([.int .i64 sh, .top, .top, .slice 0 0 xs.length 1, .top, .top, .top, .top, .top, .ptr 1 0, .ptr 2 0, .ptr 3 0, .top, .int .i64 (x.1 : Int)] ++ List.replicate 79 .top, [some (.ints (some .i64) xs), some (.cells [.int .i64 0, .int .i64 0]), some (.cells [.int .i64 t, .int .i64 (IntKind.wrap .i64 ((xs.length : Int) + m))]), memC 4 x.2, memX x.2]), ok := fillOut sh t (IntKind.wrap .i64 ((xs.length : Int) + m)) xs, mu := fun x => 4 - x.1, keep := [0, 3, 9, 10, 11, 13] }
def HFi (sh t m : Int) (xs : List Int) (h : Int) : Hint Ob := { X := Nat × Int × Int × Int × MS, st := fun x => ([.int .i64 sh, .top, .top, .slice 0 0 xs.length 1, .top, .top, .top, .top, .top, .ptr 1 0, .ptr 2 0, .ptr 3 0, .top, .int .i64 h, .int .i64 x.2.1, .ptr 5 0] ++ List.replicate 28 .top ++ [.slice 0 0 xs.length 1, .int .i64 (xs.length : Int), .int .i64 (x.1 : Int)] ++ List.replicate 46 .top, [some (.ints (some .i64) xs), some (.cells [.int .i64 0, .int .i64 0]), some (.cells [.int .i64 t, .int .i64 (IntKind.wrap .i64 ((xs.length : Int) + m))]), memC 4 x.2.2.2.2, memX x.2.2.2.2, some (.cells [.int .i64 x.2.2.1, .int .i64 0, .bool false, .int .i64 0, .int .i64 x.2.2.2.1])]), ok := fillInn sh t (IntKind.wrap .i64 ((xs.length : Int) + m)) xs h, mu := fun x => xs.length - x.1, keep := [0, 3, 9, 10, 11, 13, 14, 15, 44, 45, 46] }
def fillPl (sh t m : Int) (xs : List Int) : FuncId → Nat → Option (Plan Ob) := fun _ k => if k = 6 then some (.states (HFo sh t m xs)) else if k = 10 then some (.statesAt 13 (HFi sh t m xs)) else some (.rounds 12)
def fillVC (sh t m : Int) (xs : List Int) (K : AVal → Heap Ob → Prop) : Prop := True ∧ bif !rightB t (W ((↑(List.length xs) : Int) + m)) then K (AVal.tup [AVal.raw (Value.pointer none), AVal.agg [AVal.int .i64 t, AVal.int .i64 (W ((↑(List.length xs) : Int) + m))]]) [some (Entry.ints (some .i64) xs)] else (((0 : Int) ≤ t ∧ t ≤ (100000 : Int)) ∧ (0 : Int) ≤ W ((↑(List.length xs) : Int) + m) ∧ W ((↑(List.length xs) : Int) + m) ≤ (100000 : Int)) ∧ bif ilt (2 * W ((↑(List.length xs) : Int) + m) + 5 * t + 6) (↑0 : Int) then K (AVal.tup [AVal.raw (Value.pointer none), AVal.agg [AVal.int .i64 t, AVal.int .i64 (W ((↑(List.length xs) : Int) + m))]]) [some (Entry.ints (some .i64) xs)] else ((((0 : Int) ≤ t ∧ t ≤ (100000 : Int)) ∧ (0 : Int) ≤ W ((↑(List.length xs) : Int) + m) ∧ W ((↑(List.length xs) : Int) + m) ≤ (100000 : Int)) ∧ True) ∧ ((0 : Int) ≤ (2 : Int) * W ((↑(List.length xs) : Int) + m) + 5 * t + 6 ∧ 2 * W ((↑(List.length xs) : Int) + m) + 5 * t + (6 : Int) = (2 : Int) * W ((↑(List.length xs) : Int) + m) + 5 * t + 6 ∧ 2 * W ((↑(List.length xs) : Int) + m) + 5 * t + (6 : Int) ≤ (4294967296 : Int)) ∧ okSt (HFo sh t m xs) (Hint.ok (HFo sh t m xs)) [AVal.int .i64 sh, AVal.top, AVal.top, AVal.slice 0 0 (List.length xs) 1, AVal.top, AVal.top, AVal.top, AVal.top, AVal.top, AVal.ptr 1 0, AVal.ptr 2 0, AVal.ptr 3 0, AVal.top, AVal.int .i64 0, AVal.top, AVal.top, AVal.top, AVal.top, AVal.top, AVal.top, AVal.top, AVal.top, AVal.top, AVal.top, AVal.top, AVal.top, AVal.top, AVal.top, AVal.top, AVal.top, AVal.top, AVal.top, AVal.top, AVal.top, AVal.top, AVal.top, AVal.top, AVal.top, AVal.top, AVal.top, AVal.top, AVal.top, AVal.top, AVal.top, AVal.top, AVal.top, AVal.top, AVal.top, AVal.top, AVal.top, AVal.top, AVal.top, AVal.top, AVal.top, AVal.top, AVal.top, AVal.top, AVal.top, AVal.top, AVal.top, AVal.top, AVal.top, AVal.top, AVal.top, AVal.top, AVal.top, AVal.top, AVal.top, AVal.top, AVal.top, AVal.top, AVal.top, AVal.top, AVal.top, AVal.top, AVal.top, AVal.top, AVal.top, AVal.top, AVal.top, AVal.top, AVal.top, AVal.top, AVal.top, AVal.top, AVal.top, AVal.top, AVal.top, AVal.top, AVal.top, AVal.top, AVal.top, AVal.top] [some (Entry.ints (some .i64) xs), some (Entry.cells [AVal.int .i64 0, AVal.int .i64 0]), some (Entry.cells [AVal.int .i64 t, AVal.int .i64 (W ((↑(List.length xs) : Int) + m))]), some (Entry.cells [AVal.int .i64 t, AVal.int .i64 (W ((↑(List.length xs) : Int) + m)), AVal.slice 4 0 (Int.toNat (2 * W ((↑(List.length xs) : Int) + m) + 5 * t + 6)) 1, AVal.int .i64 0, AVal.int .i64 0, AVal.int .i64 0, AVal.int .u64 0, AVal.int .u64 0, AVal.bool false]), some (Entry.ints (some .u64) (List.replicate (Int.toNat (2 * W ((↑(List.length xs) : Int) + m) + 5 * t + 6)) 0))] ∧ ∀ (x : (Nat × MS)), fillOut sh t (W ((↑(List.length xs) : Int) + m)) xs x → bif ilt (↑x.1 : Int) 4 then (((0 : Int) ≤ W ((↑(List.length xs) : Int) + m) ∧ W ((↑(List.length xs) : Int) + m) ≤ (100000 : Int)) ∧ (-1000000 : Int) ≤ (↑x.1 : Int) ∧ (↑x.1 : Int) ≤ (1000000 : Int)) ∧ okSt (HFi sh t m xs (↑(Prod.fst x) : Int)) (Hint.ok (HFi sh t m xs (↑(Prod.fst x) : Int))) [AVal.int .i64 sh, AVal.top, AVal.top, AVal.slice 0 0 (List.length xs) 1, AVal.top, AVal.top, AVal.top, AVal.top, AVal.top, AVal.ptr 1 0, AVal.ptr 2 0, AVal.ptr 3 0, AVal.top, AVal.int .i64 (↑x.1 : Int), AVal.int .i64 (W ((↑(List.length xs) : Int) + m) + 1 + (↑x.1 : Int)), AVal.ptr 5 0, AVal.top, AVal.top, AVal.top, AVal.top, AVal.top, AVal.top, AVal.top, AVal.top, AVal.top, AVal.top, AVal.top, AVal.top, AVal.top, AVal.top, AVal.top, AVal.top, AVal.top, AVal.top, AVal.top, AVal.top, AVal.top, AVal.top, AVal.top, AVal.top, AVal.top, AVal.top, AVal.top, AVal.top, AVal.slice 0 0 (List.length xs) 1, AVal.int .i64 (↑(List.length xs) : Int), AVal.int .i64 0, AVal.top, AVal.top, AVal.top, AVal.top, AVal.top, AVal.top, AVal.top, AVal.top, AVal.top, AVal.top, AVal.top, AVal.top, AVal.top, AVal.top, AVal.top, AVal.top, AVal.top, AVal.top, AVal.top, AVal.top, AVal.top, AVal.top, AVal.top, AVal.top, AVal.top, AVal.top, AVal.top, AVal.top, AVal.top, AVal.top, AVal.top, AVal.top, AVal.top, AVal.top, AVal.top, AVal.top, AVal.top, AVal.top, AVal.top, AVal.top, AVal.top, AVal.top, AVal.top, AVal.top, AVal.top, AVal.top] [some (Entry.ints (some .i64) xs), some (Entry.cells [AVal.int .i64 0, AVal.int .i64 0]), some (Entry.cells [AVal.int .i64 t, AVal.int .i64 (W ((↑(List.length xs) : Int) + m))]), some (Entry.cells [AVal.int .i64 (Prod.snd x).1, AVal.int .i64 (Prod.snd x).2, AVal.slice 4 0 (List.length (Prod.snd x).3) 1, AVal.int .i64 (Prod.snd x).4, AVal.int .i64 (Prod.snd x).5, AVal.int .i64 (Prod.snd x).6, AVal.int .u64 (Prod.snd x).7, AVal.int .u64 (Prod.snd x).8, AVal.bool (Prod.snd x).9]), some (Entry.ints (some .u64) (Prod.snd x).3), some (Entry.cells [AVal.int .i64 0, AVal.int .i64 0, AVal.bool false, AVal.int .i64 0, AVal.int .i64 0])] ∧ ∀ (x_1 : Hint.X (HFi sh t m xs (↑(Prod.fst x) : Int))), fillInn sh t (W ((↑(List.length xs) : Int) + m)) xs (↑x.1 : Int) x_1 → bif ilt (↑x_1.1 : Int) (↑(List.length xs) : Int) then ((0 : Int) ≤ (↑x_1.1 : Int) ∧ (↑x_1.1 : Int) < (↑(List.length xs) : Int)) ∧ 0 + Int.toNat (↑x_1.1 : Int) * (1 : Nat) < List.length xs ∧ bif ieq sh 2 then (4 : Int) ≠ (0 : Int) ∧ bif !ieq (Int.tmod (List.getD xs (0 + Int.toNat (↑x_1.1 : Int) * 1) 0) 4) (↑x.1 : Int) then okSt (HFi sh t m xs (↑(Prod.fst x) : Int)) (fun x' => Hint.ok (HFi sh t m xs (↑(Prod.fst x) : Int)) x' ∧ Hint.mu (HFi sh t m xs (↑(Prod.fst x) : Int)) x' < Hint.mu (HFi sh t m xs (↑(Prod.fst x) : Int)) x_1) [AVal.int .i64 sh, AVal.top, AVal.top, AVal.slice 0 0 (List.length xs) 1, AVal.top, AVal.top, AVal.top, AVal.top, AVal.top, AVal.ptr 1 0, AVal.ptr 2 0, AVal.ptr 3 0, AVal.top, AVal.int .i64 (↑x.1 : Int), AVal.int .i64 (Prod.snd x_1).1, AVal.ptr 5 0, AVal.top, AVal.top, AVal.top, AVal.top, AVal.top, AVal.top, AVal.top, AVal.top, AVal.top, AVal.top, AVal.top, AVal.top, AVal.top, AVal.top, AVal.top, AVal.top, AVal.top, AVal.top, AVal.top, AVal.top, AVal.top, AVal.top, AVal.top, AVal.top, AVal.top, AVal.top, AVal.top, AVal.top, AVal.slice 0 0 (List.length xs) 1, AVal.int .i64 (↑(List.length xs) : Int), AVal.int .i64 (W ((↑x_1.1 : Int) + 1)), AVal.top, AVal.top, AVal.top, AVal.top, AVal.top, AVal.top, AVal.top, AVal.top, AVal.top, AVal.top, AVal.top, AVal.top, AVal.top, AVal.top, AVal.top, AVal.top, AVal.top, AVal.top, AVal.top, AVal.top, AVal.top, AVal.top, AVal.top, AVal.top, AVal.top, AVal.top, AVal.top, AVal.top, AVal.top, AVal.top, AVal.top, AVal.top, AVal.top, AVal.top, AVal.top, AVal.top, AVal.top, AVal.top, AVal.top, AVal.top, AVal.top, AVal.top, AVal.top, AVal.top, AVal.top, AVal.top] [some (Entry.ints (some .i64) xs), some (Entry.cells [AVal.int .i64 0, AVal.int .i64 0]), some (Entry.cells [AVal.int .i64 t, AVal.int .i64 (W ((↑(List.length xs) : Int) + m))]), some (Entry.cells [AVal.int .i64 (Prod.snd (Prod.snd x_1.2).2).1, AVal.int .i64 (Prod.snd (Prod.snd x_1.2).2).2, AVal.slice 4 0 (List.length (Prod.snd (Prod.snd x_1.2).2).3) 1, AVal.int .i64 (Prod.snd (Prod.snd x_1.2).2).4, AVal.int .i64 (Prod.snd (Prod.snd x_1.2).2).5, AVal.int .i64 (Prod.snd (Prod.snd x_1.2).2).6, AVal.int .u64 (Prod.snd (Prod.snd x_1.2).2).7, AVal.int .u64 (Prod.snd (Prod.snd x_1.2).2).8, AVal.bool (Prod.snd (Prod.snd x_1.2).2).9]), some (Entry.ints (some .u64) (Prod.snd (Prod.snd x_1.2).2).3), some (Entry.cells [AVal.int .i64 (Prod.snd x_1.2).1, AVal.int .i64 0, AVal.bool false, AVal.int .i64 0, AVal.int .i64 (Prod.snd (Prod.snd x_1).2).1])] else bif !ieq sh 2 then bif ilt 0 (↑x.1 : Int) then okSt (HFi sh t m xs (↑(Prod.fst x) : Int)) (fun x' => Hint.ok (HFi sh t m xs (↑(Prod.fst x) : Int)) x' ∧ Hint.mu (HFi sh t m xs (↑(Prod.fst x) : Int)) x' < Hint.mu (HFi sh t m xs (↑(Prod.fst x) : Int)) x_1) [AVal.int .i64 sh, AVal.top, AVal.top, AVal.slice 0 0 (List.length xs) 1, AVal.top, AVal.top, AVal.top, AVal.top, AVal.top, AVal.ptr 1 0, AVal.ptr 2 0, AVal.ptr 3 0, AVal.top, AVal.int .i64 (↑x.1 : Int), AVal.int .i64 (Prod.snd x_1).1, AVal.ptr 5 0, AVal.top, AVal.top, AVal.top, AVal.top, AVal.top, AVal.top, AVal.top, AVal.top, AVal.top, AVal.top, AVal.top, AVal.top, AVal.top, AVal.top, AVal.top, AVal.top, AVal.top, AVal.top, AVal.top, AVal.top, AVal.top, AVal.top, AVal.top, AVal.top, AVal.top, AVal.top, AVal.top, AVal.top, AVal.slice 0 0 (List.length xs) 1, AVal.int .i64 (↑(List.length xs) : Int), AVal.int .i64 (W ((↑x_1.1 : Int) + 1)), AVal.top, AVal.top, AVal.top, AVal.top, AVal.top, AVal.top, AVal.top, AVal.top, AVal.top, AVal.top, AVal.top, AVal.top, AVal.top, AVal.top, AVal.top, AVal.top, AVal.top, AVal.top, AVal.top, AVal.top, AVal.top, AVal.top, AVal.top, AVal.top, AVal.top, AVal.top, AVal.top, AVal.top, AVal.top, AVal.top, AVal.top, AVal.top, AVal.top, AVal.top, AVal.top, AVal.top, AVal.top, AVal.top, AVal.top, AVal.top, AVal.top, AVal.top, AVal.top, AVal.top, AVal.top, AVal.top] [some (Entry.ints (some .i64) xs), some (Entry.cells [AVal.int .i64 0, AVal.int .i64 0]), some (Entry.cells [AVal.int .i64 t, AVal.int .i64 (W ((↑(List.length xs) : Int) + m))]), some (Entry.cells [AVal.int .i64 (Prod.snd (Prod.snd x_1.2).2).1, AVal.int .i64 (Prod.snd (Prod.snd x_1.2).2).2, AVal.slice 4 0 (List.length (Prod.snd (Prod.snd x_1.2).2).3) 1, AVal.int .i64 (Prod.snd (Prod.snd x_1.2).2).4, AVal.int .i64 (Prod.snd (Prod.snd x_1.2).2).5, AVal.int .i64 (Prod.snd (Prod.snd x_1.2).2).6, AVal.int .u64 (Prod.snd (Prod.snd x_1.2).2).7, AVal.int .u64 (Prod.snd (Prod.snd x_1.2).2).8, AVal.bool (Prod.snd (Prod.snd x_1.2).2).9]), some (Entry.ints (some .u64) (Prod.snd (Prod.snd x_1.2).2).3), some (Entry.cells [AVal.int .i64 (Prod.snd x_1.2).1, AVal.int .i64 0, AVal.bool false, AVal.int .i64 0, AVal.int .i64 (Prod.snd (Prod.snd x_1).2).1])] else (((0 : Int) ≤ (Prod.snd x_1.2).1 ∧ (Prod.snd x_1.2).1 < (1024 : Int)) ∧ ((0 : Int) ≤ W ((↑x_1.1 : Int) + 1) ∧ W ((↑x_1.1 : Int) + 1) < (512 : Int)) ∧ ((0 : Int) ≤ (0 : Int) ∧ (0 : Int) < (32 : Int)) ∧ (0 : Int) ≤ (Prod.snd (Prod.snd x_1).2).1 ∧ (Prod.snd (Prod.snd x_1).2).1 < (262144 : Int)) ∧ (List.length (Prod.snd (Prod.snd x_1.2).2).3 = List.length (Prod.snd (Prod.snd x_1.2).2).3 ∧ (0 : Int) ≤ (Prod.snd (Prod.snd x_1.2).2).4 ∧ (Prod.snd (Prod.snd x_1.2).2).4 ≤ (4611686018427387904 : Int)) ∧ (((0 : Int) ≤ t ∧ t ≤ (100000 : Int)) ∧ ((0 : Int) ≤ W ((↑(List.length xs) : Int) + m) ∧ W ((↑(List.length xs) : Int) + m) ≤ (100000 : Int)) ∧ (-1099511627776 : Int) ≤ W ((↑x_1.1 : Int) + 1) ∧ W ((↑x_1.1 : Int) + 1) ≤ (1099511627776 : Int)) ∧ (List.length (putI (Prod.snd (Prod.snd x_1.2).2).3 (Prod.snd x_1).1 (putV (Prod.snd x_1.2).1 (W ((↑x_1.1 : Int) + 1)) false 0 (Prod.snd (Prod.snd x_1).2).1)) = List.length (putI (Prod.snd (Prod.snd x_1.2).2).3 (Prod.snd x_1).1 (putV (Prod.snd x_1.2).1 (W ((↑x_1.1 : Int) + 1)) false 0 (Prod.snd (Prod.snd x_1).2).1)) ∧ (0 : Int) ≤ (Prod.snd (Prod.snd x_1.2).2).4 + 1 ∧ (Prod.snd (Prod.snd x_1.2).2).4 + (1 : Int) ≤ (4611686018427387904 : Int)) ∧ okSt (HFi sh t m xs (↑(Prod.fst x) : Int)) (fun x' => Hint.ok (HFi sh t m xs (↑(Prod.fst x) : Int)) x' ∧ Hint.mu (HFi sh t m xs (↑(Prod.fst x) : Int)) x' < Hint.mu (HFi sh t m xs (↑(Prod.fst x) : Int)) x_1) [AVal.int .i64 sh, AVal.top, AVal.top, AVal.slice 0 0 (List.length xs) 1, AVal.top, AVal.top, AVal.top, AVal.top, AVal.top, AVal.ptr 1 0, AVal.ptr 2 0, AVal.ptr 3 0, AVal.top, AVal.int .i64 (↑x.1 : Int), AVal.int .i64 (W ((↑x_1.1 : Int) + 1)), AVal.ptr 5 0, AVal.top, AVal.top, AVal.top, AVal.top, AVal.top, AVal.top, AVal.top, AVal.top, AVal.top, AVal.top, AVal.top, AVal.top, AVal.top, AVal.top, AVal.top, AVal.top, AVal.top, AVal.top, AVal.top, AVal.top, AVal.top, AVal.top, AVal.top, AVal.top, AVal.top, AVal.top, AVal.top, AVal.top, AVal.slice 0 0 (List.length xs) 1, AVal.int .i64 (↑(List.length xs) : Int), AVal.int .i64 (W ((↑x_1.1 : Int) + 1)), AVal.top, AVal.top, AVal.top, AVal.top, AVal.top, AVal.top, AVal.top, AVal.top, AVal.top, AVal.top, AVal.top, AVal.top, AVal.top, AVal.top, AVal.top, AVal.top, AVal.top, AVal.top, AVal.top, AVal.top, AVal.top, AVal.top, AVal.top, AVal.top, AVal.top, AVal.top, AVal.top, AVal.top, AVal.top, AVal.top, AVal.top, AVal.top, AVal.top, AVal.top, AVal.top, AVal.top, AVal.top, AVal.top, AVal.top, AVal.top, AVal.top, AVal.top, AVal.top, AVal.top, AVal.top, AVal.top] [some (Entry.ints (some .i64) xs), some (Entry.cells [AVal.int .i64 0, AVal.int .i64 0]), some (Entry.cells [AVal.int .i64 t, AVal.int .i64 (W ((↑(List.length xs) : Int) + m))]), some (Entry.cells [AVal.int .i64 (Prod.snd (Prod.snd x_1.2).2).1, AVal.int .i64 (Prod.snd (Prod.snd x_1.2).2).2, AVal.slice 4 0 (List.length (putI (putI (Prod.snd (Prod.snd x_1.2).2).3 (Prod.snd x_1).1 (putV (Prod.snd x_1.2).1 (W ((↑x_1.1 : Int) + 1)) false 0 (Prod.snd (Prod.snd x_1).2).1)) (W ((↑(List.length xs) : Int) + m) + 4 + W ((↑x_1.1 : Int) + 1)) 1)) 1, AVal.int .i64 ((Prod.snd (Prod.snd x_1.2).2).4 + 1 + 1), AVal.int .i64 2, AVal.int .i64 (W ((↑(List.length xs) : Int) + m) + 4 + W ((↑x_1.1 : Int) + 1)), AVal.int .u64 (peek (putI (Prod.snd (Prod.snd x_1.2).2).3 (Prod.snd x_1).1 (putV (Prod.snd x_1.2).1 (W ((↑x_1.1 : Int) + 1)) false 0 (Prod.snd (Prod.snd x_1).2).1)) (W ((↑(List.length xs) : Int) + m) + 4 + W ((↑x_1.1 : Int) + 1))), AVal.int .u64 (bif inB (putI (Prod.snd (Prod.snd x_1.2).2).3 (Prod.snd x_1).1 (putV (Prod.snd x_1.2).1 (W ((↑x_1.1 : Int) + 1)) false 0 (Prod.snd (Prod.snd x_1).2).1)) (W ((↑(List.length xs) : Int) + m) + 4 + W ((↑x_1.1 : Int) + 1)) then 1 else 0), AVal.bool (inB (putI (Prod.snd (Prod.snd x_1.2).2).3 (Prod.snd x_1).1 (putV (Prod.snd x_1.2).1 (W ((↑x_1.1 : Int) + 1)) false 0 (Prod.snd (Prod.snd x_1).2).1)) (W ((↑(List.length xs) : Int) + m) + 4 + W ((↑x_1.1 : Int) + 1)))]), some (Entry.ints (some .u64) (putI (putI (Prod.snd (Prod.snd x_1.2).2).3 (Prod.snd x_1).1 (putV (Prod.snd x_1.2).1 (W ((↑x_1.1 : Int) + 1)) false 0 (Prod.snd (Prod.snd x_1).2).1)) (W ((↑(List.length xs) : Int) + m) + 4 + W ((↑x_1.1 : Int) + 1)) 1)), some (Entry.cells [AVal.int .i64 (List.getD xs (0 + Int.toNat (↑x_1.1 : Int) * 1) 0), AVal.int .i64 0, AVal.bool false, AVal.int .i64 0, AVal.int .i64 3])] else (((0 : Int) ≤ (Prod.snd x_1.2).1 ∧ (Prod.snd x_1.2).1 < (1024 : Int)) ∧ ((0 : Int) ≤ W ((↑x_1.1 : Int) + 1) ∧ W ((↑x_1.1 : Int) + 1) < (512 : Int)) ∧ ((0 : Int) ≤ (0 : Int) ∧ (0 : Int) < (32 : Int)) ∧ (0 : Int) ≤ (Prod.snd (Prod.snd x_1).2).1 ∧ (Prod.snd (Prod.snd x_1).2).1 < (262144 : Int)) ∧ (List.length (Prod.snd (Prod.snd x_1.2).2).3 = List.length (Prod.snd (Prod.snd x_1.2).2).3 ∧ (0 : Int) ≤ (Prod.snd (Prod.snd x_1.2).2).4 ∧ (Prod.snd (Prod.snd x_1.2).2).4 ≤ (4611686018427387904 : Int)) ∧ (((0 : Int) ≤ t ∧ t ≤ (100000 : Int)) ∧ ((0 : Int) ≤ W ((↑(List.length xs) : Int) + m) ∧ W ((↑(List.length xs) : Int) + m) ≤ (100000 : Int)) ∧ (-1099511627776 : Int) ≤ W ((↑x_1.1 : Int) + 1) ∧ W ((↑x_1.1 : Int) + 1) ≤ (1099511627776 : Int)) ∧ (List.length (putI (Prod.snd (Prod.snd x_1.2).2).3 (Prod.snd x_1).1 (putV (Prod.snd x_1.2).1 (W ((↑x_1.1 : Int) + 1)) false 0 (Prod.snd (Prod.snd x_1).2).1)) = List.length (putI (Prod.snd (Prod.snd x_1.2).2).3 (Prod.snd x_1).1 (putV (Prod.snd x_1.2).1 (W ((↑x_1.1 : Int) + 1)) false 0 (Prod.snd (Prod.snd x_1).2).1)) ∧ (0 : Int) ≤ (Prod.snd (Prod.snd x_1.2).2).4 + 1 ∧ (Prod.snd (Prod.snd x_1.2).2).4 + (1 : Int) ≤ (4611686018427387904 : Int)) ∧ okSt (HFi sh t m xs (↑(Prod.fst x) : Int)) (fun x' => Hint.ok (HFi sh t m xs (↑(Prod.fst x) : Int)) x' ∧ Hint.mu (HFi sh t m xs (↑(Prod.fst x) : Int)) x' < Hint.mu (HFi sh t m xs (↑(Prod.fst x) : Int)) x_1) [AVal.int .i64 sh, AVal.top, AVal.top, AVal.slice 0 0 (List.length xs) 1, AVal.top, AVal.top, AVal.top, AVal.top, AVal.top, AVal.ptr 1 0, AVal.ptr 2 0, AVal.ptr 3 0, AVal.top, AVal.int .i64 (↑x.1 : Int), AVal.int .i64 (W ((↑x_1.1 : Int) + 1)), AVal.ptr 5 0, AVal.top, AVal.top, AVal.top, AVal.top, AVal.top, AVal.top, AVal.top, AVal.top, AVal.top, AVal.top, AVal.top, AVal.top, AVal.top, AVal.top, AVal.top, AVal.top, AVal.top, AVal.top, AVal.top, AVal.top, AVal.top, AVal.top, AVal.top, AVal.top, AVal.top, AVal.top, AVal.top, AVal.top, AVal.slice 0 0 (List.length xs) 1, AVal.int .i64 (↑(List.length xs) : Int), AVal.int .i64 (W ((↑x_1.1 : Int) + 1)), AVal.top, AVal.top, AVal.top, AVal.top, AVal.top, AVal.top, AVal.top, AVal.top, AVal.top, AVal.top, AVal.top, AVal.top, AVal.top, AVal.top, AVal.top, AVal.top, AVal.top, AVal.top, AVal.top, AVal.top, AVal.top, AVal.top, AVal.top, AVal.top, AVal.top, AVal.top, AVal.top, AVal.top, AVal.top, AVal.top, AVal.top, AVal.top, AVal.top, AVal.top, AVal.top, AVal.top, AVal.top, AVal.top, AVal.top, AVal.top, AVal.top, AVal.top, AVal.top, AVal.top, AVal.top, AVal.top] [some (Entry.ints (some .i64) xs), some (Entry.cells [AVal.int .i64 0, AVal.int .i64 0]), some (Entry.cells [AVal.int .i64 t, AVal.int .i64 (W ((↑(List.length xs) : Int) + m))]), some (Entry.cells [AVal.int .i64 (Prod.snd (Prod.snd x_1.2).2).1, AVal.int .i64 (Prod.snd (Prod.snd x_1.2).2).2, AVal.slice 4 0 (List.length (putI (putI (Prod.snd (Prod.snd x_1.2).2).3 (Prod.snd x_1).1 (putV (Prod.snd x_1.2).1 (W ((↑x_1.1 : Int) + 1)) false 0 (Prod.snd (Prod.snd x_1).2).1)) (W ((↑(List.length xs) : Int) + m) + 4 + W ((↑x_1.1 : Int) + 1)) 1)) 1, AVal.int .i64 ((Prod.snd (Prod.snd x_1.2).2).4 + 1 + 1), AVal.int .i64 2, AVal.int .i64 (W ((↑(List.length xs) : Int) + m) + 4 + W ((↑x_1.1 : Int) + 1)), AVal.int .u64 (peek (putI (Prod.snd (Prod.snd x_1.2).2).3 (Prod.snd x_1).1 (putV (Prod.snd x_1.2).1 (W ((↑x_1.1 : Int) + 1)) false 0 (Prod.snd (Prod.snd x_1).2).1)) (W ((↑(List.length xs) : Int) + m) + 4 + W ((↑x_1.1 : Int) + 1))), AVal.int .u64 (bif inB (putI (Prod.snd (Prod.snd x_1.2).2).3 (Prod.snd x_1).1 (putV (Prod.snd x_1.2).1 (W ((↑x_1.1 : Int) + 1)) false 0 (Prod.snd (Prod.snd x_1).2).1)) (W ((↑(List.length xs) : Int) + m) + 4 + W ((↑x_1.1 : Int) + 1)) then 1 else 0), AVal.bool (inB (putI (Prod.snd (Prod.snd x_1.2).2).3 (Prod.snd x_1).1 (putV (Prod.snd x_1.2).1 (W ((↑x_1.1 : Int) + 1)) false 0 (Prod.snd (Prod.snd x_1).2).1)) (W ((↑(List.length xs) : Int) + m) + 4 + W ((↑x_1.1 : Int) + 1)))]), some (Entry.ints (some .u64) (putI (putI (Prod.snd (Prod.snd x_1.2).2).3 (Prod.snd x_1).1 (putV (Prod.snd x_1.2).1 (W ((↑x_1.1 : Int) + 1)) false 0 (Prod.snd (Prod.snd x_1).2).1)) (W ((↑(List.length xs) : Int) + m) + 4 + W ((↑x_1.1 : Int) + 1)) 1)), some (Entry.cells [AVal.int .i64 (List.getD xs (0 + Int.toNat (↑x_1.1 : Int) * 1) 0), AVal.int .i64 0, AVal.bool false, AVal.int .i64 0, AVal.int .i64 3])] else bif !ieq sh 2 then bif ilt 0 (↑x.1 : Int) then okSt (HFi sh t m xs (↑(Prod.fst x) : Int)) (fun x' => Hint.ok (HFi sh t m xs (↑(Prod.fst x) : Int)) x' ∧ Hint.mu (HFi sh t m xs (↑(Prod.fst x) : Int)) x' < Hint.mu (HFi sh t m xs (↑(Prod.fst x) : Int)) x_1) [AVal.int .i64 sh, AVal.top, AVal.top, AVal.slice 0 0 (List.length xs) 1, AVal.top, AVal.top, AVal.top, AVal.top, AVal.top, AVal.ptr 1 0, AVal.ptr 2 0, AVal.ptr 3 0, AVal.top, AVal.int .i64 (↑x.1 : Int), AVal.int .i64 (Prod.snd x_1).1, AVal.ptr 5 0, AVal.top, AVal.top, AVal.top, AVal.top, AVal.top, AVal.top, AVal.top, AVal.top, AVal.top, AVal.top, AVal.top, AVal.top, AVal.top, AVal.top, AVal.top, AVal.top, AVal.top, AVal.top, AVal.top, AVal.top, AVal.top, AVal.top, AVal.top, AVal.top, AVal.top, AVal.top, AVal.top, AVal.top, AVal.slice 0 0 (List.length xs) 1, AVal.int .i64 (↑(List.length xs) : Int), AVal.int .i64 (W ((↑x_1.1 : Int) + 1)), AVal.top, AVal.top, AVal.top, AVal.top, AVal.top, AVal.top, AVal.top, AVal.top, AVal.top, AVal.top, AVal.top, AVal.top, AVal.top, AVal.top, AVal.top, AVal.top, AVal.top, AVal.top, AVal.top, AVal.top, AVal.top, AVal.top, AVal.top, AVal.top, AVal.top, AVal.top, AVal.top, AVal.top, AVal.top, AVal.top, AVal.top, AVal.top, AVal.top, AVal.top, AVal.top, AVal.top, AVal.top, AVal.top, AVal.top, AVal.top, AVal.top, AVal.top, AVal.top, AVal.top, AVal.top, AVal.top] [some (Entry.ints (some .i64) xs), some (Entry.cells [AVal.int .i64 0, AVal.int .i64 0]), some (Entry.cells [AVal.int .i64 t, AVal.int .i64 (W ((↑(List.length xs) : Int) + m))]), some (Entry.cells [AVal.int .i64 (Prod.snd (Prod.snd x_1.2).2).1, AVal.int .i64 (Prod.snd (Prod.snd x_1.2).2).2, AVal.slice 4 0 (List.length (Prod.snd (Prod.snd x_1.2).2).3) 1, AVal.int .i64 (Prod.snd (Prod.snd x_1.2).2).4, AVal.int .i64 (Prod.snd (Prod.snd x_1.2).2).5, AVal.int .i64 (Prod.snd (Prod.snd x_1.2).2).6, AVal.int .u64 (Prod.snd (Prod.snd x_1.2).2).7, AVal.int .u64 (Prod.snd (Prod.snd x_1.2).2).8, AVal.bool (Prod.snd (Prod.snd x_1.2).2).9]), some (Entry.ints (some .u64) (Prod.snd (Prod.snd x_1.2).2).3), some (Entry.cells [AVal.int .i64 (Prod.snd x_1.2).1, AVal.int .i64 0, AVal.bool false, AVal.int .i64 0, AVal.int .i64 (Prod.snd (Prod.snd x_1).2).1])] else (((0 : Int) ≤ (Prod.snd x_1.2).1 ∧ (Prod.snd x_1.2).1 < (1024 : Int)) ∧ ((0 : Int) ≤ W ((↑x_1.1 : Int) + 1) ∧ W ((↑x_1.1 : Int) + 1) < (512 : Int)) ∧ ((0 : Int) ≤ (0 : Int) ∧ (0 : Int) < (32 : Int)) ∧ (0 : Int) ≤ (Prod.snd (Prod.snd x_1).2).1 ∧ (Prod.snd (Prod.snd x_1).2).1 < (262144 : Int)) ∧ (List.length (Prod.snd (Prod.snd x_1.2).2).3 = List.length (Prod.snd (Prod.snd x_1.2).2).3 ∧ (0 : Int) ≤ (Prod.snd (Prod.snd x_1.2).2).4 ∧ (Prod.snd (Prod.snd x_1.2).2).4 ≤ (4611686018427387904 : Int)) ∧ (((0 : Int) ≤ t ∧ t ≤ (100000 : Int)) ∧ ((0 : Int) ≤ W ((↑(List.length xs) : Int) + m) ∧ W ((↑(List.length xs) : Int) + m) ≤ (100000 : Int)) ∧ (-1099511627776 : Int) ≤ W ((↑x_1.1 : Int) + 1) ∧ W ((↑x_1.1 : Int) + 1) ≤ (1099511627776 : Int)) ∧ (List.length (putI (Prod.snd (Prod.snd x_1.2).2).3 (Prod.snd x_1).1 (putV (Prod.snd x_1.2).1 (W ((↑x_1.1 : Int) + 1)) false 0 (Prod.snd (Prod.snd x_1).2).1)) = List.length (putI (Prod.snd (Prod.snd x_1.2).2).3 (Prod.snd x_1).1 (putV (Prod.snd x_1.2).1 (W ((↑x_1.1 : Int) + 1)) false 0 (Prod.snd (Prod.snd x_1).2).1)) ∧ (0 : Int) ≤ (Prod.snd (Prod.snd x_1.2).2).4 + 1 ∧ (Prod.snd (Prod.snd x_1.2).2).4 + (1 : Int) ≤ (4611686018427387904 : Int)) ∧ okSt (HFi sh t m xs (↑(Prod.fst x) : Int)) (fun x' => Hint.ok (HFi sh t m xs (↑(Prod.fst x) : Int)) x' ∧ Hint.mu (HFi sh t m xs (↑(Prod.fst x) : Int)) x' < Hint.mu (HFi sh t m xs (↑(Prod.fst x) : Int)) x_1) [AVal.int .i64 sh, AVal.top, AVal.top, AVal.slice 0 0 (List.length xs) 1, AVal.top, AVal.top, AVal.top, AVal.top, AVal.top, AVal.ptr 1 0, AVal.ptr 2 0, AVal.ptr 3 0, AVal.top, AVal.int .i64 (↑x.1 : Int), AVal.int .i64 (W ((↑x_1.1 : Int) + 1)), AVal.ptr 5 0, AVal.top, AVal.top, AVal.top, AVal.top, AVal.top, AVal.top, AVal.top, AVal.top, AVal.top, AVal.top, AVal.top, AVal.top, AVal.top, AVal.top, AVal.top, AVal.top, AVal.top, AVal.top, AVal.top, AVal.top, AVal.top, AVal.top, AVal.top, AVal.top, AVal.top, AVal.top, AVal.top, AVal.top, AVal.slice 0 0 (List.length xs) 1, AVal.int .i64 (↑(List.length xs) : Int), AVal.int .i64 (W ((↑x_1.1 : Int) + 1)), AVal.top, AVal.top, AVal.top, AVal.top, AVal.top, AVal.top, AVal.top, AVal.top, AVal.top, AVal.top, AVal.top, AVal.top, AVal.top, AVal.top, AVal.top, AVal.top, AVal.top, AVal.top, AVal.top, AVal.top, AVal.top, AVal.top, AVal.top, AVal.top, AVal.top, AVal.top, AVal.top, AVal.top, AVal.top, AVal.top, AVal.top, AVal.top, AVal.top, AVal.top, AVal.top, AVal.top, AVal.top, AVal.top, AVal.top, AVal.top, AVal.top, AVal.top, AVal.top, AVal.top, AVal.top, AVal.top] [some (Entry.ints (some .i64) xs), some (Entry.cells [AVal.int .i64 0, AVal.int .i64 0]), some (Entry.cells [AVal.int .i64 t, AVal.int .i64 (W ((↑(List.length xs) : Int) + m))]), some (Entry.cells [AVal.int .i64 (Prod.snd (Prod.snd x_1.2).2).1, AVal.int .i64 (Prod.snd (Prod.snd x_1.2).2).2, AVal.slice 4 0 (List.length (putI (putI (Prod.snd (Prod.snd x_1.2).2).3 (Prod.snd x_1).1 (putV (Prod.snd x_1.2).1 (W ((↑x_1.1 : Int) + 1)) false 0 (Prod.snd (Prod.snd x_1).2).1)) (W ((↑(List.length xs) : Int) + m) + 4 + W ((↑x_1.1 : Int) + 1)) 1)) 1, AVal.int .i64 ((Prod.snd (Prod.snd x_1.2).2).4 + 1 + 1), AVal.int .i64 2, AVal.int .i64 (W ((↑(List.length xs) : Int) + m) + 4 + W ((↑x_1.1 : Int) + 1)), AVal.int .u64 (peek (putI (Prod.snd (Prod.snd x_1.2).2).3 (Prod.snd x_1).1 (putV (Prod.snd x_1.2).1 (W ((↑x_1.1 : Int) + 1)) false 0 (Prod.snd (Prod.snd x_1).2).1)) (W ((↑(List.length xs) : Int) + m) + 4 + W ((↑x_1.1 : Int) + 1))), AVal.int .u64 (bif inB (putI (Prod.snd (Prod.snd x_1.2).2).3 (Prod.snd x_1).1 (putV (Prod.snd x_1.2).1 (W ((↑x_1.1 : Int) + 1)) false 0 (Prod.snd (Prod.snd x_1).2).1)) (W ((↑(List.length xs) : Int) + m) + 4 + W ((↑x_1.1 : Int) + 1)) then 1 else 0), AVal.bool (inB (putI (Prod.snd (Prod.snd x_1.2).2).3 (Prod.snd x_1).1 (putV (Prod.snd x_1.2).1 (W ((↑x_1.1 : Int) + 1)) false 0 (Prod.snd (Prod.snd x_1).2).1)) (W ((↑(List.length xs) : Int) + m) + 4 + W ((↑x_1.1 : Int) + 1)))]), some (Entry.ints (some .u64) (putI (putI (Prod.snd (Prod.snd x_1.2).2).3 (Prod.snd x_1).1 (putV (Prod.snd x_1.2).1 (W ((↑x_1.1 : Int) + 1)) false 0 (Prod.snd (Prod.snd x_1).2).1)) (W ((↑(List.length xs) : Int) + m) + 4 + W ((↑x_1.1 : Int) + 1)) 1)), some (Entry.cells [AVal.int .i64 (List.getD xs (0 + Int.toNat (↑x_1.1 : Int) * 1) 0), AVal.int .i64 0, AVal.bool false, AVal.int .i64 0, AVal.int .i64 3])] else (((0 : Int) ≤ (Prod.snd x_1.2).1 ∧ (Prod.snd x_1.2).1 < (1024 : Int)) ∧ ((0 : Int) ≤ W ((↑x_1.1 : Int) + 1) ∧ W ((↑x_1.1 : Int) + 1) < (512 : Int)) ∧ ((0 : Int) ≤ (0 : Int) ∧ (0 : Int) < (32 : Int)) ∧ (0 : Int) ≤ (Prod.snd (Prod.snd x_1).2).1 ∧ (Prod.snd (Prod.snd x_1).2).1 < (262144 : Int)) ∧ (List.length (Prod.snd (Prod.snd x_1.2).2).3 = List.length (Prod.snd (Prod.snd x_1.2).2).3 ∧ (0 : Int) ≤ (Prod.snd (Prod.snd x_1.2).2).4 ∧ (Prod.snd (Prod.snd x_1.2).2).4 ≤ (4611686018427387904 : Int)) ∧ (((0 : Int) ≤ t ∧ t ≤ (100000 : Int)) ∧ ((0 : Int) ≤ W ((↑(List.length xs) : Int) + m) ∧ W ((↑(List.length xs) : Int) + m) ≤ (100000 : Int)) ∧ (-1099511627776 : Int) ≤ W ((↑x_1.1 : Int) + 1) ∧ W ((↑x_1.1 : Int) + 1) ≤ (1099511627776 : Int)) ∧ (List.length (putI (Prod.snd (Prod.snd x_1.2).2).3 (Prod.snd x_1).1 (putV (Prod.snd x_1.2).1 (W ((↑x_1.1 : Int) + 1)) false 0 (Prod.snd (Prod.snd x_1).2).1)) = List.length (putI (Prod.snd (Prod.snd x_1.2).2).3 (Prod.snd x_1).1 (putV (Prod.snd x_1.2).1 (W ((↑x_1.1 : Int) + 1)) false 0 (Prod.snd (Prod.snd x_1).2).1)) ∧ (0 : Int) ≤ (Prod.snd (Prod.snd x_1.2).2).4 + 1 ∧ (Prod.snd (Prod.snd x_1.2).2).4 + (1 : Int) ≤ (4611686018427387904 : Int)) ∧ okSt (HFi sh t m xs (↑(Prod.fst x) : Int)) (fun x' => Hint.ok (HFi sh t m xs (↑(Prod.fst x) : Int)) x' ∧ Hint.mu (HFi sh t m xs (↑(Prod.fst x) : Int)) x' < Hint.mu (HFi sh t m xs (↑(Prod.fst x) : Int)) x_1) [AVal.int .i64 sh, AVal.top, AVal.top, AVal.slice 0 0 (List.length xs) 1, AVal.top, AVal.top, AVal.top, AVal.top, AVal.top, AVal.ptr 1 0, AVal.ptr 2 0, AVal.ptr 3 0, AVal.top, AVal.int .i64 (↑x.1 : Int), AVal.int .i64 (W ((↑x_1.1 : Int) + 1)), AVal.ptr 5 0, AVal.top, AVal.top, AVal.top, AVal.top, AVal.top, AVal.top, AVal.top, AVal.top, AVal.top, AVal.top, AVal.top, AVal.top, AVal.top, AVal.top, AVal.top, AVal.top, AVal.top, AVal.top, AVal.top, AVal.top, AVal.top, AVal.top, AVal.top, AVal.top, AVal.top, AVal.top, AVal.top, AVal.top, AVal.slice 0 0 (List.length xs) 1, AVal.int .i64 (↑(List.length xs) : Int), AVal.int .i64 (W ((↑x_1.1 : Int) + 1)), AVal.top, AVal.top, AVal.top, AVal.top, AVal.top, AVal.top, AVal.top, AVal.top, AVal.top, AVal.top, AVal.top, AVal.top, AVal.top, AVal.top, AVal.top, AVal.top, AVal.top, AVal.top, AVal.top, AVal.top, AVal.top, AVal.top, AVal.top, AVal.top, AVal.top, AVal.top, AVal.top, AVal.top, AVal.top, AVal.top, AVal.top, AVal.top, AVal.top, AVal.top, AVal.top, AVal.top, AVal.top, AVal.top, AVal.top, AVal.top, AVal.top, AVal.top, AVal.top, AVal.top, AVal.top, AVal.top] [some (Entry.ints (some .i64) xs), some (Entry.cells [AVal.int .i64 0, AVal.int .i64 0]), some (Entry.cells [AVal.int .i64 t, AVal.int .i64 (W ((↑(List.length xs) : Int) + m))]), some (Entry.cells [AVal.int .i64 (Prod.snd (Prod.snd x_1.2).2).1, AVal.int .i64 (Prod.snd (Prod.snd x_1.2).2).2, AVal.slice 4 0 (List.length (putI (putI (Prod.snd (Prod.snd x_1.2).2).3 (Prod.snd x_1).1 (putV (Prod.snd x_1.2).1 (W ((↑x_1.1 : Int) + 1)) false 0 (Prod.snd (Prod.snd x_1).2).1)) (W ((↑(List.length xs) : Int) + m) + 4 + W ((↑x_1.1 : Int) + 1)) 1)) 1, AVal.int .i64 ((Prod.snd (Prod.snd x_1.2).2).4 + 1 + 1), AVal.int .i64 2, AVal.int .i64 (W ((↑(List.length xs) : Int) + m) + 4 + W ((↑x_1.1 : Int) + 1)), AVal.int .u64 (peek (putI (Prod.snd (Prod.snd x_1.2).2).3 (Prod.snd x_1).1 (putV (Prod.snd x_1.2).1 (W ((↑x_1.1 : Int) + 1)) false 0 (Prod.snd (Prod.snd x_1).2).1)) (W ((↑(List.length xs) : Int) + m) + 4 + W ((↑x_1.1 : Int) + 1))), AVal.int .u64 (bif inB (putI (Prod.snd (Prod.snd x_1.2).2).3 (Prod.snd x_1).1 (putV (Prod.snd x_1.2).1 (W ((↑x_1.1 : Int) + 1)) false 0 (Prod.snd (Prod.snd x_1).2).1)) (W ((↑(List.length xs) : Int) + m) + 4 + W ((↑x_1.1 : Int) + 1)) then 1 else 0), AVal.bool (inB (putI (Prod.snd (Prod.snd x_1.2).2).3 (Prod.snd x_1).1 (putV (Prod.snd x_1.2).1 (W ((↑x_1.1 : Int) + 1)) false 0 (Prod.snd (Prod.snd x_1).2).1)) (W ((↑(List.length xs) : Int) + m) + 4 + W ((↑x_1.1 : Int) + 1)))]), some (Entry.ints (some .u64) (putI (putI (Prod.snd (Prod.snd x_1.2).2).3 (Prod.snd x_1).1 (putV (Prod.snd x_1.2).1 (W ((↑x_1.1 : Int) + 1)) false 0 (Prod.snd (Prod.snd x_1).2).1)) (W ((↑(List.length xs) : Int) + m) + 4 + W ((↑x_1.1 : Int) + 1)) 1)), some (Entry.cells [AVal.int .i64 (List.getD xs (0 + Int.toNat (↑x_1.1 : Int) * 1) 0), AVal.int .i64 0, AVal.bool false, AVal.int .i64 0, AVal.int .i64 3])] else (((0 : Int) ≤ (Prod.snd x_1.2).1 ∧ (Prod.snd x_1.2).1 < (1024 : Int)) ∧ ((0 : Int) ≤ (0 : Int) ∧ (0 : Int) < (512 : Int)) ∧ ((0 : Int) ≤ (0 : Int) ∧ (0 : Int) < (32 : Int)) ∧ (0 : Int) ≤ (Prod.snd (Prod.snd x_1).2).1 ∧ (Prod.snd (Prod.snd x_1).2).1 < (262144 : Int)) ∧ (List.length (Prod.snd (Prod.snd x_1.2).2).3 = List.length (Prod.snd (Prod.snd x_1.2).2).3 ∧ (0 : Int) ≤ (Prod.snd (Prod.snd x_1.2).2).4 ∧ (Prod.snd (Prod.snd x_1.2).2).4 ≤ (4611686018427387904 : Int)) ∧ okSt (HFo sh t m xs) (fun x' => Hint.ok (HFo sh t m xs) x' ∧ Hint.mu (HFo sh t m xs) x' < Hint.mu (HFo sh t m xs) x) [AVal.int .i64 sh, AVal.top, AVal.top, AVal.slice 0 0 (List.length xs) 1, AVal.top, AVal.top, AVal.top, AVal.top, AVal.top, AVal.ptr 1 0, AVal.ptr 2 0, AVal.ptr 3 0, AVal.top, AVal.int .i64 (W ((↑x.1 : Int) + 1)), AVal.top, AVal.top, AVal.top, AVal.top, AVal.top, AVal.top, AVal.top, AVal.top, AVal.top, AVal.top, AVal.top, AVal.top, AVal.top, AVal.top, AVal.top, AVal.top, AVal.top, AVal.top, AVal.top, AVal.top, AVal.top, AVal.top, AVal.top, AVal.top, AVal.top, AVal.top, AVal.top, AVal.top, AVal.top, AVal.top, AVal.top, AVal.top, AVal.top, AVal.top, AVal.top, AVal.top, AVal.top, AVal.top, AVal.top, AVal.top, AVal.top, AVal.top, AVal.top, AVal.top, AVal.top, AVal.top, AVal.top, AVal.top, AVal.top, AVal.top, AVal.top, AVal.top, AVal.top, AVal.top, AVal.top, AVal.top, AVal.top, AVal.top, AVal.top, AVal.top, AVal.top, AVal.top, AVal.top, AVal.top, AVal.top, AVal.top, AVal.top, AVal.top, AVal.top, AVal.top, AVal.top, AVal.top, AVal.top, AVal.top, AVal.top, AVal.top, AVal.top, AVal.top, AVal.top] [some (Entry.ints (some .i64) xs), some (Entry.cells [AVal.int .i64 0, AVal.int .i64 0]), some (Entry.cells [AVal.int .i64 t, AVal.int .i64 (W ((↑(List.length xs) : Int) + m))]), some (Entry.cells [AVal.int .i64 (Prod.snd (Prod.snd x_1.2).2).1, AVal.int .i64 (Prod.snd (Prod.snd x_1.2).2).2, AVal.slice 4 0 (List.length (putI (Prod.snd (Prod.snd x_1.2).2).3 (Prod.snd x_1).1 (putV (Prod.snd x_1.2).1 0 false 0 (Prod.snd (Prod.snd x_1).2).1))) 1, AVal.int .i64 ((Prod.snd (Prod.snd x_1.2).2).4 + 1), AVal.int .i64 2, AVal.int .i64 (Prod.snd x_1).1, AVal.int .u64 (peek (Prod.snd (Prod.snd x_1.2).2).3 (Prod.snd x_1).1), AVal.int .u64 (bif inB (Prod.snd (Prod.snd x_1.2).2).3 (Prod.snd x_1).1 then putV (Prod.snd x_1.2).1 0 false 0 (Prod.snd (Prod.snd x_1).2).1 else 0), AVal.bool (inB (Prod.snd (Prod.snd x_1.2).2).3 (Prod.snd x_1).1)]), some (Entry.ints (some .u64) (putI (Prod.snd (Prod.snd x_1.2).2).3 (Prod.snd x_1).1 (putV (Prod.snd x_1.2).1 0 false 0 (Prod.snd (Prod.snd x_1).2).1)))] else K (AVal.tup [AVal.ptr 1 0, AVal.agg [AVal.int .i64 t, AVal.int .i64 (W ((↑(List.length xs) : Int) + m))]]) [some (Entry.ints (some .i64) xs), some (Entry.cells [AVal.int .i64 (Prod.snd x).1, AVal.int .i64 (Prod.snd x).2, AVal.slice 2 0 (List.length (Prod.snd x).3) 1, AVal.int .i64 (Prod.snd x).4, AVal.int .i64 (Prod.snd x).5, AVal.int .i64 (Prod.snd x).6, AVal.int .u64 (Prod.snd x).7, AVal.int .u64 (Prod.snd x).8, AVal.bool (Prod.snd x).9]), some (Entry.ints (some .u64) (Prod.snd x).3)]
theorem fill_print (sh t m : Int) (xs : List Int) (K : AVal → Heap Ob → Prop) (h : fillVC sh t m xs K) : CallOk (obI tbl) Tryz.prog 24 [.int .i64 sh, .int .i64 t, .int .i64 m, .slice 0 0 xs.length 1] [some (.ints (some .i64) xs)] K := by
  refine CallOk.trim (callOk_of (E := EZ) Tryz.checked.mixed (L := fillPl sh t m xs) (n := 10) (of_nf (q := fillVC sh t m xs K) (by kernel_rfl) h))
end Go.Sh

namespace Go.Sh
open Go Go.Proofs
variable [Con]
theorem fillIn_skip (sh h n k : Int) (ks : List Int) (i a ky vr : Int) (s : MS) (e : skipB sh h k = true) : fillIn sh h n (k :: ks) i a ky vr s = fillIn sh h n ks (i + 1) a ky vr s := by show cond _ _ _ = _; rw [e]; rfl
theorem fillIn_take (sh h n k : Int) (ks : List Int) (i a ky vr : Int) (s : MS) (e : skipB sh h k = false) : fillIn sh h n (k :: ks) i a ky vr s = fillIn sh h n ks (i + 1) (i + 1) k 3 ((s.stored a (putV ky (i + 1) false 0 vr)).stored (n + 4 + (i + 1)) 1) := by show cond _ _ _ = _; rw [e]; rfl
theorem fillTo_3 (sh n : Int) (xs : List Int) (h : Nat) (hh : h < 4) (s : MS) : fillTo sh n xs (4 - h) h s = fillTo sh n xs (3 - (h : Int)).toNat ((h : Int) + 1) (fillIn sh h n xs 0 (n + 1 + h) 0 0 s) := by
  have : 4 - h = (3 - (h : Int)).toNat + 1 := by omega
  rw [this]; rfl
theorem fill_vc (sh t m : Int) (xs : List Int) (K : AVal → Heap Ob → Prop) (hm : 0 ≤ m ∧ m ≤ 100) (hl : xs.length ≤ 100) (hr : rightB t (xs.length + m) = true) (hk : ∀ k ∈ xs, 0 ≤ k ∧ k < 1024)
    (hK : K (.tup [.ptr 1 0, .agg [.int .i64 t, .int .i64 (xs.length + m)]]) [some (.ints (some .i64) xs), memC 2 (fillTo sh (xs.length + m) xs 4 0 (memN t (xs.length + m))), memX (fillTo sh (xs.length + m) xs 4 0 (memN t (xs.length + m)))]) : fillVC sh t m xs K := by
  unfold fillVC
  have hr2 := rightB_true.1 hr
  have hn : W ((xs.length : Int) + m) = xs.length + m := W_in (by omega)
  have hr' : rightB t (W ((xs.length : Int) + m)) = true := by rw [hn]; exact hr
  have hz : (2 * W ((xs.length : Int) + m) + 5 * t + 6).toNat = (2 * ((xs.length : Int) + m) + 5 * t + 6).toNat := by rw [hn]
  rw [hr']
  refine ⟨trivial, cond_go (fun e => by cases e) (fun _ => ⟨⟨by omega, by omega, by omega⟩, cond_go (fun e => ?_) (fun _ => ⟨⟨⟨by omega, by omega, by omega⟩, trivial⟩, ⟨by omega, rfl, by omega⟩, ?_, ?_⟩)⟩)⟩
  · rw [ilt_eq, decide_eq_true_eq] at e; omega
  · refine okSt_intro (H := HFo sh t m xs) ((0 : Nat), memN t (W ((xs.length : Int) + m))) ?_ ⟨Nat.zero_le _, ⟨Int.le_refl 0, by show (0 : Int) ≤ _; omega⟩, rfl⟩
    simp only [HFo, memC, memX, memN, List.length_replicate]
    rfl
  · rintro ⟨h, s⟩ ⟨h4, hc, heq⟩
    simp only at h4 hc heq
    refine cond_go (fun e1 => ?_) (fun e1 => ?_)
    · rw [ilt_eq, decide_eq_true_eq] at e1
      refine ⟨⟨by omega, by omega, by omega⟩, okSt_intro (H := HFi sh t m xs (h : Int)) ((0 : Nat), (W ((xs.length : Int) + m) + 1 + h, ((0 : Int), ((0 : Int), s)))) rfl ⟨by omega, Nat.zero_le _, ⟨Int.le_refl 0, by show (0 : Int) < 1024; omega⟩, ⟨Int.le_refl 0, by show (0 : Int) < 262144; omega⟩, ⟨hc.1, by show s.c ≤ 1000 * (h : Int) + 3 * ((0 : Nat) : Int); omega⟩, ?_⟩, ?_⟩
      · rw [heq, fillTo_3 _ _ _ _ (by omega)]; rfl
      · rintro ⟨i, a, ky, vr, s1⟩ ⟨g4, gi, gk, gv, gc, geq⟩
        simp only at g4 gi gk gv gc geq
        have gc2 : s1.c ≤ 1000 * (h : Int) + 3 * i := gc.2
        have gc1 : 0 ≤ s1.c := gc.1
        have gh : (h : Int) < 4 := g4.2
        have hskip : ∀ (hi : i < xs.length), skipB sh h (xs.getD (0 + (i : Int).toNat * 1) 0) = true → okSt (HFi sh t m xs h) (fun x' => Hint.ok (HFi sh t m xs h) x' ∧ Hint.mu (HFi sh t m xs h) x' < Hint.mu (HFi sh t m xs h) (i, a, ky, vr, s1)) ((HFi sh t m xs h).st ((i + 1 : Nat), a, ky, vr, s1)).1 ((HFi sh t m xs h).st ((i + 1 : Nat), a, ky, vr, s1)).2 := by
          intro hi hs
          refine okSt_intro (H := HFi sh t m xs h) ((i + 1 : Nat), a, ky, vr, s1) rfl ⟨⟨g4, hi, gk, gv, ⟨gc.1, by show s1.c ≤ 1000 * (h : Int) + 3 * ((i + 1 : Nat) : Int); omega⟩, ?_⟩, by show xs.length - (i + 1) < xs.length - i; omega⟩
          have e2 : 0 + (i : Int).toNat * 1 = i := by omega
          have e3 : xs.getD i 0 = xs[i] := by rw [List.getD_eq_getElem?_getD, List.getElem?_eq_getElem hi]; rfl
          rw [e2, e3] at hs
          rw [geq, List.drop_eq_getElem_cons hi, fillIn_skip _ _ _ _ _ _ _ _ _ _ hs]; rfl
        have hput : ∀ (hi : i < xs.length), skipB sh h (xs.getD (0 + (i : Int).toNat * 1) 0) = false → okSt (HFi sh t m xs h) (fun x' => Hint.ok (HFi sh t m xs h) x' ∧ Hint.mu (HFi sh t m xs h) x' < Hint.mu (HFi sh t m xs h) (i, a, ky, vr, s1)) ((HFi sh t m xs h).st ((i + 1 : Nat), ((i + 1 : Nat) : Int), (xs.getD (0 + (i : Int).toNat * 1) 0, (3 : Int), ((s1.stored a (putV ky ((i : Int) + 1) false 0 vr)).stored (W ((xs.length : Int) + m) + 4 + ((i : Int) + 1)) 1)))).1 ((HFi sh t m xs h).st ((i + 1 : Nat), ((i + 1 : Nat) : Int), (xs.getD (0 + (i : Int).toNat * 1) 0, (3 : Int), ((s1.stored a (putV ky ((i : Int) + 1) false 0 vr)).stored (W ((xs.length : Int) + m) + 4 + ((i : Int) + 1)) 1)))).2 := by
          intro hi hs
          have e2 : 0 + (i : Int).toNat * 1 = i := by omega
          rw [e2] at hs ⊢
          have e3 : xs.getD i 0 = xs[i] := by rw [List.getD_eq_getElem?_getD, List.getElem?_eq_getElem hi]; rfl
          rw [e3] at hs ⊢
          refine okSt_intro (H := HFi sh t m xs h) _ rfl ⟨⟨g4, hi, hk _ (List.getElem_mem hi), ⟨by show (0 : Int) ≤ 3; omega, by show (3 : Int) < 262144; omega⟩, ⟨?_, ?_⟩, ?_⟩, by show xs.length - (i + 1) < xs.length - i; omega⟩
          · show 0 ≤ s1.c + 1 + 1; omega
          · show s1.c + 1 + 1 ≤ 1000 * (h : Int) + 3 * ((i + 1 : Nat) : Int); omega
          · rw [geq, List.drop_eq_getElem_cons hi, fillIn_take _ _ _ _ _ _ _ _ _ _ hs]; rfl
        have e4 : i < xs.length → W ((i : Int) + 1) = ((i + 1 : Nat) : Int) := fun hi => (W_in (by omega)).trans rfl
        have e4' : W ((h : Int) + 1) = ((h + 1 : Nat) : Int) := (W_in (by have : (h : Int) < 4 := g4.2; omega)).trans rfl
        refine cond_go (fun e2 => ?_) (fun e2 => ?_)
        · rw [ilt_eq, decide_eq_true_eq] at e2
          have hi : i < xs.length := by omega
          have e4 := e4 hi
          have e0 : 0 + (i : Int).toNat * 1 < xs.length := by omega
          refine ⟨by omega, e0, ?_⟩
          have hput := hput hi
          have hskip := hskip hi
          unfold skipB at hput hskip
          simp only [e4] at hput hskip ⊢
          refine cond_go (fun e5 => ?_) (fun e5 => ?_)
          · rw [e5] at hput hskip
            refine ⟨by decide, cond_go (fun e6 => ?_) (fun e6 => ?_)⟩
            · exact hskip e6
            · rw [e5]
              refine cond_go (fun e7 => by cases e7) (fun _ => ?_)
              refine ⟨⟨gk, ⟨by omega, by omega⟩, ⟨by decide, by decide⟩, gv⟩, ⟨trivial, gc.1, by omega⟩, ⟨⟨by omega, by omega⟩, ⟨by omega, by omega⟩, by omega, by omega⟩, ⟨trivial, by omega, by omega⟩, ?_⟩
              exact hput e6
          · rw [e5] at hput hskip
            rw [e5]
            refine cond_go (fun _ => cond_go (fun e6 => ?_) (fun e6 => ?_)) (fun e7 => by cases e7)
            · exact hskip e6
            · refine ⟨⟨gk, ⟨by omega, by omega⟩, ⟨by decide, by decide⟩, gv⟩, ⟨trivial, gc.1, by omega⟩, ⟨⟨by omega, by omega⟩, ⟨by omega, by omega⟩, by omega, by omega⟩, ⟨trivial, by omega, by omega⟩, ?_⟩
              exact hput e6
        · rw [ilt_eq, decide_eq_false_iff_not] at e2
          have hi : i = xs.length := by omega
          subst hi
          refine ⟨⟨gk, ⟨by decide, by decide⟩, ⟨by decide, by decide⟩, gv⟩, ⟨rfl, gc1, by show s1.c ≤ 4611686018427387904; omega⟩, okSt_intro (H := HFo sh t m xs) ((h + 1 : Nat), s1.stored a (putV ky 0 false 0 vr)) ?_ ⟨⟨by show h + 1 ≤ 4; omega, ⟨by show 0 ≤ s1.c + 1; omega, by show s1.c + 1 ≤ 1000 * ((h + 1 : Nat) : Int); omega⟩, ?_⟩, by show 4 - (h + 1) < 4 - h; omega⟩⟩
          · simp only [HFo, ← e4']
            rfl
          · rw [geq, List.drop_length]
            have e9 : (3 - (h : Int)).toNat = 4 - (h + 1) := by omega
            rw [e9]; rfl
    · rw [ilt_eq, decide_eq_false_iff_not] at e1
      have e5 : h = 4 := by omega
      subst e5
      have heq' : fillTo sh (W ((xs.length : Int) + m)) xs 4 0 (memN t (W ((xs.length : Int) + m))) = s := heq
      rw [hn] at heq'
      rw [heq'] at hK
      rw [hn]
      exact hK
end Go.Sh

namespace Go.Sh
open Go Go.Proofs
variable [Con]
def fillM (sh t n : Int) (xs : List Int) : MS := fillTo sh n xs 4 0 (memN t n)
structure fillOk (t m : Int) (xs : List Int) : Prop where
  hm : 0 ≤ m ∧ m ≤ 100
  hl : xs.length ≤ 100
  hr : rightB t (xs.length + m) = true
  hk : ∀ k ∈ xs, 0 ≤ k ∧ k < 1024
def HFn (sh t m : Int) : Hint Ob := { X := Nat × MS, st := fun x => ([.int .i64 sh, .top, .top, .raw (.slice none 0 0), .top, .top, .top, .top, .top, .ptr 0 0, .ptr 1 0, .ptr 2 0, .top, .int .i64 (x.1 : Int)] ++ List.replicate 79 .top, [some (.cells [.int .i64 0, .int .i64 0]), some (.cells [.int .i64 t, .int .i64 (IntKind.wrap .i64 (((0 : Nat) : Int) + m))]), memC 3 x.2, memX x.2]), ok := fillOut sh t (IntKind.wrap .i64 (((0 : Nat) : Int) + m)) [], mu := fun x => 4 - x.1, keep := [0, 3, 9, 10, 11, 13] }
def fillPn (sh t m : Int) : FuncId → Nat → Option (Plan Ob) := fun _ k => if k = 6 then some (.states (HFn sh t m)) else some (.rounds 2)
def fillnVC (sh t m : Int) (K : AVal → Heap Ob → Prop) : Prop := True ∧ bif !rightB t (W ((↑0 : Int) + m)) then K (AVal.tup [AVal.raw (Value.pointer none), AVal.agg [AVal.int .i64 t, AVal.int .i64 (W ((↑0 : Int) + m))]]) [] else (((0 : Int) ≤ t ∧ t ≤ (100000 : Int)) ∧ (0 : Int) ≤ W ((↑0 : Int) + m) ∧ W ((↑0 : Int) + m) ≤ (100000 : Int)) ∧ bif ilt (2 * W ((↑0 : Int) + m) + 5 * t + 6) (↑0 : Int) then K (AVal.tup [AVal.raw (Value.pointer none), AVal.agg [AVal.int .i64 t, AVal.int .i64 (W ((↑0 : Int) + m))]]) [] else ((((0 : Int) ≤ t ∧ t ≤ (100000 : Int)) ∧ (0 : Int) ≤ W ((↑0 : Int) + m) ∧ W ((↑0 : Int) + m) ≤ (100000 : Int)) ∧ True) ∧ ((0 : Int) ≤ (2 : Int) * W ((↑0 : Int) + m) + 5 * t + 6 ∧ 2 * W ((↑0 : Int) + m) + 5 * t + (6 : Int) = (2 : Int) * W ((↑0 : Int) + m) + 5 * t + 6 ∧ 2 * W ((↑0 : Int) + m) + 5 * t + (6 : Int) ≤ (4294967296 : Int)) ∧ okSt (HFn sh t m) (Hint.ok (HFn sh t m)) [AVal.int .i64 sh, AVal.top, AVal.top, AVal.raw (Value.slice none 0 0), AVal.top, AVal.top, AVal.top, AVal.top, AVal.top, AVal.ptr 0 0, AVal.ptr 1 0, AVal.ptr 2 0, AVal.top, AVal.int .i64 0, AVal.top, AVal.top, AVal.top, AVal.top, AVal.top, AVal.top, AVal.top, AVal.top, AVal.top, AVal.top, AVal.top, AVal.top, AVal.top, AVal.top, AVal.top, AVal.top, AVal.top, AVal.top, AVal.top, AVal.top, AVal.top, AVal.top, AVal.top, AVal.top, AVal.top, AVal.top, AVal.top, AVal.top, AVal.top, AVal.top, AVal.top, AVal.top, AVal.top, AVal.top, AVal.top, AVal.top, AVal.top, AVal.top, AVal.top, AVal.top, AVal.top, AVal.top, AVal.top, AVal.top, AVal.top, AVal.top, AVal.top, AVal.top, AVal.top, AVal.top, AVal.top, AVal.top, AVal.top, AVal.top, AVal.top, AVal.top, AVal.top, AVal.top, AVal.top, AVal.top, AVal.top, AVal.top, AVal.top, AVal.top, AVal.top, AVal.top, AVal.top, AVal.top, AVal.top, AVal.top, AVal.top, AVal.top, AVal.top, AVal.top, AVal.top, AVal.top, AVal.top, AVal.top, AVal.top] [some (Entry.cells [AVal.int .i64 0, AVal.int .i64 0]), some (Entry.cells [AVal.int .i64 t, AVal.int .i64 (W ((↑0 : Int) + m))]), some (Entry.cells [AVal.int .i64 t, AVal.int .i64 (W ((↑0 : Int) + m)), AVal.slice 3 0 (Int.toNat (2 * W ((↑0 : Int) + m) + 5 * t + 6)) 1, AVal.int .i64 0, AVal.int .i64 0, AVal.int .i64 0, AVal.int .u64 0, AVal.int .u64 0, AVal.bool false]), some (Entry.ints (some .u64) (List.replicate (Int.toNat (2 * W ((↑0 : Int) + m) + 5 * t + 6)) 0))] ∧ ∀ (x : (Nat × MS)), fillOut sh t (W ((↑0 : Int) + m)) [] x → bif ilt (↑x.1 : Int) 4 then (((0 : Int) ≤ W ((↑0 : Int) + m) ∧ W ((↑0 : Int) + m) ≤ (100000 : Int)) ∧ (-1000000 : Int) ≤ (↑x.1 : Int) ∧ (↑x.1 : Int) ≤ (1000000 : Int)) ∧ (((0 : Int) ≤ (0 : Int) ∧ (0 : Int) < (1024 : Int)) ∧ ((0 : Int) ≤ (0 : Int) ∧ (0 : Int) < (512 : Int)) ∧ ((0 : Int) ≤ (0 : Int) ∧ (0 : Int) < (32 : Int)) ∧ (0 : Int) ≤ (0 : Int) ∧ (0 : Int) < (262144 : Int)) ∧ (List.length (Prod.snd x).3 = List.length (Prod.snd x).3 ∧ (0 : Int) ≤ (Prod.snd x).4 ∧ (Prod.snd x).4 ≤ (4611686018427387904 : Int)) ∧ okSt (HFn sh t m) (fun x' => Hint.ok (HFn sh t m) x' ∧ Hint.mu (HFn sh t m) x' < Hint.mu (HFn sh t m) x) [AVal.int .i64 sh, AVal.top, AVal.top, AVal.raw (Value.slice none 0 0), AVal.top, AVal.top, AVal.top, AVal.top, AVal.top, AVal.ptr 0 0, AVal.ptr 1 0, AVal.ptr 2 0, AVal.top, AVal.int .i64 (W ((↑x.1 : Int) + 1)), AVal.top, AVal.top, AVal.top, AVal.top, AVal.top, AVal.top, AVal.top, AVal.top, AVal.top, AVal.top, AVal.top, AVal.top, AVal.top, AVal.top, AVal.top, AVal.top, AVal.top, AVal.top, AVal.top, AVal.top, AVal.top, AVal.top, AVal.top, AVal.top, AVal.top, AVal.top, AVal.top, AVal.top, AVal.top, AVal.top, AVal.top, AVal.top, AVal.top, AVal.top, AVal.top, AVal.top, AVal.top, AVal.top, AVal.top, AVal.top, AVal.top, AVal.top, AVal.top, AVal.top, AVal.top, AVal.top, AVal.top, AVal.top, AVal.top, AVal.top, AVal.top, AVal.top, AVal.top, AVal.top, AVal.top, AVal.top, AVal.top, AVal.top, AVal.top, AVal.top, AVal.top, AVal.top, AVal.top, AVal.top, AVal.top, AVal.top, AVal.top, AVal.top, AVal.top, AVal.top, AVal.top, AVal.top, AVal.top, AVal.top, AVal.top, AVal.top, AVal.top, AVal.top, AVal.top] [some (Entry.cells [AVal.int .i64 0, AVal.int .i64 0]), some (Entry.cells [AVal.int .i64 t, AVal.int .i64 (W ((↑0 : Int) + m))]), some (Entry.cells [AVal.int .i64 (Prod.snd x).1, AVal.int .i64 (Prod.snd x).2, AVal.slice 3 0 (List.length (putI (Prod.snd x).3 (W ((↑0 : Int) + m) + 1 + (↑x.1 : Int)) (putV 0 0 false 0 0))) 1, AVal.int .i64 ((Prod.snd x).4 + 1), AVal.int .i64 2, AVal.int .i64 (W ((↑0 : Int) + m) + 1 + (↑x.1 : Int)), AVal.int .u64 (peek (Prod.snd x).3 (W ((↑0 : Int) + m) + 1 + (↑x.1 : Int))), AVal.int .u64 (bif inB (Prod.snd x).3 (W ((↑0 : Int) + m) + 1 + (↑x.1 : Int)) then putV 0 0 false 0 0 else 0), AVal.bool (inB (Prod.snd x).3 (W ((↑0 : Int) + m) + 1 + (↑x.1 : Int)))]), some (Entry.ints (some .u64) (putI (Prod.snd x).3 (W ((↑0 : Int) + m) + 1 + (↑x.1 : Int)) (putV 0 0 false 0 0)))] else K (AVal.tup [AVal.ptr 0 0, AVal.agg [AVal.int .i64 t, AVal.int .i64 (W ((↑0 : Int) + m))]]) [some (Entry.cells [AVal.int .i64 (Prod.snd x).1, AVal.int .i64 (Prod.snd x).2, AVal.slice 1 0 (List.length (Prod.snd x).3) 1, AVal.int .i64 (Prod.snd x).4, AVal.int .i64 (Prod.snd x).5, AVal.int .i64 (Prod.snd x).6, AVal.int .u64 (Prod.snd x).7, AVal.int .u64 (Prod.snd x).8, AVal.bool (Prod.snd x).9]), some (Entry.ints (some .u64) (Prod.snd x).3)]
theorem filln_print (sh t m : Int) (K : AVal → Heap Ob → Prop) (h : fillnVC sh t m K) : CallOk (obI tbl) Tryz.prog 24 [.int .i64 sh, .int .i64 t, .int .i64 m, .raw (.slice none 0 0)] [] K := by
  refine CallOk.trim (callOk_of (E := EZ) Tryz.checked.mixed (L := fillPn sh t m) (n := 10) (of_nf (q := fillnVC sh t m K) (by kernel_rfl) h))
end Go.Sh

namespace Go.Sh
open Go Go.Proofs
variable [Con]
theorem filln_vc (sh t m : Int) (K : AVal → Heap Ob → Prop) (ok : fillOk t m [])
    (hK : K (.tup [.ptr 0 0, .agg [.int .i64 t, .int .i64 m]]) [memC 1 (fillM sh t m []), memX (fillM sh t m [])]) : fillnVC sh t m K := by
  obtain ⟨hm, hl, hr, hk⟩ := ok
  have h00 : ((([] : List Int).length : Int) + m) = m := by simp
  rw [h00] at hr
  unfold fillnVC
  have hr2 := rightB_true.1 hr
  have hn : W (0 + m) = m := (W_in (by omega)).trans (by omega)
  have hr' : rightB t (W (0 + m)) = true := by rw [hn]; exact hr
  rw [hr']
  refine ⟨trivial, cond_go (fun e => by cases e) (fun _ => ⟨⟨by omega, by omega, by omega⟩, cond_go (fun e => ?_) (fun _ => ⟨⟨⟨by omega, by omega, by omega⟩, trivial⟩, ⟨by omega, rfl, by omega⟩, ?_, ?_⟩)⟩)⟩
  · rw [ilt_eq, decide_eq_true_eq] at e; omega
  · refine okSt_intro (H := HFn sh t m) ((0 : Nat), memN t (W (0 + m))) ?_ ⟨Nat.zero_le _, ⟨Int.le_refl 0, by show (0 : Int) ≤ _; omega⟩, rfl⟩
    simp only [HFn, memC, memX, memN, List.length_replicate]
    rfl
  · rintro ⟨h, s⟩ ⟨h4, hc, heq⟩
    simp only at h4 hc heq
    have gc1 : 0 ≤ s.c := hc.1
    refine cond_go (fun e1 => ?_) (fun e1 => ?_)
    · rw [ilt_eq, decide_eq_true_eq] at e1
      have e1 : (h : Int) < 4 := e1
      have e4' : W ((h : Int) + 1) = ((h + 1 : Nat) : Int) := (W_in (by omega)).trans rfl
      refine ⟨⟨by omega, by omega, by omega⟩, ⟨⟨by decide, by decide⟩, ⟨by decide, by decide⟩, ⟨by decide, by decide⟩, by decide, by decide⟩, ⟨rfl, gc1, by show s.c ≤ 4611686018427387904; omega⟩, okSt_intro (H := HFn sh t m) ((h + 1 : Nat), s.stored (W (0 + m) + 1 + h) (putV 0 0 false 0 0)) ?_ ⟨⟨by show h + 1 ≤ 4; omega, ⟨by show 0 ≤ s.c + 1; omega, by show s.c + 1 ≤ 1000 * ((h + 1 : Nat) : Int); omega⟩, ?_⟩, by show 4 - (h + 1) < 4 - h; omega⟩⟩
      · simp only [HFn, ← e4']
        rfl
      · have e9 : (3 - (h : Int)).toNat = 4 - (h + 1) := by omega
        refine Eq.trans heq ?_
        rw [fillTo_3 _ _ _ _ (by omega), e9]; rfl
    · rw [ilt_eq, decide_eq_false_iff_not] at e1
      have e1 : ¬ (h : Int) < 4 := e1
      have e5 : h = 4 := by omega
      subst e5
      have heq' : fillTo sh (W (0 + m)) [] 4 0 (memN t (W (0 + m))) = s := heq
      rw [hn] at heq'
      unfold fillM at hK
      rw [heq'] at hK
      rw [hn]
      exact hK
def fillSa : Spec Ob := fun args h => match args, h with
  | [.int .i64 sh, .int .i64 t, .int .i64 m, .slice 0 0 k 1], [some (.ints (some .i64) xs)] => some (.pre (k = xs.length ∧ fillOk t m xs) (.ret (.tup [.ptr 1 0, .agg [.int .i64 t, .int .i64 (xs.length + m)]]) [some (.ints (some .i64) xs), memC 2 (fillM sh t (xs.length + m) xs), memX (fillM sh t (xs.length + m) xs)]))
  | _, _ => none
def fillSb : Spec Ob := fun args h => match args, h with
  | [.int .i64 sh, .int .i64 t, .int .i64 m, .raw (.slice none 0 0)], [] => some (.pre (fillOk t m []) (.ret (.tup [.ptr 0 0, .agg [.int .i64 t, .int .i64 m]]) [memC 1 (fillM sh t m []), memX (fillM sh t m [])]))
  | _, _ => none
theorem fillA_ok : Spec.ok (obI tbl) Tryz.prog 24 fillSa := by
  intro args h o ho K hK
  unfold fillSa at ho
  split at ho
  case h_2 => cases ho
  rename_i sh t m k xs
  simp only [Option.some.injEq] at ho; subst ho
  obtain ⟨⟨rfl, ok⟩, hK⟩ := hK
  exact fill_print sh t m xs K (fill_vc sh t m xs K ok.hm ok.hl ok.hr ok.hk hK)
theorem fillB_ok : Spec.ok (obI tbl) Tryz.prog 24 fillSb := by
  intro args h o ho K hK
  unfold fillSb at ho
  split at ho
  case h_2 => cases ho
  rename_i sh t m
  simp only [Option.some.injEq] at ho; subst ho
  obtain ⟨ok, hK⟩ := hK
  exact filln_print sh t m K (filln_vc sh t m K ok hK)
noncomputable def fillS : Spec Ob := Spec.or fillSa fillSb
theorem fill_ok : Spec.ok (obI tbl) Tryz.prog 24 fillS := Spec.or_ok fillA_ok fillB_ok
noncomputable def EF1 := EZ.addS 24 fillS fill_ok
end Go.Sh

namespace Go.Sh
open Go Go.Proofs
variable [Con]
def stNewS : Spec Ob := fun args h => match args, h with
  | [.agg [.int .i64 t, .int .i64 n], .int .i64 me], [] => some (.pre True (.ret (.ptr 0 0) [stC 1 t n ⟨me, 0, []⟩, stX ⟨me, 0, []⟩]))
  | _, _ => none
theorem stNew_ok : Spec.ok (obI tbl) Tryz.prog 12 stNewS := by
  intro args h o ho K hK
  unfold stNewS at ho
  split at ho
  case h_2 => cases ho
  rename_i t n me
  simp only [Option.some.injEq] at ho; subst ho
  obtain ⟨_, hK⟩ := hK
  have hK : K (.ptr 0 0) [stC 1 t n ⟨me, 0, []⟩, stX ⟨me, 0, []⟩] := hK
  refine CallOk.trim (CallOk.castR (cs := [(.cell 1 4, .ints (some .i64))]) (callOk_of (E := EF1) Tryz.checked.mixed (L := LL) (n := 10) (of_nf (q := K (AVal.ptr 0 0) [some (Entry.cells [AVal.int .i64 t, AVal.int .i64 n, AVal.int .i64 me, AVal.int .i64 0, AVal.slice 1 0 0 1]), some (Entry.ints (some .i64) [])]) (by kernel_rfl) ?_)))
  exact hK
noncomputable def EF2 := EF1.addS 12 stNewS stNew_ok
end Go.Sh

namespace Go.Sh
open Go Go.Proofs
variable [Con]
def RK0 : RowK tbl where
  R := Empty
  row := fun x => nomatch x
  hole := fun x => nomatch x
  els := fun x => nomatch x
  len := fun x => nomatch x
  upd := fun x => nomatch x
  isRow := fun _ => none
  isHole := fun _ => none
  is := fun x => nomatch x
  get := fun x => nomatch x
  isRow_eq := fun _ x _ => nomatch x
  isHole_eq := fun _ x _ _ => nomatch x
  len_eq := fun x => nomatch x
  upd_eq := fun x => nomatch x
  is_true := fun x => nomatch x
  is_false := fun x => nomatch x
  tbRow := fun x => nomatch x
  tbHole := fun x => nomatch x
noncomputable def EF3 : Env Ob Tryz.prog := { EF2 with row := RK0.ops Tryz.prog, rowOk := RK0.ops_ok }
end Go.Sh

namespace Go.Sh
open Go Go.Proofs
variable [Con]
def aw17S : Spec Ob := fun args h => match args, h with
  | [], [] => some (.pre True (.ret (.bool true) ([])))
  | _, _ => none
def aw17VC (K : AVal → Heap Ob → Prop) : Prop := fillOk 2 3 [] ∧ anNOk 2 3 0 1 3 5 ∧ (List.length (fillM 1 2 3 []).3 = List.length (fillM 1 2 3 []).3 ∧ ((0 : Int) ≤ (9 : Int) ∧ (9 : Int) ≤ (1000000 : Int)) ∧ anROk 2 3 9 (anNF 2 3 0 1 3 5) (fillM 1 2 3 [])) ∧ bif (Prod.snd (anRN 2 3 9 (anNF 2 3 0 1 3 5) (fillM 1 2 3 []))).1 then bif !ieq (Prod.fst (Prod.snd (anRN 2 3 9 (anNF 2 3 0 1 3 5) (fillM 1 2 3 []))).2).1 1 then K (AVal.bool false) [] else True ∧ (0 = 0 ∧ hpNOk 2 3 0 (Prod.fst (Prod.snd (anRN 2 3 9 (anNF 2 3 0 1 3 5) (fillM 1 2 3 []))).2).1 2 { me := (1 : Int), sp := (0 : Int), R := [] }) ∧ ((List.length (Prod.snd (Prod.snd (anRN 2 3 9 (anNF 2 3 0 1 3 5) (fillM 1 2 3 []))).2).3 = List.length (Prod.snd (Prod.snd (anRN 2 3 9 (anNF 2 3 0 1 3 5) (fillM 1 2 3 []))).2).3 ∧ List.length (Prod.snd (hpNF 2 3 0 (Prod.fst (Prod.snd (anRN 2 3 9 (anNF 2 3 0 1 3 5) (fillM 1 2 3 []))).2).1 2 { me := (1 : Int), sp := (0 : Int), R := [] })).3 = List.length (Prod.snd (hpNF 2 3 0 (Prod.fst (Prod.snd (anRN 2 3 9 (anNF 2 3 0 1 3 5) (fillM 1 2 3 []))).2).1 2 { me := (1 : Int), sp := (0 : Int), R := [] })).3 ∧ (2 : Int) = (2 : Int) ∧ (3 : Int) = (3 : Int)) ∧ ((0 : Int) ≤ (20 : Int) ∧ (20 : Int) ≤ (1000000 : Int)) ∧ hpROk 2 3 20 (hpNF 2 3 0 (Prod.fst (Prod.snd (anRN 2 3 9 (anNF 2 3 0 1 3 5) (fillM 1 2 3 []))).2).1 2 { me := (1 : Int), sp := (0 : Int), R := [] }).1 (hpNF 2 3 0 (Prod.fst (Prod.snd (anRN 2 3 9 (anNF 2 3 0 1 3 5) (fillM 1 2 3 []))).2).1 2 { me := (1 : Int), sp := (0 : Int), R := [] }).2 (Prod.snd (anRN 2 3 9 (anNF 2 3 0 1 3 5) (fillM 1 2 3 []))).2.2) ∧ bif (Prod.snd (hpRN 2 3 20 (hpNF 2 3 0 (Prod.fst (Prod.snd (anRN 2 3 9 (anNF 2 3 0 1 3 5) (fillM 1 2 3 []))).2).1 2 { me := (1 : Int), sp := (0 : Int), R := [] }).1 (hpNF 2 3 0 (Prod.fst (Prod.snd (anRN 2 3 9 (anNF 2 3 0 1 3 5) (fillM 1 2 3 []))).2).1 2 { me := (1 : Int), sp := (0 : Int), R := [] }).2 (Prod.snd (anRN 2 3 9 (anNF 2 3 0 1 3 5) (fillM 1 2 3 []))).2.2)).1 then bif ieq (↑(hpRN 2 3 20 (hpNF 2 3 0 (Prod.fst (Prod.snd (anRN 2 3 9 (anNF 2 3 0 1 3 5) (fillM 1 2 3 []))).2).1 2 { me := (1 : Int), sp := (0 : Int), R := [] }).1 (hpNF 2 3 0 (Prod.fst (Prod.snd (anRN 2 3 9 (anNF 2 3 0 1 3 5) (fillM 1 2 3 []))).2).1 2 { me := (1 : Int), sp := (0 : Int), R := [] }).2 (Prod.snd (anRN 2 3 9 (anNF 2 3 0 1 3 5) (fillM 1 2 3 []))).2.2).1 : Int) 6 then bif ieq (Prod.fst (Prod.snd (hpRN 2 3 20 (hpNF 2 3 0 (Prod.fst (Prod.snd (anRN 2 3 9 (anNF 2 3 0 1 3 5) (fillM 1 2 3 []))).2).1 2 { me := (1 : Int), sp := (0 : Int), R := [] }).1 (hpNF 2 3 0 (Prod.fst (Prod.snd (anRN 2 3 9 (anNF 2 3 0 1 3 5) (fillM 1 2 3 []))).2).1 2 { me := (1 : Int), sp := (0 : Int), R := [] }).2 (Prod.snd (anRN 2 3 9 (anNF 2 3 0 1 3 5) (fillM 1 2 3 []))).2.2)).2).3 2 then (((0 : Int) ≤ (2 : Int) ∧ (2 : Int) ≤ (100000 : Int)) ∧ ((0 : Int) ≤ (3 : Int) ∧ (3 : Int) ≤ (100000 : Int)) ∧ (-1099511627776 : Int) ≤ (0 : Int) ∧ (0 : Int) ≤ (1099511627776 : Int)) ∧ (List.length (Prod.snd (Prod.snd (hpRN 2 3 20 (hpNF 2 3 0 (Prod.fst (Prod.snd (anRN 2 3 9 (anNF 2 3 0 1 3 5) (fillM 1 2 3 []))).2).1 2 { me := (1 : Int), sp := (0 : Int), R := [] }).1 (hpNF 2 3 0 (Prod.fst (Prod.snd (anRN 2 3 9 (anNF 2 3 0 1 3 5) (fillM 1 2 3 []))).2).1 2 { me := (1 : Int), sp := (0 : Int), R := [] }).2 (Prod.snd (anRN 2 3 9 (anNF 2 3 0 1 3 5) (fillM 1 2 3 []))).2.2).2).2).3 = List.length (Prod.snd (Prod.snd (hpRN 2 3 20 (hpNF 2 3 0 (Prod.fst (Prod.snd (anRN 2 3 9 (anNF 2 3 0 1 3 5) (fillM 1 2 3 []))).2).1 2 { me := (1 : Int), sp := (0 : Int), R := [] }).1 (hpNF 2 3 0 (Prod.fst (Prod.snd (anRN 2 3 9 (anNF 2 3 0 1 3 5) (fillM 1 2 3 []))).2).1 2 { me := (1 : Int), sp := (0 : Int), R := [] }).2 (Prod.snd (anRN 2 3 9 (anNF 2 3 0 1 3 5) (fillM 1 2 3 []))).2.2).2).2).3 ∧ True) ∧ True ∧ K (AVal.bool (bif ieq (cutI (peek (Prod.snd (Prod.snd (hpRN 2 3 20 (hpNF 2 3 0 (Prod.fst (Prod.snd (anRN 2 3 9 (anNF 2 3 0 1 3 5) (fillM 1 2 3 []))).2).1 2 { me := (1 : Int), sp := (0 : Int), R := [] }).1 (hpNF 2 3 0 (Prod.fst (Prod.snd (anRN 2 3 9 (anNF 2 3 0 1 3 5) (fillM 1 2 3 []))).2).1 2 { me := (1 : Int), sp := (0 : Int), R := [] }).2 (Prod.snd (anRN 2 3 9 (anNF 2 3 0 1 3 5) (fillM 1 2 3 []))).2.2).2).2).3 (2 * 3 + 5 + 2 * 2 + 3 * 0 + 2)) 0 12) 1 then bif ieq (cutI (peek (Prod.snd (Prod.snd (hpRN 2 3 20 (hpNF 2 3 0 (Prod.fst (Prod.snd (anRN 2 3 9 (anNF 2 3 0 1 3 5) (fillM 1 2 3 []))).2).1 2 { me := (1 : Int), sp := (0 : Int), R := [] }).1 (hpNF 2 3 0 (Prod.fst (Prod.snd (anRN 2 3 9 (anNF 2 3 0 1 3 5) (fillM 1 2 3 []))).2).1 2 { me := (1 : Int), sp := (0 : Int), R := [] }).2 (Prod.snd (anRN 2 3 9 (anNF 2 3 0 1 3 5) (fillM 1 2 3 []))).2.2).2).2).3 (2 * 3 + 5 + 2 * 2 + 3 * 0 + 2)) 12 9) 0 then bif ieq (cutI (peek (Prod.snd (Prod.snd (hpRN 2 3 20 (hpNF 2 3 0 (Prod.fst (Prod.snd (anRN 2 3 9 (anNF 2 3 0 1 3 5) (fillM 1 2 3 []))).2).1 2 { me := (1 : Int), sp := (0 : Int), R := [] }).1 (hpNF 2 3 0 (Prod.fst (Prod.snd (anRN 2 3 9 (anNF 2 3 0 1 3 5) (fillM 1 2 3 []))).2).1 2 { me := (1 : Int), sp := (0 : Int), R := [] }).2 (Prod.snd (anRN 2 3 9 (anNF 2 3 0 1 3 5) (fillM 1 2 3 []))).2.2).2).2).3 (2 * 3 + 5 + 2 * 2 + 3 * 0 + 2)) 21 18) 0 then bif ieq (cutI (peek (Prod.snd (Prod.snd (hpRN 2 3 20 (hpNF 2 3 0 (Prod.fst (Prod.snd (anRN 2 3 9 (anNF 2 3 0 1 3 5) (fillM 1 2 3 []))).2).1 2 { me := (1 : Int), sp := (0 : Int), R := [] }).1 (hpNF 2 3 0 (Prod.fst (Prod.snd (anRN 2 3 9 (anNF 2 3 0 1 3 5) (fillM 1 2 3 []))).2).1 2 { me := (1 : Int), sp := (0 : Int), R := [] }).2 (Prod.snd (anRN 2 3 9 (anNF 2 3 0 1 3 5) (fillM 1 2 3 []))).2.2).2).2).3 (2 * 3 + 5 + 2 * 2 + 3 * 0 + 2)) 39 9) 0 then bif !ieq (cutI (peek (Prod.snd (Prod.snd (hpRN 2 3 20 (hpNF 2 3 0 (Prod.fst (Prod.snd (anRN 2 3 9 (anNF 2 3 0 1 3 5) (fillM 1 2 3 []))).2).1 2 { me := (1 : Int), sp := (0 : Int), R := [] }).1 (hpNF 2 3 0 (Prod.fst (Prod.snd (anRN 2 3 9 (anNF 2 3 0 1 3 5) (fillM 1 2 3 []))).2).1 2 { me := (1 : Int), sp := (0 : Int), R := [] }).2 (Prod.snd (anRN 2 3 9 (anNF 2 3 0 1 3 5) (fillM 1 2 3 []))).2.2).2).2).3 (2 * 3 + 5 + 2 * 2 + 3 * 0 + 2)) 48 1) 1 then bif ieq (cutI (peek (Prod.snd (Prod.snd (hpRN 2 3 20 (hpNF 2 3 0 (Prod.fst (Prod.snd (anRN 2 3 9 (anNF 2 3 0 1 3 5) (fillM 1 2 3 []))).2).1 2 { me := (1 : Int), sp := (0 : Int), R := [] }).1 (hpNF 2 3 0 (Prod.fst (Prod.snd (anRN 2 3 9 (anNF 2 3 0 1 3 5) (fillM 1 2 3 []))).2).1 2 { me := (1 : Int), sp := (0 : Int), R := [] }).2 (Prod.snd (anRN 2 3 9 (anNF 2 3 0 1 3 5) (fillM 1 2 3 []))).2.2).2).2).3 (2 * 3 + 5 + 2 * 2 + 3 * 0 + 2)) 49 3) 5 then bif ieq (cutI (peek (Prod.snd (Prod.snd (hpRN 2 3 20 (hpNF 2 3 0 (Prod.fst (Prod.snd (anRN 2 3 9 (anNF 2 3 0 1 3 5) (fillM 1 2 3 []))).2).1 2 { me := (1 : Int), sp := (0 : Int), R := [] }).1 (hpNF 2 3 0 (Prod.fst (Prod.snd (anRN 2 3 9 (anNF 2 3 0 1 3 5) (fillM 1 2 3 []))).2).1 2 { me := (1 : Int), sp := (0 : Int), R := [] }).2 (Prod.snd (anRN 2 3 9 (anNF 2 3 0 1 3 5) (fillM 1 2 3 []))).2.2).2).2).3 (2 * 3 + 5 + 2 * 2 + 3 * 0 + 2)) 52 10) 0 then true else false else false else false else false else false else false else false)) [] else K (AVal.bool false) [] else K (AVal.bool false) [] else bif ieq (↑(hpRN 2 3 20 (hpNF 2 3 0 (Prod.fst (Prod.snd (anRN 2 3 9 (anNF 2 3 0 1 3 5) (fillM 1 2 3 []))).2).1 2 { me := (1 : Int), sp := (0 : Int), R := [] }).1 (hpNF 2 3 0 (Prod.fst (Prod.snd (anRN 2 3 9 (anNF 2 3 0 1 3 5) (fillM 1 2 3 []))).2).1 2 { me := (1 : Int), sp := (0 : Int), R := [] }).2 (Prod.snd (anRN 2 3 9 (anNF 2 3 0 1 3 5) (fillM 1 2 3 []))).2.2).1 : Int) 6 then K (AVal.bool false) [] else K (AVal.bool false) [] else K (AVal.bool false) []
theorem aw17_print (K : AVal → Heap Ob → Prop) (h : aw17VC K) : CallOk (obI tbl) Tryz.prog 6 [] [] K := by
  refine CallOk.trim (callOk_of (E := EF3) Tryz.checked.mixed (L := LL) (n := 10) (of_nf (q := aw17VC K) (by kernel_rfl) h))
end Go.Sh

namespace Go.Sh
open Go Go.Proofs
variable [Con]
theorem aw17_vc (K : AVal → Heap Ob → Prop) (hK : K (.bool true) []) : aw17VC K := by
  unfold aw17VC
  refine ⟨⟨by decide, by decide, by kernel_rfl, fun k hk => by cases hk⟩, ?_⟩
  with_unfolding_all repeat' (first | exact hK | trivial | decide | apply And.intro | intro _)
theorem aw17_ok : Spec.ok (obI tbl) Tryz.prog 6 aw17S := by
  intro args h o ho K hK
  unfold aw17S at ho
  split at ho
  case h_2 => cases ho
  simp only [Option.some.injEq] at ho; subst ho
  obtain ⟨_, hK⟩ := hK
  exact aw17_print K (aw17_vc K hK)
noncomputable def EF4 := EF3.addS 6 aw17S aw17_ok
end Go.Sh

namespace Go.Sh
open Go Go.Proofs
variable [Con]
def rI : AVal → Int
  | .int _ n => n
  | _ => 0
def rK (row : Nat → List AVal) (i : Nat) : Int := rI ((row i).getD 0 .top)
def rY (row : Nat → List AVal) (i : Nat) : Int := rI ((row i).getD 1 .top)
structure opsRow (row : Nat → List AVal) : Prop where
  h : row = fun i => [.int .i64 (rK row i), .int .i64 (rY row i)]
def rightL (k : Int) (m : Nat) (f g : Nat → Int) : Bool := (List.range m).all fun j => rightT k (f j) (g j)
theorem rightL_iff {k : Int} {m : Nat} {f g : Nat → Int} : rightL k m f g = true ↔ ∀ j, j < m → rightT k (f j) (g j) = true := by
  unfold rightL; simp
def HRI (k : Int) (m : Nat) (f g : Nat → Int) : Hint Ob := { X := Nat, st := fun x => ([.int .i64 k, .top, .top, .top, .top, .top, .top, .view m 2 (fun i => [.int .i64 (f i), .int .i64 (g i)]), .int .i64 (m : Int), .int .i64 (x : Int)] ++ List.replicate 8 .top, []), ok := fun x => x ≤ m ∧ ∀ j, j < x → rightT k (f j) (g j) = true, mu := fun x => m - x, keep := [0, 7, 8, 9] }
def riVC (k : Int) (m : Nat) (f g : Nat → Int) (K : AVal → Heap Ob → Prop) : Prop := okSt (HRI k m f g) (Hint.ok (HRI k m f g)) [AVal.int .i64 k, AVal.top, AVal.top, AVal.top, AVal.top, AVal.top, AVal.top, AVal.view m 2 fun i => [AVal.int .i64 (f i), AVal.int .i64 (g i)], AVal.int .i64 (↑m : Int), AVal.int .i64 0, AVal.top, AVal.top, AVal.top, AVal.top, AVal.top, AVal.top, AVal.top, AVal.top] [] ∧ ∀ (x : Nat), (x ≤ m ∧ ∀ (j : Nat), j < x → rightT k (f j) (g j) = true) → bif ilt (↑x : Int) (↑m : Int) then ((0 : Int) ≤ (↑x : Int) ∧ (↑x : Int) < (↑m : Int)) ∧ True ∧ bif !rightT k (f (Int.toNat (↑x : Int))) (g (Int.toNat (↑x : Int))) then K (AVal.bool false) [] else okSt (HRI k m f g) (fun x' => Hint.ok (HRI k m f g) x' ∧ Hint.mu (HRI k m f g) x' < Hint.mu (HRI k m f g) x) [AVal.int .i64 k, AVal.top, AVal.top, AVal.top, AVal.top, AVal.top, AVal.top, AVal.view m 2 fun i => [AVal.int .i64 (f i), AVal.int .i64 (g i)], AVal.int .i64 (↑m : Int), AVal.int .i64 (W ((↑x : Int) + 1)), AVal.top, AVal.top, AVal.top, AVal.top, AVal.top, AVal.top, AVal.top, AVal.top] [] else K (AVal.bool true) []
theorem ri_print (k : Int) (m : Nat) (f g : Nat → Int) (K : AVal → Heap Ob → Prop) (h : riVC k m f g K) : CallOk (obI tbl) Tryz.prog 7 [.int .i64 k, .view m 2 (fun i => [.int .i64 (f i), .int .i64 (g i)])] [] K := by
  refine CallOk.trim (callOk_of (E := EF4) Tryz.checked.mixed (L := fun _ _ => some (.states (HRI k m f g))) (n := 10) (of_nf (q := riVC k m f g K) (by kernel_rfl) h))
end Go.Sh

namespace Go.Sh
open Go Go.Proofs
variable [Con]
theorem ri_vc (k : Int) (m : Nat) (f g : Nat → Int) (K : AVal → Heap Ob → Prop) (hm : m ≤ 4611686018427387904) (hK : K (.bool (rightL k m f g)) []) : riVC k m f g K := by
  refine ⟨okSt_intro (H := HRI k m f g) (0 : Nat) rfl ⟨Nat.zero_le _, fun j hj => by omega⟩, ?_⟩
  rintro x ⟨hx, hj⟩
  refine cond_go (fun e => ?_) (fun e => ?_)
  · rw [ilt_eq, decide_eq_true_eq] at e
    refine ⟨⟨by omega, by omega⟩, trivial, cond_go (fun e2 => ?_) (fun e2 => ?_)⟩
    · have hf : rightL k m f g = false := by
        cases h : rightL k m f g with
        | false => rfl
        | true =>
          have := rightL_iff.1 h x (by omega)
          rw [Int.toNat_natCast] at e2
          rw [this] at e2; cases e2
      rw [hf] at hK; exact hK
    · have e4 : W ((x : Int) + 1) = ((x + 1 : Nat) : Int) := by rw [W, W_in (by omega)]; rfl
      refine okSt_intro (H := HRI k m f g) (x + 1 : Nat) (by simp only [e4]; rfl) ⟨⟨by show x + 1 ≤ m; omega, ?_⟩, by show m - (x + 1) < m - x; omega⟩
      intro j hj2
      by_cases hjx : j = x
      · subst hjx
        rw [Int.toNat_natCast] at e2
        simpa using e2
      · exact hj j (by omega)
  · rw [ilt_eq, decide_eq_false_iff_not] at e
    have ht : rightL k m f g = true := rightL_iff.2 fun j hj3 => hj j (by omega)
    rw [ht] at hK; exact hK
def riS : Spec Ob := fun args h => match args, h with
  | [.int .i64 k, .view m 2 row], [] => some (.pre (m ≤ 4611686018427387904 ∧ opsRow row) (.ret (.bool (rightL k m (rK row) (rY row))) []))
  | _, _ => none
theorem ri_ok : Spec.ok (obI tbl) Tryz.prog 7 riS := by
  intro args h o ho K hK
  unfold riS at ho
  split at ho
  case h_2 => cases ho
  rename_i k m row
  simp only [Option.some.injEq] at ho; subst ho
  obtain ⟨⟨hm, ⟨hr⟩⟩, hK⟩ := hK
  have hK : K (.bool (rightL k m (rK row) (rY row))) [] := hK
  rw [hr]
  exact ri_print k m (rK row) (rY row) K (ri_vc k m (rK row) (rY row) K hm hK)
noncomputable def EF5 := EF4.addS 7 riS ri_ok
end Go.Sh

namespace Go.Sh
open Go Go.Proofs
variable [Con]
def hoVC (sh : Int) (m : Nat) (f g : Nat → Int) (oth : Int) (K : AVal → Heap Ob → Prop) : Prop := True ∧ (4 : Int) ≠ (0 : Int) ∧ bif ieq (↑m : Int) 0 then K (AVal.bool true) [] else bif ilt 13 (↑m : Int) then K (AVal.bool true) [] else (m ≤ (4611686018427387904 : Nat) ∧ opsRow fun i => [AVal.int .i64 (f i), AVal.int .i64 (g i)]) ∧ bif !rightL (W (1 + Int.tmod (W sh) 4)) m (rK fun i => [AVal.int .i64 (f i), AVal.int .i64 (g i)]) (rY fun i => [AVal.int .i64 (f i), AVal.int .i64 (g i)]) then K (AVal.bool true) [] else ((0 : Int) ≤ (0 : Int) ∧ (0 : Int) < (↑m : Int)) ∧ fillOk 2 4 [] ∧ anNOk 2 4 0 (W (1 + Int.tmod (W sh) 4)) (f (Int.toNat 0)) (g (Int.toNat 0)) ∧ (List.length (fillM (W (1 + Int.tmod (W sh) 4)) 2 4 []).3 = List.length (fillM (W (1 + Int.tmod (W sh) 4)) 2 4 []).3 ∧ ((0 : Int) ≤ (9 : Int) ∧ (9 : Int) ≤ (1000000 : Int)) ∧ anROk 2 4 9 (anNF 2 4 0 (W (1 + Int.tmod (W sh) 4)) (f (Int.toNat 0)) (g (Int.toNat 0))) (fillM (W (1 + Int.tmod (W sh) 4)) 2 4 [])) ∧ bif (Prod.snd (anRN 2 4 9 (anNF 2 4 0 (W (1 + Int.tmod (W sh) 4)) (f (Int.toNat 0)) (g (Int.toNat 0))) (fillM (W (1 + Int.tmod (W sh) 4)) 2 4 []))).1 then bif !ieq (Prod.fst (Prod.snd (anRN 2 4 9 (anNF 2 4 0 (W (1 + Int.tmod (W sh) 4)) (f (Int.toNat 0)) (g (Int.toNat 0))) (fillM (W (1 + Int.tmod (W sh) 4)) 2 4 []))).2).1 1 then K (AVal.bool false) [] else (List.length (Prod.snd (Prod.snd (anRN 2 4 9 (anNF 2 4 0 (W (1 + Int.tmod (W sh) 4)) (f (Int.toNat 0)) (g (Int.toNat 0))) (fillM (W (1 + Int.tmod (W sh) 4)) 2 4 []))).2).3 = List.length (Prod.snd (Prod.snd (anRN 2 4 9 (anNF 2 4 0 (W (1 + Int.tmod (W sh) 4)) (f (Int.toNat 0)) (g (Int.toNat 0))) (fillM (W (1 + Int.tmod (W sh) 4)) 2 4 []))).2).3 ∧ List.length (Prod.snd (Prod.snd (anRN 2 4 9 (anNF 2 4 0 (W (1 + Int.tmod (W sh) 4)) (f (Int.toNat 0)) (g (Int.toNat 0))) (fillM (W (1 + Int.tmod (W sh) 4)) 2 4 []))).2).3 ≤ (4294967296 : Nat)) ∧ True ∧ (0 = 0 ∧ hpNOk 2 4 0 (WU (WU ((Prod.fst (Prod.snd (anRN 2 4 9 (anNF 2 4 0 (W (1 + Int.tmod (W sh) 4)) (f (Int.toNat 0)) (g (Int.toNat 0))) (fillM (W (1 + Int.tmod (W sh) 4)) 2 4 []))).2).1 + 1) + WU oth)) 3 { me := (1 : Int), sp := (0 : Int), R := [] }) ∧ ((List.length (Prod.snd (Prod.snd (anRN 2 4 9 (anNF 2 4 0 (W (1 + Int.tmod (W sh) 4)) (f (Int.toNat 0)) (g (Int.toNat 0))) (fillM (W (1 + Int.tmod (W sh) 4)) 2 4 []))).2).3 = List.length (Prod.snd (Prod.snd (anRN 2 4 9 (anNF 2 4 0 (W (1 + Int.tmod (W sh) 4)) (f (Int.toNat 0)) (g (Int.toNat 0))) (fillM (W (1 + Int.tmod (W sh) 4)) 2 4 []))).2).3 ∧ List.length (Prod.snd (hpNF 2 4 0 (WU (WU ((Prod.fst (Prod.snd (anRN 2 4 9 (anNF 2 4 0 (W (1 + Int.tmod (W sh) 4)) (f (Int.toNat 0)) (g (Int.toNat 0))) (fillM (W (1 + Int.tmod (W sh) 4)) 2 4 []))).2).1 + 1) + WU oth)) 3 { me := (1 : Int), sp := (0 : Int), R := [] })).3 = List.length (Prod.snd (hpNF 2 4 0 (WU (WU ((Prod.fst (Prod.snd (anRN 2 4 9 (anNF 2 4 0 (W (1 + Int.tmod (W sh) 4)) (f (Int.toNat 0)) (g (Int.toNat 0))) (fillM (W (1 + Int.tmod (W sh) 4)) 2 4 []))).2).1 + 1) + WU oth)) 3 { me := (1 : Int), sp := (0 : Int), R := [] })).3 ∧ (2 : Int) = (2 : Int) ∧ (4 : Int) = (4 : Int)) ∧ ((0 : Int) ≤ (9 : Int) ∧ (9 : Int) ≤ (1000000 : Int)) ∧ hpROk 2 4 9 (hpNF 2 4 0 (WU (WU ((Prod.fst (Prod.snd (anRN 2 4 9 (anNF 2 4 0 (W (1 + Int.tmod (W sh) 4)) (f (Int.toNat 0)) (g (Int.toNat 0))) (fillM (W (1 + Int.tmod (W sh) 4)) 2 4 []))).2).1 + 1) + WU oth)) 3 { me := (1 : Int), sp := (0 : Int), R := [] }).1 (hpNF 2 4 0 (WU (WU ((Prod.fst (Prod.snd (anRN 2 4 9 (anNF 2 4 0 (W (1 + Int.tmod (W sh) 4)) (f (Int.toNat 0)) (g (Int.toNat 0))) (fillM (W (1 + Int.tmod (W sh) 4)) 2 4 []))).2).1 + 1) + WU oth)) 3 { me := (1 : Int), sp := (0 : Int), R := [] }).2 (Prod.snd (anRN 2 4 9 (anNF 2 4 0 (W (1 + Int.tmod (W sh) 4)) (f (Int.toNat 0)) (g (Int.toNat 0))) (fillM (W (1 + Int.tmod (W sh) 4)) 2 4 []))).2.2) ∧ bif (Prod.snd (hpRN 2 4 9 (hpNF 2 4 0 (WU (WU ((Prod.fst (Prod.snd (anRN 2 4 9 (anNF 2 4 0 (W (1 + Int.tmod (W sh) 4)) (f (Int.toNat 0)) (g (Int.toNat 0))) (fillM (W (1 + Int.tmod (W sh) 4)) 2 4 []))).2).1 + 1) + WU oth)) 3 { me := (1 : Int), sp := (0 : Int), R := [] }).1 (hpNF 2 4 0 (WU (WU ((Prod.fst (Prod.snd (anRN 2 4 9 (anNF 2 4 0 (W (1 + Int.tmod (W sh) 4)) (f (Int.toNat 0)) (g (Int.toNat 0))) (fillM (W (1 + Int.tmod (W sh) 4)) 2 4 []))).2).1 + 1) + WU oth)) 3 { me := (1 : Int), sp := (0 : Int), R := [] }).2 (Prod.snd (anRN 2 4 9 (anNF 2 4 0 (W (1 + Int.tmod (W sh) 4)) (f (Int.toNat 0)) (g (Int.toNat 0))) (fillM (W (1 + Int.tmod (W sh) 4)) 2 4 []))).2.2)).1 then bif !ieq (↑(hpRN 2 4 9 (hpNF 2 4 0 (WU (WU ((Prod.fst (Prod.snd (anRN 2 4 9 (anNF 2 4 0 (W (1 + Int.tmod (W sh) 4)) (f (Int.toNat 0)) (g (Int.toNat 0))) (fillM (W (1 + Int.tmod (W sh) 4)) 2 4 []))).2).1 + 1) + WU oth)) 3 { me := (1 : Int), sp := (0 : Int), R := [] }).1 (hpNF 2 4 0 (WU (WU ((Prod.fst (Prod.snd (anRN 2 4 9 (anNF 2 4 0 (W (1 + Int.tmod (W sh) 4)) (f (Int.toNat 0)) (g (Int.toNat 0))) (fillM (W (1 + Int.tmod (W sh) 4)) 2 4 []))).2).1 + 1) + WU oth)) 3 { me := (1 : Int), sp := (0 : Int), R := [] }).2 (Prod.snd (anRN 2 4 9 (anNF 2 4 0 (W (1 + Int.tmod (W sh) 4)) (f (Int.toNat 0)) (g (Int.toNat 0))) (fillM (W (1 + Int.tmod (W sh) 4)) 2 4 []))).2.2).1 : Int) 2 then K (AVal.bool false) [] else bif bif ieq (Prod.snd (Prod.snd (hpRN 2 4 9 (hpNF 2 4 0 (WU (WU ((Prod.fst (Prod.snd (anRN 2 4 9 (anNF 2 4 0 (W (1 + Int.tmod (W sh) 4)) (f (Int.toNat 0)) (g (Int.toNat 0))) (fillM (W (1 + Int.tmod (W sh) 4)) 2 4 []))).2).1 + 1) + WU oth)) 3 { me := (1 : Int), sp := (0 : Int), R := [] }).1 (hpNF 2 4 0 (WU (WU ((Prod.fst (Prod.snd (anRN 2 4 9 (anNF 2 4 0 (W (1 + Int.tmod (W sh) 4)) (f (Int.toNat 0)) (g (Int.toNat 0))) (fillM (W (1 + Int.tmod (W sh) 4)) 2 4 []))).2).1 + 1) + WU oth)) 3 { me := (1 : Int), sp := (0 : Int), R := [] }).2 (Prod.snd (anRN 2 4 9 (anNF 2 4 0 (W (1 + Int.tmod (W sh) 4)) (f (Int.toNat 0)) (g (Int.toNat 0))) (fillM (W (1 + Int.tmod (W sh) 4)) 2 4 []))).2.2).2).2).1 (Prod.snd (Prod.snd (anRN 2 4 9 (anNF 2 4 0 (W (1 + Int.tmod (W sh) 4)) (f (Int.toNat 0)) (g (Int.toNat 0))) (fillM (W (1 + Int.tmod (W sh) 4)) 2 4 []))).2).1 then bif ieq (Prod.snd (Prod.snd (hpRN 2 4 9 (hpNF 2 4 0 (WU (WU ((Prod.fst (Prod.snd (anRN 2 4 9 (anNF 2 4 0 (W (1 + Int.tmod (W sh) 4)) (f (Int.toNat 0)) (g (Int.toNat 0))) (fillM (W (1 + Int.tmod (W sh) 4)) 2 4 []))).2).1 + 1) + WU oth)) 3 { me := (1 : Int), sp := (0 : Int), R := [] }).1 (hpNF 2 4 0 (WU (WU ((Prod.fst (Prod.snd (anRN 2 4 9 (anNF 2 4 0 (W (1 + Int.tmod (W sh) 4)) (f (Int.toNat 0)) (g (Int.toNat 0))) (fillM (W (1 + Int.tmod (W sh) 4)) 2 4 []))).2).1 + 1) + WU oth)) 3 { me := (1 : Int), sp := (0 : Int), R := [] }).2 (Prod.snd (anRN 2 4 9 (anNF 2 4 0 (W (1 + Int.tmod (W sh) 4)) (f (Int.toNat 0)) (g (Int.toNat 0))) (fillM (W (1 + Int.tmod (W sh) 4)) 2 4 []))).2.2).2).2).2 (Prod.snd (Prod.snd (anRN 2 4 9 (anNF 2 4 0 (W (1 + Int.tmod (W sh) 4)) (f (Int.toNat 0)) (g (Int.toNat 0))) (fillM (W (1 + Int.tmod (W sh) 4)) 2 4 []))).2).2 then true else false else false then (((List.length (Prod.snd (Prod.snd (hpRN 2 4 9 (hpNF 2 4 0 (WU (WU ((Prod.fst (Prod.snd (anRN 2 4 9 (anNF 2 4 0 (W (1 + Int.tmod (W sh) 4)) (f (Int.toNat 0)) (g (Int.toNat 0))) (fillM (W (1 + Int.tmod (W sh) 4)) 2 4 []))).2).1 + 1) + WU oth)) 3 { me := (1 : Int), sp := (0 : Int), R := [] }).1 (hpNF 2 4 0 (WU (WU ((Prod.fst (Prod.snd (anRN 2 4 9 (anNF 2 4 0 (W (1 + Int.tmod (W sh) 4)) (f (Int.toNat 0)) (g (Int.toNat 0))) (fillM (W (1 + Int.tmod (W sh) 4)) 2 4 []))).2).1 + 1) + WU oth)) 3 { me := (1 : Int), sp := (0 : Int), R := [] }).2 (Prod.snd (anRN 2 4 9 (anNF 2 4 0 (W (1 + Int.tmod (W sh) 4)) (f (Int.toNat 0)) (g (Int.toNat 0))) (fillM (W (1 + Int.tmod (W sh) 4)) 2 4 []))).2.2).2).2).3 = List.length (Prod.snd (Prod.snd (hpRN 2 4 9 (hpNF 2 4 0 (WU (WU ((Prod.fst (Prod.snd (anRN 2 4 9 (anNF 2 4 0 (W (1 + Int.tmod (W sh) 4)) (f (Int.toNat 0)) (g (Int.toNat 0))) (fillM (W (1 + Int.tmod (W sh) 4)) 2 4 []))).2).1 + 1) + WU oth)) 3 { me := (1 : Int), sp := (0 : Int), R := [] }).1 (hpNF 2 4 0 (WU (WU ((Prod.fst (Prod.snd (anRN 2 4 9 (anNF 2 4 0 (W (1 + Int.tmod (W sh) 4)) (f (Int.toNat 0)) (g (Int.toNat 0))) (fillM (W (1 + Int.tmod (W sh) 4)) 2 4 []))).2).1 + 1) + WU oth)) 3 { me := (1 : Int), sp := (0 : Int), R := [] }).2 (Prod.snd (anRN 2 4 9 (anNF 2 4 0 (W (1 + Int.tmod (W sh) 4)) (f (Int.toNat 0)) (g (Int.toNat 0))) (fillM (W (1 + Int.tmod (W sh) 4)) 2 4 []))).2.2).2).2).3 ∧ List.length (Prod.snd (Prod.snd (anRN 2 4 9 (anNF 2 4 0 (W (1 + Int.tmod (W sh) 4)) (f (Int.toNat 0)) (g (Int.toNat 0))) (fillM (W (1 + Int.tmod (W sh) 4)) 2 4 []))).2).3 = List.length (Prod.snd (Prod.snd (anRN 2 4 9 (anNF 2 4 0 (W (1 + Int.tmod (W sh) 4)) (f (Int.toNat 0)) (g (Int.toNat 0))) (fillM (W (1 + Int.tmod (W sh) 4)) 2 4 []))).2).3) ∧ List.length (Prod.snd (Prod.snd (hpRN 2 4 9 (hpNF 2 4 0 (WU (WU ((Prod.fst (Prod.snd (anRN 2 4 9 (anNF 2 4 0 (W (1 + Int.tmod (W sh) 4)) (f (Int.toNat 0)) (g (Int.toNat 0))) (fillM (W (1 + Int.tmod (W sh) 4)) 2 4 []))).2).1 + 1) + WU oth)) 3 { me := (1 : Int), sp := (0 : Int), R := [] }).1 (hpNF 2 4 0 (WU (WU ((Prod.fst (Prod.snd (anRN 2 4 9 (anNF 2 4 0 (W (1 + Int.tmod (W sh) 4)) (f (Int.toNat 0)) (g (Int.toNat 0))) (fillM (W (1 + Int.tmod (W sh) 4)) 2 4 []))).2).1 + 1) + WU oth)) 3 { me := (1 : Int), sp := (0 : Int), R := [] }).2 (Prod.snd (anRN 2 4 9 (anNF 2 4 0 (W (1 + Int.tmod (W sh) 4)) (f (Int.toNat 0)) (g (Int.toNat 0))) (fillM (W (1 + Int.tmod (W sh) 4)) 2 4 []))).2.2).2).2).3 ≤ (4294967296 : Nat)) ∧ True) ∧ bif !sameB (Prod.snd (Prod.snd (hpRN 2 4 9 (hpNF 2 4 0 (WU (WU ((Prod.fst (Prod.snd (anRN 2 4 9 (anNF 2 4 0 (W (1 + Int.tmod (W sh) 4)) (f (Int.toNat 0)) (g (Int.toNat 0))) (fillM (W (1 + Int.tmod (W sh) 4)) 2 4 []))).2).1 + 1) + WU oth)) 3 { me := (1 : Int), sp := (0 : Int), R := [] }).1 (hpNF 2 4 0 (WU (WU ((Prod.fst (Prod.snd (anRN 2 4 9 (anNF 2 4 0 (W (1 + Int.tmod (W sh) 4)) (f (Int.toNat 0)) (g (Int.toNat 0))) (fillM (W (1 + Int.tmod (W sh) 4)) 2 4 []))).2).1 + 1) + WU oth)) 3 { me := (1 : Int), sp := (0 : Int), R := [] }).2 (Prod.snd (anRN 2 4 9 (anNF 2 4 0 (W (1 + Int.tmod (W sh) 4)) (f (Int.toNat 0)) (g (Int.toNat 0))) (fillM (W (1 + Int.tmod (W sh) 4)) 2 4 []))).2.2).2).2).3 (Prod.snd (Prod.snd (anRN 2 4 9 (anNF 2 4 0 (W (1 + Int.tmod (W sh) 4)) (f (Int.toNat 0)) (g (Int.toNat 0))) (fillM (W (1 + Int.tmod (W sh) 4)) 2 4 []))).2).3 then K (AVal.bool false) [] else True ∧ (0 = 0 ∧ hpNOk 2 4 1 0 3 { me := (0 : Int), sp := (0 : Int), R := [] }) ∧ ((List.length (Prod.snd (Prod.snd (hpRN 2 4 9 (hpNF 2 4 0 (WU (WU ((Prod.fst (Prod.snd (anRN 2 4 9 (anNF 2 4 0 (W (1 + Int.tmod (W sh) 4)) (f (Int.toNat 0)) (g (Int.toNat 0))) (fillM (W (1 + Int.tmod (W sh) 4)) 2 4 []))).2).1 + 1) + WU oth)) 3 { me := (1 : Int), sp := (0 : Int), R := [] }).1 (hpNF 2 4 0 (WU (WU ((Prod.fst (Prod.snd (anRN 2 4 9 (anNF 2 4 0 (W (1 + Int.tmod (W sh) 4)) (f (Int.toNat 0)) (g (Int.toNat 0))) (fillM (W (1 + Int.tmod (W sh) 4)) 2 4 []))).2).1 + 1) + WU oth)) 3 { me := (1 : Int), sp := (0 : Int), R := [] }).2 (Prod.snd (anRN 2 4 9 (anNF 2 4 0 (W (1 + Int.tmod (W sh) 4)) (f (Int.toNat 0)) (g (Int.toNat 0))) (fillM (W (1 + Int.tmod (W sh) 4)) 2 4 []))).2.2).2).2).3 = List.length (Prod.snd (Prod.snd (hpRN 2 4 9 (hpNF 2 4 0 (WU (WU ((Prod.fst (Prod.snd (anRN 2 4 9 (anNF 2 4 0 (W (1 + Int.tmod (W sh) 4)) (f (Int.toNat 0)) (g (Int.toNat 0))) (fillM (W (1 + Int.tmod (W sh) 4)) 2 4 []))).2).1 + 1) + WU oth)) 3 { me := (1 : Int), sp := (0 : Int), R := [] }).1 (hpNF 2 4 0 (WU (WU ((Prod.fst (Prod.snd (anRN 2 4 9 (anNF 2 4 0 (W (1 + Int.tmod (W sh) 4)) (f (Int.toNat 0)) (g (Int.toNat 0))) (fillM (W (1 + Int.tmod (W sh) 4)) 2 4 []))).2).1 + 1) + WU oth)) 3 { me := (1 : Int), sp := (0 : Int), R := [] }).2 (Prod.snd (anRN 2 4 9 (anNF 2 4 0 (W (1 + Int.tmod (W sh) 4)) (f (Int.toNat 0)) (g (Int.toNat 0))) (fillM (W (1 + Int.tmod (W sh) 4)) 2 4 []))).2.2).2).2).3 ∧ List.length (Prod.snd (hpNF 2 4 1 0 3 { me := (0 : Int), sp := (0 : Int), R := [] })).3 = List.length (Prod.snd (hpNF 2 4 1 0 3 { me := (0 : Int), sp := (0 : Int), R := [] })).3 ∧ (2 : Int) = (2 : Int) ∧ (4 : Int) = (4 : Int)) ∧ ((0 : Int) ≤ (9 : Int) ∧ (9 : Int) ≤ (1000000 : Int)) ∧ hpROk 2 4 9 (hpNF 2 4 1 0 3 { me := (0 : Int), sp := (0 : Int), R := [] }).1 (hpNF 2 4 1 0 3 { me := (0 : Int), sp := (0 : Int), R := [] }).2 (Prod.snd (hpRN 2 4 9 (hpNF 2 4 0 (WU (WU ((Prod.fst (Prod.snd (anRN 2 4 9 (anNF 2 4 0 (W (1 + Int.tmod (W sh) 4)) (f (Int.toNat 0)) (g (Int.toNat 0))) (fillM (W (1 + Int.tmod (W sh) 4)) 2 4 []))).2).1 + 1) + WU oth)) 3 { me := (1 : Int), sp := (0 : Int), R := [] }).1 (hpNF 2 4 0 (WU (WU ((Prod.fst (Prod.snd (anRN 2 4 9 (anNF 2 4 0 (W (1 + Int.tmod (W sh) 4)) (f (Int.toNat 0)) (g (Int.toNat 0))) (fillM (W (1 + Int.tmod (W sh) 4)) 2 4 []))).2).1 + 1) + WU oth)) 3 { me := (1 : Int), sp := (0 : Int), R := [] }).2 (Prod.snd (anRN 2 4 9 (anNF 2 4 0 (W (1 + Int.tmod (W sh) 4)) (f (Int.toNat 0)) (g (Int.toNat 0))) (fillM (W (1 + Int.tmod (W sh) 4)) 2 4 []))).2.2).2).2.2) ∧ bif (Prod.snd (hpRN 2 4 9 (hpNF 2 4 1 0 3 { me := (0 : Int), sp := (0 : Int), R := [] }).1 (hpNF 2 4 1 0 3 { me := (0 : Int), sp := (0 : Int), R := [] }).2 (Prod.snd (hpRN 2 4 9 (hpNF 2 4 0 (WU (WU ((Prod.fst (Prod.snd (anRN 2 4 9 (anNF 2 4 0 (W (1 + Int.tmod (W sh) 4)) (f (Int.toNat 0)) (g (Int.toNat 0))) (fillM (W (1 + Int.tmod (W sh) 4)) 2 4 []))).2).1 + 1) + WU oth)) 3 { me := (1 : Int), sp := (0 : Int), R := [] }).1 (hpNF 2 4 0 (WU (WU ((Prod.fst (Prod.snd (anRN 2 4 9 (anNF 2 4 0 (W (1 + Int.tmod (W sh) 4)) (f (Int.toNat 0)) (g (Int.toNat 0))) (fillM (W (1 + Int.tmod (W sh) 4)) 2 4 []))).2).1 + 1) + WU oth)) 3 { me := (1 : Int), sp := (0 : Int), R := [] }).2 (Prod.snd (anRN 2 4 9 (anNF 2 4 0 (W (1 + Int.tmod (W sh) 4)) (f (Int.toNat 0)) (g (Int.toNat 0))) (fillM (W (1 + Int.tmod (W sh) 4)) 2 4 []))).2.2).2).2.2)).1 then bif ieq (↑(hpRN 2 4 9 (hpNF 2 4 1 0 3 { me := (0 : Int), sp := (0 : Int), R := [] }).1 (hpNF 2 4 1 0 3 { me := (0 : Int), sp := (0 : Int), R := [] }).2 (Prod.snd (hpRN 2 4 9 (hpNF 2 4 0 (WU (WU ((Prod.fst (Prod.snd (anRN 2 4 9 (anNF 2 4 0 (W (1 + Int.tmod (W sh) 4)) (f (Int.toNat 0)) (g (Int.toNat 0))) (fillM (W (1 + Int.tmod (W sh) 4)) 2 4 []))).2).1 + 1) + WU oth)) 3 { me := (1 : Int), sp := (0 : Int), R := [] }).1 (hpNF 2 4 0 (WU (WU ((Prod.fst (Prod.snd (anRN 2 4 9 (anNF 2 4 0 (W (1 + Int.tmod (W sh) 4)) (f (Int.toNat 0)) (g (Int.toNat 0))) (fillM (W (1 + Int.tmod (W sh) 4)) 2 4 []))).2).1 + 1) + WU oth)) 3 { me := (1 : Int), sp := (0 : Int), R := [] }).2 (Prod.snd (anRN 2 4 9 (anNF 2 4 0 (W (1 + Int.tmod (W sh) 4)) (f (Int.toNat 0)) (g (Int.toNat 0))) (fillM (W (1 + Int.tmod (W sh) 4)) 2 4 []))).2.2).2).2.2).1 : Int) 1 then bif bif ieq (Prod.snd (Prod.snd (hpRN 2 4 9 (hpNF 2 4 1 0 3 { me := (0 : Int), sp := (0 : Int), R := [] }).1 (hpNF 2 4 1 0 3 { me := (0 : Int), sp := (0 : Int), R := [] }).2 (Prod.snd (hpRN 2 4 9 (hpNF 2 4 0 (WU (WU ((Prod.fst (Prod.snd (anRN 2 4 9 (anNF 2 4 0 (W (1 + Int.tmod (W sh) 4)) (f (Int.toNat 0)) (g (Int.toNat 0))) (fillM (W (1 + Int.tmod (W sh) 4)) 2 4 []))).2).1 + 1) + WU oth)) 3 { me := (1 : Int), sp := (0 : Int), R := [] }).1 (hpNF 2 4 0 (WU (WU ((Prod.fst (Prod.snd (anRN 2 4 9 (anNF 2 4 0 (W (1 + Int.tmod (W sh) 4)) (f (Int.toNat 0)) (g (Int.toNat 0))) (fillM (W (1 + Int.tmod (W sh) 4)) 2 4 []))).2).1 + 1) + WU oth)) 3 { me := (1 : Int), sp := (0 : Int), R := [] }).2 (Prod.snd (anRN 2 4 9 (anNF 2 4 0 (W (1 + Int.tmod (W sh) 4)) (f (Int.toNat 0)) (g (Int.toNat 0))) (fillM (W (1 + Int.tmod (W sh) 4)) 2 4 []))).2.2).2).2.2).2).2).1 (Prod.snd (Prod.snd (anRN 2 4 9 (anNF 2 4 0 (W (1 + Int.tmod (W sh) 4)) (f (Int.toNat 0)) (g (Int.toNat 0))) (fillM (W (1 + Int.tmod (W sh) 4)) 2 4 []))).2).1 then bif ieq (Prod.snd (Prod.snd (hpRN 2 4 9 (hpNF 2 4 1 0 3 { me := (0 : Int), sp := (0 : Int), R := [] }).1 (hpNF 2 4 1 0 3 { me := (0 : Int), sp := (0 : Int), R := [] }).2 (Prod.snd (hpRN 2 4 9 (hpNF 2 4 0 (WU (WU ((Prod.fst (Prod.snd (anRN 2 4 9 (anNF 2 4 0 (W (1 + Int.tmod (W sh) 4)) (f (Int.toNat 0)) (g (Int.toNat 0))) (fillM (W (1 + Int.tmod (W sh) 4)) 2 4 []))).2).1 + 1) + WU oth)) 3 { me := (1 : Int), sp := (0 : Int), R := [] }).1 (hpNF 2 4 0 (WU (WU ((Prod.fst (Prod.snd (anRN 2 4 9 (anNF 2 4 0 (W (1 + Int.tmod (W sh) 4)) (f (Int.toNat 0)) (g (Int.toNat 0))) (fillM (W (1 + Int.tmod (W sh) 4)) 2 4 []))).2).1 + 1) + WU oth)) 3 { me := (1 : Int), sp := (0 : Int), R := [] }).2 (Prod.snd (anRN 2 4 9 (anNF 2 4 0 (W (1 + Int.tmod (W sh) 4)) (f (Int.toNat 0)) (g (Int.toNat 0))) (fillM (W (1 + Int.tmod (W sh) 4)) 2 4 []))).2.2).2).2.2).2).2).2 (Prod.snd (Prod.snd (anRN 2 4 9 (anNF 2 4 0 (W (1 + Int.tmod (W sh) 4)) (f (Int.toNat 0)) (g (Int.toNat 0))) (fillM (W (1 + Int.tmod (W sh) 4)) 2 4 []))).2).2 then true else false else false then (((List.length (Prod.snd (Prod.snd (hpRN 2 4 9 (hpNF 2 4 1 0 3 { me := (0 : Int), sp := (0 : Int), R := [] }).1 (hpNF 2 4 1 0 3 { me := (0 : Int), sp := (0 : Int), R := [] }).2 (Prod.snd (hpRN 2 4 9 (hpNF 2 4 0 (WU (WU ((Prod.fst (Prod.snd (anRN 2 4 9 (anNF 2 4 0 (W (1 + Int.tmod (W sh) 4)) (f (Int.toNat 0)) (g (Int.toNat 0))) (fillM (W (1 + Int.tmod (W sh) 4)) 2 4 []))).2).1 + 1) + WU oth)) 3 { me := (1 : Int), sp := (0 : Int), R := [] }).1 (hpNF 2 4 0 (WU (WU ((Prod.fst (Prod.snd (anRN 2 4 9 (anNF 2 4 0 (W (1 + Int.tmod (W sh) 4)) (f (Int.toNat 0)) (g (Int.toNat 0))) (fillM (W (1 + Int.tmod (W sh) 4)) 2 4 []))).2).1 + 1) + WU oth)) 3 { me := (1 : Int), sp := (0 : Int), R := [] }).2 (Prod.snd (anRN 2 4 9 (anNF 2 4 0 (W (1 + Int.tmod (W sh) 4)) (f (Int.toNat 0)) (g (Int.toNat 0))) (fillM (W (1 + Int.tmod (W sh) 4)) 2 4 []))).2.2).2).2.2).2).2).3 = List.length (Prod.snd (Prod.snd (hpRN 2 4 9 (hpNF 2 4 1 0 3 { me := (0 : Int), sp := (0 : Int), R := [] }).1 (hpNF 2 4 1 0 3 { me := (0 : Int), sp := (0 : Int), R := [] }).2 (Prod.snd (hpRN 2 4 9 (hpNF 2 4 0 (WU (WU ((Prod.fst (Prod.snd (anRN 2 4 9 (anNF 2 4 0 (W (1 + Int.tmod (W sh) 4)) (f (Int.toNat 0)) (g (Int.toNat 0))) (fillM (W (1 + Int.tmod (W sh) 4)) 2 4 []))).2).1 + 1) + WU oth)) 3 { me := (1 : Int), sp := (0 : Int), R := [] }).1 (hpNF 2 4 0 (WU (WU ((Prod.fst (Prod.snd (anRN 2 4 9 (anNF 2 4 0 (W (1 + Int.tmod (W sh) 4)) (f (Int.toNat 0)) (g (Int.toNat 0))) (fillM (W (1 + Int.tmod (W sh) 4)) 2 4 []))).2).1 + 1) + WU oth)) 3 { me := (1 : Int), sp := (0 : Int), R := [] }).2 (Prod.snd (anRN 2 4 9 (anNF 2 4 0 (W (1 + Int.tmod (W sh) 4)) (f (Int.toNat 0)) (g (Int.toNat 0))) (fillM (W (1 + Int.tmod (W sh) 4)) 2 4 []))).2.2).2).2.2).2).2).3 ∧ List.length (Prod.snd (Prod.snd (anRN 2 4 9 (anNF 2 4 0 (W (1 + Int.tmod (W sh) 4)) (f (Int.toNat 0)) (g (Int.toNat 0))) (fillM (W (1 + Int.tmod (W sh) 4)) 2 4 []))).2).3 = List.length (Prod.snd (Prod.snd (anRN 2 4 9 (anNF 2 4 0 (W (1 + Int.tmod (W sh) 4)) (f (Int.toNat 0)) (g (Int.toNat 0))) (fillM (W (1 + Int.tmod (W sh) 4)) 2 4 []))).2).3) ∧ List.length (Prod.snd (Prod.snd (hpRN 2 4 9 (hpNF 2 4 1 0 3 { me := (0 : Int), sp := (0 : Int), R := [] }).1 (hpNF 2 4 1 0 3 { me := (0 : Int), sp := (0 : Int), R := [] }).2 (Prod.snd (hpRN 2 4 9 (hpNF 2 4 0 (WU (WU ((Prod.fst (Prod.snd (anRN 2 4 9 (anNF 2 4 0 (W (1 + Int.tmod (W sh) 4)) (f (Int.toNat 0)) (g (Int.toNat 0))) (fillM (W (1 + Int.tmod (W sh) 4)) 2 4 []))).2).1 + 1) + WU oth)) 3 { me := (1 : Int), sp := (0 : Int), R := [] }).1 (hpNF 2 4 0 (WU (WU ((Prod.fst (Prod.snd (anRN 2 4 9 (anNF 2 4 0 (W (1 + Int.tmod (W sh) 4)) (f (Int.toNat 0)) (g (Int.toNat 0))) (fillM (W (1 + Int.tmod (W sh) 4)) 2 4 []))).2).1 + 1) + WU oth)) 3 { me := (1 : Int), sp := (0 : Int), R := [] }).2 (Prod.snd (anRN 2 4 9 (anNF 2 4 0 (W (1 + Int.tmod (W sh) 4)) (f (Int.toNat 0)) (g (Int.toNat 0))) (fillM (W (1 + Int.tmod (W sh) 4)) 2 4 []))).2.2).2).2.2).2).2).3 ≤ (4294967296 : Nat)) ∧ True) ∧ K (AVal.bool (sameB (Prod.snd (Prod.snd (hpRN 2 4 9 (hpNF 2 4 1 0 3 { me := (0 : Int), sp := (0 : Int), R := [] }).1 (hpNF 2 4 1 0 3 { me := (0 : Int), sp := (0 : Int), R := [] }).2 (Prod.snd (hpRN 2 4 9 (hpNF 2 4 0 (WU (WU ((Prod.fst (Prod.snd (anRN 2 4 9 (anNF 2 4 0 (W (1 + Int.tmod (W sh) 4)) (f (Int.toNat 0)) (g (Int.toNat 0))) (fillM (W (1 + Int.tmod (W sh) 4)) 2 4 []))).2).1 + 1) + WU oth)) 3 { me := (1 : Int), sp := (0 : Int), R := [] }).1 (hpNF 2 4 0 (WU (WU ((Prod.fst (Prod.snd (anRN 2 4 9 (anNF 2 4 0 (W (1 + Int.tmod (W sh) 4)) (f (Int.toNat 0)) (g (Int.toNat 0))) (fillM (W (1 + Int.tmod (W sh) 4)) 2 4 []))).2).1 + 1) + WU oth)) 3 { me := (1 : Int), sp := (0 : Int), R := [] }).2 (Prod.snd (anRN 2 4 9 (anNF 2 4 0 (W (1 + Int.tmod (W sh) 4)) (f (Int.toNat 0)) (g (Int.toNat 0))) (fillM (W (1 + Int.tmod (W sh) 4)) 2 4 []))).2.2).2).2.2).2).2).3 (Prod.snd (Prod.snd (anRN 2 4 9 (anNF 2 4 0 (W (1 + Int.tmod (W sh) 4)) (f (Int.toNat 0)) (g (Int.toNat 0))) (fillM (W (1 + Int.tmod (W sh) 4)) 2 4 []))).2).3)) [] else K (AVal.bool false) [] else K (AVal.bool false) [] else bif ieq (↑(hpRN 2 4 9 (hpNF 2 4 1 0 3 { me := (0 : Int), sp := (0 : Int), R := [] }).1 (hpNF 2 4 1 0 3 { me := (0 : Int), sp := (0 : Int), R := [] }).2 (Prod.snd (hpRN 2 4 9 (hpNF 2 4 0 (WU (WU ((Prod.fst (Prod.snd (anRN 2 4 9 (anNF 2 4 0 (W (1 + Int.tmod (W sh) 4)) (f (Int.toNat 0)) (g (Int.toNat 0))) (fillM (W (1 + Int.tmod (W sh) 4)) 2 4 []))).2).1 + 1) + WU oth)) 3 { me := (1 : Int), sp := (0 : Int), R := [] }).1 (hpNF 2 4 0 (WU (WU ((Prod.fst (Prod.snd (anRN 2 4 9 (anNF 2 4 0 (W (1 + Int.tmod (W sh) 4)) (f (Int.toNat 0)) (g (Int.toNat 0))) (fillM (W (1 + Int.tmod (W sh) 4)) 2 4 []))).2).1 + 1) + WU oth)) 3 { me := (1 : Int), sp := (0 : Int), R := [] }).2 (Prod.snd (anRN 2 4 9 (anNF 2 4 0 (W (1 + Int.tmod (W sh) 4)) (f (Int.toNat 0)) (g (Int.toNat 0))) (fillM (W (1 + Int.tmod (W sh) 4)) 2 4 []))).2.2).2).2.2).1 : Int) 1 then K (AVal.bool false) [] else K (AVal.bool false) [] else K (AVal.bool false) [] else bif !ieq (↑(hpRN 2 4 9 (hpNF 2 4 0 (WU (WU ((Prod.fst (Prod.snd (anRN 2 4 9 (anNF 2 4 0 (W (1 + Int.tmod (W sh) 4)) (f (Int.toNat 0)) (g (Int.toNat 0))) (fillM (W (1 + Int.tmod (W sh) 4)) 2 4 []))).2).1 + 1) + WU oth)) 3 { me := (1 : Int), sp := (0 : Int), R := [] }).1 (hpNF 2 4 0 (WU (WU ((Prod.fst (Prod.snd (anRN 2 4 9 (anNF 2 4 0 (W (1 + Int.tmod (W sh) 4)) (f (Int.toNat 0)) (g (Int.toNat 0))) (fillM (W (1 + Int.tmod (W sh) 4)) 2 4 []))).2).1 + 1) + WU oth)) 3 { me := (1 : Int), sp := (0 : Int), R := [] }).2 (Prod.snd (anRN 2 4 9 (anNF 2 4 0 (W (1 + Int.tmod (W sh) 4)) (f (Int.toNat 0)) (g (Int.toNat 0))) (fillM (W (1 + Int.tmod (W sh) 4)) 2 4 []))).2.2).1 : Int) 2 then K (AVal.bool false) [] else K (AVal.bool false) [] else K (AVal.bool false) []
theorem ho_print (sh : Int) (m : Nat) (f g : Nat → Int) (oth : Int) (K : AVal → Heap Ob → Prop) (h : hoVC sh m f g oth K) : CallOk (obI tbl) Tryz.prog 3 [.int .u8 sh, .view m 2 (fun i => [.int .i64 (f i), .int .i64 (g i)]), .int .u8 oth] [] K := by
  refine CallOk.trim (callOk_of (E := EF5) Tryz.checked.mixed (L := LL) (n := 10) (of_nf (q := hoVC sh m f g oth K) (by kernel_rfl) h))
end Go.Sh

