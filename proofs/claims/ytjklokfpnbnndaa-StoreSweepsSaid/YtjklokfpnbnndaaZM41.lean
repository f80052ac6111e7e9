import Derived.Test.YtjklokfpnbnndaaZM37toM40
set_option linter.all false
/- A sweep: the law's walk. -/
namespace Go.Sh
open Go Go.Proofs
variable [Con]
theorem mkL_in (n sp : Int) (ns : List Int) (hn : 1 ≤ n) (hv : ∀ v ∈ ns, 0 ≤ v ∧ v ≤ 255) : ∀ r ∈ mkL n sp ns, 1 ≤ r ∧ r ≤ n := by
  have key : ∀ (l R : List Int), (∀ v ∈ l, 0 ≤ v ∧ v ≤ 255) → (∀ r ∈ R, 1 ≤ r ∧ r ≤ n) → ∀ r ∈ l.foldl (mkStep n sp) R, 1 ≤ r ∧ r ≤ n := by
    intro l
    induction l with
    | nil => intro R _ hR; exact hR
    | cons v l ih =>
      intro R hl hR
      rw [List.foldl_cons]
      refine ih _ (fun x hx => hl x (List.mem_cons_of_mem _ hx)) ?_
      have hk : 1 ≤ nodeK n v ∧ nodeK n v ≤ n := by
        have h0 := hl v List.mem_cons_self
        have := tmod_in (x := v) (t := n) h0.1 hn
        unfold nodeK; omega
      intro r hr
      unfold mkStep at hr
      cases h1 : ieq (nodeK n v) sp <;> cases h2 : hasB R (nodeK n v) <;> rw [h1] at hr <;> try rw [h2] at hr
      all_goals simp only [cond_true, cond_false] at hr
      all_goals first
        | exact hR r hr
        | (rcases List.mem_append.1 hr with h | h
           · exact hR r h
           · rw [List.mem_singleton] at h; rw [h]; exact hk)
  exact key ns [] hv (fun r hr => by cases hr)
set_option maxHeartbeats 4000000 in
theorem sweeps_ok (t n me sp : Int) (ws ns : List Int) (p : Nat) (fa fx : Nat → Int) (ht : 0 ≤ t ∧ t ≤ 255) (hn : 0 ≤ n ∧ n ≤ 255) (hme : 0 ≤ me ∧ me ≤ 255) (hsp : 0 ≤ sp ∧ sp ≤ 255) (hws : okW ws) (hns : ∀ v ∈ ns, 0 ≤ v ∧ v ≤ 255) (hfx : ∀ i, 0 ≤ fx i ∧ fx i ≤ 18446744073709551615) :
    CallOk E40.I Try.prog 5 [.agg [.int .u8 t, .int .u8 n, .iview (some .u64) ws], .agg [.int .u8 me, .int .u8 sp, .iview (some .u8) ns], .view p 2 (fun i => [.int .i64 (fa i), .int .u64 (fx i)])] ([] : Heap Unit) (fun v _ => v = .bool true) := by
  refine callOk_of (E := E40) Try.checked.mixed (L := LL) (n := 10) (of_nf (q := True ∧ bif ilt 60 (↑(List.length ws) : Int) then AVal.bool true = AVal.bool true else bif ilt 60 (↑p : Int) then AVal.bool true = AVal.bool true else bif ilt 40 (↑(List.length ns) : Int) then AVal.bool true = AVal.bool true else (((0 : Int) ≤ t ∧ t ≤ (255 : Int)) ∧ (0 : Int) ≤ n ∧ n ≤ (255 : Int)) ∧ ((((0 : Int) ≤ me ∧ me ≤ (255 : Int)) ∧ ((0 : Int) ≤ sp ∧ sp ≤ (255 : Int)) ∧ ((1 : Int) ≤ thr t ∧ thr t ≤ (1000 : Int)) ∧ ((1 : Int) ≤ nod n ∧ nod n ≤ (1000 : Int)) ∧ List.length ns ≤ (100000 : Nat)) ∧ ∀ (v : Int), List.Mem v ns → (0 : Int) ≤ v ∧ v ≤ (255 : Int)) ∧ ((List.length (memW (thr t) (nod n) ws) = List.length (memW (thr t) (nod n) ws) ∧ List.length (mkL (nod n) (Int.tmod sp (nod n + 1)) ns) = List.length (mkL (nod n) (Int.tmod sp (nod n + 1)) ns) ∧ (0 : Int) = (0 : Int) ∧ ((1 : Int) ≤ thr t ∧ thr t ≤ (8 : Int)) ∧ ((1 : Int) ≤ nod n ∧ nod n ≤ (1000 : Int)) ∧ List.length (mkL (nod n) (Int.tmod sp (nod n + 1)) ns) ≤ (60 : Nat)) ∧ List.length (memW (thr t) (nod n) ws) = Int.toNat (2 * nod n + 5 * thr t + 6) ∧ okW (memW (thr t) (nod n) ws) ∧ (∀ (r : Int), List.Mem r (mkL (nod n) (Int.tmod sp (nod n + 1)) ns) → (1 : Int) ≤ r ∧ r ≤ nod n) ∧ ∃ fa_1 fx_1 : Nat → Int, ((fun i => [AVal.int .i64 (fa i), AVal.int .u64 (fx i)]) = fun i => [AVal.int .i64 (fa_1 i), AVal.int .u64 (fx_1 i)]) ∧ ∀ (i : Nat), (0 : Int) ≤ fx_1 i ∧ fx_1 i ≤ (18446744073709551615 : Int)) ∧ ∀ (x : SC), dnSC (thr t) (nod n) (mkL (nod n) (Int.tmod sp (nod n + 1)) ns) x → (((List.length x.4 = List.length x.4 ∧ List.length (mkL (nod n) (Int.tmod sp (nod n + 1)) ns) = List.length (mkL (nod n) (Int.tmod sp (nod n + 1)) ns) ∧ (0 : Int) = (0 : Int) ∧ false = false ∧ false = false) ∧ ((1 : Int) ≤ thr t ∧ thr t ≤ (8 : Int)) ∧ ((1 : Int) ≤ nod n ∧ nod n ≤ (1000 : Int)) ∧ List.length (mkL (nod n) (Int.tmod sp (nod n + 1)) ns) ≤ (60 : Nat) ∧ (∀ (r : Int), List.Mem r (mkL (nod n) (Int.tmod sp (nod n + 1)) ns) → (1 : Int) ≤ r ∧ r ≤ nod n) ∧ (↑(List.length (ysOf x.4 (thr t))) : Int) = (2 : Int) * thr t ∧ ∃ gs : List (Int × Int), x.4 = rowsFrom (nod n) 0 (ysOf x.4 (thr t)) ++ rowsG (nod n) gs ∧ List.map (fun x => Prod.fst x) gs = freedY (ysOf x.4 (thr t)) (mkL (nod n) (Int.tmod sp (nod n + 1)) ns)) ∧ True) ∧ True ∧ True ∧ bif fitsB (↑(List.length x.4) : Int) { i := (↑(List.length x.4) : Int), bad := false, out := false } true then bif ieq (Int.tmod me (thr t)) (Int.tmod me (thr t)) then bif ieq (Int.tmod sp (nod n + 1)) (Int.tmod sp (nod n + 1)) then ((List.length x.6 = List.length x.6 ∧ List.length (keptY (ysOf x.4 (thr t)) (mkL (nod n) (Int.tmod sp (nod n + 1)) ns)) = List.length (keptY (ysOf x.4 (thr t)) (mkL (nod n) (Int.tmod sp (nod n + 1)) ns))) ∧ List.length x.6 ≤ (4294967296 : Nat)) ∧ AVal.bool (sameB x.6 (keptY (ysOf x.4 (thr t)) (mkL (nod n) (Int.tmod sp (nod n + 1)) ns))) = AVal.bool true else AVal.bool false = AVal.bool true else AVal.bool false = AVal.bool true else AVal.bool false = AVal.bool true) (by kernel_rfl) ?_)
  have h1 := thr_in ht
  have h2 := nod_in hn
  have hW : okW (memW (thr t) (nod n) ws) := okW_memW hws
  have hl := memW_length (thr t) (nod n) ws
  have hR := mkL_in (nod n) (Int.tmod sp (nod n + 1)) ns (by omega) hns
  have hlen := mkL_len (nod n) (Int.tmod sp (nod n + 1)) ns
  generalize memW (thr t) (nod n) ws = MW at hW hl ⊢
  generalize mkL (nod n) (Int.tmod sp (nod n + 1)) ns = ML at hR hlen ⊢
  generalize thr t = T at h1 hl ⊢
  generalize nod n = N at h2 hl hR ⊢
  refine ⟨trivial, cond_go (fun _ => rfl) (fun _ => cond_go (fun _ => rfl) (fun _ => lt_go (fun _ => rfl) (fun h40 => ⟨⟨ht, hn⟩, ⟨by omega, fun v hv => hns v hv⟩, ⟨⟨rfl, rfl, rfl, by omega, by omega, by omega⟩, hl, hW, fun r hr => hR r hr, fa, fx, rfl, hfx⟩, ?_⟩)))⟩
  rintro ⟨i, s, m, A, j, ks, fs⟩ ⟨hk, hf, ys, gs, hoy, hyl, hm, hA, hg⟩
  dsimp only at hk hf hm hA hg ⊢
  have hy : ysOf A T = ys := ysOf_rows hA hyl
  have hR' : ∀ r ∈ ML, 1 ≤ r ∧ r ≤ 1000 := fun r hr => by have := hR r hr; omega
  have ek := kept_eq hoy hR'
  have ef := freed_eq hoy hR'
  rw [← hm] at ek ef
  rw [← hk] at ek
  rw [← hf] at ef
  have hfit : fitsB ((A.length : Nat) : Int) ⟨((A.length : Nat) : Int), false, false⟩ true = true := by
    unfold fitsB; rw [ieq_self]; rfl
  have hkl : ks.length ≤ ML.length := by rw [hk]; exact filt_len _ _
  rw [hy, hfit, ieq_self, ieq_self, ← ek, sameB_self]
  simp only [cond_true, and_true, true_and]
  refine ⟨⟨by omega, by omega, by omega, fun r hr => hR r hr, hyl, gs, hA, by rw [← ef]; exact hg⟩, by omega⟩
end Go.Sh

