/- A store over a layout, and the document's. -/
import Derived.Test.YtjklokfpnbnndaaZM13
set_option linter.all false
set_option linter.unusedVariables false
set_option linter.unusedSectionVars false
namespace Go.Sh
open Go Go.Proofs
variable [Con]
/- OPQ -/
def nodeK (n v : Int) : Int := 1 + Int.tmod v n
def mkStep (n sp : Int) (R : List Int) (v : Int) : List Int := bif ieq (nodeK n v) sp then R else bif hasB R (nodeK n v) then R else R ++ [nodeK n v]
/- OPQ -/
def mkL (n sp : Int) (ns : List Int) : List Int := ns.foldl (mkStep n sp) []
theorem mkStep_len (n sp : Int) (R : List Int) (v : Int) : (mkStep n sp R v).length ≤ R.length + 1 := by
  unfold mkStep
  cases ieq (nodeK n v) sp <;> cases hasB R (nodeK n v) <;> simp
theorem mkL_snoc (n sp : Int) (ns : List Int) (v : Int) : mkL n sp (ns ++ [v]) = mkStep n sp (mkL n sp ns) v := by
  unfold mkL; simp [List.foldl_append]
structure okM (n sp : Int) (ns : List Int) (x : Nat × List Int) : Prop where
  h1 : x.1 ≤ ns.length
  h2 : x.2.length ≤ x.1
  h3 : x.2 = mkL n sp (ns.take x.1)
def HM (t n me sp me' sp' : Int) (ns : List Int) : Hint Unit := { X := Nat × List Int, st := fun x => ([.top, .top, .ptr 0 0, .ptr 1 0, .top, .top, .ptr 2 0, .ptr 4 0] ++ List.replicate 32 .top ++ [.iview (some .u8) ns, .int .i64 (ns.length : Int), .int .i64 (x.1 : Int)] ++ List.replicate 41 .top, [some (.cells [.int .u8 me, .int .u8 sp, .iview (some .u8) ns]), some (.cells [.int .i64 t, .int .i64 n]), some (.cells [.int .i64 t, .int .i64 n, .int .i64 me', .int .i64 sp', .slice 3 0 x.2.length 1]), some (.ints (some .i64) x.2), some (.cells [.int .i64 me', .int .i64 sp', .slice 5 0 x.2.length 1]), some (.ints (some .i64) x.2)]), ok := okM n sp' ns, mu := fun x => ns.length - x.1, keep := [2, 3, 6, 7, 40, 41, 42], casts := [(.cell 2 4, .ints (some .i64)), (.cell 3 2, .ints (some .i64)), (.cell 4 2, .ints (some .i64))] }
def makeS : Spec Unit := fun args h => match args, h with
  | [.agg [.int .u8 me, .int .u8 sp, .iview (some .u8) ns], .agg [.int .i64 t, .int .i64 n]], [] => some (.pre (((0 ≤ me ∧ me ≤ 255) ∧ (0 ≤ sp ∧ sp ≤ 255) ∧ (1 ≤ t ∧ t ≤ 1000) ∧ (1 ≤ n ∧ n ≤ 1000) ∧ ns.length ≤ 100000) ∧ ∀ v ∈ ns, 0 ≤ v ∧ v ≤ 255) (.ret (.tup [.ptr 0 0, .ptr 2 0]) [some (.cells [.int .i64 t, .int .i64 n, .int .i64 (Int.tmod me t), .int .i64 (Int.tmod sp (n + 1)), .slice 1 0 (mkL n (Int.tmod sp (n + 1)) ns).length 1]), some (.ints (some .i64) (mkL n (Int.tmod sp (n + 1)) ns)), some (.cells [.int .i64 (Int.tmod me t), .int .i64 (Int.tmod sp (n + 1)), .slice 3 0 (mkL n (Int.tmod sp (n + 1)) ns).length 1]), some (.ints (some .i64) (mkL n (Int.tmod sp (n + 1)) ns))]))
  | _, _ => none
theorem tmod_in {x t : Int} (h : 0 ≤ x) (ht : 1 ≤ t) : 0 ≤ Int.tmod x t ∧ Int.tmod x t < t := by
  rw [Int.tmod_eq_emod_of_nonneg h]
  exact ⟨Int.emod_nonneg _ (by omega), Int.emod_lt_of_pos _ (by omega)⟩
theorem make_ok : Spec.ok E13.I Try.prog 17 makeS := by
  intro args h o ho K hK
  unfold makeS at ho
  split at ho
  case h_2 => cases ho
  rename_i me sp ns t n
  simp only [Option.some.injEq] at ho; subst ho
  obtain ⟨⟨⟨hme, hsp, ht, hn, hl⟩, hv⟩, hK⟩ := hK
  refine CallOk.trim (callOk_of (E := E13) Try.checked.mixed (L := fun _ _ => some (.states (HM t n me sp (Int.tmod (W me) t) (Int.tmod (W sp) (W (n + 1))) ns))) (n := 10) (of_nf (q := t ≠ (0 : Int) ∧ W (n + 1) ≠ (0 : Int) ∧ okSt (HM t n me sp (Int.tmod (W me) t) (Int.tmod (W sp) (W (n + 1))) ns) (Hint.ok (HM t n me sp (Int.tmod (W me) t) (Int.tmod (W sp) (W (n + 1))) ns)) [AVal.top, AVal.top, AVal.ptr 0 0, AVal.ptr 1 0, AVal.top, AVal.top, AVal.ptr 2 0, AVal.ptr 4 0, AVal.top, AVal.top, AVal.top, AVal.top, AVal.top, AVal.top, AVal.top, AVal.top, AVal.top, AVal.top, AVal.top, AVal.top, AVal.top, AVal.top, AVal.top, AVal.top, AVal.top, AVal.top, AVal.top, AVal.top, AVal.top, AVal.top, AVal.top, AVal.top, AVal.top, AVal.top, AVal.top, AVal.top, AVal.top, AVal.top, AVal.top, AVal.top, AVal.iview (some .u8) ns, AVal.int .i64 (↑(List.length ns) : Int), AVal.int .i64 0, AVal.top, AVal.top, AVal.top, AVal.top, AVal.top, AVal.top, AVal.top, AVal.top, AVal.top, AVal.top, AVal.top, AVal.top, AVal.top, AVal.top, AVal.top, AVal.top, AVal.top, AVal.top, AVal.top, AVal.top, AVal.top, AVal.top, AVal.top, AVal.top, AVal.top, AVal.top, AVal.top, AVal.top, AVal.top, AVal.top, AVal.top, AVal.top, AVal.top, AVal.top, AVal.top, AVal.top, AVal.top, AVal.top, AVal.top, AVal.top, AVal.top] [some (Entry.cells [AVal.int .u8 me, AVal.int .u8 sp, AVal.iview (some .u8) ns]), some (Entry.cells [AVal.int .i64 t, AVal.int .i64 n]), some (Entry.cells [AVal.int .i64 t, AVal.int .i64 n, AVal.int .i64 (Int.tmod (W me) t), AVal.int .i64 (Int.tmod (W sp) (W (n + 1))), AVal.slice 3 0 0 1]), some (Entry.ints (some .i64) []), some (Entry.cells [AVal.int .i64 (Int.tmod (W me) t), AVal.int .i64 (Int.tmod (W sp) (W (n + 1))), AVal.slice 5 0 0 1]), some (Entry.ints (some .i64) [])] ∧ ∀ (x : (Nat × List Int)), okM n (Int.tmod (W sp) (W (n + 1))) ns x → bif ilt (↑x.1 : Int) (↑(List.length ns) : Int) then ((0 : Int) ≤ (↑x.1 : Int) ∧ (↑x.1 : Int) < (↑(List.length ns) : Int)) ∧ n ≠ (0 : Int) ∧ bif !ieq (W (1 + Int.tmod (W (List.getD ns (Int.toNat (↑x.1 : Int)) 0)) n)) (Int.tmod (W sp) (W (n + 1))) then (List.length x.2 = List.length x.2 ∧ List.length x.2 ≤ (4294967296 : Nat)) ∧ bif !hasB x.2 (W (1 + Int.tmod (W (List.getD ns (Int.toNat (↑x.1 : Int)) 0)) n)) then (0 = 0 ∧ List.length x.2 = List.length x.2 ∧ 1 = 1 ∧ List.length x.2 + (1 : Nat) ≤ (4294967296 : Nat)) ∧ (0 = 0 ∧ List.length x.2 = List.length x.2 ∧ 1 = 1 ∧ List.length x.2 + (1 : Nat) ≤ (4294967296 : Nat)) ∧ okSt (HM t n me sp (Int.tmod (W me) t) (Int.tmod (W sp) (W (n + 1))) ns) (fun x' => Hint.ok (HM t n me sp (Int.tmod (W me) t) (Int.tmod (W sp) (W (n + 1))) ns) x' ∧ Hint.mu (HM t n me sp (Int.tmod (W me) t) (Int.tmod (W sp) (W (n + 1))) ns) x' < Hint.mu (HM t n me sp (Int.tmod (W me) t) (Int.tmod (W sp) (W (n + 1))) ns) x) [AVal.top, AVal.top, AVal.ptr 0 0, AVal.ptr 1 0, AVal.top, AVal.top, AVal.ptr 2 0, AVal.ptr 4 0, AVal.top, AVal.top, AVal.top, AVal.top, AVal.top, AVal.top, AVal.top, AVal.top, AVal.top, AVal.top, AVal.top, AVal.top, AVal.top, AVal.top, AVal.top, AVal.top, AVal.top, AVal.top, AVal.top, AVal.top, AVal.top, AVal.top, AVal.top, AVal.top, AVal.top, AVal.top, AVal.top, AVal.top, AVal.top, AVal.top, AVal.top, AVal.top, AVal.iview (some .u8) ns, AVal.int .i64 (↑(List.length ns) : Int), AVal.int .i64 (W ((↑x.1 : Int) + 1)), AVal.top, AVal.top, AVal.top, AVal.top, AVal.top, AVal.top, AVal.top, AVal.top, AVal.top, AVal.top, AVal.top, AVal.top, AVal.top, AVal.top, AVal.top, AVal.top, AVal.top, AVal.top, AVal.top, AVal.top, AVal.top, AVal.top, AVal.top, AVal.top, AVal.top, AVal.top, AVal.top, AVal.top, AVal.top, AVal.top, AVal.top, AVal.top, AVal.top, AVal.top, AVal.top, AVal.top, AVal.top, AVal.top, AVal.top, AVal.top, AVal.top] [some (Entry.cells [AVal.int .u8 me, AVal.int .u8 sp, AVal.iview (some .u8) ns]), some (Entry.cells [AVal.int .i64 t, AVal.int .i64 n]), some (Entry.cells [AVal.int .i64 t, AVal.int .i64 n, AVal.int .i64 (Int.tmod (W me) t), AVal.int .i64 (Int.tmod (W sp) (W (n + 1))), AVal.slice 3 0 (List.length x.2 + 1) 1]), some (Entry.ints (some .i64) (x.2 ++ [W (1 + Int.tmod (W (List.getD ns (Int.toNat (↑x.1 : Int)) 0)) n)])), some (Entry.cells [AVal.int .i64 (Int.tmod (W me) t), AVal.int .i64 (Int.tmod (W sp) (W (n + 1))), AVal.slice 5 0 (List.length x.2 + 1) 1]), some (Entry.ints (some .i64) (x.2 ++ [W (1 + Int.tmod (W (List.getD ns (Int.toNat (↑x.1 : Int)) 0)) n)]))] else okSt (HM t n me sp (Int.tmod (W me) t) (Int.tmod (W sp) (W (n + 1))) ns) (fun x' => Hint.ok (HM t n me sp (Int.tmod (W me) t) (Int.tmod (W sp) (W (n + 1))) ns) x' ∧ Hint.mu (HM t n me sp (Int.tmod (W me) t) (Int.tmod (W sp) (W (n + 1))) ns) x' < Hint.mu (HM t n me sp (Int.tmod (W me) t) (Int.tmod (W sp) (W (n + 1))) ns) x) [AVal.top, AVal.top, AVal.ptr 0 0, AVal.ptr 1 0, AVal.top, AVal.top, AVal.ptr 2 0, AVal.ptr 4 0, AVal.top, AVal.top, AVal.top, AVal.top, AVal.top, AVal.top, AVal.top, AVal.top, AVal.top, AVal.top, AVal.top, AVal.top, AVal.top, AVal.top, AVal.top, AVal.top, AVal.top, AVal.top, AVal.top, AVal.top, AVal.top, AVal.top, AVal.top, AVal.top, AVal.top, AVal.top, AVal.top, AVal.top, AVal.top, AVal.top, AVal.top, AVal.top, AVal.iview (some .u8) ns, AVal.int .i64 (↑(List.length ns) : Int), AVal.int .i64 (W ((↑x.1 : Int) + 1)), AVal.top, AVal.top, AVal.top, AVal.top, AVal.top, AVal.top, AVal.top, AVal.top, AVal.top, AVal.top, AVal.top, AVal.top, AVal.top, AVal.top, AVal.top, AVal.top, AVal.top, AVal.top, AVal.top, AVal.top, AVal.top, AVal.top, AVal.top, AVal.top, AVal.top, AVal.top, AVal.top, AVal.top, AVal.top, AVal.top, AVal.top, AVal.top, AVal.top, AVal.top, AVal.top, AVal.top, AVal.top, AVal.top, AVal.top, AVal.top, AVal.top] [some (Entry.cells [AVal.int .u8 me, AVal.int .u8 sp, AVal.iview (some .u8) ns]), some (Entry.cells [AVal.int .i64 t, AVal.int .i64 n]), some (Entry.cells [AVal.int .i64 t, AVal.int .i64 n, AVal.int .i64 (Int.tmod (W me) t), AVal.int .i64 (Int.tmod (W sp) (W (n + 1))), AVal.slice 3 0 (List.length x.2) 1]), some (Entry.ints (some .i64) x.2), some (Entry.cells [AVal.int .i64 (Int.tmod (W me) t), AVal.int .i64 (Int.tmod (W sp) (W (n + 1))), AVal.slice 5 0 (List.length x.2) 1]), some (Entry.ints (some .i64) x.2)] else okSt (HM t n me sp (Int.tmod (W me) t) (Int.tmod (W sp) (W (n + 1))) ns) (fun x' => Hint.ok (HM t n me sp (Int.tmod (W me) t) (Int.tmod (W sp) (W (n + 1))) ns) x' ∧ Hint.mu (HM t n me sp (Int.tmod (W me) t) (Int.tmod (W sp) (W (n + 1))) ns) x' < Hint.mu (HM t n me sp (Int.tmod (W me) t) (Int.tmod (W sp) (W (n + 1))) ns) x) [AVal.top, AVal.top, AVal.ptr 0 0, AVal.ptr 1 0, AVal.top, AVal.top, AVal.ptr 2 0, AVal.ptr 4 0, AVal.top, AVal.top, AVal.top, AVal.top, AVal.top, AVal.top, AVal.top, AVal.top, AVal.top, AVal.top, AVal.top, AVal.top, AVal.top, AVal.top, AVal.top, AVal.top, AVal.top, AVal.top, AVal.top, AVal.top, AVal.top, AVal.top, AVal.top, AVal.top, AVal.top, AVal.top, AVal.top, AVal.top, AVal.top, AVal.top, AVal.top, AVal.top, AVal.iview (some .u8) ns, AVal.int .i64 (↑(List.length ns) : Int), AVal.int .i64 (W ((↑x.1 : Int) + 1)), AVal.top, AVal.top, AVal.top, AVal.top, AVal.top, AVal.top, AVal.top, AVal.top, AVal.top, AVal.top, AVal.top, AVal.top, AVal.top, AVal.top, AVal.top, AVal.top, AVal.top, AVal.top, AVal.top, AVal.top, AVal.top, AVal.top, AVal.top, AVal.top, AVal.top, AVal.top, AVal.top, AVal.top, AVal.top, AVal.top, AVal.top, AVal.top, AVal.top, AVal.top, AVal.top, AVal.top, AVal.top, AVal.top, AVal.top, AVal.top, AVal.top] [some (Entry.cells [AVal.int .u8 me, AVal.int .u8 sp, AVal.iview (some .u8) ns]), some (Entry.cells [AVal.int .i64 t, AVal.int .i64 n]), some (Entry.cells [AVal.int .i64 t, AVal.int .i64 n, AVal.int .i64 (Int.tmod (W me) t), AVal.int .i64 (Int.tmod (W sp) (W (n + 1))), AVal.slice 3 0 (List.length x.2) 1]), some (Entry.ints (some .i64) x.2), some (Entry.cells [AVal.int .i64 (Int.tmod (W me) t), AVal.int .i64 (Int.tmod (W sp) (W (n + 1))), AVal.slice 5 0 (List.length x.2) 1]), some (Entry.ints (some .i64) x.2)] else K (AVal.tup [AVal.ptr 0 0, AVal.ptr 2 0]) [some (Entry.cells [AVal.int .i64 t, AVal.int .i64 n, AVal.int .i64 (Int.tmod (W me) t), AVal.int .i64 (Int.tmod (W sp) (W (n + 1))), AVal.slice 1 0 (List.length x.2) 1]), some (Entry.ints (some .i64) x.2), some (Entry.cells [AVal.int .i64 (Int.tmod (W me) t), AVal.int .i64 (Int.tmod (W sp) (W (n + 1))), AVal.slice 3 0 (List.length x.2) 1]), some (Entry.ints (some .i64) x.2)]) (by kernel_rfl) ?_))
  have e1 : W me = me := W_id (by omega)
  have e2 : W sp = sp := W_id (by omega)
  have e3 : W (n + 1) = n + 1 := W_id (by omega)
  rw [e1, e2, e3]
  generalize Int.tmod sp (n + 1) = sp' at hK ⊢
  generalize Int.tmod me t = me' at hK ⊢
  refine ⟨by omega, by omega, okSt_intro (H := HM t n me sp me' sp' ns) ((0 : Nat), ([] : List Int)) rfl ⟨Nat.zero_le _, Nat.le_refl _, rfl⟩, ?_⟩
  rintro ⟨i, R⟩ ⟨h1, h2, h3⟩
  dsimp only at h1 h2 h3 ⊢
  refine cond_go (fun e => ?_) (fun e => ?_)
  · rw [ilt_eq, decide_eq_true_eq] at e
    have hi : i < ns.length := by omega
    have hg : ns.getD (i : Int).toNat 0 = ns[i] := by rw [Int.toNat_natCast, List.getD_eq_getElem?_getD, List.getElem?_eq_getElem hi]; rfl
    have hvi := hv ns[i] (List.getElem_mem hi)
    have hm := tmod_in (x := ns[i]) (t := n) (by omega) (by omega)
    have e4 : W ns[i] = ns[i] := W_id (by omega)
    have e5 : W (1 + Int.tmod ns[i] n) = nodeK n ns[i] := W_id (by show _ ≤ 1 + Int.tmod ns[i] n ∧ 1 + Int.tmod ns[i] n ≤ _; omega)
    have e6 : W ((i : Int) + 1) = ((i + 1 : Nat) : Int) := by rw [W_id (by omega)]; rfl
    have hs : mkL n sp' (ns.take (i + 1)) = mkStep n sp' R ns[i] := by
      rw [List.take_succ_eq_append_getElem hi, mkL_snoc, ← h3]
    have hmu : ns.length - (i + 1) < ns.length - i := by omega
    rw [hg, e4, e5, e6]
    unfold mkStep at hs
    refine ⟨by omega, by omega, cond_go (fun c1 => ⟨⟨rfl, by omega⟩, cond_go (fun c2 => ⟨⟨rfl, rfl, rfl, by omega⟩, ⟨rfl, rfl, rfl, by omega⟩, ?_⟩) (fun c2 => ?_)⟩) (fun c1 => ?_)⟩
    · have c1 : ieq (nodeK n ns[i]) sp' = false := by simpa using c1
      have c2 : hasB R (nodeK n ns[i]) = false := by simpa using c2
      rw [c1, c2] at hs
      refine okSt_intro (H := HM t n me sp me' sp' ns) ((i + 1 : Nat), (R ++ [nodeK n ns[i]] : List Int)) (by simp only [HM, List.length_append]; rfl) ⟨⟨hi, ?_, hs.symm⟩, hmu⟩
      show (R ++ [nodeK n ns[i]]).length ≤ i + 1
      simp; omega
    · have c1 : ieq (nodeK n ns[i]) sp' = false := by simpa using c1
      have c2 : hasB R (nodeK n ns[i]) = true := by simpa using c2
      rw [c1, c2] at hs
      exact okSt_intro (H := HM t n me sp me' sp' ns) ((i + 1 : Nat), R) rfl ⟨⟨hi, by show R.length ≤ i + 1; omega, hs.symm⟩, hmu⟩
    · have c1 : ieq (nodeK n ns[i]) sp' = true := by simpa using c1
      rw [c1] at hs
      exact okSt_intro (H := HM t n me sp me' sp' ns) ((i + 1 : Nat), R) rfl ⟨⟨hi, by show R.length ≤ i + 1; omega, hs.symm⟩, hmu⟩
  · rw [ilt_eq, decide_eq_false_iff_not] at e
    rw [List.take_of_length_le (by omega)] at h3
    subst h3
    exact hK
noncomputable def E14 := E13.addS 17 makeS make_ok
end Go.Sh
