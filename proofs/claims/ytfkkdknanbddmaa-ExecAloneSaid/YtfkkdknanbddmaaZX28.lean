import Derived.Test.YtfkkdknanbddmaaZX27
set_option linter.all false
/- A round that is executed: alone: the law. -/
namespace Go.Sh
open Go Go.Proofs
variable [Con]
theorem ade_cut (p : PR) (hp : okPR p) : cutI (ADE p) 49 3 = 5 := dcut_e (dOk_true.2 (by have := hp.hX; omega))
theorem adn_cut : cutI ADN 49 3 = 1 := dcut_e (dOk_true.2 (by decide))
theorem xd_in (p : PR) (hp : okPR p) {e : Int} (he : 0 ≤ e ∧ e < 8) : 0 ≤ XD p e ∧ XD p e ≤ 18446744073709551615 := dPutV_in (XD_ok p hp he)
theorem ade_in (p : PR) (hp : okPR p) : 0 ≤ ADE p ∧ ADE p ≤ 18446744073709551615 := dPutV_in (dOk_true.2 (by have := hp.hX; omega))
theorem adn_in : 0 ≤ ADN ∧ ADN ≤ 18446744073709551615 := dPutV_in (dOk_true.2 (by decide))
theorem aloneAt_vc (th nd nx ver od do' va : Int) (mk : Bool) (h1 : 0 ≤ th ∧ th ≤ 255) (h2 : 0 ≤ nd ∧ nd ≤ 255) (h3 : 0 ≤ nx ∧ nx ≤ 255) (h4 : 0 ≤ ver ∧ ver ≤ 65535) (h7 : 0 ≤ va ∧ va ≤ 255) (ho : ieq (Int.tmod od 3) 0 = true) : aloneAtVC th nd nx ver od do' va mk := by
  have hp := prOf_ok (od := od) (do' := do') (mk := mk) h1 h2 h3 h4 h7
  have a := tm_in h1.1 (show (0 : Int) < 4 by decide)
  have c := tm_in h3.1 (show (0 : Int) < 13 by decide)
  have e1 : W th = th := W_id (by omega)
  have e3 : W nx = nx := W_id (by omega)
  have f1 : (2 * 12 + 5 + 2 * 4 + 3 * Int.tmod th 4 + 2 : Int) = 39 + 3 * Int.tmod th 4 := by omega
  unfold aloneAtVC
  rw [e1, e3, f1]
  unfold prOf at hp
  generalize hP : PR.mk (Int.tmod th 4) (1 + Int.tmod nd 12) (Int.tmod nx 13) ver va mk (prW od ver) (prC od th) (prSh do') (prKd do') (prKy do') = P at hp ⊢
  have hU : P.U = Int.tmod th 4 := by rw [← hP]
  have g : ∀ w d l, peek (XM P w d l) (39 + 3 * Int.tmod th 4) = d := fun w d l => by rw [← hU]; exact XM_d P hp w d l
  have s2 : cutI (XD P 2) 49 3 = 2 := (XD_cuts P hp (by decide)).2.2.2.2.2.1
  have s3 : cutI (XD P 3) 49 3 = 3 := (XD_cuts P hp (by decide)).2.2.2.2.2.1
  have s4 : cutI (XD P 4) 49 3 = 4 := (XD_cuts P hp (by decide)).2.2.2.2.2.1
  have q2 := xd_in P hp (e := 2) (by decide)
  have q3 := xd_in P hp (e := 3) (by decide)
  have q4 := xd_in P hp (e := 4) (by decide)
  have q5 := ade_in P hp
  have q6 := adn_in
  have i1 : ile 2 2 = true := by decide
  have i2 : ile 2 3 = true := by decide
  have i3 : ile 2 4 = true := by decide
  have i4 : ile 2 5 = true := by decide
  have i5 : ile 2 1 = false := by decide
  have j1 : ile 2 4 = true := by decide
  have j2 : ile 3 4 = true := by decide
  have j3 : ile 4 4 = true := by decide
  have j4 : ile 5 4 = false := by decide
  simp only [g, s2, s3, s4, ade_cut P hp, adn_cut, i1, i2, i3, i4, i5, j2, j3, j4, ho, XM_len, cond_true, cond_false]
  repeat' first
    | with_reducible apply And.intro
    | with_reducible trivial
    | omega
    | exact ⟨rfl⟩
    | decide
  all_goals first
    | (rw [ieq_self]; done)
    | (cases hl : linksB (prKd do') <;> cases hi : ilt 0 (Int.tmod nx 13) <;> simp only [hl, hi, cond_true, cond_false] at hq ⊢ <;> first | (cases hq; done) | (repeat' first | with_reducible apply And.intro | with_reducible trivial | omega | exact ⟨rfl⟩ | decide | (rw [ieq_self]; done)))
theorem aloneAf_vc (th nd nx ver od do' va : Int) (mk : Bool) (h1 : 0 ≤ th ∧ th ≤ 255) (h2 : 0 ≤ nd ∧ nd ≤ 255) (h3 : 0 ≤ nx ∧ nx ≤ 255) (h4 : 0 ≤ ver ∧ ver ≤ 65535) (h7 : 0 ≤ va ∧ va ≤ 255) (ho : ieq (Int.tmod od 3) 0 = true) : aloneAfVC th nd nx ver od do' va mk := by
  have hp := prOf_ok (od := od) (do' := do') (mk := mk) h1 h2 h3 h4 h7
  have a := tm_in h1.1 (show (0 : Int) < 4 by decide)
  have c := tm_in h3.1 (show (0 : Int) < 13 by decide)
  have e1 : W th = th := W_id (by omega)
  have e3 : W nx = nx := W_id (by omega)
  have f1 : (2 * 12 + 5 + 2 * 4 + 3 * Int.tmod th 4 + 2 : Int) = 39 + 3 * Int.tmod th 4 := by omega
  unfold aloneAfVC
  rw [e1, e3, f1]
  unfold prOf at hp
  generalize hP : PR.mk (Int.tmod th 4) (1 + Int.tmod nd 12) (Int.tmod nx 13) ver va mk (prW od ver) (prC od th) (prSh do') (prKd do') (prKy do') = P at hp ⊢
  have hU : P.U = Int.tmod th 4 := by rw [← hP]
  have g : ∀ w d l, peek (XM P w d l) (39 + 3 * Int.tmod th 4) = d := fun w d l => by rw [← hU]; exact XM_d P hp w d l
  have s2 : cutI (XD P 2) 49 3 = 2 := (XD_cuts P hp (by decide)).2.2.2.2.2.1
  have s3 : cutI (XD P 3) 49 3 = 3 := (XD_cuts P hp (by decide)).2.2.2.2.2.1
  have s4 : cutI (XD P 4) 49 3 = 4 := (XD_cuts P hp (by decide)).2.2.2.2.2.1
  have q2 := xd_in P hp (e := 2) (by decide)
  have q3 := xd_in P hp (e := 3) (by decide)
  have q4 := xd_in P hp (e := 4) (by decide)
  have q5 := ade_in P hp
  have q6 := adn_in
  have i1 : ile 2 2 = true := by decide
  have i2 : ile 2 3 = true := by decide
  have i3 : ile 2 4 = true := by decide
  have i4 : ile 2 5 = true := by decide
  have i5 : ile 2 1 = false := by decide
  have j1 : ile 2 4 = true := by decide
  have j2 : ile 3 4 = true := by decide
  have j3 : ile 4 4 = true := by decide
  have j4 : ile 5 4 = false := by decide
  simp only [g, s2, s3, s4, ade_cut P hp, adn_cut, i1, i2, i3, i4, i5, j2, j3, j4, ho, XM_len, cond_true, cond_false]
  repeat' first
    | with_reducible apply And.intro
    | with_reducible trivial
    | omega
    | exact ⟨rfl⟩
    | decide
  all_goals first
    | (rw [ieq_self]; done)
    | (cases hl : linksB (prKd do') <;> cases hi : ilt 0 (Int.tmod nx 13) <;> simp only [hl, hi, cond_true, cond_false] at hq ⊢ <;> first | (cases hq; done) | (repeat' first | with_reducible apply And.intro | with_reducible trivial | omega | exact ⟨rfl⟩ | decide | (rw [ieq_self]; done)))
theorem aloneDt_vc (th nd nx ver od do' va : Int) (mk : Bool) (h1 : 0 ≤ th ∧ th ≤ 255) (h2 : 0 ≤ nd ∧ nd ≤ 255) (h3 : 0 ≤ nx ∧ nx ≤ 255) (h4 : 0 ≤ ver ∧ ver ≤ 65535) (h7 : 0 ≤ va ∧ va ≤ 255) (ho : ieq (Int.tmod od 3) 0 = false) (hq : (bif linksB (prKd do') then ilt 0 (Int.tmod nx 13) else false) = false) : aloneDtVC th nd nx ver od do' va mk := by
  have hp := prOf_ok (od := od) (do' := do') (mk := mk) h1 h2 h3 h4 h7
  have a := tm_in h1.1 (show (0 : Int) < 4 by decide)
  have c := tm_in h3.1 (show (0 : Int) < 13 by decide)
  have e1 : W th = th := W_id (by omega)
  have e3 : W nx = nx := W_id (by omega)
  have f1 : (2 * 12 + 5 + 2 * 4 + 3 * Int.tmod th 4 + 2 : Int) = 39 + 3 * Int.tmod th 4 := by omega
  unfold aloneDtVC
  rw [e1, e3, f1]
  unfold prOf at hp
  generalize hP : PR.mk (Int.tmod th 4) (1 + Int.tmod nd 12) (Int.tmod nx 13) ver va mk (prW od ver) (prC od th) (prSh do') (prKd do') (prKy do') = P at hp ⊢
  have hU : P.U = Int.tmod th 4 := by rw [← hP]
  have g : ∀ w d l, peek (XM P w d l) (39 + 3 * Int.tmod th 4) = d := fun w d l => by rw [← hU]; exact XM_d P hp w d l
  have s2 : cutI (XD P 2) 49 3 = 2 := (XD_cuts P hp (by decide)).2.2.2.2.2.1
  have s3 : cutI (XD P 3) 49 3 = 3 := (XD_cuts P hp (by decide)).2.2.2.2.2.1
  have s4 : cutI (XD P 4) 49 3 = 4 := (XD_cuts P hp (by decide)).2.2.2.2.2.1
  have q2 := xd_in P hp (e := 2) (by decide)
  have q3 := xd_in P hp (e := 3) (by decide)
  have q4 := xd_in P hp (e := 4) (by decide)
  have q5 := ade_in P hp
  have q6 := adn_in
  have i1 : ile 2 2 = true := by decide
  have i2 : ile 2 3 = true := by decide
  have i3 : ile 2 4 = true := by decide
  have i4 : ile 2 5 = true := by decide
  have i5 : ile 2 1 = false := by decide
  have j1 : ile 2 4 = true := by decide
  have j2 : ile 3 4 = true := by decide
  have j3 : ile 4 4 = true := by decide
  have j4 : ile 5 4 = false := by decide
  simp only [g, s2, s3, s4, ade_cut P hp, adn_cut, i1, i2, i3, i4, i5, j2, j3, j4, ho, XM_len, cond_true, cond_false]
  repeat' first
    | with_reducible apply And.intro
    | with_reducible trivial
    | omega
    | exact ⟨rfl⟩
    | decide
  all_goals first
    | (rw [ieq_self]; done)
    | (cases hl : linksB (prKd do') <;> cases hi : ilt 0 (Int.tmod nx 13) <;> simp only [hl, hi, cond_true, cond_false] at hq ⊢ <;> first | (cases hq; done) | (repeat' first | with_reducible apply And.intro | with_reducible trivial | omega | exact ⟨rfl⟩ | decide | (rw [ieq_self]; done)))
theorem aloneDf_vc (th nd nx ver od do' va : Int) (mk : Bool) (h1 : 0 ≤ th ∧ th ≤ 255) (h2 : 0 ≤ nd ∧ nd ≤ 255) (h3 : 0 ≤ nx ∧ nx ≤ 255) (h4 : 0 ≤ ver ∧ ver ≤ 65535) (h7 : 0 ≤ va ∧ va ≤ 255) (ho : ieq (Int.tmod od 3) 0 = false) (hq : (bif linksB (prKd do') then ilt 0 (Int.tmod nx 13) else false) = true) : aloneDfVC th nd nx ver od do' va mk := by
  have hp := prOf_ok (od := od) (do' := do') (mk := mk) h1 h2 h3 h4 h7
  have a := tm_in h1.1 (show (0 : Int) < 4 by decide)
  have c := tm_in h3.1 (show (0 : Int) < 13 by decide)
  have e1 : W th = th := W_id (by omega)
  have e3 : W nx = nx := W_id (by omega)
  have f1 : (2 * 12 + 5 + 2 * 4 + 3 * Int.tmod th 4 + 2 : Int) = 39 + 3 * Int.tmod th 4 := by omega
  unfold aloneDfVC
  rw [e1, e3, f1]
  unfold prOf at hp
  generalize hP : PR.mk (Int.tmod th 4) (1 + Int.tmod nd 12) (Int.tmod nx 13) ver va mk (prW od ver) (prC od th) (prSh do') (prKd do') (prKy do') = P at hp ⊢
  have hU : P.U = Int.tmod th 4 := by rw [← hP]
  have g : ∀ w d l, peek (XM P w d l) (39 + 3 * Int.tmod th 4) = d := fun w d l => by rw [← hU]; exact XM_d P hp w d l
  have s2 : cutI (XD P 2) 49 3 = 2 := (XD_cuts P hp (by decide)).2.2.2.2.2.1
  have s3 : cutI (XD P 3) 49 3 = 3 := (XD_cuts P hp (by decide)).2.2.2.2.2.1
  have s4 : cutI (XD P 4) 49 3 = 4 := (XD_cuts P hp (by decide)).2.2.2.2.2.1
  have q2 := xd_in P hp (e := 2) (by decide)
  have q3 := xd_in P hp (e := 3) (by decide)
  have q4 := xd_in P hp (e := 4) (by decide)
  have q5 := ade_in P hp
  have q6 := adn_in
  have i1 : ile 2 2 = true := by decide
  have i2 : ile 2 3 = true := by decide
  have i3 : ile 2 4 = true := by decide
  have i4 : ile 2 5 = true := by decide
  have i5 : ile 2 1 = false := by decide
  have j1 : ile 2 4 = true := by decide
  have j2 : ile 3 4 = true := by decide
  have j3 : ile 4 4 = true := by decide
  have j4 : ile 5 4 = false := by decide
  simp only [g, s2, s3, s4, ade_cut P hp, adn_cut, i1, i2, i3, i4, i5, j2, j3, j4, ho, XM_len, cond_true, cond_false]
  repeat' first
    | with_reducible apply And.intro
    | with_reducible trivial
    | omega
    | exact ⟨rfl⟩
    | decide
  all_goals first
    | (rw [ieq_self]; done)
    | (cases hl : linksB (prKd do') <;> cases hi : ilt 0 (Int.tmod nx 13) <;> simp only [hl, hi, cond_true, cond_false] at hq ⊢ <;> first | (cases hq; done) | (repeat' first | with_reducible apply And.intro | with_reducible trivial | omega | exact ⟨rfl⟩ | decide | (rw [ieq_self]; done)))
theorem tm3 {x : Int} (h : 0 ≤ x) : ieq (Int.tmod x 3) 0 = true ∨ ieq (Int.tmod x 3) 0 = false ∧ (ieq (Int.tmod x 3) 1 = true ∨ ieq (Int.tmod x 3) 1 = false ∧ ieq (Int.tmod x 3) 2 = true) := by
  have := tm_in h (show (0 : Int) < 3 by decide)
  rcases (show Int.tmod x 3 = 0 ∨ Int.tmod x 3 = 1 ∨ Int.tmod x 3 = 2 by omega) with e | e | e <;> rw [e] <;> decide
theorem alone_ok (th nd nx ver od do' va : Int) (mk : Bool) (h1 : 0 ≤ th ∧ th ≤ 255) (h2 : 0 ≤ nd ∧ nd ≤ 255) (h3 : 0 ≤ nx ∧ nx ≤ 255) (h4 : 0 ≤ ver ∧ ver ≤ 65535) (h5 : 0 ≤ od ∧ od ≤ 255) (h7 : 0 ≤ va ∧ va ≤ 255) :
    CallOk (obI tbl) Try.prog 3 [.agg [.int .u8 th, .int .u8 nd, .int .u8 nx, .int .u16 ver, .bool mk, .int .u8 od, .int .u8 do', .int .u8 va]] ([] : Heap Ob) (fun v _ => v = .bool true) := by
  have hp := prOf_ok (od := od) (do' := do') (mk := mk) h1 h2 h3 h4 h7
  have a := tm_in h1.1 (show (0 : Int) < 4 by decide)
  have c := tm_in h3.1 (show (0 : Int) < 13 by decide)
  rcases tm3 h5.1 with ho | ⟨ho, ho2⟩
  · have e : Int.tmod od 3 = 0 := by rw [ieq_eq] at ho; exact eq_of_beq ho
    have hC : (prOf th nd nx ver od do' va mk).C = 0 := by show prC od th = 0; unfold prC; rw [e]; rfl
    have hW : (prOf th nd nx ver od do' va mk).W = (prOf th nd nx ver od do' va mk).V := by show prW od ver = ver; unfold prW; rw [e]; rfl
    cases hb : popsB (prSh do') (prKd do')
    · exact aloneAf_print th nd nx ver od do' va mk hp hC hW hb (aloneAf_vc th nd nx ver od do' va mk h1 h2 h3 h4 h7 ho)
    · exact aloneAt_print th nd nx ver od do' va mk hp hC hW hb (aloneAt_vc th nd nx ver od do' va mk h1 h2 h3 h4 h7 ho)
  · have hO : (prOf th nd nx ver od do' va mk).C ≠ 0 ∧ (prOf th nd nx ver od do' va mk).C ≠ (prOf th nd nx ver od do' va mk).U + 1 ∨ (prOf th nd nx ver od do' va mk).W ≠ (prOf th nd nx ver od do' va mk).V := by
      show prC od th ≠ 0 ∧ prC od th ≠ Int.tmod th 4 + 1 ∨ prW od ver ≠ ver
      rcases ho2 with e | ⟨e, e2⟩
      · right; unfold prW; rw [e]; simp only [cond_true]; omega
      · left; unfold prC; rw [e, e2]; simp only [cond_true, cond_false]
        rw [Int.tmod_eq_emod_of_nonneg (a := Int.tmod th 4 + 1) (by omega)]
        omega
    have hn : (bif linksB (prOf th nd nx ver od do' va mk).kd then !nodeB 12 (prOf th nd nx ver od do' va mk).N else true) = !(bif linksB (prKd do') then ilt 0 (Int.tmod nx 13) else false) := by
      show (bif linksB (prKd do') then !nodeB 12 (Int.tmod nx 13) else true) = _
      cases linksB (prKd do')
      · rfl
      · simp only [cond_true]
        congr 1
        rw [ilt_eq]
        unfold nodeB
        first
        | (rw [ile_eq, ile_eq]; by_cases z : 0 < Int.tmod nx 13 <;> simp [z] <;> omega)
        | fail
    cases hq : (bif linksB (prKd do') then ilt 0 (Int.tmod nx 13) else false)
    · exact aloneDt_print th nd nx ver od do' va mk hp hO (by rw [hn, hq]; rfl) (aloneDt_vc th nd nx ver od do' va mk h1 h2 h3 h4 h7 ho hq)
    · exact aloneDf_print th nd nx ver od do' va mk hp hO (by rw [hn, hq]; rfl) (aloneDf_vc th nd nx ver od do' va mk h1 h2 h3 h4 h7 ho hq)
end Go.Sh

