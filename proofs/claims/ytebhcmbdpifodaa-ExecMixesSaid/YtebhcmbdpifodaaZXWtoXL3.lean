import Derived.Test.YtebhcmbdpifodaaZX4toXV
set_option linter.all false
namespace Go.Sh
open Go Go.Proofs
variable [Con]
open XX (PR okPR XM XW XD)
theorem exSet_len (ws : List (Option EXN)) (u : Nat) (w : EXN) : (exSet ws u w).length = ws.length := by unfold exSet; simp
theorem exClr_len (ws : List (Option EXN)) (u : Nat) : (exClr ws u).length = ws.length := by unfold exClr; simp
theorem exHas_get {ws : List (Option EXN)} {u : Nat} (h : exHas ws u = true) : ws[u]? = some (some (exAt ws u)) := by
  unfold exHas at h
  unfold exAt
  rw [List.getD_eq_getElem?_getD] at h ⊢
  cases e : ws[u]? with
  | none => rw [e] at h; cases h
  | some o => cases o with
    | none => rw [e] at h; cases h
    | some w => rfl
theorem exSet_get {ws : List (Option EXN)} {u : Nat} (w : EXN) (hu : u < ws.length) : (exSet ws u w)[u]? = some (some w) := by
  unfold exSet; simp [hu]
theorem exSet_ne {ws : List (Option EXN)} {u v : Nat} (w : EXN) (h : u ≠ v) : (exSet ws u w)[v]? = ws[v]? := by
  unfold exSet; rw [List.getElem?_set_ne h]
theorem exClr_ne {ws : List (Option EXN)} {u v : Nat} (h : u ≠ v) : (exClr ws u)[v]? = ws[v]? := by
  unfold exClr; rw [List.getElem?_set_ne h]
theorem exClr_get {ws : List (Option EXN)} {u : Nat} (hu : u < ws.length) : (exClr ws u)[u]? = some none := by
  unfold exClr; simp [hu]
def atW (ws : List (Option EXN)) (u : Nat) : Int := match ws[u]? with
  | some (some w) => w.x.at'
  | _ => 0
theorem who_at (u sh kd ky k : Int) (x : XCS) : (xcWho u sh kd ky k x).x.at' = atW x.ws (plU k) := by
  unfold xcWho atW
  cases h : exHas x.ws (plU k) with
  | true => rw [exHas_get h]; rfl
  | false =>
    have : ∀ w, x.ws[plU k]? ≠ some (some w) := by
      intro w hw
      unfold exHas at h
      rw [List.getD_eq_getElem?_getD, hw] at h
      cases h
    cases e : x.ws[plU k]? with
    | none => rfl
    | some o => cases o with
      | none => rfl
      | some w => exact (this w e).elim
def xcN (p : PR) (k : Int) (x : XCS) : XCS :=
  ⟨bif (xcY p.U p.sh p.kd p.ky k x).d then exClr x.ws (plU k) else exSet x.ws (plU k) ⟨4, 12, (xcY p.U p.sh p.kd p.ky k x).x⟩, (xcY p.U p.sh p.kd p.ky k x).s,
    bif chgB (peek x.s.xs p.A) (peek (xcY p.U p.sh p.kd p.ky k x).s.xs p.A) then W (x.ch + 1) else x.ch,
    bif (xcY p.U p.sh p.kd p.ky k x).d && !ieq (xcY p.U p.sh p.kd p.ky k x).x.popped 0 then x.pp ++ [(xcY p.U p.sh p.kd p.ky k x).x.popped] else x.pp,
    bif (xcY p.U p.sh p.kd p.ky k x).d && !ieq (xcY p.U p.sh p.kd p.ky k x).x.gave 0 then x.gv ++ [(xcY p.U p.sh p.kd p.ky k x).x.gave] else x.gv⟩
structure XIC (n : Int) (k : Nat) (x : XCS) : Prop where
  n1 : 1 ≤ n
  n6 : n ≤ 6
  lw : x.ws.length = n.toNat
  t : x.s.t = 4
  m : x.s.n = 12
  c0 : 0 ≤ x.s.c
  c1 : x.s.c ≤ 2 + k
  k0 : k ≤ 1000
structure XIA (p : PR) (n : Int) (k ph : Nat) (x : XCS) : Prop extends XIC n k x where
  h4 : ph ≤ 4
  xs : x.s.xs = XM p (wA p ph) (dA p ph) 0
  mac : ∀ (u : Nat) (w : EXN), x.ws[u]? = some (some w) → (w.t = 4 ∧ w.n = 12) ∧ MAC1 p w.x ∧ atA p ph w.x
  ch : x.ch = if 0 < ph then 1 else 0
  pp : x.pp = if 0 < ph ∧ popsB p.sh p.kd = true then [9] else []
  gv : x.gv = []
structure XIB (p : PR) (n : Int) (k ph : Nat) (x : XCS) : Prop extends XIC n k x where
  h2 : ph ≤ 2
  xs : x.s.xs = XM p (vwB p) (dB p ph) (x.gv.length : Int)
  mac : ∀ (u : Nat) (w : EXN), x.ws[u]? = some (some w) → (w.t = 4 ∧ w.n = 12) ∧ MAC1 p w.x ∧ atB p ph w.x
  ch : x.ch = 0
  pp : x.pp = []
  one : ∀ u v : Nat, atW x.ws u = 9 → atW x.ws v = 9 → u = v
  gv : x.gv = [] ∨ (x.gv = [p.N] ∧ ph = 2 ∧ givB p = true ∧ ∀ u, atW x.ws u ≠ 9)
  tok : ph = 2 → givB p = true → x.gv = [] → ∃ u, atW x.ws u = 9
  no9 : givB p = false → ∀ u, atW x.ws u ≠ 9
section
variable {p : PR} (hp : okPR p)
include hp
theorem new_mac (ky : Int) : (4 : Int) = 4 ∧ (12 : Int) = 12 ∧ MAC1 p (exMF 4 12 p.U p.sh p.kd ky) ∧ (exMF 4 12 p.U p.sh p.kd ky).at' = 0 := ⟨rfl, rfl, ⟨rfl, rfl, rfl, rfl, rfl, rfl⟩, rfl⟩
theorem chg_same (w : Int) : chgB w w = false := by
  unfold chgB
  rw [ieqR]
  cases h : ieq (cutI w 19 1) 1 <;> cases h2 : ieq (cutI w 20 5) 0 <;> rfl
theorem chg_01 : chgB (vw0 p) (vw1 p) = true := by
  unfold chgB
  have a := vw0_cuts hp
  have b := vw1_cuts hp
  have hU := hp.hU
  rw [a.2.2.2.1, b.2.2.2.1, ieqR, ieqN (show p.U + 1 ≠ 0 by omega)]
  cases (!ieq (cutI (vw0 p) 10 9) (cutI (vw1 p) 10 9)) <;> cases (!bif ieq (cutI (vw0 p) 19 1) 1 then ieq (cutI (vw1 p) 19 1) 1 else !ieq (cutI (vw1 p) 19 1) 1) <;> rfl
theorem chg_12 : chgB (vw1 p) (vw2 p) = false := by
  unfold chgB
  have a := vw1_cuts hp
  have b := vw2_cuts hp
  have hU := hp.hU
  rw [a.2.1, b.2.1, a.2.2.1, b.2.2.1, a.2.2.2.1, ieqR, ieqN (show p.U + 1 ≠ 0 by omega)]
  cases ieq (bitI p.M) 1 <;> rfl
theorem chg_A {ph ph' : Nat} (h1 : ph ≤ ph') (h2 : ph' ≤ ph + 1) (h4 : ph' ≤ 4) : chgB (wA p ph) (wA p ph') = decide (ph = 0 ∧ 0 < ph') := by
  rcases (by omega : ph = ph' ∨ (ph = 0 ∧ ph' = 1) ∨ (ph = 1 ∧ ph' = 2) ∨ (ph = 2 ∧ ph' = 3) ∨ (ph = 3 ∧ ph' = 4)) with rfl | ⟨rfl, rfl⟩ | ⟨rfl, rfl⟩ | ⟨rfl, rfl⟩ | ⟨rfl, rfl⟩
  · rw [chg_same hp]; symm; rw [decide_eq_false_iff_not]; omega
  · exact chg_01 hp
  · exact chg_same hp _
  · exact chg_12 hp
  · exact chg_same hp _
theorem vw_in {x c v : Int} {m : Bool} (hx : 0 ≤ x ∧ x < 512) (hc : 0 ≤ c ∧ c < 32) (hv : 0 ≤ v ∧ v < 262144) : 0 ≤ XW p x m c v ∧ XW p x m c v ≤ 18446744073709551615 := by
  unfold XW putV
  have : 0 ≤ bitI m ∧ bitI m ≤ 1 := by cases m <;> decide
  omega
theorem wA_in (ph : Nat) : 0 ≤ wA p ph ∧ wA p ph ≤ 18446744073709551615 := by
  have a := hp.hV
  have b := hp.hN
  have c := hp.hU
  unfold wA
  split
  · exact vw_in hp (by decide) (by decide) (by omega)
  · split
    · exact vw_in hp (by omega) (by omega) (by omega)
    · exact vw_in hp (by omega) (by decide) (by omega)
theorem vwB_in : 0 ≤ vwB p ∧ vwB p ≤ 18446744073709551615 := by
  have a := hp.hC
  have b := hp.hW
  exact vw_in hp (by decide) (by omega) (by omega)
omit hp in
theorem atW_set {ws : List (Option EXN)} {u v : Nat} (w : EXN) (hu : u < ws.length) : atW (exSet ws u w) v = if u = v then w.x.at' else atW ws v := by
  unfold atW
  by_cases h : u = v
  · subst h
    rw [exSet_get _ hu, if_pos rfl]
  · rw [exSet_ne _ h, if_neg h]
omit hp in
theorem atW_clr {ws : List (Option EXN)} {u v : Nat} (hu : u < ws.length) : atW (exClr ws u) v = if u = v then 0 else atW ws v := by
  unfold atW
  by_cases h : u = v
  · subst h
    rw [exClr_get hu, if_pos rfl]
  · rw [exClr_ne h, if_neg h]
omit hp in
theorem atW_N {p : PR} {k : Int} {x : XCS} {v : Nat} (hu : plU k < x.ws.length) : atW (xcN p k x).ws v = if plU k = v then (if (xcY p.U p.sh p.kd p.ky k x).d = true then 0 else (xcY p.U p.sh p.kd p.ky k x).x.at') else atW x.ws v := by
  unfold xcN
  dsimp only
  cases h : (xcY p.U p.sh p.kd p.ky k x).d with
  | true => rw [cond_true, atW_clr hu, if_pos (rfl : true = true)]
  | false => rw [cond_false, atW_set _ hu, if_neg (Bool.false_ne_true)]
omit hp in
theorem N_get {p : PR} {k : Int} {x : XCS} {v : Nat} {w : EXN} (hu : plU k < x.ws.length) (h : (xcN p k x).ws[v]? = some (some w)) : (plU k = v ∧ (xcY p.U p.sh p.kd p.ky k x).d = false ∧ w = ⟨4, 12, (xcY p.U p.sh p.kd p.ky k x).x⟩) ∨ (plU k ≠ v ∧ x.ws[v]? = some (some w)) := by
  unfold xcN at h
  dsimp only at h
  cases hd : (xcY p.U p.sh p.kd p.ky k x).d with
  | true =>
    rw [hd, cond_true] at h
    by_cases e : plU k = v
    · subst e; rw [exClr_get hu] at h; cases h
    · rw [exClr_ne e] at h; exact .inr ⟨e, h⟩
  | false =>
    rw [hd, cond_false] at h
    by_cases e : plU k = v
    · subst e; rw [exSet_get _ hu] at h
      simp only [Option.some.injEq] at h
      exact .inl ⟨rfl, rfl, h.symm⟩
    · rw [exSet_ne _ e] at h; exact .inr ⟨e, h⟩
omit hp in
theorem N_len {p : PR} {k : Int} {x : XCS} : (xcN p k x).ws.length = x.ws.length := by
  unfold xcN
  dsimp only
  cases (xcY p.U p.sh p.kd p.ky k x).d with
  | true => rw [cond_true, exClr_len]
  | false => rw [cond_false, exSet_len]

theorem XIA.step {n : Int} {k ph : Nat} {x : XCS} (h : XIA p n k ph x) (hk : k + 1 ≤ 1000) {i : Int} (i0 : 0 ≤ i) (i1 : i < n) :
    xcOk n p.U p.sh p.kd p.ky p.A i x ∧ ∃ ph', ph ≤ ph' ∧ XIA p n (k + 1) ph' (xcN p i x) ∧ (ph < 4 → muA ph' (atW (xcN p i x).ws (plU i)) + 1 ≤ muA ph (atW x.ws (plU i))) ∧ ∀ v, v ≠ plU i → atW (xcN p i x).ws v = atW x.ws v := by
  have hul : plU i < x.ws.length := by rw [h.lw]; unfold plU; omega
  have hwho : ((xcWho p.U p.sh p.kd p.ky i x).t = 4 ∧ (xcWho p.U p.sh p.kd p.ky i x).n = 12) ∧ MAC1 p (xcWho p.U p.sh p.kd p.ky i x).x ∧ atA p ph (xcWho p.U p.sh p.kd p.ky i x).x := by
    unfold xcWho
    cases hh : exHas x.ws (plU i) with
    | true => exact h.mac _ _ (exHas_get hh)
    | false =>
      have := new_mac hp p.ky
      exact ⟨⟨rfl, rfl⟩, this.2.2.1, .inl this.2.2.2⟩
  obtain ⟨⟨wt, wn⟩, M, AT⟩ := hwho
  have hat : 0 ≤ (xcWho p.U p.sh p.kd p.ky i x).x.at' ∧ (xcWho p.U p.sh p.kd p.ky i x).x.at' ≤ 9 := by
    rcases AT with q | q | q | q | q | q | q | q <;> omega
  have hU := hp.hU
  have hc0 := h.c0
  have hc1 := h.c1
  have hexok := ex_okE (a := (xcWho p.U p.sh p.kd p.ky i x).x) (s := x.s) hat.1 hat.2 (by rw [M.u]; exact hU) ⟨h.c0, by omega⟩
  obtain ⟨ph', s1, s2, s3, S, sx, sg, sn, sd, smu⟩ := stepA hp h.h4 h.xs M AT
  have hY : xcY p.U p.sh p.kd p.ky i x = exF 4 12 (xcWho p.U p.sh p.kd p.ky i x).x x.s := rfl
  rw [← hY] at S sx sg sn sd smu
  have hA0 : peek x.s.xs p.A = wA p ph := by rw [h.xs, XX.XM_w p hp]
  have hA1 : peek (xcY p.U p.sh p.kd p.ky i x).s.xs p.A = wA p ph' := by rw [sx, XX.XM_w p hp]
  have hpl : x.pp.length ≤ 1000000 := by rw [h.pp]; split <;> decide
  have hgl : x.gv.length ≤ 1000000 := by rw [h.gv]; decide
  refine ⟨⟨i0, i1, h.lw, wt, wn, hexok, by rw [hA0]; exact wA_in hp _, by rw [hA1]; exact wA_in hp _, hpl, hgl⟩, ph', s1, ?_, ?_, ?_⟩
  · refine ⟨⟨h.n1, h.n6, by rw [N_len]; exact h.lw, S.t.trans h.t, S.n.trans h.m, ?_, ?_, hk⟩, s2, sx, ?_, ?_, ?_, ?_⟩
    · show 0 ≤ (xcY p.U p.sh p.kd p.ky i x).s.c
      rw [S.c]; omega
    · show (xcY p.U p.sh p.kd p.ky i x).s.c ≤ _
      rw [S.c]; omega
    · intro v w hw
      rcases N_get hul hw with ⟨_, hd, rfl⟩ | ⟨_, hw⟩
      · obtain ⟨a, b, _⟩ := sn hd
        exact ⟨⟨rfl, rfl⟩, a, b⟩
      · obtain ⟨a, b, c⟩ := h.mac v w hw
        exact ⟨a, b, atA_mono s1 c⟩
    · show (bif chgB (peek x.s.xs p.A) (peek (xcY p.U p.sh p.kd p.ky i x).s.xs p.A) then W (x.ch + 1) else x.ch) = _
      rw [hA0, hA1, chg_A hp s1 s3 s2, h.ch]
      by_cases q : ph = 0 ∧ 0 < ph'
      · rw [decide_eq_true q, cond_true, if_neg (by omega), if_pos q.2]; rfl
      · rw [decide_eq_false q, cond_false]
        by_cases q2 : 0 < ph
        · rw [if_pos q2, if_pos (by omega)]
        · rw [if_neg q2, if_neg (by omega)]
    · show (bif (xcY p.U p.sh p.kd p.ky i x).d && !ieq (xcY p.U p.sh p.kd p.ky i x).x.popped 0 then x.pp ++ [(xcY p.U p.sh p.kd p.ky i x).x.popped] else x.pp) = _
      cases hd : (xcY p.U p.sh p.kd p.ky i x).d with
      | false =>
        obtain ⟨_, _, q⟩ := sn hd
        rw [Bool.false_and, cond_false, h.pp]
        rcases q with q | q
        · by_cases hb : popsB p.sh p.kd = true
          · rw [if_pos ⟨q, hb⟩, if_pos ⟨by omega, hb⟩]
          · rw [if_neg (fun c => hb c.2), if_neg (fun c => hb c.2)]
        · rw [if_neg (by omega), if_neg (by omega)]
      | true =>
        have e := sd hd
        rw [e, Bool.true_and, h.pp]
        by_cases hb : popsB p.sh p.kd = true
        · by_cases q : ph = 0
          · by_cases q2 : 0 < ph'
            · rw [if_pos ⟨q, q2, hb⟩, if_neg (by omega), if_pos ⟨q2, hb⟩]; rfl
            · rw [if_neg (by omega), if_neg (by omega), if_neg (by omega)]; rfl
          · rw [if_neg (by omega), if_pos ⟨by omega, hb⟩, if_pos ⟨by omega, hb⟩]; rfl
        · rw [if_neg (fun c => hb c.2.2), if_neg (fun c => hb c.2), if_neg (fun c => hb c.2)]; rfl
    · show (bif (xcY p.U p.sh p.kd p.ky i x).d && !ieq (xcY p.U p.sh p.kd p.ky i x).x.gave 0 then x.gv ++ [(xcY p.U p.sh p.kd p.ky i x).x.gave] else x.gv) = []
      rw [sg, ieqR, Bool.not_true, Bool.and_false, cond_false, h.gv]
  · intro q
    rw [atW_N hul, if_pos rfl, ← who_at p.U p.sh p.kd p.ky]
    exact smu q
  · intro v hv
    rw [atW_N hul, if_neg (fun e => hv e.symm)]
end
end Go.Sh

namespace Go.Sh
open Go Go.Proofs
variable [Con]
open XX (PR okPR XM XW XD)
section
variable {p : PR} (hp : okPR p)
include hp
theorem XIB.step (hO : p.C ≠ 0 ∧ p.C ≠ p.U + 1 ∨ p.W ≠ p.V) {n : Int} {k ph : Nat} {x : XCS} (h : XIB p n k ph x) (hk : k + 1 ≤ 1000) {i : Int} (i0 : 0 ≤ i) (i1 : i < n) :
    xcOk n p.U p.sh p.kd p.ky p.A i x ∧ ∃ ph', ph ≤ ph' ∧ XIB p n (k + 1) ph' (xcN p i x) ∧ (ph < 2 → muB ph' (atW (xcN p i x).ws (plU i)) + 1 ≤ muB ph (atW x.ws (plU i))) ∧ (∀ v, v ≠ plU i → atW (xcN p i x).ws v = atW x.ws v) ∧ (ph = 2 → atW (xcN p i x).ws (plU i) ≠ 9) := by
  have hul : plU i < x.ws.length := by rw [h.lw]; unfold plU; omega
  have hwho : ((xcWho p.U p.sh p.kd p.ky i x).t = 4 ∧ (xcWho p.U p.sh p.kd p.ky i x).n = 12) ∧ MAC1 p (xcWho p.U p.sh p.kd p.ky i x).x ∧ atB p ph (xcWho p.U p.sh p.kd p.ky i x).x := by
    unfold xcWho
    cases hh : exHas x.ws (plU i) with
    | true => exact h.mac _ _ (exHas_get hh)
    | false =>
      have := new_mac hp p.ky
      exact ⟨⟨rfl, rfl⟩, this.2.2.1, .inl this.2.2.2⟩
  obtain ⟨⟨wt, wn⟩, M, AT⟩ := hwho
  have hat : 0 ≤ (xcWho p.U p.sh p.kd p.ky i x).x.at' ∧ (xcWho p.U p.sh p.kd p.ky i x).x.at' ≤ 9 := by
    rcases AT with q | q | q | q | q <;> omega
  have hU := hp.hU
  have hc0 := h.c0
  have hc1 := h.c1
  have hexok := ex_okE (a := (xcWho p.U p.sh p.kd p.ky i x).x) (s := x.s) hat.1 hat.2 (by rw [M.u]; exact hU) ⟨h.c0, by omega⟩
  have hph2 : (xcWho p.U p.sh p.kd p.ky i x).x.at' = 9 → ph = 2 := by
    intro e
    rcases AT with q | q | q | q | q <;> omega
  obtain ⟨ph', l', s1, s2, S, sx, spo, s9, sn, smu⟩ := stepB hp hO h.h2 h.xs M AT
  have hY : xcY p.U p.sh p.kd p.ky i x = exF 4 12 (xcWho p.U p.sh p.kd p.ky i x).x x.s := rfl
  rw [← hY] at S sx spo s9 sn smu
  have hA0 : peek x.s.xs p.A = vwB p := by rw [h.xs, XX.XM_w p hp]
  have hA1 : peek (xcY p.U p.sh p.kd p.ky i x).s.xs p.A = vwB p := by rw [sx, XX.XM_w p hp]
  have hpl : x.pp.length ≤ 1000000 := by rw [h.pp]; decide
  have hgl : x.gv.length ≤ 1000000 := by rcases h.gv with q | ⟨q, _⟩ <;> rw [q] <;> simp
  have hw9 := who_at p.U p.sh p.kd p.ky i x
  have hoth : ∀ v, v ≠ plU i → atW (xcN p i x).ws v = atW x.ws v := by
    intro v hv
    rw [atW_N hul, if_neg (fun e => hv e.symm)]
  have hme : atW (xcN p i x).ws (plU i) = (if (xcY p.U p.sh p.kd p.ky i x).d = true then 0 else (xcY p.U p.sh p.kd p.ky i x).x.at') := by rw [atW_N hul, if_pos rfl]
  have hcom : XIC n (k + 1) (xcN p i x) := ⟨h.n1, h.n6, by rw [N_len]; exact h.lw, S.t.trans h.t, S.n.trans h.m, by show 0 ≤ (xcY p.U p.sh p.kd p.ky i x).s.c; rw [S.c]; omega, by show (xcY p.U p.sh p.kd p.ky i x).s.c ≤ _; rw [S.c]; omega, hk⟩
  have hch : (xcN p i x).ch = 0 := by
    show (bif chgB (peek x.s.xs p.A) (peek (xcY p.U p.sh p.kd p.ky i x).s.xs p.A) then W (x.ch + 1) else x.ch) = _
    rw [hA0, hA1, chg_same hp, cond_false]; exact h.ch
  have hpp : (xcN p i x).pp = [] := by
    show (bif (xcY p.U p.sh p.kd p.ky i x).d && !ieq (xcY p.U p.sh p.kd p.ky i x).x.popped 0 then x.pp ++ [(xcY p.U p.sh p.kd p.ky i x).x.popped] else x.pp) = []
    rw [spo, ieqR, Bool.not_true, Bool.and_false, cond_false]; exact h.pp
  have hgvd : (xcN p i x).gv = (bif (xcY p.U p.sh p.kd p.ky i x).d && !ieq (xcY p.U p.sh p.kd p.ky i x).x.gave 0 then x.gv ++ [(xcY p.U p.sh p.kd p.ky i x).x.gave] else x.gv) := rfl
  refine ⟨⟨i0, i1, h.lw, wt, wn, hexok, by rw [hA0]; exact vwB_in hp, by rw [hA1]; exact vwB_in hp, hpl, hgl⟩, ph', s1, ?_, ?_, hoth, ?_⟩
  · by_cases q9 : (xcWho p.U p.sh p.kd p.ky i x).x.at' = 9
    · -- the node is given back
      obtain ⟨d1, d2, d3, d4⟩ := s9 q9
      have hp2 := hph2 q9
      rw [hw9] at q9
      have hgv0 : x.gv = [] := by
        rcases h.gv with q | ⟨_, _, _, q⟩
        · exact q
        · exact (q _ q9).elim
      have hgiv : givB p = true := by
        cases hg : givB p with
        | true => rfl
        | false => exact (h.no9 hg _ q9).elim
      have hN : p.N ≠ 0 := by
        unfold givB nodeB at hgiv
        have := (Bool.and_eq_true_iff.1 (Bool.and_eq_true_iff.1 hgiv).2).1
        rw [ile_eq] at this
        have := of_decide_eq_true this
        omega
      have hgv' : (xcN p i x).gv = [p.N] := by
        rw [hgvd, d1, d2, ieqN hN, hgv0]; rfl
      have hnone : ∀ v, atW (xcN p i x).ws v ≠ 9 := by
        intro v hv
        by_cases e : v = plU i
        · rw [e, hme, if_pos d1] at hv; omega
        · rw [hoth v e] at hv
          exact e (h.one v _ hv q9)
      refine ⟨hcom, s2, ?_, ?_, hch, hpp, fun u v hu => (hnone u hu).elim, .inr ⟨hgv', by omega, hgiv, hnone⟩, fun _ _ e => (by rw [hgv'] at e; cases e), fun e => (by rw [hgiv] at e; cases e)⟩
      · show (xcY p.U p.sh p.kd p.ky i x).s.xs = _
        rw [sx, d3, hgv', hgv0]; rfl
      · intro v w hw
        rcases N_get hul hw with ⟨_, hd, rfl⟩ | ⟨_, hw⟩
        · rw [d1] at hd; cases hd
        · obtain ⟨a, b, c⟩ := h.mac v w hw
          exact ⟨a, b, atB_mono s1 s2 c⟩
    · obtain ⟨d1, d2, d3, d4⟩ := sn q9
      rw [hw9] at q9
      have hgv' : (xcN p i x).gv = x.gv := by rw [hgvd, d1, ieqR, Bool.not_true, Bool.and_false, cond_false]
      have hnew : atW (xcN p i x).ws (plU i) = 9 ↔ (ph < 2 ∧ ph' = 2 ∧ givB p = true) := by
        rw [hme, ← d4]
        cases hd : (xcY p.U p.sh p.kd p.ky i x).d with
        | true => rw [if_pos rfl]; exact ⟨fun e => by omega, fun e => by cases e.1⟩
        | false => rw [if_neg Bool.false_ne_true]; exact ⟨fun e => ⟨rfl, e⟩, fun e => e.2⟩
      have h9old : ∀ v, atW x.ws v = 9 → ph = 2 := by
        intro v hv
        have : ∃ w, x.ws[v]? = some (some w) ∧ w.x.at' = 9 := by
          unfold atW at hv
          split at hv
          · rename_i w e; exact ⟨w, e, hv⟩
          · omega
        obtain ⟨w, e1, e2⟩ := this
        obtain ⟨_, _, c⟩ := h.mac v w e1
        rcases c with q | q | q | q | q <;> omega
      refine ⟨hcom, s2, ?_, ?_, hch, hpp, ?_, ?_, ?_, ?_⟩
      · show (xcY p.U p.sh p.kd p.ky i x).s.xs = _
        rw [sx, d2, hgv']
      · intro v w hw
        rcases N_get hul hw with ⟨_, hd, rfl⟩ | ⟨_, hw⟩
        · obtain ⟨a, b⟩ := d3 hd
          exact ⟨⟨rfl, rfl⟩, a, b⟩
        · obtain ⟨a, b, c⟩ := h.mac v w hw
          exact ⟨a, b, atB_mono s1 s2 c⟩
      · intro u v hu hv
        by_cases eu : u = plU i
        · by_cases ev : v = plU i
          · rw [eu, ev]
          · rw [eu] at hu
            rw [hoth v ev] at hv
            have a := hnew.1 hu
            have b := h9old v hv
            omega
        · by_cases ev : v = plU i
          · rw [ev] at hv
            rw [hoth u eu] at hu
            have a := hnew.1 hv
            have b := h9old u hu
            omega
          · rw [hoth u eu] at hu
            rw [hoth v ev] at hv
            exact h.one u v hu hv
      · rcases h.gv with q | ⟨q1, q2, q3, q4⟩
        · exact .inl (hgv'.trans q)
        · refine .inr ⟨hgv'.trans q1, by omega, q3, fun v hv => ?_⟩
          by_cases e : v = plU i
          · rw [e] at hv
            have := hnew.1 hv
            omega
          · rw [hoth v e] at hv
            exact q4 v hv
      · intro e2 eg egv
        by_cases q2 : ph = 2
        · obtain ⟨u, hu⟩ := h.tok q2 eg (hgv'.symm.trans egv)
          refine ⟨u, ?_⟩
          have : u ≠ plU i := fun e => q9 (by rw [← e]; exact hu)
          rw [hoth u this]; exact hu
        · exact ⟨plU i, hnew.2 ⟨by have := h.h2; omega, e2, eg⟩⟩
      · intro eg v hv
        by_cases e : v = plU i
        · rw [e] at hv
          have := (hnew.1 hv).2.2
          rw [eg] at this; cases this
        · rw [hoth v e] at hv
          exact h.no9 eg v hv
  · intro q
    rw [hme, ← hw9]
    exact smu q
  · intro q e
    rw [hme] at e
    by_cases q9 : (xcWho p.U p.sh p.kd p.ky i x).x.at' = 9
    · obtain ⟨d1, _⟩ := s9 q9
      rw [if_pos d1] at e; omega
    · obtain ⟨_, _, _, d4⟩ := sn q9
      cases hd : (xcY p.U p.sh p.kd p.ky i x).d with
      | true => rw [hd, if_pos rfl] at e; omega
      | false =>
        rw [hd, if_neg Bool.false_ne_true] at e
        have := d4.1 ⟨hd, e⟩
        omega
end
def XI (p : PR) (n : Int) (k ph : Nat) (x : XCS) : Prop := if matB p = true then XIA p n k ph x else XIB p n k ph x
def finP (p : PR) : Nat := if matB p = true then 4 else 2
def muP (p : PR) (ph : Nat) (a : Int) : Nat := if matB p = true then muA ph a else muB ph a
structure XQ (p : PR) (r j ph : Nat) (x : XCS) : Prop where
  mu : r + (if 0 < j then 1 else 0) ≤ 12 → ph = finP p ∨ muP p ph (atW x.ws 0) + r + (if 0 < j then 1 else 0) ≤ 12
  fin : 12 ≤ r + (if 0 < j then 1 else 0) → ph = finP p
  no : r = 13 → ∀ u, u < j → atW x.ws u ≠ 9
  non : 14 ≤ r → ∀ u, atW x.ws u ≠ 9
structure okPW (p : PR) : Prop extends okPR p where
  hO : matB p = false → p.C ≠ 0 ∧ p.C ≠ p.U + 1 ∨ p.W ≠ p.V
theorem muP_pos {p : PR} {ph : Nat} (a : Int) (h : ph < finP p) : 0 < muP p ph a := by
  unfold finP at h
  unfold muP
  by_cases m : matB p = true
  · rw [if_pos m] at h ⊢
    unfold muA; repeat' split
    all_goals omega
  · rw [if_neg m] at h ⊢
    unfold muB; repeat' split
    all_goals omega
theorem muP_ten {p : PR} (ph : Nat) (a : Int) : muP p ph a ≤ 12 := by
  unfold muP
  split
  · unfold muA; repeat' split
    all_goals omega
  · unfold muB; repeat' split
    all_goals omega
theorem muP_mono {p : PR} {ph ph' : Nat} (a : Int) (h : ph ≤ ph') : muP p ph' a ≤ muP p ph a := by
  unfold muP
  split
  · exact muA_mono a h
  · exact muB_mono a h
theorem XI.le {p : PR} {n : Int} {k ph : Nat} {x : XCS} (h : XI p n k ph x) : ph ≤ finP p := by
  unfold XI at h
  unfold finP
  split at h
  · rename_i m; rw [if_pos m]; exact h.h4
  · rename_i m; rw [if_neg m]; exact h.h2
theorem XI.com {p : PR} {n : Int} {k ph : Nat} {x : XCS} (h : XI p n k ph x) : XIC n k x := by
  unfold XI at h
  split at h
  · exact h.toXIC
  · exact h.toXIC
theorem XI.step {p : PR} (hp : okPW p) {n : Int} {k ph : Nat} {x : XCS} (h : XI p n k ph x) (hk : k + 1 ≤ 1000) {i : Int} (i0 : 0 ≤ i) (i1 : i < n) :
    xcOk n p.U p.sh p.kd p.ky p.A i x ∧ ∃ ph', ph ≤ ph' ∧ XI p n (k + 1) ph' (xcN p i x) ∧ (ph < finP p → muP p ph' (atW (xcN p i x).ws (plU i)) + 1 ≤ muP p ph (atW x.ws (plU i))) ∧ (∀ v, v ≠ plU i → atW (xcN p i x).ws v = atW x.ws v) ∧ (ph = finP p → atW (xcN p i x).ws (plU i) ≠ 9) := by
  by_cases m : matB p = true
  · unfold XI at h ⊢
    unfold finP muP
    simp only [if_pos m] at h ⊢
    obtain ⟨a, ph', b, c, d, e⟩ := h.step hp.tookPR hk i0 i1
    refine ⟨a, ph', b, c, d, e, fun _ e9 => ?_⟩
    unfold atW at e9
    split at e9
    · rename_i w hw
      obtain ⟨_, _, q⟩ := c.mac _ w hw
      rcases q with q | q | q | q | q | q | q | q <;> omega
    · omega
  · have m' : matB p = false := by cases h : matB p with
      | true => exact (m h).elim
      | false => rfl
    unfold XI at h ⊢
    unfold finP muP
    simp only [if_neg m] at h ⊢
    exact h.step hp.tookPR (hp.hO m') hk i0 i1
theorem XQ.init {p : PR} {ph : Nat} {x : XCS} : XQ p 0 0 ph x :=
  ⟨fun _ => .inr (by have := muP_ten (p := p) ph (atW x.ws 0); simp; exact this), fun h => by simp at h, fun h => by omega, fun h => by omega⟩
theorem XQ.step {p : PR} {n : Int} {k r j ph ph' : Nat} {x x' : XCS} (q : XQ p r j ph x) (h : XI p n k ph x) (hle : ph ≤ ph') (h' : XI p n (k + 1) ph' x')
    (hmu : ph < finP p → muP p ph' (atW x'.ws j) + 1 ≤ muP p ph (atW x.ws j)) (hoth : ∀ v, v ≠ j → atW x'.ws v = atW x.ws v) (hno : ph = finP p → atW x'.ws j ≠ 9) : XQ p r (j + 1) ph' x' := by
  have l1 := h.le
  have l2 := h'.le
  refine ⟨?_, ?_, ?_, ?_⟩
  · rw [if_pos (by omega)]
    intro hr
    by_cases e : ph = finP p
    · exact .inl (by omega)
    · right
      by_cases hj : j = 0
      · subst hj
        have := hmu (by omega)
        rcases q.mu (by simp; omega) with c | c
        · exact (e c).elim
        · simp at c; omega
      · rcases q.mu (by rw [if_pos (by omega)]; exact hr) with c | c
        · exact (e c).elim
        · rw [if_pos (by omega)] at c
          rw [hoth 0 (by omega)]
          have := muP_mono (p := p) (atW x.ws 0) hle
          omega
  · rw [if_pos (by omega)]
    intro hr
    by_cases e : ph = finP p
    · omega
    · by_cases hj : j = 0
      · subst hj
        have := hmu (by omega)
        by_cases h12 : 12 ≤ r
        · exact (e (q.fin (by simp; exact h12))).elim
        · rcases q.mu (by simp; omega) with c | c
          · exact (e c).elim
          · simp at c
            by_cases e' : ph' = finP p
            · exact e'
            · have := muP_pos (p := p) (atW x'.ws 0) (show ph' < finP p by omega)
              omega
      · exact (e (q.fin (by rw [if_pos (by omega)]; exact hr))).elim
  · intro hr u hu
    by_cases e : u = j
    · subst e
      exact hno (q.fin (by omega))
    · rw [hoth u e]
      exact q.no hr u (by omega)
  · intro hr u
    by_cases e : u = j
    · subst e
      exact hno (q.fin (by omega))
    · rw [hoth u e]
      exact q.non hr u
theorem XQ.next {p : PR} {r j ph : Nat} {x : XCS} (q : XQ p r j ph x) (hj : 0 < j) (hall : ∀ u, j ≤ u → atW x.ws u ≠ 9) : XQ p (r + 1) 0 ph x := by
  refine ⟨?_, ?_, fun _ u hu => by omega, ?_⟩
  · intro hr
    rw [if_neg (by omega)] at hr
    rcases q.mu (by rw [if_pos hj]; omega) with c | c
    · exact .inl c
    · right
      rw [if_pos hj] at c
      simp; omega
  · intro hr
    rw [if_neg (by omega)] at hr
    exact q.fin (by rw [if_pos hj]; omega)
  · intro hr u
    by_cases h13 : r = 13
    · by_cases hu : u < j
      · exact q.no h13 u hu
      · exact hall u (by omega)
    · exact q.non (by omega) u
end Go.Sh

namespace Go.Sh
open Go Go.Proofs
variable [Con]
def xcS : Spec Ob := fun args h => match args, h with
  | [.int .i64 k, .ptr 0 0, .ptr 2 0, .ptr 3 0, .ptr 4 0, .ptr 5 0, .ptr 8 0, .ptr 9 0, .ptr 10 0, .ptr 12 0], [some (.cells [.slice 1 0 nn 1]), some (.abs (.exrow ws) []), some (.cells [.int .i64 q4, .int .i64 q12]), some (.cells [.int .i64 u]), some (.cells [.int .i64 sh, .int .i64 kd, .int .i64 ky]), some (.cells [.ptr 6 0]), e6, e7, some (.cells [.int .i64 nd]), some (.cells [.int .i64 ch]), some (.cells [.slice 11 0 lp 1]), some (.ints (some .i64) pp), some (.cells [.slice 13 0 lg 1]), some (.ints (some .i64) gv)] => (match memL 7 [e6, e7] with
    | some (l, s) => some (.pre ((q4 = 4 ∧ q12 = 12 ∧ l = s.xs.length ∧ lp = pp.length ∧ lg = gv.length) ∧ xcOk (nn : Int) u sh kd ky nd k ⟨ws, s, ch, pp, gv⟩) (xcOut (nn : Int) u sh kd ky nd k ⟨ws, s, ch, pp, gv⟩ (xcY u sh kd ky k ⟨ws, s, ch, pp, gv⟩)))
    | none => none)
  | _, _ => none
set_option maxHeartbeats 0 in
theorem xc_ok : Spec.ok (obI tbl) Try.prog 20 xcS := by
  intro args h o ho K hK
  unfold xcS at ho
  split at ho
  case h_2 => cases ho
  rename_i k nn ws q4 q12 u sh kd ky e6 e7 nd ch lp pp lg gv
  split at ho
  case h_2 => cases ho
  rename_i l s hm
  simp only [Option.some.injEq] at ho; subst ho
  obtain ⟨⟨⟨rfl, rfl, hl, rfl, rfl⟩, ok⟩, hK⟩ := hK
  have hh := memL_eq hm hl
  simp only [List.cons.injEq, and_true] at hh
  obtain ⟨rfl, rfl⟩ := hh
  exact xc_sum ok hK
def propS16 : Spec Ob := fun args h => match args, h with
  | [.agg [.int .u8 th, .int .u8 nd, .int .u8 nx, .int .u16 ver, .bool mk, .int .u8 od, .int .u8 do', .int .u8 va]], [] => some (.pre ((0 ≤ th ∧ th ≤ 255) ∧ (0 ≤ nd ∧ nd ≤ 255) ∧ (0 ≤ nx ∧ nx ≤ 255) ∧ (0 ≤ ver ∧ ver ≤ 65535) ∧ (0 ≤ va ∧ va ≤ 255)) (.ret (.tup [.ptr 0 0, .agg [.int .i64 4, .int .i64 12], .agg [.int .i64 (XX.prSh do'), .int .i64 (XX.prKd do'), .int .i64 (XX.prKy do')]]) [memC 1 (XX.PS0 (XX.prOf th nd nx ver od do' va mk)), memX (XX.PS0 (XX.prOf th nd nx ver od do' va mk))]))
  | _, _ => none
theorem prop16_ok : Spec.ok (obI tbl) Try.prog 17 propS16 := by
  intro args h o ho K hK
  unfold propS16 at ho
  split at ho
  case h_2 => cases ho
  simp only [Option.some.injEq] at ho; subst ho
  obtain ⟨⟨h1, h2, h3, h4, h5⟩, hK⟩ := hK
  exact XX.prop_print _ _ _ _ _ _ _ _ K (XX.prop_sum h1 h2 h3 h4 h5 K hK)
def givL (n : Int) : List Int := bif ieq n 0 then [] else [n]
def givVC (n : Int) (K : AVal → Heap Ob → Prop) : Prop := bif ieq n 0 then K (.slice 0 0 0 1) [some (.ints (some .i64) [])] else K (.slice 0 0 1 1) [some (.ints (some .i64) [n])]
theorem giv_print (n : Int) (K : AVal → Heap Ob → Prop) (h : givVC n K) : CallOk (obI tbl) Try.prog 25 [.int .i64 n] [] K := by
  refine CallOk.castR (cs := [(.slot 0, .ints (some .i64))]) (callOk_of (E := EC6) Try.checked.mixed (L := LL) (n := 10) (of_nf (q := givVC n K) (by kernel_rfl) h))
def givS : Spec Ob := fun args h => match args, h with
  | [.int .i64 n], [] => some (.ret (.slice 0 0 (givL n).length 1) [some (.ints (some .i64) (givL n))])
  | _, _ => none
theorem giv_ok : Spec.ok (obI tbl) Try.prog 25 givS := by
  intro args h o ho K hK
  unfold givS at ho
  split at ho
  case h_2 => cases ho
  rename_i n
  simp only [Option.some.injEq] at ho; subst ho
  have hK : K (.slice 0 0 (givL n).length 1) [some (.ints (some .i64) (givL n))] := hK
  refine giv_print n K ?_
  unfold givVC
  unfold givL at hK
  cases h : ieq n 0 with
  | true => rw [h] at hK; exact hK
  | false => rw [h] at hK; exact hK
noncomputable def EXL0 := ((((EC6n.addS 20 xcS xc_ok).addS 16 XX.awake16S XX.awake16_ok).addS 17 propS16 prop16_ok).addS 25 givS giv_ok).addS 24 (Spec.or intsS.spec (castSpec [(.slot 1, .ints (some .i64))] intsS.spec)) (Spec.or_ok ints_ok (castSpec_ok ints_ok))
noncomputable def EXL : Env Ob Try.prog := { EXL0 with row := RKex.ops Try.prog (RKex.toRowK.opsL Try.prog (RKex.toRowK.ops Try.prog)), rowOk := RowP.ops_ok RKex (RowK.opsL_ok RKex.toRowK (RowK.ops_ok RKex.toRowK)), fld := RKex.toRowK.fld Try.prog, fldOk := RKex.toRowK.fld_ok }
end Go.Sh

namespace Go.Sh
open Go Go.Proofs
variable [Con]
structure okX1 (p : XX.PR) (n : Int) (os : List Int) (x : Nat × XCS) : Prop where
  hi : x.1 ≤ os.length
  h2 : os.length ≤ 300
  ex : ∃ ph, XI p n x.1 ph x.2
structure okX2 (p : XX.PR) (n : Int) (x : Nat × XCS) : Prop where
  hi : x.1 ≤ 30
  ex : ∃ ph, XI p n (300 + 6 * x.1) ph x.2 ∧ XQ p x.1 0 ph x.2
structure okX3 (p : XX.PR) (n : Int) (r : Int) (x : Nat × XCS) : Prop where
  r0 : 0 ≤ r ∧ r < 30
  hi : x.1 ≤ n.toNat
  ex : ∃ ph, XI p n (300 + 6 * r.toNat + x.1) ph x.2 ∧ XQ p r.toNat x.1 ph x.2
def HX1 (p : XX.PR) (n : Int) (th nd nx ver od do' va : Int) (mk : Bool) (os : List Int) : Hint Ob := { X := Nat × XCS, st := fun x => (List.replicate 3 .top ++ [.ptr 0 0] ++ List.replicate 3 .top ++ [.ptr 1 0] ++ [.ptr 4 0] ++ [.ptr 5 0] ++ [.ptr 6 0] ++ [.ptr 7 0] ++ [.int .i64 p.N] ++ [.ptr 8 0] ++ [.int .u64 0] ++ [.ptr 9 0] ++ [.ptr 11 0] ++ [.ptr 13 0] ++ [.ptr 15 0] ++ [.func (Fn.func 20) [] [.ptr 9 0, .ptr 4 0, .ptr 6 0, .ptr 5 0, .ptr 1 0, .ptr 7 0, .ptr 15 0, .ptr 11 0, .ptr 13 0]] ++ List.replicate 49 .top ++ [.iview (some .u8) os] ++ [.int .i64 (os.length : Int)] ++ [.int .i64 (x.1 : Int)] ++ List.replicate 145 .top, [some (.cells [.int .u8 th, .int .u8 nd, .int .u8 nx, .int .u16 ver, .bool mk, .int .u8 od, .int .u8 do', .int .u8 va]), some (.cells [.ptr 2 0]), memC 3 x.2.s, memX x.2.s, some (.cells [.int .i64 4, .int .i64 12]), some (.cells [.int .i64 p.sh, .int .i64 p.kd, .int .i64 p.ky]), some (.cells [.int .i64 p.U]), some (.cells [.int .i64 p.A]), some (.cells [.int .i64 7, .int .i64 9, .bool false, .int .i64 p.C, .int .i64 p.W]), some (.cells [.slice 10 0 n.toNat 1]), some (.abs (.exrow x.2.ws) []), some (.cells [.slice 12 0 x.2.pp.length 1]), some (.ints (some .i64) x.2.pp), some (.cells [.slice 14 0 x.2.gv.length 1]), some (.ints (some .i64) x.2.gv), some (.cells [.int .i64 x.2.ch])]), ok := okX1 p n os, mu := fun x => os.length - x.1, keep := [3, 7, 8, 9, 10, 11, 12, 13, 14, 15, 16, 17, 18, 19, 69, 70, 71], casts := [(.cell 11 0, .ints (some .i64)), (.cell 12 0, .ints (some .i64)), (.cell 13 0, .ints (some .i64))] }
def HX2 (p : XX.PR) (n : Int) (th nd nx ver od do' va : Int) (mk : Bool) : Hint Ob := { X := Nat × XCS, st := fun x => (List.replicate 3 .top ++ [.ptr 0 0] ++ List.replicate 3 .top ++ [.ptr 1 0] ++ [.ptr 4 0] ++ [.ptr 5 0] ++ [.ptr 6 0] ++ [.ptr 7 0] ++ [.int .i64 p.N] ++ [.ptr 8 0] ++ [.int .u64 0] ++ [.ptr 9 0] ++ [.ptr 11 0] ++ [.ptr 13 0] ++ [.ptr 15 0] ++ [.func (Fn.func 20) [] [.ptr 9 0, .ptr 4 0, .ptr 6 0, .ptr 5 0, .ptr 1 0, .ptr 7 0, .ptr 15 0, .ptr 11 0, .ptr 13 0]] ++ List.replicate 2 .top ++ [.int .i64 (x.1 : Int)] ++ List.replicate 194 .top, [some (.cells [.int .u8 th, .int .u8 nd, .int .u8 nx, .int .u16 ver, .bool mk, .int .u8 od, .int .u8 do', .int .u8 va]), some (.cells [.ptr 2 0]), memC 3 x.2.s, memX x.2.s, some (.cells [.int .i64 4, .int .i64 12]), some (.cells [.int .i64 p.sh, .int .i64 p.kd, .int .i64 p.ky]), some (.cells [.int .i64 p.U]), some (.cells [.int .i64 p.A]), some (.cells [.int .i64 7, .int .i64 9, .bool false, .int .i64 p.C, .int .i64 p.W]), some (.cells [.slice 10 0 n.toNat 1]), some (.abs (.exrow x.2.ws) []), some (.cells [.slice 12 0 x.2.pp.length 1]), some (.ints (some .i64) x.2.pp), some (.cells [.slice 14 0 x.2.gv.length 1]), some (.ints (some .i64) x.2.gv), some (.cells [.int .i64 x.2.ch])]), ok := okX2 p n, mu := fun x => 30 - x.1, keep := [3, 7, 8, 9, 10, 11, 12, 13, 14, 15, 16, 17, 18, 19, 22], casts := [(.cell 11 0, .ints (some .i64)), (.cell 12 0, .ints (some .i64)), (.cell 13 0, .ints (some .i64))] }
def HX3 (p : XX.PR) (n : Int) (th nd nx ver od do' va : Int) (mk : Bool) (r : Int) : Hint Ob := { X := Nat × XCS, st := fun x => (List.replicate 3 .top ++ [.ptr 0 0] ++ List.replicate 3 .top ++ [.ptr 1 0] ++ [.ptr 4 0] ++ [.ptr 5 0] ++ [.ptr 6 0] ++ [.ptr 7 0] ++ [.int .i64 p.N] ++ [.ptr 8 0] ++ [.int .u64 0] ++ [.ptr 9 0] ++ [.ptr 11 0] ++ [.ptr 13 0] ++ [.ptr 15 0] ++ [.func (Fn.func 20) [] [.ptr 9 0, .ptr 4 0, .ptr 6 0, .ptr 5 0, .ptr 1 0, .ptr 7 0, .ptr 15 0, .ptr 11 0, .ptr 13 0]] ++ List.replicate 2 .top ++ [.int .i64 r] ++ List.replicate 65 .top ++ [.int .i64 ((Int.toNat n : Nat) : Int)] ++ [.int .i64 (x.1 : Int)] ++ List.replicate 127 .top, [some (.cells [.int .u8 th, .int .u8 nd, .int .u8 nx, .int .u16 ver, .bool mk, .int .u8 od, .int .u8 do', .int .u8 va]), some (.cells [.ptr 2 0]), memC 3 x.2.s, memX x.2.s, some (.cells [.int .i64 4, .int .i64 12]), some (.cells [.int .i64 p.sh, .int .i64 p.kd, .int .i64 p.ky]), some (.cells [.int .i64 p.U]), some (.cells [.int .i64 p.A]), some (.cells [.int .i64 7, .int .i64 9, .bool false, .int .i64 p.C, .int .i64 p.W]), some (.cells [.slice 10 0 n.toNat 1]), some (.abs (.exrow x.2.ws) []), some (.cells [.slice 12 0 x.2.pp.length 1]), some (.ints (some .i64) x.2.pp), some (.cells [.slice 14 0 x.2.gv.length 1]), some (.ints (some .i64) x.2.gv), some (.cells [.int .i64 x.2.ch])]), ok := okX3 p n r, mu := fun x => n.toNat - x.1, keep := [3, 7, 8, 9, 10, 11, 12, 13, 14, 15, 16, 17, 18, 19, 22, 88, 89], casts := [(.cell 11 0, .ints (some .i64)), (.cell 12 0, .ints (some .i64)), (.cell 13 0, .ints (some .i64))] }
def xlPl (p : XX.PR) (n : Int) (th nd nx ver od do' va : Int) (mk : Bool) (os : List Int) : FuncId → Nat → Option (Plan Ob) := fun _ k => if k = 16 then some (.states (HX1 p n th nd nx ver od do' va mk os)) else if k = 21 then some (.states (HX2 p n th nd nx ver od do' va mk)) else if k = 24 then some (.statesAt 22 (HX3 p n th nd nx ver od do' va mk)) else none
def xl1 (os : List Int) (x : (Nat × XCS)) := (List.getD os (Int.toNat (↑x.1 : Int)) 0)
def xl2 (p : XX.PR) (x_1 : (Nat × XCS)) := (xcY p.1 p.9 p.10 p.11 (↑x_1.1 : Int) x_1.2)
def xl3 (p : XX.PR) (n : Int) (th : Int) (nd : Int) (nx : Int) (ver : Int) (od : Int) (do' : Int) (va : Int) (mk : Bool) (x : (Nat × XCS)) := (HX3 p n th nd nx ver od do' va mk (↑x.1 : Int))
def xl4 (n : Int) (os : List Int) (x : (Nat × XCS)) := (Int.tmod (W (xl1 os x)) (↑(Int.toNat n) : Int))
def xl5 (p : XX.PR) (n : Int) (os : List Int) (x : (Nat × XCS)) := (xcY p.1 p.9 p.10 p.11 (xl4 n os x) x.2)
def xl6 (p : XX.PR) (x : (Nat × XCS)) := (peek x.2.2.3 (2 * 12 + 5 + 2 * 4 + 3 * p.1 + 2))
def xl7 (p : XX.PR) (n : Int) (os : List Int) (x : (Nat × XCS)) := (xcY (XX.PR.U p) (XX.PR.sh p) (XX.PR.kd p) (XX.PR.ky p) (xl4 n os x) x.2)
def xl8 (p : XX.PR) (n : Int) (os : List Int) (x : (Nat × XCS)) := (xcLeft (exClr x.2.1 (plU (xl4 n os x))) x.2 p.2 (xl5 p n os x) x.2.4 x.2.5)
def xl9 (p : XX.PR) (x_1 : (Nat × XCS)) := (xcY (XX.PR.U p) (XX.PR.sh p) (XX.PR.kd p) (XX.PR.ky p) (↑x_1.1 : Int) x_1.2)
def xl10 (p : XX.PR) (n : Int) (os : List Int) (x : (Nat × XCS)) := (exSet x.2.1 (plU (xl4 n os x)) { t := 4, n := 12, x := ExO.x (xl7 p n os x) })
def xl11 (p : XX.PR) (n : Int) (os : List Int) (x : (Nat × XCS)) := (xcLeft (xl10 p n os x) x.2 p.2 (xl5 p n os x) x.2.4 x.2.5)
def xl12 (p : XX.PR) (n : Int) (x : (Nat × XCS)) (x_1 : (Nat × XCS)) := (exSet x_1.2.1 (plU (↑x_1.1 : Int)) { t := 4, n := 12, x := ExO.x (xl9 p x_1) })
def xl13 (p : XX.PR) (n : Int) (x : (Nat × XCS)) (x_1 : (Nat × XCS)) := (xcLeft (xl12 p n x x_1) x_1.2 p.2 (xl2 p x_1) x_1.2.4 x_1.2.5)
def xl14 (p : XX.PR) (x_1 : (Nat × XCS)) := (xcLeft (exClr x_1.2.1 (plU (↑x_1.1 : Int))) x_1.2 p.2 (xl2 p x_1) x_1.2.4 x_1.2.5)
def xl15 (n : Int) (x_1 : (Nat × XCS)) := ((.int .i64 (↑(Int.toNat n) : Int)) :: (.int .i64 (W ((↑x_1.1 : Int) + 1))) :: tops 127 ([]))
def xl16 (p : XX.PR) (n : Int) (os : List Int) (x : (Nat × XCS)) := (xcLeft (exClr x.2.1 (plU (xl4 n os x))) x.2 p.2 (xl5 p n os x) (x.2.4 ++ [(ExO.x (xl5 p n os x)).1]) x.2.5)
def xl17 (p : XX.PR) (n : Int) (os : List Int) (x : (Nat × XCS)) := (xcLeft (exClr x.2.1 (plU (xl4 n os x))) x.2 p.2 (xl5 p n os x) x.2.4 (x.2.5 ++ [(ExO.x (xl5 p n os x)).2]))
def xl18 (p : XX.PR) (x_1 : (Nat × XCS)) := (xcLeft (exClr x_1.2.1 (plU (↑x_1.1 : Int))) x_1.2 p.2 (xl2 p x_1) (x_1.2.4 ++ [(ExO.x (xl2 p x_1)).1]) x_1.2.5)
def xl19 (p : XX.PR) (x_1 : (Nat × XCS)) := (xcLeft (exClr x_1.2.1 (plU (↑x_1.1 : Int))) x_1.2 p.2 (xl2 p x_1) x_1.2.4 (x_1.2.5 ++ [(ExO.x (xl2 p x_1)).2]))
def xl20 (os : List Int) (x : (Nat × XCS)) := ((.iview (some .u8) os) :: (.int .i64 (↑(List.length os) : Int)) :: (.int .i64 (W ((↑x.1 : Int) + 1))) :: tops 145 ([]))
def xl21 (p : XX.PR) (n : Int) (os : List Int) (x : (Nat × XCS)) := (xcLeft (exClr x.2.1 (plU (xl4 n os x))) x.2 p.2 (xl5 p n os x) (x.2.4 ++ [(ExO.x (xl5 p n os x)).1]) (x.2.5 ++ [(ExO.x (xl5 p n os x)).2]))
def xl22 (p : XX.PR) (x_1 : (Nat × XCS)) := (xcLeft (exClr x_1.2.1 (plU (↑x_1.1 : Int))) x_1.2 p.2 (xl2 p x_1) (x_1.2.4 ++ [(ExO.x (xl2 p x_1)).1]) (x_1.2.5 ++ [(ExO.x (xl2 p x_1)).2]))
def xl23 (th : Int) (nd : Int) (nx : Int) (ver : Int) (od : Int) (do' : Int) (va : Int) (mk : Bool) := (XX.XD { U := Int.tmod th 4, A := 1 + Int.tmod nd 12, N := Int.tmod nx 13, V := ver, X := va, M := mk, W := XX.prW od ver, C := XX.prC od th, sh := XX.prSh do', kd := XX.prKd do', ky := XX.prKy do' } 2)
def xl24 (th : Int) (nd : Int) (nx : Int) (ver : Int) (od : Int) (do' : Int) (va : Int) (mk : Bool) := (XX.XW { U := Int.tmod th 4, A := 1 + Int.tmod nd 12, N := Int.tmod nx 13, V := ver, X := va, M := mk, W := XX.prW od ver, C := XX.prC od th, sh := XX.prSh do', kd := XX.prKd do', ky := XX.prKy do' } 9 false (XX.prC od th) (XX.prW od ver))
def xl25 (th : Int) (nd : Int) (nx : Int) (ver : Int) (od : Int) (do' : Int) (va : Int) (mk : Bool) := (XX.XM { U := Int.tmod th 4, A := 1 + Int.tmod nd 12, N := Int.tmod nx 13, V := ver, X := va, M := mk, W := XX.prW od ver, C := XX.prC od th, sh := XX.prSh do', kd := XX.prKd do', ky := XX.prKy do' } (xl24 th nd nx ver od do' va mk) (xl23 th nd nx ver od do' va mk) 0)
def xl26 (th : Int) (nd : Int) (nx : Int) (ver : Int) (od : Int) (do' : Int) (va : Int) (mk : Bool) := (peek (xl25 th nd nx ver od do' va mk) (W (1 + Int.tmod (W nd) 12)))
def xlVC (p : XX.PR) (n : Int) (th nd nx ver od do' va many : Int) (mk : Bool) (os : List Int) (K : AVal → Heap Ob → Prop) : Prop := True ∧ bif ilt 300 (↑(List.length os) : Int) then K (.bool true) [] else (((0 : Int) ≤ th ∧ th ≤ (255 : Int)) ∧ ((0 : Int) ≤ nd ∧ nd ≤ (255 : Int)) ∧ ((0 : Int) ≤ nx ∧ nx ≤ (255 : Int)) ∧ ((0 : Int) ≤ ver ∧ ver ≤ (65535 : Int)) ∧ (0 : Int) ≤ va ∧ va ≤ (255 : Int)) ∧ (4 : Int) ≠ (0 : Int) ∧ (12 : Int) ≠ (0 : Int) ∧ (13 : Int) ≠ (0 : Int) ∧ (List.length (xl25 th nd nx ver od do' va mk) = List.length (xl25 th nd nx ver od do' va mk) ∧ True) ∧ ((0 : Int) ≤ peek (xl25 th nd nx ver od do' va mk) (W (1 + Int.tmod (W nd) 12)) ∧ peek (xl25 th nd nx ver od do' va mk) (W (1 + Int.tmod (W nd) 12)) ≤ (18446744073709551615 : Int)) ∧ ((((0 : Int) ≤ (4 : Int) ∧ (4 : Int) ≤ (100000 : Int)) ∧ ((0 : Int) ≤ (12 : Int) ∧ (12 : Int) ≤ (100000 : Int)) ∧ (-1099511627776 : Int) ≤ Int.tmod (W nx) 13 ∧ Int.tmod (W nx) (13 : Int) ≤ (1099511627776 : Int)) ∧ True) ∧ ((List.length (xl25 th nd nx ver od do' va mk) = List.length (xl25 th nd nx ver od do' va mk) ∧ True) ∧ True) ∧ (6 : Int) ≠ (0 : Int) ∧ ((0 : Int) ≤ W (1 + Int.tmod (W many) 6) ∧ W (1 + Int.tmod (W many) 6) = W (1 + Int.tmod (W many) 6) ∧ W (1 + Int.tmod (W many) 6) ≤ (4294967296 : Int)) ∧ okSt (HX1 p n th nd nx ver od do' va mk os) (Hint.ok (HX1 p n th nd nx ver od do' va mk os)) (.top :: .top :: .top :: (.ptr 0 0) :: .top :: .top :: .top :: (.ptr 1 0) :: (.ptr 4 0) :: (.ptr 5 0) :: (.ptr 6 0) :: (.ptr 7 0) :: (.int .i64 (Int.tmod (W nx) 13)) :: (.ptr 8 0) :: (.int .u64 (peek (xl25 th nd nx ver od do' va mk) (12 + 4 + Int.tmod (W nx) 13))) :: (.ptr 9 0) :: (.ptr 11 0) :: (.ptr 13 0) :: (.ptr 15 0) :: (.func (Fn.func 20) [] [.ptr 9 0, .ptr 4 0, .ptr 6 0, .ptr 5 0, .ptr 1 0, .ptr 7 0, .ptr 15 0, .ptr 11 0, .ptr 13 0]) :: tops 49 ((.iview (some .u8) os) :: (.int .i64 (↑(List.length os) : Int)) :: (.int .i64 0) :: tops 145 ([]))) [some (.cells [.int .u8 th, .int .u8 nd, .int .u8 nx, .int .u16 ver, .bool mk, .int .u8 od, .int .u8 do', .int .u8 va]), some (.cells [.ptr 2 0]), some (.cells [.int .i64 4, .int .i64 12, .slice 3 0 (List.length (xl25 th nd nx ver od do' va mk)) 1, .int .i64 (0 + 1 + 1), .int .i64 2, .int .i64 (39 + 3 * Int.tmod th 4), .int .u64 0, .int .u64 (xl23 th nd nx ver od do' va mk), .bool true]), some (.ints (some .u64) (xl25 th nd nx ver od do' va mk)), some (.cells [.int .i64 4, .int .i64 12]), some (.cells [.int .i64 (XX.prSh do'), .int .i64 (XX.prKd do'), .int .i64 (XX.prKy do')]), some (.cells [.int .i64 (Int.tmod (W th) 4)]), some (.cells [.int .i64 (W (1 + Int.tmod (W nd) 12))]), some (.cells [.int .i64 (cutI (xl26 th nd nx ver od do' va mk) 0 10), .int .i64 (cutI (xl26 th nd nx ver od do' va mk) 10 9), .bool (ieq (cutI (xl26 th nd nx ver od do' va mk) 19 1) 1), .int .i64 (cutI (xl26 th nd nx ver od do' va mk) 20 5), .int .i64 (cutI (xl26 th nd nx ver od do' va mk) 25 18)]), some (.cells [.slice 10 0 (Int.toNat (W (1 + Int.tmod (W many) 6))) 1]), some (.abs (.exrow (exNew (Int.toNat (W (1 + Int.tmod (W many) 6))))) []), some (.cells [.slice 12 0 0 1]), some (.ints (some .i64) []), some (.cells [.slice 14 0 0 1]), some (.ints (some .i64) []), some (.cells [.int .i64 0])] ∧ ∀ (x : (Nat × XCS)), okX1 p n os x → bif ilt (↑x.1 : Int) (↑(List.length os) : Int) then ((0 : Int) ≤ (↑x.1 : Int) ∧ (↑x.1 : Int) < (↑(List.length os) : Int)) ∧ (↑(Int.toNat n) : Int) ≠ (0 : Int) ∧ (((4 : Int) = (4 : Int) ∧ (12 : Int) = (12 : Int) ∧ List.length x.2.2.3 = List.length x.2.2.3 ∧ List.length x.2.4 = List.length x.2.4 ∧ List.length x.2.5 = List.length x.2.5) ∧ xcOk (↑(Int.toNat n) : Int) p.1 p.9 p.10 p.11 p.2 (xl4 n os x) x.2) ∧ bif (xl5 p n os x).1 then bif !ieq (ExO.x (xl5 p n os x)).1 0 then bif !ieq (ExO.x (xl5 p n os x)).2 0 then okSt (HX1 p n th nd nx ver od do' va mk os) (fun x' => Hint.ok (HX1 p n th nd nx ver od do' va mk os) x' ∧ Hint.mu (HX1 p n th nd nx ver od do' va mk os) x' < Hint.mu (HX1 p n th nd nx ver od do' va mk os) x) (.top :: .top :: .top :: (.ptr 0 0) :: .top :: .top :: .top :: (.ptr 1 0) :: (.ptr 4 0) :: (.ptr 5 0) :: (.ptr 6 0) :: (.ptr 7 0) :: (.int .i64 p.3) :: (.ptr 8 0) :: (.int .u64 0) :: (.ptr 9 0) :: (.ptr 11 0) :: (.ptr 13 0) :: (.ptr 15 0) :: (.func (Fn.func 20) [] [.ptr 9 0, .ptr 4 0, .ptr 6 0, .ptr 5 0, .ptr 1 0, .ptr 7 0, .ptr 15 0, .ptr 11 0, .ptr 13 0]) :: tops 49 (xl20 os x)) [some (.cells [.int .u8 th, .int .u8 nd, .int .u8 nx, .int .u16 ver, .bool mk, .int .u8 od, .int .u8 do', .int .u8 va]), some (.cells [.ptr 2 0]), some (.cells [.int .i64 (XCS.s (xl21 p n os x)).1, .int .i64 (XCS.s (xl21 p n os x)).2, .slice 3 0 (List.length (XCS.s (xl21 p n os x)).3) 1, .int .i64 (XCS.s (xl21 p n os x)).4, .int .i64 (XCS.s (xl21 p n os x)).5, .int .i64 (XCS.s (xl21 p n os x)).6, .int .u64 (XCS.s (xl21 p n os x)).7, .int .u64 (XCS.s (xl21 p n os x)).8, .bool (XCS.s (xl21 p n os x)).9]), some (.ints (some .u64) (XCS.s (xl21 p n os x)).3), some (.cells [.int .i64 4, .int .i64 12]), some (.cells [.int .i64 p.9, .int .i64 p.10, .int .i64 p.11]), some (.cells [.int .i64 p.1]), some (.cells [.int .i64 p.2]), some (.cells [.int .i64 7, .int .i64 9, .bool false, .int .i64 p.8, .int .i64 p.7]), some (.cells [.slice 10 0 (Int.toNat (↑(Int.toNat n) : Int)) 1]), some (.abs (.exrow (xl21 p n os x).1) []), some (.cells [.slice 12 0 (List.length (xl21 p n os x).4) 1]), some (.ints (some .i64) (x.2.4 ++ [(ExO.x (xl5 p n os x)).1])), some (.cells [.slice 14 0 (List.length (xl21 p n os x).5) 1]), some (.ints (some .i64) (x.2.5 ++ [(ExO.x (xl5 p n os x)).2])), some (.cells [.int .i64 (xl21 p n os x).3])] else okSt (HX1 p n th nd nx ver od do' va mk os) (fun x' => Hint.ok (HX1 p n th nd nx ver od do' va mk os) x' ∧ Hint.mu (HX1 p n th nd nx ver od do' va mk os) x' < Hint.mu (HX1 p n th nd nx ver od do' va mk os) x) (.top :: .top :: .top :: (.ptr 0 0) :: .top :: .top :: .top :: (.ptr 1 0) :: (.ptr 4 0) :: (.ptr 5 0) :: (.ptr 6 0) :: (.ptr 7 0) :: (.int .i64 p.3) :: (.ptr 8 0) :: (.int .u64 0) :: (.ptr 9 0) :: (.ptr 11 0) :: (.ptr 13 0) :: (.ptr 15 0) :: (.func (Fn.func 20) [] [.ptr 9 0, .ptr 4 0, .ptr 6 0, .ptr 5 0, .ptr 1 0, .ptr 7 0, .ptr 15 0, .ptr 11 0, .ptr 13 0]) :: tops 49 (xl20 os x)) [some (.cells [.int .u8 th, .int .u8 nd, .int .u8 nx, .int .u16 ver, .bool mk, .int .u8 od, .int .u8 do', .int .u8 va]), some (.cells [.ptr 2 0]), some (.cells [.int .i64 (XCS.s (xl16 p n os x)).1, .int .i64 (XCS.s (xl16 p n os x)).2, .slice 3 0 (List.length (XCS.s (xl16 p n os x)).3) 1, .int .i64 (XCS.s (xl16 p n os x)).4, .int .i64 (XCS.s (xl16 p n os x)).5, .int .i64 (XCS.s (xl16 p n os x)).6, .int .u64 (XCS.s (xl16 p n os x)).7, .int .u64 (XCS.s (xl16 p n os x)).8, .bool (XCS.s (xl16 p n os x)).9]), some (.ints (some .u64) (XCS.s (xl16 p n os x)).3), some (.cells [.int .i64 4, .int .i64 12]), some (.cells [.int .i64 p.9, .int .i64 p.10, .int .i64 p.11]), some (.cells [.int .i64 p.1]), some (.cells [.int .i64 p.2]), some (.cells [.int .i64 7, .int .i64 9, .bool false, .int .i64 p.8, .int .i64 p.7]), some (.cells [.slice 10 0 (Int.toNat (↑(Int.toNat n) : Int)) 1]), some (.abs (.exrow (xl16 p n os x).1) []), some (.cells [.slice 12 0 (List.length (xl16 p n os x).4) 1]), some (.ints (some .i64) (x.2.4 ++ [(ExO.x (xl5 p n os x)).1])), some (.cells [.slice 14 0 (List.length (xl16 p n os x).5) 1]), some (.ints (some .i64) x.2.5), some (.cells [.int .i64 (xl16 p n os x).3])] else bif !ieq (ExO.x (xl5 p n os x)).2 0 then okSt (HX1 p n th nd nx ver od do' va mk os) (fun x' => Hint.ok (HX1 p n th nd nx ver od do' va mk os) x' ∧ Hint.mu (HX1 p n th nd nx ver od do' va mk os) x' < Hint.mu (HX1 p n th nd nx ver od do' va mk os) x) (.top :: .top :: .top :: (.ptr 0 0) :: .top :: .top :: .top :: (.ptr 1 0) :: (.ptr 4 0) :: (.ptr 5 0) :: (.ptr 6 0) :: (.ptr 7 0) :: (.int .i64 p.3) :: (.ptr 8 0) :: (.int .u64 0) :: (.ptr 9 0) :: (.ptr 11 0) :: (.ptr 13 0) :: (.ptr 15 0) :: (.func (Fn.func 20) [] [.ptr 9 0, .ptr 4 0, .ptr 6 0, .ptr 5 0, .ptr 1 0, .ptr 7 0, .ptr 15 0, .ptr 11 0, .ptr 13 0]) :: tops 49 (xl20 os x)) [some (.cells [.int .u8 th, .int .u8 nd, .int .u8 nx, .int .u16 ver, .bool mk, .int .u8 od, .int .u8 do', .int .u8 va]), some (.cells [.ptr 2 0]), some (.cells [.int .i64 (XCS.s (xl17 p n os x)).1, .int .i64 (XCS.s (xl17 p n os x)).2, .slice 3 0 (List.length (XCS.s (xl17 p n os x)).3) 1, .int .i64 (XCS.s (xl17 p n os x)).4, .int .i64 (XCS.s (xl17 p n os x)).5, .int .i64 (XCS.s (xl17 p n os x)).6, .int .u64 (XCS.s (xl17 p n os x)).7, .int .u64 (XCS.s (xl17 p n os x)).8, .bool (XCS.s (xl17 p n os x)).9]), some (.ints (some .u64) (XCS.s (xl17 p n os x)).3), some (.cells [.int .i64 4, .int .i64 12]), some (.cells [.int .i64 p.9, .int .i64 p.10, .int .i64 p.11]), some (.cells [.int .i64 p.1]), some (.cells [.int .i64 p.2]), some (.cells [.int .i64 7, .int .i64 9, .bool false, .int .i64 p.8, .int .i64 p.7]), some (.cells [.slice 10 0 (Int.toNat (↑(Int.toNat n) : Int)) 1]), some (.abs (.exrow (xl17 p n os x).1) []), some (.cells [.slice 12 0 (List.length (xl17 p n os x).4) 1]), some (.ints (some .i64) x.2.4), some (.cells [.slice 14 0 (List.length (xl17 p n os x).5) 1]), some (.ints (some .i64) (x.2.5 ++ [(ExO.x (xl5 p n os x)).2])), some (.cells [.int .i64 (xl17 p n os x).3])] else okSt (HX1 p n th nd nx ver od do' va mk os) (fun x' => Hint.ok (HX1 p n th nd nx ver od do' va mk os) x' ∧ Hint.mu (HX1 p n th nd nx ver od do' va mk os) x' < Hint.mu (HX1 p n th nd nx ver od do' va mk os) x) (.top :: .top :: .top :: (.ptr 0 0) :: .top :: .top :: .top :: (.ptr 1 0) :: (.ptr 4 0) :: (.ptr 5 0) :: (.ptr 6 0) :: (.ptr 7 0) :: (.int .i64 p.3) :: (.ptr 8 0) :: (.int .u64 0) :: (.ptr 9 0) :: (.ptr 11 0) :: (.ptr 13 0) :: (.ptr 15 0) :: (.func (Fn.func 20) [] [.ptr 9 0, .ptr 4 0, .ptr 6 0, .ptr 5 0, .ptr 1 0, .ptr 7 0, .ptr 15 0, .ptr 11 0, .ptr 13 0]) :: tops 49 (xl20 os x)) [some (.cells [.int .u8 th, .int .u8 nd, .int .u8 nx, .int .u16 ver, .bool mk, .int .u8 od, .int .u8 do', .int .u8 va]), some (.cells [.ptr 2 0]), some (.cells [.int .i64 (XCS.s (xl8 p n os x)).1, .int .i64 (XCS.s (xl8 p n os x)).2, .slice 3 0 (List.length (XCS.s (xl8 p n os x)).3) 1, .int .i64 (XCS.s (xl8 p n os x)).4, .int .i64 (XCS.s (xl8 p n os x)).5, .int .i64 (XCS.s (xl8 p n os x)).6, .int .u64 (XCS.s (xl8 p n os x)).7, .int .u64 (XCS.s (xl8 p n os x)).8, .bool (XCS.s (xl8 p n os x)).9]), some (.ints (some .u64) (XCS.s (xl8 p n os x)).3), some (.cells [.int .i64 4, .int .i64 12]), some (.cells [.int .i64 p.9, .int .i64 p.10, .int .i64 p.11]), some (.cells [.int .i64 p.1]), some (.cells [.int .i64 p.2]), some (.cells [.int .i64 7, .int .i64 9, .bool false, .int .i64 p.8, .int .i64 p.7]), some (.cells [.slice 10 0 (Int.toNat (↑(Int.toNat n) : Int)) 1]), some (.abs (.exrow (xl8 p n os x).1) []), some (.cells [.slice 12 0 (List.length (xl8 p n os x).4) 1]), some (.ints (some .i64) (xl8 p n os x).4), some (.cells [.slice 14 0 (List.length (xl8 p n os x).5) 1]), some (.ints (some .i64) (xl8 p n os x).5), some (.cells [.int .i64 (xl8 p n os x).3])] else okSt (HX1 p n th nd nx ver od do' va mk os) (fun x' => Hint.ok (HX1 p n th nd nx ver od do' va mk os) x' ∧ Hint.mu (HX1 p n th nd nx ver od do' va mk os) x' < Hint.mu (HX1 p n th nd nx ver od do' va mk os) x) (.top :: .top :: .top :: (.ptr 0 0) :: .top :: .top :: .top :: (.ptr 1 0) :: (.ptr 4 0) :: (.ptr 5 0) :: (.ptr 6 0) :: (.ptr 7 0) :: (.int .i64 p.3) :: (.ptr 8 0) :: (.int .u64 0) :: (.ptr 9 0) :: (.ptr 11 0) :: (.ptr 13 0) :: (.ptr 15 0) :: (.func (Fn.func 20) [] [.ptr 9 0, .ptr 4 0, .ptr 6 0, .ptr 5 0, .ptr 1 0, .ptr 7 0, .ptr 15 0, .ptr 11 0, .ptr 13 0]) :: tops 49 (xl20 os x)) [some (.cells [.int .u8 th, .int .u8 nd, .int .u8 nx, .int .u16 ver, .bool mk, .int .u8 od, .int .u8 do', .int .u8 va]), some (.cells [.ptr 2 0]), some (.cells [.int .i64 (XCS.s (xl11 p n os x)).1, .int .i64 (XCS.s (xl11 p n os x)).2, .slice 3 0 (List.length (XCS.s (xl11 p n os x)).3) 1, .int .i64 (XCS.s (xl11 p n os x)).4, .int .i64 (XCS.s (xl11 p n os x)).5, .int .i64 (XCS.s (xl11 p n os x)).6, .int .u64 (XCS.s (xl11 p n os x)).7, .int .u64 (XCS.s (xl11 p n os x)).8, .bool (XCS.s (xl11 p n os x)).9]), some (.ints (some .u64) (XCS.s (xl11 p n os x)).3), some (.cells [.int .i64 4, .int .i64 12]), some (.cells [.int .i64 p.9, .int .i64 p.10, .int .i64 p.11]), some (.cells [.int .i64 p.1]), some (.cells [.int .i64 p.2]), some (.cells [.int .i64 7, .int .i64 9, .bool false, .int .i64 p.8, .int .i64 p.7]), some (.cells [.slice 10 0 (Int.toNat (↑(Int.toNat n) : Int)) 1]), some (.abs (.exrow (xl11 p n os x).1) []), some (.cells [.slice 12 0 (List.length (xl11 p n os x).4) 1]), some (.ints (some .i64) x.2.4), some (.cells [.slice 14 0 (List.length (xl11 p n os x).5) 1]), some (.ints (some .i64) x.2.5), some (.cells [.int .i64 (xl11 p n os x).3])] else okSt (HX2 p n th nd nx ver od do' va mk) (Hint.ok (HX2 p n th nd nx ver od do' va mk)) (.top :: .top :: .top :: (.ptr 0 0) :: .top :: .top :: .top :: (.ptr 1 0) :: (.ptr 4 0) :: (.ptr 5 0) :: (.ptr 6 0) :: (.ptr 7 0) :: (.int .i64 p.3) :: (.ptr 8 0) :: (.int .u64 0) :: (.ptr 9 0) :: (.ptr 11 0) :: (.ptr 13 0) :: (.ptr 15 0) :: (.func (Fn.func 20) [] [.ptr 9 0, .ptr 4 0, .ptr 6 0, .ptr 5 0, .ptr 1 0, .ptr 7 0, .ptr 15 0, .ptr 11 0, .ptr 13 0]) :: .top :: .top :: (.int .i64 0) :: tops 194 ([])) [some (.cells [.int .u8 th, .int .u8 nd, .int .u8 nx, .int .u16 ver, .bool mk, .int .u8 od, .int .u8 do', .int .u8 va]), some (.cells [.ptr 2 0]), some (.cells [.int .i64 x.2.2.1, .int .i64 x.2.2.2, .slice 3 0 (List.length x.2.2.3) 1, .int .i64 x.2.2.4, .int .i64 x.2.2.5, .int .i64 x.2.2.6, .int .u64 x.2.2.7, .int .u64 x.2.2.8, .bool x.2.2.9]), some (.ints (some .u64) x.2.2.3), some (.cells [.int .i64 4, .int .i64 12]), some (.cells [.int .i64 p.9, .int .i64 p.10, .int .i64 p.11]), some (.cells [.int .i64 p.1]), some (.cells [.int .i64 p.2]), some (.cells [.int .i64 7, .int .i64 9, .bool false, .int .i64 p.8, .int .i64 p.7]), some (.cells [.slice 10 0 (Int.toNat n) 1]), some (.abs (.exrow x.2.1) []), some (.cells [.slice 12 0 (List.length x.2.4) 1]), some (.ints (some .i64) x.2.4), some (.cells [.slice 14 0 (List.length x.2.5) 1]), some (.ints (some .i64) x.2.5), some (.cells [.int .i64 x.2.3])] ∧ ∀ (x : (Nat × XCS)), okX2 p n x → bif ilt (↑x.1 : Int) 30 then okSt (xl3 p n th nd nx ver od do' va mk x) (Hint.ok (xl3 p n th nd nx ver od do' va mk x)) (.top :: .top :: .top :: (.ptr 0 0) :: .top :: .top :: .top :: (.ptr 1 0) :: (.ptr 4 0) :: (.ptr 5 0) :: (.ptr 6 0) :: (.ptr 7 0) :: (.int .i64 p.3) :: (.ptr 8 0) :: (.int .u64 0) :: (.ptr 9 0) :: (.ptr 11 0) :: (.ptr 13 0) :: (.ptr 15 0) :: (.func (Fn.func 20) [] [.ptr 9 0, .ptr 4 0, .ptr 6 0, .ptr 5 0, .ptr 1 0, .ptr 7 0, .ptr 15 0, .ptr 11 0, .ptr 13 0]) :: .top :: .top :: (.int .i64 (↑x.1 : Int)) :: tops 65 ((.int .i64 (↑(Int.toNat n) : Int)) :: (.int .i64 0) :: tops 127 ([]))) [some (.cells [.int .u8 th, .int .u8 nd, .int .u8 nx, .int .u16 ver, .bool mk, .int .u8 od, .int .u8 do', .int .u8 va]), some (.cells [.ptr 2 0]), some (.cells [.int .i64 x.2.2.1, .int .i64 x.2.2.2, .slice 3 0 (List.length x.2.2.3) 1, .int .i64 x.2.2.4, .int .i64 x.2.2.5, .int .i64 x.2.2.6, .int .u64 x.2.2.7, .int .u64 x.2.2.8, .bool x.2.2.9]), some (.ints (some .u64) x.2.2.3), some (.cells [.int .i64 4, .int .i64 12]), some (.cells [.int .i64 p.9, .int .i64 p.10, .int .i64 p.11]), some (.cells [.int .i64 p.1]), some (.cells [.int .i64 p.2]), some (.cells [.int .i64 7, .int .i64 9, .bool false, .int .i64 p.8, .int .i64 p.7]), some (.cells [.slice 10 0 (Int.toNat n) 1]), some (.abs (.exrow x.2.1) []), some (.cells [.slice 12 0 (List.length x.2.4) 1]), some (.ints (some .i64) x.2.4), some (.cells [.slice 14 0 (List.length x.2.5) 1]), some (.ints (some .i64) x.2.5), some (.cells [.int .i64 x.2.3])] ∧ ∀ (x_1 : (Nat × XCS)), okX3 p n (↑x.1 : Int) x_1 → bif ilt (↑x_1.1 : Int) (↑(Int.toNat n) : Int) then (((4 : Int) = (4 : Int) ∧ (12 : Int) = (12 : Int) ∧ List.length x_1.2.2.3 = List.length x_1.2.2.3 ∧ List.length x_1.2.4 = List.length x_1.2.4 ∧ List.length x_1.2.5 = List.length x_1.2.5) ∧ xcOk (↑(Int.toNat n) : Int) p.1 p.9 p.10 p.11 p.2 (↑x_1.1 : Int) x_1.2) ∧ bif (xl2 p x_1).1 then bif !ieq (ExO.x (xl2 p x_1)).1 0 then bif !ieq (ExO.x (xl2 p x_1)).2 0 then okSt (xl3 p n th nd nx ver od do' va mk x) (fun x' => Hint.ok (xl3 p n th nd nx ver od do' va mk x) x' ∧ Hint.mu (xl3 p n th nd nx ver od do' va mk x) x' < Hint.mu (xl3 p n th nd nx ver od do' va mk x) x_1) (.top :: .top :: .top :: (.ptr 0 0) :: .top :: .top :: .top :: (.ptr 1 0) :: (.ptr 4 0) :: (.ptr 5 0) :: (.ptr 6 0) :: (.ptr 7 0) :: (.int .i64 p.3) :: (.ptr 8 0) :: (.int .u64 0) :: (.ptr 9 0) :: (.ptr 11 0) :: (.ptr 13 0) :: (.ptr 15 0) :: (.func (Fn.func 20) [] [.ptr 9 0, .ptr 4 0, .ptr 6 0, .ptr 5 0, .ptr 1 0, .ptr 7 0, .ptr 15 0, .ptr 11 0, .ptr 13 0]) :: .top :: .top :: (.int .i64 (↑x.1 : Int)) :: tops 65 (xl15 n x_1)) [some (.cells [.int .u8 th, .int .u8 nd, .int .u8 nx, .int .u16 ver, .bool mk, .int .u8 od, .int .u8 do', .int .u8 va]), some (.cells [.ptr 2 0]), some (.cells [.int .i64 (XCS.s (xl22 p x_1)).1, .int .i64 (XCS.s (xl22 p x_1)).2, .slice 3 0 (List.length (XCS.s (xl22 p x_1)).3) 1, .int .i64 (XCS.s (xl22 p x_1)).4, .int .i64 (XCS.s (xl22 p x_1)).5, .int .i64 (XCS.s (xl22 p x_1)).6, .int .u64 (XCS.s (xl22 p x_1)).7, .int .u64 (XCS.s (xl22 p x_1)).8, .bool (XCS.s (xl22 p x_1)).9]), some (.ints (some .u64) (XCS.s (xl22 p x_1)).3), some (.cells [.int .i64 4, .int .i64 12]), some (.cells [.int .i64 p.9, .int .i64 p.10, .int .i64 p.11]), some (.cells [.int .i64 p.1]), some (.cells [.int .i64 p.2]), some (.cells [.int .i64 7, .int .i64 9, .bool false, .int .i64 p.8, .int .i64 p.7]), some (.cells [.slice 10 0 (Int.toNat (↑(Int.toNat n) : Int)) 1]), some (.abs (.exrow (xl22 p x_1).1) []), some (.cells [.slice 12 0 (List.length (xl22 p x_1).4) 1]), some (.ints (some .i64) (x_1.2.4 ++ [(ExO.x (xl2 p x_1)).1])), some (.cells [.slice 14 0 (List.length (xl22 p x_1).5) 1]), some (.ints (some .i64) (x_1.2.5 ++ [(ExO.x (xl2 p x_1)).2])), some (.cells [.int .i64 (xl22 p x_1).3])] else okSt (xl3 p n th nd nx ver od do' va mk x) (fun x' => Hint.ok (xl3 p n th nd nx ver od do' va mk x) x' ∧ Hint.mu (xl3 p n th nd nx ver od do' va mk x) x' < Hint.mu (xl3 p n th nd nx ver od do' va mk x) x_1) (.top :: .top :: .top :: (.ptr 0 0) :: .top :: .top :: .top :: (.ptr 1 0) :: (.ptr 4 0) :: (.ptr 5 0) :: (.ptr 6 0) :: (.ptr 7 0) :: (.int .i64 p.3) :: (.ptr 8 0) :: (.int .u64 0) :: (.ptr 9 0) :: (.ptr 11 0) :: (.ptr 13 0) :: (.ptr 15 0) :: (.func (Fn.func 20) [] [.ptr 9 0, .ptr 4 0, .ptr 6 0, .ptr 5 0, .ptr 1 0, .ptr 7 0, .ptr 15 0, .ptr 11 0, .ptr 13 0]) :: .top :: .top :: (.int .i64 (↑x.1 : Int)) :: tops 65 (xl15 n x_1)) [some (.cells [.int .u8 th, .int .u8 nd, .int .u8 nx, .int .u16 ver, .bool mk, .int .u8 od, .int .u8 do', .int .u8 va]), some (.cells [.ptr 2 0]), some (.cells [.int .i64 (XCS.s (xl18 p x_1)).1, .int .i64 (XCS.s (xl18 p x_1)).2, .slice 3 0 (List.length (XCS.s (xl18 p x_1)).3) 1, .int .i64 (XCS.s (xl18 p x_1)).4, .int .i64 (XCS.s (xl18 p x_1)).5, .int .i64 (XCS.s (xl18 p x_1)).6, .int .u64 (XCS.s (xl18 p x_1)).7, .int .u64 (XCS.s (xl18 p x_1)).8, .bool (XCS.s (xl18 p x_1)).9]), some (.ints (some .u64) (XCS.s (xl18 p x_1)).3), some (.cells [.int .i64 4, .int .i64 12]), some (.cells [.int .i64 p.9, .int .i64 p.10, .int .i64 p.11]), some (.cells [.int .i64 p.1]), some (.cells [.int .i64 p.2]), some (.cells [.int .i64 7, .int .i64 9, .bool false, .int .i64 p.8, .int .i64 p.7]), some (.cells [.slice 10 0 (Int.toNat (↑(Int.toNat n) : Int)) 1]), some (.abs (.exrow (xl18 p x_1).1) []), some (.cells [.slice 12 0 (List.length (xl18 p x_1).4) 1]), some (.ints (some .i64) (x_1.2.4 ++ [(ExO.x (xl2 p x_1)).1])), some (.cells [.slice 14 0 (List.length (xl18 p x_1).5) 1]), some (.ints (some .i64) x_1.2.5), some (.cells [.int .i64 (xl18 p x_1).3])] else bif !ieq (ExO.x (xl2 p x_1)).2 0 then okSt (xl3 p n th nd nx ver od do' va mk x) (fun x' => Hint.ok (xl3 p n th nd nx ver od do' va mk x) x' ∧ Hint.mu (xl3 p n th nd nx ver od do' va mk x) x' < Hint.mu (xl3 p n th nd nx ver od do' va mk x) x_1) (.top :: .top :: .top :: (.ptr 0 0) :: .top :: .top :: .top :: (.ptr 1 0) :: (.ptr 4 0) :: (.ptr 5 0) :: (.ptr 6 0) :: (.ptr 7 0) :: (.int .i64 p.3) :: (.ptr 8 0) :: (.int .u64 0) :: (.ptr 9 0) :: (.ptr 11 0) :: (.ptr 13 0) :: (.ptr 15 0) :: (.func (Fn.func 20) [] [.ptr 9 0, .ptr 4 0, .ptr 6 0, .ptr 5 0, .ptr 1 0, .ptr 7 0, .ptr 15 0, .ptr 11 0, .ptr 13 0]) :: .top :: .top :: (.int .i64 (↑x.1 : Int)) :: tops 65 (xl15 n x_1)) [some (.cells [.int .u8 th, .int .u8 nd, .int .u8 nx, .int .u16 ver, .bool mk, .int .u8 od, .int .u8 do', .int .u8 va]), some (.cells [.ptr 2 0]), some (.cells [.int .i64 (XCS.s (xl19 p x_1)).1, .int .i64 (XCS.s (xl19 p x_1)).2, .slice 3 0 (List.length (XCS.s (xl19 p x_1)).3) 1, .int .i64 (XCS.s (xl19 p x_1)).4, .int .i64 (XCS.s (xl19 p x_1)).5, .int .i64 (XCS.s (xl19 p x_1)).6, .int .u64 (XCS.s (xl19 p x_1)).7, .int .u64 (XCS.s (xl19 p x_1)).8, .bool (XCS.s (xl19 p x_1)).9]), some (.ints (some .u64) (XCS.s (xl19 p x_1)).3), some (.cells [.int .i64 4, .int .i64 12]), some (.cells [.int .i64 p.9, .int .i64 p.10, .int .i64 p.11]), some (.cells [.int .i64 p.1]), some (.cells [.int .i64 p.2]), some (.cells [.int .i64 7, .int .i64 9, .bool false, .int .i64 p.8, .int .i64 p.7]), some (.cells [.slice 10 0 (Int.toNat (↑(Int.toNat n) : Int)) 1]), some (.abs (.exrow (xl19 p x_1).1) []), some (.cells [.slice 12 0 (List.length (xl19 p x_1).4) 1]), some (.ints (some .i64) x_1.2.4), some (.cells [.slice 14 0 (List.length (xl19 p x_1).5) 1]), some (.ints (some .i64) (x_1.2.5 ++ [(ExO.x (xl2 p x_1)).2])), some (.cells [.int .i64 (xl19 p x_1).3])] else okSt (xl3 p n th nd nx ver od do' va mk x) (fun x' => Hint.ok (xl3 p n th nd nx ver od do' va mk x) x' ∧ Hint.mu (xl3 p n th nd nx ver od do' va mk x) x' < Hint.mu (xl3 p n th nd nx ver od do' va mk x) x_1) (.top :: .top :: .top :: (.ptr 0 0) :: .top :: .top :: .top :: (.ptr 1 0) :: (.ptr 4 0) :: (.ptr 5 0) :: (.ptr 6 0) :: (.ptr 7 0) :: (.int .i64 p.3) :: (.ptr 8 0) :: (.int .u64 0) :: (.ptr 9 0) :: (.ptr 11 0) :: (.ptr 13 0) :: (.ptr 15 0) :: (.func (Fn.func 20) [] [.ptr 9 0, .ptr 4 0, .ptr 6 0, .ptr 5 0, .ptr 1 0, .ptr 7 0, .ptr 15 0, .ptr 11 0, .ptr 13 0]) :: .top :: .top :: (.int .i64 (↑x.1 : Int)) :: tops 65 (xl15 n x_1)) [some (.cells [.int .u8 th, .int .u8 nd, .int .u8 nx, .int .u16 ver, .bool mk, .int .u8 od, .int .u8 do', .int .u8 va]), some (.cells [.ptr 2 0]), some (.cells [.int .i64 (XCS.s (xl14 p x_1)).1, .int .i64 (XCS.s (xl14 p x_1)).2, .slice 3 0 (List.length (XCS.s (xl14 p x_1)).3) 1, .int .i64 (XCS.s (xl14 p x_1)).4, .int .i64 (XCS.s (xl14 p x_1)).5, .int .i64 (XCS.s (xl14 p x_1)).6, .int .u64 (XCS.s (xl14 p x_1)).7, .int .u64 (XCS.s (xl14 p x_1)).8, .bool (XCS.s (xl14 p x_1)).9]), some (.ints (some .u64) (XCS.s (xl14 p x_1)).3), some (.cells [.int .i64 4, .int .i64 12]), some (.cells [.int .i64 p.9, .int .i64 p.10, .int .i64 p.11]), some (.cells [.int .i64 p.1]), some (.cells [.int .i64 p.2]), some (.cells [.int .i64 7, .int .i64 9, .bool false, .int .i64 p.8, .int .i64 p.7]), some (.cells [.slice 10 0 (Int.toNat (↑(Int.toNat n) : Int)) 1]), some (.abs (.exrow (xl14 p x_1).1) []), some (.cells [.slice 12 0 (List.length (xl14 p x_1).4) 1]), some (.ints (some .i64) (xl14 p x_1).4), some (.cells [.slice 14 0 (List.length (xl14 p x_1).5) 1]), some (.ints (some .i64) (xl14 p x_1).5), some (.cells [.int .i64 (xl14 p x_1).3])] else okSt (xl3 p n th nd nx ver od do' va mk x) (fun x' => Hint.ok (xl3 p n th nd nx ver od do' va mk x) x' ∧ Hint.mu (xl3 p n th nd nx ver od do' va mk x) x' < Hint.mu (xl3 p n th nd nx ver od do' va mk x) x_1) (.top :: .top :: .top :: (.ptr 0 0) :: .top :: .top :: .top :: (.ptr 1 0) :: (.ptr 4 0) :: (.ptr 5 0) :: (.ptr 6 0) :: (.ptr 7 0) :: (.int .i64 p.3) :: (.ptr 8 0) :: (.int .u64 0) :: (.ptr 9 0) :: (.ptr 11 0) :: (.ptr 13 0) :: (.ptr 15 0) :: (.func (Fn.func 20) [] [.ptr 9 0, .ptr 4 0, .ptr 6 0, .ptr 5 0, .ptr 1 0, .ptr 7 0, .ptr 15 0, .ptr 11 0, .ptr 13 0]) :: .top :: .top :: (.int .i64 (↑x.1 : Int)) :: tops 65 (xl15 n x_1)) [some (.cells [.int .u8 th, .int .u8 nd, .int .u8 nx, .int .u16 ver, .bool mk, .int .u8 od, .int .u8 do', .int .u8 va]), some (.cells [.ptr 2 0]), some (.cells [.int .i64 (XCS.s (xl13 p n x x_1)).1, .int .i64 (XCS.s (xl13 p n x x_1)).2, .slice 3 0 (List.length (XCS.s (xl13 p n x x_1)).3) 1, .int .i64 (XCS.s (xl13 p n x x_1)).4, .int .i64 (XCS.s (xl13 p n x x_1)).5, .int .i64 (XCS.s (xl13 p n x x_1)).6, .int .u64 (XCS.s (xl13 p n x x_1)).7, .int .u64 (XCS.s (xl13 p n x x_1)).8, .bool (XCS.s (xl13 p n x x_1)).9]), some (.ints (some .u64) (XCS.s (xl13 p n x x_1)).3), some (.cells [.int .i64 4, .int .i64 12]), some (.cells [.int .i64 p.9, .int .i64 p.10, .int .i64 p.11]), some (.cells [.int .i64 p.1]), some (.cells [.int .i64 p.2]), some (.cells [.int .i64 7, .int .i64 9, .bool false, .int .i64 p.8, .int .i64 p.7]), some (.cells [.slice 10 0 (Int.toNat (↑(Int.toNat n) : Int)) 1]), some (.abs (.exrow (xl13 p n x x_1).1) []), some (.cells [.slice 12 0 (List.length (xl13 p n x x_1).4) 1]), some (.ints (some .i64) x_1.2.4), some (.cells [.slice 14 0 (List.length (xl13 p n x x_1).5) 1]), some (.ints (some .i64) x_1.2.5), some (.cells [.int .i64 (xl13 p n x x_1).3])] else okSt (HX2 p n th nd nx ver od do' va mk) (fun x' => Hint.ok (HX2 p n th nd nx ver od do' va mk) x' ∧ Hint.mu (HX2 p n th nd nx ver od do' va mk) x' < Hint.mu (HX2 p n th nd nx ver od do' va mk) x) (.top :: .top :: .top :: (.ptr 0 0) :: .top :: .top :: .top :: (.ptr 1 0) :: (.ptr 4 0) :: (.ptr 5 0) :: (.ptr 6 0) :: (.ptr 7 0) :: (.int .i64 p.3) :: (.ptr 8 0) :: (.int .u64 0) :: (.ptr 9 0) :: (.ptr 11 0) :: (.ptr 13 0) :: (.ptr 15 0) :: (.func (Fn.func 20) [] [.ptr 9 0, .ptr 4 0, .ptr 6 0, .ptr 5 0, .ptr 1 0, .ptr 7 0, .ptr 15 0, .ptr 11 0, .ptr 13 0]) :: .top :: .top :: (.int .i64 (W ((↑x.1 : Int) + 1))) :: tops 194 ([])) [some (.cells [.int .u8 th, .int .u8 nd, .int .u8 nx, .int .u16 ver, .bool mk, .int .u8 od, .int .u8 do', .int .u8 va]), some (.cells [.ptr 2 0]), some (.cells [.int .i64 x_1.2.2.1, .int .i64 x_1.2.2.2, .slice 3 0 (List.length x_1.2.2.3) 1, .int .i64 x_1.2.2.4, .int .i64 x_1.2.2.5, .int .i64 x_1.2.2.6, .int .u64 x_1.2.2.7, .int .u64 x_1.2.2.8, .bool x_1.2.2.9]), some (.ints (some .u64) x_1.2.2.3), some (.cells [.int .i64 4, .int .i64 12]), some (.cells [.int .i64 p.9, .int .i64 p.10, .int .i64 p.11]), some (.cells [.int .i64 p.1]), some (.cells [.int .i64 p.2]), some (.cells [.int .i64 7, .int .i64 9, .bool false, .int .i64 p.8, .int .i64 p.7]), some (.cells [.slice 10 0 (Int.toNat n) 1]), some (.abs (.exrow x_1.2.1) []), some (.cells [.slice 12 0 (List.length x_1.2.4) 1]), some (.ints (some .i64) x_1.2.4), some (.cells [.slice 14 0 (List.length x_1.2.5) 1]), some (.ints (some .i64) x_1.2.5), some (.cells [.int .i64 x_1.2.3])] else ((List.length x.2.2.3 = List.length x.2.2.3 ∧ True) ∧ True) ∧ ((0 : Int) ≤ peek x.2.2.3 p.2 ∧ peek x.2.2.3 p.2 ≤ (18446744073709551615 : Int)) ∧ ((((0 : Int) ≤ (4 : Int) ∧ (4 : Int) ≤ (100000 : Int)) ∧ ((0 : Int) ≤ (12 : Int) ∧ (12 : Int) ≤ (100000 : Int)) ∧ (-1099511627776 : Int) ≤ p.1 ∧ p.1 ≤ (1099511627776 : Int)) ∧ True) ∧ ((List.length x.2.2.3 = List.length x.2.2.3 ∧ True) ∧ True) ∧ ((0 : Int) ≤ peek x.2.2.3 (2 * 12 + 5 + 2 * 4 + 3 * p.1 + 2) ∧ peek x.2.2.3 (2 * 12 + 5 + 2 * 4 + 3 * p.1 + 2) ≤ (18446744073709551615 : Int)) ∧ (3 : Int) ≠ (0 : Int) ∧ bif !ieq (Int.tmod od 3) 0 then True ∧ bif linksB p.10 then bif ilt 0 p.3 then bif bif ieq (cutI (peek x.2.2.3 p.2) 0 10) 7 then bif ieq (cutI (peek x.2.2.3 p.2) 10 9) 9 then bif !ieq (cutI (peek x.2.2.3 p.2) 19 1) 1 then bif ieq (cutI (peek x.2.2.3 p.2) 20 5) p.8 then bif ieq (cutI (peek x.2.2.3 p.2) 25 18) p.7 then true else false else false else false else false else false then bif ieq x.2.3 0 then bif bif ieq (cutI (xl6 p x) 0 12) 4 then bif ieq (cutI (xl6 p x) 12 9) 0 then bif ieq (cutI (xl6 p x) 21 18) 0 then bif ieq (cutI (xl6 p x) 39 9) 0 then bif !ieq (cutI (xl6 p x) 48 1) 1 then bif ieq (cutI (xl6 p x) 49 3) 1 then bif ieq (cutI (xl6 p x) 52 10) 0 then true else false else false else false else false else false else false else false then bif ieq (↑(List.length x.2.4) : Int) 0 then ((((0 : Int) ≤ (4 : Int) ∧ (4 : Int) ≤ (100000 : Int)) ∧ ((0 : Int) ≤ (12 : Int) ∧ (12 : Int) ≤ (100000 : Int)) ∧ (-1099511627776 : Int) ≤ p.3 ∧ p.3 ≤ (1099511627776 : Int)) ∧ True) ∧ ((List.length x.2.2.3 = List.length x.2.2.3 ∧ True) ∧ True) ∧ bif ieq (peek x.2.2.3 (12 + 4 + p.3)) (WU (0 + 1)) then True ∧ bif linksB p.10 then (((List.length x.2.5 = List.length x.2.5 ∧ List.length (givL p.3) = List.length (givL p.3)) ∧ List.length x.2.5 ≤ (4294967296 : Nat)) ∧ True) ∧ bif sameB x.2.5 (givL p.3) then K (.bool true) [] else True ∧ bif !linksB p.10 then K (.bool (ieq (↑(List.length x.2.5) : Int) 0)) [] else K (.bool false) [] else True ∧ bif !linksB p.10 then K (.bool (ieq (↑(List.length x.2.5) : Int) 0)) [] else K (.bool false) [] else bif ieq p.3 0 then True ∧ bif linksB p.10 then (((List.length x.2.5 = List.length x.2.5 ∧ List.length (givL p.3) = List.length (givL p.3)) ∧ List.length x.2.5 ≤ (4294967296 : Nat)) ∧ True) ∧ bif sameB x.2.5 (givL p.3) then K (.bool true) [] else True ∧ bif !linksB p.10 then K (.bool (ieq (↑(List.length x.2.5) : Int) 0)) [] else K (.bool false) [] else True ∧ bif !linksB p.10 then K (.bool (ieq (↑(List.length x.2.5) : Int) 0)) [] else K (.bool false) [] else K (.bool false) [] else K (.bool false) [] else K (.bool false) [] else K (.bool false) [] else K (.bool false) [] else bif bif ieq (cutI (peek x.2.2.3 p.2) 0 10) 7 then bif ieq (cutI (peek x.2.2.3 p.2) 10 9) 9 then bif !ieq (cutI (peek x.2.2.3 p.2) 19 1) 1 then bif ieq (cutI (peek x.2.2.3 p.2) 20 5) p.8 then bif ieq (cutI (peek x.2.2.3 p.2) 25 18) p.7 then true else false else false else false else false else false then bif ieq x.2.3 0 then bif bif ieq (cutI (xl6 p x) 0 12) 4 then bif ieq (cutI (xl6 p x) 12 9) 0 then bif ieq (cutI (xl6 p x) 21 18) 0 then bif ieq (cutI (xl6 p x) 39 9) 0 then bif !ieq (cutI (xl6 p x) 48 1) 1 then bif ieq (cutI (xl6 p x) 49 3) 1 then bif ieq (cutI (xl6 p x) 52 10) 0 then true else false else false else false else false else false else false else false then bif ieq (↑(List.length x.2.4) : Int) 0 then ((((0 : Int) ≤ (4 : Int) ∧ (4 : Int) ≤ (100000 : Int)) ∧ ((0 : Int) ≤ (12 : Int) ∧ (12 : Int) ≤ (100000 : Int)) ∧ (-1099511627776 : Int) ≤ p.3 ∧ p.3 ≤ (1099511627776 : Int)) ∧ True) ∧ ((List.length x.2.2.3 = List.length x.2.2.3 ∧ True) ∧ True) ∧ bif ieq (peek x.2.2.3 (12 + 4 + p.3)) 0 then True ∧ bif linksB p.10 then (((List.length x.2.5 = List.length x.2.5 ∧ List.length (givL p.3) = List.length (givL p.3)) ∧ List.length x.2.5 ≤ (4294967296 : Nat)) ∧ True) ∧ bif sameB x.2.5 (givL p.3) then K (.bool true) [] else True ∧ bif !linksB p.10 then K (.bool (ieq (↑(List.length x.2.5) : Int) 0)) [] else K (.bool false) [] else True ∧ bif !linksB p.10 then K (.bool (ieq (↑(List.length x.2.5) : Int) 0)) [] else K (.bool false) [] else bif ieq p.3 0 then True ∧ bif linksB p.10 then (((List.length x.2.5 = List.length x.2.5 ∧ List.length (givL p.3) = List.length (givL p.3)) ∧ List.length x.2.5 ≤ (4294967296 : Nat)) ∧ True) ∧ bif sameB x.2.5 (givL p.3) then K (.bool true) [] else True ∧ bif !linksB p.10 then K (.bool (ieq (↑(List.length x.2.5) : Int) 0)) [] else K (.bool false) [] else True ∧ bif !linksB p.10 then K (.bool (ieq (↑(List.length x.2.5) : Int) 0)) [] else K (.bool false) [] else K (.bool false) [] else K (.bool false) [] else K (.bool false) [] else K (.bool false) [] else K (.bool false) [] else bif bif ieq (cutI (peek x.2.2.3 p.2) 0 10) 7 then bif ieq (cutI (peek x.2.2.3 p.2) 10 9) 9 then bif !ieq (cutI (peek x.2.2.3 p.2) 19 1) 1 then bif ieq (cutI (peek x.2.2.3 p.2) 20 5) p.8 then bif ieq (cutI (peek x.2.2.3 p.2) 25 18) p.7 then true else false else false else false else false else false then bif ieq x.2.3 0 then bif bif ieq (cutI (xl6 p x) 0 12) 4 then bif ieq (cutI (xl6 p x) 12 9) 0 then bif ieq (cutI (xl6 p x) 21 18) 0 then bif ieq (cutI (xl6 p x) 39 9) 0 then bif !ieq (cutI (xl6 p x) 48 1) 1 then bif ieq (cutI (xl6 p x) 49 3) 1 then bif ieq (cutI (xl6 p x) 52 10) 0 then true else false else false else false else false else false else false else false then bif ieq (↑(List.length x.2.4) : Int) 0 then ((((0 : Int) ≤ (4 : Int) ∧ (4 : Int) ≤ (100000 : Int)) ∧ ((0 : Int) ≤ (12 : Int) ∧ (12 : Int) ≤ (100000 : Int)) ∧ (-1099511627776 : Int) ≤ p.3 ∧ p.3 ≤ (1099511627776 : Int)) ∧ True) ∧ ((List.length x.2.2.3 = List.length x.2.2.3 ∧ True) ∧ True) ∧ bif ieq (peek x.2.2.3 (12 + 4 + p.3)) 0 then True ∧ bif linksB p.10 then (((List.length x.2.5 = List.length x.2.5 ∧ List.length (givL p.3) = List.length (givL p.3)) ∧ List.length x.2.5 ≤ (4294967296 : Nat)) ∧ True) ∧ bif sameB x.2.5 (givL p.3) then K (.bool true) [] else True ∧ bif !linksB p.10 then K (.bool (ieq (↑(List.length x.2.5) : Int) 0)) [] else K (.bool false) [] else True ∧ bif !linksB p.10 then K (.bool (ieq (↑(List.length x.2.5) : Int) 0)) [] else K (.bool false) [] else bif ieq p.3 0 then True ∧ bif linksB p.10 then (((List.length x.2.5 = List.length x.2.5 ∧ List.length (givL p.3) = List.length (givL p.3)) ∧ List.length x.2.5 ≤ (4294967296 : Nat)) ∧ True) ∧ bif sameB x.2.5 (givL p.3) then K (.bool true) [] else True ∧ bif !linksB p.10 then K (.bool (ieq (↑(List.length x.2.5) : Int) 0)) [] else K (.bool false) [] else True ∧ bif !linksB p.10 then K (.bool (ieq (↑(List.length x.2.5) : Int) 0)) [] else K (.bool false) [] else K (.bool false) [] else K (.bool false) [] else K (.bool false) [] else K (.bool false) [] else K (.bool false) [] else (262144 : Int) ≠ (0 : Int) ∧ bif !bif ieq (cutI (peek x.2.2.3 p.2) 0 10) 7 then bif ieq (cutI (peek x.2.2.3 p.2) 10 9) p.3 then bif bif ieq (cutI (peek x.2.2.3 p.2) 19 1) 1 then mk else !mk then bif ieq (cutI (peek x.2.2.3 p.2) 20 5) p.8 then bif ieq (cutI (peek x.2.2.3 p.2) 25 18) (Int.tmod (W (p.7 + 1)) 262144) then true else false else false else false else false else false then K (.bool false) [] else bif !ieq x.2.3 1 then K (.bool false) [] else bif !bif ieq (cutI (xl6 p x) 0 12) 3 then bif ieq (cutI (xl6 p x) 12 9) 0 then bif ieq (cutI (xl6 p x) 21 18) 0 then bif ieq (cutI (xl6 p x) 39 9) 0 then bif bif ieq (cutI (xl6 p x) 48 1) 1 then true else false then bif ieq (cutI (xl6 p x) 49 3) 5 then bif ieq (cutI (xl6 p x) 52 10) (W va) then true else false else false else false else false else false else false else false then K (.bool false) [] else bif !ieq (↑(List.length x.2.5) : Int) 0 then K (.bool false) [] else ((((0 : Int) ≤ (4 : Int) ∧ (4 : Int) ≤ (100000 : Int)) ∧ ((0 : Int) ≤ (12 : Int) ∧ (12 : Int) ≤ (100000 : Int)) ∧ (-1099511627776 : Int) ≤ p.3 ∧ p.3 ≤ (1099511627776 : Int)) ∧ True) ∧ ((List.length x.2.2.3 = List.length x.2.2.3 ∧ True) ∧ True) ∧ bif !ieq (peek x.2.2.3 (12 + 4 + p.3)) 0 then K (.bool false) [] else True ∧ bif popsB p.9 p.10 then ((List.length x.2.4 = List.length x.2.4 ∧ 1 = 1) ∧ List.length x.2.4 ≤ (4294967296 : Nat)) ∧ K (.bool (sameB x.2.4 [9])) [] else K (.bool (ieq (↑(List.length x.2.4) : Int) 0)) []
theorem xl_print (p : XX.PR) (n : Int) (th nd nx ver od do' va many : Int) (mk : Bool) (os : List Int) (K : AVal → Heap Ob → Prop) (h : xlVC p n th nd nx ver od do' va many mk os K) : CallOk (obI tbl) Try.prog 4 [.agg [.int .u8 th, .int .u8 nd, .int .u8 nx, .int .u16 ver, .bool mk, .int .u8 od, .int .u8 do', .int .u8 va], .int .u8 many, .iview (some .u8) os] [] K := by
  refine CallOk.trim (callOk_of (E := EXL) Try.checked.mixed (L := (xlPl p n th nd nx ver od do' va mk os)) (n := 10) (of_nf (q := xlVC p n th nd nx ver od do' va many mk os K) (by kernel_rfl) h))
end Go.Sh

namespace Go.Sh
open Go Go.Proofs
variable [Con]
open XX (PR okPR XM XW XD)
theorem plU_nat (k : Nat) : plU (k : Int) = k := by unfold plU; omega
section
variable {p : PR} {k : Int} {x : XCS}
theorem N_11 (hd : (xcY p.U p.sh p.kd p.ky k x).d = true) (hp : (!ieq (xcY p.U p.sh p.kd p.ky k x).x.popped 0) = true) (hg : (!ieq (xcY p.U p.sh p.kd p.ky k x).x.gave 0) = true) :
    xcN p k x = xcLeft (exClr x.ws (plU k)) x p.A (xcY p.U p.sh p.kd p.ky k x) (x.pp ++ [(xcY p.U p.sh p.kd p.ky k x).x.popped]) (x.gv ++ [(xcY p.U p.sh p.kd p.ky k x).x.gave]) := by
  unfold xcN xcLeft; rw [hd, hp, hg]; rfl
theorem N_10 (hd : (xcY p.U p.sh p.kd p.ky k x).d = true) (hp : (!ieq (xcY p.U p.sh p.kd p.ky k x).x.popped 0) = true) (hg : (!ieq (xcY p.U p.sh p.kd p.ky k x).x.gave 0) = false) :
    xcN p k x = xcLeft (exClr x.ws (plU k)) x p.A (xcY p.U p.sh p.kd p.ky k x) (x.pp ++ [(xcY p.U p.sh p.kd p.ky k x).x.popped]) x.gv := by
  unfold xcN xcLeft; rw [hd, hp, hg]; rfl
theorem N_01 (hd : (xcY p.U p.sh p.kd p.ky k x).d = true) (hp : (!ieq (xcY p.U p.sh p.kd p.ky k x).x.popped 0) = false) (hg : (!ieq (xcY p.U p.sh p.kd p.ky k x).x.gave 0) = true) :
    xcN p k x = xcLeft (exClr x.ws (plU k)) x p.A (xcY p.U p.sh p.kd p.ky k x) x.pp (x.gv ++ [(xcY p.U p.sh p.kd p.ky k x).x.gave]) := by
  unfold xcN xcLeft; rw [hd, hp, hg]; rfl
theorem N_00 (hd : (xcY p.U p.sh p.kd p.ky k x).d = true) (hp : (!ieq (xcY p.U p.sh p.kd p.ky k x).x.popped 0) = false) (hg : (!ieq (xcY p.U p.sh p.kd p.ky k x).x.gave 0) = false) :
    xcN p k x = xcLeft (exClr x.ws (plU k)) x p.A (xcY p.U p.sh p.kd p.ky k x) x.pp x.gv := by
  unfold xcN xcLeft; rw [hd, hp, hg]; rfl
theorem N_no (hd : (xcY p.U p.sh p.kd p.ky k x).d = false) :
    xcN p k x = xcLeft (exSet x.ws (plU k) ⟨4, 12, (xcY p.U p.sh p.kd p.ky k x).x⟩) x p.A (xcY p.U p.sh p.kd p.ky k x) x.pp x.gv := by
  unfold xcN xcLeft; rw [hd]; rfl
end
theorem XIC.mono {n : Int} {k k' : Nat} {x : XCS} (h : XIC n k x) (hk : k ≤ k') (h1 : k' ≤ 1000) : XIC n k' x := ⟨h.n1, h.n6, h.lw, h.t, h.m, h.c0, by have := h.c1; omega, h1⟩
theorem XI.mono {p : PR} {n : Int} {k k' ph : Nat} {x : XCS} (h : XI p n k ph x) (hk : k ≤ k') (h1 : k' ≤ 1000) : XI p n k' ph x := by
  unfold XI at h ⊢
  split at h
  · rename_i m; rw [if_pos m]; exact { h with toXIC := h.toXIC.mono hk h1 }
  · rename_i m; rw [if_neg m]; exact { h with toXIC := h.toXIC.mono hk h1 }
theorem XI.init {p : PR} (hp : okPW p) {n : Int} (n1 : 1 ≤ n) (n6 : n ≤ 6) : XI p n 0 0 ⟨exNew n.toNat, ⟨4, 12, XM p (XW p 9 false p.C p.W) (XD p 2) 0, 0 + 1 + 1, 2, 39 + 3 * p.U, 0, XD p 2, true⟩, 0, [], []⟩ := by
  have hc : XIC n 0 ⟨exNew n.toNat, ⟨4, 12, XM p (XW p 9 false p.C p.W) (XD p 2) 0, 0 + 1 + 1, 2, 39 + 3 * p.U, 0, XD p 2, true⟩, 0, [], []⟩ :=
    ⟨n1, n6, by unfold exNew; simp, rfl, rfl, by show (0 : Int) ≤ 0 + 1 + 1; decide, by show (0 : Int) + 1 + 1 ≤ 2 + ((0 : Nat) : Int); decide, by decide⟩
  have hw : ∀ (u : Nat) (w : EXN), (exNew n.toNat)[u]? = some (some w) → False := by
    intro u w h
    unfold exNew at h
    rw [List.getElem?_replicate] at h
    split at h
    · simp at h
    · cases h
  have ha : ∀ u, atW (exNew n.toNat) u ≠ 9 := by
    intro u e
    unfold atW at e
    split at e
    · rename_i w q; exact hw u w q
    · omega
  unfold XI
  by_cases m : matB p = true
  · rw [if_pos m]
    obtain ⟨hC, hW⟩ := matB_t m
    refine ⟨hc, by decide, ?_, fun u w h => (hw u w h).elim, rfl, rfl, rfl⟩
    show XM p (XW p 9 false p.C p.W) (XD p 2) 0 = XM p (vw0 p) (XD p 2) 0
    unfold vw0; rw [hC, hW]
  · rw [if_neg m]
    exact ⟨hc, by decide, rfl, fun u w h => (hw u w h).elim, rfl, rfl, fun u v h => (ha u h).elim, .inl rfl, fun h => (by cases h), fun _ => ha⟩
theorem prOf_W {th nd nx ver od do' va : Int} {mk : Bool} (h1 : 0 ≤ th ∧ th ≤ 255) (h2 : 0 ≤ nd ∧ nd ≤ 255) (h3 : 0 ≤ nx ∧ nx ≤ 255) (h4 : 0 ≤ ver ∧ ver ≤ 65535) (h5 : 0 ≤ od ∧ od ≤ 255) (h7 : 0 ≤ va ∧ va ≤ 255) :
    okPW (XX.prOf th nd nx ver od do' va mk) ∧ (matB (XX.prOf th nd nx ver od do' va mk) = ieq (Int.tmod od 3) 0) := by
  have a := XX.prOf_ok (od := od) (do' := do') (mk := mk) h1 h2 h3 h4 h7
  have ht : 0 ≤ Int.tmod od 3 ∧ Int.tmod od 3 < 3 := XX.tm_in h5.1 (by decide)
  have hu : 0 ≤ Int.tmod th 4 ∧ Int.tmod th 4 < 4 := XX.tm_in h1.1 (by decide)
  have hv : Int.tmod (Int.tmod th 4 + 1) 4 = (Int.tmod th 4 + 1) % 4 := Int.tmod_eq_emod_of_nonneg (by omega)
  have eC : (XX.prOf th nd nx ver od do' va mk).C = XX.prC od th := rfl
  have eW : (XX.prOf th nd nx ver od do' va mk).W = XX.prW od ver := rfl
  have eV : (XX.prOf th nd nx ver od do' va mk).V = ver := rfl
  have eU : (XX.prOf th nd nx ver od do' va mk).U = Int.tmod th 4 := rfl
  rcases (by omega : Int.tmod od 3 = 0 ∨ Int.tmod od 3 = 1 ∨ Int.tmod od 3 = 2) with q | q | q
  · have hC : XX.prC od th = 0 := by unfold XX.prC; rw [q]; rfl
    have hW : XX.prW od ver = ver := by unfold XX.prW; rw [q]; rfl
    have hm : matB (XX.prOf th nd nx ver od do' va mk) = true := by
      unfold matB
      rw [eC, eW, eV, hC, hW, ieqR, ieqR]; rfl
    exact ⟨{ tookPR := a, hO := fun h => by rw [hm] at h; cases h }, by rw [hm, q]; rfl⟩
  · have hC : XX.prC od th = 0 := by unfold XX.prC; rw [q]; rfl
    have hW : XX.prW od ver = ver + 1 := by unfold XX.prW; rw [q]; rfl
    have hm : matB (XX.prOf th nd nx ver od do' va mk) = false := by
      unfold matB
      rw [eC, eW, eV, hC, hW, ieqN (show ver + 1 ≠ ver by omega)]; rfl
    exact ⟨{ tookPR := a, hO := fun _ => .inr (by rw [eW, eV, hW]; omega) }, by rw [hm, q]; rfl⟩
  · have hC : XX.prC od th = Int.tmod (Int.tmod th 4 + 1) 4 + 1 := by unfold XX.prC; rw [q]; rfl
    have hC0 : XX.prC od th ≠ 0 := by rw [hC, hv]; omega
    have hm : matB (XX.prOf th nd nx ver od do' va mk) = false := by
      unfold matB
      rw [eC, ieqN hC0]; rfl
    exact ⟨{ tookPR := a, hO := fun _ => .inl ⟨by rw [eC]; exact hC0, by rw [eC, eU, hC, hv]; omega⟩ }, by rw [hm, q]; rfl⟩
end Go.Sh

namespace Go.Sh
open Go Go.Proofs
variable [Con]
open XX (PR okPR XM XW XD)
theorem dsP (p : PR) : (2 * 12 + 5 + 2 * 4 + 3 * p.1 + 2 : Int) = 39 + 3 * p.U := by show (2 * 12 + 5 + 2 * 4 + 3 * p.U + 2 : Int) = _; omega
theorem lfP (p : PR) : (12 + 4 + p.3 : Int) = 16 + p.N := by show (12 + 4 + p.N : Int) = _; omega
theorem vdE_all {p : PR} (hp : okPR p) : cutI (vdE p) 0 12 = 3 ∧ cutI (vdE p) 12 9 = 0 ∧ cutI (vdE p) 21 18 = 0 ∧ cutI (vdE p) 39 9 = 0 ∧ cutI (vdE p) 48 1 = 1 ∧ cutI (vdE p) 49 3 = 5 ∧ cutI (vdE p) 52 10 = p.X := by
  have h := vdE_ok hp
  unfold vdE
  exact ⟨XX.dcut_a h, XX.dcut_b h, XX.dcut_c h, XX.dcut_d h, XX.dcut_m h, XX.dcut_e h, XX.dcut_f h⟩
theorem vdE_in {p : PR} (hp : okPR p) : 0 ≤ vdE p ∧ vdE p ≤ 18446744073709551615 := XX.dPutV_in (vdE_ok hp)
theorem nodeN {p : PR} (hp : okPR p) : nodeB 12 p.N = ilt 0 p.N := by
  have := hp.hN
  unfold nodeB
  rw [ile_eq, ile_eq, ilt_eq]
  by_cases h : 0 < p.N
  · rw [decide_eq_true (show 1 ≤ p.N by omega), decide_eq_true (show p.N ≤ 12 by omega), decide_eq_true h]; rfl
  · rw [decide_eq_false (show ¬ 1 ≤ p.N by omega), decide_eq_false h]; rfl
structure ENDA (p : PR) (x : XCS) : Prop where
  w : peek x.s.xs p.A = vw2 p
  d : peek x.s.xs (39 + 3 * p.U) = vdE p
  l : peek x.s.xs (16 + p.N) = 0
  ch : x.ch = 1
  pp : x.pp = if popsB p.sh p.kd = true then [9] else []
  gv : x.gv = []
structure ENDB (p : PR) (x : XCS) : Prop where
  w : peek x.s.xs p.A = vwB p
  d : peek x.s.xs (39 + 3 * p.U) = vdN
  l : peek x.s.xs (16 + p.N) = (x.gv.length : Int)
  ch : x.ch = 0
  pp : x.pp = []
  gv : x.gv = if givB p = true then [p.N] else []
theorem XI.endA {p : PR} (hp : okPW p) (m : matB p = true) {n : Int} {k ph : Nat} {x : XCS} (h : XI p n k ph x) (q : XQ p 30 0 ph x) : ENDA p x := by
  unfold XI at h
  rw [if_pos m] at h
  have e : ph = finP p := q.fin (by simp)
  unfold finP at e
  rw [if_pos m] at e
  subst e
  have hx := h.xs
  refine ⟨by rw [hx, XX.XM_w p hp.tookPR]; rfl, by rw [hx, XX.XM_d p hp.tookPR]; rfl, by rw [hx, XX.XM_l p hp.tookPR], h.ch, ?_, h.gv⟩
  rw [h.pp]
  by_cases hb : popsB p.sh p.kd = true
  · rw [if_pos ⟨by decide, hb⟩, if_pos hb]
  · rw [if_neg (fun c => hb c.2), if_neg hb]
theorem XI.endB {p : PR} (hp : okPW p) (m : matB p = false) {n : Int} {k ph : Nat} {x : XCS} (h : XI p n k ph x) (q : XQ p 30 0 ph x) : ENDB p x := by
  have m' : ¬ (matB p = true) := by rw [m]; decide
  unfold XI at h
  rw [if_neg m'] at h
  have e : ph = finP p := q.fin (by simp)
  unfold finP at e
  rw [if_neg m'] at e
  subst e
  have hx := h.xs
  refine ⟨by rw [hx, XX.XM_w p hp.tookPR], by rw [hx, XX.XM_d p hp.tookPR]; rfl, by rw [hx, XX.XM_l p hp.tookPR], h.ch, h.pp, ?_⟩
  by_cases hg : givB p = true
  · rw [if_pos hg]
    rcases h.gv with c | ⟨c, _⟩
    · obtain ⟨u, hu⟩ := h.tok rfl hg c
      exact (q.non (by decide) u hu).elim
    · exact c
  · rw [if_neg hg]
    rcases h.gv with c | ⟨_, _, c, _⟩
    · exact c
    · exact (hg c).elim
set_option maxHeartbeats 0 in
theorem xl_vc {p : PR} {n th nd nx ver od do' va many : Int} {mk : Bool} {os : List Int} {K : AVal → Heap Ob → Prop} (hpe : p = XX.prOf th nd nx ver od do' va mk)
    (h1 : 0 ≤ th ∧ th ≤ 255) (h2 : 0 ≤ nd ∧ nd ≤ 255) (h3 : 0 ≤ nx ∧ nx ≤ 255) (h4 : 0 ≤ ver ∧ ver ≤ 65535) (h5 : 0 ≤ od ∧ od ≤ 255) (h7 : 0 ≤ va ∧ va ≤ 255) (h8 : 0 ≤ many ∧ many ≤ 255)
    (hn : n = 1 + many % 6) (hos : ∀ x ∈ os, 0 ≤ x ∧ x ≤ 255) (hK : K (.bool true) []) : xlVC p n th nd nx ver od do' va many mk os K := by
  obtain ⟨hpw, hmat⟩ := prOf_W (do' := do') (mk := mk) h1 h2 h3 h4 h5 h7
  rw [← hpe] at hpw hmat
  have hp := hpw.tookPR
  have n1 : 1 ≤ n := by omega
  have n6 : n ≤ 6 := by omega
  have hnn : ((Int.toNat n : Nat) : Int) = n := by omega
  have w1 : W th = th := W_in (by omega)
  have w2 : W nd = nd := W_in (by omega)
  have w3 : W nx = nx := W_in (by omega)
  have w8 : W many = many := W_in (by omega)
  have tmd : 0 ≤ Int.tmod nd 12 ∧ Int.tmod nd 12 < 12 := XX.tm_in h2.1 (by decide)
  have tmx : 0 ≤ Int.tmod nx 13 ∧ Int.tmod nx 13 < 13 := XX.tm_in h3.1 (by decide)
  have wA : W (1 + Int.tmod nd 12) = 1 + Int.tmod nd 12 := W_in (by omega)
  have wn : W (1 + Int.tmod many 6) = n := by
    have e : Int.tmod many 6 = many % 6 := Int.tmod_eq_emod_of_nonneg h8.1
    rw [e]
    have : W (1 + many % 6) = 1 + many % 6 := W_in (by omega)
    rw [this, hn]
  have pU : p.U = Int.tmod th 4 := by rw [hpe]; rfl
  have pA : p.A = 1 + Int.tmod nd 12 := by rw [hpe]; rfl
  have pN : p.N = Int.tmod nx 13 := by rw [hpe]; rfl
  have pM : p.M = mk := by rw [hpe]; rfl
  have pX : p.X = va := by rw [hpe]; rfl
  have pV : p.V = ver := by rw [hpe]; rfl
  have hN := hp.hN
  have r4 : (0 : Int) ≤ 4 ∧ (4 : Int) ≤ 100000 := by decide
  have r12 : (0 : Int) ≤ 12 ∧ (12 : Int) ≤ 100000 := by decide
  unfold xlVC
  refine ⟨trivial, cond_go (fun _ => hK) (fun e300 => ?_)⟩
  rw [ilt_eq, decide_eq_false_iff_not] at e300
  have h300 : os.length ≤ 300 := by omega
  rw [w1, w2, w3, w8, wA, wn]
  have ePr : (XX.prOf th nd nx ver od do' va mk) = p := hpe.symm
  have e24 : xl24 th nd nx ver od do' va mk = XW p 9 false p.C p.W := by rw [hpe]; rfl
  have e25 : xl25 th nd nx ver od do' va mk = XM p (XW p 9 false p.C p.W) (XD p 2) 0 := by rw [hpe]; rfl
  have e26 : xl26 th nd nx ver od do' va mk = XW p 9 false p.C p.W := by
    unfold xl26
    rw [e25, w2, wA, ← pA, XX.XM_w p hp]
  have e23 : xl23 th nd nx ver od do' va mk = XD p 2 := by rw [hpe]; rfl
  have cB := vwB_cuts hp
  unfold vwB at cB
  rw [e25, e26, e23, ← pA, ← pU, ← pN, XX.XM_w p hp, cB.1, cB.2.1, cB.2.2.1, cB.2.2.2.1, cB.2.2.2.2]
  refine ⟨⟨h1, h2, h3, h4, h7⟩, by decide, by decide, by decide, ⟨rfl, trivial⟩, vwB_in hp, ⟨⟨r4, r12, by omega, by omega⟩, trivial⟩, ⟨⟨rfl, trivial⟩, trivial⟩, by decide, ⟨by omega, rfl, by omega⟩, ?_, ?_⟩
  · -- the rounds begin
    have ea : (12 + 4 + p.N : Int) = 16 + p.N := by omega
    rw [ea, XX.XM_l p hp]
    have eb : ieq (bitI false) 1 = false := by decide
    rw [eb]
    have es : XX.prSh do' = p.sh := by rw [hpe]; rfl
    have ek : XX.prKd do' = p.kd := by rw [hpe]; rfl
    have ey : XX.prKy do' = p.ky := by rw [hpe]; rfl
    rw [es, ek, ey]
    exact okSt_intro (H := HX1 p n th nd nx ver od do' va mk os) (0, ⟨exNew n.toNat, ⟨4, 12, XM p (XW p 9 false p.C p.W) (XD p 2) 0, 0 + 1 + 1, 2, 39 + 3 * p.U, 0, XD p 2, true⟩, 0, [], []⟩) (by kernel_rfl) ⟨Nat.zero_le _, h300, 0, XI.init hpw n1 n6⟩
  intro x hx
  obtain ⟨hi, _, ph, hI⟩ := hx
  refine cond_go (fun e => ?_) (fun e => ?_)
  · -- a step as it is drawn
    rw [ilt_eq, decide_eq_true_eq] at e
    have e' : x.1 < os.length := by have : ((x.1 : Nat) : Int) < (os.length : Nat) := e; omega
    have hod : 0 ≤ xl1 os x ∧ xl1 os x ≤ 255 := by
      have : xl1 os x = os[x.1] := by
        unfold xl1
        rw [show Int.toNat (x.1 : Int) = x.1 from by omega, List.getD_eq_getElem?_getD, List.getElem?_eq_getElem e']; rfl
      rw [this]
      exact hos _ (List.getElem_mem e')
    have wo : W (xl1 os x) = xl1 os x := W_in (by omega)
    have t0 : 0 ≤ xl4 n os x := by unfold xl4; rw [wo]; exact Int.tmod_nonneg _ hod.1
    have t1 : xl4 n os x < n := by unfold xl4; rw [hnn]; exact Int.tmod_lt_of_pos _ (by omega)
    obtain ⟨ok, ph', hle, hI', _⟩ := hI.step hpw (by omega) t0 t1
    have e20 : xl20 os x = ((.iview (some .u8) os) :: (.int .i64 (↑(List.length os) : Int)) :: (.int .i64 ((x.1 + 1 : Nat) : Int)) :: tops 145 ([])) := by
      unfold xl20
      have : W ((x.1 : Int) + 1) = ((x.1 + 1 : Nat) : Int) := W_in (by omega)
      rw [this]
    have okn : okX1 p n os (x.1 + 1, xcN p (xl4 n os x) x.2) := ⟨by show x.1 + 1 ≤ _; omega, h300, ph', hI'⟩
    have hmu : os.length - (x.1 + 1) < os.length - x.1 := by omega
    refine ⟨⟨by omega, e⟩, by omega, ⟨⟨rfl, rfl, rfl, rfl, rfl⟩, by rw [hnn]; exact ok⟩, ?_⟩
    rw [e20]
    have hY : xl5 p n os x = xcY p.U p.sh p.kd p.ky (xl4 n os x) x.2 := rfl
    refine cond_go (fun hd => cond_go (fun hp' => cond_go (fun hg => ?_) (fun hg => ?_)) (fun hp' => cond_go (fun hg => ?_) (fun hg => ?_))) (fun hd => ?_)
    · rw [N_11 hd hp' hg] at okn
      exact okSt_intro (H := HX1 p n th nd nx ver od do' va mk os) _ (by kernel_rfl) ⟨okn, hmu⟩
    · rw [N_10 hd hp' hg] at okn
      exact okSt_intro (H := HX1 p n th nd nx ver od do' va mk os) _ (by kernel_rfl) ⟨okn, hmu⟩
    · rw [N_01 hd hp' hg] at okn
      exact okSt_intro (H := HX1 p n th nd nx ver od do' va mk os) _ (by kernel_rfl) ⟨okn, hmu⟩
    · rw [N_00 hd hp' hg] at okn
      exact okSt_intro (H := HX1 p n th nd nx ver od do' va mk os) _ (by kernel_rfl) ⟨okn, hmu⟩
    · rw [N_no hd] at okn
      exact okSt_intro (H := HX1 p n th nd nx ver od do' va mk os) _ (by kernel_rfl) ⟨okn, hmu⟩
  -- the last rounds
  refine ⟨okSt_intro (H := HX2 p n th nd nx ver od do' va mk) (0, x.2) (by kernel_rfl) ⟨by show 0 ≤ 30; omega, ph, hI.mono (by omega) (by omega), XQ.init⟩, ?_⟩
  intro x hx
  obtain ⟨hi, ph, hI, hQ⟩ := hx
  refine cond_go (fun e => ?_) (fun e => ?_)
  · rw [ilt_eq, decide_eq_true_eq] at e
    have e30 : x.1 < 30 := by omega
    have er : Int.toNat (x.1 : Int) = x.1 := by omega
    refine ⟨okSt_intro (H := xl3 p n th nd nx ver od do' va mk x) ((0, x.2) : Nat × XCS) (by kernel_rfl) ⟨by omega, Nat.zero_le _, ph, by rw [er]; exact hI, by rw [er]; exact hQ⟩, ?_⟩
    intro y hy
    obtain ⟨_, hj, ph, hI, hQ⟩ := hy
    rw [er] at hI hQ
    refine cond_go (fun e2 => ?_) (fun e2 => ?_)
    · rw [ilt_eq, decide_eq_true_eq] at e2
      have e2' : y.1 < n.toNat := by have : ((y.1 : Nat) : Int) < ((Int.toNat n : Nat) : Int) := e2; omega
      have l1 := hI.le
      obtain ⟨ok, ph', hle, hI', hmu, hoth, hno⟩ := hI.step hpw (by omega) (i := (y.1 : Int)) (by omega) (by omega)
      rw [plU_nat] at hmu hoth hno
      have hQ' := hQ.step hI hle hI' hmu hoth hno
      have e15 : xl15 n y = ((.int .i64 (↑(Int.toNat n) : Int)) :: (.int .i64 ((y.1 + 1 : Nat) : Int)) :: tops 127 ([])) := by
        unfold xl15
        have : W ((y.1 : Int) + 1) = ((y.1 + 1 : Nat) : Int) := W_in (by omega)
        rw [this]
      have okn : okX3 p n (x.1 : Int) (y.1 + 1, xcN p (y.1 : Int) y.2) := ⟨by omega, by show y.1 + 1 ≤ _; omega, ph', by rw [er]; exact hI', by rw [er]; exact hQ'⟩
      have hmu2 : n.toNat - (y.1 + 1) < n.toNat - y.1 := by omega
      refine ⟨⟨⟨rfl, rfl, rfl, rfl, rfl⟩, by rw [hnn]; exact ok⟩, ?_⟩
      rw [e15]
      refine cond_go (fun hd => cond_go (fun hp' => cond_go (fun hg => ?_) (fun hg => ?_)) (fun hp' => cond_go (fun hg => ?_) (fun hg => ?_))) (fun hd => ?_)
      · rw [N_11 hd hp' hg] at okn
        exact okSt_intro (H := xl3 p n th nd nx ver od do' va mk x) _ (by kernel_rfl) ⟨okn, hmu2⟩
      · rw [N_10 hd hp' hg] at okn
        exact okSt_intro (H := xl3 p n th nd nx ver od do' va mk x) _ (by kernel_rfl) ⟨okn, hmu2⟩
      · rw [N_01 hd hp' hg] at okn
        exact okSt_intro (H := xl3 p n th nd nx ver od do' va mk x) _ (by kernel_rfl) ⟨okn, hmu2⟩
      · rw [N_00 hd hp' hg] at okn
        exact okSt_intro (H := xl3 p n th nd nx ver od do' va mk x) _ (by kernel_rfl) ⟨okn, hmu2⟩
      · rw [N_no hd] at okn
        exact okSt_intro (H := xl3 p n th nd nx ver od do' va mk x) _ (by kernel_rfl) ⟨okn, hmu2⟩
    · rw [ilt_eq, decide_eq_false_iff_not] at e2
      have ej : y.1 = n.toNat := by
        have : ¬ (((y.1 : Nat) : Int) < ((Int.toNat n : Nat) : Int)) := e2
        omega
      have hall : ∀ u, y.1 ≤ u → atW y.2.ws u ≠ 9 := by
        intro u hu e9
        have hl : y.2.ws.length = n.toNat := hI.com.lw
        unfold atW at e9
        rw [List.getElem?_eq_none (by omega)] at e9
        exact absurd e9 (by decide)
      have hQ' := hQ.next (by omega) hall
      have wx : W ((x.1 : Int) + 1) = ((x.1 + 1 : Nat) : Int) := W_in (by omega)
      rw [wx]
      exact okSt_intro (H := HX2 p n th nd nx ver od do' va mk) (x.1 + 1, y.2) (by kernel_rfl) ⟨⟨by show x.1 + 1 ≤ 30; omega, ph, hI.mono (by omega) (by omega), hQ'⟩, by show 30 - (x.1 + 1) < 30 - x.1; omega⟩
  rw [ilt_eq, decide_eq_false_iff_not] at e
  have ex : x.1 = 30 := by
    have e' : ¬ ((x.1 : Int) < 30) := e
    omega
  rw [ex] at hQ
  have rA : (-1099511627776 : Int) ≤ p.1 ∧ p.1 ≤ (1099511627776 : Int) := by have := hp.hU; show _ ≤ p.U ∧ p.U ≤ _; omega
  have rN : (-1099511627776 : Int) ≤ p.3 ∧ p.3 ≤ (1099511627776 : Int) := by show _ ≤ p.N ∧ p.N ≤ _; omega
  have d1 : (((0 : Int) ≤ (4 : Int) ∧ (4 : Int) ≤ (100000 : Int)) ∧ ((0 : Int) ≤ (12 : Int) ∧ (12 : Int) ≤ (100000 : Int)) ∧ (-1099511627776 : Int) ≤ p.3 ∧ p.3 ≤ (1099511627776 : Int)) ∧ True := ⟨⟨r4, r12, rN⟩, trivial⟩
  have d2 : (List.length x.2.2.3 = List.length x.2.2.3 ∧ True) ∧ True := ⟨⟨rfl, trivial⟩, trivial⟩
  rw [← hmat]
  cases hm : matB p with
  | true =>
    have E := hI.endA hpw hm hQ
    have cb := vw2_cuts hp
    have cd := vdE_all hp
    have hd : xl6 p x = vdE p := by unfold xl6; rw [dsP]; exact E.d
    have mt := matB_t hm
    have sB : sameB [9] [9] = true := by decide
    have pp9 : ∀ b : Bool, (if b = true then [9] else ([] : List Int)) = bif b then [9] else [] := by intro b; cases b <;> rfl
    have tm : Int.tmod (W (p.7 + 1)) 262144 = (p.V + 1) % 262144 := by
      have hV := hp.hV
      show Int.tmod (W (p.W + 1)) 262144 = _
      rw [mt.2, show W (p.V + 1) = p.V + 1 from W_in (by omega)]
      exact Int.tmod_eq_emod_of_nonneg (by omega)
    have mkk : ∀ b : Bool, (bif bif ieq (bitI b) 1 then b else !b then true else false) = true := by intro b; cases b <;> decide
    have mk2 : (bif ieq (bitI p.M) 1 then mk else !mk) = true := by rw [pM]; cases mk <;> decide
    have lp : (List.length x.2.4 = List.length x.2.4 ∧ 1 = 1) ∧ (List.length x.2.4 : Nat) ≤ 4294967296 := by
      refine ⟨⟨rfl, rfl⟩, ?_⟩
      have := E.pp
      rw [this]
      split <;> decide
    have e10 : p.10 = p.sh ∨ p.10 = p.kd := by simp
    have wiA : 0 ≤ vw2 p ∧ vw2 p ≤ 18446744073709551615 := by
      have hV := hp.hV
      exact vw_in hp (by omega) (by omega) (by omega)
    simp only [hd, E.w, E.l, E.ch, E.gv, dsP, lfP, E.d, cb.1, cb.2.1, cb.2.2.1, cb.2.2.2.1, cb.2.2.2.2, cd.1, cd.2.1, cd.2.2.1, cd.2.2.2.1, cd.2.2.2.2.1, cd.2.2.2.2.2.1, cd.2.2.2.2.2.2, ieqR, tm, mk2, mt.1, pX, Bool.not_true, Bool.not_false, cond_true, cond_false]
    have z : ieq ((List.length ([] : List Int) : Nat) : Int) 0 = true := by decide
    have wv : W va = va := W_in (by omega)
    refine ⟨⟨⟨trivial, trivial⟩, trivial⟩, wiA, ⟨⟨r4, r12, rA⟩, trivial⟩, ⟨⟨trivial, trivial⟩, trivial⟩, vdE_in hp, by decide, by decide, ?_⟩
    rw [wv, z, ieqR]
    refine ⟨d1, ⟨⟨trivial, trivial⟩, trivial⟩, trivial, ?_⟩
    have g := E.pp
    cases hb : popsB p.sh p.kd with
    | true =>
      rw [hb] at g
      rw [show x.2.4 = [9] from g]
      exact ⟨⟨⟨trivial, trivial⟩, by decide⟩, hK⟩
    | false =>
      rw [hb] at g
      rw [show x.2.4 = [] from g]
      exact hK
  | false =>
    have E := hI.endB hpw hm hQ
    have cb := vwB_cuts hp
    have cd : cutI vdN 0 12 = 4 ∧ cutI vdN 12 9 = 0 ∧ cutI vdN 21 18 = 0 ∧ cutI vdN 39 9 = 0 ∧ cutI vdN 48 1 = 0 ∧ cutI vdN 49 3 = 1 ∧ cutI vdN 52 10 = 0 := by decide
    have hd : xl6 p x = vdN := by unfold xl6; rw [dsP]; exact E.d
    have eb : ieq (bitI false) 1 = false := by decide
    have i01 : ieq 0 1 = false := by decide
    have g := E.gv
    unfold givB at g
    rw [nodeN hp] at g
    have gl : (List.length x.2.5 : Nat) ≤ 4294967296 := by rw [g]; split <;> simp
    have ivn : 0 ≤ vdN ∧ vdN ≤ 18446744073709551615 := by decide
    simp only [hd, E.w, E.l, E.ch, E.pp, dsP, lfP, E.d, cb.1, cb.2.1, cb.2.2.1, cb.2.2.2.1, cb.2.2.2.2, cd.1, cd.2.1, cd.2.2.1, cd.2.2.2.1, cd.2.2.2.2.1, cd.2.2.2.2.2.1, cd.2.2.2.2.2.2, ieqR, eb, i01, Bool.not_true, Bool.not_false, cond_true, cond_false]
    have z : ieq ((List.length ([] : List Int) : Nat) : Int) 0 = true := by decide
    refine ⟨⟨⟨trivial, trivial⟩, trivial⟩, vwB_in hp, ⟨⟨r4, r12, rA⟩, trivial⟩, ⟨⟨trivial, trivial⟩, trivial⟩, ivn, by decide, trivial, ?_⟩
    rw [z]
    cases hl : linksB p.kd with
    | false =>
      rw [hl] at g
      rw [show x.2.5 = [] from g, z]
      exact ⟨d1, ⟨⟨trivial, trivial⟩, trivial⟩, trivial, trivial, hK⟩
    | true =>
      rw [hl] at g
      cases hn : ilt 0 p.N with
      | true =>
        rw [hn] at g
        have e1 : ieq p.N 0 = false := by
          rw [ilt_eq, decide_eq_true_eq] at hn
          rw [ieq_eq, beq_eq_false_iff_ne]; omega
        have e2 : givL p.N = [p.N] := by unfold givL; rw [e1]; rfl
        rw [show x.2.5 = [p.N] from g, e2, sameB_self]
        exact ⟨d1, ⟨⟨trivial, trivial⟩, trivial⟩, trivial, ⟨⟨⟨trivial, trivial⟩, by show 1 ≤ _; decide⟩, trivial⟩, hK⟩
      | false =>
        rw [hn] at g
        have e0 : p.N = 0 := by
          rw [ilt_eq, decide_eq_false_iff_not] at hn
          omega
        rw [show x.2.5 = [] from g, e0, z]
        exact ⟨⟨⟨r4, r12, by decide⟩, trivial⟩, ⟨⟨trivial, trivial⟩, trivial⟩, trivial, ⟨⟨⟨trivial, trivial⟩, by show 0 ≤ _; decide⟩, trivial⟩, hK⟩
end Go.Sh

