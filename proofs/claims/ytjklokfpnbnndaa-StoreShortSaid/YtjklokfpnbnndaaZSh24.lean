import Derived.Test.YtjklokfpnbnndaaZM46toM49
set_option linter.all false
/- The small-heap evaluator, part 24: less than is told. -/
namespace Go.Sh
open Go
variable [Con] {A : Type} {P : Program}

/-- a value told no more -/
def weakV : List AVal → List AVal → Prop
  | [], [] => True
  | v :: vs, w :: ws => (w = v ∨ w = .top) ∧ weakV vs ws
  | _, _ => False
theorem weakV_rep {V : Val} : ∀ {vs ws : List AVal} {xs : List Value}, weakV vs ws → RepL V vs xs → RepL V ws xs
  | [], [], _, _, r => r
  | v :: vs, w :: ws, _, ⟨h, h2⟩, ⟨x, xs, e, r, r2⟩ => ⟨x, xs, e, by rcases h with rfl | rfl; exact r; exact trivial, weakV_rep h2 r2⟩
def weakE : Option (Entry A) → Option (Entry A) → Prop
  | _, none => True
  | some (.cells vs), some (.cells ws) => weakV vs ws
  | x, y => x = y
def weakH : Heap A → Heap A → Prop
  | [], [] => True
  | x :: g, y :: g2 => weakE x y ∧ weakH g g2
  | _, _ => False
theorem weakH_len : ∀ {g g2 : Heap A}, weakH g g2 → g2.length = g.length
  | [], [], _ => rfl
  | x :: g, y :: g2, h => by simp [weakH_len h.2]
theorem weakH_get : ∀ {g g2 : Heap A}, weakH g g2 → ∀ l, weakE (hget g l) (hget g2 l)
  | [], [], _, l => by simp [hget, weakE]
  | x :: g, y :: g2, h, 0 => by simpa [hget] using h.1
  | x :: g, y :: g2, h, l + 1 => by
    have := weakH_get h.2 l
    simpa [hget] using this
theorem Inv.weak {I : Itp A} {V : Val} {g g2 : Heap A} {hR : PHeap} {w : World} (hw : weakH g g2) (hi : Inv I V (toF g) hR w) : Inv I V (toF g2) hR w := by
  classical
  obtain ⟨hs, h1, h2, h3, h4, h5, h6⟩ := hi
  refine ⟨fun l => if hget g2 l = none then .emp else hs l, ?_, ?_, ?_, ?_, ?_, h6⟩
  · intro l e he
    have he' : hget g2 l = some e := he
    have hq := weakH_get hw l
    rw [he'] at hq
    show e.interp I V l (if hget g2 l = none then PHeap.emp else hs l)
    rw [if_neg (by rw [he']; simp)]
    cases hg : hget g l with
    | none => rw [hg] at hq; cases e <;> cases hq
    | some e1 =>
      rw [hg] at hq
      have hi1 := h1 l e1 hg
      cases e1 with
      | cells vs =>
        cases e with
        | cells ws =>
          obtain ⟨b, k, q1, cs, T, q2, q3, rs, tail, q4, q5⟩ := hi1
          exact ⟨b, k, q1, cs, T, q2, q3, rs, tail, q4, weakV_rep hq q5⟩
        | _ => simp [weakE] at hq
      | _ =>
        simp only [weakE, Option.some.injEq] at hq
        subst hq
        exact hi1
  · intro l he
    have he' : hget g2 l = none := he
    show (if hget g2 l = none then PHeap.emp else hs l) = _
    rw [if_pos he']
  · intro l m hlm
    show PHeap.disj (if hget g2 l = none then .emp else hs l) (if hget g2 m = none then .emp else hs m)
    split
    · exact (PHeap.disj_emp _).symm
    · split
      · exact PHeap.disj_emp _
      · exact h3 l m hlm
  · intro l
    show PHeap.disj (if hget g2 l = none then .emp else hs l) hR
    split
    · exact (PHeap.disj_emp _).symm
    · exact h4 l
  · intro l
    show PHeap.sub (if hget g2 l = none then .emp else hs l) w
    split
    · exact PHeap.emp_sub _
    · exact h5 l
/-- K, of less than is told -/
structure LessK (K : AVal → Heap A → Prop) (v : AVal) (g : Heap A) : Prop where
  ex : ∃ g2, weakH g g2 ∧ K v g2
theorem CallOk.less {I : Itp A} {f : FuncId} {args : List AVal} {h : Heap A} {K : AVal → Heap A → Prop} (h0 : CallOk I P f args h (LessK K)) : CallOk I P f args h K := by
  intro V hR w args' hi hf hr
  refine (h0 V hR w args' hi hf hr).mono ?_
  rintro e w' ⟨v, v', V', g', ⟨g2, hw, hK⟩, k2, k3, k4, k5, k6, k7, k8⟩
  exact ⟨v, v', V', g2, hK, k2, k3, k4, by rw [weakH_len hw]; exact k5, by rw [weakH_len hw]; exact k6, k7.weak hw, k8⟩
end Go.Sh

