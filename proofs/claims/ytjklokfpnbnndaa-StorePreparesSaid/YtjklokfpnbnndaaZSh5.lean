/- The small-heap evaluator, part 5: the operations on values alone are sound. -/
import Derived.Test.YtjklokfpnbnndaaZSh4
set_option linter.all false
set_option linter.unusedVariables false
set_option linter.unusedSectionVars false
namespace Go.Sh
open Go
variable [Con] {A : Type} {I : A → Nat → PHeap → Prop}
section
variable {P : Program} {V : Val}

theorem aeq_run : ∀ (d : Nat) (t : TypeId) (x y : AVal) (r : Bool) (x' y' : Value) (w : World), aeq P d t x y = some r → Rep V x x' → Rep V y y' →
    ∀ D, d ≤ D → (Op.equalIn D t x' y').run P w = .ok r w := by
  intro d
  induction d with
  | zero => intro t x y r x' y' w h; simp [aeq] at h
  | succ d ih =>
    intro t x y r x' y' w h hx hy D hD
    obtain ⟨D, rfl⟩ : ∃ E, D = E + 1 := ⟨D - 1, by omega⟩
    have hD' : d ≤ D := by omega
    have hgo : ∀ (fs : List Field) (xs ys : List AVal) (r : Bool) (xs' ys' : Array Value) (w : World), aeqF P (aeq P d) xs ys fs = some r → RepL V xs xs'.toList → RepL V ys ys'.toList →
        (Op.eqFields D xs' ys' fs).run P w = .ok r w := by
      intro fs
      induction fs with
      | nil => intro xs ys r xs' ys' w h _ _; simp [aeqF] at h; subst h; simp [Op.eqFields]
      | cons f fs ihf =>
        intro xs ys r xs' ys' w h hxs hys
        unfold aeqF at h
        by_cases hf : f.name = "_"
        · rw [if_pos hf] at h
          simp only [Op.eqFields, hf, ne_eq, not_true_eq_false, if_false]
          exact ihf xs ys r xs' ys' w h hxs hys
        · rw [if_neg hf] at h
          simp only [Op.eqFields, ne_eq, hf, not_false_eq_true, if_true]
          cases ha : apart P f.type xs f.offset with
          | none => rw [ha] at h; cases h
          | some a =>
            cases hb : apart P f.type ys f.offset with
            | none => rw [ha, hb] at h; cases h
            | some b =>
              rw [ha, hb] at h
              simp only at h
              cases hq : aeq P d f.type a b with
              | none => rw [hq] at h; cases h
              | some q =>
                rw [hq] at h
                simp only at h
                cases hg : aeqF P (aeq P d) xs ys fs with
                | none => rw [hg] at h; cases h
                | some q2 =>
                  rw [hg] at h
                  simp only [Option.some.injEq] at h
                  obtain ⟨a', ra, ra'⟩ := apart_run (w := w) ha hxs
                  obtain ⟨b', rb, rb'⟩ := apart_run (w := w) hb hys
                  have e := ih f.type a b q a' b' w hq ra' rb' D hD'
                  simp only [Sem.run_bind, ra, rb, Result.andThen_ok, e, Sem.run_ite]
                  cases q with
                  | false => simp at h; subst h; simp
                  | true =>
                    simp at h; subst h
                    simp only [Bool.not_true, Bool.false_eq_true, if_false]
                    exact ihf xs ys _ xs' ys' w hg hxs hys
    unfold aeq at h
    split at h
    · rename_i hu; simp at h; subst h
      have e1 : x' = .bool _ := hx
      have e2 : y' = .bool _ := hy
      subst e1 e2
      rw [show ∀ a b : Bool, cond a b (!b) = (a == b) from by decide]; exact run_equalIn_bool' w D t _ _ hu
    · rename_i hu
      split at h
      · simp at h; subst h
        have e1 : x' = .int _ _ := hx
        have e2 : y' = .int _ _ := hy
        rename_i hk; subst hk
        subst e1 e2
        rw [ieq_eq]; exact run_equalIn_int w D t _ _ _ _ hu
      · cases h
    · rename_i hu; simp at h; subst h
      have e1 : x' = .string _ := hx
      have e2 : y' = .string _ := hy
      subst e1 e2
      rw [seq_eq]; exact run_equalIn_string w D t _ _ hu
    · rename_i hu; simp at h; subst h
      have e1 : x' = .pointer none := hx
      have e2 : y' = .pointer none := hy
      subst e1 e2
      simp [Op.equalIn, underlying, hu]
    · rename_i hu; simp at h; subst h
      have e1 : x' = .pointer none := hx
      obtain ⟨b, k, _, e2⟩ := hy
      subst e1 e2
      simp [Op.equalIn, underlying, hu]
    · rename_i hu; simp at h; subst h
      have e1 : y' = .pointer none := hy
      obtain ⟨b, k, _, e2⟩ := hx
      subst e1 e2
      simp [Op.equalIn, underlying, hu]
    · rename_i fs xs ys hu
      split at h
      · cases h
      · rename_i hs
        obtain ⟨xs', e1, rx⟩ := hx
        obtain ⟨ys', e2, ry⟩ := hy
        subst e1 e2
        have hfs : P.fieldsOf t = fs := by simp [Program.fieldsOf, hu]
        rw [run_equalIn_struct w D t xs' ys' (by rw [hfs]; exact hu) (by simpa using hs), hfs]
        exact hgo fs.toList xs ys r xs' ys' w h rx ry
    · cases h

theorem eqGuard_run {op : BinOp} {t : TypeId} {X Y : Operand} {x y : Value} {w : World} (h : P.eqGuardType P.depth t = false) (hn : x ≠ .nilIface ∨ y ≠ .nilIface) :
    (eqGuard op t X Y x y).run P w = .ok () w := by
  have key : ∀ op : BinOp, (op = .eql ∨ op = .neq) → (eqGuard op t X Y x y).run P w = .ok () w := by
    intro op ho
    have hagg : ∀ cs ds, (eqGuard op t X Y (.agg cs) (.agg ds)).run P w = .ok () w := by
      intro cs ds
      obtain ⟨u, hu⟩ : ∃ u : Sem Unit, eqGuard op t X Y (.agg cs) (.agg ds) = (do
        if !(← program).eqGuardType (← program).depth t then return
        if ← Op.eqGuardIn Op.maxDepth t (.agg cs) (.agg ds) then u : Sem Unit) := by
        rcases ho with rfl | rfl <;> exact ⟨_, rfl⟩
      rw [hu]
      simp [h]
    cases x with
    | agg cs =>
      cases y with
      | agg ds => exact hagg cs ds
      | _ => rcases ho with rfl | rfl <;> rfl
    | nilIface =>
      cases y with
      | nilIface => simp at hn
      | _ => rcases ho with rfl | rfl <;> rfl
    | _ => rcases ho with rfl | rfl <;> rfl
  cases op <;> first | rfl | exact key _ (.inl rfl) | exact key _ (.inr rfl)

/-- what can be compared -/
theorem aeq_shape {d : Nat} {t : TypeId} {a b : AVal} {r : Bool} (h : aeq P d t a b = some r) :
    (∃ p q, a = .bool p ∧ b = .bool q) ∨ (∃ k n k' m, a = .int k n ∧ b = .int k' m) ∨ (∃ p q, a = .str p ∧ b = .str q) ∨
    (a = .raw (.pointer none) ∧ b = .raw (.pointer none)) ∨ (∃ l o, a = .raw (.pointer none) ∧ b = .ptr l o) ∨ (∃ l o, a = .ptr l o ∧ b = .raw (.pointer none)) ∨
    (∃ xs ys, a = .agg xs ∧ b = .agg ys) := by
  cases d with
  | zero => simp [aeq] at h
  | succ d =>
    unfold aeq at h
    split at h
    · exact .inl ⟨_, _, rfl, rfl⟩
    · exact .inr (.inl ⟨_, _, _, _, rfl, rfl⟩)
    · exact .inr (.inr (.inl ⟨_, _, rfl, rfl⟩))
    · exact .inr (.inr (.inr (.inl ⟨rfl, rfl⟩)))
    · exact .inr (.inr (.inr (.inr (.inl ⟨_, _, rfl, rfl⟩))))
    · exact .inr (.inr (.inr (.inr (.inr (.inl ⟨_, _, rfl, rfl⟩)))))
    · exact .inr (.inr (.inr (.inr (.inr (.inr ⟨_, _, rfl, rfl⟩)))))
    · cases h

theorem binOp_eq {op : BinOp} (ho : op = .eql ∨ op = .neq) {d : Nat} {t : TypeId} {a b : AVal} {r : Bool} {x y : Value} (h : aeq P d t a b = some r) (hx : Rep V a x) (hy : Rep V b y)
    (h1 : ∀ k n k' m, a = .int k n → b = .int k' m → False) (h2 : ∀ p q, a = .str p → b = .str q → False) :
    binOp op t x y = (do let e ← Op.equal t x y; Pure.pure (.bool (if op = .neq then !e else e))) := by
  rcases aeq_shape h with ⟨p, q, rfl, rfl⟩ | ⟨k, n, k', m, rfl, rfl⟩ | ⟨p, q, rfl, rfl⟩ | ⟨rfl, rfl⟩ | ⟨l, o, rfl, rfl⟩ | ⟨l, o, rfl, rfl⟩ | ⟨xs, ys, rfl, rfl⟩
  · have e1 : x = .bool p := hx
    have e2 : y = .bool q := hy
    subst e1 e2
    rcases ho with rfl | rfl <;> rfl
  · exact (h1 _ _ _ _ rfl rfl).elim
  · exact (h2 _ _ rfl rfl).elim
  · have e1 : x = .pointer none := hx
    have e2 : y = .pointer none := hy
    subst e1 e2
    rcases ho with rfl | rfl <;> rfl
  · have e1 : x = .pointer none := hx
    obtain ⟨b, k, _, e2⟩ := hy
    subst e1 e2
    rcases ho with rfl | rfl <;> rfl
  · have e1 : y = .pointer none := hy
    obtain ⟨b, k, _, e2⟩ := hx
    subst e1 e2
    rcases ho with rfl | rfl <;> rfl
  · obtain ⟨x', e1, _⟩ := hx
    obtain ⟨y', e2, _⟩ := hy
    subst e1 e2
    rcases ho with rfl | rfl <;> rfl

theorem rep_not_nilIface {a b : AVal} {r : Bool} {d : Nat} {t : TypeId} {x y : Value} (h : aeq P d t a b = some r) (hx : Rep V a x) : x ≠ .nilIface := by
  cases d with
  | zero => simp [aeq] at h
  | succ d =>
    unfold aeq at h
    split at h
    · rintro rfl; cases hx
    · rintro rfl; cases hx
    · rintro rfl; cases hx
    · rintro rfl; cases hx
    · rintro rfl; cases hx
    · rintro rfl; obtain ⟨_, _, _, e⟩ := hx; cases e
    · rintro rfl; obtain ⟨_, e, _⟩ := hx; cases e
    · cases h

theorem abin_run {op : BinOp} {t : TypeId} {X Y : Operand} {a b v : AVal} {p : Option Prop} {x y : Value} {w : World} (h : abin P op t a b = some (v, p)) (hp : onp p) (hx : Rep V a x) (hy : Rep V b y) :
    ∃ v', (do eqGuard op t X Y x y; binOp op t x y : Sem Value).run P w = .ok v' w ∧ Rep V v v' := by
  unfold abin at h
  split at h
  · rename_i k n k' m
    have e1 : x = .int k n := hx
    have e2 : y = .int k' m := hy
    subst e1 e2
    have hg : ∀ op, eqGuard op t X Y (.int k n) (.int k' m) = Pure.pure () := fun op => eqGuard_at_int ..
    split at h
    · simp only [Option.some.injEq, Prod.mk.injEq] at h
      obtain ⟨rfl, rfl⟩ := h
      refine ⟨.int k (k.wrap (n * 2 ^ (min m.toNat k.bits))), ?_, rfl⟩
      have : ¬ m < 0 := by omega
      simp [hg, binOp, Op.shift, this]
    · simp only [Option.some.injEq, Prod.mk.injEq] at h
      obtain ⟨rfl, rfl⟩ := h
      refine ⟨.int k (n.fdiv (2 ^ (min m.toNat k.bits))), ?_, rfl⟩
      have : ¬ m < 0 := by omega
      simp [hg, binOp, Op.shift, this]
    all_goals (split at h)
    all_goals first
      | (cases h; done)
      | (simp only [Option.some.injEq, Prod.mk.injEq] at h
         obtain ⟨rfl, rfl⟩ := h
         rename_i hk
         subst hk
         simp [hg, binOp, Op.intArith, Op.intDiv, Op.intBits, Op.intCmp, hp, Rep, ilt_eq, ile_eq, ieq_eq, bne])
  · rename_i n m
    have e1 : x = .string n := hx
    have e2 : y = .string m := hy
    subst e1 e2
    have hg : ∀ op, eqGuard op t X Y (.string n) (.string m) = Pure.pure () := fun op => eqGuard_at_string ..
    split at h
    · simp only [Option.some.injEq, Prod.mk.injEq] at h
      obtain ⟨rfl, rfl⟩ := h
      have hmx : IntKind.i64.max = 9223372036854775807 := by decide
      have : ¬ (((n.size + m.size : Nat) : Int) > IntKind.i64.max) := by rw [hmx]; omega
      simp only [hg, binOp, Op.stringOp, Sem.run_bind, Sem.run_pure, Result.andThen_ok]
      rw [if_neg this]
      exact ⟨_, rfl, rfl⟩
    · simp only [Option.some.injEq, Prod.mk.injEq] at h
      obtain ⟨rfl, rfl⟩ := h
      simp [hg, binOp, Op.stringOp, Rep, seq_eq]
    · simp only [Option.some.injEq, Prod.mk.injEq] at h
      obtain ⟨rfl, rfl⟩ := h
      simp [hg, binOp, Op.stringOp, Rep, seq_eq]
    · cases h
  · rename_i hne1 hne2
    split at h
    · cases h
    · rename_i hgt
      have hgt' : P.eqGuardType P.depth t = false := by simpa using hgt
      have h1 : ∀ k n k' m, a = .int k n → b = .int k' m → False := fun k n k' m e1 e2 => hne1 k n k' m e1 e2
      have h2 : ∀ p q, a = .str p → b = .str q → False := fun p q e1 e2 => hne2 p q e1 e2
      split at h
      · cases he : aeq P 50 t a b with
        | none => rw [he] at h; cases h
        | some r =>
          rw [he] at h
          simp only [Option.map_some, Option.some.injEq, Prod.mk.injEq] at h
          obtain ⟨rfl, rfl⟩ := h
          have hrun := aeq_run (V := V) 50 t a b r x y w he hx hy Op.maxDepth (by decide)
          refine ⟨.bool r, ?_, rfl⟩
          simp only [Sem.run_bind, eqGuard_run hgt' (.inl (rep_not_nilIface (y := y) he hx)), Result.andThen_ok, binOp_eq (.inl rfl) he hx hy h1 h2, Op.equal, hrun]
          rfl
      · cases he : aeq P 50 t a b with
        | none => rw [he] at h; cases h
        | some r =>
          rw [he] at h
          simp only [Option.map_some, Option.some.injEq, Prod.mk.injEq] at h
          obtain ⟨rfl, rfl⟩ := h
          have hrun := aeq_run (V := V) 50 t a b r x y w he hx hy Op.maxDepth (by decide)
          refine ⟨.bool (!r), ?_, rfl⟩
          simp only [Sem.run_bind, eqGuard_run hgt' (.inl (rep_not_nilIface (y := y) he hx)), Result.andThen_ok, binOp_eq (.inr rfl) he hx hy h1 h2, Op.equal, hrun]
          rfl
      · cases h

end
end Go.Sh
