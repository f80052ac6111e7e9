/- The small-heap evaluator, part 12: a statement that leaves its order open: what was done by any set of operations. -/
import Derived.Test.YtjklokfpnbnndaaZSh11
set_option linter.all false
set_option linter.unusedVariables false
set_option linter.unusedSectionVars false
namespace Go.Sh
open Go
variable [Con] {A : Type}

def updF (u : List (Nat × Option (Entry A))) (h : FHeap A) : FHeap A := u.foldl (fun h x => h.put x.1 x.2) h
def Item.putF (it : Item A) (h : FHeap A) : FHeap A := fun l => if it.n ≤ l ∧ l < it.n + it.new.length then it.new[l - it.n]? else updF it.upd h l

theorem updF_other : ∀ (u : List (Nat × Option (Entry A))) (h : FHeap A) (l : Nat), u.any (fun x => x.1 == l) = false → updF u h l = h l
  | [], h, l, _ => rfl
  | x :: u, h, l, hl => by
    simp only [List.any_cons, Bool.or_eq_false_iff, beq_eq_false_iff_ne, ne_eq] at hl
    show updF u (h.put x.1 x.2) l = h l
    rw [updF_other u _ l hl.2]
    simp [FHeap.put, Ne.symm hl.1]
theorem updF_same : ∀ (u : List (Nat × Option (Entry A))) (h g : FHeap A) (l : Nat), (u.any (fun x => x.1 == l) = true ∨ h l = g l) → updF u h l = updF u g l
  | [], h, g, l, hl => by
    rcases hl with hl | hl
    · cases hl
    · exact hl
  | x :: u, h, g, l, hl => by
    show updF u (h.put x.1 x.2) l = updF u (g.put x.1 x.2) l
    apply updF_same
    by_cases hx : x.1 = l
    · right; simp [FHeap.put, hx]
    · rcases hl with hl | hl
      · left
        have hb : (x.1 == l) = false := by simpa using hx
        simpa only [List.any_cons, hb, Bool.false_or] using hl
      · right
        simp only [FHeap.put]
        rw [if_neg (Ne.symm hx), if_neg (Ne.symm hx)]; exact hl

theorem putF_other (it : Item A) (h : FHeap A) (l : Nat) (hp : it.puts l = false) : it.putF h l = h l := by
  simp only [Item.puts, Bool.or_eq_false_iff, Bool.and_eq_false_iff, decide_eq_false_iff_not] at hp
  unfold Item.putF
  rw [if_neg (by omega)]
  exact updF_other _ _ _ hp.1
theorem putF_same (it : Item A) (h g : FHeap A) (l : Nat) (hp : it.puts l = true ∨ h l = g l) : it.putF h l = it.putF g l := by
  unfold Item.putF
  by_cases hc : it.n ≤ l ∧ l < it.n + it.new.length
  · rw [if_pos hc, if_pos hc]
  · rw [if_neg hc, if_neg hc]
    apply updF_same
    rcases hp with hp | hp
    · simp only [Item.puts, Bool.or_eq_true, Bool.and_eq_true, decide_eq_true_eq] at hp
      rcases hp with hp | hp
      · exact .inl hp
      · exact (hc hp).elim
    · exact .inr hp

theorem toF_hupd : ∀ (u : List (Nat × Option (Entry A))) (h : Heap A), (∀ x ∈ u, x.1 < h.length) → toF (hupd h u) = updF u (toF h)
  | [], h, _ => rfl
  | x :: u, h, hx => by
    show toF (hupd (h.set x.1 x.2) u) = updF u ((toF h).put x.1 x.2)
    rw [toF_hupd u _ (by intro y hy; simp; exact hx y (by simp [hy])), toF_set x.2 (hx x (by simp))]

theorem applyH_F {it : Item A} {h : Heap A} (hn : it.n = h.length) (hw : wellItem it = true) : toF (it.applyH h) = it.putF (toF h) := by
  have hu : ∀ x ∈ it.upd, x.1 < h.length := by
    intro x hx
    have := List.all_eq_true.1 hw x hx
    simp only [Bool.and_eq_true, decide_eq_true_eq] at this
    omega
  funext l
  show hget (hupd h it.upd ++ it.new.map some) l = it.putF (toF h) l
  unfold Item.putF
  by_cases hc : it.n ≤ l ∧ l < it.n + it.new.length
  · rw [if_pos hc]
    have e1 : (hupd h it.upd).length = it.n := by rw [hupd_length, hn]
    simp only [hget, List.getD_eq_getElem?_getD]
    rw [List.getElem?_append_right (by omega), e1, List.getElem?_map]
    have hlt : l - it.n < it.new.length := by omega
    rw [List.getElem?_eq_getElem hlt]; rfl
  · rw [if_neg hc, ← toF_hupd _ _ hu]
    show _ = hget (hupd h it.upd) l
    by_cases hlt : l < (hupd h it.upd).length
    · exact hget_append_left hlt
    · rw [hupd_length] at hlt
      rw [hget_ge (by rw [List.length_append, hupd_length, List.length_map]; omega), hget_ge (by rw [hupd_length]; omega)]

/-- what some of the operations have left -/
def tmF (D : Nat → Bool) : Nat → List (Item A) → List AVal → List AVal
  | _, [], tm => tm
  | i, it :: its, tm => tmF D (i + 1) its (if D i then aput tm it.o.dst it.v else tm)
def hF (D : Nat → Bool) : Nat → List (Item A) → FHeap A → FHeap A
  | _, [], h => h
  | i, it :: its, h => hF D (i + 1) its (if D i then it.putF h else h)

theorem aput_length (tm : List AVal) (d : Option Tmp) (v : AVal) : (aput tm d v).length = tm.length := by
  cases d <;> simp [aput]
theorem aput_get (tm : List AVal) (d : Option Tmp) (v : AVal) (t : Nat) : (aput tm d v)[t]? = if d = some t ∧ t < tm.length then some v else tm[t]? := by
  cases d with
  | none => simp [aput]
  | some e =>
    show (tm.set e v)[t]? = _
    rw [List.getElem?_set]
    by_cases he : e = t
    · subst he
      by_cases hlt : e < tm.length
      · simp [hlt]
      · simp [hlt]
    · simp [he]

theorem tmF_length (D : Nat → Bool) : ∀ (its : List (Item A)) (i : Nat) (tm : List AVal), (tmF D i its tm).length = tm.length
  | [], _, _ => rfl
  | it :: its, i, tm => by
    unfold tmF
    rw [tmF_length D its]
    split
    · exact aput_length _ _ _
    · rfl

theorem tmF_agree {D1 D2 : Nat → Bool} {t : Nat} : ∀ (its : List (Item A)) (i : Nat) (tm1 tm2 : List AVal), tm1.length = tm2.length → tm1[t]? = tm2[t]? →
    (∀ k it, its[k]? = some it → it.o.dst = some t → D1 (i + k) = D2 (i + k)) → (tmF D1 i its tm1)[t]? = (tmF D2 i its tm2)[t]?
  | [], _, _, _, _, h, _ => h
  | it :: its, i, tm1, tm2, hl, h, hD => by
    unfold tmF
    apply tmF_agree its
    · split <;> split <;> simp [aput_length, hl]
    · by_cases hd : it.o.dst = some t
      · have e := hD 0 it rfl hd
        rw [Nat.add_zero] at e
        rw [e]
        split
        · rw [aput_get, aput_get, hl, h]
        · exact h
      · have e1 : ∀ tm : List AVal, (aput tm it.o.dst it.v)[t]? = tm[t]? := fun tm => by rw [aput_get, if_neg (by simp [hd])]
        split <;> split <;> simp only [e1, h]
    · intro k it' hk hd
      have := hD (k + 1) it' (by simpa using hk) hd
      rw [show i + 1 + k = i + (k + 1) from by omega]; exact this

theorem hF_agree {D1 D2 : Nat → Bool} {l : Nat} : ∀ (its : List (Item A)) (i : Nat) (h1 h2 : FHeap A), h1 l = h2 l →
    (∀ k it, its[k]? = some it → it.puts l = true → D1 (i + k) = D2 (i + k)) → hF D1 i its h1 l = hF D2 i its h2 l
  | [], _, _, _, h, _ => h
  | it :: its, i, h1, h2, h, hD => by
    unfold hF
    apply hF_agree its
    · cases hp : it.puts l with
      | true =>
        have e := hD 0 it rfl hp
        rw [Nat.add_zero] at e
        rw [e]
        split
        · exact putF_same it h1 h2 l (.inl hp)
        · exact h
      | false => split <;> split <;> simp only [putF_other it _ l hp, h]
    · intro k it' hk hd
      have := hD (k + 1) it' (by simpa using hk) hd
      rw [show i + 1 + k = i + (k + 1) from by omega]; exact this

theorem tmF_none {D : Nat → Bool} : ∀ (its : List (Item A)) (i : Nat) (tm : List AVal), (∀ k, i ≤ k → D k = false) → tmF D i its tm = tm
  | [], _, _, _ => rfl
  | it :: its, i, tm, h => by
    unfold tmF
    rw [h i (Nat.le_refl _)]
    exact tmF_none its (i + 1) tm (fun k hk => h k (by omega))
theorem hF_none {D : Nat → Bool} : ∀ (its : List (Item A)) (i : Nat) (h : FHeap A), (∀ k, i ≤ k → D k = false) → hF D i its h = h
  | [], _, _, _ => rfl
  | it :: its, i, g, h => by
    unfold hF
    rw [h i (Nat.le_refl _)]
    exact hF_none its (i + 1) g (fun k hk => h k (by omega))

section
variable {P : Program} {E : Env A P}

theorem applyH_length (it : Item A) (h : Heap A) : (it.applyH h).length = h.length + it.new.length := by
  simp [Item.applyH, hupd_length]

theorem Trace.le {ops : Array Oper} {tm tm' : List AVal} {h h' : Heap A} {its : List (Item A)} (ht : Trace E ops tm h its tm' h') : h.length ≤ h'.length := by
  induction ht with
  | nil => exact Nat.le_refl _
  | cons _ _ ih2 => rw [applyH_length] at ih2; omega

theorem Trace.low {ops : Array Oper} {tm tm' : List AVal} {h h' : Heap A} {its : List (Item A)} (ht : Trace E ops tm h its tm' h') : ∀ (j : Nat) (y : Item A), its[j]? = some y → h.length ≤ y.n := by
  induction ht with
  | nil => intro j y hy; simp at hy
  | cons ho ht ih2 =>
    intro j y hy
    cases j with
    | zero => simp at hy; subst hy; rw [ho.1]; exact Nat.le_refl _
    | succ j => simp at hy; have := ih2 j y hy; rw [applyH_length] at this; omega

/-- each item in its place -/
theorem Trace.at {ops : Array Oper} {tm tm' : List AVal} {h h' : Heap A} {its : List (Item A)} (ht : Trace E ops tm h its tm' h') (hw : its.all wellItem = true) : ∀ (base k : Nat) (it : Item A), its[k]? = some it →
    ∃ hk, ItemOk E ops (tmF (fun i => decide (i < base + k)) base its tm) hk it ∧ toF hk = hF (fun i => decide (i < base + k)) base its (toF h) ∧ h.length ≤ hk.length ∧ hk.length + it.new.length ≤ h'.length := by
  induction ht with
  | nil tm h => intro base k it hk; simp at hk
  | @cons tm tm' h h' it0 its ho ht ih =>
    simp only [List.all_cons, Bool.and_eq_true] at hw
    have ih := ih hw.2
    intro base k it hk
    cases k with
    | zero =>
      simp at hk; subst hk
      refine ⟨h, ?_, ?_, Nat.le_refl _, ?_⟩
      · rw [tmF_none _ _ _ (by intro k hk; simp; omega)]; exact ho
      · rw [hF_none _ _ _ (by intro k hk; simp; omega)]
      · have := ht.le
        rw [applyH_length] at this; exact this
    | succ k =>
      simp at hk
      obtain ⟨hk', h1, h2, h3, h4⟩ := ih (base + 1) k it hk
      have e : ∀ i, decide (i < base + 1 + k) = decide (i < base + (k + 1)) := fun i => by congr 1; rw [Nat.add_assoc, Nat.add_comm 1 k]
      have e' : (fun i => decide (i < base + 1 + k)) = (fun i => decide (i < base + (k + 1))) := funext e
      rw [e'] at h1 h2
      refine ⟨hk', ?_, ?_, by rw [applyH_length] at h3; omega, h4⟩
      · unfold tmF
        rw [if_pos (by simp)]
        exact h1
      · unfold hF
        rw [if_pos (by simp), ← applyH_F ho.1 hw.1]
        exact h2

theorem Trace.end {ops : Array Oper} {tm tm' : List AVal} {h h' : Heap A} {its : List (Item A)} (ht : Trace E ops tm h its tm' h') (hw : its.all wellItem = true) : ∀ (base : Nat) (D : Nat → Bool), (∀ k, k < its.length → D (base + k) = true) →
    tmF D base its tm = tm' ∧ hF D base its (toF h) = toF h' := by
  induction ht with
  | nil tm h => intro base D _; exact ⟨rfl, rfl⟩
  | @cons tm tm' h h' it0 its ho ht ih =>
    simp only [List.all_cons, Bool.and_eq_true] at hw
    intro base D hD
    have h0 := hD 0 (by simp)
    rw [Nat.add_zero] at h0
    have := ih hw.2 (base + 1) D (by
      intro k hk
      have := hD (k + 1) (by simp; omega)
      rw [Nat.add_assoc, Nat.add_comm 1 k]; exact this)
    unfold tmF hF
    rw [h0, if_pos rfl, if_pos rfl, ← applyH_F ho.1 hw.1]
    exact this

/-- new labels of one item lie behind those of the items ahead of it -/
theorem Trace.news {ops : Array Oper} {tm tm' : List AVal} {h h' : Heap A} {its : List (Item A)} (ht : Trace E ops tm h its tm' h') : ∀ (i j : Nat) (x y : Item A), its[i]? = some x → its[j]? = some y → i < j → h.length ≤ x.n ∧ x.n + x.new.length ≤ y.n := by
  induction ht with
  | nil => intro i j x y hx; simp at hx
  | cons ho ht ih =>
    intro i j x y hx hy hij
    cases j with
    | zero => omega
    | succ j =>
      simp at hy
      cases i with
      | zero =>
        simp at hx; subst hx
        have := ht.low j y hy
        rw [applyH_length] at this
        rw [ho.1]; exact ⟨Nat.le_refl _, this⟩
      | succ i =>
        simp at hx
        obtain ⟨h1, h2⟩ := ih i j x y hx hy (by omega)
        rw [applyH_length] at h1
        exact ⟨by omega, h2⟩

end
end Go.Sh
