/- The small-heap evaluator, part 7m: maps of numbers. -/
import Derived.Test.YtjklokfpnbnndaaZSh7d
import Derived.MapKept
set_option linter.all false
set_option linter.unusedVariables false
set_option linter.unusedSectionVars false
namespace Go.Sh
open Go
variable [Con] {A : Type} {I : A → Nat → PHeap → Prop}
section
variable {P : Program} {V : Val}

theorem frozen_allocMap (w : World) (es : Array MapEntry) (clock : Nat) (a : Addr) : (w.alloc (.map es clock)).frozen? a = w.frozen? a := by
  unfold World.frozen? World.alloc
  simp only [Array.getElem?_push]
  by_cases h : a.block = w.heap.size
  · have e : w.heap[a.block]? = none := by rw [h]; simp
    rw [if_pos h, e]
  · rw [if_neg h]

theorem amakeMap_ok {t : TypeId} {h : Heap A} {r : ORes A} {hR : PHeap} {w : World} {sem : Sem Next} (hr : amakeMap P t h = some r) (hi : Inv I V (toF h) hR w)
    (hn : ∀ l, h.length ≤ l → l < h.length + r.new.length → V l = none) (hsem : sem = (do Pure.pure (.value (← Instr.makeMap t none)))) :
    OpOk I P V h.length hR w r.v (toF (r.apply h)) r.new.length sem := by
  subst hsem
  unfold amakeMap at hr
  split at hr
  · split at hr
    · split at hr
      · rename_i kt vt hu _ _ kk z hk hz _ vc hvc
        simp only [Option.some.injEq] at hr; subst hr
        have hV := hn h.length (Nat.le_refl _) (by simp)
        have hinv := Inv.push (e := .imap kk vc []) (k := 0) (o := .map #[] 0) hi hV (hget_ge (Nat.le_refl _)) ⟨_, _, Val.add_self _ _ _, #[], 0, rfl, rfl⟩
        refine ⟨.value (.map (some w.heap.size)), { w with heap := w.heap.push (.map #[] 0) }, V.add h.length (w.heap.size, 0), .map (some w.heap.size), ?_, .inl rfl, Val.le_add hV, add_dom, ⟨_, _, Val.add_self _ _ _, rfl⟩, ?_, ⟨rfl, rfl, by simp, fun _ => frozen_allocMap _ _ _ _⟩⟩
        · simp [Instr.makeMap]
        · show Inv I _ (toF (h ++ [some _])) hR _
          rw [toF_push]; exact hinv
      · cases hr
    · cases hr
  · cases hr

theorem Inv.imap {h : FHeap A} {hR : PHeap} {w : World} (hi : Inv I V h hR w) {l : Nat} {kk : IntKind} {vc : Code1} {m : List (Int × Int)} (hl : h l = some (.imap kk vc m)) :
    ∃ b k es clock, V l = some (b, k) ∧ w.heap[b]? = some (.map es clock) ∧ es.toList.map (fun e => (e.key, e.val)) = m.map (fun x => (Value.int kk x.1, Code1.val vc x.2)) := by
  obtain ⟨hs, h1, h2, h3, h4, h5, h6⟩ := hi
  obtain ⟨b, k, e1, es, clock, e2, e3⟩ := h1 l _ hl
  have := h5 l
  rw [e2] at this
  exact ⟨b, k, es, clock, e1, PHeap.one_sub.1 this, e3⟩

/-- where a key stands -/
def mfind : List (Int × Int) → Int → Nat → Option (Nat × Int)
  | [], _, _ => none
  | x :: m, k, i => if x.1 = k then some (i, x.2) else mfind m k (i + 1)
theorem mfind_get : ∀ (m : List (Int × Int)) (k : Int) (i : Nat), (mfind m k i).map (·.2) = mget m k
  | [], k, i => rfl
  | x :: m, k, i => by
    unfold mfind mget
    by_cases h : x.1 = k
    · simp [h]
    · rw [if_neg h, mfind_get m k (i + 1)]
      simp [mget, h]
theorem mfind_none : ∀ (m : List (Int × Int)) (k v : Int) (i : Nat), mfind m k i = none → mput m k v = m ++ [(k, v)]
  | [], k, v, i, _ => rfl
  | x :: m, k, v, i, h => by
    unfold mfind at h
    by_cases hx : x.1 = k
    · rw [if_pos hx] at h; cases h
    · rw [if_neg hx] at h
      unfold mput
      rw [if_neg hx, mfind_none m k v (i + 1) h]; rfl
theorem mfind_some : ∀ (m : List (Int × Int)) (k v : Int) (i j : Nat) (u : Int), mfind m k i = some (j, u) → i ≤ j ∧ mput m k v = m.set (j - i) (k, v) ∧ ∃ u, m[j - i]? = some (k, u)
  | [], k, v, i, j, u, h => by simp [mfind] at h
  | x :: m, k, v, i, j, u, h => by
    unfold mfind at h
    by_cases hx : x.1 = k
    · rw [if_pos hx] at h
      simp only [Option.some.injEq, Prod.mk.injEq] at h
      obtain ⟨rfl, _⟩ := h
      refine ⟨Nat.le_refl _, ?_, x.2, ?_⟩
      · unfold mput; rw [if_pos hx, Nat.sub_self]; rfl
      · rw [Nat.sub_self, ← hx]; rfl
    · rw [if_neg hx] at h
      obtain ⟨h1, h2, u', h3⟩ := mfind_some m k v (i + 1) j u h
      refine ⟨by omega, ?_, u', ?_⟩
      · unfold mput
        rw [if_neg hx, h2, show j - i = (j - (i + 1)) + 1 from by omega]; rfl
      · rw [show j - i = (j - (i + 1)) + 1 from by omega]; exact h3

theorem findNow_run {kk : IntKind} {vc : Code1} {q : IntKind} {n : Int} : ∀ (es : List MapEntry) (m : List (Int × Int)) (i : Nat), es.map (fun e => (e.key, e.val)) = m.map (fun x => (Value.int kk x.1, Code1.val vc x.2)) →
    Instr.findNow (.int q) (.int kk n) es i = some ((mfind m n i).map fun x => (x.1, Code1.val vc x.2))
  | [], m, i, h => by
    have : m = [] := by cases m <;> simp at h ⊢
    subst this; rfl
  | e :: es, [], i, h => by simp at h
  | e :: es, x :: m, i, h => by
    simp only [List.map_cons, List.cons.injEq, Prod.mk.injEq] at h
    obtain ⟨⟨h1, h2⟩, h3⟩ := h
    unfold Instr.findNow
    rw [h1]
    simp only [Instr.sameNow, if_true]
    by_cases hx : x.1 = n
    · have : (n == x.1) = true := by simp [hx]
      rw [this]
      unfold mfind
      rw [if_pos hx, h2]; rfl
    · have : (n == x.1) = false := by simpa using fun e => hx e.symm
      rw [this]
      unfold mfind
      rw [if_neg hx]
      exact findNow_run es m (i + 1) h3

theorem findKey_run {kt : TypeId} {kk q : IntKind} {vc : Code1} {n : Int} {es : List MapEntry} {m : List (Int × Int)} {w : World} (hk : P.underlying kt = some (.int q)) (h : es.map (fun e => (e.key, e.val)) = m.map (fun x => (Value.int kk x.1, Code1.val vc x.2))) :
    (Instr.findKey kt (.int kk n) es).run P w = .ok ((mfind m n 0).map fun x => (x.1, Code1.val vc x.2)) w := by
  simp [Instr.findKey, underlying, hk, findNow_run (q := q) es m 0 h]

theorem checkKey_run {kt : TypeId} {q : IntKind} {b : Bool} {v : Value} {w : World} (hk : P.underlying kt = some (.int q)) : (Instr.checkKey b 10000 kt v).run P w = .ok () w := by
  show (Instr.checkKey b (9999 + 1) kt v).run P w = _
  unfold Instr.checkKey
  simp only [Sem.run_bind, underlying, run_program, hk, Result.andThen_ok, Sem.run_pure]

theorem alookup_ok {t : TypeId} {x i : AVal} {ck : Bool} {h : Heap A} {r : ORes A} {hR : PHeap} {w : World} {x' i' : Value} {sem : Sem Next} (hr : alookup P t x i ck h = some r) (ho : r.obl) (hi : Inv I V (toF h) hR w) (hx : Rep V x x') (hy : Rep V i i')
    (hsem : sem = (do Pure.pure (.value (← Instr.lookup t x' i' ck)))) : OpOk I P V h.length hR w r.v (toF (r.apply h)) r.new.length sem := by
  subst hsem
  unfold alookup at hr
  split at hr
  · rename_i kt vt l kk n hu
    split at hr
    · rename_i q kk' vc m hk hh
      split at hr
      · rename_i hc
        obtain ⟨rfl, hz⟩ := hc
        simp only [Option.some.injEq] at hr; subst hr
        rw [apply_nil rfl rfl]
        obtain ⟨b, k, es, clock, e1, e2, e3⟩ := hi.imap (l := l) hh
        obtain ⟨b', k', hl, rfl⟩ := hx
        rw [e1] at hl; cases hl
        have : i' = .int kk n := hy
        subst this
        have hzero : (zeroValue vt).run P w = .ok (Code1.val vc 0) w := by
          cases hi2 : P.info? vt with
          | none => rw [hi2] at hz; cases hz
          | some inf =>
            rw [hi2] at hz
            cases hz2 : inf.zero with
            | none => simp [hz2] at hz
            | some z =>
              simp [hz2] at hz
              rw [← codeOf_val hz]
              simp [zeroValue, typeInfo, hi2, hz2]
        have hrun : (Instr.lookup t (.map (some b)) (.int kk n) ck).run P w = .ok (if ck then .tuple #[Code1.val vc ((mget m n).getD 0), .bool (mget m n).isSome] else Code1.val vc ((mget m n).getD 0)) w := by
          have hg := mfind_get m n 0
          have hfk := findKey_run (P := P) (w := w) (kk := kk) (n := n) hk e3
          simp only [Instr.lookup, underlying, Sem.run_bind, run_program, Result.andThen_ok, hu, Sem.run_pure, MapKept.run_getObj_map e2, checkKey_run hk]
          cases hf : mfind m n 0 with
          | none =>
            rw [hf] at hg hfk
            rw [← hg]
            simp only [Option.map_none] at hfk
            simp only [hfk, Result.andThen_ok, Sem.run_bind, hzero, Sem.run_pure]
            cases ck <;> rfl
          | some p =>
            rw [hf] at hg hfk
            rw [← hg]
            simp only [Option.map_some] at hfk
            simp only [hfk, Result.andThen_ok, Sem.run_bind, Sem.run_pure]
            cases ck <;> rfl
        refine OpOk.pure hi (v' := if ck then .tuple #[Code1.val vc ((mget m n).getD 0), .bool (mget m n).isSome] else Code1.val vc ((mget m n).getD 0)) ?_ (by rw [Sem.run_bind, hrun]; rfl)
        cases ck with
        | true => exact ⟨_, rfl, _, _, rfl, Code1.rep V vc _, _, _, rfl, rfl, rfl⟩
        | false => exact Code1.rep V vc _
      · cases hr
    · cases hr
  · cases hr

theorem amapUpdate_ok {t : TypeId} {x i y : AVal} {h : Heap A} {r : ORes A} {hR : PHeap} {w : World} {x' i' y' : Value} {sem : Sem Next} (hr : amapUpdate P t x i y h = some r) (ho : r.obl) (hi : Inv I V (toF h) hR w) (hx : Rep V x x') (hk0 : Rep V i i') (hy : Rep V y y')
    (hsem : sem = (do Instr.mapUpdate t x' i' y'; Pure.pure .skip)) : OpOk I P V h.length hR w r.v (toF (r.apply h)) r.new.length sem := by
  subst hsem
  unfold amapUpdate at hr
  split at hr
  · rename_i kt vt l kk n hu
    split at hr
    · rename_i q kk' vc m hk hh
      split at hr
      · rename_i hc
        subst hc
        cases hfc : fromCode vc y with
        | none => rw [hfc] at hr; cases hr
        | some v =>
          rw [hfc] at hr; simp only [Option.some.injEq] at hr; subst hr
          obtain ⟨b, k, es, clock, e1, e2, e3⟩ := hi.imap (l := l) hh
          obtain ⟨b', k', hl, rfl⟩ := hx
          rw [e1] at hl; cases hl
          have : i' = .int kk n := hk0
          subst this
          have hyv := fromCode_val hfc hy
          subst hyv
          have hfk := findKey_run (P := P) (w := w) (kk := kk) (n := n) hk e3
          have hblt : b < w.heap.size := by
            cases Nat.lt_or_ge b w.heap.size with
            | inl g => exact g
            | inr g => rw [Array.getElem?_eq_none g] at e2; cases e2
          have key : ∃ es' clock', (Instr.mapUpdate t (.map (some b)) (.int kk n) (Code1.val vc v)).run P w = .ok () { w with heap := w.heap.setIfInBounds b (.map es' clock') } ∧ es'.toList.map (fun e => (e.key, e.val)) = (mput m n v).map (fun x => (Value.int kk x.1, Code1.val vc x.2)) := by
            cases hf : mfind m n 0 with
            | none =>
              rw [hf] at hfk
              refine ⟨es.push { key := .int kk n, val := Code1.val vc v, born := clock }, clock + 1, ?_, ?_⟩
              · simp only [Instr.mapUpdate, underlying, Sem.run_bind, run_program, Result.andThen_ok, hu, Sem.run_pure, MapKept.run_getObj_map e2, checkKey_run hk, hfk, Option.map_none, MapKept.run_setObj_map _ e2]
              · rw [mfind_none m n v 0 hf]
                simp [e3]
            | some p =>
              obtain ⟨j, u⟩ := p
              rw [hf] at hfk
              obtain ⟨_, q2, u', q3⟩ := mfind_some m n v 0 j u hf
              rw [Nat.sub_zero] at q2 q3
              have hej : ∃ e, es[j]? = some e ∧ e.key = .int kk n := by
                have := congrArg (fun l => l[j]?) e3
                simp only [List.getElem?_map, q3, Option.map_some] at this
                rw [Array.getElem?_toList] at this
                cases he : es[j]? with
                | none => rw [he] at this; cases this
                | some e => rw [he] at this; simp at this; exact ⟨e, rfl, this.1⟩
              obtain ⟨e, he1, he2⟩ := hej
              refine ⟨es.modify j fun e => { e with key := .int kk n, val := Code1.val vc v }, clock, ?_, ?_⟩
              · have hst : Instr.sameBits 10000 (.int kk n) (.int kk n) = true := by simp [Instr.sameBits]
                simp only [Instr.mapUpdate, underlying, Sem.run_bind, run_program, Result.andThen_ok, hu, Sem.run_pure, MapKept.run_getObj_map e2, checkKey_run hk, hfk, Option.map_some, he1, he2, Option.getD_some, Instr.keyThatStays, hst, if_true, MapKept.run_setObj_map _ e2]
              · rw [q2]
                apply List.ext_getElem?
                intro i
                have := congrArg (fun l => l[i]?) e3
                simp only [List.getElem?_map] at this ⊢
                rw [Array.getElem?_toList] at this ⊢
                rw [Array.getElem?_modify, List.getElem?_set]
                by_cases hij : j = i
                · subst hij
                  have hjl : j < m.length := by
                    cases Nat.lt_or_ge j m.length with
                    | inl g => exact g
                    | inr g => rw [List.getElem?_eq_none g] at q3; cases q3
                  rw [if_pos rfl, if_pos rfl, he1, if_pos hjl]; rfl
                · rw [if_neg hij, if_neg hij]; exact this
          obtain ⟨es', clock', hrun, hes⟩ := key
          refine ⟨.skip, { w with heap := w.heap.setIfInBounds b (.map es' clock') }, V, undef, by simp only [Sem.run_bind, hrun, Result.andThen_ok, Sem.run_pure], .inr ⟨rfl, rfl⟩, V.le_refl, fun l e f => (f e).elim, rfl, ?_, ⟨rfl, rfl, by simp, ?_⟩⟩
          · have hlt := hget_lt hh
            show Inv I V (toF (hupd h [(l, some (.imap kk vc (mput m n v)))] ++ [])) hR _
            simp only [hupd, List.foldl_cons, List.foldl_nil, List.append_nil]
            rw [toF_set _ hlt]
            refine hi.replace (e := .imap kk vc m) hh (b := b) (o' := .map es' clock') ?_ ?_ ?_ ?_
            · rintro g ⟨b1, k1, hl1, es1, c1, e4, _⟩
              rw [e1] at hl1; cases hl1
              exact ⟨_, e4⟩
            · exact ⟨b, k, e1, es', clock', rfl, hes⟩
            · simp [hblt]
            · intro c hc
              simp only [Array.getElem?_setIfInBounds]
              rw [if_neg (fun e => hc e.symm)]
          · intro a
            unfold World.frozen?
            simp only [Array.getElem?_setIfInBounds]
            by_cases ha : b = a.block
            · rw [if_pos ha, if_pos (by omega), ← ha, e2]
            · rw [if_neg ha]
      · cases hr
    · cases hr
  · cases hr

end
end Go.Sh
