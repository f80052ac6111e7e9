/- The small-heap evaluator, part 19: from what a law does with its arguments' abstract values to what its row asks. -/
import Derived.Test.YtjklokfpnbnndaaZSh18
set_option linter.all false
set_option linter.unusedVariables false
set_option linter.unusedSectionVars false
namespace Go.Sh
open Go Go.ChangeShapes Go.RowKit

def argShp (P : Program) : List TypeId → Option (List (Bool × List Shp))
  | [] => some []
  | t :: ts => match aisAgg P t, shp P 40 t, argShp P ts with
    | some b, some r, some l => if b = true ∨ r.length = 1 then some ((b, r) :: l) else none
    | _, _, _ => none
def DenA : List (Bool × List Shp) → Type
  | [] => Unit
  | (_, r) :: l => DenL r × DenA l
def toArgs : (l : List (Bool × List Shp)) → DenA l → List AVal
  | [], _ => []
  | (true, r) :: l, x => .agg (toAL r x.1) :: toArgs l x.2
  | (false, r) :: l, x => (toAL r x.1).headD .top :: toArgs l x.2
def okA : (l : List (Bool × List Shp)) → DenA l → Prop
  | [], _ => True
  | (_, r) :: l, x => okL r x.1 ∧ okA l x.2

section
variable {H : Type} {enc : TypeId × Value → H} {P : Program} {w : World}

theorem single_of_ok {t : TypeId} {v : Value} {base : Nat} (hb : aisAgg P t = some false) (ho : Value.okWide P w .any base t v) (hs : ∃ m r, shp P m t = some r) : v.cells = #[v] := by
  obtain ⟨m, r, hs⟩ := hs
  cases m with
  | zero => simp [shp] at hs
  | succ m =>
    unfold shp at hs
    unfold aisAgg at hb
    unfold Value.okWide at ho
    cases hu : P.underlying t with
    | none => rw [hu] at hs; cases hs
    | some d =>
      rw [hu] at ho hb hs
      cases v with
      | agg cs =>
        exfalso
        cases d <;> simp at hb hs <;> simp [Cell.okWide, hu, Cell.ok] at ho
      | _ => rfl

theorem args_rep [Con] (hcon : ∀ b o, w.heap[b]? = some o → Con.con b = some o) {base : Nat} : ∀ (ts : List TypeId) (vs : List Value) (ds : List (DataW H)) (ps : List MemPlace) (l : List (Bool × List Shp)),
    DataW.TrodAll enc P w 0 (fun _ => true) true ts vs ds ps → (∀ (j : Nat) t v, ts[j]? = some t → vs[j]? = some v → Value.okWide P w .any base t v) → argShp P ts = some l →
    ∃ x : DenA l, okA l x ∧ RepL (fun _ => none) (toArgs l x) vs
  | [], vs, ds, ps, l, h, _, hl => by
    obtain ⟨rfl, rfl, rfl⟩ := trodAll_nil h
    simp [argShp] at hl; subst hl
    exact ⟨(), trivial, by simp [toArgs, RepL]⟩
  | t :: ts, vs, ds, ps, l, h, hv, hl => by
    obtain ⟨v, vs', d, ds', p, q, rfl, rfl, rfl, h1, h2⟩ := trodAll_cons h
    simp only [argShp] at hl
    split at hl
    · rename_i b r l' hb hr hl'
      split at hl
      case isFalse => cases hl
      rename_i hc
      simp at hl; subst hl
      obtain ⟨y, oy, ry⟩ := args_rep hcon ts vs' ds' q l' h2 (fun j t v a b => hv (j + 1) t v (by simpa using a) (by simpa using b)) hl'
      obtain ⟨n, hn⟩ := h1
      obtain ⟨x, ox, rx⟩ := trod_rep hcon 40 n t _ _ true r hn hr
      have hok := hv 0 t v rfl rfl
      cases b with
      | true =>
        refine ⟨(x, y), ⟨ox, oy⟩, v, vs', rfl, ?_, ry⟩
        have : ∃ cs, v = .agg cs := by
          unfold Value.okWide at hok
          unfold aisAgg at hb
          cases hu : P.underlying t with
          | none => rw [hu] at hb; cases hb
          | some d =>
            rw [hu] at hok hb
            cases d <;> simp at hb <;> (obtain ⟨cs, e, _⟩ := hok; exact ⟨cs, e⟩)
        obtain ⟨cs, rfl⟩ := this
        exact ⟨cs, rfl, rx⟩
      | false =>
        refine ⟨(x, y), ⟨ox, oy⟩, v, vs', rfl, ?_, ry⟩
        rw [single_of_ok hb hok ⟨40, r, hr⟩] at rx
        have hr1 : r.length = 1 := by simpa using hc
        show Rep _ ((toAL r x).headD .top) v
        match r, hr1, x, rx with
        | [s], _, x, rx =>
          obtain ⟨u, us, e, r1, _⟩ := rx
          simp only [List.cons.injEq] at e
          rw [e.1]; exact r1
    · cases hl

theorem trodAll_stays {W W' : World} (hl : laidOutB P = true) {sp : Nat → Bool} : ∀ (ts : List TypeId) (vs : List Value) (ds : List (DataW H)) (ps : List MemPlace),
    (∀ t ∈ ts, P.readableRec t = true ∧ t < P.types.size) → DataW.TrodAll enc P W 0 (fun _ => true) true ts vs ds ps → (∀ p ∈ ps, W.sameAt W' p) → (∀ p ∈ ps, sp p.block = true) → DataW.TrodAll enc P W' 0 sp true ts vs ds ps
  | [], vs, ds, ps, _, h, _, _ => by
    obtain ⟨rfl, rfl, rfl⟩ := trodAll_nil h
    exact trodAll_mk0
  | t :: ts, vs, ds, ps, ht, h, hs, hp => by
    obtain ⟨v, vs', d, ds', p, q, rfl, rfl, rfl, h1, h2⟩ := trodAll_cons h
    exact trodAll_cons_mk (WideElems.Trod_stays hl (ht t (by simp)).1 (ht t (by simp)).2 h1 (fun x hx => hs x (by simp [hx])) (fun x hx => hp x (by simp [hx])))
      (trodAll_stays hl ts vs' ds' q (fun u hu => ht u (by simp [hu])) h2 (fun x hx => hs x (by simp [hx])) (fun x hx => hp x (by simp [hx])))

theorem trodAll_length {w : World} {sp : Nat → Bool} {b : Nat} {hd : Bool} : ∀ (ts : List TypeId) (vs : List Value) (ds : List (DataW H)) (ps : List MemPlace), DataW.TrodAll enc P w b sp hd ts vs ds ps → ds.length = ts.length
  | [], vs, ds, ps, h => by obtain ⟨rfl, rfl, rfl⟩ := trodAll_nil h; rfl
  | t :: ts, vs, ds, ps, h => by
    obtain ⟨v, vs', d, ds', p, q, rfl, rfl, rfl, h1, h2⟩ := trodAll_cons h
    simp [trodAll_length ts vs' ds' q h2]

/-- the world's memory, as what nobody writes -/
abbrev Con.of (W : World) : Con := ⟨fun b => W.heap[b]?⟩

/-- a law that says true, whatever its arguments -/
theorem law_post {A : Type} {F : Func} {f : FuncId} {s : ChangeSpec} {tb : TypeId} {l : List (Bool × List Shp)} (hl : laidOutB P = true)
    (hpar : F.params.toList.all (fun t => P.readableRec t && decide (t < P.types.size)) = true) (hsh : argShp P F.params.toList = some l) (hv : s.vars = []) (hres : F.resultTypes = #[tb]) (htb : P.underlying tb = some .bool)
    (hfn : ∀ ds : List (DataW H), ds.length = F.params.toList.length → s.fn H ds = { results := [.lit (.bool true)], args := ds })
    (law : ∀ W0 : World, ∃ I : A → Nat → PHeap → Prop, ∀ x : DenA l, okA l x → @CallOk (Con.of W0) A I P f (toArgs l x) ([] : Heap A) (fun v _ => v = .bool true))
    (W : World) (base : Nat) (args : Array Value) (ds gs : List (DataW H)) (before : List MemPlace)
    (hval : ∀ (j : Nat) t v, F.params[j]? = some t → args[j]? = some v → Value.okWide P W .any base t v)
    (hW : DataW.Whole enc P F.params.toList s.vars false W args.toList ds gs before) :
    Calls P f args W fun e W' => ∃ v, e = .returned v ∧ s.post enc P F false true false false W args v W' := by
  have hW' := hW
  obtain ⟨p, q, hA, hV, rfl, hfz, hnd⟩ := hW
  rw [hv] at hV
  obtain ⟨rfl, rfl⟩ := trodVars_none hV
  obtain ⟨I, hI⟩ := law W
  letI : Con := Con.of W
  obtain ⟨x, ox, rx⟩ := args_rep (enc := enc) (P := P) (w := W) (base := base) (fun b o h => h) F.params.toList args.toList ds p l hA (fun j t v a b => hval j t v (by simpa using a) (by simpa using b)) hsh
  have hlen := trodAll_length _ _ _ _ hA
  refine (CallOk.law (hI x ox) rx W (fun b o h => h)).mono ?_
  rintro e W' ⟨rfl, hg⟩
  have hsame : ∀ p' ∈ p, W.sameAt W' p' := by
    intro p' hp
    have hlt : p'.block < W.heap.size := hW'.lt p' (by simpa using hp)
    have hk := hg.1.2.2 p'.block hlt
    cases p' with
    | cell b off =>
      show W'.cell? ⟨b, off, none⟩ = W.cell? ⟨b, off, none⟩
      simp only [MemPlace.block] at hk hlt
      unfold World.cell?
      simp only
      cases h1 : W.heap[b]? with
      | none => rw [Array.getElem?_eq_getElem hlt] at h1; cases h1
      | some o =>
        rw [h1] at hk
        cases h2 : W'.heap[b]? with
        | none => rw [h2] at hk; cases o <;> simp at hk
        | some o' =>
          rw [h2] at hk
          cases o <;> cases o' <;> simp at hk <;> first | rfl | skip
          rename_i c t fr c' t' fr'
          obtain ⟨_, _, hsz, hc⟩ := hk
          exact hc off
    | map b =>
      show W'.heap[b]? = W.heap[b]?
      simp only [MemPlace.block] at hk hlt
      cases h1 : W.heap[b]? with
      | none => rw [Array.getElem?_eq_getElem hlt] at h1; cases h1
      | some o =>
        rw [h1] at hk
        cases h2 : W'.heap[b]? with
        | none => rw [h2] at hk; cases o <;> simp at hk
        | some o' =>
          rw [h2] at hk
          cases o <;> cases o' <;> simp at hk <;> first | (simp_all; done) | skip
          rename_i c t fr c' t' fr'
          obtain ⟨rfl, rfl, hsz, hc⟩ := hk
          have : c = c' := by
            apply Array.ext_getElem?
            intro i
            exact (hc i).symm
          rw [this]
  have hpar' : ∀ t ∈ F.params.toList, P.readableRec t = true ∧ t < P.types.size := by
    intro t ht
    have := List.all_eq_true.1 hpar t ht
    simpa using this
  have hf0 : s.fn H (ds ++ []) = { results := [.lit (.bool true)], args := ds } := by rw [List.append_nil]; exact hfn ds hlen
  refine ⟨_, rfl, post_of_same (pa := p) (pv := []) hW' ?_ ?_ ?_ rfl (hg.frame _) hg.2.1 ?_⟩
  · intro b sp hd
    rw [hf0, hres]
    exact trodAll_cons_mk (shut_bool htb _) trodAll_mk0
  · intro sp hsp
    rw [hf0]
    exact trodAll_stays hl _ _ _ _ hpar' hA hsame (fun p' hp => hsp p' (by simpa using hp))
  · intro sp _
    rw [hf0, hv]
    rfl
  · exact ok_one hres rfl (okWide_bool_mk htb _)

end
end Go.Sh
