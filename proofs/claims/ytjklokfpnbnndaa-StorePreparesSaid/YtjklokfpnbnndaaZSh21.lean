/- The small-heap evaluator, part 21: the same contracts where the order is open. -/
import Derived.Test.YtjklokfpnbnndaaZSh20
set_option linter.all false
set_option linter.unusedVariables false
set_option linter.unusedSectionVars false
namespace Go.Sh
open Go
variable [Con] {A : Type}

mutual
theorem Rep.congrV {V V' : Val} {pl : List Nat} (hV : ∀ l, pl.elem l = true → V l = V' l) : ∀ (a : AVal) (v : Value), a.within pl = true → Rep V a v → Rep V' a v
  | .bool _, _, _, r => r
  | .int _ _, _, _, r => r
  | .str _, _, _, r => r
  | .ptr l off, _, h, ⟨b, k, hl, hv⟩ => ⟨b, k, by rw [← hV l h]; exact hl, hv⟩
  | .slice l off len sz, _, h, ⟨base, cap, hv, hc, r⟩ => ⟨base, cap, hv, hc, r.imp (fun ⟨b, k, hl, e⟩ => ⟨b, k, by rw [← hV l h]; exact hl, e⟩) id⟩
  | .map l, _, h, ⟨b, k, hl, hv⟩ => ⟨b, k, by rw [← hV l h]; exact hl, hv⟩
  | .func _ f c, _, h, ⟨fs, cs, hv, r, s⟩ => by
    simp only [AVal.within, Bool.and_eq_true] at h
    exact ⟨fs, cs, hv, RepL.congrV hV f _ h.1 r, RepL.congrV hV c _ h.2 s⟩
  | .iface _ a, _, h, ⟨x, hv, r⟩ => ⟨x, hv, Rep.congrV hV a _ h r⟩
  | .agg as, _, h, ⟨cs, hv, r⟩ => ⟨cs, hv, RepL.congrV hV as _ h r⟩
  | .tup as, _, h, ⟨cs, hv, r⟩ => ⟨cs, hv, RepL.congrV hV as _ h r⟩
  | .raw _, _, _, r => r
  | .any, _, _, r => r
  | .top, _, _, r => r
  | .iview _ _, _, _, r => r
  | .view _ _ _, _, _, r => r
  | .cptr _, _, _, r => r
  | .tslice l _ _ _, _, h, ⟨base, cap, hv, hc, r⟩ => ⟨base, cap, hv, hc, r.imp (fun ⟨b, k, hl, e⟩ => ⟨b, k, by rw [← hV l h]; exact hl, e⟩) id⟩
  | .tptr l _ _ _, _, h, ⟨b, k, hl, hv⟩ => ⟨b, k, by rw [← hV l h]; exact hl, hv⟩
  | .empty, _, _, r => r
theorem RepL.congrV {V V' : Val} {pl : List Nat} (hV : ∀ l, pl.elem l = true → V l = V' l) : ∀ (a : List AVal) (v : List Value), AVal.withinL pl a = true → RepL V a v → RepL V' a v
  | [], _, _, r => r
  | a :: as, _, h, ⟨v, vs, e, r, s⟩ => by
    simp only [AVal.withinL, Bool.and_eq_true] at h
    exact ⟨v, vs, e, Rep.congrV hV a v h.1 r, RepL.congrV hV as vs h.2 s⟩
end

section
variable {P : Program} {I : A → Nat → PHeap → Prop}

theorem Inv.congrV {V V' : Val} {pl : List Nat} (hV : ∀ l, pl.elem l = true → V l = V' l) {h : FHeap A} {hR : PHeap} {w : World} (hin : ∀ l e, h l = some e → pl.elem l = true ∧ e.within pl = true) (hi : Inv I V h hR w) : Inv I V' h hR w := by
  obtain ⟨hs, h1, h2, h3, h4, h5, h6⟩ := hi
  refine ⟨hs, ?_, h2, h3, h4, h5, h6⟩
  intro l e he
  obtain ⟨q1, q2⟩ := hin l e he
  have hi := h1 l e he
  cases e with
  | cells vs =>
    obtain ⟨b, k, hl, cs, T, e1, e2, rs, tail, e3, r⟩ := hi
    exact ⟨b, k, by rw [← hV l q1]; exact hl, cs, T, e1, e2, rs, tail, e3, RepL.congrV hV _ _ q2 r⟩
  | ints c xs =>
    rcases hi with ⟨e1, e2, b, hl⟩ | ⟨b, k, hl, r⟩
    · exact .inl ⟨e1, e2, b, by rw [← hV l q1]; exact hl⟩
    · exact .inr ⟨b, k, by rw [← hV l q1]; exact hl, r⟩
  | abs t =>
    obtain ⟨b, k, hl, r⟩ := hi
    exact ⟨b, k, by rw [← hV l q1]; exact hl, r⟩
  | tab ks rows =>
    rcases hi with ⟨e1, e2, b, hl⟩ | ⟨b, k, hl, r⟩
    · exact .inl ⟨e1, e2, b, by rw [← hV l q1]; exact hl⟩
    · exact .inr ⟨b, k, by rw [← hV l q1]; exact hl, r⟩
  | imap kk vc m =>
    obtain ⟨b, k, hl, r⟩ := hi
    exact ⟨b, k, by rw [← hV l q1]; exact hl, r⟩

theorem Inv.dom {V : Val} {h : FHeap A} {hR : PHeap} {w : World} (hi : Inv I V h hR w) {l : Nat} {e : Entry A} (he : h l = some e) : ∃ x, V l = some x := by
  obtain ⟨hs, h1, _⟩ := hi
  have := h1 l e he
  cases e with
  | cells vs => obtain ⟨b, k, hl, _⟩ := this; exact ⟨_, hl⟩
  | ints c xs =>
    rcases this with ⟨_, _, b, hl⟩ | ⟨b, k, hl, _⟩
    · exact ⟨_, hl⟩
    · exact ⟨_, hl⟩
  | abs t => obtain ⟨b, k, hl, _⟩ := this; exact ⟨_, hl⟩
  | tab ks rows =>
    rcases this with ⟨_, _, b, hl⟩ | ⟨b, k, hl, _⟩
    · exact ⟨_, hl⟩
    · exact ⟨_, hl⟩
  | imap kk vc m => obtain ⟨b, k, hl, _⟩ := this; exact ⟨_, hl⟩

/-- what a call comes to, where it is settled -/
def Out.det : Out A → Option (Option Prop × AVal × Heap A)
  | .ret v g => some (none, v, g)
  | .pre p o => match o.det with
    | some (q, v, g) => some (some (p ∧ onp q), v, g)
    | none => none
  | _ => none
theorem Out.det_run {K : AVal → Heap A → Prop} : ∀ {o : Out A} {q : Option Prop} {v : AVal} {g : Heap A}, o.det = some (q, v, g) → onp q → K v g → o.run K
  | .ret v g, q, v', g', h, _, hk => by
    simp only [Out.det, Option.some.injEq, Prod.mk.injEq] at h
    obtain ⟨_, rfl, rfl⟩ := h; exact hk
  | .pre p o, q, v', g', h, hq, hk => by
    simp only [Out.det] at h
    split at h
    · rename_i q' v2 g2 hd
      simp only [Option.some.injEq, Prod.mk.injEq] at h
      obtain ⟨rfl, rfl, rfl⟩ := h
      exact ⟨hq.1, Out.det_run hd hq.2 hk⟩
    · cases h
  | .ite _ _ _, _, _, _, h, _, _ => by simp [Out.det] at h
  | .all _ _ _, _, _, _, h, _, _ => by simp [Out.det] at h

def allSome : Heap A → Option (List (Entry A))
  | [] => some []
  | some e :: h => (allSome h).map (e :: ·)
  | none :: _ => none
theorem allSome_eq : ∀ {h : Heap A} {l : List (Entry A)}, allSome h = some l → h = l.map some
  | [], l, e => by simp [allSome] at e; subst e; rfl
  | some x :: h, l, e => by
    simp only [allSome] at e
    cases hq : allSome h with
    | none => rw [hq] at e; cases e
    | some l' => rw [hq] at e; simp at e; subst e; simp [allSome_eq hq]
  | none :: h, l, e => by simp [allSome] at e

def heapWithin (n : Nat) (g : Heap A) : Bool := g.all fun e => match e with
  | some e => e.within (upto 0 n)
  | none => true

def zipU (ι : Nat → Nat) : List Nat → Heap A → List (Nat × Option (Entry A))
  | l :: il, e :: g => (l, e.map (Entry.ren ι)) :: zipU ι il g
  | _, _ => []
theorem zipU_hupd (ι : Nat → Nat) : ∀ (il : List Nat) (g h : Heap A), hupd h (zipU ι il g) = hputs il ((g.take il.length).map (Option.map (Entry.ren ι))) h
  | [], _, h => rfl
  | l :: il, [], h => rfl
  | l :: il, e :: g, h => by
    simp only [zipU, List.length_cons, List.take_succ_cons, List.map_cons]
    show hupd (h.set l _) (zipU ι il g) = hputs il _ (h.set l _)
    exact zipU_hupd ι il g _

def canonD (F : Spec A) : DSpec A := fun args h =>
  let il := foot args h
  if (goodPl il h.length && AVal.withinL il args) = true then
    match takeH il h il with
    | none => none
    | some h0 => match F (AVal.renL (inv il) args) h0 with
      | none => none
      | some o => match o.det with
        | none => none
        | some (q, v, g) =>
          match allSome (g.drop il.length) with
          | none => none
          | some new =>
            if (Nat.ble il.length g.length && v.within (upto 0 g.length) && heapWithin g.length g) = true then
              some { v := v.ren (iota il h.length), upd := zipU (iota il h.length) il g, new := new.map (Entry.ren (iota il h.length)), foot := il, need := q }
            else none
  else none

theorem upto_mem : ∀ (n i l : Nat), (upto i n).elem l = true ↔ i ≤ l ∧ l < i + n
  | 0, i, l => by simp only [upto, List.elem_eq_mem, List.not_mem_nil, decide_false]; constructor
                  · intro h; cases h
                  · intro h; omega
  | n + 1, i, l => by
    simp only [upto, List.elem_eq_mem, List.mem_cons, decide_eq_true_eq]
    have := upto_mem n (i + 1) l
    simp only [List.elem_eq_mem, decide_eq_true_eq] at this
    rw [this]
    omega

theorem canonD_ok {f : FuncId} {F : Spec A} (hF : Spec.ok I P f F) : DSpec.ok I P f (canonD F) := by
  intro args h r hS hob V hR w args' hi hf hr
  unfold canonD at hS
  simp only at hS
  split at hS
  case isFalse => cases hS
  rename_i hg
  obtain ⟨hg1, hg2⟩ := Bool.and_eq_true_iff.1 hg
  split at hS
  · cases hS
  rename_i h0 ht
  split at hS
  · cases hS
  rename_i o ho
  split at hS
  · cases hS
  rename_i q v0 g0 hdet
  split at hS
  · cases hS
  rename_i new hnew
  split at hS
  case isFalse => cases hS
  rename_i hchk
  obtain ⟨hchk1, hw2⟩ := Bool.and_eq_true_iff.1 hchk
  obtain ⟨hle0, hw1⟩ := Bool.and_eq_true_iff.1 hchk1
  have hkle := Nat.le_of_ble_eq_true hle0
  simp only [Option.some.injEq] at hS
  subst hS
  generalize hil : foot args h = il at *
  have hob' : onp q := hob
  have hgd := allSome_eq hnew
  obtain ⟨hnd, hlt⟩ := goodPl_spec hg1
  obtain ⟨hlen, hent⟩ := takeH_get ht
  have hinj := iota_inj (n := h.length) hnd hlt
  have hnl : new.length = g0.length - il.length := by
    have := congrArg List.length hgd
    simpa using this.symm
  have hf' : FreshOn V h.length (g0.length - il.length) := by
    have : (new.map (Entry.ren (iota il h.length))).length = g0.length - il.length := by rw [List.length_map, hnl]
    have hf2 : FreshOn V h.length (new.map (Entry.ren (iota il h.length))).length := hf
    rw [this] at hf2; exact hf2
  have lt_of : ∀ {i a}, il[i]? = some a → i < il.length := by
    intro i a hi
    cases Nat.lt_or_ge i il.length with
    | inl g => exact g
    | inr g => rw [List.getElem?_eq_none g] at hi; cases hi
  classical
  obtain ⟨hR', hin, hcont⟩ := hi.split (fun l => decide (l ∈ il))
  -- the valuation on those labels alone
  let Vr : Val := fun l => if l ∈ il then V l else none
  have hVr : ∀ l, il.elem l = true → V l = Vr l := by
    intro l hl
    show V l = if l ∈ il then V l else none
    rw [if_pos (List.elem_iff.1 hl)]
  have hin2 : Inv I Vr (fun l => if (fun l => decide (l ∈ il)) l then toF h l else none) hR' w := by
    refine Inv.congrV hVr ?_ hin
    intro l e he
    by_cases hl : l ∈ il
    · rw [if_pos (by simpa using hl)] at he
      obtain ⟨i, hi', hge⟩ := List.getElem_of_mem hl
      obtain ⟨e', a1, a2, _⟩ := hent i l (by rw [List.getElem?_eq_getElem hi', hge])
      have he' : hget h l = some e := he
      rw [a1] at he'
      cases he'
      exact ⟨List.elem_iff.2 hl, a2⟩
    · rw [if_neg (by simpa using hl)] at he; cases he
  have hV0 : Inv I (fun i => Vr (iota il h.length i)) (toF h0) hR' w := by
    refine (Inv.relabel hinj ?_ ?_).1 hin2
    · intro i
      cases hii : il[i]? with
      | some l =>
        have e1 : iota il h.length i = l := iota_some hii
        obtain ⟨e, a1, a2, a3⟩ := hent i l hii
        rw [e1, if_pos (by simpa using List.mem_of_getElem? hii)]
        show hget h l = (hget h0 i).map _
        rw [a1, a3]
        simp only [Option.map_some]
        rw [Entry.ren_iota e a2]
      | none =>
        have e1 := iota_none (n := h.length) hii
        have hge := List.getElem?_eq_none_iff.1 hii
        rw [e1, if_neg (by simp; intro hm; have := hlt _ hm; omega)]
        have : toF h0 i = none := hget_ge (by omega)
        rw [this]; rfl
    · intro m hm
      rw [if_neg]
      simp only [decide_eq_true_eq]
      intro hmem
      obtain ⟨i, hilt, he⟩ := List.getElem_of_mem hmem
      refine hm i ?_
      rw [iota_some (by rw [List.getElem?_eq_getElem hilt, he])]
  have hf0 : Fresh (fun i => Vr (iota il h.length i)) h0.length := by
    intro i hi
    show Vr (iota il h.length i) = none
    have : il[i]? = none := List.getElem?_eq_none (by omega)
    rw [iota_none this]
    show (if _ ∈ il then _ else none) = none
    rw [if_neg]
    intro hm; have := hlt _ hm; omega
  have hr0 : RepL (fun i => Vr (iota il h.length i)) (AVal.renL (inv il) args) args'.toList := by
    refine (RepL.ren _ _).1 ?_
    rw [AVal.renL_iota args hg2]
    exact RepL.congrV hVr _ _ hg2 hr
  refine (hF _ _ _ ho (fun v g => v = v0 ∧ g = g0) (Out.det_run hdet hob' ⟨rfl, rfl⟩) _ hR' w args' hV0 hf0 hr0).mono ?_
  rintro e w' ⟨v, v', V', g, ⟨rfl, rfl⟩, k2, k3, k4, k5, k6, k7, k8⟩
  -- the great heap's labels
  let V1 : Val := fun m => if h.length ≤ m ∧ m < h.length + (g.length - il.length) then V' (il.length + (m - h.length)) else V m
  have hle : V.le V1 := by
    intro m x hm
    show (if _ then _ else _) = some x
    by_cases hc : h.length ≤ m ∧ m < h.length + (g.length - il.length)
    · rw [hf' m hc.1 hc.2] at hm; cases hm
    · rw [if_neg hc]; exact hm
  have hV1 : ∀ i, i < g.length → V1 (iota il h.length i) = V' i := by
    intro i hig
    cases hii : il[i]? with
    | some l =>
      have e1 : iota il h.length i = l := iota_some hii
      have hl := hlt l (List.mem_of_getElem? hii)
      obtain ⟨e, a1, _, _⟩ := hent i l hii
      obtain ⟨x, hx⟩ := hi.dom (l := l) a1
      have hxr : Vr (iota il h.length i) = some x := by
        rw [e1]
        show (if l ∈ il then V l else none) = some x
        rw [if_pos (List.mem_of_getElem? hii)]; exact hx
      rw [k4 i x hxr, e1]
      show (if _ then _ else _) = some x
      rw [if_neg (by omega)]; exact hx
    | none =>
      have hge := List.getElem?_eq_none_iff.1 hii
      rw [iota_none hii]
      show (if _ then _ else _) = _
      rw [if_pos (by omega)]
      congr 1; omega
  have hag : ∀ l, (upto 0 g.length).elem l = true → V' l = (fun i => V1 (iota il h.length i)) l := by
    intro l hl
    have := (upto_mem _ _ _).1 hl
    exact (hV1 l (by omega)).symm
  have hg7 : Inv I (fun i => V1 (iota il h.length i)) (toF g) hR' w' := by
    refine Inv.congrV hag ?_ k7
    intro l e he
    have hll : l < g.length := hget_lt (h := g) he
    refine ⟨(upto_mem _ _ _).2 (by omega), ?_⟩
    unfold heapWithin at hw2
    rw [List.all_eq_true] at hw2
    have he' : hget g l = some e := he
    unfold hget at he'
    rw [List.getD_eq_getElem?_getD, List.getElem?_eq_getElem hll] at he'
    have := hw2 g[l] (List.getElem_mem hll)
    have he2 : g[l] = some e := he'
    rw [he2] at this; exact this
  let G : FHeap A := fun m => if h.length ≤ m then (hget g (il.length + (m - h.length))).map (Entry.ren (iota il h.length)) else if hm : ∃ i : Nat, il[i]? = some m then (hget g (Classical.choose hm)).map (Entry.ren (iota il h.length)) else none
  have hG : ∀ i, G (iota il h.length i) = (toF g i).map (Entry.ren (iota il h.length)) := by
    intro i
    cases hii : il[i]? with
    | some l =>
      have e1 : iota il h.length i = l := iota_some hii
      have hl := hlt l (List.mem_of_getElem? hii)
      have hm : ∃ i : Nat, il[i]? = some l := ⟨i, hii⟩
      show (if h.length ≤ iota il h.length i then _ else _) = _
      rw [e1, if_neg (by omega), dif_pos hm]
      have hc := Classical.choose_spec hm
      have := (List.getElem?_inj (lt_of hc) hnd).1 (hc.trans hii.symm)
      rw [this]; rfl
    | none =>
      have e1 := iota_none (n := h.length) hii
      have hge := List.getElem?_eq_none_iff.1 hii
      show (if h.length ≤ iota il h.length i then _ else _) = _
      rw [e1, if_pos (by omega), show il.length + (h.length + (i - il.length) - h.length) = i from by omega]
      rfl
  have hGz : ∀ m, (∀ l, iota il h.length l ≠ m) → G m = none := by
    intro m hm
    show (if h.length ≤ m then _ else _) = none
    by_cases hge : h.length ≤ m
    · refine (hm (il.length + (m - h.length)) ?_).elim
      rw [iota_none (List.getElem?_eq_none (by omega))]
      omega
    · rw [if_neg hge, dif_neg]
      rintro ⟨i, hi⟩
      exact hm i (iota_some hi)
  have hGinv : Inv I V1 G hR' w' := (Inv.relabel hinj hG hGz).2 hg7
  have hfin := hcont V1 G w' hle hGinv (by
    intro l hl hne
    have hl' : l ∉ il := by simpa using hl
    have hlt' : l < h.length := by
      cases Nat.lt_or_ge l h.length with
      | inl g => exact g
      | inr g => exact (hne (hget_ge g)).elim
    show (if h.length ≤ l then _ else _) = none
    rw [if_neg (by omega), dif_neg]
    rintro ⟨i, hi⟩
    exact hl' (List.mem_of_getElem? hi))
  have htk : ((g.take il.length).map (Option.map (Entry.ren (iota il h.length)))).length = il.length := by
    rw [List.length_map, List.length_take]; omega
  -- the heap that is told
  generalize hap : ORes.apply (A := A) { v := v.ren (iota il h.length), upd := zipU (iota il h.length) il g, new := new.map (Entry.ren (iota il h.length)), foot := il, need := q } h = apl
  have happ : apl = hputs il ((g.take il.length).map (Option.map (Entry.ren (iota il h.length)))) h ++ (g.drop il.length).map (Option.map (Entry.ren (iota il h.length))) := by
    rw [← hap]
    show hupd h (zipU (iota il h.length) il g) ++ (new.map (Entry.ren (iota il h.length))).map some = _
    rw [zipU_hupd, hgd]
    simp
  have heq : (fun l => if (fun l => decide (l ∈ il)) l = false ∧ toF h l ≠ none then toF h l else G l) = toF apl := by
    rw [happ]
    funext m
    show _ = hget (hputs il ((g.take il.length).map (Option.map (Entry.ren (iota il h.length)))) h ++ (g.drop il.length).map (Option.map (Entry.ren (iota il h.length)))) m
    by_cases hge : h.length ≤ m
    · have e0 : toF h m = none := hget_ge hge
      rw [if_neg (by rw [e0]; simp)]
      show (if h.length ≤ m then _ else _) = _
      rw [if_pos hge]
      simp only [hget, List.getD_eq_getElem?_getD]
      rw [List.getElem?_append_right (by rw [hputs_length]; exact hge), hputs_length, List.getElem?_map, List.getElem?_drop]
      cases hq : g[il.length + (m - h.length)]? with
      | none => rfl
      | some x => rfl
    · have hlt' : m < h.length := by omega
      rw [hget_append_left (by rw [hputs_length]; exact hlt')]
      by_cases hmem : m ∈ il
      · obtain ⟨i, hilt, he⟩ := List.getElem_of_mem hmem
        have hii : il[i]? = some m := by rw [List.getElem?_eq_getElem hilt, he]
        rw [if_neg (by simp [hmem]), hputs_get il _ h i m hnd hlt hii (by rw [htk]; exact hilt)]
        have := hG i
        rw [iota_some hii] at this
        rw [this, List.getD_eq_getElem?_getD, List.getElem?_map, List.getElem?_take, if_pos hilt]
        show Option.map _ (hget g i) = _
        simp only [hget, List.getD_eq_getElem?_getD]
        cases g[i]? <;> rfl
      · rw [hputs_other il _ h m hmem]
        by_cases hne : toF h m = none
        · rw [if_neg (by simp [hne])]
          show (if h.length ≤ m then _ else _) = _
          rw [if_neg hge, dif_neg]
          · exact hne.symm
          · rintro ⟨i, hi⟩
            exact hmem (List.mem_of_getElem? hi)
        · rw [if_pos ⟨by simp [hmem], hne⟩]; rfl
  rw [heq] at hfin
  refine ⟨v', V1, k2, ?_, hle, ?_, hfin, k8⟩
  · refine (Rep.ren v v').2 ?_
    exact Rep.congrV hag _ _ hw1 k3
  · intro l e1 e2
    show h.length ≤ l ∧ l < h.length + (new.map (Entry.ren (iota il h.length))).length
    rw [List.length_map, hnl]
    by_cases hc : h.length ≤ l ∧ l < h.length + (g.length - il.length)
    · exact hc
    · exfalso
      apply e2
      show (if _ then _ else _) = none
      rw [if_neg hc]; exact e1

/-- a contract more, of both kinds -/
def Env.addS (E : Env A P) (f : FuncId) (F : Spec A) (h : Spec.ok E.I P f F) : Env A P where
  I := E.I
  cps := fun g => if g = f then some (canonC F) else E.cps g
  det := fun g => if g = f then some (canonD F) else E.det g
  meth := E.meth
  cpsOk := by
    intro g T hg
    by_cases e : g = f
    · rw [if_pos e] at hg; cases hg; rw [e]; exact canonC_ok h
    · rw [if_neg e] at hg; exact E.cpsOk g T hg
  detOk := by
    intro g T hg
    by_cases e : g = f
    · rw [if_pos e] at hg; cases hg; rw [e]; exact canonD_ok h
    · rw [if_neg e] at hg; exact E.detOk g T hg
  methOk := E.methOk
end
end Go.Sh
namespace Go.Sh
open Go
/-- the method of a pointer's type, as the table has it -/
def methOf (P : Program) (t : TypeId) (name : String) : Option FuncId :=
  match P.info? t, P.underlying t with
  | some i, some (.pointer _) => match i.methods.toList.find? (·.name == name) with
    | some m => match m.path.toList, m.func with
      | [], some (f, true) => some f
      | _, _ => none
    | none => none
  | _, _ => none
theorem methOf_run {P : Program} {t : TypeId} {name : String} {f : FuncId} (h : methOf P t name = some f) (v : Value) (w : World) : (method (P.types.size + Made.depth) t v name).run P w = .ok (f, v) w := by
  unfold methOf at h
  split at h
  · rename_i i e hi hu
    split at h
    · rename_i m hm
      split at h
      · rename_i f' hp hf
        simp only [Option.some.injEq] at h
        subst h
        rw [Array.find?_toList] at hm
        have hd : P.types.size + Made.depth = (P.types.size + (Made.depth - 1)) + 1 := by
          have : Made.depth ≠ 0 := by decide
          omega
        rw [hd]
        unfold method
        have hti : (typeInfo t).run P w = .ok i w := by simp [typeInfo, hi]
        simp only [Sem.run_bind, hti, Result.andThen_ok, hm, hp, follow, Sem.run_pure, hf, receiverAt, underlying, run_program, hu, Go.Place.get]
      · cases h
    · cases h
  · cases h
end Go.Sh
