import Derived.Test.YteindpciaceeeaaGreatZN12toNS
set_option linter.all false
set_option maxHeartbeats 8000000
namespace Go.Sh
open Go
variable [Con] {A:Type}
abbrev c9(A:Type):=List AVal→aC A→Option (Prop×AVal×List (aJ A))
def c9.spec(F:c9 A):aH A:=fun args h=>match F args h with
 | some (p,v,new)=>some (.pre p (.ret v (h++new.map some)))
 | none=>none
def DY(F:c9 A):mT A:=fun args h=>
 let il:=foot args h
 if (d0 il h.length&&aGI il args)=true then
  match mR il h il with
  | none=>none
  | some h0=>match F (aGO (inv il) args) h0 with
    | none=>none
    | some (p,v,new)=>
      if (v.within (upto 0 (h0++new.map some).length)&&dC (h0++new.map some).length (h0++new.map some))=true then
       some {v:=v.ren (iota il h.length),upd:=[],new:=new.map (aJ.ren (iota il h.length)),foot:=il,need:=some p}
      else none
 else none
theorem DB(ι:Nat→Nat): ∀(ls:List Nat) (g r:aC A),ls.length=g.length→oS ι ls (g++r)=oS ι ls g
 | [],[],r,_=>by cases r<;>rfl
 | l::ls,e::g,r,h=>by
   show(_::oS ι ls (g++r))=(_::oS ι ls g);rw [DB ι ls g r (by simpa using h)]
 | [],_::_,_,h=>by simp at h
 | _::_,[],_,h=>by simp at h
theorem sE: ∀(l:List (aJ A)),hZ (l.map some)=some l
 | []=>rfl
 | e::l=>by
   show(hZ (l.map some)).map (e:: ·)=_;rw [sE l];rfl
section
variable {P:Program} {I:Itp A}
theorem H7{f:FuncId}{F:c9 A}(hF:aH.ok I P f F.spec):mT.ok I P f (DY F):=by
 intro args h r hS hob V hR w args' hi hf hr
 have hD: ∃r',pI F.spec args h=some r'∧r'.v=r.v∧r'.new=r.new∧r.upd=[]∧hupd h r'.upd=h∧(r.obl→r'.obl):=by
  unfold DY at hS;simp only at hS;split at hS
  case isFalse=>cases hS
  rename_i hg;split at hS
  ·cases hS
  rename_i h0 ht;split at hS
  ·cases hS
  rename_i p v new ho;split at hS
  case isFalse=>cases hS
  rename_i hv;simp only [sI']at hS;subst hS;obtain⟨hv1,hv2⟩:=Bool.and_eq_true_iff.1 hv;obtain⟨hg1,hg2⟩:=Bool.and_eq_true_iff.1 hg;obtain⟨hnd,hlt⟩:=fZ hg1;obtain⟨hlen,hent⟩:=hO ht;refine⟨{v:=v.ren (iota (foot args h) h.length),upd:=oS (iota (foot args h) h.length) (foot args h) (h0++new.map some),new:=new.map (aJ.ren (iota (foot args h) h.length)),foot:=foot args h,need:=some (p∧True) },?_,rfl,rfl,rfl,?_,fun hp=>⟨hp,trivial⟩⟩
  ·unfold pI;simp only [hg,if_true,ht,c9.spec,ho,Out.det];rw [←hlen,List.drop_left,sE];simp only;rw [hv2,hv1];have:Nat.ble h0.length (h0++new.map some).length =true:=Nat.ble_eq_true_of_le (by simp)
   rw [this];simp [onp]
  ·show hupd h (oS _ _ _)=h;rw [DB _ _ _ _ hlen.symm];exact rU (pl:=[]) _ ht
 obtain⟨r',e1,e2,e3,e4,e6,e7⟩:=hD;have:=rJ hF args h r' e1 (e7 hob) V hR w args' hi (by rw [e3];exact hf) hr
 refine this.mono ?_;rintro e w' ⟨v',V',k1,k2,k3,k4,k5,k6⟩;refine⟨v',V',k1,by rw [←e2];exact k2,k3,by rw [←e3];exact k4,?_,k6⟩
 have ha:r'.apply h=r.apply h:=by
  unfold ORes.apply;rw [e6,e3,e4];rfl
 rw [←ha];exact k5
def c9.or(F G:c9 A):c9 A:=fun args h=>match F args h with
 | some r=>some r
 | none=>G args h
theorem aHC{f:FuncId}{F G:c9 A}(hF:aH.ok I P f F.spec)(hG:aH.ok I P f G.spec):aH.ok I P f (c9.or F G).spec :=by
 intro args h o ho K hK;unfold c9.spec c9.or at ho;cases hf:F args h with
 | some r=>
   rw [hf]at ho;exact hF args h o (by unfold c9.spec;rw [hf];exact ho) K hK
 | none=>
   rw [hf]at ho;exact hG args h o (by unfold c9.spec;exact ho) K hK
def oR.addN(E:oR A P)(f:FuncId)(F:c9 A)(h:aH.ok E.I P f F.spec):oR A P where
 I:=E.I
 cps:=fun g=>if g=f then some (m8 F.spec)else E.cps g
 det:=fun g=>if g=f then some (DY F)else E.det g
 meth:=E.meth
 cpsOk:=by
  intro g T hg
  by_cases e:g=f
  ·rw [if_pos e]at hg;cases hg;rw [e];exact jS h
  ·rw [if_neg e]at hg;exact E.cpsOk g T hg
 detOk:=by
  intro g T hg
  by_cases e:g=f
  ·rw [if_pos e]at hg;cases hg;rw [e];exact H7 h
  ·rw [if_neg e]at hg;exact E.detOk g T hg
 methOk:=E.methOk
 row:=E.row
 rowOk:=E.rowOk
 fld:=E.fld
 fldOk:=E.fldOk
end
end Go.Sh
