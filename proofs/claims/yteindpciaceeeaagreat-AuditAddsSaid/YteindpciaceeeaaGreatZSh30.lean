import Derived.Test.YteindpciaceeeaaGreatZN2toNS
set_option linter.all false
set_option maxHeartbeats 8000000
namespace Go.Sh
open Go
variable [Con] {A:Type}
abbrev dA(A:Type):=List AVal->aC A->Option (Prop×AVal×List (aG A))
def dA.spec(F:dA A):aI A:=fun args h=>match F args h with
 | some (p,v,new)=>some (.pre p (.ret v (h++new.map some)))
 | none=>none
def GU(F:dA A):nR A:=fun args h=>
 let il:=foot args h
 if (dW il h.length&&aLA il args)=true then
  match nO il h il with
  | none=>none
  | some h0=>match F (aLL (inv il) args) h0 with
    | none=>none
    | some (p,v,new)=>
      if (v.within (upto 0 (h0++new.map some).length)&&cT (h0++new.map some).length (h0++new.map some))=true then
       some {v:=v.ren (iota il h.length),upd:=[],new:=new.map (aG.ren (iota il h.length)),foot:=il,need:=some p}
      else none
 else none
theorem FN(ι:Nat->Nat): ∀(ls:List Nat) (g r:aC A),ls.length=g.length->pO ι ls (g++r)=pO ι ls g
 | [],[],r,_=>by cases r<;>rfl
 | l::ls,e::g,r,h=>by
   show(_::pO ι ls (g++r))=(_::pO ι ls g);rw [FN ι ls g r (by simpa using h)]
 | [],_::_,_,h=>by simp at h
 | _::_,[],_,h=>by simp at h
theorem tQ: ∀(l:List (aG A)),iT (l.map some)=some l
 | []=>rfl
 | e::l=>by
   show(iT (l.map some)).map (e:: ·)=_;rw [tQ l];rfl
section
variable {P:Program} {I:Itp A}
theorem LH{f:FuncId}{F:dA A}(hF:aI.ok I P f F.spec):nR.ok I P f (GU F):=by
 intro args h r hS ag V hR w ac hi hf hr
 have hD: ∃r',qF F.spec args h=some r'/\r'.v=r.v/\r'.new=r.new/\r.upd=[]/\hupd h r'.upd=h/\(r.obl->r'.obl):=by
  unfold GU at hS;simp only at hS;split at hS
  case isFalse=>cases hS
  rename_i hg;split at hS
  ·cases hS
  rename_i h0 ht;split at hS
  ·cases hS
  rename_i p v new ho;split at hS
  case isFalse=>cases hS
  rename_i hv;simp only [sI']at hS;subst hS;obtain⟨af,ae⟩:=Bool.and_eq_true_iff.1 hv;obtain⟨ah,al⟩:=Bool.and_eq_true_iff.1 hg;obtain⟨aj,ak⟩:=gO ah;obtain⟨aa,ai⟩:=iR ht;refine⟨{v:=v.ren (iota (foot args h) h.length),upd:=pO (iota (foot args h) h.length) (foot args h) (h0++new.map some),new:=new.map (aG.ren (iota (foot args h) h.length)),foot:=foot args h,need:=some (p/\True) },?_,rfl,rfl,rfl,?_,fun hp=>⟨hp,trivial⟩⟩
  ·unfold qF;simp only [hg,if_true,ht,dA.spec,ho,Out.det];rw [<-aa,List.drop_left,tQ];simp only;rw [ae,af];have:Nat.ble h0.length (h0++new.map some).length =true:=Nat.ble_eq_true_of_le (by simp)
   rw [this];simp [onp]
  ·show hupd h (pO _ _ _)=h;rw [FN _ _ _ _ aa.symm];exact tI (pl:=[]) _ ht
 obtain⟨r',e1,e2,e3,e4,e6,e7⟩:=hD;have:=sX hF args h r' e1 (e7 ag) V hR w ac hi (by rw [e3];exact hf) hr
 refine this.mono ?_;rintro e w' ⟨v',V',k1,k2,k3,k4,k5,k6⟩;refine⟨v',V',k1,by rw [<-e2];exact k2,k3,by rw [<-e3];exact k4,?_,k6⟩
 have ha:r'.apply h=r.apply h:=by
  unfold ORes.apply;rw [e6,e3,e4];rfl
 rw [<-ha];exact k5
def dA.or(F G:dA A):dA A:=fun args h=>match F args h with
 | some r=>some r
 | none=>G args h
theorem aMC{f:FuncId}{F G:dA A}(hF:aI.ok I P f F.spec)(hG:aI.ok I P f G.spec):aI.ok I P f (dA.or F G).spec :=by
 intro args h o ho K hK;unfold dA.spec dA.or at ho;cases hf:F args h with
 | some r=>
   rw [hf]at ho;exact hF args h o (by unfold dA.spec;rw [hf];exact ho) K hK
 | none=>
   rw [hf]at ho;exact hG args h o (by unfold dA.spec;exact ho) K hK
def Env.addN(E:Env A P)(f:FuncId)(F:dA A)(h:aI.ok E.I P f F.spec):Env A P where
 I:=E.I
 cps:=fun g=>if g=f then some (nZ F.spec)else E.cps g
 det:=fun g=>if g=f then some (GU F)else E.det g
 meth:=E.meth
 cpsOk:=by
  intro g T hg
  by_cases e:g=f
  ·rw [if_pos e]at hg;cases hg;rw [e];exact kI h
  ·rw [if_neg e]at hg;exact E.cpsOk g T hg
 detOk:=by
  intro g T hg
  by_cases e:g=f
  ·rw [if_pos e]at hg;cases hg;rw [e];exact LH h
  ·rw [if_neg e]at hg;exact E.detOk g T hg
 methOk:=E.methOk
 row:=E.row
 rowOk:=E.rowOk
 fld:=E.fld
 fldOk:=E.fldOk
end
end Go.Sh
