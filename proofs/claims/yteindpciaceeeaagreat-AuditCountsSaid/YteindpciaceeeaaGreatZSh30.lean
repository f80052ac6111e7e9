import Derived.Test.YteindpciaceeeaaGreatZN2toNS
set_option linter.all false
set_option maxHeartbeats 8000000
namespace Go.Sh
open Go
variable [Con] {A:Type}
abbrev cV(A:Type):=List AVal->aC A->Option (Prop×AVal×List (aG A))
def cV.spec(F:cV A):aH A:=fun args h=>match F args h with
 | some (p,v,new)=>some (.pre p (.ret v (h++new.map some)))
 | none=>none
def FD(F:cV A):mP A:=fun args h=>
 let il:=foot args h
 if (dO il h.length&&aKb il args)=true then
  match mL il h il with
  | none=>none
  | some h0=>match F (aKg (inv il) args) h0 with
    | none=>none
    | some (p,v,new)=>
      if (v.within (upto 0 (h0++new.map some).length)&&dR (h0++new.map some).length (h0++new.map some))=true then
       some {v:=v.ren (iota il h.length),upd:=[],new:=new.map (aG.ren (iota il h.length)),foot:=il,need:=some p}
      else none
 else none
theorem DS(ι:Nat->Nat): ∀(ls:List Nat) (g r:aC A),ls.length=g.length->oK ι ls (g++r)=oK ι ls g
 | [],[],r,_=>by cases r<;>rfl
 | l::ls,e::g,r,h=>by
   show(_::oK ι ls (g++r))=(_::oK ι ls g);rw [DS ι ls g r (by simpa using h)]
 | [],_::_,_,h=>by simp at h
 | _::_,[],_,h=>by simp at h
theorem sH: ∀(l:List (aG A)),gZ (l.map some)=some l
 | []=>rfl
 | e::l=>by
   show(gZ (l.map some)).map (e:: ·)=_;rw [sH l];rfl
section
variable {P:Program} {I:Itp A}
theorem J0{f:FuncId}{F:cV A}(hF:aH.ok I P f F.spec):mP.ok I P f (FD F):=by
 intro args h r hS hob V hR w args' hi hf hr
 have hD: ∃r',o9 F.spec args h=some r'/\r'.v=r.v/\r'.new=r.new/\r.upd=[]/\hupd h r'.upd=h/\(r.obl->r'.obl):=by
  unfold FD at hS;simp only at hS;split at hS
  case isFalse=>cases hS
  rename_i hg;split at hS
  ·cases hS
  rename_i h0 ht;split at hS
  ·cases hS
  rename_i p v new ho;split at hS
  case isFalse=>cases hS
  rename_i hv;simp only [sI']at hS;subst hS;obtain⟨hv1,hv2⟩:=Bool.and_eq_true_iff.1 hv;obtain⟨hg1,hg2⟩:=Bool.and_eq_true_iff.1 hg;obtain⟨hnd,hlt⟩:=fU hg1;obtain⟨hlen,hent⟩:=gY ht;refine⟨{v:=v.ren (iota (foot args h) h.length),upd:=oK (iota (foot args h) h.length) (foot args h) (h0++new.map some),new:=new.map (aG.ren (iota (foot args h) h.length)),foot:=foot args h,need:=some (p/\True) },?_,rfl,rfl,rfl,?_,fun hp=>⟨hp,trivial⟩⟩
  ·unfold o9;simp only [hg,if_true,ht,cV.spec,ho,Out.det];rw [<-hlen,List.drop_left,sH];simp only;rw [hv2,hv1];have:Nat.ble h0.length (h0++new.map some).length =true:=Nat.ble_eq_true_of_le (by simp)
   rw [this];simp [onp]
  ·show hupd h (oK _ _ _)=h;rw [DS _ _ _ _ hlen.symm];exact rZ (pl:=[]) _ ht
 obtain⟨r',e1,e2,e3,e4,e6,e7⟩:=hD;have:=rM hF args h r' e1 (e7 hob) V hR w args' hi (by rw [e3];exact hf) hr
 refine this.mono ?_;rintro e w' ⟨v',V',k1,k2,k3,k4,k5,k6⟩;refine⟨v',V',k1,by rw [<-e2];exact k2,k3,by rw [<-e3];exact k4,?_,k6⟩
 have ha:r'.apply h=r.apply h:=by
  unfold ORes.apply;rw [e6,e3,e4];rfl
 rw [<-ha];exact k5
def cV.or(F G:cV A):cV A:=fun args h=>match F args h with
 | some r=>some r
 | none=>G args h
theorem aK3{f:FuncId}{F G:cV A}(hF:aH.ok I P f F.spec)(hG:aH.ok I P f G.spec):aH.ok I P f (cV.or F G).spec :=by
 intro args h o ho K hK;unfold cV.spec cV.or at ho;cases hf:F args h with
 | some r=>
   rw [hf]at ho;exact hF args h o (by unfold cV.spec;rw [hf];exact ho) K hK
 | none=>
   rw [hf]at ho;exact hG args h o (by unfold cV.spec;exact ho) K hK
def Env.addN(E:Env A P)(f:FuncId)(F:cV A)(h:aH.ok E.I P f F.spec):Env A P where
 I:=E.I
 cps:=fun g=>if g=f then some (mW F.spec)else E.cps g
 det:=fun g=>if g=f then some (FD F)else E.det g
 meth:=E.meth
 cpsOk:=by
  intro g T hg
  by_cases e:g=f
  ·rw [if_pos e]at hg;cases hg;rw [e];exact jJ h
  ·rw [if_neg e]at hg;exact E.cpsOk g T hg
 detOk:=by
  intro g T hg
  by_cases e:g=f
  ·rw [if_pos e]at hg;cases hg;rw [e];exact J0 h
  ·rw [if_neg e]at hg;exact E.detOk g T hg
 methOk:=E.methOk
 row:=E.row
 rowOk:=E.rowOk
 fld:=E.fld
 fldOk:=E.fldOk
end
end Go.Sh
