import Derived.Test.YteindpciaceeeaaGreatZN2toNS
set_option linter.all false
set_option maxHeartbeats 8000000
namespace Go.Sh
open Go
variable [Con] {A:Type}
abbrev cV(A:Type):=List AVal->aB A->Option (Prop×AVal×List (aG A))
def cV.spec(F:cV A):aI A:=fun args h=>match F args h with
 | some (p,v,new)=>some (.pre p (.ret v (h++new.map some)))
 | none=>none
def GL(F:cV A):nI A:=fun args h=>
 let il:=foot args h
 if (dU il h.length&&aLe il args)=true then
  match nF il h il with
  | none=>none
  | some h0=>match F (aLn (inv il) args) h0 with
    | none=>none
    | some (p,v,new)=>
      if (v.within (upto 0 (h0++new.map some).length)&&dB (h0++new.map some).length (h0++new.map some))=true then
       some {v:=v.ren (iota il h.length),upd:=[],new:=new.map (aG.ren (iota il h.length)),foot:=il,need:=some p}
      else none
 else none
theorem FJ(ι:Nat->Nat): ∀(ls:List Nat) (g r:aB A),ls.length=g.length->o0 ι ls (g++r)=o0 ι ls g
 | [],[],r,_=>by cases r<;>rfl
 | l::ls,e::g,r,h=>by
   show(_::o0 ι ls (g++r))=(_::o0 ι ls g);rw [FJ ι ls g r (by simpa using h)]
 | [],_::_,_,h=>by simp at h
 | _::_,[],_,h=>by simp at h
theorem tB: ∀(l:List (aG A)),iG (l.map some)=some l
 | []=>rfl
 | e::l=>by
   show(iG (l.map some)).map (e:: ·)=_;rw [tB l];rfl
section
variable {P:Program} {I:Itp A}
theorem LD{f:FuncId}{F:cV A}(hF:aI.ok I P f F.spec):nI.ok I P f (GL F):=by
 intro args h r g af V hR w ac hi hf hr
 have hD: ∃r',pT F.spec args h=some r'/\r'.v=r.v/\r'.new=r.new/\r.upd=[]/\hupd h r'.upd=h/\(r.obl->r'.obl):=by
  unfold GL at g;simp only at g;split at g
  case isFalse=>cases g
  rename_i hg;split at g
  ·cases g
  rename_i h0 ht;split at g
  ·cases g
  rename_i p v new ho;split at g
  case isFalse=>cases g
  rename_i hv;simp only [sI']at g;subst g;obtain⟨ae,ad⟩:=Bool.and_eq_true_iff.1 hv;obtain⟨ag,ak⟩:=Bool.and_eq_true_iff.1 hg;obtain⟨ai,aj⟩:=f8 ag;obtain⟨aa,ah⟩:=iF ht;refine⟨{v:=v.ren (iota (foot args h) h.length),upd:=o0 (iota (foot args h) h.length) (foot args h) (h0++new.map some),new:=new.map (aG.ren (iota (foot args h) h.length)),foot:=foot args h,need:=some (p/\True) },?_,rfl,rfl,rfl,?_,fun hp=>⟨hp,trivial⟩⟩
  ·unfold pT;simp only [hg,if_true,ht,cV.spec,ho,Out.det];rw [<-aa,List.drop_left,tB];simp only;rw [ad,ae];have:Nat.ble h0.length (h0++new.map some).length =true:=Nat.ble_eq_true_of_le (by simp)
   rw [this];simp [onp]
  ·show hupd h (o0 _ _ _)=h;rw [FJ _ _ _ _ aa.symm];exact sV (pl:=[]) _ ht
 obtain⟨r',e1,e2,e3,e4,e6,e7⟩:=hD;have:=sI hF args h r' e1 (e7 af) V hR w ac hi (by rw [e3];exact hf) hr
 refine this.mono ?_;rintro e w' ⟨v',V',k1,k2,k3,k4,k5,k6⟩;refine⟨v',V',k1,by rw [<-e2];exact k2,k3,by rw [<-e3];exact k4,?_,k6⟩
 have ha:r'.apply h=r.apply h:=by
  unfold ORes.apply;rw [e6,e3,e4];rfl
 rw [<-ha];exact k5
def cV.or(F G:cV A):cV A:=fun args h=>match F args h with
 | some r=>some r
 | none=>G args h
theorem aMb{f:FuncId}{F G:cV A}(hF:aI.ok I P f F.spec)(hG:aI.ok I P f G.spec):aI.ok I P f (cV.or F G).spec :=by
 intro args h o ho K hK;unfold cV.spec cV.or at ho;cases g:F args h with
 | some r=>
   rw [g]at ho;exact hF args h o (by unfold cV.spec;rw [g];exact ho) K hK
 | none=>
   rw [g]at ho;exact hG args h o (by unfold cV.spec;exact ho) K hK
def Env.addN(E:Env A P)(f:FuncId)(F:cV A)(h:aI.ok E.I P f F.spec):Env A P where
 I:=E.I
 cps:=fun g=>if g=f then some (nP F.spec)else E.cps g
 det:=fun g=>if g=f then some (GL F)else E.det g
 meth:=E.meth
 cpsOk:=by
  intro g T hg
  by_cases e:g=f
  ·rw [if_pos e]at hg;cases hg;rw [e];exact kA h
  ·rw [if_neg e]at hg;exact E.cpsOk g T hg
 detOk:=by
  intro g T hg
  by_cases e:g=f
  ·rw [if_pos e]at hg;cases hg;rw [e];exact LD h
  ·rw [if_neg e]at hg;exact E.detOk g T hg
 methOk:=E.methOk
 row:=E.row
 rowOk:=E.rowOk
 fld:=E.fld
 fldOk:=E.fldOk
end
end Go.Sh
