import Derived.Test.YteindpciaceeeaaGreatZGD
set_option linter.all false
set_option maxHeartbeats 8000000
namespace Go.Sh
open Go
variable [Con] {A:Type} {P:Program} {E:wT A} {tb:A->Nat×aC A}
end Go.Sh
namespace Go.Sh
open Go
variable [Con] {A:Type} {P:Program} {tb:A->Nat×aC A}
def PHeap.upd(p:PHeap)(b:Nat)(o:Obj):PHeap:=fun c=>if c=b then some o else p c
def gP.fld(R:gP tb)(P:Program)(t:TypeId)(l off:Nat)(h:aC A):Option (AVal×Option Prop):=
 match aL h l,d6 P t with
 | some (.abs a [k]),some false=>match R.isHole a with
   | some (ws,i)=>some (.ptr k 0,some (i<R.len ws/\off=i))
   | none=>none
 | _,_=>none
end Go.Sh
namespace Go.Sh
open Go
variable [Con] {A:Type} {P:Program} {E:wT A} {tb:A->Nat×aC A}
structure eW (tb:A->Nat×aC A) (E:wT A) extends lE tb E where
 nil:E.X
 nilIn: ∀(N:Nat) (V:Val) (l b:Nat),V l=some (b,0)->aG.interp (obN tb N) V l (E.en nil) .emp
 nilHd: ∀(V:Val) (l:Nat),Rep V (E.hd l nil) (.slice none 0 0)
 inner:Nat
 cast:f5
def lE.at(R:lE tb E)(h:aC A):AVal->Bool
 | .ptr l _=>match aL h l with
   | some (.abs o _)=>R.mine o
   | _=>false
 | .slice l _ _ _=>match aL h l with
   | some (.abs o _)=>R.mine o
   | _=>false
 | _=>false
def eW.app2(R:eW tb E)(P:Program)(ρ:Operand->AVal)(op:Op)(h:aC A)(K:AVal->aC A->Prop):Prop:=
 match op with
 | .call c=>match c.args.toList.map ρ with
   | [_,.slice lx 0 1 1]=>match aL h lx with
     | some (.cells [v])=>cond (isNone v) (match AU (.cell lx 0) R.cast [] h with
       | some (_,h')=>R.app P ρ (.call c) h' K
       | none=>False) (R.app P ρ (.call c) h K)
     | _=>False
   | _=>False
 | _=>False
theorem eW.app2_ok(R:eW tb E)(ρ:Operand->AVal)(o:Oper)(h:aC A)(K:AVal->aC A->Prop)(hk:R.app2 P ρ o.op h K)(V:Val)(hR:PHeap)(w:World)(ρ':Operand->Value)(hi:Inv (obI tb) V (toF h) hR w)(hf: ∀l,h.length<=l->V l=none)(hρ: ∀x,Rep V (ρ x) (ρ' x)):
 ∃nx w' V' v v' h2,K v h2/\(execOp ρ' o).run P w=.ok nx w'/\(nx=.value v'\/nx=.skip /\v'=undef)/\Rep V' v v'/\V.le V'/\(∀l,h2.length<=l->V' l=none)/\h.length<=h2.length/\Inv (obI tb) V' (toF h2) hR w'/\bX w w':=by
 unfold eW.app2 at hk;split at hk
 case h_2=>exact hk.elim
 rename_i c hop;split at hk
 case h_2=>exact hk.elim
 split at hk
 case h_2=>exact hk.elim
 rename_i v hl;cases hb:isNone v with
 | false=>
   rw [hb]at hk;have hk:R.app P ρ (.call c) h K:=hk;rw [<-hop]at hk;exact R.app_ok ρ o h K hk V hR w ρ' hi hf hρ
 | true=>
   rw [hb]at hk;simp only [cond_true]at hk;split at hk
   case h_2=>exact hk.elim
   rename_i tm' h' hc;obtain⟨V1,⟨a1,a2,a3,a4⟩,_⟩:=uM (xs:=[]) hc hi hf rfl;rw [<-hop]at hk;obtain⟨nx,w',V',v1,v',h2,q1,q2,q3,q4,q5,q6,q7,q8,q9⟩:=R.app_ok ρ o h' K hk V1 hR w ρ' a4 a2 (fun x=>Rep.mono a1 _ _ (hρ x));exact⟨nx,w',V',v1,v',h2,q1,q2,q3,q4,Val.le_trans a1 q5,q6,Nat.le_trans a3 q7,q8,q9⟩
def eW.put2(R:eW tb E)(P:Program)(ρ:Operand->AVal)(op:Op)(h:aC A)(K:AVal->aC A->Prop):Prop:=
 match op with
 | .store t a x=>match ρ a,bW P t with
   | .ptr l off,some 1=>match aL h l with
     | some (.abs o [k])=>match R.isHole o,R.lab (ρ x)with
       | some (ws,i),some q=>match aL h q with
         | some en=>match R.rd en with
           | some y=>cK (cond (Nat.beq q l) false (cond (Nat.beq k l) false true)) ((i<ws.length/\off=i/\R.hdIs q y (ρ x))/\K (.raw undef) (((h.set l (some (.abs (R.row (ws.set i y)) []))).set k none).set q none))
           | none=>False
         | none=>False
       | _,_=>False
     | _=>False
   | _,_=>False
 | _=>False
theorem RowS.single(R:RowS tb E){y:E.X}{x:Nat×Nat}{q:PHeap}{N b k:Nat}{cs:Array Value}{T:TypeId}{v:Value}{tail:List Value}(hq:EnAt tb N (E.en y) x q)(hb:q b=none)(hcs:cs.toList=v::tail)(hk:cs.size=k)(hv: ∀(V:Val) (l:Nat),V l=some x->Rep V (E.hd l y) v):
 ∃p,obN tb (N+1) (R.row [y]) (b,k) [] p/\ ∀c o,p c=some o->(c=b/\o=.cells cs T)\/q c=some o:=by
 have htb:=R.tbRow [y]
 let V':Val:=fun m=>match m with
  | 0=>some (b,k)
  | 1=>some x
  | _+2=>none
 let gs':Nat->PHeap:=fun m=>match m with
  | 0=>.one b (.cells cs T)
  | 1=>q
  | _+2=>.emp
 have d0:PHeap.disj (PHeap.one b (.cells cs T)) q:=by
  intro c
  by_cases h:c=b
  ·subst h;exact .inr hb
  ·left;unfold PHeap.one;rw [if_neg h]
 have gdis: ∀l m,l≠m->(gs' l).disj (gs' m):=by
  intro l m hlm
  match l,m,hlm with
  | 0,0,h=>exact(h rfl).elim
  | 0,1,_=>exact d0
  | 1,0,_=>exact d0.symm
  | 1,1,h=>exact(h rfl).elim
  | 0,_+2,_=>exact aJ3 _
  | 1,_+2,_=>exact aJ3 _
  | _+2,0,_=>exact(aJ3 _).symm
  | _+2,1,_=>exact(aJ3 _).symm
  | _+2,_+2,_=>exact aJ3 _
 refine⟨aKe gs',⟨V',gs',rfl,?_,?_,⟨?_,?_,gdis⟩,rfl⟩,?_⟩
 ·intro j hj;rw [htb]at hj;dsimp only at hj;omega
 ·rw [htb];rfl
 ·intro l e he;rw [htb]at he
  match l,he with
  | 0,he=>
    have he':some (aG.cells [E.hd 1 y])=some e:=he;simp only [sI']at he';subst he';refine⟨b,k,rfl,cs,T,rfl,hk,[v],tail,hcs,v,[],rfl,hv V' 1 rfl,rfl⟩
  | 1,he=>
    have he':some (E.en y)=some e:=he;cases he';exact hq V' 1 rfl
  | j+2,he=>
    have he':aL (fD E [y]) (j+2)=some e:=he;rw [cW]at he';cases he'
 ·intro l he;rw [htb]at he
  match l,he with
  | 0,he=>cases he
  | 1,he=>
    have he':some (E.en y)=none:=he;cases he'
  | j+2,_=>rfl
 ·intro c o hh;obtain⟨m,hm⟩:=aKm hh
  match m,hm with
  | 0,hm=>
    left;have hm:PHeap.one b (.cells cs T) c=some o:=hm;unfold PHeap.one at hm;split at hm
    ·rename_i e;cases hm;exact⟨e,rfl⟩
    ·cases hm
  | 1,hm=>exact .inr hm
  | _+2,hm=>cases hm
theorem Inv.singleS(R:RowS tb E){V:Val}{h:aC A}{hR:PHeap}{w:World}{q:Nat}{y:E.X}(hi:Inv (obI tb) V (toF h) hR w)(hn:V h.length=none)(hq:aL h q=some (E.en y)){w':World}{b k:Nat}{cs:Array Value}{T:TypeId}{v:Value}{tail:List Value}(hv:Rep V (E.hd q y) v)
 (hcs:cs.toList=v::tail) (hk:cs.size=k) (hw:w'.heap[b]? =some (.cells cs T)) (hb:w.heap[b]? =none) (hrest: ∀c o,c≠b->w.heap[c]? =some o->w'.heap[c]? =some o):
 Inv (obI tb) (V.add h.length (b,k)) (((toF h).put q none).put h.length (some (.abs (R.row [y]) []))) hR w':=by
 have hqq:=cB hq;obtain⟨hs,h1,h2,h3,h4,h5,h6⟩:=hi;have hinq:=h1 q _ hq;obtain⟨N2,hinq2⟩:=l6 hinq;obtain⟨x,hx⟩:=pG hinq2;have hen:EnAt tb N2 (E.en y) x (hs q):=fun V2 l2 e2=>R.enLoc _ V V2 q l2 y _ (hx.trans e2.symm) hinq2
 have out: ∀m,hs m b=none:=by
  intro m;cases hh:hs m b with
  | none=>rfl
  | some o=>have:=h5 m b o hh;rw [hb]at this;cases this
 have outR:hR b=none:=by
  cases hh:hR b with
  | none=>rfl
  | some o=>have:=h6.1 b o hh;rw [hb]at this;cases this
 obtain⟨p,p1,p2⟩:=R.single (b:=b) (T:=T) hen (out q) hcs hk (fun V2 l2 e=>R.hdRep V V2 q l2 y v (hx.trans e.symm) hv);have hql:q≠h.length:=by omega
 let hs':Nat->PHeap:=fun m=>if m=h.length then p else if m=q then .emp else hs m
 have val: ∀m,hs' m=(if m=h.length then p else if m=q then .emp else hs m):=fun _=>rfl
 have part: ∀m c,m≠h.length->m≠q->p c=none\/hs m c=none:=by
  intro m c hml hmq;cases hp:p c with
  | none=>exact .inl rfl
  | some o=>
    right;rcases p2 c o hp with⟨rfl,_⟩ | d
    ·exact out m
    ·rcases h3 q m (fun e=>hmq e.symm) c with f | f
     ·rw [f]at d;cases d
     ·exact f
 have hVle:=aKh (x:=(b,k)) hn;refine⟨hs',?_,?_,?_,?_,?_,?_,h6.2⟩
 ·intro m e he;rw [val]
  by_cases hml:m=h.length
  ·subst hml;rw [if_pos rfl];simp only [bH.put,if_true,sI']at he;subst he;exact⟨b,k,aKa _ _ _,[],rfl,_,p1⟩
  ·rw [if_neg hml]
   by_cases hmq:m=q
   ·subst hmq;simp [bH.put,hml]at he
   ·rw [if_neg hmq];simp [bH.put,hml,hmq]at he;exact aKk hVle (h1 m e he)
 ·intro m he;rw [val]
  by_cases hml:m=h.length
  ·subst hml;simp [bH.put]at he
  ·rw [if_neg hml]
   by_cases hmq:m=q
   ·rw [if_pos hmq]
   ·rw [if_neg hmq];simp [bH.put,hml,hmq]at he;exact h2 m he
 ·intro m m' hmm c;rw [val,val]
  by_cases a1:m=h.length
  ·rw [if_pos a1]
   by_cases a2:m'=h.length
   ·exact(hmm (a1.trans a2.symm)).elim
   ·rw [if_neg a2]
    by_cases a4:m'=q
    ·rw [if_pos a4];exact .inr rfl
    ·rw [if_neg a4];exact part m' c a2 a4
  ·rw [if_neg a1]
   by_cases b0:m=q
   ·rw [if_pos b0];exact .inl rfl
   ·rw [if_neg b0]
    by_cases a2:m'=h.length
    ·rw [if_pos a2];exact(part m c a1 b0).symm
    ·rw [if_neg a2]
     by_cases a4:m'=q
     ·rw [if_pos a4];exact .inr rfl
     ·rw [if_neg a4];exact h3 m m' hmm c
 ·intro m c;rw [val];split
  ·cases hp:p c with
   | none=>exact .inl rfl
   | some o=>
     right;rcases p2 c o hp with⟨rfl,_⟩ | d
     ·exact outR
     ·rcases h4 q c with f | f
      ·rw [f]at d;cases d
      ·exact f
  ·split
   ·exact .inl rfl
   ·exact h4 m c
 ·intro m c o hh;rw [val]at hh;split at hh
  ·rcases p2 c o hh with⟨rfl,rfl⟩ | d
   ·exact hw
   ·have hc:c≠b:=by intro e;subst e;rw [out q]at d;cases d
    exact hrest c o hc (h5 q c o d)
  ·split at hh
   ·cases hh
   ·have hc:c≠b:=by intro e;subst e;rw [out m]at hh;cases hh
    exact hrest c o hc (h5 m c o hh)
 ·intro c o hh;have hc:c≠b:=by intro e;subst e;rw [outR]at hh;cases hh
  exact hrest c o hc (h6.1 c o hh)
def eW.app4(R:eW tb E)(P:Program)(ρ:Operand->AVal)(op:Op)(h:aC A)(K:AVal->aC A->Prop):Prop:=
 match op with
 | .call c=>match c.callee,c.argTypes.toList,c.args.toList.map ρ with
   | .builtin .append,[st,xt],[s,x]=>match P.underlying st,P.underlying xt with
     | some (.slice e),some (.slice _)=>match P.info? e with
       | some i=>match kK x 1 h with
         | some (.cells [v],m,_,none)=>match R.lab v with
           | some q=>match aL h q with
             | some en=>match R.rd en with
               | some y=>cK (fS s&&(Nat.beq i.size 1&&Nat.ble i.bytes 4096&&(match i.zero with | some z=>Nat.beq (fW z).cells.length 1 | none=>false)))
                  ((m=1/\R.hdIs q y v)/\K (.slice h.length 0 1 1) ((h.set q none)++ [some (.abs (R.row [y]) [])]))
               | none=>False
             | none=>False
           | none=>False
         | _=>False
       | none=>False
     | _,_=>False
   | _,_,_=>False
 | _=>False
theorem eW.app4_ok(R:eW tb E)(ρ:Operand->AVal)(o:Oper)(h:aC A)(K:AVal->aC A->Prop)(hk:R.app4 P ρ o.op h K)(V:Val)(hR:PHeap)(w:World)(ρ':Operand->Value)(hi:Inv (obI tb) V (toF h) hR w)(hf: ∀l,h.length<=l->V l=none)(hρ: ∀x,Rep V (ρ x) (ρ' x)):
 ∃nx w' V' v v' h2,K v h2/\(execOp ρ' o).run P w=.ok nx w'/\(nx=.value v'\/nx=.skip /\v'=undef)/\Rep V' v v'/\V.le V'/\(∀l,h2.length<=l->V' l=none)/\h.length<=h2.length/\Inv (obI tb) V' (toF h2) hR w'/\bX w w':=by
 unfold eW.app4 at hk;split at hk
 case h_2=>exact hk.elim
 rename_i c hop;split at hk
 case h_2=>exact hk.elim
 rename_i st xt s x hcl hts hxs;split at hk
 case h_2=>exact hk.elim
 rename_i e e2 h1 h2';split at hk
 case h_2=>exact hk.elim
 rename_i i hti;split at hk
 case h_2=>exact hk.elim
 rename_i v m lx hsrc;split at hk
 case h_2=>exact hk.elim
 rename_i q hq;split at hk
 case h_2=>exact hk.elim
 rename_i en hen;split at hk
 case h_2=>exact hk.elim
 rename_i y hy;have:=R.rd_eq _ _ hy;subst this;obtain⟨hb,⟨rfl,hhd⟩,hk2⟩:=bM.1 hk;clear hk;obtain⟨hb0,hb⟩:=Bool.and_eq_true_iff.1 hb;obtain⟨hb,hb3⟩:=Bool.and_eq_true_iff.1 hb;obtain⟨hb1,hb2⟩:=Bool.and_eq_true_iff.1 hb;have hsize:i.size=1:=Nat.eq_of_beq_eq_true hb1;have hbytes:i.bytes<=4096:=Nat.le_of_ble_eq_true hb2;have:=hU hb0;subst this;have:=R.hdIs_eq _ _ _ hhd;subst this
 obtain⟨z,hz,hzl⟩: ∃z,i.zero=some z/\(fW z).cells.length =1:=by
  cases hz:i.zero with
  | none=>rw [hz]at hb3;cases hb3
  | some z=>rw [hz]at hb3;exact⟨z,rfl,Nat.eq_of_beq_eq_true hb3⟩
 have hzs:z.cells.size=1:=by
  have:=aI.length (cY V z);rw [Array.length_toList]at this;rw [this,hzl]
 have hrun: ∀bt,c.callee=.builtin bt-> ∃cs,execOp ρ' o=builtin bt c.argTypes o.type cs (c.args.map ρ'):=by
  intro bt hcl;have h0:execOp ρ' o=(do let d<-resolve ρ' c o.type;invoke d.target d.args):=by simp only [execOp,hop]
  rw [h0];unfold resolve;rw [hcl];exact⟨_,rfl⟩
 obtain⟨cs0,hrun⟩:=hrun _ hcl;have hargs:=gE hρ c.args.toList;have hargs':(c.args.map ρ').toList =c.args.toList.map ρ':=by simp
 rw [<-hargs',hxs]at hargs;obtain⟨s',ys,e1,r1,x',zs,e3,r3,r4⟩:=hargs;have r4':zs=[]:=r4;subst r4' e3;have r1:s'=.slice none 0 0:=r1;subst r1;have e2':c.args.map ρ'= #[.slice none 0 0,x']:=by apply Array.ext';rw [e1]
 have hty:c.argTypes= #[st,xt]:=by apply Array.ext';rw [hts]
 have hrun:execOp ρ' o=(do Pure.pure (.value (<-Builtin.append_ #[st,xt] o.type #[.slice none 0 0,x']))):=by rw [hrun,hty,e2'];rfl
 obtain⟨vs,base2,cap2,q1,q2,q3,q4,q5⟩:=kL hsrc trivial (hi.drew (w.drawn+1)) r3;obtain⟨v',vs',rfl,q6,q7⟩: ∃v' vs',vs=v'::vs'/\Rep V (E.hd q y) v'/\aI V [] vs':=q4;have q7':vs'=[]:=q7;subst q7' q1;have hVn:V h.length=none:=hf _ (Nat.le_refl _);obtain⟨ncap,rest,g1,g2,g3⟩:=kJ (ty:=o.type) (row:=[]) (ws:=[v']) (m:=1) (sLen:=0) (sCap:=0) (base:=none) h1 h2' hti hz (by rw [hsize];have:=q2 1 (Nat.le_refl _);simpa using this) (by omega) hbytes (by omega) cC
 have hrest:rest.length=ncap - (0+1):=by rw [g2,hzs,Nat.mul_one]
 have hinv:=hi.singleS R.toRowS (y:=y) hVn hen (w':= {w with drawn:=w.drawn+1,heap:=w.heap.push (.cells ([]++ [v']++rest).toArray e) }) (b:=w.heap.size) (k:=ncap) (cs:=([]++ [v']++rest).toArray) (T:=e) q6 (tail:=rest) (by simp) (by simp;omega) (by simp) (by simp)
  (by intro c o hc hh;have hl:=(Array.getElem?_eq_some_iff.1 hh).1;simp only [Array.getElem?_push];rw [if_neg (by omega)];exact hh)
 have hqq:=cB hen;refine⟨_,{w with drawn:=w.drawn+1,heap:=w.heap.push (.cells ([]++ [v']++rest).toArray e) },V.add h.length (w.heap.size,ncap),_,_,_,hk2,by rw [hrun];exact dV g3,.inl rfl,⟨_,_,rfl,g1,.inl ⟨_,_,aKa _ _ _,rfl,by omega⟩⟩,aKh hVn,?_,by simp,?_,⟨rfl,rfl,by simp,fun _ _=>dP _ _ _ _⟩⟩
 ·intro m hm;simp at hm;rw [aKC _ _ (by omega)]
  exact hf m (by omega)
 ·have hF:=fK (h.set q none) (aG.abs (R.row [y]) []);rw [fP none hqq]at hF;rw [hF]
  simpa using hinv
def eW.app3(R:eW tb E)(P:Program)(ρ:Operand->AVal)(op:Op)(h:aC A)(K:AVal->aC A->Prop):Prop:=
 match op with
 | .call c=>match c.args.toList.map ρ with
   | [_,.slice lx 0 1 1]=>match aL h lx with
     | some (.cells [v])=>cond (isNone v) (match AU (.cell lx 0) R.cast [] h with
       | some (_,h')=>R.app4 P ρ (.call c) h' K
       | none=>False) (R.app4 P ρ (.call c) h K)
     | _=>False
   | _=>False
 | _=>False
theorem eW.app3_ok(R:eW tb E)(ρ:Operand->AVal)(o:Oper)(h:aC A)(K:AVal->aC A->Prop)(hk:R.app3 P ρ o.op h K)(V:Val)(hR:PHeap)(w:World)(ρ':Operand->Value)(hi:Inv (obI tb) V (toF h) hR w)(hf: ∀l,h.length<=l->V l=none)(hρ: ∀x,Rep V (ρ x) (ρ' x)):
 ∃nx w' V' v v' h2,K v h2/\(execOp ρ' o).run P w=.ok nx w'/\(nx=.value v'\/nx=.skip /\v'=undef)/\Rep V' v v'/\V.le V'/\(∀l,h2.length<=l->V' l=none)/\h.length<=h2.length/\Inv (obI tb) V' (toF h2) hR w'/\bX w w':=by
 unfold eW.app3 at hk;split at hk
 case h_2=>exact hk.elim
 rename_i c hop;split at hk
 case h_2=>exact hk.elim
 split at hk
 case h_2=>exact hk.elim
 rename_i v hl;cases hb:isNone v with
 | false=>
   rw [hb]at hk;have hk:R.app4 P ρ (.call c) h K:=hk;rw [<-hop]at hk;exact R.app4_ok ρ o h K hk V hR w ρ' hi hf hρ
 | true=>
   rw [hb]at hk;simp only [cond_true]at hk;split at hk
   case h_2=>exact hk.elim
   rename_i tm' h' hc;obtain⟨V1,⟨a1,a2,a3,a4⟩,_⟩:=uM (xs:=[]) hc hi hf rfl;rw [<-hop]at hk;obtain⟨nx,w',V',v1,v',h2,q1,q2,q3,q4,q5,q6,q7,q8,q9⟩:=R.app4_ok ρ o h' K hk V1 hR w ρ' a4 a2 (fun x=>Rep.mono a1 _ _ (hρ x));exact⟨nx,w',V',v1,v',h2,q1,q2,q3,q4,Val.le_trans a1 q5,q6,Nat.le_trans a3 q7,q8,q9⟩
def eW.begins(R:eW tb E)(P:Program)(c:Call)(s:AVal):Bool:=cond (fS s) (match c.callee,c.argTypes.toList with
 | .builtin .append,[st,_]=>match P.underlying st with
   | some (.slice e)=>match P.underlying e with
     | some (.slice e2)=>match bW P e2 with
       | some n=>Nat.beq n R.inner
       | none=>false
     | _=>false
   | _=>false
 | _,_=>false) false
def eW.ops(R:eW tb E)(P:Program)(B:(Operand->AVal)->Op->aC A->(AVal->aC A->Prop)->Prop)(ρ:Operand->AVal)(op:Op)(h:aC A)(K:AVal->aC A->Prop):Prop:=
 match op with
 | .call c=>match c.args.toList.map ρ with
   | s::_=>cond (R.at h s) (R.app2 P ρ (.call c) h K) (cond (R.begins P c s) (R.app3 P ρ (.call c) h K) (B ρ (.call c) h K))
   | []=>B ρ (.call c) h K
 | .load t a=>cond (R.at h (ρ a)) (R.load P ρ (.load t a) h K) (B ρ (.load t a) h K)
 | op=>B ρ op h K
theorem eW.ops_ok(R:eW tb E)(hone: ∀(V:Val) (q:Nat) (y:E.X) (v:Value),Rep V (E.hd q y) v->v.oneCell'=true/\v.cells= #[v]){B:(Operand->AVal)->Op->aC A->(AVal->aC A->Prop)->Prop}(hB:tJ tb P B):tJ tb P (R.ops P B):=by
 intro ρ o h K hk V hR w ρ' hi hf hρ;unfold eW.ops at hk;split at hk
 ·rename_i c hop;split at hk
  ·rename_i s r hs;cases hc:R.at h s with
   | false=>
     rw [hc]at hk;cases hc2:R.begins P c s with
     | false=>rw [hc2]at hk;exact hB ρ o h K (by rw [hop];exact hk) V hR w ρ' hi hf hρ
     | true=>rw [hc2]at hk;exact R.app3_ok ρ o h K (by rw [hop];exact hk) V hR w ρ' hi hf hρ
   | true=>rw [hc]at hk;exact R.app2_ok ρ o h K (by rw [hop];exact hk) V hR w ρ' hi hf hρ
  ·exact hB ρ o h K (by rw [hop];exact hk) V hR w ρ' hi hf hρ
 ·rename_i t a hop;cases hc:R.at h (ρ a)with
  | false=>rw [hc]at hk;exact hB ρ o h K (by rw [hop];exact hk) V hR w ρ' hi hf hρ
  | true=>rw [hc]at hk;exact R.load_ok ρ o h K (by rw [hop];exact hk) V hR w ρ' hi hf hρ
 ·exact hB ρ o h K hk V hR w ρ' hi hf hρ
def eW.dro(R:eW tb E)(P:Program)(B:(Operand->AVal)->Op->aC A->Option (ORes A))(ρ:Operand->AVal)(op:Op)(h:aC A):Option (ORes A):=
 match op with
 | .load t a=>cond (R.at h (ρ a)) (match ρ a,d6 P t with
   | .ptr l off,some false=>match aL h l with
     | some (.abs o [])=>match R.isRow o with
       | some ws=>some {v:=E.hd h.length (R.get ws off),upd:=[(l,some (.abs (R.hole ws off) [h.length]))],new:=[E.en (R.get ws off)],foot:=[l],need:=some (off<ws.length) }
       | none=>none
     | _=>none
   | _,_=>none) (B ρ (.load t a) h)
 | op=>B ρ op h
def tZ(B:(Operand->AVal)->Op->aC A->Option (ORes A)):Prop:= ∀(ρ ρ2:Operand->AVal) (op:Op) (h:aC A),(∀x∈op.operands,ρ x=ρ2 x)->B ρ op h=B ρ2 op h
def yA(tb:A->Nat×aC A)(P:Program)(B:(Operand->AVal)->Op->aC A->Option (ORes A)):Prop:=
 ∀(ρ:Operand->AVal) (o:Oper) (h:aC A) (r:ORes A),B ρ o.op h=some r->r.obl-> ∀(V:Val) (hR:PHeap) (w:World) (ρ':Operand->Value),Inv (obI tb) V (toF h) hR w->i5 V h.length r.new.length->(∀x,Rep V (ρ x) (ρ' x))->dG (obI tb) P V h.length hR w r.v (toF (r.apply h)) r.new.length (execOp ρ' o)
theorem oN:tZ (A:=A) (fun _ _ _=>none):=by intro _ _ _ _ _;rfl
theorem uU:yA tb P (fun _ _ _=>none):=by intro _ _ _ _ h;cases h
theorem eW.dro_congr(R:eW tb E){B:(Operand->AVal)->Op->aC A->Option (ORes A)}(hB:tZ B):tZ (R.dro P B):=by
 intro ρ ρ2 op h hρ;cases op
 case load t a=>
  simp only [eW.dro];rw [hρ a (by simp [Op.operands]),hB ρ ρ2 (.load t a) h hρ]
 all_goals (simp only [eW.dro];exact hB _ _ _ _ hρ)
theorem eW.dro_ok(R:eW tb E)(hone: ∀(V:Val) (q:Nat) (y:E.X) (v:Value),Rep V (E.hd q y) v->v.oneCell'=true/\v.cells= #[v]){B:(Operand->AVal)->Op->aC A->Option (ORes A)}(hB:yA tb P B):yA tb P (R.dro P B):=by
 intro ρ o h r hr ho V hR w ρ' hi hf hρ;unfold eW.dro at hr;split at hr
 ·rename_i t a hop;cases hc:R.at h (ρ a)with
  | false=>rw [hc]at hr;exact hB ρ o h r (by rw [hop];exact hr) ho V hR w ρ' hi hf hρ
  | true=>
  rw [hc]at hr;simp only [cond_true]at hr;split at hr
  case h_2=>cases hr
  rename_i l off hρa hag;have hx:=hρ a;rw [hρa]at hx;obtain⟨b,k,hV,hx⟩:=hx;split at hr
  case h_2=>cases hr
  rename_i ob hl;split at hr
  case h_2=>cases hr
  rename_i ws hw;have:=R.isRow_eq _ _ hw;subst this;simp only [sI']at hr;subst hr;have hlt:off<ws.length:=ho;have hn:V h.length=none:=hf h.length (Nat.le_refl _) (by simp)
  obtain⟨V',y,b',k',cs,T,v,a1,rfl,a3,a4,a5,a6,a7,a8⟩:=hi.lendS1 R.toRowS hn hl (R.get_eq ws off hlt);rw [hV]at a5;simp only [sI',pI']at a5;obtain⟨rfl,rfl⟩:=a5
  have seg:cs.toList.drop off=[v]++cs.toList.drop (off+1):=by
   obtain⟨hlt',hv'⟩:=List.getElem?_eq_some_iff.1 a7;rw [<-hv'];exact List.drop_eq_getElem_cons hlt'
  obtain⟨v',g1,g2⟩:=fI (P:=P) (V:=V.add h.length y) (t:=t) (av:=[E.hd h.length (R.get ws off)]) (v:=E.hd h.length (R.get ws off)) a6 seg ⟨_,[],rfl,a8 _ _ a4,rfl⟩ (by unfold eJ;rw [hag];rfl)
  refine⟨.value v',w,V.add h.length y,v',by simp [execOp,hop,hx,g1],.inl rfl,a1,?_,g2,?_,aKp w⟩
  ·intro m hm hm2
   by_cases e:m=h.length
   ·subst e;exact⟨Nat.le_refl _,by simp⟩
   ·rw [aKC _ _ e]at hm2;exact(hm2 hm).elim
  ·simpa [ORes.apply,hupd]using a3
 ·exact hB ρ o h r hr ho V hR w ρ' hi hf hρ
end Go.Sh
