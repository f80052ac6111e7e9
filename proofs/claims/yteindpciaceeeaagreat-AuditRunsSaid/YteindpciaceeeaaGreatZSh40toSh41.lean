import Derived.Test.YteindpciaceeeaaGreatZGC7toGD
set_option linter.all false
set_option maxHeartbeats 8000000
namespace Go.Sh
open Go
variable [Con] {A:Type} {P:Program} {E:xR A} {tb:A->Nat×aB A}
end Go.Sh
namespace Go.Sh
open Go
variable [Con] {A:Type} {P:Program} {tb:A->Nat×aB A}
def PHeap.upd(p:PHeap)(b:Nat)(o:Obj):PHeap:=fun c=>if c=b then some o else p c
def hJ.fld(R:hJ tb)(P:Program)(t:TypeId)(l off:Nat)(h:aB A):Option (AVal×Option Prop):=
 match aK h l,eA P t with
 | some (.abs a [k]),some false=>match R.isHole a with
   | some (ws,i)=>some (.ptr k 0,some (i<R.len ws/\off=i))
   | none=>none
 | _,_=>none
end Go.Sh
namespace Go.Sh
open Go
variable [Con] {A:Type} {P:Program} {E:xR A} {tb:A->Nat×aB A}
structure fO (tb:A->Nat×aB A) (E:xR A) extends l6 tb E where
 nil:E.X
 nilIn: ∀(N:Nat) (V:Val) (l b:Nat),V l=some (b,0)->aG.interp (obN tb N) V l (E.en nil) .emp
 nilHd: ∀(V:Val) (l:Nat),Rep V (E.hd l nil) (.slice none 0 0)
 inner:Nat
 cast:gE
def l6.at(R:l6 tb E)(h:aB A):AVal->Bool
 | .ptr l _=>match aK h l with
   | some (.abs o _)=>R.mine o
   | _=>false
 | .slice l _ _ _=>match aK h l with
   | some (.abs o _)=>R.mine o
   | _=>false
 | _=>false
def fO.app2(R:fO tb E)(P:Program)(Z:Operand->AVal)(op:Op)(h:aB A)(K:AVal->aB A->Prop):Prop:=
 match op with
 | .call c=>match c.args.toList.map Z with
   | [_,.slice lx 0 1 1]=>match aK h lx with
     | some (.cells [v])=>cond (isNone v) (match B1 (.cell lx 0) R.cast [] h with
       | some (_,h')=>R.app P Z (.call c) h' K
       | none=>False) (R.app P Z (.call c) h K)
     | _=>False
   | _=>False
 | _=>False
theorem fO.app2_ok(R:fO tb E)(Z:Operand->AVal)(o:Oper)(h:aB A)(K:AVal->aB A->Prop)(hk:R.app2 P Z o.op h K)(V:Val)(hR:PHeap)(w:World)(Z':Operand->Value)(hi:Inv (obI tb) V (toF h) hR w)(hf: ∀l,h.length<=l->V l=none)(hZ: ∀x,Rep V (Z x) (Z' x)):
 ∃nx w' V' v v' h2,K v h2/\(execOp Z' o).run P w=.ok nx w'/\(nx=.value v'\/nx=.skip /\v'=undef)/\Rep V' v v'/\V.le V'/\(∀l,h2.length<=l->V' l=none)/\h.length<=h2.length/\Inv (obI tb) V' (toF h2) hR w'/\bN w w':=by
 unfold fO.app2 at hk;split at hk
 case h_2=>exact hk.elim
 rename_i c g;split at hk
 case h_2=>exact hk.elim
 split at hk
 case h_2=>exact hk.elim
 rename_i v hl;cases hb:isNone v with
 | false=>
   rw [hb]at hk;have hk:R.app P Z (.call c) h K:=hk;rw [<-g]at hk;exact R.app_ok Z o h K hk V hR w Z' hi hf hZ
 | true=>
   rw [hb]at hk;simp only [cond_true]at hk;split at hk
   case h_2=>exact hk.elim
   rename_i aa h' hc;obtain⟨V1,⟨a1,a2,a3,a4⟩,_⟩:=u9 (xs:=[]) hc hi hf rfl;rw [<-g]at hk;obtain⟨nx,w',V',v1,v',h2,q1,q2,q3,q4,q5,q6,q7,q8,q9⟩:=R.app_ok Z o h' K hk V1 hR w Z' a4 a2 (fun x=>Rep.mono a1 _ _ (hZ x));exact⟨nx,w',V',v1,v',h2,q1,q2,q3,q4,Val.le_trans a1 q5,q6,Nat.le_trans a3 q7,q8,q9⟩
theorem RowS.single(R:RowS tb E){y:E.X}{x:Nat×Nat}{q:PHeap}{N b k:Nat}{cs:Array Value}{T:TypeId}{v:Value}{tail:List Value}(hq:EnAt tb N (E.en y) x q)(hb:q b=none)(hcs:cs.toList=v::tail)(hk:cs.size=k)(hv: ∀(V:Val) (l:Nat),V l=some x->Rep V (E.hd l y) v):
 ∃p,obN tb (N+1) (R.row [y]) (b,k) [] p/\ ∀c o,p c=some o->(c=b/\o=.cells cs T)\/q c=some o:=by
 have aa:=R.tbRow [y]
 let V':Val:=fun m=>match m with
  | 0=>some (b,k)
  | 1=>some x
  | _+2=>none
 let gs':Nat->PHeap:=fun m=>match m with
  | 0=>.one b (.cells cs T)
  | 1=>q
  | _+2=>.emp
 have d0:PHeap.disj (PHeap.one b (.cells cs T)) q:=by
  intro c
  by_cases h:c=b
  ·subst h;exact .inr hb
  ·left;unfold PHeap.one;rw [if_neg h]
 have ac: ∀l m,l≠m->(gs' l).disj (gs' m):=by
  intro l m ad
  match l,m,ad with
  | 0,0,h=>exact(h rfl).elim
  | 0,1,_=>exact d0
  | 1,0,_=>exact d0.symm
  | 1,1,h=>exact(h rfl).elim
  | 0,_+2,_=>exact aLb _
  | 1,_+2,_=>exact aLb _
  | _+2,0,_=>exact(aLb _).symm
  | _+2,1,_=>exact(aLb _).symm
  | _+2,_+2,_=>exact aLb _
 refine⟨aLd gs',⟨V',gs',rfl,?_,?_,⟨?_,?_,ac⟩,rfl⟩,?_⟩
 ·intro j hj;rw [aa]at hj;dsimp only at hj;omega
 ·rw [aa];rfl
 ·intro l e he;rw [aa]at he
  match l,he with
  | 0,he=>
    have g:some (aG.cells [E.hd 1 y])=some e:=he;simp only [sI']at g;subst g;refine⟨b,k,rfl,cs,T,rfl,hk,[v],tail,hcs,v,[],rfl,hv V' 1 rfl,rfl⟩
  | 1,he=>
    have g:some (E.en y)=some e:=he;cases g;exact hq V' 1 rfl
  | j+2,he=>
    have g:aK (fM E [y]) (j+2)=some e:=he;rw [cX]at g;cases g
 ·intro l he;rw [aa]at he
  match l,he with
  | 0,he=>cases he
  | 1,he=>
    have g:some (E.en y)=none:=he;cases g
  | j+2,_=>rfl
 ·intro c o hh;obtain⟨m,hm⟩:=aLr hh
  match m,hm with
  | 0,hm=>
    left;have hm:PHeap.one b (.cells cs T) c=some o:=hm;unfold PHeap.one at hm;split at hm
    ·rename_i e;cases hm;exact⟨e,rfl⟩
    ·cases hm
  | 1,hm=>exact .inr hm
  | _+2,hm=>cases hm
theorem Inv.singleS(R:RowS tb E){V:Val}{h:aB A}{hR:PHeap}{w:World}{q:Nat}{y:E.X}(hi:Inv (obI tb) V (toF h) hR w)(hn:V h.length=none)(hq:aK h q=some (E.en y)){w':World}{b k:Nat}{cs:Array Value}{T:TypeId}{v:Value}{tail:List Value}(hv:Rep V (E.hd q y) v)
 (hcs:cs.toList=v::tail) (hk:cs.size=k) (hw:w'.heap[b]? =some (.cells cs T)) (hb:w.heap[b]? =none) (hrest: ∀c o,c≠b->w.heap[c]? =some o->w'.heap[c]? =some o):
 Inv (obI tb) (V.add h.length (b,k)) (((toF h).put q none).put h.length (some (.abs (R.row [y]) []))) hR w':=by
 have ai:=cD hq;obtain⟨hs,h1,h2,h3,h4,h5,h6⟩:=hi;have af:=h1 q _ hq;obtain⟨N2,ac⟩:=mT af;obtain⟨x,hx⟩:=qA ac;have ah:EnAt tb N2 (E.en y) x (hs q):=fun V2 l2 e2=>R.enLoc _ V V2 q l2 y _ (hx.trans e2.symm) ac
 have out: ∀m,hs m b=none:=by
  intro m;cases hh:hs m b with
  | none=>rfl
  | some o=>have:=h5 m b o hh;rw [hb]at this;cases this
 have ad:hR b=none:=by
  cases hh:hR b with
  | none=>rfl
  | some o=>have:=h6.1 b o hh;rw [hb]at this;cases this
 obtain⟨p,p1,p2⟩:=R.single (b:=b) (T:=T) ah (out q) hcs hk (fun V2 l2 e=>R.hdRep V V2 q l2 y v (hx.trans e.symm) hv);have aj:q≠h.length:=by omega
 let hs':Nat->PHeap:=fun m=>if m=h.length then p else if m=q then .emp else hs m
 have val: ∀m,hs' m=(if m=h.length then p else if m=q then .emp else hs m):=fun _=>rfl
 have part: ∀m c,m≠h.length->m≠q->p c=none\/hs m c=none:=by
  intro m c aa g;cases hp:p c with
  | none=>exact .inl rfl
  | some o=>
    right;rcases p2 c o hp with⟨rfl,_⟩ | d
    ·exact out m
    ·rcases h3 q m (fun e=>g e.symm) c with f | f
     ·rw [f]at d;cases d
     ·exact f
 have ag:=aLp (x:=(b,k)) hn;refine⟨hs',?_,?_,?_,?_,?_,?_,h6.2⟩
 ·intro m e he;rw [val]
  by_cases aa:m=h.length
  ·subst aa;rw [if_pos rfl];simp only [aY.put,if_true,sI']at he;subst he;exact⟨b,k,aLj _ _ _,[],rfl,_,p1⟩
  ·rw [if_neg aa]
   by_cases g:m=q
   ·subst g;simp [aY.put,aa]at he
   ·rw [if_neg g];simp [aY.put,aa,g]at he;exact aLs ag (h1 m e he)
 ·intro m he;rw [val]
  by_cases aa:m=h.length
  ·subst aa;simp [aY.put]at he
  ·rw [if_neg aa]
   by_cases g:m=q
   ·rw [if_pos g]
   ·rw [if_neg g];simp [aY.put,aa,g]at he;exact h2 m he
 ·intro m m' ae c;rw [val,val]
  by_cases a1:m=h.length
  ·rw [if_pos a1]
   by_cases a2:m'=h.length
   ·exact(ae (a1.trans a2.symm)).elim
   ·rw [if_neg a2]
    by_cases a4:m'=q
    ·rw [if_pos a4];exact .inr rfl
    ·rw [if_neg a4];exact part m' c a2 a4
  ·rw [if_neg a1]
   by_cases b0:m=q
   ·rw [if_pos b0];exact .inl rfl
   ·rw [if_neg b0]
    by_cases a2:m'=h.length
    ·rw [if_pos a2];exact(part m c a1 b0).symm
    ·rw [if_neg a2]
     by_cases a4:m'=q
     ·rw [if_pos a4];exact .inr rfl
     ·rw [if_neg a4];exact h3 m m' ae c
 ·intro m c;rw [val];split
  ·cases hp:p c with
   | none=>exact .inl rfl
   | some o=>
     right;rcases p2 c o hp with⟨rfl,_⟩ | d
     ·exact ad
     ·rcases h4 q c with f | f
      ·rw [f]at d;cases d
      ·exact f
  ·split
   ·exact .inl rfl
   ·exact h4 m c
 ·intro m c o hh;rw [val]at hh;split at hh
  ·rcases p2 c o hh with⟨rfl,rfl⟩ | d
   ·exact hw
   ·have hc:c≠b:=by intro e;subst e;rw [out q]at d;cases d
    exact hrest c o hc (h5 q c o d)
  ·split at hh
   ·cases hh
   ·have hc:c≠b:=by intro e;subst e;rw [out m]at hh;cases hh
    exact hrest c o hc (h5 m c o hh)
 ·intro c o hh;have hc:c≠b:=by intro e;subst e;rw [ad]at hh;cases hh
  exact hrest c o hc (h6.1 c o hh)
def fO.app4(R:fO tb E)(P:Program)(Z:Operand->AVal)(op:Op)(h:aB A)(K:AVal->aB A->Prop):Prop:=
 match op with
 | .call c=>match c.callee,c.argTypes.toList,c.args.toList.map Z with
   | .builtin .append,[st,xt],[s,x]=>match P.underlying st,P.underlying xt with
     | some (.slice e),some (.slice _)=>match P.info? e with
       | some i=>match lG x 1 h with
         | some (.cells [v],m,_,none)=>match R.lab v with
           | some q=>match aK h q with
             | some en=>match R.rd en with
               | some y=>cL (fZ s&&(Nat.beq i.size 1&&Nat.ble i.bytes 4096&&(match i.zero with | some z=>Nat.beq (gA z).cells.length 1 | none=>false)))
                  ((m=1/\R.hdIs q y v)/\K (.slice h.length 0 1 1) ((h.set q none)++ [some (.abs (R.row [y]) [])]))
               | none=>False
             | none=>False
           | none=>False
         | _=>False
       | none=>False
     | _,_=>False
   | _,_,_=>False
 | _=>False
theorem fO.app4_ok(R:fO tb E)(Z:Operand->AVal)(o:Oper)(h:aB A)(K:AVal->aB A->Prop)(hk:R.app4 P Z o.op h K)(V:Val)(hR:PHeap)(w:World)(Z':Operand->Value)(hi:Inv (obI tb) V (toF h) hR w)(hf: ∀l,h.length<=l->V l=none)(hZ: ∀x,Rep V (Z x) (Z' x)):
 ∃nx w' V' v v' h2,K v h2/\(execOp Z' o).run P w=.ok nx w'/\(nx=.value v'\/nx=.skip /\v'=undef)/\Rep V' v v'/\V.le V'/\(∀l,h2.length<=l->V' l=none)/\h.length<=h2.length/\Inv (obI tb) V' (toF h2) hR w'/\bN w w':=by
 unfold fO.app4 at hk;split at hk
 case h_2=>exact hk.elim
 rename_i c a6;split at hk
 case h_2=>exact hk.elim
 rename_i st xt s x ah av ar;split at hk
 case h_2=>exact hk.elim
 rename_i e e2 h1 bd;split at hk
 case h_2=>exact hk.elim
 rename_i i ax;split at hk
 case h_2=>exact hk.elim
 rename_i v m lx ai;split at hk
 case h_2=>exact hk.elim
 rename_i q hq;split at hk
 case h_2=>exact hk.elim
 rename_i en ak;split at hk
 case h_2=>exact hk.elim
 rename_i y hy;have:=R.rd_eq _ _ hy;subst this;obtain⟨hb,⟨rfl,a8⟩,a7⟩:=bK.1 hk;clear hk;obtain⟨bc,hb⟩:=Bool.and_eq_true_iff.1 hb;obtain⟨hb,ae⟩:=Bool.and_eq_true_iff.1 hb;obtain⟨bb,ba⟩:=Bool.and_eq_true_iff.1 hb;have ag:i.size=1:=Nat.eq_of_beq_eq_true bb;have ad:i.bytes<=4096:=Nat.le_of_ble_eq_true ba;have:=iI bc;subst this;have:=R.hdIs_eq _ _ _ a8;subst this
 obtain⟨z,hz,aq⟩: ∃z,i.zero=some z/\(gA z).cells.length =1:=by
  cases hz:i.zero with
  | none=>rw [hz]at ae;cases ae
  | some z=>rw [hz]at ae;exact⟨z,rfl,Nat.eq_of_beq_eq_true ae⟩
 have ap:z.cells.size=1:=by
  have:=aH.length (dC V z);rw [Array.length_toList]at this;rw [this,aq]
 have g: ∀bt,c.callee=.builtin bt-> ∃cs,execOp Z' o=builtin bt c.argTypes o.type cs (c.args.map Z'):=by
  intro bt ah;have h0:execOp Z' o=(do let d<-resolve Z' c o.type;invoke d.target d.args):=by simp only [execOp,a6]
  rw [h0];unfold resolve;rw [ah];exact⟨_,rfl⟩
 obtain⟨bi,g⟩:=g _ ah;have ac:=gO hZ c.args.toList;have af:(c.args.map Z').toList =c.args.toList.map Z':=by simp
 rw [<-af,ar]at ac;obtain⟨s',ys,e1,r1,x',zs,e3,r3,r4⟩:=ac;have am:zs=[]:=r4;subst am e3;have r1:s'=.slice none 0 0:=r1;subst r1;have bf:c.args.map Z'= #[.slice none 0 0,x']:=by apply Array.ext';rw [e1]
 have au:c.argTypes= #[st,xt]:=by apply Array.ext';rw [av]
 have g:execOp Z' o=(do Pure.pure (.value (<-Builtin.append_ #[st,xt] o.type #[.slice none 0 0,x']))):=by rw [g,au,bf];rfl
 obtain⟨vs,bg,bh,q1,q2,q3,q4,q5⟩:=lH ai trivial (hi.drew (w.drawn+1)) r3;obtain⟨v',vs',rfl,q6,q7⟩: ∃v' vs',vs=v'::vs'/\Rep V (E.hd q y) v'/\aH V [] vs':=q4;have ao:vs'=[]:=q7;subst ao q1;have al:V h.length=none:=hf _ (Nat.le_refl _);obtain⟨aa,rest,g1,g2,g3⟩:=lF (ty:=o.type) (row:=[]) (ws:=[v']) (m:=1) (sLen:=0) (sCap:=0) (base:=none) h1 bd ax hz (by rw [ag];have:=q2 1 (Nat.le_refl _);simpa using this) (by omega) ad (by omega) cE
 have ay:rest.length=aa - (0+1):=by rw [g2,ap,Nat.mul_one]
 have aj:=hi.singleS R.toRowS (y:=y) al ak (w':= {w with drawn:=w.drawn+1,heap:=w.heap.push (.cells ([]++ [v']++rest).toArray e) }) (b:=w.heap.size) (k:=aa) (cs:=([]++ [v']++rest).toArray) (T:=e) q6 (tail:=rest) (by simp) (by simp;omega) (by simp) (by simp)
  (by intro c o hc hh;have hl:=(Array.getElem?_eq_some_iff.1 hh).1;simp only [Array.getElem?_push];rw [if_neg (by omega)];exact hh)
 have az:=cD ak;refine⟨_,{w with drawn:=w.drawn+1,heap:=w.heap.push (.cells ([]++ [v']++rest).toArray e) },V.add h.length (w.heap.size,aa),_,_,_,a7,by rw [g];exact dZ g3,.inl rfl,⟨_,_,rfl,g1,.inl ⟨_,_,aLj _ _ _,rfl,by omega⟩⟩,aLp al,?_,by simp,?_,⟨rfl,rfl,by simp,fun _ _=>dW _ _ _ _⟩⟩
 ·intro m hm;simp at hm;rw [aLH _ _ (by omega)]
  exact hf m (by omega)
 ·have hF:=fS (h.set q none) (aG.abs (R.row [y]) []);rw [fW none az]at hF;rw [hF]
  simpa using aj
def fO.app3(R:fO tb E)(P:Program)(Z:Operand->AVal)(op:Op)(h:aB A)(K:AVal->aB A->Prop):Prop:=
 match op with
 | .call c=>match c.args.toList.map Z with
   | [_,.slice lx 0 1 1]=>match aK h lx with
     | some (.cells [v])=>cond (isNone v) (match B1 (.cell lx 0) R.cast [] h with
       | some (_,h')=>R.app4 P Z (.call c) h' K
       | none=>False) (R.app4 P Z (.call c) h K)
     | _=>False
   | _=>False
 | _=>False
theorem fO.app3_ok(R:fO tb E)(Z:Operand->AVal)(o:Oper)(h:aB A)(K:AVal->aB A->Prop)(hk:R.app3 P Z o.op h K)(V:Val)(hR:PHeap)(w:World)(Z':Operand->Value)(hi:Inv (obI tb) V (toF h) hR w)(hf: ∀l,h.length<=l->V l=none)(hZ: ∀x,Rep V (Z x) (Z' x)):
 ∃nx w' V' v v' h2,K v h2/\(execOp Z' o).run P w=.ok nx w'/\(nx=.value v'\/nx=.skip /\v'=undef)/\Rep V' v v'/\V.le V'/\(∀l,h2.length<=l->V' l=none)/\h.length<=h2.length/\Inv (obI tb) V' (toF h2) hR w'/\bN w w':=by
 unfold fO.app3 at hk;split at hk
 case h_2=>exact hk.elim
 rename_i c g;split at hk
 case h_2=>exact hk.elim
 split at hk
 case h_2=>exact hk.elim
 rename_i v hl;cases hb:isNone v with
 | false=>
   rw [hb]at hk;have hk:R.app4 P Z (.call c) h K:=hk;rw [<-g]at hk;exact R.app4_ok Z o h K hk V hR w Z' hi hf hZ
 | true=>
   rw [hb]at hk;simp only [cond_true]at hk;split at hk
   case h_2=>exact hk.elim
   rename_i aa h' hc;obtain⟨V1,⟨a1,a2,a3,a4⟩,_⟩:=u9 (xs:=[]) hc hi hf rfl;rw [<-g]at hk;obtain⟨nx,w',V',v1,v',h2,q1,q2,q3,q4,q5,q6,q7,q8,q9⟩:=R.app4_ok Z o h' K hk V1 hR w Z' a4 a2 (fun x=>Rep.mono a1 _ _ (hZ x));exact⟨nx,w',V',v1,v',h2,q1,q2,q3,q4,Val.le_trans a1 q5,q6,Nat.le_trans a3 q7,q8,q9⟩
def fO.begins(R:fO tb E)(P:Program)(c:Call)(s:AVal):Bool:=cond (fZ s) (match c.callee,c.argTypes.toList with
 | .builtin .append,[st,_]=>match P.underlying st with
   | some (.slice e)=>match P.underlying e with
     | some (.slice e2)=>match bX P e2 with
       | some n=>Nat.beq n R.inner
       | none=>false
     | _=>false
   | _=>false
 | _,_=>false) false
def fO.ops(R:fO tb E)(P:Program)(B:(Operand->AVal)->Op->aB A->(AVal->aB A->Prop)->Prop)(Z:Operand->AVal)(op:Op)(h:aB A)(K:AVal->aB A->Prop):Prop:=
 match op with
 | .call c=>match c.args.toList.map Z with
   | s::_=>cond (R.at h s) (R.app2 P Z (.call c) h K) (cond (R.begins P c s) (R.app3 P Z (.call c) h K) (B Z (.call c) h K))
   | []=>B Z (.call c) h K
 | .load t a=>cond (R.at h (Z a)) (R.load P Z (.load t a) h K) (B Z (.load t a) h K)
 | op=>B Z op h K
theorem fO.ops_ok(R:fO tb E)(hone: ∀(V:Val) (q:Nat) (y:E.X) (v:Value),Rep V (E.hd q y) v->v.oneCell'=true/\v.cells= #[v]){B:(Operand->AVal)->Op->aB A->(AVal->aB A->Prop)->Prop}(hB:uB tb P B):uB tb P (R.ops P B):=by
 intro Z o h K hk V hR w Z' hi hf hZ;unfold fO.ops at hk;split at hk
 ·rename_i c g;split at hk
  ·rename_i s r hs;cases hc:R.at h s with
   | false=>
     rw [hc]at hk;cases aa:R.begins P c s with
     | false=>rw [aa]at hk;exact hB Z o h K (by rw [g];exact hk) V hR w Z' hi hf hZ
     | true=>rw [aa]at hk;exact R.app3_ok Z o h K (by rw [g];exact hk) V hR w Z' hi hf hZ
   | true=>rw [hc]at hk;exact R.app2_ok Z o h K (by rw [g];exact hk) V hR w Z' hi hf hZ
  ·exact hB Z o h K (by rw [g];exact hk) V hR w Z' hi hf hZ
 ·rename_i t a g;cases hc:R.at h (Z a)with
  | false=>rw [hc]at hk;exact hB Z o h K (by rw [g];exact hk) V hR w Z' hi hf hZ
  | true=>rw [hc]at hk;exact R.load_ok Z o h K (by rw [g];exact hk) V hR w Z' hi hf hZ
 ·exact hB Z o h K hk V hR w Z' hi hf hZ
def fO.dro(R:fO tb E)(P:Program)(B:(Operand->AVal)->Op->aB A->Option (ORes A))(Z:Operand->AVal)(op:Op)(h:aB A):Option (ORes A):=
 match op with
 | .load t a=>cond (R.at h (Z a)) (match Z a,eA P t with
   | .ptr l off,some false=>match aK h l with
     | some (.abs o [])=>match R.isRow o with
       | some ws=>some {v:=E.hd h.length (R.get ws off),upd:=[(l,some (.abs (R.hole ws off) [h.length]))],new:=[E.en (R.get ws off)],foot:=[l],need:=some (off<ws.length) }
       | none=>none
     | _=>none
   | _,_=>none) (B Z (.load t a) h)
 | op=>B Z op h
def uR(B:(Operand->AVal)->Op->aB A->Option (ORes A)):Prop:= ∀(Z Z2:Operand->AVal) (op:Op) (h:aB A),(∀x∈op.operands,Z x=Z2 x)->B Z op h=B Z2 op h
def zC(tb:A->Nat×aB A)(P:Program)(B:(Operand->AVal)->Op->aB A->Option (ORes A)):Prop:=
 ∀(Z:Operand->AVal) (o:Oper) (h:aB A) (r:ORes A),B Z o.op h=some r->r.obl-> ∀(V:Val) (hR:PHeap) (w:World) (Z':Operand->Value),Inv (obI tb) V (toF h) hR w->jP V h.length r.new.length->(∀x,Rep V (Z x) (Z' x))->dL (obI tb) P V h.length hR w r.v (toF (r.apply h)) r.new.length (execOp Z' o)
theorem pB:uR (A:=A) (fun _ _ _=>none):=by intro _ _ _ _ _;rfl
theorem vG:zC tb P (fun _ _ _=>none):=by intro _ _ _ _ h;cases h
theorem fO.dro_congr(R:fO tb E){B:(Operand->AVal)->Op->aB A->Option (ORes A)}(hB:uR B):uR (R.dro P B):=by
 intro Z Z2 op h hZ;cases op
 case load t a=>
  simp only [fO.dro];rw [hZ a (by simp [Op.operands]),hB Z Z2 (.load t a) h hZ]
 all_goals (simp only [fO.dro];exact hB _ _ _ _ hZ)
theorem fO.dro_ok(R:fO tb E)(hone: ∀(V:Val) (q:Nat) (y:E.X) (v:Value),Rep V (E.hd q y) v->v.oneCell'=true/\v.cells= #[v]){B:(Operand->AVal)->Op->aB A->Option (ORes A)}(hB:zC tb P B):zC tb P (R.dro P B):=by
 intro Z o h r hr ho V hR w Z' hi hf hZ;unfold fO.dro at hr;split at hr
 ·rename_i t a g;cases hc:R.at h (Z a)with
  | false=>rw [hc]at hr;exact hB Z o h r (by rw [g];exact hr) ho V hR w Z' hi hf hZ
  | true=>
  rw [hc]at hr;simp only [cond_true]at hr;split at hr
  case h_2=>cases hr
  rename_i l off hZa ag;have hx:=hZ a;rw [hZa]at hx;obtain⟨b,k,hV,hx⟩:=hx;split at hr
  case h_2=>cases hr
  rename_i ob hl;split at hr
  case h_2=>cases hr
  rename_i ws hw;have:=R.isRow_eq _ _ hw;subst this;simp only [sI']at hr;subst hr;have af:off<ws.length:=ho;have hn:V h.length=none:=hf h.length (Nat.le_refl _) (by simp)
  obtain⟨V',y,b',k',cs,T,v,a1,rfl,a3,a4,a5,a6,a7,a8⟩:=hi.lendS1 R.toRowS hn hl (R.get_eq ws off af);rw [hV]at a5;simp only [sI',pI']at a5;obtain⟨rfl,rfl⟩:=a5
  have ad:cs.toList.drop off=[v]++cs.toList.drop (off+1):=by
   obtain⟨ac,ae⟩:=List.getElem?_eq_some_iff.1 a7;rw [<-ae];exact List.drop_eq_getElem_cons ac
  obtain⟨v',g1,g2⟩:=fR (P:=P) (V:=V.add h.length y) (t:=t) (av:=[E.hd h.length (R.get ws off)]) (v:=E.hd h.length (R.get ws off)) a6 ad ⟨_,[],rfl,a8 _ _ a4,rfl⟩ (by unfold eM;rw [ag];rfl)
  refine⟨.value v',w,V.add h.length y,v',by simp [execOp,g,hx,g1],.inl rfl,a1,?_,g2,?_,aLu w⟩
  ·intro m hm aa
   by_cases e:m=h.length
   ·subst e;exact⟨Nat.le_refl _,by simp⟩
   ·rw [aLH _ _ e]at aa;exact(aa hm).elim
  ·simpa [ORes.apply,hupd]using a3
 ·exact hB Z o h r hr ho V hR w Z' hi hf hZ
end Go.Sh
