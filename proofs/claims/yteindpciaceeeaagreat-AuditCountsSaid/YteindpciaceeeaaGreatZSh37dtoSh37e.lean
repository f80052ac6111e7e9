import Derived.Test.YteindpciaceeeaaGreatZSh19toSh37c
set_option linter.all false
set_option maxHeartbeats 8000000
namespace Go.Sh
open Go
variable [Con] {A:Type} {P:Program} {E:wT A} {tb:A->Nat×aC A}
structure lE (tb:A->Nat×aC A) (E:wT A) extends RowS tb E where
 get:List E.X->Nat->E.X
 get_eq: ∀ws i,i<ws.length->ws[i]? =some (get ws i)
 lab:AVal->Option Nat
 hdIs:Nat->E.X->AVal->Prop
 hdIs_eq: ∀q y v,hdIs q y v->v=E.hd q y
def lE.settle(R:lE tb E)(l:Nat)(h:aC A)(K:List E.X->aC A->Prop):Prop:=
 match aL h l with
 | some (.abs a [])=>match R.isRow a with
   | some ws=>K ws h
   | none=>False
 | some (.abs a [k])=>match R.isHole a with
   | some (ws,i)=>match aL h k with
     | some e=>match R.rd e with
       | some y=>cond (Nat.beq k l) False ((i<ws.length/\y=R.get ws i)/\K ws ((h.set l (some (.abs (R.row ws) []))).set k none))
       | none=>False
     | none=>False
   | none=>False
 | _=>False
theorem lE.settle_ok(R:lE tb E){l:Nat}{h:aC A}{K:List E.X->aC A->Prop}(hk:R.settle l h K){V:Val}{hR:PHeap}{w:World}(hi:Inv (obI tb) V (toF h) hR w):
 ∃ws h2,K ws h2/\h2.length=h.length/\aL h2 l=some (.abs (R.row ws) [])/\Inv (obI tb) V (toF h2) hR w:=by
 unfold lE.settle at hk;split at hk
 ·rename_i a hl;split at hk
  case h_2=>exact hk.elim
  rename_i ws hr;have:=R.isRow_eq _ _ hr;subst this;exact⟨ws,h,hk,rfl,hl,hi⟩
 ·rename_i a k hl;split at hk
  case h_2=>exact hk.elim
  rename_i ws i hr;have:=R.isHole_eq _ _ _ hr;subst this;split at hk
  case h_2=>exact hk.elim
  rename_i e he;split at hk
  case h_2=>exact hk.elim
  rename_i y hy;have:=R.rd_eq _ _ hy;subst this;cases hb:Nat.beq k l with
  | true=>rw [hb]at hk;exact hk.elim
  | false=>
    rw [hb]at hk;obtain⟨⟨hil,rfl⟩,hk⟩:=hk;have hkl:k≠l:=by intro e;rw [e,Nat.beq_refl]at hb;cases hb
    have hll:=cB hl;have h0:=R.get_eq ws i hil;have hi2:=hi.backS R.toRowS h0 (fun _=>rfl) hl he hkl
    have hset:ws.set i (R.get ws i)=ws:=by
     apply List.ext_getElem?;intro j;rw [List.getElem?_set];split
     ·rename_i e;subst e;exact h0.symm
     ·rfl
    rw [hset]at hi2;refine⟨ws,_,hk,by simp,?_,hi2⟩
    simp only [aL,gD'];rw [List.getElem?_set_ne hkl,List.getElem?_set_self hll];rfl
 ·exact hk.elim
def lE.load(R:lE tb E)(P:Program)(ρ:Operand->AVal)(op:Op)(h:aC A)(K:AVal->aC A->Prop):Prop:=
 match op with
 | .load t a=>match ρ a,d6 P t with
   | .ptr l off,some false=>R.settle l h fun ws h2=>off<ws.length/\K (E.hd h2.length (R.get ws off)) (h2.set l (some (.abs (R.hole ws off) [h2.length]))++ [some (E.en (R.get ws off))])
   | _,_=>False
 | _=>False
theorem lE.load_ok(R:lE tb E)(ρ:Operand->AVal)(o:Oper)(h:aC A)(K:AVal->aC A->Prop)(hk:R.load P ρ o.op h K)(V:Val)(hR:PHeap)(w:World)(ρ':Operand->Value)(hi:Inv (obI tb) V (toF h) hR w)(hf: ∀l,h.length<=l->V l=none)(hρ: ∀x,Rep V (ρ x) (ρ' x)):
 ∃nx w' V' v v' h2,K v h2/\(execOp ρ' o).run P w=.ok nx w'/\(nx=.value v'\/nx=.skip /\v'=undef)/\Rep V' v v'/\V.le V'/\(∀l,h2.length<=l->V' l=none)/\h.length<=h2.length/\Inv (obI tb) V' (toF h2) hR w'/\bX w w':=by
 unfold lE.load at hk;split at hk
 case h_2=>exact hk.elim
 rename_i t a hop;split at hk
 case h_2=>exact hk.elim
 rename_i l off hρa hag;have hx:=hρ a;rw [hρa]at hx;obtain⟨ws,h2,⟨hlt,hk⟩,hlen,hl,hi2⟩:=R.settle_ok hk hi;obtain⟨b,k,hV,hx⟩:=hx;have hf2:bU V h2.length:=by intro m hm;exact hf m (by omega)
 obtain⟨V',y,b',k',cs,T,v,a1,a2,a3,a4,a5,a6,a7,a8⟩:=hi2.lendS R.toRowS hf2 hl (R.get_eq ws off hlt);rw [hV]at a5;simp only [sI',pI']at a5;obtain⟨rfl,rfl⟩:=a5
 have seg:cs.toList.drop off=[v]++cs.toList.drop (off+1):=by
  obtain⟨hlt',hv'⟩:=List.getElem?_eq_some_iff.1 a7;rw [<-hv'];exact List.drop_eq_getElem_cons hlt'
 obtain⟨v',g1,g2⟩:=fI (P:=P) (V:=V') (t:=t) (av:=[E.hd h2.length (R.get ws off)]) (v:=E.hd h2.length (R.get ws off)) a6 seg ⟨_,[],rfl,a8 V' _ a4,rfl⟩ (by unfold eJ;rw [hag];rfl)
 exact⟨_,w,V',_,v',_,hk,by simp [execOp,hop,hx,g1],.inl rfl,g2,a1,fun m hm=>a2 m (by simpa using hm),by simp;omega,a3,aKp w⟩
def lE.app(R:lE tb E)(P:Program)(ρ:Operand->AVal)(op:Op)(h:aC A)(K:AVal->aC A->Prop):Prop:=
 match op with
 | .call c=>match c.callee,c.argTypes.toList,c.args.toList.map ρ with
   | .builtin .append,[st,xt],[.slice l off n sz,x]=>match P.underlying st,P.underlying xt with
     | some (.slice e),some (.slice _)=>match P.info? e with
       | some i=>R.settle l h fun ws h2=>match kK x 1 h2 with
         | some (.cells [v],m,_,none)=>match R.lab v with
           | some q=>match aL h2 q with
             | some en=>match R.rd en with
               | some y=>cK (Nat.beq i.size 1&&Nat.ble i.bytes 4096&&(match i.zero with | some z=>Nat.beq (fW z).cells.length 1 | none=>false)&&cond (Nat.beq q l) false true)
                  ((m=1/\off=0/\sz=1/\n=ws.length/\n+1<=4294967296/\R.hdIs q y v)/\K (.slice h2.length 0 (n+1) 1) ((h2.set l none).set q none++ [some (.abs (R.row (ws++ [y])) [])]))
               | none=>False
             | none=>False
           | none=>False
         | _=>False
       | none=>False
     | _,_=>False
   | _,_,_=>False
 | _=>False
theorem lE.app_ok(R:lE tb E)(ρ:Operand->AVal)(o:Oper)(h:aC A)(K:AVal->aC A->Prop)(hk:R.app P ρ o.op h K)(V:Val)(hR:PHeap)(w:World)(ρ':Operand->Value)(hi:Inv (obI tb) V (toF h) hR w)(hf: ∀l,h.length<=l->V l=none)(hρ: ∀x,Rep V (ρ x) (ρ' x)):
 ∃nx w' V' v v' h2,K v h2/\(execOp ρ' o).run P w=.ok nx w'/\(nx=.value v'\/nx=.skip /\v'=undef)/\Rep V' v v'/\V.le V'/\(∀l,h2.length<=l->V' l=none)/\h.length<=h2.length/\Inv (obI tb) V' (toF h2) hR w'/\bX w w':=by
 unfold lE.app at hk;split at hk
 case h_2=>exact hk.elim
 rename_i c hop;split at hk
 case h_2=>exact hk.elim
 rename_i st xt l off n sz x hcl hts hxs;split at hk
 case h_2=>exact hk.elim
 rename_i e e2 h1 h2';split at hk
 case h_2=>exact hk.elim
 rename_i i hti;obtain⟨ws,h2,hk,hlen,hl,hi2⟩:=R.settle_ok hk hi;split at hk
 case h_2=>exact hk.elim
 rename_i v m lx hsrc;split at hk
 case h_2=>exact hk.elim
 rename_i q hq;split at hk
 case h_2=>exact hk.elim
 rename_i en hen;split at hk
 case h_2=>exact hk.elim
 rename_i y hy;have:=R.rd_eq _ _ hy;subst this;obtain⟨hb,⟨rfl,rfl,rfl,hn,hbig,hhd⟩,hk2⟩:=bM.1 hk;clear hk;obtain⟨hb,hb4⟩:=Bool.and_eq_true_iff.1 hb;obtain⟨hb,hb3⟩:=Bool.and_eq_true_iff.1 hb;obtain⟨hb1,hb2⟩:=Bool.and_eq_true_iff.1 hb;have hsize:i.size=1:=Nat.eq_of_beq_eq_true hb1;have hbytes:i.bytes<=4096:=Nat.le_of_ble_eq_true hb2;have hql:q≠l:=by intro e;rw [e,Nat.beq_refl]at hb4;cases hb4
 have:=R.hdIs_eq _ _ _ hhd;subst this
 obtain⟨z,hz,hzl⟩: ∃z,i.zero=some z/\(fW z).cells.length =1:=by
  cases hz:i.zero with
  | none=>rw [hz]at hb3;cases hb3
  | some z=>rw [hz]at hb3;exact⟨z,rfl,Nat.eq_of_beq_eq_true hb3⟩
 have hzs:z.cells.size=1:=by
  have:=aI.length (cY V z);rw [Array.length_toList]at this;rw [this,hzl]
 have hsz:bW P e=some 1:=by simp [bW,hti,hsize]
 have hrun: ∀bt,c.callee=.builtin bt-> ∃cs,execOp ρ' o=builtin bt c.argTypes o.type cs (c.args.map ρ'):=by
  intro bt hcl;have h0:execOp ρ' o=(do let d<-resolve ρ' c o.type;invoke d.target d.args):=by simp only [execOp,hop]
  rw [h0];unfold resolve;rw [hcl];exact⟨_,rfl⟩
 obtain⟨cs0,hrun⟩:=hrun _ hcl;have hargs:=gE hρ c.args.toList;have hargs':(c.args.map ρ').toList =c.args.toList.map ρ':=by simp
 rw [<-hargs',hxs]at hargs;obtain⟨s',ys,e1,r1,x',zs,e3,r3,r4⟩:=hargs;have r4':zs=[]:=r4;subst r4' e3;have e2':c.args.map ρ'= #[s',x']:=by apply Array.ext';rw [e1]
 have hty:c.argTypes= #[st,xt]:=by apply Array.ext';rw [hts]
 have hrun:execOp ρ' o=(do Pure.pure (.value (<-Builtin.append_ #[st,xt] o.type #[s',x']))):=by rw [hrun,hty,e2'];rfl
 obtain⟨base,cap,rfl,hcap,hbase⟩:=r1
 have src: ∀d,∃v' base2 cap2,x'=.slice base2 1 cap2/\(Builtin.firstCells 1 1 x').run P {w with drawn:=d} =.ok [v'].toArray {w with drawn:=d} /\Rep V (E.hd q y) v'/\v'.oneCell'=true:=by
  intro d;obtain⟨vs,base2,cap2,q1,q2,q3,q4,q5⟩:=kL hsrc trivial (hi2.drew d) r3;obtain⟨v',vs',rfl,q6,q7⟩: ∃v' vs',vs=v'::vs'/\Rep V (E.hd q y) v'/\aI V [] vs':=q4;have q7':vs'=[]:=q7;subst q7';exact⟨v',base2,cap2,q1,by have:=q2 1 (Nat.le_refl _);simpa using this,q6,q5 v' (by simp)⟩
 have hVn:V h2.length=none:=hf _ (by omega)
 obtain⟨b,k,cs,T,rs,tail,c1,c2,c3,c4,c5,c6⟩:=hi2.snocS R.toRowS (y:=y) hVn hl hen hql;have hll:=cB hl;have hqq:=cB hen
 have hF: ∀en,toF ((h2.set l none).set q none++ [some en])=(((toF h2).put l none).put q none).put h2.length (some en):=by
  intro en;have:=fK ((h2.set l none).set q none) en;rw [fP none (by simpa using hqq),fP none hll]at this
  simpa using this
 have fresh: ∀(x:Nat×Nat) m,((h2.set l none).set q none++ [some (aG.abs (R.row (ws++ [y])) [])]).length <=m->(V.add h2.length x) m=none:=by
  intro x m hm;simp at hm;rw [aKC _ _ (by omega)]
  exact hf m (by omega)
 have grow:cap<n+1->(∀d,(Builtin.firstCells 1 n (.slice base n cap)).run P {w with drawn:=d} =.ok rs.toArray {w with drawn:=d})->
  ∃nx w' V' v v' h2,K v h2/\(execOp ρ' o).run P w=.ok nx w'/\(nx=.value v'\/nx=.skip /\v'=undef)/\Rep V' v v'/\V.le V'/\(∀l,h2.length<=l->V' l=none)/\h.length<=h2.length/\Inv (obI tb) V' (toF h2) hR w'/\bX w w':=fun hlt hfirst=>by
  obtain⟨v',base2,cap2,q1,q2,q3,q4⟩:=src (w.drawn+1);subst q1;obtain⟨ncap,rest,g1,g2,g3⟩:=kJ (ty:=o.type) (row:=rs) (ws:=[v']) (m:=1) h1 h2' hti hz (by rw [hsize];exact q2) hlt hbytes hbig (by rw [hsize];exact hfirst _)
  have hrest:rest.length=ncap - (n+1):=by rw [g2,hzs,Nat.mul_one]
  have hinv:=c6 v' {w with drawn:=w.drawn+1,heap:=w.heap.push (.cells (rs++ [v']++rest).toArray e) } w.heap.size ncap (rs++ [v']++rest).toArray e rest q3 (by simp) (by simp;omega) (by simp) (.inr (by simp))
   (by intro c o hc hh;have hl:=(Array.getElem?_eq_some_iff.1 hh).1;simp only [Array.getElem?_push];rw [if_neg (by omega)];exact hh)
  exact⟨_,{w with drawn:=w.drawn+1,heap:=w.heap.push (.cells (rs++ [v']++rest).toArray e) },V.add h2.length (w.heap.size,ncap),_,_,_,hk2,by rw [hrun];exact dV g3,.inl rfl,⟨_,_,rfl,g1,.inl ⟨_,_,aKa _ _ _,rfl,by omega⟩⟩,aKh hVn,fresh _,by simp;omega,by rw [hF];exact hinv,⟨rfl,rfl,by simp,fun _ _=>dP _ _ _ _⟩⟩
 rcases hbase with⟨b',k',d1,d2,d3⟩ | ⟨d1,d2⟩
 ·rw [c1]at d1;simp only [sI',pI']at d1;obtain⟨rfl,rfl⟩:=d1;have d2':base=some ⟨b,0,none⟩:=by simpa using d2
  subst d2'
  have hfirst: ∀d,(Builtin.firstCells 1 n (.slice (some ⟨b,0,none⟩) n cap)).run P {w with drawn:=d} =.ok rs.toArray {w with drawn:=d} :=by
   intro d;refine dX (w:= {w with drawn:=d}) c2 rs (by omega) ?_
   intro j v hj;rw [<-Array.getElem?_toList,c4,Nat.zero_add,List.getElem?_append_left]
   ·exact hj
   ·exact(List.getElem?_eq_some_iff.1 hj).1
  by_cases hfit:n+1<=cap
  ·obtain⟨v',base2,cap2,q1,q2,q3,q4⟩:=src w.drawn;subst q1;obtain⟨w',cs',s1,s2,s3,s4,s5⟩:=d4 (P:=P) [v'] 0 w b (n*1) cs T c2 (by intro v hv;simp at hv;subst hv;exact q4) (by simp;omega)
   have hap:=jT (ty:=o.type) (a:=⟨b,0,none⟩) h1 h2' hsz q2 hfit (w':=w') (by rw [Addr.add_lit,Nat.zero_add];exact s1)
   have hcs':cs'.toList=(rs++ [v'])++tail.drop 1:=by
    rw [s3,c4];have:n*1+0=rs.length:=by omega
    rw [this];refine rV [v'] rs tail ?_;have:cs.toList.length=rs.length+tail.length:=by rw [c4];simp
    rw [Array.length_toList]at this
    simp;omega
   have hk':cs'.size=k:=by
    rw [<-Array.length_toList,s3,eB,Array.length_toList];exact c3
   have hinv:=c6 v' w' b k cs' T (tail.drop 1) q3 hcs' hk' s2 (.inl rfl) (by intro c o hc hh;rw [s4 c hc];exact hh)
   exact⟨_,w',V.add h2.length (b,k),_,_,_,hk2,by rw [hrun];exact dV hap,.inl rfl,⟨_,cap,rfl,hfit,.inl ⟨b,k,aKa _ _ _,rfl,by omega⟩⟩,aKh hVn,fresh _,by simp;omega,by rw [hF];exact hinv,s5⟩
  ·exact grow (by omega) hfirst
 ·subst d1 d2;have:rs=[]:=List.length_eq_zero_iff.1 (by omega)
  subst this;exact grow (by omega) (fun d=>cC)
end Go.Sh
namespace Go.Sh
open Go
variable [Con] {A:Type} {P:Program} {E:wT A} {tb:A->Nat×aC A}
def tJ(tb:A->Nat×aC A)(P:Program)(B:(Operand->AVal)->Op->aC A->(AVal->aC A->Prop)->Prop):Prop:=
 ∀(ρ:Operand->AVal) (o:Oper) (h:aC A) (K:AVal->aC A->Prop),B ρ o.op h K-> ∀(V:Val) (hR:PHeap) (w:World) (ρ':Operand->Value),Inv (obI tb) V (toF h) hR w->(∀l,h.length<=l->V l=none)->(∀x,Rep V (ρ x) (ρ' x))->
  ∃nx w' V' v v' h2,K v h2/\(execOp ρ' o).run P w=.ok nx w'/\(nx=.value v'\/nx=.skip /\v'=undef)/\Rep V' v v'/\V.le V'/\(∀l,h2.length<=l->V' l=none)/\h.length<=h2.length/\Inv (obI tb) V' (toF h2) hR w'/\bX w w'
def lE.mine(R:lE tb E)(a:A):Bool:=match R.isRow a,R.isHole a with
 | none,none=>false
 | _,_=>true
end Go.Sh
