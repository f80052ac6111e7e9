import Derived.Test.YteindpciaceeeaaGreatZQ9toQH
set_option linter.all false
set_option maxHeartbeats 8000000
namespace Go.Sh
open Go
variable [Con] {A:Type} {P:Program} {E:uQ A} {tb:A->Nat×aC A}
theorem RowS.join(R:RowS tb E){ws us:List E.X}{r x:Nat×Nat}{p q:PHeap}{N:Nat}(f:Nat)(h:obN tb (N+1) (R.row ws) r [] p)(h':obN tb (N+1) (R.row us) x [] q)(hqp:q.disj p){cs2:Array Value}{T2:TypeId}{rs2 tail2:List Value}(d1:q x.1=some (.cells cs2 T2))(d4:cs2.toList=rs2++tail2)(d5:rs2.length=us.length):
 ∃cs T rs tail,p r.1=some (.cells cs T)/\cs.size=r.2/\cs.toList=rs++tail/\rs.length=ws.length/\
  ∀(b' k':Nat) (cs':Array Value) (T':TypeId) (tail':List Value),cs'.toList=(rs++rs2.drop f)++tail'->cs'.size=k'->(b'=r.1\/p b'=none)->q b'=none->
   ∃p',obN tb (N+1) (R.row (ws++us.drop f)) (b',k') [] p'/\ ∀c o,p' c=some o->(c=b'/\o=.cells cs' T')\/(c≠r.1/\p c=some o)\/q c=some o:=by
 obtain⟨U,fs,f1,f2,f3,⟨f4,f5,f6⟩,f7⟩:=h';rw [R.tbRow]at f4;obtain⟨b2,k2,e1,ai,T3,e2,e3,ac,af,e4,e5⟩:=f4 0 _ (show aL (eI E us) 0=some (.cells (fN E 1 us))from rfl)
 have ah:x=(b2,k2):=by have ae:U 0=some (b2,k2):=e1;rw [f1]at ae;simpa using ae
 subst ah
 have aa: ∀j c o,fs j c=some o->q c=some o:=by
  intro j c o hh;rw [f7];exact aLP f6 hh
 have hc:q b2=some (.cells ai T3):=aa 0 b2 _ (by rw [e2];simp [PHeap.one])
 rw [d1]at hc;cases hc;have hl:=aH.length e5;rw [dZ]at hl;have ag:ac=rs2:=by rw [e4]at d4;exact(List.append_inj d4 (hl.trans d5.symm)).1
 subst ag;refine R.glue (us:=us.drop f) (U:=U) (fs:=fs) (rs2:=ac.drop f) h (f+1) ?_ (by rw [List.length_drop,List.length_drop,d5]) ?_ f6 aa hqp
 ·intro j y hy;rw [List.getElem?_drop]at hy;rw [show f+1+j=f+j+1 from by omega]
  exact f4 _ _ (show aL (eI E us) (f+j+1)=some (E.en y) by rw [cJ,hy];rfl)
 ·intro j y v hy hv;rw [List.getElem?_drop]at hy hv;rw [show f+1+j=1+(f+j)from by omega]
  exact aH.at e5 (i:=f+j) (by rw [fS,hy];rfl) hv
theorem Inv.joinS(R:RowS tb E){V:Val}{h:aC A}{hR:PHeap}{w:World}{l q:Nat}{ws us:List E.X}(f:Nat)(hi:Inv (obI tb) V (toF h) hR w)(hn:V h.length=none)
 (hl:aL h l=some (.abs (R.row ws) [])) (hq:aL h q=some (.abs (R.row us) [])) (hql:q≠l) {b k b2 k2:Nat} {cs cs2:Array Value} {T T2:TypeId} {rs tail rs2 tail2:List Value} (hV:V l=some (b,k)) (c3:w.heap[b]? =some (.cells cs T)) (c5:cs.toList=rs++tail) (c6:rs.length=ws.length) (hV2:V q=some (b2,k2)) (d3:w.heap[b2]? =some (.cells cs2 T2)) (d5:cs2.toList=rs2++tail2) (d6:rs2.length=us.length)
 (w':World) (b' k':Nat) (cs':Array Value) (T':TypeId) (tail':List Value) (e1:cs'.toList=(rs++rs2.drop f)++tail') (e2:cs'.size=k') (e3:w'.heap[b']? =some (.cells cs' T')) (e4:b'=b\/w.heap[b']? =none) (e5: ∀c o,c≠b'->w.heap[c]? =some o->w'.heap[c]? =some o):
 Inv (obI tb) (V.add h.length (b',k')) ((((toF h).put l none).put q none).put h.length (some (.abs (R.row (ws++us.drop f)) []))) hR w':=by
 obtain⟨hs,h1,h3,h5,go⟩:=hi.eat hn (cC (Nat.le_refl _));obtain⟨b0,k0,ac,bs,af,N,ae⟩:=h1 l _ hl;rw [hV]at ac;cases ac;have ag:bs=[]:=af;subst ag;obtain⟨b0,k0,ac,bs,af,N2,aa⟩:=h1 q _ hq;rw [hV2]at ac;cases ac;have ag:bs=[]:=af;subst ag;have ae:=oL tb (show N<=max N N2+1 by omega) ae
 have aa:=oL tb (show N2<=max N N2+1 by omega) aa
 have al:hs q b2=some (.cells cs2 T2):=by
  obtain⟨U,fs,f1,f2,f3,⟨f4,f5,f6⟩,f7⟩:=id aa;rw [R.tbRow]at f4;obtain⟨b3,k3,g1,ao,T3,g2,_⟩:=f4 0 _ (show aL (eI E us) 0=some (.cells (fN E 1 us))from rfl)
  have am:(b2,k2)=(b3,k3):=by have ah:U 0=some (b3,k3):=g1;rw [f1]at ah;simpa using ah
  cases am;have hh:hs q b2=some (.cells ao T3):=by rw [f7];exact aLP f6 (l:=0) (by rw [g2];simp [PHeap.one])
  rw [hh];have:=h5 q b2 _ hh;rw [d3]at this;exact this.symm
 obtain⟨ap,T0,aj,ai,a1,a2,a3,a4,a5⟩:=R.join f ae aa (h3 q l hql) al d5 d6;have hc:=h5 l b _ a1;rw [c3]at hc;cases hc
 have ak:aj=rs:=by
  rw [a3]at c5;exact(List.append_inj c5 (a4.trans c6.symm)).1
 subst ak;obtain⟨f1,f2⟩:=aHH (h3 q l hql) a1 (h5 q) (h5 l) e4;obtain⟨p',p1,p2⟩:=a5 b' k' cs' T' tail' e1 e2 f2 f1;rw [<-KZ];exact go [l,q] w' b' k' _ (e4.imp (fun e=>⟨l,by simp,_,e▸a1⟩) id) e3 e5 p' _ ⟨b',k',aLI _ _ _,[],rfl,_,p1⟩ (aHI p2 f1 f2)
def d9.nilAt(R:d9 tb E)(h:aC A)(l:Nat):aC A:=match aL h l with
 | some (.cells [])=>h.set l (some (.abs (R.row []) []))
 | _=>h
theorem d9.nilAt_ok(R:d9 tb E){V:Val}{h:aC A}{hR:PHeap}{w:World}(l:Nat)(hi:Inv (obI tb) V (toF h) hR w):Inv (obI tb) V (toF (R.nilAt h l)) hR w/\(R.nilAt h l).length =h.length:=by
 unfold d9.nilAt;split
 ·rename_i hl;rw [eR _ (cH hl)];refine⟨hi.weaken hl (fun g hg _=>?_),by simp⟩
  obtain⟨b,k,e1,cs,T,rfl,e3,_⟩:=hg;exact⟨b,k,e1,[],rfl,1,R.nil0 0 e3⟩
 ·exact⟨hi,rfl⟩
theorem d9.nilAt_set(R:d9 tb E)(h:aC A)(l:Nat):(R.nilAt h l).set l none=h.set l none:=by
 unfold d9.nilAt;split
 ·exact List.set_set ..
 ·rfl
def TV:aC A->Nat->Option Nat
 | [],_=>none
 | some (.cells [])::_,i=>some i
 | _::h,i=>TV h (i+1)
def aDH(h:aC A):AVal->Option (Nat×Nat)
 | .slice l 0 n 1=>some (l,n)
 | .empty =>(TV h 0).map fun l=>(l,0)
 | _=>none
theorem QY{h:aC A}{x:AVal}{l n:Nat}{V:Val}{v:Value}(hx:aDH h x=some (l,n))(hr:Rep V x v): ∃base cap,v=.slice base n cap/\n<=cap/\((∃b k,V l=some (b,k)/\base=some ⟨b,0,none⟩/\0+cap*1<=k)\/(n=0/\cap=0)):=by
 unfold aDH at hx;split at hx
 ·cases hx;exact hr
 ·cases hi:TV h 0 with
  | none=>rw [hi]at hx;cases hx
  | some j=>
    rw [hi]at hx;cases hx;obtain⟨base,rfl⟩:=hr;exact⟨base,0,rfl,Nat.le_refl _,.inr ⟨rfl,rfl⟩⟩
 ·cases hx
def d9.cat(R:d9 tb E)(P:Program)(ρ:Operand->AVal)(c:Call)(h:aC A):Option (ORes A):=
 match c.callee,c.argTypes.toList,c.args.toList.map ρ with
 | .builtin .append,[st,xt],[x,.slice q f m 1]=>match P.underlying st,P.underlying xt,aDH h x with
   | some (.slice e),some (.slice _),some (l,n)=>match P.info? e,aL (R.nilAt h l) l,aL (R.nilAt h l) q with
     | some i,some (.abs o1 []),some (.abs o2 [])=>match R.isRow o1,R.isRow o2 with
       | some ws,some us=>cond (oneI i&&cond (Nat.beq q l) false true)
          (some {v:=.slice h.length 0 (n+m) 1,upd:=[(l,none),(q,none)],new:=[.abs (R.row (ws++us.drop f)) []],foot:=[l,q],need:=some (n=ws.length/\f+m=us.length/\n+m<=4294967296) }) none
       | _,_=>none
     | _,_,_=>none
   | _,_,_=>none
 | _,_,_=>none
theorem EZ(hone: ∀(q:Nat) (y:E.X) (v:Value) (V:Val),Rep V (E.hd q y) v->v.oneCell'=true): ∀(us:List E.X) (k:Nat) (U:Val) (rs:List Value),aH U (fN E k us) rs-> ∀v∈rs,v.oneCell'=true
 | [],k,U,rs,h=>by
   have h:rs=[]:=h;subst h;simp
 | y::us,k,U,rs,h=>by
   obtain⟨v,vs,rfl,h1,h2⟩:=h;intro v' hv;rcases List.mem_cons.1 hv with rfl | hv
   ·exact hone _ _ _ _ h1
   ·exact EZ hone us _ U vs h2 v' hv
theorem d9.cat_ok(R:d9 tb E)(hone: ∀(V:Val) (q:Nat) (y:E.X) (v:Value),Rep V (E.hd q y) v->v.oneCell'=true/\v.cells= #[v]){ρ:Operand->AVal}{o:Oper}{c:Call}(hop:o.op=.call c){h0:aC A}{r:ORes A}(hr:R.cat P ρ c h0=some r)(ho:r.obl)(V:Val)(hR:PHeap)(w:World)(ρ':Operand->Value)(hi:Inv (obI tb) V (toF h0) hR w)(hf:gT V h0.length r.new.length)(hρ: ∀x,Rep V (ρ x) (ρ' x)):
 dG (obI tb) P V h0.length hR w r.v (toF (r.apply h0)) r.new.length (execOp ρ' o):=by
 unfold d9.cat at hr;split at hr
 case h_2=>cases hr
 rename_i st xt x q f m a8 av au;split at hr
 case h_2=>cases hr
 rename_i e e2 l n h1 bb a7;have af:=R.nilAt_set h0 l;obtain⟨hi,aa⟩:=R.nilAt_ok l hi;generalize R.nilAt h0 l=h at hr hi af aa;split at hr
 case h_2=>cases hr
 rename_i i o1 o2 ax hl hq;split at hr
 case h_2=>cases hr
 rename_i ws us hw hu;have:=R.isRow_eq _ _ hw;subst this;have:=R.isRow_eq _ _ hu;subst this;cases hb:(oneI i&&cond (Nat.beq q l) false true)with
 | false=>rw [hb]at hr;cases hr
 | true=>
 rw [hb]at hr;simp only [cond_true,sI']at hr;subst hr;obtain⟨hn,hm,am⟩:=ho;obtain⟨ho,ao⟩:=Bool.and_eq_true_iff.1 hb;have az:q≠l:=by intro e;rw [e,Nat.beq_refl]at ao;cases ao
 obtain⟨s',x',r1,r3,aj⟩:=sU hop a8 av au hρ;obtain⟨base,cap,rfl,bd,ah⟩:=QY a7 r1;obtain⟨ai,aq,rfl,ba,ae⟩:=r3;have ap:V h.length=none:=by rw [aa];exact hf _ (Nat.le_refl _) (by simp)
 obtain⟨b,k,c1,cs,T,rs,tail,c3,c4,c5,c6,_⟩:=hi.root R.toRowS hl;obtain⟨b2,k2,d1,bf,T2,ac,ar,d3,d4,d5,d6,U,hU⟩:=hi.root R.toRowS hq
 have src: ∀d,∃vs,vs.length=m/\(∀v∈vs,v.oneCell'=true)/\vs=ac.drop f/\(Builtin.firstCells 1 m (.slice ai m aq)).run P {w with drawn:=d} =.ok vs.toArray {w with drawn:=d} :=by
  intro d;have al:(ac.drop f).length =m:=by rw [List.length_drop];omega
  refine⟨_,al,fun v hv=>EZ (fun q y v V h=>(hone V q y v h).1) _ _ _ _ hU v (List.mem_of_mem_drop hv),rfl,?_⟩;rcases ae with⟨b',k',x1,x2,x3⟩ | ⟨x1,x2⟩
  ·rw [d1]at x1;cases x1;subst x2;refine dN (w:= {w with drawn:=d}) d3 (ac.drop f) omz ?_
   intro j v hj;rw [List.getElem?_drop]at hj;rw [<-Array.getElem?_toList,d5,List.getElem?_append_left (List.getElem?_eq_some_iff.1 hj).1];exact hj
  ·subst x1;have:ac.drop f=[]:=List.length_eq_zero_iff.1 al;rw [this];exact cA
 obtain⟨v',w',b',k',bc,T',ag,vs,t1,rfl,t3,t4,t5,t6,t7,t8,t9⟩:=tR (P:=P) (ty:=o.type) h1 bb ax ho omz am (by
  rcases ah with⟨b',k',x1,x2,x3⟩ | x
  ·rw [c1]at x1;cases x1;exact .inl ⟨x2,by omega⟩
  ·exact .inr x) c3 c4 c5 src
 have ak:=hi.joinS R.toRowS f ap hl hq az c1 c3 c5 c6 d1 d3 d5 d6 w' b' k' bc T' ag t3 t4 t5 t6 t7;have a6:=cH hl;have ay:=cH hq;refine⟨_,w',V.add h.length (b',k'),v',by rw [aj];exact t1,.inl rfl,aLO ap,?_,by rw [<-aa];exact t8 _ _ (aLI _ _ _),?_,t9⟩
 ·intro l h2 h3;rw [<-aa];exact iS l h2 h3
 ·have e1:ORes.apply {v:=.slice h0.length 0 (n+m) 1,upd:=[(l,none),(q,none)],new:=[.abs (R.row (ws++us.drop f)) []],foot:=[l,q],need:=some (n=ws.length/\f+m=us.length/\n+m<=4294967296) } h0=(h.set l none).set q none++ [some (.abs (R.row (ws++us.drop f)) [])]:=by rw [af];rfl
  have e2:=fO ((h.set l none).set q none) (.abs (R.row (ws++us.drop f)) []);rw [eR none (by simpa using ay),eR none a6]at e2
  have e3:((h.set l none).set q none).length =h.length:=by simp
  rw [e1,e2,e3];exact ak
def d9.catB(R:d9 tb E)(P:Program)(B:(Operand->AVal)->Op->aC A->Option (ORes A))(ρ:Operand->AVal)(op:Op)(h:aC A):Option (ORes A):=
 match op with
 | .call c=>match R.cat P ρ c h with
   | some r=>some r
   | none=>B ρ (.call c) h
 | op=>B ρ op h
theorem d9.catB_congr(R:d9 tb E){B:(Operand->AVal)->Op->aC A->Option (ORes A)}(hB:nS B):nS (R.catB P B):=by
 intro ρ ρ2 op h hρ;cases op
 case call c=>
  have e1:c.args.toList.map ρ=c.args.toList.map ρ2:=gA _ (fun x hx=>hρ x (by simp [Op.operands,Call.operands];right;simpa using hx))
  have e2:R.cat P ρ c h=R.cat P ρ2 c h:=by unfold d9.cat;rw [e1]
  simp only [d9.catB];rw [e2,hB ρ ρ2 (.call c) h hρ]
 all_goals (simp only [d9.catB];exact hB _ _ _ _ hρ)
theorem d9.catB_ok(R:d9 tb E)(hone: ∀(V:Val) (q:Nat) (y:E.X) (v:Value),Rep V (E.hd q y) v->v.oneCell'=true/\v.cells= #[v]){B:(Operand->AVal)->Op->aC A->Option (ORes A)}(hB:rA tb P B):rA tb P (R.catB P B):=by
 intro ρ o h r hr ho V hR w ρ' hi hf hρ;unfold d9.catB at hr;split at hr
 ·rename_i c aa;split at hr
  ·rename_i r' ac;simp only [sI']at hr;subst hr;exact R.cat_ok hone aa ac ho V hR w ρ' hi hf hρ
  ·exact hB ρ o h r (by rw [aa];exact hr) ho V hR w ρ' hi hf hρ
 ·exact hB ρ o h r hr ho V hR w ρ' hi hf hρ
end Go.Sh
