import Derived.Test.YteindpciaceeeaaGreatZSh14toSh37b
set_option linter.all false
set_option maxHeartbeats 8000000
namespace Go.Sh
open Go
variable [Con] {A:Type} {P:Program} {E:uQ A} {tb:A->Nat×aC A}
theorem Inv.eat{I:Itp A}{V:Val}{h:bE A}{hR:PHeap}{w:World}(hi:Inv I V h hR w){k0:Nat}(hn:V k0=none)(hk:h k0=none):
 ∃hs:Nat->PHeap,(∀m e,h m=some e->e.interp I V m (hs m))/\(∀m m',m≠m'->(hs m).disj (hs m'))/\(∀m c o,hs m c=some o->w.heap[c]? =some o)/\
  ∀(il:List Nat) (w':World) (b' k':Nat) (o':Obj),((∃m,m∈il/\ ∃o,hs m b'=some o)\/w.heap[b']? =none)->w'.heap[b']? =some o'->(∀c o,c≠b'->w.heap[c]? =some o->w'.heap[c]? =some o)->
   ∀(p':PHeap) (en:aG A),en.interp I (V.add k0 (b',k')) k0 p'->(∀c o,p' c=some o->(c=b'/\o=o')\/(c≠b'/\ ∃m,m∈il/\hs m c=some o))->
    Inv I (V.add k0 (b',k')) (fun m=>if m=k0 then some en else if m∈il then none else h m) hR w':=by
 obtain⟨hs,h1,h2,h3,h4,h5,h6⟩:=hi;refine⟨hs,h1,h3,h5,?_⟩;intro il w' b' k' o' hb hw ae p' en ah hp
 have out: ∀m,m∉il->hs m b'=none:=by
  intro m hm;rcases hb with⟨m2,e1,o,e2⟩ | e
  ·rcases h3 m m2 (fun e=>hm (e▸e1)) b' with d | d
   ·exact d
   ·rw [d]at e2;cases e2
  ·cases hh:hs m b' with
   | none=>rfl
   | some o=>have:=h5 m b' o hh;rw [e]at this;cases this
 have ac:hR b'=none:=by
  rcases hb with⟨m2,e1,o,e2⟩ | e
  ·rcases h4 m2 b' with d | d
   ·rw [d]at e2;cases e2
   ·exact d
  ·cases hh:hR b' with
   | none=>rfl
   | some o=>have:=h6.1 b' o hh;rw [e]at this;cases this
 have ag:=aLO (x:=(b',k')) hn
 let aa:Nat->PHeap:=fun m=>if m=k0 then p' else if m∈il then .emp else hs m
 have val: ∀m,aa m=(if m=k0 then p' else if m∈il then .emp else hs m):=fun _=>rfl
 have part: ∀m,m≠k0->(aa m).disj p':=by
  intro m m1 c;rw [val,if_neg m1];split
  ·exact .inl rfl
  ·rename_i m2;cases hq:p' c with
   | none=>exact .inr rfl
   | some o=>
     left;rcases hp c o hq with⟨d,_⟩ | ⟨_,m3,e1,e2⟩
     ·rw [d];exact out m m2
     ·rcases h3 m m3 (fun e=>m2 (e▸e1)) c with d | d
      ·exact d
      ·rw [d]at e2;cases e2
 refine⟨aa,?_,?_,?_,?_,?_,?_,h6.2⟩
 ·intro m e he;rw [val];dsimp only at he;split at he
  ·rename_i e1;subst e1;cases he;rw [if_pos rfl];exact ah
  ·rename_i m1;rw [if_neg m1];split at he
   ·cases he
   ·rename_i m2;rw [if_neg m2];exact aLR ag (h1 m e he)
 ·intro m he;rw [val];dsimp only at he;split at he
  ·cases he
  ·rename_i m1;rw [if_neg m1];split at he
   ·rename_i m2;rw [if_pos m2]
   ·rename_i m2;rw [if_neg m2];exact h2 m he
 ·intro m m' af
  by_cases m1:m=k0
  ·have:aa m=p':=by rw [val,if_pos m1]
   rw [this];exact(part m' (fun e=>af (m1.trans e.symm))).symm
  ·by_cases m2:m'=k0
   ·have:aa m'=p':=by rw [val,if_pos m2]
    rw [this];exact part m m1
   ·rw [val,val,if_neg m1,if_neg m2];split
    ·exact fun c=>.inl rfl
    ·split
     ·exact fun c=>.inr rfl
     ·exact h3 m m' af
 ·intro m c;rw [val];split
  ·cases hq:p' c with
   | none=>exact .inl rfl
   | some o=>
     right;rcases hp c o hq with⟨d,_⟩ | ⟨_,m3,_,e2⟩
     ·rw [d];exact ac
     ·rcases h4 m3 c with d | d
      ·rw [d]at e2;cases e2
      ·exact d
  ·split
   ·exact .inl rfl
   ·exact h4 m c
 ·intro m c o hh;rw [val]at hh;split at hh
  ·rcases hp c o hh with⟨d,d2⟩ | ⟨d,m3,_,e2⟩
   ·rw [d,d2];exact hw
   ·exact ae c o d (h5 m3 c o e2)
  ·split at hh
   ·cases hh
   ·rename_i m2;refine ae c o ?_ (h5 m c o hh);intro e;subst e;rw [out m m2]at hh;cases hh
 ·intro c o hh;refine ae c o ?_ (h6.1 c o hh);intro e;rw [e,ac]at hh;cases hh
theorem KZ{h:aC A}{l q:Nat}(en:aG A):(fun m=>if m=h.length then some en else if m∈ [l,q]then none else toF h m)=((((toF h).put l none).put q none).put h.length (some en)):=by
 funext m;unfold bE.put
 by_cases m1:m=h.length
 ·rw [if_pos m1,if_pos m1]
 ·rw [if_neg m1,if_neg m1]
  by_cases m2:m=q
  ·rw [if_pos (by simp [m2]),if_pos m2]
  ·rw [if_neg m2]
   by_cases m3:m=l
   ·rw [if_pos (by simp [m3]),if_pos m3]
   ·rw [if_neg (by simp [m2,m3]),if_neg m3]
theorem aHH{p q:PHeap}{w:World}{b b':Nat}{o0:Obj}(hd:q.disj p)(hb:p b=some o0)(hq: ∀c o,q c=some o->w.heap[c]? =some o)(hp: ∀c o,p c=some o->w.heap[c]? =some o)(h:b'=b\/w.heap[b']? =none):q b'=none/\(b'=b\/p b'=none):=by
 rcases h with e | e
 ·subst e;refine⟨?_,.inl rfl⟩;rcases hd b' with d | d
  ·exact d
  ·rw [hb]at d;cases d
 ·refine⟨?_,.inr ?_⟩
  ·cases hh:q b' with
   | none=>rfl
   | some o=>have:=hq b' o hh;rw [e]at this;cases this
  ·cases hh:p b' with
   | none=>rfl
   | some o=>have:=hp b' o hh;rw [e]at this;cases this
theorem aHI{hs:Nat->PHeap}{l q b b':Nat}{o':Obj}{p':PHeap}(h: ∀c o,p' c=some o->(c=b'/\o=o')\/(c≠b/\hs l c=some o)\/hs q c=some o)(f1:hs q b'=none)(f2:b'=b\/hs l b'=none): ∀c o,p' c=some o->(c=b'/\o=o')\/(c≠b'/\ ∃m,m∈ [l,q]/\hs m c=some o):=by
 intro c o hc;rcases h c o hc with d | ⟨d0,d⟩ | d
 ·exact .inl d
 ·refine .inr ⟨?_,l,by simp,d⟩
  intro e;rcases f2 with f | f
  ·exact d0 (e.trans f)
  ·rw [<-e]at f;rw [f]at d;cases d
 ·refine .inr ⟨?_,q,by simp,d⟩
  intro e;rw [<-e]at f1;rw [f1]at d;cases d
theorem Inv.root(R:RowS tb E){V:Val}{h:aC A}{hR:PHeap}{w:World}{l:Nat}{ws:List E.X}(hi:Inv (obI tb) V (toF h) hR w)(hl:aL h l=some (.abs (R.row ws) [])):
 ∃b k,V l=some (b,k)/\ ∃cs T rs tail,w.heap[b]? =some (.cells cs T)/\cs.size=k/\cs.toList=rs++tail/\rs.length=ws.length/\ ∃U:Val,aH U (fN E 1 ws) rs:=by
 obtain⟨hs,h1,h2,h3,h4,h5,h6⟩:=hi;obtain⟨b,k,hV,bs,ag,N,ac⟩:=h1 l _ hl;cases N with
 | zero=>exact ac.elim
 | succ N=>
 obtain⟨U,gs,g1,g2,g3,⟨g4,g5,g6⟩,g7⟩:=ac;rw [R.tbRow]at g4;obtain⟨b2,k2,c1,cs,T,c2,c3,rs,tail,c4,c5⟩:=g4 0 _ (show aL (eI E ws) 0=some (.cells (fN E 1 ws))from rfl)
 have af:(b,k)=(b2,k2):=by have ae:U 0=some (b2,k2):=c1;rw [g1]at ae;simpa using ae
 cases af;have aa:=aH.length c5;rw [dZ]at aa;refine⟨b,k,hV,cs,T,rs,tail,h5 l b _ ?_,c3,c4,aa,U,c5⟩;rw [g7];exact aLP g6 (l:=0) (by rw [c2];simp [PHeap.one])
theorem Inv.snocS(R:RowS tb E){V:Val}{h:aC A}{hR:PHeap}{w:World}{l q:Nat}{ws:List E.X}{y:E.X}(hi:Inv (obI tb) V (toF h) hR w)(hn:V h.length=none)
 (hl:aL h l=some (.abs (R.row ws) [])) (hq:aL h q=some (E.en y)) (hql:q≠l) {v:Value} (hv:Rep V (E.hd q y) v) {b k:Nat} {cs:Array Value} {T:TypeId} {rs tail:List Value} (hV:V l=some (b,k)) (c3:w.heap[b]? =some (.cells cs T)) (c5:cs.toList=rs++tail) (c6:rs.length=ws.length/\ ∃U:Val,aH U (fN E 1 ws) rs)
 (w':World) (b' k':Nat) (cs':Array Value) (T':TypeId) (tail':List Value) (e1:cs'.toList=(rs++ [v])++tail') (e2:cs'.size=k') (e3:w'.heap[b']? =some (.cells cs' T')) (e4:b'=b\/w.heap[b']? =none) (e5: ∀c o,c≠b'->w.heap[c]? =some o->w'.heap[c]? =some o):
 Inv (obI tb) (V.add h.length (b',k')) ((((toF h).put l none).put q none).put h.length (some (.abs (R.row (ws++ [y])) []))) hR w':=by
 obtain⟨hs,h1,h3,h5,go⟩:=hi.eat hn (cC (Nat.le_refl _));obtain⟨b0,k0,af,bs,ak,N,aj⟩:=h1 l _ hl;rw [hV]at af;cases af;have am:bs=[]:=ak;subst am;have ae:=h1 q _ hq;obtain⟨N2,aa⟩:=m9 ae;obtain⟨x,hx⟩:=qO aa;have ac:=oL tb (show N<=max N N2+1 by omega) aj
 have al:EnAt tb (max N N2) (E.en y) x (hs q):=fun V2 l2 e2=>R.enLoc _ V V2 q l2 y _ (hx.trans e2.symm) (aLU (fun t r bs p h=>oL tb (Nat.le_max_right N N2) h) aa);obtain⟨ao,T0,ah,ag,a1,a2,a3,a4,a5⟩:=R.snoc ac al (h3 q l hql) (fun V2 l2 e=>R.hdRep V V2 q l2 y v (hx.trans e.symm) hv);have hc:=h5 l b _ a1;rw [c3]at hc;cases hc
 have ai:ah=rs:=by
  rw [a3]at c5;exact(List.append_inj c5 (a4.trans c6.1.symm)).1
 subst ai;obtain⟨f1,f2⟩:=aHH (h3 q l hql) a1 (h5 q) (h5 l) e4;obtain⟨p',p1,p2⟩:=a5 b' k' cs' T' tail' e1 e2 f2 f1;rw [<-KZ];exact go [l,q] w' b' k' _ (e4.imp (fun e=>⟨l,by simp,_,e▸a1⟩) id) e3 e5 p' _ ⟨b',k',aLI _ _ _,[],rfl,_,p1⟩ (aHI p2 f1 f2)
end Go.Sh
namespace Go.Sh
open Go
variable [Con] {A:Type} {P:Program} {E:uQ A} {tb:A->Nat×aC A}
structure d9 (tb:A->Nat×aC A) (E:uQ A) extends RowS tb E where
 get:List E.X->Nat->E.X
 get_eq: ∀ws i,i<ws.length->ws[i]? =some (get ws i)
 lab:AVal->Option Nat
 hdIs:Nat->E.X->AVal->Prop
 hdIs_eq: ∀q y v,hdIs q y v->v=E.hd q y
def d9.settle(R:d9 tb E)(l:Nat)(h:aC A)(K:List E.X->aC A->Prop):Prop:=
 match aL h l with
 | some (.abs a [])=>match R.isRow a with
   | some ws=>K ws h
   | none=>False
 | some (.abs a [k])=>match R.isHole a with
   | some (ws,i)=>match aL h k with
     | some e=>match R.rd e with
       | some y=>cond (Nat.beq k l) False ((i<ws.length/\y=R.get ws i)/\K ws ((h.set l (some (.abs (R.row ws) []))).set k none))
       | none=>False
     | none=>False
   | none=>False
 | _=>False
theorem d9.settle_ok(R:d9 tb E){l:Nat}{h:aC A}{K:List E.X->aC A->Prop}(hk:R.settle l h K){V:Val}{hR:PHeap}{w:World}(hi:Inv (obI tb) V (toF h) hR w):
 ∃ws h2,K ws h2/\h2.length=h.length/\aL h2 l=some (.abs (R.row ws) [])/\Inv (obI tb) V (toF h2) hR w:=by
 unfold d9.settle at hk;split at hk
 ·rename_i a hl;split at hk
  case h_2=>exact hk.elim
  rename_i ws hr;have:=R.isRow_eq _ _ hr;subst this;exact⟨ws,h,hk,rfl,hl,hi⟩
 ·rename_i a k hl;split at hk
  case h_2=>exact hk.elim
  rename_i ws i hr;have:=R.isHole_eq _ _ _ hr;subst this;split at hk
  case h_2=>exact hk.elim
  rename_i e he;split at hk
  case h_2=>exact hk.elim
  rename_i y hy;have:=R.rd_eq _ _ hy;subst this;cases hb:Nat.beq k l with
  | true=>rw [hb]at hk;exact hk.elim
  | false=>
    rw [hb]at hk;obtain⟨⟨ag,rfl⟩,hk⟩:=hk;have ac:k≠l:=by intro e;rw [e,Nat.beq_refl]at hb;cases hb
    have af:=cH hl;have h0:=R.get_eq ws i ag;have ae:=hi.backS R.toRowS h0 (fun _=>rfl) hl he ac
    have aa:ws.set i (R.get ws i)=ws:=by
     apply List.ext_getElem?;intro j;rw [List.getElem?_set];split
     ·rename_i e;subst e;exact h0.symm
     ·rfl
    rw [aa]at ae;refine⟨ws,_,hk,by simp,?_,ae⟩
    simp only [aL,gD'];rw [List.getElem?_set_ne ac,List.getElem?_set_self af];rfl
 ·exact hk.elim
def d9.load(R:d9 tb E)(P:Program)(ρ:Operand->AVal)(op:Op)(h:aC A)(K:AVal->aC A->Prop):Prop:=
 match op with
 | .load t a=>match ρ a,eZ P t with
   | .ptr l off,some false=>R.settle l h fun ws h2=>off<ws.length/\K (E.hd h2.length (R.get ws off)) (h2.set l (some (.abs (R.hole ws off) [h2.length]))++ [some (E.en (R.get ws off))])
   | _,_=>False
 | _=>False
theorem d9.load_ok(R:d9 tb E)(ρ:Operand->AVal)(o:Oper)(h:aC A)(K:AVal->aC A->Prop)(hk:R.load P ρ o.op h K)(V:Val)(hR:PHeap)(w:World)(ρ':Operand->Value)(hi:Inv (obI tb) V (toF h) hR w)(hf: ∀l,h.length<=l->V l=none)(hρ: ∀x,Rep V (ρ x) (ρ' x)):
 ∃nx w' V' v v' h2,K v h2/\(execOp ρ' o).run P w=.ok nx w'/\(nx=.value v'\/nx=.skip /\v'=undef)/\Rep V' v v'/\V.le V'/\(∀l,h2.length<=l->V' l=none)/\h.length<=h2.length/\Inv (obI tb) V' (toF h2) hR w'/\bP w w':=by
 unfold d9.load at hk;split at hk
 case h_2=>exact hk.elim
 rename_i t a af;split at hk
 case h_2=>exact hk.elim
 rename_i l off hρa aj;have hx:=hρ a;rw [hρa]at hx;obtain⟨ws,h2,⟨ag,hk⟩,ak,hl,ah⟩:=R.settle_ok hk hi;obtain⟨b,k,hV,hx⟩:=hx;have ai:bO V h2.length:=by intro m hm;exact hf m omz
 obtain⟨V',y,b',k',cs,T,v,a1,a2,a3,a4,a5,a6,a7,a8⟩:=ah.lendS R.toRowS ai hl (R.get_eq ws off ag);rw [hV]at a5;simp only [sI',pI']at a5;obtain⟨rfl,rfl⟩:=a5
 have ac:cs.toList.drop off=[v]++cs.toList.drop (off+1):=by
  obtain⟨aa,ae⟩:=List.getElem?_eq_some_iff.1 a7;rw [<-ae];exact List.drop_eq_getElem_cons aa
 obtain⟨v',g1,g2⟩:=hJ (P:=P) (V:=V') (t:=t) (av:=[E.hd h2.length (R.get ws off)]) (v:=E.hd h2.length (R.get ws off)) a6 ac ⟨_,[],rfl,a8 V' _ a4,rfl⟩ (by unfold fI;rw [aj];rfl)
 exact⟨_,w,V',_,v',_,hk,by simp [execOp,af,hx,g1],.inl rfl,g2,a1,fun m hm=>a2 m (by simpa using hm),by simp;omega,a3,aLS w⟩
theorem sU{V:Val}{ρ:Operand->AVal}{ρ':Operand->Value}{o:Oper}{c:Call}{st xt:TypeId}{s x:AVal}(hop:o.op=.call c)(hcl:c.callee=.builtin .append)(hts:c.argTypes.toList=[st,xt])(hxs:c.args.toList.map ρ=[s,x])(hρ: ∀x,Rep V (ρ x) (ρ' x)):
 ∃s' x',Rep V s s'/\Rep V x x'/\execOp ρ' o=(do Pure.pure (.value (<-Builtin.append_ #[st,xt] o.type #[s',x']))):=by
 have aa: ∀bt,c.callee=.builtin bt-> ∃cs,execOp ρ' o=builtin bt c.argTypes o.type cs (c.args.map ρ'):=by
  intro bt hcl;have h0:execOp ρ' o=(do let d<-resolve ρ' c o.type;invoke d.target d.args):=by simp only [execOp,hop]
  rw [h0];unfold resolve;rw [hcl];exact⟨_,rfl⟩
 obtain⟨ai,aa⟩:=aa _ hcl;have ac:=jN hρ c.args.toList;have ae:(c.args.map ρ').toList =c.args.toList.map ρ':=by simp
 rw [<-ae,hxs]at ac;obtain⟨s',ys,e1,r1,x',zs,e3,r3,r4⟩:=ac;have af:zs=[]:=r4;subst af e3;have ah:c.args.map ρ'= #[s',x']:=by apply Array.ext';rw [e1]
 have ag:c.argTypes= #[st,xt]:=by apply Array.ext';rw [hts]
 exact⟨s',x',r1,r3,by rw [aa,ag,ah];rfl⟩
def oneI(i:TypeInfo):Bool:=Nat.beq i.size 1&&Nat.ble i.bytes 4096&&(match i.zero with | some z=>Nat.beq (jL z).cells.length 1 | none=>false)
theorem KO{i:TypeInfo}(h:oneI i=true):i.size=1/\i.bytes<=4096/\ ∃z,i.zero=some z/\z.cells.size=1:=by
 obtain⟨hb,aa⟩:=Bool.and_eq_true_iff.1 h;obtain⟨ae,ac⟩:=Bool.and_eq_true_iff.1 hb;refine⟨Nat.eq_of_beq_eq_true ae,Nat.le_of_ble_eq_true ac,?_⟩;cases hz:i.zero with
 | none=>rw [hz]at aa;cases aa
 | some z=>
   rw [hz]at aa;refine⟨z,rfl,?_⟩;have:=aH.length (dI (fun _=>none) z);rw [Array.length_toList]at this;rw [this,Nat.eq_of_beq_eq_true aa]
def I4(P:Program)(s:Sem Next)(w:World)(b n m:Nat)(rs:List Value)(Q:List Value->Prop):Prop:= ∃v' w' b' k' cs' T' tail' vs,s.run P w=.ok (.value v') w'/\Q vs/\cs'.toList=(rs++vs)++tail'/\cs'.size=k'/\w'.heap[b']? =some (.cells cs' T')/\(b'=b\/w.heap[b']? =none)/\(∀c o,c≠b'->w.heap[c]? =some o->w'.heap[c]? =some o)/\
 (∀(V:Val) (l:Nat),V l=some (b',k')->Rep V (.slice l 0 (n+m) 1) v')/\bP w w'
theorem tR{P:Program}{st xt ty e e2:TypeId}{i:TypeInfo}{base base2:Option Addr}{n m cap cap2 b k:Nat}{w:World}{cs:Array Value}{T:TypeId}{rs tail:List Value}{Q:List Value->Prop}(h1:P.underlying st=some (.slice e))(h2:P.underlying xt=some (.slice e2))(hti:P.info? e=some i)(ho:oneI i=true)
 (hn:n=rs.length) (hbig:n+m<=4294967296) (hbase:(base=some ⟨b,0,none⟩/\0+cap*1<=k)\/(n=0/\cap=0)) (c2:w.heap[b]? =some (.cells cs T)) (c3:cs.size=k) (c4:cs.toList=rs++tail)
 (src: ∀d,∃vs,vs.length=m/\(∀v∈vs,v.oneCell'=true)/\Q vs/\(Builtin.firstCells 1 m (.slice base2 m cap2)).run P {w with drawn:=d} =.ok vs.toArray {w with drawn:=d}):
 I4 P (do Pure.pure (.value (<-Builtin.append_ #[st,xt] ty #[.slice base n cap,.slice base2 m cap2]))) w b n m rs Q:=by
 obtain⟨ac,ae,z,hz,ak⟩:=KO ho;have ah:bW P e=some 1:=by simp [bW,hti,ac]
 have grow:cap<n+m->(∀d,(Builtin.firstCells 1 n (.slice base n cap)).run P {w with drawn:=d} =.ok rs.toArray {w with drawn:=d})->I4 P (do Pure.pure (.value (<-Builtin.append_ #[st,xt] ty #[.slice base n cap,.slice base2 m cap2]))) w b n m rs Q:=fun ao aa=>by
  obtain⟨vs,q1,q2,q3,q4⟩:=src (w.drawn+1);obtain⟨af,rest,g1,g2,g3⟩:=lL (ty:=ty) (row:=rs) (ws:=vs) (m:=m) h1 h2 hti hz (by rw [ac];exact q4) ao ae hbig (by rw [ac];exact aa _)
  have al:rest.length=af - (n+m):=by rw [g2,ak,Nat.mul_one]
  exact⟨_,{w with drawn:=w.drawn+1,heap:=w.heap.push (.cells (rs++vs++rest).toArray e) },w.heap.size,af,(rs++vs++rest).toArray,e,rest,vs,dL g3,q3,by simp,by simp;omega,by simp,.inr (by simp),
   by intro c o hc hh;have hl:=(Array.getElem?_eq_some_iff.1 hh).1;simp only [Array.getElem?_push];rw [if_neg omz];exact hh,
   fun V l hV=>⟨_,_,rfl,g1,.inl ⟨_,_,hV,rfl,by omega⟩⟩,⟨rfl,rfl,by simp,fun _ _=>d7 _ _ _ _⟩⟩
 rcases hbase with⟨d2,d3⟩ | ⟨d1,d2⟩
 ·subst d2
  have aa: ∀d,(Builtin.firstCells 1 n (.slice (some ⟨b,0,none⟩) n cap)).run P {w with drawn:=d} =.ok rs.toArray {w with drawn:=d} :=by
   intro d;refine dN (w:= {w with drawn:=d}) c2 rs omz ?_
   intro j v hj;rw [<-Array.getElem?_toList,c4,Nat.zero_add,List.getElem?_append_left]
   ·exact hj
   ·exact(List.getElem?_eq_some_iff.1 hj).1
  by_cases ag:n+m<=cap
  ·obtain⟨vs,q1,q2,q3,q4⟩:=src w.drawn;have aq:cs.size=rs.length+tail.length:=by rw [<-Array.length_toList,c4];simp
   obtain⟨w',aj,s1,s2,s3,s4,s5⟩:=eG (P:=P) vs 0 w b (n*1) cs T c2 q2 omz;have ap:=iK (ty:=ty) (a:=⟨b,0,none⟩) h1 h2 ah q4 ag (w':=w') (by rw [Addr.add_lit,Nat.zero_add];exact s1)
   have ai:aj.toList=(rs++vs)++tail.drop vs.length:=by
    rw [s3,c4];have:n*1+0=rs.length:=by omega
    rw [this];exact tF vs rs tail omz
   exact⟨_,w',b,k,aj,T,_,vs,dL ap,q3,ai,by rw [<-Array.length_toList,s3,eP,Array.length_toList];exact c3,s2,.inl rfl,by intro c o hc hh;rw [s4 c hc];exact hh,fun V l hV=>⟨_,cap,rfl,ag,.inl ⟨b,k,hV,rfl,by omega⟩⟩,s5⟩
  ·exact grow omz aa
 ·subst d1 d2;have:rs=[]:=List.length_eq_zero_iff.1 omz;subst this
  by_cases am:m=0
  ·subst am;obtain⟨vs,q1,q2,q3,q4⟩:=src w.drawn;have:vs=[]:=List.length_eq_zero_iff.1 q1;subst this;refine⟨.slice base 0 0,w,b,k,cs,T,tail,[],?_,q3,c4,c3,c2,.inl rfl,fun _ _ _ h=>h,fun V l hV=>⟨_,0,rfl,Nat.le_refl _,.inr ⟨rfl,rfl⟩⟩,aLS w⟩;cases base with
   | none=>exact dL (gD (ty:=ty) h1 h2 ah q4 (Nat.le_refl _))
   | some a=>exact dL (iK (ty:=ty) h1 h2 ah q4 (Nat.le_refl _) (by simp [storeCells]))
  ·exact grow omz (fun d=>cA)
def d9.app(R:d9 tb E)(P:Program)(ρ:Operand->AVal)(op:Op)(h:aC A)(K:AVal->aC A->Prop):Prop:=
 match op with
 | .call c=>match c.callee,c.argTypes.toList,c.args.toList.map ρ with
   | .builtin .append,[st,xt],[.slice l off n sz,x]=>match P.underlying st,P.underlying xt with
     | some (.slice e),some (.slice _)=>match P.info? e with
       | some i=>R.settle l h fun ws h2=>match lM x 1 h2 with
         | some (.cells [v],m,_,none)=>match R.lab v with
           | some q=>match aL h2 q with
             | some en=>match R.rd en with
               | some y=>cK (oneI i&&cond (Nat.beq q l) false true)
                  ((m=1/\off=0/\sz=1/\n=ws.length/\n+1<=4294967296/\R.hdIs q y v)/\K (.slice h2.length 0 (n+1) 1) ((h2.set l none).set q none++ [some (.abs (R.row (ws++ [y])) [])]))
               | none=>False
             | none=>False
           | none=>False
         | _=>False
       | none=>False
     | _,_=>False
   | _,_,_=>False
 | _=>False
theorem d9.app_ok(R:d9 tb E)(ρ:Operand->AVal)(o:Oper)(h:aC A)(K:AVal->aC A->Prop)(hk:R.app P ρ o.op h K)(V:Val)(hR:PHeap)(w:World)(ρ':Operand->Value)(hi:Inv (obI tb) V (toF h) hR w)(hf: ∀l,h.length<=l->V l=none)(hρ: ∀x,Rep V (ρ x) (ρ' x)):
 ∃nx w' V' v v' h2,K v h2/\(execOp ρ' o).run P w=.ok nx w'/\(nx=.value v'\/nx=.skip /\v'=undef)/\Rep V' v v'/\V.le V'/\(∀l,h2.length<=l->V' l=none)/\h.length<=h2.length/\Inv (obI tb) V' (toF h2) hR w'/\bP w w':=by
 unfold d9.app at hk;split at hk
 case h_2=>exact hk.elim
 rename_i c ay;split at hk
 case h_2=>exact hk.elim
 rename_i st xt l off n sz x a8 ar aq;split at hk
 case h_2=>exact hk.elim
 rename_i e e2 h1 ba;split at hk
 case h_2=>exact hk.elim
 rename_i i au;obtain⟨ws,h2,hk,bd,hl,aa⟩:=R.settle_ok hk hi;split at hk
 case h_2=>exact hk.elim
 rename_i v m lx ac;split at hk
 case h_2=>exact hk.elim
 rename_i q hq;split at hk
 case h_2=>exact hk.elim
 rename_i en aj;split at hk
 case h_2=>exact hk.elim
 rename_i y hy;have:=R.rd_eq _ _ hy;subst this;obtain⟨hb,⟨rfl,rfl,rfl,hn,ak,a7⟩,a6⟩:=bL.1 hk;clear hk;obtain⟨ho,al⟩:=Bool.and_eq_true_iff.1 hb;have ax:q≠l:=by intro e;rw [e,Nat.beq_refl]at al;cases al
 have:=R.hdIs_eq _ _ _ a7;subst this;obtain⟨s',x',r1,r3,ah⟩:=sU ay a8 ar aq hρ;obtain⟨base,cap,rfl,bf,af⟩:=r1;obtain⟨_,ag,ao,rfl,_⟩:=i9 (P:=P) ac trivial aa r3
 have src: ∀d,∃vs,vs.length=1/\(∀v∈vs,v.oneCell'=true)/\(∃v',vs=[v']/\Rep V (E.hd q y) v')/\(Builtin.firstCells 1 1 (.slice ag 1 ao)).run P {w with drawn:=d} =.ok vs.toArray {w with drawn:=d} :=by
  intro d;obtain⟨vs,bc,bg,q1,q2,q3,q4,q5⟩:=i9 (P:=P) ac trivial (aa.drew d) r3;obtain⟨v',vs',rfl,q6,q7⟩: ∃v' vs',vs=v'::vs'/\Rep V (E.hd q y) v'/\aH V [] vs':=q4;have ap:vs'=[]:=q7;subst ap;exact⟨_,rfl,q5,⟨_,rfl,q6⟩,by have:=q2 1 (Nat.le_refl _);simpa using this⟩
 have am:V h2.length=none:=hf _ omz;obtain⟨b,k,c1,c2⟩:=aa.root R.toRowS hl;obtain⟨cs,T,rs,tail,c3,c4,c5,c6⟩:=c2
 obtain⟨v',w',b',k',bb,T',ae,vs,t1,⟨v0,rfl,t2⟩,t3,t4,t5,t6,t7,t8,t9⟩:=tR (P:=P) (ty:=o.type) h1 ba au ho omz ak (by
  rcases af with⟨b',k',d1,d2,d3⟩ | d
  ·rw [c1]at d1;cases d1;exact .inl ⟨d2,by omega⟩
  ·exact .inr d) c3 c4 c5 src
 have ai:=aa.snocS R.toRowS am hl aj ax t2 c1 c3 c5 c6 w' b' k' bb T' ae t3 t4 t5 t6 t7;have az:=cH hl;have av:=cH aj
 have hF:toF ((h2.set l none).set q none++ [some (.abs (R.row (ws++ [y])) [])])=(((toF h2).put l none).put q none).put h2.length (some (.abs (R.row (ws++ [y])) [])):=by
  have:=fO ((h2.set l none).set q none) (.abs (R.row (ws++ [y])) []);rw [eR none (by simpa using av),eR none az]at this
  simpa using this
 exact⟨_,w',V.add h2.length (b',k'),_,v',_,a6,by rw [ah];exact t1,.inl rfl,t8 _ _ (aLI _ _ _),aLO am,by
  intro m hm;simp at hm;rw [aMa _ _ omz];exact hf m omz,by simp;omega,by rw [hF];exact ai,t9⟩
end Go.Sh
namespace Go.Sh
open Go
variable [Con] {A:Type} {P:Program} {E:uQ A} {tb:A->Nat×aC A}
def I6(tb:A->Nat×aC A)(P:Program)(B:(Operand->AVal)->Op->aC A->(AVal->aC A->Prop)->Prop):Prop:=
 ∀(ρ:Operand->AVal) (o:Oper) (h:aC A) (K:AVal->aC A->Prop),B ρ o.op h K-> ∀(V:Val) (hR:PHeap) (w:World) (ρ':Operand->Value),Inv (obI tb) V (toF h) hR w->(∀l,h.length<=l->V l=none)->(∀x,Rep V (ρ x) (ρ' x))->
  ∃nx w' V' v v' h2,K v h2/\(execOp ρ' o).run P w=.ok nx w'/\(nx=.value v'\/nx=.skip /\v'=undef)/\Rep V' v v'/\V.le V'/\(∀l,h2.length<=l->V' l=none)/\h.length<=h2.length/\Inv (obI tb) V' (toF h2) hR w'/\bP w w'
def d9.mine(R:d9 tb E)(a:A):Bool:=match R.isRow a,R.isHole a with
 | none,none=>false
 | _,_=>true
end Go.Sh
