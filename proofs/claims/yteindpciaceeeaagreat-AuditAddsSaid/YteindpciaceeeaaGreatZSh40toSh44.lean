import Derived.Test.YteindpciaceeeaaGreatZGC7toGD
set_option linter.all false
set_option maxHeartbeats 8000000
namespace Go.Sh
open Go
variable [Con] {A:Type} {P:Program} {E:uQ A} {tb:A->Nat×aC A}
end Go.Sh
namespace Go.Sh
open Go
variable [Con] {A:Type} {P:Program} {tb:A->Nat×aC A}
def PHeap.upd(p:PHeap)(b:Nat)(o:Obj):PHeap:=fun c=>if c=b then some o else p c
end Go.Sh
namespace Go.Sh
open Go
variable [Con] {A:Type} {P:Program} {E:uQ A} {tb:A->Nat×aC A}
structure fY (tb:A->Nat×aC A) (E:uQ A) extends d9 tb E where
 nil:E.X
 nilIn: ∀(N:Nat) (V:Val) (l b:Nat),V l=some (b,0)->aG.interp (obN tb N) V l (E.en nil) .emp
 nilHd: ∀(V:Val) (l:Nat),Rep V (E.hd l nil) (.slice none 0 0)
 inner:Nat
 cast:gS
def d9.at(R:d9 tb E)(h:aC A):AVal->Bool
 | .ptr l _=>match aL h l with
   | some (.abs o _)=>R.mine o
   | _=>false
 | .slice l _ _ _=>match aL h l with
   | some (.abs o _)=>R.mine o
   | _=>false
 | _=>false
def fY.app2(R:fY tb E)(P:Program)(ρ:Operand->AVal)(op:Op)(h:aC A)(K:AVal->aC A->Prop):Prop:=
 match op with
 | .call c=>match c.args.toList.map ρ with
   | [_,.slice lx 0 1 1]=>match aL h lx with
     | some (.cells [v])=>cond (isNone v) (match B7 (.cell lx 0) R.cast [] h with
       | some (_,h')=>R.app P ρ (.call c) h' K
       | none=>False) (R.app P ρ (.call c) h K)
     | _=>False
   | _=>False
 | _=>False
theorem fY.app2_ok(R:fY tb E)(ρ:Operand->AVal)(o:Oper)(h:aC A)(K:AVal->aC A->Prop)(hk:R.app2 P ρ o.op h K)(V:Val)(hR:PHeap)(w:World)(ρ':Operand->Value)(hi:Inv (obI tb) V (toF h) hR w)(hf: ∀l,h.length<=l->V l=none)(hρ: ∀x,Rep V (ρ x) (ρ' x)):
 ∃nx w' V' v v' h2,K v h2/\(execOp ρ' o).run P w=.ok nx w'/\(nx=.value v'\/nx=.skip /\v'=undef)/\Rep V' v v'/\V.le V'/\(∀l,h2.length<=l->V' l=none)/\h.length<=h2.length/\Inv (obI tb) V' (toF h2) hR w'/\bP w w':=by
 unfold fY.app2 at hk;split at hk
 case h_2=>exact hk.elim
 rename_i c aa;split at hk
 case h_2=>exact hk.elim
 split at hk
 case h_2=>exact hk.elim
 rename_i v hl;cases hb:isNone v with
 | false=>
   rw [hb]at hk;have hk:R.app P ρ (.call c) h K:=hk;rw [<-aa]at hk;exact R.app_ok ρ o h K hk V hR w ρ' hi hf hρ
 | true=>
   rw [hb]at hk;simp only [cond_true]at hk;split at hk
   case h_2=>exact hk.elim
   rename_i ac h' hc;obtain⟨V1,⟨a1,a2,a3,a4⟩,_⟩:=vX (xs:=[]) hc hi hf rfl;rw [<-aa]at hk;obtain⟨nx,w',V',v1,v',h2,q1,q2,q3,q4,q5,q6,q7,q8,q9⟩:=R.app_ok ρ o h' K hk V1 hR w ρ' a4 a2 (fun x=>Rep.mono a1 _ _ (hρ x));exact⟨nx,w',V',v1,v',h2,q1,q2,q3,q4,Val.le_trans a1 q5,q6,Nat.le_trans a3 q7,q8,q9⟩
theorem RowS.single(R:RowS tb E){y:E.X}{x:Nat×Nat}{q:PHeap}{N b k:Nat}{cs:Array Value}{T:TypeId}{v:Value}{tail:List Value}(hq:EnAt tb N (E.en y) x q)(hb:q b=none)(hcs:cs.toList=v::tail)(hk:cs.size=k)(hv: ∀(V:Val) (l:Nat),V l=some x->Rep V (E.hd l y) v):
 ∃p,obN tb (N+1) (R.row [y]) (b,k) [] p/\ ∀c o,p c=some o->(c=b/\o=.cells cs T)\/q c=some o:=by
 have d0:q.disj (PHeap.one b (.cells #[] T)):=by
  intro c
  by_cases h:c=b
  ·subst h;exact .inl hb
  ·right;unfold PHeap.one;rw [if_neg h]
 obtain⟨c1,T1,rs,aa,a1,a2,a3,a4,a5⟩:=R.snoc (R.nil0 (b:=b) (k:=0) (cs:= #[]) (T:=T) N rfl) hq d0 hv;have:rs=[]:=List.length_eq_zero_iff.1 a4;subst this;obtain⟨p,p1,p2⟩:=a5 b k cs T tail hcs hk (.inl rfl) hb;refine⟨p,p1,fun c o h=>?_⟩;rcases p2 c o h with d | ⟨d0,d⟩ | d
 ·exact .inl d
 ·unfold PHeap.one at d;rw [if_neg d0]at d;cases d
 ·exact .inr d
theorem Inv.singleS(R:RowS tb E){V:Val}{h:aC A}{hR:PHeap}{w:World}{q:Nat}{y:E.X}(hi:Inv (obI tb) V (toF h) hR w)(hn:V h.length=none)(hq:aL h q=some (E.en y)){w':World}{b k:Nat}{cs:Array Value}{T:TypeId}{v:Value}{tail:List Value}(hv:Rep V (E.hd q y) v)
 (hcs:cs.toList=v::tail) (hk:cs.size=k) (hw:w'.heap[b]? =some (.cells cs T)) (hb:w.heap[b]? =none) (hrest: ∀c o,c≠b->w.heap[c]? =some o->w'.heap[c]? =some o):
 Inv (obI tb) (V.add h.length (b,k)) (((toF h).put q none).put h.length (some (.abs (R.row [y]) []))) hR w':=by
 obtain⟨hs,h1,h3,h5,go⟩:=hi.eat hn (cC (Nat.le_refl _));have ae:=h1 q _ hq;obtain⟨N2,aa⟩:=m9 ae;obtain⟨x,hx⟩:=qO aa;have af:EnAt tb N2 (E.en y) x (hs q):=fun V2 l2 e2=>R.enLoc _ V V2 q l2 y _ (hx.trans e2.symm) aa
 have ac:hs q b=none:=by
  cases hh:hs q b with
  | none=>rfl
  | some o=>have:=h5 q b o hh;rw [hb]at this;cases this
 obtain⟨p,p1,p2⟩:=R.single (b:=b) (T:=T) af ac hcs hk (fun V2 l2 e=>R.hdRep V V2 q l2 y v (hx.trans e.symm) hv)
 have e1:(fun m=>if m=h.length then some (.abs (R.row [y]) [])else if m∈ [q]then none else toF h m)=((toF h).put q none).put h.length (some (.abs (R.row [y]) [])):=by
  funext m;unfold bE.put
  by_cases m1:m=h.length
  ·rw [if_pos m1,if_pos m1]
  ·rw [if_neg m1,if_neg m1]
   by_cases m2:m=q
   ·rw [if_pos (by simp [m2]),if_pos m2]
   ·rw [if_neg (by simp [m2]),if_neg m2]
 rw [<-e1];refine go [q] w' b k _ (.inr hb) hw hrest p _ ⟨b,k,aLI _ _ _,[],rfl,_,p1⟩ fun c o hc=>?_;rcases p2 c o hc with d | d
 ·exact .inl d
 ·refine .inr ⟨?_,q,by simp,d⟩
  intro e;subst e;rw [ac]at d;cases d
def fY.app4(R:fY tb E)(P:Program)(ρ:Operand->AVal)(op:Op)(h:aC A)(K:AVal->aC A->Prop):Prop:=
 match op with
 | .call c=>match c.callee,c.argTypes.toList,c.args.toList.map ρ with
   | .builtin .append,[st,xt],[s,x]=>match P.underlying st,P.underlying xt with
     | some (.slice e),some (.slice _)=>match P.info? e with
       | some i=>match lM x 1 h with
         | some (.cells [v],m,_,none)=>match R.lab v with
           | some q=>match aL h q with
             | some en=>match R.rd en with
               | some y=>cK (gJ s&&oneI i)
                  ((m=1/\R.hdIs q y v)/\K (.slice h.length 0 1 1) ((h.set q none)++ [some (.abs (R.row [y]) [])]))
               | none=>False
             | none=>False
           | none=>False
         | _=>False
       | none=>False
     | _,_=>False
   | _,_,_=>False
 | _=>False
theorem fY.app4_ok(R:fY tb E)(ρ:Operand->AVal)(o:Oper)(h:aC A)(K:AVal->aC A->Prop)(hk:R.app4 P ρ o.op h K)(V:Val)(hR:PHeap)(w:World)(ρ':Operand->Value)(hi:Inv (obI tb) V (toF h) hR w)(hf: ∀l,h.length<=l->V l=none)(hρ: ∀x,Rep V (ρ x) (ρ' x)):
 ∃nx w' V' v v' h2,K v h2/\(execOp ρ' o).run P w=.ok nx w'/\(nx=.value v'\/nx=.skip /\v'=undef)/\Rep V' v v'/\V.le V'/\(∀l,h2.length<=l->V' l=none)/\h.length<=h2.length/\Inv (obI tb) V' (toF h2) hR w'/\bP w w':=by
 unfold fY.app4 at hk;split at hk
 case h_2=>exact hk.elim
 rename_i c au;split at hk
 case h_2=>exact hk.elim
 rename_i st xt s x ay ao am;split at hk
 case h_2=>exact hk.elim
 rename_i e e2 h1 a6;split at hk
 case h_2=>exact hk.elim
 rename_i i ap;split at hk
 case h_2=>exact hk.elim
 rename_i v m lx af;split at hk
 case h_2=>exact hk.elim
 rename_i q hq;split at hk
 case h_2=>exact hk.elim
 rename_i en ai;split at hk
 case h_2=>exact hk.elim
 rename_i y hy;have:=R.rd_eq _ _ hy;subst this;obtain⟨hb,⟨rfl,ax⟩,av⟩:=bL.1 hk;clear hk;obtain⟨az,ho⟩:=Bool.and_eq_true_iff.1 hb;obtain⟨ae,ac,z,hz,al⟩:=KO ho;have:=iW az;subst this;have:=R.hdIs_eq _ _ _ ax;subst this;obtain⟨s',x',r1,r3,ag⟩:=sU au ay ao am hρ;have r1:s'=.slice none 0 0:=r1;subst r1;obtain⟨vs,a7,a8,q1,q2,q3,q4,q5⟩:=i9 af trivial (hi.drew (w.drawn+1)) r3;obtain⟨v',vs',rfl,q6,q7⟩: ∃v' vs',vs=v'::vs'/\Rep V (E.hd q y) v'/\aH V [] vs':=q4;have ak:vs'=[]:=q7;subst ak q1;have aj:V h.length=none:=hf _ (Nat.le_refl _);obtain⟨aa,rest,g1,g2,g3⟩:=lL (ty:=o.type) (row:=[]) (ws:=[v']) (m:=1) (sLen:=0) (sCap:=0) (base:=none) h1 a6 ap hz (by rw [ae];have:=q2 1 (Nat.le_refl _);simpa using this) omz ac omz cA
 have aq:rest.length=aa - (0+1):=by rw [g2,al,Nat.mul_one]
 have ah:=hi.singleS R.toRowS (y:=y) aj ai (w':= {w with drawn:=w.drawn+1,heap:=w.heap.push (.cells ([]++ [v']++rest).toArray e) }) (b:=w.heap.size) (k:=aa) (cs:=([]++ [v']++rest).toArray) (T:=e) q6 (tail:=rest) (by simp) (by simp;omega) (by simp) (by simp)
  (by intro c o hc hh;have hl:=(Array.getElem?_eq_some_iff.1 hh).1;simp only [Array.getElem?_push];rw [if_neg omz];exact hh)
 have ar:=cH ai;refine⟨_,{w with drawn:=w.drawn+1,heap:=w.heap.push (.cells ([]++ [v']++rest).toArray e) },V.add h.length (w.heap.size,aa),_,_,_,av,by rw [ag];exact dL g3,.inl rfl,⟨_,_,rfl,g1,.inl ⟨_,_,aLI _ _ _,rfl,by omega⟩⟩,aLO aj,?_,by simp,?_,⟨rfl,rfl,by simp,fun _ _=>d7 _ _ _ _⟩⟩
 ·intro m hm;simp at hm;rw [aMa _ _ omz];exact hf m omz
 ·have hF:=fO (h.set q none) (aG.abs (R.row [y]) []);rw [eR none ar]at hF;rw [hF]
  simpa using ah
def fY.app3(R:fY tb E)(P:Program)(ρ:Operand->AVal)(op:Op)(h:aC A)(K:AVal->aC A->Prop):Prop:=
 match op with
 | .call c=>match c.args.toList.map ρ with
   | [_,.slice lx 0 1 1]=>match aL h lx with
     | some (.cells [v])=>cond (isNone v) (match B7 (.cell lx 0) R.cast [] h with
       | some (_,h')=>R.app4 P ρ (.call c) h' K
       | none=>False) (R.app4 P ρ (.call c) h K)
     | _=>False
   | _=>False
 | _=>False
theorem fY.app3_ok(R:fY tb E)(ρ:Operand->AVal)(o:Oper)(h:aC A)(K:AVal->aC A->Prop)(hk:R.app3 P ρ o.op h K)(V:Val)(hR:PHeap)(w:World)(ρ':Operand->Value)(hi:Inv (obI tb) V (toF h) hR w)(hf: ∀l,h.length<=l->V l=none)(hρ: ∀x,Rep V (ρ x) (ρ' x)):
 ∃nx w' V' v v' h2,K v h2/\(execOp ρ' o).run P w=.ok nx w'/\(nx=.value v'\/nx=.skip /\v'=undef)/\Rep V' v v'/\V.le V'/\(∀l,h2.length<=l->V' l=none)/\h.length<=h2.length/\Inv (obI tb) V' (toF h2) hR w'/\bP w w':=by
 unfold fY.app3 at hk;split at hk
 case h_2=>exact hk.elim
 rename_i c aa;split at hk
 case h_2=>exact hk.elim
 split at hk
 case h_2=>exact hk.elim
 rename_i v hl;cases hb:isNone v with
 | false=>
   rw [hb]at hk;have hk:R.app4 P ρ (.call c) h K:=hk;rw [<-aa]at hk;exact R.app4_ok ρ o h K hk V hR w ρ' hi hf hρ
 | true=>
   rw [hb]at hk;simp only [cond_true]at hk;split at hk
   case h_2=>exact hk.elim
   rename_i ac h' hc;obtain⟨V1,⟨a1,a2,a3,a4⟩,_⟩:=vX (xs:=[]) hc hi hf rfl;rw [<-aa]at hk;obtain⟨nx,w',V',v1,v',h2,q1,q2,q3,q4,q5,q6,q7,q8,q9⟩:=R.app4_ok ρ o h' K hk V1 hR w ρ' a4 a2 (fun x=>Rep.mono a1 _ _ (hρ x));exact⟨nx,w',V',v1,v',h2,q1,q2,q3,q4,Val.le_trans a1 q5,q6,Nat.le_trans a3 q7,q8,q9⟩
def fY.begins(R:fY tb E)(P:Program)(c:Call)(s:AVal):Bool:=cond (gJ s) (match c.callee,c.argTypes.toList with
 | .builtin .append,[st,_]=>match P.underlying st with
   | some (.slice e)=>match P.underlying e with
     | some (.slice e2)=>match bW P e2 with
       | some n=>Nat.beq n R.inner
       | none=>false
     | _=>false
   | _=>false
 | _,_=>false) false
def fY.ops(R:fY tb E)(P:Program)(B:(Operand->AVal)->Op->aC A->(AVal->aC A->Prop)->Prop)(ρ:Operand->AVal)(op:Op)(h:aC A)(K:AVal->aC A->Prop):Prop:=
 match op with
 | .call c=>match c.args.toList.map ρ with
   | s::_=>cond (R.at h s) (R.app2 P ρ (.call c) h K) (cond (R.begins P c s) (R.app3 P ρ (.call c) h K) (B ρ (.call c) h K))
   | []=>B ρ (.call c) h K
 | .load t a=>cond (R.at h (ρ a)) (R.load P ρ (.load t a) h K) (B ρ (.load t a) h K)
 | op=>B ρ op h K
theorem fY.ops_ok(R:fY tb E)(hone: ∀(V:Val) (q:Nat) (y:E.X) (v:Value),Rep V (E.hd q y) v->v.oneCell'=true/\v.cells= #[v]){B:(Operand->AVal)->Op->aC A->(AVal->aC A->Prop)->Prop}(hB:I6 tb P B):I6 tb P (R.ops P B):=by
 intro ρ o h K hk V hR w ρ' hi hf hρ;unfold fY.ops at hk;split at hk
 ·rename_i c aa;split at hk
  ·rename_i s r hs;cases hc:R.at h s with
   | false=>
     rw [hc]at hk;cases ac:R.begins P c s with
     | false=>rw [ac]at hk;exact hB ρ o h K (by rw [aa];exact hk) V hR w ρ' hi hf hρ
     | true=>rw [ac]at hk;exact R.app3_ok ρ o h K (by rw [aa];exact hk) V hR w ρ' hi hf hρ
   | true=>rw [hc]at hk;exact R.app2_ok ρ o h K (by rw [aa];exact hk) V hR w ρ' hi hf hρ
  ·exact hB ρ o h K (by rw [aa];exact hk) V hR w ρ' hi hf hρ
 ·rename_i t a aa;cases hc:R.at h (ρ a)with
  | false=>rw [hc]at hk;exact hB ρ o h K (by rw [aa];exact hk) V hR w ρ' hi hf hρ
  | true=>rw [hc]at hk;exact R.load_ok ρ o h K (by rw [aa];exact hk) V hR w ρ' hi hf hρ
 ·exact hB ρ o h K hk V hR w ρ' hi hf hρ
def fY.dro(R:fY tb E)(P:Program)(B:(Operand->AVal)->Op->aC A->Option (ORes A))(ρ:Operand->AVal)(op:Op)(h:aC A):Option (ORes A):=
 match op with
 | .load t a=>cond (R.at h (ρ a)) (match ρ a,eZ P t with
   | .ptr l off,some false=>match aL h l with
     | some (.abs o [])=>match R.isRow o with
       | some ws=>some {v:=E.hd h.length (R.get ws off),upd:=[(l,some (.abs (R.hole ws off) [h.length]))],new:=[E.en (R.get ws off)],foot:=[l],need:=some (off<ws.length) }
       | none=>none
     | _=>none
   | _,_=>none) (B ρ (.load t a) h)
 | op=>B ρ op h
def nS(B:(Operand->AVal)->Op->aC A->Option (ORes A)):Prop:= ∀(ρ ρ2:Operand->AVal) (op:Op) (h:aC A),(∀x∈op.operands,ρ x=ρ2 x)->B ρ op h=B ρ2 op h
def rA(tb:A->Nat×aC A)(P:Program)(B:(Operand->AVal)->Op->aC A->Option (ORes A)):Prop:=
 ∀(ρ:Operand->AVal) (o:Oper) (h:aC A) (r:ORes A),B ρ o.op h=some r->r.obl-> ∀(V:Val) (hR:PHeap) (w:World) (ρ':Operand->Value),Inv (obI tb) V (toF h) hR w->gT V h.length r.new.length->(∀x,Rep V (ρ x) (ρ' x))->dG (obI tb) P V h.length hR w r.v (toF (r.apply h)) r.new.length (execOp ρ' o)
theorem lZ:nS (A:=A) (fun _ _ _=>none):=by intro _ _ _ _ _;rfl
theorem qI:rA tb P (fun _ _ _=>none):=by intro _ _ _ _ h;cases h
theorem fY.dro_congr(R:fY tb E){B:(Operand->AVal)->Op->aC A->Option (ORes A)}(hB:nS B):nS (R.dro P B):=by
 intro ρ ρ2 op h hρ;cases op
 case load t a=>
  simp only [fY.dro];rw [hρ a (by simp [Op.operands]),hB ρ ρ2 (.load t a) h hρ]
 all_goals (simp only [fY.dro];exact hB _ _ _ _ hρ)
theorem fY.dro_ok(R:fY tb E)(hone: ∀(V:Val) (q:Nat) (y:E.X) (v:Value),Rep V (E.hd q y) v->v.oneCell'=true/\v.cells= #[v]){B:(Operand->AVal)->Op->aC A->Option (ORes A)}(hB:rA tb P B):rA tb P (R.dro P B):=by
 intro ρ o h r hr ho V hR w ρ' hi hf hρ;unfold fY.dro at hr;split at hr
 ·rename_i t a aa;cases hc:R.at h (ρ a)with
  | false=>rw [hc]at hr;exact hB ρ o h r (by rw [aa];exact hr) ho V hR w ρ' hi hf hρ
  | true=>
  rw [hc]at hr;simp only [cond_true]at hr;split at hr
  case h_2=>cases hr
  rename_i l off hρa ai;have hx:=hρ a;rw [hρa]at hx;obtain⟨b,k,hV,hx⟩:=hx;split at hr
  case h_2=>cases hr
  rename_i ob hl;split at hr
  case h_2=>cases hr
  rename_i ws hw;have:=R.isRow_eq _ _ hw;subst this;simp only [sI']at hr;subst hr;have ah:off<ws.length:=ho;have hn:V h.length=none:=hf h.length (Nat.le_refl _) (by simp)
  obtain⟨V',y,b',k',cs,T,v,a1,rfl,a3,a4,a5,a6,a7,a8⟩:=hi.lendS1 R.toRowS hn hl (R.get_eq ws off ah);rw [hV]at a5;simp only [sI',pI']at a5;obtain⟨rfl,rfl⟩:=a5
  have af:cs.toList.drop off=[v]++cs.toList.drop (off+1):=by
   obtain⟨ae,ag⟩:=List.getElem?_eq_some_iff.1 a7;rw [<-ag];exact List.drop_eq_getElem_cons ae
  obtain⟨v',g1,g2⟩:=hJ (P:=P) (V:=V.add h.length y) (t:=t) (av:=[E.hd h.length (R.get ws off)]) (v:=E.hd h.length (R.get ws off)) a6 af ⟨_,[],rfl,a8 _ _ a4,rfl⟩ (by unfold fI;rw [ai];rfl)
  refine⟨.value v',w,V.add h.length y,v',by simp [execOp,aa,hx,g1],.inl rfl,a1,?_,g2,?_,aLS w⟩
  ·intro m hm ac
   by_cases e:m=h.length
   ·subst e;exact⟨Nat.le_refl _,by simp⟩
   ·rw [aMa _ _ e]at ac;exact(ac hm).elim
  ·simpa [ORes.apply,hupd]using a3
 ·exact hB ρ o h r hr ho V hR w ρ' hi hf hρ
end Go.Sh
namespace Go.Sh
open Go
variable [Con] {A:Type} {P:Program} {E:uQ A} {tb:A->Nat×aC A}
structure mT (tb:A->Nat×aC A) (E:uQ A) extends RowS tb E where
 ob:E.X->A
 ptr: ∀k x,E.hd k x=.ptr k 0
 obE: ∀x,E.en x=.abs (ob x) []
 get:List E.X->Nat->E.X
 get_eq: ∀ws i,i<ws.length->ws[i]? =some (get ws i)
 unob:A->Option E.X
 unob_eq: ∀t x,unob t=some x->t=ob x
 put:List E.X->Nat->E.X->List E.X
 put_eq: ∀ws i x,put ws i x=ws.set i x
theorem mT.lent(R:mT tb E){ws:List E.X}{i:Nat}{r x:Nat×Nat}{p:PHeap}{N:Nat}(h:obN tb (N+1) (R.hole ws i) r [x] p)(hi:i<ws.length):
 ∃cs T,p r.1=some (.cells cs T)/\cs.toList[i]? =some (.pointer (some ⟨x.1,0,none⟩)):=by
 obtain⟨V,gs,g1,g2,g3,⟨g4,g5,g6⟩,g7⟩:=h;rw [R.tbHole]at g2 g4;dsimp only at g2 g4;have hx:V 1=some x:=by have:=g2 0 omz;simpa using this
 have hc:=g4 0 _ (show aL (gI E ws i) 0=some (.cells ((fN E 2 ws).set i (hd1S E ws i)))from rfl)
 have h1:hd1S E ws i=.ptr 1 0:=by
  unfold hd1S;rw [R.get_eq ws i hi];exact R.ptr 1 _
 rw [h1]at hc;obtain⟨b,k,c1,cs,T,c2,c3,rs,tail,c4,c5⟩:=hc;have ah:r=(b,k):=by have ae:V 0=some (b,k):=c1;rw [g1]at ae;simpa using ae
 have ac:=aH.length c5;rw [List.length_set,dZ]at ac;have aa:i<rs.length:=by omega
 have ag:=aH.at c5 (i:=i) (a:=.ptr 1 0) (v:=rs[i]) (by rw [List.getElem?_set,if_pos rfl,if_pos (by rw [dZ];exact hi)]) (gE' aa)
 obtain⟨b2,k2,e1,e2⟩:=ag
 have af:x=(b2,k2):=by
  have:V 1=some (b2,k2):=e1;rw [hx]at this;simpa using this
 refine⟨cs,T,?_,?_⟩
 ·rw [g7];refine aLP g6 (l:=0) ?_;rw [c2,ah];simp [PHeap.one]
 ·rw [c4,List.getElem?_append_left aa,gE' aa,e2,af]
theorem Inv.lendW(R:mT tb E){V:Val}{h:aC A}{hR:PHeap}{w:World}{l i:Nat}{ws:List E.X}(hi:Inv (obI tb) V (toF h) hR w)(hf:bO V h.length)(hl:aL h l=some (.abs (R.row ws) []))(hw:i<ws.length):
 ∃V' x b k cs T,V.le V'/\bO V' (h.length+1)/\Inv (obI tb) V' (toF (h.set l (some (.abs (R.hole ws i) [h.length]))++ [some (.abs (R.ob (R.get ws i)) [])])) hR w/\V' h.length=some x/\V l=some (b,k)/\w.heap[b]? =some (.cells cs T)/\cs.toList[i]? =some (.pointer (some ⟨x.1,0,none⟩)):=by
 obtain⟨V',x,b,k,cs,T,v,a1,a2,a3,a4,a5,a6,a7,a8⟩:=hi.lendS R.toRowS hf hl (R.get_eq ws i hw);rw [R.obE]at a3;refine⟨V',x,b,k,cs,T,a1,a2,a3,a4,a5,a6,?_⟩;have h8:=a8 V' h.length a4;rw [R.ptr]at h8;obtain⟨b2,k2,e1,rfl⟩:=h8;rw [a4]at e1;cases e1;exact a7
theorem Inv.backW(R:mT tb E){V:Val}{h:aC A}{hR:PHeap}{w:World}{l i k:Nat}{ws:List E.X}{x:E.X}(hi:Inv (obI tb) V (toF h) hR w)(hl:aL h l=some (.abs (R.hole ws i) [k]))(hk:aL h k=some (.abs (R.ob x) []))(hkl:k≠l)(hil:i<ws.length):
 Inv (obI tb) V (toF ((h.set l (some (.abs (R.row (R.put ws i x)) []))).set k none)) hR w:=by
 rw [R.put_eq];exact hi.backS R.toRowS (R.get_eq ws i hil) (fun l=>by rw [R.ptr,R.ptr]) hl (by rw [R.obE];exact hk) hkl
def mT.at(R:mT tb E)(ws:List E.X)(l off:Nat)(h:aC A)(K:AVal->aC A->Prop):Prop:=
 off<ws.length/\K (.ptr h.length 0) (h.set l (some (.abs (R.hole ws off) [h.length]))++ [some (.abs (R.ob (R.get ws off)) [])])
def mT.load(R:mT tb E)(P:Program)(ρ:Operand->AVal)(op:Op)(h:aC A)(K:AVal->aC A->Prop):Prop:=
 match op with
 | .load t a=>match ρ a,eZ P t with
   | .ptr l off,some false=>match aL h l with
     | some (.abs a [])=>match R.isRow a with
       | some ws=>R.at ws l off h K
       | none=>False
     | some (.abs a [k])=>match R.isHole a with
       | some (ws,i)=>match aL h k with
         | some (.abs s [])=>(match R.unob s with
           | some x=>cond (Nat.beq k l) False (i<ws.length/\R.at (R.put ws i x) l off ((h.set l (some (.abs (R.row (R.put ws i x)) []))).set k none) K)
           | none=>False)
         | _=>(i<ws.length/\off=i)/\K (.ptr k 0) h
       | none=>False
     | _=>False
   | _,_=>False
 | _=>False
theorem mT.at_ok(R:mT tb E){ws:List E.X}{l off:Nat}{h:aC A}{K:AVal->aC A->Prop}(hk:R.at ws l off h K){V:Val}{hR:PHeap}{w:World}{t:TypeId}(ht:eZ P t=some false)(hi:Inv (obI tb) V (toF h) hR w)(hf:bO V h.length)(hl:aL h l=some (.abs (R.row ws) [])){x:Value}(hx:Rep V (.ptr l off) x):
 ∃v v' V' h2,K v h2/\(Instr.loadAt t x).run P w=.ok v' w/\Rep V' v v'/\V.le V'/\bO V' h2.length/\h.length<=h2.length/\Inv (obI tb) V' (toF h2) hR w:=by
 obtain⟨af,hk⟩:=hk;obtain⟨b,k,hV,rfl⟩:=hx;obtain⟨V',y,b',k',cs,T,a1,a2,a3,a4,a5,a6,a7⟩:=hi.lendW R hf hl af;rw [hV]at a5;cases a5
 have ac:cs.toList.drop off=[.pointer (some ⟨y.1,0,none⟩)]++cs.toList.drop (off+1):=by
  obtain⟨aa,ae⟩:=List.getElem?_eq_some_iff.1 a7;rw [<-ae];exact List.drop_eq_getElem_cons aa
 obtain⟨v',g1,g2⟩:=hJ (P:=P) (V:=V') (t:=t) (av:=[.ptr h.length 0]) (v:=.ptr h.length 0) a6 ac ⟨_,[],rfl,⟨y.1,y.2,a4,rfl⟩,rfl⟩ (by unfold fI;rw [ht];rfl)
 exact⟨_,v',V',_,hk,g1,g2,a1,by simpa using a2,by simp,a3⟩
theorem mT.load_ok(R:mT tb E)(ρ:Operand->AVal)(o:Oper)(h:aC A)(K:AVal->aC A->Prop)(hk:R.load P ρ o.op h K)(V:Val)(hR:PHeap)(w:World)(ρ':Operand->Value)(hi:Inv (obI tb) V (toF h) hR w)(hf: ∀l,h.length<=l->V l=none)(hρ: ∀x,Rep V (ρ x) (ρ' x)):
 ∃nx w' V' v v' h2,K v h2/\(execOp ρ' o).run P w=.ok nx w'/\(nx=.value v'\/nx=.skip /\v'=undef)/\Rep V' v v'/\V.le V'/\(∀l,h2.length<=l->V' l=none)/\h.length<=h2.length/\Inv (obI tb) V' (toF h2) hR w'/\bP w w':=by
 unfold mT.load at hk;split at hk
 case h_2=>exact hk.elim
 rename_i t a ap;split at hk
 case h_2=>exact hk.elim
 rename_i l off hρa ac;have hx:=hρ a;rw [hρa]at hx
 have fin: ∀ {v v' V' h2},K v h2->(Instr.loadAt t (ρ' a)).run P w=.ok v' w->Rep V' v v'->V.le V'->bO V' h2.length->h.length<=h2.length->Inv (obI tb) V' (toF h2) hR w->
  ∃nx w' V' v v' h2,K v h2/\(execOp ρ' o).run P w=.ok nx w'/\(nx=.value v'\/nx=.skip /\v'=undef)/\Rep V' v v'/\V.le V'/\(∀l,h2.length<=l->V' l=none)/\h.length<=h2.length/\Inv (obI tb) V' (toF h2) hR w'/\bP w w':=by
  intro v v' V' h2 a1 a2 a3 a4 a5 a6 a7;exact⟨_,w,V',v,v',h2,a1,by simp [execOp,ap,a2],.inl rfl,a3,a4,a5,a6,a7,aLS w⟩
 split at hk
 ·rename_i a0 hl;split at hk
  case h_2=>exact hk.elim
  rename_i ws hr;have:=R.isRow_eq _ _ hr;subst this;obtain⟨v,v',V',h2,a1,a2,a3,a4,a5,a6,a7⟩:=R.at_ok (P:=P) hk ac hi hf hl hx;exact fin a1 a2 a3 a4 a5 a6 a7
 ·rename_i a0 k hl;split at hk
  case h_2=>exact hk.elim
  rename_i ws i hr;have:=R.isHole_eq _ _ _ hr;subst this;split at hk
  ·rename_i s au;split at hk
   case h_2=>exact hk.elim
   rename_i y hu;have:=R.unob_eq _ _ hu;subst this;cases hb:Nat.beq k l with
   | true=>rw [hb]at hk;exact hk.elim
   | false=>
     rw [hb]at hk;obtain⟨aa,hk⟩:=hk;have aj:k≠l:=by intro e;rw [e,Nat.beq_refl]at hb;cases hb
     have ax:=hi.backW R hl au aj aa;have ar:=cH hl
     obtain⟨v,v',V',h2,a1,a2,a3,a4,a5,a6,a7⟩:=R.at_ok (P:=P) hk ac ax (by intro m hm;exact hf m (by simpa using hm)) (by
      simp only [aL,gD'];rw [List.getElem?_set_ne aj,List.getElem?_set_self ar];rfl) hx
     exact fin a1 a2 a3 a4 a5 (by simpa using a6) a7
  ·obtain⟨⟨aa,ag⟩,hk⟩:=hk;subst ag;obtain⟨b,kk,hV,hx⟩:=hx;obtain⟨ay,h1,h2,h3,h4,h5,h6⟩:=id hi;obtain⟨b',k',ae,bs,aq,N,ah⟩:=h1 l _ hl;obtain⟨x,r,al,rfl,ao⟩:=aq;have af:r=[]:=ao;subst af;rw [hV]at ae;simp only [sI',pI']at ae;obtain⟨rfl,rfl⟩:=ae;cases N with
   | zero=>exact ah.elim
   | succ N=>
   obtain⟨cs,T,o6,o7⟩:=R.lent ah aa
   have ak:cs.toList.drop off=[.pointer (some ⟨x.1,0,none⟩)]++cs.toList.drop (off+1):=by
    obtain⟨ai,am⟩:=List.getElem?_eq_some_iff.1 o7;rw [<-am];exact List.drop_eq_getElem_cons ai
   obtain⟨v',g1,g2⟩:=hJ (P:=P) (V:=V) (t:=t) (av:=[.ptr k 0]) (v:=.ptr k 0) (h5 l b _ o6) ak ⟨_,[],rfl,⟨x.1,x.2,al,rfl⟩,rfl⟩ (by unfold fI;rw [ac];rfl)
   exact fin hk (by rw [hx];exact g1) g2 V.le_refl hf (Nat.le_refl _) hi
 ·exact hk.elim
def mT.ops(R:mT tb E)(P:Program)(ρ:Operand->AVal)(op:Op)(h:aC A)(K:AVal->aC A->Prop):Prop:=
 match op with
 | .load t a=>match ρ a with
   | .ptr l off=>match aL h l with
     | some (.abs o ps)=>match R.isRow o,R.isHole o with
       | none,none=>yT tb P t o off h K
       | _,_=>R.load P ρ op h K
     | _=>False
   | _=>False
 | _=>False
theorem mT.ops_ok(R:mT tb E)(ρ:Operand->AVal)(o:Oper)(h:aC A)(K:AVal->aC A->Prop)(hk:R.ops P ρ o.op h K)(V:Val)(hR:PHeap)(w:World)(ρ':Operand->Value)(hi:Inv (obI tb) V (toF h) hR w)(hf: ∀l,h.length<=l->V l=none)(hρ: ∀x,Rep V (ρ x) (ρ' x)):
 ∃nx w' V' v v' h2,K v h2/\(execOp ρ' o).run P w=.ok nx w'/\(nx=.value v'\/nx=.skip /\v'=undef)/\Rep V' v v'/\V.le V'/\(∀l,h2.length<=l->V' l=none)/\h.length<=h2.length/\Inv (obI tb) V' (toF h2) hR w'/\bP w w':=by
 have ax:=hk;unfold mT.ops at hk;split at hk
 case h_2=>exact hk.elim
 rename_i t a ah;split at hk
 case h_2=>exact hk.elim
 rename_i l off hρa;split at hk
 case h_2=>exact hk.elim
 rename_i ob ps hl;split at hk
 case h_2=>exact R.load_ok ρ o h K hk V hR w ρ' hi hf hρ
 unfold yT at hk;have hx:=hρ a;rw [hρa]at hx;obtain⟨b,kk,hV,hx⟩:=hx;split at hk
 case h_2=>exact hk.elim
 rename_i np vs rest aj;obtain⟨hs,h1,h2,h3,h4,h5,h6⟩:=id hi;obtain⟨b',k',af,bs,au,N,ai⟩:=h1 l _ hl;rw [hV]at af;simp only [sI',pI']at af;obtain⟨rfl,rfl⟩:=af;cases N with
 | zero=>exact ai.elim
 | succ N=>
 obtain⟨Vg,gs,g1,g2,g3,⟨g4,g5,g6⟩,g7⟩:=ai;rw [aj]at g4;have hc:=g4 0 (.cells vs) rfl;obtain⟨b2,k2,c1,cs,T,c2,c3,rs,tail,c4,c5⟩:=hc;have ap:b2=b:=by have ag:Vg 0=some (b2,k2):=c1;rw [g1]at ag;simp at ag;exact ag.1.symm
 subst ap
 have ac:w.heap[b2]? =some (.cells cs T):=by
  refine h5 l b2 _ ?_;rw [g7];refine aLP g6 (l:=0) ?_;rw [c2];simp [PHeap.one]
 have aq:=aH.length c5
 have drop1: ∀ {av:List AVal},off<=vs.length->cs.toList.drop off=rs.drop off++tail:=by
  intro av al;rw [c4,List.drop_append_of_le_length omz]
 split at hk
 ·rename_i n e1 e2;obtain⟨ae,hk⟩:=bL.1 hk;obtain⟨ao,am⟩:=Bool.and_eq_true_iff.1 ae;have al:off+n<=vs.length:=Nat.le_of_ble_eq_true ao;have aa:aH V ((vs.drop off).take n) ((rs.drop off).take n):=aLV (pl:=[]) (fun i hi=>by cases hi) _ _ am (aH.take (aH.drop c5 off) n)
  obtain⟨v',g8,g9⟩:=hJ (P:=P) (V:=V) (t:=t) (av:=(vs.drop off).take n) (v:=.agg (((vs.drop off).take n).take n)) ac (seg:=(rs.drop off).take n) (rest:=(rs.drop off).drop n++tail) (by rw [drop1 (av:=[]) omz,<-List.append_assoc,List.take_append_drop]) aa (by
   unfold fI;rw [e1,e2];simp only;rw [if_pos (by rw [List.length_take,List.length_drop];omega)])
  rw [List.take_take,Nat.min_self]at g9;exact⟨_,w,V,_,v',h,hk,by simp [execOp,ah,hx,g8],.inl rfl,g9,V.le_refl,hf,Nat.le_refl _,hi,aLS w⟩
 ·rename_i e2 e1;split at hk
  case h_2=>exact hk.elim
  rename_i v hv;obtain⟨ae,hk⟩:=bL.1 hk;have ar:off<vs.length:=(List.getElem?_eq_some_iff.1 hv).1;have ak:=aH.at c5 (i:=off) (a:=v) (v:=rs[off]'omz) hv (gE' omz);have aa:Rep V v (rs[off]'omz):=aL6 (pl:=[]) (fun i hi=>by cases hi) _ _ ae ak
  obtain⟨v',g8,g9⟩:=hJ (P:=P) (V:=V) (t:=t) (av:=[v]) (v:=v) ac (seg:=[rs[off]'omz]) (rest:=rs.drop (off+1)++tail) (by
   rw [drop1 (av:=[]) omz,List.drop_eq_getElem_cons omz];rfl) ⟨_,[],rfl,aa,rfl⟩ (by unfold fI;rw [e1];rfl)
  exact⟨_,w,V,_,v',h,hk,by simp [execOp,ah,hx,g8],.inl rfl,g9,V.le_refl,hf,Nat.le_refl _,hi,aLS w⟩
 ·exact hk.elim
end Go.Sh
