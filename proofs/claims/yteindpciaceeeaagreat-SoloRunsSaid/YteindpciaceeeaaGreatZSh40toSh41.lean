import Derived.Test.YteindpciaceeeaaGreatZGHtoGD
set_option linter.all false
set_option maxHeartbeats 8000000
namespace Go.Sh
open Go
variable [Con] {A:Type} {P:Program} {E:wN A} {tb:A→Nat×aC A}
theorem RowS.put(R:RowS tb E){ws:List E.X}{i:Nat}{y:E.X}{r x x0:Nat×Nat}{p' q:PHeap}{N:Nat}(hp:obN tb (N+1) (R.hole ws i) r [x0] p')(hq:EnAt tb N (E.en y) x q)(hd:q.disj p')(hi:i<ws.length):
 ∃cs T,p' r.1=some (.cells cs T)∧i<cs.size∧ ∀(cs':Array Value) (T':TypeId) (v:Value),cs'.toList=cs.toList.set i v→(∀(V:Val) (l:Nat),V l=some x→Rep V (E.hd l y) v)→
  ∃p,obN tb (N+1) (R.row (ws.set i y)) r [] p∧ ∀c o,p c=some o→(c=r.1∧o=.cells cs' T')∨(c≠r.1∧(q c=some o∨p' c=some o)):=by
 obtain⟨V,gs,g1,g2,g3,⟨g4,g5,g6⟩,g7⟩:=hp;have htb:=R.tbRow (ws.set i y);rw [R.tbHole]at g2 g3 g4 g5;dsimp only at g2 g3 g4 g5;have hc:=g4 0 _ (show aJ (fM E ws i) 0=some (.cells ((eQ E 2 ws).set i (B9 E ws i)))from rfl)
 obtain⟨b,k,c1,cs,T,c2,c3,rs,tail,c4,c5⟩:=hc;have hbk:r=(b,k):=by have c1':V 0=some (b,k):=c1;rw [g1]at c1';simpa using c1'
 subst hbk;have hlen:=aI.length c5;rw [List.length_set,dS]at hlen
 have hsub: ∀j b o,gs j b=some o→p' b=some o:=by
  intro j b o hh;rw [g7];exact aID g6 hh
 have hpb:p' b=some (.cells cs T):=hsub 0 b _ (by rw [c2];simp [PHeap.one])
 have hil:i<rs.length:=by omega
 refine⟨cs,T,hpb,by rw [←Array.length_toList,c4,List.length_append];omega,?_⟩
 intro cs' T' v hcs hv
 have hqb:q b=none:=by
  rcases hd b with d | d
  ·exact d
  ·rw [hpb]at d;cases d
 have hqd: ∀j b o o2,gs j b=some o→q b=some o2→False:=by
  intro j b o o2 h1 h2;have:=hsub j b o h1;rcases hd b with d | d
  ·rw [d]at h2;cases h2
  ·rw [d]at this;cases this
 have ne0: ∀j c o,gs (j+1) c=some o→c≠b:=by
  intro j c o hh e;subst e;rcases g6 0 (j+1) (by omega) c with d | d
  ·rw [c2]at d;simp [PHeap.one]at d
  ·rw [d]at hh;cases hh
 let V':Val:=fun m=>match m with
  | 0=>V 0
  | j+1=>if i=j then some x else V (j+2)
 let gs':Nat→PHeap:=fun m=>match m with
  | 0=>.one b (.cells cs' T')
  | j+1=>if i=j then q else gs (j+2)
 have char: ∀m c o,gs' m c=some o→(m=0∧c=b∧o=.cells cs' T')∨(m=i+1∧q c=some o)∨(∃j,m=j+1∧i≠j∧gs (j+2) c=some o):=by
  intro m c o hh
  match m,hh with
  | 0,hh=>
    left;have hh:PHeap.one b (.cells cs' T') c=some o:=hh;unfold PHeap.one at hh;split at hh
    ·rename_i e;cases hh;exact⟨rfl,e,rfl⟩
    ·cases hh
  | j+1,hh=>
    right;have hh2:(if i=j then q else gs (j+2)) c=some o:=hh
    split at hh2
    ·rename_i hj;exact .inl ⟨by rw [hj],hh2⟩
    ·rename_i hj;exact .inr ⟨j,rfl,hj,hh2⟩
 have gdis: ∀l m,l≠m→(gs' l).disj (gs' m):=by
  intro l m hlm c;cases h1:gs' l c with
  | none=>exact .inl rfl
  | some o=>
    right;cases h2:gs' m c with
    | none=>rfl
    | some o2=>
      exfalso;rcases char l c o h1 with⟨a1,a2,_⟩ | ⟨a1,a2⟩ | ⟨j,a1,a2,a3⟩
      ·rcases char m c o2 h2 with⟨e1,_⟩ | ⟨e1,e2⟩ | ⟨j2,e1,e2,e3⟩
       ·omega
       ·rw [a2,hqb]at e2;cases e2
       ·exact ne0 (j2+1) c o2 e3 a2
      ·rcases char m c o2 h2 with⟨e1,e2,_⟩ | ⟨e1,e2⟩ | ⟨j2,e1,e2,e3⟩
       ·rw [e2,hqb]at a2;cases a2
       ·omega
       ·exact hqd _ c o2 o e3 a2
      ·rcases char m c o2 h2 with⟨e1,e2,_⟩ | ⟨e1,e2⟩ | ⟨j2,e1,e2,e3⟩
       ·exact ne0 (j+1) c o a3 e2
       ·exact hqd _ c o o2 a3 e2
       ·rcases g6 (j+2) (j2+2) (by omega) c with d | d
        ·rw [d]at a3;cases a3
        ·rw [d]at e3;cases e3
 refine⟨aIw gs',⟨V',gs',g1,?_,?_,⟨?_,?_,gdis⟩,rfl⟩,?_⟩
 ·intro j hj;rw [htb]at hj;dsimp only at hj;omega
 ·rw [htb];rfl
 ·intro l e he;rw [htb]at he
  match l,he with
  | 0,he=>
    have he':some (aG.cells (eQ E 1 (ws.set i y)))=some e:=he;simp only [sI']at he';subst he';refine⟨b,k,c1,cs',T',rfl,?_,rs.set i v,tail,?_,?_⟩
    ·rw [←Array.length_toList,hcs,List.length_set,Array.length_toList];exact c3
    ·rw [hcs,c4,List.set_append_left _ _ hil]
    refine aIP (by rw [dS,List.length_set,List.length_set,hlen]) ?_
    intro j a v2 ha hv2;rw [dR,List.getElem?_set]at ha;rw [List.getElem?_set]at hv2;split at ha
    ·rename_i hij;subst hij;rw [if_pos rfl,if_pos hil]at hv2;simp only [sI']at hv2;subst hv2;simp only [Option.map_some,sI']at ha;subst ha;refine hv V' (1+i) ?_;rw [Nat.add_comm];show(if i=i then some x else _)=some x
     rw [if_pos rfl]
    ·rename_i hij;rw [if_neg hij]at hv2;cases hwj:ws[j]? with
     | none=>rw [hwj]at ha;cases ha
     | some o=>
       rw [hwj]at ha;simp only [Option.map_some,sI']at ha;have hr:=aI.at c5 (i:=j) (a:=E.hd (2+j) o) (v:=v2) (by rw [List.getElem?_set,if_neg hij,dR,hwj];rfl) hv2
       subst ha;refine R.hdRep V V' (2+j) (1+j) o v2 ?_ hr;show V (2+j)=V' (1+j);rw [Nat.add_comm 1 j];show V (2+j)=(if i=j then some x else V (j+2))
       rw [if_neg hij,Nat.add_comm]
  | j+1,he=>
    have he':aJ (fF E (ws.set i y)) (j+1)=some e:=he;rw [cB,List.getElem?_set]at he';show aG.interp (obN tb N) V' (j+1) e (if i=j then q else gs (j+2))
    split at he'
    ·rename_i hij;subst hij;simp only [Option.map_some,sI']at he';subst he';rw [if_pos rfl];exact hq V' (i+1) (by show(if i=i then some x else _)=_;rw [if_pos rfl])
    ·rename_i hij;rw [if_neg hij];have hj2:aJ (fM E ws i) (j+2)=some e:=by rw [dJ,if_neg hij];exact he'
     have hin:=g4 _ _ hj2;cases hwj:ws[j]? with
     | none=>rw [hwj]at he';cases he'
     | some s=>
       rw [hwj]at he';simp only [Option.map_some,sI']at he';subst he';refine R.enLoc N V V' (j+2) (j+1) s _ ?_ hin;show V (j+2)=(if i=j then some x else V (j+2))
       rw [if_neg hij]
 ·intro l he;rw [htb]at he
  match l,he with
  | 0,he=>cases he
  | j+1,he=>
    have he':aJ (fF E (ws.set i y)) (j+1)=none:=he;rw [cB,List.getElem?_set]at he';show(if i=j then q else gs (j+2))=_
    split at he'
    ·rename_i hij;subst hij;cases he'
    ·rename_i hij;rw [if_neg hij];refine g5 _ ?_;show aJ (fM E ws i) (j+2)=none;rw [dJ,if_neg hij];exact he'
 ·intro c o hh;obtain⟨m,hm⟩:=aIG hh;rcases char m c o hm with⟨_,a2,a3⟩ | ⟨_,a2⟩ | ⟨j,_,_,a3⟩
  ·exact .inl ⟨a2,a3⟩
  ·refine .inr ⟨?_,.inl a2⟩;intro e;have e:c=b:=e;rw [e,hqb]at a2;cases a2
  ·exact .inr ⟨ne0 (j+1) c o a3,.inr (hsub _ _ _ a3)⟩
theorem Inv.putS(R:RowS tb E){V:Val}{h:aC A}{hR:PHeap}{w:World}{l i k q:Nat}{ws:List E.X}{y:E.X}(hi:Inv (obI tb) V (toF h) hR w)(hl:aJ h l=some (.abs (R.hole ws i) [k]))(hq:aJ h q=some (E.en y))(hql:q≠l)(hkl:k≠l)(hlt:i<ws.length):
 ∃b kk cs T,V l=some (b,kk)∧w.heap[b]? =some (.cells cs T)∧i<cs.size∧ ∀(cs':Array Value) (T':TypeId) (v:Value) (w':World),cs'.toList=cs.toList.set i v→Rep V (E.hd q y) v→w'.heap[b]? =some (.cells cs' T')→(∀c,c≠b→w'.heap[c]? =w.heap[c]?)→
  Inv (obI tb) V (toF (((h.set l (some (.abs (R.row (ws.set i y)) []))).set k none).set q none)) hR w':=by
 have hll:=cA hl;have hqq:=cA hq;obtain⟨hs,h1,h2,h3,h4,h5,h6⟩:=hi;obtain⟨b,kk,hV,bs,hlo,N,hob⟩:=h1 l _ hl;obtain⟨x0,r0,hx0,rfl,hr0⟩:=hlo;have hr0:r0=[]:=hr0;subst hr0;have hinq:=h1 q _ hq;obtain⟨N2,hinq2⟩:=jA hinq;obtain⟨x,hx⟩:=l6 hinq2;cases N with
 | zero=>exact hob.elim
 | succ N=>
 have q1:EnAt tb (max N N2) (E.en y) x (hs q):=fun V2 l2 e2=>R.enLoc _ V V2 q l2 y _ (hx.trans e2.symm) (aIH (fun t r bs p h=>lA tb (Nat.le_max_right N N2) h) hinq2);have q2:=lA tb (show N+1≤max N N2+1 by omega) hob
 obtain⟨cs,T,a1,a2,a3⟩:=R.put (y:=y) q2 q1 (h3 q l hql) hlt;have a1:hs l b=some (.cells cs T):=a1;refine⟨b,kk,cs,T,hV,h5 l b _ a1,a2,?_⟩;intro cs' T' v w' e1 e2 e3 e4;obtain⟨p,p1,p2⟩:=a3 cs' T' v e1 (fun V2 l2 e=>R.hdRep V V2 q l2 y v (hx.trans e.symm) e2);have p2: ∀c o,p c=some o→(c=b∧o=.cells cs' T')∨(c≠b∧(hs q c=some o∨hs l c=some o)):=p2
 let hs':Nat→PHeap:=fun m=>if m=l then p else if m=k then .emp else if m=q then .emp else hs m
 have outb: ∀m,m≠l→hs m b=none:=by
  intro m hm;rcases h3 l m (fun e=>hm e.symm) b with d | d
  ·rw [a1]at d;cases d
  ·exact d
 have outR:hR b=none:=by
  rcases h4 l b with d | d
  ·rw [a1]at d;cases d
  ·exact d
 have G: ∀(g:aC A) (m j:Nat) (e:Option (aG A)),m≠j→aJ (g.set j e) m=aJ g m:=by
  intro g m j e hm;simp only [aJ,gD'];rw [List.getElem?_set_ne (fun e=>hm e.symm)]
 have Gn: ∀(g:aC A) (j:Nat),aJ (g.set j none) j=none:=by
  intro g j;unfold aJ;rw [gD',List.getElem?_set,if_pos rfl];split<;>rfl
 have get1: ∀m,m≠l→m≠k→m≠q→aJ (((h.set l (some (.abs (R.row (ws.set i y)) []))).set k none).set q none) m=aJ h m:=by
  intro m hml hmk hmq;rw [G _ _ _ _ hmq,G _ _ _ _ hmk,G _ _ _ _ hml]
 have get2:aJ (((h.set l (some (.abs (R.row (ws.set i y)) []))).set k none).set q none) l=some (.abs (R.row (ws.set i y)) []):=by
  rw [G _ _ _ _ (fun e=>hql e.symm),G _ _ _ _ (fun e=>hkl e.symm)];simp only [aJ,gD'];rw [List.getElem?_set_self hll];rfl
 have get3:aJ (((h.set l (some (.abs (R.row (ws.set i y)) []))).set k none).set q none) q=none:=Gn _ q
 have get4:aJ (((h.set l (some (.abs (R.row (ws.set i y)) []))).set k none).set q none) k=none:=by
  by_cases hkq:k=q
  ·rw [hkq];exact Gn _ q
  ·rw [G _ _ _ _ hkq];exact Gn _ k
 refine⟨hs',?_,?_,?_,?_,?_,?_,h6.2⟩
 ·intro m e he;have he':aJ (((h.set l (some (.abs (R.row (ws.set i y)) []))).set k none).set q none) m=some e:=he;show aG.interp _ _ _ _ (if m=l then p else if m=k then .emp else if m=q then .emp else hs m)
  by_cases hml:m=l
  ·subst hml;rw [get2]at he';simp only [sI']at he';subst he';rw [if_pos rfl];exact⟨b,kk,hV,[],rfl,_,p1⟩
  ·by_cases hmk:m=k
   ·rw [hmk,get4]at he';cases he'
   ·by_cases hmq:m=q
    ·rw [hmq,get3]at he';cases he'
    ·rw [if_neg hml,if_neg hmk,if_neg hmq];rw [get1 m hml hmk hmq]at he';exact h1 m e he'
 ·intro m he;have he':aJ (((h.set l (some (.abs (R.row (ws.set i y)) []))).set k none).set q none) m=none:=he;show(if m=l then p else if m=k then .emp else if m=q then .emp else hs m)=_
  by_cases hml:m=l
  ·subst hml;rw [get2]at he';cases he'
  ·rw [if_neg hml]
   by_cases hmk:m=k
   ·rw [if_pos hmk]
   ·rw [if_neg hmk]
    by_cases hmq:m=q
    ·rw [if_pos hmq]
    ·rw [if_neg hmq];rw [get1 m hml hmk hmq]at he';exact h2 m he'
 ·have part: ∀m c,m≠l→m≠k→m≠q→p c=none∨hs m c=none:=by
   intro m c hml hmk hmq;cases hp:p c with
   | none=>exact .inl rfl
   | some o=>
     right;rcases p2 c o hp with⟨rfl,_⟩ | ⟨_,d | d⟩
     ·exact outb m hml
     ·rcases h3 q m (fun e=>hmq e.symm) c with f | f
      ·rw [f]at d;cases d
      ·exact f
     ·rcases h3 l m (fun e=>hml e.symm) c with f | f
      ·rw [f]at d;cases d
      ·exact f
  have val: ∀m,hs' m=(if m=l then p else if m=k then .emp else if m=q then .emp else hs m):=fun _=>rfl
  intro m m' hmm c;rw [val,val]
  by_cases a1:m=l
  ·rw [if_pos a1]
   by_cases a2:m'=l
   ·exact(hmm (a1.trans a2.symm)).elim
   ·rw [if_neg a2]
    by_cases a3:m'=k
    ·rw [if_pos a3];exact .inr rfl
    ·rw [if_neg a3]
     by_cases a4:m'=q
     ·rw [if_pos a4];exact .inr rfl
     ·rw [if_neg a4];exact part m' c a2 a3 a4
  ·rw [if_neg a1]
   by_cases a0:m=k
   ·rw [if_pos a0];exact .inl rfl
   ·rw [if_neg a0]
    by_cases b0:m=q
    ·rw [if_pos b0];exact .inl rfl
    ·rw [if_neg b0]
     by_cases a2:m'=l
     ·rw [if_pos a2];exact(part m c a1 a0 b0).symm
     ·rw [if_neg a2]
      by_cases a3:m'=k
      ·rw [if_pos a3];exact .inr rfl
      ·rw [if_neg a3]
       by_cases a4:m'=q
       ·rw [if_pos a4];exact .inr rfl
       ·rw [if_neg a4];exact h3 m m' hmm c
 ·intro m c;show(if m=l then p else if m=k then .emp else if m=q then .emp else hs m) c=none∨hR c=none
  split
  ·cases hp:p c with
   | none=>exact .inl rfl
   | some o=>
     right;rcases p2 c o hp with⟨rfl,_⟩ | ⟨_,d | d⟩
     ·exact outR
     ·rcases h4 q c with f | f
      ·rw [f]at d;cases d
      ·exact f
     ·rcases h4 l c with f | f
      ·rw [f]at d;cases d
      ·exact f
  ·split
   ·exact .inl rfl
   ·split
    ·exact .inl rfl
    ·exact h4 m c
 ·intro m c o hh;have hh':(if m=l then p else if m=k then .emp else if m=q then .emp else hs m) c=some o:=hh
  split at hh'
  ·rcases p2 c o hh' with⟨rfl,rfl⟩ | ⟨hc,d | d⟩
   ·exact e3
   ·rw [e4 c hc];exact h5 q c o d
   ·rw [e4 c hc];exact h5 l c o d
  ·split at hh'
   ·cases hh'
   ·split at hh'
    ·cases hh'
    ·rename_i hml _ _
     have hc:c≠b:=by
      intro e;subst e;rw [outb m hml]at hh';cases hh'
     rw [e4 c hc];exact h5 m c o hh'
 ·intro c o hh
  have hc:c≠b:=by
   intro e;subst e;rw [outR]at hh;cases hh
  rw [e4 c hc];exact h6.1 c o hh
end Go.Sh
namespace Go.Sh
open Go
variable [Con] {A:Type} {P:Program} {tb:A→Nat×aC A}
def PHeap.upd(p:PHeap)(b:Nat)(o:Obj):PHeap:=fun c=>if c=b then some o else p c
theorem vJ{w:World}{b off:Nat}{cs:Array Value}{T:TypeId}(hb:w.heap[b]? =some (.cells cs T)){v:Value}(hv:v.oneCell'=true)(ho:off<cs.size):
 ∃w' cs',(storeCells ⟨b,off,none⟩ [v] 0).run P w=.ok () w'∧w'.heap[b]? =some (.cells cs' T)∧cs'.toList=cs.toList.set off v∧(∀c,c≠b→w'.heap[c]? =w.heap[c]?)∧b8 w w':=by
 obtain⟨w',cs',h1,h2,h3,h4,h5⟩:=dN (P:=P) [v] 0 w b off cs T hb (by simpa using hv) (by simp;omega)
 exact⟨w',cs',h1,h2,h3,h4,h5⟩
theorem sL{t:TypeId}{w w':World}{b off:Nat}{v:Value}(hs:bV P t=some 1)(hv:v.cells= #[v])(h1:(storeCells ⟨b,off,none⟩ [v] 0).run P w=.ok () w'):
 (Instr.storeAt t (.pointer (some ⟨b,off,none⟩)) v).run P w=.ok () w':=by
 have:v.cells.size=1:=by rw [hv];rfl
 have h2:v.cells.toList=[v]:=by rw [hv]
 simp [Instr.storeAt,Instr.sureAddr,storeVar,aY hs,this,h2,h1]
def gQ.fld(R:gQ tb)(P:Program)(t:TypeId)(l off:Nat)(h:aC A):Option (AVal×Option Prop):=
 match aJ h l,d9 P t with
 | some (.abs a [k]),some false=>match R.isHole a with
   | some (ws,i)=>some (.ptr k 0,some (i<R.len ws∧off=i))
   | none=>none
 | _,_=>none
end Go.Sh
namespace Go.Sh
open Go
variable [Con] {A:Type} {P:Program} {E:wN A} {tb:A→Nat×aC A}
structure d4 (tb:A→Nat×aC A) (E:wN A) extends lF tb E where
 nil:E.X
 nilIn: ∀(N:Nat) (V:Val) (l b:Nat),V l=some (b,0)→aG.interp (obN tb N) V l (E.en nil) .emp
 nilHd: ∀(V:Val) (l:Nat),Rep V (E.hd l nil) (.slice none 0 0)
 inner:Nat
 cast:f6
theorem d4.mkI(R:d4 tb E){V:Val}{l b n:Nat}(hV:V l=some (b,n)){cs:Array Value}{T:TypeId}(hcs:cs.toList=List.replicate n (.slice none 0 0)):
 aG.interp (obI tb) V l (.abs (R.row (List.replicate n R.nil)) []) (.one b (.cells cs T)):=by
 refine⟨b,n,hV,[],rfl,1,?_⟩
 let gs:Nat→PHeap:=fun m=>match m with
  | 0=>.one b (.cells cs T)
  | _+1=>.emp
 have hat: ∀j,aJ (fF E (List.replicate n R.nil)) (j+1)=if j<n then some (E.en R.nil)else none:=by
  intro j;rw [cB,List.getElem?_replicate];split<;>rfl
 have gdis: ∀l m,l≠m→(gs l).disj (gs m):=by
  intro l m hlm
  match l,m,hlm with
  | 0,0,h=>exact(h rfl).elim
  | 0,_+1,_=>exact aIo _
  | _+1,0,_=>exact(aIo _).symm
  | _+1,_+1,_=>exact aIo _
 refine⟨fun m=>if m=0 then some (b,n)else some (0,0),gs,rfl,?_,?_,⟨?_,?_,gdis⟩,?_⟩
 ·intro j hj;rw [R.tbRow]at hj;dsimp only at hj;omega
 ·rw [R.tbRow];rfl
 ·intro l e he;rw [R.tbRow]at he
  match l,he with
  | 0,he=>
    have he':some (aG.cells (eQ E 1 (List.replicate n R.nil)))=some e:=he;simp only [sI']at he';subst he';refine⟨b,n,rfl,cs,T,rfl,by rw [←Array.length_toList,hcs,List.length_replicate],cs.toList,[],by simp,?_⟩
    refine aIP (by rw [dS,hcs];simp) ?_
    intro j a v ha hv;rw [dR,List.getElem?_replicate]at ha;rw [hcs,List.getElem?_replicate]at hv;split at ha
    ·rename_i hj;rw [if_pos hj]at hv;cases ha;cases hv;exact R.nilHd _ _
    ·cases ha
  | j+1,he=>
    have he':aJ (fF E (List.replicate n R.nil)) (j+1)=some e:=he;rw [hat]at he';split at he'
    ·cases he';exact R.nilIn 0 _ (j+1) 0 rfl
    ·cases he'
 ·intro l he;rw [R.tbRow]at he
  match l,he with
  | 0,he=>cases he
  | j+1,_=>rfl
 ·funext c;cases h:PHeap.one b (.cells cs T) c with
  | some o=>exact(aID gdis (l:=0) h).symm
  | none=>
    refine(aIV fun m=>?_).symm
    match m with
    | 0=>exact h
    | _+1=>rfl
def lF.at(R:lF tb E)(h:aC A):AVal→Bool
 | .ptr l _=>match aJ h l with
   | some (.abs o _)=>R.mine o
   | _=>false
 | .slice l _ _ _=>match aJ h l with
   | some (.abs o _)=>R.mine o
   | _=>false
 | _=>false
def d4.app2(R:d4 tb E)(P:Program)(ρ:Operand→AVal)(op:Op)(h:aC A)(K:AVal→aC A→Prop):Prop:=
 match op with
 | .call c=>match c.args.toList.map ρ with
   | [_,.slice lx 0 1 1]=>match aJ h lx with
     | some (.cells [v])=>cond (isNone v) (match AQ (.cell lx 0) R.cast [] h with
       | some (_,h')=>R.app P ρ (.call c) h' K
       | none=>False) (R.app P ρ (.call c) h K)
     | _=>False
   | _=>False
 | _=>False
theorem d4.app2_ok(R:d4 tb E)(ρ:Operand→AVal)(o:Oper)(h:aC A)(K:AVal→aC A→Prop)(hk:R.app2 P ρ o.op h K)(V:Val)(hR:PHeap)(w:World)(ρ':Operand→Value)(hi:Inv (obI tb) V (toF h) hR w)(hf: ∀l,h.length≤l→V l=none)(hρ: ∀x,Rep V (ρ x) (ρ' x)):
 ∃nx w' V' v v' h2,K v h2∧(execOp ρ' o).run P w=.ok nx w'∧(nx=.value v'∨nx=.skip ∧v'=undef)∧Rep V' v v'∧V.le V'∧(∀l,h2.length≤l→V' l=none)∧h.length≤h2.length∧Inv (obI tb) V' (toF h2) hR w'∧b8 w w':=by
 unfold d4.app2 at hk;split at hk
 case h_2=>exact hk.elim
 rename_i c hop;split at hk
 case h_2=>exact hk.elim
 split at hk
 case h_2=>exact hk.elim
 rename_i v hl;cases hb:isNone v with
 | false=>
   rw [hb]at hk;have hk:R.app P ρ (.call c) h K:=hk;rw [←hop]at hk;exact R.app_ok ρ o h K hk V hR w ρ' hi hf hρ
 | true=>
   rw [hb]at hk;simp only [cond_true]at hk;split at hk
   case h_2=>exact hk.elim
   rename_i tm' h' hc;obtain⟨V1,⟨a1,a2,a3,a4⟩,_⟩:=tU (xs:=[]) hc hi hf rfl;rw [←hop]at hk;obtain⟨nx,w',V',v1,v',h2,q1,q2,q3,q4,q5,q6,q7,q8,q9⟩:=R.app_ok ρ o h' K hk V1 hR w ρ' a4 a2 (fun x=>Rep.mono a1 _ _ (hρ x));exact⟨nx,w',V',v1,v',h2,q1,q2,q3,q4,Val.le_trans a1 q5,q6,Nat.le_trans a3 q7,q8,q9⟩
def d4.put2(R:d4 tb E)(P:Program)(ρ:Operand→AVal)(op:Op)(h:aC A)(K:AVal→aC A→Prop):Prop:=
 match op with
 | .store t a x=>match ρ a,bV P t with
   | .ptr l off,some 1=>match aJ h l with
     | some (.abs o [k])=>match R.isHole o,R.lab (ρ x)with
       | some (ws,i),some q=>match aJ h q with
         | some en=>match R.rd en with
           | some y=>cP (cond (Nat.beq q l) false (cond (Nat.beq k l) false true)) ((i<ws.length∧off=i∧R.hdIs q y (ρ x))∧K (.raw undef) (((h.set l (some (.abs (R.row (ws.set i y)) []))).set k none).set q none))
           | none=>False
         | none=>False
       | _,_=>False
     | _=>False
   | _,_=>False
 | _=>False
theorem d4.put2_ok(R:d4 tb E)(ρ:Operand→AVal)(o:Oper)(h:aC A)(K:AVal→aC A→Prop)(hk:R.put2 P ρ o.op h K)(V:Val)(hR:PHeap)(w:World)(ρ':Operand→Value)(hi:Inv (obI tb) V (toF h) hR w)(hf: ∀l,h.length≤l→V l=none)(hρ: ∀x,Rep V (ρ x) (ρ' x))(hone: ∀(q:Nat) (y:E.X) (v:Value),Rep V (E.hd q y) v→v.oneCell'=true∧v.cells= #[v]):
 ∃nx w' V' v v' h2,K v h2∧(execOp ρ' o).run P w=.ok nx w'∧(nx=.value v'∨nx=.skip ∧v'=undef)∧Rep V' v v'∧V.le V'∧(∀l,h2.length≤l→V' l=none)∧h.length≤h2.length∧Inv (obI tb) V' (toF h2) hR w'∧b8 w w':=by
 unfold d4.put2 at hk;split at hk
 case h_2=>exact hk.elim
 rename_i t a x hop;split at hk
 case h_2=>exact hk.elim
 rename_i l off ha hs;have hx:=hρ a;rw [ha]at hx;obtain⟨b,kk,hV,hx⟩:=hx;have hy:=hρ x;split at hk
 case h_2=>exact hk.elim
 rename_i ob k hl;split at hk
 case h_2=>exact hk.elim
 rename_i ws i q hh hlab;have:=R.isHole_eq _ _ _ hh;subst this;split at hk
 case h_2=>exact hk.elim
 rename_i en hen;split at hk
 case h_2=>exact hk.elim
 rename_i y hrd;have:=R.rd_eq _ _ hrd;subst this;obtain⟨hc,⟨hlt,rfl,hhd⟩,hK⟩:=bK.1 hk;have hql:q≠l:=by intro e;rw [e,Nat.beq_refl]at hc;cases hc
 have hkl:k≠l:=by
  intro e;rw [e,Nat.beq_refl]at hc;cases hc2:Nat.beq q l<;>rw [hc2]at hc<;>cases hc
 rw [R.hdIs_eq _ _ _ hhd]at hy;obtain⟨b1,kk1,cs,T,p1,p2,p3,p4⟩:=hi.putS R.toRowS hl hen hql hkl hlt;rw [hV]at p1;simp only [sI',pI']at p1;obtain⟨rfl,rfl⟩:=p1;obtain⟨h1,h2⟩:=hone q y _ hy;obtain⟨w',cs',s1,s2,s3,s4,s5⟩:=vJ (P:=P) p2 (v:=ρ' x) (off:=off) h1 p3;have hrun:=sL (t:=t) hs h2 s1;refine⟨.skip,w',V,.raw undef,undef,_,hK,by simp [execOp,hop,hx,hrun],.inr ⟨rfl,rfl⟩,rfl,V.le_refl,?_,by simp,p4 cs' T (ρ' x) w' s3 hy s2 s4,s5⟩
 intro m hm;exact hf m (by simpa using hm)
theorem RowS.single(R:RowS tb E){y:E.X}{x:Nat×Nat}{q:PHeap}{N b k:Nat}{cs:Array Value}{T:TypeId}{v:Value}{tail:List Value}(hq:EnAt tb N (E.en y) x q)(hb:q b=none)(hcs:cs.toList=v::tail)(hk:cs.size=k)(hv: ∀(V:Val) (l:Nat),V l=some x→Rep V (E.hd l y) v):
 ∃p,obN tb (N+1) (R.row [y]) (b,k) [] p∧ ∀c o,p c=some o→(c=b∧o=.cells cs T)∨q c=some o:=by
 have htb:=R.tbRow [y]
 let V':Val:=fun m=>match m with
  | 0=>some (b,k)
  | 1=>some x
  | _+2=>none
 let gs':Nat→PHeap:=fun m=>match m with
  | 0=>.one b (.cells cs T)
  | 1=>q
  | _+2=>.emp
 have d0:PHeap.disj (PHeap.one b (.cells cs T)) q:=by
  intro c
  by_cases h:c=b
  ·subst h;exact .inr hb
  ·left;unfold PHeap.one;rw [if_neg h]
 have gdis: ∀l m,l≠m→(gs' l).disj (gs' m):=by
  intro l m hlm
  match l,m,hlm with
  | 0,0,h=>exact(h rfl).elim
  | 0,1,_=>exact d0
  | 1,0,_=>exact d0.symm
  | 1,1,h=>exact(h rfl).elim
  | 0,_+2,_=>exact aIo _
  | 1,_+2,_=>exact aIo _
  | _+2,0,_=>exact(aIo _).symm
  | _+2,1,_=>exact(aIo _).symm
  | _+2,_+2,_=>exact aIo _
 refine⟨aIw gs',⟨V',gs',rfl,?_,?_,⟨?_,?_,gdis⟩,rfl⟩,?_⟩
 ·intro j hj;rw [htb]at hj;dsimp only at hj;omega
 ·rw [htb];rfl
 ·intro l e he;rw [htb]at he
  match l,he with
  | 0,he=>
    have he':some (aG.cells [E.hd 1 y])=some e:=he;simp only [sI']at he';subst he';refine⟨b,k,rfl,cs,T,rfl,hk,[v],tail,hcs,v,[],rfl,hv V' 1 rfl,rfl⟩
  | 1,he=>
    have he':some (E.en y)=some e:=he;cases he';exact hq V' 1 rfl
  | j+2,he=>
    have he':aJ (fF E [y]) (j+2)=some e:=he;rw [cB]at he';cases he'
 ·intro l he;rw [htb]at he
  match l,he with
  | 0,he=>cases he
  | 1,he=>
    have he':some (E.en y)=none:=he;cases he'
  | j+2,_=>rfl
 ·intro c o hh;obtain⟨m,hm⟩:=aIG hh
  match m,hm with
  | 0,hm=>
    left;have hm:PHeap.one b (.cells cs T) c=some o:=hm;unfold PHeap.one at hm;split at hm
    ·rename_i e;cases hm;exact⟨e,rfl⟩
    ·cases hm
  | 1,hm=>exact .inr hm
  | _+2,hm=>cases hm
theorem Inv.singleS(R:RowS tb E){V:Val}{h:aC A}{hR:PHeap}{w:World}{q:Nat}{y:E.X}(hi:Inv (obI tb) V (toF h) hR w)(hn:V h.length=none)(hq:aJ h q=some (E.en y)){w':World}{b k:Nat}{cs:Array Value}{T:TypeId}{v:Value}{tail:List Value}(hv:Rep V (E.hd q y) v)
 (hcs:cs.toList=v::tail) (hk:cs.size=k) (hw:w'.heap[b]? =some (.cells cs T)) (hb:w.heap[b]? =none) (hrest: ∀c o,c≠b→w.heap[c]? =some o→w'.heap[c]? =some o):
 Inv (obI tb) (V.add h.length (b,k)) (((toF h).put q none).put h.length (some (.abs (R.row [y]) []))) hR w':=by
 have hqq:=cA hq;obtain⟨hs,h1,h2,h3,h4,h5,h6⟩:=hi;have hinq:=h1 q _ hq;obtain⟨N2,hinq2⟩:=jA hinq;obtain⟨x,hx⟩:=l6 hinq2;have hen:EnAt tb N2 (E.en y) x (hs q):=fun V2 l2 e2=>R.enLoc _ V V2 q l2 y _ (hx.trans e2.symm) hinq2
 have out: ∀m,hs m b=none:=by
  intro m;cases hh:hs m b with
  | none=>rfl
  | some o=>have:=h5 m b o hh;rw [hb]at this;cases this
 have outR:hR b=none:=by
  cases hh:hR b with
  | none=>rfl
  | some o=>have:=h6.1 b o hh;rw [hb]at this;cases this
 obtain⟨p,p1,p2⟩:=R.single (b:=b) (T:=T) hen (out q) hcs hk (fun V2 l2 e=>R.hdRep V V2 q l2 y v (hx.trans e.symm) hv);have hql:q≠h.length:=by omega
 let hs':Nat→PHeap:=fun m=>if m=h.length then p else if m=q then .emp else hs m
 have val: ∀m,hs' m=(if m=h.length then p else if m=q then .emp else hs m):=fun _=>rfl
 have part: ∀m c,m≠h.length→m≠q→p c=none∨hs m c=none:=by
  intro m c hml hmq;cases hp:p c with
  | none=>exact .inl rfl
  | some o=>
    right;rcases p2 c o hp with⟨rfl,_⟩ | d
    ·exact out m
    ·rcases h3 q m (fun e=>hmq e.symm) c with f | f
     ·rw [f]at d;cases d
     ·exact f
 have hVle:=aIB (x:=(b,k)) hn;refine⟨hs',?_,?_,?_,?_,?_,?_,h6.2⟩
 ·intro m e he;rw [val]
  by_cases hml:m=h.length
  ·subst hml;rw [if_pos rfl];simp only [bE.put,if_true,sI']at he;subst he;exact⟨b,k,aIs _ _ _,[],rfl,_,p1⟩
  ·rw [if_neg hml]
   by_cases hmq:m=q
   ·subst hmq;simp [bE.put,hml]at he
   ·rw [if_neg hmq];simp [bE.put,hml,hmq]at he;exact aIE hVle (h1 m e he)
 ·intro m he;rw [val]
  by_cases hml:m=h.length
  ·subst hml;simp [bE.put]at he
  ·rw [if_neg hml]
   by_cases hmq:m=q
   ·rw [if_pos hmq]
   ·rw [if_neg hmq];simp [bE.put,hml,hmq]at he;exact h2 m he
 ·intro m m' hmm c;rw [val,val]
  by_cases a1:m=h.length
  ·rw [if_pos a1]
   by_cases a2:m'=h.length
   ·exact(hmm (a1.trans a2.symm)).elim
   ·rw [if_neg a2]
    by_cases a4:m'=q
    ·rw [if_pos a4];exact .inr rfl
    ·rw [if_neg a4];exact part m' c a2 a4
  ·rw [if_neg a1]
   by_cases b0:m=q
   ·rw [if_pos b0];exact .inl rfl
   ·rw [if_neg b0]
    by_cases a2:m'=h.length
    ·rw [if_pos a2];exact(part m c a1 b0).symm
    ·rw [if_neg a2]
     by_cases a4:m'=q
     ·rw [if_pos a4];exact .inr rfl
     ·rw [if_neg a4];exact h3 m m' hmm c
 ·intro m c;rw [val];split
  ·cases hp:p c with
   | none=>exact .inl rfl
   | some o=>
     right;rcases p2 c o hp with⟨rfl,_⟩ | d
     ·exact outR
     ·rcases h4 q c with f | f
      ·rw [f]at d;cases d
      ·exact f
  ·split
   ·exact .inl rfl
   ·exact h4 m c
 ·intro m c o hh;rw [val]at hh;split at hh
  ·rcases p2 c o hh with⟨rfl,rfl⟩ | d
   ·exact hw
   ·have hc:c≠b:=by intro e;subst e;rw [out q]at d;cases d
    exact hrest c o hc (h5 q c o d)
  ·split at hh
   ·cases hh
   ·have hc:c≠b:=by intro e;subst e;rw [out m]at hh;cases hh
    exact hrest c o hc (h5 m c o hh)
 ·intro c o hh;have hc:c≠b:=by intro e;subst e;rw [outR]at hh;cases hh
  exact hrest c o hc (h6.1 c o hh)
def d4.app4(R:d4 tb E)(P:Program)(ρ:Operand→AVal)(op:Op)(h:aC A)(K:AVal→aC A→Prop):Prop:=
 match op with
 | .call c=>match c.callee,c.argTypes.toList,c.args.toList.map ρ with
   | .builtin .append,[st,xt],[s,x]=>match P.underlying st,P.underlying xt with
     | some (.slice e),some (.slice _)=>match P.info? e with
       | some i=>match kF x 1 h with
         | some (.cells [v],m,_,none)=>match R.lab v with
           | some q=>match aJ h q with
             | some en=>match R.rd en with
               | some y=>cP (fV s&&(Nat.beq i.size 1&&Nat.ble i.bytes 4096&&(match i.zero with | some z=>Nat.beq (f0 z).cells.length 1 | none=>false)))
                  ((m=1∧R.hdIs q y v)∧K (.slice h.length 0 1 1) ((h.set q none)++ [some (.abs (R.row [y]) [])]))
               | none=>False
             | none=>False
           | none=>False
         | _=>False
       | none=>False
     | _,_=>False
   | _,_,_=>False
 | _=>False
theorem d4.app4_ok(R:d4 tb E)(ρ:Operand→AVal)(o:Oper)(h:aC A)(K:AVal→aC A→Prop)(hk:R.app4 P ρ o.op h K)(V:Val)(hR:PHeap)(w:World)(ρ':Operand→Value)(hi:Inv (obI tb) V (toF h) hR w)(hf: ∀l,h.length≤l→V l=none)(hρ: ∀x,Rep V (ρ x) (ρ' x)):
 ∃nx w' V' v v' h2,K v h2∧(execOp ρ' o).run P w=.ok nx w'∧(nx=.value v'∨nx=.skip ∧v'=undef)∧Rep V' v v'∧V.le V'∧(∀l,h2.length≤l→V' l=none)∧h.length≤h2.length∧Inv (obI tb) V' (toF h2) hR w'∧b8 w w':=by
 unfold d4.app4 at hk;split at hk
 case h_2=>exact hk.elim
 rename_i c hop;split at hk
 case h_2=>exact hk.elim
 rename_i st xt s x hcl hts hxs;split at hk
 case h_2=>exact hk.elim
 rename_i e e2 h1 h2';split at hk
 case h_2=>exact hk.elim
 rename_i i hti;split at hk
 case h_2=>exact hk.elim
 rename_i v m lx hsrc;split at hk
 case h_2=>exact hk.elim
 rename_i q hq;split at hk
 case h_2=>exact hk.elim
 rename_i en hen;split at hk
 case h_2=>exact hk.elim
 rename_i y hy;have:=R.rd_eq _ _ hy;subst this;obtain⟨hb,⟨rfl,hhd⟩,hk2⟩:=bK.1 hk;clear hk;obtain⟨hb0,hb⟩:=Bool.and_eq_true_iff.1 hb;obtain⟨hb,hb3⟩:=Bool.and_eq_true_iff.1 hb;obtain⟨hb1,hb2⟩:=Bool.and_eq_true_iff.1 hb;have hsize:i.size=1:=Nat.eq_of_beq_eq_true hb1;have hbytes:i.bytes≤4096:=Nat.le_of_ble_eq_true hb2;have:=hU hb0;subst this;have:=R.hdIs_eq _ _ _ hhd;subst this
 obtain⟨z,hz,hzl⟩: ∃z,i.zero=some z∧(f0 z).cells.length =1:=by
  cases hz:i.zero with
  | none=>rw [hz]at hb3;cases hb3
  | some z=>rw [hz]at hb3;exact⟨z,rfl,Nat.eq_of_beq_eq_true hb3⟩
 have hzs:z.cells.size=1:=by
  have:=aI.length (cZ V z);rw [Array.length_toList]at this;rw [this,hzl]
 have hrun: ∀bt,c.callee=.builtin bt→ ∃cs,execOp ρ' o=builtin bt c.argTypes o.type cs (c.args.map ρ'):=by
  intro bt hcl;have h0:execOp ρ' o=(do let d←resolve ρ' c o.type;invoke d.target d.args):=by simp only [execOp,hop]
  rw [h0];unfold resolve;rw [hcl];exact⟨_,rfl⟩
 obtain⟨cs0,hrun⟩:=hrun _ hcl;have hargs:=gF hρ c.args.toList;have hargs':(c.args.map ρ').toList =c.args.toList.map ρ':=by simp
 rw [←hargs',hxs]at hargs;obtain⟨s',ys,e1,r1,x',zs,e3,r3,r4⟩:=hargs;have r4':zs=[]:=r4;subst r4' e3;have r1:s'=.slice none 0 0:=r1;subst r1;have e2':c.args.map ρ'= #[.slice none 0 0,x']:=by apply Array.ext';rw [e1]
 have hty:c.argTypes= #[st,xt]:=by apply Array.ext';rw [hts]
 have hrun:execOp ρ' o=(do Pure.pure (.value (←Builtin.append_ #[st,xt] o.type #[.slice none 0 0,x']))):=by rw [hrun,hty,e2'];rfl
 obtain⟨vs,base2,cap2,q1,q2,q3,q4,q5⟩:=kG hsrc trivial (hi.drew (w.drawn+1)) r3;obtain⟨v',vs',rfl,q6,q7⟩: ∃v' vs',vs=v'::vs'∧Rep V (E.hd q y) v'∧aI V [] vs':=q4;have q7':vs'=[]:=q7;subst q7' q1;have hVn:V h.length=none:=hf _ (Nat.le_refl _);obtain⟨ncap,rest,g1,g2,g3⟩:=kE (ty:=o.type) (row:=[]) (ws:=[v']) (m:=1) (sLen:=0) (sCap:=0) (base:=none) h1 h2' hti hz (by rw [hsize];have:=q2 1 (Nat.le_refl _);simpa using this) (by omega) hbytes (by omega) cG
 have hrest:rest.length=ncap - (0+1):=by rw [g2,hzs,Nat.mul_one]
 have hinv:=hi.singleS R.toRowS (y:=y) hVn hen (w':= {w with drawn:=w.drawn+1,heap:=w.heap.push (.cells ([]++ [v']++rest).toArray e) }) (b:=w.heap.size) (k:=ncap) (cs:=([]++ [v']++rest).toArray) (T:=e) q6 (tail:=rest) (by simp) (by simp;omega) (by simp) (by simp)
  (by intro c o hc hh;have hl:=(Array.getElem?_eq_some_iff.1 hh).1;simp only [Array.getElem?_push];rw [if_neg (by omega)];exact hh)
 have hqq:=cA hen;refine⟨_,{w with drawn:=w.drawn+1,heap:=w.heap.push (.cells ([]++ [v']++rest).toArray e) },V.add h.length (w.heap.size,ncap),_,_,_,hk2,by rw [hrun];exact dT g3,.inl rfl,⟨_,_,rfl,g1,.inl ⟨_,_,aIs _ _ _,rfl,by omega⟩⟩,aIB hVn,?_,by simp,?_,⟨rfl,rfl,by simp,fun _ _=>dH _ _ _ _⟩⟩
 ·intro m hm;simp at hm;rw [aIY _ _ (by omega)]
  exact hf m (by omega)
 ·have hF:=fG (h.set q none) (aG.abs (R.row [y]) []);rw [fR none hqq]at hF;rw [hF]
  simpa using hinv
def d4.app3(R:d4 tb E)(P:Program)(ρ:Operand→AVal)(op:Op)(h:aC A)(K:AVal→aC A→Prop):Prop:=
 match op with
 | .call c=>match c.args.toList.map ρ with
   | [_,.slice lx 0 1 1]=>match aJ h lx with
     | some (.cells [v])=>cond (isNone v) (match AQ (.cell lx 0) R.cast [] h with
       | some (_,h')=>R.app4 P ρ (.call c) h' K
       | none=>False) (R.app4 P ρ (.call c) h K)
     | _=>False
   | _=>False
 | _=>False
theorem d4.app3_ok(R:d4 tb E)(ρ:Operand→AVal)(o:Oper)(h:aC A)(K:AVal→aC A→Prop)(hk:R.app3 P ρ o.op h K)(V:Val)(hR:PHeap)(w:World)(ρ':Operand→Value)(hi:Inv (obI tb) V (toF h) hR w)(hf: ∀l,h.length≤l→V l=none)(hρ: ∀x,Rep V (ρ x) (ρ' x)):
 ∃nx w' V' v v' h2,K v h2∧(execOp ρ' o).run P w=.ok nx w'∧(nx=.value v'∨nx=.skip ∧v'=undef)∧Rep V' v v'∧V.le V'∧(∀l,h2.length≤l→V' l=none)∧h.length≤h2.length∧Inv (obI tb) V' (toF h2) hR w'∧b8 w w':=by
 unfold d4.app3 at hk;split at hk
 case h_2=>exact hk.elim
 rename_i c hop;split at hk
 case h_2=>exact hk.elim
 split at hk
 case h_2=>exact hk.elim
 rename_i v hl;cases hb:isNone v with
 | false=>
   rw [hb]at hk;have hk:R.app4 P ρ (.call c) h K:=hk;rw [←hop]at hk;exact R.app4_ok ρ o h K hk V hR w ρ' hi hf hρ
 | true=>
   rw [hb]at hk;simp only [cond_true]at hk;split at hk
   case h_2=>exact hk.elim
   rename_i tm' h' hc;obtain⟨V1,⟨a1,a2,a3,a4⟩,_⟩:=tU (xs:=[]) hc hi hf rfl;rw [←hop]at hk;obtain⟨nx,w',V',v1,v',h2,q1,q2,q3,q4,q5,q6,q7,q8,q9⟩:=R.app4_ok ρ o h' K hk V1 hR w ρ' a4 a2 (fun x=>Rep.mono a1 _ _ (hρ x));exact⟨nx,w',V',v1,v',h2,q1,q2,q3,q4,Val.le_trans a1 q5,q6,Nat.le_trans a3 q7,q8,q9⟩
def d4.begins(R:d4 tb E)(P:Program)(c:Call)(s:AVal):Bool:=cond (fV s) (match c.callee,c.argTypes.toList with
 | .builtin .append,[st,_]=>match P.underlying st with
   | some (.slice e)=>match P.underlying e with
     | some (.slice e2)=>match bV P e2 with
       | some n=>Nat.beq n R.inner
       | none=>false
     | _=>false
   | _=>false
 | _,_=>false) false
def d4.ops(R:d4 tb E)(P:Program)(B:(Operand→AVal)→Op→aC A→(AVal→aC A→Prop)→Prop)(ρ:Operand→AVal)(op:Op)(h:aC A)(K:AVal→aC A→Prop):Prop:=
 match op with
 | .makeSlice t n m=>match P.underlying t,ρ n,ρ m with
   | some (.slice e),.int _ a,.int _ b=>match P.info? e,P.underlying e with
     | some i,some (.slice e2)=>match i.zero with
       | some (.slice none 0 0)=>cond (match bV P e2 with | some s=>Nat.beq s R.inner | none=>false) (cP (Nat.ble i.bytes 4096&&Nat.beq i.size 1) ((0≤a∧a=b∧a≤4294967296)∧K (.slice h.length 0 a.toNat 1) (h++ [some (.abs (R.row (List.replicate a.toNat R.nil)) [])]))) (B ρ (.makeSlice t n m) h K)
       | _=>B ρ (.makeSlice t n m) h K
     | _,_=>B ρ (.makeSlice t n m) h K
   | _,_,_=>B ρ (.makeSlice t n m) h K
 | .store t a x=>cond (R.at h (ρ a)) (R.put2 P ρ (.store t a x) h K) (B ρ (.store t a x) h K)
 | .call c=>match c.args.toList.map ρ with
   | s::_=>cond (R.at h s) (R.app2 P ρ (.call c) h K) (cond (R.begins P c s) (R.app3 P ρ (.call c) h K) (B ρ (.call c) h K))
   | []=>B ρ (.call c) h K
 | .load t a=>cond (R.at h (ρ a)) (R.load P ρ (.load t a) h K) (B ρ (.load t a) h K)
 | op=>B ρ op h K
theorem d4.ops_ok(R:d4 tb E)(hone: ∀(V:Val) (q:Nat) (y:E.X) (v:Value),Rep V (E.hd q y) v→v.oneCell'=true∧v.cells= #[v]){B:(Operand→AVal)→Op→aC A→(AVal→aC A→Prop)→Prop}(hB:HE tb P B):HE tb P (R.ops P B):=by
 intro ρ o h K hk V hR w ρ' hi hf hρ;unfold d4.ops at hk;split at hk
 ·rename_i t n m hop;have rest:B ρ (.makeSlice t n m) h K→_:=fun hk=>hB ρ o h K (by rw [hop];exact hk) V hR w ρ' hi hf hρ
  split at hk
  case h_2=>exact rest hk
  rename_i e ka a kb b hu hn hm;split at hk
  case h_2=>exact rest hk
  rename_i i e2 hti hu2;split at hk
  case h_2=>exact rest hk
  rename_i hz;cases hcc:(match bV P e2 with | some s=>Nat.beq s R.inner | none=>false)with
  | false=>rw [hcc]at hk;exact rest hk
  | true=>
  rw [hcc]at hk;obtain⟨hc,⟨o1,hab,o3⟩,hk2⟩:=bK.1 hk;subst hab;obtain⟨hc1,hc2⟩:=Bool.and_eq_true_iff.1 hc;have hb:=Nat.le_of_ble_eq_true hc1;have hs1:=Nat.eq_of_beq_eq_true hc2;have hx:=hρ n;rw [hn]at hx;have hy:=hρ m;rw [hm]at hy;have e1:ρ' n=.int ka a:=hx;have e2:ρ' m=.int kb a:=hy;have hrun:=k9 (P:=P) (k:=ka) (k':=kb) (n:=a) (w:=w) hu hti hz hb o1 o3 (by rw [hs1];rfl) (by omega)
  have hV:=hf h.length (Nat.le_refl _);rw [hs1,Nat.mul_one]at hrun
  have hcs:((Array.range a.toNat).map fun j=>(Value.slice none 0 0).cells[j%(Value.slice none 0 0).cells.size]!).toList =List.replicate a.toNat (Value.slice none 0 0):=by
   have hcell:(Value.slice none 0 0).cells = #[.slice none 0 0]:=rfl;rw [hcell];exact xR _
  have hinv:=Inv.push (e:=.abs (R.row (List.replicate a.toNat R.nil)) []) (k:=a.toNat) hi hV (cE (Nat.le_refl _)) (R.mkI (T:=e) (aIs _ _ _) hcs);have hex:(execOp ρ' o).run P w=.ok (.value (.slice (some ⟨w.heap.size,0,none⟩) a.toNat a.toNat)) {w with heap:=w.heap.push (.cells ((Array.range a.toNat).map fun j=>(Value.slice none 0 0).cells[j%(Value.slice none 0 0).cells.size]!) e) } :=by simp only [execOp,hop,e1,e2];exact dT hrun
  refine⟨_,_,V.add h.length (w.heap.size,a.toNat),_,_,_,hk2,hex,.inl rfl,?_,aIB hV,?_,by simp,?_,⟨rfl,rfl,by simp,fun _ _=>dH _ _ _ _⟩⟩
  ·exact⟨_,_,rfl,Nat.le_refl _,.inl ⟨_,_,aIs _ _ _,rfl,by omega⟩⟩
  ·intro l hl;simp only [List.length_append,List.length_cons,List.length_nil]at hl;unfold Val.add;rw [if_neg (by omega)]
   exact hf l (by omega)
  ·show Inv _ _ (toF (h++ [some _])) hR _;rw [fG];exact hinv
 ·rename_i t a x hop;cases hc:R.at h (ρ a)with
  | false=>rw [hc]at hk;exact hB ρ o h K (by rw [hop];exact hk) V hR w ρ' hi hf hρ
  | true=>rw [hc]at hk;exact R.put2_ok ρ o h K (by rw [hop];exact hk) V hR w ρ' hi hf hρ (hone V)
 ·rename_i c hop;split at hk
  ·rename_i s r hs;cases hc:R.at h s with
   | false=>
     rw [hc]at hk;cases hc2:R.begins P c s with
     | false=>rw [hc2]at hk;exact hB ρ o h K (by rw [hop];exact hk) V hR w ρ' hi hf hρ
     | true=>rw [hc2]at hk;exact R.app3_ok ρ o h K (by rw [hop];exact hk) V hR w ρ' hi hf hρ
   | true=>rw [hc]at hk;exact R.app2_ok ρ o h K (by rw [hop];exact hk) V hR w ρ' hi hf hρ
  ·exact hB ρ o h K (by rw [hop];exact hk) V hR w ρ' hi hf hρ
 ·rename_i t a hop;cases hc:R.at h (ρ a)with
  | false=>rw [hc]at hk;exact hB ρ o h K (by rw [hop];exact hk) V hR w ρ' hi hf hρ
  | true=>rw [hc]at hk;exact R.load_ok ρ o h K (by rw [hop];exact hk) V hR w ρ' hi hf hρ
 ·exact hB ρ o h K hk V hR w ρ' hi hf hρ
def d4.dro(R:d4 tb E)(P:Program)(B:(Operand→AVal)→Op→aC A→Option (ORes A))(ρ:Operand→AVal)(op:Op)(h:aC A):Option (ORes A):=
 match op with
 | .load t a=>cond (R.at h (ρ a)) (match ρ a,d9 P t with
   | .ptr l off,some false=>match aJ h l with
     | some (.abs o [])=>match R.isRow o with
       | some ws=>some {v:=E.hd h.length (R.get ws off),upd:=[(l,some (.abs (R.hole ws off) [h.length]))],new:=[E.en (R.get ws off)],foot:=[l],need:=some (off<ws.length) }
       | none=>none
     | _=>none
   | _,_=>none) (B ρ (.load t a) h)
 | .store t a x=>cond (R.at h (ρ a)) (match ρ a,bV P t with
   | .ptr l off,some 1=>match aJ h l with
     | some (.abs o [k])=>match R.isHole o,R.lab (ρ x)with
       | some (ws,i),some q=>match aJ h q with
         | some en=>match R.rd en with
           | some y=>cond (Nat.beq q l||Nat.beq k l) none (some {v:=.raw undef,upd:=[(l,some (.abs (R.row (ws.set i y)) [])),(k,none),(q,none)],new:=[],foot:=[l,k,q],need:=some (i<ws.length∧off=i∧R.hdIs q y (ρ x)) })
           | none=>none
         | none=>none
       | _,_=>none
     | _=>none
   | _,_=>none) (B ρ (.store t a x) h)
 | op=>B ρ op h
def tH(B:(Operand→AVal)→Op→aC A→Option (ORes A)):Prop:= ∀(ρ ρ2:Operand→AVal) (op:Op) (h:aC A),(∀x∈op.operands,ρ x=ρ2 x)→B ρ op h=B ρ2 op h
def x7(tb:A→Nat×aC A)(P:Program)(B:(Operand→AVal)→Op→aC A→Option (ORes A)):Prop:=
 ∀(ρ:Operand→AVal) (o:Oper) (h:aC A) (r:ORes A),B ρ o.op h=some r→r.obl→ ∀(V:Val) (hR:PHeap) (w:World) (ρ':Operand→Value),Inv (obI tb) V (toF h) hR w→iZ V h.length r.new.length→(∀x,Rep V (ρ x) (ρ' x))→dK (obI tb) P V h.length hR w r.v (toF (r.apply h)) r.new.length (execOp ρ' o)
theorem oF:tH (A:=A) (fun _ _ _=>none):=by intro _ _ _ _ _;rfl
theorem uA:x7 tb P (fun _ _ _=>none):=by intro _ _ _ _ h;cases h
theorem d4.dro_congr(R:d4 tb E){B:(Operand→AVal)→Op→aC A→Option (ORes A)}(hB:tH B):tH (R.dro P B):=by
 intro ρ ρ2 op h hρ;cases op
 case load t a=>
  simp only [d4.dro];rw [hρ a (by simp [Op.operands]),hB ρ ρ2 (.load t a) h hρ]
 case store t a x=>
  simp only [d4.dro];rw [hρ a (by simp [Op.operands]),hρ x (by simp [Op.operands]),hB ρ ρ2 (.store t a x) h hρ]
 all_goals (simp only [d4.dro];exact hB _ _ _ _ hρ)
theorem d4.dro_ok(R:d4 tb E)(hone: ∀(V:Val) (q:Nat) (y:E.X) (v:Value),Rep V (E.hd q y) v→v.oneCell'=true∧v.cells= #[v]){B:(Operand→AVal)→Op→aC A→Option (ORes A)}(hB:x7 tb P B):x7 tb P (R.dro P B):=by
 intro ρ o h r hr ho V hR w ρ' hi hf hρ;unfold d4.dro at hr;split at hr
 ·rename_i t a hop;cases hc:R.at h (ρ a)with
  | false=>rw [hc]at hr;exact hB ρ o h r (by rw [hop];exact hr) ho V hR w ρ' hi hf hρ
  | true=>
  rw [hc]at hr;simp only [cond_true]at hr;split at hr
  case h_2=>cases hr
  rename_i l off hρa hag;have hx:=hρ a;rw [hρa]at hx;obtain⟨b,k,hV,hx⟩:=hx;split at hr
  case h_2=>cases hr
  rename_i ob hl;split at hr
  case h_2=>cases hr
  rename_i ws hw;have:=R.isRow_eq _ _ hw;subst this;simp only [sI']at hr;subst hr;have hlt:off<ws.length:=ho;have hn:V h.length=none:=hf h.length (Nat.le_refl _) (by simp)
  obtain⟨V',y,b',k',cs,T,v,a1,rfl,a3,a4,a5,a6,a7,a8⟩:=hi.lendS1 R.toRowS hn hl (R.get_eq ws off hlt);rw [hV]at a5;simp only [sI',pI']at a5;obtain⟨rfl,rfl⟩:=a5
  have seg:cs.toList.drop off=[v]++cs.toList.drop (off+1):=by
   obtain⟨hlt',hv'⟩:=List.getElem?_eq_some_iff.1 a7;rw [←hv'];exact List.drop_eq_getElem_cons hlt'
  obtain⟨v',g1,g2⟩:=fO (P:=P) (V:=V.add h.length y) (t:=t) (av:=[E.hd h.length (R.get ws off)]) (v:=E.hd h.length (R.get ws off)) a6 seg ⟨_,[],rfl,a8 _ _ a4,rfl⟩ (by unfold eM;rw [hag];rfl)
  refine⟨.value v',w,V.add h.length y,v',by simp [execOp,hop,hx,g1],.inl rfl,a1,?_,g2,?_,aII w⟩
  ·intro m hm hm2
   by_cases e:m=h.length
   ·subst e;exact⟨Nat.le_refl _,by simp⟩
   ·rw [aIY _ _ e]at hm2;exact(hm2 hm).elim
  ·simpa [ORes.apply,hupd]using a3
 ·rename_i t a x hop;cases hc:R.at h (ρ a)with
  | false=>rw [hc]at hr;exact hB ρ o h r (by rw [hop];exact hr) ho V hR w ρ' hi hf hρ
  | true=>
  rw [hc]at hr;simp only [cond_true]at hr;split at hr
  case h_2=>cases hr
  rename_i l off ha hs;have hx:=hρ a;rw [ha]at hx;obtain⟨b,kk,hV,hx⟩:=hx;have hy:=hρ x;split at hr
  case h_2=>cases hr
  rename_i ob k hl;split at hr
  case h_2=>cases hr
  rename_i ws i q hh hlab;have:=R.isHole_eq _ _ _ hh;subst this;split at hr
  case h_2=>cases hr
  rename_i en hen;split at hr
  case h_2=>cases hr
  rename_i y hrd;have:=R.rd_eq _ _ hrd;subst this;cases hq:(Nat.beq q l||Nat.beq k l)with
  | true=>rw [hq]at hr;cases hr
  | false=>
  rw [hq]at hr;simp only [cond_false,sI']at hr;subst hr;obtain⟨hlt,rfl,hhd⟩:=ho;obtain⟨hq1,hq2⟩:=Bool.or_eq_false_iff.1 hq;have hql:q≠l:=by intro e;rw [e,Nat.beq_refl]at hq1;cases hq1
  have hkl:k≠l:=by intro e;rw [e,Nat.beq_refl]at hq2;cases hq2
  rw [R.hdIs_eq _ _ _ hhd]at hy;obtain⟨b1,kk1,cs,T,p1,p2,p3,p4⟩:=hi.putS R.toRowS hl hen hql hkl hlt;rw [hV]at p1;simp only [sI',pI']at p1;obtain⟨rfl,rfl⟩:=p1;obtain⟨h1,h2⟩:=hone V q y _ hy;obtain⟨w',cs',s1,s2,s3,s4,s5⟩:=vJ (P:=P) p2 (v:=ρ' x) (off:=off) h1 p3;have hrun:=sL (t:=t) hs h2 s1;refine⟨.skip,w',V,undef,by simp [execOp,hop,hx,hrun],.inr ⟨rfl,rfl⟩,V.le_refl,fun m e f=>(f e).elim,rfl,?_,s5⟩
  have:=p4 cs' T (ρ' x) w' s3 hy s2 s4
  simpa [ORes.apply,hupd]using this
 ·exact hB ρ o h r hr ho V hR w ρ' hi hf hρ
end Go.Sh
