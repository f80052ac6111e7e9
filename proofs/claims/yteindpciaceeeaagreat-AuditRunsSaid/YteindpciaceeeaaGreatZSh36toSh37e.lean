import Derived.Test.YteindpciaceeeaaGreatZSh14toSh35
set_option linter.all false
set_option maxHeartbeats 8000000
namespace Go.Sh
open Go
variable [Con] {A:Type} {tb:A->Nat×aB A} {P:Program}
def KI(P:Program)(t:TypeId)(off:Nat)(vs:List AVal):Option AVal:=match eA P t,bX P t with
 | some true,some n=>cond (Nat.ble (off+n) vs.length&&aLe [] ((vs.drop off).take n)) (some (.agg ((vs.drop off).take n))) none
 | some false,_=>match vs[off]? with
   | some v=>cond (v.within []) (some v) none
   | none=>none
 | _,_=>none
def wD(tb:A->Nat×aB A)(P:Program)(t:TypeId)(l off:Nat)(h:aB A):Option AVal:=
 match aK h l with
 | some (.abs o _)=>match tb o with
   | (_,some (.cells vs)::_)=>KI P t off vs
   | _=>none
 | _=>none
theorem OA(t:TypeId)(l off:Nat)(h:aB A)(v:AVal)(hk:wD tb P t l off h=some v)(V:Val)(hR:PHeap)(w:World)(b k:Nat)(hi:Inv (obI tb) V (toF h) hR w)(hV:V l=some (b,k)): ∃v',(Instr.loadAt t (.pointer (some ⟨b,off,none⟩))).run P w=.ok v' w/\Rep V v v':=by
 unfold wD at hk;split at hk
 case h_2=>cases hk
 rename_i ob ps hl;split at hk
 case h_2=>cases hk
 rename_i np vs rest ag;obtain⟨hs,h1,h2,h3,h4,h5,h6⟩:=id hi;obtain⟨b',k',ad,bs,ap,N,af⟩:=h1 l _ hl;rw [hV]at ad;simp only [sI',pI']at ad;obtain⟨rfl,rfl⟩:=ad;cases N with
 | zero=>exact af.elim
 | succ N=>
 obtain⟨Vg,gs,g1,g2,g3,⟨g4,g5,g6⟩,g7⟩:=af;rw [ag]at g4;have hc:=g4 0 (.cells vs) rfl;obtain⟨b2,k2,c1,cs,T,c2,c3,rs,tail,c4,c5⟩:=hc;have al:b2=b:=by have ae:Vg 0=some (b2,k2):=c1;rw [g1]at ae;simp at ae;exact ae.1.symm
 subst al
 have ac:w.heap[b2]? =some (.cells cs T):=by
  refine h5 l b2 _ ?_;rw [g7];refine aLt g6 (l:=0) ?_;rw [c2];simp [PHeap.one]
 have am:=aH.length c5
 have drop1:off<=vs.length->cs.toList.drop off=rs.drop off++tail:=by
  intro ai;rw [c4,List.drop_append_of_le_length (by omega)]
 unfold KI at hk;split at hk
 ·rename_i n e1 e2;cases g:(Nat.ble (off+n) vs.length&&aLe [] ((vs.drop off).take n))with
  | false=>rw [g]at hk;cases hk
  | true=>
  rw [g]at hk;simp only [cond_true,sI']at hk;subst hk;obtain⟨ak,aj⟩:=Bool.and_eq_true_iff.1 g;have ai:off+n<=vs.length:=Nat.le_of_ble_eq_true ak;have aa:aH V ((vs.drop off).take n) ((rs.drop off).take n):=aLw (pl:=[]) (fun i hi=>by cases hi) _ _ aj (aH.take (aH.drop c5 off) n)
  obtain⟨v',g8,g9⟩:=fR (P:=P) (V:=V) (t:=t) (av:=(vs.drop off).take n) (v:=.agg (((vs.drop off).take n).take n)) ac (seg:=(rs.drop off).take n) (rest:=(rs.drop off).drop n++tail) (by rw [drop1 (by omega),<-List.append_assoc,List.take_append_drop]) aa (by
   unfold eM;rw [e1,e2];simp only;rw [if_pos (by rw [List.length_take,List.length_drop];omega)])
  rw [List.take_take,Nat.min_self]at g9;exact⟨v',g8,g9⟩
 ·rename_i e2 e1;split at hk
  case h_2=>cases hk
  rename_i v1 hv;cases g:v1.within []with
  | false=>rw [g]at hk;cases hk
  | true=>
  rw [g]at hk;simp only [cond_true,sI']at hk;subst hk;have ao:off<vs.length:=(List.getElem?_eq_some_iff.1 hv).1;have ah:=aH.at c5 (i:=off) (a:=v1) (v:=rs[off]'(by omega)) hv (gE' (by omega))
  have aa:Rep V v1 (rs[off]'(by omega)):=aLG (pl:=[]) (fun i hi=>by cases hi) _ _ g ah
  obtain⟨v',g8,g9⟩:=fR (P:=P) (V:=V) (t:=t) (av:=[v1]) (v:=v1) ac (seg:=[rs[off]'(by omega)]) (rest:=rs.drop (off+1)++tail) (by
   rw [drop1 (by omega),List.drop_eq_getElem_cons (by omega)];rfl) ⟨_,[],rfl,aa,rfl⟩ (by unfold eM;rw [e1];rfl)
  exact⟨v',g8,g9⟩
 ·cases hk
end Go.Sh
namespace Go.Sh
open Go
variable [Con] {A:Type} {P:Program}
structure xR (A:Type) where
 X:Type
 hd:Nat->X->AVal
 en:X->aG A
variable {E:xR A}
def jN(E:xR A):Nat->List E.X->List AVal
 | _,[]=>[]
 | k,x::r=>E.hd k x::jN E (k+1) r
def EY(E:xR A)(ws:List E.X):aB A:=ws.map fun x=>some (E.en x)
def fM(E:xR A)(ws:List E.X):aB A:=some (.cells (jN E 1 ws))::EY E ws
def HH(E:xR A)(ws:List E.X)(i:Nat):AVal:=match ws[i]? with
 | some x=>E.hd 1 x
 | none=>.O
def iB(E:xR A)(ws:List E.X)(i:Nat):aB A:=some (.cells ((jN E 2 ws).set i (HH E ws i)))::none::(EY E ws).set i none
theorem gB: ∀(ws:List E.X) (k j:Nat),(jN E k ws)[j]? =(ws[j]?).map (E.hd (k+j))
 | [],_,_=>by simp [jN]
 | x::r,k,0=>by simp [jN]
 | x::r,k,j+1=>by simp only [jN,List.getElem?_cons_succ];rw [gB r (k+1) j];rw [show k+1+j=k+(j+1)from by omega]
theorem gC(k:Nat)(ws:List E.X):(jN E k ws).length =ws.length:=by
 induction ws generalizing k with
 | nil=>rfl
 | cons o r ih=>simp [jN,ih]
theorem cX(ws:List E.X)(j:Nat):aK (fM E ws) (j+1)=(ws[j]?).map E.en:=by
 simp only [fM,aK,List.getD_cons_succ,EY];rw [gD',List.getElem?_map];cases ws[j]? <;>rfl
theorem fG(ws:List E.X)(i j:Nat):aK (iB E ws i) (j+2)=if i=j then none else(ws[j]?).map E.en:=by
 simp only [iB,aK,List.getD_cons_succ,EY];rw [gD',List.getElem?_set];split
 ·split<;>rfl
 ·rw [List.getElem?_map];cases ws[j]? <;>rfl
variable {tb:A->Nat×aB A}
def EnAt(tb:A->Nat×aB A)(N:Nat)(e:aG A)(x:Nat×Nat)(q:PHeap):Prop:= ∀(V:Val) (l:Nat),V l=some x->aG.interp (obN tb N) V l e q
theorem qA{I:Itp A}{V:Val}{l:Nat}{e:aG A}{p:PHeap}(h:aG.interp I V l e p): ∃x,V l=some x:=by
 cases e with
 | cells vs=>obtain⟨b,k,h,_⟩:=h;exact⟨_,h⟩
 | ints c xs=>
   rcases h with⟨_,_,b,h⟩ | ⟨b,k,h,_⟩
   ·exact⟨_,h⟩
   ·exact⟨_,h⟩
 | abs t ps=>obtain⟨b,k,h,_⟩:=h;exact⟨_,h⟩
 | tab ks rows=>
   rcases h with⟨_,_,b,h⟩ | ⟨b,k,h,_⟩
   ·exact⟨_,h⟩
   ·exact⟨_,h⟩
 | imap kk vc m=>obtain⟨b,k,h,_⟩:=h;exact⟨_,h⟩
 | iter lm kk vc m left cur=>obtain⟨b,k,h,_⟩:=h;exact⟨_,h⟩
structure RowS (tb:A->Nat×aB A) (E:xR A) where
 row:List E.X->A
 hole:List E.X->Nat->A
 isRow:A->Option (List E.X)
 isHole:A->Option (List E.X×Nat)
 rd:aG A->Option E.X
 isRow_eq: ∀t r,isRow t=some r->t=row r
 isHole_eq: ∀t r i,isHole t=some (r,i)->t=hole r i
 rd_eq: ∀e x,rd e=some x->e=E.en x
 tbRow: ∀r,tb (row r)=(0,fM E r)
 tbHole: ∀r i,tb (hole r i)=(1,iB E r i)
 hdRep: ∀(V V':Val) (k k':Nat) (x:E.X) (v:Value),V k=V' k'->Rep V (E.hd k x) v->Rep V' (E.hd k' x) v
 enLoc: ∀(N:Nat) (V V':Val) (l l':Nat) (x:E.X) (p:PHeap),V l=V' l'->aG.interp (obN tb N) V l (E.en x) p->aG.interp (obN tb N) V' l' (E.en x) p
theorem RowS.lend(R:RowS tb E){ws:List E.X}{i:Nat}{t:E.X}{r:Nat×Nat}{p:PHeap}{N:Nat}(h:obN tb (N+1) (R.row ws) r [] p)(hw:ws[i]? =some t):
 ∃x q p',EnAt tb N (E.en t) x q/\obN tb (N+1) (R.hole ws i) r [x] p'/\q.disj p'/\(∀b o,q b=some o->p b=some o)/\(∀b o,p' b=some o->p b=some o)/\
  ∃cs T v,p r.1=some (.cells cs T)/\cs.toList[i]? =some v/\ ∀(V:Val) (l:Nat),V l=some x->Rep V (E.hd l t) v:=by
 obtain⟨V,gs,g1,g2,g3,⟨g4,g5,g6⟩,g7⟩:=h;have ah:=R.tbHole ws i;rw [R.tbRow]at g2 g3 g4 g5;dsimp only at g2 g3 g4 g5;have hi:aK (fM E ws) (i+1)=some (E.en t):=by rw [cX,hw];rfl
 have hq:=g4 _ _ hi;obtain⟨x,hx⟩:=qA hq;have hc:=g4 0 _ (show aK (fM E ws) 0=some (.cells (jN E 1 ws))from rfl)
 obtain⟨b,k,c1,cs,T,c2,c3,rs,tail,c4,c5⟩:=hc;have ax:r=(b,k):=by have aq:V 0=some (b,k):=c1;rw [g1]at aq;simpa using aq
 have ak:=aH.length c5
 have ai:i<rs.length:=by
  rw [ak,gC];exact(List.getElem?_eq_some_iff.1 hw).1
 have ar:=aH.at c5 (i:=i) (a:=E.hd (1+i) t) (v:=rs[i]) (by rw [gB,hw];rfl) (gE' ai)
 have aj: ∀(V2:Val) (l:Nat),V2 l=some x->Rep V2 (E.hd l t) rs[i]:=fun V2 l h2=>R.hdRep V V2 (1+i) l t _ (by rw [Nat.add_comm,h2];exact hx) ar
 let V':Val:=fun m=>match m with
  | 0=>V 0
  | 1=>some x
  | j+2=>V (j+1)
 let gs':Nat->PHeap:=fun m=>match m with
  | 0=>gs 0
  | 1=>.emp
  | j+2=>if i=j then .emp else gs (j+1)
 have ag: ∀j b o,gs j b=some o->p b=some o:=by
  intro j b o hh;rw [g7];exact aLt g6 hh
 have ad: ∀m b o,gs' m b=some o-> ∃j,j≠i+1/\gs j b=some o:=by
  intro m b o hh
  match m,hh with
  | 0,hh=>exact⟨0,by omega,hh⟩
  | 1,hh=>cases hh
  | j+2,hh=>
    have am:(if i=j then PHeap.emp else gs (j+1)) b=some o:=hh
    split at am
    ·cases am
    ·exact⟨j+1,by omega,am⟩
 have ap: ∀l m,l≠m->(gs' l).disj (gs' m):=by
  intro l m al b;cases h1:gs' l b with
  | none=>exact .inl rfl
  | some o=>
    right;cases h2:gs' m b with
    | none=>rfl
    | some o2=>
      exfalso
      have key: ∀l m,l≠m-> ∀o o2,gs' l b=some o->gs' m b=some o2->False:=by
       intro l m al o o2 h1 h2
       match l,m,h1,h2 with
       | 0,0,_,_=>exact al rfl
       | 1,_,h1,_=>cases h1
       | _,1,_,h2=>cases h2
       | 0,j+2,h1,h2=>
         have aa:(if i=j then PHeap.emp else gs (j+1)) b=some o2:=h2
         split at aa
         ·cases aa
         ·rcases g6 0 (j+1) (by omega) b with d | d
          ·have ac:gs 0 b=some o:=h1;rw [d]at ac;cases ac
          ·rw [d]at aa;cases aa
       | j+2,0,h1,h2=>
         have ac:(if i=j then PHeap.emp else gs (j+1)) b=some o:=h1
         split at ac
         ·cases ac
         ·rcases g6 0 (j+1) (by omega) b with d | d
          ·have aa:gs 0 b=some o2:=h2;rw [d]at aa;cases aa
          ·rw [d]at ac;cases ac
       | j+2,j2+2,h1,h2=>
         have ac:(if i=j then PHeap.emp else gs (j+1)) b=some o:=h1
         have aa:(if i=j2 then PHeap.emp else gs (j2+1)) b=some o2:=h2
         split at ac
         ·cases ac
         ·split at aa
          ·cases aa
          ·rcases g6 (j+1) (j2+1) (by omega) b with d | d
           ·rw [d]at ac;cases ac
           ·rw [d]at aa;cases aa
      exact key l m al o o2 h1 h2
 have ao:aK (iB E ws i) 0=some (.cells ((jN E 2 ws).set i (HH E ws i))):=rfl;refine⟨x,gs (i+1),aLd gs',fun V2 l h2=>R.enLoc N V V2 (i+1) l t _ (hx.trans h2.symm) hq,⟨V',gs',g1,?_,?_,⟨?_,?_,ap⟩,rfl⟩,?_,ag _,?_,cs,T,rs[i],?_,?_,aj⟩
 ·intro j hj;rw [ah]at hj;have:j=0:=by dsimp only at hj;omega
  subst this;rfl
 ·rw [ah];rfl
 ·intro l e he;rw [ah]at he
  match l,he with
  | 0,he=>
    have g:aK (iB E ws i) 0=some e:=he;rw [ao]at g;simp only [sI']at g;subst g;refine⟨b,k,c1,cs,T,c2,c3,rs,tail,c4,?_⟩;refine aLI (by rw [List.length_set,gC,ak,gC]) ?_
    intro j a v ha hv;rw [List.getElem?_set]at ha;split at ha
    ·rename_i ae;subst ae;split at ha
     ·simp only [sI']at ha;subst ha;rw [gE' ai]at hv;simp only [sI']at hv;subst hv;unfold HH;rw [hw];exact aj V' 1 rfl
     ·cases ha
    ·rw [gB]at ha;cases af:ws[j]? with
     | none=>rw [af]at ha;cases ha
     | some o=>
       rw [af]at ha;simp only [Option.map_some,sI']at ha;have hr:=aH.at c5 (i:=j) (a:=E.hd (1+j) o) (v:=v) (by rw [gB,af];rfl) hv
       subst ha;exact R.hdRep V V' (1+j) (2+j) o v (by rw [Nat.add_comm 1 j,Nat.add_comm 2 j]) hr
  | 1,he=>cases he
  | j+2,he=>
    have g:aK (iB E ws i) (j+2)=some e:=he;rw [fG]at g;split at g
    ·cases g
    ·rename_i ae;have au:aK (fM E ws) (j+1)=some e:=by rw [cX];exact g
     have av:=g4 _ _ au;show aG.interp (obN tb N) V' (j+2) e (if i=j then PHeap.emp else gs (j+1))
     rw [if_neg ae];cases af:ws[j]? with
     | none=>rw [af]at g;cases g
     | some s=>
       rw [af]at g;simp only [Option.map_some,sI']at g;subst g;exact R.enLoc N V V' (j+1) (j+2) s _ rfl av
 ·intro l he;rw [ah]at he
  match l,he with
  | 0,he=>cases he
  | 1,he=>rfl
  | j+2,he=>
    have g:aK (iB E ws i) (j+2)=none:=he;rw [fG]at g;show(if i=j then PHeap.emp else gs (j+1))=_
    split at g
    ·rename_i ae;rw [if_pos ae]
    ·rename_i ae;rw [if_neg ae];refine g5 _ ?_;show aK (fM E ws) (j+1)=none;rw [cX];exact g
 ·intro b';cases h1:gs (i+1) b' with
  | none=>exact .inl rfl
  | some o=>
    right;refine aLJ fun m=>?_;cases h2:gs' m b' with
    | none=>rfl
    | some o2=>
      exfalso;obtain⟨j,hj,h3⟩:=ad m b' o2 h2;rcases g6 j (i+1) hj b' with d | d
      ·rw [d]at h3;cases h3
      ·rw [d]at h1;cases h1
 ·intro b' o hh;obtain⟨m,hm⟩:=aLr hh;obtain⟨j,_,h3⟩:=ad m b' o hm;exact ag j b' o h3
 ·refine ag 0 r.1 _ ?_;rw [c2,ax];simp [PHeap.one]
 ·rw [c4,List.getElem?_append_left ai,gE' ai]
theorem RowS.back(R:RowS tb E){ws:List E.X}{i:Nat}{t0 t:E.X}{r x:Nat×Nat}{p' q:PHeap}{N:Nat}(hp:obN tb (N+1) (R.hole ws i) r [x] p')(hq:EnAt tb N (E.en t) x q)(hd:q.disj p')(hi:i<ws.length)(h0:ws[i]? =some t0)(hh: ∀l,E.hd l t=E.hd l t0):
 ∃p,obN tb (N+1) (R.row (ws.set i t)) r [] p/\(∀b o,p b=some o->q b=some o\/p' b=some o):=by
 obtain⟨V,gs,g1,g2,g3,⟨g4,g5,g6⟩,g7⟩:=hp;have ag:=R.tbRow (ws.set i t);rw [R.tbHole]at g2 g3 g4 g5;dsimp only at g2 g3 g4 g5;have hx:V 1=some x:=by have:=g2 0 (by omega);simpa using this
 have hc:=g4 0 _ (show aK (iB E ws i) 0=some (.cells ((jN E 2 ws).set i (HH E ws i)))from rfl)
 obtain⟨b,k,c1,cs,T,c2,c3,rs,tail,c4,c5⟩:=hc;have ai:=aH.length c5;rw [List.length_set,gC]at ai
 let V':Val:=fun m=>match m with
  | 0=>V 0
  | j+1=>if i=j then some x else V (j+2)
 let gs':Nat->PHeap:=fun m=>match m with
  | 0=>gs 0
  | j+1=>if i=j then q else gs (j+2)
 have af: ∀j b o,gs j b=some o->p' b=some o:=by
  intro j b o hh;rw [g7];exact aLt g6 hh
 have ah: ∀j b o o2,gs j b=some o->q b=some o2->False:=by
  intro j b o o2 h1 h2;have:=af j b o h1;rcases hd b with d | d
  ·rw [d]at h2;cases h2
  ·rw [d]at this;cases this
 have key: ∀l m b,l≠m-> ∀o o2,gs' l b=some o->gs' m b=some o2->False:=by
  intro l m b ak o o2 h1 h2
  match l,m,h1,h2 with
  | 0,0,_,_=>exact ak rfl
  | 0,j+1,h1,h2=>
    have ac:(if i=j then q else gs (j+2)) b=some o2:=h2
    split at ac
    ·exact ah 0 b o o2 h1 ac
    ·rcases g6 0 (j+2) (by omega) b with d | d
     ·have ad:gs 0 b=some o:=h1;rw [d]at ad;cases ad
     ·rw [d]at ac;cases ac
  | j+1,0,h1,h2=>
    have ad:(if i=j then q else gs (j+2)) b=some o:=h1
    split at ad
    ·exact ah 0 b o2 o h2 ad
    ·rcases g6 0 (j+2) (by omega) b with d | d
     ·have ac:gs 0 b=some o2:=h2;rw [d]at ac;cases ac
     ·rw [d]at ad;cases ad
  | j+1,j2+1,h1,h2=>
    have ad:(if i=j then q else gs (j+2)) b=some o:=h1
    have ac:(if i=j2 then q else gs (j2+2)) b=some o2:=h2
    split at ad
    ·split at ac
     ·omega
     ·exact ah _ b o2 o ac ad
    ·split at ac
     ·exact ah _ b o o2 ad ac
     ·rcases g6 (j+2) (j2+2) (by omega) b with d | d
      ·rw [d]at ad;cases ad
      ·rw [d]at ac;cases ac
 have al: ∀l m,l≠m->(gs' l).disj (gs' m):=by
  intro l m ak b;cases h1:gs' l b with
  | none=>exact .inl rfl
  | some o=>
    right;cases h2:gs' m b with
    | none=>rfl
    | some o2=>exact(key l m b ak o o2 h1 h2).elim
 refine⟨aLd gs',⟨V',gs',g1,?_,?_,⟨?_,?_,al⟩,rfl⟩,?_⟩
 ·intro j hj;rw [ag]at hj;dsimp only at hj;omega
 ·rw [ag];rfl
 ·intro l e he;rw [ag]at he
  match l,he with
  | 0,he=>
    have g:some (aG.cells (jN E 1 (ws.set i t)))=some e:=he;simp only [sI']at g;subst g;refine⟨b,k,c1,cs,T,c2,c3,rs,tail,c4,?_⟩;refine aLI (by rw [gC,List.length_set,ai]) ?_
    intro j a v ha hv;rw [gB,List.getElem?_set]at ha;split at ha
    ·rename_i aa;subst aa;simp only [Option.map_some,sI']at ha;subst ha;have hr:=aH.at c5 (i:=i) (a:=HH E ws i) (v:=v) (by rw [List.getElem?_set,if_pos rfl,if_pos (by rw [gC];exact hi)]) hv
     unfold HH at hr;rw [h0]at hr;have hr:Rep V (E.hd 1 t0) v:=hr;rw [hh];refine R.hdRep V V' 1 (1+i) t0 v ?_ hr;show V 1=V' (1+i);rw [Nat.add_comm];show V 1=(if i=i then some x else _)
     rw [if_pos rfl,hx]
    ·rename_i aa;cases ae:ws[j]? with
     | none=>rw [ae]at ha;cases ha
     | some o=>
       rw [ae]at ha;simp only [Option.map_some,sI']at ha;have hr:=aH.at c5 (i:=j) (a:=E.hd (2+j) o) (v:=v) (by rw [List.getElem?_set,if_neg aa,gB,ae];rfl) hv
       subst ha;refine R.hdRep V V' (2+j) (1+j) o v ?_ hr;show V (2+j)=V' (1+j);rw [Nat.add_comm 1 j];show V (2+j)=(if i=j then some x else V (j+2))
       rw [if_neg aa,Nat.add_comm]
  | j+1,he=>
    have g:aK (fM E (ws.set i t)) (j+1)=some e:=he;rw [cX,List.getElem?_set]at g;show aG.interp (obN tb N) V' (j+1) e (if i=j then q else gs (j+2))
    split at g
    ·rename_i aa;subst aa;simp only [Option.map_some,sI']at g;subst g;rw [if_pos rfl];exact hq V' (i+1) (by show(if i=i then some x else _)=_;rw [if_pos rfl])
    ·rename_i aa;rw [if_neg aa];have am:aK (iB E ws i) (j+2)=some e:=by rw [fG,if_neg aa];exact g
     have ao:=g4 _ _ am;cases ae:ws[j]? with
     | none=>rw [ae]at g;cases g
     | some s=>
       rw [ae]at g;simp only [Option.map_some,sI']at g;subst g;refine R.enLoc N V V' (j+2) (j+1) s _ ?_ ao;show V (j+2)=(if i=j then some x else V (j+2))
       rw [if_neg aa]
 ·intro l he;rw [ag]at he
  match l,he with
  | 0,he=>cases he
  | j+1,he=>
    have g:aK (fM E (ws.set i t)) (j+1)=none:=he;rw [cX,List.getElem?_set]at g;show(if i=j then q else gs (j+2))=_
    split at g
    ·rename_i aa;subst aa;cases g
    ·rename_i aa;rw [if_neg aa];refine g5 _ ?_;show aK (iB E ws i) (j+2)=none;rw [fG,if_neg aa];exact g
 ·intro b' o hh;obtain⟨m,hm⟩:=aLr hh
  match m,hm with
  | 0,hm=>exact .inr (af 0 b' o hm)
  | j+1,hm=>
    have aj:(if i=j then q else gs (j+2)) b'=some o:=hm
    split at aj
    ·exact .inl aj
    ·exact .inr (af _ b' o aj)
theorem Inv.lendS1(R:RowS tb E){V:Val}{h:aB A}{hR:PHeap}{w:World}{l i:Nat}{ws:List E.X}{t:E.X}(hi:Inv (obI tb) V (toF h) hR w)(hn:V h.length=none)(hl:aK h l=some (.abs (R.row ws) []))(hw:ws[i]? =some t):
 ∃V' x b k cs T v,V.le V'/\V'=V.add h.length x/\Inv (obI tb) V' (toF (h.set l (some (.abs (R.hole ws i) [h.length]))++ [some (E.en t)])) hR w/\V' h.length=some x/\V l=some (b,k)/\w.heap[b]? =some (.cells cs T)/\cs.toList[i]? =some v/\(∀(V:Val) (l:Nat),V l=some x->Rep V (E.hd l t) v):=by
 have ao:=cD hl;obtain⟨hs,h1,h2,h3,h4,h5,h6⟩:=hi;obtain⟨b,k,hV,bs,ar,N,am⟩:=h1 l _ hl;have au:bs=[]:=ar;subst au;cases N with
 | zero=>exact am.elim
 | succ N=>
 obtain⟨x,q,p',o1,o2,o3,o4,o5,cs,T,v,o6,o7,o8⟩:=R.lend am hw;have al:=aLp (x:=x) hn
 let hs':Nat->PHeap:=fun m=>if m=l then p' else if m=h.length then q else hs m
 have ag: ∀m,m<h.length->m≠l->aK (h.set l (some (.abs (R.hole ws i) [h.length]))++ [some (E.en t)]) m=aK h m:=by
  intro m hm aa;rw [cG (by simpa using hm)]
  simp only [aK,gD'];rw [List.getElem?_set_ne (fun e=>aa e.symm)]
 have af:aK (h.set l (some (.abs (R.hole ws i) [h.length]))++ [some (E.en t)]) l=some (.abs (R.hole ws i) [h.length]):=by
  rw [cG (by simpa using ao)]
  simp only [aK,gD'];rw [List.getElem?_set_self ao];rfl
 have ae:aK (h.set l (some (.abs (R.hole ws i) [h.length]))++ [some (E.en t)]) h.length=some (E.en t):=by
  simp only [aK,gD'];rw [List.getElem?_append_right (by simp)];simp
 have ap: ∀m,h.length<m->aK (h.set l (some (.abs (R.hole ws i) [h.length]))++ [some (E.en t)]) m=none:=fun m hm=>cC (by simp;omega)
 have ai: ∀b o,p' b=some o->hs l b=some o:=o5;have ah: ∀b o,q b=some o->hs l b=some o:=o4;have aq: ∀m,h.length<=m->hs m=.emp :=fun m hm=>h2 m (cC hm);refine⟨V.add h.length x,x,b,k,cs,T,v,al,rfl,⟨hs',?_,?_,?_,?_,?_,h6⟩,aLj _ _ _,hV,?_,o7,o8⟩
 ·intro m e he;have g:aK (h.set l (some (.abs (R.hole ws i) [h.length]))++ [some (E.en t)]) m=some e:=he
  by_cases aa:m=l
  ·subst aa;rw [af]at g;simp only [sI']at g;subst g;show aG.interp _ _ _ _ (if m=m then p' else _)
   rw [if_pos rfl];exact⟨b,k,al _ _ hV,[x],⟨x,[],aLj _ _ _,rfl,rfl⟩,N+1,o2⟩
  ·by_cases ac:m=h.length
   ·subst ac;rw [ae]at g;simp only [sI']at g;subst g;show aG.interp _ _ _ _ (if h.length=l then p' else if h.length=h.length then q else _)
    rw [if_neg aa,if_pos rfl];exact aLv (fun t r bs p h=>⟨N,h⟩) (o1 _ _ (aLj _ _ _))
   ·by_cases ak:m<h.length
    ·rw [ag m ak aa]at g;show aG.interp _ _ _ _ (if m=l then p' else if m=h.length then q else hs m)
     rw [if_neg aa,if_neg ac];exact aLs al (h1 m e g)
    ·rw [ap m (by omega)]at g;cases g
 ·intro m he;have g:aK (h.set l (some (.abs (R.hole ws i) [h.length]))++ [some (E.en t)]) m=none:=he;show(if m=l then p' else if m=h.length then q else hs m)=_
  by_cases aa:m=l
  ·subst aa;rw [af]at g;cases g
  ·by_cases ac:m=h.length
   ·subst ac;rw [ae]at g;cases g
   ·rw [if_neg aa,if_neg ac]
    by_cases ak:m<h.length
    ·rw [ag m ak aa]at g;exact h2 m g
    ·exact aq m (by omega)
 ·intro m m' aj b';show(if m=l then p' else if m=h.length then q else hs m) b'=none\/(if m'=l then p' else if m'=h.length then q else hs m') b'=none
  have part: ∀m,m≠l->m≠h.length->(p' b'=none/\q b'=none)\/hs m b'=none:=by
   intro m aa ac;rcases h3 l m (fun e=>aa e.symm) b' with d | d
   ·left;constructor
    ·cases hp:p' b' with
     | none=>rfl
     | some o=>rw [ai b' o hp]at d;cases d
    ·cases hp:q b' with
     | none=>rfl
     | some o=>rw [ah b' o hp]at d;cases d
   ·exact .inr d
  by_cases a1:m=l
  ·rw [if_pos a1]
   by_cases a2:m'=l
   ·exact(aj (a1.trans a2.symm)).elim
   ·rw [if_neg a2]
    by_cases a3:m'=h.length
    ·rw [if_pos a3];exact(o3 b').symm
    ·rw [if_neg a3];rcases part m' a2 a3 with d | d
     ·exact .inl d.1
     ·exact .inr d
  ·rw [if_neg a1]
   by_cases a0:m=h.length
   ·rw [if_pos a0]
    by_cases a2:m'=l
    ·rw [if_pos a2];exact o3 b'
    ·rw [if_neg a2]
     by_cases a3:m'=h.length
     ·exact(aj (a0.trans a3.symm)).elim
     ·rw [if_neg a3];rcases part m' a2 a3 with d | d
      ·exact .inl d.2
      ·exact .inr d
   ·rw [if_neg a0]
    by_cases a2:m'=l
    ·rw [if_pos a2];rcases part m a1 a0 with d | d
     ·exact .inr d.1
     ·exact .inl d
    ·rw [if_neg a2]
     by_cases a3:m'=h.length
     ·rw [if_pos a3];rcases part m a1 a0 with d | d
      ·exact .inr d.2
      ·exact .inl d
     ·rw [if_neg a3];exact h3 m m' aj b'
 ·intro m b';show(if m=l then p' else if m=h.length then q else hs m) b'=none\/hR b'=none
  split
  ·rcases h4 l b' with d | d
   ·cases hp:p' b' with
    | none=>exact .inl rfl
    | some o=>rw [ai b' o hp]at d;cases d
   ·exact .inr d
  ·split
   ·rcases h4 l b' with d | d
    ·cases hp:q b' with
     | none=>exact .inl rfl
     | some o=>rw [ah b' o hp]at d;cases d
    ·exact .inr d
   ·exact h4 m b'
 ·intro m b' o hh;have ad:(if m=l then p' else if m=h.length then q else hs m) b'=some o:=hh
  split at ad
  ·exact h5 l b' o (ai b' o ad)
  ·split at ad
   ·exact h5 l b' o (ah b' o ad)
   ·exact h5 m b' o ad
 ·exact h5 l b _ o6
theorem Inv.lendS(R:RowS tb E){V:Val}{h:aB A}{hR:PHeap}{w:World}{l i:Nat}{ws:List E.X}{t:E.X}(hi:Inv (obI tb) V (toF h) hR w)(hf:bO V h.length)(hl:aK h l=some (.abs (R.row ws) []))(hw:ws[i]? =some t):
 ∃V' x b k cs T v,V.le V'/\bO V' (h.length+1)/\Inv (obI tb) V' (toF (h.set l (some (.abs (R.hole ws i) [h.length]))++ [some (E.en t)])) hR w/\V' h.length=some x/\V l=some (b,k)/\w.heap[b]? =some (.cells cs T)/\cs.toList[i]? =some v/\(∀(V:Val) (l:Nat),V l=some x->Rep V (E.hd l t) v):=by
 obtain⟨V',x,b,k,cs,T,v,h1,rfl,h3⟩:=hi.lendS1 R (hf _ (Nat.le_refl _)) hl hw;refine⟨_,x,b,k,cs,T,v,h1,?_,h3⟩;intro m hm;rw [aLH _ _ (by omega)]
 exact hf m (by omega)
theorem mT{V:Val}{l:Nat}{e:aG A}{p:PHeap}(h:aG.interp (obI tb) V l e p): ∃n,aG.interp (obN tb n) V l e p:=by
 cases e with
 | cells vs=>exact⟨0,h⟩
 | ints c xs=>exact⟨0,h⟩
 | abs t ps=>obtain⟨b,k,h1,g,h2,n,h3⟩:=h;exact⟨n,b,k,h1,g,h2,h3⟩
 | tab ks rows=>exact⟨0,h⟩
 | imap kk vc m=>exact⟨0,h⟩
 | iter lm kk vc m left cur=>exact⟨0,h⟩
theorem Inv.backS(R:RowS tb E){V:Val}{h:aB A}{hR:PHeap}{w:World}{l i k:Nat}{ws:List E.X}{t0 t:E.X}(h0:ws[i]? =some t0)(hh: ∀l,E.hd l t=E.hd l t0)(hi:Inv (obI tb) V (toF h) hR w)(hl:aK h l=some (.abs (R.hole ws i) [k]))(hk:aK h k=some (E.en t))(hkl:k≠l):
 Inv (obI tb) V (toF ((h.set l (some (.abs (R.row (ws.set i t)) []))).set k none)) hR w:=by
 have ap:=cD hl;have aq:=cD hk;obtain⟨hs,h1,h2,h3,h4,h5,h6⟩:=hi;obtain⟨b,kk,hV,bs,ao,N,ah⟩:=h1 l _ hl;obtain⟨x,r,hx,rfl,hr⟩:=ao;have al:r=[]:=hr;subst al;have am:i<ws.length:=(List.getElem?_eq_some_iff.1 h0).1;obtain⟨N2,ag⟩:=mT (h1 k _ hk);have ak:V k=some x:=hx;cases N with
 | zero=>exact ah.elim
 | succ N=>
 have q1:EnAt tb (max N N2) (E.en t) x (hs k):=fun V2 l2 e2=>R.enLoc _ V V2 k l2 t _ (ak.trans e2.symm) (aLv (fun t r bs p h=>oA tb (Nat.le_max_right N N2) h) ag);have q2:=oA tb (show N+1<=max N N2+1 by omega) ah
 obtain⟨p,p1,p2⟩:=R.back q2 q1 (h3 k l hkl) am h0 hh
 let hs':Nat->PHeap:=fun m=>if m=l then p else if m=k then .emp else hs m
 have af: ∀m,m≠l->m≠k->aK ((h.set l (some (.abs (R.row (ws.set i t)) []))).set k none) m=aK h m:=by
  intro m aa ac;simp only [aK,gD'];rw [List.getElem?_set_ne (fun e=>ac e.symm),List.getElem?_set_ne (fun e=>aa e.symm)]
 have ae:aK ((h.set l (some (.abs (R.row (ws.set i t)) []))).set k none) l=some (.abs (R.row (ws.set i t)) []):=by
  simp only [aK,gD'];rw [List.getElem?_set_ne hkl,List.getElem?_set_self ap];rfl
 have aj:aK ((h.set l (some (.abs (R.row (ws.set i t)) []))).set k none) k=none:=by
  simp only [aK,gD'];rw [List.getElem?_set_self (by simpa using aq)];rfl
 refine⟨hs',?_,?_,?_,?_,?_,h6⟩
 ·intro m e he;have g:aK ((h.set l (some (.abs (R.row (ws.set i t)) []))).set k none) m=some e:=he;show aG.interp _ _ _ _ (if m=l then p else if m=k then .emp else hs m)
  by_cases aa:m=l
  ·subst aa;rw [ae]at g;simp only [sI']at g;subst g;rw [if_pos rfl];exact⟨b,kk,hV,[],rfl,_,p1⟩
  ·by_cases ac:m=k
   ·subst ac;rw [aj]at g;cases g
   ·rw [if_neg aa,if_neg ac];rw [af m aa ac]at g;exact h1 m e g
 ·intro m he;have g:aK ((h.set l (some (.abs (R.row (ws.set i t)) []))).set k none) m=none:=he;show(if m=l then p else if m=k then .emp else hs m)=_
  by_cases aa:m=l
  ·subst aa;rw [ae]at g;cases g
  ·rw [if_neg aa]
   by_cases ac:m=k
   ·rw [if_pos ac]
   ·rw [if_neg ac];rw [af m aa ac]at g;exact h2 m g
 ·intro m m' ai b';show(if m=l then p else if m=k then .emp else hs m) b'=none\/(if m'=l then p else if m'=k then .emp else hs m') b'=none
  have part: ∀m,m≠l->m≠k->p b'=none\/hs m b'=none:=by
   intro m aa ac;cases hp:p b' with
   | none=>exact .inl rfl
   | some o=>
     right;rcases p2 b' o hp with d | d
     ·rcases h3 k m (fun e=>ac e.symm) b' with f | f
      ·rw [f]at d;cases d
      ·exact f
     ·rcases h3 l m (fun e=>aa e.symm) b' with f | f
      ·rw [f]at d;cases d
      ·exact f
  by_cases a1:m=l
  ·rw [if_pos a1]
   by_cases a2:m'=l
   ·exact(ai (a1.trans a2.symm)).elim
   ·rw [if_neg a2]
    by_cases a3:m'=k
    ·rw [if_pos a3];exact .inr rfl
    ·rw [if_neg a3];exact part m' a2 a3
  ·rw [if_neg a1]
   by_cases a0:m=k
   ·rw [if_pos a0];exact .inl rfl
   ·rw [if_neg a0]
    by_cases a2:m'=l
    ·rw [if_pos a2];exact(part m a1 a0).symm
    ·rw [if_neg a2]
     by_cases a3:m'=k
     ·rw [if_pos a3];exact .inr rfl
     ·rw [if_neg a3];exact h3 m m' ai b'
 ·intro m b';show(if m=l then p else if m=k then .emp else hs m) b'=none\/hR b'=none
  split
  ·cases hp:p b' with
   | none=>exact .inl rfl
   | some o=>
     right;rcases p2 b' o hp with d | d
     ·rcases h4 k b' with f | f
      ·rw [f]at d;cases d
      ·exact f
     ·rcases h4 l b' with f | f
      ·rw [f]at d;cases d
      ·exact f
  ·split
   ·exact .inl rfl
   ·exact h4 m b'
 ·intro m b' o hh;have ad:(if m=l then p else if m=k then .emp else hs m) b'=some o:=hh
  split at ad
  ·rcases p2 b' o ad with d | d
   ·exact h5 k b' o d
   ·exact h5 l b' o d
  ·split at ad
   ·cases ad
   ·exact h5 m b' o ad
end Go.Sh
namespace Go.Sh
open Go
variable [Con] {A:Type} {P:Program} {E:xR A} {tb:A->Nat×aB A}
theorem RowS.snoc(R:RowS tb E){ws:List E.X}{y:E.X}{r:Nat×Nat}{p:PHeap}{N:Nat}(h:obN tb (N+1) (R.row ws) r [] p):
 ∃cs T rs tail,p r.1=some (.cells cs T)/\cs.size=r.2/\cs.toList=rs++tail/\rs.length=ws.length/\
  ∀(x:Nat×Nat) (q:PHeap) (b' k':Nat) (cs':Array Value) (T':TypeId) (v:Value) (tail':List Value),EnAt tb N (E.en y) x q->q.disj p->(∀(V:Val) (l:Nat),V l=some x->Rep V (E.hd l y) v)->
   cs'.toList=(rs++ [v])++tail'->cs'.size=k'->(b'=r.1\/p b'=none)->q b'=none->
   ∃p',obN tb (N+1) (R.row (ws++ [y])) (b',k') [] p'/\ ∀c o,p' c=some o->(c=b'/\o=.cells cs' T')\/(c≠r.1/\p c=some o)\/q c=some o:=by
 obtain⟨V,gs,g1,g2,g3,⟨g4,g5,g6⟩,g7⟩:=h;rw [R.tbRow]at g2 g3 g4 g5;dsimp only at g2 g3 g4 g5;have hc:=g4 0 _ (show aK (fM E ws) 0=some (.cells (jN E 1 ws))from rfl)
 obtain⟨b,k,c1,cs,T,c2,c3,rs,tail,c4,c5⟩:=hc;have az:r=(b,k):=by have aq:V 0=some (b,k):=c1;rw [g1]at aq;simpa using aq
 subst az;have ae:=aH.length c5;rw [gC]at ae
 have ad: ∀j b o,gs j b=some o->p b=some o:=by
  intro j b o hh;rw [g7];exact aLt g6 hh
 refine⟨cs,T,rs,tail,?_,c3,c4,ae,?_⟩
 ·refine ad 0 b _ ?_;rw [c2];simp [PHeap.one]
 intro x q b' k' cs' T' v tail' hx ar hv ay hk a6 al;have aj:=R.tbRow (ws++ [y])
 let V':Val:=fun m=>match m with
  | 0=>some (b',k')
  | j+1=>if j<ws.length then V (j+1)else if j=ws.length then some x else none
 let gs':Nat->PHeap:=fun m=>match m with
  | 0=>.one b' (.cells cs' T')
  | j+1=>if j<ws.length then gs (j+1)else if j=ws.length then q else .emp
 have ao: ∀j,j<ws.length->V' (j+1)=V (j+1):=fun j hj=>if_pos hj
 have am:V' (ws.length+1)=some x:=by
  show(if ws.length<ws.length then _ else if ws.length=ws.length then some x else none)=_
  rw [if_neg (Nat.lt_irrefl _),if_pos rfl]
 have ac: ∀m c o,gs' m c=some o->(m=0/\c=b'/\o=.cells cs' T')\/(∃j,m=j+1/\j<ws.length/\gs (j+1) c=some o)\/(m=ws.length+1/\q c=some o):=by
  intro m c o hh
  match m,hh with
  | 0,hh=>
    left;have hh:PHeap.one b' (.cells cs' T') c=some o:=hh;unfold PHeap.one at hh;split at hh
    ·rename_i e;cases hh;exact⟨rfl,e,rfl⟩
    ·cases hh
  | j+1,hh=>
    right;have ah:(if j<ws.length then gs (j+1)else if j=ws.length then q else PHeap.emp) c=some o:=hh
    clear hh;split at ah
    ·rename_i hj;exact .inl ⟨j,rfl,hj,ah⟩
    ·split at ah
     ·rename_i hj;exact .inr ⟨by rw [hj],ah⟩
     ·cases ah
 have ak: ∀j c o,gs (j+1) c=some o->c≠b:=by
  intro j c o hh e;subst e;rcases g6 0 (j+1) (by omega) c with d | d
  ·rw [c2]at d;simp [PHeap.one]at d
  ·rw [d]at hh;cases hh
 have nb: ∀j o,gs (j+1) b'=some o->False:=by
  intro j o hh;rcases a6 with e | e
  ·exact ak j b' o hh e
  ·rw [ad _ _ _ hh]at e;cases e
 have nq: ∀j c o o2,gs (j+1) c=some o->q c=some o2->False:=by
  intro j c o o2 h1 h2;rcases ar c with d | d
  ·rw [d]at h2;cases h2
  ·rw [ad _ _ _ h1]at d;cases d
 have ap: ∀l m,l≠m->(gs' l).disj (gs' m):=by
  intro l m a7 c;cases h1:gs' l c with
  | none=>exact .inl rfl
  | some o=>
    right;cases h2:gs' m c with
    | none=>rfl
    | some o2=>
      exfalso;rcases ac l c o h1 with⟨a1,a2,_⟩ | ⟨j,a1,a2,a3⟩ | ⟨a1,a2⟩
      ·rcases ac m c o2 h2 with⟨e1,_⟩ | ⟨j2,e1,e2,e3⟩ | ⟨e1,e2⟩
       ·omega
       ·subst a2;exact nb _ _ e3
       ·rw [a2,al]at e2;cases e2
      ·rcases ac m c o2 h2 with⟨e1,e2,_⟩ | ⟨j2,e1,e2,e3⟩ | ⟨e1,e2⟩
       ·subst e2;exact nb _ _ a3
       ·rcases g6 (j+1) (j2+1) (by omega) c with d | d
        ·rw [d]at a3;cases a3
        ·rw [d]at e3;cases e3
       ·exact nq _ _ _ _ a3 e2
      ·rcases ac m c o2 h2 with⟨e1,e2,_⟩ | ⟨j2,e1,e2,e3⟩ | ⟨e1,e2⟩
       ·rw [e2,al]at a2;cases a2
       ·exact nq _ _ _ _ e3 a2
       ·omega
 have ai: ∀j,aK (fM E (ws++ [y])) (j+1)=if j<ws.length then(ws[j]?).map E.en else if j=ws.length then some (E.en y)else none:=by
  intro j;rw [cX];split
  ·rename_i hj;rw [List.getElem?_append_left hj]
  ·rename_i hj;split
   ·rename_i e;subst e;rw [List.getElem?_append_right (Nat.le_refl _),Nat.sub_self];rfl
   ·rename_i e;rw [List.getElem?_eq_none (by rw [List.length_append];show ws.length+1<=j;omega)];rfl
 refine⟨aLd gs',⟨V',gs',rfl,?_,?_,⟨?_,?_,ap⟩,rfl⟩,?_⟩
 ·intro j hj;rw [aj]at hj;dsimp only at hj;omega
 ·rw [aj];rfl
 ·intro l e he;rw [aj]at he
  match l,he with
  | 0,he=>
    have aa:some (aG.cells (jN E 1 (ws++ [y])))=some e:=he;simp only [sI']at aa;subst aa;refine⟨b',k',rfl,cs',T',rfl,hk,rs++ [v],tail',ay,?_⟩;refine aLI (by rw [gC,List.length_append,List.length_append,ae];rfl) ?_
    intro j a v2 ha ag;rw [gB]at ha
    by_cases hj:j<ws.length
    ·rw [List.getElem?_append_left hj]at ha;rw [List.getElem?_append_left (by omega)]at ag
     cases af:ws[j]? with
     | none=>rw [af]at ha;cases ha
     | some o=>
       rw [af]at ha;simp only [Option.map_some,sI']at ha;subst ha;have hr:=aH.at c5 (i:=j) (a:=E.hd (1+j) o) (v:=v2) (by rw [gB,af];rfl) ag
       refine R.hdRep V V' (1+j) (1+j) o v2 ?_ hr;rw [Nat.add_comm 1 j,ao j hj]
    ·have a8:j<ws.length+1:=by
      rcases Nat.lt_or_ge j (ws.length+1)with g | g
      ·exact g
      ·rw [List.getElem?_eq_none (by rw [List.length_append];exact g)]at ha;cases ha
     have au:j=ws.length:=by omega
     subst au;rw [List.getElem?_append_right (Nat.le_refl _),Nat.sub_self]at ha;rw [List.getElem?_append_right (by omega),ae,Nat.sub_self]at ag
     have ha:some (E.hd (1+ws.length) y)=some a:=ha;have ag:some v=some v2:=ag;cases ha;cases ag;exact hv V' _ (by rw [Nat.add_comm];exact am)
  | j+1,he=>
    have aa:aK (fM E (ws++ [y])) (j+1)=some e:=he;rw [ai]at aa;show aG.interp (obN tb N) V' (j+1) e (if j<ws.length then gs (j+1)else if j=ws.length then q else PHeap.emp)
    split at aa
    ·rename_i hj;rw [if_pos hj];have av:aK (fM E ws) (j+1)=some e:=by rw [cX];exact aa
     have ax:=g4 _ _ av;cases af:ws[j]? with
     | none=>rw [af]at aa;cases aa
     | some s=>
       rw [af]at aa;simp only [Option.map_some,sI']at aa;subst aa;exact R.enLoc N V V' (j+1) (j+1) s _ (ao j hj).symm ax
    ·rename_i hj;split at aa
     ·rename_i e2;subst e2;simp only [sI']at aa;subst aa;rw [if_neg hj,if_pos rfl];exact hx V' _ am
     ·cases aa
 ·intro l he;rw [aj]at he
  match l,he with
  | 0,he=>cases he
  | j+1,he=>
    have aa:aK (fM E (ws++ [y])) (j+1)=none:=he;rw [ai]at aa;show(if j<ws.length then gs (j+1)else if j=ws.length then q else PHeap.emp)=_
    split at aa
    ·rename_i hj;rw [gE' hj]at aa;cases aa
    ·rename_i hj;split at aa
     ·cases aa
     ·rename_i e2;rw [if_neg hj,if_neg e2]
 ·intro c o hh;obtain⟨m,hm⟩:=aLr hh;rcases ac m c o hm with⟨_,a2,a3⟩ | ⟨j,_,_,a3⟩ | ⟨_,a2⟩
  ·exact .inl ⟨a2,a3⟩
  ·exact .inr (.inl ⟨ak j c o a3,ad _ _ _ a3⟩)
  ·exact .inr (.inr a2)
end Go.Sh
namespace Go.Sh
open Go
variable [Con] {A:Type} {P:Program} {E:xR A} {tb:A->Nat×aB A}
theorem Inv.snocS(R:RowS tb E){V:Val}{h:aB A}{hR:PHeap}{w:World}{l q:Nat}{ws:List E.X}{y:E.X}(hi:Inv (obI tb) V (toF h) hR w)(hn:V h.length=none)
 (hl:aK h l=some (.abs (R.row ws) [])) (hq:aK h q=some (E.en y)) (hql:q≠l):
 ∃b k cs T rs tail,V l=some (b,k)/\w.heap[b]? =some (.cells cs T)/\cs.size=k/\cs.toList=rs++tail/\rs.length=ws.length/\
  ∀(v:Value) (w':World) (b' k':Nat) (cs':Array Value) (T':TypeId) (tail':List Value),Rep V (E.hd q y) v->
   cs'.toList=(rs++ [v])++tail'->cs'.size=k'->w'.heap[b']? =some (.cells cs' T')->(b'=b\/w.heap[b']? =none)->(∀c o,c≠b'->w.heap[c]? =some o->w'.heap[c]? =some o)->
   Inv (obI tb) (V.add h.length (b',k')) ((((toF h).put l none).put q none).put h.length (some (.abs (R.row (ws++ [y])) []))) hR w':=by
 have ar:=cD hl;have aq:=cD hq;obtain⟨hs,h1,h2,h3,h4,h5,h6⟩:=hi;obtain⟨b,k,hV,bs,al,N,ah⟩:=h1 l _ hl;have ap:bs=[]:=al;subst ap;have aj:=h1 q _ hq;obtain⟨N2,ad⟩:=mT aj;obtain⟨x,hx⟩:=qA ad;cases N with
 | zero=>exact ah.elim
 | succ N=>
 have ag:=oA tb (show N+1<=max N N2+1 by omega) ah
 have ao:EnAt tb (max N N2) (E.en y) x (hs q):=fun V2 l2 e2=>R.enLoc _ V V2 q l2 y _ (hx.trans e2.symm) (aLv (fun t r bs p h=>oA tb (Nat.le_max_right N N2) h) ad);obtain⟨cs,T,rs,tail,a1,a2,a3,a4,a5⟩:=R.snoc (y:=y) ag;refine⟨b,k,cs,T,rs,tail,hV,h5 l b _ a1,a2,a3,a4,?_⟩;intro v w' b' k' cs' T' tail' hv e1 e2 e3 e4 e5
 have out: ∀m,m≠l->hs m b'=none:=by
  intro m hm;rcases e4 with e | e
  ·subst e;rcases h3 l m (fun e=>hm e.symm) b' with d | d
   ·have ae:hs l b'=some (.cells cs T):=a1;rw [d]at ae;cases ae
   ·exact d
  ·cases hh:hs m b' with
   | none=>rfl
   | some o=>have:=h5 m b' o hh;rw [e]at this;cases this
 have af:hR b'=none:=by
  rcases e4 with e | e
  ·subst e;rcases h4 l b' with d | d
   ·have ae:hs l b'=some (.cells cs T):=a1;rw [d]at ae;cases ae
   ·exact d
  ·cases hh:hR b' with
   | none=>rfl
   | some o=>have:=h6.1 b' o hh;rw [e]at this;cases this
 have ak:b'=b\/hs l b'=none:=by
  rcases e4 with e | e
  ·exact .inl e
  ·right;cases hh:hs l b' with
   | none=>rfl
   | some o=>have:=h5 l b' o hh;rw [e]at this;cases this
 obtain⟨p',p1,p2⟩:=a5 x (hs q) b' k' cs' T' v tail' ao (h3 q l hql)
  (fun V2 l2 e=>R.hdRep V V2 q l2 y v (hx.trans e.symm) hv) e1 e2 ak (out q hql)
 have am:=aLp (x:=(b',k')) hn
 let hs':Nat->PHeap:=fun m=>if m=h.length then p' else if m=l then .emp else if m=q then .emp else hs m
 have g: ∀m,m≠h.length->m≠l->m≠q->hs' m=hs m:=by
  intro m m1 m2 m3;show(if m=h.length then p' else if m=l then .emp else if m=q then .emp else hs m)=_
  rw [if_neg m1,if_neg m2,if_neg m3]
 have ac:hs' h.length=p':=if_pos rfl
 have aa: ∀m,m≠h.length->(m=l\/m=q)->hs' m=.emp :=by
  intro m m1 m2;show(if m=h.length then p' else if m=l then .emp else if m=q then .emp else hs m)=_
  rw [if_neg m1];rcases m2 with m2 | m2
  ·rw [if_pos m2]
  ·by_cases m3:m=l
   ·rw [if_pos m3]
   ·rw [if_neg m3,if_pos m2]
 have part: ∀m,m≠h.length->(hs' m).disj p':=by
  intro m m1 c
  by_cases m2:m=l\/m=q
  ·rw [aa m m1 m2];exact .inl rfl
  ·have m3:m≠l:=fun e=>m2 (.inl e);have m4:m≠q:=fun e=>m2 (.inr e);rw [g m m1 m3 m4];cases hp:p' c with
   | none=>exact .inr rfl
   | some o=>
     left;rcases p2 c o hp with⟨d,_⟩ | ⟨_,d⟩ | d
     ·rw [d];exact out m m3
     ·rcases h3 l m (fun e=>m3 e.symm) c with f | f
      ·rw [f]at d;cases d
      ·exact f
     ·rcases h3 q m (fun e=>m4 e.symm) c with f | f
      ·rw [f]at d;cases d
      ·exact f
 refine⟨hs',?_,?_,?_,?_,?_,?_,h6.2⟩
 ·intro m e he
  by_cases m1:m=h.length
  ·subst m1;simp only [aY.put,if_pos,sI']at he;subst he;rw [ac];exact⟨b',k',aLj _ _ _,[],rfl,_,p1⟩
  ·by_cases m2:m=q
   ·subst m2;simp [aY.put,m1]at he
   ·by_cases m3:m=l
    ·subst m3;simp [aY.put,m1]at he
    ·simp only [aY.put,m1,m2,m3,if_false]at he;rw [g m m1 m3 m2];exact aLs am (h1 m e he)
 ·intro m he
  by_cases m1:m=h.length
  ·subst m1;simp [aY.put]at he
  ·by_cases m2:m=l\/m=q
   ·exact aa m m1 m2
   ·have m3:m≠l:=fun e=>m2 (.inl e);have m4:m≠q:=fun e=>m2 (.inr e);simp only [aY.put,m1,m3,m4,if_false]at he;rw [g m m1 m3 m4];exact h2 m he
 ·intro m m' ai
  by_cases m1:m=h.length
  ·have m2:m'≠h.length:=fun e=>ai (m1.trans e.symm);rw [m1,ac];exact(part m' m2).symm
  ·by_cases m2:m'=h.length
   ·rw [m2,ac];exact part m m1
   ·by_cases m3:m=l\/m=q
    ·rw [aa m m1 m3];exact fun c=>.inl rfl
    ·by_cases m4:m'=l\/m'=q
     ·rw [aa m' m2 m4];exact fun c=>.inr rfl
     ·rw [g m m1 (fun e=>m3 (.inl e)) (fun e=>m3 (.inr e)),g m' m2 (fun e=>m4 (.inl e)) (fun e=>m4 (.inr e))];exact h3 m m' ai
 ·intro m c
  by_cases m1:m=h.length
  ·rw [m1,ac];cases hp:p' c with
   | none=>exact .inl rfl
   | some o=>
     right;rcases p2 c o hp with⟨d,_⟩ | ⟨_,d⟩ | d
     ·rw [d];exact af
     ·rcases h4 l c with f | f
      ·rw [f]at d;cases d
      ·exact f
     ·rcases h4 q c with f | f
      ·rw [f]at d;cases d
      ·exact f
  ·by_cases m2:m=l\/m=q
   ·rw [aa m m1 m2];exact .inl rfl
   ·rw [g m m1 (fun e=>m2 (.inl e)) (fun e=>m2 (.inr e))];exact h4 m c
 ·intro m c o hh
  by_cases m1:m=h.length
  ·rw [m1,ac]at hh;rcases p2 c o hh with⟨d,d2⟩ | ⟨d0,d⟩ | d
   ·rw [d,d2];exact e3
   ·refine e5 c o ?_ (h5 l c o d);intro ec;rcases ak with f | f
    ·exact d0 (ec.trans f)
    ·rw [<-ec]at f;rw [f]at d;cases d
   ·refine e5 c o ?_ (h5 q c o d);intro ec;have:=out q hql;rw [<-ec]at this;rw [this]at d;cases d
  ·by_cases m2:m=l\/m=q
   ·rw [aa m m1 m2]at hh;cases hh
   ·have m3:m≠l:=fun e=>m2 (.inl e);rw [g m m1 m3 (fun e=>m2 (.inr e))]at hh;refine e5 c o ?_ (h5 m c o hh);intro ec;have:=out m m3;rw [<-ec]at this;rw [this]at hh;cases hh
 ·intro c o hh;refine e5 c o ?_ (h6.1 c o hh);intro ec;rw [ec,af]at hh;cases hh
end Go.Sh
namespace Go.Sh
open Go
variable [Con] {A:Type} {P:Program} {E:xR A} {tb:A->Nat×aB A}
structure l6 (tb:A->Nat×aB A) (E:xR A) extends RowS tb E where
 get:List E.X->Nat->E.X
 get_eq: ∀ws i,i<ws.length->ws[i]? =some (get ws i)
 lab:AVal->Option Nat
 hdIs:Nat->E.X->AVal->Prop
 hdIs_eq: ∀q y v,hdIs q y v->v=E.hd q y
def l6.settle(R:l6 tb E)(l:Nat)(h:aB A)(K:List E.X->aB A->Prop):Prop:=
 match aK h l with
 | some (.abs a [])=>match R.isRow a with
   | some ws=>K ws h
   | none=>False
 | some (.abs a [k])=>match R.isHole a with
   | some (ws,i)=>match aK h k with
     | some e=>match R.rd e with
       | some y=>cond (Nat.beq k l) False ((i<ws.length/\y=R.get ws i)/\K ws ((h.set l (some (.abs (R.row ws) []))).set k none))
       | none=>False
     | none=>False
   | none=>False
 | _=>False
theorem l6.settle_ok(R:l6 tb E){l:Nat}{h:aB A}{K:List E.X->aB A->Prop}(hk:R.settle l h K){V:Val}{hR:PHeap}{w:World}(hi:Inv (obI tb) V (toF h) hR w):
 ∃ws h2,K ws h2/\h2.length=h.length/\aK h2 l=some (.abs (R.row ws) [])/\Inv (obI tb) V (toF h2) hR w:=by
 unfold l6.settle at hk;split at hk
 ·rename_i a hl;split at hk
  case h_2=>exact hk.elim
  rename_i ws hr;have:=R.isRow_eq _ _ hr;subst this;exact⟨ws,h,hk,rfl,hl,hi⟩
 ·rename_i a k hl;split at hk
  case h_2=>exact hk.elim
  rename_i ws i hr;have:=R.isHole_eq _ _ _ hr;subst this;split at hk
  case h_2=>exact hk.elim
  rename_i e he;split at hk
  case h_2=>exact hk.elim
  rename_i y hy;have:=R.rd_eq _ _ hy;subst this;cases hb:Nat.beq k l with
  | true=>rw [hb]at hk;exact hk.elim
  | false=>
    rw [hb]at hk;obtain⟨⟨ae,rfl⟩,hk⟩:=hk;have aa:k≠l:=by intro e;rw [e,Nat.beq_refl]at hb;cases hb
    have ad:=cD hl;have h0:=R.get_eq ws i ae;have ac:=hi.backS R.toRowS h0 (fun _=>rfl) hl he aa
    have g:ws.set i (R.get ws i)=ws:=by
     apply List.ext_getElem?;intro j;rw [List.getElem?_set];split
     ·rename_i e;subst e;exact h0.symm
     ·rfl
    rw [g]at ac;refine⟨ws,_,hk,by simp,?_,ac⟩
    simp only [aK,gD'];rw [List.getElem?_set_ne aa,List.getElem?_set_self ad];rfl
 ·exact hk.elim
def l6.load(R:l6 tb E)(P:Program)(Z:Operand->AVal)(op:Op)(h:aB A)(K:AVal->aB A->Prop):Prop:=
 match op with
 | .load t a=>match Z a,eA P t with
   | .ptr l off,some false=>R.settle l h fun ws h2=>off<ws.length/\K (E.hd h2.length (R.get ws off)) (h2.set l (some (.abs (R.hole ws off) [h2.length]))++ [some (E.en (R.get ws off))])
   | _,_=>False
 | _=>False
theorem l6.load_ok(R:l6 tb E)(Z:Operand->AVal)(o:Oper)(h:aB A)(K:AVal->aB A->Prop)(hk:R.load P Z o.op h K)(V:Val)(hR:PHeap)(w:World)(Z':Operand->Value)(hi:Inv (obI tb) V (toF h) hR w)(hf: ∀l,h.length<=l->V l=none)(hZ: ∀x,Rep V (Z x) (Z' x)):
 ∃nx w' V' v v' h2,K v h2/\(execOp Z' o).run P w=.ok nx w'/\(nx=.value v'\/nx=.skip /\v'=undef)/\Rep V' v v'/\V.le V'/\(∀l,h2.length<=l->V' l=none)/\h.length<=h2.length/\Inv (obI tb) V' (toF h2) hR w'/\bN w w':=by
 unfold l6.load at hk;split at hk
 case h_2=>exact hk.elim
 rename_i t a ad;split at hk
 case h_2=>exact hk.elim
 rename_i l off hZa ah;have hx:=hZ a;rw [hZa]at hx;obtain⟨ws,h2,⟨ae,hk⟩,ai,hl,af⟩:=R.settle_ok hk hi;obtain⟨b,k,hV,hx⟩:=hx;have ag:bO V h2.length:=by intro m hm;exact hf m (by omega)
 obtain⟨V',y,b',k',cs,T,v,a1,a2,a3,a4,a5,a6,a7,a8⟩:=af.lendS R.toRowS ag hl (R.get_eq ws off ae);rw [hV]at a5;simp only [sI',pI']at a5;obtain⟨rfl,rfl⟩:=a5
 have aa:cs.toList.drop off=[v]++cs.toList.drop (off+1):=by
  obtain⟨g,ac⟩:=List.getElem?_eq_some_iff.1 a7;rw [<-ac];exact List.drop_eq_getElem_cons g
 obtain⟨v',g1,g2⟩:=fR (P:=P) (V:=V') (t:=t) (av:=[E.hd h2.length (R.get ws off)]) (v:=E.hd h2.length (R.get ws off)) a6 aa ⟨_,[],rfl,a8 V' _ a4,rfl⟩ (by unfold eM;rw [ah];rfl)
 exact⟨_,w,V',_,v',_,hk,by simp [execOp,ad,hx,g1],.inl rfl,g2,a1,fun m hm=>a2 m (by simpa using hm),by simp;omega,a3,aLu w⟩
def l6.app(R:l6 tb E)(P:Program)(Z:Operand->AVal)(op:Op)(h:aB A)(K:AVal->aB A->Prop):Prop:=
 match op with
 | .call c=>match c.callee,c.argTypes.toList,c.args.toList.map Z with
   | .builtin .append,[st,xt],[.slice l off n sz,x]=>match P.underlying st,P.underlying xt with
     | some (.slice e),some (.slice _)=>match P.info? e with
       | some i=>R.settle l h fun ws h2=>match lG x 1 h2 with
         | some (.cells [v],m,_,none)=>match R.lab v with
           | some q=>match aK h2 q with
             | some en=>match R.rd en with
               | some y=>cL (Nat.beq i.size 1&&Nat.ble i.bytes 4096&&(match i.zero with | some z=>Nat.beq (gA z).cells.length 1 | none=>false)&&cond (Nat.beq q l) false true)
                  ((m=1/\off=0/\sz=1/\n=ws.length/\n+1<=4294967296/\R.hdIs q y v)/\K (.slice h2.length 0 (n+1) 1) ((h2.set l none).set q none++ [some (.abs (R.row (ws++ [y])) [])]))
               | none=>False
             | none=>False
           | none=>False
         | _=>False
       | none=>False
     | _,_=>False
   | _,_,_=>False
 | _=>False
theorem l6.app_ok(R:l6 tb E)(Z:Operand->AVal)(o:Oper)(h:aB A)(K:AVal->aB A->Prop)(hk:R.app P Z o.op h K)(V:Val)(hR:PHeap)(w:World)(Z':Operand->Value)(hi:Inv (obI tb) V (toF h) hR w)(hf: ∀l,h.length<=l->V l=none)(hZ: ∀x,Rep V (Z x) (Z' x)):
 ∃nx w' V' v v' h2,K v h2/\(execOp Z' o).run P w=.ok nx w'/\(nx=.value v'\/nx=.skip /\v'=undef)/\Rep V' v v'/\V.le V'/\(∀l,h2.length<=l->V' l=none)/\h.length<=h2.length/\Inv (obI tb) V' (toF h2) hR w'/\bN w w':=by
 unfold l6.app at hk;split at hk
 case h_2=>exact hk.elim
 rename_i c bm;split at hk
 case h_2=>exact hk.elim
 rename_i st xt l off n sz x am bh bf;split at hk
 case h_2=>exact hk.elim
 rename_i e e2 h1 a8;split at hk
 case h_2=>exact hk.elim
 rename_i i ar;obtain⟨ws,h2,hk,bx,hl,ax⟩:=R.settle_ok hk hi;split at hk
 case h_2=>exact hk.elim
 rename_i v m lx au;split at hk
 case h_2=>exact hk.elim
 rename_i q hq;split at hk
 case h_2=>exact hk.elim
 rename_i en ay;split at hk
 case h_2=>exact hk.elim
 rename_i y hy;have:=R.rd_eq _ _ hy;subst this;obtain⟨hb,⟨rfl,rfl,rfl,hn,a6,bq⟩,av⟩:=bK.1 hk;clear hk;obtain⟨hb,a7⟩:=Bool.and_eq_true_iff.1 hb;obtain⟨hb,aj⟩:=Bool.and_eq_true_iff.1 hb;obtain⟨bs,br⟩:=Bool.and_eq_true_iff.1 hb;have ae:i.size=1:=Nat.eq_of_beq_eq_true bs;have ai:i.bytes<=4096:=Nat.le_of_ble_eq_true br;have bl:q≠l:=by intro e;rw [e,Nat.beq_refl]at a7;cases a7
 have:=R.hdIs_eq _ _ _ bq;subst this
 obtain⟨z,hz,bd⟩: ∃z,i.zero=some z/\(gA z).cells.length =1:=by
  cases hz:i.zero with
  | none=>rw [hz]at aj;cases aj
  | some z=>rw [hz]at aj;exact⟨z,rfl,Nat.eq_of_beq_eq_true aj⟩
 have bc:z.cells.size=1:=by
  have:=aH.length (dC V z);rw [Array.length_toList]at this;rw [this,bd]
 have bi:bX P e=some 1:=by simp [bX,ar,ae]
 have aa: ∀bt,c.callee=.builtin bt-> ∃cs,execOp Z' o=builtin bt c.argTypes o.type cs (c.args.map Z'):=by
  intro bt am;have h0:execOp Z' o=(do let d<-resolve Z' c o.type;invoke d.target d.args):=by simp only [execOp,bm]
  rw [h0];unfold resolve;rw [am];exact⟨_,rfl⟩
 obtain⟨b0,aa⟩:=aa _ am;have ah:=gO hZ c.args.toList;have ak:(c.args.map Z').toList =c.args.toList.map Z':=by simp
 rw [<-ak,bf]at ah;obtain⟨s',ys,e1,r1,x',zs,e3,r3,r4⟩:=ah;have ba:zs=[]:=r4;subst ba e3;have bv:c.args.map Z'= #[s',x']:=by apply Array.ext';rw [e1]
 have bg:c.argTypes= #[st,xt]:=by apply Array.ext';rw [bh]
 have aa:execOp Z' o=(do Pure.pure (.value (<-Builtin.append_ #[st,xt] o.type #[s',x']))):=by rw [aa,bg,bv];rfl
 obtain⟨base,cap,rfl,bz,ao⟩:=r1
 have src: ∀d,∃v' g ad,x'=.slice g 1 ad/\(Builtin.firstCells 1 1 x').run P {w with drawn:=d} =.ok [v'].toArray {w with drawn:=d} /\Rep V (E.hd q y) v'/\v'.oneCell'=true:=by
  intro d;obtain⟨vs,g,ad,q1,q2,q3,q4,q5⟩:=lH au trivial (ax.drew d) r3;obtain⟨v',vs',rfl,q6,q7⟩: ∃v' vs',vs=v'::vs'/\Rep V (E.hd q y) v'/\aH V [] vs':=q4;have bb:vs'=[]:=q7;subst bb;exact⟨v',g,ad,q1,by have:=q2 1 (Nat.le_refl _);simpa using this,q6,q5 v' (by simp)⟩
 have ap:V h2.length=none:=hf _ (by omega)
 obtain⟨b,k,cs,T,rs,tail,c1,c2,c3,c4,c5,c6⟩:=ax.snocS R.toRowS (y:=y) ap hl ay bl;have bo:=cD hl;have bk:=cD ay
 have hF: ∀en,toF ((h2.set l none).set q none++ [some en])=(((toF h2).put l none).put q none).put h2.length (some en):=by
  intro en;have:=fS ((h2.set l none).set q none) en;rw [fW none (by simpa using bk),fW none bo]at this
  simpa using this
 have fresh: ∀(x:Nat×Nat) m,((h2.set l none).set q none++ [some (aG.abs (R.row (ws++ [y])) [])]).length <=m->(V.add h2.length x) m=none:=by
  intro x m hm;simp at hm;rw [aLH _ _ (by omega)]
  exact hf m (by omega)
 have grow:cap<n+1->(∀d,(Builtin.firstCells 1 n (.slice base n cap)).run P {w with drawn:=d} =.ok rs.toArray {w with drawn:=d})->
  ∃nx w' V' v v' h2,K v h2/\(execOp Z' o).run P w=.ok nx w'/\(nx=.value v'\/nx=.skip /\v'=undef)/\Rep V' v v'/\V.le V'/\(∀l,h2.length<=l->V' l=none)/\h.length<=h2.length/\Inv (obI tb) V' (toF h2) hR w'/\bN w w':=fun bn ac=>by
  obtain⟨v',g,ad,q1,q2,q3,q4⟩:=src (w.drawn+1);subst q1;obtain⟨af,rest,g1,g2,g3⟩:=lF (ty:=o.type) (row:=rs) (ws:=[v']) (m:=1) h1 a8 ar hz (by rw [ae];exact q2) bn ai a6 (by rw [ae];exact ac _)
  have bj:rest.length=af - (n+1):=by rw [g2,bc,Nat.mul_one]
  have ag:=c6 v' {w with drawn:=w.drawn+1,heap:=w.heap.push (.cells (rs++ [v']++rest).toArray e) } w.heap.size af (rs++ [v']++rest).toArray e rest q3 (by simp) (by simp;omega) (by simp) (.inr (by simp))
   (by intro c o hc hh;have hl:=(Array.getElem?_eq_some_iff.1 hh).1;simp only [Array.getElem?_push];rw [if_neg (by omega)];exact hh)
  exact⟨_,{w with drawn:=w.drawn+1,heap:=w.heap.push (.cells (rs++ [v']++rest).toArray e) },V.add h2.length (w.heap.size,af),_,_,_,av,by rw [aa];exact dZ g3,.inl rfl,⟨_,_,rfl,g1,.inl ⟨_,_,aLj _ _ _,rfl,by omega⟩⟩,aLp ap,fresh _,by simp;omega,by rw [hF];exact ag,⟨rfl,rfl,by simp,fun _ _=>dW _ _ _ _⟩⟩
 rcases ao with⟨b',k',d1,d2,d3⟩ | ⟨d1,d2⟩
 ·rw [c1]at d1;simp only [sI',pI']at d1;obtain⟨rfl,rfl⟩:=d1;have bw:base=some ⟨b,0,none⟩:=by simpa using d2
  subst bw
  have ac: ∀d,(Builtin.firstCells 1 n (.slice (some ⟨b,0,none⟩) n cap)).run P {w with drawn:=d} =.ok rs.toArray {w with drawn:=d} :=by
   intro d;refine d5 (w:= {w with drawn:=d}) c2 rs (by omega) ?_
   intro j v hj;rw [<-Array.getElem?_toList,c4,Nat.zero_add,List.getElem?_append_left]
   ·exact hj
   ·exact(List.getElem?_eq_some_iff.1 hj).1
  by_cases al:n+1<=cap
  ·obtain⟨v',g,ad,q1,q2,q3,q4⟩:=src w.drawn;subst q1;obtain⟨w',aq,s1,s2,s3,s4,s5⟩:=d7 (P:=P) [v'] 0 w b (n*1) cs T c2 (by intro v hv;simp at hv;subst hv;exact q4) (by simp;omega)
   have bu:=kN (ty:=o.type) (a:=⟨b,0,none⟩) h1 a8 bi q2 al (w':=w') (by rw [Addr.add_lit,Nat.zero_add];exact s1)
   have az:aq.toList=(rs++ [v'])++tail.drop 1:=by
    rw [s3,c4];have:n*1+0=rs.length:=by omega
    rw [this];refine sT [v'] rs tail ?_;have:cs.toList.length=rs.length+tail.length:=by rw [c4];simp
    rw [Array.length_toList]at this
    simp;omega
   have bp:aq.size=k:=by
    rw [<-Array.length_toList,s3,eF,Array.length_toList];exact c3
   have ag:=c6 v' w' b k aq T (tail.drop 1) q3 az bp s2 (.inl rfl) (by intro c o hc hh;rw [s4 c hc];exact hh)
   exact⟨_,w',V.add h2.length (b,k),_,_,_,av,by rw [aa];exact dZ bu,.inl rfl,⟨_,cap,rfl,al,.inl ⟨b,k,aLj _ _ _,rfl,by omega⟩⟩,aLp ap,fresh _,by simp;omega,by rw [hF];exact ag,s5⟩
  ·exact grow (by omega) ac
 ·subst d1 d2;have:rs=[]:=List.length_eq_zero_iff.1 (by omega)
  subst this;exact grow (by omega) (fun d=>cE)
end Go.Sh
namespace Go.Sh
open Go
variable [Con] {A:Type} {P:Program} {E:xR A} {tb:A->Nat×aB A}
def uB(tb:A->Nat×aB A)(P:Program)(B:(Operand->AVal)->Op->aB A->(AVal->aB A->Prop)->Prop):Prop:=
 ∀(Z:Operand->AVal) (o:Oper) (h:aB A) (K:AVal->aB A->Prop),B Z o.op h K-> ∀(V:Val) (hR:PHeap) (w:World) (Z':Operand->Value),Inv (obI tb) V (toF h) hR w->(∀l,h.length<=l->V l=none)->(∀x,Rep V (Z x) (Z' x))->
  ∃nx w' V' v v' h2,K v h2/\(execOp Z' o).run P w=.ok nx w'/\(nx=.value v'\/nx=.skip /\v'=undef)/\Rep V' v v'/\V.le V'/\(∀l,h2.length<=l->V' l=none)/\h.length<=h2.length/\Inv (obI tb) V' (toF h2) hR w'/\bN w w'
def l6.mine(R:l6 tb E)(a:A):Bool:=match R.isRow a,R.isHole a with
 | none,none=>false
 | _,_=>true
end Go.Sh
