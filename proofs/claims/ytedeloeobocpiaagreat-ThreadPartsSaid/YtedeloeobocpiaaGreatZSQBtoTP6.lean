import Derived.Test.YtedeloeobocpiaaGreatZV2toSQA
set_option linter.all false
set_option maxHeartbeats 8000000
namespace Go.Sh
open Go Go.Proofs
variable [Con]
structure RpS (sh:Int) (LL:List (List Nd)) (f g:Nat→Int) (m:Nat):Prop where
 srt: ∀(h:Nat) (L:List Nd),LL[h]? =some L→Srt (uk L)
 rng: ∀(h:Nat) (L:List Nd),LL[h]? =some L→ ∀k∈uk L,(0≤k∧k≤999)∧(cB sh k).toNat =h
 mem: ∀(h:Nat) (L:List Nd),LL[h]? =some L→ ∀k,0≤k→k≤999→(cB sh k).toNat =h→(k∈uk L↔inF f g k m=true)
structure RpL (sh:Int) (LL:List (List Nd)) (f g:Nat→Int) (m:Nat):Prop where
 eq:uk (LL.getD 0 [])=d8 sh f g m
 rng: ∀k∈d8 sh f g m,0≤k∧k≤999
 els: ∀(h:Nat) (L:List Nd),LL[h]? =some L→h≠0→L=[]
def Rp(sh:Int)(LL:List (List Nd))(f g:Nat→Int)(m:Nat):Prop:=((sh=1∨sh=2)∧RpS sh LL f g m)∨((sh=3∨sh=4)∧RpL sh LL f g m)
def uW(sh:Int)(f g:Nat→Int)(m:Nat):Prop:= ∀j,j<m→aY sh (f j) (g j)=true
theorem T0(f g:Nat→Int)(k:Int)(m:Nat):inF f g k (m+1)=bif ieq (g m) k&&ieq (f m) 1 then true else bif ieq (g m) k&&ieq (f m) 2 then false else inF f g k m:=rfl
theorem KO{LL:List (List Nd)}{sh ky:Int}{L:List Nd}(h:LL[(cB sh ky).toNat]? =some L):bK LL sh ky=L:=by
 unfold bK
 rw [gD',h];rfl
theorem aA3{LL:List (List Nd)}(h4:LL.length=4)(sh ky:Int):LL[(cB sh ky).toNat]? =some (bK LL sh ky):=by
 have h:(cB sh ky).toNat <LL.length:=by rw [h4];exact CB _ _
 unfold bK
 rw [gD',gE' h];rfl
theorem OK{sh kd ky:Int}(h:aY sh kd ky=true)(hs:sh=1∨sh=2):(kd=1∨kd=2∨kd=3)∧0≤ky∧ky≤999:=by
 have:=eD.1 h;omega
theorem xD{sh kd ky:Int}(h:aY sh kd ky=true)(hs:sh=3∨sh=4):(kd=4∨kd=5)∧0≤ky∧ky≤999:=by
 have:=eD.1 h;omega
theorem T6{sh kd ky:Int}(hs:sh=1∨sh=2):bT sh kd ky=ky:=by
 unfold bT
 rcases hs with e | e
 ·rw [e,fN (show(1:Int)≠2 by decide),bN];rfl
 ·rw [e,bN];rfl
theorem RpS.step{sh:Int}{LL:List (List Nd)}{f g:Nat→Int}{m:Nat}(hs:sh=1∨sh=2)(h4:LL.length=4)(r:RpS sh LL f g m)(hr:aY sh (f m) (g m)=true):
 (wR sh (f m) (g m) (uk (bK LL sh (g m)))).1=PK sh f g m (f m) (g m)∧ ∀L',uk L'=(wR sh (f m) (g m) (uk (bK LL sh (g m)))).2→RpS sh (LL.set (cB sh (g m)).toNat L') f g (m+1):=by
 obtain⟨hk,hy⟩:=OK hr hs
 have hat:=aA3 h4 sh (g m)
 have hsrt:=r.srt _ _ hat
 have hmem:=r.mem _ _ hat (g m) hy.1 hy.2 rfl
 have hhd:=DD (k:=g m) hsrt
 generalize hu:uk (bK LL sh (g m))=u at*
 have hin: ∀k,k≠g m→inF f g k (m+1)=inF f g k m:=by
  intro k hk
  rw [T0,fN (show g m≠k from fun e=>hk e.symm)];rfl
 have hrng:=r.rng _ _ hat
 rw [hu]at hrng
 have build: ∀u':List Int,Srt u'→(∀k∈u',k=g m∨k∈u)→(g m∈u'↔inF f g (g m) (m+1)=true)→(∀k,k≠g m→(k∈u'↔k∈u))→ ∀L',uk L'=u'→RpS sh (LL.set (cB sh (g m)).toNat L') f g (m+1):=by
  intro u' b1 b2 b3 b4 L' hL'
  refine⟨?_,?_,?_⟩
  ·intro h M hM
   rcases oH hM with⟨rfl,rfl⟩ | ⟨hM,hne⟩
   ·rw [hL'];exact b1
   ·exact r.srt h M hM
  ·intro h M hM k hk
   rcases oH hM with⟨rfl,rfl⟩ | ⟨hM,hne⟩
   ·rw [hL']at hk
    rcases b2 k hk with e | e
    ·rw [e];exact⟨hy,rfl⟩
    ·exact hrng k e
   ·exact r.rng h M hM k hk
  ·intro h M hM k k0 k9 hh
   rcases oH hM with⟨rfl,rfl⟩ | ⟨hM,hne⟩
   ·rw [hL']
    by_cases e:k=g m
    ·rw [e];exact b3
    ·rw [b4 k e,hin k e]
     have:=r.mem _ _ hat k k0 k9 hh
     rw [hu]at this;exact this
   ·have hne2:k≠g m:=by rintro rfl;exact hne hh
    rw [hin k hne2]
    exact r.mem h M hM k k0 k9 hh
 have e12:(2:Int)≠1:=by decide
 unfold wR PK
 rw [T6 hs]
 rcases hk with e | e | e
 ·
  have i1:inF f g (g m) (m+1)=true:=by rw [T0,e,bN,bN];rfl
  simp only [e,if_neg (show¬(1:Int)=4 by decide),if_true,bN,cond_true]
  by_cases q:g m∈u
  ·rw [if_pos (hhd.2 q),hmem.1 q]
   exact⟨rfl,build u hsrt (fun k h=>.inr h) ⟨fun _=>i1,fun _=>q⟩ (fun k _=>Iff.rfl)⟩
  ·rw [if_neg (fun h=>q (hhd.1 h))]
   have q2:inF f g (g m) m=false:=by
    cases z:inF f g (g m) m with
    | false=>rfl
    | true=>exact absurd (hmem.2 z) q
   rw [q2]
   refine⟨rfl,build _ (UX hsrt q) (fun k h=>?_) ⟨fun _=>i1,fun _=>by simp⟩ (fun k hk=>?_)⟩
   ·rcases List.mem_append.1 h with z | z
    ·exact .inr ((gM u).2 (.inl z))
    ·rcases List.mem_cons.1 z with z | z
     ·exact .inl z
     ·exact .inr ((gM u).2 (.inr z))
   ·rw [List.mem_append,List.mem_cons,gM (k:=g m) u]
    constructor
    ·rintro(z | z | z)
     ·exact .inl z
     ·exact absurd z hk
     ·exact .inr z
    ·rintro(z | z)
     ·exact .inl z
     ·exact .inr (.inr z)
 ·
  have i1:inF f g (g m) (m+1)=false:=by rw [T0,e,bN,fN e12,bN];rfl
  simp only [e,if_neg (show¬(2:Int)=4 by decide),if_neg (show¬(2:Int)=1 by decide),if_true,fN e12,bN,cond_false,Bool.true_or,cond_true]
  by_cases q:g m∈u
  ·obtain⟨d1,d2⟩:=UW hsrt q
   rw [if_pos (hhd.2 q),hmem.1 q]
   refine⟨rfl,build _ d1 (fun k h=>.inr ((d2 k).1 h).1) ⟨fun h=>absurd rfl ((d2 _).1 h).2,fun h=>by rw [i1]at h;cases h⟩ (fun k hk=>⟨fun h=>((d2 k).1 h).1,fun h=>(d2 k).2 ⟨h,hk⟩⟩)⟩
  ·rw [if_neg (fun h=>q (hhd.1 h))]
   have q2:inF f g (g m) m=false:=by
    cases z:inF f g (g m) m with
    | false=>rfl
    | true=>exact absurd (hmem.2 z) q
   rw [q2]
   exact⟨rfl,build u hsrt (fun k h=>.inr h) ⟨fun h=>absurd h q,fun h=>by rw [i1]at h;cases h⟩ (fun k _=>Iff.rfl)⟩
 ·
  have i1:inF f g (g m) (m+1)=inF f g (g m) m:=by rw [T0,e,bN,fN (show(3:Int)≠1 by decide),fN (show(3:Int)≠2 by decide)];rfl
  simp only [e,if_neg (show¬(3:Int)=4 by decide),if_neg (show¬(3:Int)=1 by decide),if_neg (show¬(3:Int)=2 by decide),if_true,fN (show(3:Int)≠1 by decide),fN (show(3:Int)≠2 by decide),bN,cond_false,Bool.false_or,cond_true]
  refine⟨?_,build u hsrt (fun k h=>.inr h) (by rw [i1];exact hmem) (fun k _=>Iff.rfl)⟩
  by_cases q:g m∈u
  ·rw [decide_eq_true (hhd.2 q),hmem.1 q]
  ·rw [decide_eq_false (fun h=>q (hhd.1 h))]
   cases z:inF f g (g m) m with
   | false=>rfl
   | true=>exact absurd (hmem.2 z) q
theorem xN{p:Int→Bool} : ∀ {u:List Int},(∀x∈u,p x=true)→u.takeWhile p=u∧u.dropWhile p=[]
 | [],_=>⟨rfl,rfl⟩
 | x::u,h=>by
   have hx:=h x (List.mem_cons_self ..)
   obtain⟨h1,h2⟩:=xN (u:=u) (fun y hy=>h y (List.mem_cons_of_mem _ hy))
   rw [List.takeWhile_cons,List.dropWhile_cons,hx]
   exact⟨by simp only [if_true,h1],by simp only [if_true,h2]⟩
theorem RpL.step{sh:Int}{LL:List (List Nd)}{f g:Nat→Int}{m:Nat}(hs:sh=3∨sh=4)(h4:LL.length=4)(r:RpL sh LL f g m)(ho:uW sh f g m)(hr:aY sh (f m) (g m)=true):
 (wR sh (f m) (g m) (uk (bK LL sh (g m)))).1=PK sh f g m (f m) (g m)∧ ∀L',uk L'=(wR sh (f m) (g m) (uk (bK LL sh (g m)))).2→RpL sh (LL.set (cB sh (g m)).toNat L') f g (m+1):=by
 obtain⟨hk,hy⟩:=xD hr hs
 have hb:xF f m:=fun j hj=>(xD (ho j hj) hs).1
 have hh:(cB sh (g m)).toNat =0:=by
  unfold cB
  rw [fN (show sh≠2 by omega)];rfl
 have hl:bK LL sh (g m)=LL.getD 0 []:=by unfold bK;rw [hh]
 rw [hl,hh,r.eq]
 have hrng:=r.rng
 have h0:0<LL.length:=by omega
 have build: ∀L',uk L'=d8 sh f g (m+1)→(∀k∈d8 sh f g (m+1),0≤k∧k≤999)→RpL sh (LL.set 0 L') f g (m+1):=by
  intro L' h1 h2
  refine⟨?_,h2,?_⟩
  ·rw [gD',List.getElem?_set_self h0];exact h1
  ·intro h M hM hne
   rcases oH hM with⟨rfl,rfl⟩ | ⟨hM,_⟩
   ·exact absurd rfl hne
   ·exact r.els h M hM hne
 have hall: ∀k∈d8 sh f g m,cV 1024 k=true:=fun k hk=>decide_eq_true (by have:=hrng k hk;omega)
 have hnone: ∀k∈d8 sh f g m,cV (-1) k=false:=fun k hk=>decide_eq_false (by have:=hrng k hk;omega)
 obtain⟨t1,t2⟩:=xN hall
 have t3:(d8 sh f g m).takeWhile (cV (-1))=[]∧(d8 sh f g m).dropWhile (cV (-1))=d8 sh f g m:=by
  cases hq:d8 sh f g m with
  | nil=>exact⟨rfl,rfl⟩
  | cons x v=>
    have:=hnone x (by rw [hq];exact List.mem_cons_self ..)
    rw [List.takeWhile_cons,List.dropWhile_cons,this];exact⟨rfl,rfl⟩
 unfold wR PK
 have n14: ∀(kd:Int),kd=4∨kd=5→ieq kd 1=false∧ieq kd 2=false∧ieq kd 3=false:=fun kd h=>⟨fN (by omega),fN (by omega),fN (by omega)⟩
 obtain⟨n1,n2,n3⟩:=n14 _ hk
 rw [n1,n2,n3]
 simp only [Bool.false_or,cond_false]
 rcases hk with e | e
 ·
  simp only [e,if_true,bN,cond_true]
  rcases hs with rfl | rfl
  ·have hkey:bT 3 4 (g m)=1024:=rfl
   rw [hkey,t1,t2]
   refine⟨by trivial,fun L' h=>?_⟩
   have hi:d8 3 f g (m+1)=d8 3 f g m++ [g m]:=ON hb e
   refine build L' (by rw [h,hi]) (fun k hk=>?_)
   rw [hi]at hk
   rcases List.mem_append.1 hk with z | z
   ·exact hrng k z
   ·rw [List.mem_singleton.1 z];exact hy
  ·have hkey:bT 4 4 (g m)= -1:=rfl
   rw [hkey,t3.1,t3.2]
   refine⟨by trivial,fun L' h=>?_⟩
   have hi:d8 4 f g (m+1)=g m::d8 4 f g m:=OZ e
   refine build L' (by rw [h,hi];rfl) (fun k hk=>?_)
   rw [hi]at hk
   rcases List.mem_cons.1 hk with z | z
   ·rw [z];exact hy
   ·exact hrng k z
 ·
  have hkey:bT sh 5 (g m)= -1:=by rcases hs with rfl | rfl<;>rfl
  have hi:d8 sh f g (m+1)=(d8 sh f g m).tail :=by
   rcases hs with rfl | rfl
   ·exact KN hb e
   ·exact K1 hb e
  simp only [e,if_neg (show¬(5:Int)=4 by decide),if_neg (show¬(5:Int)=1 by decide),if_neg (show¬(5:Int)=2 by decide),if_neg (show¬(5:Int)=3 by decide),fN (show(5:Int)≠4 by decide),cond_false,hkey,t3.1,t3.2]
  have hr2: ∀k∈d8 sh f g (m+1),0≤k∧k≤999:=fun k hk=>by rw [hi]at hk;exact hrng k (List.mem_of_mem_tail hk)
  cases hq:d8 sh f g m with
  | nil=>
    refine⟨rfl,fun L' h=>build L' ?_ hr2⟩
    rw [hi,hq];exact h
  | cons x v=>
    refine⟨rfl,fun L' h=>build L' ?_ hr2⟩
    rw [hi,hq];exact h
theorem Rp.step{sh:Int}{LL:List (List Nd)}{f g:Nat→Int}{m:Nat}(h4:LL.length=4)(r:Rp sh LL f g m)(ho:uW sh f g m)(hr:aY sh (f m) (g m)=true):
 (wR sh (f m) (g m) (uk (bK LL sh (g m)))).1=PK sh f g m (f m) (g m)∧ ∀L',uk L'=(wR sh (f m) (g m) (uk (bK LL sh (g m)))).2→Rp sh (LL.set (cB sh (g m)).toNat L') f g (m+1):=by
 rcases r with⟨hs,r⟩ | ⟨hs,r⟩
 ·obtain⟨h1,h2⟩:=r.step hs h4 hr
  exact⟨h1,fun L' h=>.inl ⟨hs,h2 L' h⟩⟩
 ·obtain⟨h1,h2⟩:=r.step hs h4 ho hr
  exact⟨h1,fun L' h=>.inr ⟨hs,h2 L' h⟩⟩
theorem SB{t n:Int}{a:ENS×STS×MS}{d:Bool}{b:ENS×STS×MS}(h:vY t n a=(d,b)):(enF t n a.1 a.2.1 a.2.2).d =d∧((enF t n a.1 a.2.1 a.2.2).e,(enF t n a.1 a.2.1 a.2.2).st,(enF t n a.1 a.2.1 a.2.2).s)=b:=by
 unfold vY at h
 rw [pI']at h
 exact h
theorem S2{t n:Int}{a:FTS×STS×MS}{d:Bool}{b:FTS×STS×MS}(h:ftG t n a=(d,b)):(ftF t n a.1 a.2.1 a.2.2).d =d∧((ftF t n a.1 a.2.1 a.2.2).x,(ftF t n a.1 a.2.1 a.2.2).st,(ftF t n a.1 a.2.1 a.2.2).s)=b:=by
 unfold ftG at h
 rw [pI']at h
 exact h
theorem Act1.bnd{t n:Int}{s s':MS}(h:Act1 s s')(hb:kT t n s)(hc:s.c+1≤900000):kT t n s':=⟨hb.ht,hb.hn,by have:=hb.hc;rw [h.c];omega,h.w hb.hw⟩
theorem QL.stw{t n:Int}{xs:List Int}{LL:List (List Nd)}{S:List STS}(q:QL t n xs LL S){i:Nat}{st:STS}(hS:S[i]? =some st):stW 500 st:=by
 obtain⟨h1,h2,_⟩:=fW q hS
 have hm:=q.me i st hS
 have hn:=q.hn
 have ht:=q.ht
 refine⟨by omega,fun r hr=>by have:=h2 r (lS hr);omega,?_⟩
 have:=fZ (by omega) (pK h1) (fun r hr=>h2 r (lS hr))
 omega
theorem QL.bnd{t n:Int}{LL:List (List Nd)}{S:List STS}{s:MS}(q:QL t n s.xs LL S)(hc:0≤s.c∧s.c≤900000):kT t n s:=⟨q.ht,⟨q.hn.1,by have:=q.hn;omega⟩,hc,q.okw⟩
theorem CQ{LL:List (List Nd)}{S:List STS}{h i:Nat}{L L':List Nd}{st st':STS}(hL:LL[h]? =some L)(hS:S[i]? =some st):(allN (LL.set h L') (S.set i st')).length +((L.map Nd.a).length +(cF st.sp st.R).length)=(allN LL S).length +((L'.map Nd.a).length +(cF st'.sp st'.R).length):=by
 have p0:=(fJ (fun L:List Nd=>L.map Nd.a) LL h L hL).length_eq
 have p1:=(gZ (fun L:List Nd=>L.map Nd.a) LL h L' (eS hL)).length_eq
 have q0:=(fJ (fun st:STS=>cF st.sp st.R) S i st hS).length_eq
 have q1:=(gZ (fun st:STS=>cF st.sp st.R) S i st' (eS hS)).length_eq
 unfold allN
 simp only [List.length_append]at p0 p1 q0 q1⊢
 omega
theorem rU{LL:List (List Nd)}{S:List STS}{i:Nat}{st st':STS}(hS:S[i]? =some st):(allN LL (S.set i st')).length +(cF st.sp st.R).length =(allN LL S).length +(cF st'.sp st'.R).length :=by
 have q0:=(fJ (fun st:STS=>cF st.sp st.R) S i st hS).length_eq
 have q1:=(gZ (fun st:STS=>cF st.sp st.R) S i st' (eS hS)).length_eq
 unfold allN
 simp only [List.length_append]at q0 q1⊢
 omega
theorem lP{α:Type} : ∀ {l:List α} {i:Nat} {x:α},l[i]? =some x→l.set i x=l
 | [],i,x,h=>rfl
 | y::l,0,x,h=>by simp at h;rw [h];rfl
 | y::l,i+1,x,h=>by
   rw [List.set_cons_succ,lP (l:=l) (by simpa using h)]
def dqJ(t n:Int)(p:DOS×STS×MS):Bool×(DOS×STS×MS):=((dqF t n p.1 p.2.1 p.2.2).d,((dqF t n p.1 p.2.1 p.2.2).x,(dqF t n p.1 p.2.1 p.2.2).st,(dqF t n p.1 p.2.1 p.2.2).s))
theorem kD{t n:Int}{x:DOS}{st:STS}{s:MS}{d:Bool}{x':DOS}{st':STS}{s':MS}(h:dqF t n x st s=⟨d,x',st',s'⟩):dqJ t n (x,st,s)=(d,(x',st',s')):=by
 unfold dqJ;rw [h]
def doR(x:DOS):DOS:= {x with hd:=dW,hp:=bR,en:=aS,ft:=bQ,an:=dU,aw:=dV,fn:=aM,dr:=eO,sw:=bH}
theorem aBf{t n:Int}{x:DOS}{st:STS}{s:MS}{h:HDS}{s':MS}(h0:x.at'=0)(hr:aY x.sh x.kd x.ky=true)(hf:hdF t n x.hd s=⟨false,h,s'⟩):dqF t n x st s=⟨false,{doR x with at':=0,hd:=h},st,s'⟩:=by
 unfold dqF AE
 rw [h0]
 show(pU t n x st s).val =_
 unfold pU
 have hr:aY x.5 x.6 x.7=true:=hr
 have hf:hdF t n x.10 s=⟨false,h,s'⟩:=hf
 simp only [Tr.val,hr,hf,Bool.not_true,cond_true,cond_false]
 rfl
theorem aBg{t n:Int}{x:DOS}{st:STS}{s:MS}{h:HDS}{s':MS}(h0:x.at'=0)(hr:aY x.sh x.kd x.ky=true)(hf:hdF t n x.hd s=⟨true,h,s'⟩)(hu:h.u<0):
 dqF t n x st s=bif bS x.kd&&ieq st.sp 0 then⟨false,{doR x with at':=2},st,s'⟩else⟨false,{doR x with at':=3,ft:=(ftNF t n x.sh x.kd x.ky x.limit st).1},(ftNF t n x.sh x.kd x.ky x.limit st).2,s'⟩:=by
 unfold dqF AE
 rw [h0]
 show(pU t n x st s).val =_
 unfold pU
 have hr:aY x.5 x.6 x.7=true:=hr
 have hf:hdF t n x.10 s=⟨true,h,s'⟩:=hf
 have hu:ilt h.1 0=true:=by rw [bU];exact decide_eq_true hu
 simp only [Tr.val,hr,hf,hu,Bool.not_true,cond_true,cond_false]
 cases bS x.6<;>cases ieq st.2 0<;>rfl
theorem VQ{t n:Int}{x:DOS}{st:STS}{s:MS}{e:ENS}{st':STS}{s':MS}(h0:x.at'=2)(hr:aY x.sh x.kd x.ky=true)(hf:enF t n x.en st s=⟨false,e,st',s'⟩):dqF t n x st s=⟨false,{doR x with at':=2,en:=e},st',s'⟩:=by
 unfold dqF AE
 rw [h0]
 show(pV t n x st s).val =_
 unfold pV
 have hr:aY x.5 x.6 x.7=true:=hr
 have hf:enF t n x.12 st s=⟨false,e,st',s'⟩:=hf
 simp only [Tr.val,hr,hf,Bool.not_true,cond_true,cond_false]
 rfl
theorem VR{t n:Int}{x:DOS}{st:STS}{s:MS}{e:ENS}{st':STS}{s':MS}(h0:x.at'=2)(hr:aY x.sh x.kd x.ky=true)(hf:enF t n x.en st s=⟨true,e,st',s'⟩):
 dqF t n x st s=bif e.sh then⟨false,{doR x with code:=4,okk:=false,val:=0,at':=8,dr:=mJ t n st'.me},st',s'⟩else⟨false,{doR x with at':=3,ft:=(ftNF t n x.sh x.kd x.ky x.limit st').1},(ftNF t n x.sh x.kd x.ky x.limit st').2,s'⟩:=by
 unfold dqF AE
 rw [h0]
 show(pV t n x st s).val =_
 unfold pV
 have hr:aY x.5 x.6 x.7=true:=hr
 have hf:enF t n x.12 st s=⟨true,e,st',s'⟩:=hf
 simp only [Tr.val,hr,hf,Bool.not_true,cond_true,cond_false]
 cases e.sh<;>rfl
theorem aBk{t n:Int}{x:DOS}{st:STS}{s:MS}{f:FTS}{st':STS}{s':MS}(h0:x.at'=3)(hr:aY x.sh x.kd x.ky=true)(hf:ftF t n x.ft st s=⟨false,f,st',s'⟩):dqF t n x st s=⟨false,{doR x with at':=3,ft:=f},st',s'⟩:=by
 unfold dqF AE
 rw [h0]
 show(pW t n x st s).val =_
 unfold pW
 have hr:aY x.5 x.6 x.7=true:=hr
 have hf:ftF t n x.13 st s=⟨false,f,st',s'⟩:=hf
 simp only [Tr.val,hr,hf,Bool.not_true,cond_true,cond_false]
 rfl
theorem aBl{t n:Int}{x:DOS}{st:STS}{s:MS}{f:FTS}{st':STS}{s':MS}(h0:x.at'=3)(hr:aY x.sh x.kd x.ky=true)(hf:ftF t n x.ft st s=⟨true,f,st',s'⟩)(hn:f.failed=false):
 dqF t n x st s=bif f.okk&&eJ x.sh x.kd then⟨false,{doR x with code:=f.code,okk:=f.okk,val:=f.val,at':=7,fn:=lC t n st'.me (cB x.sh x.ky) (bT x.sh x.kd x.ky) x.limit},st',s'⟩else⟨false,{doR x with code:=f.code,okk:=f.okk,val:=f.val,at':=8,dr:=mJ t n st'.me},st',s'⟩:=by
 unfold dqF AE
 rw [h0]
 show(pW t n x st s).val =_
 unfold pW
 have hr:aY x.5 x.6 x.7=true:=hr
 have hf:ftF t n x.13 st s=⟨true,f,st',s'⟩:=hf
 have hn:f.4=false:=hn
 simp only [Tr.val,hr,hf,hn,Bool.not_true,Bool.not_false,cond_true,cond_false]
 cases hq:f.okk<;>cases eJ x.sh x.kd<;>first | rfl | (simp only [hq];rfl)
theorem aBm{t n:Int}{x:DOS}{st:STS}{s:MS}{f:FNS}{s':MS}(h0:x.at'=7)(hr:aY x.sh x.kd x.ky=true)(hf:fnF t n x.fn s=⟨false,f,s'⟩):dqF t n x st s=⟨false,{doR x with at':=7,fn:=f},st,s'⟩:=by
 unfold dqF AE
 rw [h0]
 show(pX t n x st s).val =_
 unfold pX
 have hr:aY x.5 x.6 x.7=true:=hr
 have hf:fnF t n x.16 s=⟨false,f,s'⟩:=hf
 simp only [Tr.val,hr,hf,Bool.not_true,cond_true,cond_false]
 rfl
theorem aBn{t n:Int}{x:DOS}{st:STS}{s:MS}{f:FNS}{s':MS}(h0:x.at'=7)(hr:aY x.sh x.kd x.ky=true)(hf:fnF t n x.fn s=⟨true,f,s'⟩):dqF t n x st s=⟨false,{doR x with at':=8,dr:=mJ t n st.me},⟨st.me,st.sp,st.R++f.ul⟩,s'⟩:=by
 unfold dqF AE
 rw [h0]
 show(pX t n x st s).val =_
 unfold pX
 have hr:aY x.5 x.6 x.7=true:=hr
 have hf:fnF t n x.16 s=⟨true,f,s'⟩:=hf
 simp only [Tr.val,hr,hf,Bool.not_true,cond_true,cond_false]
 rfl
theorem aBd{t n:Int}{x:DOS}{st:STS}{s:MS}{f:DRS}{s':MS}(h0:x.at'=8)(hr:aY x.sh x.kd x.ky=true)(hf:drF t n x.dr s=⟨false,f,s'⟩):dqF t n x st s=⟨false,{doR x with at':=8,dr:=f},st,s'⟩:=by
 unfold dqF AE
 rw [h0]
 show(pY t n x st s).val =_
 unfold pY
 have hr:aY x.5 x.6 x.7=true:=hr
 have hf:drF t n x.17 s=⟨false,f,s'⟩:=hf
 simp only [Tr.val,hr,hf,Bool.not_true,cond_true,cond_false]
 rfl
theorem aBe{t n:Int}{x:DOS}{st:STS}{s:MS}{f:DRS}{s':MS}(h0:x.at'=8)(hr:aY x.sh x.kd x.ky=true)(hf:drF t n x.dr s=⟨true,f,s'⟩):dqF t n x st s=⟨!ile (4*t) (st.R.length:Int),{doR x with at':=9},st,s'⟩:=by
 unfold dqF AE
 rw [h0]
 show(pY t n x st s).val =_
 unfold pY
 have hr:aY x.5 x.6 x.7=true:=hr
 have hf:drF t n x.17 s=⟨true,f,s'⟩:=hf
 simp only [Tr.val,hr,hf,Bool.not_true,cond_true,cond_false]
 rfl
theorem aBi{t n:Int}{x:DOS}{st:STS}{s:MS}{f:SWS}{st':STS}{s':MS}(h0:x.at'=9)(hr:aY x.sh x.kd x.ky=true)(hf:swF t n x.sw st s=⟨false,f,st',s'⟩):dqF t n x st s=⟨false,{doR x with at':=9,sw:=f},st',s'⟩:=by
 unfold dqF AE
 rw [h0]
 show(pZ t n x st s).val =_
 unfold pZ
 have hr:aY x.5 x.6 x.7=true:=hr
 have hf:swF t n x.18 st s=⟨false,f,st',s'⟩:=hf
 simp only [Tr.val,hr,hf,Bool.not_true,cond_true,cond_false]
 rfl
theorem aBj{t n:Int}{x:DOS}{st:STS}{s:MS}{f:SWS}{st':STS}{s':MS}(h0:x.at'=9)(hr:aY x.sh x.kd x.ky=true)(hf:swF t n x.sw st s=⟨true,f,st',s'⟩):dqF t n x st s=⟨true,{doR x with at':=9},st',s'⟩:=by
 unfold dqF AE
 rw [h0]
 show(pZ t n x st s).val =_
 unfold pZ
 have hr:aY x.5 x.6 x.7=true:=hr
 have hf:swF t n x.18 st s=⟨true,f,st',s'⟩:=hf
 simp only [Tr.val,hr,hf,Bool.not_true,cond_true,cond_false]
 rfl
theorem aDG{σ τ:Type}{F:σ→Bool×σ}{G:τ→Bool×τ}(e:σ→τ)(he: ∀a b,F a=(false,b)→G (e a)=(false,e b)){j:Nat}{a z:σ}{y:τ}(h:End F j a z)(hz: ∀b,F b=(true,z)→G (e b)=(false,y)):Go1 G j (e a) y:=by
 obtain⟨i,b,rfl,h1,h2⟩:=h
 have:=(aDW e he h1).trans (Go1.one (hz b h2))
 rw [Nat.add_comm]at this
 exact this
theorem End.outo{σ τ:Type}{F:σ→Bool×σ}{G:τ→Bool×τ}(e:σ→τ)(he: ∀a b,F a=(false,b)→G (e a)=(false,e b)){j:Nat}{a z:σ}{y:τ}(h:End F j a z)(hz: ∀b,F b=(true,z)→G (e b)=(true,y)):End G j (e a) y:=by
 obtain⟨i,b,rfl,h1,h2⟩:=h
 exact⟨i,e b,rfl,aDW e he h1,hz b h2⟩
theorem G6{t n:Int}{a:DRS×MS}{d:Bool}{b:DRS×MS}(h:drG t n a=(d,b)):drF t n a.1 a.2=⟨d,b.1,b.2⟩:=by
 unfold drG at h
 rw [pI']at h
 obtain⟨rfl,rfl⟩:=h
 rfl
theorem HQ{t n:Int}{a:HDS×MS}{d:Bool}{b:HDS×MS}(h:J9 t n a=(d,b)):hdF t n a.1 a.2=⟨d,b.1,b.2⟩:=by
 unfold J9 at h
 rw [pI']at h
 obtain⟨rfl,rfl⟩:=h
 rfl
theorem IC{t n:Int}{a:SWS×STS×MS}{d:Bool}{b:SWS×STS×MS}(h:WM t n a=(d,b)):swF t n a.1 a.2.1 a.2.2=⟨d,b.1,b.2.1,b.2.2⟩:=by
 unfold WM at h
 rw [pI']at h
 obtain⟨rfl,rfl⟩:=h
 rfl
theorem p5{t n:Int}{a:ENS×STS×MS}{d:Bool}{b:ENS×STS×MS}(h:vY t n a=(d,b)):enF t n a.1 a.2.1 a.2.2=⟨d,b.1,b.2.1,b.2.2⟩:=by
 obtain⟨h1,h2⟩:=SB h
 subst h1 h2
 rfl
theorem B8{t n:Int}{a:FTS×STS×MS}{d:Bool}{b:FTS×STS×MS}(h:ftG t n a=(d,b)):ftF t n a.1 a.2.1 a.2.2=⟨d,b.1,b.2.1,b.2.2⟩:=by
 obtain⟨h1,h2⟩:=S2 h
 subst h1 h2
 rfl
def UpF(n me:Int)(s s':MS):Prop:= ∀a,2*n+5≤a→a≠2*n+5+2*me→a≠2*n+5+2*me+1→aB s'.xs a=aB s.xs a
theorem UpF.trans{n me:Int}{a b c:MS}(h:UpF n me a b)(g:UpF n me b c):UpF n me a c:=fun x h1 h2 h3=>(g x h1 h2 h3).trans (h x h1 h2 h3)
structure aAW (X z:DOS):Prop where
 code:z.code=X.code
 okk:z.okk=X.okk
 val:z.val=X.val
 slow:z.slow=X.slow
theorem yP{t n:Int}{LL:List (List Nd)}{S:List STS}{s:MS}{i:Nat}{st:STS}(q:QL t n s.xs LL S)(hS:S[i]? =some st)(sz: ∀k:Int,0≤k→k<2*t→k≠2*st.me→k≠2*st.me+1→aB s.xs (2*n+5+k)=0):
 ∃j st' s',(∀X:DOS,X.at'=8→aY X.sh X.kd X.ky=true→X.dr=⟨st.me,0⟩→ ∃z,End (dqJ t n) j (X,st,s) (z,st',s')∧aAW X z)∧QL t n s'.xs LL (S.set i st')∧SZ t n s'.xs∧UpF n st.me s s'∧s'.c=s.c+j∧s'.t=s.t∧s'.n=s.n∧(j:Int)≤2+2*t+n∧st'.sp=st.sp∧(st'=st∧(st.R.length:Int)<4*t∨st'= {st with R:=[] } ∧4*t≤(st.R.length:Int)):=by
 have hm:=q.me i st hS
 have hn:=q.hn
 have ht:=q.ht
 obtain⟨zd,s1,hdrop,hd1⟩:=NH t n st.me s
 let s2:=(s.stored (2*n+5+2*st.me+0) 0).stored (2*n+5+2*st.me+1) 0
 have x2: ∀a,a≠2*n+5+2*st.me→a≠2*n+5+2*st.me+1→aB s2.xs a=aB s.xs a:=by
  intro a h0 h1
  show aB (aL (aL s.xs (2*n+5+2*st.me+0) 0) (2*n+5+2*st.me+1) 0) a=_
  rw [cK h1,cK (by omega)]
 have hin0:0≤2*n+5+2*st.me+0∧2*n+5+2*st.me+0<s.xs.length:=by have:=q.len;omega
 have hin1:0≤2*n+5+2*st.me+1∧2*n+5+2*st.me+1<(aL s.xs (2*n+5+2*st.me+0) 0).length :=by rw [b8];have:=q.len;omega
 have xs1:aB s2.xs (2*n+5+2*st.me+1)=0:=dM hin1
 have xs0:aB s2.xs (2*n+5+2*st.me)=0:=by
  show aB (aL (aL s.xs (2*n+5+2*st.me+0) 0) (2*n+5+2*st.me+1) 0) _=0
  rw [cK (by omega),show 2*n+5+2*st.me+0=2*n+5+2*st.me by omega]
  exact dM (by omega)
 have sz2:SZ t n s2.xs:=by
  intro k h0 h1
  by_cases e0:k=2*st.me
  ·rw [e0];exact xs0
  ·by_cases e1:k=2*st.me+1
   ·rw [e1,show 2*n+5+(2*st.me+1)=2*n+5+2*st.me+1 by omega];exact xs1
   ·rw [x2 _ (by omega) (by omega)];exact sz k h0 h1 e0 e1
 have len2:s2.xs.length=s.xs.length:=(b8 _ _ _).trans (b8 _ _ _)
 have ok2:okW s2.xs:=d9 (d9 q.okw ⟨by decide,by decide⟩) ⟨by decide,by decide⟩
 have q2:QL t n s2.xs LL S:=q.out len2 ok2 (fun a ha=>x2 a (by omega) (by omega))
 have hRn:(st.R.length:Int)≤n:=by
  have:=fZ (by omega) (pK (fW q hS).1) (fun r hr=>(fW q hS).2.1 r (lS hr))
  exact this
 have drops: ∀X:DOS,X.at'=8→aY X.sh X.kd X.ky=true→X.dr=⟨st.me,0⟩→ ∀d,(!ile (4*t) (st.R.length:Int))=d→ ∃b,Go1 (dqJ t n) 1 (X,st,s) b∧dqJ t n b=(d,({doR X with at':=9},st,s2)):=by
  intro X h8 hr hdr d hd
  obtain⟨i',b,hj,g1,g2⟩:=hdrop
  have hi:i'=1:=by omega
  subst hi
  cases g1 with
  | cons e g=>
    cases g
    have e1:=G6 e
    have e2:=G6 g2
    refine⟨({doR X with at':=8,dr:=b.1},st,b.2),Go1.one (kD (aBd h8 hr (by rw [hdr];exact e1))),?_⟩
    rw [←hd]
    exact kD (aBe (x:= {doR X with at':=8,dr:=b.1}) rfl hr e2)
 by_cases hfull:(st.R.length:Int)<4*t
 ·have hd:(!ile (4*t) (st.R.length:Int))=true:=by rw [cG,decide_eq_false (by omega)];rfl
  refine⟨2,st,s2,fun X h8 hr hdr=>?_,by rw [lP hS];exact q2,sz2,fun a h0 h1 h2=>x2 a h1 h2,by show s.c+1+1=_;omega,rfl,rfl,by omega,rfl,.inl ⟨rfl,hfull⟩⟩
  obtain⟨b,g1,g2⟩:=drops X h8 hr hdr true hd
  exact⟨_,⟨1,b,rfl,g1,g2⟩,rfl,rfl,rfl,rfl⟩
 ·have hd:(!ile (4*t) (st.R.length:Int))=false:=by rw [cG,decide_eq_true (by omega)];rfl
  have hR:st.R≠ []:=by intro e;rw [e]at hfull;simp at hfull;omega
  obtain⟨j,zw,s3,g1,g2,g3,g4,g5,g6⟩:=aAx (t:=t) (n:=n) (y:=bH) (st:=st) (s:=s2) rfl ht.1 hn.2 hR (fun r hr=>(fW q hS).2.1 r (lS hr)) sz2
  have q3:=q2.give hS
  have up3: ∀a,2*n+5≤a→aB s3.xs a=aB s2.xs a:=by
   intro a ha
   rw [g2]
   refine gK _ _ (fun r hr e=>?_)
   have:=(fW q hS).2.1 r (lS hr);omega
  refine⟨j+2,{st with R:=[] },s3,fun X h8 hr hdr=>?_,by rw [g2];exact q3,?_,fun a h0 h1 h2=>(up3 a h0).trans (x2 a h1 h2),by rw [g3];show s.c+1+1+_=_;omega,g4,g5,by omega,rfl,.inr ⟨rfl,by omega⟩⟩
  ·obtain⟨b,k1,k2⟩:=drops X h8 hr hdr false hd
   have hsw:End (dqJ t n) j ({doR X with at':=9,sw:=bH},st,s2) ({doR X with at':=9},{st with R:=[] },s3):=by
    refine End.outo (F:=WM t n) (G:=dqJ t n) (fun p:SWS×STS×MS=>(({doR X with at':=9,sw:=p.1} :DOS),p.2.1,p.2.2)) (fun a c h=>kD (aBi (x:= {doR X with at':=9,sw:=a.1}) rfl hr (IC h))) g1 (fun c h=>kD (aBj (x:= {doR X with at':=9,sw:=c.1}) rfl hr (IC h)))
   exact⟨_,aDH (k1.trans (Go1.one k2)) hsw,rfl,rfl,rfl,rfl⟩
  ·intro k h0 h1
   rw [up3 _ (by omega)];exact sz2 k h0 h1
theorem vF(k:Int): ∀L:List Nd,∀b∈(sc k L).1,b.k<k
 | [],b,h=>by cases h
 | c::L,b,h=>by
   cases hm:c.m with
   | true=>rw [jY hm]at h;exact vF k L b h
   | false=>
     by_cases hk:k≤c.k
     ·rw [jZ hm hk]at h;cases h
     ·rw [iU hm (by omega)]at h
      rcases List.mem_cons.1 h with e | e
      ·rw [e];omega
      ·exact vF k L b e
theorem PP(k:Int): ∀(A R:List Nd),(∀a∈A,a.m=false∧a.k<k)→sc k (A++R)=(A++(sc k R).1,(sc k R).2.1,(sc k R).2.2)
 | [],R,_=>rfl
 | a::A,R,h=>by
   obtain⟨h1,h2⟩:=h a (List.mem_cons_self ..)
   have ih:=PP k A R (fun b hb=>h b (List.mem_cons_of_mem _ hb))
   rw [List.cons_append,iU h1 h2,ih]
   rfl
theorem zS(k:Int): ∀L:List Nd,(∀b∈L,b.m=false)→(sc k L).2.1=[]∧(sc k L).1++(sc k L).2.2=L
 | [],_=>⟨rfl,rfl⟩
 | c::L,h=>by
   have hm:=h c (List.mem_cons_self ..)
   obtain⟨h1,h2⟩:=zS k L (fun b hb=>h b (List.mem_cons_of_mem _ hb))
   by_cases hk:k≤c.k
   ·rw [jZ hm hk];exact⟨rfl,rfl⟩
   ·rw [iU hm (by omega)]
    exact⟨h1,by rw [List.cons_append,h2]⟩
theorem VD(k:Int)(L:List Nd):uk ((sc k L).1++(sc k L).2.2)=uk L:=by
 obtain⟨h1,h2⟩:=P9 k L
 rw [kR,QA (xV k L),h1,h2,List.takeWhile_append_dropWhile]
def UM(LL:List (List Nd)):Prop:= ∀L∈LL,∀b∈L,b.m=false
theorem UM.set{LL:List (List Nd)}(h:UM LL){i:Nat}{L:List Nd}(hL: ∀b∈L,b.m=false):UM (LL.set i L):=by
 intro M hM
 rcases List.mem_or_eq_of_mem_set hM with e | e
 ·exact h M e
 ·rw [e];exact hL
theorem UM.at{LL:List (List Nd)}(h:UM LL){i:Nat}{L:List Nd}(hL:LL[i]? =some L): ∀b∈L,b.m=false:=h L (List.mem_of_getElem? hL)
theorem CX{sh kd ky:Int}{B:List Nd}(hr:aY sh kd ky=true):((paOf sh kd ky B).ok &&eJ sh kd)=true↔ ∃v,paOf sh kd ky B=.mark v:=by
 have hk:=eD.1 hr
 have mb:eJ sh kd=true↔kd=2∨kd=5∧sh=3:=by unfold eJ;simp [bI]
 constructor
 ·intro h
  rw [Bool.and_eq_true,mb]at h
  obtain⟨h1,h2⟩:=h
  unfold paOf at h1⊢
  rcases h2 with e | ⟨e,e3⟩
  ·rw [if_neg (show¬kd=4 by omega),if_neg (show¬kd=1 by omega),if_pos e]at h1⊢
   cases q:fndB ky B with
   | true=>exact⟨0,rfl⟩
   | false=>rw [q]at h1;cases h1
  ·rw [if_neg (show¬kd=4 by omega),if_neg (show¬kd=1 by omega),if_neg (show¬kd=2 by omega),if_neg (show¬kd=3 by omega)]at h1⊢
   cases B with
   | nil=>cases h1
   | cons b B'=>exact⟨b.k,if_neg (show¬sh=4 by omega)⟩
 ·rintro⟨v,hv⟩
  rw [hv,Bool.and_eq_true,mb]
  refine⟨rfl,?_⟩
  unfold paOf at hv
  by_cases e4:kd=4
  ·rw [if_pos e4]at hv;cases hv
  ·rw [if_neg e4]at hv
   by_cases e1:kd=1
   ·rw [if_pos e1]at hv
    cases q:fndB ky B<;>rw [q]at hv<;>cases hv
   ·rw [if_neg e1]at hv
    by_cases e2:kd=2
    ·exact .inl e2
    ·rw [if_neg e2]at hv
     by_cases e3:kd=3
     ·rw [if_pos e3]at hv;cases hv
     ·rw [if_neg e3]at hv
      right
      cases B with
      | nil=>cases hv
      | cons b B'=>
        by_cases e5:sh=4
        ·simp only [if_pos e5]at hv;cases hv
        ·omega
theorem FtA.up{n me p k ky sp:Int}{L:List Nd}{a:Pa}{s s':MS}{j:Nat}(f:FtA n me p L k ky sp a s s' j)(hn:1≤n)(hp:p≤n+4)(hL: ∀b∈L.map Nd.a,b≤n)(hsp:sp≤n):UpF n me s s':=by
 intro x h0 h1 h2
 refine f.same x h1 h2 (fun h=>?_) (by omega)
 rcases List.mem_cons.1 h with e | e
 ·omega
 ·have:=hL x e;omega
theorem II.up{n p:Int}{L:List Nd}{x z:FNS}{s s':MS}{j:Nat}(f:II n p L x s z s' j)(hn:1≤n)(hp:p≤n+4)(hL: ∀b∈L.map Nd.a,b≤n):UpF n x.me s s':=by
 intro y h0 h1 h2
 refine f.same y h1 h2 (fun h=>?_)
 rcases List.mem_cons.1 h with e | e
 ·omega
 ·have:=hL y (jJ (tO _ _) e);omega
theorem aBT{t n:Int}{xs:List Int}{LL:List (List Nd)}{S:List STS}(q:QL t n xs LL S){i:Nat}{st:STS}(hS:S[i]? =some st):st.sp≤n:=by
 have hn:=q.hn
 by_cases z:st.sp=0
 ·omega
 ·exact((fW q hS).2.1 st.sp (by rw [kJ z];exact List.mem_cons_self ..)).2
theorem A6{LL:List (List Nd)}{S:List STS}{i:Nat}{st st3:STS}{P Q:Prop}(hS:S[i]? =some st)(h:st3=st∧P∨st3= {st with R:=[] } ∧Q):(allN LL (S.set i st3)).length ≤(allN LL S).length :=by
 have hl:=rU (LL:=LL) (st':=st3) hS
 rcases h with⟨rfl,_⟩ | ⟨rfl,_⟩
 ·omega
 ·have h2:(cF st.sp []).length ≤(cF st.sp st.R).length :=by unfold cF;cases ieq st.sp 0<;>simp
  have h3:(allN LL (S.set i {st with R:=[] })).length +(cF st.sp st.R).length =(allN LL S).length +(cF st.sp []).length :=hl
  omega
theorem A5{sh kd ky:Int}{LL:List (List Nd)}{S:List STS}{h i:Nat}{L:List Nd}{st:STS}(hL:LL[h]? =some L)(hS:S[i]? =some st)(hl:bS kd=true→st.sp≠0):(allN (LL.set h (fO sh kd ky st.sp L)) (S.set i (fP sh kd ky L st))).length =(allN LL S).length :=by
 have:=CQ (L':=fO sh kd ky st.sp L) (st':=fP sh kd ky L st) hL hS
 have pf:=(wY (sh:=sh) (kd:=kd) (ky:=ky) (L:=L) (st:=st) hl).length_eq
 simp only [List.length_append]at pf
 omega
theorem MX{LL:List (List Nd)}{S:List STS}{h i:Nat}{L:List Nd}{st:STS}(k:Int)(hL:LL[h]? =some L)(hS:S[i]? =some st):(allN (LL.set h ((sc k L).1++(sc k L).2.2)) (S.set i ⟨st.me,st.sp,st.R++(sc k L).2.1.map Nd.a⟩)).length =(allN LL S).length :=by
 have hm:=CQ (L':=(sc k L).1++(sc k L).2.2) (st':=⟨st.me,st.sp,st.R++(sc k L).2.1.map Nd.a⟩) hL hS
 have pf:=(tP k L).length_eq
 have hh:(cF st.sp (st.R++(sc k L).2.1.map Nd.a)).length =(cF st.sp st.R).length +(sc k L).2.1.length :=by
  unfold cF
  cases ieq st.sp 0<;>simp<;>omega
 have hm:(allN (LL.set h ((sc k L).1++(sc k L).2.2)) (S.set i ⟨st.me,st.sp,st.R++(sc k L).2.1.map Nd.a⟩)).length +((L.map Nd.a).length +(cF st.sp st.R).length)=(allN LL S).length +((((sc k L).1++(sc k L).2.2).map Nd.a).length +(cF st.sp (st.R++(sc k L).2.1.map Nd.a)).length):=hm
 simp only [List.length_append,List.length_map]at pf hm
 omega
theorem XR{t n:Int}{sh kd ky:Int}{LL:List (List Nd)}{S:List STS}{s:MS}{i:Nat}{st:STS}(q:QL t n s.xs LL S)(hS:S[i]? =some st)(hr:aY sh kd ky=true)(um:UM LL)(hl:bS kd=true→st.sp≠0)
 (sz: ∀k:Int,0≤k→k<2*t→k≠2*st.me→k≠2*st.me+1→aB s.xs (2*n+5+k)=0):
 ∃j L' st' s',(∀Y:DOS,Y.sh=sh→Y.kd=kd→Y.ky=ky→0≤Y.limit→ ∃z,End (dqJ t n) j ({doR Y with at':=3,ft:=(ftNF t n sh kd ky Y.limit st).1},st,s) (z,st',s')∧z.code=0∧(z.okk,z.val)=(wR sh kd ky (uk (bK LL sh ky))).1∧z.slow=Y.slow)∧
  QL t n s'.xs (LL.set (cB sh ky).toNat L') (S.set i st')∧(∀b∈L',b.m=false)∧uk L'=(wR sh kd ky (uk (bK LL sh ky))).2∧SZ t n s'.xs∧UpF n st.me s s'∧s'.c=s.c+j∧s'.t=s.t∧s'.n=s.n∧(j:Int)≤11*n+2*t+20∧
  st'.sp=(bif bS kd&&(wR sh kd ky (uk (bK LL sh ky))).1.1 then 0 else st.sp)∧(allN (LL.set (cB sh ky).toNat L') (S.set i st')).length ≤(allN LL S).length :=by
 have hn:=q.hn
 have lc:=q.lc sh ky hS
 have hL:=q.at sh ky
 have hh:=uQ sh ky
 have hLn:=iR q hL
 have hum:=um.at hL
 obtain⟨j1,s1,fa,hz⟩:=EL (t:=t) (sh:=sh) (kd:=kd) (ky:=ky) (st:=st) (s:=s) hr lc (fun hk=>by
  have h0:=hl hk
  have hm:st.sp∈cF st.sp st.R:=by rw [kJ h0];exact List.mem_cons_self ..
  have:=(fW q hS).2.1 _ hm
  exact⟨this.1,this.2,rR q hS hL _ hm⟩)
 obtain⟨k1,k2,k3⟩:=JS sh kd ky st.sp (bK LL sh ky)
 have q1:=q.fast (sh:=sh) (kd:=kd) (ky:=ky) hS hl fa
 have up1:=fa.up hn.1 lc.hp.2 (fun b hb=>(hLn.2.1 b hb).2) (aBT q hS)
 have hlim:=fa.lim
 have hlen:=lc.ln
 obtain⟨u0,u1⟩:=zS (bT sh kd ky) _ hum
 have hlA:=vF (bT sh kd ky) (bK LL sh ky)
 have huA:=xV (bT sh kd ky) (bK LL sh ky)
 have hsp:(fP sh kd ky (bK LL sh ky) st).sp =(bif bS kd&&(wR sh kd ky (uk (bK LL sh ky))).1.1 then 0 else st.sp):=by
  rw [←k1]
  show(paOf sh kd ky (sc (bT sh kd ky) (bK LL sh ky)).2.2).sp st.sp=_
  cases hlk:bS kd with
  | true=>
    rcases u2 (sh:=sh) (ky:=ky) (B:=(sc (bT sh kd ky) (bK LL sh ky)).2.2) hlk with e | ⟨b,e⟩
    ·rw [e];rfl
    ·rw [e]
     cases b with
     | false=>rfl
     | true=>
       exfalso
       unfold paOf at e
       unfold bS at hlk
       simp only [bI,Bool.or_eq_true,beq_iff_eq]at hlk
       rcases hlk with e1 | e4
       ·rw [if_neg (show¬kd=4 by omega),if_pos e1]at e
        cases q:fndB ky (sc (bT sh kd ky) (bK LL sh ky)).2.2<;>rw [q]at e<;>cases e
       ·rw [if_pos e4]at e;cases e
  | false=>
    rw [Bool.false_and,cond_false]
    cases hp:paOf sh kd ky (sc (bT sh kd ky) (bK LL sh ky)).2.2 with
    | link=>have:=zJ hp;rw [hlk]at this;cases this
    | _=>rfl
 have hwalk: ∀Y:DOS,Y.sh=sh→Y.kd=kd→Y.ky=ky→0≤Y.limit→ ∀y,(∀f:FTS,f.code=0→f.okk=(paOf sh kd ky (sc (bT sh kd ky) (bK LL sh ky)).2.2).ok →f.val=(paOf sh kd ky (sc (bT sh kd ky) (bK LL sh ky)).2.2).val →f.failed=false→(bif f.okk&&eJ sh kd then(({doR Y with code:=f.code,okk:=f.okk,val:=f.val,at':=7,fn:=lC t n st.me (cB sh ky) (bT sh kd ky) Y.limit} :DOS),fP sh kd ky (bK LL sh ky) st,s1)else(({doR Y with code:=f.code,okk:=f.okk,val:=f.val,at':=8,dr:=mJ t n st.me} :DOS),fP sh kd ky (bK LL sh ky) st,s1))=y)→
  Go1 (dqJ t n) j1 ({doR Y with at':=3,ft:=(ftNF t n sh kd ky Y.limit st).1},st,s) y:=by
  intro Y y1 y2 y3 hlm y hy
  subst y1
  subst y2
  subst y3
  obtain⟨z,hend,z1,z2,z3,z4,z5⟩:=hz Y.limit hlm
  have hrY:aY Y.sh Y.kd Y.ky=true:=hr
  refine aDG (F:=ftG t n) (fun p:FTS×STS×MS=>(({doR Y with at':=3,ft:=p.1} :DOS),p.2.1,p.2.2)) (fun a b hab=>kD (aBk (x:= {doR Y with at':=3,ft:=a.1}) rfl hrY (B8 hab))) hend (fun b hb=>?_)
  have e:=aBl (x:= {doR Y with at':=3,ft:=b.1}) rfl hrY (B8 hb) z4
  have hy:=hy z z1 z2 z3 z4
  unfold dqJ
  rw [e]
  rw [←hy]
  show((bif z.okk&&eJ Y.sh Y.kd then _ else _:DqO).d,(bif z.okk&&eJ Y.sh Y.kd then _ else _:DqO).x,(bif z.okk&&eJ Y.sh Y.kd then _ else _:DqO).st,(bif z.okk&&eJ Y.sh Y.kd then _ else _:DqO).s)=_
  cases (z.okk&&eJ Y.sh Y.kd)<;>rfl
 have hS1:(S.set i (fP sh kd ky (bK LL sh ky) st))[i]? =some (fP sh kd ky (bK LL sh ky) st):=List.getElem?_set_self (eS hS)
 have hL1:(LL.set (cB sh ky).toNat (fO sh kd ky st.sp (bK LL sh ky)))[(cB sh ky).toNat]? =some (fO sh kd ky st.sp (bK LL sh ky)):=List.getElem?_set_self (eS hL)
 by_cases hmark: ∃v,paOf sh kd ky (sc (bT sh kd ky) (bK LL sh ky)).2.2=.mark v
 ·
  have hmk:=(CX (ky:=ky) (B:=(sc (bT sh kd ky) (bK LL sh ky)).2.2) hr).2 hmark
  obtain⟨v,hv⟩:=hmark
  have lc1:=q1.lc sh ky hS1
  rw [KO hL1]at lc1
  obtain⟨j2,zf,s2,e2,f2,hj2⟩:=NS (t:=t) (n:=n) (fO sh kd ky st.sp (bK LL sh ky)) (n+1+cB sh ky) (lC t n st.me (cB sh ky) (bT sh kd ky) 0) s1 rfl rfl (lc1.fc _ _ _)
  have hL1':=hL1
  have q2:=q1.find (x:=lC t n st.me (cB sh ky) (bT sh kd ky) 0) hL1 hS1 rfl (by rw [hh];exact f2)
  rw [List.set_set,List.set_set]at q2
  have ful:zf.ul=(sc (bT sh kd ky) (fO sh kd ky st.sp (bK LL sh ky))).2.1.map Nd.a:=by have:=f2.ul;exact this.trans (List.nil_append _)
  have up2:UpF n st.me s1 s2:=f2.up hn.1 lc.hp.2 (fun b hb=>((iR q1 hL1).2.1 b hb).2)
  have hS2:(S.set i ⟨(fP sh kd ky (bK LL sh ky) st).me,(fP sh kd ky (bK LL sh ky) st).sp,(fP sh kd ky (bK LL sh ky) st).R ++(sc (bT sh kd ky) (fO sh kd ky st.sp (bK LL sh ky))).2.1.map Nd.a⟩)[i]? =some _:=List.getElem?_set_self (eS hS)
  have sz2: ∀k:Int,0≤k→k<2*t→k≠2*st.me→k≠2*st.me+1→aB s2.xs (2*n+5+k)=0:=by
   intro k h0 h1 h2 h3
   rw [up2 _ (by omega) (by omega) (by omega),up1 _ (by omega) (by omega) (by omega)]
   exact sz k h0 h1 h2 h3
  obtain⟨j3,st3,s3,w,q3,sz3,up3,c3,t3,n3,b3,sp3,hd3⟩:=yP q2 hS2 sz2
  rw [List.set_set]at q3
  have ct3:=A6 (LL:=LL.set (cB sh ky).toNat ((sc (bT sh kd ky) (fO sh kd ky st.sp (bK LL sh ky))).1++(sc (bT sh kd ky) (fO sh kd ky st.sp (bK LL sh ky))).2.2)) hS2 hd3
  have ct2:=MX (bT sh kd ky) hL1 hS1
  have ct1:=A5 (sh:=sh) (kd:=kd) (ky:=ky) hL hS hl
  rw [List.set_set]at ct3
  rw [List.set_set,List.set_set]at ct2
  rw [ct1]at ct2
  have hl1:=lc1.ln
  refine⟨j3+(j2+j1),_,st3,s3,fun Y y1 y2 y3 hlm=>?_,q3,?_,(VD _ _).trans k3,sz3,(up1.trans up2).trans up3,?_,t3.trans (f2.t.trans fa.t),n3.trans (f2.n.trans fa.n),by omega,sp3.trans hsp,Nat.le_trans ct3 (Nat.le_of_eq ct2)⟩
  ·obtain⟨f0,f01,f02,f03,f04⟩: ∃f:FTS,f.code=0∧f.okk=(paOf sh kd ky (sc (bT sh kd ky) (bK LL sh ky)).2.2).ok ∧f.val=(paOf sh kd ky (sc (bT sh kd ky) (bK LL sh ky)).2.2).val ∧f.failed=false:=by
    obtain⟨z,_,z1,z2,z3,z4,z5⟩:=hz Y.limit hlm
    exact⟨z,z1,z2,z3,z4⟩
   have g1:=hwalk Y y1 y2 y3 hlm (({doR Y with code:=0,okk:=(paOf sh kd ky (sc (bT sh kd ky) (bK LL sh ky)).2.2).ok,val:=(paOf sh kd ky (sc (bT sh kd ky) (bK LL sh ky)).2.2).val,at':=7,fn:=lC t n st.me (cB sh ky) (bT sh kd ky) Y.limit} :DOS),fP sh kd ky (bK LL sh ky) st,s1) (by
    intro f a1 a2 a3 a4
    rw [a1,a2,a3,hmk];rfl)
   have hrY:aY Y.sh Y.kd Y.ky=true:=by rw [y1,y2,y3];exact hr
   let X7:DOS:= {doR Y with code:=0,okk:=(paOf sh kd ky (sc (bT sh kd ky) (bK LL sh ky)).2.2).ok,val:=(paOf sh kd ky (sc (bT sh kd ky) (bK LL sh ky)).2.2).val,at':=7}
   have g2:Go1 (dqJ t n) j2 (({doR X7 with at':=7,fn:= {lC t n st.me (cB sh ky) (bT sh kd ky) 0 with limit:=Y.limit} } :DOS),fP sh kd ky (bK LL sh ky) st,s1) ({doR X7 with at':=8,dr:=mJ t n st.me},⟨st.me,(fP sh kd ky (bK LL sh ky) st).sp,(fP sh kd ky (bK LL sh ky) st).R ++zf.ul⟩,s2):=
    aDG (F:=AF t n) (fun p:FNS×MS=>(({doR X7 with at':=7,fn:=p.1} :DOS),fP sh kd ky (bK LL sh ky) st,p.2)) (fun a b hab=>kD (aBm (x:= {doR X7 with at':=7,fn:=a.1}) rfl hrY (tJ hab))) (e2 Y.limit) (fun b hb=>kD (aBn (x:= {doR X7 with at':=7,fn:=b.1}) (f:= {zf with limit:=Y.limit}) rfl hrY (tJ hb)))
   rw [ful]at g2
   obtain⟨z,w1,w2⟩:=w {doR X7 with at':=8,dr:=mJ t n st.me} rfl hrY rfl
   refine⟨z,aDH (g1.trans g2) w1,w2.code,?_,w2.slow⟩
   rw [w2.okk,w2.val]
   show((paOf sh kd ky (sc (bT sh kd ky) (bK LL sh ky)).2.2).ok,(paOf sh kd ky (sc (bT sh kd ky) (bK LL sh ky)).2.2).val)=_
   rw [k1,k2]
  ·
   show∀b∈(sc (bT sh kd ky) (fO sh kd ky st.sp (bK LL sh ky))).1++(sc (bT sh kd ky) (fO sh kd ky st.sp (bK LL sh ky))).2.2,b.m=false
   obtain⟨b0,B',hB⟩:=zK hv
   have hfl:fO sh kd ky st.sp (bK LL sh ky)=(sc (bT sh kd ky) (bK LL sh ky)).1++⟨b0.a,b0.k,true⟩::B':=by
    unfold fO;rw [hv,hB];rfl
   have hB': ∀b∈B',b.m=false:=by
    intro b hb
    refine hum b ?_
    rw [←u1,hB]
    exact List.mem_append_right _ (List.mem_cons_of_mem _ hb)
   rw [hfl,PP _ _ _ (fun a ha=>⟨huA a ha,hlA a ha⟩),jY rfl]
   obtain⟨v0,v1⟩:=zS (bT sh kd ky) B' hB'
   intro b hb
   rw [List.append_assoc,v1]at hb
   rcases List.mem_append.1 hb with e | e
   ·exact huA b e
   ·exact hB' b e
  ·rw [c3,f2.c,fa.c];omega
 ·have hmk:((paOf sh kd ky (sc (bT sh kd ky) (bK LL sh ky)).2.2).ok &&eJ sh kd)=false:=by
   cases z:((paOf sh kd ky (sc (bT sh kd ky) (bK LL sh ky)).2.2).ok &&eJ sh kd)with
   | false=>rfl
   | true=>exact absurd ((CX hr).1 z) hmark
  have sz1: ∀k:Int,0≤k→k<2*t→k≠2*st.me→k≠2*st.me+1→aB s1.xs (2*n+5+k)=0:=by
   intro k h0 h1 h2 h3
   rw [up1 _ (by omega) (by omega) (by omega)]
   exact sz k h0 h1 h2 h3
  obtain⟨j3,st3,s3,w,q3,sz3,up3,c3,t3,n3,b3,sp3,hd3⟩:=yP q1 hS1 sz1
  rw [List.set_set]at q3
  have ct3:=A6 (LL:=LL.set (cB sh ky).toNat (fO sh kd ky st.sp (bK LL sh ky))) hS1 hd3
  have ct1:=A5 (sh:=sh) (kd:=kd) (ky:=ky) hL hS hl
  rw [List.set_set]at ct3
  rw [ct1]at ct3
  refine⟨j3+j1,_,st3,s3,fun Y y1 y2 y3 hlm=>?_,q3,?_,k3,sz3,up1.trans up3,?_,t3.trans fa.t,n3.trans fa.n,by omega,sp3.trans hsp,ct3⟩
  ·have g1:=hwalk Y y1 y2 y3 hlm (({doR Y with code:=0,okk:=(paOf sh kd ky (sc (bT sh kd ky) (bK LL sh ky)).2.2).ok,val:=(paOf sh kd ky (sc (bT sh kd ky) (bK LL sh ky)).2.2).val,at':=8,dr:=mJ t n st.me} :DOS),fP sh kd ky (bK LL sh ky) st,s1) (by
    intro f a1 a2 a3 a4
    rw [a1,a2,a3,hmk];rfl)
   have hrY:aY Y.sh Y.kd Y.ky=true:=by rw [y1,y2,y3];exact hr
   obtain⟨z,w1,w2⟩:=w {doR Y with code:=0,okk:=(paOf sh kd ky (sc (bT sh kd ky) (bK LL sh ky)).2.2).ok,val:=(paOf sh kd ky (sc (bT sh kd ky) (bK LL sh ky)).2.2).val,at':=8,dr:=mJ t n st.me} rfl hrY rfl
   refine⟨z,aDH g1 w1,w2.code,?_,w2.slow⟩
   rw [w2.okk,w2.val]
   show((paOf sh kd ky (sc (bT sh kd ky) (bK LL sh ky)).2.2).ok,(paOf sh kd ky (sc (bT sh kd ky) (bK LL sh ky)).2.2).val)=_
   rw [k1,k2]
  ·
   unfold fO
   intro b hb
   rcases List.mem_append.1 hb with e | e
   ·exact huA b e
   ·have hBs: ∀b∈(sc (bT sh kd ky) (bK LL sh ky)).2.2,b.m=false:=fun b hb=>hum b (by rw [←u1];exact List.mem_append_right _ hb)
    cases hp:paOf sh kd ky (sc (bT sh kd ky) (bK LL sh ky)).2.2 with
    | now bb=>rw [hp]at e;exact hBs b e
    | link=>
      rw [hp]at e
      rcases List.mem_cons.1 e with e | e
      ·rw [e]
      ·exact hBs b e
    | mark v=>exact absurd ⟨v,hp⟩ hmark
    | pop v=>rw [hp]at e;exact hBs b (List.mem_of_mem_tail e)
  ·rw [c3,fa.c];omega
structure DoA (t n sh kd ky:Int) (LL:List (List Nd)) (S:List STS) (i:Nat) (st:STS) (s:MS) (j:Nat) (LL':List (List Nd)) (st':STS) (s':MS) (c:Int) (b:Bool) (v:Int):Prop where
 run: ∀lim,0≤lim→ ∃z,End (dqJ t n) j ((dqNF t n sh kd ky lim st).1,st,s) (z,st',s')∧z.code=c∧z.okk=b∧z.val=v∧z.slow=false
 q:QL t n s'.xs LL' (S.set i st')
 um:UM LL'
 sz:SZ t n s'.xs
 up:UpF n st.me s s'
 lim:(j:Int)≤20*n+10*t+50
 hc:s'.c=s.c+j
 tt:s'.t=s.t
 nn:s'.n=s.n
 ct:(allN LL' (S.set i st')).length ≤(allN LL S).length +1
 ns:c=0→bS kd=true→st.sp=0→st.R=[]→ ∃x,(1≤x∧x≤n)∧dA n s.xs x=false
 is:(c=4∧b=false∧v=0∧LL'=LL∧st'=st∧bS kd=true∧st.sp=0∧st.R=[]∧ ∀x,1≤x∧x≤n→dA n s.xs x=true)∨
  (c=0∧(b,v)=(wR sh kd ky (uk (bK LL sh ky))).1∧ ∃L',LL'=LL.set (cB sh ky).toNat L'∧uk L'=(wR sh kd ky (uk (bK LL sh ky))).2)
theorem BB{t n:Int}{sh kd ky:Int}{LL:List (List Nd)}{S:List STS}{s:MS}{i:Nat}{st:STS}(q:QL t n s.xs LL S)(hS:S[i]? =some st)(hr:aY sh kd ky=true)(um:UM LL)(sz:SZ t n s.xs)(pz:PZ t n s.xs):
 ∃j LL' st' s' c b v,DoA t n sh kd ky LL S i st s j LL' st' s' c b v:=by
 have hn:=q.hn
 have ht:=q.ht
 have hm:=q.me i st hS
 obtain⟨zh,sh1,eh,hu,xh,ch1,th1,nh1⟩:=w8 (t:=t) (n:=n) (t - 1).toNat (TI t n) s rfl (Int.le_refl 0) (by show(0:Int)+_+1=t;omega) ht.2 pz
 have hj0:((t - 1).toNat :Int)+1=t:=by omega
 have qh:QL t n sh1.xs LL S:=by rw [xh];exact q
 have uph:UpF n st.me s sh1:=fun a _ _ _=>by rw [xh]
 have szh:SZ t n sh1.xs:=by rw [xh];exact sz
 let x0:Int→DOS:=fun lim=>(dqNF t n sh kd ky lim st).1
 have walk: ∀lim,Go1 (dqJ t n) ((t - 1).toNat +1) ((dqNF t n sh kd ky lim st).1,st,s) (bif bS kd&&ieq st.sp 0 then(({doR (x0 lim)with at':=2} :DOS),st,sh1)else(({doR (x0 lim)with at':=3,ft:=(ftNF t n sh kd ky lim st).1} :DOS),st,sh1)):=by
  intro lim
  have hst0:(ftNF t n sh kd ky lim st).2=st:=y8 (t:=t) sh kd ky lim ⟨hn.1,by omega⟩ (q.stw hS)
  refine aDG (F:=J9 t n) (fun p:HDS×MS=>(({doR (x0 lim)with at':=0,hd:=p.1} :DOS),st,p.2)) (fun a b hab=>kD (aBf (x:= {doR (x0 lim)with at':=0,hd:=a.1}) rfl hr (HQ hab))) eh (fun b hb=>?_)
  have hu2:zh.u<0:=by rw [hu];show(-1:Int)<0;decide
  have e:=aBg (x:= {doR (x0 lim)with at':=0,hd:=b.1}) (st:=st) rfl hr (HQ hb) hu2
  unfold dqJ
  rw [e]
  show((bif bS kd&&ieq st.sp 0 then _ else _:DqO).d,(bif bS kd&&ieq st.sp 0 then _ else _:DqO).x,(bif bS kd&&ieq st.sp 0 then _ else _:DqO).st,(bif bS kd&&ieq st.sp 0 then _ else _:DqO).s)=_
  cases (bS kd&&ieq st.sp 0)with
  | true=>rfl
  | false=>
    show(false,_,(ftNF t n sh kd ky lim st).2,sh1)=_
    rw [hst0];rfl
 have szo: ∀s':MS,(∀a,2*n+5≤a→aB s'.xs a=aB s.xs a)→ ∀k:Int,0≤k→k<2*t→k≠2*st.me→k≠2*st.me+1→aB s'.xs (2*n+5+k)=0:=by
  intro s' hs k h0 h1 _ _
  rw [hs _ (by omega)];exact sz k h0 h1
 have rest: ∀(st1:STS) (s1:MS) (j1:Nat),QL t n s1.xs LL (S.set i st1)→st1.me=st.me→(bS kd=true→st1.sp≠0)→(∀a,2*n+5≤a→aB s1.xs a=aB s.xs a)→s1.c=s.c+j1→s1.t=s.t→s1.n=s.n→(j1:Int)≤6*n+4*t+20→(bS kd=true→st.sp=0→st.R=[]→ ∃x,(1≤x∧x≤n)∧dA n s.xs x=false)→(allN LL (S.set i st1)).length ≤(allN LL S).length +1→
  (∀lim,0≤lim→Go1 (dqJ t n) j1 ((dqNF t n sh kd ky lim st).1,st,s) ({doR (x0 lim)with at':=3,ft:=(ftNF t n sh kd ky lim st1).1},st1,s1))→ ∃j LL' st' s' c b v,DoA t n sh kd ky LL S i st s j LL' st' s' c b v:=by
  intro st1 s1 j1 q1 hme hl1 same1 c1 t1 n1 b1 hns hct g1
  have hS1:(S.set i st1)[i]? =some st1:=List.getElem?_set_self (eS hS)
  obtain⟨j,L',st',s',w,q2,um2,uk2,sz2,up2,c2,t2,n2,b2,_,ct2⟩:=XR (kd:=kd) q1 hS1 hr um hl1 (by rw [hme];exact szo s1 same1)
  rw [List.set_set]at q2 ct2
  refine⟨j+j1,LL.set (cB sh ky).toNat L',st',s',0,(wR sh kd ky (uk (bK LL sh ky))).1.1,(wR sh kd ky (uk (bK LL sh ky))).1.2,?_⟩
  refine {run:=fun lim hlim=>?_,q:=q2,um:=um.set um2,sz:=sz2,up:=?_,hc:=by rw [c2,c1];omega,tt:=t2.trans t1,nn:=n2.trans n1,lim:=by omega,ct:=Nat.le_trans ct2 hct,ns:=fun _=>hns,is:=.inr ⟨rfl,rfl,L',rfl,uk2⟩ }
  ·obtain⟨z,z1,z2,z3,z4⟩:=w (x0 lim) rfl rfl rfl hlim
   have z3a:=congrArg Prod.fst z3
   have z3b:=congrArg Prod.snd z3
   exact⟨z,aDH (g1 lim hlim) z1,z2,z3a,z3b,z4⟩
  ·intro a h0 h1 h2
   rw [up2 a h0 (by rw [hme];exact h1) (by rw [hme];exact h2)]
   exact same1 a h0
 cases hle:(bS kd&&ieq st.sp 0)with
 | false=>
   rw [hle]at walk
   refine rest st sh1 ((t - 1).toNat +1) (by rw [lP hS];exact qh) rfl (fun hk hz=>?_) (fun a _=>by rw [xh]) ch1 th1 nh1 (by omega) (fun hk hz _=>by rw [hk,hz]at hle;cases hle) (by rw [lP hS];omega) (fun lim _=>walk lim)
   rw [hk,hz]at hle;cases hle
 | true=>
   rw [hle]at walk
   have hlk:bS kd=true:=(Bool.and_eq_true_iff.1 hle).1
   have hz:st.sp=0:=by simpa [bI]using(Bool.and_eq_true_iff.1 hle).2
   have ensured: ∀(j2:Nat) (z2:ENS) (st2:STS) (s2:MS),End (vY t n) j2 (aS,st,sh1) (z2,st2,s2)→z2.sh=false→st2.me=st.me→st2.R.length≤500→(∀r∈st2.R,0≤r∧r≤1000)→ ∀lim,0≤lim→Go1 (dqJ t n) (j2+((t - 1).toNat +1)) ((dqNF t n sh kd ky lim st).1,st,s) ({doR (x0 lim)with at':=3,ft:=(ftNF t n sh kd ky lim st2).1},st2,s2):=by
    intro j2 z2 st2 s2 e2 hsh hme hRl hRs lim hlim
    have hst2:(ftNF t n sh kd ky lim st2).2=st2:=y8 (t:=t) (b:=500) sh kd ky lim ⟨hn.1,by omega⟩ ⟨by rw [hme];omega,hRs,by omega⟩
    refine(walk lim).trans ?_
    refine aDG (F:=vY t n) (fun p:ENS×STS×MS=>(({doR (x0 lim)with at':=2,en:=p.1} :DOS),p.2.1,p.2.2)) (fun a b hab=>kD (VQ (x:= {doR (x0 lim)with at':=2,en:=a.1}) rfl hr (p5 hab))) e2 (fun b hb=>?_)
    have e:=VR (x:= {doR (x0 lim)with at':=2,en:=b.1}) rfl hr (p5 hb)
    unfold dqJ
    rw [e,hsh]
    show(false,_,(ftNF t n sh kd ky lim st2).2,s2)=_
    rw [hst2];rfl
   have hRst:st.R.length≤500:=by have:=(q.stw hS).ln;omega
   have hRsm:=(q.stw hS).r
   have life_up: ∀(xs:List Int) (b v:Int),(1≤b∧b≤n)→ ∀a,2*n+5≤a→aB (aL xs (n+4+b) v) a=aB xs a:=fun xs b v hb a ha=>cK (by omega)
   by_cases hfree: ∃b,(1≤b∧b≤n)∧dA n s.xs b=false
   ·obtain⟨b0,hb0,hf0⟩:=hfree
    obtain⟨j2,b,z2,s2,e2,g2,g3,g4,g5,g6,g7,g8,g9⟩:=BJ (t:=t) (n:=n) (e:=aS) (st:=st) (s:=sh1) rfl hz qh.mc hb0 (by rw [xh];exact hf0)
    have q2:=qh.take hS hz g2 g3
    refine rest {st with sp:=b} s2 (j2+((t - 1).toNat +1)) (by rw [g5];exact q2) rfl (fun _=>by show b≠0;omega) (fun a ha=>by rw [g5,life_up _ _ _ g2 a ha,xh]) (by rw [g6,ch1];omega) (g7.trans th1) (g8.trans nh1) (by omega) (fun _ _ _=>⟨b0,hb0,hf0⟩) (by
     have:=rU (LL:=LL) (st':= {st with sp:=b}) hS
     rw [hz,zC,kJ (show b≠0 by omega)]at this
     simp only [List.length_cons]at this
     omega) (ensured j2 z2 _ s2 e2 g4 rfl hRst hRsm)
   ·have hall: ∀x,1≤x∧x≤n→dA n s.xs x=true:=by
     intro x hx
     cases z:dA n s.xs x with
     | true=>rfl
     | false=>exact absurd ⟨x,hx,z⟩ hfree
    by_cases hR:st.R=[]
    ·
     obtain⟨j2,z2,s2,e2,g1,g3,g4,g5,g6,g7⟩:=JF (t:=t) (n:=n) (e:=aS) (st:=st) (s:=sh1) rfl hz hn.1 (by rw [xh];exact hall) hR
     have q2:QL t n s2.xs LL S:=by rw [g3];exact qh
     obtain⟨j3,st3,s3,w,q3,sz3,up3,c3,t3,n3,b3,_,hst3⟩:=yP q2 hS (szo s2 (fun a _=>by rw [g3,xh]))
     have hst3:st3=st:=by
      rcases hst3 with⟨e,_⟩ | ⟨_,e⟩
      ·exact e
      ·rw [hR]at e;simp at e;omega
     subst hst3
     refine⟨j3+(j2+((t - 1).toNat +1)),LL,st3,s3,4,false,0,?_⟩
     refine {run:=fun lim hlim=>?_,q:=q3,um:=um,sz:=sz3,up:=?_,hc:=by rw [c3,g4,ch1];omega,tt:=t3.trans (g5.trans th1),nn:=n3.trans (g6.trans nh1),lim:=by omega,ct:=by rw [lP hS];omega,ns:=(fun h=>by cases h),is:=.inl ⟨rfl,rfl,rfl,rfl,rfl,hlk,hz,hR,hall⟩ }
     ·have g:Go1 (dqJ t n) j2 ({doR (x0 lim)with at':=2,en:=aS},st3,sh1) ({doR (x0 lim)with code:=4,okk:=false,val:=0,at':=8,dr:=mJ t n st3.me},st3,s2):=by
       refine aDG (F:=vY t n) (fun p:ENS×STS×MS=>(({doR (x0 lim)with at':=2,en:=p.1} :DOS),p.2.1,p.2.2)) (fun a b hab=>kD (VQ (x:= {doR (x0 lim)with at':=2,en:=a.1}) rfl hr (p5 hab))) e2 (fun b hb=>?_)
       have e:=VR (x:= {doR (x0 lim)with at':=2,en:=b.1}) rfl hr (p5 hb)
       unfold dqJ
       rw [e,g1];rfl
      obtain⟨z,w1,w2⟩:=w {doR (x0 lim)with code:=4,okk:=false,val:=0,at':=8,dr:=mJ t n st3.me} rfl hr rfl
      exact⟨z,aDH ((walk lim).trans g) w1,w2.code,w2.okk,w2.val,w2.slow⟩
     ·intro a h0 h1 h2
      rw [up3 a h0 h1 h2,g3,xh]
    ·
     obtain⟨h1,h2,h3⟩:=fW q hS
     obtain⟨j2,b,z2,s2,e2,g2,gb,g3,g4,g5,g6,g7,g8,g9⟩:=JG (t:=t) (n:=n) (e:=aS) (st:=st) (s:=sh1) rfl rfl hz qh.mc (by rw [xh];exact hall) hR (fun r hr=>h2 r (lS hr)) (pK h1) szh
     have qg:=qh.give hS
     have hSg:(S.set i {st with R:=[] })[i]? =some {st with R:=[] } :=List.getElem?_set_self (eS hS)
     have q2:=qg.take hSg hz g2 g3
     rw [List.set_set]at q2
     have hRl:(st.R.length:Int)≤n:=fZ (by omega) (pK h1) (fun r hr=>h2 r (lS hr))
     refine rest ⟨st.me,b,[]⟩ s2 (j2+((t - 1).toNat +1)) (by rw [g5];exact q2) rfl (fun _=>by show b≠0;omega) (fun a ha=>?_) (by rw [g6,ch1];omega) (g7.trans th1) (g8.trans nh1) (by omega) (fun _ _ h=>absurd h hR) (by
      have:=rU (LL:=LL) (st':=⟨st.me,b,[]⟩) hS
      rw [hz,zC,kJ (show b≠0 by omega)]at this
      simp only [List.length_cons,List.length_nil]at this
      omega) (ensured j2 z2 _ s2 e2 g4 rfl (by simp) (fun r h=>by cases h))
     rw [g5,life_up _ _ _ g2 a ha,gK _ _ (fun r hr e=>by have:=h2 r (lS hr);omega),xh]
theorem G4{t n:Int}{a:DOS×STS×MS}{d:Bool}{b:DOS×STS×MS}(h:dqJ t n a=(d,b)):(dqF t n a.1 a.2.1 a.2.2).d =d∧((dqF t n a.1 a.2.1 a.2.2).x,(dqF t n a.1 a.2.1 a.2.2).st,(dqF t n a.1 a.2.1 a.2.2).s)=b:=by
 unfold dqJ at h
 rw [pI']at h
 exact h
theorem wU{t n:Int}{z:DOS×STS×MS} : ∀(i:Nat) (a c:DOS×STS×MS) (b:Int) (N:Nat),Go1 (dqJ t n) i a c→dqJ t n c=(true,z)→i+1≤N→kT t n a.2.2→a.2.2.c+i+1≤900000→dqW t n b a.2.1 a.1→stW b a.2.1→b+i+1≤900000→
 wT t n N a.1 a.2.1 a.2.2∧oN t n N a.1 a.2.1 a.2.2=(i+1,z)
 | 0,a,c,b,N+1,h,hz,hN,hb,hc,hx,hst,hbb=>by
   cases h
   obtain⟨h1,h2⟩:=G4 hz
   have ok:=NF hb hx hst (by omega)
   refine⟨⟨ok,fun q=>by rw [h1]at q;cases q⟩,?_⟩
   show(bif (dqF t n a.1 a.2.1 a.2.2).d then _ else _)=_
   rw [h1,cond_true,←h2]
 | i+1,a,c,b,N+1,h,hz,hN,hb,hc,hx,hst,hbb=>by
   cases h with
   | cons e g=>
     obtain⟨h1,h2⟩:=G4 e
     have ok:=NF hb hx hst (by omega)
     have wv:=X5 hb hx hst (by omega)
     have hb':=wv.a.bnd hb (by omega)
     have ih:=wU i _ c (b+1) N g hz (by omega) (by rw [←h2];exact hb') (by rw [←h2];show(dqF t n a.1 a.2.1 a.2.2).s.c +_+_≤_;rw [wv.a.c];omega) (by rw [←h2];exact wv.w h1) (by rw [←h2];exact wv.st) (by omega)
     rw [←h2]at ih
     refine⟨⟨ok,fun _=>ih.1⟩,?_⟩
     show(bif (dqF t n a.1 a.2.1 a.2.2).d then _ else _)=_
     rw [h1,cond_false,ih.2]
 | i,a,c,b,0,h,hz,hN,hb,hc,hx,hst,hbb=>by omega
theorem L8{t n sh kd ky lim:Int}{LL LL':List (List Nd)}{S:List STS}{s s':MS}{i j:Nat}{st st':STS}{c v:Int}{b:Bool}(q:QL t n s.xs LL S)(hS:S[i]? =some st)(d:DoA t n sh kd ky LL S i st s j LL' st' s' c b v)(hl:0≤lim)(hc:0≤s.c∧s.c≤700000):
 wG t n lim 100000 [sh,kd,ky] st s∧ ∃z,alX t n lim 100000 [sh,kd,ky] st s=(j,z,st',s')∧pM z=[c,bitI b,v]:=by
 have hn:=q.hn
 have ht:=q.ht
 obtain⟨z,⟨j',e,hj,g1,g2⟩,z1,z2,z3,z4⟩:=d.run lim hl
 have hlim:=d.lim
 have hN:(dqNF t n sh kd ky lim st).2=st:=rfl
 have hw:dqW t n 500 st (dqNF t n sh kd ky lim st).1:=(aDi (NE (t:=t) (n:=n) (b:=500) sh kd ky lim st)).1
 obtain⟨r1,r2⟩:=wU j' ((dqNF t n sh kd ky lim st).1,st,s) e 500 100000 g1 g2 (by omega) ⟨ht,⟨hn.1,by omega⟩,⟨hc.1,by have h:=hc.2;show s.c≤900000;omega⟩,q.okw⟩ (by have h:=hc.2;show s.c+(j':Int)+1≤900000;omega) hw (q.stw hS) (by omega)
 refine⟨⟨?_,r1⟩,z,?_,?_⟩
 ·show wV t n sh kd ky lim st
  exact aDl (NE (t:=t) (n:=n) (b:=500) sh kd ky lim st)
 ·rw [hj];exact r2
 ·unfold pM;rw [z1,z2,z3]
def selF(sh h:Int):Int→List Int→List Nd
 | _,[]=>[]
 | i,k::ks=>bif fH sh h k then selF sh h (i+1) ks else⟨i+1,k,false⟩::selF sh h (i+1) ks
theorem qT{sh h k:Int}(i:Int)(ks:List Int)(e:fH sh h k=true):selF sh h i (k::ks)=selF sh h (i+1) ks:=by
 show(bif fH sh h k then _ else _)=_
 rw [e];rfl
theorem qU{sh h k:Int}(i:Int)(ks:List Int)(e:fH sh h k=false):selF sh h i (k::ks)=⟨i+1,k,false⟩::selF sh h (i+1) ks:=by
 show(bif fH sh h k then _ else _)=_
 rw [e];rfl
theorem zV(sh h:Int): ∀(xs:List Int) (i:Int),∀b∈selF sh h i xs,i+1≤b.a∧b.a≤i+xs.length∧b.m=false
 | [],i,b,hb=>by cases hb
 | k::ks,i,b,hb=>by
   have ih:=zV sh h ks (i+1)
   have hl:((k::ks).length :Int)=ks.length+1:=by simp
   cases e:fH sh h k with
   | true=>
     rw [qT i ks e]at hb
     obtain⟨a1,a2,a3⟩:=ih b hb
     exact⟨by omega,by omega,a3⟩
   | false=>
     rw [qU i ks e]at hb
     rcases List.mem_cons.1 hb with q | q
     ·rw [q];exact⟨Int.le_refl _,by show i+1≤_;omega,rfl⟩
     ·obtain⟨a1,a2,a3⟩:=ih b q
      exact⟨by omega,by omega,a3⟩
theorem tQ(sh h:Int)(xs:List Int)(i:Int): ∀b∈(selF sh h i xs).map Nd.a,i+1≤b∧b≤i+xs.length:=by
 intro b hb
 obtain⟨c,hc,rfl⟩:=List.mem_map.1 hb
 have:=zV sh h xs i c hc
 omega
theorem sE(sh h:Int): ∀(xs:List Int) (i:Int),((selF sh h i xs).map Nd.a).Nodup
 | [],i=>List.nodup_nil
 | k::ks,i=>by
   cases e:fH sh h k with
   | true=>rw [qT i ks e];exact sE sh h ks (i+1)
   | false=>
     rw [qU i ks e,List.map_cons]
     refine List.nodup_cons.2 ⟨fun hb=>?_,sE sh h ks (i+1)⟩
     have:=tQ sh h ks (i+1) _ hb
     have h2:i+1+1≤i+1:=this.1
     omega
theorem zU(sh h:Int): ∀(xs:List Int) (i b:Int),b∈(selF sh h i xs).map Nd.a↔ ∃j:Nat,∃k,xs[j]? =some k∧b=i+j+1∧fH sh h k=false
 | [],i,b=>by
   constructor
   ·intro h;cases h
   ·rintro⟨j,k,h1,_⟩;simp at h1
 | k::ks,i,b=>by
   have ih:=zU sh h ks (i+1) b
   have rest:(∃j:Nat,∃q,ks[j]? =some q∧b=i+1+j+1∧fH sh h q=false)→ ∃j:Nat,∃q,(k::ks)[j]? =some q∧b=i+j+1∧fH sh h q=false:=by
    rintro⟨j,q,h1,h2,h3⟩
    exact⟨j+1,q,by simpa using h1,by omega,h3⟩
   cases e:fH sh h k with
   | true=>
     rw [qT i ks e,ih]
     refine⟨rest,?_⟩
     rintro⟨j,q,h1,h2,h3⟩
     cases j with
     | zero=>
       have:k=q:=by simpa using h1
       rw [this,h3]at e;cases e
     | succ j=>exact⟨j,q,by simpa using h1,by omega,h3⟩
   | false=>
     rw [qU i ks e,List.map_cons,List.mem_cons,ih]
     constructor
     ·rintro(h1 | h1)
      ·exact⟨0,k,rfl,by rw [h1];show i+1=i+(0:Nat)+1;omega,e⟩
      ·exact rest h1
     ·rintro⟨j,q,h1,h2,h3⟩
      cases j with
      | zero=>left;rw [h2];show i+(0:Nat)+1=i+1;omega
      | succ j=>right;exact⟨j,q,by simpa using h1,by omega,h3⟩
structure aCf (sh h n i a ky:Int) (xs:List Int) (s s':MS):Prop where
 len:s'.xs.length=s.xs.length
 okw:okW s'.xs
 tt:s'.t=s.t
 nn:s'.n=s.n
 c:s.c≤s'.c∧s'.c≤s.c+1+2*xs.length
 ch:ch n s'.xs a (selF sh h i xs)
 ky:kyW (aB s'.xs a)=ky
 mk1:mkW (aB s'.xs a)=false
 cl:clW' (aB s'.xs a)=0
 life: ∀b∈(selF sh h i xs).map Nd.a,aB s'.xs (n+4+b)=1
 same: ∀x,x≠a→(∀b∈(selF sh h i xs).map Nd.a,x≠b∧x≠n+4+b)→aB s'.xs x=aB s.xs x
theorem y7{sh h n:Int}(hn:1≤n∧n≤500): ∀(xs:List Int) (i a ky vr:Int) (s:MS),okW s.xs→2*n+5≤(s.xs.length:Int)→0≤i→i+xs.length≤n→1≤a∧(a≤i∨n+1≤a∧a≤n+4)→0≤ky∧ky<1024→0≤vr∧vr<262144→(∀k∈xs,0≤k∧k<1024)→
 aCf sh h n i a ky xs s (eQ sh h n xs i a ky vr s)
 | [],i,a,ky,vr,s,okw,hlen,hi,hin,ha,hk,hv,_=>by
   have ok:okF ky 0 0 vr:=⟨hk,by omega,by omega,hv⟩
   have hb:0≤a∧a<s.xs.length:=by omega
   have e:aB (s.stored a (bD ky 0 false 0 vr)).xs a=bD ky 0 false 0 vr:=dM hb
   refine {len:=b8 _ _ _,okw:=d9 okw (mA ok),tt:=rfl,nn:=rfl,c:=⟨?_,?_⟩,ch:=?_,ky:=?_,mk1:=?_,cl:=?_,life:=(fun b hb=>by cases hb),same:=fun x hx _=>cK hx}
   ·show s.c≤s.c+1;omega
   ·show s.c+1≤s.c+1+2*(([]:List Int).length :Int);simp
   ·show nxW (aB (s.stored a (bD ky 0 false 0 vr)).xs a)=0
    rw [e];exact sN ok
   ·show kyW (aB (s.stored a (bD ky 0 false 0 vr)).xs a)=ky
    rw [e];exact uC ok
   ·show mkW (aB (s.stored a (bD ky 0 false 0 vr)).xs a)=false
    rw [e];exact oM ok
   ·show clW' (aB (s.stored a (bD ky 0 false 0 vr)).xs a)=0
    rw [e];exact pP ok
 | k::ks,i,a,ky,vr,s,okw,hlen,hi,hin,ha,hk,hv,hks=>by
   have hl:((k::ks).length :Int)=ks.length+1:=by simp
   have hks2: ∀q∈ks,0≤q∧q<1024:=fun q hq=>hks q (List.mem_cons_of_mem _ hq)
   have hk2:=hks k (List.mem_cons_self ..)
   cases e:fH sh h k with
   | true=>
     have es:eQ sh h n (k::ks) i a ky vr s=eQ sh h n ks (i+1) a ky vr s:=by show cond _ _ _=_;rw [e];rfl
     have ih:=y7 (sh:=sh) (h:=h) hn ks (i+1) a ky vr s okw hlen (by omega) (by omega) (by omega) hk hv hks2
     rw [es]
     have e2:=qT i ks e
     exact {len:=ih.len,okw:=ih.okw,tt:=ih.tt,nn:=ih.nn,c:=⟨ih.c.1,by have:=ih.c.2;omega⟩,ch:=by rw [e2];exact ih.ch,ky:=ih.ky,mk1:=ih.mk1,cl:=ih.cl,life:=by rw [e2];exact ih.life,same:=by rw [e2];exact ih.same}
   | false=>
     have es:eQ sh h n (k::ks) i a ky vr s=eQ sh h n ks (i+1) (i+1) k 3 ((s.stored a (bD ky (i+1) false 0 vr)).stored (n+4+(i+1)) 1):=by show cond _ _ _=_;rw [e];rfl
     have ok:okF ky (i+1) 0 vr:=⟨hk,by omega,by omega,hv⟩
     let s1:=(s.stored a (bD ky (i+1) false 0 vr)).stored (n+4+(i+1)) 1
     have hl1:s1.xs.length=s.xs.length:=(b8 _ _ _).trans (b8 _ _ _)
     have okw1:okW s1.xs:=d9 (d9 okw (mA ok)) (by omega)
     have ih:=y7 (sh:=sh) (h:=h) hn ks (i+1) (i+1) k 3 s1 okw1 (by rw [hl1];exact hlen) (by omega) (by omega) (by omega) hk2 (by omega) hks2
     have hin1:0≤a∧a<s.xs.length:=by omega
     have hin2:0≤n+4+(i+1)∧n+4+(i+1)<(s.stored a (bD ky (i+1) false 0 vr)).xs.length :=by
      have:(s.stored a (bD ky (i+1) false 0 vr)).xs.length =s.xs.length:=b8 _ _ _
      rw [this];omega
     have p1: ∀x,x≠a→x≠n+4+(i+1)→aB s1.xs x=aB s.xs x:=fun x h1 h2=>(cK h2).trans (cK h1)
     have pa:aB s1.xs a=bD ky (i+1) false 0 vr:=(cK (by omega)).trans (dM hin1)
     have pl:aB s1.xs (n+4+(i+1))=1:=dM hin2
     have hsel:=tQ sh h ks (i+1)
     have fa:aB (eQ sh h n ks (i+1) (i+1) k 3 s1).xs a=bD ky (i+1) false 0 vr:=by
      rw [ih.same a (by omega) (fun b hb=>by have:=hsel b hb;omega)];exact pa
     have e2:=qU i ks e
     rw [es]
     refine {len:=ih.len.trans hl1,okw:=ih.okw,tt:=ih.tt,nn:=ih.nn,c:=?_,ch:=?_,ky:=?_,mk1:=?_,cl:=?_,life:=?_,same:=?_ }
     ·obtain⟨c1,c2⟩:=ih.c
      have ec:s1.c=s.c+1+1:=rfl
      rw [ec]at c1 c2
      exact⟨Int.le_trans (by omega) c1,Int.le_trans c2 (by omega)⟩
     ·rw [e2]
      refine⟨?_,?_,ih.ky,ih.mk1,ih.cl,ih.ch⟩
      ·rw [fa];exact sN ok
      ·show 1≤i+1∧i+1≤n;omega
     ·rw [fa];exact uC ok
     ·rw [fa];exact oM ok
     ·rw [fa];exact pP ok
     ·rw [e2]
      intro b hb
      rw [List.map_cons]at hb
      rcases List.mem_cons.1 hb with q | q
      ·have q:b=i+1:=q
       rw [q,ih.same (n+4+(i+1)) (by omega) (fun c hc=>by have:=hsel c hc;omega)]
       exact pl
      ·exact ih.life b q
     ·rw [e2]
      intro x h1 h2
      have h3:=h2 (i+1) (by rw [List.map_cons];exact List.mem_cons_self ..)
      rw [ih.same x h3.1 (fun b hb=>h2 b (by rw [List.map_cons];exact List.mem_cons_of_mem _ hb))]
      exact p1 x h1 h3.2
theorem PT{sh h h' k:Int}(h0:0≤h)(h1:0≤h')(e:fH sh h k=false)(e':fH sh h' k=false):h=h':=by
 unfold fH at e e'
 cases q:ieq sh 2 with
 | true=>
   rw [q]at e e'
   simp only [cond_true,Bool.not_eq_false',bI,beq_iff_eq]at e e'
   omega
 | false=>
   rw [q]at e e'
   simp only [cond_false,bU,dF']at e e'
   omega
theorem IB{sh h h':Int}(h0:0≤h)(h1:0≤h')(xs:List Int)(b:Int)(e:b∈(selF sh h 0 xs).map Nd.a)(e':b∈(selF sh h' 0 xs).map Nd.a):h=h':=by
 obtain⟨j,k,a1,a2,a3⟩:=(zU _ _ _ _ _).1 e
 obtain⟨j',k',b1,b2,b3⟩:=(zU _ _ _ _ _).1 e'
 have:j=j':=by omega
 subst this
 rw [a1]at b1
 cases b1
 exact PT h0 h1 a3 b3
structure FilH (sh t n:Int) (xs:List Int) (H:Nat) (s:MS):Prop where
 len:(s.xs.length:Int)=2*n+5*t+6
 okw:okW s.xs
 tt:s.t=t
 nn:s.n=n
 c:0≤s.c∧s.c≤H*(2*xs.length+1)
 hd: ∀h:Nat,h<H→ch n s.xs (n+1+h) (selF sh h 0 xs)∧mkW (aB s.xs (n+1+h))=false∧clW' (aB s.xs (n+1+h))=0
 life: ∀h:Nat,h<H→ ∀b∈(selF sh h 0 xs).map Nd.a,aB s.xs (n+4+b)=1
 zero: ∀x,(∀h:Nat,h<H→x≠n+1+h∧ ∀b∈(selF sh h 0 xs).map Nd.a,x≠b∧x≠n+4+b)→aB s.xs x=0
theorem OX(k:Nat)(a:Int):aB (List.replicate k 0) a=0:=by
 unfold aB
 split
 ·rw [gD']
  by_cases h:a.toNat<k
  ·rw [List.getElem?_replicate,if_pos h];rfl
  ·rw [List.getElem?_replicate,if_neg h];rfl
 ·rfl
theorem YV{sh t n:Int}(hn:1≤n∧n≤500)(ht:1≤t∧t≤1000)(xs:List Int):FilH sh t n xs 0 (memN t n):=by
 refine {len:=?_,okw:=?_,tt:=rfl,nn:=rfl,c:=⟨Int.le_refl 0,by simp [memN]⟩,hd:=(fun h hh=>by omega),life:=(fun h hh=>by omega),zero:=(fun x _=>OX _ _) }
 ·show((List.replicate (2*n+5*t+6).toNat (0:Int)).length :Int)=_
  rw [List.length_replicate];omega
 ·refine⟨fun x hx=>?_⟩
  have:=List.eq_of_mem_replicate hx
  omega
theorem y4{sh t n:Int}(hn:1≤n∧n≤500)(ht:1≤t∧t≤1000){xs:List Int}(hx:(xs.length:Int)≤n)(hk: ∀k∈xs,0≤k∧k<1024){H:Nat}(hH:H<4){s:MS}(f:FilH sh t n xs H s):FilH sh t n xs (H+1) (eQ sh H n xs 0 (n+1+H) 0 0 s):=by
 have flen:=f.len
 have g:=y7 (sh:=sh) (h:=H) hn xs 0 (n+1+H) 0 0 s f.okw (by omega) (Int.le_refl 0) (by omega) (by omega) (by omega) (by omega) hk
 have hsel: ∀h:Nat,∀b∈(selF sh h 0 xs).map Nd.a,1≤b∧b≤n:=fun h b hb=>by have:=tQ sh h xs 0 b hb;omega
 have hdis: ∀h:Nat,h<H→ ∀b∈(selF sh h 0 xs).map Nd.a,∀b'∈(selF sh H 0 xs).map Nd.a,b≠b':=by
  rintro h hh b hb b' hb' rfl
  have:=IB (sh:=sh) (h:=h) (h':=H) (by omega) (by omega) xs b hb hb'
  omega
 refine {len:=by rw [g.len];exact flen,okw:=g.okw,tt:=g.tt.trans f.tt,nn:=g.nn.trans f.nn,c:=?_,hd:=?_,life:=?_,zero:=?_ }
 ·have c1:=f.c
  have c2:=g.c
  refine⟨by omega,?_⟩
  have e:((H+1:Nat):Int)*(2*(xs.length:Int)+1)=(H:Int)*(2*xs.length+1)+(2*xs.length+1):=by
   rw [Int.natCast_add,Int.add_mul];simp
  rw [e];omega
 ·intro h hh
  by_cases e:h=H
  ·subst e;exact⟨g.ch,g.mk1,g.cl⟩
  ·obtain⟨a1,a2,a3⟩:=f.hd h (by omega)
   have eh:aB (eQ sh H n xs 0 (n+1+H) 0 0 s).xs (n+1+h)=aB s.xs (n+1+h):=g.same _ (by omega) (fun b hb=>by have:=hsel H b hb;omega)
   refine⟨jB a1 (fun b hb=>?_),by rw [eh];exact a2,by rw [eh];exact a3⟩
   rcases List.mem_cons.1 hb with q | q
   ·rw [q];exact eh
   ·have hb2:=hsel h b q
    exact g.same b (by omega) (fun b' hb'=>⟨hdis h (by omega) b q b' hb',by have:=hsel H b' hb';omega⟩)
 ·intro h hh b hb
  by_cases e:h=H
  ·subst e;exact g.life b hb
  ·have hb2:=hsel h b hb
   rw [g.same (n+4+b) (by omega) (fun b' hb'=>by
    have:=hsel H b' hb'
    have:=hdis h (by omega) b hb b' hb'
    omega)]
   exact f.life h (by omega) b hb
 ·intro x hz
  have z:=hz H (by omega)
  rw [g.same x z.1 z.2]
  exact f.zero x (fun h hh=>hz h (by omega))
def LLf(sh:Int)(xs:List Int):List (List Nd):=[selF sh 0 0 xs,selF sh 1 0 xs,selF sh 2 0 xs,selF sh 3 0 xs]
theorem H0{sh:Int}{xs:List Int}{h:Nat}{L:List Nd}(e:(LLf sh xs)[h]? =some L):h<4∧L=selF sh h 0 xs:=by
 match h,e with
 | 0,e=>cases e;exact⟨by omega,rfl⟩
 | 1,e=>cases e;exact⟨by omega,rfl⟩
 | 2,e=>cases e;exact⟨by omega,rfl⟩
 | 3,e=>cases e;exact⟨by omega,rfl⟩
 | h+4,e=>simp [LLf]at e
theorem tM(sh:Int)(xs:List Int)(b:Int):b∈(LLf sh xs).flatMap (fun L=>L.map Nd.a)↔ ∃h:Nat,h<4∧b∈(selF sh h 0 xs).map Nd.a:=by
 unfold LLf
 simp only [List.flatMap_cons,List.flatMap_nil,List.append_nil,List.mem_append]
 constructor
 ·rintro(h | h | h | h)
  ·exact⟨0,by omega,h⟩
  ·exact⟨1,by omega,h⟩
  ·exact⟨2,by omega,h⟩
  ·exact⟨3,by omega,h⟩
 ·rintro⟨h,hh,hb⟩
  match h,hh,hb with
  | 0,_,hb=>exact .inl hb
  | 1,_,hb=>exact .inr (.inl hb)
  | 2,_,hb=>exact .inr (.inr (.inl hb))
  | 3,_,hb=>exact .inr (.inr (.inr hb))
theorem Z5(sh:Int)(xs:List Int):((LLf sh xs).flatMap (fun L=>L.map Nd.a)).Nodup :=by
 unfold LLf
 simp only [List.flatMap_cons,List.flatMap_nil,List.append_nil]
 have d: ∀h h':Int,0≤h→0≤h'→h≠h'→ ∀a∈(selF sh h 0 xs).map Nd.a,∀b∈(selF sh h' 0 xs).map Nd.a,a≠b:=by
  rintro h h' h0 h1 hne a ha b hb rfl
  exact hne (IB h0 h1 xs a ha hb)
 refine List.nodup_append.2 ⟨sE sh 0 xs 0,List.nodup_append.2 ⟨sE sh 1 xs 0,List.nodup_append.2 ⟨sE sh 2 xs 0,sE sh 3 xs 0,d 2 3 (by decide) (by decide) (by decide)⟩,?_⟩,?_⟩
 ·intro a ha b hb
  rcases List.mem_append.1 hb with h | h
  ·exact d 1 2 (by decide) (by decide) (by decide) a ha b h
  ·exact d 1 3 (by decide) (by decide) (by decide) a ha b h
 ·intro a ha b hb
  rcases List.mem_append.1 hb with h | h
  ·exact d 0 1 (by decide) (by decide) (by decide) a ha b h
  ·rcases List.mem_append.1 h with h | h
   ·exact d 0 2 (by decide) (by decide) (by decide) a ha b h
   ·exact d 0 3 (by decide) (by decide) (by decide) a ha b h
structure Fil (sh t n:Int) (xs:List Int) (S:List STS) (s:MS):Prop where
 q:QL t n s.xs (LLf sh xs) S
 um:UM (LLf sh xs)
 sz:SZ t n s.xs
 pz:PZ t n s.xs
 tt:s.t=t
 nn:s.n=n
 c:0≤s.c∧s.c≤4*(2*xs.length+1)
 fr: ∀b,(xs.length:Int)<b→b≤n→aB s.xs (n+4+b)=0
theorem SP{sh t n:Int}(hn:1≤n∧n≤500)(ht:1≤t∧t≤1000){xs:List Int}(hx:(xs.length:Int)≤n)(hk: ∀k∈xs,0≤k∧k<1024)(S:List STS)(hS: ∀st∈S,st.sp=0∧st.R=[])(me: ∀(i:Nat) (st:STS),S[i]? =some st→st.me=i∧(i:Int)<t):
 Fil sh t n xs S (gG sh t n xs):=by
 have f:=y4 hn ht hx hk (by omega) (y4 hn ht hx hk (by omega) (y4 hn ht hx hk (by omega) (y4 hn ht hx hk (by omega) (YV (sh:=sh) hn ht xs))))
 have f:FilH sh t n xs 4 (gG sh t n xs):=f
 have hsel: ∀h:Nat,∀b∈(selF sh h 0 xs).map Nd.a,1≤b∧b≤xs.length:=fun h b hb=>by have:=tQ sh h xs 0 b hb;omega
 have hheld:S.flatMap (fun st=>cF st.sp st.R)=[]:=by
  rw [List.flatMap_eq_nil_iff]
  intro st hst
  obtain⟨a,b⟩:=hS st hst
  rw [a,b];rfl
 have hall:allN (LLf sh xs) S=(LLf sh xs).flatMap (fun L=>L.map Nd.a):=by
  unfold allN;rw [hheld,List.append_nil]
 have hz0: ∀b,1≤b→b≤n→b∉allN (LLf sh xs) S→aB (gG sh t n xs).xs (n+4+b)=0:=by
  intro b h1 h2 hb
  refine f.zero _ (fun h hh=>⟨by omega,fun b' hb'=>?_⟩)
  have:=hsel h b' hb'
  refine⟨by omega,fun e=>hb ?_⟩
  have:b=b':=by omega
  rw [hall,tM]
  exact⟨h,hh,by rw [this];exact hb'⟩
 have hzz: ∀x,2*n+5≤x→aB (gG sh t n xs).xs x=0:=by
  intro x hx2
  refine f.zero _ (fun h hh=>⟨by omega,fun b' hb'=>?_⟩)
  have:=hsel h b' hb'
  omega
 refine {q:= {ht:=ht,hn:=hn,len:=f.len,okw:=f.okw,four:=rfl,hd:=?_,nd:=by rw [hall];exact Z5 sh xs,rng:=?_,tk:=?_,me:=me},um:=?_,sz:=fun i h0 h1=>hzz _ (by omega),pz:=fun u h0 h1=>?_,tt:=f.tt,nn:=f.nn,c:=f.c,fr:=fun b h1 h2=>hz0 b (by omega) h2 (fun hb=>?_) }
 ·intro h L hL
  obtain⟨h4,rfl⟩:=H0 hL
  exact f.hd h h4
 ·intro b hb
  rw [hall,tM]at hb
  obtain⟨h,hh,hb⟩:=hb
  have:=hsel h b hb
  omega
 ·intro b hb
  constructor
  ·intro hl
   by_cases q:b∈allN (LLf sh xs) S
   ·exact q
   ·have:=hz0 b hb.1 hb.2 q
    unfold dA at hl
    rw [this]at hl;cases hl
  ·intro hb2
   rw [hall,tM]at hb2
   obtain⟨h,hh,hb2⟩:=hb2
   unfold dA
   rw [f.life h hh b hb2];rfl
 ·intro L hL b hb
  obtain⟨h,hh⟩:=List.getElem?_of_mem hL
  obtain⟨h4,rfl⟩:=H0 hh
  exact(zV sh h xs 0 b hb).2.2
 ·rw [hzz _ (by unfold sO;omega)];rfl
 ·rw [hall,tM]at hb
  obtain⟨h,hh,hb⟩:=hb
  have:=hsel h b hb
  omega
theorem aAH: ∀(i:Nat) (st:STS),[(⟨0,0,[]⟩:STS),⟨1,0,[]⟩][i]? =some st→st.me=i∧(i:Int)<2
 | 0,st,h=>by cases h;exact⟨rfl,by decide⟩
 | 1,st,h=>by cases h;exact⟨rfl,by decide⟩
 | i+2,st,h=>by simp at h
theorem z0(sh:Int)(f g:Nat→Int): ∀k j,(IF sh f g j k).length =k
 | 0,j=>rfl
 | k+1,j=>congrArg (· +1) (z0 sh f g k (j+1))
theorem PZ.up{t n me:Int}{s s':MS}(h:PZ t n s.xs)(hm:0≤me∧me<t)(u:UpF n me s s'):PZ t n s'.xs:=by
 intro x h0 h1
 rw [u (sO t n x) (by unfold sO;omega) (by unfold sO;omega) (by unfold sO;omega)]
 exact h x h0 h1
theorem L6{t n lim sh:Int}{f g:Nat→Int}{i:Nat}(hl:0≤lim): ∀(k j:Nat) (LL:List (List Nd)) (S:List STS) (st:STS) (s:MS),QL t n s.xs LL S→S[i]? =some st→UM LL→SZ t n s.xs→PZ t n s.xs→uW sh f g (j+k)→(0≤s.c∧s.c+20050*(k:Int)≤700000)→
 alOk t n lim 100000 (IF sh f g j k) st s∧(alF t n lim 100000 (IF sh f g j k) st s).1.length =k
 | 0,j,LL,S,st,s,q,hS,um,sz,pz,ho,hc=>⟨trivial,rfl⟩
 | k+1,j,LL,S,st,s,q,hS,um,sz,pz,ho,hc=>by
   have hr:aY sh (f j) (g j)=true:=ho j (by omega)
   have hm:=q.me i st hS
   obtain⟨w,LL',st',s',c,b,v,d⟩:=BB (kd:=f j) (ky:=g j) q hS hr um sz pz
   obtain⟨ok,z,e1,e2⟩:=L8 q hS d hl (by omega)
   have hS1:(S.set i st')[i]? =some st':=List.getElem?_set_self (eS hS)
   have dl:=d.lim
   have dc:=d.hc
   have hn:=q.hn
   have ht:=q.ht
   obtain⟨r1,r2⟩:=L6 hl k (j+1) LL' _ st' s' d.q hS1 d.um d.sz (pz.up (by omega) d.up) (by rw [show j+1+k=j+(k+1) by omega];exact ho) (by omega)
   refine⟨⟨ok,?_⟩,?_⟩
   ·rw [e1];exact r1
   ·show(_::(alF t n lim 100000 (IF sh f g (j+1) k) (alX t n lim 100000 [sh,f j,g j] st s).2.2.1 (alX t n lim 100000 [sh,f j,g j] st s).2.2.2).1).length =_
    rw [List.length_cons,e1,r2]
theorem VJ(t n lim:Int)(N:Nat)(r:List Int)(T:List (List Int))(st:STS)(s:MS):alF t n lim N (r::T) st s=(pM (alX t n lim N r st s).2.1::(alF t n lim N T (alX t n lim N r st s).2.2.1 (alX t n lim N r st s).2.2.2).1,(alX t n lim N r st s).1+(alF t n lim N T (alX t n lim N r st s).2.2.1 (alX t n lim N r st s).2.2.2).2.1,(alF t n lim N T (alX t n lim N r st s).2.2.1 (alX t n lim N r st s).2.2.2).2.2):=rfl
theorem L7(t n lim:Int)(N:Nat): ∀(A B:List (List Int)) (st:STS) (s:MS),alF t n lim N (A++B) st s=((alF t n lim N A st s).1++(alF t n lim N B (alF t n lim N A st s).2.2.1 (alF t n lim N A st s).2.2.2).1,(alF t n lim N A st s).2.1+(alF t n lim N B (alF t n lim N A st s).2.2.1 (alF t n lim N A st s).2.2.2).2.1,(alF t n lim N B (alF t n lim N A st s).2.2.1 (alF t n lim N A st s).2.2.2).2.2)
 | [],B,st,s=>by
   show _=([]++_,0+_,_)
   rw [List.nil_append,Nat.zero_add];rfl
 | r::A,B,st,s=>by
   have ih:=L7 t n lim N A B (alX t n lim N r st s).2.2.1 (alX t n lim N r st s).2.2.2
   rw [List.cons_append,VJ,ih,VJ]
   simp only [List.cons_append,Nat.add_assoc]
theorem AM(t n lim:Int)(N:Nat): ∀(A B:List (List Int)) (st:STS) (s:MS),alOk t n lim N (A++B) st s→alOk t n lim N A st s∧alOk t n lim N B (alF t n lim N A st s).2.2.1 (alF t n lim N A st s).2.2.2
 | [],B,st,s,h=>⟨trivial,h⟩
 | r::A,B,st,s,h=>by
   obtain⟨h1,h2⟩:=h
   obtain⟨i1,i2⟩:=AM t n lim N A B _ _ h2
   exact⟨⟨h1,i1⟩,i2⟩
theorem dQ{b:Bool}{P Q:Prop}(h:b=false)(q:Q):(bif b then P else Q):=by rw [h];exact q
theorem aBL{sh:Int}(h:0≤sh∧sh≤255):kP sh=1∨kP sh=2∨kP sh=3∨kP sh=4:=by
 unfold kP
 have e:IntKind.wrap .i64 sh=sh:=cT (by omega)
 have e2:Int.tmod sh 4=sh%4:=Int.tmod_eq_emod_of_nonneg h.1
 rw [e,e2]
 have e3:IntKind.wrap .i64 (1+sh%4)=1+sh%4:=cT (by omega)
 rw [e3];omega
theorem WC{a:Int}(h:0≤a∧a≤255):3≤nP a∧nP a≤22:=by
 unfold nP
 have e:IntKind.wrap .i64 a=a:=cT (by omega)
 have e2:Int.tmod a 20=a%20:=Int.tmod_eq_emod_of_nonneg h.1
 rw [e,e2]
 have e3:IntKind.wrap .i64 (3+a%20)=3+a%20:=cT (by omega)
 rw [e3];omega
theorem WB(at':Int)(T:List (List Int)):jP at' T≤T.length:=by
 unfold jP
 cases h:ilt (T.length:Int) (IntKind.wrap .i64 at')with
 | true=>simp
 | false=>
   rw [bU,dF']at h
   simp only [cond_false];omega
theorem aCx{at':Int}(h:0≤at'∧at'≤255)(T:List (List Int)):0≤(bif ilt (T.length:Int) (IntKind.wrap .i64 at')then(T.length:Int)else IntKind.wrap .i64 at'):=by
 have e:IntKind.wrap .i64 at'=at':=cT (by omega)
 rw [e]
 cases ilt (T.length:Int) at' with
 | true=>simp
 | false=>exact h.1
theorem BC(t n:Int): ∀(f:Nat) (x:DOS) (st:STS) (s:MS),(oN t n f x st s).1≤f
 | 0,x,st,s=>Nat.le_refl 0
 | f+1,x,st,s=>by
   rw [pT]
   cases (dqF t n x st s).d with
   | true=>exact Nat.succ_le_succ (Nat.zero_le f)
   | false=>exact Nat.succ_le_succ (BC t n f _ _ _)
theorem L5(t n lim:Int)(N:Nat): ∀(T:List (List Int)) (st:STS) (s:MS),(alF t n lim N T st s).2.1≤N*T.length
 | [],st,s=>Nat.le_refl 0
 | r::T,st,s=>by
   have h1:(alX t n lim N r st s).1≤N:=BC t n N _ _ _
   have h2:=L5 t n lim N T (alX t n lim N r st s).2.2.1 (alX t n lim N r st s).2.2.2
   show(alX t n lim N r st s).1+_≤N*(T.length+1)
   rw [Nat.mul_succ];omega
theorem VK{t n lim sh:Int}{f g:Nat→Int}{i:Nat}(hl:0≤lim): ∀(k j:Nat) (LL:List (List Nd)) (S:List STS) (st:STS) (s:MS),QL t n s.xs LL S→S[i]? =some st→UM LL→SZ t n s.xs→PZ t n s.xs→uW sh f g (j+k)→(0≤s.c∧s.c+20050*(k:Int)≤700000)→
 ∃LL',QL t n (alF t n lim 100000 (IF sh f g j k) st s).2.2.2.xs LL' (S.set i (alF t n lim 100000 (IF sh f g j k) st s).2.2.1)
 | 0,j,LL,S,st,s,q,hS,um,sz,pz,ho,hc=>⟨LL,by show QL t n s.xs LL (S.set i st);rw [lP hS];exact q⟩
 | k+1,j,LL,S,st,s,q,hS,um,sz,pz,ho,hc=>by
   have hr:aY sh (f j) (g j)=true:=ho j (by omega)
   have hm:=q.me i st hS
   obtain⟨w,LL',st',s',c,b,v,d⟩:=BB (kd:=f j) (ky:=g j) q hS hr um sz pz
   obtain⟨ok,z,e1,e2⟩:=L8 q hS d hl (by omega)
   have hS1:(S.set i st')[i]? =some st':=List.getElem?_set_self (eS hS)
   have dl:=d.lim
   have dc:=d.hc
   have hn:=q.hn
   have ht:=q.ht
   obtain⟨L2,r2⟩:=VK hl k (j+1) LL' _ st' s' d.q hS1 d.um d.sz (pz.up (by omega) d.up) (by rw [show j+1+k=j+(k+1) by omega];exact ho) (by omega)
   rw [List.set_set]at r2
   refine⟨L2,?_⟩
   show QL t n (alF t n lim 100000 (IF sh f g (j+1) k) (alX t n lim 100000 [sh,f j,g j] st s).2.2.1 (alX t n lim 100000 [sh,f j,g j] st s).2.2.2).2.2.2.xs L2 (S.set i (alF t n lim 100000 (IF sh f g (j+1) k) (alX t n lim 100000 [sh,f j,g j] st s).2.2.1 (alX t n lim 100000 [sh,f j,g j] st s).2.2.2).2.2.1)
   rw [e1];exact r2
structure WQ (sh:Int) (f g:Nat→Int) (at':Int) (m:Nat):Prop where
 oa:mG 2 (nP at') 1 (List.take (tkO (kP sh) f g m).length (List.drop 0 (tkO (kP sh) f g m))) ⟨1,0,[]⟩ (mP sh at')
 ob:mG 2 (nP at') 1 (List.take (jP at' (tkO (kP sh) f g m)) (List.drop 0 (tkO (kP sh) f g m))) ⟨1,0,[]⟩ (mP sh at')
 oc:mG 2 (nP at') 1 (List.take ((tkO (kP sh) f g m).length - jP at' (tkO (kP sh) f g m)) (List.drop (0+jP at' (tkO (kP sh) f g m)) (tkO (kP sh) f g m))) (bP sh f g at' m).2.2.1 (bP sh f g at' m).2.2.2
 eq:aP sh f g at' m=((bP sh f g at' m).1++(cP sh f g at' m).1,(bP sh f g at' m).2.1+(cP sh f g at' m).2.1,(cP sh f g at' m).2.2)
 tl:(tkO (kP sh) f g m).length =m
 al:(aP sh f g at' m).1.length =m
 st:(aP sh f g at' m).2.1≤100000*m
 xl:(aP sh f g at' m).2.2.2.xs.length ≤100000
 rl:(aP sh f g at' m).2.2.1.R.length ≤100000
 ml:(mP sh at').xs.length ≤100000
theorem UE{sh:Int}{f g:Nat→Int}{at':Int}{m:Nat}(ha:0≤at'∧at'≤255)(ho:uW (kP sh) f g m)(hm:m≤20):WQ sh f g at' m:=by
 have hn:=WC ha
 have fl:=SP (sh:=kP sh) (t:=2) (n:=nP at') (by omega) (by decide) (xs:=[]) (by show(0:Int)≤nP at';omega) (fun k hk=>by cases hk) [⟨0,0,[]⟩,⟨1,0,[]⟩] (by
  intro st hst
  rcases List.mem_cons.1 hst with e | e
  ·rw [e];exact⟨rfl,rfl⟩
  ·rw [List.mem_singleton.1 e];exact⟨rfl,rfl⟩) aAH
 have hc:0≤(mP sh at').c ∧(mP sh at').c ≤4:=⟨fl.c.1,by have:=fl.c.2;show(gG (kP sh) 2 (nP at') []).c ≤4;simp at this;omega⟩
 have hS: [(⟨0,0,[]⟩:STS),⟨1,0,[]⟩][1]? =some ⟨1,0,[]⟩:=rfl
 have ho':uW (kP sh) f g (0+m):=fun j hj=>ho j (by omega)
 obtain⟨r1,r2⟩:=L6 (lim:=1) (by decide) m 0 _ _ _ (mP sh at') fl.q hS fl.um fl.sz fl.pz ho' (by omega)
 obtain⟨L2,r3⟩:=VK (lim:=1) (by decide) m 0 _ _ _ (mP sh at') fl.q hS fl.um fl.sz fl.pz ho' (by omega)
 have tl:(tkO (kP sh) f g m).length =m:=z0 _ _ _ m 0
 have r1:alOk 2 (nP at') 1 100000 (tkO (kP sh) f g m) ⟨1,0,[]⟩ (mP sh at'):=r1
 have r2:(alF 2 (nP at') 1 100000 (tkO (kP sh) f g m) ⟨1,0,[]⟩ (mP sh at')).1.length =m:=r2
 have r3:QL 2 (nP at') (alF 2 (nP at') 1 100000 (tkO (kP sh) f g m) ⟨1,0,[]⟩ (mP sh at')).2.2.2.xs L2 ([(⟨0,0,[]⟩:STS),⟨1,0,[]⟩].set 1 (alF 2 (nP at') 1 100000 (tkO (kP sh) f g m) ⟨1,0,[]⟩ (mP sh at')).2.2.1):=r3
 have hj:=WB at' (tkO (kP sh) f g m)
 generalize hT:tkO (kP sh) f g m=T at*
 generalize hjj:jP at' T=i at*
 have eA:aP sh f g at' m=alF 2 (nP at') 1 100000 T ⟨1,0,[]⟩ (mP sh at'):=by
  unfold aP alR
  rw [hT,List.drop_zero,List.take_length]
 have eB:bP sh f g at' m=alF 2 (nP at') 1 100000 (T.take i) ⟨1,0,[]⟩ (mP sh at'):=by
  unfold bP alR
  rw [hT,hjj,List.drop_zero]
 have hdr:List.take (T.length - i) (List.drop (0+i) T)=T.drop i:=by
  rw [Nat.zero_add]
  exact List.take_of_length_le (by rw [List.length_drop];omega)
 have eC:cP sh f g at' m=alF 2 (nP at') 1 100000 (T.drop i) (bP sh f g at' m).2.2.1 (bP sh f g at' m).2.2.2:=by
  unfold cP alR
  rw [hT,hjj,hdr]
 have hsplit:T.take i++T.drop i=T:=List.take_append_drop i T
 have ap:=L7 2 (nP at') 1 100000 (T.take i) (T.drop i) ⟨1,0,[]⟩ (mP sh at')
 rw [hsplit]at ap
 have rr:=r1
 rw [←hsplit]at rr
 obtain⟨o1,o2⟩:=AM 2 (nP at') 1 100000 (T.take i) (T.drop i) ⟨1,0,[]⟩ (mP sh at') rr
 have hq:=r3.stw (i:=1) rfl
 refine {oa:=?_,ob:=?_,oc:=?_,eq:=?_,tl:=by rw [hT];exact tl,al:=by rw [eA];exact r2,st:=?_,xl:=?_,rl:=?_,ml:=?_ }
 ·rw [hT,List.drop_zero,List.take_length];exact r1
 ·rw [hT,hjj,List.drop_zero];exact o1
 ·rw [hT,hjj,hdr,eB];exact o2
 ·rw [eA,ap,eC,eB]
 ·rw [eA]
  have:=L5 2 (nP at') 1 100000 T ⟨1,0,[]⟩ (mP sh at')
  rw [tl]at this;exact this
 ·rw [eA]
  have h1:=r3.len
  omega
 ·rw [eA]
  have h1:=hq.ln
  omega
 ·have h1:=fl.q.len
  show(gG (kP sh) 2 (nP at') []).xs.length ≤100000
  omega
theorem P3(sh:Int)(f g:Nat→Int): ∀k j,IF sh f g j (k+1)=IF sh f g j k++ [[sh,f (j+k),g (j+k)]]
 | 0,j=>rfl
 | k+1,j=>by
   have ih:=P3 sh f g k (j+1)
   show [sh,f j,g j]::IF sh f g (j+1) (k+1)=([sh,f j,g j]::IF sh f g (j+1) k)++_
   rw [ih,show j+1+k=j+(k+1) by omega];rfl
theorem aAE(sh:Int)(f g:Nat→Int)(k:Nat):tkO sh f g (k+1)=tkO sh f g k++ [[sh,f k,g k]]:=by
 have:=P3 sh f g k 0
 rw [Nat.zero_add]at this
 exact this
theorem aAG(sh:Int)(m:Nat)(f g:Nat→Int)(at':Int)(K:AVal→aD Ob→Prop)(hsh:0≤sh∧sh≤255)(ha:0≤at'∧at'≤255)(hK:K (.bool true) []):IG sh m f g at' (aP sh f g at' m).1 ((bP sh f g at' m).1++(cP sh f g at' m).1) K:=by
 unfold IG
 refine⟨trivial,by decide,aW (fun _=>hK) (fun e1=>⟨⟨?_,⟨rfl⟩⟩,aW (fun _=>hK) (fun hr=>?_)⟩)⟩
 ·rw [bU,dF']at e1;omega
 rw [bU,dF']at e1
 have hs:=aBL hsh
 have hr:kQ (kP sh) m f g=true:=by simpa using hr
 have ho:uW (kP sh) f g m:=pE.1 hr
 have hn:=WC ha
 have F:=UE (f:=f) (g:=g) (m:=m) ha ho (by omega)
 have hml:=F.ml
 have tl: ∀k,(tkO (kP sh) f g k).length =k:=fun k=>z0 _ _ _ k 0
 refine⟨by decide,⟨by omega,by decide,nR.2 (by show 1≤(2:Int)∧(2:Int)≤8∧1≤(([]:List Int).length :Int)+nP at'∧(([]:List Int).length :Int)+nP at'≤200;simp;omega),fun k hk=>by cases hk⟩,⟨rfl,by show(mP sh at').xs.length ≤_;omega⟩,⟨trivial,trivial⟩,⟨trivial,trivial⟩,bF (H:=QH sh m f g at') (0:Nat) rfl ⟨Nat.zero_le _⟩,?_⟩
 rintro i ⟨hi⟩
 refine aW (fun e=>?_) (fun e=>?_)
 ·rw [bU,dT']at e
  have e4:W ((i:Int)+1)=((i+1:Nat):Int):=(cT (by omega)).trans rfl
  refine⟨⟨by omega,e⟩,⟨rfl,rfl,by rw [tl];omega⟩,bF (H:=QH sh m f g at') (i+1:Nat) ?_ ⟨⟨by omega⟩,by show m - (i+1)<m - i;omega⟩⟩
  simp only [QH,aAE,List.length_append,←e4]
  rfl
 ·rw [bU,dF']at e
  have him:i=m:=by omega
  subst him
  have hjl:=WB at' (tkO (kP sh) f g i)
  have hj0:=aCx ha (tkO (kP sh) f g i)
  have htl:=F.tl
  have hal:=F.al
  have hst:=F.st
  have hxl:=F.xl
  have hrl:=F.rl
  have e1':(aP sh f g at' i).1=(bP sh f g at' i).1++(cP sh f g at' i).1:=congrArg Prod.fst F.eq
  have e2':(aP sh f g at' i).2.1=(bP sh f g at' i).2.1+(cP sh f g at' i).2.1:=congrArg (fun q=>q.2.1) F.eq
  have e3':(aP sh f g at' i).2.2=(cP sh f g at' i).2.2:=congrArg (fun q=>q.2.2) F.eq
  have hbl:(bP sh f g at' i).1.length +(cP sh f g at' i).1.length =i:=by
   have h:=hal
   rw [e1',List.length_append]at h
   exact h
  have hw:W (((bP sh f g at' i).2.1:Int)+((cP sh f g at' i).2.1:Int))=((aP sh f g at' i).2.1:Int):=by
   have h2:100000*i≤100000*20:=Nat.mul_le_mul_left _ (by omega)
   have:W (((bP sh f g at' i).2.1:Int)+((cP sh f g at' i).2.1:Int))=((bP sh f g at' i).2.1:Int)+((cP sh f g at' i).2.1:Int):=cT (by omega)
   rw [this,e2'];push_cast;rfl
  refine⟨⟨⟨rfl,rfl,by omega⟩,by rw [tl];omega,F.oa⟩,⟨hj0,hjl⟩,⟨⟨rfl,rfl,by omega⟩,by omega,F.ob⟩,⟨hj0,hjl⟩,⟨⟨rfl,rfl,by omega⟩,by omega,F.oc⟩,⟨by omega,rfl,rfl,by omega⟩,dQ ?_ (dQ ?_ (dQ ?_ ⟨⟨⟨⟨rfl,rfl⟩,by show(aP sh f g at' i).2.2.2.xs.length ≤_;omega⟩,trivial⟩,dQ ?_ (dQ ?_ ⟨⟨⟨⟨rfl,Nat.zero_add _⟩,by show(aP sh f g at' i).2.2.1.R.length ≤_;omega⟩,trivial⟩,dQ ?_ ⟨bF (H:=QI (aP sh f g at' i).1 ((bP sh f g at' i).1++(cP sh f g at' i).1)) (0:Nat) ?_ ⟨Nat.zero_le _⟩,?_⟩⟩)⟩))⟩
  ·show(!ieq ((aP sh f g at' i).2.1:Int) (W (((bP sh f g at' i).2.1:Int)+((cP sh f g at' i).2.1:Int))))=false
   rw [hw,bN];rfl
  ·rw [hbl,hal,bN];rfl
  ·rw [hal,bN];rfl
  ·show(!bif bif ieq (aP sh f g at' i).2.2.2.t (cP sh f g at' i).2.2.2.t then bif ieq (aP sh f g at' i).2.2.2.n (cP sh f g at' i).2.2.2.n then true else false else false then gH (aP sh f g at' i).2.2.2.xs (cP sh f g at' i).2.2.2.xs else false)=false
   rw [e3',bN,bN,vE.2 rfl];rfl
  ·show(!ieq (aP sh f g at' i).2.2.1.sp (cP sh f g at' i).2.2.1.sp)=false
   rw [e3',bN];rfl
  ·show(!gH (aP sh f g at' i).2.2.1.R (List.drop 0 (cP sh f g at' i).2.2.1.R))=false
   rw [e3',List.drop_zero,vE.2 rfl];rfl
  ·simp only [QI,List.length_append,List.drop_zero,List.take_length]
   rfl
  ·rintro k ⟨hk⟩
   refine aW (fun e=>?_) (fun e=>hK)
   rw [bU,dT']at e
   have e5:W ((k:Int)+1)=((k+1:Nat):Int):=(cT (by omega)).trans rfl
   have hkl:k<(aP sh f g at' i).1.length :=by omega
   rw [←e1']
   refine⟨⟨by omega,e⟩,by show 0+k<_;omega,⟨by omega,e⟩,by show 0+k<_;omega,dQ ?_ ?_⟩
   ·generalize List.getD (aP sh f g at' i).1 (0+Int.toNat (k:Int)) []=r
    rw [bN,bN]
    cases ieq (List.headD (List.tail r) 0) 0<;>rfl
   ·rw [e5]
    exact bF (H:=QI (aP sh f g at' i).1 (aP sh f g at' i).1) (k+1:Nat) rfl ⟨⟨hkl⟩,by show(aP sh f g at' i).1.length - (k+1)<(aP sh f g at' i).1.length - k;omega⟩
end Go.Sh
