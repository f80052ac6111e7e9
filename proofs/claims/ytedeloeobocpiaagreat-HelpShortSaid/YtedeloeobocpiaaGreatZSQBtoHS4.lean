import Derived.Test.YtedeloeobocpiaaGreatZVEtoSQA
set_option linter.all false
set_option maxHeartbeats 8000000
namespace Go.Sh
open Go Go.Proofs
variable [Con]
structure ZQ (sh:Int) (LL:List (List Nd)) (f g:Nat→Int) (m:Nat):Prop where
 srt: ∀(h:Nat) (L:List Nd),LL[h]? =some L→Srt (uk L)
 rng: ∀(h:Nat) (L:List Nd),LL[h]? =some L→ ∀k∈uk L,(0≤k∧k≤999)∧(cH sh k).toNat =h
 mem: ∀(h:Nat) (L:List Nd),LL[h]? =some L→ ∀k,0≤k→k≤999→(cH sh k).toNat =h→(k∈uk L↔inF f g k m=true)
structure ZP (sh:Int) (LL:List (List Nd)) (f g:Nat→Int) (m:Nat):Prop where
 eq:uk (LL.getD 0 [])=aT sh f g m
 rng: ∀k∈aT sh f g m,0≤k∧k≤999
 els: ∀(h:Nat) (L:List Nd),LL[h]? =some L→h≠0→L=[]
def Rp(sh:Int)(LL:List (List Nd))(f g:Nat→Int)(m:Nat):Prop:=((sh=1∨sh=2)∧ZQ sh LL f g m)∨((sh=3∨sh=4)∧ZP sh LL f g m)
def rL(sh:Int)(f g:Nat→Int)(m:Nat):Prop:= ∀j,j<m→b9 sh (f j) (g j)=true
theorem NY(f g:Nat→Int)(k:Int)(m:Nat):inF f g k (m+1)=bif ieq (g m) k&&ieq (f m) 1 then true else bif ieq (g m) k&&ieq (f m) 2 then false else inF f g k m:=rfl
theorem ZX{LL:List (List Nd)}(h4:LL.length=4)(sh ky:Int):LL[(cH sh ky).toNat]? =some (dT LL sh ky):=by
 have h:(cH sh ky).toNat <LL.length:=by rw [h4];exact CB _ _
 unfold dT
 rw [gD',gE' h];rfl
theorem N5{sh kd ky:Int}(h:b9 sh kd ky=true)(hs:sh=1∨sh=2):(kd=1∨kd=2∨kd=3)∧0≤ky∧ky≤999:=by
 have:=eT.1 h;omega
theorem oM{sh kd ky:Int}(h:b9 sh kd ky=true)(hs:sh=3∨sh=4):(kd=4∨kd=5)∧0≤ky∧ky≤999:=by
 have:=eT.1 h;omega
theorem SS{sh kd ky:Int}(hs:sh=1∨sh=2):dK sh kd ky=ky:=by
 unfold dK
 rcases hs with e | e
 ·rw [e,dX (show(1:Int)≠2 by decide),bJ];rfl
 ·rw [e,bJ];rfl
theorem ZQ.step{sh:Int}{LL:List (List Nd)}{f g:Nat→Int}{m:Nat}(hs:sh=1∨sh=2)(h4:LL.length=4)(r:ZQ sh LL f g m)(hr:b9 sh (f m) (g m)=true):
 (G3 sh (f m) (g m) (uk (dT LL sh (g m)))).1=xG sh f g m (f m) (g m)∧ ∀L',uk L'=(G3 sh (f m) (g m) (uk (dT LL sh (g m)))).2→ZQ sh (LL.set (cH sh (g m)).toNat L') f g (m+1):=by
 obtain⟨hk,hy⟩:=N5 hr hs
 have hat:=ZX h4 sh (g m)
 have hsrt:=r.srt _ _ hat
 have hmem:=r.mem _ _ hat (g m) hy.1 hy.2 rfl
 have hhd:=C6 (k:=g m) hsrt
 generalize hu:uk (dT LL sh (g m))=u at*
 have hin: ∀k,k≠g m→inF f g k (m+1)=inF f g k m:=by
  intro k hk
  rw [NY,dX (show g m≠k from fun e=>hk e.symm)];rfl
 have hrng:=r.rng _ _ hat
 rw [hu]at hrng
 have build: ∀u':List Int,Srt u'→(∀k∈u',k=g m∨k∈u)→(g m∈u'↔inF f g (g m) (m+1)=true)→(∀k,k≠g m→(k∈u'↔k∈u))→ ∀L',uk L'=u'→ZQ sh (LL.set (cH sh (g m)).toNat L') f g (m+1):=by
  intro u' b1 b2 b3 b4 L' hL'
  refine⟨?_,?_,?_⟩
  ·intro h M hM
   rcases oU hM with⟨rfl,rfl⟩ | ⟨hM,hne⟩
   ·rw [hL'];exact b1
   ·exact r.srt h M hM
  ·intro h M hM k hk
   rcases oU hM with⟨rfl,rfl⟩ | ⟨hM,hne⟩
   ·rw [hL']at hk
    rcases b2 k hk with e | e
    ·rw [e];exact⟨hy,rfl⟩
    ·exact hrng k e
   ·exact r.rng h M hM k hk
  ·intro h M hM k k0 k9 hh
   rcases oU hM with⟨rfl,rfl⟩ | ⟨hM,hne⟩
   ·rw [hL']
    by_cases e:k=g m
    ·rw [e];exact b3
    ·rw [b4 k e,hin k e]
     have:=r.mem _ _ hat k k0 k9 hh
     rw [hu]at this;exact this
   ·have hne2:k≠g m:=by rintro rfl;exact hne hh
    rw [hin k hne2]
    exact r.mem h M hM k k0 k9 hh
 have e12:(2:Int)≠1:=by decide
 unfold G3 xG
 rw [SS hs]
 rcases hk with e | e | e
 ·
  have i1:inF f g (g m) (m+1)=true:=by rw [NY,e,bJ,bJ];rfl
  simp only [e,if_neg (show¬(1:Int)=4 by decide),if_true,bJ,cond_true]
  by_cases q:g m∈u
  ·rw [if_pos (hhd.2 q),hmem.1 q]
   exact⟨rfl,build u hsrt (fun k h=>.inr h) ⟨fun _=>i1,fun _=>q⟩ (fun k _=>Iff.rfl)⟩
  ·rw [if_neg (fun h=>q (hhd.1 h))]
   have q2:inF f g (g m) m=false:=by
    cases z:inF f g (g m) m with
    | false=>rfl
    | true=>exact absurd (hmem.2 z) q
   rw [q2]
   refine⟨rfl,build _ (TT hsrt q) (fun k h=>?_) ⟨fun _=>i1,fun _=>by simp⟩ (fun k hk=>?_)⟩
   ·rcases List.mem_append.1 h with z | z
    ·exact .inr ((hJ u).2 (.inl z))
    ·rcases List.mem_cons.1 z with z | z
     ·exact .inl z
     ·exact .inr ((hJ u).2 (.inr z))
   ·rw [List.mem_append,List.mem_cons,hJ (k:=g m) u]
    constructor
    ·rintro(z | z | z)
     ·exact .inl z
     ·exact absurd z hk
     ·exact .inr z
    ·rintro(z | z)
     ·exact .inl z
     ·exact .inr (.inr z)
 ·
  have i1:inF f g (g m) (m+1)=false:=by rw [NY,e,bJ,dX e12,bJ];rfl
  simp only [e,if_neg (show¬(2:Int)=4 by decide),if_neg (show¬(2:Int)=1 by decide),if_true,dX e12,bJ,cond_false,Bool.true_or,cond_true]
  by_cases q:g m∈u
  ·obtain⟨d1,d2⟩:=TR hsrt q
   rw [if_pos (hhd.2 q),hmem.1 q]
   refine⟨rfl,build _ d1 (fun k h=>.inr ((d2 k).1 h).1) ⟨fun h=>absurd rfl ((d2 _).1 h).2,fun h=>by rw [i1]at h;cases h⟩ (fun k hk=>⟨fun h=>((d2 k).1 h).1,fun h=>(d2 k).2 ⟨h,hk⟩⟩)⟩
  ·rw [if_neg (fun h=>q (hhd.1 h))]
   have q2:inF f g (g m) m=false:=by
    cases z:inF f g (g m) m with
    | false=>rfl
    | true=>exact absurd (hmem.2 z) q
   rw [q2]
   exact⟨rfl,build u hsrt (fun k h=>.inr h) ⟨fun h=>absurd h q,fun h=>by rw [i1]at h;cases h⟩ (fun k _=>Iff.rfl)⟩
 ·
  have i1:inF f g (g m) (m+1)=inF f g (g m) m:=by rw [NY,e,bJ,dX (show(3:Int)≠1 by decide),dX (show(3:Int)≠2 by decide)];rfl
  simp only [e,if_neg (show¬(3:Int)=4 by decide),if_neg (show¬(3:Int)=1 by decide),if_neg (show¬(3:Int)=2 by decide),if_true,dX (show(3:Int)≠1 by decide),dX (show(3:Int)≠2 by decide),bJ,cond_false,Bool.false_or,cond_true]
  refine⟨?_,build u hsrt (fun k h=>.inr h) (by rw [i1];exact hmem) (fun k _=>Iff.rfl)⟩
  by_cases q:g m∈u
  ·rw [decide_eq_true (hhd.2 q),hmem.1 q]
  ·rw [decide_eq_false (fun h=>q (hhd.1 h))]
   cases z:inF f g (g m) m with
   | false=>rfl
   | true=>exact absurd (hmem.2 z) q
theorem yP{p:Int→Bool} : ∀ {u:List Int},(∀x∈u,p x=true)→u.takeWhile p=u∧u.dropWhile p=[]
 | [],_=>⟨rfl,rfl⟩
 | x::u,h=>by
   have hx:=h x (List.mem_cons_self ..)
   obtain⟨h1,h2⟩:=yP (u:=u) (fun y hy=>h y (List.mem_cons_of_mem _ hy))
   rw [List.takeWhile_cons,List.dropWhile_cons,hx]
   exact⟨by simp only [if_true,h1],by simp only [if_true,h2]⟩
theorem ZP.step{sh:Int}{LL:List (List Nd)}{f g:Nat→Int}{m:Nat}(hs:sh=3∨sh=4)(h4:LL.length=4)(r:ZP sh LL f g m)(ho:rL sh f g m)(hr:b9 sh (f m) (g m)=true):
 (G3 sh (f m) (g m) (uk (dT LL sh (g m)))).1=xG sh f g m (f m) (g m)∧ ∀L',uk L'=(G3 sh (f m) (g m) (uk (dT LL sh (g m)))).2→ZP sh (LL.set (cH sh (g m)).toNat L') f g (m+1):=by
 obtain⟨hk,hy⟩:=oM hr hs
 have hb:v8 f m:=fun j hj=>(oM (ho j hj) hs).1
 have hh:(cH sh (g m)).toNat =0:=by
  unfold cH
  rw [dX (show sh≠2 by omega)];rfl
 have hl:dT LL sh (g m)=LL.getD 0 []:=by unfold dT;rw [hh]
 rw [hl,hh,r.eq]
 have hrng:=r.rng
 have h0:0<LL.length:=by omega
 have build: ∀L',uk L'=aT sh f g (m+1)→(∀k∈aT sh f g (m+1),0≤k∧k≤999)→ZP sh (LL.set 0 L') f g (m+1):=by
  intro L' h1 h2
  refine⟨?_,h2,?_⟩
  ·rw [gD',List.getElem?_set_self h0];exact h1
  ·intro h M hM hne
   rcases oU hM with⟨rfl,rfl⟩ | ⟨hM,_⟩
   ·exact absurd rfl hne
   ·exact r.els h M hM hne
 have hall: ∀k∈aT sh f g m,dC 1024 k=true:=fun k hk=>decide_eq_true (by have:=hrng k hk;omega)
 have hnone: ∀k∈aT sh f g m,dC (-1) k=false:=fun k hk=>decide_eq_false (by have:=hrng k hk;omega)
 obtain⟨t1,t2⟩:=yP hall
 have t3:(aT sh f g m).takeWhile (dC (-1))=[]∧(aT sh f g m).dropWhile (dC (-1))=aT sh f g m:=by
  cases hq:aT sh f g m with
  | nil=>exact⟨rfl,rfl⟩
  | cons x v=>
    have:=hnone x (by rw [hq];exact List.mem_cons_self ..)
    rw [List.takeWhile_cons,List.dropWhile_cons,this];exact⟨rfl,rfl⟩
 unfold G3 xG
 have n14: ∀(kd:Int),kd=4∨kd=5→ieq kd 1=false∧ieq kd 2=false∧ieq kd 3=false:=fun kd h=>⟨dX (by omega),dX (by omega),dX (by omega)⟩
 obtain⟨n1,n2,n3⟩:=n14 _ hk
 rw [n1,n2,n3]
 simp only [Bool.false_or,cond_false]
 rcases hk with e | e
 ·
  simp only [e,if_true,bJ,cond_true]
  rcases hs with rfl | rfl
  ·have hkey:dK 3 4 (g m)=1024:=rfl
   rw [hkey,t1,t2]
   refine⟨by trivial,fun L' h=>?_⟩
   have hi:aT 3 f g (m+1)=aT 3 f g m++ [g m]:=CL hb e
   refine build L' (by rw [h,hi]) (fun k hk=>?_)
   rw [hi]at hk
   rcases List.mem_append.1 hk with z | z
   ·exact hrng k z
   ·rw [List.mem_singleton.1 z];exact hy
  ·have hkey:dK 4 4 (g m)= -1:=rfl
   rw [hkey,t3.1,t3.2]
   refine⟨by trivial,fun L' h=>?_⟩
   have hi:aT 4 f g (m+1)=g m::aT 4 f g m:=CU e
   refine build L' (by rw [h,hi];rfl) (fun k hk=>?_)
   rw [hi]at hk
   rcases List.mem_cons.1 hk with z | z
   ·rw [z];exact hy
   ·exact hrng k z
 ·
  have hkey:dK sh 5 (g m)= -1:=by rcases hs with rfl | rfl<;>rfl
  have hi:aT sh f g (m+1)=(aT sh f g m).tail :=by
   rcases hs with rfl | rfl
   ·exact yI hb e
   ·exact yR hb e
  simp only [e,if_neg (show¬(5:Int)=4 by decide),if_neg (show¬(5:Int)=1 by decide),if_neg (show¬(5:Int)=2 by decide),if_neg (show¬(5:Int)=3 by decide),dX (show(5:Int)≠4 by decide),cond_false,hkey,t3.1,t3.2]
  have hr2: ∀k∈aT sh f g (m+1),0≤k∧k≤999:=fun k hk=>by rw [hi]at hk;exact hrng k (List.mem_of_mem_tail hk)
  cases hq:aT sh f g m with
  | nil=>
    refine⟨rfl,fun L' h=>build L' ?_ hr2⟩
    rw [hi,hq];exact h
  | cons x v=>
    refine⟨rfl,fun L' h=>build L' ?_ hr2⟩
    rw [hi,hq];exact h
theorem Rp.step{sh:Int}{LL:List (List Nd)}{f g:Nat→Int}{m:Nat}(h4:LL.length=4)(r:Rp sh LL f g m)(ho:rL sh f g m)(hr:b9 sh (f m) (g m)=true):
 (G3 sh (f m) (g m) (uk (dT LL sh (g m)))).1=xG sh f g m (f m) (g m)∧ ∀L',uk L'=(G3 sh (f m) (g m) (uk (dT LL sh (g m)))).2→Rp sh (LL.set (cH sh (g m)).toNat L') f g (m+1):=by
 rcases r with⟨hs,r⟩ | ⟨hs,r⟩
 ·obtain⟨h1,h2⟩:=r.step hs h4 hr
  exact⟨h1,fun L' h=>.inl ⟨hs,h2 L' h⟩⟩
 ·obtain⟨h1,h2⟩:=r.step hs h4 ho hr
  exact⟨h1,fun L' h=>.inr ⟨hs,h2 L' h⟩⟩
theorem RF{t n:Int}{a:ENS×STS×MS}{d:Bool}{b:ENS×STS×MS}(h:DF t n a=(d,b)):(enF t n a.1 a.2.1 a.2.2).d =d∧((enF t n a.1 a.2.1 a.2.2).e,(enF t n a.1 a.2.1 a.2.2).st,(enF t n a.1 a.2.1 a.2.2).s)=b:=by
 unfold DF at h
 rw [pI']at h
 exact h
theorem Act1.bnd{t n:Int}{s s':MS}(h:Act1 s s')(hb:tA t n s)(hc:s.c+1≤900000):tA t n s':=⟨hb.ht,hb.hn,by have:=hb.hc;rw [h.c];omega,h.w hb.hw⟩
theorem QL.stw{t n:Int}{xs:List Int}{LL:List (List Nd)}{S:List STS}(q:QL t n xs LL S){i:Nat}{st:STS}(hS:S[i]? =some st):stW 500 st:=by
 obtain⟨h1,h2,_⟩:=uM q hS
 have hm:=q.me i st hS
 have hn:=q.hn
 have ht:=q.ht
 refine⟨by omega,fun r hr=>by have:=h2 r (LE hr);omega,?_⟩
 have:=kF (by omega) (QD h1) (fun r hr=>h2 r (LE hr))
 omega
theorem QL.bnd{t n:Int}{LL:List (List Nd)}{S:List STS}{s:MS}(q:QL t n s.xs LL S)(hc:0≤s.c∧s.c≤900000):tA t n s:=⟨q.ht,⟨q.hn.1,by have:=q.hn;omega⟩,hc,q.okw⟩
theorem C4{α:Type} : ∀ {l:List α} {i:Nat} {x:α},l[i]? =some x→l.set i x=l
 | [],i,x,h=>rfl
 | y::l,0,x,h=>by simp at h;rw [h];rfl
 | y::l,i+1,x,h=>by
   rw [List.set_cons_succ,C4 (l:=l) (by simpa using h)]
theorem CE{t n u no sh kd ky att w1 c v:Int}{b:Bool}{s:MS}(ha1:aA w1 0 12=att)(hm:HlM t n u no sh kd ky s.xs)(hw1:aB s.xs (aL t n u)=w1)(hd:dOk att 0 0 (bif ieq c 4 then 1 else 0) 5 v=true):
 ∃s',DE (aL t n u) 1 (bA att 0 0 (bif ieq c 4 then 1 else 0) b 5 v) (aB s.xs 1) 2 s s'∧
  ∀(x:HPS) (st:STS),x.at'=6→x.u=u→x.found=w1→(x.p.code=c∧x.p.okk=b∧x.p.val=v)→ ∃z,End (hpG t n) 2 (x,st,s) (z,st,s'):=by
 have hu:=hm.hu
 have hn:=hm.hn
 have S0:=IB (D:=aL t n u) (addr:=1) (s:=s) (l:=s) (c0:=0) (w:=w1) (w':=bA att 0 0 (bif ieq c 4 then 1 else 0) b 5 v) rfl (by omega) rfl rfl hm.din (by unfold aL;omega) hw1 rfl (m9 hd)
 refine⟨_,S0.ld (aL t n u),fun x st h0 e1 e2 e3=>?_⟩
 obtain⟨p1,p2,p3⟩:=e3
 have g0:=SM (t:=t) (n:=n) (x:=x) (st:=st) (s:=s) h0 (by rw [e2,p1,p3,ha1];exact hd)
 rw [e1,e2,p1,p2,p3,ha1]at g0
 obtain⟨z,g1⟩:=HP (t:=t) (n:=n) (x:= {hpR x with at':=0}) (st:=st) (s:=s.cased (aL t n u) w1 (bA att 0 0 (bif ieq c 4 then 1 else 0) b 5 v)) rfl (by show i9 (aA (aB _ (aL t n x.u)) 49 3)=false;rw [e1,S0.d,pM hd];rfl)
 have g1:End (hpG t n) 1 _ (z,st,(s.cased (aL t n u) w1 (bA att 0 0 (bif ieq c 4 then 1 else 0) b 5 v)).loadd (aL t n x.u)):=g1
 rw [e1]at g1
 exact⟨z,End.cons (gA g0) g1⟩
theorem L9{att v:Int}(h:0≤att∧att<4096)(hv:0≤v∧v<1024)(e:Int)(he:0≤e∧e≤1):dOk att 0 0 e 5 v=true:=by
 unfold dOk
 rw [cQ.2 (show 0≤att∧att<2^(12:Int).toNat from h),cQ.2 (show 0≤v∧v<2^(10:Int).toNat from hv),cQ.2 (show 0≤e∧e<2^(9:Int).toNat from⟨he.1,by show e<512;omega⟩)]
 rfl
structure HlA (t n u no sh kd ky att:Int) (LL LL':List (List Nd)) (S:List STS) (i:Nat) (st':STS) (s s':MS) (j:Nat) (e:Int) (b:Bool) (v:Int):Prop where
 q:QL t n s'.xs LL' (S.set i st')
 d:aB s'.xs (aL t n u)=bA att 0 0 e b 5 v
 hm:HlM t n u no sh kd ky s'.xs
 c:s'.c=s.c+j
 t:s'.t=s.t
 n:s'.n=s.n
 vr:0≤v∧v<1024
theorem HO{t n u no sh kd ky att w1:Int}{LL:List (List Nd)}{S:List STS}{s:MS}{i:Nat}{st:STS}(q:QL t n s.xs LL S)(hS:S[i]? =some st)(hr:b9 sh kd ky=true)(hl:bG kd=true→st.sp≠0)(hm:HlM t n u no sh kd ky s.xs)(hw1:aB s.xs (aL t n u)=w1)(ha1:aA w1 0 12=att):
 ∃j s',HlA t n u no sh kd ky att LL (LL.set (cH sh ky).toNat (x8 sh kd ky st.sp (dT LL sh ky))) S i (oZ sh kd ky (dT LL sh ky) st) s s' j 0 (paOf sh kd ky (sc (dK sh kd ky) (dT LL sh ky)).2.2).ok (paOf sh kd ky (sc (dK sh kd ky) (dT LL sh ky)).2.2).val ∧(j:Int)≤5*n+40∧
  ∀y:HPS,y.u=u→y.no=no→y.sh=sh→y.kd=kd→y.ky=ky→y.found=w1→0≤y.limit→ ∃z,End (hpG t n) j ({hpR y with at':=5,fn:=qM t n st.me (cH sh ky) (dK sh kd ky) y.limit},st,s) (z,oZ sh kd ky (dT LL sh ky) st,s'):=by
 have lc:=q.lc sh ky hS
 have hL:=q.at sh ky
 have hLn:=jH q hL
 have hn:=q.hn
 have ht:=q.ht
 have hme:=q.me i st hS
 have hun:=hm.hu
 have hat:0≤att∧att<4096:=by
  have:=fX (x:=w1) (a:=0) (w:=12)
  rw [ha1]at this;simpa using this
 have hsp:bG kd=true→1≤st.sp∧st.sp≤n∧st.sp∉(dT LL sh ky).map Nd.a:=by
  intro hk
  have hz:=hl hk
  have hin:st.sp∈dQ st.sp st.R:=by rw [lC hz];exact List.mem_cons_self ..
  have h2:=(uM q hS).2.1 st.sp hin
  exact⟨h2.1,h2.2,sL q hS hL st.sp hin⟩
 have hlen:((dT LL sh ky).length :Int)≤n:=lc.ln
 obtain⟨j,jj,z,s1,s3,sV,P,p⟩:=F4 (kd:=kd) (ky:=ky) hr lc hsp
 have qV:=q.fast hS hl p.fta
 have hD: ∀x,2*n+5+2*t≤x→aB s1.xs x=aB s.xs x:=fun x hx=>p.hi1 x (by omega) (by omega) (by omega)
 have m1:HlM t n u no sh kd ky s1.xs:=hm.congr p.len1 (hD _ (by unfold bM;omega)) (hD _ (by unfold bI;omega))
 have hw:aB s1.xs (aL t n u)=w1:=(hD _ (by unfold aL;omega)).trans hw1
 have hst1:(⟨st.me,st.sp,st.R++z.ul⟩:STS)=⟨st.me,st.sp,st.R++(sc (dK sh kd ky) (dT LL sh ky)).2.1.map Nd.a⟩:=by rw [p.ul]
 have hlim:=p.lim
 have walk: ∀y:HPS,y.sh=sh→y.kd=kd→y.ky=ky→ ∃(j':Nat) (b:FNS×MS),j=j'+1∧Go1 (hpG t n) j' ({hpR y with at':=5,fn:=qM t n st.me (cH sh ky) (dK sh kd ky) y.limit},st,s) ({hpR y with at':=5,fn:=b.1},st,b.2)∧
  hpG t n ({hpR y with at':=5,fn:=b.1},st,b.2)=bif P.now then(false,({hpR y with at':=6,p:=P},(⟨st.me,st.sp,st.R++z.ul⟩:STS),s1))
   else bif bG kd then(false,({hpR y with at':=8,p:=P,pr:=⟨ky,z.curr,0,false⟩ },(⟨st.me,st.sp,st.R++z.ul⟩:STS),s1))
   else(false,({hpR y with at':=9,p:=P},(⟨st.me,st.sp,st.R++z.ul⟩:STS),s1)):=by
  intro y e1 e2 e3
  subst e1 e2 e3
  obtain⟨j',b,h1,h2,h3⟩:=p.fin y.limit
  refine⟨j',b,h1,?_,?_⟩
  ·exact aDn (G:=hpG t n) (fun q:FNS×MS=>(({hpR y with at':=5,fn:=q.1} :HPS),st,q.2)) (fun a c hac=>gA (aAn (x:= {hpR y with at':=5,fn:=a.1}) rfl (HD hac))) h2
  ·have e:=XP (t:=t) (n:=n) (x:= {hpR y with at':=5,fn:=b.1}) (st:=st) (s:=b.2) (y:= {z with limit:=y.limit}) (p:=P) rfl (HD h3) p.ab (p.pl) p.pc
   unfold hpG
   rw [e]
   cases P.now with
   | true=>rfl
   | false=>cases hkk:bG y.kd<;>simp only [hkk,cond_true,cond_false]<;>first | rfl | (show((bif bG y.kd then _ else _:HpO).d,(bif bG y.kd then _ else _:HpO).x,(bif bG y.kd then _ else _:HpO).st,(bif bG y.kd then _ else _:HpO).s)=_;rw [hkk];rfl)
 cases hnow:P.now with
 | true=>
   obtain⟨f1,f2,f3⟩:=p.now hnow
   obtain⟨s',T,g⟩:=CE (b:=P.okk) ha1 m1 hw (L9 hat p.vr (bif ieq P.code 4 then 1 else 0) (by rw [p.code];exact⟨by decide,by decide⟩))
   have qr:=qV.out (ys:=s'.xs) (T.len.trans (congrArg (fun m:MS=>m.xs.length) f1.symm)) (T.okw (by rw [←f1];exact qV.okw)) (fun a ha=>by
    rw [f1]
    by_cases h1:a=1
    ·rw [h1];exact T.a
    ·exact T.o a (by unfold aL;omega) h1)
   have hfs:oZ sh kd ky (dT LL sh ky) st=(⟨st.me,st.sp,st.R++z.ul⟩:STS):=by
    rw [hst1];unfold oZ;rw [f2,f3,List.append_nil]
   refine⟨j+2,s',{q:=qr,d:=?_,hm:=T.hm m1 ⟨by decide,by omega⟩,c:=by rw [T.c,p.c1];omega,t:=T.t.trans p.t1,n:=T.n.trans p.n1,vr:=by rw [←p.val];exact p.vr},by omega,fun y e1 e2 e3 e4 e5 e6 _=>?_⟩
   ·rw [T.d,p.code,p.ok,p.val];rfl
   ·obtain⟨j',b,h1,h2,h3⟩:=walk y e3 e4 e5
    rw [hnow,cond_true]at h3
    obtain⟨zz,g1⟩:=g {hpR y with at':=6,p:=P} ⟨st.me,st.sp,st.R++z.ul⟩ rfl e1 e6 ⟨rfl,rfl,rfl⟩
    rw [hfs]
    have hj:2+(1+j')=j+2:=by omega
    rw [←hj]
    exact⟨zz,aC3 (h2.trans (Go1.one h3)) g1⟩
 | false=>
   obtain⟨g1,g2,g3,g4,g5,g6,g7,g8,g9,g10,g11,g12⟩:=p.chg hnow
   obtain⟨pp1,pp2⟩:=p.pp hnow
   have hun2:u<t:=hun.2.1
   have hD3: ∀x,2*n+5+2*t≤x→aB s3.xs x=aB s.xs x:=fun x hx=>(g11 x (by omega)).trans (hD x hx)
   have m3:HlM t n u no sh kd ky s3.xs:=hm.congr g8 (hD3 _ (by unfold bM;omega)) (hD3 _ (by unfold bI;omega))
   have hw3:aB s3.xs (aL t n u)=w1:=(hD3 _ (by unfold aL;omega)).trans hw1
   have pq:PQ att P.addr P.old P.nxt P.mark P.val:=⟨hat,⟨g2.1,by omega⟩,g3,p.vr,g4⟩
   obtain⟨s',T,g⟩:=SL (sh:=sh) (kd:=kd) (ky:=ky) ha1 m3 pq g2.2 g5 hw3 pp2
   have hsV:sV.xs=aJ s3.xs P.addr (chgW P.old P.nxt P.mark):=by rw [g6];exact iP g7
   have hsl:sV.xs.length=s3.xs.length:=by rw [hsV,bR]
   have hlen3:=m3.len
   have hain:0≤P.addr∧P.addr<s3.xs.length:=by omega
   have qr:=qV.out (ys:=s'.xs) (T.len.trans hsl.symm) (T.okw (g12 q.okw)) (fun a ha=>by
    rw [hsV]
    by_cases h1:a=P.addr
    ·rw [h1,T.a,dF hain]
    ·rw [bD h1];exact T.o a (by unfold aL;omega) h1)
   have hfs: ∀sp',(paOf sh kd ky (sc (dK sh kd ky) (dT LL sh ky)).2.2).sp st.sp=sp'→oZ sh kd ky (dT LL sh ky) st=(⟨st.me,sp',(st.R++z.ul)++(bif dG sh kd then [nxW P.old]else [])⟩:STS):=by
    intro sp' hsp'
    unfold oZ
    rw [hsp',pp1,p.ul]
   have hplan:P.now=false∧P.val=P.val∧P.addr=P.addr∧P.old=P.old∧P.nxt=P.nxt∧P.mark=P.mark:=⟨hnow,rfl,rfl,rfl,rfl,rfl⟩
   cases hlk:bG kd with
   | true=>
     obtain⟨k1,k2,k3,k4⟩:=p.lk hnow hlk
     refine⟨j+23,s',{q:=qr,d:=?_,hm:=T.hm m3 g2,c:=by rw [T.c,k3];show s1.c+1+1+21=_;rw [p.c1];omega,t:=T.t.trans g9,n:=T.n.trans g10,vr:=by rw [←p.val];exact p.vr},by omega,fun y e1 e2 e3 e4 e5 e6 _=>?_⟩
     ·rw [T.d,←p.ok,←p.val,g1]
     ·obtain⟨j',b,h1,h2,h3⟩:=walk y e3 e4 e5
      rw [hnow,hlk,cond_false,cond_true]at h3
      have h5:=gA (aAp (t:=t) (n:=n) (x:= {hpR y with at':=8,p:=P,pr:=⟨ky,z.curr,0,false⟩ }) (st:=⟨st.me,st.sp,st.R++z.ul⟩) (s:=s1) rfl (TH rfl))
      have h6:=gA (XS (t:=t) (n:=n) (x:= {hpR y with at':=8,p:=P,pr:=⟨ky,z.curr,aB s1.xs st.sp,true⟩ }) (st:=⟨st.me,st.sp,st.R++z.ul⟩) (s:=s1.loadd st.sp) rfl (O2 rfl k1 k2))
      have h6:hpG t n _=(false,(_,_,(s1.loadd st.sp).stored st.sp (S5 ky z.curr (aB s1.xs st.sp)))):=h6
      rw [←k3]at h6
      obtain⟨zz,h7⟩:=g {hpR y with at':=9,p:=P} ⟨st.me,st.sp,st.R++z.ul⟩ rfl e1 e2 e6 e4 hplan
      rw [hlk,cond_true]at h7
      rw [hfs 0 k4]
      have hj:21+(1+1+1+j')=j+23:=by omega
      rw [←hj]
      exact⟨zz,aC3 (h2.trans (Go1.cons h3 (Go1.cons h5 (Go1.one h6)))) h7⟩
   | false=>
     obtain⟨k3,k4⟩:=p.nl hnow hlk
     refine⟨j+21,s',{q:=qr,d:=?_,hm:=T.hm m3 g2,c:=by rw [T.c,k3,p.c1];omega,t:=T.t.trans g9,n:=T.n.trans g10,vr:=by rw [←p.val];exact p.vr},by omega,fun y e1 e2 e3 e4 e5 e6 _=>?_⟩
     ·rw [T.d,←p.ok,←p.val,g1]
     ·obtain⟨j',b,h1,h2,h3⟩:=walk y e3 e4 e5
      rw [hnow,hlk,cond_false,cond_false]at h3
      obtain⟨zz,h7⟩:=g {hpR y with at':=9,p:=P} ⟨st.me,st.sp,st.R++z.ul⟩ rfl e1 e2 e6 e4 hplan
      rw [hlk,cond_false]at h7
      rw [hfs st.sp k4]
      have hj:21+(1+j')=j+21:=by omega
      rw [←hj]
      rw [k3]at h7
      exact⟨zz,aC3 (h2.trans (Go1.one h3)) h7⟩
theorem aDm{σ τ:Type}{F:σ→Bool×σ}{G:τ→Bool×τ}(e:σ→τ)(he: ∀a b,F a=(false,b)→G (e a)=(false,e b)){j:Nat}{a z:σ}{y:τ}(h:End F j a z)(hz: ∀b,F b=(true,z)→G (e b)=(false,y)):Go1 G j (e a) y:=by
 obtain⟨i,b,rfl,h1,h2⟩:=h
 have:=(aDn e he h1).trans (Go1.one (hz b h2))
 rw [Nat.add_comm]at this
 exact this
theorem qI{t n:Int}{a:ENS×STS×MS}{d:Bool}{b:ENS×STS×MS}(h:DF t n a=(d,b)):enF t n a.1 a.2.1 a.2.2=⟨d,b.1,b.2.1,b.2.2⟩:=by
 obtain⟨h1,h2⟩:=RF h
 subst h1 h2
 rfl
def UpF(n me:Int)(s s':MS):Prop:= ∀a,2*n+5≤a→a≠2*n+5+2*me→a≠2*n+5+2*me+1→aB s'.xs a=aB s.xs a
theorem UpF.trans{n me:Int}{a b c:MS}(h:UpF n me a b)(g:UpF n me b c):UpF n me a c:=fun x h1 h2 h3=>(g x h1 h2 h3).trans (h x h1 h2 h3)
theorem QL.hl{t n u no sh kd ky a v:Int}{xs:List Int}(h:HlM t n u no sh kd ky xs)(ha:a≤2*n+4):HlM t n u no sh kd ky (aJ xs a v):=by
 have:=h.hu
 exact h.put (by unfold bM;omega) (by unfold bI;omega)
theorem EY{t n u no sh kd ky att w1:Int}{LL:List (List Nd)}{S:List STS}{s:MS}{i:Nat}{st:STS}(q:QL t n s.xs LL S)(hS:S[i]? =some st)(hz:st.sp=0)(hR:st.R=[])(hr:b9 sh kd ky=true)(hm:HlM t n u no sh kd ky s.xs)(hw1:aB s.xs (aL t n u)=w1)(ha1:aA w1 0 12=att)(hs1:aA w1 49 3=1):
 ∃j LL' st' s' e b v,HlA t n u no sh kd ky att LL LL' S i st' s s' j e b v∧(j:Int)≤6*n+60∧
  (∀lim:Int,0≤lim→ ∃z,End (hpG t n) j ((hpNF t n u no lim st).1,st,s) (z,st',s'))∧
  ((e=1∧b=false∧v=0∧LL'=LL∧bG kd=true∧ ∀x,1≤x∧x≤n→dM n s.xs x=true)∨
    (e=0∧(b,v)=(G3 sh kd ky (uk (dT LL sh ky))).1∧(bG kd=true→ ∃x,(1≤x∧x≤n)∧dM n s.xs x=false)∧ ∃L',LL'=LL.set (cH sh ky).toNat L'∧uk L'=(G3 sh kd ky (uk (dT LL sh ky))).2)):=by
 have hn:=q.hn
 have ht:=q.ht
 have hme:=q.me i st hS
 have hun:=hm.hu
 let sK:MS:=((s.loadd (aL t n u)).loadd (bM t n u)).loadd (bI t n u)
 have two: ∀lim:Int,Go1 (hpG t n) 3 ((hpNF t n u no lim st).1,st,s) (bif bG kd&&ieq st.sp 0 then(({hpR (hpNF t n u no lim st).1 with rounds:=1,at':=4,found:=w1,sh:=sh,kd:=kd,ky:=ky} :HPS),st,sK)else(({hpR (hpNF t n u no lim st).1 with rounds:=1,at':=5,found:=w1,sh:=sh,kd:=kd,ky:=ky,fn:=qM t n st.me (cH sh ky) (dK sh kd ky) lim} :HPS),st,sK)):=by
  intro lim
  have g:=NU (t:=t) (n:=n) (x:=(hpNF t n u no lim st).1) (st:=st) (s:=s) rfl hm.tick (by show i9 (aA (aB s.xs (aL t n u)) 49 3)=true;rw [hw1,hs1];rfl)
  have e:=HR (t:=t) (n:=n) (x:= {hpR (hpNF t n u no lim st).1 with rounds:=W (0+1),at':=2,found:=aB s.xs (aL t n u) }) (st:=st) (s:=(s.loadd (aL t n u)).loadd (bM t n u)) (sh:=sh) (kd:=kd) (ky:=ky) rfl hm.task
  have e:hpF t n _ _ _=bif !ieq (aA (aB s.xs (aL t n u)) 49 3) 1 then _ else _:=e
  rw [hw1,hs1,bJ,Bool.not_true,cond_false]at e
  have g:Go1 (hpG t n) 2 _ ({hpR (hpNF t n u no lim st).1 with rounds:=W (0+1),at':=2,found:=aB s.xs (aL t n u) },st,(s.loadd (aL t n u)).loadd (bM t n u)):=g
  rw [hw1]at g
  refine g.trans (Go1.one ?_)
  unfold hpG
  dsimp only
  rw [e]
  cases bG kd&&ieq st.sp 0<;>rfl
 cases hle:(bG kd&&ieq st.sp 0)with
 | false=>
   have hlk:bG kd=false:=by
    rw [hz,bJ,Bool.and_true]at hle;exact hle
   simp only [hle,cond_false]at two
   obtain⟨j,s',A,hj,g⟩:=HO (s:=sK) (w1:=w1) q hS hr (fun h=>by rw [hlk]at h;cases h) hm hw1 ha1
   obtain⟨f1,f2,f3⟩:=x9 sh kd ky st.sp (dT LL sh ky)
   refine⟨j+3,_,_,s',0,_,_,{q:=A.q,d:=A.d,hm:=A.hm,c:=by rw [A.c];show s.c+1+1+1+(j:Int)=_;omega,t:=A.t,n:=A.n,vr:=A.vr},by omega,fun lim hlim=>?_,.inr ⟨rfl,Prod.ext f1 f2,(fun h=>by rw [hlk]at h;cases h),_,rfl,f3⟩⟩
   obtain⟨z,h⟩:=g {hpR (hpNF t n u no lim st).1 with rounds:=1,at':=5,found:=w1,sh:=sh,kd:=kd,ky:=ky} rfl rfl rfl rfl rfl rfl hlim
   exact⟨z,aC3 (two lim) h⟩
 | true=>
   have hlk:bG kd=true:=(Bool.and_eq_true_iff.1 hle).1
   simp only [hle,cond_true]at two
   by_cases hfree: ∃b,(1≤b∧b≤n)∧dM n s.xs b=false
   ·obtain⟨b0,hb0,hf0⟩:=hfree
    obtain⟨j2,b,z2,s2,e2,g2,g3,g4,g5,g6,g7,g8,g9⟩:=MP (t:=t) (n:=n) (e:=cF) (st:=st) (s:=sK) rfl hz (show MC t n sK from⟨q.ht,q.hn,q.len,q.okw⟩) hb0 hf0
    have q2:=q.take hS hz g2 g3
    have hS2:(S.set i {st with sp:=b})[i]? =some {st with sp:=b} :=List.getElem?_set_self (pQ hS)
    have q2:QL t n s2.xs LL (S.set i {st with sp:=b}):=by rw [g5];exact q2
    have hm2:HlM t n u no sh kd ky s2.xs:=by rw [g5];exact QL.hl hm (by omega)
    have hw2:aB s2.xs (aL t n u)=w1:=by rw [g5,bD (by unfold aL;omega)];exact hw1
    obtain⟨j,s',A,hj,g⟩:=HO (s:=s2) (w1:=w1) q2 hS2 hr (fun _=>by show b≠0;omega) hm2 hw2 ha1
    obtain⟨f1,f2,f3⟩:=x9 sh kd ky b (dT LL sh ky)
    have Aq:=A.q
    rw [List.set_set]at Aq
    have g6':s2.c=s.c+3+j2:=by rw [g6];show s.c+1+1+1+(j2:Int)=_;omega
    refine⟨j+(j2+3),_,_,s',0,_,_,{q:=Aq,d:=A.d,hm:=A.hm,c:=by rw [A.c,g6'];omega,t:=A.t.trans g7,n:=A.n.trans g8,vr:=A.vr},by omega,fun lim hlim=>?_,.inr ⟨rfl,Prod.ext f1 f2,fun _=>⟨b0,hb0,hf0⟩,_,rfl,f3⟩⟩
    obtain⟨z,h⟩:=g {hpR (hpNF t n u no lim st).1 with rounds:=1,at':=4,found:=w1,sh:=sh,kd:=kd,ky:=ky} rfl rfl rfl rfl rfl rfl hlim
    refine⟨z,aC3 ((two lim).trans ?_) h⟩
    refine aDm (F:=DF t n) (fun p:ENS×STS×MS=>(({hpR (hpNF t n u no lim st).1 with rounds:=1,at':=4,found:=w1,sh:=sh,kd:=kd,ky:=ky,en:=p.1} :HPS),p.2.1,p.2.2)) (fun a c hac=>gA (UO (x:= {hpR (hpNF t n u no lim st).1 with rounds:=1,at':=4,found:=w1,sh:=sh,kd:=kd,ky:=ky,en:=a.1}) rfl (qI hac))) e2 (fun c hc=>?_)
    have e:=NT (t:=t) (n:=n) (x:= {hpR (hpNF t n u no lim st).1 with rounds:=1,at':=4,found:=w1,sh:=sh,kd:=kd,ky:=ky,en:=c.1}) (st:=c.2.1) (s:=c.2.2) rfl (qI hc)
    unfold hpG
    rw [e,show z2.sh=false from g4]
    rfl
   ·have hall: ∀x,1≤x∧x≤n→dM n s.xs x=true:=by
     intro x hx
     cases z:dM n s.xs x with
     | true=>rfl
     | false=>exact absurd ⟨x,hx,z⟩ hfree
    obtain⟨j2,z2,s2,e2,g1,g3,g4,g5,g6,g7⟩:=IY (t:=t) (n:=n) (e:=cF) (st:=st) (s:=sK) rfl hz hn.1 hall hR
    have g3':s2.xs=s.xs:=g3
    have hm2:HlM t n u no sh kd ky s2.xs:=by rw [g3'];exact hm
    have hw2:aB s2.xs (aL t n u)=w1:=by rw [g3'];exact hw1
    have hat:0≤att∧att<4096:=by
     have:=fX (x:=w1) (a:=0) (w:=12)
     rw [ha1]at this;simpa using this
    obtain⟨s',T,g⟩:=CE (c:=4) (b:=false) (v:=0) ha1 hm2 hw2 (L9 hat (by decide) (bif ieq 4 4 then 1 else 0) (by decide))
    have q2:QL t n s2.xs LL S:=by rw [g3'];exact q
    have qr:=q2.out (ys:=s'.xs) T.len (T.okw q2.okw) (fun a ha=>by
     by_cases h1:a=1
     ·rw [h1];exact T.a
     ·exact T.o a (by unfold aL;omega) h1)
    have g4':s2.c=s.c+3+j2:=by rw [g4];show s.c+1+1+1+(j2:Int)=_;omega
    refine⟨2+(j2+3),LL,st,s',1,false,0,{q:=by rw [C4 hS];exact qr,d:=T.d,hm:=T.hm hm2 ⟨by decide,by omega⟩,c:=by rw [T.c,g4'];omega,t:=T.t.trans g5,n:=T.n.trans g6,vr:=by decide},by omega,fun lim hlim=>?_,.inl ⟨rfl,rfl,rfl,rfl,hlk,hall⟩⟩
    obtain⟨z,h⟩:=g {hpR (hpNF t n u no lim st).1 with rounds:=1,at':=6,found:=w1,sh:=sh,kd:=kd,ky:=ky,p:=⟨true,4,false,0,0,0,0,false,0⟩ } st rfl rfl rfl ⟨rfl,rfl,rfl⟩
    refine⟨z,aC3 ((two lim).trans ?_) h⟩
    refine aDm (F:=DF t n) (fun p:ENS×STS×MS=>(({hpR (hpNF t n u no lim st).1 with rounds:=1,at':=4,found:=w1,sh:=sh,kd:=kd,ky:=ky,en:=p.1} :HPS),p.2.1,p.2.2)) (fun a c hac=>gA (UO (x:= {hpR (hpNF t n u no lim st).1 with rounds:=1,at':=4,found:=w1,sh:=sh,kd:=kd,ky:=ky,en:=a.1}) rfl (qI hac))) e2 (fun c hc=>?_)
    have e:=NT (t:=t) (n:=n) (x:= {hpR (hpNF t n u no lim st).1 with rounds:=1,at':=4,found:=w1,sh:=sh,kd:=kd,ky:=ky,en:=c.1}) (st:=c.2.1) (s:=c.2.2) rfl (qI hc)
    unfold hpG
    rw [e,show z2.sh=true from g1]
    rfl
def UM(LL:List (List Nd)):Prop:= ∀L∈LL,∀b∈L,b.m=false
theorem UM.set{LL:List (List Nd)}(h:UM LL){i:Nat}{L:List Nd}(hL: ∀b∈L,b.m=false):UM (LL.set i L):=by
 intro M hM
 rcases List.mem_or_eq_of_mem_set hM with e | e
 ·exact h M e
 ·rw [e];exact hL
theorem UM.at{LL:List (List Nd)}(h:UM LL){i:Nat}{L:List Nd}(hL:LL[i]? =some L): ∀b∈L,b.m=false:=h L (List.mem_of_getElem? hL)
abbrev cntA(t n:Int):Int:=2*n+5+2*t+3*t
theorem aBf(t n u b:Int)(s:MS)(f:Int):anF t n ⟨0,u,0,b,false,f⟩ s=⟨false,⟨0,u,1,b,false,f⟩,s.stored (bI t n u) b⟩:=by
 unfold anF LR
 rfl
theorem aBg(t n u b:Int)(s:MS)(f:Int):anF t n ⟨0,u,1,b,false,f⟩ s=⟨false,⟨WU (aB s.xs (cntA t n)+1),u,2,b,false,f⟩,s.added (cntA t n) 1⟩:=by
 unfold anF LR
 rfl
theorem aBh(t n u b no:Int)(s:MS)(f:Int):anF t n ⟨no,u,2,b,false,f⟩ s=⟨false,⟨no,u,3,b,false,f⟩,s.stored (bM t n u) no⟩:=by
 unfold anF LR
 rfl
theorem aBi(t n u b no:Int)(s:MS)(f:Int):anF t n ⟨no,u,3,b,false,f⟩ s=⟨false,⟨no,u,4,b,false,aB s.xs (aL t n u)⟩,s.loadd (aL t n u)⟩:=by
 unfold anF LR
 rfl
theorem aBj(t n u b no f:Int)(s:MS)(hd:dOk (eU (aA f 0 12)) 0 0 0 1 0=true):anF t n ⟨no,u,4,b,false,f⟩ s=⟨true,⟨no,u,5,b,false,f⟩,s.stored (aL t n u) (bA (eU (aA f 0 12)) 0 0 0 false 1 0)⟩:=by
 unfold anF LR
 show(u3 t n ⟨no,u,4,b,false,f⟩ s).val =_
 unfold u3
 simp only [Tr.val,cond_false,hd,cond_true]
 rfl
theorem aAT{sh kd ky:Int}(hr:b9 sh kd ky=true):TW sh kd ky (tskV sh kd ky)∧(0≤tskV sh kd ky∧tskV sh kd ky≤18446744073709551615):=by
 have hk:=eT.1 hr
 have e1:aA (tskV sh kd ky) 0 3=sh:=by
  unfold tskV aA
  simp only [Int.reduceToNat,Int.reducePow]
  omega
 have e2:aA (tskV sh kd ky) 3 3=kd:=by
  unfold tskV aA
  simp only [Int.reduceToNat,Int.reducePow]
  omega
 have e3:aA (tskV sh kd ky) 6 10=ky:=by
  unfold tskV aA
  simp only [Int.reduceToNat,Int.reducePow]
  omega
 refine⟨⟨?_,e1,e2,e3⟩,?_⟩
 ·unfold hZ
  rw [e1,e2,e3,hr,bP,decide_eq_true (by unfold tskV;omega)];rfl
 ·unfold tskV;omega
structure AnA (t n u sh kd ky:Int) (s s':MS):Prop where
 hm:HlM t n u 1 sh kd ky s'.xs
 d:aB s'.xs (aL t n u)=bA 1 0 0 0 false 1 0
 lo: ∀a,a<2*n+5+2*t→aB s'.xs a=aB s.xs a
 len:s'.xs.length=s.xs.length
 okw:okW s.xs→okW s'.xs
 c:s'.c=s.c+5
 t:s'.t=s.t
 n:s'.n=s.n
theorem LS{t n u sh kd ky:Int}{s:MS}(hr:b9 sh kd ky=true)(hu:0≤u∧u<t)(ht:t≤30)(hn:1≤n∧n≤500)(len:(s.xs.length:Int)=2*n+5*t+6)(hw:okW s.xs)(hc:0≤s.c∧s.c≤800000)(z1:aB s.xs (cntA t n)=0)(z2:aB s.xs (aL t n u)=0):
 gG t n 9 (anNF t n u sh kd ky) s∧ ∃y s',dP t n 9 (anNF t n u sh kd ky) s=(5,true,y,s')∧y.no=1∧AnA t n u sh kd ky s s':=by
 obtain⟨w1,w2⟩:=aAT hr
 have e0:anNF t n u sh kd ky=⟨0,u,0,tskV sh kd ky,false,0⟩:=by
  unfold anNF QH
  simp only [Tr.val,hr,cond_true]
  rfl
 rw [e0]
 generalize hb:tskV sh kd ky=b at*
 have hkd:aL t n u≠bI t n u:=by unfold aL bI;omega
 have hct:cntA t n≠bI t n u:=by unfold cntA bI;omega
 have hdc:aL t n u≠cntA t n:=by unfold cntA aL;omega
 have hdt:aL t n u≠bM t n u:=by unfold aL bM;omega
 have htk:bM t n u≠bI t n u:=by unfold bI bM;omega
 have htc:bI t n u≠cntA t n:=by unfold bI cntA;omega
 have iK:0≤bI t n u∧bI t n u<s.xs.length:=by unfold bI;omega
 have iT:0≤bM t n u∧bM t n u<s.xs.length:=by unfold bM;omega
 have iD:0≤aL t n u∧aL t n u<s.xs.length:=by unfold aL;omega
 let s1:MS:=s.stored (bI t n u) b
 let s2:MS:=s1.added (cntA t n) 1
 let s3:MS:=s2.stored (bM t n u) 1
 let s4:MS:=s3.loadd (aL t n u)
 let s5:MS:=s4.stored (aL t n u) (bA 1 0 0 0 false 1 0)
 have p1:aB s1.xs (cntA t n)=0:=by show aB (aJ s.xs (bI t n u) b) _=0;rw [bD hct];exact z1
 have x2:s2.xs=aJ (aJ s.xs (bI t n u) b) (cntA t n) 1:=by
  show aJ s1.xs (cntA t n) (IntKind.wrap .u64 (aB s1.xs (cntA t n)+1))=_
  rw [p1];rfl
 have x3:s3.xs=aJ (aJ (aJ s.xs (bI t n u) b) (cntA t n) 1) (bM t n u) 1:=by show aJ s2.xs _ _=_;rw [x2]
 have hD4:aB s4.xs (aL t n u)=0:=by
  show aB s3.xs _=0
  rw [x3,bD hdt,bD hdc,bD hkd];exact z2
 have x5:s5.xs=aJ (aJ (aJ (aJ s.xs (bI t n u) b) (cntA t n) 1) (bM t n u) 1) (aL t n u) (bA 1 0 0 0 false 1 0):=by show aJ s3.xs _ _=_;rw [x3]
 have hdk:dOk (eU (aA 0 0 12)) 0 0 0 1 0=true:=by decide
 have f0:=aBf t n u b s 0
 have f1:=aBg t n u b s1 0
 rw [p1]at f1
 have f1:anF t n ⟨0,u,1,b,false,0⟩ s1=⟨false,⟨1,u,2,b,false,0⟩,s2⟩:=f1
 have f2:anF t n ⟨1,u,2,b,false,0⟩ s2=⟨false,⟨1,u,3,b,false,0⟩,s3⟩:=aBh t n u b 1 s2 0
 have f3:=aBi t n u b 1 s3 0
 have f3:anF t n ⟨1,u,3,b,false,0⟩ s3=⟨false,⟨1,u,4,b,false,aB s4.xs (aL t n u)⟩,s4⟩:=f3
 rw [hD4]at f3
 have f4:anF t n ⟨1,u,4,b,false,0⟩ s4=⟨true,⟨1,u,5,b,false,0⟩,s5⟩:=aBj t n u b 1 0 s4 hdk
 have r1:0≤(1:Int)∧(1:Int)≤18446744073709551615:=by decide
 have o1:okW s1.xs:=dU hw w2
 have o2:okW s2.xs:=by rw [x2];exact dU o1 r1
 have o3:okW s3.xs:=by rw [x3];rw [x2]at o2;exact dU o2 r1
 have bnd: ∀(q:MS) (k:Int),q.c=s.c+k→0≤k∧k≤10→okW q.xs→tA t n q:=fun q k h1 h2 h3=>⟨⟨by omega,by omega⟩,⟨hn.1,by omega⟩,⟨by omega,by omega⟩,h3⟩
 have aw: ∀(no at' f:Int),(at'=0∨at'=1∨at'=2∨at'=3∨at'=4)→0≤no∧no≤1→anW t ⟨no,u,at',b,false,f⟩:=fun no a f h1 h2=>⟨h1,⟨hu.1,by show u≤1000;omega⟩,⟨w2.1,w2.2⟩,⟨h2.1,by show no≤18446744073709551615;omega⟩⟩
 constructor
 ·rw [jN,f0]
  refine⟨u4 (bnd s 0 (by omega) (by decide) hw) (aw 0 0 0 (.inl rfl) (by decide)),fun _=>?_⟩
  show gG t n 8 ⟨0,u,1,b,false,0⟩ s1
  rw [jN,f1]
  refine⟨u4 (bnd s1 1 rfl (by decide) o1) (aw 0 1 0 (by omega) (by decide)),fun _=>?_⟩
  show gG t n 7 ⟨1,u,2,b,false,0⟩ s2
  rw [jN,f2]
  refine⟨u4 (bnd s2 2 (by show s.c+1+1=_;omega) (by decide) o2) (aw 1 2 0 (by omega) (by decide)),fun _=>?_⟩
  show gG t n 6 ⟨1,u,3,b,false,0⟩ s3
  rw [jN,f3]
  refine⟨u4 (bnd s3 3 (by show s.c+1+1+1=_;omega) (by decide) o3) (aw 1 3 0 (by omega) (by decide)),fun _=>?_⟩
  show gG t n 5 ⟨1,u,4,b,false,0⟩ s4
  rw [jN,f4]
  exact⟨u4 (bnd s4 4 (by show s.c+1+1+1+1=_;omega) (by decide) o3) (aw 1 4 0 (by omega) (by decide)),fun h=>by cases h⟩
 ·refine⟨⟨1,u,5,b,false,0⟩,s5,?_,rfl,{hm:=⟨?_,?_,⟨hu.1,hu.2,by omega⟩,hn,by rw [x5];simp only [bR];exact len⟩,d:=by rw [x5,dF (by simp only [bR];exact iD)],lo:=fun a ha=>?_,len:=by rw [x5];simp only [bR],okw:=fun _=>by rw [x5];rw [x3]at o3;exact dU o3 (m9 (by decide)),c:=by show s.c+1+1+1+1+1=_;omega,t:=rfl,n:=rfl}⟩
  ·rw [oG,f0]
   show((dP t n 8 ⟨0,u,1,b,false,0⟩ s1).1+1,(dP t n 8 ⟨0,u,1,b,false,0⟩ s1).2)=_
   rw [oG,f1]
   show((dP t n 7 ⟨1,u,2,b,false,0⟩ s2).1+1+1,(dP t n 7 ⟨1,u,2,b,false,0⟩ s2).2)=_
   rw [oG,f2]
   show((dP t n 6 ⟨1,u,3,b,false,0⟩ s3).1+1+1+1,(dP t n 6 ⟨1,u,3,b,false,0⟩ s3).2)=_
   rw [oG,f3]
   show((dP t n 5 ⟨1,u,4,b,false,0⟩ s4).1+1+1+1+1,(dP t n 5 ⟨1,u,4,b,false,0⟩ s4).2)=_
   rw [oG,f4]
   rfl
  ·rw [x5,bD (Ne.symm hdt),dF (by simp only [bR];exact iT)]
  ·rw [x5,bD (Ne.symm hkd),bD (Ne.symm htk),bD htc,dF iK];exact w1
  ·rw [x5,bD (by unfold aL;omega),bD (by unfold bM;omega),bD (by unfold cntA;omega),bD (by unfold bI;omega)]
theorem HL{t n:Int}{a:HPS×STS×MS}{d:Bool}{b:HPS×STS×MS}(h:hpG t n a=(d,b)):(hpF t n a.1 a.2.1 a.2.2).d =d∧((hpF t n a.1 a.2.1 a.2.2).x,(hpF t n a.1 a.2.1 a.2.2).st,(hpF t n a.1 a.2.1 a.2.2).s)=b:=by
 unfold hpG at h
 rw [pI']at h
 exact h
theorem yE{t n:Int}{z:HPS×STS×MS} : ∀(i:Nat) (a c:HPS×STS×MS) (b:Int) (N:Nat),Go1 (hpG t n) i a c→hpG t n c=(true,z)→i+1≤N→tA t n a.2.2→a.2.2.c+i+1≤900000→ZL t n b a.2.1 a.1→stW b a.2.1→b+i+1≤900000→
 mF t n N a.1 a.2.1 a.2.2∧dA t n N a.1 a.2.1 a.2.2=(i+1,true,z)
 | 0,a,c,b,N+1,h,hz,hN,hb,hc,hx,hst,hbb=>by
   cases h
   obtain⟨h1,h2⟩:=HL hz
   have ok:=NV hb hx hst (by omega)
   refine⟨⟨ok,fun q=>by rw [h1]at q;cases q⟩,?_⟩
   rw [z4,h1,cond_true,←h2]
 | i+1,a,c,b,N+1,h,hz,hN,hb,hc,hx,hst,hbb=>by
   cases h with
   | cons e g=>
     obtain⟨h1,h2⟩:=HL e
     have ok:=NV hb hx hst (by omega)
     have wv:=XT hb hx hst (by omega)
     have hb':=wv.a.bnd hb (by omega)
     have ih:=yE i _ c (b+1) N g hz (by omega) (by rw [←h2];exact hb') (by rw [←h2];show(hpF t n a.1 a.2.1 a.2.2).s.c +_+_≤_;rw [wv.a.c];omega) (by rw [←h2];exact wv.w h1) (by rw [←h2];exact wv.st) (by omega)
     rw [←h2]at ih
     refine⟨⟨ok,fun _=>ih.1⟩,?_⟩
     rw [z4,h1,cond_false,ih.2]
 | i,a,c,b,0,h,hz,hN,hb,hc,hx,hst,hbb=>by omega
theorem UT{n:Int}{xs:List Int} : ∀(L:List Nd) (a:Int) (k:Nat) (out:List Int),ch n xs a L→(L.map Nd.a).Nodup →(∀b∈L.map Nd.a,b∉out)→L.length<k→sO xs n k (nxW (aB xs a)) out=out++L.map Nd.a
 | [],a,k+1,out,h,_,_,_=>by
   have h:nxW (aB xs a)=0:=h
   show(bif bK n (nxW (aB xs a))then _ else out)=_
   have:bK n (nxW (aB xs a))=false:=by
    rw [h];unfold bK;rw [cE];rfl
   rw [this];simp
 | b::L,a,k+1,out,h,nd,ho,hk=>by
   obtain⟨h1,h2,h3,h4,h5,h6⟩:=h
   have nd:=List.nodup_cons.1 nd
   show(bif bK n (nxW (aB xs a))then bif !hasB out (nxW (aB xs a))then sO xs n k (nxW (aB xs (nxW (aB xs a)))) (out++ [nxW (aB xs a)])else out else out)=_
   rw [h1,pW.2 h2]
   have hb:hasB out b.a=false:=by
    cases q:hasB out b.a with
    | false=>rfl
    | true=>exact absurd (gY.1 q) (ho b.a (by simp))
   rw [hb]
   simp only [Bool.not_false,cond_true]
   rw [UT L b.a k (out++ [b.a]) h6 nd.2 (fun c hc hh=>?_) (by simpa using hk)]
   ·simp
   ·rcases List.mem_append.1 hh with e | e
    ·exact ho c (by rw [List.map_cons];exact List.mem_cons_of_mem _ hc) e
    ·rw [List.mem_singleton.1 e]at hc;exact nd.1 hc
theorem OK{t n:Int}{xs:List Int}{LL:List (List Nd)}{S:List STS}(q:QL t n xs LL S){h:Nat}{L:List Nd}(hL:LL[h]? =some L):ndF xs n h=L.map Nd.a:=by
 obtain⟨d1,d2,_⟩:=jH q hL
 have hn:=q.hn
 have:=kF (by omega) d1 d2
 rw [List.length_map]at this
 unfold ndF
 have:=UT L (n+1+h) (n.toNat+1) [] (q.hd h L hL).1 d1 (fun _ _ h=>by cases h) (by omega)
 simpa using this
theorem CI{n:Int}{xs:List Int} : ∀(L:List Nd) (a:Int),ch n xs a L→kyL xs (L.map Nd.a)=uk L
 | [],a,_=>rfl
 | b::L,a,h=>by
   obtain⟨h1,h2,h3,h4,h5,h6⟩:=h
   have ih:=CI L b.a h6
   have h4:ieq (aA (aB xs b.a) 19 1) 1=b.m:=h4
   have h3:aA (aB xs b.a) 0 10=b.k:=h3
   rw [uB,←ih]
   unfold kyL
   rw [List.map_cons,List.filter_cons,h4]
   cases b.m
   ·simp [h3]
   ·simp
theorem uK{t n:Int}{xs:List Int}{LL:List (List Nd)}{S:List STS}(q:QL t n xs LL S){h:Nat}{L:List Nd}(hL:LL[h]? =some L):keyF xs n h=uk L:=by
 unfold keyF
 rw [OK q hL]
 exact CI L _ (q.hd h L hL).1
theorem aBb{x:Int}(h:0≤x∧x≤1000000):W x=x:=cG ⟨by omega,by omega⟩
theorem L5: ∀(ks:List Int) (m:List (Int×Int)),ks.Nodup→(∀k∈ks,mget m k=none)→(∀k v,mget m k=some v→v=1)→ ∀k,mget (gH ks m) k=if k∈ks then some 1 else mget m k
 | [],m,_,_,_,k=>by simp [gH]
 | a::ks,m,hn,h0,h1,k=>by
   have hn:=List.nodup_cons.1 hn
   have ha:=h0 a (List.mem_cons_self ..)
   have hv:W ((mget m a).getD 0+1)=1:=by rw [ha];exact aBb ⟨by decide,by decide⟩
   show mget (gH ks (dO m a (W ((mget m a).getD 0+1)))) k=_
   rw [hv]
   rw [L5 ks (dO m a 1) hn.2 (fun b hb=>by
    rw [oP,if_neg (by rintro rfl;exact hn.1 hb)];exact h0 b (List.mem_cons_of_mem _ hb)) (fun b v hv=>by
    rw [oP]at hv
    split at hv
    ·cases hv;rfl
    ·exact h1 b v hv) k,oP]
   by_cases e:k∈ks
   ·rw [if_pos e,if_pos (List.mem_cons_of_mem _ e)]
   ·rw [if_neg e]
    by_cases e2:k=a
    ·rw [if_pos e2,if_pos (by rw [e2];exact List.mem_cons_self ..)]
    ·rw [if_neg e2,if_neg (fun h=>(List.mem_cons.1 h).elim e2 e)]
theorem zL(a b:List Int): ∀m,gH (a++b) m=gH b (gH a m):=by
 induction a with
 | nil=>intro m;rfl
 | cons x a ih=>intro m;exact ih _
theorem O6{m:List (Int×Int)}{p:Int→Bool}(hm: ∀k,mget m k=if p k=true then some 1 else none): ∀n,eZ m n=((List.range n).map fun i:Nat=>(i:Int)).filter p
 | 0=>rfl
 | n+1=>by
   show eZ m n++_=_
   rw [O6 hm n,List.range_succ,List.map_append,List.filter_append,hm]
   congr 1
   cases q:p (n:Int)with
   | true=>simp [q]
   | false=>simp [q]
theorem YT{m:List (Int×Int)}{p:Int→Bool}{N:Nat}(hm: ∀k,mget m k=if p k=true then some 1 else none)(hN:N=1000+24)(hout: ∀k:Int,999<k→p k=false):eZ m N=((List.range 1000).map fun i:Nat=>(i:Int)).filter p:=by
 subst hN
 have e24:List.range (1000+24)=List.range 1000++(List.range 24).map (1000+ ·):=List.range_add
 rw [O6 hm (1000+24),e24,List.map_append,List.filter_append]
 have t1:(((List.range 24).map (1000+ ·)).map fun i:Nat=>(i:Int)).filter p=[]:=by
  refine List.filter_eq_nil_iff.2 (fun k hk=>?_)
  obtain⟨i,hi,rfl⟩:=List.mem_map.1 hk
  obtain⟨j,hj,rfl⟩:=List.mem_map.1 hi
  rw [hout _ (by omega)];decide
 rw [t1,List.append_nil]
theorem l0{u:List Int}(h:Srt u):u.Nodup:=by
 rw [List.nodup_iff_pairwise_ne]
 exact List.Pairwise.imp (fun {a b} h=>by omega) h
theorem NL{LL:List (List Nd)}(h:LL.length=4): ∃A B C D,LL=[A,B,C,D]:=by
 match LL,h with
 | [A,B,C,D],_=>exact⟨A,B,C,D,rfl⟩
theorem CG{t n:Int}{xs:List Int}{LL:List (List Nd)}{S:List STS}{sh:Int}{f g:Nat→Int}{m:Nat}(q:QL t n xs LL S)(r:Rp sh LL f g m):cN xs n sh=aT sh f g m:=by
 obtain⟨A,B,C,D,rfl⟩:=NL q.four
 have k0:=uK q (h:=0) (L:=A) rfl
 have k1:=uK q (h:=1) (L:=B) rfl
 have k2:=uK q (h:=2) (L:=C) rfl
 have k3:=uK q (h:=3) (L:=D) rfl
 unfold cN
 rcases r with⟨hs,r⟩ | ⟨hs,r⟩
 ·have hl:ilt 2 sh=false:=by rw [bP];exact decide_eq_false (by omega)
  rw [hl,cond_false]
  have e:cntM xs n=gH (uk A++(uk B++(uk C++uk D))) []:=by
   unfold cntM
   rw [show keyF xs n 3=uk D from k3,show keyF xs n 2=uk C from k2,show keyF xs n 1=uk B from k1,show keyF xs n 0=uk A from k0,zL,zL,zL]
  have rA:=r.rng 0 A rfl
  have rB:=r.rng 1 B rfl
  have rC:=r.rng 2 C rfl
  have rD:=r.rng 3 D rfl
  have nd:(uk A++(uk B++(uk C++uk D))).Nodup :=by
   refine List.nodup_append.2 ⟨l0 (r.srt 0 A rfl),List.nodup_append.2 ⟨l0 (r.srt 1 B rfl),List.nodup_append.2 ⟨l0 (r.srt 2 C rfl),l0 (r.srt 3 D rfl),?_⟩,?_⟩,?_⟩
   ·rintro a ha b hb rfl
    have:=(rC a ha).2;have:=(rD a hb).2;omega
   ·rintro a ha b hb rfl
    have h1:=(rB a ha).2
    rcases List.mem_append.1 hb with h | h
    ·have:=(rC a h).2;omega
    ·have:=(rD a h).2;omega
   ·rintro a ha b hb rfl
    have h1:=(rA a ha).2
    rcases List.mem_append.1 hb with h | h
    ·have:=(rB a h).2;omega
    ·rcases List.mem_append.1 h with h | h
     ·have:=(rC a h).2;omega
     ·have:=(rD a h).2;omega
  have hm: ∀k,mget (cntM xs n) k=if decide (k∈uk A++(uk B++(uk C++uk D)))=true then some 1 else none:=by
   intro k
   rw [e,L5 _ [] nd (fun _ _=>rfl) (fun _ _ h=>by cases h) k]
   simp only [dT']
   rfl
  have hin: ∀k:Int,0≤k→k≤999→(decide (k∈uk A++(uk B++(uk C++uk D))))=inF f g k m:=by
   intro k h0 h9
   have hb:=fV sh k
   have key:k∈uk A++(uk B++(uk C++uk D))↔inF f g k m=true:=by
    simp only [List.mem_append]
    have hc:(cH sh k).toNat =0∨(cH sh k).toNat =1∨(cH sh k).toNat =2∨(cH sh k).toNat =3:=by omega
    constructor
    ·rintro(h | h | h | h)
     ·exact(r.mem 0 A rfl k h0 h9 (rA k h).2).1 h
     ·exact(r.mem 1 B rfl k h0 h9 (rB k h).2).1 h
     ·exact(r.mem 2 C rfl k h0 h9 (rC k h).2).1 h
     ·exact(r.mem 3 D rfl k h0 h9 (rD k h).2).1 h
    ·intro h
     rcases hc with e | e | e | e
     ·exact .inl ((r.mem 0 A rfl k h0 h9 e).2 h)
     ·exact .inr (.inl ((r.mem 1 B rfl k h0 h9 e).2 h))
     ·exact .inr (.inr (.inl ((r.mem 2 C rfl k h0 h9 e).2 h)))
     ·exact .inr (.inr (.inr ((r.mem 3 D rfl k h0 h9 e).2 h)))
   cases z:inF f g k m with
   | true=>exact decide_eq_true (key.2 z)
   | false=>exact decide_eq_false (fun h=>by rw [key.1 h]at z;cases z)
  have hout: ∀k:Int,999<k→decide (k∈uk A++(uk B++(uk C++uk D)))=false:=by
   intro k hk
   refine decide_eq_false (fun h=>?_)
   simp only [List.mem_append]at h
   rcases h with h | h | h | h
   ·have:=(rA k h).1;omega
   ·have:=(rB k h).1;omega
   ·have:=(rC k h).1;omega
   ·have:=(rD k h).1;omega
  rw [YT hm (N:=1024) rfl hout]
  have hR:aT sh f g m=setF f g m:=by
   unfold aT
   rw [dX (show sh≠3 by omega),dX (show sh≠4 by omega),cond_false,cond_false]
  rw [hR]
  unfold setF
  refine List.filter_congr (fun k hk=>?_)
  obtain⟨i,hi,rfl⟩:=List.mem_map.1 hk
  exact hin _ (by omega) (by have:=List.mem_range.1 hi;omega)
 ·have hl:ilt 2 sh=true:=by rw [bP];exact decide_eq_true (by omega)
  rw [hl,cond_true]
  exact(show keyF xs n 0=uk A from k0).trans r.eq
def selF(sh h:Int):Int→List Int→List Nd
 | _,[]=>[]
 | i,k::ks=>bif dY sh h k then selF sh h (i+1) ks else⟨i+1,k,false⟩::selF sh h (i+1) ks
theorem nX{sh h k:Int}(i:Int)(ks:List Int)(e:dY sh h k=true):selF sh h i (k::ks)=selF sh h (i+1) ks:=by
 show(bif dY sh h k then _ else _)=_
 rw [e];rfl
theorem nY{sh h k:Int}(i:Int)(ks:List Int)(e:dY sh h k=false):selF sh h i (k::ks)=⟨i+1,k,false⟩::selF sh h (i+1) ks:=by
 show(bif dY sh h k then _ else _)=_
 rw [e];rfl
theorem AK(sh h:Int): ∀(xs:List Int) (i:Int),∀b∈selF sh h i xs,i+1≤b.a∧b.a≤i+xs.length∧b.m=false
 | [],i,b,hb=>by cases hb
 | k::ks,i,b,hb=>by
   have ih:=AK sh h ks (i+1)
   have hl:((k::ks).length :Int)=ks.length+1:=by simp
   cases e:dY sh h k with
   | true=>
     rw [nX i ks e]at hb
     obtain⟨a1,a2,a3⟩:=ih b hb
     exact⟨by omega,by omega,a3⟩
   | false=>
     rw [nY i ks e]at hb
     rcases List.mem_cons.1 hb with q | q
     ·rw [q];exact⟨Int.le_refl _,by show i+1≤_;omega,rfl⟩
     ·obtain⟨a1,a2,a3⟩:=ih b q
      exact⟨by omega,by omega,a3⟩
theorem rR(sh h:Int)(xs:List Int)(i:Int): ∀b∈(selF sh h i xs).map Nd.a,i+1≤b∧b≤i+xs.length:=by
 intro b hb
 obtain⟨c,hc,rfl⟩:=List.mem_map.1 hb
 have:=AK sh h xs i c hc
 omega
theorem sY(sh h:Int): ∀(xs:List Int) (i:Int),((selF sh h i xs).map Nd.a).Nodup
 | [],i=>List.nodup_nil
 | k::ks,i=>by
   cases e:dY sh h k with
   | true=>rw [nX i ks e];exact sY sh h ks (i+1)
   | false=>
     rw [nY i ks e,List.map_cons]
     refine List.nodup_cons.2 ⟨fun hb=>?_,sY sh h ks (i+1)⟩
     have:=rR sh h ks (i+1) _ hb
     have h2:i+1+1≤i+1:=this.1
     omega
theorem sZ(sh h:Int): ∀(xs:List Int) (i:Int),uk (selF sh h i xs)=xs.filter fun k=>!dY sh h k
 | [],i=>rfl
 | k::ks,i=>by
   cases e:dY sh h k with
   | true=>rw [nX i ks e,sZ sh h ks (i+1),List.filter_cons,e];rfl
   | false=>
     rw [nY i ks e,uB,sZ sh h ks (i+1),List.filter_cons,e];rfl
theorem oT(sh h:Int): ∀(xs:List Int) (i b:Int),b∈(selF sh h i xs).map Nd.a↔ ∃j:Nat,∃k,xs[j]? =some k∧b=i+j+1∧dY sh h k=false
 | [],i,b=>by
   constructor
   ·intro h;cases h
   ·rintro⟨j,k,h1,_⟩;simp at h1
 | k::ks,i,b=>by
   have ih:=oT sh h ks (i+1) b
   have rest:(∃j:Nat,∃q,ks[j]? =some q∧b=i+1+j+1∧dY sh h q=false)→ ∃j:Nat,∃q,(k::ks)[j]? =some q∧b=i+j+1∧dY sh h q=false:=by
    rintro⟨j,q,h1,h2,h3⟩
    exact⟨j+1,q,by simpa using h1,by omega,h3⟩
   cases e:dY sh h k with
   | true=>
     rw [nX i ks e,ih]
     refine⟨rest,?_⟩
     rintro⟨j,q,h1,h2,h3⟩
     cases j with
     | zero=>
       have:k=q:=by simpa using h1
       rw [this,h3]at e;cases e
     | succ j=>exact⟨j,q,by simpa using h1,by omega,h3⟩
   | false=>
     rw [nY i ks e,List.map_cons,List.mem_cons,ih]
     constructor
     ·rintro(h1 | h1)
      ·exact⟨0,k,rfl,by rw [h1];show i+1=i+(0:Nat)+1;omega,e⟩
      ·exact rest h1
     ·rintro⟨j,q,h1,h2,h3⟩
      cases j with
      | zero=>left;rw [h2];show i+(0:Nat)+1=i+1;omega
      | succ j=>right;exact⟨j,q,by simpa using h1,by omega,h3⟩
structure aA9 (sh h n i a ky:Int) (xs:List Int) (s s':MS):Prop where
 len:s'.xs.length=s.xs.length
 okw:okW s'.xs
 tt:s'.t=s.t
 nn:s'.n=s.n
 c:s.c≤s'.c∧s'.c≤s.c+1+2*xs.length
 ch:ch n s'.xs a (selF sh h i xs)
 ky:kyW (aB s'.xs a)=ky
 mk1:mkW (aB s'.xs a)=false
 cl:clW' (aB s'.xs a)=0
 life: ∀b∈(selF sh h i xs).map Nd.a,aB s'.xs (n+4+b)=1
 same: ∀x,x≠a→(∀b∈(selF sh h i xs).map Nd.a,x≠b∧x≠n+4+b)→aB s'.xs x=aB s.xs x
theorem zY{sh h n:Int}(hn:1≤n∧n≤500): ∀(xs:List Int) (i a ky vr:Int) (s:MS),okW s.xs→2*n+5≤(s.xs.length:Int)→0≤i→i+xs.length≤n→1≤a∧(a≤i∨n+1≤a∧a≤n+4)→0≤ky∧ky<1024→0≤vr∧vr<262144→(∀k∈xs,0≤k∧k<1024)→
 aA9 sh h n i a ky xs s (fJ sh h n xs i a ky vr s)
 | [],i,a,ky,vr,s,okw,hlen,hi,hin,ha,hk,hv,_=>by
   have ok:okF ky 0 0 vr:=⟨hk,by omega,by omega,hv⟩
   have hb:0≤a∧a<s.xs.length:=by omega
   have e:aB (s.stored a (aV ky 0 false 0 vr)).xs a=aV ky 0 false 0 vr:=dF hb
   refine {len:=bR _ _ _,okw:=dU okw (iL ok),tt:=rfl,nn:=rfl,c:=⟨?_,?_⟩,ch:=?_,ky:=?_,mk1:=?_,cl:=?_,life:=(fun b hb=>by cases hb),same:=fun x hx _=>bD hx}
   ·show s.c≤s.c+1;omega
   ·show s.c+1≤s.c+1+2*(([]:List Int).length :Int);simp
   ·show nxW (aB (s.stored a (aV ky 0 false 0 vr)).xs a)=0
    rw [e];exact qE ok
   ·show kyW (aB (s.stored a (aV ky 0 false 0 vr)).xs a)=ky
    rw [e];exact tH ok
   ·show mkW (aB (s.stored a (aV ky 0 false 0 vr)).xs a)=false
    rw [e];exact m8 ok
   ·show clW' (aB (s.stored a (aV ky 0 false 0 vr)).xs a)=0
    rw [e];exact m7 ok
 | k::ks,i,a,ky,vr,s,okw,hlen,hi,hin,ha,hk,hv,hks=>by
   have hl:((k::ks).length :Int)=ks.length+1:=by simp
   have hks2: ∀q∈ks,0≤q∧q<1024:=fun q hq=>hks q (List.mem_cons_of_mem _ hq)
   have hk2:=hks k (List.mem_cons_self ..)
   cases e:dY sh h k with
   | true=>
     have es:fJ sh h n (k::ks) i a ky vr s=fJ sh h n ks (i+1) a ky vr s:=by show cond _ _ _=_;rw [e];rfl
     have ih:=zY (sh:=sh) (h:=h) hn ks (i+1) a ky vr s okw hlen (by omega) (by omega) (by omega) hk hv hks2
     rw [es]
     have e2:=nX i ks e
     exact {len:=ih.len,okw:=ih.okw,tt:=ih.tt,nn:=ih.nn,c:=⟨ih.c.1,by have:=ih.c.2;omega⟩,ch:=by rw [e2];exact ih.ch,ky:=ih.ky,mk1:=ih.mk1,cl:=ih.cl,life:=by rw [e2];exact ih.life,same:=by rw [e2];exact ih.same}
   | false=>
     have es:fJ sh h n (k::ks) i a ky vr s=fJ sh h n ks (i+1) (i+1) k 3 ((s.stored a (aV ky (i+1) false 0 vr)).stored (n+4+(i+1)) 1):=by show cond _ _ _=_;rw [e];rfl
     have ok:okF ky (i+1) 0 vr:=⟨hk,by omega,by omega,hv⟩
     let s1:=(s.stored a (aV ky (i+1) false 0 vr)).stored (n+4+(i+1)) 1
     have hl1:s1.xs.length=s.xs.length:=(bR _ _ _).trans (bR _ _ _)
     have okw1:okW s1.xs:=dU (dU okw (iL ok)) (by omega)
     have ih:=zY (sh:=sh) (h:=h) hn ks (i+1) (i+1) k 3 s1 okw1 (by rw [hl1];exact hlen) (by omega) (by omega) (by omega) hk2 (by omega) hks2
     have hin1:0≤a∧a<s.xs.length:=by omega
     have hin2:0≤n+4+(i+1)∧n+4+(i+1)<(s.stored a (aV ky (i+1) false 0 vr)).xs.length :=by
      have:(s.stored a (aV ky (i+1) false 0 vr)).xs.length =s.xs.length:=bR _ _ _
      rw [this];omega
     have p1: ∀x,x≠a→x≠n+4+(i+1)→aB s1.xs x=aB s.xs x:=fun x h1 h2=>(bD h2).trans (bD h1)
     have pa:aB s1.xs a=aV ky (i+1) false 0 vr:=(bD (by omega)).trans (dF hin1)
     have pl:aB s1.xs (n+4+(i+1))=1:=dF hin2
     have hsel:=rR sh h ks (i+1)
     have fa:aB (fJ sh h n ks (i+1) (i+1) k 3 s1).xs a=aV ky (i+1) false 0 vr:=by
      rw [ih.same a (by omega) (fun b hb=>by have:=hsel b hb;omega)];exact pa
     have e2:=nY i ks e
     rw [es]
     refine {len:=ih.len.trans hl1,okw:=ih.okw,tt:=ih.tt,nn:=ih.nn,c:=?_,ch:=?_,ky:=?_,mk1:=?_,cl:=?_,life:=?_,same:=?_ }
     ·obtain⟨c1,c2⟩:=ih.c
      have ec:s1.c=s.c+1+1:=rfl
      rw [ec]at c1 c2
      exact⟨Int.le_trans (by omega) c1,Int.le_trans c2 (by omega)⟩
     ·rw [e2]
      refine⟨?_,?_,ih.ky,ih.mk1,ih.cl,ih.ch⟩
      ·rw [fa];exact qE ok
      ·show 1≤i+1∧i+1≤n;omega
     ·rw [fa];exact tH ok
     ·rw [fa];exact m8 ok
     ·rw [fa];exact m7 ok
     ·rw [e2]
      intro b hb
      rw [List.map_cons]at hb
      rcases List.mem_cons.1 hb with q | q
      ·have q:b=i+1:=q
       rw [q,ih.same (n+4+(i+1)) (by omega) (fun c hc=>by have:=hsel c hc;omega)]
       exact pl
      ·exact ih.life b q
     ·rw [e2]
      intro x h1 h2
      have h3:=h2 (i+1) (by rw [List.map_cons];exact List.mem_cons_self ..)
      rw [ih.same x h3.1 (fun b hb=>h2 b (by rw [List.map_cons];exact List.mem_cons_of_mem _ hb))]
      exact p1 x h1 h3.2
theorem PI{sh h h' k:Int}(h0:0≤h)(h1:0≤h')(e:dY sh h k=false)(e':dY sh h' k=false):h=h':=by
 unfold dY at e e'
 cases q:ieq sh 2 with
 | true=>
   rw [q]at e e'
   simp only [cond_true,Bool.not_eq_false',bX,beq_iff_eq]at e e'
   omega
 | false=>
   rw [q]at e e'
   simp only [cond_false,bP,dF']at e e'
   omega
theorem H9{sh h h':Int}(h0:0≤h)(h1:0≤h')(xs:List Int)(b:Int)(e:b∈(selF sh h 0 xs).map Nd.a)(e':b∈(selF sh h' 0 xs).map Nd.a):h=h':=by
 obtain⟨j,k,a1,a2,a3⟩:=(oT _ _ _ _ _).1 e
 obtain⟨j',k',b1,b2,b3⟩:=(oT _ _ _ _ _).1 e'
 have:j=j':=by omega
 subst this
 rw [a1]at b1
 cases b1
 exact PI h0 h1 a3 b3
structure FilH (sh t n:Int) (xs:List Int) (H:Nat) (s:MS):Prop where
 len:(s.xs.length:Int)=2*n+5*t+6
 okw:okW s.xs
 tt:s.t=t
 nn:s.n=n
 c:0≤s.c∧s.c≤H*(2*xs.length+1)
 hd: ∀h:Nat,h<H→ch n s.xs (n+1+h) (selF sh h 0 xs)∧mkW (aB s.xs (n+1+h))=false∧clW' (aB s.xs (n+1+h))=0
 life: ∀h:Nat,h<H→ ∀b∈(selF sh h 0 xs).map Nd.a,aB s.xs (n+4+b)=1
 zero: ∀x,(∀h:Nat,h<H→x≠n+1+h∧ ∀b∈(selF sh h 0 xs).map Nd.a,x≠b∧x≠n+4+b)→aB s.xs x=0
theorem OO(k:Nat)(a:Int):aB (List.replicate k 0) a=0:=by
 unfold aB
 split
 ·rw [gD']
  by_cases h:a.toNat<k
  ·rw [List.getElem?_replicate,if_pos h];rfl
  ·rw [List.getElem?_replicate,if_neg h];rfl
 ·rfl
theorem NB{sh t n:Int}(hn:1≤n∧n≤500)(ht:1≤t∧t≤1000)(xs:List Int):FilH sh t n xs 0 (memN t n):=by
 refine {len:=?_,okw:=?_,tt:=rfl,nn:=rfl,c:=⟨Int.le_refl 0,by simp [memN]⟩,hd:=(fun h hh=>by omega),life:=(fun h hh=>by omega),zero:=(fun x _=>OO _ _) }
 ·show((List.replicate (2*n+5*t+6).toNat (0:Int)).length :Int)=_
  rw [List.length_replicate];omega
 ·refine⟨fun x hx=>?_⟩
  have:=List.eq_of_mem_replicate hx
  omega
theorem nC{sh t n:Int}(hn:1≤n∧n≤500)(ht:1≤t∧t≤1000){xs:List Int}(hx:(xs.length:Int)≤n)(hk: ∀k∈xs,0≤k∧k<1024){H:Nat}(hH:H<4){s:MS}(f:FilH sh t n xs H s):FilH sh t n xs (H+1) (fJ sh H n xs 0 (n+1+H) 0 0 s):=by
 have flen:=f.len
 have g:=zY (sh:=sh) (h:=H) hn xs 0 (n+1+H) 0 0 s f.okw (by omega) (Int.le_refl 0) (by omega) (by omega) (by omega) (by omega) hk
 have hsel: ∀h:Nat,∀b∈(selF sh h 0 xs).map Nd.a,1≤b∧b≤n:=fun h b hb=>by have:=rR sh h xs 0 b hb;omega
 have hdis: ∀h:Nat,h<H→ ∀b∈(selF sh h 0 xs).map Nd.a,∀b'∈(selF sh H 0 xs).map Nd.a,b≠b':=by
  rintro h hh b hb b' hb' rfl
  have:=H9 (sh:=sh) (h:=h) (h':=H) (by omega) (by omega) xs b hb hb'
  omega
 refine {len:=by rw [g.len];exact flen,okw:=g.okw,tt:=g.tt.trans f.tt,nn:=g.nn.trans f.nn,c:=?_,hd:=?_,life:=?_,zero:=?_ }
 ·have c1:=f.c
  have c2:=g.c
  refine⟨by omega,?_⟩
  have e:((H+1:Nat):Int)*(2*(xs.length:Int)+1)=(H:Int)*(2*xs.length+1)+(2*xs.length+1):=by
   rw [Int.natCast_add,Int.add_mul];simp
  rw [e];omega
 ·intro h hh
  by_cases e:h=H
  ·subst e;exact⟨g.ch,g.mk1,g.cl⟩
  ·obtain⟨a1,a2,a3⟩:=f.hd h (by omega)
   have eh:aB (fJ sh H n xs 0 (n+1+H) 0 0 s).xs (n+1+h)=aB s.xs (n+1+h):=g.same _ (by omega) (fun b hb=>by have:=hsel H b hb;omega)
   refine⟨jW a1 (fun b hb=>?_),by rw [eh];exact a2,by rw [eh];exact a3⟩
   rcases List.mem_cons.1 hb with q | q
   ·rw [q];exact eh
   ·have hb2:=hsel h b q
    exact g.same b (by omega) (fun b' hb'=>⟨hdis h (by omega) b q b' hb',by have:=hsel H b' hb';omega⟩)
 ·intro h hh b hb
  by_cases e:h=H
  ·subst e;exact g.life b hb
  ·have hb2:=hsel h b hb
   rw [g.same (n+4+b) (by omega) (fun b' hb'=>by
    have:=hsel H b' hb'
    have:=hdis h (by omega) b hb b' hb'
    omega)]
   exact f.life h (by omega) b hb
 ·intro x hz
  have z:=hz H (by omega)
  rw [g.same x z.1 z.2]
  exact f.zero x (fun h hh=>hz h (by omega))
def LLf(sh:Int)(xs:List Int):List (List Nd):=[selF sh 0 0 xs,selF sh 1 0 xs,selF sh 2 0 xs,selF sh 3 0 xs]
theorem oN{sh:Int}{xs:List Int}{h:Nat}{L:List Nd}(e:(LLf sh xs)[h]? =some L):h<4∧L=selF sh h 0 xs:=by
 match h,e with
 | 0,e=>cases e;exact⟨by omega,rfl⟩
 | 1,e=>cases e;exact⟨by omega,rfl⟩
 | 2,e=>cases e;exact⟨by omega,rfl⟩
 | 3,e=>cases e;exact⟨by omega,rfl⟩
 | h+4,e=>simp [LLf]at e
theorem qX(sh:Int)(xs:List Int)(b:Int):b∈(LLf sh xs).flatMap (fun L=>L.map Nd.a)↔ ∃h:Nat,h<4∧b∈(selF sh h 0 xs).map Nd.a:=by
 unfold LLf
 simp only [List.flatMap_cons,List.flatMap_nil,List.append_nil,List.mem_append]
 constructor
 ·rintro(h | h | h | h)
  ·exact⟨0,by omega,h⟩
  ·exact⟨1,by omega,h⟩
  ·exact⟨2,by omega,h⟩
  ·exact⟨3,by omega,h⟩
 ·rintro⟨h,hh,hb⟩
  match h,hh,hb with
  | 0,_,hb=>exact .inl hb
  | 1,_,hb=>exact .inr (.inl hb)
  | 2,_,hb=>exact .inr (.inr (.inl hb))
  | 3,_,hb=>exact .inr (.inr (.inr hb))
theorem X7(sh:Int)(xs:List Int):((LLf sh xs).flatMap (fun L=>L.map Nd.a)).Nodup :=by
 unfold LLf
 simp only [List.flatMap_cons,List.flatMap_nil,List.append_nil]
 have d: ∀h h':Int,0≤h→0≤h'→h≠h'→ ∀a∈(selF sh h 0 xs).map Nd.a,∀b∈(selF sh h' 0 xs).map Nd.a,a≠b:=by
  rintro h h' h0 h1 hne a ha b hb rfl
  exact hne (H9 h0 h1 xs a ha hb)
 refine List.nodup_append.2 ⟨sY sh 0 xs 0,List.nodup_append.2 ⟨sY sh 1 xs 0,List.nodup_append.2 ⟨sY sh 2 xs 0,sY sh 3 xs 0,d 2 3 (by decide) (by decide) (by decide)⟩,?_⟩,?_⟩
 ·intro a ha b hb
  rcases List.mem_append.1 hb with h | h
  ·exact d 1 2 (by decide) (by decide) (by decide) a ha b h
  ·exact d 1 3 (by decide) (by decide) (by decide) a ha b h
 ·intro a ha b hb
  rcases List.mem_append.1 hb with h | h
  ·exact d 0 1 (by decide) (by decide) (by decide) a ha b h
  ·rcases List.mem_append.1 h with h | h
   ·exact d 0 2 (by decide) (by decide) (by decide) a ha b h
   ·exact d 0 3 (by decide) (by decide) (by decide) a ha b h
structure Fil (sh t n:Int) (xs:List Int) (S:List STS) (s:MS):Prop where
 q:QL t n s.xs (LLf sh xs) S
 um:UM (LLf sh xs)
 sz:SZ t n s.xs
 pz:PZ t n s.xs
 tt:s.t=t
 nn:s.n=n
 c:0≤s.c∧s.c≤4*(2*xs.length+1)
 fr: ∀b,(xs.length:Int)<b→b≤n→aB s.xs (n+4+b)=0
theorem RS{sh t n:Int}(hn:1≤n∧n≤500)(ht:1≤t∧t≤1000){xs:List Int}(hx:(xs.length:Int)≤n)(hk: ∀k∈xs,0≤k∧k<1024)(S:List STS)(hS: ∀st∈S,st.sp=0∧st.R=[])(me: ∀(i:Nat) (st:STS),S[i]? =some st→st.me=i∧(i:Int)<t):
 Fil sh t n xs S (bO sh t n xs):=by
 have f:=nC hn ht hx hk (by omega) (nC hn ht hx hk (by omega) (nC hn ht hx hk (by omega) (nC hn ht hx hk (by omega) (NB (sh:=sh) hn ht xs))))
 have f:FilH sh t n xs 4 (bO sh t n xs):=f
 have hsel: ∀h:Nat,∀b∈(selF sh h 0 xs).map Nd.a,1≤b∧b≤xs.length:=fun h b hb=>by have:=rR sh h xs 0 b hb;omega
 have hheld:S.flatMap (fun st=>dQ st.sp st.R)=[]:=by
  rw [List.flatMap_eq_nil_iff]
  intro st hst
  obtain⟨a,b⟩:=hS st hst
  rw [a,b];rfl
 have hall:allN (LLf sh xs) S=(LLf sh xs).flatMap (fun L=>L.map Nd.a):=by
  unfold allN;rw [hheld,List.append_nil]
 have hz0: ∀b,1≤b→b≤n→b∉allN (LLf sh xs) S→aB (bO sh t n xs).xs (n+4+b)=0:=by
  intro b h1 h2 hb
  refine f.zero _ (fun h hh=>⟨by omega,fun b' hb'=>?_⟩)
  have:=hsel h b' hb'
  refine⟨by omega,fun e=>hb ?_⟩
  have:b=b':=by omega
  rw [hall,qX]
  exact⟨h,hh,by rw [this];exact hb'⟩
 have hzz: ∀x,2*n+5≤x→aB (bO sh t n xs).xs x=0:=by
  intro x hx2
  refine f.zero _ (fun h hh=>⟨by omega,fun b' hb'=>?_⟩)
  have:=hsel h b' hb'
  omega
 refine {q:= {ht:=ht,hn:=hn,len:=f.len,okw:=f.okw,four:=rfl,hd:=?_,nd:=by rw [hall];exact X7 sh xs,rng:=?_,tk:=?_,me:=me},um:=?_,sz:=fun i h0 h1=>hzz _ (by omega),pz:=fun u h0 h1=>?_,tt:=f.tt,nn:=f.nn,c:=f.c,fr:=fun b h1 h2=>hz0 b (by omega) h2 (fun hb=>?_) }
 ·intro h L hL
  obtain⟨h4,rfl⟩:=oN hL
  exact f.hd h h4
 ·intro b hb
  rw [hall,qX]at hb
  obtain⟨h,hh,hb⟩:=hb
  have:=hsel h b hb
  omega
 ·intro b hb
  constructor
  ·intro hl
   by_cases q:b∈allN (LLf sh xs) S
   ·exact q
   ·have:=hz0 b hb.1 hb.2 q
    unfold dM at hl
    rw [this]at hl;cases hl
  ·intro hb2
   rw [hall,qX]at hb2
   obtain⟨h,hh,hb2⟩:=hb2
   unfold dM
   rw [f.life h hh b hb2];rfl
 ·intro L hL b hb
  obtain⟨h,hh⟩:=List.getElem?_of_mem hL
  obtain⟨h4,rfl⟩:=oN hh
  exact(AK sh h xs 0 b hb).2.2
 ·rw [hzz _ (by unfold aL;omega)];rfl
 ·rw [hall,qX]at hb
  obtain⟨h,hh,hb⟩:=hb
  have:=hsel h b hb
  omega
theorem UR{f g:Nat→Int}{k:Int} : ∀m,inF f g k m=true→ ∃j,j<m∧g j=k
 | 0,h=>by cases h
 | m+1,h=>by
   rw [NY]at h
   by_cases e:g m=k
   ·exact⟨m,by omega,e⟩
   ·rw [dX e]at h
    obtain⟨j,h1,h2⟩:=UR m h
    exact⟨j,by omega,h2⟩
theorem AM{f g:Nat→Int}{m:Nat}{k:Int} :k∈setF f g m↔(0≤k∧k≤999)∧inF f g k m=true:=by
 unfold setF
 rw [List.mem_filter,List.mem_map]
 constructor
 ·rintro⟨⟨i,hi,rfl⟩,h⟩
  have:=List.mem_range.1 hi
  exact⟨by omega,h⟩
 ·rintro⟨h1,h2⟩
  exact⟨⟨k.toNat,List.mem_range.2 (by omega),by omega⟩,h2⟩
theorem IA(f g:Nat→Int)(m:Nat):Srt (setF f g m):=by
 unfold setF Srt
 refine List.Pairwise.sublist List.filter_sublist ?_
 rw [List.pairwise_map]
 exact List.Pairwise.imp (fun {a b} h=>by omega) List.pairwise_lt_range
theorem TQ(f g:Nat→Int)(m:Nat):(setF f g m).length ≤m:=by
 have:=wC (setF f g m) ((List.range m).map g) (l0 (IA f g m)) (fun k hk=>by
  obtain⟨j,h1,h2⟩:=UR m (AM.1 hk).2
  exact List.mem_map.2 ⟨j,List.mem_range.2 h1,h2⟩)
 simpa using this
theorem z7{sh:Int}(hs:sh=1∨sh=2)(f g:Nat→Int)(m:Nat):aT sh f g m=setF f g m:=by
 unfold aT
 rw [dX (show sh≠3 by omega),dX (show sh≠4 by omega),cond_false,cond_false]
theorem OA{sh:Int}(hs:sh=3∨sh=4){f g:Nat→Int} : ∀m,rL sh f g m→(aT sh f g m).length ≤m∧ ∀k∈aT sh f g m,0≤k∧k≤999
 | 0,_=>by
   have:aT sh f g 0=[]:=by
    rcases hs with rfl | rfl
    ·rfl
    ·rfl
   rw [this];exact⟨Nat.le_refl _,fun k hk=>by cases hk⟩
 | m+1,h=>by
   obtain⟨h1,h2⟩:=OA hs m (fun j hj=>h j (by omega))
   have hb:v8 f m:=fun j hj=>(oM (h j (by omega)) hs).1
   obtain⟨hk,hy⟩:=oM (h m (by omega)) hs
   rcases hk with e | e
   ·rcases hs with rfl | rfl
    ·have hi:aT 3 f g (m+1)=aT 3 f g m++ [g m]:=CL hb e
     rw [hi]
     refine⟨by rw [List.length_append];simpa using h1,fun k hk=>?_⟩
     rcases List.mem_append.1 hk with z | z
     ·exact h2 k z
     ·rw [List.mem_singleton.1 z];exact hy
    ·have hi:aT 4 f g (m+1)=g m::aT 4 f g m:=CU e
     rw [hi]
     refine⟨by rw [List.length_cons];omega,fun k hk=>?_⟩
     rcases List.mem_cons.1 hk with z | z
     ·rw [z];exact hy
     ·exact h2 k z
   ·have hi:aT sh f g (m+1)=(aT sh f g m).tail :=by
     rcases hs with rfl | rfl
     ·exact yI hb e
     ·exact yR hb e
    rw [hi]
    exact⟨by rw [List.length_tail];omega,fun k hk=>h2 k (List.mem_of_mem_tail hk)⟩
theorem uJ{sh:Int}{f g:Nat→Int}{m:Nat}(hs:sh=1∨sh=2∨sh=3∨sh=4)(h:rL sh f g m):(aT sh f g m).length ≤m∧ ∀k∈aT sh f g m,0≤k∧k≤999:=by
 by_cases e:sh=1∨sh=2
 ·rw [z7 e]
  exact⟨TQ f g m,fun k hk=>(AM.1 hk).1⟩
 ·exact OA (by omega) m h
theorem s6{sh k:Int}{h:Nat}(hh:h<4)(hs:sh=1∨sh=2)(hk:0≤k):dY sh h k=false↔(cH sh k).toNat =h:=by
 unfold dY cH
 rcases hs with rfl | rfl
 ·rw [dX (show(1:Int)≠2 by decide)]
  simp only [cond_false,bP,dF']
  constructor
  ·intro h;show(0:Int).toNat =_;simp;omega
  ·intro h
   have h:(0:Int).toNat =_:=h
   simp at h;omega
 ·rw [bJ]
  simp only [cond_true,Bool.not_eq_false',bX,beq_iff_eq]
  rw [Int.tmod_eq_emod_of_nonneg hk]
  omega
theorem TN{sh:Int}{f g:Nat→Int}{m:Nat}(hs:sh=1∨sh=2∨sh=3∨sh=4)(h:rL sh f g m):Rp sh (LLf sh (aT sh f g m)) f g m:=by
 obtain⟨hl,hb⟩:=uJ hs h
 by_cases e:sh=1∨sh=2
 ·left
  refine⟨e,?_,?_,?_⟩
  ·intro i L hL
   obtain⟨h4,rfl⟩:=oN hL
   rw [sZ,z7 e]
   exact(IA f g m).sublist List.filter_sublist
  ·intro i L hL k hk
   obtain⟨h4,rfl⟩:=oN hL
   rw [sZ,List.mem_filter]at hk
   have hb:=hb k hk.1
   exact⟨hb,(s6 h4 e hb.1).1 (by simpa using hk.2)⟩
  ·intro i L hL k k0 k9 hi
   obtain⟨h4,rfl⟩:=oN hL
   rw [sZ,List.mem_filter,z7 e,AM]
   have:=(s6 h4 e k0).2 hi
   constructor
   ·rintro⟨⟨_,z⟩,_⟩;exact z
   ·intro z;exact⟨⟨⟨k0,k9⟩,z⟩,by rw [this];rfl⟩
 ·right
  have e2:sh=3∨sh=4:=by omega
  have hsk: ∀(h:Int) (k:Int),dY sh h k=ilt 0 h:=by
   intro h k
   unfold dY
   rw [dX (show sh≠2 by omega)];rfl
  refine⟨e2,?_,hb,?_⟩
  ·show uk (selF sh 0 0 (aT sh f g m))=_
   rw [sZ]
   refine List.filter_eq_self.2 (fun k hk=>?_)
   rw [hsk];rfl
  ·intro i L hL hi
   obtain⟨h4,rfl⟩:=oN hL
   cases hq:selF sh i 0 (aT sh f g m)with
   | nil=>rfl
   | cons b L=>
     exfalso
     have:b.a∈(selF sh i 0 (aT sh f g m)).map Nd.a:=by rw [hq];simp
     obtain⟨j,k,_,_,h3⟩:=(oT _ _ _ _ _).1 this
     rw [hsk,bP,dF']at h3
     omega
theorem TP{sh:Int}(hs:sh=1∨sh=2∨sh=3∨sh=4){xs:List Int}(hk: ∀k∈xs,0≤k∧k≤999){b:Int}(hb:1≤b∧b≤xs.length): ∃h:Nat,h<4∧b∈(selF sh h 0 xs).map Nd.a:=by
 have hj:(b - 1).toNat <xs.length:=by omega
 have hx:=hk _ (List.getElem_mem hj)
 by_cases e:sh=1∨sh=2
 ·have hr:=fV sh xs[(b - 1).toNat]
  have h4:(cH sh xs[(b - 1).toNat]).toNat <4:=by omega
  refine⟨(cH sh xs[(b - 1).toNat]).toNat,h4,(oT _ _ _ _ _).2 ⟨(b - 1).toNat,_,gE' hj,by omega,?_⟩⟩
  exact(s6 h4 e hx.1).2 rfl
 ·refine⟨0,by omega,(oT _ _ _ _ _).2 ⟨(b - 1).toNat,_,gE' hj,by omega,?_⟩⟩
  unfold dY
  rw [dX (show sh≠2 by omega)];rfl
theorem ZG: ∀(i:Nat) (st:STS),[(⟨0,0,[]⟩:STS),⟨1,0,[]⟩][i]? =some st→st.me=i∧(i:Int)<2
 | 0,st,h=>by cases h;exact⟨rfl,by decide⟩
 | 1,st,h=>by cases h;exact⟨rfl,by decide⟩
 | i+2,st,h=>by simp at h
def anM(t sh n kd ky:Int)(xs:List Int):MS:=(cY t n 9 (anNF t n 0 sh kd ky) (bO sh t n xs)).2.2.2
structure ZO (t sh n kd ky:Int) (xs:List Int) (LL:List (List Nd)) (S:List STS):Prop where
 ok:A6 t n 9 (anNF t n 0 sh kd ky) (bO sh t n xs)
 eq: ∃y,cY t n 9 (anNF t n 0 sh kd ky) (bO sh t n xs)=(5,true,y,anM t sh n kd ky xs)∧y.no=1
 cb:0≤(bO sh t n xs).c ∧(bO sh t n xs).c ≤1000
 ca:0≤(anM t sh n kd ky xs).c ∧(anM t sh n kd ky xs).c ≤1100
 q:QL t n (anM t sh n kd ky xs).xs LL S
 hm:HlM t n 0 1 sh kd ky (anM t sh n kd ky xs).xs
 d:aB (anM t sh n kd ky xs).xs (aL t n 0)=bA 1 0 0 0 false 1 0
 fr: ∀b,(xs.length:Int)<b→b≤n→aB (anM t sh n kd ky xs).xs (n+4+b)=0
 tt:(anM t sh n kd ky xs).t =t
 nn:(anM t sh n kd ky xs).n =n
theorem QN{t sh n kd ky:Int}{xs:List Int}(ht:1≤t∧t≤30)(hn:1≤n∧n≤500)(hx:(xs.length:Int)≤n)(hl:xs.length≤100)(hk: ∀k∈xs,0≤k∧k<1024)(hr:b9 sh kd ky=true)(S:List STS)(hS: ∀st∈S,st.sp=0∧st.R=[])(me: ∀(i:Nat) (st:STS),S[i]? =some st→st.me=i∧(i:Int)<t):ZO t sh n kd ky xs (LLf sh xs) S:=by
 have fl:=RS (sh:=sh) (t:=t) (n:=n) hn (by omega) hx hk S hS me
 have fh:=nC (sh:=sh) hn (by omega:1≤t∧t≤1000) hx hk (by omega) (nC hn (by omega) hx hk (by omega) (nC hn (by omega) hx hk (by omega) (nC hn (by omega) hx hk (by omega) (NB (sh:=sh) hn (by omega) xs))))
 have fh:FilH sh t n xs 4 (bO sh t n xs):=fh
 have hz: ∀a,2*n+4<a→aB (bO sh t n xs).xs a=0:=by
  intro a ha
  refine fh.zero a fun h hh=>⟨by omega,fun b hb=>?_⟩
  have:=rR sh h xs 0 b hb
  omega
 have hc:=fl.c
 obtain⟨o,y,s',e,hy,A⟩:=LS (u:=0) (s:=bO sh t n xs) hr (by omega) ht.2 hn fl.q.len fl.q.okw (by omega) (hz _ (by unfold cntA;omega)) (hz _ (by unfold aL;omega))
 have eM:anM t sh n kd ky xs=s':=by unfold anM cY;rw [e]
 refine {ok:=o,eq:=⟨y,?_,hy⟩,cb:=by omega,ca:=?_,q:=?_,hm:=?_,d:=?_,fr:=?_,tt:=?_,nn:=?_ }
 ·rw [eM];exact e
 ·rw [eM,A.c];omega
 ·rw [eM];exact fl.q.out A.len (A.okw fl.q.okw) (fun a ha=>A.lo a (by omega))
 ·rw [eM];exact A.hm
 ·rw [eM];exact A.d
 ·intro b h1 h2
  rw [eM,A.lo _ (by omega)];exact fl.fr b h1 h2
 ·rw [eM,A.t];exact fl.tt
 ·rw [eM,A.n];exact fl.nn
structure HlR (t n no lim:Int) (N:Nat) (st:STS) (s:MS) (j:Nat) (z:HPS) (st':STS) (s':MS):Prop where
 okN:tR t n 0 no lim st
 ok:tS t n N (hpNF t n 0 no lim st).1 (hpNF t n 0 no lim st).2 s
 eq:cL t n N (hpNF t n 0 no lim st).1 (hpNF t n 0 no lim st).2 s=(j,true,z,st',s')
theorem XG{t n no lim:Int}{LL:List (List Nd)}{S:List STS}{s:MS}{i:Nat}{st:STS}{j:Nat}{z:HPS}{st':STS}{s':MS}(N:Nat)(q:QL t n s.xs LL S)(hS:S[i]? =some st)(h:End (hpG t n) j ((hpNF t n 0 no lim st).1,st,s) (z,st',s'))(hj:j≤N)(hj2:(j:Int)≤10000)(hc:0≤s.c∧s.c≤100000):HlR t n no lim N st s j z st' s':=by
 obtain⟨j',e,hj',g1,g2⟩:=h
 have hn:=q.hn
 have ht:=q.ht
 have hw:=aCM (XI (t:=t) (n:=n) (b:=500) (u:=0) (no:=no) (lim:=lim) (st:=st) (by decide))
 obtain⟨r1,r2⟩:=yE j' ((hpNF t n 0 no lim st).1,st,s) e 500 N g1 g2 (by omega) ⟨ht,⟨hn.1,by omega⟩,⟨hc.1,by show s.c≤900000;omega⟩,q.okw⟩ (by show s.c+(j':Int)+1≤900000;omega) hw.1 (q.stw hS) (by omega)
 refine⟨SB t n 0 no lim st,r1,?_⟩
 rw [hj'];exact r2
structure UF (t sh n kd ky:Int) (f g:Nat→Int) (m:Nat) (LL':List (List Nd)) (S:List STS) (i:Nat) (s:MS) (st':STS) (s':MS) (j:Nat) (e:Int) (b:Bool) (v:Int):Prop where
 run: ∀lim:Int,0≤lim→ ∃z,HlR t n 1 lim 3000 ⟨i,0,[]⟩ s j z st' s'
 q:QL t n s'.xs LL' (S.set i st')
 hm:HlM t n 0 1 sh kd ky s'.xs
 d:aB s'.xs (aL t n 0)=bA 1 0 0 e b 5 v
 dk:dOk 1 0 0 e 5 v=true
 c:s'.c=s.c+j
 tt:s'.t=s.t
 nn:s'.n=s.n
 cj:j≤3000
 is:(e=1∧b=false∧v=0∧bG kd=true∧(∀x,1≤x∧x≤n→dM n s.xs x=true)∧cN s'.xs n sh=aT sh f g m)∨
  (e=0∧(b,v)=xG sh f g m kd ky∧(bG kd=true→ ∃x,(1≤x∧x≤n)∧dM n s.xs x=false)∧cN s'.xs n sh=aT sh f g (m+1))
theorem XF{t sh n:Int}{f g:Nat→Int}{m:Nat}{LL:List (List Nd)}{S:List STS}{s:MS}{i:Nat}(q:QL t n s.xs LL S)(hS:S[i]? =some ⟨i,0,[]⟩)(rp:Rp sh LL f g m)(ho:rL sh f g (m+1))(hm:HlM t n 0 1 sh (f m) (g m) s.xs)(hd:aB s.xs (aL t n 0)=bA 1 0 0 0 false 1 0)(hc:0≤s.c∧s.c≤100000)(hn:n≤400):
 ∃LL' st' s' j e b v,UF t sh n (f m) (g m) f g m LL' S i s st' s' j e b v:=by
 have hr:b9 sh (f m) (g m)=true:=ho m (by omega)
 have k1:dOk 1 0 0 0 1 0=true:=by decide
 obtain⟨j,LL',st',s',e,b,v,A,hj,run,is⟩:=EY (u:=0) (no:=1) q hS rfl rfl hr hm hd (D8 k1) (pM k1)
 have hdk:dOk 1 0 0 e 5 v=true:=L9 (by decide) A.vr e (by rcases is with⟨h,_⟩ | ⟨h,_⟩<;>rw [h]<;>decide)
 refine⟨LL',st',s',j,e,b,v,{run:=fun lim hl=>?_,q:=A.q,hm:=A.hm,d:=A.d,dk:=hdk,c:=A.c,tt:=A.t,nn:=A.n,cj:=by omega,is:=?_ }⟩
 ·obtain⟨z,h⟩:=run lim hl
  exact⟨z,XG 3000 q hS h (by omega) (by omega) hc⟩
 ·rcases is with⟨h1,h2,h3,h4,h5,h6⟩ | ⟨h1,h2,h3,L',h4,h5⟩
  ·exact .inl ⟨h1,h2,h3,h5,h6,by subst h4;exact CG A.q rp⟩
  ·obtain⟨r1,r2⟩:=Rp.step q.four rp (fun j hj=>ho j (by omega)) hr
   subst h4
   exact .inr ⟨h1,h2.trans r1,h3,CG A.q (r2 L' h5)⟩
theorem QL.regroup{t n a:Int}{xs:List Int}{LL:List (List Nd)}{T:List STS}(q:QL t n xs LL (⟨0,a,[]⟩::T))(ha:a≠0):QL t n xs LL (⟨0,0,[a]⟩::T):=by
 have e:allN LL (⟨0,0,[a]⟩::T)=allN LL (⟨0,a,[]⟩::T):=by
  unfold allN
  simp only [List.flatMap_cons,EX,lC ha]
 refine {ht:=q.ht,hn:=q.hn,len:=q.len,okw:=q.okw,four:=q.four,hd:=q.hd,nd:=by rw [e];exact q.nd,rng:=by rw [e];exact q.rng,tk:=by rw [e];exact q.tk,me:=fun i st h=>?_ }
 cases i with
 | zero=>cases h;exact q.me 0 ⟨0,a,[]⟩ rfl
 | succ i=>exact q.me (i+1) st h
def shM(sh n kd ky:Int)(xs:List Int):MS:=((anM 2 sh n kd ky xs).stored (n+4+((xs.length:Int)+1)) 1).stored (n+4+((xs.length:Int)+2)) 1
theorem GC{sh:Int}{f g:Nat→Int}{m:Nat}(hs:sh=1∨sh=2∨sh=3∨sh=4)(h:rL sh f g (m+1))(hm:m≤12):
 ZO 2 sh ((aT sh f g m).length +2) (f m) (g m) (aT sh f g m) (LLf sh (aT sh f g m)) [⟨0,0,[]⟩,⟨1,0,[]⟩]∧
 ∃LL' S st' s' j e b v,UF 2 sh ((aT sh f g m).length +2) (f m) (g m) f g m LL' S 1 (shM sh ((aT sh f g m).length +2) (f m) (g m) (aT sh f g m)) st' s' j e b v∧
  (∀x,1≤x∧x≤((aT sh f g m).length :Int)+2→dM ((aT sh f g m).length +2) (shM sh ((aT sh f g m).length +2) (f m) (g m) (aT sh f g m)).xs x=true):=by
 have ho:rL sh f g m:=fun j hj=>h j (by omega)
 obtain⟨il,ib⟩:=uJ hs ho
 have rp:=TN hs ho
 generalize hxs:aT sh f g m=xs at*
 have hn:1≤(xs.length:Int)+2∧(xs.length:Int)+2≤400:=by omega
 generalize hnn:(xs.length:Int)+2=n at*
 have A:=QN (t:=2) (sh:=sh) (n:=n) (kd:=f m) (ky:=g m) (xs:=xs) (by decide) (by omega) (by omega) (by omega) (fun k hk=>by have:=ib k hk;omega) (h m (by omega)) [⟨0,0,[]⟩,⟨1,0,[]⟩] (by
  intro st hst
  rcases List.mem_cons.1 hst with e | e
  ·rw [e];exact⟨rfl,rfl⟩
  ·rw [List.mem_singleton.1 e];exact⟨rfl,rfl⟩) ZG
 refine⟨A,?_⟩
 have f1:=A.fr (xs.length+1) (by omega) (by omega)
 have f2:=A.fr (xs.length+2) (by omega) (by omega)
 have l1:dM n (anM 2 sh n (f m) (g m) xs).xs (xs.length+1)=false:=by unfold dM;rw [f1];rfl
 have q1:=A.q.take (i:=0) (st:=⟨0,0,[]⟩) rfl rfl (b:=xs.length+1) (by omega) l1
 rw [f1]at q1
 have q1:QL 2 n ((anM 2 sh n (f m) (g m) xs).stored (n+4+((xs.length:Int)+1)) 1).xs (LLf sh xs) [⟨0,xs.length+1,[]⟩,⟨1,0,[]⟩]:=q1
 have f3:aB ((anM 2 sh n (f m) (g m) xs).stored (n+4+((xs.length:Int)+1)) 1).xs (n+4+((xs.length:Int)+2))=0:=by
  show aB (aJ _ _ _) _=0
  rw [bD (by omega)];exact f2
 have l2:dM n ((anM 2 sh n (f m) (g m) xs).stored (n+4+((xs.length:Int)+1)) 1).xs (xs.length+2)=false:=by unfold dM;rw [f3];rfl
 have q1:=q1.regroup (by omega)
 have q2:=q1.take (i:=0) (st:=⟨0,0,[(xs.length:Int)+1]⟩) rfl rfl (b:=xs.length+2) (by omega) l2
 rw [f3]at q2
 have q2:QL 2 n (shM sh n (f m) (g m) xs).xs (LLf sh xs) [⟨0,xs.length+2,[(xs.length:Int)+1]⟩,⟨1,0,[]⟩]:=q2
 have hm2:HlM 2 n 0 1 sh (f m) (g m) (shM sh n (f m) (g m) xs).xs :=QL.hl (QL.hl A.hm (by omega)) (by omega)
 have hd2:aB (shM sh n (f m) (g m) xs).xs (aL 2 n 0)=bA 1 0 0 0 false 1 0:=by
  show aB (aJ (aJ _ _ _) _ _) _=_
  rw [bD (by unfold aL;omega),bD (by unfold aL;omega)];exact A.d
 have hca:=A.ca
 obtain⟨LL',st',s',j,e,b,v,H⟩:=XF (i:=1) q2 rfl rp h hm2 hd2 (by show 0≤(anM 2 sh n (f m) (g m) xs).c +1+1∧(anM 2 sh n (f m) (g m) xs).c +1+1≤100000;omega) hn.2
 refine⟨LL',_,st',s',j,e,b,v,H,fun x hx=>?_⟩
 rw [q2.tk x hx]
 by_cases e1:x=xs.length+2
 ·rw [e1]
  refine List.mem_append_right _ ?_
  show(xs.length:Int)+2∈dQ ((xs.length:Int)+2) [(xs.length:Int)+1]++_
  rw [lC (by omega)];simp
 ·by_cases e2:x=xs.length+1
  ·rw [e2]
   refine List.mem_append_right _ ?_
   show(xs.length:Int)+1∈dQ ((xs.length:Int)+2) [(xs.length:Int)+1]++_
   rw [lC (by omega)];simp
  ·obtain⟨h,h4,hb⟩:=TP (sh:=sh) hs ib (b:=x) (by omega)
   exact List.mem_append_left _ ((qX sh xs x).2 ⟨h,h4,hb⟩)
theorem jE{b:Bool}{P Q:Prop}(h:b=true)(p:P):(bif b then P else Q):=by rw [h];exact p
theorem xD{b:Bool}{P Q:Prop}(h:b=false)(q:Q):(bif b then P else Q):=by rw [h];exact q
theorem aAt{sh:Int}(h:0≤sh∧sh≤255):kH sh=1∨kH sh=2∨kH sh=3∨kH sh=4:=by
 unfold kH
 have e:IntKind.wrap .i64 sh=sh:=cG (by omega)
 have e2:Int.tmod sh 4=sh%4:=Int.tmod_eq_emod_of_nonneg h.1
 rw [e,e2]
 have e3:IntKind.wrap .i64 (1+sh%4)=1+sh%4:=cG (by omega)
 rw [e3];omega
theorem aBA{m:Nat}(h:m≤1000):nB (m+1)=m:=by
 unfold nB
 have e:IntKind.wrap .i64 (((m+1:Nat):Int) - 1)=m:=(cG (by omega)).trans (by omega)
 rw [e];omega
theorem ZY(t n:Int)(s:MS):awF t n (awNF t n 0) s=⟨true,⟨resC (aA (aB s.xs (aL t n 0)) 39 9) (aA (aB s.xs (aL t n 0)) 49 3),O8 (aA (aB s.xs (aL t n 0)) 39 9) (aA (aB s.xs (aL t n 0)) 49 3) (ieq (aA (aB s.xs (aL t n 0)) 48 1) 1),O9 (aA (aB s.xs (aL t n 0)) 39 9) (aA (aB s.xs (aL t n 0)) 49 3) (aA (aB s.xs (aL t n 0)) 52 10),0⟩,s.loadd (aL t n 0)⟩:=rfl
theorem NW(b:Bool):ieq (bitI b) 1=b:=by cases b<;>rfl
theorem QW{t n e v:Int}{b:Bool}{s:MS}(hd:aB s.xs (aL t n 0)=bA 1 0 0 e b 5 v)(dk:dOk 1 0 0 e 5 v=true)(he:e=1∨e=0):
 (awF t n (awNF t n 0) s).d =true∧(awF t n (awNF t n 0) s).x.code =(bif ieq e 1 then 4 else 0)∧(awF t n (awNF t n 0) s).x.okk =(bif ieq e 1 then false else b)∧(awF t n (awNF t n 0) s).x.val =(bif ieq e 1 then 0 else v)∧(awF t n (awNF t n 0) s).s.xs =s.xs:=by
 rw [ZY]
 rw [hd,EB dk,pM dk,EC dk,EE dk,NW]
 rcases he with rfl | rfl<;>exact⟨rfl,rfl,rfl,rfl,rfl⟩
theorem XV(sh:Int)(m:Nat)(f g:Nat→Int)(lim:Int)(K:AVal→aD Ob→Prop)(hsh:0≤sh∧sh≤255)(hlim:0≤lim∧lim≤255)(hK:K (.bool true) []):HS sh m f g lim K:=by
 unfold HS
 refine⟨trivial,by decide,aN (fun _=>hK) (fun e0=>aN (fun _=>hK) (fun e1=>⟨⟨?_,⟨rfl⟩⟩,aN (fun _=>hK) (fun hr=>?_)⟩))⟩
 ·rw [bP,dF']at e1;omega
 rw [bP,dF']at e1
 rw [bX]at e0
 simp only [beq_eq_false_iff_ne,ne_eq]at e0
 obtain⟨m,rfl⟩: ∃q,m=q+1:=⟨m - 1,by omega⟩
 have hB:=aBA (m:=m) (by omega)
 have hs:=aAt hsh
 have hr:lI (kH sh) (m+1) f g=true:=by simpa using hr
 have ho:rL (kH sh) f g (m+1):=pY.1 hr
 have hw:W (((m+1:Nat):Int) - 1)=m:=(cG (by omega)).trans (by omega)
 obtain⟨il,ib⟩:=uJ (f:=f) (g:=g) (m:=m) hs (fun j hj=>ho j (by omega))
 obtain⟨jl,jb⟩:=uJ (f:=f) (g:=g) (m:=m+1) hs ho
 obtain⟨y1,y2⟩:=vZ (kH sh) f g m
 obtain⟨z1,z2⟩:=vZ (kH sh) f g (m+1)
 have hI:iH sh (m+1) f g=aT (kH sh) f g m:=by unfold iH;rw [hB]
 have hD:dH sh (m+1) f g=aT (kH sh) f g m:=by unfold dH;rw [hB];exact y1
 have hL:lH sh (m+1) f g=((aT (kH sh) f g m).length :Int):=by unfold lH;rw [hI]
 have hW1:IntKind.wrap .i64 (lH sh (m+1) f g+1)=((aT (kH sh) f g m).length :Int)+1:=by rw [hL];exact cG (by omega)
 have hW2:IntKind.wrap .i64 (lH sh (m+1) f g+2)=((aT (kH sh) f g m).length :Int)+2:=by rw [hL];exact cG (by omega)
 obtain⟨A,LL',S,st',s',j,e,b,v,H,hall⟩:=GC (f:=f) (g:=g) (m:=m) hs ho (by omega)
 have hwl:IntKind.wrap .i64 lim=lim:=cG (by omega)
 have hl0:0≤Int.tmod (IntKind.wrap .i64 lim) 8:=by rw [hwl,Int.tmod_eq_emod_of_nonneg hlim.1];omega
 obtain⟨z,R⟩:=H.run _ hl0
 obtain⟨y,ey,hy⟩:=A.eq
 have hcb:=A.cb
 have hca:=A.ca
 have hAok:=A.ok
 have hItems:=H.is
 have hdk:=H.dk
 have hHd:=H.d
 have eA:aH sh (m+1) f g=(5,true,y,anM 2 (kH sh) ((aT (kH sh) f g m).length +2) (f m) (g m) (aT (kH sh) f g m)):=by
  unfold aH;rw [hL,hB,hD];exact ey
 have eM:mHs sh (m+1) f g=anM 2 (kH sh) ((aT (kH sh) f g m).length +2) (f m) (g m) (aT (kH sh) f g m):=by unfold mHs;rw [eA]
 have eB:bH sh (m+1) f g=shM (kH sh) ((aT (kH sh) f g m).length +2) (f m) (g m) (aT (kH sh) f g m):=by
  unfold bH shM
  rw [eM,hW1,hW2,hL]
  generalize anM 2 (kH sh) ((aT (kH sh) f g m).length +2) (f m) (g m) (aT (kH sh) f g m)=M
  rfl
 have eX:xH sh (m+1) f g lim=hpNF 2 ((aT (kH sh) f g m).length +2) 0 1 (Int.tmod (IntKind.wrap .i64 lim) 8) ⟨1,0,[]⟩:=by unfold xH;rw [eA,hL];dsimp only;rw [hy]
 have eR:rH sh (m+1) f g lim=(j,true,z,st',s'):=by unfold rH;rw [eX,eB,hL];exact R.eq
 have eE:eH sh (m+1) f g lim=s':=by unfold eH;rw [eR]
 have hee:e=1∨e=0:=by rcases hItems with⟨h,_⟩ | ⟨h,_⟩;exact .inl h;exact .inr h
 have eW:wH sh (m+1) f g lim=awF 2 ((aT (kH sh) f g m).length +2) (awNF 2 ((aT (kH sh) f g m).length +2) 0) s':=by unfold wH;rw [eE,hL]
 obtain⟨t1,t2,t3,t4,t5⟩:=QW (t:=2) (n:=(aT (kH sh) f g m).length +2) hHd hdk hee
 rw [←eW]at t1 t2 t3 t4 t5
 have hq:=H.q
 have hsc:0≤s'.c∧s'.c≤5000:=by
  have h1:=H.c
  have h2:=H.cj
  have h3:(shM (kH sh) ((aT (kH sh) f g m).length +2) (f m) (g m) (aT (kH sh) f g m)).c =(anM 2 (kH sh) ((aT (kH sh) f g m).length +2) (f m) (g m) (aT (kH sh) f g m)).c +1+1:=rfl
  omega
 have hawk:awOk 2 (lH sh (m+1) f g+2) (awNF 2 (lH sh (m+1) f g+2) 0) (eH sh (m+1) f g lim):=by
  rw [eE,hL]
  exact VN ⟨by decide,⟨by omega,by omega⟩,⟨hsc.1,by omega⟩,hq.okw⟩ ⟨⟨by show(0:Int)≤0;decide,by show(0:Int)≤1000;decide⟩⟩
 have hawn:LU 2 (lH sh (m+1) f g+2) 0:=⟨⟨rfl,rfl⟩,trivial⟩
 have hpn:=R.okN
 have hpk:tS 2 (((aT (kH sh) f g m).length :Int)+2) 3000 (xH sh (m+1) f g lim).1 (xH sh (m+1) f g lim).2 (bH sh (m+1) f g):=by rw [eX,eB];exact R.ok
 have same: ∀(x y:List Int),x=y→K (.bool (kK x y)) []:=by
  intro x y h
  rw [GA.2 h];exact hK
 generalize hwx:wH sh (m+1) f g lim=wx at*
 obtain⟨wd,⟨wc,wo,wv,wm⟩,ws⟩:=wx
 dsimp only at t1 t2 t3 t4 t5
 subst t1 t2 t3 t4
 have linked:bG (f m)=true→e=1∧b=false∧v=0∧cN s'.xs (((aT (kH sh) f g m).length :Int)+2) (kH sh)=aT (kH sh) f g m:=by
  intro hk
  rcases hItems with⟨h1,h2,h3,_,_,h6⟩ | ⟨_,_,h3,_⟩
  ·exact⟨h1,h2,h3,h6⟩
  ·obtain⟨x,hx,hf⟩:=h3 hk
   rw [hall x hx]at hf;cases hf
 have other:bG (f m)=false→e=0∧(b,v)=xG (kH sh) f g m (f m) (g m)∧cN s'.xs (((aT (kH sh) f g m).length :Int)+2) (kH sh)=aT (kH sh) f g (m+1):=by
  intro hk
  rcases hItems with⟨_,_,_,h4,_⟩ | ⟨h1,h2,_,h4⟩
  ·rw [hk]at h4;cases h4
  ·exact⟨h1,h2,h4⟩
 have fst: ∀(P Q:Prop),bG (f m)=true→P→(bif bif ieq (bif ieq e 1 then(4:Int)else 0) 4 then bif !(bif ieq e 1 then false else b)then bif ieq (bif ieq e 1 then(0:Int)else v) 0 then true else false else false else false then P else Q):=by
  intro P Q hk p
  obtain⟨h1,_⟩:=linked hk
  rw [h1];exact p
 have hitm:cN ws.xs (((aT (kH sh) f g m).length :Int)+2) (kH sh)=cN s'.xs (((aT (kH sh) f g m).length :Int)+2) (kH sh):=by rw [t5]
 rw [hL]at hawk hawn
 rw [eE]at hawk
 have hM4:0≤(mHs sh (m+1) f g).c ∧(mHs sh (m+1) f g).c ≤1100:=by rw [eM];exact hca
 rw [eR,eE,eA,hL,hD,hI,hB,hw]
 refine⟨⟨by omega,by omega⟩,⟨by omega,by omega⟩,⟨by omega,⟨rfl⟩⟩,⟨y2,⟨by decide,by omega,kV.2 (by omega),fun k hk=>by have:=ib k hk;omega⟩⟩,QI _ _ _ _ _ _,⟨rfl,by decide,hAok⟩,jE rfl (xD (by show(!ieq y.no 1)=false;rw [hy];rfl) ⟨⟨by decide,⟨by omega,by omega⟩,by rw [show W (((aT (kH sh) f g m).length :Int)+1)=((aT (kH sh) f g m).length :Int)+1 from cG (by omega)];omega⟩,⟨rfl,hM4.1,Int.le_trans hM4.2 (by decide)⟩,⟨by decide,⟨by omega,by omega⟩,by rw [show W (((aT (kH sh) f g m).length :Int)+2)=((aT (kH sh) f g m).length :Int)+2 from cG (by omega)];omega⟩,⟨rfl,Int.add_nonneg hM4.1 (by decide),Int.le_trans (Int.add_le_add_right hM4.2 1) (by decide)⟩,trivial,by decide,by show tR 2 _ 0 y.no _ _;rw [hy];exact hpn,⟨⟨rfl,rfl,rfl⟩,by decide,hpk⟩,jE rfl ⟨hawn,⟨rfl,hawk⟩,jE rfl ?_⟩⟩)⟩
 refine aN (fun e2=>?_) (fun e2=>aN (fun e3=>?_) (fun e3=>?_))
 ·have hk:bG (f m)=true:=by unfold bG;rw [e2];rfl
  obtain⟨_,_,_,h4⟩:=linked hk
  refine fst _ _ hk ⟨⟨rfl,by omega,by omega⟩,⟨⟨rfl,y2⟩,?_⟩,same _ _ (hitm.trans h4)⟩
  rw [show cN (AwO.s _).3 _ _=_ from hitm.trans h4];omega
 ·have hk:bG (f m)=true:=by unfold bG;rw [e3];simp
  obtain⟨_,_,_,h4⟩:=linked hk
  refine fst _ _ hk ⟨⟨rfl,by omega,by omega⟩,⟨⟨rfl,y2⟩,?_⟩,same _ _ (hitm.trans h4)⟩
  rw [show cN (AwO.s _).3 _ _=_ from hitm.trans h4];omega
 ·have hk:bG (f m)=false:=by unfold bG;rw [e2,e3];rfl
  obtain⟨h1,h2,h4⟩:=other hk
  have hb:resB (kH sh) f g m (f m) (g m)=b:=(congrArg Prod.fst h2).symm
  have hv:resV (kH sh) f g m (f m) (g m)=v:=(congrArg Prod.snd h2).symm
  refine⟨⟨⟨by omega,⟨rfl⟩⟩,trivial⟩,jE ?_ ⟨⟨⟨rfl,by omega,by omega⟩,trivial⟩,⟨⟨by omega,⟨rfl⟩⟩,trivial⟩,⟨⟨⟨rfl,z2⟩,?_⟩,trivial⟩,same _ _ ((hitm.trans h4).trans z1.symm)⟩⟩
  ·show(bif ieq (bif ieq e 1 then(4:Int)else 0) 0 then bif bif (bif ieq e 1 then false else b)then resB (kH sh) f g m (f m) (g m)else !resB (kH sh) f g m (f m) (g m)then bif ieq (bif ieq e 1 then(0:Int)else v) (resV (kH sh) f g m (f m) (g m))then true else false else false else false)=true
   rw [h1,hb,hv]
   show(bif bif b then b else !b then bif ieq v v then true else false else false)=true
   rw [bJ]
   cases b<;>rfl
  ·rw [show cN (AwO.s _).3 _ _=_ from hitm.trans h4];omega
end Go.Sh
