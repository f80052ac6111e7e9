import Derived.Test.YtedeloeobocpiaaGreatZTA1toSQ4
set_option linter.all false
set_option maxHeartbeats 8000000
namespace Go.Sh
open Go Go.Proofs
variable [Con]
def fC(n:Int)(R:List Int)(xs:List Int):List Int:=R.foldl (fun xs r=>aS xs (n+4+r) (WU (aB xs (n+4+r)+1))) xs
theorem tB(n:Int): ∀(R xs:List Int),(fC n R xs).length =xs.length
 | [],xs=>rfl
 | r::R,xs=>(tB n R _).trans (cC _ _ _)
theorem tC(n:Int): ∀(R xs:List Int),okW xs→okW (fC n R xs)
 | [],xs,h=>h
 | r::R,xs,h=>tC n R _ (eH h (sU _))
theorem gW{n a:Int} : ∀(R xs:List Int),(∀r∈R,a≠n+4+r)→aB (fC n R xs) a=aB xs a
 | [],xs,h=>rfl
 | r::R,xs,h=>(gW R _ (fun q hq=>h q (List.mem_cons_of_mem _ hq))).trans (cO (h r (List.mem_cons_self ..)))
theorem wK{n r:Int} : ∀(R xs:List Int),R.Nodup→r∈R→(∀q∈R,0≤n+4+q∧n+4+q<xs.length)→aB (fC n R xs) (n+4+r)=WU (aB xs (n+4+r)+1)
 | q::R,xs,hn,hr,hb=>by
   have hn:=List.nodup_cons.1 hn
   show aB (fC n R (aS xs (n+4+q) (WU (aB xs (n+4+q)+1)))) (n+4+r)=_
   rcases List.mem_cons.1 hr with e | e
   ·subst e
    rw [gW R _ (fun q hq e=>hn.1 (by rw [show r=q from(by omega)];exact hq)),dQ (hb r (List.mem_cons_self ..))]
   ·rw [wK R _ hn.2 e (fun q hq=>by rw [cC];exact hb q (List.mem_cons_of_mem _ hq)),cO]
    intro e2
    have:r=q:=by omega
    subst this;exact hn.1 e
def SZ(t n:Int)(xs:List Int):Prop:= ∀i:Int,0≤i→i<2*t→aB xs (2*n+5+i)=0
def mOk(m:List (Int×Int)):Prop:= ∀r,1≤r∧r≤1000→mhas m r=false
theorem J8:mOk []:=fun r _=>rfl
theorem l1{t n i:Int}{m:List (Int×Int)}{s:MS}(h:mOk m)(hz:SZ t n s.xs)(hi:0≤i∧i<2*t):mOk (aV m n i s):=by
 intro r hr
 have e:aB s.xs (bL n i)=0:=by
  have:=hz i hi.1 hi.2
  rw [←this];unfold bL;congr 1;omega
 unfold aV
 rw [e,NW,h r hr,Bool.or_false]
 exact decide_eq_false (by show¬r=0;omega)
theorem y6{m:List (Int×Int)}{R:List Int}(h:mOk m)(hR: ∀r∈R,1≤r∧r≤1000):cK m R=[]∧aX m R=R:=by
 refine⟨List.filter_eq_nil_iff.2 (fun r hr=>by rw [h r (hR r hr)];decide),List.filter_eq_self.2 (fun r hr=>by rw [h r (hR r hr)];rfl)⟩
theorem vB{R:List Int}{j:Nat}(h:j<R.length):List.getD R (j+Int.toNat 0*1) 0=R[j]:=by
 have:j+Int.toNat 0*1=j:=by simp
 rw [this,gD',gE' h];rfl
theorem J6{R:List Int}(h:R≠ []):ieq (R.length:Int) 0=false:=by
 rw [bI,beq_eq_false_iff_ne]
 have:R.length≠0:=fun e=>h (List.length_eq_zero_iff.1 e)
 omega
theorem u6{R:List Int}{j:Nat}(h:j<R.length):R.drop j=R[j]::R.drop (j+1):=List.drop_eq_getElem_cons h
theorem JF{t n:Int}{R:List Int}(hR:R≠ []): ∀(l j:Nat) (e:ENS) (st:STS) (s:MS),e.ph=4→e.y.gs=R→e.y.fs=R→e.y.ks=[]→e.y.j=j→e.y.l=l+1→j+l+1=R.length→
 ∃z s',Go1 (xZ t n) (l+1) (e,st,s) (z,{st with R:=[] },s')∧z.ph=0∧z.sh=false∧z.dn=true∧s'.xs=fC n (R.drop j) s.xs∧s'.c=s.c+(l+1:Nat)∧s'.t=s.t∧s'.n=s.n
 | 0,j,e,st,s,h1,h2,h3,h4,h5,h6,hl=>by
   have hj:j<R.length:=by omega
   have e1:enF t n e st s=⟨false,{e with ph:=0,sh:=false,dn:=true},{st with R:=[] },s.added (n+4+R[j]) 1⟩:=by
    unfold enF
    have q:ieq ((e.y.l - 1:Nat):Int) 0=true:=by rw [h6];decide
    simp only [h1,q,h3,J6 hR,h4,bZ,h2,h5,vB hj]
   refine⟨_,_,Go1.one (lA e1),rfl,rfl,rfl,?_,by show s.c+1=_;omega,rfl,rfl⟩
   rw [u6 hj,show R.drop (j+1)=[]from List.drop_eq_nil_of_le (by omega)]
   rfl
 | l+1,j,e,st,s,h1,h2,h3,h4,h5,h6,hl=>by
   have hj:j<R.length:=by omega
   have e1:enF t n e st s=⟨false,{e with y:= {e.y with j:=e.y.j+1,l:=e.y.l - 1} },st,s.added (n+4+R[j]) 1⟩:=by
    unfold enF
    have q:ieq ((e.y.l - 1:Nat):Int) 0=false:=by rw [h6,bI,beq_eq_false_iff_ne];omega
    simp only [h1,q,bZ,h2,h5,vB hj]
   obtain⟨z,s',g1,g2,g3,g4,g5,g6,g7,g8⟩:=JF hR l (j+1) {e with y:= {e.y with j:=e.y.j+1,l:=e.y.l - 1} } st (s.added (n+4+R[j]) 1) h1 h2 h3 h4 (by show e.y.j+1=_;omega) (by show e.y.l - 1=_;omega) (by omega)
   refine⟨z,s',Go1.cons (lA e1) g1,g2,g3,g4,?_,by rw [g6];show s.c+1+_=_;omega,g7,g8⟩
   rw [g5,u6 hj]
   rfl
theorem JG{t n:Int}{R:List Int}(hR:R≠ [])(hr: ∀r∈R,1≤r∧r≤1000): ∀(k:Nat) (i:Int) (e:ENS) (st:STS) (s:MS),e.ph=3→e.y.N=R→e.y.i=i→mOk e.y.m→1≤i→i+k+1=2*t→SZ t n s.xs→
 ∃z s',Go1 (xZ t n) (k+1+R.length) (e,st,s) (z,{st with R:=[] },s')∧z.ph=0∧z.sh=false∧z.dn=true∧s'.xs=fC n R s.xs∧s'.c=s.c+(k+1+R.length:Nat)∧s'.t=s.t∧s'.n=s.n
 | 0,i,e,st,s,h1,h2,h3,h4,hi,hk,hz=>by
   have hm:=l1 h4 hz (i:=e.y.i) (by rw [h3];omega)
   obtain⟨k1,k2⟩:=y6 hm (R:=e.y.N) (by rw [h2];exact hr)
   have e1:enF t n e st s=⟨false,{e with ph:=4,y:=⟨0,e.y.N,aV e.y.m n e.y.i s,e.y.i+1,[],R,R,0,R.length⟩ },st,s.loadd (bL n e.y.i)⟩:=by
    unfold enF
    have q:ieq (e.y.i+1) (2*t)=true:=by rw [bI,beq_iff_eq,h3];omega
    have q2:ieq (e.y.N.length:Int) 0=false:=by rw [h2];exact J6 hR
    simp only [h1,q,k1,k2,q2]
    simp only [h2]
   have hl:R.length≠0:=fun e=>hR (List.length_eq_zero_iff.1 e)
   obtain⟨z,s',g1,g2,g3,g4,g5,g6,g7,g8⟩:=JF (t:=t) (n:=n) hR (R.length - 1) 0 {e with ph:=4,y:=⟨0,e.y.N,aV e.y.m n e.y.i s,e.y.i+1,[],R,R,0,R.length⟩ } st (s.loadd (bL n e.y.i)) rfl rfl rfl rfl rfl (by show R.length=_;omega) (by omega)
   have hl2:R.length - 1+1=R.length:=by omega
   rw [hl2]at g1 g6
   refine⟨z,s',?_,g2,g3,g4,g5,by rw [g6];show s.c+1+_=_;omega,g7,g8⟩
   have:=(Go1.one (lA e1)).trans g1
   rw [Nat.add_comm]at this
   simpa using this
 | k+1,i,e,st,s,h1,h2,h3,h4,hi,hk,hz=>by
   have hm:=l1 h4 hz (i:=e.y.i) (by rw [h3];omega)
   have e1:enF t n e st s=⟨false,{e with y:= {e.y with m:=aV e.y.m n e.y.i s,i:=e.y.i+1} },st,s.loadd (bL n e.y.i)⟩:=by
    unfold enF
    have q:ieq (e.y.i+1) (2*t)=false:=by rw [bI,beq_eq_false_iff_ne,h3];omega
    simp only [h1,q]
   obtain⟨z,s',g1,g2,g3,g4,g5,g6,g7,g8⟩:=JG hR hr k (i+1) {e with y:= {e.y with m:=aV e.y.m n e.y.i s,i:=e.y.i+1} } st (s.loadd (bL n e.y.i)) h1 h2 (by show e.y.i+1=_;rw [h3]) hm (by omega) (by omega) hz
   refine⟨z,s',?_,g2,g3,g4,g5,by rw [g6];show s.c+1+_=_;omega,g7,g8⟩
   have:=Go1.cons (lA e1) g1
   have h9:k+1+R.length+1=k+1+1+R.length:=by omega
   rw [h9]at this
   exact this
theorem PI{t n me:Int}(hn:1≤n):1≤at0 t n me∧at0 t n me≤n:=IV hn
theorem aEc{P:Nat→Prop} [DecidablePred P]: ∀k,P k→ ∃i,i≤k∧P i∧ ∀j,j<i→ ¬P j
 | 0,h=>⟨0,Nat.le_refl _,h,fun j hj=>absurd hj (by omega)⟩
 | k+1,h=>by
   by_cases q: ∃i,i≤k∧P i
   ·obtain⟨i,hi,hp⟩:=q
    have: ∀m i,i≤m→P i→ ∃j,j≤i∧P j∧ ∀l,l<j→ ¬P l:=by
     intro m
     induction m with
     | zero=>intro i hi hp;exact⟨i,Nat.le_refl _,hp,fun l hl=>absurd hl (by omega)⟩
     | succ m ih=>
       intro i hi hp
       by_cases r: ∃l,l<i∧P l
       ·obtain⟨l,hl,hp⟩:=r
        obtain⟨j,h1,h2,h3⟩:=ih l (by omega) hp
        exact⟨j,by omega,h2,h3⟩
       ·exact⟨i,Nat.le_refl _,hp,fun l hl hp=>r ⟨l,hl,hp⟩⟩
    obtain⟨j,h1,h2,h3⟩:=this i i (Nat.le_refl _) hp
    exact⟨j,by omega,h2,h3⟩
   ·exact⟨k+1,Nat.le_refl _,h,fun j hj hp=>q ⟨j,by omega,hp⟩⟩
theorem C9{t n:Int}{e:ENS}{st:STS}{s:MS}(h:e.ph=0)(hz:st.sp=0)(mc:MC t n s){b0:Int}(hb:1≤b0∧b0≤n)(hf:dB n s.xs b0=false):
 ∃j b z s',End (xZ t n) j (e,st,s) (z,{st with sp:=b},s')∧(1≤b∧b≤n)∧dB n s.xs b=false∧z.sh=e.sh∧s'.xs=aS s.xs (n+4+b) (aB s.xs (n+4+b)+1)∧s'.c=s.c+j∧s'.t=s.t∧s'.n=s.n∧(j:Int)≤n+1:=by
 have ha:=PI (t:=t) (me:=st.me) mc.hn.1
 obtain⟨k,hk,hkb⟩:=XI ha hb
 obtain⟨i,hi,hfi,ho⟩:=aEc (P:=fun i=>dB n s.xs (itN n (at0 t n st.me) i)=false) k (by show _=_;rw [hkb];exact hf)
 obtain⟨z,s',g1,g2,g3,g4,g5,g6,g7⟩:=zU (t:=t) (n:=n) i (at0 t n st.me) n 0 {e with ph:=1,x:=⟨0,at0 t n st.me,n,0,false⟩ } st s rfl rfl ha (by omega) mc (fun j hj=>by
  have:=ho j hj
  cases q:dB n s.xs (itN n (at0 t n st.me) j)with
  | true=>rfl
  | false=>exact absurd q this) hfi
 refine⟨i+2,_,z,s',End.congr ?_ g1,A8 _ _ ha,hfi,g2,g4,g5,g6,g7,by omega⟩
 unfold xZ
 simp only [wB h hz]
theorem DA{t n:Int}{e:ENS}{st:STS}{s:MS}(h:e.ph=0)(hz:st.sp=0)(hn:1≤n)(ho: ∀b,1≤b∧b≤n→dB n s.xs b=true):
 ∃(j:Nat) (b:ENS×STS×MS) (x:AL) (s':MS),(j:Int)+1=n∧Go1 (xZ t n) j ({e with ph:=1,x:=⟨0,at0 t n st.me,n,0,false⟩ },st,s) b∧xZ t n b=(e.dn||ieq (st.R.length:Int) 0,({e with ph:=2,sh:=e.dn||ieq (st.R.length:Int) 0,x:=x},{st with sp:=0},s'))∧s'.xs=s.xs∧s'.c=s.c+(j+1:Nat)∧s'.t=s.t∧s'.n=s.n:=by
 have ha:=PI (t:=t) (me:=st.me) hn
 have hn2:(((n - 1).toNat +1:Nat):Int)=n:=by omega
 obtain⟨b,x,s',g1,g2,g3,g4,g5,g6⟩:=zV (t:=t) (n:=n) (n - 1).toNat (at0 t n st.me) 0 {e with ph:=1,x:=⟨0,at0 t n st.me,n,0,false⟩ } st s rfl (by rw [hn2]) ha (fun k _=>ho _ (A8 k _ ha))
 exact⟨_,b,x,s',by omega,g1,g2,g3,g4,g5,g6⟩
theorem LZ{t n:Int}{e:ENS}{st:STS}{s:MS}(h:e.ph=0)(hz:st.sp=0)(hn:1≤n)(ho: ∀b,1≤b∧b≤n→dB n s.xs b=true)(hR:st.R=[]):
 ∃j z s',End (xZ t n) j (e,st,s) (z,st,s')∧z.sh=true∧s'.xs=s.xs∧s'.c=s.c+j∧s'.t=s.t∧s'.n=s.n∧(j:Int)=n:=by
 obtain⟨j,b,x,s',hj,g1,g2,g3,g4,g5,g6⟩:=DA (t:=t) h hz hn ho
 have hd:(e.dn||ieq (st.R.length:Int) 0)=true:=by rw [hR];cases e.dn<;>rfl
 rw [hd,show({st with sp:=0} :STS)=st by rw [←hz]]at g2
 refine⟨j+1,_,s',End.congr (a':=({e with ph:=1,x:=⟨0,at0 t n st.me,n,0,false⟩ },st,s)) ?_ ⟨j,b,rfl,g1,g2⟩,rfl,g3,g4,g5,g6,by omega⟩
 unfold xZ
 simp only [wB h hz]
theorem L0{t n:Int}{e:ENS}{st:STS}{s:MS}(h:e.ph=0)(hd:e.dn=false)(hz:st.sp=0)(mc:MC t n s)(ho: ∀b,1≤b∧b≤n→dB n s.xs b=true)(hR:st.R≠ [])(hr: ∀r∈st.R,1≤r∧r≤n)(hnd:st.R.Nodup)(sz:SZ t n s.xs):
 ∃j b z s',End (xZ t n) j (e,st,s) (z,⟨st.me,b,[]⟩,s')∧(1≤b∧b≤n)∧b∈st.R∧dB n (fC n st.R s.xs) b=false∧z.sh=false∧s'.xs=aS (fC n st.R s.xs) (n+4+b) (aB (fC n st.R s.xs) (n+4+b)+1)∧s'.c=s.c+j∧s'.t=s.t∧s'.n=s.n∧(j:Int)≤2*n+1+2*t+st.R.length:=by
 obtain⟨j,b,x,s1,hj,g1,g2,g3,g4,g5,g6⟩:=DA (t:=t) h hz mc.hn.1 ho
 have hdd:(e.dn||ieq (st.R.length:Int) 0)=false:=by rw [hd,J6 hR];rfl
 rw [hdd,show({st with sp:=0} :STS)=st by rw [←hz]]at g2
 have hr2: ∀r∈st.R,1≤r∧r≤1000:=fun r q=>by have:=hr r q;have:=mc.hn;omega
 have sz1:SZ t n s1.xs:=by rw [g3];exact sz
 have e2:enF t n {e with ph:=2,sh:=false,x:=x} st s1=⟨false,{e with ph:=3,sh:=false,x:=x,y:= {e.y with N:=st.R,m:=aV [] n 0 s1,i:=1} },st,s1.loadd (bL n 0)⟩:=rfl
 have ht:=mc.ht
 obtain⟨z2,s2,k1,k2,k3,k4,k5,k6,k7,k8⟩:=JG (t:=t) (n:=n) hR hr2 (2*t - 2).toNat 1 {e with ph:=3,sh:=false,x:=x,y:= {e.y with N:=st.R,m:=aV [] n 0 s1,i:=1} } st (s1.loadd (bL n 0)) rfl rfl rfl (l1 J8 sz1 ⟨Int.le_refl 0,by omega⟩) (Int.le_refl 1) (by omega) sz1
 have k5:s2.xs=fC n st.R s.xs:=k5.trans (by rw [RQ,g3])
 obtain⟨r0,R0,hrr⟩:=List.exists_cons_of_ne_nil hR
 have hr0:r0∈st.R:=by rw [hrr];exact List.mem_cons_self ..
 have hin: ∀q∈st.R,0≤n+4+q∧n+4+q<s.xs.length:=fun q hq=>by have:=hr q hq;have:=mc.len;omega
 have hev: ∀q∈st.R,dB n (fC n st.R s.xs) q=false:=by
  intro q hq
  have h1:=wK st.R s.xs hnd hq hin
  have h2:=ho q (hr q hq)
  have h3:=iP mc.okw (n+4+q)
  have h4:aB s.xs (n+4+q)%2=1:=(gJ h3.1).1 h2
  have h5:WU (aB s.xs (n+4+q)+1)%2=0:=by
   have h6:WU (aB s.xs (n+4+q)+1)=(aB s.xs (n+4+q)+1)%18446744073709551616:=by
    generalize aB s.xs (n+4+q)=y at h3 h4
    by_cases q0:y+1≤18446744073709551615
    ·have q2:WU (y+1)=y+1:=i4 ⟨by omega,q0⟩
     rw [q2];omega
    ·have q3:y+1=18446744073709551616:=by omega
     rw [q3];decide
   omega
  have h8:=sU (aB s.xs (n+4+q)+1)
  cases q9:dB n (fC n st.R s.xs) q with
  | false=>rfl
  | true=>
    have q9:oddB (aB (fC n st.R s.xs) (n+4+q))=true:=q9
    rw [h1,gJ h8.1]at q9;omega
 have mc2:MC t n s2:=⟨mc.ht,mc.hn,by rw [k5,tB];exact mc.len,by rw [k5];exact tC _ _ _ mc.okw⟩
 obtain⟨j3,b3,z3,s3,f1,f2,f3,f4,f5,f6,f7,f8,f9⟩:=C9 (t:=t) (n:=n) (e:=z2) (st:= {st with R:=[] }) (s:=s2) k2 hz mc2 (hr r0 hr0) (by rw [k5];exact hev r0 hr0)
 rw [k5]at f3 f5
 have hbR:b3∈st.R:=by
  cases q:decide (b3∈st.R)with
  | true=>exact of_decide_eq_true q
  | false=>
    have q:=of_decide_eq_false q
    have h1:aB (fC n st.R s.xs) (n+4+b3)=aB s.xs (n+4+b3):=gW _ _ (fun r hr e=>q (by rw [show b3=r from(by omega)];exact hr))
    have h2:=ho b3 f2
    have f3:oddB (aB (fC n st.R s.xs) (n+4+b3))=false:=f3
    rw [h1]at f3
    have h2:oddB (aB s.xs (n+4+b3))=true:=h2
    rw [h2]at f3;cases f3
 have all:=(g1.trans (Go1.cons g2 (Go1.cons (lA e2) k1)))
 refine⟨_,b3,z3,s3,End.congr ?_ (aGp all f1),f2,hbR,f3,f4.trans k3,f5,?_,f7.trans (k7.trans g5),f8.trans (k8.trans g6),?_⟩
 ·unfold xZ
  simp only [wB h hz]
 ·rw [f6,k6]
  show s1.c+1+_+_=_
  rw [g4];omega
 ·omega
def ZW(t n:Int)(p:SWS×STS×MS):Bool×(SWS×STS×MS):=((swF t n p.1 p.2.1 p.2.2).d,((swF t n p.1 p.2.1 p.2.2).e,(swF t n p.1 p.2.1 p.2.2).st,(swF t n p.1 p.2.1 p.2.2).s))
theorem xG{t n:Int}{x:SWS}{st:STS}{s:MS}{d:Bool}{x':SWS}{st':STS}{s':MS}(h:swF t n x st s=⟨d,x',st',s'⟩):ZW t n (x,st,s)=(d,(x',st',s')):=by
 unfold ZW;rw [h]
theorem KQ{t n:Int}{R:List Int}(hR:R≠ []): ∀(l j:Nat) (y:SWS) (st:STS) (s:MS),y.ph=2→y.gs=R→y.ks=[]→y.j=j→y.l=l+1→j+l+1=R.length→
 ∃z s',End (ZW t n) (l+1) (y,st,s) (z,{st with R:=[] },s')∧s'.xs=fC n (R.drop j) s.xs∧s'.c=s.c+(l+1:Nat)∧s'.t=s.t∧s'.n=s.n
 | 0,j,y,st,s,h1,h2,h4,h5,h6,hl=>by
   have hj:j<R.length:=by omega
   have e1:swF t n y st s=⟨true,{y with ph:=3},{st with R:=[] },s.added (n+4+R[j]) 1⟩:=by
    unfold swF
    have q:ieq ((y.l - 1:Nat):Int) 0=true:=by rw [h6];decide
    simp only [h1,q,h4,bZ,h2,h5,vB hj]
   refine⟨_,_,End.one (xG e1),?_,by show s.c+1=_;omega,rfl,rfl⟩
   rw [u6 hj,show R.drop (j+1)=[]from List.drop_eq_nil_of_le (by omega)]
   rfl
 | l+1,j,y,st,s,h1,h2,h4,h5,h6,hl=>by
   have hj:j<R.length:=by omega
   have e1:swF t n y st s=⟨false,{y with j:=y.j+1,l:=y.l - 1},st,s.added (n+4+R[j]) 1⟩:=by
    unfold swF
    have q:ieq ((y.l - 1:Nat):Int) 0=false:=by rw [h6,bI,beq_eq_false_iff_ne];omega
    simp only [h1,q,bZ,h2,h5,vB hj]
   obtain⟨z,s',g1,g5,g6,g7,g8⟩:=KQ hR l (j+1) {y with j:=y.j+1,l:=y.l - 1} st (s.added (n+4+R[j]) 1) h1 h2 h4 (by show y.j+1=_;omega) (by show y.l - 1=_;omega) (by omega)
   refine⟨z,s',End.cons (xG e1) g1,?_,by rw [g6];show s.c+1+_=_;omega,g7,g8⟩
   rw [g5,u6 hj]
   rfl
theorem KS{t n:Int}{R:List Int}(hR:R≠ [])(hr: ∀r∈R,1≤r∧r≤1000): ∀(k:Nat) (i:Int) (y:SWS) (st:STS) (s:MS),y.ph=1→y.N=R→y.i=i→mOk y.m→1≤i→i+k+1=2*t→SZ t n s.xs→
 ∃z s',End (ZW t n) (k+1+R.length) (y,st,s) (z,{st with R:=[] },s')∧s'.xs=fC n R s.xs∧s'.c=s.c+(k+1+R.length:Nat)∧s'.t=s.t∧s'.n=s.n
 | 0,i,y,st,s,h1,h2,h3,h4,hi,hk,hz=>by
   have hm:=l1 h4 hz (i:=y.i) (by rw [h3];omega)
   obtain⟨k1,k2⟩:=y6 hm (R:=y.N) (by rw [h2];exact hr)
   have e1:swF t n y st s=⟨false,⟨2,y.N,aV y.m n y.i s,y.i+1,[],R,R,0,R.length⟩,st,s.loadd (bL n y.i)⟩:=by
    unfold swF
    have q:ieq (y.i+1) (2*t)=true:=by rw [bI,beq_iff_eq,h3];omega
    have q2:ieq (y.N.length:Int) 0=false:=by rw [h2];exact J6 hR
    simp only [h1,q,k1,k2,q2]
    simp only [h2]
   have hl:R.length≠0:=fun e=>hR (List.length_eq_zero_iff.1 e)
   obtain⟨z,s',g1,g5,g6,g7,g8⟩:=KQ (t:=t) (n:=n) hR (R.length - 1) 0 ⟨2,y.N,aV y.m n y.i s,y.i+1,[],R,R,0,R.length⟩ st (s.loadd (bL n y.i)) rfl rfl rfl rfl (by show R.length=_;omega) (by omega)
   have hl2:R.length - 1+1=R.length:=by omega
   rw [hl2]at g1 g6
   refine⟨z,s',?_,g5,by rw [g6];show s.c+1+_=_;omega,g7,g8⟩
   have:=End.cons (xG e1) g1
   rw [Nat.add_comm]at this
   simpa using this
 | k+1,i,y,st,s,h1,h2,h3,h4,hi,hk,hz=>by
   have hm:=l1 h4 hz (i:=y.i) (by rw [h3];omega)
   have e1:swF t n y st s=⟨false,{y with m:=aV y.m n y.i s,i:=y.i+1},st,s.loadd (bL n y.i)⟩:=by
    unfold swF
    have q:ieq (y.i+1) (2*t)=false:=by rw [bI,beq_eq_false_iff_ne,h3];omega
    simp only [h1,q]
   obtain⟨z,s',g1,g5,g6,g7,g8⟩:=KS hR hr k (i+1) {y with m:=aV y.m n y.i s,i:=y.i+1} st (s.loadd (bL n y.i)) h1 h2 (by show y.i+1=_;rw [h3]) hm (by omega) (by omega) hz
   refine⟨z,s',?_,g5,by rw [g6];show s.c+1+_=_;omega,g7,g8⟩
   have:=End.cons (xG e1) g1
   have h9:k+1+R.length+1=k+1+1+R.length:=by omega
   rw [h9]at this
   exact this
theorem aCK{t n:Int}{y:SWS}{st:STS}{s:MS}(h:y.ph=0)(ht:1≤t)(hn:n≤500)(hR:st.R≠ [])(hr: ∀r∈st.R,1≤r∧r≤n)(sz:SZ t n s.xs):
 ∃j z s',End (ZW t n) j (y,st,s) (z,{st with R:=[] },s')∧s'.xs=fC n st.R s.xs∧s'.c=s.c+j∧s'.t=s.t∧s'.n=s.n∧(j:Int)=2*t+st.R.length:=by
 have hr2: ∀r∈st.R,1≤r∧r≤1000:=fun r q=>by have:=hr r q;omega
 have e2:swF t n y st s=⟨false,{y with ph:=1,N:=st.R,m:=aV [] n 0 s,i:=1},st,s.loadd (bL n 0)⟩:=by
  unfold swF;simp only [h]
 obtain⟨z,s',g1,g2,g3,g4,g5⟩:=KS (t:=t) (n:=n) hR hr2 (2*t - 2).toNat 1 {y with ph:=1,N:=st.R,m:=aV [] n 0 s,i:=1} st (s.loadd (bL n 0)) rfl rfl rfl (l1 J8 sz ⟨Int.le_refl 0,by omega⟩) (Int.le_refl 1) (by omega) sz
 exact⟨_,z,s',End.cons (xG e2) g1,g2,by rw [g3];show s.c+1+_=_;omega,g4,g5,by omega⟩
def MZ(t n:Int)(p:HDS×MS):Bool×(HDS×MS):=((hdF t n p.1 p.2).d,((hdF t n p.1 p.2).x,(hdF t n p.1 p.2).s))
abbrev qX(t n u:Int):Int:=2*n+5+2*t+3*u+2
theorem Q2{t n:Int}{x:HDS}{s:MS}{d:Bool}{x':HDS}{s':MS}(h:hdF t n x s=⟨d,x',s'⟩):MZ t n (x,s)=(d,(x',s')):=by
 unfold MZ;rw [h]
def PZ(t n:Int)(xs:List Int):Prop:= ∀u:Int,0≤u→u<t→kE (aA (aB xs (qX t n u)) 49 3)=false
theorem ZF{t n:Int}{x:HDS}{s:MS}(h:x.tk=false)(ha:0≤x.at'∧x.at'<t)(ht:t≤1000)(hz:PZ t n s.xs):hdF t n x s=⟨ile t (x.at'+1),{x with at':=x.at'+1,tk:=false},s.loadd (qX t n x.at')⟩:=by
 unfold hdF hdT Q4
 have hp:kE (aA (aB s.3 (2*n+5+2*t+3*x.3+2)) 49 3)=false:=hz x.at' ha.1 ha.2
 have hw:W (x.3+1)=x.3+1:=cJ ⟨by have:0≤x.3:=ha.1;omega,by have:x.3<t:=ha.2;omega⟩
 simp only [Tr.val,w08,w09,w21,w1x,w2a,w1z,w23,w24,w27,w29,w22,w1w,w20,w28,w26,w25,w1y,h,hp,hw,Bool.not_false,cond_true]
 rfl
theorem y0{t n:Int} : ∀(k:Nat) (x:HDS) (s:MS),x.tk=false→0≤x.at'→x.at'+k+1=t→t≤1000→PZ t n s.xs→
 ∃z s',End (MZ t n) (k+1) (x,s) (z,s')∧z.u=x.u∧s'.xs=s.xs∧s'.c=s.c+(k+1:Nat)∧s'.t=s.t∧s'.n=s.n
 | 0,x,s,h1,h2,h3,h4,h5=>by
   have e:=ZF (n:=n) h1 ⟨h2,by omega⟩ h4 h5
   have q:ile t (x.at'+1)=true:=by rw [bX];exact decide_eq_true (by omega)
   rw [q]at e
   exact⟨_,_,End.one (Q2 e),rfl,rfl,rfl,rfl,rfl⟩
 | k+1,x,s,h1,h2,h3,h4,h5=>by
   have e:=ZF (n:=n) h1 ⟨h2,by omega⟩ h4 h5
   have q:ile t (x.at'+1)=false:=by rw [bX];exact decide_eq_false (by omega)
   rw [q]at e
   obtain⟨z,s',g1,g2,g3,g4,g5,g6⟩:=y0 k {x with at':=x.at'+1,tk:=false} (s.loadd (qX t n x.at')) rfl (by show 0≤x.at'+1;omega) (by show x.at'+1+k+1=t;omega) h4 h5
   exact⟨z,s',End.cons (Q2 e) g1,g2,g3,by rw [g4];show s.c+1+_=_;omega,g5,g6⟩
def drG(t n:Int)(p:DRS×MS):Bool×(DRS×MS):=((drF t n p.1 p.2).d,((drF t n p.1 p.2).x,(drF t n p.1 p.2).s))
theorem P9(t n me:Int)(s:MS): ∃z s1,End (drG t n) 2 (⟨me,0⟩,s) (z,(s.stored (2*n+5+2*me+0) 0).stored (2*n+5+2*me+1) 0)∧drF t n ⟨me,0⟩ s=⟨false,⟨me,1⟩,s1⟩:=by
 have e1:drF t n ⟨me,0⟩ s=⟨false,⟨me,1⟩,s.stored (2*n+5+2*me+0) 0⟩:=by
  unfold drF Y7 LY
  have hw:W (0+1)=1:=by decide
  simp only [Tr.val,w08,w09,w21,w1x,w2a,w1z,w23,w24,w27,w29,w22,w1w,w20,w28,w26,w25,w1y,hw,show ile 2 1=false by decide]
  rfl
 have e2: ∀s,drF t n ⟨me,1⟩ s=⟨true,⟨me,2⟩,s.stored (2*n+5+2*me+1) 0⟩:=by
  intro s
  unfold drF Y7 LY
  have hw:W (1+1)=2:=by decide
  simp only [Tr.val,w08,w09,w21,w1x,w2a,w1z,w23,w24,w27,w29,w22,w1w,w20,w28,w26,w25,w1y,hw,show ile 2 2=true by decide]
  rfl
 refine⟨_,_,End.cons (b:=(⟨me,1⟩,s.stored (2*n+5+2*me+0) 0)) (by unfold drG;rw [e1]) (End.one (by unfold drG;rw [e2])),e1⟩
def allN(LL:List (List Nd))(S:List STS):List Int:=LL.flatMap (fun L=>L.map Nd.a)++S.flatMap (fun st=>aO st.sp st.R)
theorem fU{α β:Type}(f:α→List β): ∀(l:List α) (i:Nat) (x:α),l[i]? =some x→(l.flatMap f).Perm (f x++(l.eraseIdx i).flatMap f)
 | [],i,x,h=>by simp at h
 | y::l,0,x,h=>by simp at h;subst h;exact List.Perm.refl _
 | y::l,i+1,x,h=>by
   have:=fU f l i x (by simpa using h)
   simp only [List.flatMap_cons,List.eraseIdx_cons_succ]
   refine(List.Perm.append_left (f y) this).trans ?_
   rw [←List.append_assoc,←List.append_assoc]
   exact List.Perm.append_right _ List.perm_append_comm
theorem iL{α β:Type}(f:α→List β): ∀(l:List α) (i:Nat) (x:α),i<l.length→((l.set i x).flatMap f).Perm (f x++(l.eraseIdx i).flatMap f)
 | [],i,x,h=>by simp at h
 | y::l,0,x,h=>by simp
 | y::l,i+1,x,h=>by
   have:=iL f l i x (by simpa using h)
   simp only [List.flatMap_cons,List.eraseIdx_cons_succ,List.set_cons_succ]
   refine(List.Perm.append_left (f y) this).trans ?_
   rw [←List.append_assoc,←List.append_assoc]
   exact List.Perm.append_right _ List.perm_append_comm
structure QL (t n:Int) (xs:List Int) (LL:List (List Nd)) (S:List STS):Prop where
 ht:1≤t∧t≤1000
 hn:1≤n∧n≤500
 len:(xs.length:Int)=2*n+5*t+6
 okw:okW xs
 four:LL.length=4
 hd: ∀(h:Nat) (L:List Nd),LL[h]? =some L→ch n xs (n+1+h) L∧mkW (aB xs (n+1+h))=false∧clW' (aB xs (n+1+h))=0
 nd:(allN LL S).Nodup
 rng: ∀b∈allN LL S,1≤b∧b≤n
 tk: ∀b,1≤b∧b≤n→(dB n xs b=true↔b∈allN LL S)
 me: ∀(i:Nat) (st:STS),S[i]? =some st→st.me=i∧(i:Int)<t
theorem QL.mc{t n:Int}{LL:List (List Nd)}{S:List STS}{s:MS}(h:QL t n s.xs LL S):MC t n s:=⟨h.ht,h.hn,h.len,h.okw⟩
theorem fY{α:Type}{l:List α}{i:Nat}{x:α}(h:l[i]? =some x):i<l.length:=by
 rw [List.getElem?_eq_some_iff]at h;exact h.1
theorem iF{t n:Int}{xs:List Int}{LL:List (List Nd)}{S:List STS}(q:QL t n xs LL S){h:Nat}{L:List Nd}(hL:LL[h]? =some L):(L.map Nd.a).Nodup ∧(∀b∈L.map Nd.a,1≤b∧b≤n)∧(∀b∈L.map Nd.a,b∈allN LL S):=by
 have p:=fU (fun L:List Nd=>L.map Nd.a) LL h L hL
 have m: ∀b∈L.map Nd.a,b∈allN LL S:=fun b hb=>List.mem_append_left _ (p.symm.subset (List.mem_append_left _ hb))
 have nd:(LL.flatMap fun L:List Nd=>L.map Nd.a).Nodup :=(List.nodup_append.1 q.nd).1
 exact⟨(List.nodup_append.1 (p.nodup_iff.1 nd)).1,fun b hb=>q.rng b (m b hb),m⟩
theorem gI{t n:Int}{xs:List Int}{LL:List (List Nd)}{S:List STS}(q:QL t n xs LL S){i:Nat}{st:STS}(hS:S[i]? =some st):(aO st.sp st.R).Nodup ∧(∀b∈aO st.sp st.R,1≤b∧b≤n)∧(∀b∈aO st.sp st.R,b∈allN LL S):=by
 have p:=fU (fun st:STS=>aO st.sp st.R) S i st hS
 have m: ∀b∈aO st.sp st.R,b∈allN LL S:=fun b hb=>List.mem_append_right _ (p.symm.subset (List.mem_append_left _ hb))
 have nd:(S.flatMap fun st:STS=>aO st.sp st.R).Nodup :=(List.nodup_append.1 q.nd).2.1
 exact⟨(List.nodup_append.1 (p.nodup_iff.1 nd)).1,fun b hb=>q.rng b (m b hb),m⟩
theorem tD{t n:Int}{xs:List Int}{LL:List (List Nd)}{S:List STS}(q:QL t n xs LL S){i h:Nat}{st:STS}{L:List Nd}(hS:S[i]? =some st)(hL:LL[h]? =some L): ∀b∈aO st.sp st.R,b∉L.map Nd.a:=by
 intro b hb hc
 have p:=fU (fun st:STS=>aO st.sp st.R) S i st hS
 have p2:=fU (fun L:List Nd=>L.map Nd.a) LL h L hL
 exact(List.nodup_append.1 q.nd).2.2 b (p2.symm.subset (List.mem_append_left _ hc)) b (p.symm.subset (List.mem_append_left _ hb)) rfl
theorem mG{sp:Int}{R:List Int}{r:Int}(h:r∈R):r∈aO sp R:=by
 unfold aO
 cases ieq sp 0 with
 | true=>exact h
 | false=>exact List.mem_cons_of_mem _ h
theorem qS{sp:Int}{R:List Int}(h:(aO sp R).Nodup):R.Nodup:=by
 unfold aO at h
 cases q:ieq sp 0 with
 | true=>rw [q]at h;exact h
 | false=>rw [q]at h;exact(List.nodup_cons.1 h).2
theorem A7(R:List Int):aO 0 R=R:=rfl
theorem lE{sp:Int}(h:sp≠0)(R:List Int):aO sp R=sp::R:=by
 unfold aO
 have:ieq sp 0=false:=by rw [bI,beq_eq_false_iff_ne];exact h
 rw [this];rfl
theorem QL.agree{t n:Int}{xs ys:List Int}{LL:List (List Nd)}{S S':List STS}(q:QL t n xs LL S)(len:ys.length=xs.length)(ok:okW ys)(e: ∀a,1≤a∧a≤n+4→aB ys a=aB xs a)
 (nd:(allN LL S').Nodup) (rng: ∀b∈allN LL S',1≤b∧b≤n) (tk: ∀b,1≤b∧b≤n→(dB n ys b=true↔b∈allN LL S')) (me: ∀(i:Nat) (st:STS),S'[i]? =some st→st.me=i∧(i:Int)<t):QL t n ys LL S' where
 ht:=q.ht
 hn:=q.hn
 len:=by rw [len];exact q.len
 okw:=ok
 four:=q.four
 hd:=by
  intro h L hL
  obtain⟨h1,h2,h3⟩:=q.hd h L hL
  have hh:h<4:=by have:=fY hL;rw [q.four]at this;exact this
  have hn:=q.hn
  have eh:=e (n+1+h) (by omega)
  refine⟨jT h1 (fun b hb=>e b ?_),by rw [eh];exact h2,by rw [eh];exact h3⟩
  rcases List.mem_cons.1 hb with r | r
  ·omega
  ·have:=(iF q hL).2.1 b r;omega
 nd:=nd
 rng:=rng
 tk:=tk
 me:=me
theorem pI{α:Type}{l:List α}{i j:Nat}{x y:α}(h:(l.set i x)[j]? =some y):(i=j∧x=y)∨(l[j]? =some y∧i≠j):=by
 rw [List.getElem?_set]at h
 by_cases e:i=j
 ·rw [if_pos e]at h
  split at h
  ·exact .inl ⟨e,by simpa using h⟩
  ·cases h
 ·rw [if_neg e]at h
  exact .inr ⟨h,e⟩
theorem H0{t:Int}{S:List STS}{i:Nat}{st st':STS}(h: ∀(j:Nat) (x:STS),S[j]? =some x→x.me=j∧(j:Int)<t)(hS:S[i]? =some st)(e:st'.me=st.me): ∀(j:Nat) (x:STS),(S.set i st')[j]? =some x→x.me=j∧(j:Int)<t:=by
 intro j x hx
 rcases pI hx with⟨rfl,rfl⟩ | ⟨h1,_⟩
 ·rw [e];exact h i st hS
 ·exact h j x h1
theorem J7{n a b:Int}(hn:1≤n)(ha:1≤a∧a≤n+4)(hb:1≤b):a≠n+4+b:=by omega
theorem NQ{t n:Int}{xs:List Int}{b c v:Int}(hin:0≤n+4+b∧n+4+b<xs.length):dB n (aS xs (n+4+b) v) c=if c=b then oddB v else dB n xs c:=by
 unfold dB
 rw [wW hin]
 by_cases e:c=b
 ·rw [if_pos e,if_pos (by omega)]
 ·rw [if_neg e,if_neg (by omega)]
theorem QL.take{t n:Int}{xs:List Int}{LL:List (List Nd)}{S:List STS}(q:QL t n xs LL S){i:Nat}{st:STS}(hS:S[i]? =some st)(hz:st.sp=0){b:Int}(hb:1≤b∧b≤n)(hf:dB n xs b=false):
 QL t n (aS xs (n+4+b) (aB xs (n+4+b)+1)) LL (S.set i {st with sp:=b}):=by
 have hn:=q.hn
 have ht:=q.ht
 have hin:0≤n+4+b∧n+4+b<xs.length:=by have:=q.len;omega
 have hw:=iP q.okw (n+4+b)
 have hev: ¬aB xs (n+4+b)%2=1:=by
  intro h
  have:dB n xs b=true:=(gJ hw.1).2 h
  rw [this]at hf;cases hf
 have hb0:b∉allN LL S:=fun h=>by
  have:=(q.tk b hb).2 h
  rw [this]at hf;cases hf
 have p0:=fU (fun st:STS=>aO st.sp st.R) S i st hS
 have p1:=iL (fun st:STS=>aO st.sp st.R) S i {st with sp:=b} (fY hS)
 have pp:(allN LL (S.set i {st with sp:=b})).Perm (b::allN LL S):=by
  refine(List.Perm.append_left _ p1).trans ?_
  have h1:aO b st.R=b::aO st.sp st.R:=by rw [hz,A7,lE (by omega)]
  show(_++(aO b st.R++_)).Perm _
  rw [h1]
  refine List.Perm.trans ?_ (List.Perm.cons b (List.Perm.append_left _ p0.symm))
  rw [List.cons_append]
  exact List.perm_middle
 refine q.agree (cC _ _ _) (eH q.okw (by omega)) (fun a ha=>cO (J7 hn.1 ha hb.1)) (pp.nodup_iff.2 (List.nodup_cons.2 ⟨hb0,q.nd⟩)) (fun c hc=>?_) (fun c hc=>?_) (H0 q.me hS rfl)
 ·rcases List.mem_cons.1 (pp.subset hc)with e | e
  ·rw [e];exact hb
  ·exact q.rng c e
 ·rw [NQ (t:=t) hin]
  by_cases e:c=b
  ·rw [if_pos e,e]
   exact⟨fun _=>pp.symm.subset (List.mem_cons_self ..),fun _=>(gJ (by omega)).2 (by omega)⟩
  ·rw [if_neg e,q.tk c hc]
   exact⟨fun h=>pp.symm.subset (List.mem_cons_of_mem _ h),fun h=>(List.mem_cons.1 (pp.subset h)).resolve_left e⟩
theorem T0{x:Int}(h:0≤x∧x≤18446744073709551615)(ho:x%2=1):WU (x+1)%2=0:=by
 by_cases q:x+1≤18446744073709551615
 ·have q2:WU (x+1)=x+1:=i4 ⟨by omega,q⟩
  rw [q2];omega
 ·have q3:x+1=18446744073709551616:=by omega
  rw [q3];decide
theorem QL.give{t n:Int}{xs:List Int}{LL:List (List Nd)}{S:List STS}(q:QL t n xs LL S){i:Nat}{st:STS}(hS:S[i]? =some st):QL t n (fC n st.R xs) LL (S.set i {st with R:=[] }):=by
 have hn:=q.hn
 have ht:=q.ht
 obtain⟨h1,h2,h3⟩:=gI q hS
 have hR:=qS h1
 have hr: ∀r∈st.R,1≤r∧r≤n:=fun r h=>h2 r (mG h)
 have hin: ∀r∈st.R,0≤n+4+r∧n+4+r<xs.length:=fun r h=>by have:=hr r h;have:=q.len;omega
 have p0:=fU (fun st:STS=>aO st.sp st.R) S i st hS
 have p1:=iL (fun st:STS=>aO st.sp st.R) S i {st with R:=[] } (fY hS)
 have ph:(aO st.sp st.R).Perm (st.R++aO st.sp []):=by
  unfold aO
  cases ieq st.sp 0 with
  | true=>simp
  | false=>simpa using(List.perm_append_comm (l₁:=[st.sp]) (l₂:=st.R))
 have pp:(allN LL S).Perm (st.R++allN LL (S.set i {st with R:=[] })):=by
  unfold allN
  refine(List.Perm.append_left _ p0).trans ?_
  refine List.Perm.trans ?_ (List.Perm.append_left _ (List.Perm.append_left _ p1.symm))
  refine(List.Perm.append_left _ (List.Perm.append_right _ ph)).trans ?_
  exact List.perm_iff_count.2 (fun a=>by simp only [List.count_append];omega)
 have nd2:=pp.nodup_iff.1 q.nd
 have nd3:=List.nodup_append.1 nd2
 refine q.agree (tB _ _ _) (tC _ _ _ q.okw) (fun a ha=>gW _ _ (fun r h=>J7 hn.1 ha (hr r h).1)) nd3.2.1 (fun c hc=>q.rng c (pp.symm.subset (List.mem_append_right _ hc))) (fun c hc=>?_) (H0 q.me hS rfl)
 by_cases e:c∈st.R
 ·have g:=wK st.R xs hR e hin
  have hw:=iP q.okw (n+4+c)
  have ho:aB xs (n+4+c)%2=1:=(gJ hw.1).1 ((q.tk c hc).2 (pp.symm.subset (List.mem_append_left _ e)))
  have hv:=T0 hw ho
  have hw2:=sU (aB xs (n+4+c)+1)
  constructor
  ·intro h
   exfalso
   have h:oddB (aB (fC n st.R xs) (n+4+c))=true:=h
   rw [g,gJ hw2.1]at h;omega
  ·intro h
   exact absurd rfl (nd3.2.2 c e c h)
 ·have g:aB (fC n st.R xs) (n+4+c)=aB xs (n+4+c):=gW _ _ (fun r h e2=>e (by rw [show c=r from(by omega)];exact h))
  have g2:dB n (fC n st.R xs) c=dB n xs c:=by unfold dB;rw [g]
  rw [g2,q.tk c hc]
  exact⟨fun h=>(List.mem_append.1 (pp.subset h)).resolve_left e,fun h=>pp.symm.subset (List.mem_append_right _ h)⟩
theorem QL.out{t n:Int}{xs ys:List Int}{LL:List (List Nd)}{S:List STS}(q:QL t n xs LL S)(len:ys.length=xs.length)(ok:okW ys)(e: ∀a,a≤2*n+4→aB ys a=aB xs a):QL t n ys LL S:=by
 refine q.agree len ok (fun a ha=>e a (by have:=q.hn;omega)) q.nd q.rng (fun b hb=>?_) q.me
 rw [←q.tk b hb]
 unfold dB
 rw [e _ (by omega)]
theorem vI(k:Int): ∀L:List Nd,L.Perm ((sc k L).1++(sc k L).2.1++(sc k L).2.2)
 | []=>List.Perm.refl _
 | b::L=>by
   have ih:=vI k L
   cases hm:b.m with
   | true=>
     rw [kR hm]
     refine(List.Perm.cons b ih).trans ?_
     simp only [List.append_assoc,List.cons_append]
     exact List.perm_middle.symm
   | false=>
     by_cases hk:k≤b.k
     ·rw [kS hm hk];exact List.Perm.refl _
     ·rw [jF hm (by omega)];exact List.Perm.cons b ih
theorem D0(sh ky:Int):(b9 sh ky).toNat <4:=by have:=cW sh ky;omega
theorem wL(sh ky:Int):(((b9 sh ky).toNat :Nat):Int)=b9 sh ky:=by have:=cW sh ky;omega
def bP(LL:List (List Nd))(sh ky:Int):List Nd:=LL.getD (b9 sh ky).toNat []
theorem QL.at{t n:Int}{xs:List Int}{LL:List (List Nd)}{S:List STS}(q:QL t n xs LL S)(sh ky:Int):LL[(b9 sh ky).toNat]? =some (bP LL sh ky):=by
 have h:(b9 sh ky).toNat <LL.length:=by rw [q.four];exact D0 _ _
 unfold bP
 rw [gD',gE' h];rfl
theorem l7: ∀(l m:List Int),l.Nodup→(∀a∈l,a∈m)→l.length≤m.length
 | [],m,_,_=>Nat.zero_le _
 | a::l,m,h,hs=>by
   have h:=List.nodup_cons.1 h
   have ha:=hs a (List.mem_cons_self ..)
   have:=l7 l (m.erase a) h.2 (fun b hb=>(List.mem_erase_of_ne (by rintro rfl;exact h.1 hb)).2 (hs b (List.mem_cons_of_mem _ hb)))
   rw [List.length_erase_of_mem ha]at this
   have:0<m.length:=List.length_pos_of_mem ha
   simp only [List.length_cons]
   omega
theorem fH{l:List Int}{n:Int}(hn:0≤n)(h:l.Nodup)(hr: ∀b∈l,1≤b∧b≤n):(l.length:Int)≤n:=by
 have hs: ∀b∈l,b∈((List.range n.toNat).map fun i:Nat=>(i:Int)+1):=by
  intro b hb
  have:=hr b hb
  exact List.mem_map.2 ⟨(b - 1).toNat,List.mem_range.2 (by omega),by omega⟩
 have:=l7 _ _ h hs
 rw [List.length_map,List.length_range]at this
 omega
theorem QL.lc{t n:Int}{xs:List Int}{LL:List (List Nd)}{S:List STS}(q:QL t n xs LL S)(sh ky:Int){i:Nat}{st:STS}(hS:S[i]? =some st):LC t n st.me (n+1+b9 sh ky) (bP LL sh ky) xs:=by
 have hL:=q.at sh ky
 obtain⟨h1,h2,h3⟩:=q.hd _ _ hL
 obtain⟨d1,d2,d3⟩:=iF q hL
 have hh:=cW sh ky
 have hm:=q.me i st hS
 have hn:=q.hn
 rw [wL]at h1 h2 h3
 refine⟨q.ht,q.hn,q.len,by omega,by omega,h2,h3,h1,List.nodup_cons.2 ⟨fun h=>?_,d1⟩,?_⟩
 ·have:=d2 _ h;omega
 ·have:=fH (by omega) d1 d2
  rw [List.length_map]at this
  exact this
theorem QL.move{t n:Int}{xs ys:List Int}{LL:List (List Nd)}{S:List STS}(q:QL t n xs LL S){h i:Nat}{L L':List Nd}{st st':STS}(hL:LL[h]? =some L)(hS:S[i]? =some st)(hme:st'.me=st.me)
 (len:ys.length=xs.length) (ok:okW ys)
 (pp:(L'.map Nd.a++aO st'.sp st'.R).Perm (L.map Nd.a++aO st.sp st.R))
 (hch:ch n ys (n+1+h) L'∧mkW (aB ys (n+1+h))=false∧clW' (aB ys (n+1+h))=0)
 (same: ∀a,1≤a∧a≤2*n+4→a≠n+1+h→a∉L.map Nd.a→a≠st.sp→aB ys a=aB xs a):QL t n ys (LL.set h L') (S.set i st'):=by
 have hn:=q.hn
 have hh:h<4:=by have:=fY hL;rw [q.four]at this;exact this
 have p0:=fU (fun L:List Nd=>L.map Nd.a) LL h L hL
 have p1:=iL (fun L:List Nd=>L.map Nd.a) LL h L' (fY hL)
 have q0:=fU (fun st:STS=>aO st.sp st.R) S i st hS
 have q1:=iL (fun st:STS=>aO st.sp st.R) S i st' (fY hS)
 have pall:(allN (LL.set h L') (S.set i st')).Perm (allN LL S):=by
  unfold allN
  refine(List.Perm.append p1 q1).trans (List.Perm.trans ?_ (List.Perm.append p0 q0).symm)
  have pc:=List.perm_iff_count.1 pp
  refine List.perm_iff_count.2 (fun a=>?_)
  have:=pc a
  simp only [List.count_append]at this⊢
  omega
 have hdj:=tD q hS hL
 have spd: ∀b,b∈allN LL S→b=st.sp→b∉L.map Nd.a:=by
  intro b _ e
  by_cases z:st.sp=0
  ·intro hb;have:=(iF q hL).2.1 b hb;omega
  ·exact hdj b (by rw [e,lE z];exact List.mem_cons_self ..)
 refine {ht:=q.ht,hn:=q.hn,len:=by rw [len];exact q.len,okw:=ok,four:=by rw [List.length_set];exact q.four,hd:=?_,nd:=pall.nodup_iff.2 q.nd,rng:=fun b hb=>q.rng b (pall.subset hb),tk:=fun b hb=>?_,me:=H0 q.me hS hme}
 ·intro g M hM
  rcases pI hM with⟨rfl,rfl⟩ | ⟨hM,hne⟩
  ·exact hch
  ·obtain⟨k1,k2,k3⟩:=q.hd g M hM
   have hg:g<4:=by have:=fY hM;rw [q.four]at this;exact this
   have hsp: ∀b∈M.map Nd.a,b≠st.sp:=by
    intro b hb e
    by_cases z:st.sp=0
    ·have:=(iF q hM).2.1 b hb;omega
    ·exact tD q hS hM b (by rw [e,lE z];exact List.mem_cons_self ..) hb
   have hLM: ∀b∈M.map Nd.a,b∉L.map Nd.a:=by
    intro b hb hc
    have r0:=p0.nodup_iff.1 (List.nodup_append.1 q.nd).1
    refine(List.nodup_append.1 r0).2.2 b hc b ?_ rfl
    have hMe:M∈LL.eraseIdx h:=by
     refine List.mem_iff_getElem?.2 ?_
     rcases Nat.lt_or_ge g h with hl | hl
     ·exact⟨g,by rw [List.getElem?_eraseIdx_of_lt hl];exact hM⟩
     ·exact⟨g - 1,by rw [List.getElem?_eraseIdx_of_ge (by omega),show g - 1+1=g by omega];exact hM⟩
    exact List.mem_flatMap.2 ⟨M,hMe,hb⟩
   have sg: ∀a,a=n+1+g∨a∈M.map Nd.a→aB ys a=aB xs a:=by
    intro a ha
    rcases ha with e | e
    ·refine same a (by omega) (by omega) (fun hh=>?_) (fun e2=>?_)
     ·have:=(iF q hL).2.1 a hh;omega
     ·by_cases z:st.sp=0
      ·omega
      ·have:=(gI q hS).2.1 st.sp (by rw [lE z];exact List.mem_cons_self ..);omega
    ·have:=(iF q hM).2.1 a e
     exact same a (by omega) (by omega) (hLM a e) (hsp a e)
   refine⟨jT k1 (fun b hb=>sg b (by rcases List.mem_cons.1 hb with r | r;exact .inl r;exact .inr r)),?_,?_⟩
   ·rw [sg _ (.inl rfl)];exact k2
   ·rw [sg _ (.inl rfl)];exact k3
 ·have e:aB ys (n+4+b)=aB xs (n+4+b):=by
   refine same _ (by omega) (by omega) (fun hh=>?_) (fun e2=>?_)
   ·have:=(iF q hL).2.1 _ hh;omega
   ·by_cases z:st.sp=0
    ·omega
    ·have:=(gI q hS).2.1 st.sp (by rw [lE z];exact List.mem_cons_self ..);omega
  have e2:dB n ys b=dB n xs b:=by unfold dB;rw [e]
  rw [e2,q.tk b hb]
  exact⟨fun h=>pall.symm.subset h,fun h=>pall.subset h⟩
theorem oB(sp:Int)(R X:List Int):aO sp (R++X)=aO sp R++X:=by
 unfold aO
 cases ieq sp 0<;>rfl
def fZ(sh kd ky sp:Int)(L:List Nd):List Nd:=(sc (bW sh kd ky) L).1++(paOf sh kd ky (sc (bW sh kd ky) L).2.2).new ky sp (sc (bW sh kd ky) L).2.2
def gA(sh kd ky:Int)(L:List Nd)(st:STS):STS:=⟨st.me,(paOf sh kd ky (sc (bW sh kd ky) L).2.2).sp st.sp,st.R++(sc (bW sh kd ky) L).2.1.map Nd.a++(paOf sh kd ky (sc (bW sh kd ky) L).2.2).pops (sc (bW sh kd ky) L).2.2⟩
theorem yV{sh kd ky:Int}{L:List Nd}{st:STS}(hl:bV kd=true→st.sp≠0):((fZ sh kd ky st.sp L).map Nd.a++aO (gA sh kd ky L st).sp (gA sh kd ky L st).R).Perm (L.map Nd.a++aO st.sp st.R):=by
 have pL:=(vI (bW sh kd ky) L).map Nd.a
 unfold fZ gA
 generalize (sc (bW sh kd ky) L).1=A at*
 generalize (sc (bW sh kd ky) L).2.1=U at*
 generalize (sc (bW sh kd ky) L).2.2=B at*
 rw [List.map_append,List.map_append]at pL
 have pc:=List.perm_iff_count.1 pL
 refine List.perm_iff_count.2 (fun a=>?_)
 have pa:=pc a
 cases hact:paOf sh kd ky B with
 | now b=>
   simp only [Pa.new,Pa.sp,Pa.pops,List.append_nil,oB,List.map_append,List.count_append]at pa⊢
   omega
 | link=>
   have hz:=hl (BG hact)
   simp only [Pa.new,Pa.sp,Pa.pops,List.append_nil,oB,A7,lE hz,List.map_append,List.map_cons,List.count_append,List.count_cons]at pa⊢
   omega
 | mark v=>
   obtain⟨b,B',rfl⟩:=BH hact
   simp only [Pa.new,Pa.sp,Pa.pops,List.append_nil,oB,List.map_append,List.map_cons,List.count_append,List.count_cons]at pa⊢
   omega
 | pop v=>
   obtain⟨b,B',rfl⟩:=R1 hact
   simp only [Pa.new,Pa.sp,Pa.pops,List.tail_cons,hdN,oB,List.map_append,List.map_cons,List.count_append,List.count_cons,List.count_nil]at pa⊢
   omega
theorem QL.fast{t n:Int}{LL:List (List Nd)}{S:List STS}{s s':MS}{sh kd ky:Int}{i j:Nat}{st:STS}(q:QL t n s.xs LL S)(hS:S[i]? =some st)(hl:bV kd=true→st.sp≠0)
 (f:FtA n st.me (n+1+b9 sh ky) (bP LL sh ky) (bW sh kd ky) ky st.sp (paOf sh kd ky (sc (bW sh kd ky) (bP LL sh ky)).2.2) s s' j):
 QL t n s'.xs (LL.set (b9 sh ky).toNat (fZ sh kd ky st.sp (bP LL sh ky))) (S.set i (gA sh kd ky (bP LL sh ky) st)):=by
 have hh:=wL sh ky
 have hm:=q.me i st hS
 refine q.move (q.at sh ky) hS rfl f.len (f.okw q.okw) (yV hl) ⟨?_,?_,?_⟩ (fun a ha h1 h2 h3=>f.same a (by omega) (by omega) (fun h=>?_) h3)
 ·rw [hh];exact f.ch
 ·rw [hh];exact f.mp
 ·rw [hh];exact f.cp
 ·rcases List.mem_cons.1 h with e | e
  ·omega
  ·exact h2 e
theorem QL.find{t n:Int}{LL:List (List Nd)}{S:List STS}{s s':MS}{x z:FNS}{h i j:Nat}{L:List Nd}{st:STS}(q:QL t n s.xs LL S)(hL:LL[h]? =some L)(hS:S[i]? =some st)(hme:x.me=st.me)
 (f:KY n (n+1+h) L x s z s' j):
 QL t n s'.xs (LL.set h ((sc x.key L).1++(sc x.key L).2.2)) (S.set i ⟨st.me,st.sp,st.R++(sc x.key L).2.1.map Nd.a⟩):=by
 have hm:=q.me i st hS
 obtain⟨k1,k2,k3⟩:=q.hd h L hL
 refine q.move hL hS rfl f.len (f.okw q.okw) ?_ ⟨f.ch,f.p3.2.1.trans k2,f.p3.2.2.trans k3⟩ (fun a ha h1 h2 h3=>f.same a (by rw [hme];omega) (by rw [hme];omega) (fun h=>?_))
 ·have pL:=(vI x.key L).map Nd.a
  rw [List.map_append,List.map_append]at pL
  have pc:=List.perm_iff_count.1 pL
  refine List.perm_iff_count.2 (fun a=>?_)
  have pa:=pc a
  simp only [oB,List.map_append,List.count_append]at pa⊢
  omega
 ·rcases List.mem_cons.1 h with e | e
  ·exact h1 e
  ·exact h2 (kC (vH _ _) e)
def uk(L:List Nd):List Int:=(L.filter (fun b=>!b.m)).map Nd.k
theorem lM(A B:List Nd):uk (A++B)=uk A++uk B:=by unfold uk;rw [List.filter_append,List.map_append]
theorem KW: ∀ {A:List Nd},(∀b∈A,b.m=false)→uk A=A.map Nd.k
 | [],_=>rfl
 | b::A,h=>by
   have hb:=h b (List.mem_cons_self ..)
   have ih:=KW (A:=A) (fun c hc=>h c (List.mem_cons_of_mem _ hc))
   unfold uk at ih⊢
   rw [List.filter_cons,hb]
   simp only [Bool.not_false,if_true,List.map_cons,ih]
theorem uZ(b:Nd)(L:List Nd):uk (b::L)=if b.m then uk L else b.k::uk L:=by
 unfold uk
 cases hb:b.m<;>simp [List.filter_cons,hb]
def dA(k:Int)(x:Int):Bool:=decide (x<k)
theorem TH(k:Int): ∀L:List Nd,(sc k L).1.map Nd.k=(uk L).takeWhile (dA k)∧uk (sc k L).2.2=(uk L).dropWhile (dA k)
 | []=>⟨rfl,rfl⟩
 | b::L=>by
   obtain⟨h1,h2⟩:=TH k L
   cases hm:b.m with
   | true=>rw [kR hm,uZ,hm];exact⟨h1,h2⟩
   | false=>
     rw [uZ,hm]
     by_cases hk:k≤b.k
     ·have hb:dA k b.k=false:=decide_eq_false (by omega)
      rw [kS hm hk]
      simp only [Bool.false_eq_true,if_false,List.takeWhile_cons,List.dropWhile_cons,hb,uZ,hm,List.map_nil]
      exact⟨trivial,trivial⟩
     ·have hb:dA k b.k=true:=decide_eq_true (by omega)
      rw [jF hm (by omega)]
      simp only [Bool.false_eq_true,if_false,List.takeWhile_cons,List.dropWhile_cons,hb,if_true,List.map_cons,h1,h2]
      exact⟨trivial,trivial⟩
def yO(sh kd ky:Int)(u:List Int):(Bool×Int)×List Int:=
 if kd=4 then((true,0),u.takeWhile (dA (bW sh kd ky))++ky::u.dropWhile (dA (bW sh kd ky)))
 else if kd=1 then(if (u.dropWhile (dA (bW sh kd ky))).head? =some ky then((false,0),u)else((true,0),u.takeWhile (dA (bW sh kd ky))++ky::u.dropWhile (dA (bW sh kd ky))))
 else if kd=2 then(if (u.dropWhile (dA (bW sh kd ky))).head? =some ky then((true,0),u.takeWhile (dA (bW sh kd ky))++(u.dropWhile (dA (bW sh kd ky))).tail)else((false,0),u))
 else if kd=3 then((decide ((u.dropWhile (dA (bW sh kd ky))).head? =some ky),0),u)
 else match u.dropWhile (dA (bW sh kd ky))with
  | []=>((false,0),u)
  | x::v=>((true,x),u.takeWhile (dA (bW sh kd ky))++v)
theorem ME(sh kd ky sp:Int)(L:List Nd):(paOf sh kd ky (sc (bW sh kd ky) L).2.2).ok =(yO sh kd ky (uk L)).1.1∧(paOf sh kd ky (sc (bW sh kd ky) L).2.2).val =(yO sh kd ky (uk L)).1.2∧uk (fZ sh kd ky sp L)=(yO sh kd ky (uk L)).2:=by
 obtain⟨h1,h2⟩:=TH (bW sh kd ky) L
 have hu:=zQ (bW sh kd ky) L
 have hd:=KL (bW sh kd ky) L
 have hall:uk L=(sc (bW sh kd ky) L).1.map Nd.k++uk (sc (bW sh kd ky) L).2.2:=by rw [h1,h2,List.takeWhile_append_dropWhile]
 unfold yO fZ
 rw [←h1,←h2]
 generalize (sc (bW sh kd ky) L).1=A at*
 generalize (sc (bW sh kd ky) L).2.2=B at*
 have hA:=KW hu
 have hf:((uk B).head? =some ky)↔fndB ky B=true:=by
  cases B with
  | nil=>simp [uk,fndB]
  | cons b B'=>
    rw [uZ,(hd b B' rfl).1]
    simp [fndB,bI]
 have hfd:decide ((uk B).head? =some ky)=fndB ky B:=by
  cases q:fndB ky B with
  | true=>exact decide_eq_true (hf.2 q)
  | false=>exact decide_eq_false (fun r=>by rw [hf.1 r]at q;cases q)
 have hhd:fndB ky B=true→ ∃b B',B=b::B'∧b.k=ky∧b.m=false:=by
  intro q
  cases B with
  | nil=>cases q
  | cons b B'=>exact⟨b,B',rfl,by simpa [fndB,bI]using q,(hd b B' rfl).1⟩
 unfold paOf
 by_cases e4:kd=4
 ·rw [if_pos e4,if_pos e4]
  refine⟨rfl,rfl,?_⟩
  rw [Pa.new,lM,hA,uZ];rfl
 rw [if_neg e4,if_neg e4]
 by_cases e1:kd=1
 ·rw [if_pos e1,if_pos e1]
  cases q:fndB ky B with
  | true=>
    rw [if_pos (hf.2 q)]
    refine⟨rfl,rfl,?_⟩
    rw [cond_true,Pa.new,lM,hA,←hall]
  | false=>
    rw [if_neg (fun r=>by rw [hf.1 r]at q;cases q)]
    refine⟨rfl,rfl,?_⟩
    rw [cond_false,Pa.new,lM,hA,uZ];rfl
 rw [if_neg e1,if_neg e1]
 by_cases e2:kd=2
 ·rw [if_pos e2,if_pos e2]
  cases q:fndB ky B with
  | true=>
    obtain⟨b,B',rfl,hk,hm⟩:=hhd q
    rw [if_pos (hf.2 q)]
    refine⟨rfl,rfl,?_⟩
    rw [cond_true,Pa.new,lM,hA,uZ,uZ,hm];rfl
  | false=>
    rw [if_neg (fun r=>by rw [hf.1 r]at q;cases q)]
    refine⟨rfl,rfl,?_⟩
    rw [cond_false,Pa.new,lM,hA,←hall]
 rw [if_neg e2,if_neg e2]
 by_cases e3:kd=3
 ·rw [if_pos e3,if_pos e3]
  refine⟨hfd.symm,rfl,?_⟩
  rw [Pa.new,lM,hA,←hall]
 rw [if_neg e3,if_neg e3]
 cases B with
 | nil=>
   refine⟨rfl,rfl,?_⟩
   show uk (A++ [])=uk L
   rw [lM,hA,←hall]
 | cons b B'=>
   have hm:=(hd b B' rfl).1
   have hu2:uk (b::B')=b.k::uk B':=by rw [uZ,hm];rfl
   rw [hu2]
   by_cases e5:sh=4
   ·simp only [if_pos e5]
    refine⟨rfl,rfl,?_⟩
    rw [Pa.new,lM,hA];rfl
   ·simp only [if_neg e5]
    refine⟨rfl,rfl,?_⟩
    rw [Pa.new,lM,hA,uZ];rfl
theorem sB{f:Nat→Int}{n:Nat}(h:f n=4):bH f (n+1)=bH f n+1:=by
 show(bif ieq (f n) 4 then _ else _)=_;rw [h,bE];rfl
theorem pG{f:Nat→Int}{n:Nat}(h:f n=5):bH f (n+1)=if 0<bH f n then bH f n - 1 else 0:=by
 show(bif ieq (f n) 4 then _ else bif ilt 0 (bH f n)then _ else _)=_
 rw [h,dT (show(5:Int)≠4 by decide),cond_false,bJ]
 have:=kA f n
 by_cases e:0<bH f n
 ·rw [decide_eq_true e,if_pos e];rfl
 ·rw [decide_eq_false e,if_neg e,cond_false];omega
theorem FL{f g:Nat→Int}{n:Nat}(h:f n=4):cN f g (n+1)=cN f g n++ [g n]:=by
 show(bif ieq (f n) 4 then _ else _)=_;rw [h,bE];rfl
theorem zN{f g:Nat→Int}{n:Nat}(h:f n=5):cN f g (n+1)=cN f g n:=by
 show(bif ieq (f n) 4 then _ else _)=_;rw [h,dT (show(5:Int)≠4 by decide)];rfl
def wN(f:Nat→Int)(n:Nat):Prop:= ∀j,j<n→f j=4∨f j=5
theorem BC{f g:Nat→Int} : ∀n,wN f n→bH f n≤(cN f g n).length
 | 0,_=>Int.le_refl 0
 | n+1,h=>by
   have ih:=BC (g:=g) n (fun j hj=>h j (by omega))
   rcases h n (by omega)with e | e
   ·rw [sB e,FL e,List.length_append];simp;omega
   ·rw [pG e,zN e];split<;>omega
theorem EU{f g:Nat→Int}{n:Nat}(h:wN f n)(e:f n=4):l0 f g (n+1)=l0 f g n++ [g n]:=by
 have hl:=BC (g:=g) n h
 have h0:=kA f n
 unfold l0
 rw [sB e,FL e,List.length_append]
 have:((((cN f g n).length + [g n].length :Nat):Int) - (bH f n+1)).toNat =(((cN f g n).length :Int) - bH f n).toNat :=by simp;omega
 rw [this,List.drop_append_of_le_length (by omega)]
theorem y7{f g:Nat→Int}{n:Nat}(h:wN f n)(e:f n=5):l0 f g (n+1)=(l0 f g n).tail :=by
 have hl:=BC (g:=g) n h
 have h0:=kA f n
 unfold l0
 rw [pG e,zN e,List.tail_drop]
 by_cases q:0<bH f n
 ·rw [if_pos q];congr 1;omega
 ·rw [if_neg q]
  have:bH f n=0:=by omega
  rw [this,List.drop_eq_nil_of_le (by omega),List.drop_eq_nil_of_le (by omega)]
theorem lI(f g:Nat→Int): ∀n,eI f g n 0=[]
 | 0=>rfl
 | n+1=>rfl
theorem tJ(f g:Nat→Int)(i:Nat){need:Int}(h:0<need):eI f g (i+1) need=if f i=4∧bH f i=need - 1 then g i::eI f g i (need - 1)else eI f g i need:=by
 show(bif ilt 0 need then(bif ieq (f i) 4&&ieq (bH f i) (need - 1)then _ else _)else _)=_
 rw [bJ,decide_eq_true h,cond_true]
 by_cases e:f i=4∧bH f i=need - 1
 ·rw [if_pos e,e.1,e.2,bE,bE];rfl
 ·rw [if_neg e]
  have:(ieq (f i) 4&&ieq (bH f i) (need - 1))=false:=by
   cases q:(ieq (f i) 4&&ieq (bH f i) (need - 1))with
   | false=>rfl
   | true=>
     simp only [Bool.and_eq_true,bI,beq_iff_eq]at q
     exact absurd q e
  rw [this];rfl
theorem tK{f g:Nat→Int} : ∀n,wN f n→ ∀need,0<need→need≤bH f n→ ∃x,eI f g n need=x::eI f g n (need - 1)
 | 0,_,need,h1,h2=>by
   have:bH f 0=0:=rfl
   omega
 | n+1,h,need,h1,h2=>by
   have hn:=fun j (hj:j<n)=>h j (by omega)
   have h0:=kA f n
   rw [tJ f g n h1]
   rcases h n (by omega)with e | e
   ·rw [sB e]at h2
    by_cases q:bH f n=need - 1
    ·rw [if_pos ⟨e,q⟩]
     refine⟨g n,?_⟩
     by_cases z:need=1
     ·rw [z];rw [show(1:Int) - 1=0 by decide,lI,lI]
     ·rw [tJ f g n (need:=need - 1) (by omega),if_neg (fun r=>by omega)]
    ·rw [if_neg (fun r=>q r.2)]
     obtain⟨x,hx⟩:=tK n hn need h1 (by omega)
     refine⟨x,?_⟩
     rw [hx]
     by_cases z:need=1
     ·rw [z];rw [show(1:Int) - 1=0 by decide,lI,lI]
     ·rw [tJ f g n (need:=need - 1) (by omega),if_neg (fun r=>by omega)]
   ·rw [pG e]at h2
    have h3:need≤bH f n:=by split at h2<;>omega
    rw [if_neg (fun r=>by rw [e]at r;exact absurd r.1 (by decide))]
    obtain⟨x,hx⟩:=tK n hn need h1 h3
    refine⟨x,?_⟩
    rw [hx]
    by_cases z:need=1
    ·rw [z];rw [show(1:Int) - 1=0 by decide,lI,lI]
    ·rw [tJ f g n (need:=need - 1) (by omega),if_neg (fun r=>by rw [e]at r;exact absurd r.1 (by decide))]
theorem FF{f g:Nat→Int}{n:Nat}(e:f n=4):kF f g (n+1)=g n::kF f g n:=by
 have h0:=kA f n
 unfold kF
 rw [sB e,tJ f g n (by omega),if_pos ⟨e,by omega⟩]
 congr 2;omega
theorem zI{f g:Nat→Int}{n:Nat}(h:wN f n)(e:f n=5):kF f g (n+1)=(kF f g n).tail :=by
 have h0:=kA f n
 unfold kF
 rw [pG e]
 by_cases q:0<bH f n
 ·rw [if_pos q]
  obtain⟨x,hx⟩:=tK (g:=g) n h (bH f n) q (Int.le_refl _)
  rw [hx,List.tail_cons]
  by_cases z:bH f n=1
  ·rw [z];rw [show(1:Int) - 1=0 by decide,lI,lI]
  ·rw [tJ f g n (need:=bH f n - 1) (by omega),if_neg (fun r=>by rw [e]at r;exact absurd r.1 (by decide))]
 ·rw [if_neg q,show bH f n=0 by omega,lI,lI];rfl
def Srt(u:List Int):Prop:=u.Pairwise (· < ·)
theorem sN{k:Int} : ∀ {u:List Int},Srt u→ ∀x∈u.dropWhile (dA k),k≤x
 | [],_,x,h=>by cases h
 | y::u,hs,x,h=>by
   have hs':=List.pairwise_cons.1 hs
   rw [List.dropWhile_cons]at h
   by_cases q:y<k
   ·rw [show dA k y=true from decide_eq_true q]at h
    exact sN hs'.2 x h
   ·rw [show dA k y=false from decide_eq_false q]at h
    simp only [Bool.false_eq_true,if_false]at h
    rcases List.mem_cons.1 h with e | e
    ·omega
    ·have:=hs'.1 x e;omega
theorem sP{k:Int} : ∀ {u:List Int},∀x∈u.takeWhile (dA k),x<k
 | [],x,h=>by cases h
 | y::u,x,h=>by
   rw [List.takeWhile_cons]at h
   cases q:dA k y with
   | true=>
     rw [q]at h
     simp only [if_true]at h
     rcases List.mem_cons.1 h with e | e
     ·rw [e];exact of_decide_eq_true q
     ·exact sP x e
   | false=>rw [q]at h;cases h
theorem gZ{k x:Int}(u:List Int):x∈u↔x∈u.takeWhile (dA k)∨x∈u.dropWhile (dA k):=by
 rw [←List.mem_append,List.takeWhile_append_dropWhile]
theorem FV{k:Int}{u:List Int}(h:Srt u):(u.dropWhile (dA k)).head? =some k↔k∈u:=by
 constructor
 ·intro q
  rw [gZ (k:=k)]
  right
  cases hd:u.dropWhile (dA k)with
  | nil=>rw [hd]at q;cases q
  | cons y v=>
    rw [hd]at q
    simp only [List.head?_cons,sI']at q
    rw [q];exact List.mem_cons_self ..
 ·intro q
  rcases(gZ (k:=k) u).1 q with e | e
  ·have:=sP k e;omega
  ·have hs:Srt (u.dropWhile (dA k)):=h.sublist (List.dropWhile_sublist _)
   have hge:=sN (k:=k) h
   cases hd:u.dropWhile (dA k)with
   | nil=>rw [hd]at e;cases e
   | cons y v=>
     rw [hd]at e hs hge
     have hy:=hge y (List.mem_cons_self ..)
     rcases List.mem_cons.1 e with r | r
     ·rw [r];rfl
     ·have:=(List.pairwise_cons.1 hs).1 k r;omega
theorem YC{k:Int}{u:List Int}(h:Srt u)(hk:k∉u):Srt (u.takeWhile (dA k)++k::u.dropWhile (dA k)):=by
 have hs:Srt (u.dropWhile (dA k)):=h.sublist (List.dropWhile_sublist _)
 have ht:Srt (u.takeWhile (dA k)):=h.sublist (List.takeWhile_sublist _)
 refine List.pairwise_append.2 ⟨ht,List.pairwise_cons.2 ⟨fun x hx=>?_,hs⟩,fun a ha b hb=>?_⟩
 ·have:=sN h x hx
  have:x≠k:=by rintro rfl;exact hk ((gZ (k:=x) u).2 (.inr hx))
  omega
 ·have h1:=sP a ha
  rcases List.mem_cons.1 hb with e | e
  ·omega
  ·have:=sN h b e;omega
theorem YB{k:Int}{u:List Int}(h:Srt u)(hk:k∈u):Srt (u.takeWhile (dA k)++(u.dropWhile (dA k)).tail)∧ ∀x,x∈u.takeWhile (dA k)++(u.dropWhile (dA k)).tail ↔x∈u∧x≠k:=by
 have hh:=(FV h).2 hk
 have hs:Srt (u.dropWhile (dA k)):=h.sublist (List.dropWhile_sublist _)
 have ht:Srt (u.takeWhile (dA k)):=h.sublist (List.takeWhile_sublist _)
 have hm:=fun x=>gZ (k:=k) (x:=x) u
 cases hd:u.dropWhile (dA k)with
 | nil=>rw [hd]at hh;cases hh
 | cons y v=>
   rw [hd]at hh hs
   simp only [List.head?_cons,sI']at hh
   subst hh
   obtain⟨hs1,hs2⟩:=List.pairwise_cons.1 hs
   rw [List.tail_cons]
   constructor
   ·refine List.pairwise_append.2 ⟨ht,hs2,fun a ha b hb=>?_⟩
    have:=sP a ha;have:=hs1 b hb;omega
   ·intro x
    rw [hm x,hd,List.mem_append,List.mem_cons]
    constructor
    ·rintro(q | q)
     ·exact⟨.inl q,by have:=sP x q;omega⟩
     ·exact⟨.inr (.inr q),by have:=hs1 x q;omega⟩
    ·rintro⟨q | q | q,hne⟩
     ·exact .inl q
     ·exact absurd q hne
     ·exact .inr q
structure RpS (sh:Int) (LL:List (List Nd)) (f g:Nat→Int) (m:Nat):Prop where
 srt: ∀(h:Nat) (L:List Nd),LL[h]? =some L→Srt (uk L)
 rng: ∀(h:Nat) (L:List Nd),LL[h]? =some L→ ∀k∈uk L,(0≤k∧k≤999)∧(b9 sh k).toNat =h
 mem: ∀(h:Nat) (L:List Nd),LL[h]? =some L→ ∀k,0≤k→k≤999→(b9 sh k).toNat =h→(k∈uk L↔inF f g k m=true)
structure RpL (sh:Int) (LL:List (List Nd)) (f g:Nat→Int) (m:Nat):Prop where
 eq:uk (LL.getD 0 [])=bT sh f g m
 rng: ∀k∈bT sh f g m,0≤k∧k≤999
 els: ∀(h:Nat) (L:List Nd),LL[h]? =some L→h≠0→L=[]
def Rp(sh:Int)(LL:List (List Nd))(f g:Nat→Int)(m:Nat):Prop:=((sh=1∨sh=2)∧RpS sh LL f g m)∨((sh=3∨sh=4)∧RpL sh LL f g m)
def pV(sh:Int)(f g:Nat→Int)(m:Nat):Prop:= ∀j,j<m→a8 sh (f j) (g j)=true
theorem RC(f g:Nat→Int)(k:Int)(m:Nat):inF f g k (m+1)=bif ieq (g m) k&&ieq (f m) 1 then true else bif ieq (g m) k&&ieq (f m) 2 then false else inF f g k m:=rfl
theorem NS{LL:List (List Nd)}{sh ky:Int}{L:List Nd}(h:LL[(b9 sh ky).toNat]? =some L):bP LL sh ky=L:=by
 unfold bP
 rw [gD',h];rfl
theorem aDi{LL:List (List Nd)}(h4:LL.length=4)(sh ky:Int):LL[(b9 sh ky).toNat]? =some (bP LL sh ky):=by
 have h:(b9 sh ky).toNat <LL.length:=by rw [h4];exact D0 _ _
 unfold bP
 rw [gD',gE' h];rfl
theorem RI{sh kd ky:Int}(h:a8 sh kd ky=true)(hs:sh=1∨sh=2):(kd=1∨kd=2∨kd=3)∧0≤ky∧ky≤999:=by
 have:=eJ.1 h;omega
theorem pE{sh kd ky:Int}(h:a8 sh kd ky=true)(hs:sh=3∨sh=4):(kd=4∨kd=5)∧0≤ky∧ky≤999:=by
 have:=eJ.1 h;omega
theorem XJ{sh kd ky:Int}(hs:sh=1∨sh=2):bW sh kd ky=ky:=by
 unfold bW
 rcases hs with e | e
 ·rw [e,dT (show(1:Int)≠2 by decide),bE];rfl
 ·rw [e,bE];rfl
theorem RpS.step{sh:Int}{LL:List (List Nd)}{f g:Nat→Int}{m:Nat}(hs:sh=1∨sh=2)(h4:LL.length=4)(r:RpS sh LL f g m)(hr:a8 sh (f m) (g m)=true):
 (yO sh (f m) (g m) (uk (bP LL sh (g m)))).1=resR sh f g m (f m) (g m)∧ ∀L',uk L'=(yO sh (f m) (g m) (uk (bP LL sh (g m)))).2→RpS sh (LL.set (b9 sh (g m)).toNat L') f g (m+1):=by
 obtain⟨hk,hy⟩:=RI hr hs
 have hat:=aDi h4 sh (g m)
 have hsrt:=r.srt _ _ hat
 have hmem:=r.mem _ _ hat (g m) hy.1 hy.2 rfl
 have hhd:=FV (k:=g m) hsrt
 generalize hu:uk (bP LL sh (g m))=u at*
 have hin: ∀k,k≠g m→inF f g k (m+1)=inF f g k m:=by
  intro k hk
  rw [RC,dT (show g m≠k from fun e=>hk e.symm)];rfl
 have hrng:=r.rng _ _ hat
 rw [hu]at hrng
 have build: ∀u':List Int,Srt u'→(∀k∈u',k=g m∨k∈u)→(g m∈u'↔inF f g (g m) (m+1)=true)→(∀k,k≠g m→(k∈u'↔k∈u))→ ∀L',uk L'=u'→RpS sh (LL.set (b9 sh (g m)).toNat L') f g (m+1):=by
  intro u' b1 b2 b3 b4 L' hL'
  refine⟨?_,?_,?_⟩
  ·intro h M hM
   rcases pI hM with⟨rfl,rfl⟩ | ⟨hM,hne⟩
   ·rw [hL'];exact b1
   ·exact r.srt h M hM
  ·intro h M hM k hk
   rcases pI hM with⟨rfl,rfl⟩ | ⟨hM,hne⟩
   ·rw [hL']at hk
    rcases b2 k hk with e | e
    ·rw [e];exact⟨hy,rfl⟩
    ·exact hrng k e
   ·exact r.rng h M hM k hk
  ·intro h M hM k k0 k9 hh
   rcases pI hM with⟨rfl,rfl⟩ | ⟨hM,hne⟩
   ·rw [hL']
    by_cases e:k=g m
    ·rw [e];exact b3
    ·rw [b4 k e,hin k e]
     have:=r.mem _ _ hat k k0 k9 hh
     rw [hu]at this;exact this
   ·have hne2:k≠g m:=by rintro rfl;exact hne hh
    rw [hin k hne2]
    exact r.mem h M hM k k0 k9 hh
 have e12:(2:Int)≠1:=by decide
 unfold yO resR
 rw [XJ hs]
 rcases hk with e | e | e
 ·
  have i1:inF f g (g m) (m+1)=true:=by rw [RC,e,bE,bE];rfl
  simp only [e,if_neg (show¬(1:Int)=4 by decide),if_true,bE,cond_true]
  by_cases q:g m∈u
  ·rw [if_pos (hhd.2 q),hmem.1 q]
   exact⟨rfl,build u hsrt (fun k h=>.inr h) ⟨fun _=>i1,fun _=>q⟩ (fun k _=>Iff.rfl)⟩
  ·rw [if_neg (fun h=>q (hhd.1 h))]
   have q2:inF f g (g m) m=false:=by
    cases z:inF f g (g m) m with
    | false=>rfl
    | true=>exact absurd (hmem.2 z) q
   rw [q2]
   refine⟨rfl,build _ (YC hsrt q) (fun k h=>?_) ⟨fun _=>i1,fun _=>by simp⟩ (fun k hk=>?_)⟩
   ·rcases List.mem_append.1 h with z | z
    ·exact .inr ((gZ u).2 (.inl z))
    ·rcases List.mem_cons.1 z with z | z
     ·exact .inl z
     ·exact .inr ((gZ u).2 (.inr z))
   ·rw [List.mem_append,List.mem_cons,gZ (k:=g m) u]
    constructor
    ·rintro(z | z | z)
     ·exact .inl z
     ·exact absurd z hk
     ·exact .inr z
    ·rintro(z | z)
     ·exact .inl z
     ·exact .inr (.inr z)
 ·
  have i1:inF f g (g m) (m+1)=false:=by rw [RC,e,bE,dT e12,bE];rfl
  simp only [e,if_neg (show¬(2:Int)=4 by decide),if_neg (show¬(2:Int)=1 by decide),if_true,dT e12,bE,cond_false,Bool.true_or,cond_true]
  by_cases q:g m∈u
  ·obtain⟨d1,d2⟩:=YB hsrt q
   rw [if_pos (hhd.2 q),hmem.1 q]
   refine⟨rfl,build _ d1 (fun k h=>.inr ((d2 k).1 h).1) ⟨fun h=>absurd rfl ((d2 _).1 h).2,fun h=>by rw [i1]at h;cases h⟩ (fun k hk=>⟨fun h=>((d2 k).1 h).1,fun h=>(d2 k).2 ⟨h,hk⟩⟩)⟩
  ·rw [if_neg (fun h=>q (hhd.1 h))]
   have q2:inF f g (g m) m=false:=by
    cases z:inF f g (g m) m with
    | false=>rfl
    | true=>exact absurd (hmem.2 z) q
   rw [q2]
   exact⟨rfl,build u hsrt (fun k h=>.inr h) ⟨fun h=>absurd h q,fun h=>by rw [i1]at h;cases h⟩ (fun k _=>Iff.rfl)⟩
 ·
  have i1:inF f g (g m) (m+1)=inF f g (g m) m:=by rw [RC,e,bE,dT (show(3:Int)≠1 by decide),dT (show(3:Int)≠2 by decide)];rfl
  simp only [e,if_neg (show¬(3:Int)=4 by decide),if_neg (show¬(3:Int)=1 by decide),if_neg (show¬(3:Int)=2 by decide),if_true,dT (show(3:Int)≠1 by decide),dT (show(3:Int)≠2 by decide),bE,cond_false,Bool.false_or,cond_true]
  refine⟨?_,build u hsrt (fun k h=>.inr h) (by rw [i1];exact hmem) (fun k _=>Iff.rfl)⟩
  by_cases q:g m∈u
  ·rw [decide_eq_true (hhd.2 q),hmem.1 q]
  ·rw [decide_eq_false (fun h=>q (hhd.1 h))]
   cases z:inF f g (g m) m with
   | false=>rfl
   | true=>exact absurd (hmem.2 z) q
theorem zG{p:Int→Bool} : ∀ {u:List Int},(∀x∈u,p x=true)→u.takeWhile p=u∧u.dropWhile p=[]
 | [],_=>⟨rfl,rfl⟩
 | x::u,h=>by
   have hx:=h x (List.mem_cons_self ..)
   obtain⟨h1,h2⟩:=zG (u:=u) (fun y hy=>h y (List.mem_cons_of_mem _ hy))
   rw [List.takeWhile_cons,List.dropWhile_cons,hx]
   exact⟨by simp only [if_true,h1],by simp only [if_true,h2]⟩
theorem RpL.step{sh:Int}{LL:List (List Nd)}{f g:Nat→Int}{m:Nat}(hs:sh=3∨sh=4)(h4:LL.length=4)(r:RpL sh LL f g m)(ho:pV sh f g m)(hr:a8 sh (f m) (g m)=true):
 (yO sh (f m) (g m) (uk (bP LL sh (g m)))).1=resR sh f g m (f m) (g m)∧ ∀L',uk L'=(yO sh (f m) (g m) (uk (bP LL sh (g m)))).2→RpL sh (LL.set (b9 sh (g m)).toNat L') f g (m+1):=by
 obtain⟨hk,hy⟩:=pE hr hs
 have hb:wN f m:=fun j hj=>(pE (ho j hj) hs).1
 have hh:(b9 sh (g m)).toNat =0:=by
  unfold b9
  rw [dT (show sh≠2 by omega)];rfl
 have hl:bP LL sh (g m)=LL.getD 0 []:=by unfold bP;rw [hh]
 rw [hl,hh,r.eq]
 have hrng:=r.rng
 have h0:0<LL.length:=by omega
 have build: ∀L',uk L'=bT sh f g (m+1)→(∀k∈bT sh f g (m+1),0≤k∧k≤999)→RpL sh (LL.set 0 L') f g (m+1):=by
  intro L' h1 h2
  refine⟨?_,h2,?_⟩
  ·rw [gD',List.getElem?_set_self h0];exact h1
  ·intro h M hM hne
   rcases pI hM with⟨rfl,rfl⟩ | ⟨hM,_⟩
   ·exact absurd rfl hne
   ·exact r.els h M hM hne
 have hall: ∀k∈bT sh f g m,dA 1024 k=true:=fun k hk=>decide_eq_true (by have:=hrng k hk;omega)
 have hnone: ∀k∈bT sh f g m,dA (-1) k=false:=fun k hk=>decide_eq_false (by have:=hrng k hk;omega)
 obtain⟨t1,t2⟩:=zG hall
 have t3:(bT sh f g m).takeWhile (dA (-1))=[]∧(bT sh f g m).dropWhile (dA (-1))=bT sh f g m:=by
  cases hq:bT sh f g m with
  | nil=>exact⟨rfl,rfl⟩
  | cons x v=>
    have:=hnone x (by rw [hq];exact List.mem_cons_self ..)
    rw [List.takeWhile_cons,List.dropWhile_cons,this];exact⟨rfl,rfl⟩
 unfold yO resR
 have n14: ∀(kd:Int),kd=4∨kd=5→ieq kd 1=false∧ieq kd 2=false∧ieq kd 3=false:=fun kd h=>⟨dT (by omega),dT (by omega),dT (by omega)⟩
 obtain⟨n1,n2,n3⟩:=n14 _ hk
 rw [n1,n2,n3]
 simp only [Bool.false_or,cond_false]
 rcases hk with e | e
 ·
  simp only [e,if_true,bE,cond_true]
  rcases hs with rfl | rfl
  ·have hkey:bW 3 4 (g m)=1024:=rfl
   rw [hkey,t1,t2]
   refine⟨by trivial,fun L' h=>?_⟩
   have hi:bT 3 f g (m+1)=bT 3 f g m++ [g m]:=EU hb e
   refine build L' (by rw [h,hi]) (fun k hk=>?_)
   rw [hi]at hk
   rcases List.mem_append.1 hk with z | z
   ·exact hrng k z
   ·rw [List.mem_singleton.1 z];exact hy
  ·have hkey:bW 4 4 (g m)= -1:=rfl
   rw [hkey,t3.1,t3.2]
   refine⟨by trivial,fun L' h=>?_⟩
   have hi:bT 4 f g (m+1)=g m::bT 4 f g m:=FF e
   refine build L' (by rw [h,hi];rfl) (fun k hk=>?_)
   rw [hi]at hk
   rcases List.mem_cons.1 hk with z | z
   ·rw [z];exact hy
   ·exact hrng k z
 ·
  have hkey:bW sh 5 (g m)= -1:=by rcases hs with rfl | rfl<;>rfl
  have hi:bT sh f g (m+1)=(bT sh f g m).tail :=by
   rcases hs with rfl | rfl
   ·exact y7 hb e
   ·exact zI hb e
  simp only [e,if_neg (show¬(5:Int)=4 by decide),if_neg (show¬(5:Int)=1 by decide),if_neg (show¬(5:Int)=2 by decide),if_neg (show¬(5:Int)=3 by decide),dT (show(5:Int)≠4 by decide),cond_false,hkey,t3.1,t3.2]
  have hr2: ∀k∈bT sh f g (m+1),0≤k∧k≤999:=fun k hk=>by rw [hi]at hk;exact hrng k (List.mem_of_mem_tail hk)
  cases hq:bT sh f g m with
  | nil=>
    refine⟨rfl,fun L' h=>build L' ?_ hr2⟩
    rw [hi,hq];exact h
  | cons x v=>
    refine⟨rfl,fun L' h=>build L' ?_ hr2⟩
    rw [hi,hq];exact h
theorem Rp.step{sh:Int}{LL:List (List Nd)}{f g:Nat→Int}{m:Nat}(h4:LL.length=4)(r:Rp sh LL f g m)(ho:pV sh f g m)(hr:a8 sh (f m) (g m)=true):
 (yO sh (f m) (g m) (uk (bP LL sh (g m)))).1=resR sh f g m (f m) (g m)∧ ∀L',uk L'=(yO sh (f m) (g m) (uk (bP LL sh (g m)))).2→Rp sh (LL.set (b9 sh (g m)).toNat L') f g (m+1):=by
 rcases r with⟨hs,r⟩ | ⟨hs,r⟩
 ·obtain⟨h1,h2⟩:=r.step hs h4 hr
  exact⟨h1,fun L' h=>.inl ⟨hs,h2 L' h⟩⟩
 ·obtain⟨h1,h2⟩:=r.step hs h4 ho hr
  exact⟨h1,fun L' h=>.inr ⟨hs,h2 L' h⟩⟩
theorem VN{t n:Int}{a:ENS×STS×MS}{d:Bool}{b:ENS×STS×MS}(h:xZ t n a=(d,b)):(enF t n a.1 a.2.1 a.2.2).d =d∧((enF t n a.1 a.2.1 a.2.2).e,(enF t n a.1 a.2.1 a.2.2).st,(enF t n a.1 a.2.1 a.2.2).s)=b:=by
 unfold xZ at h
 rw [pI']at h
 exact h
theorem WH{t n:Int}{a:FTS×STS×MS}{d:Bool}{b:FTS×STS×MS}(h:ftG t n a=(d,b)):(ftF t n a.1 a.2.1 a.2.2).d =d∧((ftF t n a.1 a.2.1 a.2.2).x,(ftF t n a.1 a.2.1 a.2.2).st,(ftF t n a.1 a.2.1 a.2.2).s)=b:=by
 unfold ftG at h
 rw [pI']at h
 exact h
theorem Act1.bnd{t n:Int}{s s':MS}(h:Act1 s s')(hb:lO t n s)(hc:s.c+1≤900000):lO t n s':=⟨hb.ht,hb.hn,by have:=hb.hc;rw [h.c];omega,h.w hb.hw⟩
theorem QL.stw{t n:Int}{xs:List Int}{LL:List (List Nd)}{S:List STS}(q:QL t n xs LL S){i:Nat}{st:STS}(hS:S[i]? =some st):stW 500 st:=by
 obtain⟨h1,h2,_⟩:=gI q hS
 have hm:=q.me i st hS
 have hn:=q.hn
 have ht:=q.ht
 refine⟨by omega,fun r hr=>by have:=h2 r (mG hr);omega,?_⟩
 have:=fH (by omega) (qS h1) (fun r hr=>h2 r (mG hr))
 omega
theorem QL.bnd{t n:Int}{LL:List (List Nd)}{S:List STS}{s:MS}(q:QL t n s.xs LL S)(hc:0≤s.c∧s.c≤900000):lO t n s:=⟨q.ht,⟨q.hn.1,by have:=q.hn;omega⟩,hc,q.okw⟩
theorem EP{LL:List (List Nd)}{S:List STS}{h i:Nat}{L L':List Nd}{st st':STS}(hL:LL[h]? =some L)(hS:S[i]? =some st):(allN (LL.set h L') (S.set i st')).length +((L.map Nd.a).length +(aO st.sp st.R).length)=(allN LL S).length +((L'.map Nd.a).length +(aO st'.sp st'.R).length):=by
 have p0:=(fU (fun L:List Nd=>L.map Nd.a) LL h L hL).length_eq
 have p1:=(iL (fun L:List Nd=>L.map Nd.a) LL h L' (fY hL)).length_eq
 have q0:=(fU (fun st:STS=>aO st.sp st.R) S i st hS).length_eq
 have q1:=(iL (fun st:STS=>aO st.sp st.R) S i st' (fY hS)).length_eq
 unfold allN
 simp only [List.length_append]at p0 p1 q0 q1⊢
 omega
theorem tG{LL:List (List Nd)}{S:List STS}{i:Nat}{st st':STS}(hS:S[i]? =some st):(allN LL (S.set i st')).length +(aO st.sp st.R).length =(allN LL S).length +(aO st'.sp st'.R).length :=by
 have q0:=(fU (fun st:STS=>aO st.sp st.R) S i st hS).length_eq
 have q1:=(iL (fun st:STS=>aO st.sp st.R) S i st' (fY hS)).length_eq
 unfold allN
 simp only [List.length_append]at q0 q1⊢
 omega
theorem WG{t n:Int}{xs:List Int}{LL:List (List Nd)}{S:List STS}(q:QL t n xs LL S)(h:((allN LL S).length :Int)<n): ∃b,(1≤b∧b≤n)∧dB n xs b=false:=by
 apply Classical.byContradiction
 intro hno
 have hall: ∀b,1≤b∧b≤n→b∈allN LL S:=by
  intro b hb
  refine(q.tk b hb).1 ?_
  cases z:dB n xs b with
  | true=>rfl
  | false=>exact absurd ⟨b,hb,z⟩ hno
 have nd:((List.range n.toNat).map fun i:Nat=>(i:Int)+1).Nodup :=by
  rw [List.nodup_iff_pairwise_ne,List.pairwise_map]
  exact List.Pairwise.imp (fun {a b} h=>by omega) (List.nodup_iff_pairwise_ne.1 List.nodup_range)
 have:=l7 _ _ nd (fun b hb=>by
  obtain⟨i,hi,rfl⟩:=List.mem_map.1 hb
  exact hall _ (by have:=List.mem_range.1 hi;omega))
 rw [List.length_map,List.length_range]at this
 omega
theorem oS{α:Type} : ∀ {l:List α} {i:Nat} {x:α},l[i]? =some x→l.set i x=l
 | [],i,x,h=>rfl
 | y::l,0,x,h=>by simp at h;rw [h];rfl
 | y::l,i+1,x,h=>by
   rw [List.set_cons_succ,oS (l:=l) (by simpa using h)]
def dqJ(t n:Int)(p:DOS×STS×MS):Bool×(DOS×STS×MS):=((dqF t n p.1 p.2.1 p.2.2).d,((dqF t n p.1 p.2.1 p.2.2).x,(dqF t n p.1 p.2.1 p.2.2).st,(dqF t n p.1 p.2.1 p.2.2).s))
theorem kX{t n:Int}{x:DOS}{st:STS}{s:MS}{d:Bool}{x':DOS}{st':STS}{s':MS}(h:dqF t n x st s=⟨d,x',st',s'⟩):dqJ t n (x,st,s)=(d,(x',st',s')):=by
 unfold dqJ;rw [h]
def doR(x:DOS):DOS:= {x with hd:=eA,hp:=bU,en:=aU,ft:=bR,an:=d8,aw:=d9,fn:=aP,dr:=eZ,sw:=bN}
theorem aDw{t n:Int}{x:DOS}{st:STS}{s:MS}{h:HDS}{s':MS}(h0:x.at'=0)(hr:a8 x.sh x.kd x.ky=true)(hf:hdF t n x.hd s=⟨false,h,s'⟩):dqF t n x st s=⟨false,{doR x with at':=0,hd:=h},st,s'⟩:=by
 unfold dqF B8
 rw [h0]
 show(rE t n x st s).val =_
 unfold rE
 have hr:a8 x.5 x.6 x.7=true:=hr
 have hf:hdF t n x.10 s=⟨false,h,s'⟩:=hf
 simp only [Tr.val,w2d,w2o,w2q,w2s,w2v,w2y,w30,w2e,w2t,w2c,w2k,w2i,w2n,w2u,w2x,w2g,w2j,w2b,w2z,w2p,w2w,w31,w2h,w2f,w2l,w2m,w2r,w08,w09,w1m,w1j,w1k,w1n,w1q,w1s,w1t,w1u,w1v,w1p,w1r,w1l,w1o,w0y,w11,w13,w14,w15,w16,w17,w1f,w1g,w19,w1b,w1c,w1d,w1e,w0z,w1a,w0w,w0x,w1h,w1i,hr,hf,Bool.not_true,cond_true,cond_false]
 rfl
theorem aDx{t n:Int}{x:DOS}{st:STS}{s:MS}{h:HDS}{s':MS}(h0:x.at'=0)(hr:a8 x.sh x.kd x.ky=true)(hf:hdF t n x.hd s=⟨true,h,s'⟩)(hu:h.u<0):
 dqF t n x st s=bif bV x.kd&&ieq st.sp 0 then⟨false,{doR x with at':=2},st,s'⟩else⟨false,{doR x with at':=3,ft:=(ftNF t n x.sh x.kd x.ky x.limit st).1},(ftNF t n x.sh x.kd x.ky x.limit st).2,s'⟩:=by
 unfold dqF B8
 rw [h0]
 show(rE t n x st s).val =_
 unfold rE
 have hr:a8 x.5 x.6 x.7=true:=hr
 have hf:hdF t n x.10 s=⟨true,h,s'⟩:=hf
 have hu:ilt h.1 0=true:=by rw [bJ];exact decide_eq_true hu
 simp only [Tr.val,w2d,w2o,w2q,w2s,w2v,w2y,w30,w2e,w2t,w2c,w2k,w2i,w2n,w2u,w2x,w2g,w2j,w2b,w2z,w2p,w2w,w31,w2h,w2f,w2l,w2m,w2r,w08,w09,w1m,w1j,w1k,w1n,w1q,w1s,w1t,w1u,w1v,w1p,w1r,w1l,w1o,w0y,w11,w13,w14,w15,w16,w17,w1f,w1g,w19,w1b,w1c,w1d,w1e,w0z,w1a,w0w,w0x,w1h,w1i,hr,hf,hu,Bool.not_true,cond_true,cond_false]
 cases bV x.6<;>cases ieq st.2 0<;>rfl
theorem Y4{t n:Int}{x:DOS}{st:STS}{s:MS}{e:ENS}{st':STS}{s':MS}(h0:x.at'=2)(hr:a8 x.sh x.kd x.ky=true)(hf:enF t n x.en st s=⟨false,e,st',s'⟩):dqF t n x st s=⟨false,{doR x with at':=2,en:=e},st',s'⟩:=by
 unfold dqF B8
 rw [h0]
 show(rF t n x st s).val =_
 unfold rF
 have hr:a8 x.5 x.6 x.7=true:=hr
 have hf:enF t n x.12 st s=⟨false,e,st',s'⟩:=hf
 simp only [Tr.val,w2d,w2o,w2q,w2s,w2v,w2y,w30,w2e,w2t,w2c,w2k,w2i,w2n,w2u,w2x,w2g,w2j,w2b,w2z,w2p,w2w,w31,w2h,w2f,w2l,w2m,w2r,w08,w09,w1m,w1j,w1k,w1n,w1q,w1s,w1t,w1u,w1v,w1p,w1r,w1l,w1o,w0y,w11,w13,w14,w15,w16,w17,w1f,w1g,w19,w1b,w1c,w1d,w1e,w0z,w1a,w0w,w0x,w1h,w1i,hr,hf,Bool.not_true,cond_true,cond_false]
 rfl
theorem Y5{t n:Int}{x:DOS}{st:STS}{s:MS}{e:ENS}{st':STS}{s':MS}(h0:x.at'=2)(hr:a8 x.sh x.kd x.ky=true)(hf:enF t n x.en st s=⟨true,e,st',s'⟩):
 dqF t n x st s=bif e.sh then⟨false,{doR x with code:=4,okk:=false,val:=0,at':=8,dr:=nH t n st'.me},st',s'⟩else⟨false,{doR x with at':=3,ft:=(ftNF t n x.sh x.kd x.ky x.limit st').1},(ftNF t n x.sh x.kd x.ky x.limit st').2,s'⟩:=by
 unfold dqF B8
 rw [h0]
 show(rF t n x st s).val =_
 unfold rF
 have hr:a8 x.5 x.6 x.7=true:=hr
 have hf:enF t n x.12 st s=⟨true,e,st',s'⟩:=hf
 simp only [Tr.val,w2d,w2o,w2q,w2s,w2v,w2y,w30,w2e,w2t,w2c,w2k,w2i,w2n,w2u,w2x,w2g,w2j,w2b,w2z,w2p,w2w,w31,w2h,w2f,w2l,w2m,w2r,w08,w09,w1m,w1j,w1k,w1n,w1q,w1s,w1t,w1u,w1v,w1p,w1r,w1l,w1o,w0y,w11,w13,w14,w15,w16,w17,w1f,w1g,w19,w1b,w1c,w1d,w1e,w0z,w1a,w0w,w0x,w1h,w1i,hr,hf,Bool.not_true,cond_true,cond_false]
 cases e.sh<;>rfl
theorem aDB{t n:Int}{x:DOS}{st:STS}{s:MS}{f:FTS}{st':STS}{s':MS}(h0:x.at'=3)(hr:a8 x.sh x.kd x.ky=true)(hf:ftF t n x.ft st s=⟨false,f,st',s'⟩):dqF t n x st s=⟨false,{doR x with at':=3,ft:=f},st',s'⟩:=by
 unfold dqF B8
 rw [h0]
 show(rG t n x st s).val =_
 unfold rG
 have hr:a8 x.5 x.6 x.7=true:=hr
 have hf:ftF t n x.13 st s=⟨false,f,st',s'⟩:=hf
 simp only [Tr.val,w2d,w2o,w2q,w2s,w2v,w2y,w30,w2e,w2t,w2c,w2k,w2i,w2n,w2u,w2x,w2g,w2j,w2b,w2z,w2p,w2w,w31,w2h,w2f,w2l,w2m,w2r,w08,w09,w1m,w1j,w1k,w1n,w1q,w1s,w1t,w1u,w1v,w1p,w1r,w1l,w1o,w0y,w11,w13,w14,w15,w16,w17,w1f,w1g,w19,w1b,w1c,w1d,w1e,w0z,w1a,w0w,w0x,w1h,w1i,hr,hf,Bool.not_true,cond_true,cond_false]
 rfl
theorem aDC{t n:Int}{x:DOS}{st:STS}{s:MS}{f:FTS}{st':STS}{s':MS}(h0:x.at'=3)(hr:a8 x.sh x.kd x.ky=true)(hf:ftF t n x.ft st s=⟨true,f,st',s'⟩)(hn:f.failed=false):
 dqF t n x st s=bif f.okk&&eU x.sh x.kd then⟨false,{doR x with code:=f.code,okk:=f.okk,val:=f.val,at':=7,fn:=lW t n st'.me (b9 x.sh x.ky) (bW x.sh x.kd x.ky) x.limit},st',s'⟩else⟨false,{doR x with code:=f.code,okk:=f.okk,val:=f.val,at':=8,dr:=nH t n st'.me},st',s'⟩:=by
 unfold dqF B8
 rw [h0]
 show(rG t n x st s).val =_
 unfold rG
 have hr:a8 x.5 x.6 x.7=true:=hr
 have hf:ftF t n x.13 st s=⟨true,f,st',s'⟩:=hf
 have hn:f.4=false:=hn
 simp only [Tr.val,w2d,w2o,w2q,w2s,w2v,w2y,w30,w2e,w2t,w2c,w2k,w2i,w2n,w2u,w2x,w2g,w2j,w2b,w2z,w2p,w2w,w31,w2h,w2f,w2l,w2m,w2r,w08,w09,w1m,w1j,w1k,w1n,w1q,w1s,w1t,w1u,w1v,w1p,w1r,w1l,w1o,w0y,w11,w13,w14,w15,w16,w17,w1f,w1g,w19,w1b,w1c,w1d,w1e,w0z,w1a,w0w,w0x,w1h,w1i,hr,hf,hn,Bool.not_true,Bool.not_false,cond_true,cond_false]
 cases hq:f.okk<;>cases eU x.sh x.kd<;>first | rfl | (simp only [hq];rfl)
theorem aDD{t n:Int}{x:DOS}{st:STS}{s:MS}{f:FNS}{s':MS}(h0:x.at'=7)(hr:a8 x.sh x.kd x.ky=true)(hf:fnF t n x.fn s=⟨false,f,s'⟩):dqF t n x st s=⟨false,{doR x with at':=7,fn:=f},st,s'⟩:=by
 unfold dqF B8
 rw [h0]
 show(rH t n x st s).val =_
 unfold rH
 have hr:a8 x.5 x.6 x.7=true:=hr
 have hf:fnF t n x.16 s=⟨false,f,s'⟩:=hf
 simp only [Tr.val,w2d,w2o,w2q,w2s,w2v,w2y,w30,w2e,w2t,w2c,w2k,w2i,w2n,w2u,w2x,w2g,w2j,w2b,w2z,w2p,w2w,w31,w2h,w2f,w2l,w2m,w2r,w08,w09,w1m,w1j,w1k,w1n,w1q,w1s,w1t,w1u,w1v,w1p,w1r,w1l,w1o,w0y,w11,w13,w14,w15,w16,w17,w1f,w1g,w19,w1b,w1c,w1d,w1e,w0z,w1a,w0w,w0x,w1h,w1i,hr,hf,Bool.not_true,cond_true,cond_false]
 rfl
theorem aDE{t n:Int}{x:DOS}{st:STS}{s:MS}{f:FNS}{s':MS}(h0:x.at'=7)(hr:a8 x.sh x.kd x.ky=true)(hf:fnF t n x.fn s=⟨true,f,s'⟩):dqF t n x st s=⟨false,{doR x with at':=8,dr:=nH t n st.me},⟨st.me,st.sp,st.R++f.ul⟩,s'⟩:=by
 unfold dqF B8
 rw [h0]
 show(rH t n x st s).val =_
 unfold rH
 have hr:a8 x.5 x.6 x.7=true:=hr
 have hf:fnF t n x.16 s=⟨true,f,s'⟩:=hf
 simp only [Tr.val,w2d,w2o,w2q,w2s,w2v,w2y,w30,w2e,w2t,w2c,w2k,w2i,w2n,w2u,w2x,w2g,w2j,w2b,w2z,w2p,w2w,w31,w2h,w2f,w2l,w2m,w2r,w08,w09,w1m,w1j,w1k,w1n,w1q,w1s,w1t,w1u,w1v,w1p,w1r,w1l,w1o,w0y,w11,w13,w14,w15,w16,w17,w1f,w1g,w19,w1b,w1c,w1d,w1e,w0z,w1a,w0w,w0x,w1h,w1i,hr,hf,Bool.not_true,cond_true,cond_false]
 rfl
theorem aDu{t n:Int}{x:DOS}{st:STS}{s:MS}{f:DRS}{s':MS}(h0:x.at'=8)(hr:a8 x.sh x.kd x.ky=true)(hf:drF t n x.dr s=⟨false,f,s'⟩):dqF t n x st s=⟨false,{doR x with at':=8,dr:=f},st,s'⟩:=by
 unfold dqF B8
 rw [h0]
 show(rJ t n x st s).val =_
 unfold rJ
 have hr:a8 x.5 x.6 x.7=true:=hr
 have hf:drF t n x.17 s=⟨false,f,s'⟩:=hf
 simp only [Tr.val,w2d,w2o,w2q,w2s,w2v,w2y,w30,w2e,w2t,w2c,w2k,w2i,w2n,w2u,w2x,w2g,w2j,w2b,w2z,w2p,w2w,w31,w2h,w2f,w2l,w2m,w2r,w08,w09,w1m,w1j,w1k,w1n,w1q,w1s,w1t,w1u,w1v,w1p,w1r,w1l,w1o,w0y,w11,w13,w14,w15,w16,w17,w1f,w1g,w19,w1b,w1c,w1d,w1e,w0z,w1a,w0w,w0x,w1h,w1i,hr,hf,Bool.not_true,cond_true,cond_false]
 rfl
theorem aDv{t n:Int}{x:DOS}{st:STS}{s:MS}{f:DRS}{s':MS}(h0:x.at'=8)(hr:a8 x.sh x.kd x.ky=true)(hf:drF t n x.dr s=⟨true,f,s'⟩):dqF t n x st s=⟨!ile (4*t) (st.R.length:Int),{doR x with at':=9},st,s'⟩:=by
 unfold dqF B8
 rw [h0]
 show(rJ t n x st s).val =_
 unfold rJ
 have hr:a8 x.5 x.6 x.7=true:=hr
 have hf:drF t n x.17 s=⟨true,f,s'⟩:=hf
 simp only [Tr.val,w2d,w2o,w2q,w2s,w2v,w2y,w30,w2e,w2t,w2c,w2k,w2i,w2n,w2u,w2x,w2g,w2j,w2b,w2z,w2p,w2w,w31,w2h,w2f,w2l,w2m,w2r,w08,w09,w1m,w1j,w1k,w1n,w1q,w1s,w1t,w1u,w1v,w1p,w1r,w1l,w1o,w0y,w11,w13,w14,w15,w16,w17,w1f,w1g,w19,w1b,w1c,w1d,w1e,w0z,w1a,w0w,w0x,w1h,w1i,hr,hf,Bool.not_true,cond_true,cond_false]
 rfl
theorem aDz{t n:Int}{x:DOS}{st:STS}{s:MS}{f:SWS}{st':STS}{s':MS}(h0:x.at'=9)(hr:a8 x.sh x.kd x.ky=true)(hf:swF t n x.sw st s=⟨false,f,st',s'⟩):dqF t n x st s=⟨false,{doR x with at':=9,sw:=f},st',s'⟩:=by
 unfold dqF B8
 rw [h0]
 show(rL t n x st s).val =_
 unfold rL
 have hr:a8 x.5 x.6 x.7=true:=hr
 have hf:swF t n x.18 st s=⟨false,f,st',s'⟩:=hf
 simp only [Tr.val,w2d,w2o,w2q,w2s,w2v,w2y,w30,w2e,w2t,w2c,w2k,w2i,w2n,w2u,w2x,w2g,w2j,w2b,w2z,w2p,w2w,w31,w2h,w2f,w2l,w2m,w2r,w08,w09,w1m,w1j,w1k,w1n,w1q,w1s,w1t,w1u,w1v,w1p,w1r,w1l,w1o,w0y,w11,w13,w14,w15,w16,w17,w1f,w1g,w19,w1b,w1c,w1d,w1e,w0z,w1a,w0w,w0x,w1h,w1i,hr,hf,Bool.not_true,cond_true,cond_false]
 rfl
theorem aDA{t n:Int}{x:DOS}{st:STS}{s:MS}{f:SWS}{st':STS}{s':MS}(h0:x.at'=9)(hr:a8 x.sh x.kd x.ky=true)(hf:swF t n x.sw st s=⟨true,f,st',s'⟩):dqF t n x st s=⟨true,{doR x with at':=9},st',s'⟩:=by
 unfold dqF B8
 rw [h0]
 show(rL t n x st s).val =_
 unfold rL
 have hr:a8 x.5 x.6 x.7=true:=hr
 have hf:swF t n x.18 st s=⟨true,f,st',s'⟩:=hf
 simp only [Tr.val,w2d,w2o,w2q,w2s,w2v,w2y,w30,w2e,w2t,w2c,w2k,w2i,w2n,w2u,w2x,w2g,w2j,w2b,w2z,w2p,w2w,w31,w2h,w2f,w2l,w2m,w2r,w08,w09,w1m,w1j,w1k,w1n,w1q,w1s,w1t,w1u,w1v,w1p,w1r,w1l,w1o,w0y,w11,w13,w14,w15,w16,w17,w1f,w1g,w19,w1b,w1c,w1d,w1e,w0z,w1a,w0w,w0x,w1h,w1i,hr,hf,Bool.not_true,cond_true,cond_false]
 rfl
theorem aGo{σ τ:Type}{F:σ→Bool×σ}{G:τ→Bool×τ}(e:σ→τ)(he: ∀a b,F a=(false,b)→G (e a)=(false,e b)){j:Nat}{a z:σ}{y:τ}(h:End F j a z)(hz: ∀b,F b=(true,z)→G (e b)=(false,y)):Go1 G j (e a) y:=by
 obtain⟨i,b,rfl,h1,h2⟩:=h
 have:=(aGE e he h1).trans (Go1.one (hz b h2))
 rw [Nat.add_comm]at this
 exact this
theorem End.outo{σ τ:Type}{F:σ→Bool×σ}{G:τ→Bool×τ}(e:σ→τ)(he: ∀a b,F a=(false,b)→G (e a)=(false,e b)){j:Nat}{a z:σ}{y:τ}(h:End F j a z)(hz: ∀b,F b=(true,z)→G (e b)=(true,y)):End G j (e a) y:=by
 obtain⟨i,b,rfl,h1,h2⟩:=h
 exact⟨i,e b,rfl,aGE e he h1,hz b h2⟩
theorem JC{t n:Int}{a:DRS×MS}{d:Bool}{b:DRS×MS}(h:drG t n a=(d,b)):drF t n a.1 a.2=⟨d,b.1,b.2⟩:=by
 unfold drG at h
 rw [pI']at h
 obtain⟨rfl,rfl⟩:=h
 rfl
theorem JU{t n:Int}{a:HDS×MS}{d:Bool}{b:HDS×MS}(h:MZ t n a=(d,b)):hdF t n a.1 a.2=⟨d,b.1,b.2⟩:=by
 unfold MZ at h
 rw [pI']at h
 obtain⟨rfl,rfl⟩:=h
 rfl
theorem KP{t n:Int}{a:SWS×STS×MS}{d:Bool}{b:SWS×STS×MS}(h:ZW t n a=(d,b)):swF t n a.1 a.2.1 a.2.2=⟨d,b.1,b.2.1,b.2.2⟩:=by
 unfold ZW at h
 rw [pI']at h
 obtain⟨rfl,rfl⟩:=h
 rfl
theorem rM{t n:Int}{a:ENS×STS×MS}{d:Bool}{b:ENS×STS×MS}(h:xZ t n a=(d,b)):enF t n a.1 a.2.1 a.2.2=⟨d,b.1,b.2.1,b.2.2⟩:=by
 obtain⟨h1,h2⟩:=VN h
 subst h1 h2
 rfl
theorem DX{t n:Int}{a:FTS×STS×MS}{d:Bool}{b:FTS×STS×MS}(h:ftG t n a=(d,b)):ftF t n a.1 a.2.1 a.2.2=⟨d,b.1,b.2.1,b.2.2⟩:=by
 obtain⟨h1,h2⟩:=WH h
 subst h1 h2
 rfl
def UpF(n me:Int)(s s':MS):Prop:= ∀a,2*n+5≤a→a≠2*n+5+2*me→a≠2*n+5+2*me+1→aB s'.xs a=aB s.xs a
theorem UpF.trans{n me:Int}{a b c:MS}(h:UpF n me a b)(g:UpF n me b c):UpF n me a c:=fun x h1 h2 h3=>(g x h1 h2 h3).trans (h x h1 h2 h3)
structure aC9 (X z:DOS):Prop where
 code:z.code=X.code
 okk:z.okk=X.okk
 val:z.val=X.val
 slow:z.slow=X.slow
theorem AN{t n:Int}{LL:List (List Nd)}{S:List STS}{s:MS}{i:Nat}{st:STS}(q:QL t n s.xs LL S)(hS:S[i]? =some st)(sz: ∀k:Int,0≤k→k<2*t→k≠2*st.me→k≠2*st.me+1→aB s.xs (2*n+5+k)=0):
 ∃j st' s',(∀X:DOS,X.at'=8→a8 X.sh X.kd X.ky=true→X.dr=⟨st.me,0⟩→ ∃z,End (dqJ t n) j (X,st,s) (z,st',s')∧aC9 X z)∧QL t n s'.xs LL (S.set i st')∧SZ t n s'.xs∧UpF n st.me s s'∧s'.c=s.c+j∧s'.t=s.t∧s'.n=s.n∧(j:Int)≤2+2*t+n∧st'.sp=st.sp∧(st'=st∧(st.R.length:Int)<4*t∨st'= {st with R:=[] } ∧4*t≤(st.R.length:Int)):=by
 have hm:=q.me i st hS
 have hn:=q.hn
 have ht:=q.ht
 obtain⟨zd,s1,hdrop,hd1⟩:=P9 t n st.me s
 let s2:=(s.stored (2*n+5+2*st.me+0) 0).stored (2*n+5+2*st.me+1) 0
 have x2: ∀a,a≠2*n+5+2*st.me→a≠2*n+5+2*st.me+1→aB s2.xs a=aB s.xs a:=by
  intro a h0 h1
  show aB (aS (aS s.xs (2*n+5+2*st.me+0) 0) (2*n+5+2*st.me+1) 0) a=_
  rw [cO h1,cO (by omega)]
 have hin0:0≤2*n+5+2*st.me+0∧2*n+5+2*st.me+0<s.xs.length:=by have:=q.len;omega
 have hin1:0≤2*n+5+2*st.me+1∧2*n+5+2*st.me+1<(aS s.xs (2*n+5+2*st.me+0) 0).length :=by rw [cC];have:=q.len;omega
 have xs1:aB s2.xs (2*n+5+2*st.me+1)=0:=dQ hin1
 have xs0:aB s2.xs (2*n+5+2*st.me)=0:=by
  show aB (aS (aS s.xs (2*n+5+2*st.me+0) 0) (2*n+5+2*st.me+1) 0) _=0
  rw [cO (by omega),show 2*n+5+2*st.me+0=2*n+5+2*st.me by omega]
  exact dQ (by omega)
 have sz2:SZ t n s2.xs:=by
  intro k h0 h1
  by_cases e0:k=2*st.me
  ·rw [e0];exact xs0
  ·by_cases e1:k=2*st.me+1
   ·rw [e1,show 2*n+5+(2*st.me+1)=2*n+5+2*st.me+1 by omega];exact xs1
   ·rw [x2 _ (by omega) (by omega)];exact sz k h0 h1 e0 e1
 have len2:s2.xs.length=s.xs.length:=(cC _ _ _).trans (cC _ _ _)
 have ok2:okW s2.xs:=eH (eH q.okw ⟨by decide,by decide⟩) ⟨by decide,by decide⟩
 have q2:QL t n s2.xs LL S:=q.out len2 ok2 (fun a ha=>x2 a (by omega) (by omega))
 have hRn:(st.R.length:Int)≤n:=by
  have:=fH (by omega) (qS (gI q hS).1) (fun r hr=>(gI q hS).2.1 r (mG hr))
  exact this
 have drops: ∀X:DOS,X.at'=8→a8 X.sh X.kd X.ky=true→X.dr=⟨st.me,0⟩→ ∀d,(!ile (4*t) (st.R.length:Int))=d→ ∃b,Go1 (dqJ t n) 1 (X,st,s) b∧dqJ t n b=(d,({doR X with at':=9},st,s2)):=by
  intro X h8 hr hdr d hd
  obtain⟨i',b,hj,g1,g2⟩:=hdrop
  have hi:i'=1:=by omega
  subst hi
  cases g1 with
  | cons e g=>
    cases g
    have e1:=JC e
    have e2:=JC g2
    refine⟨({doR X with at':=8,dr:=b.1},st,b.2),Go1.one (kX (aDu h8 hr (by rw [hdr];exact e1))),?_⟩
    rw [←hd]
    exact kX (aDv (x:= {doR X with at':=8,dr:=b.1}) rfl hr e2)
 by_cases hfull:(st.R.length:Int)<4*t
 ·have hd:(!ile (4*t) (st.R.length:Int))=true:=by rw [bX,decide_eq_false (by omega)];rfl
  refine⟨2,st,s2,fun X h8 hr hdr=>?_,by rw [oS hS];exact q2,sz2,fun a h0 h1 h2=>x2 a h1 h2,by show s.c+1+1=_;omega,rfl,rfl,by omega,rfl,.inl ⟨rfl,hfull⟩⟩
  obtain⟨b,g1,g2⟩:=drops X h8 hr hdr true hd
  exact⟨_,⟨1,b,rfl,g1,g2⟩,rfl,rfl,rfl,rfl⟩
 ·have hd:(!ile (4*t) (st.R.length:Int))=false:=by rw [bX,decide_eq_true (by omega)];rfl
  have hR:st.R≠ []:=by intro e;rw [e]at hfull;simp at hfull;omega
  obtain⟨j,zw,s3,g1,g2,g3,g4,g5,g6⟩:=aCK (t:=t) (n:=n) (y:=bN) (st:=st) (s:=s2) rfl ht.1 hn.2 hR (fun r hr=>(gI q hS).2.1 r (mG hr)) sz2
  have q3:=q2.give hS
  have up3: ∀a,2*n+5≤a→aB s3.xs a=aB s2.xs a:=by
   intro a ha
   rw [g2]
   refine gW _ _ (fun r hr e=>?_)
   have:=(gI q hS).2.1 r (mG hr);omega
  refine⟨j+2,{st with R:=[] },s3,fun X h8 hr hdr=>?_,by rw [g2];exact q3,?_,fun a h0 h1 h2=>(up3 a h0).trans (x2 a h1 h2),by rw [g3];show s.c+1+1+_=_;omega,g4,g5,by omega,rfl,.inr ⟨rfl,by omega⟩⟩
  ·obtain⟨b,k1,k2⟩:=drops X h8 hr hdr false hd
   have hsw:End (dqJ t n) j ({doR X with at':=9,sw:=bN},st,s2) ({doR X with at':=9},{st with R:=[] },s3):=by
    refine End.outo (F:=ZW t n) (G:=dqJ t n) (fun p:SWS×STS×MS=>(({doR X with at':=9,sw:=p.1} :DOS),p.2.1,p.2.2)) (fun a c h=>kX (aDz (x:= {doR X with at':=9,sw:=a.1}) rfl hr (KP h))) g1 (fun c h=>kX (aDA (x:= {doR X with at':=9,sw:=c.1}) rfl hr (KP h)))
   exact⟨_,aGp (k1.trans (Go1.one k2)) hsw,rfl,rfl,rfl,rfl⟩
  ·intro k h0 h1
   rw [up3 _ (by omega)];exact sz2 k h0 h1
theorem xC(k:Int): ∀L:List Nd,∀b∈(sc k L).1,b.k<k
 | [],b,h=>by cases h
 | c::L,b,h=>by
   cases hm:c.m with
   | true=>rw [kR hm]at h;exact xC k L b h
   | false=>
     by_cases hk:k≤c.k
     ·rw [kS hm hk]at h;cases h
     ·rw [jF hm (by omega)]at h
      rcases List.mem_cons.1 h with e | e
      ·rw [e];omega
      ·exact xC k L b e
theorem SX(k:Int): ∀(A R:List Nd),(∀a∈A,a.m=false∧a.k<k)→sc k (A++R)=(A++(sc k R).1,(sc k R).2.1,(sc k R).2.2)
 | [],R,_=>rfl
 | a::A,R,h=>by
   obtain⟨h1,h2⟩:=h a (List.mem_cons_self ..)
   have ih:=SX k A R (fun b hb=>h b (List.mem_cons_of_mem _ hb))
   rw [List.cons_append,jF h1 h2,ih]
   rfl
theorem BP(k:Int): ∀L:List Nd,(∀b∈L,b.m=false)→(sc k L).2.1=[]∧(sc k L).1++(sc k L).2.2=L
 | [],_=>⟨rfl,rfl⟩
 | c::L,h=>by
   have hm:=h c (List.mem_cons_self ..)
   obtain⟨h1,h2⟩:=BP k L (fun b hb=>h b (List.mem_cons_of_mem _ hb))
   by_cases hk:k≤c.k
   ·rw [kS hm hk];exact⟨rfl,rfl⟩
   ·rw [jF hm (by omega)]
    exact⟨h1,by rw [List.cons_append,h2]⟩
theorem YS(k:Int)(L:List Nd):uk ((sc k L).1++(sc k L).2.2)=uk L:=by
 obtain⟨h1,h2⟩:=TH k L
 rw [lM,KW (zQ k L),h1,h2,List.takeWhile_append_dropWhile]
def UM(LL:List (List Nd)):Prop:= ∀L∈LL,∀b∈L,b.m=false
theorem UM.set{LL:List (List Nd)}(h:UM LL){i:Nat}{L:List Nd}(hL: ∀b∈L,b.m=false):UM (LL.set i L):=by
 intro M hM
 rcases List.mem_or_eq_of_mem_set hM with e | e
 ·exact h M e
 ·rw [e];exact hL
theorem UM.at{LL:List (List Nd)}(h:UM LL){i:Nat}{L:List Nd}(hL:LL[i]? =some L): ∀b∈L,b.m=false:=h L (List.mem_of_getElem? hL)
theorem FD{sh kd ky:Int}{B:List Nd}(hr:a8 sh kd ky=true):((paOf sh kd ky B).ok &&eU sh kd)=true↔ ∃v,paOf sh kd ky B=.mark v:=by
 have hk:=eJ.1 hr
 have mb:eU sh kd=true↔kd=2∨kd=5∧sh=3:=by unfold eU;simp [bI]
 constructor
 ·intro h
  rw [Bool.and_eq_true,mb]at h
  obtain⟨h1,h2⟩:=h
  unfold paOf at h1⊢
  rcases h2 with e | ⟨e,e3⟩
  ·rw [if_neg (show¬kd=4 by omega),if_neg (show¬kd=1 by omega),if_pos e]at h1⊢
   cases q:fndB ky B with
   | true=>exact⟨0,rfl⟩
   | false=>rw [q]at h1;cases h1
  ·rw [if_neg (show¬kd=4 by omega),if_neg (show¬kd=1 by omega),if_neg (show¬kd=2 by omega),if_neg (show¬kd=3 by omega)]at h1⊢
   cases B with
   | nil=>cases h1
   | cons b B'=>exact⟨b.k,if_neg (show¬sh=4 by omega)⟩
 ·rintro⟨v,hv⟩
  rw [hv,Bool.and_eq_true,mb]
  refine⟨rfl,?_⟩
  unfold paOf at hv
  by_cases e4:kd=4
  ·rw [if_pos e4]at hv;cases hv
  ·rw [if_neg e4]at hv
   by_cases e1:kd=1
   ·rw [if_pos e1]at hv
    cases q:fndB ky B<;>rw [q]at hv<;>cases hv
   ·rw [if_neg e1]at hv
    by_cases e2:kd=2
    ·exact .inl e2
    ·rw [if_neg e2]at hv
     by_cases e3:kd=3
     ·rw [if_pos e3]at hv;cases hv
     ·rw [if_neg e3]at hv
      right
      cases B with
      | nil=>cases hv
      | cons b B'=>
        by_cases e5:sh=4
        ·simp only [if_pos e5]at hv;cases hv
        ·omega
theorem FtA.up{n me p k ky sp:Int}{L:List Nd}{a:Pa}{s s':MS}{j:Nat}(f:FtA n me p L k ky sp a s s' j)(hn:1≤n)(hp:p≤n+4)(hL: ∀b∈L.map Nd.a,b≤n)(hsp:sp≤n):UpF n me s s':=by
 intro x h0 h1 h2
 refine f.same x h1 h2 (fun h=>?_) (by omega)
 rcases List.mem_cons.1 h with e | e
 ·omega
 ·have:=hL x e;omega
theorem KY.up{n p:Int}{L:List Nd}{x z:FNS}{s s':MS}{j:Nat}(f:KY n p L x s z s' j)(hn:1≤n)(hp:p≤n+4)(hL: ∀b∈L.map Nd.a,b≤n):UpF n x.me s s':=by
 intro y h0 h1 h2
 refine f.same y h1 h2 (fun h=>?_)
 rcases List.mem_cons.1 h with e | e
 ·omega
 ·have:=hL y (kC (vH _ _) e);omega
theorem aEE{t n:Int}{xs:List Int}{LL:List (List Nd)}{S:List STS}(q:QL t n xs LL S){i:Nat}{st:STS}(hS:S[i]? =some st):st.sp≤n:=by
 have hn:=q.hn
 by_cases z:st.sp=0
 ·omega
 ·exact((gI q hS).2.1 st.sp (by rw [lE z];exact List.mem_cons_self ..)).2
theorem CY{LL:List (List Nd)}{S:List STS}{i:Nat}{st st3:STS}{P Q:Prop}(hS:S[i]? =some st)(h:st3=st∧P∨st3= {st with R:=[] } ∧Q):(allN LL (S.set i st3)).length ≤(allN LL S).length :=by
 have hl:=tG (LL:=LL) (st':=st3) hS
 rcases h with⟨rfl,_⟩ | ⟨rfl,_⟩
 ·omega
 ·have h2:(aO st.sp []).length ≤(aO st.sp st.R).length :=by unfold aO;cases ieq st.sp 0<;>simp
  have h3:(allN LL (S.set i {st with R:=[] })).length +(aO st.sp st.R).length =(allN LL S).length +(aO st.sp []).length :=hl
  omega
theorem CX{sh kd ky:Int}{LL:List (List Nd)}{S:List STS}{h i:Nat}{L:List Nd}{st:STS}(hL:LL[h]? =some L)(hS:S[i]? =some st)(hl:bV kd=true→st.sp≠0):(allN (LL.set h (fZ sh kd ky st.sp L)) (S.set i (gA sh kd ky L st))).length =(allN LL S).length :=by
 have:=EP (L':=fZ sh kd ky st.sp L) (st':=gA sh kd ky L st) hL hS
 have pf:=(yV (sh:=sh) (kd:=kd) (ky:=ky) (L:=L) (st:=st) hl).length_eq
 simp only [List.length_append]at pf
 omega
theorem PV{LL:List (List Nd)}{S:List STS}{h i:Nat}{L:List Nd}{st:STS}(k:Int)(hL:LL[h]? =some L)(hS:S[i]? =some st):(allN (LL.set h ((sc k L).1++(sc k L).2.2)) (S.set i ⟨st.me,st.sp,st.R++(sc k L).2.1.map Nd.a⟩)).length =(allN LL S).length :=by
 have hm:=EP (L':=(sc k L).1++(sc k L).2.2) (st':=⟨st.me,st.sp,st.R++(sc k L).2.1.map Nd.a⟩) hL hS
 have pf:=(vI k L).length_eq
 have hh:(aO st.sp (st.R++(sc k L).2.1.map Nd.a)).length =(aO st.sp st.R).length +(sc k L).2.1.length :=by
  unfold aO
  cases ieq st.sp 0<;>simp<;>omega
 have hm:(allN (LL.set h ((sc k L).1++(sc k L).2.2)) (S.set i ⟨st.me,st.sp,st.R++(sc k L).2.1.map Nd.a⟩)).length +((L.map Nd.a).length +(aO st.sp st.R).length)=(allN LL S).length +((((sc k L).1++(sc k L).2.2).map Nd.a).length +(aO st.sp (st.R++(sc k L).2.1.map Nd.a)).length):=hm
 simp only [List.length_append,List.length_map]at pf hm
 omega
theorem aAx{t n:Int}{sh kd ky:Int}{LL:List (List Nd)}{S:List STS}{s:MS}{i:Nat}{st:STS}(q:QL t n s.xs LL S)(hS:S[i]? =some st)(hr:a8 sh kd ky=true)(um:UM LL)(hl:bV kd=true→st.sp≠0)
 (sz: ∀k:Int,0≤k→k<2*t→k≠2*st.me→k≠2*st.me+1→aB s.xs (2*n+5+k)=0):
 ∃j L' st' s',(∀Y:DOS,Y.sh=sh→Y.kd=kd→Y.ky=ky→0≤Y.limit→ ∃z,End (dqJ t n) j ({doR Y with at':=3,ft:=(ftNF t n sh kd ky Y.limit st).1},st,s) (z,st',s')∧z.code=0∧(z.okk,z.val)=(yO sh kd ky (uk (bP LL sh ky))).1∧z.slow=Y.slow)∧
  QL t n s'.xs (LL.set (b9 sh ky).toNat L') (S.set i st')∧(∀b∈L',b.m=false)∧uk L'=(yO sh kd ky (uk (bP LL sh ky))).2∧SZ t n s'.xs∧UpF n st.me s s'∧s'.c=s.c+j∧s'.t=s.t∧s'.n=s.n∧(j:Int)≤11*n+2*t+20∧
  st'.sp=(bif bV kd&&(yO sh kd ky (uk (bP LL sh ky))).1.1 then 0 else st.sp)∧(allN (LL.set (b9 sh ky).toNat L') (S.set i st')).length ≤(allN LL S).length :=by
 have hn:=q.hn
 have lc:=q.lc sh ky hS
 have hL:=q.at sh ky
 have hh:=wL sh ky
 have hLn:=iF q hL
 have hum:=um.at hL
 obtain⟨j1,s1,fa,hz⟩:=HD (t:=t) (sh:=sh) (kd:=kd) (ky:=ky) (st:=st) (s:=s) hr lc (fun hk=>by
  have h0:=hl hk
  have hm:st.sp∈aO st.sp st.R:=by rw [lE h0];exact List.mem_cons_self ..
  have:=(gI q hS).2.1 _ hm
  exact⟨this.1,this.2,tD q hS hL _ hm⟩)
 obtain⟨k1,k2,k3⟩:=ME sh kd ky st.sp (bP LL sh ky)
 have q1:=q.fast (sh:=sh) (kd:=kd) (ky:=ky) hS hl fa
 have up1:=fa.up hn.1 lc.hp.2 (fun b hb=>(hLn.2.1 b hb).2) (aEE q hS)
 have hlim:=fa.lim
 have hlen:=lc.ln
 obtain⟨u0,u1⟩:=BP (bW sh kd ky) _ hum
 have hlA:=xC (bW sh kd ky) (bP LL sh ky)
 have huA:=zQ (bW sh kd ky) (bP LL sh ky)
 have hsp:(gA sh kd ky (bP LL sh ky) st).sp =(bif bV kd&&(yO sh kd ky (uk (bP LL sh ky))).1.1 then 0 else st.sp):=by
  rw [←k1]
  show(paOf sh kd ky (sc (bW sh kd ky) (bP LL sh ky)).2.2).sp st.sp=_
  cases hlk:bV kd with
  | true=>
    rcases wU (sh:=sh) (ky:=ky) (B:=(sc (bW sh kd ky) (bP LL sh ky)).2.2) hlk with e | ⟨b,e⟩
    ·rw [e];rfl
    ·rw [e]
     cases b with
     | false=>rfl
     | true=>
       exfalso
       unfold paOf at e
       unfold bV at hlk
       simp only [bI,Bool.or_eq_true,beq_iff_eq]at hlk
       rcases hlk with e1 | e4
       ·rw [if_neg (show¬kd=4 by omega),if_pos e1]at e
        cases q:fndB ky (sc (bW sh kd ky) (bP LL sh ky)).2.2<;>rw [q]at e<;>cases e
       ·rw [if_pos e4]at e;cases e
  | false=>
    rw [Bool.false_and,cond_false]
    cases hp:paOf sh kd ky (sc (bW sh kd ky) (bP LL sh ky)).2.2 with
    | link=>have:=BG hp;rw [hlk]at this;cases this
    | _=>rfl
 have hwalk: ∀Y:DOS,Y.sh=sh→Y.kd=kd→Y.ky=ky→0≤Y.limit→ ∀y,(∀f:FTS,f.code=0→f.okk=(paOf sh kd ky (sc (bW sh kd ky) (bP LL sh ky)).2.2).ok →f.val=(paOf sh kd ky (sc (bW sh kd ky) (bP LL sh ky)).2.2).val →f.failed=false→(bif f.okk&&eU sh kd then(({doR Y with code:=f.code,okk:=f.okk,val:=f.val,at':=7,fn:=lW t n st.me (b9 sh ky) (bW sh kd ky) Y.limit} :DOS),gA sh kd ky (bP LL sh ky) st,s1)else(({doR Y with code:=f.code,okk:=f.okk,val:=f.val,at':=8,dr:=nH t n st.me} :DOS),gA sh kd ky (bP LL sh ky) st,s1))=y)→
  Go1 (dqJ t n) j1 ({doR Y with at':=3,ft:=(ftNF t n sh kd ky Y.limit st).1},st,s) y:=by
  intro Y y1 y2 y3 hlm y hy
  subst y1
  subst y2
  subst y3
  obtain⟨z,hend,z1,z2,z3,z4,z5⟩:=hz Y.limit hlm
  have hrY:a8 Y.sh Y.kd Y.ky=true:=hr
  refine aGo (F:=ftG t n) (fun p:FTS×STS×MS=>(({doR Y with at':=3,ft:=p.1} :DOS),p.2.1,p.2.2)) (fun a b hab=>kX (aDB (x:= {doR Y with at':=3,ft:=a.1}) rfl hrY (DX hab))) hend (fun b hb=>?_)
  have e:=aDC (x:= {doR Y with at':=3,ft:=b.1}) rfl hrY (DX hb) z4
  have hy:=hy z z1 z2 z3 z4
  unfold dqJ
  rw [e]
  rw [←hy]
  show((bif z.okk&&eU Y.sh Y.kd then _ else _:DqO).d,(bif z.okk&&eU Y.sh Y.kd then _ else _:DqO).x,(bif z.okk&&eU Y.sh Y.kd then _ else _:DqO).st,(bif z.okk&&eU Y.sh Y.kd then _ else _:DqO).s)=_
  cases (z.okk&&eU Y.sh Y.kd)<;>rfl
 have hS1:(S.set i (gA sh kd ky (bP LL sh ky) st))[i]? =some (gA sh kd ky (bP LL sh ky) st):=List.getElem?_set_self (fY hS)
 have hL1:(LL.set (b9 sh ky).toNat (fZ sh kd ky st.sp (bP LL sh ky)))[(b9 sh ky).toNat]? =some (fZ sh kd ky st.sp (bP LL sh ky)):=List.getElem?_set_self (fY hL)
 by_cases hmark: ∃v,paOf sh kd ky (sc (bW sh kd ky) (bP LL sh ky)).2.2=.mark v
 ·
  have hmk:=(FD (ky:=ky) (B:=(sc (bW sh kd ky) (bP LL sh ky)).2.2) hr).2 hmark
  obtain⟨v,hv⟩:=hmark
  have lc1:=q1.lc sh ky hS1
  rw [NS hL1]at lc1
  obtain⟨j2,zf,s2,e2,f2,hj2⟩:=QM (t:=t) (n:=n) (fZ sh kd ky st.sp (bP LL sh ky)) (n+1+b9 sh ky) (lW t n st.me (b9 sh ky) (bW sh kd ky) 0) s1 rfl rfl (lc1.fc _ _ _)
  have hL1':=hL1
  have q2:=q1.find (x:=lW t n st.me (b9 sh ky) (bW sh kd ky) 0) hL1 hS1 rfl (by rw [hh];exact f2)
  rw [List.set_set,List.set_set]at q2
  have ful:zf.ul=(sc (bW sh kd ky) (fZ sh kd ky st.sp (bP LL sh ky))).2.1.map Nd.a:=by have:=f2.ul;exact this.trans (List.nil_append _)
  have up2:UpF n st.me s1 s2:=f2.up hn.1 lc.hp.2 (fun b hb=>((iF q1 hL1).2.1 b hb).2)
  have hS2:(S.set i ⟨(gA sh kd ky (bP LL sh ky) st).me,(gA sh kd ky (bP LL sh ky) st).sp,(gA sh kd ky (bP LL sh ky) st).R ++(sc (bW sh kd ky) (fZ sh kd ky st.sp (bP LL sh ky))).2.1.map Nd.a⟩)[i]? =some _:=List.getElem?_set_self (fY hS)
  have sz2: ∀k:Int,0≤k→k<2*t→k≠2*st.me→k≠2*st.me+1→aB s2.xs (2*n+5+k)=0:=by
   intro k h0 h1 h2 h3
   rw [up2 _ (by omega) (by omega) (by omega),up1 _ (by omega) (by omega) (by omega)]
   exact sz k h0 h1 h2 h3
  obtain⟨j3,st3,s3,w,q3,sz3,up3,c3,t3,n3,b3,sp3,hd3⟩:=AN q2 hS2 sz2
  rw [List.set_set]at q3
  have ct3:=CY (LL:=LL.set (b9 sh ky).toNat ((sc (bW sh kd ky) (fZ sh kd ky st.sp (bP LL sh ky))).1++(sc (bW sh kd ky) (fZ sh kd ky st.sp (bP LL sh ky))).2.2)) hS2 hd3
  have ct2:=PV (bW sh kd ky) hL1 hS1
  have ct1:=CX (sh:=sh) (kd:=kd) (ky:=ky) hL hS hl
  rw [List.set_set]at ct3
  rw [List.set_set,List.set_set]at ct2
  rw [ct1]at ct2
  have hl1:=lc1.ln
  refine⟨j3+(j2+j1),_,st3,s3,fun Y y1 y2 y3 hlm=>?_,q3,?_,(YS _ _).trans k3,sz3,(up1.trans up2).trans up3,?_,t3.trans (f2.t.trans fa.t),n3.trans (f2.n.trans fa.n),by omega,sp3.trans hsp,Nat.le_trans ct3 (Nat.le_of_eq ct2)⟩
  ·obtain⟨f0,f01,f02,f03,f04⟩: ∃f:FTS,f.code=0∧f.okk=(paOf sh kd ky (sc (bW sh kd ky) (bP LL sh ky)).2.2).ok ∧f.val=(paOf sh kd ky (sc (bW sh kd ky) (bP LL sh ky)).2.2).val ∧f.failed=false:=by
    obtain⟨z,_,z1,z2,z3,z4,z5⟩:=hz Y.limit hlm
    exact⟨z,z1,z2,z3,z4⟩
   have g1:=hwalk Y y1 y2 y3 hlm (({doR Y with code:=0,okk:=(paOf sh kd ky (sc (bW sh kd ky) (bP LL sh ky)).2.2).ok,val:=(paOf sh kd ky (sc (bW sh kd ky) (bP LL sh ky)).2.2).val,at':=7,fn:=lW t n st.me (b9 sh ky) (bW sh kd ky) Y.limit} :DOS),gA sh kd ky (bP LL sh ky) st,s1) (by
    intro f a1 a2 a3 a4
    rw [a1,a2,a3,hmk];rfl)
   have hrY:a8 Y.sh Y.kd Y.ky=true:=by rw [y1,y2,y3];exact hr
   let X7:DOS:= {doR Y with code:=0,okk:=(paOf sh kd ky (sc (bW sh kd ky) (bP LL sh ky)).2.2).ok,val:=(paOf sh kd ky (sc (bW sh kd ky) (bP LL sh ky)).2.2).val,at':=7}
   have g2:Go1 (dqJ t n) j2 (({doR X7 with at':=7,fn:= {lW t n st.me (b9 sh ky) (bW sh kd ky) 0 with limit:=Y.limit} } :DOS),gA sh kd ky (bP LL sh ky) st,s1) ({doR X7 with at':=8,dr:=nH t n st.me},⟨st.me,(gA sh kd ky (bP LL sh ky) st).sp,(gA sh kd ky (bP LL sh ky) st).R ++zf.ul⟩,s2):=
    aGo (F:=B9 t n) (fun p:FNS×MS=>(({doR X7 with at':=7,fn:=p.1} :DOS),gA sh kd ky (bP LL sh ky) st,p.2)) (fun a b hab=>kX (aDD (x:= {doR X7 with at':=7,fn:=a.1}) rfl hrY (vA hab))) (e2 Y.limit) (fun b hb=>kX (aDE (x:= {doR X7 with at':=7,fn:=b.1}) (f:= {zf with limit:=Y.limit}) rfl hrY (vA hb)))
   rw [ful]at g2
   obtain⟨z,w1,w2⟩:=w {doR X7 with at':=8,dr:=nH t n st.me} rfl hrY rfl
   refine⟨z,aGp (g1.trans g2) w1,w2.code,?_,w2.slow⟩
   rw [w2.okk,w2.val]
   show((paOf sh kd ky (sc (bW sh kd ky) (bP LL sh ky)).2.2).ok,(paOf sh kd ky (sc (bW sh kd ky) (bP LL sh ky)).2.2).val)=_
   rw [k1,k2]
  ·
   show∀b∈(sc (bW sh kd ky) (fZ sh kd ky st.sp (bP LL sh ky))).1++(sc (bW sh kd ky) (fZ sh kd ky st.sp (bP LL sh ky))).2.2,b.m=false
   obtain⟨b0,B',hB⟩:=BH hv
   have hfl:fZ sh kd ky st.sp (bP LL sh ky)=(sc (bW sh kd ky) (bP LL sh ky)).1++⟨b0.a,b0.k,true⟩::B':=by
    unfold fZ;rw [hv,hB];rfl
   have hB': ∀b∈B',b.m=false:=by
    intro b hb
    refine hum b ?_
    rw [←u1,hB]
    exact List.mem_append_right _ (List.mem_cons_of_mem _ hb)
   rw [hfl,SX _ _ _ (fun a ha=>⟨huA a ha,hlA a ha⟩),kR rfl]
   obtain⟨v0,v1⟩:=BP (bW sh kd ky) B' hB'
   intro b hb
   rw [List.append_assoc,v1]at hb
   rcases List.mem_append.1 hb with e | e
   ·exact huA b e
   ·exact hB' b e
  ·rw [c3,f2.c,fa.c];omega
 ·have hmk:((paOf sh kd ky (sc (bW sh kd ky) (bP LL sh ky)).2.2).ok &&eU sh kd)=false:=by
   cases z:((paOf sh kd ky (sc (bW sh kd ky) (bP LL sh ky)).2.2).ok &&eU sh kd)with
   | false=>rfl
   | true=>exact absurd ((FD hr).1 z) hmark
  have sz1: ∀k:Int,0≤k→k<2*t→k≠2*st.me→k≠2*st.me+1→aB s1.xs (2*n+5+k)=0:=by
   intro k h0 h1 h2 h3
   rw [up1 _ (by omega) (by omega) (by omega)]
   exact sz k h0 h1 h2 h3
  obtain⟨j3,st3,s3,w,q3,sz3,up3,c3,t3,n3,b3,sp3,hd3⟩:=AN q1 hS1 sz1
  rw [List.set_set]at q3
  have ct3:=CY (LL:=LL.set (b9 sh ky).toNat (fZ sh kd ky st.sp (bP LL sh ky))) hS1 hd3
  have ct1:=CX (sh:=sh) (kd:=kd) (ky:=ky) hL hS hl
  rw [List.set_set]at ct3
  rw [ct1]at ct3
  refine⟨j3+j1,_,st3,s3,fun Y y1 y2 y3 hlm=>?_,q3,?_,k3,sz3,up1.trans up3,?_,t3.trans fa.t,n3.trans fa.n,by omega,sp3.trans hsp,ct3⟩
  ·have g1:=hwalk Y y1 y2 y3 hlm (({doR Y with code:=0,okk:=(paOf sh kd ky (sc (bW sh kd ky) (bP LL sh ky)).2.2).ok,val:=(paOf sh kd ky (sc (bW sh kd ky) (bP LL sh ky)).2.2).val,at':=8,dr:=nH t n st.me} :DOS),gA sh kd ky (bP LL sh ky) st,s1) (by
    intro f a1 a2 a3 a4
    rw [a1,a2,a3,hmk];rfl)
   have hrY:a8 Y.sh Y.kd Y.ky=true:=by rw [y1,y2,y3];exact hr
   obtain⟨z,w1,w2⟩:=w {doR Y with code:=0,okk:=(paOf sh kd ky (sc (bW sh kd ky) (bP LL sh ky)).2.2).ok,val:=(paOf sh kd ky (sc (bW sh kd ky) (bP LL sh ky)).2.2).val,at':=8,dr:=nH t n st.me} rfl hrY rfl
   refine⟨z,aGp g1 w1,w2.code,?_,w2.slow⟩
   rw [w2.okk,w2.val]
   show((paOf sh kd ky (sc (bW sh kd ky) (bP LL sh ky)).2.2).ok,(paOf sh kd ky (sc (bW sh kd ky) (bP LL sh ky)).2.2).val)=_
   rw [k1,k2]
  ·
   unfold fZ
   intro b hb
   rcases List.mem_append.1 hb with e | e
   ·exact huA b e
   ·have hBs: ∀b∈(sc (bW sh kd ky) (bP LL sh ky)).2.2,b.m=false:=fun b hb=>hum b (by rw [←u1];exact List.mem_append_right _ hb)
    cases hp:paOf sh kd ky (sc (bW sh kd ky) (bP LL sh ky)).2.2 with
    | now bb=>rw [hp]at e;exact hBs b e
    | link=>
      rw [hp]at e
      rcases List.mem_cons.1 e with e | e
      ·rw [e]
      ·exact hBs b e
    | mark v=>exact absurd ⟨v,hp⟩ hmark
    | pop v=>rw [hp]at e;exact hBs b (List.mem_of_mem_tail e)
  ·rw [c3,fa.c];omega
structure DoA (t n sh kd ky:Int) (LL:List (List Nd)) (S:List STS) (i:Nat) (st:STS) (s:MS) (j:Nat) (LL':List (List Nd)) (st':STS) (s':MS) (c:Int) (b:Bool) (v:Int):Prop where
 run: ∀lim,0≤lim→ ∃z,End (dqJ t n) j ((dqNF t n sh kd ky lim st).1,st,s) (z,st',s')∧z.code=c∧z.okk=b∧z.val=v∧z.slow=false
 q:QL t n s'.xs LL' (S.set i st')
 um:UM LL'
 sz:SZ t n s'.xs
 up:UpF n st.me s s'
 lim:(j:Int)≤20*n+10*t+50
 hc:s'.c=s.c+j
 tt:s'.t=s.t
 nn:s'.n=s.n
 ct:(allN LL' (S.set i st')).length ≤(allN LL S).length +1
 ns:c=0→bV kd=true→st.sp=0→st.R=[]→ ∃x,(1≤x∧x≤n)∧dB n s.xs x=false
 is:(c=4∧b=false∧v=0∧LL'=LL∧st'=st∧bV kd=true∧st.sp=0∧st.R=[]∧ ∀x,1≤x∧x≤n→dB n s.xs x=true)∨
  (c=0∧(b,v)=(yO sh kd ky (uk (bP LL sh ky))).1∧ ∃L',LL'=LL.set (b9 sh ky).toNat L'∧uk L'=(yO sh kd ky (uk (bP LL sh ky))).2)
theorem P2{t n:Int}{sh kd ky:Int}{LL:List (List Nd)}{S:List STS}{s:MS}{i:Nat}{st:STS}(q:QL t n s.xs LL S)(hS:S[i]? =some st)(hr:a8 sh kd ky=true)(um:UM LL)(sz:SZ t n s.xs)(pz:PZ t n s.xs):
 ∃j LL' st' s' c b v,DoA t n sh kd ky LL S i st s j LL' st' s' c b v:=by
 have hn:=q.hn
 have ht:=q.ht
 have hm:=q.me i st hS
 obtain⟨zh,sh1,eh,hu,xh,ch1,th1,nh1⟩:=y0 (t:=t) (n:=n) (t - 1).toNat (WZ t n) s rfl (Int.le_refl 0) (by show(0:Int)+_+1=t;omega) ht.2 pz
 have hj0:((t - 1).toNat :Int)+1=t:=by omega
 have qh:QL t n sh1.xs LL S:=by rw [xh];exact q
 have uph:UpF n st.me s sh1:=fun a _ _ _=>by rw [xh]
 have szh:SZ t n sh1.xs:=by rw [xh];exact sz
 let x0:Int→DOS:=fun lim=>(dqNF t n sh kd ky lim st).1
 have walk: ∀lim,Go1 (dqJ t n) ((t - 1).toNat +1) ((dqNF t n sh kd ky lim st).1,st,s) (bif bV kd&&ieq st.sp 0 then(({doR (x0 lim)with at':=2} :DOS),st,sh1)else(({doR (x0 lim)with at':=3,ft:=(ftNF t n sh kd ky lim st).1} :DOS),st,sh1)):=by
  intro lim
  have hst0:(ftNF t n sh kd ky lim st).2=st:=A2 (t:=t) sh kd ky lim ⟨hn.1,by omega⟩ (q.stw hS)
  refine aGo (F:=MZ t n) (fun p:HDS×MS=>(({doR (x0 lim)with at':=0,hd:=p.1} :DOS),st,p.2)) (fun a b hab=>kX (aDw (x:= {doR (x0 lim)with at':=0,hd:=a.1}) rfl hr (JU hab))) eh (fun b hb=>?_)
  have hu2:zh.u<0:=by rw [hu];show(-1:Int)<0;decide
  have e:=aDx (x:= {doR (x0 lim)with at':=0,hd:=b.1}) (st:=st) rfl hr (JU hb) hu2
  unfold dqJ
  rw [e]
  show((bif bV kd&&ieq st.sp 0 then _ else _:DqO).d,(bif bV kd&&ieq st.sp 0 then _ else _:DqO).x,(bif bV kd&&ieq st.sp 0 then _ else _:DqO).st,(bif bV kd&&ieq st.sp 0 then _ else _:DqO).s)=_
  cases (bV kd&&ieq st.sp 0)with
  | true=>rfl
  | false=>
    show(false,_,(ftNF t n sh kd ky lim st).2,sh1)=_
    rw [hst0];rfl
 have szo: ∀s':MS,(∀a,2*n+5≤a→aB s'.xs a=aB s.xs a)→ ∀k:Int,0≤k→k<2*t→k≠2*st.me→k≠2*st.me+1→aB s'.xs (2*n+5+k)=0:=by
  intro s' hs k h0 h1 _ _
  rw [hs _ (by omega)];exact sz k h0 h1
 have rest: ∀(st1:STS) (s1:MS) (j1:Nat),QL t n s1.xs LL (S.set i st1)→st1.me=st.me→(bV kd=true→st1.sp≠0)→(∀a,2*n+5≤a→aB s1.xs a=aB s.xs a)→s1.c=s.c+j1→s1.t=s.t→s1.n=s.n→(j1:Int)≤6*n+4*t+20→(bV kd=true→st.sp=0→st.R=[]→ ∃x,(1≤x∧x≤n)∧dB n s.xs x=false)→(allN LL (S.set i st1)).length ≤(allN LL S).length +1→
  (∀lim,0≤lim→Go1 (dqJ t n) j1 ((dqNF t n sh kd ky lim st).1,st,s) ({doR (x0 lim)with at':=3,ft:=(ftNF t n sh kd ky lim st1).1},st1,s1))→ ∃j LL' st' s' c b v,DoA t n sh kd ky LL S i st s j LL' st' s' c b v:=by
  intro st1 s1 j1 q1 hme hl1 same1 c1 t1 n1 b1 hns hct g1
  have hS1:(S.set i st1)[i]? =some st1:=List.getElem?_set_self (fY hS)
  obtain⟨j,L',st',s',w,q2,um2,uk2,sz2,up2,c2,t2,n2,b2,_,ct2⟩:=aAx (kd:=kd) q1 hS1 hr um hl1 (by rw [hme];exact szo s1 same1)
  rw [List.set_set]at q2 ct2
  refine⟨j+j1,LL.set (b9 sh ky).toNat L',st',s',0,(yO sh kd ky (uk (bP LL sh ky))).1.1,(yO sh kd ky (uk (bP LL sh ky))).1.2,?_⟩
  refine {run:=fun lim hlim=>?_,q:=q2,um:=um.set um2,sz:=sz2,up:=?_,hc:=by rw [c2,c1];omega,tt:=t2.trans t1,nn:=n2.trans n1,lim:=by omega,ct:=Nat.le_trans ct2 hct,ns:=fun _=>hns,is:=.inr ⟨rfl,rfl,L',rfl,uk2⟩ }
  ·obtain⟨z,z1,z2,z3,z4⟩:=w (x0 lim) rfl rfl rfl hlim
   have z3a:=congrArg Prod.fst z3
   have z3b:=congrArg Prod.snd z3
   exact⟨z,aGp (g1 lim hlim) z1,z2,z3a,z3b,z4⟩
  ·intro a h0 h1 h2
   rw [up2 a h0 (by rw [hme];exact h1) (by rw [hme];exact h2)]
   exact same1 a h0
 cases hle:(bV kd&&ieq st.sp 0)with
 | false=>
   rw [hle]at walk
   refine rest st sh1 ((t - 1).toNat +1) (by rw [oS hS];exact qh) rfl (fun hk hz=>?_) (fun a _=>by rw [xh]) ch1 th1 nh1 (by omega) (fun hk hz _=>by rw [hk,hz]at hle;cases hle) (by rw [oS hS];omega) (fun lim _=>walk lim)
   rw [hk,hz]at hle;cases hle
 | true=>
   rw [hle]at walk
   have hlk:bV kd=true:=(Bool.and_eq_true_iff.1 hle).1
   have hz:st.sp=0:=by simpa [bI]using(Bool.and_eq_true_iff.1 hle).2
   have ensured: ∀(j2:Nat) (z2:ENS) (st2:STS) (s2:MS),End (xZ t n) j2 (aU,st,sh1) (z2,st2,s2)→z2.sh=false→st2.me=st.me→st2.R.length≤500→(∀r∈st2.R,0≤r∧r≤1000)→ ∀lim,0≤lim→Go1 (dqJ t n) (j2+((t - 1).toNat +1)) ((dqNF t n sh kd ky lim st).1,st,s) ({doR (x0 lim)with at':=3,ft:=(ftNF t n sh kd ky lim st2).1},st2,s2):=by
    intro j2 z2 st2 s2 e2 hsh hme hRl hRs lim hlim
    have hst2:(ftNF t n sh kd ky lim st2).2=st2:=A2 (t:=t) (b:=500) sh kd ky lim ⟨hn.1,by omega⟩ ⟨by rw [hme];omega,hRs,by omega⟩
    refine(walk lim).trans ?_
    refine aGo (F:=xZ t n) (fun p:ENS×STS×MS=>(({doR (x0 lim)with at':=2,en:=p.1} :DOS),p.2.1,p.2.2)) (fun a b hab=>kX (Y4 (x:= {doR (x0 lim)with at':=2,en:=a.1}) rfl hr (rM hab))) e2 (fun b hb=>?_)
    have e:=Y5 (x:= {doR (x0 lim)with at':=2,en:=b.1}) rfl hr (rM hb)
    unfold dqJ
    rw [e,hsh]
    show(false,_,(ftNF t n sh kd ky lim st2).2,s2)=_
    rw [hst2];rfl
   have hRst:st.R.length≤500:=by have:=(q.stw hS).ln;omega
   have hRsm:=(q.stw hS).r
   have life_up: ∀(xs:List Int) (b v:Int),(1≤b∧b≤n)→ ∀a,2*n+5≤a→aB (aS xs (n+4+b) v) a=aB xs a:=fun xs b v hb a ha=>cO (by omega)
   by_cases hfree: ∃b,(1≤b∧b≤n)∧dB n s.xs b=false
   ·obtain⟨b0,hb0,hf0⟩:=hfree
    obtain⟨j2,b,z2,s2,e2,g2,g3,g4,g5,g6,g7,g8,g9⟩:=C9 (t:=t) (n:=n) (e:=aU) (st:=st) (s:=sh1) rfl hz qh.mc hb0 (by rw [xh];exact hf0)
    have q2:=qh.take hS hz g2 g3
    refine rest {st with sp:=b} s2 (j2+((t - 1).toNat +1)) (by rw [g5];exact q2) rfl (fun _=>by show b≠0;omega) (fun a ha=>by rw [g5,life_up _ _ _ g2 a ha,xh]) (by rw [g6,ch1];omega) (g7.trans th1) (g8.trans nh1) (by omega) (fun _ _ _=>⟨b0,hb0,hf0⟩) (by
     have:=tG (LL:=LL) (st':= {st with sp:=b}) hS
     rw [hz,A7,lE (show b≠0 by omega)]at this
     simp only [List.length_cons]at this
     omega) (ensured j2 z2 _ s2 e2 g4 rfl hRst hRsm)
   ·have hall: ∀x,1≤x∧x≤n→dB n s.xs x=true:=by
     intro x hx
     cases z:dB n s.xs x with
     | true=>rfl
     | false=>exact absurd ⟨x,hx,z⟩ hfree
    by_cases hR:st.R=[]
    ·
     obtain⟨j2,z2,s2,e2,g1,g3,g4,g5,g6,g7⟩:=LZ (t:=t) (n:=n) (e:=aU) (st:=st) (s:=sh1) rfl hz hn.1 (by rw [xh];exact hall) hR
     have q2:QL t n s2.xs LL S:=by rw [g3];exact qh
     obtain⟨j3,st3,s3,w,q3,sz3,up3,c3,t3,n3,b3,_,hst3⟩:=AN q2 hS (szo s2 (fun a _=>by rw [g3,xh]))
     have hst3:st3=st:=by
      rcases hst3 with⟨e,_⟩ | ⟨_,e⟩
      ·exact e
      ·rw [hR]at e;simp at e;omega
     subst hst3
     refine⟨j3+(j2+((t - 1).toNat +1)),LL,st3,s3,4,false,0,?_⟩
     refine {run:=fun lim hlim=>?_,q:=q3,um:=um,sz:=sz3,up:=?_,hc:=by rw [c3,g4,ch1];omega,tt:=t3.trans (g5.trans th1),nn:=n3.trans (g6.trans nh1),lim:=by omega,ct:=by rw [oS hS];omega,ns:=(fun h=>by cases h),is:=.inl ⟨rfl,rfl,rfl,rfl,rfl,hlk,hz,hR,hall⟩ }
     ·have g:Go1 (dqJ t n) j2 ({doR (x0 lim)with at':=2,en:=aU},st3,sh1) ({doR (x0 lim)with code:=4,okk:=false,val:=0,at':=8,dr:=nH t n st3.me},st3,s2):=by
       refine aGo (F:=xZ t n) (fun p:ENS×STS×MS=>(({doR (x0 lim)with at':=2,en:=p.1} :DOS),p.2.1,p.2.2)) (fun a b hab=>kX (Y4 (x:= {doR (x0 lim)with at':=2,en:=a.1}) rfl hr (rM hab))) e2 (fun b hb=>?_)
       have e:=Y5 (x:= {doR (x0 lim)with at':=2,en:=b.1}) rfl hr (rM hb)
       unfold dqJ
       rw [e,g1];rfl
      obtain⟨z,w1,w2⟩:=w {doR (x0 lim)with code:=4,okk:=false,val:=0,at':=8,dr:=nH t n st3.me} rfl hr rfl
      exact⟨z,aGp ((walk lim).trans g) w1,w2.code,w2.okk,w2.val,w2.slow⟩
     ·intro a h0 h1 h2
      rw [up3 a h0 h1 h2,g3,xh]
    ·
     obtain⟨h1,h2,h3⟩:=gI q hS
     obtain⟨j2,b,z2,s2,e2,g2,gb,g3,g4,g5,g6,g7,g8,g9⟩:=L0 (t:=t) (n:=n) (e:=aU) (st:=st) (s:=sh1) rfl rfl hz qh.mc (by rw [xh];exact hall) hR (fun r hr=>h2 r (mG hr)) (qS h1) szh
     have qg:=qh.give hS
     have hSg:(S.set i {st with R:=[] })[i]? =some {st with R:=[] } :=List.getElem?_set_self (fY hS)
     have q2:=qg.take hSg hz g2 g3
     rw [List.set_set]at q2
     have hRl:(st.R.length:Int)≤n:=fH (by omega) (qS h1) (fun r hr=>h2 r (mG hr))
     refine rest ⟨st.me,b,[]⟩ s2 (j2+((t - 1).toNat +1)) (by rw [g5];exact q2) rfl (fun _=>by show b≠0;omega) (fun a ha=>?_) (by rw [g6,ch1];omega) (g7.trans th1) (g8.trans nh1) (by omega) (fun _ _ h=>absurd h hR) (by
      have:=tG (LL:=LL) (st':=⟨st.me,b,[]⟩) hS
      rw [hz,A7,lE (show b≠0 by omega)]at this
      simp only [List.length_cons,List.length_nil]at this
      omega) (ensured j2 z2 _ s2 e2 g4 rfl (by simp) (fun r h=>by cases h))
     rw [g5,life_up _ _ _ g2 a ha,gW _ _ (fun r hr e=>by have:=h2 r (mG hr);omega),xh]
theorem I8{t n:Int}{a:DOS×STS×MS}{d:Bool}{b:DOS×STS×MS}(h:dqJ t n a=(d,b)):(dqF t n a.1 a.2.1 a.2.2).d =d∧((dqF t n a.1 a.2.1 a.2.2).x,(dqF t n a.1 a.2.1 a.2.2).st,(dqF t n a.1 a.2.1 a.2.2).s)=b:=by
 unfold dqJ at h
 rw [pI']at h
 exact h
theorem yQ{t n:Int}{z:DOS×STS×MS} : ∀(i:Nat) (a c:DOS×STS×MS) (b:Int) (N:Nat),Go1 (dqJ t n) i a c→dqJ t n c=(true,z)→i+1≤N→lO t n a.2.2→a.2.2.c+i+1≤900000→dqW t n b a.2.1 a.1→stW b a.2.1→b+i+1≤900000→
 v9 t n N a.1 a.2.1 a.2.2∧nD t n N a.1 a.2.1 a.2.2=(i+1,z)
 | 0,a,c,b,N+1,h,hz,hN,hb,hc,hx,hst,hbb=>by
   cases h
   obtain⟨h1,h2⟩:=I8 hz
   have ok:=P7 hb hx hst (by omega)
   refine⟨⟨ok,fun q=>by rw [h1]at q;cases q⟩,?_⟩
   show(bif (dqF t n a.1 a.2.1 a.2.2).d then _ else _)=_
   rw [h1,cond_true,←h2]
 | i+1,a,c,b,N+1,h,hz,hN,hb,hc,hx,hst,hbb=>by
   cases h with
   | cons e g=>
     obtain⟨h1,h2⟩:=I8 e
     have ok:=P7 hb hx hst (by omega)
     have wv:=aAL hb hx hst (by omega)
     have hb':=wv.a.bnd hb (by omega)
     have ih:=yQ i _ c (b+1) N g hz (by omega) (by rw [←h2];exact hb') (by rw [←h2];show(dqF t n a.1 a.2.1 a.2.2).s.c +_+_≤_;rw [wv.a.c];omega) (by rw [←h2];exact wv.w h1) (by rw [←h2];exact wv.st) (by omega)
     rw [←h2]at ih
     refine⟨⟨ok,fun _=>ih.1⟩,?_⟩
     show(bif (dqF t n a.1 a.2.1 a.2.2).d then _ else _)=_
     rw [h1,cond_false,ih.2]
 | i,a,c,b,0,h,hz,hN,hb,hc,hx,hst,hbb=>by omega
theorem ZL{n:Int}{xs:List Int} : ∀(L:List Nd) (a:Int) (k:Nat) (out:List Int),ch n xs a L→(L.map Nd.a).Nodup →(∀b∈L.map Nd.a,b∉out)→L.length<k→tH xs n k (nxW (aB xs a)) out=out++L.map Nd.a
 | [],a,k+1,out,h,_,_,_=>by
   have h:nxW (aB xs a)=0:=h
   show(bif bK n (nxW (aB xs a))then _ else out)=_
   have:bK n (nxW (aB xs a))=false:=by
    rw [h];unfold bK;rw [bX];rfl
   rw [this];simp
 | b::L,a,k+1,out,h,nd,ho,hk=>by
   obtain⟨h1,h2,h3,h4,h5,h6⟩:=h
   have nd:=List.nodup_cons.1 nd
   show(bif bK n (nxW (aB xs a))then bif !hasB out (nxW (aB xs a))then tH xs n k (nxW (aB xs (nxW (aB xs a)))) (out++ [nxW (aB xs a)])else out else out)=_
   rw [h1,kD.2 h2]
   have hb:hasB out b.a=false:=by
    cases q:hasB out b.a with
    | false=>rfl
    | true=>exact absurd (gX.1 q) (ho b.a (by simp))
   rw [hb]
   simp only [Bool.not_false,cond_true]
   rw [ZL L b.a k (out++ [b.a]) h6 nd.2 (fun c hc hh=>?_) (by simpa using hk)]
   ·simp
   ·rcases List.mem_append.1 hh with e | e
    ·exact ho c (by rw [List.map_cons];exact List.mem_cons_of_mem _ hc) e
    ·rw [List.mem_singleton.1 e]at hc;exact nd.1 hc
theorem l6{t n:Int}{xs:List Int}{LL:List (List Nd)}{S:List STS}(q:QL t n xs LL S){h:Nat}{L:List Nd}(hL:LL[h]? =some L):ndF xs n h=L.map Nd.a:=by
 obtain⟨d1,d2,_⟩:=iF q hL
 have hn:=q.hn
 have:=fH (by omega) d1 d2
 rw [List.length_map]at this
 unfold ndF
 have:=ZL L (n+1+h) (n.toNat+1) [] (q.hd h L hL).1 d1 (fun _ _ h=>by cases h) (by omega)
 simpa using this
theorem EM{n:Int}{xs:List Int} : ∀(L:List Nd) (a:Int),ch n xs a L→kyL xs (L.map Nd.a)=uk L
 | [],a,_=>rfl
 | b::L,a,h=>by
   obtain⟨h1,h2,h3,h4,h5,h6⟩:=h
   have ih:=EM L b.a h6
   have h4:ieq (aA (aB xs b.a) 19 1) 1=b.m:=h4
   have h3:aA (aB xs b.a) 0 10=b.k:=h3
   rw [uZ,←ih]
   unfold kyL
   rw [List.map_cons,List.filter_cons,h4]
   cases b.m
   ·simp [h3]
   ·simp
theorem sA{t n:Int}{xs:List Int}{LL:List (List Nd)}{S:List STS}(q:QL t n xs LL S){h:Nat}{L:List Nd}(hL:LL[h]? =some L):keyF xs n h=uk L:=by
 unfold keyF
 rw [l6 q hL]
 exact EM L _ (q.hd h L hL).1
theorem aDd{x:Int}(h:0≤x∧x≤1000000):W x=x:=cJ ⟨by omega,by omega⟩
theorem PW: ∀(ks:List Int) (m:List (Int×Int)),ks.Nodup→(∀k∈ks,mget m k=none)→(∀k v,mget m k=some v→v=1)→ ∀k,mget (gF ks m) k=if k∈ks then some 1 else mget m k
 | [],m,_,_,_,k=>by simp [gF]
 | a::ks,m,hn,h0,h1,k=>by
   have hn:=List.nodup_cons.1 hn
   have ha:=h0 a (List.mem_cons_self ..)
   have hv:W ((mget m a).getD 0+1)=1:=by rw [ha];exact aDd ⟨by decide,by decide⟩
   show mget (gF ks (cL m a (W ((mget m a).getD 0+1)))) k=_
   rw [hv]
   rw [PW ks (cL m a 1) hn.2 (fun b hb=>by
    rw [gC,if_neg (by rintro rfl;exact hn.1 hb)];exact h0 b (List.mem_cons_of_mem _ hb)) (fun b v hv=>by
    rw [gC]at hv
    split at hv
    ·cases hv;rfl
    ·exact h1 b v hv) k,gC]
   by_cases e:k∈ks
   ·rw [if_pos e,if_pos (List.mem_cons_of_mem _ e)]
   ·rw [if_neg e]
    by_cases e2:k=a
    ·rw [if_pos e2,if_pos (by rw [e2];exact List.mem_cons_self ..)]
    ·rw [if_neg e2,if_neg (fun h=>(List.mem_cons.1 h).elim e2 e)]
theorem AJ(a b:List Int): ∀m,gF (a++b) m=gF b (gF a m):=by
 induction a with
 | nil=>intro m;rfl
 | cons x a ih=>intro m;exact ih _
theorem SR{m:List (Int×Int)}{p:Int→Bool}(hm: ∀k,mget m k=if p k=true then some 1 else none): ∀n,eL m n=((List.range n).map fun i:Nat=>(i:Int)).filter p
 | 0=>rfl
 | n+1=>by
   show eL m n++_=_
   rw [SR hm n,List.range_succ,List.map_append,List.filter_append,hm]
   congr 1
   cases q:p (n:Int)with
   | true=>simp [q]
   | false=>simp [q]
theorem aCv{m:List (Int×Int)}{p:Int→Bool}{N:Nat}(hm: ∀k,mget m k=if p k=true then some 1 else none)(hN:N=1000+24)(hout: ∀k:Int,999<k→p k=false):eL m N=((List.range 1000).map fun i:Nat=>(i:Int)).filter p:=by
 subst hN
 have e24:List.range (1000+24)=List.range 1000++(List.range 24).map (1000+ ·):=List.range_add
 rw [SR hm (1000+24),e24,List.map_append,List.filter_append]
 have t1:(((List.range 24).map (1000+ ·)).map fun i:Nat=>(i:Int)).filter p=[]:=by
  refine List.filter_eq_nil_iff.2 (fun k hk=>?_)
  obtain⟨i,hi,rfl⟩:=List.mem_map.1 hk
  obtain⟨j,hj,rfl⟩:=List.mem_map.1 hi
  rw [hout _ (by omega)];decide
 rw [t1,List.append_nil]
theorem mD{u:List Int}(h:Srt u):u.Nodup:=by
 rw [List.nodup_iff_pairwise_ne]
 exact List.Pairwise.imp (fun {a b} h=>by omega) h
theorem DW{LL:List (List Nd)}(h:LL.length=4): ∃A B C D,LL=[A,B,C,D]:=by
 match LL,h with
 | [A,B,C,D],_=>exact⟨A,B,C,D,rfl⟩
theorem RH{t n:Int}{xs:List Int}{LL:List (List Nd)}{S:List STS}{sh:Int}{f g:Nat→Int}{m:Nat}(q:QL t n xs LL S)(r:Rp sh LL f g m):d0 xs n sh=bT sh f g m:=by
 obtain⟨A,B,C,D,rfl⟩:=DW q.four
 have k0:=sA q (h:=0) (L:=A) rfl
 have k1:=sA q (h:=1) (L:=B) rfl
 have k2:=sA q (h:=2) (L:=C) rfl
 have k3:=sA q (h:=3) (L:=D) rfl
 unfold d0
 rcases r with⟨hs,r⟩ | ⟨hs,r⟩
 ·have hl:ilt 2 sh=false:=by rw [bJ];exact decide_eq_false (by omega)
  rw [hl,cond_false]
  have e:cntM xs n=gF (uk A++(uk B++(uk C++uk D))) []:=by
   unfold cntM
   rw [show keyF xs n 3=uk D from k3,show keyF xs n 2=uk C from k2,show keyF xs n 1=uk B from k1,show keyF xs n 0=uk A from k0,AJ,AJ,AJ]
  have rA:=r.rng 0 A rfl
  have rB:=r.rng 1 B rfl
  have rC:=r.rng 2 C rfl
  have rD:=r.rng 3 D rfl
  have nd:(uk A++(uk B++(uk C++uk D))).Nodup :=by
   refine List.nodup_append.2 ⟨mD (r.srt 0 A rfl),List.nodup_append.2 ⟨mD (r.srt 1 B rfl),List.nodup_append.2 ⟨mD (r.srt 2 C rfl),mD (r.srt 3 D rfl),?_⟩,?_⟩,?_⟩
   ·rintro a ha b hb rfl
    have:=(rC a ha).2;have:=(rD a hb).2;omega
   ·rintro a ha b hb rfl
    have h1:=(rB a ha).2
    rcases List.mem_append.1 hb with h | h
    ·have:=(rC a h).2;omega
    ·have:=(rD a h).2;omega
   ·rintro a ha b hb rfl
    have h1:=(rA a ha).2
    rcases List.mem_append.1 hb with h | h
    ·have:=(rB a h).2;omega
    ·rcases List.mem_append.1 h with h | h
     ·have:=(rC a h).2;omega
     ·have:=(rD a h).2;omega
  have hm: ∀k,mget (cntM xs n) k=if decide (k∈uk A++(uk B++(uk C++uk D)))=true then some 1 else none:=by
   intro k
   rw [e,PW _ [] nd (fun _ _=>rfl) (fun _ _ h=>by cases h) k]
   simp only [dT']
   rfl
  have hin: ∀k:Int,0≤k→k≤999→(decide (k∈uk A++(uk B++(uk C++uk D))))=inF f g k m:=by
   intro k h0 h9
   have hb:=cW sh k
   have key:k∈uk A++(uk B++(uk C++uk D))↔inF f g k m=true:=by
    simp only [List.mem_append]
    have hc:(b9 sh k).toNat =0∨(b9 sh k).toNat =1∨(b9 sh k).toNat =2∨(b9 sh k).toNat =3:=by omega
    constructor
    ·rintro(h | h | h | h)
     ·exact(r.mem 0 A rfl k h0 h9 (rA k h).2).1 h
     ·exact(r.mem 1 B rfl k h0 h9 (rB k h).2).1 h
     ·exact(r.mem 2 C rfl k h0 h9 (rC k h).2).1 h
     ·exact(r.mem 3 D rfl k h0 h9 (rD k h).2).1 h
    ·intro h
     rcases hc with e | e | e | e
     ·exact .inl ((r.mem 0 A rfl k h0 h9 e).2 h)
     ·exact .inr (.inl ((r.mem 1 B rfl k h0 h9 e).2 h))
     ·exact .inr (.inr (.inl ((r.mem 2 C rfl k h0 h9 e).2 h)))
     ·exact .inr (.inr (.inr ((r.mem 3 D rfl k h0 h9 e).2 h)))
   cases z:inF f g k m with
   | true=>exact decide_eq_true (key.2 z)
   | false=>exact decide_eq_false (fun h=>by rw [key.1 h]at z;cases z)
  have hout: ∀k:Int,999<k→decide (k∈uk A++(uk B++(uk C++uk D)))=false:=by
   intro k hk
   refine decide_eq_false (fun h=>?_)
   simp only [List.mem_append]at h
   rcases h with h | h | h | h
   ·have:=(rA k h).1;omega
   ·have:=(rB k h).1;omega
   ·have:=(rC k h).1;omega
   ·have:=(rD k h).1;omega
  rw [aCv hm (N:=1024) rfl hout]
  have hR:bT sh f g m=setF f g m:=by
   unfold bT
   rw [dT (show sh≠3 by omega),dT (show sh≠4 by omega),cond_false,cond_false]
  rw [hR]
  unfold setF
  refine List.filter_congr (fun k hk=>?_)
  obtain⟨i,hi,rfl⟩:=List.mem_map.1 hk
  exact hin _ (by omega) (by have:=List.mem_range.1 hi;omega)
 ·have hl:ilt 2 sh=true:=by rw [bJ];exact decide_eq_true (by omega)
  rw [hl,cond_true]
  exact(show keyF xs n 0=uk A from k0).trans r.eq
theorem xH{t n:Int}{xs:List Int}{LL:List (List Nd)}{S:List STS}(q:QL t n xs LL S)(b:Int):cZ xs n b=true↔b∈allN LL S:=by
 unfold cZ
 have hw:=iP q.okw (n+4+b)
 constructor
 ·intro h
  simp only [Bool.and_eq_true,bI,beq_iff_eq]at h
  obtain⟨h1,h2⟩:=h
  have hb:=kD.1 h1
  refine(q.tk b hb).1 ?_
  show oddB (aB xs (n+4+b))=true
  rw [gJ hw.1,←Int.tmod_eq_emod_of_nonneg hw.1];exact h2
 ·intro h
  have hb:=q.rng b h
  have h2:=(q.tk b hb).2 h
  have h2:oddB (aB xs (n+4+b))=true:=h2
  rw [gJ hw.1]at h2
  simp only [Bool.and_eq_true,bI,beq_iff_eq]
  exact⟨kD.2 hb,by rw [Int.tmod_eq_emod_of_nonneg hw.1];exact h2⟩
theorem RT(m:List (Int×Int))(k v:Int)(h:mget m k=none):(cL m k v).length =m.length+1:=by
 induction m with
 | nil=>rfl
 | cons x m ih=>
   unfold mget at h
   rw [List.find?_cons]at h
   by_cases e:x.1=k
   ·simp [e]at h
   ·have e2:(x.1 == k)=false:=by simpa using e
    rw [e2]at h
    show(if x.1=k then _ else _:List (Int×Int)).length =_
    rw [if_neg e]
    simp only [List.length_cons]
    rw [ih h]
theorem KM{xs:List Int}{n:Int} : ∀(bs:List Int) (m:List (Int×Int)),bs.Nodup→(∀b∈bs,mget m b=none∧cZ xs n b=true)→ ∃m',dX xs n bs m=some m'∧m'.length=m.length+bs.length∧ ∀k,mget m' k=if k∈bs then some 1 else mget m k
 | [],m,_,_=>⟨m,rfl,by simp,fun k=>by simp⟩
 | b::bs,m,hn,h=>by
   have hn:=List.nodup_cons.1 hn
   obtain⟨h1,h2⟩:=h b (List.mem_cons_self ..)
   have hv:W ((mget m b).getD 0+1)=1:=by rw [h1];exact aDd ⟨by decide,by decide⟩
   obtain⟨m',g1,g2,g3⟩:=KM bs (cL m b 1) hn.2 (fun c hc=>by
    have:=h c (List.mem_cons_of_mem _ hc)
    rw [gC,if_neg (by rintro rfl;exact hn.1 hc)]
    exact this)
   refine⟨m',?_,?_,fun k=>?_⟩
   ·show(bif ilt 1 (W ((mget m b).getD 0+1))|| !cZ xs n b then none else dX xs n bs (cL m b (W ((mget m b).getD 0+1))))=_
    rw [hv,h2,show ilt 1 1=false by decide]
    exact g1
   ·rw [g2,RT m b 1 h1];simp only [List.length_cons];omega
   ·rw [g3,gC]
    by_cases e:k∈bs
    ·rw [if_pos e,if_pos (List.mem_cons_of_mem _ e)]
    ·rw [if_neg e]
     by_cases e2:k=b
     ·rw [if_pos e2,if_pos (by rw [e2];exact List.mem_cons_self ..)]
     ·rw [if_neg e2,if_neg (fun h=>(List.mem_cons.1 h).elim e2 e)]
theorem rO{α:Type}(p:α→Bool): ∀l:List α,(l.filter p).length +(l.filter fun a=>!p a).length =l.length
 | []=>rfl
 | a::l=>by
   have:=rO p l
   rw [List.filter_cons,List.filter_cons]
   cases p a<;>simp<;>omega
theorem QT{t n:Int}{xs:List Int}{LL:List (List Nd)}{S:List STS}(q:QL t n xs LL S):((allN LL S).length :Int)=n - (i5 xs n).length :=by
 have hn:=q.hn
 let l:=((List.range n.toNat).map fun i:Nat=>(i:Int)+1)
 have hl:l.length=n.toNat:=by simp [l]
 have nd:l.Nodup:=by
  rw [List.nodup_iff_pairwise_ne,List.pairwise_map]
  exact List.Pairwise.imp (fun {a b} h=>by omega) (List.nodup_iff_pairwise_ne.1 List.nodup_range)
 have hs:=rO (cZ xs n) l
 have h1:(allN LL S).length ≤(l.filter (cZ xs n)).length :=l7 _ _ q.nd (fun b hb=>by
  have hr:=q.rng b hb
  exact List.mem_filter.2 ⟨List.mem_map.2 ⟨(b - 1).toNat,List.mem_range.2 (by omega),by omega⟩,(xH q b).2 hb⟩)
 have h2:(l.filter (cZ xs n)).length ≤(allN LL S).length :=l7 _ _ (nd.sublist (List.filter_sublist)) (fun b hb=>(xH q b).1 (List.mem_filter.1 hb).2)
 have h3:i5 xs n=l.filter fun a=>!cZ xs n a:=rfl
 rw [h3]
 omega
def selF(sh h:Int):Int→List Int→List Nd
 | _,[]=>[]
 | i,k::ks=>bif fN sh h k then selF sh h (i+1) ks else⟨i+1,k,false⟩::selF sh h (i+1) ks
theorem oQ{sh h k:Int}(i:Int)(ks:List Int)(e:fN sh h k=true):selF sh h i (k::ks)=selF sh h (i+1) ks:=by
 show(bif fN sh h k then _ else _)=_
 rw [e];rfl
theorem oR{sh h k:Int}(i:Int)(ks:List Int)(e:fN sh h k=false):selF sh h i (k::ks)=⟨i+1,k,false⟩::selF sh h (i+1) ks:=by
 show(bif fN sh h k then _ else _)=_
 rw [e];rfl
theorem BS(sh h:Int): ∀(xs:List Int) (i:Int),∀b∈selF sh h i xs,i+1≤b.a∧b.a≤i+xs.length∧b.m=false
 | [],i,b,hb=>by cases hb
 | k::ks,i,b,hb=>by
   have ih:=BS sh h ks (i+1)
   have hl:((k::ks).length :Int)=ks.length+1:=by simp
   cases e:fN sh h k with
   | true=>
     rw [oQ i ks e]at hb
     obtain⟨a1,a2,a3⟩:=ih b hb
     exact⟨by omega,by omega,a3⟩
   | false=>
     rw [oR i ks e]at hb
     rcases List.mem_cons.1 hb with q | q
     ·rw [q];exact⟨Int.le_refl _,by show i+1≤_;omega,rfl⟩
     ·obtain⟨a1,a2,a3⟩:=ih b q
      exact⟨by omega,by omega,a3⟩
theorem sM(sh h:Int)(xs:List Int)(i:Int): ∀b∈(selF sh h i xs).map Nd.a,i+1≤b∧b≤i+xs.length:=by
 intro b hb
 obtain⟨c,hc,rfl⟩:=List.mem_map.1 hb
 have:=BS sh h xs i c hc
 omega
theorem tU(sh h:Int): ∀(xs:List Int) (i:Int),((selF sh h i xs).map Nd.a).Nodup
 | [],i=>List.nodup_nil
 | k::ks,i=>by
   cases e:fN sh h k with
   | true=>rw [oQ i ks e];exact tU sh h ks (i+1)
   | false=>
     rw [oR i ks e,List.map_cons]
     refine List.nodup_cons.2 ⟨fun hb=>?_,tU sh h ks (i+1)⟩
     have:=sM sh h ks (i+1) _ hb
     have h2:i+1+1≤i+1:=this.1
     omega
theorem tV(sh h:Int): ∀(xs:List Int) (i:Int),uk (selF sh h i xs)=xs.filter fun k=>!fN sh h k
 | [],i=>rfl
 | k::ks,i=>by
   cases e:fN sh h k with
   | true=>rw [oQ i ks e,tV sh h ks (i+1),List.filter_cons,e];rfl
   | false=>
     rw [oR i ks e,uZ,tV sh h ks (i+1),List.filter_cons,e];rfl
theorem vJ(sh h:Int): ∀(xs:List Int) (i b:Int),b∈(selF sh h i xs).map Nd.a↔ ∃j:Nat,∃k,xs[j]? =some k∧b=i+j+1∧fN sh h k=false
 | [],i,b=>by
   constructor
   ·intro h;cases h
   ·rintro⟨j,k,h1,_⟩;simp at h1
 | k::ks,i,b=>by
   have ih:=vJ sh h ks (i+1) b
   have rest:(∃j:Nat,∃q,ks[j]? =some q∧b=i+1+j+1∧fN sh h q=false)→ ∃j:Nat,∃q,(k::ks)[j]? =some q∧b=i+j+1∧fN sh h q=false:=by
    rintro⟨j,q,h1,h2,h3⟩
    exact⟨j+1,q,by simpa using h1,by omega,h3⟩
   cases e:fN sh h k with
   | true=>
     rw [oQ i ks e,ih]
     refine⟨rest,?_⟩
     rintro⟨j,q,h1,h2,h3⟩
     cases j with
     | zero=>
       have:k=q:=by simpa using h1
       rw [this,h3]at e;cases e
     | succ j=>exact⟨j,q,by simpa using h1,by omega,h3⟩
   | false=>
     rw [oR i ks e,List.map_cons,List.mem_cons,ih]
     constructor
     ·rintro(h1 | h1)
      ·exact⟨0,k,rfl,by rw [h1];show i+1=i+(0:Nat)+1;omega,e⟩
      ·exact rest h1
     ·rintro⟨j,q,h1,h2,h3⟩
      cases j with
      | zero=>left;rw [h2];show i+(0:Nat)+1=i+1;omega
      | succ j=>right;exact⟨j,q,by simpa using h1,by omega,h3⟩
structure aEZ (sh h n i a ky:Int) (xs:List Int) (s s':MS):Prop where
 len:s'.xs.length=s.xs.length
 okw:okW s'.xs
 tt:s'.t=s.t
 nn:s'.n=s.n
 c:s.c≤s'.c∧s'.c≤s.c+1+2*xs.length
 ch:ch n s'.xs a (selF sh h i xs)
 ky:kyW (aB s'.xs a)=ky
 mk1:mkW (aB s'.xs a)=false
 cl:clW' (aB s'.xs a)=0
 life: ∀b∈(selF sh h i xs).map Nd.a,aB s'.xs (n+4+b)=1
 same: ∀x,x≠a→(∀b∈(selF sh h i xs).map Nd.a,x≠b∧x≠n+4+b)→aB s'.xs x=aB s.xs x
theorem A0{sh h n:Int}(hn:1≤n∧n≤500): ∀(xs:List Int) (i a ky vr:Int) (s:MS),okW s.xs→2*n+5≤(s.xs.length:Int)→0≤i→i+xs.length≤n→1≤a∧(a≤i∨n+1≤a∧a≤n+4)→0≤ky∧ky<1024→0≤vr∧vr<262144→(∀k∈xs,0≤k∧k<1024)→
 aEZ sh h n i a ky xs s (iY sh h n xs i a ky vr s)
 | [],i,a,ky,vr,s,okw,hlen,hi,hin,ha,hk,hv,_=>by
   have ok:okF ky 0 0 vr:=⟨hk,by omega,by omega,hv⟩
   have hb:0≤a∧a<s.xs.length:=by omega
   have e:aB (s.stored a (bY ky 0 false 0 vr)).xs a=bY ky 0 false 0 vr:=dQ hb
   refine {len:=cC _ _ _,okw:=eH okw (mY ok),tt:=rfl,nn:=rfl,c:=⟨?_,?_⟩,ch:=?_,ky:=?_,mk1:=?_,cl:=?_,life:=(fun b hb=>by cases hb),same:=fun x hx _=>cO hx}
   ·show s.c≤s.c+1;omega
   ·show s.c+1≤s.c+1+2*(([]:List Int).length :Int);simp
   ·show nxW (aB (s.stored a (bY ky 0 false 0 vr)).xs a)=0
    rw [e];exact uE ok
   ·show kyW (aB (s.stored a (bY ky 0 false 0 vr)).xs a)=ky
    rw [e];exact vY ok
   ·show mkW (aB (s.stored a (bY ky 0 false 0 vr)).xs a)=false
    rw [e];exact pQ ok
   ·show clW' (aB (s.stored a (bY ky 0 false 0 vr)).xs a)=0
    rw [e];exact qV ok
 | k::ks,i,a,ky,vr,s,okw,hlen,hi,hin,ha,hk,hv,hks=>by
   have hl:((k::ks).length :Int)=ks.length+1:=by simp
   have hks2: ∀q∈ks,0≤q∧q<1024:=fun q hq=>hks q (List.mem_cons_of_mem _ hq)
   have hk2:=hks k (List.mem_cons_self ..)
   cases e:fN sh h k with
   | true=>
     have es:iY sh h n (k::ks) i a ky vr s=iY sh h n ks (i+1) a ky vr s:=by show cond _ _ _=_;rw [e];rfl
     have ih:=A0 (sh:=sh) (h:=h) hn ks (i+1) a ky vr s okw hlen (by omega) (by omega) (by omega) hk hv hks2
     rw [es]
     have e2:=oQ i ks e
     exact {len:=ih.len,okw:=ih.okw,tt:=ih.tt,nn:=ih.nn,c:=⟨ih.c.1,by have:=ih.c.2;omega⟩,ch:=by rw [e2];exact ih.ch,ky:=ih.ky,mk1:=ih.mk1,cl:=ih.cl,life:=by rw [e2];exact ih.life,same:=by rw [e2];exact ih.same}
   | false=>
     have es:iY sh h n (k::ks) i a ky vr s=iY sh h n ks (i+1) (i+1) k 3 ((s.stored a (bY ky (i+1) false 0 vr)).stored (n+4+(i+1)) 1):=by show cond _ _ _=_;rw [e];rfl
     have ok:okF ky (i+1) 0 vr:=⟨hk,by omega,by omega,hv⟩
     let s1:=(s.stored a (bY ky (i+1) false 0 vr)).stored (n+4+(i+1)) 1
     have hl1:s1.xs.length=s.xs.length:=(cC _ _ _).trans (cC _ _ _)
     have okw1:okW s1.xs:=eH (eH okw (mY ok)) (by omega)
     have ih:=A0 (sh:=sh) (h:=h) hn ks (i+1) (i+1) k 3 s1 okw1 (by rw [hl1];exact hlen) (by omega) (by omega) (by omega) hk2 (by omega) hks2
     have hin1:0≤a∧a<s.xs.length:=by omega
     have hin2:0≤n+4+(i+1)∧n+4+(i+1)<(s.stored a (bY ky (i+1) false 0 vr)).xs.length :=by
      have:(s.stored a (bY ky (i+1) false 0 vr)).xs.length =s.xs.length:=cC _ _ _
      rw [this];omega
     have p1: ∀x,x≠a→x≠n+4+(i+1)→aB s1.xs x=aB s.xs x:=fun x h1 h2=>(cO h2).trans (cO h1)
     have pa:aB s1.xs a=bY ky (i+1) false 0 vr:=(cO (by omega)).trans (dQ hin1)
     have pl:aB s1.xs (n+4+(i+1))=1:=dQ hin2
     have hsel:=sM sh h ks (i+1)
     have fa:aB (iY sh h n ks (i+1) (i+1) k 3 s1).xs a=bY ky (i+1) false 0 vr:=by
      rw [ih.same a (by omega) (fun b hb=>by have:=hsel b hb;omega)];exact pa
     have e2:=oR i ks e
     rw [es]
     refine {len:=ih.len.trans hl1,okw:=ih.okw,tt:=ih.tt,nn:=ih.nn,c:=?_,ch:=?_,ky:=?_,mk1:=?_,cl:=?_,life:=?_,same:=?_ }
     ·obtain⟨c1,c2⟩:=ih.c
      have ec:s1.c=s.c+1+1:=rfl
      rw [ec]at c1 c2
      exact⟨Int.le_trans (by omega) c1,Int.le_trans c2 (by omega)⟩
     ·rw [e2]
      refine⟨?_,?_,ih.ky,ih.mk1,ih.cl,ih.ch⟩
      ·rw [fa];exact uE ok
      ·show 1≤i+1∧i+1≤n;omega
     ·rw [fa];exact vY ok
     ·rw [fa];exact pQ ok
     ·rw [fa];exact qV ok
     ·rw [e2]
      intro b hb
      rw [List.map_cons]at hb
      rcases List.mem_cons.1 hb with q | q
      ·have q:b=i+1:=q
       rw [q,ih.same (n+4+(i+1)) (by omega) (fun c hc=>by have:=hsel c hc;omega)]
       exact pl
      ·exact ih.life b q
     ·rw [e2]
      intro x h1 h2
      have h3:=h2 (i+1) (by rw [List.map_cons];exact List.mem_cons_self ..)
      rw [ih.same x h3.1 (fun b hb=>h2 b (by rw [List.map_cons];exact List.mem_cons_of_mem _ hb))]
      exact p1 x h1 h3.2
theorem S2{sh h h' k:Int}(h0:0≤h)(h1:0≤h')(e:fN sh h k=false)(e':fN sh h' k=false):h=h':=by
 unfold fN at e e'
 cases q:ieq sh 2 with
 | true=>
   rw [q]at e e'
   simp only [cond_true,Bool.not_eq_false',bI,beq_iff_eq]at e e'
   omega
 | false=>
   rw [q]at e e'
   simp only [cond_false,bJ,dF']at e e'
   omega
theorem KN{sh h h':Int}(h0:0≤h)(h1:0≤h')(xs:List Int)(b:Int)(e:b∈(selF sh h 0 xs).map Nd.a)(e':b∈(selF sh h' 0 xs).map Nd.a):h=h':=by
 obtain⟨j,k,a1,a2,a3⟩:=(vJ _ _ _ _ _).1 e
 obtain⟨j',k',b1,b2,b3⟩:=(vJ _ _ _ _ _).1 e'
 have:j=j':=by omega
 subst this
 rw [a1]at b1
 cases b1
 exact S2 h0 h1 a3 b3
structure FilH (sh t n:Int) (xs:List Int) (H:Nat) (s:MS):Prop where
 len:(s.xs.length:Int)=2*n+5*t+6
 okw:okW s.xs
 tt:s.t=t
 nn:s.n=n
 c:0≤s.c∧s.c≤H*(2*xs.length+1)
 hd: ∀h:Nat,h<H→ch n s.xs (n+1+h) (selF sh h 0 xs)∧mkW (aB s.xs (n+1+h))=false∧clW' (aB s.xs (n+1+h))=0
 life: ∀h:Nat,h<H→ ∀b∈(selF sh h 0 xs).map Nd.a,aB s.xs (n+4+b)=1
 zero: ∀x,(∀h:Nat,h<H→x≠n+1+h∧ ∀b∈(selF sh h 0 xs).map Nd.a,x≠b∧x≠n+4+b)→aB s.xs x=0
theorem R4(k:Nat)(a:Int):aB (List.replicate k 0) a=0:=by
 unfold aB
 split
 ·rw [gD']
  by_cases h:a.toNat<k
  ·rw [List.getElem?_replicate,if_pos h];rfl
  ·rw [List.getElem?_replicate,if_neg h];rfl
 ·rfl
theorem QI{sh t n:Int}(hn:1≤n∧n≤500)(ht:1≤t∧t≤1000)(xs:List Int):FilH sh t n xs 0 (memN t n):=by
 refine {len:=?_,okw:=?_,tt:=rfl,nn:=rfl,c:=⟨Int.le_refl 0,by simp [memN]⟩,hd:=(fun h hh=>by omega),life:=(fun h hh=>by omega),zero:=(fun x _=>R4 _ _) }
 ·show((List.replicate (2*n+5*t+6).toNat (0:Int)).length :Int)=_
  rw [List.length_replicate];omega
 ·refine⟨fun x hx=>?_⟩
  have:=List.eq_of_mem_replicate hx
  omega
theorem n6{sh t n:Int}(hn:1≤n∧n≤500)(ht:1≤t∧t≤1000){xs:List Int}(hx:(xs.length:Int)≤n)(hk: ∀k∈xs,0≤k∧k<1024){H:Nat}(hH:H<4){s:MS}(f:FilH sh t n xs H s):FilH sh t n xs (H+1) (iY sh H n xs 0 (n+1+H) 0 0 s):=by
 have flen:=f.len
 have g:=A0 (sh:=sh) (h:=H) hn xs 0 (n+1+H) 0 0 s f.okw (by omega) (Int.le_refl 0) (by omega) (by omega) (by omega) (by omega) hk
 have hsel: ∀h:Nat,∀b∈(selF sh h 0 xs).map Nd.a,1≤b∧b≤n:=fun h b hb=>by have:=sM sh h xs 0 b hb;omega
 have hdis: ∀h:Nat,h<H→ ∀b∈(selF sh h 0 xs).map Nd.a,∀b'∈(selF sh H 0 xs).map Nd.a,b≠b':=by
  rintro h hh b hb b' hb' rfl
  have:=KN (sh:=sh) (h:=h) (h':=H) (by omega) (by omega) xs b hb hb'
  omega
 refine {len:=by rw [g.len];exact flen,okw:=g.okw,tt:=g.tt.trans f.tt,nn:=g.nn.trans f.nn,c:=?_,hd:=?_,life:=?_,zero:=?_ }
 ·have c1:=f.c
  have c2:=g.c
  refine⟨by omega,?_⟩
  have e:((H+1:Nat):Int)*(2*(xs.length:Int)+1)=(H:Int)*(2*xs.length+1)+(2*xs.length+1):=by
   rw [Int.natCast_add,Int.add_mul];simp
  rw [e];omega
 ·intro h hh
  by_cases e:h=H
  ·subst e;exact⟨g.ch,g.mk1,g.cl⟩
  ·obtain⟨a1,a2,a3⟩:=f.hd h (by omega)
   have eh:aB (iY sh H n xs 0 (n+1+H) 0 0 s).xs (n+1+h)=aB s.xs (n+1+h):=g.same _ (by omega) (fun b hb=>by have:=hsel H b hb;omega)
   refine⟨jT a1 (fun b hb=>?_),by rw [eh];exact a2,by rw [eh];exact a3⟩
   rcases List.mem_cons.1 hb with q | q
   ·rw [q];exact eh
   ·have hb2:=hsel h b q
    exact g.same b (by omega) (fun b' hb'=>⟨hdis h (by omega) b q b' hb',by have:=hsel H b' hb';omega⟩)
 ·intro h hh b hb
  by_cases e:h=H
  ·subst e;exact g.life b hb
  ·have hb2:=hsel h b hb
   rw [g.same (n+4+b) (by omega) (fun b' hb'=>by
    have:=hsel H b' hb'
    have:=hdis h (by omega) b hb b' hb'
    omega)]
   exact f.life h (by omega) b hb
 ·intro x hz
  have z:=hz H (by omega)
  rw [g.same x z.1 z.2]
  exact f.zero x (fun h hh=>hz h (by omega))
def LLf(sh:Int)(xs:List Int):List (List Nd):=[selF sh 0 0 xs,selF sh 1 0 xs,selF sh 2 0 xs,selF sh 3 0 xs]
theorem pF{sh:Int}{xs:List Int}{h:Nat}{L:List Nd}(e:(LLf sh xs)[h]? =some L):h<4∧L=selF sh h 0 xs:=by
 match h,e with
 | 0,e=>cases e;exact⟨by omega,rfl⟩
 | 1,e=>cases e;exact⟨by omega,rfl⟩
 | 2,e=>cases e;exact⟨by omega,rfl⟩
 | 3,e=>cases e;exact⟨by omega,rfl⟩
 | h+4,e=>simp [LLf]at e
theorem vE(sh:Int)(xs:List Int)(b:Int):b∈(LLf sh xs).flatMap (fun L=>L.map Nd.a)↔ ∃h:Nat,h<4∧b∈(selF sh h 0 xs).map Nd.a:=by
 unfold LLf
 simp only [List.flatMap_cons,List.flatMap_nil,List.append_nil,List.mem_append]
 constructor
 ·rintro(h | h | h | h)
  ·exact⟨0,by omega,h⟩
  ·exact⟨1,by omega,h⟩
  ·exact⟨2,by omega,h⟩
  ·exact⟨3,by omega,h⟩
 ·rintro⟨h,hh,hb⟩
  match h,hh,hb with
  | 0,_,hb=>exact .inl hb
  | 1,_,hb=>exact .inr (.inl hb)
  | 2,_,hb=>exact .inr (.inr (.inl hb))
  | 3,_,hb=>exact .inr (.inr (.inr hb))
theorem aB8(sh:Int)(xs:List Int):((LLf sh xs).flatMap (fun L=>L.map Nd.a)).Nodup :=by
 unfold LLf
 simp only [List.flatMap_cons,List.flatMap_nil,List.append_nil]
 have d: ∀h h':Int,0≤h→0≤h'→h≠h'→ ∀a∈(selF sh h 0 xs).map Nd.a,∀b∈(selF sh h' 0 xs).map Nd.a,a≠b:=by
  rintro h h' h0 h1 hne a ha b hb rfl
  exact hne (KN h0 h1 xs a ha hb)
 refine List.nodup_append.2 ⟨tU sh 0 xs 0,List.nodup_append.2 ⟨tU sh 1 xs 0,List.nodup_append.2 ⟨tU sh 2 xs 0,tU sh 3 xs 0,d 2 3 (by decide) (by decide) (by decide)⟩,?_⟩,?_⟩
 ·intro a ha b hb
  rcases List.mem_append.1 hb with h | h
  ·exact d 1 2 (by decide) (by decide) (by decide) a ha b h
  ·exact d 1 3 (by decide) (by decide) (by decide) a ha b h
 ·intro a ha b hb
  rcases List.mem_append.1 hb with h | h
  ·exact d 0 1 (by decide) (by decide) (by decide) a ha b h
  ·rcases List.mem_append.1 h with h | h
   ·exact d 0 2 (by decide) (by decide) (by decide) a ha b h
   ·exact d 0 3 (by decide) (by decide) (by decide) a ha b h
structure Fil (sh t n:Int) (xs:List Int) (S:List STS) (s:MS):Prop where
 q:QL t n s.xs (LLf sh xs) S
 um:UM (LLf sh xs)
 sz:SZ t n s.xs
 pz:PZ t n s.xs
 tt:s.t=t
 nn:s.n=n
 c:0≤s.c∧s.c≤4*(2*xs.length+1)
 fr: ∀b,(xs.length:Int)<b→b≤n→aB s.xs (n+4+b)=0
theorem V5{sh t n:Int}(hn:1≤n∧n≤500)(ht:1≤t∧t≤1000){xs:List Int}(hx:(xs.length:Int)≤n)(hk: ∀k∈xs,0≤k∧k<1024)(S:List STS)(hS: ∀st∈S,st.sp=0∧st.R=[])(me: ∀(i:Nat) (st:STS),S[i]? =some st→st.me=i∧(i:Int)<t):
 Fil sh t n xs S (eB sh t n xs):=by
 have f:=n6 hn ht hx hk (by omega) (n6 hn ht hx hk (by omega) (n6 hn ht hx hk (by omega) (n6 hn ht hx hk (by omega) (QI (sh:=sh) hn ht xs))))
 have f:FilH sh t n xs 4 (eB sh t n xs):=f
 have hsel: ∀h:Nat,∀b∈(selF sh h 0 xs).map Nd.a,1≤b∧b≤xs.length:=fun h b hb=>by have:=sM sh h xs 0 b hb;omega
 have hheld:S.flatMap (fun st=>aO st.sp st.R)=[]:=by
  rw [List.flatMap_eq_nil_iff]
  intro st hst
  obtain⟨a,b⟩:=hS st hst
  rw [a,b];rfl
 have hall:allN (LLf sh xs) S=(LLf sh xs).flatMap (fun L=>L.map Nd.a):=by
  unfold allN;rw [hheld,List.append_nil]
 have hz0: ∀b,1≤b→b≤n→b∉allN (LLf sh xs) S→aB (eB sh t n xs).xs (n+4+b)=0:=by
  intro b h1 h2 hb
  refine f.zero _ (fun h hh=>⟨by omega,fun b' hb'=>?_⟩)
  have:=hsel h b' hb'
  refine⟨by omega,fun e=>hb ?_⟩
  have:b=b':=by omega
  rw [hall,vE]
  exact⟨h,hh,by rw [this];exact hb'⟩
 have hzz: ∀x,2*n+5≤x→aB (eB sh t n xs).xs x=0:=by
  intro x hx2
  refine f.zero _ (fun h hh=>⟨by omega,fun b' hb'=>?_⟩)
  have:=hsel h b' hb'
  omega
 refine {q:= {ht:=ht,hn:=hn,len:=f.len,okw:=f.okw,four:=rfl,hd:=?_,nd:=by rw [hall];exact aB8 sh xs,rng:=?_,tk:=?_,me:=me},um:=?_,sz:=fun i h0 h1=>hzz _ (by omega),pz:=fun u h0 h1=>?_,tt:=f.tt,nn:=f.nn,c:=f.c,fr:=fun b h1 h2=>hz0 b (by omega) h2 (fun hb=>?_) }
 ·intro h L hL
  obtain⟨h4,rfl⟩:=pF hL
  exact f.hd h h4
 ·intro b hb
  rw [hall,vE]at hb
  obtain⟨h,hh,hb⟩:=hb
  have:=hsel h b hb
  omega
 ·intro b hb
  constructor
  ·intro hl
   by_cases q:b∈allN (LLf sh xs) S
   ·exact q
   ·have:=hz0 b hb.1 hb.2 q
    unfold dB at hl
    rw [this]at hl;cases hl
  ·intro hb2
   rw [hall,vE]at hb2
   obtain⟨h,hh,hb2⟩:=hb2
   unfold dB
   rw [f.life h hh b hb2];rfl
 ·intro L hL b hb
  obtain⟨h,hh⟩:=List.getElem?_of_mem hL
  obtain⟨h4,rfl⟩:=pF hh
  exact(BS sh h xs 0 b hb).2.2
 ·rw [hzz _ (by unfold qX;omega)];rfl
 ·rw [hall,vE]at hb
  obtain⟨h,hh,hb⟩:=hb
  have:=hsel h b hb
  omega
theorem ZJ{f g:Nat→Int}{k:Int} : ∀m,inF f g k m=true→ ∃j,j<m∧g j=k
 | 0,h=>by cases h
 | m+1,h=>by
   rw [RC]at h
   by_cases e:g m=k
   ·exact⟨m,by omega,e⟩
   ·rw [dT e]at h
    obtain⟨j,h1,h2⟩:=ZJ m h
    exact⟨j,by omega,h2⟩
theorem BT{f g:Nat→Int}{m:Nat}{k:Int} :k∈setF f g m↔(0≤k∧k≤999)∧inF f g k m=true:=by
 unfold setF
 rw [List.mem_filter,List.mem_map]
 constructor
 ·rintro⟨⟨i,hi,rfl⟩,h⟩
  have:=List.mem_range.1 hi
  exact⟨by omega,h⟩
 ·rintro⟨h1,h2⟩
  exact⟨⟨k.toNat,List.mem_range.2 (by omega),by omega⟩,h2⟩
theorem KO(f g:Nat→Int)(m:Nat):Srt (setF f g m):=by
 unfold setF Srt
 refine List.Pairwise.sublist List.filter_sublist ?_
 rw [List.pairwise_map]
 exact List.Pairwise.imp (fun {a b} h=>by omega) List.pairwise_lt_range
theorem YA(f g:Nat→Int)(m:Nat):(setF f g m).length ≤m:=by
 have:=l7 (setF f g m) ((List.range m).map g) (mD (KO f g m)) (fun k hk=>by
  obtain⟨j,h1,h2⟩:=ZJ m (BT.1 hk).2
  exact List.mem_map.2 ⟨j,List.mem_range.2 h1,h2⟩)
 simpa using this
theorem BA{sh:Int}(hs:sh=1∨sh=2)(f g:Nat→Int)(m:Nat):bT sh f g m=setF f g m:=by
 unfold bT
 rw [dT (show sh≠3 by omega),dT (show sh≠4 by omega),cond_false,cond_false]
theorem RN{sh:Int}(hs:sh=3∨sh=4){f g:Nat→Int} : ∀m,pV sh f g m→(bT sh f g m).length ≤m∧ ∀k∈bT sh f g m,0≤k∧k≤999
 | 0,_=>by
   have:bT sh f g 0=[]:=by
    rcases hs with rfl | rfl
    ·rfl
    ·rfl
   rw [this];exact⟨Nat.le_refl _,fun k hk=>by cases hk⟩
 | m+1,h=>by
   obtain⟨h1,h2⟩:=RN hs m (fun j hj=>h j (by omega))
   have hb:wN f m:=fun j hj=>(pE (h j (by omega)) hs).1
   obtain⟨hk,hy⟩:=pE (h m (by omega)) hs
   rcases hk with e | e
   ·rcases hs with rfl | rfl
    ·have hi:bT 3 f g (m+1)=bT 3 f g m++ [g m]:=EU hb e
     rw [hi]
     refine⟨by rw [List.length_append];simpa using h1,fun k hk=>?_⟩
     rcases List.mem_append.1 hk with z | z
     ·exact h2 k z
     ·rw [List.mem_singleton.1 z];exact hy
    ·have hi:bT 4 f g (m+1)=g m::bT 4 f g m:=FF e
     rw [hi]
     refine⟨by rw [List.length_cons];omega,fun k hk=>?_⟩
     rcases List.mem_cons.1 hk with z | z
     ·rw [z];exact hy
     ·exact h2 k z
   ·have hi:bT sh f g (m+1)=(bT sh f g m).tail :=by
     rcases hs with rfl | rfl
     ·exact y7 hb e
     ·exact zI hb e
    rw [hi]
    exact⟨by rw [List.length_tail];omega,fun k hk=>h2 k (List.mem_of_mem_tail hk)⟩
theorem A9{sh:Int}{f g:Nat→Int}{m:Nat}(hs:sh=1∨sh=2∨sh=3∨sh=4)(h:pV sh f g m):(bT sh f g m).length ≤m∧ ∀k∈bT sh f g m,0≤k∧k≤999:=by
 by_cases e:sh=1∨sh=2
 ·rw [BA e]
  exact⟨YA f g m,fun k hk=>(BT.1 hk).1⟩
 ·exact RN (by omega) m h
theorem zS{sh k:Int}{h:Nat}(hh:h<4)(hs:sh=1∨sh=2)(hk:0≤k):fN sh h k=false↔(b9 sh k).toNat =h:=by
 unfold fN b9
 rcases hs with rfl | rfl
 ·rw [dT (show(1:Int)≠2 by decide)]
  simp only [cond_false,bJ,dF']
  constructor
  ·intro h;show(0:Int).toNat =_;simp;omega
  ·intro h
   have h:(0:Int).toNat =_:=h
   simp at h;omega
 ·rw [bE]
  simp only [cond_true,Bool.not_eq_false',bI,beq_iff_eq]
  rw [Int.tmod_eq_emod_of_nonneg hk]
  omega
theorem X9{sh:Int}{f g:Nat→Int}{m:Nat}(hs:sh=1∨sh=2∨sh=3∨sh=4)(h:pV sh f g m):Rp sh (LLf sh (bT sh f g m)) f g m:=by
 obtain⟨hl,hb⟩:=A9 hs h
 by_cases e:sh=1∨sh=2
 ·left
  refine⟨e,?_,?_,?_⟩
  ·intro i L hL
   obtain⟨h4,rfl⟩:=pF hL
   rw [tV,BA e]
   exact(KO f g m).sublist List.filter_sublist
  ·intro i L hL k hk
   obtain⟨h4,rfl⟩:=pF hL
   rw [tV,List.mem_filter]at hk
   have hb:=hb k hk.1
   exact⟨hb,(zS h4 e hb.1).1 (by simpa using hk.2)⟩
  ·intro i L hL k k0 k9 hi
   obtain⟨h4,rfl⟩:=pF hL
   rw [tV,List.mem_filter,BA e,BT]
   have:=(zS h4 e k0).2 hi
   constructor
   ·rintro⟨⟨_,z⟩,_⟩;exact z
   ·intro z;exact⟨⟨⟨k0,k9⟩,z⟩,by rw [this];rfl⟩
 ·right
  have e2:sh=3∨sh=4:=by omega
  have hsk: ∀(h:Int) (k:Int),fN sh h k=ilt 0 h:=by
   intro h k
   unfold fN
   rw [dT (show sh≠2 by omega)];rfl
  refine⟨e2,?_,hb,?_⟩
  ·show uk (selF sh 0 0 (bT sh f g m))=_
   rw [tV]
   refine List.filter_eq_self.2 (fun k hk=>?_)
   rw [hsk];rfl
  ·intro i L hL hi
   obtain⟨h4,rfl⟩:=pF hL
   cases hq:selF sh i 0 (bT sh f g m)with
   | nil=>rfl
   | cons b L=>
     exfalso
     have:b.a∈(selF sh i 0 (bT sh f g m)).map Nd.a:=by rw [hq];simp
     obtain⟨j,k,_,_,h3⟩:=(vJ _ _ _ _ _).1 this
     rw [hsk,bJ,dF']at h3
     omega
theorem PZ.up{t n me:Int}{s s':MS}(h:PZ t n s.xs)(hm:0≤me∧me<t)(u:UpF n me s s'):PZ t n s'.xs:=by
 intro x h0 h1
 rw [u (qX t n x) (by unfold qX;omega) (by unfold qX;omega) (by unfold qX;omega)]
 exact h x h0 h1
theorem M7{t n:Int}{xs:List Int}{LL:List (List Nd)}{S:List STS}(q:QL t n xs LL S):jY xs n S=true:=by
 obtain⟨A,B,C,D,rfl⟩:=DW q.four
 have k0:=l6 q (h:=0) (L:=A) rfl
 have k1:=l6 q (h:=1) (L:=B) rfl
 have k2:=l6 q (h:=2) (L:=C) rfl
 have k3:=l6 q (h:=3) (L:=D) rfl
 have eM:d7 xs n=[A,B,C,D].flatMap (fun L=>L.map Nd.a):=by
  unfold d7
  rw [show ndF xs n 0=A.map Nd.a from k0,show ndF xs n 1=B.map Nd.a from k1,show ndF xs n 2=C.map Nd.a from k2,show ndF xs n 3=D.map Nd.a from k3]
  simp
 have pp:(D3 S++d7 xs n).Perm (allN [A,B,C,D] S):=by
  rw [eM]
  exact List.perm_append_comm
 obtain⟨m',h1,h2,_⟩:=KM (xs:=xs) (n:=n) (D3 S++d7 xs n) [] (pp.nodup_iff.2 q.nd) (fun b hb=>⟨rfl,(xH q b).2 (pp.subset hb)⟩)
 unfold jY
 rw [h1]
 show ieq (m'.length:Int) (n - (i5 xs n).length)=true
 have hl:=QT q
 rw [bI,beq_iff_eq,h2,pp.length_eq]
 rw [←hl];simp
structure pN (t n sh:Int) (f g:Nat→Int) (j:Nat) (LL:List (List Nd)) (S:List STS) (s:MS):Prop where
 q:QL t n s.xs LL S
 um:UM LL
 sz:SZ t n s.xs
 pz:PZ t n s.xs
 rp:Rp sh LL f g j
 ct:(allN LL S).length ≤j
 tt:s.t=t
 nn:s.n=n
theorem pN.step{t n sh:Int}{f g:Nat→Int}{j i:Nat}{LL:List (List Nd)}{S:List STS}{s:MS}{st:STS}(h:pN t n sh f g j LL S s)(hS:S[i]? =some st)(ho:pV sh f g (j+1))(hn:(j:Int)<n):
 ∃LL' st' s' w,pN t n sh f g (j+1) LL' (S.set i st') s'∧DoA t n sh (f j) (g j) LL S i st s w LL' st' s' 0 (resR sh f g j (f j) (g j)).1 (resR sh f g j (f j) (g j)).2:=by
 have hr:a8 sh (f j) (g j)=true:=ho j (by omega)
 have hm:=h.q.me i st hS
 obtain⟨w,LL',st',s',c,b,v,d⟩:=P2 (kd:=f j) (ky:=g j) h.q hS hr h.um h.sz h.pz
 have hct:=h.ct
 have hdt:=d.ct
 rcases d.is with⟨_,_,_,_,_,_,_,_,hall⟩ | ⟨c0,hbv,L',hLL,hL'⟩
 ·exfalso
  obtain⟨x,hx,hf⟩:=WG h.q (by omega)
  rw [hall x hx]at hf;cases hf
 ·obtain⟨r1,r2⟩:=h.rp.step h.q.four (fun i hi=>ho i (by omega)) hr
  have e:=hbv.trans r1
  have e1:b=(resR sh f g j (f j) (g j)).1:=congrArg Prod.fst e
  have e2:v=(resR sh f g j (f j) (g j)).2:=congrArg Prod.snd e
  rw [c0,e1,e2]at d
  refine⟨LL',st',s',w,{q:=d.q,um:=d.um,sz:=d.sz,pz:=h.pz.up (by omega) d.up,rp:=?_,ct:=by omega,tt:=d.tt.trans h.tt,nn:=d.nn.trans h.nn},d⟩
  rw [hLL];exact r2 L' hL'
theorem pN.items{t n sh:Int}{f g:Nat→Int}{j:Nat}{LL:List (List Nd)}{S:List STS}{s:MS}(h:pN t n sh f g j LL S s):d0 s.xs n sh=bT sh f g j:=RH h.q h.rp
theorem pN.held{t n sh:Int}{f g:Nat→Int}{j:Nat}{LL:List (List Nd)}{S:List STS}{s:MS}(h:pN t n sh f g j LL S s):jY s.xs n S=true:=M7 h.q
theorem pN.lens{t n sh:Int}{f g:Nat→Int}{j:Nat}{LL:List (List Nd)}{S:List STS}{s:MS}(h:pN t n sh f g j LL S s)(k:Nat)(hk:k<4):(ndF s.xs n k).length =(keyF s.xs n k).length :=by
 have hl:k<LL.length:=by rw [h.q.four];exact hk
 have hL:LL[k]? =some LL[k]:=gE' hl
 rw [l6 h.q hL,sA h.q hL,KW (h.um.at hL),List.length_map,List.length_map]
theorem aD5{t n sh:Int}{f g:Nat→Int}(hs:sh=1∨sh=2∨sh=3∨sh=4)(hn:1≤n∧n≤500)(ht:1≤t∧t≤1000)(S:List STS)(hS: ∀st∈S,st.sp=0∧st.R=[])(me: ∀(i:Nat) (st:STS),S[i]? =some st→st.me=i∧(i:Int)<t):pN t n sh f g 0 (LLf sh []) S (eB sh t n [])∧0≤(eB sh t n []).c ∧(eB sh t n []).c ≤4:=by
 have h0:pV sh f g 0:=fun j hj=>by omega
 have i0:bT sh f g 0=[]:=List.length_eq_zero_iff.1 (Nat.le_zero.1 (A9 hs h0).1)
 have rp:=X9 hs h0
 rw [i0]at rp
 have fl:=V5 (sh:=sh) (t:=t) (n:=n) hn ht (xs:=[]) (by show(0:Int)≤n;omega) (fun k hk=>by cases hk) S hS me
 have hz:(allN (LLf sh []) S).length =0:=by
  have hh:S.flatMap (fun st=>aO st.sp st.R)=[]:=by
   rw [List.flatMap_eq_nil_iff]
   intro st hst
   obtain⟨a,b⟩:=hS st hst
   rw [a,b];rfl
  unfold allN
  rw [hh];rfl
 exact⟨{q:=fl.q,um:=fl.um,sz:=fl.sz,pz:=fl.pz,rp:=rp,ct:=by omega,tt:=fl.tt,nn:=fl.nn},fl.c.1,fl.c.2⟩
end Go.Sh
