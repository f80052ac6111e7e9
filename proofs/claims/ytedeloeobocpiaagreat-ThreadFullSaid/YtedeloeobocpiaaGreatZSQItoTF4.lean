import Derived.Test.YtedeloeobocpiaaGreatZSQ1toSQH
set_option linter.all false
set_option maxHeartbeats 8000000
namespace Go.Sh
open Go Go.Proofs
variable [Con]
structure DoA (t n sh kd ky:Int) (LL:List (List Nd)) (S:List STS) (i:Nat) (st:STS) (s:MS) (j:Nat) (LL':List (List Nd)) (st':STS) (s':MS) (c:Int) (b:Bool) (v:Int):Prop where
 run: ∀lim,0≤lim→ ∃z,End (dqJ t n) j ((dqNF t n sh kd ky lim st).1,st,s) (z,st',s')∧z.code=c∧z.okk=b∧z.val=v∧z.slow=false
 q:QL t n s'.xs LL' (S.set i st')
 um:UM LL'
 sz:SZ t n s'.xs
 up:UpF n st.me s s'
 lim:(j:Int)≤20*n+10*t+50
 hc:s'.c=s.c+j
 tt:s'.t=s.t
 nn:s'.n=s.n
 ns:c=0→bI kd=true→st.sp=0→st.R=[]→ ∃x,(1≤x∧x≤n)∧cW n s.xs x=false
 is:(c=4∧b=false∧v=0∧LL'=LL∧st'=st∧bI kd=true∧st.sp=0∧st.R=[]∧ ∀x,1≤x∧x≤n→cW n s.xs x=true)∨
  (c=0∧(b,v)=(xS sh kd ky (uk (bQ LL sh ky))).1∧ ∃L',LL'=LL.set (bY sh ky).toNat L'∧uk L'=(xS sh kd ky (uk (bQ LL sh ky))).2)
theorem N8{t n:Int}{sh kd ky:Int}{LL:List (List Nd)}{S:List STS}{s:MS}{i:Nat}{st:STS}(q:QL t n s.xs LL S)(hS:S[i]? =some st)(hr:aZ sh kd ky=true)(um:UM LL)(sz:SZ t n s.xs)(pz:PZ t n s.xs):
 ∃j LL' st' s' c b v,DoA t n sh kd ky LL S i st s j LL' st' s' c b v:=by
 have hn:=q.hn
 have ht:=q.ht
 have hm:=q.me i st hS
 obtain⟨zh,sh1,eh,hu,xh,ch1,th1,nh1⟩:=x5 (t:=t) (n:=n) (t - 1).toNat (US t n) s rfl (Int.le_refl 0) (by show(0:Int)+_+1=t;omega) ht.2 pz
 have hj0:((t - 1).toNat :Int)+1=t:=by omega
 have qh:QL t n sh1.xs LL S:=by rw [xh];exact q
 have uph:UpF n st.me s sh1:=fun a _ _ _=>by rw [xh]
 have szh:SZ t n sh1.xs:=by rw [xh];exact sz
 let x0:Int→DOS:=fun lim=>(dqNF t n sh kd ky lim st).1
 have walk: ∀lim,Go1 (dqJ t n) ((t - 1).toNat +1) ((dqNF t n sh kd ky lim st).1,st,s) (bif bI kd&&ieq st.sp 0 then(({doR (x0 lim)with at':=2} :DOS),st,sh1)else(({doR (x0 lim)with at':=3,ft:=(ftNF t n sh kd ky lim st).1} :DOS),st,sh1)):=by
  intro lim
  have hst0:(ftNF t n sh kd ky lim st).2=st:=zZ (t:=t) sh kd ky lim ⟨hn.1,by omega⟩ (q.stw hS)
  refine aES (F:=LA t n) (fun p:HDS×MS=>(({doR (x0 lim)with at':=0,hd:=p.1} :DOS),st,p.2)) (fun a b hab=>kJ (aCe (x:= {doR (x0 lim)with at':=0,hd:=a.1}) rfl hr (IM hab))) eh (fun b hb=>?_)
  have hu2:zh.u<0:=by rw [hu];show(-1:Int)<0;decide
  have e:=aCf (x:= {doR (x0 lim)with at':=0,hd:=b.1}) (st:=st) rfl hr (IM hb) hu2
  unfold dqJ
  rw [e]
  show((bif bI kd&&ieq st.sp 0 then _ else _:DqO).d,(bif bI kd&&ieq st.sp 0 then _ else _:DqO).x,(bif bI kd&&ieq st.sp 0 then _ else _:DqO).st,(bif bI kd&&ieq st.sp 0 then _ else _:DqO).s)=_
  cases (bI kd&&ieq st.sp 0)with
  | true=>rfl
  | false=>
    show(false,_,(ftNF t n sh kd ky lim st).2,sh1)=_
    rw [hst0];rfl
 have szo: ∀s':MS,(∀a,2*n+5≤a→aB s'.xs a=aB s.xs a)→ ∀k:Int,0≤k→k<2*t→k≠2*st.me→k≠2*st.me+1→aB s'.xs (2*n+5+k)=0:=by
  intro s' hs k h0 h1 _ _
  rw [hs _ (by omega)];exact sz k h0 h1
 have rest: ∀(st1:STS) (s1:MS) (j1:Nat),QL t n s1.xs LL (S.set i st1)→st1.me=st.me→(bI kd=true→st1.sp≠0)→(∀a,2*n+5≤a→aB s1.xs a=aB s.xs a)→s1.c=s.c+j1→s1.t=s.t→s1.n=s.n→(j1:Int)≤6*n+4*t+20→(bI kd=true→st.sp=0→st.R=[]→ ∃x,(1≤x∧x≤n)∧cW n s.xs x=false)→
  (∀lim,0≤lim→Go1 (dqJ t n) j1 ((dqNF t n sh kd ky lim st).1,st,s) ({doR (x0 lim)with at':=3,ft:=(ftNF t n sh kd ky lim st1).1},st1,s1))→ ∃j LL' st' s' c b v,DoA t n sh kd ky LL S i st s j LL' st' s' c b v:=by
  intro st1 s1 j1 q1 hme hl1 same1 c1 t1 n1 b1 hns g1
  have hS1:(S.set i st1)[i]? =some st1:=List.getElem?_set_self (iL hS)
  obtain⟨j,L',st',s',w,q2,um2,uk2,sz2,up2,c2,t2,n2,b2,_⟩:=YZ (kd:=kd) q1 hS1 hr um hl1 (by rw [hme];exact szo s1 same1)
  rw [List.set_set]at q2
  refine⟨j+j1,LL.set (bY sh ky).toNat L',st',s',0,(xS sh kd ky (uk (bQ LL sh ky))).1.1,(xS sh kd ky (uk (bQ LL sh ky))).1.2,?_⟩
  refine {run:=fun lim hlim=>?_,q:=q2,um:=um.set um2,sz:=sz2,up:=?_,hc:=by rw [c2,c1];omega,tt:=t2.trans t1,nn:=n2.trans n1,lim:=by omega,ns:=fun _=>hns,is:=.inr ⟨rfl,rfl,L',rfl,uk2⟩ }
  ·obtain⟨z,z1,z2,z3,z4⟩:=w (x0 lim) rfl rfl rfl hlim
   have z3a:=congrArg Prod.fst z3
   have z3b:=congrArg Prod.snd z3
   exact⟨z,aET (g1 lim hlim) z1,z2,z3a,z3b,z4⟩
  ·intro a h0 h1 h2
   rw [up2 a h0 (by rw [hme];exact h1) (by rw [hme];exact h2)]
   exact same1 a h0
 cases hle:(bI kd&&ieq st.sp 0)with
 | false=>
   rw [hle]at walk
   refine rest st sh1 ((t - 1).toNat +1) (by rw [wJ hS];exact qh) rfl (fun hk hz=>?_) (fun a _=>by rw [xh]) ch1 th1 nh1 (by omega) (fun hk hz _=>by rw [hk,hz]at hle;cases hle) (fun lim _=>walk lim)
   rw [hk,hz]at hle;cases hle
 | true=>
   rw [hle]at walk
   have hlk:bI kd=true:=(Bool.and_eq_true_iff.1 hle).1
   have hz:st.sp=0:=by simpa [bN]using(Bool.and_eq_true_iff.1 hle).2
   have ensured: ∀(j2:Nat) (z2:ENS) (st2:STS) (s2:MS),End (w8 t n) j2 (aU,st,sh1) (z2,st2,s2)→z2.sh=false→st2.me=st.me→st2.R.length≤500→(∀r∈st2.R,0≤r∧r≤1000)→ ∀lim,0≤lim→Go1 (dqJ t n) (j2+((t - 1).toNat +1)) ((dqNF t n sh kd ky lim st).1,st,s) ({doR (x0 lim)with at':=3,ft:=(ftNF t n sh kd ky lim st2).1},st2,s2):=by
    intro j2 z2 st2 s2 e2 hsh hme hRl hRs lim hlim
    have hst2:(ftNF t n sh kd ky lim st2).2=st2:=zZ (t:=t) (b:=500) sh kd ky lim ⟨hn.1,by omega⟩ ⟨by rw [hme];omega,hRs,by omega⟩
    refine(walk lim).trans ?_
    refine aES (F:=w8 t n) (fun p:ENS×STS×MS=>(({doR (x0 lim)with at':=2,en:=p.1} :DOS),p.2.1,p.2.2)) (fun a b hab=>kJ (W5 (x:= {doR (x0 lim)with at':=2,en:=a.1}) rfl hr (qK hab))) e2 (fun b hb=>?_)
    have e:=W6 (x:= {doR (x0 lim)with at':=2,en:=b.1}) rfl hr (qK hb)
    unfold dqJ
    rw [e,hsh]
    show(false,_,(ftNF t n sh kd ky lim st2).2,s2)=_
    rw [hst2];rfl
   have hRst:st.R.length≤500:=by have:=(q.stw hS).ln;omega
   have hRsm:=(q.stw hS).r
   have life_up: ∀(xs:List Int) (b v:Int),(1≤b∧b≤n)→ ∀a,2*n+5≤a→aB (aK xs (n+4+b) v) a=aB xs a:=fun xs b v hb a ha=>cI (by omega)
   by_cases hfree: ∃b,(1≤b∧b≤n)∧cW n s.xs b=false
   ·obtain⟨b0,hb0,hf0⟩:=hfree
    obtain⟨j2,b,z2,s2,e2,g2,g3,g4,g5,g6,g7,g8,g9⟩:=CC (t:=t) (n:=n) (e:=aU) (st:=st) (s:=sh1) rfl hz qh.mc hb0 (by rw [xh];exact hf0)
    have q2:=qh.take hS hz g2 g3
    refine rest {st with sp:=b} s2 (j2+((t - 1).toNat +1)) (by rw [g5];exact q2) rfl (fun _=>by show b≠0;omega) (fun a ha=>by rw [g5,life_up _ _ _ g2 a ha,xh]) (by rw [g6,ch1];omega) (g7.trans th1) (g8.trans nh1) (by omega) (fun _ _ _=>⟨b0,hb0,hf0⟩) (ensured j2 z2 _ s2 e2 g4 rfl hRst hRsm)
   ·have hall: ∀x,1≤x∧x≤n→cW n s.xs x=true:=by
     intro x hx
     cases z:cW n s.xs x with
     | true=>rfl
     | false=>exact absurd ⟨x,hx,z⟩ hfree
    by_cases hR:st.R=[]
    ·
     obtain⟨j2,z2,s2,e2,g1,g3,g4,g5,g6,g7⟩:=KC (t:=t) (n:=n) (e:=aU) (st:=st) (s:=sh1) rfl hz hn.1 (by rw [xh];exact hall) hR
     have q2:QL t n s2.xs LL S:=by rw [g3];exact qh
     obtain⟨j3,st3,s3,w,q3,sz3,up3,c3,t3,n3,b3,_,hst3⟩:=zJ q2 hS (szo s2 (fun a _=>by rw [g3,xh]))
     have hst3:st3=st:=by
      rcases hst3 with⟨e,_⟩ | ⟨_,e⟩
      ·exact e
      ·rw [hR]at e;simp at e;omega
     subst hst3
     refine⟨j3+(j2+((t - 1).toNat +1)),LL,st3,s3,4,false,0,?_⟩
     refine {run:=fun lim hlim=>?_,q:=q3,um:=um,sz:=sz3,up:=?_,hc:=by rw [c3,g4,ch1];omega,tt:=t3.trans (g5.trans th1),nn:=n3.trans (g6.trans nh1),lim:=by omega,ns:=(fun h=>by cases h),is:=.inl ⟨rfl,rfl,rfl,rfl,rfl,hlk,hz,hR,hall⟩ }
     ·have g:Go1 (dqJ t n) j2 ({doR (x0 lim)with at':=2,en:=aU},st3,sh1) ({doR (x0 lim)with code:=4,okk:=false,val:=0,at':=8,dr:=mN t n st3.me},st3,s2):=by
       refine aES (F:=w8 t n) (fun p:ENS×STS×MS=>(({doR (x0 lim)with at':=2,en:=p.1} :DOS),p.2.1,p.2.2)) (fun a b hab=>kJ (W5 (x:= {doR (x0 lim)with at':=2,en:=a.1}) rfl hr (qK hab))) e2 (fun b hb=>?_)
       have e:=W6 (x:= {doR (x0 lim)with at':=2,en:=b.1}) rfl hr (qK hb)
       unfold dqJ
       rw [e,g1];rfl
      obtain⟨z,w1,w2⟩:=w {doR (x0 lim)with code:=4,okk:=false,val:=0,at':=8,dr:=mN t n st3.me} rfl hr rfl
      exact⟨z,aET ((walk lim).trans g) w1,w2.code,w2.okk,w2.val,w2.slow⟩
     ·intro a h0 h1 h2
      rw [up3 a h0 h1 h2,g3,xh]
    ·
     obtain⟨h1,h2,h3⟩:=fW q hS
     obtain⟨j2,b,z2,s2,e2,g2,gb,g3,g4,g5,g6,g7,g8,g9⟩:=KD (t:=t) (n:=n) (e:=aU) (st:=st) (s:=sh1) rfl rfl hz qh.mc (by rw [xh];exact hall) hR (fun r hr=>h2 r (l0 hr)) (p5 h1) szh
     have qg:=qh.give hS
     have hSg:(S.set i {st with R:=[] })[i]? =some {st with R:=[] } :=List.getElem?_set_self (iL hS)
     have q2:=qg.take hSg hz g2 g3
     rw [List.set_set]at q2
     have hRl:(st.R.length:Int)≤n:=fA (by omega) (p5 h1) (fun r hr=>h2 r (l0 hr))
     refine rest ⟨st.me,b,[]⟩ s2 (j2+((t - 1).toNat +1)) (by rw [g5];exact q2) rfl (fun _=>by show b≠0;omega) (fun a ha=>?_) (by rw [g6,ch1];omega) (g7.trans th1) (g8.trans nh1) (by omega) (fun _ _ h=>absurd h hR) (ensured j2 z2 _ s2 e2 g4 rfl (by simp) (fun r h=>by cases h))
     rw [g5,life_up _ _ _ g2 a ha,gK _ _ (fun r hr e=>by have:=h2 r (l0 hr);omega),xh]
theorem H3{t n:Int}{a:DOS×STS×MS}{d:Bool}{b:DOS×STS×MS}(h:dqJ t n a=(d,b)):(dqF t n a.1 a.2.1 a.2.2).d =d∧((dqF t n a.1 a.2.1 a.2.2).x,(dqF t n a.1 a.2.1 a.2.2).st,(dqF t n a.1 a.2.1 a.2.2).s)=b:=by
 unfold dqJ at h
 rw [pI']at h
 exact h
theorem xU{t n:Int}{z:DOS×STS×MS} : ∀(i:Nat) (a c:DOS×STS×MS) (b:Int) (N:Nat),Go1 (dqJ t n) i a c→dqJ t n c=(true,z)→i+1≤N→kZ t n a.2.2→a.2.2.c+i+1≤900000→dqW t n b a.2.1 a.1→stW b a.2.1→b+i+1≤900000→
 B4 t n N a.1 a.2.1 a.2.2∧qD t n N a.1 a.2.1 a.2.2=(i+1,z)
 | 0,a,c,b,N+1,h,hz,hN,hb,hc,hx,hst,hbb=>by
   cases h
   obtain⟨h1,h2⟩:=H3 hz
   have ok:=OF hb hx hst (by omega)
   refine⟨⟨ok,fun q=>by rw [h1]at q;cases q⟩,?_⟩
   show(bif (dqF t n a.1 a.2.1 a.2.2).d then _ else _)=_
   rw [h1,cond_true,←h2]
 | i+1,a,c,b,N+1,h,hz,hN,hb,hc,hx,hst,hbb=>by
   cases h with
   | cons e g=>
     obtain⟨h1,h2⟩:=H3 e
     have ok:=OF hb hx hst (by omega)
     have wv:=ZD hb hx hst (by omega)
     have hb':=wv.a.bnd hb (by omega)
     have ih:=xU i _ c (b+1) N g hz (by omega) (by rw [←h2];exact hb') (by rw [←h2];show(dqF t n a.1 a.2.1 a.2.2).s.c +_+_≤_;rw [wv.a.c];omega) (by rw [←h2];exact wv.w h1) (by rw [←h2];exact wv.st) (by omega)
     rw [←h2]at ih
     refine⟨⟨ok,fun _=>ih.1⟩,?_⟩
     show(bif (dqF t n a.1 a.2.1 a.2.2).d then _ else _)=_
     rw [h1,cond_false,ih.2]
 | i,a,c,b,0,h,hz,hN,hb,hc,hx,hst,hbb=>by omega
theorem X4{t n sh kd ky lim:Int}{LL LL':List (List Nd)}{S:List STS}{s s':MS}{i j:Nat}{st st':STS}{c v:Int}{b:Bool}(q:QL t n s.xs LL S)(hS:S[i]? =some st)(d:DoA t n sh kd ky LL S i st s j LL' st' s' c b v)(hl:0≤lim)(hc:0≤s.c∧s.c≤700000):
 HP t n lim 100000 [sh,kd,ky] st s∧ ∃z,tB t n lim 100000 [sh,kd,ky] st s=(j,z,st',s')∧uZ z=[c,bitI b,v]:=by
 have hn:=q.hn
 have ht:=q.ht
 obtain⟨z,⟨j',e,hj,g1,g2⟩,z1,z2,z3,z4⟩:=d.run lim hl
 have hlim:=d.lim
 have hN:(dqNF t n sh kd ky lim st).2=st:=rfl
 have hw:dqW t n 500 st (dqNF t n sh kd ky lim st).1:=(aEv (OC (t:=t) (n:=n) (b:=500) sh kd ky lim st)).1
 obtain⟨r1,r2⟩:=xU j' ((dqNF t n sh kd ky lim st).1,st,s) e 500 100000 g1 g2 (by omega) ⟨ht,⟨hn.1,by omega⟩,⟨hc.1,by have h:=hc.2;show s.c≤900000;omega⟩,q.okw⟩ (by have h:=hc.2;show s.c+(j':Int)+1≤900000;omega) hw (q.stw hS) (by omega)
 refine⟨⟨?_,r1⟩,z,?_,?_⟩
 ·show B5 t n sh kd ky lim st
  exact aEy (OC (t:=t) (n:=n) (b:=500) sh kd ky lim st)
 ·rw [hj];exact r2
 ·unfold uZ;rw [z1,z2,z3]
theorem XM{n:Int}{xs:List Int} : ∀(L:List Nd) (a:Int) (k:Nat) (out:List Int),ch n xs a L→(L.map Nd.a).Nodup →(∀b∈L.map Nd.a,b∉out)→L.length<k→sO xs n k (nxW (aB xs a)) out=out++L.map Nd.a
 | [],a,k+1,out,h,_,_,_=>by
   have h:nxW (aB xs a)=0:=h
   show(bif bR n (nxW (aB xs a))then _ else out)=_
   have:bR n (nxW (aB xs a))=false:=by
    rw [h];unfold bR;rw [cD];rfl
   rw [this];simp
 | b::L,a,k+1,out,h,nd,ho,hk=>by
   obtain⟨h1,h2,h3,h4,h5,h6⟩:=h
   have nd:=List.nodup_cons.1 nd
   show(bif bR n (nxW (aB xs a))then bif !hasB out (nxW (aB xs a))then sO xs n k (nxW (aB xs (nxW (aB xs a)))) (out++ [nxW (aB xs a)])else out else out)=_
   rw [h1,pR.2 h2]
   have hb:hasB out b.a=false:=by
    cases q:hasB out b.a with
    | false=>rfl
    | true=>exact absurd (gL.1 q) (ho b.a (by simp))
   rw [hb]
   simp only [Bool.not_false,cond_true]
   rw [XM L b.a k (out++ [b.a]) h6 nd.2 (fun c hc hh=>?_) (by simpa using hk)]
   ·simp
   ·rcases List.mem_append.1 hh with e | e
    ·exact ho c (by rw [List.map_cons];exact List.mem_cons_of_mem _ hc) e
    ·rw [List.mem_singleton.1 e]at hc;exact nd.1 hc
theorem P2{t n:Int}{xs:List Int}{LL:List (List Nd)}{S:List STS}(q:QL t n xs LL S){h:Nat}{L:List Nd}(hL:LL[h]? =some L):ndF xs n h=L.map Nd.a:=by
 obtain⟨d1,d2,_⟩:=gW q hL
 have hn:=q.hn
 have:=fA (by omega) d1 d2
 rw [List.length_map]at this
 unfold ndF
 have:=XM L (n+1+h) (n.toNat+1) [] (q.hd h L hL).1 d1 (fun _ _ h=>by cases h) (by omega)
 simpa using this
theorem DI{n:Int}{xs:List Int} : ∀(L:List Nd) (a:Int),ch n xs a L→kyL xs (L.map Nd.a)=uk L
 | [],a,_=>rfl
 | b::L,a,h=>by
   obtain⟨h1,h2,h3,h4,h5,h6⟩:=h
   have ih:=DI L b.a h6
   have h4:ieq (aA (aB xs b.a) 19 1) 1=b.m:=h4
   have h3:aA (aB xs b.a) 0 10=b.k:=h3
   rw [uC,←ih]
   unfold kyL
   rw [List.map_cons,List.filter_cons,h4]
   cases b.m
   ·simp [h3]
   ·simp
theorem uO{t n:Int}{xs:List Int}{LL:List (List Nd)}{S:List STS}(q:QL t n xs LL S){h:Nat}{L:List Nd}(hL:LL[h]? =some L):keyF xs n h=uk L:=by
 unfold keyF
 rw [P2 q hL]
 exact DI L _ (q.hd h L hL).1
theorem aDv{x:Int}(h:0≤x∧x≤1000000):W x=x:=cJ ⟨by omega,by omega⟩
theorem N3: ∀(ks:List Int) (m:List (Int×Int)),ks.Nodup→(∀k∈ks,mget m k=none)→(∀k v,mget m k=some v→v=1)→ ∀k,mget (fT ks m) k=if k∈ks then some 1 else mget m k
 | [],m,_,_,_,k=>by simp [fT]
 | a::ks,m,hn,h0,h1,k=>by
   have hn:=List.nodup_cons.1 hn
   have ha:=h0 a (List.mem_cons_self ..)
   have hv:W ((mget m a).getD 0+1)=1:=by rw [ha];exact aDv ⟨by decide,by decide⟩
   show mget (fT ks (dG m a (W ((mget m a).getD 0+1)))) k=_
   rw [hv]
   rw [N3 ks (dG m a 1) hn.2 (fun b hb=>by
    rw [lP,if_neg (by rintro rfl;exact hn.1 hb)];exact h0 b (List.mem_cons_of_mem _ hb)) (fun b v hv=>by
    rw [lP]at hv
    split at hv
    ·cases hv;rfl
    ·exact h1 b v hv) k,lP]
   by_cases e:k∈ks
   ·rw [if_pos e,if_pos (List.mem_cons_of_mem _ e)]
   ·rw [if_neg e]
    by_cases e2:k=a
    ·rw [if_pos e2,if_pos (by rw [e2];exact List.mem_cons_self ..)]
    ·rw [if_neg e2,if_neg (fun h=>(List.mem_cons.1 h).elim e2 e)]
theorem zF(a b:List Int): ∀m,fT (a++b) m=fT b (fT a m):=by
 induction a with
 | nil=>intro m;rfl
 | cons x a ih=>intro m;exact ih _
theorem QU{m:List (Int×Int)}{p:Int→Bool}(hm: ∀k,mget m k=if p k=true then some 1 else none): ∀n,eF m n=((List.range n).map fun i:Nat=>(i:Int)).filter p
 | 0=>rfl
 | n+1=>by
   show eF m n++_=_
   rw [QU hm n,List.range_succ,List.map_append,List.filter_append,hm]
   congr 1
   cases q:p (n:Int)with
   | true=>simp [q]
   | false=>simp [q]
theorem aBh{m:List (Int×Int)}{p:Int→Bool}{N:Nat}(hm: ∀k,mget m k=if p k=true then some 1 else none)(hN:N=1000+24)(hout: ∀k:Int,999<k→p k=false):eF m N=((List.range 1000).map fun i:Nat=>(i:Int)).filter p:=by
 subst hN
 have e24:List.range (1000+24)=List.range 1000++(List.range 24).map (1000+ ·):=List.range_add
 rw [QU hm (1000+24),e24,List.map_append,List.filter_append]
 have t1:(((List.range 24).map (1000+ ·)).map fun i:Nat=>(i:Int)).filter p=[]:=by
  refine List.filter_eq_nil_iff.2 (fun k hk=>?_)
  obtain⟨i,hi,rfl⟩:=List.mem_map.1 hk
  obtain⟨j,hj,rfl⟩:=List.mem_map.1 hi
  rw [hout _ (by omega)];decide
 rw [t1,List.append_nil]
theorem lX{u:List Int}(h:Srt u):u.Nodup:=by
 rw [List.nodup_iff_pairwise_ne]
 exact List.Pairwise.imp (fun {a b} h=>by omega) h
theorem O0{LL:List (List Nd)}(h:LL.length=4): ∃A B C D,LL=[A,B,C,D]:=by
 match LL,h with
 | [A,B,C,D],_=>exact⟨A,B,C,D,rfl⟩
theorem DF{t n:Int}{xs:List Int}{LL:List (List Nd)}{S:List STS}{sh:Int}{f g:Nat→Int}{m:Nat}(q:QL t n xs LL S)(r:Rp sh LL f g m):dJ xs n sh=bH sh f g m:=by
 obtain⟨A,B,C,D,rfl⟩:=O0 q.four
 have k0:=uO q (h:=0) (L:=A) rfl
 have k1:=uO q (h:=1) (L:=B) rfl
 have k2:=uO q (h:=2) (L:=C) rfl
 have k3:=uO q (h:=3) (L:=D) rfl
 unfold dJ
 rcases r with⟨hs,r⟩ | ⟨hs,r⟩
 ·have hl:ilt 2 sh=false:=by rw [bP];exact decide_eq_false (by omega)
  rw [hl,cond_false]
  have e:cntM xs n=fT (uk A++(uk B++(uk C++uk D))) []:=by
   unfold cntM
   rw [show keyF xs n 3=uk D from k3,show keyF xs n 2=uk C from k2,show keyF xs n 1=uk B from k1,show keyF xs n 0=uk A from k0,zF,zF,zF]
  have rA:=r.rng 0 A rfl
  have rB:=r.rng 1 B rfl
  have rC:=r.rng 2 C rfl
  have rD:=r.rng 3 D rfl
  have nd:(uk A++(uk B++(uk C++uk D))).Nodup :=by
   refine List.nodup_append.2 ⟨lX (r.srt 0 A rfl),List.nodup_append.2 ⟨lX (r.srt 1 B rfl),List.nodup_append.2 ⟨lX (r.srt 2 C rfl),lX (r.srt 3 D rfl),?_⟩,?_⟩,?_⟩
   ·rintro a ha b hb rfl
    have:=(rC a ha).2;have:=(rD a hb).2;omega
   ·rintro a ha b hb rfl
    have h1:=(rB a ha).2
    rcases List.mem_append.1 hb with h | h
    ·have:=(rC a h).2;omega
    ·have:=(rD a h).2;omega
   ·rintro a ha b hb rfl
    have h1:=(rA a ha).2
    rcases List.mem_append.1 hb with h | h
    ·have:=(rB a h).2;omega
    ·rcases List.mem_append.1 h with h | h
     ·have:=(rC a h).2;omega
     ·have:=(rD a h).2;omega
  have hm: ∀k,mget (cntM xs n) k=if decide (k∈uk A++(uk B++(uk C++uk D)))=true then some 1 else none:=by
   intro k
   rw [e,N3 _ [] nd (fun _ _=>rfl) (fun _ _ h=>by cases h) k]
   simp only [dT']
   rfl
  have hin: ∀k:Int,0≤k→k≤999→(decide (k∈uk A++(uk B++(uk C++uk D))))=inF f g k m:=by
   intro k h0 h9
   have hb:=cS sh k
   have key:k∈uk A++(uk B++(uk C++uk D))↔inF f g k m=true:=by
    simp only [List.mem_append]
    have hc:(bY sh k).toNat =0∨(bY sh k).toNat =1∨(bY sh k).toNat =2∨(bY sh k).toNat =3:=by omega
    constructor
    ·rintro(h | h | h | h)
     ·exact(r.mem 0 A rfl k h0 h9 (rA k h).2).1 h
     ·exact(r.mem 1 B rfl k h0 h9 (rB k h).2).1 h
     ·exact(r.mem 2 C rfl k h0 h9 (rC k h).2).1 h
     ·exact(r.mem 3 D rfl k h0 h9 (rD k h).2).1 h
    ·intro h
     rcases hc with e | e | e | e
     ·exact .inl ((r.mem 0 A rfl k h0 h9 e).2 h)
     ·exact .inr (.inl ((r.mem 1 B rfl k h0 h9 e).2 h))
     ·exact .inr (.inr (.inl ((r.mem 2 C rfl k h0 h9 e).2 h)))
     ·exact .inr (.inr (.inr ((r.mem 3 D rfl k h0 h9 e).2 h)))
   cases z:inF f g k m with
   | true=>exact decide_eq_true (key.2 z)
   | false=>exact decide_eq_false (fun h=>by rw [key.1 h]at z;cases z)
  have hout: ∀k:Int,999<k→decide (k∈uk A++(uk B++(uk C++uk D)))=false:=by
   intro k hk
   refine decide_eq_false (fun h=>?_)
   simp only [List.mem_append]at h
   rcases h with h | h | h | h
   ·have:=(rA k h).1;omega
   ·have:=(rB k h).1;omega
   ·have:=(rC k h).1;omega
   ·have:=(rD k h).1;omega
  rw [aBh hm (N:=1024) rfl hout]
  have hR:bH sh f g m=setF f g m:=by
   unfold bH
   rw [dO (show sh≠3 by omega),dO (show sh≠4 by omega),cond_false,cond_false]
  rw [hR]
  unfold setF
  refine List.filter_congr (fun k hk=>?_)
  obtain⟨i,hi,rfl⟩:=List.mem_map.1 hk
  exact hin _ (by omega) (by have:=List.mem_range.1 hi;omega)
 ·have hl:ilt 2 sh=true:=by rw [bP];exact decide_eq_true (by omega)
  rw [hl,cond_true]
  exact(show keyF xs n 0=uk A from k0).trans r.eq
def selF(sh h:Int):Int→List Int→List Nd
 | _,[]=>[]
 | i,k::ks=>bif dQ sh h k then selF sh h (i+1) ks else⟨i+1,k,false⟩::selF sh h (i+1) ks
theorem n5{sh h k:Int}(i:Int)(ks:List Int)(e:dQ sh h k=true):selF sh h i (k::ks)=selF sh h (i+1) ks:=by
 show(bif dQ sh h k then _ else _)=_
 rw [e];rfl
theorem n6{sh h k:Int}(i:Int)(ks:List Int)(e:dQ sh h k=false):selF sh h i (k::ks)=⟨i+1,k,false⟩::selF sh h (i+1) ks:=by
 show(bif dQ sh h k then _ else _)=_
 rw [e];rfl
theorem AT(sh h:Int): ∀(xs:List Int) (i:Int),∀b∈selF sh h i xs,i+1≤b.a∧b.a≤i+xs.length∧b.m=false
 | [],i,b,hb=>by cases hb
 | k::ks,i,b,hb=>by
   have ih:=AT sh h ks (i+1)
   have hl:((k::ks).length :Int)=ks.length+1:=by simp
   cases e:dQ sh h k with
   | true=>
     rw [n5 i ks e]at hb
     obtain⟨a1,a2,a3⟩:=ih b hb
     exact⟨by omega,by omega,a3⟩
   | false=>
     rw [n6 i ks e]at hb
     rcases List.mem_cons.1 hb with q | q
     ·rw [q];exact⟨Int.le_refl _,by show i+1≤_;omega,rfl⟩
     ·obtain⟨a1,a2,a3⟩:=ih b q
      exact⟨by omega,by omega,a3⟩
theorem uS(sh h:Int)(xs:List Int)(i:Int): ∀b∈(selF sh h i xs).map Nd.a,i+1≤b∧b≤i+xs.length:=by
 intro b hb
 obtain⟨c,hc,rfl⟩:=List.mem_map.1 hb
 have:=AT sh h xs i c hc
 omega
theorem sW(sh h:Int): ∀(xs:List Int) (i:Int),((selF sh h i xs).map Nd.a).Nodup
 | [],i=>List.nodup_nil
 | k::ks,i=>by
   cases e:dQ sh h k with
   | true=>rw [n5 i ks e];exact sW sh h ks (i+1)
   | false=>
     rw [n6 i ks e,List.map_cons]
     refine List.nodup_cons.2 ⟨fun hb=>?_,sW sh h ks (i+1)⟩
     have:=uS sh h ks (i+1) _ hb
     have h2:i+1+1≤i+1:=this.1
     omega
theorem sX(sh h:Int): ∀(xs:List Int) (i:Int),uk (selF sh h i xs)=xs.filter fun k=>!dQ sh h k
 | [],i=>rfl
 | k::ks,i=>by
   cases e:dQ sh h k with
   | true=>rw [n5 i ks e,sX sh h ks (i+1),List.filter_cons,e];rfl
   | false=>
     rw [n6 i ks e,uC,sX sh h ks (i+1),List.filter_cons,e];rfl
theorem oS(sh h:Int): ∀(xs:List Int) (i b:Int),b∈(selF sh h i xs).map Nd.a↔ ∃j:Nat,∃k,xs[j]? =some k∧b=i+j+1∧dQ sh h k=false
 | [],i,b=>by
   constructor
   ·intro h;cases h
   ·rintro⟨j,k,h1,_⟩;simp at h1
 | k::ks,i,b=>by
   have ih:=oS sh h ks (i+1) b
   have rest:(∃j:Nat,∃q,ks[j]? =some q∧b=i+1+j+1∧dQ sh h q=false)→ ∃j:Nat,∃q,(k::ks)[j]? =some q∧b=i+j+1∧dQ sh h q=false:=by
    rintro⟨j,q,h1,h2,h3⟩
    exact⟨j+1,q,by simpa using h1,by omega,h3⟩
   cases e:dQ sh h k with
   | true=>
     rw [n5 i ks e,ih]
     refine⟨rest,?_⟩
     rintro⟨j,q,h1,h2,h3⟩
     cases j with
     | zero=>
       have:k=q:=by simpa using h1
       rw [this,h3]at e;cases e
     | succ j=>exact⟨j,q,by simpa using h1,by omega,h3⟩
   | false=>
     rw [n6 i ks e,List.map_cons,List.mem_cons,ih]
     constructor
     ·rintro(h1 | h1)
      ·exact⟨0,k,rfl,by rw [h1];show i+1=i+(0:Nat)+1;omega,e⟩
      ·exact rest h1
     ·rintro⟨j,q,h1,h2,h3⟩
      cases j with
      | zero=>left;rw [h2];show i+(0:Nat)+1=i+1;omega
      | succ j=>right;exact⟨j,q,by simpa using h1,by omega,h3⟩
structure aDt (sh h n i a ky:Int) (xs:List Int) (s s':MS):Prop where
 len:s'.xs.length=s.xs.length
 okw:okW s'.xs
 tt:s'.t=s.t
 nn:s'.n=s.n
 c:s.c≤s'.c∧s'.c≤s.c+1+2*xs.length
 ch:ch n s'.xs a (selF sh h i xs)
 ky:kyW (aB s'.xs a)=ky
 mk1:mkW (aB s'.xs a)=false
 cl:clW' (aB s'.xs a)=0
 life: ∀b∈(selF sh h i xs).map Nd.a,aB s'.xs (n+4+b)=1
 same: ∀x,x≠a→(∀b∈(selF sh h i xs).map Nd.a,x≠b∧x≠n+4+b)→aB s'.xs x=aB s.xs x
theorem zX{sh h n:Int}(hn:1≤n∧n≤500): ∀(xs:List Int) (i a ky vr:Int) (s:MS),okW s.xs→2*n+5≤(s.xs.length:Int)→0≤i→i+xs.length≤n→1≤a∧(a≤i∨n+1≤a∧a≤n+4)→0≤ky∧ky<1024→0≤vr∧vr<262144→(∀k∈xs,0≤k∧k<1024)→
 aDt sh h n i a ky xs s (eT sh h n xs i a ky vr s)
 | [],i,a,ky,vr,s,okw,hlen,hi,hin,ha,hk,hv,_=>by
   have ok:okF ky 0 0 vr:=⟨hk,by omega,by omega,hv⟩
   have hb:0≤a∧a<s.xs.length:=by omega
   have e:aB (s.stored a (a7 ky 0 false 0 vr)).xs a=a7 ky 0 false 0 vr:=dP hb
   refine {len:=b9 _ _ _,okw:=eB okw (mF ok),tt:=rfl,nn:=rfl,c:=⟨?_,?_⟩,ch:=?_,ky:=?_,mk1:=?_,cl:=?_,life:=(fun b hb=>by cases hb),same:=fun x hx _=>cI hx}
   ·show s.c≤s.c+1;omega
   ·show s.c+1≤s.c+1+2*(([]:List Int).length :Int);simp
   ·show nxW (aB (s.stored a (a7 ky 0 false 0 vr)).xs a)=0
    rw [e];exact tG ok
   ·show kyW (aB (s.stored a (a7 ky 0 false 0 vr)).xs a)=ky
    rw [e];exact vB ok
   ·show mkW (aB (s.stored a (a7 ky 0 false 0 vr)).xs a)=false
    rw [e];exact oY ok
   ·show clW' (aB (s.stored a (a7 ky 0 false 0 vr)).xs a)=0
    rw [e];exact p9 ok
 | k::ks,i,a,ky,vr,s,okw,hlen,hi,hin,ha,hk,hv,hks=>by
   have hl:((k::ks).length :Int)=ks.length+1:=by simp
   have hks2: ∀q∈ks,0≤q∧q<1024:=fun q hq=>hks q (List.mem_cons_of_mem _ hq)
   have hk2:=hks k (List.mem_cons_self ..)
   cases e:dQ sh h k with
   | true=>
     have es:eT sh h n (k::ks) i a ky vr s=eT sh h n ks (i+1) a ky vr s:=by show cond _ _ _=_;rw [e];rfl
     have ih:=zX (sh:=sh) (h:=h) hn ks (i+1) a ky vr s okw hlen (by omega) (by omega) (by omega) hk hv hks2
     rw [es]
     have e2:=n5 i ks e
     exact {len:=ih.len,okw:=ih.okw,tt:=ih.tt,nn:=ih.nn,c:=⟨ih.c.1,by have:=ih.c.2;omega⟩,ch:=by rw [e2];exact ih.ch,ky:=ih.ky,mk1:=ih.mk1,cl:=ih.cl,life:=by rw [e2];exact ih.life,same:=by rw [e2];exact ih.same}
   | false=>
     have es:eT sh h n (k::ks) i a ky vr s=eT sh h n ks (i+1) (i+1) k 3 ((s.stored a (a7 ky (i+1) false 0 vr)).stored (n+4+(i+1)) 1):=by show cond _ _ _=_;rw [e];rfl
     have ok:okF ky (i+1) 0 vr:=⟨hk,by omega,by omega,hv⟩
     let s1:=(s.stored a (a7 ky (i+1) false 0 vr)).stored (n+4+(i+1)) 1
     have hl1:s1.xs.length=s.xs.length:=(b9 _ _ _).trans (b9 _ _ _)
     have okw1:okW s1.xs:=eB (eB okw (mF ok)) (by omega)
     have ih:=zX (sh:=sh) (h:=h) hn ks (i+1) (i+1) k 3 s1 okw1 (by rw [hl1];exact hlen) (by omega) (by omega) (by omega) hk2 (by omega) hks2
     have hin1:0≤a∧a<s.xs.length:=by omega
     have hin2:0≤n+4+(i+1)∧n+4+(i+1)<(s.stored a (a7 ky (i+1) false 0 vr)).xs.length :=by
      have:(s.stored a (a7 ky (i+1) false 0 vr)).xs.length =s.xs.length:=b9 _ _ _
      rw [this];omega
     have p1: ∀x,x≠a→x≠n+4+(i+1)→aB s1.xs x=aB s.xs x:=fun x h1 h2=>(cI h2).trans (cI h1)
     have pa:aB s1.xs a=a7 ky (i+1) false 0 vr:=(cI (by omega)).trans (dP hin1)
     have pl:aB s1.xs (n+4+(i+1))=1:=dP hin2
     have hsel:=uS sh h ks (i+1)
     have fa:aB (eT sh h n ks (i+1) (i+1) k 3 s1).xs a=a7 ky (i+1) false 0 vr:=by
      rw [ih.same a (by omega) (fun b hb=>by have:=hsel b hb;omega)];exact pa
     have e2:=n6 i ks e
     rw [es]
     refine {len:=ih.len.trans hl1,okw:=ih.okw,tt:=ih.tt,nn:=ih.nn,c:=?_,ch:=?_,ky:=?_,mk1:=?_,cl:=?_,life:=?_,same:=?_ }
     ·obtain⟨c1,c2⟩:=ih.c
      have ec:s1.c=s.c+1+1:=rfl
      rw [ec]at c1 c2
      exact⟨Int.le_trans (by omega) c1,Int.le_trans c2 (by omega)⟩
     ·rw [e2]
      refine⟨?_,?_,ih.ky,ih.mk1,ih.cl,ih.ch⟩
      ·rw [fa];exact tG ok
      ·show 1≤i+1∧i+1≤n;omega
     ·rw [fa];exact vB ok
     ·rw [fa];exact oY ok
     ·rw [fa];exact p9 ok
     ·rw [e2]
      intro b hb
      rw [List.map_cons]at hb
      rcases List.mem_cons.1 hb with q | q
      ·have q:b=i+1:=q
       rw [q,ih.same (n+4+(i+1)) (by omega) (fun c hc=>by have:=hsel c hc;omega)]
       exact pl
      ·exact ih.life b q
     ·rw [e2]
      intro x h1 h2
      have h3:=h2 (i+1) (by rw [List.map_cons];exact List.mem_cons_self ..)
      rw [ih.same x h3.1 (fun b hb=>h2 b (by rw [List.map_cons];exact List.mem_cons_of_mem _ hb))]
      exact p1 x h1 h3.2
theorem Q4{sh h h' k:Int}(h0:0≤h)(h1:0≤h')(e:dQ sh h k=false)(e':dQ sh h' k=false):h=h':=by
 unfold dQ at e e'
 cases q:ieq sh 2 with
 | true=>
   rw [q]at e e'
   simp only [cond_true,Bool.not_eq_false',bN,beq_iff_eq]at e e'
   omega
 | false=>
   rw [q]at e e'
   simp only [cond_false,bP,dF']at e e'
   omega
theorem JA{sh h h':Int}(h0:0≤h)(h1:0≤h')(xs:List Int)(b:Int)(e:b∈(selF sh h 0 xs).map Nd.a)(e':b∈(selF sh h' 0 xs).map Nd.a):h=h':=by
 obtain⟨j,k,a1,a2,a3⟩:=(oS _ _ _ _ _).1 e
 obtain⟨j',k',b1,b2,b3⟩:=(oS _ _ _ _ _).1 e'
 have:j=j':=by omega
 subst this
 rw [a1]at b1
 cases b1
 exact Q4 h0 h1 a3 b3
structure FilH (sh t n:Int) (xs:List Int) (H:Nat) (s:MS):Prop where
 len:(s.xs.length:Int)=2*n+5*t+6
 okw:okW s.xs
 tt:s.t=t
 nn:s.n=n
 c:0≤s.c∧s.c≤H*(2*xs.length+1)
 hd: ∀h:Nat,h<H→ch n s.xs (n+1+h) (selF sh h 0 xs)∧mkW (aB s.xs (n+1+h))=false∧clW' (aB s.xs (n+1+h))=0
 life: ∀h:Nat,h<H→ ∀b∈(selF sh h 0 xs).map Nd.a,aB s.xs (n+4+b)=1
 zero: ∀x,(∀h:Nat,h<H→x≠n+1+h∧ ∀b∈(selF sh h 0 xs).map Nd.a,x≠b∧x≠n+4+b)→aB s.xs x=0
theorem P7(k:Nat)(a:Int):aB (List.replicate k 0) a=0:=by
 unfold aB
 split
 ·rw [gD']
  by_cases h:a.toNat<k
  ·rw [List.getElem?_replicate,if_pos h];rfl
  ·rw [List.getElem?_replicate,if_neg h];rfl
 ·rfl
theorem Z2{sh t n:Int}(hn:1≤n∧n≤500)(ht:1≤t∧t≤1000)(xs:List Int):FilH sh t n xs 0 (memN t n):=by
 refine {len:=?_,okw:=?_,tt:=rfl,nn:=rfl,c:=⟨Int.le_refl 0,by simp [memN]⟩,hd:=(fun h hh=>by omega),life:=(fun h hh=>by omega),zero:=(fun x _=>P7 _ _) }
 ·show((List.replicate (2*n+5*t+6).toNat (0:Int)).length :Int)=_
  rw [List.length_replicate];omega
 ·refine⟨fun x hx=>?_⟩
  have:=List.eq_of_mem_replicate hx
  omega
theorem zV{sh t n:Int}(hn:1≤n∧n≤500)(ht:1≤t∧t≤1000){xs:List Int}(hx:(xs.length:Int)≤n)(hk: ∀k∈xs,0≤k∧k<1024){H:Nat}(hH:H<4){s:MS}(f:FilH sh t n xs H s):FilH sh t n xs (H+1) (eT sh H n xs 0 (n+1+H) 0 0 s):=by
 have flen:=f.len
 have g:=zX (sh:=sh) (h:=H) hn xs 0 (n+1+H) 0 0 s f.okw (by omega) (Int.le_refl 0) (by omega) (by omega) (by omega) (by omega) hk
 have hsel: ∀h:Nat,∀b∈(selF sh h 0 xs).map Nd.a,1≤b∧b≤n:=fun h b hb=>by have:=uS sh h xs 0 b hb;omega
 have hdis: ∀h:Nat,h<H→ ∀b∈(selF sh h 0 xs).map Nd.a,∀b'∈(selF sh H 0 xs).map Nd.a,b≠b':=by
  rintro h hh b hb b' hb' rfl
  have:=JA (sh:=sh) (h:=h) (h':=H) (by omega) (by omega) xs b hb hb'
  omega
 refine {len:=by rw [g.len];exact flen,okw:=g.okw,tt:=g.tt.trans f.tt,nn:=g.nn.trans f.nn,c:=?_,hd:=?_,life:=?_,zero:=?_ }
 ·have c1:=f.c
  have c2:=g.c
  refine⟨by omega,?_⟩
  have e:((H+1:Nat):Int)*(2*(xs.length:Int)+1)=(H:Int)*(2*xs.length+1)+(2*xs.length+1):=by
   rw [Int.natCast_add,Int.add_mul];simp
  rw [e];omega
 ·intro h hh
  by_cases e:h=H
  ·subst e;exact⟨g.ch,g.mk1,g.cl⟩
  ·obtain⟨a1,a2,a3⟩:=f.hd h (by omega)
   have eh:aB (eT sh H n xs 0 (n+1+H) 0 0 s).xs (n+1+h)=aB s.xs (n+1+h):=g.same _ (by omega) (fun b hb=>by have:=hsel H b hb;omega)
   refine⟨jG a1 (fun b hb=>?_),by rw [eh];exact a2,by rw [eh];exact a3⟩
   rcases List.mem_cons.1 hb with q | q
   ·rw [q];exact eh
   ·have hb2:=hsel h b q
    exact g.same b (by omega) (fun b' hb'=>⟨hdis h (by omega) b q b' hb',by have:=hsel H b' hb';omega⟩)
 ·intro h hh b hb
  by_cases e:h=H
  ·subst e;exact g.life b hb
  ·have hb2:=hsel h b hb
   rw [g.same (n+4+b) (by omega) (fun b' hb'=>by
    have:=hsel H b' hb'
    have:=hdis h (by omega) b hb b' hb'
    omega)]
   exact f.life h (by omega) b hb
 ·intro x hz
  have z:=hz H (by omega)
  rw [g.same x z.1 z.2]
  exact f.zero x (fun h hh=>hz h (by omega))
def LLf(sh:Int)(xs:List Int):List (List Nd):=[selF sh 0 0 xs,selF sh 1 0 xs,selF sh 2 0 xs,selF sh 3 0 xs]
theorem oP{sh:Int}{xs:List Int}{h:Nat}{L:List Nd}(e:(LLf sh xs)[h]? =some L):h<4∧L=selF sh h 0 xs:=by
 match h,e with
 | 0,e=>cases e;exact⟨by omega,rfl⟩
 | 1,e=>cases e;exact⟨by omega,rfl⟩
 | 2,e=>cases e;exact⟨by omega,rfl⟩
 | 3,e=>cases e;exact⟨by omega,rfl⟩
 | h+4,e=>simp [LLf]at e
theorem qW(sh:Int)(xs:List Int)(b:Int):b∈(LLf sh xs).flatMap (fun L=>L.map Nd.a)↔ ∃h:Nat,h<4∧b∈(selF sh h 0 xs).map Nd.a:=by
 unfold LLf
 simp only [List.flatMap_cons,List.flatMap_nil,List.append_nil,List.mem_append]
 constructor
 ·rintro(h | h | h | h)
  ·exact⟨0,by omega,h⟩
  ·exact⟨1,by omega,h⟩
  ·exact⟨2,by omega,h⟩
  ·exact⟨3,by omega,h⟩
 ·rintro⟨h,hh,hb⟩
  match h,hh,hb with
  | 0,_,hb=>exact .inl hb
  | 1,_,hb=>exact .inr (.inl hb)
  | 2,_,hb=>exact .inr (.inr (.inl hb))
  | 3,_,hb=>exact .inr (.inr (.inr hb))
theorem aAY(sh:Int)(xs:List Int):((LLf sh xs).flatMap (fun L=>L.map Nd.a)).Nodup :=by
 unfold LLf
 simp only [List.flatMap_cons,List.flatMap_nil,List.append_nil]
 have d: ∀h h':Int,0≤h→0≤h'→h≠h'→ ∀a∈(selF sh h 0 xs).map Nd.a,∀b∈(selF sh h' 0 xs).map Nd.a,a≠b:=by
  rintro h h' h0 h1 hne a ha b hb rfl
  exact hne (JA h0 h1 xs a ha hb)
 refine List.nodup_append.2 ⟨sW sh 0 xs 0,List.nodup_append.2 ⟨sW sh 1 xs 0,List.nodup_append.2 ⟨sW sh 2 xs 0,sW sh 3 xs 0,d 2 3 (by decide) (by decide) (by decide)⟩,?_⟩,?_⟩
 ·intro a ha b hb
  rcases List.mem_append.1 hb with h | h
  ·exact d 1 2 (by decide) (by decide) (by decide) a ha b h
  ·exact d 1 3 (by decide) (by decide) (by decide) a ha b h
 ·intro a ha b hb
  rcases List.mem_append.1 hb with h | h
  ·exact d 0 1 (by decide) (by decide) (by decide) a ha b h
  ·rcases List.mem_append.1 h with h | h
   ·exact d 0 2 (by decide) (by decide) (by decide) a ha b h
   ·exact d 0 3 (by decide) (by decide) (by decide) a ha b h
structure Fil (sh t n:Int) (xs:List Int) (S:List STS) (s:MS):Prop where
 q:QL t n s.xs (LLf sh xs) S
 um:UM (LLf sh xs)
 sz:SZ t n s.xs
 pz:PZ t n s.xs
 tt:s.t=t
 nn:s.n=n
 c:0≤s.c∧s.c≤4*(2*xs.length+1)
 fr: ∀b,(xs.length:Int)<b→b≤n→aB s.xs (n+4+b)=0
theorem TX{sh t n:Int}(hn:1≤n∧n≤500)(ht:1≤t∧t≤1000){xs:List Int}(hx:(xs.length:Int)≤n)(hk: ∀k∈xs,0≤k∧k<1024)(S:List STS)(hS: ∀st∈S,st.sp=0∧st.R=[])(me: ∀(i:Nat) (st:STS),S[i]? =some st→st.me=i∧(i:Int)<t):
 Fil sh t n xs S (eM sh t n xs):=by
 have f:=zV hn ht hx hk (by omega) (zV hn ht hx hk (by omega) (zV hn ht hx hk (by omega) (zV hn ht hx hk (by omega) (Z2 (sh:=sh) hn ht xs))))
 have f:FilH sh t n xs 4 (eM sh t n xs):=f
 have hsel: ∀h:Nat,∀b∈(selF sh h 0 xs).map Nd.a,1≤b∧b≤xs.length:=fun h b hb=>by have:=uS sh h xs 0 b hb;omega
 have hheld:S.flatMap (fun st=>dE st.sp st.R)=[]:=by
  rw [List.flatMap_eq_nil_iff]
  intro st hst
  obtain⟨a,b⟩:=hS st hst
  rw [a,b];rfl
 have hall:allN (LLf sh xs) S=(LLf sh xs).flatMap (fun L=>L.map Nd.a):=by
  unfold allN;rw [hheld,List.append_nil]
 have hz0: ∀b,1≤b→b≤n→b∉allN (LLf sh xs) S→aB (eM sh t n xs).xs (n+4+b)=0:=by
  intro b h1 h2 hb
  refine f.zero _ (fun h hh=>⟨by omega,fun b' hb'=>?_⟩)
  have:=hsel h b' hb'
  refine⟨by omega,fun e=>hb ?_⟩
  have:b=b':=by omega
  rw [hall,qW]
  exact⟨h,hh,by rw [this];exact hb'⟩
 have hzz: ∀x,2*n+5≤x→aB (eM sh t n xs).xs x=0:=by
  intro x hx2
  refine f.zero _ (fun h hh=>⟨by omega,fun b' hb'=>?_⟩)
  have:=hsel h b' hb'
  omega
 refine {q:= {ht:=ht,hn:=hn,len:=f.len,okw:=f.okw,four:=rfl,hd:=?_,nd:=by rw [hall];exact aAY sh xs,rng:=?_,tk:=?_,me:=me},um:=?_,sz:=fun i h0 h1=>hzz _ (by omega),pz:=fun u h0 h1=>?_,tt:=f.tt,nn:=f.nn,c:=f.c,fr:=fun b h1 h2=>hz0 b (by omega) h2 (fun hb=>?_) }
 ·intro h L hL
  obtain⟨h4,rfl⟩:=oP hL
  exact f.hd h h4
 ·intro b hb
  rw [hall,qW]at hb
  obtain⟨h,hh,hb⟩:=hb
  have:=hsel h b hb
  omega
 ·intro b hb
  constructor
  ·intro hl
   by_cases q:b∈allN (LLf sh xs) S
   ·exact q
   ·have:=hz0 b hb.1 hb.2 q
    unfold cW at hl
    rw [this]at hl;cases hl
  ·intro hb2
   rw [hall,qW]at hb2
   obtain⟨h,hh,hb2⟩:=hb2
   unfold cW
   rw [f.life h hh b hb2];rfl
 ·intro L hL b hb
  obtain⟨h,hh⟩:=List.getElem?_of_mem hL
  obtain⟨h4,rfl⟩:=oP hh
  exact(AT sh h xs 0 b hb).2.2
 ·rw [hzz _ (by unfold B1;omega)];rfl
 ·rw [hall,qW]at hb
  obtain⟨h,hh,hb⟩:=hb
  have:=hsel h b hb
  omega
theorem XK{f g:Nat→Int}{k:Int} : ∀m,inF f g k m=true→ ∃j,j<m∧g j=k
 | 0,h=>by cases h
 | m+1,h=>by
   rw [PI]at h
   by_cases e:g m=k
   ·exact⟨m,by omega,e⟩
   ·rw [dO e]at h
    obtain⟨j,h1,h2⟩:=XK m h
    exact⟨j,by omega,h2⟩
theorem AU{f g:Nat→Int}{m:Nat}{k:Int} :k∈setF f g m↔(0≤k∧k≤999)∧inF f g k m=true:=by
 unfold setF
 rw [List.mem_filter,List.mem_map]
 constructor
 ·rintro⟨⟨i,hi,rfl⟩,h⟩
  have:=List.mem_range.1 hi
  exact⟨by omega,h⟩
 ·rintro⟨h1,h2⟩
  exact⟨⟨k.toNat,List.mem_range.2 (by omega),by omega⟩,h2⟩
theorem JB(f g:Nat→Int)(m:Nat):Srt (setF f g m):=by
 unfold setF Srt
 refine List.Pairwise.sublist List.filter_sublist ?_
 rw [List.pairwise_map]
 exact List.Pairwise.imp (fun {a b} h=>by omega) List.pairwise_lt_range
theorem WA(f g:Nat→Int)(m:Nat):(setF f g m).length ≤m:=by
 have:=vX (setF f g m) ((List.range m).map g) (lX (JB f g m)) (fun k hk=>by
  obtain⟨j,h1,h2⟩:=XK m (AU.1 hk).2
  exact List.mem_map.2 ⟨j,List.mem_range.2 h1,h2⟩)
 simpa using this
theorem z9{sh:Int}(hs:sh=1∨sh=2)(f g:Nat→Int)(m:Nat):bH sh f g m=setF f g m:=by
 unfold bH
 rw [dO (show sh≠3 by omega),dO (show sh≠4 by omega),cond_false,cond_false]
theorem PS{sh:Int}(hs:sh=3∨sh=4){f g:Nat→Int} : ∀m,tV sh f g m→(bH sh f g m).length ≤m∧ ∀k∈bH sh f g m,0≤k∧k≤999
 | 0,_=>by
   have:bH sh f g 0=[]:=by
    rcases hs with rfl | rfl
    ·rfl
    ·rfl
   rw [this];exact⟨Nat.le_refl _,fun k hk=>by cases hk⟩
 | m+1,h=>by
   obtain⟨h1,h2⟩:=PS hs m (fun j hj=>h j (by omega))
   have hb:vT f m:=fun j hj=>(oO (h j (by omega)) hs).1
   obtain⟨hk,hy⟩:=oO (h m (by omega)) hs
   rcases hk with e | e
   ·rcases hs with rfl | rfl
    ·have hi:bH 3 f g (m+1)=bH 3 f g m++ [g m]:=DL hb e
     rw [hi]
     refine⟨by rw [List.length_append];simpa using h1,fun k hk=>?_⟩
     rcases List.mem_append.1 hk with z | z
     ·exact h2 k z
     ·rw [List.mem_singleton.1 z];exact hy
    ·have hi:bH 4 f g (m+1)=g m::bH 4 f g m:=DT e
     rw [hi]
     refine⟨by rw [List.length_cons];omega,fun k hk=>?_⟩
     rcases List.mem_cons.1 hk with z | z
     ·rw [z];exact hy
     ·exact h2 k z
   ·have hi:bH sh f g (m+1)=(bH sh f g m).tail :=by
     rcases hs with rfl | rfl
     ·exact x8 hb e
     ·exact yH hb e
    rw [hi]
    exact⟨by rw [List.length_tail];omega,fun k hk=>h2 k (List.mem_of_mem_tail hk)⟩
theorem uN{sh:Int}{f g:Nat→Int}{m:Nat}(hs:sh=1∨sh=2∨sh=3∨sh=4)(h:tV sh f g m):(bH sh f g m).length ≤m∧ ∀k∈bH sh f g m,0≤k∧k≤999:=by
 by_cases e:sh=1∨sh=2
 ·rw [z9 e]
  exact⟨WA f g m,fun k hk=>(AU.1 hk).1⟩
 ·exact PS (by omega) m h
theorem sY{sh k:Int}{h:Nat}(hh:h<4)(hs:sh=1∨sh=2)(hk:0≤k):dQ sh h k=false↔(bY sh k).toNat =h:=by
 unfold dQ bY
 rcases hs with rfl | rfl
 ·rw [dO (show(1:Int)≠2 by decide)]
  simp only [cond_false,bP,dF']
  constructor
  ·intro h;show(0:Int).toNat =_;simp;omega
  ·intro h
   have h:(0:Int).toNat =_:=h
   simp at h;omega
 ·rw [bZ]
  simp only [cond_true,Bool.not_eq_false',bN,beq_iff_eq]
  rw [Int.tmod_eq_emod_of_nonneg hk]
  omega
theorem V8{sh:Int}{f g:Nat→Int}{m:Nat}(hs:sh=1∨sh=2∨sh=3∨sh=4)(h:tV sh f g m):Rp sh (LLf sh (bH sh f g m)) f g m:=by
 obtain⟨hl,hb⟩:=uN hs h
 by_cases e:sh=1∨sh=2
 ·left
  refine⟨e,?_,?_,?_⟩
  ·intro i L hL
   obtain⟨h4,rfl⟩:=oP hL
   rw [sX,z9 e]
   exact(JB f g m).sublist List.filter_sublist
  ·intro i L hL k hk
   obtain⟨h4,rfl⟩:=oP hL
   rw [sX,List.mem_filter]at hk
   have hb:=hb k hk.1
   exact⟨hb,(sY h4 e hb.1).1 (by simpa using hk.2)⟩
  ·intro i L hL k k0 k9 hi
   obtain⟨h4,rfl⟩:=oP hL
   rw [sX,List.mem_filter,z9 e,AU]
   have:=(sY h4 e k0).2 hi
   constructor
   ·rintro⟨⟨_,z⟩,_⟩;exact z
   ·intro z;exact⟨⟨⟨k0,k9⟩,z⟩,by rw [this];rfl⟩
 ·right
  have e2:sh=3∨sh=4:=by omega
  have hsk: ∀(h:Int) (k:Int),dQ sh h k=ilt 0 h:=by
   intro h k
   unfold dQ
   rw [dO (show sh≠2 by omega)];rfl
  refine⟨e2,?_,hb,?_⟩
  ·show uk (selF sh 0 0 (bH sh f g m))=_
   rw [sX]
   refine List.filter_eq_self.2 (fun k hk=>?_)
   rw [hsk];rfl
  ·intro i L hL hi
   obtain⟨h4,rfl⟩:=oP hL
   cases hq:selF sh i 0 (bH sh f g m)with
   | nil=>rfl
   | cons b L=>
     exfalso
     have:b.a∈(selF sh i 0 (bH sh f g m)).map Nd.a:=by rw [hq];simp
     obtain⟨j,k,_,_,h3⟩:=(oS _ _ _ _ _).1 this
     rw [hsk,bP,dF']at h3
     omega
theorem V9{sh:Int}(hs:sh=1∨sh=2∨sh=3∨sh=4){xs:List Int}(hk: ∀k∈xs,0≤k∧k≤999){b:Int}(hb:1≤b∧b≤xs.length): ∃h:Nat,h<4∧b∈(selF sh h 0 xs).map Nd.a:=by
 have hj:(b - 1).toNat <xs.length:=by omega
 have hx:=hk _ (List.getElem_mem hj)
 by_cases e:sh=1∨sh=2
 ·have hr:=cS sh xs[(b - 1).toNat]
  have h4:(bY sh xs[(b - 1).toNat]).toNat <4:=by omega
  refine⟨(bY sh xs[(b - 1).toNat]).toNat,h4,(oS _ _ _ _ _).2 ⟨(b - 1).toNat,_,gE' hj,by omega,?_⟩⟩
  exact(sY h4 e hx.1).2 rfl
 ·refine⟨0,by omega,(oS _ _ _ _ _).2 ⟨(b - 1).toNat,_,gE' hj,by omega,?_⟩⟩
  unfold dQ
  rw [dO (show sh≠2 by omega)];rfl
theorem aBF: ∀(i:Nat) (st:STS),[(⟨0,0,[]⟩:STS),⟨1,0,[]⟩][i]? =some st→st.me=i∧(i:Int)<2
 | 0,st,h=>by cases h;exact⟨rfl,by decide⟩
 | 1,st,h=>by cases h;exact⟨rfl,by decide⟩
 | i+2,st,h=>by simp at h
def iA(sh n:Int)(xs:List Int):MS:=(eM sh 2 n xs).stored (n+4+n) 1
structure aBU (sh n kd ky lim:Int) (xs:List Int) (f g:Nat→Int) (m:Nat) (c:Int) (b:Bool) (v:Int) (j:Nat) (st:STS) (s:MS):Prop where
 cb:0≤(eM sh 2 n xs).c ∧(eM sh 2 n xs).c ≤1000
 ok:BF 2 n lim [[sh,kd,ky]] ⟨1,0,[]⟩ (iA sh n xs)
 eq:pW 2 n lim [[sh,kd,ky]] ⟨1,0,[]⟩ (iA sh n xs)=([[c,bitI b,v]],j,st,s)
 lk:bI kd=true→c=4∧b=false∧v=0∧dJ s.xs n sh=bH sh f g m
 el:bI kd=false→c=0∧(b,v)=AO sh f g m kd ky∧dJ s.xs n sh=bH sh f g (m+1)
theorem F7{sh lim:Int}{f g:Nat→Int}{m:Nat}(hs:sh=1∨sh=2∨sh=3∨sh=4)(h:tV sh f g (m+1))(hm:m≤12)(hl:0≤lim):
 ∃c b v j st s,aBU sh ((bH sh f g m).length +1) (f m) (g m) lim (bH sh f g m) f g m c b v j st s:=by
 have ho:tV sh f g m:=fun j hj=>h j (by omega)
 obtain⟨il,ib⟩:=uN hs ho
 have rp:=V8 hs ho
 generalize hxs:bH sh f g m=xs at*
 have hn:1≤(xs.length:Int)+1∧(xs.length:Int)+1≤500:=by omega
 generalize hnn:(xs.length:Int)+1=n at*
 have fl:=TX (sh:=sh) (t:=2) (n:=n) hn (by decide) (xs:=xs) (by omega) (fun k hk=>by have:=ib k hk;omega) [⟨0,0,[]⟩,⟨1,0,[]⟩] (by
  intro st hst
  rcases List.mem_cons.1 hst with e | e
  ·rw [e];exact⟨rfl,rfl⟩
  ·rw [List.mem_singleton.1 e];exact⟨rfl,rfl⟩) aBF
 have hfr:=fl.fr n (by omega) (Int.le_refl n)
 have hlf:cW n (eM sh 2 n xs).xs n=false:=by unfold cW;rw [hfr];rfl
 have q1:=fl.q.take (i:=0) (st:=⟨0,0,[]⟩) rfl rfl ⟨hn.1,Int.le_refl n⟩ hlf
 rw [hfr]at q1
 have q1:QL 2 n (iA sh n xs).xs (LLf sh xs) [⟨0,n,[]⟩,⟨1,0,[]⟩]:=q1
 have same: ∀a,a≠n+4+n→aB (iA sh n xs).xs a=aB (eM sh 2 n xs).xs a:=fun a ha=>cI ha
 have sz:SZ 2 n (iA sh n xs).xs :=fun i h0 h1=>by rw [same _ (by omega)];exact fl.sz i h0 h1
 have pz:PZ 2 n (iA sh n xs).xs :=fun u h0 h1=>by rw [same _ (by unfold B1;omega)];exact fl.pz u h0 h1
 have hc:0≤(iA sh n xs).c ∧(iA sh n xs).c ≤700000:=by
  have e:(iA sh n xs).c =(eM sh 2 n xs).c +1:=rfl
  have:=fl.c
  rw [e];omega
 have hr:aZ sh (f m) (g m)=true:=h m (by omega)
 have hS: [(⟨0,n,[]⟩:STS),⟨1,0,[]⟩][1]? =some ⟨1,0,[]⟩:=rfl
 obtain⟨j,LL',st',s',c,b,v,d⟩:=N8 (kd:=f m) (ky:=g m) q1 hS hr fl.um sz pz
 obtain⟨ok,z,e1,e2⟩:=X4 q1 hS d hl hc
 have hall: ∀x,1≤x∧x≤n→cW n (iA sh n xs).xs x=true:=by
  intro x hx
  rw [q1.tk x hx]
  by_cases e:x=n
  ·rw [e]
   refine List.mem_append_right _ ?_
   show n∈dE n []++_
   rw [mB (by omega)];simp
  ·obtain⟨h,h4,hb⟩:=V9 (sh:=sh) hs ib (b:=x) (by omega)
   exact List.mem_append_left _ ((qW sh xs x).2 ⟨h,h4,hb⟩)
 refine⟨c,b,v,j,st',s',⟨by have:=fl.c;omega,⟨ok,trivial⟩,?_,?_,?_⟩⟩
 ·show alF 2 n lim 100000 [[sh,f m,g m]] ⟨1,0,[]⟩ (iA sh n xs)=_
  show(uZ (tB 2 n lim 100000 [sh,f m,g m] ⟨1,0,[]⟩ (iA sh n xs)).2.1::_,(tB 2 n lim 100000 [sh,f m,g m] ⟨1,0,[]⟩ (iA sh n xs)).1+0,(tB 2 n lim 100000 [sh,f m,g m] ⟨1,0,[]⟩ (iA sh n xs)).2.2.1,(tB 2 n lim 100000 [sh,f m,g m] ⟨1,0,[]⟩ (iA sh n xs)).2.2.2)=_
  rw [e1,e2];rfl
 ·intro hk
  rcases d.is with⟨c4,b0,v0,rfl,_⟩ | ⟨c0,_⟩
  ·refine⟨c4,b0,v0,?_⟩
   rw [DF d.q rp,hxs]
  ·obtain⟨x,hx,hf⟩:=d.ns c0 hk rfl rfl
   rw [hall x hx]at hf;cases hf
 ·intro hk
  rcases d.is with⟨_,_,_,_,_,hk2,_⟩ | ⟨c0,hbv,L',rfl,hL'⟩
  ·rw [hk]at hk2;cases hk2
  ·obtain⟨r1,r2⟩:=Rp.step rfl rp ho hr
   refine⟨c0,hbv.trans r1,?_⟩
   exact DF d.q (r2 L' hL')
theorem aCL{sh:Int}(h:0≤sh∧sh≤255):kS sh=1∨kS sh=2∨kS sh=3∨kS sh=4:=by
 unfold kS
 have e:IntKind.wrap .i64 sh=sh:=cJ (by omega)
 have e2:Int.tmod sh 4=sh%4:=Int.tmod_eq_emod_of_nonneg h.1
 rw [e,e2]
 have e3:IntKind.wrap .i64 (1+sh%4)=1+sh%4:=cJ (by omega)
 rw [e3];omega
theorem aDM{m:Nat}(h:m≤1000):nA (m+1)=m:=by
 unfold nA
 have e:IntKind.wrap .i64 (((m+1:Nat):Int) - 1)=m:=(cJ (by omega)).trans (by omega)
 rw [e];omega
theorem zH{b:Bool}{P Q:Prop}(h:b=true)(p:P):(bif b then P else Q):=by rw [h];exact p
theorem aBD(sh:Int)(m:Nat)(f g:Nat→Int)(lim:Int)(K:AVal→aD Ob→Prop)(hsh:0≤sh∧sh≤255)(hlim:0≤lim∧lim≤255)(hK:K (.bool true) []):JF sh m f g lim K:=by
 unfold JF
 refine⟨trivial,by decide,aM (fun _=>hK) (fun e0=>aM (fun _=>hK) (fun e1=>⟨⟨?_,⟨rfl⟩⟩,aM (fun _=>hK) (fun hr=>?_)⟩))⟩
 ·rw [bP,dF']at e1;omega
 rw [bP,dF']at e1
 rw [bN]at e0
 simp only [beq_eq_false_iff_ne,ne_eq]at e0
 obtain⟨m,rfl⟩: ∃q,m=q+1:=⟨m - 1,by omega⟩
 have hA:=aDM (m:=m) (by omega)
 have hs:=aCL hsh
 have hr:kV (kS sh) (m+1) f g=true:=by simpa using hr
 have ho:tV (kS sh) f g (m+1):=pT.1 hr
 have hw:IntKind.wrap .i64 (((m+1:Nat):Int) - 1)=m:=(cJ (by omega)).trans (by omega)
 obtain⟨il,ib⟩:=uN (f:=f) (g:=g) (m:=m) hs (fun j hj=>ho j (by omega))
 obtain⟨jl,jb⟩:=uN (f:=f) (g:=g) (m:=m+1) hs ho
 obtain⟨y1,y2⟩:=vR (kS sh) f g m
 obtain⟨z1,z2⟩:=vR (kS sh) f g (m+1)
 have hR:iR sh (m+1) f g=bH (kS sh) f g m:=by unfold iR;rw [hA]
 have hD:iD sh (m+1) f g=bH (kS sh) f g m:=by unfold iD;rw [hA];exact y1
 have hN:nN sh (m+1) f g=((bH (kS sh) f g m).length :Int)+1:=by unfold nN;rw [hR]
 have hwl:IntKind.wrap .i64 lim=lim:=cJ (by omega)
 have hl:0≤Int.tmod (IntKind.wrap .i64 lim) 50:=by rw [hwl,Int.tmod_eq_emod_of_nonneg hlim.1];omega
 obtain⟨c,b,v,j,st,s,F⟩:=F7 (sh:=kS sh) (lim:=Int.tmod (IntKind.wrap .i64 lim) 50) (f:=f) (g:=g) (m:=m) hs ho (by omega) hl
 have hS:sM sh (m+1) f g=iA (kS sh) ((bH (kS sh) f g m).length +1) (bH (kS sh) f g m):=by
  unfold sM iA;rw [hN,hD]
 have ha:aR sh (m+1) f g lim=([[c,bitI b,v]],j,st,s):=by
  unfold aR;rw [hS,hN,hA];exact F.eq
 have hok:=F.ok
 have hcb:=F.cb
 rw [ha,hS,hD,hN,hR,hA]
 have hw2:W (((m+1:Nat):Int) - 1)=m:=hw
 rw [hw2]
 refine⟨⟨by omega,by omega⟩,⟨by omega,by omega⟩,⟨by omega,⟨rfl⟩⟩,⟨y2,⟨by decide,by omega,kD.2 (by omega),fun k hk=>by have:=ib k hk;omega⟩⟩,⟨by decide,by omega,by omega⟩,⟨rfl,hcb.1,Int.le_trans hcb.2 (by decide)⟩,⟨trivial,trivial⟩,by decide,⟨⟨⟨rfl,rfl⟩,show 1≤1000000 by decide,hok⟩,trivial⟩,aM (fun e=>by cases e) (fun _=>?_)⟩
 have linked:bI (f m)=true→(bif bif ieq (List.headD (List.getD ([[c,bitI b,v]]:List (List Int)) (0+Int.toNat 0) []) 0) 4 then bif !!ieq (List.headD (List.tail (List.getD ([[c,bitI b,v]]:List (List Int)) (0+Int.toNat 0) [])) 0) 0 then bif ieq (List.headD (List.tail (List.tail (List.getD ([[c,bitI b,v]]:List (List Int)) (0+Int.toNat 0) []))) 0) 0 then true else false else false else false then true else false)=true∧dJ s.xs (((bH (kS sh) f g m).length :Int)+1) (kS sh)=bH (kS sh) f g m:=by
  intro hk
  obtain⟨h1,h2,h3,h4⟩:=F.lk hk
  refine⟨?_,h4⟩
  rw [h1,h2,h3];rfl
 have same: ∀(x y:List Int),x=y→K (.bool (lV x y)) []:=by
  intro x y h
  rw [HD.2 h];exact hK
 have fst: ∀(P Q:Prop),bI (f m)=true→P→(bif bif ieq (List.headD (List.getD ([[c,bitI b,v]]:List (List Int)) (0+Int.toNat 0) []) 0) 4 then bif !!ieq (List.headD (List.tail (List.getD ([[c,bitI b,v]]:List (List Int)) (0+Int.toNat 0) [])) 0) 0 then bif ieq (List.headD (List.tail (List.tail (List.getD ([[c,bitI b,v]]:List (List Int)) (0+Int.toNat 0) []))) 0) 0 then true else false else false else false then P else Q):=by
  intro P Q hk p
  obtain⟨h1,h2,h3,h4⟩:=F.lk hk
  rw [h1,h2,h3];exact p
 refine aM (fun e=>?_) (fun e=>aM (fun e2=>?_) (fun e2=>?_))
 ·have hk:bI (f m)=true:=by unfold bI;rw [e];rfl
  obtain⟨_,h4⟩:=linked hk
  refine⟨⟨by decide,show(0:Int)<1 by decide⟩,show 0<1 by decide,fst _ _ hk ⟨⟨rfl,by omega,by omega⟩,⟨⟨rfl,y2⟩,?_⟩,same _ _ h4⟩⟩
  rw [show dJ (Prod.snd (Prod.snd ([[c,bitI b,v]],j,st,s))).2.3 _ _=_ from h4];omega
 ·have hk:bI (f m)=true:=by unfold bI;rw [e2];simp
  obtain⟨_,h4⟩:=linked hk
  refine⟨⟨by decide,show(0:Int)<1 by decide⟩,show 0<1 by decide,fst _ _ hk ⟨⟨rfl,by omega,by omega⟩,⟨⟨rfl,y2⟩,?_⟩,same _ _ h4⟩⟩
  rw [show dJ (Prod.snd (Prod.snd ([[c,bitI b,v]],j,st,s))).2.3 _ _=_ from h4];omega
 ·have hk:bI (f m)=false:=by unfold bI;rw [e,e2];rfl
  obtain⟨h1,h2,h4⟩:=F.el hk
  have hb:resB (kS sh) f g m (f m) (g m)=b:=(congrArg Prod.fst h2).symm
  have hv:resV (kS sh) f g m (f m) (g m)=v:=(congrArg Prod.snd h2).symm
  refine⟨⟨by decide,show(0:Int)<1 by decide⟩,show 0<1 by decide,⟨⟨by omega,⟨rfl⟩⟩,trivial⟩,zH ?_ ⟨⟨⟨rfl,by omega,by omega⟩,trivial⟩,⟨⟨by omega,⟨rfl⟩⟩,trivial⟩,⟨⟨⟨rfl,z2⟩,?_⟩,trivial⟩,same _ _ (h4.trans z1.symm)⟩⟩
  ·rw [hb,hv,h1]
   show(bif bif !ieq (bitI b) 0 then b else !b then bif ieq v v then true else false else false)=true
   rw [bZ]
   cases b<;>rfl
  ·rw [show dJ (Prod.snd (Prod.snd ([[c,bitI b,v]],j,st,s))).2.3 _ _=_ from h4];omega
end Go.Sh
