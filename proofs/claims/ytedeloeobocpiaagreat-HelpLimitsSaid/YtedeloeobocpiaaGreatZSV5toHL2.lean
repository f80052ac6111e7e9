import Derived.Test.YtedeloeobocpiaaGreatZSQ1toSQC
set_option linter.all false
set_option maxHeartbeats 8000000
namespace Go.Sh
open Go Go.Proofs
variable [Con]
theorem B9{t n u no sh kd ky att w1 c v:Int}{b:Bool}{s:MS}(ha1:aA w1 0 12=att)(hm:HlM t n u no sh kd ky s.xs)(hw1:aB s.xs (aK t n u)=w1)(hd:dOk att 0 0 (bif ieq c 4 then 1 else 0) 5 v=true):
 ∃s',C8 (aK t n u) 1 (aY att 0 0 (bif ieq c 4 then 1 else 0) b 5 v) (aB s.xs 1) 2 s s'∧
  ∀(x:HPS) (st:STS),x.at'=6→x.u=u→x.found=w1→(x.p.code=c∧x.p.okk=b∧x.p.val=v)→ ∃z,End (hpG t n) 2 (x,st,s) (z,st,s'):=by
 have hu:=hm.hu
 have hn:=hm.hn
 have S0:=HY (D:=aK t n u) (addr:=1) (s:=s) (l:=s) (c0:=0) (w:=w1) (w':=aY att 0 0 (bif ieq c 4 then 1 else 0) b 5 v) rfl (by omega) rfl rfl hm.din (by unfold aK;omega) hw1 rfl (m7 hd)
 refine⟨_,S0.ld (aK t n u),fun x st h0 e1 e2 e3=>?_⟩
 obtain⟨p1,p2,p3⟩:=e3
 have g0:=RR (t:=t) (n:=n) (x:=x) (st:=st) (s:=s) h0 (by rw [e2,p1,p3,ha1];exact hd)
 rw [e1,e2,p1,p2,p3,ha1]at g0
 obtain⟨z,g1⟩:=zW (t:=t) (n:=n) (x:= {hpR x with at':=0}) (st:=st) (s:=s.cased (aK t n u) w1 (aY att 0 0 (bif ieq c 4 then 1 else 0) b 5 v)) rfl (by show iO (aA (aB _ (aK t n x.u)) 49 3)=false;rw [e1,S0.d,pH hd];rfl)
 have g1:End (hpG t n) 1 _ (z,st,(s.cased (aK t n u) w1 (aY att 0 0 (bif ieq c 4 then 1 else 0) b 5 v)).loadd (aK t n x.u)):=g1
 rw [e1]at g1
 exact⟨z,End.cons (fZ g0) g1⟩
theorem LR{att v:Int}(h:0≤att∧att<4096)(hv:0≤v∧v<1024)(e:Int)(he:0≤e∧e≤1):dOk att 0 0 e 5 v=true:=by
 unfold dOk
 rw [cL.2 (show 0≤att∧att<2^(12:Int).toNat from h),cL.2 (show 0≤v∧v<2^(10:Int).toNat from hv),cL.2 (show 0≤e∧e<2^(9:Int).toNat from⟨he.1,by show e<512;omega⟩)]
 rfl
structure HlA (t n u no sh kd ky att:Int) (LL LL':List (List Nd)) (S:List STS) (i:Nat) (st':STS) (s s':MS) (j:Nat) (e:Int) (b:Bool) (v:Int):Prop where
 q:QL t n s'.xs LL' (S.set i st')
 d:aB s'.xs (aK t n u)=aY att 0 0 e b 5 v
 hm:HlM t n u no sh kd ky s'.xs
 c:s'.c=s.c+j
 t:s'.t=s.t
 n:s'.n=s.n
 vr:0≤v∧v<1024
theorem HE{t n u no sh kd ky att w1:Int}{LL:List (List Nd)}{S:List STS}{s:MS}{i:Nat}{st:STS}(q:QL t n s.xs LL S)(hS:S[i]? =some st)(hr:bX sh kd ky=true)(hl:bM kd=true→st.sp≠0)(hm:HlM t n u no sh kd ky s.xs)(hw1:aB s.xs (aK t n u)=w1)(ha1:aA w1 0 12=att):
 ∃j s',HlA t n u no sh kd ky att LL (LL.set (cJ sh ky).toNat (xS sh kd ky st.sp (dP LL sh ky))) S i (oW sh kd ky (dP LL sh ky) st) s s' j 0 (paOf sh kd ky (sc (dG sh kd ky) (dP LL sh ky)).2.2).ok (paOf sh kd ky (sc (dG sh kd ky) (dP LL sh ky)).2.2).val ∧(j:Int)≤5*n+40∧
  ∀y:HPS,y.u=u→y.no=no→y.sh=sh→y.kd=kd→y.ky=ky→y.found=w1→0≤y.limit→ ∃z,End (hpG t n) j ({hpR y with at':=5,fn:=qI t n st.me (cJ sh ky) (dG sh kd ky) y.limit},st,s) (z,oW sh kd ky (dP LL sh ky) st,s'):=by
 have lc:=q.lc sh ky hS
 have hL:=q.at sh ky
 have hLn:=jB q hL
 have hn:=q.hn
 have ht:=q.ht
 have hme:=q.me i st hS
 have hun:=hm.hu
 have hat:0≤att∧att<4096:=by
  have:=fS (x:=w1) (a:=0) (w:=12)
  rw [ha1]at this;simpa using this
 have hsp:bM kd=true→1≤st.sp∧st.sp≤n∧st.sp∉(dP LL sh ky).map Nd.a:=by
  intro hk
  have hz:=hl hk
  have hin:st.sp∈dR st.sp st.R:=by rw [pO hz];exact List.mem_cons_self ..
  have h2:=(uD q hS).2.1 st.sp hin
  exact⟨h2.1,h2.2,sG q hS hL st.sp hin⟩
 have hlen:((dP LL sh ky).length :Int)≤n:=lc.ln
 obtain⟨j,jj,z,s1,s3,sV,P,p⟩:=FT (kd:=kd) (ky:=ky) hr lc hsp
 have qV:=q.fast hS hl p.fta
 have hD: ∀x,2*n+5+2*t≤x→aB s1.xs x=aB s.xs x:=fun x hx=>p.hi1 x (by omega) (by omega) (by omega)
 have m1:HlM t n u no sh kd ky s1.xs:=hm.congr p.len1 (hD _ (by unfold bK;omega)) (hD _ (by unfold bI;omega))
 have hw:aB s1.xs (aK t n u)=w1:=(hD _ (by unfold aK;omega)).trans hw1
 have hst1:(⟨st.me,st.sp,st.R++z.ul⟩:STS)=⟨st.me,st.sp,st.R++(sc (dG sh kd ky) (dP LL sh ky)).2.1.map Nd.a⟩:=by rw [p.ul]
 have hlim:=p.lim
 have walk: ∀y:HPS,y.sh=sh→y.kd=kd→y.ky=ky→ ∃(j':Nat) (b:FNS×MS),j=j'+1∧Go1 (hpG t n) j' ({hpR y with at':=5,fn:=qI t n st.me (cJ sh ky) (dG sh kd ky) y.limit},st,s) ({hpR y with at':=5,fn:=b.1},st,b.2)∧
  hpG t n ({hpR y with at':=5,fn:=b.1},st,b.2)=bif P.now then(false,({hpR y with at':=6,p:=P},(⟨st.me,st.sp,st.R++z.ul⟩:STS),s1))
   else bif bM kd then(false,({hpR y with at':=8,p:=P,pr:=⟨ky,z.curr,0,false⟩ },(⟨st.me,st.sp,st.R++z.ul⟩:STS),s1))
   else(false,({hpR y with at':=9,p:=P},(⟨st.me,st.sp,st.R++z.ul⟩:STS),s1)):=by
  intro y e1 e2 e3
  subst e1 e2 e3
  obtain⟨j',b,h1,h2,h3⟩:=p.fin y.limit
  refine⟨j',b,h1,?_,?_⟩
  ·exact aCl (G:=hpG t n) (fun q:FNS×MS=>(({hpR y with at':=5,fn:=q.1} :HPS),st,q.2)) (fun a c hac=>fZ (Y7 (x:= {hpR y with at':=5,fn:=a.1}) rfl (G2 hac))) h2
  ·have e:=WI (t:=t) (n:=n) (x:= {hpR y with at':=5,fn:=b.1}) (st:=st) (s:=b.2) (y:= {z with limit:=y.limit}) (p:=P) rfl (G2 h3) p.ab (p.pl) p.pc
   unfold hpG
   rw [e]
   cases P.now with
   | true=>rfl
   | false=>cases hkk:bM y.kd<;>simp only [hkk,cond_true,cond_false]<;>first | rfl | (show((bif bM y.kd then _ else _:HpO).d,(bif bM y.kd then _ else _:HpO).x,(bif bM y.kd then _ else _:HpO).st,(bif bM y.kd then _ else _:HpO).s)=_;rw [hkk];rfl)
 cases hnow:P.now with
 | true=>
   obtain⟨f1,f2,f3⟩:=p.now hnow
   obtain⟨s',T,g⟩:=B9 (b:=P.okk) ha1 m1 hw (LR hat p.vr (bif ieq P.code 4 then 1 else 0) (by rw [p.code];exact⟨by decide,by decide⟩))
   have qr:=qV.out (ys:=s'.xs) (T.len.trans (congrArg (fun m:MS=>m.xs.length) f1.symm)) (T.okw (by rw [←f1];exact qV.okw)) (fun a ha=>by
    rw [f1]
    by_cases h1:a=1
    ·rw [h1];exact T.a
    ·exact T.o a (by unfold aK;omega) h1)
   have hfs:oW sh kd ky (dP LL sh ky) st=(⟨st.me,st.sp,st.R++z.ul⟩:STS):=by
    rw [hst1];unfold oW;rw [f2,f3,List.append_nil]
   refine⟨j+2,s',{q:=qr,d:=?_,hm:=T.hm m1 ⟨by decide,by omega⟩,c:=by rw [T.c,p.c1];omega,t:=T.t.trans p.t1,n:=T.n.trans p.n1,vr:=by rw [←p.val];exact p.vr},by omega,fun y e1 e2 e3 e4 e5 e6 _=>?_⟩
   ·rw [T.d,p.code,p.ok,p.val];rfl
   ·obtain⟨j',b,h1,h2,h3⟩:=walk y e3 e4 e5
    rw [hnow,cond_true]at h3
    obtain⟨zz,g1⟩:=g {hpR y with at':=6,p:=P} ⟨st.me,st.sp,st.R++z.ul⟩ rfl e1 e6 ⟨rfl,rfl,rfl⟩
    rw [hfs]
    have hj:2+(1+j')=j+2:=by omega
    rw [←hj]
    exact⟨zz,aB1 (h2.trans (Go1.one h3)) g1⟩
 | false=>
   obtain⟨g1,g2,g3,g4,g5,g6,g7,g8,g9,g10,g11,g12⟩:=p.chg hnow
   obtain⟨pp1,pp2⟩:=p.pp hnow
   have hun2:u<t:=hun.2.1
   have hD3: ∀x,2*n+5+2*t≤x→aB s3.xs x=aB s.xs x:=fun x hx=>(g11 x (by omega)).trans (hD x hx)
   have m3:HlM t n u no sh kd ky s3.xs:=hm.congr g8 (hD3 _ (by unfold bK;omega)) (hD3 _ (by unfold bI;omega))
   have hw3:aB s3.xs (aK t n u)=w1:=(hD3 _ (by unfold aK;omega)).trans hw1
   have pq:PQ att P.addr P.old P.nxt P.mark P.val:=⟨hat,⟨g2.1,by omega⟩,g3,p.vr,g4⟩
   obtain⟨s',T,g⟩:=RQ (sh:=sh) (kd:=kd) (ky:=ky) ha1 m3 pq g2.2 g5 hw3 pp2
   have hsV:sV.xs=aJ s3.xs P.addr (chgW P.old P.nxt P.mark):=by rw [g6];exact iH g7
   have hsl:sV.xs.length=s3.xs.length:=by rw [hsV,bO]
   have hlen3:=m3.len
   have hain:0≤P.addr∧P.addr<s3.xs.length:=by omega
   have qr:=qV.out (ys:=s'.xs) (T.len.trans hsl.symm) (T.okw (g12 q.okw)) (fun a ha=>by
    rw [hsV]
    by_cases h1:a=P.addr
    ·rw [h1,T.a,dC hain]
    ·rw [bG h1];exact T.o a (by unfold aK;omega) h1)
   have hfs: ∀sp',(paOf sh kd ky (sc (dG sh kd ky) (dP LL sh ky)).2.2).sp st.sp=sp'→oW sh kd ky (dP LL sh ky) st=(⟨st.me,sp',(st.R++z.ul)++(bif dD sh kd then [nxW P.old]else [])⟩:STS):=by
    intro sp' hsp'
    unfold oW
    rw [hsp',pp1,p.ul]
   have hplan:P.now=false∧P.val=P.val∧P.addr=P.addr∧P.old=P.old∧P.nxt=P.nxt∧P.mark=P.mark:=⟨hnow,rfl,rfl,rfl,rfl,rfl⟩
   cases hlk:bM kd with
   | true=>
     obtain⟨k1,k2,k3,k4⟩:=p.lk hnow hlk
     refine⟨j+23,s',{q:=qr,d:=?_,hm:=T.hm m3 g2,c:=by rw [T.c,k3];show s1.c+1+1+21=_;rw [p.c1];omega,t:=T.t.trans g9,n:=T.n.trans g10,vr:=by rw [←p.val];exact p.vr},by omega,fun y e1 e2 e3 e4 e5 e6 _=>?_⟩
     ·rw [T.d,←p.ok,←p.val,g1]
     ·obtain⟨j',b,h1,h2,h3⟩:=walk y e3 e4 e5
      rw [hnow,hlk,cond_false,cond_true]at h3
      have h5:=fZ (Y9 (t:=t) (n:=n) (x:= {hpR y with at':=8,p:=P,pr:=⟨ky,z.curr,0,false⟩ }) (st:=⟨st.me,st.sp,st.R++z.ul⟩) (s:=s1) rfl (SE rfl))
      have h6:=fZ (WL (t:=t) (n:=n) (x:= {hpR y with at':=8,p:=P,pr:=⟨ky,z.curr,aB s1.xs st.sp,true⟩ }) (st:=⟨st.me,st.sp,st.R++z.ul⟩) (s:=s1.loadd st.sp) rfl (OK rfl k1 k2))
      have h6:hpG t n _=(false,(_,_,(s1.loadd st.sp).stored st.sp (R2 ky z.curr (aB s1.xs st.sp)))):=h6
      rw [←k3]at h6
      obtain⟨zz,h7⟩:=g {hpR y with at':=9,p:=P} ⟨st.me,st.sp,st.R++z.ul⟩ rfl e1 e2 e6 e4 hplan
      rw [hlk,cond_true]at h7
      rw [hfs 0 k4]
      have hj:21+(1+1+1+j')=j+23:=by omega
      rw [←hj]
      exact⟨zz,aB1 (h2.trans (Go1.cons h3 (Go1.cons h5 (Go1.one h6)))) h7⟩
   | false=>
     obtain⟨k3,k4⟩:=p.nl hnow hlk
     refine⟨j+21,s',{q:=qr,d:=?_,hm:=T.hm m3 g2,c:=by rw [T.c,k3,p.c1];omega,t:=T.t.trans g9,n:=T.n.trans g10,vr:=by rw [←p.val];exact p.vr},by omega,fun y e1 e2 e3 e4 e5 e6 _=>?_⟩
     ·rw [T.d,←p.ok,←p.val,g1]
     ·obtain⟨j',b,h1,h2,h3⟩:=walk y e3 e4 e5
      rw [hnow,hlk,cond_false,cond_false]at h3
      obtain⟨zz,h7⟩:=g {hpR y with at':=9,p:=P} ⟨st.me,st.sp,st.R++z.ul⟩ rfl e1 e2 e6 e4 hplan
      rw [hlk,cond_false]at h7
      rw [hfs st.sp k4]
      have hj:21+(1+j')=j+21:=by omega
      rw [←hj]
      rw [k3]at h7
      exact⟨zz,aB1 (h2.trans (Go1.one h3)) h7⟩
theorem aCk{σ τ:Type}{F:σ→Bool×σ}{G:τ→Bool×τ}(e:σ→τ)(he: ∀a b,F a=(false,b)→G (e a)=(false,e b)){j:Nat}{a z:σ}{y:τ}(h:End F j a z)(hz: ∀b,F b=(true,z)→G (e b)=(false,y)):Go1 G j (e a) y:=by
 obtain⟨i,b,rfl,h1,h2⟩:=h
 have:=(aCl e he h1).trans (Go1.one (hz b h2))
 rw [Nat.add_comm]at this
 exact this
theorem qE{t n:Int}{a:ENS×STS×MS}{d:Bool}{b:ENS×STS×MS}(h:C9 t n a=(d,b)):enF t n a.1 a.2.1 a.2.2=⟨d,b.1,b.2.1,b.2.2⟩:=by
 obtain⟨h1,h2⟩:=QI h
 subst h1 h2
 rfl
def ZW(n me:Int)(s s':MS):Prop:= ∀a,2*n+5≤a→a≠2*n+5+2*me→a≠2*n+5+2*me+1→aB s'.xs a=aB s.xs a
theorem ZW.trans{n me:Int}{a b c:MS}(h:ZW n me a b)(g:ZW n me b c):ZW n me a c:=fun x h1 h2 h3=>(g x h1 h2 h3).trans (h x h1 h2 h3)
theorem QL.hl{t n u no sh kd ky a v:Int}{xs:List Int}(h:HlM t n u no sh kd ky xs)(ha:a≤2*n+4):HlM t n u no sh kd ky (aJ xs a v):=by
 have:=h.hu
 exact h.put (by unfold bK;omega) (by unfold bI;omega)
theorem EK{t n u no sh kd ky att w1:Int}{LL:List (List Nd)}{S:List STS}{s:MS}{i:Nat}{st:STS}(q:QL t n s.xs LL S)(hS:S[i]? =some st)(hz:st.sp=0)(hR:st.R=[])(hr:bX sh kd ky=true)(hm:HlM t n u no sh kd ky s.xs)(hw1:aB s.xs (aK t n u)=w1)(ha1:aA w1 0 12=att)(hs1:aA w1 49 3=1):
 ∃j LL' st' s' e b v,HlA t n u no sh kd ky att LL LL' S i st' s s' j e b v∧(j:Int)≤6*n+60∧
  (∀lim:Int,0≤lim→ ∃z,End (hpG t n) j ((hpNF t n u no lim st).1,st,s) (z,st',s'))∧
  ((e=1∧b=false∧v=0∧LL'=LL∧bM kd=true∧ ∀x,1≤x∧x≤n→dO n s.xs x=true)∨
    (e=0∧(b,v)=(GM sh kd ky (uk (dP LL sh ky))).1∧(bM kd=true→ ∃x,(1≤x∧x≤n)∧dO n s.xs x=false)∧ ∃L',LL'=LL.set (cJ sh ky).toNat L'∧uk L'=(GM sh kd ky (uk (dP LL sh ky))).2)):=by
 have hn:=q.hn
 have ht:=q.ht
 have hme:=q.me i st hS
 have hun:=hm.hu
 let sK:MS:=((s.loadd (aK t n u)).loadd (bK t n u)).loadd (bI t n u)
 have two: ∀lim:Int,Go1 (hpG t n) 3 ((hpNF t n u no lim st).1,st,s) (bif bM kd&&ieq st.sp 0 then(({hpR (hpNF t n u no lim st).1 with rounds:=1,at':=4,found:=w1,sh:=sh,kd:=kd,ky:=ky} :HPS),st,sK)else(({hpR (hpNF t n u no lim st).1 with rounds:=1,at':=5,found:=w1,sh:=sh,kd:=kd,ky:=ky,fn:=qI t n st.me (cJ sh ky) (dG sh kd ky) lim} :HPS),st,sK)):=by
  intro lim
  have g:=NI (t:=t) (n:=n) (x:=(hpNF t n u no lim st).1) (st:=st) (s:=s) rfl hm.tick (by show iO (aA (aB s.xs (aK t n u)) 49 3)=true;rw [hw1,hs1];rfl)
  have e:=HG (t:=t) (n:=n) (x:= {hpR (hpNF t n u no lim st).1 with rounds:=W (0+1),at':=2,found:=aB s.xs (aK t n u) }) (st:=st) (s:=(s.loadd (aK t n u)).loadd (bK t n u)) (sh:=sh) (kd:=kd) (ky:=ky) rfl hm.task
  have e:hpF t n _ _ _=bif !ieq (aA (aB s.xs (aK t n u)) 49 3) 1 then _ else _:=e
  rw [hw1,hs1,bH,Bool.not_true,cond_false]at e
  have g:Go1 (hpG t n) 2 _ ({hpR (hpNF t n u no lim st).1 with rounds:=W (0+1),at':=2,found:=aB s.xs (aK t n u) },st,(s.loadd (aK t n u)).loadd (bK t n u)):=g
  rw [hw1]at g
  refine g.trans (Go1.one ?_)
  unfold hpG
  dsimp only
  rw [e]
  cases bM kd&&ieq st.sp 0<;>rfl
 cases hle:(bM kd&&ieq st.sp 0)with
 | false=>
   have hlk:bM kd=false:=by
    rw [hz,bH,Bool.and_true]at hle;exact hle
   simp only [hle,cond_false]at two
   obtain⟨j,s',A,hj,g⟩:=HE (s:=sK) (w1:=w1) q hS hr (fun h=>by rw [hlk]at h;cases h) hm hw1 ha1
   obtain⟨f1,f2,f3⟩:=xT sh kd ky st.sp (dP LL sh ky)
   refine⟨j+3,_,_,s',0,_,_,{q:=A.q,d:=A.d,hm:=A.hm,c:=by rw [A.c];show s.c+1+1+1+(j:Int)=_;omega,t:=A.t,n:=A.n,vr:=A.vr},by omega,fun lim hlim=>?_,.inr ⟨rfl,Prod.ext f1 f2,(fun h=>by rw [hlk]at h;cases h),_,rfl,f3⟩⟩
   obtain⟨z,h⟩:=g {hpR (hpNF t n u no lim st).1 with rounds:=1,at':=5,found:=w1,sh:=sh,kd:=kd,ky:=ky} rfl rfl rfl rfl rfl rfl hlim
   exact⟨z,aB1 (two lim) h⟩
 | true=>
   have hlk:bM kd=true:=(Bool.and_eq_true_iff.1 hle).1
   simp only [hle,cond_true]at two
   by_cases hfree: ∃b,(1≤b∧b≤n)∧dO n s.xs b=false
   ·obtain⟨b0,hb0,hf0⟩:=hfree
    obtain⟨j2,b,z2,s2,e2,g2,g3,g4,g5,g6,g7,g8,g9⟩:=L9 (t:=t) (n:=n) (e:=cF) (st:=st) (s:=sK) rfl hz (show MC t n sK from⟨q.ht,q.hn,q.len,q.okw⟩) hb0 hf0
    have q2:=q.take hS hz g2 g3
    have hS2:(S.set i {st with sp:=b})[i]? =some {st with sp:=b} :=List.getElem?_set_self (pM hS)
    have q2:QL t n s2.xs LL (S.set i {st with sp:=b}):=by rw [g5];exact q2
    have hm2:HlM t n u no sh kd ky s2.xs:=by rw [g5];exact QL.hl hm (by omega)
    have hw2:aB s2.xs (aK t n u)=w1:=by rw [g5,bG (by unfold aK;omega)];exact hw1
    obtain⟨j,s',A,hj,g⟩:=HE (s:=s2) (w1:=w1) q2 hS2 hr (fun _=>by show b≠0;omega) hm2 hw2 ha1
    obtain⟨f1,f2,f3⟩:=xT sh kd ky b (dP LL sh ky)
    have Aq:=A.q
    rw [List.set_set]at Aq
    have g6':s2.c=s.c+3+j2:=by rw [g6];show s.c+1+1+1+(j2:Int)=_;omega
    refine⟨j+(j2+3),_,_,s',0,_,_,{q:=Aq,d:=A.d,hm:=A.hm,c:=by rw [A.c,g6'];omega,t:=A.t.trans g7,n:=A.n.trans g8,vr:=A.vr},by omega,fun lim hlim=>?_,.inr ⟨rfl,Prod.ext f1 f2,fun _=>⟨b0,hb0,hf0⟩,_,rfl,f3⟩⟩
    obtain⟨z,h⟩:=g {hpR (hpNF t n u no lim st).1 with rounds:=1,at':=4,found:=w1,sh:=sh,kd:=kd,ky:=ky} rfl rfl rfl rfl rfl rfl hlim
    refine⟨z,aB1 ((two lim).trans ?_) h⟩
    refine aCk (F:=C9 t n) (fun p:ENS×STS×MS=>(({hpR (hpNF t n u no lim st).1 with rounds:=1,at':=4,found:=w1,sh:=sh,kd:=kd,ky:=ky,en:=p.1} :HPS),p.2.1,p.2.2)) (fun a c hac=>fZ (TM (x:= {hpR (hpNF t n u no lim st).1 with rounds:=1,at':=4,found:=w1,sh:=sh,kd:=kd,ky:=ky,en:=a.1}) rfl (qE hac))) e2 (fun c hc=>?_)
    have e:=NH (t:=t) (n:=n) (x:= {hpR (hpNF t n u no lim st).1 with rounds:=1,at':=4,found:=w1,sh:=sh,kd:=kd,ky:=ky,en:=c.1}) (st:=c.2.1) (s:=c.2.2) rfl (qE hc)
    unfold hpG
    rw [e,show z2.sh=false from g4]
    rfl
   ·have hall: ∀x,1≤x∧x≤n→dO n s.xs x=true:=by
     intro x hx
     cases z:dO n s.xs x with
     | true=>rfl
     | false=>exact absurd ⟨x,hx,z⟩ hfree
    obtain⟨j2,z2,s2,e2,g1,g3,g4,g5,g6,g7⟩:=IK (t:=t) (n:=n) (e:=cF) (st:=st) (s:=sK) rfl hz hn.1 hall hR
    have g3':s2.xs=s.xs:=g3
    have hm2:HlM t n u no sh kd ky s2.xs:=by rw [g3'];exact hm
    have hw2:aB s2.xs (aK t n u)=w1:=by rw [g3'];exact hw1
    have hat:0≤att∧att<4096:=by
     have:=fS (x:=w1) (a:=0) (w:=12)
     rw [ha1]at this;simpa using this
    obtain⟨s',T,g⟩:=B9 (c:=4) (b:=false) (v:=0) ha1 hm2 hw2 (LR hat (by decide) (bif ieq 4 4 then 1 else 0) (by decide))
    have q2:QL t n s2.xs LL S:=by rw [g3'];exact q
    have qr:=q2.out (ys:=s'.xs) T.len (T.okw q2.okw) (fun a ha=>by
     by_cases h1:a=1
     ·rw [h1];exact T.a
     ·exact T.o a (by unfold aK;omega) h1)
    have g4':s2.c=s.c+3+j2:=by rw [g4];show s.c+1+1+1+(j2:Int)=_;omega
    refine⟨2+(j2+3),LL,st,s',1,false,0,{q:=by rw [CY hS];exact qr,d:=T.d,hm:=T.hm hm2 ⟨by decide,by omega⟩,c:=by rw [T.c,g4'];omega,t:=T.t.trans g5,n:=T.n.trans g6,vr:=by decide},by omega,fun lim hlim=>?_,.inl ⟨rfl,rfl,rfl,rfl,hlk,hall⟩⟩
    obtain⟨z,h⟩:=g {hpR (hpNF t n u no lim st).1 with rounds:=1,at':=6,found:=w1,sh:=sh,kd:=kd,ky:=ky,p:=⟨true,4,false,0,0,0,0,false,0⟩ } st rfl rfl rfl ⟨rfl,rfl,rfl⟩
    refine⟨z,aB1 ((two lim).trans ?_) h⟩
    refine aCk (F:=C9 t n) (fun p:ENS×STS×MS=>(({hpR (hpNF t n u no lim st).1 with rounds:=1,at':=4,found:=w1,sh:=sh,kd:=kd,ky:=ky,en:=p.1} :HPS),p.2.1,p.2.2)) (fun a c hac=>fZ (TM (x:= {hpR (hpNF t n u no lim st).1 with rounds:=1,at':=4,found:=w1,sh:=sh,kd:=kd,ky:=ky,en:=a.1}) rfl (qE hac))) e2 (fun c hc=>?_)
    have e:=NH (t:=t) (n:=n) (x:= {hpR (hpNF t n u no lim st).1 with rounds:=1,at':=4,found:=w1,sh:=sh,kd:=kd,ky:=ky,en:=c.1}) (st:=c.2.1) (s:=c.2.2) rfl (qE hc)
    unfold hpG
    rw [e,show z2.sh=true from g1]
    rfl
def UM(LL:List (List Nd)):Prop:= ∀L∈LL,∀b∈L,b.m=false
theorem UM.set{LL:List (List Nd)}(h:UM LL){i:Nat}{L:List Nd}(hL: ∀b∈L,b.m=false):UM (LL.set i L):=by
 intro M hM
 rcases List.mem_or_eq_of_mem_set hM with e | e
 ·exact h M e
 ·rw [e];exact hL
theorem UM.at{LL:List (List Nd)}(h:UM LL){i:Nat}{L:List Nd}(hL:LL[i]? =some L): ∀b∈L,b.m=false:=h L (List.mem_of_getElem? hL)
abbrev cntA(t n:Int):Int:=2*n+5+2*t+3*t
theorem aAd(t n u b:Int)(s:MS)(f:Int):anF t n ⟨0,u,0,b,false,f⟩ s=⟨false,⟨0,u,1,b,false,f⟩,s.stored (bI t n u) b⟩:=by
 unfold anF K9
 rfl
theorem aAe(t n u b:Int)(s:MS)(f:Int):anF t n ⟨0,u,1,b,false,f⟩ s=⟨false,⟨WU (aB s.xs (cntA t n)+1),u,2,b,false,f⟩,s.added (cntA t n) 1⟩:=by
 unfold anF K9
 rfl
theorem aAf(t n u b no:Int)(s:MS)(f:Int):anF t n ⟨no,u,2,b,false,f⟩ s=⟨false,⟨no,u,3,b,false,f⟩,s.stored (bK t n u) no⟩:=by
 unfold anF K9
 rfl
theorem aAg(t n u b no:Int)(s:MS)(f:Int):anF t n ⟨no,u,3,b,false,f⟩ s=⟨false,⟨no,u,4,b,false,aB s.xs (aK t n u)⟩,s.loadd (aK t n u)⟩:=by
 unfold anF K9
 rfl
theorem aAh(t n u b no f:Int)(s:MS)(hd:dOk (eO (aA f 0 12)) 0 0 0 1 0=true):anF t n ⟨no,u,4,b,false,f⟩ s=⟨true,⟨no,u,5,b,false,f⟩,s.stored (aK t n u) (aY (eO (aA f 0 12)) 0 0 0 false 1 0)⟩:=by
 unfold anF K9
 show(uU t n ⟨no,u,4,b,false,f⟩ s).val =_
 unfold uU
 simp only [Tr.val,cond_false,hd,cond_true]
 rfl
theorem ZS{sh kd ky:Int}(hr:bX sh kd ky=true):TW sh kd ky (tskV sh kd ky)∧(0≤tskV sh kd ky∧tskV sh kd ky≤18446744073709551615):=by
 have hk:=eN.1 hr
 have e1:aA (tskV sh kd ky) 0 3=sh:=by
  unfold tskV aA
  simp only [Int.reduceToNat,Int.reducePow]
  omega
 have e2:aA (tskV sh kd ky) 3 3=kd:=by
  unfold tskV aA
  simp only [Int.reduceToNat,Int.reducePow]
  omega
 have e3:aA (tskV sh kd ky) 6 10=ky:=by
  unfold tskV aA
  simp only [Int.reduceToNat,Int.reducePow]
  omega
 refine⟨⟨?_,e1,e2,e3⟩,?_⟩
 ·unfold gX
  rw [e1,e2,e3,hr,bS,decide_eq_true (by unfold tskV;omega)];rfl
 ·unfold tskV;omega
structure AnA (t n u sh kd ky:Int) (s s':MS):Prop where
 hm:HlM t n u 1 sh kd ky s'.xs
 d:aB s'.xs (aK t n u)=aY 1 0 0 0 false 1 0
 lo: ∀a,a<2*n+5+2*t→aB s'.xs a=aB s.xs a
 len:s'.xs.length=s.xs.length
 okw:okW s.xs→okW s'.xs
 c:s'.c=s.c+5
 t:s'.t=s.t
 n:s'.n=s.n
theorem LA{t n u sh kd ky:Int}{s:MS}(hr:bX sh kd ky=true)(hu:0≤u∧u<t)(ht:t≤30)(hn:1≤n∧n≤500)(len:(s.xs.length:Int)=2*n+5*t+6)(hw:okW s.xs)(hc:0≤s.c∧s.c≤800000)(z1:aB s.xs (cntA t n)=0)(z2:aB s.xs (aK t n u)=0):
 gC t n 9 (anNF t n u sh kd ky) s∧ ∃y s',dJ t n 9 (anNF t n u sh kd ky) s=(5,true,y,s')∧y.no=1∧AnA t n u sh kd ky s s':=by
 obtain⟨w1,w2⟩:=ZS hr
 have e0:anNF t n u sh kd ky=⟨0,u,0,tskV sh kd ky,false,0⟩:=by
  unfold anNF PR
  simp only [Tr.val,hr,cond_true]
  rfl
 rw [e0]
 generalize hb:tskV sh kd ky=b at*
 have hkd:aK t n u≠bI t n u:=by unfold aK bI;omega
 have hct:cntA t n≠bI t n u:=by unfold cntA bI;omega
 have hdc:aK t n u≠cntA t n:=by unfold cntA aK;omega
 have hdt:aK t n u≠bK t n u:=by unfold aK bK;omega
 have htk:bK t n u≠bI t n u:=by unfold bI bK;omega
 have htc:bI t n u≠cntA t n:=by unfold bI cntA;omega
 have iK:0≤bI t n u∧bI t n u<s.xs.length:=by unfold bI;omega
 have iT:0≤bK t n u∧bK t n u<s.xs.length:=by unfold bK;omega
 have iD:0≤aK t n u∧aK t n u<s.xs.length:=by unfold aK;omega
 let s1:MS:=s.stored (bI t n u) b
 let s2:MS:=s1.added (cntA t n) 1
 let s3:MS:=s2.stored (bK t n u) 1
 let s4:MS:=s3.loadd (aK t n u)
 let s5:MS:=s4.stored (aK t n u) (aY 1 0 0 0 false 1 0)
 have p1:aB s1.xs (cntA t n)=0:=by show aB (aJ s.xs (bI t n u) b) _=0;rw [bG hct];exact z1
 have x2:s2.xs=aJ (aJ s.xs (bI t n u) b) (cntA t n) 1:=by
  show aJ s1.xs (cntA t n) (IntKind.wrap .u64 (aB s1.xs (cntA t n)+1))=_
  rw [p1];rfl
 have x3:s3.xs=aJ (aJ (aJ s.xs (bI t n u) b) (cntA t n) 1) (bK t n u) 1:=by show aJ s2.xs _ _=_;rw [x2]
 have hD4:aB s4.xs (aK t n u)=0:=by
  show aB s3.xs _=0
  rw [x3,bG hdt,bG hdc,bG hkd];exact z2
 have x5:s5.xs=aJ (aJ (aJ (aJ s.xs (bI t n u) b) (cntA t n) 1) (bK t n u) 1) (aK t n u) (aY 1 0 0 0 false 1 0):=by show aJ s3.xs _ _=_;rw [x3]
 have hdk:dOk (eO (aA 0 0 12)) 0 0 0 1 0=true:=by decide
 have f0:=aAd t n u b s 0
 have f1:=aAe t n u b s1 0
 rw [p1]at f1
 have f1:anF t n ⟨0,u,1,b,false,0⟩ s1=⟨false,⟨1,u,2,b,false,0⟩,s2⟩:=f1
 have f2:anF t n ⟨1,u,2,b,false,0⟩ s2=⟨false,⟨1,u,3,b,false,0⟩,s3⟩:=aAf t n u b 1 s2 0
 have f3:=aAg t n u b 1 s3 0
 have f3:anF t n ⟨1,u,3,b,false,0⟩ s3=⟨false,⟨1,u,4,b,false,aB s4.xs (aK t n u)⟩,s4⟩:=f3
 rw [hD4]at f3
 have f4:anF t n ⟨1,u,4,b,false,0⟩ s4=⟨true,⟨1,u,5,b,false,0⟩,s5⟩:=aAh t n u b 1 0 s4 hdk
 have r1:0≤(1:Int)∧(1:Int)≤18446744073709551615:=by decide
 have o1:okW s1.xs:=dQ hw w2
 have o2:okW s2.xs:=by rw [x2];exact dQ o1 r1
 have o3:okW s3.xs:=by rw [x3];rw [x2]at o2;exact dQ o2 r1
 have bnd: ∀(q:MS) (k:Int),q.c=s.c+k→0≤k∧k≤10→okW q.xs→tU t n q:=fun q k h1 h2 h3=>⟨⟨by omega,by omega⟩,⟨hn.1,by omega⟩,⟨by omega,by omega⟩,h3⟩
 have aw: ∀(no at' f:Int),(at'=0∨at'=1∨at'=2∨at'=3∨at'=4)→0≤no∧no≤1→ZY t ⟨no,u,at',b,false,f⟩:=fun no a f h1 h2=>⟨h1,⟨hu.1,by show u≤1000;omega⟩,⟨w2.1,w2.2⟩,⟨h2.1,by show no≤18446744073709551615;omega⟩⟩
 constructor
 ·rw [jH,f0]
  refine⟨uV (bnd s 0 (by omega) (by decide) hw) (aw 0 0 0 (.inl rfl) (by decide)),fun _=>?_⟩
  show gC t n 8 ⟨0,u,1,b,false,0⟩ s1
  rw [jH,f1]
  refine⟨uV (bnd s1 1 rfl (by decide) o1) (aw 0 1 0 (by omega) (by decide)),fun _=>?_⟩
  show gC t n 7 ⟨1,u,2,b,false,0⟩ s2
  rw [jH,f2]
  refine⟨uV (bnd s2 2 (by show s.c+1+1=_;omega) (by decide) o2) (aw 1 2 0 (by omega) (by decide)),fun _=>?_⟩
  show gC t n 6 ⟨1,u,3,b,false,0⟩ s3
  rw [jH,f3]
  refine⟨uV (bnd s3 3 (by show s.c+1+1+1=_;omega) (by decide) o3) (aw 1 3 0 (by omega) (by decide)),fun _=>?_⟩
  show gC t n 5 ⟨1,u,4,b,false,0⟩ s4
  rw [jH,f4]
  exact⟨uV (bnd s4 4 (by show s.c+1+1+1+1=_;omega) (by decide) o3) (aw 1 4 0 (by omega) (by decide)),fun h=>by cases h⟩
 ·refine⟨⟨1,u,5,b,false,0⟩,s5,?_,rfl,{hm:=⟨?_,?_,⟨hu.1,hu.2,by omega⟩,hn,by rw [x5];simp only [bO];exact len⟩,d:=by rw [x5,dC (by simp only [bO];exact iD)],lo:=fun a ha=>?_,len:=by rw [x5];simp only [bO],okw:=fun _=>by rw [x5];rw [x3]at o3;exact dQ o3 (m7 (by decide)),c:=by show s.c+1+1+1+1+1=_;omega,t:=rfl,n:=rfl}⟩
  ·rw [oE,f0]
   show((dJ t n 8 ⟨0,u,1,b,false,0⟩ s1).1+1,(dJ t n 8 ⟨0,u,1,b,false,0⟩ s1).2)=_
   rw [oE,f1]
   show((dJ t n 7 ⟨1,u,2,b,false,0⟩ s2).1+1+1,(dJ t n 7 ⟨1,u,2,b,false,0⟩ s2).2)=_
   rw [oE,f2]
   show((dJ t n 6 ⟨1,u,3,b,false,0⟩ s3).1+1+1+1,(dJ t n 6 ⟨1,u,3,b,false,0⟩ s3).2)=_
   rw [oE,f3]
   show((dJ t n 5 ⟨1,u,4,b,false,0⟩ s4).1+1+1+1+1,(dJ t n 5 ⟨1,u,4,b,false,0⟩ s4).2)=_
   rw [oE,f4]
   rfl
  ·rw [x5,bG (Ne.symm hdt),dC (by simp only [bO];exact iT)]
  ·rw [x5,bG (Ne.symm hkd),bG (Ne.symm htk),bG htc,dC iK];exact w1
  ·rw [x5,bG (by unfold aK;omega),bG (by unfold bK;omega),bG (by unfold cntA;omega),bG (by unfold bI;omega)]
theorem HA{t n:Int}{a:HPS×STS×MS}{d:Bool}{b:HPS×STS×MS}(h:hpG t n a=(d,b)):(hpF t n a.1 a.2.1 a.2.2).d =d∧((hpF t n a.1 a.2.1 a.2.2).x,(hpF t n a.1 a.2.1 a.2.2).st,(hpF t n a.1 a.2.1 a.2.2).s)=b:=by
 unfold hpG at h
 rw [pI']at h
 exact h
theorem xZ{t n:Int}{z:HPS×STS×MS} : ∀(i:Nat) (a c:HPS×STS×MS) (b:Int) (N:Nat),Go1 (hpG t n) i a c→hpG t n c=(true,z)→i+1≤N→tU t n a.2.2→a.2.2.c+i+1≤900000→X7 t n b a.2.1 a.1→stW b a.2.1→b+i+1≤900000→
 l9 t n N a.1 a.2.1 a.2.2∧cX t n N a.1 a.2.1 a.2.2=(i+1,true,z)
 | 0,a,c,b,N+1,h,hz,hN,hb,hc,hx,hst,hbb=>by
   cases h
   obtain⟨h1,h2⟩:=HA hz
   have ok:=NJ hb hx hst (by omega)
   refine⟨⟨ok,fun q=>by rw [h1]at q;cases q⟩,?_⟩
   rw [zU,h1,cond_true,←h2]
 | i+1,a,c,b,N+1,h,hz,hN,hb,hc,hx,hst,hbb=>by
   cases h with
   | cons e g=>
     obtain⟨h1,h2⟩:=HA e
     have ok:=NJ hb hx hst (by omega)
     have wv:=WM hb hx hst (by omega)
     have hb':=wv.a.bnd hb (by omega)
     have ih:=xZ i _ c (b+1) N g hz (by omega) (by rw [←h2];exact hb') (by rw [←h2];show(hpF t n a.1 a.2.1 a.2.2).s.c +_+_≤_;rw [wv.a.c];omega) (by rw [←h2];exact wv.w h1) (by rw [←h2];exact wv.st) (by omega)
     rw [←h2]at ih
     refine⟨⟨ok,fun _=>ih.1⟩,?_⟩
     rw [zU,h1,cond_false,ih.2]
 | i,a,c,b,0,h,hz,hN,hb,hc,hx,hst,hbb=>by omega
theorem TQ{n:Int}{xs:List Int} : ∀(L:List Nd) (a:Int) (k:Nat) (out:List Int),ch n xs a L→(L.map Nd.a).Nodup →(∀b∈L.map Nd.a,b∉out)→L.length<k→R1 xs n k (nxW (aB xs a)) out=out++L.map Nd.a
 | [],a,k+1,out,h,_,_,_=>by
   have h:nxW (aB xs a)=0:=h
   show(bif bQ n (nxW (aB xs a))then _ else out)=_
   have:bQ n (nxW (aB xs a))=false:=by
    rw [h];unfold bQ;rw [cE];rfl
   rw [this];simp
 | b::L,a,k+1,out,h,nd,ho,hk=>by
   obtain⟨h1,h2,h3,h4,h5,h6⟩:=h
   have nd:=List.nodup_cons.1 nd
   show(bif bQ n (nxW (aB xs a))then bif !hasB out (nxW (aB xs a))then R1 xs n k (nxW (aB xs (nxW (aB xs a)))) (out++ [nxW (aB xs a)])else out else out)=_
   rw [h1,vY.2 h2]
   have hb:hasB out b.a=false:=by
    cases q:hasB out b.a with
    | false=>rfl
    | true=>exact absurd (xY.1 q) (ho b.a (by simp))
   rw [hb]
   simp only [Bool.not_false,cond_true]
   rw [TQ L b.a k (out++ [b.a]) h6 nd.2 (fun c hc hh=>?_) (by simpa using hk)]
   ·simp
   ·rcases List.mem_append.1 hh with e | e
    ·exact ho c (by rw [List.map_cons];exact List.mem_cons_of_mem _ hc) e
    ·rw [List.mem_singleton.1 e]at hc;exact nd.1 hc
theorem NZ{t n:Int}{xs:List Int}{LL:List (List Nd)}{S:List STS}(q:QL t n xs LL S){h:Nat}{L:List Nd}(hL:LL[h]? =some L):ndF xs n h=L.map Nd.a:=by
 obtain⟨d1,d2,_⟩:=jB q hL
 have hn:=q.hn
 have:=j9 (by omega) d1 d2
 rw [List.length_map]at this
 unfold ndF
 have:=TQ L (n+1+h) (n.toNat+1) [] (q.hd h L hL).1 d1 (fun _ _ h=>by cases h) (by omega)
 simpa using this
theorem CC{n:Int}{xs:List Int} : ∀(L:List Nd) (a:Int),ch n xs a L→kyL xs (L.map Nd.a)=uk L
 | [],a,_=>rfl
 | b::L,a,h=>by
   obtain⟨h1,h2,h3,h4,h5,h6⟩:=h
   have ih:=CC L b.a h6
   have h4:ieq (aA (aB xs b.a) 19 1) 1=b.m:=h4
   have h3:aA (aB xs b.a) 0 10=b.k:=h3
   rw [tT,←ih]
   unfold kyL
   rw [List.map_cons,List.filter_cons,h4]
   cases b.m
   ·simp [h3]
   ·simp
theorem uA{t n:Int}{xs:List Int}{LL:List (List Nd)}{S:List STS}(q:QL t n xs LL S){h:Nat}{L:List Nd}(hL:LL[h]? =some L):tR xs n h=uk L:=by
 unfold tR
 rw [NZ q hL]
 exact CC L _ (q.hd h L hL).1
theorem Z9{x:Int}(h:0≤x∧x≤1000000):W x=x:=cU ⟨by omega,by omega⟩
theorem LN: ∀(ks:List Int) (m:List (Int×Int)),ks.Nodup→(∀k∈ks,mget m k=none)→(∀k v,mget m k=some v→v=1)→ ∀k,mget (mM ks m) k=if k∈ks then some 1 else mget m k
 | [],m,_,_,_,k=>by simp [mM]
 | a::ks,m,hn,h0,h1,k=>by
   have hn:=List.nodup_cons.1 hn
   have ha:=h0 a (List.mem_cons_self ..)
   have hv:W ((mget m a).getD 0+1)=1:=by rw [ha];exact Z9 ⟨by decide,by decide⟩
   show mget (mM ks (dN m a (W ((mget m a).getD 0+1)))) k=_
   rw [hv]
   rw [LN ks (dN m a 1) hn.2 (fun b hb=>by
    rw [sJ,if_neg (by rintro rfl;exact hn.1 hb)];exact h0 b (List.mem_cons_of_mem _ hb)) (fun b v hv=>by
    rw [sJ]at hv
    split at hv
    ·cases hv;rfl
    ·exact h1 b v hv) k,sJ]
   by_cases e:k∈ks
   ·rw [if_pos e,if_pos (List.mem_cons_of_mem _ e)]
   ·rw [if_neg e]
    by_cases e2:k=a
    ·rw [if_pos e2,if_pos (by rw [e2];exact List.mem_cons_self ..)]
    ·rw [if_neg e2,if_neg (fun h=>(List.mem_cons.1 h).elim e2 e)]
theorem zE(a b:List Int): ∀m,mM (a++b) m=mM b (mM a m):=by
 induction a with
 | nil=>intro m;rfl
 | cons x a ih=>intro m;exact ih _
theorem OO{m:List (Int×Int)}{p:Int→Bool}(hm: ∀k,mget m k=if p k=true then some 1 else none): ∀n,CS m n=((List.range n).map fun i:Nat=>(i:Int)).filter p
 | 0=>rfl
 | n+1=>by
   show CS m n++_=_
   rw [OO hm n,List.range_succ,List.map_append,List.filter_append,hm]
   congr 1
   cases q:p (n:Int)with
   | true=>simp [q]
   | false=>simp [q]
theorem XJ{m:List (Int×Int)}{p:Int→Bool}{N:Nat}(hm: ∀k,mget m k=if p k=true then some 1 else none)(hN:N=1000+24)(hout: ∀k:Int,999<k→p k=false):CS m N=((List.range 1000).map fun i:Nat=>(i:Int)).filter p:=by
 subst hN
 have e24:List.range (1000+24)=List.range 1000++(List.range 24).map (1000+ ·):=List.range_add
 rw [OO hm (1000+24),e24,List.map_append,List.filter_append]
 have t1:(((List.range 24).map (1000+ ·)).map fun i:Nat=>(i:Int)).filter p=[]:=by
  refine List.filter_eq_nil_iff.2 (fun k hk=>?_)
  obtain⟨i,hi,rfl⟩:=List.mem_map.1 hk
  obtain⟨j,hj,rfl⟩:=List.mem_map.1 hi
  rw [hout _ (by omega)];decide
 rw [t1,List.append_nil]
theorem lV{u:List Int}(h:Srt u):u.Nodup:=by
 rw [List.nodup_iff_pairwise_ne]
 exact List.Pairwise.imp (fun {a b} h=>by omega) h
theorem MY{LL:List (List Nd)}(h:LL.length=4): ∃A B C D,LL=[A,B,C,D]:=by
 match LL,h with
 | [A,B,C,D],_=>exact⟨A,B,C,D,rfl⟩
theorem CB{t n:Int}{xs:List Int}{LL:List (List Nd)}{S:List STS}{sh:Int}{f g:Nat→Int}{m:Nat}(q:QL t n xs LL S)(r:Rp sh LL f g m):zY xs n sh=bB sh f g m:=by
 obtain⟨A,B,C,D,rfl⟩:=MY q.four
 have k0:=uA q (h:=0) (L:=A) rfl
 have k1:=uA q (h:=1) (L:=B) rfl
 have k2:=uA q (h:=2) (L:=C) rfl
 have k3:=uA q (h:=3) (L:=D) rfl
 unfold zY
 rcases r with⟨hs,r⟩ | ⟨hs,r⟩
 ·have hl:ilt 2 sh=false:=by rw [bS];exact decide_eq_false (by omega)
  rw [hl,cond_false]
  have e:cntM xs n=mM (uk A++(uk B++(uk C++uk D))) []:=by
   unfold cntM
   rw [show tR xs n 3=uk D from k3,show tR xs n 2=uk C from k2,show tR xs n 1=uk B from k1,show tR xs n 0=uk A from k0,zE,zE,zE]
  have rA:=r.rng 0 A rfl
  have rB:=r.rng 1 B rfl
  have rC:=r.rng 2 C rfl
  have rD:=r.rng 3 D rfl
  have nd:(uk A++(uk B++(uk C++uk D))).Nodup :=by
   refine List.nodup_append.2 ⟨lV (r.srt 0 A rfl),List.nodup_append.2 ⟨lV (r.srt 1 B rfl),List.nodup_append.2 ⟨lV (r.srt 2 C rfl),lV (r.srt 3 D rfl),?_⟩,?_⟩,?_⟩
   ·rintro a ha b hb rfl
    have:=(rC a ha).2;have:=(rD a hb).2;omega
   ·rintro a ha b hb rfl
    have h1:=(rB a ha).2
    rcases List.mem_append.1 hb with h | h
    ·have:=(rC a h).2;omega
    ·have:=(rD a h).2;omega
   ·rintro a ha b hb rfl
    have h1:=(rA a ha).2
    rcases List.mem_append.1 hb with h | h
    ·have:=(rB a h).2;omega
    ·rcases List.mem_append.1 h with h | h
     ·have:=(rC a h).2;omega
     ·have:=(rD a h).2;omega
  have hm: ∀k,mget (cntM xs n) k=if decide (k∈uk A++(uk B++(uk C++uk D)))=true then some 1 else none:=by
   intro k
   rw [e,LN _ [] nd (fun _ _=>rfl) (fun _ _ h=>by cases h) k]
   simp only [dT']
   rfl
  have hin: ∀k:Int,0≤k→k≤999→(decide (k∈uk A++(uk B++(uk C++uk D))))=inF f g k m:=by
   intro k h0 h9
   have hb:=gE sh k
   have key:k∈uk A++(uk B++(uk C++uk D))↔inF f g k m=true:=by
    simp only [List.mem_append]
    have hc:(cJ sh k).toNat =0∨(cJ sh k).toNat =1∨(cJ sh k).toNat =2∨(cJ sh k).toNat =3:=by omega
    constructor
    ·rintro(h | h | h | h)
     ·exact(r.mem 0 A rfl k h0 h9 (rA k h).2).1 h
     ·exact(r.mem 1 B rfl k h0 h9 (rB k h).2).1 h
     ·exact(r.mem 2 C rfl k h0 h9 (rC k h).2).1 h
     ·exact(r.mem 3 D rfl k h0 h9 (rD k h).2).1 h
    ·intro h
     rcases hc with e | e | e | e
     ·exact .inl ((r.mem 0 A rfl k h0 h9 e).2 h)
     ·exact .inr (.inl ((r.mem 1 B rfl k h0 h9 e).2 h))
     ·exact .inr (.inr (.inl ((r.mem 2 C rfl k h0 h9 e).2 h)))
     ·exact .inr (.inr (.inr ((r.mem 3 D rfl k h0 h9 e).2 h)))
   cases z:inF f g k m with
   | true=>exact decide_eq_true (key.2 z)
   | false=>exact decide_eq_false (fun h=>by rw [key.1 h]at z;cases z)
  have hout: ∀k:Int,999<k→decide (k∈uk A++(uk B++(uk C++uk D)))=false:=by
   intro k hk
   refine decide_eq_false (fun h=>?_)
   simp only [List.mem_append]at h
   rcases h with h | h | h | h
   ·have:=(rA k h).1;omega
   ·have:=(rB k h).1;omega
   ·have:=(rC k h).1;omega
   ·have:=(rD k h).1;omega
  rw [XJ hm (N:=1024) rfl hout]
  have hR:bB sh f g m=setF f g m:=by
   unfold bB
   rw [dW (show sh≠3 by omega),dW (show sh≠4 by omega),cond_false,cond_false]
  rw [hR]
  unfold setF
  refine List.filter_congr (fun k hk=>?_)
  obtain⟨i,hi,rfl⟩:=List.mem_map.1 hk
  exact hin _ (by omega) (by have:=List.mem_range.1 hi;omega)
 ·have hl:ilt 2 sh=true:=by rw [bS];exact decide_eq_true (by omega)
  rw [hl,cond_true]
  exact(show tR xs n 0=uk A from k0).trans r.eq
def selF(sh h:Int):Int→List Int→List Nd
 | _,[]=>[]
 | i,k::ks=>bif dV sh h k then selF sh h (i+1) ks else⟨i+1,k,false⟩::selF sh h (i+1) ks
theorem nV{sh h k:Int}(i:Int)(ks:List Int)(e:dV sh h k=true):selF sh h i (k::ks)=selF sh h (i+1) ks:=by
 show(bif dV sh h k then _ else _)=_
 rw [e];rfl
theorem nW{sh h k:Int}(i:Int)(ks:List Int)(e:dV sh h k=false):selF sh h i (k::ks)=⟨i+1,k,false⟩::selF sh h (i+1) ks:=by
 show(bif dV sh h k then _ else _)=_
 rw [e];rfl
theorem AH(sh h:Int): ∀(xs:List Int) (i:Int),∀b∈selF sh h i xs,i+1≤b.a∧b.a≤i+xs.length∧b.m=false
 | [],i,b,hb=>by cases hb
 | k::ks,i,b,hb=>by
   have ih:=AH sh h ks (i+1)
   have hl:((k::ks).length :Int)=ks.length+1:=by simp
   cases e:dV sh h k with
   | true=>
     rw [nV i ks e]at hb
     obtain⟨a1,a2,a3⟩:=ih b hb
     exact⟨by omega,by omega,a3⟩
   | false=>
     rw [nW i ks e]at hb
     rcases List.mem_cons.1 hb with q | q
     ·rw [q];exact⟨Int.le_refl _,by show i+1≤_;omega,rfl⟩
     ·obtain⟨a1,a2,a3⟩:=ih b q
      exact⟨by omega,by omega,a3⟩
theorem rO(sh h:Int)(xs:List Int)(i:Int): ∀b∈(selF sh h i xs).map Nd.a,i+1≤b∧b≤i+xs.length:=by
 intro b hb
 obtain⟨c,hc,rfl⟩:=List.mem_map.1 hb
 have:=AH sh h xs i c hc
 omega
theorem sT(sh h:Int): ∀(xs:List Int) (i:Int),((selF sh h i xs).map Nd.a).Nodup
 | [],i=>List.nodup_nil
 | k::ks,i=>by
   cases e:dV sh h k with
   | true=>rw [nV i ks e];exact sT sh h ks (i+1)
   | false=>
     rw [nW i ks e,List.map_cons]
     refine List.nodup_cons.2 ⟨fun hb=>?_,sT sh h ks (i+1)⟩
     have:=rO sh h ks (i+1) _ hb
     have h2:i+1+1≤i+1:=this.1
     omega
theorem sU(sh h:Int): ∀(xs:List Int) (i:Int),uk (selF sh h i xs)=xs.filter fun k=>!dV sh h k
 | [],i=>rfl
 | k::ks,i=>by
   cases e:dV sh h k with
   | true=>rw [nV i ks e,sU sh h ks (i+1),List.filter_cons,e];rfl
   | false=>
     rw [nW i ks e,tT,sU sh h ks (i+1),List.filter_cons,e];rfl
theorem uG(sh h:Int): ∀(xs:List Int) (i b:Int),b∈(selF sh h i xs).map Nd.a↔ ∃j:Nat,∃k,xs[j]? =some k∧b=i+j+1∧dV sh h k=false
 | [],i,b=>by
   constructor
   ·intro h;cases h
   ·rintro⟨j,k,h1,_⟩;simp at h1
 | k::ks,i,b=>by
   have ih:=uG sh h ks (i+1) b
   have rest:(∃j:Nat,∃q,ks[j]? =some q∧b=i+1+j+1∧dV sh h q=false)→ ∃j:Nat,∃q,(k::ks)[j]? =some q∧b=i+j+1∧dV sh h q=false:=by
    rintro⟨j,q,h1,h2,h3⟩
    exact⟨j+1,q,by simpa using h1,by omega,h3⟩
   cases e:dV sh h k with
   | true=>
     rw [nV i ks e,ih]
     refine⟨rest,?_⟩
     rintro⟨j,q,h1,h2,h3⟩
     cases j with
     | zero=>
       have:k=q:=by simpa using h1
       rw [this,h3]at e;cases e
     | succ j=>exact⟨j,q,by simpa using h1,by omega,h3⟩
   | false=>
     rw [nW i ks e,List.map_cons,List.mem_cons,ih]
     constructor
     ·rintro(h1 | h1)
      ·exact⟨0,k,rfl,by rw [h1];show i+1=i+(0:Nat)+1;omega,e⟩
      ·exact rest h1
     ·rintro⟨j,q,h1,h2,h3⟩
      cases j with
      | zero=>left;rw [h2];show i+(0:Nat)+1=i+1;omega
      | succ j=>right;exact⟨j,q,by simpa using h1,by omega,h3⟩
structure Z6 (sh h n i a ky:Int) (xs:List Int) (s s':MS):Prop where
 len:s'.xs.length=s.xs.length
 okw:okW s'.xs
 tt:s'.t=s.t
 nn:s'.n=s.n
 c:s.c≤s'.c∧s'.c≤s.c+1+2*xs.length
 ch:ch n s'.xs a (selF sh h i xs)
 ky:kyW (aB s'.xs a)=ky
 mk1:mkW (aB s'.xs a)=false
 cl:clW' (aB s'.xs a)=0
 life: ∀b∈(selF sh h i xs).map Nd.a,aB s'.xs (n+4+b)=1
 same: ∀x,x≠a→(∀b∈(selF sh h i xs).map Nd.a,x≠b∧x≠n+4+b)→aB s'.xs x=aB s.xs x
theorem zR{sh h n:Int}(hn:1≤n∧n≤500): ∀(xs:List Int) (i a ky vr:Int) (s:MS),okW s.xs→2*n+5≤(s.xs.length:Int)→0≤i→i+xs.length≤n→1≤a∧(a≤i∨n+1≤a∧a≤n+4)→0≤ky∧ky<1024→0≤vr∧vr<262144→(∀k∈xs,0≤k∧k<1024)→
 Z6 sh h n i a ky xs s (fF sh h n xs i a ky vr s)
 | [],i,a,ky,vr,s,okw,hlen,hi,hin,ha,hk,hv,_=>by
   have ok:okF ky 0 0 vr:=⟨hk,by omega,by omega,hv⟩
   have hb:0≤a∧a<s.xs.length:=by omega
   have e:aB (s.stored a (aT ky 0 false 0 vr)).xs a=aT ky 0 false 0 vr:=dC hb
   refine {len:=bO _ _ _,okw:=dQ okw (iC ok),tt:=rfl,nn:=rfl,c:=⟨?_,?_⟩,ch:=?_,ky:=?_,mk1:=?_,cl:=?_,life:=(fun b hb=>by cases hb),same:=fun x hx _=>bG hx}
   ·show s.c≤s.c+1;omega
   ·show s.c+1≤s.c+1+2*(([]:List Int).length :Int);simp
   ·show nxW (aB (s.stored a (aT ky 0 false 0 vr)).xs a)=0
    rw [e];exact qA ok
   ·show kyW (aB (s.stored a (aT ky 0 false 0 vr)).xs a)=ky
    rw [e];exact s9 ok
   ·show mkW (aB (s.stored a (aT ky 0 false 0 vr)).xs a)=false
    rw [e];exact mZ ok
   ·show clW' (aB (s.stored a (aT ky 0 false 0 vr)).xs a)=0
    rw [e];exact mY ok
 | k::ks,i,a,ky,vr,s,okw,hlen,hi,hin,ha,hk,hv,hks=>by
   have hl:((k::ks).length :Int)=ks.length+1:=by simp
   have hks2: ∀q∈ks,0≤q∧q<1024:=fun q hq=>hks q (List.mem_cons_of_mem _ hq)
   have hk2:=hks k (List.mem_cons_self ..)
   cases e:dV sh h k with
   | true=>
     have es:fF sh h n (k::ks) i a ky vr s=fF sh h n ks (i+1) a ky vr s:=by show cond _ _ _=_;rw [e];rfl
     have ih:=zR (sh:=sh) (h:=h) hn ks (i+1) a ky vr s okw hlen (by omega) (by omega) (by omega) hk hv hks2
     rw [es]
     have e2:=nV i ks e
     exact {len:=ih.len,okw:=ih.okw,tt:=ih.tt,nn:=ih.nn,c:=⟨ih.c.1,by have:=ih.c.2;omega⟩,ch:=by rw [e2];exact ih.ch,ky:=ih.ky,mk1:=ih.mk1,cl:=ih.cl,life:=by rw [e2];exact ih.life,same:=by rw [e2];exact ih.same}
   | false=>
     have es:fF sh h n (k::ks) i a ky vr s=fF sh h n ks (i+1) (i+1) k 3 ((s.stored a (aT ky (i+1) false 0 vr)).stored (n+4+(i+1)) 1):=by show cond _ _ _=_;rw [e];rfl
     have ok:okF ky (i+1) 0 vr:=⟨hk,by omega,by omega,hv⟩
     let s1:=(s.stored a (aT ky (i+1) false 0 vr)).stored (n+4+(i+1)) 1
     have hl1:s1.xs.length=s.xs.length:=(bO _ _ _).trans (bO _ _ _)
     have okw1:okW s1.xs:=dQ (dQ okw (iC ok)) (by omega)
     have ih:=zR (sh:=sh) (h:=h) hn ks (i+1) (i+1) k 3 s1 okw1 (by rw [hl1];exact hlen) (by omega) (by omega) (by omega) hk2 (by omega) hks2
     have hin1:0≤a∧a<s.xs.length:=by omega
     have hin2:0≤n+4+(i+1)∧n+4+(i+1)<(s.stored a (aT ky (i+1) false 0 vr)).xs.length :=by
      have:(s.stored a (aT ky (i+1) false 0 vr)).xs.length =s.xs.length:=bO _ _ _
      rw [this];omega
     have p1: ∀x,x≠a→x≠n+4+(i+1)→aB s1.xs x=aB s.xs x:=fun x h1 h2=>(bG h2).trans (bG h1)
     have pa:aB s1.xs a=aT ky (i+1) false 0 vr:=(bG (by omega)).trans (dC hin1)
     have pl:aB s1.xs (n+4+(i+1))=1:=dC hin2
     have hsel:=rO sh h ks (i+1)
     have fa:aB (fF sh h n ks (i+1) (i+1) k 3 s1).xs a=aT ky (i+1) false 0 vr:=by
      rw [ih.same a (by omega) (fun b hb=>by have:=hsel b hb;omega)];exact pa
     have e2:=nW i ks e
     rw [es]
     refine {len:=ih.len.trans hl1,okw:=ih.okw,tt:=ih.tt,nn:=ih.nn,c:=?_,ch:=?_,ky:=?_,mk1:=?_,cl:=?_,life:=?_,same:=?_ }
     ·obtain⟨c1,c2⟩:=ih.c
      have ec:s1.c=s.c+1+1:=rfl
      rw [ec]at c1 c2
      exact⟨Int.le_trans (by omega) c1,Int.le_trans c2 (by omega)⟩
     ·rw [e2]
      refine⟨?_,?_,ih.ky,ih.mk1,ih.cl,ih.ch⟩
      ·rw [fa];exact qA ok
      ·show 1≤i+1∧i+1≤n;omega
     ·rw [fa];exact s9 ok
     ·rw [fa];exact mZ ok
     ·rw [fa];exact mY ok
     ·rw [e2]
      intro b hb
      rw [List.map_cons]at hb
      rcases List.mem_cons.1 hb with q | q
      ·have q:b=i+1:=q
       rw [q,ih.same (n+4+(i+1)) (by omega) (fun c hc=>by have:=hsel c hc;omega)]
       exact pl
      ·exact ih.life b q
     ·rw [e2]
      intro x h1 h2
      have h3:=h2 (i+1) (by rw [List.map_cons];exact List.mem_cons_self ..)
      rw [ih.same x h3.1 (fun b hb=>h2 b (by rw [List.map_cons];exact List.mem_cons_of_mem _ hb))]
      exact p1 x h1 h3.2
theorem OX{sh h h' k:Int}(h0:0≤h)(h1:0≤h')(e:dV sh h k=false)(e':dV sh h' k=false):h=h':=by
 unfold dV at e e'
 cases q:ieq sh 2 with
 | true=>
   rw [q]at e e'
   simp only [cond_true,Bool.not_eq_false',b9,beq_iff_eq]at e e'
   omega
 | false=>
   rw [q]at e e'
   simp only [cond_false,bS,dF']at e e'
   omega
theorem HW{sh h h':Int}(h0:0≤h)(h1:0≤h')(xs:List Int)(b:Int)(e:b∈(selF sh h 0 xs).map Nd.a)(e':b∈(selF sh h' 0 xs).map Nd.a):h=h':=by
 obtain⟨j,k,a1,a2,a3⟩:=(uG _ _ _ _ _).1 e
 obtain⟨j',k',b1,b2,b3⟩:=(uG _ _ _ _ _).1 e'
 have:j=j':=by omega
 subst this
 rw [a1]at b1
 cases b1
 exact OX h0 h1 a3 b3
structure FilH (sh t n:Int) (xs:List Int) (H:Nat) (s:MS):Prop where
 len:(s.xs.length:Int)=2*n+5*t+6
 okw:okW s.xs
 tt:s.t=t
 nn:s.n=n
 c:0≤s.c∧s.c≤H*(2*xs.length+1)
 hd: ∀h:Nat,h<H→ch n s.xs (n+1+h) (selF sh h 0 xs)∧mkW (aB s.xs (n+1+h))=false∧clW' (aB s.xs (n+1+h))=0
 life: ∀h:Nat,h<H→ ∀b∈(selF sh h 0 xs).map Nd.a,aB s.xs (n+4+b)=1
 zero: ∀x,(∀h:Nat,h<H→x≠n+1+h∧ ∀b∈(selF sh h 0 xs).map Nd.a,x≠b∧x≠n+4+b)→aB s.xs x=0
theorem N4(k:Nat)(a:Int):aB (List.replicate k 0) a=0:=by
 unfold aB
 split
 ·rw [gD']
  by_cases h:a.toNat<k
  ·rw [List.getElem?_replicate,if_pos h];rfl
  ·rw [List.getElem?_replicate,if_neg h];rfl
 ·rfl
theorem MM{sh t n:Int}(hn:1≤n∧n≤500)(ht:1≤t∧t≤1000)(xs:List Int):FilH sh t n xs 0 (memN t n):=by
 refine {len:=?_,okw:=?_,tt:=rfl,nn:=rfl,c:=⟨Int.le_refl 0,by simp [memN]⟩,hd:=(fun h hh=>by omega),life:=(fun h hh=>by omega),zero:=(fun x _=>N4 _ _) }
 ·show((List.replicate (2*n+5*t+6).toNat (0:Int)).length :Int)=_
  rw [List.length_replicate];omega
 ·refine⟨fun x hx=>?_⟩
  have:=List.eq_of_mem_replicate hx
  omega
theorem m9{sh t n:Int}(hn:1≤n∧n≤500)(ht:1≤t∧t≤1000){xs:List Int}(hx:(xs.length:Int)≤n)(hk: ∀k∈xs,0≤k∧k<1024){H:Nat}(hH:H<4){s:MS}(f:FilH sh t n xs H s):FilH sh t n xs (H+1) (fF sh H n xs 0 (n+1+H) 0 0 s):=by
 have flen:=f.len
 have g:=zR (sh:=sh) (h:=H) hn xs 0 (n+1+H) 0 0 s f.okw (by omega) (Int.le_refl 0) (by omega) (by omega) (by omega) (by omega) hk
 have hsel: ∀h:Nat,∀b∈(selF sh h 0 xs).map Nd.a,1≤b∧b≤n:=fun h b hb=>by have:=rO sh h xs 0 b hb;omega
 have hdis: ∀h:Nat,h<H→ ∀b∈(selF sh h 0 xs).map Nd.a,∀b'∈(selF sh H 0 xs).map Nd.a,b≠b':=by
  rintro h hh b hb b' hb' rfl
  have:=HW (sh:=sh) (h:=h) (h':=H) (by omega) (by omega) xs b hb hb'
  omega
 refine {len:=by rw [g.len];exact flen,okw:=g.okw,tt:=g.tt.trans f.tt,nn:=g.nn.trans f.nn,c:=?_,hd:=?_,life:=?_,zero:=?_ }
 ·have c1:=f.c
  have c2:=g.c
  refine⟨by omega,?_⟩
  have e:((H+1:Nat):Int)*(2*(xs.length:Int)+1)=(H:Int)*(2*xs.length+1)+(2*xs.length+1):=by
   rw [Int.natCast_add,Int.add_mul];simp
  rw [e];omega
 ·intro h hh
  by_cases e:h=H
  ·subst e;exact⟨g.ch,g.mk1,g.cl⟩
  ·obtain⟨a1,a2,a3⟩:=f.hd h (by omega)
   have eh:aB (fF sh H n xs 0 (n+1+H) 0 0 s).xs (n+1+h)=aB s.xs (n+1+h):=g.same _ (by omega) (fun b hb=>by have:=hsel H b hb;omega)
   refine⟨jQ a1 (fun b hb=>?_),by rw [eh];exact a2,by rw [eh];exact a3⟩
   rcases List.mem_cons.1 hb with q | q
   ·rw [q];exact eh
   ·have hb2:=hsel h b q
    exact g.same b (by omega) (fun b' hb'=>⟨hdis h (by omega) b q b' hb',by have:=hsel H b' hb';omega⟩)
 ·intro h hh b hb
  by_cases e:h=H
  ·subst e;exact g.life b hb
  ·have hb2:=hsel h b hb
   rw [g.same (n+4+b) (by omega) (fun b' hb'=>by
    have:=hsel H b' hb'
    have:=hdis h (by omega) b hb b' hb'
    omega)]
   exact f.life h (by omega) b hb
 ·intro x hz
  have z:=hz H (by omega)
  rw [g.same x z.1 z.2]
  exact f.zero x (fun h hh=>hz h (by omega))
def LLf(sh:Int)(xs:List Int):List (List Nd):=[selF sh 0 0 xs,selF sh 1 0 xs,selF sh 2 0 xs,selF sh 3 0 xs]
theorem oL{sh:Int}{xs:List Int}{h:Nat}{L:List Nd}(e:(LLf sh xs)[h]? =some L):h<4∧L=selF sh h 0 xs:=by
 match h,e with
 | 0,e=>cases e;exact⟨by omega,rfl⟩
 | 1,e=>cases e;exact⟨by omega,rfl⟩
 | 2,e=>cases e;exact⟨by omega,rfl⟩
 | 3,e=>cases e;exact⟨by omega,rfl⟩
 | h+4,e=>simp [LLf]at e
theorem uC(sh:Int)(xs:List Int)(b:Int):b∈(LLf sh xs).flatMap (fun L=>L.map Nd.a)↔ ∃h:Nat,h<4∧b∈(selF sh h 0 xs).map Nd.a:=by
 unfold LLf
 simp only [List.flatMap_cons,List.flatMap_nil,List.append_nil,List.mem_append]
 constructor
 ·rintro(h | h | h | h)
  ·exact⟨0,by omega,h⟩
  ·exact⟨1,by omega,h⟩
  ·exact⟨2,by omega,h⟩
  ·exact⟨3,by omega,h⟩
 ·rintro⟨h,hh,hb⟩
  match h,hh,hb with
  | 0,_,hb=>exact .inl hb
  | 1,_,hb=>exact .inr (.inl hb)
  | 2,_,hb=>exact .inr (.inr (.inl hb))
  | 3,_,hb=>exact .inr (.inr (.inr hb))
theorem WW(sh:Int)(xs:List Int):((LLf sh xs).flatMap (fun L=>L.map Nd.a)).Nodup :=by
 unfold LLf
 simp only [List.flatMap_cons,List.flatMap_nil,List.append_nil]
 have d: ∀h h':Int,0≤h→0≤h'→h≠h'→ ∀a∈(selF sh h 0 xs).map Nd.a,∀b∈(selF sh h' 0 xs).map Nd.a,a≠b:=by
  rintro h h' h0 h1 hne a ha b hb rfl
  exact hne (HW h0 h1 xs a ha hb)
 refine List.nodup_append.2 ⟨sT sh 0 xs 0,List.nodup_append.2 ⟨sT sh 1 xs 0,List.nodup_append.2 ⟨sT sh 2 xs 0,sT sh 3 xs 0,d 2 3 (by decide) (by decide) (by decide)⟩,?_⟩,?_⟩
 ·intro a ha b hb
  rcases List.mem_append.1 hb with h | h
  ·exact d 1 2 (by decide) (by decide) (by decide) a ha b h
  ·exact d 1 3 (by decide) (by decide) (by decide) a ha b h
 ·intro a ha b hb
  rcases List.mem_append.1 hb with h | h
  ·exact d 0 1 (by decide) (by decide) (by decide) a ha b h
  ·rcases List.mem_append.1 h with h | h
   ·exact d 0 2 (by decide) (by decide) (by decide) a ha b h
   ·exact d 0 3 (by decide) (by decide) (by decide) a ha b h
structure Fil (sh t n:Int) (xs:List Int) (S:List STS) (s:MS):Prop where
 q:QL t n s.xs (LLf sh xs) S
 um:UM (LLf sh xs)
 sz:SZ t n s.xs
 pz:PZ t n s.xs
 tt:s.t=t
 nn:s.n=n
 c:0≤s.c∧s.c≤4*(2*xs.length+1)
 fr: ∀b,(xs.length:Int)<b→b≤n→aB s.xs (n+4+b)=0
theorem QX{sh t n:Int}(hn:1≤n∧n≤500)(ht:1≤t∧t≤1000){xs:List Int}(hx:(xs.length:Int)≤n)(hk: ∀k∈xs,0≤k∧k<1024)(S:List STS)(hS: ∀st∈S,st.sp=0∧st.R=[])(me: ∀(i:Nat) (st:STS),S[i]? =some st→st.me=i∧(i:Int)<t):
 Fil sh t n xs S (bF sh t n xs):=by
 have f:=m9 hn ht hx hk (by omega) (m9 hn ht hx hk (by omega) (m9 hn ht hx hk (by omega) (m9 hn ht hx hk (by omega) (MM (sh:=sh) hn ht xs))))
 have f:FilH sh t n xs 4 (bF sh t n xs):=f
 have hsel: ∀h:Nat,∀b∈(selF sh h 0 xs).map Nd.a,1≤b∧b≤xs.length:=fun h b hb=>by have:=rO sh h xs 0 b hb;omega
 have hheld:S.flatMap (fun st=>dR st.sp st.R)=[]:=by
  rw [List.flatMap_eq_nil_iff]
  intro st hst
  obtain⟨a,b⟩:=hS st hst
  rw [a,b];rfl
 have hall:allN (LLf sh xs) S=(LLf sh xs).flatMap (fun L=>L.map Nd.a):=by
  unfold allN;rw [hheld,List.append_nil]
 have hz0: ∀b,1≤b→b≤n→b∉allN (LLf sh xs) S→aB (bF sh t n xs).xs (n+4+b)=0:=by
  intro b h1 h2 hb
  refine f.zero _ (fun h hh=>⟨by omega,fun b' hb'=>?_⟩)
  have:=hsel h b' hb'
  refine⟨by omega,fun e=>hb ?_⟩
  have:b=b':=by omega
  rw [hall,uC]
  exact⟨h,hh,by rw [this];exact hb'⟩
 have hzz: ∀x,2*n+5≤x→aB (bF sh t n xs).xs x=0:=by
  intro x hx2
  refine f.zero _ (fun h hh=>⟨by omega,fun b' hb'=>?_⟩)
  have:=hsel h b' hb'
  omega
 refine {q:= {ht:=ht,hn:=hn,len:=f.len,okw:=f.okw,four:=rfl,hd:=?_,nd:=by rw [hall];exact WW sh xs,rng:=?_,tk:=?_,me:=me},um:=?_,sz:=fun i h0 h1=>hzz _ (by omega),pz:=fun u h0 h1=>?_,tt:=f.tt,nn:=f.nn,c:=f.c,fr:=fun b h1 h2=>hz0 b (by omega) h2 (fun hb=>?_) }
 ·intro h L hL
  obtain⟨h4,rfl⟩:=oL hL
  exact f.hd h h4
 ·intro b hb
  rw [hall,uC]at hb
  obtain⟨h,hh,hb⟩:=hb
  have:=hsel h b hb
  omega
 ·intro b hb
  constructor
  ·intro hl
   by_cases q:b∈allN (LLf sh xs) S
   ·exact q
   ·have:=hz0 b hb.1 hb.2 q
    unfold dO at hl
    rw [this]at hl;cases hl
  ·intro hb2
   rw [hall,uC]at hb2
   obtain⟨h,hh,hb2⟩:=hb2
   unfold dO
   rw [f.life h hh b hb2];rfl
 ·intro L hL b hb
  obtain⟨h,hh⟩:=List.getElem?_of_mem hL
  obtain⟨h4,rfl⟩:=oL hh
  exact(AH sh h xs 0 b hb).2.2
 ·rw [hzz _ (by unfold aK;omega)];rfl
 ·rw [hall,uC]at hb
  obtain⟨h,hh,hb⟩:=hb
  have:=hsel h b hb
  omega
theorem TP{f g:Nat→Int}{k:Int} : ∀m,inF f g k m=true→ ∃j,j<m∧g j=k
 | 0,h=>by cases h
 | m+1,h=>by
   rw [NL]at h
   by_cases e:g m=k
   ·exact⟨m,by omega,e⟩
   ·rw [dW e]at h
    obtain⟨j,h1,h2⟩:=TP m h
    exact⟨j,by omega,h2⟩
theorem AI{f g:Nat→Int}{m:Nat}{k:Int} :k∈setF f g m↔(0≤k∧k≤999)∧inF f g k m=true:=by
 unfold setF
 rw [List.mem_filter,List.mem_map]
 constructor
 ·rintro⟨⟨i,hi,rfl⟩,h⟩
  have:=List.mem_range.1 hi
  exact⟨by omega,h⟩
 ·rintro⟨h1,h2⟩
  exact⟨⟨k.toNat,List.mem_range.2 (by omega),by omega⟩,h2⟩
theorem HX(f g:Nat→Int)(m:Nat):Srt (setF f g m):=by
 unfold setF Srt
 refine List.Pairwise.sublist List.filter_sublist ?_
 rw [List.pairwise_map]
 exact List.Pairwise.imp (fun {a b} h=>by omega) List.pairwise_lt_range
theorem SM(f g:Nat→Int)(m:Nat):(setF f g m).length ≤m:=by
 have:=vZ (setF f g m) ((List.range m).map g) (lV (HX f g m)) (fun k hk=>by
  obtain⟨j,h1,h2⟩:=TP m (AI.1 hk).2
  exact List.mem_map.2 ⟨j,List.mem_range.2 h1,h2⟩)
 simpa using this
theorem z4{sh:Int}(hs:sh=1∨sh=2)(f g:Nat→Int)(m:Nat):bB sh f g m=setF f g m:=by
 unfold bB
 rw [dW (show sh≠3 by omega),dW (show sh≠4 by omega),cond_false,cond_false]
theorem NT{sh:Int}(hs:sh=3∨sh=4){f g:Nat→Int} : ∀m,rF sh f g m→(bB sh f g m).length ≤m∧ ∀k∈bB sh f g m,0≤k∧k≤999
 | 0,_=>by
   have:bB sh f g 0=[]:=by
    rcases hs with rfl | rfl
    ·rfl
    ·rfl
   rw [this];exact⟨Nat.le_refl _,fun k hk=>by cases hk⟩
 | m+1,h=>by
   obtain⟨h1,h2⟩:=NT hs m (fun j hj=>h j (by omega))
   have hb:vU f m:=fun j hj=>(oK (h j (by omega)) hs).1
   obtain⟨hk,hy⟩:=oK (h m (by omega)) hs
   rcases hk with e | e
   ·rcases hs with rfl | rfl
    ·have hi:bB 3 f g (m+1)=bB 3 f g m++ [g m]:=CG hb e
     rw [hi]
     refine⟨by rw [List.length_append];simpa using h1,fun k hk=>?_⟩
     rcases List.mem_append.1 hk with z | z
     ·exact h2 k z
     ·rw [List.mem_singleton.1 z];exact hy
    ·have hi:bB 4 f g (m+1)=g m::bB 4 f g m:=CN e
     rw [hi]
     refine⟨by rw [List.length_cons];omega,fun k hk=>?_⟩
     rcases List.mem_cons.1 hk with z | z
     ·rw [z];exact hy
     ·exact h2 k z
   ·have hi:bB sh f g (m+1)=(bB sh f g m).tail :=by
     rcases hs with rfl | rfl
     ·exact x9 hb e
     ·exact yI hb e
    rw [hi]
    exact⟨by rw [List.length_tail];omega,fun k hk=>h2 k (List.mem_of_mem_tail hk)⟩
theorem zZ{sh:Int}{f g:Nat→Int}{m:Nat}(hs:sh=1∨sh=2∨sh=3∨sh=4)(h:rF sh f g m):(bB sh f g m).length ≤m∧ ∀k∈bB sh f g m,0≤k∧k≤999:=by
 by_cases e:sh=1∨sh=2
 ·rw [z4 e]
  exact⟨SM f g m,fun k hk=>(AI.1 hk).1⟩
 ·exact NT (by omega) m h
theorem yQ{sh k:Int}{h:Nat}(hh:h<4)(hs:sh=1∨sh=2)(hk:0≤k):dV sh h k=false↔(cJ sh k).toNat =h:=by
 unfold dV cJ
 rcases hs with rfl | rfl
 ·rw [dW (show(1:Int)≠2 by decide)]
  simp only [cond_false,bS,dF']
  constructor
  ·intro h;show(0:Int).toNat =_;simp;omega
  ·intro h
   have h:(0:Int).toNat =_:=h
   simp at h;omega
 ·rw [bH]
  simp only [cond_true,Bool.not_eq_false',b9,beq_iff_eq]
  rw [Int.tmod_eq_emod_of_nonneg hk]
  omega
theorem SJ{sh:Int}{f g:Nat→Int}{m:Nat}(hs:sh=1∨sh=2∨sh=3∨sh=4)(h:rF sh f g m):Rp sh (LLf sh (bB sh f g m)) f g m:=by
 obtain⟨hl,hb⟩:=zZ hs h
 by_cases e:sh=1∨sh=2
 ·left
  refine⟨e,?_,?_,?_⟩
  ·intro i L hL
   obtain⟨h4,rfl⟩:=oL hL
   rw [sU,z4 e]
   exact(HX f g m).sublist List.filter_sublist
  ·intro i L hL k hk
   obtain⟨h4,rfl⟩:=oL hL
   rw [sU,List.mem_filter]at hk
   have hb:=hb k hk.1
   exact⟨hb,(yQ h4 e hb.1).1 (by simpa using hk.2)⟩
  ·intro i L hL k k0 k9 hi
   obtain⟨h4,rfl⟩:=oL hL
   rw [sU,List.mem_filter,z4 e,AI]
   have:=(yQ h4 e k0).2 hi
   constructor
   ·rintro⟨⟨_,z⟩,_⟩;exact z
   ·intro z;exact⟨⟨⟨k0,k9⟩,z⟩,by rw [this];rfl⟩
 ·right
  have e2:sh=3∨sh=4:=by omega
  have hsk: ∀(h:Int) (k:Int),dV sh h k=ilt 0 h:=by
   intro h k
   unfold dV
   rw [dW (show sh≠2 by omega)];rfl
  refine⟨e2,?_,hb,?_⟩
  ·show uk (selF sh 0 0 (bB sh f g m))=_
   rw [sU]
   refine List.filter_eq_self.2 (fun k hk=>?_)
   rw [hsk];rfl
  ·intro i L hL hi
   obtain⟨h4,rfl⟩:=oL hL
   cases hq:selF sh i 0 (bB sh f g m)with
   | nil=>rfl
   | cons b L=>
     exfalso
     have:b.a∈(selF sh i 0 (bB sh f g m)).map Nd.a:=by rw [hq];simp
     obtain⟨j,k,_,_,h3⟩:=(uG _ _ _ _ _).1 this
     rw [hsk,bS,dF']at h3
     omega
def anM(t sh n kd ky:Int)(xs:List Int):MS:=(cT t n 9 (anNF t n 0 sh kd ky) (bF sh t n xs)).2.2.2
structure YA (t sh n kd ky:Int) (xs:List Int) (LL:List (List Nd)) (S:List STS):Prop where
 ok:p8 t n 9 (anNF t n 0 sh kd ky) (bF sh t n xs)
 eq: ∃y,cT t n 9 (anNF t n 0 sh kd ky) (bF sh t n xs)=(5,true,y,anM t sh n kd ky xs)∧y.no=1
 cb:0≤(bF sh t n xs).c ∧(bF sh t n xs).c ≤1000
 ca:0≤(anM t sh n kd ky xs).c ∧(anM t sh n kd ky xs).c ≤1100
 q:QL t n (anM t sh n kd ky xs).xs LL S
 hm:HlM t n 0 1 sh kd ky (anM t sh n kd ky xs).xs
 d:aB (anM t sh n kd ky xs).xs (aK t n 0)=aY 1 0 0 0 false 1 0
 fr: ∀b,(xs.length:Int)<b→b≤n→aB (anM t sh n kd ky xs).xs (n+4+b)=0
 tt:(anM t sh n kd ky xs).t =t
 nn:(anM t sh n kd ky xs).n =n
theorem PV{t sh n kd ky:Int}{xs:List Int}(ht:1≤t∧t≤30)(hn:1≤n∧n≤500)(hx:(xs.length:Int)≤n)(hl:xs.length≤100)(hk: ∀k∈xs,0≤k∧k<1024)(hr:bX sh kd ky=true)(S:List STS)(hS: ∀st∈S,st.sp=0∧st.R=[])(me: ∀(i:Nat) (st:STS),S[i]? =some st→st.me=i∧(i:Int)<t):YA t sh n kd ky xs (LLf sh xs) S:=by
 have fl:=QX (sh:=sh) (t:=t) (n:=n) hn (by omega) hx hk S hS me
 have fh:=m9 (sh:=sh) hn (by omega:1≤t∧t≤1000) hx hk (by omega) (m9 hn (by omega) hx hk (by omega) (m9 hn (by omega) hx hk (by omega) (m9 hn (by omega) hx hk (by omega) (MM (sh:=sh) hn (by omega) xs))))
 have fh:FilH sh t n xs 4 (bF sh t n xs):=fh
 have hz: ∀a,2*n+4<a→aB (bF sh t n xs).xs a=0:=by
  intro a ha
  refine fh.zero a fun h hh=>⟨by omega,fun b hb=>?_⟩
  have:=rO sh h xs 0 b hb
  omega
 have hc:=fl.c
 obtain⟨o,y,s',e,hy,A⟩:=LA (u:=0) (s:=bF sh t n xs) hr (by omega) ht.2 hn fl.q.len fl.q.okw (by omega) (hz _ (by unfold cntA;omega)) (hz _ (by unfold aK;omega))
 have eM:anM t sh n kd ky xs=s':=by unfold anM cT;rw [e]
 refine {ok:=o,eq:=⟨y,?_,hy⟩,cb:=by omega,ca:=?_,q:=?_,hm:=?_,d:=?_,fr:=?_,tt:=?_,nn:=?_ }
 ·rw [eM];exact e
 ·rw [eM,A.c];omega
 ·rw [eM];exact fl.q.out A.len (A.okw fl.q.okw) (fun a ha=>A.lo a (by omega))
 ·rw [eM];exact A.hm
 ·rw [eM];exact A.d
 ·intro b h1 h2
  rw [eM,A.lo _ (by omega)];exact fl.fr b h1 h2
 ·rw [eM,A.t];exact fl.tt
 ·rw [eM,A.n];exact fl.nn
structure Z7 (t n no lim:Int) (N:Nat) (st:STS) (s:MS) (j:Nat) (z:HPS) (st':STS) (s':MS):Prop where
 okN:mN t n 0 no lim st
 ok:mO t n N (hpNF t n 0 no lim st).1 (hpNF t n 0 no lim st).2 s
 eq:cA t n N (hpNF t n 0 no lim st).1 (hpNF t n 0 no lim st).2 s=(j,true,z,st',s')
theorem ND{t n no lim:Int}{LL:List (List Nd)}{S:List STS}{s:MS}{i:Nat}{st:STS}{j:Nat}{z:HPS}{st':STS}{s':MS}(N:Nat)(q:QL t n s.xs LL S)(hS:S[i]? =some st)(h:End (hpG t n) j ((hpNF t n 0 no lim st).1,st,s) (z,st',s'))(hj:j≤N)(hj2:(j:Int)≤10000)(hc:0≤s.c∧s.c≤100000):Z7 t n no lim N st s j z st' s':=by
 obtain⟨j',e,hj',g1,g2⟩:=h
 have hn:=q.hn
 have ht:=q.ht
 have hw:=aBJ (WB (t:=t) (n:=n) (b:=500) (u:=0) (no:=no) (lim:=lim) (st:=st) (by decide))
 obtain⟨r1,r2⟩:=xZ j' ((hpNF t n 0 no lim st).1,st,s) e 500 N g1 g2 (by omega) ⟨ht,⟨hn.1,by omega⟩,⟨hc.1,by show s.c≤900000;omega⟩,q.okw⟩ (by show s.c+(j':Int)+1≤900000;omega) hw.1 (q.stw hS) (by omega)
 refine⟨RG t n 0 no lim st,r1,?_⟩
 rw [hj'];exact r2
structure TE (t sh n kd ky:Int) (f g:Nat→Int) (m:Nat) (LL':List (List Nd)) (S:List STS) (i:Nat) (s:MS) (st':STS) (s':MS) (j:Nat) (e:Int) (b:Bool) (v:Int):Prop where
 run: ∀lim:Int,0≤lim→ ∃z,Z7 t n 1 lim 3000 ⟨i,0,[]⟩ s j z st' s'
 q:QL t n s'.xs LL' (S.set i st')
 hm:HlM t n 0 1 sh kd ky s'.xs
 d:aB s'.xs (aK t n 0)=aY 1 0 0 e b 5 v
 dk:dOk 1 0 0 e 5 v=true
 c:s'.c=s.c+j
 tt:s'.t=s.t
 nn:s'.n=s.n
 cj:j≤3000
 is:(e=1∧b=false∧v=0∧bM kd=true∧(∀x,1≤x∧x≤n→dO n s.xs x=true)∧zY s'.xs n sh=bB sh f g m)∨
  (e=0∧(b,v)=KF sh f g m kd ky∧(bM kd=true→ ∃x,(1≤x∧x≤n)∧dO n s.xs x=false)∧zY s'.xs n sh=bB sh f g (m+1))
theorem V8{t sh n:Int}{f g:Nat→Int}{m:Nat}{LL:List (List Nd)}{S:List STS}{s:MS}{i:Nat}(q:QL t n s.xs LL S)(hS:S[i]? =some ⟨i,0,[]⟩)(rp:Rp sh LL f g m)(ho:rF sh f g (m+1))(hm:HlM t n 0 1 sh (f m) (g m) s.xs)(hd:aB s.xs (aK t n 0)=aY 1 0 0 0 false 1 0)(hc:0≤s.c∧s.c≤100000)(hn:n≤400):
 ∃LL' st' s' j e b v,TE t sh n (f m) (g m) f g m LL' S i s st' s' j e b v:=by
 have hr:bX sh (f m) (g m)=true:=ho m (by omega)
 have k1:dOk 1 0 0 0 1 0=true:=by decide
 obtain⟨j,LL',st',s',e,b,v,A,hj,run,is⟩:=EK (u:=0) (no:=1) q hS rfl rfl hr hm hd (D0 k1) (pH k1)
 have hdk:dOk 1 0 0 e 5 v=true:=LR (by decide) A.vr e (by rcases is with⟨h,_⟩ | ⟨h,_⟩<;>rw [h]<;>decide)
 refine⟨LL',st',s',j,e,b,v,{run:=fun lim hl=>?_,q:=A.q,hm:=A.hm,d:=A.d,dk:=hdk,c:=A.c,tt:=A.t,nn:=A.n,cj:=by omega,is:=?_ }⟩
 ·obtain⟨z,h⟩:=run lim hl
  exact⟨z,ND 3000 q hS h (by omega) (by omega) hc⟩
 ·rcases is with⟨h1,h2,h3,h4,h5,h6⟩ | ⟨h1,h2,h3,L',h4,h5⟩
  ·exact .inl ⟨h1,h2,h3,h5,h6,by subst h4;exact CB A.q rp⟩
  ·obtain⟨r1,r2⟩:=Rp.step q.four rp (fun j hj=>ho j (by omega)) hr
   subst h4
   exact .inr ⟨h1,h2.trans r1,h3,CB A.q (r2 L' h5)⟩
theorem O8: ∀(i:Nat) (st:STS),[(⟨0,0,[]⟩:STS),⟨1,0,[]⟩,⟨2,0,[]⟩][i]? =some st→st.me=i∧(i:Int)<3
 | 0,st,h=>by cases h;exact⟨rfl,by decide⟩
 | 1,st,h=>by cases h;exact⟨rfl,by decide⟩
 | 2,st,h=>by cases h;exact⟨rfl,by decide⟩
 | i+3,st,h=>by simp at h
theorem CF{sh:Int}{f g:Nat→Int}{m:Nat}(hs:sh=1∨sh=2∨sh=3∨sh=4)(h:rF sh f g (m+1))(hm:m≤12):
 YA 3 sh ((bB sh f g m).length +6) (f m) (g m) (bB sh f g m) (LLf sh (bB sh f g m)) [⟨0,0,[]⟩,⟨1,0,[]⟩,⟨2,0,[]⟩]∧
 ∃LL' st' s' j e b v,TE 3 sh ((bB sh f g m).length +6) (f m) (g m) f g m LL' [⟨0,0,[]⟩,⟨1,0,[]⟩,⟨2,0,[]⟩] 1 (anM 3 sh ((bB sh f g m).length +6) (f m) (g m) (bB sh f g m)) st' s' j e b v:=by
 have ho:rF sh f g m:=fun j hj=>h j (by omega)
 obtain⟨il,ib⟩:=zZ hs ho
 have rp:=SJ hs ho
 generalize hxs:bB sh f g m=xs at*
 have hn:1≤(xs.length:Int)+6∧(xs.length:Int)+6≤400:=by omega
 generalize hnn:(xs.length:Int)+6=n at*
 have A:=PV (t:=3) (sh:=sh) (n:=n) (kd:=f m) (ky:=g m) (xs:=xs) (by decide) (by omega) (by omega) (by omega) (fun k hk=>by have:=ib k hk;omega) (h m (by omega)) [⟨0,0,[]⟩,⟨1,0,[]⟩,⟨2,0,[]⟩] (by
  intro st hst
  simp only [List.mem_cons,List.not_mem_nil,or_false]at hst
  rcases hst with rfl | rfl | rfl<;>exact⟨rfl,rfl⟩) O8
 refine⟨A,?_⟩
 have hca:=A.ca
 exact V8 (i:=1) A.q rfl rp h A.hm A.d (by omega) hn.2
theorem EV{t n lim e v:Int}{b:Bool}{LL:List (List Nd)}{S:List STS}{s:MS}{i:Nat}{st:STS}(q:QL t n s.xs LL S)(hS:S[i]? =some st)(hd:aB s.xs (aK t n 0)=aY 1 0 0 e b 5 v)(dk:dOk 1 0 0 e 5 v=true)(hc:0≤s.c∧s.c≤100000):
 ∃z,Z7 t n 1 lim 3000 st s 1 z st (s.loadd (aK t n 0)):=by
 obtain⟨z,h⟩:=zW (t:=t) (n:=n) (x:=(hpNF t n 0 1 lim st).1) (st:=st) (s:=s) rfl (by show iO (aA (aB s.xs (aK t n 0)) 49 3)=false;rw [hd,pH dk];rfl)
 exact⟨z,ND 3000 q hS h (by decide) (by decide) hc⟩
theorem dZ{b:Bool}{P Q:Prop}(h:b=true)(p:P):(bif b then P else Q):=by rw [h];exact p
theorem d8{b:Bool}{P Q:Prop}(h:b=false)(q:Q):(bif b then P else Q):=by rw [h];exact q
theorem ZC{sh:Int}(h:0≤sh∧sh≤255):kL sh=1∨kL sh=2∨kL sh=3∨kL sh=4:=by
 unfold kL
 have e:IntKind.wrap .i64 sh=sh:=cU (by omega)
 have e2:Int.tmod sh 4=sh%4:=Int.tmod_eq_emod_of_nonneg h.1
 rw [e,e2]
 have e3:IntKind.wrap .i64 (1+sh%4)=1+sh%4:=cU (by omega)
 rw [e3];omega
theorem aAv{m:Nat}(h:m≤1000):nL (m+1)=m:=by
 unfold nL
 have e:IntKind.wrap .i64 (((m+1:Nat):Int) - 1)=m:=(cU (by omega)).trans (by omega)
 rw [e];omega
theorem WS{ws:List Int}(h: ∀x∈ws,0≤x∧x≤255)(i:Nat):0≤Int.tmod (IntKind.wrap .i64 (List.getD ws i 0)) 51:=by
 have hb:0≤List.getD ws i 0∧List.getD ws i 0≤255:=by
  rw [gD']
  cases e:ws[i]? with
  | none=>exact⟨by decide,by decide⟩
  | some x=>exact h x (List.mem_of_getElem? e)
 have e:IntKind.wrap .i64 (List.getD ws i 0)=List.getD ws i 0:=cU (by omega)
 rw [e,Int.tmod_eq_emod_of_nonneg hb.1];omega
structure FL (M s':MS) (i:Nat) (b:MS):Prop where
 z:i=0→b=M
 p:0<i→b.xs=s'.xs∧b.t=s'.t∧b.n=s'.n
 c:0≤b.c∧b.c≤6000+i
theorem SL{t1 t2 n1 n2:Int}(h1:t1=t2)(h2:n1=n2):(bif ieq t1 t2 then bif ieq n1 n2 then true else false else false)=true:=by
 rw [h1,h2,bH,bH];rfl
theorem V9(sh:Int)(m:Nat)(f g:Nat→Int)(ws:List Int)(K:AVal→aD Ob→Prop)(hsh:0≤sh∧sh≤255)(hws: ∀x∈ws,0≤x∧x≤255)(hK:K (.bool true) []):G9 sh m f g ws (FL (mL sh m f g) (eL sh m f g)) K:=by
 unfold G9
 refine⟨trivial,by decide,aP (fun _=>hK) (fun e0=>aP (fun _=>hK) (fun e1=>⟨⟨?_,⟨rfl⟩⟩,aP (fun _=>hK) (fun hr=>aP (fun _=>hK) (fun e2=>?_))⟩))⟩
 ·rw [bS,dF']at e1;omega
 rw [bS,dF']at e1 e2
 rw [b9]at e0
 simp only [beq_eq_false_iff_ne,ne_eq]at e0
 obtain⟨m,rfl⟩: ∃q,m=q+1:=⟨m - 1,by omega⟩
 have hB:=aAv (m:=m) (by omega)
 have hs:=ZC hsh
 have hr:lB (kL sh) (m+1) f g=true:=by simpa using hr
 have ho:rF (kL sh) f g (m+1):=pU.1 hr
 have hw:W (((m+1:Nat):Int) - 1)=m:=(cU (by omega)).trans (by omega)
 obtain⟨il,ib⟩:=zZ (f:=f) (g:=g) (m:=m) hs (fun j hj=>ho j (by omega))
 obtain⟨y1,y2⟩:=NN (kL sh) f g m
 have hI:iL sh (m+1) f g=bB (kL sh) f g m:=by unfold iL;rw [hB]
 have hD:dL sh (m+1) f g=bB (kL sh) f g m:=by unfold dL;rw [hB];exact y1
 have hL:lL sh (m+1) f g=((bB (kL sh) f g m).length :Int):=by unfold lL;rw [hI]
 obtain⟨A,LL',st',s',j,e,b,v,H⟩:=CF (f:=f) (g:=g) (m:=m) hs ho (by omega)
 obtain⟨y,ey,hy⟩:=A.eq
 have hcb:=A.cb
 have hca:=A.ca
 have hAok:=A.ok
 obtain⟨z0,R0⟩:=H.run 0 (Int.le_refl 0)
 have eA:aL sh (m+1) f g=(5,true,y,anM 3 (kL sh) ((bB (kL sh) f g m).length +6) (f m) (g m) (bB (kL sh) f g m)):=by
  unfold aL;rw [hL,hB,hD];exact ey
 have eM:mL sh (m+1) f g=anM 3 (kL sh) ((bB (kL sh) f g m).length +6) (f m) (g m) (bB (kL sh) f g m):=by unfold mL;rw [eA]
 have eX:xL sh (m+1) f g=hpNF 3 ((bB (kL sh) f g m).length +6) 0 1 0 ⟨1,0,[]⟩:=by unfold xL;rw [eA,hL];dsimp only;rw [hy]
 have eR:rL sh (m+1) f g=(j,true,z0,st',s'):=by unfold rL;rw [eX,hL,eA];exact R0.eq
 have eE:eL sh (m+1) f g=s':=by unfold eL;rw [eR]
 have hpk:mO 3 (lL sh (m+1) f g+6) 3000 (xL sh (m+1) f g).1 (xL sh (m+1) f g).2 (aL sh (m+1) f g).2.2.2:=by rw [eX,hL,eA];exact R0.ok
 have hno:(aL sh (m+1) f g).2.2.1.no =1:=by rw [eA];exact hy
 have hfl:(aL sh (m+1) f g).2.1=true:=by rw [eA]
 have hc1:0≤s'.c∧s'.c≤5000:=by
  have h1:=H.c
  have h2:=H.cj
  omega
 have fill:iZ (kL sh) f g (nL (m+1))+List.length (iL sh (m+1) f g)=List.length (i3 (kL sh) f g (nL (m+1)))∧kU 3 6 (dL sh (m+1) f g):=by
  rw [hB,hI,hD]
  exact⟨y2,⟨by decide,by omega,kP.2 (by omega),fun k hk=>by have:=ib k hk;omega⟩⟩
 have hAk:p8 3 (lL sh (m+1) f g+6) 9 (anNF 3 (lL sh (m+1) f g+6) 0 (kL sh) (f (nL (m+1))) (g (nL (m+1)))) (bF (kL sh) 3 (lL sh (m+1) f g+6) (dL sh (m+1) f g)):=by
  rw [hL,hB,hD];exact hAok
 have hxl:s'.xs.length≤4294967296:=by
  have:=H.q.len
  have:=H.q.hn
  omega
 refine⟨⟨by rw [hw];omega,by rw [hB];omega⟩,⟨by rw [hw];omega,by rw [hw];omega⟩,⟨by rw [hB];omega,⟨rfl⟩⟩,fill,GC _ _ _ _ _ _,⟨rfl,by decide,hAk⟩,dZ hfl (d8 (by show(!ieq (aL sh (m+1) f g).2.2.1.no 1)=false;rw [hno];rfl) ⟨fill,GC _ _ _ _ _ _,⟨rfl,by decide,hAk⟩,dZ hfl (d8 (by show(!ieq (aL sh (m+1) f g).2.2.1.no 1)=false;rw [hno];rfl) ⟨trivial,by show mN 3 _ 0 (aL sh (m+1) f g).2.2.1.no 0 _;rw [hno,hL];exact R0.okN,⟨⟨rfl,rfl,rfl⟩,by decide,hpk⟩,dZ (by show(rL sh (m+1) f g).2.1=true;rw [eR]) ⟨aW (H:=lD sh (m+1) f g ws (FL (mL sh (m+1) f g) (eL sh (m+1) f g))) ((0:Nat),mL sh (m+1) f g) rfl ⟨Nat.zero_le _,⟨fun _=>rfl,fun h=>absurd h (Nat.lt_irrefl 0),by show 0≤(mL sh (m+1) f g).c ∧(mL sh (m+1) f g).c ≤6000+((0:Nat):Int);rw [eM];omega⟩⟩,?_⟩⟩)⟩)⟩
 rintro⟨i,bm⟩ ⟨hi,hz,hp,hc⟩
 dsimp only at hi hz hp hc⊢
 refine qT (fun hlt=>?_) (fun hle=>hK)
 have hiw:i<ws.length:=by omega
 have e4:W ((i:Int)+1)=((i+1:Nat):Int):=(cU (by omega)).trans rfl
 have hl0:=WS hws i
 have leaf: ∀(q:Int),(zL sh (m+1) f g ws q (i,bm)).xs =s'.xs→(zL sh (m+1) f g ws q (i,bm)).t =s'.t→(zL sh (m+1) f g ws q (i,bm)).n =s'.n→0≤(zL sh (m+1) f g ws q (i,bm)).c ∧(zL sh (m+1) f g ws q (i,bm)).c ≤6000+((i+1:Nat):Int)→
  (bif bif ieq (eL sh (m+1) f g).1 (zL sh (m+1) f g ws q (i,bm)).1 then bif ieq (eL sh (m+1) f g).2 (zL sh (m+1) f g ws q (i,bm)).2 then true else false else false then(((lE' (eL sh (m+1) f g).3∧lE' (zL sh (m+1) f g ws q (i,bm)).3)∧List.length (eL sh (m+1) f g).3≤(4294967296:Nat))∧True)∧bif !kD (eL sh (m+1) f g).3 (zL sh (m+1) f g ws q (i,bm)).3 then K (.bool false) []else okSt (lD sh (m+1) f g ws (FL (mL sh (m+1) f g) (eL sh (m+1) f g))) (fun x'=>Hint.ok (lD sh (m+1) f g ws (FL (mL sh (m+1) f g) (eL sh (m+1) f g))) x'∧Hint.mu (lD sh (m+1) f g ws (FL (mL sh (m+1) f g) (eL sh (m+1) f g))) x'<Hint.mu (lD sh (m+1) f g ws (FL (mL sh (m+1) f g) (eL sh (m+1) f g))) (i,bm)) (List.replicate 11 .O ++ [.ptr 0 0,.ptr 2 0,.int .u64 (aL sh (m+1) f g).2.2.1.no,.ptr 3 0,.O,.O,.int .i64 ((rL sh (m+1) f g).1:Int)]++List.replicate 80 .O ++ [.iview (some .u8) ws,.int .i64 (ws.length:Int),.int .i64 (W ((i:Int)+1))]++List.replicate 49 .O) [a9 1 (eL sh (m+1) f g),bA (eL sh (m+1) f g),some (.cells [.int .i64 3,.int .i64 (lL sh (m+1) f g+6)]),a9 4 (zL sh (m+1) f g ws q (i,bm)),bA (zL sh (m+1) f g ws q (i,bm))]else K (.bool false) []):=by
  intro q h1 h2 h3 h4
  refine dZ (SL (by show(eL sh (m+1) f g).t =_;rw [eE];exact h2.symm) (by show(eL sh (m+1) f g).n =_;rw [eE];exact h3.symm)) ⟨⟨⟨⟨rfl,rfl⟩,by show(eL sh (m+1) f g).xs.length ≤_;rw [eE];exact hxl⟩,trivial⟩,d8 (by show(!kD (eL sh (m+1) f g).xs (zL sh (m+1) f g ws q (i,bm)).xs)=false;rw [eE,h1,F0.2 rfl];rfl) ?_⟩
  rw [e4]
  exact aW (H:=lD sh (m+1) f g ws (FL (mL sh (m+1) f g) (eL sh (m+1) f g))) (i+1,zL sh (m+1) f g ws q (i,bm)) rfl ⟨⟨hiw,⟨fun h=>absurd h (by omega),fun _=>by rw [eE];exact⟨h1,h2,h3⟩,h4⟩⟩,by show ws.length - (i+1)<ws.length - i;omega⟩
 refine⟨⟨by omega,hlt⟩,trivial,qT (fun hi0=>?_) (fun hi0=>?_)⟩
 ·obtain⟨p1,p2,p3⟩:=hp (by omega)
  rw [eE]at p1 p2 p3
  have qb:QL 3 ((bB (kL sh) f g m).length +6) bm.xs LL' ([(⟨0,0,[]⟩:STS),⟨1,0,[]⟩,⟨2,0,[]⟩].set 1 st'):=by rw [p1];exact H.q
  obtain⟨z,R⟩:=EV (lim:=Int.tmod (IntKind.wrap .i64 (List.getD ws i 0)) 51) (i:=2) (st:=⟨2,0,[]⟩) qb rfl (by rw [p1];exact H.d) H.dk (by omega)
  have eY:yL sh (m+1) f g ws 2 i=hpNF 3 ((bB (kL sh) f g m).length +6) 0 1 (Int.tmod (IntKind.wrap .i64 (List.getD ws i 0)) 51) ⟨2,0,[]⟩:=by unfold yL;rw [hno,hL]
  have eQ:qL sh (m+1) f g ws 2 (i,bm)=(1,true,z,⟨2,0,[]⟩,bm.loadd (aK 3 ((bB (kL sh) f g m).length +6) 0)):=by unfold qL;rw [eY,hL];exact R.eq
  have eZ:zL sh (m+1) f g ws 2 (i,bm)=bm.loadd (aK 3 ((bB (kL sh) f g m).length +6) 0):=by unfold zL;rw [eQ]
  refine⟨trivial,by decide,by show mN 3 _ 0 (aL sh (m+1) f g).2.2.1.no _ _;rw [hno,hL];exact R.okN,⟨⟨rfl,rfl,rfl⟩,by decide,by show mO 3 _ 3000 (yL sh (m+1) f g ws 2 i).1 (yL sh (m+1) f g ws 2 i).2 bm;rw [eY,hL];exact R.ok⟩,dZ (by show(qL sh (m+1) f g ws 2 (i,bm)).2.1=true;rw [eQ]) (d8 (by rw [b9,beq_eq_false_iff_ne];omega) (dZ (by rw [bS,dT'];exact hi0) (d8 (by show(!ieq ((qL sh (m+1) f g ws 2 (i,bm)).1:Int) 1)=false;rw [eQ];rfl) (leaf 2 ?_ ?_ ?_ ?_))))⟩
  ·rw [eZ];exact p1
  ·rw [eZ];exact p2
  ·rw [eZ];exact p3
  ·rw [eZ];show 0≤bm.c+1∧bm.c+1≤6000+((i+1:Nat):Int);omega
 ·have hi00:i=0:=by omega
  have hbm:=hz hi00
  obtain⟨z,R⟩:=H.run _ hl0
  have eY:yL sh (m+1) f g ws 1 i=hpNF 3 ((bB (kL sh) f g m).length +6) 0 1 (Int.tmod (IntKind.wrap .i64 (List.getD ws i 0)) 51) ⟨1,0,[]⟩:=by unfold yL;rw [hno,hL]
  have eQ:qL sh (m+1) f g ws 1 (i,bm)=(j,true,z,st',s'):=by unfold qL;rw [eY,hL,hbm,eM];exact R.eq
  have eZ:zL sh (m+1) f g ws 1 (i,bm)=s':=by unfold zL;rw [eQ]
  refine⟨by decide,by show mN 3 _ 0 (aL sh (m+1) f g).2.2.1.no _ _;rw [hno,hL];exact R.okN,⟨⟨rfl,rfl,rfl⟩,by decide,by show mO 3 _ 3000 (yL sh (m+1) f g ws 1 i).1 (yL sh (m+1) f g ws 1 i).2 bm;rw [eY,hL,hbm,eM];exact R.ok⟩,dZ (by show(qL sh (m+1) f g ws 1 (i,bm)).2.1=true;rw [eQ]) (dZ (by rw [hi00];rfl) (d8 (by show(!ieq ((qL sh (m+1) f g ws 1 (i,bm)).1:Int) ((rL sh (m+1) f g).1:Int))=false;rw [eQ,eR,bH];rfl) (d8 (by rw [hi00];decide) (leaf 1 ?_ ?_ ?_ ?_))))⟩
  ·rw [eZ]
  ·rw [eZ]
  ·rw [eZ]
  ·rw [eZ];omega
end Go.Sh
