import Derived.Test.YtedeloeobocpiaaGreatZGZtoV1
set_option linter.all false
set_option maxHeartbeats 8000000
namespace Go.Sh
open Go Go.Proofs
variable [Con]
theorem H4(sh kd ky pred pw cw sp:Int){curr:Int}(hc:0≤curr∧curr≤1000):(xQ sh kd ky pred pw curr cw sp).run (fun p=>0≤p.pops∧p.pops≤1000):=by
 obtain⟨c0,c1⟩:=hc
 unfold xQ
 (repeat' (with_reducible first | exact trivial | rfl | assumption | refine aDb ?_ ?_ | refine Tr.run_ite (fun _=>?_) (fun _=>?_) | refine aDc ?_ | refine And.intro ?_ ?_))
 all_goals first | exact aX | (dsimp only;first | assumption | decide)
theorem C2(sh kd ky pred pw cw sp:Int){curr:Int}(hc:0≤curr∧curr≤1000):vA sh kd ky pred pw curr cw sp:=aDl (H4 sh kd ky pred pw cw sp hc)
theorem xR(sh kd ky pred pw cw sp:Int){curr:Int}(hc:0≤curr∧curr≤1000):0≤(aI sh kd ky pred pw curr cw sp).pops ∧(aI sh kd ky pred pw curr cw sp).pops ≤1000:=aDi (H4 sh kd ky pred pw cw sp hc)
theorem C1(a b c d e f g h i):(sB a b c d e f g h i).run rngU:=by
 unfold sB
 (repeat' (with_reducible first | exact trivial | rfl | assumption | refine aDb ?_ ?_ | refine Tr.run_ite (fun _=>?_) (fun _=>?_) | refine aDc ?_ | refine And.intro ?_ ?_))
 all_goals first | exact aX | exact nS
theorem K9(a b c d e f g h i):zN a b c d e f g h i:=aDl (C1 a b c d e f g h i)
theorem K8(a b c d e f g h i):rngU (cY a b c d e f g h i):=aDi (C1 a b c d e f g h i)
theorem C0(a b c d e f g h i j):(u9 a b c d e f g h i j).run (fun r=>rngU r.1):=by
 unfold u9
 (repeat' (with_reducible first | exact trivial | rfl | assumption | refine aDb ?_ ?_ | refine Tr.run_ite (fun _=>?_) (fun _=>?_) | refine aDc ?_ | refine And.intro ?_ ?_))
 all_goals first | exact aX | exact nS
theorem K6(a b c d e f g h i j):zM a b c d e f g h i j:=aDl (C0 a b c d e f g h i j)
theorem K5(a b c d e f g h i j):rngU (gA a b c d e f g h i j).1:=aDi (C0 a b c d e f g h i j)
theorem CZ(a b c d e f g h i):(sA a b c d e f g h i).run (fun _=>True):=by
 unfold sA
 (repeat' (with_reducible first | exact trivial | rfl | assumption | refine aDb ?_ ?_ | refine Tr.run_ite (fun _=>?_) (fun _=>?_) | refine aDc ?_ | refine And.intro ?_ ?_))
 all_goals exact aX
theorem xP(p:PLN):oG p.1 p.2 p.3 p.4 p.5 p.6 p.7 p.8 p.9:=aDl (CZ _ _ _ _ _ _ _ _ _)
theorem u7(a b c d e f g h i):oG a b c d e f g h i:=aDl (CZ _ _ _ _ _ _ _ _ _)
theorem hJ{b c:Int}{x:FNS}(h:LT b x)(hbc:b≤c):LT c x:=⟨h.m,h.cu,h.ul,Int.le_trans h.ln hbc⟩
theorem qA{t n me hd key lim:Int}(hn:1≤n∧n≤1000)(hm:0≤me∧me≤1000)(hh:0≤hd∧hd≤3):oO t n me hd key lim:=aDl (ES hn hm hh)
theorem B5{t n me hd key lim:Int}(hn:1≤n∧n≤1000)(hm:0≤me∧me≤1000)(hh:0≤hd∧hd≤3):SW t (lC t n me hd key lim):=by
 have h:=aDi (ES (t:=t) (key:=key) (lim:=lim) hn hm hh)
 exact h.1
theorem B4{t n me hd key lim:Int}(hn:1≤n∧n≤1000)(hm:0≤me∧me≤1000)(hh:0≤hd∧hd≤3):LT 0 (lC t n me hd key lim):=by
 have h:=aDi (ES (t:=t) (key:=key) (lim:=lim) hn hm hh)
 exact h.2
theorem O9(t n key nx:Int)(st:STS):(UK t n key nx st).run (fun r=>r.2=st):=⟨⟨rfl,rfl,rfl⟩,rfl⟩
theorem H5(t n key nx:Int)(st:STS):C3 t n key nx st:=aDl (O9 t n key nx st)
theorem O8(t n key nx:Int)(st:STS):(lK t n key nx st).2=st:=aDi (O9 t n key nx st)
structure stW (b:Int) (st:STS):Prop where
 m:0≤st.me∧st.me≤1000
 r:eE st.R
 ln:(st.R.length:Int)≤b
theorem jO{b c:Int}{st:STS}(h:stW b st)(hbc:b≤c):stW c st:=⟨h.m,h.r,Int.le_trans h.ln hbc⟩
theorem zX{b:Int}{st:STS}{k:Int}{x:FNS}(h:stW b st)(hq:LT (b - st.R.length+1) x):stW (b+1) {me:=st.me,sp:=k,R:=st.R++x.ul} :=
 ⟨h.m,LJ h.r hq.ul,by have:=hq.ln;simp only [List.length_append];omega⟩
theorem vJ{b:Int}{st:STS}{k a:Int}(h:stW b st)(ha:0≤a∧a≤1000):stW (b+1) {me:=st.me,sp:=k,R:=st.R++ [a] } :=
 ⟨h.m,vH h.r ha,by have:=h.ln;simp only [List.length_append,List.length_singleton];omega⟩
theorem PV{b:Int}{st:STS}(h:stW b st)(k:Int):stW (b+1) {me:=st.me,sp:=k,R:=st.R} :=⟨h.m,h.r,by have:=h.ln;show(st.R.length:Int)≤_;omega⟩
structure ZB (t b:Int) (st:STS) (x:FTS):Prop where
 h:x.at'=0∨x.at'=1∨x.at'=2∨x.at'=3
 fn:x.at'=0→SW t x.fn∧LT (b - st.R.length) x.fn
 cl:x.at'=1→VO t x.cl
 ps:0≤x.p.pops∧x.p.pops≤1000
structure aBC (t b:Int) (s:MS) (o:FtO):Prop where
 a:Act1 s o.s
 st:stW (b+1) o.st
 w:o.d=false→ZB t (b+1) o.st o.x
theorem V5{t n b:Int}{x:FTS}{st:STS}{s:MS}(hb:kT t n s)(hx:ZB t b st x)(hst:stW b st)(hbb:b≤900000):(N0 t n x st s).run (aBC t b s):=by
 have hb':=hb
 obtain⟨ht,hn,⟨c0,c1⟩,hw⟩:=hb
 obtain⟨n0,n1⟩:=hn
 obtain⟨t0,t1⟩:=ht
 obtain⟨h,hfn,hcl,hps⟩:=hx
 have hR0:=hst.ln
 have hst1:stW (b+1) st:=jO hst (by omega)
 have hnn:1≤n∧n≤1000:=⟨n0,n1⟩
 have b0:0≤b:=by omega
 unfold N0
 refine aDa (fun h0=>?_) (fun h0=>aDa (fun h1=>?_) (fun h1=>aDa (fun h2=>?_) (fun h2=>aDa (fun h3=>?_) (fun h3=>?_))))
 ·obtain⟨hfw,hfq⟩:=hfn (fV h0)
  have hF:=EV hb' hfw hfq (by omega)
  have hFo:=EU hb' hfw hfq (by omega)
  have hA:=hF.a
  have hQ:=hF.q
  have hQl:=hQ.ln
  have hS:stW (b+1) {me:=st.me,sp:=st.sp,R:=st.R++(fnF t n x.fn s).x.ul } :=zX hst hQ
  have hcu:=hQ.cu
  unfold qC
  (repeat' (with_reducible first | exact trivial | rfl | assumption | refine aDb ?_ ?_ | refine Tr.run_ite (fun _=>?_) (fun _=>?_) | refine aDc ?_ | refine And.intro ?_ ?_))
  all_goals first
   | exact aX
   | exact C2 _ _ _ _ _ _ _ hcu
   | exact xP _
   | exact u7 _ _ _ _ _ _ _ _ _
   | exact iO _ _ _
   | exact H5 _ _ _ _ _
   | (simp only [List.length_append];done)
   | (refine⟨by first | assumption | exact aX,?_,fun hd=>?_⟩
      ·first
        | assumption
        | (dsimp only;rw [O8];assumption)
      ·first
        | exact Bool.noConfusion hd
        | (refine⟨by dsimp only;decide,?_,?_,?_⟩
           ·first | (exact nE') | (intro _;exact⟨hF.w (by assumption),hJ hQ (by dsimp only;omega)⟩)
           ·first | (exact nE') | (intro _;dsimp only;with_reducible exact D6 _ _ _)
           ·first | exact hps | exact xR _ _ _ _ _ _ _ hcu))
 ·have hc:=hcl (fV h1)
  have hC:=yM hb' hc
  have hCo:=D7 hb' hc
  have hA:=hC.a
  unfold B9
  (repeat' (with_reducible first | exact trivial | rfl | assumption | refine aDb ?_ ?_ | refine Tr.run_ite (fun _=>?_) (fun _=>?_) | refine aDc ?_ | refine And.intro ?_ ?_))
  all_goals first
   | exact aX
   | exact qA hnn hst.m (cU _ _)
   | (refine⟨by assumption,by assumption,fun hd=>?_⟩
      first
       | exact Bool.noConfusion hd
       | (refine⟨by dsimp only;decide,?_,?_,hps⟩
          ·first | (exact nE') | (intro _;exact⟨B5 (t:=t) (n:=n) hnn hst.m (cU _ _),hJ (B4 (t:=t) (n:=n) hnn hst.m (cU _ _)) (by dsimp only;omega)⟩)
          ·first | (exact nE') | (intro _;exact hC.w (by assumption))))
 ·have hP:=PE (st:=st) hb' (show WH t x.pr from⟨trivial⟩)
  have hPo:=PD (st:=st) hb' (show WH t x.pr from⟨trivial⟩)
  have hA:=hP.a
  have hPs:stW (b+1) (prF t n x.pr st s).st :=by rw [hP.st];exact hst1
  unfold qD
  (repeat' (with_reducible first | exact trivial | rfl | assumption | refine aDb ?_ ?_ | refine Tr.run_ite (fun _=>?_) (fun _=>?_) | refine aDc ?_ | refine And.intro ?_ ?_))
  all_goals first
   | exact aX
   | (refine⟨by assumption,by assumption,fun hd=>?_⟩
      first
       | exact Bool.noConfusion hd
       | exact⟨by dsimp only;decide,fun e=>absurd e (by dsimp only;decide),fun e=>absurd e (by dsimp only;decide),hps⟩)
 ·have hW:=K8 (FTS.p x).1 (FTS.p x).2 (FTS.p x).3 (FTS.p x).4 (FTS.p x).5 (FTS.p x).6 (FTS.p x).7 (FTS.p x).8 (FTS.p x).9
  have hWo:=K9 (FTS.p x).1 (FTS.p x).2 (FTS.p x).3 (FTS.p x).4 (FTS.p x).5 (FTS.p x).6 (FTS.p x).7 (FTS.p x).8 (FTS.p x).9
  have hS1:stW (b+1) {me:=st.me,sp:=0,R:=st.R++ [(FTS.p x).9] } :=vJ hst hps
  have hS2:stW (b+1) {me:=st.me,sp:=st.sp,R:=st.R++ [(FTS.p x).9] } :=vJ hst hps
  have hS3:stW (b+1) {me:=st.me,sp:=0,R:=st.R} :=PV hst 0
  unfold uO
  (repeat' (with_reducible first | exact trivial | rfl | assumption | refine aDb ?_ ?_ | refine Tr.run_ite (fun _=>?_) (fun _=>?_) | refine aDc ?_ | refine And.intro ?_ ?_))
  all_goals first
   | exact aX
   | exact qA hnn hst.m (cU _ _)
   | (simp only [List.length_append,List.length_singleton];done)
   | (refine⟨by exact aX,by assumption,fun hd=>?_⟩
      first
       | exact Bool.noConfusion hd
       | (refine⟨by dsimp only;decide,?_,?_,hps⟩
          ·first | (exact nE') | (intro _;exact⟨B5 (t:=t) (n:=n) hnn hst.m (cU _ _),hJ (B4 (t:=t) (n:=n) hnn hst.m (cU _ _)) (by dsimp only;omega)⟩)
          · (exact nE')))
 ·simp only [bI,beq_eq_false_iff_ne]at h0 h1 h2 h3
  rcases h with e | e | e | e<;>contradiction
theorem ZE{t n b:Int}{x:FTS}{st:STS}{s:MS}(hb:kT t n s)(hx:ZB t b st x)(hst:stW b st)(hbb:b≤900000):S7 t n x st s:=aDl (V5 hb hx hst hbb)
theorem ZF{t n b:Int}{x:FTS}{st:STS}{s:MS}(hb:kT t n s)(hx:ZB t b st x)(hst:stW b st)(hbb:b≤900000):aBC t b s (ftF t n x st s):=aDi (V5 hb hx hst hbb)
theorem EX{t n b sh kd ky most:Int}{st:STS}(hn:1≤n∧n≤1000)(hst:stW b st):(NZ t n sh kd ky most st).run (fun r=>ZB t b st r.1∧r.2=st):=by
 have hR0:=hst.ln
 unfold NZ
 (repeat' (with_reducible first | exact trivial | rfl | assumption | refine aDb ?_ ?_ | refine Tr.run_ite (fun _=>?_) (fun _=>?_) | refine aDc ?_ | refine And.intro ?_ ?_))
 all_goals first
  | exact aX
  | exact qA hn hst.m (cU _ _)
  | exact⟨by dsimp only;decide,fun _=>⟨B5 (t:=t) (n:=n) hn hst.m (cU _ _),hJ (B4 (t:=t) (n:=n) hn hst.m (cU _ _)) (by omega)⟩,fun e=>absurd e (by dsimp only;decide),⟨(by decide:(0:Int)≤0),(by decide:(0:Int)≤1000)⟩⟩
theorem eL(s:MS)(a:Int):Act1 s (s.loadd a):=⟨rfl,rfl,id,rfl,rfl⟩
theorem wD(s:MS)(a o x:Int):Act1 s (s.cased a o (WU x)):=GB s _ _ _ _ _ _ _ _ (F3 x)
theorem n8(s:MS)(a x:Int):Act1 s (s.added a x):=yE s _ _ _ _ _ _ _ (F3 _)
theorem mD{m:List (Int×Int)}{l:List Int}(h:eE l):eE (cI m l):=fun r hr=>h r (List.mem_filter.1 hr).1
theorem s5{m:List (Int×Int)}{l:List Int}(h:eE l):eE (aV m l):=fun r hr=>h r (List.mem_filter.1 hr).1
theorem CO(m:List (Int×Int))(l:List Int):(cI m l).length ≤l.length:=List.length_filter_le _ _
theorem DC{l:List Int}(h:eE l){j:Nat}(hj:j<l.length): -1000000≤List.getD l (j+Int.toNat 0*1) 0∧List.getD l (j+Int.toNat 0*1) 0≤1000000:=by
 have e:j+Int.toNat 0*1=j:=by simp
 rw [e,gD',gE' hj]
 have:=h _ (List.getElem_mem hj)
 show _≤l[j]∧l[j]≤_
 omega
theorem CT{n a:Int}(hn:1≤n)(ha:1≤a):1≤cL n a∧cL n a≤n:=by
 unfold cL
 rw [Int.tmod_eq_emod_of_nonneg (by omega)]
 have:=Int.emod_nonneg a (show n≠0 by omega)
 have:=Int.emod_lt_of_pos a (show 0<n by omega)
 omega
theorem GM{t n me:Int}(hn:1≤n):1≤at0 t n me∧at0 t n me≤n:=by
 unfold at0
 cases h:bX n (aO t n me)with
 | true=>exact FR.1 h
 | false=>exact⟨(by decide:(1:Int)≤1),hn⟩
def enI(t n b:Int)(e:ENS):Prop:=match e.ph with
 | 0=>True
 | 1=>okAl n e.x
 | 2=>True
 | 3=>(eE e.y.N∧(e.y.N.length:Int)≤b)∧0≤e.y.i∧e.y.i<2*t
 | 4=>2*t≤e.y.i∧1≤e.y.l∧e.y.gs.length=e.y.j+e.y.l∧eE e.y.gs∧eE e.y.ks∧(e.y.ks.length:Int)≤b
 | _=>False
structure YH (t n b:Int) (s:MS) (o:EO):Prop where
 a:Act1 s o.s
 st:stW (b+1) o.st
 w:o.d=false→enI t n (b+1) o.e
theorem NJ{t n b:Int}{e:ENS}{st:STS}{s:MS}(hb:kT t n s)(hx:enI t n b e)(hst:stW b st)(hbb:b≤900000):okE t n e st s:=by
 obtain⟨ht,hn,hc,hw⟩:=hb
 have hl:=hst.ln
 refine⟨ht,hn,⟨hc.1,by omega⟩,hst.m,by omega,?_⟩
 match e,hx with
 | ⟨0,sh,dn,x,y⟩,hx=>trivial
 | ⟨1,sh,dn,x,y⟩,hx=>exact hx
 | ⟨2,sh,dn,x,y⟩,hx=>trivial
 | ⟨3,sh,dn,x,y⟩,hx=>
   obtain⟨⟨h1,h2⟩,h3⟩:=hx
   exact⟨by dsimp only at h2⊢;omega,h3⟩
 | ⟨4,sh,dn,x,y⟩,hx=>
   obtain⟨a1,a2,a3,a4,a5⟩:=hx
   exact⟨a1,a2,a3,DC a4 (by omega)⟩
theorem G8{t n b:Int}{e:ENS}{st:STS}{x:AL}{s s0:MS}(ha:Act1 s0 s)(hst:stW b st)(hg:x.got=0)(hx:1≤x.at'∧x.at'≤n)(hl0:0≤x.left+1)(hl:x.left≤1000):YH t n b s0 (yU e st x s):=by
 have hl1:=hst.ln
 unfold yU
 split
 ·exact⟨ha,⟨hst.m,hst.r,by dsimp only;omega⟩,fun _=>trivial⟩
 ·rename_i h
  rw [cG,dF']at h
  exact⟨ha,jO hst (by omega),fun _=>⟨hg,hx,by show(0:Int)≤x.left;omega,hl⟩⟩
theorem wW{t n b:Int}{e:ENS}{st:STS}{x:AL}{s:MS}(hn:1≤n)(hst:stW b st)(hx:okAl n x):YH t n b s (jC n e st x s):=by
 obtain⟨hg,ha,hl⟩:=hx
 have hl1:=hst.ln
 unfold jC
 split
 ·split
  ·exact⟨wD _ _ _ _,⟨hst.m,hst.r,by dsimp only;omega⟩,fun h=>Bool.noConfusion h⟩
  ·exact G8 (wD _ _ _ _) hst rfl (CT hn ha.1) (by dsimp only;omega) (by dsimp only;omega)
 ·split
  ·exact G8 (eL _ _) hst rfl (CT hn ha.1) (by dsimp only;omega) (by dsimp only;omega)
  ·exact⟨eL _ _,jO hst (by omega),fun _=>⟨rfl,ha,hl⟩⟩
theorem NK{t n b:Int}{e:ENS}{st:STS}{s:MS}(hb:kT t n s)(hx:enI t n b e)(hst:stW b st):YH t n b s (enF t n e st s):=by
 obtain⟨ht,hn,hc,hw⟩:=hb
 have hl1:=hst.ln
 have hst1:stW (b+1) st:=jO hst (by omega)
 match e,hx with
 | ⟨0,sh,dn,x,y⟩,hx=>
   unfold enF
   dsimp only
   cases hc:ieq st.sp 0 with
   | true=>exact wW hn.1 hst ⟨rfl,GM hn.1,by dsimp only;omega⟩
   | false=>exact⟨eL _ _,hst1,fun h=>Bool.noConfusion h⟩
 | ⟨1,sh,dn,x,y⟩,hx=>exact wW hn.1 hst hx
 | ⟨2,sh,dn,x,y⟩,hx=>
   exact⟨eL _ _,hst1,fun _=>⟨⟨hst.r,by show(st.R.length:Int)≤_;omega⟩,(by decide:(0:Int)≤1),by show(1:Int)<_;omega⟩⟩
 | ⟨3,sh,dn,x,y⟩,hx=>
   obtain⟨⟨hN,hNl⟩,hi0,hi1⟩:=hx
   dsimp only at hN hNl hi0 hi1
   have hk:=CO (aT y.m n y.i s) y.N
   unfold enF
   dsimp only
   generalize hsm:aT y.m n y.i s=sm at hk⊢
   cases h1:ieq (y.i+1) (2*t)with
   | false=>
     have h1:=xB h1
     exact⟨eL _ _,hst1,fun _=>⟨⟨hN,by show((y.N).length :Int)≤_;omega⟩,by show 0≤y.i+1;omega,by show y.i+1<2*t;omega⟩⟩
   | true=>
     have h1:=fV h1
     cases h2:ieq ((aV sm y.N).length :Int) 0 with
     | true=>exact⟨eL _ _,⟨hst.m,mD hN,by show((cI sm y.N).length :Int)≤_;omega⟩,fun h=>Bool.noConfusion h⟩
     | false=>
       have h2:=xB h2
       exact⟨eL _ _,hst1,fun _=>⟨by show 2*t≤y.i+1;omega,by show 1≤(aV sm y.N).length;omega,by show(aV sm y.N).length =0+(aV sm y.N).length;omega,s5 hN,mD hN,by show((cI sm y.N).length :Int)≤_;omega⟩⟩
 | ⟨4,sh,dn,x,y⟩,hx=>
   obtain⟨a1,a2,a3,a4,a5,a6⟩:=hx
   dsimp only at a1 a2 a3 a4 a5 a6
   unfold enF
   dsimp only
   cases h1:ieq ((y.l - 1:Nat):Int) 0 with
   | true=>exact⟨n8 _ _ _,⟨hst.m,a5,by show((y.ks).length :Int)≤_;omega⟩,fun _=>trivial⟩
   | false=>
     have h1:=xB h1
     exact⟨n8 _ _ _,hst1,fun _=>⟨a1,by show 1≤y.l - 1;omega,by show(y.gs).length =y.j+1+(y.l - 1);omega,a4,a5,by show((y.ks).length :Int)≤_;omega⟩⟩
def UZ(t n b:Int)(y:SWS):Prop:=match y.ph with
 | 0=>True
 | 1=>(eE y.N∧(y.N.length:Int)≤b)∧0≤y.i∧y.i<2*t
 | 2=>2*t≤y.i∧1≤y.l∧y.gs.length=y.j+y.l∧eE y.gs∧eE y.ks∧(y.ks.length:Int)≤b
 | _=>False
structure aCG (t n b:Int) (s:MS) (o:SO):Prop where
 a:Act1 s o.s
 st:stW (b+1) o.st
 w:o.d=false→UZ t n (b+1) o.e
theorem aAB{t n b:Int}{e:SWS}{st:STS}{s:MS}(hb:kT t n s)(hx:UZ t n b e)(hst:stW b st)(hbb:b≤900000):qO t n e st s:=by
 obtain⟨ht,hn,hc,hw⟩:=hb
 have hl:=hst.ln
 refine⟨ht,hn,⟨hc.1,by omega⟩,by omega,?_⟩
 match e,hx with
 | ⟨0,N,m,i,ks,fs,gs,j,l⟩,hx=>trivial
 | ⟨1,N,m,i,ks,fs,gs,j,l⟩,hx=>
   obtain⟨⟨h1,h2⟩,h3⟩:=hx
   exact⟨by dsimp only at h2⊢;omega,h3⟩
 | ⟨2,N,m,i,ks,fs,gs,j,l⟩,hx=>
   obtain⟨a1,a2,a3,a4,a5⟩:=hx
   exact⟨a1,a2,a3,DC a4 (by omega)⟩
theorem aAC{t n b:Int}{e:SWS}{st:STS}{s:MS}(hb:kT t n s)(hx:UZ t n b e)(hst:stW b st):aCG t n b s (swF t n e st s):=by
 obtain⟨ht,hn,hc,hw⟩:=hb
 have hl1:=hst.ln
 have hst1:stW (b+1) st:=jO hst (by omega)
 match e,hx with
 | ⟨0,N,m,i,ks,fs,gs,j,l⟩,hx=>
   exact⟨eL _ _,hst1,fun _=>⟨⟨hst.r,by show(st.R.length:Int)≤_;omega⟩,(by decide:(0:Int)≤1),by show(1:Int)<_;omega⟩⟩
 | ⟨1,N,m,i,ks,fs,gs,j,l⟩,hx=>
   obtain⟨⟨hN,hNl⟩,hi0,hi1⟩:=hx
   dsimp only at hN hNl hi0 hi1
   have hk:=CO (aT m n i s) N
   unfold swF
   dsimp only
   generalize hsm:aT m n i s=sm at hk⊢
   cases h1:ieq (i+1) (2*t)with
   | false=>
     have h1:=xB h1
     exact⟨eL _ _,hst1,fun _=>⟨⟨hN,by show((N).length :Int)≤_;omega⟩,by show 0≤i+1;omega,by show i+1<2*t;omega⟩⟩
   | true=>
     have h1:=fV h1
     cases h2:ieq ((aV sm N).length :Int) 0 with
     | true=>exact⟨eL _ _,⟨hst.m,mD hN,by show((cI sm N).length :Int)≤_;omega⟩,fun h=>Bool.noConfusion h⟩
     | false=>
       have h2:=xB h2
       exact⟨eL _ _,hst1,fun _=>⟨by show 2*t≤i+1;omega,by show 1≤(aV sm N).length;omega,by show(aV sm N).length =0+(aV sm N).length;omega,s5 hN,mD hN,by show((cI sm N).length :Int)≤_;omega⟩⟩
 | ⟨2,N,m,i,ks,fs,gs,j,l⟩,hx=>
   obtain⟨a1,a2,a3,a4,a5,a6⟩:=hx
   dsimp only at a1 a2 a3 a4 a5 a6
   unfold swF
   dsimp only
   cases h1:ieq ((l - 1:Nat):Int) 0 with
   | true=>exact⟨n8 _ _ _,⟨hst.m,a5,by show((ks).length :Int)≤_;omega⟩,fun h=>Bool.noConfusion h⟩
   | false=>
     have h1:=xB h1
     exact⟨n8 _ _ _,hst1,fun _=>⟨a1,by show 1≤l - 1;omega,by show(gs).length =j+1+(l - 1);omega,a4,a5,by show((ks).length :Int)≤_;omega⟩⟩
theorem SL(t n u sh kd ky att:Int):NN t n u sh kd ky att:=⟨⟨rfl,rfl⟩,trivial⟩
theorem aBv(t n:Int){u:Int}(sh kd ky att:Int)(hu:0≤u∧u≤1000):exW t (YN t n u sh kd ky att):=⟨.inl rfl,hu,⟨(by decide:(0:Int)≤0),(by decide:(0:Int)≤1000)⟩⟩
structure Z0 (t n b:Int) (st:STS) (x:HPS):Prop where
 h:x.at'=0∨x.at'=1∨x.at'=2∨x.at'=3∨x.at'=4∨x.at'=5∨x.at'=6∨x.at'=7∨x.at'=8∨x.at'=9
 u:0≤x.u∧x.u≤1000
 ex:x.at'=3→exW t x.ex
 en:x.at'=4→enI t n b x.en
 fn:x.at'=5→SW t x.fn∧LT (b - st.R.length) x.fn
 cl:x.at'=7→VO t x.cl
 ps:0≤x.p.pops∧x.p.pops≤1000
structure aBI (t n b:Int) (s:MS) (o:HpO):Prop where
 a:Act1 s o.s
 st:stW (b+1) o.st
 w:o.d=false→Z0 t n (b+1) o.st o.x
theorem OS:(0:Int)≤0∧(0:Int)≤1000:=⟨by decide,by decide⟩
theorem WA{t n b:Int}{x:HPS}{st:STS}{s:MS}(hb:kT t n s)(hx:Z0 t n b st x)(hst:stW b st)(hbb:b≤900000):(hpT t n x st s).run (aBI t n b s):=by
 have hb':=hb
 obtain⟨ht,hn,⟨c0,c1⟩,hw⟩:=hb
 obtain⟨n0,n1⟩:=hn
 obtain⟨t0,t1⟩:=ht
 obtain⟨h,hu,hex,hen,hfn,hcl,hps⟩:=hx
 have hR0:=hst.ln
 have hst1:stW (b+1) st:=jO hst (by omega)
 have hnn:1≤n∧n≤1000:=⟨n0,n1⟩
 have hme:=hst.m
 obtain⟨u0,u1⟩:=hu
 have b0:0≤b:=by omega
 obtain⟨k0,k1⟩:=jL hw (2*n+5+2*t+3*x.1+1)
 unfold hpT
 refine aDa (fun h0=>?c0) (fun h0=>aDa (fun h1=>?c1) (fun h1=>aDa (fun h2=>?c2) (fun h2=>aDa (fun h3=>?c3) (fun h3=>aDa (fun h4=>?c4) (fun h4=>aDa (fun h5=>?c5) (fun h5=>aDa (fun h6=>?c6) (fun h6=>aDa (fun h7=>?c7) (fun h7=>aDa (fun h8=>?c8) (fun h8=>aDa (fun h9=>?c9) (fun h9=>?c10))))))))))
 case' c0=>unfold CD
 case' c1=>unfold CE
 case' c2=>unfold CF
 case' c3=>have he:=hex (fV h3);have hE:=YU hb' he;have hEo:=YT hb' he;have hA:=hE.a;have hS:stW (b+1) {me:=st.me,sp:=st.sp,R:=st.R++ [(ExO.x (lA t n x.11 s)).1] } :=vJ hst hE.p;unfold CG
 case' c4=>have he:=hen (fV h4);have hE:=NK hb' he hst;have hEo:=NJ hb' he hst hbb;have hA:=hE.a;have hS:=hE.st;have hme:=hS.m;have hSl:=hS.ln;unfold CH
 case' c5=>obtain⟨hfw,hfq⟩:=hfn (fV h5);have hF:=EV hb' hfw hfq (by omega);have hFo:=EU hb' hfw hfq (by omega);have hA:=hF.a;have hQ:=hF.q;have hQl:=hQ.ln;have hS:stW (b+1) {me:=st.me,sp:=st.sp,R:=st.R++(fnF t n x.fn s).x.ul } :=zX hst hQ;have hcu:=hQ.cu;unfold CI
 case' c6=>unfold CJ
 case' c7=>have hc:=hcl (fV h7);have hC:=yM hb' hc;have hCo:=D7 hb' hc;have hA:=hC.a;unfold CK
 case' c8=>have hP:=PE (st:=st) hb' (show WH t x.pr from⟨trivial⟩);have hPo:=PD (st:=st) hb' (show WH t x.pr from⟨trivial⟩);have hA:=hP.a;have hPs:stW (b+1) (prF t n x.pr st s).st :=(by rw [hP.st];exact hst1);unfold CL
 case' c9=>have hD:=K5 (HPS.p x).1 (HPS.p x).2 (HPS.p x).3 (HPS.p x).4 (HPS.p x).5 (HPS.p x).6 (HPS.p x).7 (HPS.p x).8 (HPS.p x).9 (aA x.6 0 12);have hDo:=K6 (HPS.p x).1 (HPS.p x).2 (HPS.p x).3 (HPS.p x).4 (HPS.p x).5 (HPS.p x).6 (HPS.p x).7 (HPS.p x).8 (HPS.p x).9 (aA x.6 0 12);have hS3:stW (b+1) {me:=st.me,sp:=0,R:=st.R} :=PV hst 0;unfold CM
 case c10=>
  simp only [bI,beq_eq_false_iff_ne]at h0 h1 h2 h3 h4 h5 h6 h7 h8 h9
  rcases h with e | e | e | e | e | e | e | e | e | e<;>contradiction
 all_goals (repeat' (with_reducible first | exact trivial | rfl | assumption | refine aDb ?_ ?_ | refine Tr.run_ite (fun _=>?_) (fun _=>?_) | refine aDc ?_ | refine And.intro ?_ ?_))
 all_goals first
  | exact aX
  | (simp only [List.length_append,List.length_singleton];done)
  | exact SL _ _ _ _ _ _ _
  | exact qA hnn hme (cU _ _)
  | exact C2 _ _ _ _ _ _ _ hcu
  | exact xP _
  | exact u7 _ _ _ _ _ _ _ _ _
  | exact iO _ _ _
  | exact H5 _ _ _ _ _
  | (simp only [List.length_append];done)
  | (refine⟨by first | assumption | exact aX,?_,fun hd=>?_⟩
     ·first
       | assumption
       | (dsimp only;rw [O8];assumption)
     ·first
       | exact Bool.noConfusion hd
       | (refine⟨by dsimp only;decide,⟨u0,u1⟩,?_,?_,?_,?_,?_⟩<;>first | (exact nE') | exact hps | exact OS | (intro _;dsimp only;with_reducible exact aBv _ _ _ _ _ _ ⟨u0,u1⟩) | (intro _;exact trivial) | (intro _;exact⟨B5 (t:=t) (n:=n) hnn hme (cU _ _),hJ (B4 (t:=t) (n:=n) hnn hme (cU _ _)) (by dsimp only;omega)⟩) | (intro _;exact hE.w (by assumption)) | (intro _;exact⟨hF.w (by assumption),hJ hQ (by dsimp only;omega)⟩) | (intro _;dsimp only;with_reducible exact D6 _ _ _) | exact xR _ _ _ _ _ _ _ hcu | (intro _;exact hC.w (by assumption))))
theorem OF{t n b:Int}{x:HPS}{st:STS}{s:MS}(hb:kT t n s)(hx:Z0 t n b st x)(hst:stW b st)(hbb:b≤900000):OC t n x st s:=aDl (WA hb hx hst hbb)
theorem OG{t n b:Int}{x:HPS}{st:STS}{s:MS}(hb:kT t n s)(hx:Z0 t n b st x)(hst:stW b st)(hbb:b≤900000):aBI t n b s (dE t n x st s):=aDi (WA hb hx hst hbb)
theorem ZT{t n b u no lim:Int}{st:STS}(hu:0≤u∧u≤1000):(KA t n u no lim st).run (fun r=>Z0 t n b st r.1∧r.2=st):=by
 unfold KA
 (repeat' (with_reducible first | exact trivial | rfl | assumption | refine aDb ?_ ?_ | refine Tr.run_ite (fun _=>?_) (fun _=>?_) | refine aDc ?_ | refine And.intro ?_ ?_))
 all_goals first
  | exact aX
  | exact⟨by dsimp only;decide,hu,fun e=>absurd e (by dsimp only;decide),fun e=>absurd e (by dsimp only;decide),fun e=>absurd e (by dsimp only;decide),fun e=>absurd e (by dsimp only;decide),OS⟩
theorem UV{s k y:Int}(h:aY s k y=true):rngU (tskV s k y):=by
 have h:=eD.1 h
 unfold tskV
 refine⟨?_,?_⟩<;>omega
theorem TM(t n:Int):N7 t n:=⟨⟨rfl,rfl⟩,trivial⟩
theorem aBE(t n:Int):hdW t (TI t n):=⟨⟨(by decide:(0:Int)≤0),(by decide:(0:Int)≤1000)⟩,⟨(by decide:(-1:Int)≤ -1),(by decide:(-1:Int)≤1000)⟩⟩
theorem R5(t n u:Int):sP t n u:=⟨⟨rfl,rfl⟩,trivial⟩
theorem aBp(t n:Int){u:Int}(hu:0≤u∧u≤1000):drW t (mJ t n u):=⟨hu,⟨(by decide:(0:Int)≤0),(by decide:(0:Int)≤2)⟩⟩
theorem Q3(t n u:Int):MI t n u:=⟨⟨rfl,rfl⟩,trivial⟩
theorem aA4(t n:Int){u:Int}(hu:0≤u∧u≤1000):awW t (W8 t n u):=⟨hu⟩
theorem QV(t n u sh kd ky:Int):MG t n u sh kd ky:=⟨trivial,⟨rfl,rfl⟩,trivial⟩
theorem aA0(t n:Int){u:Int}(sh kd ky:Int)(hu:0≤u∧u≤1000):anW t (WZ t n u sh kd ky):=⟨.inl rfl,hu,zR UV C9,C9⟩
theorem TT(t n u no lim:Int)(st:STS):CC t n u no lim st:=by
 unfold CC KA
 exact⟨⟨⟨rfl,rfl,rfl⟩,by decide⟩,trivial⟩
theorem V9{t n b u no lim:Int}{st:STS}(hu:0≤u∧u≤1000):Z0 t n b st (qF t n u no lim st).1:=(aDi (ZT (b:=b) hu)).1
theorem S6{t n b:Int}(sh kd ky most:Int){st:STS}(hn:1≤n∧n≤1000)(hst:stW b st):sW t n sh kd ky most st:=aDl (EX hn hst)
theorem aBB{t n b:Int}(sh kd ky most:Int){st:STS}(hn:1≤n∧n≤1000)(hst:stW b st):ZB t b st (ftNF t n sh kd ky most st).1:=(aDi (EX (t:=t) hn hst)).1
theorem y8{t n b:Int}(sh kd ky most:Int){st:STS}(hn:1≤n∧n≤1000)(hst:stW b st):(ftNF t n sh kd ky most st).2=st:=(aDi (EX (t:=t) hn hst)).2
structure dqW (t n b:Int) (st:STS) (x:DOS):Prop where
 h:x.at'=0∨x.at'=1∨x.at'=2∨x.at'=3∨x.at'=4∨x.at'=5∨x.at'=6∨x.at'=7∨x.at'=8∨x.at'=9
 hd:x.at'=0→hdW t x.hd
 hp:x.at'=1∨x.at'=5→Z0 t n b st x.hp
 en:x.at'=2→enI t n b x.en
 ft:x.at'=3→ZB t b st x.ft
 an:x.at'=4→anW t x.an
 aw:x.at'=6→awW t x.aw
 fn:x.at'=7→SW t x.fn∧LT (b - st.R.length) x.fn
 dr:x.at'=8→drW t x.dr
 sw:x.at'=9→UZ t n b x.sw
structure aBc (t n b:Int) (s:MS) (o:DqO):Prop where
 a:Act1 s o.s
 st:stW (b+1) o.st
 w:o.d=false→dqW t n (b+1) o.st o.x
theorem VT{t n b:Int}{x:DOS}{st:STS}{s:MS}(hb:kT t n s)(hx:dqW t n b st x)(hst:stW b st)(hbb:b≤900000):(AE t n x st s).run (aBc t n b s):=by
 have hb':=hb
 obtain⟨ht,hn,⟨c0,c1⟩,hw⟩:=hb
 obtain⟨n0,n1⟩:=hn
 obtain⟨t0,t1⟩:=ht
 obtain⟨h,xhd,xhp,xen,xft,xan,xaw,xfn,xdr,xsw⟩:=hx
 have hR0:=hst.ln
 have hst1:stW (b+1) st:=jO hst (by omega)
 have hnn:1≤n∧n≤1000:=⟨n0,n1⟩
 have hme:=hst.m
 have b0:0≤b:=by omega
 unfold AE
 refine aDa (fun h0=>?c0) (fun h0=>aDa (fun h1=>?c1) (fun h1=>aDa (fun h2=>?c2) (fun h2=>aDa (fun h3=>?c3) (fun h3=>aDa (fun h4=>?c4) (fun h4=>aDa (fun h5=>?c5) (fun h5=>aDa (fun h6=>?c6) (fun h6=>aDa (fun h7=>?c7) (fun h7=>aDa (fun h8=>?c8) (fun h8=>aDa (fun h9=>?c9) (fun h9=>?c10))))))))))
 case' c0=>have hc:=xhd (fV h0);have hC:=ZQ hb' hc;have hCo:=ZP hb' hc;have hA:=hC.a;have hS:=hst1;have hSl:=hS.ln;obtain⟨v0,v1⟩:=hC.p;unfold pU
 case' c1=>have hc:=xhp (.inl (fV h1));have hC:=OG hb' hc hst hbb;have hCo:=OF hb' hc hst hbb;have hA:=hC.a;have hS:=hC.st;have hme:=hS.m;have hSl:=hS.ln;unfold BD
 case' c2=>have hc:=xen (fV h2);have hC:=NK hb' hc hst;have hCo:=NJ hb' hc hst hbb;have hA:=hC.a;have hS:=hC.st;have hme:=hS.m;have hSl:=hS.ln;unfold pV
 case' c3=>have hc:=xft (fV h3);have hC:=ZF hb' hc hst hbb;have hCo:=ZE hb' hc hst hbb;have hA:=hC.a;have hS:=hC.st;have hme:=hS.m;have hSl:=hS.ln;unfold pW
 case' c4=>have hc:=xan (fV h4);have hC:=W7 hb' hc;have hCo:=W6 hb' hc;have hA:=hC.a;have hS:=hst1;have hSl:=hS.ln;unfold BE
 case' c5=>have hc:=xhp (.inr (fV h5));have hC:=OG hb' hc hst hbb;have hCo:=OF hb' hc hst hbb;have hA:=hC.a;have hS:=hC.st;have hme:=hS.m;have hSl:=hS.ln;unfold BF
 case' c6=>have hc:=xaw (fV h6);have hC:=XG hb' hc;have hCo:=XF hb' hc;have hA:=hC.a;have hS:=hst1;have hSl:=hS.ln;unfold BG
 case' c7=>obtain⟨hfw,hfq⟩:=xfn (fV h7);have hF:=EV hb' hfw hfq (by omega);have hFo:=EU hb' hfw hfq (by omega);have hA:=hF.a;have hQ:=hF.q;have hQl:=hQ.ln;have hS:stW (b+1) {me:=st.me,sp:=st.sp,R:=st.R++(fnF t n x.fn s).x.ul } :=zX hst hQ;unfold pX
 case' c8=>have hc:=xdr (fV h8);have hC:=YE hb' hc;have hCo:=YD hb' hc;have hA:=hC.a;have hS:=hst1;unfold pY
 case' c9=>have hc:=xsw (fV h9);have hC:=aAC hb' hc hst;have hCo:=aAB hb' hc hst hbb;have hA:=hC.a;have hS:=hC.st;unfold pZ
 case c10=>
  simp only [bI,beq_eq_false_iff_ne]at h0 h1 h2 h3 h4 h5 h6 h7 h8 h9
  rcases h with e | e | e | e | e | e | e | e | e | e<;>contradiction
 all_goals (repeat' (with_reducible first | exact trivial | rfl | assumption | refine aDb ?_ ?_ | refine Tr.run_ite (fun _=>?_) (fun _=>?_) | refine aDc ?_ | refine And.intro ?_ ?_))
 all_goals first
  | exact aX
  | (intro _;decide)
  | assumption
  | exact R5 _ _ _
  | exact Q3 _ _ _
  | exact QV _ _ _ _ _ _
  | exact TT _ _ _ _ _ _
  | exact qA hnn hme (cU _ _)
  | exact S6 _ _ _ _ hnn hS
  | (simp only [List.length_append,List.length_singleton];done)
  | (refine⟨by first | assumption | exact aX,by first | assumption | (dsimp only;rw [y8 _ _ _ _ hnn hS];assumption),fun hd=>?_⟩
     first
      | exact Bool.noConfusion hd
      | (refine⟨by dsimp only;decide,?_,?_,?_,?_,?_,?_,?_,?_,?_⟩<;>first | (exact nE') | (intro _;exact hC.w (by assumption)) | (intro _;exact V9 ⟨by first | omega | (simp_all [cG,bU];done) | (simp_all [cG,bU];omega),v1⟩) | (intro _;exact trivial) | (intro _;dsimp only;rw [y8 _ _ _ _ hnn hS];exact aBB _ _ _ _ hnn hS) | (intro _;dsimp only;with_reducible exact aA4 _ _ hme) | (intro _;dsimp only;with_reducible exact aBp _ _ hme) | (intro _;dsimp only;with_reducible exact aA0 _ _ _ _ _ hme) | (intro _;exact⟨B5 (t:=t) (n:=n) hnn hme (cU _ _),hJ (B4 (t:=t) (n:=n) hnn hme (cU _ _)) (by dsimp only;omega)⟩) | (intro _;exact V9 hme) | (intro _;exact⟨hF.w (by assumption),hJ hQ (by dsimp only;omega)⟩)))
theorem NF{t n b:Int}{x:DOS}{st:STS}{s:MS}(hb:kT t n s)(hx:dqW t n b st x)(hst:stW b st)(hbb:b≤900000):dqOk t n x st s:=aDl (VT hb hx hst hbb)
theorem X5{t n b:Int}{x:DOS}{st:STS}{s:MS}(hb:kT t n s)(hx:dqW t n b st x)(hst:stW b st)(hbb:b≤900000):aBc t n b s (dqF t n x st s):=aDi (VT hb hx hst hbb)
theorem NE{t n b:Int}(sh kd ky lim:Int)(st:STS):(ND t n sh kd ky lim st).run (fun r=>dqW t n b st r.1∧r.2=st):=by
 unfold ND
 (repeat' (with_reducible first | exact trivial | rfl | assumption | refine aDb ?_ ?_ | refine Tr.run_ite (fun _=>?_) (fun _=>?_) | refine aDc ?_ | refine And.intro ?_ ?_))
 all_goals first
  | exact aX
  | exact TM _ _
  | (intro _;decide)
  | (refine⟨by dsimp only;decide,fun _=>aBE t n,?_,?_,?_,?_,?_,?_,?_,?_⟩<;>(exact nE'))
inductive Go1 {σ:Type} (F:σ→Bool×σ):Nat→σ→σ→Prop where
 | nil (a:σ):Go1 F 0 a a
 | cons {k:Nat} {a b c:σ} (h:F a=(false,b)) (t:Go1 F k b c):Go1 F (k+1) a c
theorem Go1.trans{σ:Type}{F:σ→Bool×σ}{i j:Nat}{a b c:σ}(h:Go1 F i a b)(g:Go1 F j b c):Go1 F (j+i) a c:=by
 induction h with
 | nil a=>exact g
 | cons h t ih=>exact Go1.cons h (ih g)
theorem Go1.one{σ:Type}{F:σ→Bool×σ}{a b:σ}(h:F a=(false,b)):Go1 F 1 a b:=Go1.cons h (Go1.nil _)
theorem aDW{σ τ:Type}{F:σ→Bool×σ}{G:τ→Bool×τ}(e:σ→τ)(he: ∀a b,F a=(false,b)→G (e a)=(false,e b)){k:Nat}{a b:σ}(h:Go1 F k a b):Go1 G k (e a) (e b):=by
 induction h with
 | nil a=>exact Go1.nil _
 | cons h t ih=>exact Go1.cons (he _ _ h) ih
def End{σ:Type}(F:σ→Bool×σ)(k:Nat)(a z:σ):Prop:= ∃j b,k=j+1∧Go1 F j a b∧F b=(true,z)
theorem aDH{σ:Type}{F:σ→Bool×σ}{k j:Nat}{a b z:σ}(h:Go1 F k a b)(g:End F j b z):End F (j+k) a z:=by
 obtain⟨i,c,rfl,h1,h2⟩:=g
 exact⟨i+k,c,by omega,h.trans h1,h2⟩
theorem End.one{σ:Type}{F:σ→Bool×σ}{a z:σ}(h:F a=(true,z)):End F 1 a z:=⟨0,a,rfl,Go1.nil _,h⟩
theorem End.cons{σ:Type}{F:σ→Bool×σ}{j:Nat}{a b z:σ}(h:F a=(false,b))(g:End F j b z):End F (j+1) a z:=aDH (Go1.one h) g
abbrev nxW(x:Int):Int:=aA x 10 9
abbrev kyW(x:Int):Int:=aA x 0 10
abbrev mkW(x:Int):Bool:=ieq (aA x 19 1) 1
abbrev clW'(x:Int):Int:=aA x 20 5
abbrev vrW(x:Int):Int:=aA x 25 18
structure okF (k n c v:Int):Prop where
 k:0≤k∧k<1024
 n:0≤n∧n<512
 c:0≤c∧c<32
 v:0≤v∧v<262144
theorem uC{k n c v:Int}{m:Bool}(h:okF k n c v):aA (bD k n m c v) 0 10=k:=by
 obtain⟨h1,h2,h3,h4⟩:=h
 unfold aA bD bitI
 cases m<;>simp only [Int.reduceToNat,Int.reducePow,cond_true,cond_false]<;>omega
theorem sN{k n c v:Int}{m:Bool}(h:okF k n c v):aA (bD k n m c v) 10 9=n:=by
 obtain⟨h1,h2,h3,h4⟩:=h
 unfold aA bD bitI
 cases m<;>simp only [Int.reduceToNat,Int.reducePow,cond_true,cond_false]<;>omega
theorem oM{k n c v:Int}{m:Bool}(h:okF k n c v):ieq (aA (bD k n m c v) 19 1) 1=m:=by
 obtain⟨h1,h2,h3,h4⟩:=h
 unfold aA bD bitI
 cases m<;>simp only [Int.reduceToNat,Int.reducePow,cond_true,cond_false,bI,beq_iff_eq,beq_eq_false_iff_ne]<;>omega
theorem pP{k n c v:Int}{m:Bool}(h:okF k n c v):aA (bD k n m c v) 20 5=c:=by
 obtain⟨h1,h2,h3,h4⟩:=h
 unfold aA bD bitI
 cases m<;>simp only [Int.reduceToNat,Int.reducePow,cond_true,cond_false]<;>omega
theorem HN(x a w:Int):aG (aA x a w) w=true:=eG.2 lY
theorem qL(v:Int):0≤aQ v∧aQ v<262144:=by unfold aQ;omega
theorem rL(v:Int):aG (aQ v) 18=true:=eG.2 (qL v)
theorem RH(x y z v:Int)(hv:0≤v∧v<262144):okF (aA x 0 10) (aA y 10 9) (aA z 20 5) v:=by
 refine⟨?_,?_,?_,hv⟩
 ·have:=lY (x:=x) (a:=0) (w:=10);simpa using this
 ·have:=lY (x:=y) (a:=10) (w:=9);simpa using this
 ·have:=lY (x:=z) (a:=20) (w:=5);simpa using this
theorem mA{k n c v:Int}{m:Bool}(h:okF k n c v):0≤bD k n m c v∧bD k n m c v≤18446744073709551615:=by
 obtain⟨h1,h2,h3,h4⟩:=h
 unfold bD bitI
 cases m<;>simp only [cond_true,cond_false]<;>omega
theorem u4{xs:List Int}{a b v:Int}(h:0≤a∧a<xs.length):aB (aL xs a v) b=if b=a then v else aB xs b:=by
 rw [tN h]
 unfold aB
 rw [List.length_set]
 by_cases e:b=a
 ·subst e
  rw [if_pos rfl,if_pos h,gD',List.getElem?_set_self (by omega)]
  rfl
 ·rw [if_neg e]
  by_cases hb:0≤b∧b<xs.length
  ·rw [if_pos hb,if_pos hb,gD',List.getElem?_set_ne (by omega),←gD']
  ·rw [if_neg hb,if_neg hb]
theorem dM{xs:List Int}{a v:Int}(h:0≤a∧a<xs.length):aB (aL xs a v) a=v:=by rw [u4 h,if_pos rfl]
theorem cK{xs:List Int}{a b v:Int}(h:b≠a):aB (aL xs a v) b=aB xs b:=by
 by_cases ha:0≤a∧a<xs.length
 ·rw [u4 ha,if_neg h]
 ·rw [nO ha]
theorem FA{xs:List Int}{a:Int}(h:0≤a∧a<xs.length):bM xs a=true:=lE.2 h
theorem iZ{xs:List Int}{a x:Int}(h:0≤a∧a<xs.length)(hx:aB xs a=x):aR xs a x=true:=by
 unfold aR;rw [FA h,hx,bN];rfl
def AF(t n:Int)(p:FNS×MS):Bool×(FNS×MS):=((fnF t n p.1 p.2).d,((fnF t n p.1 p.2).x,(fnF t n p.1 p.2).s))
theorem NY{t n:Int}{x:FNS}{s:MS}(h:x.at'=0)(hm:mkW (aB s.xs x.pred)=false):fnF t n x s=⟨ieq (nxW (aB s.xs x.pred)) 0,{x with pw:=aB s.xs x.pred,curr:=nxW (aB s.xs x.pred),cw:=0,at':=1,cl:=bC},s.loadd x.pred⟩:=by
 unfold fnF HO
 rw [h]
 show(uK t n x s).val =_
 unfold uK
 simp only [Tr.val,hm,cond_false]
 rfl
theorem NW{t n:Int}{x:FNS}{s:MS}(h:x.at'=1):fnF t n x s=⟨false,{x with at':=2,cl:=bC},s.stored (2*n+5+2*x.me+1) (WU x.curr)⟩:=by
 unfold fnF HO
 rw [h]
 show(w7 t n x s).val =_
 rfl
theorem NV{t n:Int}{x:FNS}{s:MS}(h:x.at'=2)(he:aB s.xs x.pred=x.pw):fnF t n x s=⟨false,{x with at':=3,cl:=bC},s.loadd x.pred⟩:=by
 unfold fnF HO
 rw [h]
 show(uL t n x s).val =_
 unfold uL
 simp only [Tr.val,he,bN,Bool.not_true,cond_false]
 simp only [←he]
 rfl
theorem NX{t n:Int}{x:FNS}{s:MS}(h:x.at'=3)(hm:mkW (aB s.xs x.curr)=false)(hk:x.key≤kyW (aB s.xs x.curr)):fnF t n x s=⟨true,{x with cw:=aB s.xs x.curr,cl:=bC},s.loadd x.curr⟩:=by
 unfold fnF HO
 rw [h]
 show(nA t n x s).val =_
 unfold nA
 have hk':ile x.10 (aA (aB s.xs x.3) 0 10)=true:=by rw [cG];exact decide_eq_true hk
 simp only [Tr.val,hm,hk',Bool.not_false,cond_true]
 simp only [←h]
 rfl
theorem SX{t n:Int}{x:FNS}{s:MS}(h:x.at'=3)(hm:mkW (aB s.xs x.curr)=false)(hk:kyW (aB s.xs x.curr)<x.key):fnF t n x s=⟨false,{x with cw:=aB s.xs x.curr,at':=6,cl:=bC},s.loadd x.curr⟩:=by
 unfold fnF HO
 rw [h]
 show(nA t n x s).val =_
 unfold nA
 have hk':ile x.10 (aA (aB s.xs x.3) 0 10)=false:=by rw [cG];exact decide_eq_false (by have:aA (aB s.xs x.curr) 0 10<x.key:=hk;show¬x.key≤_;omega)
 simp only [Tr.val,hm,hk',Bool.not_false,cond_true,cond_false]
 rfl
theorem SY{t n:Int}{x:FNS}{s:MS}(h:x.at'=3)(hm:mkW (aB s.xs x.curr)=true)(hc:clW' (aB s.xs x.curr)=0)(hp:clW' x.pw=0):fnF t n x s=⟨false,{x with cw:=aB s.xs x.curr,at':=5,cl:=bC},s.loadd x.curr⟩:=by
 unfold fnF HO
 rw [h]
 show(nA t n x s).val =_
 unfold nA
 have hc':ieq (aA (aB s.xs x.3) 20 5) 0=true:=by rw [show aA (aB s.xs x.3) 20 5=0 from hc];exact bN 0
 have hp':ieq (aA x.2 20 5) 0=true:=by rw [show aA x.2 20 5=0 from hp];exact bN 0
 simp only [Tr.val,hm,hc',hp',Bool.not_true,cond_false]
 cases h2:ile x.10 (aA (aB s.xs x.3) 0 10)<;>rfl
theorem S0{t n:Int}{x:FNS}{s:MS}(h:x.at'=6)(hn:n≤1000)(hm:0≤x.moved∧x.moved+1≤n):fnF t n x s=⟨false,{x with pred:=x.curr,at':=0,moved:=x.moved+1,cl:=bC},s.stored (2*n+5+2*x.me+0) (WU x.curr)⟩:=by
 unfold fnF HO
 rw [h]
 show(uN t n x s).val =_
 unfold uN
 have hw:W (x.13+1)=x.13+1:=cT ⟨by have:0≤x.13:=hm.1;omega,by have:x.13+1≤n:=hm.2;omega⟩
 have hk':ile (x.13+1) n=true:=by rw [cG];exact decide_eq_true hm.2
 simp only [Tr.val,hw,hk',cond_true]
 rfl
def lnkW(pw cw:Int):Int:=bD (kyW pw) (nxW cw) (mkW pw) (clW' pw) (aQ (vrW pw))
theorem T9(pw cw:Int):(bif bif aG (aA pw 0 10) 10 then bif aG (aA cw 10 9) 9 then bif aG (aA pw 20 5) 5 then aG (aQ (aA pw 25 18)) 18 else false else false else false then bD (aA pw 0 10) (aA cw 10 9) (ieq (aA pw 19 1) 1) (aA pw 20 5) (aQ (aA pw 25 18))else 0)=lnkW pw cw:=by
 simp only [HN,rL,cond_true]
 rfl
theorem FL(pw cw:Int):okF (kyW pw) (nxW cw) (clW' pw) (aQ (vrW pw)):=RH _ _ _ _ (qL _)
theorem J2{t n:Int}{x:FNS}{s:MS}(h:x.at'=5)(hn:n≤1000)(hm:0≤x.moved∧x.moved+1≤n)(hb:0≤x.pred∧x.pred<s.xs.length)(he:aB s.xs x.pred=x.pw)(hk:mkW x.pw=false):fnF t n x s=⟨ieq (nxW x.cw) 0,{x with pw:=lnkW x.pw x.cw,curr:=nxW x.cw,cw:=0,ul:=x.ul++ [x.curr],at':=1,moved:=x.moved+1,cl:=bC},s.cased x.pred x.pw (lnkW x.pw x.cw)⟩:=by
 unfold fnF HO
 rw [h]
 show(uM t n x s).val =_
 unfold uM
 have hc:=iZ hb he
 have hw:W (x.13+1)=x.13+1:=cT ⟨by have:0≤x.13:=hm.1;omega,by have:x.13+1≤n:=hm.2;omega⟩
 have hk':ile (x.13+1) n=true:=by rw [cG];exact decide_eq_true hm.2
 have hm2:ieq (aA (lnkW x.2 x.4) 19 1) 1=false:=(oM (FL x.pw x.cw)).trans hk
 have hn2:aA (lnkW x.2 x.4) 10 9=aA x.4 10 9:=sN (FL x.pw x.cw)
 have hi:bM s.3 x.1=true:=FA hb
 have hc2:aR s.3 x.1 x.2=true:=hc
 simp only [Tr.val,T9,hc2,Bool.not_true,hw,hk',hm2,hn2,hi,cond_true,cond_false]
 unfold MS.cased MS.did
 simp only [hc,FA hb,cond_true]
structure Nd where
 a:Int
 k:Int
 m:Bool
def ch(n:Int)(xs:List Int):Int→List Nd→Prop
 | a,[]=>nxW (aB xs a)=0
 | a,b::L=>nxW (aB xs a)=b.a∧(1≤b.a∧b.a≤n)∧kyW (aB xs b.a)=b.k∧mkW (aB xs b.a)=b.m∧clW' (aB xs b.a)=0∧ch n xs b.a L
theorem jB{n:Int}{xs ys:List Int} : ∀ {L:List Nd} {a:Int},ch n xs a L→(∀b,b∈a::L.map Nd.a→aB ys b=aB xs b)→ch n ys a L
 | [],a,h,e=>by
   have h:nxW (aB xs a)=0:=h
   show nxW (aB ys a)=0
   rw [e a (List.mem_cons_self ..)];exact h
 | b::L,a,h,e=>by
   obtain⟨h1,h2,h3,h4,h5,h6⟩:=h
   have eb:=e b.a (by simp)
   refine⟨by rw [e a (by simp)];exact h1,h2,by rw [eb];exact h3,by rw [eb];exact h4,by rw [eb];exact h5,jB h6 (fun c hc=>e c ?_)⟩
   rw [List.map_cons]
   exact List.mem_cons_of_mem _ hc
def sc(k:Int):List Nd→List Nd×List Nd×List Nd
 | []=>([],[],[])
 | b::L=>bif b.m then((sc k L).1,b::(sc k L).2.1,(sc k L).2.2)else(if k≤b.k then([],[],b::L)else(b::(sc k L).1,(sc k L).2.1,(sc k L).2.2))
def hdN:List Nd→Int
 | []=>0
 | b::_=>b.a
def hdWd(xs:List Int):List Nd→Int
 | []=>0
 | b::_=>aB xs b.a
theorem D4{n:Int}{xs:List Int} : ∀ {L:List Nd} {a:Int},ch n xs a L→ ∀b∈L,1≤b.a∧b.a≤n
 | b::L,a,h,c,hc=>by
   rcases List.mem_cons.1 hc with e | e
   ·rw [e];exact h.2.1
   ·exact D4 h.2.2.2.2.2 c e
theorem MP{n:Int}{xs:List Int} : ∀ {L:List Nd} {a:Int},ch n xs a L→nxW (aB xs a)=hdN L
 | [],a,h=>h
 | b::L,a,h=>h.1
theorem V6{n:Int}{xs:List Int}{a:Int}{L:List Nd}(h:ch n xs a L):ieq (hdN L) 0=L.isEmpty:=by
 cases L with
 | nil=>rfl
 | cons b L=>
   have:=h.2.1.1
   show ieq b.a 0=false
   rw [bI,beq_eq_false_iff_ne];omega
structure FC (t n p:Int) (L:List Nd) (x:FNS) (s:MS):Prop where
 ht:1≤t∧t≤1000
 hn:1≤n∧n≤1000
 len:(s.xs.length:Int)=2*n+5*t+6
 me:0≤x.me∧x.me<t
 hp:1≤p∧p≤n+4
 mp:mkW (aB s.xs p)=false
 cp:clW' (aB s.xs p)=0
 ch:ch n s.xs p L
 nd:(p::L.map Nd.a).Nodup
 mv:0≤x.moved∧x.moved+L.length≤n
structure II (n p:Int) (L:List Nd) (x:FNS) (s:MS) (z:FNS) (s':MS) (j:Nat):Prop where
 ch:ch n s'.xs p ((sc x.key L).1++(sc x.key L).2.2)
 pred:z.pred=((sc x.key L).1.map Nd.a).getLastD p
 pw:z.pw=aB s'.xs z.pred
 curr:z.curr=hdN (sc x.key L).2.2
 cw:z.cw=hdWd s'.xs (sc x.key L).2.2
 ul:z.ul=x.ul++(sc x.key L).2.1.map Nd.a
 tries:z.tries=x.tries
 ab:z.ab=x.ab
 me:z.me=x.me
 same: ∀a,a≠2*n+5+2*x.me→a≠2*n+5+2*x.me+1→a∉p::(sc x.key L).1.map Nd.a→aB s'.xs a=aB s.xs a
 p3:kyW (aB s'.xs p)=kyW (aB s.xs p)∧mkW (aB s'.xs p)=mkW (aB s.xs p)∧clW' (aB s'.xs p)=clW' (aB s.xs p)
 t:s'.t=s.t
 n:s'.n=s.n
 c:s'.c=s.c+j
 len:s'.xs.length=s.xs.length
 okw:okW s.xs→okW s'.xs
theorem m9{t n:Int}{x:FNS}{s:MS}{d:Bool}{x':FNS}{s':MS}(h:fnF t n x s=⟨d,x',s'⟩):AF t n (x,s)=(d,(x',s')):=by
 unfold AF;rw [h]
theorem OQ(s:MS)(a:Int):(s.loadd a).xs =s.xs:=rfl
theorem mR{s:MS}{a v w:Int}(h:aR s.xs a v=true):(s.cased a v w).xs =aL s.xs a w:=by
 unfold MS.cased MS.did;rw [h];rfl
theorem jZ{k:Int}{b:Nd}{L:List Nd}(hm:b.m=false)(hk:k≤b.k):sc k (b::L)=([],[],b::L):=by
 show(bif b.m then _ else _)=_;rw [hm];exact if_pos hk
theorem iU{k:Int}{b:Nd}{L:List Nd}(hm:b.m=false)(hk:b.k<k):sc k (b::L)=(b::(sc k L).1,(sc k L).2.1,(sc k L).2.2):=by
 show(bif b.m then _ else _)=_;rw [hm];exact if_neg (by omega)
theorem jY{k:Int}{b:Nd}{L:List Nd}(hm:b.m=true):sc k (b::L)=((sc k L).1,b::(sc k L).2.1,(sc k L).2.2):=by
 show(bif b.m then _ else _)=_;rw [hm];rfl
theorem zT(k:Int): ∀L:List Nd,((sc k L).1++(sc k L).2.2).Sublist L
 | []=>List.Sublist.slnil
 | b::L=>by
   cases hm:b.m with
   | true=>rw [jY hm];exact List.Sublist.cons _ (zT k L)
   | false=>
     by_cases hk:k≤b.k
     ·rw [jZ hm hk];exact List.Sublist.refl _
     ·rw [iU hm (by omega)];exact List.Sublist.cons₂ _ (zT k L)
theorem II.nil{n p:Int}{x:FNS}{s:MS}(h2:x.pred=p)(h3:x.pw=aB s.xs p)(h4:x.curr=0)(h5:x.cw=0)(hz:nxW (aB s.xs p)=0):II n p [] x s x s 0 where
 ch:=hz
 pred:=h2
 pw:=by rw [h2];exact h3
 curr:=h4
 cw:=h5
 ul:=by simp [sc]
 tries:=rfl
 ab:=rfl
 me:=rfl
 same:=fun _ _ _ _=>rfl
 p3:=⟨rfl,rfl,rfl⟩
 t:=rfl
 n:=rfl
 c:=by simp
 len:=rfl
 okw:=id
theorem II.pre{n p:Int}{L:List Nd}{x x1:FNS}{s s1:MS}{z:FNS}{s':MS}{j:Nat}(h:II n p L x1 s1 z s' j)(hx:s1.xs=s.xs)(hc:s1.c=s.c+1)(ht:s1.t=s.t)(hn:s1.n=s.n)
 (k:x1.key=x.key) (u:x1.ul=x.ul) (tr:x1.tries=x.tries) (ab:x1.ab=x.ab) (me:x1.me=x.me):II n p L x s z s' (j+1) where
 ch:=by have:=h.ch;rw [k]at this;exact this
 pred:=by have:=h.pred;rw [k]at this;exact this
 pw:=h.pw
 curr:=by have:=h.curr;rw [k]at this;exact this
 cw:=by have:=h.cw;rw [k]at this;exact this
 ul:=by have:=h.ul;rw [k,u]at this;exact this
 tries:=h.tries.trans tr
 ab:=h.ab.trans ab
 me:=h.me.trans me
 same:=by have:=h.same;rw [k,me,hx]at this;exact this
 p3:=by have:=h.p3;rw [hx]at this;exact this
 t:=h.t.trans ht
 n:=h.n.trans hn
 c:=by rw [h.c,hc];omega
 len:=by rw [h.len,hx]
 okw:=by rw [←hx];exact h.okw
def GS(t n:Int)(L:List Nd):Prop:= ∀(p:Int) (x:FNS) (s:MS),x.at'=1→x.pred=p→x.pw=aB s.xs p→x.curr=hdN L→x.cw=0→L≠ []→FC t n p L x s→
    ∃j z s',(∀lim,End (AF t n) j ({x with limit:=lim},s) ({z with limit:=lim},s'))∧II n p L x s z s' j∧j≤5*L.length
def VS(t n:Int)(L:List Nd):Prop:= ∀(p:Int) (x:FNS) (s:MS),x.at'=0→x.pred=p→FC t n p L x s→
    ∃j z s',(∀lim,End (AF t n) j ({x with limit:=lim},s) ({z with limit:=lim},s'))∧II n p L x s z s' j∧j≤5*L.length+1
theorem aD0{t n:Int}{L:List Nd}(hg:GS t n L):VS t n L:=by
 intro p x s h1 h2 hc
 subst h2
 have hv: ∀lim,AF t n ({x with limit:=lim},s)=(L.isEmpty,({x with pw:=aB s.xs x.pred,curr:=hdN L,cw:=0,at':=1,cl:=bC,limit:=lim},s.loadd x.pred)):=by
  intro lim
  have:=m9 (NY (t:=t) (n:=n) (x:= {x with limit:=lim}) (s:=s) h1 hc.mp)
  rw [this]
  have e:=MP hc.ch
  simp only [e,V6 hc.ch]
 cases L with
 | nil=>exact⟨1,{x with pw:=aB s.xs x.pred,curr:=0,cw:=0,at':=1,cl:=bC},s.loadd x.pred,fun lim=>End.one (hv lim),(II.nil (x:= {x with pw:=aB s.xs x.pred,curr:=0,cw:=0,at':=1,cl:=bC}) (s:=s.loadd x.pred) rfl rfl rfl rfl hc.ch).pre rfl rfl rfl rfl rfl rfl rfl rfl rfl,by simp⟩
 | cons b L=>
   obtain⟨j,z,s',e,f,hl⟩:=hg x.pred {x with pw:=aB s.xs x.pred,curr:=hdN (b::L),cw:=0,at':=1,cl:=bC} (s.loadd x.pred) rfl rfl rfl rfl rfl (by simp) ⟨hc.ht,hc.hn,hc.len,hc.me,hc.hp,hc.mp,hc.cp,hc.ch,hc.nd,hc.mv⟩
   exact⟨j+1,z,s',fun lim=>End.cons (hv lim) (e lim),f.pre rfl rfl rfl rfl rfl rfl rfl rfl rfl,by omega⟩
theorem jJ{L M:List Nd}(h:L.Sublist M){a:Int}(ha:a∈L.map Nd.a):a∈M.map Nd.a:=(h.map Nd.a).subset ha
theorem tO(k:Int)(L:List Nd):(sc k L).1.Sublist L:=(List.sublist_append_left _ _).trans (zT k L)
theorem YY{t n:Int} : ∀L:List Nd,GS t n L:=by
 intro L
 induction L with
 | nil=>intro p x s _ _ _ _ _ h;exact absurd rfl h
 | cons b L ih=>
   intro p x s h1 h2 h3 h4 h0 _ hc
   subst h2
   obtain⟨ht,hn,len,me,hp,mp,cp,hch,nd,mv⟩:=hc
   obtain⟨c1,c2,c3,c4,c5,c6⟩:=hch
   have h4:x.curr=b.a:=h4
   have hb:b.a≠x.pred:=by
    intro e;rw [List.map_cons,List.nodup_cons]at nd;exact nd.1 (by rw [e];exact List.mem_cons_self ..)
   have nd':(b.a::L.map Nd.a).Nodup :=by rw [List.map_cons,List.nodup_cons]at nd;exact nd.2
   have hpL:x.pred∉L.map Nd.a:=by
    intro e;rw [List.map_cons,List.nodup_cons]at nd;exact nd.1 (List.mem_cons_of_mem _ e)
   have hbL:b.a∉L.map Nd.a:=(List.nodup_cons.1 nd').1
   have hLr:=D4 c6
   have hLs: ∀a,a∈L.map Nd.a→1≤a∧a≤n:=by
    intro a ha
    obtain⟨c,hc,rfl⟩:=List.mem_map.1 ha
    exact hLr c hc
   have mv2:x.moved+1≤n:=by have:=mv.2;simp only [List.length_cons]at this;omega
   let q1:=2*n+5+2*x.me+1
   have hq1:q1=2*n+5+2*x.me+1:=rfl
   let s1:=s.stored q1 (WU x.curr)
   have e1: ∀lim,AF t n ({x with limit:=lim},s)=(false,({x with at':=2,cl:=bC,limit:=lim},s1)):=fun lim=>m9 (NW (x:= {x with limit:=lim}) h1)
   have x1: ∀a,a≠q1→aB s1.xs a=aB s.xs a:=fun a ha=>cK ha
   have e2: ∀lim,AF t n ({x with at':=2,cl:=bC,limit:=lim},s1)=(false,({x with at':=3,cl:=bC,limit:=lim},s1.loadd x.pred)):=fun lim=>
    m9 (NV (x:= {x with at':=2,cl:=bC,limit:=lim}) rfl ((x1 x.pred (by omega)).trans h3.symm))
   let s2:=s1.loadd x.pred
   have x2: ∀a,a≠q1→aB s2.xs a=aB s.xs a:=x1
   have hcw:aB s2.xs x.curr=aB s.xs b.a:=by rw [h4];exact x2 _ (by omega)
   let s3:=s2.loadd x.curr
   have x3: ∀a,a≠q1→aB s3.xs a=aB s.xs a:=x1
   have l3:s3.xs.length=s.xs.length:=b8 _ _ _
   have hw:0≤WU x.curr∧WU x.curr≤18446744073709551615:=rB _
   have w3:okW s.xs→okW s3.xs:=fun h=>d9 h hw
   have start: ∀ {k:Nat} {z:FNS×MS} (lim:Int),End (AF t n) k ({x with at':=3,cl:=bC,limit:=lim},s2) z→End (AF t n) (k+3 - 1) ({x with limit:=lim},s) z:=by
    intro k z lim h
    have:=End.cons (e1 lim) (End.cons (e2 lim) h)
    exact this
   cases hm:b.m with
   | false=>
     have hm':mkW (aB s2.xs x.curr)=false:=by rw [hcw,c4];exact hm
     by_cases hk:x.key≤b.k
     ·
      have e3: ∀lim,AF t n ({x with at':=3,cl:=bC,limit:=lim},s2)=(true,({x with at':=3,cl:=bC,limit:=lim,cw:=aB s2.xs x.curr},s3)):=fun lim=>
       m9 (NX (x:= {x with at':=3,cl:=bC,limit:=lim}) rfl hm' (by show x.key≤kyW (aB s2.xs x.curr);rw [hcw,c3];exact hk))
      refine⟨3,{x with at':=3,cl:=bC,cw:=aB s2.xs x.curr},s3,fun lim=>start lim (End.one (e3 lim)),?_,by simp only [List.length_cons];omega⟩
      have es:sc x.key (b::L)=([],[],b::L):=jZ hm hk
      refine {ch:=?_,pred:=by simp only [es];rfl,pw:=?_,curr:=by simp only [es];exact h4,cw:=?_,ul:=by simp only [es];simp,tries:=rfl,ab:=rfl,me:=rfl,same:=?_,p3:=?_,t:=rfl,n:=rfl,c:=?_,len:=l3,okw:=w3}
      ·simp only [es]
       refine jB (xs:=s.xs) ⟨c1,c2,c3,c4,c5,c6⟩ (fun a ha=>x3 a ?_)
       have ha:a∈x.pred::b.a::L.map Nd.a:=ha
       rcases List.mem_cons.1 ha with e | e
       ·omega
       ·rcases List.mem_cons.1 e with e | e
        ·omega
        ·have:=hLs a e;omega
      ·exact h3.trans (x3 _ (by omega)).symm
      ·simp only [es]
       show aB s2.xs x.curr=aB s3.xs b.a
       rw [h4];rfl
      ·intro a _ ha _;exact x3 a ha
      ·rw [x3 _ (by omega)];exact⟨rfl,rfl,rfl⟩
      ·show s.c+1+1+1=s.c+((3:Nat):Int);omega
     ·
      have hk2:b.k<x.key:=by omega
      have e3: ∀lim,AF t n ({x with at':=3,cl:=bC,limit:=lim},s2)=(false,({x with at':=6,cl:=bC,limit:=lim,cw:=aB s2.xs x.curr},s3)):=fun lim=>
       m9 (SX (x:= {x with at':=3,cl:=bC,limit:=lim}) rfl hm' (by show kyW (aB s2.xs x.curr)<x.key;rw [hcw,c3];exact hk2))
      let q0:=2*n+5+2*x.me+0
      have hq0:q0=2*n+5+2*x.me:=by show 2*n+5+2*x.me+0=_;omega
      let s4:=s3.stored q0 (WU x.curr)
      have e4: ∀lim,AF t n ({x with at':=6,cl:=bC,limit:=lim,cw:=aB s2.xs x.curr},s3)=(false,({x with at':=0,cl:=bC,limit:=lim,cw:=aB s2.xs x.curr,pred:=x.curr,moved:=x.moved+1},s4)):=fun lim=>
       m9 (S0 (x:= {x with at':=6,cl:=bC,limit:=lim,cw:=aB s2.xs x.curr}) rfl hn.2 ⟨mv.1,mv2⟩)
      have x4: ∀a,a≠q1→a≠q0→aB s4.xs a=aB s.xs a:=fun a h1 h0=>(cK h0).trans (x3 a h1)
      have l4:s4.xs.length=s.xs.length:=(b8 _ _ _).trans l3
      have fc:FC t n b.a L {x with at':=0,cl:=bC,cw:=aB s2.xs x.curr,pred:=x.curr,moved:=x.moved+1} s4:=by
       refine⟨ht,hn,by rw [l4];exact len,me,by omega,?_,?_,?_,nd',?_⟩
       ·rw [x4 _ (by omega) (by omega),c4];exact hm
       ·rw [x4 _ (by omega) (by omega)];exact c5
       ·refine jB c6 (fun a ha=>x4 a ?_ ?_)
        all_goals
         rcases List.mem_cons.1 ha with e | e
         ·omega
         ·have:=hLs a e;omega
       ·have:=mv.2
        simp only [List.length_cons]at this
        exact⟨by show 0≤x.moved+1;omega,by show x.moved+1+L.length≤n;omega⟩
      obtain⟨j,z,s',e,f,hl⟩:=aD0 ih b.a {x with at':=0,cl:=bC,cw:=aB s2.xs x.curr,pred:=x.curr,moved:=x.moved+1} s4 rfl h4 fc
      have es:sc x.key (b::L)=(b::(sc x.key L).1,(sc x.key L).2.1,(sc x.key L).2.2):=iU hm hk2
      have hA: ∀a,a∈(sc x.key L).1.map Nd.a→a∈L.map Nd.a:=fun a=>jJ (tO _ _)
      have hpz:aB s'.xs x.pred=aB s.xs x.pred:=by
       rw [f.same x.pred (by show x.pred≠2*n+5+2*x.me;omega) (by show x.pred≠2*n+5+2*x.me+1;omega) ?_,x4 _ (by omega) (by omega)]
       intro hh
       rcases List.mem_cons.1 hh with e | e
       ·exact hb e.symm
       ·exact hpL (hA _ e)
      refine⟨j+4,z,s',fun lim=>?_,?_,by simp only [List.length_cons];omega⟩
      ·have:=start lim (End.cons (e3 lim) (End.cons (e4 lim) (e lim)))
       exact this
      ·refine {ch:=?_,pred:=?_,pw:=f.pw,curr:=by simp only [es];exact f.curr,cw:=by simp only [es];exact f.cw,ul:=by simp only [es];exact f.ul,tries:=f.tries,ab:=f.ab,me:=f.me,same:=?_,p3:=by rw [hpz];exact⟨rfl,rfl,rfl⟩,t:=f.t,n:=f.n,c:=?_,len:=f.len.trans l4,okw:=fun h=>f.okw (d9 (w3 h) hw) }
       ·simp only [es]
        refine⟨by rw [hpz];exact c1,c2,?_,?_,?_,f.ch⟩
        ·rw [f.p3.1,x4 _ (by omega) (by omega)];exact c3
        ·rw [f.p3.2.1,x4 _ (by omega) (by omega)];exact c4
        ·rw [f.p3.2.2,x4 _ (by omega) (by omega)];exact c5
       ·simp only [es,List.map_cons]
        rw [f.pred,List.getLastD_cons]
       ·intro a h0 h1 ha
        simp only [es,List.map_cons]at ha
        rw [f.same a h0 h1 (fun hh=>ha (List.mem_cons_of_mem _ hh)),x4 a h1 (by omega)]
       ·rw [f.c];show s.c+1+1+1+1+(j:Int)=s.c+((j+4:Nat):Int);omega
   | true=>
     have hm':mkW (aB s2.xs x.curr)=true:=by rw [hcw,c4];exact hm
     have e3: ∀lim,AF t n ({x with at':=3,cl:=bC,limit:=lim},s2)=(false,({x with at':=5,cl:=bC,limit:=lim,cw:=aB s2.xs x.curr},s3)):=fun lim=>
      m9 (SY (x:= {x with at':=3,cl:=bC,limit:=lim}) rfl hm' (by show clW' (aB s2.xs x.curr)=0;rw [hcw];exact c5) (by show clW' x.pw=0;rw [h3];exact cp))
     have hpw3:aB s3.xs x.pred=x.pw:=(x3 _ (by omega)).trans h3.symm
     have hin:0≤x.pred∧x.pred<s3.xs.length:=by rw [l3];omega
     let w:=lnkW x.pw (aB s2.xs x.curr)
     let s4:=s3.cased x.pred x.pw w
     have hcas:=iZ hin hpw3
     have s4x:s4.xs=aL s3.xs x.pred w:=mR hcas
     have hnx:nxW (aB s2.xs x.curr)=hdN L:=by rw [hcw];exact MP c6
     have e4: ∀lim,AF t n ({x with at':=5,cl:=bC,limit:=lim,cw:=aB s2.xs x.curr},s3)=(L.isEmpty,({x with pw:=w,curr:=hdN L,cw:=0,ul:=x.ul++ [x.curr],at':=1,moved:=x.moved+1,cl:=bC,limit:=lim},s4)):=by
      intro lim
      have:=m9 (J2 (t:=t) (x:= {x with at':=5,cl:=bC,limit:=lim,cw:=aB s2.xs x.curr}) (s:=s3) rfl hn.2 ⟨mv.1,mv2⟩ hin hpw3 (by show mkW x.pw=false;rw [h3];exact mp))
      rw [this]
      simp only [hnx,V6 c6]
      rfl
     have x4p:aB s4.xs x.pred=w:=by rw [s4x,dM hin]
     have x4: ∀a,a≠q1→a≠x.pred→aB s4.xs a=aB s.xs a:=fun a h1 h0=>by rw [s4x,cK h0];exact x3 a h1
     have l4:s4.xs.length=s.xs.length:=by rw [s4x,b8];exact l3
     have hwf:=FL x.pw (aB s2.xs x.curr)
     have wk:kyW w=kyW (aB s.xs x.pred):=(uC hwf).trans (by rw [h3])
     have wn:nxW w=nxW (aB s2.xs x.curr):=sN hwf
     have wm:mkW w=mkW (aB s.xs x.pred):=(oM hwf).trans (by rw [h3])
     have wc:clW' w=clW' (aB s.xs x.pred):=(pP hwf).trans (by rw [h3])
     have w4:okW s.xs→okW s4.xs:=fun h=>by rw [s4x];exact d9 (w3 h) (mA hwf)
     have hch4:ch n s4.xs x.pred L:=by
      cases L with
      | nil=>show nxW (aB s4.xs x.pred)=0;rw [x4p,wn];exact hnx
      | cons b2 L2=>
        obtain⟨d1,d2,d3,d4,d5,d6⟩:=c6
        have hb2:b2.a≠x.pred:=by intro e;exact hpL (by rw [←e];simp)
        refine⟨by rw [x4p,wn];exact hnx,d2,?_,?_,?_,jB d6 (fun a ha=>x4 a ?_ ?_)⟩
        ·rw [x4 _ (by omega) hb2];exact d3
        ·rw [x4 _ (by omega) hb2];exact d4
        ·rw [x4 _ (by omega) hb2];exact d5
        ·have:=hLs a (by rw [List.map_cons];exact ha);omega
        ·intro e;rw [e]at ha;exact hpL (by rw [List.map_cons];exact ha)
     have es:sc x.key (b::L)=((sc x.key L).1,b::(sc x.key L).2.1,(sc x.key L).2.2):=jY hm
     let x4':FNS:= {x with pw:=w,curr:=hdN L,cw:=0,ul:=x.ul++ [x.curr],at':=1,moved:=x.moved+1,cl:=bC}
     have rest: ∃j z s',(∀lim,End (AF t n) (j+1) ({x with at':=5,cl:=bC,limit:=lim,cw:=aB s2.xs x.curr},s3) ({z with limit:=lim},s'))∧II n x.pred L x4' s4 z s' j∧j≤5*L.length:=by
      cases L with
      | nil=>exact⟨0,x4',s4,fun lim=>End.one (e4 lim),II.nil rfl x4p.symm rfl rfl hch4,by simp⟩
      | cons b2 L2=>
        obtain⟨j,z,s',e,f,hl⟩:=ih x.pred x4' s4 rfl rfl x4p.symm rfl rfl (by simp) ⟨ht,hn,by rw [l4];exact len,me,hp,by rw [x4p,wm];exact mp,by rw [x4p,wc];exact cp,hch4,List.nodup_cons.2 ⟨hpL,(List.nodup_cons.1 nd').2⟩,⟨by show 0≤x.moved+1;omega,by have:=mv.2;simp only [List.length_cons]at this⊢;show x.moved+1+((L2.length+1:Nat):Int)≤n;omega⟩⟩
        exact⟨j,z,s',fun lim=>End.cons (e4 lim) (e lim),f,hl⟩
     obtain⟨j,z,s',e,f,hl⟩:=rest
     refine⟨j+4,z,s',fun lim=>?_,?_,by simp only [List.length_cons];omega⟩
     ·have:=start lim (End.cons (e3 lim) (e lim))
      exact this
     ·refine {ch:=by simp only [es];exact f.ch,pred:=by simp only [es];exact f.pred,pw:=f.pw,curr:=by simp only [es];exact f.curr,cw:=by simp only [es];exact f.cw,ul:=?_,tries:=f.tries,ab:=f.ab,me:=f.me,same:=?_,p3:=?_,t:=f.t,n:=f.n,c:=?_,len:=f.len.trans l4,okw:=fun h=>f.okw (w4 h) }
      ·simp only [es]
       rw [f.ul]
       show x.ul++ [x.curr]++_=_
       rw [h4,List.append_assoc];rfl
      ·intro a h0 h1 ha
       simp only [es]at ha
       rw [f.same a h0 h1 ha,x4 a h1 (fun e=>ha (by rw [e];exact List.mem_cons_self ..))]
      ·have:=f.p3
       rw [x4p]at this
       exact⟨this.1.trans wk,this.2.1.trans wm,this.2.2.trans wc⟩
      ·rw [f.c];show s.c+1+1+1+1+(j:Int)=s.c+((j+4:Nat):Int);omega
theorem NS{t n:Int}(L:List Nd):VS t n L:=aD0 (YY L)
inductive Pa where
 | now (b:Bool)
 | link
 | mark (v:Int)
 | pop (v:Int)
def fndB(ky:Int):List Nd→Bool
 | []=>false
 | b::_=>ieq b.k ky
def paOf(sh kd ky:Int)(B:List Nd):Pa:=
 if kd=4 then .link else if kd=1 then(bif fndB ky B then .now false else .link)else if kd=2 then(bif fndB ky B then .mark 0 else .now false)else if kd=3 then .now (fndB ky B)else
 match B with
 | []=>.now false
 | b::_=>if sh=4 then .pop b.k else .mark b.k
def Pa.ok:Pa→Bool
 | .now b=>b
 | _=>true
def Pa.val:Pa→Int
 | .mark v=>v
 | .pop v=>v
 | _=>0
def Pa.new(ky sp:Int)(B:List Nd):Pa→List Nd
 | .now _=>B
 | .link =>⟨sp,ky,false⟩::B
 | .mark _=>(match B with | []=>[] | b::B'=>⟨b.a,b.k,true⟩::B')
 | .pop _=>B.tail
def Pa.sp(sp:Int):Pa→Int
 | .link =>0
 | _=>sp
def Pa.pops(B:List Nd):Pa→List Int
 | .pop _=>[hdN B]
 | _=>[]
def Pa.plan(pred pw curr cw sp:Int):Pa→PLN
 | .now b=>⟨true,0,b,0,0,0,0,false,0⟩
 | .link =>⟨false,0,true,0,pred,pw,sp,mkW pw,0⟩
 | .mark v=>⟨false,0,true,v,curr,cw,nxW cw,true,0⟩
 | .pop v=>⟨false,0,true,v,pred,pw,nxW cw,mkW pw,curr⟩
theorem Y5{ky cw:Int}{B:List Nd}(h: ∀b B',B=b::B'→b.a≠0∧kyW cw=b.k):fU ky (hdN B) cw=fndB ky B:=by
 cases B with
 | nil=>rfl
 | cons b B'=>
   obtain⟨h1,h2⟩:=h b B' rfl
   show(bif ieq b.a 0 then _ else ieq (aA cw 0 10) ky)=ieq b.k ky
   have h2:aA cw 0 10=b.k:=h2
   rw [h2]
   have:ieq b.a 0=false:=by rw [bI,beq_eq_false_iff_ne];exact h1
   rw [this];rfl
theorem UG{sh kd ky pred pw cw sp:Int}{B:List Nd}(hr:aY sh kd ky=true)(h: ∀b B',B=b::B'→b.a≠0∧kyW cw=b.k):aI sh kd ky pred pw (hdN B) cw sp=(paOf sh kd ky B).plan pred pw (hdN B) cw sp:=by
 have hk:=eD.1 hr
 have he:=Y5 (ky:=ky) h
 have n4: ∀a b:Int,a≠b→ieq a b=false:=fun a b h=>by rw [bI,beq_eq_false_iff_ne];exact h
 have kk:kd=1∨kd=2∨kd=3∨kd=4∨kd=5:=by omega
 unfold aI xQ paOf
 simp only [Tr.val,hr,Bool.not_true,cond_false,he]
 rcases kk with e | e | e | e | e<;>subst e
 ·simp only [n4 1 4 (by decide),bN,n4 1 2 (by decide),n4 1 5 (by decide),n4 1 3 (by decide),cond_false,cond_true]
  cases fndB ky B<;>rfl
 ·simp only [n4 2 4 (by decide),bN,n4 2 1 (by decide),n4 2 5 (by decide),n4 2 3 (by decide),cond_false,cond_true]
  cases fndB ky B<;>rfl
 ·simp only [n4 3 4 (by decide),bN,n4 3 1 (by decide),n4 3 5 (by decide),n4 3 2 (by decide),cond_false,cond_true]
  rfl
 ·simp only [bN,cond_true]
  rfl
 ·simp only [n4 5 4 (by decide),bN,n4 5 1 (by decide),n4 5 3 (by decide),n4 5 2 (by decide),cond_false,cond_true]
  cases B with
  | nil=>rfl
  | cons b B'=>
    obtain⟨h1,h2⟩:=h b B' rfl
    have h2:aA cw 0 10=b.k:=h2
    have h3:ieq (hdN (b::B')) 0=false:=n4 _ _ h1
    simp only [h3,h2,nN,bN,Bool.true_and,cond_false]
    by_cases hs:sh=4
    ·subst hs;rfl
    ·rw [n4 sh 4 hs]
     show _=Pa.plan _ _ _ _ _ (if (5:Int)=4 then _ else _)
     simp only [if_neg hs]
     rfl
theorem zJ{sh kd ky:Int}{B:List Nd}(h:paOf sh kd ky B=.link):bS kd=true:=by
 unfold paOf at h
 by_cases e4:kd=4
 ·subst e4;rfl
 ·rw [if_neg e4]at h
  by_cases e1:kd=1
  ·subst e1;rfl
  ·exfalso
   rw [if_neg e1]at h
   split at h
   ·cases hb:fndB ky B<;>rw [hb]at h<;>cases h
   ·split at h
    ·cases h
    ·split at h
     ·cases h
     ·split at h<;>cases h
theorem u2{sh kd ky:Int}{B:List Nd}(h:bS kd=true):paOf sh kd ky B=.link ∨ ∃b,paOf sh kd ky B=.now b:=by
 unfold bS at h
 unfold paOf
 by_cases e4:kd=4
 ·rw [if_pos e4];exact .inl rfl
 ·by_cases e1:kd=1
  ·rw [if_neg e4,if_pos e1]
   cases fndB ky B
   ·exact .inl rfl
   ·exact .inr ⟨_,rfl⟩
  ·exfalso
   simp only [bI,Bool.or_eq_true,beq_iff_eq]at h
   omega
theorem zK{sh kd ky v:Int}{B:List Nd}(h:paOf sh kd ky B=.mark v): ∃b B',B=b::B':=by
 cases B with
 | cons b B'=>exact⟨b,B',rfl⟩
 | nil=>
   exfalso
   unfold paOf at h
   simp only [show fndB ky []=false from rfl,cond_false]at h
   repeat' split at h
   all_goals cases h
theorem OV{sh kd ky v:Int}{B:List Nd}(h:paOf sh kd ky B=.pop v): ∃b B',B=b::B':=by
 cases B with
 | cons b B'=>exact⟨b,B',rfl⟩
 | nil=>
   exfalso
   unfold paOf at h
   simp only [show fndB ky []=false from rfl,cond_false]at h
   repeat' split at h
   all_goals cases h
theorem tC{n:Int}{xs ys:List Int} : ∀ {L:List Nd} {a a':Int},ch n xs a L→nxW (aB ys a')=nxW (aB xs a)→(∀c,c∈L.map Nd.a→aB ys c=aB xs c)→ch n ys a' L
 | [],a,a',h,e,_=>e.trans h
 | b::L,a,a',h,e,f=>by
   obtain⟨h1,h2,h3,h4,h5,h6⟩:=h
   have eb:=f b.a (by simp)
   exact⟨e.trans h1,h2,by rw [eb];exact h3,by rw [eb];exact h4,by rw [eb];exact h5,tC h6 (by rw [eb]) (fun c hc=>f c (by rw [List.map_cons];exact List.mem_cons_of_mem _ hc))⟩
theorem A0{n:Int}{xs:List Int}{B:List Nd} : ∀ {A:List Nd} {p:Int},ch n xs p (A++B)→ch n xs ((A.map Nd.a).getLastD p) B
 | [],p,h=>h
 | b::A,p,h=>by
   rw [List.map_cons,List.getLastD_cons]
   exact A0 h.2.2.2.2.2
theorem uR(p:Int): ∀A:List Int,A.getLastD p∈p::A
 | []=>List.mem_cons_self ..
 | b::A=>by
   rw [List.getLastD_cons]
   exact List.mem_cons_of_mem _ (uR b A)
theorem tD{n:Int}{xs ys:List Int}{B B':List Nd} : ∀ {A:List Nd} {p:Int},ch n xs p (A++B)→(p::A.map Nd.a).Nodup →
 (∀c,c∈p::A.map Nd.a→c≠(A.map Nd.a).getLastD p→aB ys c=aB xs c)→
 (kyW (aB ys ((A.map Nd.a).getLastD p))=kyW (aB xs ((A.map Nd.a).getLastD p))∧mkW (aB ys ((A.map Nd.a).getLastD p))=mkW (aB xs ((A.map Nd.a).getLastD p))∧clW' (aB ys ((A.map Nd.a).getLastD p))=clW' (aB xs ((A.map Nd.a).getLastD p)))→
 ch n ys ((A.map Nd.a).getLastD p) B'→ch n ys p (A++B')
 | [],p,h,_,_,_,hb=>hb
 | b::A,p,h,nd,e,l3,hb=>by
   rw [List.map_cons,List.getLastD_cons]at e l3 hb
   obtain⟨h1,h2,h3,h4,h5,h6⟩:=h
   have nd':(b.a::A.map Nd.a).Nodup :=by rw [List.map_cons]at nd;exact(List.nodup_cons.1 nd).2
   have hp:p≠(A.map Nd.a).getLastD b.a:=by
    intro e;rw [List.map_cons]at nd
    exact(List.nodup_cons.1 nd).1 (by have:=uR b.a (A.map Nd.a);rw [←e]at this;exact this)
   have hb3:kyW (aB ys b.a)=kyW (aB xs b.a)∧mkW (aB ys b.a)=mkW (aB xs b.a)∧clW' (aB ys b.a)=clW' (aB xs b.a):=by
    by_cases hl:b.a=(A.map Nd.a).getLastD b.a
    ·rw [←hl]at l3;exact l3
    ·rw [e b.a (List.mem_cons_of_mem _ (List.mem_cons_self ..)) hl];exact⟨rfl,rfl,rfl⟩
   refine⟨by rw [e p (List.mem_cons_self ..) hp];exact h1,h2,hb3.1.trans h3,hb3.2.1.trans h4,hb3.2.2.trans h5,tD h6 nd' (fun c hc hl=>e c (List.mem_cons_of_mem _ hc) hl) l3 hb⟩
theorem GO{n:Int}{xs:List Int}{B:List Nd} : ∀ {A:List Nd} {p:Int},ch n xs p (A++B)→clW' (aB xs p)=0→mkW (aB xs p)=false→(∀b∈A,b.m=false)→clW' (aB xs ((A.map Nd.a).getLastD p))=0∧mkW (aB xs ((A.map Nd.a).getLastD p))=false
 | [],p,_,c,m,_=>⟨c,m⟩
 | b::A,p,h,_,_,hm=>by
   rw [List.map_cons,List.getLastD_cons]
   obtain⟨h1,h2,h3,h4,h5,h6⟩:=h
   exact GO h6 h5 (h4.trans (hm b (List.mem_cons_self ..))) (fun c hc=>hm c (List.mem_cons_of_mem _ hc))
theorem xV(k:Int): ∀L:List Nd,∀b∈(sc k L).1,b.m=false
 | [],b,h=>by cases h
 | c::L,b,h=>by
   cases hm:c.m with
   | true=>rw [jY hm]at h;exact xV k L b h
   | false=>
     by_cases hk:k≤c.k
     ·rw [jZ hm hk]at h;cases h
     ·rw [iU hm (by omega)]at h
      rcases List.mem_cons.1 h with e | e
      ·rw [e];exact hm
      ·exact xV k L b e
theorem IA(k:Int): ∀L:List Nd,∀b B,(sc k L).2.2=b::B→b.m=false∧k≤b.k
 | [],b,B,h=>by cases h
 | c::L,b,B,h=>by
   cases hm:c.m with
   | true=>rw [jY hm]at h;exact IA k L b B h
   | false=>
     by_cases hk:k≤c.k
     ·rw [jZ hm hk]at h
      simp only [lI']at h
      obtain⟨rfl,_⟩:=h
      exact⟨hm,hk⟩
     ·rw [iU hm (by omega)]at h;exact IA k L b B h
def aBN(ky nx f:Int):Int:=bD ky nx false 0 (aQ (vrW f))
theorem UN{t n:Int}{x:PRS}{st:STS}{s:MS}(h:x.loaded=false):prF t n x st s=⟨false,{x with found:=aB s.xs st.sp,loaded:=true},st,s.loadd st.sp⟩:=by
 unfold prF WG LB
 simp only [Tr.val,h,Bool.not_false,cond_true]
 rfl
theorem PC{t n:Int}{x:PRS}{st:STS}{s:MS}(h:x.loaded=true)(hk:0≤x.key∧x.key<1024)(hn:0≤x.nxt∧x.nxt<512):prF t n x st s=⟨true,x,st,s.stored st.sp (aBN x.key x.nxt x.found)⟩:=by
 unfold prF WG LB
 have h1:aG x.1 10=true:=eG.2 hk
 have h2:aG x.2 9=true:=eG.2 hn
 have h3:aG 0 5=true:=by decide
 simp only [Tr.val,h,h1,h2,h3,rL,Bool.not_true,cond_true,cond_false]
 rfl
theorem Z8{k n f:Int}(hk:0≤k∧k<1024)(hn:0≤n∧n<512):okF k n 0 (aQ (vrW f)):=⟨hk,hn,⟨by decide,by decide⟩,qL _⟩
def Q8(old nx:Int)(m:Bool):Int:=bD (kyW old) nx m 0 (aQ (vrW old))
theorem D5(old:Int){nx:Int}(hn:0≤nx∧nx<512):okF (kyW old) nx 0 (aQ (vrW old)):=by
 refine⟨?_,hn,⟨by decide,by decide⟩,qL _⟩
 have:=lY (x:=old) (a:=0) (w:=10);simpa using this
theorem vB{code:Int}{okk:Bool}{val addr old nx:Int}{m:Bool}{pops:Int}(hn:0≤nx∧nx<512):cY false code okk val addr old nx m pops=Q8 old nx m:=by
 unfold cY sB
 have h2:aG nx 9=true:=eG.2 hn
 have h3:aG 0 5=true:=by decide
 simp only [Tr.val,h2,h3,HN,rL,cond_true,cond_false]
 rfl
theorem u6{code:Int}{okk:Bool}{val addr old nx:Int}{m:Bool}{pops:Int}(h:clW' old=0):kO false code okk val addr old nx m pops=false:=by
 unfold kO sA
 have h:aA old 20 5=0:=h
 simp only [Tr.val,h,bN,Bool.not_false,Bool.not_true,cond_true]
theorem qN(x:Int):0≤nxW x∧nxW x<512:=by
 have:=lY (x:=x) (a:=10) (w:=9);simpa using this
def ftG(t n:Int)(p:FTS×STS×MS):Bool×(FTS×STS×MS):=((ftF t n p.1 p.2.1 p.2.2).d,((ftF t n p.1 p.2.1 p.2.2).x,(ftF t n p.1 p.2.1 p.2.2).st,(ftF t n p.1 p.2.1 p.2.2).s))
theorem rM{t n:Int}{x:FTS}{st:STS}{s:MS}{d:Bool}{x':FTS}{st':STS}{s':MS}(h:ftF t n x st s=⟨d,x',st',s'⟩):ftG t n (x,st,s)=(d,(x',st',s')):=by
 unfold ftG;rw [h]
structure VZ (x:FTS) (st:STS):Prop where
 r:aY x.sh x.kd x.ky=true
 l:bS x.kd=true→st.sp≠0
theorem TC{t n:Int}{x:FTS}{st:STS}{s:MS}{fn:FNS}{s':MS}(h0:x.at'=0)(hm:VZ x st)(hf:fnF t n x.fn s=⟨false,fn,s'⟩):ftF t n x st s=⟨false,{x with fn:=fn,at':=0,cl:=bC,pr:=cQ},st,s'⟩:=by
 unfold ftF N0
 rw [h0]
 show(qC t n x st s).val =_
 unfold qC
 have hr:aY x.6 x.7 x.8=true:=hm.r
 have hf:fnF t n x.12 s=⟨false,fn,s'⟩:=hf
 cases hl:bS x.7 with
 | false=>simp only [Tr.val,hr,hl,hf,Bool.not_true,cond_false]
 | true=>
   have h2:ieq st.2 0=false:=by rw [bI,beq_eq_false_iff_ne];exact hm.l hl
   simp only [Tr.val,hr,hl,h2,hf,Bool.not_true,cond_true,cond_false]
theorem J7{t n:Int}{x:FTS}{st:STS}{s:MS}{fn:FNS}{s':MS}{p:PLN}(h0:x.at'=0)(hm:VZ x st)(hf:fnF t n x.fn s=⟨true,fn,s'⟩)(ht:x.tries=0)(hft:fn.tries=0)(hmo:0≤x.most)
 (hp:aI x.sh x.kd x.ky fn.pred fn.pw fn.curr fn.cw st.sp=p) (hc:kO p.now p.code p.okk p.val p.addr p.old p.nxt p.mark p.pops=false):
 ftF t n x st s=bif p.now then⟨true,{x with code:=p.code,okk:=p.okk,val:=p.val,failed:=false,tries:=0,at':=0,p:=p,fn:=aM,cl:=bC,pr:=cQ},⟨st.me,st.sp,st.R++fn.ul⟩,s'⟩
  else bif bS x.kd then⟨false,{x with failed:=false,tries:=0,at':=2,p:=p,fn:=aM,cl:=bC,pr:=⟨x.ky,fn.curr,0,false⟩ },⟨st.me,st.sp,st.R++fn.ul⟩,s'⟩
  else⟨false,{x with failed:=false,tries:=0,at':=3,p:=p,fn:=aM,cl:=bC,pr:=cQ},⟨st.me,st.sp,st.R++fn.ul⟩,s'⟩:=by
 unfold ftF N0
 rw [h0]
 show(qC t n x st s).val =_
 unfold qC
 have hr:aY x.6 x.7 x.8=true:=hm.r
 have hf:fnF t n x.12 s=⟨true,fn,s'⟩:=hf
 have ht:x.5=0:=ht
 have hft:fn.5=0:=hft
 have hw:W (0+0)=0:=by decide
 have hl:ilt x.9 0=false:=by rw [bU];exact decide_eq_false (by have:0≤x.9:=hmo;omega)
 have hp:aI x.6 x.7 x.8 fn.1 fn.2 fn.3 fn.4 st.2=p:=hp
 have hc:kO p.1 p.2 p.3 p.4 p.5 p.6 p.7 p.8 p.9=false:=hc
 cases hlk:bS x.7 with
 | false=>
   simp only [Tr.val,hr,hlk,hf,ht,hft,hw,hl,hp,hc,Bool.not_true,cond_true,cond_false]
   try (cases p.now<;>rfl)
 | true=>
   have h2:ieq st.2 0=false:=by rw [bI,beq_eq_false_iff_ne];exact hm.l hlk
   simp only [Tr.val,hr,hlk,h2,hf,ht,hft,hw,hl,hp,hc,Bool.not_true,cond_true,cond_false]
   try (cases p.now<;>rfl)
theorem TD{t n:Int}{x:FTS}{st:STS}{s:MS}{y:PRS}{s':MS}(h0:x.at'=2)(hf:prF t n x.pr st s=⟨false,y,st,s'⟩):ftF t n x st s=⟨false,{x with at':=2,fn:=aM,cl:=bC,pr:=y},st,s'⟩:=by
 unfold ftF N0
 rw [h0]
 show(qD t n x st s).val =_
 unfold qD
 have hf:prF t n x.14 st s=⟨false,y,st,s'⟩:=hf
 simp only [Tr.val,hf,cond_false]
theorem N1{t n:Int}{x:FTS}{st:STS}{s:MS}{y:PRS}{s':MS}(h0:x.at'=2)(hf:prF t n x.pr st s=⟨true,y,st,s'⟩):ftF t n x st s=⟨false,{x with at':=3,fn:=aM,cl:=bC,pr:=cQ},st,s'⟩:=by
 unfold ftF N0
 rw [h0]
 show(qD t n x st s).val =_
 unfold qD
 have hf:prF t n x.14 st s=⟨true,y,st,s'⟩:=hf
 simp only [Tr.val,hf,cond_true]
theorem rN{t n:Int}{x:FTS}{st:STS}{s:MS}{w:Int}(h0:x.at'=3)(hc:aR s.xs x.p.addr x.p.old=true)(hw:cY x.p.now x.p.code x.p.okk x.p.val x.p.addr x.p.old x.p.nxt x.p.mark x.p.pops=w):
 ftF t n x st s=⟨true,{x with code:=x.p.code,okk:=x.p.okk,val:=x.p.val,at':=3,fn:=aM,cl:=bC,pr:=cQ},⟨st.me,bif bS x.kd then 0 else st.sp,bif ieq x.p.pops 0 then st.R else st.R++ [x.p.pops]⟩,s.cased x.p.addr x.p.old w⟩:=by
 unfold ftF N0
 rw [h0]
 show(uO t n x st s).val =_
 unfold uO
 have hc':aR s.3 (FTS.p x).5 (FTS.p x).6=true:=hc
 have hw:cY (FTS.p x).1 (FTS.p x).2 (FTS.p x).3 (FTS.p x).4 (FTS.p x).5 (FTS.p x).6 (FTS.p x).7 (FTS.p x).8 (FTS.p x).9=w:=hw
 have hi:bM s.3 (FTS.p x).5=true:=by
  unfold aR at hc'
  exact(Bool.and_eq_true_iff.1 hc').1
 simp only [Tr.val,hc',hw,hi,Bool.not_true,cond_true,cond_false]
 unfold MS.cased MS.did
 simp only [hc,show bM s.xs x.p.addr=true from hi,cond_true]
 cases hlk:bS x.7<;>cases hpp:ieq (FTS.p x).9 0<;>simp only [hlk,hpp,Bool.not_true,Bool.not_false,cond_true,cond_false]<;>rfl
theorem tJ{t n:Int}{a:FNS×MS}{d:Bool}{b:FNS×MS}(h:AF t n a=(d,b)):fnF t n a.1 a.2=⟨d,b.1,b.2⟩:=by
 unfold AF at h
 rw [pI']at h
 obtain⟨rfl,rfl⟩:=h
 rfl
theorem K3{code:Int}{okk:Bool}{val addr old nx:Int}{m:Bool}{pops:Int} :kO true code okk val addr old nx m pops=false:=rfl
structure LC (t n me p:Int) (L:List Nd) (xs:List Int):Prop where
 ht:1≤t∧t≤1000
 hn:1≤n∧n≤500
 len:(xs.length:Int)=2*n+5*t+6
 me:0≤me∧me<t
 hp:1≤p∧p≤n+4
 mp:mkW (aB xs p)=false
 cp:clW' (aB xs p)=0
 ch:ch n xs p L
 nd:(p::L.map Nd.a).Nodup
 ln:(L.length:Int)≤n
theorem LC.fc{t n me p:Int}{L:List Nd}{s:MS}(h:LC t n me p L s.xs)(hd key lim:Int):FC t n p L (lC t n me hd key lim) s:=
 ⟨h.ht,⟨h.hn.1,by have:=h.hn.2;omega⟩,h.len,h.me,h.hp,h.mp,h.cp,h.ch,h.nd,⟨Int.le_refl 0,by show(0:Int)+L.length≤n;have:=h.ln;omega⟩⟩
structure FtA (n me p:Int) (L:List Nd) (k ky sp:Int) (a:Pa) (s s':MS) (j:Nat):Prop where
 ch:ch n s'.xs p ((sc k L).1++a.new ky sp (sc k L).2.2)
 mp:mkW (aB s'.xs p)=false
 cp:clW' (aB s'.xs p)=0
 same: ∀b,b≠2*n+5+2*me→b≠2*n+5+2*me+1→b∉p::L.map Nd.a→b≠sp→aB s'.xs b=aB s.xs b
 t:s'.t=s.t
 n:s'.n=s.n
 c:s'.c=s.c+j
 len:s'.xs.length=s.xs.length
 okw:okW s.xs→okW s'.xs
 lim:j≤5*L.length+4
theorem zA{t n:Int}{j j':Nat}{a b:FTS×STS×MS}{z:FTS}{st' st2:STS}{s':MS}{ok:Bool}{v:Int}(hj:j=j'+1)(h:Go1 (ftG t n) j' a b)(e:ftG t n b=(true,(z,st',s')))(hs:st'=st2)
 (hz:z.code=0∧z.okk=ok∧z.val=v∧z.failed=false∧z.tries=0): ∃z:FTS,End (ftG t n) j a (z,st2,s')∧z.code=0∧z.okk=ok∧z.val=v∧z.failed=false∧z.tries=0:=by
 subst hs
 exact⟨z,⟨j',b,hj,h,e⟩,hz⟩
theorem EL{t n:Int}{sh kd ky:Int}{st:STS}{s:MS}{L:List Nd}(hr:aY sh kd ky=true)(h:LC t n st.me (n+1+cB sh ky) L s.xs)
 (hl:bS kd=true→1≤st.sp∧st.sp≤n∧st.sp∉L.map Nd.a):
 ∃j s',FtA n st.me (n+1+cB sh ky) L (bT sh kd ky) ky st.sp (paOf sh kd ky (sc (bT sh kd ky) L).2.2) s s' j∧
  ∀most,0≤most→ ∃z:FTS,End (ftG t n) j ((ftNF t n sh kd ky most st).1,st,s) (z,⟨st.me,(paOf sh kd ky (sc (bT sh kd ky) L).2.2).sp st.sp,st.R++(sc (bT sh kd ky) L).2.1.map Nd.a++(paOf sh kd ky (sc (bT sh kd ky) L).2.2).pops (sc (bT sh kd ky) L).2.2⟩,s')∧
   z.code=0∧z.okk=(paOf sh kd ky (sc (bT sh kd ky) L).2.2).ok ∧z.val=(paOf sh kd ky (sc (bT sh kd ky) L).2.2).val ∧z.failed=false∧z.tries=0:=by
 have hrng:=eD.1 hr
 generalize hp:n+1+cB sh ky=p at h⊢
 generalize hk:bT sh kd ky=key at⊢
 obtain⟨j,z,s1,e,f,hj⟩:=NS (t:=t) (n:=n) L p (lC t n st.me (cB sh ky) key 0) s rfl hp (h.fc _ _ _)
 have fch:ch n s1.xs p ((sc key L).1++(sc key L).2.2):=f.ch
 have fpr:z.pred=((sc key L).1.map Nd.a).getLastD p:=f.pred
 have fcu:z.curr=hdN (sc key L).2.2:=f.curr
 have fcw:z.cw=hdWd s1.xs (sc key L).2.2:=f.cw
 have ful:z.ul=(sc key L).2.1.map Nd.a:=by have:=f.ul;exact this.trans (List.nil_append _)
 have fsame: ∀a,a≠2*n+5+2*st.me→a≠2*n+5+2*st.me+1→a∉p::(sc key L).1.map Nd.a→aB s1.xs a=aB s.xs a:=f.same
 have fpw:=f.pw
 have hA:=xV key L
 have hsub:=zT key L
 have hAL: ∀a,a∈(sc key L).1.map Nd.a→a∈L.map Nd.a:=fun a=>jJ (tO key L)
 have hBL: ∀a,a∈(sc key L).2.2.map Nd.a→a∈L.map Nd.a:=fun a=>jJ ((List.sublist_append_right _ _).trans hsub)
 have hnd:(p::((sc key L).1++(sc key L).2.2).map Nd.a).Nodup :=by
  refine List.Sublist.nodup ?_ h.nd
  exact List.Sublist.cons₂ _ (hsub.map _)
 have hmp1:mkW (aB s1.xs p)=false:=f.p3.2.1.trans h.mp
 have hcp1:clW' (aB s1.xs p)=0:=f.p3.2.2.trans h.cp
 generalize hA0:(sc key L).1=A at*
 generalize (sc key L).2.1=U at*
 generalize hB:(sc key L).2.2=B at*
 have hsp:=A0 fch
 have hlast:=GO fch hcp1 hmp1 hA
 rw [←fpr]at hsp hlast
 have hbb: ∀b B',B=b::B'→(b.a≠0∧kyW z.cw=b.k)∧1≤b.a∧b.a≤n∧z.cw=aB s1.xs b.a∧clW' z.cw=0∧ch n s1.xs b.a B'∧nxW (aB s1.xs z.pred)=b.a:=by
  rintro b B' rfl
  obtain⟨h1,h2,h3,h4,h5,h6⟩:=hsp
  have e1:z.cw=aB s1.xs b.a:=fcw
  rw [←e1]at h3 h5
  exact⟨⟨by omega,h3⟩,h2.1,h2.2,e1,h5,h6,h1⟩
 have hplan:=UG (pred:=z.pred) (pw:=z.pw) (sp:=st.sp) hr (fun b B' h=>(hbb b B' h).1)
 have hnA:(p::A.map Nd.a).Nodup :=by
  refine List.Sublist.nodup ?_ hnd
  refine List.Sublist.cons₂ _ ?_
  rw [List.map_append]
  exact List.sublist_append_left _ _
 have hnB: ∀a,a∈p::A.map Nd.a→a∉B.map Nd.a:=by
  intro a ha hb
  rw [List.map_append,←List.cons_append]at hnd
  exact(List.nodup_append.1 hnd).2.2 a ha a hb rfl
 have hpm:z.pred∈p::A.map Nd.a:=by rw [fpr];exact uR _ _
 have hpL:z.pred∈p::L.map Nd.a:=by
  rcases List.mem_cons.1 hpm with q | q
  ·rw [q];exact List.mem_cons_self ..
  ·exact List.mem_cons_of_mem _ (hAL _ q)
 have hprg:1≤z.pred∧z.pred≤n+4:=by
  rcases List.mem_cons.1 hpL with q | q
  ·rw [q];exact h.hp
  ·obtain⟨c,hc,q⟩:=List.mem_map.1 q
   have:=D4 h.ch c hc
   omega
 have hlen1:(s1.xs.length:Int)=2*n+5*t+6:=by rw [f.len];exact h.len
 have hin:0≤z.pred∧z.pred<s1.xs.length:=by have:=h.ht;omega
 have htn:=h.hn
 have hme:=h.me
 have walk: ∀most,0≤most→ ∃(j':Nat) (b:FNS×MS),j=j'+1∧Go1 (ftG t n) j' ((ftNF t n sh kd ky most st).1,st,s) ({ (ftNF t n sh kd ky most st).1 with fn:=b.1,at':=0,cl:=bC,pr:=cQ},st,b.2)∧fnF t n b.1 b.2=⟨true,{z with limit:=W (most - 0) },s1⟩:=by
  intro most hmo
  obtain⟨j',b,h1,h2,h3⟩:=e (W (most - 0))
  refine⟨j',b,h1,?_,tJ h3⟩
  have:=aDW (G:=ftG t n) (fun q:FNS×MS=>(({ (ftNF t n sh kd ky most st).1 with fn:=q.1,at':=0,cl:=bC,pr:=cQ} :FTS),st,q.2)) ?_ h2
  ·have e0:((ftNF t n sh kd ky most st).1:FTS)= { (ftNF t n sh kd ky most st).1 with fn:= {lC t n st.me (cB sh ky) key 0 with limit:=W (most - 0) },at':=0,cl:=bC,pr:=cQ} :=by
    subst hk;rfl
   rw [e0]
   exact this
  ·intro a c hac
   exact rM (TC (x:= { (ftNF t n sh kd ky most st).1 with fn:=a.1,at':=0,cl:=bC,pr:=cQ}) rfl ⟨hr,fun hlk=>by have:=hl hlk;omega⟩ (tJ hac))
 obtain⟨P,hP⟩: ∃P:PLN,P=(paOf sh kd ky B).plan z.pred z.pw (hdN B) z.cw st.sp:=⟨_,rfl⟩
 rw [←hP]at hplan
 have sought: ∀most,0≤most→ ∀b:FNS×MS,fnF t n b.1 b.2=⟨true,{z with limit:=W (most - 0) },s1⟩→kO P.now P.code P.okk P.val P.addr P.old P.nxt P.mark P.pops=false→
  ftG t n (({ (ftNF t n sh kd ky most st).1 with fn:=b.1,at':=0,cl:=bC,pr:=cQ} :FTS),st,b.2)=
   bif P.now then(true,(({ (ftNF t n sh kd ky most st).1 with code:=P.code,okk:=P.okk,val:=P.val,failed:=false,tries:=0,at':=0,p:=P,fn:=aM,cl:=bC,pr:=cQ} :FTS),(⟨st.me,st.sp,st.R++U.map Nd.a⟩:STS),s1))
   else bif bS kd then(false,(({ (ftNF t n sh kd ky most st).1 with failed:=false,tries:=0,at':=2,p:=P,fn:=aM,cl:=bC,pr:=⟨ky,hdN B,0,false⟩ } :FTS),(⟨st.me,st.sp,st.R++U.map Nd.a⟩:STS),s1))
   else(false,(({ (ftNF t n sh kd ky most st).1 with failed:=false,tries:=0,at':=3,p:=P,fn:=aM,cl:=bC,pr:=cQ} :FTS),(⟨st.me,st.sp,st.R++U.map Nd.a⟩:STS),s1)):=by
  intro most hmo b hb hc
  have:=J7 (x:= { (ftNF t n sh kd ky most st).1 with fn:=b.1,at':=0,cl:=bC,pr:=cQ}) (st:=st) (p:=P) rfl ⟨hr,fun hlk=>by have:=hl hlk;omega⟩ hb rfl f.tries hmo (by show aI sh kd ky z.pred z.pw z.curr z.cw st.sp=P;rw [fcu];exact hplan) hc
  unfold ftG
  rw [this]
  dsimp only
  rw [ful,fcu]
  have hkd:(ftNF t n sh kd ky most st).fst.kd =kd:=rfl
  rw [hkd]
  cases P.now
  ·cases bS kd<;>rfl
  ·rfl
 have hmemB: ∀b B',B=b::B'→b.a∈L.map Nd.a:=by
  rintro b B' rfl;exact hBL _ (by simp)
 generalize hact:paOf sh kd ky B=act at hP⊢
 cases act with
 | now bb=>
   subst hP
   refine⟨j,s1,?_,fun most hmo=>?_⟩
   ·refine {ch:=by rw [hA0,hB];exact fch,mp:=hmp1,cp:=hcp1,same:=fun b h0 h1 h2 _=>fsame b h0 h1 (fun hh=>h2 ?_),t:=f.t,n:=f.n,c:=f.c,len:=f.len,okw:=f.okw,lim:=by omega}
    rcases List.mem_cons.1 hh with q | q
    ·rw [q];exact List.mem_cons_self ..
    ·exact List.mem_cons_of_mem _ (hAL _ q)
   ·obtain⟨j',b,h1,h2,h3⟩:=walk most hmo
    have h4:=sought most hmo b h3 K3
    have h4:ftG t n _=(true,(_,_,s1)):=h4
    exact zA h1 h2 h4 (by simp only [Pa.pops,List.append_nil];rfl) ⟨rfl,rfl,rfl,rfl,rfl⟩
 | link=>
   subst hP
   have hlk:=zJ hact
   obtain⟨g1,g2,g3⟩:=hl hlk
   have hspn:z.pred≠st.sp:=by
    intro q
    rcases List.mem_cons.1 hpL with r | r
    ·have:=h.hp;have:=cU sh ky;omega
    ·rw [q]at r;exact g3 r
   have hcr:0≤hdN B∧hdN B<512:=by
    cases hBB:B with
    | nil=>exact⟨Int.le_refl 0,by show(0:Int)<512;decide⟩
    | cons b B'=>have:=hbb b B' hBB;show 0≤b.a∧b.a<512;omega
   have hky:0≤ky∧ky<1024:=by omega
   have hspi:0≤st.sp∧st.sp<s1.xs.length:=by have:=h.ht;omega
   let s2:=s1.loadd st.sp
   let nw:=aBN ky (hdN B) (aB s1.xs st.sp)
   let s3:=s2.stored st.sp nw
   let w:=Q8 z.pw st.sp (mkW z.pw)
   let s4:=s3.cased z.pred z.pw w
   have x3: ∀a,a≠st.sp→aB s3.xs a=aB s1.xs a:=fun a ha=>cK ha
   have x3s:aB s3.xs st.sp=nw:=dM hspi
   have l3:s3.xs.length=s1.xs.length:=b8 _ _ _
   have hin3:0≤z.pred∧z.pred<s3.xs.length:=by rw [l3];exact hin
   have hcas:=iZ hin3 ((x3 _ hspn).trans fpw.symm)
   have s4x:s4.xs=aL s3.xs z.pred w:=mR hcas
   have x4: ∀a,a≠z.pred→aB s4.xs a=aB s3.xs a:=fun a ha=>by rw [s4x,cK ha]
   have x4p:aB s4.xs z.pred=w:=by rw [s4x,dM hin3]
   have l4:s4.xs.length=s1.xs.length:=by rw [s4x,b8];exact l3
   have hnok:=Z8 (f:=aB s1.xs st.sp) hky hcr
   have hwok:=D5 z.pw (nx:=st.sp) ⟨by omega,by omega⟩
   have hspA:st.sp∉p::A.map Nd.a:=by
    intro q
    rcases List.mem_cons.1 q with r | r
    ·have:=h.hp;have:=cU sh ky;omega
    ·exact g3 (hAL _ r)
   have hspB:st.sp∉B.map Nd.a:=fun q=>g3 (hBL _ q)
   have hpB:z.pred∉B.map Nd.a:=hnB _ hpm
   refine⟨j+3,s4,?_,fun most hmo=>?_⟩
   ·refine {ch:=?_,mp:=?_,cp:=?_,same:=fun b h0 h1 h2 h3=>?_,t:=f.t,n:=f.n,c:=?_,len:=l4.trans f.len,okw:=fun q=>?_,lim:=by omega}
    ·rw [hA0,hB]
     refine tD fch hnA ?_ ?_ ?_
     ·intro c hc hcl
      rw [←fpr]at hcl
      rw [x4 c hcl,x3 c (fun q=>hspA (by rw [←q];exact hc))]
     ·rw [←fpr,x4p,←fpw]
      exact⟨uC hwok,oM hwok,(pP hwok).trans (by rw [fpw];exact hlast.1.symm)⟩
     ·rw [←fpr]
      refine⟨by rw [x4p];exact sN hwok,⟨g1,g2⟩,?_,?_,?_,?_⟩
      ·rw [x4 _ (Ne.symm hspn),x3s];exact uC hnok
      ·rw [x4 _ (Ne.symm hspn),x3s];exact oM hnok
      ·rw [x4 _ (Ne.symm hspn),x3s];exact pP hnok
      ·refine tC hsp ?_ (fun c hc=>?_)
       ·rw [x4 _ (Ne.symm hspn),x3s]
        exact(sN hnok).trans (MP hsp).symm
       ·rw [x4 c (fun q=>hpB (by rw [←q];exact hc)),x3 c (fun q=>hspB (by rw [←q];exact hc))]
    ·by_cases q:p=z.pred
     ·rw [q,x4p,←hlast.2,←fpw];exact oM hwok
     ·rw [x4 p q,x3 p (fun r=>hspA (by rw [←r];exact List.mem_cons_self ..))];exact hmp1
    ·by_cases q:p=z.pred
     ·rw [q,x4p];exact pP hwok
     ·rw [x4 p q,x3 p (fun r=>hspA (by rw [←r];exact List.mem_cons_self ..))];exact hcp1
    ·rw [x4 b (fun q=>h2 (by rw [q];exact hpL)),x3 b h3]
     refine fsame b h0 h1 (fun hh=>h2 ?_)
     rcases List.mem_cons.1 hh with q | q
     ·rw [q];exact List.mem_cons_self ..
     ·exact List.mem_cons_of_mem _ (hAL _ q)
    ·show s1.c+1+1+1=s.c+((j+3:Nat):Int);rw [f.c];omega
    ·rw [s4x];exact d9 (d9 (f.okw q) (mA hnok)) (mA hwok)
   ·obtain⟨j',b,h1,h2,h3⟩:=walk most hmo
    have h4:=sought most hmo b h3 (u6 (by show clW' z.pw=0;rw [fpw];exact hlast.1))
    rw [hlk]at h4
    have h4:ftG t n _=(false,(_,_,s1)):=h4
    have h5:=rM (TD (t:=t) (n:=n) (x:= { (ftNF t n sh kd ky most st).1 with failed:=false,tries:=0,at':=2,p:=Pa.plan z.pred z.pw (hdN B) z.cw st.sp .link,fn:=aM,cl:=bC,pr:=⟨ky,hdN B,0,false⟩ }) (st:=⟨st.me,st.sp,st.R++U.map Nd.a⟩) (s:=s1) rfl (UN rfl))
    have h6:=rM (N1 (t:=t) (n:=n) (x:= { (ftNF t n sh kd ky most st).1 with failed:=false,tries:=0,at':=2,p:=Pa.plan z.pred z.pw (hdN B) z.cw st.sp .link,fn:=aM,cl:=bC,pr:=⟨ky,hdN B,aB s1.xs st.sp,true⟩ }) (st:=⟨st.me,st.sp,st.R++U.map Nd.a⟩) (s:=s2) rfl (PC rfl hky hcr))
    have h7:=rM (rN (t:=t) (n:=n) (x:= { (ftNF t n sh kd ky most st).1 with failed:=false,tries:=0,at':=3,p:=Pa.plan z.pred z.pw (hdN B) z.cw st.sp .link,fn:=aM,cl:=bC,pr:=cQ}) (st:=⟨st.me,st.sp,st.R++U.map Nd.a⟩) (s:=s3) rfl hcas (vB (m:=mkW z.pw) (by show 0≤st.sp∧st.sp<512;omega)))
    have e1:bS ((ftNF t n sh kd ky most st).1).kd =true:=hlk
    exact zA (by omega) (h2.trans (Go1.cons h4 (Go1.cons h5 (Go1.one h6)))) h7 (by simp only [e1,Pa.pops,List.append_nil,cond_true];rfl) ⟨rfl,rfl,rfl,rfl,rfl⟩
 | mark v=>
   subst hP
   have hlk:bS kd=false:=by
    cases hq:bS kd with
    | false=>rfl
    | true=>rcases u2 (sh:=sh) (ky:=ky) (B:=B) hq with q | ⟨_,q⟩<;>rw [hact]at q<;>cases q
   obtain⟨b,B',hBB⟩:=zK hact
   obtain⟨⟨hb0,hbk⟩,hb1,hb2,hbw,hbc,hch2,hnx⟩:=hbb b B' hBB
   have hcu:hdN B=b.a:=by rw [hBB];rfl
   have hbm:mkW (aB s1.xs b.a)=false:=by
    have:=(IA key L b B' (by rw [hB];exact hBB)).1
    rw [hBB]at hsp
    exact hsp.2.2.2.1.trans this
   have hbi:0≤b.a∧b.a<s1.xs.length:=by have:=h.ht;omega
   let w:=Q8 z.cw (nxW z.cw) true
   let s4:=s1.cased b.a z.cw w
   have hcas:aR s1.xs (hdN B) z.cw=true:=by rw [hcu];exact iZ hbi hbw.symm
   have s4x:s4.xs=aL s1.xs b.a w:=mR (by rw [←hcu];exact hcas)
   have x4: ∀a,a≠b.a→aB s4.xs a=aB s1.xs a:=fun a ha=>by rw [s4x,cK ha]
   have x4p:aB s4.xs b.a=w:=by rw [s4x,dM hbi]
   have l4:s4.xs.length=s1.xs.length:=by rw [s4x,b8]
   have hwok:=D5 z.cw (nx:=nxW z.cw) (qN _)
   have hbA:b.a∉p::A.map Nd.a:=fun q=>hnB _ q (by rw [hBB];simp)
   have hbB:b.a∉B'.map Nd.a:=by
    have:=hnd
    rw [hBB,List.map_append,←List.cons_append]at this
    exact(List.nodup_cons.1 (List.nodup_append.1 this).2.1).1
   refine⟨j+1,s4,?_,fun most hmo=>?_⟩
   ·refine {ch:=?_,mp:=?_,cp:=?_,same:=fun c h0 h1 h2 h3=>?_,t:=f.t,n:=f.n,c:=?_,len:=l4.trans f.len,okw:=fun q=>?_,lim:=by omega}
    ·rw [hA0,hB,hBB]
     refine tD fch hnA ?_ ?_ ?_
     ·intro c hc _
      exact x4 c (fun q=>hbA (by rw [←q];exact hc))
     ·rw [←fpr,x4 z.pred (fun q=>hbA (by rw [←q];exact hpm))]
      exact⟨rfl,rfl,rfl⟩
     ·rw [←fpr]
      refine⟨?_,⟨hb1,hb2⟩,?_,?_,?_,?_⟩
      ·rw [x4 z.pred (fun q=>hbA (by rw [←q];exact hpm))];exact hnx
      ·rw [x4p];exact(uC hwok).trans hbk
      ·rw [x4p];exact oM hwok
      ·rw [x4p];exact pP hwok
      ·refine tC hch2 ?_ (fun c hc=>x4 c (fun q=>hbB (by rw [←q];exact hc)))
       rw [x4p,←hbw];exact sN hwok
    ·rw [x4 p (fun q=>hbA (by rw [←q];exact List.mem_cons_self ..))];exact hmp1
    ·rw [x4 p (fun q=>hbA (by rw [←q];exact List.mem_cons_self ..))];exact hcp1
    ·rw [x4 c (fun q=>h2 (List.mem_cons_of_mem _ (by rw [q];exact hmemB b B' hBB)))]
     refine fsame c h0 h1 (fun hh=>h2 ?_)
     rcases List.mem_cons.1 hh with q | q
     ·rw [q];exact List.mem_cons_self ..
     ·exact List.mem_cons_of_mem _ (hAL _ q)
    ·show s1.c+1=s.c+((j+1:Nat):Int);rw [f.c];omega
    ·rw [s4x];exact d9 (f.okw q) (mA hwok)
   ·obtain⟨j',b2,h1,h2,h3⟩:=walk most hmo
    have h4:=sought most hmo b2 h3 (u6 (by show clW' z.cw=0;exact hbc))
    rw [hlk]at h4
    have h4:ftG t n _=(false,(_,_,s1)):=h4
    have h7:=rM (rN (t:=t) (n:=n) (x:= { (ftNF t n sh kd ky most st).1 with failed:=false,tries:=0,at':=3,p:=Pa.plan z.pred z.pw (hdN B) z.cw st.sp (.mark v),fn:=aM,cl:=bC,pr:=cQ}) (st:=⟨st.me,st.sp,st.R++U.map Nd.a⟩) (s:=s1) rfl hcas (vB (m:=true) (qN _)))
    have e1:bS ((ftNF t n sh kd ky most st).1).kd =false:=hlk
    have e3:s1.cased (hdN B) z.cw w=s4:=by rw [hcu]
    have h7:ftG t n _=(true,(_,_,s1.cased (hdN B) z.cw w)):=h7
    rw [e3]at h7
    exact zA (by omega) (h2.trans (Go1.one h4)) h7 (by simp only [e1,Pa.pops,List.append_nil,cond_false];rfl) ⟨rfl,rfl,rfl,rfl,rfl⟩
 | pop v=>
   subst hP
   have hlk:bS kd=false:=by
    cases hq:bS kd with
    | false=>rfl
    | true=>rcases u2 (sh:=sh) (ky:=ky) (B:=B) hq with q | ⟨_,q⟩<;>rw [hact]at q<;>cases q
   obtain⟨b,B',hBB⟩:=OV hact
   obtain⟨⟨hb0,hbk⟩,hb1,hb2,hbw,hbc,hch2,hnx⟩:=hbb b B' hBB
   have hcu:hdN B=b.a:=by rw [hBB];rfl
   let w:=Q8 z.pw (nxW z.cw) (mkW z.pw)
   let s4:=s1.cased z.pred z.pw w
   have hcas:=iZ hin fpw.symm
   have s4x:s4.xs=aL s1.xs z.pred w:=mR hcas
   have x4: ∀a,a≠z.pred→aB s4.xs a=aB s1.xs a:=fun a ha=>by rw [s4x,cK ha]
   have x4p:aB s4.xs z.pred=w:=by rw [s4x,dM hin]
   have l4:s4.xs.length=s1.xs.length:=by rw [s4x,b8]
   have hwok:=D5 z.pw (nx:=nxW z.cw) (qN _)
   have hpB:z.pred∉B.map Nd.a:=hnB _ hpm
   refine⟨j+1,s4,?_,fun most hmo=>?_⟩
   ·refine {ch:=?_,mp:=?_,cp:=?_,same:=fun c h0 h1 h2 h3=>?_,t:=f.t,n:=f.n,c:=?_,len:=l4.trans f.len,okw:=fun q=>?_,lim:=by omega}
    ·rw [hA0,hB,hBB]
     refine tD fch hnA ?_ ?_ ?_
     ·intro c hc hcl
      rw [←fpr]at hcl
      exact x4 c hcl
     ·rw [←fpr,x4p,←fpw]
      exact⟨uC hwok,oM hwok,(pP hwok).trans (by rw [fpw];exact hlast.1.symm)⟩
     ·rw [←fpr]
      refine tC hch2 ?_ (fun c hc=>x4 c (fun q=>hpB (by rw [hBB,←q];exact List.mem_cons_of_mem _ hc)))
      rw [x4p,←hbw];exact sN hwok
    ·by_cases q:p=z.pred
     ·rw [q,x4p,←hlast.2,←fpw];exact oM hwok
     ·rw [x4 p q];exact hmp1
    ·by_cases q:p=z.pred
     ·rw [q,x4p];exact pP hwok
     ·rw [x4 p q];exact hcp1
    ·rw [x4 c (fun q=>h2 (by rw [q];exact hpL))]
     refine fsame c h0 h1 (fun hh=>h2 ?_)
     rcases List.mem_cons.1 hh with q | q
     ·rw [q];exact List.mem_cons_self ..
     ·exact List.mem_cons_of_mem _ (hAL _ q)
    ·show s1.c+1=s.c+((j+1:Nat):Int);rw [f.c];omega
    ·rw [s4x];exact d9 (f.okw q) (mA hwok)
   ·obtain⟨j',b2,h1,h2,h3⟩:=walk most hmo
    have h4:=sought most hmo b2 h3 (u6 (by show clW' z.pw=0;rw [fpw];exact hlast.1))
    rw [hlk]at h4
    have h4:ftG t n _=(false,(_,_,s1)):=h4
    have h7:=rM (rN (t:=t) (n:=n) (x:= { (ftNF t n sh kd ky most st).1 with failed:=false,tries:=0,at':=3,p:=Pa.plan z.pred z.pw (hdN B) z.cw st.sp (.pop v),fn:=aM,cl:=bC,pr:=cQ}) (st:=⟨st.me,st.sp,st.R++U.map Nd.a⟩) (s:=s1) rfl hcas (vB (m:=mkW z.pw) (qN _)))
    have e1:bS ((ftNF t n sh kd ky most st).1).kd =false:=hlk
    have e2:ieq (Pa.plan z.pred z.pw (hdN B) z.cw st.sp (.pop v)).pops 0=false:=by
     rw [bI,beq_eq_false_iff_ne];show hdN B≠0;rw [hcu];exact hb0
    refine zA (by omega) (h2.trans (Go1.one h4)) h7 (by simp only [e1,e2,Pa.pops,cond_false];rfl) ⟨rfl,rfl,rfl,rfl,rfl⟩
theorem End.congr{σ:Type}{F:σ→Bool×σ}{j:Nat}{a a' z:σ}(h:F a=F a')(g:End F j a' z):End F j a z:=by
 obtain⟨i,b,rfl,h1,h2⟩:=g
 cases h1 with
 | nil=>exact⟨0,a,rfl,Go1.nil _,h.trans h2⟩
 | cons q t=>exact⟨_,b,rfl,Go1.cons (h.trans q) t,h2⟩
theorem Go1.congr{σ:Type}{F:σ→Bool×σ}{j:Nat}{a a' z:σ}(h:F a=F a')(g:Go1 F (j+1) a' z):Go1 F (j+1) a z:=by
 cases g with
 | cons q t=>exact Go1.cons (h.trans q) t
def vY(t n:Int)(p:ENS×STS×MS):Bool×(ENS×STS×MS):=((enF t n p.1 p.2.1 p.2.2).d,((enF t n p.1 p.2.1 p.2.2).e,(enF t n p.1 p.2.1 p.2.2).st,(enF t n p.1 p.2.1 p.2.2).s))
theorem kF{t n:Int}{x:ENS}{st:STS}{s:MS}{d:Bool}{x':ENS}{st':STS}{s':MS}(h:enF t n x st s=⟨d,x',st',s'⟩):vY t n (x,st,s)=(d,(x',st',s')):=by
 unfold vY;rw [h]
def dA(n:Int)(xs:List Int)(b:Int):Bool:=oddB (aB xs (n+4+b))
theorem jK{y:Int}(h:0≤y):oddB y=true↔y%2=1:=by
 unfold oddB
 rw [Int.tmod_eq_emod_of_nonneg h,bI]
 simp only [Bool.not_eq_true',beq_eq_false_iff_ne]
 omega
def itN(n a:Int):Nat→Int
 | 0=>a
 | i+1=>itN n (cL n a) i
theorem qM{n a:Int}(h:1≤a∧a≤n):cL n a=if a<n then a+1 else 1:=by
 unfold cL
 rw [Int.tmod_eq_emod_of_nonneg (by omega)]
 by_cases e:a<n
 ·rw [if_pos e,Int.emod_eq_of_lt (by omega) e]
 ·have:a=n:=by omega
  rw [if_neg e,this,Int.emod_self];rfl
theorem zD{n:Int} : ∀(i:Nat) (a:Int),1≤a∧a≤n→1≤itN n a i∧itN n a i≤n
 | 0,a,h=>h
 | i+1,a,h=>zD i _ (by rw [qM h];split<;>omega)
theorem FB{n:Int} : ∀(i:Nat) (a:Int),1≤a∧a≤n→(i:Int)<n→itN n a i=if a+i≤n then a+i else a+i - n
 | 0,a,h,_=>by
   show a=_
   rw [if_pos (by simp;omega)];simp
 | i+1,a,h,hi=>by
   show itN n (cL n a) i=_
   rw [FB i _ (by rw [qM h];split<;>omega) (by omega),qM h]
   by_cases e:a<n
   ·simp only [if_pos e]
    split<;>split<;>omega
   ·simp only [if_neg e]
    split<;>split<;>omega
theorem T5{n a b:Int}(h:1≤a∧a≤n)(hb:1≤b∧b≤n): ∃i:Nat,(i:Int)<n∧itN n a i=b:=by
 by_cases e:a≤b
 ·refine⟨(b - a).toNat,by omega,?_⟩
  rw [FB _ _ h (by omega)]
  split<;>omega
 ·refine⟨(b+n - a).toNat,by omega,?_⟩
  rw [FB _ _ h (by omega)]
  split<;>omega
theorem HB{t n:Int}{e:ENS}{st:STS}{s:MS}{a left f:Int}(h:e.ph=1)(hx:e.x=⟨0,a,left,f,false⟩)(ho:dA n s.xs a=true)(hl:1<left):
 enF t n e st s=⟨false,{e with ph:=1,x:=⟨0,cL n a,left - 1,aB s.xs (n+4+a),false⟩ },st,s.loadd (n+4+a)⟩:=by
 have ho:oddB (aB s.xs (n+4+a))=true:=ho
 have hz:ile (left - 1) 0=false:=by rw [cG];exact decide_eq_false (by omega)
 unfold enF
 simp only [h,hx,jC,ho,yU,hz]
theorem YI{t n:Int}{e:ENS}{st:STS}{s:MS}{a f:Int}(h:e.ph=1)(hx:e.x=⟨0,a,1,f,false⟩)(ho:dA n s.xs a=true):
 enF t n e st s=⟨e.dn||ieq (st.R.length:Int) 0,{e with ph:=2,sh:=e.dn||ieq (st.R.length:Int) 0,x:=⟨0,cL n a,0,aB s.xs (n+4+a),false⟩ },{st with sp:=0},s.loadd (n+4+a)⟩:=by
 have ho:oddB (aB s.xs (n+4+a))=true:=ho
 have hz:ile (1 - 1) 0=true:=by decide
 unfold enF
 simp only [h,hx,jC,ho,yU,hz]
 rfl
theorem SG{t n:Int}{e:ENS}{st:STS}{s:MS}{a left f:Int}(h:e.ph=1)(hx:e.x=⟨0,a,left,f,false⟩)(ho:dA n s.xs a=false):
 enF t n e st s=⟨false,{e with ph:=1,x:=⟨0,a,left,aB s.xs (n+4+a),true⟩ },st,s.loadd (n+4+a)⟩:=by
 have ho:oddB (aB s.xs (n+4+a))=false:=ho
 unfold enF
 simp only [h,hx,jC,ho]
theorem YJ{t n:Int}{e:ENS}{st:STS}{s:MS}{a left f:Int}(h:e.ph=1)(hx:e.x=⟨0,a,left,f,true⟩)(hc:aR s.xs (n+4+a) f=true):
 enF t n e st s=⟨true,{e with ph:=1,x:=⟨a,a,left,f,true⟩ },{st with sp:=a},s.cased (n+4+a) f (WU (f+1))⟩:=by
 unfold enF
 simp only [h,hx,jC,hc]
theorem uG{t n:Int}{e:ENS}{st:STS}{s:MS}(h:e.ph=0)(hz:st.sp=0):enF t n e st s=enF t n {e with ph:=1,x:=⟨0,at0 t n st.me,n,0,false⟩ } st s:=by
 unfold enF
 have:ieq st.sp 0=true:=by rw [hz];exact bN 0
 simp only [h,this,jC,yU]
structure MC (t n:Int) (s:MS):Prop where
 ht:1≤t∧t≤1000
 hn:1≤n∧n≤500
 len:(s.xs.length:Int)=2*n+5*t+6
 okw:okW s.xs
theorem xY{t n:Int} : ∀(i:Nat) (a left f:Int) (e:ENS) (st:STS) (s:MS),e.ph=1→e.x=⟨0,a,left,f,false⟩→1≤a∧a≤n→(i:Int)<left→MC t n s→
 (∀k,k<i→dA n s.xs (itN n a k)=true)→dA n s.xs (itN n a i)=false→
 ∃z s',End (vY t n) (i+2) (e,st,s) (z,{st with sp:=itN n a i},s')∧z.sh=e.sh∧z.dn=e.dn∧s'.xs=aL s.xs (n+4+itN n a i) (aB s.xs (n+4+itN n a i)+1)∧s'.c=s.c+(i+2:Nat)∧s'.t=s.t∧s'.n=s.n
 | 0,a,left,f,e,st,s,h1,h2,ha,hl,mc,_,hf=>by
   have hin:0≤n+4+a∧n+4+a<s.xs.length:=by have:=mc.ht;have:=mc.len;omega
   have hcas:=iZ (xs:=(s.loadd (n+4+a)).xs) (x:=aB s.xs (n+4+a)) hin rfl
   have hw:=jL mc.okw (n+4+a)
   have hev:aB s.xs (n+4+a)%2≠1:=by
    intro q
    have:dA n s.xs a=true:=(jK hw.1).2 q
    rw [show itN n a 0=a from rfl,this]at hf;cases hf
   have e1:=kF (SG (t:=t) (st:=st) h1 h2 hf)
   have e2:=kF (YJ (t:=t) (n:=n) (e:= {e with ph:=1,x:=⟨0,a,left,aB s.xs (n+4+a),true⟩ }) (st:=st) (s:=s.loadd (n+4+a)) rfl rfl hcas)
   refine⟨_,_,End.cons e1 (End.one e2),rfl,rfl,?_,?_,rfl,rfl⟩
   ·have hwu:WU (aB s.xs (n+4+a)+1)=aB s.xs (n+4+a)+1:=i8 (by omega)
    rw [mR hcas,hwu];rfl
   ·show s.c+1+1=s.c+((0+2:Nat):Int);omega
 | i+1,a,left,f,e,st,s,h1,h2,ha,hl,mc,ho,hf=>by
   have e1:=kF (HB (t:=t) (st:=st) h1 h2 (ho 0 (by omega)) (by omega))
   have hn:=qM ha
   obtain⟨z,s',g1,g2,g3,g4,g5,g6,g7⟩:=xY i (cL n a) (left - 1) (aB s.xs (n+4+a)) {e with ph:=1,x:=⟨0,cL n a,left - 1,aB s.xs (n+4+a),false⟩ } st (s.loadd (n+4+a)) rfl rfl (by rw [hn];split<;>omega) (by omega) ⟨mc.ht,mc.hn,mc.len,mc.okw⟩ (fun k hk=>ho (k+1) (by omega)) hf
   exact⟨z,s',End.cons e1 g1,g2,g3,g4,by rw [g5];show s.c+1+_=_;omega,g6,g7⟩
theorem xZ{t n:Int} : ∀(m:Nat) (a f:Int) (e:ENS) (st:STS) (s:MS),e.ph=1→e.x=⟨0,a,((m+1:Nat):Int),f,false⟩→1≤a∧a≤n→
 (∀k,k≤m→dA n s.xs (itN n a k)=true)→
 ∃b x s',Go1 (vY t n) m (e,st,s) b∧vY t n b=(e.dn||ieq (st.R.length:Int) 0,({e with ph:=2,sh:=e.dn||ieq (st.R.length:Int) 0,x:=x},{st with sp:=0},s'))∧s'.xs=s.xs∧s'.c=s.c+(m+1:Nat)∧s'.t=s.t∧s'.n=s.n
 | 0,a,f,e,st,s,h1,h2,ha,ho=>⟨_,_,_,Go1.nil _,kF (YI (st:=st) h1 h2 (ho 0 (by omega))),rfl,rfl,rfl,rfl⟩
 | m+1,a,f,e,st,s,h1,h2,ha,ho=>by
   have hn:=qM ha
   have e1:=kF (HB (t:=t) (st:=st) h1 h2 (ho 0 (by omega)) (by omega))
   obtain⟨b,x,s',g1,g2,g3,g4,g5,g6⟩:=xZ (t:=t) m (cL n a) (aB s.xs (n+4+a)) {e with ph:=1,x:=⟨0,cL n a,((m+1+1:Nat):Int) - 1,aB s.xs (n+4+a),false⟩ } st (s.loadd (n+4+a)) rfl (by have q:(((m+1+1:Nat):Int) - 1)=((m+1:Nat):Int):=(by omega);rw [q]) (by rw [hn];split<;>omega) (fun k hk=>ho (k+1) (by omega))
   exact⟨b,x,s',Go1.cons e1 g1,g2,g3,by rw [g4];show s.c+1+_=_;omega,g5,g6⟩
def eT(n:Int)(R:List Int)(xs:List Int):List Int:=R.foldl (fun xs r=>aL xs (n+4+r) (WU (aB xs (n+4+r)+1))) xs
theorem rP(n:Int): ∀(R xs:List Int),(eT n R xs).length =xs.length
 | [],xs=>rfl
 | r::R,xs=>(rP n R _).trans (b8 _ _ _)
theorem rQ(n:Int): ∀(R xs:List Int),okW xs→okW (eT n R xs)
 | [],xs,h=>h
 | r::R,xs,h=>rQ n R _ (d9 h (rB _))
theorem gK{n a:Int} : ∀(R xs:List Int),(∀r∈R,a≠n+4+r)→aB (eT n R xs) a=aB xs a
 | [],xs,h=>rfl
 | r::R,xs,h=>(gK R _ (fun q hq=>h q (List.mem_cons_of_mem _ hq))).trans (cK (h r (List.mem_cons_self ..)))
theorem uP{n r:Int} : ∀(R xs:List Int),R.Nodup→r∈R→(∀q∈R,0≤n+4+q∧n+4+q<xs.length)→aB (eT n R xs) (n+4+r)=WU (aB xs (n+4+r)+1)
 | q::R,xs,hn,hr,hb=>by
   have hn:=List.nodup_cons.1 hn
   show aB (eT n R (aL xs (n+4+q) (WU (aB xs (n+4+q)+1)))) (n+4+r)=_
   rcases List.mem_cons.1 hr with e | e
   ·subst e
    rw [gK R _ (fun q hq e=>hn.1 (by rw [show r=q from(by omega)];exact hq)),dM (hb r (List.mem_cons_self ..))]
   ·rw [uP R _ hn.2 e (fun q hq=>by rw [b8];exact hb q (List.mem_cons_of_mem _ hq)),cK]
    intro e2
    have:r=q:=by omega
    subst this;exact hn.1 e
def SZ(t n:Int)(xs:List Int):Prop:= ∀i:Int,0≤i→i<2*t→aB xs (2*n+5+i)=0
def mOk(m:List (Int×Int)):Prop:= ∀r,1≤r∧r≤1000→mhas m r=false
theorem H1:mOk []:=fun r _=>rfl
theorem lG{t n i:Int}{m:List (Int×Int)}{s:MS}(h:mOk m)(hz:SZ t n s.xs)(hi:0≤i∧i<2*t):mOk (aT m n i s):=by
 intro r hr
 have e:aB s.xs (bG n i)=0:=by
  have:=hz i hi.1 hi.2
  rw [←this];unfold bG;congr 1;omega
 unfold aT
 rw [e,KU,h r hr,Bool.or_false]
 exact decide_eq_false (by show¬r=0;omega)
theorem xC{m:List (Int×Int)}{R:List Int}(h:mOk m)(hR: ∀r∈R,1≤r∧r≤1000):cI m R=[]∧aV m R=R:=by
 refine⟨List.filter_eq_nil_iff.2 (fun r hr=>by rw [h r (hR r hr)];decide),List.filter_eq_self.2 (fun r hr=>by rw [h r (hR r hr)];rfl)⟩
theorem tK{R:List Int}{j:Nat}(h:j<R.length):List.getD R (j+Int.toNat 0*1) 0=R[j]:=by
 have:j+Int.toNat 0*1=j:=by simp
 rw [this,gD',gE' h];rfl
theorem HY{R:List Int}(h:R≠ []):ieq (R.length:Int) 0=false:=by
 rw [bI,beq_eq_false_iff_ne]
 have:R.length≠0:=fun e=>h (List.length_eq_zero_iff.1 e)
 omega
theorem tF{R:List Int}{j:Nat}(h:j<R.length):R.drop j=R[j]::R.drop (j+1):=List.drop_eq_getElem_cons h
theorem G9{t n:Int}{R:List Int}(hR:R≠ []): ∀(l j:Nat) (e:ENS) (st:STS) (s:MS),e.ph=4→e.y.gs=R→e.y.fs=R→e.y.ks=[]→e.y.j=j→e.y.l=l+1→j+l+1=R.length→
 ∃z s',Go1 (vY t n) (l+1) (e,st,s) (z,{st with R:=[] },s')∧z.ph=0∧z.sh=false∧z.dn=true∧s'.xs=eT n (R.drop j) s.xs∧s'.c=s.c+(l+1:Nat)∧s'.t=s.t∧s'.n=s.n
 | 0,j,e,st,s,h1,h2,h3,h4,h5,h6,hl=>by
   have hj:j<R.length:=by omega
   have e1:enF t n e st s=⟨false,{e with ph:=0,sh:=false,dn:=true},{st with R:=[] },s.added (n+4+R[j]) 1⟩:=by
    unfold enF
    have q:ieq ((e.y.l - 1:Nat):Int) 0=true:=by rw [h6];decide
    simp only [h1,q,h3,HY hR,h4,bV,h2,h5,tK hj]
   refine⟨_,_,Go1.one (kF e1),rfl,rfl,rfl,?_,by show s.c+1=_;omega,rfl,rfl⟩
   rw [tF hj,show R.drop (j+1)=[]from List.drop_eq_nil_of_le (by omega)]
   rfl
 | l+1,j,e,st,s,h1,h2,h3,h4,h5,h6,hl=>by
   have hj:j<R.length:=by omega
   have e1:enF t n e st s=⟨false,{e with y:= {e.y with j:=e.y.j+1,l:=e.y.l - 1} },st,s.added (n+4+R[j]) 1⟩:=by
    unfold enF
    have q:ieq ((e.y.l - 1:Nat):Int) 0=false:=by rw [h6,bI,beq_eq_false_iff_ne];omega
    simp only [h1,q,bV,h2,h5,tK hj]
   obtain⟨z,s',g1,g2,g3,g4,g5,g6,g7,g8⟩:=G9 hR l (j+1) {e with y:= {e.y with j:=e.y.j+1,l:=e.y.l - 1} } st (s.added (n+4+R[j]) 1) h1 h2 h3 h4 (by show e.y.j+1=_;omega) (by show e.y.l - 1=_;omega) (by omega)
   refine⟨z,s',Go1.cons (kF e1) g1,g2,g3,g4,?_,by rw [g6];show s.c+1+_=_;omega,g7,g8⟩
   rw [g5,tF hj]
   rfl
theorem HA{t n:Int}{R:List Int}(hR:R≠ [])(hr: ∀r∈R,1≤r∧r≤1000): ∀(k:Nat) (i:Int) (e:ENS) (st:STS) (s:MS),e.ph=3→e.y.N=R→e.y.i=i→mOk e.y.m→1≤i→i+k+1=2*t→SZ t n s.xs→
 ∃z s',Go1 (vY t n) (k+1+R.length) (e,st,s) (z,{st with R:=[] },s')∧z.ph=0∧z.sh=false∧z.dn=true∧s'.xs=eT n R s.xs∧s'.c=s.c+(k+1+R.length:Nat)∧s'.t=s.t∧s'.n=s.n
 | 0,i,e,st,s,h1,h2,h3,h4,hi,hk,hz=>by
   have hm:=lG h4 hz (i:=e.y.i) (by rw [h3];omega)
   obtain⟨k1,k2⟩:=xC hm (R:=e.y.N) (by rw [h2];exact hr)
   have e1:enF t n e st s=⟨false,{e with ph:=4,y:=⟨0,e.y.N,aT e.y.m n e.y.i s,e.y.i+1,[],R,R,0,R.length⟩ },st,s.loadd (bG n e.y.i)⟩:=by
    unfold enF
    have q:ieq (e.y.i+1) (2*t)=true:=by rw [bI,beq_iff_eq,h3];omega
    have q2:ieq (e.y.N.length:Int) 0=false:=by rw [h2];exact HY hR
    simp only [h1,q,k1,k2,q2]
    simp only [h2]
   have hl:R.length≠0:=fun e=>hR (List.length_eq_zero_iff.1 e)
   obtain⟨z,s',g1,g2,g3,g4,g5,g6,g7,g8⟩:=G9 (t:=t) (n:=n) hR (R.length - 1) 0 {e with ph:=4,y:=⟨0,e.y.N,aT e.y.m n e.y.i s,e.y.i+1,[],R,R,0,R.length⟩ } st (s.loadd (bG n e.y.i)) rfl rfl rfl rfl rfl (by show R.length=_;omega) (by omega)
   have hl2:R.length - 1+1=R.length:=by omega
   rw [hl2]at g1 g6
   refine⟨z,s',?_,g2,g3,g4,g5,by rw [g6];show s.c+1+_=_;omega,g7,g8⟩
   have:=(Go1.one (kF e1)).trans g1
   rw [Nat.add_comm]at this
   simpa using this
 | k+1,i,e,st,s,h1,h2,h3,h4,hi,hk,hz=>by
   have hm:=lG h4 hz (i:=e.y.i) (by rw [h3];omega)
   have e1:enF t n e st s=⟨false,{e with y:= {e.y with m:=aT e.y.m n e.y.i s,i:=e.y.i+1} },st,s.loadd (bG n e.y.i)⟩:=by
    unfold enF
    have q:ieq (e.y.i+1) (2*t)=false:=by rw [bI,beq_eq_false_iff_ne,h3];omega
    simp only [h1,q]
   obtain⟨z,s',g1,g2,g3,g4,g5,g6,g7,g8⟩:=HA hR hr k (i+1) {e with y:= {e.y with m:=aT e.y.m n e.y.i s,i:=e.y.i+1} } st (s.loadd (bG n e.y.i)) h1 h2 (by show e.y.i+1=_;rw [h3]) hm (by omega) (by omega) hz
   refine⟨z,s',?_,g2,g3,g4,g5,by rw [g6];show s.c+1+_=_;omega,g7,g8⟩
   have:=Go1.cons (kF e1) g1
   have h9:k+1+R.length+1=k+1+1+R.length:=by omega
   rw [h9]at this
   exact this
theorem MH{t n me:Int}(hn:1≤n):1≤at0 t n me∧at0 t n me≤n:=GM hn
theorem aBM{P:Nat→Prop} [DecidablePred P]: ∀k,P k→ ∃i,i≤k∧P i∧ ∀j,j<i→ ¬P j
 | 0,h=>⟨0,Nat.le_refl _,h,fun j hj=>absurd hj (by omega)⟩
 | k+1,h=>by
   by_cases q: ∃i,i≤k∧P i
   ·obtain⟨i,hi,hp⟩:=q
    have: ∀m i,i≤m→P i→ ∃j,j≤i∧P j∧ ∀l,l<j→ ¬P l:=by
     intro m
     induction m with
     | zero=>intro i hi hp;exact⟨i,Nat.le_refl _,hp,fun l hl=>absurd hl (by omega)⟩
     | succ m ih=>
       intro i hi hp
       by_cases r: ∃l,l<i∧P l
       ·obtain⟨l,hl,hp⟩:=r
        obtain⟨j,h1,h2,h3⟩:=ih l (by omega) hp
        exact⟨j,by omega,h2,h3⟩
       ·exact⟨i,Nat.le_refl _,hp,fun l hl hp=>r ⟨l,hl,hp⟩⟩
    obtain⟨j,h1,h2,h3⟩:=this i i (Nat.le_refl _) hp
    exact⟨j,by omega,h2,h3⟩
   ·exact⟨k+1,Nat.le_refl _,h,fun j hj hp=>q ⟨j,by omega,hp⟩⟩
theorem BJ{t n:Int}{e:ENS}{st:STS}{s:MS}(h:e.ph=0)(hz:st.sp=0)(mc:MC t n s){b0:Int}(hb:1≤b0∧b0≤n)(hf:dA n s.xs b0=false):
 ∃j b z s',End (vY t n) j (e,st,s) (z,{st with sp:=b},s')∧(1≤b∧b≤n)∧dA n s.xs b=false∧z.sh=e.sh∧s'.xs=aL s.xs (n+4+b) (aB s.xs (n+4+b)+1)∧s'.c=s.c+j∧s'.t=s.t∧s'.n=s.n∧(j:Int)≤n+1:=by
 have ha:=MH (t:=t) (me:=st.me) mc.hn.1
 obtain⟨k,hk,hkb⟩:=T5 ha hb
 obtain⟨i,hi,hfi,ho⟩:=aBM (P:=fun i=>dA n s.xs (itN n (at0 t n st.me) i)=false) k (by show _=_;rw [hkb];exact hf)
 obtain⟨z,s',g1,g2,g3,g4,g5,g6,g7⟩:=xY (t:=t) (n:=n) i (at0 t n st.me) n 0 {e with ph:=1,x:=⟨0,at0 t n st.me,n,0,false⟩ } st s rfl rfl ha (by omega) mc (fun j hj=>by
  have:=ho j hj
  cases q:dA n s.xs (itN n (at0 t n st.me) j)with
  | true=>rfl
  | false=>exact absurd q this) hfi
 refine⟨i+2,_,z,s',End.congr ?_ g1,zD _ _ ha,hfi,g2,g4,g5,g6,g7,by omega⟩
 unfold vY
 simp only [uG h hz]
theorem BK{t n:Int}{e:ENS}{st:STS}{s:MS}(h:e.ph=0)(hz:st.sp=0)(hn:1≤n)(ho: ∀b,1≤b∧b≤n→dA n s.xs b=true):
 ∃(j:Nat) (b:ENS×STS×MS) (x:AL) (s':MS),(j:Int)+1=n∧Go1 (vY t n) j ({e with ph:=1,x:=⟨0,at0 t n st.me,n,0,false⟩ },st,s) b∧vY t n b=(e.dn||ieq (st.R.length:Int) 0,({e with ph:=2,sh:=e.dn||ieq (st.R.length:Int) 0,x:=x},{st with sp:=0},s'))∧s'.xs=s.xs∧s'.c=s.c+(j+1:Nat)∧s'.t=s.t∧s'.n=s.n:=by
 have ha:=MH (t:=t) (me:=st.me) hn
 have hn2:(((n - 1).toNat +1:Nat):Int)=n:=by omega
 obtain⟨b,x,s',g1,g2,g3,g4,g5,g6⟩:=xZ (t:=t) (n:=n) (n - 1).toNat (at0 t n st.me) 0 {e with ph:=1,x:=⟨0,at0 t n st.me,n,0,false⟩ } st s rfl (by rw [hn2]) ha (fun k _=>ho _ (zD k _ ha))
 exact⟨_,b,x,s',by omega,g1,g2,g3,g4,g5,g6⟩
theorem JF{t n:Int}{e:ENS}{st:STS}{s:MS}(h:e.ph=0)(hz:st.sp=0)(hn:1≤n)(ho: ∀b,1≤b∧b≤n→dA n s.xs b=true)(hR:st.R=[]):
 ∃j z s',End (vY t n) j (e,st,s) (z,st,s')∧z.sh=true∧s'.xs=s.xs∧s'.c=s.c+j∧s'.t=s.t∧s'.n=s.n∧(j:Int)=n:=by
 obtain⟨j,b,x,s',hj,g1,g2,g3,g4,g5,g6⟩:=BK (t:=t) h hz hn ho
 have hd:(e.dn||ieq (st.R.length:Int) 0)=true:=by rw [hR];cases e.dn<;>rfl
 rw [hd,show({st with sp:=0} :STS)=st by rw [←hz]]at g2
 refine⟨j+1,_,s',End.congr (a':=({e with ph:=1,x:=⟨0,at0 t n st.me,n,0,false⟩ },st,s)) ?_ ⟨j,b,rfl,g1,g2⟩,rfl,g3,g4,g5,g6,by omega⟩
 unfold vY
 simp only [uG h hz]
theorem JG{t n:Int}{e:ENS}{st:STS}{s:MS}(h:e.ph=0)(hd:e.dn=false)(hz:st.sp=0)(mc:MC t n s)(ho: ∀b,1≤b∧b≤n→dA n s.xs b=true)(hR:st.R≠ [])(hr: ∀r∈st.R,1≤r∧r≤n)(hnd:st.R.Nodup)(sz:SZ t n s.xs):
 ∃j b z s',End (vY t n) j (e,st,s) (z,⟨st.me,b,[]⟩,s')∧(1≤b∧b≤n)∧b∈st.R∧dA n (eT n st.R s.xs) b=false∧z.sh=false∧s'.xs=aL (eT n st.R s.xs) (n+4+b) (aB (eT n st.R s.xs) (n+4+b)+1)∧s'.c=s.c+j∧s'.t=s.t∧s'.n=s.n∧(j:Int)≤2*n+1+2*t+st.R.length:=by
 obtain⟨j,b,x,s1,hj,g1,g2,g3,g4,g5,g6⟩:=BK (t:=t) h hz mc.hn.1 ho
 have hdd:(e.dn||ieq (st.R.length:Int) 0)=false:=by rw [hd,HY hR];rfl
 rw [hdd,show({st with sp:=0} :STS)=st by rw [←hz]]at g2
 have hr2: ∀r∈st.R,1≤r∧r≤1000:=fun r q=>by have:=hr r q;have:=mc.hn;omega
 have sz1:SZ t n s1.xs:=by rw [g3];exact sz
 have e2:enF t n {e with ph:=2,sh:=false,x:=x} st s1=⟨false,{e with ph:=3,sh:=false,x:=x,y:= {e.y with N:=st.R,m:=aT [] n 0 s1,i:=1} },st,s1.loadd (bG n 0)⟩:=rfl
 have ht:=mc.ht
 obtain⟨z2,s2,k1,k2,k3,k4,k5,k6,k7,k8⟩:=HA (t:=t) (n:=n) hR hr2 (2*t - 2).toNat 1 {e with ph:=3,sh:=false,x:=x,y:= {e.y with N:=st.R,m:=aT [] n 0 s1,i:=1} } st (s1.loadd (bG n 0)) rfl rfl rfl (lG H1 sz1 ⟨Int.le_refl 0,by omega⟩) (Int.le_refl 1) (by omega) sz1
 have k5:s2.xs=eT n st.R s.xs:=k5.trans (by rw [OQ,g3])
 obtain⟨r0,R0,hrr⟩:=List.exists_cons_of_ne_nil hR
 have hr0:r0∈st.R:=by rw [hrr];exact List.mem_cons_self ..
 have hin: ∀q∈st.R,0≤n+4+q∧n+4+q<s.xs.length:=fun q hq=>by have:=hr q hq;have:=mc.len;omega
 have hev: ∀q∈st.R,dA n (eT n st.R s.xs) q=false:=by
  intro q hq
  have h1:=uP st.R s.xs hnd hq hin
  have h2:=ho q (hr q hq)
  have h3:=jL mc.okw (n+4+q)
  have h4:aB s.xs (n+4+q)%2=1:=(jK h3.1).1 h2
  have h5:WU (aB s.xs (n+4+q)+1)%2=0:=by
   have h6:WU (aB s.xs (n+4+q)+1)=(aB s.xs (n+4+q)+1)%18446744073709551616:=by
    generalize aB s.xs (n+4+q)=y at h3 h4
    by_cases q0:y+1≤18446744073709551615
    ·have q2:WU (y+1)=y+1:=i8 ⟨by omega,q0⟩
     rw [q2];omega
    ·have q3:y+1=18446744073709551616:=by omega
     rw [q3];decide
   omega
  have h8:=rB (aB s.xs (n+4+q)+1)
  cases q9:dA n (eT n st.R s.xs) q with
  | false=>rfl
  | true=>
    have q9:oddB (aB (eT n st.R s.xs) (n+4+q))=true:=q9
    rw [h1,jK h8.1]at q9;omega
 have mc2:MC t n s2:=⟨mc.ht,mc.hn,by rw [k5,rP];exact mc.len,by rw [k5];exact rQ _ _ _ mc.okw⟩
 obtain⟨j3,b3,z3,s3,f1,f2,f3,f4,f5,f6,f7,f8,f9⟩:=BJ (t:=t) (n:=n) (e:=z2) (st:= {st with R:=[] }) (s:=s2) k2 hz mc2 (hr r0 hr0) (by rw [k5];exact hev r0 hr0)
 rw [k5]at f3 f5
 have hbR:b3∈st.R:=by
  cases q:decide (b3∈st.R)with
  | true=>exact of_decide_eq_true q
  | false=>
    have q:=of_decide_eq_false q
    have h1:aB (eT n st.R s.xs) (n+4+b3)=aB s.xs (n+4+b3):=gK _ _ (fun r hr e=>q (by rw [show b3=r from(by omega)];exact hr))
    have h2:=ho b3 f2
    have f3:oddB (aB (eT n st.R s.xs) (n+4+b3))=false:=f3
    rw [h1]at f3
    have h2:oddB (aB s.xs (n+4+b3))=true:=h2
    rw [h2]at f3;cases f3
 have all:=(g1.trans (Go1.cons g2 (Go1.cons (kF e2) k1)))
 refine⟨_,b3,z3,s3,End.congr ?_ (aDH all f1),f2,hbR,f3,f4.trans k3,f5,?_,f7.trans (k7.trans g5),f8.trans (k8.trans g6),?_⟩
 ·unfold vY
  simp only [uG h hz]
 ·rw [f6,k6]
  show s1.c+1+_+_=_
  rw [g4];omega
 ·omega
def WM(t n:Int)(p:SWS×STS×MS):Bool×(SWS×STS×MS):=((swF t n p.1 p.2.1 p.2.2).d,((swF t n p.1 p.2.1 p.2.2).e,(swF t n p.1 p.2.1 p.2.2).st,(swF t n p.1 p.2.1 p.2.2).s))
theorem vK{t n:Int}{x:SWS}{st:STS}{s:MS}{d:Bool}{x':SWS}{st':STS}{s':MS}(h:swF t n x st s=⟨d,x',st',s'⟩):WM t n (x,st,s)=(d,(x',st',s')):=by
 unfold WM;rw [h]
theorem ID{t n:Int}{R:List Int}(hR:R≠ []): ∀(l j:Nat) (y:SWS) (st:STS) (s:MS),y.ph=2→y.gs=R→y.ks=[]→y.j=j→y.l=l+1→j+l+1=R.length→
 ∃z s',End (WM t n) (l+1) (y,st,s) (z,{st with R:=[] },s')∧s'.xs=eT n (R.drop j) s.xs∧s'.c=s.c+(l+1:Nat)∧s'.t=s.t∧s'.n=s.n
 | 0,j,y,st,s,h1,h2,h4,h5,h6,hl=>by
   have hj:j<R.length:=by omega
   have e1:swF t n y st s=⟨true,{y with ph:=3},{st with R:=[] },s.added (n+4+R[j]) 1⟩:=by
    unfold swF
    have q:ieq ((y.l - 1:Nat):Int) 0=true:=by rw [h6];decide
    simp only [h1,q,h4,bV,h2,h5,tK hj]
   refine⟨_,_,End.one (vK e1),?_,by show s.c+1=_;omega,rfl,rfl⟩
   rw [tF hj,show R.drop (j+1)=[]from List.drop_eq_nil_of_le (by omega)]
   rfl
 | l+1,j,y,st,s,h1,h2,h4,h5,h6,hl=>by
   have hj:j<R.length:=by omega
   have e1:swF t n y st s=⟨false,{y with j:=y.j+1,l:=y.l - 1},st,s.added (n+4+R[j]) 1⟩:=by
    unfold swF
    have q:ieq ((y.l - 1:Nat):Int) 0=false:=by rw [h6,bI,beq_eq_false_iff_ne];omega
    simp only [h1,q,bV,h2,h5,tK hj]
   obtain⟨z,s',g1,g5,g6,g7,g8⟩:=ID hR l (j+1) {y with j:=y.j+1,l:=y.l - 1} st (s.added (n+4+R[j]) 1) h1 h2 h4 (by show y.j+1=_;omega) (by show y.l - 1=_;omega) (by omega)
   refine⟨z,s',End.cons (vK e1) g1,?_,by rw [g6];show s.c+1+_=_;omega,g7,g8⟩
   rw [g5,tF hj]
   rfl
theorem IE{t n:Int}{R:List Int}(hR:R≠ [])(hr: ∀r∈R,1≤r∧r≤1000): ∀(k:Nat) (i:Int) (y:SWS) (st:STS) (s:MS),y.ph=1→y.N=R→y.i=i→mOk y.m→1≤i→i+k+1=2*t→SZ t n s.xs→
 ∃z s',End (WM t n) (k+1+R.length) (y,st,s) (z,{st with R:=[] },s')∧s'.xs=eT n R s.xs∧s'.c=s.c+(k+1+R.length:Nat)∧s'.t=s.t∧s'.n=s.n
 | 0,i,y,st,s,h1,h2,h3,h4,hi,hk,hz=>by
   have hm:=lG h4 hz (i:=y.i) (by rw [h3];omega)
   obtain⟨k1,k2⟩:=xC hm (R:=y.N) (by rw [h2];exact hr)
   have e1:swF t n y st s=⟨false,⟨2,y.N,aT y.m n y.i s,y.i+1,[],R,R,0,R.length⟩,st,s.loadd (bG n y.i)⟩:=by
    unfold swF
    have q:ieq (y.i+1) (2*t)=true:=by rw [bI,beq_iff_eq,h3];omega
    have q2:ieq (y.N.length:Int) 0=false:=by rw [h2];exact HY hR
    simp only [h1,q,k1,k2,q2]
    simp only [h2]
   have hl:R.length≠0:=fun e=>hR (List.length_eq_zero_iff.1 e)
   obtain⟨z,s',g1,g5,g6,g7,g8⟩:=ID (t:=t) (n:=n) hR (R.length - 1) 0 ⟨2,y.N,aT y.m n y.i s,y.i+1,[],R,R,0,R.length⟩ st (s.loadd (bG n y.i)) rfl rfl rfl rfl (by show R.length=_;omega) (by omega)
   have hl2:R.length - 1+1=R.length:=by omega
   rw [hl2]at g1 g6
   refine⟨z,s',?_,g5,by rw [g6];show s.c+1+_=_;omega,g7,g8⟩
   have:=End.cons (vK e1) g1
   rw [Nat.add_comm]at this
   simpa using this
 | k+1,i,y,st,s,h1,h2,h3,h4,hi,hk,hz=>by
   have hm:=lG h4 hz (i:=y.i) (by rw [h3];omega)
   have e1:swF t n y st s=⟨false,{y with m:=aT y.m n y.i s,i:=y.i+1},st,s.loadd (bG n y.i)⟩:=by
    unfold swF
    have q:ieq (y.i+1) (2*t)=false:=by rw [bI,beq_eq_false_iff_ne,h3];omega
    simp only [h1,q]
   obtain⟨z,s',g1,g5,g6,g7,g8⟩:=IE hR hr k (i+1) {y with m:=aT y.m n y.i s,i:=y.i+1} st (s.loadd (bG n y.i)) h1 h2 (by show y.i+1=_;rw [h3]) hm (by omega) (by omega) hz
   refine⟨z,s',?_,g5,by rw [g6];show s.c+1+_=_;omega,g7,g8⟩
   have:=End.cons (vK e1) g1
   have h9:k+1+R.length+1=k+1+1+R.length:=by omega
   rw [h9]at this
   exact this
theorem aAx{t n:Int}{y:SWS}{st:STS}{s:MS}(h:y.ph=0)(ht:1≤t)(hn:n≤500)(hR:st.R≠ [])(hr: ∀r∈st.R,1≤r∧r≤n)(sz:SZ t n s.xs):
 ∃j z s',End (WM t n) j (y,st,s) (z,{st with R:=[] },s')∧s'.xs=eT n st.R s.xs∧s'.c=s.c+j∧s'.t=s.t∧s'.n=s.n∧(j:Int)=2*t+st.R.length:=by
 have hr2: ∀r∈st.R,1≤r∧r≤1000:=fun r q=>by have:=hr r q;omega
 have e2:swF t n y st s=⟨false,{y with ph:=1,N:=st.R,m:=aT [] n 0 s,i:=1},st,s.loadd (bG n 0)⟩:=by
  unfold swF;simp only [h]
 obtain⟨z,s',g1,g2,g3,g4,g5⟩:=IE (t:=t) (n:=n) hR hr2 (2*t - 2).toNat 1 {y with ph:=1,N:=st.R,m:=aT [] n 0 s,i:=1} st (s.loadd (bG n 0)) rfl rfl rfl (lG H1 sz ⟨Int.le_refl 0,by omega⟩) (Int.le_refl 1) (by omega) sz
 exact⟨_,z,s',End.cons (vK e2) g1,g2,by rw [g3];show s.c+1+_=_;omega,g4,g5,by omega⟩
def J9(t n:Int)(p:HDS×MS):Bool×(HDS×MS):=((hdF t n p.1 p.2).d,((hdF t n p.1 p.2).x,(hdF t n p.1 p.2).s))
abbrev sO(t n u:Int):Int:=2*n+5+2*t+3*u+2
theorem N6{t n:Int}{x:HDS}{s:MS}{d:Bool}{x':HDS}{s':MS}(h:hdF t n x s=⟨d,x',s'⟩):J9 t n (x,s)=(d,(x',s')):=by
 unfold J9;rw [h]
def PZ(t n:Int)(xs:List Int):Prop:= ∀u:Int,0≤u→u<t→lJ (aA (aB xs (sO t n u)) 49 3)=false
theorem V7{t n:Int}{x:HDS}{s:MS}(h:x.tk=false)(ha:0≤x.at'∧x.at'<t)(ht:t≤1000)(hz:PZ t n s.xs):hdF t n x s=⟨ile t (x.at'+1),{x with at':=x.at'+1,tk:=false},s.loadd (sO t n x.at')⟩:=by
 unfold hdF ZO N8
 have hp:lJ (aA (aB s.3 (2*n+5+2*t+3*x.3+2)) 49 3)=false:=hz x.at' ha.1 ha.2
 have hw:W (x.3+1)=x.3+1:=cT ⟨by have:0≤x.3:=ha.1;omega,by have:x.3<t:=ha.2;omega⟩
 simp only [Tr.val,h,hp,hw,Bool.not_false,cond_true]
 rfl
theorem w8{t n:Int} : ∀(k:Nat) (x:HDS) (s:MS),x.tk=false→0≤x.at'→x.at'+k+1=t→t≤1000→PZ t n s.xs→
 ∃z s',End (J9 t n) (k+1) (x,s) (z,s')∧z.u=x.u∧s'.xs=s.xs∧s'.c=s.c+(k+1:Nat)∧s'.t=s.t∧s'.n=s.n
 | 0,x,s,h1,h2,h3,h4,h5=>by
   have e:=V7 (n:=n) h1 ⟨h2,by omega⟩ h4 h5
   have q:ile t (x.at'+1)=true:=by rw [cG];exact decide_eq_true (by omega)
   rw [q]at e
   exact⟨_,_,End.one (N6 e),rfl,rfl,rfl,rfl,rfl⟩
 | k+1,x,s,h1,h2,h3,h4,h5=>by
   have e:=V7 (n:=n) h1 ⟨h2,by omega⟩ h4 h5
   have q:ile t (x.at'+1)=false:=by rw [cG];exact decide_eq_false (by omega)
   rw [q]at e
   obtain⟨z,s',g1,g2,g3,g4,g5,g6⟩:=w8 k {x with at':=x.at'+1,tk:=false} (s.loadd (sO t n x.at')) rfl (by show 0≤x.at'+1;omega) (by show x.at'+1+k+1=t;omega) h4 h5
   exact⟨z,s',End.cons (N6 e) g1,g2,g3,by rw [g4];show s.c+1+_=_;omega,g5,g6⟩
def drG(t n:Int)(p:DRS×MS):Bool×(DRS×MS):=((drF t n p.1 p.2).d,((drF t n p.1 p.2).x,(drF t n p.1 p.2).s))
theorem NH(t n me:Int)(s:MS): ∃z s1,End (drG t n) 2 (⟨me,0⟩,s) (z,(s.stored (2*n+5+2*me+0) 0).stored (2*n+5+2*me+1) 0)∧drF t n ⟨me,0⟩ s=⟨false,⟨me,1⟩,s1⟩:=by
 have e1:drF t n ⟨me,0⟩ s=⟨false,⟨me,1⟩,s.stored (2*n+5+2*me+0) 0⟩:=by
  unfold drF VU JE
  have hw:W (0+1)=1:=by decide
  simp only [Tr.val,hw,show ile 2 1=false by decide]
  rfl
 have e2: ∀s,drF t n ⟨me,1⟩ s=⟨true,⟨me,2⟩,s.stored (2*n+5+2*me+1) 0⟩:=by
  intro s
  unfold drF VU JE
  have hw:W (1+1)=2:=by decide
  simp only [Tr.val,hw,show ile 2 2=true by decide]
  rfl
 refine⟨_,_,End.cons (b:=(⟨me,1⟩,s.stored (2*n+5+2*me+0) 0)) (by unfold drG;rw [e1]) (End.one (by unfold drG;rw [e2])),e1⟩
def allN(LL:List (List Nd))(S:List STS):List Int:=LL.flatMap (fun L=>L.map Nd.a)++S.flatMap (fun st=>cF st.sp st.R)
theorem fJ{α β:Type}(f:α→List β): ∀(l:List α) (i:Nat) (x:α),l[i]? =some x→(l.flatMap f).Perm (f x++(l.eraseIdx i).flatMap f)
 | [],i,x,h=>by simp at h
 | y::l,0,x,h=>by simp at h;subst h;exact List.Perm.refl _
 | y::l,i+1,x,h=>by
   have:=fJ f l i x (by simpa using h)
   simp only [List.flatMap_cons,List.eraseIdx_cons_succ]
   refine(List.Perm.append_left (f y) this).trans ?_
   rw [←List.append_assoc,←List.append_assoc]
   exact List.Perm.append_right _ List.perm_append_comm
theorem gZ{α β:Type}(f:α→List β): ∀(l:List α) (i:Nat) (x:α),i<l.length→((l.set i x).flatMap f).Perm (f x++(l.eraseIdx i).flatMap f)
 | [],i,x,h=>by simp at h
 | y::l,0,x,h=>by simp
 | y::l,i+1,x,h=>by
   have:=gZ f l i x (by simpa using h)
   simp only [List.flatMap_cons,List.eraseIdx_cons_succ,List.set_cons_succ]
   refine(List.Perm.append_left (f y) this).trans ?_
   rw [←List.append_assoc,←List.append_assoc]
   exact List.Perm.append_right _ List.perm_append_comm
structure QL (t n:Int) (xs:List Int) (LL:List (List Nd)) (S:List STS):Prop where
 ht:1≤t∧t≤1000
 hn:1≤n∧n≤500
 len:(xs.length:Int)=2*n+5*t+6
 okw:okW xs
 four:LL.length=4
 hd: ∀(h:Nat) (L:List Nd),LL[h]? =some L→ch n xs (n+1+h) L∧mkW (aB xs (n+1+h))=false∧clW' (aB xs (n+1+h))=0
 nd:(allN LL S).Nodup
 rng: ∀b∈allN LL S,1≤b∧b≤n
 tk: ∀b,1≤b∧b≤n→(dA n xs b=true↔b∈allN LL S)
 me: ∀(i:Nat) (st:STS),S[i]? =some st→st.me=i∧(i:Int)<t
theorem QL.mc{t n:Int}{LL:List (List Nd)}{S:List STS}{s:MS}(h:QL t n s.xs LL S):MC t n s:=⟨h.ht,h.hn,h.len,h.okw⟩
theorem eS{α:Type}{l:List α}{i:Nat}{x:α}(h:l[i]? =some x):i<l.length:=by
 rw [List.getElem?_eq_some_iff]at h;exact h.1
theorem iR{t n:Int}{xs:List Int}{LL:List (List Nd)}{S:List STS}(q:QL t n xs LL S){h:Nat}{L:List Nd}(hL:LL[h]? =some L):(L.map Nd.a).Nodup ∧(∀b∈L.map Nd.a,1≤b∧b≤n)∧(∀b∈L.map Nd.a,b∈allN LL S):=by
 have p:=fJ (fun L:List Nd=>L.map Nd.a) LL h L hL
 have m: ∀b∈L.map Nd.a,b∈allN LL S:=fun b hb=>List.mem_append_left _ (p.symm.subset (List.mem_append_left _ hb))
 have nd:(LL.flatMap fun L:List Nd=>L.map Nd.a).Nodup :=(List.nodup_append.1 q.nd).1
 exact⟨(List.nodup_append.1 (p.nodup_iff.1 nd)).1,fun b hb=>q.rng b (m b hb),m⟩
theorem fW{t n:Int}{xs:List Int}{LL:List (List Nd)}{S:List STS}(q:QL t n xs LL S){i:Nat}{st:STS}(hS:S[i]? =some st):(cF st.sp st.R).Nodup ∧(∀b∈cF st.sp st.R,1≤b∧b≤n)∧(∀b∈cF st.sp st.R,b∈allN LL S):=by
 have p:=fJ (fun st:STS=>cF st.sp st.R) S i st hS
 have m: ∀b∈cF st.sp st.R,b∈allN LL S:=fun b hb=>List.mem_append_right _ (p.symm.subset (List.mem_append_left _ hb))
 have nd:(S.flatMap fun st:STS=>cF st.sp st.R).Nodup :=(List.nodup_append.1 q.nd).2.1
 exact⟨(List.nodup_append.1 (p.nodup_iff.1 nd)).1,fun b hb=>q.rng b (m b hb),m⟩
theorem rR{t n:Int}{xs:List Int}{LL:List (List Nd)}{S:List STS}(q:QL t n xs LL S){i h:Nat}{st:STS}{L:List Nd}(hS:S[i]? =some st)(hL:LL[h]? =some L): ∀b∈cF st.sp st.R,b∉L.map Nd.a:=by
 intro b hb hc
 have p:=fJ (fun st:STS=>cF st.sp st.R) S i st hS
 have p2:=fJ (fun L:List Nd=>L.map Nd.a) LL h L hL
 exact(List.nodup_append.1 q.nd).2.2 b (p2.symm.subset (List.mem_append_left _ hc)) b (p.symm.subset (List.mem_append_left _ hb)) rfl
theorem lS{sp:Int}{R:List Int}{r:Int}(h:r∈R):r∈cF sp R:=by
 unfold cF
 cases ieq sp 0 with
 | true=>exact h
 | false=>exact List.mem_cons_of_mem _ h
theorem pK{sp:Int}{R:List Int}(h:(cF sp R).Nodup):R.Nodup:=by
 unfold cF at h
 cases q:ieq sp 0 with
 | true=>rw [q]at h;exact h
 | false=>rw [q]at h;exact(List.nodup_cons.1 h).2
theorem zC(R:List Int):cF 0 R=R:=rfl
theorem kJ{sp:Int}(h:sp≠0)(R:List Int):cF sp R=sp::R:=by
 unfold cF
 have:ieq sp 0=false:=by rw [bI,beq_eq_false_iff_ne];exact h
 rw [this];rfl
theorem QL.agree{t n:Int}{xs ys:List Int}{LL:List (List Nd)}{S S':List STS}(q:QL t n xs LL S)(len:ys.length=xs.length)(ok:okW ys)(e: ∀a,1≤a∧a≤n+4→aB ys a=aB xs a)
 (nd:(allN LL S').Nodup) (rng: ∀b∈allN LL S',1≤b∧b≤n) (tk: ∀b,1≤b∧b≤n→(dA n ys b=true↔b∈allN LL S')) (me: ∀(i:Nat) (st:STS),S'[i]? =some st→st.me=i∧(i:Int)<t):QL t n ys LL S' where
 ht:=q.ht
 hn:=q.hn
 len:=by rw [len];exact q.len
 okw:=ok
 four:=q.four
 hd:=by
  intro h L hL
  obtain⟨h1,h2,h3⟩:=q.hd h L hL
  have hh:h<4:=by have:=eS hL;rw [q.four]at this;exact this
  have hn:=q.hn
  have eh:=e (n+1+h) (by omega)
  refine⟨jB h1 (fun b hb=>e b ?_),by rw [eh];exact h2,by rw [eh];exact h3⟩
  rcases List.mem_cons.1 hb with r | r
  ·omega
  ·have:=(iR q hL).2.1 b r;omega
 nd:=nd
 rng:=rng
 tk:=tk
 me:=me
theorem oH{α:Type}{l:List α}{i j:Nat}{x y:α}(h:(l.set i x)[j]? =some y):(i=j∧x=y)∨(l[j]? =some y∧i≠j):=by
 rw [List.getElem?_set]at h
 by_cases e:i=j
 ·rw [if_pos e]at h
  split at h
  ·exact .inl ⟨e,by simpa using h⟩
  ·cases h
 ·rw [if_neg e]at h
  exact .inr ⟨h,e⟩
theorem FM{t:Int}{S:List STS}{i:Nat}{st st':STS}(h: ∀(j:Nat) (x:STS),S[j]? =some x→x.me=j∧(j:Int)<t)(hS:S[i]? =some st)(e:st'.me=st.me): ∀(j:Nat) (x:STS),(S.set i st')[j]? =some x→x.me=j∧(j:Int)<t:=by
 intro j x hx
 rcases oH hx with⟨rfl,rfl⟩ | ⟨h1,_⟩
 ·rw [e];exact h i st hS
 ·exact h j x h1
theorem HZ{n a b:Int}(hn:1≤n)(ha:1≤a∧a≤n+4)(hb:1≤b):a≠n+4+b:=by omega
theorem KM{t n:Int}{xs:List Int}{b c v:Int}(hin:0≤n+4+b∧n+4+b<xs.length):dA n (aL xs (n+4+b) v) c=if c=b then oddB v else dA n xs c:=by
 unfold dA
 rw [u4 hin]
 by_cases e:c=b
 ·rw [if_pos e,if_pos (by omega)]
 ·rw [if_neg e,if_neg (by omega)]
theorem QL.take{t n:Int}{xs:List Int}{LL:List (List Nd)}{S:List STS}(q:QL t n xs LL S){i:Nat}{st:STS}(hS:S[i]? =some st)(hz:st.sp=0){b:Int}(hb:1≤b∧b≤n)(hf:dA n xs b=false):
 QL t n (aL xs (n+4+b) (aB xs (n+4+b)+1)) LL (S.set i {st with sp:=b}):=by
 have hn:=q.hn
 have ht:=q.ht
 have hin:0≤n+4+b∧n+4+b<xs.length:=by have:=q.len;omega
 have hw:=jL q.okw (n+4+b)
 have hev: ¬aB xs (n+4+b)%2=1:=by
  intro h
  have:dA n xs b=true:=(jK hw.1).2 h
  rw [this]at hf;cases hf
 have hb0:b∉allN LL S:=fun h=>by
  have:=(q.tk b hb).2 h
  rw [this]at hf;cases hf
 have p0:=fJ (fun st:STS=>cF st.sp st.R) S i st hS
 have p1:=gZ (fun st:STS=>cF st.sp st.R) S i {st with sp:=b} (eS hS)
 have pp:(allN LL (S.set i {st with sp:=b})).Perm (b::allN LL S):=by
  refine(List.Perm.append_left _ p1).trans ?_
  have h1:cF b st.R=b::cF st.sp st.R:=by rw [hz,zC,kJ (by omega)]
  show(_++(cF b st.R++_)).Perm _
  rw [h1]
  refine List.Perm.trans ?_ (List.Perm.cons b (List.Perm.append_left _ p0.symm))
  rw [List.cons_append]
  exact List.perm_middle
 refine q.agree (b8 _ _ _) (d9 q.okw (by omega)) (fun a ha=>cK (HZ hn.1 ha hb.1)) (pp.nodup_iff.2 (List.nodup_cons.2 ⟨hb0,q.nd⟩)) (fun c hc=>?_) (fun c hc=>?_) (FM q.me hS rfl)
 ·rcases List.mem_cons.1 (pp.subset hc)with e | e
  ·rw [e];exact hb
  ·exact q.rng c e
 ·rw [KM (t:=t) hin]
  by_cases e:c=b
  ·rw [if_pos e,e]
   exact⟨fun _=>pp.symm.subset (List.mem_cons_self ..),fun _=>(jK (by omega)).2 (by omega)⟩
  ·rw [if_neg e,q.tk c hc]
   exact⟨fun h=>pp.symm.subset (List.mem_cons_of_mem _ h),fun h=>(List.mem_cons.1 (pp.subset h)).resolve_left e⟩
theorem QQ{x:Int}(h:0≤x∧x≤18446744073709551615)(ho:x%2=1):WU (x+1)%2=0:=by
 by_cases q:x+1≤18446744073709551615
 ·have q2:WU (x+1)=x+1:=i8 ⟨by omega,q⟩
  rw [q2];omega
 ·have q3:x+1=18446744073709551616:=by omega
  rw [q3];decide
theorem QL.give{t n:Int}{xs:List Int}{LL:List (List Nd)}{S:List STS}(q:QL t n xs LL S){i:Nat}{st:STS}(hS:S[i]? =some st):QL t n (eT n st.R xs) LL (S.set i {st with R:=[] }):=by
 have hn:=q.hn
 have ht:=q.ht
 obtain⟨h1,h2,h3⟩:=fW q hS
 have hR:=pK h1
 have hr: ∀r∈st.R,1≤r∧r≤n:=fun r h=>h2 r (lS h)
 have hin: ∀r∈st.R,0≤n+4+r∧n+4+r<xs.length:=fun r h=>by have:=hr r h;have:=q.len;omega
 have p0:=fJ (fun st:STS=>cF st.sp st.R) S i st hS
 have p1:=gZ (fun st:STS=>cF st.sp st.R) S i {st with R:=[] } (eS hS)
 have ph:(cF st.sp st.R).Perm (st.R++cF st.sp []):=by
  unfold cF
  cases ieq st.sp 0 with
  | true=>simp
  | false=>simpa using(List.perm_append_comm (l₁:=[st.sp]) (l₂:=st.R))
 have pp:(allN LL S).Perm (st.R++allN LL (S.set i {st with R:=[] })):=by
  unfold allN
  refine(List.Perm.append_left _ p0).trans ?_
  refine List.Perm.trans ?_ (List.Perm.append_left _ (List.Perm.append_left _ p1.symm))
  refine(List.Perm.append_left _ (List.Perm.append_right _ ph)).trans ?_
  exact List.perm_iff_count.2 (fun a=>by simp only [List.count_append];omega)
 have nd2:=pp.nodup_iff.1 q.nd
 have nd3:=List.nodup_append.1 nd2
 refine q.agree (rP _ _ _) (rQ _ _ _ q.okw) (fun a ha=>gK _ _ (fun r h=>HZ hn.1 ha (hr r h).1)) nd3.2.1 (fun c hc=>q.rng c (pp.symm.subset (List.mem_append_right _ hc))) (fun c hc=>?_) (FM q.me hS rfl)
 by_cases e:c∈st.R
 ·have g:=uP st.R xs hR e hin
  have hw:=jL q.okw (n+4+c)
  have ho:aB xs (n+4+c)%2=1:=(jK hw.1).1 ((q.tk c hc).2 (pp.symm.subset (List.mem_append_left _ e)))
  have hv:=QQ hw ho
  have hw2:=rB (aB xs (n+4+c)+1)
  constructor
  ·intro h
   exfalso
   have h:oddB (aB (eT n st.R xs) (n+4+c))=true:=h
   rw [g,jK hw2.1]at h;omega
  ·intro h
   exact absurd rfl (nd3.2.2 c e c h)
 ·have g:aB (eT n st.R xs) (n+4+c)=aB xs (n+4+c):=gK _ _ (fun r h e2=>e (by rw [show c=r from(by omega)];exact h))
  have g2:dA n (eT n st.R xs) c=dA n xs c:=by unfold dA;rw [g]
  rw [g2,q.tk c hc]
  exact⟨fun h=>(List.mem_append.1 (pp.subset h)).resolve_left e,fun h=>pp.symm.subset (List.mem_append_right _ h)⟩
theorem QL.out{t n:Int}{xs ys:List Int}{LL:List (List Nd)}{S:List STS}(q:QL t n xs LL S)(len:ys.length=xs.length)(ok:okW ys)(e: ∀a,a≤2*n+4→aB ys a=aB xs a):QL t n ys LL S:=by
 refine q.agree len ok (fun a ha=>e a (by have:=q.hn;omega)) q.nd q.rng (fun b hb=>?_) q.me
 rw [←q.tk b hb]
 unfold dA
 rw [e _ (by omega)]
theorem tP(k:Int): ∀L:List Nd,L.Perm ((sc k L).1++(sc k L).2.1++(sc k L).2.2)
 | []=>List.Perm.refl _
 | b::L=>by
   have ih:=tP k L
   cases hm:b.m with
   | true=>
     rw [jY hm]
     refine(List.Perm.cons b ih).trans ?_
     simp only [List.append_assoc,List.cons_append]
     exact List.perm_middle.symm
   | false=>
     by_cases hk:k≤b.k
     ·rw [jZ hm hk];exact List.Perm.refl _
     ·rw [iU hm (by omega)];exact List.Perm.cons b ih
theorem CB(sh ky:Int):(cB sh ky).toNat <4:=by have:=cU sh ky;omega
theorem uQ(sh ky:Int):(((cB sh ky).toNat :Nat):Int)=cB sh ky:=by have:=cU sh ky;omega
def bK(LL:List (List Nd))(sh ky:Int):List Nd:=LL.getD (cB sh ky).toNat []
theorem QL.at{t n:Int}{xs:List Int}{LL:List (List Nd)}{S:List STS}(q:QL t n xs LL S)(sh ky:Int):LL[(cB sh ky).toNat]? =some (bK LL sh ky):=by
 have h:(cB sh ky).toNat <LL.length:=by rw [q.four];exact CB _ _
 unfold bK
 rw [gD',gE' h];rfl
theorem CU: ∀(l m:List Int),l.Nodup→(∀a∈l,a∈m)→l.length≤m.length
 | [],m,_,_=>Nat.zero_le _
 | a::l,m,h,hs=>by
   have h:=List.nodup_cons.1 h
   have ha:=hs a (List.mem_cons_self ..)
   have:=CU l (m.erase a) h.2 (fun b hb=>(List.mem_erase_of_ne (by rintro rfl;exact h.1 hb)).2 (hs b (List.mem_cons_of_mem _ hb)))
   rw [List.length_erase_of_mem ha]at this
   have:0<m.length:=List.length_pos_of_mem ha
   simp only [List.length_cons]
   omega
theorem fZ{l:List Int}{n:Int}(hn:0≤n)(h:l.Nodup)(hr: ∀b∈l,1≤b∧b≤n):(l.length:Int)≤n:=by
 have hs: ∀b∈l,b∈((List.range n.toNat).map fun i:Nat=>(i:Int)+1):=by
  intro b hb
  have:=hr b hb
  exact List.mem_map.2 ⟨(b - 1).toNat,List.mem_range.2 (by omega),by omega⟩
 have:=CU _ _ h hs
 rw [List.length_map,List.length_range]at this
 omega
theorem QL.lc{t n:Int}{xs:List Int}{LL:List (List Nd)}{S:List STS}(q:QL t n xs LL S)(sh ky:Int){i:Nat}{st:STS}(hS:S[i]? =some st):LC t n st.me (n+1+cB sh ky) (bK LL sh ky) xs:=by
 have hL:=q.at sh ky
 obtain⟨h1,h2,h3⟩:=q.hd _ _ hL
 obtain⟨d1,d2,d3⟩:=iR q hL
 have hh:=cU sh ky
 have hm:=q.me i st hS
 have hn:=q.hn
 rw [uQ]at h1 h2 h3
 refine⟨q.ht,q.hn,q.len,by omega,by omega,h2,h3,h1,List.nodup_cons.2 ⟨fun h=>?_,d1⟩,?_⟩
 ·have:=d2 _ h;omega
 ·have:=fZ (by omega) d1 d2
  rw [List.length_map]at this
  exact this
theorem QL.move{t n:Int}{xs ys:List Int}{LL:List (List Nd)}{S:List STS}(q:QL t n xs LL S){h i:Nat}{L L':List Nd}{st st':STS}(hL:LL[h]? =some L)(hS:S[i]? =some st)(hme:st'.me=st.me)
 (len:ys.length=xs.length) (ok:okW ys)
 (pp:(L'.map Nd.a++cF st'.sp st'.R).Perm (L.map Nd.a++cF st.sp st.R))
 (hch:ch n ys (n+1+h) L'∧mkW (aB ys (n+1+h))=false∧clW' (aB ys (n+1+h))=0)
 (same: ∀a,1≤a∧a≤2*n+4→a≠n+1+h→a∉L.map Nd.a→a≠st.sp→aB ys a=aB xs a):QL t n ys (LL.set h L') (S.set i st'):=by
 have hn:=q.hn
 have hh:h<4:=by have:=eS hL;rw [q.four]at this;exact this
 have p0:=fJ (fun L:List Nd=>L.map Nd.a) LL h L hL
 have p1:=gZ (fun L:List Nd=>L.map Nd.a) LL h L' (eS hL)
 have q0:=fJ (fun st:STS=>cF st.sp st.R) S i st hS
 have q1:=gZ (fun st:STS=>cF st.sp st.R) S i st' (eS hS)
 have pall:(allN (LL.set h L') (S.set i st')).Perm (allN LL S):=by
  unfold allN
  refine(List.Perm.append p1 q1).trans (List.Perm.trans ?_ (List.Perm.append p0 q0).symm)
  have pc:=List.perm_iff_count.1 pp
  refine List.perm_iff_count.2 (fun a=>?_)
  have:=pc a
  simp only [List.count_append]at this⊢
  omega
 have hdj:=rR q hS hL
 have spd: ∀b,b∈allN LL S→b=st.sp→b∉L.map Nd.a:=by
  intro b _ e
  by_cases z:st.sp=0
  ·intro hb;have:=(iR q hL).2.1 b hb;omega
  ·exact hdj b (by rw [e,kJ z];exact List.mem_cons_self ..)
 refine {ht:=q.ht,hn:=q.hn,len:=by rw [len];exact q.len,okw:=ok,four:=by rw [List.length_set];exact q.four,hd:=?_,nd:=pall.nodup_iff.2 q.nd,rng:=fun b hb=>q.rng b (pall.subset hb),tk:=fun b hb=>?_,me:=FM q.me hS hme}
 ·intro g M hM
  rcases oH hM with⟨rfl,rfl⟩ | ⟨hM,hne⟩
  ·exact hch
  ·obtain⟨k1,k2,k3⟩:=q.hd g M hM
   have hg:g<4:=by have:=eS hM;rw [q.four]at this;exact this
   have hsp: ∀b∈M.map Nd.a,b≠st.sp:=by
    intro b hb e
    by_cases z:st.sp=0
    ·have:=(iR q hM).2.1 b hb;omega
    ·exact rR q hS hM b (by rw [e,kJ z];exact List.mem_cons_self ..) hb
   have hLM: ∀b∈M.map Nd.a,b∉L.map Nd.a:=by
    intro b hb hc
    have r0:=p0.nodup_iff.1 (List.nodup_append.1 q.nd).1
    refine(List.nodup_append.1 r0).2.2 b hc b ?_ rfl
    have hMe:M∈LL.eraseIdx h:=by
     refine List.mem_iff_getElem?.2 ?_
     rcases Nat.lt_or_ge g h with hl | hl
     ·exact⟨g,by rw [List.getElem?_eraseIdx_of_lt hl];exact hM⟩
     ·exact⟨g - 1,by rw [List.getElem?_eraseIdx_of_ge (by omega),show g - 1+1=g by omega];exact hM⟩
    exact List.mem_flatMap.2 ⟨M,hMe,hb⟩
   have sg: ∀a,a=n+1+g∨a∈M.map Nd.a→aB ys a=aB xs a:=by
    intro a ha
    rcases ha with e | e
    ·refine same a (by omega) (by omega) (fun hh=>?_) (fun e2=>?_)
     ·have:=(iR q hL).2.1 a hh;omega
     ·by_cases z:st.sp=0
      ·omega
      ·have:=(fW q hS).2.1 st.sp (by rw [kJ z];exact List.mem_cons_self ..);omega
    ·have:=(iR q hM).2.1 a e
     exact same a (by omega) (by omega) (hLM a e) (hsp a e)
   refine⟨jB k1 (fun b hb=>sg b (by rcases List.mem_cons.1 hb with r | r;exact .inl r;exact .inr r)),?_,?_⟩
   ·rw [sg _ (.inl rfl)];exact k2
   ·rw [sg _ (.inl rfl)];exact k3
 ·have e:aB ys (n+4+b)=aB xs (n+4+b):=by
   refine same _ (by omega) (by omega) (fun hh=>?_) (fun e2=>?_)
   ·have:=(iR q hL).2.1 _ hh;omega
   ·by_cases z:st.sp=0
    ·omega
    ·have:=(fW q hS).2.1 st.sp (by rw [kJ z];exact List.mem_cons_self ..);omega
  have e2:dA n ys b=dA n xs b:=by unfold dA;rw [e]
  rw [e2,q.tk b hb]
  exact⟨fun h=>pall.symm.subset h,fun h=>pall.subset h⟩
theorem nD(sp:Int)(R X:List Int):cF sp (R++X)=cF sp R++X:=by
 unfold cF
 cases ieq sp 0<;>rfl
def fO(sh kd ky sp:Int)(L:List Nd):List Nd:=(sc (bT sh kd ky) L).1++(paOf sh kd ky (sc (bT sh kd ky) L).2.2).new ky sp (sc (bT sh kd ky) L).2.2
def fP(sh kd ky:Int)(L:List Nd)(st:STS):STS:=⟨st.me,(paOf sh kd ky (sc (bT sh kd ky) L).2.2).sp st.sp,st.R++(sc (bT sh kd ky) L).2.1.map Nd.a++(paOf sh kd ky (sc (bT sh kd ky) L).2.2).pops (sc (bT sh kd ky) L).2.2⟩
theorem wY{sh kd ky:Int}{L:List Nd}{st:STS}(hl:bS kd=true→st.sp≠0):((fO sh kd ky st.sp L).map Nd.a++cF (fP sh kd ky L st).sp (fP sh kd ky L st).R).Perm (L.map Nd.a++cF st.sp st.R):=by
 have pL:=(tP (bT sh kd ky) L).map Nd.a
 unfold fO fP
 generalize (sc (bT sh kd ky) L).1=A at*
 generalize (sc (bT sh kd ky) L).2.1=U at*
 generalize (sc (bT sh kd ky) L).2.2=B at*
 rw [List.map_append,List.map_append]at pL
 have pc:=List.perm_iff_count.1 pL
 refine List.perm_iff_count.2 (fun a=>?_)
 have pa:=pc a
 cases hact:paOf sh kd ky B with
 | now b=>
   simp only [Pa.new,Pa.sp,Pa.pops,List.append_nil,nD,List.map_append,List.count_append]at pa⊢
   omega
 | link=>
   have hz:=hl (zJ hact)
   simp only [Pa.new,Pa.sp,Pa.pops,List.append_nil,nD,zC,kJ hz,List.map_append,List.map_cons,List.count_append,List.count_cons]at pa⊢
   omega
 | mark v=>
   obtain⟨b,B',rfl⟩:=zK hact
   simp only [Pa.new,Pa.sp,Pa.pops,List.append_nil,nD,List.map_append,List.map_cons,List.count_append,List.count_cons]at pa⊢
   omega
 | pop v=>
   obtain⟨b,B',rfl⟩:=OV hact
   simp only [Pa.new,Pa.sp,Pa.pops,List.tail_cons,hdN,nD,List.map_append,List.map_cons,List.count_append,List.count_cons,List.count_nil]at pa⊢
   omega
theorem QL.fast{t n:Int}{LL:List (List Nd)}{S:List STS}{s s':MS}{sh kd ky:Int}{i j:Nat}{st:STS}(q:QL t n s.xs LL S)(hS:S[i]? =some st)(hl:bS kd=true→st.sp≠0)
 (f:FtA n st.me (n+1+cB sh ky) (bK LL sh ky) (bT sh kd ky) ky st.sp (paOf sh kd ky (sc (bT sh kd ky) (bK LL sh ky)).2.2) s s' j):
 QL t n s'.xs (LL.set (cB sh ky).toNat (fO sh kd ky st.sp (bK LL sh ky))) (S.set i (fP sh kd ky (bK LL sh ky) st)):=by
 have hh:=uQ sh ky
 have hm:=q.me i st hS
 refine q.move (q.at sh ky) hS rfl f.len (f.okw q.okw) (wY hl) ⟨?_,?_,?_⟩ (fun a ha h1 h2 h3=>f.same a (by omega) (by omega) (fun h=>?_) h3)
 ·rw [hh];exact f.ch
 ·rw [hh];exact f.mp
 ·rw [hh];exact f.cp
 ·rcases List.mem_cons.1 h with e | e
  ·omega
  ·exact h2 e
theorem QL.find{t n:Int}{LL:List (List Nd)}{S:List STS}{s s':MS}{x z:FNS}{h i j:Nat}{L:List Nd}{st:STS}(q:QL t n s.xs LL S)(hL:LL[h]? =some L)(hS:S[i]? =some st)(hme:x.me=st.me)
 (f:II n (n+1+h) L x s z s' j):
 QL t n s'.xs (LL.set h ((sc x.key L).1++(sc x.key L).2.2)) (S.set i ⟨st.me,st.sp,st.R++(sc x.key L).2.1.map Nd.a⟩):=by
 have hm:=q.me i st hS
 obtain⟨k1,k2,k3⟩:=q.hd h L hL
 refine q.move hL hS rfl f.len (f.okw q.okw) ?_ ⟨f.ch,f.p3.2.1.trans k2,f.p3.2.2.trans k3⟩ (fun a ha h1 h2 h3=>f.same a (by rw [hme];omega) (by rw [hme];omega) (fun h=>?_))
 ·have pL:=(tP x.key L).map Nd.a
  rw [List.map_append,List.map_append]at pL
  have pc:=List.perm_iff_count.1 pL
  refine List.perm_iff_count.2 (fun a=>?_)
  have pa:=pc a
  simp only [nD,List.map_append,List.count_append]at pa⊢
  omega
 ·rcases List.mem_cons.1 h with e | e
  ·exact h1 e
  ·exact h2 (jJ (tO _ _) e)
def uk(L:List Nd):List Int:=(L.filter (fun b=>!b.m)).map Nd.k
theorem kR(A B:List Nd):uk (A++B)=uk A++uk B:=by unfold uk;rw [List.filter_append,List.map_append]
theorem QA: ∀ {A:List Nd},(∀b∈A,b.m=false)→uk A=A.map Nd.k
 | [],_=>rfl
 | b::A,h=>by
   have hb:=h b (List.mem_cons_self ..)
   have ih:=QA (A:=A) (fun c hc=>h c (List.mem_cons_of_mem _ hc))
   unfold uk at ih⊢
   rw [List.filter_cons,hb]
   simp only [Bool.not_false,if_true,List.map_cons,ih]
theorem v8(b:Nd)(L:List Nd):uk (b::L)=if b.m then uk L else b.k::uk L:=by
 unfold uk
 cases hb:b.m<;>simp [List.filter_cons,hb]
def cV(k:Int)(x:Int):Bool:=decide (x<k)
theorem P9(k:Int): ∀L:List Nd,(sc k L).1.map Nd.k=(uk L).takeWhile (cV k)∧uk (sc k L).2.2=(uk L).dropWhile (cV k)
 | []=>⟨rfl,rfl⟩
 | b::L=>by
   obtain⟨h1,h2⟩:=P9 k L
   cases hm:b.m with
   | true=>rw [jY hm,v8,hm];exact⟨h1,h2⟩
   | false=>
     rw [v8,hm]
     by_cases hk:k≤b.k
     ·have hb:cV k b.k=false:=decide_eq_false (by omega)
      rw [jZ hm hk]
      simp only [Bool.false_eq_true,if_false,List.takeWhile_cons,List.dropWhile_cons,hb,v8,hm,List.map_nil]
      exact⟨trivial,trivial⟩
     ·have hb:cV k b.k=true:=decide_eq_true (by omega)
      rw [iU hm (by omega)]
      simp only [Bool.false_eq_true,if_false,List.takeWhile_cons,List.dropWhile_cons,hb,if_true,List.map_cons,h1,h2]
      exact⟨trivial,trivial⟩
def wR(sh kd ky:Int)(u:List Int):(Bool×Int)×List Int:=
 if kd=4 then((true,0),u.takeWhile (cV (bT sh kd ky))++ky::u.dropWhile (cV (bT sh kd ky)))
 else if kd=1 then(if (u.dropWhile (cV (bT sh kd ky))).head? =some ky then((false,0),u)else((true,0),u.takeWhile (cV (bT sh kd ky))++ky::u.dropWhile (cV (bT sh kd ky))))
 else if kd=2 then(if (u.dropWhile (cV (bT sh kd ky))).head? =some ky then((true,0),u.takeWhile (cV (bT sh kd ky))++(u.dropWhile (cV (bT sh kd ky))).tail)else((false,0),u))
 else if kd=3 then((decide ((u.dropWhile (cV (bT sh kd ky))).head? =some ky),0),u)
 else match u.dropWhile (cV (bT sh kd ky))with
  | []=>((false,0),u)
  | x::v=>((true,x),u.takeWhile (cV (bT sh kd ky))++v)
theorem JS(sh kd ky sp:Int)(L:List Nd):(paOf sh kd ky (sc (bT sh kd ky) L).2.2).ok =(wR sh kd ky (uk L)).1.1∧(paOf sh kd ky (sc (bT sh kd ky) L).2.2).val =(wR sh kd ky (uk L)).1.2∧uk (fO sh kd ky sp L)=(wR sh kd ky (uk L)).2:=by
 obtain⟨h1,h2⟩:=P9 (bT sh kd ky) L
 have hu:=xV (bT sh kd ky) L
 have hd:=IA (bT sh kd ky) L
 have hall:uk L=(sc (bT sh kd ky) L).1.map Nd.k++uk (sc (bT sh kd ky) L).2.2:=by rw [h1,h2,List.takeWhile_append_dropWhile]
 unfold wR fO
 rw [←h1,←h2]
 generalize (sc (bT sh kd ky) L).1=A at*
 generalize (sc (bT sh kd ky) L).2.2=B at*
 have hA:=QA hu
 have hf:((uk B).head? =some ky)↔fndB ky B=true:=by
  cases B with
  | nil=>simp [uk,fndB]
  | cons b B'=>
    rw [v8,(hd b B' rfl).1]
    simp [fndB,bI]
 have hfd:decide ((uk B).head? =some ky)=fndB ky B:=by
  cases q:fndB ky B with
  | true=>exact decide_eq_true (hf.2 q)
  | false=>exact decide_eq_false (fun r=>by rw [hf.1 r]at q;cases q)
 have hhd:fndB ky B=true→ ∃b B',B=b::B'∧b.k=ky∧b.m=false:=by
  intro q
  cases B with
  | nil=>cases q
  | cons b B'=>exact⟨b,B',rfl,by simpa [fndB,bI]using q,(hd b B' rfl).1⟩
 unfold paOf
 by_cases e4:kd=4
 ·rw [if_pos e4,if_pos e4]
  refine⟨rfl,rfl,?_⟩
  rw [Pa.new,kR,hA,v8];rfl
 rw [if_neg e4,if_neg e4]
 by_cases e1:kd=1
 ·rw [if_pos e1,if_pos e1]
  cases q:fndB ky B with
  | true=>
    rw [if_pos (hf.2 q)]
    refine⟨rfl,rfl,?_⟩
    rw [cond_true,Pa.new,kR,hA,←hall]
  | false=>
    rw [if_neg (fun r=>by rw [hf.1 r]at q;cases q)]
    refine⟨rfl,rfl,?_⟩
    rw [cond_false,Pa.new,kR,hA,v8];rfl
 rw [if_neg e1,if_neg e1]
 by_cases e2:kd=2
 ·rw [if_pos e2,if_pos e2]
  cases q:fndB ky B with
  | true=>
    obtain⟨b,B',rfl,hk,hm⟩:=hhd q
    rw [if_pos (hf.2 q)]
    refine⟨rfl,rfl,?_⟩
    rw [cond_true,Pa.new,kR,hA,v8,v8,hm];rfl
  | false=>
    rw [if_neg (fun r=>by rw [hf.1 r]at q;cases q)]
    refine⟨rfl,rfl,?_⟩
    rw [cond_false,Pa.new,kR,hA,←hall]
 rw [if_neg e2,if_neg e2]
 by_cases e3:kd=3
 ·rw [if_pos e3,if_pos e3]
  refine⟨hfd.symm,rfl,?_⟩
  rw [Pa.new,kR,hA,←hall]
 rw [if_neg e3,if_neg e3]
 cases B with
 | nil=>
   refine⟨rfl,rfl,?_⟩
   show uk (A++ [])=uk L
   rw [kR,hA,←hall]
 | cons b B'=>
   have hm:=(hd b B' rfl).1
   have hu2:uk (b::B')=b.k::uk B':=by rw [v8,hm];rfl
   rw [hu2]
   by_cases e5:sh=4
   ·simp only [if_pos e5]
    refine⟨rfl,rfl,?_⟩
    rw [Pa.new,kR,hA];rfl
   ·simp only [if_neg e5]
    refine⟨rfl,rfl,?_⟩
    rw [Pa.new,kR,hA,v8];rfl
theorem qI{f:Nat→Int}{n:Nat}(h:f n=4):dB f (n+1)=dB f n+1:=by
 show(bif ieq (f n) 4 then _ else _)=_;rw [h,bN];rfl
theorem oF{f:Nat→Int}{n:Nat}(h:f n=5):dB f (n+1)=if 0<dB f n then dB f n - 1 else 0:=by
 show(bif ieq (f n) 4 then _ else bif ilt 0 (dB f n)then _ else _)=_
 rw [h,fN (show(5:Int)≠4 by decide),cond_false,bU]
 have:=rV f n
 by_cases e:0<dB f n
 ·rw [decide_eq_true e,if_pos e];rfl
 ·rw [decide_eq_false e,if_neg e,cond_false];omega
theorem C4{f g:Nat→Int}{n:Nat}(h:f n=4):nQ f g (n+1)=nQ f g n++ [g n]:=by
 show(bif ieq (f n) 4 then _ else _)=_;rw [h,bN];rfl
theorem xT{f g:Nat→Int}{n:Nat}(h:f n=5):nQ f g (n+1)=nQ f g n:=by
 show(bif ieq (f n) 4 then _ else _)=_;rw [h,fN (show(5:Int)≠4 by decide)];rfl
def xF(f:Nat→Int)(n:Nat):Prop:= ∀j,j<n→f j=4∨f j=5
theorem zF{f g:Nat→Int} : ∀n,xF f n→dB f n≤(nQ f g n).length
 | 0,_=>Int.le_refl 0
 | n+1,h=>by
   have ih:=zF (g:=g) n (fun j hj=>h j (by omega))
   rcases h n (by omega)with e | e
   ·rw [qI e,C4 e,List.length_append];simp;omega
   ·rw [oF e,xT e];split<;>omega
theorem ON{f g:Nat→Int}{n:Nat}(h:xF f n)(e:f n=4):uS f g (n+1)=uS f g n++ [g n]:=by
 have hl:=zF (g:=g) n h
 have h0:=rV f n
 unfold uS
 rw [qI e,C4 e,List.length_append]
 have:((((nQ f g n).length + [g n].length :Nat):Int) - (dB f n+1)).toNat =(((nQ f g n).length :Int) - dB f n).toNat :=by simp;omega
 rw [this,List.drop_append_of_le_length (by omega)]
theorem KN{f g:Nat→Int}{n:Nat}(h:xF f n)(e:f n=5):uS f g (n+1)=(uS f g n).tail :=by
 have hl:=zF (g:=g) n h
 have h0:=rV f n
 unfold uS
 rw [oF e,xT e,List.tail_drop]
 by_cases q:0<dB f n
 ·rw [if_pos q];congr 1;omega
 ·rw [if_neg q]
  have:dB f n=0:=by omega
  rw [this,List.drop_eq_nil_of_le (by omega),List.drop_eq_nil_of_le (by omega)]
theorem kN(f g:Nat→Int): ∀n,l9 f g n 0=[]
 | 0=>rfl
 | n+1=>rfl
theorem rX(f g:Nat→Int)(i:Nat){need:Int}(h:0<need):l9 f g (i+1) need=if f i=4∧dB f i=need - 1 then g i::l9 f g i (need - 1)else l9 f g i need:=by
 show(bif ilt 0 need then(bif ieq (f i) 4&&ieq (dB f i) (need - 1)then _ else _)else _)=_
 rw [bU,decide_eq_true h,cond_true]
 by_cases e:f i=4∧dB f i=need - 1
 ·rw [if_pos e,e.1,e.2,bN,bN];rfl
 ·rw [if_neg e]
  have:(ieq (f i) 4&&ieq (dB f i) (need - 1))=false:=by
   cases q:(ieq (f i) 4&&ieq (dB f i) (need - 1))with
   | false=>rfl
   | true=>
     simp only [Bool.and_eq_true,bI,beq_iff_eq]at q
     exact absurd q e
  rw [this];rfl
theorem rZ{f g:Nat→Int} : ∀n,xF f n→ ∀need,0<need→need≤dB f n→ ∃x,l9 f g n need=x::l9 f g n (need - 1)
 | 0,_,need,h1,h2=>by
   have:dB f 0=0:=rfl
   omega
 | n+1,h,need,h1,h2=>by
   have hn:=fun j (hj:j<n)=>h j (by omega)
   have h0:=rV f n
   rw [rX f g n h1]
   rcases h n (by omega)with e | e
   ·rw [qI e]at h2
    by_cases q:dB f n=need - 1
    ·rw [if_pos ⟨e,q⟩]
     refine⟨g n,?_⟩
     by_cases z:need=1
     ·rw [z];rw [show(1:Int) - 1=0 by decide,kN,kN]
     ·rw [rX f g n (need:=need - 1) (by omega),if_neg (fun r=>by omega)]
    ·rw [if_neg (fun r=>q r.2)]
     obtain⟨x,hx⟩:=rZ n hn need h1 (by omega)
     refine⟨x,?_⟩
     rw [hx]
     by_cases z:need=1
     ·rw [z];rw [show(1:Int) - 1=0 by decide,kN,kN]
     ·rw [rX f g n (need:=need - 1) (by omega),if_neg (fun r=>by omega)]
   ·rw [oF e]at h2
    have h3:need≤dB f n:=by split at h2<;>omega
    rw [if_neg (fun r=>by rw [e]at r;exact absurd r.1 (by decide))]
    obtain⟨x,hx⟩:=rZ n hn need h1 h3
    refine⟨x,?_⟩
    rw [hx]
    by_cases z:need=1
    ·rw [z];rw [show(1:Int) - 1=0 by decide,kN,kN]
    ·rw [rX f g n (need:=need - 1) (by omega),if_neg (fun r=>by rw [e]at r;exact absurd r.1 (by decide))]
theorem OZ{f g:Nat→Int}{n:Nat}(e:f n=4):u5 f g (n+1)=g n::u5 f g n:=by
 have h0:=rV f n
 unfold u5
 rw [qI e,rX f g n (by omega),if_pos ⟨e,by omega⟩]
 congr 2;omega
theorem K1{f g:Nat→Int}{n:Nat}(h:xF f n)(e:f n=5):u5 f g (n+1)=(u5 f g n).tail :=by
 have h0:=rV f n
 unfold u5
 rw [oF e]
 by_cases q:0<dB f n
 ·rw [if_pos q]
  obtain⟨x,hx⟩:=rZ (g:=g) n h (dB f n) q (Int.le_refl _)
  rw [hx,List.tail_cons]
  by_cases z:dB f n=1
  ·rw [z];rw [show(1:Int) - 1=0 by decide,kN,kN]
  ·rw [rX f g n (need:=dB f n - 1) (by omega),if_neg (fun r=>by rw [e]at r;exact absurd r.1 (by decide))]
 ·rw [if_neg q,show dB f n=0 by omega,kN,kN];rfl
def Srt(u:List Int):Prop:=u.Pairwise (· < ·)
theorem qV{k:Int} : ∀ {u:List Int},Srt u→ ∀x∈u.dropWhile (cV k),k≤x
 | [],_,x,h=>by cases h
 | y::u,hs,x,h=>by
   have hs':=List.pairwise_cons.1 hs
   rw [List.dropWhile_cons]at h
   by_cases q:y<k
   ·rw [show cV k y=true from decide_eq_true q]at h
    exact qV hs'.2 x h
   ·rw [show cV k y=false from decide_eq_false q]at h
    simp only [Bool.false_eq_true,if_false]at h
    rcases List.mem_cons.1 h with e | e
    ·omega
    ·have:=hs'.1 x e;omega
theorem qX{k:Int} : ∀ {u:List Int},∀x∈u.takeWhile (cV k),x<k
 | [],x,h=>by cases h
 | y::u,x,h=>by
   rw [List.takeWhile_cons]at h
   cases q:cV k y with
   | true=>
     rw [q]at h
     simp only [if_true]at h
     rcases List.mem_cons.1 h with e | e
     ·rw [e];exact of_decide_eq_true q
     ·exact qX x e
   | false=>rw [q]at h;cases h
theorem gM{k x:Int}(u:List Int):x∈u↔x∈u.takeWhile (cV k)∨x∈u.dropWhile (cV k):=by
 rw [←List.mem_append,List.takeWhile_append_dropWhile]
theorem DD{k:Int}{u:List Int}(h:Srt u):(u.dropWhile (cV k)).head? =some k↔k∈u:=by
 constructor
 ·intro q
  rw [gM (k:=k)]
  right
  cases hd:u.dropWhile (cV k)with
  | nil=>rw [hd]at q;cases q
  | cons y v=>
    rw [hd]at q
    simp only [List.head?_cons,sI']at q
    rw [q];exact List.mem_cons_self ..
 ·intro q
  rcases(gM (k:=k) u).1 q with e | e
  ·have:=qX k e;omega
  ·have hs:Srt (u.dropWhile (cV k)):=h.sublist (List.dropWhile_sublist _)
   have hge:=qV (k:=k) h
   cases hd:u.dropWhile (cV k)with
   | nil=>rw [hd]at e;cases e
   | cons y v=>
     rw [hd]at e hs hge
     have hy:=hge y (List.mem_cons_self ..)
     rcases List.mem_cons.1 e with r | r
     ·rw [r];rfl
     ·have:=(List.pairwise_cons.1 hs).1 k r;omega
theorem UX{k:Int}{u:List Int}(h:Srt u)(hk:k∉u):Srt (u.takeWhile (cV k)++k::u.dropWhile (cV k)):=by
 have hs:Srt (u.dropWhile (cV k)):=h.sublist (List.dropWhile_sublist _)
 have ht:Srt (u.takeWhile (cV k)):=h.sublist (List.takeWhile_sublist _)
 refine List.pairwise_append.2 ⟨ht,List.pairwise_cons.2 ⟨fun x hx=>?_,hs⟩,fun a ha b hb=>?_⟩
 ·have:=qV h x hx
  have:x≠k:=by rintro rfl;exact hk ((gM (k:=x) u).2 (.inr hx))
  omega
 ·have h1:=qX a ha
  rcases List.mem_cons.1 hb with e | e
  ·omega
  ·have:=qV h b e;omega
theorem UW{k:Int}{u:List Int}(h:Srt u)(hk:k∈u):Srt (u.takeWhile (cV k)++(u.dropWhile (cV k)).tail)∧ ∀x,x∈u.takeWhile (cV k)++(u.dropWhile (cV k)).tail ↔x∈u∧x≠k:=by
 have hh:=(DD h).2 hk
 have hs:Srt (u.dropWhile (cV k)):=h.sublist (List.dropWhile_sublist _)
 have ht:Srt (u.takeWhile (cV k)):=h.sublist (List.takeWhile_sublist _)
 have hm:=fun x=>gM (k:=k) (x:=x) u
 cases hd:u.dropWhile (cV k)with
 | nil=>rw [hd]at hh;cases hh
 | cons y v=>
   rw [hd]at hh hs
   simp only [List.head?_cons,sI']at hh
   subst hh
   obtain⟨hs1,hs2⟩:=List.pairwise_cons.1 hs
   rw [List.tail_cons]
   constructor
   ·refine List.pairwise_append.2 ⟨ht,hs2,fun a ha b hb=>?_⟩
    have:=qX a ha;have:=hs1 b hb;omega
   ·intro x
    rw [hm x,hd,List.mem_append,List.mem_cons]
    constructor
    ·rintro(q | q)
     ·exact⟨.inl q,by have:=qX x q;omega⟩
     ·exact⟨.inr (.inr q),by have:=hs1 x q;omega⟩
    ·rintro⟨q | q | q,hne⟩
     ·exact .inl q
     ·exact absurd q hne
     ·exact .inr q
end Go.Sh
