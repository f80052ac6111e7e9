import Derived.Test.YtedeloeobocpiaaGreatZFC1toSQ1
set_option linter.all false
set_option maxHeartbeats 8000000
namespace Go.Sh
open Go Go.Proofs
variable [Con]
inductive Pa where
 | now (b:Bool)
 | link
 | mark (v:Int)
 | pop (v:Int)
def fndB(ky:Int):List Nd→Bool
 | []=>false
 | b::_=>ieq b.k ky
def paOf(sh kd ky:Int)(B:List Nd):Pa:=
 if kd=4 then .link else if kd=1 then(bif fndB ky B then .now false else .link)else if kd=2 then(bif fndB ky B then .mark 0 else .now false)else if kd=3 then .now (fndB ky B)else
 match B with
 | []=>.now false
 | b::_=>if sh=4 then .pop b.k else .mark b.k
def Pa.ok:Pa→Bool
 | .now b=>b
 | _=>true
def Pa.val:Pa→Int
 | .mark v=>v
 | .pop v=>v
 | _=>0
def Pa.new(ky sp:Int)(B:List Nd):Pa→List Nd
 | .now _=>B
 | .link =>⟨sp,ky,false⟩::B
 | .mark _=>(match B with | []=>[] | b::B'=>⟨b.a,b.k,true⟩::B')
 | .pop _=>B.tail
def Pa.sp(sp:Int):Pa→Int
 | .link =>0
 | _=>sp
def Pa.pops(B:List Nd):Pa→List Int
 | .pop _=>[hdN B]
 | _=>[]
def Pa.plan(pred pw curr cw sp:Int):Pa→PLN
 | .now b=>⟨true,0,b,0,0,0,0,false,0⟩
 | .link =>⟨false,0,true,0,pred,pw,sp,mkW pw,0⟩
 | .mark v=>⟨false,0,true,v,curr,cw,nxW cw,true,0⟩
 | .pop v=>⟨false,0,true,v,pred,pw,nxW cw,mkW pw,curr⟩
theorem R7{ky cw:Int}{B:List Nd}(h: ∀b B',B=b::B'→b.a≠0∧kyW cw=b.k):fJ ky (hdN B) cw=fndB ky B:=by
 cases B with
 | nil=>rfl
 | cons b B'=>
   obtain⟨h1,h2⟩:=h b B' rfl
   show(bif ieq b.a 0 then _ else ieq (aB cw 0 10) ky)=ieq b.k ky
   have h2:aB cw 0 10=b.k:=h2
   rw [h2]
   have:ieq b.a 0=false:=by rw [bJ,beq_eq_false_iff_ne];exact h1
   rw [this];rfl
theorem O5{sh kd ky pred pw cw sp:Int}{B:List Nd}(hr:cO sh kd ky=true)(h: ∀b B',B=b::B'→b.a≠0∧kyW cw=b.k):aP sh kd ky pred pw (hdN B) cw sp=(paOf sh kd ky B).plan pred pw (hdN B) cw sp:=by
 have hk:=gC.1 hr
 have he:=R7 (ky:=ky) h
 have n4: ∀a b:Int,a≠b→ieq a b=false:=fun a b h=>by rw [bJ,beq_eq_false_iff_ne];exact h
 have kk:kd=1∨kd=2∨kd=3∨kd=4∨kd=5:=by omega
 unfold aP wL paOf
 simp only [Tr.val,hr,Bool.not_true,cond_false,he]
 rcases kk with e | e | e | e | e<;>subst e
 ·simp only [n4 1 4 (by decide),bN,n4 1 2 (by decide),n4 1 5 (by decide),n4 1 3 (by decide),cond_false,cond_true]
  cases fndB ky B<;>rfl
 ·simp only [n4 2 4 (by decide),bN,n4 2 1 (by decide),n4 2 5 (by decide),n4 2 3 (by decide),cond_false,cond_true]
  cases fndB ky B<;>rfl
 ·simp only [n4 3 4 (by decide),bN,n4 3 1 (by decide),n4 3 5 (by decide),n4 3 2 (by decide),cond_false,cond_true]
  rfl
 ·simp only [bN,cond_true]
  rfl
 ·simp only [n4 5 4 (by decide),bN,n4 5 1 (by decide),n4 5 3 (by decide),n4 5 2 (by decide),cond_false,cond_true]
  cases B with
  | nil=>rfl
  | cons b B'=>
    obtain⟨h1,h2⟩:=h b B' rfl
    have h2:aB cw 0 10=b.k:=h2
    have h3:ieq (hdN (b::B')) 0=false:=n4 _ _ h1
    simp only [h3,h2,nT,bN,Bool.true_and,cond_false]
    by_cases hs:sh=4
    ·subst hs;rfl
    ·rw [n4 sh 4 hs]
     show _=Pa.plan _ _ _ _ _ (if (5:Int)=4 then _ else _)
     simp only [if_neg hs]
     rfl
theorem EL{sh kd ky:Int}{B:List Nd}(h:paOf sh kd ky B=.link):bT kd=true:=by
 unfold paOf at h
 by_cases e4:kd=4
 ·subst e4;rfl
 ·rw [if_neg e4]at h
  by_cases e1:kd=1
  ·subst e1;rfl
  ·exfalso
   rw [if_neg e1]at h
   split at h
   ·cases hb:fndB ky B<;>rw [hb]at h<;>cases h
   ·split at h
    ·cases h
    ·split at h
     ·cases h
     ·split at h<;>cases h
theorem AR{sh kd ky:Int}{B:List Nd}(h:bT kd=true):paOf sh kd ky B=.link ∨ ∃b,paOf sh kd ky B=.now b:=by
 unfold bT at h
 unfold paOf
 by_cases e4:kd=4
 ·rw [if_pos e4];exact .inl rfl
 ·by_cases e1:kd=1
  ·rw [if_neg e4,if_pos e1]
   cases fndB ky B
   ·exact .inl rfl
   ·exact .inr ⟨_,rfl⟩
  ·exfalso
   simp only [bJ,Bool.or_eq_true,beq_iff_eq]at h
   omega
theorem EM{sh kd ky v:Int}{B:List Nd}(h:paOf sh kd ky B=.mark v): ∃b B',B=b::B':=by
 cases B with
 | cons b B'=>exact⟨b,B',rfl⟩
 | nil=>
   exfalso
   unfold paOf at h
   simp only [show fndB ky []=false from rfl,cond_false]at h
   repeat' split at h
   all_goals cases h
theorem K2{sh kd ky v:Int}{B:List Nd}(h:paOf sh kd ky B=.pop v): ∃b B',B=b::B':=by
 cases B with
 | cons b B'=>exact⟨b,B',rfl⟩
 | nil=>
   exfalso
   unfold paOf at h
   simp only [show fndB ky []=false from rfl,cond_false]at h
   repeat' split at h
   all_goals cases h
theorem sQ{n:Int}{xs ys:List Int} : ∀ {L:List Nd} {a a':Int},ch n xs a L→nxW (aA ys a')=nxW (aA xs a)→(∀c,c∈L.map Nd.a→aA ys c=aA xs c)→ch n ys a' L
 | [],a,a',h,e,_=>e.trans h
 | b::L,a,a',h,e,f=>by
   obtain⟨h1,h2,h3,h4,h5,h6⟩:=h
   have eb:=f b.a (by simp)
   exact⟨e.trans h1,h2,by rw [eb];exact h3,by rw [eb];exact h4,by rw [eb];exact h5,sQ h6 (by rw [eb]) (fun c hc=>f c (by rw [List.map_cons];exact List.mem_cons_of_mem _ hc))⟩
theorem zC{n:Int}{xs:List Int}{B:List Nd} : ∀ {A:List Nd} {p:Int},ch n xs p (A++B)→ch n xs ((A.map Nd.a).getLastD p) B
 | [],p,h=>h
 | b::A,p,h=>by
   rw [List.map_cons,List.getLastD_cons]
   exact zC h.2.2.2.2.2
theorem uD(p:Int): ∀A:List Int,A.getLastD p∈p::A
 | []=>List.mem_cons_self ..
 | b::A=>by
   rw [List.getLastD_cons]
   exact List.mem_cons_of_mem _ (uD b A)
theorem sR{n:Int}{xs ys:List Int}{B B':List Nd} : ∀ {A:List Nd} {p:Int},ch n xs p (A++B)→(p::A.map Nd.a).Nodup →
 (∀c,c∈p::A.map Nd.a→c≠(A.map Nd.a).getLastD p→aA ys c=aA xs c)→
 (kyW (aA ys ((A.map Nd.a).getLastD p))=kyW (aA xs ((A.map Nd.a).getLastD p))∧mkW (aA ys ((A.map Nd.a).getLastD p))=mkW (aA xs ((A.map Nd.a).getLastD p))∧clW' (aA ys ((A.map Nd.a).getLastD p))=clW' (aA xs ((A.map Nd.a).getLastD p)))→
 ch n ys ((A.map Nd.a).getLastD p) B'→ch n ys p (A++B')
 | [],p,h,_,_,_,hb=>hb
 | b::A,p,h,nd,e,l3,hb=>by
   rw [List.map_cons,List.getLastD_cons]at e l3 hb
   obtain⟨h1,h2,h3,h4,h5,h6⟩:=h
   have nd':(b.a::A.map Nd.a).Nodup :=by rw [List.map_cons]at nd;exact(List.nodup_cons.1 nd).2
   have hp:p≠(A.map Nd.a).getLastD b.a:=by
    intro e;rw [List.map_cons]at nd
    exact(List.nodup_cons.1 nd).1 (by have:=uD b.a (A.map Nd.a);rw [←e]at this;exact this)
   have hb3:kyW (aA ys b.a)=kyW (aA xs b.a)∧mkW (aA ys b.a)=mkW (aA xs b.a)∧clW' (aA ys b.a)=clW' (aA xs b.a):=by
    by_cases hl:b.a=(A.map Nd.a).getLastD b.a
    ·rw [←hl]at l3;exact l3
    ·rw [e b.a (List.mem_cons_of_mem _ (List.mem_cons_self ..)) hl];exact⟨rfl,rfl,rfl⟩
   refine⟨by rw [e p (List.mem_cons_self ..) hp];exact h1,h2,hb3.1.trans h3,hb3.2.1.trans h4,hb3.2.2.trans h5,sR h6 nd' (fun c hc hl=>e c (List.mem_cons_of_mem _ hc) hl) l3 hb⟩
theorem DN{n:Int}{xs:List Int}{B:List Nd} : ∀ {A:List Nd} {p:Int},ch n xs p (A++B)→clW' (aA xs p)=0→mkW (aA xs p)=false→(∀b∈A,b.m=false)→clW' (aA xs ((A.map Nd.a).getLastD p))=0∧mkW (aA xs ((A.map Nd.a).getLastD p))=false
 | [],p,_,c,m,_=>⟨c,m⟩
 | b::A,p,h,_,_,hm=>by
   rw [List.map_cons,List.getLastD_cons]
   obtain⟨h1,h2,h3,h4,h5,h6⟩:=h
   exact DN h6 h5 (h4.trans (hm b (List.mem_cons_self ..))) (fun c hc=>hm c (List.mem_cons_of_mem _ hc))
theorem FG(k:Int): ∀L:List Nd,∀b∈(sc k L).1,b.m=false
 | [],b,h=>by cases h
 | c::L,b,h=>by
   cases hm:c.m with
   | true=>rw [nH hm]at h;exact FG k L b h
   | false=>
     by_cases hk:k≤c.k
     ·rw [nI hm hk]at h;cases h
     ·rw [nG hm (by omega)]at h
      rcases List.mem_cons.1 h with e | e
      ·rw [e];exact hm
      ·exact FG k L b e
theorem FF(k:Int): ∀L:List Nd,∀b B,(sc k L).2.2=b::B→b.m=false∧k≤b.k
 | [],b,B,h=>by cases h
 | c::L,b,B,h=>by
   cases hm:c.m with
   | true=>rw [nH hm]at h;exact FF k L b B h
   | false=>
     by_cases hk:k≤c.k
     ·rw [nI hm hk]at h
      simp only [lI']at h
      obtain⟨rfl,_⟩:=h
      exact⟨hm,hk⟩
     ·rw [nG hm (by omega)]at h;exact FF k L b B h
def VY(ky nx f:Int):Int:=aV ky nx false 0 (aN (UP f))
theorem PD{t n:Int}{x:PRS}{st:STS}{s:MS}(h:x.loaded=false):prF t n x st s=⟨false,{x with found:=aA s.xs st.sp,loaded:=true},st,s.loadd st.sp⟩:=by
 unfold prF QM HR
 simp only [Tr.val,h,Bool.not_false,cond_true]
 rfl
theorem LF{t n:Int}{x:PRS}{st:STS}{s:MS}(h:x.loaded=true)(hk:0≤x.key∧x.key<1024)(hn:0≤x.nxt∧x.nxt<512):prF t n x st s=⟨true,x,st,s.stored st.sp (VY x.key x.nxt x.found)⟩:=by
 unfold prF QM HR
 have h1:aM x.1 10=true:=dX.2 hk
 have h2:aM x.2 9=true:=dX.2 hn
 have h3:aM 0 5=true:=by decide
 simp only [Tr.val,h,h1,h2,h3,qK,Bool.not_true,cond_true,cond_false]
 rfl
theorem TD{k n f:Int}(hk:0≤k∧k<1024)(hn:0≤n∧n<512):okF k n 0 (aN (UP f)):=⟨hk,hn,⟨by decide,by decide⟩,pO _⟩
def MU(old nx:Int)(m:Bool):Int:=aV (kyW old) nx m 0 (aN (UP old))
theorem B3(old:Int){nx:Int}(hn:0≤nx∧nx<512):okF (kyW old) nx 0 (aN (UP old)):=by
 refine⟨?_,hn,⟨by decide,by decide⟩,pO _⟩
 have:=kP (x:=old) (a:=0) (w:=10);simpa using this
theorem uP{code:Int}{okk:Bool}{val addr old nx:Int}{m:Bool}{pops:Int}(hn:0≤nx∧nx<512):cN false code okk val addr old nx m pops=MU old nx m:=by
 unfold cN qX
 have h2:aM nx 9=true:=dX.2 hn
 have h3:aM 0 5=true:=by decide
 simp only [Tr.val,h2,h3,DZ,qK,cond_true,cond_false]
 rfl
theorem uO{code:Int}{okk:Bool}{val addr old nx:Int}{m:Bool}{pops:Int}(h:clW' old=0):kW false code okk val addr old nx m pops=false:=by
 unfold kW qW
 have h:aB old 20 5=0:=h
 simp only [Tr.val,h,bN,Bool.not_false,Bool.not_true,cond_true]
theorem pP(x:Int):0≤nxW x∧nxW x<512:=by
 have:=kP (x:=x) (a:=10) (w:=9);simpa using this
def ftG(t n:Int)(p:FTS×STS×MS):Bool×(FTS×STS×MS):=((ftF t n p.1 p.2.1 p.2.2).d,((ftF t n p.1 p.2.1 p.2.2).x,(ftF t n p.1 p.2.1 p.2.2).st,(ftF t n p.1 p.2.1 p.2.2).s))
theorem qL{t n:Int}{x:FTS}{st:STS}{s:MS}{d:Bool}{x':FTS}{st':STS}{s':MS}(h:ftF t n x st s=⟨d,x',st',s'⟩):ftG t n (x,st,s)=(d,(x',st',s')):=by
 unfold ftG;rw [h]
structure QB (x:FTS) (st:STS):Prop where
 r:cO x.sh x.kd x.ky=true
 l:bT x.kd=true→st.sp≠0
theorem OM{t n:Int}{x:FTS}{st:STS}{s:MS}{fn:FNS}{s':MS}(h0:x.at'=0)(hm:QB x st)(hf:fnF t n x.fn s=⟨false,fn,s'⟩):ftF t n x st s=⟨false,{x with fn:=fn,at':=0,cl:=bF,pr:=dN},st,s'⟩:=by
 unfold ftF J1
 rw [h0]
 show(pE t n x st s).val =_
 unfold pE
 have hr:cO x.6 x.7 x.8=true:=hm.r
 have hf:fnF t n x.12 s=⟨false,fn,s'⟩:=hf
 cases hl:bT x.7 with
 | false=>simp only [Tr.val,hr,hl,hf,Bool.not_true,cond_false]
 | true=>
   have h2:ieq st.2 0=false:=by rw [bJ,beq_eq_false_iff_ne];exact hm.l hl
   simp only [Tr.val,hr,hl,h2,hf,Bool.not_true,cond_true,cond_false]
theorem GV{t n:Int}{x:FTS}{st:STS}{s:MS}{fn:FNS}{s':MS}{p:PLN}(h0:x.at'=0)(hm:QB x st)(hf:fnF t n x.fn s=⟨true,fn,s'⟩)(ht:x.tries=0)(hft:fn.tries=0)(hmo:0≤x.most)
 (hp:aP x.sh x.kd x.ky fn.pred fn.pw fn.curr fn.cw st.sp=p) (hc:kW p.now p.code p.okk p.val p.addr p.old p.nxt p.mark p.pops=false):
 ftF t n x st s=bif p.now then⟨true,{x with code:=p.code,okk:=p.okk,val:=p.val,failed:=false,tries:=0,at':=0,p:=p,fn:=cS,cl:=bF,pr:=dN},⟨st.me,st.sp,st.R++fn.ul⟩,s'⟩
  else bif bT x.kd then⟨false,{x with failed:=false,tries:=0,at':=2,p:=p,fn:=cS,cl:=bF,pr:=⟨x.ky,fn.curr,0,false⟩ },⟨st.me,st.sp,st.R++fn.ul⟩,s'⟩
  else⟨false,{x with failed:=false,tries:=0,at':=3,p:=p,fn:=cS,cl:=bF,pr:=dN},⟨st.me,st.sp,st.R++fn.ul⟩,s'⟩:=by
 unfold ftF J1
 rw [h0]
 show(pE t n x st s).val =_
 unfold pE
 have hr:cO x.6 x.7 x.8=true:=hm.r
 have hf:fnF t n x.12 s=⟨true,fn,s'⟩:=hf
 have ht:x.5=0:=ht
 have hft:fn.5=0:=hft
 have hw:W (0+0)=0:=by decide
 have hl:ilt x.9 0=false:=by rw [bB];exact decide_eq_false (by have:0≤x.9:=hmo;omega)
 have hp:aP x.6 x.7 x.8 fn.1 fn.2 fn.3 fn.4 st.2=p:=hp
 have hc:kW p.1 p.2 p.3 p.4 p.5 p.6 p.7 p.8 p.9=false:=hc
 cases hlk:bT x.7 with
 | false=>
   simp only [Tr.val,hr,hlk,hf,ht,hft,hw,hl,hp,hc,Bool.not_true,cond_true,cond_false]
   try (cases p.now<;>rfl)
 | true=>
   have h2:ieq st.2 0=false:=by rw [bJ,beq_eq_false_iff_ne];exact hm.l hlk
   simp only [Tr.val,hr,hlk,h2,hf,ht,hft,hw,hl,hp,hc,Bool.not_true,cond_true,cond_false]
   try (cases p.now<;>rfl)
theorem ON{t n:Int}{x:FTS}{st:STS}{s:MS}{y:PRS}{s':MS}(h0:x.at'=2)(hf:prF t n x.pr st s=⟨false,y,st,s'⟩):ftF t n x st s=⟨false,{x with at':=2,fn:=cS,cl:=bF,pr:=y},st,s'⟩:=by
 unfold ftF J1
 rw [h0]
 show(pF t n x st s).val =_
 unfold pF
 have hf:prF t n x.14 st s=⟨false,y,st,s'⟩:=hf
 simp only [Tr.val,hf,cond_false]
theorem J2{t n:Int}{x:FTS}{st:STS}{s:MS}{y:PRS}{s':MS}(h0:x.at'=2)(hf:prF t n x.pr st s=⟨true,y,st,s'⟩):ftF t n x st s=⟨false,{x with at':=3,fn:=cS,cl:=bF,pr:=dN},st,s'⟩:=by
 unfold ftF J1
 rw [h0]
 show(pF t n x st s).val =_
 unfold pF
 have hf:prF t n x.14 st s=⟨true,y,st,s'⟩:=hf
 simp only [Tr.val,hf,cond_true]
theorem qM{t n:Int}{x:FTS}{st:STS}{s:MS}{w:Int}(h0:x.at'=3)(hc:aZ s.xs x.p.addr x.p.old=true)(hw:cN x.p.now x.p.code x.p.okk x.p.val x.p.addr x.p.old x.p.nxt x.p.mark x.p.pops=w):
 ftF t n x st s=⟨true,{x with code:=x.p.code,okk:=x.p.okk,val:=x.p.val,at':=3,fn:=cS,cl:=bF,pr:=dN},⟨st.me,bif bT x.kd then 0 else st.sp,bif ieq x.p.pops 0 then st.R else st.R++ [x.p.pops]⟩,s.cased x.p.addr x.p.old w⟩:=by
 unfold ftF J1
 rw [h0]
 show(uA t n x st s).val =_
 unfold uA
 have hc':aZ s.3 (FTS.p x).5 (FTS.p x).6=true:=hc
 have hw:cN (FTS.p x).1 (FTS.p x).2 (FTS.p x).3 (FTS.p x).4 (FTS.p x).5 (FTS.p x).6 (FTS.p x).7 (FTS.p x).8 (FTS.p x).9=w:=hw
 have hi:bR s.3 (FTS.p x).5=true:=by
  unfold aZ at hc'
  exact(Bool.and_eq_true_iff.1 hc').1
 simp only [Tr.val,hc',hw,hi,Bool.not_true,cond_true,cond_false]
 unfold MS.cased MS.did
 simp only [hc,show bR s.xs x.p.addr=true from hi,cond_true]
 cases hlk:bT x.7<;>cases hpp:ieq (FTS.p x).9 0<;>simp only [hlk,hpp,Bool.not_true,Bool.not_false,cond_true,cond_false]<;>rfl
theorem D0{t n:Int}{a:FNS×MS}{d:Bool}{b:FNS×MS}(h:zW t n a=(d,b)):fnF t n a.1 a.2=⟨d,b.1,b.2⟩:=by
 unfold zW at h
 rw [pI']at h
 obtain⟨rfl,rfl⟩:=h
 rfl
theorem HK{code:Int}{okk:Bool}{val addr old nx:Int}{m:Bool}{pops:Int} :kW true code okk val addr old nx m pops=false:=rfl
structure LC (t n me p:Int) (L:List Nd) (xs:List Int):Prop where
 ht:1≤t∧t≤1000
 hn:1≤n∧n≤500
 len:(xs.length:Int)=2*n+5*t+6
 me:0≤me∧me<t
 hp:1≤p∧p≤n+4
 mp:mkW (aA xs p)=false
 cp:clW' (aA xs p)=0
 ch:ch n xs p L
 nd:(p::L.map Nd.a).Nodup
 ln:(L.length:Int)≤n
theorem LC.fc{t n me p:Int}{L:List Nd}{s:MS}(h:LC t n me p L s.xs)(hd key lim:Int):FC t n p L (xV t n me hd key lim) s:=
 ⟨h.ht,⟨h.hn.1,by have:=h.hn.2;omega⟩,h.len,h.me,h.hp,h.mp,h.cp,h.ch,h.nd,⟨Int.le_refl 0,by show(0:Int)+L.length≤n;have:=h.ln;omega⟩⟩
structure XW (n me p:Int) (L:List Nd) (k ky sp:Int) (a:Pa) (s s':MS) (j:Nat):Prop where
 ch:ch n s'.xs p ((sc k L).1++a.new ky sp (sc k L).2.2)
 mp:mkW (aA s'.xs p)=false
 cp:clW' (aA s'.xs p)=0
 same: ∀b,b≠2*n+5+2*me→b≠2*n+5+2*me+1→b∉p::L.map Nd.a→b≠sp→aA s'.xs b=aA s.xs b
 t:s'.t=s.t
 n:s'.n=s.n
 c:s'.c=s.c+j
 len:s'.xs.length=s.xs.length
 okw:okW s.xs→okW s'.xs
 lim:j≤5*L.length+4
theorem xY{t n:Int}{j j':Nat}{a b:FTS×STS×MS}{z:FTS}{st' st2:STS}{s':MS}{ok:Bool}{v:Int}(hj:j=j'+1)(h:lH (ftG t n) j' a b)(e:ftG t n b=(true,(z,st',s')))(hs:st'=st2)
 (hz:z.code=0∧z.okk=ok∧z.val=v∧z.failed=false∧z.tries=0): ∃z:FTS,lJ (ftG t n) j a (z,st2,s')∧z.code=0∧z.okk=ok∧z.val=v∧z.failed=false∧z.tries=0:=by
 subst hs
 exact⟨z,⟨j',b,hj,h,e⟩,hz⟩
theorem CC{t n:Int}{sh kd ky:Int}{st:STS}{s:MS}{L:List Nd}(hr:cO sh kd ky=true)(h:LC t n st.me (n+1+cI sh ky) L s.xs)
 (hl:bT kd=true→1≤st.sp∧st.sp≤n∧st.sp∉L.map Nd.a):
 ∃j s',XW n st.me (n+1+cI sh ky) L (cT sh kd ky) ky st.sp (paOf sh kd ky (sc (cT sh kd ky) L).2.2) s s' j∧
  ∀most,0≤most→ ∃z:FTS,lJ (ftG t n) j ((ftNF t n sh kd ky most st).1,st,s) (z,⟨st.me,(paOf sh kd ky (sc (cT sh kd ky) L).2.2).sp st.sp,st.R++(sc (cT sh kd ky) L).2.1.map Nd.a++(paOf sh kd ky (sc (cT sh kd ky) L).2.2).pops (sc (cT sh kd ky) L).2.2⟩,s')∧
   z.code=0∧z.okk=(paOf sh kd ky (sc (cT sh kd ky) L).2.2).ok ∧z.val=(paOf sh kd ky (sc (cT sh kd ky) L).2.2).val ∧z.failed=false∧z.tries=0:=by
 have hrng:=gC.1 hr
 generalize hp:n+1+cI sh ky=p at h⊢
 generalize hk:cT sh kd ky=key at⊢
 obtain⟨j,z,s1,e,f,hj⟩:=RU (t:=t) (n:=n) L p (xV t n st.me (cI sh ky) key 0) s rfl hp (h.fc _ _ _)
 have fch:ch n s1.xs p ((sc key L).1++(sc key L).2.2):=f.ch
 have fpr:z.pred=((sc key L).1.map Nd.a).getLastD p:=f.pred
 have fcu:z.curr=hdN (sc key L).2.2:=f.curr
 have fcw:z.cw=hdWd s1.xs (sc key L).2.2:=f.cw
 have ful:z.ul=(sc key L).2.1.map Nd.a:=by have:=f.ul;exact this.trans (List.nil_append _)
 have fsame: ∀a,a≠2*n+5+2*st.me→a≠2*n+5+2*st.me+1→a∉p::(sc key L).1.map Nd.a→aA s1.xs a=aA s.xs a:=f.same
 have fpw:=f.pw
 have hA:=FG key L
 have hsub:=yI key L
 have hAL: ∀a,a∈(sc key L).1.map Nd.a→a∈L.map Nd.a:=fun a=>kV (yG key L)
 have hBL: ∀a,a∈(sc key L).2.2.map Nd.a→a∈L.map Nd.a:=fun a=>kV ((List.sublist_append_right _ _).trans hsub)
 have hnd:(p::((sc key L).1++(sc key L).2.2).map Nd.a).Nodup :=by
  refine List.Sublist.nodup ?_ h.nd
  exact List.Sublist.cons₂ _ (hsub.map _)
 have hmp1:mkW (aA s1.xs p)=false:=f.p3.2.1.trans h.mp
 have hcp1:clW' (aA s1.xs p)=0:=f.p3.2.2.trans h.cp
 generalize hA0:(sc key L).1=A at*
 generalize (sc key L).2.1=U at*
 generalize hB:(sc key L).2.2=B at*
 have hsp:=zC fch
 have hlast:=DN fch hcp1 hmp1 hA
 rw [←fpr]at hsp hlast
 have hbb: ∀b B',B=b::B'→(b.a≠0∧kyW z.cw=b.k)∧1≤b.a∧b.a≤n∧z.cw=aA s1.xs b.a∧clW' z.cw=0∧ch n s1.xs b.a B'∧nxW (aA s1.xs z.pred)=b.a:=by
  rintro b B' rfl
  obtain⟨h1,h2,h3,h4,h5,h6⟩:=hsp
  have e1:z.cw=aA s1.xs b.a:=fcw
  rw [←e1]at h3 h5
  exact⟨⟨by omega,h3⟩,h2.1,h2.2,e1,h5,h6,h1⟩
 have hplan:=O5 (pred:=z.pred) (pw:=z.pw) (sp:=st.sp) hr (fun b B' h=>(hbb b B' h).1)
 have hnA:(p::A.map Nd.a).Nodup :=by
  refine List.Sublist.nodup ?_ hnd
  refine List.Sublist.cons₂ _ ?_
  rw [List.map_append]
  exact List.sublist_append_left _ _
 have hnB: ∀a,a∈p::A.map Nd.a→a∉B.map Nd.a:=by
  intro a ha hb
  rw [List.map_append,←List.cons_append]at hnd
  exact(List.nodup_append.1 hnd).2.2 a ha a hb rfl
 have hpm:z.pred∈p::A.map Nd.a:=by rw [fpr];exact uD _ _
 have hpL:z.pred∈p::L.map Nd.a:=by
  rcases List.mem_cons.1 hpm with q | q
  ·rw [q];exact List.mem_cons_self ..
  ·exact List.mem_cons_of_mem _ (hAL _ q)
 have hprg:1≤z.pred∧z.pred≤n+4:=by
  rcases List.mem_cons.1 hpL with q | q
  ·rw [q];exact h.hp
  ·obtain⟨c,hc,q⟩:=List.mem_map.1 q
   have:=B2 h.ch c hc
   omega
 have hlen1:(s1.xs.length:Int)=2*n+5*t+6:=by rw [f.len];exact h.len
 have hin:0≤z.pred∧z.pred<s1.xs.length:=by have:=h.ht;omega
 have htn:=h.hn
 have hme:=h.me
 have walk: ∀most,0≤most→ ∃(j':Nat) (b:FNS×MS),j=j'+1∧lH (ftG t n) j' ((ftNF t n sh kd ky most st).1,st,s) ({ (ftNF t n sh kd ky most st).1 with fn:=b.1,at':=0,cl:=bF,pr:=dN},st,b.2)∧fnF t n b.1 b.2=⟨true,{z with limit:=W (most - 0) },s1⟩:=by
  intro most hmo
  obtain⟨j',b,h1,h2,h3⟩:=e (W (most - 0))
  refine⟨j',b,h1,?_,D0 h3⟩
  have:=lH.lift (G:=ftG t n) (fun q:FNS×MS=>(({ (ftNF t n sh kd ky most st).1 with fn:=q.1,at':=0,cl:=bF,pr:=dN} :FTS),st,q.2)) ?_ h2
  ·have e0:((ftNF t n sh kd ky most st).1:FTS)= { (ftNF t n sh kd ky most st).1 with fn:= {xV t n st.me (cI sh ky) key 0 with limit:=W (most - 0) },at':=0,cl:=bF,pr:=dN} :=by
    subst hk;rfl
   rw [e0]
   exact this
  ·intro a c hac
   exact qL (OM (x:= { (ftNF t n sh kd ky most st).1 with fn:=a.1,at':=0,cl:=bF,pr:=dN}) rfl ⟨hr,fun hlk=>by have:=hl hlk;omega⟩ (D0 hac))
 obtain⟨P,hP⟩: ∃P:PLN,P=(paOf sh kd ky B).plan z.pred z.pw (hdN B) z.cw st.sp:=⟨_,rfl⟩
 rw [←hP]at hplan
 have sought: ∀most,0≤most→ ∀b:FNS×MS,fnF t n b.1 b.2=⟨true,{z with limit:=W (most - 0) },s1⟩→kW P.now P.code P.okk P.val P.addr P.old P.nxt P.mark P.pops=false→
  ftG t n (({ (ftNF t n sh kd ky most st).1 with fn:=b.1,at':=0,cl:=bF,pr:=dN} :FTS),st,b.2)=
   bif P.now then(true,(({ (ftNF t n sh kd ky most st).1 with code:=P.code,okk:=P.okk,val:=P.val,failed:=false,tries:=0,at':=0,p:=P,fn:=cS,cl:=bF,pr:=dN} :FTS),(⟨st.me,st.sp,st.R++U.map Nd.a⟩:STS),s1))
   else bif bT kd then(false,(({ (ftNF t n sh kd ky most st).1 with failed:=false,tries:=0,at':=2,p:=P,fn:=cS,cl:=bF,pr:=⟨ky,hdN B,0,false⟩ } :FTS),(⟨st.me,st.sp,st.R++U.map Nd.a⟩:STS),s1))
   else(false,(({ (ftNF t n sh kd ky most st).1 with failed:=false,tries:=0,at':=3,p:=P,fn:=cS,cl:=bF,pr:=dN} :FTS),(⟨st.me,st.sp,st.R++U.map Nd.a⟩:STS),s1)):=by
  intro most hmo b hb hc
  have:=GV (x:= { (ftNF t n sh kd ky most st).1 with fn:=b.1,at':=0,cl:=bF,pr:=dN}) (st:=st) (p:=P) rfl ⟨hr,fun hlk=>by have:=hl hlk;omega⟩ hb rfl f.tries hmo (by show aP sh kd ky z.pred z.pw z.curr z.cw st.sp=P;rw [fcu];exact hplan) hc
  unfold ftG
  rw [this]
  dsimp only
  rw [ful,fcu]
  have hkd:(ftNF t n sh kd ky most st).fst.kd =kd:=rfl
  rw [hkd]
  cases P.now
  ·cases bT kd<;>rfl
  ·rfl
 have hmemB: ∀b B',B=b::B'→b.a∈L.map Nd.a:=by
  rintro b B' rfl;exact hBL _ (by simp)
 generalize hact:paOf sh kd ky B=act at hP⊢
 cases act with
 | now bb=>
   subst hP
   refine⟨j,s1,?_,fun most hmo=>?_⟩
   ·refine {ch:=by rw [hA0,hB];exact fch,mp:=hmp1,cp:=hcp1,same:=fun b h0 h1 h2 _=>fsame b h0 h1 (fun hh=>h2 ?_),t:=f.t,n:=f.n,c:=f.c,len:=f.len,okw:=f.okw,lim:=by omega}
    rcases List.mem_cons.1 hh with q | q
    ·rw [q];exact List.mem_cons_self ..
    ·exact List.mem_cons_of_mem _ (hAL _ q)
   ·obtain⟨j',b,h1,h2,h3⟩:=walk most hmo
    have h4:=sought most hmo b h3 HK
    have h4:ftG t n _=(true,(_,_,s1)):=h4
    exact xY h1 h2 h4 (by simp only [Pa.pops,List.append_nil];rfl) ⟨rfl,rfl,rfl,rfl,rfl⟩
 | link=>
   subst hP
   have hlk:=EL hact
   obtain⟨g1,g2,g3⟩:=hl hlk
   have hspn:z.pred≠st.sp:=by
    intro q
    rcases List.mem_cons.1 hpL with r | r
    ·have:=h.hp;have:=c9 sh ky;omega
    ·rw [q]at r;exact g3 r
   have hcr:0≤hdN B∧hdN B<512:=by
    cases hBB:B with
    | nil=>exact⟨Int.le_refl 0,by show(0:Int)<512;decide⟩
    | cons b B'=>have:=hbb b B' hBB;show 0≤b.a∧b.a<512;omega
   have hky:0≤ky∧ky<1024:=by omega
   have hspi:0≤st.sp∧st.sp<s1.xs.length:=by have:=h.ht;omega
   let s2:=s1.loadd st.sp
   let nw:=VY ky (hdN B) (aA s1.xs st.sp)
   let s3:=s2.stored st.sp nw
   let w:=MU z.pw st.sp (mkW z.pw)
   let s4:=s3.cased z.pred z.pw w
   have x3: ∀a,a≠st.sp→aA s3.xs a=aA s1.xs a:=fun a ha=>cX ha
   have x3s:aA s3.xs st.sp=nw:=eJ hspi
   have l3:s3.xs.length=s1.xs.length:=bZ _ _ _
   have hin3:0≤z.pred∧z.pred<s3.xs.length:=by rw [l3];exact hin
   have hcas:=iI hin3 ((x3 _ hspn).trans fpw.symm)
   have s4x:s4.xs=aO s3.xs z.pred w:=lT hcas
   have x4: ∀a,a≠z.pred→aA s4.xs a=aA s3.xs a:=fun a ha=>by rw [s4x,cX ha]
   have x4p:aA s4.xs z.pred=w:=by rw [s4x,eJ hin3]
   have l4:s4.xs.length=s1.xs.length:=by rw [s4x,bZ];exact l3
   have hnok:=TD (f:=aA s1.xs st.sp) hky hcr
   have hwok:=B3 z.pw (nx:=st.sp) ⟨by omega,by omega⟩
   have hspA:st.sp∉p::A.map Nd.a:=by
    intro q
    rcases List.mem_cons.1 q with r | r
    ·have:=h.hp;have:=c9 sh ky;omega
    ·exact g3 (hAL _ r)
   have hspB:st.sp∉B.map Nd.a:=fun q=>g3 (hBL _ q)
   have hpB:z.pred∉B.map Nd.a:=hnB _ hpm
   refine⟨j+3,s4,?_,fun most hmo=>?_⟩
   ·refine {ch:=?_,mp:=?_,cp:=?_,same:=fun b h0 h1 h2 h3=>?_,t:=f.t,n:=f.n,c:=?_,len:=l4.trans f.len,okw:=fun q=>?_,lim:=by omega}
    ·rw [hA0,hB]
     refine sR fch hnA ?_ ?_ ?_
     ·intro c hc hcl
      rw [←fpr]at hcl
      rw [x4 c hcl,x3 c (fun q=>hspA (by rw [←q];exact hc))]
     ·rw [←fpr,x4p,←fpw]
      exact⟨tM hwok,nQ hwok,(oT hwok).trans (by rw [fpw];exact hlast.1.symm)⟩
     ·rw [←fpr]
      refine⟨by rw [x4p];exact rS hwok,⟨g1,g2⟩,?_,?_,?_,?_⟩
      ·rw [x4 _ (Ne.symm hspn),x3s];exact tM hnok
      ·rw [x4 _ (Ne.symm hspn),x3s];exact nQ hnok
      ·rw [x4 _ (Ne.symm hspn),x3s];exact oT hnok
      ·refine sQ hsp ?_ (fun c hc=>?_)
       ·rw [x4 _ (Ne.symm hspn),x3s]
        exact(rS hnok).trans (IT hsp).symm
       ·rw [x4 c (fun q=>hpB (by rw [←q];exact hc)),x3 c (fun q=>hspB (by rw [←q];exact hc))]
    ·by_cases q:p=z.pred
     ·rw [q,x4p,←hlast.2,←fpw];exact nQ hwok
     ·rw [x4 p q,x3 p (fun r=>hspA (by rw [←r];exact List.mem_cons_self ..))];exact hmp1
    ·by_cases q:p=z.pred
     ·rw [q,x4p];exact oT hwok
     ·rw [x4 p q,x3 p (fun r=>hspA (by rw [←r];exact List.mem_cons_self ..))];exact hcp1
    ·rw [x4 b (fun q=>h2 (by rw [q];exact hpL)),x3 b h3]
     refine fsame b h0 h1 (fun hh=>h2 ?_)
     rcases List.mem_cons.1 hh with q | q
     ·rw [q];exact List.mem_cons_self ..
     ·exact List.mem_cons_of_mem _ (hAL _ q)
    ·show s1.c+1+1+1=s.c+((j+3:Nat):Int);rw [f.c];omega
    ·rw [s4x];exact eU (eU (f.okw q) (kX hnok)) (kX hwok)
   ·obtain⟨j',b,h1,h2,h3⟩:=walk most hmo
    have h4:=sought most hmo b h3 (uO (by show clW' z.pw=0;rw [fpw];exact hlast.1))
    rw [hlk]at h4
    have h4:ftG t n _=(false,(_,_,s1)):=h4
    have h5:=qL (ON (t:=t) (n:=n) (x:= { (ftNF t n sh kd ky most st).1 with failed:=false,tries:=0,at':=2,p:=Pa.plan z.pred z.pw (hdN B) z.cw st.sp .link,fn:=cS,cl:=bF,pr:=⟨ky,hdN B,0,false⟩ }) (st:=⟨st.me,st.sp,st.R++U.map Nd.a⟩) (s:=s1) rfl (PD rfl))
    have h6:=qL (J2 (t:=t) (n:=n) (x:= { (ftNF t n sh kd ky most st).1 with failed:=false,tries:=0,at':=2,p:=Pa.plan z.pred z.pw (hdN B) z.cw st.sp .link,fn:=cS,cl:=bF,pr:=⟨ky,hdN B,aA s1.xs st.sp,true⟩ }) (st:=⟨st.me,st.sp,st.R++U.map Nd.a⟩) (s:=s2) rfl (LF rfl hky hcr))
    have h7:=qL (qM (t:=t) (n:=n) (x:= { (ftNF t n sh kd ky most st).1 with failed:=false,tries:=0,at':=3,p:=Pa.plan z.pred z.pw (hdN B) z.cw st.sp .link,fn:=cS,cl:=bF,pr:=dN}) (st:=⟨st.me,st.sp,st.R++U.map Nd.a⟩) (s:=s3) rfl hcas (uP (m:=mkW z.pw) (by show 0≤st.sp∧st.sp<512;omega)))
    have e1:bT ((ftNF t n sh kd ky most st).1).kd =true:=hlk
    exact xY (by omega) (h2.trans (lH.cons h4 (lH.cons h5 (lH.one h6)))) h7 (by simp only [e1,Pa.pops,List.append_nil,cond_true];rfl) ⟨rfl,rfl,rfl,rfl,rfl⟩
 | mark v=>
   subst hP
   have hlk:bT kd=false:=by
    cases hq:bT kd with
    | false=>rfl
    | true=>rcases AR (sh:=sh) (ky:=ky) (B:=B) hq with q | ⟨_,q⟩<;>rw [hact]at q<;>cases q
   obtain⟨b,B',hBB⟩:=EM hact
   obtain⟨⟨hb0,hbk⟩,hb1,hb2,hbw,hbc,hch2,hnx⟩:=hbb b B' hBB
   have hcu:hdN B=b.a:=by rw [hBB];rfl
   have hbm:mkW (aA s1.xs b.a)=false:=by
    have:=(FF key L b B' (by rw [hB];exact hBB)).1
    rw [hBB]at hsp
    exact hsp.2.2.2.1.trans this
   have hbi:0≤b.a∧b.a<s1.xs.length:=by have:=h.ht;omega
   let w:=MU z.cw (nxW z.cw) true
   let s4:=s1.cased b.a z.cw w
   have hcas:aZ s1.xs (hdN B) z.cw=true:=by rw [hcu];exact iI hbi hbw.symm
   have s4x:s4.xs=aO s1.xs b.a w:=lT (by rw [←hcu];exact hcas)
   have x4: ∀a,a≠b.a→aA s4.xs a=aA s1.xs a:=fun a ha=>by rw [s4x,cX ha]
   have x4p:aA s4.xs b.a=w:=by rw [s4x,eJ hbi]
   have l4:s4.xs.length=s1.xs.length:=by rw [s4x,bZ]
   have hwok:=B3 z.cw (nx:=nxW z.cw) (pP _)
   have hbA:b.a∉p::A.map Nd.a:=fun q=>hnB _ q (by rw [hBB];simp)
   have hbB:b.a∉B'.map Nd.a:=by
    have:=hnd
    rw [hBB,List.map_append,←List.cons_append]at this
    exact(List.nodup_cons.1 (List.nodup_append.1 this).2.1).1
   refine⟨j+1,s4,?_,fun most hmo=>?_⟩
   ·refine {ch:=?_,mp:=?_,cp:=?_,same:=fun c h0 h1 h2 h3=>?_,t:=f.t,n:=f.n,c:=?_,len:=l4.trans f.len,okw:=fun q=>?_,lim:=by omega}
    ·rw [hA0,hB,hBB]
     refine sR fch hnA ?_ ?_ ?_
     ·intro c hc _
      exact x4 c (fun q=>hbA (by rw [←q];exact hc))
     ·rw [←fpr,x4 z.pred (fun q=>hbA (by rw [←q];exact hpm))]
      exact⟨rfl,rfl,rfl⟩
     ·rw [←fpr]
      refine⟨?_,⟨hb1,hb2⟩,?_,?_,?_,?_⟩
      ·rw [x4 z.pred (fun q=>hbA (by rw [←q];exact hpm))];exact hnx
      ·rw [x4p];exact(tM hwok).trans hbk
      ·rw [x4p];exact nQ hwok
      ·rw [x4p];exact oT hwok
      ·refine sQ hch2 ?_ (fun c hc=>x4 c (fun q=>hbB (by rw [←q];exact hc)))
       rw [x4p,←hbw];exact rS hwok
    ·rw [x4 p (fun q=>hbA (by rw [←q];exact List.mem_cons_self ..))];exact hmp1
    ·rw [x4 p (fun q=>hbA (by rw [←q];exact List.mem_cons_self ..))];exact hcp1
    ·rw [x4 c (fun q=>h2 (List.mem_cons_of_mem _ (by rw [q];exact hmemB b B' hBB)))]
     refine fsame c h0 h1 (fun hh=>h2 ?_)
     rcases List.mem_cons.1 hh with q | q
     ·rw [q];exact List.mem_cons_self ..
     ·exact List.mem_cons_of_mem _ (hAL _ q)
    ·show s1.c+1=s.c+((j+1:Nat):Int);rw [f.c];omega
    ·rw [s4x];exact eU (f.okw q) (kX hwok)
   ·obtain⟨j',b2,h1,h2,h3⟩:=walk most hmo
    have h4:=sought most hmo b2 h3 (uO (by show clW' z.cw=0;exact hbc))
    rw [hlk]at h4
    have h4:ftG t n _=(false,(_,_,s1)):=h4
    have h7:=qL (qM (t:=t) (n:=n) (x:= { (ftNF t n sh kd ky most st).1 with failed:=false,tries:=0,at':=3,p:=Pa.plan z.pred z.pw (hdN B) z.cw st.sp (.mark v),fn:=cS,cl:=bF,pr:=dN}) (st:=⟨st.me,st.sp,st.R++U.map Nd.a⟩) (s:=s1) rfl hcas (uP (m:=true) (pP _)))
    have e1:bT ((ftNF t n sh kd ky most st).1).kd =false:=hlk
    have e3:s1.cased (hdN B) z.cw w=s4:=by rw [hcu]
    have h7:ftG t n _=(true,(_,_,s1.cased (hdN B) z.cw w)):=h7
    rw [e3]at h7
    exact xY (by omega) (h2.trans (lH.one h4)) h7 (by simp only [e1,Pa.pops,List.append_nil,cond_false];rfl) ⟨rfl,rfl,rfl,rfl,rfl⟩
 | pop v=>
   subst hP
   have hlk:bT kd=false:=by
    cases hq:bT kd with
    | false=>rfl
    | true=>rcases AR (sh:=sh) (ky:=ky) (B:=B) hq with q | ⟨_,q⟩<;>rw [hact]at q<;>cases q
   obtain⟨b,B',hBB⟩:=K2 hact
   obtain⟨⟨hb0,hbk⟩,hb1,hb2,hbw,hbc,hch2,hnx⟩:=hbb b B' hBB
   have hcu:hdN B=b.a:=by rw [hBB];rfl
   let w:=MU z.pw (nxW z.cw) (mkW z.pw)
   let s4:=s1.cased z.pred z.pw w
   have hcas:=iI hin fpw.symm
   have s4x:s4.xs=aO s1.xs z.pred w:=lT hcas
   have x4: ∀a,a≠z.pred→aA s4.xs a=aA s1.xs a:=fun a ha=>by rw [s4x,cX ha]
   have x4p:aA s4.xs z.pred=w:=by rw [s4x,eJ hin]
   have l4:s4.xs.length=s1.xs.length:=by rw [s4x,bZ]
   have hwok:=B3 z.pw (nx:=nxW z.cw) (pP _)
   have hpB:z.pred∉B.map Nd.a:=hnB _ hpm
   refine⟨j+1,s4,?_,fun most hmo=>?_⟩
   ·refine {ch:=?_,mp:=?_,cp:=?_,same:=fun c h0 h1 h2 h3=>?_,t:=f.t,n:=f.n,c:=?_,len:=l4.trans f.len,okw:=fun q=>?_,lim:=by omega}
    ·rw [hA0,hB,hBB]
     refine sR fch hnA ?_ ?_ ?_
     ·intro c hc hcl
      rw [←fpr]at hcl
      exact x4 c hcl
     ·rw [←fpr,x4p,←fpw]
      exact⟨tM hwok,nQ hwok,(oT hwok).trans (by rw [fpw];exact hlast.1.symm)⟩
     ·rw [←fpr]
      refine sQ hch2 ?_ (fun c hc=>x4 c (fun q=>hpB (by rw [hBB,←q];exact List.mem_cons_of_mem _ hc)))
      rw [x4p,←hbw];exact rS hwok
    ·by_cases q:p=z.pred
     ·rw [q,x4p,←hlast.2,←fpw];exact nQ hwok
     ·rw [x4 p q];exact hmp1
    ·by_cases q:p=z.pred
     ·rw [q,x4p];exact oT hwok
     ·rw [x4 p q];exact hcp1
    ·rw [x4 c (fun q=>h2 (by rw [q];exact hpL))]
     refine fsame c h0 h1 (fun hh=>h2 ?_)
     rcases List.mem_cons.1 hh with q | q
     ·rw [q];exact List.mem_cons_self ..
     ·exact List.mem_cons_of_mem _ (hAL _ q)
    ·show s1.c+1=s.c+((j+1:Nat):Int);rw [f.c];omega
    ·rw [s4x];exact eU (f.okw q) (kX hwok)
   ·obtain⟨j',b2,h1,h2,h3⟩:=walk most hmo
    have h4:=sought most hmo b2 h3 (uO (by show clW' z.pw=0;rw [fpw];exact hlast.1))
    rw [hlk]at h4
    have h4:ftG t n _=(false,(_,_,s1)):=h4
    have h7:=qL (qM (t:=t) (n:=n) (x:= { (ftNF t n sh kd ky most st).1 with failed:=false,tries:=0,at':=3,p:=Pa.plan z.pred z.pw (hdN B) z.cw st.sp (.pop v),fn:=cS,cl:=bF,pr:=dN}) (st:=⟨st.me,st.sp,st.R++U.map Nd.a⟩) (s:=s1) rfl hcas (uP (m:=mkW z.pw) (pP _)))
    have e1:bT ((ftNF t n sh kd ky most st).1).kd =false:=hlk
    have e2:ieq (Pa.plan z.pred z.pw (hdN B) z.cw st.sp (.pop v)).pops 0=false:=by
     rw [bJ,beq_eq_false_iff_ne];show hdN B≠0;rw [hcu];exact hb0
    refine xY (by omega) (h2.trans (lH.one h4)) h7 (by simp only [e1,e2,Pa.pops,cond_false];rfl) ⟨rfl,rfl,rfl,rfl,rfl⟩
theorem lJ.congr{σ:Type}{F:σ→Bool×σ}{j:Nat}{a a' z:σ}(h:F a=F a')(g:lJ F j a' z):lJ F j a z:=by
 obtain⟨i,b,rfl,h1,h2⟩:=g
 cases h1 with
 | nil=>exact⟨0,a,rfl,lH.nil _,h.trans h2⟩
 | cons q t=>exact⟨_,b,rfl,lH.cons (h.trans q) t,h2⟩
theorem lH.congr{σ:Type}{F:σ→Bool×σ}{j:Nat}{a a' z:σ}(h:F a=F a')(g:lH F (j+1) a' z):lH F (j+1) a z:=by
 cases g with
 | cons q t=>exact lH.cons (h.trans q) t
def NM(t n:Int)(p:ENS×STS×MS):Bool×(ENS×STS×MS):=((enF t n p.1 p.2.1 p.2.2).d,((enF t n p.1 p.2.1 p.2.2).e,(enF t n p.1 p.2.1 p.2.2).st,(enF t n p.1 p.2.1 p.2.2).s))
theorem B8{t n:Int}{x:ENS}{st:STS}{s:MS}{d:Bool}{x':ENS}{st':STS}{s':MS}(h:enF t n x st s=⟨d,x',st',s'⟩):NM t n (x,st,s)=(d,(x',st',s')):=by
 unfold NM;rw [h]
def d9(n:Int)(xs:List Int)(b:Int):Bool:=oddB (aA xs (n+4+b))
theorem mG{y:Int}(h:0≤y):oddB y=true↔y%2=1:=by
 unfold oddB
 rw [Int.tmod_eq_emod_of_nonneg h,bJ]
 simp only [Bool.not_eq_true',beq_eq_false_iff_ne]
 omega
def itN(n a:Int):Nat→Int
 | 0=>a
 | i+1=>itN n (cF n a) i
theorem sZ{n a:Int}(h:1≤a∧a≤n):cF n a=if a<n then a+1 else 1:=by
 unfold cF
 rw [Int.tmod_eq_emod_of_nonneg (by omega)]
 by_cases e:a<n
 ·rw [if_pos e,Int.emod_eq_of_lt (by omega) e]
 ·have:a=n:=by omega
  rw [if_neg e,this,Int.emod_self];rfl
theorem EE{n:Int} : ∀(i:Nat) (a:Int),1≤a∧a≤n→1≤itN n a i∧itN n a i≤n
 | 0,a,h=>h
 | i+1,a,h=>EE i _ (by rw [sZ h];split<;>omega)
theorem CM{n:Int} : ∀(i:Nat) (a:Int),1≤a∧a≤n→(i:Int)<n→itN n a i=if a+i≤n then a+i else a+i - n
 | 0,a,h,_=>by
   show a=_
   rw [if_pos (by simp;omega)];simp
 | i+1,a,h,hi=>by
   show itN n (cF n a) i=_
   rw [CM i _ (by rw [sZ h];split<;>omega) (by omega),sZ h]
   by_cases e:a<n
   ·simp only [if_pos e]
    split<;>split<;>omega
   ·simp only [if_neg e]
    split<;>split<;>omega
theorem OU{n a b:Int}(h:1≤a∧a≤n)(hb:1≤b∧b≤n): ∃i:Nat,(i:Int)<n∧itN n a i=b:=by
 by_cases e:a≤b
 ·refine⟨(b - a).toNat,by omega,?_⟩
  rw [CM _ _ h (by omega)]
  split<;>omega
 ·refine⟨(b+n - a).toNat,by omega,?_⟩
  rw [CM _ _ h (by omega)]
  split<;>omega
theorem NS{t n:Int}{e:ENS}{st:STS}{s:MS}{a left f:Int}(h:e.ph=1)(hx:e.x=⟨0,a,left,f,false⟩)(ho:d9 n s.xs a=true)(hl:1<left):
 enF t n e st s=⟨false,{e with ph:=1,x:=⟨0,cF n a,left - 1,aA s.xs (n+4+a),false⟩ },st,s.loadd (n+4+a)⟩:=by
 have ho:oddB (aA s.xs (n+4+a))=true:=ho
 have hz:ile (left - 1) 0=false:=by rw [bV];exact decide_eq_false (by omega)
 unfold enF
 simp only [h,hx,jM,ho,zN,hz]
theorem NR{t n:Int}{e:ENS}{st:STS}{s:MS}{a left f:Int}(h:e.ph=1)(hx:e.x=⟨0,a,left,f,false⟩)(ho:d9 n s.xs a=false):
 enF t n e st s=⟨false,{e with ph:=1,x:=⟨0,a,left,aA s.xs (n+4+a),true⟩ },st,s.loadd (n+4+a)⟩:=by
 have ho:oddB (aA s.xs (n+4+a))=false:=ho
 unfold enF
 simp only [h,hx,jM,ho]
theorem RJ{t n:Int}{e:ENS}{st:STS}{s:MS}{a left f:Int}(h:e.ph=1)(hx:e.x=⟨0,a,left,f,true⟩)(hc:aZ s.xs (n+4+a) f=true):
 enF t n e st s=⟨true,{e with ph:=1,x:=⟨a,a,left,f,true⟩ },{st with sp:=a},s.cased (n+4+a) f (WU (f+1))⟩:=by
 unfold enF
 simp only [h,hx,jM,hc]
theorem JD{t n:Int}{e:ENS}{st:STS}{s:MS}(h:e.ph=0)(hz:st.sp=0):enF t n e st s=enF t n {e with ph:=1,x:=⟨0,at0 t n st.me,n,0,false⟩ } st s:=by
 unfold enF
 have:ieq st.sp 0=true:=by rw [hz];exact bN 0
 simp only [h,this,jM,zN]
structure MC (t n:Int) (s:MS):Prop where
 ht:1≤t∧t≤1000
 hn:1≤n∧n≤500
 len:(s.xs.length:Int)=2*n+5*t+6
 okw:okW s.xs
theorem wU{t n:Int} : ∀(i:Nat) (a left f:Int) (e:ENS) (st:STS) (s:MS),e.ph=1→e.x=⟨0,a,left,f,false⟩→1≤a∧a≤n→(i:Int)<left→MC t n s→
 (∀k,k<i→d9 n s.xs (itN n a k)=true)→d9 n s.xs (itN n a i)=false→
 ∃z s',lJ (NM t n) (i+2) (e,st,s) (z,{st with sp:=itN n a i},s')∧z.sh=e.sh∧z.dn=e.dn∧s'.xs=aO s.xs (n+4+itN n a i) (aA s.xs (n+4+itN n a i)+1)∧s'.c=s.c+(i+2:Nat)∧s'.t=s.t∧s'.n=s.n
 | 0,a,left,f,e,st,s,h1,h2,ha,hl,mc,_,hf=>by
   have hin:0≤n+4+a∧n+4+a<s.xs.length:=by have:=mc.ht;have:=mc.len;omega
   have hcas:=iI (xs:=(s.loadd (n+4+a)).xs) (x:=aA s.xs (n+4+a)) hin rfl
   have hw:=uJ mc.okw (n+4+a)
   have hev:aA s.xs (n+4+a)%2≠1:=by
    intro q
    have:d9 n s.xs a=true:=(mG hw.1).2 q
    rw [show itN n a 0=a from rfl,this]at hf;cases hf
   have e1:=B8 (NR (t:=t) (st:=st) h1 h2 hf)
   have e2:=B8 (RJ (t:=t) (n:=n) (e:= {e with ph:=1,x:=⟨0,a,left,aA s.xs (n+4+a),true⟩ }) (st:=st) (s:=s.loadd (n+4+a)) rfl rfl hcas)
   refine⟨_,_,lJ.cons e1 (lJ.one e2),rfl,rfl,?_,?_,rfl,rfl⟩
   ·have hwu:WU (aA s.xs (n+4+a)+1)=aA s.xs (n+4+a)+1:=lK (by omega)
    rw [lT hcas,hwu];rfl
   ·show s.c+1+1=s.c+((0+2:Nat):Int);omega
 | i+1,a,left,f,e,st,s,h1,h2,ha,hl,mc,ho,hf=>by
   have e1:=B8 (NS (t:=t) (st:=st) h1 h2 (ho 0 (by omega)) (by omega))
   have hn:=sZ ha
   obtain⟨z,s',g1,g2,g3,g4,g5,g6,g7⟩:=wU i (cF n a) (left - 1) (aA s.xs (n+4+a)) {e with ph:=1,x:=⟨0,cF n a,left - 1,aA s.xs (n+4+a),false⟩ } st (s.loadd (n+4+a)) rfl rfl (by rw [hn];split<;>omega) (by omega) ⟨mc.ht,mc.hn,mc.len,mc.okw⟩ (fun k hk=>ho (k+1) (by omega)) hf
   exact⟨z,s',lJ.cons e1 g1,g2,g3,g4,by rw [g5];show s.c+1+_=_;omega,g6,g7⟩
def XZ(n:Int)(R:List Int)(xs:List Int):List Int:=R.foldl (fun xs r=>aO xs (n+4+r) (WU (aA xs (n+4+r)+1))) xs
def SZ(t n:Int)(xs:List Int):Prop:= ∀i:Int,0≤i→i<2*t→aA xs (2*n+5+i)=0
theorem Q2{t n me:Int}(hn:1≤n):1≤at0 t n me∧at0 t n me≤n:=DK hn
theorem VT{P:Nat→Prop} [DecidablePred P]: ∀k,P k→ ∃i,i≤k∧P i∧ ∀j,j<i→ ¬P j
 | 0,h=>⟨0,Nat.le_refl _,h,fun j hj=>absurd hj (by omega)⟩
 | k+1,h=>by
   by_cases q: ∃i,i≤k∧P i
   ·obtain⟨i,hi,hp⟩:=q
    have: ∀m i,i≤m→P i→ ∃j,j≤i∧P j∧ ∀l,l<j→ ¬P l:=by
     intro m
     induction m with
     | zero=>intro i hi hp;exact⟨i,Nat.le_refl _,hp,fun l hl=>absurd hl (by omega)⟩
     | succ m ih=>
       intro i hi hp
       by_cases r: ∃l,l<i∧P l
       ·obtain⟨l,hl,hp⟩:=r
        obtain⟨j,h1,h2,h3⟩:=ih l (by omega) hp
        exact⟨j,by omega,h2,h3⟩
       ·exact⟨i,Nat.le_refl _,hp,fun l hl hp=>r ⟨l,hl,hp⟩⟩
    obtain⟨j,h1,h2,h3⟩:=this i i (Nat.le_refl _) hp
    exact⟨j,by omega,h2,h3⟩
   ·exact⟨k+1,Nat.le_refl _,h,fun j hj hp=>q ⟨j,by omega,hp⟩⟩
theorem JF{t n:Int}{e:ENS}{st:STS}{s:MS}(h:e.ph=0)(hz:st.sp=0)(mc:MC t n s){b0:Int}(hb:1≤b0∧b0≤n)(hf:d9 n s.xs b0=false):
 ∃j b z s',lJ (NM t n) j (e,st,s) (z,{st with sp:=b},s')∧(1≤b∧b≤n)∧d9 n s.xs b=false∧z.sh=e.sh∧s'.xs=aO s.xs (n+4+b) (aA s.xs (n+4+b)+1)∧s'.c=s.c+j∧s'.t=s.t∧s'.n=s.n∧(j:Int)≤n+1:=by
 have ha:=Q2 (t:=t) (me:=st.me) mc.hn.1
 obtain⟨k,hk,hkb⟩:=OU ha hb
 obtain⟨i,hi,hfi,ho⟩:=VT (P:=fun i=>d9 n s.xs (itN n (at0 t n st.me) i)=false) k (by show _=_;rw [hkb];exact hf)
 obtain⟨z,s',g1,g2,g3,g4,g5,g6,g7⟩:=wU (t:=t) (n:=n) i (at0 t n st.me) n 0 {e with ph:=1,x:=⟨0,at0 t n st.me,n,0,false⟩ } st s rfl rfl ha (by omega) mc (fun j hj=>by
  have:=ho j hj
  cases q:d9 n s.xs (itN n (at0 t n st.me) j)with
  | true=>rfl
  | false=>exact absurd q this) hfi
 refine⟨i+2,_,z,s',lJ.congr ?_ g1,EE _ _ ha,hfi,g2,g4,g5,g6,g7,by omega⟩
 unfold NM
 simp only [JD h hz]
abbrev P6(t n u:Int):Int:=2*n+5+2*t+3*u+2
def PZ(t n:Int)(xs:List Int):Prop:= ∀u:Int,0≤u→u<t→WJ (aB (aA xs (P6 t n u)) 49 3)=false
def allN(LL:List (List Nd))(S:List STS):List Int:=LL.flatMap (fun L=>L.map Nd.a)++S.flatMap (fun st=>bD st.sp st.R)
theorem fI{α β:Type}(f:α→List β): ∀(l:List α) (i:Nat) (x:α),l[i]? =some x→(l.flatMap f).Perm (f x++(l.eraseIdx i).flatMap f)
 | [],i,x,h=>by simp at h
 | y::l,0,x,h=>by simp at h;subst h;exact List.Perm.refl _
 | y::l,i+1,x,h=>by
   have:=fI f l i x (by simpa using h)
   simp only [List.flatMap_cons,List.eraseIdx_cons_succ]
   refine(List.Perm.append_left (f y) this).trans ?_
   rw [←List.append_assoc,←List.append_assoc]
   exact List.Perm.append_right _ List.perm_append_comm
theorem iT{α β:Type}(f:α→List β): ∀(l:List α) (i:Nat) (x:α),i<l.length→((l.set i x).flatMap f).Perm (f x++(l.eraseIdx i).flatMap f)
 | [],i,x,h=>by simp at h
 | y::l,0,x,h=>by simp
 | y::l,i+1,x,h=>by
   have:=iT f l i x (by simpa using h)
   simp only [List.flatMap_cons,List.eraseIdx_cons_succ,List.set_cons_succ]
   refine(List.Perm.append_left (f y) this).trans ?_
   rw [←List.append_assoc,←List.append_assoc]
   exact List.Perm.append_right _ List.perm_append_comm
structure QL (t n:Int) (xs:List Int) (LL:List (List Nd)) (S:List STS):Prop where
 ht:1≤t∧t≤1000
 hn:1≤n∧n≤500
 len:(xs.length:Int)=2*n+5*t+6
 okw:okW xs
 four:LL.length=4
 hd: ∀(h:Nat) (L:List Nd),LL[h]? =some L→ch n xs (n+1+h) L∧mkW (aA xs (n+1+h))=false∧clW' (aA xs (n+1+h))=0
 nd:(allN LL S).Nodup
 rng: ∀b∈allN LL S,1≤b∧b≤n
 tk: ∀b,1≤b∧b≤n→(d9 n xs b=true↔b∈allN LL S)
 me: ∀(i:Nat) (st:STS),S[i]? =some st→st.me=i∧(i:Int)<t
theorem QL.mc{t n:Int}{LL:List (List Nd)}{S:List STS}{s:MS}(h:QL t n s.xs LL S):MC t n s:=⟨h.ht,h.hn,h.len,h.okw⟩
theorem iU{α:Type}{l:List α}{i:Nat}{x:α}(h:l[i]? =some x):i<l.length:=by
 rw [List.getElem?_eq_some_iff]at h;exact h.1
theorem jG{t n:Int}{xs:List Int}{LL:List (List Nd)}{S:List STS}(q:QL t n xs LL S){h:Nat}{L:List Nd}(hL:LL[h]? =some L):(L.map Nd.a).Nodup ∧(∀b∈L.map Nd.a,1≤b∧b≤n)∧(∀b∈L.map Nd.a,b∈allN LL S):=by
 have p:=fI (fun L:List Nd=>L.map Nd.a) LL h L hL
 have m: ∀b∈L.map Nd.a,b∈allN LL S:=fun b hb=>List.mem_append_left _ (p.symm.subset (List.mem_append_left _ hb))
 have nd:(LL.flatMap fun L:List Nd=>L.map Nd.a).Nodup :=(List.nodup_append.1 q.nd).1
 exact⟨(List.nodup_append.1 (p.nodup_iff.1 nd)).1,fun b hb=>q.rng b (m b hb),m⟩
theorem sY{t n:Int}{xs:List Int}{LL:List (List Nd)}{S:List STS}(q:QL t n xs LL S){i:Nat}{st:STS}(hS:S[i]? =some st):(bD st.sp st.R).Nodup ∧(∀b∈bD st.sp st.R,1≤b∧b≤n)∧(∀b∈bD st.sp st.R,b∈allN LL S):=by
 have p:=fI (fun st:STS=>bD st.sp st.R) S i st hS
 have m: ∀b∈bD st.sp st.R,b∈allN LL S:=fun b hb=>List.mem_append_right _ (p.symm.subset (List.mem_append_left _ hb))
 have nd:(S.flatMap fun st:STS=>bD st.sp st.R).Nodup :=(List.nodup_append.1 q.nd).2.1
 exact⟨(List.nodup_append.1 (p.nodup_iff.1 nd)).1,fun b hb=>q.rng b (m b hb),m⟩
theorem qO{t n:Int}{xs:List Int}{LL:List (List Nd)}{S:List STS}(q:QL t n xs LL S){i h:Nat}{st:STS}{L:List Nd}(hS:S[i]? =some st)(hL:LL[h]? =some L): ∀b∈bD st.sp st.R,b∉L.map Nd.a:=by
 intro b hb hc
 have p:=fI (fun st:STS=>bD st.sp st.R) S i st hS
 have p2:=fI (fun L:List Nd=>L.map Nd.a) LL h L hL
 exact(List.nodup_append.1 q.nd).2.2 b (p2.symm.subset (List.mem_append_left _ hc)) b (p.symm.subset (List.mem_append_left _ hb)) rfl
theorem IB{sp:Int}{R:List Int}{r:Int}(h:r∈R):r∈bD sp R:=by
 unfold bD
 cases ieq sp 0 with
 | true=>exact h
 | false=>exact List.mem_cons_of_mem _ h
theorem MN{sp:Int}{R:List Int}(h:(bD sp R).Nodup):R.Nodup:=by
 unfold bD at h
 cases q:ieq sp 0 with
 | true=>rw [q]at h;exact h
 | false=>rw [q]at h;exact(List.nodup_cons.1 h).2
theorem CK(R:List Int):bD 0 R=R:=rfl
theorem l9{sp:Int}(h:sp≠0)(R:List Int):bD sp R=sp::R:=by
 unfold bD
 have:ieq sp 0=false:=by rw [bJ,beq_eq_false_iff_ne];exact h
 rw [this];rfl
theorem QL.agree{t n:Int}{xs ys:List Int}{LL:List (List Nd)}{S S':List STS}(q:QL t n xs LL S)(len:ys.length=xs.length)(ok:okW ys)(e: ∀a,1≤a∧a≤n+4→aA ys a=aA xs a)
 (nd:(allN LL S').Nodup) (rng: ∀b∈allN LL S',1≤b∧b≤n) (tk: ∀b,1≤b∧b≤n→(d9 n ys b=true↔b∈allN LL S')) (me: ∀(i:Nat) (st:STS),S'[i]? =some st→st.me=i∧(i:Int)<t):QL t n ys LL S' where
 ht:=q.ht
 hn:=q.hn
 len:=by rw [len];exact q.len
 okw:=ok
 four:=q.four
 hd:=by
  intro h L hL
  obtain⟨h1,h2,h3⟩:=q.hd h L hL
  have hh:h<4:=by have:=iU hL;rw [q.four]at this;exact this
  have hn:=q.hn
  have eh:=e (n+1+h) (by omega)
  refine⟨iQ h1 (fun b hb=>e b ?_),by rw [eh];exact h2,by rw [eh];exact h3⟩
  rcases List.mem_cons.1 hb with r | r
  ·omega
  ·have:=(jG q hL).2.1 b r;omega
 nd:=nd
 rng:=rng
 tk:=tk
 me:=me
theorem nJ{α:Type}{l:List α}{i j:Nat}{x y:α}(h:(l.set i x)[j]? =some y):(i=j∧x=y)∨(l[j]? =some y∧i≠j):=by
 rw [List.getElem?_set]at h
 by_cases e:i=j
 ·rw [if_pos e]at h
  split at h
  ·exact .inl ⟨e,by simpa using h⟩
  ·cases h
 ·rw [if_neg e]at h
  exact .inr ⟨h,e⟩
theorem KW{t:Int}{S:List STS}{i:Nat}{st st':STS}(h: ∀(j:Nat) (x:STS),S[j]? =some x→x.me=j∧(j:Int)<t)(hS:S[i]? =some st)(e:st'.me=st.me): ∀(j:Nat) (x:STS),(S.set i st')[j]? =some x→x.me=j∧(j:Int)<t:=by
 intro j x hx
 rcases nJ hx with⟨rfl,rfl⟩ | ⟨h1,_⟩
 ·rw [e];exact h i st hS
 ·exact h j x h1
theorem OZ{n a b:Int}(hn:1≤n)(ha:1≤a∧a≤n+4)(hb:1≤b):a≠n+4+b:=by omega
theorem G5{t n:Int}{xs:List Int}{b c v:Int}(hin:0≤n+4+b∧n+4+b<xs.length):d9 n (aO xs (n+4+b) v) c=if c=b then oddB v else d9 n xs c:=by
 unfold d9
 rw [uN hin]
 by_cases e:c=b
 ·rw [if_pos e,if_pos (by omega)]
 ·rw [if_neg e,if_neg (by omega)]
theorem QL.take{t n:Int}{xs:List Int}{LL:List (List Nd)}{S:List STS}(q:QL t n xs LL S){i:Nat}{st:STS}(hS:S[i]? =some st)(hz:st.sp=0){b:Int}(hb:1≤b∧b≤n)(hf:d9 n xs b=false):
 QL t n (aO xs (n+4+b) (aA xs (n+4+b)+1)) LL (S.set i {st with sp:=b}):=by
 have hn:=q.hn
 have ht:=q.ht
 have hin:0≤n+4+b∧n+4+b<xs.length:=by have:=q.len;omega
 have hw:=uJ q.okw (n+4+b)
 have hev: ¬aA xs (n+4+b)%2=1:=by
  intro h
  have:d9 n xs b=true:=(mG hw.1).2 h
  rw [this]at hf;cases hf
 have hb0:b∉allN LL S:=fun h=>by
  have:=(q.tk b hb).2 h
  rw [this]at hf;cases hf
 have p0:=fI (fun st:STS=>bD st.sp st.R) S i st hS
 have p1:=iT (fun st:STS=>bD st.sp st.R) S i {st with sp:=b} (iU hS)
 have pp:(allN LL (S.set i {st with sp:=b})).Perm (b::allN LL S):=by
  refine(List.Perm.append_left _ p1).trans ?_
  have h1:bD b st.R=b::bD st.sp st.R:=by rw [hz,CK,l9 (by omega)]
  show(_++(bD b st.R++_)).Perm _
  rw [h1]
  refine List.Perm.trans ?_ (List.Perm.cons b (List.Perm.append_left _ p0.symm))
  rw [List.cons_append]
  exact List.perm_middle
 refine q.agree (bZ _ _ _) (eU q.okw (by omega)) (fun a ha=>cX (OZ hn.1 ha hb.1)) (pp.nodup_iff.2 (List.nodup_cons.2 ⟨hb0,q.nd⟩)) (fun c hc=>?_) (fun c hc=>?_) (KW q.me hS rfl)
 ·rcases List.mem_cons.1 (pp.subset hc)with e | e
  ·rw [e];exact hb
  ·exact q.rng c e
 ·rw [G5 (t:=t) hin]
  by_cases e:c=b
  ·rw [if_pos e,e]
   exact⟨fun _=>pp.symm.subset (List.mem_cons_self ..),fun _=>(mG (by omega)).2 (by omega)⟩
  ·rw [if_neg e,q.tk c hc]
   exact⟨fun h=>pp.symm.subset (List.mem_cons_of_mem _ h),fun h=>(List.mem_cons.1 (pp.subset h)).resolve_left e⟩
theorem QL.out{t n:Int}{xs ys:List Int}{LL:List (List Nd)}{S:List STS}(q:QL t n xs LL S)(len:ys.length=xs.length)(ok:okW ys)(e: ∀a,a≤2*n+4→aA ys a=aA xs a):QL t n ys LL S:=by
 refine q.agree len ok (fun a ha=>e a (by have:=q.hn;omega)) q.nd q.rng (fun b hb=>?_) q.me
 rw [←q.tk b hb]
 unfold d9
 rw [e _ (by omega)]
theorem yH(k:Int): ∀L:List Nd,L.Perm ((sc k L).1++(sc k L).2.1++(sc k L).2.2)
 | []=>List.Perm.refl _
 | b::L=>by
   have ih:=yH k L
   cases hm:b.m with
   | true=>
     rw [nH hm]
     refine(List.Perm.cons b ih).trans ?_
     simp only [List.append_assoc,List.cons_append]
     exact List.perm_middle.symm
   | false=>
     by_cases hk:k≤b.k
     ·rw [nI hm hk];exact List.Perm.refl _
     ·rw [nG hm (by omega)];exact List.Perm.cons b ih
theorem AC(sh ky:Int):(cI sh ky).toNat <4:=by have:=c9 sh ky;omega
theorem AB(sh ky:Int):(((cI sh ky).toNat :Nat):Int)=cI sh ky:=by have:=c9 sh ky;omega
def dJ(LL:List (List Nd))(sh ky:Int):List Nd:=LL.getD (cI sh ky).toNat []
theorem QL.at{t n:Int}{xs:List Int}{LL:List (List Nd)}{S:List STS}(q:QL t n xs LL S)(sh ky:Int):LL[(cI sh ky).toNat]? =some (dJ LL sh ky):=by
 have h:(cI sh ky).toNat <LL.length:=by rw [q.four];exact AC _ _
 unfold dJ
 rw [gD',gE' h];rfl
theorem kD: ∀(l m:List Int),l.Nodup→(∀a∈l,a∈m)→l.length≤m.length
 | [],m,_,_=>Nat.zero_le _
 | a::l,m,h,hs=>by
   have h:=List.nodup_cons.1 h
   have ha:=hs a (List.mem_cons_self ..)
   have:=kD l (m.erase a) h.2 (fun b hb=>(List.mem_erase_of_ne (by rintro rfl;exact h.1 hb)).2 (hs b (List.mem_cons_of_mem _ hb)))
   rw [List.length_erase_of_mem ha]at this
   have:0<m.length:=List.length_pos_of_mem ha
   simp only [List.length_cons]
   omega
theorem i3{l:List Int}{n:Int}(hn:0≤n)(h:l.Nodup)(hr: ∀b∈l,1≤b∧b≤n):(l.length:Int)≤n:=by
 have hs: ∀b∈l,b∈((List.range n.toNat).map fun i:Nat=>(i:Int)+1):=by
  intro b hb
  have:=hr b hb
  exact List.mem_map.2 ⟨(b - 1).toNat,List.mem_range.2 (by omega),by omega⟩
 have:=kD _ _ h hs
 rw [List.length_map,List.length_range]at this
 omega
theorem QL.lc{t n:Int}{xs:List Int}{LL:List (List Nd)}{S:List STS}(q:QL t n xs LL S)(sh ky:Int){i:Nat}{st:STS}(hS:S[i]? =some st):LC t n st.me (n+1+cI sh ky) (dJ LL sh ky) xs:=by
 have hL:=q.at sh ky
 obtain⟨h1,h2,h3⟩:=q.hd _ _ hL
 obtain⟨d1,d2,d3⟩:=jG q hL
 have hh:=c9 sh ky
 have hm:=q.me i st hS
 have hn:=q.hn
 rw [AB]at h1 h2 h3
 refine⟨q.ht,q.hn,q.len,by omega,by omega,h2,h3,h1,List.nodup_cons.2 ⟨fun h=>?_,d1⟩,?_⟩
 ·have:=d2 _ h;omega
 ·have:=i3 (by omega) d1 d2
  rw [List.length_map]at this
  exact this
theorem QL.move{t n:Int}{xs ys:List Int}{LL:List (List Nd)}{S:List STS}(q:QL t n xs LL S){h i:Nat}{L L':List Nd}{st st':STS}(hL:LL[h]? =some L)(hS:S[i]? =some st)(hme:st'.me=st.me)
 (len:ys.length=xs.length) (ok:okW ys)
 (pp:(L'.map Nd.a++bD st'.sp st'.R).Perm (L.map Nd.a++bD st.sp st.R))
 (hch:ch n ys (n+1+h) L'∧mkW (aA ys (n+1+h))=false∧clW' (aA ys (n+1+h))=0)
 (same: ∀a,1≤a∧a≤2*n+4→a≠n+1+h→a∉L.map Nd.a→a≠st.sp→aA ys a=aA xs a):QL t n ys (LL.set h L') (S.set i st'):=by
 have hn:=q.hn
 have hh:h<4:=by have:=iU hL;rw [q.four]at this;exact this
 have p0:=fI (fun L:List Nd=>L.map Nd.a) LL h L hL
 have p1:=iT (fun L:List Nd=>L.map Nd.a) LL h L' (iU hL)
 have q0:=fI (fun st:STS=>bD st.sp st.R) S i st hS
 have q1:=iT (fun st:STS=>bD st.sp st.R) S i st' (iU hS)
 have pall:(allN (LL.set h L') (S.set i st')).Perm (allN LL S):=by
  unfold allN
  refine(List.Perm.append p1 q1).trans (List.Perm.trans ?_ (List.Perm.append p0 q0).symm)
  have pc:=List.perm_iff_count.1 pp
  refine List.perm_iff_count.2 (fun a=>?_)
  have:=pc a
  simp only [List.count_append]at this⊢
  omega
 have hdj:=qO q hS hL
 have spd: ∀b,b∈allN LL S→b=st.sp→b∉L.map Nd.a:=by
  intro b _ e
  by_cases z:st.sp=0
  ·intro hb;have:=(jG q hL).2.1 b hb;omega
  ·exact hdj b (by rw [e,l9 z];exact List.mem_cons_self ..)
 refine {ht:=q.ht,hn:=q.hn,len:=by rw [len];exact q.len,okw:=ok,four:=by rw [List.length_set];exact q.four,hd:=?_,nd:=pall.nodup_iff.2 q.nd,rng:=fun b hb=>q.rng b (pall.subset hb),tk:=fun b hb=>?_,me:=KW q.me hS hme}
 ·intro g M hM
  rcases nJ hM with⟨rfl,rfl⟩ | ⟨hM,hne⟩
  ·exact hch
  ·obtain⟨k1,k2,k3⟩:=q.hd g M hM
   have hg:g<4:=by have:=iU hM;rw [q.four]at this;exact this
   have hsp: ∀b∈M.map Nd.a,b≠st.sp:=by
    intro b hb e
    by_cases z:st.sp=0
    ·have:=(jG q hM).2.1 b hb;omega
    ·exact qO q hS hM b (by rw [e,l9 z];exact List.mem_cons_self ..) hb
   have hLM: ∀b∈M.map Nd.a,b∉L.map Nd.a:=by
    intro b hb hc
    have r0:=p0.nodup_iff.1 (List.nodup_append.1 q.nd).1
    refine(List.nodup_append.1 r0).2.2 b hc b ?_ rfl
    have hMe:M∈LL.eraseIdx h:=by
     refine List.mem_iff_getElem?.2 ?_
     rcases Nat.lt_or_ge g h with hl | hl
     ·exact⟨g,by rw [List.getElem?_eraseIdx_of_lt hl];exact hM⟩
     ·exact⟨g - 1,by rw [List.getElem?_eraseIdx_of_ge (by omega),show g - 1+1=g by omega];exact hM⟩
    exact List.mem_flatMap.2 ⟨M,hMe,hb⟩
   have sg: ∀a,a=n+1+g∨a∈M.map Nd.a→aA ys a=aA xs a:=by
    intro a ha
    rcases ha with e | e
    ·refine same a (by omega) (by omega) (fun hh=>?_) (fun e2=>?_)
     ·have:=(jG q hL).2.1 a hh;omega
     ·by_cases z:st.sp=0
      ·omega
      ·have:=(sY q hS).2.1 st.sp (by rw [l9 z];exact List.mem_cons_self ..);omega
    ·have:=(jG q hM).2.1 a e
     exact same a (by omega) (by omega) (hLM a e) (hsp a e)
   refine⟨iQ k1 (fun b hb=>sg b (by rcases List.mem_cons.1 hb with r | r;exact .inl r;exact .inr r)),?_,?_⟩
   ·rw [sg _ (.inl rfl)];exact k2
   ·rw [sg _ (.inl rfl)];exact k3
 ·have e:aA ys (n+4+b)=aA xs (n+4+b):=by
   refine same _ (by omega) (by omega) (fun hh=>?_) (fun e2=>?_)
   ·have:=(jG q hL).2.1 _ hh;omega
   ·by_cases z:st.sp=0
    ·omega
    ·have:=(sY q hS).2.1 st.sp (by rw [l9 z];exact List.mem_cons_self ..);omega
  have e2:d9 n ys b=d9 n xs b:=by unfold d9;rw [e]
  rw [e2,q.tk b hb]
  exact⟨fun h=>pall.symm.subset h,fun h=>pall.subset h⟩
theorem l8(sp:Int)(R X:List Int):bD sp (R++X)=bD sp R++X:=by
 unfold bD
 cases ieq sp 0<;>rfl
def tR(sh kd ky sp:Int)(L:List Nd):List Nd:=(sc (cT sh kd ky) L).1++(paOf sh kd ky (sc (cT sh kd ky) L).2.2).new ky sp (sc (cT sh kd ky) L).2.2
def tS(sh kd ky:Int)(L:List Nd)(st:STS):STS:=⟨st.me,(paOf sh kd ky (sc (cT sh kd ky) L).2.2).sp st.sp,st.R++(sc (cT sh kd ky) L).2.1.map Nd.a++(paOf sh kd ky (sc (cT sh kd ky) L).2.2).pops (sc (cT sh kd ky) L).2.2⟩
theorem vW{sh kd ky:Int}{L:List Nd}{st:STS}(hl:bT kd=true→st.sp≠0):((tR sh kd ky st.sp L).map Nd.a++bD (tS sh kd ky L st).sp (tS sh kd ky L st).R).Perm (L.map Nd.a++bD st.sp st.R):=by
 have pL:=(yH (cT sh kd ky) L).map Nd.a
 unfold tR tS
 generalize (sc (cT sh kd ky) L).1=A at*
 generalize (sc (cT sh kd ky) L).2.1=U at*
 generalize (sc (cT sh kd ky) L).2.2=B at*
 rw [List.map_append,List.map_append]at pL
 have pc:=List.perm_iff_count.1 pL
 refine List.perm_iff_count.2 (fun a=>?_)
 have pa:=pc a
 cases hact:paOf sh kd ky B with
 | now b=>
   simp only [Pa.new,Pa.sp,Pa.pops,List.append_nil,l8,List.map_append,List.count_append]at pa⊢
   omega
 | link=>
   have hz:=hl (EL hact)
   simp only [Pa.new,Pa.sp,Pa.pops,List.append_nil,l8,CK,l9 hz,List.map_append,List.map_cons,List.count_append,List.count_cons]at pa⊢
   omega
 | mark v=>
   obtain⟨b,B',rfl⟩:=EM hact
   simp only [Pa.new,Pa.sp,Pa.pops,List.append_nil,l8,List.map_append,List.map_cons,List.count_append,List.count_cons]at pa⊢
   omega
 | pop v=>
   obtain⟨b,B',rfl⟩:=K2 hact
   simp only [Pa.new,Pa.sp,Pa.pops,List.tail_cons,hdN,l8,List.map_append,List.map_cons,List.count_append,List.count_cons,List.count_nil]at pa⊢
   omega
theorem QL.fast{t n:Int}{LL:List (List Nd)}{S:List STS}{s s':MS}{sh kd ky:Int}{i j:Nat}{st:STS}(q:QL t n s.xs LL S)(hS:S[i]? =some st)(hl:bT kd=true→st.sp≠0)
 (f:XW n st.me (n+1+cI sh ky) (dJ LL sh ky) (cT sh kd ky) ky st.sp (paOf sh kd ky (sc (cT sh kd ky) (dJ LL sh ky)).2.2) s s' j):
 QL t n s'.xs (LL.set (cI sh ky).toNat (tR sh kd ky st.sp (dJ LL sh ky))) (S.set i (tS sh kd ky (dJ LL sh ky) st)):=by
 have hh:=AB sh ky
 have hm:=q.me i st hS
 refine q.move (q.at sh ky) hS rfl f.len (f.okw q.okw) (vW hl) ⟨?_,?_,?_⟩ (fun a ha h1 h2 h3=>f.same a (by omega) (by omega) (fun h=>?_) h3)
 ·rw [hh];exact f.ch
 ·rw [hh];exact f.mp
 ·rw [hh];exact f.cp
 ·rcases List.mem_cons.1 h with e | e
  ·omega
  ·exact h2 e
theorem QL.find{t n:Int}{LL:List (List Nd)}{S:List STS}{s s':MS}{x z:FNS}{h i j:Nat}{L:List Nd}{st:STS}(q:QL t n s.xs LL S)(hL:LL[h]? =some L)(hS:S[i]? =some st)(hme:x.me=st.me)
 (f:H4 n (n+1+h) L x s z s' j):
 QL t n s'.xs (LL.set h ((sc x.key L).1++(sc x.key L).2.2)) (S.set i ⟨st.me,st.sp,st.R++(sc x.key L).2.1.map Nd.a⟩):=by
 have hm:=q.me i st hS
 obtain⟨k1,k2,k3⟩:=q.hd h L hL
 refine q.move hL hS rfl f.len (f.okw q.okw) ?_ ⟨f.ch,f.p3.2.1.trans k2,f.p3.2.2.trans k3⟩ (fun a ha h1 h2 h3=>f.same a (by rw [hme];omega) (by rw [hme];omega) (fun h=>?_))
 ·have pL:=(yH x.key L).map Nd.a
  rw [List.map_append,List.map_append]at pL
  have pc:=List.perm_iff_count.1 pL
  refine List.perm_iff_count.2 (fun a=>?_)
  have pa:=pc a
  simp only [l8,List.map_append,List.count_append]at pa⊢
  omega
 ·rcases List.mem_cons.1 h with e | e
  ·exact h1 e
  ·exact h2 (kV (yG _ _) e)
def uk(L:List Nd):List Int:=(L.filter (fun b=>!b.m)).map Nd.k
theorem lA(A B:List Nd):uk (A++B)=uk A++uk B:=by unfold uk;rw [List.filter_append,List.map_append]
theorem QT: ∀ {A:List Nd},(∀b∈A,b.m=false)→uk A=A.map Nd.k
 | [],_=>rfl
 | b::A,h=>by
   have hb:=h b (List.mem_cons_self ..)
   have ih:=QT (A:=A) (fun c hc=>h c (List.mem_cons_of_mem _ hc))
   unfold uk at ih⊢
   rw [List.filter_cons,hb]
   simp only [Bool.not_false,if_true,List.map_cons,ih]
theorem sO(b:Nd)(L:List Nd):uk (b::L)=if b.m then uk L else b.k::uk L:=by
 unfold uk
 cases hb:b.m<;>simp [List.filter_cons,hb]
def cM(k:Int)(x:Int):Bool:=decide (x<k)
theorem QS(k:Int): ∀L:List Nd,(sc k L).1.map Nd.k=(uk L).takeWhile (cM k)∧uk (sc k L).2.2=(uk L).dropWhile (cM k)
 | []=>⟨rfl,rfl⟩
 | b::L=>by
   obtain⟨h1,h2⟩:=QS k L
   cases hm:b.m with
   | true=>rw [nH hm,sO,hm];exact⟨h1,h2⟩
   | false=>
     rw [sO,hm]
     by_cases hk:k≤b.k
     ·have hb:cM k b.k=false:=decide_eq_false (by omega)
      rw [nI hm hk]
      simp only [Bool.false_eq_true,if_false,List.takeWhile_cons,List.dropWhile_cons,hb,sO,hm,List.map_nil]
      exact⟨trivial,trivial⟩
     ·have hb:cM k b.k=true:=decide_eq_true (by omega)
      rw [nG hm (by omega)]
      simp only [Bool.false_eq_true,if_false,List.takeWhile_cons,List.dropWhile_cons,hb,if_true,List.map_cons,h1,h2]
      exact⟨trivial,trivial⟩
def DO(sh kd ky:Int)(u:List Int):(Bool×Int)×List Int:=
 if kd=4 then((true,0),u.takeWhile (cM (cT sh kd ky))++ky::u.dropWhile (cM (cT sh kd ky)))
 else if kd=1 then(if (u.dropWhile (cM (cT sh kd ky))).head? =some ky then((false,0),u)else((true,0),u.takeWhile (cM (cT sh kd ky))++ky::u.dropWhile (cM (cT sh kd ky))))
 else if kd=2 then(if (u.dropWhile (cM (cT sh kd ky))).head? =some ky then((true,0),u.takeWhile (cM (cT sh kd ky))++(u.dropWhile (cM (cT sh kd ky))).tail)else((false,0),u))
 else if kd=3 then((decide ((u.dropWhile (cM (cT sh kd ky))).head? =some ky),0),u)
 else match u.dropWhile (cM (cT sh kd ky))with
  | []=>((false,0),u)
  | x::v=>((true,x),u.takeWhile (cM (cT sh kd ky))++v)
theorem F4(sh kd ky sp:Int)(L:List Nd):(paOf sh kd ky (sc (cT sh kd ky) L).2.2).ok =(DO sh kd ky (uk L)).1.1∧(paOf sh kd ky (sc (cT sh kd ky) L).2.2).val =(DO sh kd ky (uk L)).1.2∧uk (tR sh kd ky sp L)=(DO sh kd ky (uk L)).2:=by
 obtain⟨h1,h2⟩:=QS (cT sh kd ky) L
 have hu:=FG (cT sh kd ky) L
 have hd:=FF (cT sh kd ky) L
 have hall:uk L=(sc (cT sh kd ky) L).1.map Nd.k++uk (sc (cT sh kd ky) L).2.2:=by rw [h1,h2,List.takeWhile_append_dropWhile]
 unfold DO tR
 rw [←h1,←h2]
 generalize (sc (cT sh kd ky) L).1=A at*
 generalize (sc (cT sh kd ky) L).2.2=B at*
 have hA:=QT hu
 have hf:((uk B).head? =some ky)↔fndB ky B=true:=by
  cases B with
  | nil=>simp [uk,fndB]
  | cons b B'=>
    rw [sO,(hd b B' rfl).1]
    simp [fndB,bJ]
 have hfd:decide ((uk B).head? =some ky)=fndB ky B:=by
  cases q:fndB ky B with
  | true=>exact decide_eq_true (hf.2 q)
  | false=>exact decide_eq_false (fun r=>by rw [hf.1 r]at q;cases q)
 have hhd:fndB ky B=true→ ∃b B',B=b::B'∧b.k=ky∧b.m=false:=by
  intro q
  cases B with
  | nil=>cases q
  | cons b B'=>exact⟨b,B',rfl,by simpa [fndB,bJ]using q,(hd b B' rfl).1⟩
 unfold paOf
 by_cases e4:kd=4
 ·rw [if_pos e4,if_pos e4]
  refine⟨rfl,rfl,?_⟩
  rw [Pa.new,lA,hA,sO];rfl
 rw [if_neg e4,if_neg e4]
 by_cases e1:kd=1
 ·rw [if_pos e1,if_pos e1]
  cases q:fndB ky B with
  | true=>
    rw [if_pos (hf.2 q)]
    refine⟨rfl,rfl,?_⟩
    rw [cond_true,Pa.new,lA,hA,←hall]
  | false=>
    rw [if_neg (fun r=>by rw [hf.1 r]at q;cases q)]
    refine⟨rfl,rfl,?_⟩
    rw [cond_false,Pa.new,lA,hA,sO];rfl
 rw [if_neg e1,if_neg e1]
 by_cases e2:kd=2
 ·rw [if_pos e2,if_pos e2]
  cases q:fndB ky B with
  | true=>
    obtain⟨b,B',rfl,hk,hm⟩:=hhd q
    rw [if_pos (hf.2 q)]
    refine⟨rfl,rfl,?_⟩
    rw [cond_true,Pa.new,lA,hA,sO,sO,hm];rfl
  | false=>
    rw [if_neg (fun r=>by rw [hf.1 r]at q;cases q)]
    refine⟨rfl,rfl,?_⟩
    rw [cond_false,Pa.new,lA,hA,←hall]
 rw [if_neg e2,if_neg e2]
 by_cases e3:kd=3
 ·rw [if_pos e3,if_pos e3]
  refine⟨hfd.symm,rfl,?_⟩
  rw [Pa.new,lA,hA,←hall]
 rw [if_neg e3,if_neg e3]
 cases B with
 | nil=>
   refine⟨rfl,rfl,?_⟩
   show uk (A++ [])=uk L
   rw [lA,hA,←hall]
 | cons b B'=>
   have hm:=(hd b B' rfl).1
   have hu2:uk (b::B')=b.k::uk B':=by rw [sO,hm];rfl
   rw [hu2]
   by_cases e5:sh=4
   ·simp only [if_pos e5]
    refine⟨rfl,rfl,?_⟩
    rw [Pa.new,lA,hA];rfl
   ·simp only [if_neg e5]
    refine⟨rfl,rfl,?_⟩
    rw [Pa.new,lA,hA,sO];rfl
theorem pK{f:Nat→Int}{n:Nat}(h:f n=4):bA f (n+1)=bA f n+1:=by
 show(bif ieq (f n) 4 then _ else _)=_;rw [h,bN];rfl
theorem nF{f:Nat→Int}{n:Nat}(h:f n=5):bA f (n+1)=if 0<bA f n then bA f n - 1 else 0:=by
 show(bif ieq (f n) 4 then _ else bif ilt 0 (bA f n)then _ else _)=_
 rw [h,dC (show(5:Int)≠4 by decide),cond_false,bB]
 have:=iX f n
 by_cases e:0<bA f n
 ·rw [decide_eq_true e,if_pos e];rfl
 ·rw [decide_eq_false e,if_neg e,cond_false];omega
theorem AV{f g:Nat→Int}{n:Nat}(h:f n=4):b8 f g (n+1)=b8 f g n++ [g n]:=by
 show(bif ieq (f n) 4 then _ else _)=_;rw [h,bN];rfl
theorem wN{f g:Nat→Int}{n:Nat}(h:f n=5):b8 f g (n+1)=b8 f g n:=by
 show(bif ieq (f n) 4 then _ else _)=_;rw [h,dC (show(5:Int)≠4 by decide)];rfl
def uE(f:Nat→Int)(n:Nat):Prop:= ∀j,j<n→f j=4∨f j=5
theorem x7{f g:Nat→Int} : ∀n,uE f n→bA f n≤(b8 f g n).length
 | 0,_=>Int.le_refl 0
 | n+1,h=>by
   have ih:=x7 (g:=g) n (fun j hj=>h j (by omega))
   rcases h n (by omega)with e | e
   ·rw [pK e,AV e,List.length_append];simp;omega
   ·rw [nF e,wN e];split<;>omega
theorem AJ{f g:Nat→Int}{n:Nat}(h:uE f n)(e:f n=4):kA f g (n+1)=kA f g n++ [g n]:=by
 have hl:=x7 (g:=g) n h
 have h0:=iX f n
 unfold kA
 rw [pK e,AV e,List.length_append]
 have:((((b8 f g n).length + [g n].length :Nat):Int) - (bA f n+1)).toNat =(((b8 f g n).length :Int) - bA f n).toNat :=by simp;omega
 rw [this,List.drop_append_of_le_length (by omega)]
theorem wB{f g:Nat→Int}{n:Nat}(h:uE f n)(e:f n=5):kA f g (n+1)=(kA f g n).tail :=by
 have hl:=x7 (g:=g) n h
 have h0:=iX f n
 unfold kA
 rw [nF e,wN e,List.tail_drop]
 by_cases q:0<bA f n
 ·rw [if_pos q];congr 1;omega
 ·rw [if_neg q]
  have:bA f n=0:=by omega
  rw [this,List.drop_eq_nil_of_le (by omega),List.drop_eq_nil_of_le (by omega)]
theorem jQ(f g:Nat→Int): ∀n,dT f g n 0=[]
 | 0=>rfl
 | n+1=>rfl
theorem qU(f g:Nat→Int)(i:Nat){need:Int}(h:0<need):dT f g (i+1) need=if f i=4∧bA f i=need - 1 then g i::dT f g i (need - 1)else dT f g i need:=by
 show(bif ilt 0 need then(bif ieq (f i) 4&&ieq (bA f i) (need - 1)then _ else _)else _)=_
 rw [bB,decide_eq_true h,cond_true]
 by_cases e:f i=4∧bA f i=need - 1
 ·rw [if_pos e,e.1,e.2,bN,bN];rfl
 ·rw [if_neg e]
  have:(ieq (f i) 4&&ieq (bA f i) (need - 1))=false:=by
   cases q:(ieq (f i) 4&&ieq (bA f i) (need - 1))with
   | false=>rfl
   | true=>
     simp only [Bool.and_eq_true,bJ,beq_iff_eq]at q
     exact absurd q e
  rw [this];rfl
theorem qV{f g:Nat→Int} : ∀n,uE f n→ ∀need,0<need→need≤bA f n→ ∃x,dT f g n need=x::dT f g n (need - 1)
 | 0,_,need,h1,h2=>by
   have:bA f 0=0:=rfl
   omega
 | n+1,h,need,h1,h2=>by
   have hn:=fun j (hj:j<n)=>h j (by omega)
   have h0:=iX f n
   rw [qU f g n h1]
   rcases h n (by omega)with e | e
   ·rw [pK e]at h2
    by_cases q:bA f n=need - 1
    ·rw [if_pos ⟨e,q⟩]
     refine⟨g n,?_⟩
     by_cases z:need=1
     ·rw [z];rw [show(1:Int) - 1=0 by decide,jQ,jQ]
     ·rw [qU f g n (need:=need - 1) (by omega),if_neg (fun r=>by omega)]
    ·rw [if_neg (fun r=>q r.2)]
     obtain⟨x,hx⟩:=qV n hn need h1 (by omega)
     refine⟨x,?_⟩
     rw [hx]
     by_cases z:need=1
     ·rw [z];rw [show(1:Int) - 1=0 by decide,jQ,jQ]
     ·rw [qU f g n (need:=need - 1) (by omega),if_neg (fun r=>by omega)]
   ·rw [nF e]at h2
    have h3:need≤bA f n:=by split at h2<;>omega
    rw [if_neg (fun r=>by rw [e]at r;exact absurd r.1 (by decide))]
    obtain⟨x,hx⟩:=qV n hn need h1 h3
    refine⟨x,?_⟩
    rw [hx]
    by_cases z:need=1
    ·rw [z];rw [show(1:Int) - 1=0 by decide,jQ,jQ]
    ·rw [qU f g n (need:=need - 1) (by omega),if_neg (fun r=>by rw [e]at r;exact absurd r.1 (by decide))]
theorem AS{f g:Nat→Int}{n:Nat}(e:f n=4):i4 f g (n+1)=g n::i4 f g n:=by
 have h0:=iX f n
 unfold i4
 rw [pK e,qU f g n (by omega),if_pos ⟨e,by omega⟩]
 congr 2;omega
theorem wK{f g:Nat→Int}{n:Nat}(h:uE f n)(e:f n=5):i4 f g (n+1)=(i4 f g n).tail :=by
 have h0:=iX f n
 unfold i4
 rw [nF e]
 by_cases q:0<bA f n
 ·rw [if_pos q]
  obtain⟨x,hx⟩:=qV (g:=g) n h (bA f n) q (Int.le_refl _)
  rw [hx,List.tail_cons]
  by_cases z:bA f n=1
  ·rw [z];rw [show(1:Int) - 1=0 by decide,jQ,jQ]
  ·rw [qU f g n (need:=bA f n - 1) (by omega),if_neg (fun r=>by rw [e]at r;exact absurd r.1 (by decide))]
 ·rw [if_neg q,show bA f n=0 by omega,jQ,jQ];rfl
def Srt(u:List Int):Prop:=u.Pairwise (· < ·)
theorem pX{k:Int} : ∀ {u:List Int},Srt u→ ∀x∈u.dropWhile (cM k),k≤x
 | [],_,x,h=>by cases h
 | y::u,hs,x,h=>by
   have hs':=List.pairwise_cons.1 hs
   rw [List.dropWhile_cons]at h
   by_cases q:y<k
   ·rw [show cM k y=true from decide_eq_true q]at h
    exact pX hs'.2 x h
   ·rw [show cM k y=false from decide_eq_false q]at h
    simp only [Bool.false_eq_true,if_false]at h
    rcases List.mem_cons.1 h with e | e
    ·omega
    ·have:=hs'.1 x e;omega
theorem p9{k:Int} : ∀ {u:List Int},∀x∈u.takeWhile (cM k),x<k
 | [],x,h=>by cases h
 | y::u,x,h=>by
   rw [List.takeWhile_cons]at h
   cases q:cM k y with
   | true=>
     rw [q]at h
     simp only [if_true]at h
     rcases List.mem_cons.1 h with e | e
     ·rw [e];exact of_decide_eq_true q
     ·exact p9 x e
   | false=>rw [q]at h;cases h
theorem f8{k x:Int}(u:List Int):x∈u↔x∈u.takeWhile (cM k)∨x∈u.dropWhile (cM k):=by
 rw [←List.mem_append,List.takeWhile_append_dropWhile]
theorem A4{k:Int}{u:List Int}(h:Srt u):(u.dropWhile (cM k)).head? =some k↔k∈u:=by
 constructor
 ·intro q
  rw [f8 (k:=k)]
  right
  cases hd:u.dropWhile (cM k)with
  | nil=>rw [hd]at q;cases q
  | cons y v=>
    rw [hd]at q
    simp only [List.head?_cons,sI']at q
    rw [q];exact List.mem_cons_self ..
 ·intro q
  rcases(f8 (k:=k) u).1 q with e | e
  ·have:=p9 k e;omega
  ·have hs:Srt (u.dropWhile (cM k)):=h.sublist (List.dropWhile_sublist _)
   have hge:=pX (k:=k) h
   cases hd:u.dropWhile (cM k)with
   | nil=>rw [hd]at e;cases e
   | cons y v=>
     rw [hd]at e hs hge
     have hy:=hge y (List.mem_cons_self ..)
     rcases List.mem_cons.1 e with r | r
     ·rw [r];rfl
     ·have:=(List.pairwise_cons.1 hs).1 k r;omega
theorem PM{k:Int}{u:List Int}(h:Srt u)(hk:k∉u):Srt (u.takeWhile (cM k)++k::u.dropWhile (cM k)):=by
 have hs:Srt (u.dropWhile (cM k)):=h.sublist (List.dropWhile_sublist _)
 have ht:Srt (u.takeWhile (cM k)):=h.sublist (List.takeWhile_sublist _)
 refine List.pairwise_append.2 ⟨ht,List.pairwise_cons.2 ⟨fun x hx=>?_,hs⟩,fun a ha b hb=>?_⟩
 ·have:=pX h x hx
  have:x≠k:=by rintro rfl;exact hk ((f8 (k:=x) u).2 (.inr hx))
  omega
 ·have h1:=p9 a ha
  rcases List.mem_cons.1 hb with e | e
  ·omega
  ·have:=pX h b e;omega
theorem PL{k:Int}{u:List Int}(h:Srt u)(hk:k∈u):Srt (u.takeWhile (cM k)++(u.dropWhile (cM k)).tail)∧ ∀x,x∈u.takeWhile (cM k)++(u.dropWhile (cM k)).tail ↔x∈u∧x≠k:=by
 have hh:=(A4 h).2 hk
 have hs:Srt (u.dropWhile (cM k)):=h.sublist (List.dropWhile_sublist _)
 have ht:Srt (u.takeWhile (cM k)):=h.sublist (List.takeWhile_sublist _)
 have hm:=fun x=>f8 (k:=k) (x:=x) u
 cases hd:u.dropWhile (cM k)with
 | nil=>rw [hd]at hh;cases hh
 | cons y v=>
   rw [hd]at hh hs
   simp only [List.head?_cons,sI']at hh
   subst hh
   obtain⟨hs1,hs2⟩:=List.pairwise_cons.1 hs
   rw [List.tail_cons]
   constructor
   ·refine List.pairwise_append.2 ⟨ht,hs2,fun a ha b hb=>?_⟩
    have:=p9 a ha;have:=hs1 b hb;omega
   ·intro x
    rw [hm x,hd,List.mem_append,List.mem_cons]
    constructor
    ·rintro(q | q)
     ·exact⟨.inl q,by have:=p9 x q;omega⟩
     ·exact⟨.inr (.inr q),by have:=hs1 x q;omega⟩
    ·rintro⟨q | q | q,hne⟩
     ·exact .inl q
     ·exact absurd q hne
     ·exact .inr q
structure US (sh:Int) (LL:List (List Nd)) (f g:Nat→Int) (m:Nat):Prop where
 srt: ∀(h:Nat) (L:List Nd),LL[h]? =some L→Srt (uk L)
 rng: ∀(h:Nat) (L:List Nd),LL[h]? =some L→ ∀k∈uk L,(0≤k∧k≤999)∧(cI sh k).toNat =h
 mem: ∀(h:Nat) (L:List Nd),LL[h]? =some L→ ∀k,0≤k→k≤999→(cI sh k).toNat =h→(k∈uk L↔inF f g k m=true)
structure UR (sh:Int) (LL:List (List Nd)) (f g:Nat→Int) (m:Nat):Prop where
 eq:uk (LL.getD 0 [])=bG sh f g m
 rng: ∀k∈bG sh f g m,0≤k∧k≤999
 els: ∀(h:Nat) (L:List Nd),LL[h]? =some L→h≠0→L=[]
def Rp(sh:Int)(LL:List (List Nd))(f g:Nat→Int)(m:Nat):Prop:=((sh=1∨sh=2)∧US sh LL f g m)∨((sh=3∨sh=4)∧UR sh LL f g m)
def pQ(sh:Int)(f g:Nat→Int)(m:Nat):Prop:= ∀j,j<m→cO sh (f j) (g j)=true
theorem KD(f g:Nat→Int)(k:Int)(m:Nat):inF f g k (m+1)=bif ieq (g m) k&&ieq (f m) 1 then true else bif ieq (g m) k&&ieq (f m) 2 then false else inF f g k m:=rfl
theorem UV{LL:List (List Nd)}(h4:LL.length=4)(sh ky:Int):LL[(cI sh ky).toNat]? =some (dJ LL sh ky):=by
 have h:(cI sh ky).toNat <LL.length:=by rw [h4];exact AC _ _
 unfold dJ
 rw [gD',gE' h];rfl
theorem KK{sh kd ky:Int}(h:cO sh kd ky=true)(hs:sh=1∨sh=2):(kd=1∨kd=2∨kd=3)∧0≤ky∧ky≤999:=by
 have:=gC.1 h;omega
theorem nD{sh kd ky:Int}(h:cO sh kd ky=true)(hs:sh=3∨sh=4):(kd=4∨kd=5)∧0≤ky∧ky≤999:=by
 have:=gC.1 h;omega
theorem OV{sh kd ky:Int}(hs:sh=1∨sh=2):cT sh kd ky=ky:=by
 unfold cT
 rcases hs with e | e
 ·rw [e,dC (show(1:Int)≠2 by decide),bN];rfl
 ·rw [e,bN];rfl
theorem US.step{sh:Int}{LL:List (List Nd)}{f g:Nat→Int}{m:Nat}(hs:sh=1∨sh=2)(h4:LL.length=4)(r:US sh LL f g m)(hr:cO sh (f m) (g m)=true):
 (DO sh (f m) (g m) (uk (dJ LL sh (g m)))).1=resR sh f g m (f m) (g m)∧ ∀L',uk L'=(DO sh (f m) (g m) (uk (dJ LL sh (g m)))).2→US sh (LL.set (cI sh (g m)).toNat L') f g (m+1):=by
 obtain⟨hk,hy⟩:=KK hr hs
 have hat:=UV h4 sh (g m)
 have hsrt:=r.srt _ _ hat
 have hmem:=r.mem _ _ hat (g m) hy.1 hy.2 rfl
 have hhd:=A4 (k:=g m) hsrt
 generalize hu:uk (dJ LL sh (g m))=u at*
 have hin: ∀k,k≠g m→inF f g k (m+1)=inF f g k m:=by
  intro k hk
  rw [KD,dC (show g m≠k from fun e=>hk e.symm)];rfl
 have hrng:=r.rng _ _ hat
 rw [hu]at hrng
 have build: ∀u':List Int,Srt u'→(∀k∈u',k=g m∨k∈u)→(g m∈u'↔inF f g (g m) (m+1)=true)→(∀k,k≠g m→(k∈u'↔k∈u))→ ∀L',uk L'=u'→US sh (LL.set (cI sh (g m)).toNat L') f g (m+1):=by
  intro u' b1 b2 b3 b4 L' hL'
  refine⟨?_,?_,?_⟩
  ·intro h M hM
   rcases nJ hM with⟨rfl,rfl⟩ | ⟨hM,hne⟩
   ·rw [hL'];exact b1
   ·exact r.srt h M hM
  ·intro h M hM k hk
   rcases nJ hM with⟨rfl,rfl⟩ | ⟨hM,hne⟩
   ·rw [hL']at hk
    rcases b2 k hk with e | e
    ·rw [e];exact⟨hy,rfl⟩
    ·exact hrng k e
   ·exact r.rng h M hM k hk
  ·intro h M hM k k0 k9 hh
   rcases nJ hM with⟨rfl,rfl⟩ | ⟨hM,hne⟩
   ·rw [hL']
    by_cases e:k=g m
    ·rw [e];exact b3
    ·rw [b4 k e,hin k e]
     have:=r.mem _ _ hat k k0 k9 hh
     rw [hu]at this;exact this
   ·have hne2:k≠g m:=by rintro rfl;exact hne hh
    rw [hin k hne2]
    exact r.mem h M hM k k0 k9 hh
 have e12:(2:Int)≠1:=by decide
 unfold DO resR
 rw [OV hs]
 rcases hk with e | e | e
 ·
  have i1:inF f g (g m) (m+1)=true:=by rw [KD,e,bN,bN];rfl
  simp only [e,if_neg (show¬(1:Int)=4 by decide),if_true,bN,cond_true]
  by_cases q:g m∈u
  ·rw [if_pos (hhd.2 q),hmem.1 q]
   exact⟨rfl,build u hsrt (fun k h=>.inr h) ⟨fun _=>i1,fun _=>q⟩ (fun k _=>Iff.rfl)⟩
  ·rw [if_neg (fun h=>q (hhd.1 h))]
   have q2:inF f g (g m) m=false:=by
    cases z:inF f g (g m) m with
    | false=>rfl
    | true=>exact absurd (hmem.2 z) q
   rw [q2]
   refine⟨rfl,build _ (PM hsrt q) (fun k h=>?_) ⟨fun _=>i1,fun _=>by simp⟩ (fun k hk=>?_)⟩
   ·rcases List.mem_append.1 h with z | z
    ·exact .inr ((f8 u).2 (.inl z))
    ·rcases List.mem_cons.1 z with z | z
     ·exact .inl z
     ·exact .inr ((f8 u).2 (.inr z))
   ·rw [List.mem_append,List.mem_cons,f8 (k:=g m) u]
    constructor
    ·rintro(z | z | z)
     ·exact .inl z
     ·exact absurd z hk
     ·exact .inr z
    ·rintro(z | z)
     ·exact .inl z
     ·exact .inr (.inr z)
 ·
  have i1:inF f g (g m) (m+1)=false:=by rw [KD,e,bN,dC e12,bN];rfl
  simp only [e,if_neg (show¬(2:Int)=4 by decide),if_neg (show¬(2:Int)=1 by decide),if_true,dC e12,bN,cond_false,Bool.true_or,cond_true]
  by_cases q:g m∈u
  ·obtain⟨d1,d2⟩:=PL hsrt q
   rw [if_pos (hhd.2 q),hmem.1 q]
   refine⟨rfl,build _ d1 (fun k h=>.inr ((d2 k).1 h).1) ⟨fun h=>absurd rfl ((d2 _).1 h).2,fun h=>by rw [i1]at h;cases h⟩ (fun k hk=>⟨fun h=>((d2 k).1 h).1,fun h=>(d2 k).2 ⟨h,hk⟩⟩)⟩
  ·rw [if_neg (fun h=>q (hhd.1 h))]
   have q2:inF f g (g m) m=false:=by
    cases z:inF f g (g m) m with
    | false=>rfl
    | true=>exact absurd (hmem.2 z) q
   rw [q2]
   exact⟨rfl,build u hsrt (fun k h=>.inr h) ⟨fun h=>absurd h q,fun h=>by rw [i1]at h;cases h⟩ (fun k _=>Iff.rfl)⟩
 ·
  have i1:inF f g (g m) (m+1)=inF f g (g m) m:=by rw [KD,e,bN,dC (show(3:Int)≠1 by decide),dC (show(3:Int)≠2 by decide)];rfl
  simp only [e,if_neg (show¬(3:Int)=4 by decide),if_neg (show¬(3:Int)=1 by decide),if_neg (show¬(3:Int)=2 by decide),if_true,dC (show(3:Int)≠1 by decide),dC (show(3:Int)≠2 by decide),bN,cond_false,Bool.false_or,cond_true]
  refine⟨?_,build u hsrt (fun k h=>.inr h) (by rw [i1];exact hmem) (fun k _=>Iff.rfl)⟩
  by_cases q:g m∈u
  ·rw [decide_eq_true (hhd.2 q),hmem.1 q]
  ·rw [decide_eq_false (fun h=>q (hhd.1 h))]
   cases z:inF f g (g m) m with
   | false=>rfl
   | true=>exact absurd (hmem.2 z) q
theorem wJ{p:Int→Bool} : ∀ {u:List Int},(∀x∈u,p x=true)→u.takeWhile p=u∧u.dropWhile p=[]
 | [],_=>⟨rfl,rfl⟩
 | x::u,h=>by
   have hx:=h x (List.mem_cons_self ..)
   obtain⟨h1,h2⟩:=wJ (u:=u) (fun y hy=>h y (List.mem_cons_of_mem _ hy))
   rw [List.takeWhile_cons,List.dropWhile_cons,hx]
   exact⟨by simp only [if_true,h1],by simp only [if_true,h2]⟩
theorem UR.step{sh:Int}{LL:List (List Nd)}{f g:Nat→Int}{m:Nat}(hs:sh=3∨sh=4)(h4:LL.length=4)(r:UR sh LL f g m)(ho:pQ sh f g m)(hr:cO sh (f m) (g m)=true):
 (DO sh (f m) (g m) (uk (dJ LL sh (g m)))).1=resR sh f g m (f m) (g m)∧ ∀L',uk L'=(DO sh (f m) (g m) (uk (dJ LL sh (g m)))).2→UR sh (LL.set (cI sh (g m)).toNat L') f g (m+1):=by
 obtain⟨hk,hy⟩:=nD hr hs
 have hb:uE f m:=fun j hj=>(nD (ho j hj) hs).1
 have hh:(cI sh (g m)).toNat =0:=by
  unfold cI
  rw [dC (show sh≠2 by omega)];rfl
 have hl:dJ LL sh (g m)=LL.getD 0 []:=by unfold dJ;rw [hh]
 rw [hl,hh,r.eq]
 have hrng:=r.rng
 have h0:0<LL.length:=by omega
 have build: ∀L',uk L'=bG sh f g (m+1)→(∀k∈bG sh f g (m+1),0≤k∧k≤999)→UR sh (LL.set 0 L') f g (m+1):=by
  intro L' h1 h2
  refine⟨?_,h2,?_⟩
  ·rw [gD',List.getElem?_set_self h0];exact h1
  ·intro h M hM hne
   rcases nJ hM with⟨rfl,rfl⟩ | ⟨hM,_⟩
   ·exact absurd rfl hne
   ·exact r.els h M hM hne
 have hall: ∀k∈bG sh f g m,cM 1024 k=true:=fun k hk=>decide_eq_true (by have:=hrng k hk;omega)
 have hnone: ∀k∈bG sh f g m,cM (-1) k=false:=fun k hk=>decide_eq_false (by have:=hrng k hk;omega)
 obtain⟨t1,t2⟩:=wJ hall
 have t3:(bG sh f g m).takeWhile (cM (-1))=[]∧(bG sh f g m).dropWhile (cM (-1))=bG sh f g m:=by
  cases hq:bG sh f g m with
  | nil=>exact⟨rfl,rfl⟩
  | cons x v=>
    have:=hnone x (by rw [hq];exact List.mem_cons_self ..)
    rw [List.takeWhile_cons,List.dropWhile_cons,this];exact⟨rfl,rfl⟩
 unfold DO resR
 have n14: ∀(kd:Int),kd=4∨kd=5→ieq kd 1=false∧ieq kd 2=false∧ieq kd 3=false:=fun kd h=>⟨dC (by omega),dC (by omega),dC (by omega)⟩
 obtain⟨n1,n2,n3⟩:=n14 _ hk
 rw [n1,n2,n3]
 simp only [Bool.false_or,cond_false]
 rcases hk with e | e
 ·
  simp only [e,if_true,bN,cond_true]
  rcases hs with rfl | rfl
  ·have hkey:cT 3 4 (g m)=1024:=rfl
   rw [hkey,t1,t2]
   refine⟨by trivial,fun L' h=>?_⟩
   have hi:bG 3 f g (m+1)=bG 3 f g m++ [g m]:=AJ hb e
   refine build L' (by rw [h,hi]) (fun k hk=>?_)
   rw [hi]at hk
   rcases List.mem_append.1 hk with z | z
   ·exact hrng k z
   ·rw [List.mem_singleton.1 z];exact hy
  ·have hkey:cT 4 4 (g m)= -1:=rfl
   rw [hkey,t3.1,t3.2]
   refine⟨by trivial,fun L' h=>?_⟩
   have hi:bG 4 f g (m+1)=g m::bG 4 f g m:=AS e
   refine build L' (by rw [h,hi];rfl) (fun k hk=>?_)
   rw [hi]at hk
   rcases List.mem_cons.1 hk with z | z
   ·rw [z];exact hy
   ·exact hrng k z
 ·
  have hkey:cT sh 5 (g m)= -1:=by rcases hs with rfl | rfl<;>rfl
  have hi:bG sh f g (m+1)=(bG sh f g m).tail :=by
   rcases hs with rfl | rfl
   ·exact wB hb e
   ·exact wK hb e
  simp only [e,if_neg (show¬(5:Int)=4 by decide),if_neg (show¬(5:Int)=1 by decide),if_neg (show¬(5:Int)=2 by decide),if_neg (show¬(5:Int)=3 by decide),dC (show(5:Int)≠4 by decide),cond_false,hkey,t3.1,t3.2]
  have hr2: ∀k∈bG sh f g (m+1),0≤k∧k≤999:=fun k hk=>by rw [hi]at hk;exact hrng k (List.mem_of_mem_tail hk)
  cases hq:bG sh f g m with
  | nil=>
    refine⟨rfl,fun L' h=>build L' ?_ hr2⟩
    rw [hi,hq];exact h
  | cons x v=>
    refine⟨rfl,fun L' h=>build L' ?_ hr2⟩
    rw [hi,hq];exact h
theorem Rp.step{sh:Int}{LL:List (List Nd)}{f g:Nat→Int}{m:Nat}(h4:LL.length=4)(r:Rp sh LL f g m)(ho:pQ sh f g m)(hr:cO sh (f m) (g m)=true):
 (DO sh (f m) (g m) (uk (dJ LL sh (g m)))).1=resR sh f g m (f m) (g m)∧ ∀L',uk L'=(DO sh (f m) (g m) (uk (dJ LL sh (g m)))).2→Rp sh (LL.set (cI sh (g m)).toNat L') f g (m+1):=by
 rcases r with⟨hs,r⟩ | ⟨hs,r⟩
 ·obtain⟨h1,h2⟩:=r.step hs h4 hr
  exact⟨h1,fun L' h=>.inl ⟨hs,h2 L' h⟩⟩
 ·obtain⟨h1,h2⟩:=r.step hs h4 ho hr
  exact⟨h1,fun L' h=>.inr ⟨hs,h2 L' h⟩⟩
theorem DQ{t n:Int}{a:ENS×STS×MS}{d:Bool}{b:ENS×STS×MS}(h:NM t n a=(d,b)):(enF t n a.1 a.2.1 a.2.2).d =d∧((enF t n a.1 a.2.1 a.2.2).e,(enF t n a.1 a.2.1 a.2.2).st,(enF t n a.1 a.2.1 a.2.2).s)=b:=by
 unfold NM at h
 rw [pI']at h
 exact h
theorem D6{t n:Int}{a:FTS×STS×MS}{d:Bool}{b:FTS×STS×MS}(h:ftG t n a=(d,b)):(ftF t n a.1 a.2.1 a.2.2).d =d∧((ftF t n a.1 a.2.1 a.2.2).x,(ftF t n a.1 a.2.1 a.2.2).st,(ftF t n a.1 a.2.1 a.2.2).s)=b:=by
 unfold ftG at h
 rw [pI']at h
 exact h
theorem Act1.bnd{t n:Int}{s s':MS}(h:Act1 s s')(hb:w7 t n s)(hc:s.c+1≤900000):w7 t n s':=⟨hb.ht,hb.hn,by have:=hb.hc;rw [h.c];omega,h.w hb.hw⟩
theorem vT{t n:Int}{z:ENS×STS×MS} : ∀(i:Nat) (a c:ENS×STS×MS) (b:Int) (N:Nat),lH (NM t n) i a c→NM t n c=(true,z)→i+1≤N→w7 t n a.2.2→a.2.2.c+i+1≤900000→U4 t n b a.1→stW b a.2.1→b+i+1≤900000→
 oX t n N a.1 a.2.1 a.2.2∧rT t n N a.1 a.2.1 a.2.2=(true,z)
 | 0,a,c,b,N+1,h,hz,hN,hb,hc,hx,hst,hbb=>by
   cases h
   obtain⟨h1,h2⟩:=DQ hz
   have ok:=JE hb hx hst (by omega)
   refine⟨⟨ok,fun q=>by rw [h1]at q;cases q⟩,?_⟩
   show(bif (enF t n a.1 a.2.1 a.2.2).d then _ else _)=_
   rw [h1,cond_true,←h2]
 | i+1,a,c,b,N+1,h,hz,hN,hb,hc,hx,hst,hbb=>by
   cases h with
   | cons e g=>
     obtain⟨h1,h2⟩:=DQ e
     have ok:=JE hb hx hst (by omega)
     have wv:=RN hb hx hst
     have hb':=wv.a.bnd hb (by omega)
     have ih:=vT i _ c (b+1) N g hz (by omega) (by rw [←h2];exact hb') (by rw [←h2];show(enF t n a.1 a.2.1 a.2.2).s.c +_+_≤_;rw [wv.a.c];omega) (by rw [←h2];exact wv.w h1) (by rw [←h2];exact wv.st) (by omega)
     rw [←h2]at ih
     refine⟨⟨ok,fun _=>ih.1⟩,?_⟩
     show(bif (enF t n a.1 a.2.1 a.2.2).d then _ else _)=_
     rw [h1,cond_false]
     exact ih.2
 | i,a,c,b,0,h,hz,hN,hb,hc,hx,hst,hbb=>by omega
theorem v9{t n:Int}{z:FTS×STS×MS} : ∀(i:Nat) (a c:FTS×STS×MS) (b:Int) (N:Nat),lH (ftG t n) i a c→ftG t n c=(true,z)→i+1≤N→w7 t n a.2.2→a.2.2.c+i+1≤900000→SI t b a.2.1 a.1→stW b a.2.1→b+i+1≤900000→
 pC t n N a.1 a.2.1 a.2.2∧l6 t n N a.1 a.2.1 a.2.2=z
 | 0,a,c,b,N+1,h,hz,hN,hb,hc,hx,hst,hbb=>by
   cases h
   obtain⟨h1,h2⟩:=D6 hz
   have ok:=J3 hb hx hst (by omega)
   refine⟨⟨ok,fun q=>by rw [h1]at q;cases q⟩,?_⟩
   show(bif (ftF t n a.1 a.2.1 a.2.2).d then _ else _)=_
   rw [h1,cond_true,←h2]
 | i+1,a,c,b,N+1,h,hz,hN,hb,hc,hx,hst,hbb=>by
   cases h with
   | cons e g=>
     obtain⟨h1,h2⟩:=D6 e
     have ok:=J3 hb hx hst (by omega)
     have wv:=SL hb hx hst (by omega)
     have hb':=wv.a.bnd hb (by omega)
     have ih:=v9 i _ c (b+1) N g hz (by omega) (by rw [←h2];exact hb') (by rw [←h2];show(ftF t n a.1 a.2.1 a.2.2).s.c +_+_≤_;rw [wv.a.c];omega) (by rw [←h2];exact wv.w h1) (by rw [←h2];exact wv.st) (by omega)
     rw [←h2]at ih
     refine⟨⟨ok,fun _=>ih.1⟩,?_⟩
     show(bif (ftF t n a.1 a.2.1 a.2.2).d then _ else _)=_
     rw [h1,cond_false]
     exact ih.2
 | i,a,c,b,0,h,hz,hN,hb,hc,hx,hst,hbb=>by omega
theorem QL.stw{t n:Int}{xs:List Int}{LL:List (List Nd)}{S:List STS}(q:QL t n xs LL S){i:Nat}{st:STS}(hS:S[i]? =some st):stW 500 st:=by
 obtain⟨h1,h2,_⟩:=sY q hS
 have hm:=q.me i st hS
 have hn:=q.hn
 have ht:=q.ht
 refine⟨by omega,fun r hr=>by have:=h2 r (IB hr);omega,?_⟩
 have:=i3 (by omega) (MN h1) (fun r hr=>h2 r (IB hr))
 omega
theorem QL.bnd{t n:Int}{LL:List (List Nd)}{S:List STS}{s:MS}(q:QL t n s.xs LL S)(hc:0≤s.c∧s.c≤900000):w7 t n s:=⟨q.ht,⟨q.hn.1,by have:=q.hn;omega⟩,hc,q.okw⟩
theorem KO{LL:List (List Nd)}{S:List STS}{h i:Nat}{L L':List Nd}{st st':STS}(hL:LL[h]? =some L)(hS:S[i]? =some st):(allN (LL.set h L') (S.set i st')).length +((L.map Nd.a).length +(bD st.sp st.R).length)=(allN LL S).length +((L'.map Nd.a).length +(bD st'.sp st'.R).length):=by
 have p0:=(fI (fun L:List Nd=>L.map Nd.a) LL h L hL).length_eq
 have p1:=(iT (fun L:List Nd=>L.map Nd.a) LL h L' (iU hL)).length_eq
 have q0:=(fI (fun st:STS=>bD st.sp st.R) S i st hS).length_eq
 have q1:=(iT (fun st:STS=>bD st.sp st.R) S i st' (iU hS)).length_eq
 unfold allN
 simp only [List.length_append]at p0 p1 q0 q1⊢
 omega
theorem G4{LL:List (List Nd)}{S:List STS}{i:Nat}{st st':STS}(hS:S[i]? =some st):(allN LL (S.set i st')).length +(bD st.sp st.R).length =(allN LL S).length +(bD st'.sp st'.R).length :=by
 have q0:=(fI (fun st:STS=>bD st.sp st.R) S i st hS).length_eq
 have q1:=(iT (fun st:STS=>bD st.sp st.R) S i st' (iU hS)).length_eq
 unfold allN
 simp only [List.length_append]at q0 q1⊢
 omega
theorem N8{t n:Int}{xs:List Int}{LL:List (List Nd)}{S:List STS}(q:QL t n xs LL S)(h:((allN LL S).length :Int)<n): ∃b,(1≤b∧b≤n)∧d9 n xs b=false:=by
 apply Classical.byContradiction
 intro hno
 have hall: ∀b,1≤b∧b≤n→b∈allN LL S:=by
  intro b hb
  refine(q.tk b hb).1 ?_
  cases z:d9 n xs b with
  | true=>rfl
  | false=>exact absurd ⟨b,hb,z⟩ hno
 have nd:((List.range n.toNat).map fun i:Nat=>(i:Int)+1).Nodup :=by
  rw [List.nodup_iff_pairwise_ne,List.pairwise_map]
  exact List.Pairwise.imp (fun {a b} h=>by omega) (List.nodup_iff_pairwise_ne.1 List.nodup_range)
 have:=kD _ _ nd (fun b hb=>by
  obtain⟨i,hi,rfl⟩:=List.mem_map.1 hb
  exact hall _ (by have:=List.mem_range.1 hi;omega))
 rw [List.length_map,List.length_range]at this
 omega
theorem pW{α:Type} : ∀ {l:List α} {i:Nat} {x:α},l[i]? =some x→l.set i x=l
 | [],i,x,h=>rfl
 | y::l,0,x,h=>by simp at h;rw [h];rfl
 | y::l,i+1,x,h=>by
   rw [List.set_cons_succ,pW (l:=l) (by simpa using h)]
theorem NL(t n b:Int):U4 t n b dENS:=trivial
theorem R8{t n most:Int}{sh kd ky:Int}{LL:List (List Nd)}{S:List STS}{s:MS}{i:Nat}{st:STS}(q:QL t n s.xs LL S)(hS:S[i]? =some st)(hr:cO sh kd ky=true)(hmo:0≤most)
 (hc:0≤s.c∧s.c≤800000) (hfree:bT kd=true→st.sp=0→((allN LL S).length :Int)<n):
 t8 t n most 20000 [sh,kd,ky] st s∧ ∃x st' s' L',frX t n most 20000 [sh,kd,ky] st s=(x,st',s')∧(x.code=0∧x.failed=false∧(x.okk,x.val)=(DO sh kd ky (uk (dJ LL sh ky))).1)∧
  QL t n s'.xs (LL.set (cI sh ky).toNat L') (S.set i st')∧uk L'=(DO sh kd ky (uk (dJ LL sh ky))).2∧(s.c≤s'.c∧s'.c≤s.c+6000)∧s'.t=s.t∧s'.n=s.n∧((allN (LL.set (cI sh ky).toNat L') (S.set i st')).length :Int)≤(allN LL S).length +1:=by
 have hn:=q.hn
 have pre: ∃st1 s1,P8 t n 20000 kd st s∧frE t n 20000 kd st s=(st1,s1)∧QL t n s1.xs LL (S.set i st1)∧(bT kd=true→st1.sp≠0)∧(s.c≤s1.c∧s1.c≤s.c+501)∧s1.t=s.t∧s1.n=s.n∧((allN LL (S.set i st1)).length :Int)≤(allN LL S).length +1:=by
  by_cases hl:bT kd=true∧st.sp=0
  ·obtain⟨b0,hb0,hf0⟩:=N8 q (hfree hl.1 hl.2)
   obtain⟨j,b,z,s1,⟨j',c,hj,g1,g2⟩,h2,h3,h4,h5,h6,h7,h8,h9⟩:=JF (t:=t) (e:=dENS) (st:=st) (s:=s) rfl hl.2 q.mc hb0 hf0
   obtain⟨r1,r2⟩:=vT j' (dENS,st,s) c 500 20000 g1 g2 (by omega) (q.bnd (by omega)) (by show s.c+_+_≤_;omega) (NL _ _ _) (q.stw hS) (by omega)
   refine⟨{st with sp:=b},s1,fun _ _=>r1,?_,by rw [h5];exact q.take hS hl.2 h2 h3,fun _=>by show b≠0;omega,by rw [h6];omega,h7,h8,?_⟩
   ·unfold frE
    rw [hl.1,hl.2]
    show(rT t n 20000 dENS st s).2.2=_
    rw [r2]
   ·have:=G4 (LL:=LL) (st':= {st with sp:=b}) hS
    rw [hl.2,CK,l9 (show b≠0 by omega)]at this
    simp only [List.length_cons]at this
    omega
  ·refine⟨st,s,fun a b=>absurd ⟨a,b⟩ hl,?_,?_,fun a b=>hl ⟨a,b⟩,by omega,rfl,rfl,?_⟩
   ·unfold frE
    have:(bT kd&&ieq st.sp 0)=false:=by
     cases q1:(bT kd&&ieq st.sp 0)with
     | false=>rfl
     | true=>
       simp only [Bool.and_eq_true,bJ,beq_iff_eq]at q1
       exact absurd q1 hl
    rw [this];rfl
   ·rw [pW hS];exact q
   ·rw [pW hS];omega
 obtain⟨st1,s1,p1,p2,p3,p4,p5,p6,p7,p8⟩:=pre
 have hS1:(S.set i st1)[i]? =some st1:=List.getElem?_set_self (iU hS)
 have lc:=p3.lc sh ky hS1
 have hL1:=p3.at sh ky
 obtain⟨j,s2,fa,hz⟩:=CC (t:=t) (sh:=sh) (kd:=kd) (ky:=ky) (st:=st1) (s:=s1) hr lc (fun hk=>by
  have h0:=p4 hk
  have hm:st1.sp∈bD st1.sp st1.R:=by rw [l9 h0];exact List.mem_cons_self ..
  have:=(sY p3 hS1).2.1 _ hm
  exact⟨this.1,this.2,qO p3 hS1 hL1 _ hm⟩)
 obtain⟨z,⟨j',c,hj,g1,g2⟩,z1,z2,z3,z4,z5⟩:=hz most hmo
 have hst1:=p3.stw hS1
 have hlen:=lc.ln
 have hlim:=fa.lim
 have hst0:(ftNF t n sh kd ky most st1).2=st1:=SD (t:=t) sh kd ky most ⟨hn.1,by omega⟩ hst1
 obtain⟨r1,r2⟩:=v9 j' ((ftNF t n sh kd ky most st1).1,st1,s1) c 500 20000 g1 g2 (by omega) (p3.bnd (by omega)) (by show s1.c+_+_≤_;omega) (VB sh kd ky most ⟨hn.1,by omega⟩ hst1) hst1 (by omega)
 have hx:frX t n most 20000 [sh,kd,ky] st s=(z,tS sh kd ky (dJ LL sh ky) st1,s2):=by
  unfold frX
  show l6 t n 20000 (ftNF t n sh kd ky most (frE t n 20000 kd st s).1).1 (ftNF t n sh kd ky most (frE t n 20000 kd st s).1).2 (frE t n 20000 kd st s).2=_
  rw [p2]
  show l6 t n 20000 (ftNF t n sh kd ky most st1).1 (ftNF t n sh kd ky most st1).2 s1=_
  rw [hst0]
  exact r2
 obtain⟨k1,k2,k3⟩:=F4 sh kd ky st1.sp (dJ LL sh ky)
 refine⟨⟨p1,?_,?_⟩,z,tS sh kd ky (dJ LL sh ky) st1,s2,tR sh kd ky st1.sp (dJ LL sh ky),hx,⟨z1,z4,by rw [z2,z3,k1,k2]⟩,?_,k3,?_,fa.t.trans p6,fa.n.trans p7,?_⟩
 ·show pD t n sh kd ky most (frE t n 20000 kd st s).1
  rw [p2]
  exact OC sh kd ky most ⟨hn.1,by omega⟩ hst1
 ·show pC t n 20000 (ftNF t n sh kd ky most (frE t n 20000 kd st s).1).1 (ftNF t n sh kd ky most (frE t n 20000 kd st s).1).2 (frE t n 20000 kd st s).2
  rw [p2]
  show pC t n 20000 (ftNF t n sh kd ky most st1).1 (ftNF t n sh kd ky most st1).2 s1
  rw [hst0]
  exact r1
 ·have:=p3.fast (sh:=sh) (kd:=kd) (ky:=ky) hS1 p4 fa
  rw [List.set_set]at this
  exact this
 ·rw [fa.c];omega
 ·have:=KO (L':=tR sh kd ky st1.sp (dJ LL sh ky)) (st':=tS sh kd ky (dJ LL sh ky) st1) hL1 hS1
  rw [List.set_set]at this
  have pf:=(vW (sh:=sh) (kd:=kd) (ky:=ky) (L:=dJ LL sh ky) (st:=st1) p4).length_eq
  simp only [List.length_append]at pf
  omega
def WW(n me:Int)(s s':MS):Prop:= ∀a,2*n+5≤a→a≠2*n+5+2*me→a≠2*n+5+2*me+1→aA s'.xs a=aA s.xs a
theorem WW.trans{n me:Int}{a b c:MS}(h:WW n me a b)(g:WW n me b c):WW n me a c:=fun x h1 h2 h3=>(g x h1 h2 h3).trans (h x h1 h2 h3)
def UM(LL:List (List Nd)):Prop:= ∀L∈LL,∀b∈L,b.m=false
theorem UM.set{LL:List (List Nd)}(h:UM LL){i:Nat}{L:List Nd}(hL: ∀b∈L,b.m=false):UM (LL.set i L):=by
 intro M hM
 rcases List.mem_or_eq_of_mem_set hM with e | e
 ·exact h M e
 ·rw [e];exact hL
theorem UM.at{LL:List (List Nd)}(h:UM LL){i:Nat}{L:List Nd}(hL:LL[i]? =some L): ∀b∈L,b.m=false:=h L (List.mem_of_getElem? hL)
theorem QH{n:Int}{xs:List Int} : ∀(L:List Nd) (a:Int) (k:Nat) (out:List Int),ch n xs a L→(L.map Nd.a).Nodup →(∀b∈L.map Nd.a,b∉out)→L.length<k→qR xs n k (nxW (aA xs a)) out=out++L.map Nd.a
 | [],a,k+1,out,h,_,_,_=>by
   have h:nxW (aA xs a)=0:=h
   show(bif bC n (nxW (aA xs a))then _ else out)=_
   have:bC n (nxW (aA xs a))=false:=by
    rw [h];unfold bC;rw [bV];rfl
   rw [this];simp
 | b::L,a,k+1,out,h,nd,ho,hk=>by
   obtain⟨h1,h2,h3,h4,h5,h6⟩:=h
   have nd:=List.nodup_cons.1 nd
   show(bif bC n (nxW (aA xs a))then bif !hasB out (nxW (aA xs a))then qR xs n k (nxW (aA xs (nxW (aA xs a)))) (out++ [nxW (aA xs a)])else out else out)=_
   rw [h1,iZ.2 h2]
   have hb:hasB out b.a=false:=by
    cases q:hasB out b.a with
    | false=>rfl
    | true=>exact absurd (f0.1 q) (ho b.a (by simp))
   rw [hb]
   simp only [Bool.not_false,cond_true]
   rw [QH L b.a k (out++ [b.a]) h6 nd.2 (fun c hc hh=>?_) (by simpa using hk)]
   ·simp
   ·rcases List.mem_append.1 hh with e | e
    ·exact ho c (by rw [List.map_cons];exact List.mem_cons_of_mem _ hc) e
    ·rw [List.mem_singleton.1 e]at hc;exact nd.1 hc
theorem mB{t n:Int}{xs:List Int}{LL:List (List Nd)}{S:List STS}(q:QL t n xs LL S){h:Nat}{L:List Nd}(hL:LL[h]? =some L):ndF xs n h=L.map Nd.a:=by
 obtain⟨d1,d2,_⟩:=jG q hL
 have hn:=q.hn
 have:=i3 (by omega) d1 d2
 rw [List.length_map]at this
 unfold ndF
 have:=QH L (n+1+h) (n.toNat+1) [] (q.hd h L hL).1 d1 (fun _ _ h=>by cases h) (by omega)
 simpa using this
theorem AG{n:Int}{xs:List Int} : ∀(L:List Nd) (a:Int),ch n xs a L→kyL xs (L.map Nd.a)=uk L
 | [],a,_=>rfl
 | b::L,a,h=>by
   obtain⟨h1,h2,h3,h4,h5,h6⟩:=h
   have ih:=AG L b.a h6
   have h4:ieq (aB (aA xs b.a) 19 1) 1=b.m:=h4
   have h3:aB (aA xs b.a) 0 10=b.k:=h3
   rw [sO,←ih]
   unfold kyL
   rw [List.map_cons,List.filter_cons,h4]
   cases b.m
   ·simp [h3]
   ·simp
theorem sV{t n:Int}{xs:List Int}{LL:List (List Nd)}{S:List STS}(q:QL t n xs LL S){h:Nat}{L:List Nd}(hL:LL[h]? =some L):keyF xs n h=uk L:=by
 unfold keyF
 rw [mB q hL]
 exact AG L _ (q.hd h L hL).1
theorem UT{x:Int}(h:0≤x∧x≤1000000):W x=x:=cE ⟨by omega,by omega⟩
theorem IX: ∀(ks:List Int) (m:List (Int×Int)),ks.Nodup→(∀k∈ks,mget m k=none)→(∀k v,mget m k=some v→v=1)→ ∀k,mget (fH ks m) k=if k∈ks then some 1 else mget m k
 | [],m,_,_,_,k=>by simp [fH]
 | a::ks,m,hn,h0,h1,k=>by
   have hn:=List.nodup_cons.1 hn
   have ha:=h0 a (List.mem_cons_self ..)
   have hv:W ((mget m a).getD 0+1)=1:=by rw [ha];exact UT ⟨by decide,by decide⟩
   show mget (fH ks (cH m a (W ((mget m a).getD 0+1)))) k=_
   rw [hv]
   rw [IX ks (cH m a 1) hn.2 (fun b hb=>by
    rw [f9,if_neg (by rintro rfl;exact hn.1 hb)];exact h0 b (List.mem_cons_of_mem _ hb)) (fun b v hv=>by
    rw [f9]at hv
    split at hv
    ·cases hv;rfl
    ·exact h1 b v hv) k,f9]
   by_cases e:k∈ks
   ·rw [if_pos e,if_pos (List.mem_cons_of_mem _ e)]
   ·rw [if_neg e]
    by_cases e2:k=a
    ·rw [if_pos e2,if_pos (by rw [e2];exact List.mem_cons_self ..)]
    ·rw [if_neg e2,if_neg (fun h=>(List.mem_cons.1 h).elim e2 e)]
theorem xH(a b:List Int): ∀m,fH (a++b) m=fH b (fH a m):=by
 induction a with
 | nil=>intro m;rfl
 | cons x a ih=>intro m;exact ih _
theorem LJ{m:List (Int×Int)}{p:Int→Bool}(hm: ∀k,mget m k=if p k=true then some 1 else none): ∀n,dV m n=((List.range n).map fun i:Nat=>(i:Int)).filter p
 | 0=>rfl
 | n+1=>by
   show dV m n++_=_
   rw [LJ hm n,List.range_succ,List.map_append,List.filter_append,hm]
   congr 1
   cases q:p (n:Int)with
   | true=>simp [q]
   | false=>simp [q]
theorem TT{m:List (Int×Int)}{p:Int→Bool}{N:Nat}(hm: ∀k,mget m k=if p k=true then some 1 else none)(hN:N=1000+24)(hout: ∀k:Int,999<k→p k=false):dV m N=((List.range 1000).map fun i:Nat=>(i:Int)).filter p:=by
 subst hN
 have e24:List.range (1000+24)=List.range 1000++(List.range 24).map (1000+ ·):=List.range_add
 rw [LJ hm (1000+24),e24,List.map_append,List.filter_append]
 have t1:(((List.range 24).map (1000+ ·)).map fun i:Nat=>(i:Int)).filter p=[]:=by
  refine List.filter_eq_nil_iff.2 (fun k hk=>?_)
  obtain⟨i,hi,rfl⟩:=List.mem_map.1 hk
  obtain⟨j,hj,rfl⟩:=List.mem_map.1 hi
  rw [hout _ (by omega)];decide
 rw [t1,List.append_nil]
theorem kI{u:List Int}(h:Srt u):u.Nodup:=by
 rw [List.nodup_iff_pairwise_ne]
 exact List.Pairwise.imp (fun {a b} h=>by omega) h
theorem z0{LL:List (List Nd)}(h:LL.length=4): ∃A B C D,LL=[A,B,C,D]:=by
 match LL,h with
 | [A,B,C,D],_=>exact⟨A,B,C,D,rfl⟩
theorem KI{t n:Int}{xs:List Int}{LL:List (List Nd)}{S:List STS}{sh:Int}{f g:Nat→Int}{m:Nat}(q:QL t n xs LL S)(r:Rp sh LL f g m):f7 xs n sh=bG sh f g m:=by
 obtain⟨A,B,C,D,rfl⟩:=z0 q.four
 have k0:=sV q (h:=0) (L:=A) rfl
 have k1:=sV q (h:=1) (L:=B) rfl
 have k2:=sV q (h:=2) (L:=C) rfl
 have k3:=sV q (h:=3) (L:=D) rfl
 unfold f7
 rcases r with⟨hs,r⟩ | ⟨hs,r⟩
 ·have hl:ilt 2 sh=false:=by rw [bB];exact decide_eq_false (by omega)
  rw [hl,cond_false]
  have e:cntM xs n=fH (uk A++(uk B++(uk C++uk D))) []:=by
   unfold cntM
   rw [show keyF xs n 3=uk D from k3,show keyF xs n 2=uk C from k2,show keyF xs n 1=uk B from k1,show keyF xs n 0=uk A from k0,xH,xH,xH]
  have rA:=r.rng 0 A rfl
  have rB:=r.rng 1 B rfl
  have rC:=r.rng 2 C rfl
  have rD:=r.rng 3 D rfl
  have nd:(uk A++(uk B++(uk C++uk D))).Nodup :=by
   refine List.nodup_append.2 ⟨kI (r.srt 0 A rfl),List.nodup_append.2 ⟨kI (r.srt 1 B rfl),List.nodup_append.2 ⟨kI (r.srt 2 C rfl),kI (r.srt 3 D rfl),?_⟩,?_⟩,?_⟩
   ·rintro a ha b hb rfl
    have:=(rC a ha).2;have:=(rD a hb).2;omega
   ·rintro a ha b hb rfl
    have h1:=(rB a ha).2
    rcases List.mem_append.1 hb with h | h
    ·have:=(rC a h).2;omega
    ·have:=(rD a h).2;omega
   ·rintro a ha b hb rfl
    have h1:=(rA a ha).2
    rcases List.mem_append.1 hb with h | h
    ·have:=(rB a h).2;omega
    ·rcases List.mem_append.1 h with h | h
     ·have:=(rC a h).2;omega
     ·have:=(rD a h).2;omega
  have hm: ∀k,mget (cntM xs n) k=if decide (k∈uk A++(uk B++(uk C++uk D)))=true then some 1 else none:=by
   intro k
   rw [e,IX _ [] nd (fun _ _=>rfl) (fun _ _ h=>by cases h) k]
   simp only [dT']
   rfl
  have hin: ∀k:Int,0≤k→k≤999→(decide (k∈uk A++(uk B++(uk C++uk D))))=inF f g k m:=by
   intro k h0 h9
   have hb:=c9 sh k
   have key:k∈uk A++(uk B++(uk C++uk D))↔inF f g k m=true:=by
    simp only [List.mem_append]
    have hc:(cI sh k).toNat =0∨(cI sh k).toNat =1∨(cI sh k).toNat =2∨(cI sh k).toNat =3:=by omega
    constructor
    ·rintro(h | h | h | h)
     ·exact(r.mem 0 A rfl k h0 h9 (rA k h).2).1 h
     ·exact(r.mem 1 B rfl k h0 h9 (rB k h).2).1 h
     ·exact(r.mem 2 C rfl k h0 h9 (rC k h).2).1 h
     ·exact(r.mem 3 D rfl k h0 h9 (rD k h).2).1 h
    ·intro h
     rcases hc with e | e | e | e
     ·exact .inl ((r.mem 0 A rfl k h0 h9 e).2 h)
     ·exact .inr (.inl ((r.mem 1 B rfl k h0 h9 e).2 h))
     ·exact .inr (.inr (.inl ((r.mem 2 C rfl k h0 h9 e).2 h)))
     ·exact .inr (.inr (.inr ((r.mem 3 D rfl k h0 h9 e).2 h)))
   cases z:inF f g k m with
   | true=>exact decide_eq_true (key.2 z)
   | false=>exact decide_eq_false (fun h=>by rw [key.1 h]at z;cases z)
  have hout: ∀k:Int,999<k→decide (k∈uk A++(uk B++(uk C++uk D)))=false:=by
   intro k hk
   refine decide_eq_false (fun h=>?_)
   simp only [List.mem_append]at h
   rcases h with h | h | h | h
   ·have:=(rA k h).1;omega
   ·have:=(rB k h).1;omega
   ·have:=(rC k h).1;omega
   ·have:=(rD k h).1;omega
  rw [TT hm (N:=1024) rfl hout]
  have hR:bG sh f g m=setF f g m:=by
   unfold bG
   rw [dC (show sh≠3 by omega),dC (show sh≠4 by omega),cond_false,cond_false]
  rw [hR]
  unfold setF
  refine List.filter_congr (fun k hk=>?_)
  obtain⟨i,hi,rfl⟩:=List.mem_map.1 hk
  exact hin _ (by omega) (by have:=List.mem_range.1 hi;omega)
 ·have hl:ilt 2 sh=true:=by rw [bB];exact decide_eq_true (by omega)
  rw [hl,cond_true]
  exact(show keyF xs n 0=uk A from k0).trans r.eq
theorem uW{t n:Int}{xs:List Int}{LL:List (List Nd)}{S:List STS}(q:QL t n xs LL S)(b:Int):cY xs n b=true↔b∈allN LL S:=by
 unfold cY
 have hw:=uJ q.okw (n+4+b)
 constructor
 ·intro h
  simp only [Bool.and_eq_true,bJ,beq_iff_eq]at h
  obtain⟨h1,h2⟩:=h
  have hb:=iZ.1 h1
  refine(q.tk b hb).1 ?_
  show oddB (aA xs (n+4+b))=true
  rw [mG hw.1,←Int.tmod_eq_emod_of_nonneg hw.1];exact h2
 ·intro h
  have hb:=q.rng b h
  have h2:=(q.tk b hb).2 h
  have h2:oddB (aA xs (n+4+b))=true:=h2
  rw [mG hw.1]at h2
  simp only [Bool.and_eq_true,bJ,beq_iff_eq]
  exact⟨iZ.2 hb,by rw [Int.tmod_eq_emod_of_nonneg hw.1];exact h2⟩
theorem KX(m:List (Int×Int))(k v:Int)(h:mget m k=none):(cH m k v).length =m.length+1:=by
 induction m with
 | nil=>rfl
 | cons x m ih=>
   unfold mget at h
   rw [List.find?_cons]at h
   by_cases e:x.1=k
   ·simp [e]at h
   ·have e2:(x.1 == k)=false:=by simpa using e
    rw [e2]at h
    show(if x.1=k then _ else _:List (Int×Int)).length =_
    rw [if_neg e]
    simp only [List.length_cons]
    rw [ih h]
theorem FH{xs:List Int}{n:Int} : ∀(bs:List Int) (m:List (Int×Int)),bs.Nodup→(∀b∈bs,mget m b=none∧cY xs n b=true)→ ∃m',fC xs n bs m=some m'∧m'.length=m.length+bs.length∧ ∀k,mget m' k=if k∈bs then some 1 else mget m k
 | [],m,_,_=>⟨m,rfl,by simp,fun k=>by simp⟩
 | b::bs,m,hn,h=>by
   have hn:=List.nodup_cons.1 hn
   obtain⟨h1,h2⟩:=h b (List.mem_cons_self ..)
   have hv:W ((mget m b).getD 0+1)=1:=by rw [h1];exact UT ⟨by decide,by decide⟩
   obtain⟨m',g1,g2,g3⟩:=FH bs (cH m b 1) hn.2 (fun c hc=>by
    have:=h c (List.mem_cons_of_mem _ hc)
    rw [f9,if_neg (by rintro rfl;exact hn.1 hc)]
    exact this)
   refine⟨m',?_,?_,fun k=>?_⟩
   ·show(bif ilt 1 (W ((mget m b).getD 0+1))|| !cY xs n b then none else fC xs n bs (cH m b (W ((mget m b).getD 0+1))))=_
    rw [hv,h2,show ilt 1 1=false by decide]
    exact g1
   ·rw [g2,KX m b 1 h1];simp only [List.length_cons];omega
   ·rw [g3,f9]
    by_cases e:k∈bs
    ·rw [if_pos e,if_pos (List.mem_cons_of_mem _ e)]
    ·rw [if_neg e]
     by_cases e2:k=b
     ·rw [if_pos e2,if_pos (by rw [e2];exact List.mem_cons_self ..)]
     ·rw [if_neg e2,if_neg (fun h=>(List.mem_cons.1 h).elim e2 e)]
theorem oZ{α:Type}(p:α→Bool): ∀l:List α,(l.filter p).length +(l.filter fun a=>!p a).length =l.length
 | []=>rfl
 | a::l=>by
   have:=oZ p l
   rw [List.filter_cons,List.filter_cons]
   cases p a<;>simp<;>omega
theorem JY{t n:Int}{xs:List Int}{LL:List (List Nd)}{S:List STS}(q:QL t n xs LL S):((allN LL S).length :Int)=n - (hU xs n).length :=by
 have hn:=q.hn
 let l:=((List.range n.toNat).map fun i:Nat=>(i:Int)+1)
 have hl:l.length=n.toNat:=by simp [l]
 have nd:l.Nodup:=by
  rw [List.nodup_iff_pairwise_ne,List.pairwise_map]
  exact List.Pairwise.imp (fun {a b} h=>by omega) (List.nodup_iff_pairwise_ne.1 List.nodup_range)
 have hs:=oZ (cY xs n) l
 have h1:(allN LL S).length ≤(l.filter (cY xs n)).length :=kD _ _ q.nd (fun b hb=>by
  have hr:=q.rng b hb
  exact List.mem_filter.2 ⟨List.mem_map.2 ⟨(b - 1).toNat,List.mem_range.2 (by omega),by omega⟩,(uW q b).2 hb⟩)
 have h2:(l.filter (cY xs n)).length ≤(allN LL S).length :=kD _ _ (nd.sublist (List.filter_sublist)) (fun b hb=>(uW q b).1 (List.mem_filter.1 hb).2)
 have h3:hU xs n=l.filter fun a=>!cY xs n a:=rfl
 rw [h3]
 omega
def selF(sh h:Int):Int→List Int→List Nd
 | _,[]=>[]
 | i,k::ks=>bif dB sh h k then selF sh h (i+1) ks else⟨i+1,k,false⟩::selF sh h (i+1) ks
theorem mM{sh h k:Int}(i:Int)(ks:List Int)(e:dB sh h k=true):selF sh h i (k::ks)=selF sh h (i+1) ks:=by
 show(bif dB sh h k then _ else _)=_
 rw [e];rfl
theorem mN{sh h k:Int}(i:Int)(ks:List Int)(e:dB sh h k=false):selF sh h i (k::ks)=⟨i+1,k,false⟩::selF sh h (i+1) ks:=by
 show(bif dB sh h k then _ else _)=_
 rw [e];rfl
theorem yJ(sh h:Int): ∀(xs:List Int) (i:Int),∀b∈selF sh h i xs,i+1≤b.a∧b.a≤i+xs.length∧b.m=false
 | [],i,b,hb=>by cases hb
 | k::ks,i,b,hb=>by
   have ih:=yJ sh h ks (i+1)
   have hl:((k::ks).length :Int)=ks.length+1:=by simp
   cases e:dB sh h k with
   | true=>
     rw [mM i ks e]at hb
     obtain⟨a1,a2,a3⟩:=ih b hb
     exact⟨by omega,by omega,a3⟩
   | false=>
     rw [mN i ks e]at hb
     rcases List.mem_cons.1 hb with q | q
     ·rw [q];exact⟨Int.le_refl _,by show i+1≤_;omega,rfl⟩
     ·obtain⟨a1,a2,a3⟩:=ih b q
      exact⟨by omega,by omega,a3⟩
theorem s7(sh h:Int)(xs:List Int)(i:Int): ∀b∈(selF sh h i xs).map Nd.a,i+1≤b∧b≤i+xs.length:=by
 intro b hb
 obtain⟨c,hc,rfl⟩:=List.mem_map.1 hb
 have:=yJ sh h xs i c hc
 omega
theorem rE(sh h:Int): ∀(xs:List Int) (i:Int),((selF sh h i xs).map Nd.a).Nodup
 | [],i=>List.nodup_nil
 | k::ks,i=>by
   cases e:dB sh h k with
   | true=>rw [mM i ks e];exact rE sh h ks (i+1)
   | false=>
     rw [mN i ks e,List.map_cons]
     refine List.nodup_cons.2 ⟨fun hb=>?_,rE sh h ks (i+1)⟩
     have:=s7 sh h ks (i+1) _ hb
     have h2:i+1+1≤i+1:=this.1
     omega
theorem rF(sh h:Int): ∀(xs:List Int) (i:Int),uk (selF sh h i xs)=xs.filter fun k=>!dB sh h k
 | [],i=>rfl
 | k::ks,i=>by
   cases e:dB sh h k with
   | true=>rw [mM i ks e,rF sh h ks (i+1),List.filter_cons,e];rfl
   | false=>
     rw [mN i ks e,sO,rF sh h ks (i+1),List.filter_cons,e];rfl
theorem s8(sh h:Int): ∀(xs:List Int) (i b:Int),b∈(selF sh h i xs).map Nd.a↔ ∃j:Nat,∃k,xs[j]? =some k∧b=i+j+1∧dB sh h k=false
 | [],i,b=>by
   constructor
   ·intro h;cases h
   ·rintro⟨j,k,h1,_⟩;simp at h1
 | k::ks,i,b=>by
   have ih:=s8 sh h ks (i+1) b
   have rest:(∃j:Nat,∃q,ks[j]? =some q∧b=i+1+j+1∧dB sh h q=false)→ ∃j:Nat,∃q,(k::ks)[j]? =some q∧b=i+j+1∧dB sh h q=false:=by
    rintro⟨j,q,h1,h2,h3⟩
    exact⟨j+1,q,by simpa using h1,by omega,h3⟩
   cases e:dB sh h k with
   | true=>
     rw [mM i ks e,ih]
     refine⟨rest,?_⟩
     rintro⟨j,q,h1,h2,h3⟩
     cases j with
     | zero=>
       have:k=q:=by simpa using h1
       rw [this,h3]at e;cases e
     | succ j=>exact⟨j,q,by simpa using h1,by omega,h3⟩
   | false=>
     rw [mN i ks e,List.map_cons,List.mem_cons,ih]
     constructor
     ·rintro(h1 | h1)
      ·exact⟨0,k,rfl,by rw [h1];show i+1=i+(0:Nat)+1;omega,e⟩
      ·exact rest h1
     ·rintro⟨j,q,h1,h2,h3⟩
      cases j with
      | zero=>left;rw [h2];show i+(0:Nat)+1=i+1;omega
      | succ j=>right;exact⟨j,q,by simpa using h1,by omega,h3⟩
structure W7 (sh h n i a ky:Int) (xs:List Int) (s s':MS):Prop where
 len:s'.xs.length=s.xs.length
 okw:okW s'.xs
 tt:s'.t=s.t
 nn:s'.n=s.n
 c:s.c≤s'.c∧s'.c≤s.c+1+2*xs.length
 ch:ch n s'.xs a (selF sh h i xs)
 ky:kyW (aA s'.xs a)=ky
 mk1:mkW (aA s'.xs a)=false
 cl:clW' (aA s'.xs a)=0
 life: ∀b∈(selF sh h i xs).map Nd.a,aA s'.xs (n+4+b)=1
 same: ∀x,x≠a→(∀b∈(selF sh h i xs).map Nd.a,x≠b∧x≠n+4+b)→aA s'.xs x=aA s.xs x
theorem xT{sh h n:Int}(hn:1≤n∧n≤500): ∀(xs:List Int) (i a ky vr:Int) (s:MS),okW s.xs→2*n+5≤(s.xs.length:Int)→0≤i→i+xs.length≤n→1≤a∧(a≤i∨n+1≤a∧a≤n+4)→0≤ky∧ky<1024→0≤vr∧vr<262144→(∀k∈xs,0≤k∧k<1024)→
 W7 sh h n i a ky xs s (eC sh h n xs i a ky vr s)
 | [],i,a,ky,vr,s,okw,hlen,hi,hin,ha,hk,hv,_=>by
   have ok:okF ky 0 0 vr:=⟨hk,by omega,by omega,hv⟩
   have hb:0≤a∧a<s.xs.length:=by omega
   have e:aA (s.stored a (aV ky 0 false 0 vr)).xs a=aV ky 0 false 0 vr:=eJ hb
   refine {len:=bZ _ _ _,okw:=eU okw (kX ok),tt:=rfl,nn:=rfl,c:=⟨?_,?_⟩,ch:=?_,ky:=?_,mk1:=?_,cl:=?_,life:=(fun b hb=>by cases hb),same:=fun x hx _=>cX hx}
   ·show s.c≤s.c+1;omega
   ·show s.c+1≤s.c+1+2*(([]:List Int).length :Int);simp
   ·show nxW (aA (s.stored a (aV ky 0 false 0 vr)).xs a)=0
    rw [e];exact rS ok
   ·show kyW (aA (s.stored a (aV ky 0 false 0 vr)).xs a)=ky
    rw [e];exact tM ok
   ·show mkW (aA (s.stored a (aV ky 0 false 0 vr)).xs a)=false
    rw [e];exact nQ ok
   ·show clW' (aA (s.stored a (aV ky 0 false 0 vr)).xs a)=0
    rw [e];exact oT ok
 | k::ks,i,a,ky,vr,s,okw,hlen,hi,hin,ha,hk,hv,hks=>by
   have hl:((k::ks).length :Int)=ks.length+1:=by simp
   have hks2: ∀q∈ks,0≤q∧q<1024:=fun q hq=>hks q (List.mem_cons_of_mem _ hq)
   have hk2:=hks k (List.mem_cons_self ..)
   cases e:dB sh h k with
   | true=>
     have es:eC sh h n (k::ks) i a ky vr s=eC sh h n ks (i+1) a ky vr s:=by show cond _ _ _=_;rw [e];rfl
     have ih:=xT (sh:=sh) (h:=h) hn ks (i+1) a ky vr s okw hlen (by omega) (by omega) (by omega) hk hv hks2
     rw [es]
     have e2:=mM i ks e
     exact {len:=ih.len,okw:=ih.okw,tt:=ih.tt,nn:=ih.nn,c:=⟨ih.c.1,by have:=ih.c.2;omega⟩,ch:=by rw [e2];exact ih.ch,ky:=ih.ky,mk1:=ih.mk1,cl:=ih.cl,life:=by rw [e2];exact ih.life,same:=by rw [e2];exact ih.same}
   | false=>
     have es:eC sh h n (k::ks) i a ky vr s=eC sh h n ks (i+1) (i+1) k 3 ((s.stored a (aV ky (i+1) false 0 vr)).stored (n+4+(i+1)) 1):=by show cond _ _ _=_;rw [e];rfl
     have ok:okF ky (i+1) 0 vr:=⟨hk,by omega,by omega,hv⟩
     let s1:=(s.stored a (aV ky (i+1) false 0 vr)).stored (n+4+(i+1)) 1
     have hl1:s1.xs.length=s.xs.length:=(bZ _ _ _).trans (bZ _ _ _)
     have okw1:okW s1.xs:=eU (eU okw (kX ok)) (by omega)
     have ih:=xT (sh:=sh) (h:=h) hn ks (i+1) (i+1) k 3 s1 okw1 (by rw [hl1];exact hlen) (by omega) (by omega) (by omega) hk2 (by omega) hks2
     have hin1:0≤a∧a<s.xs.length:=by omega
     have hin2:0≤n+4+(i+1)∧n+4+(i+1)<(s.stored a (aV ky (i+1) false 0 vr)).xs.length :=by
      have:(s.stored a (aV ky (i+1) false 0 vr)).xs.length =s.xs.length:=bZ _ _ _
      rw [this];omega
     have p1: ∀x,x≠a→x≠n+4+(i+1)→aA s1.xs x=aA s.xs x:=fun x h1 h2=>(cX h2).trans (cX h1)
     have pa:aA s1.xs a=aV ky (i+1) false 0 vr:=(cX (by omega)).trans (eJ hin1)
     have pl:aA s1.xs (n+4+(i+1))=1:=eJ hin2
     have hsel:=s7 sh h ks (i+1)
     have fa:aA (eC sh h n ks (i+1) (i+1) k 3 s1).xs a=aV ky (i+1) false 0 vr:=by
      rw [ih.same a (by omega) (fun b hb=>by have:=hsel b hb;omega)];exact pa
     have e2:=mN i ks e
     rw [es]
     refine {len:=ih.len.trans hl1,okw:=ih.okw,tt:=ih.tt,nn:=ih.nn,c:=?_,ch:=?_,ky:=?_,mk1:=?_,cl:=?_,life:=?_,same:=?_ }
     ·obtain⟨c1,c2⟩:=ih.c
      have ec:s1.c=s.c+1+1:=rfl
      rw [ec]at c1 c2
      exact⟨Int.le_trans (by omega) c1,Int.le_trans c2 (by omega)⟩
     ·rw [e2]
      refine⟨?_,?_,ih.ky,ih.mk1,ih.cl,ih.ch⟩
      ·rw [fa];exact rS ok
      ·show 1≤i+1∧i+1≤n;omega
     ·rw [fa];exact tM ok
     ·rw [fa];exact nQ ok
     ·rw [fa];exact oT ok
     ·rw [e2]
      intro b hb
      rw [List.map_cons]at hb
      rcases List.mem_cons.1 hb with q | q
      ·have q:b=i+1:=q
       rw [q,ih.same (n+4+(i+1)) (by omega) (fun c hc=>by have:=hsel c hc;omega)]
       exact pl
      ·exact ih.life b q
     ·rw [e2]
      intro x h1 h2
      have h3:=h2 (i+1) (by rw [List.map_cons];exact List.mem_cons_self ..)
      rw [ih.same x h3.1 (fun b hb=>h2 b (by rw [List.map_cons];exact List.mem_cons_of_mem _ hb))]
      exact p1 x h1 h3.2
theorem LT{sh h h' k:Int}(h0:0≤h)(h1:0≤h')(e:dB sh h k=false)(e':dB sh h' k=false):h=h':=by
 unfold dB at e e'
 cases q:ieq sh 2 with
 | true=>
   rw [q]at e e'
   simp only [cond_true,Bool.not_eq_false',bJ,beq_iff_eq]at e e'
   omega
 | false=>
   rw [q]at e e'
   simp only [cond_false,bB,dF']at e e'
   omega
theorem FI{sh h h':Int}(h0:0≤h)(h1:0≤h')(xs:List Int)(b:Int)(e:b∈(selF sh h 0 xs).map Nd.a)(e':b∈(selF sh h' 0 xs).map Nd.a):h=h':=by
 obtain⟨j,k,a1,a2,a3⟩:=(s8 _ _ _ _ _).1 e
 obtain⟨j',k',b1,b2,b3⟩:=(s8 _ _ _ _ _).1 e'
 have:j=j':=by omega
 subst this
 rw [a1]at b1
 cases b1
 exact LT h0 h1 a3 b3
structure FilH (sh t n:Int) (xs:List Int) (H:Nat) (s:MS):Prop where
 len:(s.xs.length:Int)=2*n+5*t+6
 okw:okW s.xs
 tt:s.t=t
 nn:s.n=n
 c:0≤s.c∧s.c≤H*(2*xs.length+1)
 hd: ∀h:Nat,h<H→ch n s.xs (n+1+h) (selF sh h 0 xs)∧mkW (aA s.xs (n+1+h))=false∧clW' (aA s.xs (n+1+h))=0
 life: ∀h:Nat,h<H→ ∀b∈(selF sh h 0 xs).map Nd.a,aA s.xs (n+4+b)=1
 zero: ∀x,(∀h:Nat,h<H→x≠n+1+h∧ ∀b∈(selF sh h 0 xs).map Nd.a,x≠b∧x≠n+4+b)→aA s.xs x=0
theorem K4(k:Nat)(a:Int):aA (List.replicate k 0) a=0:=by
 unfold aA
 split
 ·rw [gD']
  by_cases h:a.toNat<k
  ·rw [List.getElem?_replicate,if_pos h];rfl
  ·rw [List.getElem?_replicate,if_neg h];rfl
 ·rfl
theorem RP{sh t n:Int}(hn:1≤n∧n≤500)(ht:1≤t∧t≤1000)(xs:List Int):FilH sh t n xs 0 (memN t n):=by
 refine {len:=?_,okw:=?_,tt:=rfl,nn:=rfl,c:=⟨Int.le_refl 0,by simp [memN]⟩,hd:=(fun h hh=>by omega),life:=(fun h hh=>by omega),zero:=(fun x _=>K4 _ _) }
 ·show((List.replicate (2*n+5*t+6).toNat (0:Int)).length :Int)=_
  rw [List.length_replicate];omega
 ·refine⟨fun x hx=>?_⟩
  have:=List.eq_of_mem_replicate hx
  omega
theorem xR{sh t n:Int}(hn:1≤n∧n≤500)(ht:1≤t∧t≤1000){xs:List Int}(hx:(xs.length:Int)≤n)(hk: ∀k∈xs,0≤k∧k<1024){H:Nat}(hH:H<4){s:MS}(f:FilH sh t n xs H s):FilH sh t n xs (H+1) (eC sh H n xs 0 (n+1+H) 0 0 s):=by
 have flen:=f.len
 have g:=xT (sh:=sh) (h:=H) hn xs 0 (n+1+H) 0 0 s f.okw (by omega) (Int.le_refl 0) (by omega) (by omega) (by omega) (by omega) hk
 have hsel: ∀h:Nat,∀b∈(selF sh h 0 xs).map Nd.a,1≤b∧b≤n:=fun h b hb=>by have:=s7 sh h xs 0 b hb;omega
 have hdis: ∀h:Nat,h<H→ ∀b∈(selF sh h 0 xs).map Nd.a,∀b'∈(selF sh H 0 xs).map Nd.a,b≠b':=by
  rintro h hh b hb b' hb' rfl
  have:=FI (sh:=sh) (h:=h) (h':=H) (by omega) (by omega) xs b hb hb'
  omega
 refine {len:=by rw [g.len];exact flen,okw:=g.okw,tt:=g.tt.trans f.tt,nn:=g.nn.trans f.nn,c:=?_,hd:=?_,life:=?_,zero:=?_ }
 ·have c1:=f.c
  have c2:=g.c
  refine⟨by omega,?_⟩
  have e:((H+1:Nat):Int)*(2*(xs.length:Int)+1)=(H:Int)*(2*xs.length+1)+(2*xs.length+1):=by
   rw [Int.natCast_add,Int.add_mul];simp
  rw [e];omega
 ·intro h hh
  by_cases e:h=H
  ·subst e;exact⟨g.ch,g.mk1,g.cl⟩
  ·obtain⟨a1,a2,a3⟩:=f.hd h (by omega)
   have eh:aA (eC sh H n xs 0 (n+1+H) 0 0 s).xs (n+1+h)=aA s.xs (n+1+h):=g.same _ (by omega) (fun b hb=>by have:=hsel H b hb;omega)
   refine⟨iQ a1 (fun b hb=>?_),by rw [eh];exact a2,by rw [eh];exact a3⟩
   rcases List.mem_cons.1 hb with q | q
   ·rw [q];exact eh
   ·have hb2:=hsel h b q
    exact g.same b (by omega) (fun b' hb'=>⟨hdis h (by omega) b q b' hb',by have:=hsel H b' hb';omega⟩)
 ·intro h hh b hb
  by_cases e:h=H
  ·subst e;exact g.life b hb
  ·have hb2:=hsel h b hb
   rw [g.same (n+4+b) (by omega) (fun b' hb'=>by
    have:=hsel H b' hb'
    have:=hdis h (by omega) b hb b' hb'
    omega)]
   exact f.life h (by omega) b hb
 ·intro x hz
  have z:=hz H (by omega)
  rw [g.same x z.1 z.2]
  exact f.zero x (fun h hh=>hz h (by omega))
def LLf(sh:Int)(xs:List Int):List (List Nd):=[selF sh 0 0 xs,selF sh 1 0 xs,selF sh 2 0 xs,selF sh 3 0 xs]
theorem nE{sh:Int}{xs:List Int}{h:Nat}{L:List Nd}(e:(LLf sh xs)[h]? =some L):h<4∧L=selF sh h 0 xs:=by
 match h,e with
 | 0,e=>cases e;exact⟨by omega,rfl⟩
 | 1,e=>cases e;exact⟨by omega,rfl⟩
 | 2,e=>cases e;exact⟨by omega,rfl⟩
 | 3,e=>cases e;exact⟨by omega,rfl⟩
 | h+4,e=>simp [LLf]at e
theorem sX(sh:Int)(xs:List Int)(b:Int):b∈(LLf sh xs).flatMap (fun L=>L.map Nd.a)↔ ∃h:Nat,h<4∧b∈(selF sh h 0 xs).map Nd.a:=by
 unfold LLf
 simp only [List.flatMap_cons,List.flatMap_nil,List.append_nil,List.mem_append]
 constructor
 ·rintro(h | h | h | h)
  ·exact⟨0,by omega,h⟩
  ·exact⟨1,by omega,h⟩
  ·exact⟨2,by omega,h⟩
  ·exact⟨3,by omega,h⟩
 ·rintro⟨h,hh,hb⟩
  match h,hh,hb with
  | 0,_,hb=>exact .inl hb
  | 1,_,hb=>exact .inr (.inl hb)
  | 2,_,hb=>exact .inr (.inr (.inl hb))
  | 3,_,hb=>exact .inr (.inr (.inr hb))
theorem S7(sh:Int)(xs:List Int):((LLf sh xs).flatMap (fun L=>L.map Nd.a)).Nodup :=by
 unfold LLf
 simp only [List.flatMap_cons,List.flatMap_nil,List.append_nil]
 have d: ∀h h':Int,0≤h→0≤h'→h≠h'→ ∀a∈(selF sh h 0 xs).map Nd.a,∀b∈(selF sh h' 0 xs).map Nd.a,a≠b:=by
  rintro h h' h0 h1 hne a ha b hb rfl
  exact hne (FI h0 h1 xs a ha hb)
 refine List.nodup_append.2 ⟨rE sh 0 xs 0,List.nodup_append.2 ⟨rE sh 1 xs 0,List.nodup_append.2 ⟨rE sh 2 xs 0,rE sh 3 xs 0,d 2 3 (by decide) (by decide) (by decide)⟩,?_⟩,?_⟩
 ·intro a ha b hb
  rcases List.mem_append.1 hb with h | h
  ·exact d 1 2 (by decide) (by decide) (by decide) a ha b h
  ·exact d 1 3 (by decide) (by decide) (by decide) a ha b h
 ·intro a ha b hb
  rcases List.mem_append.1 hb with h | h
  ·exact d 0 1 (by decide) (by decide) (by decide) a ha b h
  ·rcases List.mem_append.1 h with h | h
   ·exact d 0 2 (by decide) (by decide) (by decide) a ha b h
   ·exact d 0 3 (by decide) (by decide) (by decide) a ha b h
structure X5 (sh t n:Int) (xs:List Int) (S:List STS) (s:MS):Prop where
 q:QL t n s.xs (LLf sh xs) S
 um:UM (LLf sh xs)
 sz:SZ t n s.xs
 pz:PZ t n s.xs
 tt:s.t=t
 nn:s.n=n
 c:0≤s.c∧s.c≤4*(2*xs.length+1)
 fr: ∀b,(xs.length:Int)<b→b≤n→aA s.xs (n+4+b)=0
theorem NU{sh t n:Int}(hn:1≤n∧n≤500)(ht:1≤t∧t≤1000){xs:List Int}(hx:(xs.length:Int)≤n)(hk: ∀k∈xs,0≤k∧k<1024)(S:List STS)(hS: ∀st∈S,st.sp=0∧st.R=[])(me: ∀(i:Nat) (st:STS),S[i]? =some st→st.me=i∧(i:Int)<t):
 X5 sh t n xs S (cJ sh t n xs):=by
 have f:=xR hn ht hx hk (by omega) (xR hn ht hx hk (by omega) (xR hn ht hx hk (by omega) (xR hn ht hx hk (by omega) (RP (sh:=sh) hn ht xs))))
 have f:FilH sh t n xs 4 (cJ sh t n xs):=f
 have hsel: ∀h:Nat,∀b∈(selF sh h 0 xs).map Nd.a,1≤b∧b≤xs.length:=fun h b hb=>by have:=s7 sh h xs 0 b hb;omega
 have hheld:S.flatMap (fun st=>bD st.sp st.R)=[]:=by
  rw [List.flatMap_eq_nil_iff]
  intro st hst
  obtain⟨a,b⟩:=hS st hst
  rw [a,b];rfl
 have hall:allN (LLf sh xs) S=(LLf sh xs).flatMap (fun L=>L.map Nd.a):=by
  unfold allN;rw [hheld,List.append_nil]
 have hz0: ∀b,1≤b→b≤n→b∉allN (LLf sh xs) S→aA (cJ sh t n xs).xs (n+4+b)=0:=by
  intro b h1 h2 hb
  refine f.zero _ (fun h hh=>⟨by omega,fun b' hb'=>?_⟩)
  have:=hsel h b' hb'
  refine⟨by omega,fun e=>hb ?_⟩
  have:b=b':=by omega
  rw [hall,sX]
  exact⟨h,hh,by rw [this];exact hb'⟩
 have hzz: ∀x,2*n+5≤x→aA (cJ sh t n xs).xs x=0:=by
  intro x hx2
  refine f.zero _ (fun h hh=>⟨by omega,fun b' hb'=>?_⟩)
  have:=hsel h b' hb'
  omega
 refine {q:= {ht:=ht,hn:=hn,len:=f.len,okw:=f.okw,four:=rfl,hd:=?_,nd:=by rw [hall];exact S7 sh xs,rng:=?_,tk:=?_,me:=me},um:=?_,sz:=fun i h0 h1=>hzz _ (by omega),pz:=fun u h0 h1=>?_,tt:=f.tt,nn:=f.nn,c:=f.c,fr:=fun b h1 h2=>hz0 b (by omega) h2 (fun hb=>?_) }
 ·intro h L hL
  obtain⟨h4,rfl⟩:=nE hL
  exact f.hd h h4
 ·intro b hb
  rw [hall,sX]at hb
  obtain⟨h,hh,hb⟩:=hb
  have:=hsel h b hb
  omega
 ·intro b hb
  constructor
  ·intro hl
   by_cases q:b∈allN (LLf sh xs) S
   ·exact q
   ·have:=hz0 b hb.1 hb.2 q
    unfold d9 at hl
    rw [this]at hl;cases hl
  ·intro hb2
   rw [hall,sX]at hb2
   obtain⟨h,hh,hb2⟩:=hb2
   unfold d9
   rw [f.life h hh b hb2];rfl
 ·intro L hL b hb
  obtain⟨h,hh⟩:=List.getElem?_of_mem hL
  obtain⟨h4,rfl⟩:=nE hh
  exact(yJ sh h xs 0 b hb).2.2
 ·rw [hzz _ (by unfold P6;omega)];rfl
 ·rw [hall,sX]at hb
  obtain⟨h,hh,hb⟩:=hb
  have:=hsel h b hb
  omega
theorem QF{f g:Nat→Int}{k:Int} : ∀m,inF f g k m=true→ ∃j,j<m∧g j=k
 | 0,h=>by cases h
 | m+1,h=>by
   rw [KD]at h
   by_cases e:g m=k
   ·exact⟨m,by omega,e⟩
   ·rw [dC e]at h
    obtain⟨j,h1,h2⟩:=QF m h
    exact⟨j,by omega,h2⟩
theorem yK{f g:Nat→Int}{m:Nat}{k:Int} :k∈setF f g m↔(0≤k∧k≤999)∧inF f g k m=true:=by
 unfold setF
 rw [List.mem_filter,List.mem_map]
 constructor
 ·rintro⟨⟨i,hi,rfl⟩,h⟩
  have:=List.mem_range.1 hi
  exact⟨by omega,h⟩
 ·rintro⟨h1,h2⟩
  exact⟨⟨k.toNat,List.mem_range.2 (by omega),by omega⟩,h2⟩
theorem FJ(f g:Nat→Int)(m:Nat):Srt (setF f g m):=by
 unfold setF Srt
 refine List.Pairwise.sublist List.filter_sublist ?_
 rw [List.pairwise_map]
 exact List.Pairwise.imp (fun {a b} h=>by omega) List.pairwise_lt_range
theorem PK(f g:Nat→Int)(m:Nat):(setF f g m).length ≤m:=by
 have:=kD (setF f g m) ((List.range m).map g) (kI (FJ f g m)) (fun k hk=>by
  obtain⟨j,h1,h2⟩:=QF m (yK.1 hk).2
  exact List.mem_map.2 ⟨j,List.mem_range.2 h1,h2⟩)
 simpa using this
theorem x6{sh:Int}(hs:sh=1∨sh=2)(f g:Nat→Int)(m:Nat):bG sh f g m=setF f g m:=by
 unfold bG
 rw [dC (show sh≠3 by omega),dC (show sh≠4 by omega),cond_false,cond_false]
theorem KQ{sh:Int}(hs:sh=3∨sh=4){f g:Nat→Int} : ∀m,pQ sh f g m→(bG sh f g m).length ≤m∧ ∀k∈bG sh f g m,0≤k∧k≤999
 | 0,_=>by
   have:bG sh f g 0=[]:=by
    rcases hs with rfl | rfl
    ·rfl
    ·rfl
   rw [this];exact⟨Nat.le_refl _,fun k hk=>by cases hk⟩
 | m+1,h=>by
   obtain⟨h1,h2⟩:=KQ hs m (fun j hj=>h j (by omega))
   have hb:uE f m:=fun j hj=>(nD (h j (by omega)) hs).1
   obtain⟨hk,hy⟩:=nD (h m (by omega)) hs
   rcases hk with e | e
   ·rcases hs with rfl | rfl
    ·have hi:bG 3 f g (m+1)=bG 3 f g m++ [g m]:=AJ hb e
     rw [hi]
     refine⟨by rw [List.length_append];simpa using h1,fun k hk=>?_⟩
     rcases List.mem_append.1 hk with z | z
     ·exact h2 k z
     ·rw [List.mem_singleton.1 z];exact hy
    ·have hi:bG 4 f g (m+1)=g m::bG 4 f g m:=AS e
     rw [hi]
     refine⟨by rw [List.length_cons];omega,fun k hk=>?_⟩
     rcases List.mem_cons.1 hk with z | z
     ·rw [z];exact hy
     ·exact h2 k z
   ·have hi:bG sh f g (m+1)=(bG sh f g m).tail :=by
     rcases hs with rfl | rfl
     ·exact wB hb e
     ·exact wK hb e
    rw [hi]
    exact⟨by rw [List.length_tail];omega,fun k hk=>h2 k (List.mem_of_mem_tail hk)⟩
theorem x5{sh:Int}{f g:Nat→Int}{m:Nat}(hs:sh=1∨sh=2∨sh=3∨sh=4)(h:pQ sh f g m):(bG sh f g m).length ≤m∧ ∀k∈bG sh f g m,0≤k∧k≤999:=by
 by_cases e:sh=1∨sh=2
 ·rw [x6 e]
  exact⟨PK f g m,fun k hk=>(yK.1 hk).1⟩
 ·exact KQ (by omega) m h
theorem wS{sh k:Int}{h:Nat}(hh:h<4)(hs:sh=1∨sh=2)(hk:0≤k):dB sh h k=false↔(cI sh k).toNat =h:=by
 unfold dB cI
 rcases hs with rfl | rfl
 ·rw [dC (show(1:Int)≠2 by decide)]
  simp only [cond_false,bB,dF']
  constructor
  ·intro h;show(0:Int).toNat =_;simp;omega
  ·intro h
   have h:(0:Int).toNat =_:=h
   simp at h;omega
 ·rw [bN]
  simp only [cond_true,Bool.not_eq_false',bJ,beq_iff_eq]
  rw [Int.tmod_eq_emod_of_nonneg hk]
  omega
theorem PI{sh:Int}{f g:Nat→Int}{m:Nat}(hs:sh=1∨sh=2∨sh=3∨sh=4)(h:pQ sh f g m):Rp sh (LLf sh (bG sh f g m)) f g m:=by
 obtain⟨hl,hb⟩:=x5 hs h
 by_cases e:sh=1∨sh=2
 ·left
  refine⟨e,?_,?_,?_⟩
  ·intro i L hL
   obtain⟨h4,rfl⟩:=nE hL
   rw [rF,x6 e]
   exact(FJ f g m).sublist List.filter_sublist
  ·intro i L hL k hk
   obtain⟨h4,rfl⟩:=nE hL
   rw [rF,List.mem_filter]at hk
   have hb:=hb k hk.1
   exact⟨hb,(wS h4 e hb.1).1 (by simpa using hk.2)⟩
  ·intro i L hL k k0 k9 hi
   obtain⟨h4,rfl⟩:=nE hL
   rw [rF,List.mem_filter,x6 e,yK]
   have:=(wS h4 e k0).2 hi
   constructor
   ·rintro⟨⟨_,z⟩,_⟩;exact z
   ·intro z;exact⟨⟨⟨k0,k9⟩,z⟩,by rw [this];rfl⟩
 ·right
  have e2:sh=3∨sh=4:=by omega
  have hsk: ∀(h:Int) (k:Int),dB sh h k=ilt 0 h:=by
   intro h k
   unfold dB
   rw [dC (show sh≠2 by omega)];rfl
  refine⟨e2,?_,hb,?_⟩
  ·show uk (selF sh 0 0 (bG sh f g m))=_
   rw [rF]
   refine List.filter_eq_self.2 (fun k hk=>?_)
   rw [hsk];rfl
  ·intro i L hL hi
   obtain⟨h4,rfl⟩:=nE hL
   cases hq:selF sh i 0 (bG sh f g m)with
   | nil=>rfl
   | cons b L=>
     exfalso
     have:b.a∈(selF sh i 0 (bG sh f g m)).map Nd.a:=by rw [hq];simp
     obtain⟨j,k,_,_,h3⟩:=(s8 _ _ _ _ _).1 this
     rw [hsk,bB,dF']at h3
     omega
theorem UJ: ∀(i:Nat) (st:STS),[(⟨0,0,[]⟩:STS),⟨1,0,[]⟩][i]? =some st→st.me=i∧(i:Int)<2
 | 0,st,h=>by cases h;exact⟨rfl,by decide⟩
 | 1,st,h=>by cases h;exact⟨rfl,by decide⟩
 | i+2,st,h=>by simp at h
def resT(sh:Int)(f g:Nat→Int):Nat→Nat→List (List Int)
 | _,0=>[]
 | j,k+1=>[0,bitI (resR sh f g j (f j) (g j)).1,(resR sh f g j (f j) (g j)).2]::resT sh f g (j+1) k
theorem FL(sh:Int)(f g:Nat→Int): ∀k j,(L3 sh f g j k).length =k
 | 0,j=>rfl
 | k+1,j=>congrArg (· +1) (FL sh f g k (j+1))
theorem A0(sh:Int)(f g:Nat→Int): ∀k j,(resT sh f g j k).length =k
 | 0,j=>rfl
 | k+1,j=>congrArg (· +1) (A0 sh f g k (j+1))
theorem AZ(sh:Int)(f g:Nat→Int): ∀k j i,i<k→(resT sh f g j k).getD i []=[0,bitI (resR sh f g (j+i) (f (j+i)) (g (j+i))).1,(resR sh f g (j+i) (f (j+i)) (g (j+i))).2]
 | k+1,j,0,h=>rfl
 | k+1,j,i+1,h=>by
   have:=AZ sh f g k (j+1) i (by omega)
   rw [show j+1+i=j+(i+1) by omega]at this
   exact this
theorem JW{t n most sh:Int}{f g:Nat→Int}{i:Nat}(hmo:0≤most): ∀(k j:Nat) (LL:List (List Nd)) (S:List STS) (st:STS) (s:MS),QL t n s.xs LL S→S[i]? =some st→Rp sh LL f g j→pQ sh f g (j+k)→(0≤s.c∧s.c+6000*(k:Int)≤800000)→((allN LL S).length :Int)+k≤n→
 z6 t n most 20000 (L3 sh f g j k) st s∧ ∃st' s' LL',frF t n most 20000 (L3 sh f g j k) st s=(resT sh f g j k,true,st',s')∧QL t n s'.xs LL' (S.set i st')∧Rp sh LL' f g (j+k)∧(0≤s'.c∧s'.c≤s.c+6000*k)∧s'.t=s.t∧s'.n=s.n
 | 0,j,LL,S,st,s,q,hS,rp,ho,hc,hf=>by
   refine⟨trivial,st,s,LL,rfl,by rw [pW hS];exact q,rp,⟨hc.1,by omega⟩,rfl,rfl⟩
 | k+1,j,LL,S,st,s,q,hS,rp,ho,hc,hf=>by
   have hr:cO sh (f j) (g j)=true:=ho j (by omega)
   obtain⟨ok,x,st1,s1,L',e,⟨x1,x2,x3⟩,q1,hL',c1,t1,n1,a1⟩:=R8 (kd:=f j) (ky:=g j) (most:=most) q hS hr hmo (by omega) (fun _ _=>by omega)
   obtain⟨r1,r2⟩:=rp.step q.four (fun i hi=>ho i (by omega)) hr
   have rp1:=r2 L' hL'
   have hS1:(S.set i st1)[i]? =some st1:=List.getElem?_set_self (iU hS)
   obtain⟨ok2,st2,s2,LL2,e2,q2,rp2,c2,t2,n2⟩:=JW hmo k (j+1) _ _ st1 s1 q1 hS1 rp1 (by rw [show j+1+k=j+(k+1) by omega];exact ho) (by omega) (by omega)
   rw [List.set_set]at q2
   rw [show j+1+k=j+(k+1) by omega]at rp2
   refine⟨⟨ok,fun _=>?_⟩,st2,s2,LL2,?_,q2,rp2,⟨c2.1,by omega⟩,t2.trans t1,n2.trans n1⟩
   ·rw [e];exact ok2
   ·show(bif (frX t n most 20000 [sh,f j,g j] st s).1.failed then _ else _)=_
    rw [e]
    show(bif x.failed then _ else(frRow x::(frF t n most 20000 (L3 sh f g (j+1) k) st1 s1).1,(frF t n most 20000 (L3 sh f g (j+1) k) st1 s1).2))=_
    rw [x2,cond_false,e2]
    have:frRow x=[0,bitI (resR sh f g j (f j) (g j)).1,(resR sh f g j (f j) (g j)).2]:=by
     unfold frRow
     rw [←r1,←x3,x1]
    rw [this];rfl
theorem GW{t n:Int}{xs:List Int}{LL:List (List Nd)}{S:List STS}(q:QL t n xs LL S):lE xs n S=true:=by
 obtain⟨A,B,C,D,rfl⟩:=z0 q.four
 have k0:=mB q (h:=0) (L:=A) rfl
 have k1:=mB q (h:=1) (L:=B) rfl
 have k2:=mB q (h:=2) (L:=C) rfl
 have k3:=mB q (h:=3) (L:=D) rfl
 have eM:gA xs n=[A,B,C,D].flatMap (fun L=>L.map Nd.a):=by
  unfold gA
  rw [show ndF xs n 0=A.map Nd.a from k0,show ndF xs n 1=B.map Nd.a from k1,show ndF xs n 2=C.map Nd.a from k2,show ndF xs n 3=D.map Nd.a from k3]
  simp
 have pp:(uB S++gA xs n).Perm (allN [A,B,C,D] S):=by
  rw [eM]
  exact List.perm_append_comm
 obtain⟨m',h1,h2,_⟩:=FH (xs:=xs) (n:=n) (uB S++gA xs n) [] (pp.nodup_iff.2 q.nd) (fun b hb=>⟨rfl,(uW q b).2 (pp.subset hb)⟩)
 unfold lE
 rw [h1]
 show ieq (m'.length:Int) (n - (hU xs n).length)=true
 have hl:=JY q
 rw [bJ,beq_iff_eq,h2,pp.length_eq]
 rw [←hl];simp
structure UQ (sh most:Int) (f g:Nat→Int) (m:Nat) (st:STS) (s:MS):Prop where
 ok:z7 2 30 most (yV sh f g m) ⟨1,0,[]⟩ (cJ sh 2 30 [])
 eq:BG 2 30 most (yV sh f g m) ⟨1,0,[]⟩ (cJ sh 2 30 [])=(resT sh f g 0 m,true,st,s)
 it:f7 s.xs 30 sh=bG sh f g m
 hd:lE s.xs 30 [st]=true
 ln:st.R.length≤500
theorem JK{sh most:Int}{f g:Nat→Int}{m:Nat}(hs:sh=1∨sh=2∨sh=3∨sh=4)(h:pQ sh f g m)(hm:m≤20)(hmo:0≤most): ∃st s,UQ sh most f g m st s:=by
 have h0:pQ sh f g 0:=fun j hj=>by omega
 have i0:bG sh f g 0=[]:=List.length_eq_zero_iff.1 (Nat.le_zero.1 (x5 hs h0).1)
 have rp:=PI hs h0
 rw [i0]at rp
 have fl:=NU (sh:=sh) (t:=2) (n:=30) (by decide) (by decide) (xs:=[]) (by decide) (fun k hk=>by cases hk) [⟨0,0,[]⟩,⟨1,0,[]⟩] (by
  intro st hst
  rcases List.mem_cons.1 hst with e | e
  ·rw [e];exact⟨rfl,rfl⟩
  ·rw [List.mem_singleton.1 e];exact⟨rfl,rfl⟩) UJ
 have hc:=fl.c
 have hc2:(cJ sh 2 30 []).c ≤4:=hc.2
 have hS: [(⟨0,0,[]⟩:STS),⟨1,0,[]⟩][1]? =some ⟨1,0,[]⟩:=rfl
 have hz:((allN (LLf sh []) [(⟨0,0,[]⟩:STS),⟨1,0,[]⟩]).length :Int)=0:=rfl
 obtain⟨ok,st',s',LL',e,q,rp2,c2,t2,n2⟩:=JW (most:=most) (sh:=sh) (f:=f) (g:=g) hmo m 0 _ _ _ _ fl.q hS rp (by rw [Nat.zero_add];exact h) ⟨hc.1,by omega⟩ (by rw [hz];omega)
 rw [Nat.zero_add]at rp2
 have q2:QL 2 30 s'.xs LL' [⟨0,0,[]⟩,st']:=q
 refine⟨st',s',ok,e,KI q2 rp2,?_,?_⟩
 ·have:=GW q2
  have e2:uB [(⟨0,0,[]⟩:STS),st']=uB [st']:=rfl
  unfold lE at this⊢
  rw [←e2];exact this
 ·have:=(q2.stw (i:=1) (st:=st') rfl).ln
  omega
theorem VN{sh:Int}(h:0≤sh∧sh≤255):kS sh=1∨kS sh=2∨kS sh=3∨kS sh=4:=by
 unfold kS
 have e:IntKind.wrap .i64 sh=sh:=cE (by omega)
 have e2:Int.tmod sh 4=sh%4:=Int.tmod_eq_emod_of_nonneg h.1
 rw [e,e2]
 have e3:IntKind.wrap .i64 (1+sh%4)=1+sh%4:=cE (by omega)
 rw [e3];omega
theorem xJ{b:Bool}{P Q:Prop}(h:b=true)(p:P):(bif b then P else Q):=by rw [h];exact p
theorem A9(sh:Int)(f g:Nat→Int): ∀k j,L3 sh f g j (k+1)=L3 sh f g j k++ [[sh,f (j+k),g (j+k)]]
 | 0,j=>rfl
 | k+1,j=>by
   have ih:=A9 sh f g k (j+1)
   show [sh,f j,g j]::L3 sh f g (j+1) (k+1)=([sh,f j,g j]::L3 sh f g (j+1) k)++_
   rw [ih,show j+1+k=j+(k+1) by omega];rfl
theorem WP(sh:Int)(f g:Nat→Int)(k:Nat):yV sh f g (k+1)=yV sh f g k++ [[sh,f k,g k]]:=by
 have:=A9 sh f g k 0
 rw [Nat.zero_add]at this
 exact this
theorem SB(sh:Int)(m:Nat)(f g:Nat→Int)(most:Int)(K:AVal→aC Ob→Prop)(hsh:0≤sh∧sh≤255)(hmo:0≤most∧most≤255)(hK:K (.bool true) []):D5 sh m f g most K:=by
 unfold D5
 refine⟨trivial,by decide,aI (fun _=>hK) (fun e1=>⟨⟨?_,⟨rfl⟩⟩,aI (fun _=>hK) (fun hr=>?_)⟩)⟩
 ·rw [bB,dF']at e1;omega
 rw [bB,dF']at e1
 have hs:=VN hsh
 have hr:jR (kS sh) m f g=true:=by simpa using hr
 have ho:pQ (kS sh) f g m:=oN.1 hr
 have hmS:0≤mS most:=by
  unfold mS
  have e:IntKind.wrap .i64 most=most:=cE (by omega)
  rw [e,Int.tmod_eq_emod_of_nonneg hmo.1];omega
 obtain⟨st,s,F⟩:=JK (sh:=kS sh) (most:=mS most) (f:=f) (g:=g) (m:=m) hs ho (by omega) hmS
 have ha:fqA sh m f g most=(resT (kS sh) f g 0 m,true,st,s):=F.eq
 have tl: ∀k,(yV (kS sh) f g k).length =k:=fun k=>FL _ _ _ k 0
 have rl:(resT (kS sh) f g 0 m).length =m:=A0 _ _ _ m 0
 obtain⟨jl,jb⟩:=x5 (f:=f) (g:=g) (m:=m) hs ho
 obtain⟨z1,z2⟩:=AE (kS sh) f g m
 refine⟨⟨by decide,by decide,by decide,fun k hk=>by cases hk⟩,aH (H:=ME sh m f g most) (0:Nat) rfl ⟨Nat.zero_le _⟩,?_⟩
 rintro i ⟨hi⟩
 refine aI (fun e=>?_) (fun e=>?_)
 ·rw [bB,dT']at e
  have e4:W ((i:Int)+1)=((i+1:Nat):Int):=(cE (by omega)).trans rfl
  refine⟨⟨by omega,e⟩,⟨rfl,rfl,by rw [tl];omega⟩,aH (H:=ME sh m f g most) (i+1:Nat) ?_ ⟨⟨by omega⟩,by show m - (i+1)<m - i;omega⟩⟩
  simp only [ME,WP,List.length_append,←e4]
  rfl
 ·rw [bB,dF']at e
  have him:i=m:=by omega
  subst him
  have hX:fqX sh i f g most=fqA sh i f g most:=rfl
  rw [hX,ha]
  refine⟨trivial,by decide,⟨⟨rfl,rfl⟩,by rw [tl];omega,F.ok⟩,aI (fun e=>by cases e) (fun _=>aI (fun e=>?_) (fun _=>⟨aH (H:=H8 sh i f g most) (0:Nat) (by simp only [H8,ha]<;>rfl) ⟨Nat.zero_le _⟩,?_⟩))⟩
  ·exfalso
   have e:(!ieq ((resT (kS sh) f g 0 i).length :Int) (i:Int))=true:=e
   rw [rl,bN]at e;cases e
  ·clear e
   rintro j ⟨hj⟩
   refine aI (fun e=>?_) (fun e=>?_)
   ·rw [bB,dT']at e
    have hji:j<i:=by omega
    have e4:W ((j:Int)+1)=((j+1:Nat):Int):=(cE (by omega)).trans rfl
    have hg:=AZ (kS sh) f g i 0 j hji
    rw [Nat.zero_add]at hg
    simp only [Int.toNat_natCast,Nat.zero_add,hg]
    refine⟨⟨by omega,e⟩,⟨by omega,by rw [rl];exact e⟩,by rw [rl];exact hji,⟨by omega,by omega⟩,⟨⟨by omega,⟨rfl⟩⟩,trivial⟩,aI (fun e2=>?_) (fun _=>aH (H:=H8 sh i f g most) (j+1:Nat) (by simp only [H8,ha,←e4]<;>rfl) ⟨⟨by omega⟩,by show i - (j+1)<i - j;omega⟩)⟩
    exfalso
    have hb:resB (kS sh) f g j (f j) (g j)=(resR (kS sh) f g j (f j) (g j)).1:=rfl
    have hv:resV (kS sh) f g j (f j) (g j)=(resR (kS sh) f g j (f j) (g j)).2:=rfl
    rw [hb,hv]at e2
    have e3:(!bif bif !ieq (bitI (resR (kS sh) f g j (f j) (g j)).1) 0 then(resR (kS sh) f g j (f j) (g j)).1 else !(resR (kS sh) f g j (f j) (g j)).1 then bif ieq (resR (kS sh) f g j (f j) (g j)).2 (resR (kS sh) f g j (f j) (g j)).2 then true else false else false)=true:=e2
    rw [bN]at e3
    cases hq:(resR (kS sh) f g j (f j) (g j)).1 with
    | true=>rw [hq]at e3;cases e3
    | false=>rw [hq]at e3;cases e3
   ·refine⟨⟨rfl,by decide,by decide⟩,⟨by omega,⟨rfl⟩⟩,⟨⟨rfl,z2⟩,?_⟩,xJ (C9.2 (F.it.trans z1.symm)) ⟨⟨⟨rfl,rfl,rfl⟩,⟨by decide,by decide⟩,⟨by decide,by decide⟩,?_⟩,?_⟩⟩
    ·rw [show f7 (Prod.snd (Prod.snd (resT (kS sh) f g 0 i,true,st,s))).2.3 _ _=_ from F.it];omega
    ·show st.R.length≤1000000
     have:=F.ln;omega
    ·rw [show lE (Prod.snd (Prod.snd (resT (kS sh) f g 0 i,true,st,s))).2.3 30 [(Prod.snd (Prod.snd (resT (kS sh) f g 0 i,true,st,s))).1]=true from F.hd]
     exact hK
end Go.Sh
