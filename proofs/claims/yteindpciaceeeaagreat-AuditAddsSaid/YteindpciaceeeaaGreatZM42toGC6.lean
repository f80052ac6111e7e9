import Derived.Test.YteindpciaceeeaaGreatZM0toM36
set_option linter.all false
set_option maxHeartbeats 8000000
namespace Go.Sh
open Go Go.Proofs
variable [Con]
def alH(t n:Int)(x:AL)(s:MS):aC Ob:=[some (.cells [.int .i64 t,.int .i64 n,.int .i64 x.got,.int .i64 x.at',.int .i64 x.left,.int .u64 x.found,.bool x.free]),some (.cells [.int .i64 s.t,.int .i64 s.n,.slice 2 0 s.xs.length 1,.int .i64 s.c,.int .i64 s.k,.int .i64 s.a,.int .u64 s.o,.int .u64 s.w,.bool s.ok]),some (.ints (some .u64) s.xs)]
def oddB(y:Int):Bool:=!ieq (Int.tmod y 2) 0
def cU(n a:Int):Int:=Int.tmod a n+1
def aDd(t n:Int)(x:AL)(s:MS):Out Ob:=.ite x.free
 (.ite (bH s.xs (n+4+x.at') x.found) (.ret (.bool true) (alH t n ⟨x.at',x.at',x.left,x.found,true⟩ (s.cased (n+4+x.at') x.found (WU (x.found+1)))))
   (.ret (.bool (ile (x.left - 1) 0)) (alH t n ⟨x.got,cU n x.at',x.left - 1,x.found,false⟩ (s.cased (n+4+x.at') x.found (WU (x.found+1))))))
 (.ite (oddB (aE s.xs (n+4+x.at'))) (.ret (.bool (ile (x.left - 1) 0)) (alH t n ⟨x.got,cU n x.at',x.left - 1,aE s.xs (n+4+x.at'),false⟩ (s.loadd (n+4+x.at'))))
   (.ret (.bool false) (alH t n ⟨x.got,x.at',x.left,aE s.xs (n+4+x.at'),true⟩ (s.loadd (n+4+x.at')))))
theorem XD(t n:Int)(x:AL)(s:MS)(K:AVal->aC Ob->Prop)(ht:1<=t/\t<=1000)(hn:1<=n/\n<=1000)(ha:1<=x.at'/\x.at'<=n)(hl:0<=x.left/\x.left<=1000)(hc:0<=s.c/\s.c<=1000000)(hK:(aDd t n x s).run K):aA E36.I Tryz.prog 211 [.ptr 0 0,.ptr 1 0] (alH t n x s) K:=by
 refine aLw (cM' (E:=E36) (q:=bif !x.5 then((((0:Int)<=t/\t<=(100000:Int))/\((0:Int)<=n/\n<=(100000:Int))/\(-1099511627776:Int)<=x.2/\x.2<=(1099511627776:Int))/\True)/\((lE' s.3/\(0:Int)<=s.4/\s.4<=(4611686018427387904:Int))/\True)/\(2:Int)≠(0:Int)/\bif !ieq (Int.tmod (aE s.3 (n+4+x.2)) 2) 0 then n≠(0:Int)/\K (.bool (ile (W (x.3 - 1)) 0)) [some (.cells [.int .i64 t,.int .i64 n,.int .i64 x.1,.int .i64 (W (Int.tmod x.2 n+1)),.int .i64 (W (x.3 - 1)),.int .u64 (aE s.3 (n+4+x.2)),.bool false]),some (.cells [.int .i64 s.1,.int .i64 s.2,.slice 2 0 s.3.length 1,.int .i64 (s.4+1),.int .i64 1,.int .i64 (n+4+x.2),.int .u64 (aE s.3 (n+4+x.2)),.int .u64 (aE s.3 (n+4+x.2)),.bool (dU s.3 (n+4+x.2))]),some (.ints (some .u64) s.3)]else K (.bool false) [some (.cells [.int .i64 t,.int .i64 n,.int .i64 x.1,.int .i64 x.2,.int .i64 x.3,.int .u64 (aE s.3 (n+4+x.2)),.bool (ieq (Int.tmod (aE s.3 (n+4+x.2)) 2) 0)]),some (.cells [.int .i64 s.1,.int .i64 s.2,.slice 2 0 s.3.length 1,.int .i64 (s.4+1),.int .i64 1,.int .i64 (n+4+x.2),.int .u64 (aE s.3 (n+4+x.2)),.int .u64 (aE s.3 (n+4+x.2)),.bool (dU s.3 (n+4+x.2))]),some (.ints (some .u64) s.3)]else((((0:Int)<=t/\t<=(100000:Int))/\((0:Int)<=n/\n<=(100000:Int))/\(-1099511627776:Int)<=x.2/\x.2<=(1099511627776:Int))/\True)/\((lE' s.3/\(0:Int)<=s.4/\s.4<=(4611686018427387904:Int))/\True)/\bif bH s.3 (n+4+x.2) x.4 then K (.bool true) [some (.cells [.int .i64 t,.int .i64 n,.int .i64 x.2,.int .i64 x.2,.int .i64 x.3,.int .u64 x.4,.bool x.5]),some (.cells [.int .i64 s.1,.int .i64 s.2,.slice 2 0 (List.length (bif bH s.3 (n+4+x.2) x.4 then aX s.3 (n+4+x.2) (WU (x.4+1))else s.3)) 1,.int .i64 (s.4+1),.int .i64 3,.int .i64 (n+4+x.2),.int .u64 (aE s.3 (n+4+x.2)),.int .u64 (bif dU s.3 (n+4+x.2)then WU (x.4+1)else 0),.bool (bH s.3 (n+4+x.2) x.4)]),some (.ints (some .u64) (bif bH s.3 (n+4+x.2) x.4 then aX s.3 (n+4+x.2) (WU (x.4+1))else s.3))]else n≠(0:Int)/\K (.bool (ile (W (x.3 - 1)) 0)) [some (.cells [.int .i64 t,.int .i64 n,.int .i64 x.1,.int .i64 (W (Int.tmod x.2 n+1)),.int .i64 (W (x.3 - 1)),.int .u64 x.4,.bool false]),some (.cells [.int .i64 s.1,.int .i64 s.2,.slice 2 0 (List.length (bif bH s.3 (n+4+x.2) x.4 then aX s.3 (n+4+x.2) (WU (x.4+1))else s.3)) 1,.int .i64 (s.4+1),.int .i64 3,.int .i64 (n+4+x.2),.int .u64 (aE s.3 (n+4+x.2)),.int .u64 (bif dU s.3 (n+4+x.2)then WU (x.4+1)else 0),.bool (bH s.3 (n+4+x.2) x.4)]),some (.ints (some .u64) (bif bH s.3 (n+4+x.2) x.4 then aX s.3 (n+4+x.2) (WU (x.4+1))else s.3))]) (by kernel_rfl) ?_)
 obtain⟨got,at',left,found,free⟩:=x;dsimp only at ha hl⊢;have hm:=aBM (x:=at') (t:=n) omz omz;have e1:W (left - 1)=left - 1:=zS omz;have e2:W (Int.tmod at' n+1)=cU n at':=zS (by show _<=Int.tmod at' n+1/\Int.tmod at' n+1<=_;omega)
 rw [e1,e2];unfold aDd at hK;dsimp only [Out.run]at hK;cases free with
 | false=>
   simp only [cond_false,Bool.not_false,cond_true]at hK⊢;refine⟨⟨by omega,trivial⟩,⟨⟨trivial,by omega⟩,trivial⟩,by omega,?_⟩
   unfold oddB at hK;generalize ho:ieq (Int.tmod (aE s.xs (n+4+at')) 2) 0=b at hK⊢;cases b with
   | false=>exact⟨by omega,hK⟩
   | true=>exact hK
 | true=>
   simp only [cond_true,Bool.not_true,cond_false]at hK⊢;refine⟨⟨by omega,trivial⟩,⟨⟨trivial,by omega⟩,trivial⟩,?_⟩
   unfold alH at hK;cases hb:bH s.xs (n+4+at') found with
   | true=>
     rw [hb]at hK;simp only [cond_true]at hK⊢;unfold MS.cased at hK;rw [hb]at hK;exact hK
   | false=>
     rw [hb]at hK;simp only [cond_false]at hK⊢;unfold MS.cased at hK;rw [hb]at hK;exact⟨by omega,hK⟩
noncomputable def alS:aI Ob:=fun args h=>match args,h with
 | [.ptr 0 0,.ptr 1 0],[some (.cells [.int .i64 t,.int .i64 n,.int .i64 got,.int .i64 at',.int .i64 left,.int .u64 found,.bool free]),e1,e2]=>match cQ 2 [e1,e2]with
   | some (l,s)=>some (.pre (l=s.xs.length/\(1<=t/\t<=1000)/\(1<=n/\n<=1000)/\(1<=at'/\at'<=n)/\(0<=left/\left<=1000)/\(0<=s.c/\s.c<=1000000)) (aDd t n ⟨got,at',left,found,free⟩ s))
   | none=>none
 | _,_=>none
theorem aHe:aI.ok E36.I Tryz.prog 211 alS:=by
 intro args h o ho K hK;unfold alS at ho;split at ho
 case h_2=>cases ho
 split at ho
 case h_2=>cases ho
 rename_i hm;cases ho;obtain⟨⟨hl,ht,hn,ha,aa,hc⟩,hK⟩:=hK;have hh:=bB hm hl;cases hh;exact XD _ _ _ _ K ht hn ha aa hc hK
noncomputable def E42:=E36.addS 211 alS aHe
theorem aBb{xs:List Int}(h:okW xs){a x:Int}(hx:0<=x/\x<=18446744073709551615):okW (aX xs a x):=by
 unfold aX;split
 ·refine⟨fun y hy=>?_⟩;rcases List.mem_or_eq_of_mem_set hy with h1 | h1
  ·exact h.h y h1
  ·subst h1;exact hx
 ·exact h
theorem PV(x:Int):0<=WU x/\WU x<=18446744073709551615:=by
 unfold WU;simp only [IntKind.wrap,IntKind.bits,IntKind.signed]
 simp
 omega
structure EO where
 d:Bool
 e:ENS
 st:STS
 s:MS
def at0(t n me:Int):Int:=bif bG n (aO t n me)then aO t n me else 1
def MC(e:ENS)(st:STS)(x:AL)(s:MS):EO:=match ile x.left 0 with
 | true=>⟨e.dn||ieq (st.R.length:Int) 0,{e with ph:=2,sh:=e.dn||ieq (st.R.length:Int) 0,x:=x},{st with sp:=0},s⟩
 | false=>⟨false,{e with ph:=1,x:=x},st,s⟩
def tA(n:Int)(e:ENS)(st:STS)(x:AL)(s:MS):EO:=match x.free with
 | true=>(match bH s.xs (n+4+x.at') x.found with
   | true=>⟨true,{e with ph:=1,x:=⟨x.at',x.at',x.left,x.found,true⟩ },{st with sp:=x.at'},s.cased (n+4+x.at') x.found (WU (x.found+1))⟩
   | false=>MC e st ⟨0,cU n x.at',x.left - 1,x.found,false⟩ (s.cased (n+4+x.at') x.found (WU (x.found+1))))
 | false=>(match oddB (aE s.xs (n+4+x.at'))with
   | true=>MC e st ⟨0,cU n x.at',x.left - 1,aE s.xs (n+4+x.at'),false⟩ (s.loadd (n+4+x.at'))
   | false=>⟨false,{e with ph:=1,x:=⟨0,x.at',x.left,aE s.xs (n+4+x.at'),true⟩ },st,s.loadd (n+4+x.at')⟩)
instance:Inhabited EO:=⟨⟨false,bV,⟨0,0,[]⟩,⟨0,0,[],0,0,0,0,0,false⟩⟩⟩
def enF(t n:Int)(e:ENS)(st:STS)(s:MS):EO:=match e.ph with
 | 0=>(match ieq st.sp 0 with
   | true=>tA n e st ⟨0,at0 t n st.me,n,0,false⟩ s
   | false=>⟨true,e,st,s.loadd 0⟩)
 | 1=>tA n e st e.x s
 | 2=>⟨false,{e with ph:=3,y:= {e.y with N:=st.R,m:=aU [] n 0 s,i:=1} },st,s.loadd (bD n 0)⟩
 | 3=>(match ieq (e.y.i+1) (2*t),ieq ((aS (aU e.y.m n e.y.i s) e.y.N).length :Int) 0 with
   | true,true=>⟨true,{e with ph:=0,sh:=true,dn:=true},{st with R:=cF (aU e.y.m n e.y.i s) e.y.N},s.loadd (bD n e.y.i)⟩
   | true,false=>⟨false,{e with ph:=4,y:=⟨0,e.y.N,aU e.y.m n e.y.i s,e.y.i+1,cF (aU e.y.m n e.y.i s) e.y.N,aS (aU e.y.m n e.y.i s) e.y.N,aS (aU e.y.m n e.y.i s) e.y.N,0,(aS (aU e.y.m n e.y.i s) e.y.N).length⟩ },st,s.loadd (bD n e.y.i)⟩
   | false,_=>⟨false,{e with y:= {e.y with m:=aU e.y.m n e.y.i s,i:=e.y.i+1} },st,s.loadd (bD n e.y.i)⟩)
 | _=>(match ieq ((e.y.l - 1:Nat):Int) 0 with
   | true=>⟨ieq (e.y.fs.length:Int) 0,{e with ph:=0,sh:=ieq (e.y.fs.length:Int) 0,dn:=true},{st with R:=e.y.ks},s.added (bS n e.y.gs e.y.j) 1⟩
   | false=>⟨false,{e with y:= {e.y with j:=e.y.j+1,l:=e.y.l - 1} },st,s.added (bS n e.y.gs e.y.j) 1⟩)
structure okAl (n:Int) (x:AL):Prop where
 hg:x.got=0
 ha:1<=x.at'/\x.at'<=n
 hl:0<=x.left/\x.left<=1000
def aIR(t n:Int)(e:ENS)(st:STS):Prop:=match e.ph with
 | 0=>True
 | 1=>okAl n e.x
 | 2=>True
 | 3=>e.y.N.length<=1000000/\0<=e.y.i/\e.y.i<2*t
 | 4=>2*t<=e.y.i/\1<=e.y.l/\e.y.gs.length=e.y.j+e.y.l/\ -1000000<=List.getD e.y.gs (e.y.j+Int.toNat 0*1) 0/\List.getD e.y.gs (e.y.j+Int.toNat 0*1) 0<=1000000
 | _=>False
structure PO (t n:Int) (e:ENS) (st:STS) (s:MS):Prop where
 ht:1<=t/\t<=1000
 hn:1<=n/\n<=1000
 hc:0<=s.c/\s.c<=1000000
 hm:0<=st.me/\st.me<=1000
 hR:st.R.length<=1000000
 ho:aIR t n e st
abbrev bI(l:Nat)(s:MS):Option (aG Mc):=some (.cells [.int .i64 s.t,.int .i64 s.n,.slice l 0 s.xs.length 1,.int .i64 s.c,.int .i64 s.k,.int .i64 s.a,.int .u64 s.o,.int .u64 s.w,.bool s.ok])
abbrev bJ(s:MS):Option (aG Mc):=some (.ints (some .u64) s.xs)
def ZF(t n:Int)(e:ENS)(st:STS)(s:MS):aC Ob:=[some (.abs (.ensure t n e) [1]),some (.abs (.store t n st) []),bI 3 s,bJ s]
def EO.left(o:EO)(t n:Int)(K:AVal->aC Ob->Prop):Prop:=K (.bool o.d) (ZF t n o.e o.st o.s)
theorem iB{K:AVal->aC Ob->Prop}{t n:Int}{o:EO}{g':aC Ob}(pl:List Nat)(hK:o.left t n K)
 (hb:(dW pl g'.length&&iJ pl 0 4&&obOk 1 (FQ t n o.e))=true)
 (hT:gQ pl g'=aP [some (.abs (.ensure t n o.e) [1]),some (.cells [.int .i64 t,.int .i64 n,.int .i64 o.st.me,.int .i64 o.st.sp,.slice 4 0 o.st.R.length 1]),bI 3 o.s,bJ o.s,some (.ints (some .i64) o.st.R)] 0 1 (FQ t n o.e) [1]):BM tbl 4 (BM tbl 4 K) (.bool o.d) g':=by
 simp only [Bool.and_eq_true]at hb;obtain⟨⟨b1,b2⟩,b3⟩:=hb;refine⟨pl,_,.ensure t n o.e,0,1,_,[1],?_,hT,rfl,rfl,⟨[0,1,2,3,4],[some (.abs (.ensure t n o.e) [1]),some (.abs (.store t n o.st) []),bI 3 o.s,bJ o.s],.store t n o.st,1,0,dP t n o.st,[],rfl,rfl,rfl,rfl,?_⟩⟩
 ·rw [b1,b2,b3];rfl
 ·exact hK
theorem aJP(t n me sp:Int)(R:List Int)(sh dn:Bool)(x:AL)(y:SWS)(s:MS)(K:AVal->aC Ob->Prop)(hK:bif !ieq sp 0 then(q9' s)/\K (.bool true) [some (.cells [.ptr 1 0,.bool sh,.raw (Value.pointer none),.raw (Value.pointer none),.bool dn]),some (.cells [.int .i64 t,.int .i64 n,.int .i64 me,.int .i64 sp,.slice 4 0 R.length 1]),some (.cells [.int .i64 s.1,.int .i64 s.2,.slice 3 0 s.3.length 1,.int .i64 (s.4+1),.int .i64 1,.int .i64 0,.int .u64 (aE s.3 0),.int .u64 (aE s.3 0),.bool (dU s.3 0)]),some (.ints (some .u64) s.3),some (.ints (some .i64) R)]else(((0:Int)<=me/\me<=(100000:Int))/\(0:Int)<=n/\n<=(100000:Int))/\(True/\True)/\(lE' s.3/\((1:Int)<=t/\t<=(1000:Int))/\((1:Int)<=n/\n<=(1000:Int))/\(((1:Int)<=bif bG n (aO t n me)then aO t n me else 1)/\(bif bG n (aO t n me)then aO t n me else 1)<=n)/\((0:Int)<=n/\n<=(1000:Int))/\(0:Int)<=s.4/\s.4<=(1000000:Int))/\bif oddB (aE s.3 (n+4+bif bG n (aO t n me)then aO t n me else 1))then bif !ile (n - 1) 0 then K (.bool false) [some (.cells [.ptr 1 0,.bool sh,.ptr 5 0,.raw (Value.pointer none),.bool dn]),some (.cells [.int .i64 t,.int .i64 n,.int .i64 me,.int .i64 sp,.slice 4 0 R.length 1]),some (.cells [.int .i64 s.1,.int .i64 s.2,.slice 3 0 s.3.length 1,.int .i64 (s.4+1),.int .i64 1,.int .i64 (n+4+bif bG n (aO t n me)then aO t n me else 1),.int .u64 (aE s.3 (n+4+bif bG n (aO t n me)then aO t n me else 1)),.int .u64 (aE s.3 (n+4+bif bG n (aO t n me)then aO t n me else 1)),.bool (dU s.3 (n+4+bif bG n (aO t n me)then aO t n me else 1))]),some (.ints (some .u64) s.3),some (.ints (some .i64) R),some (.cells [.int .i64 t,.int .i64 n,.int .i64 0,.int .i64 (cU n (bif bG n (aO t n me)then aO t n me else 1)),.int .i64 (n - 1),.int .u64 (aE s.3 (n+4+bif bG n (aO t n me)then aO t n me else 1)),.bool false])]else bif dn then K (.bool true) [some (.cells [.ptr 1 0,.bool true,.ptr 5 0,.ptr 6 0,.bool dn]),some (.cells [.int .i64 t,.int .i64 n,.int .i64 me,.int .i64 0,.slice 4 0 R.length 1]),some (.cells [.int .i64 s.1,.int .i64 s.2,.slice 3 0 s.3.length 1,.int .i64 (s.4+1),.int .i64 1,.int .i64 (n+4+bif bG n (aO t n me)then aO t n me else 1),.int .u64 (aE s.3 (n+4+bif bG n (aO t n me)then aO t n me else 1)),.int .u64 (aE s.3 (n+4+bif bG n (aO t n me)then aO t n me else 1)),.bool (dU s.3 (n+4+bif bG n (aO t n me)then aO t n me else 1))]),some (.ints (some .u64) s.3),some (.ints (some .i64) R),some (.cells [.int .i64 t,.int .i64 n,.int .i64 0,.int .i64 (cU n (bif bG n (aO t n me)then aO t n me else 1)),.int .i64 (n - 1),.int .u64 (aE s.3 (n+4+bif bG n (aO t n me)then aO t n me else 1)),.bool false]),some (.cells [.ptr 1 0,.raw (Value.pointer none)])]else K (.bool (ieq (↑R.length:Int) 0)) [some (.cells [.ptr 1 0,.bool (ieq (↑R.length:Int) 0),.ptr 5 0,.ptr 6 0,.bool dn]),some (.cells [.int .i64 t,.int .i64 n,.int .i64 me,.int .i64 0,.slice 4 0 R.length 1]),some (.cells [.int .i64 s.1,.int .i64 s.2,.slice 3 0 s.3.length 1,.int .i64 (s.4+1),.int .i64 1,.int .i64 (n+4+bif bG n (aO t n me)then aO t n me else 1),.int .u64 (aE s.3 (n+4+bif bG n (aO t n me)then aO t n me else 1)),.int .u64 (aE s.3 (n+4+bif bG n (aO t n me)then aO t n me else 1)),.bool (dU s.3 (n+4+bif bG n (aO t n me)then aO t n me else 1))]),some (.ints (some .u64) s.3),some (.ints (some .i64) R),some (.cells [.int .i64 t,.int .i64 n,.int .i64 0,.int .i64 (cU n (bif bG n (aO t n me)then aO t n me else 1)),.int .i64 (n - 1),.int .u64 (aE s.3 (n+4+bif bG n (aO t n me)then aO t n me else 1)),.bool false]),some (.cells [.ptr 1 0,.raw (Value.pointer none)])]else K (.bool false) [some (.cells [.ptr 1 0,.bool sh,.ptr 5 0,.raw (Value.pointer none),.bool dn]),some (.cells [.int .i64 t,.int .i64 n,.int .i64 me,.int .i64 sp,.slice 4 0 R.length 1]),some (.cells [.int .i64 s.1,.int .i64 s.2,.slice 3 0 s.3.length 1,.int .i64 (s.4+1),.int .i64 1,.int .i64 (n+4+bif bG n (aO t n me)then aO t n me else 1),.int .u64 (aE s.3 (n+4+bif bG n (aO t n me)then aO t n me else 1)),.int .u64 (aE s.3 (n+4+bif bG n (aO t n me)then aO t n me else 1)),.bool (dU s.3 (n+4+bif bG n (aO t n me)then aO t n me else 1))]),some (.ints (some .u64) s.3),some (.ints (some .i64) R),some (.cells [.int .i64 t,.int .i64 n,.int .i64 0,.int .i64 (bif bG n (aO t n me)then aO t n me else 1),.int .i64 n,.int .u64 (aE s.3 (n+4+bif bG n (aO t n me)then aO t n me else 1)),.bool true])]):cT' 154 [.ptr 0 0,.ptr 2 0] [some (.cells [.ptr 1 0,.bool sh,.raw (.pointer none),.raw (.pointer none),.bool dn]),some (.cells [.int .i64 t,.int .i64 n,.int .i64 me,.int .i64 sp,.slice 4 0 R.length 1]),bI 3 s,bJ s,some (.ints (some .i64) R)] K:=by
 refine aLw (cM' (E:=E42) (by kernel_rfl) hK)
theorem aJQ(t n me sp:Int)(R:List Int)(sh dn:Bool)(x:AL)(y:SWS)(s:MS)(K:AVal->aC Ob->Prop)(hK:(lE' s.3/\((1:Int)<=t/\t<=(1000:Int))/\((1:Int)<=n/\n<=(1000:Int))/\((1:Int)<=x.2/\x.2<=n)/\((0:Int)<=x.3/\x.3<=(1000:Int))/\(0:Int)<=s.4/\s.4<=(1000000:Int))/\bif x.5 then bif bH s.3 (n+4+x.2) x.4 then bif !ieq x.2 0 then K (.bool true) [some (.cells [.ptr 1 0,.bool sh,.ptr 5 0,.raw (Value.pointer none),.bool dn]),some (.cells [.int .i64 t,.int .i64 n,.int .i64 me,.int .i64 x.2,.slice 4 0 R.length 1]),some (.cells [.int .i64 s.1,.int .i64 s.2,.slice 3 0 (List.length (bif bH s.3 (n+4+x.2) x.4 then aX s.3 (n+4+x.2) (WU (x.4+1))else s.3)) 1,.int .i64 (s.4+1),.int .i64 3,.int .i64 (n+4+x.2),.int .u64 (aE s.3 (n+4+x.2)),.int .u64 (bif dU s.3 (n+4+x.2)then WU (x.4+1)else 0),.bool (bH s.3 (n+4+x.2) x.4)]),some (.ints (some .u64) (bif bH s.3 (n+4+x.2) x.4 then aX s.3 (n+4+x.2) (WU (x.4+1))else s.3)),some (.ints (some .i64) R),some (.cells [.int .i64 t,.int .i64 n,.int .i64 x.2,.int .i64 x.2,.int .i64 x.3,.int .u64 x.4,.bool true])]else bif dn then K (.bool true) [some (.cells [.ptr 1 0,.bool true,.ptr 5 0,.ptr 6 0,.bool dn]),some (.cells [.int .i64 t,.int .i64 n,.int .i64 me,.int .i64 x.2,.slice 4 0 R.length 1]),some (.cells [.int .i64 s.1,.int .i64 s.2,.slice 3 0 (List.length (bif bH s.3 (n+4+x.2) x.4 then aX s.3 (n+4+x.2) (WU (x.4+1))else s.3)) 1,.int .i64 (s.4+1),.int .i64 3,.int .i64 (n+4+x.2),.int .u64 (aE s.3 (n+4+x.2)),.int .u64 (bif dU s.3 (n+4+x.2)then WU (x.4+1)else 0),.bool (bH s.3 (n+4+x.2) x.4)]),some (.ints (some .u64) (bif bH s.3 (n+4+x.2) x.4 then aX s.3 (n+4+x.2) (WU (x.4+1))else s.3)),some (.ints (some .i64) R),some (.cells [.int .i64 t,.int .i64 n,.int .i64 x.2,.int .i64 x.2,.int .i64 x.3,.int .u64 x.4,.bool true]),some (.cells [.ptr 1 0,.raw (Value.pointer none)])]else K (.bool (ieq (↑R.length:Int) 0)) [some (.cells [.ptr 1 0,.bool (ieq (↑R.length:Int) 0),.ptr 5 0,.ptr 6 0,.bool dn]),some (.cells [.int .i64 t,.int .i64 n,.int .i64 me,.int .i64 x.2,.slice 4 0 R.length 1]),some (.cells [.int .i64 s.1,.int .i64 s.2,.slice 3 0 (List.length (bif bH s.3 (n+4+x.2) x.4 then aX s.3 (n+4+x.2) (WU (x.4+1))else s.3)) 1,.int .i64 (s.4+1),.int .i64 3,.int .i64 (n+4+x.2),.int .u64 (aE s.3 (n+4+x.2)),.int .u64 (bif dU s.3 (n+4+x.2)then WU (x.4+1)else 0),.bool (bH s.3 (n+4+x.2) x.4)]),some (.ints (some .u64) (bif bH s.3 (n+4+x.2) x.4 then aX s.3 (n+4+x.2) (WU (x.4+1))else s.3)),some (.ints (some .i64) R),some (.cells [.int .i64 t,.int .i64 n,.int .i64 x.2,.int .i64 x.2,.int .i64 x.3,.int .u64 x.4,.bool true]),some (.cells [.ptr 1 0,.raw (Value.pointer none)])]else bif !ile (x.3 - 1) 0 then K (.bool false) [some (.cells [.ptr 1 0,.bool sh,.ptr 5 0,.raw (Value.pointer none),.bool dn]),some (.cells [.int .i64 t,.int .i64 n,.int .i64 me,.int .i64 sp,.slice 4 0 R.length 1]),some (.cells [.int .i64 s.1,.int .i64 s.2,.slice 3 0 (List.length (bif bH s.3 (n+4+x.2) x.4 then aX s.3 (n+4+x.2) (WU (x.4+1))else s.3)) 1,.int .i64 (s.4+1),.int .i64 3,.int .i64 (n+4+x.2),.int .u64 (aE s.3 (n+4+x.2)),.int .u64 (bif dU s.3 (n+4+x.2)then WU (x.4+1)else 0),.bool (bH s.3 (n+4+x.2) x.4)]),some (.ints (some .u64) (bif bH s.3 (n+4+x.2) x.4 then aX s.3 (n+4+x.2) (WU (x.4+1))else s.3)),some (.ints (some .i64) R),some (.cells [.int .i64 t,.int .i64 n,.int .i64 x.1,.int .i64 (cU n x.2),.int .i64 (x.3 - 1),.int .u64 x.4,.bool false])]else bif !ieq x.1 0 then K (.bool true) [some (.cells [.ptr 1 0,.bool sh,.ptr 5 0,.raw (Value.pointer none),.bool dn]),some (.cells [.int .i64 t,.int .i64 n,.int .i64 me,.int .i64 x.1,.slice 4 0 R.length 1]),some (.cells [.int .i64 s.1,.int .i64 s.2,.slice 3 0 (List.length (bif bH s.3 (n+4+x.2) x.4 then aX s.3 (n+4+x.2) (WU (x.4+1))else s.3)) 1,.int .i64 (s.4+1),.int .i64 3,.int .i64 (n+4+x.2),.int .u64 (aE s.3 (n+4+x.2)),.int .u64 (bif dU s.3 (n+4+x.2)then WU (x.4+1)else 0),.bool (bH s.3 (n+4+x.2) x.4)]),some (.ints (some .u64) (bif bH s.3 (n+4+x.2) x.4 then aX s.3 (n+4+x.2) (WU (x.4+1))else s.3)),some (.ints (some .i64) R),some (.cells [.int .i64 t,.int .i64 n,.int .i64 x.1,.int .i64 (cU n x.2),.int .i64 (x.3 - 1),.int .u64 x.4,.bool false])]else bif dn then K (.bool true) [some (.cells [.ptr 1 0,.bool true,.ptr 5 0,.ptr 6 0,.bool dn]),some (.cells [.int .i64 t,.int .i64 n,.int .i64 me,.int .i64 x.1,.slice 4 0 R.length 1]),some (.cells [.int .i64 s.1,.int .i64 s.2,.slice 3 0 (List.length (bif bH s.3 (n+4+x.2) x.4 then aX s.3 (n+4+x.2) (WU (x.4+1))else s.3)) 1,.int .i64 (s.4+1),.int .i64 3,.int .i64 (n+4+x.2),.int .u64 (aE s.3 (n+4+x.2)),.int .u64 (bif dU s.3 (n+4+x.2)then WU (x.4+1)else 0),.bool (bH s.3 (n+4+x.2) x.4)]),some (.ints (some .u64) (bif bH s.3 (n+4+x.2) x.4 then aX s.3 (n+4+x.2) (WU (x.4+1))else s.3)),some (.ints (some .i64) R),some (.cells [.int .i64 t,.int .i64 n,.int .i64 x.1,.int .i64 (cU n x.2),.int .i64 (x.3 - 1),.int .u64 x.4,.bool false]),some (.cells [.ptr 1 0,.raw (Value.pointer none)])]else K (.bool (ieq (↑R.length:Int) 0)) [some (.cells [.ptr 1 0,.bool (ieq (↑R.length:Int) 0),.ptr 5 0,.ptr 6 0,.bool dn]),some (.cells [.int .i64 t,.int .i64 n,.int .i64 me,.int .i64 x.1,.slice 4 0 R.length 1]),some (.cells [.int .i64 s.1,.int .i64 s.2,.slice 3 0 (List.length (bif bH s.3 (n+4+x.2) x.4 then aX s.3 (n+4+x.2) (WU (x.4+1))else s.3)) 1,.int .i64 (s.4+1),.int .i64 3,.int .i64 (n+4+x.2),.int .u64 (aE s.3 (n+4+x.2)),.int .u64 (bif dU s.3 (n+4+x.2)then WU (x.4+1)else 0),.bool (bH s.3 (n+4+x.2) x.4)]),some (.ints (some .u64) (bif bH s.3 (n+4+x.2) x.4 then aX s.3 (n+4+x.2) (WU (x.4+1))else s.3)),some (.ints (some .i64) R),some (.cells [.int .i64 t,.int .i64 n,.int .i64 x.1,.int .i64 (cU n x.2),.int .i64 (x.3 - 1),.int .u64 x.4,.bool false]),some (.cells [.ptr 1 0,.raw (Value.pointer none)])]else bif oddB (aE s.3 (n+4+x.2))then bif !ile (x.3 - 1) 0 then K (.bool false) [some (.cells [.ptr 1 0,.bool sh,.ptr 5 0,.raw (Value.pointer none),.bool dn]),some (.cells [.int .i64 t,.int .i64 n,.int .i64 me,.int .i64 sp,.slice 4 0 R.length 1]),some (.cells [.int .i64 s.1,.int .i64 s.2,.slice 3 0 s.3.length 1,.int .i64 (s.4+1),.int .i64 1,.int .i64 (n+4+x.2),.int .u64 (aE s.3 (n+4+x.2)),.int .u64 (aE s.3 (n+4+x.2)),.bool (dU s.3 (n+4+x.2))]),some (.ints (some .u64) s.3),some (.ints (some .i64) R),some (.cells [.int .i64 t,.int .i64 n,.int .i64 x.1,.int .i64 (cU n x.2),.int .i64 (x.3 - 1),.int .u64 (aE s.3 (n+4+x.2)),.bool false])]else bif !ieq x.1 0 then K (.bool true) [some (.cells [.ptr 1 0,.bool sh,.ptr 5 0,.raw (Value.pointer none),.bool dn]),some (.cells [.int .i64 t,.int .i64 n,.int .i64 me,.int .i64 x.1,.slice 4 0 R.length 1]),some (.cells [.int .i64 s.1,.int .i64 s.2,.slice 3 0 s.3.length 1,.int .i64 (s.4+1),.int .i64 1,.int .i64 (n+4+x.2),.int .u64 (aE s.3 (n+4+x.2)),.int .u64 (aE s.3 (n+4+x.2)),.bool (dU s.3 (n+4+x.2))]),some (.ints (some .u64) s.3),some (.ints (some .i64) R),some (.cells [.int .i64 t,.int .i64 n,.int .i64 x.1,.int .i64 (cU n x.2),.int .i64 (x.3 - 1),.int .u64 (aE s.3 (n+4+x.2)),.bool false])]else bif dn then K (.bool true) [some (.cells [.ptr 1 0,.bool true,.ptr 5 0,.ptr 6 0,.bool dn]),some (.cells [.int .i64 t,.int .i64 n,.int .i64 me,.int .i64 x.1,.slice 4 0 R.length 1]),some (.cells [.int .i64 s.1,.int .i64 s.2,.slice 3 0 s.3.length 1,.int .i64 (s.4+1),.int .i64 1,.int .i64 (n+4+x.2),.int .u64 (aE s.3 (n+4+x.2)),.int .u64 (aE s.3 (n+4+x.2)),.bool (dU s.3 (n+4+x.2))]),some (.ints (some .u64) s.3),some (.ints (some .i64) R),some (.cells [.int .i64 t,.int .i64 n,.int .i64 x.1,.int .i64 (cU n x.2),.int .i64 (x.3 - 1),.int .u64 (aE s.3 (n+4+x.2)),.bool false]),some (.cells [.ptr 1 0,.raw (Value.pointer none)])]else K (.bool (ieq (↑R.length:Int) 0)) [some (.cells [.ptr 1 0,.bool (ieq (↑R.length:Int) 0),.ptr 5 0,.ptr 6 0,.bool dn]),some (.cells [.int .i64 t,.int .i64 n,.int .i64 me,.int .i64 x.1,.slice 4 0 R.length 1]),some (.cells [.int .i64 s.1,.int .i64 s.2,.slice 3 0 s.3.length 1,.int .i64 (s.4+1),.int .i64 1,.int .i64 (n+4+x.2),.int .u64 (aE s.3 (n+4+x.2)),.int .u64 (aE s.3 (n+4+x.2)),.bool (dU s.3 (n+4+x.2))]),some (.ints (some .u64) s.3),some (.ints (some .i64) R),some (.cells [.int .i64 t,.int .i64 n,.int .i64 x.1,.int .i64 (cU n x.2),.int .i64 (x.3 - 1),.int .u64 (aE s.3 (n+4+x.2)),.bool false]),some (.cells [.ptr 1 0,.raw (Value.pointer none)])]else K (.bool false) [some (.cells [.ptr 1 0,.bool sh,.ptr 5 0,.raw (Value.pointer none),.bool dn]),some (.cells [.int .i64 t,.int .i64 n,.int .i64 me,.int .i64 sp,.slice 4 0 R.length 1]),some (.cells [.int .i64 s.1,.int .i64 s.2,.slice 3 0 s.3.length 1,.int .i64 (s.4+1),.int .i64 1,.int .i64 (n+4+x.2),.int .u64 (aE s.3 (n+4+x.2)),.int .u64 (aE s.3 (n+4+x.2)),.bool (dU s.3 (n+4+x.2))]),some (.ints (some .u64) s.3),some (.ints (some .i64) R),some (.cells [.int .i64 t,.int .i64 n,.int .i64 x.1,.int .i64 x.2,.int .i64 x.3,.int .u64 (aE s.3 (n+4+x.2)),.bool true])]):cT' 154 [.ptr 0 0,.ptr 2 0] [some (.cells [.ptr 1 0,.bool sh,.ptr 5 0,.raw (.pointer none),.bool dn]),some (.cells [.int .i64 t,.int .i64 n,.int .i64 me,.int .i64 sp,.slice 4 0 R.length 1]),bI 3 s,bJ s,some (.ints (some .i64) R),alE t n x] K:=by
 refine aLw (cM' (E:=E42) (by kernel_rfl) hK)
theorem aJR(t n me sp:Int)(R:List Int)(sh dn:Bool)(x:AL)(y:SWS)(s:MS)(K:AVal->aC Ob->Prop)(hK:((lE' s.3/\lE' R)/\((1:Int)<=t/\t<=(1000:Int))/\((1:Int)<=n/\n<=(1000:Int))/\((0:Int)<=s.4/\s.4<=(1000000:Int))/\R.length<=(1000000:Nat))/\K (.bool false) [some (.cells [.ptr 1 0,.bool sh,.ptr 5 0,.ptr 6 0,.bool dn]),some (.cells [.int .i64 t,.int .i64 n,.int .i64 me,.int .i64 sp,.slice 4 0 R.length 1]),some (.cells [.int .i64 s.1,.int .i64 s.2,.slice 3 0 s.3.length 1,.int .i64 (s.4+1),.int .i64 1,.int .i64 (bD n 0),.int .u64 (aE s.3 (bD n 0)),.int .u64 (aE s.3 (bD n 0)),.bool (dU s.3 (bD n 0))]),some (.ints (some .u64) s.3),some (.ints (some .i64) R),some (.cells [.int .i64 t,.int .i64 n,.int .i64 x.1,.int .i64 x.2,.int .i64 x.3,.int .u64 x.4,.bool x.5]),some (.cells [.ptr 1 0,.ptr 7 0]),some (.cells [.int .i64 t,.int .i64 n,.raw (Value.slice none 0 0),.raw (Value.slice none 0 0),.slice 8 0 R.length 1,.map 9,.int .i64 1,.raw (Value.pointer none)]),some (.ints (some .i64) R),some (.imap .i64 none (aU [] n 0 s))]):cT' 154 [.ptr 0 0,.ptr 2 0] [some (.cells [.ptr 1 0,.bool sh,.ptr 5 0,.ptr 6 0,.bool dn]),some (.cells [.int .i64 t,.int .i64 n,.int .i64 me,.int .i64 sp,.slice 4 0 R.length 1]),bI 3 s,bJ s,some (.ints (some .i64) R),alE t n x,some (.cells [.ptr 1 0,.raw (.pointer none)])] K:=by
 refine aLw (cM' (E:=E42) (by kernel_rfl) hK)
theorem aJS(t n me sp:Int)(R:List Int)(sh dn:Bool)(x:AL)(y:SWS)(s:MS)(K:AVal->aC Ob->Prop)(hK:((lE' s.3/\lE' R/\lE' y.2/\t=t/\n=n)/\((1:Int)<=t/\t<=(1000:Int))/\((1:Int)<=n/\n<=(1000:Int))/\((0:Int)<=s.4/\s.4<=(1000000:Int))/\y.2.length<=(1000000:Nat)/\(0:Int)<=y.4/\y.4<(2:Int)*t)/\bif ieq (y.4+1) (2*t)then bif ieq (↑(List.length (aS (aU y.3 n y.4 s) y.2)):Int) 0 then K (.bool (ieq (↑(List.length (aS (aU y.3 n y.4 s) y.2)):Int) 0)) [some (.cells [.ptr 1 0,.bool (ieq (↑(List.length (aS (aU y.3 n y.4 s) y.2)):Int) 0),.raw (Value.pointer none),.raw (Value.pointer none),.bool true]),some (.cells [.int .i64 t,.int .i64 n,.int .i64 me,.int .i64 sp,.slice 10 0 (List.length (cF (aU y.3 n y.4 s) y.2)) 1]),some (.cells [.int .i64 s.1,.int .i64 s.2,.slice 3 0 s.3.length 1,.int .i64 (s.4+1),.int .i64 1,.int .i64 (bD n y.4),.int .u64 (aE s.3 (bD n y.4)),.int .u64 (aE s.3 (bD n y.4)),.bool (dU s.3 (bD n y.4))]),some (.ints (some .u64) s.3),some (.ints (some .i64) R),some (.cells [.int .i64 t,.int .i64 n,.int .i64 x.1,.int .i64 x.2,.int .i64 x.3,.int .u64 x.4,.bool x.5]),some (.cells [.ptr 1 0,.ptr 7 0]),some (.cells [.int .i64 t,.int .i64 n,.slice 10 0 (List.length (cF (aU y.3 n y.4 s) y.2)) 1,.slice 11 0 (List.length (aS (aU y.3 n y.4 s) y.2)) 1,.slice 8 0 y.2.length 1,.map 9,.int .i64 (y.4+1),.ptr 12 0]),some (.ints (some .i64) y.2),some (.imap .i64 none (aU y.3 n y.4 s)),some (.ints (some .i64) (cF (aU y.3 n y.4 s) y.2)),some (.ints (some .i64) (aS (aU y.3 n y.4 s) y.2)),some (.cells [.int .i64 t,.int .i64 n,.slice 13 0 (List.length (aS (aU y.3 n y.4 s) y.2)) 1]),some (.ints (some .i64) (aS (aU y.3 n y.4 s) y.2))]else K (.bool false) [some (.cells [.ptr 1 0,.bool sh,.ptr 5 0,.ptr 6 0,.bool dn]),some (.cells [.int .i64 t,.int .i64 n,.int .i64 me,.int .i64 sp,.slice 4 0 R.length 1]),some (.cells [.int .i64 s.1,.int .i64 s.2,.slice 3 0 s.3.length 1,.int .i64 (s.4+1),.int .i64 1,.int .i64 (bD n y.4),.int .u64 (aE s.3 (bD n y.4)),.int .u64 (aE s.3 (bD n y.4)),.bool (dU s.3 (bD n y.4))]),some (.ints (some .u64) s.3),some (.ints (some .i64) R),some (.cells [.int .i64 t,.int .i64 n,.int .i64 x.1,.int .i64 x.2,.int .i64 x.3,.int .u64 x.4,.bool x.5]),some (.cells [.ptr 1 0,.ptr 7 0]),some (.cells [.int .i64 t,.int .i64 n,.slice 10 0 (List.length (cF (aU y.3 n y.4 s) y.2)) 1,.slice 11 0 (List.length (aS (aU y.3 n y.4 s) y.2)) 1,.slice 8 0 y.2.length 1,.map 9,.int .i64 (y.4+1),.ptr 12 0]),some (.ints (some .i64) y.2),some (.imap .i64 none (aU y.3 n y.4 s)),some (.ints (some .i64) (cF (aU y.3 n y.4 s) y.2)),some (.ints (some .i64) (aS (aU y.3 n y.4 s) y.2)),some (.cells [.int .i64 t,.int .i64 n,.slice 13 0 (List.length (aS (aU y.3 n y.4 s) y.2)) 1]),some (.ints (some .i64) (aS (aU y.3 n y.4 s) y.2))]else K (.bool false) [some (.cells [.ptr 1 0,.bool sh,.ptr 5 0,.ptr 6 0,.bool dn]),some (.cells [.int .i64 t,.int .i64 n,.int .i64 me,.int .i64 sp,.slice 4 0 R.length 1]),some (.cells [.int .i64 s.1,.int .i64 s.2,.slice 3 0 s.3.length 1,.int .i64 (s.4+1),.int .i64 1,.int .i64 (bD n y.4),.int .u64 (aE s.3 (bD n y.4)),.int .u64 (aE s.3 (bD n y.4)),.bool (dU s.3 (bD n y.4))]),some (.ints (some .u64) s.3),some (.ints (some .i64) R),some (.cells [.int .i64 t,.int .i64 n,.int .i64 x.1,.int .i64 x.2,.int .i64 x.3,.int .u64 x.4,.bool x.5]),some (.cells [.ptr 1 0,.ptr 7 0]),some (.cells [.int .i64 t,.int .i64 n,.raw (Value.slice none 0 0),.raw (Value.slice none 0 0),.slice 8 0 y.2.length 1,.map 9,.int .i64 (y.4+1),.raw (Value.pointer none)]),some (.ints (some .i64) y.2),some (.imap .i64 none (aU y.3 n y.4 s))]):cT' 154 [.ptr 0 0,.ptr 2 0] [some (.cells [.ptr 1 0,.bool sh,.ptr 5 0,.ptr 6 0,.bool dn]),some (.cells [.int .i64 t,.int .i64 n,.int .i64 me,.int .i64 sp,.slice 4 0 R.length 1]),bI 3 s,bJ s,some (.ints (some .i64) R),alE t n x,some (.cells [.ptr 1 0,.ptr 7 0]),some (.cells [.int .i64 t,.int .i64 n,.raw (.slice none 0 0),.raw (.slice none 0 0),.slice 8 0 y.N.length 1,.map 9,.int .i64 y.i,.raw (.pointer none)]),some (.ints (some .i64) y.N),some (.imap .i64 none y.m)] K:=by
 refine aLw (cM' (E:=E42) (by kernel_rfl) hK)
theorem aJT(t n me sp:Int)(R:List Int)(sh dn:Bool)(x:AL)(y:SWS)(s:MS)(K:AVal->aC Ob->Prop)(hK:((lE' s.3/\lE' R/\lE' y.5/\lE' y.6/\lE' y.2/\t=t/\n=n/\t=t/\n=n)/\((1:Int)<=t/\t<=(1000:Int))/\((1:Int)<=n/\n<=(1000:Int))/\((0:Int)<=s.4/\s.4<=(1000000:Int))/\2*t<=y.4/\((1:Nat)<=y.9/\y.7.length=y.8+y.9)/\(-1000000:Int)<=List.getD y.7 (y.8+Int.toNat 0*1) 0/\List.getD y.7 (y.8+Int.toNat 0*1) (0:Int)<=(1000000:Int))/\bif ieq (↑(y.9 - 1):Int) 0 then K (.bool (ieq (↑y.6.length:Int) 0)) [some (.cells [.ptr 1 0,.bool (ieq (↑y.6.length:Int) 0),.raw (Value.pointer none),.raw (Value.pointer none),.bool true]),some (.cells [.int .i64 t,.int .i64 n,.int .i64 me,.int .i64 sp,.slice 8 0 y.5.length 1]),some (.cells [.int .i64 s.1,.int .i64 s.2,.slice 3 0 (List.length (aX s.3 (bS n y.7 y.8) (WU (aE s.3 (bS n y.7 y.8)+1)))) 1,.int .i64 (s.4+1),.int .i64 4,.int .i64 (bS n y.7 y.8),.int .u64 (aE s.3 (bS n y.7 y.8)),.int .u64 (bif dU s.3 (bS n y.7 y.8)then WU (aE s.3 (bS n y.7 y.8)+1)else 0),.bool (dU s.3 (bS n y.7 y.8))]),some (.ints (some .u64) (aX s.3 (bS n y.7 y.8) (WU (aE s.3 (bS n y.7 y.8)+1)))),some (.ints (some .i64) R),some (.cells [.int .i64 t,.int .i64 n,.int .i64 x.1,.int .i64 x.2,.int .i64 x.3,.int .u64 x.4,.bool x.5]),some (.cells [.ptr 1 0,.ptr 7 0]),some (.cells [.int .i64 t,.int .i64 n,.slice 8 0 y.5.length 1,.slice 9 0 y.6.length 1,.slice 10 0 y.2.length 1,.map 11,.int .i64 y.4,.ptr 12 0]),some (.ints (some .i64) y.5),some (.ints (some .i64) y.6),some (.ints (some .i64) y.2),some (.imap .i64 none y.3),some (.cells [.int .i64 t,.int .i64 n,.slice 13 (y.8+1) (y.9 - 1) 1]),some (.ints (some .i64) y.7)]else K (.bool false) [some (.cells [.ptr 1 0,.bool sh,.ptr 5 0,.ptr 6 0,.bool dn]),some (.cells [.int .i64 t,.int .i64 n,.int .i64 me,.int .i64 sp,.slice 4 0 R.length 1]),some (.cells [.int .i64 s.1,.int .i64 s.2,.slice 3 0 (List.length (aX s.3 (bS n y.7 y.8) (WU (aE s.3 (bS n y.7 y.8)+1)))) 1,.int .i64 (s.4+1),.int .i64 4,.int .i64 (bS n y.7 y.8),.int .u64 (aE s.3 (bS n y.7 y.8)),.int .u64 (bif dU s.3 (bS n y.7 y.8)then WU (aE s.3 (bS n y.7 y.8)+1)else 0),.bool (dU s.3 (bS n y.7 y.8))]),some (.ints (some .u64) (aX s.3 (bS n y.7 y.8) (WU (aE s.3 (bS n y.7 y.8)+1)))),some (.ints (some .i64) R),some (.cells [.int .i64 t,.int .i64 n,.int .i64 x.1,.int .i64 x.2,.int .i64 x.3,.int .u64 x.4,.bool x.5]),some (.cells [.ptr 1 0,.ptr 7 0]),some (.cells [.int .i64 t,.int .i64 n,.slice 8 0 y.5.length 1,.slice 9 0 y.6.length 1,.slice 10 0 y.2.length 1,.map 11,.int .i64 y.4,.ptr 12 0]),some (.ints (some .i64) y.5),some (.ints (some .i64) y.6),some (.ints (some .i64) y.2),some (.imap .i64 none y.3),some (.cells [.int .i64 t,.int .i64 n,.slice 13 (y.8+1) (y.9 - 1) 1]),some (.ints (some .i64) y.7)]):cT' 154 [.ptr 0 0,.ptr 2 0] [some (.cells [.ptr 1 0,.bool sh,.ptr 5 0,.ptr 6 0,.bool dn]),some (.cells [.int .i64 t,.int .i64 n,.int .i64 me,.int .i64 sp,.slice 4 0 R.length 1]),bI 3 s,bJ s,some (.ints (some .i64) R),alE t n x,some (.cells [.ptr 1 0,.ptr 7 0]),some (.cells [.int .i64 t,.int .i64 n,.slice 8 0 y.ks.length 1,.slice 9 0 y.fs.length 1,.slice 10 0 y.N.length 1,.map 11,.int .i64 y.i,.ptr 12 0]),some (.ints (some .i64) y.ks),some (.ints (some .i64) y.fs),some (.ints (some .i64) y.N),some (.imap .i64 none y.m),some (.cells [.int .i64 t,.int .i64 n,.slice 13 y.j y.l 1]),some (.ints (some .i64) y.gs)] K:=by
 refine aLw (cM' (E:=E42) (by kernel_rfl) hK)
theorem en2(t n:Int)(e:ENS)(st:STS)(s:MS)(K:AVal->aC Ob->Prop)(hp:e.ph=2)(ok:PO t n e st s)(hK:(enF t n e st s).left t n K):cT' 154 [.ptr 0 0,.ptr 2 0] (ZF t n e st s) K:=by
 obtain⟨ht,hn,hc,hm,hR,ho⟩:=ok;obtain⟨ph,sh,dn,x,y⟩:=e;dsimp only at hp;subst hp;obtain⟨me,sp,R⟩:=st;dsimp only at hm hR;refine aA.pack tbl (aA.pack tbl ?_);refine aA.unpack tbl (.store t n ⟨me,sp,R⟩) 1 0 (dP t n ⟨me,sp,R⟩) [] rfl rfl rfl rfl ?_;refine aA.unpack tbl (.ensure t n ⟨2,sh,dn,x,y⟩) 0 1 (FQ t n ⟨2,sh,dn,x,y⟩) [1] rfl rfl rfl rfl ?_;refine aJR t n me sp R sh dn x y s _ ?_;exact⟨⟨⟨rfl,rfl⟩,ht,hn,hc,hR⟩,iB (o:=enF t n ⟨2,sh,dn,x,y⟩ ⟨me,sp,R⟩ s) [0,1,2,3,4,5,6,7,8,9] hK rfl rfl⟩
theorem en3(t n:Int)(e:ENS)(st:STS)(s:MS)(K:AVal->aC Ob->Prop)(hp:e.ph=3)(ok:PO t n e st s)(hK:(enF t n e st s).left t n K):cT' 154 [.ptr 0 0,.ptr 2 0] (ZF t n e st s) K:=by
 obtain⟨ht,hn,hc,hm,hR,ho⟩:=ok;obtain⟨ph,sh,dn,x,y⟩:=e;dsimp only at hp;subst hp;obtain⟨me,sp,R⟩:=st;dsimp only at hm hR;refine aA.pack tbl (aA.pack tbl ?_);refine aA.unpack tbl (.store t n ⟨me,sp,R⟩) 1 0 (dP t n ⟨me,sp,R⟩) [] rfl rfl rfl rfl ?_;refine aA.unpack tbl (.ensure t n ⟨3,sh,dn,x,y⟩) 0 1 (FQ t n ⟨3,sh,dn,x,y⟩) [1] rfl rfl rfl rfl ?_;refine aJS t n me sp R sh dn x y s _ ?_;have ho:y.N.length<=1000000/\0<=y.i/\y.i<2*t:=ho;refine⟨⟨⟨rfl,rfl,rfl,rfl,rfl⟩,ht,hn,hc,ho.1,ho.2⟩,?_⟩;unfold enF at hK;dsimp only at hK;cases h1:ieq (y.i+1) (2*t)with
 | false=>
   rw [h1]at hK;exact iB (o:=⟨false,⟨3,sh,dn,x,{y with m:=aU y.m n y.i s,i:=y.i+1}⟩,⟨me,sp,R⟩,s.loadd (bD n y.i)⟩) [0,1,2,3,4,5,6,7,8,9] hK rfl rfl
 | true=>
   rw [h1]at hK;cases h2:ieq ((aS (aU y.m n y.i s) y.N).length :Int) 0 with
   | true=>
     rw [h2]at hK;exact iB (o:=⟨true,⟨0,true,true,x,y⟩,⟨me,sp,cF (aU y.m n y.i s) y.N⟩,s.loadd (bD n y.i)⟩) [0,1,2,3,10] hK rfl rfl
   | false=>
     rw [h2]at hK;exact iB (o:=⟨false,⟨4,sh,dn,x,⟨0,y.N,aU y.m n y.i s,y.i+1,cF (aU y.m n y.i s) y.N,aS (aU y.m n y.i s) y.N,aS (aU y.m n y.i s) y.N,0,(aS (aU y.m n y.i s) y.N).length⟩⟩,⟨me,sp,R⟩,s.loadd (bD n y.i)⟩) [0,1,2,3,4,5,6,7,10,11,8,9,12,13] hK rfl rfl
theorem en4(t n:Int)(e:ENS)(st:STS)(s:MS)(K:AVal->aC Ob->Prop)(hp:e.ph=4)(ok:PO t n e st s)(hK:(enF t n e st s).left t n K):cT' 154 [.ptr 0 0,.ptr 2 0] (ZF t n e st s) K:=by
 obtain⟨ht,hn,hc,hm,hR,ho⟩:=ok;obtain⟨ph,sh,dn,x,y⟩:=e;dsimp only at hp;subst hp;obtain⟨me,sp,R⟩:=st;dsimp only at hm hR;refine aA.pack tbl (aA.pack tbl ?_);refine aA.unpack tbl (.store t n ⟨me,sp,R⟩) 1 0 (dP t n ⟨me,sp,R⟩) [] rfl rfl rfl rfl ?_;refine aA.unpack tbl (.ensure t n ⟨4,sh,dn,x,y⟩) 0 1 (FQ t n ⟨4,sh,dn,x,y⟩) [1] rfl rfl rfl rfl ?_;refine aJT t n me sp R sh dn x y s _ ?_;have ho:2*t<=y.i/\1<=y.l/\y.gs.length=y.j+y.l/\ -1000000<=List.getD y.gs (y.j+Int.toNat 0*1) 0/\List.getD y.gs (y.j+Int.toNat 0*1) 0<=1000000:=ho;refine⟨⟨⟨rfl,rfl,rfl,rfl,rfl,rfl,rfl,rfl,rfl⟩,ht,hn,hc,ho.1,⟨ho.2.1,ho.2.2.1⟩,ho.2.2.2⟩,?_⟩;unfold enF at hK;dsimp only at hK;cases h1:ieq ((y.l - 1:Nat):Int) 0 with
 | false=>
   rw [h1]at hK;exact iB (o:=⟨false,⟨4,sh,dn,x,{y with j:=y.j+1,l:=y.l - 1}⟩,⟨me,sp,R⟩,s.added (bS n y.gs y.j) 1⟩) [0,1,2,3,4,5,6,7,8,9,10,11,12,13] hK rfl rfl
 | true=>
   rw [h1]at hK;exact iB (o:=⟨ieq (y.fs.length:Int) 0,⟨0,ieq (y.fs.length:Int) 0,true,x,y⟩,⟨me,sp,y.ks⟩,s.added (bS n y.gs y.j) 1⟩) [0,1,2,3,8] hK rfl rfl
theorem en1(t n:Int)(e:ENS)(st:STS)(s:MS)(K:AVal->aC Ob->Prop)(hp:e.ph=1)(ok:PO t n e st s)(hK:(enF t n e st s).left t n K):cT' 154 [.ptr 0 0,.ptr 2 0] (ZF t n e st s) K:=by
 obtain⟨ht,hn,hc,hm,hR,ho⟩:=ok;obtain⟨ph,sh,dn,x,y⟩:=e;dsimp only at hp;subst hp;obtain⟨me,sp,R⟩:=st;dsimp only at hm hR;refine aA.pack tbl (aA.pack tbl ?_);refine aA.unpack tbl (.store t n ⟨me,sp,R⟩) 1 0 (dP t n ⟨me,sp,R⟩) [] rfl rfl rfl rfl ?_;refine aA.unpack tbl (.ensure t n ⟨1,sh,dn,x,y⟩) 0 1 (FQ t n ⟨1,sh,dn,x,y⟩) [1] rfl rfl rfl rfl ?_;refine aJQ t n me sp R sh dn x y s _ ?_;have ho:okAl n x:=ho;obtain⟨hg,ha,hl⟩:=ho;refine⟨⟨rfl,ht,hn,ha,hl,hc⟩,?_⟩;obtain⟨got,at',left,found,free⟩:=x;dsimp only at hg ha hl⊢;subst hg;have i0:ieq at' 0=false:=by rw [cI];simp;omega
 have aa:ieq 0 0=true:=rfl;rw [i0,aa];unfold enF tA MC at hK;dsimp only at hK;cases free with
 | false=>
   dsimp only [cond]at hK⊢;cases ho:oddB (aE s.xs (n+4+at'))with
   | false=>
     rw [ho]at hK;exact iB (o:=⟨false,⟨1,sh,dn,⟨0,at',left,aE s.xs (n+4+at'),true⟩,y⟩,⟨me,sp,R⟩,s.loadd (n+4+at')⟩) [0,1,2,3,4,5] hK rfl rfl
   | true=>
     rw [ho]at hK;dsimp only [cond]at hK⊢;cases hw:ile (left - 1) 0 with
     | false=>
       rw [hw]at hK;exact iB (o:=⟨false,⟨1,sh,dn,⟨0,cU n at',left - 1,aE s.xs (n+4+at'),false⟩,y⟩,⟨me,sp,R⟩,s.loadd (n+4+at')⟩) [0,1,2,3,4,5] hK rfl rfl
     | true=>
       rw [hw]at hK;cases dn with
       | true=>exact iB (o:=⟨true,⟨2,true,true,⟨0,cU n at',left - 1,aE s.xs (n+4+at'),false⟩,y⟩,⟨me,0,R⟩,s.loadd (n+4+at')⟩) [0,1,2,3,4,5,6] hK rfl rfl
       | false=>exact iB (o:=⟨ieq (R.length:Int) 0,⟨2,ieq (R.length:Int) 0,false,⟨0,cU n at',left - 1,aE s.xs (n+4+at'),false⟩,y⟩,⟨me,0,R⟩,s.loadd (n+4+at')⟩) [0,1,2,3,4,5,6] hK rfl rfl
 | true=>
   dsimp only [cond]at hK⊢;unfold MS.cased at hK;cases hb:bH s.xs (n+4+at') found with
   | true=>
     rw [hb]at hK;exact iB (o:=⟨true,⟨1,sh,dn,⟨at',at',left,found,true⟩,y⟩,⟨me,at',R⟩,_⟩) [0,1,2,3,4,5] hK rfl rfl
   | false=>
     rw [hb]at hK;dsimp only [cond]at hK⊢;cases hw:ile (left - 1) 0 with
     | false=>
       rw [hw]at hK;exact iB (o:=⟨false,⟨1,sh,dn,⟨0,cU n at',left - 1,found,false⟩,y⟩,⟨me,sp,R⟩,_⟩) [0,1,2,3,4,5] hK rfl rfl
     | true=>
       rw [hw]at hK;cases dn with
       | true=>exact iB (o:=⟨true,⟨2,true,true,⟨0,cU n at',left - 1,found,false⟩,y⟩,⟨me,0,R⟩,_⟩) [0,1,2,3,4,5,6] hK rfl rfl
       | false=>exact iB (o:=⟨ieq (R.length:Int) 0,⟨2,ieq (R.length:Int) 0,false,⟨0,cU n at',left - 1,found,false⟩,y⟩,⟨me,0,R⟩,_⟩) [0,1,2,3,4,5,6] hK rfl rfl
theorem en0(t n:Int)(e:ENS)(st:STS)(s:MS)(K:AVal->aC Ob->Prop)(hp:e.ph=0)(ok:PO t n e st s)(hK:(enF t n e st s).left t n K):cT' 154 [.ptr 0 0,.ptr 2 0] (ZF t n e st s) K:=by
 obtain⟨ht,hn,hc,hm,hR,ho⟩:=ok;obtain⟨ph,sh,dn,x,y⟩:=e;dsimp only at hp;subst hp;obtain⟨me,sp,R⟩:=st;dsimp only at hm hR;refine aA.pack tbl (aA.pack tbl ?_);refine aA.unpack tbl (.store t n ⟨me,sp,R⟩) 1 0 (dP t n ⟨me,sp,R⟩) [] rfl rfl rfl rfl ?_;refine aA.unpack tbl (.ensure t n ⟨0,sh,dn,x,y⟩) 0 1 (FQ t n ⟨0,sh,dn,x,y⟩) [1] rfl rfl rfl rfl ?_;refine aJP t n me sp R sh dn x y s _ ?_;unfold enF tA MC at hK;dsimp only at hK;cases hz:ieq sp 0 with
 | false=>
   rw [hz]at hK;exact⟨⟨rfl,by omega⟩,iB (o:=⟨true,⟨0,sh,dn,x,y⟩,⟨me,sp,R⟩,s.loadd 0⟩) [0,1,2,3,4] hK rfl rfl⟩
 | true=>
   rw [hz]at hK
   have ha:1<=at0 t n me/\at0 t n me<=n:=by
    unfold at0 bG;cases h1:(ile 1 (aO t n me))<;>cases h2:ile (aO t n me) n<;>simp only [Bool.and_true,Bool.and_false,Bool.and_self,cond_true,cond_false]<;>rw [cD]at h1 h2<;>simp at h1 h2<;>omega
   refine⟨⟨by omega,by omega⟩,⟨trivial,trivial⟩,⟨rfl,ht,hn,ha,by omega,hc⟩,?_⟩
   show cond (oddB (aE s.xs (n+4+at0 t n me))) _ _;cases ho:oddB (aE s.xs (n+4+at0 t n me))with
   | false=>
     rw [ho]at hK;exact iB (o:=⟨false,⟨1,sh,dn,⟨0,at0 t n me,n,aE s.xs (n+4+at0 t n me),true⟩,y⟩,⟨me,sp,R⟩,s.loadd (n+4+at0 t n me)⟩) [0,1,2,3,4,5] hK rfl rfl
   | true=>
     rw [ho]at hK;dsimp only [cond]at hK⊢;cases hw:ile (n - 1) 0 with
     | false=>
       rw [hw]at hK;exact iB (o:=⟨false,⟨1,sh,dn,⟨0,cU n (at0 t n me),n - 1,aE s.xs (n+4+at0 t n me),false⟩,y⟩,⟨me,sp,R⟩,s.loadd (n+4+at0 t n me)⟩) [0,1,2,3,4,5] hK rfl rfl
     | true=>
       rw [hw]at hK;cases dn with
       | true=>exact iB (o:=⟨true,⟨2,true,true,⟨0,cU n (at0 t n me),n - 1,aE s.xs (n+4+at0 t n me),false⟩,y⟩,⟨me,0,R⟩,s.loadd (n+4+at0 t n me)⟩) [0,1,2,3,4,5,6] hK rfl rfl
       | false=>exact iB (o:=⟨ieq (R.length:Int) 0,⟨2,ieq (R.length:Int) 0,false,⟨0,cU n (at0 t n me),n - 1,aE s.xs (n+4+at0 t n me),false⟩,y⟩,⟨me,0,R⟩,s.loadd (n+4+at0 t n me)⟩) [0,1,2,3,4,5,6] hK rfl rfl
theorem JJ(t n:Int)(e:ENS)(st:STS)(s:MS)(K:AVal->aC Ob->Prop)(ok:PO t n e st s)(hK:(enF t n e st s).left t n K):cT' 154 [.ptr 0 0,.ptr 2 0] (ZF t n e st s) K:=by
 match h:e.ph with
 | 0=>exact en0 t n e st s K h ok hK
 | 1=>exact en1 t n e st s K h ok hK
 | 2=>exact en2 t n e st s K h ok hK
 | 3=>exact en3 t n e st s K h ok hK
 | 4=>exact en4 t n e st s K h ok hK
 | k+5=>have:=ok.ho;unfold aIR at this;rw [h]at this;exact this.elim
noncomputable def enS:aI Ob:=fun args h=>match args,h with
 | [.ptr 0 0,.ptr 2 0],[some (.abs (.ensure t n e) [1]),some (.abs (.store t' n' st) []),e1,e2]=>(match cQ 3 [e1,e2]with
   | some (l,s)=>some (.pre ((l=s.xs.length/\t'=t/\n'=n)/\PO t n e st s) (.ret (.bool (enF t n e st s).d) (ZF t n (enF t n e st s).e (enF t n e st s).st (enF t n e st s).s)))
   | none=>none)
 | _,_=>none
theorem aHT:aI.ok E42.I Tryz.prog 154 enS:=by
 intro args h o ho K hK;unfold enS at ho;split at ho
 case h_2=>cases ho
 split at ho
 case h_2=>cases ho
 rename_i hm;cases ho;obtain⟨⟨⟨hl,aa,ac⟩,ok⟩,hK⟩:=hK;have hh:=bB hm hl;cases hh;subst aa ac;exact JJ _ _ _ _ _ K ok hK
noncomputable def enE:=E42.addS 154 enS aHT
structure SO where
 d:Bool
 e:SWS
 st:STS
 s:MS
instance:Inhabited SO:=⟨⟨false,dB,⟨0,0,[]⟩,⟨0,0,[],0,0,0,0,0,false⟩⟩⟩
def swF(t n:Int)(y:SWS)(st:STS)(s:MS):SO:=match y.ph with
 | 0=>⟨false,{y with ph:=1,N:=st.R,m:=aU [] n 0 s,i:=1},st,s.loadd (bD n 0)⟩
 | 1=>(match ieq (y.i+1) (2*t),ieq ((aS (aU y.m n y.i s) y.N).length :Int) 0 with
   | true,true=>⟨true,{y with ph:=3},{st with R:=cF (aU y.m n y.i s) y.N},s.loadd (bD n y.i)⟩
   | true,false=>⟨false,⟨2,y.N,aU y.m n y.i s,y.i+1,cF (aU y.m n y.i s) y.N,aS (aU y.m n y.i s) y.N,aS (aU y.m n y.i s) y.N,0,(aS (aU y.m n y.i s) y.N).length⟩,st,s.loadd (bD n y.i)⟩
   | false,_=>⟨false,{y with m:=aU y.m n y.i s,i:=y.i+1},st,s.loadd (bD n y.i)⟩)
 | _=>(match ieq ((y.l - 1:Nat):Int) 0 with
   | true=>⟨true,{y with ph:=3},{st with R:=y.ks},s.added (bS n y.gs y.j) 1⟩
   | false=>⟨false,{y with j:=y.j+1,l:=y.l - 1},st,s.added (bS n y.gs y.j) 1⟩)
def aCF(t n:Int)(y:SWS):Prop:=match y.ph with
 | 0=>True
 | 1=>y.N.length<=1000000/\0<=y.i/\y.i<2*t
 | 2=>2*t<=y.i/\1<=y.l/\y.gs.length=y.j+y.l/\ -1000000<=List.getD y.gs (y.j+Int.toNat 0*1) 0/\List.getD y.gs (y.j+Int.toNat 0*1) 0<=1000000
 | _=>False
structure uG (t n:Int) (y:SWS) (st:STS) (s:MS):Prop where
 ht:1<=t/\t<=1000
 hn:1<=n/\n<=1000
 hc:0<=s.c/\s.c<=1000000
 hR:st.R.length<=1000000
 ho:aCF t n y
def swH(t n:Int)(y:SWS)(st:STS)(s:MS):aC Ob:=[some (.abs (.sweep t n y) [1]),some (.abs (.store t n st) []),bI 3 s,bJ s]
def SO.left(o:SO)(t n:Int)(K:AVal->aC Ob->Prop):Prop:=K (.bool o.d) (swH t n o.e o.st o.s)
theorem zI{K:AVal->aC Ob->Prop}{t n:Int}{o:SO}{g':aC Ob}(pl:List Nat)(hK:o.left t n K)
 (hb:(dW pl g'.length&&iJ pl 0 4&&obOk 1 (O7 t n o.e))=true)
 (hT:gQ pl g'=aP [some (.abs (.sweep t n o.e) [1]),some (.cells [.int .i64 t,.int .i64 n,.int .i64 o.st.me,.int .i64 o.st.sp,.slice 4 0 o.st.R.length 1]),bI 3 o.s,bJ o.s,some (.ints (some .i64) o.st.R)] 0 1 (O7 t n o.e) [1]):BM tbl 4 (BM tbl 4 K) (.bool o.d) g':=by
 simp only [Bool.and_eq_true]at hb;obtain⟨⟨b1,b2⟩,b3⟩:=hb;refine⟨pl,_,.sweep t n o.e,0,1,_,[1],?_,hT,rfl,rfl,⟨[0,1,2,3,4],[some (.abs (.sweep t n o.e) [1]),some (.abs (.store t n o.st) []),bI 3 o.s,bJ o.s],.store t n o.st,1,0,dP t n o.st,[],rfl,rfl,rfl,rfl,?_⟩⟩
 ·rw [b1,b2,b3];rfl
 ·exact hK
abbrev w02(R:List Int)(me n sp t:Int):Option (aG Ob):=some (.cells [.int .i64 t,.int .i64 n,.int .i64 me,.int .i64 sp,.slice 4 0 R.length 1])
abbrev w04:Option (aG Ob):=some (.cells [.ptr 1 0,.ptr 5 0])
def VG(t n me sp:Int)(R:List Int)(y:SWS)(s:MS)(K:AVal->aC Ob->Prop):Prop:=((lE' s.3/\lE' R)/\((1:Int)<=t/\t<=(1000:Int))/\((1:Int)<=n/\n<=(1000:Int))/\((0:Int)<=s.4/\s.4<=(1000000:Int))/\R.length<=(1000000:Nat))/\K (.bool false) [w04,w02 R me n sp t,some (.cells [.int .i64 s.1,.int .i64 s.2,.slice 3 0 s.3.length 1,.int .i64 (s.4+1),.int .i64 1,.int .i64 (bD n 0),.int .u64 (aE s.3 (bD n 0)),.int .u64 (aE s.3 (bD n 0)),.bool (dU s.3 (bD n 0))]),some (.ints (some .u64) s.3),some (.ints (some .i64) R),some (.cells [.int .i64 t,.int .i64 n,.raw (Value.slice none 0 0),.raw (Value.slice none 0 0),.slice 6 0 R.length 1,.map 7,.int .i64 1,.raw (Value.pointer none)]),some (.ints (some .i64) R),some (.imap .i64 none (aU [] n 0 s))]
abbrev w06(R:List Int)(me n:Int)(s:MS)(sp t:Int):aC Ob:=[some (.cells [.ptr 1 0,.raw (.pointer none)]),some (.cells [.int .i64 t,.int .i64 n,.int .i64 me,.int .i64 sp,.slice 4 0 R.length 1]),bI 3 s,bJ s,some (.ints (some .i64) R)]
theorem aKh(t n me sp:Int)(R:List Int)(y:SWS)(s:MS)(K:AVal->aC Ob->Prop)(hK:VG t n me sp R y s K):cT' 169 [.ptr 0 0,.ptr 2 0] (w06 R me n s sp t) K:=
 (kI pK) _ _ _ (Ev.get (aJ (p:=nZ swStepS [.ptr 0 0,.ptr 2 0] (w06 R me n s sp t) K) (q:=VG t n me sp R y s K) (by kernel_rfl) hK))
abbrev w00(n:Int)(s:MS)(y:SWS):Option (aG Ob):=some (.cells [.int .i64 s.1,.int .i64 s.2,.slice 3 0 s.3.length 1,.int .i64 (s.4+1),.int .i64 1,.int .i64 (bD n y.4),.int .u64 (aE s.3 (bD n y.4)),.int .u64 (aE s.3 (bD n y.4)),.bool (dU s.3 (bD n y.4))])
abbrev w03(n:Int)(s:MS)(t:Int)(y:SWS):Option (aG Ob):=some (.cells [.int .i64 t,.int .i64 n,.slice 8 0 (List.length (cF (aU y.3 n y.4 s) y.2)) 1,.slice 9 0 (List.length (aS (aU y.3 n y.4 s) y.2)) 1,.slice 6 0 y.2.length 1,.map 7,.int .i64 (y.4+1),.ptr 10 0])
def VH(t n me sp:Int)(R:List Int)(y:SWS)(s:MS)(K:AVal->aC Ob->Prop):Prop:=((lE' s.3/\lE' R/\lE' y.2/\t=t/\n=n)/\((1:Int)<=t/\t<=(1000:Int))/\((1:Int)<=n/\n<=(1000:Int))/\((0:Int)<=s.4/\s.4<=(1000000:Int))/\y.2.length<=(1000000:Nat)/\(0:Int)<=y.4/\y.4<(2:Int)*t)/\bif ieq (y.4+1) (2*t)then bif ieq (↑(List.length (aS (aU y.3 n y.4 s) y.2)):Int) 0 then K (.bool true) [w04,some (.cells [.int .i64 t,.int .i64 n,.int .i64 me,.int .i64 sp,.slice 8 0 (List.length (cF (aU y.3 n y.4 s) y.2)) 1]),w00 n s y,some (.ints (some .u64) s.3),some (.ints (some .i64) R),w03 n s t y,some (.ints (some .i64) y.2),some (.imap .i64 none (aU y.3 n y.4 s)),some (.ints (some .i64) (cF (aU y.3 n y.4 s) y.2)),some (.ints (some .i64) (aS (aU y.3 n y.4 s) y.2)),some (.cells [.int .i64 t,.int .i64 n,.slice 11 0 (List.length (aS (aU y.3 n y.4 s) y.2)) 1]),some (.ints (some .i64) (aS (aU y.3 n y.4 s) y.2))]else K (.bool false) [w04,w02 R me n sp t,w00 n s y,some (.ints (some .u64) s.3),some (.ints (some .i64) R),w03 n s t y,some (.ints (some .i64) y.2),some (.imap .i64 none (aU y.3 n y.4 s)),some (.ints (some .i64) (cF (aU y.3 n y.4 s) y.2)),some (.ints (some .i64) (aS (aU y.3 n y.4 s) y.2)),some (.cells [.int .i64 t,.int .i64 n,.slice 11 0 (List.length (aS (aU y.3 n y.4 s) y.2)) 1]),some (.ints (some .i64) (aS (aU y.3 n y.4 s) y.2))]else K (.bool false) [w04,w02 R me n sp t,w00 n s y,some (.ints (some .u64) s.3),some (.ints (some .i64) R),some (.cells [.int .i64 t,.int .i64 n,.raw (Value.slice none 0 0),.raw (Value.slice none 0 0),.slice 6 0 y.2.length 1,.map 7,.int .i64 (y.4+1),.raw (Value.pointer none)]),some (.ints (some .i64) y.2),some (.imap .i64 none (aU y.3 n y.4 s))]
abbrev w07(R:List Int)(me n:Int)(s:MS)(sp t:Int)(y:SWS):aC Ob:=[some (.cells [.ptr 1 0,.ptr 5 0]),some (.cells [.int .i64 t,.int .i64 n,.int .i64 me,.int .i64 sp,.slice 4 0 R.length 1]),bI 3 s,bJ s,some (.ints (some .i64) R),some (.cells [.int .i64 t,.int .i64 n,.raw (.slice none 0 0),.raw (.slice none 0 0),.slice 6 0 y.N.length 1,.map 7,.int .i64 y.i,.raw (.pointer none)]),some (.ints (some .i64) y.N),some (.imap .i64 none y.m)]
theorem aKi(t n me sp:Int)(R:List Int)(y:SWS)(s:MS)(K:AVal->aC Ob->Prop)(hK:VH t n me sp R y s K):cT' 169 [.ptr 0 0,.ptr 2 0] (w07 R me n s sp t y) K:=
 (kI pK) _ _ _ (Ev.get (aJ (p:=nZ swStepS [.ptr 0 0,.ptr 2 0] (w07 R me n s sp t y) K) (q:=VH t n me sp R y s K) (by kernel_rfl) hK))
abbrev w01(n:Int)(s:MS)(y:SWS):Option (aG Ob):=some (.cells [.int .i64 s.1,.int .i64 s.2,.slice 3 0 (List.length (aX s.3 (bS n y.7 y.8) (WU (aE s.3 (bS n y.7 y.8)+1)))) 1,.int .i64 (s.4+1),.int .i64 4,.int .i64 (bS n y.7 y.8),.int .u64 (aE s.3 (bS n y.7 y.8)),.int .u64 (bif dU s.3 (bS n y.7 y.8)then WU (aE s.3 (bS n y.7 y.8)+1)else 0),.bool (dU s.3 (bS n y.7 y.8))])
abbrev w05(n t:Int)(y:SWS):List AVal:=[.int .i64 t,.int .i64 n,.slice 6 0 y.5.length 1,.slice 7 0 y.6.length 1,.slice 8 0 y.2.length 1,.map 9,.int .i64 y.4,.ptr 10 0]
def VI(t n me sp:Int)(R:List Int)(y:SWS)(s:MS)(K:AVal->aC Ob->Prop):Prop:=((lE' s.3/\lE' R/\lE' y.5/\lE' y.6/\lE' y.2/\t=t/\n=n/\t=t/\n=n)/\((1:Int)<=t/\t<=(1000:Int))/\((1:Int)<=n/\n<=(1000:Int))/\((0:Int)<=s.4/\s.4<=(1000000:Int))/\2*t<=y.4/\((1:Nat)<=y.9/\y.7.length=y.8+y.9)/\(-1000000:Int)<=List.getD y.7 (y.8+Int.toNat 0*1) 0/\List.getD y.7 (y.8+Int.toNat 0*1) (0:Int)<=(1000000:Int))/\bif ieq (↑(y.9 - 1):Int) 0 then K (.bool true) [w04,some (.cells [.int .i64 t,.int .i64 n,.int .i64 me,.int .i64 sp,.slice 6 0 y.5.length 1]),w01 n s y,some (.ints (some .u64) (aX s.3 (bS n y.7 y.8) (WU (aE s.3 (bS n y.7 y.8)+1)))),some (.ints (some .i64) R),some (.cells (w05 n t y)),some (.ints (some .i64) y.5),some (.ints (some .i64) y.6),some (.ints (some .i64) y.2),some (.imap .i64 none y.3),some (.cells [.int .i64 t,.int .i64 n,.slice 11 (y.8+1) (y.9 - 1) 1]),some (.ints (some .i64) y.7)]else K (.bool false) [w04,w02 R me n sp t,w01 n s y,some (.ints (some .u64) (aX s.3 (bS n y.7 y.8) (WU (aE s.3 (bS n y.7 y.8)+1)))),some (.ints (some .i64) R),some (.cells (w05 n t y)),some (.ints (some .i64) y.5),some (.ints (some .i64) y.6),some (.ints (some .i64) y.2),some (.imap .i64 none y.3),some (.cells [.int .i64 t,.int .i64 n,.slice 11 (y.8+1) (y.9 - 1) 1]),some (.ints (some .i64) y.7)]
abbrev w08(R:List Int)(me n:Int)(s:MS)(sp t:Int)(y:SWS):aC Ob:=[some (.cells [.ptr 1 0,.ptr 5 0]),some (.cells [.int .i64 t,.int .i64 n,.int .i64 me,.int .i64 sp,.slice 4 0 R.length 1]),bI 3 s,bJ s,some (.ints (some .i64) R),some (.cells [.int .i64 t,.int .i64 n,.slice 6 0 y.ks.length 1,.slice 7 0 y.fs.length 1,.slice 8 0 y.N.length 1,.map 9,.int .i64 y.i,.ptr 10 0]),some (.ints (some .i64) y.ks),some (.ints (some .i64) y.fs),some (.ints (some .i64) y.N),some (.imap .i64 none y.m),some (.cells [.int .i64 t,.int .i64 n,.slice 11 y.j y.l 1]),some (.ints (some .i64) y.gs)]
theorem aKj(t n me sp:Int)(R:List Int)(y:SWS)(s:MS)(K:AVal->aC Ob->Prop)(hK:VI t n me sp R y s K):cT' 169 [.ptr 0 0,.ptr 2 0] (w08 R me n s sp t y) K:=
 (kI pK) _ _ _ (Ev.get (aJ (p:=nZ swStepS [.ptr 0 0,.ptr 2 0] (w08 R me n s sp t y) K) (q:=VI t n me sp R y s K) (by kernel_rfl) hK))
theorem wc{x y:Option (aG Ob)}{g g2:aC Ob}(h:qA x y)(k:mN g g2):mN (x::g) (y::g2):=⟨h,k⟩
theorem wv{v w:AVal}{vs ws:List AVal}(h:w=v\/w=.O)(k:oX vs ws):oX (v::vs) (w::ws):=⟨h,k⟩
theorem aKn:oX [] []:=trivial
theorem aI6{vs ws:List AVal}(h:oX vs ws):qA (some (.cells vs):Option (aG Ob)) (some (.cells ws)):=h
theorem wvs: ∀vs:List AVal,oX vs vs
 | []=>trivial
 | v::vs=>⟨.inl rfl,wvs vs⟩
theorem aJd: ∀x:Option (aG Ob),qA x x
 | none=>trivial
 | some (.cells vs)=>wvs vs
 | some (.ints c xs)=>rfl
 | some (.abs t ps)=>rfl
 | some (.tab ks r)=>rfl
 | some (.imap k v m)=>rfl
 | some (.iter _ _ _ _ _ _)=>rfl
theorem I1: ∀g:aC Ob,mN g g
 | []=>trivial
 | x::g=>⟨aJd x,I1 g⟩
theorem vA{K:AVal->aC Ob->Prop}{v:AVal}{g:aC Ob}(h:K v g):PR K v g:=⟨g,I1 g,h⟩
theorem D8{K:AVal->aC Ob->Prop}{v a b:AVal}{g:aC Ob}(h:K v (some (.cells [a,.O])::g)):PR K v (some (.cells [a,b])::g):=⟨_,wc (aI6 (wv (.inl rfl) (wv (.inr rfl) aKn))) (I1 g),h⟩
theorem sw0(t n:Int)(y:SWS)(st:STS)(s:MS)(K:AVal->aC Ob->Prop)(hp:y.ph=0)(ok:uG t n y st s)(hK:(swF t n y st s).left t n K):cT' 169 [.ptr 0 0,.ptr 2 0] (swH t n y st s) K:=by
 obtain⟨ht,hn,hc,hR,ho⟩:=ok;obtain⟨ph,N,m,i,ks,fs,gs,j,l⟩:=y;dsimp only at hp;subst hp;obtain⟨me,sp,R⟩:=st;dsimp only at hR;refine aA.pack tbl (aA.pack tbl (aA.less ?_));refine aA.unpack tbl (.store t n ⟨me,sp,R⟩) 1 0 (dP t n ⟨me,sp,R⟩) [] rfl rfl rfl rfl ?_;refine aA.unpack tbl (.sweep t n ⟨0,N,m,i,ks,fs,gs,j,l⟩) 0 1 (O7 t n ⟨0,N,m,i,ks,fs,gs,j,l⟩) [1] rfl rfl rfl rfl ?_;refine aKh t n me sp R ⟨0,N,m,i,ks,fs,gs,j,l⟩ s _ ?_;unfold VG;exact⟨⟨⟨rfl,rfl⟩,ht,hn,hc,hR⟩,vA (zI (o:=swF t n ⟨0,N,m,i,ks,fs,gs,j,l⟩ ⟨me,sp,R⟩ s) [0,1,2,3,4,5,6,7] hK rfl rfl)⟩
theorem sw1(t n:Int)(y:SWS)(st:STS)(s:MS)(K:AVal->aC Ob->Prop)(hp:y.ph=1)(ok:uG t n y st s)(hK:(swF t n y st s).left t n K):cT' 169 [.ptr 0 0,.ptr 2 0] (swH t n y st s) K:=by
 obtain⟨ht,hn,hc,hR,ho⟩:=ok;obtain⟨ph,N,m,i,ks,fs,gs,j,l⟩:=y;dsimp only at hp;subst hp;obtain⟨me,sp,R⟩:=st;dsimp only at hR;refine aA.pack tbl (aA.pack tbl (aA.less ?_));refine aA.unpack tbl (.store t n ⟨me,sp,R⟩) 1 0 (dP t n ⟨me,sp,R⟩) [] rfl rfl rfl rfl ?_;refine aA.unpack tbl (.sweep t n ⟨1,N,m,i,ks,fs,gs,j,l⟩) 0 1 (O7 t n ⟨1,N,m,i,ks,fs,gs,j,l⟩) [1] rfl rfl rfl rfl ?_;refine aKi t n me sp R ⟨1,N,m,i,ks,fs,gs,j,l⟩ s _ ?_;unfold VH;have ho:N.length<=1000000/\0<=i/\i<2*t:=ho;refine⟨⟨⟨rfl,rfl,rfl,rfl,rfl⟩,ht,hn,hc,ho.1,ho.2⟩,?_⟩;unfold swF at hK;dsimp only at hK⊢;cases h1:ieq (i+1) (2*t)with
 | false=>
   rw [h1]at hK;exact vA (zI (o:=⟨false,⟨1,N,aU m n i s,i+1,ks,fs,gs,j,l⟩,⟨me,sp,R⟩,s.loadd (bD n i)⟩) [0,1,2,3,4,5,6,7] hK rfl rfl)
 | true=>
   rw [h1]at hK;cases h2:ieq ((aS (aU m n i s) N).length :Int) 0 with
   | true=>
     rw [h2]at hK;exact D8 (zI (o:=⟨true,⟨3,N,m,i,ks,fs,gs,j,l⟩,⟨me,sp,cF (aU m n i s) N⟩,s.loadd (bD n i)⟩) [0,1,2,3,8] hK rfl rfl)
   | false=>
     rw [h2]at hK;exact vA (zI (o:=⟨false,⟨2,N,aU m n i s,i+1,cF (aU m n i s) N,aS (aU m n i s) N,aS (aU m n i s) N,0,(aS (aU m n i s) N).length⟩,⟨me,sp,R⟩,s.loadd (bD n i)⟩) [0,1,2,3,4,5,8,9,6,7,10,11] hK rfl rfl)
theorem sw2(t n:Int)(y:SWS)(st:STS)(s:MS)(K:AVal->aC Ob->Prop)(hp:y.ph=2)(ok:uG t n y st s)(hK:(swF t n y st s).left t n K):cT' 169 [.ptr 0 0,.ptr 2 0] (swH t n y st s) K:=by
 obtain⟨ht,hn,hc,hR,ho⟩:=ok;obtain⟨ph,N,m,i,ks,fs,gs,j,l⟩:=y;dsimp only at hp;subst hp;obtain⟨me,sp,R⟩:=st;dsimp only at hR;refine aA.pack tbl (aA.pack tbl (aA.less ?_));refine aA.unpack tbl (.store t n ⟨me,sp,R⟩) 1 0 (dP t n ⟨me,sp,R⟩) [] rfl rfl rfl rfl ?_;refine aA.unpack tbl (.sweep t n ⟨2,N,m,i,ks,fs,gs,j,l⟩) 0 1 (O7 t n ⟨2,N,m,i,ks,fs,gs,j,l⟩) [1] rfl rfl rfl rfl ?_;refine aKj t n me sp R ⟨2,N,m,i,ks,fs,gs,j,l⟩ s _ ?_;unfold VI;have ho:2*t<=i/\1<=l/\gs.length=j+l/\ -1000000<=List.getD gs (j+Int.toNat 0*1) 0/\List.getD gs (j+Int.toNat 0*1) 0<=1000000:=ho;refine⟨⟨⟨rfl,rfl,rfl,rfl,rfl,rfl,rfl,rfl,rfl⟩,ht,hn,hc,ho.1,⟨ho.2.1,ho.2.2.1⟩,ho.2.2.2⟩,?_⟩;unfold swF at hK;dsimp only at hK⊢;cases h1:ieq ((l - 1:Nat):Int) 0 with
 | false=>
   rw [h1]at hK;exact vA (zI (o:=⟨false,⟨2,N,m,i,ks,fs,gs,j+1,l - 1⟩,⟨me,sp,R⟩,s.added (bS n gs j) 1⟩) [0,1,2,3,4,5,6,7,8,9,10,11] hK rfl rfl)
 | true=>
   rw [h1]at hK;exact D8 (zI (o:=⟨true,⟨3,N,m,i,ks,fs,gs,j,l⟩,⟨me,sp,ks⟩,s.added (bS n gs j) 1⟩) [0,1,2,3,6] hK rfl rfl)
theorem aBI(t n:Int)(y:SWS)(st:STS)(s:MS)(K:AVal->aC Ob->Prop)(ok:uG t n y st s)(hK:(swF t n y st s).left t n K):cT' 169 [.ptr 0 0,.ptr 2 0] (swH t n y st s) K:=by
 match h:y.ph with
 | 0=>exact sw0 t n y st s K h ok hK
 | 1=>exact sw1 t n y st s K h ok hK
 | 2=>exact sw2 t n y st s K h ok hK
 | k+3=>have:=ok.ho;unfold aCF at this;rw [h]at this;exact this.elim
theorem fV{I:Itp Ob}{n:Nat}{K:AVal->aC Ob->Prop}{d:Bool}{a b g:aC Ob}(hK:(Out.ite d (.ret (.bool true) a) (.ret (.bool false) b)).run K)(h1:K (.bool true) a->cS I n K (.bool true) g)(h2:d=false->K (.bool false) b->cS I n K (.bool false) g):cS I n K (.bool d) g:=by
 cases d with
 | true=>exact h1 hK
 | false=>exact h2 rfl hK
theorem tkP{n:Nat}{v:AVal}{g h2:aC Ob}{K:AVal->aC Ob->Prop}(h:K v h2)(t:Ob)(l np:Nat)(e:aC Ob)(ps:List Nat)(hg:g=aP h2 l np e ps:=by kernel_rfl)(hl:aL h2 l=some (.abs t ps):=by exact rfl)(ht:tbl t=(np,e):=by exact rfl)
 (hb:(Nat.ble n h2.length&&obOk np e&&l8 h2 l ps&&v.within (upto 0 h2.length)&&Nat.beq ps.length np)=true:=by kernel_rfl):cS (obI tbl) n K v g:=⟨⟨_,_,aF.pack h2 t l np e ps hg hl ht hb,h⟩⟩
theorem xU{n:Nat}{v:AVal}{g h2 e1:aC Ob}{t1:Ob}{np1:Nat}{K:AVal->aC Ob->Prop}(h:K v h2)(t:Ob)(l np:Nat)(e:aC Ob)(ps:List Nat)(l1:Nat)(ps1:List Nat)(hl1:aL h2 l1=some (.abs t1 ps1))(ht1:tbl t1=(np1,e1))
 (hg:g=aP (aP h2 l1 np1 e1 ps1) l np e ps:=by kernel_rfl) (hl:aL (aP h2 l1 np1 e1 ps1) l=some (.abs t ps):=by exact rfl) (ht:tbl t=(np,e):=by exact rfl)
 (hb:(Nat.ble n (aP h2 l1 np1 e1 ps1).length &&obOk np e&&l8 (aP h2 l1 np1 e1 ps1) l ps&&v.within (upto 0 (aP h2 l1 np1 e1 ps1).length)&&Nat.beq ps.length np)=true:=by kernel_rfl)
 (hb1:(Nat.ble n h2.length&&obOk np1 e1&&l8 h2 l1 ps1&&v.within (upto 0 h2.length)&&Nat.beq ps1.length np1)=true:=by kernel_rfl):cS (obI tbl) n K v g:=⟨⟨_,_,(aF.pack _ t l np e ps hg hl ht hb).trans (aF.pack h2 t1 l1 np1 e1 ps1 rfl hl1 ht1 hb1),h⟩⟩
theorem FI{n:Nat}{v:AVal}{g h2:aC Ob}{K:AVal->aC Ob->Prop}(h:K v h2)(pos pl:List Nat)(t:Ob)(l np:Nat)(e:aC Ob)(ps:List Nat)(hp:(dW pl (aBN g 0 pos).length &&iJ pl 0 n)=true:=by exact rfl)(hv:lI pl v=v:=by kernel_rfl)(hg:gQ pl (aBN g 0 pos)=aP h2 l np e ps:=by kernel_rfl)(hl:aL h2 l=some (.abs t ps):=by exact rfl)(ht:tbl t=(np,e):=by exact rfl)
 (hb:(Nat.ble n h2.length&&obOk np e&&l8 h2 l ps&&v.within (upto 0 h2.length)&&Nat.beq ps.length np)=true:=by kernel_rfl):cS (obI tbl) n K v g:=⟨⟨_,_,(aF.weak (eH g 0 pos)).trans ((aF.pick pl hp).trans ((aLE hv hg).trans (aF.pack h2 t l np e ps rfl hl ht hb))),h⟩⟩
abbrev lJ(l:Nat)(t n:Int)(st:STS):Option (aG Mc):=some (.cells [.I t,.I n,.I st.me,.I st.sp,.slice l 0 st.R.length 1])
abbrev pJ(st:STS):Option (aG Mc):=some (.ints (some .i64) st.R)
def l9(w:Nat)(h:aC Ob):Option (Nat×Int×Int×STS):=match h with
 | [some (.cells [.int .i64 t,.int .i64 n,.int .i64 me,.int .i64 sp,.slice l 0 len 1]),some (.ints (some .i64) xs)]=>if l=w then some (len,t,n,⟨me,sp,xs⟩)else none
 | _=>none
theorem cB{w:Nat}{h:aC Ob}{l:Nat}{t n:Int}{st:STS}(e:l9 w h=some (l,t,n,st))(hl:l=st.R.length):h=[lJ w t n st,pJ st]:=by
 unfold l9 at e;split at e
 ·split at e
  ·rename_i hw;cases e;subst hw;simp only at hl;subst hl;rfl
  ·cases e
 ·cases e
theorem kP{f:FuncId}{t n:Int}{st st':STS}{s s':MS}{M:Mc}{e1 e2:aG Mc}{d:Bool}(h1: ∀ι:Nat->Nat,ι 1=1->e1.ren ι=e1)(h2: ∀ι:Nat->Nat,ι 1=1->e2.ren ι=e2)
 (hA: ∀K,(Out.ite d (.ret (.bool true) [some e1,some (.abs (.store t n st') []),bI 3 s',bJ s']) (.ret (.bool false) [some e2,some (.abs (.store t n st') []),bI 3 s',bJ s'])).run K->cT' f [.ptr 0 0,.ptr 2 0] [some (.abs M [1]),some (.abs (.store t n st) []),bI 3 s,bJ s] K)
 (K:AVal->aC Ob->Prop) (hK:(Out.ite d (.ret (.bool true) [some e1,lJ 5 t n st',none,bI 4 s',bJ s',pJ st']) (.ret (.bool false) [some e2,lJ 5 t n st',none,bI 4 s',bJ s',pJ st'])).run K):
 cT' f [.ptr 0 0,.ptr 3 0] [some (.abs M [1]),lJ 2 t n st,pJ st,bI 4 s,bJ s] K:=by
 refine aLG ?_;refine aMc (h0:=[some (.abs M [1]),lJ 4 t n st,bI 3 s,bJ s,pJ st]) (args0:=[.ptr 0 0,.ptr 2 0]) (K0:=fun v g=>cS (obI tbl) 5 K (v.ren (iota [0,1,3,4,2] 5)) (pV [some (.abs M [1]),lJ 2 t n st,pJ st,bI 4 s,bJ s] [0,1,3,4,2] g)) ?_ [0,1,3,4,2] rfl dS (by intro l hl;simp at hl⊢;omega) ?_ rfl (fun v g hk _=>hk)
 ·refine aA.shut tbl [some (.abs M [1]),some (.abs (.store t n st) []),bI 3 s,bJ s] (.store t n st) 1 0 (dP t n st) [] (by kernel_rfl) rfl rfl (by kernel_rfl) (hA _ ?_)
  have i1:farI 4 1 1=1:=rfl;have i2:iota [0,1,3,4,2] 5 1=1:=rfl;cases d with
  | true=>
    have q1:((e1.ren (farI 4 1)).ren (iota [0,1,3,4,2] 5))=e1:=by rw [h1 _ i1,h1 _ i2]
    refine⟨_,_,aF.trans (aLE (g2:=[some e1,some (.abs (.store t n st') []),none,bI 4 s',bJ s']) (by kernel_rfl) ?_) (aF.unpack (.store t n st') 1 0 (dP t n st') [] rfl rfl rfl rfl),hK⟩
    show [some ((e1.ren (farI 4 1)).ren (iota [0,1,3,4,2] 5)),_,_,_,_]=_;rw [q1];rfl
  | false=>
    have q2:((e2.ren (farI 4 1)).ren (iota [0,1,3,4,2] 5))=e2:=by rw [h2 _ i1,h2 _ i2]
    refine⟨_,_,aF.trans (aLE (g2:=[some e2,some (.abs (.store t n st') []),none,bI 4 s',bJ s']) (by kernel_rfl) ?_) (aF.unpack (.store t n st') 1 0 (dP t n st') [] rfl rfl rfl rfl),hK⟩
    show [some ((e2.ren (farI 4 1)).ren (iota [0,1,3,4,2] 5)),_,_,_,_]=_;rw [q2];rfl
 ·intro i l hi
  match i,hi with
  | 0,hi=>cases hi;rfl
  | 1,hi=>cases hi;rfl
  | 2,hi=>cases hi;rfl
  | 3,hi=>cases hi;rfl
  | 4,hi=>cases hi;rfl
  | _+5,hi=>cases hi
def gL(kd:Int):Bool:=ieq kd 1||ieq kd 4
def pW(sh kd:Int):Bool:=ieq kd 5&&ieq sh 4
def wT(sh kd:Int):Bool:=ieq kd 2||ieq kd 5&&ieq sh 3
def iO(ky curr cw:Int):Bool:=bif ieq curr 0 then false else ieq (aB cw 0 10) ky
def fU(sh ky:Int):Int:=bif ieq sh 2 then ky%4 else 0
def nB(sh kd ky:Int):Int:=bif ieq sh 2 then ky else bif ieq sh 1 then ky else bif ieq sh 3 then(bif gL kd then 1024 else -1)else -1
def S9:aZ Ob:=fun args h=>match args,h with
 | [.agg [.int .i64 t,.int .i64 n],.int .i64 a],[]=>some ((0<=n/\n<=100000)/\(-1000000<=a/\a<=1000000),.I (n+1+a))
 | _,_=>none
theorem aAE:sT' 112 S9.spec:=by
 intro args h o ho K hK;unfold aZ.spec S9 at ho;split at ho
 case h_2=>cases ho
 rename_i p v hp;split at hp
 case h_2=>cases hp
 rename_i t n a;cases hp;cases ho;obtain⟨hp,hK⟩:=hK;have hK:K (.I (n+1+a)) []:=hK;refine aLw (cM' (E:=enE) (q:=K (.I (W (W (1+n)+a))) []) (by kernel_rfl) ?_)
 simp(disch:=omega) only [W,cG]
 refine cast (congrArg (fun z=>K (AVal.int .i64 z) []) ?_) hK;omega
def IZ:aZ Ob:=fun args h=>match args,h with
 | [.agg [.int .i64 k,.int .i64 y,.bool m,.int .i64 c,.int .i64 v]],[]=>some (0<=v/\v<=1000000,.agg [.I k,.I y,.bool m,.I 0,.I (aW v)])
 | _,_=>none
theorem VY:sT' 264 IZ.spec:=by
 intro args h o ho K hK;unfold aZ.spec IZ at ho;split at ho
 case h_2=>cases ho
 rename_i p v hp;split at hp
 case h_2=>cases hp
 rename_i k y m c v;cases hp;cases ho;obtain⟨hp,hK⟩:=hK;have hK:K (.agg [.I k,.I y,.bool m,.I 0,.I (aW v)]) []:=hK;refine aLw (cM' (E:=enE) (q:=K (.agg [.I k,.I y,.bool m,.I 0,.I (W (↑(BitVec.toNat (BitVec.ofInt (IntKind.bits .i64) (W (v+1))&&&BitVec.ofInt (IntKind.bits .i64) 262143)):Int))]) []) (by kernel_rfl) ?_)
 refine cast (congrArg (fun z=>K (.agg [.I k,.I y,.bool m,.I 0,.I z]) []) ?_) hK;show aW v=_;have hb:IntKind.bits .i64 =64:=rfl;simp only [W];rw [hb,cG (x:=v+1) omz];have:=kS (n:=64) (w:=18) (v+1) omz;have e:(2:Int)^18 - 1=262143:=by decide
 rw [e]at this;rw [this];have e2:(2:Int)^18=262144:=by decide
 rw [e2,cG omz];rfl
def BH:aZ Ob:=fun args h=>match args,h with
 | [.agg [.int .i64 k,.int .i64 y,.bool m,.int .i64 c,.int .i64 v],.int .i64 b,.int .i64 x,.bool q],[]=>some (-1000000<=b/\b<=1000000,.agg [.I k,.I x,.bool q,.I (b+1),.I v])
 | _,_=>none
theorem PG:sT' 268 BH.spec:=by
 intro args h o ho K hK;unfold aZ.spec BH at ho;split at ho
 case h_2=>cases ho
 rename_i p v hp;split at hp
 case h_2=>cases hp
 rename_i k y m c v b x q;cases hp;cases ho;obtain⟨hp,hK⟩:=hK;have hK:K (.agg [.I k,.I x,.bool q,.I (b+1),.I v]) []:=hK;refine aLw (cM' (E:=enE) (q:=K (.agg [.I k,.I x,.bool q,.I (W (b+1)),.I v]) []) (by kernel_rfl) ?_)
 rw [zS omz];exact hK
def BA:aZ Ob:=fun args h=>match args,h with
 | [.agg [.int .i64 sh,.int .i64 kd,.int .i64 ky]],[]=>some (True,.bool (gL kd))
 | _,_=>none
theorem PA:sT' 203 BA.spec:=by
 intro args h o ho K hK;unfold aZ.spec BA at ho;split at ho
 case h_2=>cases ho
 rename_i p v hp;split at hp
 case h_2=>cases hp
 rename_i sh kd ky;cases hp;cases ho;obtain⟨hp,hK⟩:=hK;have hK:K (.bool (gL kd)) []:=hK;refine aLw (cM' (E:=enE) (q:=bif ieq kd 1 then K (.bool true) []else K (.bool (ieq kd 4)) []) (by kernel_rfl) ?_)
 unfold gL at hK;cases h:ieq kd 1<;>rw [h]at hK<;>exact hK
def IY:aZ Ob:=fun args h=>match args,h with
 | [.agg [.int .i64 sh,.int .i64 kd,.int .i64 ky]],[]=>some (True,.bool (pW sh kd))
 | _,_=>none
theorem VR:sT' 285 IY.spec:=by
 intro args h o ho K hK;unfold aZ.spec IY at ho;split at ho
 case h_2=>cases ho
 rename_i p v hp;split at hp
 case h_2=>cases hp
 rename_i sh kd ky;cases hp;cases ho;obtain⟨hp,hK⟩:=hK;have hK:K (.bool (pW sh kd)) []:=hK;refine aLw (cM' (E:=enE) (q:=bif ieq kd 5 then K (.bool (ieq sh 4)) []else K (.bool false) []) (by kernel_rfl) ?_)
 unfold pW at hK;cases h:ieq kd 5<;>rw [h]at hK<;>exact hK
def BB:aZ Ob:=fun args h=>match args,h with
 | [.agg [.int .i64 sh,.int .i64 kd,.int .i64 ky]],[]=>some (True,.bool (wT sh kd))
 | _,_=>none
theorem PB:sT' 225 BB.spec:=by
 intro args h o ho K hK;unfold aZ.spec BB at ho;split at ho
 case h_2=>cases ho
 rename_i p v hp;split at hp
 case h_2=>cases hp
 rename_i sh kd ky;cases hp;cases ho;obtain⟨hp,hK⟩:=hK;have hK:K (.bool (wT sh kd)) []:=hK;refine aLw (cM' (E:=enE) (q:=bif ieq kd 2 then K (.bool true) []else bif ieq kd 5 then K (.bool (ieq sh 3)) []else K (.bool false) []) (by kernel_rfl) ?_)
 unfold wT at hK;cases h:ieq kd 2<;>cases h2:ieq kd 5<;>rw [h]at hK<;>rw [h2]at hK<;>exact hK
noncomputable def hasCS:aI Ob:=rF [(.slot 0,.ints (some .i64))] aAc.spec
theorem aAb:sT' 138 hasCS:=tT S2
noncomputable def EB0:=((((((enE.addS 138 hasCS aAb).addR 112 S9 aAE).addR 264 IZ VY).addR 268 BH PG).addR 203 BA PA).addR 285 IY VR).addR 225 BB PB
def isS:aI Ob:=fun args h=>match args,h with
 | [.agg [.int .i64 a,.int .i64 b,.int .i64 c,.int .i64 d,.bool m,.int .i64 e,.int .i64 f],.slice 0 0 1 1],[some (.cells [.int .i64 s])]=>some (.ret (.bool (hasB [s] e)) [some (.ints (some .i64) [s])])
 | _,_=>none
theorem aIw:sT' 243 isS:=by
 intro args h o ho K hK;unfold isS at ho;split at ho
 case h_2=>cases ho
 rename_i a b c d m e f s;cases ho;have hK:K (.bool (hasB [s] e)) [some (.ints (some .i64) [s])]:=hK;refine aLw (cM' (E:=EB0) (q:=(1=1/\(1:Nat)<=(4294967296:Nat))/\K (.bool (hasB [s] e)) [some (.ints (some .i64) [s])]) (by kernel_rfl) ?_)
 exact⟨⟨rfl,by omega⟩,hK⟩
noncomputable def EB0b:=EB0.addS 243 isS aIw
def RI:aZ Ob:=fun args h=>match args,h with
 | [.int .u64 x],[]=>some (True,.I (aB x 20 5 - 1))
 | _,_=>none
theorem YG:sT' 260 RI.spec:=by
 intro args h o ho K hK;unfold aZ.spec RI at ho;split at ho
 case h_2=>cases ho
 rename_i p v hp;split at hp
 case h_2=>cases hp
 rename_i x;cases hp;cases ho;obtain⟨hp,hK⟩:=hK;have hK:K (.I (aB x 20 5 - 1)) []:=hK;refine aLw (cM' (E:=EB0b) (q:=True/\K (.I (W (aB x 20 5 - 1))) []) (by kernel_rfl) ?_)
 have hb:0<=aB x 20 5/\aB x 20 5<32:=by
  unfold aB;have e:(2:Int)^(5:Int).toNat =32:=by decide
  rw [e];exact⟨Int.emod_nonneg _ dS,Int.emod_lt_of_pos _ dS⟩
 have e1:W (aB x 20 5 - 1)=aB x 20 5 - 1:=cG omz;rw [e1];exact⟨trivial,hK⟩
def G2:aZ Ob:=fun args h=>match args,h with
 | [.agg [.int .i64 a,.int .i64 b,.int .i64 c,.int .i64 d,.bool m,.int .i64 e,.int .i64 f],.int .i64 g],[]=>some (True,.agg [.I a,.I b,.I c,.I d,.bool m,.I g,.I f])
 | _,_=>none
theorem RS:sT' 262 G2.spec:=by
 intro args h o ho K hK;unfold aZ.spec G2 at ho;split at ho
 case h_2=>cases ho
 rename_i p v hp;split at hp
 case h_2=>cases hp
 rename_i a b c d m e f g;cases hp;cases ho;obtain⟨hp,hK⟩:=hK;have hK:K (.agg [.I a,.I b,.I c,.I d,.bool m,.I g,.I f]) []:=hK;refine aLw (cM' (E:=EB0b) (q:=K (.agg [.I a,.I b,.I c,.I d,.bool m,.I g,.I f]) []) (by kernel_rfl) ?_)
 exact hK
noncomputable def EB0c:=(EB0b.addR 260 RI YG).addR 262 G2 RS
def BE:aZ Ob:=fun args h=>match args,h with
 | [.agg [.int .i64 sh,.int .i64 kd,.int .i64 ky]],[]=>some (True,.agg [.I (fU sh ky),.I (nB sh kd ky)])
 | _,_=>none
theorem PE:sT' 226 BE.spec:=by
 intro args h o ho K hK;unfold aZ.spec BE at ho;split at ho
 case h_2=>cases ho
 rename_i p v hp;split at hp
 case h_2=>cases hp
 rename_i sh kd ky;cases hp;cases ho;obtain⟨hp,hK⟩:=hK;have hK:K (.agg [.I (fU sh ky),.I (nB sh kd ky)]) []:=hK;refine aLw (cM' (E:=EB0c) (q:=bif ieq sh 2 then K (.agg [.I (W (↑(BitVec.toNat (BitVec.ofInt (IntKind.bits .i64) ky&&&BitVec.ofInt (IntKind.bits .i64) 3)):Int)),.I ky]) []else bif ieq sh 1 then K (.agg [.I 0,.I ky]) []else bif ieq sh 2 then K (.agg [.I 0,.I ky]) []else bif ieq sh 3 then True/\bif gL kd then K (.agg [.I 0,.I 1024]) []else K (.agg [.I 0,.I (-1:Int)]) []else K (.agg [.I 0,.I (-1:Int)]) []) (by kernel_rfl) ?_)
 have e4:W (((BitVec.ofInt (IntKind.bits .i64) ky&&&BitVec.ofInt (IntKind.bits .i64) 3).toNat :Nat):Int)=ky%4:=by
  have hb:IntKind.bits .i64 =64:=rfl;rw [hb];have:=kS (n:=64) (w:=2) ky omz;have e:(2:Int)^2 - 1=3:=by decide
  rw [e]at this;rw [this];have e2:(2:Int)^2=4:=by decide
  rw [e2];exact cG omz
 unfold fU nB at hK;refine aK (fun e=>?_) (fun e=>aK (fun e1=>?_) (fun e1=>aK (fun e2=>?_) (fun e2=>aK (fun e3=>⟨trivial,aK (fun e5=>?_) (fun e5=>?_)⟩) (fun e3=>?_))))
 ·rw [e]at hK;rw [e4];exact hK
 ·rw [e,e1]at hK;exact hK
 ·rw [e]at e2;cases e2
 ·rw [e,e1,e3,e5]at hK;exact hK
 ·rw [e,e1,e3,e5]at hK;exact hK
 ·rw [e,e1,e3]at hK;exact hK
def AV:aZ Ob:=fun args h=>match args,h with
 | [.agg [.int .i64 sh,.int .i64 kd,.int .i64 ky,.int .i64 pred,.int .u64 pw,.int .i64 curr,.int .u64 cw]],[]=>some (True,.bool (iO ky curr cw))
 | _,_=>none
theorem OI:sT' 287 AV.spec:=by
 intro args h o ho K hK;unfold aZ.spec AV at ho;split at ho
 case h_2=>cases ho
 rename_i p v hp;split at hp
 case h_2=>cases hp
 rename_i sh kd ky pred pw curr cw;cases hp;cases ho;obtain⟨hp,hK⟩:=hK;have hK:K (.bool (iO ky curr cw)) []:=hK;refine aLw (cM' (E:=EB0c) (q:=bif !ieq curr 0 then True/\K (.bool (ieq (aB cw 0 10) ky)) []else K (.bool false) []) (by kernel_rfl) ?_)
 unfold iO at hK;cases h:ieq curr 0 with
 | true=>rw [h]at hK;exact hK
 | false=>rw [h]at hK;exact⟨trivial,hK⟩
noncomputable def EB1:=(EB0c.addR 226 BE PE).addR 287 AV OI
def aCH(v:AVal)(g:aC Ob):Option (Prop×PLN):=match v,g with
 | .agg [.bool now,.int .i64 code,.bool okk,.int .i64 val,.int .i64 addr,.int .u64 old,.int .i64 nxt,.bool mark,.int .i64 pops],[]=>some (True,⟨now,code,okk,val,addr,old,nxt,mark,pops⟩)
 | _,_=>none
def UM(y:PLN):AVal:=.agg [.bool y.now,.I y.code,.bool y.okk,.I y.val,.I y.addr,.int .u64 y.old,.I y.nxt,.bool y.mark,.I y.pops]
theorem UL:bQ (obI tbl) 0 aCH (fun y=>.ret (UM y) []):=by
 intro v g p x hp hq K hK;unfold aCH at hp;split at hp
 case h_2=>cases hp
 cases hp;exact⟨⟨_,_,aLM _ _ _,hK⟩⟩
abbrev w0b:Tr (PLN):=.pre True (.ret {now:=true,code:=0,okk:=false,val:=0,addr:=0,old:=0,nxt:=0,mark:=false,pops:=0})
abbrev w09(curr cw kd ky pred pw sh:Int):Tr (PLN):=.ite (ieq kd 5) (.ite (ieq curr 0) w0b (.pre True (.pre True (.ite (pW sh kd) (.pre True (.pre True (.pre True (.ret {now:=false,code:=0,okk:=true,val:=aB cw 0 10,addr:=pred,old:=pw,nxt:=aB cw 10 9,mark:=ieq (aB pw 19 1) 1,pops:=curr})))) (.pre True (.pre True (.ret {now:=false,code:=0,okk:=true,val:=aB cw 0 10,addr:=curr,old:=cw,nxt:=aB cw 10 9,mark:=true,pops:=0}))))))) (.ite (ieq kd 3) (.pre True (.pre True (.ret {now:=true,code:=0,okk:=iO ky curr cw,val:=0,addr:=0,old:=0,nxt:=0,mark:=false,pops:=0}))) w0b)
abbrev w0a(curr cw:Int):Tr (PLN):=.pre True (.pre True (.ret {now:=false,code:=0,okk:=true,val:=0,addr:=curr,old:=cw,nxt:=aB cw 10 9,mark:=true,pops:=0}))
abbrev w0c(pred pw spare:Int):Tr (PLN):=.pre True (.pre True (.ret {now:=false,code:=0,okk:=true,val:=0,addr:=pred,old:=pw,nxt:=spare,mark:=ieq (aB pw 19 1) 1,pops:=0}))
def EN(sh kd ky pred pw curr cw spare:Int):Tr (PLN):=.pre True (.ite (!bT sh kd ky) (.pre True (.ret {now:=true,code:=1,okk:=false,val:=0,addr:=0,old:=0,nxt:=0,mark:=false,pops:=0})) (.ite (ieq kd 4) (.ite (ieq kd 4) (w0c pred pw spare) (.ite (ieq kd 2) (.pre True (.ite (iO ky curr cw) (w0a curr cw) (w09 curr cw kd ky pred pw sh))) (w09 curr cw kd ky pred pw sh))) (.ite (ieq kd 1) (.pre True (.ite (!iO ky curr cw) (w0c pred pw spare) (.ite (ieq kd 2) (.pre True (.ite (iO ky curr cw) (w0a curr cw) (w09 curr cw kd ky pred pw sh))) (w09 curr cw kd ky pred pw sh)))) (.ite (ieq kd 2) (.pre True (.ite (iO ky curr cw) (w0a curr cw) (w09 curr cw kd ky pred pw sh))) (w09 curr cw kd ky pred pw sh)))))
def bM(sh kd ky pred pw curr cw spare:Int):PLN:=(EN sh kd ky pred pw curr cw spare).val
def xG(sh kd ky pred pw curr cw spare:Int):Prop:=(EN sh kd ky pred pw curr cw spare).ok
def planS:aI Ob:=fun args h=>match args,h with
 | [.agg [.int .i64 sh,.int .i64 kd,.int .i64 ky],.agg [.int .i64 pred,.int .u64 pw,.int .i64 curr,.int .u64 cw],.int .i64 spare],[]=>some (.pre (xG sh kd ky pred pw curr cw spare) (.ret (UM (bM sh kd ky pred pw curr cw spare)) []))
 | _,_=>none
theorem aBg:sT' 256 planS:=by
 intro args h o ho K hK;unfold planS at ho;split at ho
 case h_2=>cases ho
 rename_i sh kd ky pred pw curr cw spare;cases ho;obtain⟨ok,hK⟩:=hK;refine aLK (root:=0) (pos:=[]) (cs:=[]) UL ?_;exact cM' (E:=EB1) (q:=(EN sh kd ky pred pw curr cw spare).run (fun y=>(Out.ret (UM y) []).run K)) (by kernel_rfl) (aLD ok hK)
def UN(v:AVal)(g:aC Ob):Option (Prop×Int):=match v,g with
 | .int .u64 x,[]=>some (True,x)
 | _,_=>none
def ID(y:Int):AVal:=.int .u64 y
theorem OO:bQ (obI tbl) 0 UN (fun y=>.ret (ID y) []):=by
 intro v g p x hp hq K hK;unfold UN at hp;split at hp
 case h_2=>cases hp
 cases hp;exact⟨⟨_,_,aLM _ _ _,hK⟩⟩
def xH(now:Bool)(code:Int)(okk:Bool)(val:Int)(addr:Int)(old:Int)(nxt:Int)(mark:Bool)(pops:Int):Tr (Int):=.ite now (.pre True (.ret 0)) (.pre True (.pre ((-1000000:Int)<=(0:Int)/\(0:Int)<=(1000000:Int)) (.pre ((0:Int)<=aB old 25 18/\aB old 25 (18:Int)<=(1000000:Int)) (.pre True (.pre True (.ret (bif bif aN (aB old 0 10) 10 then bif aN nxt 9 then bif aN 0 5 then aN (aW (aB old 25 18)) 18 else false else false else false then cV (aB old 0 10) nxt mark 0 (aW (aB old 25 18))else 0)))))))
def eA(now:Bool)(code:Int)(okk:Bool)(val:Int)(addr:Int)(old:Int)(nxt:Int)(mark:Bool)(pops:Int):Int:=(xH now code okk val addr old nxt mark pops).val
def AY(now:Bool)(code:Int)(okk:Bool)(val:Int)(addr:Int)(old:Int)(nxt:Int)(mark:Bool)(pops:Int):Prop:=(xH now code okk val addr old nxt mark pops).ok
def planWS:aI Ob:=fun args h=>match args,h with
 | [.agg [.bool now,.int .i64 code,.bool okk,.int .i64 val,.int .i64 addr,.int .u64 old,.int .i64 nxt,.bool mark,.int .i64 pops]],[]=>some (.pre (AY now code okk val addr old nxt mark pops) (.ret (ID (eA now code okk val addr old nxt mark pops)) []))
 | _,_=>none
theorem UO:sT' 218 planWS:=by
 intro args h o ho K hK;unfold planWS at ho;split at ho
 case h_2=>cases ho
 rename_i now code okk val addr old nxt mark pops;cases ho;obtain⟨ok,hK⟩:=hK;refine aLK (root:=0) (pos:=[]) (cs:=[]) OO ?_;exact cM' (E:=EB1) (q:=(xH now code okk val addr old nxt mark pops).run (fun y=>(Out.ret (ID y) []).run K)) (by kernel_rfl) (aLD ok hK)
def UH(v:AVal)(g:aC Ob):Option (Prop×Bool):=match v,g with
 | .bool x,[]=>some (True,x)
 | _,_=>none
def IB(y:Bool):AVal:=.bool y
theorem OK:bQ (obI tbl) 0 UH (fun y=>.ret (IB y) []):=by
 intro v g p x hp hq K hK;unfold UH at hp;split at hp
 case h_2=>cases hp
 cases hp;exact⟨⟨_,_,aLM _ _ _,hK⟩⟩
def xD(now:Bool)(code:Int)(okk:Bool)(val:Int)(addr:Int)(old:Int)(nxt:Int)(mark:Bool)(pops:Int):Tr (Bool):=.ite (!now) (.pre True (.pre True (.ret !ieq (aB old 20 5) 0))) (.pre True (.ret false))
def AW(now:Bool)(code:Int)(okk:Bool)(val:Int)(addr:Int)(old:Int)(nxt:Int)(mark:Bool)(pops:Int):Bool:=(xD now code okk val addr old nxt mark pops).val
def pG(now:Bool)(code:Int)(okk:Bool)(val:Int)(addr:Int)(old:Int)(nxt:Int)(mark:Bool)(pops:Int):Prop:=(xD now code okk val addr old nxt mark pops).ok
def planCS:aI Ob:=fun args h=>match args,h with
 | [.agg [.bool now,.int .i64 code,.bool okk,.int .i64 val,.int .i64 addr,.int .u64 old,.int .i64 nxt,.bool mark,.int .i64 pops]],[]=>some (.pre (pG now code okk val addr old nxt mark pops) (.ret (IB (AW now code okk val addr old nxt mark pops)) []))
 | _,_=>none
theorem UI:sT' 257 planCS:=by
 intro args h o ho K hK;unfold planCS at ho;split at ho
 case h_2=>cases ho
 rename_i now code okk val addr old nxt mark pops;cases ho;obtain⟨ok,hK⟩:=hK;refine aLK (root:=0) (pos:=[]) (cs:=[]) OK ?_;exact cM' (E:=EB1) (q:=(xD now code okk val addr old nxt mark pops).run (fun y=>(Out.ret (IB y) []).run K)) (by kernel_rfl) (aLD ok hK)
def UJ(v:AVal)(g:aC Ob):Option (Prop×(Int×Int)):=match v,g with
 | .tup [.int .u64 x,.int .i64 e],[]=>some (True,(x,e))
 | _,_=>none
def IC(y:(Int×Int)):AVal:=.tup [.int .u64 y.1,.I y.2]
theorem OL:bQ (obI tbl) 0 UJ (fun y=>.ret (IC y) []):=by
 intro v g p x hp hq K hK;unfold UJ at hp;split at hp
 case h_2=>cases hp
 cases hp;exact⟨⟨_,_,aLM _ _ _,hK⟩⟩
def xF(now:Bool)(code:Int)(okk:Bool)(val:Int)(addr:Int)(old:Int)(nxt:Int)(mark:Bool)(pops:Int)(att:Int):Tr ((Int×Int)):=.ite now (.pre True (.ret (0,5))) (.pre True (.pre True (.pre True (.ret (bif dOk att addr (aB old 25 18) nxt 2 val then cP att addr (aB old 25 18) nxt mark 2 val else 0,bif dOk att addr (aB old 25 18) nxt 2 val then 0 else 2)))))
def jV(now:Bool)(code:Int)(okk:Bool)(val:Int)(addr:Int)(old:Int)(nxt:Int)(mark:Bool)(pops:Int)(att:Int):(Int×Int):=(xF now code okk val addr old nxt mark pops att).val
def AX(now:Bool)(code:Int)(okk:Bool)(val:Int)(addr:Int)(old:Int)(nxt:Int)(mark:Bool)(pops:Int)(att:Int):Prop:=(xF now code okk val addr old nxt mark pops att).ok
def planDS:aI Ob:=fun args h=>match args,h with
 | [.agg [.bool now,.int .i64 code,.bool okk,.int .i64 val,.int .i64 addr,.int .u64 old,.int .i64 nxt,.bool mark,.int .i64 pops],.int .i64 att],[]=>some (.pre (AX now code okk val addr old nxt mark pops att) (.ret (IC (jV now code okk val addr old nxt mark pops att)) []))
 | _,_=>none
theorem UK:sT' 202 planDS:=by
 intro args h o ho K hK;unfold planDS at ho;split at ho
 case h_2=>cases ho
 rename_i now code okk val addr old nxt mark pops att;cases ho;obtain⟨ok,hK⟩:=hK;refine aLK (root:=0) (pos:=[]) (cs:=[]) OL ?_;exact cM' (E:=EB1) (q:=(xF now code okk val addr old nxt mark pops att).run (fun y=>(Out.ret (IC y) []).run K)) (by kernel_rfl) (aLD ok hK)
noncomputable def EB2:=(((EB1.addS 256 planS aBg).addS 218 planWS UO).addS 257 planCS UI).addS 202 planDS UK
abbrev aEm(x:ENS):aG Mc:=.cells [.ptr 1 0,.bool x.sh,.O,.O,.bool x.dn]
theorem ZH{t n:Int}{x:ENS}{st:STS}{s:MS} :aF (obI tbl) 4 (.bool true) [some (.abs (.ensure t n x) [1]),some (.abs (.store t n st) []),bI 3 s,bJ s] (.bool true) [some (aEm x),some (.abs (.store t n st) []),bI 3 s,bJ s]:=by
 obtain⟨ph,sh,dn,a,y⟩:=x
 match ph with
 | 0=>exact(aF.unpack (.ensure t n ⟨0,sh,dn,a,y⟩) 0 1 (FQ t n ⟨0,sh,dn,a,y⟩) [1] rfl rfl (by kernel_rfl) rfl).trans ((aF.weak (eH _ 0 [2,3])).trans ((aF.pick (upto 0 4) rfl).trans (aLE (by kernel_rfl) (by kernel_rfl))))
 | 1=>exact(aF.unpack (.ensure t n ⟨1,sh,dn,a,y⟩) 0 1 (FQ t n ⟨1,sh,dn,a,y⟩) [1] rfl rfl (by kernel_rfl) rfl).trans ((aF.weak (eH _ 0 [2,3])).trans ((aF.pick (upto 0 4) rfl).trans (aLE (by kernel_rfl) (by kernel_rfl))))
 | 2=>exact(aF.unpack (.ensure t n ⟨2,sh,dn,a,y⟩) 0 1 (FQ t n ⟨2,sh,dn,a,y⟩) [1] rfl rfl (by kernel_rfl) rfl).trans ((aF.weak (eH _ 0 [2,3])).trans ((aF.pick (upto 0 4) rfl).trans (aLE (by kernel_rfl) (by kernel_rfl))))
 | 3=>exact(aF.unpack (.ensure t n ⟨3,sh,dn,a,y⟩) 0 1 (FQ t n ⟨3,sh,dn,a,y⟩) [1] rfl rfl (by kernel_rfl) rfl).trans ((aF.weak (eH _ 0 [2,3])).trans ((aF.pick (upto 0 4) rfl).trans (aLE (by kernel_rfl) (by kernel_rfl))))
 | k+4=>exact(aF.unpack (.ensure t n ⟨k+4,sh,dn,a,y⟩) 0 1 (FQ t n ⟨k+4,sh,dn,a,y⟩) [1] rfl rfl (by kernel_rfl) rfl).trans ((aF.weak (eH _ 0 [2,3])).trans ((aF.pick (upto 0 4) rfl).trans (aLE (by kernel_rfl) (by kernel_rfl))))
def EO.fin(t n:Int)(y:EO):Out Ob:=.ite y.d (.ret (.bool true) [some (aEm y.e),some (.abs (.store t n y.st) []),bI 3 y.s,bJ y.s]) (.ret (.bool false) [some (.abs (.ensure t n y.e) [1]),some (.abs (.store t n y.st) []),bI 3 y.s,bJ y.s])
theorem R9(t n:Int)(e:ENS)(st:STS)(s:MS)(K:AVal->aC Ob->Prop)(ok:PO t n e st s)(hK:((enF t n e st s).fin t n).run K):cT' 154 [.ptr 0 0,.ptr 2 0] (ZF t n e st s) K:=by
 refine aLG (JJ t n e st s _ ok ?_);show cS (obI tbl) 4 K (.bool (enF t n e st s).d) _;generalize enF t n e st s=y at hK⊢;exact sE hK (fun h=>⟨⟨_,_,ZH,h⟩⟩) (fun h=>⟨⟨_,_,aLM _ _ _,h⟩⟩)
def EO.finB(t n:Int)(y:EO):Out Ob:=.ite y.d (.ret (.bool true) [some (aEm y.e),lJ 5 t n y.st,none,bI 4 y.s,bJ y.s,pJ y.st]) (.ret (.bool false) [some (.abs (.ensure t n y.e) [1]),lJ 5 t n y.st,none,bI 4 y.s,bJ y.s,pJ y.st])
noncomputable def enSB:aI Ob:=fun args h=>match args,h with
 | [.ptr 0 0,.ptr 3 0],[some (.abs (.ensure t n x) [1]),e1,e2,e3,e4]=>(match l9 2 [e1,e2],cQ 4 [e3,e4]with
   | some (l2,t2,n2,st),some (l,s)=>some (.pre ((l=s.xs.length/\l2=st.R.length/\t2=t/\n2=n)/\PO t n x st s) (EO.finB t n (enF t n x st s)))
   | _,_=>none)
 | _,_=>none
theorem aEu:sT' 154 enSB:=by
 intro args h o ho K hK;unfold enSB at ho;split at ho
 case h_2=>cases ho
 split at ho
 case h_2=>cases ho
 rename_i hs hm;cases ho;obtain⟨⟨⟨hl,aa,rfl,rfl⟩,ok⟩,hK⟩:=hK;cases bB hm hl;cases cB hs aa;exact kP (fun ι hι=>by simp [aG.ren,aLL,AVal.ren,hι]) (fun ι hι=>by simp [aG.ren,hι]) (fun K hK=>R9 _ _ _ _ _ K ok hK) K hK
noncomputable def enS2:aI Ob:=enSB
theorem aEt:sT' 154 enS2:=aEu
abbrev aGo(x:SWS):aG Mc:=.cells [.ptr 1 0,.O]
theorem aBH{t n:Int}{x:SWS}{st:STS}{s:MS} :aF (obI tbl) 4 (.bool true) [some (.abs (.sweep t n x) [1]),some (.abs (.store t n st) []),bI 3 s,bJ s] (.bool true) [some (aGo x),some (.abs (.store t n st) []),bI 3 s,bJ s]:=by
 obtain⟨ph,N,m,i,ks,fs,gs,j,l⟩:=x
 match ph with
 | 0=>exact(aF.unpack (.sweep t n ⟨0,N,m,i,ks,fs,gs,j,l⟩) 0 1 (O7 t n ⟨0,N,m,i,ks,fs,gs,j,l⟩) [1] rfl rfl (by kernel_rfl) rfl).trans ((aF.weak (eH _ 0 [1])).trans ((aF.pick (upto 0 4) rfl).trans (aLE (by kernel_rfl) (by kernel_rfl))))
 | 1=>exact(aF.unpack (.sweep t n ⟨1,N,m,i,ks,fs,gs,j,l⟩) 0 1 (O7 t n ⟨1,N,m,i,ks,fs,gs,j,l⟩) [1] rfl rfl (by kernel_rfl) rfl).trans ((aF.weak (eH _ 0 [1])).trans ((aF.pick (upto 0 4) rfl).trans (aLE (by kernel_rfl) (by kernel_rfl))))
 | 2=>exact(aF.unpack (.sweep t n ⟨2,N,m,i,ks,fs,gs,j,l⟩) 0 1 (O7 t n ⟨2,N,m,i,ks,fs,gs,j,l⟩) [1] rfl rfl (by kernel_rfl) rfl).trans ((aF.weak (eH _ 0 [1])).trans ((aF.pick (upto 0 4) rfl).trans (aLE (by kernel_rfl) (by kernel_rfl))))
 | k+3=>exact(aF.unpack (.sweep t n ⟨k+3,N,m,i,ks,fs,gs,j,l⟩) 0 1 (O7 t n ⟨k+3,N,m,i,ks,fs,gs,j,l⟩) [1] rfl rfl (by kernel_rfl) rfl).trans ((aF.weak (eH _ 0 [1])).trans ((aF.pick (upto 0 4) rfl).trans (aLE (by kernel_rfl) (by kernel_rfl))))
def SO.fin(t n:Int)(y:SO):Out Ob:=.ite y.d (.ret (.bool true) [some (aGo y.e),some (.abs (.store t n y.st) []),bI 3 y.s,bJ y.s]) (.ret (.bool false) [some (.abs (.sweep t n y.e) [1]),some (.abs (.store t n y.st) []),bI 3 y.s,bJ y.s])
theorem VK(t n:Int)(e:SWS)(st:STS)(s:MS)(K:AVal->aC Ob->Prop)(ok:uG t n e st s)(hK:((swF t n e st s).fin t n).run K):cT' 169 [.ptr 0 0,.ptr 2 0] (swH t n e st s) K:=by
 refine aLG (aBI t n e st s _ ok ?_);show cS (obI tbl) 4 K (.bool (swF t n e st s).d) _;generalize swF t n e st s=y at hK⊢;exact sE hK (fun h=>⟨⟨_,_,aBH,h⟩⟩) (fun h=>⟨⟨_,_,aLM _ _ _,h⟩⟩)
def SO.finB(t n:Int)(y:SO):Out Ob:=.ite y.d (.ret (.bool true) [some (aGo y.e),lJ 5 t n y.st,none,bI 4 y.s,bJ y.s,pJ y.st]) (.ret (.bool false) [some (.abs (.sweep t n y.e) [1]),lJ 5 t n y.st,none,bI 4 y.s,bJ y.s,pJ y.st])
noncomputable def swSB:aI Ob:=fun args h=>match args,h with
 | [.ptr 0 0,.ptr 3 0],[some (.abs (.sweep t n x) [1]),e1,e2,e3,e4]=>(match l9 2 [e1,e2],cQ 4 [e3,e4]with
   | some (l2,t2,n2,st),some (l,s)=>some (.pre ((l=s.xs.length/\l2=st.R.length/\t2=t/\n2=n)/\uG t n x st s) (SO.finB t n (swF t n x st s)))
   | _,_=>none)
 | _,_=>none
theorem aGu:sT' 169 swSB:=by
 intro args h o ho K hK;unfold swSB at ho;split at ho
 case h_2=>cases ho
 split at ho
 case h_2=>cases ho
 rename_i hs hm;cases ho;obtain⟨⟨⟨hl,aa,rfl,rfl⟩,ok⟩,hK⟩:=hK;cases bB hm hl;cases cB hs aa;exact kP (fun ι hι=>by simp [aG.ren,aLL,AVal.ren,hι]) (fun ι hι=>by simp [aG.ren,hι]) (fun K hK=>VK _ _ _ _ _ K ok hK) K hK
noncomputable def swSC:aI Ob:=swSB
theorem aGt:sT' 169 swSC:=aGu
def aEp(t n:Int)(v:AVal)(g:aC Ob):Option (Prop×STS):=match v,g with
 | .ptr 2 0,[e1,e2,some (.cells [.ptr 0 0,.bool false,.raw (.pointer none),.raw (.pointer none),.bool false])]=>(match l9 1 [e1,e2]with
   | some (l2,t2,n2,st)=>some (t2=t/\n2=n/\l2=st.R.length,st)
   | none=>none)
 | _,_=>none
abbrev aEo(t n:Int)(y:STS):aC Ob:=[lJ 1 t n y,pJ y,some (.abs (.ensure t n bV) [0])]
theorem ZG{t n:Int} :bQ (obI tbl) 2 (aEp t n) (fun y=>.ret (.ptr 2 0) (aEo t n y)):=by
 intro v g p x hp hq K hK;unfold aEp at hp;split at hp
 case h_2=>cases hp
 split at hp
 case h_2=>cases hp
 rename_i l2 t2 n2 st hs;cases hp;obtain⟨rfl,rfl,aa⟩:=hq;cases cB hs aa;exact tkP hK (.ensure t2 n2 bV) 2 1 (FQ t2 n2 bV) [0]
def aEq(t n:Int)(st:STS):Tr STS:=.pre (t=t/\n=n/\lE' st.3) (.ret st)
def enNS:aI Ob:=fun args h=>match args,h with
 | [.ptr 0 0],[e1,e2]=>(match l9 1 [e1,e2]with
   | some (l2,t,n,st)=>some (.pre (l2=st.R.length/\(aEq t n st).ok) (.ret (.ptr 2 0) (aEo t n (aEq t n st).val)))
   | none=>none)
 | _,_=>none
theorem aEr:sT' 206 enNS:=by
 intro args h o ho K hK;unfold enNS at ho;split at ho
 case h_2=>cases ho
 split at ho
 case h_2=>cases ho
 rename_i l2 t n st hs;cases ho;obtain⟨⟨aa,ok⟩,hK⟩:=hK;cases cB hs aa;refine aLK (root:=2) (pos:=[]) (cs:=[]) (parse:=aEp t n) ZG ?_;exact cM' (E:=EB2) (q:=(aEq t n st).run (fun y=>(Out.ret (.ptr 2 0) (aEo t n y)).run K)) (by kernel_rfl) (aLD ok hK)
def aGq(t n:Int)(v:AVal)(g:aC Ob):Option (Prop×STS):=match v,g with
 | .ptr 2 0,[e1,e2,some (.cells [.ptr 0 0,.raw (.pointer none)])]=>(match l9 1 [e1,e2]with
   | some (l2,t2,n2,st)=>some (t2=t/\n2=n/\l2=st.R.length,st)
   | none=>none)
 | _,_=>none
abbrev aGp(t n:Int)(y:STS):aC Ob:=[lJ 1 t n y,pJ y,some (.abs (.sweep t n dB) [0])]
theorem aBD{t n:Int} :bQ (obI tbl) 2 (aGq t n) (fun y=>.ret (.ptr 2 0) (aGp t n y)):=by
 intro v g p x hp hq K hK;unfold aGq at hp;split at hp
 case h_2=>cases hp
 split at hp
 case h_2=>cases hp
 rename_i l2 t2 n2 st hs;cases hp;obtain⟨rfl,rfl,aa⟩:=hq;cases cB hs aa;exact tkP hK (.sweep t2 n2 dB) 2 1 (O7 t2 n2 dB) [0]
def aGr(t n:Int)(st:STS):Tr STS:=.pre (t=t/\n=n/\lE' st.3) (.ret st)
def swNS:aI Ob:=fun args h=>match args,h with
 | [.ptr 0 0],[e1,e2]=>(match l9 1 [e1,e2]with
   | some (l2,t,n,st)=>some (.pre (l2=st.R.length/\(aGr t n st).ok) (.ret (.ptr 2 0) (aGp t n (aGr t n st).val)))
   | none=>none)
 | _,_=>none
theorem aGs:sT' 167 swNS:=by
 intro args h o ho K hK;unfold swNS at ho;split at ho
 case h_2=>cases ho
 split at ho
 case h_2=>cases ho
 rename_i l2 t n st hs;cases ho;obtain⟨⟨aa,ok⟩,hK⟩:=hK;cases cB hs aa;refine aLK (root:=2) (pos:=[]) (cs:=[]) (parse:=aGq t n) aBD ?_;exact cM' (E:=EB2) (q:=(aGr t n st).run (fun y=>(Out.ret (.ptr 2 0) (aGp t n y)).run K)) (by kernel_rfl) (aLD ok hK)
noncomputable def EB3:=(((EB2.addS 154 enS2 aEt).addS 169 swSC aGt).addS 206 enNS aEr).addS 167 swNS aGs
structure ClO where
 d:Bool
 x:CLS
 s:MS
instance:Inhabited ClO:=⟨⟨false,⟨0,0,0,0⟩,⟨0,0,[],0,0,0,0,0,false⟩⟩⟩
instance:Inhabited CLS:=⟨⟨0,0,0,0⟩⟩
abbrev clH(t n:Int)(x:CLS)(s:MS):aC Ob:=[some (.abs (.clear t n x) []),bI 2 s,bJ s]
abbrev clD(t n:Int)(x:CLS)(s:MS):aC Ob:=[cE' [.I t,.I n,.I x.addr,.I x.at',.int .u64 x.word,.int .u64 x.found],bI 2 s,bJ s]
def ClO.fin(t n:Int)(y:ClO):Out Ob:=.ite y.d (.ret (.bool true) (clD t n y.x y.s)) (.ret (.bool false) (clH t n y.x y.s))
def aDM(t n:Int)(v:AVal)(g:aC Ob):Option (Prop×ClO):=match v,g with
 | .bool d,[some (.cells [.int .i64 t1,.int .i64 n1,.int .i64 addr,.int .i64 at',.int .u64 word,.int .u64 found]),e1,e2]=>(match cQ 2 [e1,e2]with
   | some (l,s)=>some ((t1=t/\n1=n)/\l=s.xs.length,⟨d,⟨addr,at',word,found⟩,s⟩)
   | none=>none)
 | _,_=>none
def clP(t n:Int)(v:AVal)(g:aC Ob):Option (Prop×ClO):=aDM t n v g
theorem X9{t n:Int} :bQ (obI tbl) 3 (aDM t n) (ClO.fin t n):=by
 intro v g p x hp hq K hK;unfold aDM at hp;split at hp
 case h_2=>cases hp
 rename_i d t1 n1 addr at' word found e1 e2;split at hp
 case h_2=>cases hp
 rename_i l s hm;cases hp;obtain⟨⟨rfl,rfl⟩,hl⟩:=hq;cases bB hm hl;refine sE hK (fun h=>?_) (fun h=>?_)
 ·exact⟨⟨_,_,aLM _ _ _,h⟩⟩
 ·exact⟨⟨_,_,(aF.pack (clH t1 n1 (⟨addr,at',word,found⟩:CLS) s) (.clear t1 n1 (⟨addr,at',word,found⟩:CLS)) 0 0 (mW t1 n1 (⟨addr,at',word,found⟩:CLS)) [] (by kernel_rfl) rfl (congrArg (Prod.mk 0) rfl) (by kernel_rfl)),h⟩⟩
theorem z8{t n:Int} :bQ (obI tbl) 3 (clP t n) (ClO.fin t n):=by
 intro v g p x hp hq K hK;unfold clP at hp;exact X9 v g p x hp hq K hK
def B9(t n:Int)(x:CLS)(s:MS):Tr ClO:=.pre (q9' s) (.pre True (.ite (ilt (aB (aE s.3 x.1) 20 5 - 1) 0) (.pre ((t=t/\n=n)/\lE' s.3) (.ret {d:=true,x:= {addr:=x.1,at':=1,word:=aE s.3 x.1,found:=x.4},s:=(eC s x.1) })) (.pre ((t=t/\n=n)/\lE' s.3) (.ret {d:=ile t (aB (aE s.3 x.1) 20 5 - 1),x:= {addr:=x.1,at':=1,word:=aE s.3 x.1,found:=x.4},s:=(eC s x.1) }))))
abbrev YA(F:Int->Int->CLS->MS->Tr ClO)(a:Int):Prop:= ∀(t n:Int) (x:CLS) (s:MS) (K:ClO->Prop) (h:(F t n x s).run K),cT' 214 [.ptr 0 0,.ptr 1 0] [cE' [.I t,.I n,.I x.addr,.I a,.int .u64 x.word,.int .u64 x.found],bI 2 s,bJ s] (fG 3 0 [] [] (clP t n) K)
theorem LK:YA B9 0:=by
 intro t n x s K h;exact cM' (E:=EB3) (by kernel_rfl) h
abbrev w0f(x:CLS):=aB x.3 20 5 - 1
abbrev w0d(n:Int)(s:MS)(t:Int)(x:CLS):Tr ClO:=.ret {d:=false,x:= {addr:=x.1,at':=3,word:=x.3,found:=aE s.3 (2*n+5+2*t+3*(w0f x)+2) },s:=(eC s (2*n+5+2*t+3*(w0f x)+2)) }
abbrev w0e(n t:Int)(x:CLS):=(((0:Int)<=t/\t<=(100000:Int))/\((0:Int)<=n/\n<=(100000:Int))/\(-1099511627776:Int)<=aB x.3 20 5 - 1/\aB x.3 20 5 - (1:Int)<=(1099511627776:Int))/\True
def CA(t n:Int)(x:CLS)(s:MS):Tr ClO:=.pre True (.pre (w0e n t x) (.pre ((q9' s)/\True) (.pre True (.ite (hasB [2] (aB (aE s.3 (2*n+5+2*t+3*(w0f x)+2)) 49 3)) (.ite (ieq (aB (aE s.3 (2*n+5+2*t+3*(w0f x)+2)) 12 9) x.1) (.pre True (.ite (ieq (aB (aE s.3 (2*n+5+2*t+3*(w0f x)+2)) 21 18) (aB x.3 25 18)) (.pre ((t=t/\n=n)/\lE' s.3) (.ret {d:=false,x:= {addr:=x.1,at':=2,word:=x.3,found:=aE s.3 (2*n+5+2*t+3*(w0f x)+2) },s:=(eC s (2*n+5+2*t+3*(w0f x)+2)) })) (.pre ((t=t/\n=n)/\lE' s.3) (w0d n s t x)))) (.pre ((t=t/\n=n)/\lE' s.3) (w0d n s t x))) (.pre ((t=t/\n=n)/\lE' s.3) (w0d n s t x))))))
theorem LM:YA CA 1:=by
 intro t n x s K h;exact cM' (E:=EB3) (by kernel_rfl) h
def CB(t n:Int)(x:CLS)(s:MS):Tr ClO:=.pre True (.pre True (.pre True (.pre True (.pre (w0e n t x) (.pre ((q9' s)/\True) (.pre ((t=t/\n=n)/\lE' (bif bH s.3 (2*n+5+2*t+3*(w0f x)+2) x.4 then aX s.3 (2*n+5+2*t+3*(w0f x)+2) (bif dOk (aB x.4 0 12) (aB x.4 12 9) (aB x.4 21 18) (aB x.4 39 9) 3 (aB x.4 52 10)then cP (aB x.4 0 12) (aB x.4 12 9) (aB x.4 21 18) (aB x.4 39 9) (ieq (aB x.4 48 1) 1) 3 (aB x.4 52 10)else 0)else s.3)) (.ret {d:=false,x:= {x with at':=3},s:=(qX s (2*n+5+2*t+3*(w0f x)+2) x.4 (bif dOk (aB x.4 0 12) (aB x.4 12 9) (aB x.4 21 18) (aB x.4 39 9) 3 (aB x.4 52 10)then cP (aB x.4 0 12) (aB x.4 12 9) (aB x.4 21 18) (aB x.4 39 9) (ieq (aB x.4 48 1) 1) 3 (aB x.4 52 10)else 0)) })))))))
theorem LN:YA CB 2:=by
 intro t n x s K h;exact cM' (E:=EB3) (by kernel_rfl) h
def CC(t n:Int)(x:CLS)(s:MS):Tr ClO:=.pre True (.pre ((0:Int)<=aB x.3 25 18/\aB x.3 25 (18:Int)<=(1000000:Int)) (.pre True (.pre ((q9' s)/\True) (.pre ((t=t/\n=n)/\lE' (bif bH s.3 x.1 x.3 then aX s.3 x.1 (bif bif aN (aB x.3 0 10) 10 then bif aN (aB x.3 10 9) 9 then bif aN 0 5 then aN (aW (aB x.3 25 18)) 18 else false else false else false then cV (aB x.3 0 10) (aB x.3 10 9) (ieq (aB x.3 19 1) 1) 0 (aW (aB x.3 25 18))else 0)else s.3)) (.ret {d:=true,x:= {x with at':=3},s:=(qX s x.1 x.3 (bif bif aN (aB x.3 0 10) 10 then bif aN (aB x.3 10 9) 9 then bif aN 0 5 then aN (aW (aB x.3 25 18)) 18 else false else false else false then cV (aB x.3 0 10) (aB x.3 10 9) (ieq (aB x.3 19 1) 1) 0 (aW (aB x.3 25 18))else 0)) })))))
theorem LO:YA CC 3:=by
 intro t n x s K h;exact cM' (E:=EB3) (by kernel_rfl) h
def clT(t n:Int)(x:CLS)(s:MS):Tr ClO:=
 bif ieq x.at' 0 then B9 t n x s else
 bif ieq x.at' 1 then CA t n x s else
 bif ieq x.at' 2 then CB t n x s else
 bif ieq x.at' 3 then CC t n x s else .pre False (.ret default)
def pR(t n:Int)(x:CLS)(s:MS):ClO:=(clT t n x s).val
def RA(t n:Int)(x:CLS)(s:MS):Prop:=(clT t n x s).ok
theorem YB(t n:Int)(x:CLS)(s:MS)(K:AVal->aC Ob->Prop)(h:(clT t n x s).run (fun y=>(ClO.fin t n y).run K)):cT' 214 [.ptr 0 0,.ptr 1 0] (clH t n x s) K:=by
 unfold clT at h
 by_cases e:x.at'=0
 ·rw [e]at h;have h:(B9 t n x s).run _:=h;refine aLx (root:=0) (pos:=[]) (cs:=[]) (parse:=clP t n) (fin:=ClO.fin t n) z8 (aQ.unpack (.clear t n x) 0 0 (mW t n x) [] rfl (congrArg (Prod.mk 0) rfl) (by kernel_rfl) rfl) ?_
  have q:=LK t n x s _ h;rw [<-e]at q;exact q
 rw [bK e]at h
 by_cases e:x.at'=1
 ·rw [e]at h;have h:(CA t n x s).run _:=h;refine aLx (root:=0) (pos:=[]) (cs:=[]) (parse:=clP t n) (fin:=ClO.fin t n) z8 (aQ.unpack (.clear t n x) 0 0 (mW t n x) [] rfl (congrArg (Prod.mk 0) rfl) (by kernel_rfl) rfl) ?_
  have q:=LM t n x s _ h;rw [<-e]at q;exact q
 rw [bK e]at h
 by_cases e:x.at'=2
 ·rw [e]at h;have h:(CB t n x s).run _:=h;refine aLx (root:=0) (pos:=[]) (cs:=[]) (parse:=clP t n) (fin:=ClO.fin t n) z8 (aQ.unpack (.clear t n x) 0 0 (mW t n x) [] rfl (congrArg (Prod.mk 0) rfl) (by kernel_rfl) rfl) ?_
  have q:=LN t n x s _ h;rw [<-e]at q;exact q
 rw [bK e]at h
 by_cases e:x.at'=3
 ·rw [e]at h;have h:(CC t n x s).run _:=h;refine aLx (root:=0) (pos:=[]) (cs:=[]) (parse:=clP t n) (fin:=ClO.fin t n) z8 (aQ.unpack (.clear t n x) 0 0 (mW t n x) [] rfl (congrArg (Prod.mk 0) rfl) (by kernel_rfl) rfl) ?_
  have q:=LO t n x s _ h;rw [<-e]at q;exact q
 rw [bK e]at h;exact h.1.elim
noncomputable def clS:aI Ob:=fun args h=>match args,h with
 | [.ptr 0 0,.ptr 1 0],[some (.abs (.clear t n x) []),e1,e2]=>(match cQ 2 [e1,e2]with
   | some (l,s)=>some (.pre (l=s.xs.length/\RA t n x s) (ClO.fin t n (pR t n x s)))
   | none=>none)
 | _,_=>none
theorem aHr:sT' 214 clS:=by
 intro args h o ho K hK;unfold clS at ho;split at ho
 case h_2=>cases ho
 split at ho
 case h_2=>cases ho
 rename_i hm;cases ho;obtain⟨⟨hl,ok⟩,hK⟩:=hK;cases bB hm hl;exact YB _ _ _ _ K (aLD ok hK)
def aDI(t n:Int)(v:AVal)(g:aC Ob):Option (Prop×CLS):=match v,g with
 | .ptr 0 0,[some (.cells [.int .i64 t1,.int .i64 n1,.int .i64 addr,.int .i64 at',.int .u64 word,.int .u64 found])]=>some ((t1=t/\n1=n),(⟨addr,at',word,found⟩:CLS))
 | _,_=>none
abbrev X7(t n:Int)(y:CLS):aC Ob:=[some (.abs (.clear t n y) [])]
theorem X8{t n:Int} :bQ (obI tbl) 0 (aDI t n) (fun y=>.ret (.ptr 0 0) (X7 t n y)):=by
 intro v g p x hp hq K hK;unfold aDI at hp;split at hp
 case h_2=>cases hp
 rename_i t1 n1 addr at' word found;cases hp;obtain⟨rfl,rfl⟩:=hq;exact⟨⟨_,_,aF.pack (X7 t1 n1 (⟨addr,at',word,found⟩:CLS)) (.clear t1 n1 (⟨addr,at',word,found⟩:CLS)) 0 0 (mW t1 n1 (⟨addr,at',word,found⟩:CLS)) [] (by kernel_rfl) rfl (congrArg (Prod.mk 0) rfl) (by kernel_rfl),hK⟩⟩
def aDJ(t n:Int)(a:Int):Tr CLS:=.pre (t=t/\n=n) (.ret {addr:=a,at':=0,word:=0,found:=0})
def zZ(t n:Int)(a:Int):CLS:=(aDJ t n a).val
def rG(t n:Int)(a:Int):Prop:=(aDJ t n a).ok
def clNS:aI Ob:=fun args h=>match args,h with
 | [.agg [.int .i64 t,.int .i64 n],.int .i64 a],[]=>some (.pre (rG t n a) (.ret (.ptr 0 0) (X7 t n (zZ t n a))))
 | _,_=>none
theorem aDK:sT' 258 clNS:=by
 intro args h o ho K hK;unfold clNS at ho;split at ho
 case h_2=>cases ho
 rename_i t n a;cases ho;obtain⟨ok,hK⟩:=hK;refine aLK (root:=0) (pos:=[]) (cs:=[]) (parse:=aDI t n) X8 ?_;exact cM' (E:=EB3) (q:=(aDJ t n a).run (fun y=>(Out.ret (.ptr 0 0) (X7 t n y)).run K)) (by kernel_rfl) (aLD ok hK)
noncomputable def EC1:=((EB3.addS 214 clS aHr).addS 258 clNS aDK)
def cmpI(a b:Int):Int:=bif ilt a b then -1 else bif ilt b a then 1 else 0
def orI(a b:Int):Int:=bif ieq a 0 then b else a
def EV(u n v m:Int):Int:=orI (cmpI n m) (cmpI u v)
def RC:aZ Ob:=fun args h=>match args,h with
 | [.int .i64 a,.int .i64 b],[]=>some (True,.I (cmpI a b))
 | _,_=>none
theorem YC:sT' 280 RC.spec:=by
 intro args h o ho K hK;unfold aZ.spec RC at ho;split at ho
 case h_2=>cases ho
 rename_i p v hp;split at hp
 case h_2=>cases hp
 rename_i a b;cases hp;cases ho;obtain⟨hp,hK⟩:=hK;have hK:K (.I (cmpI a b)) []:=hK;refine aLw (cM' (E:=EC1) (q:=bif !ieq a a then bif !ieq b b then K (.I 0) []else K (.I (-1:Int)) []else bif !ieq b b then K (.I 1) []else bif ilt a b then K (.I (-1:Int)) []else bif ilt b a then K (.I 1) []else K (.I 0) []) (by kernel_rfl) ?_)
 unfold cmpI at hK;rw [rX,rX];cases h:ilt a b with
 | true=>rw [h]at hK;exact hK
 | false=>cases h2:ilt b a<;>(rw [h,h2]at hK;exact hK)
def RE:aZ Ob:=fun args h=>match args,h with
 | [.int .u64 a,.int .u64 b],[]=>some (True,.I (cmpI a b))
 | _,_=>none
theorem YE:sT' 279 RE.spec:=by
 intro args h o ho K hK;unfold aZ.spec RE at ho;split at ho
 case h_2=>cases ho
 rename_i p v hp;split at hp
 case h_2=>cases hp
 rename_i a b;cases hp;cases ho;obtain⟨hp,hK⟩:=hK;have hK:K (.I (cmpI a b)) []:=hK;refine aLw (cM' (E:=EC1) (q:=bif !ieq a a then bif !ieq b b then K (.I 0) []else K (.I (-1:Int)) []else bif !ieq b b then K (.I 1) []else bif ilt a b then K (.I (-1:Int)) []else bif ilt b a then K (.I 1) []else K (.I 0) []) (by kernel_rfl) ?_)
 unfold cmpI at hK;rw [rX,rX];cases h:ilt a b with
 | true=>rw [h]at hK;exact hK
 | false=>cases h2:ilt b a<;>(rw [h,h2]at hK;exact hK)
def RD:aZ Ob:=fun args h=>match args,h with
 | [.slice 0 0 2 1],[some (.cells [.int .i64 a,.int .i64 b])]=>some (True,.I (orI a b))
 | _,_=>none
theorem YD:sT' 278 RD.spec:=by
 intro args h o ho K hK;unfold aZ.spec RD at ho;split at ho
 case h_2=>cases ho
 rename_i p v hp;split at hp
 case h_2=>cases hp
 rename_i a b;cases hp;cases ho;obtain⟨hp,hK⟩:=hK;have hK:K (.I (orI a b)) [cE' [.I a,.I b]]:=hK;refine aLw (cM' (E:=EC1) (q:=((0:Int)<=(0:Int)/\(0:Int)<(↑2:Int))/\bif !ieq a 0 then K (.I a) [cE' [.I a,.I b]]else((0:Int)<=W (0+1)/\W (0+1)<(↑2:Int))/\bif !ieq b 0 then K (.I b) [cE' [.I a,.I b]]else K (.I 0) [cE' [.I a,.I b]]) (by kernel_rfl) ?_)
 unfold orI at hK;have e1:W (0+1)=1:=by decide
 simp only [W]at e1;simp only [W,e1];refine⟨by omega,?_⟩
 cases h:ieq a 0 with
 | false=>rw [h]at hK;exact hK
 | true=>
   rw [h]at hK;refine⟨by omega,?_⟩
   cases h2:ieq b 0 with
   | false=>exact hK
   | true=>
     have:b=0:=by rw [cI]at h2;simpa using h2
     subst this;exact hK
noncomputable def EQ1:=((EC1.addR 280 RC YC).addR 279 RE YE).addR 278 RD YD
def UV:aZ Ob:=fun args h=>match args,h with
 | [.agg [.int .i64 u,.int .u64 n],.agg [.int .i64 v,.int .u64 m]],[]=>some (True,.I (EV u n v m))
 | _,_=>none
theorem aBn:sT' 244 UV.spec:=by
 intro args h o ho K hK;unfold aZ.spec UV at ho;split at ho
 case h_2=>cases ho
 rename_i p v hp;split at hp
 case h_2=>cases hp
 rename_i u n v m;cases hp;cases ho;obtain⟨hp,hK⟩:=hK;have hK:K (.I (EV u n v m)) []:=hK;refine aLw (cM' (E:=EQ1) (q:=True/\True/\True/\K (.I (orI (cmpI n m) (cmpI u v))) []) (by kernel_rfl) ?_)
 exact⟨trivial,trivial,trivial,hK⟩
noncomputable def EQ2:=EQ1.addR 244 UV aBn
def A0(u n v m:Int):Bool:=!ile 0 (EV u n v m)
def IE:aZ Ob:=fun args h=>match args,h with
 | [.slice 0 0 2 2],[some (.cells [.int .i64 u,.int .u64 n,.int .i64 v,.int .u64 m])]=>some (True,.bool (A0 u n v m))
 | _,_=>none
theorem UW:sT' 195 IE.spec:=by
 intro args h o ho K hK;unfold aZ.spec IE at ho;split at ho
 case h_2=>cases ho
 rename_i p v hp;split at hp
 case h_2=>cases hp
 rename_i u n v m;cases hp;cases ho;obtain⟨hp,hK⟩:=hK;have hK:K (.bool (A0 u n v m)) [cE' [.I u,.int .u64 n,.I v,.int .u64 m]]:=hK;refine aLw (cM' (E:=EQ2) (q:=((0:Int)<=W (1 - 1)/\W (1 - 1)<(↑2:Int))/\((0:Int)<=(1:Int)/\(1:Int)<(↑2:Int))/\True/\bif ile 0 (EV u n v m)then K (.bool false) [cE' [.I u,.int .u64 n,.I v,.int .u64 m]]else K (.bool true) [cE' [.I u,.int .u64 n,.I v,.int .u64 m]]) (by kernel_rfl) ?_)
 have e1:W (1 - 1)=0:=by decide
 simp only [W]at e1;simp only [W,e1];refine⟨by omega,by omega,trivial,?_⟩
 unfold A0 at hK;cases h:ile 0 (EV u n v m)<;>(rw [h]at hK;exact hK)
noncomputable def EQ:=EQ2.addR 195 IE UW
structure HdO where
 d:Bool
 x:HDS
 s:MS
instance:Inhabited HdO:=⟨⟨false,⟨0,0,0,false⟩,⟨0,0,[],0,0,0,0,0,false⟩⟩⟩
instance:Inhabited HDS:=⟨⟨0,0,0,false⟩⟩
abbrev hdH(t n:Int)(x:HDS)(s:MS):aC Ob:=[some (.abs (.head t n x) []),bI 2 s,bJ s]
abbrev hdD(t n:Int)(x:HDS)(s:MS):aC Ob:=[cE' [.I t,.I n,.I x.u,.int .u64 x.no,.I x.at',.bool x.tk],bI 2 s,bJ s]
def HdO.fin(t n:Int)(y:HdO):Out Ob:=.ite y.d (.ret (.bool true) (hdD t n y.x y.s)) (.ret (.bool false) (hdH t n y.x y.s))
def aFm(t n:Int)(v:AVal)(g:aC Ob):Option (Prop×HdO):=match v,g with
 | .bool d,[some (.cells [.int .i64 t1,.int .i64 n1,.int .i64 u,.int .u64 no,.int .i64 at',.bool tk]),e1,e2]=>(match cQ 2 [e1,e2]with
   | some (l,s)=>some ((t1=t/\n1=n)/\l=s.xs.length,⟨d,⟨u,no,at',tk⟩,s⟩)
   | none=>none)
 | _,_=>none
def hdP(t n:Int)(v:AVal)(g:aC Ob):Option (Prop×HdO):=aFm t n v g
theorem aAr{t n:Int} :bQ (obI tbl) 3 (aFm t n) (HdO.fin t n):=by
 intro v g p x hp hq K hK;unfold aFm at hp;split at hp
 case h_2=>cases hp
 rename_i d t1 n1 u no at' tk e1 e2;split at hp
 case h_2=>cases hp
 rename_i l s hm;cases hp;obtain⟨⟨rfl,rfl⟩,hl⟩:=hq;cases bB hm hl;refine sE hK (fun h=>?_) (fun h=>?_)
 ·exact⟨⟨_,_,aLM _ _ _,h⟩⟩
 ·exact⟨⟨_,_,(aF.pack (hdH t1 n1 (⟨u,no,at',tk⟩:HDS) s) (.head t1 n1 (⟨u,no,at',tk⟩:HDS)) 0 0 (AM t1 n1 (⟨u,no,at',tk⟩:HDS)) [] (by kernel_rfl) rfl (congrArg (Prod.mk 0) rfl) (by kernel_rfl)),h⟩⟩
theorem aFn{t n:Int} :bQ (obI tbl) 3 (hdP t n) (HdO.fin t n):=by
 intro v g p x hp hq K hK;unfold hdP at hp;exact aAr v g p x hp hq K hK
abbrev w0g(n t:Int)(x:HDS):=(((0:Int)<=t/\t<=(100000:Int))/\((0:Int)<=n/\n<=(100000:Int))/\(-1099511627776:Int)<=x.3/\x.3<=(1099511627776:Int))/\True
abbrev w0h(n:Int)(s:MS)(t:Int)(x:HDS):Tr HdO:=.ret {d:=ile t (W (x.3+1)),x:= {u:=x.3,no:=aE s.3 (2*n+5+2*t+3*x.3),at':=W (x.3+1),tk:=false},s:=(eC s (2*n+5+2*t+3*x.3)) }
def aAs(t n:Int)(x:HDS)(s:MS):Tr HdO:=.ite (!x.4) (.pre (w0g n t x) (.pre ((q9' s)/\True) (.pre True (.pre True (.ite (!oN (aB (aE s.3 (2*n+5+2*t+3*x.3+2)) 49 3)) (.pre ((t=t/\n=n)/\lE' s.3) (.ret {d:=ile t (W (x.3+1)),x:= {u:=x.1,no:=x.2,at':=W (x.3+1),tk:=false},s:=(eC s (2*n+5+2*t+3*x.3+2)) })) (.pre ((t=t/\n=n)/\lE' s.3) (.ret {d:=false,x:= {x with tk:=oN (aB (aE s.3 (2*n+5+2*t+3*x.3+2)) 49 3) },s:=(eC s (2*n+5+2*t+3*x.3+2)) }))))))) (.pre (w0g n t x) (.pre ((q9' s)/\True) (.ite (ilt x.1 0) (.pre ((t=t/\n=n)/\lE' s.3) (w0h n s t x)) (.pre True (.ite (A0 x.3 (aE s.3 (2*n+5+2*t+3*x.3)) x.1 x.2) (.pre ((t=t/\n=n)/\lE' s.3) (w0h n s t x)) (.pre ((t=t/\n=n)/\lE' s.3) (.ret {d:=ile t (W (x.3+1)),x:= {u:=x.1,no:=x.2,at':=W (x.3+1),tk:=false},s:=(eC s (2*n+5+2*t+3*x.3)) })))))))
theorem S5(t n:Int)(x:HDS)(s:MS)(K:HdO->Prop)(h:(aAs t n x s).run K):cT' 150 [.ptr 0 0,.ptr 1 0] [cE' [.I t,.I n,.I x.u,.int .u64 x.no,.I x.at',.bool x.tk],bI 2 s,bJ s] (fG 3 0 [] [] (hdP t n) K):=by
 exact cM' (E:=EQ) (by kernel_rfl) h
def hdT(t n:Int)(x:HDS)(s:MS):Tr HdO:=aAs t n x s
def qY(t n:Int)(x:HDS)(s:MS):HdO:=(hdT t n x s).val
def aFl(t n:Int)(x:HDS)(s:MS):Prop:=(hdT t n x s).ok
theorem aAt(t n:Int)(x:HDS)(s:MS)(K:AVal->aC Ob->Prop)(h:(hdT t n x s).run (fun y=>(HdO.fin t n y).run K)):cT' 150 [.ptr 0 0,.ptr 1 0] (hdH t n x s) K:=by
 unfold hdT at h;exact aLx (root:=0) (pos:=[]) (cs:=[]) (parse:=hdP t n) (fin:=HdO.fin t n) aFn (aQ.unpack (.head t n x) 0 0 (AM t n x) [] rfl (congrArg (Prod.mk 0) rfl) (by kernel_rfl) rfl) (S5 t n x s _ h)
noncomputable def hdS:aI Ob:=fun args h=>match args,h with
 | [.ptr 0 0,.ptr 1 0],[some (.abs (.head t n x) []),e1,e2]=>(match cQ 2 [e1,e2]with
   | some (l,s)=>some (.pre (l=s.xs.length/\aFl t n x s) (HdO.fin t n (qY t n x s)))
   | none=>none)
 | _,_=>none
theorem aIn:sT' 150 hdS:=by
 intro args h o ho K hK;unfold hdS at ho;split at ho
 case h_2=>cases ho
 split at ho
 case h_2=>cases ho
 rename_i hm;cases ho;obtain⟨⟨hl,ok⟩,hK⟩:=hK;cases bB hm hl;exact aAt _ _ _ _ K (aLD ok hK)
def aFi(t n:Int)(v:AVal)(g:aC Ob):Option (Prop×HDS):=match v,g with
 | .ptr 0 0,[some (.cells [.int .i64 t1,.int .i64 n1,.int .i64 u,.int .u64 no,.int .i64 at',.bool tk])]=>some ((t1=t/\n1=n),(⟨u,no,at',tk⟩:HDS))
 | _,_=>none
abbrev aAo(t n:Int)(y:HDS):aC Ob:=[some (.abs (.head t n y) [])]
theorem aAp{t n:Int} :bQ (obI tbl) 0 (aFi t n) (fun y=>.ret (.ptr 0 0) (aAo t n y)):=by
 intro v g p x hp hq K hK;unfold aFi at hp;split at hp
 case h_2=>cases hp
 rename_i t1 n1 u no at' tk;cases hp;obtain⟨rfl,rfl⟩:=hq;exact⟨⟨_,_,aF.pack (aAo t1 n1 (⟨u,no,at',tk⟩:HDS)) (.head t1 n1 (⟨u,no,at',tk⟩:HDS)) 0 0 (AM t1 n1 (⟨u,no,at',tk⟩:HDS)) [] (by kernel_rfl) rfl (congrArg (Prod.mk 0) rfl) (by kernel_rfl),hK⟩⟩
def aFj(t n:Int):Tr HDS:=.pre (t=t/\n=n) (.ret {u:= -1,no:=0,at':=0,tk:=false})
def aFh(t n:Int):HDS:=(aFj t n).val
def S4(t n:Int):Prop:=(aFj t n).ok
def hdNS:aI Ob:=fun args h=>match args,h with
 | [.agg [.int .i64 t,.int .i64 n]],[]=>some (.pre (S4 t n) (.ret (.ptr 0 0) (aAo t n (aFh t n))))
 | _,_=>none
theorem aFk:sT' 128 hdNS:=by
 intro args h o ho K hK;unfold hdNS at ho;split at ho
 case h_2=>cases ho
 rename_i t n;cases ho;obtain⟨ok,hK⟩:=hK;refine aLK (root:=0) (pos:=[]) (cs:=[]) (parse:=aFi t n) aAp ?_;exact cM' (E:=EQ) (q:=(aFj t n).run (fun y=>(Out.ret (.ptr 0 0) (aAo t n y)).run K)) (by kernel_rfl) (aLD ok hK)
noncomputable def EC2:=((EQ.addS 150 hdS aIn).addS 128 hdNS aFk)
structure DrO where
 d:Bool
 x:DRS
 s:MS
instance:Inhabited DrO:=⟨⟨false,⟨0,0⟩,⟨0,0,[],0,0,0,0,0,false⟩⟩⟩
instance:Inhabited DRS:=⟨⟨0,0⟩⟩
abbrev drH(t n:Int)(x:DRS)(s:MS):aC Ob:=[some (.abs (.drop t n x) []),bI 2 s,bJ s]
abbrev drD(t n:Int)(x:DRS)(s:MS):aC Ob:=[cE' [.I t,.I n,.I x.th,.I x.at'],bI 2 s,bJ s]
def DrO.fin(t n:Int)(y:DrO):Out Ob:=.ite y.d (.ret (.bool true) (drD t n y.x y.s)) (.ret (.bool false) (drH t n y.x y.s))
def aEb(t n:Int)(v:AVal)(g:aC Ob):Option (Prop×DrO):=match v,g with
 | .bool d,[some (.cells [.int .i64 t1,.int .i64 n1,.int .i64 th,.int .i64 at']),e1,e2]=>(match cQ 2 [e1,e2]with
   | some (l,s)=>some ((t1=t/\n1=n)/\l=s.xs.length,⟨d,⟨th,at'⟩,s⟩)
   | none=>none)
 | _,_=>none
def drP(t n:Int)(v:AVal)(g:aC Ob):Option (Prop×DrO):=aEb t n v g
theorem Y6{t n:Int} :bQ (obI tbl) 3 (aEb t n) (DrO.fin t n):=by
 intro v g p x hp hq K hK;unfold aEb at hp;split at hp
 case h_2=>cases hp
 rename_i d t1 n1 th at' e1 e2;split at hp
 case h_2=>cases hp
 rename_i l s hm;cases hp;obtain⟨⟨rfl,rfl⟩,hl⟩:=hq;cases bB hm hl;refine sE hK (fun h=>?_) (fun h=>?_)
 ·exact⟨⟨_,_,aLM _ _ _,h⟩⟩
 ·exact⟨⟨_,_,(aF.pack (drH t1 n1 (⟨th,at'⟩:DRS) s) (.drop t1 n1 (⟨th,at'⟩:DRS)) 0 0 (AC t1 n1 (⟨th,at'⟩:DRS)) [] (by kernel_rfl) rfl (congrArg (Prod.mk 0) rfl) (by kernel_rfl)),h⟩⟩
theorem aEc{t n:Int} :bQ (obI tbl) 3 (drP t n) (DrO.fin t n):=by
 intro v g p x hp hq K hK;unfold drP at hp;exact Y6 v g p x hp hq K hK
def Y7(t n:Int)(x:DRS)(s:MS):Tr DrO:=.pre ((((0:Int)<=t/\t<=(100000:Int))/\((0:Int)<=n/\n<=(100000:Int))/\((-1099511627776:Int)<=x.1/\x.1<=(1099511627776:Int))/\(-1099511627776:Int)<=x.2/\x.2<=(1099511627776:Int))/\True) (.pre ((q9' s)/\True) (.pre ((t=t/\n=n)/\lE' (aX s.3 (2*n+5+2*x.1+x.2) 0)) (.ret {d:=ile 2 (W (x.2+1)),x:= {th:=x.1,at':=W (x.2+1) },s:=(O6 s 2 (2*n+5+2*x.1+x.2) 0) })))
theorem RR(t n:Int)(x:DRS)(s:MS)(K:DrO->Prop)(h:(Y7 t n x s).run K):cT' 166 [.ptr 0 0,.ptr 1 0] [cE' [.I t,.I n,.I x.th,.I x.at'],bI 2 s,bJ s] (fG 3 0 [] [] (drP t n) K):=by
 exact cM' (E:=EC2) (by kernel_rfl) h
def drT(t n:Int)(x:DRS)(s:MS):Tr DrO:=Y7 t n x s
def WJ(t n:Int)(x:DRS)(s:MS):DrO:=(drT t n x s).val
def aEa(t n:Int)(x:DRS)(s:MS):Prop:=(drT t n x s).ok
theorem Y8(t n:Int)(x:DRS)(s:MS)(K:AVal->aC Ob->Prop)(h:(drT t n x s).run (fun y=>(DrO.fin t n y).run K)):cT' 166 [.ptr 0 0,.ptr 1 0] (drH t n x s) K:=by
 unfold drT at h;exact aLx (root:=0) (pos:=[]) (cs:=[]) (parse:=drP t n) (fin:=DrO.fin t n) aEc (aQ.unpack (.drop t n x) 0 0 (AC t n x) [] rfl (congrArg (Prod.mk 0) rfl) (by kernel_rfl) rfl) (RR t n x s _ h)
noncomputable def drS:aI Ob:=fun args h=>match args,h with
 | [.ptr 0 0,.ptr 1 0],[some (.abs (.drop t n x) []),e1,e2]=>(match cQ 2 [e1,e2]with
   | some (l,s)=>some (.pre (l=s.xs.length/\aEa t n x s) (DrO.fin t n (WJ t n x s)))
   | none=>none)
 | _,_=>none
theorem aHw:sT' 166 drS:=by
 intro args h o ho K hK;unfold drS at ho;split at ho
 case h_2=>cases ho
 split at ho
 case h_2=>cases ho
 rename_i hm;cases ho;obtain⟨⟨hl,ok⟩,hK⟩:=hK;cases bB hm hl;exact Y8 _ _ _ _ K (aLD ok hK)
def aD7(t n:Int)(v:AVal)(g:aC Ob):Option (Prop×DRS):=match v,g with
 | .ptr 0 0,[some (.cells [.int .i64 t1,.int .i64 n1,.int .i64 th,.int .i64 at'])]=>some ((t1=t/\n1=n),(⟨th,at'⟩:DRS))
 | _,_=>none
abbrev Y3(t n:Int)(y:DRS):aC Ob:=[some (.abs (.drop t n y) [])]
theorem Y4{t n:Int} :bQ (obI tbl) 0 (aD7 t n) (fun y=>.ret (.ptr 0 0) (Y3 t n y)):=by
 intro v g p x hp hq K hK;unfold aD7 at hp;split at hp
 case h_2=>cases hp
 rename_i t1 n1 th at';cases hp;obtain⟨rfl,rfl⟩:=hq;exact⟨⟨_,_,aF.pack (Y3 t1 n1 (⟨th,at'⟩:DRS)) (.drop t1 n1 (⟨th,at'⟩:DRS)) 0 0 (AC t1 n1 (⟨th,at'⟩:DRS)) [] (by kernel_rfl) rfl (congrArg (Prod.mk 0) rfl) (by kernel_rfl),hK⟩⟩
def aD8(t n:Int)(u:Int):Tr DRS:=.pre (t=t/\n=n) (.ret {th:=u,at':=0})
def CS(t n:Int)(u:Int):DRS:=(aD8 t n u).val
def tU(t n:Int)(u:Int):Prop:=(aD8 t n u).ok
def drNS:aI Ob:=fun args h=>match args,h with
 | [.agg [.int .i64 t,.int .i64 n],.int .i64 u],[]=>some (.pre (tU t n u) (.ret (.ptr 0 0) (Y3 t n (CS t n u))))
 | _,_=>none
theorem aD9:sT' 233 drNS:=by
 intro args h o ho K hK;unfold drNS at ho;split at ho
 case h_2=>cases ho
 rename_i t n u;cases ho;obtain⟨ok,hK⟩:=hK;refine aLK (root:=0) (pos:=[]) (cs:=[]) (parse:=aD7 t n) Y4 ?_;exact cM' (E:=EC2) (q:=(aD8 t n u).run (fun y=>(Out.ret (.ptr 0 0) (Y3 t n y)).run K)) (by kernel_rfl) (aLD ok hK)
noncomputable def EC3:=((EC2.addS 166 drS aHw).addS 233 drNS aD9)
structure AnO where
 d:Bool
 x:ANS
 s:MS
instance:Inhabited AnO:=⟨⟨false,⟨0,0,0,0,false,0⟩,⟨0,0,[],0,0,0,0,0,false⟩⟩⟩
instance:Inhabited ANS:=⟨⟨0,0,0,0,false,0⟩⟩
abbrev anH(t n:Int)(x:ANS)(s:MS):aC Ob:=[some (.abs (.announce t n x) []),bI 2 s,bJ s]
abbrev anD(t n:Int)(x:ANS)(s:MS):aC Ob:=[cE' [.I t,.I n,.int .u64 x.no,.I x.me,.I x.at',.int .u64 x.bits,.bool x.wrong,.int .u64 x.found],bI 2 s,bJ s]
def AnO.fin(t n:Int)(y:AnO):Out Ob:=.ite y.d (.ret (.bool true) (anD t n y.x y.s)) (.ret (.bool false) (anH t n y.x y.s))
def aDl(t n:Int)(v:AVal)(g:aC Ob):Option (Prop×AnO):=match v,g with
 | .bool d,[some (.cells [.int .i64 t1,.int .i64 n1,.int .u64 no,.int .i64 me,.int .i64 at',.int .u64 bits,.bool wrong,.int .u64 found]),e1,e2]=>(match cQ 2 [e1,e2]with
   | some (l,s)=>some ((t1=t/\n1=n)/\l=s.xs.length,⟨d,⟨no,me,at',bits,wrong,found⟩,s⟩)
   | none=>none)
 | _,_=>none
def anP(t n:Int)(v:AVal)(g:aC Ob):Option (Prop×AnO):=aDl t n v g
theorem XK{t n:Int} :bQ (obI tbl) 3 (aDl t n) (AnO.fin t n):=by
 intro v g p x hp hq K hK;unfold aDl at hp;split at hp
 case h_2=>cases hp
 rename_i d t1 n1 no me at' bits wrong found e1 e2;split at hp
 case h_2=>cases hp
 rename_i l s hm;cases hp;obtain⟨⟨rfl,rfl⟩,hl⟩:=hq;cases bB hm hl;refine sE hK (fun h=>?_) (fun h=>?_)
 ·exact⟨⟨_,_,aLM _ _ _,h⟩⟩
 ·exact⟨⟨_,_,(aF.pack (anH t1 n1 (⟨no,me,at',bits,wrong,found⟩:ANS) s) (.announce t1 n1 (⟨no,me,at',bits,wrong,found⟩:ANS)) 0 0 (fJ t1 n1 (⟨no,me,at',bits,wrong,found⟩:ANS)) [] (by kernel_rfl) rfl (congrArg (Prod.mk 0) rfl) (by kernel_rfl)),h⟩⟩
theorem vT{t n:Int} :bQ (obI tbl) 3 (anP t n) (AnO.fin t n):=by
 intro v g p x hp hq K hK;unfold anP at hp;exact XK v g p x hp hq K hK
abbrev w0i(n t:Int)(x:ANS):=(((0:Int)<=t/\t<=(100000:Int))/\((0:Int)<=n/\n<=(100000:Int))/\(-1099511627776:Int)<=x.2/\x.2<=(1099511627776:Int))/\True
def BU(t n:Int)(x:ANS)(s:MS):Tr AnO:=.ite x.5 (.pre (q9' s) (.pre ((t=t/\n=n)/\lE' s.3) (.ret {d:=true,x:= {x with at':=0},s:=(eC s 0) }))) (.pre (w0i n t x) (.pre ((q9' s)/\True) (.pre ((t=t/\n=n)/\lE' (aX s.3 (2*n+5+2*t+3*x.2+1) x.4)) (.ret {d:=false,x:= {x with at':=W (0+1)},s:=(O6 s 2 (2*n+5+2*t+3*x.2+1) x.4) }))))
abbrev QL(F:Int->Int->ANS->MS->Tr AnO)(a:Int):Prop:= ∀(t n:Int) (x:ANS) (s:MS) (K:AnO->Prop) (h:(F t n x s).run K),cT' 158 [.ptr 0 0,.ptr 1 0] [cE' [.I t,.I n,.int .u64 x.no,.I x.me,.I a,.int .u64 x.bits,.bool x.wrong,.int .u64 x.found],bI 2 s,bJ s] (fG 3 0 [] [] (anP t n) K)
theorem K7:QL BU 0:=by
 intro t n x s K h;exact cM' (E:=EC3) (by kernel_rfl) h
def BV(t n:Int)(x:ANS)(s:MS):Tr AnO:=.ite x.5 (.pre (q9' s) (.pre ((t=t/\n=n)/\lE' s.3) (.ret {d:=true,x:= {x with at':=1},s:=(eC s 0) }))) (.pre (((0:Int)<=t/\t<=(100000:Int))/\(0:Int)<=n/\n<=(100000:Int)) (.pre (q9' s) (.pre ((t=t/\n=n)/\lE' (aX s.3 (2*n+5+2*t+3*t) (WU (aE s.3 (2*n+5+2*t+3*t)+1)))) (.ret {d:=false,x:= {x with no:=WU (aE s.3 (2*n+5+2*t+3*t)+1),at':=W (1+1)},s:=(O6 s 4 (2*n+5+2*t+3*t) (WU (aE s.3 (2*n+5+2*t+3*t)+1))) }))))
theorem K8:QL BV 1:=by
 intro t n x s K h;exact cM' (E:=EC3) (by kernel_rfl) h
def BW(t n:Int)(x:ANS)(s:MS):Tr AnO:=.ite x.5 (.pre (q9' s) (.pre ((t=t/\n=n)/\lE' s.3) (.ret {d:=true,x:= {x with at':=2},s:=(eC s 0) }))) (.pre (w0i n t x) (.pre ((q9' s)/\True) (.pre ((t=t/\n=n)/\lE' (aX s.3 (2*n+5+2*t+3*x.2) x.1)) (.ret {d:=false,x:= {x with at':=W (2+1)},s:=(O6 s 2 (2*n+5+2*t+3*x.2) x.1) }))))
theorem K9:QL BW 2:=by
 intro t n x s K h;exact cM' (E:=EC3) (by kernel_rfl) h
def BX(t n:Int)(x:ANS)(s:MS):Tr AnO:=.ite x.5 (.pre (q9' s) (.pre ((t=t/\n=n)/\lE' s.3) (.ret {d:=true,x:= {x with at':=3},s:=(eC s 0) }))) (.pre (w0i n t x) (.pre ((q9' s)/\True) (.pre ((t=t/\n=n)/\lE' s.3) (.ret {d:=false,x:= {x with at':=W (3+1),found:=aE s.3 (2*n+5+2*t+3*x.2+2) },s:=(eC s (2*n+5+2*t+3*x.2+2)) }))))
theorem LA:QL BX 3:=by
 intro t n x s K h;exact cM' (E:=EC3) (by kernel_rfl) h
def BY(t n:Int)(x:ANS)(s:MS):Tr AnO:=.ite x.5 (.pre (q9' s) (.pre ((t=t/\n=n)/\lE' s.3) (.ret {d:=true,x:= {x with at':=4},s:=(eC s 0) }))) (.pre True (.pre ((0:Int)<=aB x.6 0 12/\aB x.6 0 (12:Int)<=(1000000:Int)) (.pre True (.pre (w0i n t x) (.pre ((q9' s)/\True) (.pre ((t=t/\n=n)/\lE' (aX s.3 (2*n+5+2*t+3*x.2+2) (bif dOk (iL (aB x.6 0 12)) 0 0 0 1 0 then cP (iL (aB x.6 0 12)) 0 0 0 false 1 0 else 0))) (.ret {d:=true,x:= {x with at':=W (4+1)},s:=(O6 s 2 (2*n+5+2*t+3*x.2+2) (bif dOk (iL (aB x.6 0 12)) 0 0 0 1 0 then cP (iL (aB x.6 0 12)) 0 0 0 false 1 0 else 0)) })))))))
theorem LB:QL BY 4:=by
 intro t n x s K h;exact cM' (E:=EC3) (by kernel_rfl) h
def anT(t n:Int)(x:ANS)(s:MS):Tr AnO:=
 bif ieq x.at' 0 then BU t n x s else
 bif ieq x.at' 1 then BV t n x s else
 bif ieq x.at' 2 then BW t n x s else
 bif ieq x.at' 3 then BX t n x s else
 bif ieq x.at' 4 then BY t n x s else .pre False (.ret default)
def GC(t n:Int)(x:ANS)(s:MS):AnO:=(anT t n x s).val
def aDk(t n:Int)(x:ANS)(s:MS):Prop:=(anT t n x s).ok
theorem XM(t n:Int)(x:ANS)(s:MS)(K:AVal->aC Ob->Prop)(h:(anT t n x s).run (fun y=>(AnO.fin t n y).run K)):cT' 158 [.ptr 0 0,.ptr 1 0] (anH t n x s) K:=by
 unfold anT at h
 by_cases e:x.at'=0
 ·rw [e]at h;have h:(BU t n x s).run _:=h;refine aLx (root:=0) (pos:=[]) (cs:=[]) (parse:=anP t n) (fin:=AnO.fin t n) vT (aQ.unpack (.announce t n x) 0 0 (fJ t n x) [] rfl (congrArg (Prod.mk 0) rfl) (by kernel_rfl) rfl) ?_
  have q:=K7 t n x s _ h;rw [<-e]at q;exact q
 rw [bK e]at h
 by_cases e:x.at'=1
 ·rw [e]at h;have h:(BV t n x s).run _:=h;refine aLx (root:=0) (pos:=[]) (cs:=[]) (parse:=anP t n) (fin:=AnO.fin t n) vT (aQ.unpack (.announce t n x) 0 0 (fJ t n x) [] rfl (congrArg (Prod.mk 0) rfl) (by kernel_rfl) rfl) ?_
  have q:=K8 t n x s _ h;rw [<-e]at q;exact q
 rw [bK e]at h
 by_cases e:x.at'=2
 ·rw [e]at h;have h:(BW t n x s).run _:=h;refine aLx (root:=0) (pos:=[]) (cs:=[]) (parse:=anP t n) (fin:=AnO.fin t n) vT (aQ.unpack (.announce t n x) 0 0 (fJ t n x) [] rfl (congrArg (Prod.mk 0) rfl) (by kernel_rfl) rfl) ?_
  have q:=K9 t n x s _ h;rw [<-e]at q;exact q
 rw [bK e]at h
 by_cases e:x.at'=3
 ·rw [e]at h;have h:(BX t n x s).run _:=h;refine aLx (root:=0) (pos:=[]) (cs:=[]) (parse:=anP t n) (fin:=AnO.fin t n) vT (aQ.unpack (.announce t n x) 0 0 (fJ t n x) [] rfl (congrArg (Prod.mk 0) rfl) (by kernel_rfl) rfl) ?_
  have q:=LA t n x s _ h;rw [<-e]at q;exact q
 rw [bK e]at h
 by_cases e:x.at'=4
 ·rw [e]at h;have h:(BY t n x s).run _:=h;refine aLx (root:=0) (pos:=[]) (cs:=[]) (parse:=anP t n) (fin:=AnO.fin t n) vT (aQ.unpack (.announce t n x) 0 0 (fJ t n x) [] rfl (congrArg (Prod.mk 0) rfl) (by kernel_rfl) rfl) ?_
  have q:=LB t n x s _ h;rw [<-e]at q;exact q
 rw [bK e]at h;exact h.1.elim
noncomputable def anS:aI Ob:=fun args h=>match args,h with
 | [.ptr 0 0,.ptr 1 0],[some (.abs (.announce t n x) []),e1,e2]=>(match cQ 2 [e1,e2]with
   | some (l,s)=>some (.pre (l=s.xs.length/\aDk t n x s) (AnO.fin t n (GC t n x s)))
   | none=>none)
 | _,_=>none
theorem aHh:sT' 158 anS:=by
 intro args h o ho K hK;unfold anS at ho;split at ho
 case h_2=>cases ho
 split at ho
 case h_2=>cases ho
 rename_i hm;cases ho;obtain⟨⟨hl,ok⟩,hK⟩:=hK;cases bB hm hl;exact XM _ _ _ _ K (aLD ok hK)
def aDh(t n:Int)(v:AVal)(g:aC Ob):Option (Prop×ANS):=match v,g with
 | .ptr 0 0,[some (.cells [.int .i64 t1,.int .i64 n1,.int .u64 no,.int .i64 me,.int .i64 at',.int .u64 bits,.bool wrong,.int .u64 found])]=>some ((t1=t/\n1=n),(⟨no,me,at',bits,wrong,found⟩:ANS))
 | _,_=>none
abbrev XH(t n:Int)(y:ANS):aC Ob:=[some (.abs (.announce t n y) [])]
theorem XI{t n:Int} :bQ (obI tbl) 0 (aDh t n) (fun y=>.ret (.ptr 0 0) (XH t n y)):=by
 intro v g p x hp hq K hK;unfold aDh at hp;split at hp
 case h_2=>cases hp
 rename_i t1 n1 no me at' bits wrong found;cases hp;obtain⟨rfl,rfl⟩:=hq;exact⟨⟨_,_,aF.pack (XH t1 n1 (⟨no,me,at',bits,wrong,found⟩:ANS)) (.announce t1 n1 (⟨no,me,at',bits,wrong,found⟩:ANS)) 0 0 (fJ t1 n1 (⟨no,me,at',bits,wrong,found⟩:ANS)) [] (by kernel_rfl) rfl (congrArg (Prod.mk 0) rfl) (by kernel_rfl),hK⟩⟩
def aDi(t n:Int)(u sh kd ky:Int):Tr ANS:=.pre True (.pre (t=t/\n=n) (.ret {no:=0,me:=u,at':=0,bits:=bif bT sh kd ky then tskV sh kd ky else 0,wrong:=!ieq (bif bT sh kd ky then 0 else 1) 0,found:=0}))
def aDg(t n:Int)(u sh kd ky:Int):ANS:=(aDi t n u sh kd ky).val
def QK(t n:Int)(u sh kd ky:Int):Prop:=(aDi t n u sh kd ky).ok
def anNS:aI Ob:=fun args h=>match args,h with
 | [.agg [.int .i64 t,.int .i64 n],.int .i64 u,.agg [.int .i64 sh,.int .i64 kd,.int .i64 ky]],[]=>some (.pre (QK t n u sh kd ky) (.ret (.ptr 0 0) (XH t n (aDg t n u sh kd ky))))
 | _,_=>none
theorem aDj:sT' 220 anNS:=by
 intro args h o ho K hK;unfold anNS at ho;split at ho
 case h_2=>cases ho
 rename_i t n u sh kd ky;cases ho;obtain⟨ok,hK⟩:=hK;refine aLK (root:=0) (pos:=[]) (cs:=[]) (parse:=aDh t n) XI ?_;exact cM' (E:=EC3) (q:=(aDi t n u sh kd ky).run (fun y=>(Out.ret (.ptr 0 0) (XH t n y)).run K)) (by kernel_rfl) (aLD ok hK)
noncomputable def EC4:=((EC3.addS 158 anS aHh).addS 220 anNS aDj)
structure AwO where
 d:Bool
 x:AWS
 s:MS
instance:Inhabited AwO:=⟨⟨false,⟨0,false,0,0⟩,⟨0,0,[],0,0,0,0,0,false⟩⟩⟩
instance:Inhabited AWS:=⟨⟨0,false,0,0⟩⟩
abbrev awH(t n:Int)(x:AWS)(s:MS):aC Ob:=[some (.abs (.answer t n x) []),bI 2 s,bJ s]
abbrev awD(t n:Int)(x:AWS)(s:MS):aC Ob:=[cE' [.I t,.I n,.I x.code,.bool x.okk,.I x.val,.I x.me],bI 2 s,bJ s]
def AwO.fin(t n:Int)(y:AwO):Out Ob:=.ite y.d (.ret (.bool true) (awD t n y.x y.s)) (.ret (.bool false) (awH t n y.x y.s))
def aDz(t n:Int)(v:AVal)(g:aC Ob):Option (Prop×AwO):=match v,g with
 | .bool d,[some (.cells [.int .i64 t1,.int .i64 n1,.int .i64 code,.bool okk,.int .i64 val,.int .i64 me]),e1,e2]=>(match cQ 2 [e1,e2]with
   | some (l,s)=>some ((t1=t/\n1=n)/\l=s.xs.length,⟨d,⟨code,okk,val,me⟩,s⟩)
   | none=>none)
 | _,_=>none
def awP(t n:Int)(v:AVal)(g:aC Ob):Option (Prop×AwO):=aDz t n v g
theorem X2{t n:Int} :bQ (obI tbl) 3 (aDz t n) (AwO.fin t n):=by
 intro v g p x hp hq K hK;unfold aDz at hp;split at hp
 case h_2=>cases hp
 rename_i d t1 n1 code okk val me e1 e2;split at hp
 case h_2=>cases hp
 rename_i l s hm;cases hp;obtain⟨⟨rfl,rfl⟩,hl⟩:=hq;cases bB hm hl;refine sE hK (fun h=>?_) (fun h=>?_)
 ·exact⟨⟨_,_,aLM _ _ _,h⟩⟩
 ·exact⟨⟨_,_,(aF.pack (awH t1 n1 (⟨code,okk,val,me⟩:AWS) s) (.answer t1 n1 (⟨code,okk,val,me⟩:AWS)) 0 0 (rD t1 n1 (⟨code,okk,val,me⟩:AWS)) [] (by kernel_rfl) rfl (congrArg (Prod.mk 0) rfl) (by kernel_rfl)),h⟩⟩
theorem aDA{t n:Int} :bQ (obI tbl) 3 (awP t n) (AwO.fin t n):=by
 intro v g p x hp hq K hK;unfold awP at hp;exact X2 v g p x hp hq K hK
abbrev w0j(n:Int)(s:MS)(t:Int)(x:AWS):=aE s.3 (2*n+5+2*t+3*x.4+2)
def X3(t n:Int)(x:AWS)(s:MS):Tr AwO:=.pre ((((0:Int)<=t/\t<=(100000:Int))/\((0:Int)<=n/\n<=(100000:Int))/\(-1099511627776:Int)<=x.4/\x.4<=(1099511627776:Int))/\True) (.pre ((q9' s)/\True) (.pre True (.pre True (.pre ((t=t/\n=n)/\lE' s.3) (.ret {d:=true,x:= {code:=resC (aB (w0j n s t x) 39 9) (aB (w0j n s t x) 49 3),okk:=aBp (aB (w0j n s t x) 39 9) (aB (w0j n s t x) 49 3) (ieq (aB (w0j n s t x) 48 1) 1),val:=aBq (aB (w0j n s t x) 39 9) (aB (w0j n s t x) 49 3) (aB (w0j n s t x) 52 10),me:=x.4},s:=(eC s (2*n+5+2*t+3*x.4+2)) })))))
theorem QU(t n:Int)(x:AWS)(s:MS)(K:AwO->Prop)(h:(X3 t n x s).run K):cT' 161 [.ptr 0 0,.ptr 1 0] [cE' [.I t,.I n,.I x.code,.bool x.okk,.I x.val,.I x.me],bI 2 s,bJ s] (fG 3 0 [] [] (awP t n) K):=by
 exact cM' (E:=EC4) (by kernel_rfl) h
def awT(t n:Int)(x:AWS)(s:MS):Tr AwO:=X3 t n x s
def tS(t n:Int)(x:AWS)(s:MS):AwO:=(awT t n x s).val
def aDy(t n:Int)(x:AWS)(s:MS):Prop:=(awT t n x s).ok
theorem X4(t n:Int)(x:AWS)(s:MS)(K:AVal->aC Ob->Prop)(h:(awT t n x s).run (fun y=>(AwO.fin t n y).run K)):cT' 161 [.ptr 0 0,.ptr 1 0] (awH t n x s) K:=by
 unfold awT at h;exact aLx (root:=0) (pos:=[]) (cs:=[]) (parse:=awP t n) (fin:=AwO.fin t n) aDA (aQ.unpack (.answer t n x) 0 0 (rD t n x) [] rfl (congrArg (Prod.mk 0) rfl) (by kernel_rfl) rfl) (QU t n x s _ h)
noncomputable def awS:aI Ob:=fun args h=>match args,h with
 | [.ptr 0 0,.ptr 1 0],[some (.abs (.answer t n x) []),e1,e2]=>(match cQ 2 [e1,e2]with
   | some (l,s)=>some (.pre (l=s.xs.length/\aDy t n x s) (AwO.fin t n (tS t n x s)))
   | none=>none)
 | _,_=>none
theorem aHn:sT' 161 awS:=by
 intro args h o ho K hK;unfold awS at ho;split at ho
 case h_2=>cases ho
 split at ho
 case h_2=>cases ho
 rename_i hm;cases ho;obtain⟨⟨hl,ok⟩,hK⟩:=hK;cases bB hm hl;exact X4 _ _ _ _ K (aLD ok hK)
def aDv(t n:Int)(v:AVal)(g:aC Ob):Option (Prop×AWS):=match v,g with
 | .ptr 0 0,[some (.cells [.int .i64 t1,.int .i64 n1,.int .i64 code,.bool okk,.int .i64 val,.int .i64 me])]=>some ((t1=t/\n1=n),(⟨code,okk,val,me⟩:AWS))
 | _,_=>none
abbrev XZ(t n:Int)(y:AWS):aC Ob:=[some (.abs (.answer t n y) [])]
theorem X0{t n:Int} :bQ (obI tbl) 0 (aDv t n) (fun y=>.ret (.ptr 0 0) (XZ t n y)):=by
 intro v g p x hp hq K hK;unfold aDv at hp;split at hp
 case h_2=>cases hp
 rename_i t1 n1 code okk val me;cases hp;obtain⟨rfl,rfl⟩:=hq;exact⟨⟨_,_,aF.pack (XZ t1 n1 (⟨code,okk,val,me⟩:AWS)) (.answer t1 n1 (⟨code,okk,val,me⟩:AWS)) 0 0 (rD t1 n1 (⟨code,okk,val,me⟩:AWS)) [] (by kernel_rfl) rfl (congrArg (Prod.mk 0) rfl) (by kernel_rfl),hK⟩⟩
def aDw(t n:Int)(u:Int):Tr AWS:=.pre (t=t/\n=n) (.ret {code:=0,okk:=false,val:=0,me:=u})
def aDu(t n:Int)(u:Int):AWS:=(aDw t n u).val
def QT(t n:Int)(u:Int):Prop:=(aDw t n u).ok
def awNS:aI Ob:=fun args h=>match args,h with
 | [.agg [.int .i64 t,.int .i64 n],.int .i64 u],[]=>some (.pre (QT t n u) (.ret (.ptr 0 0) (XZ t n (aDu t n u))))
 | _,_=>none
theorem aDx:sT' 160 awNS:=by
 intro args h o ho K hK;unfold awNS at ho;split at ho
 case h_2=>cases ho
 rename_i t n u;cases ho;obtain⟨ok,hK⟩:=hK;refine aLK (root:=0) (pos:=[]) (cs:=[]) (parse:=aDv t n) X0 ?_;exact cM' (E:=EC4) (q:=(aDw t n u).run (fun y=>(Out.ret (.ptr 0 0) (XZ t n y)).run K)) (by kernel_rfl) (aLD ok hK)
noncomputable def EC5:=((EC4.addS 161 awS aHn).addS 160 awNS aDx)
def I2:aZ Ob:=fun args h=>match args,h with
 | [.ptr 0 0],[some (.cells [.int .i64 t,.int .i64 n,.int .i64 pop,.int .i64 gave,.int .i64 u,.int .i64 sh,.int .i64 kd,.int .i64 ky,.bool only,.int .i64 att,.int .i64 at',.int .u64 found,.int .u64 word])]=>some (True,.agg [.I (aB found 0 12),.I (aB found 12 9),.I (aB found 21 18),.I (aB found 39 9),.bool (ieq (aB found 48 1) 1),.I (aB found 49 3),.I (aB found 52 10)])
 | _,_=>none
theorem WC:sT' 281 I2.spec:=by
 intro args h o ho K hK;unfold aZ.spec I2 at ho;split at ho
 case h_2=>cases ho
 rename_i p v hp;split at hp
 case h_2=>cases hp
 rename_i t n pop gave u sh kd ky only att at' found word;cases hp;cases ho;obtain⟨hp,hK⟩:=hK;have hK:K (.agg [.I (aB found 0 12),.I (aB found 12 9),.I (aB found 21 18),.I (aB found 39 9),.bool (ieq (aB found 48 1) 1),.I (aB found 49 3),.I (aB found 52 10)]) [cE' [.I t,.I n,.I pop,.I gave,.I u,.I sh,.I kd,.I ky,.bool only,.I att,.I at',.int .u64 found,.int .u64 word]]:=hK;refine aLw (cM' (E:=EC5) (q:=True/\K (.agg [.I (aB found 0 12),.I (aB found 12 9),.I (aB found 21 18),.I (aB found 39 9),.bool (ieq (aB found 48 1) 1),.I (aB found 49 3),.I (aB found 52 10)]) [cE' [.I t,.I n,.I pop,.I gave,.I u,.I sh,.I kd,.I ky,.bool only,.I att,.I at',.int .u64 found,.int .u64 word]]) (by kernel_rfl) ?_)
 exact⟨trivial,hK⟩
noncomputable def EX1:=EC5.addR 281 I2 WC
def WD(t n pop gave u sh kd ky:Int)(only:Bool)(att at' found word:Int)(k y:Int)(m:Bool)(c v:Int)(s:MS):Out Ob:=.pre True (.pre True (.pre ((q9' s)/\True) (.ret (.bool (bH s.3 (aB found 12 9) word)) [cE' [.I t,.I n,.I pop,.I gave,.I u,.I sh,.I kd,.I ky,.bool only,.I att,.I at',.int .u64 found,.int .u64 word],cE' [.I s.1,.I s.2,.slice 2 0 (List.length (bif bH s.3 (aB found 12 9) word then aX s.3 (aB found 12 9) (bif bif aN k 10 then bif aN y 9 then bif aN c 5 then aN v 18 else false else false else false then cV k y m c v else 0)else s.3)) 1,.I (s.4+1),.I 3,.I (aB found 12 9),.int .u64 (aE s.3 (aB found 12 9)),.int .u64 (bif dU s.3 (aB found 12 9)then bif bif aN k 10 then bif aN y 9 then bif aN c 5 then aN v 18 else false else false else false then cV k y m c v else 0 else 0),.bool (bH s.3 (aB found 12 9) word)],some (.ints (some .u64) (bif bH s.3 (aB found 12 9) word then aX s.3 (aB found 12 9) (bif bif aN k 10 then bif aN y 9 then bif aN c 5 then aN v 18 else false else false else false then cV k y m c v else 0)else s.3))])))
theorem WE(t n pop gave u sh kd ky:Int)(only:Bool)(att at' found word:Int)(k y:Int)(m:Bool)(c v:Int)(s:MS)(K:AVal->aC Ob->Prop)(h:(WD t n pop gave u sh kd ky only att at' found word k y m c v s).run K):cT' 284 [.ptr 0 0,.ptr 1 0,.agg [.I k,.I y,.bool m,.I c,.I v]] [cE' [.I t,.I n,.I pop,.I gave,.I u,.I sh,.I kd,.I ky,.bool only,.I att,.I at',.int .u64 found,.int .u64 word],bI 2 s,bJ s] K:=by
 refine aLw (cM' (E:=EX1) (by kernel_rfl) h)
def xputS:aI Ob:=fun args h=>match args,h with
 | [.ptr 0 0,.ptr 1 0,.agg [.int .i64 k,.int .i64 y,.bool m,.int .i64 c,.int .i64 v]],[some (.cells [.int .i64 t,.int .i64 n,.int .i64 pop,.int .i64 gave,.int .i64 u,.int .i64 sh,.int .i64 kd,.int .i64 ky,.bool only,.int .i64 att,.int .i64 at',.int .u64 found,.int .u64 word]),e1,e2]=>(match cQ 2 [e1,e2]with
   | some (l,s)=>some (.pre (l=s.xs.length) (WD t n pop gave u sh kd ky only att at' found word k y m c v s))
   | none=>none)
 | _,_=>none
theorem aB0:sT' 284 xputS:=by
 intro args h o ho K hK;unfold xputS at ho;split at ho
 case h_2=>cases ho
 split at ho
 case h_2=>cases ho
 rename_i hm;cases ho;obtain⟨hl,hK⟩:=hK;cases bB hm hl;exact WE _ _ _ _ _ _ _ _ _ _ _ _ _ _ _ _ _ _ _ K hK
def I3(t n pop gave u sh kd ky:Int)(only:Bool)(att at' found word:Int)(a b c d:Int)(m:Bool)(e f:Int)(s:MS):Out Ob:=.pre True (.pre ((((0:Int)<=t/\t<=(100000:Int))/\((0:Int)<=n/\n<=(100000:Int))/\(-1099511627776:Int)<=u/\u<=(1099511627776:Int))/\True) (.pre ((q9' s)/\True) (.ret (.bool (bH s.3 (2*n+5+2*t+3*u+2) found)) [cE' [.I t,.I n,.I pop,.I gave,.I u,.I sh,.I kd,.I ky,.bool only,.I att,.I at',.int .u64 found,.int .u64 word],cE' [.I s.1,.I s.2,.slice 2 0 (List.length (bif bH s.3 (2*n+5+2*t+3*u+2) found then aX s.3 (2*n+5+2*t+3*u+2) (bif dOk a b c d e f then cP a b c d m e f else 0)else s.3)) 1,.I (s.4+1),.I 3,.I (2*n+5+2*t+3*u+2),.int .u64 (aE s.3 (2*n+5+2*t+3*u+2)),.int .u64 (bif dU s.3 (2*n+5+2*t+3*u+2)then bif dOk a b c d e f then cP a b c d m e f else 0 else 0),.bool (bH s.3 (2*n+5+2*t+3*u+2) found)],some (.ints (some .u64) (bif bH s.3 (2*n+5+2*t+3*u+2) found then aX s.3 (2*n+5+2*t+3*u+2) (bif dOk a b c d e f then cP a b c d m e f else 0)else s.3))])))
theorem PJ(t n pop gave u sh kd ky:Int)(only:Bool)(att at' found word:Int)(a b c d:Int)(m:Bool)(e f:Int)(s:MS)(K:AVal->aC Ob->Prop)(h:(I3 t n pop gave u sh kd ky only att at' found word a b c d m e f s).run K):cT' 286 [.ptr 0 0,.ptr 1 0,.agg [.I a,.I b,.I c,.I d,.bool m,.I e,.I f]] [cE' [.I t,.I n,.I pop,.I gave,.I u,.I sh,.I kd,.I ky,.bool only,.I att,.I at',.int .u64 found,.int .u64 word],bI 2 s,bJ s] K:=by
 refine aLw (cM' (E:=EX1) (by kernel_rfl) h)
def xturnS:aI Ob:=fun args h=>match args,h with
 | [.ptr 0 0,.ptr 1 0,.agg [.int .i64 a,.int .i64 b,.int .i64 c,.int .i64 d,.bool m,.int .i64 e,.int .i64 f]],[some (.cells [.int .i64 t,.int .i64 n,.int .i64 pop,.int .i64 gave,.int .i64 u,.int .i64 sh,.int .i64 kd,.int .i64 ky,.bool only,.int .i64 att,.int .i64 at',.int .u64 found,.int .u64 word]),e1,e2]=>(match cQ 2 [e1,e2]with
   | some (l,s)=>some (.pre (l=s.xs.length) (I3 t n pop gave u sh kd ky only att at' found word a b c d m e f s))
   | none=>none)
 | _,_=>none
theorem WF:sT' 286 xturnS:=by
 intro args h o ho K hK;unfold xturnS at ho;split at ho
 case h_2=>cases ho
 split at ho
 case h_2=>cases ho
 rename_i hm;cases ho;obtain⟨hl,hK⟩:=hK;cases bB hm hl;exact PJ _ _ _ _ _ _ _ _ _ _ _ _ _ _ _ _ _ _ _ _ _ K hK
noncomputable def EX2:=(EX1.addS 284 xputS aB0).addS 286 xturnS WF
instance:Inhabited STS:=⟨⟨0,0,[]⟩⟩
structure ExO where
 d:Bool
 x:EXS
 s:MS
instance:Inhabited ExO:=⟨⟨false,fB,⟨0,0,[],0,0,0,0,0,false⟩⟩⟩
instance:Inhabited EXS:=⟨fB⟩
abbrev exH(t n:Int)(x:EXS)(s:MS):aC Ob:=[some (.abs (.exec t n x) []),bI 2 s,bJ s]
abbrev exD(t n:Int)(x:EXS)(s:MS):aC Ob:=[cE' [.I t,.I n,.I x.popped,.I x.gave,.I x.u,.I x.sh,.I x.kd,.I x.ky,.bool x.only,.I x.att,.I x.at',.int .u64 x.found,.int .u64 x.word],bI 2 s,bJ s]
def ExO.fin(t n:Int)(y:ExO):Out Ob:=.ite y.d (.ret (.bool true) (exD t n y.x y.s)) (.ret (.bool false) (exH t n y.x y.s))
def aEF(t n:Int)(v:AVal)(g:aC Ob):Option (Prop×ExO):=match v,g with
 | .bool d,[some (.cells [.int .i64 t1,.int .i64 n1,.int .i64 popped,.int .i64 gave,.int .i64 u,.int .i64 sh,.int .i64 kd,.int .i64 ky,.bool only,.int .i64 att,.int .i64 at',.int .u64 found,.int .u64 word]),e1,e2]=>(match cQ 2 [e1,e2]with
   | some (l,s)=>some ((t1=t/\n1=n)/\l=s.xs.length,⟨d,⟨popped,gave,u,sh,kd,ky,only,att,at',found,word⟩,s⟩)
   | none=>none)
 | _,_=>none
def MF(t n:Int)(v:AVal)(g:aC Ob):Option (Prop×ExO):=aEF t n v g
theorem ZP{t n:Int} :bQ (obI tbl) 3 (aEF t n) (ExO.fin t n):=by
 intro v g p x hp hq K hK;unfold aEF at hp;split at hp
 case h_2=>cases hp
 rename_i d t1 n1 popped gave u sh kd ky only att at' found word e1 e2;split at hp
 case h_2=>cases hp
 rename_i l s hm;cases hp;obtain⟨⟨rfl,rfl⟩,hl⟩:=hq;cases bB hm hl;refine sE hK (fun h=>?_) (fun h=>?_)
 ·exact⟨⟨_,_,aLM _ _ _,h⟩⟩
 ·exact⟨⟨_,_,(aF.pack (exH t1 n1 (⟨popped,gave,u,sh,kd,ky,only,att,at',found,word⟩:EXS) s) (.exec t1 n1 (⟨popped,gave,u,sh,kd,ky,only,att,at',found,word⟩:EXS)) 0 0 (iN t1 n1 (⟨popped,gave,u,sh,kd,ky,only,att,at',found,word⟩:EXS)) [] (by kernel_rfl) rfl (congrArg (Prod.mk 0) rfl) (by kernel_rfl)),h⟩⟩
theorem l4{t n:Int} :bQ (obI tbl) 3 (MF t n) (ExO.fin t n):=by
 intro v g p x hp hq K hK;unfold MF at hp;exact ZP v g p x hp hq K hK
abbrev w0l(n t:Int)(x:EXS):=(((0:Int)<=t/\t<=(100000:Int))/\((0:Int)<=n/\n<=(100000:Int))/\(-1099511627776:Int)<=x.3/\x.3<=(1099511627776:Int))/\True
abbrev w0q(n:Int)(s:MS)(t:Int)(x:EXS):Tr ExO:=.ret {d:=true,x:= {x with at':=0,found:=aE s.3 (2*n+5+2*t+3*x.3+2)},s:=(eC s (2*n+5+2*t+3*x.3+2)) }
abbrev w0t(n:Int)(s:MS)(t:Int)(x:EXS):=aB (aE s.3 (2*n+5+2*t+3*x.3+2)) 49 3
abbrev w0x(n:Int)(s:MS)(t:Int)(x:EXS):Tr ExO:=.ret {d:=false,x:= {x with at':=1,found:=aE s.3 (2*n+5+2*t+3*x.3+2)},s:=(eC s (2*n+5+2*t+3*x.3+2)) }
abbrev w0y(n:Int)(s:MS)(t:Int)(x:EXS):Tr ExO:=.ret {d:=false,x:= {x with at':=5,found:=aE s.3 (2*n+5+2*t+3*x.3+2)},s:=(eC s (2*n+5+2*t+3*x.3+2)) }
abbrev w0z(n:Int)(s:MS)(t:Int)(x:EXS):Tr ExO:=.ret {d:=false,x:= {x with at':=8,found:=aE s.3 (2*n+5+2*t+3*x.3+2)},s:=(eC s (2*n+5+2*t+3*x.3+2)) }
def C0(t n:Int)(x:EXS)(s:MS):Tr ExO:=.pre True (.pre True (.pre (w0l n t x) (.pre ((q9' s)/\True) (.ite x.7 (.pre True (.ite (!ieq (aB (aE s.3 (2*n+5+2*t+3*x.3+2)) 0 12) x.8) (.pre ((t=t/\n=n)/\lE' s.3) (w0q n s t x)) (.pre True (.ite (ieq (w0t n s t x) 2) (.pre ((t=t/\n=n)/\lE' s.3) (w0x n s t x)) (.ite (ieq (w0t n s t x) 3) (.pre ((t=t/\n=n)/\lE' s.3) (w0y n s t x)) (.ite (ieq (w0t n s t x) 4) (.pre ((t=t/\n=n)/\lE' s.3) (w0z n s t x)) (.pre ((t=t/\n=n)/\lE' s.3) (w0q n s t x)))))))) (.pre True (.ite (ieq (w0t n s t x) 2) (.pre ((t=t/\n=n)/\lE' s.3) (w0x n s t x)) (.ite (ieq (w0t n s t x) 3) (.pre ((t=t/\n=n)/\lE' s.3) (w0y n s t x)) (.ite (ieq (w0t n s t x) 4) (.pre ((t=t/\n=n)/\lE' s.3) (w0z n s t x)) (.pre ((t=t/\n=n)/\lE' s.3) (w0q n s t x))))))))))
abbrev x5(F:Int->Int->EXS->MS->Tr ExO)(a:Int):Prop:= ∀(t n:Int) (x:EXS) (s:MS) (K:ExO->Prop) (h:(F t n x s).run K),cT' 249 [.ptr 0 0,.ptr 1 0] [cE' [.I t,.I n,.I x.popped,.I x.gave,.I x.u,.I x.sh,.I x.kd,.I x.ky,.bool x.only,.I x.att,.I a,.int .u64 x.found,.int .u64 x.word],bI 2 s,bJ s] (fG 3 0 [] [] (MF t n) K)
theorem MG:x5 C0 0:=by
 intro t n x s K h;exact cM' (E:=EX2) (by kernel_rfl) h
abbrev w0n(s:MS)(x:EXS):Tr ExO:=.ret {d:=false,x:= {x with at':=4,word:=aE s.3 (aB x.10 12 9) },s:=(eC s (aB x.10 12 9)) }
abbrev w0o(s:MS)(x:EXS):=ieq (aB (aE s.3 (aB x.10 12 9)) 25 18) (aB x.10 21 18)
abbrev w0r(s:MS)(x:EXS):=ieq (aB (aE s.3 (aB x.10 12 9)) 20 5) (W (x.3+1))
abbrev w0v(s:MS)(x:EXS):Tr ExO:=.ret {d:=false,x:= {x with at':=3,word:=aE s.3 (aB x.10 12 9) },s:=(eC s (aB x.10 12 9)) }
def C1(t n:Int)(x:EXS)(s:MS):Tr ExO:=.pre True (.pre True (.pre True (.pre (q9' s) (.pre True (.pre True (.ite (w0o s x) (.ite (ieq (aB (aE s.3 (aB x.10 12 9)) 20 5) 0) (.pre ((t=t/\n=n)/\lE' s.3) (.ret {d:=false,x:= {x with at':=2,word:=aE s.3 (aB x.10 12 9) },s:=(eC s (aB x.10 12 9)) })) (.pre True (.ite (w0o s x) (.ite (w0r s x) (.pre ((t=t/\n=n)/\lE' s.3) (w0v s x)) (.pre ((t=t/\n=n)/\lE' s.3) (w0n s x))) (.pre ((t=t/\n=n)/\lE' s.3) (w0n s x))))) (.pre True (.ite (w0o s x) (.ite (w0r s x) (.pre ((t=t/\n=n)/\lE' s.3) (w0v s x)) (.pre ((t=t/\n=n)/\lE' s.3) (w0n s x))) (.pre ((t=t/\n=n)/\lE' s.3) (w0n s x))))))))))
theorem MH:x5 C1 1:=by
 intro t n x s K h;exact cM' (E:=EX2) (by kernel_rfl) h
abbrev w0s(x:EXS):=ieq (aB x.10 48 1) 1
abbrev w0k(s:MS)(x:EXS):=qX s (aB x.10 12 9) x.11 (bif bif aN (aB x.11 0 10) 10 then bif aN (aB x.10 39 9) 9 then bif aN (x.3+1) 5 then aN (aB x.11 25 18) 18 else false else false else false then cV (aB x.11 0 10) (aB x.10 39 9) (w0s x) (x.3+1) (aB x.11 25 18)else 0)
def C2(t n:Int)(x:EXS)(s:MS):Tr ExO:=.pre True (.pre True (.pre ((-1000000:Int)<=x.3/\x.3<=(1000000:Int)) (.pre (lE' s.3/\True/\True/\((q9' s)/\True)/\True) (.ite (bH s.3 (aB x.10 12 9) x.11) (.pre True (.ite (pW x.4 x.5) (.pre ((t=t/\n=n)/\lE' (bif bH s.3 (aB x.10 12 9) x.11 then aX s.3 (aB x.10 12 9) (bif bif aN (aB x.11 0 10) 10 then bif aN (aB x.10 39 9) 9 then bif aN (x.3+1) 5 then aN (aB x.11 25 18) 18 else false else false else false then cV (aB x.11 0 10) (aB x.10 39 9) (w0s x) (x.3+1) (aB x.11 25 18)else 0)else s.3)) (.ret {d:=true,x:= {x with popped:=aB x.11 10 9,at':=2},s:=(w0k s x) })) (.pre ((t=t/\n=n)/\lE' (bif bH s.3 (aB x.10 12 9) x.11 then aX s.3 (aB x.10 12 9) (bif bif aN (aB x.11 0 10) 10 then bif aN (aB x.10 39 9) 9 then bif aN (x.3+1) 5 then aN (aB x.11 25 18) 18 else false else false else false then cV (aB x.11 0 10) (aB x.10 39 9) (w0s x) (x.3+1) (aB x.11 25 18)else 0)else s.3)) (.ret {d:=true,x:= {x with at':=2},s:=(w0k s x) })))) (.pre ((t=t/\n=n)/\lE' (bif bH s.3 (aB x.10 12 9) x.11 then aX s.3 (aB x.10 12 9) (bif bif aN (aB x.11 0 10) 10 then bif aN (aB x.10 39 9) 9 then bif aN (x.3+1) 5 then aN (aB x.11 25 18) 18 else false else false else false then cV (aB x.11 0 10) (aB x.10 39 9) (w0s x) (x.3+1) (aB x.11 25 18)else 0)else s.3)) (.ret {d:=true,x:= {x with at':=2},s:=(w0k s x) }))))))
theorem MJ:x5 C2 2:=by
 intro t n x s K h;exact cM' (E:=EX2) (by kernel_rfl) h
def C3(t n:Int)(x:EXS)(s:MS):Tr ExO:=.pre True (.pre True (.pre True (.pre (lE' s.3) (.pre True (.pre (w0l n t x) (.pre ((q9' s)/\True) (.pre ((t=t/\n=n)/\lE' (bif bH s.3 (2*n+5+2*t+3*x.3+2) x.10 then aX s.3 (2*n+5+2*t+3*x.3+2) (bif dOk (aB x.10 0 12) (aB x.10 12 9) (aB x.10 21 18) (aB x.10 39 9) 3 (aB x.10 52 10)then cP (aB x.10 0 12) (aB x.10 12 9) (aB x.10 21 18) (aB x.10 39 9) (w0s x) 3 (aB x.10 52 10)else 0)else s.3)) (.ret {d:=true,x:= {x with at':=3},s:=(qX s (2*n+5+2*t+3*x.3+2) x.10 (bif dOk (aB x.10 0 12) (aB x.10 12 9) (aB x.10 21 18) (aB x.10 39 9) 3 (aB x.10 52 10)then cP (aB x.10 0 12) (aB x.10 12 9) (aB x.10 21 18) (aB x.10 39 9) (w0s x) 3 (aB x.10 52 10)else 0)) }))))))))
theorem MK:x5 C3 3:=by
 intro t n x s K h;exact cM' (E:=EX2) (by kernel_rfl) h
def C4(t n:Int)(x:EXS)(s:MS):Tr ExO:=.pre True (.pre True (.pre True (.pre (lE' s.3) (.pre True (.pre (w0l n t x) (.pre ((q9' s)/\True) (.pre ((t=t/\n=n)/\lE' (bif bH s.3 (2*n+5+2*t+3*x.3+2) x.10 then aX s.3 (2*n+5+2*t+3*x.3+2) (bif dOk (aB x.10 0 12) (aB x.10 12 9) (aB x.10 21 18) (aB x.10 39 9) 4 (aB x.10 52 10)then cP (aB x.10 0 12) (aB x.10 12 9) (aB x.10 21 18) (aB x.10 39 9) (w0s x) 4 (aB x.10 52 10)else 0)else s.3)) (.ret {d:=true,x:= {x with at':=4},s:=(qX s (2*n+5+2*t+3*x.3+2) x.10 (bif dOk (aB x.10 0 12) (aB x.10 12 9) (aB x.10 21 18) (aB x.10 39 9) 4 (aB x.10 52 10)then cP (aB x.10 0 12) (aB x.10 12 9) (aB x.10 21 18) (aB x.10 39 9) (w0s x) 4 (aB x.10 52 10)else 0)) }))))))))
theorem MM:x5 C4 4:=by
 intro t n x s K h;exact cM' (E:=EX2) (by kernel_rfl) h
abbrev w0m(s:MS)(x:EXS):Tr ExO:=.ret {d:=false,x:= {x with at':=7,word:=aE s.3 (aB x.10 12 9) },s:=(eC s (aB x.10 12 9)) }
abbrev w0w(s:MS)(x:EXS):Tr ExO:=.ret {d:=false,x:= {x with at':=6,word:=aE s.3 (aB x.10 12 9) },s:=(eC s (aB x.10 12 9)) }
def C5(t n:Int)(x:EXS)(s:MS):Tr ExO:=.pre True (.pre True (.pre True (.pre (q9' s) (.pre True (.pre True (.ite (w0o s x) (.ite (ieq (aB (aE s.3 (aB x.10 12 9)) 20 5) 0) (.pre ((t=t/\n=n)/\lE' s.3) (w0m s x)) (.pre True (.ite (w0o s x) (.ite (w0r s x) (.pre ((t=t/\n=n)/\lE' s.3) (w0w s x)) (.pre ((t=t/\n=n)/\lE' s.3) (w0m s x))) (.pre ((t=t/\n=n)/\lE' s.3) (w0m s x))))) (.pre True (.ite (w0o s x) (.ite (w0r s x) (.pre ((t=t/\n=n)/\lE' s.3) (w0w s x)) (.pre ((t=t/\n=n)/\lE' s.3) (w0m s x))) (.pre ((t=t/\n=n)/\lE' s.3) (w0m s x))))))))))
theorem MN:x5 C5 5:=by
 intro t n x s K h;exact cM' (E:=EX2) (by kernel_rfl) h
def C6(t n:Int)(x:EXS)(s:MS):Tr ExO:=.pre True (.pre True (.pre ((0:Int)<=aB x.11 25 18/\aB x.11 25 (18:Int)<=(1000000:Int)) (.pre (lE' s.3) (.pre True (.pre True (.pre ((q9' s)/\True) (.pre ((t=t/\n=n)/\lE' (bif bH s.3 (aB x.10 12 9) x.11 then aX s.3 (aB x.10 12 9) (bif bif aN (aB x.11 0 10) 10 then bif aN (aB x.11 10 9) 9 then bif aN 0 5 then aN (aW (aB x.11 25 18)) 18 else false else false else false then cV (aB x.11 0 10) (aB x.11 10 9) (ieq (aB x.11 19 1) 1) 0 (aW (aB x.11 25 18))else 0)else s.3)) (.ret {d:=false,x:= {x with at':=7},s:=(qX s (aB x.10 12 9) x.11 (bif bif aN (aB x.11 0 10) 10 then bif aN (aB x.11 10 9) 9 then bif aN 0 5 then aN (aW (aB x.11 25 18)) 18 else false else false else false then cV (aB x.11 0 10) (aB x.11 10 9) (ieq (aB x.11 19 1) 1) 0 (aW (aB x.11 25 18))else 0)) }))))))))
theorem MO:x5 C6 6:=by
 intro t n x s K h;exact cM' (E:=EX2) (by kernel_rfl) h
def C7(t n:Int)(x:EXS)(s:MS):Tr ExO:=.pre True (.pre True (.pre True (.pre (lE' s.3) (.pre True (.pre (w0l n t x) (.pre ((q9' s)/\True) (.pre ((t=t/\n=n)/\lE' (bif bH s.3 (2*n+5+2*t+3*x.3+2) x.10 then aX s.3 (2*n+5+2*t+3*x.3+2) (bif dOk (aB x.10 0 12) 0 0 0 5 (aB x.10 52 10)then cP (aB x.10 0 12) 0 0 0 true 5 (aB x.10 52 10)else 0)else s.3)) (.ret {d:=true,x:= {x with at':=7},s:=(qX s (2*n+5+2*t+3*x.3+2) x.10 (bif dOk (aB x.10 0 12) 0 0 0 5 (aB x.10 52 10)then cP (aB x.10 0 12) 0 0 0 true 5 (aB x.10 52 10)else 0)) }))))))))
theorem MP:x5 C7 7:=by
 intro t n x s K h;exact cM' (E:=EX2) (by kernel_rfl) h
abbrev w0u(x:EXS):=iL (aB x.10 0 12)
abbrev w0p(n:Int)(s:MS)(t:Int)(x:EXS):=qX s (2*n+5+2*t+3*x.3+2) x.10 (bif dOk (w0u x) 0 0 0 1 0 then cP (w0u x) 0 0 0 false 1 0 else 0)
def C8(t n:Int)(x:EXS)(s:MS):Tr ExO:=.pre True (.pre True (.pre ((0:Int)<=aB x.10 0 12/\aB x.10 0 (12:Int)<=(1000000:Int)) (.pre (lE' s.3/\True/\(w0l n t x)/\((q9' s)/\True)/\True) (.ite (!bH s.3 (2*n+5+2*t+3*x.3+2) x.10) (.pre ((t=t/\n=n)/\lE' (bif bH s.3 (2*n+5+2*t+3*x.3+2) x.10 then aX s.3 (2*n+5+2*t+3*x.3+2) (bif dOk (w0u x) 0 0 0 1 0 then cP (w0u x) 0 0 0 false 1 0 else 0)else s.3)) (.ret {d:=true,x:= {x with at':=9},s:=(w0p n s t x) })) (.pre True (.ite (!gL x.5) (.pre ((t=t/\n=n)/\lE' (bif bH s.3 (2*n+5+2*t+3*x.3+2) x.10 then aX s.3 (2*n+5+2*t+3*x.3+2) (bif dOk (w0u x) 0 0 0 1 0 then cP (w0u x) 0 0 0 false 1 0 else 0)else s.3)) (.ret {d:=true,x:= {x with at':=9},s:=(w0p n s t x) })) (.pre (True/\True) (.pre ((t=t/\n=n)/\lE' (bif bH s.3 (2*n+5+2*t+3*x.3+2) x.10 then aX s.3 (2*n+5+2*t+3*x.3+2) (bif dOk (w0u x) 0 0 0 1 0 then cP (w0u x) 0 0 0 false 1 0 else 0)else s.3)) (.ret {d:=!bG n (aB x.10 39 9),x:= {x with at':=9},s:=(w0p n s t x) })))))))))
theorem MQ:x5 C8 8:=by
 intro t n x s K h;exact cM' (E:=EX2) (by kernel_rfl) h
def C9(t n:Int)(x:EXS)(s:MS):Tr ExO:=.pre True (.pre True (.pre ((((0:Int)<=t/\t<=(100000:Int))/\((0:Int)<=n/\n<=(100000:Int))/\(-1099511627776:Int)<=aB x.10 39 9/\aB x.10 39 (9:Int)<=(1099511627776:Int))/\True) (.pre ((q9' s)/\True) (.pre ((t=t/\n=n)/\lE' (aX s.3 (n+4+aB x.10 39 9) (WU (aE s.3 (n+4+aB x.10 39 9)+1)))) (.ret {d:=true,x:= {x with gave:=aB x.10 39 9,at':=9},s:=(O6 s 4 (n+4+aB x.10 39 9) (WU (aE s.3 (n+4+aB x.10 39 9)+1))) })))))
theorem MR:x5 C9 9:=by
 intro t n x s K h;exact cM' (E:=EX2) (by kernel_rfl) h
def exT(t n:Int)(x:EXS)(s:MS):Tr ExO:=
 bif ieq x.at' 0 then C0 t n x s else
 bif ieq x.at' 1 then C1 t n x s else
 bif ieq x.at' 2 then C2 t n x s else
 bif ieq x.at' 3 then C3 t n x s else
 bif ieq x.at' 4 then C4 t n x s else
 bif ieq x.at' 5 then C5 t n x s else
 bif ieq x.at' 6 then C6 t n x s else
 bif ieq x.at' 7 then C7 t n x s else
 bif ieq x.at' 8 then C8 t n x s else
 bif ieq x.at' 9 then C9 t n x s else .pre False (.ret default)
def FR(t n:Int)(x:EXS)(s:MS):ExO:=(exT t n x s).val
def aEE(t n:Int)(x:EXS)(s:MS):Prop:=(exT t n x s).ok
theorem ZQ(t n:Int)(x:EXS)(s:MS)(K:AVal->aC Ob->Prop)(h:(exT t n x s).run (fun y=>(ExO.fin t n y).run K)):cT' 249 [.ptr 0 0,.ptr 1 0] (exH t n x s) K:=by
 unfold exT at h
 by_cases e:x.at'=0
 ·rw [e]at h;have h:(C0 t n x s).run _:=h;refine aLx (root:=0) (pos:=[]) (cs:=[]) (parse:=MF t n) (fin:=ExO.fin t n) l4 (aQ.unpack (.exec t n x) 0 0 (iN t n x) [] rfl (congrArg (Prod.mk 0) rfl) (by kernel_rfl) rfl) ?_
  have q:=MG t n x s _ h;rw [<-e]at q;exact q
 rw [bK e]at h
 by_cases e:x.at'=1
 ·rw [e]at h;have h:(C1 t n x s).run _:=h;refine aLx (root:=0) (pos:=[]) (cs:=[]) (parse:=MF t n) (fin:=ExO.fin t n) l4 (aQ.unpack (.exec t n x) 0 0 (iN t n x) [] rfl (congrArg (Prod.mk 0) rfl) (by kernel_rfl) rfl) ?_
  have q:=MH t n x s _ h;rw [<-e]at q;exact q
 rw [bK e]at h
 by_cases e:x.at'=2
 ·rw [e]at h;have h:(C2 t n x s).run _:=h;refine aLx (root:=0) (pos:=[]) (cs:=[]) (parse:=MF t n) (fin:=ExO.fin t n) l4 (aQ.unpack (.exec t n x) 0 0 (iN t n x) [] rfl (congrArg (Prod.mk 0) rfl) (by kernel_rfl) rfl) ?_
  have q:=MJ t n x s _ h;rw [<-e]at q;exact q
 rw [bK e]at h
 by_cases e:x.at'=3
 ·rw [e]at h;have h:(C3 t n x s).run _:=h;refine aLx (root:=0) (pos:=[]) (cs:=[]) (parse:=MF t n) (fin:=ExO.fin t n) l4 (aQ.unpack (.exec t n x) 0 0 (iN t n x) [] rfl (congrArg (Prod.mk 0) rfl) (by kernel_rfl) rfl) ?_
  have q:=MK t n x s _ h;rw [<-e]at q;exact q
 rw [bK e]at h
 by_cases e:x.at'=4
 ·rw [e]at h;have h:(C4 t n x s).run _:=h;refine aLx (root:=0) (pos:=[]) (cs:=[]) (parse:=MF t n) (fin:=ExO.fin t n) l4 (aQ.unpack (.exec t n x) 0 0 (iN t n x) [] rfl (congrArg (Prod.mk 0) rfl) (by kernel_rfl) rfl) ?_
  have q:=MM t n x s _ h;rw [<-e]at q;exact q
 rw [bK e]at h
 by_cases e:x.at'=5
 ·rw [e]at h;have h:(C5 t n x s).run _:=h;refine aLx (root:=0) (pos:=[]) (cs:=[]) (parse:=MF t n) (fin:=ExO.fin t n) l4 (aQ.unpack (.exec t n x) 0 0 (iN t n x) [] rfl (congrArg (Prod.mk 0) rfl) (by kernel_rfl) rfl) ?_
  have q:=MN t n x s _ h;rw [<-e]at q;exact q
 rw [bK e]at h
 by_cases e:x.at'=6
 ·rw [e]at h;have h:(C6 t n x s).run _:=h;refine aLx (root:=0) (pos:=[]) (cs:=[]) (parse:=MF t n) (fin:=ExO.fin t n) l4 (aQ.unpack (.exec t n x) 0 0 (iN t n x) [] rfl (congrArg (Prod.mk 0) rfl) (by kernel_rfl) rfl) ?_
  have q:=MO t n x s _ h;rw [<-e]at q;exact q
 rw [bK e]at h
 by_cases e:x.at'=7
 ·rw [e]at h;have h:(C7 t n x s).run _:=h;refine aLx (root:=0) (pos:=[]) (cs:=[]) (parse:=MF t n) (fin:=ExO.fin t n) l4 (aQ.unpack (.exec t n x) 0 0 (iN t n x) [] rfl (congrArg (Prod.mk 0) rfl) (by kernel_rfl) rfl) ?_
  have q:=MP t n x s _ h;rw [<-e]at q;exact q
 rw [bK e]at h
 by_cases e:x.at'=8
 ·rw [e]at h;have h:(C8 t n x s).run _:=h;refine aLx (root:=0) (pos:=[]) (cs:=[]) (parse:=MF t n) (fin:=ExO.fin t n) l4 (aQ.unpack (.exec t n x) 0 0 (iN t n x) [] rfl (congrArg (Prod.mk 0) rfl) (by kernel_rfl) rfl) ?_
  have q:=MQ t n x s _ h;rw [<-e]at q;exact q
 rw [bK e]at h
 by_cases e:x.at'=9
 ·rw [e]at h;have h:(C9 t n x s).run _:=h;refine aLx (root:=0) (pos:=[]) (cs:=[]) (parse:=MF t n) (fin:=ExO.fin t n) l4 (aQ.unpack (.exec t n x) 0 0 (iN t n x) [] rfl (congrArg (Prod.mk 0) rfl) (by kernel_rfl) rfl) ?_
  have q:=MR t n x s _ h;rw [<-e]at q;exact q
 rw [bK e]at h;exact h.1.elim
noncomputable def exS:aI Ob:=fun args h=>match args,h with
 | [.ptr 0 0,.ptr 1 0],[some (.abs (.exec t n x) []),e1,e2]=>(match cQ 2 [e1,e2]with
   | some (l,s)=>some (.pre (l=s.xs.length/\aEE t n x s) (ExO.fin t n (FR t n x s)))
   | none=>none)
 | _,_=>none
theorem aH0:sT' 249 exS:=by
 intro args h o ho K hK;unfold exS at ho;split at ho
 case h_2=>cases ho
 split at ho
 case h_2=>cases ho
 rename_i hm;cases ho;obtain⟨⟨hl,ok⟩,hK⟩:=hK;cases bB hm hl;exact ZQ _ _ _ _ K (aLD ok hK)
def aEB(t n:Int)(v:AVal)(g:aC Ob):Option (Prop×EXS):=match v,g with
 | .ptr 0 0,[some (.cells [.int .i64 t1,.int .i64 n1,.int .i64 popped,.int .i64 gave,.int .i64 u,.int .i64 sh,.int .i64 kd,.int .i64 ky,.bool only,.int .i64 att,.int .i64 at',.int .u64 found,.int .u64 word])]=>some ((t1=t/\n1=n),(⟨popped,gave,u,sh,kd,ky,only,att,at',found,word⟩:EXS))
 | _,_=>none
abbrev ZM(t n:Int)(y:EXS):aC Ob:=[some (.abs (.exec t n y) [])]
theorem ZN{t n:Int} :bQ (obI tbl) 0 (aEB t n) (fun y=>.ret (.ptr 0 0) (ZM t n y)):=by
 intro v g p x hp hq K hK;unfold aEB at hp;split at hp
 case h_2=>cases hp
 rename_i t1 n1 popped gave u sh kd ky only att at' found word;cases hp;obtain⟨rfl,rfl⟩:=hq;exact⟨⟨_,_,aF.pack (ZM t1 n1 (⟨popped,gave,u,sh,kd,ky,only,att,at',found,word⟩:EXS)) (.exec t1 n1 (⟨popped,gave,u,sh,kd,ky,only,att,at',found,word⟩:EXS)) 0 0 (iN t1 n1 (⟨popped,gave,u,sh,kd,ky,only,att,at',found,word⟩:EXS)) [] (by kernel_rfl) rfl (congrArg (Prod.mk 0) rfl) (by kernel_rfl),hK⟩⟩
def aEC(t n:Int)(u sh kd ky att:Int):Tr EXS:=.pre (t=t/\n=n) (.ret {popped:=0,gave:=0,u:=u,sh:=sh,kd:=kd,ky:=ky,only:=true,att:=att,at':=0,found:=0,word:=0})
def aEA(t n:Int)(u sh kd ky att:Int):EXS:=(aEC t n u sh kd ky att).val
def SN(t n:Int)(u sh kd ky att:Int):Prop:=(aEC t n u sh kd ky att).ok
def exNS:aI Ob:=fun args h=>match args,h with
 | [.agg [.int .i64 t,.int .i64 n],.int .i64 u,.agg [.int .i64 sh,.int .i64 kd,.int .i64 ky],.int .i64 att],[]=>some (.pre (SN t n u sh kd ky att) (.ret (.ptr 0 0) (ZM t n (aEA t n u sh kd ky att))))
 | _,_=>none
theorem aED:sT' 246 exNS:=by
 intro args h o ho K hK;unfold exNS at ho;split at ho
 case h_2=>cases ho
 rename_i t n u sh kd ky att;cases ho;obtain⟨ok,hK⟩:=hK;refine aLK (root:=0) (pos:=[]) (cs:=[]) (parse:=aEB t n) ZN ?_;exact cM' (E:=EX2) (q:=(aEC t n u sh kd ky att).run (fun y=>(Out.ret (.ptr 0 0) (ZM t n y)).run K)) (by kernel_rfl) (aLD ok hK)
noncomputable def EC6:=((EX2.addS 249 exS aH0).addS 246 exNS aED)
end Go.Sh
