import Derived.Test.YteindpciaceeeaaGreatZM0toM36
set_option linter.all false
set_option maxHeartbeats 8000000
namespace Go.Sh
open Go Go.Proofs
variable [Con]
def alH(t n:Int)(x:AL)(s:MS):aB Ob:=[some (.cells [.int .i64 t,.int .i64 n,.int .i64 x.got,.int .i64 x.at',.int .i64 x.left,.int .u64 x.found,.bool x.free]),some (.cells [.int .i64 s.t,.int .i64 s.n,.slice 2 0 s.xs.length 1,.int .i64 s.c,.int .i64 s.k,.int .i64 s.a,.int .u64 s.o,.int .u64 s.w,.bool s.ok]),some (.ints (some .u64) s.xs)]
def oddB(y:Int):Bool:=!ieq (Int.tmod y 2) 0
def cR(n a:Int):Int:=Int.tmod a n+1
def aCG(t n:Int)(x:AL)(s:MS):Out Ob:=.ite x.free
 (.ite (bE s.xs (n+4+x.at') x.found) (.ret (.bool true) (alH t n ⟨x.at',x.at',x.left,x.found,true⟩ (s.cased (n+4+x.at') x.found (WU (x.found+1)))))
   (.ret (.bool (ile (x.left - 1) 0)) (alH t n ⟨x.got,cR n x.at',x.left - 1,x.found,false⟩ (s.cased (n+4+x.at') x.found (WU (x.found+1))))))
 (.ite (oddB (aF s.xs (n+4+x.at'))) (.ret (.bool (ile (x.left - 1) 0)) (alH t n ⟨x.got,cR n x.at',x.left - 1,aF s.xs (n+4+x.at'),false⟩ (s.loadd (n+4+x.at'))))
   (.ret (.bool false) (alH t n ⟨x.got,x.at',x.left,aF s.xs (n+4+x.at'),true⟩ (s.loadd (n+4+x.at')))))
theorem WM(t n:Int)(x:AL)(s:MS)(K:AVal->aB Ob->Prop)(ht:1<=t/\t<=1000)(hn:1<=n/\n<=1000)(ha:1<=x.at'/\x.at'<=n)(hl:0<=x.left/\x.left<=1000)(hc:0<=s.c/\s.c<=1000000)(hK:(aCG t n x s).run K):aA E36.I Tryz.prog 211 [.ptr 0 0,.ptr 1 0] (alH t n x s) K:=by
 refine aK8 (cM' (E:=E36) (q:=bif !x.5 then((((0:Int)<=t/\t<=(100000:Int))/\((0:Int)<=n/\n<=(100000:Int))/\(-1099511627776:Int)<=x.2/\x.2<=(1099511627776:Int))/\True)/\((lE' s.3/\(0:Int)<=s.4/\s.4<=(4611686018427387904:Int))/\True)/\(2:Int)≠(0:Int)/\bif !ieq (Int.tmod (aF s.3 (n+4+x.2)) 2) 0 then n≠(0:Int)/\K (.bool (ile (W (x.3 - 1)) 0)) [some (.cells [.int .i64 t,.int .i64 n,.int .i64 x.1,.int .i64 (W (Int.tmod x.2 n+1)),.int .i64 (W (x.3 - 1)),.int .u64 (aF s.3 (n+4+x.2)),.bool false]),some (.cells [.int .i64 s.1,.int .i64 s.2,.slice 2 0 s.3.length 1,.int .i64 (s.4+1),.int .i64 1,.int .i64 (n+4+x.2),.int .u64 (aF s.3 (n+4+x.2)),.int .u64 (aF s.3 (n+4+x.2)),.bool (dS s.3 (n+4+x.2))]),some (.ints (some .u64) s.3)]else K (.bool false) [some (.cells [.int .i64 t,.int .i64 n,.int .i64 x.1,.int .i64 x.2,.int .i64 x.3,.int .u64 (aF s.3 (n+4+x.2)),.bool (ieq (Int.tmod (aF s.3 (n+4+x.2)) 2) 0)]),some (.cells [.int .i64 s.1,.int .i64 s.2,.slice 2 0 s.3.length 1,.int .i64 (s.4+1),.int .i64 1,.int .i64 (n+4+x.2),.int .u64 (aF s.3 (n+4+x.2)),.int .u64 (aF s.3 (n+4+x.2)),.bool (dS s.3 (n+4+x.2))]),some (.ints (some .u64) s.3)]else((((0:Int)<=t/\t<=(100000:Int))/\((0:Int)<=n/\n<=(100000:Int))/\(-1099511627776:Int)<=x.2/\x.2<=(1099511627776:Int))/\True)/\((lE' s.3/\(0:Int)<=s.4/\s.4<=(4611686018427387904:Int))/\True)/\bif bE s.3 (n+4+x.2) x.4 then K (.bool true) [some (.cells [.int .i64 t,.int .i64 n,.int .i64 x.2,.int .i64 x.2,.int .i64 x.3,.int .u64 x.4,.bool x.5]),some (.cells [.int .i64 s.1,.int .i64 s.2,.slice 2 0 (List.length (bif bE s.3 (n+4+x.2) x.4 then aZ s.3 (n+4+x.2) (WU (x.4+1))else s.3)) 1,.int .i64 (s.4+1),.int .i64 3,.int .i64 (n+4+x.2),.int .u64 (aF s.3 (n+4+x.2)),.int .u64 (bif dS s.3 (n+4+x.2)then WU (x.4+1)else 0),.bool (bE s.3 (n+4+x.2) x.4)]),some (.ints (some .u64) (bif bE s.3 (n+4+x.2) x.4 then aZ s.3 (n+4+x.2) (WU (x.4+1))else s.3))]else n≠(0:Int)/\K (.bool (ile (W (x.3 - 1)) 0)) [some (.cells [.int .i64 t,.int .i64 n,.int .i64 x.1,.int .i64 (W (Int.tmod x.2 n+1)),.int .i64 (W (x.3 - 1)),.int .u64 x.4,.bool false]),some (.cells [.int .i64 s.1,.int .i64 s.2,.slice 2 0 (List.length (bif bE s.3 (n+4+x.2) x.4 then aZ s.3 (n+4+x.2) (WU (x.4+1))else s.3)) 1,.int .i64 (s.4+1),.int .i64 3,.int .i64 (n+4+x.2),.int .u64 (aF s.3 (n+4+x.2)),.int .u64 (bif dS s.3 (n+4+x.2)then WU (x.4+1)else 0),.bool (bE s.3 (n+4+x.2) x.4)]),some (.ints (some .u64) (bif bE s.3 (n+4+x.2) x.4 then aZ s.3 (n+4+x.2) (WU (x.4+1))else s.3))]) (by kernel_rfl) ?_)
 obtain⟨got,at',left,found,free⟩:=x;dsimp only at ha hl⊢;have hm:=aBn (x:=at') (t:=n) (by omega) (by omega)
 have e1:W (left - 1)=left - 1:=zE (by omega)
 have g:W (Int.tmod at' n+1)=cR n at':=zE (by show _<=Int.tmod at' n+1/\Int.tmod at' n+1<=_;omega)
 rw [e1,g];unfold aCG at hK;dsimp only [Out.run]at hK;cases free with
 | false=>
   simp only [cond_false,Bool.not_false,cond_true]at hK⊢;refine⟨⟨by omega,trivial⟩,⟨⟨trivial,by omega⟩,trivial⟩,by omega,?_⟩
   unfold oddB at hK;generalize ho:ieq (Int.tmod (aF s.xs (n+4+at')) 2) 0=b at hK⊢;cases b with
   | false=>exact⟨by omega,hK⟩
   | true=>exact hK
 | true=>
   simp only [cond_true,Bool.not_true,cond_false]at hK⊢;refine⟨⟨by omega,trivial⟩,⟨⟨trivial,by omega⟩,trivial⟩,?_⟩
   unfold alH at hK;cases hb:bE s.xs (n+4+at') found with
   | true=>
     rw [hb]at hK;simp only [cond_true]at hK⊢;unfold MS.cased at hK;rw [hb]at hK;exact hK
   | false=>
     rw [hb]at hK;simp only [cond_false]at hK⊢;unfold MS.cased at hK;rw [hb]at hK;exact⟨by omega,hK⟩
noncomputable def alS:aI Ob:=fun args h=>match args,h with
 | [.ptr 0 0,.ptr 1 0],[some (.cells [.int .i64 t,.int .i64 n,.int .i64 got,.int .i64 at',.int .i64 left,.int .u64 found,.bool free]),e1,e2]=>match cO 2 [e1,e2]with
   | some (l,s)=>some (.pre (l=s.xs.length/\(1<=t/\t<=1000)/\(1<=n/\n<=1000)/\(1<=at'/\at'<=n)/\(0<=left/\left<=1000)/\(0<=s.c/\s.c<=1000000)) (aCG t n ⟨got,at',left,found,free⟩ s))
   | none=>none
 | _,_=>none
theorem aGJ:aI.ok E36.I Tryz.prog 211 alS:=by
 intro args h o ho K hK;unfold alS at ho;split at ho
 case h_2=>cases ho
 split at ho<;>cases ho
 rename_i hm;obtain⟨⟨hl,ht,hn,ha,g,hc⟩,hK⟩:=hK;have hh:=bC hm hl;cases hh;exact WM _ _ _ _ K ht hn ha g hc hK
noncomputable def E42:=E36.addS 211 alS aGJ
theorem aAM{xs:List Int}(h:okW xs){a x:Int}(hx:0<=x/\x<=18446744073709551615):okW (aZ xs a x):=by
 unfold aZ;split
 ·refine⟨fun y g=>?_⟩;rcases List.mem_or_eq_of_mem_set g with h1 | h1
  ·exact h.h y h1
  ·subst h1;exact hx
 ·exact h
theorem PR(x:Int):0<=WU x/\WU x<=18446744073709551615:=by
 unfold WU;simp only [IntKind.wrap,IntKind.bits,IntKind.signed]
 simp
 omega
structure EO where
 d:Bool
 e:ENS
 st:STS
 s:MS
def at0(t n me:Int):Int:=bif bH n (aO t n me)then aO t n me else 1
def L7(e:ENS)(st:STS)(x:AL)(s:MS):EO:=match ile x.left 0 with
 | true=>⟨e.dn||ieq (st.R.length:Int) 0,{e with ph:=2,sh:=e.dn||ieq (st.R.length:Int) 0,x:=x},{st with sp:=0},s⟩
 | false=>⟨false,{e with ph:=1,x:=x},st,s⟩
def sO(n:Int)(e:ENS)(st:STS)(x:AL)(s:MS):EO:=match x.free with
 | true=>(match bE s.xs (n+4+x.at') x.found with
   | true=>⟨true,{e with ph:=1,x:=⟨x.at',x.at',x.left,x.found,true⟩ },{st with sp:=x.at'},s.cased (n+4+x.at') x.found (WU (x.found+1))⟩
   | false=>L7 e st ⟨0,cR n x.at',x.left - 1,x.found,false⟩ (s.cased (n+4+x.at') x.found (WU (x.found+1))))
 | false=>(match oddB (aF s.xs (n+4+x.at'))with
   | true=>L7 e st ⟨0,cR n x.at',x.left - 1,aF s.xs (n+4+x.at'),false⟩ (s.loadd (n+4+x.at'))
   | false=>⟨false,{e with ph:=1,x:=⟨0,x.at',x.left,aF s.xs (n+4+x.at'),true⟩ },st,s.loadd (n+4+x.at')⟩)
instance:Inhabited EO:=⟨⟨false,bW,⟨0,0,[]⟩,⟨0,0,[],0,0,0,0,0,false⟩⟩⟩
def enF(t n:Int)(e:ENS)(st:STS)(s:MS):EO:=match e.ph with
 | 0=>(match ieq st.sp 0 with
   | true=>sO n e st ⟨0,at0 t n st.me,n,0,false⟩ s
   | false=>⟨true,e,st,s.loadd 0⟩)
 | 1=>sO n e st e.x s
 | 2=>⟨false,{e with ph:=3,y:= {e.y with N:=st.R,m:=aU [] n 0 s,i:=1} },st,s.loadd (bQ n 0)⟩
 | 3=>(match ieq (e.y.i+1) (2*t),ieq ((aS (aU e.y.m n e.y.i s) e.y.N).length :Int) 0 with
   | true,true=>⟨true,{e with ph:=0,sh:=true,dn:=true},{st with R:=cH (aU e.y.m n e.y.i s) e.y.N},s.loadd (bQ n e.y.i)⟩
   | true,false=>⟨false,{e with ph:=4,y:=⟨0,e.y.N,aU e.y.m n e.y.i s,e.y.i+1,cH (aU e.y.m n e.y.i s) e.y.N,aS (aU e.y.m n e.y.i s) e.y.N,aS (aU e.y.m n e.y.i s) e.y.N,0,(aS (aU e.y.m n e.y.i s) e.y.N).length⟩ },st,s.loadd (bQ n e.y.i)⟩
   | false,_=>⟨false,{e with y:= {e.y with m:=aU e.y.m n e.y.i s,i:=e.y.i+1} },st,s.loadd (bQ n e.y.i)⟩)
 | _=>(match ieq ((e.y.l - 1:Nat):Int) 0 with
   | true=>⟨ieq (e.y.fs.length:Int) 0,{e with ph:=0,sh:=ieq (e.y.fs.length:Int) 0,dn:=true},{st with R:=e.y.ks},s.added (bS n e.y.gs e.y.j) 1⟩
   | false=>⟨false,{e with y:= {e.y with j:=e.y.j+1,l:=e.y.l - 1} },st,s.added (bS n e.y.gs e.y.j) 1⟩)
structure okAl (n:Int) (x:AL):Prop where
 hg:x.got=0
 ha:1<=x.at'/\x.at'<=n
 hl:0<=x.left/\x.left<=1000
def aIu(t n:Int)(e:ENS)(st:STS):Prop:=match e.ph with
 | 0=>True
 | 1=>okAl n e.x
 | 2=>True
 | 3=>e.y.N.length<=1000000/\0<=e.y.i/\e.y.i<2*t
 | 4=>2*t<=e.y.i/\1<=e.y.l/\e.y.gs.length=e.y.j+e.y.l/\ -1000000<=List.getD e.y.gs (e.y.j+Int.toNat 0*1) 0/\List.getD e.y.gs (e.y.j+Int.toNat 0*1) 0<=1000000
 | _=>False
structure PI (t n:Int) (e:ENS) (st:STS) (s:MS):Prop where
 ht:1<=t/\t<=1000
 hn:1<=n/\n<=1000
 hc:0<=s.c/\s.c<=1000000
 hm:0<=st.me/\st.me<=1000
 hR:st.R.length<=1000000
 ho:aIu t n e st
abbrev bF(l:Nat)(s:MS):Option (aG Mc):=some (.cells [.int .i64 s.t,.int .i64 s.n,.slice l 0 s.xs.length 1,.int .i64 s.c,.int .i64 s.k,.int .i64 s.a,.int .u64 s.o,.int .u64 s.w,.bool s.ok])
abbrev bG(s:MS):Option (aG Mc):=some (.ints (some .u64) s.xs)
def YU(t n:Int)(e:ENS)(st:STS)(s:MS):aB Ob:=[some (.abs (.ensure t n e) [1]),some (.abs (.store t n st) []),bF 3 s,bG s]
def EO.left(o:EO)(t n:Int)(K:AVal->aB Ob->Prop):Prop:=K (.bool o.d) (YU t n o.e o.st o.s)
theorem gR{K:AVal->aB Ob->Prop}{t n:Int}{o:EO}{g':aB Ob}(pl:List Nat)(hK:o.left t n K)
 (hb:(dU pl g'.length&&gZ pl 0 4&&obOk 1 (FM t n o.e))=true)
 (hT:fT pl g'=aP [some (.abs (.ensure t n o.e) [1]),some (.cells [.int .i64 t,.int .i64 n,.int .i64 o.st.me,.int .i64 o.st.sp,.slice 4 0 o.st.R.length 1]),bF 3 o.s,bG o.s,some (.ints (some .i64) o.st.R)] 0 1 (FM t n o.e) [1]):BG tbl 4 (BG tbl 4 K) (.bool o.d) g':=by
 simp only [Bool.and_eq_true]at hb;obtain⟨⟨b1,b2⟩,g⟩:=hb;refine⟨pl,_,.ensure t n o.e,0,1,_,[1],?_,hT,rfl,rfl,⟨[0,1,2,3,4],[some (.abs (.ensure t n o.e) [1]),some (.abs (.store t n o.st) []),bF 3 o.s,bG o.s],.store t n o.st,1,0,dP t n o.st,[],rfl,rfl,rfl,rfl,?_⟩⟩
 ·rw [b1,b2,g];rfl
 ·exact hK
theorem aJr(t n me sp:Int)(R:List Int)(sh dn:Bool)(x:AL)(y:SWS)(s:MS)(K:AVal->aB Ob->Prop)(hK:bif !ieq sp 0 then(q9' s)/\K (.bool true) [some (.cells [.ptr 1 0,.bool sh,.raw (Value.pointer none),.raw (Value.pointer none),.bool dn]),some (.cells [.int .i64 t,.int .i64 n,.int .i64 me,.int .i64 sp,.slice 4 0 R.length 1]),some (.cells [.int .i64 s.1,.int .i64 s.2,.slice 3 0 s.3.length 1,.int .i64 (s.4+1),.int .i64 1,.int .i64 0,.int .u64 (aF s.3 0),.int .u64 (aF s.3 0),.bool (dS s.3 0)]),some (.ints (some .u64) s.3),some (.ints (some .i64) R)]else(((0:Int)<=me/\me<=(100000:Int))/\(0:Int)<=n/\n<=(100000:Int))/\(True/\True)/\(lE' s.3/\((1:Int)<=t/\t<=(1000:Int))/\((1:Int)<=n/\n<=(1000:Int))/\(((1:Int)<=bif bH n (aO t n me)then aO t n me else 1)/\(bif bH n (aO t n me)then aO t n me else 1)<=n)/\((0:Int)<=n/\n<=(1000:Int))/\(0:Int)<=s.4/\s.4<=(1000000:Int))/\bif oddB (aF s.3 (n+4+bif bH n (aO t n me)then aO t n me else 1))then bif !ile (n - 1) 0 then K (.bool false) [some (.cells [.ptr 1 0,.bool sh,.ptr 5 0,.raw (Value.pointer none),.bool dn]),some (.cells [.int .i64 t,.int .i64 n,.int .i64 me,.int .i64 sp,.slice 4 0 R.length 1]),some (.cells [.int .i64 s.1,.int .i64 s.2,.slice 3 0 s.3.length 1,.int .i64 (s.4+1),.int .i64 1,.int .i64 (n+4+bif bH n (aO t n me)then aO t n me else 1),.int .u64 (aF s.3 (n+4+bif bH n (aO t n me)then aO t n me else 1)),.int .u64 (aF s.3 (n+4+bif bH n (aO t n me)then aO t n me else 1)),.bool (dS s.3 (n+4+bif bH n (aO t n me)then aO t n me else 1))]),some (.ints (some .u64) s.3),some (.ints (some .i64) R),some (.cells [.int .i64 t,.int .i64 n,.int .i64 0,.int .i64 (cR n (bif bH n (aO t n me)then aO t n me else 1)),.int .i64 (n - 1),.int .u64 (aF s.3 (n+4+bif bH n (aO t n me)then aO t n me else 1)),.bool false])]else bif dn then K (.bool true) [some (.cells [.ptr 1 0,.bool true,.ptr 5 0,.ptr 6 0,.bool dn]),some (.cells [.int .i64 t,.int .i64 n,.int .i64 me,.int .i64 0,.slice 4 0 R.length 1]),some (.cells [.int .i64 s.1,.int .i64 s.2,.slice 3 0 s.3.length 1,.int .i64 (s.4+1),.int .i64 1,.int .i64 (n+4+bif bH n (aO t n me)then aO t n me else 1),.int .u64 (aF s.3 (n+4+bif bH n (aO t n me)then aO t n me else 1)),.int .u64 (aF s.3 (n+4+bif bH n (aO t n me)then aO t n me else 1)),.bool (dS s.3 (n+4+bif bH n (aO t n me)then aO t n me else 1))]),some (.ints (some .u64) s.3),some (.ints (some .i64) R),some (.cells [.int .i64 t,.int .i64 n,.int .i64 0,.int .i64 (cR n (bif bH n (aO t n me)then aO t n me else 1)),.int .i64 (n - 1),.int .u64 (aF s.3 (n+4+bif bH n (aO t n me)then aO t n me else 1)),.bool false]),some (.cells [.ptr 1 0,.raw (Value.pointer none)])]else K (.bool (ieq (↑R.length:Int) 0)) [some (.cells [.ptr 1 0,.bool (ieq (↑R.length:Int) 0),.ptr 5 0,.ptr 6 0,.bool dn]),some (.cells [.int .i64 t,.int .i64 n,.int .i64 me,.int .i64 0,.slice 4 0 R.length 1]),some (.cells [.int .i64 s.1,.int .i64 s.2,.slice 3 0 s.3.length 1,.int .i64 (s.4+1),.int .i64 1,.int .i64 (n+4+bif bH n (aO t n me)then aO t n me else 1),.int .u64 (aF s.3 (n+4+bif bH n (aO t n me)then aO t n me else 1)),.int .u64 (aF s.3 (n+4+bif bH n (aO t n me)then aO t n me else 1)),.bool (dS s.3 (n+4+bif bH n (aO t n me)then aO t n me else 1))]),some (.ints (some .u64) s.3),some (.ints (some .i64) R),some (.cells [.int .i64 t,.int .i64 n,.int .i64 0,.int .i64 (cR n (bif bH n (aO t n me)then aO t n me else 1)),.int .i64 (n - 1),.int .u64 (aF s.3 (n+4+bif bH n (aO t n me)then aO t n me else 1)),.bool false]),some (.cells [.ptr 1 0,.raw (Value.pointer none)])]else K (.bool false) [some (.cells [.ptr 1 0,.bool sh,.ptr 5 0,.raw (Value.pointer none),.bool dn]),some (.cells [.int .i64 t,.int .i64 n,.int .i64 me,.int .i64 sp,.slice 4 0 R.length 1]),some (.cells [.int .i64 s.1,.int .i64 s.2,.slice 3 0 s.3.length 1,.int .i64 (s.4+1),.int .i64 1,.int .i64 (n+4+bif bH n (aO t n me)then aO t n me else 1),.int .u64 (aF s.3 (n+4+bif bH n (aO t n me)then aO t n me else 1)),.int .u64 (aF s.3 (n+4+bif bH n (aO t n me)then aO t n me else 1)),.bool (dS s.3 (n+4+bif bH n (aO t n me)then aO t n me else 1))]),some (.ints (some .u64) s.3),some (.ints (some .i64) R),some (.cells [.int .i64 t,.int .i64 n,.int .i64 0,.int .i64 (bif bH n (aO t n me)then aO t n me else 1),.int .i64 n,.int .u64 (aF s.3 (n+4+bif bH n (aO t n me)then aO t n me else 1)),.bool true])]):cT' 154 [.ptr 0 0,.ptr 2 0] [some (.cells [.ptr 1 0,.bool sh,.raw (.pointer none),.raw (.pointer none),.bool dn]),some (.cells [.int .i64 t,.int .i64 n,.int .i64 me,.int .i64 sp,.slice 4 0 R.length 1]),bF 3 s,bG s,some (.ints (some .i64) R)] K:=by
 refine aK8 (cM' (E:=E42) (by kernel_rfl) hK)
theorem aJs(t n me sp:Int)(R:List Int)(sh dn:Bool)(x:AL)(y:SWS)(s:MS)(K:AVal->aB Ob->Prop)(hK:(lE' s.3/\((1:Int)<=t/\t<=(1000:Int))/\((1:Int)<=n/\n<=(1000:Int))/\((1:Int)<=x.2/\x.2<=n)/\((0:Int)<=x.3/\x.3<=(1000:Int))/\(0:Int)<=s.4/\s.4<=(1000000:Int))/\bif x.5 then bif bE s.3 (n+4+x.2) x.4 then bif !ieq x.2 0 then K (.bool true) [some (.cells [.ptr 1 0,.bool sh,.ptr 5 0,.raw (Value.pointer none),.bool dn]),some (.cells [.int .i64 t,.int .i64 n,.int .i64 me,.int .i64 x.2,.slice 4 0 R.length 1]),some (.cells [.int .i64 s.1,.int .i64 s.2,.slice 3 0 (List.length (bif bE s.3 (n+4+x.2) x.4 then aZ s.3 (n+4+x.2) (WU (x.4+1))else s.3)) 1,.int .i64 (s.4+1),.int .i64 3,.int .i64 (n+4+x.2),.int .u64 (aF s.3 (n+4+x.2)),.int .u64 (bif dS s.3 (n+4+x.2)then WU (x.4+1)else 0),.bool (bE s.3 (n+4+x.2) x.4)]),some (.ints (some .u64) (bif bE s.3 (n+4+x.2) x.4 then aZ s.3 (n+4+x.2) (WU (x.4+1))else s.3)),some (.ints (some .i64) R),some (.cells [.int .i64 t,.int .i64 n,.int .i64 x.2,.int .i64 x.2,.int .i64 x.3,.int .u64 x.4,.bool true])]else bif dn then K (.bool true) [some (.cells [.ptr 1 0,.bool true,.ptr 5 0,.ptr 6 0,.bool dn]),some (.cells [.int .i64 t,.int .i64 n,.int .i64 me,.int .i64 x.2,.slice 4 0 R.length 1]),some (.cells [.int .i64 s.1,.int .i64 s.2,.slice 3 0 (List.length (bif bE s.3 (n+4+x.2) x.4 then aZ s.3 (n+4+x.2) (WU (x.4+1))else s.3)) 1,.int .i64 (s.4+1),.int .i64 3,.int .i64 (n+4+x.2),.int .u64 (aF s.3 (n+4+x.2)),.int .u64 (bif dS s.3 (n+4+x.2)then WU (x.4+1)else 0),.bool (bE s.3 (n+4+x.2) x.4)]),some (.ints (some .u64) (bif bE s.3 (n+4+x.2) x.4 then aZ s.3 (n+4+x.2) (WU (x.4+1))else s.3)),some (.ints (some .i64) R),some (.cells [.int .i64 t,.int .i64 n,.int .i64 x.2,.int .i64 x.2,.int .i64 x.3,.int .u64 x.4,.bool true]),some (.cells [.ptr 1 0,.raw (Value.pointer none)])]else K (.bool (ieq (↑R.length:Int) 0)) [some (.cells [.ptr 1 0,.bool (ieq (↑R.length:Int) 0),.ptr 5 0,.ptr 6 0,.bool dn]),some (.cells [.int .i64 t,.int .i64 n,.int .i64 me,.int .i64 x.2,.slice 4 0 R.length 1]),some (.cells [.int .i64 s.1,.int .i64 s.2,.slice 3 0 (List.length (bif bE s.3 (n+4+x.2) x.4 then aZ s.3 (n+4+x.2) (WU (x.4+1))else s.3)) 1,.int .i64 (s.4+1),.int .i64 3,.int .i64 (n+4+x.2),.int .u64 (aF s.3 (n+4+x.2)),.int .u64 (bif dS s.3 (n+4+x.2)then WU (x.4+1)else 0),.bool (bE s.3 (n+4+x.2) x.4)]),some (.ints (some .u64) (bif bE s.3 (n+4+x.2) x.4 then aZ s.3 (n+4+x.2) (WU (x.4+1))else s.3)),some (.ints (some .i64) R),some (.cells [.int .i64 t,.int .i64 n,.int .i64 x.2,.int .i64 x.2,.int .i64 x.3,.int .u64 x.4,.bool true]),some (.cells [.ptr 1 0,.raw (Value.pointer none)])]else bif !ile (x.3 - 1) 0 then K (.bool false) [some (.cells [.ptr 1 0,.bool sh,.ptr 5 0,.raw (Value.pointer none),.bool dn]),some (.cells [.int .i64 t,.int .i64 n,.int .i64 me,.int .i64 sp,.slice 4 0 R.length 1]),some (.cells [.int .i64 s.1,.int .i64 s.2,.slice 3 0 (List.length (bif bE s.3 (n+4+x.2) x.4 then aZ s.3 (n+4+x.2) (WU (x.4+1))else s.3)) 1,.int .i64 (s.4+1),.int .i64 3,.int .i64 (n+4+x.2),.int .u64 (aF s.3 (n+4+x.2)),.int .u64 (bif dS s.3 (n+4+x.2)then WU (x.4+1)else 0),.bool (bE s.3 (n+4+x.2) x.4)]),some (.ints (some .u64) (bif bE s.3 (n+4+x.2) x.4 then aZ s.3 (n+4+x.2) (WU (x.4+1))else s.3)),some (.ints (some .i64) R),some (.cells [.int .i64 t,.int .i64 n,.int .i64 x.1,.int .i64 (cR n x.2),.int .i64 (x.3 - 1),.int .u64 x.4,.bool false])]else bif !ieq x.1 0 then K (.bool true) [some (.cells [.ptr 1 0,.bool sh,.ptr 5 0,.raw (Value.pointer none),.bool dn]),some (.cells [.int .i64 t,.int .i64 n,.int .i64 me,.int .i64 x.1,.slice 4 0 R.length 1]),some (.cells [.int .i64 s.1,.int .i64 s.2,.slice 3 0 (List.length (bif bE s.3 (n+4+x.2) x.4 then aZ s.3 (n+4+x.2) (WU (x.4+1))else s.3)) 1,.int .i64 (s.4+1),.int .i64 3,.int .i64 (n+4+x.2),.int .u64 (aF s.3 (n+4+x.2)),.int .u64 (bif dS s.3 (n+4+x.2)then WU (x.4+1)else 0),.bool (bE s.3 (n+4+x.2) x.4)]),some (.ints (some .u64) (bif bE s.3 (n+4+x.2) x.4 then aZ s.3 (n+4+x.2) (WU (x.4+1))else s.3)),some (.ints (some .i64) R),some (.cells [.int .i64 t,.int .i64 n,.int .i64 x.1,.int .i64 (cR n x.2),.int .i64 (x.3 - 1),.int .u64 x.4,.bool false])]else bif dn then K (.bool true) [some (.cells [.ptr 1 0,.bool true,.ptr 5 0,.ptr 6 0,.bool dn]),some (.cells [.int .i64 t,.int .i64 n,.int .i64 me,.int .i64 x.1,.slice 4 0 R.length 1]),some (.cells [.int .i64 s.1,.int .i64 s.2,.slice 3 0 (List.length (bif bE s.3 (n+4+x.2) x.4 then aZ s.3 (n+4+x.2) (WU (x.4+1))else s.3)) 1,.int .i64 (s.4+1),.int .i64 3,.int .i64 (n+4+x.2),.int .u64 (aF s.3 (n+4+x.2)),.int .u64 (bif dS s.3 (n+4+x.2)then WU (x.4+1)else 0),.bool (bE s.3 (n+4+x.2) x.4)]),some (.ints (some .u64) (bif bE s.3 (n+4+x.2) x.4 then aZ s.3 (n+4+x.2) (WU (x.4+1))else s.3)),some (.ints (some .i64) R),some (.cells [.int .i64 t,.int .i64 n,.int .i64 x.1,.int .i64 (cR n x.2),.int .i64 (x.3 - 1),.int .u64 x.4,.bool false]),some (.cells [.ptr 1 0,.raw (Value.pointer none)])]else K (.bool (ieq (↑R.length:Int) 0)) [some (.cells [.ptr 1 0,.bool (ieq (↑R.length:Int) 0),.ptr 5 0,.ptr 6 0,.bool dn]),some (.cells [.int .i64 t,.int .i64 n,.int .i64 me,.int .i64 x.1,.slice 4 0 R.length 1]),some (.cells [.int .i64 s.1,.int .i64 s.2,.slice 3 0 (List.length (bif bE s.3 (n+4+x.2) x.4 then aZ s.3 (n+4+x.2) (WU (x.4+1))else s.3)) 1,.int .i64 (s.4+1),.int .i64 3,.int .i64 (n+4+x.2),.int .u64 (aF s.3 (n+4+x.2)),.int .u64 (bif dS s.3 (n+4+x.2)then WU (x.4+1)else 0),.bool (bE s.3 (n+4+x.2) x.4)]),some (.ints (some .u64) (bif bE s.3 (n+4+x.2) x.4 then aZ s.3 (n+4+x.2) (WU (x.4+1))else s.3)),some (.ints (some .i64) R),some (.cells [.int .i64 t,.int .i64 n,.int .i64 x.1,.int .i64 (cR n x.2),.int .i64 (x.3 - 1),.int .u64 x.4,.bool false]),some (.cells [.ptr 1 0,.raw (Value.pointer none)])]else bif oddB (aF s.3 (n+4+x.2))then bif !ile (x.3 - 1) 0 then K (.bool false) [some (.cells [.ptr 1 0,.bool sh,.ptr 5 0,.raw (Value.pointer none),.bool dn]),some (.cells [.int .i64 t,.int .i64 n,.int .i64 me,.int .i64 sp,.slice 4 0 R.length 1]),some (.cells [.int .i64 s.1,.int .i64 s.2,.slice 3 0 s.3.length 1,.int .i64 (s.4+1),.int .i64 1,.int .i64 (n+4+x.2),.int .u64 (aF s.3 (n+4+x.2)),.int .u64 (aF s.3 (n+4+x.2)),.bool (dS s.3 (n+4+x.2))]),some (.ints (some .u64) s.3),some (.ints (some .i64) R),some (.cells [.int .i64 t,.int .i64 n,.int .i64 x.1,.int .i64 (cR n x.2),.int .i64 (x.3 - 1),.int .u64 (aF s.3 (n+4+x.2)),.bool false])]else bif !ieq x.1 0 then K (.bool true) [some (.cells [.ptr 1 0,.bool sh,.ptr 5 0,.raw (Value.pointer none),.bool dn]),some (.cells [.int .i64 t,.int .i64 n,.int .i64 me,.int .i64 x.1,.slice 4 0 R.length 1]),some (.cells [.int .i64 s.1,.int .i64 s.2,.slice 3 0 s.3.length 1,.int .i64 (s.4+1),.int .i64 1,.int .i64 (n+4+x.2),.int .u64 (aF s.3 (n+4+x.2)),.int .u64 (aF s.3 (n+4+x.2)),.bool (dS s.3 (n+4+x.2))]),some (.ints (some .u64) s.3),some (.ints (some .i64) R),some (.cells [.int .i64 t,.int .i64 n,.int .i64 x.1,.int .i64 (cR n x.2),.int .i64 (x.3 - 1),.int .u64 (aF s.3 (n+4+x.2)),.bool false])]else bif dn then K (.bool true) [some (.cells [.ptr 1 0,.bool true,.ptr 5 0,.ptr 6 0,.bool dn]),some (.cells [.int .i64 t,.int .i64 n,.int .i64 me,.int .i64 x.1,.slice 4 0 R.length 1]),some (.cells [.int .i64 s.1,.int .i64 s.2,.slice 3 0 s.3.length 1,.int .i64 (s.4+1),.int .i64 1,.int .i64 (n+4+x.2),.int .u64 (aF s.3 (n+4+x.2)),.int .u64 (aF s.3 (n+4+x.2)),.bool (dS s.3 (n+4+x.2))]),some (.ints (some .u64) s.3),some (.ints (some .i64) R),some (.cells [.int .i64 t,.int .i64 n,.int .i64 x.1,.int .i64 (cR n x.2),.int .i64 (x.3 - 1),.int .u64 (aF s.3 (n+4+x.2)),.bool false]),some (.cells [.ptr 1 0,.raw (Value.pointer none)])]else K (.bool (ieq (↑R.length:Int) 0)) [some (.cells [.ptr 1 0,.bool (ieq (↑R.length:Int) 0),.ptr 5 0,.ptr 6 0,.bool dn]),some (.cells [.int .i64 t,.int .i64 n,.int .i64 me,.int .i64 x.1,.slice 4 0 R.length 1]),some (.cells [.int .i64 s.1,.int .i64 s.2,.slice 3 0 s.3.length 1,.int .i64 (s.4+1),.int .i64 1,.int .i64 (n+4+x.2),.int .u64 (aF s.3 (n+4+x.2)),.int .u64 (aF s.3 (n+4+x.2)),.bool (dS s.3 (n+4+x.2))]),some (.ints (some .u64) s.3),some (.ints (some .i64) R),some (.cells [.int .i64 t,.int .i64 n,.int .i64 x.1,.int .i64 (cR n x.2),.int .i64 (x.3 - 1),.int .u64 (aF s.3 (n+4+x.2)),.bool false]),some (.cells [.ptr 1 0,.raw (Value.pointer none)])]else K (.bool false) [some (.cells [.ptr 1 0,.bool sh,.ptr 5 0,.raw (Value.pointer none),.bool dn]),some (.cells [.int .i64 t,.int .i64 n,.int .i64 me,.int .i64 sp,.slice 4 0 R.length 1]),some (.cells [.int .i64 s.1,.int .i64 s.2,.slice 3 0 s.3.length 1,.int .i64 (s.4+1),.int .i64 1,.int .i64 (n+4+x.2),.int .u64 (aF s.3 (n+4+x.2)),.int .u64 (aF s.3 (n+4+x.2)),.bool (dS s.3 (n+4+x.2))]),some (.ints (some .u64) s.3),some (.ints (some .i64) R),some (.cells [.int .i64 t,.int .i64 n,.int .i64 x.1,.int .i64 x.2,.int .i64 x.3,.int .u64 (aF s.3 (n+4+x.2)),.bool true])]):cT' 154 [.ptr 0 0,.ptr 2 0] [some (.cells [.ptr 1 0,.bool sh,.ptr 5 0,.raw (.pointer none),.bool dn]),some (.cells [.int .i64 t,.int .i64 n,.int .i64 me,.int .i64 sp,.slice 4 0 R.length 1]),bF 3 s,bG s,some (.ints (some .i64) R),alE t n x] K:=by
 refine aK8 (cM' (E:=E42) (by kernel_rfl) hK)
theorem aJt(t n me sp:Int)(R:List Int)(sh dn:Bool)(x:AL)(y:SWS)(s:MS)(K:AVal->aB Ob->Prop)(hK:((lE' s.3/\lE' R)/\((1:Int)<=t/\t<=(1000:Int))/\((1:Int)<=n/\n<=(1000:Int))/\((0:Int)<=s.4/\s.4<=(1000000:Int))/\R.length<=(1000000:Nat))/\K (.bool false) [some (.cells [.ptr 1 0,.bool sh,.ptr 5 0,.ptr 6 0,.bool dn]),some (.cells [.int .i64 t,.int .i64 n,.int .i64 me,.int .i64 sp,.slice 4 0 R.length 1]),some (.cells [.int .i64 s.1,.int .i64 s.2,.slice 3 0 s.3.length 1,.int .i64 (s.4+1),.int .i64 1,.int .i64 (bQ n 0),.int .u64 (aF s.3 (bQ n 0)),.int .u64 (aF s.3 (bQ n 0)),.bool (dS s.3 (bQ n 0))]),some (.ints (some .u64) s.3),some (.ints (some .i64) R),some (.cells [.int .i64 t,.int .i64 n,.int .i64 x.1,.int .i64 x.2,.int .i64 x.3,.int .u64 x.4,.bool x.5]),some (.cells [.ptr 1 0,.ptr 7 0]),some (.cells [.int .i64 t,.int .i64 n,.raw (Value.slice none 0 0),.raw (Value.slice none 0 0),.slice 8 0 R.length 1,.map 9,.int .i64 1,.raw (Value.pointer none)]),some (.ints (some .i64) R),some (.imap .i64 none (aU [] n 0 s))]):cT' 154 [.ptr 0 0,.ptr 2 0] [some (.cells [.ptr 1 0,.bool sh,.ptr 5 0,.ptr 6 0,.bool dn]),some (.cells [.int .i64 t,.int .i64 n,.int .i64 me,.int .i64 sp,.slice 4 0 R.length 1]),bF 3 s,bG s,some (.ints (some .i64) R),alE t n x,some (.cells [.ptr 1 0,.raw (.pointer none)])] K:=by
 refine aK8 (cM' (E:=E42) (by kernel_rfl) hK)
theorem aJu(t n me sp:Int)(R:List Int)(sh dn:Bool)(x:AL)(y:SWS)(s:MS)(K:AVal->aB Ob->Prop)(hK:((lE' s.3/\lE' R/\lE' y.2/\t=t/\n=n)/\((1:Int)<=t/\t<=(1000:Int))/\((1:Int)<=n/\n<=(1000:Int))/\((0:Int)<=s.4/\s.4<=(1000000:Int))/\y.2.length<=(1000000:Nat)/\(0:Int)<=y.4/\y.4<(2:Int)*t)/\bif ieq (y.4+1) (2*t)then bif ieq (↑(List.length (aS (aU y.3 n y.4 s) y.2)):Int) 0 then K (.bool (ieq (↑(List.length (aS (aU y.3 n y.4 s) y.2)):Int) 0)) [some (.cells [.ptr 1 0,.bool (ieq (↑(List.length (aS (aU y.3 n y.4 s) y.2)):Int) 0),.raw (Value.pointer none),.raw (Value.pointer none),.bool true]),some (.cells [.int .i64 t,.int .i64 n,.int .i64 me,.int .i64 sp,.slice 10 0 (List.length (cH (aU y.3 n y.4 s) y.2)) 1]),some (.cells [.int .i64 s.1,.int .i64 s.2,.slice 3 0 s.3.length 1,.int .i64 (s.4+1),.int .i64 1,.int .i64 (bQ n y.4),.int .u64 (aF s.3 (bQ n y.4)),.int .u64 (aF s.3 (bQ n y.4)),.bool (dS s.3 (bQ n y.4))]),some (.ints (some .u64) s.3),some (.ints (some .i64) R),some (.cells [.int .i64 t,.int .i64 n,.int .i64 x.1,.int .i64 x.2,.int .i64 x.3,.int .u64 x.4,.bool x.5]),some (.cells [.ptr 1 0,.ptr 7 0]),some (.cells [.int .i64 t,.int .i64 n,.slice 10 0 (List.length (cH (aU y.3 n y.4 s) y.2)) 1,.slice 11 0 (List.length (aS (aU y.3 n y.4 s) y.2)) 1,.slice 8 0 y.2.length 1,.map 9,.int .i64 (y.4+1),.ptr 12 0]),some (.ints (some .i64) y.2),some (.imap .i64 none (aU y.3 n y.4 s)),some (.ints (some .i64) (cH (aU y.3 n y.4 s) y.2)),some (.ints (some .i64) (aS (aU y.3 n y.4 s) y.2)),some (.cells [.int .i64 t,.int .i64 n,.slice 13 0 (List.length (aS (aU y.3 n y.4 s) y.2)) 1]),some (.ints (some .i64) (aS (aU y.3 n y.4 s) y.2))]else K (.bool false) [some (.cells [.ptr 1 0,.bool sh,.ptr 5 0,.ptr 6 0,.bool dn]),some (.cells [.int .i64 t,.int .i64 n,.int .i64 me,.int .i64 sp,.slice 4 0 R.length 1]),some (.cells [.int .i64 s.1,.int .i64 s.2,.slice 3 0 s.3.length 1,.int .i64 (s.4+1),.int .i64 1,.int .i64 (bQ n y.4),.int .u64 (aF s.3 (bQ n y.4)),.int .u64 (aF s.3 (bQ n y.4)),.bool (dS s.3 (bQ n y.4))]),some (.ints (some .u64) s.3),some (.ints (some .i64) R),some (.cells [.int .i64 t,.int .i64 n,.int .i64 x.1,.int .i64 x.2,.int .i64 x.3,.int .u64 x.4,.bool x.5]),some (.cells [.ptr 1 0,.ptr 7 0]),some (.cells [.int .i64 t,.int .i64 n,.slice 10 0 (List.length (cH (aU y.3 n y.4 s) y.2)) 1,.slice 11 0 (List.length (aS (aU y.3 n y.4 s) y.2)) 1,.slice 8 0 y.2.length 1,.map 9,.int .i64 (y.4+1),.ptr 12 0]),some (.ints (some .i64) y.2),some (.imap .i64 none (aU y.3 n y.4 s)),some (.ints (some .i64) (cH (aU y.3 n y.4 s) y.2)),some (.ints (some .i64) (aS (aU y.3 n y.4 s) y.2)),some (.cells [.int .i64 t,.int .i64 n,.slice 13 0 (List.length (aS (aU y.3 n y.4 s) y.2)) 1]),some (.ints (some .i64) (aS (aU y.3 n y.4 s) y.2))]else K (.bool false) [some (.cells [.ptr 1 0,.bool sh,.ptr 5 0,.ptr 6 0,.bool dn]),some (.cells [.int .i64 t,.int .i64 n,.int .i64 me,.int .i64 sp,.slice 4 0 R.length 1]),some (.cells [.int .i64 s.1,.int .i64 s.2,.slice 3 0 s.3.length 1,.int .i64 (s.4+1),.int .i64 1,.int .i64 (bQ n y.4),.int .u64 (aF s.3 (bQ n y.4)),.int .u64 (aF s.3 (bQ n y.4)),.bool (dS s.3 (bQ n y.4))]),some (.ints (some .u64) s.3),some (.ints (some .i64) R),some (.cells [.int .i64 t,.int .i64 n,.int .i64 x.1,.int .i64 x.2,.int .i64 x.3,.int .u64 x.4,.bool x.5]),some (.cells [.ptr 1 0,.ptr 7 0]),some (.cells [.int .i64 t,.int .i64 n,.raw (Value.slice none 0 0),.raw (Value.slice none 0 0),.slice 8 0 y.2.length 1,.map 9,.int .i64 (y.4+1),.raw (Value.pointer none)]),some (.ints (some .i64) y.2),some (.imap .i64 none (aU y.3 n y.4 s))]):cT' 154 [.ptr 0 0,.ptr 2 0] [some (.cells [.ptr 1 0,.bool sh,.ptr 5 0,.ptr 6 0,.bool dn]),some (.cells [.int .i64 t,.int .i64 n,.int .i64 me,.int .i64 sp,.slice 4 0 R.length 1]),bF 3 s,bG s,some (.ints (some .i64) R),alE t n x,some (.cells [.ptr 1 0,.ptr 7 0]),some (.cells [.int .i64 t,.int .i64 n,.raw (.slice none 0 0),.raw (.slice none 0 0),.slice 8 0 y.N.length 1,.map 9,.int .i64 y.i,.raw (.pointer none)]),some (.ints (some .i64) y.N),some (.imap .i64 none y.m)] K:=by
 refine aK8 (cM' (E:=E42) (by kernel_rfl) hK)
theorem aJv(t n me sp:Int)(R:List Int)(sh dn:Bool)(x:AL)(y:SWS)(s:MS)(K:AVal->aB Ob->Prop)(hK:((lE' s.3/\lE' R/\lE' y.5/\lE' y.6/\lE' y.2/\t=t/\n=n/\t=t/\n=n)/\((1:Int)<=t/\t<=(1000:Int))/\((1:Int)<=n/\n<=(1000:Int))/\((0:Int)<=s.4/\s.4<=(1000000:Int))/\2*t<=y.4/\((1:Nat)<=y.9/\y.7.length=y.8+y.9)/\(-1000000:Int)<=List.getD y.7 (y.8+Int.toNat 0*1) 0/\List.getD y.7 (y.8+Int.toNat 0*1) (0:Int)<=(1000000:Int))/\bif ieq (↑(y.9 - 1):Int) 0 then K (.bool (ieq (↑y.6.length:Int) 0)) [some (.cells [.ptr 1 0,.bool (ieq (↑y.6.length:Int) 0),.raw (Value.pointer none),.raw (Value.pointer none),.bool true]),some (.cells [.int .i64 t,.int .i64 n,.int .i64 me,.int .i64 sp,.slice 8 0 y.5.length 1]),some (.cells [.int .i64 s.1,.int .i64 s.2,.slice 3 0 (List.length (aZ s.3 (bS n y.7 y.8) (WU (aF s.3 (bS n y.7 y.8)+1)))) 1,.int .i64 (s.4+1),.int .i64 4,.int .i64 (bS n y.7 y.8),.int .u64 (aF s.3 (bS n y.7 y.8)),.int .u64 (bif dS s.3 (bS n y.7 y.8)then WU (aF s.3 (bS n y.7 y.8)+1)else 0),.bool (dS s.3 (bS n y.7 y.8))]),some (.ints (some .u64) (aZ s.3 (bS n y.7 y.8) (WU (aF s.3 (bS n y.7 y.8)+1)))),some (.ints (some .i64) R),some (.cells [.int .i64 t,.int .i64 n,.int .i64 x.1,.int .i64 x.2,.int .i64 x.3,.int .u64 x.4,.bool x.5]),some (.cells [.ptr 1 0,.ptr 7 0]),some (.cells [.int .i64 t,.int .i64 n,.slice 8 0 y.5.length 1,.slice 9 0 y.6.length 1,.slice 10 0 y.2.length 1,.map 11,.int .i64 y.4,.ptr 12 0]),some (.ints (some .i64) y.5),some (.ints (some .i64) y.6),some (.ints (some .i64) y.2),some (.imap .i64 none y.3),some (.cells [.int .i64 t,.int .i64 n,.slice 13 (y.8+1) (y.9 - 1) 1]),some (.ints (some .i64) y.7)]else K (.bool false) [some (.cells [.ptr 1 0,.bool sh,.ptr 5 0,.ptr 6 0,.bool dn]),some (.cells [.int .i64 t,.int .i64 n,.int .i64 me,.int .i64 sp,.slice 4 0 R.length 1]),some (.cells [.int .i64 s.1,.int .i64 s.2,.slice 3 0 (List.length (aZ s.3 (bS n y.7 y.8) (WU (aF s.3 (bS n y.7 y.8)+1)))) 1,.int .i64 (s.4+1),.int .i64 4,.int .i64 (bS n y.7 y.8),.int .u64 (aF s.3 (bS n y.7 y.8)),.int .u64 (bif dS s.3 (bS n y.7 y.8)then WU (aF s.3 (bS n y.7 y.8)+1)else 0),.bool (dS s.3 (bS n y.7 y.8))]),some (.ints (some .u64) (aZ s.3 (bS n y.7 y.8) (WU (aF s.3 (bS n y.7 y.8)+1)))),some (.ints (some .i64) R),some (.cells [.int .i64 t,.int .i64 n,.int .i64 x.1,.int .i64 x.2,.int .i64 x.3,.int .u64 x.4,.bool x.5]),some (.cells [.ptr 1 0,.ptr 7 0]),some (.cells [.int .i64 t,.int .i64 n,.slice 8 0 y.5.length 1,.slice 9 0 y.6.length 1,.slice 10 0 y.2.length 1,.map 11,.int .i64 y.4,.ptr 12 0]),some (.ints (some .i64) y.5),some (.ints (some .i64) y.6),some (.ints (some .i64) y.2),some (.imap .i64 none y.3),some (.cells [.int .i64 t,.int .i64 n,.slice 13 (y.8+1) (y.9 - 1) 1]),some (.ints (some .i64) y.7)]):cT' 154 [.ptr 0 0,.ptr 2 0] [some (.cells [.ptr 1 0,.bool sh,.ptr 5 0,.ptr 6 0,.bool dn]),some (.cells [.int .i64 t,.int .i64 n,.int .i64 me,.int .i64 sp,.slice 4 0 R.length 1]),bF 3 s,bG s,some (.ints (some .i64) R),alE t n x,some (.cells [.ptr 1 0,.ptr 7 0]),some (.cells [.int .i64 t,.int .i64 n,.slice 8 0 y.ks.length 1,.slice 9 0 y.fs.length 1,.slice 10 0 y.N.length 1,.map 11,.int .i64 y.i,.ptr 12 0]),some (.ints (some .i64) y.ks),some (.ints (some .i64) y.fs),some (.ints (some .i64) y.N),some (.imap .i64 none y.m),some (.cells [.int .i64 t,.int .i64 n,.slice 13 y.j y.l 1]),some (.ints (some .i64) y.gs)] K:=by
 refine aK8 (cM' (E:=E42) (by kernel_rfl) hK)
theorem en2(t n:Int)(e:ENS)(st:STS)(s:MS)(K:AVal->aB Ob->Prop)(hp:e.ph=2)(ok:PI t n e st s)(hK:(enF t n e st s).left t n K):cT' 154 [.ptr 0 0,.ptr 2 0] (YU t n e st s) K:=by
 obtain⟨ht,hn,hc,hm,hR,ho⟩:=ok;obtain⟨ph,sh,dn,x,y⟩:=e;dsimp only at hp;subst hp;obtain⟨me,sp,R⟩:=st;dsimp only at hm hR;refine aA.pack tbl (aA.pack tbl ?_);refine aA.unpack tbl (.store t n ⟨me,sp,R⟩) 1 0 (dP t n ⟨me,sp,R⟩) [] rfl rfl rfl rfl ?_;refine aA.unpack tbl (.ensure t n ⟨2,sh,dn,x,y⟩) 0 1 (FM t n ⟨2,sh,dn,x,y⟩) [1] rfl rfl rfl rfl ?_;refine aJt t n me sp R sh dn x y s _ ?_;exact⟨⟨⟨rfl,rfl⟩,ht,hn,hc,hR⟩,gR (o:=enF t n ⟨2,sh,dn,x,y⟩ ⟨me,sp,R⟩ s) [0,1,2,3,4,5,6,7,8,9] hK rfl rfl⟩
theorem en3(t n:Int)(e:ENS)(st:STS)(s:MS)(K:AVal->aB Ob->Prop)(hp:e.ph=3)(ok:PI t n e st s)(hK:(enF t n e st s).left t n K):cT' 154 [.ptr 0 0,.ptr 2 0] (YU t n e st s) K:=by
 obtain⟨ht,hn,hc,hm,hR,ho⟩:=ok;obtain⟨ph,sh,dn,x,y⟩:=e;dsimp only at hp;subst hp;obtain⟨me,sp,R⟩:=st;dsimp only at hm hR;refine aA.pack tbl (aA.pack tbl ?_);refine aA.unpack tbl (.store t n ⟨me,sp,R⟩) 1 0 (dP t n ⟨me,sp,R⟩) [] rfl rfl rfl rfl ?_;refine aA.unpack tbl (.ensure t n ⟨3,sh,dn,x,y⟩) 0 1 (FM t n ⟨3,sh,dn,x,y⟩) [1] rfl rfl rfl rfl ?_;refine aJu t n me sp R sh dn x y s _ ?_;have ho:y.N.length<=1000000/\0<=y.i/\y.i<2*t:=ho;refine⟨⟨⟨rfl,rfl,rfl,rfl,rfl⟩,ht,hn,hc,ho.1,ho.2⟩,?_⟩;unfold enF at hK;dsimp only at hK;cases h1:ieq (y.i+1) (2*t)with
 | false=>
   rw [h1]at hK;exact gR (o:=⟨false,⟨3,sh,dn,x,{y with m:=aU y.m n y.i s,i:=y.i+1}⟩,⟨me,sp,R⟩,s.loadd (bQ n y.i)⟩) [0,1,2,3,4,5,6,7,8,9] hK rfl rfl
 | true=>
   rw [h1]at hK;cases h2:ieq ((aS (aU y.m n y.i s) y.N).length :Int) 0 with
   | true=>
     rw [h2]at hK;exact gR (o:=⟨true,⟨0,true,true,x,y⟩,⟨me,sp,cH (aU y.m n y.i s) y.N⟩,s.loadd (bQ n y.i)⟩) [0,1,2,3,10] hK rfl rfl
   | false=>
     rw [h2]at hK;exact gR (o:=⟨false,⟨4,sh,dn,x,⟨0,y.N,aU y.m n y.i s,y.i+1,cH (aU y.m n y.i s) y.N,aS (aU y.m n y.i s) y.N,aS (aU y.m n y.i s) y.N,0,(aS (aU y.m n y.i s) y.N).length⟩⟩,⟨me,sp,R⟩,s.loadd (bQ n y.i)⟩) [0,1,2,3,4,5,6,7,10,11,8,9,12,13] hK rfl rfl
theorem en4(t n:Int)(e:ENS)(st:STS)(s:MS)(K:AVal->aB Ob->Prop)(hp:e.ph=4)(ok:PI t n e st s)(hK:(enF t n e st s).left t n K):cT' 154 [.ptr 0 0,.ptr 2 0] (YU t n e st s) K:=by
 obtain⟨ht,hn,hc,hm,hR,ho⟩:=ok;obtain⟨ph,sh,dn,x,y⟩:=e;dsimp only at hp;subst hp;obtain⟨me,sp,R⟩:=st;dsimp only at hm hR;refine aA.pack tbl (aA.pack tbl ?_);refine aA.unpack tbl (.store t n ⟨me,sp,R⟩) 1 0 (dP t n ⟨me,sp,R⟩) [] rfl rfl rfl rfl ?_;refine aA.unpack tbl (.ensure t n ⟨4,sh,dn,x,y⟩) 0 1 (FM t n ⟨4,sh,dn,x,y⟩) [1] rfl rfl rfl rfl ?_;refine aJv t n me sp R sh dn x y s _ ?_;have ho:2*t<=y.i/\1<=y.l/\y.gs.length=y.j+y.l/\ -1000000<=List.getD y.gs (y.j+Int.toNat 0*1) 0/\List.getD y.gs (y.j+Int.toNat 0*1) 0<=1000000:=ho;refine⟨⟨⟨rfl,rfl,rfl,rfl,rfl,rfl,rfl,rfl,rfl⟩,ht,hn,hc,ho.1,⟨ho.2.1,ho.2.2.1⟩,ho.2.2.2⟩,?_⟩;unfold enF at hK;dsimp only at hK;cases h1:ieq ((y.l - 1:Nat):Int) 0 with
 | false=>
   rw [h1]at hK;exact gR (o:=⟨false,⟨4,sh,dn,x,{y with j:=y.j+1,l:=y.l - 1}⟩,⟨me,sp,R⟩,s.added (bS n y.gs y.j) 1⟩) [0,1,2,3,4,5,6,7,8,9,10,11,12,13] hK rfl rfl
 | true=>
   rw [h1]at hK;exact gR (o:=⟨ieq (y.fs.length:Int) 0,⟨0,ieq (y.fs.length:Int) 0,true,x,y⟩,⟨me,sp,y.ks⟩,s.added (bS n y.gs y.j) 1⟩) [0,1,2,3,8] hK rfl rfl
theorem en1(t n:Int)(e:ENS)(st:STS)(s:MS)(K:AVal->aB Ob->Prop)(hp:e.ph=1)(ok:PI t n e st s)(hK:(enF t n e st s).left t n K):cT' 154 [.ptr 0 0,.ptr 2 0] (YU t n e st s) K:=by
 obtain⟨ht,hn,hc,hm,hR,ho⟩:=ok;obtain⟨ph,sh,dn,x,y⟩:=e;dsimp only at hp;subst hp;obtain⟨me,sp,R⟩:=st;dsimp only at hm hR;refine aA.pack tbl (aA.pack tbl ?_);refine aA.unpack tbl (.store t n ⟨me,sp,R⟩) 1 0 (dP t n ⟨me,sp,R⟩) [] rfl rfl rfl rfl ?_;refine aA.unpack tbl (.ensure t n ⟨1,sh,dn,x,y⟩) 0 1 (FM t n ⟨1,sh,dn,x,y⟩) [1] rfl rfl rfl rfl ?_;refine aJs t n me sp R sh dn x y s _ ?_;have ho:okAl n x:=ho;obtain⟨hg,ha,hl⟩:=ho;refine⟨⟨rfl,ht,hn,ha,hl,hc⟩,?_⟩;obtain⟨got,at',left,found,free⟩:=x;dsimp only at hg ha hl⊢;subst hg;have i0:ieq at' 0=false:=by rw [cA];simp;omega
 have g:ieq 0 0=true:=rfl;rw [i0,g];unfold enF sO L7 at hK;dsimp only at hK;cases free with
 | false=>
   dsimp only [cond]at hK⊢;cases ho:oddB (aF s.xs (n+4+at'))with
   | false=>
     rw [ho]at hK;exact gR (o:=⟨false,⟨1,sh,dn,⟨0,at',left,aF s.xs (n+4+at'),true⟩,y⟩,⟨me,sp,R⟩,s.loadd (n+4+at')⟩) [0,1,2,3,4,5] hK rfl rfl
   | true=>
     rw [ho]at hK;dsimp only [cond]at hK⊢;cases hw:ile (left - 1) 0 with
     | false=>
       rw [hw]at hK;exact gR (o:=⟨false,⟨1,sh,dn,⟨0,cR n at',left - 1,aF s.xs (n+4+at'),false⟩,y⟩,⟨me,sp,R⟩,s.loadd (n+4+at')⟩) [0,1,2,3,4,5] hK rfl rfl
     | true=>
       rw [hw]at hK;cases dn with
       | true=>exact gR (o:=⟨true,⟨2,true,true,⟨0,cR n at',left - 1,aF s.xs (n+4+at'),false⟩,y⟩,⟨me,0,R⟩,s.loadd (n+4+at')⟩) [0,1,2,3,4,5,6] hK rfl rfl
       | false=>exact gR (o:=⟨ieq (R.length:Int) 0,⟨2,ieq (R.length:Int) 0,false,⟨0,cR n at',left - 1,aF s.xs (n+4+at'),false⟩,y⟩,⟨me,0,R⟩,s.loadd (n+4+at')⟩) [0,1,2,3,4,5,6] hK rfl rfl
 | true=>
   dsimp only [cond]at hK⊢;unfold MS.cased at hK;cases hb:bE s.xs (n+4+at') found with
   | true=>
     rw [hb]at hK;exact gR (o:=⟨true,⟨1,sh,dn,⟨at',at',left,found,true⟩,y⟩,⟨me,at',R⟩,_⟩) [0,1,2,3,4,5] hK rfl rfl
   | false=>
     rw [hb]at hK;dsimp only [cond]at hK⊢;cases hw:ile (left - 1) 0 with
     | false=>
       rw [hw]at hK;exact gR (o:=⟨false,⟨1,sh,dn,⟨0,cR n at',left - 1,found,false⟩,y⟩,⟨me,sp,R⟩,_⟩) [0,1,2,3,4,5] hK rfl rfl
     | true=>
       rw [hw]at hK;cases dn with
       | true=>exact gR (o:=⟨true,⟨2,true,true,⟨0,cR n at',left - 1,found,false⟩,y⟩,⟨me,0,R⟩,_⟩) [0,1,2,3,4,5,6] hK rfl rfl
       | false=>exact gR (o:=⟨ieq (R.length:Int) 0,⟨2,ieq (R.length:Int) 0,false,⟨0,cR n at',left - 1,found,false⟩,y⟩,⟨me,0,R⟩,_⟩) [0,1,2,3,4,5,6] hK rfl rfl
theorem en0(t n:Int)(e:ENS)(st:STS)(s:MS)(K:AVal->aB Ob->Prop)(hp:e.ph=0)(ok:PI t n e st s)(hK:(enF t n e st s).left t n K):cT' 154 [.ptr 0 0,.ptr 2 0] (YU t n e st s) K:=by
 obtain⟨ht,hn,hc,hm,hR,ho⟩:=ok;obtain⟨ph,sh,dn,x,y⟩:=e;dsimp only at hp;subst hp;obtain⟨me,sp,R⟩:=st;dsimp only at hm hR;refine aA.pack tbl (aA.pack tbl ?_);refine aA.unpack tbl (.store t n ⟨me,sp,R⟩) 1 0 (dP t n ⟨me,sp,R⟩) [] rfl rfl rfl rfl ?_;refine aA.unpack tbl (.ensure t n ⟨0,sh,dn,x,y⟩) 0 1 (FM t n ⟨0,sh,dn,x,y⟩) [1] rfl rfl rfl rfl ?_;refine aJr t n me sp R sh dn x y s _ ?_;unfold enF sO L7 at hK;dsimp only at hK;cases hz:ieq sp 0 with
 | false=>
   rw [hz]at hK;exact⟨⟨rfl,by omega⟩,gR (o:=⟨true,⟨0,sh,dn,x,y⟩,⟨me,sp,R⟩,s.loadd 0⟩) [0,1,2,3,4] hK rfl rfl⟩
 | true=>
   rw [hz]at hK
   have ha:1<=at0 t n me/\at0 t n me<=n:=by
    unfold at0 bH;cases h1:(ile 1 (aO t n me))<;>cases h2:ile (aO t n me) n<;>simp only [Bool.and_true,Bool.and_false,Bool.and_self,cond_true,cond_false]<;>rw [bY]at h1 h2<;>simp at h1 h2<;>omega
   refine⟨⟨by omega,by omega⟩,⟨trivial,trivial⟩,⟨rfl,ht,hn,ha,by omega,hc⟩,?_⟩
   show cond (oddB (aF s.xs (n+4+at0 t n me))) _ _;cases ho:oddB (aF s.xs (n+4+at0 t n me))with
   | false=>
     rw [ho]at hK;exact gR (o:=⟨false,⟨1,sh,dn,⟨0,at0 t n me,n,aF s.xs (n+4+at0 t n me),true⟩,y⟩,⟨me,sp,R⟩,s.loadd (n+4+at0 t n me)⟩) [0,1,2,3,4,5] hK rfl rfl
   | true=>
     rw [ho]at hK;dsimp only [cond]at hK⊢;cases hw:ile (n - 1) 0 with
     | false=>
       rw [hw]at hK;exact gR (o:=⟨false,⟨1,sh,dn,⟨0,cR n (at0 t n me),n - 1,aF s.xs (n+4+at0 t n me),false⟩,y⟩,⟨me,sp,R⟩,s.loadd (n+4+at0 t n me)⟩) [0,1,2,3,4,5] hK rfl rfl
     | true=>
       rw [hw]at hK;cases dn with
       | true=>exact gR (o:=⟨true,⟨2,true,true,⟨0,cR n (at0 t n me),n - 1,aF s.xs (n+4+at0 t n me),false⟩,y⟩,⟨me,0,R⟩,s.loadd (n+4+at0 t n me)⟩) [0,1,2,3,4,5,6] hK rfl rfl
       | false=>exact gR (o:=⟨ieq (R.length:Int) 0,⟨2,ieq (R.length:Int) 0,false,⟨0,cR n (at0 t n me),n - 1,aF s.xs (n+4+at0 t n me),false⟩,y⟩,⟨me,0,R⟩,s.loadd (n+4+at0 t n me)⟩) [0,1,2,3,4,5,6] hK rfl rfl
theorem JF(t n:Int)(e:ENS)(st:STS)(s:MS)(K:AVal->aB Ob->Prop)(ok:PI t n e st s)(hK:(enF t n e st s).left t n K):cT' 154 [.ptr 0 0,.ptr 2 0] (YU t n e st s) K:=by
 match h:e.ph with
 | 0=>exact en0 t n e st s K h ok hK
 | 1=>exact en1 t n e st s K h ok hK
 | 2=>exact en2 t n e st s K h ok hK
 | 3=>exact en3 t n e st s K h ok hK
 | 4=>exact en4 t n e st s K h ok hK
 | k+5=>have:=ok.ho;unfold aIu at this;rw [h]at this;exact this.elim
noncomputable def enS:aI Ob:=fun args h=>match args,h with
 | [.ptr 0 0,.ptr 2 0],[some (.abs (.ensure t n e) [1]),some (.abs (.store t' n' st) []),e1,e2]=>(match cO 3 [e1,e2]with
   | some (l,s)=>some (.pre ((l=s.xs.length/\t'=t/\n'=n)/\PI t n e st s) (.ret (.bool (enF t n e st s).d) (YU t n (enF t n e st s).e (enF t n e st s).st (enF t n e st s).s)))
   | none=>none)
 | _,_=>none
theorem aHs:aI.ok E42.I Tryz.prog 154 enS:=by
 intro args h o ho K hK;unfold enS at ho;split at ho
 case h_2=>cases ho
 split at ho<;>cases ho
 rename_i hm;obtain⟨⟨⟨hl,g,aa⟩,ok⟩,hK⟩:=hK;have hh:=bC hm hl;cases hh;subst g aa;exact JF _ _ _ _ _ K ok hK
noncomputable def enE:=E42.addS 154 enS aHs
structure SO where
 d:Bool
 e:SWS
 st:STS
 s:MS
instance:Inhabited SO:=⟨⟨false,cY,⟨0,0,[]⟩,⟨0,0,[],0,0,0,0,0,false⟩⟩⟩
def swF(t n:Int)(y:SWS)(st:STS)(s:MS):SO:=match y.ph with
 | 0=>⟨false,{y with ph:=1,N:=st.R,m:=aU [] n 0 s,i:=1},st,s.loadd (bQ n 0)⟩
 | 1=>(match ieq (y.i+1) (2*t),ieq ((aS (aU y.m n y.i s) y.N).length :Int) 0 with
   | true,true=>⟨true,{y with ph:=3},{st with R:=cH (aU y.m n y.i s) y.N},s.loadd (bQ n y.i)⟩
   | true,false=>⟨false,⟨2,y.N,aU y.m n y.i s,y.i+1,cH (aU y.m n y.i s) y.N,aS (aU y.m n y.i s) y.N,aS (aU y.m n y.i s) y.N,0,(aS (aU y.m n y.i s) y.N).length⟩,st,s.loadd (bQ n y.i)⟩
   | false,_=>⟨false,{y with m:=aU y.m n y.i s,i:=y.i+1},st,s.loadd (bQ n y.i)⟩)
 | _=>(match ieq ((y.l - 1:Nat):Int) 0 with
   | true=>⟨true,{y with ph:=3},{st with R:=y.ks},s.added (bS n y.gs y.j) 1⟩
   | false=>⟨false,{y with j:=y.j+1,l:=y.l - 1},st,s.added (bS n y.gs y.j) 1⟩)
def aCe(t n:Int)(y:SWS):Prop:=match y.ph with
 | 0=>True
 | 1=>y.N.length<=1000000/\0<=y.i/\y.i<2*t
 | 2=>2*t<=y.i/\1<=y.l/\y.gs.length=y.j+y.l/\ -1000000<=List.getD y.gs (y.j+Int.toNat 0*1) 0/\List.getD y.gs (y.j+Int.toNat 0*1) 0<=1000000
 | _=>False
structure tR (t n:Int) (y:SWS) (st:STS) (s:MS):Prop where
 ht:1<=t/\t<=1000
 hn:1<=n/\n<=1000
 hc:0<=s.c/\s.c<=1000000
 hR:st.R.length<=1000000
 ho:aCe t n y
def swH(t n:Int)(y:SWS)(st:STS)(s:MS):aB Ob:=[some (.abs (.sweep t n y) [1]),some (.abs (.store t n st) []),bF 3 s,bG s]
def SO.left(o:SO)(t n:Int)(K:AVal->aB Ob->Prop):Prop:=K (.bool o.d) (swH t n o.e o.st o.s)
theorem yV{K:AVal->aB Ob->Prop}{t n:Int}{o:SO}{g':aB Ob}(pl:List Nat)(hK:o.left t n K)
 (hb:(dU pl g'.length&&gZ pl 0 4&&obOk 1 (O2 t n o.e))=true)
 (hT:fT pl g'=aP [some (.abs (.sweep t n o.e) [1]),some (.cells [.int .i64 t,.int .i64 n,.int .i64 o.st.me,.int .i64 o.st.sp,.slice 4 0 o.st.R.length 1]),bF 3 o.s,bG o.s,some (.ints (some .i64) o.st.R)] 0 1 (O2 t n o.e) [1]):BG tbl 4 (BG tbl 4 K) (.bool o.d) g':=by
 simp only [Bool.and_eq_true]at hb;obtain⟨⟨b1,b2⟩,g⟩:=hb;refine⟨pl,_,.sweep t n o.e,0,1,_,[1],?_,hT,rfl,rfl,⟨[0,1,2,3,4],[some (.abs (.sweep t n o.e) [1]),some (.abs (.store t n o.st) []),bF 3 o.s,bG o.s],.store t n o.st,1,0,dP t n o.st,[],rfl,rfl,rfl,rfl,?_⟩⟩
 ·rw [b1,b2,g];rfl
 ·exact hK
abbrev w02(R:List Int)(me n sp t:Int):Option (aG Ob):=some (.cells [.int .i64 t,.int .i64 n,.int .i64 me,.int .i64 sp,.slice 4 0 R.length 1])
abbrev w04:Option (aG Ob):=some (.cells [.ptr 1 0,.ptr 5 0])
def UY(t n me sp:Int)(R:List Int)(y:SWS)(s:MS)(K:AVal->aB Ob->Prop):Prop:=((lE' s.3/\lE' R)/\((1:Int)<=t/\t<=(1000:Int))/\((1:Int)<=n/\n<=(1000:Int))/\((0:Int)<=s.4/\s.4<=(1000000:Int))/\R.length<=(1000000:Nat))/\K (.bool false) [w04,w02 R me n sp t,some (.cells [.int .i64 s.1,.int .i64 s.2,.slice 3 0 s.3.length 1,.int .i64 (s.4+1),.int .i64 1,.int .i64 (bQ n 0),.int .u64 (aF s.3 (bQ n 0)),.int .u64 (aF s.3 (bQ n 0)),.bool (dS s.3 (bQ n 0))]),some (.ints (some .u64) s.3),some (.ints (some .i64) R),some (.cells [.int .i64 t,.int .i64 n,.raw (Value.slice none 0 0),.raw (Value.slice none 0 0),.slice 6 0 R.length 1,.map 7,.int .i64 1,.raw (Value.pointer none)]),some (.ints (some .i64) R),some (.imap .i64 none (aU [] n 0 s))]
abbrev w06(R:List Int)(me n:Int)(s:MS)(sp t:Int):aB Ob:=[some (.cells [.ptr 1 0,.raw (.pointer none)]),some (.cells [.int .i64 t,.int .i64 n,.int .i64 me,.int .i64 sp,.slice 4 0 R.length 1]),bF 3 s,bG s,some (.ints (some .i64) R)]
theorem aJS(t n me sp:Int)(R:List Int)(y:SWS)(s:MS)(K:AVal->aB Ob->Prop)(hK:UY t n me sp R y s K):cT' 169 [.ptr 0 0,.ptr 2 0] (w06 R me n s sp t) K:=
 (kA oW) _ _ _ (Ev.get (aJ (p:=nP swStepS [.ptr 0 0,.ptr 2 0] (w06 R me n s sp t) K) (q:=UY t n me sp R y s K) (by kernel_rfl) hK))
abbrev w00(n:Int)(s:MS)(y:SWS):Option (aG Ob):=some (.cells [.int .i64 s.1,.int .i64 s.2,.slice 3 0 s.3.length 1,.int .i64 (s.4+1),.int .i64 1,.int .i64 (bQ n y.4),.int .u64 (aF s.3 (bQ n y.4)),.int .u64 (aF s.3 (bQ n y.4)),.bool (dS s.3 (bQ n y.4))])
abbrev w03(n:Int)(s:MS)(t:Int)(y:SWS):Option (aG Ob):=some (.cells [.int .i64 t,.int .i64 n,.slice 8 0 (List.length (cH (aU y.3 n y.4 s) y.2)) 1,.slice 9 0 (List.length (aS (aU y.3 n y.4 s) y.2)) 1,.slice 6 0 y.2.length 1,.map 7,.int .i64 (y.4+1),.ptr 10 0])
def UZ(t n me sp:Int)(R:List Int)(y:SWS)(s:MS)(K:AVal->aB Ob->Prop):Prop:=((lE' s.3/\lE' R/\lE' y.2/\t=t/\n=n)/\((1:Int)<=t/\t<=(1000:Int))/\((1:Int)<=n/\n<=(1000:Int))/\((0:Int)<=s.4/\s.4<=(1000000:Int))/\y.2.length<=(1000000:Nat)/\(0:Int)<=y.4/\y.4<(2:Int)*t)/\bif ieq (y.4+1) (2*t)then bif ieq (↑(List.length (aS (aU y.3 n y.4 s) y.2)):Int) 0 then K (.bool true) [w04,some (.cells [.int .i64 t,.int .i64 n,.int .i64 me,.int .i64 sp,.slice 8 0 (List.length (cH (aU y.3 n y.4 s) y.2)) 1]),w00 n s y,some (.ints (some .u64) s.3),some (.ints (some .i64) R),w03 n s t y,some (.ints (some .i64) y.2),some (.imap .i64 none (aU y.3 n y.4 s)),some (.ints (some .i64) (cH (aU y.3 n y.4 s) y.2)),some (.ints (some .i64) (aS (aU y.3 n y.4 s) y.2)),some (.cells [.int .i64 t,.int .i64 n,.slice 11 0 (List.length (aS (aU y.3 n y.4 s) y.2)) 1]),some (.ints (some .i64) (aS (aU y.3 n y.4 s) y.2))]else K (.bool false) [w04,w02 R me n sp t,w00 n s y,some (.ints (some .u64) s.3),some (.ints (some .i64) R),w03 n s t y,some (.ints (some .i64) y.2),some (.imap .i64 none (aU y.3 n y.4 s)),some (.ints (some .i64) (cH (aU y.3 n y.4 s) y.2)),some (.ints (some .i64) (aS (aU y.3 n y.4 s) y.2)),some (.cells [.int .i64 t,.int .i64 n,.slice 11 0 (List.length (aS (aU y.3 n y.4 s) y.2)) 1]),some (.ints (some .i64) (aS (aU y.3 n y.4 s) y.2))]else K (.bool false) [w04,w02 R me n sp t,w00 n s y,some (.ints (some .u64) s.3),some (.ints (some .i64) R),some (.cells [.int .i64 t,.int .i64 n,.raw (Value.slice none 0 0),.raw (Value.slice none 0 0),.slice 6 0 y.2.length 1,.map 7,.int .i64 (y.4+1),.raw (Value.pointer none)]),some (.ints (some .i64) y.2),some (.imap .i64 none (aU y.3 n y.4 s))]
abbrev w07(R:List Int)(me n:Int)(s:MS)(sp t:Int)(y:SWS):aB Ob:=[some (.cells [.ptr 1 0,.ptr 5 0]),some (.cells [.int .i64 t,.int .i64 n,.int .i64 me,.int .i64 sp,.slice 4 0 R.length 1]),bF 3 s,bG s,some (.ints (some .i64) R),some (.cells [.int .i64 t,.int .i64 n,.raw (.slice none 0 0),.raw (.slice none 0 0),.slice 6 0 y.N.length 1,.map 7,.int .i64 y.i,.raw (.pointer none)]),some (.ints (some .i64) y.N),some (.imap .i64 none y.m)]
theorem aJT(t n me sp:Int)(R:List Int)(y:SWS)(s:MS)(K:AVal->aB Ob->Prop)(hK:UZ t n me sp R y s K):cT' 169 [.ptr 0 0,.ptr 2 0] (w07 R me n s sp t y) K:=
 (kA oW) _ _ _ (Ev.get (aJ (p:=nP swStepS [.ptr 0 0,.ptr 2 0] (w07 R me n s sp t y) K) (q:=UZ t n me sp R y s K) (by kernel_rfl) hK))
abbrev w01(n:Int)(s:MS)(y:SWS):Option (aG Ob):=some (.cells [.int .i64 s.1,.int .i64 s.2,.slice 3 0 (List.length (aZ s.3 (bS n y.7 y.8) (WU (aF s.3 (bS n y.7 y.8)+1)))) 1,.int .i64 (s.4+1),.int .i64 4,.int .i64 (bS n y.7 y.8),.int .u64 (aF s.3 (bS n y.7 y.8)),.int .u64 (bif dS s.3 (bS n y.7 y.8)then WU (aF s.3 (bS n y.7 y.8)+1)else 0),.bool (dS s.3 (bS n y.7 y.8))])
abbrev w05(n t:Int)(y:SWS):List AVal:=[.int .i64 t,.int .i64 n,.slice 6 0 y.5.length 1,.slice 7 0 y.6.length 1,.slice 8 0 y.2.length 1,.map 9,.int .i64 y.4,.ptr 10 0]
def U0(t n me sp:Int)(R:List Int)(y:SWS)(s:MS)(K:AVal->aB Ob->Prop):Prop:=((lE' s.3/\lE' R/\lE' y.5/\lE' y.6/\lE' y.2/\t=t/\n=n/\t=t/\n=n)/\((1:Int)<=t/\t<=(1000:Int))/\((1:Int)<=n/\n<=(1000:Int))/\((0:Int)<=s.4/\s.4<=(1000000:Int))/\2*t<=y.4/\((1:Nat)<=y.9/\y.7.length=y.8+y.9)/\(-1000000:Int)<=List.getD y.7 (y.8+Int.toNat 0*1) 0/\List.getD y.7 (y.8+Int.toNat 0*1) (0:Int)<=(1000000:Int))/\bif ieq (↑(y.9 - 1):Int) 0 then K (.bool true) [w04,some (.cells [.int .i64 t,.int .i64 n,.int .i64 me,.int .i64 sp,.slice 6 0 y.5.length 1]),w01 n s y,some (.ints (some .u64) (aZ s.3 (bS n y.7 y.8) (WU (aF s.3 (bS n y.7 y.8)+1)))),some (.ints (some .i64) R),some (.cells (w05 n t y)),some (.ints (some .i64) y.5),some (.ints (some .i64) y.6),some (.ints (some .i64) y.2),some (.imap .i64 none y.3),some (.cells [.int .i64 t,.int .i64 n,.slice 11 (y.8+1) (y.9 - 1) 1]),some (.ints (some .i64) y.7)]else K (.bool false) [w04,w02 R me n sp t,w01 n s y,some (.ints (some .u64) (aZ s.3 (bS n y.7 y.8) (WU (aF s.3 (bS n y.7 y.8)+1)))),some (.ints (some .i64) R),some (.cells (w05 n t y)),some (.ints (some .i64) y.5),some (.ints (some .i64) y.6),some (.ints (some .i64) y.2),some (.imap .i64 none y.3),some (.cells [.int .i64 t,.int .i64 n,.slice 11 (y.8+1) (y.9 - 1) 1]),some (.ints (some .i64) y.7)]
abbrev w08(R:List Int)(me n:Int)(s:MS)(sp t:Int)(y:SWS):aB Ob:=[some (.cells [.ptr 1 0,.ptr 5 0]),some (.cells [.int .i64 t,.int .i64 n,.int .i64 me,.int .i64 sp,.slice 4 0 R.length 1]),bF 3 s,bG s,some (.ints (some .i64) R),some (.cells [.int .i64 t,.int .i64 n,.slice 6 0 y.ks.length 1,.slice 7 0 y.fs.length 1,.slice 8 0 y.N.length 1,.map 9,.int .i64 y.i,.ptr 10 0]),some (.ints (some .i64) y.ks),some (.ints (some .i64) y.fs),some (.ints (some .i64) y.N),some (.imap .i64 none y.m),some (.cells [.int .i64 t,.int .i64 n,.slice 11 y.j y.l 1]),some (.ints (some .i64) y.gs)]
theorem aJU(t n me sp:Int)(R:List Int)(y:SWS)(s:MS)(K:AVal->aB Ob->Prop)(hK:U0 t n me sp R y s K):cT' 169 [.ptr 0 0,.ptr 2 0] (w08 R me n s sp t y) K:=
 (kA oW) _ _ _ (Ev.get (aJ (p:=nP swStepS [.ptr 0 0,.ptr 2 0] (w08 R me n s sp t y) K) (q:=U0 t n me sp R y s K) (by kernel_rfl) hK))
theorem wc{x y:Option (aG Ob)}{g g2:aB Ob}(h:pL x y)(k:mG g g2):mG (x::g) (y::g2):=⟨h,k⟩
theorem wv{v w:AVal}{vs ws:List AVal}(h:w=v\/w=.O)(k:oL vs ws):oL (v::vs) (w::ws):=⟨h,k⟩
theorem aJY:oL [] []:=trivial
theorem aIJ{vs ws:List AVal}(h:oL vs ws):pL (some (.cells vs):Option (aG Ob)) (some (.cells ws)):=h
theorem wvs: ∀vs:List AVal,oL vs vs
 | []=>trivial
 | v::vs=>⟨.inl rfl,wvs vs⟩
theorem aIQ: ∀x:Option (aG Ob),pL x x
 | none=>trivial
 | some (.cells vs)=>wvs vs
 | some (.ints c xs)=>rfl
 | some (.abs t ps)=>rfl
 | some (.tab ks r)=>rfl
 | some (.imap k v m)=>rfl
 | some (.iter _ _ _ _ _ _)=>rfl
theorem IZ: ∀g:aB Ob,mG g g
 | []=>trivial
 | x::g=>⟨aIQ x,IZ g⟩
theorem uO{K:AVal->aB Ob->Prop}{v:AVal}{g:aB Ob}(h:K v g):PN K v g:=⟨g,IZ g,h⟩
theorem DZ{K:AVal->aB Ob->Prop}{v a b:AVal}{g:aB Ob}(h:K v (some (.cells [a,.O])::g)):PN K v (some (.cells [a,b])::g):=⟨_,wc (aIJ (wv (.inl rfl) (wv (.inr rfl) aJY))) (IZ g),h⟩
theorem sw0(t n:Int)(y:SWS)(st:STS)(s:MS)(K:AVal->aB Ob->Prop)(hp:y.ph=0)(ok:tR t n y st s)(hK:(swF t n y st s).left t n K):cT' 169 [.ptr 0 0,.ptr 2 0] (swH t n y st s) K:=by
 obtain⟨ht,hn,hc,hR,ho⟩:=ok;obtain⟨ph,N,m,i,ks,fs,gs,j,l⟩:=y;dsimp only at hp;subst hp;obtain⟨me,sp,R⟩:=st;dsimp only at hR;refine aA.pack tbl (aA.pack tbl (aA.less ?_));refine aA.unpack tbl (.store t n ⟨me,sp,R⟩) 1 0 (dP t n ⟨me,sp,R⟩) [] rfl rfl rfl rfl ?_;refine aA.unpack tbl (.sweep t n ⟨0,N,m,i,ks,fs,gs,j,l⟩) 0 1 (O2 t n ⟨0,N,m,i,ks,fs,gs,j,l⟩) [1] rfl rfl rfl rfl ?_;refine aJS t n me sp R ⟨0,N,m,i,ks,fs,gs,j,l⟩ s _ ?_;unfold UY;exact⟨⟨⟨rfl,rfl⟩,ht,hn,hc,hR⟩,uO (yV (o:=swF t n ⟨0,N,m,i,ks,fs,gs,j,l⟩ ⟨me,sp,R⟩ s) [0,1,2,3,4,5,6,7] hK rfl rfl)⟩
theorem sw1(t n:Int)(y:SWS)(st:STS)(s:MS)(K:AVal->aB Ob->Prop)(hp:y.ph=1)(ok:tR t n y st s)(hK:(swF t n y st s).left t n K):cT' 169 [.ptr 0 0,.ptr 2 0] (swH t n y st s) K:=by
 obtain⟨ht,hn,hc,hR,ho⟩:=ok;obtain⟨ph,N,m,i,ks,fs,gs,j,l⟩:=y;dsimp only at hp;subst hp;obtain⟨me,sp,R⟩:=st;dsimp only at hR;refine aA.pack tbl (aA.pack tbl (aA.less ?_));refine aA.unpack tbl (.store t n ⟨me,sp,R⟩) 1 0 (dP t n ⟨me,sp,R⟩) [] rfl rfl rfl rfl ?_;refine aA.unpack tbl (.sweep t n ⟨1,N,m,i,ks,fs,gs,j,l⟩) 0 1 (O2 t n ⟨1,N,m,i,ks,fs,gs,j,l⟩) [1] rfl rfl rfl rfl ?_;refine aJT t n me sp R ⟨1,N,m,i,ks,fs,gs,j,l⟩ s _ ?_;unfold UZ;have ho:N.length<=1000000/\0<=i/\i<2*t:=ho;refine⟨⟨⟨rfl,rfl,rfl,rfl,rfl⟩,ht,hn,hc,ho.1,ho.2⟩,?_⟩;unfold swF at hK;dsimp only at hK⊢;cases h1:ieq (i+1) (2*t)with
 | false=>
   rw [h1]at hK;exact uO (yV (o:=⟨false,⟨1,N,aU m n i s,i+1,ks,fs,gs,j,l⟩,⟨me,sp,R⟩,s.loadd (bQ n i)⟩) [0,1,2,3,4,5,6,7] hK rfl rfl)
 | true=>
   rw [h1]at hK;cases h2:ieq ((aS (aU m n i s) N).length :Int) 0 with
   | true=>
     rw [h2]at hK;exact DZ (yV (o:=⟨true,⟨3,N,m,i,ks,fs,gs,j,l⟩,⟨me,sp,cH (aU m n i s) N⟩,s.loadd (bQ n i)⟩) [0,1,2,3,8] hK rfl rfl)
   | false=>
     rw [h2]at hK;exact uO (yV (o:=⟨false,⟨2,N,aU m n i s,i+1,cH (aU m n i s) N,aS (aU m n i s) N,aS (aU m n i s) N,0,(aS (aU m n i s) N).length⟩,⟨me,sp,R⟩,s.loadd (bQ n i)⟩) [0,1,2,3,4,5,8,9,6,7,10,11] hK rfl rfl)
theorem sw2(t n:Int)(y:SWS)(st:STS)(s:MS)(K:AVal->aB Ob->Prop)(hp:y.ph=2)(ok:tR t n y st s)(hK:(swF t n y st s).left t n K):cT' 169 [.ptr 0 0,.ptr 2 0] (swH t n y st s) K:=by
 obtain⟨ht,hn,hc,hR,ho⟩:=ok;obtain⟨ph,N,m,i,ks,fs,gs,j,l⟩:=y;dsimp only at hp;subst hp;obtain⟨me,sp,R⟩:=st;dsimp only at hR;refine aA.pack tbl (aA.pack tbl (aA.less ?_));refine aA.unpack tbl (.store t n ⟨me,sp,R⟩) 1 0 (dP t n ⟨me,sp,R⟩) [] rfl rfl rfl rfl ?_;refine aA.unpack tbl (.sweep t n ⟨2,N,m,i,ks,fs,gs,j,l⟩) 0 1 (O2 t n ⟨2,N,m,i,ks,fs,gs,j,l⟩) [1] rfl rfl rfl rfl ?_;refine aJU t n me sp R ⟨2,N,m,i,ks,fs,gs,j,l⟩ s _ ?_;unfold U0;have ho:2*t<=i/\1<=l/\gs.length=j+l/\ -1000000<=List.getD gs (j+Int.toNat 0*1) 0/\List.getD gs (j+Int.toNat 0*1) 0<=1000000:=ho;refine⟨⟨⟨rfl,rfl,rfl,rfl,rfl,rfl,rfl,rfl,rfl⟩,ht,hn,hc,ho.1,⟨ho.2.1,ho.2.2.1⟩,ho.2.2.2⟩,?_⟩;unfold swF at hK;dsimp only at hK⊢;cases h1:ieq ((l - 1:Nat):Int) 0 with
 | false=>
   rw [h1]at hK;exact uO (yV (o:=⟨false,⟨2,N,m,i,ks,fs,gs,j+1,l - 1⟩,⟨me,sp,R⟩,s.added (bS n gs j) 1⟩) [0,1,2,3,4,5,6,7,8,9,10,11] hK rfl rfl)
 | true=>
   rw [h1]at hK;exact DZ (yV (o:=⟨true,⟨3,N,m,i,ks,fs,gs,j,l⟩,⟨me,sp,ks⟩,s.added (bS n gs j) 1⟩) [0,1,2,3,6] hK rfl rfl)
theorem aBk(t n:Int)(y:SWS)(st:STS)(s:MS)(K:AVal->aB Ob->Prop)(ok:tR t n y st s)(hK:(swF t n y st s).left t n K):cT' 169 [.ptr 0 0,.ptr 2 0] (swH t n y st s) K:=by
 match h:y.ph with
 | 0=>exact sw0 t n y st s K h ok hK
 | 1=>exact sw1 t n y st s K h ok hK
 | 2=>exact sw2 t n y st s K h ok hK
 | k+3=>have:=ok.ho;unfold aCe at this;rw [h]at this;exact this.elim
theorem fL{I:Itp Ob}{n:Nat}{K:AVal->aB Ob->Prop}{d:Bool}{a b g:aB Ob}(hK:(Out.ite d (.ret (.bool true) a) (.ret (.bool false) b)).run K)(h1:K (.bool true) a->cQ I n K (.bool true) g)(h2:d=false->K (.bool false) b->cQ I n K (.bool false) g):cQ I n K (.bool d) g:=by
 cases d with
 | true=>exact h1 hK
 | false=>exact h2 rfl hK
theorem tkP{n:Nat}{v:AVal}{g h2:aB Ob}{K:AVal->aB Ob->Prop}(h:K v h2)(t:Ob)(l np:Nat)(e:aB Ob)(ps:List Nat)(hg:g=aP h2 l np e ps:=by kernel_rfl)(hl:aK h2 l=some (.abs t ps):=by exact rfl)(ht:tbl t=(np,e):=by exact rfl)
 (hb:(Nat.ble n h2.length&&obOk np e&&jK h2 l ps&&v.within (upto 0 h2.length)&&Nat.beq ps.length np)=true:=by kernel_rfl):cQ (obI tbl) n K v g:=⟨⟨_,_,aE.pack h2 t l np e ps hg hl ht hb,h⟩⟩
theorem w8{n:Nat}{v:AVal}{g h2 e1:aB Ob}{t1:Ob}{np1:Nat}{K:AVal->aB Ob->Prop}(h:K v h2)(t:Ob)(l np:Nat)(e:aB Ob)(ps:List Nat)(l1:Nat)(ps1:List Nat)(hl1:aK h2 l1=some (.abs t1 ps1))(ht1:tbl t1=(np1,e1))
 (hg:g=aP (aP h2 l1 np1 e1 ps1) l np e ps:=by kernel_rfl) (hl:aK (aP h2 l1 np1 e1 ps1) l=some (.abs t ps):=by exact rfl) (ht:tbl t=(np,e):=by exact rfl)
 (hb:(Nat.ble n (aP h2 l1 np1 e1 ps1).length &&obOk np e&&jK (aP h2 l1 np1 e1 ps1) l ps&&v.within (upto 0 (aP h2 l1 np1 e1 ps1).length)&&Nat.beq ps.length np)=true:=by kernel_rfl)
 (hb1:(Nat.ble n h2.length&&obOk np1 e1&&jK h2 l1 ps1&&v.within (upto 0 h2.length)&&Nat.beq ps1.length np1)=true:=by kernel_rfl):cQ (obI tbl) n K v g:=⟨⟨_,_,(aE.pack _ t l np e ps hg hl ht hb).trans (aE.pack h2 t1 l1 np1 e1 ps1 rfl hl1 ht1 hb1),h⟩⟩
theorem FE{n:Nat}{v:AVal}{g h2:aB Ob}{K:AVal->aB Ob->Prop}(h:K v h2)(pos pl:List Nat)(t:Ob)(l np:Nat)(e:aB Ob)(ps:List Nat)(hp:(dU pl (aBo g 0 pos).length &&gZ pl 0 n)=true:=by exact rfl)(hv:lC pl v=v:=by kernel_rfl)(hg:fT pl (aBo g 0 pos)=aP h2 l np e ps:=by kernel_rfl)(hl:aK h2 l=some (.abs t ps):=by exact rfl)(ht:tbl t=(np,e):=by exact rfl)
 (hb:(Nat.ble n h2.length&&obOk np e&&jK h2 l ps&&v.within (upto 0 h2.length)&&Nat.beq ps.length np)=true:=by kernel_rfl):cQ (obI tbl) n K v g:=⟨⟨_,_,(aE.weak (d8 g 0 pos)).trans ((aE.pick pl hp).trans ((aLh hv hg).trans (aE.pack h2 t l np e ps rfl hl ht hb))),h⟩⟩
abbrev lD(l:Nat)(t n:Int)(st:STS):Option (aG Mc):=some (.cells [.I t,.I n,.I st.me,.I st.sp,.slice l 0 st.R.length 1])
abbrev oV(st:STS):Option (aG Mc):=some (.ints (some .i64) st.R)
def lZ(w:Nat)(h:aB Ob):Option (Nat×Int×Int×STS):=match h with
 | [some (.cells [.int .i64 t,.int .i64 n,.int .i64 me,.int .i64 sp,.slice l 0 len 1]),some (.ints (some .i64) xs)]=>if l=w then some (len,t,n,⟨me,sp,xs⟩)else none
 | _=>none
theorem cB{w:Nat}{h:aB Ob}{l:Nat}{t n:Int}{st:STS}(e:lZ w h=some (l,t,n,st))(hl:l=st.R.length):h=[lD w t n st,oV st]:=by
 unfold lZ at e;split at e
 ·split at e
  ·rename_i hw;simp only [sI',pI']at e;obtain⟨rfl,rfl,rfl,rfl⟩:=e;subst hw;simp only at hl;subst hl;rfl
  ·cases e
 ·cases e
theorem kH{f:FuncId}{t n:Int}{st st':STS}{s s':MS}{M:Mc}{e1 e2:aG Mc}{d:Bool}(h1: ∀ι:Nat->Nat,ι 1=1->e1.ren ι=e1)(h2: ∀ι:Nat->Nat,ι 1=1->e2.ren ι=e2)
 (hA: ∀K,(Out.ite d (.ret (.bool true) [some e1,some (.abs (.store t n st') []),bF 3 s',bG s']) (.ret (.bool false) [some e2,some (.abs (.store t n st') []),bF 3 s',bG s'])).run K->cT' f [.ptr 0 0,.ptr 2 0] [some (.abs M [1]),some (.abs (.store t n st) []),bF 3 s,bG s] K)
 (K:AVal->aB Ob->Prop) (hK:(Out.ite d (.ret (.bool true) [some e1,lD 5 t n st',none,bF 4 s',bG s',oV st']) (.ret (.bool false) [some e2,lD 5 t n st',none,bF 4 s',bG s',oV st'])).run K):
 cT' f [.ptr 0 0,.ptr 3 0] [some (.abs M [1]),lD 2 t n st,oV st,bF 4 s,bG s] K:=by
 refine aLi ?_;refine aLM (h0:=[some (.abs M [1]),lD 4 t n st,bF 3 s,bG s,oV st]) (args0:=[.ptr 0 0,.ptr 2 0]) (K0:=fun v g=>cQ (obI tbl) 5 K (v.ren (iota [0,1,3,4,2] 5)) (pG [some (.abs M [1]),lD 2 t n st,oV st,bF 4 s,bG s] [0,1,3,4,2] g)) ?_ [0,1,3,4,2] rfl (by decide) (by intro l hl;simp at hl⊢;omega) ?_ rfl (fun v g hk _=>hk)
 ·refine aA.shut tbl [some (.abs M [1]),some (.abs (.store t n st) []),bF 3 s,bG s] (.store t n st) 1 0 (dP t n st) [] (by kernel_rfl) rfl rfl (by kernel_rfl) (hA _ ?_)
  have i1:farI 4 1 1=1:=rfl;have i2:iota [0,1,3,4,2] 5 1=1:=rfl;cases d with
  | true=>
    have q1:((e1.ren (farI 4 1)).ren (iota [0,1,3,4,2] 5))=e1:=by rw [h1 _ i1,h1 _ i2]
    refine⟨_,_,aE.trans (aLh (g2:=[some e1,some (.abs (.store t n st') []),none,bF 4 s',bG s']) (by kernel_rfl) ?_) (aE.unpack (.store t n st') 1 0 (dP t n st') [] rfl rfl rfl rfl),hK⟩
    show [some ((e1.ren (farI 4 1)).ren (iota [0,1,3,4,2] 5)),_,_,_,_]=_;rw [q1];rfl
  | false=>
    have q2:((e2.ren (farI 4 1)).ren (iota [0,1,3,4,2] 5))=e2:=by rw [h2 _ i1,h2 _ i2]
    refine⟨_,_,aE.trans (aLh (g2:=[some e2,some (.abs (.store t n st') []),none,bF 4 s',bG s']) (by kernel_rfl) ?_) (aE.unpack (.store t n st') 1 0 (dP t n st') [] rfl rfl rfl rfl),hK⟩
    show [some ((e2.ren (farI 4 1)).ren (iota [0,1,3,4,2] 5)),_,_,_,_]=_;rw [q2];rfl
 ·intro i l hi
  match i,hi with
  | 0,hi=>cases hi;rfl
  | 1,hi=>cases hi;rfl
  | 2,hi=>cases hi;rfl
  | 3,hi=>cases hi;rfl
  | 4,hi=>cases hi;rfl
  | _+5,hi=>cases hi
def f5(kd:Int):Bool:=ieq kd 1||ieq kd 4
def pH(sh kd:Int):Bool:=ieq kd 5&&ieq sh 4
def v7(sh kd:Int):Bool:=ieq kd 2||ieq kd 5&&ieq sh 3
def iA(ky curr cw:Int):Bool:=bif ieq curr 0 then false else ieq (aC cw 0 10) ky
def fI(sh ky:Int):Int:=bif ieq sh 2 then ky%4 else 0
def mV(sh kd ky:Int):Int:=bif ieq sh 2 then ky else bif ieq sh 1 then ky else bif ieq sh 3 then(bif f5 kd then 1024 else -1)else -1
def SR:bA Ob:=fun args h=>match args,h with
 | [.agg [.int .i64 t,.int .i64 n],.int .i64 a],[]=>some ((0<=n/\n<=100000)/\(-1000000<=a/\a<=1000000),.I (n+1+a))
 | _,_=>none
theorem aAl:sT' 112 SR.spec:=by
 intro args h o ho K g;unfold bA.spec SR at ho;split at ho
 case h_2=>cases ho
 rename_i p v hp;split at hp
 case h_2=>cases hp
 rename_i t n a;cases hp;simp only [sI']at ho;subst ho;obtain⟨hp,g⟩:=g;have g:K (.I (n+1+a)) []:=g;refine aK8 (cM' (E:=enE) (q:=K (.I (W (W (1+n)+a))) []) (by kernel_rfl) ?_)
 simp(disch:=omega) only [W,cK]
 refine cast (congrArg (fun z=>K (AVal.int .i64 z) []) ?_) g;omega
def IX:bA Ob:=fun args h=>match args,h with
 | [.agg [.int .i64 k,.int .i64 y,.bool m,.int .i64 c,.int .i64 v]],[]=>some (0<=v/\v<=1000000,.agg [.I k,.I y,.bool m,.I 0,.I (aW v)])
 | _,_=>none
theorem VG:sT' 264 IX.spec:=by
 intro args h o ho K g;unfold bA.spec IX at ho;split at ho
 case h_2=>cases ho
 rename_i p v hp;split at hp
 case h_2=>cases hp
 rename_i k y m c v;cases hp;simp only [sI']at ho;subst ho;obtain⟨hp,g⟩:=g;have g:K (.agg [.I k,.I y,.bool m,.I 0,.I (aW v)]) []:=g;refine aK8 (cM' (E:=enE) (q:=K (.agg [.I k,.I y,.bool m,.I 0,.I (W (↑(BitVec.toNat (BitVec.ofInt (IntKind.bits .i64) (W (v+1))&&&BitVec.ofInt (IntKind.bits .i64) 262143)):Int))]) []) (by kernel_rfl) ?_)
 refine cast (congrArg (fun z=>K (.agg [.I k,.I y,.bool m,.I 0,.I z]) []) ?_) g;show aW v=_;have hb:IntKind.bits .i64 =64:=rfl;simp only [W];rw [hb,cK (x:=v+1) (by omega)]
 have:=kM (n:=64) (w:=18) (v+1) (by omega)
 have e:(2:Int)^18 - 1=262143:=by decide
 rw [e]at this;rw [this];have e2:(2:Int)^18=262144:=by decide
 rw [e2,cK (by omega)]
 rfl
def BA:bA Ob:=fun args h=>match args,h with
 | [.agg [.int .i64 k,.int .i64 y,.bool m,.int .i64 c,.int .i64 v],.int .i64 b,.int .i64 x,.bool q],[]=>some (-1000000<=b/\b<=1000000,.agg [.I k,.I x,.bool q,.I (b+1),.I v])
 | _,_=>none
theorem PA:sT' 268 BA.spec:=by
 intro args h o ho K g;unfold bA.spec BA at ho;split at ho
 case h_2=>cases ho
 rename_i p v hp;split at hp
 case h_2=>cases hp
 rename_i k y m c v b x q;cases hp;simp only [sI']at ho;subst ho;obtain⟨hp,g⟩:=g;have g:K (.agg [.I k,.I x,.bool q,.I (b+1),.I v]) []:=g;refine aK8 (cM' (E:=enE) (q:=K (.agg [.I k,.I x,.bool q,.I (W (b+1)),.I v]) []) (by kernel_rfl) ?_)
 rw [zE (by omega)]
 exact g
def A3:bA Ob:=fun args h=>match args,h with
 | [.agg [.int .i64 sh,.int .i64 kd,.int .i64 ky]],[]=>some (True,.bool (f5 kd))
 | _,_=>none
theorem O5:sT' 203 A3.spec:=by
 intro args h o ho K g;unfold bA.spec A3 at ho;split at ho
 case h_2=>cases ho
 rename_i p v hp;split at hp
 case h_2=>cases hp
 rename_i sh kd ky;cases hp;simp only [sI']at ho;subst ho;obtain⟨hp,g⟩:=g;have g:K (.bool (f5 kd)) []:=g;refine aK8 (cM' (E:=enE) (q:=bif ieq kd 1 then K (.bool true) []else K (.bool (ieq kd 4)) []) (by kernel_rfl) ?_)
 unfold f5 at g;cases h:ieq kd 1<;>rw [h]at g<;>exact g
def IW:bA Ob:=fun args h=>match args,h with
 | [.agg [.int .i64 sh,.int .i64 kd,.int .i64 ky]],[]=>some (True,.bool (pH sh kd))
 | _,_=>none
theorem U9:sT' 285 IW.spec:=by
 intro args h o ho K g;unfold bA.spec IW at ho;split at ho
 case h_2=>cases ho
 rename_i p v hp;split at hp
 case h_2=>cases hp
 rename_i sh kd ky;cases hp;simp only [sI']at ho;subst ho;obtain⟨hp,g⟩:=g;have g:K (.bool (pH sh kd)) []:=g;refine aK8 (cM' (E:=enE) (q:=bif ieq kd 5 then K (.bool (ieq sh 4)) []else K (.bool false) []) (by kernel_rfl) ?_)
 unfold pH at g;cases h:ieq kd 5<;>rw [h]at g<;>exact g
def A4:bA Ob:=fun args h=>match args,h with
 | [.agg [.int .i64 sh,.int .i64 kd,.int .i64 ky]],[]=>some (True,.bool (v7 sh kd))
 | _,_=>none
theorem O6:sT' 225 A4.spec:=by
 intro args h o ho K g;unfold bA.spec A4 at ho;split at ho
 case h_2=>cases ho
 rename_i p v hp;split at hp
 case h_2=>cases hp
 rename_i sh kd ky;cases hp;simp only [sI']at ho;subst ho;obtain⟨hp,g⟩:=g;have g:K (.bool (v7 sh kd)) []:=g;refine aK8 (cM' (E:=enE) (q:=bif ieq kd 2 then K (.bool true) []else bif ieq kd 5 then K (.bool (ieq sh 3)) []else K (.bool false) []) (by kernel_rfl) ?_)
 unfold v7 at g;cases h:ieq kd 2<;>cases h2:ieq kd 5<;>rw [h]at g<;>rw [h2]at g<;>exact g
noncomputable def hasCS:aI Ob:=qP [(.slot 0,.ints (some .i64))] ZS.spec
theorem ZR:sT' 138 hasCS:=tD SJ
noncomputable def EB0:=((((((enE.addS 138 hasCS ZR).addR 112 SR aAl).addR 264 IX VG).addR 268 BA PA).addR 203 A3 O5).addR 285 IW U9).addR 225 A4 O6
def isS:aI Ob:=fun args h=>match args,h with
 | [.agg [.int .i64 a,.int .i64 b,.int .i64 c,.int .i64 d,.bool m,.int .i64 e,.int .i64 f],.slice 0 0 1 1],[some (.cells [.int .i64 s])]=>some (.ret (.bool (hasB [s] e)) [some (.ints (some .i64) [s])])
 | _,_=>none
theorem aIa:sT' 243 isS:=by
 intro args h o ho K g;unfold isS at ho;split at ho<;>cases ho
 rename_i a b c d m e f s;have g:K (.bool (hasB [s] e)) [some (.ints (some .i64) [s])]:=g;refine aK8 (cM' (E:=EB0) (q:=(1=1/\(1:Nat)<=(4294967296:Nat))/\K (.bool (hasB [s] e)) [some (.ints (some .i64) [s])]) (by kernel_rfl) ?_)
 exact⟨⟨rfl,by omega⟩,g⟩
noncomputable def EB0b:=EB0.addS 243 isS aIa
def QS:bA Ob:=fun args h=>match args,h with
 | [.int .u64 x],[]=>some (True,.I (aC x 20 5 - 1))
 | _,_=>none
theorem XW:sT' 260 QS.spec:=by
 intro args h o ho K g;unfold bA.spec QS at ho;split at ho
 case h_2=>cases ho
 rename_i p v hp;split at hp
 case h_2=>cases hp
 rename_i x;cases hp;simp only [sI']at ho;subst ho;obtain⟨hp,g⟩:=g;have g:K (.I (aC x 20 5 - 1)) []:=g;refine aK8 (cM' (E:=EB0b) (q:=True/\K (.I (W (aC x 20 5 - 1))) []) (by kernel_rfl) ?_)
 have hb:0<=aC x 20 5/\aC x 20 5<32:=by
  unfold aC;have e:(2:Int)^(5:Int).toNat =32:=by decide
  rw [e];exact⟨Int.emod_nonneg _ (by decide),Int.emod_lt_of_pos _ (by decide)⟩
 have e1:W (aC x 20 5 - 1)=aC x 20 5 - 1:=cK (by omega)
 rw [e1];exact⟨trivial,g⟩
def GV:bA Ob:=fun args h=>match args,h with
 | [.agg [.int .i64 a,.int .i64 b,.int .i64 c,.int .i64 d,.bool m,.int .i64 e,.int .i64 f],.int .i64 g],[]=>some (True,.agg [.I a,.I b,.I c,.I d,.bool m,.I g,.I f])
 | _,_=>none
theorem RA:sT' 262 GV.spec:=by
 intro args h o ho K hK;unfold bA.spec GV at ho;split at ho
 case h_2=>cases ho
 rename_i p v hp;split at hp
 case h_2=>cases hp
 rename_i a b c d m e f g;cases hp;simp only [sI']at ho;subst ho;obtain⟨hp,hK⟩:=hK;have hK:K (.agg [.I a,.I b,.I c,.I d,.bool m,.I g,.I f]) []:=hK;refine aK8 (cM' (E:=EB0b) (q:=K (.agg [.I a,.I b,.I c,.I d,.bool m,.I g,.I f]) []) (by kernel_rfl) ?_)
 exact hK
noncomputable def EB0c:=(EB0b.addR 260 QS XW).addR 262 GV RA
def A7:bA Ob:=fun args h=>match args,h with
 | [.agg [.int .i64 sh,.int .i64 kd,.int .i64 ky]],[]=>some (True,.agg [.I (fI sh ky),.I (mV sh kd ky)])
 | _,_=>none
theorem O8:sT' 226 A7.spec:=by
 intro args h o ho K g;unfold bA.spec A7 at ho;split at ho
 case h_2=>cases ho
 rename_i p v hp;split at hp
 case h_2=>cases hp
 rename_i sh kd ky;cases hp;simp only [sI']at ho;subst ho;obtain⟨hp,g⟩:=g;have g:K (.agg [.I (fI sh ky),.I (mV sh kd ky)]) []:=g;refine aK8 (cM' (E:=EB0c) (q:=bif ieq sh 2 then K (.agg [.I (W (↑(BitVec.toNat (BitVec.ofInt (IntKind.bits .i64) ky&&&BitVec.ofInt (IntKind.bits .i64) 3)):Int)),.I ky]) []else bif ieq sh 1 then K (.agg [.I 0,.I ky]) []else bif ieq sh 2 then K (.agg [.I 0,.I ky]) []else bif ieq sh 3 then True/\bif f5 kd then K (.agg [.I 0,.I 1024]) []else K (.agg [.I 0,.I (-1:Int)]) []else K (.agg [.I 0,.I (-1:Int)]) []) (by kernel_rfl) ?_)
 have e4:W (((BitVec.ofInt (IntKind.bits .i64) ky&&&BitVec.ofInt (IntKind.bits .i64) 3).toNat :Nat):Int)=ky%4:=by
  have hb:IntKind.bits .i64 =64:=rfl;rw [hb];have:=kM (n:=64) (w:=2) ky (by omega)
  have e:(2:Int)^2 - 1=3:=by decide
  rw [e]at this;rw [this];have e2:(2:Int)^2=4:=by decide
  rw [e2];exact cK (by omega)
 unfold fI mV at g;refine aL (fun e=>?_) (fun e=>aL (fun e1=>?_) (fun e1=>aL (fun e2=>?_) (fun e2=>aL (fun e3=>⟨trivial,aL (fun e5=>?_) (fun e5=>?_)⟩) (fun e3=>?_))))
 ·rw [e]at g;rw [e4];exact g
 ·rw [e,e1]at g;exact g
 ·rw [e]at e2;cases e2
 ·rw [e,e1,e3,e5]at g;exact g
 ·rw [e,e1,e3,e5]at g;exact g
 ·rw [e,e1,e3]at g;exact g
def AP:bA Ob:=fun args h=>match args,h with
 | [.agg [.int .i64 sh,.int .i64 kd,.int .i64 ky,.int .i64 pred,.int .u64 pw,.int .i64 curr,.int .u64 cw]],[]=>some (True,.bool (iA ky curr cw))
 | _,_=>none
theorem OG:sT' 287 AP.spec:=by
 intro args h o ho K g;unfold bA.spec AP at ho;split at ho
 case h_2=>cases ho
 rename_i p v hp;split at hp
 case h_2=>cases hp
 rename_i sh kd ky pred pw curr cw;cases hp;simp only [sI']at ho;subst ho;obtain⟨hp,g⟩:=g;have g:K (.bool (iA ky curr cw)) []:=g;refine aK8 (cM' (E:=EB0c) (q:=bif !ieq curr 0 then True/\K (.bool (ieq (aC cw 0 10) ky)) []else K (.bool false) []) (by kernel_rfl) ?_)
 unfold iA at g;cases h:ieq curr 0 with
 | true=>rw [h]at g;exact g
 | false=>rw [h]at g;exact⟨trivial,g⟩
noncomputable def EB1:=(EB0c.addR 226 A7 O8).addR 287 AP OG
def aCg(v:AVal)(g:aB Ob):Option (Prop×PLN):=match v,g with
 | .agg [.bool now,.int .i64 code,.bool okk,.int .i64 val,.int .i64 addr,.int .u64 old,.int .i64 nxt,.bool mark,.int .i64 pops],[]=>some (True,⟨now,code,okk,val,addr,old,nxt,mark,pops⟩)
 | _,_=>none
def T5(y:PLN):AVal:=.agg [.bool y.now,.I y.code,.bool y.okk,.I y.val,.I y.addr,.int .u64 y.old,.I y.nxt,.bool y.mark,.I y.pops]
theorem T4:bP (obI tbl) 0 aCg (fun y=>.ret (T5 y) []):=by
 intro v g p x hp hq K hK;unfold aCg at hp;split at hp
 case h_2=>cases hp
 cases hp;exact⟨⟨_,_,aLo _ _ _,hK⟩⟩
abbrev w0b:Tr (PLN):=.pre True (.ret {now:=true,code:=0,okk:=false,val:=0,addr:=0,old:=0,nxt:=0,mark:=false,pops:=0})
abbrev w09(curr cw kd ky pred pw sh:Int):Tr (PLN):=.ite (ieq kd 5) (.ite (ieq curr 0) w0b (.pre True (.pre True (.ite (pH sh kd) (.pre True (.pre True (.pre True (.ret {now:=false,code:=0,okk:=true,val:=aC cw 0 10,addr:=pred,old:=pw,nxt:=aC cw 10 9,mark:=ieq (aC pw 19 1) 1,pops:=curr})))) (.pre True (.pre True (.ret {now:=false,code:=0,okk:=true,val:=aC cw 0 10,addr:=curr,old:=cw,nxt:=aC cw 10 9,mark:=true,pops:=0}))))))) (.ite (ieq kd 3) (.pre True (.pre True (.ret {now:=true,code:=0,okk:=iA ky curr cw,val:=0,addr:=0,old:=0,nxt:=0,mark:=false,pops:=0}))) w0b)
abbrev w0a(curr cw:Int):Tr (PLN):=.pre True (.pre True (.ret {now:=false,code:=0,okk:=true,val:=0,addr:=curr,old:=cw,nxt:=aC cw 10 9,mark:=true,pops:=0}))
abbrev w0c(pred pw spare:Int):Tr (PLN):=.pre True (.pre True (.ret {now:=false,code:=0,okk:=true,val:=0,addr:=pred,old:=pw,nxt:=spare,mark:=ieq (aC pw 19 1) 1,pops:=0}))
def EK(sh kd ky pred pw curr cw spare:Int):Tr (PLN):=.pre True (.ite (!bU sh kd ky) (.pre True (.ret {now:=true,code:=1,okk:=false,val:=0,addr:=0,old:=0,nxt:=0,mark:=false,pops:=0})) (.ite (ieq kd 4) (.ite (ieq kd 4) (w0c pred pw spare) (.ite (ieq kd 2) (.pre True (.ite (iA ky curr cw) (w0a curr cw) (w09 curr cw kd ky pred pw sh))) (w09 curr cw kd ky pred pw sh))) (.ite (ieq kd 1) (.pre True (.ite (!iA ky curr cw) (w0c pred pw spare) (.ite (ieq kd 2) (.pre True (.ite (iA ky curr cw) (w0a curr cw) (w09 curr cw kd ky pred pw sh))) (w09 curr cw kd ky pred pw sh)))) (.ite (ieq kd 2) (.pre True (.ite (iA ky curr cw) (w0a curr cw) (w09 curr cw kd ky pred pw sh))) (w09 curr cw kd ky pred pw sh)))))
def bJ(sh kd ky pred pw curr cw spare:Int):PLN:=(EK sh kd ky pred pw curr cw spare).val
def wN(sh kd ky pred pw curr cw spare:Int):Prop:=(EK sh kd ky pred pw curr cw spare).ok
def planS:aI Ob:=fun args h=>match args,h with
 | [.agg [.int .i64 sh,.int .i64 kd,.int .i64 ky],.agg [.int .i64 pred,.int .u64 pw,.int .i64 curr,.int .u64 cw],.int .i64 spare],[]=>some (.pre (wN sh kd ky pred pw curr cw spare) (.ret (T5 (bJ sh kd ky pred pw curr cw spare)) []))
 | _,_=>none
theorem aAR:sT' 256 planS:=by
 intro args h o ho K g;unfold planS at ho;split at ho<;>cases ho
 rename_i sh kd ky pred pw curr cw spare;obtain⟨ok,g⟩:=g;refine aLm (root:=0) (pos:=[]) (cs:=[]) T4 ?_;exact cM' (E:=EB1) (q:=(EK sh kd ky pred pw curr cw spare).run (fun y=>(Out.ret (T5 y) []).run K)) (by kernel_rfl) (aLf ok g)
def T6(v:AVal)(g:aB Ob):Option (Prop×Int):=match v,g with
 | .int .u64 x,[]=>some (True,x)
 | _,_=>none
def H6(y:Int):AVal:=.int .u64 y
theorem OL:bP (obI tbl) 0 T6 (fun y=>.ret (H6 y) []):=by
 intro v g p x hp hq K hK;unfold T6 at hp;split at hp
 case h_2=>cases hp
 cases hp;exact⟨⟨_,_,aLo _ _ _,hK⟩⟩
def wO(now:Bool)(code:Int)(okk:Bool)(val:Int)(addr:Int)(old:Int)(nxt:Int)(mark:Bool)(pops:Int):Tr (Int):=.ite now (.pre True (.ret 0)) (.pre True (.pre ((-1000000:Int)<=(0:Int)/\(0:Int)<=(1000000:Int)) (.pre ((0:Int)<=aC old 25 18/\aC old 25 (18:Int)<=(1000000:Int)) (.pre True (.pre True (.ret (bif bif aN (aC old 0 10) 10 then bif aN nxt 9 then bif aN 0 5 then aN (aW (aC old 25 18)) 18 else false else false else false then cZ (aC old 0 10) nxt mark 0 (aW (aC old 25 18))else 0)))))))
def d6(now:Bool)(code:Int)(okk:Bool)(val:Int)(addr:Int)(old:Int)(nxt:Int)(mark:Bool)(pops:Int):Int:=(wO now code okk val addr old nxt mark pops).val
def AS(now:Bool)(code:Int)(okk:Bool)(val:Int)(addr:Int)(old:Int)(nxt:Int)(mark:Bool)(pops:Int):Prop:=(wO now code okk val addr old nxt mark pops).ok
def planWS:aI Ob:=fun args h=>match args,h with
 | [.agg [.bool now,.int .i64 code,.bool okk,.int .i64 val,.int .i64 addr,.int .u64 old,.int .i64 nxt,.bool mark,.int .i64 pops]],[]=>some (.pre (AS now code okk val addr old nxt mark pops) (.ret (H6 (d6 now code okk val addr old nxt mark pops)) []))
 | _,_=>none
theorem T7:sT' 218 planWS:=by
 intro args h o ho K g;unfold planWS at ho;split at ho<;>cases ho
 rename_i now code okk val addr old nxt mark pops;obtain⟨ok,g⟩:=g;refine aLm (root:=0) (pos:=[]) (cs:=[]) OL ?_;exact cM' (E:=EB1) (q:=(wO now code okk val addr old nxt mark pops).run (fun y=>(Out.ret (H6 y) []).run K)) (by kernel_rfl) (aLf ok g)
def TY(v:AVal)(g:aB Ob):Option (Prop×Bool):=match v,g with
 | .bool x,[]=>some (True,x)
 | _,_=>none
def H4(y:Bool):AVal:=.bool y
theorem OH:bP (obI tbl) 0 TY (fun y=>.ret (H4 y) []):=by
 intro v g p x hp hq K hK;unfold TY at hp;split at hp
 case h_2=>cases hp
 cases hp;exact⟨⟨_,_,aLo _ _ _,hK⟩⟩
def wK(now:Bool)(code:Int)(okk:Bool)(val:Int)(addr:Int)(old:Int)(nxt:Int)(mark:Bool)(pops:Int):Tr (Bool):=.ite (!now) (.pre True (.pre True (.ret !ieq (aC old 20 5) 0))) (.pre True (.ret false))
def AQ(now:Bool)(code:Int)(okk:Bool)(val:Int)(addr:Int)(old:Int)(nxt:Int)(mark:Bool)(pops:Int):Bool:=(wK now code okk val addr old nxt mark pops).val
def oT(now:Bool)(code:Int)(okk:Bool)(val:Int)(addr:Int)(old:Int)(nxt:Int)(mark:Bool)(pops:Int):Prop:=(wK now code okk val addr old nxt mark pops).ok
def planCS:aI Ob:=fun args h=>match args,h with
 | [.agg [.bool now,.int .i64 code,.bool okk,.int .i64 val,.int .i64 addr,.int .u64 old,.int .i64 nxt,.bool mark,.int .i64 pops]],[]=>some (.pre (oT now code okk val addr old nxt mark pops) (.ret (H4 (AQ now code okk val addr old nxt mark pops)) []))
 | _,_=>none
theorem TZ:sT' 257 planCS:=by
 intro args h o ho K g;unfold planCS at ho;split at ho<;>cases ho
 rename_i now code okk val addr old nxt mark pops;obtain⟨ok,g⟩:=g;refine aLm (root:=0) (pos:=[]) (cs:=[]) OH ?_;exact cM' (E:=EB1) (q:=(wK now code okk val addr old nxt mark pops).run (fun y=>(Out.ret (H4 y) []).run K)) (by kernel_rfl) (aLf ok g)
def T0(v:AVal)(g:aB Ob):Option (Prop×(Int×Int)):=match v,g with
 | .tup [.int .u64 x,.int .i64 e],[]=>some (True,(x,e))
 | _,_=>none
def H5(y:(Int×Int)):AVal:=.tup [.int .u64 y.1,.I y.2]
theorem OI:bP (obI tbl) 0 T0 (fun y=>.ret (H5 y) []):=by
 intro v g p x hp hq K hK;unfold T0 at hp;split at hp
 case h_2=>cases hp
 cases hp;exact⟨⟨_,_,aLo _ _ _,hK⟩⟩
def wM(now:Bool)(code:Int)(okk:Bool)(val:Int)(addr:Int)(old:Int)(nxt:Int)(mark:Bool)(pops:Int)(att:Int):Tr ((Int×Int)):=.ite now (.pre True (.ret (0,5))) (.pre True (.pre True (.pre True (.ret (bif dOk att addr (aC old 25 18) nxt 2 val then cW att addr (aC old 25 18) nxt mark 2 val else 0,bif dOk att addr (aC old 25 18) nxt 2 val then 0 else 2)))))
def kZ(now:Bool)(code:Int)(okk:Bool)(val:Int)(addr:Int)(old:Int)(nxt:Int)(mark:Bool)(pops:Int)(att:Int):(Int×Int):=(wM now code okk val addr old nxt mark pops att).val
def AR(now:Bool)(code:Int)(okk:Bool)(val:Int)(addr:Int)(old:Int)(nxt:Int)(mark:Bool)(pops:Int)(att:Int):Prop:=(wM now code okk val addr old nxt mark pops att).ok
def planDS:aI Ob:=fun args h=>match args,h with
 | [.agg [.bool now,.int .i64 code,.bool okk,.int .i64 val,.int .i64 addr,.int .u64 old,.int .i64 nxt,.bool mark,.int .i64 pops],.int .i64 att],[]=>some (.pre (AR now code okk val addr old nxt mark pops att) (.ret (H5 (kZ now code okk val addr old nxt mark pops att)) []))
 | _,_=>none
theorem T3:sT' 202 planDS:=by
 intro args h o ho K g;unfold planDS at ho;split at ho<;>cases ho
 rename_i now code okk val addr old nxt mark pops att;obtain⟨ok,g⟩:=g;refine aLm (root:=0) (pos:=[]) (cs:=[]) OI ?_;exact cM' (E:=EB1) (q:=(wM now code okk val addr old nxt mark pops att).run (fun y=>(Out.ret (H5 y) []).run K)) (by kernel_rfl) (aLf ok g)
noncomputable def EB2:=(((EB1.addS 256 planS aAR).addS 218 planWS T7).addS 257 planCS TZ).addS 202 planDS T3
abbrev aDV(x:ENS):aG Mc:=.cells [.ptr 1 0,.bool x.sh,.O,.O,.bool x.dn]
theorem YW{t n:Int}{x:ENS}{st:STS}{s:MS} :aE (obI tbl) 4 (.bool true) [some (.abs (.ensure t n x) [1]),some (.abs (.store t n st) []),bF 3 s,bG s] (.bool true) [some (aDV x),some (.abs (.store t n st) []),bF 3 s,bG s]:=by
 obtain⟨ph,sh,dn,a,y⟩:=x
 match ph with
 | 0=>exact(aE.unpack (.ensure t n ⟨0,sh,dn,a,y⟩) 0 1 (FM t n ⟨0,sh,dn,a,y⟩) [1] rfl rfl (by kernel_rfl) rfl).trans ((aE.weak (d8 _ 0 [2,3])).trans ((aE.pick (upto 0 4) rfl).trans (aLh (by kernel_rfl) (by kernel_rfl))))
 | 1=>exact(aE.unpack (.ensure t n ⟨1,sh,dn,a,y⟩) 0 1 (FM t n ⟨1,sh,dn,a,y⟩) [1] rfl rfl (by kernel_rfl) rfl).trans ((aE.weak (d8 _ 0 [2,3])).trans ((aE.pick (upto 0 4) rfl).trans (aLh (by kernel_rfl) (by kernel_rfl))))
 | 2=>exact(aE.unpack (.ensure t n ⟨2,sh,dn,a,y⟩) 0 1 (FM t n ⟨2,sh,dn,a,y⟩) [1] rfl rfl (by kernel_rfl) rfl).trans ((aE.weak (d8 _ 0 [2,3])).trans ((aE.pick (upto 0 4) rfl).trans (aLh (by kernel_rfl) (by kernel_rfl))))
 | 3=>exact(aE.unpack (.ensure t n ⟨3,sh,dn,a,y⟩) 0 1 (FM t n ⟨3,sh,dn,a,y⟩) [1] rfl rfl (by kernel_rfl) rfl).trans ((aE.weak (d8 _ 0 [2,3])).trans ((aE.pick (upto 0 4) rfl).trans (aLh (by kernel_rfl) (by kernel_rfl))))
 | k+4=>exact(aE.unpack (.ensure t n ⟨k+4,sh,dn,a,y⟩) 0 1 (FM t n ⟨k+4,sh,dn,a,y⟩) [1] rfl rfl (by kernel_rfl) rfl).trans ((aE.weak (d8 _ 0 [2,3])).trans ((aE.pick (upto 0 4) rfl).trans (aLh (by kernel_rfl) (by kernel_rfl))))
def EO.fin(t n:Int)(y:EO):Out Ob:=.ite y.d (.ret (.bool true) [some (aDV y.e),some (.abs (.store t n y.st) []),bF 3 y.s,bG y.s]) (.ret (.bool false) [some (.abs (.ensure t n y.e) [1]),some (.abs (.store t n y.st) []),bF 3 y.s,bG y.s])
theorem RN(t n:Int)(e:ENS)(st:STS)(s:MS)(K:AVal->aB Ob->Prop)(ok:PI t n e st s)(hK:((enF t n e st s).fin t n).run K):cT' 154 [.ptr 0 0,.ptr 2 0] (YU t n e st s) K:=by
 refine aLi (JF t n e st s _ ok ?_);show cQ (obI tbl) 4 K (.bool (enF t n e st s).d) _;generalize enF t n e st s=y at hK⊢;exact rP hK (fun h=>⟨⟨_,_,YW,h⟩⟩) (fun h=>⟨⟨_,_,aLo _ _ _,h⟩⟩)
def EO.finB(t n:Int)(y:EO):Out Ob:=.ite y.d (.ret (.bool true) [some (aDV y.e),lD 5 t n y.st,none,bF 4 y.s,bG y.s,oV y.st]) (.ret (.bool false) [some (.abs (.ensure t n y.e) [1]),lD 5 t n y.st,none,bF 4 y.s,bG y.s,oV y.st])
noncomputable def enSB:aI Ob:=fun args h=>match args,h with
 | [.ptr 0 0,.ptr 3 0],[some (.abs (.ensure t n x) [1]),e1,e2,e3,e4]=>(match lZ 2 [e1,e2],cO 4 [e3,e4]with
   | some (l2,t2,n2,st),some (l,s)=>some (.pre ((l=s.xs.length/\l2=st.R.length/\t2=t/\n2=n)/\PI t n x st s) (EO.finB t n (enF t n x st s)))
   | _,_=>none)
 | _,_=>none
theorem aD3:sT' 154 enSB:=by
 intro args h o ho K g;unfold enSB at ho;split at ho
 case h_2=>cases ho
 split at ho<;>cases ho
 rename_i hs hm;obtain⟨⟨⟨hl,aa,rfl,rfl⟩,ok⟩,g⟩:=g;cases bC hm hl;cases cB hs aa;exact kH (fun ι hι=>by simp [aG.ren,aLn,AVal.ren,hι]) (fun ι hι=>by simp [aG.ren,hι]) (fun K g=>RN _ _ _ _ _ K ok g) K g
noncomputable def enS2:aI Ob:=enSB
theorem aD2:sT' 154 enS2:=aD3
abbrev aFU(x:SWS):aG Mc:=.cells [.ptr 1 0,.O]
theorem aBj{t n:Int}{x:SWS}{st:STS}{s:MS} :aE (obI tbl) 4 (.bool true) [some (.abs (.sweep t n x) [1]),some (.abs (.store t n st) []),bF 3 s,bG s] (.bool true) [some (aFU x),some (.abs (.store t n st) []),bF 3 s,bG s]:=by
 obtain⟨ph,N,m,i,ks,fs,gs,j,l⟩:=x
 match ph with
 | 0=>exact(aE.unpack (.sweep t n ⟨0,N,m,i,ks,fs,gs,j,l⟩) 0 1 (O2 t n ⟨0,N,m,i,ks,fs,gs,j,l⟩) [1] rfl rfl (by kernel_rfl) rfl).trans ((aE.weak (d8 _ 0 [1])).trans ((aE.pick (upto 0 4) rfl).trans (aLh (by kernel_rfl) (by kernel_rfl))))
 | 1=>exact(aE.unpack (.sweep t n ⟨1,N,m,i,ks,fs,gs,j,l⟩) 0 1 (O2 t n ⟨1,N,m,i,ks,fs,gs,j,l⟩) [1] rfl rfl (by kernel_rfl) rfl).trans ((aE.weak (d8 _ 0 [1])).trans ((aE.pick (upto 0 4) rfl).trans (aLh (by kernel_rfl) (by kernel_rfl))))
 | 2=>exact(aE.unpack (.sweep t n ⟨2,N,m,i,ks,fs,gs,j,l⟩) 0 1 (O2 t n ⟨2,N,m,i,ks,fs,gs,j,l⟩) [1] rfl rfl (by kernel_rfl) rfl).trans ((aE.weak (d8 _ 0 [1])).trans ((aE.pick (upto 0 4) rfl).trans (aLh (by kernel_rfl) (by kernel_rfl))))
 | k+3=>exact(aE.unpack (.sweep t n ⟨k+3,N,m,i,ks,fs,gs,j,l⟩) 0 1 (O2 t n ⟨k+3,N,m,i,ks,fs,gs,j,l⟩) [1] rfl rfl (by kernel_rfl) rfl).trans ((aE.weak (d8 _ 0 [1])).trans ((aE.pick (upto 0 4) rfl).trans (aLh (by kernel_rfl) (by kernel_rfl))))
def SO.fin(t n:Int)(y:SO):Out Ob:=.ite y.d (.ret (.bool true) [some (aFU y.e),some (.abs (.store t n y.st) []),bF 3 y.s,bG y.s]) (.ret (.bool false) [some (.abs (.sweep t n y.e) [1]),some (.abs (.store t n y.st) []),bF 3 y.s,bG y.s])
theorem U2(t n:Int)(e:SWS)(st:STS)(s:MS)(K:AVal->aB Ob->Prop)(ok:tR t n e st s)(hK:((swF t n e st s).fin t n).run K):cT' 169 [.ptr 0 0,.ptr 2 0] (swH t n e st s) K:=by
 refine aLi (aBk t n e st s _ ok ?_);show cQ (obI tbl) 4 K (.bool (swF t n e st s).d) _;generalize swF t n e st s=y at hK⊢;exact rP hK (fun h=>⟨⟨_,_,aBj,h⟩⟩) (fun h=>⟨⟨_,_,aLo _ _ _,h⟩⟩)
def SO.finB(t n:Int)(y:SO):Out Ob:=.ite y.d (.ret (.bool true) [some (aFU y.e),lD 5 t n y.st,none,bF 4 y.s,bG y.s,oV y.st]) (.ret (.bool false) [some (.abs (.sweep t n y.e) [1]),lD 5 t n y.st,none,bF 4 y.s,bG y.s,oV y.st])
noncomputable def swSB:aI Ob:=fun args h=>match args,h with
 | [.ptr 0 0,.ptr 3 0],[some (.abs (.sweep t n x) [1]),e1,e2,e3,e4]=>(match lZ 2 [e1,e2],cO 4 [e3,e4]with
   | some (l2,t2,n2,st),some (l,s)=>some (.pre ((l=s.xs.length/\l2=st.R.length/\t2=t/\n2=n)/\tR t n x st s) (SO.finB t n (swF t n x st s)))
   | _,_=>none)
 | _,_=>none
theorem aF0:sT' 169 swSB:=by
 intro args h o ho K g;unfold swSB at ho;split at ho
 case h_2=>cases ho
 split at ho<;>cases ho
 rename_i hs hm;obtain⟨⟨⟨hl,aa,rfl,rfl⟩,ok⟩,g⟩:=g;cases bC hm hl;cases cB hs aa;exact kH (fun ι hι=>by simp [aG.ren,aLn,AVal.ren,hι]) (fun ι hι=>by simp [aG.ren,hι]) (fun K g=>U2 _ _ _ _ _ K ok g) K g
noncomputable def swSC:aI Ob:=swSB
theorem aFZ:sT' 169 swSC:=aF0
def aDY(t n:Int)(v:AVal)(g:aB Ob):Option (Prop×STS):=match v,g with
 | .ptr 2 0,[e1,e2,some (.cells [.ptr 0 0,.bool false,.raw (.pointer none),.raw (.pointer none),.bool false])]=>(match lZ 1 [e1,e2]with
   | some (l2,t2,n2,st)=>some (t2=t/\n2=n/\l2=st.R.length,st)
   | none=>none)
 | _,_=>none
abbrev aDX(t n:Int)(y:STS):aB Ob:=[lD 1 t n y,oV y,some (.abs (.ensure t n bW) [0])]
theorem YV{t n:Int} :bP (obI tbl) 2 (aDY t n) (fun y=>.ret (.ptr 2 0) (aDX t n y)):=by
 intro v g p x hp hq K hK;unfold aDY at hp;split at hp
 case h_2=>cases hp
 split at hp
 case h_2=>cases hp
 rename_i l2 t2 n2 st hs;cases hp;obtain⟨rfl,rfl,aa⟩:=hq;cases cB hs aa;exact tkP hK (.ensure t2 n2 bW) 2 1 (FM t2 n2 bW) [0]
def aDZ(t n:Int)(st:STS):Tr STS:=.pre (t=t/\n=n/\lE' st.3) (.ret st)
def enNS:aI Ob:=fun args h=>match args,h with
 | [.ptr 0 0],[e1,e2]=>(match lZ 1 [e1,e2]with
   | some (l2,t,n,st)=>some (.pre (l2=st.R.length/\(aDZ t n st).ok) (.ret (.ptr 2 0) (aDX t n (aDZ t n st).val)))
   | none=>none)
 | _,_=>none
theorem aD0:sT' 206 enNS:=by
 intro args h o ho K hK;unfold enNS at ho;split at ho
 case h_2=>cases ho
 split at ho<;>cases ho
 rename_i l2 t n st hs;obtain⟨⟨g,ok⟩,hK⟩:=hK;cases cB hs g;refine aLm (root:=2) (pos:=[]) (cs:=[]) (parse:=aDY t n) YV ?_;exact cM' (E:=EB2) (q:=(aDZ t n st).run (fun y=>(Out.ret (.ptr 2 0) (aDX t n y)).run K)) (by kernel_rfl) (aLf ok hK)
def aFW(t n:Int)(v:AVal)(g:aB Ob):Option (Prop×STS):=match v,g with
 | .ptr 2 0,[e1,e2,some (.cells [.ptr 0 0,.raw (.pointer none)])]=>(match lZ 1 [e1,e2]with
   | some (l2,t2,n2,st)=>some (t2=t/\n2=n/\l2=st.R.length,st)
   | none=>none)
 | _,_=>none
abbrev aFV(t n:Int)(y:STS):aB Ob:=[lD 1 t n y,oV y,some (.abs (.sweep t n cY) [0])]
theorem aBf{t n:Int} :bP (obI tbl) 2 (aFW t n) (fun y=>.ret (.ptr 2 0) (aFV t n y)):=by
 intro v g p x hp hq K hK;unfold aFW at hp;split at hp
 case h_2=>cases hp
 split at hp
 case h_2=>cases hp
 rename_i l2 t2 n2 st hs;cases hp;obtain⟨rfl,rfl,aa⟩:=hq;cases cB hs aa;exact tkP hK (.sweep t2 n2 cY) 2 1 (O2 t2 n2 cY) [0]
def aFX(t n:Int)(st:STS):Tr STS:=.pre (t=t/\n=n/\lE' st.3) (.ret st)
def swNS:aI Ob:=fun args h=>match args,h with
 | [.ptr 0 0],[e1,e2]=>(match lZ 1 [e1,e2]with
   | some (l2,t,n,st)=>some (.pre (l2=st.R.length/\(aFX t n st).ok) (.ret (.ptr 2 0) (aFV t n (aFX t n st).val)))
   | none=>none)
 | _,_=>none
theorem aFY:sT' 167 swNS:=by
 intro args h o ho K hK;unfold swNS at ho;split at ho
 case h_2=>cases ho
 split at ho<;>cases ho
 rename_i l2 t n st hs;obtain⟨⟨g,ok⟩,hK⟩:=hK;cases cB hs g;refine aLm (root:=2) (pos:=[]) (cs:=[]) (parse:=aFW t n) aBf ?_;exact cM' (E:=EB2) (q:=(aFX t n st).run (fun y=>(Out.ret (.ptr 2 0) (aFV t n y)).run K)) (by kernel_rfl) (aLf ok hK)
noncomputable def EB3:=(((EB2.addS 154 enS2 aD2).addS 169 swSC aFZ).addS 206 enNS aD0).addS 167 swNS aFY
structure ClO where
 d:Bool
 x:CLS
 s:MS
instance:Inhabited ClO:=⟨⟨false,⟨0,0,0,0⟩,⟨0,0,[],0,0,0,0,0,false⟩⟩⟩
instance:Inhabited CLS:=⟨⟨0,0,0,0⟩⟩
abbrev clH(t n:Int)(x:CLS)(s:MS):aB Ob:=[some (.abs (.clear t n x) []),bF 2 s,bG s]
abbrev clD(t n:Int)(x:CLS)(s:MS):aB Ob:=[cE' [.I t,.I n,.I x.addr,.I x.at',.int .u64 x.word,.int .u64 x.found],bF 2 s,bG s]
def ClO.fin(t n:Int)(y:ClO):Out Ob:=.ite y.d (.ret (.bool true) (clD t n y.x y.s)) (.ret (.bool false) (clH t n y.x y.s))
def aDn(t n:Int)(v:AVal)(g:aB Ob):Option (Prop×ClO):=match v,g with
 | .bool d,[some (.cells [.int .i64 t1,.int .i64 n1,.int .i64 addr,.int .i64 at',.int .u64 word,.int .u64 found]),e1,e2]=>(match cO 2 [e1,e2]with
   | some (l,s)=>some ((t1=t/\n1=n)/\l=s.xs.length,⟨d,⟨addr,at',word,found⟩,s⟩)
   | none=>none)
 | _,_=>none
def clP(t n:Int)(v:AVal)(g:aB Ob):Option (Prop×ClO):=aDn t n v g
theorem XP{t n:Int} :bP (obI tbl) 3 (aDn t n) (ClO.fin t n):=by
 intro v g p x hp hq K hK;unfold aDn at hp;split at hp
 case h_2=>cases hp
 rename_i d t1 n1 addr at' word found e1 e2;split at hp
 case h_2=>cases hp
 rename_i l s hm;cases hp;obtain⟨⟨rfl,rfl⟩,hl⟩:=hq;cases bC hm hl;refine rP hK (fun h=>?_) (fun h=>?_)
 ·exact⟨⟨_,_,aLo _ _ _,h⟩⟩
 ·exact⟨⟨_,_,(aE.pack (clH t1 n1 (⟨addr,at',word,found⟩:CLS) s) (.clear t1 n1 (⟨addr,at',word,found⟩:CLS)) 0 0 (mN t1 n1 (⟨addr,at',word,found⟩:CLS)) [] (by kernel_rfl) rfl (congrArg (Prod.mk 0) rfl) (by kernel_rfl)),h⟩⟩
theorem zR{t n:Int} :bP (obI tbl) 3 (clP t n) (ClO.fin t n):=by
 intro v g p x hp hq K hK;unfold clP at hp;exact XP v g p x hp hq K hK
def B3(t n:Int)(x:CLS)(s:MS):Tr ClO:=.pre (q9' s) (.pre True (.ite (ilt (aC (aF s.3 x.1) 20 5 - 1) 0) (.pre ((t=t/\n=n)/\lE' s.3) (.ret {d:=true,x:= {addr:=x.1,at':=1,word:=aF s.3 x.1,found:=x.4},s:=(dY s x.1) })) (.pre ((t=t/\n=n)/\lE' s.3) (.ret {d:=ile t (aC (aF s.3 x.1) 20 5 - 1),x:= {addr:=x.1,at':=1,word:=aF s.3 x.1,found:=x.4},s:=(dY s x.1) }))))
abbrev XQ(F:Int->Int->CLS->MS->Tr ClO)(a:Int):Prop:= ∀(t n:Int) (x:CLS) (s:MS) (K:ClO->Prop) (h:(F t n x s).run K),cT' 214 [.ptr 0 0,.ptr 1 0] [cE' [.I t,.I n,.I x.addr,.I a,.int .u64 x.word,.int .u64 x.found],bF 2 s,bG s] (eU 3 0 [] [] (clP t n) K)
theorem LH:XQ B3 0:=by
 intro t n x s K h;exact cM' (E:=EB3) (by kernel_rfl) h
abbrev w0f(x:CLS):=aC x.3 20 5 - 1
abbrev w0d(n:Int)(s:MS)(t:Int)(x:CLS):Tr ClO:=.ret {d:=false,x:= {addr:=x.1,at':=3,word:=x.3,found:=aF s.3 (2*n+5+2*t+3*(w0f x)+2) },s:=(dY s (2*n+5+2*t+3*(w0f x)+2)) }
abbrev w0e(n t:Int)(x:CLS):=(((0:Int)<=t/\t<=(100000:Int))/\((0:Int)<=n/\n<=(100000:Int))/\(-1099511627776:Int)<=aC x.3 20 5 - 1/\aC x.3 20 5 - (1:Int)<=(1099511627776:Int))/\True
def B4(t n:Int)(x:CLS)(s:MS):Tr ClO:=.pre True (.pre (w0e n t x) (.pre ((q9' s)/\True) (.pre True (.ite (hasB [2] (aC (aF s.3 (2*n+5+2*t+3*(w0f x)+2)) 49 3)) (.ite (ieq (aC (aF s.3 (2*n+5+2*t+3*(w0f x)+2)) 12 9) x.1) (.pre True (.ite (ieq (aC (aF s.3 (2*n+5+2*t+3*(w0f x)+2)) 21 18) (aC x.3 25 18)) (.pre ((t=t/\n=n)/\lE' s.3) (.ret {d:=false,x:= {addr:=x.1,at':=2,word:=x.3,found:=aF s.3 (2*n+5+2*t+3*(w0f x)+2) },s:=(dY s (2*n+5+2*t+3*(w0f x)+2)) })) (.pre ((t=t/\n=n)/\lE' s.3) (w0d n s t x)))) (.pre ((t=t/\n=n)/\lE' s.3) (w0d n s t x))) (.pre ((t=t/\n=n)/\lE' s.3) (w0d n s t x))))))
theorem LI:XQ B4 1:=by
 intro t n x s K h;exact cM' (E:=EB3) (by kernel_rfl) h
def B5(t n:Int)(x:CLS)(s:MS):Tr ClO:=.pre True (.pre True (.pre True (.pre True (.pre (w0e n t x) (.pre ((q9' s)/\True) (.pre ((t=t/\n=n)/\lE' (bif bE s.3 (2*n+5+2*t+3*(w0f x)+2) x.4 then aZ s.3 (2*n+5+2*t+3*(w0f x)+2) (bif dOk (aC x.4 0 12) (aC x.4 12 9) (aC x.4 21 18) (aC x.4 39 9) 3 (aC x.4 52 10)then cW (aC x.4 0 12) (aC x.4 12 9) (aC x.4 21 18) (aC x.4 39 9) (ieq (aC x.4 48 1) 1) 3 (aC x.4 52 10)else 0)else s.3)) (.ret {d:=false,x:= {x with at':=3},s:=(qK s (2*n+5+2*t+3*(w0f x)+2) x.4 (bif dOk (aC x.4 0 12) (aC x.4 12 9) (aC x.4 21 18) (aC x.4 39 9) 3 (aC x.4 52 10)then cW (aC x.4 0 12) (aC x.4 12 9) (aC x.4 21 18) (aC x.4 39 9) (ieq (aC x.4 48 1) 1) 3 (aC x.4 52 10)else 0)) })))))))
theorem LJ:XQ B5 2:=by
 intro t n x s K h;exact cM' (E:=EB3) (by kernel_rfl) h
def B6(t n:Int)(x:CLS)(s:MS):Tr ClO:=.pre True (.pre ((0:Int)<=aC x.3 25 18/\aC x.3 25 (18:Int)<=(1000000:Int)) (.pre True (.pre ((q9' s)/\True) (.pre ((t=t/\n=n)/\lE' (bif bE s.3 x.1 x.3 then aZ s.3 x.1 (bif bif aN (aC x.3 0 10) 10 then bif aN (aC x.3 10 9) 9 then bif aN 0 5 then aN (aW (aC x.3 25 18)) 18 else false else false else false then cZ (aC x.3 0 10) (aC x.3 10 9) (ieq (aC x.3 19 1) 1) 0 (aW (aC x.3 25 18))else 0)else s.3)) (.ret {d:=true,x:= {x with at':=3},s:=(qK s x.1 x.3 (bif bif aN (aC x.3 0 10) 10 then bif aN (aC x.3 10 9) 9 then bif aN 0 5 then aN (aW (aC x.3 25 18)) 18 else false else false else false then cZ (aC x.3 0 10) (aC x.3 10 9) (ieq (aC x.3 19 1) 1) 0 (aW (aC x.3 25 18))else 0)) })))))
theorem LK:XQ B6 3:=by
 intro t n x s K h;exact cM' (E:=EB3) (by kernel_rfl) h
def clT(t n:Int)(x:CLS)(s:MS):Tr ClO:=
 bif ieq x.at' 0 then B3 t n x s else
 bif ieq x.at' 1 then B4 t n x s else
 bif ieq x.at' 2 then B5 t n x s else
 bif ieq x.at' 3 then B6 t n x s else .pre False (.ret default)
def pA(t n:Int)(x:CLS)(s:MS):ClO:=(clT t n x s).val
def QM(t n:Int)(x:CLS)(s:MS):Prop:=(clT t n x s).ok
theorem XR(t n:Int)(x:CLS)(s:MS)(K:AVal->aB Ob->Prop)(h:(clT t n x s).run (fun y=>(ClO.fin t n y).run K)):cT' 214 [.ptr 0 0,.ptr 1 0] (clH t n x s) K:=by
 unfold clT at h
 by_cases e:x.at'=0
 ·rw [e]at h;have h:(B3 t n x s).run _:=h;refine aK9 (root:=0) (pos:=[]) (cs:=[]) (parse:=clP t n) (fin:=ClO.fin t n) zR (aR.unpack (.clear t n x) 0 0 (mN t n x) [] rfl (congrArg (Prod.mk 0) rfl) (by kernel_rfl) rfl) ?_
  have q:=LH t n x s _ h;rw [<-e]at q;exact q
 rw [bI e]at h
 by_cases e:x.at'=1
 ·rw [e]at h;have h:(B4 t n x s).run _:=h;refine aK9 (root:=0) (pos:=[]) (cs:=[]) (parse:=clP t n) (fin:=ClO.fin t n) zR (aR.unpack (.clear t n x) 0 0 (mN t n x) [] rfl (congrArg (Prod.mk 0) rfl) (by kernel_rfl) rfl) ?_
  have q:=LI t n x s _ h;rw [<-e]at q;exact q
 rw [bI e]at h
 by_cases e:x.at'=2
 ·rw [e]at h;have h:(B5 t n x s).run _:=h;refine aK9 (root:=0) (pos:=[]) (cs:=[]) (parse:=clP t n) (fin:=ClO.fin t n) zR (aR.unpack (.clear t n x) 0 0 (mN t n x) [] rfl (congrArg (Prod.mk 0) rfl) (by kernel_rfl) rfl) ?_
  have q:=LJ t n x s _ h;rw [<-e]at q;exact q
 rw [bI e]at h
 by_cases e:x.at'=3
 ·rw [e]at h;have h:(B6 t n x s).run _:=h;refine aK9 (root:=0) (pos:=[]) (cs:=[]) (parse:=clP t n) (fin:=ClO.fin t n) zR (aR.unpack (.clear t n x) 0 0 (mN t n x) [] rfl (congrArg (Prod.mk 0) rfl) (by kernel_rfl) rfl) ?_
  have q:=LK t n x s _ h;rw [<-e]at q;exact q
 rw [bI e]at h;exact h.1.elim
noncomputable def clS:aI Ob:=fun args h=>match args,h with
 | [.ptr 0 0,.ptr 1 0],[some (.abs (.clear t n x) []),e1,e2]=>(match cO 2 [e1,e2]with
   | some (l,s)=>some (.pre (l=s.xs.length/\QM t n x s) (ClO.fin t n (pA t n x s)))
   | none=>none)
 | _,_=>none
theorem aG1:sT' 214 clS:=by
 intro args h o ho K g;unfold clS at ho;split at ho
 case h_2=>cases ho
 split at ho<;>cases ho
 rename_i hm;obtain⟨⟨hl,ok⟩,g⟩:=g;cases bC hm hl;exact XR _ _ _ _ K (aLf ok g)
def aDj(t n:Int)(v:AVal)(g:aB Ob):Option (Prop×CLS):=match v,g with
 | .ptr 0 0,[some (.cells [.int .i64 t1,.int .i64 n1,.int .i64 addr,.int .i64 at',.int .u64 word,.int .u64 found])]=>some ((t1=t/\n1=n),(⟨addr,at',word,found⟩:CLS))
 | _,_=>none
abbrev XN(t n:Int)(y:CLS):aB Ob:=[some (.abs (.clear t n y) [])]
theorem XO{t n:Int} :bP (obI tbl) 0 (aDj t n) (fun y=>.ret (.ptr 0 0) (XN t n y)):=by
 intro v g p x hp hq K hK;unfold aDj at hp;split at hp
 case h_2=>cases hp
 rename_i t1 n1 addr at' word found;cases hp;obtain⟨rfl,rfl⟩:=hq;exact⟨⟨_,_,aE.pack (XN t1 n1 (⟨addr,at',word,found⟩:CLS)) (.clear t1 n1 (⟨addr,at',word,found⟩:CLS)) 0 0 (mN t1 n1 (⟨addr,at',word,found⟩:CLS)) [] (by kernel_rfl) rfl (congrArg (Prod.mk 0) rfl) (by kernel_rfl),hK⟩⟩
def aDk(t n:Int)(a:Int):Tr CLS:=.pre (t=t/\n=n) (.ret {addr:=a,at':=0,word:=0,found:=0})
def zP(t n:Int)(a:Int):CLS:=(aDk t n a).val
def qQ(t n:Int)(a:Int):Prop:=(aDk t n a).ok
def clNS:aI Ob:=fun args h=>match args,h with
 | [.agg [.int .i64 t,.int .i64 n],.int .i64 a],[]=>some (.pre (qQ t n a) (.ret (.ptr 0 0) (XN t n (zP t n a))))
 | _,_=>none
theorem aDl:sT' 258 clNS:=by
 intro args h o ho K g;unfold clNS at ho;split at ho<;>cases ho
 rename_i t n a;obtain⟨ok,g⟩:=g;refine aLm (root:=0) (pos:=[]) (cs:=[]) (parse:=aDj t n) XO ?_;exact cM' (E:=EB3) (q:=(aDk t n a).run (fun y=>(Out.ret (.ptr 0 0) (XN t n y)).run K)) (by kernel_rfl) (aLf ok g)
noncomputable def EC1:=((EB3.addS 214 clS aG1).addS 258 clNS aDl)
def cmpI(a b:Int):Int:=bif ilt a b then -1 else bif ilt b a then 1 else 0
def orI(a b:Int):Int:=bif ieq a 0 then b else a
def EP(u n v m:Int):Int:=orI (cmpI n m) (cmpI u v)
def QO:bA Ob:=fun args h=>match args,h with
 | [.int .i64 a,.int .i64 b],[]=>some (True,.I (cmpI a b))
 | _,_=>none
theorem XS:sT' 280 QO.spec:=by
 intro args h o ho K g;unfold bA.spec QO at ho;split at ho
 case h_2=>cases ho
 rename_i p v hp;split at hp
 case h_2=>cases hp
 rename_i a b;cases hp;simp only [sI']at ho;subst ho;obtain⟨hp,g⟩:=g;have g:K (.I (cmpI a b)) []:=g;refine aK8 (cM' (E:=EC1) (q:=bif !ieq a a then bif !ieq b b then K (.I 0) []else K (.I (-1:Int)) []else bif !ieq b b then K (.I 1) []else bif ilt a b then K (.I (-1:Int)) []else bif ilt b a then K (.I 1) []else K (.I 0) []) (by kernel_rfl) ?_)
 unfold cmpI at g;rw [rF,rF];cases h:ilt a b with
 | true=>rw [h]at g;exact g
 | false=>cases h2:ilt b a<;>(rw [h,h2]at g;exact g)
def QQ:bA Ob:=fun args h=>match args,h with
 | [.int .u64 a,.int .u64 b],[]=>some (True,.I (cmpI a b))
 | _,_=>none
theorem XU:sT' 279 QQ.spec:=by
 intro args h o ho K g;unfold bA.spec QQ at ho;split at ho
 case h_2=>cases ho
 rename_i p v hp;split at hp
 case h_2=>cases hp
 rename_i a b;cases hp;simp only [sI']at ho;subst ho;obtain⟨hp,g⟩:=g;have g:K (.I (cmpI a b)) []:=g;refine aK8 (cM' (E:=EC1) (q:=bif !ieq a a then bif !ieq b b then K (.I 0) []else K (.I (-1:Int)) []else bif !ieq b b then K (.I 1) []else bif ilt a b then K (.I (-1:Int)) []else bif ilt b a then K (.I 1) []else K (.I 0) []) (by kernel_rfl) ?_)
 unfold cmpI at g;rw [rF,rF];cases h:ilt a b with
 | true=>rw [h]at g;exact g
 | false=>cases h2:ilt b a<;>(rw [h,h2]at g;exact g)
def QP:bA Ob:=fun args h=>match args,h with
 | [.slice 0 0 2 1],[some (.cells [.int .i64 a,.int .i64 b])]=>some (True,.I (orI a b))
 | _,_=>none
theorem XT:sT' 278 QP.spec:=by
 intro args h o ho K g;unfold bA.spec QP at ho;split at ho
 case h_2=>cases ho
 rename_i p v hp;split at hp
 case h_2=>cases hp
 rename_i a b;cases hp;simp only [sI']at ho;subst ho;obtain⟨hp,g⟩:=g;have g:K (.I (orI a b)) [cE' [.I a,.I b]]:=g;refine aK8 (cM' (E:=EC1) (q:=((0:Int)<=(0:Int)/\(0:Int)<(↑2:Int))/\bif !ieq a 0 then K (.I a) [cE' [.I a,.I b]]else((0:Int)<=W (0+1)/\W (0+1)<(↑2:Int))/\bif !ieq b 0 then K (.I b) [cE' [.I a,.I b]]else K (.I 0) [cE' [.I a,.I b]]) (by kernel_rfl) ?_)
 unfold orI at g;have e1:W (0+1)=1:=by decide
 simp only [W]at e1;simp only [W,e1];refine⟨by omega,?_⟩
 cases h:ieq a 0 with
 | false=>rw [h]at g;exact g
 | true=>
   rw [h]at g;refine⟨by omega,?_⟩
   cases h2:ieq b 0 with
   | false=>exact g
   | true=>
     have:b=0:=by rw [cA]at h2;simpa using h2
     subst this;exact g
noncomputable def EQ1:=((EC1.addR 280 QO XS).addR 279 QQ XU).addR 278 QP XT
def UE:bA Ob:=fun args h=>match args,h with
 | [.agg [.int .i64 u,.int .u64 n],.agg [.int .i64 v,.int .u64 m]],[]=>some (True,.I (EP u n v m))
 | _,_=>none
theorem aAZ:sT' 244 UE.spec:=by
 intro args h o ho K g;unfold bA.spec UE at ho;split at ho
 case h_2=>cases ho
 rename_i p v hp;split at hp
 case h_2=>cases hp
 rename_i u n v m;cases hp;simp only [sI']at ho;subst ho;obtain⟨hp,g⟩:=g;have g:K (.I (EP u n v m)) []:=g;refine aK8 (cM' (E:=EQ1) (q:=True/\True/\True/\K (.I (orI (cmpI n m) (cmpI u v))) []) (by kernel_rfl) ?_)
 exact⟨trivial,trivial,trivial,g⟩
noncomputable def EQ2:=EQ1.addR 244 UE aAZ
def AU(u n v m:Int):Bool:=!ile 0 (EP u n v m)
def H8:bA Ob:=fun args h=>match args,h with
 | [.slice 0 0 2 2],[some (.cells [.int .i64 u,.int .u64 n,.int .i64 v,.int .u64 m])]=>some (True,.bool (AU u n v m))
 | _,_=>none
theorem UF:sT' 195 H8.spec:=by
 intro args h o ho K g;unfold bA.spec H8 at ho;split at ho
 case h_2=>cases ho
 rename_i p v hp;split at hp
 case h_2=>cases hp
 rename_i u n v m;cases hp;simp only [sI']at ho;subst ho;obtain⟨hp,g⟩:=g;have g:K (.bool (AU u n v m)) [cE' [.I u,.int .u64 n,.I v,.int .u64 m]]:=g;refine aK8 (cM' (E:=EQ2) (q:=((0:Int)<=W (1 - 1)/\W (1 - 1)<(↑2:Int))/\((0:Int)<=(1:Int)/\(1:Int)<(↑2:Int))/\True/\bif ile 0 (EP u n v m)then K (.bool false) [cE' [.I u,.int .u64 n,.I v,.int .u64 m]]else K (.bool true) [cE' [.I u,.int .u64 n,.I v,.int .u64 m]]) (by kernel_rfl) ?_)
 have e1:W (1 - 1)=0:=by decide
 simp only [W]at e1;simp only [W,e1];refine⟨by omega,by omega,trivial,?_⟩
 unfold AU at g;cases h:ile 0 (EP u n v m)<;>(rw [h]at g;exact g)
noncomputable def EQ:=EQ2.addR 195 H8 UF
structure HdO where
 d:Bool
 x:HDS
 s:MS
instance:Inhabited HdO:=⟨⟨false,⟨0,0,0,false⟩,⟨0,0,[],0,0,0,0,0,false⟩⟩⟩
instance:Inhabited HDS:=⟨⟨0,0,0,false⟩⟩
abbrev hdH(t n:Int)(x:HDS)(s:MS):aB Ob:=[some (.abs (.head t n x) []),bF 2 s,bG s]
abbrev hdD(t n:Int)(x:HDS)(s:MS):aB Ob:=[cE' [.I t,.I n,.I x.u,.int .u64 x.no,.I x.at',.bool x.tk],bF 2 s,bG s]
def HdO.fin(t n:Int)(y:HdO):Out Ob:=.ite y.d (.ret (.bool true) (hdD t n y.x y.s)) (.ret (.bool false) (hdH t n y.x y.s))
def aEU(t n:Int)(v:AVal)(g:aB Ob):Option (Prop×HdO):=match v,g with
 | .bool d,[some (.cells [.int .i64 t1,.int .i64 n1,.int .i64 u,.int .u64 no,.int .i64 at',.bool tk]),e1,e2]=>(match cO 2 [e1,e2]with
   | some (l,s)=>some ((t1=t/\n1=n)/\l=s.xs.length,⟨d,⟨u,no,at',tk⟩,s⟩)
   | none=>none)
 | _,_=>none
def hdP(t n:Int)(v:AVal)(g:aB Ob):Option (Prop×HdO):=aEU t n v g
theorem Z8{t n:Int} :bP (obI tbl) 3 (aEU t n) (HdO.fin t n):=by
 intro v g p x hp hq K hK;unfold aEU at hp;split at hp
 case h_2=>cases hp
 rename_i d t1 n1 u no at' tk e1 e2;split at hp
 case h_2=>cases hp
 rename_i l s hm;cases hp;obtain⟨⟨rfl,rfl⟩,hl⟩:=hq;cases bC hm hl;refine rP hK (fun h=>?_) (fun h=>?_)
 ·exact⟨⟨_,_,aLo _ _ _,h⟩⟩
 ·exact⟨⟨_,_,(aE.pack (hdH t1 n1 (⟨u,no,at',tk⟩:HDS) s) (.head t1 n1 (⟨u,no,at',tk⟩:HDS)) 0 0 (AD t1 n1 (⟨u,no,at',tk⟩:HDS)) [] (by kernel_rfl) rfl (congrArg (Prod.mk 0) rfl) (by kernel_rfl)),h⟩⟩
theorem aEV{t n:Int} :bP (obI tbl) 3 (hdP t n) (HdO.fin t n):=by
 intro v g p x hp hq K hK;unfold hdP at hp;exact Z8 v g p x hp hq K hK
abbrev w0g(n t:Int)(x:HDS):=(((0:Int)<=t/\t<=(100000:Int))/\((0:Int)<=n/\n<=(100000:Int))/\(-1099511627776:Int)<=x.3/\x.3<=(1099511627776:Int))/\True
abbrev w0h(n:Int)(s:MS)(t:Int)(x:HDS):Tr HdO:=.ret {d:=ile t (W (x.3+1)),x:= {u:=x.3,no:=aF s.3 (2*n+5+2*t+3*x.3),at':=W (x.3+1),tk:=false},s:=(dY s (2*n+5+2*t+3*x.3)) }
def Z9(t n:Int)(x:HDS)(s:MS):Tr HdO:=.ite (!x.4) (.pre (w0g n t x) (.pre ((q9' s)/\True) (.pre True (.pre True (.ite (!oC (aC (aF s.3 (2*n+5+2*t+3*x.3+2)) 49 3)) (.pre ((t=t/\n=n)/\lE' s.3) (.ret {d:=ile t (W (x.3+1)),x:= {u:=x.1,no:=x.2,at':=W (x.3+1),tk:=false},s:=(dY s (2*n+5+2*t+3*x.3+2)) })) (.pre ((t=t/\n=n)/\lE' s.3) (.ret {d:=false,x:= {x with tk:=oC (aC (aF s.3 (2*n+5+2*t+3*x.3+2)) 49 3) },s:=(dY s (2*n+5+2*t+3*x.3+2)) }))))))) (.pre (w0g n t x) (.pre ((q9' s)/\True) (.ite (ilt x.1 0) (.pre ((t=t/\n=n)/\lE' s.3) (w0h n s t x)) (.pre True (.ite (AU x.3 (aF s.3 (2*n+5+2*t+3*x.3)) x.1 x.2) (.pre ((t=t/\n=n)/\lE' s.3) (w0h n s t x)) (.pre ((t=t/\n=n)/\lE' s.3) (.ret {d:=ile t (W (x.3+1)),x:= {u:=x.1,no:=x.2,at':=W (x.3+1),tk:=false},s:=(dY s (2*n+5+2*t+3*x.3)) })))))))
theorem SM(t n:Int)(x:HDS)(s:MS)(K:HdO->Prop)(h:(Z9 t n x s).run K):cT' 150 [.ptr 0 0,.ptr 1 0] [cE' [.I t,.I n,.I x.u,.int .u64 x.no,.I x.at',.bool x.tk],bF 2 s,bG s] (eU 3 0 [] [] (hdP t n) K):=by
 exact cM' (E:=EQ) (by kernel_rfl) h
def hdT(t n:Int)(x:HDS)(s:MS):Tr HdO:=Z9 t n x s
def qL(t n:Int)(x:HDS)(s:MS):HdO:=(hdT t n x s).val
def aET(t n:Int)(x:HDS)(s:MS):Prop:=(hdT t n x s).ok
theorem aAa(t n:Int)(x:HDS)(s:MS)(K:AVal->aB Ob->Prop)(h:(hdT t n x s).run (fun y=>(HdO.fin t n y).run K)):cT' 150 [.ptr 0 0,.ptr 1 0] (hdH t n x s) K:=by
 unfold hdT at h;exact aK9 (root:=0) (pos:=[]) (cs:=[]) (parse:=hdP t n) (fin:=HdO.fin t n) aEV (aR.unpack (.head t n x) 0 0 (AD t n x) [] rfl (congrArg (Prod.mk 0) rfl) (by kernel_rfl) rfl) (SM t n x s _ h)
noncomputable def hdS:aI Ob:=fun args h=>match args,h with
 | [.ptr 0 0,.ptr 1 0],[some (.abs (.head t n x) []),e1,e2]=>(match cO 2 [e1,e2]with
   | some (l,s)=>some (.pre (l=s.xs.length/\aET t n x s) (HdO.fin t n (qL t n x s)))
   | none=>none)
 | _,_=>none
theorem aH2:sT' 150 hdS:=by
 intro args h o ho K g;unfold hdS at ho;split at ho
 case h_2=>cases ho
 split at ho<;>cases ho
 rename_i hm;obtain⟨⟨hl,ok⟩,g⟩:=g;cases bC hm hl;exact aAa _ _ _ _ K (aLf ok g)
def aEQ(t n:Int)(v:AVal)(g:aB Ob):Option (Prop×HDS):=match v,g with
 | .ptr 0 0,[some (.cells [.int .i64 t1,.int .i64 n1,.int .i64 u,.int .u64 no,.int .i64 at',.bool tk])]=>some ((t1=t/\n1=n),(⟨u,no,at',tk⟩:HDS))
 | _,_=>none
abbrev Z5(t n:Int)(y:HDS):aB Ob:=[some (.abs (.head t n y) [])]
theorem Z6{t n:Int} :bP (obI tbl) 0 (aEQ t n) (fun y=>.ret (.ptr 0 0) (Z5 t n y)):=by
 intro v g p x hp hq K hK;unfold aEQ at hp;split at hp
 case h_2=>cases hp
 rename_i t1 n1 u no at' tk;cases hp;obtain⟨rfl,rfl⟩:=hq;exact⟨⟨_,_,aE.pack (Z5 t1 n1 (⟨u,no,at',tk⟩:HDS)) (.head t1 n1 (⟨u,no,at',tk⟩:HDS)) 0 0 (AD t1 n1 (⟨u,no,at',tk⟩:HDS)) [] (by kernel_rfl) rfl (congrArg (Prod.mk 0) rfl) (by kernel_rfl),hK⟩⟩
def aER(t n:Int):Tr HDS:=.pre (t=t/\n=n) (.ret {u:= -1,no:=0,at':=0,tk:=false})
def aEP(t n:Int):HDS:=(aER t n).val
def SL(t n:Int):Prop:=(aER t n).ok
def hdNS:aI Ob:=fun args h=>match args,h with
 | [.agg [.int .i64 t,.int .i64 n]],[]=>some (.pre (SL t n) (.ret (.ptr 0 0) (Z5 t n (aEP t n))))
 | _,_=>none
theorem aES:sT' 128 hdNS:=by
 intro args h o ho K g;unfold hdNS at ho;split at ho<;>cases ho
 rename_i t n;obtain⟨ok,g⟩:=g;refine aLm (root:=0) (pos:=[]) (cs:=[]) (parse:=aEQ t n) Z6 ?_;exact cM' (E:=EQ) (q:=(aER t n).run (fun y=>(Out.ret (.ptr 0 0) (Z5 t n y)).run K)) (by kernel_rfl) (aLf ok g)
noncomputable def EC2:=((EQ.addS 150 hdS aH2).addS 128 hdNS aES)
structure DrO where
 d:Bool
 x:DRS
 s:MS
instance:Inhabited DrO:=⟨⟨false,⟨0,0⟩,⟨0,0,[],0,0,0,0,0,false⟩⟩⟩
instance:Inhabited DRS:=⟨⟨0,0⟩⟩
abbrev drH(t n:Int)(x:DRS)(s:MS):aB Ob:=[some (.abs (.drop t n x) []),bF 2 s,bG s]
abbrev drD(t n:Int)(x:DRS)(s:MS):aB Ob:=[cE' [.I t,.I n,.I x.th,.I x.at'],bF 2 s,bG s]
def DrO.fin(t n:Int)(y:DrO):Out Ob:=.ite y.d (.ret (.bool true) (drD t n y.x y.s)) (.ret (.bool false) (drH t n y.x y.s))
def aDL(t n:Int)(v:AVal)(g:aB Ob):Option (Prop×DrO):=match v,g with
 | .bool d,[some (.cells [.int .i64 t1,.int .i64 n1,.int .i64 th,.int .i64 at']),e1,e2]=>(match cO 2 [e1,e2]with
   | some (l,s)=>some ((t1=t/\n1=n)/\l=s.xs.length,⟨d,⟨th,at'⟩,s⟩)
   | none=>none)
 | _,_=>none
def drP(t n:Int)(v:AVal)(g:aB Ob):Option (Prop×DrO):=aDL t n v g
theorem YM{t n:Int} :bP (obI tbl) 3 (aDL t n) (DrO.fin t n):=by
 intro v g p x hp hq K hK;unfold aDL at hp;split at hp
 case h_2=>cases hp
 rename_i d t1 n1 th at' e1 e2;split at hp
 case h_2=>cases hp
 rename_i l s hm;cases hp;obtain⟨⟨rfl,rfl⟩,hl⟩:=hq;cases bC hm hl;refine rP hK (fun h=>?_) (fun h=>?_)
 ·exact⟨⟨_,_,aLo _ _ _,h⟩⟩
 ·exact⟨⟨_,_,(aE.pack (drH t1 n1 (⟨th,at'⟩:DRS) s) (.drop t1 n1 (⟨th,at'⟩:DRS)) 0 0 (zV t1 n1 (⟨th,at'⟩:DRS)) [] (by kernel_rfl) rfl (congrArg (Prod.mk 0) rfl) (by kernel_rfl)),h⟩⟩
theorem aDM{t n:Int} :bP (obI tbl) 3 (drP t n) (DrO.fin t n):=by
 intro v g p x hp hq K hK;unfold drP at hp;exact YM v g p x hp hq K hK
def YN(t n:Int)(x:DRS)(s:MS):Tr DrO:=.pre ((((0:Int)<=t/\t<=(100000:Int))/\((0:Int)<=n/\n<=(100000:Int))/\((-1099511627776:Int)<=x.1/\x.1<=(1099511627776:Int))/\(-1099511627776:Int)<=x.2/\x.2<=(1099511627776:Int))/\True) (.pre ((q9' s)/\True) (.pre ((t=t/\n=n)/\lE' (aZ s.3 (2*n+5+2*x.1+x.2) 0)) (.ret {d:=ile 2 (W (x.2+1)),x:= {th:=x.1,at':=W (x.2+1) },s:=(O1 s 2 (2*n+5+2*x.1+x.2) 0) })))
theorem Q0(t n:Int)(x:DRS)(s:MS)(K:DrO->Prop)(h:(YN t n x s).run K):cT' 166 [.ptr 0 0,.ptr 1 0] [cE' [.I t,.I n,.I x.th,.I x.at'],bF 2 s,bG s] (eU 3 0 [] [] (drP t n) K):=by
 exact cM' (E:=EC2) (by kernel_rfl) h
def drT(t n:Int)(x:DRS)(s:MS):Tr DrO:=YN t n x s
def VT(t n:Int)(x:DRS)(s:MS):DrO:=(drT t n x s).val
def aDK(t n:Int)(x:DRS)(s:MS):Prop:=(drT t n x s).ok
theorem YO(t n:Int)(x:DRS)(s:MS)(K:AVal->aB Ob->Prop)(h:(drT t n x s).run (fun y=>(DrO.fin t n y).run K)):cT' 166 [.ptr 0 0,.ptr 1 0] (drH t n x s) K:=by
 unfold drT at h;exact aK9 (root:=0) (pos:=[]) (cs:=[]) (parse:=drP t n) (fin:=DrO.fin t n) aDM (aR.unpack (.drop t n x) 0 0 (zV t n x) [] rfl (congrArg (Prod.mk 0) rfl) (by kernel_rfl) rfl) (Q0 t n x s _ h)
noncomputable def drS:aI Ob:=fun args h=>match args,h with
 | [.ptr 0 0,.ptr 1 0],[some (.abs (.drop t n x) []),e1,e2]=>(match cO 2 [e1,e2]with
   | some (l,s)=>some (.pre (l=s.xs.length/\aDK t n x s) (DrO.fin t n (VT t n x s)))
   | none=>none)
 | _,_=>none
theorem aG7:sT' 166 drS:=by
 intro args h o ho K g;unfold drS at ho;split at ho
 case h_2=>cases ho
 split at ho<;>cases ho
 rename_i hm;obtain⟨⟨hl,ok⟩,g⟩:=g;cases bC hm hl;exact YO _ _ _ _ K (aLf ok g)
def aDH(t n:Int)(v:AVal)(g:aB Ob):Option (Prop×DRS):=match v,g with
 | .ptr 0 0,[some (.cells [.int .i64 t1,.int .i64 n1,.int .i64 th,.int .i64 at'])]=>some ((t1=t/\n1=n),(⟨th,at'⟩:DRS))
 | _,_=>none
abbrev YJ(t n:Int)(y:DRS):aB Ob:=[some (.abs (.drop t n y) [])]
theorem YK{t n:Int} :bP (obI tbl) 0 (aDH t n) (fun y=>.ret (.ptr 0 0) (YJ t n y)):=by
 intro v g p x hp hq K hK;unfold aDH at hp;split at hp
 case h_2=>cases hp
 rename_i t1 n1 th at';cases hp;obtain⟨rfl,rfl⟩:=hq;exact⟨⟨_,_,aE.pack (YJ t1 n1 (⟨th,at'⟩:DRS)) (.drop t1 n1 (⟨th,at'⟩:DRS)) 0 0 (zV t1 n1 (⟨th,at'⟩:DRS)) [] (by kernel_rfl) rfl (congrArg (Prod.mk 0) rfl) (by kernel_rfl),hK⟩⟩
def aDI(t n:Int)(u:Int):Tr DRS:=.pre (t=t/\n=n) (.ret {th:=u,at':=0})
def CL(t n:Int)(u:Int):DRS:=(aDI t n u).val
def tE(t n:Int)(u:Int):Prop:=(aDI t n u).ok
def drNS:aI Ob:=fun args h=>match args,h with
 | [.agg [.int .i64 t,.int .i64 n],.int .i64 u],[]=>some (.pre (tE t n u) (.ret (.ptr 0 0) (YJ t n (CL t n u))))
 | _,_=>none
theorem aDJ:sT' 233 drNS:=by
 intro args h o ho K g;unfold drNS at ho;split at ho<;>cases ho
 rename_i t n u;obtain⟨ok,g⟩:=g;refine aLm (root:=0) (pos:=[]) (cs:=[]) (parse:=aDH t n) YK ?_;exact cM' (E:=EC2) (q:=(aDI t n u).run (fun y=>(Out.ret (.ptr 0 0) (YJ t n y)).run K)) (by kernel_rfl) (aLf ok g)
noncomputable def EC3:=((EC2.addS 166 drS aG7).addS 233 drNS aDJ)
structure AnO where
 d:Bool
 x:ANS
 s:MS
instance:Inhabited AnO:=⟨⟨false,⟨0,0,0,0,false,0⟩,⟨0,0,[],0,0,0,0,0,false⟩⟩⟩
instance:Inhabited ANS:=⟨⟨0,0,0,0,false,0⟩⟩
abbrev anH(t n:Int)(x:ANS)(s:MS):aB Ob:=[some (.abs (.announce t n x) []),bF 2 s,bG s]
abbrev anD(t n:Int)(x:ANS)(s:MS):aB Ob:=[cE' [.I t,.I n,.int .u64 x.no,.I x.me,.I x.at',.int .u64 x.bits,.bool x.wrong,.int .u64 x.found],bF 2 s,bG s]
def AnO.fin(t n:Int)(y:AnO):Out Ob:=.ite y.d (.ret (.bool true) (anD t n y.x y.s)) (.ret (.bool false) (anH t n y.x y.s))
def aCO(t n:Int)(v:AVal)(g:aB Ob):Option (Prop×AnO):=match v,g with
 | .bool d,[some (.cells [.int .i64 t1,.int .i64 n1,.int .u64 no,.int .i64 me,.int .i64 at',.int .u64 bits,.bool wrong,.int .u64 found]),e1,e2]=>(match cO 2 [e1,e2]with
   | some (l,s)=>some ((t1=t/\n1=n)/\l=s.xs.length,⟨d,⟨no,me,at',bits,wrong,found⟩,s⟩)
   | none=>none)
 | _,_=>none
def anP(t n:Int)(v:AVal)(g:aB Ob):Option (Prop×AnO):=aCO t n v g
theorem WQ{t n:Int} :bP (obI tbl) 3 (aCO t n) (AnO.fin t n):=by
 intro v g p x hp hq K hK;unfold aCO at hp;split at hp
 case h_2=>cases hp
 rename_i d t1 n1 no me at' bits wrong found e1 e2;split at hp
 case h_2=>cases hp
 rename_i l s hm;cases hp;obtain⟨⟨rfl,rfl⟩,hl⟩:=hq;cases bC hm hl;refine rP hK (fun h=>?_) (fun h=>?_)
 ·exact⟨⟨_,_,aLo _ _ _,h⟩⟩
 ·exact⟨⟨_,_,(aE.pack (anH t1 n1 (⟨no,me,at',bits,wrong,found⟩:ANS) s) (.announce t1 n1 (⟨no,me,at',bits,wrong,found⟩:ANS)) 0 0 (eW t1 n1 (⟨no,me,at',bits,wrong,found⟩:ANS)) [] (by kernel_rfl) rfl (congrArg (Prod.mk 0) rfl) (by kernel_rfl)),h⟩⟩
theorem u5{t n:Int} :bP (obI tbl) 3 (anP t n) (AnO.fin t n):=by
 intro v g p x hp hq K hK;unfold anP at hp;exact WQ v g p x hp hq K hK
abbrev w0i(n t:Int)(x:ANS):=(((0:Int)<=t/\t<=(100000:Int))/\((0:Int)<=n/\n<=(100000:Int))/\(-1099511627776:Int)<=x.2/\x.2<=(1099511627776:Int))/\True
def BO(t n:Int)(x:ANS)(s:MS):Tr AnO:=.ite x.5 (.pre (q9' s) (.pre ((t=t/\n=n)/\lE' s.3) (.ret {d:=true,x:= {x with at':=0},s:=(dY s 0) }))) (.pre (w0i n t x) (.pre ((q9' s)/\True) (.pre ((t=t/\n=n)/\lE' (aZ s.3 (2*n+5+2*t+3*x.2+1) x.4)) (.ret {d:=false,x:= {x with at':=W (0+1)},s:=(O1 s 2 (2*n+5+2*t+3*x.2+1) x.4) }))))
abbrev P4(F:Int->Int->ANS->MS->Tr AnO)(a:Int):Prop:= ∀(t n:Int) (x:ANS) (s:MS) (K:AnO->Prop) (h:(F t n x s).run K),cT' 158 [.ptr 0 0,.ptr 1 0] [cE' [.I t,.I n,.int .u64 x.no,.I x.me,.I a,.int .u64 x.bits,.bool x.wrong,.int .u64 x.found],bF 2 s,bG s] (eU 3 0 [] [] (anP t n) K)
theorem KX:P4 BO 0:=by
 intro t n x s K h;exact cM' (E:=EC3) (by kernel_rfl) h
def BP(t n:Int)(x:ANS)(s:MS):Tr AnO:=.ite x.5 (.pre (q9' s) (.pre ((t=t/\n=n)/\lE' s.3) (.ret {d:=true,x:= {x with at':=1},s:=(dY s 0) }))) (.pre (((0:Int)<=t/\t<=(100000:Int))/\(0:Int)<=n/\n<=(100000:Int)) (.pre (q9' s) (.pre ((t=t/\n=n)/\lE' (aZ s.3 (2*n+5+2*t+3*t) (WU (aF s.3 (2*n+5+2*t+3*t)+1)))) (.ret {d:=false,x:= {x with no:=WU (aF s.3 (2*n+5+2*t+3*t)+1),at':=W (1+1)},s:=(O1 s 4 (2*n+5+2*t+3*t) (WU (aF s.3 (2*n+5+2*t+3*t)+1))) }))))
theorem KY:P4 BP 1:=by
 intro t n x s K h;exact cM' (E:=EC3) (by kernel_rfl) h
def BQ(t n:Int)(x:ANS)(s:MS):Tr AnO:=.ite x.5 (.pre (q9' s) (.pre ((t=t/\n=n)/\lE' s.3) (.ret {d:=true,x:= {x with at':=2},s:=(dY s 0) }))) (.pre (w0i n t x) (.pre ((q9' s)/\True) (.pre ((t=t/\n=n)/\lE' (aZ s.3 (2*n+5+2*t+3*x.2) x.1)) (.ret {d:=false,x:= {x with at':=W (2+1)},s:=(O1 s 2 (2*n+5+2*t+3*x.2) x.1) }))))
theorem KZ:P4 BQ 2:=by
 intro t n x s K h;exact cM' (E:=EC3) (by kernel_rfl) h
def BR(t n:Int)(x:ANS)(s:MS):Tr AnO:=.ite x.5 (.pre (q9' s) (.pre ((t=t/\n=n)/\lE' s.3) (.ret {d:=true,x:= {x with at':=3},s:=(dY s 0) }))) (.pre (w0i n t x) (.pre ((q9' s)/\True) (.pre ((t=t/\n=n)/\lE' s.3) (.ret {d:=false,x:= {x with at':=W (3+1),found:=aF s.3 (2*n+5+2*t+3*x.2+2) },s:=(dY s (2*n+5+2*t+3*x.2+2)) }))))
theorem K1:P4 BR 3:=by
 intro t n x s K h;exact cM' (E:=EC3) (by kernel_rfl) h
def BS(t n:Int)(x:ANS)(s:MS):Tr AnO:=.ite x.5 (.pre (q9' s) (.pre ((t=t/\n=n)/\lE' s.3) (.ret {d:=true,x:= {x with at':=4},s:=(dY s 0) }))) (.pre True (.pre ((0:Int)<=aC x.6 0 12/\aC x.6 0 (12:Int)<=(1000000:Int)) (.pre True (.pre (w0i n t x) (.pre ((q9' s)/\True) (.pre ((t=t/\n=n)/\lE' (aZ s.3 (2*n+5+2*t+3*x.2+2) (bif dOk (hM (aC x.6 0 12)) 0 0 0 1 0 then cW (hM (aC x.6 0 12)) 0 0 0 false 1 0 else 0))) (.ret {d:=true,x:= {x with at':=W (4+1)},s:=(O1 s 2 (2*n+5+2*t+3*x.2+2) (bif dOk (hM (aC x.6 0 12)) 0 0 0 1 0 then cW (hM (aC x.6 0 12)) 0 0 0 false 1 0 else 0)) })))))))
theorem K2:P4 BS 4:=by
 intro t n x s K h;exact cM' (E:=EC3) (by kernel_rfl) h
def anT(t n:Int)(x:ANS)(s:MS):Tr AnO:=
 bif ieq x.at' 0 then BO t n x s else
 bif ieq x.at' 1 then BP t n x s else
 bif ieq x.at' 2 then BQ t n x s else
 bif ieq x.at' 3 then BR t n x s else
 bif ieq x.at' 4 then BS t n x s else .pre False (.ret default)
def F6(t n:Int)(x:ANS)(s:MS):AnO:=(anT t n x s).val
def aCN(t n:Int)(x:ANS)(s:MS):Prop:=(anT t n x s).ok
theorem WR(t n:Int)(x:ANS)(s:MS)(K:AVal->aB Ob->Prop)(h:(anT t n x s).run (fun y=>(AnO.fin t n y).run K)):cT' 158 [.ptr 0 0,.ptr 1 0] (anH t n x s) K:=by
 unfold anT at h
 by_cases e:x.at'=0
 ·rw [e]at h;have h:(BO t n x s).run _:=h;refine aK9 (root:=0) (pos:=[]) (cs:=[]) (parse:=anP t n) (fin:=AnO.fin t n) u5 (aR.unpack (.announce t n x) 0 0 (eW t n x) [] rfl (congrArg (Prod.mk 0) rfl) (by kernel_rfl) rfl) ?_
  have q:=KX t n x s _ h;rw [<-e]at q;exact q
 rw [bI e]at h
 by_cases e:x.at'=1
 ·rw [e]at h;have h:(BP t n x s).run _:=h;refine aK9 (root:=0) (pos:=[]) (cs:=[]) (parse:=anP t n) (fin:=AnO.fin t n) u5 (aR.unpack (.announce t n x) 0 0 (eW t n x) [] rfl (congrArg (Prod.mk 0) rfl) (by kernel_rfl) rfl) ?_
  have q:=KY t n x s _ h;rw [<-e]at q;exact q
 rw [bI e]at h
 by_cases e:x.at'=2
 ·rw [e]at h;have h:(BQ t n x s).run _:=h;refine aK9 (root:=0) (pos:=[]) (cs:=[]) (parse:=anP t n) (fin:=AnO.fin t n) u5 (aR.unpack (.announce t n x) 0 0 (eW t n x) [] rfl (congrArg (Prod.mk 0) rfl) (by kernel_rfl) rfl) ?_
  have q:=KZ t n x s _ h;rw [<-e]at q;exact q
 rw [bI e]at h
 by_cases e:x.at'=3
 ·rw [e]at h;have h:(BR t n x s).run _:=h;refine aK9 (root:=0) (pos:=[]) (cs:=[]) (parse:=anP t n) (fin:=AnO.fin t n) u5 (aR.unpack (.announce t n x) 0 0 (eW t n x) [] rfl (congrArg (Prod.mk 0) rfl) (by kernel_rfl) rfl) ?_
  have q:=K1 t n x s _ h;rw [<-e]at q;exact q
 rw [bI e]at h
 by_cases e:x.at'=4
 ·rw [e]at h;have h:(BS t n x s).run _:=h;refine aK9 (root:=0) (pos:=[]) (cs:=[]) (parse:=anP t n) (fin:=AnO.fin t n) u5 (aR.unpack (.announce t n x) 0 0 (eW t n x) [] rfl (congrArg (Prod.mk 0) rfl) (by kernel_rfl) rfl) ?_
  have q:=K2 t n x s _ h;rw [<-e]at q;exact q
 rw [bI e]at h;exact h.1.elim
noncomputable def anS:aI Ob:=fun args h=>match args,h with
 | [.ptr 0 0,.ptr 1 0],[some (.abs (.announce t n x) []),e1,e2]=>(match cO 2 [e1,e2]with
   | some (l,s)=>some (.pre (l=s.xs.length/\aCN t n x s) (AnO.fin t n (F6 t n x s)))
   | none=>none)
 | _,_=>none
theorem aGN:sT' 158 anS:=by
 intro args h o ho K g;unfold anS at ho;split at ho
 case h_2=>cases ho
 split at ho<;>cases ho
 rename_i hm;obtain⟨⟨hl,ok⟩,g⟩:=g;cases bC hm hl;exact WR _ _ _ _ K (aLf ok g)
def aCK(t n:Int)(v:AVal)(g:aB Ob):Option (Prop×ANS):=match v,g with
 | .ptr 0 0,[some (.cells [.int .i64 t1,.int .i64 n1,.int .u64 no,.int .i64 me,.int .i64 at',.int .u64 bits,.bool wrong,.int .u64 found])]=>some ((t1=t/\n1=n),(⟨no,me,at',bits,wrong,found⟩:ANS))
 | _,_=>none
abbrev WN(t n:Int)(y:ANS):aB Ob:=[some (.abs (.announce t n y) [])]
theorem WO{t n:Int} :bP (obI tbl) 0 (aCK t n) (fun y=>.ret (.ptr 0 0) (WN t n y)):=by
 intro v g p x hp hq K hK;unfold aCK at hp;split at hp
 case h_2=>cases hp
 rename_i t1 n1 no me at' bits wrong found;cases hp;obtain⟨rfl,rfl⟩:=hq;exact⟨⟨_,_,aE.pack (WN t1 n1 (⟨no,me,at',bits,wrong,found⟩:ANS)) (.announce t1 n1 (⟨no,me,at',bits,wrong,found⟩:ANS)) 0 0 (eW t1 n1 (⟨no,me,at',bits,wrong,found⟩:ANS)) [] (by kernel_rfl) rfl (congrArg (Prod.mk 0) rfl) (by kernel_rfl),hK⟩⟩
def aCL(t n:Int)(u sh kd ky:Int):Tr ANS:=.pre True (.pre (t=t/\n=n) (.ret {no:=0,me:=u,at':=0,bits:=bif bU sh kd ky then tskV sh kd ky else 0,wrong:=!ieq (bif bU sh kd ky then 0 else 1) 0,found:=0}))
def aCJ(t n:Int)(u sh kd ky:Int):ANS:=(aCL t n u sh kd ky).val
def P3(t n:Int)(u sh kd ky:Int):Prop:=(aCL t n u sh kd ky).ok
def anNS:aI Ob:=fun args h=>match args,h with
 | [.agg [.int .i64 t,.int .i64 n],.int .i64 u,.agg [.int .i64 sh,.int .i64 kd,.int .i64 ky]],[]=>some (.pre (P3 t n u sh kd ky) (.ret (.ptr 0 0) (WN t n (aCJ t n u sh kd ky))))
 | _,_=>none
theorem aCM:sT' 220 anNS:=by
 intro args h o ho K g;unfold anNS at ho;split at ho<;>cases ho
 rename_i t n u sh kd ky;obtain⟨ok,g⟩:=g;refine aLm (root:=0) (pos:=[]) (cs:=[]) (parse:=aCK t n) WO ?_;exact cM' (E:=EC3) (q:=(aCL t n u sh kd ky).run (fun y=>(Out.ret (.ptr 0 0) (WN t n y)).run K)) (by kernel_rfl) (aLf ok g)
noncomputable def EC4:=((EC3.addS 158 anS aGN).addS 220 anNS aCM)
structure AwO where
 d:Bool
 x:AWS
 s:MS
instance:Inhabited AwO:=⟨⟨false,⟨0,false,0,0⟩,⟨0,0,[],0,0,0,0,0,false⟩⟩⟩
instance:Inhabited AWS:=⟨⟨0,false,0,0⟩⟩
abbrev awH(t n:Int)(x:AWS)(s:MS):aB Ob:=[some (.abs (.answer t n x) []),bF 2 s,bG s]
abbrev awD(t n:Int)(x:AWS)(s:MS):aB Ob:=[cE' [.I t,.I n,.I x.code,.bool x.okk,.I x.val,.I x.me],bF 2 s,bG s]
def AwO.fin(t n:Int)(y:AwO):Out Ob:=.ite y.d (.ret (.bool true) (awD t n y.x y.s)) (.ret (.bool false) (awH t n y.x y.s))
def aDb(t n:Int)(v:AVal)(g:aB Ob):Option (Prop×AwO):=match v,g with
 | .bool d,[some (.cells [.int .i64 t1,.int .i64 n1,.int .i64 code,.bool okk,.int .i64 val,.int .i64 me]),e1,e2]=>(match cO 2 [e1,e2]with
   | some (l,s)=>some ((t1=t/\n1=n)/\l=s.xs.length,⟨d,⟨code,okk,val,me⟩,s⟩)
   | none=>none)
 | _,_=>none
def awP(t n:Int)(v:AVal)(g:aB Ob):Option (Prop×AwO):=aDb t n v g
theorem XI{t n:Int} :bP (obI tbl) 3 (aDb t n) (AwO.fin t n):=by
 intro v g p x hp hq K hK;unfold aDb at hp;split at hp
 case h_2=>cases hp
 rename_i d t1 n1 code okk val me e1 e2;split at hp
 case h_2=>cases hp
 rename_i l s hm;cases hp;obtain⟨⟨rfl,rfl⟩,hl⟩:=hq;cases bC hm hl;refine rP hK (fun h=>?_) (fun h=>?_)
 ·exact⟨⟨_,_,aLo _ _ _,h⟩⟩
 ·exact⟨⟨_,_,(aE.pack (awH t1 n1 (⟨code,okk,val,me⟩:AWS) s) (.answer t1 n1 (⟨code,okk,val,me⟩:AWS)) 0 0 (qN t1 n1 (⟨code,okk,val,me⟩:AWS)) [] (by kernel_rfl) rfl (congrArg (Prod.mk 0) rfl) (by kernel_rfl)),h⟩⟩
theorem aDc{t n:Int} :bP (obI tbl) 3 (awP t n) (AwO.fin t n):=by
 intro v g p x hp hq K hK;unfold awP at hp;exact XI v g p x hp hq K hK
abbrev w0j(n:Int)(s:MS)(t:Int)(x:AWS):=aF s.3 (2*n+5+2*t+3*x.4+2)
def XJ(t n:Int)(x:AWS)(s:MS):Tr AwO:=.pre ((((0:Int)<=t/\t<=(100000:Int))/\((0:Int)<=n/\n<=(100000:Int))/\(-1099511627776:Int)<=x.4/\x.4<=(1099511627776:Int))/\True) (.pre ((q9' s)/\True) (.pre True (.pre True (.pre ((t=t/\n=n)/\lE' s.3) (.ret {d:=true,x:= {code:=resC (aC (w0j n s t x) 39 9) (aC (w0j n s t x) 49 3),okk:=aA1 (aC (w0j n s t x) 39 9) (aC (w0j n s t x) 49 3) (ieq (aC (w0j n s t x) 48 1) 1),val:=aA2 (aC (w0j n s t x) 39 9) (aC (w0j n s t x) 49 3) (aC (w0j n s t x) 52 10),me:=x.4},s:=(dY s (2*n+5+2*t+3*x.4+2)) })))))
theorem QG(t n:Int)(x:AWS)(s:MS)(K:AwO->Prop)(h:(XJ t n x s).run K):cT' 161 [.ptr 0 0,.ptr 1 0] [cE' [.I t,.I n,.I x.code,.bool x.okk,.I x.val,.I x.me],bF 2 s,bG s] (eU 3 0 [] [] (awP t n) K):=by
 exact cM' (E:=EC4) (by kernel_rfl) h
def awT(t n:Int)(x:AWS)(s:MS):Tr AwO:=XJ t n x s
def tC(t n:Int)(x:AWS)(s:MS):AwO:=(awT t n x s).val
def aDa(t n:Int)(x:AWS)(s:MS):Prop:=(awT t n x s).ok
theorem XK(t n:Int)(x:AWS)(s:MS)(K:AVal->aB Ob->Prop)(h:(awT t n x s).run (fun y=>(AwO.fin t n y).run K)):cT' 161 [.ptr 0 0,.ptr 1 0] (awH t n x s) K:=by
 unfold awT at h;exact aK9 (root:=0) (pos:=[]) (cs:=[]) (parse:=awP t n) (fin:=AwO.fin t n) aDc (aR.unpack (.answer t n x) 0 0 (qN t n x) [] rfl (congrArg (Prod.mk 0) rfl) (by kernel_rfl) rfl) (QG t n x s _ h)
noncomputable def awS:aI Ob:=fun args h=>match args,h with
 | [.ptr 0 0,.ptr 1 0],[some (.abs (.answer t n x) []),e1,e2]=>(match cO 2 [e1,e2]with
   | some (l,s)=>some (.pre (l=s.xs.length/\aDa t n x s) (AwO.fin t n (tC t n x s)))
   | none=>none)
 | _,_=>none
theorem aGX:sT' 161 awS:=by
 intro args h o ho K g;unfold awS at ho;split at ho
 case h_2=>cases ho
 split at ho<;>cases ho
 rename_i hm;obtain⟨⟨hl,ok⟩,g⟩:=g;cases bC hm hl;exact XK _ _ _ _ K (aLf ok g)
def aC7(t n:Int)(v:AVal)(g:aB Ob):Option (Prop×AWS):=match v,g with
 | .ptr 0 0,[some (.cells [.int .i64 t1,.int .i64 n1,.int .i64 code,.bool okk,.int .i64 val,.int .i64 me])]=>some ((t1=t/\n1=n),(⟨code,okk,val,me⟩:AWS))
 | _,_=>none
abbrev XF(t n:Int)(y:AWS):aB Ob:=[some (.abs (.answer t n y) [])]
theorem XG{t n:Int} :bP (obI tbl) 0 (aC7 t n) (fun y=>.ret (.ptr 0 0) (XF t n y)):=by
 intro v g p x hp hq K hK;unfold aC7 at hp;split at hp
 case h_2=>cases hp
 rename_i t1 n1 code okk val me;cases hp;obtain⟨rfl,rfl⟩:=hq;exact⟨⟨_,_,aE.pack (XF t1 n1 (⟨code,okk,val,me⟩:AWS)) (.answer t1 n1 (⟨code,okk,val,me⟩:AWS)) 0 0 (qN t1 n1 (⟨code,okk,val,me⟩:AWS)) [] (by kernel_rfl) rfl (congrArg (Prod.mk 0) rfl) (by kernel_rfl),hK⟩⟩
def aC8(t n:Int)(u:Int):Tr AWS:=.pre (t=t/\n=n) (.ret {code:=0,okk:=false,val:=0,me:=u})
def aC6(t n:Int)(u:Int):AWS:=(aC8 t n u).val
def QC(t n:Int)(u:Int):Prop:=(aC8 t n u).ok
def awNS:aI Ob:=fun args h=>match args,h with
 | [.agg [.int .i64 t,.int .i64 n],.int .i64 u],[]=>some (.pre (QC t n u) (.ret (.ptr 0 0) (XF t n (aC6 t n u))))
 | _,_=>none
theorem aC9:sT' 160 awNS:=by
 intro args h o ho K g;unfold awNS at ho;split at ho<;>cases ho
 rename_i t n u;obtain⟨ok,g⟩:=g;refine aLm (root:=0) (pos:=[]) (cs:=[]) (parse:=aC7 t n) XG ?_;exact cM' (E:=EC4) (q:=(aC8 t n u).run (fun y=>(Out.ret (.ptr 0 0) (XF t n y)).run K)) (by kernel_rfl) (aLf ok g)
noncomputable def EC5:=((EC4.addS 161 awS aGX).addS 160 awNS aC9)
def I1:bA Ob:=fun args h=>match args,h with
 | [.ptr 0 0],[some (.cells [.int .i64 t,.int .i64 n,.int .i64 pop,.int .i64 gave,.int .i64 u,.int .i64 sh,.int .i64 kd,.int .i64 ky,.bool only,.int .i64 att,.int .i64 at',.int .u64 found,.int .u64 word])]=>some (True,.agg [.I (aC found 0 12),.I (aC found 12 9),.I (aC found 21 18),.I (aC found 39 9),.bool (ieq (aC found 48 1) 1),.I (aC found 49 3),.I (aC found 52 10)])
 | _,_=>none
theorem VL:sT' 281 I1.spec:=by
 intro args h o ho K g;unfold bA.spec I1 at ho;split at ho
 case h_2=>cases ho
 rename_i p v hp;split at hp
 case h_2=>cases hp
 rename_i t n pop gave u sh kd ky only att at' found word;cases hp;simp only [sI']at ho;subst ho;obtain⟨hp,g⟩:=g;have g:K (.agg [.I (aC found 0 12),.I (aC found 12 9),.I (aC found 21 18),.I (aC found 39 9),.bool (ieq (aC found 48 1) 1),.I (aC found 49 3),.I (aC found 52 10)]) [cE' [.I t,.I n,.I pop,.I gave,.I u,.I sh,.I kd,.I ky,.bool only,.I att,.I at',.int .u64 found,.int .u64 word]]:=g;refine aK8 (cM' (E:=EC5) (q:=True/\K (.agg [.I (aC found 0 12),.I (aC found 12 9),.I (aC found 21 18),.I (aC found 39 9),.bool (ieq (aC found 48 1) 1),.I (aC found 49 3),.I (aC found 52 10)]) [cE' [.I t,.I n,.I pop,.I gave,.I u,.I sh,.I kd,.I ky,.bool only,.I att,.I at',.int .u64 found,.int .u64 word]]) (by kernel_rfl) ?_)
 exact⟨trivial,g⟩
noncomputable def EX1:=EC5.addR 281 I1 VL
def VM(t n pop gave u sh kd ky:Int)(only:Bool)(att at' found word:Int)(k y:Int)(m:Bool)(c v:Int)(s:MS):Out Ob:=.pre True (.pre True (.pre ((q9' s)/\True) (.ret (.bool (bE s.3 (aC found 12 9) word)) [cE' [.I t,.I n,.I pop,.I gave,.I u,.I sh,.I kd,.I ky,.bool only,.I att,.I at',.int .u64 found,.int .u64 word],cE' [.I s.1,.I s.2,.slice 2 0 (List.length (bif bE s.3 (aC found 12 9) word then aZ s.3 (aC found 12 9) (bif bif aN k 10 then bif aN y 9 then bif aN c 5 then aN v 18 else false else false else false then cZ k y m c v else 0)else s.3)) 1,.I (s.4+1),.I 3,.I (aC found 12 9),.int .u64 (aF s.3 (aC found 12 9)),.int .u64 (bif dS s.3 (aC found 12 9)then bif bif aN k 10 then bif aN y 9 then bif aN c 5 then aN v 18 else false else false else false then cZ k y m c v else 0 else 0),.bool (bE s.3 (aC found 12 9) word)],some (.ints (some .u64) (bif bE s.3 (aC found 12 9) word then aZ s.3 (aC found 12 9) (bif bif aN k 10 then bif aN y 9 then bif aN c 5 then aN v 18 else false else false else false then cZ k y m c v else 0)else s.3))])))
theorem VN(t n pop gave u sh kd ky:Int)(only:Bool)(att at' found word:Int)(k y:Int)(m:Bool)(c v:Int)(s:MS)(K:AVal->aB Ob->Prop)(h:(VM t n pop gave u sh kd ky only att at' found word k y m c v s).run K):cT' 284 [.ptr 0 0,.ptr 1 0,.agg [.I k,.I y,.bool m,.I c,.I v]] [cE' [.I t,.I n,.I pop,.I gave,.I u,.I sh,.I kd,.I ky,.bool only,.I att,.I at',.int .u64 found,.int .u64 word],bF 2 s,bG s] K:=by
 refine aK8 (cM' (E:=EX1) (by kernel_rfl) h)
def xputS:aI Ob:=fun args h=>match args,h with
 | [.ptr 0 0,.ptr 1 0,.agg [.int .i64 k,.int .i64 y,.bool m,.int .i64 c,.int .i64 v]],[some (.cells [.int .i64 t,.int .i64 n,.int .i64 pop,.int .i64 gave,.int .i64 u,.int .i64 sh,.int .i64 kd,.int .i64 ky,.bool only,.int .i64 att,.int .i64 at',.int .u64 found,.int .u64 word]),e1,e2]=>(match cO 2 [e1,e2]with
   | some (l,s)=>some (.pre (l=s.xs.length) (VM t n pop gave u sh kd ky only att at' found word k y m c v s))
   | none=>none)
 | _,_=>none
theorem aBB:sT' 284 xputS:=by
 intro args h o ho K g;unfold xputS at ho;split at ho
 case h_2=>cases ho
 split at ho<;>cases ho
 rename_i hm;obtain⟨hl,g⟩:=g;cases bC hm hl;exact VN _ _ _ _ _ _ _ _ _ _ _ _ _ _ _ _ _ _ _ K g
def I2(t n pop gave u sh kd ky:Int)(only:Bool)(att at' found word:Int)(a b c d:Int)(m:Bool)(e f:Int)(s:MS):Out Ob:=.pre True (.pre ((((0:Int)<=t/\t<=(100000:Int))/\((0:Int)<=n/\n<=(100000:Int))/\(-1099511627776:Int)<=u/\u<=(1099511627776:Int))/\True) (.pre ((q9' s)/\True) (.ret (.bool (bE s.3 (2*n+5+2*t+3*u+2) found)) [cE' [.I t,.I n,.I pop,.I gave,.I u,.I sh,.I kd,.I ky,.bool only,.I att,.I at',.int .u64 found,.int .u64 word],cE' [.I s.1,.I s.2,.slice 2 0 (List.length (bif bE s.3 (2*n+5+2*t+3*u+2) found then aZ s.3 (2*n+5+2*t+3*u+2) (bif dOk a b c d e f then cW a b c d m e f else 0)else s.3)) 1,.I (s.4+1),.I 3,.I (2*n+5+2*t+3*u+2),.int .u64 (aF s.3 (2*n+5+2*t+3*u+2)),.int .u64 (bif dS s.3 (2*n+5+2*t+3*u+2)then bif dOk a b c d e f then cW a b c d m e f else 0 else 0),.bool (bE s.3 (2*n+5+2*t+3*u+2) found)],some (.ints (some .u64) (bif bE s.3 (2*n+5+2*t+3*u+2) found then aZ s.3 (2*n+5+2*t+3*u+2) (bif dOk a b c d e f then cW a b c d m e f else 0)else s.3))])))
theorem PE(t n pop gave u sh kd ky:Int)(only:Bool)(att at' found word:Int)(a b c d:Int)(m:Bool)(e f:Int)(s:MS)(K:AVal->aB Ob->Prop)(h:(I2 t n pop gave u sh kd ky only att at' found word a b c d m e f s).run K):cT' 286 [.ptr 0 0,.ptr 1 0,.agg [.I a,.I b,.I c,.I d,.bool m,.I e,.I f]] [cE' [.I t,.I n,.I pop,.I gave,.I u,.I sh,.I kd,.I ky,.bool only,.I att,.I at',.int .u64 found,.int .u64 word],bF 2 s,bG s] K:=by
 refine aK8 (cM' (E:=EX1) (by kernel_rfl) h)
def xturnS:aI Ob:=fun args h=>match args,h with
 | [.ptr 0 0,.ptr 1 0,.agg [.int .i64 a,.int .i64 b,.int .i64 c,.int .i64 d,.bool m,.int .i64 e,.int .i64 f]],[some (.cells [.int .i64 t,.int .i64 n,.int .i64 pop,.int .i64 gave,.int .i64 u,.int .i64 sh,.int .i64 kd,.int .i64 ky,.bool only,.int .i64 att,.int .i64 at',.int .u64 found,.int .u64 word]),e1,e2]=>(match cO 2 [e1,e2]with
   | some (l,s)=>some (.pre (l=s.xs.length) (I2 t n pop gave u sh kd ky only att at' found word a b c d m e f s))
   | none=>none)
 | _,_=>none
theorem VO:sT' 286 xturnS:=by
 intro args h o ho K g;unfold xturnS at ho;split at ho
 case h_2=>cases ho
 split at ho<;>cases ho
 rename_i hm;obtain⟨hl,g⟩:=g;cases bC hm hl;exact PE _ _ _ _ _ _ _ _ _ _ _ _ _ _ _ _ _ _ _ _ _ K g
noncomputable def EX2:=(EX1.addS 284 xputS aBB).addS 286 xturnS VO
instance:Inhabited STS:=⟨⟨0,0,[]⟩⟩
structure ExO where
 d:Bool
 x:EXS
 s:MS
instance:Inhabited ExO:=⟨⟨false,eN,⟨0,0,[],0,0,0,0,0,false⟩⟩⟩
instance:Inhabited EXS:=⟨eN⟩
abbrev exH(t n:Int)(x:EXS)(s:MS):aB Ob:=[some (.abs (.exec t n x) []),bF 2 s,bG s]
abbrev exD(t n:Int)(x:EXS)(s:MS):aB Ob:=[cE' [.I t,.I n,.I x.popped,.I x.gave,.I x.u,.I x.sh,.I x.kd,.I x.ky,.bool x.only,.I x.att,.I x.at',.int .u64 x.found,.int .u64 x.word],bF 2 s,bG s]
def ExO.fin(t n:Int)(y:ExO):Out Ob:=.ite y.d (.ret (.bool true) (exD t n y.x y.s)) (.ret (.bool false) (exH t n y.x y.s))
def aEe(t n:Int)(v:AVal)(g:aB Ob):Option (Prop×ExO):=match v,g with
 | .bool d,[some (.cells [.int .i64 t1,.int .i64 n1,.int .i64 popped,.int .i64 gave,.int .i64 u,.int .i64 sh,.int .i64 kd,.int .i64 ky,.bool only,.int .i64 att,.int .i64 at',.int .u64 found,.int .u64 word]),e1,e2]=>(match cO 2 [e1,e2]with
   | some (l,s)=>some ((t1=t/\n1=n)/\l=s.xs.length,⟨d,⟨popped,gave,u,sh,kd,ky,only,att,at',found,word⟩,s⟩)
   | none=>none)
 | _,_=>none
def MA(t n:Int)(v:AVal)(g:aB Ob):Option (Prop×ExO):=aEe t n v g
theorem Y4{t n:Int} :bP (obI tbl) 3 (aEe t n) (ExO.fin t n):=by
 intro v g p x hp hq K hK;unfold aEe at hp;split at hp
 case h_2=>cases hp
 rename_i d t1 n1 popped gave u sh kd ky only att at' found word e1 e2;split at hp
 case h_2=>cases hp
 rename_i l s hm;cases hp;obtain⟨⟨rfl,rfl⟩,hl⟩:=hq;cases bC hm hl;refine rP hK (fun h=>?_) (fun h=>?_)
 ·exact⟨⟨_,_,aLo _ _ _,h⟩⟩
 ·exact⟨⟨_,_,(aE.pack (exH t1 n1 (⟨popped,gave,u,sh,kd,ky,only,att,at',found,word⟩:EXS) s) (.exec t1 n1 (⟨popped,gave,u,sh,kd,ky,only,att,at',found,word⟩:EXS)) 0 0 (hO t1 n1 (⟨popped,gave,u,sh,kd,ky,only,att,at',found,word⟩:EXS)) [] (by kernel_rfl) rfl (congrArg (Prod.mk 0) rfl) (by kernel_rfl)),h⟩⟩
theorem lV{t n:Int} :bP (obI tbl) 3 (MA t n) (ExO.fin t n):=by
 intro v g p x hp hq K hK;unfold MA at hp;exact Y4 v g p x hp hq K hK
abbrev w0l(n t:Int)(x:EXS):=(((0:Int)<=t/\t<=(100000:Int))/\((0:Int)<=n/\n<=(100000:Int))/\(-1099511627776:Int)<=x.3/\x.3<=(1099511627776:Int))/\True
abbrev w0q(n:Int)(s:MS)(t:Int)(x:EXS):Tr ExO:=.ret {d:=true,x:= {x with at':=0,found:=aF s.3 (2*n+5+2*t+3*x.3+2)},s:=(dY s (2*n+5+2*t+3*x.3+2)) }
abbrev w0t(n:Int)(s:MS)(t:Int)(x:EXS):=aC (aF s.3 (2*n+5+2*t+3*x.3+2)) 49 3
abbrev w0x(n:Int)(s:MS)(t:Int)(x:EXS):Tr ExO:=.ret {d:=false,x:= {x with at':=1,found:=aF s.3 (2*n+5+2*t+3*x.3+2)},s:=(dY s (2*n+5+2*t+3*x.3+2)) }
abbrev w0y(n:Int)(s:MS)(t:Int)(x:EXS):Tr ExO:=.ret {d:=false,x:= {x with at':=5,found:=aF s.3 (2*n+5+2*t+3*x.3+2)},s:=(dY s (2*n+5+2*t+3*x.3+2)) }
abbrev w0z(n:Int)(s:MS)(t:Int)(x:EXS):Tr ExO:=.ret {d:=false,x:= {x with at':=8,found:=aF s.3 (2*n+5+2*t+3*x.3+2)},s:=(dY s (2*n+5+2*t+3*x.3+2)) }
def CR(t n:Int)(x:EXS)(s:MS):Tr ExO:=.pre True (.pre True (.pre (w0l n t x) (.pre ((q9' s)/\True) (.ite x.7 (.pre True (.ite (!ieq (aC (aF s.3 (2*n+5+2*t+3*x.3+2)) 0 12) x.8) (.pre ((t=t/\n=n)/\lE' s.3) (w0q n s t x)) (.pre True (.ite (ieq (w0t n s t x) 2) (.pre ((t=t/\n=n)/\lE' s.3) (w0x n s t x)) (.ite (ieq (w0t n s t x) 3) (.pre ((t=t/\n=n)/\lE' s.3) (w0y n s t x)) (.ite (ieq (w0t n s t x) 4) (.pre ((t=t/\n=n)/\lE' s.3) (w0z n s t x)) (.pre ((t=t/\n=n)/\lE' s.3) (w0q n s t x)))))))) (.pre True (.ite (ieq (w0t n s t x) 2) (.pre ((t=t/\n=n)/\lE' s.3) (w0x n s t x)) (.ite (ieq (w0t n s t x) 3) (.pre ((t=t/\n=n)/\lE' s.3) (w0y n s t x)) (.ite (ieq (w0t n s t x) 4) (.pre ((t=t/\n=n)/\lE' s.3) (w0z n s t x)) (.pre ((t=t/\n=n)/\lE' s.3) (w0q n s t x))))))))))
abbrev xJ(F:Int->Int->EXS->MS->Tr ExO)(a:Int):Prop:= ∀(t n:Int) (x:EXS) (s:MS) (K:ExO->Prop) (h:(F t n x s).run K),cT' 249 [.ptr 0 0,.ptr 1 0] [cE' [.I t,.I n,.I x.popped,.I x.gave,.I x.u,.I x.sh,.I x.kd,.I x.ky,.bool x.only,.I x.att,.I a,.int .u64 x.found,.int .u64 x.word],bF 2 s,bG s] (eU 3 0 [] [] (MA t n) K)
theorem MB:xJ CR 0:=by
 intro t n x s K h;exact cM' (E:=EX2) (by kernel_rfl) h
abbrev w0n(s:MS)(x:EXS):Tr ExO:=.ret {d:=false,x:= {x with at':=4,word:=aF s.3 (aC x.10 12 9) },s:=(dY s (aC x.10 12 9)) }
abbrev w0o(s:MS)(x:EXS):=ieq (aC (aF s.3 (aC x.10 12 9)) 25 18) (aC x.10 21 18)
abbrev w0r(s:MS)(x:EXS):=ieq (aC (aF s.3 (aC x.10 12 9)) 20 5) (W (x.3+1))
abbrev w0v(s:MS)(x:EXS):Tr ExO:=.ret {d:=false,x:= {x with at':=3,word:=aF s.3 (aC x.10 12 9) },s:=(dY s (aC x.10 12 9)) }
def CS(t n:Int)(x:EXS)(s:MS):Tr ExO:=.pre True (.pre True (.pre True (.pre (q9' s) (.pre True (.pre True (.ite (w0o s x) (.ite (ieq (aC (aF s.3 (aC x.10 12 9)) 20 5) 0) (.pre ((t=t/\n=n)/\lE' s.3) (.ret {d:=false,x:= {x with at':=2,word:=aF s.3 (aC x.10 12 9) },s:=(dY s (aC x.10 12 9)) })) (.pre True (.ite (w0o s x) (.ite (w0r s x) (.pre ((t=t/\n=n)/\lE' s.3) (w0v s x)) (.pre ((t=t/\n=n)/\lE' s.3) (w0n s x))) (.pre ((t=t/\n=n)/\lE' s.3) (w0n s x))))) (.pre True (.ite (w0o s x) (.ite (w0r s x) (.pre ((t=t/\n=n)/\lE' s.3) (w0v s x)) (.pre ((t=t/\n=n)/\lE' s.3) (w0n s x))) (.pre ((t=t/\n=n)/\lE' s.3) (w0n s x))))))))))
theorem MC:xJ CS 1:=by
 intro t n x s K h;exact cM' (E:=EX2) (by kernel_rfl) h
abbrev w0s(x:EXS):=ieq (aC x.10 48 1) 1
abbrev w0k(s:MS)(x:EXS):=qK s (aC x.10 12 9) x.11 (bif bif aN (aC x.11 0 10) 10 then bif aN (aC x.10 39 9) 9 then bif aN (x.3+1) 5 then aN (aC x.11 25 18) 18 else false else false else false then cZ (aC x.11 0 10) (aC x.10 39 9) (w0s x) (x.3+1) (aC x.11 25 18)else 0)
def CT(t n:Int)(x:EXS)(s:MS):Tr ExO:=.pre True (.pre True (.pre ((-1000000:Int)<=x.3/\x.3<=(1000000:Int)) (.pre (lE' s.3/\True/\True/\((q9' s)/\True)/\True) (.ite (bE s.3 (aC x.10 12 9) x.11) (.pre True (.ite (pH x.4 x.5) (.pre ((t=t/\n=n)/\lE' (bif bE s.3 (aC x.10 12 9) x.11 then aZ s.3 (aC x.10 12 9) (bif bif aN (aC x.11 0 10) 10 then bif aN (aC x.10 39 9) 9 then bif aN (x.3+1) 5 then aN (aC x.11 25 18) 18 else false else false else false then cZ (aC x.11 0 10) (aC x.10 39 9) (w0s x) (x.3+1) (aC x.11 25 18)else 0)else s.3)) (.ret {d:=true,x:= {x with popped:=aC x.11 10 9,at':=2},s:=(w0k s x) })) (.pre ((t=t/\n=n)/\lE' (bif bE s.3 (aC x.10 12 9) x.11 then aZ s.3 (aC x.10 12 9) (bif bif aN (aC x.11 0 10) 10 then bif aN (aC x.10 39 9) 9 then bif aN (x.3+1) 5 then aN (aC x.11 25 18) 18 else false else false else false then cZ (aC x.11 0 10) (aC x.10 39 9) (w0s x) (x.3+1) (aC x.11 25 18)else 0)else s.3)) (.ret {d:=true,x:= {x with at':=2},s:=(w0k s x) })))) (.pre ((t=t/\n=n)/\lE' (bif bE s.3 (aC x.10 12 9) x.11 then aZ s.3 (aC x.10 12 9) (bif bif aN (aC x.11 0 10) 10 then bif aN (aC x.10 39 9) 9 then bif aN (x.3+1) 5 then aN (aC x.11 25 18) 18 else false else false else false then cZ (aC x.11 0 10) (aC x.10 39 9) (w0s x) (x.3+1) (aC x.11 25 18)else 0)else s.3)) (.ret {d:=true,x:= {x with at':=2},s:=(w0k s x) }))))))
theorem MD:xJ CT 2:=by
 intro t n x s K h;exact cM' (E:=EX2) (by kernel_rfl) h
def CU(t n:Int)(x:EXS)(s:MS):Tr ExO:=.pre True (.pre True (.pre True (.pre (lE' s.3) (.pre True (.pre (w0l n t x) (.pre ((q9' s)/\True) (.pre ((t=t/\n=n)/\lE' (bif bE s.3 (2*n+5+2*t+3*x.3+2) x.10 then aZ s.3 (2*n+5+2*t+3*x.3+2) (bif dOk (aC x.10 0 12) (aC x.10 12 9) (aC x.10 21 18) (aC x.10 39 9) 3 (aC x.10 52 10)then cW (aC x.10 0 12) (aC x.10 12 9) (aC x.10 21 18) (aC x.10 39 9) (w0s x) 3 (aC x.10 52 10)else 0)else s.3)) (.ret {d:=true,x:= {x with at':=3},s:=(qK s (2*n+5+2*t+3*x.3+2) x.10 (bif dOk (aC x.10 0 12) (aC x.10 12 9) (aC x.10 21 18) (aC x.10 39 9) 3 (aC x.10 52 10)then cW (aC x.10 0 12) (aC x.10 12 9) (aC x.10 21 18) (aC x.10 39 9) (w0s x) 3 (aC x.10 52 10)else 0)) }))))))))
theorem ME:xJ CU 3:=by
 intro t n x s K h;exact cM' (E:=EX2) (by kernel_rfl) h
def CV(t n:Int)(x:EXS)(s:MS):Tr ExO:=.pre True (.pre True (.pre True (.pre (lE' s.3) (.pre True (.pre (w0l n t x) (.pre ((q9' s)/\True) (.pre ((t=t/\n=n)/\lE' (bif bE s.3 (2*n+5+2*t+3*x.3+2) x.10 then aZ s.3 (2*n+5+2*t+3*x.3+2) (bif dOk (aC x.10 0 12) (aC x.10 12 9) (aC x.10 21 18) (aC x.10 39 9) 4 (aC x.10 52 10)then cW (aC x.10 0 12) (aC x.10 12 9) (aC x.10 21 18) (aC x.10 39 9) (w0s x) 4 (aC x.10 52 10)else 0)else s.3)) (.ret {d:=true,x:= {x with at':=4},s:=(qK s (2*n+5+2*t+3*x.3+2) x.10 (bif dOk (aC x.10 0 12) (aC x.10 12 9) (aC x.10 21 18) (aC x.10 39 9) 4 (aC x.10 52 10)then cW (aC x.10 0 12) (aC x.10 12 9) (aC x.10 21 18) (aC x.10 39 9) (w0s x) 4 (aC x.10 52 10)else 0)) }))))))))
theorem MF:xJ CV 4:=by
 intro t n x s K h;exact cM' (E:=EX2) (by kernel_rfl) h
abbrev w0m(s:MS)(x:EXS):Tr ExO:=.ret {d:=false,x:= {x with at':=7,word:=aF s.3 (aC x.10 12 9) },s:=(dY s (aC x.10 12 9)) }
abbrev w0w(s:MS)(x:EXS):Tr ExO:=.ret {d:=false,x:= {x with at':=6,word:=aF s.3 (aC x.10 12 9) },s:=(dY s (aC x.10 12 9)) }
def CW(t n:Int)(x:EXS)(s:MS):Tr ExO:=.pre True (.pre True (.pre True (.pre (q9' s) (.pre True (.pre True (.ite (w0o s x) (.ite (ieq (aC (aF s.3 (aC x.10 12 9)) 20 5) 0) (.pre ((t=t/\n=n)/\lE' s.3) (w0m s x)) (.pre True (.ite (w0o s x) (.ite (w0r s x) (.pre ((t=t/\n=n)/\lE' s.3) (w0w s x)) (.pre ((t=t/\n=n)/\lE' s.3) (w0m s x))) (.pre ((t=t/\n=n)/\lE' s.3) (w0m s x))))) (.pre True (.ite (w0o s x) (.ite (w0r s x) (.pre ((t=t/\n=n)/\lE' s.3) (w0w s x)) (.pre ((t=t/\n=n)/\lE' s.3) (w0m s x))) (.pre ((t=t/\n=n)/\lE' s.3) (w0m s x))))))))))
theorem MG:xJ CW 5:=by
 intro t n x s K h;exact cM' (E:=EX2) (by kernel_rfl) h
def CX(t n:Int)(x:EXS)(s:MS):Tr ExO:=.pre True (.pre True (.pre ((0:Int)<=aC x.11 25 18/\aC x.11 25 (18:Int)<=(1000000:Int)) (.pre (lE' s.3) (.pre True (.pre True (.pre ((q9' s)/\True) (.pre ((t=t/\n=n)/\lE' (bif bE s.3 (aC x.10 12 9) x.11 then aZ s.3 (aC x.10 12 9) (bif bif aN (aC x.11 0 10) 10 then bif aN (aC x.11 10 9) 9 then bif aN 0 5 then aN (aW (aC x.11 25 18)) 18 else false else false else false then cZ (aC x.11 0 10) (aC x.11 10 9) (ieq (aC x.11 19 1) 1) 0 (aW (aC x.11 25 18))else 0)else s.3)) (.ret {d:=false,x:= {x with at':=7},s:=(qK s (aC x.10 12 9) x.11 (bif bif aN (aC x.11 0 10) 10 then bif aN (aC x.11 10 9) 9 then bif aN 0 5 then aN (aW (aC x.11 25 18)) 18 else false else false else false then cZ (aC x.11 0 10) (aC x.11 10 9) (ieq (aC x.11 19 1) 1) 0 (aW (aC x.11 25 18))else 0)) }))))))))
theorem MH:xJ CX 6:=by
 intro t n x s K h;exact cM' (E:=EX2) (by kernel_rfl) h
def CY(t n:Int)(x:EXS)(s:MS):Tr ExO:=.pre True (.pre True (.pre True (.pre (lE' s.3) (.pre True (.pre (w0l n t x) (.pre ((q9' s)/\True) (.pre ((t=t/\n=n)/\lE' (bif bE s.3 (2*n+5+2*t+3*x.3+2) x.10 then aZ s.3 (2*n+5+2*t+3*x.3+2) (bif dOk (aC x.10 0 12) 0 0 0 5 (aC x.10 52 10)then cW (aC x.10 0 12) 0 0 0 true 5 (aC x.10 52 10)else 0)else s.3)) (.ret {d:=true,x:= {x with at':=7},s:=(qK s (2*n+5+2*t+3*x.3+2) x.10 (bif dOk (aC x.10 0 12) 0 0 0 5 (aC x.10 52 10)then cW (aC x.10 0 12) 0 0 0 true 5 (aC x.10 52 10)else 0)) }))))))))
theorem MI:xJ CY 7:=by
 intro t n x s K h;exact cM' (E:=EX2) (by kernel_rfl) h
abbrev w0u(x:EXS):=hM (aC x.10 0 12)
abbrev w0p(n:Int)(s:MS)(t:Int)(x:EXS):=qK s (2*n+5+2*t+3*x.3+2) x.10 (bif dOk (w0u x) 0 0 0 1 0 then cW (w0u x) 0 0 0 false 1 0 else 0)
def CZ(t n:Int)(x:EXS)(s:MS):Tr ExO:=.pre True (.pre True (.pre ((0:Int)<=aC x.10 0 12/\aC x.10 0 (12:Int)<=(1000000:Int)) (.pre (lE' s.3/\True/\(w0l n t x)/\((q9' s)/\True)/\True) (.ite (!bE s.3 (2*n+5+2*t+3*x.3+2) x.10) (.pre ((t=t/\n=n)/\lE' (bif bE s.3 (2*n+5+2*t+3*x.3+2) x.10 then aZ s.3 (2*n+5+2*t+3*x.3+2) (bif dOk (w0u x) 0 0 0 1 0 then cW (w0u x) 0 0 0 false 1 0 else 0)else s.3)) (.ret {d:=true,x:= {x with at':=9},s:=(w0p n s t x) })) (.pre True (.ite (!f5 x.5) (.pre ((t=t/\n=n)/\lE' (bif bE s.3 (2*n+5+2*t+3*x.3+2) x.10 then aZ s.3 (2*n+5+2*t+3*x.3+2) (bif dOk (w0u x) 0 0 0 1 0 then cW (w0u x) 0 0 0 false 1 0 else 0)else s.3)) (.ret {d:=true,x:= {x with at':=9},s:=(w0p n s t x) })) (.pre (True/\True) (.pre ((t=t/\n=n)/\lE' (bif bE s.3 (2*n+5+2*t+3*x.3+2) x.10 then aZ s.3 (2*n+5+2*t+3*x.3+2) (bif dOk (w0u x) 0 0 0 1 0 then cW (w0u x) 0 0 0 false 1 0 else 0)else s.3)) (.ret {d:=!bH n (aC x.10 39 9),x:= {x with at':=9},s:=(w0p n s t x) })))))))))
theorem MJ:xJ CZ 8:=by
 intro t n x s K h;exact cM' (E:=EX2) (by kernel_rfl) h
def C0(t n:Int)(x:EXS)(s:MS):Tr ExO:=.pre True (.pre True (.pre ((((0:Int)<=t/\t<=(100000:Int))/\((0:Int)<=n/\n<=(100000:Int))/\(-1099511627776:Int)<=aC x.10 39 9/\aC x.10 39 (9:Int)<=(1099511627776:Int))/\True) (.pre ((q9' s)/\True) (.pre ((t=t/\n=n)/\lE' (aZ s.3 (n+4+aC x.10 39 9) (WU (aF s.3 (n+4+aC x.10 39 9)+1)))) (.ret {d:=true,x:= {x with gave:=aC x.10 39 9,at':=9},s:=(O1 s 4 (n+4+aC x.10 39 9) (WU (aF s.3 (n+4+aC x.10 39 9)+1))) })))))
theorem MK:xJ C0 9:=by
 intro t n x s K h;exact cM' (E:=EX2) (by kernel_rfl) h
def exT(t n:Int)(x:EXS)(s:MS):Tr ExO:=
 bif ieq x.at' 0 then CR t n x s else
 bif ieq x.at' 1 then CS t n x s else
 bif ieq x.at' 2 then CT t n x s else
 bif ieq x.at' 3 then CU t n x s else
 bif ieq x.at' 4 then CV t n x s else
 bif ieq x.at' 5 then CW t n x s else
 bif ieq x.at' 6 then CX t n x s else
 bif ieq x.at' 7 then CY t n x s else
 bif ieq x.at' 8 then CZ t n x s else
 bif ieq x.at' 9 then C0 t n x s else .pre False (.ret default)
def CQ(t n:Int)(x:EXS)(s:MS):ExO:=(exT t n x s).val
def aEd(t n:Int)(x:EXS)(s:MS):Prop:=(exT t n x s).ok
theorem Y5(t n:Int)(x:EXS)(s:MS)(K:AVal->aB Ob->Prop)(h:(exT t n x s).run (fun y=>(ExO.fin t n y).run K)):cT' 249 [.ptr 0 0,.ptr 1 0] (exH t n x s) K:=by
 unfold exT at h
 by_cases e:x.at'=0
 ·rw [e]at h;have h:(CR t n x s).run _:=h;refine aK9 (root:=0) (pos:=[]) (cs:=[]) (parse:=MA t n) (fin:=ExO.fin t n) lV (aR.unpack (.exec t n x) 0 0 (hO t n x) [] rfl (congrArg (Prod.mk 0) rfl) (by kernel_rfl) rfl) ?_
  have q:=MB t n x s _ h;rw [<-e]at q;exact q
 rw [bI e]at h
 by_cases e:x.at'=1
 ·rw [e]at h;have h:(CS t n x s).run _:=h;refine aK9 (root:=0) (pos:=[]) (cs:=[]) (parse:=MA t n) (fin:=ExO.fin t n) lV (aR.unpack (.exec t n x) 0 0 (hO t n x) [] rfl (congrArg (Prod.mk 0) rfl) (by kernel_rfl) rfl) ?_
  have q:=MC t n x s _ h;rw [<-e]at q;exact q
 rw [bI e]at h
 by_cases e:x.at'=2
 ·rw [e]at h;have h:(CT t n x s).run _:=h;refine aK9 (root:=0) (pos:=[]) (cs:=[]) (parse:=MA t n) (fin:=ExO.fin t n) lV (aR.unpack (.exec t n x) 0 0 (hO t n x) [] rfl (congrArg (Prod.mk 0) rfl) (by kernel_rfl) rfl) ?_
  have q:=MD t n x s _ h;rw [<-e]at q;exact q
 rw [bI e]at h
 by_cases e:x.at'=3
 ·rw [e]at h;have h:(CU t n x s).run _:=h;refine aK9 (root:=0) (pos:=[]) (cs:=[]) (parse:=MA t n) (fin:=ExO.fin t n) lV (aR.unpack (.exec t n x) 0 0 (hO t n x) [] rfl (congrArg (Prod.mk 0) rfl) (by kernel_rfl) rfl) ?_
  have q:=ME t n x s _ h;rw [<-e]at q;exact q
 rw [bI e]at h
 by_cases e:x.at'=4
 ·rw [e]at h;have h:(CV t n x s).run _:=h;refine aK9 (root:=0) (pos:=[]) (cs:=[]) (parse:=MA t n) (fin:=ExO.fin t n) lV (aR.unpack (.exec t n x) 0 0 (hO t n x) [] rfl (congrArg (Prod.mk 0) rfl) (by kernel_rfl) rfl) ?_
  have q:=MF t n x s _ h;rw [<-e]at q;exact q
 rw [bI e]at h
 by_cases e:x.at'=5
 ·rw [e]at h;have h:(CW t n x s).run _:=h;refine aK9 (root:=0) (pos:=[]) (cs:=[]) (parse:=MA t n) (fin:=ExO.fin t n) lV (aR.unpack (.exec t n x) 0 0 (hO t n x) [] rfl (congrArg (Prod.mk 0) rfl) (by kernel_rfl) rfl) ?_
  have q:=MG t n x s _ h;rw [<-e]at q;exact q
 rw [bI e]at h
 by_cases e:x.at'=6
 ·rw [e]at h;have h:(CX t n x s).run _:=h;refine aK9 (root:=0) (pos:=[]) (cs:=[]) (parse:=MA t n) (fin:=ExO.fin t n) lV (aR.unpack (.exec t n x) 0 0 (hO t n x) [] rfl (congrArg (Prod.mk 0) rfl) (by kernel_rfl) rfl) ?_
  have q:=MH t n x s _ h;rw [<-e]at q;exact q
 rw [bI e]at h
 by_cases e:x.at'=7
 ·rw [e]at h;have h:(CY t n x s).run _:=h;refine aK9 (root:=0) (pos:=[]) (cs:=[]) (parse:=MA t n) (fin:=ExO.fin t n) lV (aR.unpack (.exec t n x) 0 0 (hO t n x) [] rfl (congrArg (Prod.mk 0) rfl) (by kernel_rfl) rfl) ?_
  have q:=MI t n x s _ h;rw [<-e]at q;exact q
 rw [bI e]at h
 by_cases e:x.at'=8
 ·rw [e]at h;have h:(CZ t n x s).run _:=h;refine aK9 (root:=0) (pos:=[]) (cs:=[]) (parse:=MA t n) (fin:=ExO.fin t n) lV (aR.unpack (.exec t n x) 0 0 (hO t n x) [] rfl (congrArg (Prod.mk 0) rfl) (by kernel_rfl) rfl) ?_
  have q:=MJ t n x s _ h;rw [<-e]at q;exact q
 rw [bI e]at h
 by_cases e:x.at'=9
 ·rw [e]at h;have h:(C0 t n x s).run _:=h;refine aK9 (root:=0) (pos:=[]) (cs:=[]) (parse:=MA t n) (fin:=ExO.fin t n) lV (aR.unpack (.exec t n x) 0 0 (hO t n x) [] rfl (congrArg (Prod.mk 0) rfl) (by kernel_rfl) rfl) ?_
  have q:=MK t n x s _ h;rw [<-e]at q;exact q
 rw [bI e]at h;exact h.1.elim
noncomputable def exS:aI Ob:=fun args h=>match args,h with
 | [.ptr 0 0,.ptr 1 0],[some (.abs (.exec t n x) []),e1,e2]=>(match cO 2 [e1,e2]with
   | some (l,s)=>some (.pre (l=s.xs.length/\aEd t n x s) (ExO.fin t n (CQ t n x s)))
   | none=>none)
 | _,_=>none
theorem aHz:sT' 249 exS:=by
 intro args h o ho K g;unfold exS at ho;split at ho
 case h_2=>cases ho
 split at ho<;>cases ho
 rename_i hm;obtain⟨⟨hl,ok⟩,g⟩:=g;cases bC hm hl;exact Y5 _ _ _ _ K (aLf ok g)
def aEa(t n:Int)(v:AVal)(g:aB Ob):Option (Prop×EXS):=match v,g with
 | .ptr 0 0,[some (.cells [.int .i64 t1,.int .i64 n1,.int .i64 popped,.int .i64 gave,.int .i64 u,.int .i64 sh,.int .i64 kd,.int .i64 ky,.bool only,.int .i64 att,.int .i64 at',.int .u64 found,.int .u64 word])]=>some ((t1=t/\n1=n),(⟨popped,gave,u,sh,kd,ky,only,att,at',found,word⟩:EXS))
 | _,_=>none
abbrev Y1(t n:Int)(y:EXS):aB Ob:=[some (.abs (.exec t n y) [])]
theorem Y2{t n:Int} :bP (obI tbl) 0 (aEa t n) (fun y=>.ret (.ptr 0 0) (Y1 t n y)):=by
 intro v g p x hp hq K hK;unfold aEa at hp;split at hp
 case h_2=>cases hp
 rename_i t1 n1 popped gave u sh kd ky only att at' found word;cases hp;obtain⟨rfl,rfl⟩:=hq;exact⟨⟨_,_,aE.pack (Y1 t1 n1 (⟨popped,gave,u,sh,kd,ky,only,att,at',found,word⟩:EXS)) (.exec t1 n1 (⟨popped,gave,u,sh,kd,ky,only,att,at',found,word⟩:EXS)) 0 0 (hO t1 n1 (⟨popped,gave,u,sh,kd,ky,only,att,at',found,word⟩:EXS)) [] (by kernel_rfl) rfl (congrArg (Prod.mk 0) rfl) (by kernel_rfl),hK⟩⟩
def aEb(t n:Int)(u sh kd ky att:Int):Tr EXS:=.pre (t=t/\n=n) (.ret {popped:=0,gave:=0,u:=u,sh:=sh,kd:=kd,ky:=ky,only:=true,att:=att,at':=0,found:=0,word:=0})
def aD9(t n:Int)(u sh kd ky att:Int):EXS:=(aEb t n u sh kd ky att).val
def RX(t n:Int)(u sh kd ky att:Int):Prop:=(aEb t n u sh kd ky att).ok
def exNS:aI Ob:=fun args h=>match args,h with
 | [.agg [.int .i64 t,.int .i64 n],.int .i64 u,.agg [.int .i64 sh,.int .i64 kd,.int .i64 ky],.int .i64 att],[]=>some (.pre (RX t n u sh kd ky att) (.ret (.ptr 0 0) (Y1 t n (aD9 t n u sh kd ky att))))
 | _,_=>none
theorem aEc:sT' 246 exNS:=by
 intro args h o ho K g;unfold exNS at ho;split at ho<;>cases ho
 rename_i t n u sh kd ky att;obtain⟨ok,g⟩:=g;refine aLm (root:=0) (pos:=[]) (cs:=[]) (parse:=aEa t n) Y2 ?_;exact cM' (E:=EX2) (q:=(aEb t n u sh kd ky att).run (fun y=>(Out.ret (.ptr 0 0) (Y1 t n y)).run K)) (by kernel_rfl) (aLf ok g)
noncomputable def EC6:=((EX2.addS 249 exS aHz).addS 246 exNS aEc)
end Go.Sh
