import Derived.Test.YteindpciaceeeaaGreatZM0toM36
set_option linter.all false
set_option maxHeartbeats 8000000
namespace Go.Sh
open Go Go.Proofs
variable [Con]
def alH(t n:Int)(x:AL)(s:MS):aC Ob:=[some (.cells [.int .i64 t,.int .i64 n,.int .i64 x.got,.int .i64 x.at',.int .i64 x.left,.int .u64 x.found,.bool x.free]),some (.cells [.int .i64 s.t,.int .i64 s.n,.slice 2 0 s.xs.length 1,.int .i64 s.c,.int .i64 s.k,.int .i64 s.a,.int .u64 s.o,.int .u64 s.w,.bool s.ok]),some (.ints (some .u64) s.xs)]
def oddB(y:Int):Bool:=!ieq (Int.tmod y 2) 0
def cY(n a:Int):Int:=Int.tmod a n+1
def Z9(t n:Int)(x:AL)(s:MS):Out Ob:=.ite x.free
 (.ite (aV s.xs (n+4+x.at') x.found) (.ret (.bool true) (alH t n ⟨x.at',x.at',x.left,x.found,true⟩ (s.cased (n+4+x.at') x.found (WU (x.found+1)))))
   (.ret (.bool (ile (x.left - 1) 0)) (alH t n ⟨x.got,cY n x.at',x.left - 1,x.found,false⟩ (s.cased (n+4+x.at') x.found (WU (x.found+1))))))
 (.ite (oddB (aF s.xs (n+4+x.at'))) (.ret (.bool (ile (x.left - 1) 0)) (alH t n ⟨x.got,cY n x.at',x.left - 1,aF s.xs (n+4+x.at'),false⟩ (s.loadd (n+4+x.at'))))
   (.ret (.bool false) (alH t n ⟨x.got,x.at',x.left,aF s.xs (n+4+x.at'),true⟩ (s.loadd (n+4+x.at')))))
theorem SL(t n:Int)(x:AL)(s:MS)(K:AVal→aC Ob→Prop)(ht:1≤t∧t≤1000)(hn:1≤n∧n≤1000)(ha:1≤x.at'∧x.at'≤n)(hl:0≤x.left∧x.left≤1000)(hc:0≤s.c∧s.c≤1000000)(hK:(Z9 t n x s).run K):aB E36.I Tryz.prog 211 [.ptr 0 0,.ptr 1 0] (alH t n x s) K:=by
 refine aHp (cM' (E:=E36) (q:=bif !x.5 then((((0:Int)≤t∧t≤(100000:Int))∧((0:Int)≤n∧n≤(100000:Int))∧(-1099511627776:Int)≤x.2∧x.2≤(1099511627776:Int))∧True)∧((lE' s.3∧(0:Int)≤s.4∧s.4≤(4611686018427387904:Int))∧True)∧(2:Int)≠(0:Int)∧bif !ieq (Int.tmod (aF s.3 (n+4+x.2)) 2) 0 then n≠(0:Int)∧K (.bool (ile (W (x.3 - 1)) 0)) [some (.cells [.int .i64 t,.int .i64 n,.int .i64 x.1,.int .i64 (W (Int.tmod x.2 n+1)),.int .i64 (W (x.3 - 1)),.int .u64 (aF s.3 (n+4+x.2)),.bool false]),some (.cells [.int .i64 s.1,.int .i64 s.2,.slice 2 0 s.3.length 1,.int .i64 (s.4+1),.int .i64 1,.int .i64 (n+4+x.2),.int .u64 (aF s.3 (n+4+x.2)),.int .u64 (aF s.3 (n+4+x.2)),.bool (bU s.3 (n+4+x.2))]),some (.ints (some .u64) s.3)]else K (.bool false) [some (.cells [.int .i64 t,.int .i64 n,.int .i64 x.1,.int .i64 x.2,.int .i64 x.3,.int .u64 (aF s.3 (n+4+x.2)),.bool (ieq (Int.tmod (aF s.3 (n+4+x.2)) 2) 0)]),some (.cells [.int .i64 s.1,.int .i64 s.2,.slice 2 0 s.3.length 1,.int .i64 (s.4+1),.int .i64 1,.int .i64 (n+4+x.2),.int .u64 (aF s.3 (n+4+x.2)),.int .u64 (aF s.3 (n+4+x.2)),.bool (bU s.3 (n+4+x.2))]),some (.ints (some .u64) s.3)]else((((0:Int)≤t∧t≤(100000:Int))∧((0:Int)≤n∧n≤(100000:Int))∧(-1099511627776:Int)≤x.2∧x.2≤(1099511627776:Int))∧True)∧((lE' s.3∧(0:Int)≤s.4∧s.4≤(4611686018427387904:Int))∧True)∧bif aV s.3 (n+4+x.2) x.4 then K (.bool true) [some (.cells [.int .i64 t,.int .i64 n,.int .i64 x.2,.int .i64 x.2,.int .i64 x.3,.int .u64 x.4,.bool x.5]),some (.cells [.int .i64 s.1,.int .i64 s.2,.slice 2 0 (List.length (bif aV s.3 (n+4+x.2) x.4 then aX s.3 (n+4+x.2) (WU (x.4+1))else s.3)) 1,.int .i64 (s.4+1),.int .i64 3,.int .i64 (n+4+x.2),.int .u64 (aF s.3 (n+4+x.2)),.int .u64 (bif bU s.3 (n+4+x.2)then WU (x.4+1)else 0),.bool (aV s.3 (n+4+x.2) x.4)]),some (.ints (some .u64) (bif aV s.3 (n+4+x.2) x.4 then aX s.3 (n+4+x.2) (WU (x.4+1))else s.3))]else n≠(0:Int)∧K (.bool (ile (W (x.3 - 1)) 0)) [some (.cells [.int .i64 t,.int .i64 n,.int .i64 x.1,.int .i64 (W (Int.tmod x.2 n+1)),.int .i64 (W (x.3 - 1)),.int .u64 x.4,.bool false]),some (.cells [.int .i64 s.1,.int .i64 s.2,.slice 2 0 (List.length (bif aV s.3 (n+4+x.2) x.4 then aX s.3 (n+4+x.2) (WU (x.4+1))else s.3)) 1,.int .i64 (s.4+1),.int .i64 3,.int .i64 (n+4+x.2),.int .u64 (aF s.3 (n+4+x.2)),.int .u64 (bif bU s.3 (n+4+x.2)then WU (x.4+1)else 0),.bool (aV s.3 (n+4+x.2) x.4)]),some (.ints (some .u64) (bif aV s.3 (n+4+x.2) x.4 then aX s.3 (n+4+x.2) (WU (x.4+1))else s.3))]) (by kernel_rfl) ?_)
 obtain⟨got,at',left,found,free⟩:=x;dsimp only at ha hl⊢;have hm:=YA (x:=at') (t:=n) (by omega) (by omega)
 have e1:W (left - 1)=left - 1:=xS (by omega)
 have e2:W (Int.tmod at' n+1)=cY n at':=xS (by show _≤Int.tmod at' n+1∧Int.tmod at' n+1≤_;omega)
 rw [e1,e2];unfold Z9 at hK;dsimp only [Out.run]at hK;cases free with
 | false=>
   simp only [cond_false,Bool.not_false,cond_true]at hK⊢;refine⟨⟨by omega,trivial⟩,⟨⟨trivial,by omega⟩,trivial⟩,by omega,?_⟩
   unfold oddB at hK;generalize ho:ieq (Int.tmod (aF s.xs (n+4+at')) 2) 0=b at hK⊢;cases b with
   | false=>exact⟨by omega,hK⟩
   | true=>exact hK
 | true=>
   simp only [cond_true,Bool.not_true,cond_false]at hK⊢;refine⟨⟨by omega,trivial⟩,⟨⟨trivial,by omega⟩,trivial⟩,?_⟩
   unfold alH at hK;cases hb:aV s.xs (n+4+at') found with
   | true=>
     rw [hb]at hK;simp only [cond_true]at hK⊢;unfold MS.cased at hK;rw [hb]at hK;exact hK
   | false=>
     rw [hb]at hK;simp only [cond_false]at hK⊢;unfold MS.cased at hK;rw [hb]at hK;exact⟨by omega,hK⟩
noncomputable def alS:aH Ob:=fun args h=>match args,h with
 | [.ptr 0 0,.ptr 1 0],[some (.cells [.int .i64 t,.int .i64 n,.int .i64 got,.int .i64 at',.int .i64 left,.int .u64 found,.bool free]),e1,e2]=>match cO 2 [e1,e2]with
   | some (l,s)=>some (.pre (l=s.xs.length∧(1≤t∧t≤1000)∧(1≤n∧n≤1000)∧(1≤at'∧at'≤n)∧(0≤left∧left≤1000)∧(0≤s.c∧s.c≤1000000)) (Z9 t n ⟨got,at',left,found,free⟩ s))
   | none=>none
 | _,_=>none
theorem aDE:aH.ok E36.I Tryz.prog 211 alS:=by
 intro args h o ho K hK;unfold alS at ho;split at ho
 case h_2=>cases ho
 split at ho<;>cases ho
 rename_i hm;obtain⟨⟨hl,ht,hn,ha,hl',hc⟩,hK⟩:=hK;have hh:=bF hm hl;cases hh;exact SL _ _ _ _ K ht hn ha hl' hc hK
noncomputable def E42:=E36.addS 211 alS aDE
theorem W9{xs:List Int}(h:W8 xs){a x:Int}(hx:0≤x∧x≤18446744073709551615):W8 (aX xs a x):=by
 unfold aX;split
 ·refine⟨fun y hy=>?_⟩;rcases List.mem_or_eq_of_mem_set hy with h1 | h1
  ·exact h.h y h1
  ·subst h1;exact hx
 ·exact h
theorem L5(x:Int):0≤WU x∧WU x≤18446744073709551615:=by
 unfold WU;simp only [IntKind.wrap,IntKind.bits,IntKind.signed]
 simp
 omega
structure EO where
 d:Bool
 e:ENS
 st:STS
 s:MS
def at0(t n me:Int):Int:=bif bY n (aP t n me)then aP t n me else 1
def I9(e:ENS)(st:STS)(x:AL)(s:MS):EO:=match ile x.left 0 with
 | true=>⟨e.dn||ieq (st.R.length:Int) 0,{e with ph:=2,sh:=e.dn||ieq (st.R.length:Int) 0,x:=x},{st with sp:=0},s⟩
 | false=>⟨false,{e with ph:=1,x:=x},st,s⟩
def rN(n:Int)(e:ENS)(st:STS)(x:AL)(s:MS):EO:=match x.free with
 | true=>(match aV s.xs (n+4+x.at') x.found with
   | true=>⟨true,{e with ph:=1,x:=⟨x.at',x.at',x.left,x.found,true⟩ },{st with sp:=x.at'},s.cased (n+4+x.at') x.found (WU (x.found+1))⟩
   | false=>I9 e st ⟨0,cY n x.at',x.left - 1,x.found,false⟩ (s.cased (n+4+x.at') x.found (WU (x.found+1))))
 | false=>(match oddB (aF s.xs (n+4+x.at'))with
   | true=>I9 e st ⟨0,cY n x.at',x.left - 1,aF s.xs (n+4+x.at'),false⟩ (s.loadd (n+4+x.at'))
   | false=>⟨false,{e with ph:=1,x:=⟨0,x.at',x.left,aF s.xs (n+4+x.at'),true⟩ },st,s.loadd (n+4+x.at')⟩)
instance:Inhabited EO:=⟨⟨false,aW,⟨0,0,[]⟩,⟨0,0,[],0,0,0,0,0,false⟩⟩⟩
def enF(t n:Int)(e:ENS)(st:STS)(s:MS):EO:=match e.ph with
 | 0=>(match ieq st.sp 0 with
   | true=>rN n e st ⟨0,at0 t n st.me,n,0,false⟩ s
   | false=>⟨true,e,st,s.loadd 0⟩)
 | 1=>rN n e st e.x s
 | 2=>⟨false,{e with ph:=3,y:= {e.y with N:=st.R,m:=bA [] n 0 s,i:=1} },st,s.loadd (bZ n 0)⟩
 | 3=>(match ieq (e.y.i+1) (2*t),ieq ((a8 (bA e.y.m n e.y.i s) e.y.N).length :Int) 0 with
   | true,true=>⟨true,{e with ph:=0,sh:=true,dn:=true},{st with R:=cI (bA e.y.m n e.y.i s) e.y.N},s.loadd (bZ n e.y.i)⟩
   | true,false=>⟨false,{e with ph:=4,y:=⟨0,e.y.N,bA e.y.m n e.y.i s,e.y.i+1,cI (bA e.y.m n e.y.i s) e.y.N,a8 (bA e.y.m n e.y.i s) e.y.N,a8 (bA e.y.m n e.y.i s) e.y.N,0,(a8 (bA e.y.m n e.y.i s) e.y.N).length⟩ },st,s.loadd (bZ n e.y.i)⟩
   | false,_=>⟨false,{e with y:= {e.y with m:=bA e.y.m n e.y.i s,i:=e.y.i+1} },st,s.loadd (bZ n e.y.i)⟩)
 | _=>(match ieq ((e.y.l - 1:Nat):Int) 0 with
   | true=>⟨ieq (e.y.fs.length:Int) 0,{e with ph:=0,sh:=ieq (e.y.fs.length:Int) 0,dn:=true},{st with R:=e.y.ks},s.added (b9 n e.y.gs e.y.j) 1⟩
   | false=>⟨false,{e with y:= {e.y with j:=e.y.j+1,l:=e.y.l - 1} },st,s.added (b9 n e.y.gs e.y.j) 1⟩)
structure okAl (n:Int) (x:AL):Prop where
 hg:x.got=0
 ha:1≤x.at'∧x.at'≤n
 hl:0≤x.left∧x.left≤1000
def aFd(t n:Int)(e:ENS)(st:STS):Prop:=match e.ph with
 | 0=>True
 | 1=>okAl n e.x
 | 2=>True
 | 3=>e.y.N.length≤1000000∧0≤e.y.i∧e.y.i<2*t
 | 4=>2*t≤e.y.i∧1≤e.y.l∧e.y.gs.length=e.y.j+e.y.l∧ -1000000≤List.getD e.y.gs (e.y.j+Int.toNat 0*1) 0∧List.getD e.y.gs (e.y.j+Int.toNat 0*1) 0≤1000000
 | _=>False
structure KM (t n:Int) (e:ENS) (st:STS) (s:MS):Prop where
 ht:1≤t∧t≤1000
 hn:1≤n∧n≤1000
 hc:0≤s.c∧s.c≤1000000
 hm:0≤st.me∧st.me≤1000
 hR:st.R.length≤1000000
 ho:aFd t n e st
abbrev bD(l:Nat)(s:MS):Option (aJ Mc):=some (.cells [.int .i64 s.t,.int .i64 s.n,.slice l 0 s.xs.length 1,.int .i64 s.c,.int .i64 s.k,.int .i64 s.a,.int .u64 s.o,.int .u64 s.w,.bool s.ok])
abbrev bE(s:MS):Option (aJ Mc):=some (.ints (some .u64) s.xs)
def UK(t n:Int)(e:ENS)(st:STS)(s:MS):aC Ob:=[some (.abs (.ensure t n e) [1]),some (.abs (.store t n st) []),bD 3 s,bE s]
def EO.left(o:EO)(t n:Int)(K:AVal→aC Ob→Prop):Prop:=K (.bool o.d) (UK t n o.e o.st o.s)
theorem gP{K:AVal→aC Ob→Prop}{t n:Int}{o:EO}{g':aC Ob}(pl:List Nat)(hK:o.left t n K)
 (hb:(d0 pl g'.length&&jB pl 0 4&&obOk 1 (DN t n o.e))=true)
 (hT:gC pl g'=aL [some (.abs (.ensure t n o.e) [1]),some (.cells [.int .i64 t,.int .i64 n,.int .i64 o.st.me,.int .i64 o.st.sp,.slice 4 0 o.st.R.length 1]),bD 3 o.s,bE o.s,some (.ints (some .i64) o.st.R)] 0 1 (DN t n o.e) [1]):zL tbl 4 (zL tbl 4 K) (.bool o.d) g':=by
 simp only [Bool.and_eq_true]at hb;obtain⟨⟨b1,b2⟩,b3⟩:=hb;refine⟨pl,_,.ensure t n o.e,0,1,_,[1],?_,hT,rfl,rfl,⟨[0,1,2,3,4],[some (.abs (.ensure t n o.e) [1]),some (.abs (.store t n o.st) []),bD 3 o.s,bE o.s],.store t n o.st,1,0,dC t n o.st,[],rfl,rfl,rfl,rfl,?_⟩⟩
 ·rw [b1,b2,b3];rfl
 ·exact hK
theorem aF9(t n me sp:Int)(R:List Int)(sh dn:Bool)(x:AL)(y:SWS)(s:MS)(K:AVal→aC Ob→Prop)(hK:bif !ieq sp 0 then(lE' s.3∧(0:Int)≤s.4∧s.4≤(4611686018427387904:Int))∧K (.bool true) [some (.cells [.ptr 1 0,.bool sh,.raw (Value.pointer none),.raw (Value.pointer none),.bool dn]),some (.cells [.int .i64 t,.int .i64 n,.int .i64 me,.int .i64 sp,.slice 4 0 R.length 1]),some (.cells [.int .i64 s.1,.int .i64 s.2,.slice 3 0 s.3.length 1,.int .i64 (s.4+1),.int .i64 1,.int .i64 0,.int .u64 (aF s.3 0),.int .u64 (aF s.3 0),.bool (bU s.3 0)]),some (.ints (some .u64) s.3),some (.ints (some .i64) R)]else(((0:Int)≤me∧me≤(100000:Int))∧(0:Int)≤n∧n≤(100000:Int))∧(True∧True)∧(lE' s.3∧((1:Int)≤t∧t≤(1000:Int))∧((1:Int)≤n∧n≤(1000:Int))∧(((1:Int)≤bif bY n (aP t n me)then aP t n me else 1)∧(bif bY n (aP t n me)then aP t n me else 1)≤n)∧((0:Int)≤n∧n≤(1000:Int))∧(0:Int)≤s.4∧s.4≤(1000000:Int))∧bif oddB (aF s.3 (n+4+bif bY n (aP t n me)then aP t n me else 1))then bif !ile (n - 1) 0 then K (.bool false) [some (.cells [.ptr 1 0,.bool sh,.ptr 5 0,.raw (Value.pointer none),.bool dn]),some (.cells [.int .i64 t,.int .i64 n,.int .i64 me,.int .i64 sp,.slice 4 0 R.length 1]),some (.cells [.int .i64 s.1,.int .i64 s.2,.slice 3 0 s.3.length 1,.int .i64 (s.4+1),.int .i64 1,.int .i64 (n+4+bif bY n (aP t n me)then aP t n me else 1),.int .u64 (aF s.3 (n+4+bif bY n (aP t n me)then aP t n me else 1)),.int .u64 (aF s.3 (n+4+bif bY n (aP t n me)then aP t n me else 1)),.bool (bU s.3 (n+4+bif bY n (aP t n me)then aP t n me else 1))]),some (.ints (some .u64) s.3),some (.ints (some .i64) R),some (.cells [.int .i64 t,.int .i64 n,.int .i64 0,.int .i64 (cY n (bif bY n (aP t n me)then aP t n me else 1)),.int .i64 (n - 1),.int .u64 (aF s.3 (n+4+bif bY n (aP t n me)then aP t n me else 1)),.bool false])]else bif dn then K (.bool true) [some (.cells [.ptr 1 0,.bool true,.ptr 5 0,.ptr 6 0,.bool dn]),some (.cells [.int .i64 t,.int .i64 n,.int .i64 me,.int .i64 0,.slice 4 0 R.length 1]),some (.cells [.int .i64 s.1,.int .i64 s.2,.slice 3 0 s.3.length 1,.int .i64 (s.4+1),.int .i64 1,.int .i64 (n+4+bif bY n (aP t n me)then aP t n me else 1),.int .u64 (aF s.3 (n+4+bif bY n (aP t n me)then aP t n me else 1)),.int .u64 (aF s.3 (n+4+bif bY n (aP t n me)then aP t n me else 1)),.bool (bU s.3 (n+4+bif bY n (aP t n me)then aP t n me else 1))]),some (.ints (some .u64) s.3),some (.ints (some .i64) R),some (.cells [.int .i64 t,.int .i64 n,.int .i64 0,.int .i64 (cY n (bif bY n (aP t n me)then aP t n me else 1)),.int .i64 (n - 1),.int .u64 (aF s.3 (n+4+bif bY n (aP t n me)then aP t n me else 1)),.bool false]),some (.cells [.ptr 1 0,.raw (Value.pointer none)])]else K (.bool (ieq (↑R.length:Int) 0)) [some (.cells [.ptr 1 0,.bool (ieq (↑R.length:Int) 0),.ptr 5 0,.ptr 6 0,.bool dn]),some (.cells [.int .i64 t,.int .i64 n,.int .i64 me,.int .i64 0,.slice 4 0 R.length 1]),some (.cells [.int .i64 s.1,.int .i64 s.2,.slice 3 0 s.3.length 1,.int .i64 (s.4+1),.int .i64 1,.int .i64 (n+4+bif bY n (aP t n me)then aP t n me else 1),.int .u64 (aF s.3 (n+4+bif bY n (aP t n me)then aP t n me else 1)),.int .u64 (aF s.3 (n+4+bif bY n (aP t n me)then aP t n me else 1)),.bool (bU s.3 (n+4+bif bY n (aP t n me)then aP t n me else 1))]),some (.ints (some .u64) s.3),some (.ints (some .i64) R),some (.cells [.int .i64 t,.int .i64 n,.int .i64 0,.int .i64 (cY n (bif bY n (aP t n me)then aP t n me else 1)),.int .i64 (n - 1),.int .u64 (aF s.3 (n+4+bif bY n (aP t n me)then aP t n me else 1)),.bool false]),some (.cells [.ptr 1 0,.raw (Value.pointer none)])]else K (.bool false) [some (.cells [.ptr 1 0,.bool sh,.ptr 5 0,.raw (Value.pointer none),.bool dn]),some (.cells [.int .i64 t,.int .i64 n,.int .i64 me,.int .i64 sp,.slice 4 0 R.length 1]),some (.cells [.int .i64 s.1,.int .i64 s.2,.slice 3 0 s.3.length 1,.int .i64 (s.4+1),.int .i64 1,.int .i64 (n+4+bif bY n (aP t n me)then aP t n me else 1),.int .u64 (aF s.3 (n+4+bif bY n (aP t n me)then aP t n me else 1)),.int .u64 (aF s.3 (n+4+bif bY n (aP t n me)then aP t n me else 1)),.bool (bU s.3 (n+4+bif bY n (aP t n me)then aP t n me else 1))]),some (.ints (some .u64) s.3),some (.ints (some .i64) R),some (.cells [.int .i64 t,.int .i64 n,.int .i64 0,.int .i64 (bif bY n (aP t n me)then aP t n me else 1),.int .i64 n,.int .u64 (aF s.3 (n+4+bif bY n (aP t n me)then aP t n me else 1)),.bool true])]):cT' 154 [.ptr 0 0,.ptr 2 0] [some (.cells [.ptr 1 0,.bool sh,.raw (.pointer none),.raw (.pointer none),.bool dn]),some (.cells [.int .i64 t,.int .i64 n,.int .i64 me,.int .i64 sp,.slice 4 0 R.length 1]),bD 3 s,bE s,some (.ints (some .i64) R)] K:=by
 refine aHp (cM' (E:=E42) (by kernel_rfl) hK)
theorem aGa(t n me sp:Int)(R:List Int)(sh dn:Bool)(x:AL)(y:SWS)(s:MS)(K:AVal→aC Ob→Prop)(hK:(lE' s.3∧((1:Int)≤t∧t≤(1000:Int))∧((1:Int)≤n∧n≤(1000:Int))∧((1:Int)≤x.2∧x.2≤n)∧((0:Int)≤x.3∧x.3≤(1000:Int))∧(0:Int)≤s.4∧s.4≤(1000000:Int))∧bif x.5 then bif aV s.3 (n+4+x.2) x.4 then bif !ieq x.2 0 then K (.bool true) [some (.cells [.ptr 1 0,.bool sh,.ptr 5 0,.raw (Value.pointer none),.bool dn]),some (.cells [.int .i64 t,.int .i64 n,.int .i64 me,.int .i64 x.2,.slice 4 0 R.length 1]),some (.cells [.int .i64 s.1,.int .i64 s.2,.slice 3 0 (List.length (bif aV s.3 (n+4+x.2) x.4 then aX s.3 (n+4+x.2) (WU (x.4+1))else s.3)) 1,.int .i64 (s.4+1),.int .i64 3,.int .i64 (n+4+x.2),.int .u64 (aF s.3 (n+4+x.2)),.int .u64 (bif bU s.3 (n+4+x.2)then WU (x.4+1)else 0),.bool (aV s.3 (n+4+x.2) x.4)]),some (.ints (some .u64) (bif aV s.3 (n+4+x.2) x.4 then aX s.3 (n+4+x.2) (WU (x.4+1))else s.3)),some (.ints (some .i64) R),some (.cells [.int .i64 t,.int .i64 n,.int .i64 x.2,.int .i64 x.2,.int .i64 x.3,.int .u64 x.4,.bool true])]else bif dn then K (.bool true) [some (.cells [.ptr 1 0,.bool true,.ptr 5 0,.ptr 6 0,.bool dn]),some (.cells [.int .i64 t,.int .i64 n,.int .i64 me,.int .i64 x.2,.slice 4 0 R.length 1]),some (.cells [.int .i64 s.1,.int .i64 s.2,.slice 3 0 (List.length (bif aV s.3 (n+4+x.2) x.4 then aX s.3 (n+4+x.2) (WU (x.4+1))else s.3)) 1,.int .i64 (s.4+1),.int .i64 3,.int .i64 (n+4+x.2),.int .u64 (aF s.3 (n+4+x.2)),.int .u64 (bif bU s.3 (n+4+x.2)then WU (x.4+1)else 0),.bool (aV s.3 (n+4+x.2) x.4)]),some (.ints (some .u64) (bif aV s.3 (n+4+x.2) x.4 then aX s.3 (n+4+x.2) (WU (x.4+1))else s.3)),some (.ints (some .i64) R),some (.cells [.int .i64 t,.int .i64 n,.int .i64 x.2,.int .i64 x.2,.int .i64 x.3,.int .u64 x.4,.bool true]),some (.cells [.ptr 1 0,.raw (Value.pointer none)])]else K (.bool (ieq (↑R.length:Int) 0)) [some (.cells [.ptr 1 0,.bool (ieq (↑R.length:Int) 0),.ptr 5 0,.ptr 6 0,.bool dn]),some (.cells [.int .i64 t,.int .i64 n,.int .i64 me,.int .i64 x.2,.slice 4 0 R.length 1]),some (.cells [.int .i64 s.1,.int .i64 s.2,.slice 3 0 (List.length (bif aV s.3 (n+4+x.2) x.4 then aX s.3 (n+4+x.2) (WU (x.4+1))else s.3)) 1,.int .i64 (s.4+1),.int .i64 3,.int .i64 (n+4+x.2),.int .u64 (aF s.3 (n+4+x.2)),.int .u64 (bif bU s.3 (n+4+x.2)then WU (x.4+1)else 0),.bool (aV s.3 (n+4+x.2) x.4)]),some (.ints (some .u64) (bif aV s.3 (n+4+x.2) x.4 then aX s.3 (n+4+x.2) (WU (x.4+1))else s.3)),some (.ints (some .i64) R),some (.cells [.int .i64 t,.int .i64 n,.int .i64 x.2,.int .i64 x.2,.int .i64 x.3,.int .u64 x.4,.bool true]),some (.cells [.ptr 1 0,.raw (Value.pointer none)])]else bif !ile (x.3 - 1) 0 then K (.bool false) [some (.cells [.ptr 1 0,.bool sh,.ptr 5 0,.raw (Value.pointer none),.bool dn]),some (.cells [.int .i64 t,.int .i64 n,.int .i64 me,.int .i64 sp,.slice 4 0 R.length 1]),some (.cells [.int .i64 s.1,.int .i64 s.2,.slice 3 0 (List.length (bif aV s.3 (n+4+x.2) x.4 then aX s.3 (n+4+x.2) (WU (x.4+1))else s.3)) 1,.int .i64 (s.4+1),.int .i64 3,.int .i64 (n+4+x.2),.int .u64 (aF s.3 (n+4+x.2)),.int .u64 (bif bU s.3 (n+4+x.2)then WU (x.4+1)else 0),.bool (aV s.3 (n+4+x.2) x.4)]),some (.ints (some .u64) (bif aV s.3 (n+4+x.2) x.4 then aX s.3 (n+4+x.2) (WU (x.4+1))else s.3)),some (.ints (some .i64) R),some (.cells [.int .i64 t,.int .i64 n,.int .i64 x.1,.int .i64 (cY n x.2),.int .i64 (x.3 - 1),.int .u64 x.4,.bool false])]else bif !ieq x.1 0 then K (.bool true) [some (.cells [.ptr 1 0,.bool sh,.ptr 5 0,.raw (Value.pointer none),.bool dn]),some (.cells [.int .i64 t,.int .i64 n,.int .i64 me,.int .i64 x.1,.slice 4 0 R.length 1]),some (.cells [.int .i64 s.1,.int .i64 s.2,.slice 3 0 (List.length (bif aV s.3 (n+4+x.2) x.4 then aX s.3 (n+4+x.2) (WU (x.4+1))else s.3)) 1,.int .i64 (s.4+1),.int .i64 3,.int .i64 (n+4+x.2),.int .u64 (aF s.3 (n+4+x.2)),.int .u64 (bif bU s.3 (n+4+x.2)then WU (x.4+1)else 0),.bool (aV s.3 (n+4+x.2) x.4)]),some (.ints (some .u64) (bif aV s.3 (n+4+x.2) x.4 then aX s.3 (n+4+x.2) (WU (x.4+1))else s.3)),some (.ints (some .i64) R),some (.cells [.int .i64 t,.int .i64 n,.int .i64 x.1,.int .i64 (cY n x.2),.int .i64 (x.3 - 1),.int .u64 x.4,.bool false])]else bif dn then K (.bool true) [some (.cells [.ptr 1 0,.bool true,.ptr 5 0,.ptr 6 0,.bool dn]),some (.cells [.int .i64 t,.int .i64 n,.int .i64 me,.int .i64 x.1,.slice 4 0 R.length 1]),some (.cells [.int .i64 s.1,.int .i64 s.2,.slice 3 0 (List.length (bif aV s.3 (n+4+x.2) x.4 then aX s.3 (n+4+x.2) (WU (x.4+1))else s.3)) 1,.int .i64 (s.4+1),.int .i64 3,.int .i64 (n+4+x.2),.int .u64 (aF s.3 (n+4+x.2)),.int .u64 (bif bU s.3 (n+4+x.2)then WU (x.4+1)else 0),.bool (aV s.3 (n+4+x.2) x.4)]),some (.ints (some .u64) (bif aV s.3 (n+4+x.2) x.4 then aX s.3 (n+4+x.2) (WU (x.4+1))else s.3)),some (.ints (some .i64) R),some (.cells [.int .i64 t,.int .i64 n,.int .i64 x.1,.int .i64 (cY n x.2),.int .i64 (x.3 - 1),.int .u64 x.4,.bool false]),some (.cells [.ptr 1 0,.raw (Value.pointer none)])]else K (.bool (ieq (↑R.length:Int) 0)) [some (.cells [.ptr 1 0,.bool (ieq (↑R.length:Int) 0),.ptr 5 0,.ptr 6 0,.bool dn]),some (.cells [.int .i64 t,.int .i64 n,.int .i64 me,.int .i64 x.1,.slice 4 0 R.length 1]),some (.cells [.int .i64 s.1,.int .i64 s.2,.slice 3 0 (List.length (bif aV s.3 (n+4+x.2) x.4 then aX s.3 (n+4+x.2) (WU (x.4+1))else s.3)) 1,.int .i64 (s.4+1),.int .i64 3,.int .i64 (n+4+x.2),.int .u64 (aF s.3 (n+4+x.2)),.int .u64 (bif bU s.3 (n+4+x.2)then WU (x.4+1)else 0),.bool (aV s.3 (n+4+x.2) x.4)]),some (.ints (some .u64) (bif aV s.3 (n+4+x.2) x.4 then aX s.3 (n+4+x.2) (WU (x.4+1))else s.3)),some (.ints (some .i64) R),some (.cells [.int .i64 t,.int .i64 n,.int .i64 x.1,.int .i64 (cY n x.2),.int .i64 (x.3 - 1),.int .u64 x.4,.bool false]),some (.cells [.ptr 1 0,.raw (Value.pointer none)])]else bif oddB (aF s.3 (n+4+x.2))then bif !ile (x.3 - 1) 0 then K (.bool false) [some (.cells [.ptr 1 0,.bool sh,.ptr 5 0,.raw (Value.pointer none),.bool dn]),some (.cells [.int .i64 t,.int .i64 n,.int .i64 me,.int .i64 sp,.slice 4 0 R.length 1]),some (.cells [.int .i64 s.1,.int .i64 s.2,.slice 3 0 s.3.length 1,.int .i64 (s.4+1),.int .i64 1,.int .i64 (n+4+x.2),.int .u64 (aF s.3 (n+4+x.2)),.int .u64 (aF s.3 (n+4+x.2)),.bool (bU s.3 (n+4+x.2))]),some (.ints (some .u64) s.3),some (.ints (some .i64) R),some (.cells [.int .i64 t,.int .i64 n,.int .i64 x.1,.int .i64 (cY n x.2),.int .i64 (x.3 - 1),.int .u64 (aF s.3 (n+4+x.2)),.bool false])]else bif !ieq x.1 0 then K (.bool true) [some (.cells [.ptr 1 0,.bool sh,.ptr 5 0,.raw (Value.pointer none),.bool dn]),some (.cells [.int .i64 t,.int .i64 n,.int .i64 me,.int .i64 x.1,.slice 4 0 R.length 1]),some (.cells [.int .i64 s.1,.int .i64 s.2,.slice 3 0 s.3.length 1,.int .i64 (s.4+1),.int .i64 1,.int .i64 (n+4+x.2),.int .u64 (aF s.3 (n+4+x.2)),.int .u64 (aF s.3 (n+4+x.2)),.bool (bU s.3 (n+4+x.2))]),some (.ints (some .u64) s.3),some (.ints (some .i64) R),some (.cells [.int .i64 t,.int .i64 n,.int .i64 x.1,.int .i64 (cY n x.2),.int .i64 (x.3 - 1),.int .u64 (aF s.3 (n+4+x.2)),.bool false])]else bif dn then K (.bool true) [some (.cells [.ptr 1 0,.bool true,.ptr 5 0,.ptr 6 0,.bool dn]),some (.cells [.int .i64 t,.int .i64 n,.int .i64 me,.int .i64 x.1,.slice 4 0 R.length 1]),some (.cells [.int .i64 s.1,.int .i64 s.2,.slice 3 0 s.3.length 1,.int .i64 (s.4+1),.int .i64 1,.int .i64 (n+4+x.2),.int .u64 (aF s.3 (n+4+x.2)),.int .u64 (aF s.3 (n+4+x.2)),.bool (bU s.3 (n+4+x.2))]),some (.ints (some .u64) s.3),some (.ints (some .i64) R),some (.cells [.int .i64 t,.int .i64 n,.int .i64 x.1,.int .i64 (cY n x.2),.int .i64 (x.3 - 1),.int .u64 (aF s.3 (n+4+x.2)),.bool false]),some (.cells [.ptr 1 0,.raw (Value.pointer none)])]else K (.bool (ieq (↑R.length:Int) 0)) [some (.cells [.ptr 1 0,.bool (ieq (↑R.length:Int) 0),.ptr 5 0,.ptr 6 0,.bool dn]),some (.cells [.int .i64 t,.int .i64 n,.int .i64 me,.int .i64 x.1,.slice 4 0 R.length 1]),some (.cells [.int .i64 s.1,.int .i64 s.2,.slice 3 0 s.3.length 1,.int .i64 (s.4+1),.int .i64 1,.int .i64 (n+4+x.2),.int .u64 (aF s.3 (n+4+x.2)),.int .u64 (aF s.3 (n+4+x.2)),.bool (bU s.3 (n+4+x.2))]),some (.ints (some .u64) s.3),some (.ints (some .i64) R),some (.cells [.int .i64 t,.int .i64 n,.int .i64 x.1,.int .i64 (cY n x.2),.int .i64 (x.3 - 1),.int .u64 (aF s.3 (n+4+x.2)),.bool false]),some (.cells [.ptr 1 0,.raw (Value.pointer none)])]else K (.bool false) [some (.cells [.ptr 1 0,.bool sh,.ptr 5 0,.raw (Value.pointer none),.bool dn]),some (.cells [.int .i64 t,.int .i64 n,.int .i64 me,.int .i64 sp,.slice 4 0 R.length 1]),some (.cells [.int .i64 s.1,.int .i64 s.2,.slice 3 0 s.3.length 1,.int .i64 (s.4+1),.int .i64 1,.int .i64 (n+4+x.2),.int .u64 (aF s.3 (n+4+x.2)),.int .u64 (aF s.3 (n+4+x.2)),.bool (bU s.3 (n+4+x.2))]),some (.ints (some .u64) s.3),some (.ints (some .i64) R),some (.cells [.int .i64 t,.int .i64 n,.int .i64 x.1,.int .i64 x.2,.int .i64 x.3,.int .u64 (aF s.3 (n+4+x.2)),.bool true])]):cT' 154 [.ptr 0 0,.ptr 2 0] [some (.cells [.ptr 1 0,.bool sh,.ptr 5 0,.raw (.pointer none),.bool dn]),some (.cells [.int .i64 t,.int .i64 n,.int .i64 me,.int .i64 sp,.slice 4 0 R.length 1]),bD 3 s,bE s,some (.ints (some .i64) R),YT t n x] K:=by
 refine aHp (cM' (E:=E42) (by kernel_rfl) hK)
theorem aGb(t n me sp:Int)(R:List Int)(sh dn:Bool)(x:AL)(y:SWS)(s:MS)(K:AVal→aC Ob→Prop)(hK:((lE' s.3∧lE' R)∧((1:Int)≤t∧t≤(1000:Int))∧((1:Int)≤n∧n≤(1000:Int))∧((0:Int)≤s.4∧s.4≤(1000000:Int))∧R.length≤(1000000:Nat))∧K (.bool false) [some (.cells [.ptr 1 0,.bool sh,.ptr 5 0,.ptr 6 0,.bool dn]),some (.cells [.int .i64 t,.int .i64 n,.int .i64 me,.int .i64 sp,.slice 4 0 R.length 1]),some (.cells [.int .i64 s.1,.int .i64 s.2,.slice 3 0 s.3.length 1,.int .i64 (s.4+1),.int .i64 1,.int .i64 (bZ n 0),.int .u64 (aF s.3 (bZ n 0)),.int .u64 (aF s.3 (bZ n 0)),.bool (bU s.3 (bZ n 0))]),some (.ints (some .u64) s.3),some (.ints (some .i64) R),some (.cells [.int .i64 t,.int .i64 n,.int .i64 x.1,.int .i64 x.2,.int .i64 x.3,.int .u64 x.4,.bool x.5]),some (.cells [.ptr 1 0,.ptr 7 0]),some (.cells [.int .i64 t,.int .i64 n,.raw (Value.slice none 0 0),.raw (Value.slice none 0 0),.slice 8 0 R.length 1,.map 9,.int .i64 1,.raw (Value.pointer none)]),some (.ints (some .i64) R),some (.imap .i64 none (bA [] n 0 s))]):cT' 154 [.ptr 0 0,.ptr 2 0] [some (.cells [.ptr 1 0,.bool sh,.ptr 5 0,.ptr 6 0,.bool dn]),some (.cells [.int .i64 t,.int .i64 n,.int .i64 me,.int .i64 sp,.slice 4 0 R.length 1]),bD 3 s,bE s,some (.ints (some .i64) R),YT t n x,some (.cells [.ptr 1 0,.raw (.pointer none)])] K:=by
 refine aHp (cM' (E:=E42) (by kernel_rfl) hK)
theorem aGc(t n me sp:Int)(R:List Int)(sh dn:Bool)(x:AL)(y:SWS)(s:MS)(K:AVal→aC Ob→Prop)(hK:((lE' s.3∧lE' R∧lE' y.2∧t=t∧n=n)∧((1:Int)≤t∧t≤(1000:Int))∧((1:Int)≤n∧n≤(1000:Int))∧((0:Int)≤s.4∧s.4≤(1000000:Int))∧y.2.length≤(1000000:Nat)∧(0:Int)≤y.4∧y.4<(2:Int)*t)∧bif ieq (y.4+1) (2*t)then bif ieq (↑(List.length (a8 (bA y.3 n y.4 s) y.2)):Int) 0 then K (.bool (ieq (↑(List.length (a8 (bA y.3 n y.4 s) y.2)):Int) 0)) [some (.cells [.ptr 1 0,.bool (ieq (↑(List.length (a8 (bA y.3 n y.4 s) y.2)):Int) 0),.raw (Value.pointer none),.raw (Value.pointer none),.bool true]),some (.cells [.int .i64 t,.int .i64 n,.int .i64 me,.int .i64 sp,.slice 10 0 (List.length (cI (bA y.3 n y.4 s) y.2)) 1]),some (.cells [.int .i64 s.1,.int .i64 s.2,.slice 3 0 s.3.length 1,.int .i64 (s.4+1),.int .i64 1,.int .i64 (bZ n y.4),.int .u64 (aF s.3 (bZ n y.4)),.int .u64 (aF s.3 (bZ n y.4)),.bool (bU s.3 (bZ n y.4))]),some (.ints (some .u64) s.3),some (.ints (some .i64) R),some (.cells [.int .i64 t,.int .i64 n,.int .i64 x.1,.int .i64 x.2,.int .i64 x.3,.int .u64 x.4,.bool x.5]),some (.cells [.ptr 1 0,.ptr 7 0]),some (.cells [.int .i64 t,.int .i64 n,.slice 10 0 (List.length (cI (bA y.3 n y.4 s) y.2)) 1,.slice 11 0 (List.length (a8 (bA y.3 n y.4 s) y.2)) 1,.slice 8 0 y.2.length 1,.map 9,.int .i64 (y.4+1),.ptr 12 0]),some (.ints (some .i64) y.2),some (.imap .i64 none (bA y.3 n y.4 s)),some (.ints (some .i64) (cI (bA y.3 n y.4 s) y.2)),some (.ints (some .i64) (a8 (bA y.3 n y.4 s) y.2)),some (.cells [.int .i64 t,.int .i64 n,.slice 13 0 (List.length (a8 (bA y.3 n y.4 s) y.2)) 1]),some (.ints (some .i64) (a8 (bA y.3 n y.4 s) y.2))]else K (.bool false) [some (.cells [.ptr 1 0,.bool sh,.ptr 5 0,.ptr 6 0,.bool dn]),some (.cells [.int .i64 t,.int .i64 n,.int .i64 me,.int .i64 sp,.slice 4 0 R.length 1]),some (.cells [.int .i64 s.1,.int .i64 s.2,.slice 3 0 s.3.length 1,.int .i64 (s.4+1),.int .i64 1,.int .i64 (bZ n y.4),.int .u64 (aF s.3 (bZ n y.4)),.int .u64 (aF s.3 (bZ n y.4)),.bool (bU s.3 (bZ n y.4))]),some (.ints (some .u64) s.3),some (.ints (some .i64) R),some (.cells [.int .i64 t,.int .i64 n,.int .i64 x.1,.int .i64 x.2,.int .i64 x.3,.int .u64 x.4,.bool x.5]),some (.cells [.ptr 1 0,.ptr 7 0]),some (.cells [.int .i64 t,.int .i64 n,.slice 10 0 (List.length (cI (bA y.3 n y.4 s) y.2)) 1,.slice 11 0 (List.length (a8 (bA y.3 n y.4 s) y.2)) 1,.slice 8 0 y.2.length 1,.map 9,.int .i64 (y.4+1),.ptr 12 0]),some (.ints (some .i64) y.2),some (.imap .i64 none (bA y.3 n y.4 s)),some (.ints (some .i64) (cI (bA y.3 n y.4 s) y.2)),some (.ints (some .i64) (a8 (bA y.3 n y.4 s) y.2)),some (.cells [.int .i64 t,.int .i64 n,.slice 13 0 (List.length (a8 (bA y.3 n y.4 s) y.2)) 1]),some (.ints (some .i64) (a8 (bA y.3 n y.4 s) y.2))]else K (.bool false) [some (.cells [.ptr 1 0,.bool sh,.ptr 5 0,.ptr 6 0,.bool dn]),some (.cells [.int .i64 t,.int .i64 n,.int .i64 me,.int .i64 sp,.slice 4 0 R.length 1]),some (.cells [.int .i64 s.1,.int .i64 s.2,.slice 3 0 s.3.length 1,.int .i64 (s.4+1),.int .i64 1,.int .i64 (bZ n y.4),.int .u64 (aF s.3 (bZ n y.4)),.int .u64 (aF s.3 (bZ n y.4)),.bool (bU s.3 (bZ n y.4))]),some (.ints (some .u64) s.3),some (.ints (some .i64) R),some (.cells [.int .i64 t,.int .i64 n,.int .i64 x.1,.int .i64 x.2,.int .i64 x.3,.int .u64 x.4,.bool x.5]),some (.cells [.ptr 1 0,.ptr 7 0]),some (.cells [.int .i64 t,.int .i64 n,.raw (Value.slice none 0 0),.raw (Value.slice none 0 0),.slice 8 0 y.2.length 1,.map 9,.int .i64 (y.4+1),.raw (Value.pointer none)]),some (.ints (some .i64) y.2),some (.imap .i64 none (bA y.3 n y.4 s))]):cT' 154 [.ptr 0 0,.ptr 2 0] [some (.cells [.ptr 1 0,.bool sh,.ptr 5 0,.ptr 6 0,.bool dn]),some (.cells [.int .i64 t,.int .i64 n,.int .i64 me,.int .i64 sp,.slice 4 0 R.length 1]),bD 3 s,bE s,some (.ints (some .i64) R),YT t n x,some (.cells [.ptr 1 0,.ptr 7 0]),some (.cells [.int .i64 t,.int .i64 n,.raw (.slice none 0 0),.raw (.slice none 0 0),.slice 8 0 y.N.length 1,.map 9,.int .i64 y.i,.raw (.pointer none)]),some (.ints (some .i64) y.N),some (.imap .i64 none y.m)] K:=by
 refine aHp (cM' (E:=E42) (by kernel_rfl) hK)
theorem aGd(t n me sp:Int)(R:List Int)(sh dn:Bool)(x:AL)(y:SWS)(s:MS)(K:AVal→aC Ob→Prop)(hK:((lE' s.3∧lE' R∧lE' y.5∧lE' y.6∧lE' y.2∧t=t∧n=n∧t=t∧n=n)∧((1:Int)≤t∧t≤(1000:Int))∧((1:Int)≤n∧n≤(1000:Int))∧((0:Int)≤s.4∧s.4≤(1000000:Int))∧2*t≤y.4∧((1:Nat)≤y.9∧y.7.length=y.8+y.9)∧(-1000000:Int)≤List.getD y.7 (y.8+Int.toNat 0*1) 0∧List.getD y.7 (y.8+Int.toNat 0*1) (0:Int)≤(1000000:Int))∧bif ieq (↑(y.9 - 1):Int) 0 then K (.bool (ieq (↑y.6.length:Int) 0)) [some (.cells [.ptr 1 0,.bool (ieq (↑y.6.length:Int) 0),.raw (Value.pointer none),.raw (Value.pointer none),.bool true]),some (.cells [.int .i64 t,.int .i64 n,.int .i64 me,.int .i64 sp,.slice 8 0 y.5.length 1]),some (.cells [.int .i64 s.1,.int .i64 s.2,.slice 3 0 (List.length (aX s.3 (b9 n y.7 y.8) (WU (aF s.3 (b9 n y.7 y.8)+1)))) 1,.int .i64 (s.4+1),.int .i64 4,.int .i64 (b9 n y.7 y.8),.int .u64 (aF s.3 (b9 n y.7 y.8)),.int .u64 (bif bU s.3 (b9 n y.7 y.8)then WU (aF s.3 (b9 n y.7 y.8)+1)else 0),.bool (bU s.3 (b9 n y.7 y.8))]),some (.ints (some .u64) (aX s.3 (b9 n y.7 y.8) (WU (aF s.3 (b9 n y.7 y.8)+1)))),some (.ints (some .i64) R),some (.cells [.int .i64 t,.int .i64 n,.int .i64 x.1,.int .i64 x.2,.int .i64 x.3,.int .u64 x.4,.bool x.5]),some (.cells [.ptr 1 0,.ptr 7 0]),some (.cells [.int .i64 t,.int .i64 n,.slice 8 0 y.5.length 1,.slice 9 0 y.6.length 1,.slice 10 0 y.2.length 1,.map 11,.int .i64 y.4,.ptr 12 0]),some (.ints (some .i64) y.5),some (.ints (some .i64) y.6),some (.ints (some .i64) y.2),some (.imap .i64 none y.3),some (.cells [.int .i64 t,.int .i64 n,.slice 13 (y.8+1) (y.9 - 1) 1]),some (.ints (some .i64) y.7)]else K (.bool false) [some (.cells [.ptr 1 0,.bool sh,.ptr 5 0,.ptr 6 0,.bool dn]),some (.cells [.int .i64 t,.int .i64 n,.int .i64 me,.int .i64 sp,.slice 4 0 R.length 1]),some (.cells [.int .i64 s.1,.int .i64 s.2,.slice 3 0 (List.length (aX s.3 (b9 n y.7 y.8) (WU (aF s.3 (b9 n y.7 y.8)+1)))) 1,.int .i64 (s.4+1),.int .i64 4,.int .i64 (b9 n y.7 y.8),.int .u64 (aF s.3 (b9 n y.7 y.8)),.int .u64 (bif bU s.3 (b9 n y.7 y.8)then WU (aF s.3 (b9 n y.7 y.8)+1)else 0),.bool (bU s.3 (b9 n y.7 y.8))]),some (.ints (some .u64) (aX s.3 (b9 n y.7 y.8) (WU (aF s.3 (b9 n y.7 y.8)+1)))),some (.ints (some .i64) R),some (.cells [.int .i64 t,.int .i64 n,.int .i64 x.1,.int .i64 x.2,.int .i64 x.3,.int .u64 x.4,.bool x.5]),some (.cells [.ptr 1 0,.ptr 7 0]),some (.cells [.int .i64 t,.int .i64 n,.slice 8 0 y.5.length 1,.slice 9 0 y.6.length 1,.slice 10 0 y.2.length 1,.map 11,.int .i64 y.4,.ptr 12 0]),some (.ints (some .i64) y.5),some (.ints (some .i64) y.6),some (.ints (some .i64) y.2),some (.imap .i64 none y.3),some (.cells [.int .i64 t,.int .i64 n,.slice 13 (y.8+1) (y.9 - 1) 1]),some (.ints (some .i64) y.7)]):cT' 154 [.ptr 0 0,.ptr 2 0] [some (.cells [.ptr 1 0,.bool sh,.ptr 5 0,.ptr 6 0,.bool dn]),some (.cells [.int .i64 t,.int .i64 n,.int .i64 me,.int .i64 sp,.slice 4 0 R.length 1]),bD 3 s,bE s,some (.ints (some .i64) R),YT t n x,some (.cells [.ptr 1 0,.ptr 7 0]),some (.cells [.int .i64 t,.int .i64 n,.slice 8 0 y.ks.length 1,.slice 9 0 y.fs.length 1,.slice 10 0 y.N.length 1,.map 11,.int .i64 y.i,.ptr 12 0]),some (.ints (some .i64) y.ks),some (.ints (some .i64) y.fs),some (.ints (some .i64) y.N),some (.imap .i64 none y.m),some (.cells [.int .i64 t,.int .i64 n,.slice 13 y.j y.l 1]),some (.ints (some .i64) y.gs)] K:=by
 refine aHp (cM' (E:=E42) (by kernel_rfl) hK)
theorem en2(t n:Int)(e:ENS)(st:STS)(s:MS)(K:AVal→aC Ob→Prop)(hp:e.ph=2)(ok:KM t n e st s)(hK:(enF t n e st s).left t n K):cT' 154 [.ptr 0 0,.ptr 2 0] (UK t n e st s) K:=by
 obtain⟨ht,hn,hc,hm,hR,ho⟩:=ok;obtain⟨ph,sh,dn,x,y⟩:=e;dsimp only at hp;subst hp;obtain⟨me,sp,R⟩:=st;dsimp only at hm hR;refine aB.pack tbl (aB.pack tbl ?_);refine aB.unpack tbl (.store t n ⟨me,sp,R⟩) 1 0 (dC t n ⟨me,sp,R⟩) [] rfl rfl rfl rfl ?_;refine aB.unpack tbl (.ensure t n ⟨2,sh,dn,x,y⟩) 0 1 (DN t n ⟨2,sh,dn,x,y⟩) [1] rfl rfl rfl rfl ?_;refine aGb t n me sp R sh dn x y s _ ?_;exact⟨⟨⟨rfl,rfl⟩,ht,hn,hc,hR⟩,gP (o:=enF t n ⟨2,sh,dn,x,y⟩ ⟨me,sp,R⟩ s) [0,1,2,3,4,5,6,7,8,9] hK rfl rfl⟩
theorem en3(t n:Int)(e:ENS)(st:STS)(s:MS)(K:AVal→aC Ob→Prop)(hp:e.ph=3)(ok:KM t n e st s)(hK:(enF t n e st s).left t n K):cT' 154 [.ptr 0 0,.ptr 2 0] (UK t n e st s) K:=by
 obtain⟨ht,hn,hc,hm,hR,ho⟩:=ok;obtain⟨ph,sh,dn,x,y⟩:=e;dsimp only at hp;subst hp;obtain⟨me,sp,R⟩:=st;dsimp only at hm hR;refine aB.pack tbl (aB.pack tbl ?_);refine aB.unpack tbl (.store t n ⟨me,sp,R⟩) 1 0 (dC t n ⟨me,sp,R⟩) [] rfl rfl rfl rfl ?_;refine aB.unpack tbl (.ensure t n ⟨3,sh,dn,x,y⟩) 0 1 (DN t n ⟨3,sh,dn,x,y⟩) [1] rfl rfl rfl rfl ?_;refine aGc t n me sp R sh dn x y s _ ?_;have ho:y.N.length≤1000000∧0≤y.i∧y.i<2*t:=ho;refine⟨⟨⟨rfl,rfl,rfl,rfl,rfl⟩,ht,hn,hc,ho.1,ho.2⟩,?_⟩;unfold enF at hK;dsimp only at hK;cases h1:ieq (y.i+1) (2*t)with
 | false=>
   rw [h1]at hK;exact gP (o:=⟨false,⟨3,sh,dn,x,{y with m:=bA y.m n y.i s,i:=y.i+1}⟩,⟨me,sp,R⟩,s.loadd (bZ n y.i)⟩) [0,1,2,3,4,5,6,7,8,9] hK rfl rfl
 | true=>
   rw [h1]at hK;cases h2:ieq ((a8 (bA y.m n y.i s) y.N).length :Int) 0 with
   | true=>
     rw [h2]at hK;exact gP (o:=⟨true,⟨0,true,true,x,y⟩,⟨me,sp,cI (bA y.m n y.i s) y.N⟩,s.loadd (bZ n y.i)⟩) [0,1,2,3,10] hK rfl rfl
   | false=>
     rw [h2]at hK;exact gP (o:=⟨false,⟨4,sh,dn,x,⟨0,y.N,bA y.m n y.i s,y.i+1,cI (bA y.m n y.i s) y.N,a8 (bA y.m n y.i s) y.N,a8 (bA y.m n y.i s) y.N,0,(a8 (bA y.m n y.i s) y.N).length⟩⟩,⟨me,sp,R⟩,s.loadd (bZ n y.i)⟩) [0,1,2,3,4,5,6,7,10,11,8,9,12,13] hK rfl rfl
theorem en4(t n:Int)(e:ENS)(st:STS)(s:MS)(K:AVal→aC Ob→Prop)(hp:e.ph=4)(ok:KM t n e st s)(hK:(enF t n e st s).left t n K):cT' 154 [.ptr 0 0,.ptr 2 0] (UK t n e st s) K:=by
 obtain⟨ht,hn,hc,hm,hR,ho⟩:=ok;obtain⟨ph,sh,dn,x,y⟩:=e;dsimp only at hp;subst hp;obtain⟨me,sp,R⟩:=st;dsimp only at hm hR;refine aB.pack tbl (aB.pack tbl ?_);refine aB.unpack tbl (.store t n ⟨me,sp,R⟩) 1 0 (dC t n ⟨me,sp,R⟩) [] rfl rfl rfl rfl ?_;refine aB.unpack tbl (.ensure t n ⟨4,sh,dn,x,y⟩) 0 1 (DN t n ⟨4,sh,dn,x,y⟩) [1] rfl rfl rfl rfl ?_;refine aGd t n me sp R sh dn x y s _ ?_;have ho:2*t≤y.i∧1≤y.l∧y.gs.length=y.j+y.l∧ -1000000≤List.getD y.gs (y.j+Int.toNat 0*1) 0∧List.getD y.gs (y.j+Int.toNat 0*1) 0≤1000000:=ho;refine⟨⟨⟨rfl,rfl,rfl,rfl,rfl,rfl,rfl,rfl,rfl⟩,ht,hn,hc,ho.1,⟨ho.2.1,ho.2.2.1⟩,ho.2.2.2⟩,?_⟩;unfold enF at hK;dsimp only at hK;cases h1:ieq ((y.l - 1:Nat):Int) 0 with
 | false=>
   rw [h1]at hK;exact gP (o:=⟨false,⟨4,sh,dn,x,{y with j:=y.j+1,l:=y.l - 1}⟩,⟨me,sp,R⟩,s.added (b9 n y.gs y.j) 1⟩) [0,1,2,3,4,5,6,7,8,9,10,11,12,13] hK rfl rfl
 | true=>
   rw [h1]at hK;exact gP (o:=⟨ieq (y.fs.length:Int) 0,⟨0,ieq (y.fs.length:Int) 0,true,x,y⟩,⟨me,sp,y.ks⟩,s.added (b9 n y.gs y.j) 1⟩) [0,1,2,3,8] hK rfl rfl
theorem en1(t n:Int)(e:ENS)(st:STS)(s:MS)(K:AVal→aC Ob→Prop)(hp:e.ph=1)(ok:KM t n e st s)(hK:(enF t n e st s).left t n K):cT' 154 [.ptr 0 0,.ptr 2 0] (UK t n e st s) K:=by
 obtain⟨ht,hn,hc,hm,hR,ho⟩:=ok;obtain⟨ph,sh,dn,x,y⟩:=e;dsimp only at hp;subst hp;obtain⟨me,sp,R⟩:=st;dsimp only at hm hR;refine aB.pack tbl (aB.pack tbl ?_);refine aB.unpack tbl (.store t n ⟨me,sp,R⟩) 1 0 (dC t n ⟨me,sp,R⟩) [] rfl rfl rfl rfl ?_;refine aB.unpack tbl (.ensure t n ⟨1,sh,dn,x,y⟩) 0 1 (DN t n ⟨1,sh,dn,x,y⟩) [1] rfl rfl rfl rfl ?_;refine aGa t n me sp R sh dn x y s _ ?_;have ho:okAl n x:=ho;obtain⟨hg,ha,hl⟩:=ho;refine⟨⟨rfl,ht,hn,ha,hl,hc⟩,?_⟩;obtain⟨got,at',left,found,free⟩:=x;dsimp only at hg ha hl⊢;subst hg;have i0:ieq at' 0=false:=by rw [cN];simp;omega
 have i00:ieq 0 0=true:=rfl;rw [i0,i00];unfold enF rN I9 at hK;dsimp only at hK;cases free with
 | false=>
   dsimp only [cond]at hK⊢;cases ho:oddB (aF s.xs (n+4+at'))with
   | false=>
     rw [ho]at hK;exact gP (o:=⟨false,⟨1,sh,dn,⟨0,at',left,aF s.xs (n+4+at'),true⟩,y⟩,⟨me,sp,R⟩,s.loadd (n+4+at')⟩) [0,1,2,3,4,5] hK rfl rfl
   | true=>
     rw [ho]at hK;dsimp only [cond]at hK⊢;cases hw:ile (left - 1) 0 with
     | false=>
       rw [hw]at hK;exact gP (o:=⟨false,⟨1,sh,dn,⟨0,cY n at',left - 1,aF s.xs (n+4+at'),false⟩,y⟩,⟨me,sp,R⟩,s.loadd (n+4+at')⟩) [0,1,2,3,4,5] hK rfl rfl
     | true=>
       rw [hw]at hK;cases dn with
       | true=>exact gP (o:=⟨true,⟨2,true,true,⟨0,cY n at',left - 1,aF s.xs (n+4+at'),false⟩,y⟩,⟨me,0,R⟩,s.loadd (n+4+at')⟩) [0,1,2,3,4,5,6] hK rfl rfl
       | false=>exact gP (o:=⟨ieq (R.length:Int) 0,⟨2,ieq (R.length:Int) 0,false,⟨0,cY n at',left - 1,aF s.xs (n+4+at'),false⟩,y⟩,⟨me,0,R⟩,s.loadd (n+4+at')⟩) [0,1,2,3,4,5,6] hK rfl rfl
 | true=>
   dsimp only [cond]at hK⊢;unfold MS.cased at hK;cases hb:aV s.xs (n+4+at') found with
   | true=>
     rw [hb]at hK;exact gP (o:=⟨true,⟨1,sh,dn,⟨at',at',left,found,true⟩,y⟩,⟨me,at',R⟩,_⟩) [0,1,2,3,4,5] hK rfl rfl
   | false=>
     rw [hb]at hK;dsimp only [cond]at hK⊢;cases hw:ile (left - 1) 0 with
     | false=>
       rw [hw]at hK;exact gP (o:=⟨false,⟨1,sh,dn,⟨0,cY n at',left - 1,found,false⟩,y⟩,⟨me,sp,R⟩,_⟩) [0,1,2,3,4,5] hK rfl rfl
     | true=>
       rw [hw]at hK;cases dn with
       | true=>exact gP (o:=⟨true,⟨2,true,true,⟨0,cY n at',left - 1,found,false⟩,y⟩,⟨me,0,R⟩,_⟩) [0,1,2,3,4,5,6] hK rfl rfl
       | false=>exact gP (o:=⟨ieq (R.length:Int) 0,⟨2,ieq (R.length:Int) 0,false,⟨0,cY n at',left - 1,found,false⟩,y⟩,⟨me,0,R⟩,_⟩) [0,1,2,3,4,5,6] hK rfl rfl
theorem en0(t n:Int)(e:ENS)(st:STS)(s:MS)(K:AVal→aC Ob→Prop)(hp:e.ph=0)(ok:KM t n e st s)(hK:(enF t n e st s).left t n K):cT' 154 [.ptr 0 0,.ptr 2 0] (UK t n e st s) K:=by
 obtain⟨ht,hn,hc,hm,hR,ho⟩:=ok;obtain⟨ph,sh,dn,x,y⟩:=e;dsimp only at hp;subst hp;obtain⟨me,sp,R⟩:=st;dsimp only at hm hR;refine aB.pack tbl (aB.pack tbl ?_);refine aB.unpack tbl (.store t n ⟨me,sp,R⟩) 1 0 (dC t n ⟨me,sp,R⟩) [] rfl rfl rfl rfl ?_;refine aB.unpack tbl (.ensure t n ⟨0,sh,dn,x,y⟩) 0 1 (DN t n ⟨0,sh,dn,x,y⟩) [1] rfl rfl rfl rfl ?_;refine aF9 t n me sp R sh dn x y s _ ?_;unfold enF rN I9 at hK;dsimp only at hK;cases hz:ieq sp 0 with
 | false=>
   rw [hz]at hK;exact⟨⟨rfl,by omega⟩,gP (o:=⟨true,⟨0,sh,dn,x,y⟩,⟨me,sp,R⟩,s.loadd 0⟩) [0,1,2,3,4] hK rfl rfl⟩
 | true=>
   rw [hz]at hK
   have ha:1≤at0 t n me∧at0 t n me≤n:=by
    unfold at0 bY;cases h1:(ile 1 (aP t n me))<;>cases h2:ile (aP t n me) n<;>simp only [Bool.and_true,Bool.and_false,Bool.and_self,cond_true,cond_false]<;>rw [cC]at h1 h2<;>simp at h1 h2<;>omega
   refine⟨⟨by omega,by omega⟩,⟨trivial,trivial⟩,⟨rfl,ht,hn,ha,by omega,hc⟩,?_⟩
   show cond (oddB (aF s.xs (n+4+at0 t n me))) _ _;cases ho:oddB (aF s.xs (n+4+at0 t n me))with
   | false=>
     rw [ho]at hK;exact gP (o:=⟨false,⟨1,sh,dn,⟨0,at0 t n me,n,aF s.xs (n+4+at0 t n me),true⟩,y⟩,⟨me,sp,R⟩,s.loadd (n+4+at0 t n me)⟩) [0,1,2,3,4,5] hK rfl rfl
   | true=>
     rw [ho]at hK;dsimp only [cond]at hK⊢;cases hw:ile (n - 1) 0 with
     | false=>
       rw [hw]at hK;exact gP (o:=⟨false,⟨1,sh,dn,⟨0,cY n (at0 t n me),n - 1,aF s.xs (n+4+at0 t n me),false⟩,y⟩,⟨me,sp,R⟩,s.loadd (n+4+at0 t n me)⟩) [0,1,2,3,4,5] hK rfl rfl
     | true=>
       rw [hw]at hK;cases dn with
       | true=>exact gP (o:=⟨true,⟨2,true,true,⟨0,cY n (at0 t n me),n - 1,aF s.xs (n+4+at0 t n me),false⟩,y⟩,⟨me,0,R⟩,s.loadd (n+4+at0 t n me)⟩) [0,1,2,3,4,5,6] hK rfl rfl
       | false=>exact gP (o:=⟨ieq (R.length:Int) 0,⟨2,ieq (R.length:Int) 0,false,⟨0,cY n (at0 t n me),n - 1,aF s.xs (n+4+at0 t n me),false⟩,y⟩,⟨me,0,R⟩,s.loadd (n+4+at0 t n me)⟩) [0,1,2,3,4,5,6] hK rfl rfl
theorem G8(t n:Int)(e:ENS)(st:STS)(s:MS)(K:AVal→aC Ob→Prop)(ok:KM t n e st s)(hK:(enF t n e st s).left t n K):cT' 154 [.ptr 0 0,.ptr 2 0] (UK t n e st s) K:=by
 match h:e.ph with
 | 0=>exact en0 t n e st s K h ok hK
 | 1=>exact en1 t n e st s K h ok hK
 | 2=>exact en2 t n e st s K h ok hK
 | 3=>exact en3 t n e st s K h ok hK
 | 4=>exact en4 t n e st s K h ok hK
 | k+5=>have:=ok.ho;unfold aFd at this;rw [h]at this;exact this.elim
noncomputable def enS:aH Ob:=fun args h=>match args,h with
 | [.ptr 0 0,.ptr 2 0],[some (.abs (.ensure t n e) [1]),some (.abs (.store t' n' st) []),e1,e2]=>(match cO 3 [e1,e2]with
   | some (l,s)=>some (.pre ((l=s.xs.length∧t'=t∧n'=n)∧KM t n e st s) (.ret (.bool (enF t n e st s).d) (UK t n (enF t n e st s).e (enF t n e st s).st (enF t n e st s).s)))
   | none=>none)
 | _,_=>none
theorem aEi:aH.ok E42.I Tryz.prog 154 enS:=by
 intro args h o ho K hK;unfold enS at ho;split at ho
 case h_2=>cases ho
 split at ho<;>cases ho
 rename_i hm;obtain⟨⟨⟨hl,ht',hn'⟩,ok⟩,hK⟩:=hK;have hh:=bF hm hl;cases hh;subst ht' hn';exact G8 _ _ _ _ _ K ok hK
noncomputable def enE:=E42.addS 154 enS aEi
structure SO where
 d:Bool
 e:SWS
 st:STS
 s:MS
instance:Inhabited SO:=⟨⟨false,bN,⟨0,0,[]⟩,⟨0,0,[],0,0,0,0,0,false⟩⟩⟩
def swF(t n:Int)(y:SWS)(st:STS)(s:MS):SO:=match y.ph with
 | 0=>⟨false,{y with ph:=1,N:=st.R,m:=bA [] n 0 s,i:=1},st,s.loadd (bZ n 0)⟩
 | 1=>(match ieq (y.i+1) (2*t),ieq ((a8 (bA y.m n y.i s) y.N).length :Int) 0 with
   | true,true=>⟨true,{y with ph:=3},{st with R:=cI (bA y.m n y.i s) y.N},s.loadd (bZ n y.i)⟩
   | true,false=>⟨false,⟨2,y.N,bA y.m n y.i s,y.i+1,cI (bA y.m n y.i s) y.N,a8 (bA y.m n y.i s) y.N,a8 (bA y.m n y.i s) y.N,0,(a8 (bA y.m n y.i s) y.N).length⟩,st,s.loadd (bZ n y.i)⟩
   | false,_=>⟨false,{y with m:=bA y.m n y.i s,i:=y.i+1},st,s.loadd (bZ n y.i)⟩)
 | _=>(match ieq ((y.l - 1:Nat):Int) 0 with
   | true=>⟨true,{y with ph:=3},{st with R:=y.ks},s.added (b9 n y.gs y.j) 1⟩
   | false=>⟨false,{y with j:=y.j+1,l:=y.l - 1},st,s.added (b9 n y.gs y.j) 1⟩)
def ZN(t n:Int)(y:SWS):Prop:=match y.ph with
 | 0=>True
 | 1=>y.N.length≤1000000∧0≤y.i∧y.i<2*t
 | 2=>2*t≤y.i∧1≤y.l∧y.gs.length=y.j+y.l∧ -1000000≤List.getD y.gs (y.j+Int.toNat 0*1) 0∧List.getD y.gs (y.j+Int.toNat 0*1) 0≤1000000
 | _=>False
structure qO (t n:Int) (y:SWS) (st:STS) (s:MS):Prop where
 ht:1≤t∧t≤1000
 hn:1≤n∧n≤1000
 hc:0≤s.c∧s.c≤1000000
 hR:st.R.length≤1000000
 ho:ZN t n y
def swH(t n:Int)(y:SWS)(st:STS)(s:MS):aC Ob:=[some (.abs (.sweep t n y) [1]),some (.abs (.store t n st) []),bD 3 s,bE s]
def SO.left(o:SO)(t n:Int)(K:AVal→aC Ob→Prop):Prop:=K (.bool o.d) (swH t n o.e o.st o.s)
theorem xG{K:AVal→aC Ob→Prop}{t n:Int}{o:SO}{g':aC Ob}(pl:List Nat)(hK:o.left t n K)
 (hb:(d0 pl g'.length&&jB pl 0 4&&obOk 1 (LH t n o.e))=true)
 (hT:gC pl g'=aL [some (.abs (.sweep t n o.e) [1]),some (.cells [.int .i64 t,.int .i64 n,.int .i64 o.st.me,.int .i64 o.st.sp,.slice 4 0 o.st.R.length 1]),bD 3 o.s,bE o.s,some (.ints (some .i64) o.st.R)] 0 1 (LH t n o.e) [1]):zL tbl 4 (zL tbl 4 K) (.bool o.d) g':=by
 simp only [Bool.and_eq_true]at hb;obtain⟨⟨b1,b2⟩,b3⟩:=hb;refine⟨pl,_,.sweep t n o.e,0,1,_,[1],?_,hT,rfl,rfl,⟨[0,1,2,3,4],[some (.abs (.sweep t n o.e) [1]),some (.abs (.store t n o.st) []),bD 3 o.s,bE o.s],.store t n o.st,1,0,dC t n o.st,[],rfl,rfl,rfl,rfl,?_⟩⟩
 ·rw [b1,b2,b3];rfl
 ·exact hK
def QV(t n me sp:Int)(R:List Int)(y:SWS)(s:MS)(K:AVal→aC Ob→Prop):Prop:=((lE' s.3∧lE' R)∧((1:Int)≤t∧t≤(1000:Int))∧((1:Int)≤n∧n≤(1000:Int))∧((0:Int)≤s.4∧s.4≤(1000000:Int))∧R.length≤(1000000:Nat))∧K (.bool false) [some (.cells [.ptr 1 0,.ptr 5 0]),some (.cells [.int .i64 t,.int .i64 n,.int .i64 me,.int .i64 sp,.slice 4 0 R.length 1]),some (.cells [.int .i64 s.1,.int .i64 s.2,.slice 3 0 s.3.length 1,.int .i64 (s.4+1),.int .i64 1,.int .i64 (bZ n 0),.int .u64 (aF s.3 (bZ n 0)),.int .u64 (aF s.3 (bZ n 0)),.bool (bU s.3 (bZ n 0))]),some (.ints (some .u64) s.3),some (.ints (some .i64) R),some (.cells [.int .i64 t,.int .i64 n,.raw (Value.slice none 0 0),.raw (Value.slice none 0 0),.slice 6 0 R.length 1,.map 7,.int .i64 1,.raw (Value.pointer none)]),some (.ints (some .i64) R),some (.imap .i64 none (bA [] n 0 s))]
theorem aGr(t n me sp:Int)(R:List Int)(y:SWS)(s:MS)(K:AVal→aC Ob→Prop)(hK:QV t n me sp R y s K):cT' 169 [.ptr 0 0,.ptr 2 0] [some (.cells [.ptr 1 0,.raw (.pointer none)]),some (.cells [.int .i64 t,.int .i64 n,.int .i64 me,.int .i64 sp,.slice 4 0 R.length 1]),bD 3 s,bE s,some (.ints (some .i64) R)] K:=
 (jM oK) _ _ _ (Ev.get (aK (p:=mW swStepS [.ptr 0 0,.ptr 2 0] [some (.cells [.ptr 1 0,.raw (.pointer none)]),some (.cells [.int .i64 t,.int .i64 n,.int .i64 me,.int .i64 sp,.slice 4 0 R.length 1]),bD 3 s,bE s,some (.ints (some .i64) R)] K) (q:=QV t n me sp R y s K) (by kernel_rfl) hK))
def QX(t n me sp:Int)(R:List Int)(y:SWS)(s:MS)(K:AVal→aC Ob→Prop):Prop:=((lE' s.3∧lE' R∧lE' y.2∧t=t∧n=n)∧((1:Int)≤t∧t≤(1000:Int))∧((1:Int)≤n∧n≤(1000:Int))∧((0:Int)≤s.4∧s.4≤(1000000:Int))∧y.2.length≤(1000000:Nat)∧(0:Int)≤y.4∧y.4<(2:Int)*t)∧bif ieq (y.4+1) (2*t)then bif ieq (↑(List.length (a8 (bA y.3 n y.4 s) y.2)):Int) 0 then K (.bool true) [some (.cells [.ptr 1 0,.ptr 5 0]),some (.cells [.int .i64 t,.int .i64 n,.int .i64 me,.int .i64 sp,.slice 8 0 (List.length (cI (bA y.3 n y.4 s) y.2)) 1]),some (.cells [.int .i64 s.1,.int .i64 s.2,.slice 3 0 s.3.length 1,.int .i64 (s.4+1),.int .i64 1,.int .i64 (bZ n y.4),.int .u64 (aF s.3 (bZ n y.4)),.int .u64 (aF s.3 (bZ n y.4)),.bool (bU s.3 (bZ n y.4))]),some (.ints (some .u64) s.3),some (.ints (some .i64) R),some (.cells [.int .i64 t,.int .i64 n,.slice 8 0 (List.length (cI (bA y.3 n y.4 s) y.2)) 1,.slice 9 0 (List.length (a8 (bA y.3 n y.4 s) y.2)) 1,.slice 6 0 y.2.length 1,.map 7,.int .i64 (y.4+1),.ptr 10 0]),some (.ints (some .i64) y.2),some (.imap .i64 none (bA y.3 n y.4 s)),some (.ints (some .i64) (cI (bA y.3 n y.4 s) y.2)),some (.ints (some .i64) (a8 (bA y.3 n y.4 s) y.2)),some (.cells [.int .i64 t,.int .i64 n,.slice 11 0 (List.length (a8 (bA y.3 n y.4 s) y.2)) 1]),some (.ints (some .i64) (a8 (bA y.3 n y.4 s) y.2))]else K (.bool false) [some (.cells [.ptr 1 0,.ptr 5 0]),some (.cells [.int .i64 t,.int .i64 n,.int .i64 me,.int .i64 sp,.slice 4 0 R.length 1]),some (.cells [.int .i64 s.1,.int .i64 s.2,.slice 3 0 s.3.length 1,.int .i64 (s.4+1),.int .i64 1,.int .i64 (bZ n y.4),.int .u64 (aF s.3 (bZ n y.4)),.int .u64 (aF s.3 (bZ n y.4)),.bool (bU s.3 (bZ n y.4))]),some (.ints (some .u64) s.3),some (.ints (some .i64) R),some (.cells [.int .i64 t,.int .i64 n,.slice 8 0 (List.length (cI (bA y.3 n y.4 s) y.2)) 1,.slice 9 0 (List.length (a8 (bA y.3 n y.4 s) y.2)) 1,.slice 6 0 y.2.length 1,.map 7,.int .i64 (y.4+1),.ptr 10 0]),some (.ints (some .i64) y.2),some (.imap .i64 none (bA y.3 n y.4 s)),some (.ints (some .i64) (cI (bA y.3 n y.4 s) y.2)),some (.ints (some .i64) (a8 (bA y.3 n y.4 s) y.2)),some (.cells [.int .i64 t,.int .i64 n,.slice 11 0 (List.length (a8 (bA y.3 n y.4 s) y.2)) 1]),some (.ints (some .i64) (a8 (bA y.3 n y.4 s) y.2))]else K (.bool false) [some (.cells [.ptr 1 0,.ptr 5 0]),some (.cells [.int .i64 t,.int .i64 n,.int .i64 me,.int .i64 sp,.slice 4 0 R.length 1]),some (.cells [.int .i64 s.1,.int .i64 s.2,.slice 3 0 s.3.length 1,.int .i64 (s.4+1),.int .i64 1,.int .i64 (bZ n y.4),.int .u64 (aF s.3 (bZ n y.4)),.int .u64 (aF s.3 (bZ n y.4)),.bool (bU s.3 (bZ n y.4))]),some (.ints (some .u64) s.3),some (.ints (some .i64) R),some (.cells [.int .i64 t,.int .i64 n,.raw (Value.slice none 0 0),.raw (Value.slice none 0 0),.slice 6 0 y.2.length 1,.map 7,.int .i64 (y.4+1),.raw (Value.pointer none)]),some (.ints (some .i64) y.2),some (.imap .i64 none (bA y.3 n y.4 s))]
theorem aGs(t n me sp:Int)(R:List Int)(y:SWS)(s:MS)(K:AVal→aC Ob→Prop)(hK:QX t n me sp R y s K):cT' 169 [.ptr 0 0,.ptr 2 0] [some (.cells [.ptr 1 0,.ptr 5 0]),some (.cells [.int .i64 t,.int .i64 n,.int .i64 me,.int .i64 sp,.slice 4 0 R.length 1]),bD 3 s,bE s,some (.ints (some .i64) R),some (.cells [.int .i64 t,.int .i64 n,.raw (.slice none 0 0),.raw (.slice none 0 0),.slice 6 0 y.N.length 1,.map 7,.int .i64 y.i,.raw (.pointer none)]),some (.ints (some .i64) y.N),some (.imap .i64 none y.m)] K:=
 (jM oK) _ _ _ (Ev.get (aK (p:=mW swStepS [.ptr 0 0,.ptr 2 0] [some (.cells [.ptr 1 0,.ptr 5 0]),some (.cells [.int .i64 t,.int .i64 n,.int .i64 me,.int .i64 sp,.slice 4 0 R.length 1]),bD 3 s,bE s,some (.ints (some .i64) R),some (.cells [.int .i64 t,.int .i64 n,.raw (.slice none 0 0),.raw (.slice none 0 0),.slice 6 0 y.N.length 1,.map 7,.int .i64 y.i,.raw (.pointer none)]),some (.ints (some .i64) y.N),some (.imap .i64 none y.m)] K) (q:=QX t n me sp R y s K) (by kernel_rfl) hK))
def QY(t n me sp:Int)(R:List Int)(y:SWS)(s:MS)(K:AVal→aC Ob→Prop):Prop:=((lE' s.3∧lE' R∧lE' y.5∧lE' y.6∧lE' y.2∧t=t∧n=n∧t=t∧n=n)∧((1:Int)≤t∧t≤(1000:Int))∧((1:Int)≤n∧n≤(1000:Int))∧((0:Int)≤s.4∧s.4≤(1000000:Int))∧2*t≤y.4∧((1:Nat)≤y.9∧y.7.length=y.8+y.9)∧(-1000000:Int)≤List.getD y.7 (y.8+Int.toNat 0*1) 0∧List.getD y.7 (y.8+Int.toNat 0*1) (0:Int)≤(1000000:Int))∧bif ieq (↑(y.9 - 1):Int) 0 then K (.bool true) [some (.cells [.ptr 1 0,.ptr 5 0]),some (.cells [.int .i64 t,.int .i64 n,.int .i64 me,.int .i64 sp,.slice 6 0 y.5.length 1]),some (.cells [.int .i64 s.1,.int .i64 s.2,.slice 3 0 (List.length (aX s.3 (b9 n y.7 y.8) (WU (aF s.3 (b9 n y.7 y.8)+1)))) 1,.int .i64 (s.4+1),.int .i64 4,.int .i64 (b9 n y.7 y.8),.int .u64 (aF s.3 (b9 n y.7 y.8)),.int .u64 (bif bU s.3 (b9 n y.7 y.8)then WU (aF s.3 (b9 n y.7 y.8)+1)else 0),.bool (bU s.3 (b9 n y.7 y.8))]),some (.ints (some .u64) (aX s.3 (b9 n y.7 y.8) (WU (aF s.3 (b9 n y.7 y.8)+1)))),some (.ints (some .i64) R),some (.cells [.int .i64 t,.int .i64 n,.slice 6 0 y.5.length 1,.slice 7 0 y.6.length 1,.slice 8 0 y.2.length 1,.map 9,.int .i64 y.4,.ptr 10 0]),some (.ints (some .i64) y.5),some (.ints (some .i64) y.6),some (.ints (some .i64) y.2),some (.imap .i64 none y.3),some (.cells [.int .i64 t,.int .i64 n,.slice 11 (y.8+1) (y.9 - 1) 1]),some (.ints (some .i64) y.7)]else K (.bool false) [some (.cells [.ptr 1 0,.ptr 5 0]),some (.cells [.int .i64 t,.int .i64 n,.int .i64 me,.int .i64 sp,.slice 4 0 R.length 1]),some (.cells [.int .i64 s.1,.int .i64 s.2,.slice 3 0 (List.length (aX s.3 (b9 n y.7 y.8) (WU (aF s.3 (b9 n y.7 y.8)+1)))) 1,.int .i64 (s.4+1),.int .i64 4,.int .i64 (b9 n y.7 y.8),.int .u64 (aF s.3 (b9 n y.7 y.8)),.int .u64 (bif bU s.3 (b9 n y.7 y.8)then WU (aF s.3 (b9 n y.7 y.8)+1)else 0),.bool (bU s.3 (b9 n y.7 y.8))]),some (.ints (some .u64) (aX s.3 (b9 n y.7 y.8) (WU (aF s.3 (b9 n y.7 y.8)+1)))),some (.ints (some .i64) R),some (.cells [.int .i64 t,.int .i64 n,.slice 6 0 y.5.length 1,.slice 7 0 y.6.length 1,.slice 8 0 y.2.length 1,.map 9,.int .i64 y.4,.ptr 10 0]),some (.ints (some .i64) y.5),some (.ints (some .i64) y.6),some (.ints (some .i64) y.2),some (.imap .i64 none y.3),some (.cells [.int .i64 t,.int .i64 n,.slice 11 (y.8+1) (y.9 - 1) 1]),some (.ints (some .i64) y.7)]
theorem aGt(t n me sp:Int)(R:List Int)(y:SWS)(s:MS)(K:AVal→aC Ob→Prop)(hK:QY t n me sp R y s K):cT' 169 [.ptr 0 0,.ptr 2 0] [some (.cells [.ptr 1 0,.ptr 5 0]),some (.cells [.int .i64 t,.int .i64 n,.int .i64 me,.int .i64 sp,.slice 4 0 R.length 1]),bD 3 s,bE s,some (.ints (some .i64) R),some (.cells [.int .i64 t,.int .i64 n,.slice 6 0 y.ks.length 1,.slice 7 0 y.fs.length 1,.slice 8 0 y.N.length 1,.map 9,.int .i64 y.i,.ptr 10 0]),some (.ints (some .i64) y.ks),some (.ints (some .i64) y.fs),some (.ints (some .i64) y.N),some (.imap .i64 none y.m),some (.cells [.int .i64 t,.int .i64 n,.slice 11 y.j y.l 1]),some (.ints (some .i64) y.gs)] K:=
 (jM oK) _ _ _ (Ev.get (aK (p:=mW swStepS [.ptr 0 0,.ptr 2 0] [some (.cells [.ptr 1 0,.ptr 5 0]),some (.cells [.int .i64 t,.int .i64 n,.int .i64 me,.int .i64 sp,.slice 4 0 R.length 1]),bD 3 s,bE s,some (.ints (some .i64) R),some (.cells [.int .i64 t,.int .i64 n,.slice 6 0 y.ks.length 1,.slice 7 0 y.fs.length 1,.slice 8 0 y.N.length 1,.map 9,.int .i64 y.i,.ptr 10 0]),some (.ints (some .i64) y.ks),some (.ints (some .i64) y.fs),some (.ints (some .i64) y.N),some (.imap .i64 none y.m),some (.cells [.int .i64 t,.int .i64 n,.slice 11 y.j y.l 1]),some (.ints (some .i64) y.gs)] K) (q:=QY t n me sp R y s K) (by kernel_rfl) hK))
theorem wc{x y:Option (aJ Ob)}{g g2:aC Ob}(h:o8 x y)(k:lB g g2):lB (x::g) (y::g2):=⟨h,k⟩
theorem wv{v w:AVal}{vs ws:List AVal}(h:w=v∨w=.O)(k:nX vs ws):nX (v::vs) (w::ws):=⟨h,k⟩
theorem aGx:nX [] []:=trivial
theorem aFy{vs ws:List AVal}(h:nX vs ws):o8 (some (.cells vs):Option (aJ Ob)) (some (.cells ws)):=h
theorem wvs: ∀vs:List AVal,nX vs vs
 | []=>trivial
 | v::vs=>⟨.inl rfl,wvs vs⟩
theorem aFE: ∀x:Option (aJ Ob),o8 x x
 | none=>trivial
 | some (.cells vs)=>wvs vs
 | some (.ints c xs)=>rfl
 | some (.abs t ps)=>rfl
 | some (.tab ks r)=>rfl
 | some (.imap k v m)=>rfl
theorem GW: ∀g:aC Ob,lB g g
 | []=>trivial
 | x::g=>⟨aFE x,GW g⟩
theorem tM{K:AVal→aC Ob→Prop}{v:AVal}{g:aC Ob}(h:K v g):L2 K v g:=⟨g,GW g,h⟩
theorem CQ{K:AVal→aC Ob→Prop}{v a b:AVal}{g:aC Ob}(h:K v (some (.cells [a,.O])::g)):L2 K v (some (.cells [a,b])::g):=⟨_,wc (aFy (wv (.inl rfl) (wv (.inr rfl) aGx))) (GW g),h⟩
theorem sw0(t n:Int)(y:SWS)(st:STS)(s:MS)(K:AVal→aC Ob→Prop)(hp:y.ph=0)(ok:qO t n y st s)(hK:(swF t n y st s).left t n K):cT' 169 [.ptr 0 0,.ptr 2 0] (swH t n y st s) K:=by
 obtain⟨ht,hn,hc,hR,ho⟩:=ok;obtain⟨ph,N,m,i,ks,fs,gs,j,l⟩:=y;dsimp only at hp;subst hp;obtain⟨me,sp,R⟩:=st;dsimp only at hR;refine aB.pack tbl (aB.pack tbl (aB.less ?_));refine aB.unpack tbl (.store t n ⟨me,sp,R⟩) 1 0 (dC t n ⟨me,sp,R⟩) [] rfl rfl rfl rfl ?_;refine aB.unpack tbl (.sweep t n ⟨0,N,m,i,ks,fs,gs,j,l⟩) 0 1 (LH t n ⟨0,N,m,i,ks,fs,gs,j,l⟩) [1] rfl rfl rfl rfl ?_;refine aGr t n me sp R ⟨0,N,m,i,ks,fs,gs,j,l⟩ s _ ?_;unfold QV;exact⟨⟨⟨rfl,rfl⟩,ht,hn,hc,hR⟩,tM (xG (o:=swF t n ⟨0,N,m,i,ks,fs,gs,j,l⟩ ⟨me,sp,R⟩ s) [0,1,2,3,4,5,6,7] hK rfl rfl)⟩
theorem sw1(t n:Int)(y:SWS)(st:STS)(s:MS)(K:AVal→aC Ob→Prop)(hp:y.ph=1)(ok:qO t n y st s)(hK:(swF t n y st s).left t n K):cT' 169 [.ptr 0 0,.ptr 2 0] (swH t n y st s) K:=by
 obtain⟨ht,hn,hc,hR,ho⟩:=ok;obtain⟨ph,N,m,i,ks,fs,gs,j,l⟩:=y;dsimp only at hp;subst hp;obtain⟨me,sp,R⟩:=st;dsimp only at hR;refine aB.pack tbl (aB.pack tbl (aB.less ?_));refine aB.unpack tbl (.store t n ⟨me,sp,R⟩) 1 0 (dC t n ⟨me,sp,R⟩) [] rfl rfl rfl rfl ?_;refine aB.unpack tbl (.sweep t n ⟨1,N,m,i,ks,fs,gs,j,l⟩) 0 1 (LH t n ⟨1,N,m,i,ks,fs,gs,j,l⟩) [1] rfl rfl rfl rfl ?_;refine aGs t n me sp R ⟨1,N,m,i,ks,fs,gs,j,l⟩ s _ ?_;unfold QX;have ho:N.length≤1000000∧0≤i∧i<2*t:=ho;refine⟨⟨⟨rfl,rfl,rfl,rfl,rfl⟩,ht,hn,hc,ho.1,ho.2⟩,?_⟩;unfold swF at hK;dsimp only at hK⊢;cases h1:ieq (i+1) (2*t)with
 | false=>
   rw [h1]at hK;exact tM (xG (o:=⟨false,⟨1,N,bA m n i s,i+1,ks,fs,gs,j,l⟩,⟨me,sp,R⟩,s.loadd (bZ n i)⟩) [0,1,2,3,4,5,6,7] hK rfl rfl)
 | true=>
   rw [h1]at hK;cases h2:ieq ((a8 (bA m n i s) N).length :Int) 0 with
   | true=>
     rw [h2]at hK;exact CQ (xG (o:=⟨true,⟨3,N,m,i,ks,fs,gs,j,l⟩,⟨me,sp,cI (bA m n i s) N⟩,s.loadd (bZ n i)⟩) [0,1,2,3,8] hK rfl rfl)
   | false=>
     rw [h2]at hK;exact tM (xG (o:=⟨false,⟨2,N,bA m n i s,i+1,cI (bA m n i s) N,a8 (bA m n i s) N,a8 (bA m n i s) N,0,(a8 (bA m n i s) N).length⟩,⟨me,sp,R⟩,s.loadd (bZ n i)⟩) [0,1,2,3,4,5,8,9,6,7,10,11] hK rfl rfl)
theorem sw2(t n:Int)(y:SWS)(st:STS)(s:MS)(K:AVal→aC Ob→Prop)(hp:y.ph=2)(ok:qO t n y st s)(hK:(swF t n y st s).left t n K):cT' 169 [.ptr 0 0,.ptr 2 0] (swH t n y st s) K:=by
 obtain⟨ht,hn,hc,hR,ho⟩:=ok;obtain⟨ph,N,m,i,ks,fs,gs,j,l⟩:=y;dsimp only at hp;subst hp;obtain⟨me,sp,R⟩:=st;dsimp only at hR;refine aB.pack tbl (aB.pack tbl (aB.less ?_));refine aB.unpack tbl (.store t n ⟨me,sp,R⟩) 1 0 (dC t n ⟨me,sp,R⟩) [] rfl rfl rfl rfl ?_;refine aB.unpack tbl (.sweep t n ⟨2,N,m,i,ks,fs,gs,j,l⟩) 0 1 (LH t n ⟨2,N,m,i,ks,fs,gs,j,l⟩) [1] rfl rfl rfl rfl ?_;refine aGt t n me sp R ⟨2,N,m,i,ks,fs,gs,j,l⟩ s _ ?_;unfold QY;have ho:2*t≤i∧1≤l∧gs.length=j+l∧ -1000000≤List.getD gs (j+Int.toNat 0*1) 0∧List.getD gs (j+Int.toNat 0*1) 0≤1000000:=ho;refine⟨⟨⟨rfl,rfl,rfl,rfl,rfl,rfl,rfl,rfl,rfl⟩,ht,hn,hc,ho.1,⟨ho.2.1,ho.2.2.1⟩,ho.2.2.2⟩,?_⟩;unfold swF at hK;dsimp only at hK⊢;cases h1:ieq ((l - 1:Nat):Int) 0 with
 | false=>
   rw [h1]at hK;exact tM (xG (o:=⟨false,⟨2,N,m,i,ks,fs,gs,j+1,l - 1⟩,⟨me,sp,R⟩,s.added (b9 n gs j) 1⟩) [0,1,2,3,4,5,6,7,8,9,10,11] hK rfl rfl)
 | true=>
   rw [h1]at hK;exact CQ (xG (o:=⟨true,⟨3,N,m,i,ks,fs,gs,j,l⟩,⟨me,sp,ks⟩,s.added (b9 n gs j) 1⟩) [0,1,2,3,6] hK rfl rfl)
theorem X6(t n:Int)(y:SWS)(st:STS)(s:MS)(K:AVal→aC Ob→Prop)(ok:qO t n y st s)(hK:(swF t n y st s).left t n K):cT' 169 [.ptr 0 0,.ptr 2 0] (swH t n y st s) K:=by
 match h:y.ph with
 | 0=>exact sw0 t n y st s K h ok hK
 | 1=>exact sw1 t n y st s K h ok hK
 | 2=>exact sw2 t n y st s K h ok hK
 | k+3=>have:=ok.ho;unfold ZN at this;rw [h]at this;exact this.elim
theorem fH{I:Itp Ob}{n:Nat}{K:AVal→aC Ob→Prop}{d:Bool}{a b g:aC Ob}(hK:(Out.ite d (.ret (.bool true) a) (.ret (.bool false) b)).run K)(h1:K (.bool true) a→dS I n K (.bool true) g)(h2:d=false→K (.bool false) b→dS I n K (.bool false) g):dS I n K (.bool d) g:=by
 cases d with
 | true=>exact h1 hK
 | false=>exact h2 rfl hK
abbrev hM(l:Nat)(t n:Int)(st:STS):Option (aJ Mc):=some (.cells [.I t,.I n,.I st.me,.I st.sp,.slice l 0 st.R.length 1])
abbrev hO(st:STS):Option (aJ Mc):=some (.ints (some .i64) st.R)
def lL(w:Nat)(h:aC Ob):Option (Nat×Int×Int×STS):=match h with
 | [some (.cells [.int .i64 t,.int .i64 n,.int .i64 me,.int .i64 sp,.slice l 0 len 1]),some (.ints (some .i64) xs)]=>if l=w then some (len,t,n,⟨me,sp,xs⟩)else none
 | _=>none
theorem cG{w:Nat}{h:aC Ob}{l:Nat}{t n:Int}{st:STS}(e:lL w h=some (l,t,n,st))(hl:l=st.R.length):h=[hM w t n st,hO st]:=by
 unfold lL at e;split at e
 ·split at e
  ·rename_i hw;simp only [sI',pI']at e;obtain⟨rfl,rfl,rfl,rfl⟩:=e;subst hw;simp only at hl;subst hl;rfl
  ·cases e
 ·cases e
theorem jT{f:FuncId}{t n:Int}{st st':STS}{s s':MS}{M:Mc}{e1 e2:aJ Mc}{d:Bool}(h1: ∀ι:Nat→Nat,ι 1=1→e1.ren ι=e1)(h2: ∀ι:Nat→Nat,ι 1=1→e2.ren ι=e2)
 (hA: ∀K,(Out.ite d (.ret (.bool true) [some e1,some (.abs (.store t n st') []),bD 3 s',bE s']) (.ret (.bool false) [some e2,some (.abs (.store t n st') []),bD 3 s',bE s'])).run K→cT' f [.ptr 0 0,.ptr 2 0] [some (.abs M [1]),some (.abs (.store t n st) []),bD 3 s,bE s] K)
 (K:AVal→aC Ob→Prop) (hK:(Out.ite d (.ret (.bool true) [some e1,hM 5 t n st',none,bD 4 s',bE s',hO st']) (.ret (.bool false) [some e2,hM 5 t n st',none,bD 4 s',bE s',hO st'])).run K):
 cT' f [.ptr 0 0,.ptr 3 0] [some (.abs M [1]),hM 2 t n st,hO st,bD 4 s,bE s] K:=by
 refine aHD ?_;refine aH0 (h0:=[some (.abs M [1]),hM 4 t n st,bD 3 s,bE s,hO st]) (args0:=[.ptr 0 0,.ptr 2 0]) (K0:=fun v g=>dS (obI tbl) 5 K (v.ren (iota [0,1,3,4,2] 5)) (oW [some (.abs M [1]),hM 2 t n st,hO st,bD 4 s,bE s] [0,1,3,4,2] g)) ?_ [0,1,3,4,2] rfl (by decide) (by intro l hl;simp at hl⊢;omega) ?_ rfl (fun v g hk _=>hk)
 ·refine aB.shut tbl [some (.abs M [1]),some (.abs (.store t n st) []),bD 3 s,bE s] (.store t n st) 1 0 (dC t n st) [] (by kernel_rfl) rfl rfl (by kernel_rfl) (hA _ ?_)
  have i1:farI 4 1 1=1:=rfl;have i2:iota [0,1,3,4,2] 5 1=1:=rfl;cases d with
  | true=>
    have q1:((e1.ren (farI 4 1)).ren (iota [0,1,3,4,2] 5))=e1:=by rw [h1 _ i1,h1 _ i2]
    refine⟨_,_,aE.trans (aHv (g2:=[some e1,some (.abs (.store t n st') []),none,bD 4 s',bE s']) (by kernel_rfl) ?_) (aE.unpack (.store t n st') 1 0 (dC t n st') [] rfl rfl rfl rfl),hK⟩
    show [some ((e1.ren (farI 4 1)).ren (iota [0,1,3,4,2] 5)),_,_,_,_]=_;rw [q1];rfl
  | false=>
    have q2:((e2.ren (farI 4 1)).ren (iota [0,1,3,4,2] 5))=e2:=by rw [h2 _ i1,h2 _ i2]
    refine⟨_,_,aE.trans (aHv (g2:=[some e2,some (.abs (.store t n st') []),none,bD 4 s',bE s']) (by kernel_rfl) ?_) (aE.unpack (.store t n st') 1 0 (dC t n st') [] rfl rfl rfl rfl),hK⟩
    show [some ((e2.ren (farI 4 1)).ren (iota [0,1,3,4,2] 5)),_,_,_,_]=_;rw [q2];rfl
 ·intro i l hi
  match i,hi with
  | 0,hi=>cases hi;rfl
  | 1,hi=>cases hi;rfl
  | 2,hi=>cases hi;rfl
  | 3,hi=>cases hi;rfl
  | 4,hi=>cases hi;rfl
  | _+5,hi=>cases hi
def f6(kd:Int):Bool:=ieq kd 1||ieq kd 4
def oX(sh kd:Int):Bool:=ieq kd 5&&ieq sh 4
def uO(sh kd:Int):Bool:=ieq kd 2||ieq kd 5&&ieq sh 3
def gZ(ky curr cw:Int):Bool:=bif ieq curr 0 then false else ieq (aA cw 0 10) ky
def fG(sh ky:Int):Int:=bif ieq sh 2 then ky%4 else 0
def mA(sh kd ky:Int):Int:=bif ieq sh 2 then ky else bif ieq sh 1 then ky else bif ieq sh 3 then(bif f6 kd then 1024 else -1)else -1
def OY:bH Ob:=fun args h=>match args,h with
 | [.agg [.int .i64 t,.int .i64 n],.int .i64 a],[]=>some ((0≤n∧n≤100000)∧(-1000000≤a∧a≤1000000),.I (n+1+a))
 | _,_=>none
theorem WI:sT' 112 OY.spec:=by
 intro args h o ho K hK;unfold bH.spec OY at ho;split at ho
 case h_2=>cases ho
 rename_i p v hp;split at hp
 case h_2=>cases hp
 rename_i t n a;simp only [sI',pI']at hp;obtain⟨rfl,rfl⟩:=hp;simp only [sI']at ho;subst ho;obtain⟨hp,hK⟩:=hK;have hK:K (.I (n+1+a)) []:=hK;refine aHp (cM' (E:=enE) (q:=K (.I (W (W (1+n)+a))) []) (by kernel_rfl) ?_)
 simp(disch:=omega) only [W,cV]
 refine cast (congrArg (fun z=>K (AVal.int .i64 z) []) ?_) hK;omega
def GU:bH Ob:=fun args h=>match args,h with
 | [.agg [.int .i64 k,.int .i64 y,.bool m,.int .i64 c,.int .i64 v]],[]=>some (0≤v∧v≤1000000,.agg [.I k,.I y,.bool m,.I 0,.I (aT v)])
 | _,_=>none
theorem RQ:sT' 264 GU.spec:=by
 intro args h o ho K hK;unfold bH.spec GU at ho;split at ho
 case h_2=>cases ho
 rename_i p v hp;split at hp
 case h_2=>cases hp
 rename_i k y m c v;simp only [sI',pI']at hp;obtain⟨rfl,rfl⟩:=hp;simp only [sI']at ho;subst ho;obtain⟨hp,hK⟩:=hK;have hK:K (.agg [.I k,.I y,.bool m,.I 0,.I (aT v)]) []:=hK;refine aHp (cM' (E:=enE) (q:=K (.agg [.I k,.I y,.bool m,.I 0,.I (W (↑(BitVec.toNat (BitVec.ofInt (IntKind.bits .i64) (W (v+1))&&&BitVec.ofInt (IntKind.bits .i64) 262143)):Int))]) []) (by kernel_rfl) ?_)
 refine cast (congrArg (fun z=>K (.agg [.I k,.I y,.bool m,.I 0,.I z]) []) ?_) hK;show aT v=_;have hb:IntKind.bits .i64 =64:=rfl;simp only [W];rw [hb,cV (x:=v+1) (by omega)]
 have:=jW (n:=64) (w:=18) (v+1) (by omega)
 have e:(2:Int)^18 - 1=262143:=by decide
 rw [e]at this;rw [this];have e2:(2:Int)^18=262144:=by decide
 rw [e2,cV (by omega)]
 rfl
def zH:bH Ob:=fun args h=>match args,h with
 | [.agg [.int .i64 k,.int .i64 y,.bool m,.int .i64 c,.int .i64 v],.int .i64 b,.int .i64 x,.bool q],[]=>some (-1000000≤b∧b≤1000000,.agg [.I k,.I x,.bool q,.I (b+1),.I v])
 | _,_=>none
theorem LT:sT' 268 zH.spec:=by
 intro args h o ho K hK;unfold bH.spec zH at ho;split at ho
 case h_2=>cases ho
 rename_i p v hp;split at hp
 case h_2=>cases hp
 rename_i k y m c v b x q;simp only [sI',pI']at hp;obtain⟨rfl,rfl⟩:=hp;simp only [sI']at ho;subst ho;obtain⟨hp,hK⟩:=hK;have hK:K (.agg [.I k,.I x,.bool q,.I (b+1),.I v]) []:=hK;refine aHp (cM' (E:=enE) (q:=K (.agg [.I k,.I x,.bool q,.I (W (b+1)),.I v]) []) (by kernel_rfl) ?_)
 rw [xS (by omega)]
 exact hK
def zA:bH Ob:=fun args h=>match args,h with
 | [.agg [.int .i64 sh,.int .i64 kd,.int .i64 ky]],[]=>some (True,.bool (f6 kd))
 | _,_=>none
theorem LK:sT' 203 zA.spec:=by
 intro args h o ho K hK;unfold bH.spec zA at ho;split at ho
 case h_2=>cases ho
 rename_i p v hp;split at hp
 case h_2=>cases hp
 rename_i sh kd ky;simp only [sI',pI']at hp;obtain⟨rfl,rfl⟩:=hp;simp only [sI']at ho;subst ho;obtain⟨hp,hK⟩:=hK;have hK:K (.bool (f6 kd)) []:=hK;refine aHp (cM' (E:=enE) (q:=bif ieq kd 1 then K (.bool true) []else K (.bool (ieq kd 4)) []) (by kernel_rfl) ?_)
 unfold f6 at hK;cases h:ieq kd 1<;>rw [h]at hK<;>exact hK
def GS:bH Ob:=fun args h=>match args,h with
 | [.agg [.int .i64 sh,.int .i64 kd,.int .i64 ky]],[]=>some (True,.bool (oX sh kd))
 | _,_=>none
theorem RG:sT' 285 GS.spec:=by
 intro args h o ho K hK;unfold bH.spec GS at ho;split at ho
 case h_2=>cases ho
 rename_i p v hp;split at hp
 case h_2=>cases hp
 rename_i sh kd ky;simp only [sI',pI']at hp;obtain⟨rfl,rfl⟩:=hp;simp only [sI']at ho;subst ho;obtain⟨hp,hK⟩:=hK;have hK:K (.bool (oX sh kd)) []:=hK;refine aHp (cM' (E:=enE) (q:=bif ieq kd 5 then K (.bool (ieq sh 4)) []else K (.bool false) []) (by kernel_rfl) ?_)
 unfold oX at hK;cases h:ieq kd 5<;>rw [h]at hK<;>exact hK
def zB:bH Ob:=fun args h=>match args,h with
 | [.agg [.int .i64 sh,.int .i64 kd,.int .i64 ky]],[]=>some (True,.bool (uO sh kd))
 | _,_=>none
theorem LM:sT' 225 zB.spec:=by
 intro args h o ho K hK;unfold bH.spec zB at ho;split at ho
 case h_2=>cases ho
 rename_i p v hp;split at hp
 case h_2=>cases hp
 rename_i sh kd ky;simp only [sI',pI']at hp;obtain⟨rfl,rfl⟩:=hp;simp only [sI']at ho;subst ho;obtain⟨hp,hK⟩:=hK;have hK:K (.bool (uO sh kd)) []:=hK;refine aHp (cM' (E:=enE) (q:=bif ieq kd 2 then K (.bool true) []else bif ieq kd 5 then K (.bool (ieq sh 3)) []else K (.bool false) []) (by kernel_rfl) ?_)
 unfold uO at hK;cases h:ieq kd 2<;>cases h2:ieq kd 5<;>rw [h]at hK<;>rw [h2]at hK<;>exact hK
noncomputable def hasCS:aH Ob:=tZ [(.slot 0,.ints (some .i64))] VJ.spec
theorem VI:sT' 138 hasCS:=AB OS
noncomputable def EB0:=((((((enE.addS 138 hasCS VI).addR 112 OY WI).addR 264 GU RQ).addR 268 zH LT).addR 203 zA LK).addR 285 GS RG).addR 225 zB LM
def isS:aH Ob:=fun args h=>match args,h with
 | [.agg [.int .i64 a,.int .i64 b,.int .i64 c,.int .i64 d,.bool m,.int .i64 e,.int .i64 f],.slice 0 0 1 1],[some (.cells [.int .i64 s])]=>some (.ret (.bool (hasB [s] e)) [some (.ints (some .i64) [s])])
 | _,_=>none
theorem aEY:sT' 243 isS:=by
 intro args h o ho K hK;unfold isS at ho;split at ho<;>cases ho
 rename_i a b c d m e f s;have hK:K (.bool (hasB [s] e)) [some (.ints (some .i64) [s])]:=hK;refine aHp (cM' (E:=EB0) (q:=(1=1∧(1:Nat)≤(4294967296:Nat))∧K (.bool (hasB [s] e)) [some (.ints (some .i64) [s])]) (by kernel_rfl) ?_)
 exact⟨⟨rfl,by omega⟩,hK⟩
noncomputable def EB0b:=EB0.addS 243 isS aEY
def M7:bH Ob:=fun args h=>match args,h with
 | [.int .u64 x],[]=>some (True,.I (aA x 20 5 - 1))
 | _,_=>none
theorem TB:sT' 260 M7.spec:=by
 intro args h o ho K hK;unfold bH.spec M7 at ho;split at ho
 case h_2=>cases ho
 rename_i p v hp;split at hp
 case h_2=>cases hp
 rename_i x;simp only [sI',pI']at hp;obtain⟨rfl,rfl⟩:=hp;simp only [sI']at ho;subst ho;obtain⟨hp,hK⟩:=hK;have hK:K (.I (aA x 20 5 - 1)) []:=hK;refine aHp (cM' (E:=EB0b) (q:=True∧K (.I (W (aA x 20 5 - 1))) []) (by kernel_rfl) ?_)
 have hb:0≤aA x 20 5∧aA x 20 5<32:=by
  unfold aA;have e:(2:Int)^(5:Int).toNat =32:=by decide
  rw [e];exact⟨Int.emod_nonneg _ (by decide),Int.emod_lt_of_pos _ (by decide)⟩
 have e1:W (aA x 20 5 - 1)=aA x 20 5 - 1:=cV (by omega)
 rw [e1];exact⟨trivial,hK⟩
def EK:bH Ob:=fun args h=>match args,h with
 | [.agg [.int .i64 a,.int .i64 b,.int .i64 c,.int .i64 d,.bool m,.int .i64 e,.int .i64 f],.int .i64 g],[]=>some (True,.agg [.I a,.I b,.I c,.I d,.bool m,.I g,.I f])
 | _,_=>none
theorem NH:sT' 262 EK.spec:=by
 intro args h o ho K hK;unfold bH.spec EK at ho;split at ho
 case h_2=>cases ho
 rename_i p v hp;split at hp
 case h_2=>cases hp
 rename_i a b c d m e f g;simp only [sI',pI']at hp;obtain⟨rfl,rfl⟩:=hp;simp only [sI']at ho;subst ho;obtain⟨hp,hK⟩:=hK;have hK:K (.agg [.I a,.I b,.I c,.I d,.bool m,.I g,.I f]) []:=hK;refine aHp (cM' (E:=EB0b) (q:=K (.agg [.I a,.I b,.I c,.I d,.bool m,.I g,.I f]) []) (by kernel_rfl) ?_)
 exact hK
noncomputable def EB0c:=(EB0b.addR 260 M7 TB).addR 262 EK NH
def zE:bH Ob:=fun args h=>match args,h with
 | [.agg [.int .i64 sh,.int .i64 kd,.int .i64 ky]],[]=>some (True,.agg [.I (fG sh ky),.I (mA sh kd ky)])
 | _,_=>none
theorem LQ:sT' 226 zE.spec:=by
 intro args h o ho K hK;unfold bH.spec zE at ho;split at ho
 case h_2=>cases ho
 rename_i p v hp;split at hp
 case h_2=>cases hp
 rename_i sh kd ky;simp only [sI',pI']at hp;obtain⟨rfl,rfl⟩:=hp;simp only [sI']at ho;subst ho;obtain⟨hp,hK⟩:=hK;have hK:K (.agg [.I (fG sh ky),.I (mA sh kd ky)]) []:=hK;refine aHp (cM' (E:=EB0c) (q:=bif ieq sh 2 then K (.agg [.I (W (↑(BitVec.toNat (BitVec.ofInt (IntKind.bits .i64) ky&&&BitVec.ofInt (IntKind.bits .i64) 3)):Int)),.I ky]) []else bif ieq sh 1 then K (.agg [.I 0,.I ky]) []else bif ieq sh 2 then K (.agg [.I 0,.I ky]) []else bif ieq sh 3 then True∧bif f6 kd then K (.agg [.I 0,.I 1024]) []else K (.agg [.I 0,.I (-1:Int)]) []else K (.agg [.I 0,.I (-1:Int)]) []) (by kernel_rfl) ?_)
 have e4:W (((BitVec.ofInt (IntKind.bits .i64) ky&&&BitVec.ofInt (IntKind.bits .i64) 3).toNat :Nat):Int)=ky%4:=by
  have hb:IntKind.bits .i64 =64:=rfl;rw [hb];have:=jW (n:=64) (w:=2) ky (by omega)
  have e:(2:Int)^2 - 1=3:=by decide
  rw [e]at this;rw [this];have e2:(2:Int)^2=4:=by decide
  rw [e2];exact cV (by omega)
 unfold fG mA at hK;refine aI (fun e=>?_) (fun e=>aI (fun e1=>?_) (fun e1=>aI (fun e2=>?_) (fun e2=>aI (fun e3=>⟨trivial,aI (fun e5=>?_) (fun e5=>?_)⟩) (fun e3=>?_))))
 ·rw [e]at hK;rw [e4];exact hK
 ·rw [e,e1]at hK;exact hK
 ·rw [e]at e2;cases e2
 ·rw [e,e1,e3,e5]at hK;exact hK
 ·rw [e,e1,e3,e5]at hK;exact hK
 ·rw [e,e1,e3]at hK;exact hK
def yN:bH Ob:=fun args h=>match args,h with
 | [.agg [.int .i64 sh,.int .i64 kd,.int .i64 ky,.int .i64 pred,.int .u64 pw,.int .i64 curr,.int .u64 cw]],[]=>some (True,.bool (gZ ky curr cw))
 | _,_=>none
theorem KR:sT' 287 yN.spec:=by
 intro args h o ho K hK;unfold bH.spec yN at ho;split at ho
 case h_2=>cases ho
 rename_i p v hp;split at hp
 case h_2=>cases hp
 rename_i sh kd ky pred pw curr cw;simp only [sI',pI']at hp;obtain⟨rfl,rfl⟩:=hp;simp only [sI']at ho;subst ho;obtain⟨hp,hK⟩:=hK;have hK:K (.bool (gZ ky curr cw)) []:=hK;refine aHp (cM' (E:=EB0c) (q:=bif !ieq curr 0 then True∧K (.bool (ieq (aA cw 0 10) ky)) []else K (.bool false) []) (by kernel_rfl) ?_)
 unfold gZ at hK;cases h:ieq curr 0 with
 | true=>rw [h]at hK;exact hK
 | false=>rw [h]at hK;exact⟨trivial,hK⟩
noncomputable def EB1:=(EB0c.addR 226 zE LQ).addR 287 yN KR
def ZP(v:AVal)(g:aC Ob):Option (Prop×PLN):=match v,g with
 | .agg [.bool now,.int .i64 code,.bool okk,.int .i64 val,.int .i64 addr,.int .u64 old,.int .i64 nxt,.bool mark,.int .i64 pops],[]=>some (True,⟨now,code,okk,val,addr,old,nxt,mark,pops⟩)
 | _,_=>none
def PY(y:PLN):AVal:=.agg [.bool y.now,.I y.code,.bool y.okk,.I y.val,.I y.addr,.int .u64 y.old,.I y.nxt,.bool y.mark,.I y.pops]
theorem PX:bX (obI tbl) 0 ZP (fun y=>.ret (PY y) []):=by
 intro v g p x hp hq K hK;unfold ZP at hp;split at hp
 case h_2=>cases hp
 simp only [sI',pI']at hp;obtain⟨rfl,rfl⟩:=hp;exact⟨⟨_,_,aHA _ _ _,hK⟩⟩
abbrev w02:Tr (PLN):=.pre True (.ret {now:=true,code:=0,okk:=false,val:=0,addr:=0,old:=0,nxt:=0,mark:=false,pops:=0})
abbrev w00(curr cw kd ky pred pw sh:Int):Tr (PLN):=.ite (ieq kd 5) (.ite (ieq curr 0) w02 (.pre True (.pre True (.ite (oX sh kd) (.pre True (.pre True (.pre True (.ret {now:=false,code:=0,okk:=true,val:=aA cw 0 10,addr:=pred,old:=pw,nxt:=aA cw 10 9,mark:=ieq (aA pw 19 1) 1,pops:=curr})))) (.pre True (.pre True (.ret {now:=false,code:=0,okk:=true,val:=aA cw 0 10,addr:=curr,old:=cw,nxt:=aA cw 10 9,mark:=true,pops:=0}))))))) (.ite (ieq kd 3) (.pre True (.pre True (.ret {now:=true,code:=0,okk:=gZ ky curr cw,val:=0,addr:=0,old:=0,nxt:=0,mark:=false,pops:=0}))) w02)
abbrev w01(curr cw:Int):Tr (PLN):=.pre True (.pre True (.ret {now:=false,code:=0,okk:=true,val:=0,addr:=curr,old:=cw,nxt:=aA cw 10 9,mark:=true,pops:=0}))
abbrev w03(pred pw spare:Int):Tr (PLN):=.pre True (.pre True (.ret {now:=false,code:=0,okk:=true,val:=0,addr:=pred,old:=pw,nxt:=spare,mark:=ieq (aA pw 19 1) 1,pops:=0}))
def C0(sh kd ky pred pw curr cw spare:Int):Tr (PLN):=.pre True (.ite (!cA sh kd ky) (.pre True (.ret {now:=true,code:=1,okk:=false,val:=0,addr:=0,old:=0,nxt:=0,mark:=false,pops:=0})) (.ite (ieq kd 4) (.ite (ieq kd 4) (w03 pred pw spare) (.ite (ieq kd 2) (.pre True (.ite (gZ ky curr cw) (w01 curr cw) (w00 curr cw kd ky pred pw sh))) (w00 curr cw kd ky pred pw sh))) (.ite (ieq kd 1) (.pre True (.ite (!gZ ky curr cw) (w03 pred pw spare) (.ite (ieq kd 2) (.pre True (.ite (gZ ky curr cw) (w01 curr cw) (w00 curr cw kd ky pred pw sh))) (w00 curr cw kd ky pred pw sh)))) (.ite (ieq kd 2) (.pre True (.ite (gZ ky curr cw) (w01 curr cw) (w00 curr cw kd ky pred pw sh))) (w00 curr cw kd ky pred pw sh)))))
def bM(sh kd ky pred pw curr cw spare:Int):PLN:=(C0 sh kd ky pred pw curr cw spare).val
def u5(sh kd ky pred pw curr cw spare:Int):Prop:=(C0 sh kd ky pred pw curr cw spare).ok
def planS:aH Ob:=fun args h=>match args,h with
 | [.agg [.int .i64 sh,.int .i64 kd,.int .i64 ky],.agg [.int .i64 pred,.int .u64 pw,.int .i64 curr,.int .u64 cw],.int .i64 spare],[]=>some (.pre (u5 sh kd ky pred pw curr cw spare) (.ret (PY (bM sh kd ky pred pw curr cw spare)) []))
 | _,_=>none
theorem XD:sT' 256 planS:=by
 intro args h o ho K hK;unfold planS at ho;split at ho<;>cases ho
 rename_i sh kd ky pred pw curr cw spare;obtain⟨ok,hK⟩:=hK;refine aHC (root:=0) (pos:=[]) (cs:=[]) PX ?_;exact cM' (E:=EB1) (q:=(C0 sh kd ky pred pw curr cw spare).run (fun y=>(Out.ret (PY y) []).run K)) (by kernel_rfl) (aHw ok hK)
def PZ(v:AVal)(g:aC Ob):Option (Prop×Int):=match v,g with
 | .int .u64 x,[]=>some (True,x)
 | _,_=>none
def F0(y:Int):AVal:=.int .u64 y
theorem KY:bX (obI tbl) 0 PZ (fun y=>.ret (F0 y) []):=by
 intro v g p x hp hq K hK;unfold PZ at hp;split at hp
 case h_2=>cases hp
 simp only [sI',pI']at hp;obtain⟨rfl,rfl⟩:=hp;exact⟨⟨_,_,aHA _ _ _,hK⟩⟩
def u6(now:Bool)(code:Int)(okk:Bool)(val:Int)(addr:Int)(old:Int)(nxt:Int)(mark:Bool)(pops:Int):Tr (Int):=.ite now (.pre True (.ret 0)) (.pre True (.pre ((-1000000:Int)≤(0:Int)∧(0:Int)≤(1000000:Int)) (.pre ((0:Int)≤aA old 25 18∧aA old 25 (18:Int)≤(1000000:Int)) (.pre True (.pre True (.ret (bif bif aM (aA old 0 10) 10 then bif aM nxt 9 then bif aM 0 5 then aM (aT (aA old 25 18)) 18 else false else false else false then cM (aA old 0 10) nxt mark 0 (aT (aA old 25 18))else 0)))))))
def dK(now:Bool)(code:Int)(okk:Bool)(val:Int)(addr:Int)(old:Int)(nxt:Int)(mark:Bool)(pops:Int):Int:=(u6 now code okk val addr old nxt mark pops).val
def yQ(now:Bool)(code:Int)(okk:Bool)(val:Int)(addr:Int)(old:Int)(nxt:Int)(mark:Bool)(pops:Int):Prop:=(u6 now code okk val addr old nxt mark pops).ok
def planWS:aH Ob:=fun args h=>match args,h with
 | [.agg [.bool now,.int .i64 code,.bool okk,.int .i64 val,.int .i64 addr,.int .u64 old,.int .i64 nxt,.bool mark,.int .i64 pops]],[]=>some (.pre (yQ now code okk val addr old nxt mark pops) (.ret (F0 (dK now code okk val addr old nxt mark pops)) []))
 | _,_=>none
theorem P0:sT' 218 planWS:=by
 intro args h o ho K hK;unfold planWS at ho;split at ho<;>cases ho
 rename_i now code okk val addr old nxt mark pops;obtain⟨ok,hK⟩:=hK;refine aHC (root:=0) (pos:=[]) (cs:=[]) KY ?_;exact cM' (E:=EB1) (q:=(u6 now code okk val addr old nxt mark pops).run (fun y=>(Out.ret (F0 y) []).run K)) (by kernel_rfl) (aHw ok hK)
def PT(v:AVal)(g:aC Ob):Option (Prop×Bool):=match v,g with
 | .bool x,[]=>some (True,x)
 | _,_=>none
def FY(y:Bool):AVal:=.bool y
theorem KU:bX (obI tbl) 0 PT (fun y=>.ret (FY y) []):=by
 intro v g p x hp hq K hK;unfold PT at hp;split at hp
 case h_2=>cases hp
 simp only [sI',pI']at hp;obtain⟨rfl,rfl⟩:=hp;exact⟨⟨_,_,aHA _ _ _,hK⟩⟩
def uY(now:Bool)(code:Int)(okk:Bool)(val:Int)(addr:Int)(old:Int)(nxt:Int)(mark:Bool)(pops:Int):Tr (Bool):=.ite (!now) (.pre True (.pre True (.ret !ieq (aA old 20 5) 0))) (.pre True (.ret false))
def yO(now:Bool)(code:Int)(okk:Bool)(val:Int)(addr:Int)(old:Int)(nxt:Int)(mark:Bool)(pops:Int):Bool:=(uY now code okk val addr old nxt mark pops).val
def oI(now:Bool)(code:Int)(okk:Bool)(val:Int)(addr:Int)(old:Int)(nxt:Int)(mark:Bool)(pops:Int):Prop:=(uY now code okk val addr old nxt mark pops).ok
def planCS:aH Ob:=fun args h=>match args,h with
 | [.agg [.bool now,.int .i64 code,.bool okk,.int .i64 val,.int .i64 addr,.int .u64 old,.int .i64 nxt,.bool mark,.int .i64 pops]],[]=>some (.pre (oI now code okk val addr old nxt mark pops) (.ret (FY (yO now code okk val addr old nxt mark pops)) []))
 | _,_=>none
theorem PU:sT' 257 planCS:=by
 intro args h o ho K hK;unfold planCS at ho;split at ho<;>cases ho
 rename_i now code okk val addr old nxt mark pops;obtain⟨ok,hK⟩:=hK;refine aHC (root:=0) (pos:=[]) (cs:=[]) KU ?_;exact cM' (E:=EB1) (q:=(uY now code okk val addr old nxt mark pops).run (fun y=>(Out.ret (FY y) []).run K)) (by kernel_rfl) (aHw ok hK)
def PV(v:AVal)(g:aC Ob):Option (Prop×(Int×Int)):=match v,g with
 | .tup [.int .u64 x,.int .i64 e],[]=>some (True,(x,e))
 | _,_=>none
def FZ(y:(Int×Int)):AVal:=.tup [.int .u64 y.1,.I y.2]
theorem KV:bX (obI tbl) 0 PV (fun y=>.ret (FZ y) []):=by
 intro v g p x hp hq K hK;unfold PV at hp;split at hp
 case h_2=>cases hp
 simp only [sI',pI']at hp;obtain⟨rfl,rfl⟩:=hp;exact⟨⟨_,_,aHA _ _ _,hK⟩⟩
def u4(now:Bool)(code:Int)(okk:Bool)(val:Int)(addr:Int)(old:Int)(nxt:Int)(mark:Bool)(pops:Int)(att:Int):Tr ((Int×Int)):=.ite now (.pre True (.ret (0,5))) (.pre True (.pre True (.pre True (.ret (bif dOk att addr (aA old 25 18) nxt 2 val then cL att addr (aA old 25 18) nxt mark 2 val else 0,bif dOk att addr (aA old 25 18) nxt 2 val then 0 else 2)))))
def gM(now:Bool)(code:Int)(okk:Bool)(val:Int)(addr:Int)(old:Int)(nxt:Int)(mark:Bool)(pops:Int)(att:Int):(Int×Int):=(u4 now code okk val addr old nxt mark pops att).val
def yP(now:Bool)(code:Int)(okk:Bool)(val:Int)(addr:Int)(old:Int)(nxt:Int)(mark:Bool)(pops:Int)(att:Int):Prop:=(u4 now code okk val addr old nxt mark pops att).ok
def planDS:aH Ob:=fun args h=>match args,h with
 | [.agg [.bool now,.int .i64 code,.bool okk,.int .i64 val,.int .i64 addr,.int .u64 old,.int .i64 nxt,.bool mark,.int .i64 pops],.int .i64 att],[]=>some (.pre (yP now code okk val addr old nxt mark pops att) (.ret (FZ (gM now code okk val addr old nxt mark pops att)) []))
 | _,_=>none
theorem PW:sT' 202 planDS:=by
 intro args h o ho K hK;unfold planDS at ho;split at ho<;>cases ho
 rename_i now code okk val addr old nxt mark pops att;obtain⟨ok,hK⟩:=hK;refine aHC (root:=0) (pos:=[]) (cs:=[]) KV ?_;exact cM' (E:=EB1) (q:=(u4 now code okk val addr old nxt mark pops att).run (fun y=>(Out.ret (FZ y) []).run K)) (by kernel_rfl) (aHw ok hK)
noncomputable def EB2:=(((EB1.addS 256 planS XD).addS 218 planWS P0).addS 257 planCS PU).addS 202 planDS PW
abbrev aA9(x:ENS):aJ Mc:=.cells [.ptr 1 0,.bool x.sh,.O,.O,.bool x.dn]
theorem UN{t n:Int}{x:ENS}{st:STS}{s:MS} :aE (obI tbl) 4 (.bool true) [some (.abs (.ensure t n x) [1]),some (.abs (.store t n st) []),bD 3 s,bE s] (.bool true) [some (aA9 x),some (.abs (.store t n st) []),bD 3 s,bE s]:=by
 obtain⟨ph,sh,dn,a,y⟩:=x
 match ph with
 | 0=>exact(aE.unpack (.ensure t n ⟨0,sh,dn,a,y⟩) 0 1 (DN t n ⟨0,sh,dn,a,y⟩) [1] rfl rfl (by kernel_rfl) rfl).trans ((aE.weak (cB _ 0 [2,3])).trans ((aE.pick (upto 0 4) rfl).trans (aHv (by kernel_rfl) (by kernel_rfl))))
 | 1=>exact(aE.unpack (.ensure t n ⟨1,sh,dn,a,y⟩) 0 1 (DN t n ⟨1,sh,dn,a,y⟩) [1] rfl rfl (by kernel_rfl) rfl).trans ((aE.weak (cB _ 0 [2,3])).trans ((aE.pick (upto 0 4) rfl).trans (aHv (by kernel_rfl) (by kernel_rfl))))
 | 2=>exact(aE.unpack (.ensure t n ⟨2,sh,dn,a,y⟩) 0 1 (DN t n ⟨2,sh,dn,a,y⟩) [1] rfl rfl (by kernel_rfl) rfl).trans ((aE.weak (cB _ 0 [2,3])).trans ((aE.pick (upto 0 4) rfl).trans (aHv (by kernel_rfl) (by kernel_rfl))))
 | 3=>exact(aE.unpack (.ensure t n ⟨3,sh,dn,a,y⟩) 0 1 (DN t n ⟨3,sh,dn,a,y⟩) [1] rfl rfl (by kernel_rfl) rfl).trans ((aE.weak (cB _ 0 [2,3])).trans ((aE.pick (upto 0 4) rfl).trans (aHv (by kernel_rfl) (by kernel_rfl))))
 | k+4=>exact(aE.unpack (.ensure t n ⟨k+4,sh,dn,a,y⟩) 0 1 (DN t n ⟨k+4,sh,dn,a,y⟩) [1] rfl rfl (by kernel_rfl) rfl).trans ((aE.weak (cB _ 0 [2,3])).trans ((aE.pick (upto 0 4) rfl).trans (aHv (by kernel_rfl) (by kernel_rfl))))
def EO.fin(t n:Int)(y:EO):Out Ob:=.ite y.d (.ret (.bool true) [some (aA9 y.e),some (.abs (.store t n y.st) []),bD 3 y.s,bE y.s]) (.ret (.bool false) [some (.abs (.ensure t n y.e) [1]),some (.abs (.store t n y.st) []),bD 3 y.s,bE y.s])
theorem A2(t n:Int)(e:ENS)(st:STS)(s:MS)(K:AVal→aC Ob→Prop)(ok:KM t n e st s)(hK:((enF t n e st s).fin t n).run K):cT' 154 [.ptr 0 0,.ptr 2 0] (UK t n e st s) K:=by
 refine aHD (G8 t n e st s _ ok ?_);show dS (obI tbl) 4 K (.bool (enF t n e st s).d) _;generalize enF t n e st s=y at hK⊢;exact qS hK (fun h=>⟨⟨_,_,UN,h⟩⟩) (fun h=>⟨⟨_,_,aHA _ _ _,h⟩⟩)
noncomputable def enSA:aH Ob:=fun args h=>match args,h with
 | [.ptr 0 0,.ptr 2 0],[some (.abs (.ensure t n x) [1]),some (.abs (.store t2 n2 st) []),e3,e4]=>(match cO 3 [e3,e4]with
   | some (l,s)=>some (.pre ((l=s.xs.length∧t2=t∧n2=n)∧KM t n x st s) (EO.fin t n (enF t n x st s)))
   | none=>none)
 | _,_=>none
theorem aBg:sT' 154 enSA:=by
 intro args h o ho K hK;unfold enSA at ho;split at ho
 case h_2=>cases ho
 split at ho<;>cases ho
 rename_i hm;obtain⟨⟨⟨hl,rfl,rfl⟩,ok⟩,hK⟩:=hK;have hh:=bF hm hl;cases hh;exact A2 _ _ _ _ _ K ok hK
def EO.finB(t n:Int)(y:EO):Out Ob:=.ite y.d (.ret (.bool true) [some (aA9 y.e),hM 5 t n y.st,none,bD 4 y.s,bE y.s,hO y.st]) (.ret (.bool false) [some (.abs (.ensure t n y.e) [1]),hM 5 t n y.st,none,bD 4 y.s,bE y.s,hO y.st])
noncomputable def enSB:aH Ob:=fun args h=>match args,h with
 | [.ptr 0 0,.ptr 3 0],[some (.abs (.ensure t n x) [1]),e1,e2,e3,e4]=>(match lL 2 [e1,e2],cO 4 [e3,e4]with
   | some (l2,t2,n2,st),some (l,s)=>some (.pre ((l=s.xs.length∧l2=st.R.length∧t2=t∧n2=n)∧KM t n x st s) (EO.finB t n (enF t n x st s)))
   | _,_=>none)
 | _,_=>none
theorem aBh:sT' 154 enSB:=by
 intro args h o ho K hK;unfold enSB at ho;split at ho
 case h_2=>cases ho
 split at ho<;>cases ho
 rename_i hs hm;obtain⟨⟨⟨hl,hl2,rfl,rfl⟩,ok⟩,hK⟩:=hK;have hh:=bF hm hl;cases hh;have hh:=cG hs hl2;cases hh;exact jT (fun ι hι=>by simp [aJ.ren,aHE,AVal.ren,hι]) (fun ι hι=>by simp [aJ.ren,hι]) (fun K hK=>A2 _ _ _ _ _ K ok hK) K hK
noncomputable def enS2:aH Ob:=aH.or enSA enSB
theorem aBf:sT' 154 enS2:=aHM aBg aBh
abbrev aCV(x:SWS):aJ Mc:=.cells [.ptr 1 0,.O]
theorem X5{t n:Int}{x:SWS}{st:STS}{s:MS} :aE (obI tbl) 4 (.bool true) [some (.abs (.sweep t n x) [1]),some (.abs (.store t n st) []),bD 3 s,bE s] (.bool true) [some (aCV x),some (.abs (.store t n st) []),bD 3 s,bE s]:=by
 obtain⟨ph,N,m,i,ks,fs,gs,j,l⟩:=x
 match ph with
 | 0=>exact(aE.unpack (.sweep t n ⟨0,N,m,i,ks,fs,gs,j,l⟩) 0 1 (LH t n ⟨0,N,m,i,ks,fs,gs,j,l⟩) [1] rfl rfl (by kernel_rfl) rfl).trans ((aE.weak (cB _ 0 [1])).trans ((aE.pick (upto 0 4) rfl).trans (aHv (by kernel_rfl) (by kernel_rfl))))
 | 1=>exact(aE.unpack (.sweep t n ⟨1,N,m,i,ks,fs,gs,j,l⟩) 0 1 (LH t n ⟨1,N,m,i,ks,fs,gs,j,l⟩) [1] rfl rfl (by kernel_rfl) rfl).trans ((aE.weak (cB _ 0 [1])).trans ((aE.pick (upto 0 4) rfl).trans (aHv (by kernel_rfl) (by kernel_rfl))))
 | 2=>exact(aE.unpack (.sweep t n ⟨2,N,m,i,ks,fs,gs,j,l⟩) 0 1 (LH t n ⟨2,N,m,i,ks,fs,gs,j,l⟩) [1] rfl rfl (by kernel_rfl) rfl).trans ((aE.weak (cB _ 0 [1])).trans ((aE.pick (upto 0 4) rfl).trans (aHv (by kernel_rfl) (by kernel_rfl))))
 | k+3=>exact(aE.unpack (.sweep t n ⟨k+3,N,m,i,ks,fs,gs,j,l⟩) 0 1 (LH t n ⟨k+3,N,m,i,ks,fs,gs,j,l⟩) [1] rfl rfl (by kernel_rfl) rfl).trans ((aE.weak (cB _ 0 [1])).trans ((aE.pick (upto 0 4) rfl).trans (aHv (by kernel_rfl) (by kernel_rfl))))
def SO.fin(t n:Int)(y:SO):Out Ob:=.ite y.d (.ret (.bool true) [some (aCV y.e),some (.abs (.store t n y.st) []),bD 3 y.s,bE y.s]) (.ret (.bool false) [some (.abs (.sweep t n y.e) [1]),some (.abs (.store t n y.st) []),bD 3 y.s,bE y.s])
theorem DF(t n:Int)(e:SWS)(st:STS)(s:MS)(K:AVal→aC Ob→Prop)(ok:qO t n e st s)(hK:((swF t n e st s).fin t n).run K):cT' 169 [.ptr 0 0,.ptr 2 0] (swH t n e st s) K:=by
 refine aHD (X6 t n e st s _ ok ?_);show dS (obI tbl) 4 K (.bool (swF t n e st s).d) _;generalize swF t n e st s=y at hK⊢;exact qS hK (fun h=>⟨⟨_,_,X5,h⟩⟩) (fun h=>⟨⟨_,_,aHA _ _ _,h⟩⟩)
noncomputable def swSA:aH Ob:=fun args h=>match args,h with
 | [.ptr 0 0,.ptr 2 0],[some (.abs (.sweep t n x) [1]),some (.abs (.store t2 n2 st) []),e3,e4]=>(match cO 3 [e3,e4]with
   | some (l,s)=>some (.pre ((l=s.xs.length∧t2=t∧n2=n)∧qO t n x st s) (SO.fin t n (swF t n x st s)))
   | none=>none)
 | _,_=>none
theorem aC0:sT' 169 swSA:=by
 intro args h o ho K hK;unfold swSA at ho;split at ho
 case h_2=>cases ho
 split at ho<;>cases ho
 rename_i hm;obtain⟨⟨⟨hl,rfl,rfl⟩,ok⟩,hK⟩:=hK;have hh:=bF hm hl;cases hh;exact DF _ _ _ _ _ K ok hK
def SO.finB(t n:Int)(y:SO):Out Ob:=.ite y.d (.ret (.bool true) [some (aCV y.e),hM 5 t n y.st,none,bD 4 y.s,bE y.s,hO y.st]) (.ret (.bool false) [some (.abs (.sweep t n y.e) [1]),hM 5 t n y.st,none,bD 4 y.s,bE y.s,hO y.st])
noncomputable def swSB:aH Ob:=fun args h=>match args,h with
 | [.ptr 0 0,.ptr 3 0],[some (.abs (.sweep t n x) [1]),e1,e2,e3,e4]=>(match lL 2 [e1,e2],cO 4 [e3,e4]with
   | some (l2,t2,n2,st),some (l,s)=>some (.pre ((l=s.xs.length∧l2=st.R.length∧t2=t∧n2=n)∧qO t n x st s) (SO.finB t n (swF t n x st s)))
   | _,_=>none)
 | _,_=>none
theorem aC1:sT' 169 swSB:=by
 intro args h o ho K hK;unfold swSB at ho;split at ho
 case h_2=>cases ho
 split at ho<;>cases ho
 rename_i hs hm;obtain⟨⟨⟨hl,hl2,rfl,rfl⟩,ok⟩,hK⟩:=hK;have hh:=bF hm hl;cases hh;have hh:=cG hs hl2;cases hh;exact jT (fun ι hι=>by simp [aJ.ren,aHE,AVal.ren,hι]) (fun ι hι=>by simp [aJ.ren,hι]) (fun K hK=>DF _ _ _ _ _ K ok hK) K hK
noncomputable def swSC:aH Ob:=aH.or swSA swSB
theorem aCZ:sT' 169 swSC:=aHM aC0 aC1
def aBb(t n:Int)(v:AVal)(g:aC Ob):Option (Prop×STS):=match v,g with
 | .ptr 2 0,[e1,e2,some (.cells [.ptr 0 0,.bool false,.raw (.pointer none),.raw (.pointer none),.bool false])]=>(match lL 1 [e1,e2]with
   | some (l2,t2,n2,st)=>some (t2=t∧n2=n∧l2=st.R.length,st)
   | none=>none)
 | _,_=>none
abbrev UL(t n:Int)(y:STS):aC Ob:=[hM 1 t n y,hO y,some (.abs (.ensure t n aW) [0])]
theorem UM{t n:Int} :bX (obI tbl) 2 (aBb t n) (fun y=>.ret (.ptr 2 0) (UL t n y)):=by
 intro v g p x hp hq K hK;unfold aBb at hp;split at hp
 case h_2=>cases hp
 split at hp
 case h_2=>cases hp
 rename_i l2 t2 n2 st hs;simp only [sI',pI']at hp;obtain⟨rfl,rfl⟩:=hp;obtain⟨rfl,rfl,hl2⟩:=hq;have hh:=cG hs hl2;cases hh;exact⟨⟨_,_,aE.pack (UL t2 n2 st) (.ensure t2 n2 aW) 2 1 (DN t2 n2 aW) [0] (by kernel_rfl) rfl rfl (by kernel_rfl),hK⟩⟩
def aBc(t n:Int)(st:STS):Tr STS:=.pre (t=t∧n=n∧lE' st.3) (.ret st)
def enNS:aH Ob:=fun args h=>match args,h with
 | [.ptr 0 0],[e1,e2]=>(match lL 1 [e1,e2]with
   | some (l2,t,n,st)=>some (.pre (l2=st.R.length∧(aBc t n st).ok) (.ret (.ptr 2 0) (UL t n (aBc t n st).val)))
   | none=>none)
 | _,_=>none
theorem aBd:sT' 206 enNS:=by
 intro args h o ho K hK;unfold enNS at ho;split at ho
 case h_2=>cases ho
 split at ho<;>cases ho
 rename_i l2 t n st hs;obtain⟨⟨hl2,ok⟩,hK⟩:=hK;have hh:=cG hs hl2;cases hh;refine aHC (root:=2) (pos:=[]) (cs:=[]) (parse:=aBb t n) UM ?_;exact cM' (E:=EB2) (q:=(aBc t n st).run (fun y=>(Out.ret (.ptr 2 0) (UL t n y)).run K)) (by kernel_rfl) (aHw ok hK)
def aCW(t n:Int)(v:AVal)(g:aC Ob):Option (Prop×STS):=match v,g with
 | .ptr 2 0,[e1,e2,some (.cells [.ptr 0 0,.raw (.pointer none)])]=>(match lL 1 [e1,e2]with
   | some (l2,t2,n2,st)=>some (t2=t∧n2=n∧l2=st.R.length,st)
   | none=>none)
 | _,_=>none
abbrev X0(t n:Int)(y:STS):aC Ob:=[hM 1 t n y,hO y,some (.abs (.sweep t n bN) [0])]
theorem X1{t n:Int} :bX (obI tbl) 2 (aCW t n) (fun y=>.ret (.ptr 2 0) (X0 t n y)):=by
 intro v g p x hp hq K hK;unfold aCW at hp;split at hp
 case h_2=>cases hp
 split at hp
 case h_2=>cases hp
 rename_i l2 t2 n2 st hs;simp only [sI',pI']at hp;obtain⟨rfl,rfl⟩:=hp;obtain⟨rfl,rfl,hl2⟩:=hq;have hh:=cG hs hl2;cases hh;exact⟨⟨_,_,aE.pack (X0 t2 n2 st) (.sweep t2 n2 bN) 2 1 (LH t2 n2 bN) [0] (by kernel_rfl) rfl rfl (by kernel_rfl),hK⟩⟩
def aCX(t n:Int)(st:STS):Tr STS:=.pre (t=t∧n=n∧lE' st.3) (.ret st)
def swNS:aH Ob:=fun args h=>match args,h with
 | [.ptr 0 0],[e1,e2]=>(match lL 1 [e1,e2]with
   | some (l2,t,n,st)=>some (.pre (l2=st.R.length∧(aCX t n st).ok) (.ret (.ptr 2 0) (X0 t n (aCX t n st).val)))
   | none=>none)
 | _,_=>none
theorem aCY:sT' 167 swNS:=by
 intro args h o ho K hK;unfold swNS at ho;split at ho
 case h_2=>cases ho
 split at ho<;>cases ho
 rename_i l2 t n st hs;obtain⟨⟨hl2,ok⟩,hK⟩:=hK;have hh:=cG hs hl2;cases hh;refine aHC (root:=2) (pos:=[]) (cs:=[]) (parse:=aCW t n) X1 ?_;exact cM' (E:=EB2) (q:=(aCX t n st).run (fun y=>(Out.ret (.ptr 2 0) (X0 t n y)).run K)) (by kernel_rfl) (aHw ok hK)
noncomputable def EB3:=(((EB2.addS 154 enS2 aBf).addS 169 swSC aCZ).addS 206 enNS aBd).addS 167 swNS aCY
structure ClO where
 d:Bool
 x:CLS
 s:MS
instance:Inhabited ClO:=⟨⟨false,⟨0,0,0,0⟩,⟨0,0,[],0,0,0,0,0,false⟩⟩⟩
instance:Inhabited CLS:=⟨⟨0,0,0,0⟩⟩
abbrev clH(t n:Int)(x:CLS)(s:MS):aC Ob:=[some (.abs (.clear t n x) []),bD 2 s,bE s]
abbrev clD(t n:Int)(x:CLS)(s:MS):aC Ob:=[cE' [.I t,.I n,.I x.addr,.I x.at',.int .u64 x.word,.int .u64 x.found],bD 2 s,bE s]
def ClO.fin(t n:Int)(y:ClO):Out Ob:=.ite y.d (.ret (.bool true) (clD t n y.x y.s)) (.ret (.bool false) (clH t n y.x y.s))
def aAB(t n:Int)(v:AVal)(g:aC Ob):Option (Prop×ClO):=match v,g with
 | .bool d,[some (.cells [.int .i64 t1,.int .i64 n1,.int .i64 addr,.int .i64 at',.int .u64 word,.int .u64 found]),e1,e2]=>(match cO 2 [e1,e2]with
   | some (l,s)=>some ((t1=t∧n1=n)∧l=s.xs.length,⟨d,⟨addr,at',word,found⟩,s⟩)
   | none=>none)
 | _,_=>none
def R0(t n:Int)(v:AVal)(g:aC Ob):Option (Prop×ClO):=aAB t n v g
theorem S6{t n:Int} :bX (obI tbl) 3 (aAB t n) (ClO.fin t n):=by
 intro v g p x hp hq K hK;unfold aAB at hp;split at hp
 case h_2=>cases hp
 rename_i d t1 n1 addr at' word found e1 e2;split at hp
 case h_2=>cases hp
 rename_i l s hm;simp only [sI',pI']at hp;obtain⟨rfl,rfl⟩:=hp;obtain⟨⟨rfl,rfl⟩,hl⟩:=hq;have hh:=bF hm hl;cases hh;refine qS hK (fun h=>?_) (fun h=>?_)
 ·exact⟨⟨_,_,aHA _ _ _,h⟩⟩
 ·exact⟨⟨_,_,(aE.pack (clH t1 n1 (⟨addr,at',word,found⟩:CLS) s) (.clear t1 n1 (⟨addr,at',word,found⟩:CLS)) 0 0 (l5 t1 n1 (⟨addr,at',word,found⟩:CLS)) [] (by kernel_rfl) rfl (congrArg (Prod.mk 0) rfl) (by kernel_rfl)),h⟩⟩
theorem x0{t n:Int} :bX (obI tbl) 3 (R0 t n) (ClO.fin t n):=by
 intro v g p x hp hq K hK;unfold R0 at hp;exact S6 v g p x hp hq K hK
def AD(t n:Int)(x:CLS)(s:MS):Tr ClO:=.pre (lE' s.3∧(0:Int)≤s.4∧s.4≤(4611686018427387904:Int)) (.pre True (.ite (ilt (aA (aF s.3 x.1) 20 5 - 1) 0) (.pre ((t=t∧n=n)∧lE' s.3) (.ret {d:=true,x:= {addr:=x.1,at':=1,word:=aF s.3 x.1,found:=x.4},s:= {s with c:=s.4+1,k:=1,a:=x.1,o:=aF s.3 x.1,w:=aF s.3 x.1,ok:=bU s.3 x.1} })) (.pre ((t=t∧n=n)∧lE' s.3) (.ret {d:=ile t (aA (aF s.3 x.1) 20 5 - 1),x:= {addr:=x.1,at':=1,word:=aF s.3 x.1,found:=x.4},s:= {s with c:=s.4+1,k:=1,a:=x.1,o:=aF s.3 x.1,w:=aF s.3 x.1,ok:=bU s.3 x.1} }))))
theorem IL(t n:Int)(x:CLS)(s:MS)(K:ClO→Prop)(h:(AD t n x s).run K):cT' 214 [.ptr 0 0,.ptr 1 0] [cE' [.I t,.I n,.I x.addr,.I 0,.int .u64 x.word,.int .u64 x.found],bD 2 s,bE s] (bP 3 0 [] [] (R0 t n) K):=by
 exact cM' (E:=EB3) (by kernel_rfl) h
abbrev w05(x:CLS):=aA x.3 20 5 - 1
abbrev w04(n:Int)(s:MS)(t:Int)(x:CLS):Tr ClO:=.ret {d:=false,x:= {addr:=x.1,at':=3,word:=x.3,found:=aF s.3 (2*n+5+2*t+3*(w05 x)+2) },s:= {s with c:=s.4+1,k:=1,a:=2*n+5+2*t+3*(w05 x)+2,o:=aF s.3 (2*n+5+2*t+3*(w05 x)+2),w:=aF s.3 (2*n+5+2*t+3*(w05 x)+2),ok:=bU s.3 (2*n+5+2*t+3*(w05 x)+2) } }
abbrev w06(n t:Int)(x:CLS):=(((0:Int)≤t∧t≤(100000:Int))∧((0:Int)≤n∧n≤(100000:Int))∧(-1099511627776:Int)≤aA x.3 20 5 - 1∧aA x.3 20 5 - (1:Int)≤(1099511627776:Int))∧True
def AE(t n:Int)(x:CLS)(s:MS):Tr ClO:=.pre True (.pre (w06 n t x) (.pre ((lE' s.3∧(0:Int)≤s.4∧s.4≤(4611686018427387904:Int))∧True) (.pre True (.ite (hasB [2] (aA (aF s.3 (2*n+5+2*t+3*(w05 x)+2)) 49 3)) (.ite (ieq (aA (aF s.3 (2*n+5+2*t+3*(w05 x)+2)) 12 9) x.1) (.pre True (.ite (ieq (aA (aF s.3 (2*n+5+2*t+3*(w05 x)+2)) 21 18) (aA x.3 25 18)) (.pre ((t=t∧n=n)∧lE' s.3) (.ret {d:=false,x:= {addr:=x.1,at':=2,word:=x.3,found:=aF s.3 (2*n+5+2*t+3*(w05 x)+2) },s:= {s with c:=s.4+1,k:=1,a:=2*n+5+2*t+3*(w05 x)+2,o:=aF s.3 (2*n+5+2*t+3*(w05 x)+2),w:=aF s.3 (2*n+5+2*t+3*(w05 x)+2),ok:=bU s.3 (2*n+5+2*t+3*(w05 x)+2) } })) (.pre ((t=t∧n=n)∧lE' s.3) (w04 n s t x)))) (.pre ((t=t∧n=n)∧lE' s.3) (w04 n s t x))) (.pre ((t=t∧n=n)∧lE' s.3) (w04 n s t x))))))
theorem IM(t n:Int)(x:CLS)(s:MS)(K:ClO→Prop)(h:(AE t n x s).run K):cT' 214 [.ptr 0 0,.ptr 1 0] [cE' [.I t,.I n,.I x.addr,.I 1,.int .u64 x.word,.int .u64 x.found],bD 2 s,bE s] (bP 3 0 [] [] (R0 t n) K):=by
 exact cM' (E:=EB3) (by kernel_rfl) h
def AF(t n:Int)(x:CLS)(s:MS):Tr ClO:=.pre True (.pre True (.pre True (.pre True (.pre (w06 n t x) (.pre ((lE' s.3∧(0:Int)≤s.4∧s.4≤(4611686018427387904:Int))∧True) (.pre ((t=t∧n=n)∧lE' (bif aV s.3 (2*n+5+2*t+3*(w05 x)+2) x.4 then aX s.3 (2*n+5+2*t+3*(w05 x)+2) (bif dOk (aA x.4 0 12) (aA x.4 12 9) (aA x.4 21 18) (aA x.4 39 9) 3 (aA x.4 52 10)then cL (aA x.4 0 12) (aA x.4 12 9) (aA x.4 21 18) (aA x.4 39 9) (ieq (aA x.4 48 1) 1) 3 (aA x.4 52 10)else 0)else s.3)) (.ret {d:=false,x:= {x with at':=3},s:= {t:=s.1,n:=s.2,xs:=bif aV s.3 (2*n+5+2*t+3*(w05 x)+2) x.4 then aX s.3 (2*n+5+2*t+3*(w05 x)+2) (bif dOk (aA x.4 0 12) (aA x.4 12 9) (aA x.4 21 18) (aA x.4 39 9) 3 (aA x.4 52 10)then cL (aA x.4 0 12) (aA x.4 12 9) (aA x.4 21 18) (aA x.4 39 9) (ieq (aA x.4 48 1) 1) 3 (aA x.4 52 10)else 0)else s.3,c:=s.4+1,k:=3,a:=2*n+5+2*t+3*(w05 x)+2,o:=aF s.3 (2*n+5+2*t+3*(w05 x)+2),w:=bif bU s.3 (2*n+5+2*t+3*(w05 x)+2)then bif dOk (aA x.4 0 12) (aA x.4 12 9) (aA x.4 21 18) (aA x.4 39 9) 3 (aA x.4 52 10)then cL (aA x.4 0 12) (aA x.4 12 9) (aA x.4 21 18) (aA x.4 39 9) (ieq (aA x.4 48 1) 1) 3 (aA x.4 52 10)else 0 else 0,ok:=aV s.3 (2*n+5+2*t+3*(w05 x)+2) x.4} })))))))
theorem IN(t n:Int)(x:CLS)(s:MS)(K:ClO→Prop)(h:(AF t n x s).run K):cT' 214 [.ptr 0 0,.ptr 1 0] [cE' [.I t,.I n,.I x.addr,.I 2,.int .u64 x.word,.int .u64 x.found],bD 2 s,bE s] (bP 3 0 [] [] (R0 t n) K):=by
 exact cM' (E:=EB3) (by kernel_rfl) h
abbrev w07(x:CLS):=aT (aA x.3 25 18)
def AG(t n:Int)(x:CLS)(s:MS):Tr ClO:=.pre True (.pre ((0:Int)≤aA x.3 25 18∧aA x.3 25 (18:Int)≤(1000000:Int)) (.pre True (.pre ((lE' s.3∧(0:Int)≤s.4∧s.4≤(4611686018427387904:Int))∧True) (.pre ((t=t∧n=n)∧lE' (bif aV s.3 x.1 x.3 then aX s.3 x.1 (bif bif aM (aA x.3 0 10) 10 then bif aM (aA x.3 10 9) 9 then bif aM 0 5 then aM (w07 x) 18 else false else false else false then cM (aA x.3 0 10) (aA x.3 10 9) (ieq (aA x.3 19 1) 1) 0 (w07 x)else 0)else s.3)) (.ret {d:=true,x:= {x with at':=3},s:= {t:=s.1,n:=s.2,xs:=bif aV s.3 x.1 x.3 then aX s.3 x.1 (bif bif aM (aA x.3 0 10) 10 then bif aM (aA x.3 10 9) 9 then bif aM 0 5 then aM (w07 x) 18 else false else false else false then cM (aA x.3 0 10) (aA x.3 10 9) (ieq (aA x.3 19 1) 1) 0 (w07 x)else 0)else s.3,c:=s.4+1,k:=3,a:=x.1,o:=aF s.3 x.1,w:=bif bU s.3 x.1 then bif bif aM (aA x.3 0 10) 10 then bif aM (aA x.3 10 9) 9 then bif aM 0 5 then aM (w07 x) 18 else false else false else false then cM (aA x.3 0 10) (aA x.3 10 9) (ieq (aA x.3 19 1) 1) 0 (w07 x)else 0 else 0,ok:=aV s.3 x.1 x.3} })))))
theorem IP(t n:Int)(x:CLS)(s:MS)(K:ClO→Prop)(h:(AG t n x s).run K):cT' 214 [.ptr 0 0,.ptr 1 0] [cE' [.I t,.I n,.I x.addr,.I 3,.int .u64 x.word,.int .u64 x.found],bD 2 s,bE s] (bP 3 0 [] [] (R0 t n) K):=by
 exact cM' (E:=EB3) (by kernel_rfl) h
def clT(t n:Int)(x:CLS)(s:MS):Tr ClO:=
 bif ieq x.at' 0 then AD t n x s else
 bif ieq x.at' 1 then AE t n x s else
 bif ieq x.at' 2 then AF t n x s else
 bif ieq x.at' 3 then AG t n x s else .pre False (.ret default)
def oS(t n:Int)(x:CLS)(s:MS):ClO:=(clT t n x s).val
def MT(t n:Int)(x:CLS)(s:MS):Prop:=(clT t n x s).ok
theorem S7(t n:Int)(x:CLS)(s:MS)(K:AVal→aC Ob→Prop)(h:(clT t n x s).run (fun y=>(ClO.fin t n y).run K)):cT' 214 [.ptr 0 0,.ptr 1 0] (clH t n x s) K:=by
 unfold clT at h
 by_cases e:x.at'=0
 ·rw [e]at h;have h:(AD t n x s).run _:=h;refine aHq (root:=0) (pos:=[]) (cs:=[]) (parse:=R0 t n) (fin:=ClO.fin t n) x0 (aR.unpack (.clear t n x) 0 0 (l5 t n x) [] rfl (congrArg (Prod.mk 0) rfl) (by kernel_rfl) rfl) ?_
  have q:=IL t n x s _ h;rw [←e]at q;exact q
 rw [bL e]at h
 by_cases e:x.at'=1
 ·rw [e]at h;have h:(AE t n x s).run _:=h;refine aHq (root:=0) (pos:=[]) (cs:=[]) (parse:=R0 t n) (fin:=ClO.fin t n) x0 (aR.unpack (.clear t n x) 0 0 (l5 t n x) [] rfl (congrArg (Prod.mk 0) rfl) (by kernel_rfl) rfl) ?_
  have q:=IM t n x s _ h;rw [←e]at q;exact q
 rw [bL e]at h
 by_cases e:x.at'=2
 ·rw [e]at h;have h:(AF t n x s).run _:=h;refine aHq (root:=0) (pos:=[]) (cs:=[]) (parse:=R0 t n) (fin:=ClO.fin t n) x0 (aR.unpack (.clear t n x) 0 0 (l5 t n x) [] rfl (congrArg (Prod.mk 0) rfl) (by kernel_rfl) rfl) ?_
  have q:=IN t n x s _ h;rw [←e]at q;exact q
 rw [bL e]at h
 by_cases e:x.at'=3
 ·rw [e]at h;have h:(AG t n x s).run _:=h;refine aHq (root:=0) (pos:=[]) (cs:=[]) (parse:=R0 t n) (fin:=ClO.fin t n) x0 (aR.unpack (.clear t n x) 0 0 (l5 t n x) [] rfl (congrArg (Prod.mk 0) rfl) (by kernel_rfl) rfl) ?_
  have q:=IP t n x s _ h;rw [←e]at q;exact q
 rw [bL e]at h;exact h.1.elim
noncomputable def clS:aH Ob:=fun args h=>match args,h with
 | [.ptr 0 0,.ptr 1 0],[some (.abs (.clear t n x) []),e1,e2]=>(match cO 2 [e1,e2]with
   | some (l,s)=>some (.pre (l=s.xs.length∧MT t n x s) (ClO.fin t n (oS t n x s)))
   | none=>none)
 | _,_=>none
theorem aDR:sT' 214 clS:=by
 intro args h o ho K hK;unfold clS at ho;split at ho
 case h_2=>cases ho
 split at ho<;>cases ho
 rename_i hm;obtain⟨⟨hl,ok⟩,hK⟩:=hK;have hh:=bF hm hl;cases hh;exact S7 _ _ _ _ K (aHw ok hK)
def aAy(t n:Int)(v:AVal)(g:aC Ob):Option (Prop×CLS):=match v,g with
 | .ptr 0 0,[some (.cells [.int .i64 t1,.int .i64 n1,.int .i64 addr,.int .i64 at',.int .u64 word,.int .u64 found])]=>some ((t1=t∧n1=n),(⟨addr,at',word,found⟩:CLS))
 | _,_=>none
abbrev S4(t n:Int)(y:CLS):aC Ob:=[some (.abs (.clear t n y) [])]
theorem S5{t n:Int} :bX (obI tbl) 0 (aAy t n) (fun y=>.ret (.ptr 0 0) (S4 t n y)):=by
 intro v g p x hp hq K hK;unfold aAy at hp;split at hp
 case h_2=>cases hp
 rename_i t1 n1 addr at' word found;simp only [sI',pI']at hp;obtain⟨rfl,rfl⟩:=hp;obtain⟨rfl,rfl⟩:=hq;exact⟨⟨_,_,aE.pack (S4 t1 n1 (⟨addr,at',word,found⟩:CLS)) (.clear t1 n1 (⟨addr,at',word,found⟩:CLS)) 0 0 (l5 t1 n1 (⟨addr,at',word,found⟩:CLS)) [] (by kernel_rfl) rfl (congrArg (Prod.mk 0) rfl) (by kernel_rfl),hK⟩⟩
def aAz(t n:Int)(a:Int):Tr CLS:=.pre (t=t∧n=n) (.ret {addr:=a,at':=0,word:=0,found:=0})
def xZ(t n:Int)(a:Int):CLS:=(aAz t n a).val
def pY(t n:Int)(a:Int):Prop:=(aAz t n a).ok
def clNS:aH Ob:=fun args h=>match args,h with
 | [.agg [.int .i64 t,.int .i64 n],.int .i64 a],[]=>some (.pre (pY t n a) (.ret (.ptr 0 0) (S4 t n (xZ t n a))))
 | _,_=>none
theorem aAA:sT' 258 clNS:=by
 intro args h o ho K hK;unfold clNS at ho;split at ho<;>cases ho
 rename_i t n a;obtain⟨ok,hK⟩:=hK;refine aHC (root:=0) (pos:=[]) (cs:=[]) (parse:=aAy t n) S5 ?_;exact cM' (E:=EB3) (q:=(aAz t n a).run (fun y=>(Out.ret (.ptr 0 0) (S4 t n y)).run K)) (by kernel_rfl) (aHw ok hK)
noncomputable def EC1:=((EB3.addS 214 clS aDR).addS 258 clNS aAA)
def cmpI(a b:Int):Int:=bif ilt a b then -1 else bif ilt b a then 1 else 0
def orI(a b:Int):Int:=bif ieq a 0 then b else a
def C4(u n v m:Int):Int:=orI (cmpI n m) (cmpI u v)
def MV:bH Ob:=fun args h=>match args,h with
 | [.int .i64 a,.int .i64 b],[]=>some (True,.I (cmpI a b))
 | _,_=>none
theorem S8:sT' 280 MV.spec:=by
 intro args h o ho K hK;unfold bH.spec MV at ho;split at ho
 case h_2=>cases ho
 rename_i p v hp;split at hp
 case h_2=>cases hp
 rename_i a b;simp only [sI',pI']at hp;obtain⟨rfl,rfl⟩:=hp;simp only [sI']at ho;subst ho;obtain⟨hp,hK⟩:=hK;have hK:K (.I (cmpI a b)) []:=hK;refine aHp (cM' (E:=EC1) (q:=bif !ieq a a then bif !ieq b b then K (.I 0) []else K (.I (-1:Int)) []else bif !ieq b b then K (.I 1) []else bif ilt a b then K (.I (-1:Int)) []else bif ilt b a then K (.I 1) []else K (.I 0) []) (by kernel_rfl) ?_)
 unfold cmpI at hK;rw [qK,qK];cases h:ilt a b with
 | true=>rw [h]at hK;exact hK
 | false=>cases h2:ilt b a<;>(rw [h,h2]at hK;exact hK)
def MY:bH Ob:=fun args h=>match args,h with
 | [.int .u64 a,.int .u64 b],[]=>some (True,.I (cmpI a b))
 | _,_=>none
theorem TA:sT' 279 MY.spec:=by
 intro args h o ho K hK;unfold bH.spec MY at ho;split at ho
 case h_2=>cases ho
 rename_i p v hp;split at hp
 case h_2=>cases hp
 rename_i a b;simp only [sI',pI']at hp;obtain⟨rfl,rfl⟩:=hp;simp only [sI']at ho;subst ho;obtain⟨hp,hK⟩:=hK;have hK:K (.I (cmpI a b)) []:=hK;refine aHp (cM' (E:=EC1) (q:=bif !ieq a a then bif !ieq b b then K (.I 0) []else K (.I (-1:Int)) []else bif !ieq b b then K (.I 1) []else bif ilt a b then K (.I (-1:Int)) []else bif ilt b a then K (.I 1) []else K (.I 0) []) (by kernel_rfl) ?_)
 unfold cmpI at hK;rw [qK,qK];cases h:ilt a b with
 | true=>rw [h]at hK;exact hK
 | false=>cases h2:ilt b a<;>(rw [h,h2]at hK;exact hK)
def MX:bH Ob:=fun args h=>match args,h with
 | [.slice 0 0 2 1],[some (.cells [.int .i64 a,.int .i64 b])]=>some (True,.I (orI a b))
 | _,_=>none
theorem S9:sT' 278 MX.spec:=by
 intro args h o ho K hK;unfold bH.spec MX at ho;split at ho
 case h_2=>cases ho
 rename_i p v hp;split at hp
 case h_2=>cases hp
 rename_i a b;simp only [sI',pI']at hp;obtain⟨rfl,rfl⟩:=hp;simp only [sI']at ho;subst ho;obtain⟨hp,hK⟩:=hK;have hK:K (.I (orI a b)) [cE' [.I a,.I b]]:=hK;refine aHp (cM' (E:=EC1) (q:=((0:Int)≤(0:Int)∧(0:Int)<(↑2:Int))∧bif !ieq a 0 then K (.I a) [cE' [.I a,.I b]]else((0:Int)≤W (0+1)∧W (0+1)<(↑2:Int))∧bif !ieq b 0 then K (.I b) [cE' [.I a,.I b]]else K (.I 0) [cE' [.I a,.I b]]) (by kernel_rfl) ?_)
 unfold orI at hK;have e1:W (0+1)=1:=by decide
 simp only [W]at e1;simp only [W,e1];refine⟨by omega,?_⟩
 cases h:ieq a 0 with
 | false=>rw [h]at hK;exact hK
 | true=>
   rw [h]at hK;refine⟨by omega,?_⟩
   cases h2:ieq b 0 with
   | false=>exact hK
   | true=>
     have:b=0:=by rw [cN]at h2;simpa using h2
     subst this;exact hK
noncomputable def EQ1:=((EC1.addR 280 MV S8).addR 279 MY TA).addR 278 MX S9
def P8:bH Ob:=fun args h=>match args,h with
 | [.agg [.int .i64 u,.int .u64 n],.agg [.int .i64 v,.int .u64 m]],[]=>some (True,.I (C4 u n v m))
 | _,_=>none
theorem XJ:sT' 244 P8.spec:=by
 intro args h o ho K hK;unfold bH.spec P8 at ho;split at ho
 case h_2=>cases ho
 rename_i p v hp;split at hp
 case h_2=>cases hp
 rename_i u n v m;simp only [sI',pI']at hp;obtain⟨rfl,rfl⟩:=hp;simp only [sI']at ho;subst ho;obtain⟨hp,hK⟩:=hK;have hK:K (.I (C4 u n v m)) []:=hK;refine aHp (cM' (E:=EQ1) (q:=True∧True∧True∧K (.I (orI (cmpI n m) (cmpI u v))) []) (by kernel_rfl) ?_)
 exact⟨trivial,trivial,trivial,hK⟩
noncomputable def EQ2:=EQ1.addR 244 P8 XJ
def yS(u n v m:Int):Bool:=!ile 0 (C4 u n v m)
def F1:bH Ob:=fun args h=>match args,h with
 | [.slice 0 0 2 2],[some (.cells [.int .i64 u,.int .u64 n,.int .i64 v,.int .u64 m])]=>some (True,.bool (yS u n v m))
 | _,_=>none
theorem P9:sT' 195 F1.spec:=by
 intro args h o ho K hK;unfold bH.spec F1 at ho;split at ho
 case h_2=>cases ho
 rename_i p v hp;split at hp
 case h_2=>cases hp
 rename_i u n v m;simp only [sI',pI']at hp;obtain⟨rfl,rfl⟩:=hp;simp only [sI']at ho;subst ho;obtain⟨hp,hK⟩:=hK;have hK:K (.bool (yS u n v m)) [cE' [.I u,.int .u64 n,.I v,.int .u64 m]]:=hK;refine aHp (cM' (E:=EQ2) (q:=((0:Int)≤W (1 - 1)∧W (1 - 1)<(↑2:Int))∧((0:Int)≤(1:Int)∧(1:Int)<(↑2:Int))∧True∧bif ile 0 (C4 u n v m)then K (.bool false) [cE' [.I u,.int .u64 n,.I v,.int .u64 m]]else K (.bool true) [cE' [.I u,.int .u64 n,.I v,.int .u64 m]]) (by kernel_rfl) ?_)
 have e1:W (1 - 1)=0:=by decide
 simp only [W]at e1;simp only [W,e1];refine⟨by omega,by omega,trivial,?_⟩
 unfold yS at hK;cases h:ile 0 (C4 u n v m)<;>(rw [h]at hK;exact hK)
noncomputable def EQ:=EQ2.addR 195 F1 P9
structure HdO where
 d:Bool
 x:HDS
 s:MS
instance:Inhabited HdO:=⟨⟨false,⟨0,0,0,false⟩,⟨0,0,[],0,0,0,0,0,false⟩⟩⟩
instance:Inhabited HDS:=⟨⟨0,0,0,false⟩⟩
abbrev hdH(t n:Int)(x:HDS)(s:MS):aC Ob:=[some (.abs (.head t n x) []),bD 2 s,bE s]
abbrev hdD(t n:Int)(x:HDS)(s:MS):aC Ob:=[cE' [.I t,.I n,.I x.u,.int .u64 x.no,.I x.at',.bool x.tk],bD 2 s,bE s]
def HdO.fin(t n:Int)(y:HdO):Out Ob:=.ite y.d (.ret (.bool true) (hdD t n y.x y.s)) (.ret (.bool false) (hdH t n y.x y.s))
def aB2(t n:Int)(v:AVal)(g:aC Ob):Option (Prop×HdO):=match v,g with
 | .bool d,[some (.cells [.int .i64 t1,.int .i64 n1,.int .i64 u,.int .u64 no,.int .i64 at',.bool tk]),e1,e2]=>(match cO 2 [e1,e2]with
   | some (l,s)=>some ((t1=t∧n1=n)∧l=s.xs.length,⟨d,⟨u,no,at',tk⟩,s⟩)
   | none=>none)
 | _,_=>none
def hdP(t n:Int)(v:AVal)(g:aC Ob):Option (Prop×HdO):=aB2 t n v g
theorem VX{t n:Int} :bX (obI tbl) 3 (aB2 t n) (HdO.fin t n):=by
 intro v g p x hp hq K hK;unfold aB2 at hp;split at hp
 case h_2=>cases hp
 rename_i d t1 n1 u no at' tk e1 e2;split at hp
 case h_2=>cases hp
 rename_i l s hm;simp only [sI',pI']at hp;obtain⟨rfl,rfl⟩:=hp;obtain⟨⟨rfl,rfl⟩,hl⟩:=hq;have hh:=bF hm hl;cases hh;refine qS hK (fun h=>?_) (fun h=>?_)
 ·exact⟨⟨_,_,aHA _ _ _,h⟩⟩
 ·exact⟨⟨_,_,(aE.pack (hdH t1 n1 (⟨u,no,at',tk⟩:HDS) s) (.head t1 n1 (⟨u,no,at',tk⟩:HDS)) 0 0 (yF t1 n1 (⟨u,no,at',tk⟩:HDS)) [] (by kernel_rfl) rfl (congrArg (Prod.mk 0) rfl) (by kernel_rfl)),h⟩⟩
theorem aB3{t n:Int} :bX (obI tbl) 3 (hdP t n) (HdO.fin t n):=by
 intro v g p x hp hq K hK;unfold hdP at hp;exact VX v g p x hp hq K hK
abbrev w08(n:Int)(s:MS)(t:Int)(x:HDS):Tr HdO:=.ret {d:=ile t (W (x.3+1)),x:= {u:=x.3,no:=aF s.3 (2*n+5+2*t+3*x.3),at':=W (x.3+1),tk:=false},s:= {s with c:=s.4+1,k:=1,a:=2*n+5+2*t+3*x.3,o:=aF s.3 (2*n+5+2*t+3*x.3),w:=aF s.3 (2*n+5+2*t+3*x.3),ok:=bU s.3 (2*n+5+2*t+3*x.3) } }
abbrev w09(n t:Int)(x:HDS):=(((0:Int)≤t∧t≤(100000:Int))∧((0:Int)≤n∧n≤(100000:Int))∧(-1099511627776:Int)≤x.3∧x.3≤(1099511627776:Int))∧True
def VY(t n:Int)(x:HDS)(s:MS):Tr HdO:=.ite (!x.4) (.pre (w09 n t x) (.pre ((lE' s.3∧(0:Int)≤s.4∧s.4≤(4611686018427387904:Int))∧True) (.pre True (.pre True (.ite (!nN (aA (aF s.3 (2*n+5+2*t+3*x.3+2)) 49 3)) (.pre ((t=t∧n=n)∧lE' s.3) (.ret {d:=ile t (W (x.3+1)),x:= {u:=x.1,no:=x.2,at':=W (x.3+1),tk:=false},s:= {s with c:=s.4+1,k:=1,a:=2*n+5+2*t+3*x.3+2,o:=aF s.3 (2*n+5+2*t+3*x.3+2),w:=aF s.3 (2*n+5+2*t+3*x.3+2),ok:=bU s.3 (2*n+5+2*t+3*x.3+2) } })) (.pre ((t=t∧n=n)∧lE' s.3) (.ret {d:=false,x:= {x with tk:=nN (aA (aF s.3 (2*n+5+2*t+3*x.3+2)) 49 3) },s:= {s with c:=s.4+1,k:=1,a:=2*n+5+2*t+3*x.3+2,o:=aF s.3 (2*n+5+2*t+3*x.3+2),w:=aF s.3 (2*n+5+2*t+3*x.3+2),ok:=bU s.3 (2*n+5+2*t+3*x.3+2) } }))))))) (.pre (w09 n t x) (.pre ((lE' s.3∧(0:Int)≤s.4∧s.4≤(4611686018427387904:Int))∧True) (.ite (ilt x.1 0) (.pre ((t=t∧n=n)∧lE' s.3) (w08 n s t x)) (.pre True (.ite (yS x.3 (aF s.3 (2*n+5+2*t+3*x.3)) x.1 x.2) (.pre ((t=t∧n=n)∧lE' s.3) (w08 n s t x)) (.pre ((t=t∧n=n)∧lE' s.3) (.ret {d:=ile t (W (x.3+1)),x:= {u:=x.1,no:=x.2,at':=W (x.3+1),tk:=false},s:= {s with c:=s.4+1,k:=1,a:=2*n+5+2*t+3*x.3,o:=aF s.3 (2*n+5+2*t+3*x.3),w:=aF s.3 (2*n+5+2*t+3*x.3),ok:=bU s.3 (2*n+5+2*t+3*x.3) } })))))))
theorem OV(t n:Int)(x:HDS)(s:MS)(K:HdO→Prop)(h:(VY t n x s).run K):cT' 150 [.ptr 0 0,.ptr 1 0] [cE' [.I t,.I n,.I x.u,.int .u64 x.no,.I x.at',.bool x.tk],bD 2 s,bE s] (bP 3 0 [] [] (hdP t n) K):=by
 exact cM' (E:=EQ) (by kernel_rfl) h
def hdT(t n:Int)(x:HDS)(s:MS):Tr HdO:=VY t n x s
def pU(t n:Int)(x:HDS)(s:MS):HdO:=(hdT t n x s).val
def aB1(t n:Int)(x:HDS)(s:MS):Prop:=(hdT t n x s).ok
theorem VZ(t n:Int)(x:HDS)(s:MS)(K:AVal→aC Ob→Prop)(h:(hdT t n x s).run (fun y=>(HdO.fin t n y).run K)):cT' 150 [.ptr 0 0,.ptr 1 0] (hdH t n x s) K:=by
 unfold hdT at h;exact aHq (root:=0) (pos:=[]) (cs:=[]) (parse:=hdP t n) (fin:=HdO.fin t n) aB3 (aR.unpack (.head t n x) 0 0 (yF t n x) [] rfl (congrArg (Prod.mk 0) rfl) (by kernel_rfl) rfl) (OV t n x s _ h)
noncomputable def hdS:aH Ob:=fun args h=>match args,h with
 | [.ptr 0 0,.ptr 1 0],[some (.abs (.head t n x) []),e1,e2]=>(match cO 2 [e1,e2]with
   | some (l,s)=>some (.pre (l=s.xs.length∧aB1 t n x s) (HdO.fin t n (pU t n x s)))
   | none=>none)
 | _,_=>none
theorem aEP:sT' 150 hdS:=by
 intro args h o ho K hK;unfold hdS at ho;split at ho
 case h_2=>cases ho
 split at ho<;>cases ho
 rename_i hm;obtain⟨⟨hl,ok⟩,hK⟩:=hK;have hh:=bF hm hl;cases hh;exact VZ _ _ _ _ K (aHw ok hK)
def aBY(t n:Int)(v:AVal)(g:aC Ob):Option (Prop×HDS):=match v,g with
 | .ptr 0 0,[some (.cells [.int .i64 t1,.int .i64 n1,.int .i64 u,.int .u64 no,.int .i64 at',.bool tk])]=>some ((t1=t∧n1=n),(⟨u,no,at',tk⟩:HDS))
 | _,_=>none
abbrev VU(t n:Int)(y:HDS):aC Ob:=[some (.abs (.head t n y) [])]
theorem VV{t n:Int} :bX (obI tbl) 0 (aBY t n) (fun y=>.ret (.ptr 0 0) (VU t n y)):=by
 intro v g p x hp hq K hK;unfold aBY at hp;split at hp
 case h_2=>cases hp
 rename_i t1 n1 u no at' tk;simp only [sI',pI']at hp;obtain⟨rfl,rfl⟩:=hp;obtain⟨rfl,rfl⟩:=hq;exact⟨⟨_,_,aE.pack (VU t1 n1 (⟨u,no,at',tk⟩:HDS)) (.head t1 n1 (⟨u,no,at',tk⟩:HDS)) 0 0 (yF t1 n1 (⟨u,no,at',tk⟩:HDS)) [] (by kernel_rfl) rfl (congrArg (Prod.mk 0) rfl) (by kernel_rfl),hK⟩⟩
def aBZ(t n:Int):Tr HDS:=.pre (t=t∧n=n) (.ret {u:= -1,no:=0,at':=0,tk:=false})
def aBX(t n:Int):HDS:=(aBZ t n).val
def OU(t n:Int):Prop:=(aBZ t n).ok
def hdNS:aH Ob:=fun args h=>match args,h with
 | [.agg [.int .i64 t,.int .i64 n]],[]=>some (.pre (OU t n) (.ret (.ptr 0 0) (VU t n (aBX t n))))
 | _,_=>none
theorem aB0:sT' 128 hdNS:=by
 intro args h o ho K hK;unfold hdNS at ho;split at ho<;>cases ho
 rename_i t n;obtain⟨ok,hK⟩:=hK;refine aHC (root:=0) (pos:=[]) (cs:=[]) (parse:=aBY t n) VV ?_;exact cM' (E:=EQ) (q:=(aBZ t n).run (fun y=>(Out.ret (.ptr 0 0) (VU t n y)).run K)) (by kernel_rfl) (aHw ok hK)
noncomputable def EC2:=((EQ.addS 150 hdS aEP).addS 128 hdNS aB0)
structure DrO where
 d:Bool
 x:DRS
 s:MS
instance:Inhabited DrO:=⟨⟨false,⟨0,0⟩,⟨0,0,[],0,0,0,0,0,false⟩⟩⟩
instance:Inhabited DRS:=⟨⟨0,0⟩⟩
abbrev drH(t n:Int)(x:DRS)(s:MS):aC Ob:=[some (.abs (.drop t n x) []),bD 2 s,bE s]
abbrev drD(t n:Int)(x:DRS)(s:MS):aC Ob:=[cE' [.I t,.I n,.I x.th,.I x.at'],bD 2 s,bE s]
def DrO.fin(t n:Int)(y:DrO):Out Ob:=.ite y.d (.ret (.bool true) (drD t n y.x y.s)) (.ret (.bool false) (drH t n y.x y.s))
def aAZ(t n:Int)(v:AVal)(g:aC Ob):Option (Prop×DrO):=match v,g with
 | .bool d,[some (.cells [.int .i64 t1,.int .i64 n1,.int .i64 th,.int .i64 at']),e1,e2]=>(match cO 2 [e1,e2]with
   | some (l,s)=>some ((t1=t∧n1=n)∧l=s.xs.length,⟨d,⟨th,at'⟩,s⟩)
   | none=>none)
 | _,_=>none
def drP(t n:Int)(v:AVal)(g:aC Ob):Option (Prop×DrO):=aAZ t n v g
theorem UC{t n:Int} :bX (obI tbl) 3 (aAZ t n) (DrO.fin t n):=by
 intro v g p x hp hq K hK;unfold aAZ at hp;split at hp
 case h_2=>cases hp
 rename_i d t1 n1 th at' e1 e2;split at hp
 case h_2=>cases hp
 rename_i l s hm;simp only [sI',pI']at hp;obtain⟨rfl,rfl⟩:=hp;obtain⟨⟨rfl,rfl⟩,hl⟩:=hq;have hh:=bF hm hl;cases hh;refine qS hK (fun h=>?_) (fun h=>?_)
 ·exact⟨⟨_,_,aHA _ _ _,h⟩⟩
 ·exact⟨⟨_,_,(aE.pack (drH t1 n1 (⟨th,at'⟩:DRS) s) (.drop t1 n1 (⟨th,at'⟩:DRS)) 0 0 (x5 t1 n1 (⟨th,at'⟩:DRS)) [] (by kernel_rfl) rfl (congrArg (Prod.mk 0) rfl) (by kernel_rfl)),h⟩⟩
theorem aA0{t n:Int} :bX (obI tbl) 3 (drP t n) (DrO.fin t n):=by
 intro v g p x hp hq K hK;unfold drP at hp;exact UC v g p x hp hq K hK
def UD(t n:Int)(x:DRS)(s:MS):Tr DrO:=.pre ((((0:Int)≤t∧t≤(100000:Int))∧((0:Int)≤n∧n≤(100000:Int))∧((-1099511627776:Int)≤x.1∧x.1≤(1099511627776:Int))∧(-1099511627776:Int)≤x.2∧x.2≤(1099511627776:Int))∧True) (.pre ((lE' s.3∧(0:Int)≤s.4∧s.4≤(4611686018427387904:Int))∧True) (.pre ((t=t∧n=n)∧lE' (aX s.3 (2*n+5+2*x.1+x.2) 0)) (.ret {d:=ile 2 (W (x.2+1)),x:= {th:=x.1,at':=W (x.2+1) },s:= {t:=s.1,n:=s.2,xs:=aX s.3 (2*n+5+2*x.1+x.2) 0,c:=s.4+1,k:=2,a:=2*n+5+2*x.1+x.2,o:=aF s.3 (2*n+5+2*x.1+x.2),w:=bif bU s.3 (2*n+5+2*x.1+x.2)then 0 else 0,ok:=bU s.3 (2*n+5+2*x.1+x.2) } })))
theorem NG(t n:Int)(x:DRS)(s:MS)(K:DrO→Prop)(h:(UD t n x s).run K):cT' 166 [.ptr 0 0,.ptr 1 0] [cE' [.I t,.I n,.I x.th,.I x.at'],bD 2 s,bE s] (bP 3 0 [] [] (drP t n) K):=by
 exact cM' (E:=EC2) (by kernel_rfl) h
def drT(t n:Int)(x:DRS)(s:MS):Tr DrO:=UD t n x s
def R6(t n:Int)(x:DRS)(s:MS):DrO:=(drT t n x s).val
def aAY(t n:Int)(x:DRS)(s:MS):Prop:=(drT t n x s).ok
theorem UE(t n:Int)(x:DRS)(s:MS)(K:AVal→aC Ob→Prop)(h:(drT t n x s).run (fun y=>(DrO.fin t n y).run K)):cT' 166 [.ptr 0 0,.ptr 1 0] (drH t n x s) K:=by
 unfold drT at h;exact aHq (root:=0) (pos:=[]) (cs:=[]) (parse:=drP t n) (fin:=DrO.fin t n) aA0 (aR.unpack (.drop t n x) 0 0 (x5 t n x) [] rfl (congrArg (Prod.mk 0) rfl) (by kernel_rfl) rfl) (NG t n x s _ h)
noncomputable def drS:aH Ob:=fun args h=>match args,h with
 | [.ptr 0 0,.ptr 1 0],[some (.abs (.drop t n x) []),e1,e2]=>(match cO 2 [e1,e2]with
   | some (l,s)=>some (.pre (l=s.xs.length∧aAY t n x s) (DrO.fin t n (R6 t n x s)))
   | none=>none)
 | _,_=>none
theorem aDX:sT' 166 drS:=by
 intro args h o ho K hK;unfold drS at ho;split at ho
 case h_2=>cases ho
 split at ho<;>cases ho
 rename_i hm;obtain⟨⟨hl,ok⟩,hK⟩:=hK;have hh:=bF hm hl;cases hh;exact UE _ _ _ _ K (aHw ok hK)
def aAV(t n:Int)(v:AVal)(g:aC Ob):Option (Prop×DRS):=match v,g with
 | .ptr 0 0,[some (.cells [.int .i64 t1,.int .i64 n1,.int .i64 th,.int .i64 at'])]=>some ((t1=t∧n1=n),(⟨th,at'⟩:DRS))
 | _,_=>none
abbrev T9(t n:Int)(y:DRS):aC Ob:=[some (.abs (.drop t n y) [])]
theorem UA{t n:Int} :bX (obI tbl) 0 (aAV t n) (fun y=>.ret (.ptr 0 0) (T9 t n y)):=by
 intro v g p x hp hq K hK;unfold aAV at hp;split at hp
 case h_2=>cases hp
 rename_i t1 n1 th at';simp only [sI',pI']at hp;obtain⟨rfl,rfl⟩:=hp;obtain⟨rfl,rfl⟩:=hq;exact⟨⟨_,_,aE.pack (T9 t1 n1 (⟨th,at'⟩:DRS)) (.drop t1 n1 (⟨th,at'⟩:DRS)) 0 0 (x5 t1 n1 (⟨th,at'⟩:DRS)) [] (by kernel_rfl) rfl (congrArg (Prod.mk 0) rfl) (by kernel_rfl),hK⟩⟩
def aAW(t n:Int)(u:Int):Tr DRS:=.pre (t=t∧n=n) (.ret {th:=u,at':=0})
def AW(t n:Int)(u:Int):DRS:=(aAW t n u).val
def sH(t n:Int)(u:Int):Prop:=(aAW t n u).ok
def drNS:aH Ob:=fun args h=>match args,h with
 | [.agg [.int .i64 t,.int .i64 n],.int .i64 u],[]=>some (.pre (sH t n u) (.ret (.ptr 0 0) (T9 t n (AW t n u))))
 | _,_=>none
theorem aAX:sT' 233 drNS:=by
 intro args h o ho K hK;unfold drNS at ho;split at ho<;>cases ho
 rename_i t n u;obtain⟨ok,hK⟩:=hK;refine aHC (root:=0) (pos:=[]) (cs:=[]) (parse:=aAV t n) UA ?_;exact cM' (E:=EC2) (q:=(aAW t n u).run (fun y=>(Out.ret (.ptr 0 0) (T9 t n y)).run K)) (by kernel_rfl) (aHw ok hK)
noncomputable def EC3:=((EC2.addS 166 drS aDX).addS 233 drNS aAX)
structure AnO where
 d:Bool
 x:ANS
 s:MS
instance:Inhabited AnO:=⟨⟨false,⟨0,0,0,0,false,0⟩,⟨0,0,[],0,0,0,0,0,false⟩⟩⟩
instance:Inhabited ANS:=⟨⟨0,0,0,0,false,0⟩⟩
abbrev anH(t n:Int)(x:ANS)(s:MS):aC Ob:=[some (.abs (.announce t n x) []),bD 2 s,bE s]
abbrev anD(t n:Int)(x:ANS)(s:MS):aC Ob:=[cE' [.I t,.I n,.int .u64 x.no,.I x.me,.I x.at',.int .u64 x.bits,.bool x.wrong,.int .u64 x.found],bD 2 s,bE s]
def AnO.fin(t n:Int)(y:AnO):Out Ob:=.ite y.d (.ret (.bool true) (anD t n y.x y.s)) (.ret (.bool false) (anH t n y.x y.s))
def aAh(t n:Int)(v:AVal)(g:aC Ob):Option (Prop×AnO):=match v,g with
 | .bool d,[some (.cells [.int .i64 t1,.int .i64 n1,.int .u64 no,.int .i64 me,.int .i64 at',.int .u64 bits,.bool wrong,.int .u64 found]),e1,e2]=>(match cO 2 [e1,e2]with
   | some (l,s)=>some ((t1=t∧n1=n)∧l=s.xs.length,⟨d,⟨no,me,at',bits,wrong,found⟩,s⟩)
   | none=>none)
 | _,_=>none
def LX(t n:Int)(v:AVal)(g:aC Ob):Option (Prop×AnO):=aAh t n v g
theorem ST{t n:Int} :bX (obI tbl) 3 (aAh t n) (AnO.fin t n):=by
 intro v g p x hp hq K hK;unfold aAh at hp;split at hp
 case h_2=>cases hp
 rename_i d t1 n1 no me at' bits wrong found e1 e2;split at hp
 case h_2=>cases hp
 rename_i l s hm;simp only [sI',pI']at hp;obtain⟨rfl,rfl⟩:=hp;obtain⟨⟨rfl,rfl⟩,hl⟩:=hq;have hh:=bF hm hl;cases hh;refine qS hK (fun h=>?_) (fun h=>?_)
 ·exact⟨⟨_,_,aHA _ _ _,h⟩⟩
 ·exact⟨⟨_,_,(aE.pack (anH t1 n1 (⟨no,me,at',bits,wrong,found⟩:ANS) s) (.announce t1 n1 (⟨no,me,at',bits,wrong,found⟩:ANS)) 0 0 (eN t1 n1 (⟨no,me,at',bits,wrong,found⟩:ANS)) [] (by kernel_rfl) rfl (congrArg (Prod.mk 0) rfl) (by kernel_rfl)),h⟩⟩
theorem tW{t n:Int} :bX (obI tbl) 3 (LX t n) (AnO.fin t n):=by
 intro v g p x hp hq K hK;unfold LX at hp;exact ST v g p x hp hq K hK
abbrev w0a(n t:Int)(x:ANS):=(((0:Int)≤t∧t≤(100000:Int))∧((0:Int)≤n∧n≤(100000:Int))∧(-1099511627776:Int)≤x.2∧x.2≤(1099511627776:Int))∧True
def zT(t n:Int)(x:ANS)(s:MS):Tr AnO:=.ite x.5 (.pre (lE' s.3∧(0:Int)≤s.4∧s.4≤(4611686018427387904:Int)) (.pre ((t=t∧n=n)∧lE' s.3) (.ret {d:=true,x:= {x with at':=0},s:= {s with c:=s.4+1,k:=1,a:=0,o:=aF s.3 0,w:=aF s.3 0,ok:=bU s.3 0} }))) (.pre (w0a n t x) (.pre ((lE' s.3∧(0:Int)≤s.4∧s.4≤(4611686018427387904:Int))∧True) (.pre ((t=t∧n=n)∧lE' (aX s.3 (2*n+5+2*t+3*x.2+1) x.4)) (.ret {d:=false,x:= {x with at':=W (0+1)},s:= {t:=s.1,n:=s.2,xs:=aX s.3 (2*n+5+2*t+3*x.2+1) x.4,c:=s.4+1,k:=2,a:=2*n+5+2*t+3*x.2+1,o:=aF s.3 (2*n+5+2*t+3*x.2+1),w:=bif bU s.3 (2*n+5+2*t+3*x.2+1)then x.4 else 0,ok:=bU s.3 (2*n+5+2*t+3*x.2+1) } }))))
theorem IC(t n:Int)(x:ANS)(s:MS)(K:AnO→Prop)(h:(zT t n x s).run K):cT' 158 [.ptr 0 0,.ptr 1 0] [cE' [.I t,.I n,.int .u64 x.no,.I x.me,.I 0,.int .u64 x.bits,.bool x.wrong,.int .u64 x.found],bD 2 s,bE s] (bP 3 0 [] [] (LX t n) K):=by
 exact cM' (E:=EC3) (by kernel_rfl) h
def zU(t n:Int)(x:ANS)(s:MS):Tr AnO:=.ite x.5 (.pre (lE' s.3∧(0:Int)≤s.4∧s.4≤(4611686018427387904:Int)) (.pre ((t=t∧n=n)∧lE' s.3) (.ret {d:=true,x:= {x with at':=1},s:= {s with c:=s.4+1,k:=1,a:=0,o:=aF s.3 0,w:=aF s.3 0,ok:=bU s.3 0} }))) (.pre (((0:Int)≤t∧t≤(100000:Int))∧(0:Int)≤n∧n≤(100000:Int)) (.pre (lE' s.3∧(0:Int)≤s.4∧s.4≤(4611686018427387904:Int)) (.pre ((t=t∧n=n)∧lE' (aX s.3 (2*n+5+2*t+3*t) (WU (aF s.3 (2*n+5+2*t+3*t)+1)))) (.ret {d:=false,x:= {x with no:=WU (aF s.3 (2*n+5+2*t+3*t)+1),at':=W (1+1)},s:= {t:=s.1,n:=s.2,xs:=aX s.3 (2*n+5+2*t+3*t) (WU (aF s.3 (2*n+5+2*t+3*t)+1)),c:=s.4+1,k:=4,a:=2*n+5+2*t+3*t,o:=aF s.3 (2*n+5+2*t+3*t),w:=bif bU s.3 (2*n+5+2*t+3*t)then WU (aF s.3 (2*n+5+2*t+3*t)+1)else 0,ok:=bU s.3 (2*n+5+2*t+3*t) } }))))
theorem ID(t n:Int)(x:ANS)(s:MS)(K:AnO→Prop)(h:(zU t n x s).run K):cT' 158 [.ptr 0 0,.ptr 1 0] [cE' [.I t,.I n,.int .u64 x.no,.I x.me,.I 1,.int .u64 x.bits,.bool x.wrong,.int .u64 x.found],bD 2 s,bE s] (bP 3 0 [] [] (LX t n) K):=by
 exact cM' (E:=EC3) (by kernel_rfl) h
def zV(t n:Int)(x:ANS)(s:MS):Tr AnO:=.ite x.5 (.pre (lE' s.3∧(0:Int)≤s.4∧s.4≤(4611686018427387904:Int)) (.pre ((t=t∧n=n)∧lE' s.3) (.ret {d:=true,x:= {x with at':=2},s:= {s with c:=s.4+1,k:=1,a:=0,o:=aF s.3 0,w:=aF s.3 0,ok:=bU s.3 0} }))) (.pre (w0a n t x) (.pre ((lE' s.3∧(0:Int)≤s.4∧s.4≤(4611686018427387904:Int))∧True) (.pre ((t=t∧n=n)∧lE' (aX s.3 (2*n+5+2*t+3*x.2) x.1)) (.ret {d:=false,x:= {x with at':=W (2+1)},s:= {t:=s.1,n:=s.2,xs:=aX s.3 (2*n+5+2*t+3*x.2) x.1,c:=s.4+1,k:=2,a:=2*n+5+2*t+3*x.2,o:=aF s.3 (2*n+5+2*t+3*x.2),w:=bif bU s.3 (2*n+5+2*t+3*x.2)then x.1 else 0,ok:=bU s.3 (2*n+5+2*t+3*x.2) } }))))
theorem IE(t n:Int)(x:ANS)(s:MS)(K:AnO→Prop)(h:(zV t n x s).run K):cT' 158 [.ptr 0 0,.ptr 1 0] [cE' [.I t,.I n,.int .u64 x.no,.I x.me,.I 2,.int .u64 x.bits,.bool x.wrong,.int .u64 x.found],bD 2 s,bE s] (bP 3 0 [] [] (LX t n) K):=by
 exact cM' (E:=EC3) (by kernel_rfl) h
def zW(t n:Int)(x:ANS)(s:MS):Tr AnO:=.ite x.5 (.pre (lE' s.3∧(0:Int)≤s.4∧s.4≤(4611686018427387904:Int)) (.pre ((t=t∧n=n)∧lE' s.3) (.ret {d:=true,x:= {x with at':=3},s:= {s with c:=s.4+1,k:=1,a:=0,o:=aF s.3 0,w:=aF s.3 0,ok:=bU s.3 0} }))) (.pre (w0a n t x) (.pre ((lE' s.3∧(0:Int)≤s.4∧s.4≤(4611686018427387904:Int))∧True) (.pre ((t=t∧n=n)∧lE' s.3) (.ret {d:=false,x:= {x with at':=W (3+1),found:=aF s.3 (2*n+5+2*t+3*x.2+2) },s:= {s with c:=s.4+1,k:=1,a:=2*n+5+2*t+3*x.2+2,o:=aF s.3 (2*n+5+2*t+3*x.2+2),w:=aF s.3 (2*n+5+2*t+3*x.2+2),ok:=bU s.3 (2*n+5+2*t+3*x.2+2) } }))))
theorem IF(t n:Int)(x:ANS)(s:MS)(K:AnO→Prop)(h:(zW t n x s).run K):cT' 158 [.ptr 0 0,.ptr 1 0] [cE' [.I t,.I n,.int .u64 x.no,.I x.me,.I 3,.int .u64 x.bits,.bool x.wrong,.int .u64 x.found],bD 2 s,bE s] (bP 3 0 [] [] (LX t n) K):=by
 exact cM' (E:=EC3) (by kernel_rfl) h
abbrev w0b(x:ANS):=eO (aA x.6 0 12)
def zX(t n:Int)(x:ANS)(s:MS):Tr AnO:=.ite x.5 (.pre (lE' s.3∧(0:Int)≤s.4∧s.4≤(4611686018427387904:Int)) (.pre ((t=t∧n=n)∧lE' s.3) (.ret {d:=true,x:= {x with at':=4},s:= {s with c:=s.4+1,k:=1,a:=0,o:=aF s.3 0,w:=aF s.3 0,ok:=bU s.3 0} }))) (.pre True (.pre ((0:Int)≤aA x.6 0 12∧aA x.6 0 (12:Int)≤(1000000:Int)) (.pre True (.pre (w0a n t x) (.pre ((lE' s.3∧(0:Int)≤s.4∧s.4≤(4611686018427387904:Int))∧True) (.pre ((t=t∧n=n)∧lE' (aX s.3 (2*n+5+2*t+3*x.2+2) (bif dOk (w0b x) 0 0 0 1 0 then cL (w0b x) 0 0 0 false 1 0 else 0))) (.ret {d:=true,x:= {x with at':=W (4+1)},s:= {t:=s.1,n:=s.2,xs:=aX s.3 (2*n+5+2*t+3*x.2+2) (bif dOk (w0b x) 0 0 0 1 0 then cL (w0b x) 0 0 0 false 1 0 else 0),c:=s.4+1,k:=2,a:=2*n+5+2*t+3*x.2+2,o:=aF s.3 (2*n+5+2*t+3*x.2+2),w:=bif bU s.3 (2*n+5+2*t+3*x.2+2)then bif dOk (w0b x) 0 0 0 1 0 then cL (w0b x) 0 0 0 false 1 0 else 0 else 0,ok:=bU s.3 (2*n+5+2*t+3*x.2+2) } })))))))
theorem IG(t n:Int)(x:ANS)(s:MS)(K:AnO→Prop)(h:(zX t n x s).run K):cT' 158 [.ptr 0 0,.ptr 1 0] [cE' [.I t,.I n,.int .u64 x.no,.I x.me,.I 4,.int .u64 x.bits,.bool x.wrong,.int .u64 x.found],bD 2 s,bE s] (bP 3 0 [] [] (LX t n) K):=by
 exact cM' (E:=EC3) (by kernel_rfl) h
def anT(t n:Int)(x:ANS)(s:MS):Tr AnO:=
 bif ieq x.at' 0 then zT t n x s else
 bif ieq x.at' 1 then zU t n x s else
 bif ieq x.at' 2 then zV t n x s else
 bif ieq x.at' 3 then zW t n x s else
 bif ieq x.at' 4 then zX t n x s else .pre False (.ret default)
def D5(t n:Int)(x:ANS)(s:MS):AnO:=(anT t n x s).val
def aAg(t n:Int)(x:ANS)(s:MS):Prop:=(anT t n x s).ok
theorem SU(t n:Int)(x:ANS)(s:MS)(K:AVal→aC Ob→Prop)(h:(anT t n x s).run (fun y=>(AnO.fin t n y).run K)):cT' 158 [.ptr 0 0,.ptr 1 0] (anH t n x s) K:=by
 unfold anT at h
 by_cases e:x.at'=0
 ·rw [e]at h;have h:(zT t n x s).run _:=h;refine aHq (root:=0) (pos:=[]) (cs:=[]) (parse:=LX t n) (fin:=AnO.fin t n) tW (aR.unpack (.announce t n x) 0 0 (eN t n x) [] rfl (congrArg (Prod.mk 0) rfl) (by kernel_rfl) rfl) ?_
  have q:=IC t n x s _ h;rw [←e]at q;exact q
 rw [bL e]at h
 by_cases e:x.at'=1
 ·rw [e]at h;have h:(zU t n x s).run _:=h;refine aHq (root:=0) (pos:=[]) (cs:=[]) (parse:=LX t n) (fin:=AnO.fin t n) tW (aR.unpack (.announce t n x) 0 0 (eN t n x) [] rfl (congrArg (Prod.mk 0) rfl) (by kernel_rfl) rfl) ?_
  have q:=ID t n x s _ h;rw [←e]at q;exact q
 rw [bL e]at h
 by_cases e:x.at'=2
 ·rw [e]at h;have h:(zV t n x s).run _:=h;refine aHq (root:=0) (pos:=[]) (cs:=[]) (parse:=LX t n) (fin:=AnO.fin t n) tW (aR.unpack (.announce t n x) 0 0 (eN t n x) [] rfl (congrArg (Prod.mk 0) rfl) (by kernel_rfl) rfl) ?_
  have q:=IE t n x s _ h;rw [←e]at q;exact q
 rw [bL e]at h
 by_cases e:x.at'=3
 ·rw [e]at h;have h:(zW t n x s).run _:=h;refine aHq (root:=0) (pos:=[]) (cs:=[]) (parse:=LX t n) (fin:=AnO.fin t n) tW (aR.unpack (.announce t n x) 0 0 (eN t n x) [] rfl (congrArg (Prod.mk 0) rfl) (by kernel_rfl) rfl) ?_
  have q:=IF t n x s _ h;rw [←e]at q;exact q
 rw [bL e]at h
 by_cases e:x.at'=4
 ·rw [e]at h;have h:(zX t n x s).run _:=h;refine aHq (root:=0) (pos:=[]) (cs:=[]) (parse:=LX t n) (fin:=AnO.fin t n) tW (aR.unpack (.announce t n x) 0 0 (eN t n x) [] rfl (congrArg (Prod.mk 0) rfl) (by kernel_rfl) rfl) ?_
  have q:=IG t n x s _ h;rw [←e]at q;exact q
 rw [bL e]at h;exact h.1.elim
noncomputable def anS:aH Ob:=fun args h=>match args,h with
 | [.ptr 0 0,.ptr 1 0],[some (.abs (.announce t n x) []),e1,e2]=>(match cO 2 [e1,e2]with
   | some (l,s)=>some (.pre (l=s.xs.length∧aAg t n x s) (AnO.fin t n (D5 t n x s)))
   | none=>none)
 | _,_=>none
theorem aDI:sT' 158 anS:=by
 intro args h o ho K hK;unfold anS at ho;split at ho
 case h_2=>cases ho
 split at ho<;>cases ho
 rename_i hm;obtain⟨⟨hl,ok⟩,hK⟩:=hK;have hh:=bF hm hl;cases hh;exact SU _ _ _ _ K (aHw ok hK)
def aAd(t n:Int)(v:AVal)(g:aC Ob):Option (Prop×ANS):=match v,g with
 | .ptr 0 0,[some (.cells [.int .i64 t1,.int .i64 n1,.int .u64 no,.int .i64 me,.int .i64 at',.int .u64 bits,.bool wrong,.int .u64 found])]=>some ((t1=t∧n1=n),(⟨no,me,at',bits,wrong,found⟩:ANS))
 | _,_=>none
abbrev SQ(t n:Int)(y:ANS):aC Ob:=[some (.abs (.announce t n y) [])]
theorem SR{t n:Int} :bX (obI tbl) 0 (aAd t n) (fun y=>.ret (.ptr 0 0) (SQ t n y)):=by
 intro v g p x hp hq K hK;unfold aAd at hp;split at hp
 case h_2=>cases hp
 rename_i t1 n1 no me at' bits wrong found;simp only [sI',pI']at hp;obtain⟨rfl,rfl⟩:=hp;obtain⟨rfl,rfl⟩:=hq;exact⟨⟨_,_,aE.pack (SQ t1 n1 (⟨no,me,at',bits,wrong,found⟩:ANS)) (.announce t1 n1 (⟨no,me,at',bits,wrong,found⟩:ANS)) 0 0 (eN t1 n1 (⟨no,me,at',bits,wrong,found⟩:ANS)) [] (by kernel_rfl) rfl (congrArg (Prod.mk 0) rfl) (by kernel_rfl),hK⟩⟩
def aAe(t n:Int)(u sh kd ky:Int):Tr ANS:=.pre True (.pre (t=t∧n=n) (.ret {no:=0,me:=u,at':=0,bits:=bif cA sh kd ky then tskV sh kd ky else 0,wrong:=!ieq (bif cA sh kd ky then 0 else 1) 0,found:=0}))
def aAc(t n:Int)(u sh kd ky:Int):ANS:=(aAe t n u sh kd ky).val
def MG(t n:Int)(u sh kd ky:Int):Prop:=(aAe t n u sh kd ky).ok
def anNS:aH Ob:=fun args h=>match args,h with
 | [.agg [.int .i64 t,.int .i64 n],.int .i64 u,.agg [.int .i64 sh,.int .i64 kd,.int .i64 ky]],[]=>some (.pre (MG t n u sh kd ky) (.ret (.ptr 0 0) (SQ t n (aAc t n u sh kd ky))))
 | _,_=>none
theorem aAf:sT' 220 anNS:=by
 intro args h o ho K hK;unfold anNS at ho;split at ho<;>cases ho
 rename_i t n u sh kd ky;obtain⟨ok,hK⟩:=hK;refine aHC (root:=0) (pos:=[]) (cs:=[]) (parse:=aAd t n) SR ?_;exact cM' (E:=EC3) (q:=(aAe t n u sh kd ky).run (fun y=>(Out.ret (.ptr 0 0) (SQ t n y)).run K)) (by kernel_rfl) (aHw ok hK)
noncomputable def EC4:=((EC3.addS 158 anS aDI).addS 220 anNS aAf)
structure AwO where
 d:Bool
 x:AWS
 s:MS
instance:Inhabited AwO:=⟨⟨false,⟨0,false,0,0⟩,⟨0,0,[],0,0,0,0,0,false⟩⟩⟩
instance:Inhabited AWS:=⟨⟨0,false,0,0⟩⟩
abbrev awH(t n:Int)(x:AWS)(s:MS):aC Ob:=[some (.abs (.answer t n x) []),bD 2 s,bE s]
abbrev awD(t n:Int)(x:AWS)(s:MS):aC Ob:=[cE' [.I t,.I n,.I x.code,.bool x.okk,.I x.val,.I x.me],bD 2 s,bE s]
def AwO.fin(t n:Int)(y:AwO):Out Ob:=.ite y.d (.ret (.bool true) (awD t n y.x y.s)) (.ret (.bool false) (awH t n y.x y.s))
def aAp(t n:Int)(v:AVal)(g:aC Ob):Option (Prop×AwO):=match v,g with
 | .bool d,[some (.cells [.int .i64 t1,.int .i64 n1,.int .i64 code,.bool okk,.int .i64 val,.int .i64 me]),e1,e2]=>(match cO 2 [e1,e2]with
   | some (l,s)=>some ((t1=t∧n1=n)∧l=s.xs.length,⟨d,⟨code,okk,val,me⟩,s⟩)
   | none=>none)
 | _,_=>none
def awP(t n:Int)(v:AVal)(g:aC Ob):Option (Prop×AwO):=aAp t n v g
theorem S0{t n:Int} :bX (obI tbl) 3 (aAp t n) (AwO.fin t n):=by
 intro v g p x hp hq K hK;unfold aAp at hp;split at hp
 case h_2=>cases hp
 rename_i d t1 n1 code okk val me e1 e2;split at hp
 case h_2=>cases hp
 rename_i l s hm;simp only [sI',pI']at hp;obtain⟨rfl,rfl⟩:=hp;obtain⟨⟨rfl,rfl⟩,hl⟩:=hq;have hh:=bF hm hl;cases hh;refine qS hK (fun h=>?_) (fun h=>?_)
 ·exact⟨⟨_,_,aHA _ _ _,h⟩⟩
 ·exact⟨⟨_,_,(aE.pack (awH t1 n1 (⟨code,okk,val,me⟩:AWS) s) (.answer t1 n1 (⟨code,okk,val,me⟩:AWS)) 0 0 (pX t1 n1 (⟨code,okk,val,me⟩:AWS)) [] (by kernel_rfl) rfl (congrArg (Prod.mk 0) rfl) (by kernel_rfl)),h⟩⟩
theorem aAq{t n:Int} :bX (obI tbl) 3 (awP t n) (AwO.fin t n):=by
 intro v g p x hp hq K hK;unfold awP at hp;exact S0 v g p x hp hq K hK
abbrev w0c(n:Int)(s:MS)(t:Int)(x:AWS):=aF s.3 (2*n+5+2*t+3*x.4+2)
def S1(t n:Int)(x:AWS)(s:MS):Tr AwO:=.pre ((((0:Int)≤t∧t≤(100000:Int))∧((0:Int)≤n∧n≤(100000:Int))∧(-1099511627776:Int)≤x.4∧x.4≤(1099511627776:Int))∧True) (.pre ((lE' s.3∧(0:Int)≤s.4∧s.4≤(4611686018427387904:Int))∧True) (.pre True (.pre True (.pre ((t=t∧n=n)∧lE' s.3) (.ret {d:=true,x:= {code:=resC (aA (w0c n s t x) 39 9) (aA (w0c n s t x) 49 3),okk:=XL (aA (w0c n s t x) 39 9) (aA (w0c n s t x) 49 3) (ieq (aA (w0c n s t x) 48 1) 1),val:=XM (aA (w0c n s t x) 39 9) (aA (w0c n s t x) 49 3) (aA (w0c n s t x) 52 10),me:=x.4},s:= {s with c:=s.4+1,k:=1,a:=2*n+5+2*t+3*x.4+2,o:=aF s.3 (2*n+5+2*t+3*x.4+2),w:=aF s.3 (2*n+5+2*t+3*x.4+2),ok:=bU s.3 (2*n+5+2*t+3*x.4+2) } })))))
theorem MJ(t n:Int)(x:AWS)(s:MS)(K:AwO→Prop)(h:(S1 t n x s).run K):cT' 161 [.ptr 0 0,.ptr 1 0] [cE' [.I t,.I n,.I x.code,.bool x.okk,.I x.val,.I x.me],bD 2 s,bE s] (bP 3 0 [] [] (awP t n) K):=by
 exact cM' (E:=EC4) (by kernel_rfl) h
def awT(t n:Int)(x:AWS)(s:MS):Tr AwO:=S1 t n x s
def sG(t n:Int)(x:AWS)(s:MS):AwO:=(awT t n x s).val
def aAo(t n:Int)(x:AWS)(s:MS):Prop:=(awT t n x s).ok
theorem S2(t n:Int)(x:AWS)(s:MS)(K:AVal→aC Ob→Prop)(h:(awT t n x s).run (fun y=>(AwO.fin t n y).run K)):cT' 161 [.ptr 0 0,.ptr 1 0] (awH t n x s) K:=by
 unfold awT at h;exact aHq (root:=0) (pos:=[]) (cs:=[]) (parse:=awP t n) (fin:=AwO.fin t n) aAq (aR.unpack (.answer t n x) 0 0 (pX t n x) [] rfl (congrArg (Prod.mk 0) rfl) (by kernel_rfl) rfl) (MJ t n x s _ h)
noncomputable def awS:aH Ob:=fun args h=>match args,h with
 | [.ptr 0 0,.ptr 1 0],[some (.abs (.answer t n x) []),e1,e2]=>(match cO 2 [e1,e2]with
   | some (l,s)=>some (.pre (l=s.xs.length∧aAo t n x s) (AwO.fin t n (sG t n x s)))
   | none=>none)
 | _,_=>none
theorem aDN:sT' 161 awS:=by
 intro args h o ho K hK;unfold awS at ho;split at ho
 case h_2=>cases ho
 split at ho<;>cases ho
 rename_i hm;obtain⟨⟨hl,ok⟩,hK⟩:=hK;have hh:=bF hm hl;cases hh;exact S2 _ _ _ _ K (aHw ok hK)
def aAl(t n:Int)(v:AVal)(g:aC Ob):Option (Prop×AWS):=match v,g with
 | .ptr 0 0,[some (.cells [.int .i64 t1,.int .i64 n1,.int .i64 code,.bool okk,.int .i64 val,.int .i64 me])]=>some ((t1=t∧n1=n),(⟨code,okk,val,me⟩:AWS))
 | _,_=>none
abbrev SX(t n:Int)(y:AWS):aC Ob:=[some (.abs (.answer t n y) [])]
theorem SY{t n:Int} :bX (obI tbl) 0 (aAl t n) (fun y=>.ret (.ptr 0 0) (SX t n y)):=by
 intro v g p x hp hq K hK;unfold aAl at hp;split at hp
 case h_2=>cases hp
 rename_i t1 n1 code okk val me;simp only [sI',pI']at hp;obtain⟨rfl,rfl⟩:=hp;obtain⟨rfl,rfl⟩:=hq;exact⟨⟨_,_,aE.pack (SX t1 n1 (⟨code,okk,val,me⟩:AWS)) (.answer t1 n1 (⟨code,okk,val,me⟩:AWS)) 0 0 (pX t1 n1 (⟨code,okk,val,me⟩:AWS)) [] (by kernel_rfl) rfl (congrArg (Prod.mk 0) rfl) (by kernel_rfl),hK⟩⟩
def aAm(t n:Int)(u:Int):Tr AWS:=.pre (t=t∧n=n) (.ret {code:=0,okk:=false,val:=0,me:=u})
def aAk(t n:Int)(u:Int):AWS:=(aAm t n u).val
def MI(t n:Int)(u:Int):Prop:=(aAm t n u).ok
def awNS:aH Ob:=fun args h=>match args,h with
 | [.agg [.int .i64 t,.int .i64 n],.int .i64 u],[]=>some (.pre (MI t n u) (.ret (.ptr 0 0) (SX t n (aAk t n u))))
 | _,_=>none
theorem aAn:sT' 160 awNS:=by
 intro args h o ho K hK;unfold awNS at ho;split at ho<;>cases ho
 rename_i t n u;obtain⟨ok,hK⟩:=hK;refine aHC (root:=0) (pos:=[]) (cs:=[]) (parse:=aAl t n) SY ?_;exact cM' (E:=EC4) (q:=(aAm t n u).run (fun y=>(Out.ret (.ptr 0 0) (SX t n y)).run K)) (by kernel_rfl) (aHw ok hK)
noncomputable def EC5:=((EC4.addS 161 awS aDN).addS 160 awNS aAn)
def GY:bH Ob:=fun args h=>match args,h with
 | [.ptr 0 0],[some (.cells [.int .i64 t,.int .i64 n,.int .i64 pop,.int .i64 gave,.int .i64 u,.int .i64 sh,.int .i64 kd,.int .i64 ky,.bool only,.int .i64 att,.int .i64 at',.int .u64 found,.int .u64 word])]=>some (True,.agg [.I (aA found 0 12),.I (aA found 12 9),.I (aA found 21 18),.I (aA found 39 9),.bool (ieq (aA found 48 1) 1),.I (aA found 49 3),.I (aA found 52 10)])
 | _,_=>none
theorem RU:sT' 281 GY.spec:=by
 intro args h o ho K hK;unfold bH.spec GY at ho;split at ho
 case h_2=>cases ho
 rename_i p v hp;split at hp
 case h_2=>cases hp
 rename_i t n pop gave u sh kd ky only att at' found word;simp only [sI',pI']at hp;obtain⟨rfl,rfl⟩:=hp;simp only [sI']at ho;subst ho;obtain⟨hp,hK⟩:=hK;have hK:K (.agg [.I (aA found 0 12),.I (aA found 12 9),.I (aA found 21 18),.I (aA found 39 9),.bool (ieq (aA found 48 1) 1),.I (aA found 49 3),.I (aA found 52 10)]) [cE' [.I t,.I n,.I pop,.I gave,.I u,.I sh,.I kd,.I ky,.bool only,.I att,.I at',.int .u64 found,.int .u64 word]]:=hK;refine aHp (cM' (E:=EC5) (q:=True∧K (.agg [.I (aA found 0 12),.I (aA found 12 9),.I (aA found 21 18),.I (aA found 39 9),.bool (ieq (aA found 48 1) 1),.I (aA found 49 3),.I (aA found 52 10)]) [cE' [.I t,.I n,.I pop,.I gave,.I u,.I sh,.I kd,.I ky,.bool only,.I att,.I at',.int .u64 found,.int .u64 word]]) (by kernel_rfl) ?_)
 exact⟨trivial,hK⟩
noncomputable def EX1:=EC5.addR 281 GY RU
def RV(t n pop gave u sh kd ky:Int)(only:Bool)(att at' found word:Int)(k y:Int)(m:Bool)(c v:Int)(s:MS):Out Ob:=.pre True (.pre True (.pre ((lE' s.3∧(0:Int)≤s.4∧s.4≤(4611686018427387904:Int))∧True) (.ret (.bool (aV s.3 (aA found 12 9) word)) [cE' [.I t,.I n,.I pop,.I gave,.I u,.I sh,.I kd,.I ky,.bool only,.I att,.I at',.int .u64 found,.int .u64 word],cE' [.I s.1,.I s.2,.slice 2 0 (List.length (bif aV s.3 (aA found 12 9) word then aX s.3 (aA found 12 9) (bif bif aM k 10 then bif aM y 9 then bif aM c 5 then aM v 18 else false else false else false then cM k y m c v else 0)else s.3)) 1,.I (s.4+1),.I 3,.I (aA found 12 9),.int .u64 (aF s.3 (aA found 12 9)),.int .u64 (bif bU s.3 (aA found 12 9)then bif bif aM k 10 then bif aM y 9 then bif aM c 5 then aM v 18 else false else false else false then cM k y m c v else 0 else 0),.bool (aV s.3 (aA found 12 9) word)],some (.ints (some .u64) (bif aV s.3 (aA found 12 9) word then aX s.3 (aA found 12 9) (bif bif aM k 10 then bif aM y 9 then bif aM c 5 then aM v 18 else false else false else false then cM k y m c v else 0)else s.3))])))
theorem RW(t n pop gave u sh kd ky:Int)(only:Bool)(att at' found word:Int)(k y:Int)(m:Bool)(c v:Int)(s:MS)(K:AVal→aC Ob→Prop)(h:(RV t n pop gave u sh kd ky only att at' found word k y m c v s).run K):cT' 284 [.ptr 0 0,.ptr 1 0,.agg [.I k,.I y,.bool m,.I c,.I v]] [cE' [.I t,.I n,.I pop,.I gave,.I u,.I sh,.I kd,.I ky,.bool only,.I att,.I at',.int .u64 found,.int .u64 word],bD 2 s,bE s] K:=by
 refine aHp (cM' (E:=EX1) (by kernel_rfl) h)
def xputS:aH Ob:=fun args h=>match args,h with
 | [.ptr 0 0,.ptr 1 0,.agg [.int .i64 k,.int .i64 y,.bool m,.int .i64 c,.int .i64 v]],[some (.cells [.int .i64 t,.int .i64 n,.int .i64 pop,.int .i64 gave,.int .i64 u,.int .i64 sh,.int .i64 kd,.int .i64 ky,.bool only,.int .i64 att,.int .i64 at',.int .u64 found,.int .u64 word]),e1,e2]=>(match cO 2 [e1,e2]with
   | some (l,s)=>some (.pre (l=s.xs.length) (RV t n pop gave u sh kd ky only att at' found word k y m c v s))
   | none=>none)
 | _,_=>none
theorem YP:sT' 284 xputS:=by
 intro args h o ho K hK;unfold xputS at ho;split at ho
 case h_2=>cases ho
 split at ho<;>cases ho
 rename_i hm;obtain⟨hl,hK⟩:=hK;have hh:=bF hm hl;cases hh;exact RW _ _ _ _ _ _ _ _ _ _ _ _ _ _ _ _ _ _ _ K hK
def GZ(t n pop gave u sh kd ky:Int)(only:Bool)(att at' found word:Int)(a b c d:Int)(m:Bool)(e f:Int)(s:MS):Out Ob:=.pre True (.pre ((((0:Int)≤t∧t≤(100000:Int))∧((0:Int)≤n∧n≤(100000:Int))∧(-1099511627776:Int)≤u∧u≤(1099511627776:Int))∧True) (.pre ((lE' s.3∧(0:Int)≤s.4∧s.4≤(4611686018427387904:Int))∧True) (.ret (.bool (aV s.3 (2*n+5+2*t+3*u+2) found)) [cE' [.I t,.I n,.I pop,.I gave,.I u,.I sh,.I kd,.I ky,.bool only,.I att,.I at',.int .u64 found,.int .u64 word],cE' [.I s.1,.I s.2,.slice 2 0 (List.length (bif aV s.3 (2*n+5+2*t+3*u+2) found then aX s.3 (2*n+5+2*t+3*u+2) (bif dOk a b c d e f then cL a b c d m e f else 0)else s.3)) 1,.I (s.4+1),.I 3,.I (2*n+5+2*t+3*u+2),.int .u64 (aF s.3 (2*n+5+2*t+3*u+2)),.int .u64 (bif bU s.3 (2*n+5+2*t+3*u+2)then bif dOk a b c d e f then cL a b c d m e f else 0 else 0),.bool (aV s.3 (2*n+5+2*t+3*u+2) found)],some (.ints (some .u64) (bif aV s.3 (2*n+5+2*t+3*u+2) found then aX s.3 (2*n+5+2*t+3*u+2) (bif dOk a b c d e f then cL a b c d m e f else 0)else s.3))])))
theorem LV(t n pop gave u sh kd ky:Int)(only:Bool)(att at' found word:Int)(a b c d:Int)(m:Bool)(e f:Int)(s:MS)(K:AVal→aC Ob→Prop)(h:(GZ t n pop gave u sh kd ky only att at' found word a b c d m e f s).run K):cT' 286 [.ptr 0 0,.ptr 1 0,.agg [.I a,.I b,.I c,.I d,.bool m,.I e,.I f]] [cE' [.I t,.I n,.I pop,.I gave,.I u,.I sh,.I kd,.I ky,.bool only,.I att,.I at',.int .u64 found,.int .u64 word],bD 2 s,bE s] K:=by
 refine aHp (cM' (E:=EX1) (by kernel_rfl) h)
def xturnS:aH Ob:=fun args h=>match args,h with
 | [.ptr 0 0,.ptr 1 0,.agg [.int .i64 a,.int .i64 b,.int .i64 c,.int .i64 d,.bool m,.int .i64 e,.int .i64 f]],[some (.cells [.int .i64 t,.int .i64 n,.int .i64 pop,.int .i64 gave,.int .i64 u,.int .i64 sh,.int .i64 kd,.int .i64 ky,.bool only,.int .i64 att,.int .i64 at',.int .u64 found,.int .u64 word]),e1,e2]=>(match cO 2 [e1,e2]with
   | some (l,s)=>some (.pre (l=s.xs.length) (GZ t n pop gave u sh kd ky only att at' found word a b c d m e f s))
   | none=>none)
 | _,_=>none
theorem RX:sT' 286 xturnS:=by
 intro args h o ho K hK;unfold xturnS at ho;split at ho
 case h_2=>cases ho
 split at ho<;>cases ho
 rename_i hm;obtain⟨hl,hK⟩:=hK;have hh:=bF hm hl;cases hh;exact LV _ _ _ _ _ _ _ _ _ _ _ _ _ _ _ _ _ _ _ _ _ K hK
noncomputable def EX2:=(EX1.addS 284 xputS YP).addS 286 xturnS RX
instance:Inhabited STS:=⟨⟨0,0,[]⟩⟩
end Go.Sh
