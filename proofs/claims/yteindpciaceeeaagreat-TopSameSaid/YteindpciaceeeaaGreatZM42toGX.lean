import Derived.Test.YteindpciaceeeaaGreatZM0toM36
set_option linter.all false
set_option maxHeartbeats 8000000
namespace Go.Sh
open Go Go.Proofs
variable [Con]
def alH(t n:Int)(x:AL)(s:MS):aC Ob:=[some (.cells [.int .i64 t,.int .i64 n,.int .i64 x.got,.int .i64 x.at',.int .i64 x.left,.int .u64 x.found,.bool x.free]),some (.cells [.int .i64 s.t,.int .i64 s.n,.slice 2 0 s.xs.length 1,.int .i64 s.c,.int .i64 s.k,.int .i64 s.a,.int .u64 s.o,.int .u64 s.w,.bool s.ok]),some (.ints (some .u64) s.xs)]
def oddB(y:Int):Bool:=!ieq (Int.tmod y 2) 0
def cX(n a:Int):Int:=Int.tmod a n+1
def ZG(t n:Int)(x:AL)(s:MS):Out Ob:=.ite x.free
 (.ite (aV s.xs (n+4+x.at') x.found) (.ret (.bool true) (alH t n ⟨x.at',x.at',x.left,x.found,true⟩ (s.cased (n+4+x.at') x.found (WU (x.found+1)))))
   (.ret (.bool (ile (x.left - 1) 0)) (alH t n ⟨x.got,cX n x.at',x.left - 1,x.found,false⟩ (s.cased (n+4+x.at') x.found (WU (x.found+1))))))
 (.ite (oddB (aE s.xs (n+4+x.at'))) (.ret (.bool (ile (x.left - 1) 0)) (alH t n ⟨x.got,cX n x.at',x.left - 1,aE s.xs (n+4+x.at'),false⟩ (s.loadd (n+4+x.at'))))
   (.ret (.bool false) (alH t n ⟨x.got,x.at',x.left,aE s.xs (n+4+x.at'),true⟩ (s.loadd (n+4+x.at')))))
theorem RV(t n:Int)(x:AL)(s:MS)(K:AVal→aC Ob→Prop)(ht:1≤t∧t≤1000)(hn:1≤n∧n≤1000)(ha:1≤x.at'∧x.at'≤n)(hl:0≤x.left∧x.left≤1000)(hc:0≤s.c∧s.c≤1000000)(hK:(ZG t n x s).run K):aB E36.I Tryz.prog 211 [.ptr 0 0,.ptr 1 0] (alH t n x s) K:=by
 refine aGU (cM' (E:=E36) (q:=bif !x.5 then((((0:Int)≤t∧t≤(100000:Int))∧((0:Int)≤n∧n≤(100000:Int))∧(-1099511627776:Int)≤x.2∧x.2≤(1099511627776:Int))∧True)∧((lE' s.3∧(0:Int)≤s.4∧s.4≤(4611686018427387904:Int))∧True)∧(2:Int)≠(0:Int)∧bif !ieq (Int.tmod (aE s.3 (n+4+x.2)) 2) 0 then n≠(0:Int)∧K (.bool (ile (W (x.3 - 1)) 0)) [some (.cells [.int .i64 t,.int .i64 n,.int .i64 x.1,.int .i64 (W (Int.tmod x.2 n+1)),.int .i64 (W (x.3 - 1)),.int .u64 (aE s.3 (n+4+x.2)),.bool false]),some (.cells [.int .i64 s.1,.int .i64 s.2,.slice 2 0 s.3.length 1,.int .i64 (s.4+1),.int .i64 1,.int .i64 (n+4+x.2),.int .u64 (aE s.3 (n+4+x.2)),.int .u64 (aE s.3 (n+4+x.2)),.bool (bT s.3 (n+4+x.2))]),some (.ints (some .u64) s.3)]else K (.bool false) [some (.cells [.int .i64 t,.int .i64 n,.int .i64 x.1,.int .i64 x.2,.int .i64 x.3,.int .u64 (aE s.3 (n+4+x.2)),.bool (ieq (Int.tmod (aE s.3 (n+4+x.2)) 2) 0)]),some (.cells [.int .i64 s.1,.int .i64 s.2,.slice 2 0 s.3.length 1,.int .i64 (s.4+1),.int .i64 1,.int .i64 (n+4+x.2),.int .u64 (aE s.3 (n+4+x.2)),.int .u64 (aE s.3 (n+4+x.2)),.bool (bT s.3 (n+4+x.2))]),some (.ints (some .u64) s.3)]else((((0:Int)≤t∧t≤(100000:Int))∧((0:Int)≤n∧n≤(100000:Int))∧(-1099511627776:Int)≤x.2∧x.2≤(1099511627776:Int))∧True)∧((lE' s.3∧(0:Int)≤s.4∧s.4≤(4611686018427387904:Int))∧True)∧bif aV s.3 (n+4+x.2) x.4 then K (.bool true) [some (.cells [.int .i64 t,.int .i64 n,.int .i64 x.2,.int .i64 x.2,.int .i64 x.3,.int .u64 x.4,.bool x.5]),some (.cells [.int .i64 s.1,.int .i64 s.2,.slice 2 0 (List.length (bif aV s.3 (n+4+x.2) x.4 then aX s.3 (n+4+x.2) (WU (x.4+1))else s.3)) 1,.int .i64 (s.4+1),.int .i64 3,.int .i64 (n+4+x.2),.int .u64 (aE s.3 (n+4+x.2)),.int .u64 (bif bT s.3 (n+4+x.2)then WU (x.4+1)else 0),.bool (aV s.3 (n+4+x.2) x.4)]),some (.ints (some .u64) (bif aV s.3 (n+4+x.2) x.4 then aX s.3 (n+4+x.2) (WU (x.4+1))else s.3))]else n≠(0:Int)∧K (.bool (ile (W (x.3 - 1)) 0)) [some (.cells [.int .i64 t,.int .i64 n,.int .i64 x.1,.int .i64 (W (Int.tmod x.2 n+1)),.int .i64 (W (x.3 - 1)),.int .u64 x.4,.bool false]),some (.cells [.int .i64 s.1,.int .i64 s.2,.slice 2 0 (List.length (bif aV s.3 (n+4+x.2) x.4 then aX s.3 (n+4+x.2) (WU (x.4+1))else s.3)) 1,.int .i64 (s.4+1),.int .i64 3,.int .i64 (n+4+x.2),.int .u64 (aE s.3 (n+4+x.2)),.int .u64 (bif bT s.3 (n+4+x.2)then WU (x.4+1)else 0),.bool (aV s.3 (n+4+x.2) x.4)]),some (.ints (some .u64) (bif aV s.3 (n+4+x.2) x.4 then aX s.3 (n+4+x.2) (WU (x.4+1))else s.3))]) (by kernel_rfl) ?_)
 obtain⟨got,at',left,found,free⟩:=x;dsimp only at ha hl⊢;have hm:=XH (x:=at') (t:=n) (by omega) (by omega)
 have e1:W (left - 1)=left - 1:=xJ (by omega)
 have e2:W (Int.tmod at' n+1)=cX n at':=xJ (by show _≤Int.tmod at' n+1∧Int.tmod at' n+1≤_;omega)
 rw [e1,e2];unfold ZG at hK;dsimp only [Out.run]at hK;cases free with
 | false=>
   simp only [cond_false,Bool.not_false,cond_true]at hK⊢;refine⟨⟨by omega,trivial⟩,⟨⟨trivial,by omega⟩,trivial⟩,by omega,?_⟩
   unfold oddB at hK;generalize ho:ieq (Int.tmod (aE s.xs (n+4+at')) 2) 0=b at hK⊢;cases b with
   | false=>exact⟨by omega,hK⟩
   | true=>exact hK
 | true=>
   simp only [cond_true,Bool.not_true,cond_false]at hK⊢;refine⟨⟨by omega,trivial⟩,⟨⟨trivial,by omega⟩,trivial⟩,?_⟩
   unfold alH at hK;cases hb:aV s.xs (n+4+at') found with
   | true=>
     rw [hb]at hK;simp only [cond_true]at hK⊢;unfold MS.cased at hK;rw [hb]at hK;exact hK
   | false=>
     rw [hb]at hK;simp only [cond_false]at hK⊢;unfold MS.cased at hK;rw [hb]at hK;exact⟨by omega,hK⟩
noncomputable def alS:aH Ob:=fun args h=>match args,h with
 | [.ptr 0 0,.ptr 1 0],[some (.cells [.int .i64 t,.int .i64 n,.int .i64 got,.int .i64 at',.int .i64 left,.int .u64 found,.bool free]),e1,e2]=>match cM 2 [e1,e2]with
   | some (l,s)=>some (.pre (l=s.xs.length∧(1≤t∧t≤1000)∧(1≤n∧n≤1000)∧(1≤at'∧at'≤n)∧(0≤left∧left≤1000)∧(0≤s.c∧s.c≤1000000)) (ZG t n ⟨got,at',left,found,free⟩ s))
   | none=>none
 | _,_=>none
theorem aDc:aH.ok E36.I Tryz.prog 211 alS:=by
 intro args h o ho K hK;unfold alS at ho;split at ho
 case h_2=>cases ho
 split at ho<;>cases ho
 rename_i hm;obtain⟨⟨hl,ht,hn,ha,hl',hc⟩,hK⟩:=hK;have hh:=bE hm hl;cases hh;exact RV _ _ _ _ K ht hn ha hl' hc hK
noncomputable def E42:=E36.addS 211 alS aDc
theorem WC{xs:List Int}(h:WB xs){a x:Int}(hx:0≤x∧x≤18446744073709551615):WB (aX xs a x):=by
 unfold aX;split
 ·refine⟨fun y hy=>?_⟩;rcases List.mem_or_eq_of_mem_set hy with h1 | h1
  ·exact h.h y h1
  ·subst h1;exact hx
 ·exact h
theorem LO(x:Int):0≤WU x∧WU x≤18446744073709551615:=by
 unfold WU;simp only [IntKind.wrap,IntKind.bits,IntKind.signed]
 simp
 omega
structure EO where
 d:Bool
 e:ENS
 st:STS
 s:MS
def at0(t n me:Int):Int:=bif bW n (aQ t n me)then aQ t n me else 1
def IU(e:ENS)(st:STS)(x:AL)(s:MS):EO:=match ile x.left 0 with
 | true=>⟨e.dn||ieq (st.R.length:Int) 0,{e with ph:=2,sh:=e.dn||ieq (st.R.length:Int) 0,x:=x},{st with sp:=0},s⟩
 | false=>⟨false,{e with ph:=1,x:=x},st,s⟩
def rL(n:Int)(e:ENS)(st:STS)(x:AL)(s:MS):EO:=match x.free with
 | true=>(match aV s.xs (n+4+x.at') x.found with
   | true=>⟨true,{e with ph:=1,x:=⟨x.at',x.at',x.left,x.found,true⟩ },{st with sp:=x.at'},s.cased (n+4+x.at') x.found (WU (x.found+1))⟩
   | false=>IU e st ⟨0,cX n x.at',x.left - 1,x.found,false⟩ (s.cased (n+4+x.at') x.found (WU (x.found+1))))
 | false=>(match oddB (aE s.xs (n+4+x.at'))with
   | true=>IU e st ⟨0,cX n x.at',x.left - 1,aE s.xs (n+4+x.at'),false⟩ (s.loadd (n+4+x.at'))
   | false=>⟨false,{e with ph:=1,x:=⟨0,x.at',x.left,aE s.xs (n+4+x.at'),true⟩ },st,s.loadd (n+4+x.at')⟩)
instance:Inhabited EO:=⟨⟨false,aW,⟨0,0,[]⟩,⟨0,0,[],0,0,0,0,0,false⟩⟩⟩
def enF(t n:Int)(e:ENS)(st:STS)(s:MS):EO:=match e.ph with
 | 0=>(match ieq st.sp 0 with
   | true=>rL n e st ⟨0,at0 t n st.me,n,0,false⟩ s
   | false=>⟨true,e,st,s.loadd 0⟩)
 | 1=>rL n e st e.x s
 | 2=>⟨false,{e with ph:=3,y:= {e.y with N:=st.R,m:=bA [] n 0 s,i:=1} },st,s.loadd (bX n 0)⟩
 | 3=>(match ieq (e.y.i+1) (2*t),ieq ((a8 (bA e.y.m n e.y.i s) e.y.N).length :Int) 0 with
   | true,true=>⟨true,{e with ph:=0,sh:=true,dn:=true},{st with R:=cG (bA e.y.m n e.y.i s) e.y.N},s.loadd (bX n e.y.i)⟩
   | true,false=>⟨false,{e with ph:=4,y:=⟨0,e.y.N,bA e.y.m n e.y.i s,e.y.i+1,cG (bA e.y.m n e.y.i s) e.y.N,a8 (bA e.y.m n e.y.i s) e.y.N,a8 (bA e.y.m n e.y.i s) e.y.N,0,(a8 (bA e.y.m n e.y.i s) e.y.N).length⟩ },st,s.loadd (bX n e.y.i)⟩
   | false,_=>⟨false,{e with y:= {e.y with m:=bA e.y.m n e.y.i s,i:=e.y.i+1} },st,s.loadd (bX n e.y.i)⟩)
 | _=>(match ieq ((e.y.l - 1:Nat):Int) 0 with
   | true=>⟨ieq (e.y.fs.length:Int) 0,{e with ph:=0,sh:=ieq (e.y.fs.length:Int) 0,dn:=true},{st with R:=e.y.ks},s.added (b8 n e.y.gs e.y.j) 1⟩
   | false=>⟨false,{e with y:= {e.y with j:=e.y.j+1,l:=e.y.l - 1} },st,s.added (b8 n e.y.gs e.y.j) 1⟩)
structure okAl (n:Int) (x:AL):Prop where
 hg:x.got=0
 ha:1≤x.at'∧x.at'≤n
 hl:0≤x.left∧x.left≤1000
def aEJ(t n:Int)(e:ENS)(st:STS):Prop:=match e.ph with
 | 0=>True
 | 1=>okAl n e.x
 | 2=>True
 | 3=>e.y.N.length≤1000000∧0≤e.y.i∧e.y.i<2*t
 | 4=>2*t≤e.y.i∧1≤e.y.l∧e.y.gs.length=e.y.j+e.y.l∧ -1000000≤List.getD e.y.gs (e.y.j+Int.toNat 0*1) 0∧List.getD e.y.gs (e.y.j+Int.toNat 0*1) 0≤1000000
 | _=>False
structure J7 (t n:Int) (e:ENS) (st:STS) (s:MS):Prop where
 ht:1≤t∧t≤1000
 hn:1≤n∧n≤1000
 hc:0≤s.c∧s.c≤1000000
 hm:0≤st.me∧st.me≤1000
 hR:st.R.length≤1000000
 ho:aEJ t n e st
abbrev bC(l:Nat)(s:MS):Option (aJ Mc):=some (.cells [.int .i64 s.t,.int .i64 s.n,.slice l 0 s.xs.length 1,.int .i64 s.c,.int .i64 s.k,.int .i64 s.a,.int .u64 s.o,.int .u64 s.w,.bool s.ok])
abbrev bD(s:MS):Option (aJ Mc):=some (.ints (some .u64) s.xs)
def TL(t n:Int)(e:ENS)(st:STS)(s:MS):aC Ob:=[some (.abs (.ensure t n e) [1]),some (.abs (.store t n st) []),bC 3 s,bD s]
def EO.left(o:EO)(t n:Int)(K:AVal→aC Ob→Prop):Prop:=K (.bool o.d) (TL t n o.e o.st o.s)
theorem gL{K:AVal→aC Ob→Prop}{t n:Int}{o:EO}{g':aC Ob}(pl:List Nat)(hK:o.left t n K)
 (hb:(d0 pl g'.length&&jA pl 0 4&&obOk 1 (DA t n o.e))=true)
 (hT:gQ pl g'=aL [some (.abs (.ensure t n o.e) [1]),some (.cells [.int .i64 t,.int .i64 n,.int .i64 o.st.me,.int .i64 o.st.sp,.slice 4 0 o.st.R.length 1]),bC 3 o.s,bD o.s,some (.ints (some .i64) o.st.R)] 0 1 (DA t n o.e) [1]):zC tbl 4 (zC tbl 4 K) (.bool o.d) g':=by
 simp only [Bool.and_eq_true]at hb;obtain⟨⟨b1,b2⟩,b3⟩:=hb;refine⟨pl,_,.ensure t n o.e,0,1,_,[1],?_,hT,rfl,rfl,⟨[0,1,2,3,4],[some (.abs (.ensure t n o.e) [1]),some (.abs (.store t n o.st) []),bC 3 o.s,bD o.s],.store t n o.st,1,0,dB t n o.st,[],rfl,rfl,rfl,rfl,?_⟩⟩
 ·rw [b1,b2,b3];rfl
 ·exact hK
theorem aFC(t n me sp:Int)(R:List Int)(sh dn:Bool)(x:AL)(y:SWS)(s:MS)(K:AVal→aC Ob→Prop)(hK:bif !ieq sp 0 then(lE' s.3∧(0:Int)≤s.4∧s.4≤(4611686018427387904:Int))∧K (.bool true) [some (.cells [.ptr 1 0,.bool sh,.raw (Value.pointer none),.raw (Value.pointer none),.bool dn]),some (.cells [.int .i64 t,.int .i64 n,.int .i64 me,.int .i64 sp,.slice 4 0 R.length 1]),some (.cells [.int .i64 s.1,.int .i64 s.2,.slice 3 0 s.3.length 1,.int .i64 (s.4+1),.int .i64 1,.int .i64 0,.int .u64 (aE s.3 0),.int .u64 (aE s.3 0),.bool (bT s.3 0)]),some (.ints (some .u64) s.3),some (.ints (some .i64) R)]else(((0:Int)≤me∧me≤(100000:Int))∧(0:Int)≤n∧n≤(100000:Int))∧(True∧True)∧(lE' s.3∧((1:Int)≤t∧t≤(1000:Int))∧((1:Int)≤n∧n≤(1000:Int))∧(((1:Int)≤bif bW n (aQ t n me)then aQ t n me else 1)∧(bif bW n (aQ t n me)then aQ t n me else 1)≤n)∧((0:Int)≤n∧n≤(1000:Int))∧(0:Int)≤s.4∧s.4≤(1000000:Int))∧bif oddB (aE s.3 (n+4+bif bW n (aQ t n me)then aQ t n me else 1))then bif !ile (n - 1) 0 then K (.bool false) [some (.cells [.ptr 1 0,.bool sh,.ptr 5 0,.raw (Value.pointer none),.bool dn]),some (.cells [.int .i64 t,.int .i64 n,.int .i64 me,.int .i64 sp,.slice 4 0 R.length 1]),some (.cells [.int .i64 s.1,.int .i64 s.2,.slice 3 0 s.3.length 1,.int .i64 (s.4+1),.int .i64 1,.int .i64 (n+4+bif bW n (aQ t n me)then aQ t n me else 1),.int .u64 (aE s.3 (n+4+bif bW n (aQ t n me)then aQ t n me else 1)),.int .u64 (aE s.3 (n+4+bif bW n (aQ t n me)then aQ t n me else 1)),.bool (bT s.3 (n+4+bif bW n (aQ t n me)then aQ t n me else 1))]),some (.ints (some .u64) s.3),some (.ints (some .i64) R),some (.cells [.int .i64 t,.int .i64 n,.int .i64 0,.int .i64 (cX n (bif bW n (aQ t n me)then aQ t n me else 1)),.int .i64 (n - 1),.int .u64 (aE s.3 (n+4+bif bW n (aQ t n me)then aQ t n me else 1)),.bool false])]else bif dn then K (.bool true) [some (.cells [.ptr 1 0,.bool true,.ptr 5 0,.ptr 6 0,.bool dn]),some (.cells [.int .i64 t,.int .i64 n,.int .i64 me,.int .i64 0,.slice 4 0 R.length 1]),some (.cells [.int .i64 s.1,.int .i64 s.2,.slice 3 0 s.3.length 1,.int .i64 (s.4+1),.int .i64 1,.int .i64 (n+4+bif bW n (aQ t n me)then aQ t n me else 1),.int .u64 (aE s.3 (n+4+bif bW n (aQ t n me)then aQ t n me else 1)),.int .u64 (aE s.3 (n+4+bif bW n (aQ t n me)then aQ t n me else 1)),.bool (bT s.3 (n+4+bif bW n (aQ t n me)then aQ t n me else 1))]),some (.ints (some .u64) s.3),some (.ints (some .i64) R),some (.cells [.int .i64 t,.int .i64 n,.int .i64 0,.int .i64 (cX n (bif bW n (aQ t n me)then aQ t n me else 1)),.int .i64 (n - 1),.int .u64 (aE s.3 (n+4+bif bW n (aQ t n me)then aQ t n me else 1)),.bool false]),some (.cells [.ptr 1 0,.raw (Value.pointer none)])]else K (.bool (ieq (↑R.length:Int) 0)) [some (.cells [.ptr 1 0,.bool (ieq (↑R.length:Int) 0),.ptr 5 0,.ptr 6 0,.bool dn]),some (.cells [.int .i64 t,.int .i64 n,.int .i64 me,.int .i64 0,.slice 4 0 R.length 1]),some (.cells [.int .i64 s.1,.int .i64 s.2,.slice 3 0 s.3.length 1,.int .i64 (s.4+1),.int .i64 1,.int .i64 (n+4+bif bW n (aQ t n me)then aQ t n me else 1),.int .u64 (aE s.3 (n+4+bif bW n (aQ t n me)then aQ t n me else 1)),.int .u64 (aE s.3 (n+4+bif bW n (aQ t n me)then aQ t n me else 1)),.bool (bT s.3 (n+4+bif bW n (aQ t n me)then aQ t n me else 1))]),some (.ints (some .u64) s.3),some (.ints (some .i64) R),some (.cells [.int .i64 t,.int .i64 n,.int .i64 0,.int .i64 (cX n (bif bW n (aQ t n me)then aQ t n me else 1)),.int .i64 (n - 1),.int .u64 (aE s.3 (n+4+bif bW n (aQ t n me)then aQ t n me else 1)),.bool false]),some (.cells [.ptr 1 0,.raw (Value.pointer none)])]else K (.bool false) [some (.cells [.ptr 1 0,.bool sh,.ptr 5 0,.raw (Value.pointer none),.bool dn]),some (.cells [.int .i64 t,.int .i64 n,.int .i64 me,.int .i64 sp,.slice 4 0 R.length 1]),some (.cells [.int .i64 s.1,.int .i64 s.2,.slice 3 0 s.3.length 1,.int .i64 (s.4+1),.int .i64 1,.int .i64 (n+4+bif bW n (aQ t n me)then aQ t n me else 1),.int .u64 (aE s.3 (n+4+bif bW n (aQ t n me)then aQ t n me else 1)),.int .u64 (aE s.3 (n+4+bif bW n (aQ t n me)then aQ t n me else 1)),.bool (bT s.3 (n+4+bif bW n (aQ t n me)then aQ t n me else 1))]),some (.ints (some .u64) s.3),some (.ints (some .i64) R),some (.cells [.int .i64 t,.int .i64 n,.int .i64 0,.int .i64 (bif bW n (aQ t n me)then aQ t n me else 1),.int .i64 n,.int .u64 (aE s.3 (n+4+bif bW n (aQ t n me)then aQ t n me else 1)),.bool true])]):cT' 154 [.ptr 0 0,.ptr 2 0] [some (.cells [.ptr 1 0,.bool sh,.raw (.pointer none),.raw (.pointer none),.bool dn]),some (.cells [.int .i64 t,.int .i64 n,.int .i64 me,.int .i64 sp,.slice 4 0 R.length 1]),bC 3 s,bD s,some (.ints (some .i64) R)] K:=by
 refine aGU (cM' (E:=E42) (by kernel_rfl) hK)
theorem aFD(t n me sp:Int)(R:List Int)(sh dn:Bool)(x:AL)(y:SWS)(s:MS)(K:AVal→aC Ob→Prop)(hK:(lE' s.3∧((1:Int)≤t∧t≤(1000:Int))∧((1:Int)≤n∧n≤(1000:Int))∧((1:Int)≤x.2∧x.2≤n)∧((0:Int)≤x.3∧x.3≤(1000:Int))∧(0:Int)≤s.4∧s.4≤(1000000:Int))∧bif x.5 then bif aV s.3 (n+4+x.2) x.4 then bif !ieq x.2 0 then K (.bool true) [some (.cells [.ptr 1 0,.bool sh,.ptr 5 0,.raw (Value.pointer none),.bool dn]),some (.cells [.int .i64 t,.int .i64 n,.int .i64 me,.int .i64 x.2,.slice 4 0 R.length 1]),some (.cells [.int .i64 s.1,.int .i64 s.2,.slice 3 0 (List.length (bif aV s.3 (n+4+x.2) x.4 then aX s.3 (n+4+x.2) (WU (x.4+1))else s.3)) 1,.int .i64 (s.4+1),.int .i64 3,.int .i64 (n+4+x.2),.int .u64 (aE s.3 (n+4+x.2)),.int .u64 (bif bT s.3 (n+4+x.2)then WU (x.4+1)else 0),.bool (aV s.3 (n+4+x.2) x.4)]),some (.ints (some .u64) (bif aV s.3 (n+4+x.2) x.4 then aX s.3 (n+4+x.2) (WU (x.4+1))else s.3)),some (.ints (some .i64) R),some (.cells [.int .i64 t,.int .i64 n,.int .i64 x.2,.int .i64 x.2,.int .i64 x.3,.int .u64 x.4,.bool true])]else bif dn then K (.bool true) [some (.cells [.ptr 1 0,.bool true,.ptr 5 0,.ptr 6 0,.bool dn]),some (.cells [.int .i64 t,.int .i64 n,.int .i64 me,.int .i64 x.2,.slice 4 0 R.length 1]),some (.cells [.int .i64 s.1,.int .i64 s.2,.slice 3 0 (List.length (bif aV s.3 (n+4+x.2) x.4 then aX s.3 (n+4+x.2) (WU (x.4+1))else s.3)) 1,.int .i64 (s.4+1),.int .i64 3,.int .i64 (n+4+x.2),.int .u64 (aE s.3 (n+4+x.2)),.int .u64 (bif bT s.3 (n+4+x.2)then WU (x.4+1)else 0),.bool (aV s.3 (n+4+x.2) x.4)]),some (.ints (some .u64) (bif aV s.3 (n+4+x.2) x.4 then aX s.3 (n+4+x.2) (WU (x.4+1))else s.3)),some (.ints (some .i64) R),some (.cells [.int .i64 t,.int .i64 n,.int .i64 x.2,.int .i64 x.2,.int .i64 x.3,.int .u64 x.4,.bool true]),some (.cells [.ptr 1 0,.raw (Value.pointer none)])]else K (.bool (ieq (↑R.length:Int) 0)) [some (.cells [.ptr 1 0,.bool (ieq (↑R.length:Int) 0),.ptr 5 0,.ptr 6 0,.bool dn]),some (.cells [.int .i64 t,.int .i64 n,.int .i64 me,.int .i64 x.2,.slice 4 0 R.length 1]),some (.cells [.int .i64 s.1,.int .i64 s.2,.slice 3 0 (List.length (bif aV s.3 (n+4+x.2) x.4 then aX s.3 (n+4+x.2) (WU (x.4+1))else s.3)) 1,.int .i64 (s.4+1),.int .i64 3,.int .i64 (n+4+x.2),.int .u64 (aE s.3 (n+4+x.2)),.int .u64 (bif bT s.3 (n+4+x.2)then WU (x.4+1)else 0),.bool (aV s.3 (n+4+x.2) x.4)]),some (.ints (some .u64) (bif aV s.3 (n+4+x.2) x.4 then aX s.3 (n+4+x.2) (WU (x.4+1))else s.3)),some (.ints (some .i64) R),some (.cells [.int .i64 t,.int .i64 n,.int .i64 x.2,.int .i64 x.2,.int .i64 x.3,.int .u64 x.4,.bool true]),some (.cells [.ptr 1 0,.raw (Value.pointer none)])]else bif !ile (x.3 - 1) 0 then K (.bool false) [some (.cells [.ptr 1 0,.bool sh,.ptr 5 0,.raw (Value.pointer none),.bool dn]),some (.cells [.int .i64 t,.int .i64 n,.int .i64 me,.int .i64 sp,.slice 4 0 R.length 1]),some (.cells [.int .i64 s.1,.int .i64 s.2,.slice 3 0 (List.length (bif aV s.3 (n+4+x.2) x.4 then aX s.3 (n+4+x.2) (WU (x.4+1))else s.3)) 1,.int .i64 (s.4+1),.int .i64 3,.int .i64 (n+4+x.2),.int .u64 (aE s.3 (n+4+x.2)),.int .u64 (bif bT s.3 (n+4+x.2)then WU (x.4+1)else 0),.bool (aV s.3 (n+4+x.2) x.4)]),some (.ints (some .u64) (bif aV s.3 (n+4+x.2) x.4 then aX s.3 (n+4+x.2) (WU (x.4+1))else s.3)),some (.ints (some .i64) R),some (.cells [.int .i64 t,.int .i64 n,.int .i64 x.1,.int .i64 (cX n x.2),.int .i64 (x.3 - 1),.int .u64 x.4,.bool false])]else bif !ieq x.1 0 then K (.bool true) [some (.cells [.ptr 1 0,.bool sh,.ptr 5 0,.raw (Value.pointer none),.bool dn]),some (.cells [.int .i64 t,.int .i64 n,.int .i64 me,.int .i64 x.1,.slice 4 0 R.length 1]),some (.cells [.int .i64 s.1,.int .i64 s.2,.slice 3 0 (List.length (bif aV s.3 (n+4+x.2) x.4 then aX s.3 (n+4+x.2) (WU (x.4+1))else s.3)) 1,.int .i64 (s.4+1),.int .i64 3,.int .i64 (n+4+x.2),.int .u64 (aE s.3 (n+4+x.2)),.int .u64 (bif bT s.3 (n+4+x.2)then WU (x.4+1)else 0),.bool (aV s.3 (n+4+x.2) x.4)]),some (.ints (some .u64) (bif aV s.3 (n+4+x.2) x.4 then aX s.3 (n+4+x.2) (WU (x.4+1))else s.3)),some (.ints (some .i64) R),some (.cells [.int .i64 t,.int .i64 n,.int .i64 x.1,.int .i64 (cX n x.2),.int .i64 (x.3 - 1),.int .u64 x.4,.bool false])]else bif dn then K (.bool true) [some (.cells [.ptr 1 0,.bool true,.ptr 5 0,.ptr 6 0,.bool dn]),some (.cells [.int .i64 t,.int .i64 n,.int .i64 me,.int .i64 x.1,.slice 4 0 R.length 1]),some (.cells [.int .i64 s.1,.int .i64 s.2,.slice 3 0 (List.length (bif aV s.3 (n+4+x.2) x.4 then aX s.3 (n+4+x.2) (WU (x.4+1))else s.3)) 1,.int .i64 (s.4+1),.int .i64 3,.int .i64 (n+4+x.2),.int .u64 (aE s.3 (n+4+x.2)),.int .u64 (bif bT s.3 (n+4+x.2)then WU (x.4+1)else 0),.bool (aV s.3 (n+4+x.2) x.4)]),some (.ints (some .u64) (bif aV s.3 (n+4+x.2) x.4 then aX s.3 (n+4+x.2) (WU (x.4+1))else s.3)),some (.ints (some .i64) R),some (.cells [.int .i64 t,.int .i64 n,.int .i64 x.1,.int .i64 (cX n x.2),.int .i64 (x.3 - 1),.int .u64 x.4,.bool false]),some (.cells [.ptr 1 0,.raw (Value.pointer none)])]else K (.bool (ieq (↑R.length:Int) 0)) [some (.cells [.ptr 1 0,.bool (ieq (↑R.length:Int) 0),.ptr 5 0,.ptr 6 0,.bool dn]),some (.cells [.int .i64 t,.int .i64 n,.int .i64 me,.int .i64 x.1,.slice 4 0 R.length 1]),some (.cells [.int .i64 s.1,.int .i64 s.2,.slice 3 0 (List.length (bif aV s.3 (n+4+x.2) x.4 then aX s.3 (n+4+x.2) (WU (x.4+1))else s.3)) 1,.int .i64 (s.4+1),.int .i64 3,.int .i64 (n+4+x.2),.int .u64 (aE s.3 (n+4+x.2)),.int .u64 (bif bT s.3 (n+4+x.2)then WU (x.4+1)else 0),.bool (aV s.3 (n+4+x.2) x.4)]),some (.ints (some .u64) (bif aV s.3 (n+4+x.2) x.4 then aX s.3 (n+4+x.2) (WU (x.4+1))else s.3)),some (.ints (some .i64) R),some (.cells [.int .i64 t,.int .i64 n,.int .i64 x.1,.int .i64 (cX n x.2),.int .i64 (x.3 - 1),.int .u64 x.4,.bool false]),some (.cells [.ptr 1 0,.raw (Value.pointer none)])]else bif oddB (aE s.3 (n+4+x.2))then bif !ile (x.3 - 1) 0 then K (.bool false) [some (.cells [.ptr 1 0,.bool sh,.ptr 5 0,.raw (Value.pointer none),.bool dn]),some (.cells [.int .i64 t,.int .i64 n,.int .i64 me,.int .i64 sp,.slice 4 0 R.length 1]),some (.cells [.int .i64 s.1,.int .i64 s.2,.slice 3 0 s.3.length 1,.int .i64 (s.4+1),.int .i64 1,.int .i64 (n+4+x.2),.int .u64 (aE s.3 (n+4+x.2)),.int .u64 (aE s.3 (n+4+x.2)),.bool (bT s.3 (n+4+x.2))]),some (.ints (some .u64) s.3),some (.ints (some .i64) R),some (.cells [.int .i64 t,.int .i64 n,.int .i64 x.1,.int .i64 (cX n x.2),.int .i64 (x.3 - 1),.int .u64 (aE s.3 (n+4+x.2)),.bool false])]else bif !ieq x.1 0 then K (.bool true) [some (.cells [.ptr 1 0,.bool sh,.ptr 5 0,.raw (Value.pointer none),.bool dn]),some (.cells [.int .i64 t,.int .i64 n,.int .i64 me,.int .i64 x.1,.slice 4 0 R.length 1]),some (.cells [.int .i64 s.1,.int .i64 s.2,.slice 3 0 s.3.length 1,.int .i64 (s.4+1),.int .i64 1,.int .i64 (n+4+x.2),.int .u64 (aE s.3 (n+4+x.2)),.int .u64 (aE s.3 (n+4+x.2)),.bool (bT s.3 (n+4+x.2))]),some (.ints (some .u64) s.3),some (.ints (some .i64) R),some (.cells [.int .i64 t,.int .i64 n,.int .i64 x.1,.int .i64 (cX n x.2),.int .i64 (x.3 - 1),.int .u64 (aE s.3 (n+4+x.2)),.bool false])]else bif dn then K (.bool true) [some (.cells [.ptr 1 0,.bool true,.ptr 5 0,.ptr 6 0,.bool dn]),some (.cells [.int .i64 t,.int .i64 n,.int .i64 me,.int .i64 x.1,.slice 4 0 R.length 1]),some (.cells [.int .i64 s.1,.int .i64 s.2,.slice 3 0 s.3.length 1,.int .i64 (s.4+1),.int .i64 1,.int .i64 (n+4+x.2),.int .u64 (aE s.3 (n+4+x.2)),.int .u64 (aE s.3 (n+4+x.2)),.bool (bT s.3 (n+4+x.2))]),some (.ints (some .u64) s.3),some (.ints (some .i64) R),some (.cells [.int .i64 t,.int .i64 n,.int .i64 x.1,.int .i64 (cX n x.2),.int .i64 (x.3 - 1),.int .u64 (aE s.3 (n+4+x.2)),.bool false]),some (.cells [.ptr 1 0,.raw (Value.pointer none)])]else K (.bool (ieq (↑R.length:Int) 0)) [some (.cells [.ptr 1 0,.bool (ieq (↑R.length:Int) 0),.ptr 5 0,.ptr 6 0,.bool dn]),some (.cells [.int .i64 t,.int .i64 n,.int .i64 me,.int .i64 x.1,.slice 4 0 R.length 1]),some (.cells [.int .i64 s.1,.int .i64 s.2,.slice 3 0 s.3.length 1,.int .i64 (s.4+1),.int .i64 1,.int .i64 (n+4+x.2),.int .u64 (aE s.3 (n+4+x.2)),.int .u64 (aE s.3 (n+4+x.2)),.bool (bT s.3 (n+4+x.2))]),some (.ints (some .u64) s.3),some (.ints (some .i64) R),some (.cells [.int .i64 t,.int .i64 n,.int .i64 x.1,.int .i64 (cX n x.2),.int .i64 (x.3 - 1),.int .u64 (aE s.3 (n+4+x.2)),.bool false]),some (.cells [.ptr 1 0,.raw (Value.pointer none)])]else K (.bool false) [some (.cells [.ptr 1 0,.bool sh,.ptr 5 0,.raw (Value.pointer none),.bool dn]),some (.cells [.int .i64 t,.int .i64 n,.int .i64 me,.int .i64 sp,.slice 4 0 R.length 1]),some (.cells [.int .i64 s.1,.int .i64 s.2,.slice 3 0 s.3.length 1,.int .i64 (s.4+1),.int .i64 1,.int .i64 (n+4+x.2),.int .u64 (aE s.3 (n+4+x.2)),.int .u64 (aE s.3 (n+4+x.2)),.bool (bT s.3 (n+4+x.2))]),some (.ints (some .u64) s.3),some (.ints (some .i64) R),some (.cells [.int .i64 t,.int .i64 n,.int .i64 x.1,.int .i64 x.2,.int .i64 x.3,.int .u64 (aE s.3 (n+4+x.2)),.bool true])]):cT' 154 [.ptr 0 0,.ptr 2 0] [some (.cells [.ptr 1 0,.bool sh,.ptr 5 0,.raw (.pointer none),.bool dn]),some (.cells [.int .i64 t,.int .i64 n,.int .i64 me,.int .i64 sp,.slice 4 0 R.length 1]),bC 3 s,bD s,some (.ints (some .i64) R),X1 t n x] K:=by
 refine aGU (cM' (E:=E42) (by kernel_rfl) hK)
theorem aFE(t n me sp:Int)(R:List Int)(sh dn:Bool)(x:AL)(y:SWS)(s:MS)(K:AVal→aC Ob→Prop)(hK:((lE' s.3∧lE' R)∧((1:Int)≤t∧t≤(1000:Int))∧((1:Int)≤n∧n≤(1000:Int))∧((0:Int)≤s.4∧s.4≤(1000000:Int))∧R.length≤(1000000:Nat))∧K (.bool false) [some (.cells [.ptr 1 0,.bool sh,.ptr 5 0,.ptr 6 0,.bool dn]),some (.cells [.int .i64 t,.int .i64 n,.int .i64 me,.int .i64 sp,.slice 4 0 R.length 1]),some (.cells [.int .i64 s.1,.int .i64 s.2,.slice 3 0 s.3.length 1,.int .i64 (s.4+1),.int .i64 1,.int .i64 (bX n 0),.int .u64 (aE s.3 (bX n 0)),.int .u64 (aE s.3 (bX n 0)),.bool (bT s.3 (bX n 0))]),some (.ints (some .u64) s.3),some (.ints (some .i64) R),some (.cells [.int .i64 t,.int .i64 n,.int .i64 x.1,.int .i64 x.2,.int .i64 x.3,.int .u64 x.4,.bool x.5]),some (.cells [.ptr 1 0,.ptr 7 0]),some (.cells [.int .i64 t,.int .i64 n,.raw (Value.slice none 0 0),.raw (Value.slice none 0 0),.slice 8 0 R.length 1,.map 9,.int .i64 1,.raw (Value.pointer none)]),some (.ints (some .i64) R),some (.imap .i64 none (bA [] n 0 s))]):cT' 154 [.ptr 0 0,.ptr 2 0] [some (.cells [.ptr 1 0,.bool sh,.ptr 5 0,.ptr 6 0,.bool dn]),some (.cells [.int .i64 t,.int .i64 n,.int .i64 me,.int .i64 sp,.slice 4 0 R.length 1]),bC 3 s,bD s,some (.ints (some .i64) R),X1 t n x,some (.cells [.ptr 1 0,.raw (.pointer none)])] K:=by
 refine aGU (cM' (E:=E42) (by kernel_rfl) hK)
theorem aFF(t n me sp:Int)(R:List Int)(sh dn:Bool)(x:AL)(y:SWS)(s:MS)(K:AVal→aC Ob→Prop)(hK:((lE' s.3∧lE' R∧lE' y.2∧t=t∧n=n)∧((1:Int)≤t∧t≤(1000:Int))∧((1:Int)≤n∧n≤(1000:Int))∧((0:Int)≤s.4∧s.4≤(1000000:Int))∧y.2.length≤(1000000:Nat)∧(0:Int)≤y.4∧y.4<(2:Int)*t)∧bif ieq (y.4+1) (2*t)then bif ieq (↑(List.length (a8 (bA y.3 n y.4 s) y.2)):Int) 0 then K (.bool (ieq (↑(List.length (a8 (bA y.3 n y.4 s) y.2)):Int) 0)) [some (.cells [.ptr 1 0,.bool (ieq (↑(List.length (a8 (bA y.3 n y.4 s) y.2)):Int) 0),.raw (Value.pointer none),.raw (Value.pointer none),.bool true]),some (.cells [.int .i64 t,.int .i64 n,.int .i64 me,.int .i64 sp,.slice 10 0 (List.length (cG (bA y.3 n y.4 s) y.2)) 1]),some (.cells [.int .i64 s.1,.int .i64 s.2,.slice 3 0 s.3.length 1,.int .i64 (s.4+1),.int .i64 1,.int .i64 (bX n y.4),.int .u64 (aE s.3 (bX n y.4)),.int .u64 (aE s.3 (bX n y.4)),.bool (bT s.3 (bX n y.4))]),some (.ints (some .u64) s.3),some (.ints (some .i64) R),some (.cells [.int .i64 t,.int .i64 n,.int .i64 x.1,.int .i64 x.2,.int .i64 x.3,.int .u64 x.4,.bool x.5]),some (.cells [.ptr 1 0,.ptr 7 0]),some (.cells [.int .i64 t,.int .i64 n,.slice 10 0 (List.length (cG (bA y.3 n y.4 s) y.2)) 1,.slice 11 0 (List.length (a8 (bA y.3 n y.4 s) y.2)) 1,.slice 8 0 y.2.length 1,.map 9,.int .i64 (y.4+1),.ptr 12 0]),some (.ints (some .i64) y.2),some (.imap .i64 none (bA y.3 n y.4 s)),some (.ints (some .i64) (cG (bA y.3 n y.4 s) y.2)),some (.ints (some .i64) (a8 (bA y.3 n y.4 s) y.2)),some (.cells [.int .i64 t,.int .i64 n,.slice 13 0 (List.length (a8 (bA y.3 n y.4 s) y.2)) 1]),some (.ints (some .i64) (a8 (bA y.3 n y.4 s) y.2))]else K (.bool false) [some (.cells [.ptr 1 0,.bool sh,.ptr 5 0,.ptr 6 0,.bool dn]),some (.cells [.int .i64 t,.int .i64 n,.int .i64 me,.int .i64 sp,.slice 4 0 R.length 1]),some (.cells [.int .i64 s.1,.int .i64 s.2,.slice 3 0 s.3.length 1,.int .i64 (s.4+1),.int .i64 1,.int .i64 (bX n y.4),.int .u64 (aE s.3 (bX n y.4)),.int .u64 (aE s.3 (bX n y.4)),.bool (bT s.3 (bX n y.4))]),some (.ints (some .u64) s.3),some (.ints (some .i64) R),some (.cells [.int .i64 t,.int .i64 n,.int .i64 x.1,.int .i64 x.2,.int .i64 x.3,.int .u64 x.4,.bool x.5]),some (.cells [.ptr 1 0,.ptr 7 0]),some (.cells [.int .i64 t,.int .i64 n,.slice 10 0 (List.length (cG (bA y.3 n y.4 s) y.2)) 1,.slice 11 0 (List.length (a8 (bA y.3 n y.4 s) y.2)) 1,.slice 8 0 y.2.length 1,.map 9,.int .i64 (y.4+1),.ptr 12 0]),some (.ints (some .i64) y.2),some (.imap .i64 none (bA y.3 n y.4 s)),some (.ints (some .i64) (cG (bA y.3 n y.4 s) y.2)),some (.ints (some .i64) (a8 (bA y.3 n y.4 s) y.2)),some (.cells [.int .i64 t,.int .i64 n,.slice 13 0 (List.length (a8 (bA y.3 n y.4 s) y.2)) 1]),some (.ints (some .i64) (a8 (bA y.3 n y.4 s) y.2))]else K (.bool false) [some (.cells [.ptr 1 0,.bool sh,.ptr 5 0,.ptr 6 0,.bool dn]),some (.cells [.int .i64 t,.int .i64 n,.int .i64 me,.int .i64 sp,.slice 4 0 R.length 1]),some (.cells [.int .i64 s.1,.int .i64 s.2,.slice 3 0 s.3.length 1,.int .i64 (s.4+1),.int .i64 1,.int .i64 (bX n y.4),.int .u64 (aE s.3 (bX n y.4)),.int .u64 (aE s.3 (bX n y.4)),.bool (bT s.3 (bX n y.4))]),some (.ints (some .u64) s.3),some (.ints (some .i64) R),some (.cells [.int .i64 t,.int .i64 n,.int .i64 x.1,.int .i64 x.2,.int .i64 x.3,.int .u64 x.4,.bool x.5]),some (.cells [.ptr 1 0,.ptr 7 0]),some (.cells [.int .i64 t,.int .i64 n,.raw (Value.slice none 0 0),.raw (Value.slice none 0 0),.slice 8 0 y.2.length 1,.map 9,.int .i64 (y.4+1),.raw (Value.pointer none)]),some (.ints (some .i64) y.2),some (.imap .i64 none (bA y.3 n y.4 s))]):cT' 154 [.ptr 0 0,.ptr 2 0] [some (.cells [.ptr 1 0,.bool sh,.ptr 5 0,.ptr 6 0,.bool dn]),some (.cells [.int .i64 t,.int .i64 n,.int .i64 me,.int .i64 sp,.slice 4 0 R.length 1]),bC 3 s,bD s,some (.ints (some .i64) R),X1 t n x,some (.cells [.ptr 1 0,.ptr 7 0]),some (.cells [.int .i64 t,.int .i64 n,.raw (.slice none 0 0),.raw (.slice none 0 0),.slice 8 0 y.N.length 1,.map 9,.int .i64 y.i,.raw (.pointer none)]),some (.ints (some .i64) y.N),some (.imap .i64 none y.m)] K:=by
 refine aGU (cM' (E:=E42) (by kernel_rfl) hK)
theorem aFG(t n me sp:Int)(R:List Int)(sh dn:Bool)(x:AL)(y:SWS)(s:MS)(K:AVal→aC Ob→Prop)(hK:((lE' s.3∧lE' R∧lE' y.5∧lE' y.6∧lE' y.2∧t=t∧n=n∧t=t∧n=n)∧((1:Int)≤t∧t≤(1000:Int))∧((1:Int)≤n∧n≤(1000:Int))∧((0:Int)≤s.4∧s.4≤(1000000:Int))∧2*t≤y.4∧((1:Nat)≤y.9∧y.7.length=y.8+y.9)∧(-1000000:Int)≤List.getD y.7 (y.8+Int.toNat 0*1) 0∧List.getD y.7 (y.8+Int.toNat 0*1) (0:Int)≤(1000000:Int))∧bif ieq (↑(y.9 - 1):Int) 0 then K (.bool (ieq (↑y.6.length:Int) 0)) [some (.cells [.ptr 1 0,.bool (ieq (↑y.6.length:Int) 0),.raw (Value.pointer none),.raw (Value.pointer none),.bool true]),some (.cells [.int .i64 t,.int .i64 n,.int .i64 me,.int .i64 sp,.slice 8 0 y.5.length 1]),some (.cells [.int .i64 s.1,.int .i64 s.2,.slice 3 0 (List.length (aX s.3 (b8 n y.7 y.8) (WU (aE s.3 (b8 n y.7 y.8)+1)))) 1,.int .i64 (s.4+1),.int .i64 4,.int .i64 (b8 n y.7 y.8),.int .u64 (aE s.3 (b8 n y.7 y.8)),.int .u64 (bif bT s.3 (b8 n y.7 y.8)then WU (aE s.3 (b8 n y.7 y.8)+1)else 0),.bool (bT s.3 (b8 n y.7 y.8))]),some (.ints (some .u64) (aX s.3 (b8 n y.7 y.8) (WU (aE s.3 (b8 n y.7 y.8)+1)))),some (.ints (some .i64) R),some (.cells [.int .i64 t,.int .i64 n,.int .i64 x.1,.int .i64 x.2,.int .i64 x.3,.int .u64 x.4,.bool x.5]),some (.cells [.ptr 1 0,.ptr 7 0]),some (.cells [.int .i64 t,.int .i64 n,.slice 8 0 y.5.length 1,.slice 9 0 y.6.length 1,.slice 10 0 y.2.length 1,.map 11,.int .i64 y.4,.ptr 12 0]),some (.ints (some .i64) y.5),some (.ints (some .i64) y.6),some (.ints (some .i64) y.2),some (.imap .i64 none y.3),some (.cells [.int .i64 t,.int .i64 n,.slice 13 (y.8+1) (y.9 - 1) 1]),some (.ints (some .i64) y.7)]else K (.bool false) [some (.cells [.ptr 1 0,.bool sh,.ptr 5 0,.ptr 6 0,.bool dn]),some (.cells [.int .i64 t,.int .i64 n,.int .i64 me,.int .i64 sp,.slice 4 0 R.length 1]),some (.cells [.int .i64 s.1,.int .i64 s.2,.slice 3 0 (List.length (aX s.3 (b8 n y.7 y.8) (WU (aE s.3 (b8 n y.7 y.8)+1)))) 1,.int .i64 (s.4+1),.int .i64 4,.int .i64 (b8 n y.7 y.8),.int .u64 (aE s.3 (b8 n y.7 y.8)),.int .u64 (bif bT s.3 (b8 n y.7 y.8)then WU (aE s.3 (b8 n y.7 y.8)+1)else 0),.bool (bT s.3 (b8 n y.7 y.8))]),some (.ints (some .u64) (aX s.3 (b8 n y.7 y.8) (WU (aE s.3 (b8 n y.7 y.8)+1)))),some (.ints (some .i64) R),some (.cells [.int .i64 t,.int .i64 n,.int .i64 x.1,.int .i64 x.2,.int .i64 x.3,.int .u64 x.4,.bool x.5]),some (.cells [.ptr 1 0,.ptr 7 0]),some (.cells [.int .i64 t,.int .i64 n,.slice 8 0 y.5.length 1,.slice 9 0 y.6.length 1,.slice 10 0 y.2.length 1,.map 11,.int .i64 y.4,.ptr 12 0]),some (.ints (some .i64) y.5),some (.ints (some .i64) y.6),some (.ints (some .i64) y.2),some (.imap .i64 none y.3),some (.cells [.int .i64 t,.int .i64 n,.slice 13 (y.8+1) (y.9 - 1) 1]),some (.ints (some .i64) y.7)]):cT' 154 [.ptr 0 0,.ptr 2 0] [some (.cells [.ptr 1 0,.bool sh,.ptr 5 0,.ptr 6 0,.bool dn]),some (.cells [.int .i64 t,.int .i64 n,.int .i64 me,.int .i64 sp,.slice 4 0 R.length 1]),bC 3 s,bD s,some (.ints (some .i64) R),X1 t n x,some (.cells [.ptr 1 0,.ptr 7 0]),some (.cells [.int .i64 t,.int .i64 n,.slice 8 0 y.ks.length 1,.slice 9 0 y.fs.length 1,.slice 10 0 y.N.length 1,.map 11,.int .i64 y.i,.ptr 12 0]),some (.ints (some .i64) y.ks),some (.ints (some .i64) y.fs),some (.ints (some .i64) y.N),some (.imap .i64 none y.m),some (.cells [.int .i64 t,.int .i64 n,.slice 13 y.j y.l 1]),some (.ints (some .i64) y.gs)] K:=by
 refine aGU (cM' (E:=E42) (by kernel_rfl) hK)
theorem en2(t n:Int)(e:ENS)(st:STS)(s:MS)(K:AVal→aC Ob→Prop)(hp:e.ph=2)(ok:J7 t n e st s)(hK:(enF t n e st s).left t n K):cT' 154 [.ptr 0 0,.ptr 2 0] (TL t n e st s) K:=by
 obtain⟨ht,hn,hc,hm,hR,ho⟩:=ok;obtain⟨ph,sh,dn,x,y⟩:=e;dsimp only at hp;subst hp;obtain⟨me,sp,R⟩:=st;dsimp only at hm hR;refine aB.pack tbl (aB.pack tbl ?_);refine aB.unpack tbl (.store t n ⟨me,sp,R⟩) 1 0 (dB t n ⟨me,sp,R⟩) [] rfl rfl rfl rfl ?_;refine aB.unpack tbl (.ensure t n ⟨2,sh,dn,x,y⟩) 0 1 (DA t n ⟨2,sh,dn,x,y⟩) [1] rfl rfl rfl rfl ?_;refine aFE t n me sp R sh dn x y s _ ?_;exact⟨⟨⟨rfl,rfl⟩,ht,hn,hc,hR⟩,gL (o:=enF t n ⟨2,sh,dn,x,y⟩ ⟨me,sp,R⟩ s) [0,1,2,3,4,5,6,7,8,9] hK rfl rfl⟩
theorem en3(t n:Int)(e:ENS)(st:STS)(s:MS)(K:AVal→aC Ob→Prop)(hp:e.ph=3)(ok:J7 t n e st s)(hK:(enF t n e st s).left t n K):cT' 154 [.ptr 0 0,.ptr 2 0] (TL t n e st s) K:=by
 obtain⟨ht,hn,hc,hm,hR,ho⟩:=ok;obtain⟨ph,sh,dn,x,y⟩:=e;dsimp only at hp;subst hp;obtain⟨me,sp,R⟩:=st;dsimp only at hm hR;refine aB.pack tbl (aB.pack tbl ?_);refine aB.unpack tbl (.store t n ⟨me,sp,R⟩) 1 0 (dB t n ⟨me,sp,R⟩) [] rfl rfl rfl rfl ?_;refine aB.unpack tbl (.ensure t n ⟨3,sh,dn,x,y⟩) 0 1 (DA t n ⟨3,sh,dn,x,y⟩) [1] rfl rfl rfl rfl ?_;refine aFF t n me sp R sh dn x y s _ ?_;have ho:y.N.length≤1000000∧0≤y.i∧y.i<2*t:=ho;refine⟨⟨⟨rfl,rfl,rfl,rfl,rfl⟩,ht,hn,hc,ho.1,ho.2⟩,?_⟩;unfold enF at hK;dsimp only at hK;cases h1:ieq (y.i+1) (2*t)with
 | false=>
   rw [h1]at hK;exact gL (o:=⟨false,⟨3,sh,dn,x,{y with m:=bA y.m n y.i s,i:=y.i+1}⟩,⟨me,sp,R⟩,s.loadd (bX n y.i)⟩) [0,1,2,3,4,5,6,7,8,9] hK rfl rfl
 | true=>
   rw [h1]at hK;cases h2:ieq ((a8 (bA y.m n y.i s) y.N).length :Int) 0 with
   | true=>
     rw [h2]at hK;exact gL (o:=⟨true,⟨0,true,true,x,y⟩,⟨me,sp,cG (bA y.m n y.i s) y.N⟩,s.loadd (bX n y.i)⟩) [0,1,2,3,10] hK rfl rfl
   | false=>
     rw [h2]at hK;exact gL (o:=⟨false,⟨4,sh,dn,x,⟨0,y.N,bA y.m n y.i s,y.i+1,cG (bA y.m n y.i s) y.N,a8 (bA y.m n y.i s) y.N,a8 (bA y.m n y.i s) y.N,0,(a8 (bA y.m n y.i s) y.N).length⟩⟩,⟨me,sp,R⟩,s.loadd (bX n y.i)⟩) [0,1,2,3,4,5,6,7,10,11,8,9,12,13] hK rfl rfl
theorem en4(t n:Int)(e:ENS)(st:STS)(s:MS)(K:AVal→aC Ob→Prop)(hp:e.ph=4)(ok:J7 t n e st s)(hK:(enF t n e st s).left t n K):cT' 154 [.ptr 0 0,.ptr 2 0] (TL t n e st s) K:=by
 obtain⟨ht,hn,hc,hm,hR,ho⟩:=ok;obtain⟨ph,sh,dn,x,y⟩:=e;dsimp only at hp;subst hp;obtain⟨me,sp,R⟩:=st;dsimp only at hm hR;refine aB.pack tbl (aB.pack tbl ?_);refine aB.unpack tbl (.store t n ⟨me,sp,R⟩) 1 0 (dB t n ⟨me,sp,R⟩) [] rfl rfl rfl rfl ?_;refine aB.unpack tbl (.ensure t n ⟨4,sh,dn,x,y⟩) 0 1 (DA t n ⟨4,sh,dn,x,y⟩) [1] rfl rfl rfl rfl ?_;refine aFG t n me sp R sh dn x y s _ ?_;have ho:2*t≤y.i∧1≤y.l∧y.gs.length=y.j+y.l∧ -1000000≤List.getD y.gs (y.j+Int.toNat 0*1) 0∧List.getD y.gs (y.j+Int.toNat 0*1) 0≤1000000:=ho;refine⟨⟨⟨rfl,rfl,rfl,rfl,rfl,rfl,rfl,rfl,rfl⟩,ht,hn,hc,ho.1,⟨ho.2.1,ho.2.2.1⟩,ho.2.2.2⟩,?_⟩;unfold enF at hK;dsimp only at hK;cases h1:ieq ((y.l - 1:Nat):Int) 0 with
 | false=>
   rw [h1]at hK;exact gL (o:=⟨false,⟨4,sh,dn,x,{y with j:=y.j+1,l:=y.l - 1}⟩,⟨me,sp,R⟩,s.added (b8 n y.gs y.j) 1⟩) [0,1,2,3,4,5,6,7,8,9,10,11,12,13] hK rfl rfl
 | true=>
   rw [h1]at hK;exact gL (o:=⟨ieq (y.fs.length:Int) 0,⟨0,ieq (y.fs.length:Int) 0,true,x,y⟩,⟨me,sp,y.ks⟩,s.added (b8 n y.gs y.j) 1⟩) [0,1,2,3,8] hK rfl rfl
theorem en1(t n:Int)(e:ENS)(st:STS)(s:MS)(K:AVal→aC Ob→Prop)(hp:e.ph=1)(ok:J7 t n e st s)(hK:(enF t n e st s).left t n K):cT' 154 [.ptr 0 0,.ptr 2 0] (TL t n e st s) K:=by
 obtain⟨ht,hn,hc,hm,hR,ho⟩:=ok;obtain⟨ph,sh,dn,x,y⟩:=e;dsimp only at hp;subst hp;obtain⟨me,sp,R⟩:=st;dsimp only at hm hR;refine aB.pack tbl (aB.pack tbl ?_);refine aB.unpack tbl (.store t n ⟨me,sp,R⟩) 1 0 (dB t n ⟨me,sp,R⟩) [] rfl rfl rfl rfl ?_;refine aB.unpack tbl (.ensure t n ⟨1,sh,dn,x,y⟩) 0 1 (DA t n ⟨1,sh,dn,x,y⟩) [1] rfl rfl rfl rfl ?_;refine aFD t n me sp R sh dn x y s _ ?_;have ho:okAl n x:=ho;obtain⟨hg,ha,hl⟩:=ho;refine⟨⟨rfl,ht,hn,ha,hl,hc⟩,?_⟩;obtain⟨got,at',left,found,free⟩:=x;dsimp only at hg ha hl⊢;subst hg;have i0:ieq at' 0=false:=by rw [cL];simp;omega
 have i00:ieq 0 0=true:=rfl;rw [i0,i00];unfold enF rL IU at hK;dsimp only at hK;cases free with
 | false=>
   dsimp only [cond]at hK⊢;cases ho:oddB (aE s.xs (n+4+at'))with
   | false=>
     rw [ho]at hK;exact gL (o:=⟨false,⟨1,sh,dn,⟨0,at',left,aE s.xs (n+4+at'),true⟩,y⟩,⟨me,sp,R⟩,s.loadd (n+4+at')⟩) [0,1,2,3,4,5] hK rfl rfl
   | true=>
     rw [ho]at hK;dsimp only [cond]at hK⊢;cases hw:ile (left - 1) 0 with
     | false=>
       rw [hw]at hK;exact gL (o:=⟨false,⟨1,sh,dn,⟨0,cX n at',left - 1,aE s.xs (n+4+at'),false⟩,y⟩,⟨me,sp,R⟩,s.loadd (n+4+at')⟩) [0,1,2,3,4,5] hK rfl rfl
     | true=>
       rw [hw]at hK;cases dn with
       | true=>exact gL (o:=⟨true,⟨2,true,true,⟨0,cX n at',left - 1,aE s.xs (n+4+at'),false⟩,y⟩,⟨me,0,R⟩,s.loadd (n+4+at')⟩) [0,1,2,3,4,5,6] hK rfl rfl
       | false=>exact gL (o:=⟨ieq (R.length:Int) 0,⟨2,ieq (R.length:Int) 0,false,⟨0,cX n at',left - 1,aE s.xs (n+4+at'),false⟩,y⟩,⟨me,0,R⟩,s.loadd (n+4+at')⟩) [0,1,2,3,4,5,6] hK rfl rfl
 | true=>
   dsimp only [cond]at hK⊢;unfold MS.cased at hK;cases hb:aV s.xs (n+4+at') found with
   | true=>
     rw [hb]at hK;exact gL (o:=⟨true,⟨1,sh,dn,⟨at',at',left,found,true⟩,y⟩,⟨me,at',R⟩,_⟩) [0,1,2,3,4,5] hK rfl rfl
   | false=>
     rw [hb]at hK;dsimp only [cond]at hK⊢;cases hw:ile (left - 1) 0 with
     | false=>
       rw [hw]at hK;exact gL (o:=⟨false,⟨1,sh,dn,⟨0,cX n at',left - 1,found,false⟩,y⟩,⟨me,sp,R⟩,_⟩) [0,1,2,3,4,5] hK rfl rfl
     | true=>
       rw [hw]at hK;cases dn with
       | true=>exact gL (o:=⟨true,⟨2,true,true,⟨0,cX n at',left - 1,found,false⟩,y⟩,⟨me,0,R⟩,_⟩) [0,1,2,3,4,5,6] hK rfl rfl
       | false=>exact gL (o:=⟨ieq (R.length:Int) 0,⟨2,ieq (R.length:Int) 0,false,⟨0,cX n at',left - 1,found,false⟩,y⟩,⟨me,0,R⟩,_⟩) [0,1,2,3,4,5,6] hK rfl rfl
theorem en0(t n:Int)(e:ENS)(st:STS)(s:MS)(K:AVal→aC Ob→Prop)(hp:e.ph=0)(ok:J7 t n e st s)(hK:(enF t n e st s).left t n K):cT' 154 [.ptr 0 0,.ptr 2 0] (TL t n e st s) K:=by
 obtain⟨ht,hn,hc,hm,hR,ho⟩:=ok;obtain⟨ph,sh,dn,x,y⟩:=e;dsimp only at hp;subst hp;obtain⟨me,sp,R⟩:=st;dsimp only at hm hR;refine aB.pack tbl (aB.pack tbl ?_);refine aB.unpack tbl (.store t n ⟨me,sp,R⟩) 1 0 (dB t n ⟨me,sp,R⟩) [] rfl rfl rfl rfl ?_;refine aB.unpack tbl (.ensure t n ⟨0,sh,dn,x,y⟩) 0 1 (DA t n ⟨0,sh,dn,x,y⟩) [1] rfl rfl rfl rfl ?_;refine aFC t n me sp R sh dn x y s _ ?_;unfold enF rL IU at hK;dsimp only at hK;cases hz:ieq sp 0 with
 | false=>
   rw [hz]at hK;exact⟨⟨rfl,by omega⟩,gL (o:=⟨true,⟨0,sh,dn,x,y⟩,⟨me,sp,R⟩,s.loadd 0⟩) [0,1,2,3,4] hK rfl rfl⟩
 | true=>
   rw [hz]at hK
   have ha:1≤at0 t n me∧at0 t n me≤n:=by
    unfold at0 bW;cases h1:(ile 1 (aQ t n me))<;>cases h2:ile (aQ t n me) n<;>simp only [Bool.and_true,Bool.and_false,Bool.and_self,cond_true,cond_false]<;>rw [cC]at h1 h2<;>simp at h1 h2<;>omega
   refine⟨⟨by omega,by omega⟩,⟨trivial,trivial⟩,⟨rfl,ht,hn,ha,by omega,hc⟩,?_⟩
   show cond (oddB (aE s.xs (n+4+at0 t n me))) _ _;cases ho:oddB (aE s.xs (n+4+at0 t n me))with
   | false=>
     rw [ho]at hK;exact gL (o:=⟨false,⟨1,sh,dn,⟨0,at0 t n me,n,aE s.xs (n+4+at0 t n me),true⟩,y⟩,⟨me,sp,R⟩,s.loadd (n+4+at0 t n me)⟩) [0,1,2,3,4,5] hK rfl rfl
   | true=>
     rw [ho]at hK;dsimp only [cond]at hK⊢;cases hw:ile (n - 1) 0 with
     | false=>
       rw [hw]at hK;exact gL (o:=⟨false,⟨1,sh,dn,⟨0,cX n (at0 t n me),n - 1,aE s.xs (n+4+at0 t n me),false⟩,y⟩,⟨me,sp,R⟩,s.loadd (n+4+at0 t n me)⟩) [0,1,2,3,4,5] hK rfl rfl
     | true=>
       rw [hw]at hK;cases dn with
       | true=>exact gL (o:=⟨true,⟨2,true,true,⟨0,cX n (at0 t n me),n - 1,aE s.xs (n+4+at0 t n me),false⟩,y⟩,⟨me,0,R⟩,s.loadd (n+4+at0 t n me)⟩) [0,1,2,3,4,5,6] hK rfl rfl
       | false=>exact gL (o:=⟨ieq (R.length:Int) 0,⟨2,ieq (R.length:Int) 0,false,⟨0,cX n (at0 t n me),n - 1,aE s.xs (n+4+at0 t n me),false⟩,y⟩,⟨me,0,R⟩,s.loadd (n+4+at0 t n me)⟩) [0,1,2,3,4,5,6] hK rfl rfl
theorem GO(t n:Int)(e:ENS)(st:STS)(s:MS)(K:AVal→aC Ob→Prop)(ok:J7 t n e st s)(hK:(enF t n e st s).left t n K):cT' 154 [.ptr 0 0,.ptr 2 0] (TL t n e st s) K:=by
 match h:e.ph with
 | 0=>exact en0 t n e st s K h ok hK
 | 1=>exact en1 t n e st s K h ok hK
 | 2=>exact en2 t n e st s K h ok hK
 | 3=>exact en3 t n e st s K h ok hK
 | 4=>exact en4 t n e st s K h ok hK
 | k+5=>have:=ok.ho;unfold aEJ at this;rw [h]at this;exact this.elim
noncomputable def enS:aH Ob:=fun args h=>match args,h with
 | [.ptr 0 0,.ptr 2 0],[some (.abs (.ensure t n e) [1]),some (.abs (.store t' n' st) []),e1,e2]=>(match cM 3 [e1,e2]with
   | some (l,s)=>some (.pre ((l=s.xs.length∧t'=t∧n'=n)∧J7 t n e st s) (.ret (.bool (enF t n e st s).d) (TL t n (enF t n e st s).e (enF t n e st s).st (enF t n e st s).s)))
   | none=>none)
 | _,_=>none
theorem aDR:aH.ok E42.I Tryz.prog 154 enS:=by
 intro args h o ho K hK;unfold enS at ho;split at ho
 case h_2=>cases ho
 split at ho<;>cases ho
 rename_i hm;obtain⟨⟨⟨hl,ht',hn'⟩,ok⟩,hK⟩:=hK;have hh:=bE hm hl;cases hh;subst ht' hn';exact GO _ _ _ _ _ K ok hK
noncomputable def enE:=E42.addS 154 enS aDR
structure SO where
 d:Bool
 e:SWS
 st:STS
 s:MS
instance:Inhabited SO:=⟨⟨false,bN,⟨0,0,[]⟩,⟨0,0,[],0,0,0,0,0,false⟩⟩⟩
def swF(t n:Int)(y:SWS)(st:STS)(s:MS):SO:=match y.ph with
 | 0=>⟨false,{y with ph:=1,N:=st.R,m:=bA [] n 0 s,i:=1},st,s.loadd (bX n 0)⟩
 | 1=>(match ieq (y.i+1) (2*t),ieq ((a8 (bA y.m n y.i s) y.N).length :Int) 0 with
   | true,true=>⟨true,{y with ph:=3},{st with R:=cG (bA y.m n y.i s) y.N},s.loadd (bX n y.i)⟩
   | true,false=>⟨false,⟨2,y.N,bA y.m n y.i s,y.i+1,cG (bA y.m n y.i s) y.N,a8 (bA y.m n y.i s) y.N,a8 (bA y.m n y.i s) y.N,0,(a8 (bA y.m n y.i s) y.N).length⟩,st,s.loadd (bX n y.i)⟩
   | false,_=>⟨false,{y with m:=bA y.m n y.i s,i:=y.i+1},st,s.loadd (bX n y.i)⟩)
 | _=>(match ieq ((y.l - 1:Nat):Int) 0 with
   | true=>⟨true,{y with ph:=3},{st with R:=y.ks},s.added (b8 n y.gs y.j) 1⟩
   | false=>⟨false,{y with j:=y.j+1,l:=y.l - 1},st,s.added (b8 n y.gs y.j) 1⟩)
def YU(t n:Int)(y:SWS):Prop:=match y.ph with
 | 0=>True
 | 1=>y.N.length≤1000000∧0≤y.i∧y.i<2*t
 | 2=>2*t≤y.i∧1≤y.l∧y.gs.length=y.j+y.l∧ -1000000≤List.getD y.gs (y.j+Int.toNat 0*1) 0∧List.getD y.gs (y.j+Int.toNat 0*1) 0≤1000000
 | _=>False
structure qL (t n:Int) (y:SWS) (st:STS) (s:MS):Prop where
 ht:1≤t∧t≤1000
 hn:1≤n∧n≤1000
 hc:0≤s.c∧s.c≤1000000
 hR:st.R.length≤1000000
 ho:YU t n y
def swH(t n:Int)(y:SWS)(st:STS)(s:MS):aC Ob:=[some (.abs (.sweep t n y) [1]),some (.abs (.store t n st) []),bC 3 s,bD s]
def SO.left(o:SO)(t n:Int)(K:AVal→aC Ob→Prop):Prop:=K (.bool o.d) (swH t n o.e o.st o.s)
theorem xA{K:AVal→aC Ob→Prop}{t n:Int}{o:SO}{g':aC Ob}(pl:List Nat)(hK:o.left t n K)
 (hb:(d0 pl g'.length&&jA pl 0 4&&obOk 1 (K1 t n o.e))=true)
 (hT:gQ pl g'=aL [some (.abs (.sweep t n o.e) [1]),some (.cells [.int .i64 t,.int .i64 n,.int .i64 o.st.me,.int .i64 o.st.sp,.slice 4 0 o.st.R.length 1]),bC 3 o.s,bD o.s,some (.ints (some .i64) o.st.R)] 0 1 (K1 t n o.e) [1]):zC tbl 4 (zC tbl 4 K) (.bool o.d) g':=by
 simp only [Bool.and_eq_true]at hb;obtain⟨⟨b1,b2⟩,b3⟩:=hb;refine⟨pl,_,.sweep t n o.e,0,1,_,[1],?_,hT,rfl,rfl,⟨[0,1,2,3,4],[some (.abs (.sweep t n o.e) [1]),some (.abs (.store t n o.st) []),bC 3 o.s,bD o.s],.store t n o.st,1,0,dB t n o.st,[],rfl,rfl,rfl,rfl,?_⟩⟩
 ·rw [b1,b2,b3];rfl
 ·exact hK
def P8(t n me sp:Int)(R:List Int)(y:SWS)(s:MS)(K:AVal→aC Ob→Prop):Prop:=((lE' s.3∧lE' R)∧((1:Int)≤t∧t≤(1000:Int))∧((1:Int)≤n∧n≤(1000:Int))∧((0:Int)≤s.4∧s.4≤(1000000:Int))∧R.length≤(1000000:Nat))∧K (.bool false) [some (.cells [.ptr 1 0,.ptr 5 0]),some (.cells [.int .i64 t,.int .i64 n,.int .i64 me,.int .i64 sp,.slice 4 0 R.length 1]),some (.cells [.int .i64 s.1,.int .i64 s.2,.slice 3 0 s.3.length 1,.int .i64 (s.4+1),.int .i64 1,.int .i64 (bX n 0),.int .u64 (aE s.3 (bX n 0)),.int .u64 (aE s.3 (bX n 0)),.bool (bT s.3 (bX n 0))]),some (.ints (some .u64) s.3),some (.ints (some .i64) R),some (.cells [.int .i64 t,.int .i64 n,.raw (Value.slice none 0 0),.raw (Value.slice none 0 0),.slice 6 0 R.length 1,.map 7,.int .i64 1,.raw (Value.pointer none)]),some (.ints (some .i64) R),some (.imap .i64 none (bA [] n 0 s))]
theorem aFU(t n me sp:Int)(R:List Int)(y:SWS)(s:MS)(K:AVal→aC Ob→Prop)(hK:P8 t n me sp R y s K):cT' 169 [.ptr 0 0,.ptr 2 0] [some (.cells [.ptr 1 0,.raw (.pointer none)]),some (.cells [.int .i64 t,.int .i64 n,.int .i64 me,.int .i64 sp,.slice 4 0 R.length 1]),bC 3 s,bD s,some (.ints (some .i64) R)] K:=
 (jL oI) _ _ _ (Ev.get (aK (p:=mS swStepS [.ptr 0 0,.ptr 2 0] [some (.cells [.ptr 1 0,.raw (.pointer none)]),some (.cells [.int .i64 t,.int .i64 n,.int .i64 me,.int .i64 sp,.slice 4 0 R.length 1]),bC 3 s,bD s,some (.ints (some .i64) R)] K) (q:=P8 t n me sp R y s K) (by kernel_rfl) hK))
def P9(t n me sp:Int)(R:List Int)(y:SWS)(s:MS)(K:AVal→aC Ob→Prop):Prop:=((lE' s.3∧lE' R∧lE' y.2∧t=t∧n=n)∧((1:Int)≤t∧t≤(1000:Int))∧((1:Int)≤n∧n≤(1000:Int))∧((0:Int)≤s.4∧s.4≤(1000000:Int))∧y.2.length≤(1000000:Nat)∧(0:Int)≤y.4∧y.4<(2:Int)*t)∧bif ieq (y.4+1) (2*t)then bif ieq (↑(List.length (a8 (bA y.3 n y.4 s) y.2)):Int) 0 then K (.bool true) [some (.cells [.ptr 1 0,.ptr 5 0]),some (.cells [.int .i64 t,.int .i64 n,.int .i64 me,.int .i64 sp,.slice 8 0 (List.length (cG (bA y.3 n y.4 s) y.2)) 1]),some (.cells [.int .i64 s.1,.int .i64 s.2,.slice 3 0 s.3.length 1,.int .i64 (s.4+1),.int .i64 1,.int .i64 (bX n y.4),.int .u64 (aE s.3 (bX n y.4)),.int .u64 (aE s.3 (bX n y.4)),.bool (bT s.3 (bX n y.4))]),some (.ints (some .u64) s.3),some (.ints (some .i64) R),some (.cells [.int .i64 t,.int .i64 n,.slice 8 0 (List.length (cG (bA y.3 n y.4 s) y.2)) 1,.slice 9 0 (List.length (a8 (bA y.3 n y.4 s) y.2)) 1,.slice 6 0 y.2.length 1,.map 7,.int .i64 (y.4+1),.ptr 10 0]),some (.ints (some .i64) y.2),some (.imap .i64 none (bA y.3 n y.4 s)),some (.ints (some .i64) (cG (bA y.3 n y.4 s) y.2)),some (.ints (some .i64) (a8 (bA y.3 n y.4 s) y.2)),some (.cells [.int .i64 t,.int .i64 n,.slice 11 0 (List.length (a8 (bA y.3 n y.4 s) y.2)) 1]),some (.ints (some .i64) (a8 (bA y.3 n y.4 s) y.2))]else K (.bool false) [some (.cells [.ptr 1 0,.ptr 5 0]),some (.cells [.int .i64 t,.int .i64 n,.int .i64 me,.int .i64 sp,.slice 4 0 R.length 1]),some (.cells [.int .i64 s.1,.int .i64 s.2,.slice 3 0 s.3.length 1,.int .i64 (s.4+1),.int .i64 1,.int .i64 (bX n y.4),.int .u64 (aE s.3 (bX n y.4)),.int .u64 (aE s.3 (bX n y.4)),.bool (bT s.3 (bX n y.4))]),some (.ints (some .u64) s.3),some (.ints (some .i64) R),some (.cells [.int .i64 t,.int .i64 n,.slice 8 0 (List.length (cG (bA y.3 n y.4 s) y.2)) 1,.slice 9 0 (List.length (a8 (bA y.3 n y.4 s) y.2)) 1,.slice 6 0 y.2.length 1,.map 7,.int .i64 (y.4+1),.ptr 10 0]),some (.ints (some .i64) y.2),some (.imap .i64 none (bA y.3 n y.4 s)),some (.ints (some .i64) (cG (bA y.3 n y.4 s) y.2)),some (.ints (some .i64) (a8 (bA y.3 n y.4 s) y.2)),some (.cells [.int .i64 t,.int .i64 n,.slice 11 0 (List.length (a8 (bA y.3 n y.4 s) y.2)) 1]),some (.ints (some .i64) (a8 (bA y.3 n y.4 s) y.2))]else K (.bool false) [some (.cells [.ptr 1 0,.ptr 5 0]),some (.cells [.int .i64 t,.int .i64 n,.int .i64 me,.int .i64 sp,.slice 4 0 R.length 1]),some (.cells [.int .i64 s.1,.int .i64 s.2,.slice 3 0 s.3.length 1,.int .i64 (s.4+1),.int .i64 1,.int .i64 (bX n y.4),.int .u64 (aE s.3 (bX n y.4)),.int .u64 (aE s.3 (bX n y.4)),.bool (bT s.3 (bX n y.4))]),some (.ints (some .u64) s.3),some (.ints (some .i64) R),some (.cells [.int .i64 t,.int .i64 n,.raw (Value.slice none 0 0),.raw (Value.slice none 0 0),.slice 6 0 y.2.length 1,.map 7,.int .i64 (y.4+1),.raw (Value.pointer none)]),some (.ints (some .i64) y.2),some (.imap .i64 none (bA y.3 n y.4 s))]
theorem aFV(t n me sp:Int)(R:List Int)(y:SWS)(s:MS)(K:AVal→aC Ob→Prop)(hK:P9 t n me sp R y s K):cT' 169 [.ptr 0 0,.ptr 2 0] [some (.cells [.ptr 1 0,.ptr 5 0]),some (.cells [.int .i64 t,.int .i64 n,.int .i64 me,.int .i64 sp,.slice 4 0 R.length 1]),bC 3 s,bD s,some (.ints (some .i64) R),some (.cells [.int .i64 t,.int .i64 n,.raw (.slice none 0 0),.raw (.slice none 0 0),.slice 6 0 y.N.length 1,.map 7,.int .i64 y.i,.raw (.pointer none)]),some (.ints (some .i64) y.N),some (.imap .i64 none y.m)] K:=
 (jL oI) _ _ _ (Ev.get (aK (p:=mS swStepS [.ptr 0 0,.ptr 2 0] [some (.cells [.ptr 1 0,.ptr 5 0]),some (.cells [.int .i64 t,.int .i64 n,.int .i64 me,.int .i64 sp,.slice 4 0 R.length 1]),bC 3 s,bD s,some (.ints (some .i64) R),some (.cells [.int .i64 t,.int .i64 n,.raw (.slice none 0 0),.raw (.slice none 0 0),.slice 6 0 y.N.length 1,.map 7,.int .i64 y.i,.raw (.pointer none)]),some (.ints (some .i64) y.N),some (.imap .i64 none y.m)] K) (q:=P9 t n me sp R y s K) (by kernel_rfl) hK))
def QC(t n me sp:Int)(R:List Int)(y:SWS)(s:MS)(K:AVal→aC Ob→Prop):Prop:=((lE' s.3∧lE' R∧lE' y.5∧lE' y.6∧lE' y.2∧t=t∧n=n∧t=t∧n=n)∧((1:Int)≤t∧t≤(1000:Int))∧((1:Int)≤n∧n≤(1000:Int))∧((0:Int)≤s.4∧s.4≤(1000000:Int))∧2*t≤y.4∧((1:Nat)≤y.9∧y.7.length=y.8+y.9)∧(-1000000:Int)≤List.getD y.7 (y.8+Int.toNat 0*1) 0∧List.getD y.7 (y.8+Int.toNat 0*1) (0:Int)≤(1000000:Int))∧bif ieq (↑(y.9 - 1):Int) 0 then K (.bool true) [some (.cells [.ptr 1 0,.ptr 5 0]),some (.cells [.int .i64 t,.int .i64 n,.int .i64 me,.int .i64 sp,.slice 6 0 y.5.length 1]),some (.cells [.int .i64 s.1,.int .i64 s.2,.slice 3 0 (List.length (aX s.3 (b8 n y.7 y.8) (WU (aE s.3 (b8 n y.7 y.8)+1)))) 1,.int .i64 (s.4+1),.int .i64 4,.int .i64 (b8 n y.7 y.8),.int .u64 (aE s.3 (b8 n y.7 y.8)),.int .u64 (bif bT s.3 (b8 n y.7 y.8)then WU (aE s.3 (b8 n y.7 y.8)+1)else 0),.bool (bT s.3 (b8 n y.7 y.8))]),some (.ints (some .u64) (aX s.3 (b8 n y.7 y.8) (WU (aE s.3 (b8 n y.7 y.8)+1)))),some (.ints (some .i64) R),some (.cells [.int .i64 t,.int .i64 n,.slice 6 0 y.5.length 1,.slice 7 0 y.6.length 1,.slice 8 0 y.2.length 1,.map 9,.int .i64 y.4,.ptr 10 0]),some (.ints (some .i64) y.5),some (.ints (some .i64) y.6),some (.ints (some .i64) y.2),some (.imap .i64 none y.3),some (.cells [.int .i64 t,.int .i64 n,.slice 11 (y.8+1) (y.9 - 1) 1]),some (.ints (some .i64) y.7)]else K (.bool false) [some (.cells [.ptr 1 0,.ptr 5 0]),some (.cells [.int .i64 t,.int .i64 n,.int .i64 me,.int .i64 sp,.slice 4 0 R.length 1]),some (.cells [.int .i64 s.1,.int .i64 s.2,.slice 3 0 (List.length (aX s.3 (b8 n y.7 y.8) (WU (aE s.3 (b8 n y.7 y.8)+1)))) 1,.int .i64 (s.4+1),.int .i64 4,.int .i64 (b8 n y.7 y.8),.int .u64 (aE s.3 (b8 n y.7 y.8)),.int .u64 (bif bT s.3 (b8 n y.7 y.8)then WU (aE s.3 (b8 n y.7 y.8)+1)else 0),.bool (bT s.3 (b8 n y.7 y.8))]),some (.ints (some .u64) (aX s.3 (b8 n y.7 y.8) (WU (aE s.3 (b8 n y.7 y.8)+1)))),some (.ints (some .i64) R),some (.cells [.int .i64 t,.int .i64 n,.slice 6 0 y.5.length 1,.slice 7 0 y.6.length 1,.slice 8 0 y.2.length 1,.map 9,.int .i64 y.4,.ptr 10 0]),some (.ints (some .i64) y.5),some (.ints (some .i64) y.6),some (.ints (some .i64) y.2),some (.imap .i64 none y.3),some (.cells [.int .i64 t,.int .i64 n,.slice 11 (y.8+1) (y.9 - 1) 1]),some (.ints (some .i64) y.7)]
theorem aFW(t n me sp:Int)(R:List Int)(y:SWS)(s:MS)(K:AVal→aC Ob→Prop)(hK:QC t n me sp R y s K):cT' 169 [.ptr 0 0,.ptr 2 0] [some (.cells [.ptr 1 0,.ptr 5 0]),some (.cells [.int .i64 t,.int .i64 n,.int .i64 me,.int .i64 sp,.slice 4 0 R.length 1]),bC 3 s,bD s,some (.ints (some .i64) R),some (.cells [.int .i64 t,.int .i64 n,.slice 6 0 y.ks.length 1,.slice 7 0 y.fs.length 1,.slice 8 0 y.N.length 1,.map 9,.int .i64 y.i,.ptr 10 0]),some (.ints (some .i64) y.ks),some (.ints (some .i64) y.fs),some (.ints (some .i64) y.N),some (.imap .i64 none y.m),some (.cells [.int .i64 t,.int .i64 n,.slice 11 y.j y.l 1]),some (.ints (some .i64) y.gs)] K:=
 (jL oI) _ _ _ (Ev.get (aK (p:=mS swStepS [.ptr 0 0,.ptr 2 0] [some (.cells [.ptr 1 0,.ptr 5 0]),some (.cells [.int .i64 t,.int .i64 n,.int .i64 me,.int .i64 sp,.slice 4 0 R.length 1]),bC 3 s,bD s,some (.ints (some .i64) R),some (.cells [.int .i64 t,.int .i64 n,.slice 6 0 y.ks.length 1,.slice 7 0 y.fs.length 1,.slice 8 0 y.N.length 1,.map 9,.int .i64 y.i,.ptr 10 0]),some (.ints (some .i64) y.ks),some (.ints (some .i64) y.fs),some (.ints (some .i64) y.N),some (.imap .i64 none y.m),some (.cells [.int .i64 t,.int .i64 n,.slice 11 y.j y.l 1]),some (.ints (some .i64) y.gs)] K) (q:=QC t n me sp R y s K) (by kernel_rfl) hK))
theorem wc{x y:Option (aJ Ob)}{g g2:aC Ob}(h:oZ x y)(k:kY g g2):kY (x::g) (y::g2):=⟨h,k⟩
theorem wv{v w:AVal}{vs ws:List AVal}(h:w=v∨w=.O)(k:nV vs ws):nV (v::vs) (w::ws):=⟨h,k⟩
theorem aF0:nV [] []:=trivial
theorem aE3{vs ws:List AVal}(h:nV vs ws):oZ (some (.cells vs):Option (aJ Ob)) (some (.cells ws)):=h
theorem wvs: ∀vs:List AVal,nV vs vs
 | []=>trivial
 | v::vs=>⟨.inl rfl,wvs vs⟩
theorem aE9: ∀x:Option (aJ Ob),oZ x x
 | none=>trivial
 | some (.cells vs)=>wvs vs
 | some (.ints c xs)=>rfl
 | some (.abs t ps)=>rfl
 | some (.tab ks r)=>rfl
 | some (.imap k v m)=>rfl
theorem F9: ∀g:aC Ob,kY g g
 | []=>trivial
 | x::g=>⟨aE9 x,F9 g⟩
theorem tL{K:AVal→aC Ob→Prop}{v:AVal}{g:aC Ob}(h:K v g):LN K v g:=⟨g,F9 g,h⟩
theorem CF{K:AVal→aC Ob→Prop}{v a b:AVal}{g:aC Ob}(h:K v (some (.cells [a,.O])::g)):LN K v (some (.cells [a,b])::g):=⟨_,wc (aE3 (wv (.inl rfl) (wv (.inr rfl) aF0))) (F9 g),h⟩
theorem sw0(t n:Int)(y:SWS)(st:STS)(s:MS)(K:AVal→aC Ob→Prop)(hp:y.ph=0)(ok:qL t n y st s)(hK:(swF t n y st s).left t n K):cT' 169 [.ptr 0 0,.ptr 2 0] (swH t n y st s) K:=by
 obtain⟨ht,hn,hc,hR,ho⟩:=ok;obtain⟨ph,N,m,i,ks,fs,gs,j,l⟩:=y;dsimp only at hp;subst hp;obtain⟨me,sp,R⟩:=st;dsimp only at hR;refine aB.pack tbl (aB.pack tbl (aB.less ?_));refine aB.unpack tbl (.store t n ⟨me,sp,R⟩) 1 0 (dB t n ⟨me,sp,R⟩) [] rfl rfl rfl rfl ?_;refine aB.unpack tbl (.sweep t n ⟨0,N,m,i,ks,fs,gs,j,l⟩) 0 1 (K1 t n ⟨0,N,m,i,ks,fs,gs,j,l⟩) [1] rfl rfl rfl rfl ?_;refine aFU t n me sp R ⟨0,N,m,i,ks,fs,gs,j,l⟩ s _ ?_;unfold P8;exact⟨⟨⟨rfl,rfl⟩,ht,hn,hc,hR⟩,tL (xA (o:=swF t n ⟨0,N,m,i,ks,fs,gs,j,l⟩ ⟨me,sp,R⟩ s) [0,1,2,3,4,5,6,7] hK rfl rfl)⟩
theorem sw1(t n:Int)(y:SWS)(st:STS)(s:MS)(K:AVal→aC Ob→Prop)(hp:y.ph=1)(ok:qL t n y st s)(hK:(swF t n y st s).left t n K):cT' 169 [.ptr 0 0,.ptr 2 0] (swH t n y st s) K:=by
 obtain⟨ht,hn,hc,hR,ho⟩:=ok;obtain⟨ph,N,m,i,ks,fs,gs,j,l⟩:=y;dsimp only at hp;subst hp;obtain⟨me,sp,R⟩:=st;dsimp only at hR;refine aB.pack tbl (aB.pack tbl (aB.less ?_));refine aB.unpack tbl (.store t n ⟨me,sp,R⟩) 1 0 (dB t n ⟨me,sp,R⟩) [] rfl rfl rfl rfl ?_;refine aB.unpack tbl (.sweep t n ⟨1,N,m,i,ks,fs,gs,j,l⟩) 0 1 (K1 t n ⟨1,N,m,i,ks,fs,gs,j,l⟩) [1] rfl rfl rfl rfl ?_;refine aFV t n me sp R ⟨1,N,m,i,ks,fs,gs,j,l⟩ s _ ?_;unfold P9;have ho:N.length≤1000000∧0≤i∧i<2*t:=ho;refine⟨⟨⟨rfl,rfl,rfl,rfl,rfl⟩,ht,hn,hc,ho.1,ho.2⟩,?_⟩;unfold swF at hK;dsimp only at hK⊢;cases h1:ieq (i+1) (2*t)with
 | false=>
   rw [h1]at hK;exact tL (xA (o:=⟨false,⟨1,N,bA m n i s,i+1,ks,fs,gs,j,l⟩,⟨me,sp,R⟩,s.loadd (bX n i)⟩) [0,1,2,3,4,5,6,7] hK rfl rfl)
 | true=>
   rw [h1]at hK;cases h2:ieq ((a8 (bA m n i s) N).length :Int) 0 with
   | true=>
     rw [h2]at hK;exact CF (xA (o:=⟨true,⟨3,N,m,i,ks,fs,gs,j,l⟩,⟨me,sp,cG (bA m n i s) N⟩,s.loadd (bX n i)⟩) [0,1,2,3,8] hK rfl rfl)
   | false=>
     rw [h2]at hK;exact tL (xA (o:=⟨false,⟨2,N,bA m n i s,i+1,cG (bA m n i s) N,a8 (bA m n i s) N,a8 (bA m n i s) N,0,(a8 (bA m n i s) N).length⟩,⟨me,sp,R⟩,s.loadd (bX n i)⟩) [0,1,2,3,4,5,8,9,6,7,10,11] hK rfl rfl)
theorem sw2(t n:Int)(y:SWS)(st:STS)(s:MS)(K:AVal→aC Ob→Prop)(hp:y.ph=2)(ok:qL t n y st s)(hK:(swF t n y st s).left t n K):cT' 169 [.ptr 0 0,.ptr 2 0] (swH t n y st s) K:=by
 obtain⟨ht,hn,hc,hR,ho⟩:=ok;obtain⟨ph,N,m,i,ks,fs,gs,j,l⟩:=y;dsimp only at hp;subst hp;obtain⟨me,sp,R⟩:=st;dsimp only at hR;refine aB.pack tbl (aB.pack tbl (aB.less ?_));refine aB.unpack tbl (.store t n ⟨me,sp,R⟩) 1 0 (dB t n ⟨me,sp,R⟩) [] rfl rfl rfl rfl ?_;refine aB.unpack tbl (.sweep t n ⟨2,N,m,i,ks,fs,gs,j,l⟩) 0 1 (K1 t n ⟨2,N,m,i,ks,fs,gs,j,l⟩) [1] rfl rfl rfl rfl ?_;refine aFW t n me sp R ⟨2,N,m,i,ks,fs,gs,j,l⟩ s _ ?_;unfold QC;have ho:2*t≤i∧1≤l∧gs.length=j+l∧ -1000000≤List.getD gs (j+Int.toNat 0*1) 0∧List.getD gs (j+Int.toNat 0*1) 0≤1000000:=ho;refine⟨⟨⟨rfl,rfl,rfl,rfl,rfl,rfl,rfl,rfl,rfl⟩,ht,hn,hc,ho.1,⟨ho.2.1,ho.2.2.1⟩,ho.2.2.2⟩,?_⟩;unfold swF at hK;dsimp only at hK⊢;cases h1:ieq ((l - 1:Nat):Int) 0 with
 | false=>
   rw [h1]at hK;exact tL (xA (o:=⟨false,⟨2,N,m,i,ks,fs,gs,j+1,l - 1⟩,⟨me,sp,R⟩,s.added (b8 n gs j) 1⟩) [0,1,2,3,4,5,6,7,8,9,10,11] hK rfl rfl)
 | true=>
   rw [h1]at hK;exact CF (xA (o:=⟨true,⟨3,N,m,i,ks,fs,gs,j,l⟩,⟨me,sp,ks⟩,s.added (b8 n gs j) 1⟩) [0,1,2,3,6] hK rfl rfl)
theorem XE(t n:Int)(y:SWS)(st:STS)(s:MS)(K:AVal→aC Ob→Prop)(ok:qL t n y st s)(hK:(swF t n y st s).left t n K):cT' 169 [.ptr 0 0,.ptr 2 0] (swH t n y st s) K:=by
 match h:y.ph with
 | 0=>exact sw0 t n y st s K h ok hK
 | 1=>exact sw1 t n y st s K h ok hK
 | 2=>exact sw2 t n y st s K h ok hK
 | k+3=>have:=ok.ho;unfold YU at this;rw [h]at this;exact this.elim
theorem fE{I:Itp Ob}{n:Nat}{K:AVal→aC Ob→Prop}{d:Bool}{a b g:aC Ob}(hK:(Out.ite d (.ret (.bool true) a) (.ret (.bool false) b)).run K)(h1:K (.bool true) a→dS I n K (.bool true) g)(h2:d=false→K (.bool false) b→dS I n K (.bool false) g):dS I n K (.bool d) g:=by
 cases d with
 | true=>exact h1 hK
 | false=>exact h2 rfl hK
abbrev hJ(l:Nat)(t n:Int)(st:STS):Option (aJ Mc):=some (.cells [.I t,.I n,.I st.me,.I st.sp,.slice l 0 st.R.length 1])
abbrev hM(st:STS):Option (aJ Mc):=some (.ints (some .i64) st.R)
def lH(w:Nat)(h:aC Ob):Option (Nat×Int×Int×STS):=match h with
 | [some (.cells [.int .i64 t,.int .i64 n,.int .i64 me,.int .i64 sp,.slice l 0 len 1]),some (.ints (some .i64) xs)]=>if l=w then some (len,t,n,⟨me,sp,xs⟩)else none
 | _=>none
theorem cE{w:Nat}{h:aC Ob}{l:Nat}{t n:Int}{st:STS}(e:lH w h=some (l,t,n,st))(hl:l=st.R.length):h=[hJ w t n st,hM st]:=by
 unfold lH at e;split at e
 ·split at e
  ·rename_i hw;simp only [sI',pI']at e;obtain⟨rfl,rfl,rfl,rfl⟩:=e;subst hw;simp only at hl;subst hl;rfl
  ·cases e
 ·cases e
theorem jS{f:FuncId}{t n:Int}{st st':STS}{s s':MS}{M:Mc}{e1 e2:aJ Mc}{d:Bool}(h1: ∀ι:Nat→Nat,ι 1=1→e1.ren ι=e1)(h2: ∀ι:Nat→Nat,ι 1=1→e2.ren ι=e2)
 (hA: ∀K,(Out.ite d (.ret (.bool true) [some e1,some (.abs (.store t n st') []),bC 3 s',bD s']) (.ret (.bool false) [some e2,some (.abs (.store t n st') []),bC 3 s',bD s'])).run K→cT' f [.ptr 0 0,.ptr 2 0] [some (.abs M [1]),some (.abs (.store t n st) []),bC 3 s,bD s] K)
 (K:AVal→aC Ob→Prop) (hK:(Out.ite d (.ret (.bool true) [some e1,hJ 5 t n st',none,bC 4 s',bD s',hM st']) (.ret (.bool false) [some e2,hJ 5 t n st',none,bC 4 s',bD s',hM st'])).run K):
 cT' f [.ptr 0 0,.ptr 3 0] [some (.abs M [1]),hJ 2 t n st,hM st,bC 4 s,bD s] K:=by
 refine aG8 ?_;refine aHv (h0:=[some (.abs M [1]),hJ 4 t n st,bC 3 s,bD s,hM st]) (args0:=[.ptr 0 0,.ptr 2 0]) (K0:=fun v g=>dS (obI tbl) 5 K (v.ren (iota [0,1,3,4,2] 5)) (oU [some (.abs M [1]),hJ 2 t n st,hM st,bC 4 s,bD s] [0,1,3,4,2] g)) ?_ [0,1,3,4,2] rfl (by decide) (by intro l hl;simp at hl⊢;omega) ?_ rfl (fun v g hk _=>hk)
 ·refine aB.shut tbl [some (.abs M [1]),some (.abs (.store t n st) []),bC 3 s,bD s] (.store t n st) 1 0 (dB t n st) [] (by kernel_rfl) rfl rfl (by kernel_rfl) (hA _ ?_)
  have i1:farI 4 1 1=1:=rfl;have i2:iota [0,1,3,4,2] 5 1=1:=rfl;cases d with
  | true=>
    have q1:((e1.ren (farI 4 1)).ren (iota [0,1,3,4,2] 5))=e1:=by rw [h1 _ i1,h1 _ i2]
    refine⟨_,_,aF.trans (aG0 (g2:=[some e1,some (.abs (.store t n st') []),none,bC 4 s',bD s']) (by kernel_rfl) ?_) (aF.unpack (.store t n st') 1 0 (dB t n st') [] rfl rfl rfl rfl),hK⟩
    show [some ((e1.ren (farI 4 1)).ren (iota [0,1,3,4,2] 5)),_,_,_,_]=_;rw [q1];rfl
  | false=>
    have q2:((e2.ren (farI 4 1)).ren (iota [0,1,3,4,2] 5))=e2:=by rw [h2 _ i1,h2 _ i2]
    refine⟨_,_,aF.trans (aG0 (g2:=[some e2,some (.abs (.store t n st') []),none,bC 4 s',bD s']) (by kernel_rfl) ?_) (aF.unpack (.store t n st') 1 0 (dB t n st') [] rfl rfl rfl rfl),hK⟩
    show [some ((e2.ren (farI 4 1)).ren (iota [0,1,3,4,2] 5)),_,_,_,_]=_;rw [q2];rfl
 ·intro i l hi
  match i,hi with
  | 0,hi=>cases hi;rfl
  | 1,hi=>cases hi;rfl
  | 2,hi=>cases hi;rfl
  | 3,hi=>cases hi;rfl
  | 4,hi=>cases hi;rfl
  | _+5,hi=>cases hi
def fY(kd:Int):Bool:=ieq kd 1||ieq kd 4
def oV(sh kd:Int):Bool:=ieq kd 5&&ieq sh 4
def uL(sh kd:Int):Bool:=ieq kd 2||ieq kd 5&&ieq sh 3
def gY(ky curr cw:Int):Bool:=bif ieq curr 0 then false else ieq (aA cw 0 10) ky
def fD(sh ky:Int):Int:=bif ieq sh 2 then ky%4 else 0
def l6(sh kd ky:Int):Int:=bif ieq sh 2 then ky else bif ieq sh 1 then ky else bif ieq sh 3 then(bif fY kd then 1024 else -1)else -1
def OE:bH Ob:=fun args h=>match args,h with
 | [.agg [.int .i64 t,.int .i64 n],.int .i64 a],[]=>some ((0≤n∧n≤100000)∧(-1000000≤a∧a≤1000000),.I (n+1+a))
 | _,_=>none
theorem VJ:sT' 112 OE.spec:=by
 intro args h o ho K hK;unfold bH.spec OE at ho;split at ho
 case h_2=>cases ho
 rename_i p v hp;split at hp
 case h_2=>cases hp
 rename_i t n a;simp only [sI',pI']at hp;obtain⟨rfl,rfl⟩:=hp;simp only [sI']at ho;subst ho;obtain⟨hp,hK⟩:=hK;have hK:K (.I (n+1+a)) []:=hK;refine aGU (cM' (E:=enE) (q:=K (.I (W (W (1+n)+a))) []) (by kernel_rfl) ?_)
 simp(disch:=omega) only [W,cW]
 refine cast (congrArg (fun z=>K (AVal.int .i64 z) []) ?_) hK;omega
def F7:bH Ob:=fun args h=>match args,h with
 | [.agg [.int .i64 k,.int .i64 y,.bool m,.int .i64 c,.int .i64 v]],[]=>some (0≤v∧v≤1000000,.agg [.I k,.I y,.bool m,.I 0,.I (aT v)])
 | _,_=>none
theorem QV:sT' 264 F7.spec:=by
 intro args h o ho K hK;unfold bH.spec F7 at ho;split at ho
 case h_2=>cases ho
 rename_i p v hp;split at hp
 case h_2=>cases hp
 rename_i k y m c v;simp only [sI',pI']at hp;obtain⟨rfl,rfl⟩:=hp;simp only [sI']at ho;subst ho;obtain⟨hp,hK⟩:=hK;have hK:K (.agg [.I k,.I y,.bool m,.I 0,.I (aT v)]) []:=hK;refine aGU (cM' (E:=enE) (q:=K (.agg [.I k,.I y,.bool m,.I 0,.I (W (↑(BitVec.toNat (BitVec.ofInt (IntKind.bits .i64) (W (v+1))&&&BitVec.ofInt (IntKind.bits .i64) 262143)):Int))]) []) (by kernel_rfl) ?_)
 refine cast (congrArg (fun z=>K (.agg [.I k,.I y,.bool m,.I 0,.I z]) []) ?_) hK;show aT v=_;have hb:IntKind.bits .i64 =64:=rfl;simp only [W];rw [hb,cW (x:=v+1) (by omega)]
 have:=jV (n:=64) (w:=18) (v+1) (by omega)
 have e:(2:Int)^18 - 1=262143:=by decide
 rw [e]at this;rw [this];have e2:(2:Int)^18=262144:=by decide
 rw [e2,cW (by omega)]
 rfl
def y0:bH Ob:=fun args h=>match args,h with
 | [.agg [.int .i64 k,.int .i64 y,.bool m,.int .i64 c,.int .i64 v],.int .i64 b,.int .i64 x,.bool q],[]=>some (-1000000≤b∧b≤1000000,.agg [.I k,.I x,.bool q,.I (b+1),.I v])
 | _,_=>none
theorem LB:sT' 268 y0.spec:=by
 intro args h o ho K hK;unfold bH.spec y0 at ho;split at ho
 case h_2=>cases ho
 rename_i p v hp;split at hp
 case h_2=>cases hp
 rename_i k y m c v b x q;simp only [sI',pI']at hp;obtain⟨rfl,rfl⟩:=hp;simp only [sI']at ho;subst ho;obtain⟨hp,hK⟩:=hK;have hK:K (.agg [.I k,.I x,.bool q,.I (b+1),.I v]) []:=hK;refine aGU (cM' (E:=enE) (q:=K (.agg [.I k,.I x,.bool q,.I (W (b+1)),.I v]) []) (by kernel_rfl) ?_)
 rw [xJ (by omega)]
 exact hK
def yT:bH Ob:=fun args h=>match args,h with
 | [.agg [.int .i64 sh,.int .i64 kd,.int .i64 ky]],[]=>some (True,.bool (fY kd))
 | _,_=>none
theorem K4:sT' 203 yT.spec:=by
 intro args h o ho K hK;unfold bH.spec yT at ho;split at ho
 case h_2=>cases ho
 rename_i p v hp;split at hp
 case h_2=>cases hp
 rename_i sh kd ky;simp only [sI',pI']at hp;obtain⟨rfl,rfl⟩:=hp;simp only [sI']at ho;subst ho;obtain⟨hp,hK⟩:=hK;have hK:K (.bool (fY kd)) []:=hK;refine aGU (cM' (E:=enE) (q:=bif ieq kd 1 then K (.bool true) []else K (.bool (ieq kd 4)) []) (by kernel_rfl) ?_)
 unfold fY at hK;cases h:ieq kd 1<;>rw [h]at hK<;>exact hK
def F6:bH Ob:=fun args h=>match args,h with
 | [.agg [.int .i64 sh,.int .i64 kd,.int .i64 ky]],[]=>some (True,.bool (oV sh kd))
 | _,_=>none
theorem QK:sT' 285 F6.spec:=by
 intro args h o ho K hK;unfold bH.spec F6 at ho;split at ho
 case h_2=>cases ho
 rename_i p v hp;split at hp
 case h_2=>cases hp
 rename_i sh kd ky;simp only [sI',pI']at hp;obtain⟨rfl,rfl⟩:=hp;simp only [sI']at ho;subst ho;obtain⟨hp,hK⟩:=hK;have hK:K (.bool (oV sh kd)) []:=hK;refine aGU (cM' (E:=enE) (q:=bif ieq kd 5 then K (.bool (ieq sh 4)) []else K (.bool false) []) (by kernel_rfl) ?_)
 unfold oV at hK;cases h:ieq kd 5<;>rw [h]at hK<;>exact hK
def yU:bH Ob:=fun args h=>match args,h with
 | [.agg [.int .i64 sh,.int .i64 kd,.int .i64 ky]],[]=>some (True,.bool (uL sh kd))
 | _,_=>none
theorem K5:sT' 225 yU.spec:=by
 intro args h o ho K hK;unfold bH.spec yU at ho;split at ho
 case h_2=>cases ho
 rename_i p v hp;split at hp
 case h_2=>cases hp
 rename_i sh kd ky;simp only [sI',pI']at hp;obtain⟨rfl,rfl⟩:=hp;simp only [sI']at ho;subst ho;obtain⟨hp,hK⟩:=hK;have hK:K (.bool (uL sh kd)) []:=hK;refine aGU (cM' (E:=enE) (q:=bif ieq kd 2 then K (.bool true) []else bif ieq kd 5 then K (.bool (ieq sh 3)) []else K (.bool false) []) (by kernel_rfl) ?_)
 unfold uL at hK;cases h:ieq kd 2<;>cases h2:ieq kd 5<;>rw [h]at hK<;>rw [h2]at hK<;>exact hK
noncomputable def hasCS:aH Ob:=tY [(.slot 0,.ints (some .i64))] US.spec
theorem UR:sT' 138 hasCS:=zU NY
noncomputable def EB0:=((((((enE.addS 138 hasCS UR).addR 112 OE VJ).addR 264 F7 QV).addR 268 y0 LB).addR 203 yT K4).addR 285 F6 QK).addR 225 yU K5
def isS:aH Ob:=fun args h=>match args,h with
 | [.agg [.int .i64 a,.int .i64 b,.int .i64 c,.int .i64 d,.bool m,.int .i64 e,.int .i64 f],.slice 0 0 1 1],[some (.cells [.int .i64 s])]=>some (.ret (.bool (hasB [s] e)) [some (.ints (some .i64) [s])])
 | _,_=>none
theorem aEv:sT' 243 isS:=by
 intro args h o ho K hK;unfold isS at ho;split at ho<;>cases ho
 rename_i a b c d m e f s;have hK:K (.bool (hasB [s] e)) [some (.ints (some .i64) [s])]:=hK;refine aGU (cM' (E:=EB0) (q:=(1=1∧(1:Nat)≤(4294967296:Nat))∧K (.bool (hasB [s] e)) [some (.ints (some .i64) [s])]) (by kernel_rfl) ?_)
 exact⟨⟨rfl,by omega⟩,hK⟩
noncomputable def EB0b:=EB0.addS 243 isS aEv
def ME:bH Ob:=fun args h=>match args,h with
 | [.int .u64 x],[]=>some (True,.I (aA x 20 5 - 1))
 | _,_=>none
theorem SM:sT' 260 ME.spec:=by
 intro args h o ho K hK;unfold bH.spec ME at ho;split at ho
 case h_2=>cases ho
 rename_i p v hp;split at hp
 case h_2=>cases hp
 rename_i x;simp only [sI',pI']at hp;obtain⟨rfl,rfl⟩:=hp;simp only [sI']at ho;subst ho;obtain⟨hp,hK⟩:=hK;have hK:K (.I (aA x 20 5 - 1)) []:=hK;refine aGU (cM' (E:=EB0b) (q:=True∧K (.I (W (aA x 20 5 - 1))) []) (by kernel_rfl) ?_)
 have hb:0≤aA x 20 5∧aA x 20 5<32:=by
  unfold aA;have e:(2:Int)^(5:Int).toNat =32:=by decide
  rw [e];exact⟨Int.emod_nonneg _ (by decide),Int.emod_lt_of_pos _ (by decide)⟩
 have e1:W (aA x 20 5 - 1)=aA x 20 5 - 1:=cW (by omega)
 rw [e1];exact⟨trivial,hK⟩
def D6:bH Ob:=fun args h=>match args,h with
 | [.agg [.int .i64 a,.int .i64 b,.int .i64 c,.int .i64 d,.bool m,.int .i64 e,.int .i64 f],.int .i64 g],[]=>some (True,.agg [.I a,.I b,.I c,.I d,.bool m,.I g,.I f])
 | _,_=>none
theorem MN:sT' 262 D6.spec:=by
 intro args h o ho K hK;unfold bH.spec D6 at ho;split at ho
 case h_2=>cases ho
 rename_i p v hp;split at hp
 case h_2=>cases hp
 rename_i a b c d m e f g;simp only [sI',pI']at hp;obtain⟨rfl,rfl⟩:=hp;simp only [sI']at ho;subst ho;obtain⟨hp,hK⟩:=hK;have hK:K (.agg [.I a,.I b,.I c,.I d,.bool m,.I g,.I f]) []:=hK;refine aGU (cM' (E:=EB0b) (q:=K (.agg [.I a,.I b,.I c,.I d,.bool m,.I g,.I f]) []) (by kernel_rfl) ?_)
 exact hK
noncomputable def EB0c:=(EB0b.addR 260 ME SM).addR 262 D6 MN
def yX:bH Ob:=fun args h=>match args,h with
 | [.agg [.int .i64 sh,.int .i64 kd,.int .i64 ky]],[]=>some (True,.agg [.I (fD sh ky),.I (l6 sh kd ky)])
 | _,_=>none
theorem K8:sT' 226 yX.spec:=by
 intro args h o ho K hK;unfold bH.spec yX at ho;split at ho
 case h_2=>cases ho
 rename_i p v hp;split at hp
 case h_2=>cases hp
 rename_i sh kd ky;simp only [sI',pI']at hp;obtain⟨rfl,rfl⟩:=hp;simp only [sI']at ho;subst ho;obtain⟨hp,hK⟩:=hK;have hK:K (.agg [.I (fD sh ky),.I (l6 sh kd ky)]) []:=hK;refine aGU (cM' (E:=EB0c) (q:=bif ieq sh 2 then K (.agg [.I (W (↑(BitVec.toNat (BitVec.ofInt (IntKind.bits .i64) ky&&&BitVec.ofInt (IntKind.bits .i64) 3)):Int)),.I ky]) []else bif ieq sh 1 then K (.agg [.I 0,.I ky]) []else bif ieq sh 2 then K (.agg [.I 0,.I ky]) []else bif ieq sh 3 then True∧bif fY kd then K (.agg [.I 0,.I 1024]) []else K (.agg [.I 0,.I (-1:Int)]) []else K (.agg [.I 0,.I (-1:Int)]) []) (by kernel_rfl) ?_)
 have e4:W (((BitVec.ofInt (IntKind.bits .i64) ky&&&BitVec.ofInt (IntKind.bits .i64) 3).toNat :Nat):Int)=ky%4:=by
  have hb:IntKind.bits .i64 =64:=rfl;rw [hb];have:=jV (n:=64) (w:=2) ky (by omega)
  have e:(2:Int)^2 - 1=3:=by decide
  rw [e]at this;rw [this];have e2:(2:Int)^2=4:=by decide
  rw [e2];exact cW (by omega)
 unfold fD l6 at hK;refine aI (fun e=>?_) (fun e=>aI (fun e1=>?_) (fun e1=>aI (fun e2=>?_) (fun e2=>aI (fun e3=>⟨trivial,aI (fun e5=>?_) (fun e5=>?_)⟩) (fun e3=>?_))))
 ·rw [e]at hK;rw [e4];exact hK
 ·rw [e,e1]at hK;exact hK
 ·rw [e]at e2;cases e2
 ·rw [e,e1,e3,e5]at hK;exact hK
 ·rw [e,e1,e3,e5]at hK;exact hK
 ·rw [e,e1,e3]at hK;exact hK
def yD:bH Ob:=fun args h=>match args,h with
 | [.agg [.int .i64 sh,.int .i64 kd,.int .i64 ky,.int .i64 pred,.int .u64 pw,.int .i64 curr,.int .u64 cw]],[]=>some (True,.bool (gY ky curr cw))
 | _,_=>none
theorem KC:sT' 287 yD.spec:=by
 intro args h o ho K hK;unfold bH.spec yD at ho;split at ho
 case h_2=>cases ho
 rename_i p v hp;split at hp
 case h_2=>cases hp
 rename_i sh kd ky pred pw curr cw;simp only [sI',pI']at hp;obtain⟨rfl,rfl⟩:=hp;simp only [sI']at ho;subst ho;obtain⟨hp,hK⟩:=hK;have hK:K (.bool (gY ky curr cw)) []:=hK;refine aGU (cM' (E:=EB0c) (q:=bif !ieq curr 0 then True∧K (.bool (ieq (aA cw 0 10) ky)) []else K (.bool false) []) (by kernel_rfl) ?_)
 unfold gY at hK;cases h:ieq curr 0 with
 | true=>rw [h]at hK;exact hK
 | false=>rw [h]at hK;exact⟨trivial,hK⟩
noncomputable def EB1:=(EB0c.addR 226 yX K8).addR 287 yD KC
def YW(v:AVal)(g:aC Ob):Option (Prop×PLN):=match v,g with
 | .agg [.bool now,.int .i64 code,.bool okk,.int .i64 val,.int .i64 addr,.int .u64 old,.int .i64 nxt,.bool mark,.int .i64 pops],[]=>some (True,⟨now,code,okk,val,addr,old,nxt,mark,pops⟩)
 | _,_=>none
def PB(y:PLN):AVal:=.agg [.bool y.now,.I y.code,.bool y.okk,.I y.val,.I y.addr,.int .u64 y.old,.I y.nxt,.bool y.mark,.I y.pops]
theorem PA:bV (obI tbl) 0 YW (fun y=>.ret (PB y) []):=by
 intro v g p x hp hq K hK;unfold YW at hp;split at hp
 case h_2=>cases hp
 simp only [sI',pI']at hp;obtain⟨rfl,rfl⟩:=hp;exact⟨⟨_,_,aG6 _ _ _,hK⟩⟩
abbrev w02:Tr (PLN):=.pre True (.ret {now:=true,code:=0,okk:=false,val:=0,addr:=0,old:=0,nxt:=0,mark:=false,pops:=0})
abbrev w00(curr cw kd ky pred pw sh:Int):Tr (PLN):=.ite (ieq kd 5) (.ite (ieq curr 0) w02 (.pre True (.pre True (.ite (oV sh kd) (.pre True (.pre True (.pre True (.ret {now:=false,code:=0,okk:=true,val:=aA cw 0 10,addr:=pred,old:=pw,nxt:=aA cw 10 9,mark:=ieq (aA pw 19 1) 1,pops:=curr})))) (.pre True (.pre True (.ret {now:=false,code:=0,okk:=true,val:=aA cw 0 10,addr:=curr,old:=cw,nxt:=aA cw 10 9,mark:=true,pops:=0}))))))) (.ite (ieq kd 3) (.pre True (.pre True (.ret {now:=true,code:=0,okk:=gY ky curr cw,val:=0,addr:=0,old:=0,nxt:=0,mark:=false,pops:=0}))) w02)
abbrev w01(curr cw:Int):Tr (PLN):=.pre True (.pre True (.ret {now:=false,code:=0,okk:=true,val:=0,addr:=curr,old:=cw,nxt:=aA cw 10 9,mark:=true,pops:=0}))
abbrev w03(pred pw spare:Int):Tr (PLN):=.pre True (.pre True (.ret {now:=false,code:=0,okk:=true,val:=0,addr:=pred,old:=pw,nxt:=spare,mark:=ieq (aA pw 19 1) 1,pops:=0}))
def CP(sh kd ky pred pw curr cw spare:Int):Tr (PLN):=.pre True (.ite (!b9 sh kd ky) (.pre True (.ret {now:=true,code:=1,okk:=false,val:=0,addr:=0,old:=0,nxt:=0,mark:=false,pops:=0})) (.ite (ieq kd 4) (.ite (ieq kd 4) (w03 pred pw spare) (.ite (ieq kd 2) (.pre True (.ite (gY ky curr cw) (w01 curr cw) (w00 curr cw kd ky pred pw sh))) (w00 curr cw kd ky pred pw sh))) (.ite (ieq kd 1) (.pre True (.ite (!gY ky curr cw) (w03 pred pw spare) (.ite (ieq kd 2) (.pre True (.ite (gY ky curr cw) (w01 curr cw) (w00 curr cw kd ky pred pw sh))) (w00 curr cw kd ky pred pw sh)))) (.ite (ieq kd 2) (.pre True (.ite (gY ky curr cw) (w01 curr cw) (w00 curr cw kd ky pred pw sh))) (w00 curr cw kd ky pred pw sh)))))
def bM(sh kd ky pred pw curr cw spare:Int):PLN:=(CP sh kd ky pred pw curr cw spare).val
def uY(sh kd ky pred pw curr cw spare:Int):Prop:=(CP sh kd ky pred pw curr cw spare).ok
def planS:aH Ob:=fun args h=>match args,h with
 | [.agg [.int .i64 sh,.int .i64 kd,.int .i64 ky],.agg [.int .i64 pred,.int .u64 pw,.int .i64 curr,.int .u64 cw],.int .i64 spare],[]=>some (.pre (uY sh kd ky pred pw curr cw spare) (.ret (PB (bM sh kd ky pred pw curr cw spare)) []))
 | _,_=>none
theorem WH:sT' 256 planS:=by
 intro args h o ho K hK;unfold planS at ho;split at ho<;>cases ho
 rename_i sh kd ky pred pw curr cw spare;obtain⟨ok,hK⟩:=hK;refine aG7 (root:=0) (pos:=[]) (cs:=[]) PA ?_;exact cM' (E:=EB1) (q:=(CP sh kd ky pred pw curr cw spare).run (fun y=>(Out.ret (PB y) []).run K)) (by kernel_rfl) (aG1 ok hK)
def PC(v:AVal)(g:aC Ob):Option (Prop×Int):=match v,g with
 | .int .u64 x,[]=>some (True,x)
 | _,_=>none
def FJ(y:Int):AVal:=.int .u64 y
theorem KH:bV (obI tbl) 0 PC (fun y=>.ret (FJ y) []):=by
 intro v g p x hp hq K hK;unfold PC at hp;split at hp
 case h_2=>cases hp
 simp only [sI',pI']at hp;obtain⟨rfl,rfl⟩:=hp;exact⟨⟨_,_,aG6 _ _ _,hK⟩⟩
def uZ(now:Bool)(code:Int)(okk:Bool)(val:Int)(addr:Int)(old:Int)(nxt:Int)(mark:Bool)(pops:Int):Tr (Int):=.ite now (.pre True (.ret 0)) (.pre True (.pre ((-1000000:Int)≤(0:Int)∧(0:Int)≤(1000000:Int)) (.pre ((0:Int)≤aA old 25 18∧aA old 25 (18:Int)≤(1000000:Int)) (.pre True (.pre True (.ret (bif bif aM (aA old 0 10) 10 then bif aM nxt 9 then bif aM 0 5 then aM (aT (aA old 25 18)) 18 else false else false else false then cK (aA old 0 10) nxt mark 0 (aT (aA old 25 18))else 0)))))))
def dJ(now:Bool)(code:Int)(okk:Bool)(val:Int)(addr:Int)(old:Int)(nxt:Int)(mark:Bool)(pops:Int):Int:=(uZ now code okk val addr old nxt mark pops).val
def yH(now:Bool)(code:Int)(okk:Bool)(val:Int)(addr:Int)(old:Int)(nxt:Int)(mark:Bool)(pops:Int):Prop:=(uZ now code okk val addr old nxt mark pops).ok
def planWS:aH Ob:=fun args h=>match args,h with
 | [.agg [.bool now,.int .i64 code,.bool okk,.int .i64 val,.int .i64 addr,.int .u64 old,.int .i64 nxt,.bool mark,.int .i64 pops]],[]=>some (.pre (yH now code okk val addr old nxt mark pops) (.ret (FJ (dJ now code okk val addr old nxt mark pops)) []))
 | _,_=>none
theorem PD:sT' 218 planWS:=by
 intro args h o ho K hK;unfold planWS at ho;split at ho<;>cases ho
 rename_i now code okk val addr old nxt mark pops;obtain⟨ok,hK⟩:=hK;refine aG7 (root:=0) (pos:=[]) (cs:=[]) KH ?_;exact cM' (E:=EB1) (q:=(uZ now code okk val addr old nxt mark pops).run (fun y=>(Out.ret (FJ y) []).run K)) (by kernel_rfl) (aG1 ok hK)
def O6(v:AVal)(g:aC Ob):Option (Prop×Bool):=match v,g with
 | .bool x,[]=>some (True,x)
 | _,_=>none
def FH(y:Bool):AVal:=.bool y
theorem KD:bV (obI tbl) 0 O6 (fun y=>.ret (FH y) []):=by
 intro v g p x hp hq K hK;unfold O6 at hp;split at hp
 case h_2=>cases hp
 simp only [sI',pI']at hp;obtain⟨rfl,rfl⟩:=hp;exact⟨⟨_,_,aG6 _ _ _,hK⟩⟩
def uV(now:Bool)(code:Int)(okk:Bool)(val:Int)(addr:Int)(old:Int)(nxt:Int)(mark:Bool)(pops:Int):Tr (Bool):=.ite (!now) (.pre True (.pre True (.ret !ieq (aA old 20 5) 0))) (.pre True (.ret false))
def yF(now:Bool)(code:Int)(okk:Bool)(val:Int)(addr:Int)(old:Int)(nxt:Int)(mark:Bool)(pops:Int):Bool:=(uV now code okk val addr old nxt mark pops).val
def oG(now:Bool)(code:Int)(okk:Bool)(val:Int)(addr:Int)(old:Int)(nxt:Int)(mark:Bool)(pops:Int):Prop:=(uV now code okk val addr old nxt mark pops).ok
def planCS:aH Ob:=fun args h=>match args,h with
 | [.agg [.bool now,.int .i64 code,.bool okk,.int .i64 val,.int .i64 addr,.int .u64 old,.int .i64 nxt,.bool mark,.int .i64 pops]],[]=>some (.pre (oG now code okk val addr old nxt mark pops) (.ret (FH (yF now code okk val addr old nxt mark pops)) []))
 | _,_=>none
theorem O7:sT' 257 planCS:=by
 intro args h o ho K hK;unfold planCS at ho;split at ho<;>cases ho
 rename_i now code okk val addr old nxt mark pops;obtain⟨ok,hK⟩:=hK;refine aG7 (root:=0) (pos:=[]) (cs:=[]) KD ?_;exact cM' (E:=EB1) (q:=(uV now code okk val addr old nxt mark pops).run (fun y=>(Out.ret (FH y) []).run K)) (by kernel_rfl) (aG1 ok hK)
def O8(v:AVal)(g:aC Ob):Option (Prop×(Int×Int)):=match v,g with
 | .tup [.int .u64 x,.int .i64 e],[]=>some (True,(x,e))
 | _,_=>none
def FI(y:(Int×Int)):AVal:=.tup [.int .u64 y.1,.I y.2]
theorem KE:bV (obI tbl) 0 O8 (fun y=>.ret (FI y) []):=by
 intro v g p x hp hq K hK;unfold O8 at hp;split at hp
 case h_2=>cases hp
 simp only [sI',pI']at hp;obtain⟨rfl,rfl⟩:=hp;exact⟨⟨_,_,aG6 _ _ _,hK⟩⟩
def uX(now:Bool)(code:Int)(okk:Bool)(val:Int)(addr:Int)(old:Int)(nxt:Int)(mark:Bool)(pops:Int)(att:Int):Tr ((Int×Int)):=.ite now (.pre True (.ret (0,5))) (.pre True (.pre True (.pre True (.ret (bif dOk att addr (aA old 25 18) nxt 2 val then cJ att addr (aA old 25 18) nxt mark 2 val else 0,bif dOk att addr (aA old 25 18) nxt 2 val then 0 else 2)))))
def gI(now:Bool)(code:Int)(okk:Bool)(val:Int)(addr:Int)(old:Int)(nxt:Int)(mark:Bool)(pops:Int)(att:Int):(Int×Int):=(uX now code okk val addr old nxt mark pops att).val
def yG(now:Bool)(code:Int)(okk:Bool)(val:Int)(addr:Int)(old:Int)(nxt:Int)(mark:Bool)(pops:Int)(att:Int):Prop:=(uX now code okk val addr old nxt mark pops att).ok
def planDS:aH Ob:=fun args h=>match args,h with
 | [.agg [.bool now,.int .i64 code,.bool okk,.int .i64 val,.int .i64 addr,.int .u64 old,.int .i64 nxt,.bool mark,.int .i64 pops],.int .i64 att],[]=>some (.pre (yG now code okk val addr old nxt mark pops att) (.ret (FI (gI now code okk val addr old nxt mark pops att)) []))
 | _,_=>none
theorem O9:sT' 202 planDS:=by
 intro args h o ho K hK;unfold planDS at ho;split at ho<;>cases ho
 rename_i now code okk val addr old nxt mark pops att;obtain⟨ok,hK⟩:=hK;refine aG7 (root:=0) (pos:=[]) (cs:=[]) KE ?_;exact cM' (E:=EB1) (q:=(uX now code okk val addr old nxt mark pops att).run (fun y=>(Out.ret (FI y) []).run K)) (by kernel_rfl) (aG1 ok hK)
noncomputable def EB2:=(((EB1.addS 256 planS WH).addS 218 planWS PD).addS 257 planCS O7).addS 202 planDS O9
abbrev aAG(x:ENS):aJ Mc:=.cells [.ptr 1 0,.bool x.sh,.O,.O,.bool x.dn]
theorem TO{t n:Int}{x:ENS}{st:STS}{s:MS} :aF (obI tbl) 4 (.bool true) [some (.abs (.ensure t n x) [1]),some (.abs (.store t n st) []),bC 3 s,bD s] (.bool true) [some (aAG x),some (.abs (.store t n st) []),bC 3 s,bD s]:=by
 obtain⟨ph,sh,dn,a,y⟩:=x
 match ph with
 | 0=>exact(aF.unpack (.ensure t n ⟨0,sh,dn,a,y⟩) 0 1 (DA t n ⟨0,sh,dn,a,y⟩) [1] rfl rfl (by kernel_rfl) rfl).trans ((aF.weak (cA _ 0 [2,3])).trans ((aF.pick (upto 0 4) rfl).trans (aG0 (by kernel_rfl) (by kernel_rfl))))
 | 1=>exact(aF.unpack (.ensure t n ⟨1,sh,dn,a,y⟩) 0 1 (DA t n ⟨1,sh,dn,a,y⟩) [1] rfl rfl (by kernel_rfl) rfl).trans ((aF.weak (cA _ 0 [2,3])).trans ((aF.pick (upto 0 4) rfl).trans (aG0 (by kernel_rfl) (by kernel_rfl))))
 | 2=>exact(aF.unpack (.ensure t n ⟨2,sh,dn,a,y⟩) 0 1 (DA t n ⟨2,sh,dn,a,y⟩) [1] rfl rfl (by kernel_rfl) rfl).trans ((aF.weak (cA _ 0 [2,3])).trans ((aF.pick (upto 0 4) rfl).trans (aG0 (by kernel_rfl) (by kernel_rfl))))
 | 3=>exact(aF.unpack (.ensure t n ⟨3,sh,dn,a,y⟩) 0 1 (DA t n ⟨3,sh,dn,a,y⟩) [1] rfl rfl (by kernel_rfl) rfl).trans ((aF.weak (cA _ 0 [2,3])).trans ((aF.pick (upto 0 4) rfl).trans (aG0 (by kernel_rfl) (by kernel_rfl))))
 | k+4=>exact(aF.unpack (.ensure t n ⟨k+4,sh,dn,a,y⟩) 0 1 (DA t n ⟨k+4,sh,dn,a,y⟩) [1] rfl rfl (by kernel_rfl) rfl).trans ((aF.weak (cA _ 0 [2,3])).trans ((aF.pick (upto 0 4) rfl).trans (aG0 (by kernel_rfl) (by kernel_rfl))))
def EO.fin(t n:Int)(y:EO):Out Ob:=.ite y.d (.ret (.bool true) [some (aAG y.e),some (.abs (.store t n y.st) []),bC 3 y.s,bD y.s]) (.ret (.bool false) [some (.abs (.ensure t n y.e) [1]),some (.abs (.store t n y.st) []),bC 3 y.s,bD y.s])
theorem AR(t n:Int)(e:ENS)(st:STS)(s:MS)(K:AVal→aC Ob→Prop)(ok:J7 t n e st s)(hK:((enF t n e st s).fin t n).run K):cT' 154 [.ptr 0 0,.ptr 2 0] (TL t n e st s) K:=by
 refine aG8 (GO t n e st s _ ok ?_);show dS (obI tbl) 4 K (.bool (enF t n e st s).d) _;generalize enF t n e st s=y at hK⊢;exact qP hK (fun h=>⟨⟨_,_,TO,h⟩⟩) (fun h=>⟨⟨_,_,aG6 _ _ _,h⟩⟩)
noncomputable def enSA:aH Ob:=fun args h=>match args,h with
 | [.ptr 0 0,.ptr 2 0],[some (.abs (.ensure t n x) [1]),some (.abs (.store t2 n2 st) []),e3,e4]=>(match cM 3 [e3,e4]with
   | some (l,s)=>some (.pre ((l=s.xs.length∧t2=t∧n2=n)∧J7 t n x st s) (EO.fin t n (enF t n x st s)))
   | none=>none)
 | _,_=>none
theorem aAN:sT' 154 enSA:=by
 intro args h o ho K hK;unfold enSA at ho;split at ho
 case h_2=>cases ho
 split at ho<;>cases ho
 rename_i hm;obtain⟨⟨⟨hl,rfl,rfl⟩,ok⟩,hK⟩:=hK;have hh:=bE hm hl;cases hh;exact AR _ _ _ _ _ K ok hK
def EO.finB(t n:Int)(y:EO):Out Ob:=.ite y.d (.ret (.bool true) [some (aAG y.e),hJ 5 t n y.st,none,bC 4 y.s,bD y.s,hM y.st]) (.ret (.bool false) [some (.abs (.ensure t n y.e) [1]),hJ 5 t n y.st,none,bC 4 y.s,bD y.s,hM y.st])
noncomputable def enSB:aH Ob:=fun args h=>match args,h with
 | [.ptr 0 0,.ptr 3 0],[some (.abs (.ensure t n x) [1]),e1,e2,e3,e4]=>(match lH 2 [e1,e2],cM 4 [e3,e4]with
   | some (l2,t2,n2,st),some (l,s)=>some (.pre ((l=s.xs.length∧l2=st.R.length∧t2=t∧n2=n)∧J7 t n x st s) (EO.finB t n (enF t n x st s)))
   | _,_=>none)
 | _,_=>none
theorem aAO:sT' 154 enSB:=by
 intro args h o ho K hK;unfold enSB at ho;split at ho
 case h_2=>cases ho
 split at ho<;>cases ho
 rename_i hs hm;obtain⟨⟨⟨hl,hl2,rfl,rfl⟩,ok⟩,hK⟩:=hK;have hh:=bE hm hl;cases hh;have hh:=cE hs hl2;cases hh;exact jS (fun ι hι=>by simp [aJ.ren,aG9,AVal.ren,hι]) (fun ι hι=>by simp [aJ.ren,hι]) (fun K hK=>AR _ _ _ _ _ K ok hK) K hK
noncomputable def enS2:aH Ob:=aH.or enSA enSB
theorem aAM:sT' 154 enS2:=aHi aAN aAO
abbrev aCr(x:SWS):aJ Mc:=.cells [.ptr 1 0,.O]
theorem XD{t n:Int}{x:SWS}{st:STS}{s:MS} :aF (obI tbl) 4 (.bool true) [some (.abs (.sweep t n x) [1]),some (.abs (.store t n st) []),bC 3 s,bD s] (.bool true) [some (aCr x),some (.abs (.store t n st) []),bC 3 s,bD s]:=by
 obtain⟨ph,N,m,i,ks,fs,gs,j,l⟩:=x
 match ph with
 | 0=>exact(aF.unpack (.sweep t n ⟨0,N,m,i,ks,fs,gs,j,l⟩) 0 1 (K1 t n ⟨0,N,m,i,ks,fs,gs,j,l⟩) [1] rfl rfl (by kernel_rfl) rfl).trans ((aF.weak (cA _ 0 [1])).trans ((aF.pick (upto 0 4) rfl).trans (aG0 (by kernel_rfl) (by kernel_rfl))))
 | 1=>exact(aF.unpack (.sweep t n ⟨1,N,m,i,ks,fs,gs,j,l⟩) 0 1 (K1 t n ⟨1,N,m,i,ks,fs,gs,j,l⟩) [1] rfl rfl (by kernel_rfl) rfl).trans ((aF.weak (cA _ 0 [1])).trans ((aF.pick (upto 0 4) rfl).trans (aG0 (by kernel_rfl) (by kernel_rfl))))
 | 2=>exact(aF.unpack (.sweep t n ⟨2,N,m,i,ks,fs,gs,j,l⟩) 0 1 (K1 t n ⟨2,N,m,i,ks,fs,gs,j,l⟩) [1] rfl rfl (by kernel_rfl) rfl).trans ((aF.weak (cA _ 0 [1])).trans ((aF.pick (upto 0 4) rfl).trans (aG0 (by kernel_rfl) (by kernel_rfl))))
 | k+3=>exact(aF.unpack (.sweep t n ⟨k+3,N,m,i,ks,fs,gs,j,l⟩) 0 1 (K1 t n ⟨k+3,N,m,i,ks,fs,gs,j,l⟩) [1] rfl rfl (by kernel_rfl) rfl).trans ((aF.weak (cA _ 0 [1])).trans ((aF.pick (upto 0 4) rfl).trans (aG0 (by kernel_rfl) (by kernel_rfl))))
def SO.fin(t n:Int)(y:SO):Out Ob:=.ite y.d (.ret (.bool true) [some (aCr y.e),some (.abs (.store t n y.st) []),bC 3 y.s,bD y.s]) (.ret (.bool false) [some (.abs (.sweep t n y.e) [1]),some (.abs (.store t n y.st) []),bC 3 y.s,bD y.s])
theorem C2(t n:Int)(e:SWS)(st:STS)(s:MS)(K:AVal→aC Ob→Prop)(ok:qL t n e st s)(hK:((swF t n e st s).fin t n).run K):cT' 169 [.ptr 0 0,.ptr 2 0] (swH t n e st s) K:=by
 refine aG8 (XE t n e st s _ ok ?_);show dS (obI tbl) 4 K (.bool (swF t n e st s).d) _;generalize swF t n e st s=y at hK⊢;exact qP hK (fun h=>⟨⟨_,_,XD,h⟩⟩) (fun h=>⟨⟨_,_,aG6 _ _ _,h⟩⟩)
noncomputable def swSA:aH Ob:=fun args h=>match args,h with
 | [.ptr 0 0,.ptr 2 0],[some (.abs (.sweep t n x) [1]),some (.abs (.store t2 n2 st) []),e3,e4]=>(match cM 3 [e3,e4]with
   | some (l,s)=>some (.pre ((l=s.xs.length∧t2=t∧n2=n)∧qL t n x st s) (SO.fin t n (swF t n x st s)))
   | none=>none)
 | _,_=>none
theorem aCw:sT' 169 swSA:=by
 intro args h o ho K hK;unfold swSA at ho;split at ho
 case h_2=>cases ho
 split at ho<;>cases ho
 rename_i hm;obtain⟨⟨⟨hl,rfl,rfl⟩,ok⟩,hK⟩:=hK;have hh:=bE hm hl;cases hh;exact C2 _ _ _ _ _ K ok hK
def SO.finB(t n:Int)(y:SO):Out Ob:=.ite y.d (.ret (.bool true) [some (aCr y.e),hJ 5 t n y.st,none,bC 4 y.s,bD y.s,hM y.st]) (.ret (.bool false) [some (.abs (.sweep t n y.e) [1]),hJ 5 t n y.st,none,bC 4 y.s,bD y.s,hM y.st])
noncomputable def swSB:aH Ob:=fun args h=>match args,h with
 | [.ptr 0 0,.ptr 3 0],[some (.abs (.sweep t n x) [1]),e1,e2,e3,e4]=>(match lH 2 [e1,e2],cM 4 [e3,e4]with
   | some (l2,t2,n2,st),some (l,s)=>some (.pre ((l=s.xs.length∧l2=st.R.length∧t2=t∧n2=n)∧qL t n x st s) (SO.finB t n (swF t n x st s)))
   | _,_=>none)
 | _,_=>none
theorem aCx:sT' 169 swSB:=by
 intro args h o ho K hK;unfold swSB at ho;split at ho
 case h_2=>cases ho
 split at ho<;>cases ho
 rename_i hs hm;obtain⟨⟨⟨hl,hl2,rfl,rfl⟩,ok⟩,hK⟩:=hK;have hh:=bE hm hl;cases hh;have hh:=cE hs hl2;cases hh;exact jS (fun ι hι=>by simp [aJ.ren,aG9,AVal.ren,hι]) (fun ι hι=>by simp [aJ.ren,hι]) (fun K hK=>C2 _ _ _ _ _ K ok hK) K hK
noncomputable def swSC:aH Ob:=aH.or swSA swSB
theorem aCv:sT' 169 swSC:=aHi aCw aCx
def aAI(t n:Int)(v:AVal)(g:aC Ob):Option (Prop×STS):=match v,g with
 | .ptr 2 0,[e1,e2,some (.cells [.ptr 0 0,.bool false,.raw (.pointer none),.raw (.pointer none),.bool false])]=>(match lH 1 [e1,e2]with
   | some (l2,t2,n2,st)=>some (t2=t∧n2=n∧l2=st.R.length,st)
   | none=>none)
 | _,_=>none
abbrev TM(t n:Int)(y:STS):aC Ob:=[hJ 1 t n y,hM y,some (.abs (.ensure t n aW) [0])]
theorem TN{t n:Int} :bV (obI tbl) 2 (aAI t n) (fun y=>.ret (.ptr 2 0) (TM t n y)):=by
 intro v g p x hp hq K hK;unfold aAI at hp;split at hp
 case h_2=>cases hp
 split at hp
 case h_2=>cases hp
 rename_i l2 t2 n2 st hs;simp only [sI',pI']at hp;obtain⟨rfl,rfl⟩:=hp;obtain⟨rfl,rfl,hl2⟩:=hq;have hh:=cE hs hl2;cases hh;exact⟨⟨_,_,aF.pack (TM t2 n2 st) (.ensure t2 n2 aW) 2 1 (DA t2 n2 aW) [0] (by kernel_rfl) rfl rfl (by kernel_rfl),hK⟩⟩
def aAJ(t n:Int)(st:STS):Tr STS:=.pre (t=t∧n=n∧lE' st.3) (.ret st)
def enNS:aH Ob:=fun args h=>match args,h with
 | [.ptr 0 0],[e1,e2]=>(match lH 1 [e1,e2]with
   | some (l2,t,n,st)=>some (.pre (l2=st.R.length∧(aAJ t n st).ok) (.ret (.ptr 2 0) (TM t n (aAJ t n st).val)))
   | none=>none)
 | _,_=>none
theorem aAK:sT' 206 enNS:=by
 intro args h o ho K hK;unfold enNS at ho;split at ho
 case h_2=>cases ho
 split at ho<;>cases ho
 rename_i l2 t n st hs;obtain⟨⟨hl2,ok⟩,hK⟩:=hK;have hh:=cE hs hl2;cases hh;refine aG7 (root:=2) (pos:=[]) (cs:=[]) (parse:=aAI t n) TN ?_;exact cM' (E:=EB2) (q:=(aAJ t n st).run (fun y=>(Out.ret (.ptr 2 0) (TM t n y)).run K)) (by kernel_rfl) (aG1 ok hK)
def aCs(t n:Int)(v:AVal)(g:aC Ob):Option (Prop×STS):=match v,g with
 | .ptr 2 0,[e1,e2,some (.cells [.ptr 0 0,.raw (.pointer none)])]=>(match lH 1 [e1,e2]with
   | some (l2,t2,n2,st)=>some (t2=t∧n2=n∧l2=st.R.length,st)
   | none=>none)
 | _,_=>none
abbrev W8(t n:Int)(y:STS):aC Ob:=[hJ 1 t n y,hM y,some (.abs (.sweep t n bN) [0])]
theorem W9{t n:Int} :bV (obI tbl) 2 (aCs t n) (fun y=>.ret (.ptr 2 0) (W8 t n y)):=by
 intro v g p x hp hq K hK;unfold aCs at hp;split at hp
 case h_2=>cases hp
 split at hp
 case h_2=>cases hp
 rename_i l2 t2 n2 st hs;simp only [sI',pI']at hp;obtain⟨rfl,rfl⟩:=hp;obtain⟨rfl,rfl,hl2⟩:=hq;have hh:=cE hs hl2;cases hh;exact⟨⟨_,_,aF.pack (W8 t2 n2 st) (.sweep t2 n2 bN) 2 1 (K1 t2 n2 bN) [0] (by kernel_rfl) rfl rfl (by kernel_rfl),hK⟩⟩
def aCt(t n:Int)(st:STS):Tr STS:=.pre (t=t∧n=n∧lE' st.3) (.ret st)
def swNS:aH Ob:=fun args h=>match args,h with
 | [.ptr 0 0],[e1,e2]=>(match lH 1 [e1,e2]with
   | some (l2,t,n,st)=>some (.pre (l2=st.R.length∧(aCt t n st).ok) (.ret (.ptr 2 0) (W8 t n (aCt t n st).val)))
   | none=>none)
 | _,_=>none
theorem aCu:sT' 167 swNS:=by
 intro args h o ho K hK;unfold swNS at ho;split at ho
 case h_2=>cases ho
 split at ho<;>cases ho
 rename_i l2 t n st hs;obtain⟨⟨hl2,ok⟩,hK⟩:=hK;have hh:=cE hs hl2;cases hh;refine aG7 (root:=2) (pos:=[]) (cs:=[]) (parse:=aCs t n) W9 ?_;exact cM' (E:=EB2) (q:=(aCt t n st).run (fun y=>(Out.ret (.ptr 2 0) (W8 t n y)).run K)) (by kernel_rfl) (aG1 ok hK)
noncomputable def EB3:=(((EB2.addS 154 enS2 aAM).addS 169 swSC aCv).addS 206 enNS aAK).addS 167 swNS aCu
structure ClO where
 d:Bool
 x:CLS
 s:MS
instance:Inhabited ClO:=⟨⟨false,⟨0,0,0,0⟩,⟨0,0,[],0,0,0,0,0,false⟩⟩⟩
instance:Inhabited CLS:=⟨⟨0,0,0,0⟩⟩
abbrev clH(t n:Int)(x:CLS)(s:MS):aC Ob:=[some (.abs (.clear t n x) []),bC 2 s,bD s]
abbrev clD(t n:Int)(x:CLS)(s:MS):aC Ob:=[cE' [.I t,.I n,.I x.addr,.I x.at',.int .u64 x.word,.int .u64 x.found],bC 2 s,bD s]
def ClO.fin(t n:Int)(y:ClO):Out Ob:=.ite y.d (.ret (.bool true) (clD t n y.x y.s)) (.ret (.bool false) (clH t n y.x y.s))
def Z8(t n:Int)(v:AVal)(g:aC Ob):Option (Prop×ClO):=match v,g with
 | .bool d,[some (.cells [.int .i64 t1,.int .i64 n1,.int .i64 addr,.int .i64 at',.int .u64 word,.int .u64 found]),e1,e2]=>(match cM 2 [e1,e2]with
   | some (l,s)=>some ((t1=t∧n1=n)∧l=s.xs.length,⟨d,⟨addr,at',word,found⟩,s⟩)
   | none=>none)
 | _,_=>none
def RF(t n:Int)(v:AVal)(g:aC Ob):Option (Prop×ClO):=Z8 t n v g
theorem SH{t n:Int} :bV (obI tbl) 3 (Z8 t n) (ClO.fin t n):=by
 intro v g p x hp hq K hK;unfold Z8 at hp;split at hp
 case h_2=>cases hp
 rename_i d t1 n1 addr at' word found e1 e2;split at hp
 case h_2=>cases hp
 rename_i l s hm;simp only [sI',pI']at hp;obtain⟨rfl,rfl⟩:=hp;obtain⟨⟨rfl,rfl⟩,hl⟩:=hq;have hh:=bE hm hl;cases hh;refine qP hK (fun h=>?_) (fun h=>?_)
 ·exact⟨⟨_,_,aG6 _ _ _,h⟩⟩
 ·exact⟨⟨_,_,(aF.pack (clH t1 n1 (⟨addr,at',word,found⟩:CLS) s) (.clear t1 n1 (⟨addr,at',word,found⟩:CLS)) 0 0 (lX t1 n1 (⟨addr,at',word,found⟩:CLS)) [] (by kernel_rfl) rfl (congrArg (Prod.mk 0) rfl) (by kernel_rfl)),h⟩⟩
theorem xR{t n:Int} :bV (obI tbl) 3 (RF t n) (ClO.fin t n):=by
 intro v g p x hp hq K hK;unfold RF at hp;exact SH v g p x hp hq K hK
def zW(t n:Int)(x:CLS)(s:MS):Tr ClO:=.pre (lE' s.3∧(0:Int)≤s.4∧s.4≤(4611686018427387904:Int)) (.pre True (.ite (ilt (aA (aE s.3 x.1) 20 5 - 1) 0) (.pre ((t=t∧n=n)∧lE' s.3) (.ret {d:=true,x:= {addr:=x.1,at':=1,word:=aE s.3 x.1,found:=x.4},s:= {s with c:=s.4+1,k:=1,a:=x.1,o:=aE s.3 x.1,w:=aE s.3 x.1,ok:=bT s.3 x.1} })) (.pre ((t=t∧n=n)∧lE' s.3) (.ret {d:=ile t (aA (aE s.3 x.1) 20 5 - 1),x:= {addr:=x.1,at':=1,word:=aE s.3 x.1,found:=x.4},s:= {s with c:=s.4+1,k:=1,a:=x.1,o:=aE s.3 x.1,w:=aE s.3 x.1,ok:=bT s.3 x.1} }))))
theorem H5(t n:Int)(x:CLS)(s:MS)(K:ClO→Prop)(h:(zW t n x s).run K):cT' 214 [.ptr 0 0,.ptr 1 0] [cE' [.I t,.I n,.I x.addr,.I 0,.int .u64 x.word,.int .u64 x.found],bC 2 s,bD s] (bP 3 0 [] [] (RF t n) K):=by
 exact cM' (E:=EB3) (by kernel_rfl) h
abbrev w05(x:CLS):=aA x.3 20 5 - 1
abbrev w04(n:Int)(s:MS)(t:Int)(x:CLS):Tr ClO:=.ret {d:=false,x:= {addr:=x.1,at':=3,word:=x.3,found:=aE s.3 (2*n+5+2*t+3*(w05 x)+2) },s:= {s with c:=s.4+1,k:=1,a:=2*n+5+2*t+3*(w05 x)+2,o:=aE s.3 (2*n+5+2*t+3*(w05 x)+2),w:=aE s.3 (2*n+5+2*t+3*(w05 x)+2),ok:=bT s.3 (2*n+5+2*t+3*(w05 x)+2) } }
abbrev w06(n t:Int)(x:CLS):=(((0:Int)≤t∧t≤(100000:Int))∧((0:Int)≤n∧n≤(100000:Int))∧(-1099511627776:Int)≤aA x.3 20 5 - 1∧aA x.3 20 5 - (1:Int)≤(1099511627776:Int))∧True
def zX(t n:Int)(x:CLS)(s:MS):Tr ClO:=.pre True (.pre (w06 n t x) (.pre ((lE' s.3∧(0:Int)≤s.4∧s.4≤(4611686018427387904:Int))∧True) (.pre True (.ite (hasB [2] (aA (aE s.3 (2*n+5+2*t+3*(w05 x)+2)) 49 3)) (.ite (ieq (aA (aE s.3 (2*n+5+2*t+3*(w05 x)+2)) 12 9) x.1) (.pre True (.ite (ieq (aA (aE s.3 (2*n+5+2*t+3*(w05 x)+2)) 21 18) (aA x.3 25 18)) (.pre ((t=t∧n=n)∧lE' s.3) (.ret {d:=false,x:= {addr:=x.1,at':=2,word:=x.3,found:=aE s.3 (2*n+5+2*t+3*(w05 x)+2) },s:= {s with c:=s.4+1,k:=1,a:=2*n+5+2*t+3*(w05 x)+2,o:=aE s.3 (2*n+5+2*t+3*(w05 x)+2),w:=aE s.3 (2*n+5+2*t+3*(w05 x)+2),ok:=bT s.3 (2*n+5+2*t+3*(w05 x)+2) } })) (.pre ((t=t∧n=n)∧lE' s.3) (w04 n s t x)))) (.pre ((t=t∧n=n)∧lE' s.3) (w04 n s t x))) (.pre ((t=t∧n=n)∧lE' s.3) (w04 n s t x))))))
theorem H6(t n:Int)(x:CLS)(s:MS)(K:ClO→Prop)(h:(zX t n x s).run K):cT' 214 [.ptr 0 0,.ptr 1 0] [cE' [.I t,.I n,.I x.addr,.I 1,.int .u64 x.word,.int .u64 x.found],bC 2 s,bD s] (bP 3 0 [] [] (RF t n) K):=by
 exact cM' (E:=EB3) (by kernel_rfl) h
def zY(t n:Int)(x:CLS)(s:MS):Tr ClO:=.pre True (.pre True (.pre True (.pre True (.pre (w06 n t x) (.pre ((lE' s.3∧(0:Int)≤s.4∧s.4≤(4611686018427387904:Int))∧True) (.pre ((t=t∧n=n)∧lE' (bif aV s.3 (2*n+5+2*t+3*(w05 x)+2) x.4 then aX s.3 (2*n+5+2*t+3*(w05 x)+2) (bif dOk (aA x.4 0 12) (aA x.4 12 9) (aA x.4 21 18) (aA x.4 39 9) 3 (aA x.4 52 10)then cJ (aA x.4 0 12) (aA x.4 12 9) (aA x.4 21 18) (aA x.4 39 9) (ieq (aA x.4 48 1) 1) 3 (aA x.4 52 10)else 0)else s.3)) (.ret {d:=false,x:= {x with at':=3},s:= {t:=s.1,n:=s.2,xs:=bif aV s.3 (2*n+5+2*t+3*(w05 x)+2) x.4 then aX s.3 (2*n+5+2*t+3*(w05 x)+2) (bif dOk (aA x.4 0 12) (aA x.4 12 9) (aA x.4 21 18) (aA x.4 39 9) 3 (aA x.4 52 10)then cJ (aA x.4 0 12) (aA x.4 12 9) (aA x.4 21 18) (aA x.4 39 9) (ieq (aA x.4 48 1) 1) 3 (aA x.4 52 10)else 0)else s.3,c:=s.4+1,k:=3,a:=2*n+5+2*t+3*(w05 x)+2,o:=aE s.3 (2*n+5+2*t+3*(w05 x)+2),w:=bif bT s.3 (2*n+5+2*t+3*(w05 x)+2)then bif dOk (aA x.4 0 12) (aA x.4 12 9) (aA x.4 21 18) (aA x.4 39 9) 3 (aA x.4 52 10)then cJ (aA x.4 0 12) (aA x.4 12 9) (aA x.4 21 18) (aA x.4 39 9) (ieq (aA x.4 48 1) 1) 3 (aA x.4 52 10)else 0 else 0,ok:=aV s.3 (2*n+5+2*t+3*(w05 x)+2) x.4} })))))))
theorem H7(t n:Int)(x:CLS)(s:MS)(K:ClO→Prop)(h:(zY t n x s).run K):cT' 214 [.ptr 0 0,.ptr 1 0] [cE' [.I t,.I n,.I x.addr,.I 2,.int .u64 x.word,.int .u64 x.found],bC 2 s,bD s] (bP 3 0 [] [] (RF t n) K):=by
 exact cM' (E:=EB3) (by kernel_rfl) h
abbrev w07(x:CLS):=aT (aA x.3 25 18)
def zZ(t n:Int)(x:CLS)(s:MS):Tr ClO:=.pre True (.pre ((0:Int)≤aA x.3 25 18∧aA x.3 25 (18:Int)≤(1000000:Int)) (.pre True (.pre ((lE' s.3∧(0:Int)≤s.4∧s.4≤(4611686018427387904:Int))∧True) (.pre ((t=t∧n=n)∧lE' (bif aV s.3 x.1 x.3 then aX s.3 x.1 (bif bif aM (aA x.3 0 10) 10 then bif aM (aA x.3 10 9) 9 then bif aM 0 5 then aM (w07 x) 18 else false else false else false then cK (aA x.3 0 10) (aA x.3 10 9) (ieq (aA x.3 19 1) 1) 0 (w07 x)else 0)else s.3)) (.ret {d:=true,x:= {x with at':=3},s:= {t:=s.1,n:=s.2,xs:=bif aV s.3 x.1 x.3 then aX s.3 x.1 (bif bif aM (aA x.3 0 10) 10 then bif aM (aA x.3 10 9) 9 then bif aM 0 5 then aM (w07 x) 18 else false else false else false then cK (aA x.3 0 10) (aA x.3 10 9) (ieq (aA x.3 19 1) 1) 0 (w07 x)else 0)else s.3,c:=s.4+1,k:=3,a:=x.1,o:=aE s.3 x.1,w:=bif bT s.3 x.1 then bif bif aM (aA x.3 0 10) 10 then bif aM (aA x.3 10 9) 9 then bif aM 0 5 then aM (w07 x) 18 else false else false else false then cK (aA x.3 0 10) (aA x.3 10 9) (ieq (aA x.3 19 1) 1) 0 (w07 x)else 0 else 0,ok:=aV s.3 x.1 x.3} })))))
theorem H8(t n:Int)(x:CLS)(s:MS)(K:ClO→Prop)(h:(zZ t n x s).run K):cT' 214 [.ptr 0 0,.ptr 1 0] [cE' [.I t,.I n,.I x.addr,.I 3,.int .u64 x.word,.int .u64 x.found],bC 2 s,bD s] (bP 3 0 [] [] (RF t n) K):=by
 exact cM' (E:=EB3) (by kernel_rfl) h
def clT(t n:Int)(x:CLS)(s:MS):Tr ClO:=
 bif ieq x.at' 0 then zW t n x s else
 bif ieq x.at' 1 then zX t n x s else
 bif ieq x.at' 2 then zY t n x s else
 bif ieq x.at' 3 then zZ t n x s else .pre False (.ret default)
def oQ(t n:Int)(x:CLS)(s:MS):ClO:=(clT t n x s).val
def L8(t n:Int)(x:CLS)(s:MS):Prop:=(clT t n x s).ok
theorem SI(t n:Int)(x:CLS)(s:MS)(K:AVal→aC Ob→Prop)(h:(clT t n x s).run (fun y=>(ClO.fin t n y).run K)):cT' 214 [.ptr 0 0,.ptr 1 0] (clH t n x s) K:=by
 unfold clT at h
 by_cases e:x.at'=0
 ·rw [e]at h;have h:(zW t n x s).run _:=h;refine aGV (root:=0) (pos:=[]) (cs:=[]) (parse:=RF t n) (fin:=ClO.fin t n) xR (aR.unpack (.clear t n x) 0 0 (lX t n x) [] rfl (congrArg (Prod.mk 0) rfl) (by kernel_rfl) rfl) ?_
  have q:=H5 t n x s _ h;rw [←e]at q;exact q
 rw [bL e]at h
 by_cases e:x.at'=1
 ·rw [e]at h;have h:(zX t n x s).run _:=h;refine aGV (root:=0) (pos:=[]) (cs:=[]) (parse:=RF t n) (fin:=ClO.fin t n) xR (aR.unpack (.clear t n x) 0 0 (lX t n x) [] rfl (congrArg (Prod.mk 0) rfl) (by kernel_rfl) rfl) ?_
  have q:=H6 t n x s _ h;rw [←e]at q;exact q
 rw [bL e]at h
 by_cases e:x.at'=2
 ·rw [e]at h;have h:(zY t n x s).run _:=h;refine aGV (root:=0) (pos:=[]) (cs:=[]) (parse:=RF t n) (fin:=ClO.fin t n) xR (aR.unpack (.clear t n x) 0 0 (lX t n x) [] rfl (congrArg (Prod.mk 0) rfl) (by kernel_rfl) rfl) ?_
  have q:=H7 t n x s _ h;rw [←e]at q;exact q
 rw [bL e]at h
 by_cases e:x.at'=3
 ·rw [e]at h;have h:(zZ t n x s).run _:=h;refine aGV (root:=0) (pos:=[]) (cs:=[]) (parse:=RF t n) (fin:=ClO.fin t n) xR (aR.unpack (.clear t n x) 0 0 (lX t n x) [] rfl (congrArg (Prod.mk 0) rfl) (by kernel_rfl) rfl) ?_
  have q:=H8 t n x s _ h;rw [←e]at q;exact q
 rw [bL e]at h;exact h.1.elim
noncomputable def clS:aH Ob:=fun args h=>match args,h with
 | [.ptr 0 0,.ptr 1 0],[some (.abs (.clear t n x) []),e1,e2]=>(match cM 2 [e1,e2]with
   | some (l,s)=>some (.pre (l=s.xs.length∧L8 t n x s) (ClO.fin t n (oQ t n x s)))
   | none=>none)
 | _,_=>none
theorem aDq:sT' 214 clS:=by
 intro args h o ho K hK;unfold clS at ho;split at ho
 case h_2=>cases ho
 split at ho<;>cases ho
 rename_i hm;obtain⟨⟨hl,ok⟩,hK⟩:=hK;have hh:=bE hm hl;cases hh;exact SI _ _ _ _ K (aG1 ok hK)
def Z5(t n:Int)(v:AVal)(g:aC Ob):Option (Prop×CLS):=match v,g with
 | .ptr 0 0,[some (.cells [.int .i64 t1,.int .i64 n1,.int .i64 addr,.int .i64 at',.int .u64 word,.int .u64 found])]=>some ((t1=t∧n1=n),(⟨addr,at',word,found⟩:CLS))
 | _,_=>none
abbrev SF(t n:Int)(y:CLS):aC Ob:=[some (.abs (.clear t n y) [])]
theorem SG{t n:Int} :bV (obI tbl) 0 (Z5 t n) (fun y=>.ret (.ptr 0 0) (SF t n y)):=by
 intro v g p x hp hq K hK;unfold Z5 at hp;split at hp
 case h_2=>cases hp
 rename_i t1 n1 addr at' word found;simp only [sI',pI']at hp;obtain⟨rfl,rfl⟩:=hp;obtain⟨rfl,rfl⟩:=hq;exact⟨⟨_,_,aF.pack (SF t1 n1 (⟨addr,at',word,found⟩:CLS)) (.clear t1 n1 (⟨addr,at',word,found⟩:CLS)) 0 0 (lX t1 n1 (⟨addr,at',word,found⟩:CLS)) [] (by kernel_rfl) rfl (congrArg (Prod.mk 0) rfl) (by kernel_rfl),hK⟩⟩
def Z6(t n:Int)(a:Int):Tr CLS:=.pre (t=t∧n=n) (.ret {addr:=a,at':=0,word:=0,found:=0})
def xQ(t n:Int)(a:Int):CLS:=(Z6 t n a).val
def pW(t n:Int)(a:Int):Prop:=(Z6 t n a).ok
def clNS:aH Ob:=fun args h=>match args,h with
 | [.agg [.int .i64 t,.int .i64 n],.int .i64 a],[]=>some (.pre (pW t n a) (.ret (.ptr 0 0) (SF t n (xQ t n a))))
 | _,_=>none
theorem Z7:sT' 258 clNS:=by
 intro args h o ho K hK;unfold clNS at ho;split at ho<;>cases ho
 rename_i t n a;obtain⟨ok,hK⟩:=hK;refine aG7 (root:=0) (pos:=[]) (cs:=[]) (parse:=Z5 t n) SG ?_;exact cM' (E:=EB3) (q:=(Z6 t n a).run (fun y=>(Out.ret (.ptr 0 0) (SF t n y)).run K)) (by kernel_rfl) (aG1 ok hK)
noncomputable def EC1:=((EB3.addS 214 clS aDq).addS 258 clNS Z7)
def cmpI(a b:Int):Int:=bif ilt a b then -1 else bif ilt b a then 1 else 0
def orI(a b:Int):Int:=bif ieq a 0 then b else a
def CT(u n v m:Int):Int:=orI (cmpI n m) (cmpI u v)
def MA:bH Ob:=fun args h=>match args,h with
 | [.int .i64 a,.int .i64 b],[]=>some (True,.I (cmpI a b))
 | _,_=>none
theorem SJ:sT' 280 MA.spec:=by
 intro args h o ho K hK;unfold bH.spec MA at ho;split at ho
 case h_2=>cases ho
 rename_i p v hp;split at hp
 case h_2=>cases hp
 rename_i a b;simp only [sI',pI']at hp;obtain⟨rfl,rfl⟩:=hp;simp only [sI']at ho;subst ho;obtain⟨hp,hK⟩:=hK;have hK:K (.I (cmpI a b)) []:=hK;refine aGU (cM' (E:=EC1) (q:=bif !ieq a a then bif !ieq b b then K (.I 0) []else K (.I (-1:Int)) []else bif !ieq b b then K (.I 1) []else bif ilt a b then K (.I (-1:Int)) []else bif ilt b a then K (.I 1) []else K (.I 0) []) (by kernel_rfl) ?_)
 unfold cmpI at hK;rw [qH,qH];cases h:ilt a b with
 | true=>rw [h]at hK;exact hK
 | false=>cases h2:ilt b a<;>(rw [h,h2]at hK;exact hK)
def MC:bH Ob:=fun args h=>match args,h with
 | [.int .u64 a,.int .u64 b],[]=>some (True,.I (cmpI a b))
 | _,_=>none
theorem SL:sT' 279 MC.spec:=by
 intro args h o ho K hK;unfold bH.spec MC at ho;split at ho
 case h_2=>cases ho
 rename_i p v hp;split at hp
 case h_2=>cases hp
 rename_i a b;simp only [sI',pI']at hp;obtain⟨rfl,rfl⟩:=hp;simp only [sI']at ho;subst ho;obtain⟨hp,hK⟩:=hK;have hK:K (.I (cmpI a b)) []:=hK;refine aGU (cM' (E:=EC1) (q:=bif !ieq a a then bif !ieq b b then K (.I 0) []else K (.I (-1:Int)) []else bif !ieq b b then K (.I 1) []else bif ilt a b then K (.I (-1:Int)) []else bif ilt b a then K (.I 1) []else K (.I 0) []) (by kernel_rfl) ?_)
 unfold cmpI at hK;rw [qH,qH];cases h:ilt a b with
 | true=>rw [h]at hK;exact hK
 | false=>cases h2:ilt b a<;>(rw [h,h2]at hK;exact hK)
def MB:bH Ob:=fun args h=>match args,h with
 | [.slice 0 0 2 1],[some (.cells [.int .i64 a,.int .i64 b])]=>some (True,.I (orI a b))
 | _,_=>none
theorem SK:sT' 278 MB.spec:=by
 intro args h o ho K hK;unfold bH.spec MB at ho;split at ho
 case h_2=>cases ho
 rename_i p v hp;split at hp
 case h_2=>cases hp
 rename_i a b;simp only [sI',pI']at hp;obtain⟨rfl,rfl⟩:=hp;simp only [sI']at ho;subst ho;obtain⟨hp,hK⟩:=hK;have hK:K (.I (orI a b)) [cE' [.I a,.I b]]:=hK;refine aGU (cM' (E:=EC1) (q:=((0:Int)≤(0:Int)∧(0:Int)<(↑2:Int))∧bif !ieq a 0 then K (.I a) [cE' [.I a,.I b]]else((0:Int)≤W (0+1)∧W (0+1)<(↑2:Int))∧bif !ieq b 0 then K (.I b) [cE' [.I a,.I b]]else K (.I 0) [cE' [.I a,.I b]]) (by kernel_rfl) ?_)
 unfold orI at hK;have e1:W (0+1)=1:=by decide
 simp only [W]at e1;simp only [W,e1];refine⟨by omega,?_⟩
 cases h:ieq a 0 with
 | false=>rw [h]at hK;exact hK
 | true=>
   rw [h]at hK;refine⟨by omega,?_⟩
   cases h2:ieq b 0 with
   | false=>exact hK
   | true=>
     have:b=0:=by rw [cL]at h2;simpa using h2
     subst this;exact hK
noncomputable def EQ1:=((EC1.addR 280 MA SJ).addR 279 MC SL).addR 278 MB SK
def PL:bH Ob:=fun args h=>match args,h with
 | [.agg [.int .i64 u,.int .u64 n],.agg [.int .i64 v,.int .u64 m]],[]=>some (True,.I (CT u n v m))
 | _,_=>none
theorem WN:sT' 244 PL.spec:=by
 intro args h o ho K hK;unfold bH.spec PL at ho;split at ho
 case h_2=>cases ho
 rename_i p v hp;split at hp
 case h_2=>cases hp
 rename_i u n v m;simp only [sI',pI']at hp;obtain⟨rfl,rfl⟩:=hp;simp only [sI']at ho;subst ho;obtain⟨hp,hK⟩:=hK;have hK:K (.I (CT u n v m)) []:=hK;refine aGU (cM' (E:=EQ1) (q:=True∧True∧True∧K (.I (orI (cmpI n m) (cmpI u v))) []) (by kernel_rfl) ?_)
 exact⟨trivial,trivial,trivial,hK⟩
noncomputable def EQ2:=EQ1.addR 244 PL WN
def yJ(u n v m:Int):Bool:=!ile 0 (CT u n v m)
def FK:bH Ob:=fun args h=>match args,h with
 | [.slice 0 0 2 2],[some (.cells [.int .i64 u,.int .u64 n,.int .i64 v,.int .u64 m])]=>some (True,.bool (yJ u n v m))
 | _,_=>none
theorem PM:sT' 195 FK.spec:=by
 intro args h o ho K hK;unfold bH.spec FK at ho;split at ho
 case h_2=>cases ho
 rename_i p v hp;split at hp
 case h_2=>cases hp
 rename_i u n v m;simp only [sI',pI']at hp;obtain⟨rfl,rfl⟩:=hp;simp only [sI']at ho;subst ho;obtain⟨hp,hK⟩:=hK;have hK:K (.bool (yJ u n v m)) [cE' [.I u,.int .u64 n,.I v,.int .u64 m]]:=hK;refine aGU (cM' (E:=EQ2) (q:=((0:Int)≤W (1 - 1)∧W (1 - 1)<(↑2:Int))∧((0:Int)≤(1:Int)∧(1:Int)<(↑2:Int))∧True∧bif ile 0 (CT u n v m)then K (.bool false) [cE' [.I u,.int .u64 n,.I v,.int .u64 m]]else K (.bool true) [cE' [.I u,.int .u64 n,.I v,.int .u64 m]]) (by kernel_rfl) ?_)
 have e1:W (1 - 1)=0:=by decide
 simp only [W]at e1;simp only [W,e1];refine⟨by omega,by omega,trivial,?_⟩
 unfold yJ at hK;cases h:ile 0 (CT u n v m)<;>(rw [h]at hK;exact hK)
noncomputable def EQ:=EQ2.addR 195 FK PM
structure HdO where
 d:Bool
 x:HDS
 s:MS
instance:Inhabited HdO:=⟨⟨false,⟨0,0,0,false⟩,⟨0,0,[],0,0,0,0,0,false⟩⟩⟩
instance:Inhabited HDS:=⟨⟨0,0,0,false⟩⟩
abbrev hdH(t n:Int)(x:HDS)(s:MS):aC Ob:=[some (.abs (.head t n x) []),bC 2 s,bD s]
abbrev hdD(t n:Int)(x:HDS)(s:MS):aC Ob:=[cE' [.I t,.I n,.I x.u,.int .u64 x.no,.I x.at',.bool x.tk],bC 2 s,bD s]
def HdO.fin(t n:Int)(y:HdO):Out Ob:=.ite y.d (.ret (.bool true) (hdD t n y.x y.s)) (.ret (.bool false) (hdH t n y.x y.s))
def aBz(t n:Int)(v:AVal)(g:aC Ob):Option (Prop×HdO):=match v,g with
 | .bool d,[some (.cells [.int .i64 t1,.int .i64 n1,.int .i64 u,.int .u64 no,.int .i64 at',.bool tk]),e1,e2]=>(match cM 2 [e1,e2]with
   | some (l,s)=>some ((t1=t∧n1=n)∧l=s.xs.length,⟨d,⟨u,no,at',tk⟩,s⟩)
   | none=>none)
 | _,_=>none
def hdP(t n:Int)(v:AVal)(g:aC Ob):Option (Prop×HdO):=aBz t n v g
theorem U6{t n:Int} :bV (obI tbl) 3 (aBz t n) (HdO.fin t n):=by
 intro v g p x hp hq K hK;unfold aBz at hp;split at hp
 case h_2=>cases hp
 rename_i d t1 n1 u no at' tk e1 e2;split at hp
 case h_2=>cases hp
 rename_i l s hm;simp only [sI',pI']at hp;obtain⟨rfl,rfl⟩:=hp;obtain⟨⟨rfl,rfl⟩,hl⟩:=hq;have hh:=bE hm hl;cases hh;refine qP hK (fun h=>?_) (fun h=>?_)
 ·exact⟨⟨_,_,aG6 _ _ _,h⟩⟩
 ·exact⟨⟨_,_,(aF.pack (hdH t1 n1 (⟨u,no,at',tk⟩:HDS) s) (.head t1 n1 (⟨u,no,at',tk⟩:HDS)) 0 0 (x5 t1 n1 (⟨u,no,at',tk⟩:HDS)) [] (by kernel_rfl) rfl (congrArg (Prod.mk 0) rfl) (by kernel_rfl)),h⟩⟩
theorem aBA{t n:Int} :bV (obI tbl) 3 (hdP t n) (HdO.fin t n):=by
 intro v g p x hp hq K hK;unfold hdP at hp;exact U6 v g p x hp hq K hK
abbrev w08(n:Int)(s:MS)(t:Int)(x:HDS):Tr HdO:=.ret {d:=ile t (W (x.3+1)),x:= {u:=x.3,no:=aE s.3 (2*n+5+2*t+3*x.3),at':=W (x.3+1),tk:=false},s:= {s with c:=s.4+1,k:=1,a:=2*n+5+2*t+3*x.3,o:=aE s.3 (2*n+5+2*t+3*x.3),w:=aE s.3 (2*n+5+2*t+3*x.3),ok:=bT s.3 (2*n+5+2*t+3*x.3) } }
abbrev w09(n t:Int)(x:HDS):=(((0:Int)≤t∧t≤(100000:Int))∧((0:Int)≤n∧n≤(100000:Int))∧(-1099511627776:Int)≤x.3∧x.3≤(1099511627776:Int))∧True
def U7(t n:Int)(x:HDS)(s:MS):Tr HdO:=.ite (!x.4) (.pre (w09 n t x) (.pre ((lE' s.3∧(0:Int)≤s.4∧s.4≤(4611686018427387904:Int))∧True) (.pre True (.pre True (.ite (!nL (aA (aE s.3 (2*n+5+2*t+3*x.3+2)) 49 3)) (.pre ((t=t∧n=n)∧lE' s.3) (.ret {d:=ile t (W (x.3+1)),x:= {u:=x.1,no:=x.2,at':=W (x.3+1),tk:=false},s:= {s with c:=s.4+1,k:=1,a:=2*n+5+2*t+3*x.3+2,o:=aE s.3 (2*n+5+2*t+3*x.3+2),w:=aE s.3 (2*n+5+2*t+3*x.3+2),ok:=bT s.3 (2*n+5+2*t+3*x.3+2) } })) (.pre ((t=t∧n=n)∧lE' s.3) (.ret {d:=false,x:= {x with tk:=nL (aA (aE s.3 (2*n+5+2*t+3*x.3+2)) 49 3) },s:= {s with c:=s.4+1,k:=1,a:=2*n+5+2*t+3*x.3+2,o:=aE s.3 (2*n+5+2*t+3*x.3+2),w:=aE s.3 (2*n+5+2*t+3*x.3+2),ok:=bT s.3 (2*n+5+2*t+3*x.3+2) } }))))))) (.pre (w09 n t x) (.pre ((lE' s.3∧(0:Int)≤s.4∧s.4≤(4611686018427387904:Int))∧True) (.ite (ilt x.1 0) (.pre ((t=t∧n=n)∧lE' s.3) (w08 n s t x)) (.pre True (.ite (yJ x.3 (aE s.3 (2*n+5+2*t+3*x.3)) x.1 x.2) (.pre ((t=t∧n=n)∧lE' s.3) (w08 n s t x)) (.pre ((t=t∧n=n)∧lE' s.3) (.ret {d:=ile t (W (x.3+1)),x:= {u:=x.1,no:=x.2,at':=W (x.3+1),tk:=false},s:= {s with c:=s.4+1,k:=1,a:=2*n+5+2*t+3*x.3,o:=aE s.3 (2*n+5+2*t+3*x.3),w:=aE s.3 (2*n+5+2*t+3*x.3),ok:=bT s.3 (2*n+5+2*t+3*x.3) } })))))))
theorem OB(t n:Int)(x:HDS)(s:MS)(K:HdO→Prop)(h:(U7 t n x s).run K):cT' 150 [.ptr 0 0,.ptr 1 0] [cE' [.I t,.I n,.I x.u,.int .u64 x.no,.I x.at',.bool x.tk],bC 2 s,bD s] (bP 3 0 [] [] (hdP t n) K):=by
 exact cM' (E:=EQ) (by kernel_rfl) h
def hdT(t n:Int)(x:HDS)(s:MS):Tr HdO:=U7 t n x s
def pS(t n:Int)(x:HDS)(s:MS):HdO:=(hdT t n x s).val
def aBy(t n:Int)(x:HDS)(s:MS):Prop:=(hdT t n x s).ok
theorem U8(t n:Int)(x:HDS)(s:MS)(K:AVal→aC Ob→Prop)(h:(hdT t n x s).run (fun y=>(HdO.fin t n y).run K)):cT' 150 [.ptr 0 0,.ptr 1 0] (hdH t n x s) K:=by
 unfold hdT at h;exact aGV (root:=0) (pos:=[]) (cs:=[]) (parse:=hdP t n) (fin:=HdO.fin t n) aBA (aR.unpack (.head t n x) 0 0 (x5 t n x) [] rfl (congrArg (Prod.mk 0) rfl) (by kernel_rfl) rfl) (OB t n x s _ h)
noncomputable def hdS:aH Ob:=fun args h=>match args,h with
 | [.ptr 0 0,.ptr 1 0],[some (.abs (.head t n x) []),e1,e2]=>(match cM 2 [e1,e2]with
   | some (l,s)=>some (.pre (l=s.xs.length∧aBy t n x s) (HdO.fin t n (pS t n x s)))
   | none=>none)
 | _,_=>none
theorem aEn:sT' 150 hdS:=by
 intro args h o ho K hK;unfold hdS at ho;split at ho
 case h_2=>cases ho
 split at ho<;>cases ho
 rename_i hm;obtain⟨⟨hl,ok⟩,hK⟩:=hK;have hh:=bE hm hl;cases hh;exact U8 _ _ _ _ K (aG1 ok hK)
def aBv(t n:Int)(v:AVal)(g:aC Ob):Option (Prop×HDS):=match v,g with
 | .ptr 0 0,[some (.cells [.int .i64 t1,.int .i64 n1,.int .i64 u,.int .u64 no,.int .i64 at',.bool tk])]=>some ((t1=t∧n1=n),(⟨u,no,at',tk⟩:HDS))
 | _,_=>none
abbrev U3(t n:Int)(y:HDS):aC Ob:=[some (.abs (.head t n y) [])]
theorem U4{t n:Int} :bV (obI tbl) 0 (aBv t n) (fun y=>.ret (.ptr 0 0) (U3 t n y)):=by
 intro v g p x hp hq K hK;unfold aBv at hp;split at hp
 case h_2=>cases hp
 rename_i t1 n1 u no at' tk;simp only [sI',pI']at hp;obtain⟨rfl,rfl⟩:=hp;obtain⟨rfl,rfl⟩:=hq;exact⟨⟨_,_,aF.pack (U3 t1 n1 (⟨u,no,at',tk⟩:HDS)) (.head t1 n1 (⟨u,no,at',tk⟩:HDS)) 0 0 (x5 t1 n1 (⟨u,no,at',tk⟩:HDS)) [] (by kernel_rfl) rfl (congrArg (Prod.mk 0) rfl) (by kernel_rfl),hK⟩⟩
def aBw(t n:Int):Tr HDS:=.pre (t=t∧n=n) (.ret {u:= -1,no:=0,at':=0,tk:=false})
def aBu(t n:Int):HDS:=(aBw t n).val
def OA(t n:Int):Prop:=(aBw t n).ok
def hdNS:aH Ob:=fun args h=>match args,h with
 | [.agg [.int .i64 t,.int .i64 n]],[]=>some (.pre (OA t n) (.ret (.ptr 0 0) (U3 t n (aBu t n))))
 | _,_=>none
theorem aBx:sT' 128 hdNS:=by
 intro args h o ho K hK;unfold hdNS at ho;split at ho<;>cases ho
 rename_i t n;obtain⟨ok,hK⟩:=hK;refine aG7 (root:=0) (pos:=[]) (cs:=[]) (parse:=aBv t n) U4 ?_;exact cM' (E:=EQ) (q:=(aBw t n).run (fun y=>(Out.ret (.ptr 0 0) (U3 t n y)).run K)) (by kernel_rfl) (aG1 ok hK)
noncomputable def EC2:=((EQ.addS 150 hdS aEn).addS 128 hdNS aBx)
structure DrO where
 d:Bool
 x:DRS
 s:MS
instance:Inhabited DrO:=⟨⟨false,⟨0,0⟩,⟨0,0,[],0,0,0,0,0,false⟩⟩⟩
instance:Inhabited DRS:=⟨⟨0,0⟩⟩
abbrev drH(t n:Int)(x:DRS)(s:MS):aC Ob:=[some (.abs (.drop t n x) []),bC 2 s,bD s]
abbrev drD(t n:Int)(x:DRS)(s:MS):aC Ob:=[cE' [.I t,.I n,.I x.th,.I x.at'],bC 2 s,bD s]
def DrO.fin(t n:Int)(y:DrO):Out Ob:=.ite y.d (.ret (.bool true) (drD t n y.x y.s)) (.ret (.bool false) (drH t n y.x y.s))
def aAw(t n:Int)(v:AVal)(g:aC Ob):Option (Prop×DrO):=match v,g with
 | .bool d,[some (.cells [.int .i64 t1,.int .i64 n1,.int .i64 th,.int .i64 at']),e1,e2]=>(match cM 2 [e1,e2]with
   | some (l,s)=>some ((t1=t∧n1=n)∧l=s.xs.length,⟨d,⟨th,at'⟩,s⟩)
   | none=>none)
 | _,_=>none
def drP(t n:Int)(v:AVal)(g:aC Ob):Option (Prop×DrO):=aAw t n v g
theorem TD{t n:Int} :bV (obI tbl) 3 (aAw t n) (DrO.fin t n):=by
 intro v g p x hp hq K hK;unfold aAw at hp;split at hp
 case h_2=>cases hp
 rename_i d t1 n1 th at' e1 e2;split at hp
 case h_2=>cases hp
 rename_i l s hm;simp only [sI',pI']at hp;obtain⟨rfl,rfl⟩:=hp;obtain⟨⟨rfl,rfl⟩,hl⟩:=hq;have hh:=bE hm hl;cases hh;refine qP hK (fun h=>?_) (fun h=>?_)
 ·exact⟨⟨_,_,aG6 _ _ _,h⟩⟩
 ·exact⟨⟨_,_,(aF.pack (drH t1 n1 (⟨th,at'⟩:DRS) s) (.drop t1 n1 (⟨th,at'⟩:DRS)) 0 0 (xU t1 n1 (⟨th,at'⟩:DRS)) [] (by kernel_rfl) rfl (congrArg (Prod.mk 0) rfl) (by kernel_rfl)),h⟩⟩
theorem aAx{t n:Int} :bV (obI tbl) 3 (drP t n) (DrO.fin t n):=by
 intro v g p x hp hq K hK;unfold drP at hp;exact TD v g p x hp hq K hK
def TE(t n:Int)(x:DRS)(s:MS):Tr DrO:=.pre ((((0:Int)≤t∧t≤(100000:Int))∧((0:Int)≤n∧n≤(100000:Int))∧((-1099511627776:Int)≤x.1∧x.1≤(1099511627776:Int))∧(-1099511627776:Int)≤x.2∧x.2≤(1099511627776:Int))∧True) (.pre ((lE' s.3∧(0:Int)≤s.4∧s.4≤(4611686018427387904:Int))∧True) (.pre ((t=t∧n=n)∧lE' (aX s.3 (2*n+5+2*x.1+x.2) 0)) (.ret {d:=ile 2 (W (x.2+1)),x:= {th:=x.1,at':=W (x.2+1) },s:= {t:=s.1,n:=s.2,xs:=aX s.3 (2*n+5+2*x.1+x.2) 0,c:=s.4+1,k:=2,a:=2*n+5+2*x.1+x.2,o:=aE s.3 (2*n+5+2*x.1+x.2),w:=bif bT s.3 (2*n+5+2*x.1+x.2)then 0 else 0,ok:=bT s.3 (2*n+5+2*x.1+x.2) } })))
theorem MM(t n:Int)(x:DRS)(s:MS)(K:DrO→Prop)(h:(TE t n x s).run K):cT' 166 [.ptr 0 0,.ptr 1 0] [cE' [.I t,.I n,.I x.th,.I x.at'],bC 2 s,bD s] (bP 3 0 [] [] (drP t n) K):=by
 exact cM' (E:=EC2) (by kernel_rfl) h
def drT(t n:Int)(x:DRS)(s:MS):Tr DrO:=TE t n x s
def RG(t n:Int)(x:DRS)(s:MS):DrO:=(drT t n x s).val
def aAv(t n:Int)(x:DRS)(s:MS):Prop:=(drT t n x s).ok
theorem TF(t n:Int)(x:DRS)(s:MS)(K:AVal→aC Ob→Prop)(h:(drT t n x s).run (fun y=>(DrO.fin t n y).run K)):cT' 166 [.ptr 0 0,.ptr 1 0] (drH t n x s) K:=by
 unfold drT at h;exact aGV (root:=0) (pos:=[]) (cs:=[]) (parse:=drP t n) (fin:=DrO.fin t n) aAx (aR.unpack (.drop t n x) 0 0 (xU t n x) [] rfl (congrArg (Prod.mk 0) rfl) (by kernel_rfl) rfl) (MM t n x s _ h)
noncomputable def drS:aH Ob:=fun args h=>match args,h with
 | [.ptr 0 0,.ptr 1 0],[some (.abs (.drop t n x) []),e1,e2]=>(match cM 2 [e1,e2]with
   | some (l,s)=>some (.pre (l=s.xs.length∧aAv t n x s) (DrO.fin t n (RG t n x s)))
   | none=>none)
 | _,_=>none
theorem aDw:sT' 166 drS:=by
 intro args h o ho K hK;unfold drS at ho;split at ho
 case h_2=>cases ho
 split at ho<;>cases ho
 rename_i hm;obtain⟨⟨hl,ok⟩,hK⟩:=hK;have hh:=bE hm hl;cases hh;exact TF _ _ _ _ K (aG1 ok hK)
def aAs(t n:Int)(v:AVal)(g:aC Ob):Option (Prop×DRS):=match v,g with
 | .ptr 0 0,[some (.cells [.int .i64 t1,.int .i64 n1,.int .i64 th,.int .i64 at'])]=>some ((t1=t∧n1=n),(⟨th,at'⟩:DRS))
 | _,_=>none
abbrev TA(t n:Int)(y:DRS):aC Ob:=[some (.abs (.drop t n y) [])]
theorem TB{t n:Int} :bV (obI tbl) 0 (aAs t n) (fun y=>.ret (.ptr 0 0) (TA t n y)):=by
 intro v g p x hp hq K hK;unfold aAs at hp;split at hp
 case h_2=>cases hp
 rename_i t1 n1 th at';simp only [sI',pI']at hp;obtain⟨rfl,rfl⟩:=hp;obtain⟨rfl,rfl⟩:=hq;exact⟨⟨_,_,aF.pack (TA t1 n1 (⟨th,at'⟩:DRS)) (.drop t1 n1 (⟨th,at'⟩:DRS)) 0 0 (xU t1 n1 (⟨th,at'⟩:DRS)) [] (by kernel_rfl) rfl (congrArg (Prod.mk 0) rfl) (by kernel_rfl),hK⟩⟩
def aAt(t n:Int)(u:Int):Tr DRS:=.pre (t=t∧n=n) (.ret {th:=u,at':=0})
def AM(t n:Int)(u:Int):DRS:=(aAt t n u).val
def sE(t n:Int)(u:Int):Prop:=(aAt t n u).ok
def drNS:aH Ob:=fun args h=>match args,h with
 | [.agg [.int .i64 t,.int .i64 n],.int .i64 u],[]=>some (.pre (sE t n u) (.ret (.ptr 0 0) (TA t n (AM t n u))))
 | _,_=>none
theorem aAu:sT' 233 drNS:=by
 intro args h o ho K hK;unfold drNS at ho;split at ho<;>cases ho
 rename_i t n u;obtain⟨ok,hK⟩:=hK;refine aG7 (root:=0) (pos:=[]) (cs:=[]) (parse:=aAs t n) TB ?_;exact cM' (E:=EC2) (q:=(aAt t n u).run (fun y=>(Out.ret (.ptr 0 0) (TA t n y)).run K)) (by kernel_rfl) (aG1 ok hK)
noncomputable def EC3:=((EC2.addS 166 drS aDw).addS 233 drNS aAu)
structure AnO where
 d:Bool
 x:ANS
 s:MS
instance:Inhabited AnO:=⟨⟨false,⟨0,0,0,0,false,0⟩,⟨0,0,[],0,0,0,0,0,false⟩⟩⟩
instance:Inhabited ANS:=⟨⟨0,0,0,0,false,0⟩⟩
abbrev anH(t n:Int)(x:ANS)(s:MS):aC Ob:=[some (.abs (.announce t n x) []),bC 2 s,bD s]
abbrev anD(t n:Int)(x:ANS)(s:MS):aC Ob:=[cE' [.I t,.I n,.int .u64 x.no,.I x.me,.I x.at',.int .u64 x.bits,.bool x.wrong,.int .u64 x.found],bC 2 s,bD s]
def AnO.fin(t n:Int)(y:AnO):Out Ob:=.ite y.d (.ret (.bool true) (anD t n y.x y.s)) (.ret (.bool false) (anH t n y.x y.s))
def ZO(t n:Int)(v:AVal)(g:aC Ob):Option (Prop×AnO):=match v,g with
 | .bool d,[some (.cells [.int .i64 t1,.int .i64 n1,.int .u64 no,.int .i64 me,.int .i64 at',.int .u64 bits,.bool wrong,.int .u64 found]),e1,e2]=>(match cM 2 [e1,e2]with
   | some (l,s)=>some ((t1=t∧n1=n)∧l=s.xs.length,⟨d,⟨no,me,at',bits,wrong,found⟩,s⟩)
   | none=>none)
 | _,_=>none
def LH(t n:Int)(v:AVal)(g:aC Ob):Option (Prop×AnO):=ZO t n v g
theorem RZ{t n:Int} :bV (obI tbl) 3 (ZO t n) (AnO.fin t n):=by
 intro v g p x hp hq K hK;unfold ZO at hp;split at hp
 case h_2=>cases hp
 rename_i d t1 n1 no me at' bits wrong found e1 e2;split at hp
 case h_2=>cases hp
 rename_i l s hm;simp only [sI',pI']at hp;obtain⟨rfl,rfl⟩:=hp;obtain⟨⟨rfl,rfl⟩,hl⟩:=hq;have hh:=bE hm hl;cases hh;refine qP hK (fun h=>?_) (fun h=>?_)
 ·exact⟨⟨_,_,aG6 _ _ _,h⟩⟩
 ·exact⟨⟨_,_,(aF.pack (anH t1 n1 (⟨no,me,at',bits,wrong,found⟩:ANS) s) (.announce t1 n1 (⟨no,me,at',bits,wrong,found⟩:ANS)) 0 0 (eM t1 n1 (⟨no,me,at',bits,wrong,found⟩:ANS)) [] (by kernel_rfl) rfl (congrArg (Prod.mk 0) rfl) (by kernel_rfl)),h⟩⟩
theorem tV{t n:Int} :bV (obI tbl) 3 (LH t n) (AnO.fin t n):=by
 intro v g p x hp hq K hK;unfold LH at hp;exact RZ v g p x hp hq K hK
abbrev w0a(n t:Int)(x:ANS):=(((0:Int)≤t∧t≤(100000:Int))∧((0:Int)≤n∧n≤(100000:Int))∧(-1099511627776:Int)≤x.2∧x.2≤(1099511627776:Int))∧True
def zJ(t n:Int)(x:ANS)(s:MS):Tr AnO:=.ite x.5 (.pre (lE' s.3∧(0:Int)≤s.4∧s.4≤(4611686018427387904:Int)) (.pre ((t=t∧n=n)∧lE' s.3) (.ret {d:=true,x:= {x with at':=0},s:= {s with c:=s.4+1,k:=1,a:=0,o:=aE s.3 0,w:=aE s.3 0,ok:=bT s.3 0} }))) (.pre (w0a n t x) (.pre ((lE' s.3∧(0:Int)≤s.4∧s.4≤(4611686018427387904:Int))∧True) (.pre ((t=t∧n=n)∧lE' (aX s.3 (2*n+5+2*t+3*x.2+1) x.4)) (.ret {d:=false,x:= {x with at':=W (0+1)},s:= {t:=s.1,n:=s.2,xs:=aX s.3 (2*n+5+2*t+3*x.2+1) x.4,c:=s.4+1,k:=2,a:=2*n+5+2*t+3*x.2+1,o:=aE s.3 (2*n+5+2*t+3*x.2+1),w:=bif bT s.3 (2*n+5+2*t+3*x.2+1)then x.4 else 0,ok:=bT s.3 (2*n+5+2*t+3*x.2+1) } }))))
theorem HW(t n:Int)(x:ANS)(s:MS)(K:AnO→Prop)(h:(zJ t n x s).run K):cT' 158 [.ptr 0 0,.ptr 1 0] [cE' [.I t,.I n,.int .u64 x.no,.I x.me,.I 0,.int .u64 x.bits,.bool x.wrong,.int .u64 x.found],bC 2 s,bD s] (bP 3 0 [] [] (LH t n) K):=by
 exact cM' (E:=EC3) (by kernel_rfl) h
def zK(t n:Int)(x:ANS)(s:MS):Tr AnO:=.ite x.5 (.pre (lE' s.3∧(0:Int)≤s.4∧s.4≤(4611686018427387904:Int)) (.pre ((t=t∧n=n)∧lE' s.3) (.ret {d:=true,x:= {x with at':=1},s:= {s with c:=s.4+1,k:=1,a:=0,o:=aE s.3 0,w:=aE s.3 0,ok:=bT s.3 0} }))) (.pre (((0:Int)≤t∧t≤(100000:Int))∧(0:Int)≤n∧n≤(100000:Int)) (.pre (lE' s.3∧(0:Int)≤s.4∧s.4≤(4611686018427387904:Int)) (.pre ((t=t∧n=n)∧lE' (aX s.3 (2*n+5+2*t+3*t) (WU (aE s.3 (2*n+5+2*t+3*t)+1)))) (.ret {d:=false,x:= {x with no:=WU (aE s.3 (2*n+5+2*t+3*t)+1),at':=W (1+1)},s:= {t:=s.1,n:=s.2,xs:=aX s.3 (2*n+5+2*t+3*t) (WU (aE s.3 (2*n+5+2*t+3*t)+1)),c:=s.4+1,k:=4,a:=2*n+5+2*t+3*t,o:=aE s.3 (2*n+5+2*t+3*t),w:=bif bT s.3 (2*n+5+2*t+3*t)then WU (aE s.3 (2*n+5+2*t+3*t)+1)else 0,ok:=bT s.3 (2*n+5+2*t+3*t) } }))))
theorem HX(t n:Int)(x:ANS)(s:MS)(K:AnO→Prop)(h:(zK t n x s).run K):cT' 158 [.ptr 0 0,.ptr 1 0] [cE' [.I t,.I n,.int .u64 x.no,.I x.me,.I 1,.int .u64 x.bits,.bool x.wrong,.int .u64 x.found],bC 2 s,bD s] (bP 3 0 [] [] (LH t n) K):=by
 exact cM' (E:=EC3) (by kernel_rfl) h
def zL(t n:Int)(x:ANS)(s:MS):Tr AnO:=.ite x.5 (.pre (lE' s.3∧(0:Int)≤s.4∧s.4≤(4611686018427387904:Int)) (.pre ((t=t∧n=n)∧lE' s.3) (.ret {d:=true,x:= {x with at':=2},s:= {s with c:=s.4+1,k:=1,a:=0,o:=aE s.3 0,w:=aE s.3 0,ok:=bT s.3 0} }))) (.pre (w0a n t x) (.pre ((lE' s.3∧(0:Int)≤s.4∧s.4≤(4611686018427387904:Int))∧True) (.pre ((t=t∧n=n)∧lE' (aX s.3 (2*n+5+2*t+3*x.2) x.1)) (.ret {d:=false,x:= {x with at':=W (2+1)},s:= {t:=s.1,n:=s.2,xs:=aX s.3 (2*n+5+2*t+3*x.2) x.1,c:=s.4+1,k:=2,a:=2*n+5+2*t+3*x.2,o:=aE s.3 (2*n+5+2*t+3*x.2),w:=bif bT s.3 (2*n+5+2*t+3*x.2)then x.1 else 0,ok:=bT s.3 (2*n+5+2*t+3*x.2) } }))))
theorem HY(t n:Int)(x:ANS)(s:MS)(K:AnO→Prop)(h:(zL t n x s).run K):cT' 158 [.ptr 0 0,.ptr 1 0] [cE' [.I t,.I n,.int .u64 x.no,.I x.me,.I 2,.int .u64 x.bits,.bool x.wrong,.int .u64 x.found],bC 2 s,bD s] (bP 3 0 [] [] (LH t n) K):=by
 exact cM' (E:=EC3) (by kernel_rfl) h
def zM(t n:Int)(x:ANS)(s:MS):Tr AnO:=.ite x.5 (.pre (lE' s.3∧(0:Int)≤s.4∧s.4≤(4611686018427387904:Int)) (.pre ((t=t∧n=n)∧lE' s.3) (.ret {d:=true,x:= {x with at':=3},s:= {s with c:=s.4+1,k:=1,a:=0,o:=aE s.3 0,w:=aE s.3 0,ok:=bT s.3 0} }))) (.pre (w0a n t x) (.pre ((lE' s.3∧(0:Int)≤s.4∧s.4≤(4611686018427387904:Int))∧True) (.pre ((t=t∧n=n)∧lE' s.3) (.ret {d:=false,x:= {x with at':=W (3+1),found:=aE s.3 (2*n+5+2*t+3*x.2+2) },s:= {s with c:=s.4+1,k:=1,a:=2*n+5+2*t+3*x.2+2,o:=aE s.3 (2*n+5+2*t+3*x.2+2),w:=aE s.3 (2*n+5+2*t+3*x.2+2),ok:=bT s.3 (2*n+5+2*t+3*x.2+2) } }))))
theorem HZ(t n:Int)(x:ANS)(s:MS)(K:AnO→Prop)(h:(zM t n x s).run K):cT' 158 [.ptr 0 0,.ptr 1 0] [cE' [.I t,.I n,.int .u64 x.no,.I x.me,.I 3,.int .u64 x.bits,.bool x.wrong,.int .u64 x.found],bC 2 s,bD s] (bP 3 0 [] [] (LH t n) K):=by
 exact cM' (E:=EC3) (by kernel_rfl) h
abbrev w0b(x:ANS):=eN (aA x.6 0 12)
def zN(t n:Int)(x:ANS)(s:MS):Tr AnO:=.ite x.5 (.pre (lE' s.3∧(0:Int)≤s.4∧s.4≤(4611686018427387904:Int)) (.pre ((t=t∧n=n)∧lE' s.3) (.ret {d:=true,x:= {x with at':=4},s:= {s with c:=s.4+1,k:=1,a:=0,o:=aE s.3 0,w:=aE s.3 0,ok:=bT s.3 0} }))) (.pre True (.pre ((0:Int)≤aA x.6 0 12∧aA x.6 0 (12:Int)≤(1000000:Int)) (.pre True (.pre (w0a n t x) (.pre ((lE' s.3∧(0:Int)≤s.4∧s.4≤(4611686018427387904:Int))∧True) (.pre ((t=t∧n=n)∧lE' (aX s.3 (2*n+5+2*t+3*x.2+2) (bif dOk (w0b x) 0 0 0 1 0 then cJ (w0b x) 0 0 0 false 1 0 else 0))) (.ret {d:=true,x:= {x with at':=W (4+1)},s:= {t:=s.1,n:=s.2,xs:=aX s.3 (2*n+5+2*t+3*x.2+2) (bif dOk (w0b x) 0 0 0 1 0 then cJ (w0b x) 0 0 0 false 1 0 else 0),c:=s.4+1,k:=2,a:=2*n+5+2*t+3*x.2+2,o:=aE s.3 (2*n+5+2*t+3*x.2+2),w:=bif bT s.3 (2*n+5+2*t+3*x.2+2)then bif dOk (w0b x) 0 0 0 1 0 then cJ (w0b x) 0 0 0 false 1 0 else 0 else 0,ok:=bT s.3 (2*n+5+2*t+3*x.2+2) } })))))))
theorem H0(t n:Int)(x:ANS)(s:MS)(K:AnO→Prop)(h:(zN t n x s).run K):cT' 158 [.ptr 0 0,.ptr 1 0] [cE' [.I t,.I n,.int .u64 x.no,.I x.me,.I 4,.int .u64 x.bits,.bool x.wrong,.int .u64 x.found],bC 2 s,bD s] (bP 3 0 [] [] (LH t n) K):=by
 exact cM' (E:=EC3) (by kernel_rfl) h
def anT(t n:Int)(x:ANS)(s:MS):Tr AnO:=
 bif ieq x.at' 0 then zJ t n x s else
 bif ieq x.at' 1 then zK t n x s else
 bif ieq x.at' 2 then zL t n x s else
 bif ieq x.at' 3 then zM t n x s else
 bif ieq x.at' 4 then zN t n x s else .pre False (.ret default)
def DR(t n:Int)(x:ANS)(s:MS):AnO:=(anT t n x s).val
def ZN(t n:Int)(x:ANS)(s:MS):Prop:=(anT t n x s).ok
theorem R0(t n:Int)(x:ANS)(s:MS)(K:AVal→aC Ob→Prop)(h:(anT t n x s).run (fun y=>(AnO.fin t n y).run K)):cT' 158 [.ptr 0 0,.ptr 1 0] (anH t n x s) K:=by
 unfold anT at h
 by_cases e:x.at'=0
 ·rw [e]at h;have h:(zJ t n x s).run _:=h;refine aGV (root:=0) (pos:=[]) (cs:=[]) (parse:=LH t n) (fin:=AnO.fin t n) tV (aR.unpack (.announce t n x) 0 0 (eM t n x) [] rfl (congrArg (Prod.mk 0) rfl) (by kernel_rfl) rfl) ?_
  have q:=HW t n x s _ h;rw [←e]at q;exact q
 rw [bL e]at h
 by_cases e:x.at'=1
 ·rw [e]at h;have h:(zK t n x s).run _:=h;refine aGV (root:=0) (pos:=[]) (cs:=[]) (parse:=LH t n) (fin:=AnO.fin t n) tV (aR.unpack (.announce t n x) 0 0 (eM t n x) [] rfl (congrArg (Prod.mk 0) rfl) (by kernel_rfl) rfl) ?_
  have q:=HX t n x s _ h;rw [←e]at q;exact q
 rw [bL e]at h
 by_cases e:x.at'=2
 ·rw [e]at h;have h:(zL t n x s).run _:=h;refine aGV (root:=0) (pos:=[]) (cs:=[]) (parse:=LH t n) (fin:=AnO.fin t n) tV (aR.unpack (.announce t n x) 0 0 (eM t n x) [] rfl (congrArg (Prod.mk 0) rfl) (by kernel_rfl) rfl) ?_
  have q:=HY t n x s _ h;rw [←e]at q;exact q
 rw [bL e]at h
 by_cases e:x.at'=3
 ·rw [e]at h;have h:(zM t n x s).run _:=h;refine aGV (root:=0) (pos:=[]) (cs:=[]) (parse:=LH t n) (fin:=AnO.fin t n) tV (aR.unpack (.announce t n x) 0 0 (eM t n x) [] rfl (congrArg (Prod.mk 0) rfl) (by kernel_rfl) rfl) ?_
  have q:=HZ t n x s _ h;rw [←e]at q;exact q
 rw [bL e]at h
 by_cases e:x.at'=4
 ·rw [e]at h;have h:(zN t n x s).run _:=h;refine aGV (root:=0) (pos:=[]) (cs:=[]) (parse:=LH t n) (fin:=AnO.fin t n) tV (aR.unpack (.announce t n x) 0 0 (eM t n x) [] rfl (congrArg (Prod.mk 0) rfl) (by kernel_rfl) rfl) ?_
  have q:=H0 t n x s _ h;rw [←e]at q;exact q
 rw [bL e]at h;exact h.1.elim
noncomputable def anS:aH Ob:=fun args h=>match args,h with
 | [.ptr 0 0,.ptr 1 0],[some (.abs (.announce t n x) []),e1,e2]=>(match cM 2 [e1,e2]with
   | some (l,s)=>some (.pre (l=s.xs.length∧ZN t n x s) (AnO.fin t n (DR t n x s)))
   | none=>none)
 | _,_=>none
theorem aDg:sT' 158 anS:=by
 intro args h o ho K hK;unfold anS at ho;split at ho
 case h_2=>cases ho
 split at ho<;>cases ho
 rename_i hm;obtain⟨⟨hl,ok⟩,hK⟩:=hK;have hh:=bE hm hl;cases hh;exact R0 _ _ _ _ K (aG1 ok hK)
def ZK(t n:Int)(v:AVal)(g:aC Ob):Option (Prop×ANS):=match v,g with
 | .ptr 0 0,[some (.cells [.int .i64 t1,.int .i64 n1,.int .u64 no,.int .i64 me,.int .i64 at',.int .u64 bits,.bool wrong,.int .u64 found])]=>some ((t1=t∧n1=n),(⟨no,me,at',bits,wrong,found⟩:ANS))
 | _,_=>none
abbrev RW(t n:Int)(y:ANS):aC Ob:=[some (.abs (.announce t n y) [])]
theorem RX{t n:Int} :bV (obI tbl) 0 (ZK t n) (fun y=>.ret (.ptr 0 0) (RW t n y)):=by
 intro v g p x hp hq K hK;unfold ZK at hp;split at hp
 case h_2=>cases hp
 rename_i t1 n1 no me at' bits wrong found;simp only [sI',pI']at hp;obtain⟨rfl,rfl⟩:=hp;obtain⟨rfl,rfl⟩:=hq;exact⟨⟨_,_,aF.pack (RW t1 n1 (⟨no,me,at',bits,wrong,found⟩:ANS)) (.announce t1 n1 (⟨no,me,at',bits,wrong,found⟩:ANS)) 0 0 (eM t1 n1 (⟨no,me,at',bits,wrong,found⟩:ANS)) [] (by kernel_rfl) rfl (congrArg (Prod.mk 0) rfl) (by kernel_rfl),hK⟩⟩
def ZL(t n:Int)(u sh kd ky:Int):Tr ANS:=.pre True (.pre (t=t∧n=n) (.ret {no:=0,me:=u,at':=0,bits:=bif b9 sh kd ky then tskV sh kd ky else 0,wrong:=!ieq (bif b9 sh kd ky then 0 else 1) 0,found:=0}))
def ZJ(t n:Int)(u sh kd ky:Int):ANS:=(ZL t n u sh kd ky).val
def LY(t n:Int)(u sh kd ky:Int):Prop:=(ZL t n u sh kd ky).ok
def anNS:aH Ob:=fun args h=>match args,h with
 | [.agg [.int .i64 t,.int .i64 n],.int .i64 u,.agg [.int .i64 sh,.int .i64 kd,.int .i64 ky]],[]=>some (.pre (LY t n u sh kd ky) (.ret (.ptr 0 0) (RW t n (ZJ t n u sh kd ky))))
 | _,_=>none
theorem ZM:sT' 220 anNS:=by
 intro args h o ho K hK;unfold anNS at ho;split at ho<;>cases ho
 rename_i t n u sh kd ky;obtain⟨ok,hK⟩:=hK;refine aG7 (root:=0) (pos:=[]) (cs:=[]) (parse:=ZK t n) RX ?_;exact cM' (E:=EC3) (q:=(ZL t n u sh kd ky).run (fun y=>(Out.ret (.ptr 0 0) (RW t n y)).run K)) (by kernel_rfl) (aG1 ok hK)
noncomputable def EC4:=((EC3.addS 158 anS aDg).addS 220 anNS ZM)
structure AwO where
 d:Bool
 x:AWS
 s:MS
instance:Inhabited AwO:=⟨⟨false,⟨0,false,0,0⟩,⟨0,0,[],0,0,0,0,0,false⟩⟩⟩
instance:Inhabited AWS:=⟨⟨0,false,0,0⟩⟩
abbrev awH(t n:Int)(x:AWS)(s:MS):aC Ob:=[some (.abs (.answer t n x) []),bC 2 s,bD s]
abbrev awD(t n:Int)(x:AWS)(s:MS):aC Ob:=[cE' [.I t,.I n,.I x.code,.bool x.okk,.I x.val,.I x.me],bC 2 s,bD s]
def AwO.fin(t n:Int)(y:AwO):Out Ob:=.ite y.d (.ret (.bool true) (awD t n y.x y.s)) (.ret (.bool false) (awH t n y.x y.s))
def ZW(t n:Int)(v:AVal)(g:aC Ob):Option (Prop×AwO):=match v,g with
 | .bool d,[some (.cells [.int .i64 t1,.int .i64 n1,.int .i64 code,.bool okk,.int .i64 val,.int .i64 me]),e1,e2]=>(match cM 2 [e1,e2]with
   | some (l,s)=>some ((t1=t∧n1=n)∧l=s.xs.length,⟨d,⟨code,okk,val,me⟩,s⟩)
   | none=>none)
 | _,_=>none
def awP(t n:Int)(v:AVal)(g:aC Ob):Option (Prop×AwO):=ZW t n v g
theorem SB{t n:Int} :bV (obI tbl) 3 (ZW t n) (AwO.fin t n):=by
 intro v g p x hp hq K hK;unfold ZW at hp;split at hp
 case h_2=>cases hp
 rename_i d t1 n1 code okk val me e1 e2;split at hp
 case h_2=>cases hp
 rename_i l s hm;simp only [sI',pI']at hp;obtain⟨rfl,rfl⟩:=hp;obtain⟨⟨rfl,rfl⟩,hl⟩:=hq;have hh:=bE hm hl;cases hh;refine qP hK (fun h=>?_) (fun h=>?_)
 ·exact⟨⟨_,_,aG6 _ _ _,h⟩⟩
 ·exact⟨⟨_,_,(aF.pack (awH t1 n1 (⟨code,okk,val,me⟩:AWS) s) (.answer t1 n1 (⟨code,okk,val,me⟩:AWS)) 0 0 (pV t1 n1 (⟨code,okk,val,me⟩:AWS)) [] (by kernel_rfl) rfl (congrArg (Prod.mk 0) rfl) (by kernel_rfl)),h⟩⟩
theorem ZX{t n:Int} :bV (obI tbl) 3 (awP t n) (AwO.fin t n):=by
 intro v g p x hp hq K hK;unfold awP at hp;exact SB v g p x hp hq K hK
abbrev w0c(n:Int)(s:MS)(t:Int)(x:AWS):=aE s.3 (2*n+5+2*t+3*x.4+2)
def SC(t n:Int)(x:AWS)(s:MS):Tr AwO:=.pre ((((0:Int)≤t∧t≤(100000:Int))∧((0:Int)≤n∧n≤(100000:Int))∧(-1099511627776:Int)≤x.4∧x.4≤(1099511627776:Int))∧True) (.pre ((lE' s.3∧(0:Int)≤s.4∧s.4≤(4611686018427387904:Int))∧True) (.pre True (.pre True (.pre ((t=t∧n=n)∧lE' s.3) (.ret {d:=true,x:= {code:=resC (aA (w0c n s t x) 39 9) (aA (w0c n s t x) 49 3),okk:=WP (aA (w0c n s t x) 39 9) (aA (w0c n s t x) 49 3) (ieq (aA (w0c n s t x) 48 1) 1),val:=WQ (aA (w0c n s t x) 39 9) (aA (w0c n s t x) 49 3) (aA (w0c n s t x) 52 10),me:=x.4},s:= {s with c:=s.4+1,k:=1,a:=2*n+5+2*t+3*x.4+2,o:=aE s.3 (2*n+5+2*t+3*x.4+2),w:=aE s.3 (2*n+5+2*t+3*x.4+2),ok:=bT s.3 (2*n+5+2*t+3*x.4+2) } })))))
theorem L1(t n:Int)(x:AWS)(s:MS)(K:AwO→Prop)(h:(SC t n x s).run K):cT' 161 [.ptr 0 0,.ptr 1 0] [cE' [.I t,.I n,.I x.code,.bool x.okk,.I x.val,.I x.me],bC 2 s,bD s] (bP 3 0 [] [] (awP t n) K):=by
 exact cM' (E:=EC4) (by kernel_rfl) h
def awT(t n:Int)(x:AWS)(s:MS):Tr AwO:=SC t n x s
def sD(t n:Int)(x:AWS)(s:MS):AwO:=(awT t n x s).val
def ZV(t n:Int)(x:AWS)(s:MS):Prop:=(awT t n x s).ok
theorem SD(t n:Int)(x:AWS)(s:MS)(K:AVal→aC Ob→Prop)(h:(awT t n x s).run (fun y=>(AwO.fin t n y).run K)):cT' 161 [.ptr 0 0,.ptr 1 0] (awH t n x s) K:=by
 unfold awT at h;exact aGV (root:=0) (pos:=[]) (cs:=[]) (parse:=awP t n) (fin:=AwO.fin t n) ZX (aR.unpack (.answer t n x) 0 0 (pV t n x) [] rfl (congrArg (Prod.mk 0) rfl) (by kernel_rfl) rfl) (L1 t n x s _ h)
noncomputable def awS:aH Ob:=fun args h=>match args,h with
 | [.ptr 0 0,.ptr 1 0],[some (.abs (.answer t n x) []),e1,e2]=>(match cM 2 [e1,e2]with
   | some (l,s)=>some (.pre (l=s.xs.length∧ZV t n x s) (AwO.fin t n (sD t n x s)))
   | none=>none)
 | _,_=>none
theorem aDl:sT' 161 awS:=by
 intro args h o ho K hK;unfold awS at ho;split at ho
 case h_2=>cases ho
 split at ho<;>cases ho
 rename_i hm;obtain⟨⟨hl,ok⟩,hK⟩:=hK;have hh:=bE hm hl;cases hh;exact SD _ _ _ _ K (aG1 ok hK)
def ZS(t n:Int)(v:AVal)(g:aC Ob):Option (Prop×AWS):=match v,g with
 | .ptr 0 0,[some (.cells [.int .i64 t1,.int .i64 n1,.int .i64 code,.bool okk,.int .i64 val,.int .i64 me])]=>some ((t1=t∧n1=n),(⟨code,okk,val,me⟩:AWS))
 | _,_=>none
abbrev R8(t n:Int)(y:AWS):aC Ob:=[some (.abs (.answer t n y) [])]
theorem R9{t n:Int} :bV (obI tbl) 0 (ZS t n) (fun y=>.ret (.ptr 0 0) (R8 t n y)):=by
 intro v g p x hp hq K hK;unfold ZS at hp;split at hp
 case h_2=>cases hp
 rename_i t1 n1 code okk val me;simp only [sI',pI']at hp;obtain⟨rfl,rfl⟩:=hp;obtain⟨rfl,rfl⟩:=hq;exact⟨⟨_,_,aF.pack (R8 t1 n1 (⟨code,okk,val,me⟩:AWS)) (.answer t1 n1 (⟨code,okk,val,me⟩:AWS)) 0 0 (pV t1 n1 (⟨code,okk,val,me⟩:AWS)) [] (by kernel_rfl) rfl (congrArg (Prod.mk 0) rfl) (by kernel_rfl),hK⟩⟩
def ZT(t n:Int)(u:Int):Tr AWS:=.pre (t=t∧n=n) (.ret {code:=0,okk:=false,val:=0,me:=u})
def ZR(t n:Int)(u:Int):AWS:=(ZT t n u).val
def L0(t n:Int)(u:Int):Prop:=(ZT t n u).ok
def awNS:aH Ob:=fun args h=>match args,h with
 | [.agg [.int .i64 t,.int .i64 n],.int .i64 u],[]=>some (.pre (L0 t n u) (.ret (.ptr 0 0) (R8 t n (ZR t n u))))
 | _,_=>none
theorem ZU:sT' 160 awNS:=by
 intro args h o ho K hK;unfold awNS at ho;split at ho<;>cases ho
 rename_i t n u;obtain⟨ok,hK⟩:=hK;refine aG7 (root:=0) (pos:=[]) (cs:=[]) (parse:=ZS t n) R9 ?_;exact cM' (E:=EC4) (q:=(ZT t n u).run (fun y=>(Out.ret (.ptr 0 0) (R8 t n y)).run K)) (by kernel_rfl) (aG1 ok hK)
noncomputable def EC5:=((EC4.addS 161 awS aDl).addS 160 awNS ZU)
def GA:bH Ob:=fun args h=>match args,h with
 | [.ptr 0 0],[some (.cells [.int .i64 t,.int .i64 n,.int .i64 pop,.int .i64 gave,.int .i64 u,.int .i64 sh,.int .i64 kd,.int .i64 ky,.bool only,.int .i64 att,.int .i64 at',.int .u64 found,.int .u64 word])]=>some (True,.agg [.I (aA found 0 12),.I (aA found 12 9),.I (aA found 21 18),.I (aA found 39 9),.bool (ieq (aA found 48 1) 1),.I (aA found 49 3),.I (aA found 52 10)])
 | _,_=>none
theorem Q0:sT' 281 GA.spec:=by
 intro args h o ho K hK;unfold bH.spec GA at ho;split at ho
 case h_2=>cases ho
 rename_i p v hp;split at hp
 case h_2=>cases hp
 rename_i t n pop gave u sh kd ky only att at' found word;simp only [sI',pI']at hp;obtain⟨rfl,rfl⟩:=hp;simp only [sI']at ho;subst ho;obtain⟨hp,hK⟩:=hK;have hK:K (.agg [.I (aA found 0 12),.I (aA found 12 9),.I (aA found 21 18),.I (aA found 39 9),.bool (ieq (aA found 48 1) 1),.I (aA found 49 3),.I (aA found 52 10)]) [cE' [.I t,.I n,.I pop,.I gave,.I u,.I sh,.I kd,.I ky,.bool only,.I att,.I at',.int .u64 found,.int .u64 word]]:=hK;refine aGU (cM' (E:=EC5) (q:=True∧K (.agg [.I (aA found 0 12),.I (aA found 12 9),.I (aA found 21 18),.I (aA found 39 9),.bool (ieq (aA found 48 1) 1),.I (aA found 49 3),.I (aA found 52 10)]) [cE' [.I t,.I n,.I pop,.I gave,.I u,.I sh,.I kd,.I ky,.bool only,.I att,.I at',.int .u64 found,.int .u64 word]]) (by kernel_rfl) ?_)
 exact⟨trivial,hK⟩
noncomputable def EX1:=EC5.addR 281 GA Q0
def RA(t n pop gave u sh kd ky:Int)(only:Bool)(att at' found word:Int)(k y:Int)(m:Bool)(c v:Int)(s:MS):Out Ob:=.pre True (.pre True (.pre ((lE' s.3∧(0:Int)≤s.4∧s.4≤(4611686018427387904:Int))∧True) (.ret (.bool (aV s.3 (aA found 12 9) word)) [cE' [.I t,.I n,.I pop,.I gave,.I u,.I sh,.I kd,.I ky,.bool only,.I att,.I at',.int .u64 found,.int .u64 word],cE' [.I s.1,.I s.2,.slice 2 0 (List.length (bif aV s.3 (aA found 12 9) word then aX s.3 (aA found 12 9) (bif bif aM k 10 then bif aM y 9 then bif aM c 5 then aM v 18 else false else false else false then cK k y m c v else 0)else s.3)) 1,.I (s.4+1),.I 3,.I (aA found 12 9),.int .u64 (aE s.3 (aA found 12 9)),.int .u64 (bif bT s.3 (aA found 12 9)then bif bif aM k 10 then bif aM y 9 then bif aM c 5 then aM v 18 else false else false else false then cK k y m c v else 0 else 0),.bool (aV s.3 (aA found 12 9) word)],some (.ints (some .u64) (bif aV s.3 (aA found 12 9) word then aX s.3 (aA found 12 9) (bif bif aM k 10 then bif aM y 9 then bif aM c 5 then aM v 18 else false else false else false then cK k y m c v else 0)else s.3))])))
theorem RB(t n pop gave u sh kd ky:Int)(only:Bool)(att at' found word:Int)(k y:Int)(m:Bool)(c v:Int)(s:MS)(K:AVal→aC Ob→Prop)(h:(RA t n pop gave u sh kd ky only att at' found word k y m c v s).run K):cT' 284 [.ptr 0 0,.ptr 1 0,.agg [.I k,.I y,.bool m,.I c,.I v]] [cE' [.I t,.I n,.I pop,.I gave,.I u,.I sh,.I kd,.I ky,.bool only,.I att,.I at',.int .u64 found,.int .u64 word],bC 2 s,bD s] K:=by
 refine aGU (cM' (E:=EX1) (by kernel_rfl) h)
def xputS:aH Ob:=fun args h=>match args,h with
 | [.ptr 0 0,.ptr 1 0,.agg [.int .i64 k,.int .i64 y,.bool m,.int .i64 c,.int .i64 v]],[some (.cells [.int .i64 t,.int .i64 n,.int .i64 pop,.int .i64 gave,.int .i64 u,.int .i64 sh,.int .i64 kd,.int .i64 ky,.bool only,.int .i64 att,.int .i64 at',.int .u64 found,.int .u64 word]),e1,e2]=>(match cM 2 [e1,e2]with
   | some (l,s)=>some (.pre (l=s.xs.length) (RA t n pop gave u sh kd ky only att at' found word k y m c v s))
   | none=>none)
 | _,_=>none
theorem XX:sT' 284 xputS:=by
 intro args h o ho K hK;unfold xputS at ho;split at ho
 case h_2=>cases ho
 split at ho<;>cases ho
 rename_i hm;obtain⟨hl,hK⟩:=hK;have hh:=bE hm hl;cases hh;exact RB _ _ _ _ _ _ _ _ _ _ _ _ _ _ _ _ _ _ _ K hK
def GB(t n pop gave u sh kd ky:Int)(only:Bool)(att at' found word:Int)(a b c d:Int)(m:Bool)(e f:Int)(s:MS):Out Ob:=.pre True (.pre ((((0:Int)≤t∧t≤(100000:Int))∧((0:Int)≤n∧n≤(100000:Int))∧(-1099511627776:Int)≤u∧u≤(1099511627776:Int))∧True) (.pre ((lE' s.3∧(0:Int)≤s.4∧s.4≤(4611686018427387904:Int))∧True) (.ret (.bool (aV s.3 (2*n+5+2*t+3*u+2) found)) [cE' [.I t,.I n,.I pop,.I gave,.I u,.I sh,.I kd,.I ky,.bool only,.I att,.I at',.int .u64 found,.int .u64 word],cE' [.I s.1,.I s.2,.slice 2 0 (List.length (bif aV s.3 (2*n+5+2*t+3*u+2) found then aX s.3 (2*n+5+2*t+3*u+2) (bif dOk a b c d e f then cJ a b c d m e f else 0)else s.3)) 1,.I (s.4+1),.I 3,.I (2*n+5+2*t+3*u+2),.int .u64 (aE s.3 (2*n+5+2*t+3*u+2)),.int .u64 (bif bT s.3 (2*n+5+2*t+3*u+2)then bif dOk a b c d e f then cJ a b c d m e f else 0 else 0),.bool (aV s.3 (2*n+5+2*t+3*u+2) found)],some (.ints (some .u64) (bif aV s.3 (2*n+5+2*t+3*u+2) found then aX s.3 (2*n+5+2*t+3*u+2) (bif dOk a b c d e f then cJ a b c d m e f else 0)else s.3))])))
theorem LF(t n pop gave u sh kd ky:Int)(only:Bool)(att at' found word:Int)(a b c d:Int)(m:Bool)(e f:Int)(s:MS)(K:AVal→aC Ob→Prop)(h:(GB t n pop gave u sh kd ky only att at' found word a b c d m e f s).run K):cT' 286 [.ptr 0 0,.ptr 1 0,.agg [.I a,.I b,.I c,.I d,.bool m,.I e,.I f]] [cE' [.I t,.I n,.I pop,.I gave,.I u,.I sh,.I kd,.I ky,.bool only,.I att,.I at',.int .u64 found,.int .u64 word],bC 2 s,bD s] K:=by
 refine aGU (cM' (E:=EX1) (by kernel_rfl) h)
def xturnS:aH Ob:=fun args h=>match args,h with
 | [.ptr 0 0,.ptr 1 0,.agg [.int .i64 a,.int .i64 b,.int .i64 c,.int .i64 d,.bool m,.int .i64 e,.int .i64 f]],[some (.cells [.int .i64 t,.int .i64 n,.int .i64 pop,.int .i64 gave,.int .i64 u,.int .i64 sh,.int .i64 kd,.int .i64 ky,.bool only,.int .i64 att,.int .i64 at',.int .u64 found,.int .u64 word]),e1,e2]=>(match cM 2 [e1,e2]with
   | some (l,s)=>some (.pre (l=s.xs.length) (GB t n pop gave u sh kd ky only att at' found word a b c d m e f s))
   | none=>none)
 | _,_=>none
theorem RC:sT' 286 xturnS:=by
 intro args h o ho K hK;unfold xturnS at ho;split at ho
 case h_2=>cases ho
 split at ho<;>cases ho
 rename_i hm;obtain⟨hl,hK⟩:=hK;have hh:=bE hm hl;cases hh;exact LF _ _ _ _ _ _ _ _ _ _ _ _ _ _ _ _ _ _ _ _ _ K hK
noncomputable def EX2:=(EX1.addS 284 xputS XX).addS 286 xturnS RC
instance:Inhabited STS:=⟨⟨0,0,[]⟩⟩
end Go.Sh
