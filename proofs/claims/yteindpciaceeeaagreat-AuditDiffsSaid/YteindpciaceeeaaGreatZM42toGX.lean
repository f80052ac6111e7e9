import Derived.Test.YteindpciaceeeaaGreatZM0toM36
set_option linter.all false
set_option maxHeartbeats 8000000
namespace Go.Sh
open Go Go.Proofs
variable [Con]
def alH(t n:Int)(x:AL)(s:MS):aD Ob:=[some (.cells [.int .i64 t,.int .i64 n,.int .i64 x.got,.int .i64 x.at',.int .i64 x.left,.int .u64 x.found,.bool x.free]),some (.cells [.int .i64 s.t,.int .i64 s.n,.slice 2 0 s.xs.length 1,.int .i64 s.c,.int .i64 s.k,.int .i64 s.a,.int .u64 s.o,.int .u64 s.w,.bool s.ok]),some (.ints (some .u64) s.xs)]
def oddB(y:Int):Bool:=!ieq (Int.tmod y 2) 0
def cS(n a:Int):Int:=Int.tmod a n+1
def WO(t n:Int)(x:AL)(s:MS):Out Ob:=.ite x.free
 (.ite (aT s.xs (n+4+x.at') x.found) (.ret (.bool true) (alH t n ⟨x.at',x.at',x.left,x.found,true⟩ (s.cased (n+4+x.at') x.found (WU (x.found+1)))))
   (.ret (.bool (ile (x.left - 1) 0)) (alH t n ⟨x.got,cS n x.at',x.left - 1,x.found,false⟩ (s.cased (n+4+x.at') x.found (WU (x.found+1))))))
 (.ite (oddB (aC s.xs (n+4+x.at'))) (.ret (.bool (ile (x.left - 1) 0)) (alH t n ⟨x.got,cS n x.at',x.left - 1,aC s.xs (n+4+x.at'),false⟩ (s.loadd (n+4+x.at'))))
   (.ret (.bool false) (alH t n ⟨x.got,x.at',x.left,aC s.xs (n+4+x.at'),true⟩ (s.loadd (n+4+x.at')))))
theorem O6(t n:Int)(x:AL)(s:MS)(K:AVal→aD Ob→Prop)(ht:1≤t∧t≤1000)(hn:1≤n∧n≤1000)(ha:1≤x.at'∧x.at'≤n)(hl:0≤x.left∧x.left≤1000)(hc:0≤s.c∧s.c≤1000000)(hK:(WO t n x s).run K):aB E36.I Tryz.prog 211 [.ptr 0 0,.ptr 1 0] (alH t n x s) K:=by
 refine aEA (cM' (E:=E36) (q:=bif !x.5 then((((0:Int)≤t∧t≤(100000:Int))∧((0:Int)≤n∧n≤(100000:Int))∧(-1099511627776:Int)≤x.2∧x.2≤(1099511627776:Int))∧True)∧((lE' s.3∧(0:Int)≤s.4∧s.4≤(4611686018427387904:Int))∧True)∧(2:Int)≠(0:Int)∧bif !ieq (Int.tmod (aC s.3 (n+4+x.2)) 2) 0 then n≠(0:Int)∧K (.bool (ile (W (x.3 - 1)) 0)) [some (.cells [.int .i64 t,.int .i64 n,.int .i64 x.1,.int .i64 (W (Int.tmod x.2 n+1)),.int .i64 (W (x.3 - 1)),.int .u64 (aC s.3 (n+4+x.2)),.bool false]),some (.cells [.int .i64 s.1,.int .i64 s.2,.slice 2 0 s.3.length 1,.int .i64 (s.4+1),.int .i64 1,.int .i64 (n+4+x.2),.int .u64 (aC s.3 (n+4+x.2)),.int .u64 (aC s.3 (n+4+x.2)),.bool (bQ s.3 (n+4+x.2))]),some (.ints (some .u64) s.3)]else K (.bool false) [some (.cells [.int .i64 t,.int .i64 n,.int .i64 x.1,.int .i64 x.2,.int .i64 x.3,.int .u64 (aC s.3 (n+4+x.2)),.bool (ieq (Int.tmod (aC s.3 (n+4+x.2)) 2) 0)]),some (.cells [.int .i64 s.1,.int .i64 s.2,.slice 2 0 s.3.length 1,.int .i64 (s.4+1),.int .i64 1,.int .i64 (n+4+x.2),.int .u64 (aC s.3 (n+4+x.2)),.int .u64 (aC s.3 (n+4+x.2)),.bool (bQ s.3 (n+4+x.2))]),some (.ints (some .u64) s.3)]else((((0:Int)≤t∧t≤(100000:Int))∧((0:Int)≤n∧n≤(100000:Int))∧(-1099511627776:Int)≤x.2∧x.2≤(1099511627776:Int))∧True)∧((lE' s.3∧(0:Int)≤s.4∧s.4≤(4611686018427387904:Int))∧True)∧bif aT s.3 (n+4+x.2) x.4 then K (.bool true) [some (.cells [.int .i64 t,.int .i64 n,.int .i64 x.2,.int .i64 x.2,.int .i64 x.3,.int .u64 x.4,.bool x.5]),some (.cells [.int .i64 s.1,.int .i64 s.2,.slice 2 0 (List.length (bif aT s.3 (n+4+x.2) x.4 then aV s.3 (n+4+x.2) (WU (x.4+1))else s.3)) 1,.int .i64 (s.4+1),.int .i64 3,.int .i64 (n+4+x.2),.int .u64 (aC s.3 (n+4+x.2)),.int .u64 (bif bQ s.3 (n+4+x.2)then WU (x.4+1)else 0),.bool (aT s.3 (n+4+x.2) x.4)]),some (.ints (some .u64) (bif aT s.3 (n+4+x.2) x.4 then aV s.3 (n+4+x.2) (WU (x.4+1))else s.3))]else n≠(0:Int)∧K (.bool (ile (W (x.3 - 1)) 0)) [some (.cells [.int .i64 t,.int .i64 n,.int .i64 x.1,.int .i64 (W (Int.tmod x.2 n+1)),.int .i64 (W (x.3 - 1)),.int .u64 x.4,.bool false]),some (.cells [.int .i64 s.1,.int .i64 s.2,.slice 2 0 (List.length (bif aT s.3 (n+4+x.2) x.4 then aV s.3 (n+4+x.2) (WU (x.4+1))else s.3)) 1,.int .i64 (s.4+1),.int .i64 3,.int .i64 (n+4+x.2),.int .u64 (aC s.3 (n+4+x.2)),.int .u64 (bif bQ s.3 (n+4+x.2)then WU (x.4+1)else 0),.bool (aT s.3 (n+4+x.2) x.4)]),some (.ints (some .u64) (bif aT s.3 (n+4+x.2) x.4 then aV s.3 (n+4+x.2) (WU (x.4+1))else s.3))]) (by kernel_rfl) ?_)
 obtain⟨got,at',left,found,free⟩:=x;dsimp only at ha hl⊢;have hm:=UM (x:=at') (t:=n) (by omega) (by omega)
 have e1:W (left - 1)=left - 1:=wY (by omega)
 have e2:W (Int.tmod at' n+1)=cS n at':=wY (by show _≤Int.tmod at' n+1∧Int.tmod at' n+1≤_;omega)
 rw [e1,e2];unfold WO at hK;dsimp only [Out.run]at hK;cases free with
 | false=>
   simp only [cond_false,Bool.not_false,cond_true]at hK⊢;refine⟨⟨by omega,trivial⟩,⟨⟨trivial,by omega⟩,trivial⟩,by omega,?_⟩
   unfold oddB at hK;generalize ho:ieq (Int.tmod (aC s.xs (n+4+at')) 2) 0=b at hK⊢;cases b with
   | false=>exact⟨by omega,hK⟩
   | true=>exact hK
 | true=>
   simp only [cond_true,Bool.not_true,cond_false]at hK⊢;refine⟨⟨by omega,trivial⟩,⟨⟨trivial,by omega⟩,trivial⟩,?_⟩
   unfold alH at hK;cases hb:aT s.xs (n+4+at') found with
   | true=>
     rw [hb]at hK;simp only [cond_true]at hK⊢;unfold MS.cased at hK;rw [hb]at hK;exact hK
   | false=>
     rw [hb]at hK;simp only [cond_false]at hK⊢;unfold MS.cased at hK;rw [hb]at hK;exact⟨by omega,hK⟩
noncomputable def alS:aI Ob:=fun args h=>match args,h with
 | [.ptr 0 0,.ptr 1 0],[some (.cells [.int .i64 t,.int .i64 n,.int .i64 got,.int .i64 at',.int .i64 left,.int .u64 found,.bool free]),e1,e2]=>match cL 2 [e1,e2]with
   | some (l,s)=>some (.pre (l=s.xs.length∧(1≤t∧t≤1000)∧(1≤n∧n≤1000)∧(1≤at'∧at'≤n)∧(0≤left∧left≤1000)∧(0≤s.c∧s.c≤1000000)) (WO t n ⟨got,at',left,found,free⟩ s))
   | none=>none
 | _,_=>none
theorem aBE:aI.ok E36.I Tryz.prog 211 alS:=by
 intro args h o ho K hK;unfold alS at ho;split at ho
 case h_2=>cases ho
 split at ho<;>cases ho
 rename_i hm;obtain⟨⟨hl,ht,hn,ha,hl',hc⟩,hK⟩:=hK;have hh:=bB hm hl;cases hh;exact O6 _ _ _ _ K ht hn ha hl' hc hK
noncomputable def E42:=E36.addS 211 alS aBE
theorem TQ{xs:List Int}(h:TP xs){a x:Int}(hx:0≤x∧x≤18446744073709551615):TP (aV xs a x):=by
 unfold aV;split
 ·refine⟨fun y hy=>?_⟩;rcases List.mem_or_eq_of_mem_set hy with h1 | h1
  ·exact h.h y h1
  ·subst h1;exact hx
 ·exact h
theorem JX(x:Int):0≤WU x∧WU x≤18446744073709551615:=by
 unfold WU;simp only [IntKind.wrap,IntKind.bits,IntKind.signed]
 simp
 omega
structure EO where
 d:Bool
 e:ENS
 st:STS
 s:MS
def at0(t n me:Int):Int:=bif bT n (aP t n me)then aP t n me else 1
def HF(e:ENS)(st:STS)(x:AL)(s:MS):EO:=match ile x.left 0 with
 | true=>⟨e.dn||ieq (st.R.length:Int) 0,{e with ph:=2,sh:=e.dn||ieq (st.R.length:Int) 0,x:=x},{st with sp:=0},s⟩
 | false=>⟨false,{e with ph:=1,x:=x},st,s⟩
def qS(n:Int)(e:ENS)(st:STS)(x:AL)(s:MS):EO:=match x.free with
 | true=>(match aT s.xs (n+4+x.at') x.found with
   | true=>⟨true,{e with ph:=1,x:=⟨x.at',x.at',x.left,x.found,true⟩ },{st with sp:=x.at'},s.cased (n+4+x.at') x.found (WU (x.found+1))⟩
   | false=>HF e st ⟨0,cS n x.at',x.left - 1,x.found,false⟩ (s.cased (n+4+x.at') x.found (WU (x.found+1))))
 | false=>(match oddB (aC s.xs (n+4+x.at'))with
   | true=>HF e st ⟨0,cS n x.at',x.left - 1,aC s.xs (n+4+x.at'),false⟩ (s.loadd (n+4+x.at'))
   | false=>⟨false,{e with ph:=1,x:=⟨0,x.at',x.left,aC s.xs (n+4+x.at'),true⟩ },st,s.loadd (n+4+x.at')⟩)
instance:Inhabited EO:=⟨⟨false,aU,⟨0,0,[]⟩,⟨0,0,[],0,0,0,0,0,false⟩⟩⟩
def enF(t n:Int)(e:ENS)(st:STS)(s:MS):EO:=match e.ph with
 | 0=>(match ieq st.sp 0 with
   | true=>qS n e st ⟨0,at0 t n st.me,n,0,false⟩ s
   | false=>⟨true,e,st,s.loadd 0⟩)
 | 1=>qS n e st e.x s
 | 2=>⟨false,{e with ph:=3,y:= {e.y with N:=st.R,m:=aZ [] n 0 s,i:=1} },st,s.loadd (bU n 0)⟩
 | 3=>(match ieq (e.y.i+1) (2*t),ieq ((aY (aZ e.y.m n e.y.i s) e.y.N).length :Int) 0 with
   | true,true=>⟨true,{e with ph:=0,sh:=true,dn:=true},{st with R:=cF (aZ e.y.m n e.y.i s) e.y.N},s.loadd (bU n e.y.i)⟩
   | true,false=>⟨false,{e with ph:=4,y:=⟨0,e.y.N,aZ e.y.m n e.y.i s,e.y.i+1,cF (aZ e.y.m n e.y.i s) e.y.N,aY (aZ e.y.m n e.y.i s) e.y.N,aY (aZ e.y.m n e.y.i s) e.y.N,0,(aY (aZ e.y.m n e.y.i s) e.y.N).length⟩ },st,s.loadd (bU n e.y.i)⟩
   | false,_=>⟨false,{e with y:= {e.y with m:=aZ e.y.m n e.y.i s,i:=e.y.i+1} },st,s.loadd (bU n e.y.i)⟩)
 | _=>(match ieq ((e.y.l - 1:Nat):Int) 0 with
   | true=>⟨ieq (e.y.fs.length:Int) 0,{e with ph:=0,sh:=ieq (e.y.fs.length:Int) 0,dn:=true},{st with R:=e.y.ks},s.added (bY n e.y.gs e.y.j) 1⟩
   | false=>⟨false,{e with y:= {e.y with j:=e.y.j+1,l:=e.y.l - 1} },st,s.added (bY n e.y.gs e.y.j) 1⟩)
structure okAl (n:Int) (x:AL):Prop where
 hg:x.got=0
 ha:1≤x.at'∧x.at'≤n
 hl:0≤x.left∧x.left≤1000
def aCS(t n:Int)(e:ENS)(st:STS):Prop:=match e.ph with
 | 0=>True
 | 1=>okAl n e.x
 | 2=>True
 | 3=>e.y.N.length≤1000000∧0≤e.y.i∧e.y.i<2*t
 | 4=>2*t≤e.y.i∧1≤e.y.l∧e.y.gs.length=e.y.j+e.y.l∧ -1000000≤List.getD e.y.gs (e.y.j+Int.toNat 0*1) 0∧List.getD e.y.gs (e.y.j+Int.toNat 0*1) 0≤1000000
 | _=>False
structure IP (t n:Int) (e:ENS) (st:STS) (s:MS):Prop where
 ht:1≤t∧t≤1000
 hn:1≤n∧n≤1000
 hc:0≤s.c∧s.c≤1000000
 hm:0≤st.me∧st.me≤1000
 hR:st.R.length≤1000000
 ho:aCS t n e st
abbrev bE(l:Nat)(s:MS):Option (aH Mc):=some (.cells [.int .i64 s.t,.int .i64 s.n,.slice l 0 s.xs.length 1,.int .i64 s.c,.int .i64 s.k,.int .i64 s.a,.int .u64 s.o,.int .u64 s.w,.bool s.ok])
abbrev bF(s:MS):Option (aH Mc):=some (.ints (some .u64) s.xs)
def RE(t n:Int)(e:ENS)(st:STS)(s:MS):aD Ob:=[some (.abs (.ensure t n e) [1]),some (.abs (.store t n st) []),bE 3 s,bF s]
def EO.left(o:EO)(t n:Int)(K:AVal→aD Ob→Prop):Prop:=K (.bool o.d) (RE t n o.e o.st o.s)
theorem gK{K:AVal→aD Ob→Prop}{t n:Int}{o:EO}{g':aD Ob}(pl:List Nat)(hK:o.left t n K)
 (hb:(dT pl g'.length&&iX pl 0 4&&obOk 1 (CQ t n o.e))=true)
 (hT:gS pl g'=aM [some (.abs (.ensure t n o.e) [1]),some (.cells [.int .i64 t,.int .i64 n,.int .i64 o.st.me,.int .i64 o.st.sp,.slice 4 0 o.st.R.length 1]),bE 3 o.s,bF o.s,some (.ints (some .i64) o.st.R)] 0 1 (CQ t n o.e) [1]):yQ tbl 4 (yQ tbl 4 K) (.bool o.d) g':=by
 simp only [Bool.and_eq_true]at hb;obtain⟨⟨b1,b2⟩,b3⟩:=hb;refine⟨pl,_,.ensure t n o.e,0,1,_,[1],?_,hT,rfl,rfl,⟨[0,1,2,3,4],[some (.abs (.ensure t n o.e) [1]),some (.abs (.store t n o.st) []),bE 3 o.s,bF o.s],.store t n o.st,1,0,dD t n o.st,[],rfl,rfl,rfl,rfl,?_⟩⟩
 ·rw [b1,b2,b3];rfl
 ·exact hK
theorem aDA(t n me sp:Int)(R:List Int)(sh dn:Bool)(x:AL)(y:SWS)(s:MS)(K:AVal→aD Ob→Prop)(hK:bif !ieq sp 0 then(lE' s.3∧(0:Int)≤s.4∧s.4≤(4611686018427387904:Int))∧K (.bool true) [some (.cells [.ptr 1 0,.bool sh,.raw (Value.pointer none),.raw (Value.pointer none),.bool dn]),some (.cells [.int .i64 t,.int .i64 n,.int .i64 me,.int .i64 sp,.slice 4 0 R.length 1]),some (.cells [.int .i64 s.1,.int .i64 s.2,.slice 3 0 s.3.length 1,.int .i64 (s.4+1),.int .i64 1,.int .i64 0,.int .u64 (aC s.3 0),.int .u64 (aC s.3 0),.bool (bQ s.3 0)]),some (.ints (some .u64) s.3),some (.ints (some .i64) R)]else(((0:Int)≤me∧me≤(100000:Int))∧(0:Int)≤n∧n≤(100000:Int))∧(True∧True)∧(lE' s.3∧((1:Int)≤t∧t≤(1000:Int))∧((1:Int)≤n∧n≤(1000:Int))∧(((1:Int)≤bif bT n (aP t n me)then aP t n me else 1)∧(bif bT n (aP t n me)then aP t n me else 1)≤n)∧((0:Int)≤n∧n≤(1000:Int))∧(0:Int)≤s.4∧s.4≤(1000000:Int))∧bif oddB (aC s.3 (n+4+bif bT n (aP t n me)then aP t n me else 1))then bif !ile (n - 1) 0 then K (.bool false) [some (.cells [.ptr 1 0,.bool sh,.ptr 5 0,.raw (Value.pointer none),.bool dn]),some (.cells [.int .i64 t,.int .i64 n,.int .i64 me,.int .i64 sp,.slice 4 0 R.length 1]),some (.cells [.int .i64 s.1,.int .i64 s.2,.slice 3 0 s.3.length 1,.int .i64 (s.4+1),.int .i64 1,.int .i64 (n+4+bif bT n (aP t n me)then aP t n me else 1),.int .u64 (aC s.3 (n+4+bif bT n (aP t n me)then aP t n me else 1)),.int .u64 (aC s.3 (n+4+bif bT n (aP t n me)then aP t n me else 1)),.bool (bQ s.3 (n+4+bif bT n (aP t n me)then aP t n me else 1))]),some (.ints (some .u64) s.3),some (.ints (some .i64) R),some (.cells [.int .i64 t,.int .i64 n,.int .i64 0,.int .i64 (cS n (bif bT n (aP t n me)then aP t n me else 1)),.int .i64 (n - 1),.int .u64 (aC s.3 (n+4+bif bT n (aP t n me)then aP t n me else 1)),.bool false])]else bif dn then K (.bool true) [some (.cells [.ptr 1 0,.bool true,.ptr 5 0,.ptr 6 0,.bool dn]),some (.cells [.int .i64 t,.int .i64 n,.int .i64 me,.int .i64 0,.slice 4 0 R.length 1]),some (.cells [.int .i64 s.1,.int .i64 s.2,.slice 3 0 s.3.length 1,.int .i64 (s.4+1),.int .i64 1,.int .i64 (n+4+bif bT n (aP t n me)then aP t n me else 1),.int .u64 (aC s.3 (n+4+bif bT n (aP t n me)then aP t n me else 1)),.int .u64 (aC s.3 (n+4+bif bT n (aP t n me)then aP t n me else 1)),.bool (bQ s.3 (n+4+bif bT n (aP t n me)then aP t n me else 1))]),some (.ints (some .u64) s.3),some (.ints (some .i64) R),some (.cells [.int .i64 t,.int .i64 n,.int .i64 0,.int .i64 (cS n (bif bT n (aP t n me)then aP t n me else 1)),.int .i64 (n - 1),.int .u64 (aC s.3 (n+4+bif bT n (aP t n me)then aP t n me else 1)),.bool false]),some (.cells [.ptr 1 0,.raw (Value.pointer none)])]else K (.bool (ieq (↑R.length:Int) 0)) [some (.cells [.ptr 1 0,.bool (ieq (↑R.length:Int) 0),.ptr 5 0,.ptr 6 0,.bool dn]),some (.cells [.int .i64 t,.int .i64 n,.int .i64 me,.int .i64 0,.slice 4 0 R.length 1]),some (.cells [.int .i64 s.1,.int .i64 s.2,.slice 3 0 s.3.length 1,.int .i64 (s.4+1),.int .i64 1,.int .i64 (n+4+bif bT n (aP t n me)then aP t n me else 1),.int .u64 (aC s.3 (n+4+bif bT n (aP t n me)then aP t n me else 1)),.int .u64 (aC s.3 (n+4+bif bT n (aP t n me)then aP t n me else 1)),.bool (bQ s.3 (n+4+bif bT n (aP t n me)then aP t n me else 1))]),some (.ints (some .u64) s.3),some (.ints (some .i64) R),some (.cells [.int .i64 t,.int .i64 n,.int .i64 0,.int .i64 (cS n (bif bT n (aP t n me)then aP t n me else 1)),.int .i64 (n - 1),.int .u64 (aC s.3 (n+4+bif bT n (aP t n me)then aP t n me else 1)),.bool false]),some (.cells [.ptr 1 0,.raw (Value.pointer none)])]else K (.bool false) [some (.cells [.ptr 1 0,.bool sh,.ptr 5 0,.raw (Value.pointer none),.bool dn]),some (.cells [.int .i64 t,.int .i64 n,.int .i64 me,.int .i64 sp,.slice 4 0 R.length 1]),some (.cells [.int .i64 s.1,.int .i64 s.2,.slice 3 0 s.3.length 1,.int .i64 (s.4+1),.int .i64 1,.int .i64 (n+4+bif bT n (aP t n me)then aP t n me else 1),.int .u64 (aC s.3 (n+4+bif bT n (aP t n me)then aP t n me else 1)),.int .u64 (aC s.3 (n+4+bif bT n (aP t n me)then aP t n me else 1)),.bool (bQ s.3 (n+4+bif bT n (aP t n me)then aP t n me else 1))]),some (.ints (some .u64) s.3),some (.ints (some .i64) R),some (.cells [.int .i64 t,.int .i64 n,.int .i64 0,.int .i64 (bif bT n (aP t n me)then aP t n me else 1),.int .i64 n,.int .u64 (aC s.3 (n+4+bif bT n (aP t n me)then aP t n me else 1)),.bool true])]):cT' 154 [.ptr 0 0,.ptr 2 0] [some (.cells [.ptr 1 0,.bool sh,.raw (.pointer none),.raw (.pointer none),.bool dn]),some (.cells [.int .i64 t,.int .i64 n,.int .i64 me,.int .i64 sp,.slice 4 0 R.length 1]),bE 3 s,bF s,some (.ints (some .i64) R)] K:=by
 refine aEA (cM' (E:=E42) (by kernel_rfl) hK)
theorem aDB(t n me sp:Int)(R:List Int)(sh dn:Bool)(x:AL)(y:SWS)(s:MS)(K:AVal→aD Ob→Prop)(hK:(lE' s.3∧((1:Int)≤t∧t≤(1000:Int))∧((1:Int)≤n∧n≤(1000:Int))∧((1:Int)≤x.2∧x.2≤n)∧((0:Int)≤x.3∧x.3≤(1000:Int))∧(0:Int)≤s.4∧s.4≤(1000000:Int))∧bif x.5 then bif aT s.3 (n+4+x.2) x.4 then bif !ieq x.2 0 then K (.bool true) [some (.cells [.ptr 1 0,.bool sh,.ptr 5 0,.raw (Value.pointer none),.bool dn]),some (.cells [.int .i64 t,.int .i64 n,.int .i64 me,.int .i64 x.2,.slice 4 0 R.length 1]),some (.cells [.int .i64 s.1,.int .i64 s.2,.slice 3 0 (List.length (bif aT s.3 (n+4+x.2) x.4 then aV s.3 (n+4+x.2) (WU (x.4+1))else s.3)) 1,.int .i64 (s.4+1),.int .i64 3,.int .i64 (n+4+x.2),.int .u64 (aC s.3 (n+4+x.2)),.int .u64 (bif bQ s.3 (n+4+x.2)then WU (x.4+1)else 0),.bool (aT s.3 (n+4+x.2) x.4)]),some (.ints (some .u64) (bif aT s.3 (n+4+x.2) x.4 then aV s.3 (n+4+x.2) (WU (x.4+1))else s.3)),some (.ints (some .i64) R),some (.cells [.int .i64 t,.int .i64 n,.int .i64 x.2,.int .i64 x.2,.int .i64 x.3,.int .u64 x.4,.bool true])]else bif dn then K (.bool true) [some (.cells [.ptr 1 0,.bool true,.ptr 5 0,.ptr 6 0,.bool dn]),some (.cells [.int .i64 t,.int .i64 n,.int .i64 me,.int .i64 x.2,.slice 4 0 R.length 1]),some (.cells [.int .i64 s.1,.int .i64 s.2,.slice 3 0 (List.length (bif aT s.3 (n+4+x.2) x.4 then aV s.3 (n+4+x.2) (WU (x.4+1))else s.3)) 1,.int .i64 (s.4+1),.int .i64 3,.int .i64 (n+4+x.2),.int .u64 (aC s.3 (n+4+x.2)),.int .u64 (bif bQ s.3 (n+4+x.2)then WU (x.4+1)else 0),.bool (aT s.3 (n+4+x.2) x.4)]),some (.ints (some .u64) (bif aT s.3 (n+4+x.2) x.4 then aV s.3 (n+4+x.2) (WU (x.4+1))else s.3)),some (.ints (some .i64) R),some (.cells [.int .i64 t,.int .i64 n,.int .i64 x.2,.int .i64 x.2,.int .i64 x.3,.int .u64 x.4,.bool true]),some (.cells [.ptr 1 0,.raw (Value.pointer none)])]else K (.bool (ieq (↑R.length:Int) 0)) [some (.cells [.ptr 1 0,.bool (ieq (↑R.length:Int) 0),.ptr 5 0,.ptr 6 0,.bool dn]),some (.cells [.int .i64 t,.int .i64 n,.int .i64 me,.int .i64 x.2,.slice 4 0 R.length 1]),some (.cells [.int .i64 s.1,.int .i64 s.2,.slice 3 0 (List.length (bif aT s.3 (n+4+x.2) x.4 then aV s.3 (n+4+x.2) (WU (x.4+1))else s.3)) 1,.int .i64 (s.4+1),.int .i64 3,.int .i64 (n+4+x.2),.int .u64 (aC s.3 (n+4+x.2)),.int .u64 (bif bQ s.3 (n+4+x.2)then WU (x.4+1)else 0),.bool (aT s.3 (n+4+x.2) x.4)]),some (.ints (some .u64) (bif aT s.3 (n+4+x.2) x.4 then aV s.3 (n+4+x.2) (WU (x.4+1))else s.3)),some (.ints (some .i64) R),some (.cells [.int .i64 t,.int .i64 n,.int .i64 x.2,.int .i64 x.2,.int .i64 x.3,.int .u64 x.4,.bool true]),some (.cells [.ptr 1 0,.raw (Value.pointer none)])]else bif !ile (x.3 - 1) 0 then K (.bool false) [some (.cells [.ptr 1 0,.bool sh,.ptr 5 0,.raw (Value.pointer none),.bool dn]),some (.cells [.int .i64 t,.int .i64 n,.int .i64 me,.int .i64 sp,.slice 4 0 R.length 1]),some (.cells [.int .i64 s.1,.int .i64 s.2,.slice 3 0 (List.length (bif aT s.3 (n+4+x.2) x.4 then aV s.3 (n+4+x.2) (WU (x.4+1))else s.3)) 1,.int .i64 (s.4+1),.int .i64 3,.int .i64 (n+4+x.2),.int .u64 (aC s.3 (n+4+x.2)),.int .u64 (bif bQ s.3 (n+4+x.2)then WU (x.4+1)else 0),.bool (aT s.3 (n+4+x.2) x.4)]),some (.ints (some .u64) (bif aT s.3 (n+4+x.2) x.4 then aV s.3 (n+4+x.2) (WU (x.4+1))else s.3)),some (.ints (some .i64) R),some (.cells [.int .i64 t,.int .i64 n,.int .i64 x.1,.int .i64 (cS n x.2),.int .i64 (x.3 - 1),.int .u64 x.4,.bool false])]else bif !ieq x.1 0 then K (.bool true) [some (.cells [.ptr 1 0,.bool sh,.ptr 5 0,.raw (Value.pointer none),.bool dn]),some (.cells [.int .i64 t,.int .i64 n,.int .i64 me,.int .i64 x.1,.slice 4 0 R.length 1]),some (.cells [.int .i64 s.1,.int .i64 s.2,.slice 3 0 (List.length (bif aT s.3 (n+4+x.2) x.4 then aV s.3 (n+4+x.2) (WU (x.4+1))else s.3)) 1,.int .i64 (s.4+1),.int .i64 3,.int .i64 (n+4+x.2),.int .u64 (aC s.3 (n+4+x.2)),.int .u64 (bif bQ s.3 (n+4+x.2)then WU (x.4+1)else 0),.bool (aT s.3 (n+4+x.2) x.4)]),some (.ints (some .u64) (bif aT s.3 (n+4+x.2) x.4 then aV s.3 (n+4+x.2) (WU (x.4+1))else s.3)),some (.ints (some .i64) R),some (.cells [.int .i64 t,.int .i64 n,.int .i64 x.1,.int .i64 (cS n x.2),.int .i64 (x.3 - 1),.int .u64 x.4,.bool false])]else bif dn then K (.bool true) [some (.cells [.ptr 1 0,.bool true,.ptr 5 0,.ptr 6 0,.bool dn]),some (.cells [.int .i64 t,.int .i64 n,.int .i64 me,.int .i64 x.1,.slice 4 0 R.length 1]),some (.cells [.int .i64 s.1,.int .i64 s.2,.slice 3 0 (List.length (bif aT s.3 (n+4+x.2) x.4 then aV s.3 (n+4+x.2) (WU (x.4+1))else s.3)) 1,.int .i64 (s.4+1),.int .i64 3,.int .i64 (n+4+x.2),.int .u64 (aC s.3 (n+4+x.2)),.int .u64 (bif bQ s.3 (n+4+x.2)then WU (x.4+1)else 0),.bool (aT s.3 (n+4+x.2) x.4)]),some (.ints (some .u64) (bif aT s.3 (n+4+x.2) x.4 then aV s.3 (n+4+x.2) (WU (x.4+1))else s.3)),some (.ints (some .i64) R),some (.cells [.int .i64 t,.int .i64 n,.int .i64 x.1,.int .i64 (cS n x.2),.int .i64 (x.3 - 1),.int .u64 x.4,.bool false]),some (.cells [.ptr 1 0,.raw (Value.pointer none)])]else K (.bool (ieq (↑R.length:Int) 0)) [some (.cells [.ptr 1 0,.bool (ieq (↑R.length:Int) 0),.ptr 5 0,.ptr 6 0,.bool dn]),some (.cells [.int .i64 t,.int .i64 n,.int .i64 me,.int .i64 x.1,.slice 4 0 R.length 1]),some (.cells [.int .i64 s.1,.int .i64 s.2,.slice 3 0 (List.length (bif aT s.3 (n+4+x.2) x.4 then aV s.3 (n+4+x.2) (WU (x.4+1))else s.3)) 1,.int .i64 (s.4+1),.int .i64 3,.int .i64 (n+4+x.2),.int .u64 (aC s.3 (n+4+x.2)),.int .u64 (bif bQ s.3 (n+4+x.2)then WU (x.4+1)else 0),.bool (aT s.3 (n+4+x.2) x.4)]),some (.ints (some .u64) (bif aT s.3 (n+4+x.2) x.4 then aV s.3 (n+4+x.2) (WU (x.4+1))else s.3)),some (.ints (some .i64) R),some (.cells [.int .i64 t,.int .i64 n,.int .i64 x.1,.int .i64 (cS n x.2),.int .i64 (x.3 - 1),.int .u64 x.4,.bool false]),some (.cells [.ptr 1 0,.raw (Value.pointer none)])]else bif oddB (aC s.3 (n+4+x.2))then bif !ile (x.3 - 1) 0 then K (.bool false) [some (.cells [.ptr 1 0,.bool sh,.ptr 5 0,.raw (Value.pointer none),.bool dn]),some (.cells [.int .i64 t,.int .i64 n,.int .i64 me,.int .i64 sp,.slice 4 0 R.length 1]),some (.cells [.int .i64 s.1,.int .i64 s.2,.slice 3 0 s.3.length 1,.int .i64 (s.4+1),.int .i64 1,.int .i64 (n+4+x.2),.int .u64 (aC s.3 (n+4+x.2)),.int .u64 (aC s.3 (n+4+x.2)),.bool (bQ s.3 (n+4+x.2))]),some (.ints (some .u64) s.3),some (.ints (some .i64) R),some (.cells [.int .i64 t,.int .i64 n,.int .i64 x.1,.int .i64 (cS n x.2),.int .i64 (x.3 - 1),.int .u64 (aC s.3 (n+4+x.2)),.bool false])]else bif !ieq x.1 0 then K (.bool true) [some (.cells [.ptr 1 0,.bool sh,.ptr 5 0,.raw (Value.pointer none),.bool dn]),some (.cells [.int .i64 t,.int .i64 n,.int .i64 me,.int .i64 x.1,.slice 4 0 R.length 1]),some (.cells [.int .i64 s.1,.int .i64 s.2,.slice 3 0 s.3.length 1,.int .i64 (s.4+1),.int .i64 1,.int .i64 (n+4+x.2),.int .u64 (aC s.3 (n+4+x.2)),.int .u64 (aC s.3 (n+4+x.2)),.bool (bQ s.3 (n+4+x.2))]),some (.ints (some .u64) s.3),some (.ints (some .i64) R),some (.cells [.int .i64 t,.int .i64 n,.int .i64 x.1,.int .i64 (cS n x.2),.int .i64 (x.3 - 1),.int .u64 (aC s.3 (n+4+x.2)),.bool false])]else bif dn then K (.bool true) [some (.cells [.ptr 1 0,.bool true,.ptr 5 0,.ptr 6 0,.bool dn]),some (.cells [.int .i64 t,.int .i64 n,.int .i64 me,.int .i64 x.1,.slice 4 0 R.length 1]),some (.cells [.int .i64 s.1,.int .i64 s.2,.slice 3 0 s.3.length 1,.int .i64 (s.4+1),.int .i64 1,.int .i64 (n+4+x.2),.int .u64 (aC s.3 (n+4+x.2)),.int .u64 (aC s.3 (n+4+x.2)),.bool (bQ s.3 (n+4+x.2))]),some (.ints (some .u64) s.3),some (.ints (some .i64) R),some (.cells [.int .i64 t,.int .i64 n,.int .i64 x.1,.int .i64 (cS n x.2),.int .i64 (x.3 - 1),.int .u64 (aC s.3 (n+4+x.2)),.bool false]),some (.cells [.ptr 1 0,.raw (Value.pointer none)])]else K (.bool (ieq (↑R.length:Int) 0)) [some (.cells [.ptr 1 0,.bool (ieq (↑R.length:Int) 0),.ptr 5 0,.ptr 6 0,.bool dn]),some (.cells [.int .i64 t,.int .i64 n,.int .i64 me,.int .i64 x.1,.slice 4 0 R.length 1]),some (.cells [.int .i64 s.1,.int .i64 s.2,.slice 3 0 s.3.length 1,.int .i64 (s.4+1),.int .i64 1,.int .i64 (n+4+x.2),.int .u64 (aC s.3 (n+4+x.2)),.int .u64 (aC s.3 (n+4+x.2)),.bool (bQ s.3 (n+4+x.2))]),some (.ints (some .u64) s.3),some (.ints (some .i64) R),some (.cells [.int .i64 t,.int .i64 n,.int .i64 x.1,.int .i64 (cS n x.2),.int .i64 (x.3 - 1),.int .u64 (aC s.3 (n+4+x.2)),.bool false]),some (.cells [.ptr 1 0,.raw (Value.pointer none)])]else K (.bool false) [some (.cells [.ptr 1 0,.bool sh,.ptr 5 0,.raw (Value.pointer none),.bool dn]),some (.cells [.int .i64 t,.int .i64 n,.int .i64 me,.int .i64 sp,.slice 4 0 R.length 1]),some (.cells [.int .i64 s.1,.int .i64 s.2,.slice 3 0 s.3.length 1,.int .i64 (s.4+1),.int .i64 1,.int .i64 (n+4+x.2),.int .u64 (aC s.3 (n+4+x.2)),.int .u64 (aC s.3 (n+4+x.2)),.bool (bQ s.3 (n+4+x.2))]),some (.ints (some .u64) s.3),some (.ints (some .i64) R),some (.cells [.int .i64 t,.int .i64 n,.int .i64 x.1,.int .i64 x.2,.int .i64 x.3,.int .u64 (aC s.3 (n+4+x.2)),.bool true])]):cT' 154 [.ptr 0 0,.ptr 2 0] [some (.cells [.ptr 1 0,.bool sh,.ptr 5 0,.raw (.pointer none),.bool dn]),some (.cells [.int .i64 t,.int .i64 n,.int .i64 me,.int .i64 sp,.slice 4 0 R.length 1]),bE 3 s,bF s,some (.ints (some .i64) R),U3 t n x] K:=by
 refine aEA (cM' (E:=E42) (by kernel_rfl) hK)
theorem aDC(t n me sp:Int)(R:List Int)(sh dn:Bool)(x:AL)(y:SWS)(s:MS)(K:AVal→aD Ob→Prop)(hK:((lE' s.3∧lE' R)∧((1:Int)≤t∧t≤(1000:Int))∧((1:Int)≤n∧n≤(1000:Int))∧((0:Int)≤s.4∧s.4≤(1000000:Int))∧R.length≤(1000000:Nat))∧K (.bool false) [some (.cells [.ptr 1 0,.bool sh,.ptr 5 0,.ptr 6 0,.bool dn]),some (.cells [.int .i64 t,.int .i64 n,.int .i64 me,.int .i64 sp,.slice 4 0 R.length 1]),some (.cells [.int .i64 s.1,.int .i64 s.2,.slice 3 0 s.3.length 1,.int .i64 (s.4+1),.int .i64 1,.int .i64 (bU n 0),.int .u64 (aC s.3 (bU n 0)),.int .u64 (aC s.3 (bU n 0)),.bool (bQ s.3 (bU n 0))]),some (.ints (some .u64) s.3),some (.ints (some .i64) R),some (.cells [.int .i64 t,.int .i64 n,.int .i64 x.1,.int .i64 x.2,.int .i64 x.3,.int .u64 x.4,.bool x.5]),some (.cells [.ptr 1 0,.ptr 7 0]),some (.cells [.int .i64 t,.int .i64 n,.raw (Value.slice none 0 0),.raw (Value.slice none 0 0),.slice 8 0 R.length 1,.map 9,.int .i64 1,.raw (Value.pointer none)]),some (.ints (some .i64) R),some (.imap .i64 none (aZ [] n 0 s))]):cT' 154 [.ptr 0 0,.ptr 2 0] [some (.cells [.ptr 1 0,.bool sh,.ptr 5 0,.ptr 6 0,.bool dn]),some (.cells [.int .i64 t,.int .i64 n,.int .i64 me,.int .i64 sp,.slice 4 0 R.length 1]),bE 3 s,bF s,some (.ints (some .i64) R),U3 t n x,some (.cells [.ptr 1 0,.raw (.pointer none)])] K:=by
 refine aEA (cM' (E:=E42) (by kernel_rfl) hK)
theorem aDD(t n me sp:Int)(R:List Int)(sh dn:Bool)(x:AL)(y:SWS)(s:MS)(K:AVal→aD Ob→Prop)(hK:((lE' s.3∧lE' R∧lE' y.2∧t=t∧n=n)∧((1:Int)≤t∧t≤(1000:Int))∧((1:Int)≤n∧n≤(1000:Int))∧((0:Int)≤s.4∧s.4≤(1000000:Int))∧y.2.length≤(1000000:Nat)∧(0:Int)≤y.4∧y.4<(2:Int)*t)∧bif ieq (y.4+1) (2*t)then bif ieq (↑(List.length (aY (aZ y.3 n y.4 s) y.2)):Int) 0 then K (.bool (ieq (↑(List.length (aY (aZ y.3 n y.4 s) y.2)):Int) 0)) [some (.cells [.ptr 1 0,.bool (ieq (↑(List.length (aY (aZ y.3 n y.4 s) y.2)):Int) 0),.raw (Value.pointer none),.raw (Value.pointer none),.bool true]),some (.cells [.int .i64 t,.int .i64 n,.int .i64 me,.int .i64 sp,.slice 10 0 (List.length (cF (aZ y.3 n y.4 s) y.2)) 1]),some (.cells [.int .i64 s.1,.int .i64 s.2,.slice 3 0 s.3.length 1,.int .i64 (s.4+1),.int .i64 1,.int .i64 (bU n y.4),.int .u64 (aC s.3 (bU n y.4)),.int .u64 (aC s.3 (bU n y.4)),.bool (bQ s.3 (bU n y.4))]),some (.ints (some .u64) s.3),some (.ints (some .i64) R),some (.cells [.int .i64 t,.int .i64 n,.int .i64 x.1,.int .i64 x.2,.int .i64 x.3,.int .u64 x.4,.bool x.5]),some (.cells [.ptr 1 0,.ptr 7 0]),some (.cells [.int .i64 t,.int .i64 n,.slice 10 0 (List.length (cF (aZ y.3 n y.4 s) y.2)) 1,.slice 11 0 (List.length (aY (aZ y.3 n y.4 s) y.2)) 1,.slice 8 0 y.2.length 1,.map 9,.int .i64 (y.4+1),.ptr 12 0]),some (.ints (some .i64) y.2),some (.imap .i64 none (aZ y.3 n y.4 s)),some (.ints (some .i64) (cF (aZ y.3 n y.4 s) y.2)),some (.ints (some .i64) (aY (aZ y.3 n y.4 s) y.2)),some (.cells [.int .i64 t,.int .i64 n,.slice 13 0 (List.length (aY (aZ y.3 n y.4 s) y.2)) 1]),some (.ints (some .i64) (aY (aZ y.3 n y.4 s) y.2))]else K (.bool false) [some (.cells [.ptr 1 0,.bool sh,.ptr 5 0,.ptr 6 0,.bool dn]),some (.cells [.int .i64 t,.int .i64 n,.int .i64 me,.int .i64 sp,.slice 4 0 R.length 1]),some (.cells [.int .i64 s.1,.int .i64 s.2,.slice 3 0 s.3.length 1,.int .i64 (s.4+1),.int .i64 1,.int .i64 (bU n y.4),.int .u64 (aC s.3 (bU n y.4)),.int .u64 (aC s.3 (bU n y.4)),.bool (bQ s.3 (bU n y.4))]),some (.ints (some .u64) s.3),some (.ints (some .i64) R),some (.cells [.int .i64 t,.int .i64 n,.int .i64 x.1,.int .i64 x.2,.int .i64 x.3,.int .u64 x.4,.bool x.5]),some (.cells [.ptr 1 0,.ptr 7 0]),some (.cells [.int .i64 t,.int .i64 n,.slice 10 0 (List.length (cF (aZ y.3 n y.4 s) y.2)) 1,.slice 11 0 (List.length (aY (aZ y.3 n y.4 s) y.2)) 1,.slice 8 0 y.2.length 1,.map 9,.int .i64 (y.4+1),.ptr 12 0]),some (.ints (some .i64) y.2),some (.imap .i64 none (aZ y.3 n y.4 s)),some (.ints (some .i64) (cF (aZ y.3 n y.4 s) y.2)),some (.ints (some .i64) (aY (aZ y.3 n y.4 s) y.2)),some (.cells [.int .i64 t,.int .i64 n,.slice 13 0 (List.length (aY (aZ y.3 n y.4 s) y.2)) 1]),some (.ints (some .i64) (aY (aZ y.3 n y.4 s) y.2))]else K (.bool false) [some (.cells [.ptr 1 0,.bool sh,.ptr 5 0,.ptr 6 0,.bool dn]),some (.cells [.int .i64 t,.int .i64 n,.int .i64 me,.int .i64 sp,.slice 4 0 R.length 1]),some (.cells [.int .i64 s.1,.int .i64 s.2,.slice 3 0 s.3.length 1,.int .i64 (s.4+1),.int .i64 1,.int .i64 (bU n y.4),.int .u64 (aC s.3 (bU n y.4)),.int .u64 (aC s.3 (bU n y.4)),.bool (bQ s.3 (bU n y.4))]),some (.ints (some .u64) s.3),some (.ints (some .i64) R),some (.cells [.int .i64 t,.int .i64 n,.int .i64 x.1,.int .i64 x.2,.int .i64 x.3,.int .u64 x.4,.bool x.5]),some (.cells [.ptr 1 0,.ptr 7 0]),some (.cells [.int .i64 t,.int .i64 n,.raw (Value.slice none 0 0),.raw (Value.slice none 0 0),.slice 8 0 y.2.length 1,.map 9,.int .i64 (y.4+1),.raw (Value.pointer none)]),some (.ints (some .i64) y.2),some (.imap .i64 none (aZ y.3 n y.4 s))]):cT' 154 [.ptr 0 0,.ptr 2 0] [some (.cells [.ptr 1 0,.bool sh,.ptr 5 0,.ptr 6 0,.bool dn]),some (.cells [.int .i64 t,.int .i64 n,.int .i64 me,.int .i64 sp,.slice 4 0 R.length 1]),bE 3 s,bF s,some (.ints (some .i64) R),U3 t n x,some (.cells [.ptr 1 0,.ptr 7 0]),some (.cells [.int .i64 t,.int .i64 n,.raw (.slice none 0 0),.raw (.slice none 0 0),.slice 8 0 y.N.length 1,.map 9,.int .i64 y.i,.raw (.pointer none)]),some (.ints (some .i64) y.N),some (.imap .i64 none y.m)] K:=by
 refine aEA (cM' (E:=E42) (by kernel_rfl) hK)
theorem aDE(t n me sp:Int)(R:List Int)(sh dn:Bool)(x:AL)(y:SWS)(s:MS)(K:AVal→aD Ob→Prop)(hK:((lE' s.3∧lE' R∧lE' y.5∧lE' y.6∧lE' y.2∧t=t∧n=n∧t=t∧n=n)∧((1:Int)≤t∧t≤(1000:Int))∧((1:Int)≤n∧n≤(1000:Int))∧((0:Int)≤s.4∧s.4≤(1000000:Int))∧2*t≤y.4∧((1:Nat)≤y.9∧y.7.length=y.8+y.9)∧(-1000000:Int)≤List.getD y.7 (y.8+Int.toNat 0*1) 0∧List.getD y.7 (y.8+Int.toNat 0*1) (0:Int)≤(1000000:Int))∧bif ieq (↑(y.9 - 1):Int) 0 then K (.bool (ieq (↑y.6.length:Int) 0)) [some (.cells [.ptr 1 0,.bool (ieq (↑y.6.length:Int) 0),.raw (Value.pointer none),.raw (Value.pointer none),.bool true]),some (.cells [.int .i64 t,.int .i64 n,.int .i64 me,.int .i64 sp,.slice 8 0 y.5.length 1]),some (.cells [.int .i64 s.1,.int .i64 s.2,.slice 3 0 (List.length (aV s.3 (bY n y.7 y.8) (WU (aC s.3 (bY n y.7 y.8)+1)))) 1,.int .i64 (s.4+1),.int .i64 4,.int .i64 (bY n y.7 y.8),.int .u64 (aC s.3 (bY n y.7 y.8)),.int .u64 (bif bQ s.3 (bY n y.7 y.8)then WU (aC s.3 (bY n y.7 y.8)+1)else 0),.bool (bQ s.3 (bY n y.7 y.8))]),some (.ints (some .u64) (aV s.3 (bY n y.7 y.8) (WU (aC s.3 (bY n y.7 y.8)+1)))),some (.ints (some .i64) R),some (.cells [.int .i64 t,.int .i64 n,.int .i64 x.1,.int .i64 x.2,.int .i64 x.3,.int .u64 x.4,.bool x.5]),some (.cells [.ptr 1 0,.ptr 7 0]),some (.cells [.int .i64 t,.int .i64 n,.slice 8 0 y.5.length 1,.slice 9 0 y.6.length 1,.slice 10 0 y.2.length 1,.map 11,.int .i64 y.4,.ptr 12 0]),some (.ints (some .i64) y.5),some (.ints (some .i64) y.6),some (.ints (some .i64) y.2),some (.imap .i64 none y.3),some (.cells [.int .i64 t,.int .i64 n,.slice 13 (y.8+1) (y.9 - 1) 1]),some (.ints (some .i64) y.7)]else K (.bool false) [some (.cells [.ptr 1 0,.bool sh,.ptr 5 0,.ptr 6 0,.bool dn]),some (.cells [.int .i64 t,.int .i64 n,.int .i64 me,.int .i64 sp,.slice 4 0 R.length 1]),some (.cells [.int .i64 s.1,.int .i64 s.2,.slice 3 0 (List.length (aV s.3 (bY n y.7 y.8) (WU (aC s.3 (bY n y.7 y.8)+1)))) 1,.int .i64 (s.4+1),.int .i64 4,.int .i64 (bY n y.7 y.8),.int .u64 (aC s.3 (bY n y.7 y.8)),.int .u64 (bif bQ s.3 (bY n y.7 y.8)then WU (aC s.3 (bY n y.7 y.8)+1)else 0),.bool (bQ s.3 (bY n y.7 y.8))]),some (.ints (some .u64) (aV s.3 (bY n y.7 y.8) (WU (aC s.3 (bY n y.7 y.8)+1)))),some (.ints (some .i64) R),some (.cells [.int .i64 t,.int .i64 n,.int .i64 x.1,.int .i64 x.2,.int .i64 x.3,.int .u64 x.4,.bool x.5]),some (.cells [.ptr 1 0,.ptr 7 0]),some (.cells [.int .i64 t,.int .i64 n,.slice 8 0 y.5.length 1,.slice 9 0 y.6.length 1,.slice 10 0 y.2.length 1,.map 11,.int .i64 y.4,.ptr 12 0]),some (.ints (some .i64) y.5),some (.ints (some .i64) y.6),some (.ints (some .i64) y.2),some (.imap .i64 none y.3),some (.cells [.int .i64 t,.int .i64 n,.slice 13 (y.8+1) (y.9 - 1) 1]),some (.ints (some .i64) y.7)]):cT' 154 [.ptr 0 0,.ptr 2 0] [some (.cells [.ptr 1 0,.bool sh,.ptr 5 0,.ptr 6 0,.bool dn]),some (.cells [.int .i64 t,.int .i64 n,.int .i64 me,.int .i64 sp,.slice 4 0 R.length 1]),bE 3 s,bF s,some (.ints (some .i64) R),U3 t n x,some (.cells [.ptr 1 0,.ptr 7 0]),some (.cells [.int .i64 t,.int .i64 n,.slice 8 0 y.ks.length 1,.slice 9 0 y.fs.length 1,.slice 10 0 y.N.length 1,.map 11,.int .i64 y.i,.ptr 12 0]),some (.ints (some .i64) y.ks),some (.ints (some .i64) y.fs),some (.ints (some .i64) y.N),some (.imap .i64 none y.m),some (.cells [.int .i64 t,.int .i64 n,.slice 13 y.j y.l 1]),some (.ints (some .i64) y.gs)] K:=by
 refine aEA (cM' (E:=E42) (by kernel_rfl) hK)
theorem en2(t n:Int)(e:ENS)(st:STS)(s:MS)(K:AVal→aD Ob→Prop)(hp:e.ph=2)(ok:IP t n e st s)(hK:(enF t n e st s).left t n K):cT' 154 [.ptr 0 0,.ptr 2 0] (RE t n e st s) K:=by
 obtain⟨ht,hn,hc,hm,hR,ho⟩:=ok;obtain⟨ph,sh,dn,x,y⟩:=e;dsimp only at hp;subst hp;obtain⟨me,sp,R⟩:=st;dsimp only at hm hR;refine aB.pack tbl (aB.pack tbl ?_);refine aB.unpack tbl (.store t n ⟨me,sp,R⟩) 1 0 (dD t n ⟨me,sp,R⟩) [] rfl rfl rfl rfl ?_;refine aB.unpack tbl (.ensure t n ⟨2,sh,dn,x,y⟩) 0 1 (CQ t n ⟨2,sh,dn,x,y⟩) [1] rfl rfl rfl rfl ?_;refine aDC t n me sp R sh dn x y s _ ?_;exact⟨⟨⟨rfl,rfl⟩,ht,hn,hc,hR⟩,gK (o:=enF t n ⟨2,sh,dn,x,y⟩ ⟨me,sp,R⟩ s) [0,1,2,3,4,5,6,7,8,9] hK rfl rfl⟩
theorem en3(t n:Int)(e:ENS)(st:STS)(s:MS)(K:AVal→aD Ob→Prop)(hp:e.ph=3)(ok:IP t n e st s)(hK:(enF t n e st s).left t n K):cT' 154 [.ptr 0 0,.ptr 2 0] (RE t n e st s) K:=by
 obtain⟨ht,hn,hc,hm,hR,ho⟩:=ok;obtain⟨ph,sh,dn,x,y⟩:=e;dsimp only at hp;subst hp;obtain⟨me,sp,R⟩:=st;dsimp only at hm hR;refine aB.pack tbl (aB.pack tbl ?_);refine aB.unpack tbl (.store t n ⟨me,sp,R⟩) 1 0 (dD t n ⟨me,sp,R⟩) [] rfl rfl rfl rfl ?_;refine aB.unpack tbl (.ensure t n ⟨3,sh,dn,x,y⟩) 0 1 (CQ t n ⟨3,sh,dn,x,y⟩) [1] rfl rfl rfl rfl ?_;refine aDD t n me sp R sh dn x y s _ ?_;have ho:y.N.length≤1000000∧0≤y.i∧y.i<2*t:=ho;refine⟨⟨⟨rfl,rfl,rfl,rfl,rfl⟩,ht,hn,hc,ho.1,ho.2⟩,?_⟩;unfold enF at hK;dsimp only at hK;cases h1:ieq (y.i+1) (2*t)with
 | false=>
   rw [h1]at hK;exact gK (o:=⟨false,⟨3,sh,dn,x,{y with m:=aZ y.m n y.i s,i:=y.i+1}⟩,⟨me,sp,R⟩,s.loadd (bU n y.i)⟩) [0,1,2,3,4,5,6,7,8,9] hK rfl rfl
 | true=>
   rw [h1]at hK;cases h2:ieq ((aY (aZ y.m n y.i s) y.N).length :Int) 0 with
   | true=>
     rw [h2]at hK;exact gK (o:=⟨true,⟨0,true,true,x,y⟩,⟨me,sp,cF (aZ y.m n y.i s) y.N⟩,s.loadd (bU n y.i)⟩) [0,1,2,3,10] hK rfl rfl
   | false=>
     rw [h2]at hK;exact gK (o:=⟨false,⟨4,sh,dn,x,⟨0,y.N,aZ y.m n y.i s,y.i+1,cF (aZ y.m n y.i s) y.N,aY (aZ y.m n y.i s) y.N,aY (aZ y.m n y.i s) y.N,0,(aY (aZ y.m n y.i s) y.N).length⟩⟩,⟨me,sp,R⟩,s.loadd (bU n y.i)⟩) [0,1,2,3,4,5,6,7,10,11,8,9,12,13] hK rfl rfl
theorem en4(t n:Int)(e:ENS)(st:STS)(s:MS)(K:AVal→aD Ob→Prop)(hp:e.ph=4)(ok:IP t n e st s)(hK:(enF t n e st s).left t n K):cT' 154 [.ptr 0 0,.ptr 2 0] (RE t n e st s) K:=by
 obtain⟨ht,hn,hc,hm,hR,ho⟩:=ok;obtain⟨ph,sh,dn,x,y⟩:=e;dsimp only at hp;subst hp;obtain⟨me,sp,R⟩:=st;dsimp only at hm hR;refine aB.pack tbl (aB.pack tbl ?_);refine aB.unpack tbl (.store t n ⟨me,sp,R⟩) 1 0 (dD t n ⟨me,sp,R⟩) [] rfl rfl rfl rfl ?_;refine aB.unpack tbl (.ensure t n ⟨4,sh,dn,x,y⟩) 0 1 (CQ t n ⟨4,sh,dn,x,y⟩) [1] rfl rfl rfl rfl ?_;refine aDE t n me sp R sh dn x y s _ ?_;have ho:2*t≤y.i∧1≤y.l∧y.gs.length=y.j+y.l∧ -1000000≤List.getD y.gs (y.j+Int.toNat 0*1) 0∧List.getD y.gs (y.j+Int.toNat 0*1) 0≤1000000:=ho;refine⟨⟨⟨rfl,rfl,rfl,rfl,rfl,rfl,rfl,rfl,rfl⟩,ht,hn,hc,ho.1,⟨ho.2.1,ho.2.2.1⟩,ho.2.2.2⟩,?_⟩;unfold enF at hK;dsimp only at hK;cases h1:ieq ((y.l - 1:Nat):Int) 0 with
 | false=>
   rw [h1]at hK;exact gK (o:=⟨false,⟨4,sh,dn,x,{y with j:=y.j+1,l:=y.l - 1}⟩,⟨me,sp,R⟩,s.added (bY n y.gs y.j) 1⟩) [0,1,2,3,4,5,6,7,8,9,10,11,12,13] hK rfl rfl
 | true=>
   rw [h1]at hK;exact gK (o:=⟨ieq (y.fs.length:Int) 0,⟨0,ieq (y.fs.length:Int) 0,true,x,y⟩,⟨me,sp,y.ks⟩,s.added (bY n y.gs y.j) 1⟩) [0,1,2,3,8] hK rfl rfl
theorem en1(t n:Int)(e:ENS)(st:STS)(s:MS)(K:AVal→aD Ob→Prop)(hp:e.ph=1)(ok:IP t n e st s)(hK:(enF t n e st s).left t n K):cT' 154 [.ptr 0 0,.ptr 2 0] (RE t n e st s) K:=by
 obtain⟨ht,hn,hc,hm,hR,ho⟩:=ok;obtain⟨ph,sh,dn,x,y⟩:=e;dsimp only at hp;subst hp;obtain⟨me,sp,R⟩:=st;dsimp only at hm hR;refine aB.pack tbl (aB.pack tbl ?_);refine aB.unpack tbl (.store t n ⟨me,sp,R⟩) 1 0 (dD t n ⟨me,sp,R⟩) [] rfl rfl rfl rfl ?_;refine aB.unpack tbl (.ensure t n ⟨1,sh,dn,x,y⟩) 0 1 (CQ t n ⟨1,sh,dn,x,y⟩) [1] rfl rfl rfl rfl ?_;refine aDB t n me sp R sh dn x y s _ ?_;have ho:okAl n x:=ho;obtain⟨hg,ha,hl⟩:=ho;refine⟨⟨rfl,ht,hn,ha,hl,hc⟩,?_⟩;obtain⟨got,at',left,found,free⟩:=x;dsimp only at hg ha hl⊢;subst hg;have i0:ieq at' 0=false:=by rw [b8];simp;omega
 have i00:ieq 0 0=true:=rfl;rw [i0,i00];unfold enF qS HF at hK;dsimp only at hK;cases free with
 | false=>
   dsimp only [cond]at hK⊢;cases ho:oddB (aC s.xs (n+4+at'))with
   | false=>
     rw [ho]at hK;exact gK (o:=⟨false,⟨1,sh,dn,⟨0,at',left,aC s.xs (n+4+at'),true⟩,y⟩,⟨me,sp,R⟩,s.loadd (n+4+at')⟩) [0,1,2,3,4,5] hK rfl rfl
   | true=>
     rw [ho]at hK;dsimp only [cond]at hK⊢;cases hw:ile (left - 1) 0 with
     | false=>
       rw [hw]at hK;exact gK (o:=⟨false,⟨1,sh,dn,⟨0,cS n at',left - 1,aC s.xs (n+4+at'),false⟩,y⟩,⟨me,sp,R⟩,s.loadd (n+4+at')⟩) [0,1,2,3,4,5] hK rfl rfl
     | true=>
       rw [hw]at hK;cases dn with
       | true=>exact gK (o:=⟨true,⟨2,true,true,⟨0,cS n at',left - 1,aC s.xs (n+4+at'),false⟩,y⟩,⟨me,0,R⟩,s.loadd (n+4+at')⟩) [0,1,2,3,4,5,6] hK rfl rfl
       | false=>exact gK (o:=⟨ieq (R.length:Int) 0,⟨2,ieq (R.length:Int) 0,false,⟨0,cS n at',left - 1,aC s.xs (n+4+at'),false⟩,y⟩,⟨me,0,R⟩,s.loadd (n+4+at')⟩) [0,1,2,3,4,5,6] hK rfl rfl
 | true=>
   dsimp only [cond]at hK⊢;unfold MS.cased at hK;cases hb:aT s.xs (n+4+at') found with
   | true=>
     rw [hb]at hK;exact gK (o:=⟨true,⟨1,sh,dn,⟨at',at',left,found,true⟩,y⟩,⟨me,at',R⟩,_⟩) [0,1,2,3,4,5] hK rfl rfl
   | false=>
     rw [hb]at hK;dsimp only [cond]at hK⊢;cases hw:ile (left - 1) 0 with
     | false=>
       rw [hw]at hK;exact gK (o:=⟨false,⟨1,sh,dn,⟨0,cS n at',left - 1,found,false⟩,y⟩,⟨me,sp,R⟩,_⟩) [0,1,2,3,4,5] hK rfl rfl
     | true=>
       rw [hw]at hK;cases dn with
       | true=>exact gK (o:=⟨true,⟨2,true,true,⟨0,cS n at',left - 1,found,false⟩,y⟩,⟨me,0,R⟩,_⟩) [0,1,2,3,4,5,6] hK rfl rfl
       | false=>exact gK (o:=⟨ieq (R.length:Int) 0,⟨2,ieq (R.length:Int) 0,false,⟨0,cS n at',left - 1,found,false⟩,y⟩,⟨me,0,R⟩,_⟩) [0,1,2,3,4,5,6] hK rfl rfl
theorem en0(t n:Int)(e:ENS)(st:STS)(s:MS)(K:AVal→aD Ob→Prop)(hp:e.ph=0)(ok:IP t n e st s)(hK:(enF t n e st s).left t n K):cT' 154 [.ptr 0 0,.ptr 2 0] (RE t n e st s) K:=by
 obtain⟨ht,hn,hc,hm,hR,ho⟩:=ok;obtain⟨ph,sh,dn,x,y⟩:=e;dsimp only at hp;subst hp;obtain⟨me,sp,R⟩:=st;dsimp only at hm hR;refine aB.pack tbl (aB.pack tbl ?_);refine aB.unpack tbl (.store t n ⟨me,sp,R⟩) 1 0 (dD t n ⟨me,sp,R⟩) [] rfl rfl rfl rfl ?_;refine aB.unpack tbl (.ensure t n ⟨0,sh,dn,x,y⟩) 0 1 (CQ t n ⟨0,sh,dn,x,y⟩) [1] rfl rfl rfl rfl ?_;refine aDA t n me sp R sh dn x y s _ ?_;unfold enF qS HF at hK;dsimp only at hK;cases hz:ieq sp 0 with
 | false=>
   rw [hz]at hK;exact⟨⟨rfl,by omega⟩,gK (o:=⟨true,⟨0,sh,dn,x,y⟩,⟨me,sp,R⟩,s.loadd 0⟩) [0,1,2,3,4] hK rfl rfl⟩
 | true=>
   rw [hz]at hK
   have ha:1≤at0 t n me∧at0 t n me≤n:=by
    unfold at0 bT;cases h1:(ile 1 (aP t n me))<;>cases h2:ile (aP t n me) n<;>simp only [Bool.and_true,Bool.and_false,Bool.and_self,cond_true,cond_false]<;>rw [cH]at h1 h2<;>simp at h1 h2<;>omega
   refine⟨⟨by omega,by omega⟩,⟨trivial,trivial⟩,⟨rfl,ht,hn,ha,by omega,hc⟩,?_⟩
   show cond (oddB (aC s.xs (n+4+at0 t n me))) _ _;cases ho:oddB (aC s.xs (n+4+at0 t n me))with
   | false=>
     rw [ho]at hK;exact gK (o:=⟨false,⟨1,sh,dn,⟨0,at0 t n me,n,aC s.xs (n+4+at0 t n me),true⟩,y⟩,⟨me,sp,R⟩,s.loadd (n+4+at0 t n me)⟩) [0,1,2,3,4,5] hK rfl rfl
   | true=>
     rw [ho]at hK;dsimp only [cond]at hK⊢;cases hw:ile (n - 1) 0 with
     | false=>
       rw [hw]at hK;exact gK (o:=⟨false,⟨1,sh,dn,⟨0,cS n (at0 t n me),n - 1,aC s.xs (n+4+at0 t n me),false⟩,y⟩,⟨me,sp,R⟩,s.loadd (n+4+at0 t n me)⟩) [0,1,2,3,4,5] hK rfl rfl
     | true=>
       rw [hw]at hK;cases dn with
       | true=>exact gK (o:=⟨true,⟨2,true,true,⟨0,cS n (at0 t n me),n - 1,aC s.xs (n+4+at0 t n me),false⟩,y⟩,⟨me,0,R⟩,s.loadd (n+4+at0 t n me)⟩) [0,1,2,3,4,5,6] hK rfl rfl
       | false=>exact gK (o:=⟨ieq (R.length:Int) 0,⟨2,ieq (R.length:Int) 0,false,⟨0,cS n (at0 t n me),n - 1,aC s.xs (n+4+at0 t n me),false⟩,y⟩,⟨me,0,R⟩,s.loadd (n+4+at0 t n me)⟩) [0,1,2,3,4,5,6] hK rfl rfl
theorem FH(t n:Int)(e:ENS)(st:STS)(s:MS)(K:AVal→aD Ob→Prop)(ok:IP t n e st s)(hK:(enF t n e st s).left t n K):cT' 154 [.ptr 0 0,.ptr 2 0] (RE t n e st s) K:=by
 match h:e.ph with
 | 0=>exact en0 t n e st s K h ok hK
 | 1=>exact en1 t n e st s K h ok hK
 | 2=>exact en2 t n e st s K h ok hK
 | 3=>exact en3 t n e st s K h ok hK
 | 4=>exact en4 t n e st s K h ok hK
 | k+5=>have:=ok.ho;unfold aCS at this;rw [h]at this;exact this.elim
noncomputable def enS:aI Ob:=fun args h=>match args,h with
 | [.ptr 0 0,.ptr 2 0],[some (.abs (.ensure t n e) [1]),some (.abs (.store t' n' st) []),e1,e2]=>(match cL 3 [e1,e2]with
   | some (l,s)=>some (.pre ((l=s.xs.length∧t'=t∧n'=n)∧IP t n e st s) (.ret (.bool (enF t n e st s).d) (RE t n (enF t n e st s).e (enF t n e st s).st (enF t n e st s).s)))
   | none=>none)
 | _,_=>none
theorem aB9:aI.ok E42.I Tryz.prog 154 enS:=by
 intro args h o ho K hK;unfold enS at ho;split at ho
 case h_2=>cases ho
 split at ho<;>cases ho
 rename_i hm;obtain⟨⟨⟨hl,ht',hn'⟩,ok⟩,hK⟩:=hK;have hh:=bB hm hl;cases hh;subst ht' hn';exact FH _ _ _ _ _ K ok hK
noncomputable def enE:=E42.addS 154 enS aB9
structure SO where
 d:Bool
 e:SWS
 st:STS
 s:MS
instance:Inhabited SO:=⟨⟨false,bK,⟨0,0,[]⟩,⟨0,0,[],0,0,0,0,0,false⟩⟩⟩
def swF(t n:Int)(y:SWS)(st:STS)(s:MS):SO:=match y.ph with
 | 0=>⟨false,{y with ph:=1,N:=st.R,m:=aZ [] n 0 s,i:=1},st,s.loadd (bU n 0)⟩
 | 1=>(match ieq (y.i+1) (2*t),ieq ((aY (aZ y.m n y.i s) y.N).length :Int) 0 with
   | true,true=>⟨true,{y with ph:=3},{st with R:=cF (aZ y.m n y.i s) y.N},s.loadd (bU n y.i)⟩
   | true,false=>⟨false,⟨2,y.N,aZ y.m n y.i s,y.i+1,cF (aZ y.m n y.i s) y.N,aY (aZ y.m n y.i s) y.N,aY (aZ y.m n y.i s) y.N,0,(aY (aZ y.m n y.i s) y.N).length⟩,st,s.loadd (bU n y.i)⟩
   | false,_=>⟨false,{y with m:=aZ y.m n y.i s,i:=y.i+1},st,s.loadd (bU n y.i)⟩)
 | _=>(match ieq ((y.l - 1:Nat):Int) 0 with
   | true=>⟨true,{y with ph:=3},{st with R:=y.ks},s.added (bY n y.gs y.j) 1⟩
   | false=>⟨false,{y with j:=y.j+1,l:=y.l - 1},st,s.added (bY n y.gs y.j) 1⟩)
def VT(t n:Int)(y:SWS):Prop:=match y.ph with
 | 0=>True
 | 1=>y.N.length≤1000000∧0≤y.i∧y.i<2*t
 | 2=>2*t≤y.i∧1≤y.l∧y.gs.length=y.j+y.l∧ -1000000≤List.getD y.gs (y.j+Int.toNat 0*1) 0∧List.getD y.gs (y.j+Int.toNat 0*1) 0≤1000000
 | _=>False
structure pY (t n:Int) (y:SWS) (st:STS) (s:MS):Prop where
 ht:1≤t∧t≤1000
 hn:1≤n∧n≤1000
 hc:0≤s.c∧s.c≤1000000
 hR:st.R.length≤1000000
 ho:VT t n y
def swH(t n:Int)(y:SWS)(st:STS)(s:MS):aD Ob:=[some (.abs (.sweep t n y) [1]),some (.abs (.store t n st) []),bE 3 s,bF s]
def SO.left(o:SO)(t n:Int)(K:AVal→aD Ob→Prop):Prop:=K (.bool o.d) (swH t n o.e o.st o.s)
theorem wM{K:AVal→aD Ob→Prop}{t n:Int}{o:SO}{g':aD Ob}(pl:List Nat)(hK:o.left t n K)
 (hb:(dT pl g'.length&&iX pl 0 4&&obOk 1 (JE t n o.e))=true)
 (hT:gS pl g'=aM [some (.abs (.sweep t n o.e) [1]),some (.cells [.int .i64 t,.int .i64 n,.int .i64 o.st.me,.int .i64 o.st.sp,.slice 4 0 o.st.R.length 1]),bE 3 o.s,bF o.s,some (.ints (some .i64) o.st.R)] 0 1 (JE t n o.e) [1]):yQ tbl 4 (yQ tbl 4 K) (.bool o.d) g':=by
 simp only [Bool.and_eq_true]at hb;obtain⟨⟨b1,b2⟩,b3⟩:=hb;refine⟨pl,_,.sweep t n o.e,0,1,_,[1],?_,hT,rfl,rfl,⟨[0,1,2,3,4],[some (.abs (.sweep t n o.e) [1]),some (.abs (.store t n o.st) []),bE 3 o.s,bF o.s],.store t n o.st,1,0,dD t n o.st,[],rfl,rfl,rfl,rfl,?_⟩⟩
 ·rw [b1,b2,b3];rfl
 ·exact hK
def NM(t n me sp:Int)(R:List Int)(y:SWS)(s:MS)(K:AVal→aD Ob→Prop):Prop:=((lE' s.3∧lE' R)∧((1:Int)≤t∧t≤(1000:Int))∧((1:Int)≤n∧n≤(1000:Int))∧((0:Int)≤s.4∧s.4≤(1000000:Int))∧R.length≤(1000000:Nat))∧K (.bool false) [some (.cells [.ptr 1 0,.ptr 5 0]),some (.cells [.int .i64 t,.int .i64 n,.int .i64 me,.int .i64 sp,.slice 4 0 R.length 1]),some (.cells [.int .i64 s.1,.int .i64 s.2,.slice 3 0 s.3.length 1,.int .i64 (s.4+1),.int .i64 1,.int .i64 (bU n 0),.int .u64 (aC s.3 (bU n 0)),.int .u64 (aC s.3 (bU n 0)),.bool (bQ s.3 (bU n 0))]),some (.ints (some .u64) s.3),some (.ints (some .i64) R),some (.cells [.int .i64 t,.int .i64 n,.raw (Value.slice none 0 0),.raw (Value.slice none 0 0),.slice 6 0 R.length 1,.map 7,.int .i64 1,.raw (Value.pointer none)]),some (.ints (some .i64) R),some (.imap .i64 none (aZ [] n 0 s))]
theorem aDO(t n me sp:Int)(R:List Int)(y:SWS)(s:MS)(K:AVal→aD Ob→Prop)(hK:NM t n me sp R y s K):cT' 169 [.ptr 0 0,.ptr 2 0] [some (.cells [.ptr 1 0,.raw (.pointer none)]),some (.cells [.int .i64 t,.int .i64 n,.int .i64 me,.int .i64 sp,.slice 4 0 R.length 1]),bE 3 s,bF s,some (.ints (some .i64) R)] K:=
 (jG nW) _ _ _ (Ev.get (aJ (p:=mJ swStepS [.ptr 0 0,.ptr 2 0] [some (.cells [.ptr 1 0,.raw (.pointer none)]),some (.cells [.int .i64 t,.int .i64 n,.int .i64 me,.int .i64 sp,.slice 4 0 R.length 1]),bE 3 s,bF s,some (.ints (some .i64) R)] K) (q:=NM t n me sp R y s K) (by kernel_rfl) hK))
def NN(t n me sp:Int)(R:List Int)(y:SWS)(s:MS)(K:AVal→aD Ob→Prop):Prop:=((lE' s.3∧lE' R∧lE' y.2∧t=t∧n=n)∧((1:Int)≤t∧t≤(1000:Int))∧((1:Int)≤n∧n≤(1000:Int))∧((0:Int)≤s.4∧s.4≤(1000000:Int))∧y.2.length≤(1000000:Nat)∧(0:Int)≤y.4∧y.4<(2:Int)*t)∧bif ieq (y.4+1) (2*t)then bif ieq (↑(List.length (aY (aZ y.3 n y.4 s) y.2)):Int) 0 then K (.bool true) [some (.cells [.ptr 1 0,.ptr 5 0]),some (.cells [.int .i64 t,.int .i64 n,.int .i64 me,.int .i64 sp,.slice 8 0 (List.length (cF (aZ y.3 n y.4 s) y.2)) 1]),some (.cells [.int .i64 s.1,.int .i64 s.2,.slice 3 0 s.3.length 1,.int .i64 (s.4+1),.int .i64 1,.int .i64 (bU n y.4),.int .u64 (aC s.3 (bU n y.4)),.int .u64 (aC s.3 (bU n y.4)),.bool (bQ s.3 (bU n y.4))]),some (.ints (some .u64) s.3),some (.ints (some .i64) R),some (.cells [.int .i64 t,.int .i64 n,.slice 8 0 (List.length (cF (aZ y.3 n y.4 s) y.2)) 1,.slice 9 0 (List.length (aY (aZ y.3 n y.4 s) y.2)) 1,.slice 6 0 y.2.length 1,.map 7,.int .i64 (y.4+1),.ptr 10 0]),some (.ints (some .i64) y.2),some (.imap .i64 none (aZ y.3 n y.4 s)),some (.ints (some .i64) (cF (aZ y.3 n y.4 s) y.2)),some (.ints (some .i64) (aY (aZ y.3 n y.4 s) y.2)),some (.cells [.int .i64 t,.int .i64 n,.slice 11 0 (List.length (aY (aZ y.3 n y.4 s) y.2)) 1]),some (.ints (some .i64) (aY (aZ y.3 n y.4 s) y.2))]else K (.bool false) [some (.cells [.ptr 1 0,.ptr 5 0]),some (.cells [.int .i64 t,.int .i64 n,.int .i64 me,.int .i64 sp,.slice 4 0 R.length 1]),some (.cells [.int .i64 s.1,.int .i64 s.2,.slice 3 0 s.3.length 1,.int .i64 (s.4+1),.int .i64 1,.int .i64 (bU n y.4),.int .u64 (aC s.3 (bU n y.4)),.int .u64 (aC s.3 (bU n y.4)),.bool (bQ s.3 (bU n y.4))]),some (.ints (some .u64) s.3),some (.ints (some .i64) R),some (.cells [.int .i64 t,.int .i64 n,.slice 8 0 (List.length (cF (aZ y.3 n y.4 s) y.2)) 1,.slice 9 0 (List.length (aY (aZ y.3 n y.4 s) y.2)) 1,.slice 6 0 y.2.length 1,.map 7,.int .i64 (y.4+1),.ptr 10 0]),some (.ints (some .i64) y.2),some (.imap .i64 none (aZ y.3 n y.4 s)),some (.ints (some .i64) (cF (aZ y.3 n y.4 s) y.2)),some (.ints (some .i64) (aY (aZ y.3 n y.4 s) y.2)),some (.cells [.int .i64 t,.int .i64 n,.slice 11 0 (List.length (aY (aZ y.3 n y.4 s) y.2)) 1]),some (.ints (some .i64) (aY (aZ y.3 n y.4 s) y.2))]else K (.bool false) [some (.cells [.ptr 1 0,.ptr 5 0]),some (.cells [.int .i64 t,.int .i64 n,.int .i64 me,.int .i64 sp,.slice 4 0 R.length 1]),some (.cells [.int .i64 s.1,.int .i64 s.2,.slice 3 0 s.3.length 1,.int .i64 (s.4+1),.int .i64 1,.int .i64 (bU n y.4),.int .u64 (aC s.3 (bU n y.4)),.int .u64 (aC s.3 (bU n y.4)),.bool (bQ s.3 (bU n y.4))]),some (.ints (some .u64) s.3),some (.ints (some .i64) R),some (.cells [.int .i64 t,.int .i64 n,.raw (Value.slice none 0 0),.raw (Value.slice none 0 0),.slice 6 0 y.2.length 1,.map 7,.int .i64 (y.4+1),.raw (Value.pointer none)]),some (.ints (some .i64) y.2),some (.imap .i64 none (aZ y.3 n y.4 s))]
theorem aDP(t n me sp:Int)(R:List Int)(y:SWS)(s:MS)(K:AVal→aD Ob→Prop)(hK:NN t n me sp R y s K):cT' 169 [.ptr 0 0,.ptr 2 0] [some (.cells [.ptr 1 0,.ptr 5 0]),some (.cells [.int .i64 t,.int .i64 n,.int .i64 me,.int .i64 sp,.slice 4 0 R.length 1]),bE 3 s,bF s,some (.ints (some .i64) R),some (.cells [.int .i64 t,.int .i64 n,.raw (.slice none 0 0),.raw (.slice none 0 0),.slice 6 0 y.N.length 1,.map 7,.int .i64 y.i,.raw (.pointer none)]),some (.ints (some .i64) y.N),some (.imap .i64 none y.m)] K:=
 (jG nW) _ _ _ (Ev.get (aJ (p:=mJ swStepS [.ptr 0 0,.ptr 2 0] [some (.cells [.ptr 1 0,.ptr 5 0]),some (.cells [.int .i64 t,.int .i64 n,.int .i64 me,.int .i64 sp,.slice 4 0 R.length 1]),bE 3 s,bF s,some (.ints (some .i64) R),some (.cells [.int .i64 t,.int .i64 n,.raw (.slice none 0 0),.raw (.slice none 0 0),.slice 6 0 y.N.length 1,.map 7,.int .i64 y.i,.raw (.pointer none)]),some (.ints (some .i64) y.N),some (.imap .i64 none y.m)] K) (q:=NN t n me sp R y s K) (by kernel_rfl) hK))
def NO(t n me sp:Int)(R:List Int)(y:SWS)(s:MS)(K:AVal→aD Ob→Prop):Prop:=((lE' s.3∧lE' R∧lE' y.5∧lE' y.6∧lE' y.2∧t=t∧n=n∧t=t∧n=n)∧((1:Int)≤t∧t≤(1000:Int))∧((1:Int)≤n∧n≤(1000:Int))∧((0:Int)≤s.4∧s.4≤(1000000:Int))∧2*t≤y.4∧((1:Nat)≤y.9∧y.7.length=y.8+y.9)∧(-1000000:Int)≤List.getD y.7 (y.8+Int.toNat 0*1) 0∧List.getD y.7 (y.8+Int.toNat 0*1) (0:Int)≤(1000000:Int))∧bif ieq (↑(y.9 - 1):Int) 0 then K (.bool true) [some (.cells [.ptr 1 0,.ptr 5 0]),some (.cells [.int .i64 t,.int .i64 n,.int .i64 me,.int .i64 sp,.slice 6 0 y.5.length 1]),some (.cells [.int .i64 s.1,.int .i64 s.2,.slice 3 0 (List.length (aV s.3 (bY n y.7 y.8) (WU (aC s.3 (bY n y.7 y.8)+1)))) 1,.int .i64 (s.4+1),.int .i64 4,.int .i64 (bY n y.7 y.8),.int .u64 (aC s.3 (bY n y.7 y.8)),.int .u64 (bif bQ s.3 (bY n y.7 y.8)then WU (aC s.3 (bY n y.7 y.8)+1)else 0),.bool (bQ s.3 (bY n y.7 y.8))]),some (.ints (some .u64) (aV s.3 (bY n y.7 y.8) (WU (aC s.3 (bY n y.7 y.8)+1)))),some (.ints (some .i64) R),some (.cells [.int .i64 t,.int .i64 n,.slice 6 0 y.5.length 1,.slice 7 0 y.6.length 1,.slice 8 0 y.2.length 1,.map 9,.int .i64 y.4,.ptr 10 0]),some (.ints (some .i64) y.5),some (.ints (some .i64) y.6),some (.ints (some .i64) y.2),some (.imap .i64 none y.3),some (.cells [.int .i64 t,.int .i64 n,.slice 11 (y.8+1) (y.9 - 1) 1]),some (.ints (some .i64) y.7)]else K (.bool false) [some (.cells [.ptr 1 0,.ptr 5 0]),some (.cells [.int .i64 t,.int .i64 n,.int .i64 me,.int .i64 sp,.slice 4 0 R.length 1]),some (.cells [.int .i64 s.1,.int .i64 s.2,.slice 3 0 (List.length (aV s.3 (bY n y.7 y.8) (WU (aC s.3 (bY n y.7 y.8)+1)))) 1,.int .i64 (s.4+1),.int .i64 4,.int .i64 (bY n y.7 y.8),.int .u64 (aC s.3 (bY n y.7 y.8)),.int .u64 (bif bQ s.3 (bY n y.7 y.8)then WU (aC s.3 (bY n y.7 y.8)+1)else 0),.bool (bQ s.3 (bY n y.7 y.8))]),some (.ints (some .u64) (aV s.3 (bY n y.7 y.8) (WU (aC s.3 (bY n y.7 y.8)+1)))),some (.ints (some .i64) R),some (.cells [.int .i64 t,.int .i64 n,.slice 6 0 y.5.length 1,.slice 7 0 y.6.length 1,.slice 8 0 y.2.length 1,.map 9,.int .i64 y.4,.ptr 10 0]),some (.ints (some .i64) y.5),some (.ints (some .i64) y.6),some (.ints (some .i64) y.2),some (.imap .i64 none y.3),some (.cells [.int .i64 t,.int .i64 n,.slice 11 (y.8+1) (y.9 - 1) 1]),some (.ints (some .i64) y.7)]
theorem aDQ(t n me sp:Int)(R:List Int)(y:SWS)(s:MS)(K:AVal→aD Ob→Prop)(hK:NO t n me sp R y s K):cT' 169 [.ptr 0 0,.ptr 2 0] [some (.cells [.ptr 1 0,.ptr 5 0]),some (.cells [.int .i64 t,.int .i64 n,.int .i64 me,.int .i64 sp,.slice 4 0 R.length 1]),bE 3 s,bF s,some (.ints (some .i64) R),some (.cells [.int .i64 t,.int .i64 n,.slice 6 0 y.ks.length 1,.slice 7 0 y.fs.length 1,.slice 8 0 y.N.length 1,.map 9,.int .i64 y.i,.ptr 10 0]),some (.ints (some .i64) y.ks),some (.ints (some .i64) y.fs),some (.ints (some .i64) y.N),some (.imap .i64 none y.m),some (.cells [.int .i64 t,.int .i64 n,.slice 11 y.j y.l 1]),some (.ints (some .i64) y.gs)] K:=
 (jG nW) _ _ _ (Ev.get (aJ (p:=mJ swStepS [.ptr 0 0,.ptr 2 0] [some (.cells [.ptr 1 0,.ptr 5 0]),some (.cells [.int .i64 t,.int .i64 n,.int .i64 me,.int .i64 sp,.slice 4 0 R.length 1]),bE 3 s,bF s,some (.ints (some .i64) R),some (.cells [.int .i64 t,.int .i64 n,.slice 6 0 y.ks.length 1,.slice 7 0 y.fs.length 1,.slice 8 0 y.N.length 1,.map 9,.int .i64 y.i,.ptr 10 0]),some (.ints (some .i64) y.ks),some (.ints (some .i64) y.fs),some (.ints (some .i64) y.N),some (.imap .i64 none y.m),some (.cells [.int .i64 t,.int .i64 n,.slice 11 y.j y.l 1]),some (.ints (some .i64) y.gs)] K) (q:=NO t n me sp R y s K) (by kernel_rfl) hK))
theorem wc{x y:Option (aH Ob)}{g g2:aD Ob}(h:oK x y)(k:kR g g2):kR (x::g) (y::g2):=⟨h,k⟩
theorem wv{v w:AVal}{vs ws:List AVal}(h:w=v∨w=.O)(k:nI vs ws):nI (v::vs) (w::ws):=⟨h,k⟩
theorem aDU:nI [] []:=trivial
theorem aC2{vs ws:List AVal}(h:nI vs ws):oK (some (.cells vs):Option (aH Ob)) (some (.cells ws)):=h
theorem wvs: ∀vs:List AVal,nI vs vs
 | []=>trivial
 | v::vs=>⟨.inl rfl,wvs vs⟩
theorem aDa: ∀x:Option (aH Ob),oK x x
 | none=>trivial
 | some (.cells vs)=>wvs vs
 | some (.ints c xs)=>rfl
 | some (.abs t ps)=>rfl
 | some (.tab ks r)=>rfl
 | some (.imap k v m)=>rfl
theorem EW: ∀g:aD Ob,kR g g
 | []=>trivial
 | x::g=>⟨aDa x,EW g⟩
theorem sY{K:AVal→aD Ob→Prop}{v:AVal}{g:aD Ob}(h:K v g):JW K v g:=⟨g,EW g,h⟩
theorem BV{K:AVal→aD Ob→Prop}{v a b:AVal}{g:aD Ob}(h:K v (some (.cells [a,.O])::g)):JW K v (some (.cells [a,b])::g):=⟨_,wc (aC2 (wv (.inl rfl) (wv (.inr rfl) aDU))) (EW g),h⟩
theorem sw0(t n:Int)(y:SWS)(st:STS)(s:MS)(K:AVal→aD Ob→Prop)(hp:y.ph=0)(ok:pY t n y st s)(hK:(swF t n y st s).left t n K):cT' 169 [.ptr 0 0,.ptr 2 0] (swH t n y st s) K:=by
 obtain⟨ht,hn,hc,hR,ho⟩:=ok;obtain⟨ph,N,m,i,ks,fs,gs,j,l⟩:=y;dsimp only at hp;subst hp;obtain⟨me,sp,R⟩:=st;dsimp only at hR;refine aB.pack tbl (aB.pack tbl (aB.less ?_));refine aB.unpack tbl (.store t n ⟨me,sp,R⟩) 1 0 (dD t n ⟨me,sp,R⟩) [] rfl rfl rfl rfl ?_;refine aB.unpack tbl (.sweep t n ⟨0,N,m,i,ks,fs,gs,j,l⟩) 0 1 (JE t n ⟨0,N,m,i,ks,fs,gs,j,l⟩) [1] rfl rfl rfl rfl ?_;refine aDO t n me sp R ⟨0,N,m,i,ks,fs,gs,j,l⟩ s _ ?_;unfold NM;exact⟨⟨⟨rfl,rfl⟩,ht,hn,hc,hR⟩,sY (wM (o:=swF t n ⟨0,N,m,i,ks,fs,gs,j,l⟩ ⟨me,sp,R⟩ s) [0,1,2,3,4,5,6,7] hK rfl rfl)⟩
theorem sw1(t n:Int)(y:SWS)(st:STS)(s:MS)(K:AVal→aD Ob→Prop)(hp:y.ph=1)(ok:pY t n y st s)(hK:(swF t n y st s).left t n K):cT' 169 [.ptr 0 0,.ptr 2 0] (swH t n y st s) K:=by
 obtain⟨ht,hn,hc,hR,ho⟩:=ok;obtain⟨ph,N,m,i,ks,fs,gs,j,l⟩:=y;dsimp only at hp;subst hp;obtain⟨me,sp,R⟩:=st;dsimp only at hR;refine aB.pack tbl (aB.pack tbl (aB.less ?_));refine aB.unpack tbl (.store t n ⟨me,sp,R⟩) 1 0 (dD t n ⟨me,sp,R⟩) [] rfl rfl rfl rfl ?_;refine aB.unpack tbl (.sweep t n ⟨1,N,m,i,ks,fs,gs,j,l⟩) 0 1 (JE t n ⟨1,N,m,i,ks,fs,gs,j,l⟩) [1] rfl rfl rfl rfl ?_;refine aDP t n me sp R ⟨1,N,m,i,ks,fs,gs,j,l⟩ s _ ?_;unfold NN;have ho:N.length≤1000000∧0≤i∧i<2*t:=ho;refine⟨⟨⟨rfl,rfl,rfl,rfl,rfl⟩,ht,hn,hc,ho.1,ho.2⟩,?_⟩;unfold swF at hK;dsimp only at hK⊢;cases h1:ieq (i+1) (2*t)with
 | false=>
   rw [h1]at hK;exact sY (wM (o:=⟨false,⟨1,N,aZ m n i s,i+1,ks,fs,gs,j,l⟩,⟨me,sp,R⟩,s.loadd (bU n i)⟩) [0,1,2,3,4,5,6,7] hK rfl rfl)
 | true=>
   rw [h1]at hK;cases h2:ieq ((aY (aZ m n i s) N).length :Int) 0 with
   | true=>
     rw [h2]at hK;exact BV (wM (o:=⟨true,⟨3,N,m,i,ks,fs,gs,j,l⟩,⟨me,sp,cF (aZ m n i s) N⟩,s.loadd (bU n i)⟩) [0,1,2,3,8] hK rfl rfl)
   | false=>
     rw [h2]at hK;exact sY (wM (o:=⟨false,⟨2,N,aZ m n i s,i+1,cF (aZ m n i s) N,aY (aZ m n i s) N,aY (aZ m n i s) N,0,(aY (aZ m n i s) N).length⟩,⟨me,sp,R⟩,s.loadd (bU n i)⟩) [0,1,2,3,4,5,8,9,6,7,10,11] hK rfl rfl)
theorem sw2(t n:Int)(y:SWS)(st:STS)(s:MS)(K:AVal→aD Ob→Prop)(hp:y.ph=2)(ok:pY t n y st s)(hK:(swF t n y st s).left t n K):cT' 169 [.ptr 0 0,.ptr 2 0] (swH t n y st s) K:=by
 obtain⟨ht,hn,hc,hR,ho⟩:=ok;obtain⟨ph,N,m,i,ks,fs,gs,j,l⟩:=y;dsimp only at hp;subst hp;obtain⟨me,sp,R⟩:=st;dsimp only at hR;refine aB.pack tbl (aB.pack tbl (aB.less ?_));refine aB.unpack tbl (.store t n ⟨me,sp,R⟩) 1 0 (dD t n ⟨me,sp,R⟩) [] rfl rfl rfl rfl ?_;refine aB.unpack tbl (.sweep t n ⟨2,N,m,i,ks,fs,gs,j,l⟩) 0 1 (JE t n ⟨2,N,m,i,ks,fs,gs,j,l⟩) [1] rfl rfl rfl rfl ?_;refine aDQ t n me sp R ⟨2,N,m,i,ks,fs,gs,j,l⟩ s _ ?_;unfold NO;have ho:2*t≤i∧1≤l∧gs.length=j+l∧ -1000000≤List.getD gs (j+Int.toNat 0*1) 0∧List.getD gs (j+Int.toNat 0*1) 0≤1000000:=ho;refine⟨⟨⟨rfl,rfl,rfl,rfl,rfl,rfl,rfl,rfl,rfl⟩,ht,hn,hc,ho.1,⟨ho.2.1,ho.2.2.1⟩,ho.2.2.2⟩,?_⟩;unfold swF at hK;dsimp only at hK⊢;cases h1:ieq ((l - 1:Nat):Int) 0 with
 | false=>
   rw [h1]at hK;exact sY (wM (o:=⟨false,⟨2,N,m,i,ks,fs,gs,j+1,l - 1⟩,⟨me,sp,R⟩,s.added (bY n gs j) 1⟩) [0,1,2,3,4,5,6,7,8,9,10,11] hK rfl rfl)
 | true=>
   rw [h1]at hK;exact BV (wM (o:=⟨true,⟨3,N,m,i,ks,fs,gs,j,l⟩,⟨me,sp,ks⟩,s.added (bY n gs j) 1⟩) [0,1,2,3,6] hK rfl rfl)
theorem UJ(t n:Int)(y:SWS)(st:STS)(s:MS)(K:AVal→aD Ob→Prop)(ok:pY t n y st s)(hK:(swF t n y st s).left t n K):cT' 169 [.ptr 0 0,.ptr 2 0] (swH t n y st s) K:=by
 match h:y.ph with
 | 0=>exact sw0 t n y st s K h ok hK
 | 1=>exact sw1 t n y st s K h ok hK
 | 2=>exact sw2 t n y st s K h ok hK
 | k+3=>have:=ok.ho;unfold VT at this;rw [h]at this;exact this.elim
theorem eV{I:Itp Ob}{n:Nat}{K:AVal→aD Ob→Prop}{d:Bool}{a b g:aD Ob}(hK:(Out.ite d (.ret (.bool true) a) (.ret (.bool false) b)).run K)(h1:K (.bool true) a→eY I n K (.bool true) g)(h2:d=false→K (.bool false) b→eY I n K (.bool false) g):eY I n K (.bool d) g:=by
 cases d with
 | true=>exact h1 hK
 | false=>exact h2 rfl hK
abbrev iT(l:Nat)(t n:Int)(st:STS):Option (aH Mc):=some (.cells [.I t,.I n,.I st.me,.I st.sp,.slice l 0 st.R.length 1])
abbrev iU(st:STS):Option (aH Mc):=some (.ints (some .i64) st.R)
def lB(w:Nat)(h:aD Ob):Option (Nat×Int×Int×STS):=match h with
 | [some (.cells [.int .i64 t,.int .i64 n,.int .i64 me,.int .i64 sp,.slice l 0 len 1]),some (.ints (some .i64) xs)]=>if l=w then some (len,t,n,⟨me,sp,xs⟩)else none
 | _=>none
theorem cB{w:Nat}{h:aD Ob}{l:Nat}{t n:Int}{st:STS}(e:lB w h=some (l,t,n,st))(hl:l=st.R.length):h=[iT w t n st,iU st]:=by
 unfold lB at e;split at e
 ·split at e
  ·rename_i hw;simp only [sI',pI']at e;obtain⟨rfl,rfl,rfl,rfl⟩:=e;subst hw;simp only at hl;subst hl;rfl
  ·cases e
 ·cases e
theorem jN{f:FuncId}{t n:Int}{st st':STS}{s s':MS}{M:Mc}{e1 e2:aH Mc}{d:Bool}(h1: ∀ι:Nat→Nat,ι 1=1→e1.ren ι=e1)(h2: ∀ι:Nat→Nat,ι 1=1→e2.ren ι=e2)
 (hA: ∀K,(Out.ite d (.ret (.bool true) [some e1,some (.abs (.store t n st') []),bE 3 s',bF s']) (.ret (.bool false) [some e2,some (.abs (.store t n st') []),bE 3 s',bF s'])).run K→cT' f [.ptr 0 0,.ptr 2 0] [some (.abs M [1]),some (.abs (.store t n st) []),bE 3 s,bF s] K)
 (K:AVal→aD Ob→Prop) (hK:(Out.ite d (.ret (.bool true) [some e1,iT 5 t n st',none,bE 4 s',bF s',iU st']) (.ret (.bool false) [some e2,iT 5 t n st',none,bE 4 s',bF s',iU st'])).run K):
 cT' f [.ptr 0 0,.ptr 3 0] [some (.abs M [1]),iT 2 t n st,iU st,bE 4 s,bF s] K:=by
 refine aEV ?_;refine aFb (h0:=[some (.abs M [1]),iT 4 t n st,bE 3 s,bF s,iU st]) (args0:=[.ptr 0 0,.ptr 2 0]) (K0:=fun v g=>eY (obI tbl) 5 K (v.ren (iota [0,1,3,4,2] 5)) (oF [some (.abs M [1]),iT 2 t n st,iU st,bE 4 s,bF s] [0,1,3,4,2] g)) ?_ [0,1,3,4,2] rfl (by decide) (by intro l hl;simp at hl⊢;omega) ?_ rfl (fun v g hk _=>hk)
 ·refine aB.shut tbl [some (.abs M [1]),some (.abs (.store t n st) []),bE 3 s,bF s] (.store t n st) 1 0 (dD t n st) [] (by kernel_rfl) rfl rfl (by kernel_rfl) (hA _ ?_)
  have i1:farI 4 1 1=1:=rfl;have i2:iota [0,1,3,4,2] 5 1=1:=rfl;cases d with
  | true=>
    have q1:((e1.ren (farI 4 1)).ren (iota [0,1,3,4,2] 5))=e1:=by rw [h1 _ i1,h1 _ i2]
    refine⟨_,_,aF.trans (aEH (g2:=[some e1,some (.abs (.store t n st') []),none,bE 4 s',bF s']) (by kernel_rfl) ?_) (aF.unpack (.store t n st') 1 0 (dD t n st') [] rfl rfl rfl rfl),hK⟩
    show [some ((e1.ren (farI 4 1)).ren (iota [0,1,3,4,2] 5)),_,_,_,_]=_;rw [q1];rfl
  | false=>
    have q2:((e2.ren (farI 4 1)).ren (iota [0,1,3,4,2] 5))=e2:=by rw [h2 _ i1,h2 _ i2]
    refine⟨_,_,aF.trans (aEH (g2:=[some e2,some (.abs (.store t n st') []),none,bE 4 s',bF s']) (by kernel_rfl) ?_) (aF.unpack (.store t n st') 1 0 (dD t n st') [] rfl rfl rfl rfl),hK⟩
    show [some ((e2.ren (farI 4 1)).ren (iota [0,1,3,4,2] 5)),_,_,_,_]=_;rw [q2];rfl
 ·intro i l hi
  match i,hi with
  | 0,hi=>cases hi;rfl
  | 1,hi=>cases hi;rfl
  | 2,hi=>cases hi;rfl
  | 3,hi=>cases hi;rfl
  | 4,hi=>cases hi;rfl
  | _+5,hi=>cases hi
def fT(kd:Int):Bool:=ieq kd 1||ieq kd 4
def oG(sh kd:Int):Bool:=ieq kd 5&&ieq sh 4
def tR(sh kd:Int):Bool:=ieq kd 2||ieq kd 5&&ieq sh 3
def gV(ky curr cw:Int):Bool:=bif ieq curr 0 then false else ieq (aA cw 0 10) ky
def eU(sh ky:Int):Int:=bif ieq sh 2 then ky%4 else 0
def lV(sh kd ky:Int):Int:=bif ieq sh 2 then ky else bif ieq sh 1 then ky else bif ieq sh 3 then(bif fT kd then 1024 else -1)else -1
def LT:bD Ob:=fun args h=>match args,h with
 | [.agg [.int .i64 t,.int .i64 n],.int .i64 a],[]=>some ((0≤n∧n≤100000)∧(-1000000≤a∧a≤1000000),.I (n+1+a))
 | _,_=>none
theorem S3:sT' 112 LT.spec:=by
 intro args h o ho K hK;unfold bD.spec LT at ho;split at ho
 case h_2=>cases ho
 rename_i p v hp;split at hp
 case h_2=>cases hp
 rename_i t n a;simp only [sI',pI']at hp;obtain⟨rfl,rfl⟩:=hp;simp only [sI']at ho;subst ho;obtain⟨hp,hK⟩:=hK;have hK:K (.I (n+1+a)) []:=hK;refine aEA (cM' (E:=enE) (q:=K (.I (W (W (1+n)+a))) []) (by kernel_rfl) ?_)
 simp(disch:=omega) only [W,cU]
 refine cast (congrArg (fun z=>K (AVal.int .i64 z) []) ?_) hK;omega
def EU:bD Ob:=fun args h=>match args,h with
 | [.agg [.int .i64 k,.int .i64 y,.bool m,.int .i64 c,.int .i64 v]],[]=>some (0≤v∧v≤1000000,.agg [.I k,.I y,.bool m,.I 0,.I (aR v)])
 | _,_=>none
theorem OK:sT' 264 EU.spec:=by
 intro args h o ho K hK;unfold bD.spec EU at ho;split at ho
 case h_2=>cases ho
 rename_i p v hp;split at hp
 case h_2=>cases hp
 rename_i k y m c v;simp only [sI',pI']at hp;obtain⟨rfl,rfl⟩:=hp;simp only [sI']at ho;subst ho;obtain⟨hp,hK⟩:=hK;have hK:K (.agg [.I k,.I y,.bool m,.I 0,.I (aR v)]) []:=hK;refine aEA (cM' (E:=enE) (q:=K (.agg [.I k,.I y,.bool m,.I 0,.I (W (↑(BitVec.toNat (BitVec.ofInt (IntKind.bits .i64) (W (v+1))&&&BitVec.ofInt (IntKind.bits .i64) 262143)):Int))]) []) (by kernel_rfl) ?_)
 refine cast (congrArg (fun z=>K (.agg [.I k,.I y,.bool m,.I 0,.I z]) []) ?_) hK;show aR v=_;have hb:IntKind.bits .i64 =64:=rfl;simp only [W];rw [hb,cU (x:=v+1) (by omega)]
 have:=jP (n:=64) (w:=18) (v+1) (by omega)
 have e:(2:Int)^18 - 1=262143:=by decide
 rw [e]at this;rw [this];have e2:(2:Int)^18=262144:=by decide
 rw [e2,cU (by omega)]
 rfl
def yN:bD Ob:=fun args h=>match args,h with
 | [.agg [.int .i64 k,.int .i64 y,.bool m,.int .i64 c,.int .i64 v],.int .i64 b,.int .i64 x,.bool q],[]=>some (-1000000≤b∧b≤1000000,.agg [.I k,.I x,.bool q,.I (b+1),.I v])
 | _,_=>none
theorem JL:sT' 268 yN.spec:=by
 intro args h o ho K hK;unfold bD.spec yN at ho;split at ho
 case h_2=>cases ho
 rename_i p v hp;split at hp
 case h_2=>cases hp
 rename_i k y m c v b x q;simp only [sI',pI']at hp;obtain⟨rfl,rfl⟩:=hp;simp only [sI']at ho;subst ho;obtain⟨hp,hK⟩:=hK;have hK:K (.agg [.I k,.I x,.bool q,.I (b+1),.I v]) []:=hK;refine aEA (cM' (E:=enE) (q:=K (.agg [.I k,.I x,.bool q,.I (W (b+1)),.I v]) []) (by kernel_rfl) ?_)
 rw [wY (by omega)]
 exact hK
def yG:bD Ob:=fun args h=>match args,h with
 | [.agg [.int .i64 sh,.int .i64 kd,.int .i64 ky]],[]=>some (True,.bool (fT kd))
 | _,_=>none
theorem JH:sT' 203 yG.spec:=by
 intro args h o ho K hK;unfold bD.spec yG at ho;split at ho
 case h_2=>cases ho
 rename_i p v hp;split at hp
 case h_2=>cases hp
 rename_i sh kd ky;simp only [sI',pI']at hp;obtain⟨rfl,rfl⟩:=hp;simp only [sI']at ho;subst ho;obtain⟨hp,hK⟩:=hK;have hK:K (.bool (fT kd)) []:=hK;refine aEA (cM' (E:=enE) (q:=bif ieq kd 1 then K (.bool true) []else K (.bool (ieq kd 4)) []) (by kernel_rfl) ?_)
 unfold fT at hK;cases h:ieq kd 1<;>rw [h]at hK<;>exact hK
def ES:bD Ob:=fun args h=>match args,h with
 | [.agg [.int .i64 sh,.int .i64 kd,.int .i64 ky]],[]=>some (True,.bool (oG sh kd))
 | _,_=>none
theorem NU:sT' 285 ES.spec:=by
 intro args h o ho K hK;unfold bD.spec ES at ho;split at ho
 case h_2=>cases ho
 rename_i p v hp;split at hp
 case h_2=>cases hp
 rename_i sh kd ky;simp only [sI',pI']at hp;obtain⟨rfl,rfl⟩:=hp;simp only [sI']at ho;subst ho;obtain⟨hp,hK⟩:=hK;have hK:K (.bool (oG sh kd)) []:=hK;refine aEA (cM' (E:=enE) (q:=bif ieq kd 5 then K (.bool (ieq sh 4)) []else K (.bool false) []) (by kernel_rfl) ?_)
 unfold oG at hK;cases h:ieq kd 5<;>rw [h]at hK<;>exact hK
def yH:bD Ob:=fun args h=>match args,h with
 | [.agg [.int .i64 sh,.int .i64 kd,.int .i64 ky]],[]=>some (True,.bool (tR sh kd))
 | _,_=>none
theorem JI:sT' 225 yH.spec:=by
 intro args h o ho K hK;unfold bD.spec yH at ho;split at ho
 case h_2=>cases ho
 rename_i p v hp;split at hp
 case h_2=>cases hp
 rename_i sh kd ky;simp only [sI',pI']at hp;obtain⟨rfl,rfl⟩:=hp;simp only [sI']at ho;subst ho;obtain⟨hp,hK⟩:=hK;have hK:K (.bool (tR sh kd)) []:=hK;refine aEA (cM' (E:=enE) (q:=bif ieq kd 2 then K (.bool true) []else bif ieq kd 5 then K (.bool (ieq sh 3)) []else K (.bool false) []) (by kernel_rfl) ?_)
 unfold tR at hK;cases h:ieq kd 2<;>cases h2:ieq kd 5<;>rw [h]at hK<;>rw [h2]at hK<;>exact hK
noncomputable def hasCS:aI Ob:=pE [(.slot 0,.ints (some .i64))] SD.spec
theorem SC:sT' 138 hasCS:=rN LP
noncomputable def EB0:=((((((enE.addS 138 hasCS SC).addR 112 LT S3).addR 264 EU OK).addR 268 yN JL).addR 203 yG JH).addR 285 ES NU).addR 225 yH JI
def isS:aI Ob:=fun args h=>match args,h with
 | [.agg [.int .i64 a,.int .i64 b,.int .i64 c,.int .i64 d,.bool m,.int .i64 e,.int .i64 f],.slice 0 0 1 1],[some (.cells [.int .i64 s])]=>some (.ret (.bool (hasB [s] e)) [some (.ints (some .i64) [s])])
 | _,_=>none
theorem aCE:sT' 243 isS:=by
 intro args h o ho K hK;unfold isS at ho;split at ho<;>cases ho
 rename_i a b c d m e f s;have hK:K (.bool (hasB [s] e)) [some (.ints (some .i64) [s])]:=hK;refine aEA (cM' (E:=EB0) (q:=(1=1∧(1:Nat)≤(4294967296:Nat))∧K (.bool (hasB [s] e)) [some (.ints (some .i64) [s])]) (by kernel_rfl) ?_)
 exact⟨⟨rfl,by omega⟩,hK⟩
noncomputable def EB0b:=EB0.addS 243 isS aCE
def KJ:bD Ob:=fun args h=>match args,h with
 | [.int .u64 x],[]=>some (True,.I (aA x 20 5 - 1))
 | _,_=>none
theorem PV:sT' 260 KJ.spec:=by
 intro args h o ho K hK;unfold bD.spec KJ at ho;split at ho
 case h_2=>cases ho
 rename_i p v hp;split at hp
 case h_2=>cases hp
 rename_i x;simp only [sI',pI']at hp;obtain⟨rfl,rfl⟩:=hp;simp only [sI']at ho;subst ho;obtain⟨hp,hK⟩:=hK;have hK:K (.I (aA x 20 5 - 1)) []:=hK;refine aEA (cM' (E:=EB0b) (q:=True∧K (.I (W (aA x 20 5 - 1))) []) (by kernel_rfl) ?_)
 have hb:0≤aA x 20 5∧aA x 20 5<32:=by
  unfold aA;have e:(2:Int)^(5:Int).toNat =32:=by decide
  rw [e];exact⟨Int.emod_nonneg _ (by decide),Int.emod_lt_of_pos _ (by decide)⟩
 have e1:W (aA x 20 5 - 1)=aA x 20 5 - 1:=cU (by omega)
 rw [e1];exact⟨trivial,hK⟩
def DH:bD Ob:=fun args h=>match args,h with
 | [.agg [.int .i64 a,.int .i64 b,.int .i64 c,.int .i64 d,.bool m,.int .i64 e,.int .i64 f],.int .i64 g],[]=>some (True,.agg [.I a,.I b,.I c,.I d,.bool m,.I g,.I f])
 | _,_=>none
theorem KV:sT' 262 DH.spec:=by
 intro args h o ho K hK;unfold bD.spec DH at ho;split at ho
 case h_2=>cases ho
 rename_i p v hp;split at hp
 case h_2=>cases hp
 rename_i a b c d m e f g;simp only [sI',pI']at hp;obtain⟨rfl,rfl⟩:=hp;simp only [sI']at ho;subst ho;obtain⟨hp,hK⟩:=hK;have hK:K (.agg [.I a,.I b,.I c,.I d,.bool m,.I g,.I f]) []:=hK;refine aEA (cM' (E:=EB0b) (q:=K (.agg [.I a,.I b,.I c,.I d,.bool m,.I g,.I f]) []) (by kernel_rfl) ?_)
 exact hK
noncomputable def EB0c:=(EB0b.addR 260 KJ PV).addR 262 DH KV
def yK:bD Ob:=fun args h=>match args,h with
 | [.agg [.int .i64 sh,.int .i64 kd,.int .i64 ky]],[]=>some (True,.agg [.I (eU sh ky),.I (lV sh kd ky)])
 | _,_=>none
theorem JJ:sT' 226 yK.spec:=by
 intro args h o ho K hK;unfold bD.spec yK at ho;split at ho
 case h_2=>cases ho
 rename_i p v hp;split at hp
 case h_2=>cases hp
 rename_i sh kd ky;simp only [sI',pI']at hp;obtain⟨rfl,rfl⟩:=hp;simp only [sI']at ho;subst ho;obtain⟨hp,hK⟩:=hK;have hK:K (.agg [.I (eU sh ky),.I (lV sh kd ky)]) []:=hK;refine aEA (cM' (E:=EB0c) (q:=bif ieq sh 2 then K (.agg [.I (W (↑(BitVec.toNat (BitVec.ofInt (IntKind.bits .i64) ky&&&BitVec.ofInt (IntKind.bits .i64) 3)):Int)),.I ky]) []else bif ieq sh 1 then K (.agg [.I 0,.I ky]) []else bif ieq sh 2 then K (.agg [.I 0,.I ky]) []else bif ieq sh 3 then True∧bif fT kd then K (.agg [.I 0,.I 1024]) []else K (.agg [.I 0,.I (-1:Int)]) []else K (.agg [.I 0,.I (-1:Int)]) []) (by kernel_rfl) ?_)
 have e4:W (((BitVec.ofInt (IntKind.bits .i64) ky&&&BitVec.ofInt (IntKind.bits .i64) 3).toNat :Nat):Int)=ky%4:=by
  have hb:IntKind.bits .i64 =64:=rfl;rw [hb];have:=jP (n:=64) (w:=2) ky (by omega)
  have e:(2:Int)^2 - 1=3:=by decide
  rw [e]at this;rw [this];have e2:(2:Int)^2=4:=by decide
  rw [e2];exact cU (by omega)
 unfold eU lV at hK;refine aL (fun e=>?_) (fun e=>aL (fun e1=>?_) (fun e1=>aL (fun e2=>?_) (fun e2=>aL (fun e3=>⟨trivial,aL (fun e5=>?_) (fun e5=>?_)⟩) (fun e3=>?_))))
 ·rw [e]at hK;rw [e4];exact hK
 ·rw [e,e1]at hK;exact hK
 ·rw [e]at e2;cases e2
 ·rw [e,e1,e3,e5]at hK;exact hK
 ·rw [e,e1,e3,e5]at hK;exact hK
 ·rw [e,e1,e3]at hK;exact hK
def x0:bD Ob:=fun args h=>match args,h with
 | [.agg [.int .i64 sh,.int .i64 kd,.int .i64 ky,.int .i64 pred,.int .u64 pw,.int .i64 curr,.int .u64 cw]],[]=>some (True,.bool (gV ky curr cw))
 | _,_=>none
theorem IU:sT' 287 x0.spec:=by
 intro args h o ho K hK;unfold bD.spec x0 at ho;split at ho
 case h_2=>cases ho
 rename_i p v hp;split at hp
 case h_2=>cases hp
 rename_i sh kd ky pred pw curr cw;simp only [sI',pI']at hp;obtain⟨rfl,rfl⟩:=hp;simp only [sI']at ho;subst ho;obtain⟨hp,hK⟩:=hK;have hK:K (.bool (gV ky curr cw)) []:=hK;refine aEA (cM' (E:=EB0c) (q:=bif !ieq curr 0 then True∧K (.bool (ieq (aA cw 0 10) ky)) []else K (.bool false) []) (by kernel_rfl) ?_)
 unfold gV at hK;cases h:ieq curr 0 with
 | true=>rw [h]at hK;exact hK
 | false=>rw [h]at hK;exact⟨trivial,hK⟩
noncomputable def EB1:=(EB0c.addR 226 yK JJ).addR 287 x0 IU
def VV(v:AVal)(g:aD Ob):Option (Prop×PLN):=match v,g with
 | .agg [.bool now,.int .i64 code,.bool okk,.int .i64 val,.int .i64 addr,.int .u64 old,.int .i64 nxt,.bool mark,.int .i64 pops],[]=>some (True,⟨now,code,okk,val,addr,old,nxt,mark,pops⟩)
 | _,_=>none
def MK(y:PLN):AVal:=.agg [.bool y.now,.I y.code,.bool y.okk,.I y.val,.I y.addr,.int .u64 y.old,.I y.nxt,.bool y.mark,.I y.pops]
theorem MJ:bS (obI tbl) 0 VV (fun y=>.ret (MK y) []):=by
 intro v g p x hp hq K hK;unfold VV at hp;split at hp
 case h_2=>cases hp
 simp only [sI',pI']at hp;obtain⟨rfl,rfl⟩:=hp;exact⟨⟨_,_,aEM _ _ _,hK⟩⟩
abbrev w02:Tr (PLN):=.pre True (.ret {now:=true,code:=0,okk:=false,val:=0,addr:=0,old:=0,nxt:=0,mark:=false,pops:=0})
abbrev w00(curr cw kd ky pred pw sh:Int):Tr (PLN):=.ite (ieq kd 5) (.ite (ieq curr 0) w02 (.pre True (.pre True (.ite (oG sh kd) (.pre True (.pre True (.pre True (.ret {now:=false,code:=0,okk:=true,val:=aA cw 0 10,addr:=pred,old:=pw,nxt:=aA cw 10 9,mark:=ieq (aA pw 19 1) 1,pops:=curr})))) (.pre True (.pre True (.ret {now:=false,code:=0,okk:=true,val:=aA cw 0 10,addr:=curr,old:=cw,nxt:=aA cw 10 9,mark:=true,pops:=0}))))))) (.ite (ieq kd 3) (.pre True (.pre True (.ret {now:=true,code:=0,okk:=gV ky curr cw,val:=0,addr:=0,old:=0,nxt:=0,mark:=false,pops:=0}))) w02)
abbrev w01(curr cw:Int):Tr (PLN):=.pre True (.pre True (.ret {now:=false,code:=0,okk:=true,val:=0,addr:=curr,old:=cw,nxt:=aA cw 10 9,mark:=true,pops:=0}))
abbrev w03(pred pw spare:Int):Tr (PLN):=.pre True (.pre True (.ret {now:=false,code:=0,okk:=true,val:=0,addr:=pred,old:=pw,nxt:=spare,mark:=ieq (aA pw 19 1) 1,pops:=0}))
def B5(sh kd ky pred pw curr cw spare:Int):Tr (PLN):=.pre True (.ite (!cC sh kd ky) (.pre True (.ret {now:=true,code:=1,okk:=false,val:=0,addr:=0,old:=0,nxt:=0,mark:=false,pops:=0})) (.ite (ieq kd 4) (.ite (ieq kd 4) (w03 pred pw spare) (.ite (ieq kd 2) (.pre True (.ite (gV ky curr cw) (w01 curr cw) (w00 curr cw kd ky pred pw sh))) (w00 curr cw kd ky pred pw sh))) (.ite (ieq kd 1) (.pre True (.ite (!gV ky curr cw) (w03 pred pw spare) (.ite (ieq kd 2) (.pre True (.ite (gV ky curr cw) (w01 curr cw) (w00 curr cw kd ky pred pw sh))) (w00 curr cw kd ky pred pw sh)))) (.ite (ieq kd 2) (.pre True (.ite (gV ky curr cw) (w01 curr cw) (w00 curr cw kd ky pred pw sh))) (w00 curr cw kd ky pred pw sh)))))
def bJ(sh kd ky pred pw curr cw spare:Int):PLN:=(B5 sh kd ky pred pw curr cw spare).val
def uE(sh kd ky pred pw curr cw spare:Int):Prop:=(B5 sh kd ky pred pw curr cw spare).ok
def planS:aI Ob:=fun args h=>match args,h with
 | [.agg [.int .i64 sh,.int .i64 kd,.int .i64 ky],.agg [.int .i64 pred,.int .u64 pw,.int .i64 curr,.int .u64 cw],.int .i64 spare],[]=>some (.pre (uE sh kd ky pred pw curr cw spare) (.ret (MK (bJ sh kd ky pred pw curr cw spare)) []))
 | _,_=>none
theorem TU:sT' 256 planS:=by
 intro args h o ho K hK;unfold planS at ho;split at ho<;>cases ho
 rename_i sh kd ky pred pw curr cw spare;obtain⟨ok,hK⟩:=hK;refine aEL (root:=0) (pos:=[]) (cs:=[]) MJ ?_;exact cM' (E:=EB1) (q:=(B5 sh kd ky pred pw curr cw spare).run (fun y=>(Out.ret (MK y) []).run K)) (by kernel_rfl) (aEG ok hK)
def MM(v:AVal)(g:aD Ob):Option (Prop×Int):=match v,g with
 | .int .u64 x,[]=>some (True,x)
 | _,_=>none
def EE(y:Int):AVal:=.int .u64 y
theorem IZ:bS (obI tbl) 0 MM (fun y=>.ret (EE y) []):=by
 intro v g p x hp hq K hK;unfold MM at hp;split at hp
 case h_2=>cases hp
 simp only [sI',pI']at hp;obtain⟨rfl,rfl⟩:=hp;exact⟨⟨_,_,aEM _ _ _,hK⟩⟩
def uF(now:Bool)(code:Int)(okk:Bool)(val:Int)(addr:Int)(old:Int)(nxt:Int)(mark:Bool)(pops:Int):Tr (Int):=.ite now (.pre True (.ret 0)) (.pre True (.pre ((-1000000:Int)≤(0:Int)∧(0:Int)≤(1000000:Int)) (.pre ((0:Int)≤aA old 25 18∧aA old 25 (18:Int)≤(1000000:Int)) (.pre True (.pre True (.ret (bif bif aK (aA old 0 10) 10 then bif aK nxt 9 then bif aK 0 5 then aK (aR (aA old 25 18)) 18 else false else false else false then cK (aA old 0 10) nxt mark 0 (aR (aA old 25 18))else 0)))))))
def dC(now:Bool)(code:Int)(okk:Bool)(val:Int)(addr:Int)(old:Int)(nxt:Int)(mark:Bool)(pops:Int):Int:=(uF now code okk val addr old nxt mark pops).val
def x5(now:Bool)(code:Int)(okk:Bool)(val:Int)(addr:Int)(old:Int)(nxt:Int)(mark:Bool)(pops:Int):Prop:=(uF now code okk val addr old nxt mark pops).ok
def planWS:aI Ob:=fun args h=>match args,h with
 | [.agg [.bool now,.int .i64 code,.bool okk,.int .i64 val,.int .i64 addr,.int .u64 old,.int .i64 nxt,.bool mark,.int .i64 pops]],[]=>some (.pre (x5 now code okk val addr old nxt mark pops) (.ret (EE (dC now code okk val addr old nxt mark pops)) []))
 | _,_=>none
theorem MN:sT' 218 planWS:=by
 intro args h o ho K hK;unfold planWS at ho;split at ho<;>cases ho
 rename_i now code okk val addr old nxt mark pops;obtain⟨ok,hK⟩:=hK;refine aEL (root:=0) (pos:=[]) (cs:=[]) IZ ?_;exact cM' (E:=EB1) (q:=(uF now code okk val addr old nxt mark pops).run (fun y=>(Out.ret (EE y) []).run K)) (by kernel_rfl) (aEG ok hK)
def MF(v:AVal)(g:aD Ob):Option (Prop×Bool):=match v,g with
 | .bool x,[]=>some (True,x)
 | _,_=>none
def EB(y:Bool):AVal:=.bool y
theorem IV:bS (obI tbl) 0 MF (fun y=>.ret (EB y) []):=by
 intro v g p x hp hq K hK;unfold MF at hp;split at hp
 case h_2=>cases hp
 simp only [sI',pI']at hp;obtain⟨rfl,rfl⟩:=hp;exact⟨⟨_,_,aEM _ _ _,hK⟩⟩
def uB(now:Bool)(code:Int)(okk:Bool)(val:Int)(addr:Int)(old:Int)(nxt:Int)(mark:Bool)(pops:Int):Tr (Bool):=.ite (!now) (.pre True (.pre True (.ret !ieq (aA old 20 5) 0))) (.pre True (.ret false))
def x1(now:Bool)(code:Int)(okk:Bool)(val:Int)(addr:Int)(old:Int)(nxt:Int)(mark:Bool)(pops:Int):Bool:=(uB now code okk val addr old nxt mark pops).val
def nV(now:Bool)(code:Int)(okk:Bool)(val:Int)(addr:Int)(old:Int)(nxt:Int)(mark:Bool)(pops:Int):Prop:=(uB now code okk val addr old nxt mark pops).ok
def planCS:aI Ob:=fun args h=>match args,h with
 | [.agg [.bool now,.int .i64 code,.bool okk,.int .i64 val,.int .i64 addr,.int .u64 old,.int .i64 nxt,.bool mark,.int .i64 pops]],[]=>some (.pre (nV now code okk val addr old nxt mark pops) (.ret (EB (x1 now code okk val addr old nxt mark pops)) []))
 | _,_=>none
theorem MG:sT' 257 planCS:=by
 intro args h o ho K hK;unfold planCS at ho;split at ho<;>cases ho
 rename_i now code okk val addr old nxt mark pops;obtain⟨ok,hK⟩:=hK;refine aEL (root:=0) (pos:=[]) (cs:=[]) IV ?_;exact cM' (E:=EB1) (q:=(uB now code okk val addr old nxt mark pops).run (fun y=>(Out.ret (EB y) []).run K)) (by kernel_rfl) (aEG ok hK)
def MH(v:AVal)(g:aD Ob):Option (Prop×(Int×Int)):=match v,g with
 | .tup [.int .u64 x,.int .i64 e],[]=>some (True,(x,e))
 | _,_=>none
def EC(y:(Int×Int)):AVal:=.tup [.int .u64 y.1,.I y.2]
theorem IW:bS (obI tbl) 0 MH (fun y=>.ret (EC y) []):=by
 intro v g p x hp hq K hK;unfold MH at hp;split at hp
 case h_2=>cases hp
 simp only [sI',pI']at hp;obtain⟨rfl,rfl⟩:=hp;exact⟨⟨_,_,aEM _ _ _,hK⟩⟩
def uD(now:Bool)(code:Int)(okk:Bool)(val:Int)(addr:Int)(old:Int)(nxt:Int)(mark:Bool)(pops:Int)(att:Int):Tr ((Int×Int)):=.ite now (.pre True (.ret (0,5))) (.pre True (.pre True (.pre True (.ret (bif dOk att addr (aA old 25 18) nxt 2 val then cJ att addr (aA old 25 18) nxt mark 2 val else 0,bif dOk att addr (aA old 25 18) nxt 2 val then 0 else 2)))))
def gG(now:Bool)(code:Int)(okk:Bool)(val:Int)(addr:Int)(old:Int)(nxt:Int)(mark:Bool)(pops:Int)(att:Int):(Int×Int):=(uD now code okk val addr old nxt mark pops att).val
def x4(now:Bool)(code:Int)(okk:Bool)(val:Int)(addr:Int)(old:Int)(nxt:Int)(mark:Bool)(pops:Int)(att:Int):Prop:=(uD now code okk val addr old nxt mark pops att).ok
def planDS:aI Ob:=fun args h=>match args,h with
 | [.agg [.bool now,.int .i64 code,.bool okk,.int .i64 val,.int .i64 addr,.int .u64 old,.int .i64 nxt,.bool mark,.int .i64 pops],.int .i64 att],[]=>some (.pre (x4 now code okk val addr old nxt mark pops att) (.ret (EC (gG now code okk val addr old nxt mark pops att)) []))
 | _,_=>none
theorem MI:sT' 202 planDS:=by
 intro args h o ho K hK;unfold planDS at ho;split at ho<;>cases ho
 rename_i now code okk val addr old nxt mark pops att;obtain⟨ok,hK⟩:=hK;refine aEL (root:=0) (pos:=[]) (cs:=[]) IW ?_;exact cM' (E:=EB1) (q:=(uD now code okk val addr old nxt mark pops att).run (fun y=>(Out.ret (EC y) []).run K)) (by kernel_rfl) (aEG ok hK)
noncomputable def EB2:=(((EB1.addS 256 planS TU).addS 218 planWS MN).addS 257 planCS MG).addS 202 planDS MI
abbrev YG(x:ENS):aH Mc:=.cells [.ptr 1 0,.bool x.sh,.O,.O,.bool x.dn]
theorem RH{t n:Int}{x:ENS}{st:STS}{s:MS} :aF (obI tbl) 4 (.bool true) [some (.abs (.ensure t n x) [1]),some (.abs (.store t n st) []),bE 3 s,bF s] (.bool true) [some (YG x),some (.abs (.store t n st) []),bE 3 s,bF s]:=by
 obtain⟨ph,sh,dn,a,y⟩:=x
 match ph with
 | 0=>exact(aF.unpack (.ensure t n ⟨0,sh,dn,a,y⟩) 0 1 (CQ t n ⟨0,sh,dn,a,y⟩) [1] rfl rfl (by kernel_rfl) rfl).trans ((aF.weak (bZ _ 0 [2,3])).trans ((aF.pick (upto 0 4) rfl).trans (aEH (by kernel_rfl) (by kernel_rfl))))
 | 1=>exact(aF.unpack (.ensure t n ⟨1,sh,dn,a,y⟩) 0 1 (CQ t n ⟨1,sh,dn,a,y⟩) [1] rfl rfl (by kernel_rfl) rfl).trans ((aF.weak (bZ _ 0 [2,3])).trans ((aF.pick (upto 0 4) rfl).trans (aEH (by kernel_rfl) (by kernel_rfl))))
 | 2=>exact(aF.unpack (.ensure t n ⟨2,sh,dn,a,y⟩) 0 1 (CQ t n ⟨2,sh,dn,a,y⟩) [1] rfl rfl (by kernel_rfl) rfl).trans ((aF.weak (bZ _ 0 [2,3])).trans ((aF.pick (upto 0 4) rfl).trans (aEH (by kernel_rfl) (by kernel_rfl))))
 | 3=>exact(aF.unpack (.ensure t n ⟨3,sh,dn,a,y⟩) 0 1 (CQ t n ⟨3,sh,dn,a,y⟩) [1] rfl rfl (by kernel_rfl) rfl).trans ((aF.weak (bZ _ 0 [2,3])).trans ((aF.pick (upto 0 4) rfl).trans (aEH (by kernel_rfl) (by kernel_rfl))))
 | k+4=>exact(aF.unpack (.ensure t n ⟨k+4,sh,dn,a,y⟩) 0 1 (CQ t n ⟨k+4,sh,dn,a,y⟩) [1] rfl rfl (by kernel_rfl) rfl).trans ((aF.weak (bZ _ 0 [2,3])).trans ((aF.pick (upto 0 4) rfl).trans (aEH (by kernel_rfl) (by kernel_rfl))))
def EO.fin(t n:Int)(y:EO):Out Ob:=.ite y.d (.ret (.bool true) [some (YG y.e),some (.abs (.store t n y.st) []),bE 3 y.s,bF y.s]) (.ret (.bool false) [some (.abs (.ensure t n y.e) [1]),some (.abs (.store t n y.st) []),bE 3 y.s,bF y.s])
theorem zX(t n:Int)(e:ENS)(st:STS)(s:MS)(K:AVal→aD Ob→Prop)(ok:IP t n e st s)(hK:((enF t n e st s).fin t n).run K):cT' 154 [.ptr 0 0,.ptr 2 0] (RE t n e st s) K:=by
 refine aEV (FH t n e st s _ ok ?_);show eY (obI tbl) 4 K (.bool (enF t n e st s).d) _;generalize enF t n e st s=y at hK⊢;exact p8 hK (fun h=>⟨⟨_,_,RH,h⟩⟩) (fun h=>⟨⟨_,_,aEM _ _ _,h⟩⟩)
noncomputable def enSA:aI Ob:=fun args h=>match args,h with
 | [.ptr 0 0,.ptr 2 0],[some (.abs (.ensure t n x) [1]),some (.abs (.store t2 n2 st) []),e3,e4]=>(match cL 3 [e3,e4]with
   | some (l,s)=>some (.pre ((l=s.xs.length∧t2=t∧n2=n)∧IP t n x st s) (EO.fin t n (enF t n x st s)))
   | none=>none)
 | _,_=>none
theorem YN:sT' 154 enSA:=by
 intro args h o ho K hK;unfold enSA at ho;split at ho
 case h_2=>cases ho
 split at ho<;>cases ho
 rename_i hm;obtain⟨⟨⟨hl,rfl,rfl⟩,ok⟩,hK⟩:=hK;have hh:=bB hm hl;cases hh;exact zX _ _ _ _ _ K ok hK
def EO.finB(t n:Int)(y:EO):Out Ob:=.ite y.d (.ret (.bool true) [some (YG y.e),iT 5 t n y.st,none,bE 4 y.s,bF y.s,iU y.st]) (.ret (.bool false) [some (.abs (.ensure t n y.e) [1]),iT 5 t n y.st,none,bE 4 y.s,bF y.s,iU y.st])
noncomputable def enSB:aI Ob:=fun args h=>match args,h with
 | [.ptr 0 0,.ptr 3 0],[some (.abs (.ensure t n x) [1]),e1,e2,e3,e4]=>(match lB 2 [e1,e2],cL 4 [e3,e4]with
   | some (l2,t2,n2,st),some (l,s)=>some (.pre ((l=s.xs.length∧l2=st.R.length∧t2=t∧n2=n)∧IP t n x st s) (EO.finB t n (enF t n x st s)))
   | _,_=>none)
 | _,_=>none
theorem YO:sT' 154 enSB:=by
 intro args h o ho K hK;unfold enSB at ho;split at ho
 case h_2=>cases ho
 split at ho<;>cases ho
 rename_i hs hm;obtain⟨⟨⟨hl,hl2,rfl,rfl⟩,ok⟩,hK⟩:=hK;have hh:=bB hm hl;cases hh;have hh:=cB hs hl2;cases hh;exact jN (fun ι hι=>by simp [aH.ren,aEN,AVal.ren,hι]) (fun ι hι=>by simp [aH.ren,hι]) (fun K hK=>zX _ _ _ _ _ K ok hK) K hK
noncomputable def enS2:aI Ob:=aI.or enSA enSB
theorem YM:sT' 154 enS2:=aEZ YN YO
abbrev aAR(x:SWS):aH Mc:=.cells [.ptr 1 0,.O]
theorem UI{t n:Int}{x:SWS}{st:STS}{s:MS} :aF (obI tbl) 4 (.bool true) [some (.abs (.sweep t n x) [1]),some (.abs (.store t n st) []),bE 3 s,bF s] (.bool true) [some (aAR x),some (.abs (.store t n st) []),bE 3 s,bF s]:=by
 obtain⟨ph,N,m,i,ks,fs,gs,j,l⟩:=x
 match ph with
 | 0=>exact(aF.unpack (.sweep t n ⟨0,N,m,i,ks,fs,gs,j,l⟩) 0 1 (JE t n ⟨0,N,m,i,ks,fs,gs,j,l⟩) [1] rfl rfl (by kernel_rfl) rfl).trans ((aF.weak (bZ _ 0 [1])).trans ((aF.pick (upto 0 4) rfl).trans (aEH (by kernel_rfl) (by kernel_rfl))))
 | 1=>exact(aF.unpack (.sweep t n ⟨1,N,m,i,ks,fs,gs,j,l⟩) 0 1 (JE t n ⟨1,N,m,i,ks,fs,gs,j,l⟩) [1] rfl rfl (by kernel_rfl) rfl).trans ((aF.weak (bZ _ 0 [1])).trans ((aF.pick (upto 0 4) rfl).trans (aEH (by kernel_rfl) (by kernel_rfl))))
 | 2=>exact(aF.unpack (.sweep t n ⟨2,N,m,i,ks,fs,gs,j,l⟩) 0 1 (JE t n ⟨2,N,m,i,ks,fs,gs,j,l⟩) [1] rfl rfl (by kernel_rfl) rfl).trans ((aF.weak (bZ _ 0 [1])).trans ((aF.pick (upto 0 4) rfl).trans (aEH (by kernel_rfl) (by kernel_rfl))))
 | k+3=>exact(aF.unpack (.sweep t n ⟨k+3,N,m,i,ks,fs,gs,j,l⟩) 0 1 (JE t n ⟨k+3,N,m,i,ks,fs,gs,j,l⟩) [1] rfl rfl (by kernel_rfl) rfl).trans ((aF.weak (bZ _ 0 [1])).trans ((aF.pick (upto 0 4) rfl).trans (aEH (by kernel_rfl) (by kernel_rfl))))
def SO.fin(t n:Int)(y:SO):Out Ob:=.ite y.d (.ret (.bool true) [some (aAR y.e),some (.abs (.store t n y.st) []),bE 3 y.s,bF y.s]) (.ret (.bool false) [some (.abs (.sweep t n y.e) [1]),some (.abs (.store t n y.st) []),bE 3 y.s,bF y.s])
theorem CI(t n:Int)(e:SWS)(st:STS)(s:MS)(K:AVal→aD Ob→Prop)(ok:pY t n e st s)(hK:((swF t n e st s).fin t n).run K):cT' 169 [.ptr 0 0,.ptr 2 0] (swH t n e st s) K:=by
 refine aEV (UJ t n e st s _ ok ?_);show eY (obI tbl) 4 K (.bool (swF t n e st s).d) _;generalize swF t n e st s=y at hK⊢;exact p8 hK (fun h=>⟨⟨_,_,UI,h⟩⟩) (fun h=>⟨⟨_,_,aEM _ _ _,h⟩⟩)
noncomputable def swSA:aI Ob:=fun args h=>match args,h with
 | [.ptr 0 0,.ptr 2 0],[some (.abs (.sweep t n x) [1]),some (.abs (.store t2 n2 st) []),e3,e4]=>(match cL 3 [e3,e4]with
   | some (l,s)=>some (.pre ((l=s.xs.length∧t2=t∧n2=n)∧pY t n x st s) (SO.fin t n (swF t n x st s)))
   | none=>none)
 | _,_=>none
theorem aAW:sT' 169 swSA:=by
 intro args h o ho K hK;unfold swSA at ho;split at ho
 case h_2=>cases ho
 split at ho<;>cases ho
 rename_i hm;obtain⟨⟨⟨hl,rfl,rfl⟩,ok⟩,hK⟩:=hK;have hh:=bB hm hl;cases hh;exact CI _ _ _ _ _ K ok hK
def SO.finB(t n:Int)(y:SO):Out Ob:=.ite y.d (.ret (.bool true) [some (aAR y.e),iT 5 t n y.st,none,bE 4 y.s,bF y.s,iU y.st]) (.ret (.bool false) [some (.abs (.sweep t n y.e) [1]),iT 5 t n y.st,none,bE 4 y.s,bF y.s,iU y.st])
noncomputable def swSB:aI Ob:=fun args h=>match args,h with
 | [.ptr 0 0,.ptr 3 0],[some (.abs (.sweep t n x) [1]),e1,e2,e3,e4]=>(match lB 2 [e1,e2],cL 4 [e3,e4]with
   | some (l2,t2,n2,st),some (l,s)=>some (.pre ((l=s.xs.length∧l2=st.R.length∧t2=t∧n2=n)∧pY t n x st s) (SO.finB t n (swF t n x st s)))
   | _,_=>none)
 | _,_=>none
theorem aAX:sT' 169 swSB:=by
 intro args h o ho K hK;unfold swSB at ho;split at ho
 case h_2=>cases ho
 split at ho<;>cases ho
 rename_i hs hm;obtain⟨⟨⟨hl,hl2,rfl,rfl⟩,ok⟩,hK⟩:=hK;have hh:=bB hm hl;cases hh;have hh:=cB hs hl2;cases hh;exact jN (fun ι hι=>by simp [aH.ren,aEN,AVal.ren,hι]) (fun ι hι=>by simp [aH.ren,hι]) (fun K hK=>CI _ _ _ _ _ K ok hK) K hK
noncomputable def swSC:aI Ob:=aI.or swSA swSB
theorem aAV:sT' 169 swSC:=aEZ aAW aAX
def YI(t n:Int)(v:AVal)(g:aD Ob):Option (Prop×STS):=match v,g with
 | .ptr 2 0,[e1,e2,some (.cells [.ptr 0 0,.bool false,.raw (.pointer none),.raw (.pointer none),.bool false])]=>(match lB 1 [e1,e2]with
   | some (l2,t2,n2,st)=>some (t2=t∧n2=n∧l2=st.R.length,st)
   | none=>none)
 | _,_=>none
abbrev RF(t n:Int)(y:STS):aD Ob:=[iT 1 t n y,iU y,some (.abs (.ensure t n aU) [0])]
theorem RG{t n:Int} :bS (obI tbl) 2 (YI t n) (fun y=>.ret (.ptr 2 0) (RF t n y)):=by
 intro v g p x hp hq K hK;unfold YI at hp;split at hp
 case h_2=>cases hp
 split at hp
 case h_2=>cases hp
 rename_i l2 t2 n2 st hs;simp only [sI',pI']at hp;obtain⟨rfl,rfl⟩:=hp;obtain⟨rfl,rfl,hl2⟩:=hq;have hh:=cB hs hl2;cases hh;exact⟨⟨_,_,aF.pack (RF t2 n2 st) (.ensure t2 n2 aU) 2 1 (CQ t2 n2 aU) [0] (by kernel_rfl) rfl rfl (by kernel_rfl),hK⟩⟩
def YJ(t n:Int)(st:STS):Tr STS:=.pre (t=t∧n=n∧lE' st.3) (.ret st)
def enNS:aI Ob:=fun args h=>match args,h with
 | [.ptr 0 0],[e1,e2]=>(match lB 1 [e1,e2]with
   | some (l2,t,n,st)=>some (.pre (l2=st.R.length∧(YJ t n st).ok) (.ret (.ptr 2 0) (RF t n (YJ t n st).val)))
   | none=>none)
 | _,_=>none
theorem YK:sT' 206 enNS:=by
 intro args h o ho K hK;unfold enNS at ho;split at ho
 case h_2=>cases ho
 split at ho<;>cases ho
 rename_i l2 t n st hs;obtain⟨⟨hl2,ok⟩,hK⟩:=hK;have hh:=cB hs hl2;cases hh;refine aEL (root:=2) (pos:=[]) (cs:=[]) (parse:=YI t n) RG ?_;exact cM' (E:=EB2) (q:=(YJ t n st).run (fun y=>(Out.ret (.ptr 2 0) (RF t n y)).run K)) (by kernel_rfl) (aEG ok hK)
def aAS(t n:Int)(v:AVal)(g:aD Ob):Option (Prop×STS):=match v,g with
 | .ptr 2 0,[e1,e2,some (.cells [.ptr 0 0,.raw (.pointer none)])]=>(match lB 1 [e1,e2]with
   | some (l2,t2,n2,st)=>some (t2=t∧n2=n∧l2=st.R.length,st)
   | none=>none)
 | _,_=>none
abbrev UD(t n:Int)(y:STS):aD Ob:=[iT 1 t n y,iU y,some (.abs (.sweep t n bK) [0])]
theorem UE{t n:Int} :bS (obI tbl) 2 (aAS t n) (fun y=>.ret (.ptr 2 0) (UD t n y)):=by
 intro v g p x hp hq K hK;unfold aAS at hp;split at hp
 case h_2=>cases hp
 split at hp
 case h_2=>cases hp
 rename_i l2 t2 n2 st hs;simp only [sI',pI']at hp;obtain⟨rfl,rfl⟩:=hp;obtain⟨rfl,rfl,hl2⟩:=hq;have hh:=cB hs hl2;cases hh;exact⟨⟨_,_,aF.pack (UD t2 n2 st) (.sweep t2 n2 bK) 2 1 (JE t2 n2 bK) [0] (by kernel_rfl) rfl rfl (by kernel_rfl),hK⟩⟩
def aAT(t n:Int)(st:STS):Tr STS:=.pre (t=t∧n=n∧lE' st.3) (.ret st)
def swNS:aI Ob:=fun args h=>match args,h with
 | [.ptr 0 0],[e1,e2]=>(match lB 1 [e1,e2]with
   | some (l2,t,n,st)=>some (.pre (l2=st.R.length∧(aAT t n st).ok) (.ret (.ptr 2 0) (UD t n (aAT t n st).val)))
   | none=>none)
 | _,_=>none
theorem aAU:sT' 167 swNS:=by
 intro args h o ho K hK;unfold swNS at ho;split at ho
 case h_2=>cases ho
 split at ho<;>cases ho
 rename_i l2 t n st hs;obtain⟨⟨hl2,ok⟩,hK⟩:=hK;have hh:=cB hs hl2;cases hh;refine aEL (root:=2) (pos:=[]) (cs:=[]) (parse:=aAS t n) UE ?_;exact cM' (E:=EB2) (q:=(aAT t n st).run (fun y=>(Out.ret (.ptr 2 0) (UD t n y)).run K)) (by kernel_rfl) (aEG ok hK)
noncomputable def EB3:=(((EB2.addS 154 enS2 YM).addS 169 swSC aAV).addS 206 enNS YK).addS 167 swNS aAU
structure ClO where
 d:Bool
 x:CLS
 s:MS
instance:Inhabited ClO:=⟨⟨false,⟨0,0,0,0⟩,⟨0,0,[],0,0,0,0,0,false⟩⟩⟩
instance:Inhabited CLS:=⟨⟨0,0,0,0⟩⟩
abbrev clH(t n:Int)(x:CLS)(s:MS):aD Ob:=[some (.abs (.clear t n x) []),bE 2 s,bF s]
abbrev clD(t n:Int)(x:CLS)(s:MS):aD Ob:=[cE' [.I t,.I n,.I x.addr,.I x.at',.int .u64 x.word,.int .u64 x.found],bE 2 s,bF s]
def ClO.fin(t n:Int)(y:ClO):Out Ob:=.ite y.d (.ret (.bool true) (clD t n y.x y.s)) (.ret (.bool false) (clH t n y.x y.s))
def XJ(t n:Int)(v:AVal)(g:aD Ob):Option (Prop×ClO):=match v,g with
 | .bool d,[some (.cells [.int .i64 t1,.int .i64 n1,.int .i64 addr,.int .i64 at',.int .u64 word,.int .u64 found]),e1,e2]=>(match cL 2 [e1,e2]with
   | some (l,s)=>some ((t1=t∧n1=n)∧l=s.xs.length,⟨d,⟨addr,at',word,found⟩,s⟩)
   | none=>none)
 | _,_=>none
def OW(t n:Int)(v:AVal)(g:aD Ob):Option (Prop×ClO):=XJ t n v g
theorem PQ{t n:Int} :bS (obI tbl) 3 (XJ t n) (ClO.fin t n):=by
 intro v g p x hp hq K hK;unfold XJ at hp;split at hp
 case h_2=>cases hp
 rename_i d t1 n1 addr at' word found e1 e2;split at hp
 case h_2=>cases hp
 rename_i l s hm;simp only [sI',pI']at hp;obtain⟨rfl,rfl⟩:=hp;obtain⟨⟨rfl,rfl⟩,hl⟩:=hq;have hh:=bB hm hl;cases hh;refine p8 hK (fun h=>?_) (fun h=>?_)
 ·exact⟨⟨_,_,aEM _ _ _,h⟩⟩
 ·exact⟨⟨_,_,(aF.pack (clH t1 n1 (⟨addr,at',word,found⟩:CLS) s) (.clear t1 n1 (⟨addr,at',word,found⟩:CLS)) 0 0 (lP t1 n1 (⟨addr,at',word,found⟩:CLS)) [] (by kernel_rfl) rfl (congrArg (Prod.mk 0) rfl) (by kernel_rfl)),h⟩⟩
theorem xE{t n:Int} :bS (obI tbl) 3 (OW t n) (ClO.fin t n):=by
 intro v g p x hp hq K hK;unfold OW at hp;exact PQ v g p x hp hq K hK
def zC(t n:Int)(x:CLS)(s:MS):Tr ClO:=.pre (lE' s.3∧(0:Int)≤s.4∧s.4≤(4611686018427387904:Int)) (.pre True (.ite (ilt (aA (aC s.3 x.1) 20 5 - 1) 0) (.pre ((t=t∧n=n)∧lE' s.3) (.ret {d:=true,x:= {addr:=x.1,at':=1,word:=aC s.3 x.1,found:=x.4},s:= {s with c:=s.4+1,k:=1,a:=x.1,o:=aC s.3 x.1,w:=aC s.3 x.1,ok:=bQ s.3 x.1} })) (.pre ((t=t∧n=n)∧lE' s.3) (.ret {d:=ile t (aA (aC s.3 x.1) 20 5 - 1),x:= {addr:=x.1,at':=1,word:=aC s.3 x.1,found:=x.4},s:= {s with c:=s.4+1,k:=1,a:=x.1,o:=aC s.3 x.1,w:=aC s.3 x.1,ok:=bQ s.3 x.1} }))))
theorem GV(t n:Int)(x:CLS)(s:MS)(K:ClO→Prop)(h:(zC t n x s).run K):cT' 214 [.ptr 0 0,.ptr 1 0] [cE' [.I t,.I n,.I x.addr,.I 0,.int .u64 x.word,.int .u64 x.found],bE 2 s,bF s] (bM 3 0 [] [] (OW t n) K):=by
 exact cM' (E:=EB3) (by kernel_rfl) h
abbrev w05(x:CLS):=aA x.3 20 5 - 1
abbrev w04(n:Int)(s:MS)(t:Int)(x:CLS):Tr ClO:=.ret {d:=false,x:= {addr:=x.1,at':=3,word:=x.3,found:=aC s.3 (2*n+5+2*t+3*(w05 x)+2) },s:= {s with c:=s.4+1,k:=1,a:=2*n+5+2*t+3*(w05 x)+2,o:=aC s.3 (2*n+5+2*t+3*(w05 x)+2),w:=aC s.3 (2*n+5+2*t+3*(w05 x)+2),ok:=bQ s.3 (2*n+5+2*t+3*(w05 x)+2) } }
abbrev w06(n t:Int)(x:CLS):=(((0:Int)≤t∧t≤(100000:Int))∧((0:Int)≤n∧n≤(100000:Int))∧(-1099511627776:Int)≤aA x.3 20 5 - 1∧aA x.3 20 5 - (1:Int)≤(1099511627776:Int))∧True
def zD(t n:Int)(x:CLS)(s:MS):Tr ClO:=.pre True (.pre (w06 n t x) (.pre ((lE' s.3∧(0:Int)≤s.4∧s.4≤(4611686018427387904:Int))∧True) (.pre True (.ite (hasB [2] (aA (aC s.3 (2*n+5+2*t+3*(w05 x)+2)) 49 3)) (.ite (ieq (aA (aC s.3 (2*n+5+2*t+3*(w05 x)+2)) 12 9) x.1) (.pre True (.ite (ieq (aA (aC s.3 (2*n+5+2*t+3*(w05 x)+2)) 21 18) (aA x.3 25 18)) (.pre ((t=t∧n=n)∧lE' s.3) (.ret {d:=false,x:= {addr:=x.1,at':=2,word:=x.3,found:=aC s.3 (2*n+5+2*t+3*(w05 x)+2) },s:= {s with c:=s.4+1,k:=1,a:=2*n+5+2*t+3*(w05 x)+2,o:=aC s.3 (2*n+5+2*t+3*(w05 x)+2),w:=aC s.3 (2*n+5+2*t+3*(w05 x)+2),ok:=bQ s.3 (2*n+5+2*t+3*(w05 x)+2) } })) (.pre ((t=t∧n=n)∧lE' s.3) (w04 n s t x)))) (.pre ((t=t∧n=n)∧lE' s.3) (w04 n s t x))) (.pre ((t=t∧n=n)∧lE' s.3) (w04 n s t x))))))
theorem GW(t n:Int)(x:CLS)(s:MS)(K:ClO→Prop)(h:(zD t n x s).run K):cT' 214 [.ptr 0 0,.ptr 1 0] [cE' [.I t,.I n,.I x.addr,.I 1,.int .u64 x.word,.int .u64 x.found],bE 2 s,bF s] (bM 3 0 [] [] (OW t n) K):=by
 exact cM' (E:=EB3) (by kernel_rfl) h
def zE(t n:Int)(x:CLS)(s:MS):Tr ClO:=.pre True (.pre True (.pre True (.pre True (.pre (w06 n t x) (.pre ((lE' s.3∧(0:Int)≤s.4∧s.4≤(4611686018427387904:Int))∧True) (.pre ((t=t∧n=n)∧lE' (bif aT s.3 (2*n+5+2*t+3*(w05 x)+2) x.4 then aV s.3 (2*n+5+2*t+3*(w05 x)+2) (bif dOk (aA x.4 0 12) (aA x.4 12 9) (aA x.4 21 18) (aA x.4 39 9) 3 (aA x.4 52 10)then cJ (aA x.4 0 12) (aA x.4 12 9) (aA x.4 21 18) (aA x.4 39 9) (ieq (aA x.4 48 1) 1) 3 (aA x.4 52 10)else 0)else s.3)) (.ret {d:=false,x:= {x with at':=3},s:= {t:=s.1,n:=s.2,xs:=bif aT s.3 (2*n+5+2*t+3*(w05 x)+2) x.4 then aV s.3 (2*n+5+2*t+3*(w05 x)+2) (bif dOk (aA x.4 0 12) (aA x.4 12 9) (aA x.4 21 18) (aA x.4 39 9) 3 (aA x.4 52 10)then cJ (aA x.4 0 12) (aA x.4 12 9) (aA x.4 21 18) (aA x.4 39 9) (ieq (aA x.4 48 1) 1) 3 (aA x.4 52 10)else 0)else s.3,c:=s.4+1,k:=3,a:=2*n+5+2*t+3*(w05 x)+2,o:=aC s.3 (2*n+5+2*t+3*(w05 x)+2),w:=bif bQ s.3 (2*n+5+2*t+3*(w05 x)+2)then bif dOk (aA x.4 0 12) (aA x.4 12 9) (aA x.4 21 18) (aA x.4 39 9) 3 (aA x.4 52 10)then cJ (aA x.4 0 12) (aA x.4 12 9) (aA x.4 21 18) (aA x.4 39 9) (ieq (aA x.4 48 1) 1) 3 (aA x.4 52 10)else 0 else 0,ok:=aT s.3 (2*n+5+2*t+3*(w05 x)+2) x.4} })))))))
theorem GY(t n:Int)(x:CLS)(s:MS)(K:ClO→Prop)(h:(zE t n x s).run K):cT' 214 [.ptr 0 0,.ptr 1 0] [cE' [.I t,.I n,.I x.addr,.I 2,.int .u64 x.word,.int .u64 x.found],bE 2 s,bF s] (bM 3 0 [] [] (OW t n) K):=by
 exact cM' (E:=EB3) (by kernel_rfl) h
abbrev w07(x:CLS):=aR (aA x.3 25 18)
def zF(t n:Int)(x:CLS)(s:MS):Tr ClO:=.pre True (.pre ((0:Int)≤aA x.3 25 18∧aA x.3 25 (18:Int)≤(1000000:Int)) (.pre True (.pre ((lE' s.3∧(0:Int)≤s.4∧s.4≤(4611686018427387904:Int))∧True) (.pre ((t=t∧n=n)∧lE' (bif aT s.3 x.1 x.3 then aV s.3 x.1 (bif bif aK (aA x.3 0 10) 10 then bif aK (aA x.3 10 9) 9 then bif aK 0 5 then aK (w07 x) 18 else false else false else false then cK (aA x.3 0 10) (aA x.3 10 9) (ieq (aA x.3 19 1) 1) 0 (w07 x)else 0)else s.3)) (.ret {d:=true,x:= {x with at':=3},s:= {t:=s.1,n:=s.2,xs:=bif aT s.3 x.1 x.3 then aV s.3 x.1 (bif bif aK (aA x.3 0 10) 10 then bif aK (aA x.3 10 9) 9 then bif aK 0 5 then aK (w07 x) 18 else false else false else false then cK (aA x.3 0 10) (aA x.3 10 9) (ieq (aA x.3 19 1) 1) 0 (w07 x)else 0)else s.3,c:=s.4+1,k:=3,a:=x.1,o:=aC s.3 x.1,w:=bif bQ s.3 x.1 then bif bif aK (aA x.3 0 10) 10 then bif aK (aA x.3 10 9) 9 then bif aK 0 5 then aK (w07 x) 18 else false else false else false then cK (aA x.3 0 10) (aA x.3 10 9) (ieq (aA x.3 19 1) 1) 0 (w07 x)else 0 else 0,ok:=aT s.3 x.1 x.3} })))))
theorem GZ(t n:Int)(x:CLS)(s:MS)(K:ClO→Prop)(h:(zF t n x s).run K):cT' 214 [.ptr 0 0,.ptr 1 0] [cE' [.I t,.I n,.I x.addr,.I 3,.int .u64 x.word,.int .u64 x.found],bE 2 s,bF s] (bM 3 0 [] [] (OW t n) K):=by
 exact cM' (E:=EB3) (by kernel_rfl) h
def clT(t n:Int)(x:CLS)(s:MS):Tr ClO:=
 bif ieq x.at' 0 then zC t n x s else
 bif ieq x.at' 1 then zD t n x s else
 bif ieq x.at' 2 then zE t n x s else
 bif ieq x.at' 3 then zF t n x s else .pre False (.ret default)
def oB(t n:Int)(x:CLS)(s:MS):ClO:=(clT t n x s).val
def KD(t n:Int)(x:CLS)(s:MS):Prop:=(clT t n x s).ok
theorem PR(t n:Int)(x:CLS)(s:MS)(K:AVal→aD Ob→Prop)(h:(clT t n x s).run (fun y=>(ClO.fin t n y).run K)):cT' 214 [.ptr 0 0,.ptr 1 0] (clH t n x s) K:=by
 unfold clT at h
 by_cases e:x.at'=0
 ·rw [e]at h;have h:(zC t n x s).run _:=h;refine aEB (root:=0) (pos:=[]) (cs:=[]) (parse:=OW t n) (fin:=ClO.fin t n) xE (aS.unpack (.clear t n x) 0 0 (lP t n x) [] rfl (congrArg (Prod.mk 0) rfl) (by kernel_rfl) rfl) ?_
  have q:=GV t n x s _ h;rw [←e]at q;exact q
 rw [bI e]at h
 by_cases e:x.at'=1
 ·rw [e]at h;have h:(zD t n x s).run _:=h;refine aEB (root:=0) (pos:=[]) (cs:=[]) (parse:=OW t n) (fin:=ClO.fin t n) xE (aS.unpack (.clear t n x) 0 0 (lP t n x) [] rfl (congrArg (Prod.mk 0) rfl) (by kernel_rfl) rfl) ?_
  have q:=GW t n x s _ h;rw [←e]at q;exact q
 rw [bI e]at h
 by_cases e:x.at'=2
 ·rw [e]at h;have h:(zE t n x s).run _:=h;refine aEB (root:=0) (pos:=[]) (cs:=[]) (parse:=OW t n) (fin:=ClO.fin t n) xE (aS.unpack (.clear t n x) 0 0 (lP t n x) [] rfl (congrArg (Prod.mk 0) rfl) (by kernel_rfl) rfl) ?_
  have q:=GY t n x s _ h;rw [←e]at q;exact q
 rw [bI e]at h
 by_cases e:x.at'=3
 ·rw [e]at h;have h:(zF t n x s).run _:=h;refine aEB (root:=0) (pos:=[]) (cs:=[]) (parse:=OW t n) (fin:=ClO.fin t n) xE (aS.unpack (.clear t n x) 0 0 (lP t n x) [] rfl (congrArg (Prod.mk 0) rfl) (by kernel_rfl) rfl) ?_
  have q:=GZ t n x s _ h;rw [←e]at q;exact q
 rw [bI e]at h;exact h.1.elim
noncomputable def clS:aI Ob:=fun args h=>match args,h with
 | [.ptr 0 0,.ptr 1 0],[some (.abs (.clear t n x) []),e1,e2]=>(match cL 2 [e1,e2]with
   | some (l,s)=>some (.pre (l=s.xs.length∧KD t n x s) (ClO.fin t n (oB t n x s)))
   | none=>none)
 | _,_=>none
theorem aBM:sT' 214 clS:=by
 intro args h o ho K hK;unfold clS at ho;split at ho
 case h_2=>cases ho
 split at ho<;>cases ho
 rename_i hm;obtain⟨⟨hl,ok⟩,hK⟩:=hK;have hh:=bB hm hl;cases hh;exact PR _ _ _ _ K (aEG ok hK)
def XG(t n:Int)(v:AVal)(g:aD Ob):Option (Prop×CLS):=match v,g with
 | .ptr 0 0,[some (.cells [.int .i64 t1,.int .i64 n1,.int .i64 addr,.int .i64 at',.int .u64 word,.int .u64 found])]=>some ((t1=t∧n1=n),(⟨addr,at',word,found⟩:CLS))
 | _,_=>none
abbrev PO(t n:Int)(y:CLS):aD Ob:=[some (.abs (.clear t n y) [])]
theorem PP{t n:Int} :bS (obI tbl) 0 (XG t n) (fun y=>.ret (.ptr 0 0) (PO t n y)):=by
 intro v g p x hp hq K hK;unfold XG at hp;split at hp
 case h_2=>cases hp
 rename_i t1 n1 addr at' word found;simp only [sI',pI']at hp;obtain⟨rfl,rfl⟩:=hp;obtain⟨rfl,rfl⟩:=hq;exact⟨⟨_,_,aF.pack (PO t1 n1 (⟨addr,at',word,found⟩:CLS)) (.clear t1 n1 (⟨addr,at',word,found⟩:CLS)) 0 0 (lP t1 n1 (⟨addr,at',word,found⟩:CLS)) [] (by kernel_rfl) rfl (congrArg (Prod.mk 0) rfl) (by kernel_rfl),hK⟩⟩
def XH(t n:Int)(a:Int):Tr CLS:=.pre (t=t∧n=n) (.ret {addr:=a,at':=0,word:=0,found:=0})
def xD(t n:Int)(a:Int):CLS:=(XH t n a).val
def pF(t n:Int)(a:Int):Prop:=(XH t n a).ok
def clNS:aI Ob:=fun args h=>match args,h with
 | [.agg [.int .i64 t,.int .i64 n],.int .i64 a],[]=>some (.pre (pF t n a) (.ret (.ptr 0 0) (PO t n (xD t n a))))
 | _,_=>none
theorem XI:sT' 258 clNS:=by
 intro args h o ho K hK;unfold clNS at ho;split at ho<;>cases ho
 rename_i t n a;obtain⟨ok,hK⟩:=hK;refine aEL (root:=0) (pos:=[]) (cs:=[]) (parse:=XG t n) PP ?_;exact cM' (E:=EB3) (q:=(XH t n a).run (fun y=>(Out.ret (.ptr 0 0) (PO t n y)).run K)) (by kernel_rfl) (aEG ok hK)
noncomputable def EC1:=((EB3.addS 214 clS aBM).addS 258 clNS XI)
def cmpI(a b:Int):Int:=bif ilt a b then -1 else bif ilt b a then 1 else 0
def orI(a b:Int):Int:=bif ieq a 0 then b else a
def B9(u n v m:Int):Int:=orI (cmpI n m) (cmpI u v)
def KF:bD Ob:=fun args h=>match args,h with
 | [.int .i64 a,.int .i64 b],[]=>some (True,.I (cmpI a b))
 | _,_=>none
theorem PS:sT' 280 KF.spec:=by
 intro args h o ho K hK;unfold bD.spec KF at ho;split at ho
 case h_2=>cases ho
 rename_i p v hp;split at hp
 case h_2=>cases hp
 rename_i a b;simp only [sI',pI']at hp;obtain⟨rfl,rfl⟩:=hp;simp only [sI']at ho;subst ho;obtain⟨hp,hK⟩:=hK;have hK:K (.I (cmpI a b)) []:=hK;refine aEA (cM' (E:=EC1) (q:=bif !ieq a a then bif !ieq b b then K (.I 0) []else K (.I (-1:Int)) []else bif !ieq b b then K (.I 1) []else bif ilt a b then K (.I (-1:Int)) []else bif ilt b a then K (.I 1) []else K (.I 0) []) (by kernel_rfl) ?_)
 unfold cmpI at hK;rw [pR,pR];cases h:ilt a b with
 | true=>rw [h]at hK;exact hK
 | false=>cases h2:ilt b a<;>(rw [h,h2]at hK;exact hK)
def KH:bD Ob:=fun args h=>match args,h with
 | [.int .u64 a,.int .u64 b],[]=>some (True,.I (cmpI a b))
 | _,_=>none
theorem PU:sT' 279 KH.spec:=by
 intro args h o ho K hK;unfold bD.spec KH at ho;split at ho
 case h_2=>cases ho
 rename_i p v hp;split at hp
 case h_2=>cases hp
 rename_i a b;simp only [sI',pI']at hp;obtain⟨rfl,rfl⟩:=hp;simp only [sI']at ho;subst ho;obtain⟨hp,hK⟩:=hK;have hK:K (.I (cmpI a b)) []:=hK;refine aEA (cM' (E:=EC1) (q:=bif !ieq a a then bif !ieq b b then K (.I 0) []else K (.I (-1:Int)) []else bif !ieq b b then K (.I 1) []else bif ilt a b then K (.I (-1:Int)) []else bif ilt b a then K (.I 1) []else K (.I 0) []) (by kernel_rfl) ?_)
 unfold cmpI at hK;rw [pR,pR];cases h:ilt a b with
 | true=>rw [h]at hK;exact hK
 | false=>cases h2:ilt b a<;>(rw [h,h2]at hK;exact hK)
def KG:bD Ob:=fun args h=>match args,h with
 | [.slice 0 0 2 1],[some (.cells [.int .i64 a,.int .i64 b])]=>some (True,.I (orI a b))
 | _,_=>none
theorem PT:sT' 278 KG.spec:=by
 intro args h o ho K hK;unfold bD.spec KG at ho;split at ho
 case h_2=>cases ho
 rename_i p v hp;split at hp
 case h_2=>cases hp
 rename_i a b;simp only [sI',pI']at hp;obtain⟨rfl,rfl⟩:=hp;simp only [sI']at ho;subst ho;obtain⟨hp,hK⟩:=hK;have hK:K (.I (orI a b)) [cE' [.I a,.I b]]:=hK;refine aEA (cM' (E:=EC1) (q:=((0:Int)≤(0:Int)∧(0:Int)<(↑2:Int))∧bif !ieq a 0 then K (.I a) [cE' [.I a,.I b]]else((0:Int)≤W (0+1)∧W (0+1)<(↑2:Int))∧bif !ieq b 0 then K (.I b) [cE' [.I a,.I b]]else K (.I 0) [cE' [.I a,.I b]]) (by kernel_rfl) ?_)
 unfold orI at hK;have e1:W (0+1)=1:=by decide
 simp only [W]at e1;simp only [W,e1];refine⟨by omega,?_⟩
 cases h:ieq a 0 with
 | false=>rw [h]at hK;exact hK
 | true=>
   rw [h]at hK;refine⟨by omega,?_⟩
   cases h2:ieq b 0 with
   | false=>exact hK
   | true=>
     have:b=0:=by rw [b8]at h2;simpa using h2
     subst this;exact hK
noncomputable def EQ1:=((EC1.addR 280 KF PS).addR 279 KH PU).addR 278 KG PT
def MX:bD Ob:=fun args h=>match args,h with
 | [.agg [.int .i64 u,.int .u64 n],.agg [.int .i64 v,.int .u64 m]],[]=>some (True,.I (B9 u n v m))
 | _,_=>none
theorem T0:sT' 244 MX.spec:=by
 intro args h o ho K hK;unfold bD.spec MX at ho;split at ho
 case h_2=>cases ho
 rename_i p v hp;split at hp
 case h_2=>cases hp
 rename_i u n v m;simp only [sI',pI']at hp;obtain⟨rfl,rfl⟩:=hp;simp only [sI']at ho;subst ho;obtain⟨hp,hK⟩:=hK;have hK:K (.I (B9 u n v m)) []:=hK;refine aEA (cM' (E:=EQ1) (q:=True∧True∧True∧K (.I (orI (cmpI n m) (cmpI u v))) []) (by kernel_rfl) ?_)
 exact⟨trivial,trivial,trivial,hK⟩
noncomputable def EQ2:=EQ1.addR 244 MX T0
def x7(u n v m:Int):Bool:=!ile 0 (B9 u n v m)
def EG:bD Ob:=fun args h=>match args,h with
 | [.slice 0 0 2 2],[some (.cells [.int .i64 u,.int .u64 n,.int .i64 v,.int .u64 m])]=>some (True,.bool (x7 u n v m))
 | _,_=>none
theorem MY:sT' 195 EG.spec:=by
 intro args h o ho K hK;unfold bD.spec EG at ho;split at ho
 case h_2=>cases ho
 rename_i p v hp;split at hp
 case h_2=>cases hp
 rename_i u n v m;simp only [sI',pI']at hp;obtain⟨rfl,rfl⟩:=hp;simp only [sI']at ho;subst ho;obtain⟨hp,hK⟩:=hK;have hK:K (.bool (x7 u n v m)) [cE' [.I u,.int .u64 n,.I v,.int .u64 m]]:=hK;refine aEA (cM' (E:=EQ2) (q:=((0:Int)≤W (1 - 1)∧W (1 - 1)<(↑2:Int))∧((0:Int)≤(1:Int)∧(1:Int)<(↑2:Int))∧True∧bif ile 0 (B9 u n v m)then K (.bool false) [cE' [.I u,.int .u64 n,.I v,.int .u64 m]]else K (.bool true) [cE' [.I u,.int .u64 n,.I v,.int .u64 m]]) (by kernel_rfl) ?_)
 have e1:W (1 - 1)=0:=by decide
 simp only [W]at e1;simp only [W,e1];refine⟨by omega,by omega,trivial,?_⟩
 unfold x7 at hK;cases h:ile 0 (B9 u n v m)<;>(rw [h]at hK;exact hK)
noncomputable def EQ:=EQ2.addR 195 EG MY
structure HdO where
 d:Bool
 x:HDS
 s:MS
instance:Inhabited HdO:=⟨⟨false,⟨0,0,0,false⟩,⟨0,0,[],0,0,0,0,0,false⟩⟩⟩
instance:Inhabited HDS:=⟨⟨0,0,0,false⟩⟩
abbrev hdH(t n:Int)(x:HDS)(s:MS):aD Ob:=[some (.abs (.head t n x) []),bE 2 s,bF s]
abbrev hdD(t n:Int)(x:HDS)(s:MS):aD Ob:=[cE' [.I t,.I n,.I x.u,.int .u64 x.no,.I x.at',.bool x.tk],bE 2 s,bF s]
def HdO.fin(t n:Int)(y:HdO):Out Ob:=.ite y.d (.ret (.bool true) (hdD t n y.x y.s)) (.ret (.bool false) (hdH t n y.x y.s))
def ZS(t n:Int)(v:AVal)(g:aD Ob):Option (Prop×HdO):=match v,g with
 | .bool d,[some (.cells [.int .i64 t1,.int .i64 n1,.int .i64 u,.int .u64 no,.int .i64 at',.bool tk]),e1,e2]=>(match cL 2 [e1,e2]with
   | some (l,s)=>some ((t1=t∧n1=n)∧l=s.xs.length,⟨d,⟨u,no,at',tk⟩,s⟩)
   | none=>none)
 | _,_=>none
def hdP(t n:Int)(v:AVal)(g:aD Ob):Option (Prop×HdO):=ZS t n v g
theorem SR{t n:Int} :bS (obI tbl) 3 (ZS t n) (HdO.fin t n):=by
 intro v g p x hp hq K hK;unfold ZS at hp;split at hp
 case h_2=>cases hp
 rename_i d t1 n1 u no at' tk e1 e2;split at hp
 case h_2=>cases hp
 rename_i l s hm;simp only [sI',pI']at hp;obtain⟨rfl,rfl⟩:=hp;obtain⟨⟨rfl,rfl⟩,hl⟩:=hq;have hh:=bB hm hl;cases hh;refine p8 hK (fun h=>?_) (fun h=>?_)
 ·exact⟨⟨_,_,aEM _ _ _,h⟩⟩
 ·exact⟨⟨_,_,(aF.pack (hdH t1 n1 (⟨u,no,at',tk⟩:HDS) s) (.head t1 n1 (⟨u,no,at',tk⟩:HDS)) 0 0 (xR t1 n1 (⟨u,no,at',tk⟩:HDS)) [] (by kernel_rfl) rfl (congrArg (Prod.mk 0) rfl) (by kernel_rfl)),h⟩⟩
theorem ZT{t n:Int} :bS (obI tbl) 3 (hdP t n) (HdO.fin t n):=by
 intro v g p x hp hq K hK;unfold hdP at hp;exact SR v g p x hp hq K hK
abbrev w08(n:Int)(s:MS)(t:Int)(x:HDS):Tr HdO:=.ret {d:=ile t (W (x.3+1)),x:= {u:=x.3,no:=aC s.3 (2*n+5+2*t+3*x.3),at':=W (x.3+1),tk:=false},s:= {s with c:=s.4+1,k:=1,a:=2*n+5+2*t+3*x.3,o:=aC s.3 (2*n+5+2*t+3*x.3),w:=aC s.3 (2*n+5+2*t+3*x.3),ok:=bQ s.3 (2*n+5+2*t+3*x.3) } }
abbrev w09(n t:Int)(x:HDS):=(((0:Int)≤t∧t≤(100000:Int))∧((0:Int)≤n∧n≤(100000:Int))∧(-1099511627776:Int)≤x.3∧x.3≤(1099511627776:Int))∧True
def SS(t n:Int)(x:HDS)(s:MS):Tr HdO:=.ite (!x.4) (.pre (w09 n t x) (.pre ((lE' s.3∧(0:Int)≤s.4∧s.4≤(4611686018427387904:Int))∧True) (.pre True (.pre True (.ite (!nA (aA (aC s.3 (2*n+5+2*t+3*x.3+2)) 49 3)) (.pre ((t=t∧n=n)∧lE' s.3) (.ret {d:=ile t (W (x.3+1)),x:= {u:=x.1,no:=x.2,at':=W (x.3+1),tk:=false},s:= {s with c:=s.4+1,k:=1,a:=2*n+5+2*t+3*x.3+2,o:=aC s.3 (2*n+5+2*t+3*x.3+2),w:=aC s.3 (2*n+5+2*t+3*x.3+2),ok:=bQ s.3 (2*n+5+2*t+3*x.3+2) } })) (.pre ((t=t∧n=n)∧lE' s.3) (.ret {d:=false,x:= {x with tk:=nA (aA (aC s.3 (2*n+5+2*t+3*x.3+2)) 49 3) },s:= {s with c:=s.4+1,k:=1,a:=2*n+5+2*t+3*x.3+2,o:=aC s.3 (2*n+5+2*t+3*x.3+2),w:=aC s.3 (2*n+5+2*t+3*x.3+2),ok:=bQ s.3 (2*n+5+2*t+3*x.3+2) } }))))))) (.pre (w09 n t x) (.pre ((lE' s.3∧(0:Int)≤s.4∧s.4≤(4611686018427387904:Int))∧True) (.ite (ilt x.1 0) (.pre ((t=t∧n=n)∧lE' s.3) (w08 n s t x)) (.pre True (.ite (x7 x.3 (aC s.3 (2*n+5+2*t+3*x.3)) x.1 x.2) (.pre ((t=t∧n=n)∧lE' s.3) (w08 n s t x)) (.pre ((t=t∧n=n)∧lE' s.3) (.ret {d:=ile t (W (x.3+1)),x:= {u:=x.1,no:=x.2,at':=W (x.3+1),tk:=false},s:= {s with c:=s.4+1,k:=1,a:=2*n+5+2*t+3*x.3,o:=aC s.3 (2*n+5+2*t+3*x.3),w:=aC s.3 (2*n+5+2*t+3*x.3),ok:=bQ s.3 (2*n+5+2*t+3*x.3) } })))))))
theorem LR(t n:Int)(x:HDS)(s:MS)(K:HdO→Prop)(h:(SS t n x s).run K):cT' 150 [.ptr 0 0,.ptr 1 0] [cE' [.I t,.I n,.I x.u,.int .u64 x.no,.I x.at',.bool x.tk],bE 2 s,bF s] (bM 3 0 [] [] (hdP t n) K):=by
 exact cM' (E:=EQ) (by kernel_rfl) h
def hdT(t n:Int)(x:HDS)(s:MS):Tr HdO:=SS t n x s
def pA(t n:Int)(x:HDS)(s:MS):HdO:=(hdT t n x s).val
def ZR(t n:Int)(x:HDS)(s:MS):Prop:=(hdT t n x s).ok
theorem ST(t n:Int)(x:HDS)(s:MS)(K:AVal→aD Ob→Prop)(h:(hdT t n x s).run (fun y=>(HdO.fin t n y).run K)):cT' 150 [.ptr 0 0,.ptr 1 0] (hdH t n x s) K:=by
 unfold hdT at h;exact aEB (root:=0) (pos:=[]) (cs:=[]) (parse:=hdP t n) (fin:=HdO.fin t n) ZT (aS.unpack (.head t n x) 0 0 (xR t n x) [] rfl (congrArg (Prod.mk 0) rfl) (by kernel_rfl) rfl) (LR t n x s _ h)
noncomputable def hdS:aI Ob:=fun args h=>match args,h with
 | [.ptr 0 0,.ptr 1 0],[some (.abs (.head t n x) []),e1,e2]=>(match cL 2 [e1,e2]with
   | some (l,s)=>some (.pre (l=s.xs.length∧ZR t n x s) (HdO.fin t n (pA t n x s)))
   | none=>none)
 | _,_=>none
theorem aCx:sT' 150 hdS:=by
 intro args h o ho K hK;unfold hdS at ho;split at ho
 case h_2=>cases ho
 split at ho<;>cases ho
 rename_i hm;obtain⟨⟨hl,ok⟩,hK⟩:=hK;have hh:=bB hm hl;cases hh;exact ST _ _ _ _ K (aEG ok hK)
def ZO(t n:Int)(v:AVal)(g:aD Ob):Option (Prop×HDS):=match v,g with
 | .ptr 0 0,[some (.cells [.int .i64 t1,.int .i64 n1,.int .i64 u,.int .u64 no,.int .i64 at',.bool tk])]=>some ((t1=t∧n1=n),(⟨u,no,at',tk⟩:HDS))
 | _,_=>none
abbrev SN(t n:Int)(y:HDS):aD Ob:=[some (.abs (.head t n y) [])]
theorem SP{t n:Int} :bS (obI tbl) 0 (ZO t n) (fun y=>.ret (.ptr 0 0) (SN t n y)):=by
 intro v g p x hp hq K hK;unfold ZO at hp;split at hp
 case h_2=>cases hp
 rename_i t1 n1 u no at' tk;simp only [sI',pI']at hp;obtain⟨rfl,rfl⟩:=hp;obtain⟨rfl,rfl⟩:=hq;exact⟨⟨_,_,aF.pack (SN t1 n1 (⟨u,no,at',tk⟩:HDS)) (.head t1 n1 (⟨u,no,at',tk⟩:HDS)) 0 0 (xR t1 n1 (⟨u,no,at',tk⟩:HDS)) [] (by kernel_rfl) rfl (congrArg (Prod.mk 0) rfl) (by kernel_rfl),hK⟩⟩
def ZP(t n:Int):Tr HDS:=.pre (t=t∧n=n) (.ret {u:= -1,no:=0,at':=0,tk:=false})
def ZN(t n:Int):HDS:=(ZP t n).val
def LQ(t n:Int):Prop:=(ZP t n).ok
def hdNS:aI Ob:=fun args h=>match args,h with
 | [.agg [.int .i64 t,.int .i64 n]],[]=>some (.pre (LQ t n) (.ret (.ptr 0 0) (SN t n (ZN t n))))
 | _,_=>none
theorem ZQ:sT' 128 hdNS:=by
 intro args h o ho K hK;unfold hdNS at ho;split at ho<;>cases ho
 rename_i t n;obtain⟨ok,hK⟩:=hK;refine aEL (root:=0) (pos:=[]) (cs:=[]) (parse:=ZO t n) SP ?_;exact cM' (E:=EQ) (q:=(ZP t n).run (fun y=>(Out.ret (.ptr 0 0) (SN t n y)).run K)) (by kernel_rfl) (aEG ok hK)
noncomputable def EC2:=((EQ.addS 150 hdS aCx).addS 128 hdNS ZQ)
structure DrO where
 d:Bool
 x:DRS
 s:MS
instance:Inhabited DrO:=⟨⟨false,⟨0,0⟩,⟨0,0,[],0,0,0,0,0,false⟩⟩⟩
instance:Inhabited DRS:=⟨⟨0,0⟩⟩
abbrev drH(t n:Int)(x:DRS)(s:MS):aD Ob:=[some (.abs (.drop t n x) []),bE 2 s,bF s]
abbrev drD(t n:Int)(x:DRS)(s:MS):aD Ob:=[cE' [.I t,.I n,.I x.th,.I x.at'],bE 2 s,bF s]
def DrO.fin(t n:Int)(y:DrO):Out Ob:=.ite y.d (.ret (.bool true) (drD t n y.x y.s)) (.ret (.bool false) (drH t n y.x y.s))
def X9(t n:Int)(v:AVal)(g:aD Ob):Option (Prop×DrO):=match v,g with
 | .bool d,[some (.cells [.int .i64 t1,.int .i64 n1,.int .i64 th,.int .i64 at']),e1,e2]=>(match cL 2 [e1,e2]with
   | some (l,s)=>some ((t1=t∧n1=n)∧l=s.xs.length,⟨d,⟨th,at'⟩,s⟩)
   | none=>none)
 | _,_=>none
def drP(t n:Int)(v:AVal)(g:aD Ob):Option (Prop×DrO):=X9 t n v g
theorem Q0{t n:Int} :bS (obI tbl) 3 (X9 t n) (DrO.fin t n):=by
 intro v g p x hp hq K hK;unfold X9 at hp;split at hp
 case h_2=>cases hp
 rename_i d t1 n1 th at' e1 e2;split at hp
 case h_2=>cases hp
 rename_i l s hm;simp only [sI',pI']at hp;obtain⟨rfl,rfl⟩:=hp;obtain⟨⟨rfl,rfl⟩,hl⟩:=hq;have hh:=bB hm hl;cases hh;refine p8 hK (fun h=>?_) (fun h=>?_)
 ·exact⟨⟨_,_,aEM _ _ _,h⟩⟩
 ·exact⟨⟨_,_,(aF.pack (drH t1 n1 (⟨th,at'⟩:DRS) s) (.drop t1 n1 (⟨th,at'⟩:DRS)) 0 0 (xI t1 n1 (⟨th,at'⟩:DRS)) [] (by kernel_rfl) rfl (congrArg (Prod.mk 0) rfl) (by kernel_rfl)),h⟩⟩
theorem YA{t n:Int} :bS (obI tbl) 3 (drP t n) (DrO.fin t n):=by
 intro v g p x hp hq K hK;unfold drP at hp;exact Q0 v g p x hp hq K hK
def RA(t n:Int)(x:DRS)(s:MS):Tr DrO:=.pre ((((0:Int)≤t∧t≤(100000:Int))∧((0:Int)≤n∧n≤(100000:Int))∧((-1099511627776:Int)≤x.1∧x.1≤(1099511627776:Int))∧(-1099511627776:Int)≤x.2∧x.2≤(1099511627776:Int))∧True) (.pre ((lE' s.3∧(0:Int)≤s.4∧s.4≤(4611686018427387904:Int))∧True) (.pre ((t=t∧n=n)∧lE' (aV s.3 (2*n+5+2*x.1+x.2) 0)) (.ret {d:=ile 2 (W (x.2+1)),x:= {th:=x.1,at':=W (x.2+1) },s:= {t:=s.1,n:=s.2,xs:=aV s.3 (2*n+5+2*x.1+x.2) 0,c:=s.4+1,k:=2,a:=2*n+5+2*x.1+x.2,o:=aC s.3 (2*n+5+2*x.1+x.2),w:=bif bQ s.3 (2*n+5+2*x.1+x.2)then 0 else 0,ok:=bQ s.3 (2*n+5+2*x.1+x.2) } })))
theorem KT(t n:Int)(x:DRS)(s:MS)(K:DrO→Prop)(h:(RA t n x s).run K):cT' 166 [.ptr 0 0,.ptr 1 0] [cE' [.I t,.I n,.I x.th,.I x.at'],bE 2 s,bF s] (bM 3 0 [] [] (drP t n) K):=by
 exact cM' (E:=EC2) (by kernel_rfl) h
def drT(t n:Int)(x:DRS)(s:MS):Tr DrO:=RA t n x s
def OX(t n:Int)(x:DRS)(s:MS):DrO:=(drT t n x s).val
def X8(t n:Int)(x:DRS)(s:MS):Prop:=(drT t n x s).ok
theorem RB(t n:Int)(x:DRS)(s:MS)(K:AVal→aD Ob→Prop)(h:(drT t n x s).run (fun y=>(DrO.fin t n y).run K)):cT' 166 [.ptr 0 0,.ptr 1 0] (drH t n x s) K:=by
 unfold drT at h;exact aEB (root:=0) (pos:=[]) (cs:=[]) (parse:=drP t n) (fin:=DrO.fin t n) YA (aS.unpack (.drop t n x) 0 0 (xI t n x) [] rfl (congrArg (Prod.mk 0) rfl) (by kernel_rfl) rfl) (KT t n x s _ h)
noncomputable def drS:aI Ob:=fun args h=>match args,h with
 | [.ptr 0 0,.ptr 1 0],[some (.abs (.drop t n x) []),e1,e2]=>(match cL 2 [e1,e2]with
   | some (l,s)=>some (.pre (l=s.xs.length∧X8 t n x s) (DrO.fin t n (OX t n x s)))
   | none=>none)
 | _,_=>none
theorem aBV:sT' 166 drS:=by
 intro args h o ho K hK;unfold drS at ho;split at ho
 case h_2=>cases ho
 split at ho<;>cases ho
 rename_i hm;obtain⟨⟨hl,ok⟩,hK⟩:=hK;have hh:=bB hm hl;cases hh;exact RB _ _ _ _ K (aEG ok hK)
def X5(t n:Int)(v:AVal)(g:aD Ob):Option (Prop×DRS):=match v,g with
 | .ptr 0 0,[some (.cells [.int .i64 t1,.int .i64 n1,.int .i64 th,.int .i64 at'])]=>some ((t1=t∧n1=n),(⟨th,at'⟩:DRS))
 | _,_=>none
abbrev QX(t n:Int)(y:DRS):aD Ob:=[some (.abs (.drop t n y) [])]
theorem QY{t n:Int} :bS (obI tbl) 0 (X5 t n) (fun y=>.ret (.ptr 0 0) (QX t n y)):=by
 intro v g p x hp hq K hK;unfold X5 at hp;split at hp
 case h_2=>cases hp
 rename_i t1 n1 th at';simp only [sI',pI']at hp;obtain⟨rfl,rfl⟩:=hp;obtain⟨rfl,rfl⟩:=hq;exact⟨⟨_,_,aF.pack (QX t1 n1 (⟨th,at'⟩:DRS)) (.drop t1 n1 (⟨th,at'⟩:DRS)) 0 0 (xI t1 n1 (⟨th,at'⟩:DRS)) [] (by kernel_rfl) rfl (congrArg (Prod.mk 0) rfl) (by kernel_rfl),hK⟩⟩
def X6(t n:Int)(u:Int):Tr DRS:=.pre (t=t∧n=n) (.ret {th:=u,at':=0})
def zU(t n:Int)(u:Int):DRS:=(X6 t n u).val
def rO(t n:Int)(u:Int):Prop:=(X6 t n u).ok
def drNS:aI Ob:=fun args h=>match args,h with
 | [.agg [.int .i64 t,.int .i64 n],.int .i64 u],[]=>some (.pre (rO t n u) (.ret (.ptr 0 0) (QX t n (zU t n u))))
 | _,_=>none
theorem X7:sT' 233 drNS:=by
 intro args h o ho K hK;unfold drNS at ho;split at ho<;>cases ho
 rename_i t n u;obtain⟨ok,hK⟩:=hK;refine aEL (root:=0) (pos:=[]) (cs:=[]) (parse:=X5 t n) QY ?_;exact cM' (E:=EC2) (q:=(X6 t n u).run (fun y=>(Out.ret (.ptr 0 0) (QX t n y)).run K)) (by kernel_rfl) (aEG ok hK)
noncomputable def EC3:=((EC2.addS 166 drS aBV).addS 233 drNS X7)
structure AnO where
 d:Bool
 x:ANS
 s:MS
instance:Inhabited AnO:=⟨⟨false,⟨0,0,0,0,false,0⟩,⟨0,0,[],0,0,0,0,0,false⟩⟩⟩
instance:Inhabited ANS:=⟨⟨0,0,0,0,false,0⟩⟩
abbrev anH(t n:Int)(x:ANS)(s:MS):aD Ob:=[some (.abs (.announce t n x) []),bE 2 s,bF s]
abbrev anD(t n:Int)(x:ANS)(s:MS):aD Ob:=[cE' [.I t,.I n,.int .u64 x.no,.I x.me,.I x.at',.int .u64 x.bits,.bool x.wrong,.int .u64 x.found],bE 2 s,bF s]
def AnO.fin(t n:Int)(y:AnO):Out Ob:=.ite y.d (.ret (.bool true) (anD t n y.x y.s)) (.ret (.bool false) (anH t n y.x y.s))
def WW(t n:Int)(v:AVal)(g:aD Ob):Option (Prop×AnO):=match v,g with
 | .bool d,[some (.cells [.int .i64 t1,.int .i64 n1,.int .u64 no,.int .i64 me,.int .i64 at',.int .u64 bits,.bool wrong,.int .u64 found]),e1,e2]=>(match cL 2 [e1,e2]with
   | some (l,s)=>some ((t1=t∧n1=n)∧l=s.xs.length,⟨d,⟨no,me,at',bits,wrong,found⟩,s⟩)
   | none=>none)
 | _,_=>none
def JP(t n:Int)(v:AVal)(g:aD Ob):Option (Prop×AnO):=WW t n v g
theorem PA{t n:Int} :bS (obI tbl) 3 (WW t n) (AnO.fin t n):=by
 intro v g p x hp hq K hK;unfold WW at hp;split at hp
 case h_2=>cases hp
 rename_i d t1 n1 no me at' bits wrong found e1 e2;split at hp
 case h_2=>cases hp
 rename_i l s hm;simp only [sI',pI']at hp;obtain⟨rfl,rfl⟩:=hp;obtain⟨⟨rfl,rfl⟩,hl⟩:=hq;have hh:=bB hm hl;cases hh;refine p8 hK (fun h=>?_) (fun h=>?_)
 ·exact⟨⟨_,_,aEM _ _ _,h⟩⟩
 ·exact⟨⟨_,_,(aF.pack (anH t1 n1 (⟨no,me,at',bits,wrong,found⟩:ANS) s) (.announce t1 n1 (⟨no,me,at',bits,wrong,found⟩:ANS)) 0 0 (eE t1 n1 (⟨no,me,at',bits,wrong,found⟩:ANS)) [] (by kernel_rfl) rfl (congrArg (Prod.mk 0) rfl) (by kernel_rfl)),h⟩⟩
theorem tD{t n:Int} :bS (obI tbl) 3 (JP t n) (AnO.fin t n):=by
 intro v g p x hp hq K hK;unfold JP at hp;exact PA v g p x hp hq K hK
abbrev w0a(n t:Int)(x:ANS):=(((0:Int)≤t∧t≤(100000:Int))∧((0:Int)≤n∧n≤(100000:Int))∧(-1099511627776:Int)≤x.2∧x.2≤(1099511627776:Int))∧True
def yX(t n:Int)(x:ANS)(s:MS):Tr AnO:=.ite x.5 (.pre (lE' s.3∧(0:Int)≤s.4∧s.4≤(4611686018427387904:Int)) (.pre ((t=t∧n=n)∧lE' s.3) (.ret {d:=true,x:= {x with at':=0},s:= {s with c:=s.4+1,k:=1,a:=0,o:=aC s.3 0,w:=aC s.3 0,ok:=bQ s.3 0} }))) (.pre (w0a n t x) (.pre ((lE' s.3∧(0:Int)≤s.4∧s.4≤(4611686018427387904:Int))∧True) (.pre ((t=t∧n=n)∧lE' (aV s.3 (2*n+5+2*t+3*x.2+1) x.4)) (.ret {d:=false,x:= {x with at':=W (0+1)},s:= {t:=s.1,n:=s.2,xs:=aV s.3 (2*n+5+2*t+3*x.2+1) x.4,c:=s.4+1,k:=2,a:=2*n+5+2*t+3*x.2+1,o:=aC s.3 (2*n+5+2*t+3*x.2+1),w:=bif bQ s.3 (2*n+5+2*t+3*x.2+1)then x.4 else 0,ok:=bQ s.3 (2*n+5+2*t+3*x.2+1) } }))))
theorem GI(t n:Int)(x:ANS)(s:MS)(K:AnO→Prop)(h:(yX t n x s).run K):cT' 158 [.ptr 0 0,.ptr 1 0] [cE' [.I t,.I n,.int .u64 x.no,.I x.me,.I 0,.int .u64 x.bits,.bool x.wrong,.int .u64 x.found],bE 2 s,bF s] (bM 3 0 [] [] (JP t n) K):=by
 exact cM' (E:=EC3) (by kernel_rfl) h
def yY(t n:Int)(x:ANS)(s:MS):Tr AnO:=.ite x.5 (.pre (lE' s.3∧(0:Int)≤s.4∧s.4≤(4611686018427387904:Int)) (.pre ((t=t∧n=n)∧lE' s.3) (.ret {d:=true,x:= {x with at':=1},s:= {s with c:=s.4+1,k:=1,a:=0,o:=aC s.3 0,w:=aC s.3 0,ok:=bQ s.3 0} }))) (.pre (((0:Int)≤t∧t≤(100000:Int))∧(0:Int)≤n∧n≤(100000:Int)) (.pre (lE' s.3∧(0:Int)≤s.4∧s.4≤(4611686018427387904:Int)) (.pre ((t=t∧n=n)∧lE' (aV s.3 (2*n+5+2*t+3*t) (WU (aC s.3 (2*n+5+2*t+3*t)+1)))) (.ret {d:=false,x:= {x with no:=WU (aC s.3 (2*n+5+2*t+3*t)+1),at':=W (1+1)},s:= {t:=s.1,n:=s.2,xs:=aV s.3 (2*n+5+2*t+3*t) (WU (aC s.3 (2*n+5+2*t+3*t)+1)),c:=s.4+1,k:=4,a:=2*n+5+2*t+3*t,o:=aC s.3 (2*n+5+2*t+3*t),w:=bif bQ s.3 (2*n+5+2*t+3*t)then WU (aC s.3 (2*n+5+2*t+3*t)+1)else 0,ok:=bQ s.3 (2*n+5+2*t+3*t) } }))))
theorem GJ(t n:Int)(x:ANS)(s:MS)(K:AnO→Prop)(h:(yY t n x s).run K):cT' 158 [.ptr 0 0,.ptr 1 0] [cE' [.I t,.I n,.int .u64 x.no,.I x.me,.I 1,.int .u64 x.bits,.bool x.wrong,.int .u64 x.found],bE 2 s,bF s] (bM 3 0 [] [] (JP t n) K):=by
 exact cM' (E:=EC3) (by kernel_rfl) h
def yZ(t n:Int)(x:ANS)(s:MS):Tr AnO:=.ite x.5 (.pre (lE' s.3∧(0:Int)≤s.4∧s.4≤(4611686018427387904:Int)) (.pre ((t=t∧n=n)∧lE' s.3) (.ret {d:=true,x:= {x with at':=2},s:= {s with c:=s.4+1,k:=1,a:=0,o:=aC s.3 0,w:=aC s.3 0,ok:=bQ s.3 0} }))) (.pre (w0a n t x) (.pre ((lE' s.3∧(0:Int)≤s.4∧s.4≤(4611686018427387904:Int))∧True) (.pre ((t=t∧n=n)∧lE' (aV s.3 (2*n+5+2*t+3*x.2) x.1)) (.ret {d:=false,x:= {x with at':=W (2+1)},s:= {t:=s.1,n:=s.2,xs:=aV s.3 (2*n+5+2*t+3*x.2) x.1,c:=s.4+1,k:=2,a:=2*n+5+2*t+3*x.2,o:=aC s.3 (2*n+5+2*t+3*x.2),w:=bif bQ s.3 (2*n+5+2*t+3*x.2)then x.1 else 0,ok:=bQ s.3 (2*n+5+2*t+3*x.2) } }))))
theorem GK(t n:Int)(x:ANS)(s:MS)(K:AnO→Prop)(h:(yZ t n x s).run K):cT' 158 [.ptr 0 0,.ptr 1 0] [cE' [.I t,.I n,.int .u64 x.no,.I x.me,.I 2,.int .u64 x.bits,.bool x.wrong,.int .u64 x.found],bE 2 s,bF s] (bM 3 0 [] [] (JP t n) K):=by
 exact cM' (E:=EC3) (by kernel_rfl) h
def y0(t n:Int)(x:ANS)(s:MS):Tr AnO:=.ite x.5 (.pre (lE' s.3∧(0:Int)≤s.4∧s.4≤(4611686018427387904:Int)) (.pre ((t=t∧n=n)∧lE' s.3) (.ret {d:=true,x:= {x with at':=3},s:= {s with c:=s.4+1,k:=1,a:=0,o:=aC s.3 0,w:=aC s.3 0,ok:=bQ s.3 0} }))) (.pre (w0a n t x) (.pre ((lE' s.3∧(0:Int)≤s.4∧s.4≤(4611686018427387904:Int))∧True) (.pre ((t=t∧n=n)∧lE' s.3) (.ret {d:=false,x:= {x with at':=W (3+1),found:=aC s.3 (2*n+5+2*t+3*x.2+2) },s:= {s with c:=s.4+1,k:=1,a:=2*n+5+2*t+3*x.2+2,o:=aC s.3 (2*n+5+2*t+3*x.2+2),w:=aC s.3 (2*n+5+2*t+3*x.2+2),ok:=bQ s.3 (2*n+5+2*t+3*x.2+2) } }))))
theorem GL(t n:Int)(x:ANS)(s:MS)(K:AnO→Prop)(h:(y0 t n x s).run K):cT' 158 [.ptr 0 0,.ptr 1 0] [cE' [.I t,.I n,.int .u64 x.no,.I x.me,.I 3,.int .u64 x.bits,.bool x.wrong,.int .u64 x.found],bE 2 s,bF s] (bM 3 0 [] [] (JP t n) K):=by
 exact cM' (E:=EC3) (by kernel_rfl) h
abbrev w0b(x:ANS):=eF (aA x.6 0 12)
def y4(t n:Int)(x:ANS)(s:MS):Tr AnO:=.ite x.5 (.pre (lE' s.3∧(0:Int)≤s.4∧s.4≤(4611686018427387904:Int)) (.pre ((t=t∧n=n)∧lE' s.3) (.ret {d:=true,x:= {x with at':=4},s:= {s with c:=s.4+1,k:=1,a:=0,o:=aC s.3 0,w:=aC s.3 0,ok:=bQ s.3 0} }))) (.pre True (.pre ((0:Int)≤aA x.6 0 12∧aA x.6 0 (12:Int)≤(1000000:Int)) (.pre True (.pre (w0a n t x) (.pre ((lE' s.3∧(0:Int)≤s.4∧s.4≤(4611686018427387904:Int))∧True) (.pre ((t=t∧n=n)∧lE' (aV s.3 (2*n+5+2*t+3*x.2+2) (bif dOk (w0b x) 0 0 0 1 0 then cJ (w0b x) 0 0 0 false 1 0 else 0))) (.ret {d:=true,x:= {x with at':=W (4+1)},s:= {t:=s.1,n:=s.2,xs:=aV s.3 (2*n+5+2*t+3*x.2+2) (bif dOk (w0b x) 0 0 0 1 0 then cJ (w0b x) 0 0 0 false 1 0 else 0),c:=s.4+1,k:=2,a:=2*n+5+2*t+3*x.2+2,o:=aC s.3 (2*n+5+2*t+3*x.2+2),w:=bif bQ s.3 (2*n+5+2*t+3*x.2+2)then bif dOk (w0b x) 0 0 0 1 0 then cJ (w0b x) 0 0 0 false 1 0 else 0 else 0,ok:=bQ s.3 (2*n+5+2*t+3*x.2+2) } })))))))
theorem GM(t n:Int)(x:ANS)(s:MS)(K:AnO→Prop)(h:(y4 t n x s).run K):cT' 158 [.ptr 0 0,.ptr 1 0] [cE' [.I t,.I n,.int .u64 x.no,.I x.me,.I 4,.int .u64 x.bits,.bool x.wrong,.int .u64 x.found],bE 2 s,bF s] (bM 3 0 [] [] (JP t n) K):=by
 exact cM' (E:=EC3) (by kernel_rfl) h
def anT(t n:Int)(x:ANS)(s:MS):Tr AnO:=
 bif ieq x.at' 0 then yX t n x s else
 bif ieq x.at' 1 then yY t n x s else
 bif ieq x.at' 2 then yZ t n x s else
 bif ieq x.at' 3 then y0 t n x s else
 bif ieq x.at' 4 then y4 t n x s else .pre False (.ret default)
def C5(t n:Int)(x:ANS)(s:MS):AnO:=(anT t n x s).val
def WV(t n:Int)(x:ANS)(s:MS):Prop:=(anT t n x s).ok
theorem PB(t n:Int)(x:ANS)(s:MS)(K:AVal→aD Ob→Prop)(h:(anT t n x s).run (fun y=>(AnO.fin t n y).run K)):cT' 158 [.ptr 0 0,.ptr 1 0] (anH t n x s) K:=by
 unfold anT at h
 by_cases e:x.at'=0
 ·rw [e]at h;have h:(yX t n x s).run _:=h;refine aEB (root:=0) (pos:=[]) (cs:=[]) (parse:=JP t n) (fin:=AnO.fin t n) tD (aS.unpack (.announce t n x) 0 0 (eE t n x) [] rfl (congrArg (Prod.mk 0) rfl) (by kernel_rfl) rfl) ?_
  have q:=GI t n x s _ h;rw [←e]at q;exact q
 rw [bI e]at h
 by_cases e:x.at'=1
 ·rw [e]at h;have h:(yY t n x s).run _:=h;refine aEB (root:=0) (pos:=[]) (cs:=[]) (parse:=JP t n) (fin:=AnO.fin t n) tD (aS.unpack (.announce t n x) 0 0 (eE t n x) [] rfl (congrArg (Prod.mk 0) rfl) (by kernel_rfl) rfl) ?_
  have q:=GJ t n x s _ h;rw [←e]at q;exact q
 rw [bI e]at h
 by_cases e:x.at'=2
 ·rw [e]at h;have h:(yZ t n x s).run _:=h;refine aEB (root:=0) (pos:=[]) (cs:=[]) (parse:=JP t n) (fin:=AnO.fin t n) tD (aS.unpack (.announce t n x) 0 0 (eE t n x) [] rfl (congrArg (Prod.mk 0) rfl) (by kernel_rfl) rfl) ?_
  have q:=GK t n x s _ h;rw [←e]at q;exact q
 rw [bI e]at h
 by_cases e:x.at'=3
 ·rw [e]at h;have h:(y0 t n x s).run _:=h;refine aEB (root:=0) (pos:=[]) (cs:=[]) (parse:=JP t n) (fin:=AnO.fin t n) tD (aS.unpack (.announce t n x) 0 0 (eE t n x) [] rfl (congrArg (Prod.mk 0) rfl) (by kernel_rfl) rfl) ?_
  have q:=GL t n x s _ h;rw [←e]at q;exact q
 rw [bI e]at h
 by_cases e:x.at'=4
 ·rw [e]at h;have h:(y4 t n x s).run _:=h;refine aEB (root:=0) (pos:=[]) (cs:=[]) (parse:=JP t n) (fin:=AnO.fin t n) tD (aS.unpack (.announce t n x) 0 0 (eE t n x) [] rfl (congrArg (Prod.mk 0) rfl) (by kernel_rfl) rfl) ?_
  have q:=GM t n x s _ h;rw [←e]at q;exact q
 rw [bI e]at h;exact h.1.elim
noncomputable def anS:aI Ob:=fun args h=>match args,h with
 | [.ptr 0 0,.ptr 1 0],[some (.abs (.announce t n x) []),e1,e2]=>(match cL 2 [e1,e2]with
   | some (l,s)=>some (.pre (l=s.xs.length∧WV t n x s) (AnO.fin t n (C5 t n x s)))
   | none=>none)
 | _,_=>none
theorem aBH:sT' 158 anS:=by
 intro args h o ho K hK;unfold anS at ho;split at ho
 case h_2=>cases ho
 split at ho<;>cases ho
 rename_i hm;obtain⟨⟨hl,ok⟩,hK⟩:=hK;have hh:=bB hm hl;cases hh;exact PB _ _ _ _ K (aEG ok hK)
def WR(t n:Int)(v:AVal)(g:aD Ob):Option (Prop×ANS):=match v,g with
 | .ptr 0 0,[some (.cells [.int .i64 t1,.int .i64 n1,.int .u64 no,.int .i64 me,.int .i64 at',.int .u64 bits,.bool wrong,.int .u64 found])]=>some ((t1=t∧n1=n),(⟨no,me,at',bits,wrong,found⟩:ANS))
 | _,_=>none
abbrev O7(t n:Int)(y:ANS):aD Ob:=[some (.abs (.announce t n y) [])]
theorem O8{t n:Int} :bS (obI tbl) 0 (WR t n) (fun y=>.ret (.ptr 0 0) (O7 t n y)):=by
 intro v g p x hp hq K hK;unfold WR at hp;split at hp
 case h_2=>cases hp
 rename_i t1 n1 no me at' bits wrong found;simp only [sI',pI']at hp;obtain⟨rfl,rfl⟩:=hp;obtain⟨rfl,rfl⟩:=hq;exact⟨⟨_,_,aF.pack (O7 t1 n1 (⟨no,me,at',bits,wrong,found⟩:ANS)) (.announce t1 n1 (⟨no,me,at',bits,wrong,found⟩:ANS)) 0 0 (eE t1 n1 (⟨no,me,at',bits,wrong,found⟩:ANS)) [] (by kernel_rfl) rfl (congrArg (Prod.mk 0) rfl) (by kernel_rfl),hK⟩⟩
def WS(t n:Int)(u sh kd ky:Int):Tr ANS:=.pre True (.pre (t=t∧n=n) (.ret {no:=0,me:=u,at':=0,bits:=bif cC sh kd ky then tskV sh kd ky else 0,wrong:=!ieq (bif cC sh kd ky then 0 else 1) 0,found:=0}))
def WQ(t n:Int)(u sh kd ky:Int):ANS:=(WS t n u sh kd ky).val
def J6(t n:Int)(u sh kd ky:Int):Prop:=(WS t n u sh kd ky).ok
def anNS:aI Ob:=fun args h=>match args,h with
 | [.agg [.int .i64 t,.int .i64 n],.int .i64 u,.agg [.int .i64 sh,.int .i64 kd,.int .i64 ky]],[]=>some (.pre (J6 t n u sh kd ky) (.ret (.ptr 0 0) (O7 t n (WQ t n u sh kd ky))))
 | _,_=>none
theorem WT:sT' 220 anNS:=by
 intro args h o ho K hK;unfold anNS at ho;split at ho<;>cases ho
 rename_i t n u sh kd ky;obtain⟨ok,hK⟩:=hK;refine aEL (root:=0) (pos:=[]) (cs:=[]) (parse:=WR t n) O8 ?_;exact cM' (E:=EC3) (q:=(WS t n u sh kd ky).run (fun y=>(Out.ret (.ptr 0 0) (O7 t n y)).run K)) (by kernel_rfl) (aEG ok hK)
noncomputable def EC4:=((EC3.addS 158 anS aBH).addS 220 anNS WT)
structure AwO where
 d:Bool
 x:AWS
 s:MS
instance:Inhabited AwO:=⟨⟨false,⟨0,false,0,0⟩,⟨0,0,[],0,0,0,0,0,false⟩⟩⟩
instance:Inhabited AWS:=⟨⟨0,false,0,0⟩⟩
abbrev awH(t n:Int)(x:AWS)(s:MS):aD Ob:=[some (.abs (.answer t n x) []),bE 2 s,bF s]
abbrev awD(t n:Int)(x:AWS)(s:MS):aD Ob:=[cE' [.I t,.I n,.I x.code,.bool x.okk,.I x.val,.I x.me],bE 2 s,bF s]
def AwO.fin(t n:Int)(y:AwO):Out Ob:=.ite y.d (.ret (.bool true) (awD t n y.x y.s)) (.ret (.bool false) (awH t n y.x y.s))
def W7(t n:Int)(v:AVal)(g:aD Ob):Option (Prop×AwO):=match v,g with
 | .bool d,[some (.cells [.int .i64 t1,.int .i64 n1,.int .i64 code,.bool okk,.int .i64 val,.int .i64 me]),e1,e2]=>(match cL 2 [e1,e2]with
   | some (l,s)=>some ((t1=t∧n1=n)∧l=s.xs.length,⟨d,⟨code,okk,val,me⟩,s⟩)
   | none=>none)
 | _,_=>none
def awP(t n:Int)(v:AVal)(g:aD Ob):Option (Prop×AwO):=W7 t n v g
theorem PJ{t n:Int} :bS (obI tbl) 3 (W7 t n) (AwO.fin t n):=by
 intro v g p x hp hq K hK;unfold W7 at hp;split at hp
 case h_2=>cases hp
 rename_i d t1 n1 code okk val me e1 e2;split at hp
 case h_2=>cases hp
 rename_i l s hm;simp only [sI',pI']at hp;obtain⟨rfl,rfl⟩:=hp;obtain⟨⟨rfl,rfl⟩,hl⟩:=hq;have hh:=bB hm hl;cases hh;refine p8 hK (fun h=>?_) (fun h=>?_)
 ·exact⟨⟨_,_,aEM _ _ _,h⟩⟩
 ·exact⟨⟨_,_,(aF.pack (awH t1 n1 (⟨code,okk,val,me⟩:AWS) s) (.answer t1 n1 (⟨code,okk,val,me⟩:AWS)) 0 0 (pD t1 n1 (⟨code,okk,val,me⟩:AWS)) [] (by kernel_rfl) rfl (congrArg (Prod.mk 0) rfl) (by kernel_rfl)),h⟩⟩
theorem W8{t n:Int} :bS (obI tbl) 3 (awP t n) (AwO.fin t n):=by
 intro v g p x hp hq K hK;unfold awP at hp;exact PJ v g p x hp hq K hK
abbrev w0c(n:Int)(s:MS)(t:Int)(x:AWS):=aC s.3 (2*n+5+2*t+3*x.4+2)
def PK(t n:Int)(x:AWS)(s:MS):Tr AwO:=.pre ((((0:Int)≤t∧t≤(100000:Int))∧((0:Int)≤n∧n≤(100000:Int))∧(-1099511627776:Int)≤x.4∧x.4≤(1099511627776:Int))∧True) (.pre ((lE' s.3∧(0:Int)≤s.4∧s.4≤(4611686018427387904:Int))∧True) (.pre True (.pre True (.pre ((t=t∧n=n)∧lE' s.3) (.ret {d:=true,x:= {code:=resC (aA (w0c n s t x) 39 9) (aA (w0c n s t x) 49 3),okk:=T4 (aA (w0c n s t x) 39 9) (aA (w0c n s t x) 49 3) (ieq (aA (w0c n s t x) 48 1) 1),val:=T5 (aA (w0c n s t x) 39 9) (aA (w0c n s t x) 49 3) (aA (w0c n s t x) 52 10),me:=x.4},s:= {s with c:=s.4+1,k:=1,a:=2*n+5+2*t+3*x.4+2,o:=aC s.3 (2*n+5+2*t+3*x.4+2),w:=aC s.3 (2*n+5+2*t+3*x.4+2),ok:=bQ s.3 (2*n+5+2*t+3*x.4+2) } })))))
theorem J8(t n:Int)(x:AWS)(s:MS)(K:AwO→Prop)(h:(PK t n x s).run K):cT' 161 [.ptr 0 0,.ptr 1 0] [cE' [.I t,.I n,.I x.code,.bool x.okk,.I x.val,.I x.me],bE 2 s,bF s] (bM 3 0 [] [] (awP t n) K):=by
 exact cM' (E:=EC4) (by kernel_rfl) h
def awT(t n:Int)(x:AWS)(s:MS):Tr AwO:=PK t n x s
def rM(t n:Int)(x:AWS)(s:MS):AwO:=(awT t n x s).val
def W6(t n:Int)(x:AWS)(s:MS):Prop:=(awT t n x s).ok
theorem PL(t n:Int)(x:AWS)(s:MS)(K:AVal→aD Ob→Prop)(h:(awT t n x s).run (fun y=>(AwO.fin t n y).run K)):cT' 161 [.ptr 0 0,.ptr 1 0] (awH t n x s) K:=by
 unfold awT at h;exact aEB (root:=0) (pos:=[]) (cs:=[]) (parse:=awP t n) (fin:=AwO.fin t n) W8 (aS.unpack (.answer t n x) 0 0 (pD t n x) [] rfl (congrArg (Prod.mk 0) rfl) (by kernel_rfl) rfl) (J8 t n x s _ h)
noncomputable def awS:aI Ob:=fun args h=>match args,h with
 | [.ptr 0 0,.ptr 1 0],[some (.abs (.answer t n x) []),e1,e2]=>(match cL 2 [e1,e2]with
   | some (l,s)=>some (.pre (l=s.xs.length∧W6 t n x s) (AwO.fin t n (rM t n x s)))
   | none=>none)
 | _,_=>none
theorem aBK:sT' 161 awS:=by
 intro args h o ho K hK;unfold awS at ho;split at ho
 case h_2=>cases ho
 split at ho<;>cases ho
 rename_i hm;obtain⟨⟨hl,ok⟩,hK⟩:=hK;have hh:=bB hm hl;cases hh;exact PL _ _ _ _ K (aEG ok hK)
def W3(t n:Int)(v:AVal)(g:aD Ob):Option (Prop×AWS):=match v,g with
 | .ptr 0 0,[some (.cells [.int .i64 t1,.int .i64 n1,.int .i64 code,.bool okk,.int .i64 val,.int .i64 me])]=>some ((t1=t∧n1=n),(⟨code,okk,val,me⟩:AWS))
 | _,_=>none
abbrev PG(t n:Int)(y:AWS):aD Ob:=[some (.abs (.answer t n y) [])]
theorem PH{t n:Int} :bS (obI tbl) 0 (W3 t n) (fun y=>.ret (.ptr 0 0) (PG t n y)):=by
 intro v g p x hp hq K hK;unfold W3 at hp;split at hp
 case h_2=>cases hp
 rename_i t1 n1 code okk val me;simp only [sI',pI']at hp;obtain⟨rfl,rfl⟩:=hp;obtain⟨rfl,rfl⟩:=hq;exact⟨⟨_,_,aF.pack (PG t1 n1 (⟨code,okk,val,me⟩:AWS)) (.answer t1 n1 (⟨code,okk,val,me⟩:AWS)) 0 0 (pD t1 n1 (⟨code,okk,val,me⟩:AWS)) [] (by kernel_rfl) rfl (congrArg (Prod.mk 0) rfl) (by kernel_rfl),hK⟩⟩
def W4(t n:Int)(u:Int):Tr AWS:=.pre (t=t∧n=n) (.ret {code:=0,okk:=false,val:=0,me:=u})
def WZ(t n:Int)(u:Int):AWS:=(W4 t n u).val
def J7(t n:Int)(u:Int):Prop:=(W4 t n u).ok
def awNS:aI Ob:=fun args h=>match args,h with
 | [.agg [.int .i64 t,.int .i64 n],.int .i64 u],[]=>some (.pre (J7 t n u) (.ret (.ptr 0 0) (PG t n (WZ t n u))))
 | _,_=>none
theorem W5:sT' 160 awNS:=by
 intro args h o ho K hK;unfold awNS at ho;split at ho<;>cases ho
 rename_i t n u;obtain⟨ok,hK⟩:=hK;refine aEL (root:=0) (pos:=[]) (cs:=[]) (parse:=W3 t n) PH ?_;exact cM' (E:=EC4) (q:=(W4 t n u).run (fun y=>(Out.ret (.ptr 0 0) (PG t n y)).run K)) (by kernel_rfl) (aEG ok hK)
noncomputable def EC5:=((EC4.addS 161 awS aBK).addS 160 awNS W5)
def EX:bD Ob:=fun args h=>match args,h with
 | [.ptr 0 0],[some (.cells [.int .i64 t,.int .i64 n,.int .i64 pop,.int .i64 gave,.int .i64 u,.int .i64 sh,.int .i64 kd,.int .i64 ky,.bool only,.int .i64 att,.int .i64 at',.int .u64 found,.int .u64 word])]=>some (True,.agg [.I (aA found 0 12),.I (aA found 12 9),.I (aA found 21 18),.I (aA found 39 9),.bool (ieq (aA found 48 1) 1),.I (aA found 49 3),.I (aA found 52 10)])
 | _,_=>none
theorem OQ:sT' 281 EX.spec:=by
 intro args h o ho K hK;unfold bD.spec EX at ho;split at ho
 case h_2=>cases ho
 rename_i p v hp;split at hp
 case h_2=>cases hp
 rename_i t n pop gave u sh kd ky only att at' found word;simp only [sI',pI']at hp;obtain⟨rfl,rfl⟩:=hp;simp only [sI']at ho;subst ho;obtain⟨hp,hK⟩:=hK;have hK:K (.agg [.I (aA found 0 12),.I (aA found 12 9),.I (aA found 21 18),.I (aA found 39 9),.bool (ieq (aA found 48 1) 1),.I (aA found 49 3),.I (aA found 52 10)]) [cE' [.I t,.I n,.I pop,.I gave,.I u,.I sh,.I kd,.I ky,.bool only,.I att,.I at',.int .u64 found,.int .u64 word]]:=hK;refine aEA (cM' (E:=EC5) (q:=True∧K (.agg [.I (aA found 0 12),.I (aA found 12 9),.I (aA found 21 18),.I (aA found 39 9),.bool (ieq (aA found 48 1) 1),.I (aA found 49 3),.I (aA found 52 10)]) [cE' [.I t,.I n,.I pop,.I gave,.I u,.I sh,.I kd,.I ky,.bool only,.I att,.I at',.int .u64 found,.int .u64 word]]) (by kernel_rfl) ?_)
 exact⟨trivial,hK⟩
noncomputable def EX1:=EC5.addR 281 EX OQ
def OR(t n pop gave u sh kd ky:Int)(only:Bool)(att at' found word:Int)(k y:Int)(m:Bool)(c v:Int)(s:MS):Out Ob:=.pre True (.pre True (.pre ((lE' s.3∧(0:Int)≤s.4∧s.4≤(4611686018427387904:Int))∧True) (.ret (.bool (aT s.3 (aA found 12 9) word)) [cE' [.I t,.I n,.I pop,.I gave,.I u,.I sh,.I kd,.I ky,.bool only,.I att,.I at',.int .u64 found,.int .u64 word],cE' [.I s.1,.I s.2,.slice 2 0 (List.length (bif aT s.3 (aA found 12 9) word then aV s.3 (aA found 12 9) (bif bif aK k 10 then bif aK y 9 then bif aK c 5 then aK v 18 else false else false else false then cK k y m c v else 0)else s.3)) 1,.I (s.4+1),.I 3,.I (aA found 12 9),.int .u64 (aC s.3 (aA found 12 9)),.int .u64 (bif bQ s.3 (aA found 12 9)then bif bif aK k 10 then bif aK y 9 then bif aK c 5 then aK v 18 else false else false else false then cK k y m c v else 0 else 0),.bool (aT s.3 (aA found 12 9) word)],some (.ints (some .u64) (bif aT s.3 (aA found 12 9) word then aV s.3 (aA found 12 9) (bif bif aK k 10 then bif aK y 9 then bif aK c 5 then aK v 18 else false else false else false then cK k y m c v else 0)else s.3))])))
theorem OS(t n pop gave u sh kd ky:Int)(only:Bool)(att at' found word:Int)(k y:Int)(m:Bool)(c v:Int)(s:MS)(K:AVal→aD Ob→Prop)(h:(OR t n pop gave u sh kd ky only att at' found word k y m c v s).run K):cT' 284 [.ptr 0 0,.ptr 1 0,.agg [.I k,.I y,.bool m,.I c,.I v]] [cE' [.I t,.I n,.I pop,.I gave,.I u,.I sh,.I kd,.I ky,.bool only,.I att,.I at',.int .u64 found,.int .u64 word],bE 2 s,bF s] K:=by
 refine aEA (cM' (E:=EX1) (by kernel_rfl) h)
def xputS:aI Ob:=fun args h=>match args,h with
 | [.ptr 0 0,.ptr 1 0,.agg [.int .i64 k,.int .i64 y,.bool m,.int .i64 c,.int .i64 v]],[some (.cells [.int .i64 t,.int .i64 n,.int .i64 pop,.int .i64 gave,.int .i64 u,.int .i64 sh,.int .i64 kd,.int .i64 ky,.bool only,.int .i64 att,.int .i64 at',.int .u64 found,.int .u64 word]),e1,e2]=>(match cL 2 [e1,e2]with
   | some (l,s)=>some (.pre (l=s.xs.length) (OR t n pop gave u sh kd ky only att at' found word k y m c v s))
   | none=>none)
 | _,_=>none
theorem UZ:sT' 284 xputS:=by
 intro args h o ho K hK;unfold xputS at ho;split at ho
 case h_2=>cases ho
 split at ho<;>cases ho
 rename_i hm;obtain⟨hl,hK⟩:=hK;have hh:=bB hm hl;cases hh;exact OS _ _ _ _ _ _ _ _ _ _ _ _ _ _ _ _ _ _ _ K hK
def EY(t n pop gave u sh kd ky:Int)(only:Bool)(att at' found word:Int)(a b c d:Int)(m:Bool)(e f:Int)(s:MS):Out Ob:=.pre True (.pre ((((0:Int)≤t∧t≤(100000:Int))∧((0:Int)≤n∧n≤(100000:Int))∧(-1099511627776:Int)≤u∧u≤(1099511627776:Int))∧True) (.pre ((lE' s.3∧(0:Int)≤s.4∧s.4≤(4611686018427387904:Int))∧True) (.ret (.bool (aT s.3 (2*n+5+2*t+3*u+2) found)) [cE' [.I t,.I n,.I pop,.I gave,.I u,.I sh,.I kd,.I ky,.bool only,.I att,.I at',.int .u64 found,.int .u64 word],cE' [.I s.1,.I s.2,.slice 2 0 (List.length (bif aT s.3 (2*n+5+2*t+3*u+2) found then aV s.3 (2*n+5+2*t+3*u+2) (bif dOk a b c d e f then cJ a b c d m e f else 0)else s.3)) 1,.I (s.4+1),.I 3,.I (2*n+5+2*t+3*u+2),.int .u64 (aC s.3 (2*n+5+2*t+3*u+2)),.int .u64 (bif bQ s.3 (2*n+5+2*t+3*u+2)then bif dOk a b c d e f then cJ a b c d m e f else 0 else 0),.bool (aT s.3 (2*n+5+2*t+3*u+2) found)],some (.ints (some .u64) (bif aT s.3 (2*n+5+2*t+3*u+2) found then aV s.3 (2*n+5+2*t+3*u+2) (bif dOk a b c d e f then cJ a b c d m e f else 0)else s.3))])))
theorem JN(t n pop gave u sh kd ky:Int)(only:Bool)(att at' found word:Int)(a b c d:Int)(m:Bool)(e f:Int)(s:MS)(K:AVal→aD Ob→Prop)(h:(EY t n pop gave u sh kd ky only att at' found word a b c d m e f s).run K):cT' 286 [.ptr 0 0,.ptr 1 0,.agg [.I a,.I b,.I c,.I d,.bool m,.I e,.I f]] [cE' [.I t,.I n,.I pop,.I gave,.I u,.I sh,.I kd,.I ky,.bool only,.I att,.I at',.int .u64 found,.int .u64 word],bE 2 s,bF s] K:=by
 refine aEA (cM' (E:=EX1) (by kernel_rfl) h)
def xturnS:aI Ob:=fun args h=>match args,h with
 | [.ptr 0 0,.ptr 1 0,.agg [.int .i64 a,.int .i64 b,.int .i64 c,.int .i64 d,.bool m,.int .i64 e,.int .i64 f]],[some (.cells [.int .i64 t,.int .i64 n,.int .i64 pop,.int .i64 gave,.int .i64 u,.int .i64 sh,.int .i64 kd,.int .i64 ky,.bool only,.int .i64 att,.int .i64 at',.int .u64 found,.int .u64 word]),e1,e2]=>(match cL 2 [e1,e2]with
   | some (l,s)=>some (.pre (l=s.xs.length) (EY t n pop gave u sh kd ky only att at' found word a b c d m e f s))
   | none=>none)
 | _,_=>none
theorem OT:sT' 286 xturnS:=by
 intro args h o ho K hK;unfold xturnS at ho;split at ho
 case h_2=>cases ho
 split at ho<;>cases ho
 rename_i hm;obtain⟨hl,hK⟩:=hK;have hh:=bB hm hl;cases hh;exact JN _ _ _ _ _ _ _ _ _ _ _ _ _ _ _ _ _ _ _ _ _ K hK
noncomputable def EX2:=(EX1.addS 284 xputS UZ).addS 286 xturnS OT
instance:Inhabited STS:=⟨⟨0,0,[]⟩⟩
end Go.Sh
