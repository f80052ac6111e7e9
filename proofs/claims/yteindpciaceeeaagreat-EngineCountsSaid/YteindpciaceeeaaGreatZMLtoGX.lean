import Derived.Test.YteindpciaceeeaaGreatZM0toM42
set_option linter.all false
set_option maxHeartbeats 8000000
namespace Go.Sh
open Go Go.Proofs
variable [Con]
theorem VR{xs:List Int}(h:VQ xs){a x:Int}(hx:0≤x∧x≤18446744073709551615):VQ (aY xs a x):=by
 unfold aY;split
 ·refine⟨fun y hy=>?_⟩;rcases List.mem_or_eq_of_mem_set hy with h1 | h1
  ·exact h.h y h1
  ·subst h1;exact hx
 ·exact h
theorem LE(x:Int):0≤WU x∧WU x≤18446744073709551615:=by
 unfold WU;simp only [IntKind.wrap,IntKind.bits,IntKind.signed]
 simp
 omega
structure EO where
 d:Bool
 e:ENS
 st:STS
 s:MS
def at0(t n me:Int):Int:=bif bW n (aQ t n me)then aQ t n me else 1
def IQ(e:ENS)(st:STS)(x:AL)(s:MS):EO:=match ile x.left 0 with
 | true=>⟨e.dn||ieq (st.R.length:Int) 0,{e with ph:=2,sh:=e.dn||ieq (st.R.length:Int) 0,x:=x},{st with sp:=0},s⟩
 | false=>⟨false,{e with ph:=1,x:=x},st,s⟩
def rM(n:Int)(e:ENS)(st:STS)(x:AL)(s:MS):EO:=match x.free with
 | true=>(match aW s.xs (n+4+x.at') x.found with
   | true=>⟨true,{e with ph:=1,x:=⟨x.at',x.at',x.left,x.found,true⟩ },{st with sp:=x.at'},s.cased (n+4+x.at') x.found (WU (x.found+1))⟩
   | false=>IQ e st ⟨0,cZ n x.at',x.left - 1,x.found,false⟩ (s.cased (n+4+x.at') x.found (WU (x.found+1))))
 | false=>(match oddB (aE s.xs (n+4+x.at'))with
   | true=>IQ e st ⟨0,cZ n x.at',x.left - 1,aE s.xs (n+4+x.at'),false⟩ (s.loadd (n+4+x.at'))
   | false=>⟨false,{e with ph:=1,x:=⟨0,x.at',x.left,aE s.xs (n+4+x.at'),true⟩ },st,s.loadd (n+4+x.at')⟩)
instance:Inhabited EO:=⟨⟨false,aX,⟨0,0,[]⟩,⟨0,0,[],0,0,0,0,0,false⟩⟩⟩
def enF(t n:Int)(e:ENS)(st:STS)(s:MS):EO:=match e.ph with
 | 0=>(match ieq st.sp 0 with
   | true=>rM n e st ⟨0,at0 t n st.me,n,0,false⟩ s
   | false=>⟨true,e,st,s.loadd 0⟩)
 | 1=>rM n e st e.x s
 | 2=>⟨false,{e with ph:=3,y:= {e.y with N:=st.R,m:=bB [] n 0 s,i:=1} },st,s.loadd (bX n 0)⟩
 | 3=>(match ieq (e.y.i+1) (2*t),ieq ((bA (bB e.y.m n e.y.i s) e.y.N).length :Int) 0 with
   | true,true=>⟨true,{e with ph:=0,sh:=true,dn:=true},{st with R:=cJ (bB e.y.m n e.y.i s) e.y.N},s.loadd (bX n e.y.i)⟩
   | true,false=>⟨false,{e with ph:=4,y:=⟨0,e.y.N,bB e.y.m n e.y.i s,e.y.i+1,cJ (bB e.y.m n e.y.i s) e.y.N,bA (bB e.y.m n e.y.i s) e.y.N,bA (bB e.y.m n e.y.i s) e.y.N,0,(bA (bB e.y.m n e.y.i s) e.y.N).length⟩ },st,s.loadd (bX n e.y.i)⟩
   | false,_=>⟨false,{e with y:= {e.y with m:=bB e.y.m n e.y.i s,i:=e.y.i+1} },st,s.loadd (bX n e.y.i)⟩)
 | _=>(match ieq ((e.y.l - 1:Nat):Int) 0 with
   | true=>⟨ieq (e.y.fs.length:Int) 0,{e with ph:=0,sh:=ieq (e.y.fs.length:Int) 0,dn:=true},{st with R:=e.y.ks},s.added (b8 n e.y.gs e.y.j) 1⟩
   | false=>⟨false,{e with y:= {e.y with j:=e.y.j+1,l:=e.y.l - 1} },st,s.added (b8 n e.y.gs e.y.j) 1⟩)
structure okAl (n:Int) (x:AL):Prop where
 hg:x.got=0
 ha:1≤x.at'∧x.at'≤n
 hl:0≤x.left∧x.left≤1000
def aEu(t n:Int)(e:ENS)(st:STS):Prop:=match e.ph with
 | 0=>True
 | 1=>okAl n e.x
 | 2=>True
 | 3=>e.y.N.length≤1000000∧0≤e.y.i∧e.y.i<2*t
 | 4=>2*t≤e.y.i∧1≤e.y.l∧e.y.gs.length=e.y.j+e.y.l∧ -1000000≤List.getD e.y.gs (e.y.j+Int.toNat 0*1) 0∧List.getD e.y.gs (e.y.j+Int.toNat 0*1) 0≤1000000
 | _=>False
structure J1 (t n:Int) (e:ENS) (st:STS) (s:MS):Prop where
 ht:1≤t∧t≤1000
 hn:1≤n∧n≤1000
 hc:0≤s.c∧s.c≤1000000
 hm:0≤st.me∧st.me≤1000
 hR:st.R.length≤1000000
 ho:aEu t n e st
abbrev bE(l:Nat)(s:MS):Option (aH Mc):=some (.cells [.int .i64 s.t,.int .i64 s.n,.slice l 0 s.xs.length 1,.int .i64 s.c,.int .i64 s.k,.int .i64 s.a,.int .u64 s.o,.int .u64 s.w,.bool s.ok])
abbrev bF(s:MS):Option (aH Mc):=some (.ints (some .u64) s.xs)
def TG(t n:Int)(e:ENS)(st:STS)(s:MS):aC Ob:=[some (.abs (.ensure t n e) [1]),some (.abs (.store t n st) []),bE 3 s,bF s]
def EO.left(o:EO)(t n:Int)(K:AVal→aC Ob→Prop):Prop:=K (.bool o.d) (TG t n o.e o.st o.s)
theorem gN{K:AVal→aC Ob→Prop}{t n:Int}{o:EO}{g':aC Ob}(pl:List Nat)(hK:o.left t n K)
 (hb:(dZ pl g'.length&&i9 pl 0 4&&obOk 1 (DD t n o.e))=true)
 (hT:gQ pl g'=aM [some (.abs (.ensure t n o.e) [1]),some (.cells [.int .i64 t,.int .i64 n,.int .i64 o.st.me,.int .i64 o.st.sp,.slice 4 0 o.st.R.length 1]),bE 3 o.s,bF o.s,some (.ints (some .i64) o.st.R)] 0 1 (DD t n o.e) [1]):zD tbl 4 (zD tbl 4 K) (.bool o.d) g':=by
 simp only [Bool.and_eq_true]at hb;obtain⟨⟨b1,b2⟩,b3⟩:=hb;refine⟨pl,_,.ensure t n o.e,0,1,_,[1],?_,hT,rfl,rfl,⟨[0,1,2,3,4],[some (.abs (.ensure t n o.e) [1]),some (.abs (.store t n o.st) []),bE 3 o.s,bF o.s],.store t n o.st,1,0,dL t n o.st,[],rfl,rfl,rfl,rfl,?_⟩⟩
 ·rw [b1,b2,b3];rfl
 ·exact hK
theorem aFl(t n me sp:Int)(R:List Int)(sh dn:Bool)(x:AL)(y:SWS)(s:MS)(K:AVal→aC Ob→Prop)(hK:bif !ieq sp 0 then(lE' s.3∧(0:Int)≤s.4∧s.4≤(4611686018427387904:Int))∧K (.bool true) [some (.cells [.ptr 1 0,.bool sh,.raw (Value.pointer none),.raw (Value.pointer none),.bool dn]),some (.cells [.int .i64 t,.int .i64 n,.int .i64 me,.int .i64 sp,.slice 4 0 R.length 1]),some (.cells [.int .i64 s.1,.int .i64 s.2,.slice 3 0 s.3.length 1,.int .i64 (s.4+1),.int .i64 1,.int .i64 0,.int .u64 (aE s.3 0),.int .u64 (aE s.3 0),.bool (bT s.3 0)]),some (.ints (some .u64) s.3),some (.ints (some .i64) R)]else(((0:Int)≤me∧me≤(100000:Int))∧(0:Int)≤n∧n≤(100000:Int))∧(True∧True)∧(lE' s.3∧((1:Int)≤t∧t≤(1000:Int))∧((1:Int)≤n∧n≤(1000:Int))∧(((1:Int)≤bif bW n (aQ t n me)then aQ t n me else 1)∧(bif bW n (aQ t n me)then aQ t n me else 1)≤n)∧((0:Int)≤n∧n≤(1000:Int))∧(0:Int)≤s.4∧s.4≤(1000000:Int))∧bif oddB (aE s.3 (n+4+bif bW n (aQ t n me)then aQ t n me else 1))then bif !ile (n - 1) 0 then K (.bool false) [some (.cells [.ptr 1 0,.bool sh,.ptr 5 0,.raw (Value.pointer none),.bool dn]),some (.cells [.int .i64 t,.int .i64 n,.int .i64 me,.int .i64 sp,.slice 4 0 R.length 1]),some (.cells [.int .i64 s.1,.int .i64 s.2,.slice 3 0 s.3.length 1,.int .i64 (s.4+1),.int .i64 1,.int .i64 (n+4+bif bW n (aQ t n me)then aQ t n me else 1),.int .u64 (aE s.3 (n+4+bif bW n (aQ t n me)then aQ t n me else 1)),.int .u64 (aE s.3 (n+4+bif bW n (aQ t n me)then aQ t n me else 1)),.bool (bT s.3 (n+4+bif bW n (aQ t n me)then aQ t n me else 1))]),some (.ints (some .u64) s.3),some (.ints (some .i64) R),some (.cells [.int .i64 t,.int .i64 n,.int .i64 0,.int .i64 (cZ n (bif bW n (aQ t n me)then aQ t n me else 1)),.int .i64 (n - 1),.int .u64 (aE s.3 (n+4+bif bW n (aQ t n me)then aQ t n me else 1)),.bool false])]else bif dn then K (.bool true) [some (.cells [.ptr 1 0,.bool true,.ptr 5 0,.ptr 6 0,.bool dn]),some (.cells [.int .i64 t,.int .i64 n,.int .i64 me,.int .i64 0,.slice 4 0 R.length 1]),some (.cells [.int .i64 s.1,.int .i64 s.2,.slice 3 0 s.3.length 1,.int .i64 (s.4+1),.int .i64 1,.int .i64 (n+4+bif bW n (aQ t n me)then aQ t n me else 1),.int .u64 (aE s.3 (n+4+bif bW n (aQ t n me)then aQ t n me else 1)),.int .u64 (aE s.3 (n+4+bif bW n (aQ t n me)then aQ t n me else 1)),.bool (bT s.3 (n+4+bif bW n (aQ t n me)then aQ t n me else 1))]),some (.ints (some .u64) s.3),some (.ints (some .i64) R),some (.cells [.int .i64 t,.int .i64 n,.int .i64 0,.int .i64 (cZ n (bif bW n (aQ t n me)then aQ t n me else 1)),.int .i64 (n - 1),.int .u64 (aE s.3 (n+4+bif bW n (aQ t n me)then aQ t n me else 1)),.bool false]),some (.cells [.ptr 1 0,.raw (Value.pointer none)])]else K (.bool (ieq (↑R.length:Int) 0)) [some (.cells [.ptr 1 0,.bool (ieq (↑R.length:Int) 0),.ptr 5 0,.ptr 6 0,.bool dn]),some (.cells [.int .i64 t,.int .i64 n,.int .i64 me,.int .i64 0,.slice 4 0 R.length 1]),some (.cells [.int .i64 s.1,.int .i64 s.2,.slice 3 0 s.3.length 1,.int .i64 (s.4+1),.int .i64 1,.int .i64 (n+4+bif bW n (aQ t n me)then aQ t n me else 1),.int .u64 (aE s.3 (n+4+bif bW n (aQ t n me)then aQ t n me else 1)),.int .u64 (aE s.3 (n+4+bif bW n (aQ t n me)then aQ t n me else 1)),.bool (bT s.3 (n+4+bif bW n (aQ t n me)then aQ t n me else 1))]),some (.ints (some .u64) s.3),some (.ints (some .i64) R),some (.cells [.int .i64 t,.int .i64 n,.int .i64 0,.int .i64 (cZ n (bif bW n (aQ t n me)then aQ t n me else 1)),.int .i64 (n - 1),.int .u64 (aE s.3 (n+4+bif bW n (aQ t n me)then aQ t n me else 1)),.bool false]),some (.cells [.ptr 1 0,.raw (Value.pointer none)])]else K (.bool false) [some (.cells [.ptr 1 0,.bool sh,.ptr 5 0,.raw (Value.pointer none),.bool dn]),some (.cells [.int .i64 t,.int .i64 n,.int .i64 me,.int .i64 sp,.slice 4 0 R.length 1]),some (.cells [.int .i64 s.1,.int .i64 s.2,.slice 3 0 s.3.length 1,.int .i64 (s.4+1),.int .i64 1,.int .i64 (n+4+bif bW n (aQ t n me)then aQ t n me else 1),.int .u64 (aE s.3 (n+4+bif bW n (aQ t n me)then aQ t n me else 1)),.int .u64 (aE s.3 (n+4+bif bW n (aQ t n me)then aQ t n me else 1)),.bool (bT s.3 (n+4+bif bW n (aQ t n me)then aQ t n me else 1))]),some (.ints (some .u64) s.3),some (.ints (some .i64) R),some (.cells [.int .i64 t,.int .i64 n,.int .i64 0,.int .i64 (bif bW n (aQ t n me)then aQ t n me else 1),.int .i64 n,.int .u64 (aE s.3 (n+4+bif bW n (aQ t n me)then aQ t n me else 1)),.bool true])]):cT' 154 [.ptr 0 0,.ptr 2 0] [some (.cells [.ptr 1 0,.bool sh,.raw (.pointer none),.raw (.pointer none),.bool dn]),some (.cells [.int .i64 t,.int .i64 n,.int .i64 me,.int .i64 sp,.slice 4 0 R.length 1]),bE 3 s,bF s,some (.ints (some .i64) R)] K:=by
 refine aGK (cM' (E:=E42) (by kernel_rfl) hK)
theorem aFm(t n me sp:Int)(R:List Int)(sh dn:Bool)(x:AL)(y:SWS)(s:MS)(K:AVal→aC Ob→Prop)(hK:(lE' s.3∧((1:Int)≤t∧t≤(1000:Int))∧((1:Int)≤n∧n≤(1000:Int))∧((1:Int)≤x.2∧x.2≤n)∧((0:Int)≤x.3∧x.3≤(1000:Int))∧(0:Int)≤s.4∧s.4≤(1000000:Int))∧bif x.5 then bif aW s.3 (n+4+x.2) x.4 then bif !ieq x.2 0 then K (.bool true) [some (.cells [.ptr 1 0,.bool sh,.ptr 5 0,.raw (Value.pointer none),.bool dn]),some (.cells [.int .i64 t,.int .i64 n,.int .i64 me,.int .i64 x.2,.slice 4 0 R.length 1]),some (.cells [.int .i64 s.1,.int .i64 s.2,.slice 3 0 (List.length (bif aW s.3 (n+4+x.2) x.4 then aY s.3 (n+4+x.2) (WU (x.4+1))else s.3)) 1,.int .i64 (s.4+1),.int .i64 3,.int .i64 (n+4+x.2),.int .u64 (aE s.3 (n+4+x.2)),.int .u64 (bif bT s.3 (n+4+x.2)then WU (x.4+1)else 0),.bool (aW s.3 (n+4+x.2) x.4)]),some (.ints (some .u64) (bif aW s.3 (n+4+x.2) x.4 then aY s.3 (n+4+x.2) (WU (x.4+1))else s.3)),some (.ints (some .i64) R),some (.cells [.int .i64 t,.int .i64 n,.int .i64 x.2,.int .i64 x.2,.int .i64 x.3,.int .u64 x.4,.bool true])]else bif dn then K (.bool true) [some (.cells [.ptr 1 0,.bool true,.ptr 5 0,.ptr 6 0,.bool dn]),some (.cells [.int .i64 t,.int .i64 n,.int .i64 me,.int .i64 x.2,.slice 4 0 R.length 1]),some (.cells [.int .i64 s.1,.int .i64 s.2,.slice 3 0 (List.length (bif aW s.3 (n+4+x.2) x.4 then aY s.3 (n+4+x.2) (WU (x.4+1))else s.3)) 1,.int .i64 (s.4+1),.int .i64 3,.int .i64 (n+4+x.2),.int .u64 (aE s.3 (n+4+x.2)),.int .u64 (bif bT s.3 (n+4+x.2)then WU (x.4+1)else 0),.bool (aW s.3 (n+4+x.2) x.4)]),some (.ints (some .u64) (bif aW s.3 (n+4+x.2) x.4 then aY s.3 (n+4+x.2) (WU (x.4+1))else s.3)),some (.ints (some .i64) R),some (.cells [.int .i64 t,.int .i64 n,.int .i64 x.2,.int .i64 x.2,.int .i64 x.3,.int .u64 x.4,.bool true]),some (.cells [.ptr 1 0,.raw (Value.pointer none)])]else K (.bool (ieq (↑R.length:Int) 0)) [some (.cells [.ptr 1 0,.bool (ieq (↑R.length:Int) 0),.ptr 5 0,.ptr 6 0,.bool dn]),some (.cells [.int .i64 t,.int .i64 n,.int .i64 me,.int .i64 x.2,.slice 4 0 R.length 1]),some (.cells [.int .i64 s.1,.int .i64 s.2,.slice 3 0 (List.length (bif aW s.3 (n+4+x.2) x.4 then aY s.3 (n+4+x.2) (WU (x.4+1))else s.3)) 1,.int .i64 (s.4+1),.int .i64 3,.int .i64 (n+4+x.2),.int .u64 (aE s.3 (n+4+x.2)),.int .u64 (bif bT s.3 (n+4+x.2)then WU (x.4+1)else 0),.bool (aW s.3 (n+4+x.2) x.4)]),some (.ints (some .u64) (bif aW s.3 (n+4+x.2) x.4 then aY s.3 (n+4+x.2) (WU (x.4+1))else s.3)),some (.ints (some .i64) R),some (.cells [.int .i64 t,.int .i64 n,.int .i64 x.2,.int .i64 x.2,.int .i64 x.3,.int .u64 x.4,.bool true]),some (.cells [.ptr 1 0,.raw (Value.pointer none)])]else bif !ile (x.3 - 1) 0 then K (.bool false) [some (.cells [.ptr 1 0,.bool sh,.ptr 5 0,.raw (Value.pointer none),.bool dn]),some (.cells [.int .i64 t,.int .i64 n,.int .i64 me,.int .i64 sp,.slice 4 0 R.length 1]),some (.cells [.int .i64 s.1,.int .i64 s.2,.slice 3 0 (List.length (bif aW s.3 (n+4+x.2) x.4 then aY s.3 (n+4+x.2) (WU (x.4+1))else s.3)) 1,.int .i64 (s.4+1),.int .i64 3,.int .i64 (n+4+x.2),.int .u64 (aE s.3 (n+4+x.2)),.int .u64 (bif bT s.3 (n+4+x.2)then WU (x.4+1)else 0),.bool (aW s.3 (n+4+x.2) x.4)]),some (.ints (some .u64) (bif aW s.3 (n+4+x.2) x.4 then aY s.3 (n+4+x.2) (WU (x.4+1))else s.3)),some (.ints (some .i64) R),some (.cells [.int .i64 t,.int .i64 n,.int .i64 x.1,.int .i64 (cZ n x.2),.int .i64 (x.3 - 1),.int .u64 x.4,.bool false])]else bif !ieq x.1 0 then K (.bool true) [some (.cells [.ptr 1 0,.bool sh,.ptr 5 0,.raw (Value.pointer none),.bool dn]),some (.cells [.int .i64 t,.int .i64 n,.int .i64 me,.int .i64 x.1,.slice 4 0 R.length 1]),some (.cells [.int .i64 s.1,.int .i64 s.2,.slice 3 0 (List.length (bif aW s.3 (n+4+x.2) x.4 then aY s.3 (n+4+x.2) (WU (x.4+1))else s.3)) 1,.int .i64 (s.4+1),.int .i64 3,.int .i64 (n+4+x.2),.int .u64 (aE s.3 (n+4+x.2)),.int .u64 (bif bT s.3 (n+4+x.2)then WU (x.4+1)else 0),.bool (aW s.3 (n+4+x.2) x.4)]),some (.ints (some .u64) (bif aW s.3 (n+4+x.2) x.4 then aY s.3 (n+4+x.2) (WU (x.4+1))else s.3)),some (.ints (some .i64) R),some (.cells [.int .i64 t,.int .i64 n,.int .i64 x.1,.int .i64 (cZ n x.2),.int .i64 (x.3 - 1),.int .u64 x.4,.bool false])]else bif dn then K (.bool true) [some (.cells [.ptr 1 0,.bool true,.ptr 5 0,.ptr 6 0,.bool dn]),some (.cells [.int .i64 t,.int .i64 n,.int .i64 me,.int .i64 x.1,.slice 4 0 R.length 1]),some (.cells [.int .i64 s.1,.int .i64 s.2,.slice 3 0 (List.length (bif aW s.3 (n+4+x.2) x.4 then aY s.3 (n+4+x.2) (WU (x.4+1))else s.3)) 1,.int .i64 (s.4+1),.int .i64 3,.int .i64 (n+4+x.2),.int .u64 (aE s.3 (n+4+x.2)),.int .u64 (bif bT s.3 (n+4+x.2)then WU (x.4+1)else 0),.bool (aW s.3 (n+4+x.2) x.4)]),some (.ints (some .u64) (bif aW s.3 (n+4+x.2) x.4 then aY s.3 (n+4+x.2) (WU (x.4+1))else s.3)),some (.ints (some .i64) R),some (.cells [.int .i64 t,.int .i64 n,.int .i64 x.1,.int .i64 (cZ n x.2),.int .i64 (x.3 - 1),.int .u64 x.4,.bool false]),some (.cells [.ptr 1 0,.raw (Value.pointer none)])]else K (.bool (ieq (↑R.length:Int) 0)) [some (.cells [.ptr 1 0,.bool (ieq (↑R.length:Int) 0),.ptr 5 0,.ptr 6 0,.bool dn]),some (.cells [.int .i64 t,.int .i64 n,.int .i64 me,.int .i64 x.1,.slice 4 0 R.length 1]),some (.cells [.int .i64 s.1,.int .i64 s.2,.slice 3 0 (List.length (bif aW s.3 (n+4+x.2) x.4 then aY s.3 (n+4+x.2) (WU (x.4+1))else s.3)) 1,.int .i64 (s.4+1),.int .i64 3,.int .i64 (n+4+x.2),.int .u64 (aE s.3 (n+4+x.2)),.int .u64 (bif bT s.3 (n+4+x.2)then WU (x.4+1)else 0),.bool (aW s.3 (n+4+x.2) x.4)]),some (.ints (some .u64) (bif aW s.3 (n+4+x.2) x.4 then aY s.3 (n+4+x.2) (WU (x.4+1))else s.3)),some (.ints (some .i64) R),some (.cells [.int .i64 t,.int .i64 n,.int .i64 x.1,.int .i64 (cZ n x.2),.int .i64 (x.3 - 1),.int .u64 x.4,.bool false]),some (.cells [.ptr 1 0,.raw (Value.pointer none)])]else bif oddB (aE s.3 (n+4+x.2))then bif !ile (x.3 - 1) 0 then K (.bool false) [some (.cells [.ptr 1 0,.bool sh,.ptr 5 0,.raw (Value.pointer none),.bool dn]),some (.cells [.int .i64 t,.int .i64 n,.int .i64 me,.int .i64 sp,.slice 4 0 R.length 1]),some (.cells [.int .i64 s.1,.int .i64 s.2,.slice 3 0 s.3.length 1,.int .i64 (s.4+1),.int .i64 1,.int .i64 (n+4+x.2),.int .u64 (aE s.3 (n+4+x.2)),.int .u64 (aE s.3 (n+4+x.2)),.bool (bT s.3 (n+4+x.2))]),some (.ints (some .u64) s.3),some (.ints (some .i64) R),some (.cells [.int .i64 t,.int .i64 n,.int .i64 x.1,.int .i64 (cZ n x.2),.int .i64 (x.3 - 1),.int .u64 (aE s.3 (n+4+x.2)),.bool false])]else bif !ieq x.1 0 then K (.bool true) [some (.cells [.ptr 1 0,.bool sh,.ptr 5 0,.raw (Value.pointer none),.bool dn]),some (.cells [.int .i64 t,.int .i64 n,.int .i64 me,.int .i64 x.1,.slice 4 0 R.length 1]),some (.cells [.int .i64 s.1,.int .i64 s.2,.slice 3 0 s.3.length 1,.int .i64 (s.4+1),.int .i64 1,.int .i64 (n+4+x.2),.int .u64 (aE s.3 (n+4+x.2)),.int .u64 (aE s.3 (n+4+x.2)),.bool (bT s.3 (n+4+x.2))]),some (.ints (some .u64) s.3),some (.ints (some .i64) R),some (.cells [.int .i64 t,.int .i64 n,.int .i64 x.1,.int .i64 (cZ n x.2),.int .i64 (x.3 - 1),.int .u64 (aE s.3 (n+4+x.2)),.bool false])]else bif dn then K (.bool true) [some (.cells [.ptr 1 0,.bool true,.ptr 5 0,.ptr 6 0,.bool dn]),some (.cells [.int .i64 t,.int .i64 n,.int .i64 me,.int .i64 x.1,.slice 4 0 R.length 1]),some (.cells [.int .i64 s.1,.int .i64 s.2,.slice 3 0 s.3.length 1,.int .i64 (s.4+1),.int .i64 1,.int .i64 (n+4+x.2),.int .u64 (aE s.3 (n+4+x.2)),.int .u64 (aE s.3 (n+4+x.2)),.bool (bT s.3 (n+4+x.2))]),some (.ints (some .u64) s.3),some (.ints (some .i64) R),some (.cells [.int .i64 t,.int .i64 n,.int .i64 x.1,.int .i64 (cZ n x.2),.int .i64 (x.3 - 1),.int .u64 (aE s.3 (n+4+x.2)),.bool false]),some (.cells [.ptr 1 0,.raw (Value.pointer none)])]else K (.bool (ieq (↑R.length:Int) 0)) [some (.cells [.ptr 1 0,.bool (ieq (↑R.length:Int) 0),.ptr 5 0,.ptr 6 0,.bool dn]),some (.cells [.int .i64 t,.int .i64 n,.int .i64 me,.int .i64 x.1,.slice 4 0 R.length 1]),some (.cells [.int .i64 s.1,.int .i64 s.2,.slice 3 0 s.3.length 1,.int .i64 (s.4+1),.int .i64 1,.int .i64 (n+4+x.2),.int .u64 (aE s.3 (n+4+x.2)),.int .u64 (aE s.3 (n+4+x.2)),.bool (bT s.3 (n+4+x.2))]),some (.ints (some .u64) s.3),some (.ints (some .i64) R),some (.cells [.int .i64 t,.int .i64 n,.int .i64 x.1,.int .i64 (cZ n x.2),.int .i64 (x.3 - 1),.int .u64 (aE s.3 (n+4+x.2)),.bool false]),some (.cells [.ptr 1 0,.raw (Value.pointer none)])]else K (.bool false) [some (.cells [.ptr 1 0,.bool sh,.ptr 5 0,.raw (Value.pointer none),.bool dn]),some (.cells [.int .i64 t,.int .i64 n,.int .i64 me,.int .i64 sp,.slice 4 0 R.length 1]),some (.cells [.int .i64 s.1,.int .i64 s.2,.slice 3 0 s.3.length 1,.int .i64 (s.4+1),.int .i64 1,.int .i64 (n+4+x.2),.int .u64 (aE s.3 (n+4+x.2)),.int .u64 (aE s.3 (n+4+x.2)),.bool (bT s.3 (n+4+x.2))]),some (.ints (some .u64) s.3),some (.ints (some .i64) R),some (.cells [.int .i64 t,.int .i64 n,.int .i64 x.1,.int .i64 x.2,.int .i64 x.3,.int .u64 (aE s.3 (n+4+x.2)),.bool true])]):cT' 154 [.ptr 0 0,.ptr 2 0] [some (.cells [.ptr 1 0,.bool sh,.ptr 5 0,.raw (.pointer none),.bool dn]),some (.cells [.int .i64 t,.int .i64 n,.int .i64 me,.int .i64 sp,.slice 4 0 R.length 1]),bE 3 s,bF s,some (.ints (some .i64) R),XI t n x] K:=by
 refine aGK (cM' (E:=E42) (by kernel_rfl) hK)
theorem aFn(t n me sp:Int)(R:List Int)(sh dn:Bool)(x:AL)(y:SWS)(s:MS)(K:AVal→aC Ob→Prop)(hK:((lE' s.3∧lE' R)∧((1:Int)≤t∧t≤(1000:Int))∧((1:Int)≤n∧n≤(1000:Int))∧((0:Int)≤s.4∧s.4≤(1000000:Int))∧R.length≤(1000000:Nat))∧K (.bool false) [some (.cells [.ptr 1 0,.bool sh,.ptr 5 0,.ptr 6 0,.bool dn]),some (.cells [.int .i64 t,.int .i64 n,.int .i64 me,.int .i64 sp,.slice 4 0 R.length 1]),some (.cells [.int .i64 s.1,.int .i64 s.2,.slice 3 0 s.3.length 1,.int .i64 (s.4+1),.int .i64 1,.int .i64 (bX n 0),.int .u64 (aE s.3 (bX n 0)),.int .u64 (aE s.3 (bX n 0)),.bool (bT s.3 (bX n 0))]),some (.ints (some .u64) s.3),some (.ints (some .i64) R),some (.cells [.int .i64 t,.int .i64 n,.int .i64 x.1,.int .i64 x.2,.int .i64 x.3,.int .u64 x.4,.bool x.5]),some (.cells [.ptr 1 0,.ptr 7 0]),some (.cells [.int .i64 t,.int .i64 n,.raw (Value.slice none 0 0),.raw (Value.slice none 0 0),.slice 8 0 R.length 1,.map 9,.int .i64 1,.raw (Value.pointer none)]),some (.ints (some .i64) R),some (.imap .i64 none (bB [] n 0 s))]):cT' 154 [.ptr 0 0,.ptr 2 0] [some (.cells [.ptr 1 0,.bool sh,.ptr 5 0,.ptr 6 0,.bool dn]),some (.cells [.int .i64 t,.int .i64 n,.int .i64 me,.int .i64 sp,.slice 4 0 R.length 1]),bE 3 s,bF s,some (.ints (some .i64) R),XI t n x,some (.cells [.ptr 1 0,.raw (.pointer none)])] K:=by
 refine aGK (cM' (E:=E42) (by kernel_rfl) hK)
theorem aFo(t n me sp:Int)(R:List Int)(sh dn:Bool)(x:AL)(y:SWS)(s:MS)(K:AVal→aC Ob→Prop)(hK:((lE' s.3∧lE' R∧lE' y.2∧t=t∧n=n)∧((1:Int)≤t∧t≤(1000:Int))∧((1:Int)≤n∧n≤(1000:Int))∧((0:Int)≤s.4∧s.4≤(1000000:Int))∧y.2.length≤(1000000:Nat)∧(0:Int)≤y.4∧y.4<(2:Int)*t)∧bif ieq (y.4+1) (2*t)then bif ieq (↑(List.length (bA (bB y.3 n y.4 s) y.2)):Int) 0 then K (.bool (ieq (↑(List.length (bA (bB y.3 n y.4 s) y.2)):Int) 0)) [some (.cells [.ptr 1 0,.bool (ieq (↑(List.length (bA (bB y.3 n y.4 s) y.2)):Int) 0),.raw (Value.pointer none),.raw (Value.pointer none),.bool true]),some (.cells [.int .i64 t,.int .i64 n,.int .i64 me,.int .i64 sp,.slice 10 0 (List.length (cJ (bB y.3 n y.4 s) y.2)) 1]),some (.cells [.int .i64 s.1,.int .i64 s.2,.slice 3 0 s.3.length 1,.int .i64 (s.4+1),.int .i64 1,.int .i64 (bX n y.4),.int .u64 (aE s.3 (bX n y.4)),.int .u64 (aE s.3 (bX n y.4)),.bool (bT s.3 (bX n y.4))]),some (.ints (some .u64) s.3),some (.ints (some .i64) R),some (.cells [.int .i64 t,.int .i64 n,.int .i64 x.1,.int .i64 x.2,.int .i64 x.3,.int .u64 x.4,.bool x.5]),some (.cells [.ptr 1 0,.ptr 7 0]),some (.cells [.int .i64 t,.int .i64 n,.slice 10 0 (List.length (cJ (bB y.3 n y.4 s) y.2)) 1,.slice 11 0 (List.length (bA (bB y.3 n y.4 s) y.2)) 1,.slice 8 0 y.2.length 1,.map 9,.int .i64 (y.4+1),.ptr 12 0]),some (.ints (some .i64) y.2),some (.imap .i64 none (bB y.3 n y.4 s)),some (.ints (some .i64) (cJ (bB y.3 n y.4 s) y.2)),some (.ints (some .i64) (bA (bB y.3 n y.4 s) y.2)),some (.cells [.int .i64 t,.int .i64 n,.slice 13 0 (List.length (bA (bB y.3 n y.4 s) y.2)) 1]),some (.ints (some .i64) (bA (bB y.3 n y.4 s) y.2))]else K (.bool false) [some (.cells [.ptr 1 0,.bool sh,.ptr 5 0,.ptr 6 0,.bool dn]),some (.cells [.int .i64 t,.int .i64 n,.int .i64 me,.int .i64 sp,.slice 4 0 R.length 1]),some (.cells [.int .i64 s.1,.int .i64 s.2,.slice 3 0 s.3.length 1,.int .i64 (s.4+1),.int .i64 1,.int .i64 (bX n y.4),.int .u64 (aE s.3 (bX n y.4)),.int .u64 (aE s.3 (bX n y.4)),.bool (bT s.3 (bX n y.4))]),some (.ints (some .u64) s.3),some (.ints (some .i64) R),some (.cells [.int .i64 t,.int .i64 n,.int .i64 x.1,.int .i64 x.2,.int .i64 x.3,.int .u64 x.4,.bool x.5]),some (.cells [.ptr 1 0,.ptr 7 0]),some (.cells [.int .i64 t,.int .i64 n,.slice 10 0 (List.length (cJ (bB y.3 n y.4 s) y.2)) 1,.slice 11 0 (List.length (bA (bB y.3 n y.4 s) y.2)) 1,.slice 8 0 y.2.length 1,.map 9,.int .i64 (y.4+1),.ptr 12 0]),some (.ints (some .i64) y.2),some (.imap .i64 none (bB y.3 n y.4 s)),some (.ints (some .i64) (cJ (bB y.3 n y.4 s) y.2)),some (.ints (some .i64) (bA (bB y.3 n y.4 s) y.2)),some (.cells [.int .i64 t,.int .i64 n,.slice 13 0 (List.length (bA (bB y.3 n y.4 s) y.2)) 1]),some (.ints (some .i64) (bA (bB y.3 n y.4 s) y.2))]else K (.bool false) [some (.cells [.ptr 1 0,.bool sh,.ptr 5 0,.ptr 6 0,.bool dn]),some (.cells [.int .i64 t,.int .i64 n,.int .i64 me,.int .i64 sp,.slice 4 0 R.length 1]),some (.cells [.int .i64 s.1,.int .i64 s.2,.slice 3 0 s.3.length 1,.int .i64 (s.4+1),.int .i64 1,.int .i64 (bX n y.4),.int .u64 (aE s.3 (bX n y.4)),.int .u64 (aE s.3 (bX n y.4)),.bool (bT s.3 (bX n y.4))]),some (.ints (some .u64) s.3),some (.ints (some .i64) R),some (.cells [.int .i64 t,.int .i64 n,.int .i64 x.1,.int .i64 x.2,.int .i64 x.3,.int .u64 x.4,.bool x.5]),some (.cells [.ptr 1 0,.ptr 7 0]),some (.cells [.int .i64 t,.int .i64 n,.raw (Value.slice none 0 0),.raw (Value.slice none 0 0),.slice 8 0 y.2.length 1,.map 9,.int .i64 (y.4+1),.raw (Value.pointer none)]),some (.ints (some .i64) y.2),some (.imap .i64 none (bB y.3 n y.4 s))]):cT' 154 [.ptr 0 0,.ptr 2 0] [some (.cells [.ptr 1 0,.bool sh,.ptr 5 0,.ptr 6 0,.bool dn]),some (.cells [.int .i64 t,.int .i64 n,.int .i64 me,.int .i64 sp,.slice 4 0 R.length 1]),bE 3 s,bF s,some (.ints (some .i64) R),XI t n x,some (.cells [.ptr 1 0,.ptr 7 0]),some (.cells [.int .i64 t,.int .i64 n,.raw (.slice none 0 0),.raw (.slice none 0 0),.slice 8 0 y.N.length 1,.map 9,.int .i64 y.i,.raw (.pointer none)]),some (.ints (some .i64) y.N),some (.imap .i64 none y.m)] K:=by
 refine aGK (cM' (E:=E42) (by kernel_rfl) hK)
theorem aFp(t n me sp:Int)(R:List Int)(sh dn:Bool)(x:AL)(y:SWS)(s:MS)(K:AVal→aC Ob→Prop)(hK:((lE' s.3∧lE' R∧lE' y.5∧lE' y.6∧lE' y.2∧t=t∧n=n∧t=t∧n=n)∧((1:Int)≤t∧t≤(1000:Int))∧((1:Int)≤n∧n≤(1000:Int))∧((0:Int)≤s.4∧s.4≤(1000000:Int))∧2*t≤y.4∧((1:Nat)≤y.9∧y.7.length=y.8+y.9)∧(-1000000:Int)≤List.getD y.7 (y.8+Int.toNat 0*1) 0∧List.getD y.7 (y.8+Int.toNat 0*1) (0:Int)≤(1000000:Int))∧bif ieq (↑(y.9 - 1):Int) 0 then K (.bool (ieq (↑y.6.length:Int) 0)) [some (.cells [.ptr 1 0,.bool (ieq (↑y.6.length:Int) 0),.raw (Value.pointer none),.raw (Value.pointer none),.bool true]),some (.cells [.int .i64 t,.int .i64 n,.int .i64 me,.int .i64 sp,.slice 8 0 y.5.length 1]),some (.cells [.int .i64 s.1,.int .i64 s.2,.slice 3 0 (List.length (aY s.3 (b8 n y.7 y.8) (WU (aE s.3 (b8 n y.7 y.8)+1)))) 1,.int .i64 (s.4+1),.int .i64 4,.int .i64 (b8 n y.7 y.8),.int .u64 (aE s.3 (b8 n y.7 y.8)),.int .u64 (bif bT s.3 (b8 n y.7 y.8)then WU (aE s.3 (b8 n y.7 y.8)+1)else 0),.bool (bT s.3 (b8 n y.7 y.8))]),some (.ints (some .u64) (aY s.3 (b8 n y.7 y.8) (WU (aE s.3 (b8 n y.7 y.8)+1)))),some (.ints (some .i64) R),some (.cells [.int .i64 t,.int .i64 n,.int .i64 x.1,.int .i64 x.2,.int .i64 x.3,.int .u64 x.4,.bool x.5]),some (.cells [.ptr 1 0,.ptr 7 0]),some (.cells [.int .i64 t,.int .i64 n,.slice 8 0 y.5.length 1,.slice 9 0 y.6.length 1,.slice 10 0 y.2.length 1,.map 11,.int .i64 y.4,.ptr 12 0]),some (.ints (some .i64) y.5),some (.ints (some .i64) y.6),some (.ints (some .i64) y.2),some (.imap .i64 none y.3),some (.cells [.int .i64 t,.int .i64 n,.slice 13 (y.8+1) (y.9 - 1) 1]),some (.ints (some .i64) y.7)]else K (.bool false) [some (.cells [.ptr 1 0,.bool sh,.ptr 5 0,.ptr 6 0,.bool dn]),some (.cells [.int .i64 t,.int .i64 n,.int .i64 me,.int .i64 sp,.slice 4 0 R.length 1]),some (.cells [.int .i64 s.1,.int .i64 s.2,.slice 3 0 (List.length (aY s.3 (b8 n y.7 y.8) (WU (aE s.3 (b8 n y.7 y.8)+1)))) 1,.int .i64 (s.4+1),.int .i64 4,.int .i64 (b8 n y.7 y.8),.int .u64 (aE s.3 (b8 n y.7 y.8)),.int .u64 (bif bT s.3 (b8 n y.7 y.8)then WU (aE s.3 (b8 n y.7 y.8)+1)else 0),.bool (bT s.3 (b8 n y.7 y.8))]),some (.ints (some .u64) (aY s.3 (b8 n y.7 y.8) (WU (aE s.3 (b8 n y.7 y.8)+1)))),some (.ints (some .i64) R),some (.cells [.int .i64 t,.int .i64 n,.int .i64 x.1,.int .i64 x.2,.int .i64 x.3,.int .u64 x.4,.bool x.5]),some (.cells [.ptr 1 0,.ptr 7 0]),some (.cells [.int .i64 t,.int .i64 n,.slice 8 0 y.5.length 1,.slice 9 0 y.6.length 1,.slice 10 0 y.2.length 1,.map 11,.int .i64 y.4,.ptr 12 0]),some (.ints (some .i64) y.5),some (.ints (some .i64) y.6),some (.ints (some .i64) y.2),some (.imap .i64 none y.3),some (.cells [.int .i64 t,.int .i64 n,.slice 13 (y.8+1) (y.9 - 1) 1]),some (.ints (some .i64) y.7)]):cT' 154 [.ptr 0 0,.ptr 2 0] [some (.cells [.ptr 1 0,.bool sh,.ptr 5 0,.ptr 6 0,.bool dn]),some (.cells [.int .i64 t,.int .i64 n,.int .i64 me,.int .i64 sp,.slice 4 0 R.length 1]),bE 3 s,bF s,some (.ints (some .i64) R),XI t n x,some (.cells [.ptr 1 0,.ptr 7 0]),some (.cells [.int .i64 t,.int .i64 n,.slice 8 0 y.ks.length 1,.slice 9 0 y.fs.length 1,.slice 10 0 y.N.length 1,.map 11,.int .i64 y.i,.ptr 12 0]),some (.ints (some .i64) y.ks),some (.ints (some .i64) y.fs),some (.ints (some .i64) y.N),some (.imap .i64 none y.m),some (.cells [.int .i64 t,.int .i64 n,.slice 13 y.j y.l 1]),some (.ints (some .i64) y.gs)] K:=by
 refine aGK (cM' (E:=E42) (by kernel_rfl) hK)
theorem en2(t n:Int)(e:ENS)(st:STS)(s:MS)(K:AVal→aC Ob→Prop)(hp:e.ph=2)(ok:J1 t n e st s)(hK:(enF t n e st s).left t n K):cT' 154 [.ptr 0 0,.ptr 2 0] (TG t n e st s) K:=by
 obtain⟨ht,hn,hc,hm,hR,ho⟩:=ok;obtain⟨ph,sh,dn,x,y⟩:=e;dsimp only at hp;subst hp;obtain⟨me,sp,R⟩:=st;dsimp only at hm hR;refine aB.pack tbl (aB.pack tbl ?_);refine aB.unpack tbl (.store t n ⟨me,sp,R⟩) 1 0 (dL t n ⟨me,sp,R⟩) [] rfl rfl rfl rfl ?_;refine aB.unpack tbl (.ensure t n ⟨2,sh,dn,x,y⟩) 0 1 (DD t n ⟨2,sh,dn,x,y⟩) [1] rfl rfl rfl rfl ?_;refine aFn t n me sp R sh dn x y s _ ?_;exact⟨⟨⟨rfl,rfl⟩,ht,hn,hc,hR⟩,gN (o:=enF t n ⟨2,sh,dn,x,y⟩ ⟨me,sp,R⟩ s) [0,1,2,3,4,5,6,7,8,9] hK rfl rfl⟩
theorem en3(t n:Int)(e:ENS)(st:STS)(s:MS)(K:AVal→aC Ob→Prop)(hp:e.ph=3)(ok:J1 t n e st s)(hK:(enF t n e st s).left t n K):cT' 154 [.ptr 0 0,.ptr 2 0] (TG t n e st s) K:=by
 obtain⟨ht,hn,hc,hm,hR,ho⟩:=ok;obtain⟨ph,sh,dn,x,y⟩:=e;dsimp only at hp;subst hp;obtain⟨me,sp,R⟩:=st;dsimp only at hm hR;refine aB.pack tbl (aB.pack tbl ?_);refine aB.unpack tbl (.store t n ⟨me,sp,R⟩) 1 0 (dL t n ⟨me,sp,R⟩) [] rfl rfl rfl rfl ?_;refine aB.unpack tbl (.ensure t n ⟨3,sh,dn,x,y⟩) 0 1 (DD t n ⟨3,sh,dn,x,y⟩) [1] rfl rfl rfl rfl ?_;refine aFo t n me sp R sh dn x y s _ ?_;have ho:y.N.length≤1000000∧0≤y.i∧y.i<2*t:=ho;refine⟨⟨⟨rfl,rfl,rfl,rfl,rfl⟩,ht,hn,hc,ho.1,ho.2⟩,?_⟩;unfold enF at hK;dsimp only at hK;cases h1:ieq (y.i+1) (2*t)with
 | false=>
   rw [h1]at hK;exact gN (o:=⟨false,⟨3,sh,dn,x,{y with m:=bB y.m n y.i s,i:=y.i+1}⟩,⟨me,sp,R⟩,s.loadd (bX n y.i)⟩) [0,1,2,3,4,5,6,7,8,9] hK rfl rfl
 | true=>
   rw [h1]at hK;cases h2:ieq ((bA (bB y.m n y.i s) y.N).length :Int) 0 with
   | true=>
     rw [h2]at hK;exact gN (o:=⟨true,⟨0,true,true,x,y⟩,⟨me,sp,cJ (bB y.m n y.i s) y.N⟩,s.loadd (bX n y.i)⟩) [0,1,2,3,10] hK rfl rfl
   | false=>
     rw [h2]at hK;exact gN (o:=⟨false,⟨4,sh,dn,x,⟨0,y.N,bB y.m n y.i s,y.i+1,cJ (bB y.m n y.i s) y.N,bA (bB y.m n y.i s) y.N,bA (bB y.m n y.i s) y.N,0,(bA (bB y.m n y.i s) y.N).length⟩⟩,⟨me,sp,R⟩,s.loadd (bX n y.i)⟩) [0,1,2,3,4,5,6,7,10,11,8,9,12,13] hK rfl rfl
theorem en4(t n:Int)(e:ENS)(st:STS)(s:MS)(K:AVal→aC Ob→Prop)(hp:e.ph=4)(ok:J1 t n e st s)(hK:(enF t n e st s).left t n K):cT' 154 [.ptr 0 0,.ptr 2 0] (TG t n e st s) K:=by
 obtain⟨ht,hn,hc,hm,hR,ho⟩:=ok;obtain⟨ph,sh,dn,x,y⟩:=e;dsimp only at hp;subst hp;obtain⟨me,sp,R⟩:=st;dsimp only at hm hR;refine aB.pack tbl (aB.pack tbl ?_);refine aB.unpack tbl (.store t n ⟨me,sp,R⟩) 1 0 (dL t n ⟨me,sp,R⟩) [] rfl rfl rfl rfl ?_;refine aB.unpack tbl (.ensure t n ⟨4,sh,dn,x,y⟩) 0 1 (DD t n ⟨4,sh,dn,x,y⟩) [1] rfl rfl rfl rfl ?_;refine aFp t n me sp R sh dn x y s _ ?_;have ho:2*t≤y.i∧1≤y.l∧y.gs.length=y.j+y.l∧ -1000000≤List.getD y.gs (y.j+Int.toNat 0*1) 0∧List.getD y.gs (y.j+Int.toNat 0*1) 0≤1000000:=ho;refine⟨⟨⟨rfl,rfl,rfl,rfl,rfl,rfl,rfl,rfl,rfl⟩,ht,hn,hc,ho.1,⟨ho.2.1,ho.2.2.1⟩,ho.2.2.2⟩,?_⟩;unfold enF at hK;dsimp only at hK;cases h1:ieq ((y.l - 1:Nat):Int) 0 with
 | false=>
   rw [h1]at hK;exact gN (o:=⟨false,⟨4,sh,dn,x,{y with j:=y.j+1,l:=y.l - 1}⟩,⟨me,sp,R⟩,s.added (b8 n y.gs y.j) 1⟩) [0,1,2,3,4,5,6,7,8,9,10,11,12,13] hK rfl rfl
 | true=>
   rw [h1]at hK;exact gN (o:=⟨ieq (y.fs.length:Int) 0,⟨0,ieq (y.fs.length:Int) 0,true,x,y⟩,⟨me,sp,y.ks⟩,s.added (b8 n y.gs y.j) 1⟩) [0,1,2,3,8] hK rfl rfl
theorem en1(t n:Int)(e:ENS)(st:STS)(s:MS)(K:AVal→aC Ob→Prop)(hp:e.ph=1)(ok:J1 t n e st s)(hK:(enF t n e st s).left t n K):cT' 154 [.ptr 0 0,.ptr 2 0] (TG t n e st s) K:=by
 obtain⟨ht,hn,hc,hm,hR,ho⟩:=ok;obtain⟨ph,sh,dn,x,y⟩:=e;dsimp only at hp;subst hp;obtain⟨me,sp,R⟩:=st;dsimp only at hm hR;refine aB.pack tbl (aB.pack tbl ?_);refine aB.unpack tbl (.store t n ⟨me,sp,R⟩) 1 0 (dL t n ⟨me,sp,R⟩) [] rfl rfl rfl rfl ?_;refine aB.unpack tbl (.ensure t n ⟨1,sh,dn,x,y⟩) 0 1 (DD t n ⟨1,sh,dn,x,y⟩) [1] rfl rfl rfl rfl ?_;refine aFm t n me sp R sh dn x y s _ ?_;have ho:okAl n x:=ho;obtain⟨hg,ha,hl⟩:=ho;refine⟨⟨rfl,ht,hn,ha,hl,hc⟩,?_⟩;obtain⟨got,at',left,found,free⟩:=x;dsimp only at hg ha hl⊢;subst hg;have i0:ieq at' 0=false:=by rw [cX];simp;omega
 have i00:ieq 0 0=true:=rfl;rw [i0,i00];unfold enF rM IQ at hK;dsimp only at hK;cases free with
 | false=>
   dsimp only [cond]at hK⊢;cases ho:oddB (aE s.xs (n+4+at'))with
   | false=>
     rw [ho]at hK;exact gN (o:=⟨false,⟨1,sh,dn,⟨0,at',left,aE s.xs (n+4+at'),true⟩,y⟩,⟨me,sp,R⟩,s.loadd (n+4+at')⟩) [0,1,2,3,4,5] hK rfl rfl
   | true=>
     rw [ho]at hK;dsimp only [cond]at hK⊢;cases hw:ile (left - 1) 0 with
     | false=>
       rw [hw]at hK;exact gN (o:=⟨false,⟨1,sh,dn,⟨0,cZ n at',left - 1,aE s.xs (n+4+at'),false⟩,y⟩,⟨me,sp,R⟩,s.loadd (n+4+at')⟩) [0,1,2,3,4,5] hK rfl rfl
     | true=>
       rw [hw]at hK;cases dn with
       | true=>exact gN (o:=⟨true,⟨2,true,true,⟨0,cZ n at',left - 1,aE s.xs (n+4+at'),false⟩,y⟩,⟨me,0,R⟩,s.loadd (n+4+at')⟩) [0,1,2,3,4,5,6] hK rfl rfl
       | false=>exact gN (o:=⟨ieq (R.length:Int) 0,⟨2,ieq (R.length:Int) 0,false,⟨0,cZ n at',left - 1,aE s.xs (n+4+at'),false⟩,y⟩,⟨me,0,R⟩,s.loadd (n+4+at')⟩) [0,1,2,3,4,5,6] hK rfl rfl
 | true=>
   dsimp only [cond]at hK⊢;unfold MS.cased at hK;cases hb:aW s.xs (n+4+at') found with
   | true=>
     rw [hb]at hK;exact gN (o:=⟨true,⟨1,sh,dn,⟨at',at',left,found,true⟩,y⟩,⟨me,at',R⟩,_⟩) [0,1,2,3,4,5] hK rfl rfl
   | false=>
     rw [hb]at hK;dsimp only [cond]at hK⊢;cases hw:ile (left - 1) 0 with
     | false=>
       rw [hw]at hK;exact gN (o:=⟨false,⟨1,sh,dn,⟨0,cZ n at',left - 1,found,false⟩,y⟩,⟨me,sp,R⟩,_⟩) [0,1,2,3,4,5] hK rfl rfl
     | true=>
       rw [hw]at hK;cases dn with
       | true=>exact gN (o:=⟨true,⟨2,true,true,⟨0,cZ n at',left - 1,found,false⟩,y⟩,⟨me,0,R⟩,_⟩) [0,1,2,3,4,5,6] hK rfl rfl
       | false=>exact gN (o:=⟨ieq (R.length:Int) 0,⟨2,ieq (R.length:Int) 0,false,⟨0,cZ n at',left - 1,found,false⟩,y⟩,⟨me,0,R⟩,_⟩) [0,1,2,3,4,5,6] hK rfl rfl
theorem en0(t n:Int)(e:ENS)(st:STS)(s:MS)(K:AVal→aC Ob→Prop)(hp:e.ph=0)(ok:J1 t n e st s)(hK:(enF t n e st s).left t n K):cT' 154 [.ptr 0 0,.ptr 2 0] (TG t n e st s) K:=by
 obtain⟨ht,hn,hc,hm,hR,ho⟩:=ok;obtain⟨ph,sh,dn,x,y⟩:=e;dsimp only at hp;subst hp;obtain⟨me,sp,R⟩:=st;dsimp only at hm hR;refine aB.pack tbl (aB.pack tbl ?_);refine aB.unpack tbl (.store t n ⟨me,sp,R⟩) 1 0 (dL t n ⟨me,sp,R⟩) [] rfl rfl rfl rfl ?_;refine aB.unpack tbl (.ensure t n ⟨0,sh,dn,x,y⟩) 0 1 (DD t n ⟨0,sh,dn,x,y⟩) [1] rfl rfl rfl rfl ?_;refine aFl t n me sp R sh dn x y s _ ?_;unfold enF rM IQ at hK;dsimp only at hK;cases hz:ieq sp 0 with
 | false=>
   rw [hz]at hK;exact⟨⟨rfl,by omega⟩,gN (o:=⟨true,⟨0,sh,dn,x,y⟩,⟨me,sp,R⟩,s.loadd 0⟩) [0,1,2,3,4] hK rfl rfl⟩
 | true=>
   rw [hz]at hK
   have ha:1≤at0 t n me∧at0 t n me≤n:=by
    unfold at0 bW;cases h1:(ile 1 (aQ t n me))<;>cases h2:ile (aQ t n me) n<;>simp only [Bool.and_true,Bool.and_false,Bool.and_self,cond_true,cond_false]<;>rw [cC]at h1 h2<;>simp at h1 h2<;>omega
   refine⟨⟨by omega,by omega⟩,⟨trivial,trivial⟩,⟨rfl,ht,hn,ha,by omega,hc⟩,?_⟩
   show cond (oddB (aE s.xs (n+4+at0 t n me))) _ _;cases ho:oddB (aE s.xs (n+4+at0 t n me))with
   | false=>
     rw [ho]at hK;exact gN (o:=⟨false,⟨1,sh,dn,⟨0,at0 t n me,n,aE s.xs (n+4+at0 t n me),true⟩,y⟩,⟨me,sp,R⟩,s.loadd (n+4+at0 t n me)⟩) [0,1,2,3,4,5] hK rfl rfl
   | true=>
     rw [ho]at hK;dsimp only [cond]at hK⊢;cases hw:ile (n - 1) 0 with
     | false=>
       rw [hw]at hK;exact gN (o:=⟨false,⟨1,sh,dn,⟨0,cZ n (at0 t n me),n - 1,aE s.xs (n+4+at0 t n me),false⟩,y⟩,⟨me,sp,R⟩,s.loadd (n+4+at0 t n me)⟩) [0,1,2,3,4,5] hK rfl rfl
     | true=>
       rw [hw]at hK;cases dn with
       | true=>exact gN (o:=⟨true,⟨2,true,true,⟨0,cZ n (at0 t n me),n - 1,aE s.xs (n+4+at0 t n me),false⟩,y⟩,⟨me,0,R⟩,s.loadd (n+4+at0 t n me)⟩) [0,1,2,3,4,5,6] hK rfl rfl
       | false=>exact gN (o:=⟨ieq (R.length:Int) 0,⟨2,ieq (R.length:Int) 0,false,⟨0,cZ n (at0 t n me),n - 1,aE s.xs (n+4+at0 t n me),false⟩,y⟩,⟨me,0,R⟩,s.loadd (n+4+at0 t n me)⟩) [0,1,2,3,4,5,6] hK rfl rfl
theorem GN(t n:Int)(e:ENS)(st:STS)(s:MS)(K:AVal→aC Ob→Prop)(ok:J1 t n e st s)(hK:(enF t n e st s).left t n K):cT' 154 [.ptr 0 0,.ptr 2 0] (TG t n e st s) K:=by
 match h:e.ph with
 | 0=>exact en0 t n e st s K h ok hK
 | 1=>exact en1 t n e st s K h ok hK
 | 2=>exact en2 t n e st s K h ok hK
 | 3=>exact en3 t n e st s K h ok hK
 | 4=>exact en4 t n e st s K h ok hK
 | k+5=>have:=ok.ho;unfold aEu at this;rw [h]at this;exact this.elim
noncomputable def enS:aI Ob:=fun args h=>match args,h with
 | [.ptr 0 0,.ptr 2 0],[some (.abs (.ensure t n e) [1]),some (.abs (.store t' n' st) []),e1,e2]=>(match cO 3 [e1,e2]with
   | some (l,s)=>some (.pre ((l=s.xs.length∧t'=t∧n'=n)∧J1 t n e st s) (.ret (.bool (enF t n e st s).d) (TG t n (enF t n e st s).e (enF t n e st s).st (enF t n e st s).s)))
   | none=>none)
 | _,_=>none
theorem aDC:aI.ok E42.I Tryz.prog 154 enS:=by
 intro args h o ho K hK;unfold enS at ho;split at ho
 case h_2=>cases ho
 split at ho<;>cases ho
 rename_i hm;obtain⟨⟨⟨hl,ht',hn'⟩,ok⟩,hK⟩:=hK;have hh:=bD hm hl;cases hh;subst ht' hn';exact GN _ _ _ _ _ K ok hK
noncomputable def enE:=E42.addS 154 enS aDC
structure SO where
 d:Bool
 e:SWS
 st:STS
 s:MS
instance:Inhabited SO:=⟨⟨false,bN,⟨0,0,[]⟩,⟨0,0,[],0,0,0,0,0,false⟩⟩⟩
def swF(t n:Int)(y:SWS)(st:STS)(s:MS):SO:=match y.ph with
 | 0=>⟨false,{y with ph:=1,N:=st.R,m:=bB [] n 0 s,i:=1},st,s.loadd (bX n 0)⟩
 | 1=>(match ieq (y.i+1) (2*t),ieq ((bA (bB y.m n y.i s) y.N).length :Int) 0 with
   | true,true=>⟨true,{y with ph:=3},{st with R:=cJ (bB y.m n y.i s) y.N},s.loadd (bX n y.i)⟩
   | true,false=>⟨false,⟨2,y.N,bB y.m n y.i s,y.i+1,cJ (bB y.m n y.i s) y.N,bA (bB y.m n y.i s) y.N,bA (bB y.m n y.i s) y.N,0,(bA (bB y.m n y.i s) y.N).length⟩,st,s.loadd (bX n y.i)⟩
   | false,_=>⟨false,{y with m:=bB y.m n y.i s,i:=y.i+1},st,s.loadd (bX n y.i)⟩)
 | _=>(match ieq ((y.l - 1:Nat):Int) 0 with
   | true=>⟨true,{y with ph:=3},{st with R:=y.ks},s.added (b8 n y.gs y.j) 1⟩
   | false=>⟨false,{y with j:=y.j+1,l:=y.l - 1},st,s.added (b8 n y.gs y.j) 1⟩)
def YA(t n:Int)(y:SWS):Prop:=match y.ph with
 | 0=>True
 | 1=>y.N.length≤1000000∧0≤y.i∧y.i<2*t
 | 2=>2*t≤y.i∧1≤y.l∧y.gs.length=y.j+y.l∧ -1000000≤List.getD y.gs (y.j+Int.toNat 0*1) 0∧List.getD y.gs (y.j+Int.toNat 0*1) 0≤1000000
 | _=>False
structure qL (t n:Int) (y:SWS) (st:STS) (s:MS):Prop where
 ht:1≤t∧t≤1000
 hn:1≤n∧n≤1000
 hc:0≤s.c∧s.c≤1000000
 hR:st.R.length≤1000000
 ho:YA t n y
def swH(t n:Int)(y:SWS)(st:STS)(s:MS):aC Ob:=[some (.abs (.sweep t n y) [1]),some (.abs (.store t n st) []),bE 3 s,bF s]
def SO.left(o:SO)(t n:Int)(K:AVal→aC Ob→Prop):Prop:=K (.bool o.d) (swH t n o.e o.st o.s)
theorem xC{K:AVal→aC Ob→Prop}{t n:Int}{o:SO}{g':aC Ob}(pl:List Nat)(hK:o.left t n K)
 (hb:(dZ pl g'.length&&i9 pl 0 4&&obOk 1 (KR t n o.e))=true)
 (hT:gQ pl g'=aM [some (.abs (.sweep t n o.e) [1]),some (.cells [.int .i64 t,.int .i64 n,.int .i64 o.st.me,.int .i64 o.st.sp,.slice 4 0 o.st.R.length 1]),bE 3 o.s,bF o.s,some (.ints (some .i64) o.st.R)] 0 1 (KR t n o.e) [1]):zD tbl 4 (zD tbl 4 K) (.bool o.d) g':=by
 simp only [Bool.and_eq_true]at hb;obtain⟨⟨b1,b2⟩,b3⟩:=hb;refine⟨pl,_,.sweep t n o.e,0,1,_,[1],?_,hT,rfl,rfl,⟨[0,1,2,3,4],[some (.abs (.sweep t n o.e) [1]),some (.abs (.store t n o.st) []),bE 3 o.s,bF o.s],.store t n o.st,1,0,dL t n o.st,[],rfl,rfl,rfl,rfl,?_⟩⟩
 ·rw [b1,b2,b3];rfl
 ·exact hK
def P4(t n me sp:Int)(R:List Int)(y:SWS)(s:MS)(K:AVal→aC Ob→Prop):Prop:=((lE' s.3∧lE' R)∧((1:Int)≤t∧t≤(1000:Int))∧((1:Int)≤n∧n≤(1000:Int))∧((0:Int)≤s.4∧s.4≤(1000000:Int))∧R.length≤(1000000:Nat))∧K (.bool false) [some (.cells [.ptr 1 0,.ptr 5 0]),some (.cells [.int .i64 t,.int .i64 n,.int .i64 me,.int .i64 sp,.slice 4 0 R.length 1]),some (.cells [.int .i64 s.1,.int .i64 s.2,.slice 3 0 s.3.length 1,.int .i64 (s.4+1),.int .i64 1,.int .i64 (bX n 0),.int .u64 (aE s.3 (bX n 0)),.int .u64 (aE s.3 (bX n 0)),.bool (bT s.3 (bX n 0))]),some (.ints (some .u64) s.3),some (.ints (some .i64) R),some (.cells [.int .i64 t,.int .i64 n,.raw (Value.slice none 0 0),.raw (Value.slice none 0 0),.slice 6 0 R.length 1,.map 7,.int .i64 1,.raw (Value.pointer none)]),some (.ints (some .i64) R),some (.imap .i64 none (bB [] n 0 s))]
theorem aFF(t n me sp:Int)(R:List Int)(y:SWS)(s:MS)(K:AVal→aC Ob→Prop)(hK:P4 t n me sp R y s K):cT' 169 [.ptr 0 0,.ptr 2 0] [some (.cells [.ptr 1 0,.raw (.pointer none)]),some (.cells [.int .i64 t,.int .i64 n,.int .i64 me,.int .i64 sp,.slice 4 0 R.length 1]),bE 3 s,bF s,some (.ints (some .i64) R)] K:=
 (jK oH) _ _ _ (Ev.get (aJ (p:=mU swStepS [.ptr 0 0,.ptr 2 0] [some (.cells [.ptr 1 0,.raw (.pointer none)]),some (.cells [.int .i64 t,.int .i64 n,.int .i64 me,.int .i64 sp,.slice 4 0 R.length 1]),bE 3 s,bF s,some (.ints (some .i64) R)] K) (q:=P4 t n me sp R y s K) (by kernel_rfl) hK))
def P5(t n me sp:Int)(R:List Int)(y:SWS)(s:MS)(K:AVal→aC Ob→Prop):Prop:=((lE' s.3∧lE' R∧lE' y.2∧t=t∧n=n)∧((1:Int)≤t∧t≤(1000:Int))∧((1:Int)≤n∧n≤(1000:Int))∧((0:Int)≤s.4∧s.4≤(1000000:Int))∧y.2.length≤(1000000:Nat)∧(0:Int)≤y.4∧y.4<(2:Int)*t)∧bif ieq (y.4+1) (2*t)then bif ieq (↑(List.length (bA (bB y.3 n y.4 s) y.2)):Int) 0 then K (.bool true) [some (.cells [.ptr 1 0,.ptr 5 0]),some (.cells [.int .i64 t,.int .i64 n,.int .i64 me,.int .i64 sp,.slice 8 0 (List.length (cJ (bB y.3 n y.4 s) y.2)) 1]),some (.cells [.int .i64 s.1,.int .i64 s.2,.slice 3 0 s.3.length 1,.int .i64 (s.4+1),.int .i64 1,.int .i64 (bX n y.4),.int .u64 (aE s.3 (bX n y.4)),.int .u64 (aE s.3 (bX n y.4)),.bool (bT s.3 (bX n y.4))]),some (.ints (some .u64) s.3),some (.ints (some .i64) R),some (.cells [.int .i64 t,.int .i64 n,.slice 8 0 (List.length (cJ (bB y.3 n y.4 s) y.2)) 1,.slice 9 0 (List.length (bA (bB y.3 n y.4 s) y.2)) 1,.slice 6 0 y.2.length 1,.map 7,.int .i64 (y.4+1),.ptr 10 0]),some (.ints (some .i64) y.2),some (.imap .i64 none (bB y.3 n y.4 s)),some (.ints (some .i64) (cJ (bB y.3 n y.4 s) y.2)),some (.ints (some .i64) (bA (bB y.3 n y.4 s) y.2)),some (.cells [.int .i64 t,.int .i64 n,.slice 11 0 (List.length (bA (bB y.3 n y.4 s) y.2)) 1]),some (.ints (some .i64) (bA (bB y.3 n y.4 s) y.2))]else K (.bool false) [some (.cells [.ptr 1 0,.ptr 5 0]),some (.cells [.int .i64 t,.int .i64 n,.int .i64 me,.int .i64 sp,.slice 4 0 R.length 1]),some (.cells [.int .i64 s.1,.int .i64 s.2,.slice 3 0 s.3.length 1,.int .i64 (s.4+1),.int .i64 1,.int .i64 (bX n y.4),.int .u64 (aE s.3 (bX n y.4)),.int .u64 (aE s.3 (bX n y.4)),.bool (bT s.3 (bX n y.4))]),some (.ints (some .u64) s.3),some (.ints (some .i64) R),some (.cells [.int .i64 t,.int .i64 n,.slice 8 0 (List.length (cJ (bB y.3 n y.4 s) y.2)) 1,.slice 9 0 (List.length (bA (bB y.3 n y.4 s) y.2)) 1,.slice 6 0 y.2.length 1,.map 7,.int .i64 (y.4+1),.ptr 10 0]),some (.ints (some .i64) y.2),some (.imap .i64 none (bB y.3 n y.4 s)),some (.ints (some .i64) (cJ (bB y.3 n y.4 s) y.2)),some (.ints (some .i64) (bA (bB y.3 n y.4 s) y.2)),some (.cells [.int .i64 t,.int .i64 n,.slice 11 0 (List.length (bA (bB y.3 n y.4 s) y.2)) 1]),some (.ints (some .i64) (bA (bB y.3 n y.4 s) y.2))]else K (.bool false) [some (.cells [.ptr 1 0,.ptr 5 0]),some (.cells [.int .i64 t,.int .i64 n,.int .i64 me,.int .i64 sp,.slice 4 0 R.length 1]),some (.cells [.int .i64 s.1,.int .i64 s.2,.slice 3 0 s.3.length 1,.int .i64 (s.4+1),.int .i64 1,.int .i64 (bX n y.4),.int .u64 (aE s.3 (bX n y.4)),.int .u64 (aE s.3 (bX n y.4)),.bool (bT s.3 (bX n y.4))]),some (.ints (some .u64) s.3),some (.ints (some .i64) R),some (.cells [.int .i64 t,.int .i64 n,.raw (Value.slice none 0 0),.raw (Value.slice none 0 0),.slice 6 0 y.2.length 1,.map 7,.int .i64 (y.4+1),.raw (Value.pointer none)]),some (.ints (some .i64) y.2),some (.imap .i64 none (bB y.3 n y.4 s))]
theorem aFG(t n me sp:Int)(R:List Int)(y:SWS)(s:MS)(K:AVal→aC Ob→Prop)(hK:P5 t n me sp R y s K):cT' 169 [.ptr 0 0,.ptr 2 0] [some (.cells [.ptr 1 0,.ptr 5 0]),some (.cells [.int .i64 t,.int .i64 n,.int .i64 me,.int .i64 sp,.slice 4 0 R.length 1]),bE 3 s,bF s,some (.ints (some .i64) R),some (.cells [.int .i64 t,.int .i64 n,.raw (.slice none 0 0),.raw (.slice none 0 0),.slice 6 0 y.N.length 1,.map 7,.int .i64 y.i,.raw (.pointer none)]),some (.ints (some .i64) y.N),some (.imap .i64 none y.m)] K:=
 (jK oH) _ _ _ (Ev.get (aJ (p:=mU swStepS [.ptr 0 0,.ptr 2 0] [some (.cells [.ptr 1 0,.ptr 5 0]),some (.cells [.int .i64 t,.int .i64 n,.int .i64 me,.int .i64 sp,.slice 4 0 R.length 1]),bE 3 s,bF s,some (.ints (some .i64) R),some (.cells [.int .i64 t,.int .i64 n,.raw (.slice none 0 0),.raw (.slice none 0 0),.slice 6 0 y.N.length 1,.map 7,.int .i64 y.i,.raw (.pointer none)]),some (.ints (some .i64) y.N),some (.imap .i64 none y.m)] K) (q:=P5 t n me sp R y s K) (by kernel_rfl) hK))
def P6(t n me sp:Int)(R:List Int)(y:SWS)(s:MS)(K:AVal→aC Ob→Prop):Prop:=((lE' s.3∧lE' R∧lE' y.5∧lE' y.6∧lE' y.2∧t=t∧n=n∧t=t∧n=n)∧((1:Int)≤t∧t≤(1000:Int))∧((1:Int)≤n∧n≤(1000:Int))∧((0:Int)≤s.4∧s.4≤(1000000:Int))∧2*t≤y.4∧((1:Nat)≤y.9∧y.7.length=y.8+y.9)∧(-1000000:Int)≤List.getD y.7 (y.8+Int.toNat 0*1) 0∧List.getD y.7 (y.8+Int.toNat 0*1) (0:Int)≤(1000000:Int))∧bif ieq (↑(y.9 - 1):Int) 0 then K (.bool true) [some (.cells [.ptr 1 0,.ptr 5 0]),some (.cells [.int .i64 t,.int .i64 n,.int .i64 me,.int .i64 sp,.slice 6 0 y.5.length 1]),some (.cells [.int .i64 s.1,.int .i64 s.2,.slice 3 0 (List.length (aY s.3 (b8 n y.7 y.8) (WU (aE s.3 (b8 n y.7 y.8)+1)))) 1,.int .i64 (s.4+1),.int .i64 4,.int .i64 (b8 n y.7 y.8),.int .u64 (aE s.3 (b8 n y.7 y.8)),.int .u64 (bif bT s.3 (b8 n y.7 y.8)then WU (aE s.3 (b8 n y.7 y.8)+1)else 0),.bool (bT s.3 (b8 n y.7 y.8))]),some (.ints (some .u64) (aY s.3 (b8 n y.7 y.8) (WU (aE s.3 (b8 n y.7 y.8)+1)))),some (.ints (some .i64) R),some (.cells [.int .i64 t,.int .i64 n,.slice 6 0 y.5.length 1,.slice 7 0 y.6.length 1,.slice 8 0 y.2.length 1,.map 9,.int .i64 y.4,.ptr 10 0]),some (.ints (some .i64) y.5),some (.ints (some .i64) y.6),some (.ints (some .i64) y.2),some (.imap .i64 none y.3),some (.cells [.int .i64 t,.int .i64 n,.slice 11 (y.8+1) (y.9 - 1) 1]),some (.ints (some .i64) y.7)]else K (.bool false) [some (.cells [.ptr 1 0,.ptr 5 0]),some (.cells [.int .i64 t,.int .i64 n,.int .i64 me,.int .i64 sp,.slice 4 0 R.length 1]),some (.cells [.int .i64 s.1,.int .i64 s.2,.slice 3 0 (List.length (aY s.3 (b8 n y.7 y.8) (WU (aE s.3 (b8 n y.7 y.8)+1)))) 1,.int .i64 (s.4+1),.int .i64 4,.int .i64 (b8 n y.7 y.8),.int .u64 (aE s.3 (b8 n y.7 y.8)),.int .u64 (bif bT s.3 (b8 n y.7 y.8)then WU (aE s.3 (b8 n y.7 y.8)+1)else 0),.bool (bT s.3 (b8 n y.7 y.8))]),some (.ints (some .u64) (aY s.3 (b8 n y.7 y.8) (WU (aE s.3 (b8 n y.7 y.8)+1)))),some (.ints (some .i64) R),some (.cells [.int .i64 t,.int .i64 n,.slice 6 0 y.5.length 1,.slice 7 0 y.6.length 1,.slice 8 0 y.2.length 1,.map 9,.int .i64 y.4,.ptr 10 0]),some (.ints (some .i64) y.5),some (.ints (some .i64) y.6),some (.ints (some .i64) y.2),some (.imap .i64 none y.3),some (.cells [.int .i64 t,.int .i64 n,.slice 11 (y.8+1) (y.9 - 1) 1]),some (.ints (some .i64) y.7)]
theorem aFH(t n me sp:Int)(R:List Int)(y:SWS)(s:MS)(K:AVal→aC Ob→Prop)(hK:P6 t n me sp R y s K):cT' 169 [.ptr 0 0,.ptr 2 0] [some (.cells [.ptr 1 0,.ptr 5 0]),some (.cells [.int .i64 t,.int .i64 n,.int .i64 me,.int .i64 sp,.slice 4 0 R.length 1]),bE 3 s,bF s,some (.ints (some .i64) R),some (.cells [.int .i64 t,.int .i64 n,.slice 6 0 y.ks.length 1,.slice 7 0 y.fs.length 1,.slice 8 0 y.N.length 1,.map 9,.int .i64 y.i,.ptr 10 0]),some (.ints (some .i64) y.ks),some (.ints (some .i64) y.fs),some (.ints (some .i64) y.N),some (.imap .i64 none y.m),some (.cells [.int .i64 t,.int .i64 n,.slice 11 y.j y.l 1]),some (.ints (some .i64) y.gs)] K:=
 (jK oH) _ _ _ (Ev.get (aJ (p:=mU swStepS [.ptr 0 0,.ptr 2 0] [some (.cells [.ptr 1 0,.ptr 5 0]),some (.cells [.int .i64 t,.int .i64 n,.int .i64 me,.int .i64 sp,.slice 4 0 R.length 1]),bE 3 s,bF s,some (.ints (some .i64) R),some (.cells [.int .i64 t,.int .i64 n,.slice 6 0 y.ks.length 1,.slice 7 0 y.fs.length 1,.slice 8 0 y.N.length 1,.map 9,.int .i64 y.i,.ptr 10 0]),some (.ints (some .i64) y.ks),some (.ints (some .i64) y.fs),some (.ints (some .i64) y.N),some (.imap .i64 none y.m),some (.cells [.int .i64 t,.int .i64 n,.slice 11 y.j y.l 1]),some (.ints (some .i64) y.gs)] K) (q:=P6 t n me sp R y s K) (by kernel_rfl) hK))
theorem wc{x y:Option (aH Ob)}{g g2:aC Ob}(h:oY x y)(k:kZ g g2):kZ (x::g) (y::g2):=⟨h,k⟩
theorem wv{v w:AVal}{vs ws:List AVal}(h:w=v∨w=.O)(k:nU vs ws):nU (v::vs) (w::ws):=⟨h,k⟩
theorem aFL:nU [] []:=trivial
theorem aEK{vs ws:List AVal}(h:nU vs ws):oY (some (.cells vs):Option (aH Ob)) (some (.cells ws)):=h
theorem wvs: ∀vs:List AVal,nU vs vs
 | []=>trivial
 | v::vs=>⟨.inl rfl,wvs vs⟩
theorem aEQ: ∀x:Option (aH Ob),oY x x
 | none=>trivial
 | some (.cells vs)=>wvs vs
 | some (.ints c xs)=>rfl
 | some (.abs t ps)=>rfl
 | some (.tab ks r)=>rfl
 | some (.imap k v m)=>rfl
theorem F4: ∀g:aC Ob,kZ g g
 | []=>trivial
 | x::g=>⟨aEQ x,F4 g⟩
theorem tO{K:AVal→aC Ob→Prop}{v:AVal}{g:aC Ob}(h:K v g):LD K v g:=⟨g,F4 g,h⟩
theorem CH{K:AVal→aC Ob→Prop}{v a b:AVal}{g:aC Ob}(h:K v (some (.cells [a,.O])::g)):LD K v (some (.cells [a,b])::g):=⟨_,wc (aEK (wv (.inl rfl) (wv (.inr rfl) aFL))) (F4 g),h⟩
theorem sw0(t n:Int)(y:SWS)(st:STS)(s:MS)(K:AVal→aC Ob→Prop)(hp:y.ph=0)(ok:qL t n y st s)(hK:(swF t n y st s).left t n K):cT' 169 [.ptr 0 0,.ptr 2 0] (swH t n y st s) K:=by
 obtain⟨ht,hn,hc,hR,ho⟩:=ok;obtain⟨ph,N,m,i,ks,fs,gs,j,l⟩:=y;dsimp only at hp;subst hp;obtain⟨me,sp,R⟩:=st;dsimp only at hR;refine aB.pack tbl (aB.pack tbl (aB.less ?_));refine aB.unpack tbl (.store t n ⟨me,sp,R⟩) 1 0 (dL t n ⟨me,sp,R⟩) [] rfl rfl rfl rfl ?_;refine aB.unpack tbl (.sweep t n ⟨0,N,m,i,ks,fs,gs,j,l⟩) 0 1 (KR t n ⟨0,N,m,i,ks,fs,gs,j,l⟩) [1] rfl rfl rfl rfl ?_;refine aFF t n me sp R ⟨0,N,m,i,ks,fs,gs,j,l⟩ s _ ?_;unfold P4;exact⟨⟨⟨rfl,rfl⟩,ht,hn,hc,hR⟩,tO (xC (o:=swF t n ⟨0,N,m,i,ks,fs,gs,j,l⟩ ⟨me,sp,R⟩ s) [0,1,2,3,4,5,6,7] hK rfl rfl)⟩
theorem sw1(t n:Int)(y:SWS)(st:STS)(s:MS)(K:AVal→aC Ob→Prop)(hp:y.ph=1)(ok:qL t n y st s)(hK:(swF t n y st s).left t n K):cT' 169 [.ptr 0 0,.ptr 2 0] (swH t n y st s) K:=by
 obtain⟨ht,hn,hc,hR,ho⟩:=ok;obtain⟨ph,N,m,i,ks,fs,gs,j,l⟩:=y;dsimp only at hp;subst hp;obtain⟨me,sp,R⟩:=st;dsimp only at hR;refine aB.pack tbl (aB.pack tbl (aB.less ?_));refine aB.unpack tbl (.store t n ⟨me,sp,R⟩) 1 0 (dL t n ⟨me,sp,R⟩) [] rfl rfl rfl rfl ?_;refine aB.unpack tbl (.sweep t n ⟨1,N,m,i,ks,fs,gs,j,l⟩) 0 1 (KR t n ⟨1,N,m,i,ks,fs,gs,j,l⟩) [1] rfl rfl rfl rfl ?_;refine aFG t n me sp R ⟨1,N,m,i,ks,fs,gs,j,l⟩ s _ ?_;unfold P5;have ho:N.length≤1000000∧0≤i∧i<2*t:=ho;refine⟨⟨⟨rfl,rfl,rfl,rfl,rfl⟩,ht,hn,hc,ho.1,ho.2⟩,?_⟩;unfold swF at hK;dsimp only at hK⊢;cases h1:ieq (i+1) (2*t)with
 | false=>
   rw [h1]at hK;exact tO (xC (o:=⟨false,⟨1,N,bB m n i s,i+1,ks,fs,gs,j,l⟩,⟨me,sp,R⟩,s.loadd (bX n i)⟩) [0,1,2,3,4,5,6,7] hK rfl rfl)
 | true=>
   rw [h1]at hK;cases h2:ieq ((bA (bB m n i s) N).length :Int) 0 with
   | true=>
     rw [h2]at hK;exact CH (xC (o:=⟨true,⟨3,N,m,i,ks,fs,gs,j,l⟩,⟨me,sp,cJ (bB m n i s) N⟩,s.loadd (bX n i)⟩) [0,1,2,3,8] hK rfl rfl)
   | false=>
     rw [h2]at hK;exact tO (xC (o:=⟨false,⟨2,N,bB m n i s,i+1,cJ (bB m n i s) N,bA (bB m n i s) N,bA (bB m n i s) N,0,(bA (bB m n i s) N).length⟩,⟨me,sp,R⟩,s.loadd (bX n i)⟩) [0,1,2,3,4,5,8,9,6,7,10,11] hK rfl rfl)
theorem sw2(t n:Int)(y:SWS)(st:STS)(s:MS)(K:AVal→aC Ob→Prop)(hp:y.ph=2)(ok:qL t n y st s)(hK:(swF t n y st s).left t n K):cT' 169 [.ptr 0 0,.ptr 2 0] (swH t n y st s) K:=by
 obtain⟨ht,hn,hc,hR,ho⟩:=ok;obtain⟨ph,N,m,i,ks,fs,gs,j,l⟩:=y;dsimp only at hp;subst hp;obtain⟨me,sp,R⟩:=st;dsimp only at hR;refine aB.pack tbl (aB.pack tbl (aB.less ?_));refine aB.unpack tbl (.store t n ⟨me,sp,R⟩) 1 0 (dL t n ⟨me,sp,R⟩) [] rfl rfl rfl rfl ?_;refine aB.unpack tbl (.sweep t n ⟨2,N,m,i,ks,fs,gs,j,l⟩) 0 1 (KR t n ⟨2,N,m,i,ks,fs,gs,j,l⟩) [1] rfl rfl rfl rfl ?_;refine aFH t n me sp R ⟨2,N,m,i,ks,fs,gs,j,l⟩ s _ ?_;unfold P6;have ho:2*t≤i∧1≤l∧gs.length=j+l∧ -1000000≤List.getD gs (j+Int.toNat 0*1) 0∧List.getD gs (j+Int.toNat 0*1) 0≤1000000:=ho;refine⟨⟨⟨rfl,rfl,rfl,rfl,rfl,rfl,rfl,rfl,rfl⟩,ht,hn,hc,ho.1,⟨ho.2.1,ho.2.2.1⟩,ho.2.2.2⟩,?_⟩;unfold swF at hK;dsimp only at hK⊢;cases h1:ieq ((l - 1:Nat):Int) 0 with
 | false=>
   rw [h1]at hK;exact tO (xC (o:=⟨false,⟨2,N,m,i,ks,fs,gs,j+1,l - 1⟩,⟨me,sp,R⟩,s.added (b8 n gs j) 1⟩) [0,1,2,3,4,5,6,7,8,9,10,11] hK rfl rfl)
 | true=>
   rw [h1]at hK;exact CH (xC (o:=⟨true,⟨3,N,m,i,ks,fs,gs,j,l⟩,⟨me,sp,ks⟩,s.added (b8 n gs j) 1⟩) [0,1,2,3,6] hK rfl rfl)
theorem WW(t n:Int)(y:SWS)(st:STS)(s:MS)(K:AVal→aC Ob→Prop)(ok:qL t n y st s)(hK:(swF t n y st s).left t n K):cT' 169 [.ptr 0 0,.ptr 2 0] (swH t n y st s) K:=by
 match h:y.ph with
 | 0=>exact sw0 t n y st s K h ok hK
 | 1=>exact sw1 t n y st s K h ok hK
 | 2=>exact sw2 t n y st s K h ok hK
 | k+3=>have:=ok.ho;unfold YA at this;rw [h]at this;exact this.elim
theorem fH{I:Itp Ob}{n:Nat}{K:AVal→aC Ob→Prop}{d:Bool}{a b g:aC Ob}(hK:(Out.ite d (.ret (.bool true) a) (.ret (.bool false) b)).run K)(h1:K (.bool true) a→eH I n K (.bool true) g)(h2:d=false→K (.bool false) b→eH I n K (.bool false) g):eH I n K (.bool d) g:=by
 cases d with
 | true=>exact h1 hK
 | false=>exact h2 rfl hK
abbrev iY(l:Nat)(t n:Int)(st:STS):Option (aH Mc):=some (.cells [.I t,.I n,.I st.me,.I st.sp,.slice l 0 st.R.length 1])
abbrev iZ(st:STS):Option (aH Mc):=some (.ints (some .i64) st.R)
def lK(w:Nat)(h:aC Ob):Option (Nat×Int×Int×STS):=match h with
 | [some (.cells [.int .i64 t,.int .i64 n,.int .i64 me,.int .i64 sp,.slice l 0 len 1]),some (.ints (some .i64) xs)]=>if l=w then some (len,t,n,⟨me,sp,xs⟩)else none
 | _=>none
theorem cH{w:Nat}{h:aC Ob}{l:Nat}{t n:Int}{st:STS}(e:lK w h=some (l,t,n,st))(hl:l=st.R.length):h=[iY w t n st,iZ st]:=by
 unfold lK at e;split at e
 ·split at e
  ·rename_i hw;simp only [sI',pI']at e;obtain⟨rfl,rfl,rfl,rfl⟩:=e;subst hw;simp only at hl;subst hl;rfl
  ·cases e
 ·cases e
theorem jR{f:FuncId}{t n:Int}{st st':STS}{s s':MS}{M:Mc}{e1 e2:aH Mc}{d:Bool}(h1: ∀ι:Nat→Nat,ι 1=1→e1.ren ι=e1)(h2: ∀ι:Nat→Nat,ι 1=1→e2.ren ι=e2)
 (hA: ∀K,(Out.ite d (.ret (.bool true) [some e1,some (.abs (.store t n st') []),bE 3 s',bF s']) (.ret (.bool false) [some e2,some (.abs (.store t n st') []),bE 3 s',bF s'])).run K→cT' f [.ptr 0 0,.ptr 2 0] [some (.abs M [1]),some (.abs (.store t n st) []),bE 3 s,bF s] K)
 (K:AVal→aC Ob→Prop) (hK:(Out.ite d (.ret (.bool true) [some e1,iY 5 t n st',none,bE 4 s',bF s',iZ st']) (.ret (.bool false) [some e2,iY 5 t n st',none,bE 4 s',bF s',iZ st'])).run K):
 cT' f [.ptr 0 0,.ptr 3 0] [some (.abs M [1]),iY 2 t n st,iZ st,bE 4 s,bF s] K:=by
 refine aGZ ?_;refine aHm (h0:=[some (.abs M [1]),iY 4 t n st,bE 3 s,bF s,iZ st]) (args0:=[.ptr 0 0,.ptr 2 0]) (K0:=fun v g=>eH (obI tbl) 5 K (v.ren (iota [0,1,3,4,2] 5)) (oT [some (.abs M [1]),iY 2 t n st,iZ st,bE 4 s,bF s] [0,1,3,4,2] g)) ?_ [0,1,3,4,2] rfl (by decide) (by intro l hl;simp at hl⊢;omega) ?_ rfl (fun v g hk _=>hk)
 ·refine aB.shut tbl [some (.abs M [1]),some (.abs (.store t n st) []),bE 3 s,bF s] (.store t n st) 1 0 (dL t n st) [] (by kernel_rfl) rfl rfl (by kernel_rfl) (hA _ ?_)
  have i1:farI 4 1 1=1:=rfl;have i2:iota [0,1,3,4,2] 5 1=1:=rfl;cases d with
  | true=>
    have q1:((e1.ren (farI 4 1)).ren (iota [0,1,3,4,2] 5))=e1:=by rw [h1 _ i1,h1 _ i2]
    refine⟨_,_,aF.trans (aGQ (g2:=[some e1,some (.abs (.store t n st') []),none,bE 4 s',bF s']) (by kernel_rfl) ?_) (aF.unpack (.store t n st') 1 0 (dL t n st') [] rfl rfl rfl rfl),hK⟩
    show [some ((e1.ren (farI 4 1)).ren (iota [0,1,3,4,2] 5)),_,_,_,_]=_;rw [q1];rfl
  | false=>
    have q2:((e2.ren (farI 4 1)).ren (iota [0,1,3,4,2] 5))=e2:=by rw [h2 _ i1,h2 _ i2]
    refine⟨_,_,aF.trans (aGQ (g2:=[some e2,some (.abs (.store t n st') []),none,bE 4 s',bF s']) (by kernel_rfl) ?_) (aF.unpack (.store t n st') 1 0 (dL t n st') [] rfl rfl rfl rfl),hK⟩
    show [some ((e2.ren (farI 4 1)).ren (iota [0,1,3,4,2] 5)),_,_,_,_]=_;rw [q2];rfl
 ·intro i l hi
  match i,hi with
  | 0,hi=>cases hi;rfl
  | 1,hi=>cases hi;rfl
  | 2,hi=>cases hi;rfl
  | 3,hi=>cases hi;rfl
  | 4,hi=>cases hi;rfl
  | _+5,hi=>cases hi
def f5(kd:Int):Bool:=ieq kd 1||ieq kd 4
def oU(sh kd:Int):Bool:=ieq kd 5&&ieq sh 4
def uP(sh kd:Int):Bool:=ieq kd 2||ieq kd 5&&ieq sh 3
def gX(ky curr cw:Int):Bool:=bif ieq curr 0 then false else ieq (aA cw 0 10) ky
def fG(sh ky:Int):Int:=bif ieq sh 2 then ky%4 else 0
def l9(sh kd ky:Int):Int:=bif ieq sh 2 then ky else bif ieq sh 1 then ky else bif ieq sh 3 then(bif f5 kd then 1024 else -1)else -1
def OD:bI Ob:=fun args h=>match args,h with
 | [.agg [.int .i64 t,.int .i64 n],.int .i64 a],[]=>some ((0≤n∧n≤100000)∧(-1000000≤a∧a≤1000000),.I (n+1+a))
 | _,_=>none
theorem U6:sT' 112 OD.spec:=by
 intro args h o ho K hK;unfold bI.spec OD at ho;split at ho
 case h_2=>cases ho
 rename_i p v hp;split at hp
 case h_2=>cases hp
 rename_i t n a;simp only [sI',pI']at hp;obtain⟨rfl,rfl⟩:=hp;simp only [sI']at ho;subst ho;obtain⟨hp,hK⟩:=hK;have hK:K (.I (n+1+a)) []:=hK;refine aGK (cM' (E:=enE) (q:=K (.I (W (W (1+n)+a))) []) (by kernel_rfl) ?_)
 simp(disch:=omega) only [W,dB]
 refine cast (congrArg (fun z=>K (AVal.int .i64 z) []) ?_) hK;omega
def F2:bI Ob:=fun args h=>match args,h with
 | [.agg [.int .i64 k,.int .i64 y,.bool m,.int .i64 c,.int .i64 v]],[]=>some (0≤v∧v≤1000000,.agg [.I k,.I y,.bool m,.I 0,.I (aU v)])
 | _,_=>none
theorem QL:sT' 264 F2.spec:=by
 intro args h o ho K hK;unfold bI.spec F2 at ho;split at ho
 case h_2=>cases ho
 rename_i p v hp;split at hp
 case h_2=>cases hp
 rename_i k y m c v;simp only [sI',pI']at hp;obtain⟨rfl,rfl⟩:=hp;simp only [sI']at ho;subst ho;obtain⟨hp,hK⟩:=hK;have hK:K (.agg [.I k,.I y,.bool m,.I 0,.I (aU v)]) []:=hK;refine aGK (cM' (E:=enE) (q:=K (.agg [.I k,.I y,.bool m,.I 0,.I (W (↑(BitVec.toNat (BitVec.ofInt (IntKind.bits .i64) (W (v+1))&&&BitVec.ofInt (IntKind.bits .i64) 262143)):Int))]) []) (by kernel_rfl) ?_)
 refine cast (congrArg (fun z=>K (.agg [.I k,.I y,.bool m,.I 0,.I z]) []) ?_) hK;show aU v=_;have hb:IntKind.bits .i64 =64:=rfl;simp only [W];rw [hb,dB (x:=v+1) (by omega)]
 have:=jV (n:=64) (w:=18) (v+1) (by omega)
 have e:(2:Int)^18 - 1=262143:=by decide
 rw [e]at this;rw [this];have e2:(2:Int)^18=262144:=by decide
 rw [e2,dB (by omega)]
 rfl
def zB:bI Ob:=fun args h=>match args,h with
 | [.agg [.int .i64 k,.int .i64 y,.bool m,.int .i64 c,.int .i64 v],.int .i64 b,.int .i64 x,.bool q],[]=>some (-1000000≤b∧b≤1000000,.agg [.I k,.I x,.bool q,.I (b+1),.I v])
 | _,_=>none
theorem K1:sT' 268 zB.spec:=by
 intro args h o ho K hK;unfold bI.spec zB at ho;split at ho
 case h_2=>cases ho
 rename_i p v hp;split at hp
 case h_2=>cases hp
 rename_i k y m c v b x q;simp only [sI',pI']at hp;obtain⟨rfl,rfl⟩:=hp;simp only [sI']at ho;subst ho;obtain⟨hp,hK⟩:=hK;have hK:K (.agg [.I k,.I x,.bool q,.I (b+1),.I v]) []:=hK;refine aGK (cM' (E:=enE) (q:=K (.agg [.I k,.I x,.bool q,.I (W (b+1)),.I v]) []) (by kernel_rfl) ?_)
 rw [xM (by omega)]
 exact hK
def yW:bI Ob:=fun args h=>match args,h with
 | [.agg [.int .i64 sh,.int .i64 kd,.int .i64 ky]],[]=>some (True,.bool (f5 kd))
 | _,_=>none
theorem KW:sT' 203 yW.spec:=by
 intro args h o ho K hK;unfold bI.spec yW at ho;split at ho
 case h_2=>cases ho
 rename_i p v hp;split at hp
 case h_2=>cases hp
 rename_i sh kd ky;simp only [sI',pI']at hp;obtain⟨rfl,rfl⟩:=hp;simp only [sI']at ho;subst ho;obtain⟨hp,hK⟩:=hK;have hK:K (.bool (f5 kd)) []:=hK;refine aGK (cM' (E:=enE) (q:=bif ieq kd 1 then K (.bool true) []else K (.bool (ieq kd 4)) []) (by kernel_rfl) ?_)
 unfold f5 at hK;cases h:ieq kd 1<;>rw [h]at hK<;>exact hK
def F1:bI Ob:=fun args h=>match args,h with
 | [.agg [.int .i64 sh,.int .i64 kd,.int .i64 ky]],[]=>some (True,.bool (oU sh kd))
 | _,_=>none
theorem QF:sT' 285 F1.spec:=by
 intro args h o ho K hK;unfold bI.spec F1 at ho;split at ho
 case h_2=>cases ho
 rename_i p v hp;split at hp
 case h_2=>cases hp
 rename_i sh kd ky;simp only [sI',pI']at hp;obtain⟨rfl,rfl⟩:=hp;simp only [sI']at ho;subst ho;obtain⟨hp,hK⟩:=hK;have hK:K (.bool (oU sh kd)) []:=hK;refine aGK (cM' (E:=enE) (q:=bif ieq kd 5 then K (.bool (ieq sh 4)) []else K (.bool false) []) (by kernel_rfl) ?_)
 unfold oU at hK;cases h:ieq kd 5<;>rw [h]at hK<;>exact hK
def yX:bI Ob:=fun args h=>match args,h with
 | [.agg [.int .i64 sh,.int .i64 kd,.int .i64 ky]],[]=>some (True,.bool (uP sh kd))
 | _,_=>none
theorem KX:sT' 225 yX.spec:=by
 intro args h o ho K hK;unfold bI.spec yX at ho;split at ho
 case h_2=>cases ho
 rename_i p v hp;split at hp
 case h_2=>cases hp
 rename_i sh kd ky;simp only [sI',pI']at hp;obtain⟨rfl,rfl⟩:=hp;simp only [sI']at ho;subst ho;obtain⟨hp,hK⟩:=hK;have hK:K (.bool (uP sh kd)) []:=hK;refine aGK (cM' (E:=enE) (q:=bif ieq kd 2 then K (.bool true) []else bif ieq kd 5 then K (.bool (ieq sh 3)) []else K (.bool false) []) (by kernel_rfl) ?_)
 unfold uP at hK;cases h:ieq kd 2<;>cases h2:ieq kd 5<;>rw [h]at hK<;>rw [h2]at hK<;>exact hK
noncomputable def hasCS:aI Ob:=uB [(.slot 0,.ints (some .i64))] UG.spec
theorem UF:sT' 138 hasCS:=zV NY
noncomputable def EB0:=((((((enE.addS 138 hasCS UF).addR 112 OD U6).addR 264 F2 QL).addR 268 zB K1).addR 203 yW KW).addR 285 F1 QF).addR 225 yX KX
def isS:aI Ob:=fun args h=>match args,h with
 | [.agg [.int .i64 a,.int .i64 b,.int .i64 c,.int .i64 d,.bool m,.int .i64 e,.int .i64 f],.slice 0 0 1 1],[some (.cells [.int .i64 s])]=>some (.ret (.bool (hasB [s] e)) [some (.ints (some .i64) [s])])
 | _,_=>none
theorem aEh:sT' 243 isS:=by
 intro args h o ho K hK;unfold isS at ho;split at ho<;>cases ho
 rename_i a b c d m e f s;have hK:K (.bool (hasB [s] e)) [some (.ints (some .i64) [s])]:=hK;refine aGK (cM' (E:=EB0) (q:=(1=1∧(1:Nat)≤(4294967296:Nat))∧K (.bool (hasB [s] e)) [some (.ints (some .i64) [s])]) (by kernel_rfl) ?_)
 exact⟨⟨rfl,by omega⟩,hK⟩
noncomputable def EB0b:=EB0.addS 243 isS aEh
def L6:bI Ob:=fun args h=>match args,h with
 | [.int .u64 x],[]=>some (True,.I (aA x 20 5 - 1))
 | _,_=>none
theorem SG:sT' 260 L6.spec:=by
 intro args h o ho K hK;unfold bI.spec L6 at ho;split at ho
 case h_2=>cases ho
 rename_i p v hp;split at hp
 case h_2=>cases hp
 rename_i x;simp only [sI',pI']at hp;obtain⟨rfl,rfl⟩:=hp;simp only [sI']at ho;subst ho;obtain⟨hp,hK⟩:=hK;have hK:K (.I (aA x 20 5 - 1)) []:=hK;refine aGK (cM' (E:=EB0b) (q:=True∧K (.I (W (aA x 20 5 - 1))) []) (by kernel_rfl) ?_)
 have hb:0≤aA x 20 5∧aA x 20 5<32:=by
  unfold aA;have e:(2:Int)^(5:Int).toNat =32:=by decide
  rw [e];exact⟨Int.emod_nonneg _ (by decide),Int.emod_lt_of_pos _ (by decide)⟩
 have e1:W (aA x 20 5 - 1)=aA x 20 5 - 1:=dB (by omega)
 rw [e1];exact⟨trivial,hK⟩
def D8:bI Ob:=fun args h=>match args,h with
 | [.agg [.int .i64 a,.int .i64 b,.int .i64 c,.int .i64 d,.bool m,.int .i64 e,.int .i64 f],.int .i64 g],[]=>some (True,.agg [.I a,.I b,.I c,.I d,.bool m,.I g,.I f])
 | _,_=>none
theorem ME:sT' 262 D8.spec:=by
 intro args h o ho K hK;unfold bI.spec D8 at ho;split at ho
 case h_2=>cases ho
 rename_i p v hp;split at hp
 case h_2=>cases hp
 rename_i a b c d m e f g;simp only [sI',pI']at hp;obtain⟨rfl,rfl⟩:=hp;simp only [sI']at ho;subst ho;obtain⟨hp,hK⟩:=hK;have hK:K (.agg [.I a,.I b,.I c,.I d,.bool m,.I g,.I f]) []:=hK;refine aGK (cM' (E:=EB0b) (q:=K (.agg [.I a,.I b,.I c,.I d,.bool m,.I g,.I f]) []) (by kernel_rfl) ?_)
 exact hK
noncomputable def EB0c:=(EB0b.addR 260 L6 SG).addR 262 D8 ME
def y0:bI Ob:=fun args h=>match args,h with
 | [.agg [.int .i64 sh,.int .i64 kd,.int .i64 ky]],[]=>some (True,.agg [.I (fG sh ky),.I (l9 sh kd ky)])
 | _,_=>none
theorem KY:sT' 226 y0.spec:=by
 intro args h o ho K hK;unfold bI.spec y0 at ho;split at ho
 case h_2=>cases ho
 rename_i p v hp;split at hp
 case h_2=>cases hp
 rename_i sh kd ky;simp only [sI',pI']at hp;obtain⟨rfl,rfl⟩:=hp;simp only [sI']at ho;subst ho;obtain⟨hp,hK⟩:=hK;have hK:K (.agg [.I (fG sh ky),.I (l9 sh kd ky)]) []:=hK;refine aGK (cM' (E:=EB0c) (q:=bif ieq sh 2 then K (.agg [.I (W (↑(BitVec.toNat (BitVec.ofInt (IntKind.bits .i64) ky&&&BitVec.ofInt (IntKind.bits .i64) 3)):Int)),.I ky]) []else bif ieq sh 1 then K (.agg [.I 0,.I ky]) []else bif ieq sh 2 then K (.agg [.I 0,.I ky]) []else bif ieq sh 3 then True∧bif f5 kd then K (.agg [.I 0,.I 1024]) []else K (.agg [.I 0,.I (-1:Int)]) []else K (.agg [.I 0,.I (-1:Int)]) []) (by kernel_rfl) ?_)
 have e4:W (((BitVec.ofInt (IntKind.bits .i64) ky&&&BitVec.ofInt (IntKind.bits .i64) 3).toNat :Nat):Int)=ky%4:=by
  have hb:IntKind.bits .i64 =64:=rfl;rw [hb];have:=jV (n:=64) (w:=2) ky (by omega)
  have e:(2:Int)^2 - 1=3:=by decide
  rw [e]at this;rw [this];have e2:(2:Int)^2=4:=by decide
  rw [e2];exact dB (by omega)
 unfold fG l9 at hK;refine aL (fun e=>?_) (fun e=>aL (fun e1=>?_) (fun e1=>aL (fun e2=>?_) (fun e2=>aL (fun e3=>⟨trivial,aL (fun e5=>?_) (fun e5=>?_)⟩) (fun e3=>?_))))
 ·rw [e]at hK;rw [e4];exact hK
 ·rw [e,e1]at hK;exact hK
 ·rw [e]at e2;cases e2
 ·rw [e,e1,e3,e5]at hK;exact hK
 ·rw [e,e1,e3,e5]at hK;exact hK
 ·rw [e,e1,e3]at hK;exact hK
def yI:bI Ob:=fun args h=>match args,h with
 | [.agg [.int .i64 sh,.int .i64 kd,.int .i64 ky,.int .i64 pred,.int .u64 pw,.int .i64 curr,.int .u64 cw]],[]=>some (True,.bool (gX ky curr cw))
 | _,_=>none
theorem J6:sT' 287 yI.spec:=by
 intro args h o ho K hK;unfold bI.spec yI at ho;split at ho
 case h_2=>cases ho
 rename_i p v hp;split at hp
 case h_2=>cases hp
 rename_i sh kd ky pred pw curr cw;simp only [sI',pI']at hp;obtain⟨rfl,rfl⟩:=hp;simp only [sI']at ho;subst ho;obtain⟨hp,hK⟩:=hK;have hK:K (.bool (gX ky curr cw)) []:=hK;refine aGK (cM' (E:=EB0c) (q:=bif !ieq curr 0 then True∧K (.bool (ieq (aA cw 0 10) ky)) []else K (.bool false) []) (by kernel_rfl) ?_)
 unfold gX at hK;cases h:ieq curr 0 with
 | true=>rw [h]at hK;exact hK
 | false=>rw [h]at hK;exact⟨trivial,hK⟩
noncomputable def EB1:=(EB0c.addR 226 y0 KY).addR 287 yI J6
def YD(v:AVal)(g:aC Ob):Option (Prop×PLN):=match v,g with
 | .agg [.bool now,.int .i64 code,.bool okk,.int .i64 val,.int .i64 addr,.int .u64 old,.int .i64 nxt,.bool mark,.int .i64 pops],[]=>some (True,⟨now,code,okk,val,addr,old,nxt,mark,pops⟩)
 | _,_=>none
def O6(y:PLN):AVal:=.agg [.bool y.now,.I y.code,.bool y.okk,.I y.val,.I y.addr,.int .u64 y.old,.I y.nxt,.bool y.mark,.I y.pops]
theorem O5:bV (obI tbl) 0 YD (fun y=>.ret (O6 y) []):=by
 intro v g p x hp hq K hK;unfold YD at hp;split at hp
 case h_2=>cases hp
 simp only [sI',pI']at hp;obtain⟨rfl,rfl⟩:=hp;exact⟨⟨_,_,aGW _ _ _,hK⟩⟩
abbrev w02:Tr (PLN):=.pre True (.ret {now:=true,code:=0,okk:=false,val:=0,addr:=0,old:=0,nxt:=0,mark:=false,pops:=0})
abbrev w00(curr cw kd ky pred pw sh:Int):Tr (PLN):=.ite (ieq kd 5) (.ite (ieq curr 0) w02 (.pre True (.pre True (.ite (oU sh kd) (.pre True (.pre True (.pre True (.ret {now:=false,code:=0,okk:=true,val:=aA cw 0 10,addr:=pred,old:=pw,nxt:=aA cw 10 9,mark:=ieq (aA pw 19 1) 1,pops:=curr})))) (.pre True (.pre True (.ret {now:=false,code:=0,okk:=true,val:=aA cw 0 10,addr:=curr,old:=cw,nxt:=aA cw 10 9,mark:=true,pops:=0}))))))) (.ite (ieq kd 3) (.pre True (.pre True (.ret {now:=true,code:=0,okk:=gX ky curr cw,val:=0,addr:=0,old:=0,nxt:=0,mark:=false,pops:=0}))) w02)
abbrev w01(curr cw:Int):Tr (PLN):=.pre True (.pre True (.ret {now:=false,code:=0,okk:=true,val:=0,addr:=curr,old:=cw,nxt:=aA cw 10 9,mark:=true,pops:=0}))
abbrev w03(pred pw spare:Int):Tr (PLN):=.pre True (.pre True (.ret {now:=false,code:=0,okk:=true,val:=0,addr:=pred,old:=pw,nxt:=spare,mark:=ieq (aA pw 19 1) 1,pops:=0}))
def CS(sh kd ky pred pw curr cw spare:Int):Tr (PLN):=.pre True (.ite (!b9 sh kd ky) (.pre True (.ret {now:=true,code:=1,okk:=false,val:=0,addr:=0,old:=0,nxt:=0,mark:=false,pops:=0})) (.ite (ieq kd 4) (.ite (ieq kd 4) (w03 pred pw spare) (.ite (ieq kd 2) (.pre True (.ite (gX ky curr cw) (w01 curr cw) (w00 curr cw kd ky pred pw sh))) (w00 curr cw kd ky pred pw sh))) (.ite (ieq kd 1) (.pre True (.ite (!gX ky curr cw) (w03 pred pw spare) (.ite (ieq kd 2) (.pre True (.ite (gX ky curr cw) (w01 curr cw) (w00 curr cw kd ky pred pw sh))) (w00 curr cw kd ky pred pw sh)))) (.ite (ieq kd 2) (.pre True (.ite (gX ky curr cw) (w01 curr cw) (w00 curr cw kd ky pred pw sh))) (w00 curr cw kd ky pred pw sh)))))
def bL(sh kd ky pred pw curr cw spare:Int):PLN:=(CS sh kd ky pred pw curr cw spare).val
def u7(sh kd ky pred pw curr cw spare:Int):Prop:=(CS sh kd ky pred pw curr cw spare).ok
def planS:aI Ob:=fun args h=>match args,h with
 | [.agg [.int .i64 sh,.int .i64 kd,.int .i64 ky],.agg [.int .i64 pred,.int .u64 pw,.int .i64 curr,.int .u64 cw],.int .i64 spare],[]=>some (.pre (u7 sh kd ky pred pw curr cw spare) (.ret (O6 (bL sh kd ky pred pw curr cw spare)) []))
 | _,_=>none
theorem VX:sT' 256 planS:=by
 intro args h o ho K hK;unfold planS at ho;split at ho<;>cases ho
 rename_i sh kd ky pred pw curr cw spare;obtain⟨ok,hK⟩:=hK;refine aGX (root:=0) (pos:=[]) (cs:=[]) O5 ?_;exact cM' (E:=EB1) (q:=(CS sh kd ky pred pw curr cw spare).run (fun y=>(Out.ret (O6 y) []).run K)) (by kernel_rfl) (aGR ok hK)
def O7(v:AVal)(g:aC Ob):Option (Prop×Int):=match v,g with
 | .int .u64 x,[]=>some (True,x)
 | _,_=>none
def FL(y:Int):AVal:=.int .u64 y
theorem KB:bV (obI tbl) 0 O7 (fun y=>.ret (FL y) []):=by
 intro v g p x hp hq K hK;unfold O7 at hp;split at hp
 case h_2=>cases hp
 simp only [sI',pI']at hp;obtain⟨rfl,rfl⟩:=hp;exact⟨⟨_,_,aGW _ _ _,hK⟩⟩
def u9(now:Bool)(code:Int)(okk:Bool)(val:Int)(addr:Int)(old:Int)(nxt:Int)(mark:Bool)(pops:Int):Tr (Int):=.ite now (.pre True (.ret 0)) (.pre True (.pre ((-1000000:Int)≤(0:Int)∧(0:Int)≤(1000000:Int)) (.pre ((0:Int)≤aA old 25 18∧aA old 25 (18:Int)≤(1000000:Int)) (.pre True (.pre True (.ret (bif bif aK (aA old 0 10) 10 then bif aK nxt 9 then bif aK 0 5 then aK (aU (aA old 25 18)) 18 else false else false else false then cN (aA old 0 10) nxt mark 0 (aU (aA old 25 18))else 0)))))))
def dK(now:Bool)(code:Int)(okk:Bool)(val:Int)(addr:Int)(old:Int)(nxt:Int)(mark:Bool)(pops:Int):Int:=(u9 now code okk val addr old nxt mark pops).val
def yL(now:Bool)(code:Int)(okk:Bool)(val:Int)(addr:Int)(old:Int)(nxt:Int)(mark:Bool)(pops:Int):Prop:=(u9 now code okk val addr old nxt mark pops).ok
def planWS:aI Ob:=fun args h=>match args,h with
 | [.agg [.bool now,.int .i64 code,.bool okk,.int .i64 val,.int .i64 addr,.int .u64 old,.int .i64 nxt,.bool mark,.int .i64 pops]],[]=>some (.pre (yL now code okk val addr old nxt mark pops) (.ret (FL (dK now code okk val addr old nxt mark pops)) []))
 | _,_=>none
theorem O8:sT' 218 planWS:=by
 intro args h o ho K hK;unfold planWS at ho;split at ho<;>cases ho
 rename_i now code okk val addr old nxt mark pops;obtain⟨ok,hK⟩:=hK;refine aGX (root:=0) (pos:=[]) (cs:=[]) KB ?_;exact cM' (E:=EB1) (q:=(u9 now code okk val addr old nxt mark pops).run (fun y=>(Out.ret (FL y) []).run K)) (by kernel_rfl) (aGR ok hK)
def O1(v:AVal)(g:aC Ob):Option (Prop×Bool):=match v,g with
 | .bool x,[]=>some (True,x)
 | _,_=>none
def FJ(y:Bool):AVal:=.bool y
theorem J7:bV (obI tbl) 0 O1 (fun y=>.ret (FJ y) []):=by
 intro v g p x hp hq K hK;unfold O1 at hp;split at hp
 case h_2=>cases hp
 simp only [sI',pI']at hp;obtain⟨rfl,rfl⟩:=hp;exact⟨⟨_,_,aGW _ _ _,hK⟩⟩
def u4(now:Bool)(code:Int)(okk:Bool)(val:Int)(addr:Int)(old:Int)(nxt:Int)(mark:Bool)(pops:Int):Tr (Bool):=.ite (!now) (.pre True (.pre True (.ret !ieq (aA old 20 5) 0))) (.pre True (.ret false))
def yJ(now:Bool)(code:Int)(okk:Bool)(val:Int)(addr:Int)(old:Int)(nxt:Int)(mark:Bool)(pops:Int):Bool:=(u4 now code okk val addr old nxt mark pops).val
def oG(now:Bool)(code:Int)(okk:Bool)(val:Int)(addr:Int)(old:Int)(nxt:Int)(mark:Bool)(pops:Int):Prop:=(u4 now code okk val addr old nxt mark pops).ok
def planCS:aI Ob:=fun args h=>match args,h with
 | [.agg [.bool now,.int .i64 code,.bool okk,.int .i64 val,.int .i64 addr,.int .u64 old,.int .i64 nxt,.bool mark,.int .i64 pops]],[]=>some (.pre (oG now code okk val addr old nxt mark pops) (.ret (FJ (yJ now code okk val addr old nxt mark pops)) []))
 | _,_=>none
theorem O2:sT' 257 planCS:=by
 intro args h o ho K hK;unfold planCS at ho;split at ho<;>cases ho
 rename_i now code okk val addr old nxt mark pops;obtain⟨ok,hK⟩:=hK;refine aGX (root:=0) (pos:=[]) (cs:=[]) J7 ?_;exact cM' (E:=EB1) (q:=(u4 now code okk val addr old nxt mark pops).run (fun y=>(Out.ret (FJ y) []).run K)) (by kernel_rfl) (aGR ok hK)
def O3(v:AVal)(g:aC Ob):Option (Prop×(Int×Int)):=match v,g with
 | .tup [.int .u64 x,.int .i64 e],[]=>some (True,(x,e))
 | _,_=>none
def FK(y:(Int×Int)):AVal:=.tup [.int .u64 y.1,.I y.2]
theorem J8:bV (obI tbl) 0 O3 (fun y=>.ret (FK y) []):=by
 intro v g p x hp hq K hK;unfold O3 at hp;split at hp
 case h_2=>cases hp
 simp only [sI',pI']at hp;obtain⟨rfl,rfl⟩:=hp;exact⟨⟨_,_,aGW _ _ _,hK⟩⟩
def u6(now:Bool)(code:Int)(okk:Bool)(val:Int)(addr:Int)(old:Int)(nxt:Int)(mark:Bool)(pops:Int)(att:Int):Tr ((Int×Int)):=.ite now (.pre True (.ret (0,5))) (.pre True (.pre True (.pre True (.ret (bif dOk att addr (aA old 25 18) nxt 2 val then cM att addr (aA old 25 18) nxt mark 2 val else 0,bif dOk att addr (aA old 25 18) nxt 2 val then 0 else 2)))))
def gK(now:Bool)(code:Int)(okk:Bool)(val:Int)(addr:Int)(old:Int)(nxt:Int)(mark:Bool)(pops:Int)(att:Int):(Int×Int):=(u6 now code okk val addr old nxt mark pops att).val
def yK(now:Bool)(code:Int)(okk:Bool)(val:Int)(addr:Int)(old:Int)(nxt:Int)(mark:Bool)(pops:Int)(att:Int):Prop:=(u6 now code okk val addr old nxt mark pops att).ok
def planDS:aI Ob:=fun args h=>match args,h with
 | [.agg [.bool now,.int .i64 code,.bool okk,.int .i64 val,.int .i64 addr,.int .u64 old,.int .i64 nxt,.bool mark,.int .i64 pops],.int .i64 att],[]=>some (.pre (yK now code okk val addr old nxt mark pops att) (.ret (FK (gK now code okk val addr old nxt mark pops att)) []))
 | _,_=>none
theorem O4:sT' 202 planDS:=by
 intro args h o ho K hK;unfold planDS at ho;split at ho<;>cases ho
 rename_i now code okk val addr old nxt mark pops att;obtain⟨ok,hK⟩:=hK;refine aGX (root:=0) (pos:=[]) (cs:=[]) J8 ?_;exact cM' (E:=EB1) (q:=(u6 now code okk val addr old nxt mark pops att).run (fun y=>(Out.ret (FK y) []).run K)) (by kernel_rfl) (aGR ok hK)
noncomputable def EB2:=(((EB1.addS 256 planS VX).addS 218 planWS O8).addS 257 planCS O2).addS 202 planDS O4
abbrev aAq(x:ENS):aH Mc:=.cells [.ptr 1 0,.bool x.sh,.O,.O,.bool x.dn]
theorem TJ{t n:Int}{x:ENS}{st:STS}{s:MS} :aF (obI tbl) 4 (.bool true) [some (.abs (.ensure t n x) [1]),some (.abs (.store t n st) []),bE 3 s,bF s] (.bool true) [some (aAq x),some (.abs (.store t n st) []),bE 3 s,bF s]:=by
 obtain⟨ph,sh,dn,a,y⟩:=x
 match ph with
 | 0=>exact(aF.unpack (.ensure t n ⟨0,sh,dn,a,y⟩) 0 1 (DD t n ⟨0,sh,dn,a,y⟩) [1] rfl rfl (by kernel_rfl) rfl).trans ((aF.weak (cA _ 0 [2,3])).trans ((aF.pick (upto 0 4) rfl).trans (aGQ (by kernel_rfl) (by kernel_rfl))))
 | 1=>exact(aF.unpack (.ensure t n ⟨1,sh,dn,a,y⟩) 0 1 (DD t n ⟨1,sh,dn,a,y⟩) [1] rfl rfl (by kernel_rfl) rfl).trans ((aF.weak (cA _ 0 [2,3])).trans ((aF.pick (upto 0 4) rfl).trans (aGQ (by kernel_rfl) (by kernel_rfl))))
 | 2=>exact(aF.unpack (.ensure t n ⟨2,sh,dn,a,y⟩) 0 1 (DD t n ⟨2,sh,dn,a,y⟩) [1] rfl rfl (by kernel_rfl) rfl).trans ((aF.weak (cA _ 0 [2,3])).trans ((aF.pick (upto 0 4) rfl).trans (aGQ (by kernel_rfl) (by kernel_rfl))))
 | 3=>exact(aF.unpack (.ensure t n ⟨3,sh,dn,a,y⟩) 0 1 (DD t n ⟨3,sh,dn,a,y⟩) [1] rfl rfl (by kernel_rfl) rfl).trans ((aF.weak (cA _ 0 [2,3])).trans ((aF.pick (upto 0 4) rfl).trans (aGQ (by kernel_rfl) (by kernel_rfl))))
 | k+4=>exact(aF.unpack (.ensure t n ⟨k+4,sh,dn,a,y⟩) 0 1 (DD t n ⟨k+4,sh,dn,a,y⟩) [1] rfl rfl (by kernel_rfl) rfl).trans ((aF.weak (cA _ 0 [2,3])).trans ((aF.pick (upto 0 4) rfl).trans (aGQ (by kernel_rfl) (by kernel_rfl))))
def EO.fin(t n:Int)(y:EO):Out Ob:=.ite y.d (.ret (.bool true) [some (aAq y.e),some (.abs (.store t n y.st) []),bE 3 y.s,bF y.s]) (.ret (.bool false) [some (.abs (.ensure t n y.e) [1]),some (.abs (.store t n y.st) []),bE 3 y.s,bF y.s])
theorem AT(t n:Int)(e:ENS)(st:STS)(s:MS)(K:AVal→aC Ob→Prop)(ok:J1 t n e st s)(hK:((enF t n e st s).fin t n).run K):cT' 154 [.ptr 0 0,.ptr 2 0] (TG t n e st s) K:=by
 refine aGZ (GN t n e st s _ ok ?_);show eH (obI tbl) 4 K (.bool (enF t n e st s).d) _;generalize enF t n e st s=y at hK⊢;exact qP hK (fun h=>⟨⟨_,_,TJ,h⟩⟩) (fun h=>⟨⟨_,_,aGW _ _ _,h⟩⟩)
noncomputable def enSA:aI Ob:=fun args h=>match args,h with
 | [.ptr 0 0,.ptr 2 0],[some (.abs (.ensure t n x) [1]),some (.abs (.store t2 n2 st) []),e3,e4]=>(match cO 3 [e3,e4]with
   | some (l,s)=>some (.pre ((l=s.xs.length∧t2=t∧n2=n)∧J1 t n x st s) (EO.fin t n (enF t n x st s)))
   | none=>none)
 | _,_=>none
theorem aAx:sT' 154 enSA:=by
 intro args h o ho K hK;unfold enSA at ho;split at ho
 case h_2=>cases ho
 split at ho<;>cases ho
 rename_i hm;obtain⟨⟨⟨hl,rfl,rfl⟩,ok⟩,hK⟩:=hK;have hh:=bD hm hl;cases hh;exact AT _ _ _ _ _ K ok hK
def EO.finB(t n:Int)(y:EO):Out Ob:=.ite y.d (.ret (.bool true) [some (aAq y.e),iY 5 t n y.st,none,bE 4 y.s,bF y.s,iZ y.st]) (.ret (.bool false) [some (.abs (.ensure t n y.e) [1]),iY 5 t n y.st,none,bE 4 y.s,bF y.s,iZ y.st])
noncomputable def enSB:aI Ob:=fun args h=>match args,h with
 | [.ptr 0 0,.ptr 3 0],[some (.abs (.ensure t n x) [1]),e1,e2,e3,e4]=>(match lK 2 [e1,e2],cO 4 [e3,e4]with
   | some (l2,t2,n2,st),some (l,s)=>some (.pre ((l=s.xs.length∧l2=st.R.length∧t2=t∧n2=n)∧J1 t n x st s) (EO.finB t n (enF t n x st s)))
   | _,_=>none)
 | _,_=>none
theorem aAy:sT' 154 enSB:=by
 intro args h o ho K hK;unfold enSB at ho;split at ho
 case h_2=>cases ho
 split at ho<;>cases ho
 rename_i hs hm;obtain⟨⟨⟨hl,hl2,rfl,rfl⟩,ok⟩,hK⟩:=hK;have hh:=bD hm hl;cases hh;have hh:=cH hs hl2;cases hh;exact jR (fun ι hι=>by simp [aH.ren,aGY,AVal.ren,hι]) (fun ι hι=>by simp [aH.ren,hι]) (fun K hK=>AT _ _ _ _ _ K ok hK) K hK
noncomputable def enS2:aI Ob:=aI.or enSA enSB
theorem aAw:sT' 154 enS2:=aG9 aAx aAy
abbrev aCh(x:SWS):aH Mc:=.cells [.ptr 1 0,.O]
theorem WV{t n:Int}{x:SWS}{st:STS}{s:MS} :aF (obI tbl) 4 (.bool true) [some (.abs (.sweep t n x) [1]),some (.abs (.store t n st) []),bE 3 s,bF s] (.bool true) [some (aCh x),some (.abs (.store t n st) []),bE 3 s,bF s]:=by
 obtain⟨ph,N,m,i,ks,fs,gs,j,l⟩:=x
 match ph with
 | 0=>exact(aF.unpack (.sweep t n ⟨0,N,m,i,ks,fs,gs,j,l⟩) 0 1 (KR t n ⟨0,N,m,i,ks,fs,gs,j,l⟩) [1] rfl rfl (by kernel_rfl) rfl).trans ((aF.weak (cA _ 0 [1])).trans ((aF.pick (upto 0 4) rfl).trans (aGQ (by kernel_rfl) (by kernel_rfl))))
 | 1=>exact(aF.unpack (.sweep t n ⟨1,N,m,i,ks,fs,gs,j,l⟩) 0 1 (KR t n ⟨1,N,m,i,ks,fs,gs,j,l⟩) [1] rfl rfl (by kernel_rfl) rfl).trans ((aF.weak (cA _ 0 [1])).trans ((aF.pick (upto 0 4) rfl).trans (aGQ (by kernel_rfl) (by kernel_rfl))))
 | 2=>exact(aF.unpack (.sweep t n ⟨2,N,m,i,ks,fs,gs,j,l⟩) 0 1 (KR t n ⟨2,N,m,i,ks,fs,gs,j,l⟩) [1] rfl rfl (by kernel_rfl) rfl).trans ((aF.weak (cA _ 0 [1])).trans ((aF.pick (upto 0 4) rfl).trans (aGQ (by kernel_rfl) (by kernel_rfl))))
 | k+3=>exact(aF.unpack (.sweep t n ⟨k+3,N,m,i,ks,fs,gs,j,l⟩) 0 1 (KR t n ⟨k+3,N,m,i,ks,fs,gs,j,l⟩) [1] rfl rfl (by kernel_rfl) rfl).trans ((aF.weak (cA _ 0 [1])).trans ((aF.pick (upto 0 4) rfl).trans (aGQ (by kernel_rfl) (by kernel_rfl))))
def SO.fin(t n:Int)(y:SO):Out Ob:=.ite y.d (.ret (.bool true) [some (aCh y.e),some (.abs (.store t n y.st) []),bE 3 y.s,bF y.s]) (.ret (.bool false) [some (.abs (.sweep t n y.e) [1]),some (.abs (.store t n y.st) []),bE 3 y.s,bF y.s])
theorem C5(t n:Int)(e:SWS)(st:STS)(s:MS)(K:AVal→aC Ob→Prop)(ok:qL t n e st s)(hK:((swF t n e st s).fin t n).run K):cT' 169 [.ptr 0 0,.ptr 2 0] (swH t n e st s) K:=by
 refine aGZ (WW t n e st s _ ok ?_);show eH (obI tbl) 4 K (.bool (swF t n e st s).d) _;generalize swF t n e st s=y at hK⊢;exact qP hK (fun h=>⟨⟨_,_,WV,h⟩⟩) (fun h=>⟨⟨_,_,aGW _ _ _,h⟩⟩)
noncomputable def swSA:aI Ob:=fun args h=>match args,h with
 | [.ptr 0 0,.ptr 2 0],[some (.abs (.sweep t n x) [1]),some (.abs (.store t2 n2 st) []),e3,e4]=>(match cO 3 [e3,e4]with
   | some (l,s)=>some (.pre ((l=s.xs.length∧t2=t∧n2=n)∧qL t n x st s) (SO.fin t n (swF t n x st s)))
   | none=>none)
 | _,_=>none
theorem aCm:sT' 169 swSA:=by
 intro args h o ho K hK;unfold swSA at ho;split at ho
 case h_2=>cases ho
 split at ho<;>cases ho
 rename_i hm;obtain⟨⟨⟨hl,rfl,rfl⟩,ok⟩,hK⟩:=hK;have hh:=bD hm hl;cases hh;exact C5 _ _ _ _ _ K ok hK
def SO.finB(t n:Int)(y:SO):Out Ob:=.ite y.d (.ret (.bool true) [some (aCh y.e),iY 5 t n y.st,none,bE 4 y.s,bF y.s,iZ y.st]) (.ret (.bool false) [some (.abs (.sweep t n y.e) [1]),iY 5 t n y.st,none,bE 4 y.s,bF y.s,iZ y.st])
noncomputable def swSB:aI Ob:=fun args h=>match args,h with
 | [.ptr 0 0,.ptr 3 0],[some (.abs (.sweep t n x) [1]),e1,e2,e3,e4]=>(match lK 2 [e1,e2],cO 4 [e3,e4]with
   | some (l2,t2,n2,st),some (l,s)=>some (.pre ((l=s.xs.length∧l2=st.R.length∧t2=t∧n2=n)∧qL t n x st s) (SO.finB t n (swF t n x st s)))
   | _,_=>none)
 | _,_=>none
theorem aCn:sT' 169 swSB:=by
 intro args h o ho K hK;unfold swSB at ho;split at ho
 case h_2=>cases ho
 split at ho<;>cases ho
 rename_i hs hm;obtain⟨⟨⟨hl,hl2,rfl,rfl⟩,ok⟩,hK⟩:=hK;have hh:=bD hm hl;cases hh;have hh:=cH hs hl2;cases hh;exact jR (fun ι hι=>by simp [aH.ren,aGY,AVal.ren,hι]) (fun ι hι=>by simp [aH.ren,hι]) (fun K hK=>C5 _ _ _ _ _ K ok hK) K hK
noncomputable def swSC:aI Ob:=aI.or swSA swSB
theorem aCl:sT' 169 swSC:=aG9 aCm aCn
def aAs(t n:Int)(v:AVal)(g:aC Ob):Option (Prop×STS):=match v,g with
 | .ptr 2 0,[e1,e2,some (.cells [.ptr 0 0,.bool false,.raw (.pointer none),.raw (.pointer none),.bool false])]=>(match lK 1 [e1,e2]with
   | some (l2,t2,n2,st)=>some (t2=t∧n2=n∧l2=st.R.length,st)
   | none=>none)
 | _,_=>none
abbrev TH(t n:Int)(y:STS):aC Ob:=[iY 1 t n y,iZ y,some (.abs (.ensure t n aX) [0])]
theorem TI{t n:Int} :bV (obI tbl) 2 (aAs t n) (fun y=>.ret (.ptr 2 0) (TH t n y)):=by
 intro v g p x hp hq K hK;unfold aAs at hp;split at hp
 case h_2=>cases hp
 split at hp
 case h_2=>cases hp
 rename_i l2 t2 n2 st hs;simp only [sI',pI']at hp;obtain⟨rfl,rfl⟩:=hp;obtain⟨rfl,rfl,hl2⟩:=hq;have hh:=cH hs hl2;cases hh;exact⟨⟨_,_,aF.pack (TH t2 n2 st) (.ensure t2 n2 aX) 2 1 (DD t2 n2 aX) [0] (by kernel_rfl) rfl rfl (by kernel_rfl),hK⟩⟩
def aAt(t n:Int)(st:STS):Tr STS:=.pre (t=t∧n=n∧lE' st.3) (.ret st)
def enNS:aI Ob:=fun args h=>match args,h with
 | [.ptr 0 0],[e1,e2]=>(match lK 1 [e1,e2]with
   | some (l2,t,n,st)=>some (.pre (l2=st.R.length∧(aAt t n st).ok) (.ret (.ptr 2 0) (TH t n (aAt t n st).val)))
   | none=>none)
 | _,_=>none
theorem aAu:sT' 206 enNS:=by
 intro args h o ho K hK;unfold enNS at ho;split at ho
 case h_2=>cases ho
 split at ho<;>cases ho
 rename_i l2 t n st hs;obtain⟨⟨hl2,ok⟩,hK⟩:=hK;have hh:=cH hs hl2;cases hh;refine aGX (root:=2) (pos:=[]) (cs:=[]) (parse:=aAs t n) TI ?_;exact cM' (E:=EB2) (q:=(aAt t n st).run (fun y=>(Out.ret (.ptr 2 0) (TH t n y)).run K)) (by kernel_rfl) (aGR ok hK)
def aCi(t n:Int)(v:AVal)(g:aC Ob):Option (Prop×STS):=match v,g with
 | .ptr 2 0,[e1,e2,some (.cells [.ptr 0 0,.raw (.pointer none)])]=>(match lK 1 [e1,e2]with
   | some (l2,t2,n2,st)=>some (t2=t∧n2=n∧l2=st.R.length,st)
   | none=>none)
 | _,_=>none
abbrev WP(t n:Int)(y:STS):aC Ob:=[iY 1 t n y,iZ y,some (.abs (.sweep t n bN) [0])]
theorem WQ{t n:Int} :bV (obI tbl) 2 (aCi t n) (fun y=>.ret (.ptr 2 0) (WP t n y)):=by
 intro v g p x hp hq K hK;unfold aCi at hp;split at hp
 case h_2=>cases hp
 split at hp
 case h_2=>cases hp
 rename_i l2 t2 n2 st hs;simp only [sI',pI']at hp;obtain⟨rfl,rfl⟩:=hp;obtain⟨rfl,rfl,hl2⟩:=hq;have hh:=cH hs hl2;cases hh;exact⟨⟨_,_,aF.pack (WP t2 n2 st) (.sweep t2 n2 bN) 2 1 (KR t2 n2 bN) [0] (by kernel_rfl) rfl rfl (by kernel_rfl),hK⟩⟩
def aCj(t n:Int)(st:STS):Tr STS:=.pre (t=t∧n=n∧lE' st.3) (.ret st)
def swNS:aI Ob:=fun args h=>match args,h with
 | [.ptr 0 0],[e1,e2]=>(match lK 1 [e1,e2]with
   | some (l2,t,n,st)=>some (.pre (l2=st.R.length∧(aCj t n st).ok) (.ret (.ptr 2 0) (WP t n (aCj t n st).val)))
   | none=>none)
 | _,_=>none
theorem aCk:sT' 167 swNS:=by
 intro args h o ho K hK;unfold swNS at ho;split at ho
 case h_2=>cases ho
 split at ho<;>cases ho
 rename_i l2 t n st hs;obtain⟨⟨hl2,ok⟩,hK⟩:=hK;have hh:=cH hs hl2;cases hh;refine aGX (root:=2) (pos:=[]) (cs:=[]) (parse:=aCi t n) WQ ?_;exact cM' (E:=EB2) (q:=(aCj t n st).run (fun y=>(Out.ret (.ptr 2 0) (WP t n y)).run K)) (by kernel_rfl) (aGR ok hK)
noncomputable def EB3:=(((EB2.addS 154 enS2 aAw).addS 169 swSC aCl).addS 206 enNS aAu).addS 167 swNS aCk
structure ClO where
 d:Bool
 x:CLS
 s:MS
instance:Inhabited ClO:=⟨⟨false,⟨0,0,0,0⟩,⟨0,0,[],0,0,0,0,0,false⟩⟩⟩
instance:Inhabited CLS:=⟨⟨0,0,0,0⟩⟩
abbrev clH(t n:Int)(x:CLS)(s:MS):aC Ob:=[some (.abs (.clear t n x) []),bE 2 s,bF s]
abbrev clD(t n:Int)(x:CLS)(s:MS):aC Ob:=[cE' [.I t,.I n,.I x.addr,.I x.at',.int .u64 x.word,.int .u64 x.found],bE 2 s,bF s]
def ClO.fin(t n:Int)(y:ClO):Out Ob:=.ite y.d (.ret (.bool true) (clD t n y.x y.s)) (.ret (.bool false) (clH t n y.x y.s))
def ZN(t n:Int)(v:AVal)(g:aC Ob):Option (Prop×ClO):=match v,g with
 | .bool d,[some (.cells [.int .i64 t1,.int .i64 n1,.int .i64 addr,.int .i64 at',.int .u64 word,.int .u64 found]),e1,e2]=>(match cO 2 [e1,e2]with
   | some (l,s)=>some ((t1=t∧n1=n)∧l=s.xs.length,⟨d,⟨addr,at',word,found⟩,s⟩)
   | none=>none)
 | _,_=>none
def QX(t n:Int)(v:AVal)(g:aC Ob):Option (Prop×ClO):=ZN t n v g
theorem R7{t n:Int} :bV (obI tbl) 3 (ZN t n) (ClO.fin t n):=by
 intro v g p x hp hq K hK;unfold ZN at hp;split at hp
 case h_2=>cases hp
 rename_i d t1 n1 addr at' word found e1 e2;split at hp
 case h_2=>cases hp
 rename_i l s hm;simp only [sI',pI']at hp;obtain⟨rfl,rfl⟩:=hp;obtain⟨⟨rfl,rfl⟩,hl⟩:=hq;have hh:=bD hm hl;cases hh;refine qP hK (fun h=>?_) (fun h=>?_)
 ·exact⟨⟨_,_,aGW _ _ _,h⟩⟩
 ·exact⟨⟨_,_,(aF.pack (clH t1 n1 (⟨addr,at',word,found⟩:CLS) s) (.clear t1 n1 (⟨addr,at',word,found⟩:CLS)) 0 0 (lZ t1 n1 (⟨addr,at',word,found⟩:CLS)) [] (by kernel_rfl) rfl (congrArg (Prod.mk 0) rfl) (by kernel_rfl)),h⟩⟩
theorem xU{t n:Int} :bV (obI tbl) 3 (QX t n) (ClO.fin t n):=by
 intro v g p x hp hq K hK;unfold QX at hp;exact R7 v g p x hp hq K hK
def zX(t n:Int)(x:CLS)(s:MS):Tr ClO:=.pre (lE' s.3∧(0:Int)≤s.4∧s.4≤(4611686018427387904:Int)) (.pre True (.ite (ilt (aA (aE s.3 x.1) 20 5 - 1) 0) (.pre ((t=t∧n=n)∧lE' s.3) (.ret {d:=true,x:= {addr:=x.1,at':=1,word:=aE s.3 x.1,found:=x.4},s:= {s with c:=s.4+1,k:=1,a:=x.1,o:=aE s.3 x.1,w:=aE s.3 x.1,ok:=bT s.3 x.1} })) (.pre ((t=t∧n=n)∧lE' s.3) (.ret {d:=ile t (aA (aE s.3 x.1) 20 5 - 1),x:= {addr:=x.1,at':=1,word:=aE s.3 x.1,found:=x.4},s:= {s with c:=s.4+1,k:=1,a:=x.1,o:=aE s.3 x.1,w:=aE s.3 x.1,ok:=bT s.3 x.1} }))))
theorem H2(t n:Int)(x:CLS)(s:MS)(K:ClO→Prop)(h:(zX t n x s).run K):cT' 214 [.ptr 0 0,.ptr 1 0] [cE' [.I t,.I n,.I x.addr,.I 0,.int .u64 x.word,.int .u64 x.found],bE 2 s,bF s] (bP 3 0 [] [] (QX t n) K):=by
 exact cM' (E:=EB3) (by kernel_rfl) h
abbrev w05(x:CLS):=aA x.3 20 5 - 1
abbrev w04(n:Int)(s:MS)(t:Int)(x:CLS):Tr ClO:=.ret {d:=false,x:= {addr:=x.1,at':=3,word:=x.3,found:=aE s.3 (2*n+5+2*t+3*(w05 x)+2) },s:= {s with c:=s.4+1,k:=1,a:=2*n+5+2*t+3*(w05 x)+2,o:=aE s.3 (2*n+5+2*t+3*(w05 x)+2),w:=aE s.3 (2*n+5+2*t+3*(w05 x)+2),ok:=bT s.3 (2*n+5+2*t+3*(w05 x)+2) } }
abbrev w06(n t:Int)(x:CLS):=(((0:Int)≤t∧t≤(100000:Int))∧((0:Int)≤n∧n≤(100000:Int))∧(-1099511627776:Int)≤aA x.3 20 5 - 1∧aA x.3 20 5 - (1:Int)≤(1099511627776:Int))∧True
def zY(t n:Int)(x:CLS)(s:MS):Tr ClO:=.pre True (.pre (w06 n t x) (.pre ((lE' s.3∧(0:Int)≤s.4∧s.4≤(4611686018427387904:Int))∧True) (.pre True (.ite (hasB [2] (aA (aE s.3 (2*n+5+2*t+3*(w05 x)+2)) 49 3)) (.ite (ieq (aA (aE s.3 (2*n+5+2*t+3*(w05 x)+2)) 12 9) x.1) (.pre True (.ite (ieq (aA (aE s.3 (2*n+5+2*t+3*(w05 x)+2)) 21 18) (aA x.3 25 18)) (.pre ((t=t∧n=n)∧lE' s.3) (.ret {d:=false,x:= {addr:=x.1,at':=2,word:=x.3,found:=aE s.3 (2*n+5+2*t+3*(w05 x)+2) },s:= {s with c:=s.4+1,k:=1,a:=2*n+5+2*t+3*(w05 x)+2,o:=aE s.3 (2*n+5+2*t+3*(w05 x)+2),w:=aE s.3 (2*n+5+2*t+3*(w05 x)+2),ok:=bT s.3 (2*n+5+2*t+3*(w05 x)+2) } })) (.pre ((t=t∧n=n)∧lE' s.3) (w04 n s t x)))) (.pre ((t=t∧n=n)∧lE' s.3) (w04 n s t x))) (.pre ((t=t∧n=n)∧lE' s.3) (w04 n s t x))))))
theorem H3(t n:Int)(x:CLS)(s:MS)(K:ClO→Prop)(h:(zY t n x s).run K):cT' 214 [.ptr 0 0,.ptr 1 0] [cE' [.I t,.I n,.I x.addr,.I 1,.int .u64 x.word,.int .u64 x.found],bE 2 s,bF s] (bP 3 0 [] [] (QX t n) K):=by
 exact cM' (E:=EB3) (by kernel_rfl) h
def zZ(t n:Int)(x:CLS)(s:MS):Tr ClO:=.pre True (.pre True (.pre True (.pre True (.pre (w06 n t x) (.pre ((lE' s.3∧(0:Int)≤s.4∧s.4≤(4611686018427387904:Int))∧True) (.pre ((t=t∧n=n)∧lE' (bif aW s.3 (2*n+5+2*t+3*(w05 x)+2) x.4 then aY s.3 (2*n+5+2*t+3*(w05 x)+2) (bif dOk (aA x.4 0 12) (aA x.4 12 9) (aA x.4 21 18) (aA x.4 39 9) 3 (aA x.4 52 10)then cM (aA x.4 0 12) (aA x.4 12 9) (aA x.4 21 18) (aA x.4 39 9) (ieq (aA x.4 48 1) 1) 3 (aA x.4 52 10)else 0)else s.3)) (.ret {d:=false,x:= {x with at':=3},s:= {t:=s.1,n:=s.2,xs:=bif aW s.3 (2*n+5+2*t+3*(w05 x)+2) x.4 then aY s.3 (2*n+5+2*t+3*(w05 x)+2) (bif dOk (aA x.4 0 12) (aA x.4 12 9) (aA x.4 21 18) (aA x.4 39 9) 3 (aA x.4 52 10)then cM (aA x.4 0 12) (aA x.4 12 9) (aA x.4 21 18) (aA x.4 39 9) (ieq (aA x.4 48 1) 1) 3 (aA x.4 52 10)else 0)else s.3,c:=s.4+1,k:=3,a:=2*n+5+2*t+3*(w05 x)+2,o:=aE s.3 (2*n+5+2*t+3*(w05 x)+2),w:=bif bT s.3 (2*n+5+2*t+3*(w05 x)+2)then bif dOk (aA x.4 0 12) (aA x.4 12 9) (aA x.4 21 18) (aA x.4 39 9) 3 (aA x.4 52 10)then cM (aA x.4 0 12) (aA x.4 12 9) (aA x.4 21 18) (aA x.4 39 9) (ieq (aA x.4 48 1) 1) 3 (aA x.4 52 10)else 0 else 0,ok:=aW s.3 (2*n+5+2*t+3*(w05 x)+2) x.4} })))))))
theorem H4(t n:Int)(x:CLS)(s:MS)(K:ClO→Prop)(h:(zZ t n x s).run K):cT' 214 [.ptr 0 0,.ptr 1 0] [cE' [.I t,.I n,.I x.addr,.I 2,.int .u64 x.word,.int .u64 x.found],bE 2 s,bF s] (bP 3 0 [] [] (QX t n) K):=by
 exact cM' (E:=EB3) (by kernel_rfl) h
abbrev w07(x:CLS):=aU (aA x.3 25 18)
def z6(t n:Int)(x:CLS)(s:MS):Tr ClO:=.pre True (.pre ((0:Int)≤aA x.3 25 18∧aA x.3 25 (18:Int)≤(1000000:Int)) (.pre True (.pre ((lE' s.3∧(0:Int)≤s.4∧s.4≤(4611686018427387904:Int))∧True) (.pre ((t=t∧n=n)∧lE' (bif aW s.3 x.1 x.3 then aY s.3 x.1 (bif bif aK (aA x.3 0 10) 10 then bif aK (aA x.3 10 9) 9 then bif aK 0 5 then aK (w07 x) 18 else false else false else false then cN (aA x.3 0 10) (aA x.3 10 9) (ieq (aA x.3 19 1) 1) 0 (w07 x)else 0)else s.3)) (.ret {d:=true,x:= {x with at':=3},s:= {t:=s.1,n:=s.2,xs:=bif aW s.3 x.1 x.3 then aY s.3 x.1 (bif bif aK (aA x.3 0 10) 10 then bif aK (aA x.3 10 9) 9 then bif aK 0 5 then aK (w07 x) 18 else false else false else false then cN (aA x.3 0 10) (aA x.3 10 9) (ieq (aA x.3 19 1) 1) 0 (w07 x)else 0)else s.3,c:=s.4+1,k:=3,a:=x.1,o:=aE s.3 x.1,w:=bif bT s.3 x.1 then bif bif aK (aA x.3 0 10) 10 then bif aK (aA x.3 10 9) 9 then bif aK 0 5 then aK (w07 x) 18 else false else false else false then cN (aA x.3 0 10) (aA x.3 10 9) (ieq (aA x.3 19 1) 1) 0 (w07 x)else 0 else 0,ok:=aW s.3 x.1 x.3} })))))
theorem H5(t n:Int)(x:CLS)(s:MS)(K:ClO→Prop)(h:(z6 t n x s).run K):cT' 214 [.ptr 0 0,.ptr 1 0] [cE' [.I t,.I n,.I x.addr,.I 3,.int .u64 x.word,.int .u64 x.found],bE 2 s,bF s] (bP 3 0 [] [] (QX t n) K):=by
 exact cM' (E:=EB3) (by kernel_rfl) h
def clT(t n:Int)(x:CLS)(s:MS):Tr ClO:=
 bif ieq x.at' 0 then zX t n x s else
 bif ieq x.at' 1 then zY t n x s else
 bif ieq x.at' 2 then zZ t n x s else
 bif ieq x.at' 3 then z6 t n x s else .pre False (.ret default)
def oP(t n:Int)(x:CLS)(s:MS):ClO:=(clT t n x s).val
def LY(t n:Int)(x:CLS)(s:MS):Prop:=(clT t n x s).ok
theorem R8(t n:Int)(x:CLS)(s:MS)(K:AVal→aC Ob→Prop)(h:(clT t n x s).run (fun y=>(ClO.fin t n y).run K)):cT' 214 [.ptr 0 0,.ptr 1 0] (clH t n x s) K:=by
 unfold clT at h
 by_cases e:x.at'=0
 ·rw [e]at h;have h:(zX t n x s).run _:=h;refine aGL (root:=0) (pos:=[]) (cs:=[]) (parse:=QX t n) (fin:=ClO.fin t n) xU (aS.unpack (.clear t n x) 0 0 (lZ t n x) [] rfl (congrArg (Prod.mk 0) rfl) (by kernel_rfl) rfl) ?_
  have q:=H2 t n x s _ h;rw [←e]at q;exact q
 rw [bK e]at h
 by_cases e:x.at'=1
 ·rw [e]at h;have h:(zY t n x s).run _:=h;refine aGL (root:=0) (pos:=[]) (cs:=[]) (parse:=QX t n) (fin:=ClO.fin t n) xU (aS.unpack (.clear t n x) 0 0 (lZ t n x) [] rfl (congrArg (Prod.mk 0) rfl) (by kernel_rfl) rfl) ?_
  have q:=H3 t n x s _ h;rw [←e]at q;exact q
 rw [bK e]at h
 by_cases e:x.at'=2
 ·rw [e]at h;have h:(zZ t n x s).run _:=h;refine aGL (root:=0) (pos:=[]) (cs:=[]) (parse:=QX t n) (fin:=ClO.fin t n) xU (aS.unpack (.clear t n x) 0 0 (lZ t n x) [] rfl (congrArg (Prod.mk 0) rfl) (by kernel_rfl) rfl) ?_
  have q:=H4 t n x s _ h;rw [←e]at q;exact q
 rw [bK e]at h
 by_cases e:x.at'=3
 ·rw [e]at h;have h:(z6 t n x s).run _:=h;refine aGL (root:=0) (pos:=[]) (cs:=[]) (parse:=QX t n) (fin:=ClO.fin t n) xU (aS.unpack (.clear t n x) 0 0 (lZ t n x) [] rfl (congrArg (Prod.mk 0) rfl) (by kernel_rfl) rfl) ?_
  have q:=H5 t n x s _ h;rw [←e]at q;exact q
 rw [bK e]at h;exact h.1.elim
noncomputable def clS:aI Ob:=fun args h=>match args,h with
 | [.ptr 0 0,.ptr 1 0],[some (.abs (.clear t n x) []),e1,e2]=>(match cO 2 [e1,e2]with
   | some (l,s)=>some (.pre (l=s.xs.length∧LY t n x s) (ClO.fin t n (oP t n x s)))
   | none=>none)
 | _,_=>none
theorem aDb:sT' 214 clS:=by
 intro args h o ho K hK;unfold clS at ho;split at ho
 case h_2=>cases ho
 split at ho<;>cases ho
 rename_i hm;obtain⟨⟨hl,ok⟩,hK⟩:=hK;have hh:=bD hm hl;cases hh;exact R8 _ _ _ _ K (aGR ok hK)
def ZK(t n:Int)(v:AVal)(g:aC Ob):Option (Prop×CLS):=match v,g with
 | .ptr 0 0,[some (.cells [.int .i64 t1,.int .i64 n1,.int .i64 addr,.int .i64 at',.int .u64 word,.int .u64 found])]=>some ((t1=t∧n1=n),(⟨addr,at',word,found⟩:CLS))
 | _,_=>none
abbrev R0(t n:Int)(y:CLS):aC Ob:=[some (.abs (.clear t n y) [])]
theorem R6{t n:Int} :bV (obI tbl) 0 (ZK t n) (fun y=>.ret (.ptr 0 0) (R0 t n y)):=by
 intro v g p x hp hq K hK;unfold ZK at hp;split at hp
 case h_2=>cases hp
 rename_i t1 n1 addr at' word found;simp only [sI',pI']at hp;obtain⟨rfl,rfl⟩:=hp;obtain⟨rfl,rfl⟩:=hq;exact⟨⟨_,_,aF.pack (R0 t1 n1 (⟨addr,at',word,found⟩:CLS)) (.clear t1 n1 (⟨addr,at',word,found⟩:CLS)) 0 0 (lZ t1 n1 (⟨addr,at',word,found⟩:CLS)) [] (by kernel_rfl) rfl (congrArg (Prod.mk 0) rfl) (by kernel_rfl),hK⟩⟩
def ZL(t n:Int)(a:Int):Tr CLS:=.pre (t=t∧n=n) (.ret {addr:=a,at':=0,word:=0,found:=0})
def xT(t n:Int)(a:Int):CLS:=(ZL t n a).val
def pT(t n:Int)(a:Int):Prop:=(ZL t n a).ok
def clNS:aI Ob:=fun args h=>match args,h with
 | [.agg [.int .i64 t,.int .i64 n],.int .i64 a],[]=>some (.pre (pT t n a) (.ret (.ptr 0 0) (R0 t n (xT t n a))))
 | _,_=>none
theorem ZM:sT' 258 clNS:=by
 intro args h o ho K hK;unfold clNS at ho;split at ho<;>cases ho
 rename_i t n a;obtain⟨ok,hK⟩:=hK;refine aGX (root:=0) (pos:=[]) (cs:=[]) (parse:=ZK t n) R6 ?_;exact cM' (E:=EB3) (q:=(ZL t n a).run (fun y=>(Out.ret (.ptr 0 0) (R0 t n y)).run K)) (by kernel_rfl) (aGR ok hK)
noncomputable def EC1:=((EB3.addS 214 clS aDb).addS 258 clNS ZM)
def cmpI(a b:Int):Int:=bif ilt a b then -1 else bif ilt b a then 1 else 0
def orI(a b:Int):Int:=bif ieq a 0 then b else a
def CW(u n v m:Int):Int:=orI (cmpI n m) (cmpI u v)
def L0:bI Ob:=fun args h=>match args,h with
 | [.int .i64 a,.int .i64 b],[]=>some (True,.I (cmpI a b))
 | _,_=>none
theorem R9:sT' 280 L0.spec:=by
 intro args h o ho K hK;unfold bI.spec L0 at ho;split at ho
 case h_2=>cases ho
 rename_i p v hp;split at hp
 case h_2=>cases hp
 rename_i a b;simp only [sI',pI']at hp;obtain⟨rfl,rfl⟩:=hp;simp only [sI']at ho;subst ho;obtain⟨hp,hK⟩:=hK;have hK:K (.I (cmpI a b)) []:=hK;refine aGK (cM' (E:=EC1) (q:=bif !ieq a a then bif !ieq b b then K (.I 0) []else K (.I (-1:Int)) []else bif !ieq b b then K (.I 1) []else bif ilt a b then K (.I (-1:Int)) []else bif ilt b a then K (.I 1) []else K (.I 0) []) (by kernel_rfl) ?_)
 unfold cmpI at hK;rw [qG,qG];cases h:ilt a b with
 | true=>rw [h]at hK;exact hK
 | false=>cases h2:ilt b a<;>(rw [h,h2]at hK;exact hK)
def L2:bI Ob:=fun args h=>match args,h with
 | [.int .u64 a,.int .u64 b],[]=>some (True,.I (cmpI a b))
 | _,_=>none
theorem SB:sT' 279 L2.spec:=by
 intro args h o ho K hK;unfold bI.spec L2 at ho;split at ho
 case h_2=>cases ho
 rename_i p v hp;split at hp
 case h_2=>cases hp
 rename_i a b;simp only [sI',pI']at hp;obtain⟨rfl,rfl⟩:=hp;simp only [sI']at ho;subst ho;obtain⟨hp,hK⟩:=hK;have hK:K (.I (cmpI a b)) []:=hK;refine aGK (cM' (E:=EC1) (q:=bif !ieq a a then bif !ieq b b then K (.I 0) []else K (.I (-1:Int)) []else bif !ieq b b then K (.I 1) []else bif ilt a b then K (.I (-1:Int)) []else bif ilt b a then K (.I 1) []else K (.I 0) []) (by kernel_rfl) ?_)
 unfold cmpI at hK;rw [qG,qG];cases h:ilt a b with
 | true=>rw [h]at hK;exact hK
 | false=>cases h2:ilt b a<;>(rw [h,h2]at hK;exact hK)
def L1:bI Ob:=fun args h=>match args,h with
 | [.slice 0 0 2 1],[some (.cells [.int .i64 a,.int .i64 b])]=>some (True,.I (orI a b))
 | _,_=>none
theorem SA:sT' 278 L1.spec:=by
 intro args h o ho K hK;unfold bI.spec L1 at ho;split at ho
 case h_2=>cases ho
 rename_i p v hp;split at hp
 case h_2=>cases hp
 rename_i a b;simp only [sI',pI']at hp;obtain⟨rfl,rfl⟩:=hp;simp only [sI']at ho;subst ho;obtain⟨hp,hK⟩:=hK;have hK:K (.I (orI a b)) [cE' [.I a,.I b]]:=hK;refine aGK (cM' (E:=EC1) (q:=((0:Int)≤(0:Int)∧(0:Int)<(↑2:Int))∧bif !ieq a 0 then K (.I a) [cE' [.I a,.I b]]else((0:Int)≤W (0+1)∧W (0+1)<(↑2:Int))∧bif !ieq b 0 then K (.I b) [cE' [.I a,.I b]]else K (.I 0) [cE' [.I a,.I b]]) (by kernel_rfl) ?_)
 unfold orI at hK;have e1:W (0+1)=1:=by decide
 simp only [W]at e1;simp only [W,e1];refine⟨by omega,?_⟩
 cases h:ieq a 0 with
 | false=>rw [h]at hK;exact hK
 | true=>
   rw [h]at hK;refine⟨by omega,?_⟩
   cases h2:ieq b 0 with
   | false=>exact hK
   | true=>
     have:b=0:=by rw [cX]at h2;simpa using h2
     subst this;exact hK
noncomputable def EQ1:=((EC1.addR 280 L0 R9).addR 279 L2 SB).addR 278 L1 SA
def PI:bI Ob:=fun args h=>match args,h with
 | [.agg [.int .i64 u,.int .u64 n],.agg [.int .i64 v,.int .u64 m]],[]=>some (True,.I (CW u n v m))
 | _,_=>none
theorem WC:sT' 244 PI.spec:=by
 intro args h o ho K hK;unfold bI.spec PI at ho;split at ho
 case h_2=>cases ho
 rename_i p v hp;split at hp
 case h_2=>cases hp
 rename_i u n v m;simp only [sI',pI']at hp;obtain⟨rfl,rfl⟩:=hp;simp only [sI']at ho;subst ho;obtain⟨hp,hK⟩:=hK;have hK:K (.I (CW u n v m)) []:=hK;refine aGK (cM' (E:=EQ1) (q:=True∧True∧True∧K (.I (orI (cmpI n m) (cmpI u v))) []) (by kernel_rfl) ?_)
 exact⟨trivial,trivial,trivial,hK⟩
noncomputable def EQ2:=EQ1.addR 244 PI WC
def yN(u n v m:Int):Bool:=!ile 0 (CW u n v m)
def FM:bI Ob:=fun args h=>match args,h with
 | [.slice 0 0 2 2],[some (.cells [.int .i64 u,.int .u64 n,.int .i64 v,.int .u64 m])]=>some (True,.bool (yN u n v m))
 | _,_=>none
theorem PJ:sT' 195 FM.spec:=by
 intro args h o ho K hK;unfold bI.spec FM at ho;split at ho
 case h_2=>cases ho
 rename_i p v hp;split at hp
 case h_2=>cases hp
 rename_i u n v m;simp only [sI',pI']at hp;obtain⟨rfl,rfl⟩:=hp;simp only [sI']at ho;subst ho;obtain⟨hp,hK⟩:=hK;have hK:K (.bool (yN u n v m)) [cE' [.I u,.int .u64 n,.I v,.int .u64 m]]:=hK;refine aGK (cM' (E:=EQ2) (q:=((0:Int)≤W (1 - 1)∧W (1 - 1)<(↑2:Int))∧((0:Int)≤(1:Int)∧(1:Int)<(↑2:Int))∧True∧bif ile 0 (CW u n v m)then K (.bool false) [cE' [.I u,.int .u64 n,.I v,.int .u64 m]]else K (.bool true) [cE' [.I u,.int .u64 n,.I v,.int .u64 m]]) (by kernel_rfl) ?_)
 have e1:W (1 - 1)=0:=by decide
 simp only [W]at e1;simp only [W,e1];refine⟨by omega,by omega,trivial,?_⟩
 unfold yN at hK;cases h:ile 0 (CW u n v m)<;>(rw [h]at hK;exact hK)
noncomputable def EQ:=EQ2.addR 195 FM PJ
structure HdO where
 d:Bool
 x:HDS
 s:MS
instance:Inhabited HdO:=⟨⟨false,⟨0,0,0,false⟩,⟨0,0,[],0,0,0,0,0,false⟩⟩⟩
instance:Inhabited HDS:=⟨⟨0,0,0,false⟩⟩
abbrev hdH(t n:Int)(x:HDS)(s:MS):aC Ob:=[some (.abs (.head t n x) []),bE 2 s,bF s]
abbrev hdD(t n:Int)(x:HDS)(s:MS):aC Ob:=[cE' [.I t,.I n,.I x.u,.int .u64 x.no,.I x.at',.bool x.tk],bE 2 s,bF s]
def HdO.fin(t n:Int)(y:HdO):Out Ob:=.ite y.d (.ret (.bool true) (hdD t n y.x y.s)) (.ret (.bool false) (hdH t n y.x y.s))
def aBl(t n:Int)(v:AVal)(g:aC Ob):Option (Prop×HdO):=match v,g with
 | .bool d,[some (.cells [.int .i64 t1,.int .i64 n1,.int .i64 u,.int .u64 no,.int .i64 at',.bool tk]),e1,e2]=>(match cO 2 [e1,e2]with
   | some (l,s)=>some ((t1=t∧n1=n)∧l=s.xs.length,⟨d,⟨u,no,at',tk⟩,s⟩)
   | none=>none)
 | _,_=>none
def hdP(t n:Int)(v:AVal)(g:aC Ob):Option (Prop×HdO):=aBl t n v g
theorem UU{t n:Int} :bV (obI tbl) 3 (aBl t n) (HdO.fin t n):=by
 intro v g p x hp hq K hK;unfold aBl at hp;split at hp
 case h_2=>cases hp
 rename_i d t1 n1 u no at' tk e1 e2;split at hp
 case h_2=>cases hp
 rename_i l s hm;simp only [sI',pI']at hp;obtain⟨rfl,rfl⟩:=hp;obtain⟨⟨rfl,rfl⟩,hl⟩:=hq;have hh:=bD hm hl;cases hh;refine qP hK (fun h=>?_) (fun h=>?_)
 ·exact⟨⟨_,_,aGW _ _ _,h⟩⟩
 ·exact⟨⟨_,_,(aF.pack (hdH t1 n1 (⟨u,no,at',tk⟩:HDS) s) (.head t1 n1 (⟨u,no,at',tk⟩:HDS)) 0 0 (yB t1 n1 (⟨u,no,at',tk⟩:HDS)) [] (by kernel_rfl) rfl (congrArg (Prod.mk 0) rfl) (by kernel_rfl)),h⟩⟩
theorem aBm{t n:Int} :bV (obI tbl) 3 (hdP t n) (HdO.fin t n):=by
 intro v g p x hp hq K hK;unfold hdP at hp;exact UU v g p x hp hq K hK
abbrev w08(n:Int)(s:MS)(t:Int)(x:HDS):Tr HdO:=.ret {d:=ile t (W (x.3+1)),x:= {u:=x.3,no:=aE s.3 (2*n+5+2*t+3*x.3),at':=W (x.3+1),tk:=false},s:= {s with c:=s.4+1,k:=1,a:=2*n+5+2*t+3*x.3,o:=aE s.3 (2*n+5+2*t+3*x.3),w:=aE s.3 (2*n+5+2*t+3*x.3),ok:=bT s.3 (2*n+5+2*t+3*x.3) } }
abbrev w09(n t:Int)(x:HDS):=(((0:Int)≤t∧t≤(100000:Int))∧((0:Int)≤n∧n≤(100000:Int))∧(-1099511627776:Int)≤x.3∧x.3≤(1099511627776:Int))∧True
def UV(t n:Int)(x:HDS)(s:MS):Tr HdO:=.ite (!x.4) (.pre (w09 n t x) (.pre ((lE' s.3∧(0:Int)≤s.4∧s.4≤(4611686018427387904:Int))∧True) (.pre True (.pre True (.ite (!nN (aA (aE s.3 (2*n+5+2*t+3*x.3+2)) 49 3)) (.pre ((t=t∧n=n)∧lE' s.3) (.ret {d:=ile t (W (x.3+1)),x:= {u:=x.1,no:=x.2,at':=W (x.3+1),tk:=false},s:= {s with c:=s.4+1,k:=1,a:=2*n+5+2*t+3*x.3+2,o:=aE s.3 (2*n+5+2*t+3*x.3+2),w:=aE s.3 (2*n+5+2*t+3*x.3+2),ok:=bT s.3 (2*n+5+2*t+3*x.3+2) } })) (.pre ((t=t∧n=n)∧lE' s.3) (.ret {d:=false,x:= {x with tk:=nN (aA (aE s.3 (2*n+5+2*t+3*x.3+2)) 49 3) },s:= {s with c:=s.4+1,k:=1,a:=2*n+5+2*t+3*x.3+2,o:=aE s.3 (2*n+5+2*t+3*x.3+2),w:=aE s.3 (2*n+5+2*t+3*x.3+2),ok:=bT s.3 (2*n+5+2*t+3*x.3+2) } }))))))) (.pre (w09 n t x) (.pre ((lE' s.3∧(0:Int)≤s.4∧s.4≤(4611686018427387904:Int))∧True) (.ite (ilt x.1 0) (.pre ((t=t∧n=n)∧lE' s.3) (w08 n s t x)) (.pre True (.ite (yN x.3 (aE s.3 (2*n+5+2*t+3*x.3)) x.1 x.2) (.pre ((t=t∧n=n)∧lE' s.3) (w08 n s t x)) (.pre ((t=t∧n=n)∧lE' s.3) (.ret {d:=ile t (W (x.3+1)),x:= {u:=x.1,no:=x.2,at':=W (x.3+1),tk:=false},s:= {s with c:=s.4+1,k:=1,a:=2*n+5+2*t+3*x.3,o:=aE s.3 (2*n+5+2*t+3*x.3),w:=aE s.3 (2*n+5+2*t+3*x.3),ok:=bT s.3 (2*n+5+2*t+3*x.3) } })))))))
theorem OB(t n:Int)(x:HDS)(s:MS)(K:HdO→Prop)(h:(UV t n x s).run K):cT' 150 [.ptr 0 0,.ptr 1 0] [cE' [.I t,.I n,.I x.u,.int .u64 x.no,.I x.at',.bool x.tk],bE 2 s,bF s] (bP 3 0 [] [] (hdP t n) K):=by
 exact cM' (E:=EQ) (by kernel_rfl) h
def hdT(t n:Int)(x:HDS)(s:MS):Tr HdO:=UV t n x s
def pO(t n:Int)(x:HDS)(s:MS):HdO:=(hdT t n x s).val
def aBk(t n:Int)(x:HDS)(s:MS):Prop:=(hdT t n x s).ok
theorem UW(t n:Int)(x:HDS)(s:MS)(K:AVal→aC Ob→Prop)(h:(hdT t n x s).run (fun y=>(HdO.fin t n y).run K)):cT' 150 [.ptr 0 0,.ptr 1 0] (hdH t n x s) K:=by
 unfold hdT at h;exact aGL (root:=0) (pos:=[]) (cs:=[]) (parse:=hdP t n) (fin:=HdO.fin t n) aBm (aS.unpack (.head t n x) 0 0 (yB t n x) [] rfl (congrArg (Prod.mk 0) rfl) (by kernel_rfl) rfl) (OB t n x s _ h)
noncomputable def hdS:aI Ob:=fun args h=>match args,h with
 | [.ptr 0 0,.ptr 1 0],[some (.abs (.head t n x) []),e1,e2]=>(match cO 2 [e1,e2]with
   | some (l,s)=>some (.pre (l=s.xs.length∧aBk t n x s) (HdO.fin t n (pO t n x s)))
   | none=>none)
 | _,_=>none
theorem aD8:sT' 150 hdS:=by
 intro args h o ho K hK;unfold hdS at ho;split at ho
 case h_2=>cases ho
 split at ho<;>cases ho
 rename_i hm;obtain⟨⟨hl,ok⟩,hK⟩:=hK;have hh:=bD hm hl;cases hh;exact UW _ _ _ _ K (aGR ok hK)
def aBh(t n:Int)(v:AVal)(g:aC Ob):Option (Prop×HDS):=match v,g with
 | .ptr 0 0,[some (.cells [.int .i64 t1,.int .i64 n1,.int .i64 u,.int .u64 no,.int .i64 at',.bool tk])]=>some ((t1=t∧n1=n),(⟨u,no,at',tk⟩:HDS))
 | _,_=>none
abbrev UR(t n:Int)(y:HDS):aC Ob:=[some (.abs (.head t n y) [])]
theorem US{t n:Int} :bV (obI tbl) 0 (aBh t n) (fun y=>.ret (.ptr 0 0) (UR t n y)):=by
 intro v g p x hp hq K hK;unfold aBh at hp;split at hp
 case h_2=>cases hp
 rename_i t1 n1 u no at' tk;simp only [sI',pI']at hp;obtain⟨rfl,rfl⟩:=hp;obtain⟨rfl,rfl⟩:=hq;exact⟨⟨_,_,aF.pack (UR t1 n1 (⟨u,no,at',tk⟩:HDS)) (.head t1 n1 (⟨u,no,at',tk⟩:HDS)) 0 0 (yB t1 n1 (⟨u,no,at',tk⟩:HDS)) [] (by kernel_rfl) rfl (congrArg (Prod.mk 0) rfl) (by kernel_rfl),hK⟩⟩
def aBi(t n:Int):Tr HDS:=.pre (t=t∧n=n) (.ret {u:= -1,no:=0,at':=0,tk:=false})
def aBg(t n:Int):HDS:=(aBi t n).val
def OA(t n:Int):Prop:=(aBi t n).ok
def hdNS:aI Ob:=fun args h=>match args,h with
 | [.agg [.int .i64 t,.int .i64 n]],[]=>some (.pre (OA t n) (.ret (.ptr 0 0) (UR t n (aBg t n))))
 | _,_=>none
theorem aBj:sT' 128 hdNS:=by
 intro args h o ho K hK;unfold hdNS at ho;split at ho<;>cases ho
 rename_i t n;obtain⟨ok,hK⟩:=hK;refine aGX (root:=0) (pos:=[]) (cs:=[]) (parse:=aBh t n) US ?_;exact cM' (E:=EQ) (q:=(aBi t n).run (fun y=>(Out.ret (.ptr 0 0) (UR t n y)).run K)) (by kernel_rfl) (aGR ok hK)
noncomputable def EC2:=((EQ.addS 150 hdS aD8).addS 128 hdNS aBj)
structure DrO where
 d:Bool
 x:DRS
 s:MS
instance:Inhabited DrO:=⟨⟨false,⟨0,0⟩,⟨0,0,[],0,0,0,0,0,false⟩⟩⟩
instance:Inhabited DRS:=⟨⟨0,0⟩⟩
abbrev drH(t n:Int)(x:DRS)(s:MS):aC Ob:=[some (.abs (.drop t n x) []),bE 2 s,bF s]
abbrev drD(t n:Int)(x:DRS)(s:MS):aC Ob:=[cE' [.I t,.I n,.I x.th,.I x.at'],bE 2 s,bF s]
def DrO.fin(t n:Int)(y:DrO):Out Ob:=.ite y.d (.ret (.bool true) (drD t n y.x y.s)) (.ret (.bool false) (drH t n y.x y.s))
def aAg(t n:Int)(v:AVal)(g:aC Ob):Option (Prop×DrO):=match v,g with
 | .bool d,[some (.cells [.int .i64 t1,.int .i64 n1,.int .i64 th,.int .i64 at']),e1,e2]=>(match cO 2 [e1,e2]with
   | some (l,s)=>some ((t1=t∧n1=n)∧l=s.xs.length,⟨d,⟨th,at'⟩,s⟩)
   | none=>none)
 | _,_=>none
def drP(t n:Int)(v:AVal)(g:aC Ob):Option (Prop×DrO):=aAg t n v g
theorem S7{t n:Int} :bV (obI tbl) 3 (aAg t n) (DrO.fin t n):=by
 intro v g p x hp hq K hK;unfold aAg at hp;split at hp
 case h_2=>cases hp
 rename_i d t1 n1 th at' e1 e2;split at hp
 case h_2=>cases hp
 rename_i l s hm;simp only [sI',pI']at hp;obtain⟨rfl,rfl⟩:=hp;obtain⟨⟨rfl,rfl⟩,hl⟩:=hq;have hh:=bD hm hl;cases hh;refine qP hK (fun h=>?_) (fun h=>?_)
 ·exact⟨⟨_,_,aGW _ _ _,h⟩⟩
 ·exact⟨⟨_,_,(aF.pack (drH t1 n1 (⟨th,at'⟩:DRS) s) (.drop t1 n1 (⟨th,at'⟩:DRS)) 0 0 (xZ t1 n1 (⟨th,at'⟩:DRS)) [] (by kernel_rfl) rfl (congrArg (Prod.mk 0) rfl) (by kernel_rfl)),h⟩⟩
theorem aAh{t n:Int} :bV (obI tbl) 3 (drP t n) (DrO.fin t n):=by
 intro v g p x hp hq K hK;unfold drP at hp;exact S7 v g p x hp hq K hK
def S8(t n:Int)(x:DRS)(s:MS):Tr DrO:=.pre ((((0:Int)≤t∧t≤(100000:Int))∧((0:Int)≤n∧n≤(100000:Int))∧((-1099511627776:Int)≤x.1∧x.1≤(1099511627776:Int))∧(-1099511627776:Int)≤x.2∧x.2≤(1099511627776:Int))∧True) (.pre ((lE' s.3∧(0:Int)≤s.4∧s.4≤(4611686018427387904:Int))∧True) (.pre ((t=t∧n=n)∧lE' (aY s.3 (2*n+5+2*x.1+x.2) 0)) (.ret {d:=ile 2 (W (x.2+1)),x:= {th:=x.1,at':=W (x.2+1) },s:= {t:=s.1,n:=s.2,xs:=aY s.3 (2*n+5+2*x.1+x.2) 0,c:=s.4+1,k:=2,a:=2*n+5+2*x.1+x.2,o:=aE s.3 (2*n+5+2*x.1+x.2),w:=bif bT s.3 (2*n+5+2*x.1+x.2)then 0 else 0,ok:=bT s.3 (2*n+5+2*x.1+x.2) } })))
theorem MD(t n:Int)(x:DRS)(s:MS)(K:DrO→Prop)(h:(S8 t n x s).run K):cT' 166 [.ptr 0 0,.ptr 1 0] [cE' [.I t,.I n,.I x.th,.I x.at'],bE 2 s,bF s] (bP 3 0 [] [] (drP t n) K):=by
 exact cM' (E:=EC2) (by kernel_rfl) h
def drT(t n:Int)(x:DRS)(s:MS):Tr DrO:=S8 t n x s
def QY(t n:Int)(x:DRS)(s:MS):DrO:=(drT t n x s).val
def aAf(t n:Int)(x:DRS)(s:MS):Prop:=(drT t n x s).ok
theorem S9(t n:Int)(x:DRS)(s:MS)(K:AVal→aC Ob→Prop)(h:(drT t n x s).run (fun y=>(DrO.fin t n y).run K)):cT' 166 [.ptr 0 0,.ptr 1 0] (drH t n x s) K:=by
 unfold drT at h;exact aGL (root:=0) (pos:=[]) (cs:=[]) (parse:=drP t n) (fin:=DrO.fin t n) aAh (aS.unpack (.drop t n x) 0 0 (xZ t n x) [] rfl (congrArg (Prod.mk 0) rfl) (by kernel_rfl) rfl) (MD t n x s _ h)
noncomputable def drS:aI Ob:=fun args h=>match args,h with
 | [.ptr 0 0,.ptr 1 0],[some (.abs (.drop t n x) []),e1,e2]=>(match cO 2 [e1,e2]with
   | some (l,s)=>some (.pre (l=s.xs.length∧aAf t n x s) (DrO.fin t n (QY t n x s)))
   | none=>none)
 | _,_=>none
theorem aDj:sT' 166 drS:=by
 intro args h o ho K hK;unfold drS at ho;split at ho
 case h_2=>cases ho
 split at ho<;>cases ho
 rename_i hm;obtain⟨⟨hl,ok⟩,hK⟩:=hK;have hh:=bD hm hl;cases hh;exact S9 _ _ _ _ K (aGR ok hK)
def aAc(t n:Int)(v:AVal)(g:aC Ob):Option (Prop×DRS):=match v,g with
 | .ptr 0 0,[some (.cells [.int .i64 t1,.int .i64 n1,.int .i64 th,.int .i64 at'])]=>some ((t1=t∧n1=n),(⟨th,at'⟩:DRS))
 | _,_=>none
abbrev S4(t n:Int)(y:DRS):aC Ob:=[some (.abs (.drop t n y) [])]
theorem S5{t n:Int} :bV (obI tbl) 0 (aAc t n) (fun y=>.ret (.ptr 0 0) (S4 t n y)):=by
 intro v g p x hp hq K hK;unfold aAc at hp;split at hp
 case h_2=>cases hp
 rename_i t1 n1 th at';simp only [sI',pI']at hp;obtain⟨rfl,rfl⟩:=hp;obtain⟨rfl,rfl⟩:=hq;exact⟨⟨_,_,aF.pack (S4 t1 n1 (⟨th,at'⟩:DRS)) (.drop t1 n1 (⟨th,at'⟩:DRS)) 0 0 (xZ t1 n1 (⟨th,at'⟩:DRS)) [] (by kernel_rfl) rfl (congrArg (Prod.mk 0) rfl) (by kernel_rfl),hK⟩⟩
def aAd(t n:Int)(u:Int):Tr DRS:=.pre (t=t∧n=n) (.ret {th:=u,at':=0})
def AO(t n:Int)(u:Int):DRS:=(aAd t n u).val
def sI(t n:Int)(u:Int):Prop:=(aAd t n u).ok
def drNS:aI Ob:=fun args h=>match args,h with
 | [.agg [.int .i64 t,.int .i64 n],.int .i64 u],[]=>some (.pre (sI t n u) (.ret (.ptr 0 0) (S4 t n (AO t n u))))
 | _,_=>none
theorem aAe:sT' 233 drNS:=by
 intro args h o ho K hK;unfold drNS at ho;split at ho<;>cases ho
 rename_i t n u;obtain⟨ok,hK⟩:=hK;refine aGX (root:=0) (pos:=[]) (cs:=[]) (parse:=aAc t n) S5 ?_;exact cM' (E:=EC2) (q:=(aAd t n u).run (fun y=>(Out.ret (.ptr 0 0) (S4 t n y)).run K)) (by kernel_rfl) (aGR ok hK)
noncomputable def EC3:=((EC2.addS 166 drS aDj).addS 233 drNS aAe)
structure AnO where
 d:Bool
 x:ANS
 s:MS
instance:Inhabited AnO:=⟨⟨false,⟨0,0,0,0,false,0⟩,⟨0,0,[],0,0,0,0,0,false⟩⟩⟩
instance:Inhabited ANS:=⟨⟨0,0,0,0,false,0⟩⟩
abbrev anH(t n:Int)(x:ANS)(s:MS):aC Ob:=[some (.abs (.announce t n x) []),bE 2 s,bF s]
abbrev anD(t n:Int)(x:ANS)(s:MS):aC Ob:=[cE' [.I t,.I n,.int .u64 x.no,.I x.me,.I x.at',.int .u64 x.bits,.bool x.wrong,.int .u64 x.found],bE 2 s,bF s]
def AnO.fin(t n:Int)(y:AnO):Out Ob:=.ite y.d (.ret (.bool true) (anD t n y.x y.s)) (.ret (.bool false) (anH t n y.x y.s))
def Y4(t n:Int)(v:AVal)(g:aC Ob):Option (Prop×AnO):=match v,g with
 | .bool d,[some (.cells [.int .i64 t1,.int .i64 n1,.int .u64 no,.int .i64 me,.int .i64 at',.int .u64 bits,.bool wrong,.int .u64 found]),e1,e2]=>(match cO 2 [e1,e2]with
   | some (l,s)=>some ((t1=t∧n1=n)∧l=s.xs.length,⟨d,⟨no,me,at',bits,wrong,found⟩,s⟩)
   | none=>none)
 | _,_=>none
def K7(t n:Int)(v:AVal)(g:aC Ob):Option (Prop×AnO):=Y4 t n v g
theorem RN{t n:Int} :bV (obI tbl) 3 (Y4 t n) (AnO.fin t n):=by
 intro v g p x hp hq K hK;unfold Y4 at hp;split at hp
 case h_2=>cases hp
 rename_i d t1 n1 no me at' bits wrong found e1 e2;split at hp
 case h_2=>cases hp
 rename_i l s hm;simp only [sI',pI']at hp;obtain⟨rfl,rfl⟩:=hp;obtain⟨⟨rfl,rfl⟩,hl⟩:=hq;have hh:=bD hm hl;cases hh;refine qP hK (fun h=>?_) (fun h=>?_)
 ·exact⟨⟨_,_,aGW _ _ _,h⟩⟩
 ·exact⟨⟨_,_,(aF.pack (anH t1 n1 (⟨no,me,at',bits,wrong,found⟩:ANS) s) (.announce t1 n1 (⟨no,me,at',bits,wrong,found⟩:ANS)) 0 0 (eO t1 n1 (⟨no,me,at',bits,wrong,found⟩:ANS)) [] (by kernel_rfl) rfl (congrArg (Prod.mk 0) rfl) (by kernel_rfl)),h⟩⟩
theorem tZ{t n:Int} :bV (obI tbl) 3 (K7 t n) (AnO.fin t n):=by
 intro v g p x hp hq K hK;unfold K7 at hp;exact RN v g p x hp hq K hK
abbrev w0a(n t:Int)(x:ANS):=(((0:Int)≤t∧t≤(100000:Int))∧((0:Int)≤n∧n≤(100000:Int))∧(-1099511627776:Int)≤x.2∧x.2≤(1099511627776:Int))∧True
def zK(t n:Int)(x:ANS)(s:MS):Tr AnO:=.ite x.5 (.pre (lE' s.3∧(0:Int)≤s.4∧s.4≤(4611686018427387904:Int)) (.pre ((t=t∧n=n)∧lE' s.3) (.ret {d:=true,x:= {x with at':=0},s:= {s with c:=s.4+1,k:=1,a:=0,o:=aE s.3 0,w:=aE s.3 0,ok:=bT s.3 0} }))) (.pre (w0a n t x) (.pre ((lE' s.3∧(0:Int)≤s.4∧s.4≤(4611686018427387904:Int))∧True) (.pre ((t=t∧n=n)∧lE' (aY s.3 (2*n+5+2*t+3*x.2+1) x.4)) (.ret {d:=false,x:= {x with at':=W (0+1)},s:= {t:=s.1,n:=s.2,xs:=aY s.3 (2*n+5+2*t+3*x.2+1) x.4,c:=s.4+1,k:=2,a:=2*n+5+2*t+3*x.2+1,o:=aE s.3 (2*n+5+2*t+3*x.2+1),w:=bif bT s.3 (2*n+5+2*t+3*x.2+1)then x.4 else 0,ok:=bT s.3 (2*n+5+2*t+3*x.2+1) } }))))
theorem HT(t n:Int)(x:ANS)(s:MS)(K:AnO→Prop)(h:(zK t n x s).run K):cT' 158 [.ptr 0 0,.ptr 1 0] [cE' [.I t,.I n,.int .u64 x.no,.I x.me,.I 0,.int .u64 x.bits,.bool x.wrong,.int .u64 x.found],bE 2 s,bF s] (bP 3 0 [] [] (K7 t n) K):=by
 exact cM' (E:=EC3) (by kernel_rfl) h
def zL(t n:Int)(x:ANS)(s:MS):Tr AnO:=.ite x.5 (.pre (lE' s.3∧(0:Int)≤s.4∧s.4≤(4611686018427387904:Int)) (.pre ((t=t∧n=n)∧lE' s.3) (.ret {d:=true,x:= {x with at':=1},s:= {s with c:=s.4+1,k:=1,a:=0,o:=aE s.3 0,w:=aE s.3 0,ok:=bT s.3 0} }))) (.pre (((0:Int)≤t∧t≤(100000:Int))∧(0:Int)≤n∧n≤(100000:Int)) (.pre (lE' s.3∧(0:Int)≤s.4∧s.4≤(4611686018427387904:Int)) (.pre ((t=t∧n=n)∧lE' (aY s.3 (2*n+5+2*t+3*t) (WU (aE s.3 (2*n+5+2*t+3*t)+1)))) (.ret {d:=false,x:= {x with no:=WU (aE s.3 (2*n+5+2*t+3*t)+1),at':=W (1+1)},s:= {t:=s.1,n:=s.2,xs:=aY s.3 (2*n+5+2*t+3*t) (WU (aE s.3 (2*n+5+2*t+3*t)+1)),c:=s.4+1,k:=4,a:=2*n+5+2*t+3*t,o:=aE s.3 (2*n+5+2*t+3*t),w:=bif bT s.3 (2*n+5+2*t+3*t)then WU (aE s.3 (2*n+5+2*t+3*t)+1)else 0,ok:=bT s.3 (2*n+5+2*t+3*t) } }))))
theorem HU(t n:Int)(x:ANS)(s:MS)(K:AnO→Prop)(h:(zL t n x s).run K):cT' 158 [.ptr 0 0,.ptr 1 0] [cE' [.I t,.I n,.int .u64 x.no,.I x.me,.I 1,.int .u64 x.bits,.bool x.wrong,.int .u64 x.found],bE 2 s,bF s] (bP 3 0 [] [] (K7 t n) K):=by
 exact cM' (E:=EC3) (by kernel_rfl) h
def zM(t n:Int)(x:ANS)(s:MS):Tr AnO:=.ite x.5 (.pre (lE' s.3∧(0:Int)≤s.4∧s.4≤(4611686018427387904:Int)) (.pre ((t=t∧n=n)∧lE' s.3) (.ret {d:=true,x:= {x with at':=2},s:= {s with c:=s.4+1,k:=1,a:=0,o:=aE s.3 0,w:=aE s.3 0,ok:=bT s.3 0} }))) (.pre (w0a n t x) (.pre ((lE' s.3∧(0:Int)≤s.4∧s.4≤(4611686018427387904:Int))∧True) (.pre ((t=t∧n=n)∧lE' (aY s.3 (2*n+5+2*t+3*x.2) x.1)) (.ret {d:=false,x:= {x with at':=W (2+1)},s:= {t:=s.1,n:=s.2,xs:=aY s.3 (2*n+5+2*t+3*x.2) x.1,c:=s.4+1,k:=2,a:=2*n+5+2*t+3*x.2,o:=aE s.3 (2*n+5+2*t+3*x.2),w:=bif bT s.3 (2*n+5+2*t+3*x.2)then x.1 else 0,ok:=bT s.3 (2*n+5+2*t+3*x.2) } }))))
theorem HV(t n:Int)(x:ANS)(s:MS)(K:AnO→Prop)(h:(zM t n x s).run K):cT' 158 [.ptr 0 0,.ptr 1 0] [cE' [.I t,.I n,.int .u64 x.no,.I x.me,.I 2,.int .u64 x.bits,.bool x.wrong,.int .u64 x.found],bE 2 s,bF s] (bP 3 0 [] [] (K7 t n) K):=by
 exact cM' (E:=EC3) (by kernel_rfl) h
def zN(t n:Int)(x:ANS)(s:MS):Tr AnO:=.ite x.5 (.pre (lE' s.3∧(0:Int)≤s.4∧s.4≤(4611686018427387904:Int)) (.pre ((t=t∧n=n)∧lE' s.3) (.ret {d:=true,x:= {x with at':=3},s:= {s with c:=s.4+1,k:=1,a:=0,o:=aE s.3 0,w:=aE s.3 0,ok:=bT s.3 0} }))) (.pre (w0a n t x) (.pre ((lE' s.3∧(0:Int)≤s.4∧s.4≤(4611686018427387904:Int))∧True) (.pre ((t=t∧n=n)∧lE' s.3) (.ret {d:=false,x:= {x with at':=W (3+1),found:=aE s.3 (2*n+5+2*t+3*x.2+2) },s:= {s with c:=s.4+1,k:=1,a:=2*n+5+2*t+3*x.2+2,o:=aE s.3 (2*n+5+2*t+3*x.2+2),w:=aE s.3 (2*n+5+2*t+3*x.2+2),ok:=bT s.3 (2*n+5+2*t+3*x.2+2) } }))))
theorem HW(t n:Int)(x:ANS)(s:MS)(K:AnO→Prop)(h:(zN t n x s).run K):cT' 158 [.ptr 0 0,.ptr 1 0] [cE' [.I t,.I n,.int .u64 x.no,.I x.me,.I 3,.int .u64 x.bits,.bool x.wrong,.int .u64 x.found],bE 2 s,bF s] (bP 3 0 [] [] (K7 t n) K):=by
 exact cM' (E:=EC3) (by kernel_rfl) h
abbrev w0b(x:ANS):=eP (aA x.6 0 12)
def zO(t n:Int)(x:ANS)(s:MS):Tr AnO:=.ite x.5 (.pre (lE' s.3∧(0:Int)≤s.4∧s.4≤(4611686018427387904:Int)) (.pre ((t=t∧n=n)∧lE' s.3) (.ret {d:=true,x:= {x with at':=4},s:= {s with c:=s.4+1,k:=1,a:=0,o:=aE s.3 0,w:=aE s.3 0,ok:=bT s.3 0} }))) (.pre True (.pre ((0:Int)≤aA x.6 0 12∧aA x.6 0 (12:Int)≤(1000000:Int)) (.pre True (.pre (w0a n t x) (.pre ((lE' s.3∧(0:Int)≤s.4∧s.4≤(4611686018427387904:Int))∧True) (.pre ((t=t∧n=n)∧lE' (aY s.3 (2*n+5+2*t+3*x.2+2) (bif dOk (w0b x) 0 0 0 1 0 then cM (w0b x) 0 0 0 false 1 0 else 0))) (.ret {d:=true,x:= {x with at':=W (4+1)},s:= {t:=s.1,n:=s.2,xs:=aY s.3 (2*n+5+2*t+3*x.2+2) (bif dOk (w0b x) 0 0 0 1 0 then cM (w0b x) 0 0 0 false 1 0 else 0),c:=s.4+1,k:=2,a:=2*n+5+2*t+3*x.2+2,o:=aE s.3 (2*n+5+2*t+3*x.2+2),w:=bif bT s.3 (2*n+5+2*t+3*x.2+2)then bif dOk (w0b x) 0 0 0 1 0 then cM (w0b x) 0 0 0 false 1 0 else 0 else 0,ok:=bT s.3 (2*n+5+2*t+3*x.2+2) } })))))))
theorem HX(t n:Int)(x:ANS)(s:MS)(K:AnO→Prop)(h:(zO t n x s).run K):cT' 158 [.ptr 0 0,.ptr 1 0] [cE' [.I t,.I n,.int .u64 x.no,.I x.me,.I 4,.int .u64 x.bits,.bool x.wrong,.int .u64 x.found],bE 2 s,bF s] (bP 3 0 [] [] (K7 t n) K):=by
 exact cM' (E:=EC3) (by kernel_rfl) h
def anT(t n:Int)(x:ANS)(s:MS):Tr AnO:=
 bif ieq x.at' 0 then zK t n x s else
 bif ieq x.at' 1 then zL t n x s else
 bif ieq x.at' 2 then zM t n x s else
 bif ieq x.at' 3 then zN t n x s else
 bif ieq x.at' 4 then zO t n x s else .pre False (.ret default)
def DT(t n:Int)(x:ANS)(s:MS):AnO:=(anT t n x s).val
def Y3(t n:Int)(x:ANS)(s:MS):Prop:=(anT t n x s).ok
theorem RO(t n:Int)(x:ANS)(s:MS)(K:AVal→aC Ob→Prop)(h:(anT t n x s).run (fun y=>(AnO.fin t n y).run K)):cT' 158 [.ptr 0 0,.ptr 1 0] (anH t n x s) K:=by
 unfold anT at h
 by_cases e:x.at'=0
 ·rw [e]at h;have h:(zK t n x s).run _:=h;refine aGL (root:=0) (pos:=[]) (cs:=[]) (parse:=K7 t n) (fin:=AnO.fin t n) tZ (aS.unpack (.announce t n x) 0 0 (eO t n x) [] rfl (congrArg (Prod.mk 0) rfl) (by kernel_rfl) rfl) ?_
  have q:=HT t n x s _ h;rw [←e]at q;exact q
 rw [bK e]at h
 by_cases e:x.at'=1
 ·rw [e]at h;have h:(zL t n x s).run _:=h;refine aGL (root:=0) (pos:=[]) (cs:=[]) (parse:=K7 t n) (fin:=AnO.fin t n) tZ (aS.unpack (.announce t n x) 0 0 (eO t n x) [] rfl (congrArg (Prod.mk 0) rfl) (by kernel_rfl) rfl) ?_
  have q:=HU t n x s _ h;rw [←e]at q;exact q
 rw [bK e]at h
 by_cases e:x.at'=2
 ·rw [e]at h;have h:(zM t n x s).run _:=h;refine aGL (root:=0) (pos:=[]) (cs:=[]) (parse:=K7 t n) (fin:=AnO.fin t n) tZ (aS.unpack (.announce t n x) 0 0 (eO t n x) [] rfl (congrArg (Prod.mk 0) rfl) (by kernel_rfl) rfl) ?_
  have q:=HV t n x s _ h;rw [←e]at q;exact q
 rw [bK e]at h
 by_cases e:x.at'=3
 ·rw [e]at h;have h:(zN t n x s).run _:=h;refine aGL (root:=0) (pos:=[]) (cs:=[]) (parse:=K7 t n) (fin:=AnO.fin t n) tZ (aS.unpack (.announce t n x) 0 0 (eO t n x) [] rfl (congrArg (Prod.mk 0) rfl) (by kernel_rfl) rfl) ?_
  have q:=HW t n x s _ h;rw [←e]at q;exact q
 rw [bK e]at h
 by_cases e:x.at'=4
 ·rw [e]at h;have h:(zO t n x s).run _:=h;refine aGL (root:=0) (pos:=[]) (cs:=[]) (parse:=K7 t n) (fin:=AnO.fin t n) tZ (aS.unpack (.announce t n x) 0 0 (eO t n x) [] rfl (congrArg (Prod.mk 0) rfl) (by kernel_rfl) rfl) ?_
  have q:=HX t n x s _ h;rw [←e]at q;exact q
 rw [bK e]at h;exact h.1.elim
noncomputable def anS:aI Ob:=fun args h=>match args,h with
 | [.ptr 0 0,.ptr 1 0],[some (.abs (.announce t n x) []),e1,e2]=>(match cO 2 [e1,e2]with
   | some (l,s)=>some (.pre (l=s.xs.length∧Y3 t n x s) (AnO.fin t n (DT t n x s)))
   | none=>none)
 | _,_=>none
theorem aC4:sT' 158 anS:=by
 intro args h o ho K hK;unfold anS at ho;split at ho
 case h_2=>cases ho
 split at ho<;>cases ho
 rename_i hm;obtain⟨⟨hl,ok⟩,hK⟩:=hK;have hh:=bD hm hl;cases hh;exact RO _ _ _ _ K (aGR ok hK)
def Y0(t n:Int)(v:AVal)(g:aC Ob):Option (Prop×ANS):=match v,g with
 | .ptr 0 0,[some (.cells [.int .i64 t1,.int .i64 n1,.int .u64 no,.int .i64 me,.int .i64 at',.int .u64 bits,.bool wrong,.int .u64 found])]=>some ((t1=t∧n1=n),(⟨no,me,at',bits,wrong,found⟩:ANS))
 | _,_=>none
abbrev RK(t n:Int)(y:ANS):aC Ob:=[some (.abs (.announce t n y) [])]
theorem RL{t n:Int} :bV (obI tbl) 0 (Y0 t n) (fun y=>.ret (.ptr 0 0) (RK t n y)):=by
 intro v g p x hp hq K hK;unfold Y0 at hp;split at hp
 case h_2=>cases hp
 rename_i t1 n1 no me at' bits wrong found;simp only [sI',pI']at hp;obtain⟨rfl,rfl⟩:=hp;obtain⟨rfl,rfl⟩:=hq;exact⟨⟨_,_,aF.pack (RK t1 n1 (⟨no,me,at',bits,wrong,found⟩:ANS)) (.announce t1 n1 (⟨no,me,at',bits,wrong,found⟩:ANS)) 0 0 (eO t1 n1 (⟨no,me,at',bits,wrong,found⟩:ANS)) [] (by kernel_rfl) rfl (congrArg (Prod.mk 0) rfl) (by kernel_rfl),hK⟩⟩
def Y1(t n:Int)(u sh kd ky:Int):Tr ANS:=.pre True (.pre (t=t∧n=n) (.ret {no:=0,me:=u,at':=0,bits:=bif b9 sh kd ky then tskV sh kd ky else 0,wrong:=!ieq (bif b9 sh kd ky then 0 else 1) 0,found:=0}))
def YZ(t n:Int)(u sh kd ky:Int):ANS:=(Y1 t n u sh kd ky).val
def LP(t n:Int)(u sh kd ky:Int):Prop:=(Y1 t n u sh kd ky).ok
def anNS:aI Ob:=fun args h=>match args,h with
 | [.agg [.int .i64 t,.int .i64 n],.int .i64 u,.agg [.int .i64 sh,.int .i64 kd,.int .i64 ky]],[]=>some (.pre (LP t n u sh kd ky) (.ret (.ptr 0 0) (RK t n (YZ t n u sh kd ky))))
 | _,_=>none
theorem Y2:sT' 220 anNS:=by
 intro args h o ho K hK;unfold anNS at ho;split at ho<;>cases ho
 rename_i t n u sh kd ky;obtain⟨ok,hK⟩:=hK;refine aGX (root:=0) (pos:=[]) (cs:=[]) (parse:=Y0 t n) RL ?_;exact cM' (E:=EC3) (q:=(Y1 t n u sh kd ky).run (fun y=>(Out.ret (.ptr 0 0) (RK t n y)).run K)) (by kernel_rfl) (aGR ok hK)
noncomputable def EC4:=((EC3.addS 158 anS aC4).addS 220 anNS Y2)
structure AwO where
 d:Bool
 x:AWS
 s:MS
instance:Inhabited AwO:=⟨⟨false,⟨0,false,0,0⟩,⟨0,0,[],0,0,0,0,0,false⟩⟩⟩
instance:Inhabited AWS:=⟨⟨0,false,0,0⟩⟩
abbrev awH(t n:Int)(x:AWS)(s:MS):aC Ob:=[some (.abs (.answer t n x) []),bE 2 s,bF s]
abbrev awD(t n:Int)(x:AWS)(s:MS):aC Ob:=[cE' [.I t,.I n,.I x.code,.bool x.okk,.I x.val,.I x.me],bE 2 s,bF s]
def AwO.fin(t n:Int)(y:AwO):Out Ob:=.ite y.d (.ret (.bool true) (awD t n y.x y.s)) (.ret (.bool false) (awH t n y.x y.s))
def ZC(t n:Int)(v:AVal)(g:aC Ob):Option (Prop×AwO):=match v,g with
 | .bool d,[some (.cells [.int .i64 t1,.int .i64 n1,.int .i64 code,.bool okk,.int .i64 val,.int .i64 me]),e1,e2]=>(match cO 2 [e1,e2]with
   | some (l,s)=>some ((t1=t∧n1=n)∧l=s.xs.length,⟨d,⟨code,okk,val,me⟩,s⟩)
   | none=>none)
 | _,_=>none
def awP(t n:Int)(v:AVal)(g:aC Ob):Option (Prop×AwO):=ZC t n v g
theorem RU{t n:Int} :bV (obI tbl) 3 (ZC t n) (AwO.fin t n):=by
 intro v g p x hp hq K hK;unfold ZC at hp;split at hp
 case h_2=>cases hp
 rename_i d t1 n1 code okk val me e1 e2;split at hp
 case h_2=>cases hp
 rename_i l s hm;simp only [sI',pI']at hp;obtain⟨rfl,rfl⟩:=hp;obtain⟨⟨rfl,rfl⟩,hl⟩:=hq;have hh:=bD hm hl;cases hh;refine qP hK (fun h=>?_) (fun h=>?_)
 ·exact⟨⟨_,_,aGW _ _ _,h⟩⟩
 ·exact⟨⟨_,_,(aF.pack (awH t1 n1 (⟨code,okk,val,me⟩:AWS) s) (.answer t1 n1 (⟨code,okk,val,me⟩:AWS)) 0 0 (pS t1 n1 (⟨code,okk,val,me⟩:AWS)) [] (by kernel_rfl) rfl (congrArg (Prod.mk 0) rfl) (by kernel_rfl)),h⟩⟩
theorem ZD{t n:Int} :bV (obI tbl) 3 (awP t n) (AwO.fin t n):=by
 intro v g p x hp hq K hK;unfold awP at hp;exact RU v g p x hp hq K hK
abbrev w0c(n:Int)(s:MS)(t:Int)(x:AWS):=aE s.3 (2*n+5+2*t+3*x.4+2)
def RV(t n:Int)(x:AWS)(s:MS):Tr AwO:=.pre ((((0:Int)≤t∧t≤(100000:Int))∧((0:Int)≤n∧n≤(100000:Int))∧(-1099511627776:Int)≤x.4∧x.4≤(1099511627776:Int))∧True) (.pre ((lE' s.3∧(0:Int)≤s.4∧s.4≤(4611686018427387904:Int))∧True) (.pre True (.pre True (.pre ((t=t∧n=n)∧lE' s.3) (.ret {d:=true,x:= {code:=resC (aA (w0c n s t x) 39 9) (aA (w0c n s t x) 49 3),okk:=WE (aA (w0c n s t x) 39 9) (aA (w0c n s t x) 49 3) (ieq (aA (w0c n s t x) 48 1) 1),val:=WF (aA (w0c n s t x) 39 9) (aA (w0c n s t x) 49 3) (aA (w0c n s t x) 52 10),me:=x.4},s:= {s with c:=s.4+1,k:=1,a:=2*n+5+2*t+3*x.4+2,o:=aE s.3 (2*n+5+2*t+3*x.4+2),w:=aE s.3 (2*n+5+2*t+3*x.4+2),ok:=bT s.3 (2*n+5+2*t+3*x.4+2) } })))))
theorem LR(t n:Int)(x:AWS)(s:MS)(K:AwO→Prop)(h:(RV t n x s).run K):cT' 161 [.ptr 0 0,.ptr 1 0] [cE' [.I t,.I n,.I x.code,.bool x.okk,.I x.val,.I x.me],bE 2 s,bF s] (bP 3 0 [] [] (awP t n) K):=by
 exact cM' (E:=EC4) (by kernel_rfl) h
def awT(t n:Int)(x:AWS)(s:MS):Tr AwO:=RV t n x s
def sH(t n:Int)(x:AWS)(s:MS):AwO:=(awT t n x s).val
def ZB(t n:Int)(x:AWS)(s:MS):Prop:=(awT t n x s).ok
theorem RX(t n:Int)(x:AWS)(s:MS)(K:AVal→aC Ob→Prop)(h:(awT t n x s).run (fun y=>(AwO.fin t n y).run K)):cT' 161 [.ptr 0 0,.ptr 1 0] (awH t n x s) K:=by
 unfold awT at h;exact aGL (root:=0) (pos:=[]) (cs:=[]) (parse:=awP t n) (fin:=AwO.fin t n) ZD (aS.unpack (.answer t n x) 0 0 (pS t n x) [] rfl (congrArg (Prod.mk 0) rfl) (by kernel_rfl) rfl) (LR t n x s _ h)
noncomputable def awS:aI Ob:=fun args h=>match args,h with
 | [.ptr 0 0,.ptr 1 0],[some (.abs (.answer t n x) []),e1,e2]=>(match cO 2 [e1,e2]with
   | some (l,s)=>some (.pre (l=s.xs.length∧ZB t n x s) (AwO.fin t n (sH t n x s)))
   | none=>none)
 | _,_=>none
theorem aC7:sT' 161 awS:=by
 intro args h o ho K hK;unfold awS at ho;split at ho
 case h_2=>cases ho
 split at ho<;>cases ho
 rename_i hm;obtain⟨⟨hl,ok⟩,hK⟩:=hK;have hh:=bD hm hl;cases hh;exact RX _ _ _ _ K (aGR ok hK)
def Y8(t n:Int)(v:AVal)(g:aC Ob):Option (Prop×AWS):=match v,g with
 | .ptr 0 0,[some (.cells [.int .i64 t1,.int .i64 n1,.int .i64 code,.bool okk,.int .i64 val,.int .i64 me])]=>some ((t1=t∧n1=n),(⟨code,okk,val,me⟩:AWS))
 | _,_=>none
abbrev RR(t n:Int)(y:AWS):aC Ob:=[some (.abs (.answer t n y) [])]
theorem RS{t n:Int} :bV (obI tbl) 0 (Y8 t n) (fun y=>.ret (.ptr 0 0) (RR t n y)):=by
 intro v g p x hp hq K hK;unfold Y8 at hp;split at hp
 case h_2=>cases hp
 rename_i t1 n1 code okk val me;simp only [sI',pI']at hp;obtain⟨rfl,rfl⟩:=hp;obtain⟨rfl,rfl⟩:=hq;exact⟨⟨_,_,aF.pack (RR t1 n1 (⟨code,okk,val,me⟩:AWS)) (.answer t1 n1 (⟨code,okk,val,me⟩:AWS)) 0 0 (pS t1 n1 (⟨code,okk,val,me⟩:AWS)) [] (by kernel_rfl) rfl (congrArg (Prod.mk 0) rfl) (by kernel_rfl),hK⟩⟩
def Y9(t n:Int)(u:Int):Tr AWS:=.pre (t=t∧n=n) (.ret {code:=0,okk:=false,val:=0,me:=u})
def Y7(t n:Int)(u:Int):AWS:=(Y9 t n u).val
def LQ(t n:Int)(u:Int):Prop:=(Y9 t n u).ok
def awNS:aI Ob:=fun args h=>match args,h with
 | [.agg [.int .i64 t,.int .i64 n],.int .i64 u],[]=>some (.pre (LQ t n u) (.ret (.ptr 0 0) (RR t n (Y7 t n u))))
 | _,_=>none
theorem ZA:sT' 160 awNS:=by
 intro args h o ho K hK;unfold awNS at ho;split at ho<;>cases ho
 rename_i t n u;obtain⟨ok,hK⟩:=hK;refine aGX (root:=0) (pos:=[]) (cs:=[]) (parse:=Y8 t n) RS ?_;exact cM' (E:=EC4) (q:=(Y9 t n u).run (fun y=>(Out.ret (.ptr 0 0) (RR t n y)).run K)) (by kernel_rfl) (aGR ok hK)
noncomputable def EC5:=((EC4.addS 161 awS aC7).addS 160 awNS ZA)
def F5:bI Ob:=fun args h=>match args,h with
 | [.ptr 0 0],[some (.cells [.int .i64 t,.int .i64 n,.int .i64 pop,.int .i64 gave,.int .i64 u,.int .i64 sh,.int .i64 kd,.int .i64 ky,.bool only,.int .i64 att,.int .i64 at',.int .u64 found,.int .u64 word])]=>some (True,.agg [.I (aA found 0 12),.I (aA found 12 9),.I (aA found 21 18),.I (aA found 39 9),.bool (ieq (aA found 48 1) 1),.I (aA found 49 3),.I (aA found 52 10)])
 | _,_=>none
theorem QQ:sT' 281 F5.spec:=by
 intro args h o ho K hK;unfold bI.spec F5 at ho;split at ho
 case h_2=>cases ho
 rename_i p v hp;split at hp
 case h_2=>cases hp
 rename_i t n pop gave u sh kd ky only att at' found word;simp only [sI',pI']at hp;obtain⟨rfl,rfl⟩:=hp;simp only [sI']at ho;subst ho;obtain⟨hp,hK⟩:=hK;have hK:K (.agg [.I (aA found 0 12),.I (aA found 12 9),.I (aA found 21 18),.I (aA found 39 9),.bool (ieq (aA found 48 1) 1),.I (aA found 49 3),.I (aA found 52 10)]) [cE' [.I t,.I n,.I pop,.I gave,.I u,.I sh,.I kd,.I ky,.bool only,.I att,.I at',.int .u64 found,.int .u64 word]]:=hK;refine aGK (cM' (E:=EC5) (q:=True∧K (.agg [.I (aA found 0 12),.I (aA found 12 9),.I (aA found 21 18),.I (aA found 39 9),.bool (ieq (aA found 48 1) 1),.I (aA found 49 3),.I (aA found 52 10)]) [cE' [.I t,.I n,.I pop,.I gave,.I u,.I sh,.I kd,.I ky,.bool only,.I att,.I at',.int .u64 found,.int .u64 word]]) (by kernel_rfl) ?_)
 exact⟨trivial,hK⟩
noncomputable def EX1:=EC5.addR 281 F5 QQ
def QR(t n pop gave u sh kd ky:Int)(only:Bool)(att at' found word:Int)(k y:Int)(m:Bool)(c v:Int)(s:MS):Out Ob:=.pre True (.pre True (.pre ((lE' s.3∧(0:Int)≤s.4∧s.4≤(4611686018427387904:Int))∧True) (.ret (.bool (aW s.3 (aA found 12 9) word)) [cE' [.I t,.I n,.I pop,.I gave,.I u,.I sh,.I kd,.I ky,.bool only,.I att,.I at',.int .u64 found,.int .u64 word],cE' [.I s.1,.I s.2,.slice 2 0 (List.length (bif aW s.3 (aA found 12 9) word then aY s.3 (aA found 12 9) (bif bif aK k 10 then bif aK y 9 then bif aK c 5 then aK v 18 else false else false else false then cN k y m c v else 0)else s.3)) 1,.I (s.4+1),.I 3,.I (aA found 12 9),.int .u64 (aE s.3 (aA found 12 9)),.int .u64 (bif bT s.3 (aA found 12 9)then bif bif aK k 10 then bif aK y 9 then bif aK c 5 then aK v 18 else false else false else false then cN k y m c v else 0 else 0),.bool (aW s.3 (aA found 12 9) word)],some (.ints (some .u64) (bif aW s.3 (aA found 12 9) word then aY s.3 (aA found 12 9) (bif bif aK k 10 then bif aK y 9 then bif aK c 5 then aK v 18 else false else false else false then cN k y m c v else 0)else s.3))])))
theorem QS(t n pop gave u sh kd ky:Int)(only:Bool)(att at' found word:Int)(k y:Int)(m:Bool)(c v:Int)(s:MS)(K:AVal→aC Ob→Prop)(h:(QR t n pop gave u sh kd ky only att at' found word k y m c v s).run K):cT' 284 [.ptr 0 0,.ptr 1 0,.agg [.I k,.I y,.bool m,.I c,.I v]] [cE' [.I t,.I n,.I pop,.I gave,.I u,.I sh,.I kd,.I ky,.bool only,.I att,.I at',.int .u64 found,.int .u64 word],bE 2 s,bF s] K:=by
 refine aGK (cM' (E:=EX1) (by kernel_rfl) h)
def xputS:aI Ob:=fun args h=>match args,h with
 | [.ptr 0 0,.ptr 1 0,.agg [.int .i64 k,.int .i64 y,.bool m,.int .i64 c,.int .i64 v]],[some (.cells [.int .i64 t,.int .i64 n,.int .i64 pop,.int .i64 gave,.int .i64 u,.int .i64 sh,.int .i64 kd,.int .i64 ky,.bool only,.int .i64 att,.int .i64 at',.int .u64 found,.int .u64 word]),e1,e2]=>(match cO 2 [e1,e2]with
   | some (l,s)=>some (.pre (l=s.xs.length) (QR t n pop gave u sh kd ky only att at' found word k y m c v s))
   | none=>none)
 | _,_=>none
theorem XE:sT' 284 xputS:=by
 intro args h o ho K hK;unfold xputS at ho;split at ho
 case h_2=>cases ho
 split at ho<;>cases ho
 rename_i hm;obtain⟨hl,hK⟩:=hK;have hh:=bD hm hl;cases hh;exact QS _ _ _ _ _ _ _ _ _ _ _ _ _ _ _ _ _ _ _ K hK
def F6(t n pop gave u sh kd ky:Int)(only:Bool)(att at' found word:Int)(a b c d:Int)(m:Bool)(e f:Int)(s:MS):Out Ob:=.pre True (.pre ((((0:Int)≤t∧t≤(100000:Int))∧((0:Int)≤n∧n≤(100000:Int))∧(-1099511627776:Int)≤u∧u≤(1099511627776:Int))∧True) (.pre ((lE' s.3∧(0:Int)≤s.4∧s.4≤(4611686018427387904:Int))∧True) (.ret (.bool (aW s.3 (2*n+5+2*t+3*u+2) found)) [cE' [.I t,.I n,.I pop,.I gave,.I u,.I sh,.I kd,.I ky,.bool only,.I att,.I at',.int .u64 found,.int .u64 word],cE' [.I s.1,.I s.2,.slice 2 0 (List.length (bif aW s.3 (2*n+5+2*t+3*u+2) found then aY s.3 (2*n+5+2*t+3*u+2) (bif dOk a b c d e f then cM a b c d m e f else 0)else s.3)) 1,.I (s.4+1),.I 3,.I (2*n+5+2*t+3*u+2),.int .u64 (aE s.3 (2*n+5+2*t+3*u+2)),.int .u64 (bif bT s.3 (2*n+5+2*t+3*u+2)then bif dOk a b c d e f then cM a b c d m e f else 0 else 0),.bool (aW s.3 (2*n+5+2*t+3*u+2) found)],some (.ints (some .u64) (bif aW s.3 (2*n+5+2*t+3*u+2) found then aY s.3 (2*n+5+2*t+3*u+2) (bif dOk a b c d e f then cM a b c d m e f else 0)else s.3))])))
theorem K5(t n pop gave u sh kd ky:Int)(only:Bool)(att at' found word:Int)(a b c d:Int)(m:Bool)(e f:Int)(s:MS)(K:AVal→aC Ob→Prop)(h:(F6 t n pop gave u sh kd ky only att at' found word a b c d m e f s).run K):cT' 286 [.ptr 0 0,.ptr 1 0,.agg [.I a,.I b,.I c,.I d,.bool m,.I e,.I f]] [cE' [.I t,.I n,.I pop,.I gave,.I u,.I sh,.I kd,.I ky,.bool only,.I att,.I at',.int .u64 found,.int .u64 word],bE 2 s,bF s] K:=by
 refine aGK (cM' (E:=EX1) (by kernel_rfl) h)
def xturnS:aI Ob:=fun args h=>match args,h with
 | [.ptr 0 0,.ptr 1 0,.agg [.int .i64 a,.int .i64 b,.int .i64 c,.int .i64 d,.bool m,.int .i64 e,.int .i64 f]],[some (.cells [.int .i64 t,.int .i64 n,.int .i64 pop,.int .i64 gave,.int .i64 u,.int .i64 sh,.int .i64 kd,.int .i64 ky,.bool only,.int .i64 att,.int .i64 at',.int .u64 found,.int .u64 word]),e1,e2]=>(match cO 2 [e1,e2]with
   | some (l,s)=>some (.pre (l=s.xs.length) (F6 t n pop gave u sh kd ky only att at' found word a b c d m e f s))
   | none=>none)
 | _,_=>none
theorem QT:sT' 286 xturnS:=by
 intro args h o ho K hK;unfold xturnS at ho;split at ho
 case h_2=>cases ho
 split at ho<;>cases ho
 rename_i hm;obtain⟨hl,hK⟩:=hK;have hh:=bD hm hl;cases hh;exact K5 _ _ _ _ _ _ _ _ _ _ _ _ _ _ _ _ _ _ _ _ _ K hK
noncomputable def EX2:=(EX1.addS 284 xputS XE).addS 286 xturnS QT
instance:Inhabited STS:=⟨⟨0,0,[]⟩⟩
end Go.Sh
