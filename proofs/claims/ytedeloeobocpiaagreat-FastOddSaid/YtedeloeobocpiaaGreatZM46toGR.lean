import Derived.Test.YtedeloeobocpiaaGreatZM0toML
set_option linter.all false
set_option maxHeartbeats 8000000
namespace Go.Sh
open Go Go.Proofs
variable [Con]
structure EO where
 d:Bool
 e:ENS
 st:STS
 s:MS
def at0(t n me:Int):Int:=bif bI n (aJ t n me)then aJ t n me else 1
def BZ(e:ENS)(st:STS)(x:AL)(s:MS):EO:=match ile x.left 0 with
 | true=>⟨e.dn||ieq (st.R.length:Int) 0,{e with ph:=2,sh:=e.dn||ieq (st.R.length:Int) 0,x:=x},{st with sp:=0},s⟩
 | false=>⟨false,{e with ph:=1,x:=x},st,s⟩
def rA(n:Int)(e:ENS)(st:STS)(x:AL)(s:MS):EO:=match x.free with
 | true=>(match aY s.xs (n+4+x.at') x.found with
   | true=>⟨true,{e with ph:=1,x:=⟨x.at',x.at',x.left,x.found,true⟩ },{st with sp:=x.at'},s.cased (n+4+x.at') x.found (WU (x.found+1))⟩
   | false=>BZ e st ⟨0,cC n x.at',x.left - 1,x.found,false⟩ (s.cased (n+4+x.at') x.found (WU (x.found+1))))
 | false=>(match oddB (aD s.xs (n+4+x.at'))with
   | true=>BZ e st ⟨0,cC n x.at',x.left - 1,aD s.xs (n+4+x.at'),false⟩ (s.loadd (n+4+x.at'))
   | false=>⟨false,{e with ph:=1,x:=⟨0,x.at',x.left,aD s.xs (n+4+x.at'),true⟩ },st,s.loadd (n+4+x.at')⟩)
instance:Inhabited EO:=⟨⟨false,oC,⟨0,0,[]⟩,⟨0,0,[],0,0,0,0,0,false⟩⟩⟩
def enF(t n:Int)(e:ENS)(st:STS)(s:MS):EO:=match e.ph with
 | 0=>(match ieq st.sp 0 with
   | true=>rA n e st ⟨0,at0 t n st.me,n,0,false⟩ s
   | false=>⟨true,e,st,s.loadd 0⟩)
 | 1=>rA n e st e.x s
 | 2=>⟨false,{e with ph:=3,y:= {e.y with N:=st.R,m:=aQ [] n 0 s,i:=1} },st,s.loadd (bD n 0)⟩
 | 3=>(match ieq (e.y.i+1) (2*t),ieq ((aS (aQ e.y.m n e.y.i s) e.y.N).length :Int) 0 with
   | true,true=>⟨true,{e with ph:=0,sh:=true,dn:=true},{st with R:=bV (aQ e.y.m n e.y.i s) e.y.N},s.loadd (bD n e.y.i)⟩
   | true,false=>⟨false,{e with ph:=4,y:=⟨0,e.y.N,aQ e.y.m n e.y.i s,e.y.i+1,bV (aQ e.y.m n e.y.i s) e.y.N,aS (aQ e.y.m n e.y.i s) e.y.N,aS (aQ e.y.m n e.y.i s) e.y.N,0,(aS (aQ e.y.m n e.y.i s) e.y.N).length⟩ },st,s.loadd (bD n e.y.i)⟩
   | false,_=>⟨false,{e with y:= {e.y with m:=aQ e.y.m n e.y.i s,i:=e.y.i+1} },st,s.loadd (bD n e.y.i)⟩)
 | _=>(match ieq ((e.y.l - 1:Nat):Int) 0 with
   | true=>⟨ieq (e.y.fs.length:Int) 0,{e with ph:=0,sh:=ieq (e.y.fs.length:Int) 0,dn:=true},{st with R:=e.y.ks},s.added (bF n e.y.gs e.y.j) 1⟩
   | false=>⟨false,{e with y:= {e.y with j:=e.y.j+1,l:=e.y.l - 1} },st,s.added (bF n e.y.gs e.y.j) 1⟩)
structure okAl (n:Int) (x:AL):Prop where
 hg:x.got=0
 ha:1≤x.at'∧x.at'≤n
 hl:0≤x.left∧x.left≤1000
def HU(t n:Int)(e:ENS)(st:STS):Prop:=match e.ph with
 | 0=>True
 | 1=>okAl n e.x
 | 2=>True
 | 3=>e.y.N.length≤1000000∧0≤e.y.i∧e.y.i<2*t
 | 4=>2*t≤e.y.i∧1≤e.y.l∧e.y.gs.length=e.y.j+e.y.l∧ -1000000≤List.getD e.y.gs (e.y.j+Int.toNat 0*1) 0∧List.getD e.y.gs (e.y.j+Int.toNat 0*1) 0≤1000000
 | _=>False
structure okE (t n:Int) (e:ENS) (st:STS) (s:MS):Prop where
 ht:1≤t∧t≤1000
 hn:1≤n∧n≤1000
 hc:0≤s.c∧s.c≤1000000
 hm:0≤st.me∧st.me≤1000
 hR:st.R.length≤1000000
 ho:HU t n e st
abbrev bB(l:Nat)(s:MS):Option (aG Mc):=some (.cells [.int .i64 s.t,.int .i64 s.n,.slice l 0 s.xs.length 1,.int .i64 s.c,.int .i64 s.k,.int .i64 s.a,.int .u64 s.o,.int .u64 s.w,.bool s.ok])
abbrev bC(s:MS):Option (aG Mc):=some (.ints (some .u64) s.xs)
def BV(t n:Int)(e:ENS)(st:STS)(s:MS):aA Ob:=[some (.abs (.ensure t n e) [1]),some (.abs (.store t n st) []),bB 3 s,bC s]
def EO.left(o:EO)(t n:Int)(K:AVal→aA Ob→Prop):Prop:=K (.bool o.d) (BV t n o.e o.st o.s)
theorem eC{K:AVal→aA Ob→Prop}{t n:Int}{o:EO}{g':aA Ob}(pl:List Nat)(hK:o.left t n K)
 (hb:(dK pl g'.length&&gN pl 0 4&&nK 1 (wC t n o.e))=true)
 (hT:eL pl g'=bK [some (.abs (.ensure t n o.e) [1]),some (.cells [.int .i64 t,.int .i64 n,.int .i64 o.st.me,.int .i64 o.st.sp,.slice 4 0 o.st.R.length 1]),bB 3 o.s,bC o.s,some (.ints (some .i64) o.st.R)] 0 1 (wC t n o.e) [1]):sF tbl 4 (sF tbl 4 K) (.bool o.d) g':=by
 simp only [Bool.and_eq_true]at hb
 obtain⟨⟨b1,b2⟩,b3⟩:=hb
 refine⟨pl,_,.ensure t n o.e,0,1,_,[1],?_,hT,rfl,rfl,⟨[0,1,2,3,4],[some (.abs (.ensure t n o.e) [1]),some (.abs (.store t n o.st) []),bB 3 o.s,bC o.s],.store t n o.st,1,0,iB t n o.st,[],rfl,rfl,rfl,rfl,?_⟩⟩
 ·rw [b1,b2,b3];rfl
 ·exact hK
theorem IH(t n me sp:Int)(R:List Int)(sh dn:Bool)(x:AL)(y:SWS)(s:MS)(K:AVal→aA Ob→Prop)(hK:bif !ieq sp 0 then(lE' s.3∧(0:Int)≤s.4∧s.4≤(4611686018427387904:Int))∧K (.bool true) [some (.cells [.ptr 1 0,.bool sh,.raw (Value.pointer none),.raw (Value.pointer none),.bool dn]),some (.cells [.int .i64 t,.int .i64 n,.int .i64 me,.int .i64 sp,.slice 4 0 (List.length R) 1]),some (.cells [.int .i64 s.1,.int .i64 s.2,.slice 3 0 (List.length s.3) 1,.int .i64 (s.4+1),.int .i64 1,.int .i64 0,.int .u64 (aD s.3 0),.int .u64 (aD s.3 0),.bool (bN s.3 0)]),some (.ints (some .u64) s.3),some (.ints (some .i64) R)]else(((0:Int)≤me∧me≤(100000:Int))∧(0:Int)≤n∧n≤(100000:Int))∧(True∧True)∧(lE' s.3∧((1:Int)≤t∧t≤(1000:Int))∧((1:Int)≤n∧n≤(1000:Int))∧(((1:Int)≤bif bI n (aJ t n me)then aJ t n me else 1)∧(bif bI n (aJ t n me)then aJ t n me else 1)≤n)∧((0:Int)≤n∧n≤(1000:Int))∧(0:Int)≤s.4∧s.4≤(1000000:Int))∧bif oddB (aD s.3 (n+4+bif bI n (aJ t n me)then aJ t n me else 1))then bif !ile (n - 1) 0 then K (.bool false) [some (.cells [.ptr 1 0,.bool sh,.ptr 5 0,.raw (Value.pointer none),.bool dn]),some (.cells [.int .i64 t,.int .i64 n,.int .i64 me,.int .i64 sp,.slice 4 0 (List.length R) 1]),some (.cells [.int .i64 s.1,.int .i64 s.2,.slice 3 0 (List.length s.3) 1,.int .i64 (s.4+1),.int .i64 1,.int .i64 (n+4+bif bI n (aJ t n me)then aJ t n me else 1),.int .u64 (aD s.3 (n+4+bif bI n (aJ t n me)then aJ t n me else 1)),.int .u64 (aD s.3 (n+4+bif bI n (aJ t n me)then aJ t n me else 1)),.bool (bN s.3 (n+4+bif bI n (aJ t n me)then aJ t n me else 1))]),some (.ints (some .u64) s.3),some (.ints (some .i64) R),some (.cells [.int .i64 t,.int .i64 n,.int .i64 0,.int .i64 (cC n (bif bI n (aJ t n me)then aJ t n me else 1)),.int .i64 (n - 1),.int .u64 (aD s.3 (n+4+bif bI n (aJ t n me)then aJ t n me else 1)),.bool false])]else bif dn then K (.bool true) [some (.cells [.ptr 1 0,.bool true,.ptr 5 0,.ptr 6 0,.bool dn]),some (.cells [.int .i64 t,.int .i64 n,.int .i64 me,.int .i64 0,.slice 4 0 (List.length R) 1]),some (.cells [.int .i64 s.1,.int .i64 s.2,.slice 3 0 (List.length s.3) 1,.int .i64 (s.4+1),.int .i64 1,.int .i64 (n+4+bif bI n (aJ t n me)then aJ t n me else 1),.int .u64 (aD s.3 (n+4+bif bI n (aJ t n me)then aJ t n me else 1)),.int .u64 (aD s.3 (n+4+bif bI n (aJ t n me)then aJ t n me else 1)),.bool (bN s.3 (n+4+bif bI n (aJ t n me)then aJ t n me else 1))]),some (.ints (some .u64) s.3),some (.ints (some .i64) R),some (.cells [.int .i64 t,.int .i64 n,.int .i64 0,.int .i64 (cC n (bif bI n (aJ t n me)then aJ t n me else 1)),.int .i64 (n - 1),.int .u64 (aD s.3 (n+4+bif bI n (aJ t n me)then aJ t n me else 1)),.bool false]),some (.cells [.ptr 1 0,.raw (Value.pointer none)])]else K (.bool (ieq (↑(List.length R):Int) 0)) [some (.cells [.ptr 1 0,.bool (ieq (↑(List.length R):Int) 0),.ptr 5 0,.ptr 6 0,.bool dn]),some (.cells [.int .i64 t,.int .i64 n,.int .i64 me,.int .i64 0,.slice 4 0 (List.length R) 1]),some (.cells [.int .i64 s.1,.int .i64 s.2,.slice 3 0 (List.length s.3) 1,.int .i64 (s.4+1),.int .i64 1,.int .i64 (n+4+bif bI n (aJ t n me)then aJ t n me else 1),.int .u64 (aD s.3 (n+4+bif bI n (aJ t n me)then aJ t n me else 1)),.int .u64 (aD s.3 (n+4+bif bI n (aJ t n me)then aJ t n me else 1)),.bool (bN s.3 (n+4+bif bI n (aJ t n me)then aJ t n me else 1))]),some (.ints (some .u64) s.3),some (.ints (some .i64) R),some (.cells [.int .i64 t,.int .i64 n,.int .i64 0,.int .i64 (cC n (bif bI n (aJ t n me)then aJ t n me else 1)),.int .i64 (n - 1),.int .u64 (aD s.3 (n+4+bif bI n (aJ t n me)then aJ t n me else 1)),.bool false]),some (.cells [.ptr 1 0,.raw (Value.pointer none)])]else K (.bool false) [some (.cells [.ptr 1 0,.bool sh,.ptr 5 0,.raw (Value.pointer none),.bool dn]),some (.cells [.int .i64 t,.int .i64 n,.int .i64 me,.int .i64 sp,.slice 4 0 (List.length R) 1]),some (.cells [.int .i64 s.1,.int .i64 s.2,.slice 3 0 (List.length s.3) 1,.int .i64 (s.4+1),.int .i64 1,.int .i64 (n+4+bif bI n (aJ t n me)then aJ t n me else 1),.int .u64 (aD s.3 (n+4+bif bI n (aJ t n me)then aJ t n me else 1)),.int .u64 (aD s.3 (n+4+bif bI n (aJ t n me)then aJ t n me else 1)),.bool (bN s.3 (n+4+bif bI n (aJ t n me)then aJ t n me else 1))]),some (.ints (some .u64) s.3),some (.ints (some .i64) R),some (.cells [.int .i64 t,.int .i64 n,.int .i64 0,.int .i64 (bif bI n (aJ t n me)then aJ t n me else 1),.int .i64 n,.int .u64 (aD s.3 (n+4+bif bI n (aJ t n me)then aJ t n me else 1)),.bool true])]):cT' 85 [.ptr 0 0,.ptr 2 0] [some (.cells [.ptr 1 0,.bool sh,.raw (.pointer none),.raw (.pointer none),.bool dn]),some (.cells [.int .i64 t,.int .i64 n,.int .i64 me,.int .i64 sp,.slice 4 0 R.length 1]),bB 3 s,bC s,some (.ints (some .i64) R)] K:=by
 refine J8 (cM' (E:=E42) (by kernel_rfl) hK)
theorem II(t n me sp:Int)(R:List Int)(sh dn:Bool)(x:AL)(y:SWS)(s:MS)(K:AVal→aA Ob→Prop)(hK:(lE' s.3∧((1:Int)≤t∧t≤(1000:Int))∧((1:Int)≤n∧n≤(1000:Int))∧((1:Int)≤x.2∧x.2≤n)∧((0:Int)≤x.3∧x.3≤(1000:Int))∧(0:Int)≤s.4∧s.4≤(1000000:Int))∧bif x.5 then bif aY s.3 (n+4+x.2) x.4 then bif !ieq x.2 0 then K (.bool true) [some (.cells [.ptr 1 0,.bool sh,.ptr 5 0,.raw (Value.pointer none),.bool dn]),some (.cells [.int .i64 t,.int .i64 n,.int .i64 me,.int .i64 x.2,.slice 4 0 (List.length R) 1]),some (.cells [.int .i64 s.1,.int .i64 s.2,.slice 3 0 (List.length (bif aY s.3 (n+4+x.2) x.4 then aT s.3 (n+4+x.2) (WU (x.4+1))else s.3)) 1,.int .i64 (s.4+1),.int .i64 3,.int .i64 (n+4+x.2),.int .u64 (aD s.3 (n+4+x.2)),.int .u64 (bif bN s.3 (n+4+x.2)then WU (x.4+1)else 0),.bool (aY s.3 (n+4+x.2) x.4)]),some (.ints (some .u64) (bif aY s.3 (n+4+x.2) x.4 then aT s.3 (n+4+x.2) (WU (x.4+1))else s.3)),some (.ints (some .i64) R),some (.cells [.int .i64 t,.int .i64 n,.int .i64 x.2,.int .i64 x.2,.int .i64 x.3,.int .u64 x.4,.bool true])]else bif dn then K (.bool true) [some (.cells [.ptr 1 0,.bool true,.ptr 5 0,.ptr 6 0,.bool dn]),some (.cells [.int .i64 t,.int .i64 n,.int .i64 me,.int .i64 x.2,.slice 4 0 (List.length R) 1]),some (.cells [.int .i64 s.1,.int .i64 s.2,.slice 3 0 (List.length (bif aY s.3 (n+4+x.2) x.4 then aT s.3 (n+4+x.2) (WU (x.4+1))else s.3)) 1,.int .i64 (s.4+1),.int .i64 3,.int .i64 (n+4+x.2),.int .u64 (aD s.3 (n+4+x.2)),.int .u64 (bif bN s.3 (n+4+x.2)then WU (x.4+1)else 0),.bool (aY s.3 (n+4+x.2) x.4)]),some (.ints (some .u64) (bif aY s.3 (n+4+x.2) x.4 then aT s.3 (n+4+x.2) (WU (x.4+1))else s.3)),some (.ints (some .i64) R),some (.cells [.int .i64 t,.int .i64 n,.int .i64 x.2,.int .i64 x.2,.int .i64 x.3,.int .u64 x.4,.bool true]),some (.cells [.ptr 1 0,.raw (Value.pointer none)])]else K (.bool (ieq (↑(List.length R):Int) 0)) [some (.cells [.ptr 1 0,.bool (ieq (↑(List.length R):Int) 0),.ptr 5 0,.ptr 6 0,.bool dn]),some (.cells [.int .i64 t,.int .i64 n,.int .i64 me,.int .i64 x.2,.slice 4 0 (List.length R) 1]),some (.cells [.int .i64 s.1,.int .i64 s.2,.slice 3 0 (List.length (bif aY s.3 (n+4+x.2) x.4 then aT s.3 (n+4+x.2) (WU (x.4+1))else s.3)) 1,.int .i64 (s.4+1),.int .i64 3,.int .i64 (n+4+x.2),.int .u64 (aD s.3 (n+4+x.2)),.int .u64 (bif bN s.3 (n+4+x.2)then WU (x.4+1)else 0),.bool (aY s.3 (n+4+x.2) x.4)]),some (.ints (some .u64) (bif aY s.3 (n+4+x.2) x.4 then aT s.3 (n+4+x.2) (WU (x.4+1))else s.3)),some (.ints (some .i64) R),some (.cells [.int .i64 t,.int .i64 n,.int .i64 x.2,.int .i64 x.2,.int .i64 x.3,.int .u64 x.4,.bool true]),some (.cells [.ptr 1 0,.raw (Value.pointer none)])]else bif !ile (x.3 - 1) 0 then K (.bool false) [some (.cells [.ptr 1 0,.bool sh,.ptr 5 0,.raw (Value.pointer none),.bool dn]),some (.cells [.int .i64 t,.int .i64 n,.int .i64 me,.int .i64 sp,.slice 4 0 (List.length R) 1]),some (.cells [.int .i64 s.1,.int .i64 s.2,.slice 3 0 (List.length (bif aY s.3 (n+4+x.2) x.4 then aT s.3 (n+4+x.2) (WU (x.4+1))else s.3)) 1,.int .i64 (s.4+1),.int .i64 3,.int .i64 (n+4+x.2),.int .u64 (aD s.3 (n+4+x.2)),.int .u64 (bif bN s.3 (n+4+x.2)then WU (x.4+1)else 0),.bool (aY s.3 (n+4+x.2) x.4)]),some (.ints (some .u64) (bif aY s.3 (n+4+x.2) x.4 then aT s.3 (n+4+x.2) (WU (x.4+1))else s.3)),some (.ints (some .i64) R),some (.cells [.int .i64 t,.int .i64 n,.int .i64 x.1,.int .i64 (cC n x.2),.int .i64 (x.3 - 1),.int .u64 x.4,.bool false])]else bif !ieq x.1 0 then K (.bool true) [some (.cells [.ptr 1 0,.bool sh,.ptr 5 0,.raw (Value.pointer none),.bool dn]),some (.cells [.int .i64 t,.int .i64 n,.int .i64 me,.int .i64 x.1,.slice 4 0 (List.length R) 1]),some (.cells [.int .i64 s.1,.int .i64 s.2,.slice 3 0 (List.length (bif aY s.3 (n+4+x.2) x.4 then aT s.3 (n+4+x.2) (WU (x.4+1))else s.3)) 1,.int .i64 (s.4+1),.int .i64 3,.int .i64 (n+4+x.2),.int .u64 (aD s.3 (n+4+x.2)),.int .u64 (bif bN s.3 (n+4+x.2)then WU (x.4+1)else 0),.bool (aY s.3 (n+4+x.2) x.4)]),some (.ints (some .u64) (bif aY s.3 (n+4+x.2) x.4 then aT s.3 (n+4+x.2) (WU (x.4+1))else s.3)),some (.ints (some .i64) R),some (.cells [.int .i64 t,.int .i64 n,.int .i64 x.1,.int .i64 (cC n x.2),.int .i64 (x.3 - 1),.int .u64 x.4,.bool false])]else bif dn then K (.bool true) [some (.cells [.ptr 1 0,.bool true,.ptr 5 0,.ptr 6 0,.bool dn]),some (.cells [.int .i64 t,.int .i64 n,.int .i64 me,.int .i64 x.1,.slice 4 0 (List.length R) 1]),some (.cells [.int .i64 s.1,.int .i64 s.2,.slice 3 0 (List.length (bif aY s.3 (n+4+x.2) x.4 then aT s.3 (n+4+x.2) (WU (x.4+1))else s.3)) 1,.int .i64 (s.4+1),.int .i64 3,.int .i64 (n+4+x.2),.int .u64 (aD s.3 (n+4+x.2)),.int .u64 (bif bN s.3 (n+4+x.2)then WU (x.4+1)else 0),.bool (aY s.3 (n+4+x.2) x.4)]),some (.ints (some .u64) (bif aY s.3 (n+4+x.2) x.4 then aT s.3 (n+4+x.2) (WU (x.4+1))else s.3)),some (.ints (some .i64) R),some (.cells [.int .i64 t,.int .i64 n,.int .i64 x.1,.int .i64 (cC n x.2),.int .i64 (x.3 - 1),.int .u64 x.4,.bool false]),some (.cells [.ptr 1 0,.raw (Value.pointer none)])]else K (.bool (ieq (↑(List.length R):Int) 0)) [some (.cells [.ptr 1 0,.bool (ieq (↑(List.length R):Int) 0),.ptr 5 0,.ptr 6 0,.bool dn]),some (.cells [.int .i64 t,.int .i64 n,.int .i64 me,.int .i64 x.1,.slice 4 0 (List.length R) 1]),some (.cells [.int .i64 s.1,.int .i64 s.2,.slice 3 0 (List.length (bif aY s.3 (n+4+x.2) x.4 then aT s.3 (n+4+x.2) (WU (x.4+1))else s.3)) 1,.int .i64 (s.4+1),.int .i64 3,.int .i64 (n+4+x.2),.int .u64 (aD s.3 (n+4+x.2)),.int .u64 (bif bN s.3 (n+4+x.2)then WU (x.4+1)else 0),.bool (aY s.3 (n+4+x.2) x.4)]),some (.ints (some .u64) (bif aY s.3 (n+4+x.2) x.4 then aT s.3 (n+4+x.2) (WU (x.4+1))else s.3)),some (.ints (some .i64) R),some (.cells [.int .i64 t,.int .i64 n,.int .i64 x.1,.int .i64 (cC n x.2),.int .i64 (x.3 - 1),.int .u64 x.4,.bool false]),some (.cells [.ptr 1 0,.raw (Value.pointer none)])]else bif oddB (aD s.3 (n+4+x.2))then bif !ile (x.3 - 1) 0 then K (.bool false) [some (.cells [.ptr 1 0,.bool sh,.ptr 5 0,.raw (Value.pointer none),.bool dn]),some (.cells [.int .i64 t,.int .i64 n,.int .i64 me,.int .i64 sp,.slice 4 0 (List.length R) 1]),some (.cells [.int .i64 s.1,.int .i64 s.2,.slice 3 0 (List.length s.3) 1,.int .i64 (s.4+1),.int .i64 1,.int .i64 (n+4+x.2),.int .u64 (aD s.3 (n+4+x.2)),.int .u64 (aD s.3 (n+4+x.2)),.bool (bN s.3 (n+4+x.2))]),some (.ints (some .u64) s.3),some (.ints (some .i64) R),some (.cells [.int .i64 t,.int .i64 n,.int .i64 x.1,.int .i64 (cC n x.2),.int .i64 (x.3 - 1),.int .u64 (aD s.3 (n+4+x.2)),.bool false])]else bif !ieq x.1 0 then K (.bool true) [some (.cells [.ptr 1 0,.bool sh,.ptr 5 0,.raw (Value.pointer none),.bool dn]),some (.cells [.int .i64 t,.int .i64 n,.int .i64 me,.int .i64 x.1,.slice 4 0 (List.length R) 1]),some (.cells [.int .i64 s.1,.int .i64 s.2,.slice 3 0 (List.length s.3) 1,.int .i64 (s.4+1),.int .i64 1,.int .i64 (n+4+x.2),.int .u64 (aD s.3 (n+4+x.2)),.int .u64 (aD s.3 (n+4+x.2)),.bool (bN s.3 (n+4+x.2))]),some (.ints (some .u64) s.3),some (.ints (some .i64) R),some (.cells [.int .i64 t,.int .i64 n,.int .i64 x.1,.int .i64 (cC n x.2),.int .i64 (x.3 - 1),.int .u64 (aD s.3 (n+4+x.2)),.bool false])]else bif dn then K (.bool true) [some (.cells [.ptr 1 0,.bool true,.ptr 5 0,.ptr 6 0,.bool dn]),some (.cells [.int .i64 t,.int .i64 n,.int .i64 me,.int .i64 x.1,.slice 4 0 (List.length R) 1]),some (.cells [.int .i64 s.1,.int .i64 s.2,.slice 3 0 (List.length s.3) 1,.int .i64 (s.4+1),.int .i64 1,.int .i64 (n+4+x.2),.int .u64 (aD s.3 (n+4+x.2)),.int .u64 (aD s.3 (n+4+x.2)),.bool (bN s.3 (n+4+x.2))]),some (.ints (some .u64) s.3),some (.ints (some .i64) R),some (.cells [.int .i64 t,.int .i64 n,.int .i64 x.1,.int .i64 (cC n x.2),.int .i64 (x.3 - 1),.int .u64 (aD s.3 (n+4+x.2)),.bool false]),some (.cells [.ptr 1 0,.raw (Value.pointer none)])]else K (.bool (ieq (↑(List.length R):Int) 0)) [some (.cells [.ptr 1 0,.bool (ieq (↑(List.length R):Int) 0),.ptr 5 0,.ptr 6 0,.bool dn]),some (.cells [.int .i64 t,.int .i64 n,.int .i64 me,.int .i64 x.1,.slice 4 0 (List.length R) 1]),some (.cells [.int .i64 s.1,.int .i64 s.2,.slice 3 0 (List.length s.3) 1,.int .i64 (s.4+1),.int .i64 1,.int .i64 (n+4+x.2),.int .u64 (aD s.3 (n+4+x.2)),.int .u64 (aD s.3 (n+4+x.2)),.bool (bN s.3 (n+4+x.2))]),some (.ints (some .u64) s.3),some (.ints (some .i64) R),some (.cells [.int .i64 t,.int .i64 n,.int .i64 x.1,.int .i64 (cC n x.2),.int .i64 (x.3 - 1),.int .u64 (aD s.3 (n+4+x.2)),.bool false]),some (.cells [.ptr 1 0,.raw (Value.pointer none)])]else K (.bool false) [some (.cells [.ptr 1 0,.bool sh,.ptr 5 0,.raw (Value.pointer none),.bool dn]),some (.cells [.int .i64 t,.int .i64 n,.int .i64 me,.int .i64 sp,.slice 4 0 (List.length R) 1]),some (.cells [.int .i64 s.1,.int .i64 s.2,.slice 3 0 (List.length s.3) 1,.int .i64 (s.4+1),.int .i64 1,.int .i64 (n+4+x.2),.int .u64 (aD s.3 (n+4+x.2)),.int .u64 (aD s.3 (n+4+x.2)),.bool (bN s.3 (n+4+x.2))]),some (.ints (some .u64) s.3),some (.ints (some .i64) R),some (.cells [.int .i64 t,.int .i64 n,.int .i64 x.1,.int .i64 x.2,.int .i64 x.3,.int .u64 (aD s.3 (n+4+x.2)),.bool true])]):cT' 85 [.ptr 0 0,.ptr 2 0] [some (.cells [.ptr 1 0,.bool sh,.ptr 5 0,.raw (.pointer none),.bool dn]),some (.cells [.int .i64 t,.int .i64 n,.int .i64 me,.int .i64 sp,.slice 4 0 R.length 1]),bB 3 s,bC s,some (.ints (some .i64) R),DK t n x] K:=by
 refine J8 (cM' (E:=E42) (by kernel_rfl) hK)
theorem IJ(t n me sp:Int)(R:List Int)(sh dn:Bool)(x:AL)(y:SWS)(s:MS)(K:AVal→aA Ob→Prop)(hK:((lE' s.3∧lE' R)∧((1:Int)≤t∧t≤(1000:Int))∧((1:Int)≤n∧n≤(1000:Int))∧((0:Int)≤s.4∧s.4≤(1000000:Int))∧List.length R≤(1000000:Nat))∧K (.bool false) [some (.cells [.ptr 1 0,.bool sh,.ptr 5 0,.ptr 6 0,.bool dn]),some (.cells [.int .i64 t,.int .i64 n,.int .i64 me,.int .i64 sp,.slice 4 0 (List.length R) 1]),some (.cells [.int .i64 s.1,.int .i64 s.2,.slice 3 0 (List.length s.3) 1,.int .i64 (s.4+1),.int .i64 1,.int .i64 (bD n 0),.int .u64 (aD s.3 (bD n 0)),.int .u64 (aD s.3 (bD n 0)),.bool (bN s.3 (bD n 0))]),some (.ints (some .u64) s.3),some (.ints (some .i64) R),some (.cells [.int .i64 t,.int .i64 n,.int .i64 x.1,.int .i64 x.2,.int .i64 x.3,.int .u64 x.4,.bool x.5]),some (.cells [.ptr 1 0,.ptr 7 0]),some (.cells [.int .i64 t,.int .i64 n,.raw (Value.slice none 0 0),.raw (Value.slice none 0 0),.slice 8 0 (List.length R) 1,.map 9,.int .i64 1,.raw (Value.pointer none)]),some (.ints (some .i64) R),some (.imap .i64 none (aQ [] n 0 s))]):cT' 85 [.ptr 0 0,.ptr 2 0] [some (.cells [.ptr 1 0,.bool sh,.ptr 5 0,.ptr 6 0,.bool dn]),some (.cells [.int .i64 t,.int .i64 n,.int .i64 me,.int .i64 sp,.slice 4 0 R.length 1]),bB 3 s,bC s,some (.ints (some .i64) R),DK t n x,some (.cells [.ptr 1 0,.raw (.pointer none)])] K:=by
 refine J8 (cM' (E:=E42) (by kernel_rfl) hK)
theorem IK(t n me sp:Int)(R:List Int)(sh dn:Bool)(x:AL)(y:SWS)(s:MS)(K:AVal→aA Ob→Prop)(hK:((lE' s.3∧lE' R∧lE' y.2∧t=t∧n=n)∧((1:Int)≤t∧t≤(1000:Int))∧((1:Int)≤n∧n≤(1000:Int))∧((0:Int)≤s.4∧s.4≤(1000000:Int))∧List.length y.2≤(1000000:Nat)∧(0:Int)≤y.4∧y.4<(2:Int)*t)∧bif ieq (y.4+1) (2*t)then bif ieq (↑(List.length (aS (aQ y.3 n y.4 s) y.2)):Int) 0 then K (.bool (ieq (↑(List.length (aS (aQ y.3 n y.4 s) y.2)):Int) 0)) [some (.cells [.ptr 1 0,.bool (ieq (↑(List.length (aS (aQ y.3 n y.4 s) y.2)):Int) 0),.raw (Value.pointer none),.raw (Value.pointer none),.bool true]),some (.cells [.int .i64 t,.int .i64 n,.int .i64 me,.int .i64 sp,.slice 10 0 (List.length (bV (aQ y.3 n y.4 s) y.2)) 1]),some (.cells [.int .i64 s.1,.int .i64 s.2,.slice 3 0 (List.length s.3) 1,.int .i64 (s.4+1),.int .i64 1,.int .i64 (bD n y.4),.int .u64 (aD s.3 (bD n y.4)),.int .u64 (aD s.3 (bD n y.4)),.bool (bN s.3 (bD n y.4))]),some (.ints (some .u64) s.3),some (.ints (some .i64) R),some (.cells [.int .i64 t,.int .i64 n,.int .i64 x.1,.int .i64 x.2,.int .i64 x.3,.int .u64 x.4,.bool x.5]),some (.cells [.ptr 1 0,.ptr 7 0]),some (.cells [.int .i64 t,.int .i64 n,.slice 10 0 (List.length (bV (aQ y.3 n y.4 s) y.2)) 1,.slice 11 0 (List.length (aS (aQ y.3 n y.4 s) y.2)) 1,.slice 8 0 (List.length y.2) 1,.map 9,.int .i64 (y.4+1),.ptr 12 0]),some (.ints (some .i64) y.2),some (.imap .i64 none (aQ y.3 n y.4 s)),some (.ints (some .i64) (bV (aQ y.3 n y.4 s) y.2)),some (.ints (some .i64) (aS (aQ y.3 n y.4 s) y.2)),some (.cells [.int .i64 t,.int .i64 n,.slice 13 0 (List.length (aS (aQ y.3 n y.4 s) y.2)) 1]),some (.ints (some .i64) (aS (aQ y.3 n y.4 s) y.2))]else K (.bool false) [some (.cells [.ptr 1 0,.bool sh,.ptr 5 0,.ptr 6 0,.bool dn]),some (.cells [.int .i64 t,.int .i64 n,.int .i64 me,.int .i64 sp,.slice 4 0 (List.length R) 1]),some (.cells [.int .i64 s.1,.int .i64 s.2,.slice 3 0 (List.length s.3) 1,.int .i64 (s.4+1),.int .i64 1,.int .i64 (bD n y.4),.int .u64 (aD s.3 (bD n y.4)),.int .u64 (aD s.3 (bD n y.4)),.bool (bN s.3 (bD n y.4))]),some (.ints (some .u64) s.3),some (.ints (some .i64) R),some (.cells [.int .i64 t,.int .i64 n,.int .i64 x.1,.int .i64 x.2,.int .i64 x.3,.int .u64 x.4,.bool x.5]),some (.cells [.ptr 1 0,.ptr 7 0]),some (.cells [.int .i64 t,.int .i64 n,.slice 10 0 (List.length (bV (aQ y.3 n y.4 s) y.2)) 1,.slice 11 0 (List.length (aS (aQ y.3 n y.4 s) y.2)) 1,.slice 8 0 (List.length y.2) 1,.map 9,.int .i64 (y.4+1),.ptr 12 0]),some (.ints (some .i64) y.2),some (.imap .i64 none (aQ y.3 n y.4 s)),some (.ints (some .i64) (bV (aQ y.3 n y.4 s) y.2)),some (.ints (some .i64) (aS (aQ y.3 n y.4 s) y.2)),some (.cells [.int .i64 t,.int .i64 n,.slice 13 0 (List.length (aS (aQ y.3 n y.4 s) y.2)) 1]),some (.ints (some .i64) (aS (aQ y.3 n y.4 s) y.2))]else K (.bool false) [some (.cells [.ptr 1 0,.bool sh,.ptr 5 0,.ptr 6 0,.bool dn]),some (.cells [.int .i64 t,.int .i64 n,.int .i64 me,.int .i64 sp,.slice 4 0 (List.length R) 1]),some (.cells [.int .i64 s.1,.int .i64 s.2,.slice 3 0 (List.length s.3) 1,.int .i64 (s.4+1),.int .i64 1,.int .i64 (bD n y.4),.int .u64 (aD s.3 (bD n y.4)),.int .u64 (aD s.3 (bD n y.4)),.bool (bN s.3 (bD n y.4))]),some (.ints (some .u64) s.3),some (.ints (some .i64) R),some (.cells [.int .i64 t,.int .i64 n,.int .i64 x.1,.int .i64 x.2,.int .i64 x.3,.int .u64 x.4,.bool x.5]),some (.cells [.ptr 1 0,.ptr 7 0]),some (.cells [.int .i64 t,.int .i64 n,.raw (Value.slice none 0 0),.raw (Value.slice none 0 0),.slice 8 0 (List.length y.2) 1,.map 9,.int .i64 (y.4+1),.raw (Value.pointer none)]),some (.ints (some .i64) y.2),some (.imap .i64 none (aQ y.3 n y.4 s))]):cT' 85 [.ptr 0 0,.ptr 2 0] [some (.cells [.ptr 1 0,.bool sh,.ptr 5 0,.ptr 6 0,.bool dn]),some (.cells [.int .i64 t,.int .i64 n,.int .i64 me,.int .i64 sp,.slice 4 0 R.length 1]),bB 3 s,bC s,some (.ints (some .i64) R),DK t n x,some (.cells [.ptr 1 0,.ptr 7 0]),some (.cells [.int .i64 t,.int .i64 n,.raw (.slice none 0 0),.raw (.slice none 0 0),.slice 8 0 y.N.length 1,.map 9,.int .i64 y.i,.raw (.pointer none)]),some (.ints (some .i64) y.N),some (.imap .i64 none y.m)] K:=by
 refine J8 (cM' (E:=E42) (by kernel_rfl) hK)
theorem IL(t n me sp:Int)(R:List Int)(sh dn:Bool)(x:AL)(y:SWS)(s:MS)(K:AVal→aA Ob→Prop)(hK:((lE' s.3∧lE' R∧lE' y.5∧lE' y.6∧lE' y.2∧t=t∧n=n∧t=t∧n=n)∧((1:Int)≤t∧t≤(1000:Int))∧((1:Int)≤n∧n≤(1000:Int))∧((0:Int)≤s.4∧s.4≤(1000000:Int))∧2*t≤y.4∧((1:Nat)≤y.9∧List.length y.7=y.8+y.9)∧(-1000000:Int)≤List.getD y.7 (y.8+Int.toNat 0*1) 0∧List.getD y.7 (y.8+Int.toNat 0*1) (0:Int)≤(1000000:Int))∧bif ieq (↑(y.9 - 1):Int) 0 then K (.bool (ieq (↑(List.length y.6):Int) 0)) [some (.cells [.ptr 1 0,.bool (ieq (↑(List.length y.6):Int) 0),.raw (Value.pointer none),.raw (Value.pointer none),.bool true]),some (.cells [.int .i64 t,.int .i64 n,.int .i64 me,.int .i64 sp,.slice 8 0 (List.length y.5) 1]),some (.cells [.int .i64 s.1,.int .i64 s.2,.slice 3 0 (List.length (aT s.3 (bF n y.7 y.8) (WU (aD s.3 (bF n y.7 y.8)+1)))) 1,.int .i64 (s.4+1),.int .i64 4,.int .i64 (bF n y.7 y.8),.int .u64 (aD s.3 (bF n y.7 y.8)),.int .u64 (bif bN s.3 (bF n y.7 y.8)then WU (aD s.3 (bF n y.7 y.8)+1)else 0),.bool (bN s.3 (bF n y.7 y.8))]),some (.ints (some .u64) (aT s.3 (bF n y.7 y.8) (WU (aD s.3 (bF n y.7 y.8)+1)))),some (.ints (some .i64) R),some (.cells [.int .i64 t,.int .i64 n,.int .i64 x.1,.int .i64 x.2,.int .i64 x.3,.int .u64 x.4,.bool x.5]),some (.cells [.ptr 1 0,.ptr 7 0]),some (.cells [.int .i64 t,.int .i64 n,.slice 8 0 (List.length y.5) 1,.slice 9 0 (List.length y.6) 1,.slice 10 0 (List.length y.2) 1,.map 11,.int .i64 y.4,.ptr 12 0]),some (.ints (some .i64) y.5),some (.ints (some .i64) y.6),some (.ints (some .i64) y.2),some (.imap .i64 none y.3),some (.cells [.int .i64 t,.int .i64 n,.slice 13 (y.8+1) (y.9 - 1) 1]),some (.ints (some .i64) y.7)]else K (.bool false) [some (.cells [.ptr 1 0,.bool sh,.ptr 5 0,.ptr 6 0,.bool dn]),some (.cells [.int .i64 t,.int .i64 n,.int .i64 me,.int .i64 sp,.slice 4 0 (List.length R) 1]),some (.cells [.int .i64 s.1,.int .i64 s.2,.slice 3 0 (List.length (aT s.3 (bF n y.7 y.8) (WU (aD s.3 (bF n y.7 y.8)+1)))) 1,.int .i64 (s.4+1),.int .i64 4,.int .i64 (bF n y.7 y.8),.int .u64 (aD s.3 (bF n y.7 y.8)),.int .u64 (bif bN s.3 (bF n y.7 y.8)then WU (aD s.3 (bF n y.7 y.8)+1)else 0),.bool (bN s.3 (bF n y.7 y.8))]),some (.ints (some .u64) (aT s.3 (bF n y.7 y.8) (WU (aD s.3 (bF n y.7 y.8)+1)))),some (.ints (some .i64) R),some (.cells [.int .i64 t,.int .i64 n,.int .i64 x.1,.int .i64 x.2,.int .i64 x.3,.int .u64 x.4,.bool x.5]),some (.cells [.ptr 1 0,.ptr 7 0]),some (.cells [.int .i64 t,.int .i64 n,.slice 8 0 (List.length y.5) 1,.slice 9 0 (List.length y.6) 1,.slice 10 0 (List.length y.2) 1,.map 11,.int .i64 y.4,.ptr 12 0]),some (.ints (some .i64) y.5),some (.ints (some .i64) y.6),some (.ints (some .i64) y.2),some (.imap .i64 none y.3),some (.cells [.int .i64 t,.int .i64 n,.slice 13 (y.8+1) (y.9 - 1) 1]),some (.ints (some .i64) y.7)]):cT' 85 [.ptr 0 0,.ptr 2 0] [some (.cells [.ptr 1 0,.bool sh,.ptr 5 0,.ptr 6 0,.bool dn]),some (.cells [.int .i64 t,.int .i64 n,.int .i64 me,.int .i64 sp,.slice 4 0 R.length 1]),bB 3 s,bC s,some (.ints (some .i64) R),DK t n x,some (.cells [.ptr 1 0,.ptr 7 0]),some (.cells [.int .i64 t,.int .i64 n,.slice 8 0 y.ks.length 1,.slice 9 0 y.fs.length 1,.slice 10 0 y.N.length 1,.map 11,.int .i64 y.i,.ptr 12 0]),some (.ints (some .i64) y.ks),some (.ints (some .i64) y.fs),some (.ints (some .i64) y.N),some (.imap .i64 none y.m),some (.cells [.int .i64 t,.int .i64 n,.slice 13 y.j y.l 1]),some (.ints (some .i64) y.gs)] K:=by
 refine J8 (cM' (E:=E42) (by kernel_rfl) hK)
theorem JQ(t n:Int)(e:ENS)(st:STS)(s:MS)(K:AVal→aA Ob→Prop)(hp:e.ph=2)(ok:okE t n e st s)(hK:(enF t n e st s).left t n K):cT' 85 [.ptr 0 0,.ptr 2 0] (BV t n e st s) K:=by
 obtain⟨ht,hn,hc,hm,hR,ho⟩:=ok
 obtain⟨ph,sh,dn,x,y⟩:=e
 dsimp only at hp
 subst hp
 obtain⟨me,sp,R⟩:=st
 dsimp only at hm hR
 refine aC.pack tbl (aC.pack tbl ?_)
 refine aC.unpack tbl (.store t n ⟨me,sp,R⟩) 1 0 (iB t n ⟨me,sp,R⟩) [] rfl rfl rfl rfl ?_
 refine aC.unpack tbl (.ensure t n ⟨2,sh,dn,x,y⟩) 0 1 (wC t n ⟨2,sh,dn,x,y⟩) [1] rfl rfl rfl rfl ?_
 refine IJ t n me sp R sh dn x y s _ ?_
 exact⟨⟨⟨rfl,rfl⟩,ht,hn,hc,hR⟩,eC (o:=enF t n ⟨2,sh,dn,x,y⟩ ⟨me,sp,R⟩ s) [0,1,2,3,4,5,6,7,8,9] hK rfl rfl⟩
theorem JR(t n:Int)(e:ENS)(st:STS)(s:MS)(K:AVal→aA Ob→Prop)(hp:e.ph=3)(ok:okE t n e st s)(hK:(enF t n e st s).left t n K):cT' 85 [.ptr 0 0,.ptr 2 0] (BV t n e st s) K:=by
 obtain⟨ht,hn,hc,hm,hR,ho⟩:=ok
 obtain⟨ph,sh,dn,x,y⟩:=e
 dsimp only at hp
 subst hp
 obtain⟨me,sp,R⟩:=st
 dsimp only at hm hR
 refine aC.pack tbl (aC.pack tbl ?_)
 refine aC.unpack tbl (.store t n ⟨me,sp,R⟩) 1 0 (iB t n ⟨me,sp,R⟩) [] rfl rfl rfl rfl ?_
 refine aC.unpack tbl (.ensure t n ⟨3,sh,dn,x,y⟩) 0 1 (wC t n ⟨3,sh,dn,x,y⟩) [1] rfl rfl rfl rfl ?_
 refine IK t n me sp R sh dn x y s _ ?_
 have ho:y.N.length≤1000000∧0≤y.i∧y.i<2*t:=ho
 refine⟨⟨⟨rfl,rfl,rfl,rfl,rfl⟩,ht,hn,hc,ho.1,ho.2⟩,?_⟩
 unfold enF at hK
 dsimp only at hK
 cases h1:ieq (y.i+1) (2*t)with
 | false=>
   rw [h1]at hK
   exact eC (o:=⟨false,⟨3,sh,dn,x,{y with m:=aQ y.m n y.i s,i:=y.i+1}⟩,⟨me,sp,R⟩,s.loadd (bD n y.i)⟩) [0,1,2,3,4,5,6,7,8,9] hK rfl rfl
 | true=>
   rw [h1]at hK
   cases h2:ieq ((aS (aQ y.m n y.i s) y.N).length :Int) 0 with
   | true=>
     rw [h2]at hK
     exact eC (o:=⟨true,⟨0,true,true,x,y⟩,⟨me,sp,bV (aQ y.m n y.i s) y.N⟩,s.loadd (bD n y.i)⟩) [0,1,2,3,10] hK rfl rfl
   | false=>
     rw [h2]at hK
     exact eC (o:=⟨false,⟨4,sh,dn,x,⟨0,y.N,aQ y.m n y.i s,y.i+1,bV (aQ y.m n y.i s) y.N,aS (aQ y.m n y.i s) y.N,aS (aQ y.m n y.i s) y.N,0,(aS (aQ y.m n y.i s) y.N).length⟩⟩,⟨me,sp,R⟩,s.loadd (bD n y.i)⟩) [0,1,2,3,4,5,6,7,10,11,8,9,12,13] hK rfl rfl
theorem JS(t n:Int)(e:ENS)(st:STS)(s:MS)(K:AVal→aA Ob→Prop)(hp:e.ph=4)(ok:okE t n e st s)(hK:(enF t n e st s).left t n K):cT' 85 [.ptr 0 0,.ptr 2 0] (BV t n e st s) K:=by
 obtain⟨ht,hn,hc,hm,hR,ho⟩:=ok
 obtain⟨ph,sh,dn,x,y⟩:=e
 dsimp only at hp
 subst hp
 obtain⟨me,sp,R⟩:=st
 dsimp only at hm hR
 refine aC.pack tbl (aC.pack tbl ?_)
 refine aC.unpack tbl (.store t n ⟨me,sp,R⟩) 1 0 (iB t n ⟨me,sp,R⟩) [] rfl rfl rfl rfl ?_
 refine aC.unpack tbl (.ensure t n ⟨4,sh,dn,x,y⟩) 0 1 (wC t n ⟨4,sh,dn,x,y⟩) [1] rfl rfl rfl rfl ?_
 refine IL t n me sp R sh dn x y s _ ?_
 have ho:2*t≤y.i∧1≤y.l∧y.gs.length=y.j+y.l∧ -1000000≤List.getD y.gs (y.j+Int.toNat 0*1) 0∧List.getD y.gs (y.j+Int.toNat 0*1) 0≤1000000:=ho
 refine⟨⟨⟨rfl,rfl,rfl,rfl,rfl,rfl,rfl,rfl,rfl⟩,ht,hn,hc,ho.1,⟨ho.2.1,ho.2.2.1⟩,ho.2.2.2⟩,?_⟩
 unfold enF at hK
 dsimp only at hK
 cases h1:ieq ((y.l - 1:Nat):Int) 0 with
 | false=>
   rw [h1]at hK
   exact eC (o:=⟨false,⟨4,sh,dn,x,{y with j:=y.j+1,l:=y.l - 1}⟩,⟨me,sp,R⟩,s.added (bF n y.gs y.j) 1⟩) [0,1,2,3,4,5,6,7,8,9,10,11,12,13] hK rfl rfl
 | true=>
   rw [h1]at hK
   exact eC (o:=⟨ieq (y.fs.length:Int) 0,⟨0,ieq (y.fs.length:Int) 0,true,x,y⟩,⟨me,sp,y.ks⟩,s.added (bF n y.gs y.j) 1⟩) [0,1,2,3,8] hK rfl rfl
theorem JP(t n:Int)(e:ENS)(st:STS)(s:MS)(K:AVal→aA Ob→Prop)(hp:e.ph=1)(ok:okE t n e st s)(hK:(enF t n e st s).left t n K):cT' 85 [.ptr 0 0,.ptr 2 0] (BV t n e st s) K:=by
 obtain⟨ht,hn,hc,hm,hR,ho⟩:=ok
 obtain⟨ph,sh,dn,x,y⟩:=e
 dsimp only at hp
 subst hp
 obtain⟨me,sp,R⟩:=st
 dsimp only at hm hR
 refine aC.pack tbl (aC.pack tbl ?_)
 refine aC.unpack tbl (.store t n ⟨me,sp,R⟩) 1 0 (iB t n ⟨me,sp,R⟩) [] rfl rfl rfl rfl ?_
 refine aC.unpack tbl (.ensure t n ⟨1,sh,dn,x,y⟩) 0 1 (wC t n ⟨1,sh,dn,x,y⟩) [1] rfl rfl rfl rfl ?_
 refine II t n me sp R sh dn x y s _ ?_
 have ho:okAl n x:=ho
 obtain⟨hg,ha,hl⟩:=ho
 refine⟨⟨rfl,ht,hn,ha,hl,hc⟩,?_⟩
 obtain⟨got,at',left,found,free⟩:=x
 dsimp only at hg ha hl⊢
 subst hg
 have i0:ieq at' 0=false:=by rw [cH];simp;omega
 have i00:ieq 0 0=true:=rfl
 rw [i0,i00]
 unfold enF rA BZ at hK
 dsimp only at hK
 cases free with
 | false=>
   dsimp only [cond]at hK⊢
   cases ho:oddB (aD s.xs (n+4+at'))with
   | false=>
     rw [ho]at hK
     exact eC (o:=⟨false,⟨1,sh,dn,⟨0,at',left,aD s.xs (n+4+at'),true⟩,y⟩,⟨me,sp,R⟩,s.loadd (n+4+at')⟩) [0,1,2,3,4,5] hK rfl rfl
   | true=>
     rw [ho]at hK
     dsimp only [cond]at hK⊢
     cases hw:ile (left - 1) 0 with
     | false=>
       rw [hw]at hK
       exact eC (o:=⟨false,⟨1,sh,dn,⟨0,cC n at',left - 1,aD s.xs (n+4+at'),false⟩,y⟩,⟨me,sp,R⟩,s.loadd (n+4+at')⟩) [0,1,2,3,4,5] hK rfl rfl
     | true=>
       rw [hw]at hK
       cases dn with
       | true=>exact eC (o:=⟨true,⟨2,true,true,⟨0,cC n at',left - 1,aD s.xs (n+4+at'),false⟩,y⟩,⟨me,0,R⟩,s.loadd (n+4+at')⟩) [0,1,2,3,4,5,6] hK rfl rfl
       | false=>exact eC (o:=⟨ieq (R.length:Int) 0,⟨2,ieq (R.length:Int) 0,false,⟨0,cC n at',left - 1,aD s.xs (n+4+at'),false⟩,y⟩,⟨me,0,R⟩,s.loadd (n+4+at')⟩) [0,1,2,3,4,5,6] hK rfl rfl
 | true=>
   dsimp only [cond]at hK⊢
   unfold MS.cased at hK
   cases hb:aY s.xs (n+4+at') found with
   | true=>
     rw [hb]at hK
     exact eC (o:=⟨true,⟨1,sh,dn,⟨at',at',left,found,true⟩,y⟩,⟨me,at',R⟩,_⟩) [0,1,2,3,4,5] hK rfl rfl
   | false=>
     rw [hb]at hK
     dsimp only [cond]at hK⊢
     cases hw:ile (left - 1) 0 with
     | false=>
       rw [hw]at hK
       exact eC (o:=⟨false,⟨1,sh,dn,⟨0,cC n at',left - 1,found,false⟩,y⟩,⟨me,sp,R⟩,_⟩) [0,1,2,3,4,5] hK rfl rfl
     | true=>
       rw [hw]at hK
       cases dn with
       | true=>exact eC (o:=⟨true,⟨2,true,true,⟨0,cC n at',left - 1,found,false⟩,y⟩,⟨me,0,R⟩,_⟩) [0,1,2,3,4,5,6] hK rfl rfl
       | false=>exact eC (o:=⟨ieq (R.length:Int) 0,⟨2,ieq (R.length:Int) 0,false,⟨0,cC n at',left - 1,found,false⟩,y⟩,⟨me,0,R⟩,_⟩) [0,1,2,3,4,5,6] hK rfl rfl
theorem JO(t n:Int)(e:ENS)(st:STS)(s:MS)(K:AVal→aA Ob→Prop)(hp:e.ph=0)(ok:okE t n e st s)(hK:(enF t n e st s).left t n K):cT' 85 [.ptr 0 0,.ptr 2 0] (BV t n e st s) K:=by
 obtain⟨ht,hn,hc,hm,hR,ho⟩:=ok
 obtain⟨ph,sh,dn,x,y⟩:=e
 dsimp only at hp
 subst hp
 obtain⟨me,sp,R⟩:=st
 dsimp only at hm hR
 refine aC.pack tbl (aC.pack tbl ?_)
 refine aC.unpack tbl (.store t n ⟨me,sp,R⟩) 1 0 (iB t n ⟨me,sp,R⟩) [] rfl rfl rfl rfl ?_
 refine aC.unpack tbl (.ensure t n ⟨0,sh,dn,x,y⟩) 0 1 (wC t n ⟨0,sh,dn,x,y⟩) [1] rfl rfl rfl rfl ?_
 refine IH t n me sp R sh dn x y s _ ?_
 unfold enF rA BZ at hK
 dsimp only at hK
 cases hz:ieq sp 0 with
 | false=>
   rw [hz]at hK
   exact⟨⟨rfl,by omega⟩,eC (o:=⟨true,⟨0,sh,dn,x,y⟩,⟨me,sp,R⟩,s.loadd 0⟩) [0,1,2,3,4] hK rfl rfl⟩
 | true=>
   rw [hz]at hK
   have ha:1≤at0 t n me∧at0 t n me≤n:=by
    unfold at0 bI
    cases h1:(ile 1 (aJ t n me))<;>cases h2:ile (aJ t n me) n<;>simp only [Bool.and_true,Bool.and_false,Bool.and_self,cond_true,cond_false]<;>rw [cL]at h1 h2<;>simp at h1 h2<;>omega
   refine⟨⟨by omega,by omega⟩,⟨trivial,trivial⟩,⟨rfl,ht,hn,ha,by omega,hc⟩,?_⟩
   show cond (oddB (aD s.xs (n+4+at0 t n me))) _ _
   cases ho:oddB (aD s.xs (n+4+at0 t n me))with
   | false=>
     rw [ho]at hK
     exact eC (o:=⟨false,⟨1,sh,dn,⟨0,at0 t n me,n,aD s.xs (n+4+at0 t n me),true⟩,y⟩,⟨me,sp,R⟩,s.loadd (n+4+at0 t n me)⟩) [0,1,2,3,4,5] hK rfl rfl
   | true=>
     rw [ho]at hK
     dsimp only [cond]at hK⊢
     cases hw:ile (n - 1) 0 with
     | false=>
       rw [hw]at hK
       exact eC (o:=⟨false,⟨1,sh,dn,⟨0,cC n (at0 t n me),n - 1,aD s.xs (n+4+at0 t n me),false⟩,y⟩,⟨me,sp,R⟩,s.loadd (n+4+at0 t n me)⟩) [0,1,2,3,4,5] hK rfl rfl
     | true=>
       rw [hw]at hK
       cases dn with
       | true=>exact eC (o:=⟨true,⟨2,true,true,⟨0,cC n (at0 t n me),n - 1,aD s.xs (n+4+at0 t n me),false⟩,y⟩,⟨me,0,R⟩,s.loadd (n+4+at0 t n me)⟩) [0,1,2,3,4,5,6] hK rfl rfl
       | false=>exact eC (o:=⟨ieq (R.length:Int) 0,⟨2,ieq (R.length:Int) 0,false,⟨0,cC n (at0 t n me),n - 1,aD s.xs (n+4+at0 t n me),false⟩,y⟩,⟨me,0,R⟩,s.loadd (n+4+at0 t n me)⟩) [0,1,2,3,4,5,6] hK rfl rfl
theorem wE(t n:Int)(e:ENS)(st:STS)(s:MS)(K:AVal→aA Ob→Prop)(ok:okE t n e st s)(hK:(enF t n e st s).left t n K):cT' 85 [.ptr 0 0,.ptr 2 0] (BV t n e st s) K:=by
 match h:e.ph with
 | 0=>exact JO t n e st s K h ok hK
 | 1=>exact JP t n e st s K h ok hK
 | 2=>exact JQ t n e st s K h ok hK
 | 3=>exact JR t n e st s K h ok hK
 | 4=>exact JS t n e st s K h ok hK
 | k+5=>have:=ok.ho;unfold HU at this;rw [h]at this;exact this.elim
noncomputable def enS:aK Ob:=fun args h=>match args,h with
 | [.ptr 0 0,.ptr 2 0],[some (.abs (.ensure t n e) [1]),some (.abs (.store t' n' st) []),e1,e2]=>(match eJ 3 [e1,e2]with
   | some (l,s)=>some (.pre ((l=s.xs.length∧t'=t∧n'=n)∧okE t n e st s) (.ret (.bool (enF t n e st s).d) (BV t n (enF t n e st s).e (enF t n e st s).st (enF t n e st s).s)))
   | none=>none)
 | _,_=>none
theorem HD:aK.ok E42.I Tryz.prog 85 enS:=by
 intro args h o ho K hK
 unfold enS at ho
 split at ho
 case h_2=>cases ho
 split at ho<;>cases ho
 rename_i hm
 obtain⟨⟨⟨hl,ht',hn'⟩,ok⟩,hK⟩:=hK
 have hh:=bW hm hl
 cases hh
 subst ht' hn'
 exact wE _ _ _ _ _ K ok hK
noncomputable def enE:=E42.addS 85 enS HD
structure SO where
 d:Bool
 e:SWS
 st:STS
 s:MS
instance:Inhabited SO:=⟨⟨false,BQ,⟨0,0,[]⟩,⟨0,0,[],0,0,0,0,0,false⟩⟩⟩
def swF(t n:Int)(y:SWS)(st:STS)(s:MS):SO:=match y.ph with
 | 0=>⟨false,{y with ph:=1,N:=st.R,m:=aQ [] n 0 s,i:=1},st,s.loadd (bD n 0)⟩
 | 1=>(match ieq (y.i+1) (2*t),ieq ((aS (aQ y.m n y.i s) y.N).length :Int) 0 with
   | true,true=>⟨true,{y with ph:=3},{st with R:=bV (aQ y.m n y.i s) y.N},s.loadd (bD n y.i)⟩
   | true,false=>⟨false,⟨2,y.N,aQ y.m n y.i s,y.i+1,bV (aQ y.m n y.i s) y.N,aS (aQ y.m n y.i s) y.N,aS (aQ y.m n y.i s) y.N,0,(aS (aQ y.m n y.i s) y.N).length⟩,st,s.loadd (bD n y.i)⟩
   | false,_=>⟨false,{y with m:=aQ y.m n y.i s,i:=y.i+1},st,s.loadd (bD n y.i)⟩)
 | _=>(match ieq ((y.l - 1:Nat):Int) 0 with
   | true=>⟨true,{y with ph:=3},{st with R:=y.ks},s.added (bF n y.gs y.j) 1⟩
   | false=>⟨false,{y with j:=y.j+1,l:=y.l - 1},st,s.added (bF n y.gs y.j) 1⟩)
def DQ(t n:Int)(y:SWS):Prop:=match y.ph with
 | 0=>True
 | 1=>y.N.length≤1000000∧0≤y.i∧y.i<2*t
 | 2=>2*t≤y.i∧1≤y.l∧y.gs.length=y.j+y.l∧ -1000000≤List.getD y.gs (y.j+Int.toNat 0*1) 0∧List.getD y.gs (y.j+Int.toNat 0*1) 0≤1000000
 | _=>False
structure oN (t n:Int) (y:SWS) (st:STS) (s:MS):Prop where
 ht:1≤t∧t≤1000
 hn:1≤n∧n≤1000
 hc:0≤s.c∧s.c≤1000000
 hR:st.R.length≤1000000
 ho:DQ t n y
def G2(t n:Int)(y:SWS)(st:STS)(s:MS):aA Ob:=[some (.abs (.sweep t n y) [1]),some (.abs (.store t n st) []),bB 3 s,bC s]
def SO.left(o:SO)(t n:Int)(K:AVal→aA Ob→Prop):Prop:=K (.bool o.d) (G2 t n o.e o.st o.s)
theorem qJ{K:AVal→aA Ob→Prop}{t n:Int}{o:SO}{g':aA Ob}(pl:List Nat)(hK:o.left t n K)
 (hb:(dK pl g'.length&&gN pl 0 4&&nK 1 (A4 t n o.e))=true)
 (hT:eL pl g'=bK [some (.abs (.sweep t n o.e) [1]),some (.cells [.int .i64 t,.int .i64 n,.int .i64 o.st.me,.int .i64 o.st.sp,.slice 4 0 o.st.R.length 1]),bB 3 o.s,bC o.s,some (.ints (some .i64) o.st.R)] 0 1 (A4 t n o.e) [1]):sF tbl 4 (sF tbl 4 K) (.bool o.d) g':=by
 simp only [Bool.and_eq_true]at hb
 obtain⟨⟨b1,b2⟩,b3⟩:=hb
 refine⟨pl,_,.sweep t n o.e,0,1,_,[1],?_,hT,rfl,rfl,⟨[0,1,2,3,4],[some (.abs (.sweep t n o.e) [1]),some (.abs (.store t n o.st) []),bB 3 o.s,bC o.s],.store t n o.st,1,0,iB t n o.st,[],rfl,rfl,rfl,rfl,?_⟩⟩
 ·rw [b1,b2,b3];rfl
 ·exact hK
def A1(t n me sp:Int)(R:List Int)(y:SWS)(s:MS)(K:AVal→aA Ob→Prop):Prop:=((lE' s.3∧lE' R)∧((1:Int)≤t∧t≤(1000:Int))∧((1:Int)≤n∧n≤(1000:Int))∧((0:Int)≤s.4∧s.4≤(1000000:Int))∧List.length R≤(1000000:Nat))∧K (.bool false) [some (.cells [.ptr 1 0,.ptr 5 0]),some (.cells [.int .i64 t,.int .i64 n,.int .i64 me,.int .i64 sp,.slice 4 0 (List.length R) 1]),some (.cells [.int .i64 s.1,.int .i64 s.2,.slice 3 0 (List.length s.3) 1,.int .i64 (s.4+1),.int .i64 1,.int .i64 (bD n 0),.int .u64 (aD s.3 (bD n 0)),.int .u64 (aD s.3 (bD n 0)),.bool (bN s.3 (bD n 0))]),some (.ints (some .u64) s.3),some (.ints (some .i64) R),some (.cells [.int .i64 t,.int .i64 n,.raw (Value.slice none 0 0),.raw (Value.slice none 0 0),.slice 6 0 (List.length R) 1,.map 7,.int .i64 1,.raw (Value.pointer none)]),some (.ints (some .i64) R),some (.imap .i64 none (aQ [] n 0 s))]
theorem IU(t n me sp:Int)(R:List Int)(y:SWS)(s:MS)(K:AVal→aA Ob→Prop)(hK:A1 t n me sp R y s K):cT' 195 [.ptr 0 0,.ptr 2 0] [some (.cells [.ptr 1 0,.raw (.pointer none)]),some (.cells [.int .i64 t,.int .i64 n,.int .i64 me,.int .i64 sp,.slice 4 0 R.length 1]),bB 3 s,bC s,some (.ints (some .i64) R)] K:=
 (gY kF) _ _ _ (Ev.get (aV (p:=kW swStepS [.ptr 0 0,.ptr 2 0] [some (.cells [.ptr 1 0,.raw (.pointer none)]),some (.cells [.int .i64 t,.int .i64 n,.int .i64 me,.int .i64 sp,.slice 4 0 R.length 1]),bB 3 s,bC s,some (.ints (some .i64) R)] K) (q:=A1 t n me sp R y s K) (by kernel_rfl) hK))
def A2(t n me sp:Int)(R:List Int)(y:SWS)(s:MS)(K:AVal→aA Ob→Prop):Prop:=((lE' s.3∧lE' R∧lE' y.2∧t=t∧n=n)∧((1:Int)≤t∧t≤(1000:Int))∧((1:Int)≤n∧n≤(1000:Int))∧((0:Int)≤s.4∧s.4≤(1000000:Int))∧List.length y.2≤(1000000:Nat)∧(0:Int)≤y.4∧y.4<(2:Int)*t)∧bif ieq (y.4+1) (2*t)then bif ieq (↑(List.length (aS (aQ y.3 n y.4 s) y.2)):Int) 0 then K (.bool true) [some (.cells [.ptr 1 0,.ptr 5 0]),some (.cells [.int .i64 t,.int .i64 n,.int .i64 me,.int .i64 sp,.slice 8 0 (List.length (bV (aQ y.3 n y.4 s) y.2)) 1]),some (.cells [.int .i64 s.1,.int .i64 s.2,.slice 3 0 (List.length s.3) 1,.int .i64 (s.4+1),.int .i64 1,.int .i64 (bD n y.4),.int .u64 (aD s.3 (bD n y.4)),.int .u64 (aD s.3 (bD n y.4)),.bool (bN s.3 (bD n y.4))]),some (.ints (some .u64) s.3),some (.ints (some .i64) R),some (.cells [.int .i64 t,.int .i64 n,.slice 8 0 (List.length (bV (aQ y.3 n y.4 s) y.2)) 1,.slice 9 0 (List.length (aS (aQ y.3 n y.4 s) y.2)) 1,.slice 6 0 (List.length y.2) 1,.map 7,.int .i64 (y.4+1),.ptr 10 0]),some (.ints (some .i64) y.2),some (.imap .i64 none (aQ y.3 n y.4 s)),some (.ints (some .i64) (bV (aQ y.3 n y.4 s) y.2)),some (.ints (some .i64) (aS (aQ y.3 n y.4 s) y.2)),some (.cells [.int .i64 t,.int .i64 n,.slice 11 0 (List.length (aS (aQ y.3 n y.4 s) y.2)) 1]),some (.ints (some .i64) (aS (aQ y.3 n y.4 s) y.2))]else K (.bool false) [some (.cells [.ptr 1 0,.ptr 5 0]),some (.cells [.int .i64 t,.int .i64 n,.int .i64 me,.int .i64 sp,.slice 4 0 (List.length R) 1]),some (.cells [.int .i64 s.1,.int .i64 s.2,.slice 3 0 (List.length s.3) 1,.int .i64 (s.4+1),.int .i64 1,.int .i64 (bD n y.4),.int .u64 (aD s.3 (bD n y.4)),.int .u64 (aD s.3 (bD n y.4)),.bool (bN s.3 (bD n y.4))]),some (.ints (some .u64) s.3),some (.ints (some .i64) R),some (.cells [.int .i64 t,.int .i64 n,.slice 8 0 (List.length (bV (aQ y.3 n y.4 s) y.2)) 1,.slice 9 0 (List.length (aS (aQ y.3 n y.4 s) y.2)) 1,.slice 6 0 (List.length y.2) 1,.map 7,.int .i64 (y.4+1),.ptr 10 0]),some (.ints (some .i64) y.2),some (.imap .i64 none (aQ y.3 n y.4 s)),some (.ints (some .i64) (bV (aQ y.3 n y.4 s) y.2)),some (.ints (some .i64) (aS (aQ y.3 n y.4 s) y.2)),some (.cells [.int .i64 t,.int .i64 n,.slice 11 0 (List.length (aS (aQ y.3 n y.4 s) y.2)) 1]),some (.ints (some .i64) (aS (aQ y.3 n y.4 s) y.2))]else K (.bool false) [some (.cells [.ptr 1 0,.ptr 5 0]),some (.cells [.int .i64 t,.int .i64 n,.int .i64 me,.int .i64 sp,.slice 4 0 (List.length R) 1]),some (.cells [.int .i64 s.1,.int .i64 s.2,.slice 3 0 (List.length s.3) 1,.int .i64 (s.4+1),.int .i64 1,.int .i64 (bD n y.4),.int .u64 (aD s.3 (bD n y.4)),.int .u64 (aD s.3 (bD n y.4)),.bool (bN s.3 (bD n y.4))]),some (.ints (some .u64) s.3),some (.ints (some .i64) R),some (.cells [.int .i64 t,.int .i64 n,.raw (Value.slice none 0 0),.raw (Value.slice none 0 0),.slice 6 0 (List.length y.2) 1,.map 7,.int .i64 (y.4+1),.raw (Value.pointer none)]),some (.ints (some .i64) y.2),some (.imap .i64 none (aQ y.3 n y.4 s))]
theorem IV(t n me sp:Int)(R:List Int)(y:SWS)(s:MS)(K:AVal→aA Ob→Prop)(hK:A2 t n me sp R y s K):cT' 195 [.ptr 0 0,.ptr 2 0] [some (.cells [.ptr 1 0,.ptr 5 0]),some (.cells [.int .i64 t,.int .i64 n,.int .i64 me,.int .i64 sp,.slice 4 0 R.length 1]),bB 3 s,bC s,some (.ints (some .i64) R),some (.cells [.int .i64 t,.int .i64 n,.raw (.slice none 0 0),.raw (.slice none 0 0),.slice 6 0 y.N.length 1,.map 7,.int .i64 y.i,.raw (.pointer none)]),some (.ints (some .i64) y.N),some (.imap .i64 none y.m)] K:=
 (gY kF) _ _ _ (Ev.get (aV (p:=kW swStepS [.ptr 0 0,.ptr 2 0] [some (.cells [.ptr 1 0,.ptr 5 0]),some (.cells [.int .i64 t,.int .i64 n,.int .i64 me,.int .i64 sp,.slice 4 0 R.length 1]),bB 3 s,bC s,some (.ints (some .i64) R),some (.cells [.int .i64 t,.int .i64 n,.raw (.slice none 0 0),.raw (.slice none 0 0),.slice 6 0 y.N.length 1,.map 7,.int .i64 y.i,.raw (.pointer none)]),some (.ints (some .i64) y.N),some (.imap .i64 none y.m)] K) (q:=A2 t n me sp R y s K) (by kernel_rfl) hK))
def A3(t n me sp:Int)(R:List Int)(y:SWS)(s:MS)(K:AVal→aA Ob→Prop):Prop:=((lE' s.3∧lE' R∧lE' y.5∧lE' y.6∧lE' y.2∧t=t∧n=n∧t=t∧n=n)∧((1:Int)≤t∧t≤(1000:Int))∧((1:Int)≤n∧n≤(1000:Int))∧((0:Int)≤s.4∧s.4≤(1000000:Int))∧2*t≤y.4∧((1:Nat)≤y.9∧List.length y.7=y.8+y.9)∧(-1000000:Int)≤List.getD y.7 (y.8+Int.toNat 0*1) 0∧List.getD y.7 (y.8+Int.toNat 0*1) (0:Int)≤(1000000:Int))∧bif ieq (↑(y.9 - 1):Int) 0 then K (.bool true) [some (.cells [.ptr 1 0,.ptr 5 0]),some (.cells [.int .i64 t,.int .i64 n,.int .i64 me,.int .i64 sp,.slice 6 0 (List.length y.5) 1]),some (.cells [.int .i64 s.1,.int .i64 s.2,.slice 3 0 (List.length (aT s.3 (bF n y.7 y.8) (WU (aD s.3 (bF n y.7 y.8)+1)))) 1,.int .i64 (s.4+1),.int .i64 4,.int .i64 (bF n y.7 y.8),.int .u64 (aD s.3 (bF n y.7 y.8)),.int .u64 (bif bN s.3 (bF n y.7 y.8)then WU (aD s.3 (bF n y.7 y.8)+1)else 0),.bool (bN s.3 (bF n y.7 y.8))]),some (.ints (some .u64) (aT s.3 (bF n y.7 y.8) (WU (aD s.3 (bF n y.7 y.8)+1)))),some (.ints (some .i64) R),some (.cells [.int .i64 t,.int .i64 n,.slice 6 0 (List.length y.5) 1,.slice 7 0 (List.length y.6) 1,.slice 8 0 (List.length y.2) 1,.map 9,.int .i64 y.4,.ptr 10 0]),some (.ints (some .i64) y.5),some (.ints (some .i64) y.6),some (.ints (some .i64) y.2),some (.imap .i64 none y.3),some (.cells [.int .i64 t,.int .i64 n,.slice 11 (y.8+1) (y.9 - 1) 1]),some (.ints (some .i64) y.7)]else K (.bool false) [some (.cells [.ptr 1 0,.ptr 5 0]),some (.cells [.int .i64 t,.int .i64 n,.int .i64 me,.int .i64 sp,.slice 4 0 (List.length R) 1]),some (.cells [.int .i64 s.1,.int .i64 s.2,.slice 3 0 (List.length (aT s.3 (bF n y.7 y.8) (WU (aD s.3 (bF n y.7 y.8)+1)))) 1,.int .i64 (s.4+1),.int .i64 4,.int .i64 (bF n y.7 y.8),.int .u64 (aD s.3 (bF n y.7 y.8)),.int .u64 (bif bN s.3 (bF n y.7 y.8)then WU (aD s.3 (bF n y.7 y.8)+1)else 0),.bool (bN s.3 (bF n y.7 y.8))]),some (.ints (some .u64) (aT s.3 (bF n y.7 y.8) (WU (aD s.3 (bF n y.7 y.8)+1)))),some (.ints (some .i64) R),some (.cells [.int .i64 t,.int .i64 n,.slice 6 0 (List.length y.5) 1,.slice 7 0 (List.length y.6) 1,.slice 8 0 (List.length y.2) 1,.map 9,.int .i64 y.4,.ptr 10 0]),some (.ints (some .i64) y.5),some (.ints (some .i64) y.6),some (.ints (some .i64) y.2),some (.imap .i64 none y.3),some (.cells [.int .i64 t,.int .i64 n,.slice 11 (y.8+1) (y.9 - 1) 1]),some (.ints (some .i64) y.7)]
theorem IW(t n me sp:Int)(R:List Int)(y:SWS)(s:MS)(K:AVal→aA Ob→Prop)(hK:A3 t n me sp R y s K):cT' 195 [.ptr 0 0,.ptr 2 0] [some (.cells [.ptr 1 0,.ptr 5 0]),some (.cells [.int .i64 t,.int .i64 n,.int .i64 me,.int .i64 sp,.slice 4 0 R.length 1]),bB 3 s,bC s,some (.ints (some .i64) R),some (.cells [.int .i64 t,.int .i64 n,.slice 6 0 y.ks.length 1,.slice 7 0 y.fs.length 1,.slice 8 0 y.N.length 1,.map 9,.int .i64 y.i,.ptr 10 0]),some (.ints (some .i64) y.ks),some (.ints (some .i64) y.fs),some (.ints (some .i64) y.N),some (.imap .i64 none y.m),some (.cells [.int .i64 t,.int .i64 n,.slice 11 y.j y.l 1]),some (.ints (some .i64) y.gs)] K:=
 (gY kF) _ _ _ (Ev.get (aV (p:=kW swStepS [.ptr 0 0,.ptr 2 0] [some (.cells [.ptr 1 0,.ptr 5 0]),some (.cells [.int .i64 t,.int .i64 n,.int .i64 me,.int .i64 sp,.slice 4 0 R.length 1]),bB 3 s,bC s,some (.ints (some .i64) R),some (.cells [.int .i64 t,.int .i64 n,.slice 6 0 y.ks.length 1,.slice 7 0 y.fs.length 1,.slice 8 0 y.N.length 1,.map 9,.int .i64 y.i,.ptr 10 0]),some (.ints (some .i64) y.ks),some (.ints (some .i64) y.fs),some (.ints (some .i64) y.N),some (.imap .i64 none y.m),some (.cells [.int .i64 t,.int .i64 n,.slice 11 y.j y.l 1]),some (.ints (some .i64) y.gs)] K) (q:=A3 t n me sp R y s K) (by kernel_rfl) hK))
theorem wc{x y:Option (aG Ob)}{g g2:aA Ob}(h:kQ x y)(k:gS g g2):gS (x::g) (y::g2):=⟨h,k⟩
theorem wv{v w:AVal}{vs ws:List AVal}(h:w=v∨w=.O)(k:jU vs ws):jU (v::vs) (w::ws):=⟨h,k⟩
theorem IY:jU [] []:=trivial
theorem H2{vs ws:List AVal}(h:jU vs ws):kQ (some (.cells vs):Option (aG Ob)) (some (.cells ws)):=h
theorem JA: ∀vs:List AVal,jU vs vs
 | []=>trivial
 | v::vs=>⟨.inl rfl,JA vs⟩
theorem H3: ∀x:Option (aG Ob),kQ x x
 | none=>trivial
 | some (.cells vs)=>JA vs
 | some (.ints c xs)=>rfl
 | some (.abs t ps)=>rfl
 | some (.tab ks r)=>rfl
 | some (.imap k v m)=>rfl
theorem vV: ∀g:aA Ob,gS g g
 | []=>trivial
 | x::g=>⟨H3 x,vV g⟩
theorem nQ{K:AVal→aA Ob→Prop}{v:AVal}{g:aA Ob}(h:K v g):yW K v g:=⟨g,vV g,h⟩
theorem tG{K:AVal→aA Ob→Prop}{v a b:AVal}{g:aA Ob}(h:K v (some (.cells [a,.O])::g)):yW K v (some (.cells [a,b])::g):=⟨_,wc (H2 (wv (.inl rfl) (wv (.inr rfl) IY))) (vV g),h⟩
theorem J3(t n:Int)(y:SWS)(st:STS)(s:MS)(K:AVal→aA Ob→Prop)(hp:y.ph=0)(ok:oN t n y st s)(hK:(swF t n y st s).left t n K):cT' 195 [.ptr 0 0,.ptr 2 0] (G2 t n y st s) K:=by
 obtain⟨ht,hn,hc,hR,ho⟩:=ok
 obtain⟨ph,N,m,i,ks,fs,gs,j,l⟩:=y
 dsimp only at hp
 subst hp
 obtain⟨me,sp,R⟩:=st
 dsimp only at hR
 refine aC.pack tbl (aC.pack tbl (LD ?_))
 refine aC.unpack tbl (.store t n ⟨me,sp,R⟩) 1 0 (iB t n ⟨me,sp,R⟩) [] rfl rfl rfl rfl ?_
 refine aC.unpack tbl (.sweep t n ⟨0,N,m,i,ks,fs,gs,j,l⟩) 0 1 (A4 t n ⟨0,N,m,i,ks,fs,gs,j,l⟩) [1] rfl rfl rfl rfl ?_
 refine IU t n me sp R ⟨0,N,m,i,ks,fs,gs,j,l⟩ s _ ?_
 unfold A1
 exact⟨⟨⟨rfl,rfl⟩,ht,hn,hc,hR⟩,nQ (qJ (o:=swF t n ⟨0,N,m,i,ks,fs,gs,j,l⟩ ⟨me,sp,R⟩ s) [0,1,2,3,4,5,6,7] hK rfl rfl)⟩
theorem J4(t n:Int)(y:SWS)(st:STS)(s:MS)(K:AVal→aA Ob→Prop)(hp:y.ph=1)(ok:oN t n y st s)(hK:(swF t n y st s).left t n K):cT' 195 [.ptr 0 0,.ptr 2 0] (G2 t n y st s) K:=by
 obtain⟨ht,hn,hc,hR,ho⟩:=ok
 obtain⟨ph,N,m,i,ks,fs,gs,j,l⟩:=y
 dsimp only at hp
 subst hp
 obtain⟨me,sp,R⟩:=st
 dsimp only at hR
 refine aC.pack tbl (aC.pack tbl (LD ?_))
 refine aC.unpack tbl (.store t n ⟨me,sp,R⟩) 1 0 (iB t n ⟨me,sp,R⟩) [] rfl rfl rfl rfl ?_
 refine aC.unpack tbl (.sweep t n ⟨1,N,m,i,ks,fs,gs,j,l⟩) 0 1 (A4 t n ⟨1,N,m,i,ks,fs,gs,j,l⟩) [1] rfl rfl rfl rfl ?_
 refine IV t n me sp R ⟨1,N,m,i,ks,fs,gs,j,l⟩ s _ ?_
 unfold A2
 have ho:N.length≤1000000∧0≤i∧i<2*t:=ho
 refine⟨⟨⟨rfl,rfl,rfl,rfl,rfl⟩,ht,hn,hc,ho.1,ho.2⟩,?_⟩
 unfold swF at hK
 dsimp only at hK⊢
 cases h1:ieq (i+1) (2*t)with
 | false=>
   rw [h1]at hK
   exact nQ (qJ (o:=⟨false,⟨1,N,aQ m n i s,i+1,ks,fs,gs,j,l⟩,⟨me,sp,R⟩,s.loadd (bD n i)⟩) [0,1,2,3,4,5,6,7] hK rfl rfl)
 | true=>
   rw [h1]at hK
   cases h2:ieq ((aS (aQ m n i s) N).length :Int) 0 with
   | true=>
     rw [h2]at hK
     exact tG (qJ (o:=⟨true,⟨3,N,m,i,ks,fs,gs,j,l⟩,⟨me,sp,bV (aQ m n i s) N⟩,s.loadd (bD n i)⟩) [0,1,2,3,8] hK rfl rfl)
   | false=>
     rw [h2]at hK
     exact nQ (qJ (o:=⟨false,⟨2,N,aQ m n i s,i+1,bV (aQ m n i s) N,aS (aQ m n i s) N,aS (aQ m n i s) N,0,(aS (aQ m n i s) N).length⟩,⟨me,sp,R⟩,s.loadd (bD n i)⟩) [0,1,2,3,4,5,8,9,6,7,10,11] hK rfl rfl)
theorem J5(t n:Int)(y:SWS)(st:STS)(s:MS)(K:AVal→aA Ob→Prop)(hp:y.ph=2)(ok:oN t n y st s)(hK:(swF t n y st s).left t n K):cT' 195 [.ptr 0 0,.ptr 2 0] (G2 t n y st s) K:=by
 obtain⟨ht,hn,hc,hR,ho⟩:=ok
 obtain⟨ph,N,m,i,ks,fs,gs,j,l⟩:=y
 dsimp only at hp
 subst hp
 obtain⟨me,sp,R⟩:=st
 dsimp only at hR
 refine aC.pack tbl (aC.pack tbl (LD ?_))
 refine aC.unpack tbl (.store t n ⟨me,sp,R⟩) 1 0 (iB t n ⟨me,sp,R⟩) [] rfl rfl rfl rfl ?_
 refine aC.unpack tbl (.sweep t n ⟨2,N,m,i,ks,fs,gs,j,l⟩) 0 1 (A4 t n ⟨2,N,m,i,ks,fs,gs,j,l⟩) [1] rfl rfl rfl rfl ?_
 refine IW t n me sp R ⟨2,N,m,i,ks,fs,gs,j,l⟩ s _ ?_
 unfold A3
 have ho:2*t≤i∧1≤l∧gs.length=j+l∧ -1000000≤List.getD gs (j+Int.toNat 0*1) 0∧List.getD gs (j+Int.toNat 0*1) 0≤1000000:=ho
 refine⟨⟨⟨rfl,rfl,rfl,rfl,rfl,rfl,rfl,rfl,rfl⟩,ht,hn,hc,ho.1,⟨ho.2.1,ho.2.2.1⟩,ho.2.2.2⟩,?_⟩
 unfold swF at hK
 dsimp only at hK⊢
 cases h1:ieq ((l - 1:Nat):Int) 0 with
 | false=>
   rw [h1]at hK
   exact nQ (qJ (o:=⟨false,⟨2,N,m,i,ks,fs,gs,j+1,l - 1⟩,⟨me,sp,R⟩,s.added (bF n gs j) 1⟩) [0,1,2,3,4,5,6,7,8,9,10,11] hK rfl rfl)
 | true=>
   rw [h1]at hK
   exact tG (qJ (o:=⟨true,⟨3,N,m,i,ks,fs,gs,j,l⟩,⟨me,sp,ks⟩,s.added (bF n gs j) 1⟩) [0,1,2,3,6] hK rfl rfl)
theorem DC(t n:Int)(y:SWS)(st:STS)(s:MS)(K:AVal→aA Ob→Prop)(ok:oN t n y st s)(hK:(swF t n y st s).left t n K):cT' 195 [.ptr 0 0,.ptr 2 0] (G2 t n y st s) K:=by
 match h:y.ph with
 | 0=>exact J3 t n y st s K h ok hK
 | 1=>exact J4 t n y st s K h ok hK
 | 2=>exact J5 t n y st s K h ok hK
 | k+3=>have:=ok.ho;unfold DQ at this;rw [h]at this;exact this.elim
theorem qH{I:Itp Ob}{n:Nat}{K:AVal→aA Ob→Prop}{d:Bool}{a b g:aA Ob}(hK:(Out.ite d (.ret (.bool true) a) (.ret (.bool false) b)).run K)(h1:K (.bool true) a→fL I n K (.bool true) g)(h2:d=false→K (.bool false) b→fL I n K (.bool false) g):fL I n K (.bool d) g:=by
 cases d with
 | true=>exact h1 hK
 | false=>exact h2 rfl hK
abbrev stC(l:Nat)(t n:Int)(st:STS):Option (aG Mc):=some (.cells [.int .i64 t,.int .i64 n,.int .i64 st.me,.int .i64 st.sp,.slice l 0 st.R.length 1])
abbrev kI(st:STS):Option (aG Mc):=some (.ints (some .i64) st.R)
def pA(w:Nat)(h:aA Ob):Option (Nat×Int×Int×STS):=match h with
 | [some (.cells [.int .i64 t,.int .i64 n,.int .i64 me,.int .i64 sp,.slice l 0 len 1]),some (.ints (some .i64) xs)]=>if l=w then some (len,t,n,⟨me,sp,xs⟩)else none
 | _=>none
theorem cV{w:Nat}{h:aA Ob}{l:Nat}{t n:Int}{st:STS}(e:pA w h=some (l,t,n,st))(hl:l=st.R.length):h=[stC w t n st,kI st]:=by
 unfold pA at e
 split at e
 ·split at e
  ·rename_i hw
   simp only [sI',pI']at e
   obtain⟨rfl,rfl,rfl,rfl⟩:=e
   subst hw
   simp only at hl;subst hl;rfl
  ·cases e
 ·cases e
theorem kE{f:FuncId}{t n:Int}{st st':STS}{s s':MS}{M:Mc}{e1 e2:aG Mc}{d:Bool}(h1: ∀ι:Nat→Nat,ι 1=1→e1.ren ι=e1)(h2: ∀ι:Nat→Nat,ι 1=1→e2.ren ι=e2)
 (hA: ∀K,(Out.ite d (.ret (.bool true) [some e1,some (.abs (.store t n st') []),bB 3 s',bC s']) (.ret (.bool false) [some e2,some (.abs (.store t n st') []),bB 3 s',bC s'])).run K→cT' f [.ptr 0 0,.ptr 2 0] [some (.abs M [1]),some (.abs (.store t n st) []),bB 3 s,bC s] K)
 (K:AVal→aA Ob→Prop) (hK:(Out.ite d (.ret (.bool true) [some e1,stC 5 t n st',none,bB 4 s',bC s',kI st']) (.ret (.bool false) [some e2,stC 5 t n st',none,bB 4 s',bC s',kI st'])).run K):
 cT' f [.ptr 0 0,.ptr 3 0] [some (.abs M [1]),stC 2 t n st,kI st,bB 4 s,bC s] K:=by
 refine K3 ?_
 refine LH (h0:=[some (.abs M [1]),stC 4 t n st,bB 3 s,bC s,kI st]) (args0:=[.ptr 0 0,.ptr 2 0]) (K0:=fun v g=>fL (obI tbl) 5 K (v.ren (iota [0,1,3,4,2] 5)) (kM [some (.abs M [1]),stC 2 t n st,kI st,bB 4 s,bC s] [0,1,3,4,2] g)) ?_ [0,1,3,4,2] rfl (by decide) (by intro l hl;simp at hl⊢;omega) ?_ rfl (fun v g hk _=>hk)
 ·refine LN tbl [some (.abs M [1]),some (.abs (.store t n st) []),bB 3 s,bC s] (.store t n st) 1 0 (iB t n st) [] (by kernel_rfl) rfl rfl (by kernel_rfl) (hA _ ?_)
  have i1:farI 4 1 1=1:=rfl
  have i2:iota [0,1,3,4,2] 5 1=1:=rfl
  cases d with
  | true=>
    have q1:((e1.ren (farI 4 1)).ren (iota [0,1,3,4,2] 5))=e1:=by rw [h1 _ i1,h1 _ i2]
    refine⟨_,_,aP.trans (KN (g2:=[some e1,some (.abs (.store t n st') []),none,bB 4 s',bC s']) (by kernel_rfl) ?_) (aP.unpack (.store t n st') 1 0 (iB t n st') [] rfl rfl rfl rfl),hK⟩
    show [some ((e1.ren (farI 4 1)).ren (iota [0,1,3,4,2] 5)),_,_,_,_]=_
    rw [q1];rfl
  | false=>
    have q2:((e2.ren (farI 4 1)).ren (iota [0,1,3,4,2] 5))=e2:=by rw [h2 _ i1,h2 _ i2]
    refine⟨_,_,aP.trans (KN (g2:=[some e2,some (.abs (.store t n st') []),none,bB 4 s',bC s']) (by kernel_rfl) ?_) (aP.unpack (.store t n st') 1 0 (iB t n st') [] rfl rfl rfl rfl),hK⟩
    show [some ((e2.ren (farI 4 1)).ren (iota [0,1,3,4,2] 5)),_,_,_,_]=_
    rw [q2];rfl
 ·intro i l hi
  match i,hi with
  | 0,hi=>cases hi;rfl
  | 1,hi=>cases hi;rfl
  | 2,hi=>cases hi;rfl
  | 3,hi=>cases hi;rfl
  | 4,hi=>cases hi;rfl
  | _+5,hi=>cases hi
def cU(kd:Int):Bool:=ieq kd 1||ieq kd 4
def lY(sh kd:Int):Bool:=ieq kd 5&&ieq sh 4
def eN(ky curr cw:Int):Bool:=bif ieq curr 0 then false else ieq (aB cw 0 10) ky
def fD(sh ky:Int):Int:=bif ieq sh 2 then ky%4 else 0
def nJ(sh kd ky:Int):Int:=bif ieq sh 2 then ky else bif ieq sh 1 then ky else bif ieq sh 3 then(bif cU kd then 1024 else -1)else -1
def z7:bQ Ob:=fun args h=>match args,h with
 | [.agg [.int .i64 t,.int .i64 n],.int .i64 a],[]=>some ((0≤n∧n≤100000)∧(-1000000≤a∧a≤1000000),.int .i64 (n+1+a))
 | _,_=>none
theorem CO:sT' 65 z7.spec:=by
 intro args h o ho K hK
 unfold bQ.spec z7 at ho
 split at ho
 case h_2=>cases ho
 rename_i p v hp
 split at hp
 case h_2=>cases hp
 rename_i t n a
 simp only [sI',pI']at hp
 obtain⟨rfl,rfl⟩:=hp
 simp only [sI']at ho;subst ho
 obtain⟨hp,hK⟩:=hK
 have hK:K (.int .i64 (n+1+a)) []:=hK
 refine J8 (cM' (E:=enE) (q:=K (.int .i64 (W (W (1+n)+a))) []) (by kernel_rfl) ?_)
 simp(disch:=omega) only [W,dH]
 refine cast (congrArg (fun z=>K (AVal.int .i64 z) []) ?_) hK
 omega
def vU:bQ Ob:=fun args h=>match args,h with
 | [.agg [.int .i64 k,.int .i64 y,.bool m,.int .i64 c,.int .i64 v]],[]=>some (0≤v∧v≤1000000,.agg [.int .i64 k,.int .i64 y,.bool m,.int .i64 0,.int .i64 (aM v)])
 | _,_=>none
theorem A9:sT' 165 vU.spec:=by
 intro args h o ho K hK
 unfold bQ.spec vU at ho
 split at ho
 case h_2=>cases ho
 rename_i p v hp
 split at hp
 case h_2=>cases hp
 rename_i k y m c v
 simp only [sI',pI']at hp
 obtain⟨rfl,rfl⟩:=hp
 simp only [sI']at ho;subst ho
 obtain⟨hp,hK⟩:=hK
 have hK:K (.agg [.int .i64 k,.int .i64 y,.bool m,.int .i64 0,.int .i64 (aM v)]) []:=hK
 refine J8 (cM' (E:=enE) (q:=K (.agg [.int .i64 k,.int .i64 y,.bool m,.int .i64 0,.int .i64 (W (↑(BitVec.toNat (BitVec.ofInt (IntKind.bits .i64) (W (v+1))&&&BitVec.ofInt (IntKind.bits .i64) 262143)):Int))]) []) (by kernel_rfl) ?_)
 refine cast (congrArg (fun z=>K (.agg [.int .i64 k,.int .i64 y,.bool m,.int .i64 0,.int .i64 z]) []) ?_) hK
 show aM v=_
 have hb:IntKind.bits .i64 =64:=rfl
 simp only [W]
 rw [hb,dH (x:=v+1) (by omega)]
 have:=iZ (n:=64) (w:=18) (v+1) (by omega)
 have e:(2:Int)^18 - 1=262143:=by decide
 rw [e]at this
 rw [this]
 have e2:(2:Int)^18=262144:=by decide
 rw [e2,dH (by omega)]
 rfl
def sC:bQ Ob:=fun args h=>match args,h with
 | [.agg [.int .i64 k,.int .i64 y,.bool m,.int .i64 c,.int .i64 v],.int .i64 b,.int .i64 x,.bool q],[]=>some (-1000000≤b∧b≤1000000,.agg [.int .i64 k,.int .i64 x,.bool q,.int .i64 (b+1),.int .i64 v])
 | _,_=>none
theorem yS:sT' 168 sC.spec:=by
 intro args h o ho K hK
 unfold bQ.spec sC at ho
 split at ho
 case h_2=>cases ho
 rename_i p v hp
 split at hp
 case h_2=>cases hp
 rename_i k y m c v b x q
 simp only [sI',pI']at hp
 obtain⟨rfl,rfl⟩:=hp
 simp only [sI']at ho;subst ho
 obtain⟨hp,hK⟩:=hK
 have hK:K (.agg [.int .i64 k,.int .i64 x,.bool q,.int .i64 (b+1),.int .i64 v]) []:=hK
 refine J8 (cM' (E:=enE) (q:=K (.agg [.int .i64 k,.int .i64 x,.bool q,.int .i64 (W (b+1)),.int .i64 v]) []) (by kernel_rfl) ?_)
 rw [yY (by omega)]
 exact hK
def rX:bQ Ob:=fun args h=>match args,h with
 | [.agg [.int .i64 sh,.int .i64 kd,.int .i64 ky]],[]=>some (True,.bool (cU kd))
 | _,_=>none
theorem yQ:sT' 84 rX.spec:=by
 intro args h o ho K hK
 unfold bQ.spec rX at ho
 split at ho
 case h_2=>cases ho
 rename_i p v hp
 split at hp
 case h_2=>cases hp
 rename_i sh kd ky
 simp only [sI',pI']at hp
 obtain⟨rfl,rfl⟩:=hp
 simp only [sI']at ho;subst ho
 obtain⟨hp,hK⟩:=hK
 have hK:K (.bool (cU kd)) []:=hK
 refine J8 (cM' (E:=enE) (q:=bif ieq kd 1 then K (.bool true) []else K (.bool (ieq kd 4)) []) (by kernel_rfl) ?_)
 unfold cU at hK
 cases h:ieq kd 1<;>rw [h]at hK<;>exact hK
def vS:bQ Ob:=fun args h=>match args,h with
 | [.agg [.int .i64 sh,.int .i64 kd,.int .i64 ky]],[]=>some (True,.bool (lY sh kd))
 | _,_=>none
theorem A6:sT' 212 vS.spec:=by
 intro args h o ho K hK
 unfold bQ.spec vS at ho
 split at ho
 case h_2=>cases ho
 rename_i p v hp
 split at hp
 case h_2=>cases hp
 rename_i sh kd ky
 simp only [sI',pI']at hp
 obtain⟨rfl,rfl⟩:=hp
 simp only [sI']at ho;subst ho
 obtain⟨hp,hK⟩:=hK
 have hK:K (.bool (lY sh kd)) []:=hK
 refine J8 (cM' (E:=enE) (q:=bif ieq kd 5 then K (.bool (ieq sh 4)) []else K (.bool false) []) (by kernel_rfl) ?_)
 unfold lY at hK
 cases h:ieq kd 5<;>rw [h]at hK<;>exact hK
noncomputable def hasCS:aK Ob:=i8 [(.slot 0,.ints (some .i64))] CN.spec
theorem CM:sT' 124 hasCS:=i9 z6
noncomputable def EB0:=((((((enE.addS 124 hasCS CM).addR 65 z7 CO).addR 165 vU A9).addR 168 sC yS).addR 84 rX yQ).addR 212 vS A6)
def isS:aK Ob:=fun args h=>match args,h with
 | [.agg [.int .i64 a,.int .i64 b,.int .i64 c,.int .i64 d,.bool m,.int .i64 e,.int .i64 f],.slice 0 0 1 1],[some (.cells [.int .i64 s])]=>some (.ret (.bool (hasB [s] e)) [some (.ints (some .i64) [s])])
 | _,_=>none
theorem HS:sT' 172 isS:=by
 intro args h o ho K hK
 unfold isS at ho
 split at ho<;>cases ho
 rename_i a b c d m e f s
 have hK:K (.bool (hasB [s] e)) [some (.ints (some .i64) [s])]:=hK
 refine J8 (cM' (E:=EB0) (q:=(1=1∧(1:Nat)≤(4294967296:Nat))∧K (.bool (hasB [s] e)) [some (.ints (some .i64) [s])]) (by kernel_rfl) ?_)
 exact⟨⟨rfl,by omega⟩,hK⟩
noncomputable def EB0b:=EB0.addS 172 isS HS
def zE:bQ Ob:=fun args h=>match args,h with
 | [.int .u64 x],[]=>some (True,.int .i64 (aB x 20 5 - 1))
 | _,_=>none
theorem BN:sT' 161 zE.spec:=by
 intro args h o ho K hK
 unfold bQ.spec zE at ho
 split at ho
 case h_2=>cases ho
 rename_i p v hp
 split at hp
 case h_2=>cases hp
 rename_i x
 simp only [sI',pI']at hp
 obtain⟨rfl,rfl⟩:=hp
 simp only [sI']at ho;subst ho
 obtain⟨hp,hK⟩:=hK
 have hK:K (.int .i64 (aB x 20 5 - 1)) []:=hK
 refine J8 (cM' (E:=EB0b) (q:=True∧K (.int .i64 (W (aB x 20 5 - 1))) []) (by kernel_rfl) ?_)
 have hb:0≤aB x 20 5∧aB x 20 5<32:=by
  unfold aB
  have e:(2:Int)^(5:Int).toNat =32:=by decide
  rw [e]
  exact⟨Int.emod_nonneg _ (by decide),Int.emod_lt_of_pos _ (by decide)⟩
 have e1:W (aB x 20 5 - 1)=aB x 20 5 - 1:=dH (by omega)
 rw [e1]
 exact⟨trivial,hK⟩
def uU:bQ Ob:=fun args h=>match args,h with
 | [.agg [.int .i64 a,.int .i64 b,.int .i64 c,.int .i64 d,.bool m,.int .i64 e,.int .i64 f],.int .i64 g],[]=>some (True,.agg [.int .i64 a,.int .i64 b,.int .i64 c,.int .i64 d,.bool m,.int .i64 g,.int .i64 f])
 | _,_=>none
theorem zQ:sT' 163 uU.spec:=by
 intro args h o ho K hK
 unfold bQ.spec uU at ho
 split at ho
 case h_2=>cases ho
 rename_i p v hp
 split at hp
 case h_2=>cases hp
 rename_i a b c d m e f g
 simp only [sI',pI']at hp
 obtain⟨rfl,rfl⟩:=hp
 simp only [sI']at ho;subst ho
 obtain⟨hp,hK⟩:=hK
 have hK:K (.agg [.int .i64 a,.int .i64 b,.int .i64 c,.int .i64 d,.bool m,.int .i64 g,.int .i64 f]) []:=hK
 refine J8 (cM' (E:=EB0b) (q:=K (.agg [.int .i64 a,.int .i64 b,.int .i64 c,.int .i64 d,.bool m,.int .i64 g,.int .i64 f]) []) (by kernel_rfl) ?_)
 exact hK
noncomputable def EB0c:=(EB0b.addR 161 zE BN).addR 163 uU zQ
def sA:bQ Ob:=fun args h=>match args,h with
 | [.agg [.int .i64 sh,.int .i64 kd,.int .i64 ky]],[]=>some (True,.agg [.int .i64 (fD sh ky),.int .i64 (nJ sh kd ky)])
 | _,_=>none
theorem yR:sT' 131 sA.spec:=by
 intro args h o ho K hK
 unfold bQ.spec sA at ho
 split at ho
 case h_2=>cases ho
 rename_i p v hp
 split at hp
 case h_2=>cases hp
 rename_i sh kd ky
 simp only [sI',pI']at hp
 obtain⟨rfl,rfl⟩:=hp
 simp only [sI']at ho;subst ho
 obtain⟨hp,hK⟩:=hK
 have hK:K (.agg [.int .i64 (fD sh ky),.int .i64 (nJ sh kd ky)]) []:=hK
 refine J8 (cM' (E:=EB0c) (q:=bif ieq sh 2 then K (.agg [.int .i64 (W (↑(BitVec.toNat (BitVec.ofInt (IntKind.bits .i64) ky&&&BitVec.ofInt (IntKind.bits .i64) 3)):Int)),.int .i64 ky]) []else bif ieq sh 1 then K (.agg [.int .i64 0,.int .i64 ky]) []else bif ieq sh 2 then K (.agg [.int .i64 0,.int .i64 ky]) []else bif ieq sh 3 then True∧bif cU kd then K (.agg [.int .i64 0,.int .i64 1024]) []else K (.agg [.int .i64 0,.int .i64 (-1:Int)]) []else K (.agg [.int .i64 0,.int .i64 (-1:Int)]) []) (by kernel_rfl) ?_)
 have e4:W (((BitVec.ofInt (IntKind.bits .i64) ky&&&BitVec.ofInt (IntKind.bits .i64) 3).toNat :Nat):Int)=ky%4:=by
  have hb:IntKind.bits .i64 =64:=rfl
  rw [hb]
  have:=iZ (n:=64) (w:=2) ky (by omega)
  have e:(2:Int)^2 - 1=3:=by decide
  rw [e]at this
  rw [this]
  have e2:(2:Int)^2=4:=by decide
  rw [e2]
  exact dH (by omega)
 unfold fD nJ at hK
 refine aO (fun e=>?_) (fun e=>aO (fun e1=>?_) (fun e1=>aO (fun e2=>?_) (fun e2=>aO (fun e3=>⟨trivial,aO (fun e5=>?_) (fun e5=>?_)⟩) (fun e3=>?_))))
 ·rw [e]at hK;rw [e4];exact hK
 ·rw [e,e1]at hK;exact hK
 ·rw [e]at e2;cases e2
 ·rw [e,e1,e3,e5]at hK;exact hK
 ·rw [e,e1,e3,e5]at hK;exact hK
 ·rw [e,e1,e3]at hK;exact hK
def rP:bQ Ob:=fun args h=>match args,h with
 | [.agg [.int .i64 sh,.int .i64 kd,.int .i64 ky,.int .i64 pred,.int .u64 pw,.int .i64 curr,.int .u64 cw]],[]=>some (True,.bool (eN ky curr cw))
 | _,_=>none
theorem yH:sT' 200 rP.spec:=by
 intro args h o ho K hK
 unfold bQ.spec rP at ho
 split at ho
 case h_2=>cases ho
 rename_i p v hp
 split at hp
 case h_2=>cases hp
 rename_i sh kd ky pred pw curr cw
 simp only [sI',pI']at hp
 obtain⟨rfl,rfl⟩:=hp
 simp only [sI']at ho;subst ho
 obtain⟨hp,hK⟩:=hK
 have hK:K (.bool (eN ky curr cw)) []:=hK
 refine J8 (cM' (E:=EB0c) (q:=bif !ieq curr 0 then True∧K (.bool (ieq (aB cw 0 10) ky)) []else K (.bool false) []) (by kernel_rfl) ?_)
 unfold eN at hK
 cases h:ieq curr 0 with
 | true=>rw [h]at hK;exact hK
 | false=>rw [h]at hK;exact⟨trivial,hK⟩
noncomputable def EB1:=(EB0c.addR 131 sA yR).addR 200 rP yH
def DR(v:AVal)(g:aA Ob):Option (Prop×PLN):=match v,g with
 | .agg [.bool now,.int .i64 code,.bool okk,.int .i64 val,.int .i64 addr,.int .u64 old,.int .i64 nxt,.bool mark,.int .i64 pops],[]=>some (True,⟨now,code,okk,val,addr,old,nxt,mark,pops⟩)
 | _,_=>none
def AO(y:PLN):AVal:=.agg [.bool y.now,.int .i64 y.code,.bool y.okk,.int .i64 y.val,.int .i64 y.addr,.int .u64 y.old,.int .i64 y.nxt,.bool y.mark,.int .i64 y.pops]
theorem AM:cS (obI tbl) 0 DR (fun y=>.ret (AO y) []):=by
 intro v g p x hp hq K hK
 unfold DR at hp
 split at hp
 case h_2=>cases hp
 simp only [sI',pI']at hp
 obtain⟨rfl,rfl⟩:=hp
 exact⟨⟨_,_,KX _ _ _,hK⟩⟩
def AN(sh kd ky pred pw curr cw spare:Int):Tr (PLN):=.pre True (.ite (!dF sh kd ky) (.pre True (.ret {now:=true,code:=1,okk:=false,val:=0,addr:=0,old:=0,nxt:=0,mark:=false,pops:=0})) (.ite (ieq kd 4) (.ite (ieq kd 4) (.pre True (.pre True (.ret {now:=false,code:=0,okk:=true,val:=0,addr:=pred,old:=pw,nxt:=spare,mark:=ieq (aB pw 19 1) 1,pops:=0}))) (.ite (ieq kd 2) (.pre True (.ite (eN ky curr cw) (.pre True (.pre True (.ret {now:=false,code:=0,okk:=true,val:=0,addr:=curr,old:=cw,nxt:=aB cw 10 9,mark:=true,pops:=0}))) (.ite (ieq kd 5) (.ite (ieq curr 0) (.pre True (.ret {now:=true,code:=0,okk:=false,val:=0,addr:=0,old:=0,nxt:=0,mark:=false,pops:=0})) (.pre True (.pre True (.ite (lY sh kd) (.pre True (.pre True (.pre True (.ret {now:=false,code:=0,okk:=true,val:=aB cw 0 10,addr:=pred,old:=pw,nxt:=aB cw 10 9,mark:=ieq (aB pw 19 1) 1,pops:=curr})))) (.pre True (.pre True (.ret {now:=false,code:=0,okk:=true,val:=aB cw 0 10,addr:=curr,old:=cw,nxt:=aB cw 10 9,mark:=true,pops:=0}))))))) (.ite (ieq kd 3) (.pre True (.pre True (.ret {now:=true,code:=0,okk:=eN ky curr cw,val:=0,addr:=0,old:=0,nxt:=0,mark:=false,pops:=0}))) (.pre True (.ret {now:=true,code:=0,okk:=false,val:=0,addr:=0,old:=0,nxt:=0,mark:=false,pops:=0})))))) (.ite (ieq kd 5) (.ite (ieq curr 0) (.pre True (.ret {now:=true,code:=0,okk:=false,val:=0,addr:=0,old:=0,nxt:=0,mark:=false,pops:=0})) (.pre True (.pre True (.ite (lY sh kd) (.pre True (.pre True (.pre True (.ret {now:=false,code:=0,okk:=true,val:=aB cw 0 10,addr:=pred,old:=pw,nxt:=aB cw 10 9,mark:=ieq (aB pw 19 1) 1,pops:=curr})))) (.pre True (.pre True (.ret {now:=false,code:=0,okk:=true,val:=aB cw 0 10,addr:=curr,old:=cw,nxt:=aB cw 10 9,mark:=true,pops:=0}))))))) (.ite (ieq kd 3) (.pre True (.pre True (.ret {now:=true,code:=0,okk:=eN ky curr cw,val:=0,addr:=0,old:=0,nxt:=0,mark:=false,pops:=0}))) (.pre True (.ret {now:=true,code:=0,okk:=false,val:=0,addr:=0,old:=0,nxt:=0,mark:=false,pops:=0})))))) (.ite (ieq kd 1) (.pre True (.ite (!eN ky curr cw) (.pre True (.pre True (.ret {now:=false,code:=0,okk:=true,val:=0,addr:=pred,old:=pw,nxt:=spare,mark:=ieq (aB pw 19 1) 1,pops:=0}))) (.ite (ieq kd 2) (.pre True (.ite (eN ky curr cw) (.pre True (.pre True (.ret {now:=false,code:=0,okk:=true,val:=0,addr:=curr,old:=cw,nxt:=aB cw 10 9,mark:=true,pops:=0}))) (.ite (ieq kd 5) (.ite (ieq curr 0) (.pre True (.ret {now:=true,code:=0,okk:=false,val:=0,addr:=0,old:=0,nxt:=0,mark:=false,pops:=0})) (.pre True (.pre True (.ite (lY sh kd) (.pre True (.pre True (.pre True (.ret {now:=false,code:=0,okk:=true,val:=aB cw 0 10,addr:=pred,old:=pw,nxt:=aB cw 10 9,mark:=ieq (aB pw 19 1) 1,pops:=curr})))) (.pre True (.pre True (.ret {now:=false,code:=0,okk:=true,val:=aB cw 0 10,addr:=curr,old:=cw,nxt:=aB cw 10 9,mark:=true,pops:=0}))))))) (.ite (ieq kd 3) (.pre True (.pre True (.ret {now:=true,code:=0,okk:=eN ky curr cw,val:=0,addr:=0,old:=0,nxt:=0,mark:=false,pops:=0}))) (.pre True (.ret {now:=true,code:=0,okk:=false,val:=0,addr:=0,old:=0,nxt:=0,mark:=false,pops:=0})))))) (.ite (ieq kd 5) (.ite (ieq curr 0) (.pre True (.ret {now:=true,code:=0,okk:=false,val:=0,addr:=0,old:=0,nxt:=0,mark:=false,pops:=0})) (.pre True (.pre True (.ite (lY sh kd) (.pre True (.pre True (.pre True (.ret {now:=false,code:=0,okk:=true,val:=aB cw 0 10,addr:=pred,old:=pw,nxt:=aB cw 10 9,mark:=ieq (aB pw 19 1) 1,pops:=curr})))) (.pre True (.pre True (.ret {now:=false,code:=0,okk:=true,val:=aB cw 0 10,addr:=curr,old:=cw,nxt:=aB cw 10 9,mark:=true,pops:=0}))))))) (.ite (ieq kd 3) (.pre True (.pre True (.ret {now:=true,code:=0,okk:=eN ky curr cw,val:=0,addr:=0,old:=0,nxt:=0,mark:=false,pops:=0}))) (.pre True (.ret {now:=true,code:=0,okk:=false,val:=0,addr:=0,old:=0,nxt:=0,mark:=false,pops:=0}))))))) (.ite (ieq kd 2) (.pre True (.ite (eN ky curr cw) (.pre True (.pre True (.ret {now:=false,code:=0,okk:=true,val:=0,addr:=curr,old:=cw,nxt:=aB cw 10 9,mark:=true,pops:=0}))) (.ite (ieq kd 5) (.ite (ieq curr 0) (.pre True (.ret {now:=true,code:=0,okk:=false,val:=0,addr:=0,old:=0,nxt:=0,mark:=false,pops:=0})) (.pre True (.pre True (.ite (lY sh kd) (.pre True (.pre True (.pre True (.ret {now:=false,code:=0,okk:=true,val:=aB cw 0 10,addr:=pred,old:=pw,nxt:=aB cw 10 9,mark:=ieq (aB pw 19 1) 1,pops:=curr})))) (.pre True (.pre True (.ret {now:=false,code:=0,okk:=true,val:=aB cw 0 10,addr:=curr,old:=cw,nxt:=aB cw 10 9,mark:=true,pops:=0}))))))) (.ite (ieq kd 3) (.pre True (.pre True (.ret {now:=true,code:=0,okk:=eN ky curr cw,val:=0,addr:=0,old:=0,nxt:=0,mark:=false,pops:=0}))) (.pre True (.ret {now:=true,code:=0,okk:=false,val:=0,addr:=0,old:=0,nxt:=0,mark:=false,pops:=0})))))) (.ite (ieq kd 5) (.ite (ieq curr 0) (.pre True (.ret {now:=true,code:=0,okk:=false,val:=0,addr:=0,old:=0,nxt:=0,mark:=false,pops:=0})) (.pre True (.pre True (.ite (lY sh kd) (.pre True (.pre True (.pre True (.ret {now:=false,code:=0,okk:=true,val:=aB cw 0 10,addr:=pred,old:=pw,nxt:=aB cw 10 9,mark:=ieq (aB pw 19 1) 1,pops:=curr})))) (.pre True (.pre True (.ret {now:=false,code:=0,okk:=true,val:=aB cw 0 10,addr:=curr,old:=cw,nxt:=aB cw 10 9,mark:=true,pops:=0}))))))) (.ite (ieq kd 3) (.pre True (.pre True (.ret {now:=true,code:=0,okk:=eN ky curr cw,val:=0,addr:=0,old:=0,nxt:=0,mark:=false,pops:=0}))) (.pre True (.ret {now:=true,code:=0,okk:=false,val:=0,addr:=0,old:=0,nxt:=0,mark:=false,pops:=0}))))))))
def aN(sh kd ky pred pw curr cw spare:Int):PLN:=(AN sh kd ky pred pw curr cw spare).val
def vJ(sh kd ky pred pw curr cw spare:Int):Prop:=(AN sh kd ky pred pw curr cw spare).ok
def planS:aK Ob:=fun args h=>match args,h with
 | [.agg [.int .i64 sh,.int .i64 kd,.int .i64 ky],.agg [.int .i64 pred,.int .u64 pw,.int .i64 curr,.int .u64 cw],.int .i64 spare],[]=>some (.pre (vJ sh kd ky pred pw curr cw spare) (.ret (AO (aN sh kd ky pred pw curr cw spare)) []))
 | _,_=>none
theorem CX:sT' 157 planS:=by
 intro args h o ho K hK
 unfold planS at ho
 split at ho<;>cases ho
 rename_i sh kd ky pred pw curr cw spare
 obtain⟨ok,hK⟩:=hK
 refine KM (root:=0) (pos:=[]) (cs:=[]) AM ?_
 exact cM' (E:=EB1) (q:=(AN sh kd ky pred pw curr cw spare).run (fun y=>(Out.ret (AO y) []).run K)) (by kernel_rfl) (KH ok hK)
def AP(v:AVal)(g:aA Ob):Option (Prop×Int):=match v,g with
 | .int .u64 x,[]=>some (True,x)
 | _,_=>none
def vL(y:Int):AVal:=.int .u64 y
theorem yJ:cS (obI tbl) 0 AP (fun y=>.ret (vL y) []):=by
 intro v g p x hp hq K hK
 unfold AP at hp
 split at hp
 case h_2=>cases hp
 simp only [sI',pI']at hp
 obtain⟨rfl,rfl⟩:=hp
 exact⟨⟨_,_,KX _ _ _,hK⟩⟩
def vK(now:Bool)(code:Int)(okk:Bool)(val:Int)(addr:Int)(old:Int)(nxt:Int)(mark:Bool)(pops:Int):Tr (Int):=.ite now (.pre True (.ret 0)) (.pre True (.pre ((-1000000:Int)≤(0:Int)∧(0:Int)≤(1000000:Int)) (.pre ((0:Int)≤aB old 25 18∧aB old 25 (18:Int)≤(1000000:Int)) (.pre True (.pre True (.ret (bif bif aL (aB old 0 10) 10 then bif aL nxt 9 then bif aL 0 5 then aL (aM (aB old 25 18)) 18 else false else false else false then bJ (aB old 0 10) nxt mark 0 (aM (aB old 25 18))else 0)))))))
def cG(now:Bool)(code:Int)(okk:Bool)(val:Int)(addr:Int)(old:Int)(nxt:Int)(mark:Bool)(pops:Int):Int:=(vK now code okk val addr old nxt mark pops).val
def wZ(now:Bool)(code:Int)(okk:Bool)(val:Int)(addr:Int)(old:Int)(nxt:Int)(mark:Bool)(pops:Int):Prop:=(vK now code okk val addr old nxt mark pops).ok
def planWS:aK Ob:=fun args h=>match args,h with
 | [.agg [.bool now,.int .i64 code,.bool okk,.int .i64 val,.int .i64 addr,.int .u64 old,.int .i64 nxt,.bool mark,.int .i64 pops]],[]=>some (.pre (wZ now code okk val addr old nxt mark pops) (.ret (vL (cG now code okk val addr old nxt mark pops)) []))
 | _,_=>none
theorem AQ:sT' 100 planWS:=by
 intro args h o ho K hK
 unfold planWS at ho
 split at ho<;>cases ho
 rename_i now code okk val addr old nxt mark pops
 obtain⟨ok,hK⟩:=hK
 refine KM (root:=0) (pos:=[]) (cs:=[]) yJ ?_
 exact cM' (E:=EB1) (q:=(vK now code okk val addr old nxt mark pops).run (fun y=>(Out.ret (vL y) []).run K)) (by kernel_rfl) (KH ok hK)
def AJ(v:AVal)(g:aA Ob):Option (Prop×Bool):=match v,g with
 | .bool x,[]=>some (True,x)
 | _,_=>none
def vI(y:Bool):AVal:=.bool y
theorem yI:cS (obI tbl) 0 AJ (fun y=>.ret (vI y) []):=by
 intro v g p x hp hq K hK
 unfold AJ at hp
 split at hp
 case h_2=>cases hp
 simp only [sI',pI']at hp
 obtain⟨rfl,rfl⟩:=hp
 exact⟨⟨_,_,KX _ _ _,hK⟩⟩
def vH(now:Bool)(code:Int)(okk:Bool)(val:Int)(addr:Int)(old:Int)(nxt:Int)(mark:Bool)(pops:Int):Tr (Bool):=.ite (!now) (.pre True (.pre True (.ret !ieq (aB old 20 5) 0))) (.pre True (.ret false))
def vG(now:Bool)(code:Int)(okk:Bool)(val:Int)(addr:Int)(old:Int)(nxt:Int)(mark:Bool)(pops:Int):Bool:=(vH now code okk val addr old nxt mark pops).val
def rQ(now:Bool)(code:Int)(okk:Bool)(val:Int)(addr:Int)(old:Int)(nxt:Int)(mark:Bool)(pops:Int):Prop:=(vH now code okk val addr old nxt mark pops).ok
def planCS:aK Ob:=fun args h=>match args,h with
 | [.agg [.bool now,.int .i64 code,.bool okk,.int .i64 val,.int .i64 addr,.int .u64 old,.int .i64 nxt,.bool mark,.int .i64 pops]],[]=>some (.pre (rQ now code okk val addr old nxt mark pops) (.ret (vI (vG now code okk val addr old nxt mark pops)) []))
 | _,_=>none
theorem AK:sT' 158 planCS:=by
 intro args h o ho K hK
 unfold planCS at ho
 split at ho<;>cases ho
 rename_i now code okk val addr old nxt mark pops
 obtain⟨ok,hK⟩:=hK
 refine KM (root:=0) (pos:=[]) (cs:=[]) yI ?_
 exact cM' (E:=EB1) (q:=(vH now code okk val addr old nxt mark pops).run (fun y=>(Out.ret (vI y) []).run K)) (by kernel_rfl) (KH ok hK)
noncomputable def EB2:=(((EB1.addS 157 planS CX).addS 100 planWS AQ).addS 158 planCS AK)
abbrev EL(x:ENS):aG Mc:=.cells [.ptr 1 0,.bool x.sh,.O,.O,.bool x.dn]
theorem B0{t n:Int}{x:ENS}{st:STS}{s:MS} :aP (obI tbl) 4 (.bool true) [some (.abs (.ensure t n x) [1]),some (.abs (.store t n st) []),bB 3 s,bC s] (.bool true) [some (EL x),some (.abs (.store t n st) []),bB 3 s,bC s]:=by
 obtain⟨ph,sh,dn,a,y⟩:=x
 match ph with
 | 0=>exact(aP.unpack (.ensure t n ⟨0,sh,dn,a,y⟩) 0 1 (wC t n ⟨0,sh,dn,a,y⟩) [1] rfl rfl (by kernel_rfl) rfl).trans ((aP.weak (cK _ 0 [2,3])).trans ((aP.pick (upto 0 4) rfl).trans (KN (by kernel_rfl) (by kernel_rfl))))
 | 1=>exact(aP.unpack (.ensure t n ⟨1,sh,dn,a,y⟩) 0 1 (wC t n ⟨1,sh,dn,a,y⟩) [1] rfl rfl (by kernel_rfl) rfl).trans ((aP.weak (cK _ 0 [2,3])).trans ((aP.pick (upto 0 4) rfl).trans (KN (by kernel_rfl) (by kernel_rfl))))
 | 2=>exact(aP.unpack (.ensure t n ⟨2,sh,dn,a,y⟩) 0 1 (wC t n ⟨2,sh,dn,a,y⟩) [1] rfl rfl (by kernel_rfl) rfl).trans ((aP.weak (cK _ 0 [2,3])).trans ((aP.pick (upto 0 4) rfl).trans (KN (by kernel_rfl) (by kernel_rfl))))
 | 3=>exact(aP.unpack (.ensure t n ⟨3,sh,dn,a,y⟩) 0 1 (wC t n ⟨3,sh,dn,a,y⟩) [1] rfl rfl (by kernel_rfl) rfl).trans ((aP.weak (cK _ 0 [2,3])).trans ((aP.pick (upto 0 4) rfl).trans (KN (by kernel_rfl) (by kernel_rfl))))
 | k+4=>exact(aP.unpack (.ensure t n ⟨k+4,sh,dn,a,y⟩) 0 1 (wC t n ⟨k+4,sh,dn,a,y⟩) [1] rfl rfl (by kernel_rfl) rfl).trans ((aP.weak (cK _ 0 [2,3])).trans ((aP.pick (upto 0 4) rfl).trans (KN (by kernel_rfl) (by kernel_rfl))))
def EO.fin(t n:Int)(y:EO):Out Ob:=.ite y.d (.ret (.bool true) [some (EL y.e),some (.abs (.store t n y.st) []),bB 3 y.s,bC y.s]) (.ret (.bool false) [some (.abs (.ensure t n y.e) [1]),some (.abs (.store t n y.st) []),bB 3 y.s,bC y.s])
theorem sV(t n:Int)(e:ENS)(st:STS)(s:MS)(K:AVal→aA Ob→Prop)(ok:okE t n e st s)(hK:((enF t n e st s).fin t n).run K):cT' 85 [.ptr 0 0,.ptr 2 0] (BV t n e st s) K:=by
 refine K3 (wE t n e st s _ ok ?_)
 show fL (obI tbl) 4 K (.bool (enF t n e st s).d) _
 generalize enF t n e st s=y at hK⊢
 exact w7 hK (fun h=>⟨⟨_,_,B0,h⟩⟩) (fun h=>⟨⟨_,_,KX _ _ _,h⟩⟩)
noncomputable def enSA:aK Ob:=fun args h=>match args,h with
 | [.ptr 0 0,.ptr 2 0],[some (.abs (.ensure t n x) [1]),some (.abs (.store t2 n2 st) []),e3,e4]=>(match eJ 3 [e3,e4]with
   | some (l,s)=>some (.pre ((l=s.xs.length∧t2=t∧n2=n)∧okE t n x st s) (EO.fin t n (enF t n x st s)))
   | none=>none)
 | _,_=>none
theorem EP:sT' 85 enSA:=by
 intro args h o ho K hK
 unfold enSA at ho
 split at ho
 case h_2=>cases ho
 split at ho<;>cases ho
 rename_i hm
 obtain⟨⟨⟨hl,rfl,rfl⟩,ok⟩,hK⟩:=hK
 have hh:=bW hm hl
 cases hh
 exact sV _ _ _ _ _ K ok hK
def EO.finB(t n:Int)(y:EO):Out Ob:=.ite y.d (.ret (.bool true) [some (EL y.e),stC 5 t n y.st,none,bB 4 y.s,bC y.s,kI y.st]) (.ret (.bool false) [some (.abs (.ensure t n y.e) [1]),stC 5 t n y.st,none,bB 4 y.s,bC y.s,kI y.st])
noncomputable def enSB:aK Ob:=fun args h=>match args,h with
 | [.ptr 0 0,.ptr 3 0],[some (.abs (.ensure t n x) [1]),e1,e2,e3,e4]=>(match pA 2 [e1,e2],eJ 4 [e3,e4]with
   | some (l2,t2,n2,st),some (l,s)=>some (.pre ((l=s.xs.length∧l2=st.R.length∧t2=t∧n2=n)∧okE t n x st s) (EO.finB t n (enF t n x st s)))
   | _,_=>none)
 | _,_=>none
theorem ES:sT' 85 enSB:=by
 intro args h o ho K hK
 unfold enSB at ho
 split at ho
 case h_2=>cases ho
 split at ho<;>cases ho
 rename_i hs hm
 obtain⟨⟨⟨hl,hl2,rfl,rfl⟩,ok⟩,hK⟩:=hK
 have hh:=bW hm hl
 cases hh
 have hh:=cV hs hl2
 cases hh
 exact kE (fun ι hι=>by simp [aG.ren,KD,AVal.ren,hι]) (fun ι hι=>by simp [aG.ren,hι]) (fun K hK=>sV _ _ _ _ _ K ok hK) K hK
noncomputable def enS2:aK Ob:=aK.or enSA enSB
theorem EN:sT' 85 enS2:=KS EP ES
abbrev GK(x:SWS):aG Mc:=.cells [.ptr 1 0,.O]
theorem DB{t n:Int}{x:SWS}{st:STS}{s:MS} :aP (obI tbl) 4 (.bool true) [some (.abs (.sweep t n x) [1]),some (.abs (.store t n st) []),bB 3 s,bC s] (.bool true) [some (GK x),some (.abs (.store t n st) []),bB 3 s,bC s]:=by
 obtain⟨ph,N,m,i,ks,fs,gs,j,l⟩:=x
 match ph with
 | 0=>exact(aP.unpack (.sweep t n ⟨0,N,m,i,ks,fs,gs,j,l⟩) 0 1 (A4 t n ⟨0,N,m,i,ks,fs,gs,j,l⟩) [1] rfl rfl (by kernel_rfl) rfl).trans ((aP.weak (cK _ 0 [1])).trans ((aP.pick (upto 0 4) rfl).trans (KN (by kernel_rfl) (by kernel_rfl))))
 | 1=>exact(aP.unpack (.sweep t n ⟨1,N,m,i,ks,fs,gs,j,l⟩) 0 1 (A4 t n ⟨1,N,m,i,ks,fs,gs,j,l⟩) [1] rfl rfl (by kernel_rfl) rfl).trans ((aP.weak (cK _ 0 [1])).trans ((aP.pick (upto 0 4) rfl).trans (KN (by kernel_rfl) (by kernel_rfl))))
 | 2=>exact(aP.unpack (.sweep t n ⟨2,N,m,i,ks,fs,gs,j,l⟩) 0 1 (A4 t n ⟨2,N,m,i,ks,fs,gs,j,l⟩) [1] rfl rfl (by kernel_rfl) rfl).trans ((aP.weak (cK _ 0 [1])).trans ((aP.pick (upto 0 4) rfl).trans (KN (by kernel_rfl) (by kernel_rfl))))
 | k+3=>exact(aP.unpack (.sweep t n ⟨k+3,N,m,i,ks,fs,gs,j,l⟩) 0 1 (A4 t n ⟨k+3,N,m,i,ks,fs,gs,j,l⟩) [1] rfl rfl (by kernel_rfl) rfl).trans ((aP.weak (cK _ 0 [1])).trans ((aP.pick (upto 0 4) rfl).trans (KN (by kernel_rfl) (by kernel_rfl))))
def SO.fin(t n:Int)(y:SO):Out Ob:=.ite y.d (.ret (.bool true) [some (GK y.e),some (.abs (.store t n y.st) []),bB 3 y.s,bC y.s]) (.ret (.bool false) [some (.abs (.sweep t n y.e) [1]),some (.abs (.store t n y.st) []),bB 3 y.s,bC y.s])
theorem tT(t n:Int)(e:SWS)(st:STS)(s:MS)(K:AVal→aA Ob→Prop)(ok:oN t n e st s)(hK:((swF t n e st s).fin t n).run K):cT' 195 [.ptr 0 0,.ptr 2 0] (G2 t n e st s) K:=by
 refine K3 (DC t n e st s _ ok ?_)
 show fL (obI tbl) 4 K (.bool (swF t n e st s).d) _
 generalize swF t n e st s=y at hK⊢
 exact w7 hK (fun h=>⟨⟨_,_,DB,h⟩⟩) (fun h=>⟨⟨_,_,KX _ _ _,h⟩⟩)
noncomputable def swSA:aK Ob:=fun args h=>match args,h with
 | [.ptr 0 0,.ptr 2 0],[some (.abs (.sweep t n x) [1]),some (.abs (.store t2 n2 st) []),e3,e4]=>(match eJ 3 [e3,e4]with
   | some (l,s)=>some (.pre ((l=s.xs.length∧t2=t∧n2=n)∧oN t n x st s) (SO.fin t n (swF t n x st s)))
   | none=>none)
 | _,_=>none
theorem GP:sT' 195 swSA:=by
 intro args h o ho K hK
 unfold swSA at ho
 split at ho
 case h_2=>cases ho
 split at ho<;>cases ho
 rename_i hm
 obtain⟨⟨⟨hl,rfl,rfl⟩,ok⟩,hK⟩:=hK
 have hh:=bW hm hl
 cases hh
 exact tT _ _ _ _ _ K ok hK
def SO.finB(t n:Int)(y:SO):Out Ob:=.ite y.d (.ret (.bool true) [some (GK y.e),stC 5 t n y.st,none,bB 4 y.s,bC y.s,kI y.st]) (.ret (.bool false) [some (.abs (.sweep t n y.e) [1]),stC 5 t n y.st,none,bB 4 y.s,bC y.s,kI y.st])
noncomputable def swSB:aK Ob:=fun args h=>match args,h with
 | [.ptr 0 0,.ptr 3 0],[some (.abs (.sweep t n x) [1]),e1,e2,e3,e4]=>(match pA 2 [e1,e2],eJ 4 [e3,e4]with
   | some (l2,t2,n2,st),some (l,s)=>some (.pre ((l=s.xs.length∧l2=st.R.length∧t2=t∧n2=n)∧oN t n x st s) (SO.finB t n (swF t n x st s)))
   | _,_=>none)
 | _,_=>none
theorem GU:sT' 195 swSB:=by
 intro args h o ho K hK
 unfold swSB at ho
 split at ho
 case h_2=>cases ho
 split at ho<;>cases ho
 rename_i hs hm
 obtain⟨⟨⟨hl,hl2,rfl,rfl⟩,ok⟩,hK⟩:=hK
 have hh:=bW hm hl
 cases hh
 have hh:=cV hs hl2
 cases hh
 exact kE (fun ι hι=>by simp [aG.ren,KD,AVal.ren,hι]) (fun ι hι=>by simp [aG.ren,hι]) (fun K hK=>tT _ _ _ _ _ K ok hK) K hK
noncomputable def swSC:aK Ob:=aK.or swSA swSB
theorem GO:sT' 195 swSC:=KS GP GU
def EM(t n:Int)(v:AVal)(g:aA Ob):Option (Prop×STS):=match v,g with
 | .ptr 2 0,[e1,e2,some (.cells [.ptr 0 0,.bool false,.raw (.pointer none),.raw (.pointer none),.bool false])]=>(match pA 1 [e1,e2]with
   | some (l2,t2,n2,st)=>some (t2=t∧n2=n∧l2=st.R.length,st)
   | none=>none)
 | _,_=>none
abbrev BX(t n:Int)(y:STS):aA Ob:=[stC 1 t n y,kI y,some (.abs (.ensure t n oC) [0])]
theorem BY{t n:Int} :cS (obI tbl) 2 (EM t n) (fun y=>.ret (.ptr 2 0) (BX t n y)):=by
 intro v g p x hp hq K hK
 unfold EM at hp
 split at hp
 case h_2=>cases hp
 split at hp
 case h_2=>cases hp
 rename_i l2 t2 n2 st hs
 simp only [sI',pI']at hp
 obtain⟨rfl,rfl⟩:=hp
 obtain⟨rfl,rfl,hl2⟩:=hq
 have hh:=cV hs hl2
 cases hh
 exact⟨⟨_,_,aP.pack (BX t2 n2 st) (.ensure t2 n2 oC) 2 1 (wC t2 n2 oC) [0] (by kernel_rfl) rfl rfl (by kernel_rfl),hK⟩⟩
def sU(t n:Int)(st:STS):Tr STS:=.pre (t=t∧n=n∧lE' st.3) (.ret {me:=st.1,sp:=st.2,R:=st.3})
def enNS:aK Ob:=fun args h=>match args,h with
 | [.ptr 0 0],[e1,e2]=>(match pA 1 [e1,e2]with
   | some (l2,t,n,st)=>some (.pre (l2=st.R.length∧(sU t n st).ok) (.ret (.ptr 2 0) (BX t n (sU t n st).val)))
   | none=>none)
 | _,_=>none
theorem uV:sT' 37 enNS:=by
 intro args h o ho K hK
 unfold enNS at ho
 split at ho
 case h_2=>cases ho
 split at ho<;>cases ho
 rename_i l2 t n st hs
 obtain⟨⟨hl2,ok⟩,hK⟩:=hK
 have hh:=cV hs hl2
 cases hh
 refine KM (root:=2) (pos:=[]) (cs:=[]) (parse:=EM t n) BY ?_
 exact cM' (E:=EB2) (q:=(sU t n st).run (fun y=>(Out.ret (.ptr 2 0) (BX t n y)).run K)) (by kernel_rfl) (KH ok hK)
def GL(t n:Int)(v:AVal)(g:aA Ob):Option (Prop×STS):=match v,g with
 | .ptr 2 0,[e1,e2,some (.cells [.ptr 0 0,.raw (.pointer none)])]=>(match pA 1 [e1,e2]with
   | some (l2,t2,n2,st)=>some (t2=t∧n2=n∧l2=st.R.length,st)
   | none=>none)
 | _,_=>none
abbrev C6(t n:Int)(y:STS):aA Ob:=[stC 1 t n y,kI y,some (.abs (.sweep t n BQ) [0])]
theorem C7{t n:Int} :cS (obI tbl) 2 (GL t n) (fun y=>.ret (.ptr 2 0) (C6 t n y)):=by
 intro v g p x hp hq K hK
 unfold GL at hp
 split at hp
 case h_2=>cases hp
 split at hp
 case h_2=>cases hp
 rename_i l2 t2 n2 st hs
 simp only [sI',pI']at hp
 obtain⟨rfl,rfl⟩:=hp
 obtain⟨rfl,rfl,hl2⟩:=hq
 have hh:=cV hs hl2
 cases hh
 exact⟨⟨_,_,aP.pack (C6 t2 n2 st) (.sweep t2 n2 BQ) 2 1 (A4 t2 n2 BQ) [0] (by kernel_rfl) rfl rfl (by kernel_rfl),hK⟩⟩
def GM(t n:Int)(st:STS):Tr STS:=.pre (t=t∧n=n∧lE' st.3) (.ret {me:=st.1,sp:=st.2,R:=st.3})
def swNS:aK Ob:=fun args h=>match args,h with
 | [.ptr 0 0],[e1,e2]=>(match pA 1 [e1,e2]with
   | some (l2,t,n,st)=>some (.pre (l2=st.R.length∧(GM t n st).ok) (.ret (.ptr 2 0) (C6 t n (GM t n st).val)))
   | none=>none)
 | _,_=>none
theorem GN:sT' 146 swNS:=by
 intro args h o ho K hK
 unfold swNS at ho
 split at ho
 case h_2=>cases ho
 split at ho<;>cases ho
 rename_i l2 t n st hs
 obtain⟨⟨hl2,ok⟩,hK⟩:=hK
 have hh:=cV hs hl2
 cases hh
 refine KM (root:=2) (pos:=[]) (cs:=[]) (parse:=GL t n) C7 ?_
 exact cM' (E:=EB2) (q:=(GM t n st).run (fun y=>(Out.ret (.ptr 2 0) (C6 t n y)).run K)) (by kernel_rfl) (KH ok hK)
noncomputable def EB3:=(((EB2.addS 85 enS2 EN).addS 195 swSC GO).addS 37 enNS uV).addS 146 swNS GN
structure ClO where
 d:Bool
 x:CLS
 s:MS
instance:Inhabited ClO:=⟨⟨false,⟨0,0,0,0⟩,⟨0,0,[],0,0,0,0,0,false⟩⟩⟩
instance:Inhabited CLS:=⟨⟨0,0,0,0⟩⟩
abbrev IG(t n:Int)(x:CLS)(s:MS):aA Ob:=[some (.abs (.clear t n x) []),bB 2 s,bC s]
abbrev JG(t n:Int)(x:CLS)(s:MS):aA Ob:=[some (.cells [.int .i64 t,.int .i64 n,.int .i64 x.addr,.int .i64 x.at',.int .u64 x.word,.int .u64 x.found]),bB 2 s,bC s]
def ClO.fin(t n:Int)(y:ClO):Out Ob:=.ite y.d (.ret (.bool true) (JG t n y.x y.s)) (.ret (.bool false) (IG t n y.x y.s))
def EC(t n:Int)(v:AVal)(g:aA Ob):Option (Prop×ClO):=match v,g with
 | .bool d,[some (.cells [.int .i64 t1,.int .i64 n1,.int .i64 addr,.int .i64 at',.int .u64 word,.int .u64 found]),e1,e2]=>(match eJ 2 [e1,e2]with
   | some (l,s)=>some ((t1=t∧n1=n)∧l=s.xs.length,⟨d,⟨addr,at',word,found⟩,s⟩)
   | none=>none)
 | _,_=>none
def BA(t n:Int)(v:AVal)(g:aA Ob):Option (Prop×ClO):=EC t n v g
theorem BK{t n:Int} :cS (obI tbl) 3 (EC t n) (ClO.fin t n):=by
 intro v g p x hp hq K hK
 unfold EC at hp
 split at hp
 case h_2=>cases hp
 rename_i d t1 n1 addr at' word found e1 e2
 split at hp
 case h_2=>cases hp
 rename_i l s hm
 simp only [sI',pI']at hp
 obtain⟨rfl,rfl⟩:=hp
 obtain⟨⟨rfl,rfl⟩,hl⟩:=hq
 have hh:=bW hm hl
 cases hh
 refine w7 hK (fun h=>?_) (fun h=>?_)
 ·exact⟨⟨_,_,KX _ _ _,h⟩⟩
 ·exact⟨⟨_,_,(aP.pack (IG t1 n1 (⟨addr,at',word,found⟩:CLS) s) (.clear t1 n1 (⟨addr,at',word,found⟩:CLS)) 0 0 (iG t1 n1 (⟨addr,at',word,found⟩:CLS)) [] (by kernel_rfl) rfl (congrArg (Prod.mk 0) rfl) (by kernel_rfl)),h⟩⟩
theorem qY{t n:Int} :cS (obI tbl) 3 (BA t n) (ClO.fin t n):=by
 intro v g p x hp hq K hK
 unfold BA at hp
 exact BK v g p x hp hq K hK
def v8(t n:Int)(x:CLS)(s:MS):Tr ClO:=.pre (lE' s.3∧(0:Int)≤s.4∧s.4≤(4611686018427387904:Int)) (.pre True (.ite (cD (aB (aD s.3 x.1) 20 5 - 1) 0) (.pre ((t=t∧n=n)∧lE' s.3) (.ret {d:=true,x:= {addr:=x.1,at':=1,word:=aD s.3 x.1,found:=x.4},s:= {s with c:=s.4+1,k:=1,a:=x.1,o:=aD s.3 x.1,w:=aD s.3 x.1,ok:=bN s.3 x.1} })) (.pre ((t=t∧n=n)∧lE' s.3) (.ret {d:=ile t (aB (aD s.3 x.1) 20 5 - 1),x:= {addr:=x.1,at':=1,word:=aD s.3 x.1,found:=x.4},s:= {s with c:=s.4+1,k:=1,a:=x.1,o:=aD s.3 x.1,w:=aD s.3 x.1,ok:=bN s.3 x.1} }))))
theorem xJ(t n:Int)(x:CLS)(s:MS)(K:ClO→Prop)(h:(v8 t n x s).run K):cT' 96 [.ptr 0 0,.ptr 1 0] [some (.cells [.int .i64 t,.int .i64 n,.int .i64 x.addr,.int .i64 0,.int .u64 x.word,.int .u64 x.found]),bB 2 s,bC s] (dI 3 0 [] [] (BA t n) K):=by
 exact cM' (E:=EB3) (by kernel_rfl) h
def v9(t n:Int)(x:CLS)(s:MS):Tr ClO:=.pre True (.pre ((((0:Int)≤t∧t≤(100000:Int))∧((0:Int)≤n∧n≤(100000:Int))∧(-1099511627776:Int)≤aB x.3 20 5 - 1∧aB x.3 20 5 - (1:Int)≤(1099511627776:Int))∧True) (.pre ((lE' s.3∧(0:Int)≤s.4∧s.4≤(4611686018427387904:Int))∧True) (.pre True (.ite (hasB [2] (aB (aD s.3 (2*n+5+2*t+3*(aB x.3 20 5 - 1)+2)) 49 3)) (.ite (ieq (aB (aD s.3 (2*n+5+2*t+3*(aB x.3 20 5 - 1)+2)) 12 9) x.1) (.pre True (.ite (ieq (aB (aD s.3 (2*n+5+2*t+3*(aB x.3 20 5 - 1)+2)) 21 18) (aB x.3 25 18)) (.pre ((t=t∧n=n)∧lE' s.3) (.ret {d:=false,x:= {addr:=x.1,at':=2,word:=x.3,found:=aD s.3 (2*n+5+2*t+3*(aB x.3 20 5 - 1)+2) },s:= {s with c:=s.4+1,k:=1,a:=2*n+5+2*t+3*(aB x.3 20 5 - 1)+2,o:=aD s.3 (2*n+5+2*t+3*(aB x.3 20 5 - 1)+2),w:=aD s.3 (2*n+5+2*t+3*(aB x.3 20 5 - 1)+2),ok:=bN s.3 (2*n+5+2*t+3*(aB x.3 20 5 - 1)+2) } })) (.pre ((t=t∧n=n)∧lE' s.3) (.ret {d:=false,x:= {addr:=x.1,at':=3,word:=x.3,found:=aD s.3 (2*n+5+2*t+3*(aB x.3 20 5 - 1)+2) },s:= {s with c:=s.4+1,k:=1,a:=2*n+5+2*t+3*(aB x.3 20 5 - 1)+2,o:=aD s.3 (2*n+5+2*t+3*(aB x.3 20 5 - 1)+2),w:=aD s.3 (2*n+5+2*t+3*(aB x.3 20 5 - 1)+2),ok:=bN s.3 (2*n+5+2*t+3*(aB x.3 20 5 - 1)+2) } })))) (.pre ((t=t∧n=n)∧lE' s.3) (.ret {d:=false,x:= {addr:=x.1,at':=3,word:=x.3,found:=aD s.3 (2*n+5+2*t+3*(aB x.3 20 5 - 1)+2) },s:= {s with c:=s.4+1,k:=1,a:=2*n+5+2*t+3*(aB x.3 20 5 - 1)+2,o:=aD s.3 (2*n+5+2*t+3*(aB x.3 20 5 - 1)+2),w:=aD s.3 (2*n+5+2*t+3*(aB x.3 20 5 - 1)+2),ok:=bN s.3 (2*n+5+2*t+3*(aB x.3 20 5 - 1)+2) } }))) (.pre ((t=t∧n=n)∧lE' s.3) (.ret {d:=false,x:= {addr:=x.1,at':=3,word:=x.3,found:=aD s.3 (2*n+5+2*t+3*(aB x.3 20 5 - 1)+2) },s:= {s with c:=s.4+1,k:=1,a:=2*n+5+2*t+3*(aB x.3 20 5 - 1)+2,o:=aD s.3 (2*n+5+2*t+3*(aB x.3 20 5 - 1)+2),w:=aD s.3 (2*n+5+2*t+3*(aB x.3 20 5 - 1)+2),ok:=bN s.3 (2*n+5+2*t+3*(aB x.3 20 5 - 1)+2) } }))))))
theorem xK(t n:Int)(x:CLS)(s:MS)(K:ClO→Prop)(h:(v9 t n x s).run K):cT' 96 [.ptr 0 0,.ptr 1 0] [some (.cells [.int .i64 t,.int .i64 n,.int .i64 x.addr,.int .i64 1,.int .u64 x.word,.int .u64 x.found]),bB 2 s,bC s] (dI 3 0 [] [] (BA t n) K):=by
 exact cM' (E:=EB3) (by kernel_rfl) h
def wA(t n:Int)(x:CLS)(s:MS):Tr ClO:=.pre True (.pre True (.pre True (.pre True (.pre ((((0:Int)≤t∧t≤(100000:Int))∧((0:Int)≤n∧n≤(100000:Int))∧(-1099511627776:Int)≤aB x.3 20 5 - 1∧aB x.3 20 5 - (1:Int)≤(1099511627776:Int))∧True) (.pre ((lE' s.3∧(0:Int)≤s.4∧s.4≤(4611686018427387904:Int))∧True) (.pre ((t=t∧n=n)∧lE' (bif aY s.3 (2*n+5+2*t+3*(aB x.3 20 5 - 1)+2) x.4 then aT s.3 (2*n+5+2*t+3*(aB x.3 20 5 - 1)+2) (bif dOk (aB x.4 0 12) (aB x.4 12 9) (aB x.4 21 18) (aB x.4 39 9) 3 (aB x.4 52 10)then lK (aB x.4 0 12) (aB x.4 12 9) (aB x.4 21 18) (aB x.4 39 9) (ieq (aB x.4 48 1) 1) 3 (aB x.4 52 10)else 0)else s.3)) (.ret {d:=false,x:= {x with at':=3},s:= {t:=s.1,n:=s.2,xs:=bif aY s.3 (2*n+5+2*t+3*(aB x.3 20 5 - 1)+2) x.4 then aT s.3 (2*n+5+2*t+3*(aB x.3 20 5 - 1)+2) (bif dOk (aB x.4 0 12) (aB x.4 12 9) (aB x.4 21 18) (aB x.4 39 9) 3 (aB x.4 52 10)then lK (aB x.4 0 12) (aB x.4 12 9) (aB x.4 21 18) (aB x.4 39 9) (ieq (aB x.4 48 1) 1) 3 (aB x.4 52 10)else 0)else s.3,c:=s.4+1,k:=3,a:=2*n+5+2*t+3*(aB x.3 20 5 - 1)+2,o:=aD s.3 (2*n+5+2*t+3*(aB x.3 20 5 - 1)+2),w:=bif bN s.3 (2*n+5+2*t+3*(aB x.3 20 5 - 1)+2)then bif dOk (aB x.4 0 12) (aB x.4 12 9) (aB x.4 21 18) (aB x.4 39 9) 3 (aB x.4 52 10)then lK (aB x.4 0 12) (aB x.4 12 9) (aB x.4 21 18) (aB x.4 39 9) (ieq (aB x.4 48 1) 1) 3 (aB x.4 52 10)else 0 else 0,ok:=aY s.3 (2*n+5+2*t+3*(aB x.3 20 5 - 1)+2) x.4} })))))))
theorem xL(t n:Int)(x:CLS)(s:MS)(K:ClO→Prop)(h:(wA t n x s).run K):cT' 96 [.ptr 0 0,.ptr 1 0] [some (.cells [.int .i64 t,.int .i64 n,.int .i64 x.addr,.int .i64 2,.int .u64 x.word,.int .u64 x.found]),bB 2 s,bC s] (dI 3 0 [] [] (BA t n) K):=by
 exact cM' (E:=EB3) (by kernel_rfl) h
def wB(t n:Int)(x:CLS)(s:MS):Tr ClO:=.pre True (.pre ((0:Int)≤aB x.3 25 18∧aB x.3 25 (18:Int)≤(1000000:Int)) (.pre True (.pre ((lE' s.3∧(0:Int)≤s.4∧s.4≤(4611686018427387904:Int))∧True) (.pre ((t=t∧n=n)∧lE' (bif aY s.3 x.1 x.3 then aT s.3 x.1 (bif bif aL (aB x.3 0 10) 10 then bif aL (aB x.3 10 9) 9 then bif aL 0 5 then aL (aM (aB x.3 25 18)) 18 else false else false else false then bJ (aB x.3 0 10) (aB x.3 10 9) (ieq (aB x.3 19 1) 1) 0 (aM (aB x.3 25 18))else 0)else s.3)) (.ret {d:=true,x:= {x with at':=3},s:= {t:=s.1,n:=s.2,xs:=bif aY s.3 x.1 x.3 then aT s.3 x.1 (bif bif aL (aB x.3 0 10) 10 then bif aL (aB x.3 10 9) 9 then bif aL 0 5 then aL (aM (aB x.3 25 18)) 18 else false else false else false then bJ (aB x.3 0 10) (aB x.3 10 9) (ieq (aB x.3 19 1) 1) 0 (aM (aB x.3 25 18))else 0)else s.3,c:=s.4+1,k:=3,a:=x.1,o:=aD s.3 x.1,w:=bif bN s.3 x.1 then bif bif aL (aB x.3 0 10) 10 then bif aL (aB x.3 10 9) 9 then bif aL 0 5 then aL (aM (aB x.3 25 18)) 18 else false else false else false then bJ (aB x.3 0 10) (aB x.3 10 9) (ieq (aB x.3 19 1) 1) 0 (aM (aB x.3 25 18))else 0 else 0,ok:=aY s.3 x.1 x.3} })))))
theorem xM(t n:Int)(x:CLS)(s:MS)(K:ClO→Prop)(h:(wB t n x s).run K):cT' 96 [.ptr 0 0,.ptr 1 0] [some (.cells [.int .i64 t,.int .i64 n,.int .i64 x.addr,.int .i64 3,.int .u64 x.word,.int .u64 x.found]),bB 2 s,bC s] (dI 3 0 [] [] (BA t n) K):=by
 exact cM' (E:=EB3) (by kernel_rfl) h
def H6(t n:Int)(x:CLS)(s:MS):Tr ClO:=
 bif ieq x.at' 0 then v8 t n x s else
 bif ieq x.at' 1 then v9 t n x s else
 bif ieq x.at' 2 then wA t n x s else
 bif ieq x.at' 3 then wB t n x s else .pre False (.ret default)
def dJ(t n:Int)(x:CLS)(s:MS):ClO:=(H6 t n x s).val
def EB(t n:Int)(x:CLS)(s:MS):Prop:=(H6 t n x s).ok
theorem BM(t n:Int)(x:CLS)(s:MS)(K:AVal→aA Ob→Prop)(h:(H6 t n x s).run (fun y=>(ClO.fin t n y).run K)):cT' 96 [.ptr 0 0,.ptr 1 0] (IG t n x s) K:=by
 unfold H6 at h
 by_cases e:x.at'=0
 ·rw [e]at h
  have h:(v8 t n x s).run _:=h
  refine KF (root:=0) (pos:=[]) (cs:=[]) (parse:=BA t n) (fin:=ClO.fin t n) qY (cE.unpack (.clear t n x) 0 0 (iG t n x) [] rfl (congrArg (Prod.mk 0) rfl) (by kernel_rfl) rfl) ?_
  have q:=xJ t n x s _ h
  rw [←e]at q
  exact q
 rw [d7 e]at h
 by_cases e:x.at'=1
 ·rw [e]at h
  have h:(v9 t n x s).run _:=h
  refine KF (root:=0) (pos:=[]) (cs:=[]) (parse:=BA t n) (fin:=ClO.fin t n) qY (cE.unpack (.clear t n x) 0 0 (iG t n x) [] rfl (congrArg (Prod.mk 0) rfl) (by kernel_rfl) rfl) ?_
  have q:=xK t n x s _ h
  rw [←e]at q
  exact q
 rw [d7 e]at h
 by_cases e:x.at'=2
 ·rw [e]at h
  have h:(wA t n x s).run _:=h
  refine KF (root:=0) (pos:=[]) (cs:=[]) (parse:=BA t n) (fin:=ClO.fin t n) qY (cE.unpack (.clear t n x) 0 0 (iG t n x) [] rfl (congrArg (Prod.mk 0) rfl) (by kernel_rfl) rfl) ?_
  have q:=xL t n x s _ h
  rw [←e]at q
  exact q
 rw [d7 e]at h
 by_cases e:x.at'=3
 ·rw [e]at h
  have h:(wB t n x s).run _:=h
  refine KF (root:=0) (pos:=[]) (cs:=[]) (parse:=BA t n) (fin:=ClO.fin t n) qY (cE.unpack (.clear t n x) 0 0 (iG t n x) [] rfl (congrArg (Prod.mk 0) rfl) (by kernel_rfl) rfl) ?_
  have q:=xM t n x s _ h
  rw [←e]at q
  exact q
 rw [d7 e]at h
 exact h.1.elim
noncomputable def clS:aK Ob:=fun args h=>match args,h with
 | [.ptr 0 0,.ptr 1 0],[some (.abs (.clear t n x) []),e1,e2]=>(match eJ 2 [e1,e2]with
   | some (l,s)=>some (.pre (l=s.xs.length∧EB t n x s) (ClO.fin t n (dJ t n x s)))
   | none=>none)
 | _,_=>none
theorem G5:sT' 96 clS:=by
 intro args h o ho K hK
 unfold clS at ho
 split at ho
 case h_2=>cases ho
 split at ho<;>cases ho
 rename_i hm
 obtain⟨⟨hl,ok⟩,hK⟩:=hK
 have hh:=bW hm hl
 cases hh
 exact BM _ _ _ _ K (KH ok hK)
def D8(t n:Int)(v:AVal)(g:aA Ob):Option (Prop×CLS):=match v,g with
 | .ptr 0 0,[some (.cells [.int .i64 t1,.int .i64 n1,.int .i64 addr,.int .i64 at',.int .u64 word,.int .u64 found])]=>some ((t1=t∧n1=n),(⟨addr,at',word,found⟩:CLS))
 | _,_=>none
abbrev BI(t n:Int)(y:CLS):aA Ob:=[some (.abs (.clear t n y) [])]
theorem BJ{t n:Int} :cS (obI tbl) 0 (D8 t n) (fun y=>.ret (.ptr 0 0) (BI t n y)):=by
 intro v g p x hp hq K hK
 unfold D8 at hp
 split at hp
 case h_2=>cases hp
 rename_i t1 n1 addr at' word found
 simp only [sI',pI']at hp
 obtain⟨rfl,rfl⟩:=hp
 obtain⟨rfl,rfl⟩:=hq
 exact⟨⟨_,_,aP.pack (BI t1 n1 (⟨addr,at',word,found⟩:CLS)) (.clear t1 n1 (⟨addr,at',word,found⟩:CLS)) 0 0 (iG t1 n1 (⟨addr,at',word,found⟩:CLS)) [] (by kernel_rfl) rfl (congrArg (Prod.mk 0) rfl) (by kernel_rfl),hK⟩⟩
def D9(t n:Int)(a:Int):Tr CLS:=.pre (t=t∧n=n) (.ret {addr:=a,at':=0,word:=0,found:=0})
def uQ(t n:Int)(a:Int):CLS:=(D9 t n a).val
def oA(t n:Int)(a:Int):Prop:=(D9 t n a).ok
def clNS:aK Ob:=fun args h=>match args,h with
 | [.agg [.int .i64 t,.int .i64 n],.int .i64 a],[]=>some (.pre (oA t n a) (.ret (.ptr 0 0) (BI t n (uQ t n a))))
 | _,_=>none
theorem EA:sT' 159 clNS:=by
 intro args h o ho K hK
 unfold clNS at ho
 split at ho<;>cases ho
 rename_i t n a
 obtain⟨ok,hK⟩:=hK
 refine KM (root:=0) (pos:=[]) (cs:=[]) (parse:=D8 t n) BJ ?_
 exact cM' (E:=EB3) (q:=(D9 t n a).run (fun y=>(Out.ret (.ptr 0 0) (BI t n y)).run K)) (by kernel_rfl) (KH ok hK)
noncomputable def EC1:=((EB3.addS 96 clS G5).addS 159 clNS EA)
noncomputable def EQ1:=((EC1))
noncomputable def EQ2:=EQ1
noncomputable def EQ:=EQ2
structure HdO where
 d:Bool
 x:HDS
 s:MS
instance:Inhabited HdO:=⟨⟨false,⟨0,0,0,false⟩,⟨0,0,[],0,0,0,0,0,false⟩⟩⟩
instance:Inhabited HDS:=⟨⟨0,0,0,false⟩⟩
abbrev JY(t n:Int)(x:HDS)(s:MS):aA Ob:=[some (.abs (.head t n x) []),bB 2 s,bC s]
abbrev JX(t n:Int)(x:HDS)(s:MS):aA Ob:=[some (.cells [.int .i64 t,.int .i64 n,.int .i64 x.u,.int .u64 x.no,.int .i64 x.at',.bool x.tk]),bB 2 s,bC s]
def HdO.fin(t n:Int)(y:HdO):Out Ob:=.ite y.d (.ret (.bool true) (JX t n y.x y.s)) (.ret (.bool false) (JY t n y.x y.s))
noncomputable def EC2:=((EQ))
structure DrO where
 d:Bool
 x:DRS
 s:MS
instance:Inhabited DrO:=⟨⟨false,⟨0,0⟩,⟨0,0,[],0,0,0,0,0,false⟩⟩⟩
instance:Inhabited DRS:=⟨⟨0,0⟩⟩
abbrev JM(t n:Int)(x:DRS)(s:MS):aA Ob:=[some (.abs (.drop t n x) []),bB 2 s,bC s]
abbrev JL(t n:Int)(x:DRS)(s:MS):aA Ob:=[some (.cells [.int .i64 t,.int .i64 n,.int .i64 x.th,.int .i64 x.at']),bB 2 s,bC s]
def DrO.fin(t n:Int)(y:DrO):Out Ob:=.ite y.d (.ret (.bool true) (JL t n y.x y.s)) (.ret (.bool false) (JM t n y.x y.s))
noncomputable def EC3:=((EC2))
structure AnO where
 d:Bool
 x:ANS
 s:MS
instance:Inhabited AnO:=⟨⟨false,⟨0,0,0,0,false,0⟩,⟨0,0,[],0,0,0,0,0,false⟩⟩⟩
instance:Inhabited ANS:=⟨⟨0,0,0,0,false,0⟩⟩
abbrev JD(t n:Int)(x:ANS)(s:MS):aA Ob:=[some (.abs (.announce t n x) []),bB 2 s,bC s]
abbrev JC(t n:Int)(x:ANS)(s:MS):aA Ob:=[some (.cells [.int .i64 t,.int .i64 n,.int .u64 x.no,.int .i64 x.me,.int .i64 x.at',.int .u64 x.bits,.bool x.wrong,.int .u64 x.found]),bB 2 s,bC s]
def AnO.fin(t n:Int)(y:AnO):Out Ob:=.ite y.d (.ret (.bool true) (JC t n y.x y.s)) (.ret (.bool false) (JD t n y.x y.s))
noncomputable def EC4:=((EC3))
structure AwO where
 d:Bool
 x:AWS
 s:MS
instance:Inhabited AwO:=⟨⟨false,⟨0,false,0,0⟩,⟨0,0,[],0,0,0,0,0,false⟩⟩⟩
instance:Inhabited AWS:=⟨⟨0,false,0,0⟩⟩
abbrev JF(t n:Int)(x:AWS)(s:MS):aA Ob:=[some (.abs (.answer t n x) []),bB 2 s,bC s]
abbrev JE(t n:Int)(x:AWS)(s:MS):aA Ob:=[some (.cells [.int .i64 t,.int .i64 n,.int .i64 x.code,.bool x.okk,.int .i64 x.val,.int .i64 x.me]),bB 2 s,bC s]
def AwO.fin(t n:Int)(y:AwO):Out Ob:=.ite y.d (.ret (.bool true) (JE t n y.x y.s)) (.ret (.bool false) (JF t n y.x y.s))
noncomputable def EC5:=((EC4))
noncomputable def EX1:=EC5
noncomputable def EX2:=(EX1)
instance:Inhabited STS:=⟨⟨0,0,[]⟩⟩
structure ExO where
 d:Bool
 x:EXS
 s:MS
instance:Inhabited ExO:=⟨⟨false,G7,⟨0,0,[],0,0,0,0,0,false⟩⟩⟩
instance:Inhabited EXS:=⟨G7⟩
abbrev JV(t n:Int)(x:EXS)(s:MS):aA Ob:=[some (.abs (.exec t n x) []),bB 2 s,bC s]
abbrev JU(t n:Int)(x:EXS)(s:MS):aA Ob:=[some (.cells [.int .i64 t,.int .i64 n,.int .i64 x.popped,.int .i64 x.gave,.int .i64 x.u,.int .i64 x.sh,.int .i64 x.kd,.int .i64 x.ky,.bool x.only,.int .i64 x.att,.int .i64 x.at',.int .u64 x.found,.int .u64 x.word]),bB 2 s,bC s]
def ExO.fin(t n:Int)(y:ExO):Out Ob:=.ite y.d (.ret (.bool true) (JU t n y.x y.s)) (.ret (.bool false) (JV t n y.x y.s))
noncomputable def EC6:=((EX2))
structure PrO where
 d:Bool
 x:PRS
 st:STS
 s:MS
instance:Inhabited PrO:=⟨⟨false,⟨0,0,0,false⟩,⟨0,0,[]⟩,⟨0,0,[],0,0,0,0,0,false⟩⟩⟩
instance:Inhabited PRS:=⟨⟨0,0,0,false⟩⟩
abbrev IB(t n:Int)(x:PRS)(st:STS)(s:MS):aA Ob:=[some (.abs (.prepare t n x) [1]),some (.abs (.store t n st) []),bB 3 s,bC s]
abbrev I8(t n:Int)(x:PRS)(st:STS)(s:MS):aA Ob:=[some (.cells [.ptr 1 0,.int .i64 x.key,.int .i64 x.nxt,.int .u64 x.found,.bool x.loaded]),some (.abs (.store t n st) []),bB 3 s,bC s]
def PrO.fin(t n:Int)(y:PrO):Out Ob:=.ite y.d (.ret (.bool true) (I8 t n y.x y.st y.s)) (.ret (.bool false) (IB t n y.x y.st y.s))
def F2(t n:Int)(v:AVal)(g:aA Ob):Option (Prop×PrO):=match v,g with
 | .bool d,[some (.cells [.ptr 1 0,.int .i64 key,.int .i64 nxt,.int .u64 found,.bool loaded]),e1,e3,e4,e2]=>(match pA 4 [e1,e2],eJ 3 [e3,e4]with
   | some (l2,t2,n2,st),some (l,s)=>some ((t2=t∧n2=n)∧l=s.xs.length∧l2=st.R.length,⟨d,⟨key,nxt,found,loaded⟩,st,s⟩)
   | _,_=>none)
 | _,_=>none
def IC(t n:Int)(v:AVal)(g:aA Ob):Option (Prop×PrO):=F2 t n v g
theorem C0{t n:Int} :cS (obI tbl) 4 (F2 t n) (PrO.fin t n):=by
 intro v g p x hp hq K hK
 unfold F2 at hp
 split at hp
 case h_2=>cases hp
 rename_i d key nxt found loaded e1 e3 e4 e2
 split at hp
 case h_2=>cases hp
 rename_i l2 t2 n2 st l s hs hm
 simp only [sI',pI']at hp
 obtain⟨rfl,rfl⟩:=hp
 obtain⟨⟨rfl,rfl⟩,hl,hl2⟩:=hq
 have hh:=bW hm hl
 cases hh
 have hh:=cV hs hl2
 cases hh
 refine w7 hK (fun h=>?_) (fun h=>?_)
 ·exact⟨⟨_,_,(aP.pack (I8 t2 n2 (⟨key,nxt,found,loaded⟩:PRS) st s) (.store t2 n2 st) 1 0 (iB t2 n2 st) [] (by kernel_rfl) rfl rfl (by kernel_rfl)),h⟩⟩
 ·exact⟨⟨_,_,((aP.pack (bK (IB t2 n2 (⟨key,nxt,found,loaded⟩:PRS) st s) 0 1 (hP t2 n2 (⟨key,nxt,found,loaded⟩:PRS)) [1]) (.store t2 n2 st) 1 0 (iB t2 n2 st) [] (by kernel_rfl) rfl rfl (by kernel_rfl)).trans (aP.pack (IB t2 n2 (⟨key,nxt,found,loaded⟩:PRS) st s) (.prepare t2 n2 (⟨key,nxt,found,loaded⟩:PRS)) 0 1 (hP t2 n2 (⟨key,nxt,found,loaded⟩:PRS)) [1] (by kernel_rfl) rfl (congrArg (Prod.mk 1) rfl) (by kernel_rfl))),h⟩⟩
theorem F3{t n:Int} :cS (obI tbl) 4 (IC t n) (PrO.fin t n):=by
 intro v g p x hp hq K hK
 unfold IC at hp
 exact C0 v g p x hp hq K hK
def F4(t n:Int)(x:PRS)(st:STS)(s:MS):Tr PrO:=.ite (!x.4) (.pre (lE' s.3∧(0:Int)≤s.4∧s.4≤(4611686018427387904:Int)) (.pre ((t=t∧n=n)∧lE' s.3∧lE' st.3) (.ret {d:=false,x:= {key:=x.1,nxt:=x.2,found:=aD s.3 st.2,loaded:=true},st:= {me:=st.1,sp:=st.2,R:=st.3},s:= {s with c:=s.4+1,k:=1,a:=st.2,o:=aD s.3 st.2,w:=aD s.3 st.2,ok:=bN s.3 st.2} }))) (.pre True (.pre ((0:Int)≤aB x.3 25 18∧aB x.3 25 (18:Int)≤(1000000:Int)) (.pre True (.pre (lE' s.3∧(0:Int)≤s.4∧s.4≤(4611686018427387904:Int)) (.pre ((t=t∧n=n)∧lE' (aT s.3 st.2 (bif bif aL x.1 10 then bif aL x.2 9 then bif aL 0 5 then aL (aM (aB x.3 25 18)) 18 else false else false else false then bJ x.1 x.2 false 0 (aM (aB x.3 25 18))else 0))∧lE' st.3) (.ret {d:=true,x:= x,st:= {me:=st.1,sp:=st.2,R:=st.3},s:= {t:=s.1,n:=s.2,xs:=aT s.3 st.2 (bif bif aL x.1 10 then bif aL x.2 9 then bif aL 0 5 then aL (aM (aB x.3 25 18)) 18 else false else false else false then bJ x.1 x.2 false 0 (aM (aB x.3 25 18))else 0),c:=s.4+1,k:=2,a:=st.2,o:=aD s.3 st.2,w:=bif bN s.3 st.2 then bif bif aL x.1 10 then bif aL x.2 9 then bif aL 0 5 then aL (aM (aB x.3 25 18)) 18 else false else false else false then bJ x.1 x.2 false 0 (aM (aB x.3 25 18))else 0 else 0,ok:=bN s.3 st.2} }))))))
theorem AS(t n:Int)(x:PRS)(st:STS)(s:MS)(K:PrO→Prop)(h:(F4 t n x st s).run K):cT' 98 [.ptr 0 0,.ptr 2 0] [some (.cells [.ptr 1 0,.int .i64 x.key,.int .i64 x.nxt,.int .u64 x.found,.bool x.loaded]),stC 4 t n st,bB 3 s,bC s,kI st] (dI 4 0 [] [(.cell 1 4,.ints (some .i64))] (IC t n) K):=by
 exact cM' (E:=EC6) (by kernel_rfl) h
def ID(t n:Int)(x:PRS)(st:STS)(s:MS):Tr PrO:=F4 t n x st s
def iV(t n:Int)(x:PRS)(st:STS)(s:MS):PrO:=(ID t n x st s).val
def F1(t n:Int)(x:PRS)(st:STS)(s:MS):Prop:=(ID t n x st s).ok
theorem w4(t n:Int)(x:PRS)(st:STS)(s:MS)(K:AVal→aA Ob→Prop)(h:(ID t n x st s).run (fun y=>(PrO.fin t n y).run K)):cT' 98 [.ptr 0 0,.ptr 2 0] (IB t n x st s) K:=by
 unfold ID at h
 exact KF (root:=0) (pos:=[]) (cs:=[(.cell 1 4,.ints (some .i64))]) (parse:=IC t n) (fin:=PrO.fin t n) F3 ((cE.unpack (.prepare t n x) 0 1 (hP t n x) [1] rfl (congrArg (Prod.mk 1) rfl) (by kernel_rfl) rfl).trans (cE.unpack (.store t n st) 1 0 (iB t n st) [] rfl rfl rfl rfl)) (AS t n x st s _ h)
noncomputable def prSA:aK Ob:=fun args h=>match args,h with
 | [.ptr 0 0,.ptr 2 0],[some (.abs (.prepare t n x) [1]),some (.abs (.store t2 n2 st) []),e3,e4]=>(match eJ 3 [e3,e4]with
   | some (l,s)=>some (.pre ((l=s.xs.length∧t2=t∧n2=n)∧F1 t n x st s) (PrO.fin t n (iV t n x st s)))
   | none=>none)
 | _,_=>none
theorem F5:sT' 98 prSA:=by
 intro args h o ho K hK
 unfold prSA at ho
 split at ho
 case h_2=>cases ho
 split at ho<;>cases ho
 rename_i hm
 obtain⟨⟨⟨hl,rfl,rfl⟩,ok⟩,hK⟩:=hK
 have hh:=bW hm hl
 cases hh
 exact w4 _ _ _ _ _ K (KH ok hK)
def PrO.finB(t n:Int)(y:PrO):Out Ob:=.ite y.d (.ret (.bool true) ([some (.cells [.ptr 1 0,.int .i64 y.x.key,.int .i64 y.x.nxt,.int .u64 y.x.found,.bool y.x.loaded]),stC 5 t n y.st,none,bB 4 y.s,bC y.s,kI y.st])) (.ret (.bool false) [some (.abs (.prepare t n y.x) [1]),stC 5 t n y.st,none,bB 4 y.s,bC y.s,kI y.st])
noncomputable def prSB:aK Ob:=fun args h=>match args,h with
 | [.ptr 0 0,.ptr 3 0],[some (.abs (.prepare t n x) [1]),e1,e2,e3,e4]=>(match pA 2 [e1,e2],eJ 4 [e3,e4]with
   | some (l2,t2,n2,st),some (l,s)=>some (.pre ((l=s.xs.length∧l2=st.R.length∧t2=t∧n2=n)∧F1 t n x st s) (PrO.finB t n (iV t n x st s)))
   | _,_=>none)
 | _,_=>none
theorem F6:sT' 98 prSB:=by
 intro args h o ho K hK
 unfold prSB at ho
 split at ho
 case h_2=>cases ho
 split at ho<;>cases ho
 rename_i hs hm
 obtain⟨⟨⟨hl,hl2,rfl,rfl⟩,ok⟩,hK⟩:=hK
 have hh:=bW hm hl
 cases hh
 have hh:=cV hs hl2
 cases hh
 exact kE (fun ι hι=>by simp [aG.ren,KD,AVal.ren,hι]) (fun ι hι=>by simp [aG.ren,hι]) (fun K hK=>w4 _ _ _ _ _ K (KH ok hK)) K hK
noncomputable def prS:aK Ob:=aK.or prSA prSB
theorem HX:sT' 98 prS:=KS F5 F6
def FY(t n:Int)(v:AVal)(g:aA Ob):Option (Prop×(PRS×STS)):=match v,g with
 | .ptr 2 0,[e1,e2,some (.cells [.ptr 0 0,.int .i64 key,.int .i64 nxt,.int .u64 found,.bool loaded])]=>(match pA 1 [e1,e2]with
   | some (l2,t2,n2,st)=>some ((t2=t∧n2=n∧l2=st.R.length),⟨(⟨key,nxt,found,loaded⟩:PRS),st⟩)
   | none=>none)
 | _,_=>none
abbrev CY(t n:Int)(y:(PRS×STS)):aA Ob:=[stC 1 t n y.2,kI y.2,some (.abs (.prepare t n y.1) [0])]
theorem CZ{t n:Int} :cS (obI tbl) 2 (FY t n) (fun y=>.ret (.ptr 2 0) (CY t n y)):=by
 intro v g p x hp hq K hK
 unfold FY at hp
 split at hp
 case h_2=>cases hp
 rename_i e1 e2 key nxt found loaded
 split at hp
 case h_2=>cases hp
 rename_i l2 t2 n2 st hs
 simp only [sI',pI']at hp
 obtain⟨rfl,rfl⟩:=hp
 obtain⟨rfl,rfl,hl2⟩:=hq
 have hh:=cV hs hl2
 cases hh
 exact⟨⟨_,_,aP.pack (CY t2 n2 ((⟨key,nxt,found,loaded⟩:PRS),st)) (.prepare t2 n2 (⟨key,nxt,found,loaded⟩:PRS)) 2 1 (hP t2 n2 (⟨key,nxt,found,loaded⟩:PRS)) [0] (by kernel_rfl) rfl (congrArg (Prod.mk 1) rfl) (by kernel_rfl),hK⟩⟩
def FZ(t n:Int)(key nx:Int)(st:STS):Tr (PRS×STS):=.pre (t=t∧n=n∧lE' st.3) (.ret ({key:=key,nxt:=nx,found:=0,loaded:=false},{me:=st.1,sp:=st.2,R:=st.3}))
def mK(t n:Int)(key nx:Int)(st:STS):(PRS×STS):=(FZ t n key nx st).val
def AR(t n:Int)(key nx:Int)(st:STS):Prop:=(FZ t n key nx st).ok
def prNS:aK Ob:=fun args h=>match args,h with
 | [.ptr 0 0,.int .i64 key,.int .i64 nx],[e1,e2]=>(match pA 1 [e1,e2]with
   | some (l2,t,n,st)=>some (.pre (l2=st.R.length∧AR t n key nx st) (.ret (.ptr 2 0) (CY t n (mK t n key nx st))))
   | none=>none)
 | _,_=>none
theorem F0:sT' 160 prNS:=by
 intro args h o ho K hK
 unfold prNS at ho
 split at ho
 case h_2=>cases ho
 rename_i key nx e1 e2
 split at ho<;>cases ho
 rename_i l2 t n st hs
 obtain⟨⟨hl2,ok⟩,hK⟩:=hK
 have hh:=cV hs hl2
 cases hh
 refine KM (root:=2) (pos:=[]) (cs:=[]) (parse:=FY t n) CZ ?_
 exact cM' (E:=EC6) (q:=(FZ t n key nx st).run (fun y=>(Out.ret (.ptr 2 0) (CY t n y)).run K)) (by kernel_rfl) (KH ok hK)
noncomputable def EC7:=((EC6.addS 98 prS HX).addS 160 prNS F0)
structure FnO where
 d:Bool
 x:FNS
 s:MS
instance:Inhabited FnO:=⟨⟨false,cO,⟨0,0,[],0,0,0,0,0,false⟩⟩⟩
instance:Inhabited FNS:=⟨cO⟩
abbrev H8(t n:Int)(x:FNS)(s:MS):aA Ob:=[some (.abs (.find t n x) []),bB 2 s,bC s]
abbrev JW(t n:Int)(x:FNS)(s:MS):aA Ob:=[some (.cells [.int .i64 t,.int .i64 n,.int .i64 x.pred,.int .u64 x.pw,.int .i64 x.curr,.int .u64 x.cw,.int .i64 x.tries,.slice 3 0 x.ul.length 1,.bool x.ab,.int .i64 x.me,.int .i64 x.frm,.int .i64 x.key,.int .i64 x.limit,.int .i64 x.at',.int .i64 x.moved,.O]),bB 2 s,bC s,some (.ints (some .i64) x.ul)]
def FnO.fin(t n:Int)(y:FnO):Out Ob:=.ite y.d (.ret (.bool true) (JW t n y.x y.s)) (.ret (.bool false) (H8 t n y.x y.s))
def FF(t n:Int)(v:AVal)(g:aA Ob):Option (Prop×FnO):=match v,g with
 | .bool d,[some (.cells [.int .i64 t1,.int .i64 n1,.int .i64 pred,.int .u64 pw,.int .i64 curr,.int .u64 cw,.int .i64 tries,.slice 3 0 ul_l 1,.bool ab,.int .i64 me,.int .i64 frm,.int .i64 key,.int .i64 limit,.int .i64 at',.int .i64 moved,.O]),e1,e2,some (.ints (some .i64) ul)]=>(match eJ 2 [e1,e2]with
   | some (l,s)=>some ((t1=t∧n1=n)∧ul_l=ul.length∧(d=false→at'≠4)∧l=s.xs.length,⟨d,⟨pred,pw,curr,cw,tries,ul,ab,me,frm,key,limit,at',moved,⟨0,0,0,0⟩⟩,s⟩)
   | none=>none)
 | _,_=>none
def FG(t n:Int)(v:AVal)(g:aA Ob):Option (Prop×FnO):=match v,g with
 | .bool d,[some (.cells [.int .i64 t1,.int .i64 n1,.int .i64 pred,.int .u64 pw,.int .i64 curr,.int .u64 cw,.int .i64 tries,.slice 3 0 ul_l 1,.bool ab,.int .i64 me,.int .i64 frm,.int .i64 key,.int .i64 limit,.int .i64 at',.int .i64 moved,.ptr 4 0]),e1,e2,some (.ints (some .i64) ul),some (.abs (.clear t' n' sub) [])]=>(match eJ 2 [e1,e2]with
   | some (l,s)=>some ((t1=t∧n1=n)∧ul_l=ul.length∧t'=t∧n'=n∧(d=false→at'=4)∧l=s.xs.length,⟨d,⟨pred,pw,curr,cw,tries,ul,ab,me,frm,key,limit,at',moved,sub⟩,s⟩)
   | none=>none)
 | _,_=>none
def tX(t n:Int)(v:AVal)(g:aA Ob):Option (Prop×FnO):=(match FF t n v g with
 | some r=>some r
 | none=>FG t n v g)
theorem B8{t n:Int} :cS (obI tbl) 3 (FF t n) (FnO.fin t n):=by
 intro v g p x hp hq K hK
 unfold FF at hp
 split at hp
 case h_2=>cases hp
 rename_i d t1 n1 pred pw curr cw tries ul_l ab me frm key limit at' moved e1 e2 ul
 split at hp
 case h_2=>cases hp
 rename_i l s hm
 simp only [sI',pI']at hp
 obtain⟨rfl,rfl⟩:=hp
 obtain⟨⟨rfl,rfl⟩,rfl,hat,hl⟩:=hq
 have hh:=bW hm hl
 cases hh
 refine qH hK (fun h=>?_) (fun hd h=>?_)
 ·exact⟨⟨_,_,KX _ _ _,h⟩⟩
 ·exact⟨⟨_,_,(aP.pack (H8 t1 n1 (⟨pred,pw,curr,cw,tries,ul,ab,me,frm,key,limit,at',moved,⟨0,0,0,0⟩⟩:FNS) s) (.find t1 n1 (⟨pred,pw,curr,cw,tries,ul,ab,me,frm,key,limit,at',moved,⟨0,0,0,0⟩⟩:FNS)) 0 0 (gT t1 n1 (⟨pred,pw,curr,cw,tries,ul,ab,me,frm,key,limit,at',moved,⟨0,0,0,0⟩⟩:FNS)) [] (by kernel_rfl) rfl (congrArg (Prod.mk 0) (fB (hat hd))) (by kernel_rfl)),h⟩⟩
theorem B9{t n:Int} :cS (obI tbl) 3 (FG t n) (FnO.fin t n):=by
 intro v g p x hp hq K hK
 unfold FG at hp
 split at hp
 case h_2=>cases hp
 rename_i d t1 n1 pred pw curr cw tries ul_l ab me frm key limit at' moved e1 e2 ul t' n' sub
 split at hp
 case h_2=>cases hp
 rename_i l s hm
 simp only [sI',pI']at hp
 obtain⟨rfl,rfl⟩:=hp
 obtain⟨⟨rfl,rfl⟩,rfl,rfl,rfl,hat,hl⟩:=hq
 have hh:=bW hm hl
 cases hh
 refine qH hK (fun h=>?_) (fun hd h=>?_)
 ·exact⟨⟨_,_,(aP.weak (cK _ 0 [15])).trans ((aP.pick (upto 0 4) rfl).trans (KN (by kernel_rfl) (by kernel_rfl))),h⟩⟩
 ·exact⟨⟨_,_,(aP.pack (H8 t' n' (⟨pred,pw,curr,cw,tries,ul,ab,me,frm,key,limit,at',moved,sub⟩:FNS) s) (.find t' n' (⟨pred,pw,curr,cw,tries,ul,ab,me,frm,key,limit,at',moved,sub⟩:FNS)) 0 0 (lO t' n' (⟨pred,pw,curr,cw,tries,ul,ab,me,frm,key,limit,at',moved,sub⟩:FNS)) [] (by kernel_rfl) rfl (congrArg (Prod.mk 0) (wJ (hat hd))) (by kernel_rfl)),h⟩⟩
theorem kZ{t n:Int} :cS (obI tbl) 3 (tX t n) (FnO.fin t n):=by
 intro v g p x hp hq K hK
 unfold tX at hp
 split at hp
 ·rename_i r hr
  cases hp
  exact B8 v g p x hr hq K hK
 exact B9 v g p x hp hq K hK
def p0(t n:Int)(x:FNS)(s:MS):Tr FnO:=.pre (lE' s.3∧(0:Int)≤s.4∧s.4≤(4611686018427387904:Int)) (.pre True (.ite (ieq (aB (aD s.3 x.1) 19 1) 1) (.ite (cD x.11 (W (x.5+1))) (.ite (cD x.11 (W (x.5+1))) (.pre ((t=t∧n=n)∧lE' x.6∧(true=false→(0:Int)≠(4:Int))∧lE' s.3) (.ret {d:=true,x:= {x with pred:=0,pw:=0,curr:=0,cw:=0,tries:=W (x.5+1),ab:=cD x.11 (W (x.5+1)),at':=0,cl:=bT},s:= {s with c:=s.4+1,k:=1,a:=x.1,o:=aD s.3 x.1,w:=aD s.3 x.1,ok:=bN s.3 x.1} })) (.pre True (.ite (ieq (aB (aD s.3 x.1) 19 1) 1) (.pre ((t=t∧n=n)∧lE' x.6∧(false=false→(0:Int)≠(4:Int))∧lE' s.3) (.ret {d:=false,x:= {x with pred:=x.9,pw:=0,curr:=0,cw:=0,tries:=W (x.5+1),ab:=cD x.11 (W (x.5+1)),at':=0,moved:=0,cl:=bT},s:= {s with c:=s.4+1,k:=1,a:=x.1,o:=aD s.3 x.1,w:=aD s.3 x.1,ok:=bN s.3 x.1} })) (.pre ((t=t∧n=n)∧lE' x.6∧(ieq (aB (aD s.3 x.1) 10 9) (0:Int)=false→(1:Int)≠(4:Int))∧lE' s.3) (.ret {d:=ieq (aB (aD s.3 x.1) 10 9) 0,x:= {x with pred:=0,pw:=aD s.3 x.1,curr:=aB (aD s.3 x.1) 10 9,cw:=0,tries:=W (x.5+1),ab:=cD x.11 (W (x.5+1)),at':=1,cl:=bT},s:= {s with c:=s.4+1,k:=1,a:=x.1,o:=aD s.3 x.1,w:=aD s.3 x.1,ok:=bN s.3 x.1} }))))) (.ite (cD x.11 (W (x.5+1))) (.pre ((t=t∧n=n)∧lE' x.6∧(true=false→(0:Int)≠(4:Int))∧lE' s.3) (.ret {d:=true,x:= {x with tries:=W (x.5+1),ab:=cD x.11 (W (x.5+1)),at':=0,cl:=bT},s:= {s with c:=s.4+1,k:=1,a:=x.1,o:=aD s.3 x.1,w:=aD s.3 x.1,ok:=bN s.3 x.1} })) (.pre True (.ite (ieq (aB (aD s.3 x.1) 19 1) 1) (.pre ((t=t∧n=n)∧lE' x.6∧(false=false→(0:Int)≠(4:Int))∧lE' s.3) (.ret {d:=false,x:= {x with pred:=x.9,tries:=W (x.5+1),ab:=cD x.11 (W (x.5+1)),at':=0,moved:=0,cl:=bT},s:= {s with c:=s.4+1,k:=1,a:=x.1,o:=aD s.3 x.1,w:=aD s.3 x.1,ok:=bN s.3 x.1} })) (.pre ((t=t∧n=n)∧lE' x.6∧(ieq (aB (aD s.3 x.1) 10 9) (0:Int)=false→(1:Int)≠(4:Int))∧lE' s.3) (.ret {d:=ieq (aB (aD s.3 x.1) 10 9) 0,x:= {x with pw:=aD s.3 x.1,curr:=aB (aD s.3 x.1) 10 9,cw:=0,tries:=W (x.5+1),ab:=cD x.11 (W (x.5+1)),at':=1,cl:=bT},s:= {s with c:=s.4+1,k:=1,a:=x.1,o:=aD s.3 x.1,w:=aD s.3 x.1,ok:=bN s.3 x.1} })))))) (.pre True (.ite (ieq (aB (aD s.3 x.1) 19 1) 1) (.pre ((t=t∧n=n)∧lE' x.6∧(false=false→(0:Int)≠(4:Int))∧lE' s.3) (.ret {d:=false,x:= {x with pred:=x.9,at':=0,moved:=0,cl:=bT},s:= {s with c:=s.4+1,k:=1,a:=x.1,o:=aD s.3 x.1,w:=aD s.3 x.1,ok:=bN s.3 x.1} })) (.pre ((t=t∧n=n)∧lE' x.6∧(ieq (aB (aD s.3 x.1) 10 9) (0:Int)=false→(1:Int)≠(4:Int))∧lE' s.3) (.ret {d:=ieq (aB (aD s.3 x.1) 10 9) 0,x:= {x with pw:=aD s.3 x.1,curr:=aB (aD s.3 x.1) 10 9,cw:=0,at':=1,cl:=bT},s:= {s with c:=s.4+1,k:=1,a:=x.1,o:=aD s.3 x.1,w:=aD s.3 x.1,ok:=bN s.3 x.1} }))))))
theorem xS(t n:Int)(x:FNS)(s:MS)(K:FnO→Prop)(h:(p0 t n x s).run K):cT' 94 [.ptr 0 0,.ptr 1 0] [some (.cells [.int .i64 t,.int .i64 n,.int .i64 x.pred,.int .u64 x.pw,.int .i64 x.curr,.int .u64 x.cw,.int .i64 x.tries,.slice 3 0 x.ul.length 1,.bool x.ab,.int .i64 x.me,.int .i64 x.frm,.int .i64 x.key,.int .i64 x.limit,.int .i64 0,.int .i64 x.moved,.O]),bB 2 s,bC s,some (.ints (some .i64) x.ul)] (dI 3 0 [15] [(.cell 0 7,.ints (some .i64))] (tX t n) K):=by
 exact cM' (E:=EC7) (by kernel_rfl) h
def wK(t n:Int)(x:FNS)(s:MS):Tr FnO:=.pre ((((0:Int)≤t∧t≤(100000:Int))∧((0:Int)≤n∧n≤(100000:Int))∧((-1099511627776:Int)≤x.8∧x.8≤(1099511627776:Int))∧(-1099511627776:Int)≤(1:Int)∧(1:Int)≤(1099511627776:Int))∧True) (.pre ((lE' s.3∧(0:Int)≤s.4∧s.4≤(4611686018427387904:Int))∧True) (.pre ((t=t∧n=n)∧lE' x.6∧(false=false→(2:Int)≠(4:Int))∧lE' (aT s.3 (2*n+5+2*x.8+1) (WU x.3))) (.ret {d:=false,x:= {x with at':=2,cl:=bT},s:= {t:=s.1,n:=s.2,xs:=aT s.3 (2*n+5+2*x.8+1) (WU x.3),c:=s.4+1,k:=2,a:=2*n+5+2*x.8+1,o:=aD s.3 (2*n+5+2*x.8+1),w:=bif bN s.3 (2*n+5+2*x.8+1)then WU x.3 else 0,ok:=bN s.3 (2*n+5+2*x.8+1) } })))
theorem xT(t n:Int)(x:FNS)(s:MS)(K:FnO→Prop)(h:(wK t n x s).run K):cT' 94 [.ptr 0 0,.ptr 1 0] [some (.cells [.int .i64 t,.int .i64 n,.int .i64 x.pred,.int .u64 x.pw,.int .i64 x.curr,.int .u64 x.cw,.int .i64 x.tries,.slice 3 0 x.ul.length 1,.bool x.ab,.int .i64 x.me,.int .i64 x.frm,.int .i64 x.key,.int .i64 x.limit,.int .i64 1,.int .i64 x.moved,.O]),bB 2 s,bC s,some (.ints (some .i64) x.ul)] (dI 3 0 [15] [(.cell 0 7,.ints (some .i64))] (tX t n) K):=by
 exact cM' (E:=EC7) (by kernel_rfl) h
def wL(t n:Int)(x:FNS)(s:MS):Tr FnO:=.pre (lE' s.3∧(0:Int)≤s.4∧s.4≤(4611686018427387904:Int)) (.ite (!ieq (aD s.3 x.1) x.2) (.ite (cD x.11 (W (x.5+1))) (.ite (cD x.11 (W (x.5+1))) (.pre ((t=t∧n=n)∧lE' x.6∧(true=false→(2:Int)≠(4:Int))∧lE' s.3) (.ret {d:=true,x:= {x with pred:=0,pw:=0,curr:=0,cw:=0,tries:=W (x.5+1),ab:=cD x.11 (W (x.5+1)),at':=2,cl:=bT},s:= {s with c:=s.4+1,k:=1,a:=x.1,o:=aD s.3 x.1,w:=aD s.3 x.1,ok:=bN s.3 x.1} })) (.pre True (.ite (ieq (aB (aD s.3 x.1) 19 1) 1) (.pre ((t=t∧n=n)∧lE' x.6∧(false=false→(0:Int)≠(4:Int))∧lE' s.3) (.ret {d:=false,x:= {x with pred:=x.9,pw:=0,curr:=0,cw:=0,tries:=W (x.5+1),ab:=cD x.11 (W (x.5+1)),at':=0,moved:=0,cl:=bT},s:= {s with c:=s.4+1,k:=1,a:=x.1,o:=aD s.3 x.1,w:=aD s.3 x.1,ok:=bN s.3 x.1} })) (.pre ((t=t∧n=n)∧lE' x.6∧(ieq (aB (aD s.3 x.1) 10 9) (0:Int)=false→(1:Int)≠(4:Int))∧lE' s.3) (.ret {d:=ieq (aB (aD s.3 x.1) 10 9) 0,x:= {x with pred:=0,pw:=aD s.3 x.1,curr:=aB (aD s.3 x.1) 10 9,cw:=0,tries:=W (x.5+1),ab:=cD x.11 (W (x.5+1)),at':=1,cl:=bT},s:= {s with c:=s.4+1,k:=1,a:=x.1,o:=aD s.3 x.1,w:=aD s.3 x.1,ok:=bN s.3 x.1} }))))) (.ite (cD x.11 (W (x.5+1))) (.pre ((t=t∧n=n)∧lE' x.6∧(true=false→(2:Int)≠(4:Int))∧lE' s.3) (.ret {d:=true,x:= {x with tries:=W (x.5+1),ab:=cD x.11 (W (x.5+1)),at':=2,cl:=bT},s:= {s with c:=s.4+1,k:=1,a:=x.1,o:=aD s.3 x.1,w:=aD s.3 x.1,ok:=bN s.3 x.1} })) (.pre True (.ite (ieq (aB (aD s.3 x.1) 19 1) 1) (.pre ((t=t∧n=n)∧lE' x.6∧(false=false→(0:Int)≠(4:Int))∧lE' s.3) (.ret {d:=false,x:= {x with pred:=x.9,tries:=W (x.5+1),ab:=cD x.11 (W (x.5+1)),at':=0,moved:=0,cl:=bT},s:= {s with c:=s.4+1,k:=1,a:=x.1,o:=aD s.3 x.1,w:=aD s.3 x.1,ok:=bN s.3 x.1} })) (.pre ((t=t∧n=n)∧lE' x.6∧(ieq (aB (aD s.3 x.1) 10 9) (0:Int)=false→(1:Int)≠(4:Int))∧lE' s.3) (.ret {d:=ieq (aB (aD s.3 x.1) 10 9) 0,x:= {x with pw:=aD s.3 x.1,curr:=aB (aD s.3 x.1) 10 9,cw:=0,tries:=W (x.5+1),ab:=cD x.11 (W (x.5+1)),at':=1,cl:=bT},s:= {s with c:=s.4+1,k:=1,a:=x.1,o:=aD s.3 x.1,w:=aD s.3 x.1,ok:=bN s.3 x.1} })))))) (.pre ((t=t∧n=n)∧lE' x.6∧(false=false→(3:Int)≠(4:Int))∧lE' s.3) (.ret {d:=false,x:= {x with at':=3,cl:=bT},s:= {s with c:=s.4+1,k:=1,a:=x.1,o:=aD s.3 x.1,w:=aD s.3 x.1,ok:=bN s.3 x.1} })))
theorem xU(t n:Int)(x:FNS)(s:MS)(K:FnO→Prop)(h:(wL t n x s).run K):cT' 94 [.ptr 0 0,.ptr 1 0] [some (.cells [.int .i64 t,.int .i64 n,.int .i64 x.pred,.int .u64 x.pw,.int .i64 x.curr,.int .u64 x.cw,.int .i64 x.tries,.slice 3 0 x.ul.length 1,.bool x.ab,.int .i64 x.me,.int .i64 x.frm,.int .i64 x.key,.int .i64 x.limit,.int .i64 2,.int .i64 x.moved,.O]),bB 2 s,bC s,some (.ints (some .i64) x.ul)] (dI 3 0 [15] [(.cell 0 7,.ints (some .i64))] (tX t n) K):=by
 exact cM' (E:=EC7) (by kernel_rfl) h
def wM(t n:Int)(x:FNS)(s:MS):Tr FnO:=.pre (lE' s.3∧(0:Int)≤s.4∧s.4≤(4611686018427387904:Int)) (.pre True (.ite (!ieq (aB (aD s.3 x.3) 19 1) 1) (.ite (ile x.10 (aB (aD s.3 x.3) 0 10)) (.pre ((t=t∧n=n)∧lE' x.6∧(true=false→(3:Int)≠(4:Int))∧lE' s.3) (.ret {d:=true,x:= {x with cw:=aD s.3 x.3,at':=3,cl:=bT},s:= {s with c:=s.4+1,k:=1,a:=x.3,o:=aD s.3 x.3,w:=aD s.3 x.3,ok:=bN s.3 x.3} })) (.ite (!ieq (aB (aD s.3 x.3) 19 1) 1) (.pre ((t=t∧n=n)∧lE' x.6∧(false=false→(6:Int)≠(4:Int))∧lE' s.3) (.ret {d:=false,x:= {x with cw:=aD s.3 x.3,at':=6,cl:=bT},s:= {s with c:=s.4+1,k:=1,a:=x.3,o:=aD s.3 x.3,w:=aD s.3 x.3,ok:=bN s.3 x.3} })) (.ite (!ieq (aB (aD s.3 x.3) 20 5) 0) (.pre (oA t n x.3∧True) (.pre ((t=t∧n=n)∧lE' x.6∧t=t∧n=n∧(false=false→(4:Int)=(4:Int))∧lE' s.3) (.ret {d:=false,x:= {x with cw:=aD s.3 x.3,at':=4,cl:=uQ t n x.3},s:= {s with c:=s.4+1,k:=1,a:=x.3,o:=aD s.3 x.3,w:=aD s.3 x.3,ok:=bN s.3 x.3} }))) (.pre True (.ite (!ieq (aB x.2 20 5) 0) (.pre (oA t n x.1∧True) (.pre ((t=t∧n=n)∧lE' x.6∧t=t∧n=n∧(false=false→(4:Int)=(4:Int))∧lE' s.3) (.ret {d:=false,x:= {x with cw:=aD s.3 x.3,at':=4,cl:=uQ t n x.1},s:= {s with c:=s.4+1,k:=1,a:=x.3,o:=aD s.3 x.3,w:=aD s.3 x.3,ok:=bN s.3 x.3} }))) (.pre ((t=t∧n=n)∧lE' x.6∧(false=false→(5:Int)≠(4:Int))∧lE' s.3) (.ret {d:=false,x:= {x with cw:=aD s.3 x.3,at':=5,cl:=bT},s:= {s with c:=s.4+1,k:=1,a:=x.3,o:=aD s.3 x.3,w:=aD s.3 x.3,ok:=bN s.3 x.3} }))))))) (.ite (!ieq (aB (aD s.3 x.3) 19 1) 1) (.pre ((t=t∧n=n)∧lE' x.6∧(false=false→(6:Int)≠(4:Int))∧lE' s.3) (.ret {d:=false,x:= {x with cw:=aD s.3 x.3,at':=6,cl:=bT},s:= {s with c:=s.4+1,k:=1,a:=x.3,o:=aD s.3 x.3,w:=aD s.3 x.3,ok:=bN s.3 x.3} })) (.ite (!ieq (aB (aD s.3 x.3) 20 5) 0) (.pre (oA t n x.3∧True) (.pre ((t=t∧n=n)∧lE' x.6∧t=t∧n=n∧(false=false→(4:Int)=(4:Int))∧lE' s.3) (.ret {d:=false,x:= {x with cw:=aD s.3 x.3,at':=4,cl:=uQ t n x.3},s:= {s with c:=s.4+1,k:=1,a:=x.3,o:=aD s.3 x.3,w:=aD s.3 x.3,ok:=bN s.3 x.3} }))) (.pre True (.ite (!ieq (aB x.2 20 5) 0) (.pre (oA t n x.1∧True) (.pre ((t=t∧n=n)∧lE' x.6∧t=t∧n=n∧(false=false→(4:Int)=(4:Int))∧lE' s.3) (.ret {d:=false,x:= {x with cw:=aD s.3 x.3,at':=4,cl:=uQ t n x.1},s:= {s with c:=s.4+1,k:=1,a:=x.3,o:=aD s.3 x.3,w:=aD s.3 x.3,ok:=bN s.3 x.3} }))) (.pre ((t=t∧n=n)∧lE' x.6∧(false=false→(5:Int)≠(4:Int))∧lE' s.3) (.ret {d:=false,x:= {x with cw:=aD s.3 x.3,at':=5,cl:=bT},s:= {s with c:=s.4+1,k:=1,a:=x.3,o:=aD s.3 x.3,w:=aD s.3 x.3,ok:=bN s.3 x.3} }))))))))
theorem xV(t n:Int)(x:FNS)(s:MS)(K:FnO→Prop)(h:(wM t n x s).run K):cT' 94 [.ptr 0 0,.ptr 1 0] [some (.cells [.int .i64 t,.int .i64 n,.int .i64 x.pred,.int .u64 x.pw,.int .i64 x.curr,.int .u64 x.cw,.int .i64 x.tries,.slice 3 0 x.ul.length 1,.bool x.ab,.int .i64 x.me,.int .i64 x.frm,.int .i64 x.key,.int .i64 x.limit,.int .i64 3,.int .i64 x.moved,.O]),bB 2 s,bC s,some (.ints (some .i64) x.ul)] (dI 3 0 [15] [(.cell 0 7,.ints (some .i64))] (tX t n) K):=by
 exact cM' (E:=EC7) (by kernel_rfl) h
def wN(t n:Int)(x:FNS)(s:MS):Tr FnO:=.pre (lE' s.3∧EB t n x.14 s) (.ite (dJ t n x.14 s).1 (.ite (cD x.11 (W (x.5+1))) (.pre ((t=t∧n=n)∧lE' x.6∧(cD x.11 (W (x.5+1))=false→(0:Int)≠(4:Int))∧lE' (ClO.s (dJ t n x.14 s)).3) (.ret {d:=cD x.11 (W (x.5+1)),x:= {x with pred:=0,pw:=0,curr:=0,cw:=0,tries:=W (x.5+1),ab:=cD x.11 (W (x.5+1)),at':=0,cl:=bT},s:= {t:=(ClO.s (dJ t n x.14 s)).1,n:=(ClO.s (dJ t n x.14 s)).2,xs:=(ClO.s (dJ t n x.14 s)).3,c:=(ClO.s (dJ t n x.14 s)).4,k:=(ClO.s (dJ t n x.14 s)).5,a:=(ClO.s (dJ t n x.14 s)).6,o:=(ClO.s (dJ t n x.14 s)).7,w:=(ClO.s (dJ t n x.14 s)).8,ok:=(ClO.s (dJ t n x.14 s)).9} })) (.pre ((t=t∧n=n)∧lE' x.6∧(cD x.11 (W (x.5+1))=false→(0:Int)≠(4:Int))∧lE' (ClO.s (dJ t n x.14 s)).3) (.ret {d:=cD x.11 (W (x.5+1)),x:= {x with tries:=W (x.5+1),ab:=cD x.11 (W (x.5+1)),at':=0,cl:=bT},s:= {t:=(ClO.s (dJ t n x.14 s)).1,n:=(ClO.s (dJ t n x.14 s)).2,xs:=(ClO.s (dJ t n x.14 s)).3,c:=(ClO.s (dJ t n x.14 s)).4,k:=(ClO.s (dJ t n x.14 s)).5,a:=(ClO.s (dJ t n x.14 s)).6,o:=(ClO.s (dJ t n x.14 s)).7,w:=(ClO.s (dJ t n x.14 s)).8,ok:=(ClO.s (dJ t n x.14 s)).9} }))) (.pre ((t=t∧n=n)∧lE' x.6∧t=t∧n=n∧(false=false→(4:Int)=(4:Int))∧lE' (ClO.s (dJ t n x.14 s)).3) (.ret {d:=false,x:= {x with at':=4,cl:=(dJ t n x.14 s).2},s:= {t:=(ClO.s (dJ t n x.14 s)).1,n:=(ClO.s (dJ t n x.14 s)).2,xs:=(ClO.s (dJ t n x.14 s)).3,c:=(ClO.s (dJ t n x.14 s)).4,k:=(ClO.s (dJ t n x.14 s)).5,a:=(ClO.s (dJ t n x.14 s)).6,o:=(ClO.s (dJ t n x.14 s)).7,w:=(ClO.s (dJ t n x.14 s)).8,ok:=(ClO.s (dJ t n x.14 s)).9} })))
theorem xW(t n:Int)(x:FNS)(s:MS)(K:FnO→Prop)(h:(wN t n x s).run K):cT' 94 [.ptr 0 0,.ptr 1 0] [some (.cells [.int .i64 t,.int .i64 n,.int .i64 x.pred,.int .u64 x.pw,.int .i64 x.curr,.int .u64 x.cw,.int .i64 x.tries,.slice 3 0 x.ul.length 1,.bool x.ab,.int .i64 x.me,.int .i64 x.frm,.int .i64 x.key,.int .i64 x.limit,.int .i64 4,.int .i64 x.moved,.ptr 4 0]),bB 2 s,bC s,some (.ints (some .i64) x.ul),some (.abs (.clear t n x.cl) [])] (dI 3 0 [15] [(.cell 0 7,.ints (some .i64))] (tX t n) K):=by
 exact cM' (E:=EC7) (by kernel_rfl) h
def wO(t n:Int)(x:FNS)(s:MS):Tr FnO:=.pre True (.pre True (.pre ((0:Int)≤aB x.2 25 18∧aB x.2 25 (18:Int)≤(1000000:Int)) (.pre True (.pre ((lE' s.3∧(0:Int)≤s.4∧s.4≤(4611686018427387904:Int))∧True) (.ite (!aY s.3 x.1 x.2) (.ite (cD x.11 (W (x.5+1))) (.pre ((t=t∧n=n)∧lE' x.6∧(cD x.11 (W (x.5+1))=false→(0:Int)≠(4:Int))∧lE' (bif aY s.3 x.1 x.2 then aT s.3 x.1 (bif bif aL (aB x.2 0 10) 10 then bif aL (aB x.4 10 9) 9 then bif aL (aB x.2 20 5) 5 then aL (aM (aB x.2 25 18)) 18 else false else false else false then bJ (aB x.2 0 10) (aB x.4 10 9) (ieq (aB x.2 19 1) 1) (aB x.2 20 5) (aM (aB x.2 25 18))else 0)else s.3)) (.ret {d:=cD x.11 (W (x.5+1)),x:= {x with pred:=0,pw:=0,curr:=0,cw:=0,tries:=W (x.5+1),ab:=cD x.11 (W (x.5+1)),at':=0,cl:=bT},s:= {t:=s.1,n:=s.2,xs:=bif aY s.3 x.1 x.2 then aT s.3 x.1 (bif bif aL (aB x.2 0 10) 10 then bif aL (aB x.4 10 9) 9 then bif aL (aB x.2 20 5) 5 then aL (aM (aB x.2 25 18)) 18 else false else false else false then bJ (aB x.2 0 10) (aB x.4 10 9) (ieq (aB x.2 19 1) 1) (aB x.2 20 5) (aM (aB x.2 25 18))else 0)else s.3,c:=s.4+1,k:=3,a:=x.1,o:=aD s.3 x.1,w:=bif bN s.3 x.1 then bif bif aL (aB x.2 0 10) 10 then bif aL (aB x.4 10 9) 9 then bif aL (aB x.2 20 5) 5 then aL (aM (aB x.2 25 18)) 18 else false else false else false then bJ (aB x.2 0 10) (aB x.4 10 9) (ieq (aB x.2 19 1) 1) (aB x.2 20 5) (aM (aB x.2 25 18))else 0 else 0,ok:=aY s.3 x.1 x.2} })) (.pre ((t=t∧n=n)∧lE' x.6∧(cD x.11 (W (x.5+1))=false→(0:Int)≠(4:Int))∧lE' (bif aY s.3 x.1 x.2 then aT s.3 x.1 (bif bif aL (aB x.2 0 10) 10 then bif aL (aB x.4 10 9) 9 then bif aL (aB x.2 20 5) 5 then aL (aM (aB x.2 25 18)) 18 else false else false else false then bJ (aB x.2 0 10) (aB x.4 10 9) (ieq (aB x.2 19 1) 1) (aB x.2 20 5) (aM (aB x.2 25 18))else 0)else s.3)) (.ret {d:=cD x.11 (W (x.5+1)),x:= {x with tries:=W (x.5+1),ab:=cD x.11 (W (x.5+1)),at':=0,cl:=bT},s:= {t:=s.1,n:=s.2,xs:=bif aY s.3 x.1 x.2 then aT s.3 x.1 (bif bif aL (aB x.2 0 10) 10 then bif aL (aB x.4 10 9) 9 then bif aL (aB x.2 20 5) 5 then aL (aM (aB x.2 25 18)) 18 else false else false else false then bJ (aB x.2 0 10) (aB x.4 10 9) (ieq (aB x.2 19 1) 1) (aB x.2 20 5) (aM (aB x.2 25 18))else 0)else s.3,c:=s.4+1,k:=3,a:=x.1,o:=aD s.3 x.1,w:=bif bN s.3 x.1 then bif bif aL (aB x.2 0 10) 10 then bif aL (aB x.4 10 9) 9 then bif aL (aB x.2 20 5) 5 then aL (aM (aB x.2 25 18)) 18 else false else false else false then bJ (aB x.2 0 10) (aB x.4 10 9) (ieq (aB x.2 19 1) 1) (aB x.2 20 5) (aM (aB x.2 25 18))else 0 else 0,ok:=aY s.3 x.1 x.2} }))) (.pre (0=0∧lE' x.6∧1=1∧List.length x.6+(1:Nat)≤(4294967296:Nat)) (.ite (ile (W (x.13+1)) n) (.pre True (.ite (ieq (aB (bif bif aL (aB x.2 0 10) 10 then bif aL (aB x.4 10 9) 9 then bif aL (aB x.2 20 5) 5 then aL (aM (aB x.2 25 18)) 18 else false else false else false then bJ (aB x.2 0 10) (aB x.4 10 9) (ieq (aB x.2 19 1) 1) (aB x.2 20 5) (aM (aB x.2 25 18))else 0) 19 1) 1) (.pre ((t=t∧n=n)∧List.length x.6+(1:Nat)=List.length (x.6++ [x.3])∧(false=false→(0:Int)≠(4:Int))∧lE' (bif aY s.3 x.1 x.2 then aT s.3 x.1 (bif bif aL (aB x.2 0 10) 10 then bif aL (aB x.4 10 9) 9 then bif aL (aB x.2 20 5) 5 then aL (aM (aB x.2 25 18)) 18 else false else false else false then bJ (aB x.2 0 10) (aB x.4 10 9) (ieq (aB x.2 19 1) 1) (aB x.2 20 5) (aM (aB x.2 25 18))else 0)else s.3)) (.ret {d:=false,x:= {x with pred:=x.9,ul:=x.6++ [x.3],at':=0,moved:=0,cl:=bT},s:= {t:=s.1,n:=s.2,xs:=bif aY s.3 x.1 x.2 then aT s.3 x.1 (bif bif aL (aB x.2 0 10) 10 then bif aL (aB x.4 10 9) 9 then bif aL (aB x.2 20 5) 5 then aL (aM (aB x.2 25 18)) 18 else false else false else false then bJ (aB x.2 0 10) (aB x.4 10 9) (ieq (aB x.2 19 1) 1) (aB x.2 20 5) (aM (aB x.2 25 18))else 0)else s.3,c:=s.4+1,k:=3,a:=x.1,o:=aD s.3 x.1,w:=bif bN s.3 x.1 then bif bif aL (aB x.2 0 10) 10 then bif aL (aB x.4 10 9) 9 then bif aL (aB x.2 20 5) 5 then aL (aM (aB x.2 25 18)) 18 else false else false else false then bJ (aB x.2 0 10) (aB x.4 10 9) (ieq (aB x.2 19 1) 1) (aB x.2 20 5) (aM (aB x.2 25 18))else 0 else 0,ok:=aY s.3 x.1 x.2} })) (.pre ((t=t∧n=n)∧List.length x.6+(1:Nat)=List.length (x.6++ [x.3])∧(ieq (aB (bif bif aL (aB x.2 0 10) 10 then bif aL (aB x.4 10 9) 9 then bif aL (aB x.2 20 5) 5 then aL (aM (aB x.2 25 18)) 18 else false else false else false then bJ (aB x.2 0 10) (aB x.4 10 9) (ieq (aB x.2 19 1) 1) (aB x.2 20 5) (aM (aB x.2 25 18))else 0) 10 9) (0:Int)=false→(1:Int)≠(4:Int))∧lE' (bif aY s.3 x.1 x.2 then aT s.3 x.1 (bif bif aL (aB x.2 0 10) 10 then bif aL (aB x.4 10 9) 9 then bif aL (aB x.2 20 5) 5 then aL (aM (aB x.2 25 18)) 18 else false else false else false then bJ (aB x.2 0 10) (aB x.4 10 9) (ieq (aB x.2 19 1) 1) (aB x.2 20 5) (aM (aB x.2 25 18))else 0)else s.3)) (.ret {d:=ieq (aB (bif bif aL (aB x.2 0 10) 10 then bif aL (aB x.4 10 9) 9 then bif aL (aB x.2 20 5) 5 then aL (aM (aB x.2 25 18)) 18 else false else false else false then bJ (aB x.2 0 10) (aB x.4 10 9) (ieq (aB x.2 19 1) 1) (aB x.2 20 5) (aM (aB x.2 25 18))else 0) 10 9) 0,x:= {x with pw:=bif bif aL (aB x.2 0 10) 10 then bif aL (aB x.4 10 9) 9 then bif aL (aB x.2 20 5) 5 then aL (aM (aB x.2 25 18)) 18 else false else false else false then bJ (aB x.2 0 10) (aB x.4 10 9) (ieq (aB x.2 19 1) 1) (aB x.2 20 5) (aM (aB x.2 25 18))else 0,curr:=aB (bif bif aL (aB x.2 0 10) 10 then bif aL (aB x.4 10 9) 9 then bif aL (aB x.2 20 5) 5 then aL (aM (aB x.2 25 18)) 18 else false else false else false then bJ (aB x.2 0 10) (aB x.4 10 9) (ieq (aB x.2 19 1) 1) (aB x.2 20 5) (aM (aB x.2 25 18))else 0) 10 9,cw:=0,ul:=x.6++ [x.3],at':=1,moved:=W (x.13+1),cl:=bT},s:= {t:=s.1,n:=s.2,xs:=bif aY s.3 x.1 x.2 then aT s.3 x.1 (bif bif aL (aB x.2 0 10) 10 then bif aL (aB x.4 10 9) 9 then bif aL (aB x.2 20 5) 5 then aL (aM (aB x.2 25 18)) 18 else false else false else false then bJ (aB x.2 0 10) (aB x.4 10 9) (ieq (aB x.2 19 1) 1) (aB x.2 20 5) (aM (aB x.2 25 18))else 0)else s.3,c:=s.4+1,k:=3,a:=x.1,o:=aD s.3 x.1,w:=bif bN s.3 x.1 then bif bif aL (aB x.2 0 10) 10 then bif aL (aB x.4 10 9) 9 then bif aL (aB x.2 20 5) 5 then aL (aM (aB x.2 25 18)) 18 else false else false else false then bJ (aB x.2 0 10) (aB x.4 10 9) (ieq (aB x.2 19 1) 1) (aB x.2 20 5) (aM (aB x.2 25 18))else 0 else 0,ok:=aY s.3 x.1 x.2} })))) (.ite (cD x.11 (W (x.5+1))) (.ite (cD x.11 (W (x.5+1))) (.pre ((t=t∧n=n)∧List.length x.6+(1:Nat)=List.length (x.6++ [x.3])∧(true=false→(5:Int)≠(4:Int))∧lE' (bif aY s.3 x.1 x.2 then aT s.3 x.1 (bif bif aL (aB x.2 0 10) 10 then bif aL (aB x.4 10 9) 9 then bif aL (aB x.2 20 5) 5 then aL (aM (aB x.2 25 18)) 18 else false else false else false then bJ (aB x.2 0 10) (aB x.4 10 9) (ieq (aB x.2 19 1) 1) (aB x.2 20 5) (aM (aB x.2 25 18))else 0)else s.3)) (.ret {d:=true,x:= {x with pred:=0,pw:=0,curr:=0,cw:=0,tries:=W (x.5+1),ul:=x.6++ [x.3],ab:=cD x.11 (W (x.5+1)),at':=5,moved:=W (x.13+1),cl:=bT},s:= {t:=s.1,n:=s.2,xs:=bif aY s.3 x.1 x.2 then aT s.3 x.1 (bif bif aL (aB x.2 0 10) 10 then bif aL (aB x.4 10 9) 9 then bif aL (aB x.2 20 5) 5 then aL (aM (aB x.2 25 18)) 18 else false else false else false then bJ (aB x.2 0 10) (aB x.4 10 9) (ieq (aB x.2 19 1) 1) (aB x.2 20 5) (aM (aB x.2 25 18))else 0)else s.3,c:=s.4+1,k:=3,a:=x.1,o:=aD s.3 x.1,w:=bif bN s.3 x.1 then bif bif aL (aB x.2 0 10) 10 then bif aL (aB x.4 10 9) 9 then bif aL (aB x.2 20 5) 5 then aL (aM (aB x.2 25 18)) 18 else false else false else false then bJ (aB x.2 0 10) (aB x.4 10 9) (ieq (aB x.2 19 1) 1) (aB x.2 20 5) (aM (aB x.2 25 18))else 0 else 0,ok:=aY s.3 x.1 x.2} })) (.pre ((t=t∧n=n)∧List.length x.6+(1:Nat)=List.length (x.6++ [x.3])∧(false=false→(0:Int)≠(4:Int))∧lE' (bif aY s.3 x.1 x.2 then aT s.3 x.1 (bif bif aL (aB x.2 0 10) 10 then bif aL (aB x.4 10 9) 9 then bif aL (aB x.2 20 5) 5 then aL (aM (aB x.2 25 18)) 18 else false else false else false then bJ (aB x.2 0 10) (aB x.4 10 9) (ieq (aB x.2 19 1) 1) (aB x.2 20 5) (aM (aB x.2 25 18))else 0)else s.3)) (.ret {d:=false,x:= {x with pred:=x.9,pw:=0,curr:=0,cw:=0,tries:=W (x.5+1),ul:=x.6++ [x.3],ab:=cD x.11 (W (x.5+1)),at':=0,moved:=0,cl:=bT},s:= {t:=s.1,n:=s.2,xs:=bif aY s.3 x.1 x.2 then aT s.3 x.1 (bif bif aL (aB x.2 0 10) 10 then bif aL (aB x.4 10 9) 9 then bif aL (aB x.2 20 5) 5 then aL (aM (aB x.2 25 18)) 18 else false else false else false then bJ (aB x.2 0 10) (aB x.4 10 9) (ieq (aB x.2 19 1) 1) (aB x.2 20 5) (aM (aB x.2 25 18))else 0)else s.3,c:=s.4+1,k:=3,a:=x.1,o:=aD s.3 x.1,w:=bif bN s.3 x.1 then bif bif aL (aB x.2 0 10) 10 then bif aL (aB x.4 10 9) 9 then bif aL (aB x.2 20 5) 5 then aL (aM (aB x.2 25 18)) 18 else false else false else false then bJ (aB x.2 0 10) (aB x.4 10 9) (ieq (aB x.2 19 1) 1) (aB x.2 20 5) (aM (aB x.2 25 18))else 0 else 0,ok:=aY s.3 x.1 x.2} }))) (.ite (cD x.11 (W (x.5+1))) (.pre ((t=t∧n=n)∧List.length x.6+(1:Nat)=List.length (x.6++ [x.3])∧(true=false→(5:Int)≠(4:Int))∧lE' (bif aY s.3 x.1 x.2 then aT s.3 x.1 (bif bif aL (aB x.2 0 10) 10 then bif aL (aB x.4 10 9) 9 then bif aL (aB x.2 20 5) 5 then aL (aM (aB x.2 25 18)) 18 else false else false else false then bJ (aB x.2 0 10) (aB x.4 10 9) (ieq (aB x.2 19 1) 1) (aB x.2 20 5) (aM (aB x.2 25 18))else 0)else s.3)) (.ret {d:=true,x:= {x with tries:=W (x.5+1),ul:=x.6++ [x.3],ab:=cD x.11 (W (x.5+1)),at':=5,moved:=W (x.13+1),cl:=bT},s:= {t:=s.1,n:=s.2,xs:=bif aY s.3 x.1 x.2 then aT s.3 x.1 (bif bif aL (aB x.2 0 10) 10 then bif aL (aB x.4 10 9) 9 then bif aL (aB x.2 20 5) 5 then aL (aM (aB x.2 25 18)) 18 else false else false else false then bJ (aB x.2 0 10) (aB x.4 10 9) (ieq (aB x.2 19 1) 1) (aB x.2 20 5) (aM (aB x.2 25 18))else 0)else s.3,c:=s.4+1,k:=3,a:=x.1,o:=aD s.3 x.1,w:=bif bN s.3 x.1 then bif bif aL (aB x.2 0 10) 10 then bif aL (aB x.4 10 9) 9 then bif aL (aB x.2 20 5) 5 then aL (aM (aB x.2 25 18)) 18 else false else false else false then bJ (aB x.2 0 10) (aB x.4 10 9) (ieq (aB x.2 19 1) 1) (aB x.2 20 5) (aM (aB x.2 25 18))else 0 else 0,ok:=aY s.3 x.1 x.2} })) (.pre ((t=t∧n=n)∧List.length x.6+(1:Nat)=List.length (x.6++ [x.3])∧(false=false→(0:Int)≠(4:Int))∧lE' (bif aY s.3 x.1 x.2 then aT s.3 x.1 (bif bif aL (aB x.2 0 10) 10 then bif aL (aB x.4 10 9) 9 then bif aL (aB x.2 20 5) 5 then aL (aM (aB x.2 25 18)) 18 else false else false else false then bJ (aB x.2 0 10) (aB x.4 10 9) (ieq (aB x.2 19 1) 1) (aB x.2 20 5) (aM (aB x.2 25 18))else 0)else s.3)) (.ret {d:=false,x:= {x with pred:=x.9,tries:=W (x.5+1),ul:=x.6++ [x.3],ab:=cD x.11 (W (x.5+1)),at':=0,moved:=0,cl:=bT},s:= {t:=s.1,n:=s.2,xs:=bif aY s.3 x.1 x.2 then aT s.3 x.1 (bif bif aL (aB x.2 0 10) 10 then bif aL (aB x.4 10 9) 9 then bif aL (aB x.2 20 5) 5 then aL (aM (aB x.2 25 18)) 18 else false else false else false then bJ (aB x.2 0 10) (aB x.4 10 9) (ieq (aB x.2 19 1) 1) (aB x.2 20 5) (aM (aB x.2 25 18))else 0)else s.3,c:=s.4+1,k:=3,a:=x.1,o:=aD s.3 x.1,w:=bif bN s.3 x.1 then bif bif aL (aB x.2 0 10) 10 then bif aL (aB x.4 10 9) 9 then bif aL (aB x.2 20 5) 5 then aL (aM (aB x.2 25 18)) 18 else false else false else false then bJ (aB x.2 0 10) (aB x.4 10 9) (ieq (aB x.2 19 1) 1) (aB x.2 20 5) (aM (aB x.2 25 18))else 0 else 0,ok:=aY s.3 x.1 x.2} })))))))))))
theorem xX(t n:Int)(x:FNS)(s:MS)(K:FnO→Prop)(h:(wO t n x s).run K):cT' 94 [.ptr 0 0,.ptr 1 0] [some (.cells [.int .i64 t,.int .i64 n,.int .i64 x.pred,.int .u64 x.pw,.int .i64 x.curr,.int .u64 x.cw,.int .i64 x.tries,.slice 3 0 x.ul.length 1,.bool x.ab,.int .i64 x.me,.int .i64 x.frm,.int .i64 x.key,.int .i64 x.limit,.int .i64 5,.int .i64 x.moved,.O]),bB 2 s,bC s,some (.ints (some .i64) x.ul)] (dI 3 0 [15] [(.cell 0 7,.ints (some .i64))] (tX t n) K):=by
 exact cM' (E:=EC7) (by kernel_rfl) h
def wP(t n:Int)(x:FNS)(s:MS):Tr FnO:=.pre ((((0:Int)≤t∧t≤(100000:Int))∧((0:Int)≤n∧n≤(100000:Int))∧((-1099511627776:Int)≤x.8∧x.8≤(1099511627776:Int))∧(-1099511627776:Int)≤(0:Int)∧(0:Int)≤(1099511627776:Int))∧True) (.pre ((lE' s.3∧(0:Int)≤s.4∧s.4≤(4611686018427387904:Int))∧True) (.ite (ile (W (x.13+1)) n) (.pre ((t=t∧n=n)∧lE' x.6∧(false=false→(0:Int)≠(4:Int))∧lE' (aT s.3 (2*n+5+2*x.8+0) (WU x.3))) (.ret {d:=false,x:= {x with pred:=x.3,at':=0,moved:=W (x.13+1),cl:=bT},s:= {t:=s.1,n:=s.2,xs:=aT s.3 (2*n+5+2*x.8+0) (WU x.3),c:=s.4+1,k:=2,a:=2*n+5+2*x.8+0,o:=aD s.3 (2*n+5+2*x.8+0),w:=bif bN s.3 (2*n+5+2*x.8+0)then WU x.3 else 0,ok:=bN s.3 (2*n+5+2*x.8+0) } })) (.ite (cD x.11 (W (x.5+1))) (.ite (cD x.11 (W (x.5+1))) (.pre ((t=t∧n=n)∧lE' x.6∧(true=false→(0:Int)≠(4:Int))∧lE' (aT s.3 (2*n+5+2*x.8+0) (WU x.3))) (.ret {d:=true,x:= {x with pred:=0,pw:=0,curr:=0,cw:=0,tries:=W (x.5+1),ab:=cD x.11 (W (x.5+1)),at':=0,moved:=W (x.13+1),cl:=bT},s:= {t:=s.1,n:=s.2,xs:=aT s.3 (2*n+5+2*x.8+0) (WU x.3),c:=s.4+1,k:=2,a:=2*n+5+2*x.8+0,o:=aD s.3 (2*n+5+2*x.8+0),w:=bif bN s.3 (2*n+5+2*x.8+0)then WU x.3 else 0,ok:=bN s.3 (2*n+5+2*x.8+0) } })) (.pre ((t=t∧n=n)∧lE' x.6∧(false=false→(0:Int)≠(4:Int))∧lE' (aT s.3 (2*n+5+2*x.8+0) (WU x.3))) (.ret {d:=false,x:= {x with pred:=x.9,pw:=0,curr:=0,cw:=0,tries:=W (x.5+1),ab:=cD x.11 (W (x.5+1)),at':=0,moved:=0,cl:=bT},s:= {t:=s.1,n:=s.2,xs:=aT s.3 (2*n+5+2*x.8+0) (WU x.3),c:=s.4+1,k:=2,a:=2*n+5+2*x.8+0,o:=aD s.3 (2*n+5+2*x.8+0),w:=bif bN s.3 (2*n+5+2*x.8+0)then WU x.3 else 0,ok:=bN s.3 (2*n+5+2*x.8+0) } }))) (.ite (cD x.11 (W (x.5+1))) (.pre ((t=t∧n=n)∧lE' x.6∧(true=false→(0:Int)≠(4:Int))∧lE' (aT s.3 (2*n+5+2*x.8+0) (WU x.3))) (.ret {d:=true,x:= {x with pred:=x.3,tries:=W (x.5+1),ab:=cD x.11 (W (x.5+1)),at':=0,moved:=W (x.13+1),cl:=bT},s:= {t:=s.1,n:=s.2,xs:=aT s.3 (2*n+5+2*x.8+0) (WU x.3),c:=s.4+1,k:=2,a:=2*n+5+2*x.8+0,o:=aD s.3 (2*n+5+2*x.8+0),w:=bif bN s.3 (2*n+5+2*x.8+0)then WU x.3 else 0,ok:=bN s.3 (2*n+5+2*x.8+0) } })) (.pre ((t=t∧n=n)∧lE' x.6∧(false=false→(0:Int)≠(4:Int))∧lE' (aT s.3 (2*n+5+2*x.8+0) (WU x.3))) (.ret {d:=false,x:= {x with pred:=x.9,tries:=W (x.5+1),ab:=cD x.11 (W (x.5+1)),at':=0,moved:=0,cl:=bT},s:= {t:=s.1,n:=s.2,xs:=aT s.3 (2*n+5+2*x.8+0) (WU x.3),c:=s.4+1,k:=2,a:=2*n+5+2*x.8+0,o:=aD s.3 (2*n+5+2*x.8+0),w:=bif bN s.3 (2*n+5+2*x.8+0)then WU x.3 else 0,ok:=bN s.3 (2*n+5+2*x.8+0) } }))))))
theorem xY(t n:Int)(x:FNS)(s:MS)(K:FnO→Prop)(h:(wP t n x s).run K):cT' 94 [.ptr 0 0,.ptr 1 0] [some (.cells [.int .i64 t,.int .i64 n,.int .i64 x.pred,.int .u64 x.pw,.int .i64 x.curr,.int .u64 x.cw,.int .i64 x.tries,.slice 3 0 x.ul.length 1,.bool x.ab,.int .i64 x.me,.int .i64 x.frm,.int .i64 x.key,.int .i64 x.limit,.int .i64 6,.int .i64 x.moved,.O]),bB 2 s,bC s,some (.ints (some .i64) x.ul)] (dI 3 0 [15] [(.cell 0 7,.ints (some .i64))] (tX t n) K):=by
 exact cM' (E:=EC7) (by kernel_rfl) h
def HG(t n:Int)(x:FNS)(s:MS):Tr FnO:=
 bif ieq x.at' 0 then p0 t n x s else
 bif ieq x.at' 1 then wK t n x s else
 bif ieq x.at' 2 then wL t n x s else
 bif ieq x.at' 3 then wM t n x s else
 bif ieq x.at' 4 then wN t n x s else
 bif ieq x.at' 5 then wO t n x s else
 bif ieq x.at' 6 then wP t n x s else .pre False (.ret default)
def aE(t n:Int)(x:FNS)(s:MS):FnO:=(HG t n x s).val
def FE(t n:Int)(x:FNS)(s:MS):Prop:=(HG t n x s).ok
theorem CA(t n:Int)(x:FNS)(s:MS)(K:AVal→aA Ob→Prop)(h:(HG t n x s).run (fun y=>(FnO.fin t n y).run K)):cT' 94 [.ptr 0 0,.ptr 1 0] (H8 t n x s) K:=by
 unfold HG at h
 by_cases e:x.at'=0
 ·rw [e]at h
  have h:(p0 t n x s).run _:=h
  refine KF (root:=0) (pos:=[15]) (cs:=[(.cell 0 7,.ints (some .i64))]) (parse:=tX t n) (fin:=FnO.fin t n) kZ (cE.unpack (.find t n x) 0 0 (gT t n x) [] rfl (congrArg (Prod.mk 0) (fB (by omega))) (by kernel_rfl) rfl) ?_
  have q:=xS t n x s _ h
  rw [←e]at q
  exact q
 rw [d7 e]at h
 by_cases e:x.at'=1
 ·rw [e]at h
  have h:(wK t n x s).run _:=h
  refine KF (root:=0) (pos:=[15]) (cs:=[(.cell 0 7,.ints (some .i64))]) (parse:=tX t n) (fin:=FnO.fin t n) kZ (cE.unpack (.find t n x) 0 0 (gT t n x) [] rfl (congrArg (Prod.mk 0) (fB (by omega))) (by kernel_rfl) rfl) ?_
  have q:=xT t n x s _ h
  rw [←e]at q
  exact q
 rw [d7 e]at h
 by_cases e:x.at'=2
 ·rw [e]at h
  have h:(wL t n x s).run _:=h
  refine KF (root:=0) (pos:=[15]) (cs:=[(.cell 0 7,.ints (some .i64))]) (parse:=tX t n) (fin:=FnO.fin t n) kZ (cE.unpack (.find t n x) 0 0 (gT t n x) [] rfl (congrArg (Prod.mk 0) (fB (by omega))) (by kernel_rfl) rfl) ?_
  have q:=xU t n x s _ h
  rw [←e]at q
  exact q
 rw [d7 e]at h
 by_cases e:x.at'=3
 ·rw [e]at h
  have h:(wM t n x s).run _:=h
  refine KF (root:=0) (pos:=[15]) (cs:=[(.cell 0 7,.ints (some .i64))]) (parse:=tX t n) (fin:=FnO.fin t n) kZ (cE.unpack (.find t n x) 0 0 (gT t n x) [] rfl (congrArg (Prod.mk 0) (fB (by omega))) (by kernel_rfl) rfl) ?_
  have q:=xV t n x s _ h
  rw [←e]at q
  exact q
 rw [d7 e]at h
 by_cases e:x.at'=4
 ·rw [e]at h
  have h:(wN t n x s).run _:=h
  refine KF (root:=0) (pos:=[15]) (cs:=[(.cell 0 7,.ints (some .i64))]) (parse:=tX t n) (fin:=FnO.fin t n) kZ (cE.unpack (.find t n x) 0 0 (lO t n x) [] rfl (congrArg (Prod.mk 0) (wJ e)) (by kernel_rfl) rfl) ?_
  have q:=xW t n x s _ h
  rw [←e]at q
  exact q
 rw [d7 e]at h
 by_cases e:x.at'=5
 ·rw [e]at h
  have h:(wO t n x s).run _:=h
  refine KF (root:=0) (pos:=[15]) (cs:=[(.cell 0 7,.ints (some .i64))]) (parse:=tX t n) (fin:=FnO.fin t n) kZ (cE.unpack (.find t n x) 0 0 (gT t n x) [] rfl (congrArg (Prod.mk 0) (fB (by omega))) (by kernel_rfl) rfl) ?_
  have q:=xX t n x s _ h
  rw [←e]at q
  exact q
 rw [d7 e]at h
 by_cases e:x.at'=6
 ·rw [e]at h
  have h:(wP t n x s).run _:=h
  refine KF (root:=0) (pos:=[15]) (cs:=[(.cell 0 7,.ints (some .i64))]) (parse:=tX t n) (fin:=FnO.fin t n) kZ (cE.unpack (.find t n x) 0 0 (gT t n x) [] rfl (congrArg (Prod.mk 0) (fB (by omega))) (by kernel_rfl) rfl) ?_
  have q:=xY t n x s _ h
  rw [←e]at q
  exact q
 rw [d7 e]at h
 exact h.1.elim
noncomputable def fnS:aK Ob:=fun args h=>match args,h with
 | [.ptr 0 0,.ptr 1 0],[some (.abs (.find t n x) []),e1,e2]=>(match eJ 2 [e1,e2]with
   | some (l,s)=>some (.pre (l=s.xs.length∧FE t n x s) (FnO.fin t n (aE t n x s)))
   | none=>none)
 | _,_=>none
theorem HH:sT' 94 fnS:=by
 intro args h o ho K hK
 unfold fnS at ho
 split at ho
 case h_2=>cases ho
 split at ho<;>cases ho
 rename_i hm
 obtain⟨⟨hl,ok⟩,hK⟩:=hK
 have hh:=bW hm hl
 cases hh
 exact CA _ _ _ _ K (KH ok hK)
def FB(t n:Int)(v:AVal)(g:aA Ob):Option (Prop×FNS):=match v,g with
 | .ptr 0 0,[some (.cells [.int .i64 t1,.int .i64 n1,.int .i64 pred,.int .u64 pw,.int .i64 curr,.int .u64 cw,.int .i64 tries,.slice 1 0 ul_l 1,.bool ab,.int .i64 me,.int .i64 frm,.int .i64 key,.int .i64 limit,.int .i64 at',.int .i64 moved,.O]),some (.ints (some .i64) ul)]=>some ((t1=t∧n1=n)∧ul_l=ul.length∧(at'≠4),(⟨pred,pw,curr,cw,tries,ul,ab,me,frm,key,limit,at',moved,⟨0,0,0,0⟩⟩:FNS))
 | _,_=>none
abbrev B5(t n:Int)(y:FNS):aA Ob:=[some (.abs (.find t n y) [])]
theorem B6{t n:Int} :cS (obI tbl) 0 (FB t n) (fun y=>.ret (.ptr 0 0) (B5 t n y)):=by
 intro v g p x hp hq K hK
 unfold FB at hp
 split at hp
 case h_2=>cases hp
 rename_i t1 n1 pred pw curr cw tries ul_l ab me frm key limit at' moved ul
 simp only [sI',pI']at hp
 obtain⟨rfl,rfl⟩:=hp
 obtain⟨⟨rfl,rfl⟩,rfl,hat⟩:=hq
 exact⟨⟨_,_,aP.pack (B5 t1 n1 (⟨pred,pw,curr,cw,tries,ul,ab,me,frm,key,limit,at',moved,⟨0,0,0,0⟩⟩:FNS)) (.find t1 n1 (⟨pred,pw,curr,cw,tries,ul,ab,me,frm,key,limit,at',moved,⟨0,0,0,0⟩⟩:FNS)) 0 0 (gT t1 n1 (⟨pred,pw,curr,cw,tries,ul,ab,me,frm,key,limit,at',moved,⟨0,0,0,0⟩⟩:FNS)) [] (by kernel_rfl) rfl (congrArg (Prod.mk 0) (fB hat)) (by kernel_rfl),hK⟩⟩
def B7(t n:Int)(me hd key lim:Int):Tr FNS:=.pre (((0:Int)≤n∧n≤(100000:Int))∧(-1000000:Int)≤hd∧hd≤(1000000:Int)) (.pre (((0:Int)≤n∧n≤(100000:Int))∧(-1000000:Int)≤hd∧hd≤(1000000:Int)) (.pre ((t=t∧n=n)∧0=0∧(0:Int)≠(4:Int)) (.ret {pred:=n+1+hd,pw:=0,curr:=0,cw:=0,tries:=0,ul:=[],ab:=false,me:=me,frm:=n+1+hd,key:=key,limit:=lim,at':=0,moved:=0,cl:=bT})))
def u1(t n:Int)(me hd key lim:Int):FNS:=(B7 t n me hd key lim).val
def tB(t n:Int)(me hd key lim:Int):Prop:=(B7 t n me hd key lim).ok
def fnNS:aK Ob:=fun args h=>match args,h with
 | [.agg [.int .i64 t,.int .i64 n],.int .i64 me,.int .i64 hd,.int .i64 key,.int .i64 lim],[]=>some (.pre (tB t n me hd key lim) (.ret (.ptr 0 0) (B5 t n (u1 t n me hd key lim))))
 | _,_=>none
theorem FD:sT' 132 fnNS:=by
 intro args h o ho K hK
 unfold fnNS at ho
 split at ho<;>cases ho
 rename_i t n me hd key lim
 obtain⟨ok,hK⟩:=hK
 refine KM (root:=0) (pos:=[15]) (cs:=[(.cell 0 7,.ints (some .i64))]) (parse:=FB t n) B6 ?_
 exact cM' (E:=EC7) (q:=(B7 t n me hd key lim).run (fun y=>(Out.ret (.ptr 0 0) (B5 t n y)).run K)) (by kernel_rfl) (KH ok hK)
noncomputable def EF:=((EC7.addS 94 fnS HH).addS 132 fnNS FD)
def retC:aK Ob:=fun args h=>match args,h with
 | [.ptr 0 0,.slice 2 0 k 1],[e1,e2,some (.cells [.int .i64 p])]=>(match pA 1 [e1,e2]with
   | some (l,t,n,st)=>some (.pre (l=st.R.length∧k=1∧st.R.length+1≤4294967296) (.ret (.tup []) [some (.cells [.int .i64 t,.int .i64 n,.int .i64 st.me,.int .i64 st.sp,.slice 3 0 (st.R.length+1) 1]),none,some (.cells [.int .i64 p]),some (.ints (some .i64) (st.R++ [p]))]))
   | none=>none)
 | _,_=>none
theorem C1:sT' 71 retC:=by
 intro args h o ho K hK
 unfold retC at ho
 split at ho
 case h_2=>cases ho
 rename_i k e1 e2 p
 split at ho<;>cases ho
 rename_i l t n st hs
 obtain⟨⟨hl,rfl,hle⟩,hK⟩:=hK
 have hh:=cV hs hl
 cases hh
 refine J8 (cM' (E:=EF) (q:=(0=0∧lE' st.3∧1=1∧List.length st.3+(1:Nat)≤(4294967296:Nat))∧K (.tup []) [some (.cells [.int .i64 t,.int .i64 n,.int .i64 st.1,.int .i64 st.2,.slice 3 0 (List.length st.3+1) 1]),none,some (.cells [.int .i64 p]),some (.ints (some .i64) (st.3++ [p]))]) (by kernel_rfl) ?_)
 exact⟨⟨rfl,rfl,rfl,hle⟩,hK⟩
def retI:aK Ob:=fun args h=>match args,h with
 | [.ptr 0 0,.slice 2 0 k 1],[e1,e2,some (.ints (some .i64) xs)]=>(match pA 1 [e1,e2]with
   | some (l,t,n,st)=>some (.pre (l=st.R.length∧k=xs.length∧st.R.length+xs.length≤4294967296) (.ret (.tup []) [some (.cells [.int .i64 t,.int .i64 n,.int .i64 st.me,.int .i64 st.sp,.slice 3 0 (st.R.length+xs.length) 1]),none,some (.ints (some .i64) xs),some (.ints (some .i64) (st.R++xs))]))
   | none=>none)
 | _,_=>none
theorem C2:sT' 71 retI:=by
 intro args h o ho K hK
 unfold retI at ho
 split at ho
 case h_2=>cases ho
 rename_i k e1 e2 xs
 split at ho<;>cases ho
 rename_i l t n st hs
 obtain⟨⟨hl,rfl,hle⟩,hK⟩:=hK
 have hh:=cV hs hl
 cases hh
 refine J8 (cM' (E:=EF) (q:=(0+List.length xs≤List.length xs∧0=0∧lE' st.3∧1=1∧List.length st.3+List.length xs≤(4294967296:Nat))∧K (.tup []) [some (.cells [.int .i64 t,.int .i64 n,.int .i64 st.1,.int .i64 st.2,.slice 3 0 (List.length st.3+List.length xs) 1]),none,some (.ints (some .i64) xs),some (.ints (some .i64) (st.3++List.take (List.length xs) (List.drop 0 xs)))]) (by kernel_rfl) ?_)
 refine⟨⟨by omega,rfl,rfl,rfl,hle⟩,?_⟩
 rw [List.drop_zero,List.take_length]
 exact hK
noncomputable def retS:aK Ob:=aK.or retC retI
theorem F9:sT' 71 retS:=KS C1 C2
noncomputable def ER:=EF.addS 71 retS F9
end Go.Sh
