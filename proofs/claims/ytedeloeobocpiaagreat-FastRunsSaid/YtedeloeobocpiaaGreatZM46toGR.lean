import Derived.Test.YtedeloeobocpiaaGreatZM0toML
set_option linter.all false
set_option maxHeartbeats 8000000
namespace Go.Sh
open Go Go.Proofs
variable [Con]
structure EO where
 d:Bool
 e:ENS
 st:STS
 s:MS
def at0(t n me:Int):Int:=bif bC n (aL t n me)then aL t n me else 1
def zN(e:ENS)(st:STS)(x:AL)(s:MS):EO:=match ile x.left 0 with
 | true=>⟨e.dn||ieq (st.R.length:Int) 0,{e with ph:=2,sh:=e.dn||ieq (st.R.length:Int) 0,x:=x},{st with sp:=0},s⟩
 | false=>⟨false,{e with ph:=1,x:=x},st,s⟩
def jM(n:Int)(e:ENS)(st:STS)(x:AL)(s:MS):EO:=match x.free with
 | true=>(match aZ s.xs (n+4+x.at') x.found with
   | true=>⟨true,{e with ph:=1,x:=⟨x.at',x.at',x.left,x.found,true⟩ },{st with sp:=x.at'},s.cased (n+4+x.at') x.found (WU (x.found+1))⟩
   | false=>zN e st ⟨0,cF n x.at',x.left - 1,x.found,false⟩ (s.cased (n+4+x.at') x.found (WU (x.found+1))))
 | false=>(match oddB (aA s.xs (n+4+x.at'))with
   | true=>zN e st ⟨0,cF n x.at',x.left - 1,aA s.xs (n+4+x.at'),false⟩ (s.loadd (n+4+x.at'))
   | false=>⟨false,{e with ph:=1,x:=⟨0,x.at',x.left,aA s.xs (n+4+x.at'),true⟩ },st,s.loadd (n+4+x.at')⟩)
instance:Inhabited EO:=⟨⟨false,dENS,⟨0,0,[]⟩,⟨0,0,[],0,0,0,0,0,false⟩⟩⟩
def enF(t n:Int)(e:ENS)(st:STS)(s:MS):EO:=match e.ph with
 | 0=>(match ieq st.sp 0 with
   | true=>jM n e st ⟨0,at0 t n st.me,n,0,false⟩ s
   | false=>⟨true,e,st,s.loadd 0⟩)
 | 1=>jM n e st e.x s
 | 2=>⟨false,{e with ph:=3,y:= {e.y with N:=st.R,m:=aR [] n 0 s,i:=1} },st,s.loadd (bH n 0)⟩
 | 3=>(match ieq (e.y.i+1) (2*t),ieq ((aS (aR e.y.m n e.y.i s) e.y.N).length :Int) 0 with
   | true,true=>⟨true,{e with ph:=0,sh:=true,dn:=true},{st with R:=cB (aR e.y.m n e.y.i s) e.y.N},s.loadd (bH n e.y.i)⟩
   | true,false=>⟨false,{e with ph:=4,y:=⟨0,e.y.N,aR e.y.m n e.y.i s,e.y.i+1,cB (aR e.y.m n e.y.i s) e.y.N,aS (aR e.y.m n e.y.i s) e.y.N,aS (aR e.y.m n e.y.i s) e.y.N,0,(aS (aR e.y.m n e.y.i s) e.y.N).length⟩ },st,s.loadd (bH n e.y.i)⟩
   | false,_=>⟨false,{e with y:= {e.y with m:=aR e.y.m n e.y.i s,i:=e.y.i+1} },st,s.loadd (bH n e.y.i)⟩)
 | _=>(match ieq ((e.y.l - 1:Nat):Int) 0 with
   | true=>⟨ieq (e.y.fs.length:Int) 0,{e with ph:=0,sh:=ieq (e.y.fs.length:Int) 0,dn:=true},{st with R:=e.y.ks},s.added (bK n e.y.gs e.y.j) 1⟩
   | false=>⟨false,{e with y:= {e.y with j:=e.y.j+1,l:=e.y.l - 1} },st,s.added (bK n e.y.gs e.y.j) 1⟩)
structure okAl (n:Int) (x:AL):Prop where
 hg:x.got=0
 ha:1≤x.at'∧x.at'≤n
 hl:0≤x.left∧x.left≤1000
def VZ(t n:Int)(e:ENS)(st:STS):Prop:=match e.ph with
 | 0=>True
 | 1=>okAl n e.x
 | 2=>True
 | 3=>e.y.N.length≤1000000∧0≤e.y.i∧e.y.i<2*t
 | 4=>2*t≤e.y.i∧1≤e.y.l∧e.y.gs.length=e.y.j+e.y.l∧ -1000000≤List.getD e.y.gs (e.y.j+Int.toNat 0*1) 0∧List.getD e.y.gs (e.y.j+Int.toNat 0*1) 0≤1000000
 | _=>False
structure okE (t n:Int) (e:ENS) (st:STS) (s:MS):Prop where
 ht:1≤t∧t≤1000
 hn:1≤n∧n≤1000
 hc:0≤s.c∧s.c≤1000000
 hm:0≤st.me∧st.me≤1000
 hR:st.R.length≤1000000
 ho:VZ t n e st
abbrev aX(l:Nat)(s:MS):Option (aG Mc):=some (.cells [.int .i64 s.t,.int .i64 s.n,.slice l 0 s.xs.length 1,.int .i64 s.c,.int .i64 s.k,.int .i64 s.a,.int .u64 s.o,.int .u64 s.w,.bool s.ok])
abbrev aY(s:MS):Option (aG Mc):=some (.ints (some .u64) s.xs)
def NK(t n:Int)(e:ENS)(st:STS)(s:MS):aC Ob:=[some (.abs (.ensure t n e) [1]),some (.abs (.store t n st) []),aX 3 s,aY s]
def EO.left(o:EO)(t n:Int)(K:AVal→aC Ob→Prop):Prop:=K (.bool o.d) (NK t n o.e o.st o.s)
theorem fQ{K:AVal→aC Ob→Prop}{t n:Int}{o:EO}{g':aC Ob}(pl:List Nat)(hK:o.left t n K)
 (hb:(eD pl g'.length&&jE pl 0 4&&sN 1 (DP t n o.e))=true)
 (hT:fY pl g'=bO [some (.abs (.ensure t n o.e) [1]),some (.cells [.int .i64 t,.int .i64 n,.int .i64 o.st.me,.int .i64 o.st.sp,.slice 4 0 o.st.R.length 1]),aX 3 o.s,aY o.s,some (.ints (some .i64) o.st.R)] 0 1 (DP t n o.e) [1]):yY tbl 4 (yY tbl 4 K) (.bool o.d) g':=by
 simp only [Bool.and_eq_true]at hb
 obtain⟨⟨b1,b2⟩,b3⟩:=hb
 refine⟨pl,_,.ensure t n o.e,0,1,_,[1],?_,hT,rfl,rfl,⟨[0,1,2,3,4],[some (.abs (.ensure t n o.e) [1]),some (.abs (.store t n o.st) []),aX 3 o.s,aY o.s],.store t n o.st,1,0,jT t n o.st,[],rfl,rfl,rfl,rfl,?_⟩⟩
 ·rw [b1,b2,b3];rfl
 ·exact hK
theorem XC(t n me sp:Int)(R:List Int)(sh dn:Bool)(x:AL)(y:SWS)(s:MS)(K:AVal→aC Ob→Prop)(hK:bif !ieq sp 0 then(lE' s.3∧(0:Int)≤s.4∧s.4≤(4611686018427387904:Int))∧K (.bool true) [some (.cells [.ptr 1 0,.bool sh,.raw (Value.pointer none),.raw (Value.pointer none),.bool dn]),some (.cells [.int .i64 t,.int .i64 n,.int .i64 me,.int .i64 sp,.slice 4 0 (List.length R) 1]),some (.cells [.int .i64 s.1,.int .i64 s.2,.slice 3 0 (List.length s.3) 1,.int .i64 (s.4+1),.int .i64 1,.int .i64 0,.int .u64 (aA s.3 0),.int .u64 (aA s.3 0),.bool (bR s.3 0)]),some (.ints (some .u64) s.3),some (.ints (some .i64) R)]else(((0:Int)≤me∧me≤(100000:Int))∧(0:Int)≤n∧n≤(100000:Int))∧(True∧True)∧(lE' s.3∧((1:Int)≤t∧t≤(1000:Int))∧((1:Int)≤n∧n≤(1000:Int))∧(((1:Int)≤bif bC n (aL t n me)then aL t n me else 1)∧(bif bC n (aL t n me)then aL t n me else 1)≤n)∧((0:Int)≤n∧n≤(1000:Int))∧(0:Int)≤s.4∧s.4≤(1000000:Int))∧bif oddB (aA s.3 (n+4+bif bC n (aL t n me)then aL t n me else 1))then bif !ile (n - 1) 0 then K (.bool false) [some (.cells [.ptr 1 0,.bool sh,.ptr 5 0,.raw (Value.pointer none),.bool dn]),some (.cells [.int .i64 t,.int .i64 n,.int .i64 me,.int .i64 sp,.slice 4 0 (List.length R) 1]),some (.cells [.int .i64 s.1,.int .i64 s.2,.slice 3 0 (List.length s.3) 1,.int .i64 (s.4+1),.int .i64 1,.int .i64 (n+4+bif bC n (aL t n me)then aL t n me else 1),.int .u64 (aA s.3 (n+4+bif bC n (aL t n me)then aL t n me else 1)),.int .u64 (aA s.3 (n+4+bif bC n (aL t n me)then aL t n me else 1)),.bool (bR s.3 (n+4+bif bC n (aL t n me)then aL t n me else 1))]),some (.ints (some .u64) s.3),some (.ints (some .i64) R),some (.cells [.int .i64 t,.int .i64 n,.int .i64 0,.int .i64 (cF n (bif bC n (aL t n me)then aL t n me else 1)),.int .i64 (n - 1),.int .u64 (aA s.3 (n+4+bif bC n (aL t n me)then aL t n me else 1)),.bool false])]else bif dn then K (.bool true) [some (.cells [.ptr 1 0,.bool true,.ptr 5 0,.ptr 6 0,.bool dn]),some (.cells [.int .i64 t,.int .i64 n,.int .i64 me,.int .i64 0,.slice 4 0 (List.length R) 1]),some (.cells [.int .i64 s.1,.int .i64 s.2,.slice 3 0 (List.length s.3) 1,.int .i64 (s.4+1),.int .i64 1,.int .i64 (n+4+bif bC n (aL t n me)then aL t n me else 1),.int .u64 (aA s.3 (n+4+bif bC n (aL t n me)then aL t n me else 1)),.int .u64 (aA s.3 (n+4+bif bC n (aL t n me)then aL t n me else 1)),.bool (bR s.3 (n+4+bif bC n (aL t n me)then aL t n me else 1))]),some (.ints (some .u64) s.3),some (.ints (some .i64) R),some (.cells [.int .i64 t,.int .i64 n,.int .i64 0,.int .i64 (cF n (bif bC n (aL t n me)then aL t n me else 1)),.int .i64 (n - 1),.int .u64 (aA s.3 (n+4+bif bC n (aL t n me)then aL t n me else 1)),.bool false]),some (.cells [.ptr 1 0,.raw (Value.pointer none)])]else K (.bool (ieq (↑(List.length R):Int) 0)) [some (.cells [.ptr 1 0,.bool (ieq (↑(List.length R):Int) 0),.ptr 5 0,.ptr 6 0,.bool dn]),some (.cells [.int .i64 t,.int .i64 n,.int .i64 me,.int .i64 0,.slice 4 0 (List.length R) 1]),some (.cells [.int .i64 s.1,.int .i64 s.2,.slice 3 0 (List.length s.3) 1,.int .i64 (s.4+1),.int .i64 1,.int .i64 (n+4+bif bC n (aL t n me)then aL t n me else 1),.int .u64 (aA s.3 (n+4+bif bC n (aL t n me)then aL t n me else 1)),.int .u64 (aA s.3 (n+4+bif bC n (aL t n me)then aL t n me else 1)),.bool (bR s.3 (n+4+bif bC n (aL t n me)then aL t n me else 1))]),some (.ints (some .u64) s.3),some (.ints (some .i64) R),some (.cells [.int .i64 t,.int .i64 n,.int .i64 0,.int .i64 (cF n (bif bC n (aL t n me)then aL t n me else 1)),.int .i64 (n - 1),.int .u64 (aA s.3 (n+4+bif bC n (aL t n me)then aL t n me else 1)),.bool false]),some (.cells [.ptr 1 0,.raw (Value.pointer none)])]else K (.bool false) [some (.cells [.ptr 1 0,.bool sh,.ptr 5 0,.raw (Value.pointer none),.bool dn]),some (.cells [.int .i64 t,.int .i64 n,.int .i64 me,.int .i64 sp,.slice 4 0 (List.length R) 1]),some (.cells [.int .i64 s.1,.int .i64 s.2,.slice 3 0 (List.length s.3) 1,.int .i64 (s.4+1),.int .i64 1,.int .i64 (n+4+bif bC n (aL t n me)then aL t n me else 1),.int .u64 (aA s.3 (n+4+bif bC n (aL t n me)then aL t n me else 1)),.int .u64 (aA s.3 (n+4+bif bC n (aL t n me)then aL t n me else 1)),.bool (bR s.3 (n+4+bif bC n (aL t n me)then aL t n me else 1))]),some (.ints (some .u64) s.3),some (.ints (some .i64) R),some (.cells [.int .i64 t,.int .i64 n,.int .i64 0,.int .i64 (bif bC n (aL t n me)then aL t n me else 1),.int .i64 n,.int .u64 (aA s.3 (n+4+bif bC n (aL t n me)then aL t n me else 1)),.bool true])]):cT' 85 [.ptr 0 0,.ptr 2 0] [some (.cells [.ptr 1 0,.bool sh,.raw (.pointer none),.raw (.pointer none),.bool dn]),some (.cells [.int .i64 t,.int .i64 n,.int .i64 me,.int .i64 sp,.slice 4 0 R.length 1]),aX 3 s,aY s,some (.ints (some .i64) R)] K:=by
 refine Y2 (cM' (E:=E42) (by kernel_rfl) hK)
theorem XD(t n me sp:Int)(R:List Int)(sh dn:Bool)(x:AL)(y:SWS)(s:MS)(K:AVal→aC Ob→Prop)(hK:(lE' s.3∧((1:Int)≤t∧t≤(1000:Int))∧((1:Int)≤n∧n≤(1000:Int))∧((1:Int)≤x.2∧x.2≤n)∧((0:Int)≤x.3∧x.3≤(1000:Int))∧(0:Int)≤s.4∧s.4≤(1000000:Int))∧bif x.5 then bif aZ s.3 (n+4+x.2) x.4 then bif !ieq x.2 0 then K (.bool true) [some (.cells [.ptr 1 0,.bool sh,.ptr 5 0,.raw (Value.pointer none),.bool dn]),some (.cells [.int .i64 t,.int .i64 n,.int .i64 me,.int .i64 x.2,.slice 4 0 (List.length R) 1]),some (.cells [.int .i64 s.1,.int .i64 s.2,.slice 3 0 (List.length (bif aZ s.3 (n+4+x.2) x.4 then aO s.3 (n+4+x.2) (WU (x.4+1))else s.3)) 1,.int .i64 (s.4+1),.int .i64 3,.int .i64 (n+4+x.2),.int .u64 (aA s.3 (n+4+x.2)),.int .u64 (bif bR s.3 (n+4+x.2)then WU (x.4+1)else 0),.bool (aZ s.3 (n+4+x.2) x.4)]),some (.ints (some .u64) (bif aZ s.3 (n+4+x.2) x.4 then aO s.3 (n+4+x.2) (WU (x.4+1))else s.3)),some (.ints (some .i64) R),some (.cells [.int .i64 t,.int .i64 n,.int .i64 x.2,.int .i64 x.2,.int .i64 x.3,.int .u64 x.4,.bool true])]else bif dn then K (.bool true) [some (.cells [.ptr 1 0,.bool true,.ptr 5 0,.ptr 6 0,.bool dn]),some (.cells [.int .i64 t,.int .i64 n,.int .i64 me,.int .i64 x.2,.slice 4 0 (List.length R) 1]),some (.cells [.int .i64 s.1,.int .i64 s.2,.slice 3 0 (List.length (bif aZ s.3 (n+4+x.2) x.4 then aO s.3 (n+4+x.2) (WU (x.4+1))else s.3)) 1,.int .i64 (s.4+1),.int .i64 3,.int .i64 (n+4+x.2),.int .u64 (aA s.3 (n+4+x.2)),.int .u64 (bif bR s.3 (n+4+x.2)then WU (x.4+1)else 0),.bool (aZ s.3 (n+4+x.2) x.4)]),some (.ints (some .u64) (bif aZ s.3 (n+4+x.2) x.4 then aO s.3 (n+4+x.2) (WU (x.4+1))else s.3)),some (.ints (some .i64) R),some (.cells [.int .i64 t,.int .i64 n,.int .i64 x.2,.int .i64 x.2,.int .i64 x.3,.int .u64 x.4,.bool true]),some (.cells [.ptr 1 0,.raw (Value.pointer none)])]else K (.bool (ieq (↑(List.length R):Int) 0)) [some (.cells [.ptr 1 0,.bool (ieq (↑(List.length R):Int) 0),.ptr 5 0,.ptr 6 0,.bool dn]),some (.cells [.int .i64 t,.int .i64 n,.int .i64 me,.int .i64 x.2,.slice 4 0 (List.length R) 1]),some (.cells [.int .i64 s.1,.int .i64 s.2,.slice 3 0 (List.length (bif aZ s.3 (n+4+x.2) x.4 then aO s.3 (n+4+x.2) (WU (x.4+1))else s.3)) 1,.int .i64 (s.4+1),.int .i64 3,.int .i64 (n+4+x.2),.int .u64 (aA s.3 (n+4+x.2)),.int .u64 (bif bR s.3 (n+4+x.2)then WU (x.4+1)else 0),.bool (aZ s.3 (n+4+x.2) x.4)]),some (.ints (some .u64) (bif aZ s.3 (n+4+x.2) x.4 then aO s.3 (n+4+x.2) (WU (x.4+1))else s.3)),some (.ints (some .i64) R),some (.cells [.int .i64 t,.int .i64 n,.int .i64 x.2,.int .i64 x.2,.int .i64 x.3,.int .u64 x.4,.bool true]),some (.cells [.ptr 1 0,.raw (Value.pointer none)])]else bif !ile (x.3 - 1) 0 then K (.bool false) [some (.cells [.ptr 1 0,.bool sh,.ptr 5 0,.raw (Value.pointer none),.bool dn]),some (.cells [.int .i64 t,.int .i64 n,.int .i64 me,.int .i64 sp,.slice 4 0 (List.length R) 1]),some (.cells [.int .i64 s.1,.int .i64 s.2,.slice 3 0 (List.length (bif aZ s.3 (n+4+x.2) x.4 then aO s.3 (n+4+x.2) (WU (x.4+1))else s.3)) 1,.int .i64 (s.4+1),.int .i64 3,.int .i64 (n+4+x.2),.int .u64 (aA s.3 (n+4+x.2)),.int .u64 (bif bR s.3 (n+4+x.2)then WU (x.4+1)else 0),.bool (aZ s.3 (n+4+x.2) x.4)]),some (.ints (some .u64) (bif aZ s.3 (n+4+x.2) x.4 then aO s.3 (n+4+x.2) (WU (x.4+1))else s.3)),some (.ints (some .i64) R),some (.cells [.int .i64 t,.int .i64 n,.int .i64 x.1,.int .i64 (cF n x.2),.int .i64 (x.3 - 1),.int .u64 x.4,.bool false])]else bif !ieq x.1 0 then K (.bool true) [some (.cells [.ptr 1 0,.bool sh,.ptr 5 0,.raw (Value.pointer none),.bool dn]),some (.cells [.int .i64 t,.int .i64 n,.int .i64 me,.int .i64 x.1,.slice 4 0 (List.length R) 1]),some (.cells [.int .i64 s.1,.int .i64 s.2,.slice 3 0 (List.length (bif aZ s.3 (n+4+x.2) x.4 then aO s.3 (n+4+x.2) (WU (x.4+1))else s.3)) 1,.int .i64 (s.4+1),.int .i64 3,.int .i64 (n+4+x.2),.int .u64 (aA s.3 (n+4+x.2)),.int .u64 (bif bR s.3 (n+4+x.2)then WU (x.4+1)else 0),.bool (aZ s.3 (n+4+x.2) x.4)]),some (.ints (some .u64) (bif aZ s.3 (n+4+x.2) x.4 then aO s.3 (n+4+x.2) (WU (x.4+1))else s.3)),some (.ints (some .i64) R),some (.cells [.int .i64 t,.int .i64 n,.int .i64 x.1,.int .i64 (cF n x.2),.int .i64 (x.3 - 1),.int .u64 x.4,.bool false])]else bif dn then K (.bool true) [some (.cells [.ptr 1 0,.bool true,.ptr 5 0,.ptr 6 0,.bool dn]),some (.cells [.int .i64 t,.int .i64 n,.int .i64 me,.int .i64 x.1,.slice 4 0 (List.length R) 1]),some (.cells [.int .i64 s.1,.int .i64 s.2,.slice 3 0 (List.length (bif aZ s.3 (n+4+x.2) x.4 then aO s.3 (n+4+x.2) (WU (x.4+1))else s.3)) 1,.int .i64 (s.4+1),.int .i64 3,.int .i64 (n+4+x.2),.int .u64 (aA s.3 (n+4+x.2)),.int .u64 (bif bR s.3 (n+4+x.2)then WU (x.4+1)else 0),.bool (aZ s.3 (n+4+x.2) x.4)]),some (.ints (some .u64) (bif aZ s.3 (n+4+x.2) x.4 then aO s.3 (n+4+x.2) (WU (x.4+1))else s.3)),some (.ints (some .i64) R),some (.cells [.int .i64 t,.int .i64 n,.int .i64 x.1,.int .i64 (cF n x.2),.int .i64 (x.3 - 1),.int .u64 x.4,.bool false]),some (.cells [.ptr 1 0,.raw (Value.pointer none)])]else K (.bool (ieq (↑(List.length R):Int) 0)) [some (.cells [.ptr 1 0,.bool (ieq (↑(List.length R):Int) 0),.ptr 5 0,.ptr 6 0,.bool dn]),some (.cells [.int .i64 t,.int .i64 n,.int .i64 me,.int .i64 x.1,.slice 4 0 (List.length R) 1]),some (.cells [.int .i64 s.1,.int .i64 s.2,.slice 3 0 (List.length (bif aZ s.3 (n+4+x.2) x.4 then aO s.3 (n+4+x.2) (WU (x.4+1))else s.3)) 1,.int .i64 (s.4+1),.int .i64 3,.int .i64 (n+4+x.2),.int .u64 (aA s.3 (n+4+x.2)),.int .u64 (bif bR s.3 (n+4+x.2)then WU (x.4+1)else 0),.bool (aZ s.3 (n+4+x.2) x.4)]),some (.ints (some .u64) (bif aZ s.3 (n+4+x.2) x.4 then aO s.3 (n+4+x.2) (WU (x.4+1))else s.3)),some (.ints (some .i64) R),some (.cells [.int .i64 t,.int .i64 n,.int .i64 x.1,.int .i64 (cF n x.2),.int .i64 (x.3 - 1),.int .u64 x.4,.bool false]),some (.cells [.ptr 1 0,.raw (Value.pointer none)])]else bif oddB (aA s.3 (n+4+x.2))then bif !ile (x.3 - 1) 0 then K (.bool false) [some (.cells [.ptr 1 0,.bool sh,.ptr 5 0,.raw (Value.pointer none),.bool dn]),some (.cells [.int .i64 t,.int .i64 n,.int .i64 me,.int .i64 sp,.slice 4 0 (List.length R) 1]),some (.cells [.int .i64 s.1,.int .i64 s.2,.slice 3 0 (List.length s.3) 1,.int .i64 (s.4+1),.int .i64 1,.int .i64 (n+4+x.2),.int .u64 (aA s.3 (n+4+x.2)),.int .u64 (aA s.3 (n+4+x.2)),.bool (bR s.3 (n+4+x.2))]),some (.ints (some .u64) s.3),some (.ints (some .i64) R),some (.cells [.int .i64 t,.int .i64 n,.int .i64 x.1,.int .i64 (cF n x.2),.int .i64 (x.3 - 1),.int .u64 (aA s.3 (n+4+x.2)),.bool false])]else bif !ieq x.1 0 then K (.bool true) [some (.cells [.ptr 1 0,.bool sh,.ptr 5 0,.raw (Value.pointer none),.bool dn]),some (.cells [.int .i64 t,.int .i64 n,.int .i64 me,.int .i64 x.1,.slice 4 0 (List.length R) 1]),some (.cells [.int .i64 s.1,.int .i64 s.2,.slice 3 0 (List.length s.3) 1,.int .i64 (s.4+1),.int .i64 1,.int .i64 (n+4+x.2),.int .u64 (aA s.3 (n+4+x.2)),.int .u64 (aA s.3 (n+4+x.2)),.bool (bR s.3 (n+4+x.2))]),some (.ints (some .u64) s.3),some (.ints (some .i64) R),some (.cells [.int .i64 t,.int .i64 n,.int .i64 x.1,.int .i64 (cF n x.2),.int .i64 (x.3 - 1),.int .u64 (aA s.3 (n+4+x.2)),.bool false])]else bif dn then K (.bool true) [some (.cells [.ptr 1 0,.bool true,.ptr 5 0,.ptr 6 0,.bool dn]),some (.cells [.int .i64 t,.int .i64 n,.int .i64 me,.int .i64 x.1,.slice 4 0 (List.length R) 1]),some (.cells [.int .i64 s.1,.int .i64 s.2,.slice 3 0 (List.length s.3) 1,.int .i64 (s.4+1),.int .i64 1,.int .i64 (n+4+x.2),.int .u64 (aA s.3 (n+4+x.2)),.int .u64 (aA s.3 (n+4+x.2)),.bool (bR s.3 (n+4+x.2))]),some (.ints (some .u64) s.3),some (.ints (some .i64) R),some (.cells [.int .i64 t,.int .i64 n,.int .i64 x.1,.int .i64 (cF n x.2),.int .i64 (x.3 - 1),.int .u64 (aA s.3 (n+4+x.2)),.bool false]),some (.cells [.ptr 1 0,.raw (Value.pointer none)])]else K (.bool (ieq (↑(List.length R):Int) 0)) [some (.cells [.ptr 1 0,.bool (ieq (↑(List.length R):Int) 0),.ptr 5 0,.ptr 6 0,.bool dn]),some (.cells [.int .i64 t,.int .i64 n,.int .i64 me,.int .i64 x.1,.slice 4 0 (List.length R) 1]),some (.cells [.int .i64 s.1,.int .i64 s.2,.slice 3 0 (List.length s.3) 1,.int .i64 (s.4+1),.int .i64 1,.int .i64 (n+4+x.2),.int .u64 (aA s.3 (n+4+x.2)),.int .u64 (aA s.3 (n+4+x.2)),.bool (bR s.3 (n+4+x.2))]),some (.ints (some .u64) s.3),some (.ints (some .i64) R),some (.cells [.int .i64 t,.int .i64 n,.int .i64 x.1,.int .i64 (cF n x.2),.int .i64 (x.3 - 1),.int .u64 (aA s.3 (n+4+x.2)),.bool false]),some (.cells [.ptr 1 0,.raw (Value.pointer none)])]else K (.bool false) [some (.cells [.ptr 1 0,.bool sh,.ptr 5 0,.raw (Value.pointer none),.bool dn]),some (.cells [.int .i64 t,.int .i64 n,.int .i64 me,.int .i64 sp,.slice 4 0 (List.length R) 1]),some (.cells [.int .i64 s.1,.int .i64 s.2,.slice 3 0 (List.length s.3) 1,.int .i64 (s.4+1),.int .i64 1,.int .i64 (n+4+x.2),.int .u64 (aA s.3 (n+4+x.2)),.int .u64 (aA s.3 (n+4+x.2)),.bool (bR s.3 (n+4+x.2))]),some (.ints (some .u64) s.3),some (.ints (some .i64) R),some (.cells [.int .i64 t,.int .i64 n,.int .i64 x.1,.int .i64 x.2,.int .i64 x.3,.int .u64 (aA s.3 (n+4+x.2)),.bool true])]):cT' 85 [.ptr 0 0,.ptr 2 0] [some (.cells [.ptr 1 0,.bool sh,.ptr 5 0,.raw (.pointer none),.bool dn]),some (.cells [.int .i64 t,.int .i64 n,.int .i64 me,.int .i64 sp,.slice 4 0 R.length 1]),aX 3 s,aY s,some (.ints (some .i64) R),P3 t n x] K:=by
 refine Y2 (cM' (E:=E42) (by kernel_rfl) hK)
theorem XE(t n me sp:Int)(R:List Int)(sh dn:Bool)(x:AL)(y:SWS)(s:MS)(K:AVal→aC Ob→Prop)(hK:((lE' s.3∧lE' R)∧((1:Int)≤t∧t≤(1000:Int))∧((1:Int)≤n∧n≤(1000:Int))∧((0:Int)≤s.4∧s.4≤(1000000:Int))∧List.length R≤(1000000:Nat))∧K (.bool false) [some (.cells [.ptr 1 0,.bool sh,.ptr 5 0,.ptr 6 0,.bool dn]),some (.cells [.int .i64 t,.int .i64 n,.int .i64 me,.int .i64 sp,.slice 4 0 (List.length R) 1]),some (.cells [.int .i64 s.1,.int .i64 s.2,.slice 3 0 (List.length s.3) 1,.int .i64 (s.4+1),.int .i64 1,.int .i64 (bH n 0),.int .u64 (aA s.3 (bH n 0)),.int .u64 (aA s.3 (bH n 0)),.bool (bR s.3 (bH n 0))]),some (.ints (some .u64) s.3),some (.ints (some .i64) R),some (.cells [.int .i64 t,.int .i64 n,.int .i64 x.1,.int .i64 x.2,.int .i64 x.3,.int .u64 x.4,.bool x.5]),some (.cells [.ptr 1 0,.ptr 7 0]),some (.cells [.int .i64 t,.int .i64 n,.raw (Value.slice none 0 0),.raw (Value.slice none 0 0),.slice 8 0 (List.length R) 1,.map 9,.int .i64 1,.raw (Value.pointer none)]),some (.ints (some .i64) R),some (.imap .i64 none (aR [] n 0 s))]):cT' 85 [.ptr 0 0,.ptr 2 0] [some (.cells [.ptr 1 0,.bool sh,.ptr 5 0,.ptr 6 0,.bool dn]),some (.cells [.int .i64 t,.int .i64 n,.int .i64 me,.int .i64 sp,.slice 4 0 R.length 1]),aX 3 s,aY s,some (.ints (some .i64) R),P3 t n x,some (.cells [.ptr 1 0,.raw (.pointer none)])] K:=by
 refine Y2 (cM' (E:=E42) (by kernel_rfl) hK)
theorem XF(t n me sp:Int)(R:List Int)(sh dn:Bool)(x:AL)(y:SWS)(s:MS)(K:AVal→aC Ob→Prop)(hK:((lE' s.3∧lE' R∧lE' y.2∧t=t∧n=n)∧((1:Int)≤t∧t≤(1000:Int))∧((1:Int)≤n∧n≤(1000:Int))∧((0:Int)≤s.4∧s.4≤(1000000:Int))∧List.length y.2≤(1000000:Nat)∧(0:Int)≤y.4∧y.4<(2:Int)*t)∧bif ieq (y.4+1) (2*t)then bif ieq (↑(List.length (aS (aR y.3 n y.4 s) y.2)):Int) 0 then K (.bool (ieq (↑(List.length (aS (aR y.3 n y.4 s) y.2)):Int) 0)) [some (.cells [.ptr 1 0,.bool (ieq (↑(List.length (aS (aR y.3 n y.4 s) y.2)):Int) 0),.raw (Value.pointer none),.raw (Value.pointer none),.bool true]),some (.cells [.int .i64 t,.int .i64 n,.int .i64 me,.int .i64 sp,.slice 10 0 (List.length (cB (aR y.3 n y.4 s) y.2)) 1]),some (.cells [.int .i64 s.1,.int .i64 s.2,.slice 3 0 (List.length s.3) 1,.int .i64 (s.4+1),.int .i64 1,.int .i64 (bH n y.4),.int .u64 (aA s.3 (bH n y.4)),.int .u64 (aA s.3 (bH n y.4)),.bool (bR s.3 (bH n y.4))]),some (.ints (some .u64) s.3),some (.ints (some .i64) R),some (.cells [.int .i64 t,.int .i64 n,.int .i64 x.1,.int .i64 x.2,.int .i64 x.3,.int .u64 x.4,.bool x.5]),some (.cells [.ptr 1 0,.ptr 7 0]),some (.cells [.int .i64 t,.int .i64 n,.slice 10 0 (List.length (cB (aR y.3 n y.4 s) y.2)) 1,.slice 11 0 (List.length (aS (aR y.3 n y.4 s) y.2)) 1,.slice 8 0 (List.length y.2) 1,.map 9,.int .i64 (y.4+1),.ptr 12 0]),some (.ints (some .i64) y.2),some (.imap .i64 none (aR y.3 n y.4 s)),some (.ints (some .i64) (cB (aR y.3 n y.4 s) y.2)),some (.ints (some .i64) (aS (aR y.3 n y.4 s) y.2)),some (.cells [.int .i64 t,.int .i64 n,.slice 13 0 (List.length (aS (aR y.3 n y.4 s) y.2)) 1]),some (.ints (some .i64) (aS (aR y.3 n y.4 s) y.2))]else K (.bool false) [some (.cells [.ptr 1 0,.bool sh,.ptr 5 0,.ptr 6 0,.bool dn]),some (.cells [.int .i64 t,.int .i64 n,.int .i64 me,.int .i64 sp,.slice 4 0 (List.length R) 1]),some (.cells [.int .i64 s.1,.int .i64 s.2,.slice 3 0 (List.length s.3) 1,.int .i64 (s.4+1),.int .i64 1,.int .i64 (bH n y.4),.int .u64 (aA s.3 (bH n y.4)),.int .u64 (aA s.3 (bH n y.4)),.bool (bR s.3 (bH n y.4))]),some (.ints (some .u64) s.3),some (.ints (some .i64) R),some (.cells [.int .i64 t,.int .i64 n,.int .i64 x.1,.int .i64 x.2,.int .i64 x.3,.int .u64 x.4,.bool x.5]),some (.cells [.ptr 1 0,.ptr 7 0]),some (.cells [.int .i64 t,.int .i64 n,.slice 10 0 (List.length (cB (aR y.3 n y.4 s) y.2)) 1,.slice 11 0 (List.length (aS (aR y.3 n y.4 s) y.2)) 1,.slice 8 0 (List.length y.2) 1,.map 9,.int .i64 (y.4+1),.ptr 12 0]),some (.ints (some .i64) y.2),some (.imap .i64 none (aR y.3 n y.4 s)),some (.ints (some .i64) (cB (aR y.3 n y.4 s) y.2)),some (.ints (some .i64) (aS (aR y.3 n y.4 s) y.2)),some (.cells [.int .i64 t,.int .i64 n,.slice 13 0 (List.length (aS (aR y.3 n y.4 s) y.2)) 1]),some (.ints (some .i64) (aS (aR y.3 n y.4 s) y.2))]else K (.bool false) [some (.cells [.ptr 1 0,.bool sh,.ptr 5 0,.ptr 6 0,.bool dn]),some (.cells [.int .i64 t,.int .i64 n,.int .i64 me,.int .i64 sp,.slice 4 0 (List.length R) 1]),some (.cells [.int .i64 s.1,.int .i64 s.2,.slice 3 0 (List.length s.3) 1,.int .i64 (s.4+1),.int .i64 1,.int .i64 (bH n y.4),.int .u64 (aA s.3 (bH n y.4)),.int .u64 (aA s.3 (bH n y.4)),.bool (bR s.3 (bH n y.4))]),some (.ints (some .u64) s.3),some (.ints (some .i64) R),some (.cells [.int .i64 t,.int .i64 n,.int .i64 x.1,.int .i64 x.2,.int .i64 x.3,.int .u64 x.4,.bool x.5]),some (.cells [.ptr 1 0,.ptr 7 0]),some (.cells [.int .i64 t,.int .i64 n,.raw (Value.slice none 0 0),.raw (Value.slice none 0 0),.slice 8 0 (List.length y.2) 1,.map 9,.int .i64 (y.4+1),.raw (Value.pointer none)]),some (.ints (some .i64) y.2),some (.imap .i64 none (aR y.3 n y.4 s))]):cT' 85 [.ptr 0 0,.ptr 2 0] [some (.cells [.ptr 1 0,.bool sh,.ptr 5 0,.ptr 6 0,.bool dn]),some (.cells [.int .i64 t,.int .i64 n,.int .i64 me,.int .i64 sp,.slice 4 0 R.length 1]),aX 3 s,aY s,some (.ints (some .i64) R),P3 t n x,some (.cells [.ptr 1 0,.ptr 7 0]),some (.cells [.int .i64 t,.int .i64 n,.raw (.slice none 0 0),.raw (.slice none 0 0),.slice 8 0 y.N.length 1,.map 9,.int .i64 y.i,.raw (.pointer none)]),some (.ints (some .i64) y.N),some (.imap .i64 none y.m)] K:=by
 refine Y2 (cM' (E:=E42) (by kernel_rfl) hK)
theorem XG(t n me sp:Int)(R:List Int)(sh dn:Bool)(x:AL)(y:SWS)(s:MS)(K:AVal→aC Ob→Prop)(hK:((lE' s.3∧lE' R∧lE' y.5∧lE' y.6∧lE' y.2∧t=t∧n=n∧t=t∧n=n)∧((1:Int)≤t∧t≤(1000:Int))∧((1:Int)≤n∧n≤(1000:Int))∧((0:Int)≤s.4∧s.4≤(1000000:Int))∧2*t≤y.4∧((1:Nat)≤y.9∧List.length y.7=y.8+y.9)∧(-1000000:Int)≤List.getD y.7 (y.8+Int.toNat 0*1) 0∧List.getD y.7 (y.8+Int.toNat 0*1) (0:Int)≤(1000000:Int))∧bif ieq (↑(y.9 - 1):Int) 0 then K (.bool (ieq (↑(List.length y.6):Int) 0)) [some (.cells [.ptr 1 0,.bool (ieq (↑(List.length y.6):Int) 0),.raw (Value.pointer none),.raw (Value.pointer none),.bool true]),some (.cells [.int .i64 t,.int .i64 n,.int .i64 me,.int .i64 sp,.slice 8 0 (List.length y.5) 1]),some (.cells [.int .i64 s.1,.int .i64 s.2,.slice 3 0 (List.length (aO s.3 (bK n y.7 y.8) (WU (aA s.3 (bK n y.7 y.8)+1)))) 1,.int .i64 (s.4+1),.int .i64 4,.int .i64 (bK n y.7 y.8),.int .u64 (aA s.3 (bK n y.7 y.8)),.int .u64 (bif bR s.3 (bK n y.7 y.8)then WU (aA s.3 (bK n y.7 y.8)+1)else 0),.bool (bR s.3 (bK n y.7 y.8))]),some (.ints (some .u64) (aO s.3 (bK n y.7 y.8) (WU (aA s.3 (bK n y.7 y.8)+1)))),some (.ints (some .i64) R),some (.cells [.int .i64 t,.int .i64 n,.int .i64 x.1,.int .i64 x.2,.int .i64 x.3,.int .u64 x.4,.bool x.5]),some (.cells [.ptr 1 0,.ptr 7 0]),some (.cells [.int .i64 t,.int .i64 n,.slice 8 0 (List.length y.5) 1,.slice 9 0 (List.length y.6) 1,.slice 10 0 (List.length y.2) 1,.map 11,.int .i64 y.4,.ptr 12 0]),some (.ints (some .i64) y.5),some (.ints (some .i64) y.6),some (.ints (some .i64) y.2),some (.imap .i64 none y.3),some (.cells [.int .i64 t,.int .i64 n,.slice 13 (y.8+1) (y.9 - 1) 1]),some (.ints (some .i64) y.7)]else K (.bool false) [some (.cells [.ptr 1 0,.bool sh,.ptr 5 0,.ptr 6 0,.bool dn]),some (.cells [.int .i64 t,.int .i64 n,.int .i64 me,.int .i64 sp,.slice 4 0 (List.length R) 1]),some (.cells [.int .i64 s.1,.int .i64 s.2,.slice 3 0 (List.length (aO s.3 (bK n y.7 y.8) (WU (aA s.3 (bK n y.7 y.8)+1)))) 1,.int .i64 (s.4+1),.int .i64 4,.int .i64 (bK n y.7 y.8),.int .u64 (aA s.3 (bK n y.7 y.8)),.int .u64 (bif bR s.3 (bK n y.7 y.8)then WU (aA s.3 (bK n y.7 y.8)+1)else 0),.bool (bR s.3 (bK n y.7 y.8))]),some (.ints (some .u64) (aO s.3 (bK n y.7 y.8) (WU (aA s.3 (bK n y.7 y.8)+1)))),some (.ints (some .i64) R),some (.cells [.int .i64 t,.int .i64 n,.int .i64 x.1,.int .i64 x.2,.int .i64 x.3,.int .u64 x.4,.bool x.5]),some (.cells [.ptr 1 0,.ptr 7 0]),some (.cells [.int .i64 t,.int .i64 n,.slice 8 0 (List.length y.5) 1,.slice 9 0 (List.length y.6) 1,.slice 10 0 (List.length y.2) 1,.map 11,.int .i64 y.4,.ptr 12 0]),some (.ints (some .i64) y.5),some (.ints (some .i64) y.6),some (.ints (some .i64) y.2),some (.imap .i64 none y.3),some (.cells [.int .i64 t,.int .i64 n,.slice 13 (y.8+1) (y.9 - 1) 1]),some (.ints (some .i64) y.7)]):cT' 85 [.ptr 0 0,.ptr 2 0] [some (.cells [.ptr 1 0,.bool sh,.ptr 5 0,.ptr 6 0,.bool dn]),some (.cells [.int .i64 t,.int .i64 n,.int .i64 me,.int .i64 sp,.slice 4 0 R.length 1]),aX 3 s,aY s,some (.ints (some .i64) R),P3 t n x,some (.cells [.ptr 1 0,.ptr 7 0]),some (.cells [.int .i64 t,.int .i64 n,.slice 8 0 y.ks.length 1,.slice 9 0 y.fs.length 1,.slice 10 0 y.N.length 1,.map 11,.int .i64 y.i,.ptr 12 0]),some (.ints (some .i64) y.ks),some (.ints (some .i64) y.fs),some (.ints (some .i64) y.N),some (.imap .i64 none y.m),some (.cells [.int .i64 t,.int .i64 n,.slice 13 y.j y.l 1]),some (.ints (some .i64) y.gs)] K:=by
 refine Y2 (cM' (E:=E42) (by kernel_rfl) hK)
theorem YK(t n:Int)(e:ENS)(st:STS)(s:MS)(K:AVal→aC Ob→Prop)(hp:e.ph=2)(ok:okE t n e st s)(hK:(enF t n e st s).left t n K):cT' 85 [.ptr 0 0,.ptr 2 0] (NK t n e st s) K:=by
 obtain⟨ht,hn,hc,hm,hR,ho⟩:=ok
 obtain⟨ph,sh,dn,x,y⟩:=e
 dsimp only at hp
 subst hp
 obtain⟨me,sp,R⟩:=st
 dsimp only at hm hR
 refine aD.pack tbl (aD.pack tbl ?_)
 refine aD.unpack tbl (.store t n ⟨me,sp,R⟩) 1 0 (jT t n ⟨me,sp,R⟩) [] rfl rfl rfl rfl ?_
 refine aD.unpack tbl (.ensure t n ⟨2,sh,dn,x,y⟩) 0 1 (DP t n ⟨2,sh,dn,x,y⟩) [1] rfl rfl rfl rfl ?_
 refine XE t n me sp R sh dn x y s _ ?_
 exact⟨⟨⟨rfl,rfl⟩,ht,hn,hc,hR⟩,fQ (o:=enF t n ⟨2,sh,dn,x,y⟩ ⟨me,sp,R⟩ s) [0,1,2,3,4,5,6,7,8,9] hK rfl rfl⟩
theorem YL(t n:Int)(e:ENS)(st:STS)(s:MS)(K:AVal→aC Ob→Prop)(hp:e.ph=3)(ok:okE t n e st s)(hK:(enF t n e st s).left t n K):cT' 85 [.ptr 0 0,.ptr 2 0] (NK t n e st s) K:=by
 obtain⟨ht,hn,hc,hm,hR,ho⟩:=ok
 obtain⟨ph,sh,dn,x,y⟩:=e
 dsimp only at hp
 subst hp
 obtain⟨me,sp,R⟩:=st
 dsimp only at hm hR
 refine aD.pack tbl (aD.pack tbl ?_)
 refine aD.unpack tbl (.store t n ⟨me,sp,R⟩) 1 0 (jT t n ⟨me,sp,R⟩) [] rfl rfl rfl rfl ?_
 refine aD.unpack tbl (.ensure t n ⟨3,sh,dn,x,y⟩) 0 1 (DP t n ⟨3,sh,dn,x,y⟩) [1] rfl rfl rfl rfl ?_
 refine XF t n me sp R sh dn x y s _ ?_
 have ho:y.N.length≤1000000∧0≤y.i∧y.i<2*t:=ho
 refine⟨⟨⟨rfl,rfl,rfl,rfl,rfl⟩,ht,hn,hc,ho.1,ho.2⟩,?_⟩
 unfold enF at hK
 dsimp only at hK
 cases h1:ieq (y.i+1) (2*t)with
 | false=>
   rw [h1]at hK
   exact fQ (o:=⟨false,⟨3,sh,dn,x,{y with m:=aR y.m n y.i s,i:=y.i+1}⟩,⟨me,sp,R⟩,s.loadd (bH n y.i)⟩) [0,1,2,3,4,5,6,7,8,9] hK rfl rfl
 | true=>
   rw [h1]at hK
   cases h2:ieq ((aS (aR y.m n y.i s) y.N).length :Int) 0 with
   | true=>
     rw [h2]at hK
     exact fQ (o:=⟨true,⟨0,true,true,x,y⟩,⟨me,sp,cB (aR y.m n y.i s) y.N⟩,s.loadd (bH n y.i)⟩) [0,1,2,3,10] hK rfl rfl
   | false=>
     rw [h2]at hK
     exact fQ (o:=⟨false,⟨4,sh,dn,x,⟨0,y.N,aR y.m n y.i s,y.i+1,cB (aR y.m n y.i s) y.N,aS (aR y.m n y.i s) y.N,aS (aR y.m n y.i s) y.N,0,(aS (aR y.m n y.i s) y.N).length⟩⟩,⟨me,sp,R⟩,s.loadd (bH n y.i)⟩) [0,1,2,3,4,5,6,7,10,11,8,9,12,13] hK rfl rfl
theorem YM(t n:Int)(e:ENS)(st:STS)(s:MS)(K:AVal→aC Ob→Prop)(hp:e.ph=4)(ok:okE t n e st s)(hK:(enF t n e st s).left t n K):cT' 85 [.ptr 0 0,.ptr 2 0] (NK t n e st s) K:=by
 obtain⟨ht,hn,hc,hm,hR,ho⟩:=ok
 obtain⟨ph,sh,dn,x,y⟩:=e
 dsimp only at hp
 subst hp
 obtain⟨me,sp,R⟩:=st
 dsimp only at hm hR
 refine aD.pack tbl (aD.pack tbl ?_)
 refine aD.unpack tbl (.store t n ⟨me,sp,R⟩) 1 0 (jT t n ⟨me,sp,R⟩) [] rfl rfl rfl rfl ?_
 refine aD.unpack tbl (.ensure t n ⟨4,sh,dn,x,y⟩) 0 1 (DP t n ⟨4,sh,dn,x,y⟩) [1] rfl rfl rfl rfl ?_
 refine XG t n me sp R sh dn x y s _ ?_
 have ho:2*t≤y.i∧1≤y.l∧y.gs.length=y.j+y.l∧ -1000000≤List.getD y.gs (y.j+Int.toNat 0*1) 0∧List.getD y.gs (y.j+Int.toNat 0*1) 0≤1000000:=ho
 refine⟨⟨⟨rfl,rfl,rfl,rfl,rfl,rfl,rfl,rfl,rfl⟩,ht,hn,hc,ho.1,⟨ho.2.1,ho.2.2.1⟩,ho.2.2.2⟩,?_⟩
 unfold enF at hK
 dsimp only at hK
 cases h1:ieq ((y.l - 1:Nat):Int) 0 with
 | false=>
   rw [h1]at hK
   exact fQ (o:=⟨false,⟨4,sh,dn,x,{y with j:=y.j+1,l:=y.l - 1}⟩,⟨me,sp,R⟩,s.added (bK n y.gs y.j) 1⟩) [0,1,2,3,4,5,6,7,8,9,10,11,12,13] hK rfl rfl
 | true=>
   rw [h1]at hK
   exact fQ (o:=⟨ieq (y.fs.length:Int) 0,⟨0,ieq (y.fs.length:Int) 0,true,x,y⟩,⟨me,sp,y.ks⟩,s.added (bK n y.gs y.j) 1⟩) [0,1,2,3,8] hK rfl rfl
theorem YJ(t n:Int)(e:ENS)(st:STS)(s:MS)(K:AVal→aC Ob→Prop)(hp:e.ph=1)(ok:okE t n e st s)(hK:(enF t n e st s).left t n K):cT' 85 [.ptr 0 0,.ptr 2 0] (NK t n e st s) K:=by
 obtain⟨ht,hn,hc,hm,hR,ho⟩:=ok
 obtain⟨ph,sh,dn,x,y⟩:=e
 dsimp only at hp
 subst hp
 obtain⟨me,sp,R⟩:=st
 dsimp only at hm hR
 refine aD.pack tbl (aD.pack tbl ?_)
 refine aD.unpack tbl (.store t n ⟨me,sp,R⟩) 1 0 (jT t n ⟨me,sp,R⟩) [] rfl rfl rfl rfl ?_
 refine aD.unpack tbl (.ensure t n ⟨1,sh,dn,x,y⟩) 0 1 (DP t n ⟨1,sh,dn,x,y⟩) [1] rfl rfl rfl rfl ?_
 refine XD t n me sp R sh dn x y s _ ?_
 have ho:okAl n x:=ho
 obtain⟨hg,ha,hl⟩:=ho
 refine⟨⟨rfl,ht,hn,ha,hl,hc⟩,?_⟩
 obtain⟨got,at',left,found,free⟩:=x
 dsimp only at hg ha hl⊢
 subst hg
 have i0:ieq at' 0=false:=by rw [bJ];simp;omega
 have i00:ieq 0 0=true:=rfl
 rw [i0,i00]
 unfold enF jM zN at hK
 dsimp only at hK
 cases free with
 | false=>
   dsimp only [cond]at hK⊢
   cases ho:oddB (aA s.xs (n+4+at'))with
   | false=>
     rw [ho]at hK
     exact fQ (o:=⟨false,⟨1,sh,dn,⟨0,at',left,aA s.xs (n+4+at'),true⟩,y⟩,⟨me,sp,R⟩,s.loadd (n+4+at')⟩) [0,1,2,3,4,5] hK rfl rfl
   | true=>
     rw [ho]at hK
     dsimp only [cond]at hK⊢
     cases hw:ile (left - 1) 0 with
     | false=>
       rw [hw]at hK
       exact fQ (o:=⟨false,⟨1,sh,dn,⟨0,cF n at',left - 1,aA s.xs (n+4+at'),false⟩,y⟩,⟨me,sp,R⟩,s.loadd (n+4+at')⟩) [0,1,2,3,4,5] hK rfl rfl
     | true=>
       rw [hw]at hK
       cases dn with
       | true=>exact fQ (o:=⟨true,⟨2,true,true,⟨0,cF n at',left - 1,aA s.xs (n+4+at'),false⟩,y⟩,⟨me,0,R⟩,s.loadd (n+4+at')⟩) [0,1,2,3,4,5,6] hK rfl rfl
       | false=>exact fQ (o:=⟨ieq (R.length:Int) 0,⟨2,ieq (R.length:Int) 0,false,⟨0,cF n at',left - 1,aA s.xs (n+4+at'),false⟩,y⟩,⟨me,0,R⟩,s.loadd (n+4+at')⟩) [0,1,2,3,4,5,6] hK rfl rfl
 | true=>
   dsimp only [cond]at hK⊢
   unfold MS.cased at hK
   cases hb:aZ s.xs (n+4+at') found with
   | true=>
     rw [hb]at hK
     exact fQ (o:=⟨true,⟨1,sh,dn,⟨at',at',left,found,true⟩,y⟩,⟨me,at',R⟩,_⟩) [0,1,2,3,4,5] hK rfl rfl
   | false=>
     rw [hb]at hK
     dsimp only [cond]at hK⊢
     cases hw:ile (left - 1) 0 with
     | false=>
       rw [hw]at hK
       exact fQ (o:=⟨false,⟨1,sh,dn,⟨0,cF n at',left - 1,found,false⟩,y⟩,⟨me,sp,R⟩,_⟩) [0,1,2,3,4,5] hK rfl rfl
     | true=>
       rw [hw]at hK
       cases dn with
       | true=>exact fQ (o:=⟨true,⟨2,true,true,⟨0,cF n at',left - 1,found,false⟩,y⟩,⟨me,0,R⟩,_⟩) [0,1,2,3,4,5,6] hK rfl rfl
       | false=>exact fQ (o:=⟨ieq (R.length:Int) 0,⟨2,ieq (R.length:Int) 0,false,⟨0,cF n at',left - 1,found,false⟩,y⟩,⟨me,0,R⟩,_⟩) [0,1,2,3,4,5,6] hK rfl rfl
theorem YI(t n:Int)(e:ENS)(st:STS)(s:MS)(K:AVal→aC Ob→Prop)(hp:e.ph=0)(ok:okE t n e st s)(hK:(enF t n e st s).left t n K):cT' 85 [.ptr 0 0,.ptr 2 0] (NK t n e st s) K:=by
 obtain⟨ht,hn,hc,hm,hR,ho⟩:=ok
 obtain⟨ph,sh,dn,x,y⟩:=e
 dsimp only at hp
 subst hp
 obtain⟨me,sp,R⟩:=st
 dsimp only at hm hR
 refine aD.pack tbl (aD.pack tbl ?_)
 refine aD.unpack tbl (.store t n ⟨me,sp,R⟩) 1 0 (jT t n ⟨me,sp,R⟩) [] rfl rfl rfl rfl ?_
 refine aD.unpack tbl (.ensure t n ⟨0,sh,dn,x,y⟩) 0 1 (DP t n ⟨0,sh,dn,x,y⟩) [1] rfl rfl rfl rfl ?_
 refine XC t n me sp R sh dn x y s _ ?_
 unfold enF jM zN at hK
 dsimp only at hK
 cases hz:ieq sp 0 with
 | false=>
   rw [hz]at hK
   exact⟨⟨rfl,by omega⟩,fQ (o:=⟨true,⟨0,sh,dn,x,y⟩,⟨me,sp,R⟩,s.loadd 0⟩) [0,1,2,3,4] hK rfl rfl⟩
 | true=>
   rw [hz]at hK
   have ha:1≤at0 t n me∧at0 t n me≤n:=by
    unfold at0 bC
    cases h1:(ile 1 (aL t n me))<;>cases h2:ile (aL t n me) n<;>simp only [Bool.and_true,Bool.and_false,Bool.and_self,cond_true,cond_false]<;>rw [bV]at h1 h2<;>simp at h1 h2<;>omega
   refine⟨⟨by omega,by omega⟩,⟨trivial,trivial⟩,⟨rfl,ht,hn,ha,by omega,hc⟩,?_⟩
   show cond (oddB (aA s.xs (n+4+at0 t n me))) _ _
   cases ho:oddB (aA s.xs (n+4+at0 t n me))with
   | false=>
     rw [ho]at hK
     exact fQ (o:=⟨false,⟨1,sh,dn,⟨0,at0 t n me,n,aA s.xs (n+4+at0 t n me),true⟩,y⟩,⟨me,sp,R⟩,s.loadd (n+4+at0 t n me)⟩) [0,1,2,3,4,5] hK rfl rfl
   | true=>
     rw [ho]at hK
     dsimp only [cond]at hK⊢
     cases hw:ile (n - 1) 0 with
     | false=>
       rw [hw]at hK
       exact fQ (o:=⟨false,⟨1,sh,dn,⟨0,cF n (at0 t n me),n - 1,aA s.xs (n+4+at0 t n me),false⟩,y⟩,⟨me,sp,R⟩,s.loadd (n+4+at0 t n me)⟩) [0,1,2,3,4,5] hK rfl rfl
     | true=>
       rw [hw]at hK
       cases dn with
       | true=>exact fQ (o:=⟨true,⟨2,true,true,⟨0,cF n (at0 t n me),n - 1,aA s.xs (n+4+at0 t n me),false⟩,y⟩,⟨me,0,R⟩,s.loadd (n+4+at0 t n me)⟩) [0,1,2,3,4,5,6] hK rfl rfl
       | false=>exact fQ (o:=⟨ieq (R.length:Int) 0,⟨2,ieq (R.length:Int) 0,false,⟨0,cF n (at0 t n me),n - 1,aA s.xs (n+4+at0 t n me),false⟩,y⟩,⟨me,0,R⟩,s.loadd (n+4+at0 t n me)⟩) [0,1,2,3,4,5,6] hK rfl rfl
theorem DT(t n:Int)(e:ENS)(st:STS)(s:MS)(K:AVal→aC Ob→Prop)(ok:okE t n e st s)(hK:(enF t n e st s).left t n K):cT' 85 [.ptr 0 0,.ptr 2 0] (NK t n e st s) K:=by
 match h:e.ph with
 | 0=>exact YI t n e st s K h ok hK
 | 1=>exact YJ t n e st s K h ok hK
 | 2=>exact YK t n e st s K h ok hK
 | 3=>exact YL t n e st s K h ok hK
 | 4=>exact YM t n e st s K h ok hK
 | k+5=>have:=ok.ho;unfold VZ at this;rw [h]at this;exact this.elim
noncomputable def enS:aK Ob:=fun args h=>match args,h with
 | [.ptr 0 0,.ptr 2 0],[some (.abs (.ensure t n e) [1]),some (.abs (.store t' n' st) []),e1,e2]=>(match eN 3 [e1,e2]with
   | some (l,s)=>some (.pre ((l=s.xs.length∧t'=t∧n'=n)∧okE t n e st s) (.ret (.bool (enF t n e st s).d) (NK t n (enF t n e st s).e (enF t n e st s).st (enF t n e st s).s)))
   | none=>none)
 | _,_=>none
theorem U5:aK.ok E42.I Tryz.prog 85 enS:=by
 intro args h o ho K hK
 unfold enS at ho
 split at ho
 case h_2=>cases ho
 split at ho<;>cases ho
 rename_i hm
 obtain⟨⟨⟨hl,ht',hn'⟩,ok⟩,hK⟩:=hK
 have hh:=bU hm hl
 cases hh
 subst ht' hn'
 exact DT _ _ _ _ _ K ok hK
noncomputable def enE:=E42.addS 85 enS U5
structure SO where
 d:Bool
 e:SWS
 st:STS
 s:MS
instance:Inhabited SO:=⟨⟨false,NE,⟨0,0,[]⟩,⟨0,0,[],0,0,0,0,0,false⟩⟩⟩
def swF(t n:Int)(y:SWS)(st:STS)(s:MS):SO:=match y.ph with
 | 0=>⟨false,{y with ph:=1,N:=st.R,m:=aR [] n 0 s,i:=1},st,s.loadd (bH n 0)⟩
 | 1=>(match ieq (y.i+1) (2*t),ieq ((aS (aR y.m n y.i s) y.N).length :Int) 0 with
   | true,true=>⟨true,{y with ph:=3},{st with R:=cB (aR y.m n y.i s) y.N},s.loadd (bH n y.i)⟩
   | true,false=>⟨false,⟨2,y.N,aR y.m n y.i s,y.i+1,cB (aR y.m n y.i s) y.N,aS (aR y.m n y.i s) y.N,aS (aR y.m n y.i s) y.N,0,(aS (aR y.m n y.i s) y.N).length⟩,st,s.loadd (bH n y.i)⟩
   | false,_=>⟨false,{y with m:=aR y.m n y.i s,i:=y.i+1},st,s.loadd (bH n y.i)⟩)
 | _=>(match ieq ((y.l - 1:Nat):Int) 0 with
   | true=>⟨true,{y with ph:=3},{st with R:=y.ks},s.added (bK n y.gs y.j) 1⟩
   | false=>⟨false,{y with j:=y.j+1,l:=y.l - 1},st,s.added (bK n y.gs y.j) 1⟩)
def QJ(t n:Int)(y:SWS):Prop:=match y.ph with
 | 0=>True
 | 1=>y.N.length≤1000000∧0≤y.i∧y.i<2*t
 | 2=>2*t≤y.i∧1≤y.l∧y.gs.length=y.j+y.l∧ -1000000≤List.getD y.gs (y.j+Int.toNat 0*1) 0∧List.getD y.gs (y.j+Int.toNat 0*1) 0≤1000000
 | _=>False
structure uI (t n:Int) (y:SWS) (st:STS) (s:MS):Prop where
 ht:1≤t∧t≤1000
 hn:1≤n∧n≤1000
 hc:0≤s.c∧s.c≤1000000
 hR:st.R.length≤1000000
 ho:QJ t n y
def UO(t n:Int)(y:SWS)(st:STS)(s:MS):aC Ob:=[some (.abs (.sweep t n y) [1]),some (.abs (.store t n st) []),aX 3 s,aY s]
def SO.left(o:SO)(t n:Int)(K:AVal→aC Ob→Prop):Prop:=K (.bool o.d) (UO t n o.e o.st o.s)
theorem wR{K:AVal→aC Ob→Prop}{t n:Int}{o:SO}{g':aC Ob}(pl:List Nat)(hK:o.left t n K)
 (hb:(eD pl g'.length&&jE pl 0 4&&sN 1 (L0 t n o.e))=true)
 (hT:fY pl g'=bO [some (.abs (.sweep t n o.e) [1]),some (.cells [.int .i64 t,.int .i64 n,.int .i64 o.st.me,.int .i64 o.st.sp,.slice 4 0 o.st.R.length 1]),aX 3 o.s,aY o.s,some (.ints (some .i64) o.st.R)] 0 1 (L0 t n o.e) [1]):yY tbl 4 (yY tbl 4 K) (.bool o.d) g':=by
 simp only [Bool.and_eq_true]at hb
 obtain⟨⟨b1,b2⟩,b3⟩:=hb
 refine⟨pl,_,.sweep t n o.e,0,1,_,[1],?_,hT,rfl,rfl,⟨[0,1,2,3,4],[some (.abs (.sweep t n o.e) [1]),some (.abs (.store t n o.st) []),aX 3 o.s,aY o.s],.store t n o.st,1,0,jT t n o.st,[],rfl,rfl,rfl,rfl,?_⟩⟩
 ·rw [b1,b2,b3];rfl
 ·exact hK
def LX(t n me sp:Int)(R:List Int)(y:SWS)(s:MS)(K:AVal→aC Ob→Prop):Prop:=((lE' s.3∧lE' R)∧((1:Int)≤t∧t≤(1000:Int))∧((1:Int)≤n∧n≤(1000:Int))∧((0:Int)≤s.4∧s.4≤(1000000:Int))∧List.length R≤(1000000:Nat))∧K (.bool false) [some (.cells [.ptr 1 0,.ptr 5 0]),some (.cells [.int .i64 t,.int .i64 n,.int .i64 me,.int .i64 sp,.slice 4 0 (List.length R) 1]),some (.cells [.int .i64 s.1,.int .i64 s.2,.slice 3 0 (List.length s.3) 1,.int .i64 (s.4+1),.int .i64 1,.int .i64 (bH n 0),.int .u64 (aA s.3 (bH n 0)),.int .u64 (aA s.3 (bH n 0)),.bool (bR s.3 (bH n 0))]),some (.ints (some .u64) s.3),some (.ints (some .i64) R),some (.cells [.int .i64 t,.int .i64 n,.raw (Value.slice none 0 0),.raw (Value.slice none 0 0),.slice 6 0 (List.length R) 1,.map 7,.int .i64 1,.raw (Value.pointer none)]),some (.ints (some .i64) R),some (.imap .i64 none (aR [] n 0 s))]
theorem XN(t n me sp:Int)(R:List Int)(y:SWS)(s:MS)(K:AVal→aC Ob→Prop)(hK:LX t n me sp R y s K):cT' 195 [.ptr 0 0,.ptr 2 0] [some (.cells [.ptr 1 0,.raw (.pointer none)]),some (.cells [.int .i64 t,.int .i64 n,.int .i64 me,.int .i64 sp,.slice 4 0 R.length 1]),aX 3 s,aY s,some (.ints (some .i64) R)] K:=
 (jW nM) _ _ _ (Ev.get (aU (p:=oC swStepS [.ptr 0 0,.ptr 2 0] [some (.cells [.ptr 1 0,.raw (.pointer none)]),some (.cells [.int .i64 t,.int .i64 n,.int .i64 me,.int .i64 sp,.slice 4 0 R.length 1]),aX 3 s,aY s,some (.ints (some .i64) R)] K) (q:=LX t n me sp R y s K) (by kernel_rfl) hK))
def LY(t n me sp:Int)(R:List Int)(y:SWS)(s:MS)(K:AVal→aC Ob→Prop):Prop:=((lE' s.3∧lE' R∧lE' y.2∧t=t∧n=n)∧((1:Int)≤t∧t≤(1000:Int))∧((1:Int)≤n∧n≤(1000:Int))∧((0:Int)≤s.4∧s.4≤(1000000:Int))∧List.length y.2≤(1000000:Nat)∧(0:Int)≤y.4∧y.4<(2:Int)*t)∧bif ieq (y.4+1) (2*t)then bif ieq (↑(List.length (aS (aR y.3 n y.4 s) y.2)):Int) 0 then K (.bool true) [some (.cells [.ptr 1 0,.ptr 5 0]),some (.cells [.int .i64 t,.int .i64 n,.int .i64 me,.int .i64 sp,.slice 8 0 (List.length (cB (aR y.3 n y.4 s) y.2)) 1]),some (.cells [.int .i64 s.1,.int .i64 s.2,.slice 3 0 (List.length s.3) 1,.int .i64 (s.4+1),.int .i64 1,.int .i64 (bH n y.4),.int .u64 (aA s.3 (bH n y.4)),.int .u64 (aA s.3 (bH n y.4)),.bool (bR s.3 (bH n y.4))]),some (.ints (some .u64) s.3),some (.ints (some .i64) R),some (.cells [.int .i64 t,.int .i64 n,.slice 8 0 (List.length (cB (aR y.3 n y.4 s) y.2)) 1,.slice 9 0 (List.length (aS (aR y.3 n y.4 s) y.2)) 1,.slice 6 0 (List.length y.2) 1,.map 7,.int .i64 (y.4+1),.ptr 10 0]),some (.ints (some .i64) y.2),some (.imap .i64 none (aR y.3 n y.4 s)),some (.ints (some .i64) (cB (aR y.3 n y.4 s) y.2)),some (.ints (some .i64) (aS (aR y.3 n y.4 s) y.2)),some (.cells [.int .i64 t,.int .i64 n,.slice 11 0 (List.length (aS (aR y.3 n y.4 s) y.2)) 1]),some (.ints (some .i64) (aS (aR y.3 n y.4 s) y.2))]else K (.bool false) [some (.cells [.ptr 1 0,.ptr 5 0]),some (.cells [.int .i64 t,.int .i64 n,.int .i64 me,.int .i64 sp,.slice 4 0 (List.length R) 1]),some (.cells [.int .i64 s.1,.int .i64 s.2,.slice 3 0 (List.length s.3) 1,.int .i64 (s.4+1),.int .i64 1,.int .i64 (bH n y.4),.int .u64 (aA s.3 (bH n y.4)),.int .u64 (aA s.3 (bH n y.4)),.bool (bR s.3 (bH n y.4))]),some (.ints (some .u64) s.3),some (.ints (some .i64) R),some (.cells [.int .i64 t,.int .i64 n,.slice 8 0 (List.length (cB (aR y.3 n y.4 s) y.2)) 1,.slice 9 0 (List.length (aS (aR y.3 n y.4 s) y.2)) 1,.slice 6 0 (List.length y.2) 1,.map 7,.int .i64 (y.4+1),.ptr 10 0]),some (.ints (some .i64) y.2),some (.imap .i64 none (aR y.3 n y.4 s)),some (.ints (some .i64) (cB (aR y.3 n y.4 s) y.2)),some (.ints (some .i64) (aS (aR y.3 n y.4 s) y.2)),some (.cells [.int .i64 t,.int .i64 n,.slice 11 0 (List.length (aS (aR y.3 n y.4 s) y.2)) 1]),some (.ints (some .i64) (aS (aR y.3 n y.4 s) y.2))]else K (.bool false) [some (.cells [.ptr 1 0,.ptr 5 0]),some (.cells [.int .i64 t,.int .i64 n,.int .i64 me,.int .i64 sp,.slice 4 0 (List.length R) 1]),some (.cells [.int .i64 s.1,.int .i64 s.2,.slice 3 0 (List.length s.3) 1,.int .i64 (s.4+1),.int .i64 1,.int .i64 (bH n y.4),.int .u64 (aA s.3 (bH n y.4)),.int .u64 (aA s.3 (bH n y.4)),.bool (bR s.3 (bH n y.4))]),some (.ints (some .u64) s.3),some (.ints (some .i64) R),some (.cells [.int .i64 t,.int .i64 n,.raw (Value.slice none 0 0),.raw (Value.slice none 0 0),.slice 6 0 (List.length y.2) 1,.map 7,.int .i64 (y.4+1),.raw (Value.pointer none)]),some (.ints (some .i64) y.2),some (.imap .i64 none (aR y.3 n y.4 s))]
theorem XO(t n me sp:Int)(R:List Int)(y:SWS)(s:MS)(K:AVal→aC Ob→Prop)(hK:LY t n me sp R y s K):cT' 195 [.ptr 0 0,.ptr 2 0] [some (.cells [.ptr 1 0,.ptr 5 0]),some (.cells [.int .i64 t,.int .i64 n,.int .i64 me,.int .i64 sp,.slice 4 0 R.length 1]),aX 3 s,aY s,some (.ints (some .i64) R),some (.cells [.int .i64 t,.int .i64 n,.raw (.slice none 0 0),.raw (.slice none 0 0),.slice 6 0 y.N.length 1,.map 7,.int .i64 y.i,.raw (.pointer none)]),some (.ints (some .i64) y.N),some (.imap .i64 none y.m)] K:=
 (jW nM) _ _ _ (Ev.get (aU (p:=oC swStepS [.ptr 0 0,.ptr 2 0] [some (.cells [.ptr 1 0,.ptr 5 0]),some (.cells [.int .i64 t,.int .i64 n,.int .i64 me,.int .i64 sp,.slice 4 0 R.length 1]),aX 3 s,aY s,some (.ints (some .i64) R),some (.cells [.int .i64 t,.int .i64 n,.raw (.slice none 0 0),.raw (.slice none 0 0),.slice 6 0 y.N.length 1,.map 7,.int .i64 y.i,.raw (.pointer none)]),some (.ints (some .i64) y.N),some (.imap .i64 none y.m)] K) (q:=LY t n me sp R y s K) (by kernel_rfl) hK))
def LZ(t n me sp:Int)(R:List Int)(y:SWS)(s:MS)(K:AVal→aC Ob→Prop):Prop:=((lE' s.3∧lE' R∧lE' y.5∧lE' y.6∧lE' y.2∧t=t∧n=n∧t=t∧n=n)∧((1:Int)≤t∧t≤(1000:Int))∧((1:Int)≤n∧n≤(1000:Int))∧((0:Int)≤s.4∧s.4≤(1000000:Int))∧2*t≤y.4∧((1:Nat)≤y.9∧List.length y.7=y.8+y.9)∧(-1000000:Int)≤List.getD y.7 (y.8+Int.toNat 0*1) 0∧List.getD y.7 (y.8+Int.toNat 0*1) (0:Int)≤(1000000:Int))∧bif ieq (↑(y.9 - 1):Int) 0 then K (.bool true) [some (.cells [.ptr 1 0,.ptr 5 0]),some (.cells [.int .i64 t,.int .i64 n,.int .i64 me,.int .i64 sp,.slice 6 0 (List.length y.5) 1]),some (.cells [.int .i64 s.1,.int .i64 s.2,.slice 3 0 (List.length (aO s.3 (bK n y.7 y.8) (WU (aA s.3 (bK n y.7 y.8)+1)))) 1,.int .i64 (s.4+1),.int .i64 4,.int .i64 (bK n y.7 y.8),.int .u64 (aA s.3 (bK n y.7 y.8)),.int .u64 (bif bR s.3 (bK n y.7 y.8)then WU (aA s.3 (bK n y.7 y.8)+1)else 0),.bool (bR s.3 (bK n y.7 y.8))]),some (.ints (some .u64) (aO s.3 (bK n y.7 y.8) (WU (aA s.3 (bK n y.7 y.8)+1)))),some (.ints (some .i64) R),some (.cells [.int .i64 t,.int .i64 n,.slice 6 0 (List.length y.5) 1,.slice 7 0 (List.length y.6) 1,.slice 8 0 (List.length y.2) 1,.map 9,.int .i64 y.4,.ptr 10 0]),some (.ints (some .i64) y.5),some (.ints (some .i64) y.6),some (.ints (some .i64) y.2),some (.imap .i64 none y.3),some (.cells [.int .i64 t,.int .i64 n,.slice 11 (y.8+1) (y.9 - 1) 1]),some (.ints (some .i64) y.7)]else K (.bool false) [some (.cells [.ptr 1 0,.ptr 5 0]),some (.cells [.int .i64 t,.int .i64 n,.int .i64 me,.int .i64 sp,.slice 4 0 (List.length R) 1]),some (.cells [.int .i64 s.1,.int .i64 s.2,.slice 3 0 (List.length (aO s.3 (bK n y.7 y.8) (WU (aA s.3 (bK n y.7 y.8)+1)))) 1,.int .i64 (s.4+1),.int .i64 4,.int .i64 (bK n y.7 y.8),.int .u64 (aA s.3 (bK n y.7 y.8)),.int .u64 (bif bR s.3 (bK n y.7 y.8)then WU (aA s.3 (bK n y.7 y.8)+1)else 0),.bool (bR s.3 (bK n y.7 y.8))]),some (.ints (some .u64) (aO s.3 (bK n y.7 y.8) (WU (aA s.3 (bK n y.7 y.8)+1)))),some (.ints (some .i64) R),some (.cells [.int .i64 t,.int .i64 n,.slice 6 0 (List.length y.5) 1,.slice 7 0 (List.length y.6) 1,.slice 8 0 (List.length y.2) 1,.map 9,.int .i64 y.4,.ptr 10 0]),some (.ints (some .i64) y.5),some (.ints (some .i64) y.6),some (.ints (some .i64) y.2),some (.imap .i64 none y.3),some (.cells [.int .i64 t,.int .i64 n,.slice 11 (y.8+1) (y.9 - 1) 1]),some (.ints (some .i64) y.7)]
theorem XP(t n me sp:Int)(R:List Int)(y:SWS)(s:MS)(K:AVal→aC Ob→Prop)(hK:LZ t n me sp R y s K):cT' 195 [.ptr 0 0,.ptr 2 0] [some (.cells [.ptr 1 0,.ptr 5 0]),some (.cells [.int .i64 t,.int .i64 n,.int .i64 me,.int .i64 sp,.slice 4 0 R.length 1]),aX 3 s,aY s,some (.ints (some .i64) R),some (.cells [.int .i64 t,.int .i64 n,.slice 6 0 y.ks.length 1,.slice 7 0 y.fs.length 1,.slice 8 0 y.N.length 1,.map 9,.int .i64 y.i,.ptr 10 0]),some (.ints (some .i64) y.ks),some (.ints (some .i64) y.fs),some (.ints (some .i64) y.N),some (.imap .i64 none y.m),some (.cells [.int .i64 t,.int .i64 n,.slice 11 y.j y.l 1]),some (.ints (some .i64) y.gs)] K:=
 (jW nM) _ _ _ (Ev.get (aU (p:=oC swStepS [.ptr 0 0,.ptr 2 0] [some (.cells [.ptr 1 0,.ptr 5 0]),some (.cells [.int .i64 t,.int .i64 n,.int .i64 me,.int .i64 sp,.slice 4 0 R.length 1]),aX 3 s,aY s,some (.ints (some .i64) R),some (.cells [.int .i64 t,.int .i64 n,.slice 6 0 y.ks.length 1,.slice 7 0 y.fs.length 1,.slice 8 0 y.N.length 1,.map 9,.int .i64 y.i,.ptr 10 0]),some (.ints (some .i64) y.ks),some (.ints (some .i64) y.fs),some (.ints (some .i64) y.N),some (.imap .i64 none y.m),some (.cells [.int .i64 t,.int .i64 n,.slice 11 y.j y.l 1]),some (.ints (some .i64) y.gs)] K) (q:=LZ t n me sp R y s K) (by kernel_rfl) hK))
theorem wc{x y:Option (aG Ob)}{g g2:aC Ob}(h:nY x y)(k:jL g g2):jL (x::g) (y::g2):=⟨h,k⟩
theorem wv{v w:AVal}{vs ws:List AVal}(h:w=v∨w=.O)(k:mU vs ws):mU (v::vs) (w::ws):=⟨h,k⟩
theorem XR:mU [] []:=trivial
theorem WR{vs ws:List AVal}(h:mU vs ws):nY (some (.cells vs):Option (aG Ob)) (some (.cells ws)):=h
theorem X3: ∀vs:List AVal,mU vs vs
 | []=>trivial
 | v::vs=>⟨.inl rfl,X3 vs⟩
theorem WS: ∀x:Option (aG Ob),nY x x
 | none=>trivial
 | some (.cells vs)=>X3 vs
 | some (.ints c xs)=>rfl
 | some (.abs t ps)=>rfl
 | some (.tab ks r)=>rfl
 | some (.imap k v m)=>rfl
theorem DE: ∀g:aC Ob,jL g g
 | []=>trivial
 | x::g=>⟨WS x,DE g⟩
theorem sW{K:AVal→aC Ob→Prop}{v:AVal}{g:aC Ob}(h:K v g):IA K v g:=⟨g,DE g,h⟩
theorem AI{K:AVal→aC Ob→Prop}{v a b:AVal}{g:aC Ob}(h:K v (some (.cells [a,.O])::g)):IA K v (some (.cells [a,b])::g):=⟨_,wc (WR (wv (.inl rfl) (wv (.inr rfl) XR))) (DE g),h⟩
theorem YX(t n:Int)(y:SWS)(st:STS)(s:MS)(K:AVal→aC Ob→Prop)(hp:y.ph=0)(ok:uI t n y st s)(hK:(swF t n y st s).left t n K):cT' 195 [.ptr 0 0,.ptr 2 0] (UO t n y st s) K:=by
 obtain⟨ht,hn,hc,hR,ho⟩:=ok
 obtain⟨ph,N,m,i,ks,fs,gs,j,l⟩:=y
 dsimp only at hp
 subst hp
 obtain⟨me,sp,R⟩:=st
 dsimp only at hR
 refine aD.pack tbl (aD.pack tbl (Z6 ?_))
 refine aD.unpack tbl (.store t n ⟨me,sp,R⟩) 1 0 (jT t n ⟨me,sp,R⟩) [] rfl rfl rfl rfl ?_
 refine aD.unpack tbl (.sweep t n ⟨0,N,m,i,ks,fs,gs,j,l⟩) 0 1 (L0 t n ⟨0,N,m,i,ks,fs,gs,j,l⟩) [1] rfl rfl rfl rfl ?_
 refine XN t n me sp R ⟨0,N,m,i,ks,fs,gs,j,l⟩ s _ ?_
 unfold LX
 exact⟨⟨⟨rfl,rfl⟩,ht,hn,hc,hR⟩,sW (wR (o:=swF t n ⟨0,N,m,i,ks,fs,gs,j,l⟩ ⟨me,sp,R⟩ s) [0,1,2,3,4,5,6,7] hK rfl rfl)⟩
theorem YY(t n:Int)(y:SWS)(st:STS)(s:MS)(K:AVal→aC Ob→Prop)(hp:y.ph=1)(ok:uI t n y st s)(hK:(swF t n y st s).left t n K):cT' 195 [.ptr 0 0,.ptr 2 0] (UO t n y st s) K:=by
 obtain⟨ht,hn,hc,hR,ho⟩:=ok
 obtain⟨ph,N,m,i,ks,fs,gs,j,l⟩:=y
 dsimp only at hp
 subst hp
 obtain⟨me,sp,R⟩:=st
 dsimp only at hR
 refine aD.pack tbl (aD.pack tbl (Z6 ?_))
 refine aD.unpack tbl (.store t n ⟨me,sp,R⟩) 1 0 (jT t n ⟨me,sp,R⟩) [] rfl rfl rfl rfl ?_
 refine aD.unpack tbl (.sweep t n ⟨1,N,m,i,ks,fs,gs,j,l⟩) 0 1 (L0 t n ⟨1,N,m,i,ks,fs,gs,j,l⟩) [1] rfl rfl rfl rfl ?_
 refine XO t n me sp R ⟨1,N,m,i,ks,fs,gs,j,l⟩ s _ ?_
 unfold LY
 have ho:N.length≤1000000∧0≤i∧i<2*t:=ho
 refine⟨⟨⟨rfl,rfl,rfl,rfl,rfl⟩,ht,hn,hc,ho.1,ho.2⟩,?_⟩
 unfold swF at hK
 dsimp only at hK⊢
 cases h1:ieq (i+1) (2*t)with
 | false=>
   rw [h1]at hK
   exact sW (wR (o:=⟨false,⟨1,N,aR m n i s,i+1,ks,fs,gs,j,l⟩,⟨me,sp,R⟩,s.loadd (bH n i)⟩) [0,1,2,3,4,5,6,7] hK rfl rfl)
 | true=>
   rw [h1]at hK
   cases h2:ieq ((aS (aR m n i s) N).length :Int) 0 with
   | true=>
     rw [h2]at hK
     exact AI (wR (o:=⟨true,⟨3,N,m,i,ks,fs,gs,j,l⟩,⟨me,sp,cB (aR m n i s) N⟩,s.loadd (bH n i)⟩) [0,1,2,3,8] hK rfl rfl)
   | false=>
     rw [h2]at hK
     exact sW (wR (o:=⟨false,⟨2,N,aR m n i s,i+1,cB (aR m n i s) N,aS (aR m n i s) N,aS (aR m n i s) N,0,(aS (aR m n i s) N).length⟩,⟨me,sp,R⟩,s.loadd (bH n i)⟩) [0,1,2,3,4,5,8,9,6,7,10,11] hK rfl rfl)
theorem YZ(t n:Int)(y:SWS)(st:STS)(s:MS)(K:AVal→aC Ob→Prop)(hp:y.ph=2)(ok:uI t n y st s)(hK:(swF t n y st s).left t n K):cT' 195 [.ptr 0 0,.ptr 2 0] (UO t n y st s) K:=by
 obtain⟨ht,hn,hc,hR,ho⟩:=ok
 obtain⟨ph,N,m,i,ks,fs,gs,j,l⟩:=y
 dsimp only at hp
 subst hp
 obtain⟨me,sp,R⟩:=st
 dsimp only at hR
 refine aD.pack tbl (aD.pack tbl (Z6 ?_))
 refine aD.unpack tbl (.store t n ⟨me,sp,R⟩) 1 0 (jT t n ⟨me,sp,R⟩) [] rfl rfl rfl rfl ?_
 refine aD.unpack tbl (.sweep t n ⟨2,N,m,i,ks,fs,gs,j,l⟩) 0 1 (L0 t n ⟨2,N,m,i,ks,fs,gs,j,l⟩) [1] rfl rfl rfl rfl ?_
 refine XP t n me sp R ⟨2,N,m,i,ks,fs,gs,j,l⟩ s _ ?_
 unfold LZ
 have ho:2*t≤i∧1≤l∧gs.length=j+l∧ -1000000≤List.getD gs (j+Int.toNat 0*1) 0∧List.getD gs (j+Int.toNat 0*1) 0≤1000000:=ho
 refine⟨⟨⟨rfl,rfl,rfl,rfl,rfl,rfl,rfl,rfl,rfl⟩,ht,hn,hc,ho.1,⟨ho.2.1,ho.2.2.1⟩,ho.2.2.2⟩,?_⟩
 unfold swF at hK
 dsimp only at hK⊢
 cases h1:ieq ((l - 1:Nat):Int) 0 with
 | false=>
   rw [h1]at hK
   exact sW (wR (o:=⟨false,⟨2,N,m,i,ks,fs,gs,j+1,l - 1⟩,⟨me,sp,R⟩,s.added (bK n gs j) 1⟩) [0,1,2,3,4,5,6,7,8,9,10,11] hK rfl rfl)
 | true=>
   rw [h1]at hK
   exact AI (wR (o:=⟨true,⟨3,N,m,i,ks,fs,gs,j,l⟩,⟨me,sp,ks⟩,s.added (bK n gs j) 1⟩) [0,1,2,3,6] hK rfl rfl)
theorem PV(t n:Int)(y:SWS)(st:STS)(s:MS)(K:AVal→aC Ob→Prop)(ok:uI t n y st s)(hK:(swF t n y st s).left t n K):cT' 195 [.ptr 0 0,.ptr 2 0] (UO t n y st s) K:=by
 match h:y.ph with
 | 0=>exact YX t n y st s K h ok hK
 | 1=>exact YY t n y st s K h ok hK
 | 2=>exact YZ t n y st s K h ok hK
 | k+3=>have:=ok.ho;unfold QJ at this;rw [h]at this;exact this.elim
theorem wO{I:Itp Ob}{n:Nat}{K:AVal→aC Ob→Prop}{d:Bool}{a b g:aC Ob}(hK:(Out.ite d (.ret (.bool true) a) (.ret (.bool false) b)).run K)(h1:K (.bool true) a→gX I n K (.bool true) g)(h2:d=false→K (.bool false) b→gX I n K (.bool false) g):gX I n K (.bool d) g:=by
 cases d with
 | true=>exact h1 hK
 | false=>exact h2 rfl hK
abbrev stC(l:Nat)(t n:Int)(st:STS):Option (aG Mc):=some (.cells [.int .i64 t,.int .i64 n,.int .i64 st.me,.int .i64 st.sp,.slice l 0 st.R.length 1])
abbrev nK(st:STS):Option (aG Mc):=some (.ints (some .i64) st.R)
def u4(w:Nat)(h:aC Ob):Option (Nat×Int×Int×STS):=match h with
 | [some (.cells [.int .i64 t,.int .i64 n,.int .i64 me,.int .i64 sp,.slice l 0 len 1]),some (.ints (some .i64) xs)]=>if l=w then some (len,t,n,⟨me,sp,xs⟩)else none
 | _=>none
theorem dK{w:Nat}{h:aC Ob}{l:Nat}{t n:Int}{st:STS}(e:u4 w h=some (l,t,n,st))(hl:l=st.R.length):h=[stC w t n st,nK st]:=by
 unfold u4 at e
 split at e
 ·split at e
  ·rename_i hw
   simp only [sI',pI']at e
   obtain⟨rfl,rfl,rfl,rfl⟩:=e
   subst hw
   simp only at hl;subst hl;rfl
  ·cases e
 ·cases e
theorem nL{f:FuncId}{t n:Int}{st st':STS}{s s':MS}{M:Mc}{e1 e2:aG Mc}{d:Bool}(h1: ∀ι:Nat→Nat,ι 1=1→e1.ren ι=e1)(h2: ∀ι:Nat→Nat,ι 1=1→e2.ren ι=e2)
 (hA: ∀K,(Out.ite d (.ret (.bool true) [some e1,some (.abs (.store t n st') []),aX 3 s',aY s']) (.ret (.bool false) [some e2,some (.abs (.store t n st') []),aX 3 s',aY s'])).run K→cT' f [.ptr 0 0,.ptr 2 0] [some (.abs M [1]),some (.abs (.store t n st) []),aX 3 s,aY s] K)
 (K:AVal→aC Ob→Prop) (hK:(Out.ite d (.ret (.bool true) [some e1,stC 5 t n st',none,aX 4 s',aY s',nK st']) (.ret (.bool false) [some e2,stC 5 t n st',none,aX 4 s',aY s',nK st'])).run K):
 cT' f [.ptr 0 0,.ptr 3 0] [some (.abs M [1]),stC 2 t n st,nK st,aX 4 s,aY s] K:=by
 refine ZW ?_
 refine aAa (h0:=[some (.abs M [1]),stC 4 t n st,aX 3 s,aY s,nK st]) (args0:=[.ptr 0 0,.ptr 2 0]) (K0:=fun v g=>gX (obI tbl) 5 K (v.ren (iota [0,1,3,4,2] 5)) (nS [some (.abs M [1]),stC 2 t n st,nK st,aX 4 s,aY s] [0,1,3,4,2] g)) ?_ [0,1,3,4,2] rfl (by decide) (by intro l hl;simp at hl⊢;omega) ?_ rfl (fun v g hk _=>hk)
 ·refine aAf tbl [some (.abs M [1]),some (.abs (.store t n st) []),aX 3 s,aY s] (.store t n st) 1 0 (jT t n st) [] (by kernel_rfl) rfl rfl (by kernel_rfl) (hA _ ?_)
  have i1:farI 4 1 1=1:=rfl
  have i2:iota [0,1,3,4,2] 5 1=1:=rfl
  cases d with
  | true=>
    have q1:((e1.ren (farI 4 1)).ren (iota [0,1,3,4,2] 5))=e1:=by rw [h1 _ i1,h1 _ i2]
    refine⟨_,_,aQ.trans (aQ.eq (g2:=[some e1,some (.abs (.store t n st') []),none,aX 4 s',aY s']) (by kernel_rfl) ?_) (aQ.unpack (.store t n st') 1 0 (jT t n st') [] rfl rfl rfl rfl),hK⟩
    show [some ((e1.ren (farI 4 1)).ren (iota [0,1,3,4,2] 5)),_,_,_,_]=_
    rw [q1];rfl
  | false=>
    have q2:((e2.ren (farI 4 1)).ren (iota [0,1,3,4,2] 5))=e2:=by rw [h2 _ i1,h2 _ i2]
    refine⟨_,_,aQ.trans (aQ.eq (g2:=[some e2,some (.abs (.store t n st') []),none,aX 4 s',aY s']) (by kernel_rfl) ?_) (aQ.unpack (.store t n st') 1 0 (jT t n st') [] rfl rfl rfl rfl),hK⟩
    show [some ((e2.ren (farI 4 1)).ren (iota [0,1,3,4,2] 5)),_,_,_,_]=_
    rw [q2];rfl
 ·intro i l hi
  match i,hi with
  | 0,hi=>cases hi;rfl
  | 1,hi=>cases hi;rfl
  | 2,hi=>cases hi;rfl
  | 3,hi=>cases hi;rfl
  | 4,hi=>cases hi;rfl
  | _+5,hi=>cases hi
def bT(kd:Int):Bool:=ieq kd 1||ieq kd 4
def nT(sh kd:Int):Bool:=ieq kd 5&&ieq sh 4
def fJ(ky curr cw:Int):Bool:=bif ieq curr 0 then false else ieq (aB cw 0 10) ky
def cI(sh ky:Int):Int:=bif ieq sh 2 then ky%4 else 0
def cT(sh kd ky:Int):Int:=bif ieq sh 2 then ky else bif ieq sh 1 then ky else bif ieq sh 3 then(bif bT kd then 1024 else -1)else -1
def J6:bW Ob:=fun args h=>match args,h with
 | [.agg [.int .i64 t,.int .i64 n],.int .i64 a],[]=>some ((0≤n∧n≤100000)∧(-1000000≤a∧a≤1000000),.int .i64 (n+1+a))
 | _,_=>none
theorem OR:sT' 65 J6.spec:=by
 intro args h o ho K hK
 unfold bW.spec J6 at ho
 split at ho
 case h_2=>cases ho
 rename_i p v hp
 split at hp
 case h_2=>cases hp
 rename_i t n a
 simp only [sI',pI']at hp
 obtain⟨rfl,rfl⟩:=hp
 simp only [sI']at ho;subst ho
 obtain⟨hp,hK⟩:=hK
 have hK:K (.int .i64 (n+1+a)) []:=hK
 refine Y2 (cM' (E:=enE) (q:=K (.int .i64 (W (W (1+n)+a))) []) (by kernel_rfl) ?_)
 simp(disch:=omega) only [W,cE]
 refine cast (congrArg (fun z=>K (AVal.int .i64 z) []) ?_) hK
 omega
def DD:bW Ob:=fun args h=>match args,h with
 | [.agg [.int .i64 k,.int .i64 y,.bool m,.int .i64 c,.int .i64 v]],[]=>some (0≤v∧v≤1000000,.agg [.int .i64 k,.int .i64 y,.bool m,.int .i64 0,.int .i64 (aN v)])
 | _,_=>none
theorem L8:sT' 165 DD.spec:=by
 intro args h o ho K hK
 unfold bW.spec DD at ho
 split at ho
 case h_2=>cases ho
 rename_i p v hp
 split at hp
 case h_2=>cases hp
 rename_i k y m c v
 simp only [sI',pI']at hp
 obtain⟨rfl,rfl⟩:=hp
 simp only [sI']at ho;subst ho
 obtain⟨hp,hK⟩:=hK
 have hK:K (.agg [.int .i64 k,.int .i64 y,.bool m,.int .i64 0,.int .i64 (aN v)]) []:=hK
 refine Y2 (cM' (E:=enE) (q:=K (.agg [.int .i64 k,.int .i64 y,.bool m,.int .i64 0,.int .i64 (W (↑(BitVec.toNat (BitVec.ofInt (IntKind.bits .i64) (W (v+1))&&&BitVec.ofInt (IntKind.bits .i64) 262143)):Int))]) []) (by kernel_rfl) ?_)
 refine cast (congrArg (fun z=>K (.agg [.int .i64 k,.int .i64 y,.bool m,.int .i64 0,.int .i64 z]) []) ?_) hK
 show aN v=_
 have hb:IntKind.bits .i64 =64:=rfl
 simp only [W]
 rw [hb,cE (x:=v+1) (by omega)]
 have:=lN (n:=64) (w:=18) (v+1) (by omega)
 have e:(2:Int)^18 - 1=262143:=by decide
 rw [e]at this
 rw [this]
 have e2:(2:Int)^18=262144:=by decide
 rw [e2,cE (by omega)]
 rfl
def yU:bW Ob:=fun args h=>match args,h with
 | [.agg [.int .i64 k,.int .i64 y,.bool m,.int .i64 c,.int .i64 v],.int .i64 b,.int .i64 x,.bool q],[]=>some (-1000000≤b∧b≤1000000,.agg [.int .i64 k,.int .i64 x,.bool q,.int .i64 (b+1),.int .i64 v])
 | _,_=>none
theorem H3:sT' 168 yU.spec:=by
 intro args h o ho K hK
 unfold bW.spec yU at ho
 split at ho
 case h_2=>cases ho
 rename_i p v hp
 split at hp
 case h_2=>cases hp
 rename_i k y m c v b x q
 simp only [sI',pI']at hp
 obtain⟨rfl,rfl⟩:=hp
 simp only [sI']at ho;subst ho
 obtain⟨hp,hK⟩:=hK
 have hK:K (.agg [.int .i64 k,.int .i64 x,.bool q,.int .i64 (b+1),.int .i64 v]) []:=hK
 refine Y2 (cM' (E:=enE) (q:=K (.agg [.int .i64 k,.int .i64 x,.bool q,.int .i64 (W (b+1)),.int .i64 v]) []) (by kernel_rfl) ?_)
 rw [FP (by omega)]
 exact hK
def yP:bW Ob:=fun args h=>match args,h with
 | [.agg [.int .i64 sh,.int .i64 kd,.int .i64 ky]],[]=>some (True,.bool (bT kd))
 | _,_=>none
theorem H1:sT' 84 yP.spec:=by
 intro args h o ho K hK
 unfold bW.spec yP at ho
 split at ho
 case h_2=>cases ho
 rename_i p v hp
 split at hp
 case h_2=>cases hp
 rename_i sh kd ky
 simp only [sI',pI']at hp
 obtain⟨rfl,rfl⟩:=hp
 simp only [sI']at ho;subst ho
 obtain⟨hp,hK⟩:=hK
 have hK:K (.bool (bT kd)) []:=hK
 refine Y2 (cM' (E:=enE) (q:=bif ieq kd 1 then K (.bool true) []else K (.bool (ieq kd 4)) []) (by kernel_rfl) ?_)
 unfold bT at hK
 cases h:ieq kd 1<;>rw [h]at hK<;>exact hK
def DB:bW Ob:=fun args h=>match args,h with
 | [.agg [.int .i64 sh,.int .i64 kd,.int .i64 ky]],[]=>some (True,.bool (nT sh kd))
 | _,_=>none
theorem L5:sT' 212 DB.spec:=by
 intro args h o ho K hK
 unfold bW.spec DB at ho
 split at ho
 case h_2=>cases ho
 rename_i p v hp
 split at hp
 case h_2=>cases hp
 rename_i sh kd ky
 simp only [sI',pI']at hp
 obtain⟨rfl,rfl⟩:=hp
 simp only [sI']at ho;subst ho
 obtain⟨hp,hK⟩:=hK
 have hK:K (.bool (nT sh kd)) []:=hK
 refine Y2 (cM' (E:=enE) (q:=bif ieq kd 5 then K (.bool (ieq sh 4)) []else K (.bool false) []) (by kernel_rfl) ?_)
 unfold nT at hK
 cases h:ieq kd 5<;>rw [h]at hK<;>exact hK
noncomputable def hasCS:aK Ob:=lU [(.slot 0,.ints (some .i64))] OQ.spec
theorem OP:sT' 124 hasCS:=lV J5
noncomputable def EB0:=((((((enE.addS 124 hasCS OP).addR 65 J6 OR).addR 165 DD L8).addR 168 yU H3).addR 84 yP H1).addR 212 DB L5)
def isS:aK Ob:=fun args h=>match args,h with
 | [.agg [.int .i64 a,.int .i64 b,.int .i64 c,.int .i64 d,.bool m,.int .i64 e,.int .i64 f],.slice 0 0 1 1],[some (.cells [.int .i64 s])]=>some (.ret (.bool (hasB [s] e)) [some (.ints (some .i64) [s])])
 | _,_=>none
theorem VM:sT' 172 isS:=by
 intro args h o ho K hK
 unfold isS at ho
 split at ho<;>cases ho
 rename_i a b c d m e f s
 have hK:K (.bool (hasB [s] e)) [some (.ints (some .i64) [s])]:=hK
 refine Y2 (cM' (E:=EB0) (q:=(1=1∧(1:Nat)≤(4294967296:Nat))∧K (.bool (hasB [s] e)) [some (.ints (some .i64) [s])]) (by kernel_rfl) ?_)
 exact⟨⟨rfl,by omega⟩,hK⟩
noncomputable def EB0b:=EB0.addS 172 isS VM
def IZ:bW Ob:=fun args h=>match args,h with
 | [.int .u64 x],[]=>some (True,.int .i64 (aB x 20 5 - 1))
 | _,_=>none
theorem NA:sT' 161 IZ.spec:=by
 intro args h o ho K hK
 unfold bW.spec IZ at ho
 split at ho
 case h_2=>cases ho
 rename_i p v hp
 split at hp
 case h_2=>cases hp
 rename_i x
 simp only [sI',pI']at hp
 obtain⟨rfl,rfl⟩:=hp
 simp only [sI']at ho;subst ho
 obtain⟨hp,hK⟩:=hK
 have hK:K (.int .i64 (aB x 20 5 - 1)) []:=hK
 refine Y2 (cM' (E:=EB0b) (q:=True∧K (.int .i64 (W (aB x 20 5 - 1))) []) (by kernel_rfl) ?_)
 have hb:0≤aB x 20 5∧aB x 20 5<32:=by
  unfold aB
  have e:(2:Int)^(5:Int).toNat =32:=by decide
  rw [e]
  exact⟨Int.emod_nonneg _ (by decide),Int.emod_lt_of_pos _ (by decide)⟩
 have e1:W (aB x 20 5 - 1)=aB x 20 5 - 1:=cE (by omega)
 rw [e1]
 exact⟨trivial,hK⟩
def B7:bW Ob:=fun args h=>match args,h with
 | [.agg [.int .i64 a,.int .i64 b,.int .i64 c,.int .i64 d,.bool m,.int .i64 e,.int .i64 f],.int .i64 g],[]=>some (True,.agg [.int .i64 a,.int .i64 b,.int .i64 c,.int .i64 d,.bool m,.int .i64 g,.int .i64 f])
 | _,_=>none
theorem JC:sT' 163 B7.spec:=by
 intro args h o ho K hK
 unfold bW.spec B7 at ho
 split at ho
 case h_2=>cases ho
 rename_i p v hp
 split at hp
 case h_2=>cases hp
 rename_i a b c d m e f g
 simp only [sI',pI']at hp
 obtain⟨rfl,rfl⟩:=hp
 simp only [sI']at ho;subst ho
 obtain⟨hp,hK⟩:=hK
 have hK:K (.agg [.int .i64 a,.int .i64 b,.int .i64 c,.int .i64 d,.bool m,.int .i64 g,.int .i64 f]) []:=hK
 refine Y2 (cM' (E:=EB0b) (q:=K (.agg [.int .i64 a,.int .i64 b,.int .i64 c,.int .i64 d,.bool m,.int .i64 g,.int .i64 f]) []) (by kernel_rfl) ?_)
 exact hK
noncomputable def EB0c:=(EB0b.addR 161 IZ NA).addR 163 B7 JC
def yS:bW Ob:=fun args h=>match args,h with
 | [.agg [.int .i64 sh,.int .i64 kd,.int .i64 ky]],[]=>some (True,.agg [.int .i64 (cI sh ky),.int .i64 (cT sh kd ky)])
 | _,_=>none
theorem H2:sT' 131 yS.spec:=by
 intro args h o ho K hK
 unfold bW.spec yS at ho
 split at ho
 case h_2=>cases ho
 rename_i p v hp
 split at hp
 case h_2=>cases hp
 rename_i sh kd ky
 simp only [sI',pI']at hp
 obtain⟨rfl,rfl⟩:=hp
 simp only [sI']at ho;subst ho
 obtain⟨hp,hK⟩:=hK
 have hK:K (.agg [.int .i64 (cI sh ky),.int .i64 (cT sh kd ky)]) []:=hK
 refine Y2 (cM' (E:=EB0c) (q:=bif ieq sh 2 then K (.agg [.int .i64 (W (↑(BitVec.toNat (BitVec.ofInt (IntKind.bits .i64) ky&&&BitVec.ofInt (IntKind.bits .i64) 3)):Int)),.int .i64 ky]) []else bif ieq sh 1 then K (.agg [.int .i64 0,.int .i64 ky]) []else bif ieq sh 2 then K (.agg [.int .i64 0,.int .i64 ky]) []else bif ieq sh 3 then True∧bif bT kd then K (.agg [.int .i64 0,.int .i64 1024]) []else K (.agg [.int .i64 0,.int .i64 (-1:Int)]) []else K (.agg [.int .i64 0,.int .i64 (-1:Int)]) []) (by kernel_rfl) ?_)
 have e4:W (((BitVec.ofInt (IntKind.bits .i64) ky&&&BitVec.ofInt (IntKind.bits .i64) 3).toNat :Nat):Int)=ky%4:=by
  have hb:IntKind.bits .i64 =64:=rfl
  rw [hb]
  have:=lN (n:=64) (w:=2) ky (by omega)
  have e:(2:Int)^2 - 1=3:=by decide
  rw [e]at this
  rw [this]
  have e2:(2:Int)^2=4:=by decide
  rw [e2]
  exact cE (by omega)
 unfold cI cT at hK
 refine aI (fun e=>?_) (fun e=>aI (fun e1=>?_) (fun e1=>aI (fun e2=>?_) (fun e2=>aI (fun e3=>⟨trivial,aI (fun e5=>?_) (fun e5=>?_)⟩) (fun e3=>?_))))
 ·rw [e]at hK;rw [e4];exact hK
 ·rw [e,e1]at hK;exact hK
 ·rw [e]at e2;cases e2
 ·rw [e,e1,e3,e5]at hK;exact hK
 ·rw [e,e1,e3,e5]at hK;exact hK
 ·rw [e,e1,e3]at hK;exact hK
def yB:bW Ob:=fun args h=>match args,h with
 | [.agg [.int .i64 sh,.int .i64 kd,.int .i64 ky,.int .i64 pred,.int .u64 pw,.int .i64 curr,.int .u64 cw]],[]=>some (True,.bool (fJ ky curr cw))
 | _,_=>none
theorem HG:sT' 200 yB.spec:=by
 intro args h o ho K hK
 unfold bW.spec yB at ho
 split at ho
 case h_2=>cases ho
 rename_i p v hp
 split at hp
 case h_2=>cases hp
 rename_i sh kd ky pred pw curr cw
 simp only [sI',pI']at hp
 obtain⟨rfl,rfl⟩:=hp
 simp only [sI']at ho;subst ho
 obtain⟨hp,hK⟩:=hK
 have hK:K (.bool (fJ ky curr cw)) []:=hK
 refine Y2 (cM' (E:=EB0c) (q:=bif !ieq curr 0 then True∧K (.bool (ieq (aB cw 0 10) ky)) []else K (.bool false) []) (by kernel_rfl) ?_)
 unfold fJ at hK
 cases h:ieq curr 0 with
 | true=>rw [h]at hK;exact hK
 | false=>rw [h]at hK;exact⟨trivial,hK⟩
noncomputable def EB1:=(EB0c.addR 131 yS H2).addR 200 yB HG
def QK(v:AVal)(g:aC Ob):Option (Prop×PLN):=match v,g with
 | .agg [.bool now,.int .i64 code,.bool okk,.int .i64 val,.int .i64 addr,.int .u64 old,.int .i64 nxt,.bool mark,.int .i64 pops],[]=>some (True,⟨now,code,okk,val,addr,old,nxt,mark,pops⟩)
 | _,_=>none
def K8(y:PLN):AVal:=.agg [.bool y.now,.int .i64 y.code,.bool y.okk,.int .i64 y.val,.int .i64 y.addr,.int .u64 y.old,.int .i64 y.nxt,.bool y.mark,.int .i64 y.pops]
theorem K7:dH (obI tbl) 0 QK (fun y=>.ret (K8 y) []):=by
 intro v g p x hp hq K hK
 unfold QK at hp
 split at hp
 case h_2=>cases hp
 simp only [sI',pI']at hp
 obtain⟨rfl,rfl⟩:=hp
 exact⟨⟨_,_,aQ.refl _ _ _,hK⟩⟩
def wL(sh kd ky pred pw curr cw spare:Int):Tr (PLN):=.pre True (.ite (!cO sh kd ky) (.pre True (.ret {now:=true,code:=1,okk:=false,val:=0,addr:=0,old:=0,nxt:=0,mark:=false,pops:=0})) (.ite (ieq kd 4) (.ite (ieq kd 4) (.pre True (.pre True (.ret {now:=false,code:=0,okk:=true,val:=0,addr:=pred,old:=pw,nxt:=spare,mark:=ieq (aB pw 19 1) 1,pops:=0}))) (.ite (ieq kd 2) (.pre True (.ite (fJ ky curr cw) (.pre True (.pre True (.ret {now:=false,code:=0,okk:=true,val:=0,addr:=curr,old:=cw,nxt:=aB cw 10 9,mark:=true,pops:=0}))) (.ite (ieq kd 5) (.ite (ieq curr 0) (.pre True (.ret {now:=true,code:=0,okk:=false,val:=0,addr:=0,old:=0,nxt:=0,mark:=false,pops:=0})) (.pre True (.pre True (.ite (nT sh kd) (.pre True (.pre True (.pre True (.ret {now:=false,code:=0,okk:=true,val:=aB cw 0 10,addr:=pred,old:=pw,nxt:=aB cw 10 9,mark:=ieq (aB pw 19 1) 1,pops:=curr})))) (.pre True (.pre True (.ret {now:=false,code:=0,okk:=true,val:=aB cw 0 10,addr:=curr,old:=cw,nxt:=aB cw 10 9,mark:=true,pops:=0}))))))) (.ite (ieq kd 3) (.pre True (.pre True (.ret {now:=true,code:=0,okk:=fJ ky curr cw,val:=0,addr:=0,old:=0,nxt:=0,mark:=false,pops:=0}))) (.pre True (.ret {now:=true,code:=0,okk:=false,val:=0,addr:=0,old:=0,nxt:=0,mark:=false,pops:=0})))))) (.ite (ieq kd 5) (.ite (ieq curr 0) (.pre True (.ret {now:=true,code:=0,okk:=false,val:=0,addr:=0,old:=0,nxt:=0,mark:=false,pops:=0})) (.pre True (.pre True (.ite (nT sh kd) (.pre True (.pre True (.pre True (.ret {now:=false,code:=0,okk:=true,val:=aB cw 0 10,addr:=pred,old:=pw,nxt:=aB cw 10 9,mark:=ieq (aB pw 19 1) 1,pops:=curr})))) (.pre True (.pre True (.ret {now:=false,code:=0,okk:=true,val:=aB cw 0 10,addr:=curr,old:=cw,nxt:=aB cw 10 9,mark:=true,pops:=0}))))))) (.ite (ieq kd 3) (.pre True (.pre True (.ret {now:=true,code:=0,okk:=fJ ky curr cw,val:=0,addr:=0,old:=0,nxt:=0,mark:=false,pops:=0}))) (.pre True (.ret {now:=true,code:=0,okk:=false,val:=0,addr:=0,old:=0,nxt:=0,mark:=false,pops:=0})))))) (.ite (ieq kd 1) (.pre True (.ite (!fJ ky curr cw) (.pre True (.pre True (.ret {now:=false,code:=0,okk:=true,val:=0,addr:=pred,old:=pw,nxt:=spare,mark:=ieq (aB pw 19 1) 1,pops:=0}))) (.ite (ieq kd 2) (.pre True (.ite (fJ ky curr cw) (.pre True (.pre True (.ret {now:=false,code:=0,okk:=true,val:=0,addr:=curr,old:=cw,nxt:=aB cw 10 9,mark:=true,pops:=0}))) (.ite (ieq kd 5) (.ite (ieq curr 0) (.pre True (.ret {now:=true,code:=0,okk:=false,val:=0,addr:=0,old:=0,nxt:=0,mark:=false,pops:=0})) (.pre True (.pre True (.ite (nT sh kd) (.pre True (.pre True (.pre True (.ret {now:=false,code:=0,okk:=true,val:=aB cw 0 10,addr:=pred,old:=pw,nxt:=aB cw 10 9,mark:=ieq (aB pw 19 1) 1,pops:=curr})))) (.pre True (.pre True (.ret {now:=false,code:=0,okk:=true,val:=aB cw 0 10,addr:=curr,old:=cw,nxt:=aB cw 10 9,mark:=true,pops:=0}))))))) (.ite (ieq kd 3) (.pre True (.pre True (.ret {now:=true,code:=0,okk:=fJ ky curr cw,val:=0,addr:=0,old:=0,nxt:=0,mark:=false,pops:=0}))) (.pre True (.ret {now:=true,code:=0,okk:=false,val:=0,addr:=0,old:=0,nxt:=0,mark:=false,pops:=0})))))) (.ite (ieq kd 5) (.ite (ieq curr 0) (.pre True (.ret {now:=true,code:=0,okk:=false,val:=0,addr:=0,old:=0,nxt:=0,mark:=false,pops:=0})) (.pre True (.pre True (.ite (nT sh kd) (.pre True (.pre True (.pre True (.ret {now:=false,code:=0,okk:=true,val:=aB cw 0 10,addr:=pred,old:=pw,nxt:=aB cw 10 9,mark:=ieq (aB pw 19 1) 1,pops:=curr})))) (.pre True (.pre True (.ret {now:=false,code:=0,okk:=true,val:=aB cw 0 10,addr:=curr,old:=cw,nxt:=aB cw 10 9,mark:=true,pops:=0}))))))) (.ite (ieq kd 3) (.pre True (.pre True (.ret {now:=true,code:=0,okk:=fJ ky curr cw,val:=0,addr:=0,old:=0,nxt:=0,mark:=false,pops:=0}))) (.pre True (.ret {now:=true,code:=0,okk:=false,val:=0,addr:=0,old:=0,nxt:=0,mark:=false,pops:=0}))))))) (.ite (ieq kd 2) (.pre True (.ite (fJ ky curr cw) (.pre True (.pre True (.ret {now:=false,code:=0,okk:=true,val:=0,addr:=curr,old:=cw,nxt:=aB cw 10 9,mark:=true,pops:=0}))) (.ite (ieq kd 5) (.ite (ieq curr 0) (.pre True (.ret {now:=true,code:=0,okk:=false,val:=0,addr:=0,old:=0,nxt:=0,mark:=false,pops:=0})) (.pre True (.pre True (.ite (nT sh kd) (.pre True (.pre True (.pre True (.ret {now:=false,code:=0,okk:=true,val:=aB cw 0 10,addr:=pred,old:=pw,nxt:=aB cw 10 9,mark:=ieq (aB pw 19 1) 1,pops:=curr})))) (.pre True (.pre True (.ret {now:=false,code:=0,okk:=true,val:=aB cw 0 10,addr:=curr,old:=cw,nxt:=aB cw 10 9,mark:=true,pops:=0}))))))) (.ite (ieq kd 3) (.pre True (.pre True (.ret {now:=true,code:=0,okk:=fJ ky curr cw,val:=0,addr:=0,old:=0,nxt:=0,mark:=false,pops:=0}))) (.pre True (.ret {now:=true,code:=0,okk:=false,val:=0,addr:=0,old:=0,nxt:=0,mark:=false,pops:=0})))))) (.ite (ieq kd 5) (.ite (ieq curr 0) (.pre True (.ret {now:=true,code:=0,okk:=false,val:=0,addr:=0,old:=0,nxt:=0,mark:=false,pops:=0})) (.pre True (.pre True (.ite (nT sh kd) (.pre True (.pre True (.pre True (.ret {now:=false,code:=0,okk:=true,val:=aB cw 0 10,addr:=pred,old:=pw,nxt:=aB cw 10 9,mark:=ieq (aB pw 19 1) 1,pops:=curr})))) (.pre True (.pre True (.ret {now:=false,code:=0,okk:=true,val:=aB cw 0 10,addr:=curr,old:=cw,nxt:=aB cw 10 9,mark:=true,pops:=0}))))))) (.ite (ieq kd 3) (.pre True (.pre True (.ret {now:=true,code:=0,okk:=fJ ky curr cw,val:=0,addr:=0,old:=0,nxt:=0,mark:=false,pops:=0}))) (.pre True (.ret {now:=true,code:=0,okk:=false,val:=0,addr:=0,old:=0,nxt:=0,mark:=false,pops:=0}))))))))
def aP(sh kd ky pred pw curr cw spare:Int):PLN:=(wL sh kd ky pred pw curr cw spare).val
def yC(sh kd ky pred pw curr cw spare:Int):Prop:=(wL sh kd ky pred pw curr cw spare).ok
def planS:aK Ob:=fun args h=>match args,h with
 | [.agg [.int .i64 sh,.int .i64 kd,.int .i64 ky],.agg [.int .i64 pred,.int .u64 pw,.int .i64 curr,.int .u64 cw],.int .i64 spare],[]=>some (.pre (yC sh kd ky pred pw curr cw spare) (.ret (K8 (aP sh kd ky pred pw curr cw spare)) []))
 | _,_=>none
theorem O6:sT' 157 planS:=by
 intro args h o ho K hK
 unfold planS at ho
 split at ho<;>cases ho
 rename_i sh kd ky pred pw curr cw spare
 obtain⟨ok,hK⟩:=hK
 refine ZJ (root:=0) (pos:=[]) (cs:=[]) K7 ?_
 exact cM' (E:=EB1) (q:=(wL sh kd ky pred pw curr cw spare).run (fun y=>(Out.ret (K8 y) []).run K)) (by kernel_rfl) (ZD ok hK)
def K9(v:AVal)(g:aC Ob):Option (Prop×Int):=match v,g with
 | .int .u64 x,[]=>some (True,x)
 | _,_=>none
def C3(y:Int):AVal:=.int .u64 y
theorem HM:dH (obI tbl) 0 K9 (fun y=>.ret (C3 y) []):=by
 intro v g p x hp hq K hK
 unfold K9 at hp
 split at hp
 case h_2=>cases hp
 simp only [sI',pI']at hp
 obtain⟨rfl,rfl⟩:=hp
 exact⟨⟨_,_,aQ.refl _ _ _,hK⟩⟩
def qX(now:Bool)(code:Int)(okk:Bool)(val:Int)(addr:Int)(old:Int)(nxt:Int)(mark:Bool)(pops:Int):Tr (Int):=.ite now (.pre True (.ret 0)) (.pre True (.pre ((-1000000:Int)≤(0:Int)∧(0:Int)≤(1000000:Int)) (.pre ((0:Int)≤aB old 25 18∧aB old 25 (18:Int)≤(1000000:Int)) (.pre True (.pre True (.ret (bif bif aM (aB old 0 10) 10 then bif aM nxt 9 then bif aM 0 5 then aM (aN (aB old 25 18)) 18 else false else false else false then aV (aB old 0 10) nxt mark 0 (aN (aB old 25 18))else 0)))))))
def cN(now:Bool)(code:Int)(okk:Bool)(val:Int)(addr:Int)(old:Int)(nxt:Int)(mark:Bool)(pops:Int):Int:=(qX now code okk val addr old nxt mark pops).val
def yD(now:Bool)(code:Int)(okk:Bool)(val:Int)(addr:Int)(old:Int)(nxt:Int)(mark:Bool)(pops:Int):Prop:=(qX now code okk val addr old nxt mark pops).ok
def planWS:aK Ob:=fun args h=>match args,h with
 | [.agg [.bool now,.int .i64 code,.bool okk,.int .i64 val,.int .i64 addr,.int .u64 old,.int .i64 nxt,.bool mark,.int .i64 pops]],[]=>some (.pre (yD now code okk val addr old nxt mark pops) (.ret (C3 (cN now code okk val addr old nxt mark pops)) []))
 | _,_=>none
theorem LA:sT' 100 planWS:=by
 intro args h o ho K hK
 unfold planWS at ho
 split at ho<;>cases ho
 rename_i now code okk val addr old nxt mark pops
 obtain⟨ok,hK⟩:=hK
 refine ZJ (root:=0) (pos:=[]) (cs:=[]) HM ?_
 exact cM' (E:=EB1) (q:=(qX now code okk val addr old nxt mark pops).run (fun y=>(Out.ret (C3 y) []).run K)) (by kernel_rfl) (ZD ok hK)
def K5(v:AVal)(g:aC Ob):Option (Prop×Bool):=match v,g with
 | .bool x,[]=>some (True,x)
 | _,_=>none
def C1(y:Bool):AVal:=.bool y
theorem HJ:dH (obI tbl) 0 K5 (fun y=>.ret (C1 y) []):=by
 intro v g p x hp hq K hK
 unfold K5 at hp
 split at hp
 case h_2=>cases hp
 simp only [sI',pI']at hp
 obtain⟨rfl,rfl⟩:=hp
 exact⟨⟨_,_,aQ.refl _ _ _,hK⟩⟩
def qW(now:Bool)(code:Int)(okk:Bool)(val:Int)(addr:Int)(old:Int)(nxt:Int)(mark:Bool)(pops:Int):Tr (Bool):=.ite (!now) (.pre True (.pre True (.ret !ieq (aB old 20 5) 0))) (.pre True (.ret false))
def kW(now:Bool)(code:Int)(okk:Bool)(val:Int)(addr:Int)(old:Int)(nxt:Int)(mark:Bool)(pops:Int):Bool:=(qW now code okk val addr old nxt mark pops).val
def pS(now:Bool)(code:Int)(okk:Bool)(val:Int)(addr:Int)(old:Int)(nxt:Int)(mark:Bool)(pops:Int):Prop:=(qW now code okk val addr old nxt mark pops).ok
def planCS:aK Ob:=fun args h=>match args,h with
 | [.agg [.bool now,.int .i64 code,.bool okk,.int .i64 val,.int .i64 addr,.int .u64 old,.int .i64 nxt,.bool mark,.int .i64 pops]],[]=>some (.pre (pS now code okk val addr old nxt mark pops) (.ret (C1 (kW now code okk val addr old nxt mark pops)) []))
 | _,_=>none
theorem K6:sT' 158 planCS:=by
 intro args h o ho K hK
 unfold planCS at ho
 split at ho<;>cases ho
 rename_i now code okk val addr old nxt mark pops
 obtain⟨ok,hK⟩:=hK
 refine ZJ (root:=0) (pos:=[]) (cs:=[]) HJ ?_
 exact cM' (E:=EB1) (q:=(qW now code okk val addr old nxt mark pops).run (fun y=>(Out.ret (C1 y) []).run K)) (by kernel_rfl) (ZD ok hK)
noncomputable def EB2:=(((EB1.addS 157 planS O6).addS 100 planWS LA).addS 158 planCS K6)
abbrev RG(x:ENS):aG Mc:=.cells [.ptr 1 0,.bool x.sh,.O,.O,.bool x.dn]
theorem NQ{t n:Int}{x:ENS}{st:STS}{s:MS} :aQ (obI tbl) 4 (.bool true) [some (.abs (.ensure t n x) [1]),some (.abs (.store t n st) []),aX 3 s,aY s] (.bool true) [some (RG x),some (.abs (.store t n st) []),aX 3 s,aY s]:=by
 obtain⟨ph,sh,dn,a,y⟩:=x
 match ph with
 | 0=>exact(aQ.unpack (.ensure t n ⟨0,sh,dn,a,y⟩) 0 1 (DP t n ⟨0,sh,dn,a,y⟩) [1] rfl rfl (by kernel_rfl) rfl).trans ((aQ.weak (c8 _ 0 [2,3])).trans ((aQ.pick (upto 0 4) rfl).trans (aQ.eq (by kernel_rfl) (by kernel_rfl))))
 | 1=>exact(aQ.unpack (.ensure t n ⟨1,sh,dn,a,y⟩) 0 1 (DP t n ⟨1,sh,dn,a,y⟩) [1] rfl rfl (by kernel_rfl) rfl).trans ((aQ.weak (c8 _ 0 [2,3])).trans ((aQ.pick (upto 0 4) rfl).trans (aQ.eq (by kernel_rfl) (by kernel_rfl))))
 | 2=>exact(aQ.unpack (.ensure t n ⟨2,sh,dn,a,y⟩) 0 1 (DP t n ⟨2,sh,dn,a,y⟩) [1] rfl rfl (by kernel_rfl) rfl).trans ((aQ.weak (c8 _ 0 [2,3])).trans ((aQ.pick (upto 0 4) rfl).trans (aQ.eq (by kernel_rfl) (by kernel_rfl))))
 | 3=>exact(aQ.unpack (.ensure t n ⟨3,sh,dn,a,y⟩) 0 1 (DP t n ⟨3,sh,dn,a,y⟩) [1] rfl rfl (by kernel_rfl) rfl).trans ((aQ.weak (c8 _ 0 [2,3])).trans ((aQ.pick (upto 0 4) rfl).trans (aQ.eq (by kernel_rfl) (by kernel_rfl))))
 | k+4=>exact(aQ.unpack (.ensure t n ⟨k+4,sh,dn,a,y⟩) 0 1 (DP t n ⟨k+4,sh,dn,a,y⟩) [1] rfl rfl (by kernel_rfl) rfl).trans ((aQ.weak (c8 _ 0 [2,3])).trans ((aQ.pick (upto 0 4) rfl).trans (aQ.eq (by kernel_rfl) (by kernel_rfl))))
def EO.fin(t n:Int)(y:EO):Out Ob:=.ite y.d (.ret (.bool true) [some (RG y.e),some (.abs (.store t n y.st) []),aX 3 y.s,aY y.s]) (.ret (.bool false) [some (.abs (.ensure t n y.e) [1]),some (.abs (.store t n y.st) []),aX 3 y.s,aY y.s])
theorem zO(t n:Int)(e:ENS)(st:STS)(s:MS)(K:AVal→aC Ob→Prop)(ok:okE t n e st s)(hK:((enF t n e st s).fin t n).run K):cT' 85 [.ptr 0 0,.ptr 2 0] (NK t n e st s) K:=by
 refine ZW (DT t n e st s _ ok ?_)
 show gX (obI tbl) 4 K (.bool (enF t n e st s).d) _
 generalize enF t n e st s=y at hK⊢
 exact FA hK (fun h=>⟨⟨_,_,NQ,h⟩⟩) (fun h=>⟨⟨_,_,aQ.refl _ _ _,h⟩⟩)
noncomputable def enSA:aK Ob:=fun args h=>match args,h with
 | [.ptr 0 0,.ptr 2 0],[some (.abs (.ensure t n x) [1]),some (.abs (.store t2 n2 st) []),e3,e4]=>(match eN 3 [e3,e4]with
   | some (l,s)=>some (.pre ((l=s.xs.length∧t2=t∧n2=n)∧okE t n x st s) (EO.fin t n (enF t n x st s)))
   | none=>none)
 | _,_=>none
theorem RL:sT' 85 enSA:=by
 intro args h o ho K hK
 unfold enSA at ho
 split at ho
 case h_2=>cases ho
 split at ho<;>cases ho
 rename_i hm
 obtain⟨⟨⟨hl,rfl,rfl⟩,ok⟩,hK⟩:=hK
 have hh:=bU hm hl
 cases hh
 exact zO _ _ _ _ _ K ok hK
def EO.finB(t n:Int)(y:EO):Out Ob:=.ite y.d (.ret (.bool true) [some (RG y.e),stC 5 t n y.st,none,aX 4 y.s,aY y.s,nK y.st]) (.ret (.bool false) [some (.abs (.ensure t n y.e) [1]),stC 5 t n y.st,none,aX 4 y.s,aY y.s,nK y.st])
noncomputable def enSB:aK Ob:=fun args h=>match args,h with
 | [.ptr 0 0,.ptr 3 0],[some (.abs (.ensure t n x) [1]),e1,e2,e3,e4]=>(match u4 2 [e1,e2],eN 4 [e3,e4]with
   | some (l2,t2,n2,st),some (l,s)=>some (.pre ((l=s.xs.length∧l2=st.R.length∧t2=t∧n2=n)∧okE t n x st s) (EO.finB t n (enF t n x st s)))
   | _,_=>none)
 | _,_=>none
theorem RM:sT' 85 enSB:=by
 intro args h o ho K hK
 unfold enSB at ho
 split at ho
 case h_2=>cases ho
 split at ho<;>cases ho
 rename_i hs hm
 obtain⟨⟨⟨hl,hl2,rfl,rfl⟩,ok⟩,hK⟩:=hK
 have hh:=bU hm hl
 cases hh
 have hh:=dK hs hl2
 cases hh
 exact nL (fun ι hι=>by simp [aG.ren,Y7,AVal.ren,hι]) (fun ι hι=>by simp [aG.ren,hι]) (fun K hK=>zO _ _ _ _ _ K ok hK) K hK
noncomputable def enS2:aK Ob:=aK.or enSA enSB
theorem RK:sT' 85 enS2:=ZM RL RM
abbrev T8(x:SWS):aG Mc:=.cells [.ptr 1 0,.O]
theorem PU{t n:Int}{x:SWS}{st:STS}{s:MS} :aQ (obI tbl) 4 (.bool true) [some (.abs (.sweep t n x) [1]),some (.abs (.store t n st) []),aX 3 s,aY s] (.bool true) [some (T8 x),some (.abs (.store t n st) []),aX 3 s,aY s]:=by
 obtain⟨ph,N,m,i,ks,fs,gs,j,l⟩:=x
 match ph with
 | 0=>exact(aQ.unpack (.sweep t n ⟨0,N,m,i,ks,fs,gs,j,l⟩) 0 1 (L0 t n ⟨0,N,m,i,ks,fs,gs,j,l⟩) [1] rfl rfl (by kernel_rfl) rfl).trans ((aQ.weak (c8 _ 0 [1])).trans ((aQ.pick (upto 0 4) rfl).trans (aQ.eq (by kernel_rfl) (by kernel_rfl))))
 | 1=>exact(aQ.unpack (.sweep t n ⟨1,N,m,i,ks,fs,gs,j,l⟩) 0 1 (L0 t n ⟨1,N,m,i,ks,fs,gs,j,l⟩) [1] rfl rfl (by kernel_rfl) rfl).trans ((aQ.weak (c8 _ 0 [1])).trans ((aQ.pick (upto 0 4) rfl).trans (aQ.eq (by kernel_rfl) (by kernel_rfl))))
 | 2=>exact(aQ.unpack (.sweep t n ⟨2,N,m,i,ks,fs,gs,j,l⟩) 0 1 (L0 t n ⟨2,N,m,i,ks,fs,gs,j,l⟩) [1] rfl rfl (by kernel_rfl) rfl).trans ((aQ.weak (c8 _ 0 [1])).trans ((aQ.pick (upto 0 4) rfl).trans (aQ.eq (by kernel_rfl) (by kernel_rfl))))
 | k+3=>exact(aQ.unpack (.sweep t n ⟨k+3,N,m,i,ks,fs,gs,j,l⟩) 0 1 (L0 t n ⟨k+3,N,m,i,ks,fs,gs,j,l⟩) [1] rfl rfl (by kernel_rfl) rfl).trans ((aQ.weak (c8 _ 0 [1])).trans ((aQ.pick (upto 0 4) rfl).trans (aQ.eq (by kernel_rfl) (by kernel_rfl))))
def SO.fin(t n:Int)(y:SO):Out Ob:=.ite y.d (.ret (.bool true) [some (T8 y.e),some (.abs (.store t n y.st) []),aX 3 y.s,aY y.s]) (.ret (.bool false) [some (.abs (.sweep t n y.e) [1]),some (.abs (.store t n y.st) []),aX 3 y.s,aY y.s])
theorem A8(t n:Int)(e:SWS)(st:STS)(s:MS)(K:AVal→aC Ob→Prop)(ok:uI t n e st s)(hK:((swF t n e st s).fin t n).run K):cT' 195 [.ptr 0 0,.ptr 2 0] (UO t n e st s) K:=by
 refine ZW (PV t n e st s _ ok ?_)
 show gX (obI tbl) 4 K (.bool (swF t n e st s).d) _
 generalize swF t n e st s=y at hK⊢
 exact FA hK (fun h=>⟨⟨_,_,PU,h⟩⟩) (fun h=>⟨⟨_,_,aQ.refl _ _ _,h⟩⟩)
noncomputable def swSA:aK Ob:=fun args h=>match args,h with
 | [.ptr 0 0,.ptr 2 0],[some (.abs (.sweep t n x) [1]),some (.abs (.store t2 n2 st) []),e3,e4]=>(match eN 3 [e3,e4]with
   | some (l,s)=>some (.pre ((l=s.xs.length∧t2=t∧n2=n)∧uI t n x st s) (SO.fin t n (swF t n x st s)))
   | none=>none)
 | _,_=>none
theorem UD:sT' 195 swSA:=by
 intro args h o ho K hK
 unfold swSA at ho
 split at ho
 case h_2=>cases ho
 split at ho<;>cases ho
 rename_i hm
 obtain⟨⟨⟨hl,rfl,rfl⟩,ok⟩,hK⟩:=hK
 have hh:=bU hm hl
 cases hh
 exact A8 _ _ _ _ _ K ok hK
def SO.finB(t n:Int)(y:SO):Out Ob:=.ite y.d (.ret (.bool true) [some (T8 y.e),stC 5 t n y.st,none,aX 4 y.s,aY y.s,nK y.st]) (.ret (.bool false) [some (.abs (.sweep t n y.e) [1]),stC 5 t n y.st,none,aX 4 y.s,aY y.s,nK y.st])
noncomputable def swSB:aK Ob:=fun args h=>match args,h with
 | [.ptr 0 0,.ptr 3 0],[some (.abs (.sweep t n x) [1]),e1,e2,e3,e4]=>(match u4 2 [e1,e2],eN 4 [e3,e4]with
   | some (l2,t2,n2,st),some (l,s)=>some (.pre ((l=s.xs.length∧l2=st.R.length∧t2=t∧n2=n)∧uI t n x st s) (SO.finB t n (swF t n x st s)))
   | _,_=>none)
 | _,_=>none
theorem UE:sT' 195 swSB:=by
 intro args h o ho K hK
 unfold swSB at ho
 split at ho
 case h_2=>cases ho
 split at ho<;>cases ho
 rename_i hs hm
 obtain⟨⟨⟨hl,hl2,rfl,rfl⟩,ok⟩,hK⟩:=hK
 have hh:=bU hm hl
 cases hh
 have hh:=dK hs hl2
 cases hh
 exact nL (fun ι hι=>by simp [aG.ren,Y7,AVal.ren,hι]) (fun ι hι=>by simp [aG.ren,hι]) (fun K hK=>A8 _ _ _ _ _ K ok hK) K hK
noncomputable def swSC:aK Ob:=aK.or swSA swSB
theorem UC:sT' 195 swSC:=ZM UD UE
def RH(t n:Int)(v:AVal)(g:aC Ob):Option (Prop×STS):=match v,g with
 | .ptr 2 0,[e1,e2,some (.cells [.ptr 0 0,.bool false,.raw (.pointer none),.raw (.pointer none),.bool false])]=>(match u4 1 [e1,e2]with
   | some (l2,t2,n2,st)=>some (t2=t∧n2=n∧l2=st.R.length,st)
   | none=>none)
 | _,_=>none
abbrev NO(t n:Int)(y:STS):aC Ob:=[stC 1 t n y,nK y,some (.abs (.ensure t n dENS) [0])]
theorem NP{t n:Int} :dH (obI tbl) 2 (RH t n) (fun y=>.ret (.ptr 2 0) (NO t n y)):=by
 intro v g p x hp hq K hK
 unfold RH at hp
 split at hp
 case h_2=>cases hp
 split at hp
 case h_2=>cases hp
 rename_i l2 t2 n2 st hs
 simp only [sI',pI']at hp
 obtain⟨rfl,rfl⟩:=hp
 obtain⟨rfl,rfl,hl2⟩:=hq
 have hh:=dK hs hl2
 cases hh
 exact⟨⟨_,_,aQ.pack (NO t2 n2 st) (.ensure t2 n2 dENS) 2 1 (DP t2 n2 dENS) [0] (by kernel_rfl) rfl rfl (by kernel_rfl),hK⟩⟩
def zM(t n:Int)(st:STS):Tr STS:=.pre (t=t∧n=n∧lE' st.3) (.ret {me:=st.1,sp:=st.2,R:=st.3})
def enNS:aK Ob:=fun args h=>match args,h with
 | [.ptr 0 0],[e1,e2]=>(match u4 1 [e1,e2]with
   | some (l2,t,n,st)=>some (.pre (l2=st.R.length∧(zM t n st).ok) (.ret (.ptr 2 0) (NO t n (zM t n st).val)))
   | none=>none)
 | _,_=>none
theorem B9:sT' 37 enNS:=by
 intro args h o ho K hK
 unfold enNS at ho
 split at ho
 case h_2=>cases ho
 split at ho<;>cases ho
 rename_i l2 t n st hs
 obtain⟨⟨hl2,ok⟩,hK⟩:=hK
 have hh:=dK hs hl2
 cases hh
 refine ZJ (root:=2) (pos:=[]) (cs:=[]) (parse:=RH t n) NP ?_
 exact cM' (E:=EB2) (q:=(zM t n st).run (fun y=>(Out.ret (.ptr 2 0) (NO t n y)).run K)) (by kernel_rfl) (ZD ok hK)
def T9(t n:Int)(v:AVal)(g:aC Ob):Option (Prop×STS):=match v,g with
 | .ptr 2 0,[e1,e2,some (.cells [.ptr 0 0,.raw (.pointer none)])]=>(match u4 1 [e1,e2]with
   | some (l2,t2,n2,st)=>some (t2=t∧n2=n∧l2=st.R.length,st)
   | none=>none)
 | _,_=>none
abbrev PP(t n:Int)(y:STS):aC Ob:=[stC 1 t n y,nK y,some (.abs (.sweep t n NE) [0])]
theorem PQ{t n:Int} :dH (obI tbl) 2 (T9 t n) (fun y=>.ret (.ptr 2 0) (PP t n y)):=by
 intro v g p x hp hq K hK
 unfold T9 at hp
 split at hp
 case h_2=>cases hp
 split at hp
 case h_2=>cases hp
 rename_i l2 t2 n2 st hs
 simp only [sI',pI']at hp
 obtain⟨rfl,rfl⟩:=hp
 obtain⟨rfl,rfl,hl2⟩:=hq
 have hh:=dK hs hl2
 cases hh
 exact⟨⟨_,_,aQ.pack (PP t2 n2 st) (.sweep t2 n2 NE) 2 1 (L0 t2 n2 NE) [0] (by kernel_rfl) rfl rfl (by kernel_rfl),hK⟩⟩
def UA(t n:Int)(st:STS):Tr STS:=.pre (t=t∧n=n∧lE' st.3) (.ret {me:=st.1,sp:=st.2,R:=st.3})
def swNS:aK Ob:=fun args h=>match args,h with
 | [.ptr 0 0],[e1,e2]=>(match u4 1 [e1,e2]with
   | some (l2,t,n,st)=>some (.pre (l2=st.R.length∧(UA t n st).ok) (.ret (.ptr 2 0) (PP t n (UA t n st).val)))
   | none=>none)
 | _,_=>none
theorem UB:sT' 146 swNS:=by
 intro args h o ho K hK
 unfold swNS at ho
 split at ho
 case h_2=>cases ho
 split at ho<;>cases ho
 rename_i l2 t n st hs
 obtain⟨⟨hl2,ok⟩,hK⟩:=hK
 have hh:=dK hs hl2
 cases hh
 refine ZJ (root:=2) (pos:=[]) (cs:=[]) (parse:=T9 t n) PQ ?_
 exact cM' (E:=EB2) (q:=(UA t n st).run (fun y=>(Out.ret (.ptr 2 0) (PP t n y)).run K)) (by kernel_rfl) (ZD ok hK)
noncomputable def EB3:=(((EB2.addS 85 enS2 RK).addS 195 swSC UC).addS 37 enNS B9).addS 146 swNS UB
structure ClO where
 d:Bool
 x:CLS
 s:MS
instance:Inhabited ClO:=⟨⟨false,⟨0,0,0,0⟩,⟨0,0,[],0,0,0,0,0,false⟩⟩⟩
instance:Inhabited CLS:=⟨⟨0,0,0,0⟩⟩
abbrev W9(t n:Int)(x:CLS)(s:MS):aC Ob:=[some (.abs (.clear t n x) []),aX 2 s,aY s]
abbrev YA(t n:Int)(x:CLS)(s:MS):aC Ob:=[some (.cells [.int .i64 t,.int .i64 n,.int .i64 x.addr,.int .i64 x.at',.int .u64 x.word,.int .u64 x.found]),aX 2 s,aY s]
def ClO.fin(t n:Int)(y:ClO):Out Ob:=.ite y.d (.ret (.bool true) (YA t n y.x y.s)) (.ret (.bool false) (W9 t n y.x y.s))
def Q9(t n:Int)(v:AVal)(g:aC Ob):Option (Prop×ClO):=match v,g with
 | .bool d,[some (.cells [.int .i64 t1,.int .i64 n1,.int .i64 addr,.int .i64 at',.int .u64 word,.int .u64 found]),e1,e2]=>(match eN 2 [e1,e2]with
   | some (l,s)=>some ((t1=t∧n1=n)∧l=s.xs.length,⟨d,⟨addr,at',word,found⟩,s⟩)
   | none=>none)
 | _,_=>none
def MF(t n:Int)(v:AVal)(g:aC Ob):Option (Prop×ClO):=Q9 t n v g
theorem MZ{t n:Int} :dH (obI tbl) 3 (Q9 t n) (ClO.fin t n):=by
 intro v g p x hp hq K hK
 unfold Q9 at hp
 split at hp
 case h_2=>cases hp
 rename_i d t1 n1 addr at' word found e1 e2
 split at hp
 case h_2=>cases hp
 rename_i l s hm
 simp only [sI',pI']at hp
 obtain⟨rfl,rfl⟩:=hp
 obtain⟨⟨rfl,rfl⟩,hl⟩:=hq
 have hh:=bU hm hl
 cases hh
 refine FA hK (fun h=>?_) (fun h=>?_)
 ·exact⟨⟨_,_,aQ.refl _ _ _,h⟩⟩
 ·exact⟨⟨_,_,(aQ.pack (W9 t1 n1 (⟨addr,at',word,found⟩:CLS) s) (.clear t1 n1 (⟨addr,at',word,found⟩:CLS)) 0 0 (kO t1 n1 (⟨addr,at',word,found⟩:CLS)) [] (by kernel_rfl) rfl (congrArg (Prod.mk 0) rfl) (by kernel_rfl)),h⟩⟩
theorem xG{t n:Int} :dH (obI tbl) 3 (MF t n) (ClO.fin t n):=by
 intro v g p x hp hq K hK
 unfold MF at hp
 exact MZ v g p x hp hq K hK
def zE(t n:Int)(x:CLS)(s:MS):Tr ClO:=.pre (lE' s.3∧(0:Int)≤s.4∧s.4≤(4611686018427387904:Int)) (.pre True (.ite (ilt (aB (aA s.3 x.1) 20 5 - 1) 0) (.pre ((t=t∧n=n)∧lE' s.3) (.ret {d:=true,x:= {addr:=x.1,at':=1,word:=aA s.3 x.1,found:=x.4},s:= {s with c:=s.4+1,k:=1,a:=x.1,o:=aA s.3 x.1,w:=aA s.3 x.1,ok:=bR s.3 x.1} })) (.pre ((t=t∧n=n)∧lE' s.3) (.ret {d:=ile t (aB (aA s.3 x.1) 20 5 - 1),x:= {addr:=x.1,at':=1,word:=aA s.3 x.1,found:=x.4},s:= {s with c:=s.4+1,k:=1,a:=x.1,o:=aA s.3 x.1,w:=aA s.3 x.1,ok:=bR s.3 x.1} }))))
theorem FV(t n:Int)(x:CLS)(s:MS)(K:ClO→Prop)(h:(zE t n x s).run K):cT' 96 [.ptr 0 0,.ptr 1 0] [some (.cells [.int .i64 t,.int .i64 n,.int .i64 x.addr,.int .i64 0,.int .u64 x.word,.int .u64 x.found]),aX 2 s,aY s] (eB 3 0 [] [] (MF t n) K):=by
 exact cM' (E:=EB3) (by kernel_rfl) h
def zF(t n:Int)(x:CLS)(s:MS):Tr ClO:=.pre True (.pre ((((0:Int)≤t∧t≤(100000:Int))∧((0:Int)≤n∧n≤(100000:Int))∧(-1099511627776:Int)≤aB x.3 20 5 - 1∧aB x.3 20 5 - (1:Int)≤(1099511627776:Int))∧True) (.pre ((lE' s.3∧(0:Int)≤s.4∧s.4≤(4611686018427387904:Int))∧True) (.pre True (.ite (hasB [2] (aB (aA s.3 (2*n+5+2*t+3*(aB x.3 20 5 - 1)+2)) 49 3)) (.ite (ieq (aB (aA s.3 (2*n+5+2*t+3*(aB x.3 20 5 - 1)+2)) 12 9) x.1) (.pre True (.ite (ieq (aB (aA s.3 (2*n+5+2*t+3*(aB x.3 20 5 - 1)+2)) 21 18) (aB x.3 25 18)) (.pre ((t=t∧n=n)∧lE' s.3) (.ret {d:=false,x:= {addr:=x.1,at':=2,word:=x.3,found:=aA s.3 (2*n+5+2*t+3*(aB x.3 20 5 - 1)+2) },s:= {s with c:=s.4+1,k:=1,a:=2*n+5+2*t+3*(aB x.3 20 5 - 1)+2,o:=aA s.3 (2*n+5+2*t+3*(aB x.3 20 5 - 1)+2),w:=aA s.3 (2*n+5+2*t+3*(aB x.3 20 5 - 1)+2),ok:=bR s.3 (2*n+5+2*t+3*(aB x.3 20 5 - 1)+2) } })) (.pre ((t=t∧n=n)∧lE' s.3) (.ret {d:=false,x:= {addr:=x.1,at':=3,word:=x.3,found:=aA s.3 (2*n+5+2*t+3*(aB x.3 20 5 - 1)+2) },s:= {s with c:=s.4+1,k:=1,a:=2*n+5+2*t+3*(aB x.3 20 5 - 1)+2,o:=aA s.3 (2*n+5+2*t+3*(aB x.3 20 5 - 1)+2),w:=aA s.3 (2*n+5+2*t+3*(aB x.3 20 5 - 1)+2),ok:=bR s.3 (2*n+5+2*t+3*(aB x.3 20 5 - 1)+2) } })))) (.pre ((t=t∧n=n)∧lE' s.3) (.ret {d:=false,x:= {addr:=x.1,at':=3,word:=x.3,found:=aA s.3 (2*n+5+2*t+3*(aB x.3 20 5 - 1)+2) },s:= {s with c:=s.4+1,k:=1,a:=2*n+5+2*t+3*(aB x.3 20 5 - 1)+2,o:=aA s.3 (2*n+5+2*t+3*(aB x.3 20 5 - 1)+2),w:=aA s.3 (2*n+5+2*t+3*(aB x.3 20 5 - 1)+2),ok:=bR s.3 (2*n+5+2*t+3*(aB x.3 20 5 - 1)+2) } }))) (.pre ((t=t∧n=n)∧lE' s.3) (.ret {d:=false,x:= {addr:=x.1,at':=3,word:=x.3,found:=aA s.3 (2*n+5+2*t+3*(aB x.3 20 5 - 1)+2) },s:= {s with c:=s.4+1,k:=1,a:=2*n+5+2*t+3*(aB x.3 20 5 - 1)+2,o:=aA s.3 (2*n+5+2*t+3*(aB x.3 20 5 - 1)+2),w:=aA s.3 (2*n+5+2*t+3*(aB x.3 20 5 - 1)+2),ok:=bR s.3 (2*n+5+2*t+3*(aB x.3 20 5 - 1)+2) } }))))))
theorem FX(t n:Int)(x:CLS)(s:MS)(K:ClO→Prop)(h:(zF t n x s).run K):cT' 96 [.ptr 0 0,.ptr 1 0] [some (.cells [.int .i64 t,.int .i64 n,.int .i64 x.addr,.int .i64 1,.int .u64 x.word,.int .u64 x.found]),aX 2 s,aY s] (eB 3 0 [] [] (MF t n) K):=by
 exact cM' (E:=EB3) (by kernel_rfl) h
def zG(t n:Int)(x:CLS)(s:MS):Tr ClO:=.pre True (.pre True (.pre True (.pre True (.pre ((((0:Int)≤t∧t≤(100000:Int))∧((0:Int)≤n∧n≤(100000:Int))∧(-1099511627776:Int)≤aB x.3 20 5 - 1∧aB x.3 20 5 - (1:Int)≤(1099511627776:Int))∧True) (.pre ((lE' s.3∧(0:Int)≤s.4∧s.4≤(4611686018427387904:Int))∧True) (.pre ((t=t∧n=n)∧lE' (bif aZ s.3 (2*n+5+2*t+3*(aB x.3 20 5 - 1)+2) x.4 then aO s.3 (2*n+5+2*t+3*(aB x.3 20 5 - 1)+2) (bif dOk (aB x.4 0 12) (aB x.4 12 9) (aB x.4 21 18) (aB x.4 39 9) 3 (aB x.4 52 10)then lW (aB x.4 0 12) (aB x.4 12 9) (aB x.4 21 18) (aB x.4 39 9) (ieq (aB x.4 48 1) 1) 3 (aB x.4 52 10)else 0)else s.3)) (.ret {d:=false,x:= {x with at':=3},s:= {t:=s.1,n:=s.2,xs:=bif aZ s.3 (2*n+5+2*t+3*(aB x.3 20 5 - 1)+2) x.4 then aO s.3 (2*n+5+2*t+3*(aB x.3 20 5 - 1)+2) (bif dOk (aB x.4 0 12) (aB x.4 12 9) (aB x.4 21 18) (aB x.4 39 9) 3 (aB x.4 52 10)then lW (aB x.4 0 12) (aB x.4 12 9) (aB x.4 21 18) (aB x.4 39 9) (ieq (aB x.4 48 1) 1) 3 (aB x.4 52 10)else 0)else s.3,c:=s.4+1,k:=3,a:=2*n+5+2*t+3*(aB x.3 20 5 - 1)+2,o:=aA s.3 (2*n+5+2*t+3*(aB x.3 20 5 - 1)+2),w:=bif bR s.3 (2*n+5+2*t+3*(aB x.3 20 5 - 1)+2)then bif dOk (aB x.4 0 12) (aB x.4 12 9) (aB x.4 21 18) (aB x.4 39 9) 3 (aB x.4 52 10)then lW (aB x.4 0 12) (aB x.4 12 9) (aB x.4 21 18) (aB x.4 39 9) (ieq (aB x.4 48 1) 1) 3 (aB x.4 52 10)else 0 else 0,ok:=aZ s.3 (2*n+5+2*t+3*(aB x.3 20 5 - 1)+2) x.4} })))))))
theorem FY(t n:Int)(x:CLS)(s:MS)(K:ClO→Prop)(h:(zG t n x s).run K):cT' 96 [.ptr 0 0,.ptr 1 0] [some (.cells [.int .i64 t,.int .i64 n,.int .i64 x.addr,.int .i64 2,.int .u64 x.word,.int .u64 x.found]),aX 2 s,aY s] (eB 3 0 [] [] (MF t n) K):=by
 exact cM' (E:=EB3) (by kernel_rfl) h
def zH(t n:Int)(x:CLS)(s:MS):Tr ClO:=.pre True (.pre ((0:Int)≤aB x.3 25 18∧aB x.3 25 (18:Int)≤(1000000:Int)) (.pre True (.pre ((lE' s.3∧(0:Int)≤s.4∧s.4≤(4611686018427387904:Int))∧True) (.pre ((t=t∧n=n)∧lE' (bif aZ s.3 x.1 x.3 then aO s.3 x.1 (bif bif aM (aB x.3 0 10) 10 then bif aM (aB x.3 10 9) 9 then bif aM 0 5 then aM (aN (aB x.3 25 18)) 18 else false else false else false then aV (aB x.3 0 10) (aB x.3 10 9) (ieq (aB x.3 19 1) 1) 0 (aN (aB x.3 25 18))else 0)else s.3)) (.ret {d:=true,x:= {x with at':=3},s:= {t:=s.1,n:=s.2,xs:=bif aZ s.3 x.1 x.3 then aO s.3 x.1 (bif bif aM (aB x.3 0 10) 10 then bif aM (aB x.3 10 9) 9 then bif aM 0 5 then aM (aN (aB x.3 25 18)) 18 else false else false else false then aV (aB x.3 0 10) (aB x.3 10 9) (ieq (aB x.3 19 1) 1) 0 (aN (aB x.3 25 18))else 0)else s.3,c:=s.4+1,k:=3,a:=x.1,o:=aA s.3 x.1,w:=bif bR s.3 x.1 then bif bif aM (aB x.3 0 10) 10 then bif aM (aB x.3 10 9) 9 then bif aM 0 5 then aM (aN (aB x.3 25 18)) 18 else false else false else false then aV (aB x.3 0 10) (aB x.3 10 9) (ieq (aB x.3 19 1) 1) 0 (aN (aB x.3 25 18))else 0 else 0,ok:=aZ s.3 x.1 x.3} })))))
theorem FZ(t n:Int)(x:CLS)(s:MS)(K:ClO→Prop)(h:(zH t n x s).run K):cT' 96 [.ptr 0 0,.ptr 1 0] [some (.cells [.int .i64 t,.int .i64 n,.int .i64 x.addr,.int .i64 3,.int .u64 x.word,.int .u64 x.found]),aX 2 s,aY s] (eB 3 0 [] [] (MF t n) K):=by
 exact cM' (E:=EB3) (by kernel_rfl) h
def UL(t n:Int)(x:CLS)(s:MS):Tr ClO:=
 bif ieq x.at' 0 then zE t n x s else
 bif ieq x.at' 1 then zF t n x s else
 bif ieq x.at' 2 then zG t n x s else
 bif ieq x.at' 3 then zH t n x s else .pre False (.ret default)
def eA(t n:Int)(x:CLS)(s:MS):ClO:=(UL t n x s).val
def MY(t n:Int)(x:CLS)(s:MS):Prop:=(UL t n x s).ok
theorem M7(t n:Int)(x:CLS)(s:MS)(K:AVal→aC Ob→Prop)(h:(UL t n x s).run (fun y=>(ClO.fin t n y).run K)):cT' 96 [.ptr 0 0,.ptr 1 0] (W9 t n x s) K:=by
 unfold UL at h
 by_cases e:x.at'=0
 ·rw [e]at h
  have h:(zE t n x s).run _:=h
  refine ZB (root:=0) (pos:=[]) (cs:=[]) (parse:=MF t n) (fin:=ClO.fin t n) xG (cV.unpack (.clear t n x) 0 0 (kO t n x) [] rfl (congrArg (Prod.mk 0) rfl) (by kernel_rfl) rfl) ?_
  have q:=FV t n x s _ h
  rw [←e]at q
  exact q
 rw [fK e]at h
 by_cases e:x.at'=1
 ·rw [e]at h
  have h:(zF t n x s).run _:=h
  refine ZB (root:=0) (pos:=[]) (cs:=[]) (parse:=MF t n) (fin:=ClO.fin t n) xG (cV.unpack (.clear t n x) 0 0 (kO t n x) [] rfl (congrArg (Prod.mk 0) rfl) (by kernel_rfl) rfl) ?_
  have q:=FX t n x s _ h
  rw [←e]at q
  exact q
 rw [fK e]at h
 by_cases e:x.at'=2
 ·rw [e]at h
  have h:(zG t n x s).run _:=h
  refine ZB (root:=0) (pos:=[]) (cs:=[]) (parse:=MF t n) (fin:=ClO.fin t n) xG (cV.unpack (.clear t n x) 0 0 (kO t n x) [] rfl (congrArg (Prod.mk 0) rfl) (by kernel_rfl) rfl) ?_
  have q:=FY t n x s _ h
  rw [←e]at q
  exact q
 rw [fK e]at h
 by_cases e:x.at'=3
 ·rw [e]at h
  have h:(zH t n x s).run _:=h
  refine ZB (root:=0) (pos:=[]) (cs:=[]) (parse:=MF t n) (fin:=ClO.fin t n) xG (cV.unpack (.clear t n x) 0 0 (kO t n x) [] rfl (congrArg (Prod.mk 0) rfl) (by kernel_rfl) rfl) ?_
  have q:=FZ t n x s _ h
  rw [←e]at q
  exact q
 rw [fK e]at h
 exact h.1.elim
noncomputable def clS:aK Ob:=fun args h=>match args,h with
 | [.ptr 0 0,.ptr 1 0],[some (.abs (.clear t n x) []),e1,e2]=>(match eN 2 [e1,e2]with
   | some (l,s)=>some (.pre (l=s.xs.length∧MY t n x s) (ClO.fin t n (eA t n x s)))
   | none=>none)
 | _,_=>none
theorem UX:sT' 96 clS:=by
 intro args h o ho K hK
 unfold clS at ho
 split at ho
 case h_2=>cases ho
 split at ho<;>cases ho
 rename_i hm
 obtain⟨⟨hl,ok⟩,hK⟩:=hK
 have hh:=bU hm hl
 cases hh
 exact M7 _ _ _ _ K (ZD ok hK)
def Q6(t n:Int)(v:AVal)(g:aC Ob):Option (Prop×CLS):=match v,g with
 | .ptr 0 0,[some (.cells [.int .i64 t1,.int .i64 n1,.int .i64 addr,.int .i64 at',.int .u64 word,.int .u64 found])]=>some ((t1=t∧n1=n),(⟨addr,at',word,found⟩:CLS))
 | _,_=>none
abbrev MV(t n:Int)(y:CLS):aC Ob:=[some (.abs (.clear t n y) [])]
theorem MX{t n:Int} :dH (obI tbl) 0 (Q6 t n) (fun y=>.ret (.ptr 0 0) (MV t n y)):=by
 intro v g p x hp hq K hK
 unfold Q6 at hp
 split at hp
 case h_2=>cases hp
 rename_i t1 n1 addr at' word found
 simp only [sI',pI']at hp
 obtain⟨rfl,rfl⟩:=hp
 obtain⟨rfl,rfl⟩:=hq
 exact⟨⟨_,_,aQ.pack (MV t1 n1 (⟨addr,at',word,found⟩:CLS)) (.clear t1 n1 (⟨addr,at',word,found⟩:CLS)) 0 0 (kO t1 n1 (⟨addr,at',word,found⟩:CLS)) [] (by kernel_rfl) rfl (congrArg (Prod.mk 0) rfl) (by kernel_rfl),hK⟩⟩
def Q7(t n:Int)(a:Int):Tr CLS:=.pre (t=t∧n=n) (.ret {addr:=a,at':=0,word:=0,found:=0})
def zD(t n:Int)(a:Int):CLS:=(Q7 t n a).val
def rP(t n:Int)(a:Int):Prop:=(Q7 t n a).ok
def clNS:aK Ob:=fun args h=>match args,h with
 | [.agg [.int .i64 t,.int .i64 n],.int .i64 a],[]=>some (.pre (rP t n a) (.ret (.ptr 0 0) (MV t n (zD t n a))))
 | _,_=>none
theorem Q8:sT' 159 clNS:=by
 intro args h o ho K hK
 unfold clNS at ho
 split at ho<;>cases ho
 rename_i t n a
 obtain⟨ok,hK⟩:=hK
 refine ZJ (root:=0) (pos:=[]) (cs:=[]) (parse:=Q6 t n) MX ?_
 exact cM' (E:=EB3) (q:=(Q7 t n a).run (fun y=>(Out.ret (.ptr 0 0) (MV t n y)).run K)) (by kernel_rfl) (ZD ok hK)
noncomputable def EC1:=((EB3.addS 96 clS UX).addS 159 clNS Q8)
noncomputable def EQ1:=((EC1))
noncomputable def EQ2:=EQ1
noncomputable def EQ:=EQ2
structure HdO where
 d:Bool
 x:HDS
 s:MS
instance:Inhabited HdO:=⟨⟨false,⟨0,0,0,false⟩,⟨0,0,[],0,0,0,0,0,false⟩⟩⟩
instance:Inhabited HDS:=⟨⟨0,0,0,false⟩⟩
abbrev YS(t n:Int)(x:HDS)(s:MS):aC Ob:=[some (.abs (.head t n x) []),aX 2 s,aY s]
abbrev YR(t n:Int)(x:HDS)(s:MS):aC Ob:=[some (.cells [.int .i64 t,.int .i64 n,.int .i64 x.u,.int .u64 x.no,.int .i64 x.at',.bool x.tk]),aX 2 s,aY s]
def HdO.fin(t n:Int)(y:HdO):Out Ob:=.ite y.d (.ret (.bool true) (YR t n y.x y.s)) (.ret (.bool false) (YS t n y.x y.s))
noncomputable def EC2:=((EQ))
structure DrO where
 d:Bool
 x:DRS
 s:MS
instance:Inhabited DrO:=⟨⟨false,⟨0,0⟩,⟨0,0,[],0,0,0,0,0,false⟩⟩⟩
instance:Inhabited DRS:=⟨⟨0,0⟩⟩
abbrev YG(t n:Int)(x:DRS)(s:MS):aC Ob:=[some (.abs (.drop t n x) []),aX 2 s,aY s]
abbrev YF(t n:Int)(x:DRS)(s:MS):aC Ob:=[some (.cells [.int .i64 t,.int .i64 n,.int .i64 x.th,.int .i64 x.at']),aX 2 s,aY s]
def DrO.fin(t n:Int)(y:DrO):Out Ob:=.ite y.d (.ret (.bool true) (YF t n y.x y.s)) (.ret (.bool false) (YG t n y.x y.s))
noncomputable def EC3:=((EC2))
structure AnO where
 d:Bool
 x:ANS
 s:MS
instance:Inhabited AnO:=⟨⟨false,⟨0,0,0,0,false,0⟩,⟨0,0,[],0,0,0,0,0,false⟩⟩⟩
instance:Inhabited ANS:=⟨⟨0,0,0,0,false,0⟩⟩
abbrev X7(t n:Int)(x:ANS)(s:MS):aC Ob:=[some (.abs (.announce t n x) []),aX 2 s,aY s]
abbrev X6(t n:Int)(x:ANS)(s:MS):aC Ob:=[some (.cells [.int .i64 t,.int .i64 n,.int .u64 x.no,.int .i64 x.me,.int .i64 x.at',.int .u64 x.bits,.bool x.wrong,.int .u64 x.found]),aX 2 s,aY s]
def AnO.fin(t n:Int)(y:AnO):Out Ob:=.ite y.d (.ret (.bool true) (X6 t n y.x y.s)) (.ret (.bool false) (X7 t n y.x y.s))
noncomputable def EC4:=((EC3))
structure AwO where
 d:Bool
 x:AWS
 s:MS
instance:Inhabited AwO:=⟨⟨false,⟨0,false,0,0⟩,⟨0,0,[],0,0,0,0,0,false⟩⟩⟩
instance:Inhabited AWS:=⟨⟨0,false,0,0⟩⟩
abbrev X9(t n:Int)(x:AWS)(s:MS):aC Ob:=[some (.abs (.answer t n x) []),aX 2 s,aY s]
abbrev X8(t n:Int)(x:AWS)(s:MS):aC Ob:=[some (.cells [.int .i64 t,.int .i64 n,.int .i64 x.code,.bool x.okk,.int .i64 x.val,.int .i64 x.me]),aX 2 s,aY s]
def AwO.fin(t n:Int)(y:AwO):Out Ob:=.ite y.d (.ret (.bool true) (X8 t n y.x y.s)) (.ret (.bool false) (X9 t n y.x y.s))
noncomputable def EC5:=((EC4))
noncomputable def EX1:=EC5
noncomputable def EX2:=(EX1)
instance:Inhabited STS:=⟨⟨0,0,[]⟩⟩
structure ExO where
 d:Bool
 x:EXS
 s:MS
instance:Inhabited ExO:=⟨⟨false,UZ,⟨0,0,[],0,0,0,0,0,false⟩⟩⟩
instance:Inhabited EXS:=⟨UZ⟩
abbrev YP(t n:Int)(x:EXS)(s:MS):aC Ob:=[some (.abs (.exec t n x) []),aX 2 s,aY s]
abbrev YO(t n:Int)(x:EXS)(s:MS):aC Ob:=[some (.cells [.int .i64 t,.int .i64 n,.int .i64 x.popped,.int .i64 x.gave,.int .i64 x.u,.int .i64 x.sh,.int .i64 x.kd,.int .i64 x.ky,.bool x.only,.int .i64 x.att,.int .i64 x.at',.int .u64 x.found,.int .u64 x.word]),aX 2 s,aY s]
def ExO.fin(t n:Int)(y:ExO):Out Ob:=.ite y.d (.ret (.bool true) (YO t n y.x y.s)) (.ret (.bool false) (YP t n y.x y.s))
noncomputable def EC6:=((EX2))
structure PrO where
 d:Bool
 x:PRS
 st:STS
 s:MS
instance:Inhabited PrO:=⟨⟨false,⟨0,0,0,false⟩,⟨0,0,[]⟩,⟨0,0,[],0,0,0,0,0,false⟩⟩⟩
instance:Inhabited PRS:=⟨⟨0,0,0,false⟩⟩
abbrev W4(t n:Int)(x:PRS)(st:STS)(s:MS):aC Ob:=[some (.abs (.prepare t n x) [1]),some (.abs (.store t n st) []),aX 3 s,aY s]
abbrev X1(t n:Int)(x:PRS)(st:STS)(s:MS):aC Ob:=[some (.cells [.ptr 1 0,.int .i64 x.key,.int .i64 x.nxt,.int .u64 x.found,.bool x.loaded]),some (.abs (.store t n st) []),aX 3 s,aY s]
def PrO.fin(t n:Int)(y:PrO):Out Ob:=.ite y.d (.ret (.bool true) (X1 t n y.x y.st y.s)) (.ret (.bool false) (W4 t n y.x y.st y.s))
def TJ(t n:Int)(v:AVal)(g:aC Ob):Option (Prop×PrO):=match v,g with
 | .bool d,[some (.cells [.ptr 1 0,.int .i64 key,.int .i64 nxt,.int .u64 found,.bool loaded]),e1,e3,e4,e2]=>(match u4 4 [e1,e2],eN 3 [e3,e4]with
   | some (l2,t2,n2,st),some (l,s)=>some ((t2=t∧n2=n)∧l=s.xs.length∧l2=st.R.length,⟨d,⟨key,nxt,found,loaded⟩,st,s⟩)
   | _,_=>none)
 | _,_=>none
def W5(t n:Int)(v:AVal)(g:aC Ob):Option (Prop×PrO):=TJ t n v g
theorem PC{t n:Int} :dH (obI tbl) 4 (TJ t n) (PrO.fin t n):=by
 intro v g p x hp hq K hK
 unfold TJ at hp
 split at hp
 case h_2=>cases hp
 rename_i d key nxt found loaded e1 e3 e4 e2
 split at hp
 case h_2=>cases hp
 rename_i l2 t2 n2 st l s hs hm
 simp only [sI',pI']at hp
 obtain⟨rfl,rfl⟩:=hp
 obtain⟨⟨rfl,rfl⟩,hl,hl2⟩:=hq
 have hh:=bU hm hl
 cases hh
 have hh:=dK hs hl2
 cases hh
 refine FA hK (fun h=>?_) (fun h=>?_)
 ·exact⟨⟨_,_,(aQ.pack (X1 t2 n2 (⟨key,nxt,found,loaded⟩:PRS) st s) (.store t2 n2 st) 1 0 (jT t2 n2 st) [] (by kernel_rfl) rfl rfl (by kernel_rfl)),h⟩⟩
 ·exact⟨⟨_,_,((aQ.pack (bO (W4 t2 n2 (⟨key,nxt,found,loaded⟩:PRS) st s) 0 1 (kE t2 n2 (⟨key,nxt,found,loaded⟩:PRS)) [1]) (.store t2 n2 st) 1 0 (jT t2 n2 st) [] (by kernel_rfl) rfl rfl (by kernel_rfl)).trans (aQ.pack (W4 t2 n2 (⟨key,nxt,found,loaded⟩:PRS) st s) (.prepare t2 n2 (⟨key,nxt,found,loaded⟩:PRS)) 0 1 (kE t2 n2 (⟨key,nxt,found,loaded⟩:PRS)) [1] (by kernel_rfl) rfl (congrArg (Prod.mk 1) rfl) (by kernel_rfl))),h⟩⟩
theorem TL{t n:Int} :dH (obI tbl) 4 (W5 t n) (PrO.fin t n):=by
 intro v g p x hp hq K hK
 unfold W5 at hp
 exact PC v g p x hp hq K hK
def HR(t n:Int)(x:PRS)(st:STS)(s:MS):Tr PrO:=.ite (!x.4) (.pre (lE' s.3∧(0:Int)≤s.4∧s.4≤(4611686018427387904:Int)) (.pre ((t=t∧n=n)∧lE' s.3∧lE' st.3) (.ret {d:=false,x:= {key:=x.1,nxt:=x.2,found:=aA s.3 st.2,loaded:=true},st:= {me:=st.1,sp:=st.2,R:=st.3},s:= {s with c:=s.4+1,k:=1,a:=st.2,o:=aA s.3 st.2,w:=aA s.3 st.2,ok:=bR s.3 st.2} }))) (.pre True (.pre ((0:Int)≤aB x.3 25 18∧aB x.3 25 (18:Int)≤(1000000:Int)) (.pre True (.pre (lE' s.3∧(0:Int)≤s.4∧s.4≤(4611686018427387904:Int)) (.pre ((t=t∧n=n)∧lE' (aO s.3 st.2 (bif bif aM x.1 10 then bif aM x.2 9 then bif aM 0 5 then aM (aN (aB x.3 25 18)) 18 else false else false else false then aV x.1 x.2 false 0 (aN (aB x.3 25 18))else 0))∧lE' st.3) (.ret {d:=true,x:= x,st:= {me:=st.1,sp:=st.2,R:=st.3},s:= {t:=s.1,n:=s.2,xs:=aO s.3 st.2 (bif bif aM x.1 10 then bif aM x.2 9 then bif aM 0 5 then aM (aN (aB x.3 25 18)) 18 else false else false else false then aV x.1 x.2 false 0 (aN (aB x.3 25 18))else 0),c:=s.4+1,k:=2,a:=st.2,o:=aA s.3 st.2,w:=bif bR s.3 st.2 then bif bif aM x.1 10 then bif aM x.2 9 then bif aM 0 5 then aM (aN (aB x.3 25 18)) 18 else false else false else false then aV x.1 x.2 false 0 (aN (aB x.3 25 18))else 0 else 0,ok:=bR s.3 st.2} }))))))
theorem LE(t n:Int)(x:PRS)(st:STS)(s:MS)(K:PrO→Prop)(h:(HR t n x st s).run K):cT' 98 [.ptr 0 0,.ptr 2 0] [some (.cells [.ptr 1 0,.int .i64 x.key,.int .i64 x.nxt,.int .u64 x.found,.bool x.loaded]),stC 4 t n st,aX 3 s,aY s,nK st] (eB 4 0 [] [(.cell 1 4,.ints (some .i64))] (W5 t n) K):=by
 exact cM' (E:=EC6) (by kernel_rfl) h
def QM(t n:Int)(x:PRS)(st:STS)(s:MS):Tr PrO:=HR t n x st s
def prF(t n:Int)(x:PRS)(st:STS)(s:MS):PrO:=(QM t n x st s).val
def PB(t n:Int)(x:PRS)(st:STS)(s:MS):Prop:=(QM t n x st s).ok
theorem EV(t n:Int)(x:PRS)(st:STS)(s:MS)(K:AVal→aC Ob→Prop)(h:(QM t n x st s).run (fun y=>(PrO.fin t n y).run K)):cT' 98 [.ptr 0 0,.ptr 2 0] (W4 t n x st s) K:=by
 unfold QM at h
 exact ZB (root:=0) (pos:=[]) (cs:=[(.cell 1 4,.ints (some .i64))]) (parse:=W5 t n) (fin:=PrO.fin t n) TL ((cV.unpack (.prepare t n x) 0 1 (kE t n x) [1] rfl (congrArg (Prod.mk 1) rfl) (by kernel_rfl) rfl).trans (cV.unpack (.store t n st) 1 0 (jT t n st) [] rfl rfl rfl rfl)) (LE t n x st s _ h)
noncomputable def prSA:aK Ob:=fun args h=>match args,h with
 | [.ptr 0 0,.ptr 2 0],[some (.abs (.prepare t n x) [1]),some (.abs (.store t2 n2 st) []),e3,e4]=>(match eN 3 [e3,e4]with
   | some (l,s)=>some (.pre ((l=s.xs.length∧t2=t∧n2=n)∧PB t n x st s) (PrO.fin t n (prF t n x st s)))
   | none=>none)
 | _,_=>none
theorem TM:sT' 98 prSA:=by
 intro args h o ho K hK
 unfold prSA at ho
 split at ho
 case h_2=>cases ho
 split at ho<;>cases ho
 rename_i hm
 obtain⟨⟨⟨hl,rfl,rfl⟩,ok⟩,hK⟩:=hK
 have hh:=bU hm hl
 cases hh
 exact EV _ _ _ _ _ K (ZD ok hK)
def PrO.finB(t n:Int)(y:PrO):Out Ob:=.ite y.d (.ret (.bool true) ([some (.cells [.ptr 1 0,.int .i64 y.x.key,.int .i64 y.x.nxt,.int .u64 y.x.found,.bool y.x.loaded]),stC 5 t n y.st,none,aX 4 y.s,aY y.s,nK y.st])) (.ret (.bool false) [some (.abs (.prepare t n y.x) [1]),stC 5 t n y.st,none,aX 4 y.s,aY y.s,nK y.st])
noncomputable def prSB:aK Ob:=fun args h=>match args,h with
 | [.ptr 0 0,.ptr 3 0],[some (.abs (.prepare t n x) [1]),e1,e2,e3,e4]=>(match u4 2 [e1,e2],eN 4 [e3,e4]with
   | some (l2,t2,n2,st),some (l,s)=>some (.pre ((l=s.xs.length∧l2=st.R.length∧t2=t∧n2=n)∧PB t n x st s) (PrO.finB t n (prF t n x st s)))
   | _,_=>none)
 | _,_=>none
theorem TN:sT' 98 prSB:=by
 intro args h o ho K hK
 unfold prSB at ho
 split at ho
 case h_2=>cases ho
 split at ho<;>cases ho
 rename_i hs hm
 obtain⟨⟨⟨hl,hl2,rfl,rfl⟩,ok⟩,hK⟩:=hK
 have hh:=bU hm hl
 cases hh
 have hh:=dK hs hl2
 cases hh
 exact nL (fun ι hι=>by simp [aG.ren,Y7,AVal.ren,hι]) (fun ι hι=>by simp [aG.ren,hι]) (fun K hK=>EV _ _ _ _ _ K (ZD ok hK)) K hK
noncomputable def prS:aK Ob:=aK.or prSA prSB
theorem WL:sT' 98 prS:=ZM TM TN
def TG(t n:Int)(v:AVal)(g:aC Ob):Option (Prop×(PRS×STS)):=match v,g with
 | .ptr 2 0,[e1,e2,some (.cells [.ptr 0 0,.int .i64 key,.int .i64 nxt,.int .u64 found,.bool loaded])]=>(match u4 1 [e1,e2]with
   | some (l2,t2,n2,st)=>some ((t2=t∧n2=n∧l2=st.R.length),⟨(⟨key,nxt,found,loaded⟩:PRS),st⟩)
   | none=>none)
 | _,_=>none
abbrev O7(t n:Int)(y:(PRS×STS)):aC Ob:=[stC 1 t n y.2,nK y.2,some (.abs (.prepare t n y.1) [0])]
theorem O8{t n:Int} :dH (obI tbl) 2 (TG t n) (fun y=>.ret (.ptr 2 0) (O7 t n y)):=by
 intro v g p x hp hq K hK
 unfold TG at hp
 split at hp
 case h_2=>cases hp
 rename_i e1 e2 key nxt found loaded
 split at hp
 case h_2=>cases hp
 rename_i l2 t2 n2 st hs
 simp only [sI',pI']at hp
 obtain⟨rfl,rfl⟩:=hp
 obtain⟨rfl,rfl,hl2⟩:=hq
 have hh:=dK hs hl2
 cases hh
 exact⟨⟨_,_,aQ.pack (O7 t2 n2 ((⟨key,nxt,found,loaded⟩:PRS),st)) (.prepare t2 n2 (⟨key,nxt,found,loaded⟩:PRS)) 2 1 (kE t2 n2 (⟨key,nxt,found,loaded⟩:PRS)) [0] (by kernel_rfl) rfl (congrArg (Prod.mk 1) rfl) (by kernel_rfl),hK⟩⟩
def O9(t n:Int)(key nx:Int)(st:STS):Tr (PRS×STS):=.pre (t=t∧n=n∧lE' st.3) (.ret ({key:=key,nxt:=nx,found:=0,loaded:=false},{me:=st.1,sp:=st.2,R:=st.3}))
def pT(t n:Int)(key nx:Int)(st:STS):(PRS×STS):=(O9 t n key nx st).val
def EU(t n:Int)(key nx:Int)(st:STS):Prop:=(O9 t n key nx st).ok
def prNS:aK Ob:=fun args h=>match args,h with
 | [.ptr 0 0,.int .i64 key,.int .i64 nx],[e1,e2]=>(match u4 1 [e1,e2]with
   | some (l2,t,n,st)=>some (.pre (l2=st.R.length∧EU t n key nx st) (.ret (.ptr 2 0) (O7 t n (pT t n key nx st))))
   | none=>none)
 | _,_=>none
theorem TH:sT' 160 prNS:=by
 intro args h o ho K hK
 unfold prNS at ho
 split at ho
 case h_2=>cases ho
 rename_i key nx e1 e2
 split at ho<;>cases ho
 rename_i l2 t n st hs
 obtain⟨⟨hl2,ok⟩,hK⟩:=hK
 have hh:=dK hs hl2
 cases hh
 refine ZJ (root:=2) (pos:=[]) (cs:=[]) (parse:=TG t n) O8 ?_
 exact cM' (E:=EC6) (q:=(O9 t n key nx st).run (fun y=>(Out.ret (.ptr 2 0) (O7 t n y)).run K)) (by kernel_rfl) (ZD ok hK)
noncomputable def EC7:=((EC6.addS 98 prS WL).addS 160 prNS TH)
structure FnO where
 d:Bool
 x:FNS
 s:MS
instance:Inhabited FnO:=⟨⟨false,cS,⟨0,0,[],0,0,0,0,0,false⟩⟩⟩
instance:Inhabited FNS:=⟨cS⟩
abbrev WZ(t n:Int)(x:FNS)(s:MS):aC Ob:=[some (.abs (.find t n x) []),aX 2 s,aY s]
abbrev YQ(t n:Int)(x:FNS)(s:MS):aC Ob:=[some (.cells [.int .i64 t,.int .i64 n,.int .i64 x.pred,.int .u64 x.pw,.int .i64 x.curr,.int .u64 x.cw,.int .i64 x.tries,.slice 3 0 x.ul.length 1,.bool x.ab,.int .i64 x.me,.int .i64 x.frm,.int .i64 x.key,.int .i64 x.limit,.int .i64 x.at',.int .i64 x.moved,.O]),aX 2 s,aY s,some (.ints (some .i64) x.ul)]
def FnO.fin(t n:Int)(y:FnO):Out Ob:=.ite y.d (.ret (.bool true) (YQ t n y.x y.s)) (.ret (.bool false) (WZ t n y.x y.s))
def R0(t n:Int)(v:AVal)(g:aC Ob):Option (Prop×FnO):=match v,g with
 | .bool d,[some (.cells [.int .i64 t1,.int .i64 n1,.int .i64 pred,.int .u64 pw,.int .i64 curr,.int .u64 cw,.int .i64 tries,.slice 3 0 ul_l 1,.bool ab,.int .i64 me,.int .i64 frm,.int .i64 key,.int .i64 limit,.int .i64 at',.int .i64 moved,.O]),e1,e2,some (.ints (some .i64) ul)]=>(match eN 2 [e1,e2]with
   | some (l,s)=>some ((t1=t∧n1=n)∧ul_l=ul.length∧(d=false→at'≠4)∧l=s.xs.length,⟨d,⟨pred,pw,curr,cw,tries,ul,ab,me,frm,key,limit,at',moved,⟨0,0,0,0⟩⟩,s⟩)
   | none=>none)
 | _,_=>none
def R3(t n:Int)(v:AVal)(g:aC Ob):Option (Prop×FnO):=match v,g with
 | .bool d,[some (.cells [.int .i64 t1,.int .i64 n1,.int .i64 pred,.int .u64 pw,.int .i64 curr,.int .u64 cw,.int .i64 tries,.slice 3 0 ul_l 1,.bool ab,.int .i64 me,.int .i64 frm,.int .i64 key,.int .i64 limit,.int .i64 at',.int .i64 moved,.ptr 4 0]),e1,e2,some (.ints (some .i64) ul),some (.abs (.clear t' n' sub) [])]=>(match eN 2 [e1,e2]with
   | some (l,s)=>some ((t1=t∧n1=n)∧ul_l=ul.length∧t'=t∧n'=n∧(d=false→at'=4)∧l=s.xs.length,⟨d,⟨pred,pw,curr,cw,tries,ul,ab,me,frm,key,limit,at',moved,sub⟩,s⟩)
   | none=>none)
 | _,_=>none
def BF(t n:Int)(v:AVal)(g:aC Ob):Option (Prop×FnO):=(match R0 t n v g with
 | some r=>some r
 | none=>R3 t n v g)
theorem N0{t n:Int} :dH (obI tbl) 3 (R0 t n) (FnO.fin t n):=by
 intro v g p x hp hq K hK
 unfold R0 at hp
 split at hp
 case h_2=>cases hp
 rename_i d t1 n1 pred pw curr cw tries ul_l ab me frm key limit at' moved e1 e2 ul
 split at hp
 case h_2=>cases hp
 rename_i l s hm
 simp only [sI',pI']at hp
 obtain⟨rfl,rfl⟩:=hp
 obtain⟨⟨rfl,rfl⟩,rfl,hat,hl⟩:=hq
 have hh:=bU hm hl
 cases hh
 refine wO hK (fun h=>?_) (fun hd h=>?_)
 ·exact⟨⟨_,_,aQ.refl _ _ _,h⟩⟩
 ·exact⟨⟨_,_,(aQ.pack (WZ t1 n1 (⟨pred,pw,curr,cw,tries,ul,ab,me,frm,key,limit,at',moved,⟨0,0,0,0⟩⟩:FNS) s) (.find t1 n1 (⟨pred,pw,curr,cw,tries,ul,ab,me,frm,key,limit,at',moved,⟨0,0,0,0⟩⟩:FNS)) 0 0 (jN t1 n1 (⟨pred,pw,curr,cw,tries,ul,ab,me,frm,key,limit,at',moved,⟨0,0,0,0⟩⟩:FNS)) [] (by kernel_rfl) rfl (congrArg (Prod.mk 0) (gO (hat hd))) (by kernel_rfl)),h⟩⟩
theorem N1{t n:Int} :dH (obI tbl) 3 (R3 t n) (FnO.fin t n):=by
 intro v g p x hp hq K hK
 unfold R3 at hp
 split at hp
 case h_2=>cases hp
 rename_i d t1 n1 pred pw curr cw tries ul_l ab me frm key limit at' moved e1 e2 ul t' n' sub
 split at hp
 case h_2=>cases hp
 rename_i l s hm
 simp only [sI',pI']at hp
 obtain⟨rfl,rfl⟩:=hp
 obtain⟨⟨rfl,rfl⟩,rfl,rfl,rfl,hat,hl⟩:=hq
 have hh:=bU hm hl
 cases hh
 refine wO hK (fun h=>?_) (fun hd h=>?_)
 ·exact⟨⟨_,_,(aQ.weak (c8 _ 0 [15])).trans ((aQ.pick (upto 0 4) rfl).trans (aQ.eq (by kernel_rfl) (by kernel_rfl))),h⟩⟩
 ·exact⟨⟨_,_,(aQ.pack (WZ t' n' (⟨pred,pw,curr,cw,tries,ul,ab,me,frm,key,limit,at',moved,sub⟩:FNS) s) (.find t' n' (⟨pred,pw,curr,cw,tries,ul,ab,me,frm,key,limit,at',moved,sub⟩:FNS)) 0 0 (o0 t' n' (⟨pred,pw,curr,cw,tries,ul,ab,me,frm,key,limit,at',moved,sub⟩:FNS)) [] (by kernel_rfl) rfl (congrArg (Prod.mk 0) (DX (hat hd))) (by kernel_rfl)),h⟩⟩
theorem oF{t n:Int} :dH (obI tbl) 3 (BF t n) (FnO.fin t n):=by
 intro v g p x hp hq K hK
 unfold BF at hp
 split at hp
 ·rename_i r hr
  cases hp
  exact N0 v g p x hr hq K hK
 exact N1 v g p x hp hq K hK
def tW(t n:Int)(x:FNS)(s:MS):Tr FnO:=.pre (lE' s.3∧(0:Int)≤s.4∧s.4≤(4611686018427387904:Int)) (.pre True (.ite (ieq (aB (aA s.3 x.1) 19 1) 1) (.ite (ilt x.11 (W (x.5+1))) (.ite (ilt x.11 (W (x.5+1))) (.pre ((t=t∧n=n)∧lE' x.6∧(true=false→(0:Int)≠(4:Int))∧lE' s.3) (.ret {d:=true,x:= {x with pred:=0,pw:=0,curr:=0,cw:=0,tries:=W (x.5+1),ab:=ilt x.11 (W (x.5+1)),at':=0,cl:=bF},s:= {s with c:=s.4+1,k:=1,a:=x.1,o:=aA s.3 x.1,w:=aA s.3 x.1,ok:=bR s.3 x.1} })) (.pre True (.ite (ieq (aB (aA s.3 x.1) 19 1) 1) (.pre ((t=t∧n=n)∧lE' x.6∧(false=false→(0:Int)≠(4:Int))∧lE' s.3) (.ret {d:=false,x:= {x with pred:=x.9,pw:=0,curr:=0,cw:=0,tries:=W (x.5+1),ab:=ilt x.11 (W (x.5+1)),at':=0,moved:=0,cl:=bF},s:= {s with c:=s.4+1,k:=1,a:=x.1,o:=aA s.3 x.1,w:=aA s.3 x.1,ok:=bR s.3 x.1} })) (.pre ((t=t∧n=n)∧lE' x.6∧(ieq (aB (aA s.3 x.1) 10 9) (0:Int)=false→(1:Int)≠(4:Int))∧lE' s.3) (.ret {d:=ieq (aB (aA s.3 x.1) 10 9) 0,x:= {x with pred:=0,pw:=aA s.3 x.1,curr:=aB (aA s.3 x.1) 10 9,cw:=0,tries:=W (x.5+1),ab:=ilt x.11 (W (x.5+1)),at':=1,cl:=bF},s:= {s with c:=s.4+1,k:=1,a:=x.1,o:=aA s.3 x.1,w:=aA s.3 x.1,ok:=bR s.3 x.1} }))))) (.ite (ilt x.11 (W (x.5+1))) (.pre ((t=t∧n=n)∧lE' x.6∧(true=false→(0:Int)≠(4:Int))∧lE' s.3) (.ret {d:=true,x:= {x with tries:=W (x.5+1),ab:=ilt x.11 (W (x.5+1)),at':=0,cl:=bF},s:= {s with c:=s.4+1,k:=1,a:=x.1,o:=aA s.3 x.1,w:=aA s.3 x.1,ok:=bR s.3 x.1} })) (.pre True (.ite (ieq (aB (aA s.3 x.1) 19 1) 1) (.pre ((t=t∧n=n)∧lE' x.6∧(false=false→(0:Int)≠(4:Int))∧lE' s.3) (.ret {d:=false,x:= {x with pred:=x.9,tries:=W (x.5+1),ab:=ilt x.11 (W (x.5+1)),at':=0,moved:=0,cl:=bF},s:= {s with c:=s.4+1,k:=1,a:=x.1,o:=aA s.3 x.1,w:=aA s.3 x.1,ok:=bR s.3 x.1} })) (.pre ((t=t∧n=n)∧lE' x.6∧(ieq (aB (aA s.3 x.1) 10 9) (0:Int)=false→(1:Int)≠(4:Int))∧lE' s.3) (.ret {d:=ieq (aB (aA s.3 x.1) 10 9) 0,x:= {x with pw:=aA s.3 x.1,curr:=aB (aA s.3 x.1) 10 9,cw:=0,tries:=W (x.5+1),ab:=ilt x.11 (W (x.5+1)),at':=1,cl:=bF},s:= {s with c:=s.4+1,k:=1,a:=x.1,o:=aA s.3 x.1,w:=aA s.3 x.1,ok:=bR s.3 x.1} })))))) (.pre True (.ite (ieq (aB (aA s.3 x.1) 19 1) 1) (.pre ((t=t∧n=n)∧lE' x.6∧(false=false→(0:Int)≠(4:Int))∧lE' s.3) (.ret {d:=false,x:= {x with pred:=x.9,at':=0,moved:=0,cl:=bF},s:= {s with c:=s.4+1,k:=1,a:=x.1,o:=aA s.3 x.1,w:=aA s.3 x.1,ok:=bR s.3 x.1} })) (.pre ((t=t∧n=n)∧lE' x.6∧(ieq (aB (aA s.3 x.1) 10 9) (0:Int)=false→(1:Int)≠(4:Int))∧lE' s.3) (.ret {d:=ieq (aB (aA s.3 x.1) 10 9) 0,x:= {x with pw:=aA s.3 x.1,curr:=aB (aA s.3 x.1) 10 9,cw:=0,at':=1,cl:=bF},s:= {s with c:=s.4+1,k:=1,a:=x.1,o:=aA s.3 x.1,w:=aA s.3 x.1,ok:=bR s.3 x.1} }))))))
theorem F7(t n:Int)(x:FNS)(s:MS)(K:FnO→Prop)(h:(tW t n x s).run K):cT' 94 [.ptr 0 0,.ptr 1 0] [some (.cells [.int .i64 t,.int .i64 n,.int .i64 x.pred,.int .u64 x.pw,.int .i64 x.curr,.int .u64 x.cw,.int .i64 x.tries,.slice 3 0 x.ul.length 1,.bool x.ab,.int .i64 x.me,.int .i64 x.frm,.int .i64 x.key,.int .i64 x.limit,.int .i64 0,.int .i64 x.moved,.O]),aX 2 s,aY s,some (.ints (some .i64) x.ul)] (eB 3 0 [15] [(.cell 0 7,.ints (some .i64))] (BF t n) K):=by
 exact cM' (E:=EC7) (by kernel_rfl) h
def v6(t n:Int)(x:FNS)(s:MS):Tr FnO:=.pre ((((0:Int)≤t∧t≤(100000:Int))∧((0:Int)≤n∧n≤(100000:Int))∧((-1099511627776:Int)≤x.8∧x.8≤(1099511627776:Int))∧(-1099511627776:Int)≤(1:Int)∧(1:Int)≤(1099511627776:Int))∧True) (.pre ((lE' s.3∧(0:Int)≤s.4∧s.4≤(4611686018427387904:Int))∧True) (.pre ((t=t∧n=n)∧lE' x.6∧(false=false→(2:Int)≠(4:Int))∧lE' (aO s.3 (2*n+5+2*x.8+1) (WU x.3))) (.ret {d:=false,x:= {x with at':=2,cl:=bF},s:= {t:=s.1,n:=s.2,xs:=aO s.3 (2*n+5+2*x.8+1) (WU x.3),c:=s.4+1,k:=2,a:=2*n+5+2*x.8+1,o:=aA s.3 (2*n+5+2*x.8+1),w:=bif bR s.3 (2*n+5+2*x.8+1)then WU x.3 else 0,ok:=bR s.3 (2*n+5+2*x.8+1) } })))
theorem F8(t n:Int)(x:FNS)(s:MS)(K:FnO→Prop)(h:(v6 t n x s).run K):cT' 94 [.ptr 0 0,.ptr 1 0] [some (.cells [.int .i64 t,.int .i64 n,.int .i64 x.pred,.int .u64 x.pw,.int .i64 x.curr,.int .u64 x.cw,.int .i64 x.tries,.slice 3 0 x.ul.length 1,.bool x.ab,.int .i64 x.me,.int .i64 x.frm,.int .i64 x.key,.int .i64 x.limit,.int .i64 1,.int .i64 x.moved,.O]),aX 2 s,aY s,some (.ints (some .i64) x.ul)] (eB 3 0 [15] [(.cell 0 7,.ints (some .i64))] (BF t n) K):=by
 exact cM' (E:=EC7) (by kernel_rfl) h
def tX(t n:Int)(x:FNS)(s:MS):Tr FnO:=.pre (lE' s.3∧(0:Int)≤s.4∧s.4≤(4611686018427387904:Int)) (.ite (!ieq (aA s.3 x.1) x.2) (.ite (ilt x.11 (W (x.5+1))) (.ite (ilt x.11 (W (x.5+1))) (.pre ((t=t∧n=n)∧lE' x.6∧(true=false→(2:Int)≠(4:Int))∧lE' s.3) (.ret {d:=true,x:= {x with pred:=0,pw:=0,curr:=0,cw:=0,tries:=W (x.5+1),ab:=ilt x.11 (W (x.5+1)),at':=2,cl:=bF},s:= {s with c:=s.4+1,k:=1,a:=x.1,o:=aA s.3 x.1,w:=aA s.3 x.1,ok:=bR s.3 x.1} })) (.pre True (.ite (ieq (aB (aA s.3 x.1) 19 1) 1) (.pre ((t=t∧n=n)∧lE' x.6∧(false=false→(0:Int)≠(4:Int))∧lE' s.3) (.ret {d:=false,x:= {x with pred:=x.9,pw:=0,curr:=0,cw:=0,tries:=W (x.5+1),ab:=ilt x.11 (W (x.5+1)),at':=0,moved:=0,cl:=bF},s:= {s with c:=s.4+1,k:=1,a:=x.1,o:=aA s.3 x.1,w:=aA s.3 x.1,ok:=bR s.3 x.1} })) (.pre ((t=t∧n=n)∧lE' x.6∧(ieq (aB (aA s.3 x.1) 10 9) (0:Int)=false→(1:Int)≠(4:Int))∧lE' s.3) (.ret {d:=ieq (aB (aA s.3 x.1) 10 9) 0,x:= {x with pred:=0,pw:=aA s.3 x.1,curr:=aB (aA s.3 x.1) 10 9,cw:=0,tries:=W (x.5+1),ab:=ilt x.11 (W (x.5+1)),at':=1,cl:=bF},s:= {s with c:=s.4+1,k:=1,a:=x.1,o:=aA s.3 x.1,w:=aA s.3 x.1,ok:=bR s.3 x.1} }))))) (.ite (ilt x.11 (W (x.5+1))) (.pre ((t=t∧n=n)∧lE' x.6∧(true=false→(2:Int)≠(4:Int))∧lE' s.3) (.ret {d:=true,x:= {x with tries:=W (x.5+1),ab:=ilt x.11 (W (x.5+1)),at':=2,cl:=bF},s:= {s with c:=s.4+1,k:=1,a:=x.1,o:=aA s.3 x.1,w:=aA s.3 x.1,ok:=bR s.3 x.1} })) (.pre True (.ite (ieq (aB (aA s.3 x.1) 19 1) 1) (.pre ((t=t∧n=n)∧lE' x.6∧(false=false→(0:Int)≠(4:Int))∧lE' s.3) (.ret {d:=false,x:= {x with pred:=x.9,tries:=W (x.5+1),ab:=ilt x.11 (W (x.5+1)),at':=0,moved:=0,cl:=bF},s:= {s with c:=s.4+1,k:=1,a:=x.1,o:=aA s.3 x.1,w:=aA s.3 x.1,ok:=bR s.3 x.1} })) (.pre ((t=t∧n=n)∧lE' x.6∧(ieq (aB (aA s.3 x.1) 10 9) (0:Int)=false→(1:Int)≠(4:Int))∧lE' s.3) (.ret {d:=ieq (aB (aA s.3 x.1) 10 9) 0,x:= {x with pw:=aA s.3 x.1,curr:=aB (aA s.3 x.1) 10 9,cw:=0,tries:=W (x.5+1),ab:=ilt x.11 (W (x.5+1)),at':=1,cl:=bF},s:= {s with c:=s.4+1,k:=1,a:=x.1,o:=aA s.3 x.1,w:=aA s.3 x.1,ok:=bR s.3 x.1} })))))) (.pre ((t=t∧n=n)∧lE' x.6∧(false=false→(3:Int)≠(4:Int))∧lE' s.3) (.ret {d:=false,x:= {x with at':=3,cl:=bF},s:= {s with c:=s.4+1,k:=1,a:=x.1,o:=aA s.3 x.1,w:=aA s.3 x.1,ok:=bR s.3 x.1} })))
theorem F9(t n:Int)(x:FNS)(s:MS)(K:FnO→Prop)(h:(tX t n x s).run K):cT' 94 [.ptr 0 0,.ptr 1 0] [some (.cells [.int .i64 t,.int .i64 n,.int .i64 x.pred,.int .u64 x.pw,.int .i64 x.curr,.int .u64 x.cw,.int .i64 x.tries,.slice 3 0 x.ul.length 1,.bool x.ab,.int .i64 x.me,.int .i64 x.frm,.int .i64 x.key,.int .i64 x.limit,.int .i64 2,.int .i64 x.moved,.O]),aX 2 s,aY s,some (.ints (some .i64) x.ul)] (eB 3 0 [15] [(.cell 0 7,.ints (some .i64))] (BF t n) K):=by
 exact cM' (E:=EC7) (by kernel_rfl) h
def l1(t n:Int)(x:FNS)(s:MS):Tr FnO:=.pre (lE' s.3∧(0:Int)≤s.4∧s.4≤(4611686018427387904:Int)) (.pre True (.ite (!ieq (aB (aA s.3 x.3) 19 1) 1) (.ite (ile x.10 (aB (aA s.3 x.3) 0 10)) (.pre ((t=t∧n=n)∧lE' x.6∧(true=false→(3:Int)≠(4:Int))∧lE' s.3) (.ret {d:=true,x:= {x with cw:=aA s.3 x.3,at':=3,cl:=bF},s:= {s with c:=s.4+1,k:=1,a:=x.3,o:=aA s.3 x.3,w:=aA s.3 x.3,ok:=bR s.3 x.3} })) (.ite (!ieq (aB (aA s.3 x.3) 19 1) 1) (.pre ((t=t∧n=n)∧lE' x.6∧(false=false→(6:Int)≠(4:Int))∧lE' s.3) (.ret {d:=false,x:= {x with cw:=aA s.3 x.3,at':=6,cl:=bF},s:= {s with c:=s.4+1,k:=1,a:=x.3,o:=aA s.3 x.3,w:=aA s.3 x.3,ok:=bR s.3 x.3} })) (.ite (!ieq (aB (aA s.3 x.3) 20 5) 0) (.pre (rP t n x.3∧True) (.pre ((t=t∧n=n)∧lE' x.6∧t=t∧n=n∧(false=false→(4:Int)=(4:Int))∧lE' s.3) (.ret {d:=false,x:= {x with cw:=aA s.3 x.3,at':=4,cl:=zD t n x.3},s:= {s with c:=s.4+1,k:=1,a:=x.3,o:=aA s.3 x.3,w:=aA s.3 x.3,ok:=bR s.3 x.3} }))) (.pre True (.ite (!ieq (aB x.2 20 5) 0) (.pre (rP t n x.1∧True) (.pre ((t=t∧n=n)∧lE' x.6∧t=t∧n=n∧(false=false→(4:Int)=(4:Int))∧lE' s.3) (.ret {d:=false,x:= {x with cw:=aA s.3 x.3,at':=4,cl:=zD t n x.1},s:= {s with c:=s.4+1,k:=1,a:=x.3,o:=aA s.3 x.3,w:=aA s.3 x.3,ok:=bR s.3 x.3} }))) (.pre ((t=t∧n=n)∧lE' x.6∧(false=false→(5:Int)≠(4:Int))∧lE' s.3) (.ret {d:=false,x:= {x with cw:=aA s.3 x.3,at':=5,cl:=bF},s:= {s with c:=s.4+1,k:=1,a:=x.3,o:=aA s.3 x.3,w:=aA s.3 x.3,ok:=bR s.3 x.3} }))))))) (.ite (!ieq (aB (aA s.3 x.3) 19 1) 1) (.pre ((t=t∧n=n)∧lE' x.6∧(false=false→(6:Int)≠(4:Int))∧lE' s.3) (.ret {d:=false,x:= {x with cw:=aA s.3 x.3,at':=6,cl:=bF},s:= {s with c:=s.4+1,k:=1,a:=x.3,o:=aA s.3 x.3,w:=aA s.3 x.3,ok:=bR s.3 x.3} })) (.ite (!ieq (aB (aA s.3 x.3) 20 5) 0) (.pre (rP t n x.3∧True) (.pre ((t=t∧n=n)∧lE' x.6∧t=t∧n=n∧(false=false→(4:Int)=(4:Int))∧lE' s.3) (.ret {d:=false,x:= {x with cw:=aA s.3 x.3,at':=4,cl:=zD t n x.3},s:= {s with c:=s.4+1,k:=1,a:=x.3,o:=aA s.3 x.3,w:=aA s.3 x.3,ok:=bR s.3 x.3} }))) (.pre True (.ite (!ieq (aB x.2 20 5) 0) (.pre (rP t n x.1∧True) (.pre ((t=t∧n=n)∧lE' x.6∧t=t∧n=n∧(false=false→(4:Int)=(4:Int))∧lE' s.3) (.ret {d:=false,x:= {x with cw:=aA s.3 x.3,at':=4,cl:=zD t n x.1},s:= {s with c:=s.4+1,k:=1,a:=x.3,o:=aA s.3 x.3,w:=aA s.3 x.3,ok:=bR s.3 x.3} }))) (.pre ((t=t∧n=n)∧lE' x.6∧(false=false→(5:Int)≠(4:Int))∧lE' s.3) (.ret {d:=false,x:= {x with cw:=aA s.3 x.3,at':=5,cl:=bF},s:= {s with c:=s.4+1,k:=1,a:=x.3,o:=aA s.3 x.3,w:=aA s.3 x.3,ok:=bR s.3 x.3} }))))))))
theorem GA(t n:Int)(x:FNS)(s:MS)(K:FnO→Prop)(h:(l1 t n x s).run K):cT' 94 [.ptr 0 0,.ptr 1 0] [some (.cells [.int .i64 t,.int .i64 n,.int .i64 x.pred,.int .u64 x.pw,.int .i64 x.curr,.int .u64 x.cw,.int .i64 x.tries,.slice 3 0 x.ul.length 1,.bool x.ab,.int .i64 x.me,.int .i64 x.frm,.int .i64 x.key,.int .i64 x.limit,.int .i64 3,.int .i64 x.moved,.O]),aX 2 s,aY s,some (.ints (some .i64) x.ul)] (eB 3 0 [15] [(.cell 0 7,.ints (some .i64))] (BF t n) K):=by
 exact cM' (E:=EC7) (by kernel_rfl) h
def zY(t n:Int)(x:FNS)(s:MS):Tr FnO:=.pre (lE' s.3∧MY t n x.14 s) (.ite (eA t n x.14 s).1 (.ite (ilt x.11 (W (x.5+1))) (.pre ((t=t∧n=n)∧lE' x.6∧(ilt x.11 (W (x.5+1))=false→(0:Int)≠(4:Int))∧lE' (ClO.s (eA t n x.14 s)).3) (.ret {d:=ilt x.11 (W (x.5+1)),x:= {x with pred:=0,pw:=0,curr:=0,cw:=0,tries:=W (x.5+1),ab:=ilt x.11 (W (x.5+1)),at':=0,cl:=bF},s:= {t:=(ClO.s (eA t n x.14 s)).1,n:=(ClO.s (eA t n x.14 s)).2,xs:=(ClO.s (eA t n x.14 s)).3,c:=(ClO.s (eA t n x.14 s)).4,k:=(ClO.s (eA t n x.14 s)).5,a:=(ClO.s (eA t n x.14 s)).6,o:=(ClO.s (eA t n x.14 s)).7,w:=(ClO.s (eA t n x.14 s)).8,ok:=(ClO.s (eA t n x.14 s)).9} })) (.pre ((t=t∧n=n)∧lE' x.6∧(ilt x.11 (W (x.5+1))=false→(0:Int)≠(4:Int))∧lE' (ClO.s (eA t n x.14 s)).3) (.ret {d:=ilt x.11 (W (x.5+1)),x:= {x with tries:=W (x.5+1),ab:=ilt x.11 (W (x.5+1)),at':=0,cl:=bF},s:= {t:=(ClO.s (eA t n x.14 s)).1,n:=(ClO.s (eA t n x.14 s)).2,xs:=(ClO.s (eA t n x.14 s)).3,c:=(ClO.s (eA t n x.14 s)).4,k:=(ClO.s (eA t n x.14 s)).5,a:=(ClO.s (eA t n x.14 s)).6,o:=(ClO.s (eA t n x.14 s)).7,w:=(ClO.s (eA t n x.14 s)).8,ok:=(ClO.s (eA t n x.14 s)).9} }))) (.pre ((t=t∧n=n)∧lE' x.6∧t=t∧n=n∧(false=false→(4:Int)=(4:Int))∧lE' (ClO.s (eA t n x.14 s)).3) (.ret {d:=false,x:= {x with at':=4,cl:=(eA t n x.14 s).2},s:= {t:=(ClO.s (eA t n x.14 s)).1,n:=(ClO.s (eA t n x.14 s)).2,xs:=(ClO.s (eA t n x.14 s)).3,c:=(ClO.s (eA t n x.14 s)).4,k:=(ClO.s (eA t n x.14 s)).5,a:=(ClO.s (eA t n x.14 s)).6,o:=(ClO.s (eA t n x.14 s)).7,w:=(ClO.s (eA t n x.14 s)).8,ok:=(ClO.s (eA t n x.14 s)).9} })))
theorem GB(t n:Int)(x:FNS)(s:MS)(K:FnO→Prop)(h:(zY t n x s).run K):cT' 94 [.ptr 0 0,.ptr 1 0] [some (.cells [.int .i64 t,.int .i64 n,.int .i64 x.pred,.int .u64 x.pw,.int .i64 x.curr,.int .u64 x.cw,.int .i64 x.tries,.slice 3 0 x.ul.length 1,.bool x.ab,.int .i64 x.me,.int .i64 x.frm,.int .i64 x.key,.int .i64 x.limit,.int .i64 4,.int .i64 x.moved,.ptr 4 0]),aX 2 s,aY s,some (.ints (some .i64) x.ul),some (.abs (.clear t n x.cl) [])] (eB 3 0 [15] [(.cell 0 7,.ints (some .i64))] (BF t n) K):=by
 exact cM' (E:=EC7) (by kernel_rfl) h
def tY(t n:Int)(x:FNS)(s:MS):Tr FnO:=.pre True (.pre True (.pre ((0:Int)≤aB x.2 25 18∧aB x.2 25 (18:Int)≤(1000000:Int)) (.pre True (.pre ((lE' s.3∧(0:Int)≤s.4∧s.4≤(4611686018427387904:Int))∧True) (.ite (!aZ s.3 x.1 x.2) (.ite (ilt x.11 (W (x.5+1))) (.pre ((t=t∧n=n)∧lE' x.6∧(ilt x.11 (W (x.5+1))=false→(0:Int)≠(4:Int))∧lE' (bif aZ s.3 x.1 x.2 then aO s.3 x.1 (bif bif aM (aB x.2 0 10) 10 then bif aM (aB x.4 10 9) 9 then bif aM (aB x.2 20 5) 5 then aM (aN (aB x.2 25 18)) 18 else false else false else false then aV (aB x.2 0 10) (aB x.4 10 9) (ieq (aB x.2 19 1) 1) (aB x.2 20 5) (aN (aB x.2 25 18))else 0)else s.3)) (.ret {d:=ilt x.11 (W (x.5+1)),x:= {x with pred:=0,pw:=0,curr:=0,cw:=0,tries:=W (x.5+1),ab:=ilt x.11 (W (x.5+1)),at':=0,cl:=bF},s:= {t:=s.1,n:=s.2,xs:=bif aZ s.3 x.1 x.2 then aO s.3 x.1 (bif bif aM (aB x.2 0 10) 10 then bif aM (aB x.4 10 9) 9 then bif aM (aB x.2 20 5) 5 then aM (aN (aB x.2 25 18)) 18 else false else false else false then aV (aB x.2 0 10) (aB x.4 10 9) (ieq (aB x.2 19 1) 1) (aB x.2 20 5) (aN (aB x.2 25 18))else 0)else s.3,c:=s.4+1,k:=3,a:=x.1,o:=aA s.3 x.1,w:=bif bR s.3 x.1 then bif bif aM (aB x.2 0 10) 10 then bif aM (aB x.4 10 9) 9 then bif aM (aB x.2 20 5) 5 then aM (aN (aB x.2 25 18)) 18 else false else false else false then aV (aB x.2 0 10) (aB x.4 10 9) (ieq (aB x.2 19 1) 1) (aB x.2 20 5) (aN (aB x.2 25 18))else 0 else 0,ok:=aZ s.3 x.1 x.2} })) (.pre ((t=t∧n=n)∧lE' x.6∧(ilt x.11 (W (x.5+1))=false→(0:Int)≠(4:Int))∧lE' (bif aZ s.3 x.1 x.2 then aO s.3 x.1 (bif bif aM (aB x.2 0 10) 10 then bif aM (aB x.4 10 9) 9 then bif aM (aB x.2 20 5) 5 then aM (aN (aB x.2 25 18)) 18 else false else false else false then aV (aB x.2 0 10) (aB x.4 10 9) (ieq (aB x.2 19 1) 1) (aB x.2 20 5) (aN (aB x.2 25 18))else 0)else s.3)) (.ret {d:=ilt x.11 (W (x.5+1)),x:= {x with tries:=W (x.5+1),ab:=ilt x.11 (W (x.5+1)),at':=0,cl:=bF},s:= {t:=s.1,n:=s.2,xs:=bif aZ s.3 x.1 x.2 then aO s.3 x.1 (bif bif aM (aB x.2 0 10) 10 then bif aM (aB x.4 10 9) 9 then bif aM (aB x.2 20 5) 5 then aM (aN (aB x.2 25 18)) 18 else false else false else false then aV (aB x.2 0 10) (aB x.4 10 9) (ieq (aB x.2 19 1) 1) (aB x.2 20 5) (aN (aB x.2 25 18))else 0)else s.3,c:=s.4+1,k:=3,a:=x.1,o:=aA s.3 x.1,w:=bif bR s.3 x.1 then bif bif aM (aB x.2 0 10) 10 then bif aM (aB x.4 10 9) 9 then bif aM (aB x.2 20 5) 5 then aM (aN (aB x.2 25 18)) 18 else false else false else false then aV (aB x.2 0 10) (aB x.4 10 9) (ieq (aB x.2 19 1) 1) (aB x.2 20 5) (aN (aB x.2 25 18))else 0 else 0,ok:=aZ s.3 x.1 x.2} }))) (.pre (0=0∧lE' x.6∧1=1∧List.length x.6+(1:Nat)≤(4294967296:Nat)) (.ite (ile (W (x.13+1)) n) (.pre True (.ite (ieq (aB (bif bif aM (aB x.2 0 10) 10 then bif aM (aB x.4 10 9) 9 then bif aM (aB x.2 20 5) 5 then aM (aN (aB x.2 25 18)) 18 else false else false else false then aV (aB x.2 0 10) (aB x.4 10 9) (ieq (aB x.2 19 1) 1) (aB x.2 20 5) (aN (aB x.2 25 18))else 0) 19 1) 1) (.pre ((t=t∧n=n)∧List.length x.6+(1:Nat)=List.length (x.6++ [x.3])∧(false=false→(0:Int)≠(4:Int))∧lE' (bif aZ s.3 x.1 x.2 then aO s.3 x.1 (bif bif aM (aB x.2 0 10) 10 then bif aM (aB x.4 10 9) 9 then bif aM (aB x.2 20 5) 5 then aM (aN (aB x.2 25 18)) 18 else false else false else false then aV (aB x.2 0 10) (aB x.4 10 9) (ieq (aB x.2 19 1) 1) (aB x.2 20 5) (aN (aB x.2 25 18))else 0)else s.3)) (.ret {d:=false,x:= {x with pred:=x.9,ul:=x.6++ [x.3],at':=0,moved:=0,cl:=bF},s:= {t:=s.1,n:=s.2,xs:=bif aZ s.3 x.1 x.2 then aO s.3 x.1 (bif bif aM (aB x.2 0 10) 10 then bif aM (aB x.4 10 9) 9 then bif aM (aB x.2 20 5) 5 then aM (aN (aB x.2 25 18)) 18 else false else false else false then aV (aB x.2 0 10) (aB x.4 10 9) (ieq (aB x.2 19 1) 1) (aB x.2 20 5) (aN (aB x.2 25 18))else 0)else s.3,c:=s.4+1,k:=3,a:=x.1,o:=aA s.3 x.1,w:=bif bR s.3 x.1 then bif bif aM (aB x.2 0 10) 10 then bif aM (aB x.4 10 9) 9 then bif aM (aB x.2 20 5) 5 then aM (aN (aB x.2 25 18)) 18 else false else false else false then aV (aB x.2 0 10) (aB x.4 10 9) (ieq (aB x.2 19 1) 1) (aB x.2 20 5) (aN (aB x.2 25 18))else 0 else 0,ok:=aZ s.3 x.1 x.2} })) (.pre ((t=t∧n=n)∧List.length x.6+(1:Nat)=List.length (x.6++ [x.3])∧(ieq (aB (bif bif aM (aB x.2 0 10) 10 then bif aM (aB x.4 10 9) 9 then bif aM (aB x.2 20 5) 5 then aM (aN (aB x.2 25 18)) 18 else false else false else false then aV (aB x.2 0 10) (aB x.4 10 9) (ieq (aB x.2 19 1) 1) (aB x.2 20 5) (aN (aB x.2 25 18))else 0) 10 9) (0:Int)=false→(1:Int)≠(4:Int))∧lE' (bif aZ s.3 x.1 x.2 then aO s.3 x.1 (bif bif aM (aB x.2 0 10) 10 then bif aM (aB x.4 10 9) 9 then bif aM (aB x.2 20 5) 5 then aM (aN (aB x.2 25 18)) 18 else false else false else false then aV (aB x.2 0 10) (aB x.4 10 9) (ieq (aB x.2 19 1) 1) (aB x.2 20 5) (aN (aB x.2 25 18))else 0)else s.3)) (.ret {d:=ieq (aB (bif bif aM (aB x.2 0 10) 10 then bif aM (aB x.4 10 9) 9 then bif aM (aB x.2 20 5) 5 then aM (aN (aB x.2 25 18)) 18 else false else false else false then aV (aB x.2 0 10) (aB x.4 10 9) (ieq (aB x.2 19 1) 1) (aB x.2 20 5) (aN (aB x.2 25 18))else 0) 10 9) 0,x:= {x with pw:=bif bif aM (aB x.2 0 10) 10 then bif aM (aB x.4 10 9) 9 then bif aM (aB x.2 20 5) 5 then aM (aN (aB x.2 25 18)) 18 else false else false else false then aV (aB x.2 0 10) (aB x.4 10 9) (ieq (aB x.2 19 1) 1) (aB x.2 20 5) (aN (aB x.2 25 18))else 0,curr:=aB (bif bif aM (aB x.2 0 10) 10 then bif aM (aB x.4 10 9) 9 then bif aM (aB x.2 20 5) 5 then aM (aN (aB x.2 25 18)) 18 else false else false else false then aV (aB x.2 0 10) (aB x.4 10 9) (ieq (aB x.2 19 1) 1) (aB x.2 20 5) (aN (aB x.2 25 18))else 0) 10 9,cw:=0,ul:=x.6++ [x.3],at':=1,moved:=W (x.13+1),cl:=bF},s:= {t:=s.1,n:=s.2,xs:=bif aZ s.3 x.1 x.2 then aO s.3 x.1 (bif bif aM (aB x.2 0 10) 10 then bif aM (aB x.4 10 9) 9 then bif aM (aB x.2 20 5) 5 then aM (aN (aB x.2 25 18)) 18 else false else false else false then aV (aB x.2 0 10) (aB x.4 10 9) (ieq (aB x.2 19 1) 1) (aB x.2 20 5) (aN (aB x.2 25 18))else 0)else s.3,c:=s.4+1,k:=3,a:=x.1,o:=aA s.3 x.1,w:=bif bR s.3 x.1 then bif bif aM (aB x.2 0 10) 10 then bif aM (aB x.4 10 9) 9 then bif aM (aB x.2 20 5) 5 then aM (aN (aB x.2 25 18)) 18 else false else false else false then aV (aB x.2 0 10) (aB x.4 10 9) (ieq (aB x.2 19 1) 1) (aB x.2 20 5) (aN (aB x.2 25 18))else 0 else 0,ok:=aZ s.3 x.1 x.2} })))) (.ite (ilt x.11 (W (x.5+1))) (.ite (ilt x.11 (W (x.5+1))) (.pre ((t=t∧n=n)∧List.length x.6+(1:Nat)=List.length (x.6++ [x.3])∧(true=false→(5:Int)≠(4:Int))∧lE' (bif aZ s.3 x.1 x.2 then aO s.3 x.1 (bif bif aM (aB x.2 0 10) 10 then bif aM (aB x.4 10 9) 9 then bif aM (aB x.2 20 5) 5 then aM (aN (aB x.2 25 18)) 18 else false else false else false then aV (aB x.2 0 10) (aB x.4 10 9) (ieq (aB x.2 19 1) 1) (aB x.2 20 5) (aN (aB x.2 25 18))else 0)else s.3)) (.ret {d:=true,x:= {x with pred:=0,pw:=0,curr:=0,cw:=0,tries:=W (x.5+1),ul:=x.6++ [x.3],ab:=ilt x.11 (W (x.5+1)),at':=5,moved:=W (x.13+1),cl:=bF},s:= {t:=s.1,n:=s.2,xs:=bif aZ s.3 x.1 x.2 then aO s.3 x.1 (bif bif aM (aB x.2 0 10) 10 then bif aM (aB x.4 10 9) 9 then bif aM (aB x.2 20 5) 5 then aM (aN (aB x.2 25 18)) 18 else false else false else false then aV (aB x.2 0 10) (aB x.4 10 9) (ieq (aB x.2 19 1) 1) (aB x.2 20 5) (aN (aB x.2 25 18))else 0)else s.3,c:=s.4+1,k:=3,a:=x.1,o:=aA s.3 x.1,w:=bif bR s.3 x.1 then bif bif aM (aB x.2 0 10) 10 then bif aM (aB x.4 10 9) 9 then bif aM (aB x.2 20 5) 5 then aM (aN (aB x.2 25 18)) 18 else false else false else false then aV (aB x.2 0 10) (aB x.4 10 9) (ieq (aB x.2 19 1) 1) (aB x.2 20 5) (aN (aB x.2 25 18))else 0 else 0,ok:=aZ s.3 x.1 x.2} })) (.pre ((t=t∧n=n)∧List.length x.6+(1:Nat)=List.length (x.6++ [x.3])∧(false=false→(0:Int)≠(4:Int))∧lE' (bif aZ s.3 x.1 x.2 then aO s.3 x.1 (bif bif aM (aB x.2 0 10) 10 then bif aM (aB x.4 10 9) 9 then bif aM (aB x.2 20 5) 5 then aM (aN (aB x.2 25 18)) 18 else false else false else false then aV (aB x.2 0 10) (aB x.4 10 9) (ieq (aB x.2 19 1) 1) (aB x.2 20 5) (aN (aB x.2 25 18))else 0)else s.3)) (.ret {d:=false,x:= {x with pred:=x.9,pw:=0,curr:=0,cw:=0,tries:=W (x.5+1),ul:=x.6++ [x.3],ab:=ilt x.11 (W (x.5+1)),at':=0,moved:=0,cl:=bF},s:= {t:=s.1,n:=s.2,xs:=bif aZ s.3 x.1 x.2 then aO s.3 x.1 (bif bif aM (aB x.2 0 10) 10 then bif aM (aB x.4 10 9) 9 then bif aM (aB x.2 20 5) 5 then aM (aN (aB x.2 25 18)) 18 else false else false else false then aV (aB x.2 0 10) (aB x.4 10 9) (ieq (aB x.2 19 1) 1) (aB x.2 20 5) (aN (aB x.2 25 18))else 0)else s.3,c:=s.4+1,k:=3,a:=x.1,o:=aA s.3 x.1,w:=bif bR s.3 x.1 then bif bif aM (aB x.2 0 10) 10 then bif aM (aB x.4 10 9) 9 then bif aM (aB x.2 20 5) 5 then aM (aN (aB x.2 25 18)) 18 else false else false else false then aV (aB x.2 0 10) (aB x.4 10 9) (ieq (aB x.2 19 1) 1) (aB x.2 20 5) (aN (aB x.2 25 18))else 0 else 0,ok:=aZ s.3 x.1 x.2} }))) (.ite (ilt x.11 (W (x.5+1))) (.pre ((t=t∧n=n)∧List.length x.6+(1:Nat)=List.length (x.6++ [x.3])∧(true=false→(5:Int)≠(4:Int))∧lE' (bif aZ s.3 x.1 x.2 then aO s.3 x.1 (bif bif aM (aB x.2 0 10) 10 then bif aM (aB x.4 10 9) 9 then bif aM (aB x.2 20 5) 5 then aM (aN (aB x.2 25 18)) 18 else false else false else false then aV (aB x.2 0 10) (aB x.4 10 9) (ieq (aB x.2 19 1) 1) (aB x.2 20 5) (aN (aB x.2 25 18))else 0)else s.3)) (.ret {d:=true,x:= {x with tries:=W (x.5+1),ul:=x.6++ [x.3],ab:=ilt x.11 (W (x.5+1)),at':=5,moved:=W (x.13+1),cl:=bF},s:= {t:=s.1,n:=s.2,xs:=bif aZ s.3 x.1 x.2 then aO s.3 x.1 (bif bif aM (aB x.2 0 10) 10 then bif aM (aB x.4 10 9) 9 then bif aM (aB x.2 20 5) 5 then aM (aN (aB x.2 25 18)) 18 else false else false else false then aV (aB x.2 0 10) (aB x.4 10 9) (ieq (aB x.2 19 1) 1) (aB x.2 20 5) (aN (aB x.2 25 18))else 0)else s.3,c:=s.4+1,k:=3,a:=x.1,o:=aA s.3 x.1,w:=bif bR s.3 x.1 then bif bif aM (aB x.2 0 10) 10 then bif aM (aB x.4 10 9) 9 then bif aM (aB x.2 20 5) 5 then aM (aN (aB x.2 25 18)) 18 else false else false else false then aV (aB x.2 0 10) (aB x.4 10 9) (ieq (aB x.2 19 1) 1) (aB x.2 20 5) (aN (aB x.2 25 18))else 0 else 0,ok:=aZ s.3 x.1 x.2} })) (.pre ((t=t∧n=n)∧List.length x.6+(1:Nat)=List.length (x.6++ [x.3])∧(false=false→(0:Int)≠(4:Int))∧lE' (bif aZ s.3 x.1 x.2 then aO s.3 x.1 (bif bif aM (aB x.2 0 10) 10 then bif aM (aB x.4 10 9) 9 then bif aM (aB x.2 20 5) 5 then aM (aN (aB x.2 25 18)) 18 else false else false else false then aV (aB x.2 0 10) (aB x.4 10 9) (ieq (aB x.2 19 1) 1) (aB x.2 20 5) (aN (aB x.2 25 18))else 0)else s.3)) (.ret {d:=false,x:= {x with pred:=x.9,tries:=W (x.5+1),ul:=x.6++ [x.3],ab:=ilt x.11 (W (x.5+1)),at':=0,moved:=0,cl:=bF},s:= {t:=s.1,n:=s.2,xs:=bif aZ s.3 x.1 x.2 then aO s.3 x.1 (bif bif aM (aB x.2 0 10) 10 then bif aM (aB x.4 10 9) 9 then bif aM (aB x.2 20 5) 5 then aM (aN (aB x.2 25 18)) 18 else false else false else false then aV (aB x.2 0 10) (aB x.4 10 9) (ieq (aB x.2 19 1) 1) (aB x.2 20 5) (aN (aB x.2 25 18))else 0)else s.3,c:=s.4+1,k:=3,a:=x.1,o:=aA s.3 x.1,w:=bif bR s.3 x.1 then bif bif aM (aB x.2 0 10) 10 then bif aM (aB x.4 10 9) 9 then bif aM (aB x.2 20 5) 5 then aM (aN (aB x.2 25 18)) 18 else false else false else false then aV (aB x.2 0 10) (aB x.4 10 9) (ieq (aB x.2 19 1) 1) (aB x.2 20 5) (aN (aB x.2 25 18))else 0 else 0,ok:=aZ s.3 x.1 x.2} })))))))))))
theorem GC(t n:Int)(x:FNS)(s:MS)(K:FnO→Prop)(h:(tY t n x s).run K):cT' 94 [.ptr 0 0,.ptr 1 0] [some (.cells [.int .i64 t,.int .i64 n,.int .i64 x.pred,.int .u64 x.pw,.int .i64 x.curr,.int .u64 x.cw,.int .i64 x.tries,.slice 3 0 x.ul.length 1,.bool x.ab,.int .i64 x.me,.int .i64 x.frm,.int .i64 x.key,.int .i64 x.limit,.int .i64 5,.int .i64 x.moved,.O]),aX 2 s,aY s,some (.ints (some .i64) x.ul)] (eB 3 0 [15] [(.cell 0 7,.ints (some .i64))] (BF t n) K):=by
 exact cM' (E:=EC7) (by kernel_rfl) h
def tZ(t n:Int)(x:FNS)(s:MS):Tr FnO:=.pre ((((0:Int)≤t∧t≤(100000:Int))∧((0:Int)≤n∧n≤(100000:Int))∧((-1099511627776:Int)≤x.8∧x.8≤(1099511627776:Int))∧(-1099511627776:Int)≤(0:Int)∧(0:Int)≤(1099511627776:Int))∧True) (.pre ((lE' s.3∧(0:Int)≤s.4∧s.4≤(4611686018427387904:Int))∧True) (.ite (ile (W (x.13+1)) n) (.pre ((t=t∧n=n)∧lE' x.6∧(false=false→(0:Int)≠(4:Int))∧lE' (aO s.3 (2*n+5+2*x.8+0) (WU x.3))) (.ret {d:=false,x:= {x with pred:=x.3,at':=0,moved:=W (x.13+1),cl:=bF},s:= {t:=s.1,n:=s.2,xs:=aO s.3 (2*n+5+2*x.8+0) (WU x.3),c:=s.4+1,k:=2,a:=2*n+5+2*x.8+0,o:=aA s.3 (2*n+5+2*x.8+0),w:=bif bR s.3 (2*n+5+2*x.8+0)then WU x.3 else 0,ok:=bR s.3 (2*n+5+2*x.8+0) } })) (.ite (ilt x.11 (W (x.5+1))) (.ite (ilt x.11 (W (x.5+1))) (.pre ((t=t∧n=n)∧lE' x.6∧(true=false→(0:Int)≠(4:Int))∧lE' (aO s.3 (2*n+5+2*x.8+0) (WU x.3))) (.ret {d:=true,x:= {x with pred:=0,pw:=0,curr:=0,cw:=0,tries:=W (x.5+1),ab:=ilt x.11 (W (x.5+1)),at':=0,moved:=W (x.13+1),cl:=bF},s:= {t:=s.1,n:=s.2,xs:=aO s.3 (2*n+5+2*x.8+0) (WU x.3),c:=s.4+1,k:=2,a:=2*n+5+2*x.8+0,o:=aA s.3 (2*n+5+2*x.8+0),w:=bif bR s.3 (2*n+5+2*x.8+0)then WU x.3 else 0,ok:=bR s.3 (2*n+5+2*x.8+0) } })) (.pre ((t=t∧n=n)∧lE' x.6∧(false=false→(0:Int)≠(4:Int))∧lE' (aO s.3 (2*n+5+2*x.8+0) (WU x.3))) (.ret {d:=false,x:= {x with pred:=x.9,pw:=0,curr:=0,cw:=0,tries:=W (x.5+1),ab:=ilt x.11 (W (x.5+1)),at':=0,moved:=0,cl:=bF},s:= {t:=s.1,n:=s.2,xs:=aO s.3 (2*n+5+2*x.8+0) (WU x.3),c:=s.4+1,k:=2,a:=2*n+5+2*x.8+0,o:=aA s.3 (2*n+5+2*x.8+0),w:=bif bR s.3 (2*n+5+2*x.8+0)then WU x.3 else 0,ok:=bR s.3 (2*n+5+2*x.8+0) } }))) (.ite (ilt x.11 (W (x.5+1))) (.pre ((t=t∧n=n)∧lE' x.6∧(true=false→(0:Int)≠(4:Int))∧lE' (aO s.3 (2*n+5+2*x.8+0) (WU x.3))) (.ret {d:=true,x:= {x with pred:=x.3,tries:=W (x.5+1),ab:=ilt x.11 (W (x.5+1)),at':=0,moved:=W (x.13+1),cl:=bF},s:= {t:=s.1,n:=s.2,xs:=aO s.3 (2*n+5+2*x.8+0) (WU x.3),c:=s.4+1,k:=2,a:=2*n+5+2*x.8+0,o:=aA s.3 (2*n+5+2*x.8+0),w:=bif bR s.3 (2*n+5+2*x.8+0)then WU x.3 else 0,ok:=bR s.3 (2*n+5+2*x.8+0) } })) (.pre ((t=t∧n=n)∧lE' x.6∧(false=false→(0:Int)≠(4:Int))∧lE' (aO s.3 (2*n+5+2*x.8+0) (WU x.3))) (.ret {d:=false,x:= {x with pred:=x.9,tries:=W (x.5+1),ab:=ilt x.11 (W (x.5+1)),at':=0,moved:=0,cl:=bF},s:= {t:=s.1,n:=s.2,xs:=aO s.3 (2*n+5+2*x.8+0) (WU x.3),c:=s.4+1,k:=2,a:=2*n+5+2*x.8+0,o:=aA s.3 (2*n+5+2*x.8+0),w:=bif bR s.3 (2*n+5+2*x.8+0)then WU x.3 else 0,ok:=bR s.3 (2*n+5+2*x.8+0) } }))))))
theorem GG(t n:Int)(x:FNS)(s:MS)(K:FnO→Prop)(h:(tZ t n x s).run K):cT' 94 [.ptr 0 0,.ptr 1 0] [some (.cells [.int .i64 t,.int .i64 n,.int .i64 x.pred,.int .u64 x.pw,.int .i64 x.curr,.int .u64 x.cw,.int .i64 x.tries,.slice 3 0 x.ul.length 1,.bool x.ab,.int .i64 x.me,.int .i64 x.frm,.int .i64 x.key,.int .i64 x.limit,.int .i64 6,.int .i64 x.moved,.O]),aX 2 s,aY s,some (.ints (some .i64) x.ul)] (eB 3 0 [15] [(.cell 0 7,.ints (some .i64))] (BF t n) K):=by
 exact cM' (E:=EC7) (by kernel_rfl) h
def D3(t n:Int)(x:FNS)(s:MS):Tr FnO:=
 bif ieq x.at' 0 then tW t n x s else
 bif ieq x.at' 1 then v6 t n x s else
 bif ieq x.at' 2 then tX t n x s else
 bif ieq x.at' 3 then l1 t n x s else
 bif ieq x.at' 4 then zY t n x s else
 bif ieq x.at' 5 then tY t n x s else
 bif ieq x.at' 6 then tZ t n x s else .pre False (.ret default)
def fnF(t n:Int)(x:FNS)(s:MS):FnO:=(D3 t n x s).val
def NZ(t n:Int)(x:FNS)(s:MS):Prop:=(D3 t n x s).ok
theorem N6(t n:Int)(x:FNS)(s:MS)(K:AVal→aC Ob→Prop)(h:(D3 t n x s).run (fun y=>(FnO.fin t n y).run K)):cT' 94 [.ptr 0 0,.ptr 1 0] (WZ t n x s) K:=by
 unfold D3 at h
 by_cases e:x.at'=0
 ·rw [e]at h
  have h:(tW t n x s).run _:=h
  refine ZB (root:=0) (pos:=[15]) (cs:=[(.cell 0 7,.ints (some .i64))]) (parse:=BF t n) (fin:=FnO.fin t n) oF (cV.unpack (.find t n x) 0 0 (jN t n x) [] rfl (congrArg (Prod.mk 0) (gO (by omega))) (by kernel_rfl) rfl) ?_
  have q:=F7 t n x s _ h
  rw [←e]at q
  exact q
 rw [fK e]at h
 by_cases e:x.at'=1
 ·rw [e]at h
  have h:(v6 t n x s).run _:=h
  refine ZB (root:=0) (pos:=[15]) (cs:=[(.cell 0 7,.ints (some .i64))]) (parse:=BF t n) (fin:=FnO.fin t n) oF (cV.unpack (.find t n x) 0 0 (jN t n x) [] rfl (congrArg (Prod.mk 0) (gO (by omega))) (by kernel_rfl) rfl) ?_
  have q:=F8 t n x s _ h
  rw [←e]at q
  exact q
 rw [fK e]at h
 by_cases e:x.at'=2
 ·rw [e]at h
  have h:(tX t n x s).run _:=h
  refine ZB (root:=0) (pos:=[15]) (cs:=[(.cell 0 7,.ints (some .i64))]) (parse:=BF t n) (fin:=FnO.fin t n) oF (cV.unpack (.find t n x) 0 0 (jN t n x) [] rfl (congrArg (Prod.mk 0) (gO (by omega))) (by kernel_rfl) rfl) ?_
  have q:=F9 t n x s _ h
  rw [←e]at q
  exact q
 rw [fK e]at h
 by_cases e:x.at'=3
 ·rw [e]at h
  have h:(l1 t n x s).run _:=h
  refine ZB (root:=0) (pos:=[15]) (cs:=[(.cell 0 7,.ints (some .i64))]) (parse:=BF t n) (fin:=FnO.fin t n) oF (cV.unpack (.find t n x) 0 0 (jN t n x) [] rfl (congrArg (Prod.mk 0) (gO (by omega))) (by kernel_rfl) rfl) ?_
  have q:=GA t n x s _ h
  rw [←e]at q
  exact q
 rw [fK e]at h
 by_cases e:x.at'=4
 ·rw [e]at h
  have h:(zY t n x s).run _:=h
  refine ZB (root:=0) (pos:=[15]) (cs:=[(.cell 0 7,.ints (some .i64))]) (parse:=BF t n) (fin:=FnO.fin t n) oF (cV.unpack (.find t n x) 0 0 (o0 t n x) [] rfl (congrArg (Prod.mk 0) (DX e)) (by kernel_rfl) rfl) ?_
  have q:=GB t n x s _ h
  rw [←e]at q
  exact q
 rw [fK e]at h
 by_cases e:x.at'=5
 ·rw [e]at h
  have h:(tY t n x s).run _:=h
  refine ZB (root:=0) (pos:=[15]) (cs:=[(.cell 0 7,.ints (some .i64))]) (parse:=BF t n) (fin:=FnO.fin t n) oF (cV.unpack (.find t n x) 0 0 (jN t n x) [] rfl (congrArg (Prod.mk 0) (gO (by omega))) (by kernel_rfl) rfl) ?_
  have q:=GC t n x s _ h
  rw [←e]at q
  exact q
 rw [fK e]at h
 by_cases e:x.at'=6
 ·rw [e]at h
  have h:(tZ t n x s).run _:=h
  refine ZB (root:=0) (pos:=[15]) (cs:=[(.cell 0 7,.ints (some .i64))]) (parse:=BF t n) (fin:=FnO.fin t n) oF (cV.unpack (.find t n x) 0 0 (jN t n x) [] rfl (congrArg (Prod.mk 0) (gO (by omega))) (by kernel_rfl) rfl) ?_
  have q:=GG t n x s _ h
  rw [←e]at q
  exact q
 rw [fK e]at h
 exact h.1.elim
noncomputable def fnS:aK Ob:=fun args h=>match args,h with
 | [.ptr 0 0,.ptr 1 0],[some (.abs (.find t n x) []),e1,e2]=>(match eN 2 [e1,e2]with
   | some (l,s)=>some (.pre (l=s.xs.length∧NZ t n x s) (FnO.fin t n (fnF t n x s)))
   | none=>none)
 | _,_=>none
theorem U8:sT' 94 fnS:=by
 intro args h o ho K hK
 unfold fnS at ho
 split at ho
 case h_2=>cases ho
 split at ho<;>cases ho
 rename_i hm
 obtain⟨⟨hl,ok⟩,hK⟩:=hK
 have hh:=bU hm hl
 cases hh
 exact N6 _ _ _ _ K (ZD ok hK)
def RY(t n:Int)(v:AVal)(g:aC Ob):Option (Prop×FNS):=match v,g with
 | .ptr 0 0,[some (.cells [.int .i64 t1,.int .i64 n1,.int .i64 pred,.int .u64 pw,.int .i64 curr,.int .u64 cw,.int .i64 tries,.slice 1 0 ul_l 1,.bool ab,.int .i64 me,.int .i64 frm,.int .i64 key,.int .i64 limit,.int .i64 at',.int .i64 moved,.O]),some (.ints (some .i64) ul)]=>some ((t1=t∧n1=n)∧ul_l=ul.length∧(at'≠4),(⟨pred,pw,curr,cw,tries,ul,ab,me,frm,key,limit,at',moved,⟨0,0,0,0⟩⟩:FNS))
 | _,_=>none
abbrev NX(t n:Int)(y:FNS):aC Ob:=[some (.abs (.find t n y) [])]
theorem NY{t n:Int} :dH (obI tbl) 0 (RY t n) (fun y=>.ret (.ptr 0 0) (NX t n y)):=by
 intro v g p x hp hq K hK
 unfold RY at hp
 split at hp
 case h_2=>cases hp
 rename_i t1 n1 pred pw curr cw tries ul_l ab me frm key limit at' moved ul
 simp only [sI',pI']at hp
 obtain⟨rfl,rfl⟩:=hp
 obtain⟨⟨rfl,rfl⟩,rfl,hat⟩:=hq
 exact⟨⟨_,_,aQ.pack (NX t1 n1 (⟨pred,pw,curr,cw,tries,ul,ab,me,frm,key,limit,at',moved,⟨0,0,0,0⟩⟩:FNS)) (.find t1 n1 (⟨pred,pw,curr,cw,tries,ul,ab,me,frm,key,limit,at',moved,⟨0,0,0,0⟩⟩:FNS)) 0 0 (jN t1 n1 (⟨pred,pw,curr,cw,tries,ul,ab,me,frm,key,limit,at',moved,⟨0,0,0,0⟩⟩:FNS)) [] (by kernel_rfl) rfl (congrArg (Prod.mk 0) (gO hat)) (by kernel_rfl),hK⟩⟩
def JP(t n:Int)(me hd key lim:Int):Tr FNS:=.pre (((0:Int)≤n∧n≤(100000:Int))∧(-1000000:Int)≤hd∧hd≤(1000000:Int)) (.pre (((0:Int)≤n∧n≤(100000:Int))∧(-1000000:Int)≤hd∧hd≤(1000000:Int)) (.pre ((t=t∧n=n)∧0=0∧(0:Int)≠(4:Int)) (.ret {pred:=n+1+hd,pw:=0,curr:=0,cw:=0,tries:=0,ul:=[],ab:=false,me:=me,frm:=n+1+hd,key:=key,limit:=lim,at':=0,moved:=0,cl:=bF})))
def xV(t n:Int)(me hd key lim:Int):FNS:=(JP t n me hd key lim).val
def zX(t n:Int)(me hd key lim:Int):Prop:=(JP t n me hd key lim).ok
def fnNS:aK Ob:=fun args h=>match args,h with
 | [.agg [.int .i64 t,.int .i64 n],.int .i64 me,.int .i64 hd,.int .i64 key,.int .i64 lim],[]=>some (.pre (zX t n me hd key lim) (.ret (.ptr 0 0) (NX t n (xV t n me hd key lim))))
 | _,_=>none
theorem RZ:sT' 132 fnNS:=by
 intro args h o ho K hK
 unfold fnNS at ho
 split at ho<;>cases ho
 rename_i t n me hd key lim
 obtain⟨ok,hK⟩:=hK
 refine ZJ (root:=0) (pos:=[15]) (cs:=[(.cell 0 7,.ints (some .i64))]) (parse:=RY t n) NY ?_
 exact cM' (E:=EC7) (q:=(JP t n me hd key lim).run (fun y=>(Out.ret (.ptr 0 0) (NX t n y)).run K)) (by kernel_rfl) (ZD ok hK)
noncomputable def EF:=((EC7.addS 94 fnS U8).addS 132 fnNS RZ)
def retC:aK Ob:=fun args h=>match args,h with
 | [.ptr 0 0,.slice 2 0 k 1],[e1,e2,some (.cells [.int .i64 p])]=>(match u4 1 [e1,e2]with
   | some (l,t,n,st)=>some (.pre (l=st.R.length∧k=1∧st.R.length+1≤4294967296) (.ret (.tup []) [some (.cells [.int .i64 t,.int .i64 n,.int .i64 st.me,.int .i64 st.sp,.slice 3 0 (st.R.length+1) 1]),none,some (.cells [.int .i64 p]),some (.ints (some .i64) (st.R++ [p]))]))
   | none=>none)
 | _,_=>none
theorem PE:sT' 71 retC:=by
 intro args h o ho K hK
 unfold retC at ho
 split at ho
 case h_2=>cases ho
 rename_i k e1 e2 p
 split at ho<;>cases ho
 rename_i l t n st hs
 obtain⟨⟨hl,rfl,hle⟩,hK⟩:=hK
 have hh:=dK hs hl
 cases hh
 refine Y2 (cM' (E:=EF) (q:=(0=0∧lE' st.3∧1=1∧List.length st.3+(1:Nat)≤(4294967296:Nat))∧K (.tup []) [some (.cells [.int .i64 t,.int .i64 n,.int .i64 st.1,.int .i64 st.2,.slice 3 0 (List.length st.3+1) 1]),none,some (.cells [.int .i64 p]),some (.ints (some .i64) (st.3++ [p]))]) (by kernel_rfl) ?_)
 exact⟨⟨rfl,rfl,rfl,hle⟩,hK⟩
def retI:aK Ob:=fun args h=>match args,h with
 | [.ptr 0 0,.slice 2 0 k 1],[e1,e2,some (.ints (some .i64) xs)]=>(match u4 1 [e1,e2]with
   | some (l,t,n,st)=>some (.pre (l=st.R.length∧k=xs.length∧st.R.length+xs.length≤4294967296) (.ret (.tup []) [some (.cells [.int .i64 t,.int .i64 n,.int .i64 st.me,.int .i64 st.sp,.slice 3 0 (st.R.length+xs.length) 1]),none,some (.ints (some .i64) xs),some (.ints (some .i64) (st.R++xs))]))
   | none=>none)
 | _,_=>none
theorem PF:sT' 71 retI:=by
 intro args h o ho K hK
 unfold retI at ho
 split at ho
 case h_2=>cases ho
 rename_i k e1 e2 xs
 split at ho<;>cases ho
 rename_i l t n st hs
 obtain⟨⟨hl,rfl,hle⟩,hK⟩:=hK
 have hh:=dK hs hl
 cases hh
 refine Y2 (cM' (E:=EF) (q:=(0+List.length xs≤List.length xs∧0=0∧lE' st.3∧1=1∧List.length st.3+List.length xs≤(4294967296:Nat))∧K (.tup []) [some (.cells [.int .i64 t,.int .i64 n,.int .i64 st.1,.int .i64 st.2,.slice 3 0 (List.length st.3+List.length xs) 1]),none,some (.ints (some .i64) xs),some (.ints (some .i64) (st.3++List.take (List.length xs) (List.drop 0 xs)))]) (by kernel_rfl) ?_)
 refine⟨⟨by omega,rfl,rfl,rfl,hle⟩,?_⟩
 rw [List.drop_zero,List.take_length]
 exact hK
noncomputable def retS:aK Ob:=aK.or retC retI
theorem TW:sT' 71 retS:=ZM PE PF
noncomputable def ER:=EF.addS 71 retS TW
end Go.Sh
