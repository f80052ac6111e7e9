import Derived.Test.YteindpciaceeeaaGreatZM0toM42
set_option linter.all false
set_option maxHeartbeats 8000000
namespace Go.Sh
open Go Go.Proofs
variable [Con]
theorem WN{xs:List Int}(h:WM xs){a x:Int}(hx:0≤x∧x≤18446744073709551615):WM (aS xs a x):=by
 unfold aS;split
 ·refine⟨fun y hy=>?_⟩;rcases List.mem_or_eq_of_mem_set hy with h1 | h1
  ·exact h.h y h1
  ·subst h1;exact hx
 ·exact h
theorem LZ(x:Int):0≤WU x∧WU x≤18446744073709551615:=by
 unfold WU;simp only [IntKind.wrap,IntKind.bits,IntKind.signed]
 simp
 omega
structure EO where
 d:Bool
 e:ENS
 st:STS
 s:MS
def at0(t n me:Int):Int:=bif bN n (aN t n me)then aN t n me else 1
def JC(e:ENS)(st:STS)(x:AL)(s:MS):EO:=match ile x.left 0 with
 | true=>⟨e.dn||ieq (st.R.length:Int) 0,{e with ph:=2,sh:=e.dn||ieq (st.R.length:Int) 0,x:=x},{st with sp:=0},s⟩
 | false=>⟨false,{e with ph:=1,x:=x},st,s⟩
def qX(n:Int)(e:ENS)(st:STS)(x:AL)(s:MS):EO:=match x.free with
 | true=>(match aT s.xs (n+4+x.at') x.found with
   | true=>⟨true,{e with ph:=1,x:=⟨x.at',x.at',x.left,x.found,true⟩ },{st with sp:=x.at'},s.cased (n+4+x.at') x.found (WU (x.found+1))⟩
   | false=>JC e st ⟨0,cQ n x.at',x.left - 1,x.found,false⟩ (s.cased (n+4+x.at') x.found (WU (x.found+1))))
 | false=>(match oddB (aD s.xs (n+4+x.at'))with
   | true=>JC e st ⟨0,cQ n x.at',x.left - 1,aD s.xs (n+4+x.at'),false⟩ (s.loadd (n+4+x.at'))
   | false=>⟨false,{e with ph:=1,x:=⟨0,x.at',x.left,aD s.xs (n+4+x.at'),true⟩ },st,s.loadd (n+4+x.at')⟩)
instance:Inhabited EO:=⟨⟨false,bV,⟨0,0,[]⟩,⟨0,0,[],0,0,0,0,0,false⟩⟩⟩
def enF(t n:Int)(e:ENS)(st:STS)(s:MS):EO:=match e.ph with
 | 0=>(match ieq st.sp 0 with
   | true=>qX n e st ⟨0,at0 t n st.me,n,0,false⟩ s
   | false=>⟨true,e,st,s.loadd 0⟩)
 | 1=>qX n e st e.x s
 | 2=>⟨false,{e with ph:=3,y:= {e.y with N:=st.R,m:=aV [] n 0 s,i:=1} },st,s.loadd (bO n 0)⟩
 | 3=>(match ieq (e.y.i+1) (2*t),ieq ((aU (aV e.y.m n e.y.i s) e.y.N).length :Int) 0 with
   | true,true=>⟨true,{e with ph:=0,sh:=true,dn:=true},{st with R:=cC (aV e.y.m n e.y.i s) e.y.N},s.loadd (bO n e.y.i)⟩
   | true,false=>⟨false,{e with ph:=4,y:=⟨0,e.y.N,aV e.y.m n e.y.i s,e.y.i+1,cC (aV e.y.m n e.y.i s) e.y.N,aU (aV e.y.m n e.y.i s) e.y.N,aU (aV e.y.m n e.y.i s) e.y.N,0,(aU (aV e.y.m n e.y.i s) e.y.N).length⟩ },st,s.loadd (bO n e.y.i)⟩
   | false,_=>⟨false,{e with y:= {e.y with m:=aV e.y.m n e.y.i s,i:=e.y.i+1} },st,s.loadd (bO n e.y.i)⟩)
 | _=>(match ieq ((e.y.l - 1:Nat):Int) 0 with
   | true=>⟨ieq (e.y.fs.length:Int) 0,{e with ph:=0,sh:=ieq (e.y.fs.length:Int) 0,dn:=true},{st with R:=e.y.ks},s.added (bR n e.y.gs e.y.j) 1⟩
   | false=>⟨false,{e with y:= {e.y with j:=e.y.j+1,l:=e.y.l - 1} },st,s.added (bR n e.y.gs e.y.j) 1⟩)
structure okAl (n:Int) (x:AL):Prop where
 hg:x.got=0
 ha:1≤x.at'∧x.at'≤n
 hl:0≤x.left∧x.left≤1000
def aE2(t n:Int)(e:ENS)(st:STS):Prop:=match e.ph with
 | 0=>True
 | 1=>okAl n e.x
 | 2=>True
 | 3=>e.y.N.length≤1000000∧0≤e.y.i∧e.y.i<2*t
 | 4=>2*t≤e.y.i∧1≤e.y.l∧e.y.gs.length=e.y.j+e.y.l∧ -1000000≤List.getD e.y.gs (e.y.j+Int.toNat 0*1) 0∧List.getD e.y.gs (e.y.j+Int.toNat 0*1) 0≤1000000
 | _=>False
structure KO (t n:Int) (e:ENS) (st:STS) (s:MS):Prop where
 ht:1≤t∧t≤1000
 hn:1≤n∧n≤1000
 hc:0≤s.c∧s.c≤1000000
 hm:0≤st.me∧st.me≤1000
 hR:st.R.length≤1000000
 ho:aE2 t n e st
abbrev aZ(l:Nat)(s:MS):Option (aH Mc):=some (.cells [.int .i64 s.t,.int .i64 s.n,.slice l 0 s.xs.length 1,.int .i64 s.c,.int .i64 s.k,.int .i64 s.a,.int .u64 s.o,.int .u64 s.w,.bool s.ok])
abbrev a8(s:MS):Option (aH Mc):=some (.ints (some .u64) s.xs)
def T0(t n:Int)(e:ENS)(st:STS)(s:MS):aC Ob:=[some (.abs (.ensure t n e) [1]),some (.abs (.store t n st) []),aZ 3 s,a8 s]
def EO.left(o:EO)(t n:Int)(K:AVal→aC Ob→Prop):Prop:=K (.bool o.d) (T0 t n o.e o.st o.s)
theorem f8{K:AVal→aC Ob→Prop}{t n:Int}{o:EO}{g':aC Ob}(pl:List Nat)(hK:o.left t n K)
 (hb:(dO pl g'.length&&iC pl 0 4&&obOk 1 (C1 t n o.e))=true)
 (hT:fQ pl g'=aP [some (.abs (.ensure t n o.e) [1]),some (.cells [.int .i64 t,.int .i64 n,.int .i64 o.st.me,.int .i64 o.st.sp,.slice 4 0 o.st.R.length 1]),aZ 3 o.s,a8 o.s,some (.ints (some .i64) o.st.R)] 0 1 (C1 t n o.e) [1]):zE tbl 4 (zE tbl 4 K) (.bool o.d) g':=by
 simp only [Bool.and_eq_true]at hb;obtain⟨⟨b1,b2⟩,b3⟩:=hb;refine⟨pl,_,.ensure t n o.e,0,1,_,[1],?_,hT,rfl,rfl,⟨[0,1,2,3,4],[some (.abs (.ensure t n o.e) [1]),some (.abs (.store t n o.st) []),aZ 3 o.s,a8 o.s],.store t n o.st,1,0,dN t n o.st,[],rfl,rfl,rfl,rfl,?_⟩⟩
 ·rw [b1,b2,b3];rfl
 ·exact hK
theorem aFO(t n me sp:Int)(R:List Int)(sh dn:Bool)(x:AL)(y:SWS)(s:MS)(K:AVal→aC Ob→Prop)(hK:bif !ieq sp 0 then(lE' s.3∧(0:Int)≤s.4∧s.4≤(4611686018427387904:Int))∧K (.bool true) [some (.cells [.ptr 1 0,.bool sh,.raw (Value.pointer none),.raw (Value.pointer none),.bool dn]),some (.cells [.int .i64 t,.int .i64 n,.int .i64 me,.int .i64 sp,.slice 4 0 R.length 1]),some (.cells [.int .i64 s.1,.int .i64 s.2,.slice 3 0 s.3.length 1,.int .i64 (s.4+1),.int .i64 1,.int .i64 0,.int .u64 (aD s.3 0),.int .u64 (aD s.3 0),.bool (bL s.3 0)]),some (.ints (some .u64) s.3),some (.ints (some .i64) R)]else(((0:Int)≤me∧me≤(100000:Int))∧(0:Int)≤n∧n≤(100000:Int))∧(True∧True)∧(lE' s.3∧((1:Int)≤t∧t≤(1000:Int))∧((1:Int)≤n∧n≤(1000:Int))∧(((1:Int)≤bif bN n (aN t n me)then aN t n me else 1)∧(bif bN n (aN t n me)then aN t n me else 1)≤n)∧((0:Int)≤n∧n≤(1000:Int))∧(0:Int)≤s.4∧s.4≤(1000000:Int))∧bif oddB (aD s.3 (n+4+bif bN n (aN t n me)then aN t n me else 1))then bif !ile (n - 1) 0 then K (.bool false) [some (.cells [.ptr 1 0,.bool sh,.ptr 5 0,.raw (Value.pointer none),.bool dn]),some (.cells [.int .i64 t,.int .i64 n,.int .i64 me,.int .i64 sp,.slice 4 0 R.length 1]),some (.cells [.int .i64 s.1,.int .i64 s.2,.slice 3 0 s.3.length 1,.int .i64 (s.4+1),.int .i64 1,.int .i64 (n+4+bif bN n (aN t n me)then aN t n me else 1),.int .u64 (aD s.3 (n+4+bif bN n (aN t n me)then aN t n me else 1)),.int .u64 (aD s.3 (n+4+bif bN n (aN t n me)then aN t n me else 1)),.bool (bL s.3 (n+4+bif bN n (aN t n me)then aN t n me else 1))]),some (.ints (some .u64) s.3),some (.ints (some .i64) R),some (.cells [.int .i64 t,.int .i64 n,.int .i64 0,.int .i64 (cQ n (bif bN n (aN t n me)then aN t n me else 1)),.int .i64 (n - 1),.int .u64 (aD s.3 (n+4+bif bN n (aN t n me)then aN t n me else 1)),.bool false])]else bif dn then K (.bool true) [some (.cells [.ptr 1 0,.bool true,.ptr 5 0,.ptr 6 0,.bool dn]),some (.cells [.int .i64 t,.int .i64 n,.int .i64 me,.int .i64 0,.slice 4 0 R.length 1]),some (.cells [.int .i64 s.1,.int .i64 s.2,.slice 3 0 s.3.length 1,.int .i64 (s.4+1),.int .i64 1,.int .i64 (n+4+bif bN n (aN t n me)then aN t n me else 1),.int .u64 (aD s.3 (n+4+bif bN n (aN t n me)then aN t n me else 1)),.int .u64 (aD s.3 (n+4+bif bN n (aN t n me)then aN t n me else 1)),.bool (bL s.3 (n+4+bif bN n (aN t n me)then aN t n me else 1))]),some (.ints (some .u64) s.3),some (.ints (some .i64) R),some (.cells [.int .i64 t,.int .i64 n,.int .i64 0,.int .i64 (cQ n (bif bN n (aN t n me)then aN t n me else 1)),.int .i64 (n - 1),.int .u64 (aD s.3 (n+4+bif bN n (aN t n me)then aN t n me else 1)),.bool false]),some (.cells [.ptr 1 0,.raw (Value.pointer none)])]else K (.bool (ieq (↑R.length:Int) 0)) [some (.cells [.ptr 1 0,.bool (ieq (↑R.length:Int) 0),.ptr 5 0,.ptr 6 0,.bool dn]),some (.cells [.int .i64 t,.int .i64 n,.int .i64 me,.int .i64 0,.slice 4 0 R.length 1]),some (.cells [.int .i64 s.1,.int .i64 s.2,.slice 3 0 s.3.length 1,.int .i64 (s.4+1),.int .i64 1,.int .i64 (n+4+bif bN n (aN t n me)then aN t n me else 1),.int .u64 (aD s.3 (n+4+bif bN n (aN t n me)then aN t n me else 1)),.int .u64 (aD s.3 (n+4+bif bN n (aN t n me)then aN t n me else 1)),.bool (bL s.3 (n+4+bif bN n (aN t n me)then aN t n me else 1))]),some (.ints (some .u64) s.3),some (.ints (some .i64) R),some (.cells [.int .i64 t,.int .i64 n,.int .i64 0,.int .i64 (cQ n (bif bN n (aN t n me)then aN t n me else 1)),.int .i64 (n - 1),.int .u64 (aD s.3 (n+4+bif bN n (aN t n me)then aN t n me else 1)),.bool false]),some (.cells [.ptr 1 0,.raw (Value.pointer none)])]else K (.bool false) [some (.cells [.ptr 1 0,.bool sh,.ptr 5 0,.raw (Value.pointer none),.bool dn]),some (.cells [.int .i64 t,.int .i64 n,.int .i64 me,.int .i64 sp,.slice 4 0 R.length 1]),some (.cells [.int .i64 s.1,.int .i64 s.2,.slice 3 0 s.3.length 1,.int .i64 (s.4+1),.int .i64 1,.int .i64 (n+4+bif bN n (aN t n me)then aN t n me else 1),.int .u64 (aD s.3 (n+4+bif bN n (aN t n me)then aN t n me else 1)),.int .u64 (aD s.3 (n+4+bif bN n (aN t n me)then aN t n me else 1)),.bool (bL s.3 (n+4+bif bN n (aN t n me)then aN t n me else 1))]),some (.ints (some .u64) s.3),some (.ints (some .i64) R),some (.cells [.int .i64 t,.int .i64 n,.int .i64 0,.int .i64 (bif bN n (aN t n me)then aN t n me else 1),.int .i64 n,.int .u64 (aD s.3 (n+4+bif bN n (aN t n me)then aN t n me else 1)),.bool true])]):cT' 154 [.ptr 0 0,.ptr 2 0] [some (.cells [.ptr 1 0,.bool sh,.raw (.pointer none),.raw (.pointer none),.bool dn]),some (.cells [.int .i64 t,.int .i64 n,.int .i64 me,.int .i64 sp,.slice 4 0 R.length 1]),aZ 3 s,a8 s,some (.ints (some .i64) R)] K:=by
 refine aHa (cM' (E:=E42) (by kernel_rfl) hK)
theorem aFP(t n me sp:Int)(R:List Int)(sh dn:Bool)(x:AL)(y:SWS)(s:MS)(K:AVal→aC Ob→Prop)(hK:(lE' s.3∧((1:Int)≤t∧t≤(1000:Int))∧((1:Int)≤n∧n≤(1000:Int))∧((1:Int)≤x.2∧x.2≤n)∧((0:Int)≤x.3∧x.3≤(1000:Int))∧(0:Int)≤s.4∧s.4≤(1000000:Int))∧bif x.5 then bif aT s.3 (n+4+x.2) x.4 then bif !ieq x.2 0 then K (.bool true) [some (.cells [.ptr 1 0,.bool sh,.ptr 5 0,.raw (Value.pointer none),.bool dn]),some (.cells [.int .i64 t,.int .i64 n,.int .i64 me,.int .i64 x.2,.slice 4 0 R.length 1]),some (.cells [.int .i64 s.1,.int .i64 s.2,.slice 3 0 (List.length (bif aT s.3 (n+4+x.2) x.4 then aS s.3 (n+4+x.2) (WU (x.4+1))else s.3)) 1,.int .i64 (s.4+1),.int .i64 3,.int .i64 (n+4+x.2),.int .u64 (aD s.3 (n+4+x.2)),.int .u64 (bif bL s.3 (n+4+x.2)then WU (x.4+1)else 0),.bool (aT s.3 (n+4+x.2) x.4)]),some (.ints (some .u64) (bif aT s.3 (n+4+x.2) x.4 then aS s.3 (n+4+x.2) (WU (x.4+1))else s.3)),some (.ints (some .i64) R),some (.cells [.int .i64 t,.int .i64 n,.int .i64 x.2,.int .i64 x.2,.int .i64 x.3,.int .u64 x.4,.bool true])]else bif dn then K (.bool true) [some (.cells [.ptr 1 0,.bool true,.ptr 5 0,.ptr 6 0,.bool dn]),some (.cells [.int .i64 t,.int .i64 n,.int .i64 me,.int .i64 x.2,.slice 4 0 R.length 1]),some (.cells [.int .i64 s.1,.int .i64 s.2,.slice 3 0 (List.length (bif aT s.3 (n+4+x.2) x.4 then aS s.3 (n+4+x.2) (WU (x.4+1))else s.3)) 1,.int .i64 (s.4+1),.int .i64 3,.int .i64 (n+4+x.2),.int .u64 (aD s.3 (n+4+x.2)),.int .u64 (bif bL s.3 (n+4+x.2)then WU (x.4+1)else 0),.bool (aT s.3 (n+4+x.2) x.4)]),some (.ints (some .u64) (bif aT s.3 (n+4+x.2) x.4 then aS s.3 (n+4+x.2) (WU (x.4+1))else s.3)),some (.ints (some .i64) R),some (.cells [.int .i64 t,.int .i64 n,.int .i64 x.2,.int .i64 x.2,.int .i64 x.3,.int .u64 x.4,.bool true]),some (.cells [.ptr 1 0,.raw (Value.pointer none)])]else K (.bool (ieq (↑R.length:Int) 0)) [some (.cells [.ptr 1 0,.bool (ieq (↑R.length:Int) 0),.ptr 5 0,.ptr 6 0,.bool dn]),some (.cells [.int .i64 t,.int .i64 n,.int .i64 me,.int .i64 x.2,.slice 4 0 R.length 1]),some (.cells [.int .i64 s.1,.int .i64 s.2,.slice 3 0 (List.length (bif aT s.3 (n+4+x.2) x.4 then aS s.3 (n+4+x.2) (WU (x.4+1))else s.3)) 1,.int .i64 (s.4+1),.int .i64 3,.int .i64 (n+4+x.2),.int .u64 (aD s.3 (n+4+x.2)),.int .u64 (bif bL s.3 (n+4+x.2)then WU (x.4+1)else 0),.bool (aT s.3 (n+4+x.2) x.4)]),some (.ints (some .u64) (bif aT s.3 (n+4+x.2) x.4 then aS s.3 (n+4+x.2) (WU (x.4+1))else s.3)),some (.ints (some .i64) R),some (.cells [.int .i64 t,.int .i64 n,.int .i64 x.2,.int .i64 x.2,.int .i64 x.3,.int .u64 x.4,.bool true]),some (.cells [.ptr 1 0,.raw (Value.pointer none)])]else bif !ile (x.3 - 1) 0 then K (.bool false) [some (.cells [.ptr 1 0,.bool sh,.ptr 5 0,.raw (Value.pointer none),.bool dn]),some (.cells [.int .i64 t,.int .i64 n,.int .i64 me,.int .i64 sp,.slice 4 0 R.length 1]),some (.cells [.int .i64 s.1,.int .i64 s.2,.slice 3 0 (List.length (bif aT s.3 (n+4+x.2) x.4 then aS s.3 (n+4+x.2) (WU (x.4+1))else s.3)) 1,.int .i64 (s.4+1),.int .i64 3,.int .i64 (n+4+x.2),.int .u64 (aD s.3 (n+4+x.2)),.int .u64 (bif bL s.3 (n+4+x.2)then WU (x.4+1)else 0),.bool (aT s.3 (n+4+x.2) x.4)]),some (.ints (some .u64) (bif aT s.3 (n+4+x.2) x.4 then aS s.3 (n+4+x.2) (WU (x.4+1))else s.3)),some (.ints (some .i64) R),some (.cells [.int .i64 t,.int .i64 n,.int .i64 x.1,.int .i64 (cQ n x.2),.int .i64 (x.3 - 1),.int .u64 x.4,.bool false])]else bif !ieq x.1 0 then K (.bool true) [some (.cells [.ptr 1 0,.bool sh,.ptr 5 0,.raw (Value.pointer none),.bool dn]),some (.cells [.int .i64 t,.int .i64 n,.int .i64 me,.int .i64 x.1,.slice 4 0 R.length 1]),some (.cells [.int .i64 s.1,.int .i64 s.2,.slice 3 0 (List.length (bif aT s.3 (n+4+x.2) x.4 then aS s.3 (n+4+x.2) (WU (x.4+1))else s.3)) 1,.int .i64 (s.4+1),.int .i64 3,.int .i64 (n+4+x.2),.int .u64 (aD s.3 (n+4+x.2)),.int .u64 (bif bL s.3 (n+4+x.2)then WU (x.4+1)else 0),.bool (aT s.3 (n+4+x.2) x.4)]),some (.ints (some .u64) (bif aT s.3 (n+4+x.2) x.4 then aS s.3 (n+4+x.2) (WU (x.4+1))else s.3)),some (.ints (some .i64) R),some (.cells [.int .i64 t,.int .i64 n,.int .i64 x.1,.int .i64 (cQ n x.2),.int .i64 (x.3 - 1),.int .u64 x.4,.bool false])]else bif dn then K (.bool true) [some (.cells [.ptr 1 0,.bool true,.ptr 5 0,.ptr 6 0,.bool dn]),some (.cells [.int .i64 t,.int .i64 n,.int .i64 me,.int .i64 x.1,.slice 4 0 R.length 1]),some (.cells [.int .i64 s.1,.int .i64 s.2,.slice 3 0 (List.length (bif aT s.3 (n+4+x.2) x.4 then aS s.3 (n+4+x.2) (WU (x.4+1))else s.3)) 1,.int .i64 (s.4+1),.int .i64 3,.int .i64 (n+4+x.2),.int .u64 (aD s.3 (n+4+x.2)),.int .u64 (bif bL s.3 (n+4+x.2)then WU (x.4+1)else 0),.bool (aT s.3 (n+4+x.2) x.4)]),some (.ints (some .u64) (bif aT s.3 (n+4+x.2) x.4 then aS s.3 (n+4+x.2) (WU (x.4+1))else s.3)),some (.ints (some .i64) R),some (.cells [.int .i64 t,.int .i64 n,.int .i64 x.1,.int .i64 (cQ n x.2),.int .i64 (x.3 - 1),.int .u64 x.4,.bool false]),some (.cells [.ptr 1 0,.raw (Value.pointer none)])]else K (.bool (ieq (↑R.length:Int) 0)) [some (.cells [.ptr 1 0,.bool (ieq (↑R.length:Int) 0),.ptr 5 0,.ptr 6 0,.bool dn]),some (.cells [.int .i64 t,.int .i64 n,.int .i64 me,.int .i64 x.1,.slice 4 0 R.length 1]),some (.cells [.int .i64 s.1,.int .i64 s.2,.slice 3 0 (List.length (bif aT s.3 (n+4+x.2) x.4 then aS s.3 (n+4+x.2) (WU (x.4+1))else s.3)) 1,.int .i64 (s.4+1),.int .i64 3,.int .i64 (n+4+x.2),.int .u64 (aD s.3 (n+4+x.2)),.int .u64 (bif bL s.3 (n+4+x.2)then WU (x.4+1)else 0),.bool (aT s.3 (n+4+x.2) x.4)]),some (.ints (some .u64) (bif aT s.3 (n+4+x.2) x.4 then aS s.3 (n+4+x.2) (WU (x.4+1))else s.3)),some (.ints (some .i64) R),some (.cells [.int .i64 t,.int .i64 n,.int .i64 x.1,.int .i64 (cQ n x.2),.int .i64 (x.3 - 1),.int .u64 x.4,.bool false]),some (.cells [.ptr 1 0,.raw (Value.pointer none)])]else bif oddB (aD s.3 (n+4+x.2))then bif !ile (x.3 - 1) 0 then K (.bool false) [some (.cells [.ptr 1 0,.bool sh,.ptr 5 0,.raw (Value.pointer none),.bool dn]),some (.cells [.int .i64 t,.int .i64 n,.int .i64 me,.int .i64 sp,.slice 4 0 R.length 1]),some (.cells [.int .i64 s.1,.int .i64 s.2,.slice 3 0 s.3.length 1,.int .i64 (s.4+1),.int .i64 1,.int .i64 (n+4+x.2),.int .u64 (aD s.3 (n+4+x.2)),.int .u64 (aD s.3 (n+4+x.2)),.bool (bL s.3 (n+4+x.2))]),some (.ints (some .u64) s.3),some (.ints (some .i64) R),some (.cells [.int .i64 t,.int .i64 n,.int .i64 x.1,.int .i64 (cQ n x.2),.int .i64 (x.3 - 1),.int .u64 (aD s.3 (n+4+x.2)),.bool false])]else bif !ieq x.1 0 then K (.bool true) [some (.cells [.ptr 1 0,.bool sh,.ptr 5 0,.raw (Value.pointer none),.bool dn]),some (.cells [.int .i64 t,.int .i64 n,.int .i64 me,.int .i64 x.1,.slice 4 0 R.length 1]),some (.cells [.int .i64 s.1,.int .i64 s.2,.slice 3 0 s.3.length 1,.int .i64 (s.4+1),.int .i64 1,.int .i64 (n+4+x.2),.int .u64 (aD s.3 (n+4+x.2)),.int .u64 (aD s.3 (n+4+x.2)),.bool (bL s.3 (n+4+x.2))]),some (.ints (some .u64) s.3),some (.ints (some .i64) R),some (.cells [.int .i64 t,.int .i64 n,.int .i64 x.1,.int .i64 (cQ n x.2),.int .i64 (x.3 - 1),.int .u64 (aD s.3 (n+4+x.2)),.bool false])]else bif dn then K (.bool true) [some (.cells [.ptr 1 0,.bool true,.ptr 5 0,.ptr 6 0,.bool dn]),some (.cells [.int .i64 t,.int .i64 n,.int .i64 me,.int .i64 x.1,.slice 4 0 R.length 1]),some (.cells [.int .i64 s.1,.int .i64 s.2,.slice 3 0 s.3.length 1,.int .i64 (s.4+1),.int .i64 1,.int .i64 (n+4+x.2),.int .u64 (aD s.3 (n+4+x.2)),.int .u64 (aD s.3 (n+4+x.2)),.bool (bL s.3 (n+4+x.2))]),some (.ints (some .u64) s.3),some (.ints (some .i64) R),some (.cells [.int .i64 t,.int .i64 n,.int .i64 x.1,.int .i64 (cQ n x.2),.int .i64 (x.3 - 1),.int .u64 (aD s.3 (n+4+x.2)),.bool false]),some (.cells [.ptr 1 0,.raw (Value.pointer none)])]else K (.bool (ieq (↑R.length:Int) 0)) [some (.cells [.ptr 1 0,.bool (ieq (↑R.length:Int) 0),.ptr 5 0,.ptr 6 0,.bool dn]),some (.cells [.int .i64 t,.int .i64 n,.int .i64 me,.int .i64 x.1,.slice 4 0 R.length 1]),some (.cells [.int .i64 s.1,.int .i64 s.2,.slice 3 0 s.3.length 1,.int .i64 (s.4+1),.int .i64 1,.int .i64 (n+4+x.2),.int .u64 (aD s.3 (n+4+x.2)),.int .u64 (aD s.3 (n+4+x.2)),.bool (bL s.3 (n+4+x.2))]),some (.ints (some .u64) s.3),some (.ints (some .i64) R),some (.cells [.int .i64 t,.int .i64 n,.int .i64 x.1,.int .i64 (cQ n x.2),.int .i64 (x.3 - 1),.int .u64 (aD s.3 (n+4+x.2)),.bool false]),some (.cells [.ptr 1 0,.raw (Value.pointer none)])]else K (.bool false) [some (.cells [.ptr 1 0,.bool sh,.ptr 5 0,.raw (Value.pointer none),.bool dn]),some (.cells [.int .i64 t,.int .i64 n,.int .i64 me,.int .i64 sp,.slice 4 0 R.length 1]),some (.cells [.int .i64 s.1,.int .i64 s.2,.slice 3 0 s.3.length 1,.int .i64 (s.4+1),.int .i64 1,.int .i64 (n+4+x.2),.int .u64 (aD s.3 (n+4+x.2)),.int .u64 (aD s.3 (n+4+x.2)),.bool (bL s.3 (n+4+x.2))]),some (.ints (some .u64) s.3),some (.ints (some .i64) R),some (.cells [.int .i64 t,.int .i64 n,.int .i64 x.1,.int .i64 x.2,.int .i64 x.3,.int .u64 (aD s.3 (n+4+x.2)),.bool true])]):cT' 154 [.ptr 0 0,.ptr 2 0] [some (.cells [.ptr 1 0,.bool sh,.ptr 5 0,.raw (.pointer none),.bool dn]),some (.cells [.int .i64 t,.int .i64 n,.int .i64 me,.int .i64 sp,.slice 4 0 R.length 1]),aZ 3 s,a8 s,some (.ints (some .i64) R),X7 t n x] K:=by
 refine aHa (cM' (E:=E42) (by kernel_rfl) hK)
theorem aFQ(t n me sp:Int)(R:List Int)(sh dn:Bool)(x:AL)(y:SWS)(s:MS)(K:AVal→aC Ob→Prop)(hK:((lE' s.3∧lE' R)∧((1:Int)≤t∧t≤(1000:Int))∧((1:Int)≤n∧n≤(1000:Int))∧((0:Int)≤s.4∧s.4≤(1000000:Int))∧R.length≤(1000000:Nat))∧K (.bool false) [some (.cells [.ptr 1 0,.bool sh,.ptr 5 0,.ptr 6 0,.bool dn]),some (.cells [.int .i64 t,.int .i64 n,.int .i64 me,.int .i64 sp,.slice 4 0 R.length 1]),some (.cells [.int .i64 s.1,.int .i64 s.2,.slice 3 0 s.3.length 1,.int .i64 (s.4+1),.int .i64 1,.int .i64 (bO n 0),.int .u64 (aD s.3 (bO n 0)),.int .u64 (aD s.3 (bO n 0)),.bool (bL s.3 (bO n 0))]),some (.ints (some .u64) s.3),some (.ints (some .i64) R),some (.cells [.int .i64 t,.int .i64 n,.int .i64 x.1,.int .i64 x.2,.int .i64 x.3,.int .u64 x.4,.bool x.5]),some (.cells [.ptr 1 0,.ptr 7 0]),some (.cells [.int .i64 t,.int .i64 n,.raw (Value.slice none 0 0),.raw (Value.slice none 0 0),.slice 8 0 R.length 1,.map 9,.int .i64 1,.raw (Value.pointer none)]),some (.ints (some .i64) R),some (.imap .i64 none (aV [] n 0 s))]):cT' 154 [.ptr 0 0,.ptr 2 0] [some (.cells [.ptr 1 0,.bool sh,.ptr 5 0,.ptr 6 0,.bool dn]),some (.cells [.int .i64 t,.int .i64 n,.int .i64 me,.int .i64 sp,.slice 4 0 R.length 1]),aZ 3 s,a8 s,some (.ints (some .i64) R),X7 t n x,some (.cells [.ptr 1 0,.raw (.pointer none)])] K:=by
 refine aHa (cM' (E:=E42) (by kernel_rfl) hK)
theorem aFR(t n me sp:Int)(R:List Int)(sh dn:Bool)(x:AL)(y:SWS)(s:MS)(K:AVal→aC Ob→Prop)(hK:((lE' s.3∧lE' R∧lE' y.2∧t=t∧n=n)∧((1:Int)≤t∧t≤(1000:Int))∧((1:Int)≤n∧n≤(1000:Int))∧((0:Int)≤s.4∧s.4≤(1000000:Int))∧y.2.length≤(1000000:Nat)∧(0:Int)≤y.4∧y.4<(2:Int)*t)∧bif ieq (y.4+1) (2*t)then bif ieq (↑(List.length (aU (aV y.3 n y.4 s) y.2)):Int) 0 then K (.bool (ieq (↑(List.length (aU (aV y.3 n y.4 s) y.2)):Int) 0)) [some (.cells [.ptr 1 0,.bool (ieq (↑(List.length (aU (aV y.3 n y.4 s) y.2)):Int) 0),.raw (Value.pointer none),.raw (Value.pointer none),.bool true]),some (.cells [.int .i64 t,.int .i64 n,.int .i64 me,.int .i64 sp,.slice 10 0 (List.length (cC (aV y.3 n y.4 s) y.2)) 1]),some (.cells [.int .i64 s.1,.int .i64 s.2,.slice 3 0 s.3.length 1,.int .i64 (s.4+1),.int .i64 1,.int .i64 (bO n y.4),.int .u64 (aD s.3 (bO n y.4)),.int .u64 (aD s.3 (bO n y.4)),.bool (bL s.3 (bO n y.4))]),some (.ints (some .u64) s.3),some (.ints (some .i64) R),some (.cells [.int .i64 t,.int .i64 n,.int .i64 x.1,.int .i64 x.2,.int .i64 x.3,.int .u64 x.4,.bool x.5]),some (.cells [.ptr 1 0,.ptr 7 0]),some (.cells [.int .i64 t,.int .i64 n,.slice 10 0 (List.length (cC (aV y.3 n y.4 s) y.2)) 1,.slice 11 0 (List.length (aU (aV y.3 n y.4 s) y.2)) 1,.slice 8 0 y.2.length 1,.map 9,.int .i64 (y.4+1),.ptr 12 0]),some (.ints (some .i64) y.2),some (.imap .i64 none (aV y.3 n y.4 s)),some (.ints (some .i64) (cC (aV y.3 n y.4 s) y.2)),some (.ints (some .i64) (aU (aV y.3 n y.4 s) y.2)),some (.cells [.int .i64 t,.int .i64 n,.slice 13 0 (List.length (aU (aV y.3 n y.4 s) y.2)) 1]),some (.ints (some .i64) (aU (aV y.3 n y.4 s) y.2))]else K (.bool false) [some (.cells [.ptr 1 0,.bool sh,.ptr 5 0,.ptr 6 0,.bool dn]),some (.cells [.int .i64 t,.int .i64 n,.int .i64 me,.int .i64 sp,.slice 4 0 R.length 1]),some (.cells [.int .i64 s.1,.int .i64 s.2,.slice 3 0 s.3.length 1,.int .i64 (s.4+1),.int .i64 1,.int .i64 (bO n y.4),.int .u64 (aD s.3 (bO n y.4)),.int .u64 (aD s.3 (bO n y.4)),.bool (bL s.3 (bO n y.4))]),some (.ints (some .u64) s.3),some (.ints (some .i64) R),some (.cells [.int .i64 t,.int .i64 n,.int .i64 x.1,.int .i64 x.2,.int .i64 x.3,.int .u64 x.4,.bool x.5]),some (.cells [.ptr 1 0,.ptr 7 0]),some (.cells [.int .i64 t,.int .i64 n,.slice 10 0 (List.length (cC (aV y.3 n y.4 s) y.2)) 1,.slice 11 0 (List.length (aU (aV y.3 n y.4 s) y.2)) 1,.slice 8 0 y.2.length 1,.map 9,.int .i64 (y.4+1),.ptr 12 0]),some (.ints (some .i64) y.2),some (.imap .i64 none (aV y.3 n y.4 s)),some (.ints (some .i64) (cC (aV y.3 n y.4 s) y.2)),some (.ints (some .i64) (aU (aV y.3 n y.4 s) y.2)),some (.cells [.int .i64 t,.int .i64 n,.slice 13 0 (List.length (aU (aV y.3 n y.4 s) y.2)) 1]),some (.ints (some .i64) (aU (aV y.3 n y.4 s) y.2))]else K (.bool false) [some (.cells [.ptr 1 0,.bool sh,.ptr 5 0,.ptr 6 0,.bool dn]),some (.cells [.int .i64 t,.int .i64 n,.int .i64 me,.int .i64 sp,.slice 4 0 R.length 1]),some (.cells [.int .i64 s.1,.int .i64 s.2,.slice 3 0 s.3.length 1,.int .i64 (s.4+1),.int .i64 1,.int .i64 (bO n y.4),.int .u64 (aD s.3 (bO n y.4)),.int .u64 (aD s.3 (bO n y.4)),.bool (bL s.3 (bO n y.4))]),some (.ints (some .u64) s.3),some (.ints (some .i64) R),some (.cells [.int .i64 t,.int .i64 n,.int .i64 x.1,.int .i64 x.2,.int .i64 x.3,.int .u64 x.4,.bool x.5]),some (.cells [.ptr 1 0,.ptr 7 0]),some (.cells [.int .i64 t,.int .i64 n,.raw (Value.slice none 0 0),.raw (Value.slice none 0 0),.slice 8 0 y.2.length 1,.map 9,.int .i64 (y.4+1),.raw (Value.pointer none)]),some (.ints (some .i64) y.2),some (.imap .i64 none (aV y.3 n y.4 s))]):cT' 154 [.ptr 0 0,.ptr 2 0] [some (.cells [.ptr 1 0,.bool sh,.ptr 5 0,.ptr 6 0,.bool dn]),some (.cells [.int .i64 t,.int .i64 n,.int .i64 me,.int .i64 sp,.slice 4 0 R.length 1]),aZ 3 s,a8 s,some (.ints (some .i64) R),X7 t n x,some (.cells [.ptr 1 0,.ptr 7 0]),some (.cells [.int .i64 t,.int .i64 n,.raw (.slice none 0 0),.raw (.slice none 0 0),.slice 8 0 y.N.length 1,.map 9,.int .i64 y.i,.raw (.pointer none)]),some (.ints (some .i64) y.N),some (.imap .i64 none y.m)] K:=by
 refine aHa (cM' (E:=E42) (by kernel_rfl) hK)
theorem aFS(t n me sp:Int)(R:List Int)(sh dn:Bool)(x:AL)(y:SWS)(s:MS)(K:AVal→aC Ob→Prop)(hK:((lE' s.3∧lE' R∧lE' y.5∧lE' y.6∧lE' y.2∧t=t∧n=n∧t=t∧n=n)∧((1:Int)≤t∧t≤(1000:Int))∧((1:Int)≤n∧n≤(1000:Int))∧((0:Int)≤s.4∧s.4≤(1000000:Int))∧2*t≤y.4∧((1:Nat)≤y.9∧y.7.length=y.8+y.9)∧(-1000000:Int)≤List.getD y.7 (y.8+Int.toNat 0*1) 0∧List.getD y.7 (y.8+Int.toNat 0*1) (0:Int)≤(1000000:Int))∧bif ieq (↑(y.9 - 1):Int) 0 then K (.bool (ieq (↑y.6.length:Int) 0)) [some (.cells [.ptr 1 0,.bool (ieq (↑y.6.length:Int) 0),.raw (Value.pointer none),.raw (Value.pointer none),.bool true]),some (.cells [.int .i64 t,.int .i64 n,.int .i64 me,.int .i64 sp,.slice 8 0 y.5.length 1]),some (.cells [.int .i64 s.1,.int .i64 s.2,.slice 3 0 (List.length (aS s.3 (bR n y.7 y.8) (WU (aD s.3 (bR n y.7 y.8)+1)))) 1,.int .i64 (s.4+1),.int .i64 4,.int .i64 (bR n y.7 y.8),.int .u64 (aD s.3 (bR n y.7 y.8)),.int .u64 (bif bL s.3 (bR n y.7 y.8)then WU (aD s.3 (bR n y.7 y.8)+1)else 0),.bool (bL s.3 (bR n y.7 y.8))]),some (.ints (some .u64) (aS s.3 (bR n y.7 y.8) (WU (aD s.3 (bR n y.7 y.8)+1)))),some (.ints (some .i64) R),some (.cells [.int .i64 t,.int .i64 n,.int .i64 x.1,.int .i64 x.2,.int .i64 x.3,.int .u64 x.4,.bool x.5]),some (.cells [.ptr 1 0,.ptr 7 0]),some (.cells [.int .i64 t,.int .i64 n,.slice 8 0 y.5.length 1,.slice 9 0 y.6.length 1,.slice 10 0 y.2.length 1,.map 11,.int .i64 y.4,.ptr 12 0]),some (.ints (some .i64) y.5),some (.ints (some .i64) y.6),some (.ints (some .i64) y.2),some (.imap .i64 none y.3),some (.cells [.int .i64 t,.int .i64 n,.slice 13 (y.8+1) (y.9 - 1) 1]),some (.ints (some .i64) y.7)]else K (.bool false) [some (.cells [.ptr 1 0,.bool sh,.ptr 5 0,.ptr 6 0,.bool dn]),some (.cells [.int .i64 t,.int .i64 n,.int .i64 me,.int .i64 sp,.slice 4 0 R.length 1]),some (.cells [.int .i64 s.1,.int .i64 s.2,.slice 3 0 (List.length (aS s.3 (bR n y.7 y.8) (WU (aD s.3 (bR n y.7 y.8)+1)))) 1,.int .i64 (s.4+1),.int .i64 4,.int .i64 (bR n y.7 y.8),.int .u64 (aD s.3 (bR n y.7 y.8)),.int .u64 (bif bL s.3 (bR n y.7 y.8)then WU (aD s.3 (bR n y.7 y.8)+1)else 0),.bool (bL s.3 (bR n y.7 y.8))]),some (.ints (some .u64) (aS s.3 (bR n y.7 y.8) (WU (aD s.3 (bR n y.7 y.8)+1)))),some (.ints (some .i64) R),some (.cells [.int .i64 t,.int .i64 n,.int .i64 x.1,.int .i64 x.2,.int .i64 x.3,.int .u64 x.4,.bool x.5]),some (.cells [.ptr 1 0,.ptr 7 0]),some (.cells [.int .i64 t,.int .i64 n,.slice 8 0 y.5.length 1,.slice 9 0 y.6.length 1,.slice 10 0 y.2.length 1,.map 11,.int .i64 y.4,.ptr 12 0]),some (.ints (some .i64) y.5),some (.ints (some .i64) y.6),some (.ints (some .i64) y.2),some (.imap .i64 none y.3),some (.cells [.int .i64 t,.int .i64 n,.slice 13 (y.8+1) (y.9 - 1) 1]),some (.ints (some .i64) y.7)]):cT' 154 [.ptr 0 0,.ptr 2 0] [some (.cells [.ptr 1 0,.bool sh,.ptr 5 0,.ptr 6 0,.bool dn]),some (.cells [.int .i64 t,.int .i64 n,.int .i64 me,.int .i64 sp,.slice 4 0 R.length 1]),aZ 3 s,a8 s,some (.ints (some .i64) R),X7 t n x,some (.cells [.ptr 1 0,.ptr 7 0]),some (.cells [.int .i64 t,.int .i64 n,.slice 8 0 y.ks.length 1,.slice 9 0 y.fs.length 1,.slice 10 0 y.N.length 1,.map 11,.int .i64 y.i,.ptr 12 0]),some (.ints (some .i64) y.ks),some (.ints (some .i64) y.fs),some (.ints (some .i64) y.N),some (.imap .i64 none y.m),some (.cells [.int .i64 t,.int .i64 n,.slice 13 y.j y.l 1]),some (.ints (some .i64) y.gs)] K:=by
 refine aHa (cM' (E:=E42) (by kernel_rfl) hK)
theorem en2(t n:Int)(e:ENS)(st:STS)(s:MS)(K:AVal→aC Ob→Prop)(hp:e.ph=2)(ok:KO t n e st s)(hK:(enF t n e st s).left t n K):cT' 154 [.ptr 0 0,.ptr 2 0] (T0 t n e st s) K:=by
 obtain⟨ht,hn,hc,hm,hR,ho⟩:=ok;obtain⟨ph,sh,dn,x,y⟩:=e;dsimp only at hp;subst hp;obtain⟨me,sp,R⟩:=st;dsimp only at hm hR;refine aB.pack tbl (aB.pack tbl ?_);refine aB.unpack tbl (.store t n ⟨me,sp,R⟩) 1 0 (dN t n ⟨me,sp,R⟩) [] rfl rfl rfl rfl ?_;refine aB.unpack tbl (.ensure t n ⟨2,sh,dn,x,y⟩) 0 1 (C1 t n ⟨2,sh,dn,x,y⟩) [1] rfl rfl rfl rfl ?_;refine aFQ t n me sp R sh dn x y s _ ?_;exact⟨⟨⟨rfl,rfl⟩,ht,hn,hc,hR⟩,f8 (o:=enF t n ⟨2,sh,dn,x,y⟩ ⟨me,sp,R⟩ s) [0,1,2,3,4,5,6,7,8,9] hK rfl rfl⟩
theorem en3(t n:Int)(e:ENS)(st:STS)(s:MS)(K:AVal→aC Ob→Prop)(hp:e.ph=3)(ok:KO t n e st s)(hK:(enF t n e st s).left t n K):cT' 154 [.ptr 0 0,.ptr 2 0] (T0 t n e st s) K:=by
 obtain⟨ht,hn,hc,hm,hR,ho⟩:=ok;obtain⟨ph,sh,dn,x,y⟩:=e;dsimp only at hp;subst hp;obtain⟨me,sp,R⟩:=st;dsimp only at hm hR;refine aB.pack tbl (aB.pack tbl ?_);refine aB.unpack tbl (.store t n ⟨me,sp,R⟩) 1 0 (dN t n ⟨me,sp,R⟩) [] rfl rfl rfl rfl ?_;refine aB.unpack tbl (.ensure t n ⟨3,sh,dn,x,y⟩) 0 1 (C1 t n ⟨3,sh,dn,x,y⟩) [1] rfl rfl rfl rfl ?_;refine aFR t n me sp R sh dn x y s _ ?_;have ho:y.N.length≤1000000∧0≤y.i∧y.i<2*t:=ho;refine⟨⟨⟨rfl,rfl,rfl,rfl,rfl⟩,ht,hn,hc,ho.1,ho.2⟩,?_⟩;unfold enF at hK;dsimp only at hK;cases h1:ieq (y.i+1) (2*t)with
 | false=>
   rw [h1]at hK;exact f8 (o:=⟨false,⟨3,sh,dn,x,{y with m:=aV y.m n y.i s,i:=y.i+1}⟩,⟨me,sp,R⟩,s.loadd (bO n y.i)⟩) [0,1,2,3,4,5,6,7,8,9] hK rfl rfl
 | true=>
   rw [h1]at hK;cases h2:ieq ((aU (aV y.m n y.i s) y.N).length :Int) 0 with
   | true=>
     rw [h2]at hK;exact f8 (o:=⟨true,⟨0,true,true,x,y⟩,⟨me,sp,cC (aV y.m n y.i s) y.N⟩,s.loadd (bO n y.i)⟩) [0,1,2,3,10] hK rfl rfl
   | false=>
     rw [h2]at hK;exact f8 (o:=⟨false,⟨4,sh,dn,x,⟨0,y.N,aV y.m n y.i s,y.i+1,cC (aV y.m n y.i s) y.N,aU (aV y.m n y.i s) y.N,aU (aV y.m n y.i s) y.N,0,(aU (aV y.m n y.i s) y.N).length⟩⟩,⟨me,sp,R⟩,s.loadd (bO n y.i)⟩) [0,1,2,3,4,5,6,7,10,11,8,9,12,13] hK rfl rfl
theorem en4(t n:Int)(e:ENS)(st:STS)(s:MS)(K:AVal→aC Ob→Prop)(hp:e.ph=4)(ok:KO t n e st s)(hK:(enF t n e st s).left t n K):cT' 154 [.ptr 0 0,.ptr 2 0] (T0 t n e st s) K:=by
 obtain⟨ht,hn,hc,hm,hR,ho⟩:=ok;obtain⟨ph,sh,dn,x,y⟩:=e;dsimp only at hp;subst hp;obtain⟨me,sp,R⟩:=st;dsimp only at hm hR;refine aB.pack tbl (aB.pack tbl ?_);refine aB.unpack tbl (.store t n ⟨me,sp,R⟩) 1 0 (dN t n ⟨me,sp,R⟩) [] rfl rfl rfl rfl ?_;refine aB.unpack tbl (.ensure t n ⟨4,sh,dn,x,y⟩) 0 1 (C1 t n ⟨4,sh,dn,x,y⟩) [1] rfl rfl rfl rfl ?_;refine aFS t n me sp R sh dn x y s _ ?_;have ho:2*t≤y.i∧1≤y.l∧y.gs.length=y.j+y.l∧ -1000000≤List.getD y.gs (y.j+Int.toNat 0*1) 0∧List.getD y.gs (y.j+Int.toNat 0*1) 0≤1000000:=ho;refine⟨⟨⟨rfl,rfl,rfl,rfl,rfl,rfl,rfl,rfl,rfl⟩,ht,hn,hc,ho.1,⟨ho.2.1,ho.2.2.1⟩,ho.2.2.2⟩,?_⟩;unfold enF at hK;dsimp only at hK;cases h1:ieq ((y.l - 1:Nat):Int) 0 with
 | false=>
   rw [h1]at hK;exact f8 (o:=⟨false,⟨4,sh,dn,x,{y with j:=y.j+1,l:=y.l - 1}⟩,⟨me,sp,R⟩,s.added (bR n y.gs y.j) 1⟩) [0,1,2,3,4,5,6,7,8,9,10,11,12,13] hK rfl rfl
 | true=>
   rw [h1]at hK;exact f8 (o:=⟨ieq (y.fs.length:Int) 0,⟨0,ieq (y.fs.length:Int) 0,true,x,y⟩,⟨me,sp,y.ks⟩,s.added (bR n y.gs y.j) 1⟩) [0,1,2,3,8] hK rfl rfl
theorem en1(t n:Int)(e:ENS)(st:STS)(s:MS)(K:AVal→aC Ob→Prop)(hp:e.ph=1)(ok:KO t n e st s)(hK:(enF t n e st s).left t n K):cT' 154 [.ptr 0 0,.ptr 2 0] (T0 t n e st s) K:=by
 obtain⟨ht,hn,hc,hm,hR,ho⟩:=ok;obtain⟨ph,sh,dn,x,y⟩:=e;dsimp only at hp;subst hp;obtain⟨me,sp,R⟩:=st;dsimp only at hm hR;refine aB.pack tbl (aB.pack tbl ?_);refine aB.unpack tbl (.store t n ⟨me,sp,R⟩) 1 0 (dN t n ⟨me,sp,R⟩) [] rfl rfl rfl rfl ?_;refine aB.unpack tbl (.ensure t n ⟨1,sh,dn,x,y⟩) 0 1 (C1 t n ⟨1,sh,dn,x,y⟩) [1] rfl rfl rfl rfl ?_;refine aFP t n me sp R sh dn x y s _ ?_;have ho:okAl n x:=ho;obtain⟨hg,ha,hl⟩:=ho;refine⟨⟨rfl,ht,hn,ha,hl,hc⟩,?_⟩;obtain⟨got,at',left,found,free⟩:=x;dsimp only at hg ha hl⊢;subst hg;have i0:ieq at' 0=false:=by rw [cV];simp;omega
 have i00:ieq 0 0=true:=rfl;rw [i0,i00];unfold enF qX JC at hK;dsimp only at hK;cases free with
 | false=>
   dsimp only [cond]at hK⊢;cases ho:oddB (aD s.xs (n+4+at'))with
   | false=>
     rw [ho]at hK;exact f8 (o:=⟨false,⟨1,sh,dn,⟨0,at',left,aD s.xs (n+4+at'),true⟩,y⟩,⟨me,sp,R⟩,s.loadd (n+4+at')⟩) [0,1,2,3,4,5] hK rfl rfl
   | true=>
     rw [ho]at hK;dsimp only [cond]at hK⊢;cases hw:ile (left - 1) 0 with
     | false=>
       rw [hw]at hK;exact f8 (o:=⟨false,⟨1,sh,dn,⟨0,cQ n at',left - 1,aD s.xs (n+4+at'),false⟩,y⟩,⟨me,sp,R⟩,s.loadd (n+4+at')⟩) [0,1,2,3,4,5] hK rfl rfl
     | true=>
       rw [hw]at hK;cases dn with
       | true=>exact f8 (o:=⟨true,⟨2,true,true,⟨0,cQ n at',left - 1,aD s.xs (n+4+at'),false⟩,y⟩,⟨me,0,R⟩,s.loadd (n+4+at')⟩) [0,1,2,3,4,5,6] hK rfl rfl
       | false=>exact f8 (o:=⟨ieq (R.length:Int) 0,⟨2,ieq (R.length:Int) 0,false,⟨0,cQ n at',left - 1,aD s.xs (n+4+at'),false⟩,y⟩,⟨me,0,R⟩,s.loadd (n+4+at')⟩) [0,1,2,3,4,5,6] hK rfl rfl
 | true=>
   dsimp only [cond]at hK⊢;unfold MS.cased at hK;cases hb:aT s.xs (n+4+at') found with
   | true=>
     rw [hb]at hK;exact f8 (o:=⟨true,⟨1,sh,dn,⟨at',at',left,found,true⟩,y⟩,⟨me,at',R⟩,_⟩) [0,1,2,3,4,5] hK rfl rfl
   | false=>
     rw [hb]at hK;dsimp only [cond]at hK⊢;cases hw:ile (left - 1) 0 with
     | false=>
       rw [hw]at hK;exact f8 (o:=⟨false,⟨1,sh,dn,⟨0,cQ n at',left - 1,found,false⟩,y⟩,⟨me,sp,R⟩,_⟩) [0,1,2,3,4,5] hK rfl rfl
     | true=>
       rw [hw]at hK;cases dn with
       | true=>exact f8 (o:=⟨true,⟨2,true,true,⟨0,cQ n at',left - 1,found,false⟩,y⟩,⟨me,0,R⟩,_⟩) [0,1,2,3,4,5,6] hK rfl rfl
       | false=>exact f8 (o:=⟨ieq (R.length:Int) 0,⟨2,ieq (R.length:Int) 0,false,⟨0,cQ n at',left - 1,found,false⟩,y⟩,⟨me,0,R⟩,_⟩) [0,1,2,3,4,5,6] hK rfl rfl
theorem en0(t n:Int)(e:ENS)(st:STS)(s:MS)(K:AVal→aC Ob→Prop)(hp:e.ph=0)(ok:KO t n e st s)(hK:(enF t n e st s).left t n K):cT' 154 [.ptr 0 0,.ptr 2 0] (T0 t n e st s) K:=by
 obtain⟨ht,hn,hc,hm,hR,ho⟩:=ok;obtain⟨ph,sh,dn,x,y⟩:=e;dsimp only at hp;subst hp;obtain⟨me,sp,R⟩:=st;dsimp only at hm hR;refine aB.pack tbl (aB.pack tbl ?_);refine aB.unpack tbl (.store t n ⟨me,sp,R⟩) 1 0 (dN t n ⟨me,sp,R⟩) [] rfl rfl rfl rfl ?_;refine aB.unpack tbl (.ensure t n ⟨0,sh,dn,x,y⟩) 0 1 (C1 t n ⟨0,sh,dn,x,y⟩) [1] rfl rfl rfl rfl ?_;refine aFO t n me sp R sh dn x y s _ ?_;unfold enF qX JC at hK;dsimp only at hK;cases hz:ieq sp 0 with
 | false=>
   rw [hz]at hK;exact⟨⟨rfl,by omega⟩,f8 (o:=⟨true,⟨0,sh,dn,x,y⟩,⟨me,sp,R⟩,s.loadd 0⟩) [0,1,2,3,4] hK rfl rfl⟩
 | true=>
   rw [hz]at hK
   have ha:1≤at0 t n me∧at0 t n me≤n:=by
    unfold at0 bN;cases h1:(ile 1 (aN t n me))<;>cases h2:ile (aN t n me) n<;>simp only [Bool.and_true,Bool.and_false,Bool.and_self,cond_true,cond_false]<;>rw [cA]at h1 h2<;>simp at h1 h2<;>omega
   refine⟨⟨by omega,by omega⟩,⟨trivial,trivial⟩,⟨rfl,ht,hn,ha,by omega,hc⟩,?_⟩
   show cond (oddB (aD s.xs (n+4+at0 t n me))) _ _;cases ho:oddB (aD s.xs (n+4+at0 t n me))with
   | false=>
     rw [ho]at hK;exact f8 (o:=⟨false,⟨1,sh,dn,⟨0,at0 t n me,n,aD s.xs (n+4+at0 t n me),true⟩,y⟩,⟨me,sp,R⟩,s.loadd (n+4+at0 t n me)⟩) [0,1,2,3,4,5] hK rfl rfl
   | true=>
     rw [ho]at hK;dsimp only [cond]at hK⊢;cases hw:ile (n - 1) 0 with
     | false=>
       rw [hw]at hK;exact f8 (o:=⟨false,⟨1,sh,dn,⟨0,cQ n (at0 t n me),n - 1,aD s.xs (n+4+at0 t n me),false⟩,y⟩,⟨me,sp,R⟩,s.loadd (n+4+at0 t n me)⟩) [0,1,2,3,4,5] hK rfl rfl
     | true=>
       rw [hw]at hK;cases dn with
       | true=>exact f8 (o:=⟨true,⟨2,true,true,⟨0,cQ n (at0 t n me),n - 1,aD s.xs (n+4+at0 t n me),false⟩,y⟩,⟨me,0,R⟩,s.loadd (n+4+at0 t n me)⟩) [0,1,2,3,4,5,6] hK rfl rfl
       | false=>exact f8 (o:=⟨ieq (R.length:Int) 0,⟨2,ieq (R.length:Int) 0,false,⟨0,cQ n (at0 t n me),n - 1,aD s.xs (n+4+at0 t n me),false⟩,y⟩,⟨me,0,R⟩,s.loadd (n+4+at0 t n me)⟩) [0,1,2,3,4,5,6] hK rfl rfl
theorem GW(t n:Int)(e:ENS)(st:STS)(s:MS)(K:AVal→aC Ob→Prop)(ok:KO t n e st s)(hK:(enF t n e st s).left t n K):cT' 154 [.ptr 0 0,.ptr 2 0] (T0 t n e st s) K:=by
 match h:e.ph with
 | 0=>exact en0 t n e st s K h ok hK
 | 1=>exact en1 t n e st s K h ok hK
 | 2=>exact en2 t n e st s K h ok hK
 | 3=>exact en3 t n e st s K h ok hK
 | 4=>exact en4 t n e st s K h ok hK
 | k+5=>have:=ok.ho;unfold aE2 at this;rw [h]at this;exact this.elim
noncomputable def enS:aI Ob:=fun args h=>match args,h with
 | [.ptr 0 0,.ptr 2 0],[some (.abs (.ensure t n e) [1]),some (.abs (.store t' n' st) []),e1,e2]=>(match cH 3 [e1,e2]with
   | some (l,s)=>some (.pre ((l=s.xs.length∧t'=t∧n'=n)∧KO t n e st s) (.ret (.bool (enF t n e st s).d) (T0 t n (enF t n e st s).e (enF t n e st s).st (enF t n e st s).s)))
   | none=>none)
 | _,_=>none
theorem aD8:aI.ok E42.I Tryz.prog 154 enS:=by
 intro args h o ho K hK;unfold enS at ho;split at ho
 case h_2=>cases ho
 split at ho<;>cases ho
 rename_i hm;obtain⟨⟨⟨hl,ht',hn'⟩,ok⟩,hK⟩:=hK;have hh:=aY hm hl;cases hh;subst ht' hn';exact GW _ _ _ _ _ K ok hK
noncomputable def enE:=E42.addS 154 enS aD8
structure SO where
 d:Bool
 e:SWS
 st:STS
 s:MS
instance:Inhabited SO:=⟨⟨false,cU,⟨0,0,[]⟩,⟨0,0,[],0,0,0,0,0,false⟩⟩⟩
def swF(t n:Int)(y:SWS)(st:STS)(s:MS):SO:=match y.ph with
 | 0=>⟨false,{y with ph:=1,N:=st.R,m:=aV [] n 0 s,i:=1},st,s.loadd (bO n 0)⟩
 | 1=>(match ieq (y.i+1) (2*t),ieq ((aU (aV y.m n y.i s) y.N).length :Int) 0 with
   | true,true=>⟨true,{y with ph:=3},{st with R:=cC (aV y.m n y.i s) y.N},s.loadd (bO n y.i)⟩
   | true,false=>⟨false,⟨2,y.N,aV y.m n y.i s,y.i+1,cC (aV y.m n y.i s) y.N,aU (aV y.m n y.i s) y.N,aU (aV y.m n y.i s) y.N,0,(aU (aV y.m n y.i s) y.N).length⟩,st,s.loadd (bO n y.i)⟩
   | false,_=>⟨false,{y with m:=aV y.m n y.i s,i:=y.i+1},st,s.loadd (bO n y.i)⟩)
 | _=>(match ieq ((y.l - 1:Nat):Int) 0 with
   | true=>⟨true,{y with ph:=3},{st with R:=y.ks},s.added (bR n y.gs y.j) 1⟩
   | false=>⟨false,{y with j:=y.j+1,l:=y.l - 1},st,s.added (bR n y.gs y.j) 1⟩)
def Y2(t n:Int)(y:SWS):Prop:=match y.ph with
 | 0=>True
 | 1=>y.N.length≤1000000∧0≤y.i∧y.i<2*t
 | 2=>2*t≤y.i∧1≤y.l∧y.gs.length=y.j+y.l∧ -1000000≤List.getD y.gs (y.j+Int.toNat 0*1) 0∧List.getD y.gs (y.j+Int.toNat 0*1) 0≤1000000
 | _=>False
structure qA (t n:Int) (y:SWS) (st:STS) (s:MS):Prop where
 ht:1≤t∧t≤1000
 hn:1≤n∧n≤1000
 hc:0≤s.c∧s.c≤1000000
 hR:st.R.length≤1000000
 ho:Y2 t n y
def swH(t n:Int)(y:SWS)(st:STS)(s:MS):aC Ob:=[some (.abs (.sweep t n y) [1]),some (.abs (.store t n st) []),aZ 3 s,a8 s]
def SO.left(o:SO)(t n:Int)(K:AVal→aC Ob→Prop):Prop:=K (.bool o.d) (swH t n o.e o.st o.s)
theorem w8{K:AVal→aC Ob→Prop}{t n:Int}{o:SO}{g':aC Ob}(pl:List Nat)(hK:o.left t n K)
 (hb:(dO pl g'.length&&iC pl 0 4&&obOk 1 (LH t n o.e))=true)
 (hT:fQ pl g'=aP [some (.abs (.sweep t n o.e) [1]),some (.cells [.int .i64 t,.int .i64 n,.int .i64 o.st.me,.int .i64 o.st.sp,.slice 4 0 o.st.R.length 1]),aZ 3 o.s,a8 o.s,some (.ints (some .i64) o.st.R)] 0 1 (LH t n o.e) [1]):zE tbl 4 (zE tbl 4 K) (.bool o.d) g':=by
 simp only [Bool.and_eq_true]at hb;obtain⟨⟨b1,b2⟩,b3⟩:=hb;refine⟨pl,_,.sweep t n o.e,0,1,_,[1],?_,hT,rfl,rfl,⟨[0,1,2,3,4],[some (.abs (.sweep t n o.e) [1]),some (.abs (.store t n o.st) []),aZ 3 o.s,a8 o.s],.store t n o.st,1,0,dN t n o.st,[],rfl,rfl,rfl,rfl,?_⟩⟩
 ·rw [b1,b2,b3];rfl
 ·exact hK
def QU(t n me sp:Int)(R:List Int)(y:SWS)(s:MS)(K:AVal→aC Ob→Prop):Prop:=((lE' s.3∧lE' R)∧((1:Int)≤t∧t≤(1000:Int))∧((1:Int)≤n∧n≤(1000:Int))∧((0:Int)≤s.4∧s.4≤(1000000:Int))∧R.length≤(1000000:Nat))∧K (.bool false) [some (.cells [.ptr 1 0,.ptr 5 0]),some (.cells [.int .i64 t,.int .i64 n,.int .i64 me,.int .i64 sp,.slice 4 0 R.length 1]),some (.cells [.int .i64 s.1,.int .i64 s.2,.slice 3 0 s.3.length 1,.int .i64 (s.4+1),.int .i64 1,.int .i64 (bO n 0),.int .u64 (aD s.3 (bO n 0)),.int .u64 (aD s.3 (bO n 0)),.bool (bL s.3 (bO n 0))]),some (.ints (some .u64) s.3),some (.ints (some .i64) R),some (.cells [.int .i64 t,.int .i64 n,.raw (Value.slice none 0 0),.raw (Value.slice none 0 0),.slice 6 0 R.length 1,.map 7,.int .i64 1,.raw (Value.pointer none)]),some (.ints (some .i64) R),some (.imap .i64 none (aV [] n 0 s))]
theorem aF8(t n me sp:Int)(R:List Int)(y:SWS)(s:MS)(K:AVal→aC Ob→Prop)(hK:QU t n me sp R y s K):cT' 169 [.ptr 0 0,.ptr 2 0] [some (.cells [.ptr 1 0,.raw (.pointer none)]),some (.cells [.int .i64 t,.int .i64 n,.int .i64 me,.int .i64 sp,.slice 4 0 R.length 1]),aZ 3 s,a8 s,some (.ints (some .i64) R)] K:=
 (jA nW) _ _ _ (Ev.get (aJ (p:=mK swStepS [.ptr 0 0,.ptr 2 0] [some (.cells [.ptr 1 0,.raw (.pointer none)]),some (.cells [.int .i64 t,.int .i64 n,.int .i64 me,.int .i64 sp,.slice 4 0 R.length 1]),aZ 3 s,a8 s,some (.ints (some .i64) R)] K) (q:=QU t n me sp R y s K) (by kernel_rfl) hK))
def QV(t n me sp:Int)(R:List Int)(y:SWS)(s:MS)(K:AVal→aC Ob→Prop):Prop:=((lE' s.3∧lE' R∧lE' y.2∧t=t∧n=n)∧((1:Int)≤t∧t≤(1000:Int))∧((1:Int)≤n∧n≤(1000:Int))∧((0:Int)≤s.4∧s.4≤(1000000:Int))∧y.2.length≤(1000000:Nat)∧(0:Int)≤y.4∧y.4<(2:Int)*t)∧bif ieq (y.4+1) (2*t)then bif ieq (↑(List.length (aU (aV y.3 n y.4 s) y.2)):Int) 0 then K (.bool true) [some (.cells [.ptr 1 0,.ptr 5 0]),some (.cells [.int .i64 t,.int .i64 n,.int .i64 me,.int .i64 sp,.slice 8 0 (List.length (cC (aV y.3 n y.4 s) y.2)) 1]),some (.cells [.int .i64 s.1,.int .i64 s.2,.slice 3 0 s.3.length 1,.int .i64 (s.4+1),.int .i64 1,.int .i64 (bO n y.4),.int .u64 (aD s.3 (bO n y.4)),.int .u64 (aD s.3 (bO n y.4)),.bool (bL s.3 (bO n y.4))]),some (.ints (some .u64) s.3),some (.ints (some .i64) R),some (.cells [.int .i64 t,.int .i64 n,.slice 8 0 (List.length (cC (aV y.3 n y.4 s) y.2)) 1,.slice 9 0 (List.length (aU (aV y.3 n y.4 s) y.2)) 1,.slice 6 0 y.2.length 1,.map 7,.int .i64 (y.4+1),.ptr 10 0]),some (.ints (some .i64) y.2),some (.imap .i64 none (aV y.3 n y.4 s)),some (.ints (some .i64) (cC (aV y.3 n y.4 s) y.2)),some (.ints (some .i64) (aU (aV y.3 n y.4 s) y.2)),some (.cells [.int .i64 t,.int .i64 n,.slice 11 0 (List.length (aU (aV y.3 n y.4 s) y.2)) 1]),some (.ints (some .i64) (aU (aV y.3 n y.4 s) y.2))]else K (.bool false) [some (.cells [.ptr 1 0,.ptr 5 0]),some (.cells [.int .i64 t,.int .i64 n,.int .i64 me,.int .i64 sp,.slice 4 0 R.length 1]),some (.cells [.int .i64 s.1,.int .i64 s.2,.slice 3 0 s.3.length 1,.int .i64 (s.4+1),.int .i64 1,.int .i64 (bO n y.4),.int .u64 (aD s.3 (bO n y.4)),.int .u64 (aD s.3 (bO n y.4)),.bool (bL s.3 (bO n y.4))]),some (.ints (some .u64) s.3),some (.ints (some .i64) R),some (.cells [.int .i64 t,.int .i64 n,.slice 8 0 (List.length (cC (aV y.3 n y.4 s) y.2)) 1,.slice 9 0 (List.length (aU (aV y.3 n y.4 s) y.2)) 1,.slice 6 0 y.2.length 1,.map 7,.int .i64 (y.4+1),.ptr 10 0]),some (.ints (some .i64) y.2),some (.imap .i64 none (aV y.3 n y.4 s)),some (.ints (some .i64) (cC (aV y.3 n y.4 s) y.2)),some (.ints (some .i64) (aU (aV y.3 n y.4 s) y.2)),some (.cells [.int .i64 t,.int .i64 n,.slice 11 0 (List.length (aU (aV y.3 n y.4 s) y.2)) 1]),some (.ints (some .i64) (aU (aV y.3 n y.4 s) y.2))]else K (.bool false) [some (.cells [.ptr 1 0,.ptr 5 0]),some (.cells [.int .i64 t,.int .i64 n,.int .i64 me,.int .i64 sp,.slice 4 0 R.length 1]),some (.cells [.int .i64 s.1,.int .i64 s.2,.slice 3 0 s.3.length 1,.int .i64 (s.4+1),.int .i64 1,.int .i64 (bO n y.4),.int .u64 (aD s.3 (bO n y.4)),.int .u64 (aD s.3 (bO n y.4)),.bool (bL s.3 (bO n y.4))]),some (.ints (some .u64) s.3),some (.ints (some .i64) R),some (.cells [.int .i64 t,.int .i64 n,.raw (Value.slice none 0 0),.raw (Value.slice none 0 0),.slice 6 0 y.2.length 1,.map 7,.int .i64 (y.4+1),.raw (Value.pointer none)]),some (.ints (some .i64) y.2),some (.imap .i64 none (aV y.3 n y.4 s))]
theorem aF9(t n me sp:Int)(R:List Int)(y:SWS)(s:MS)(K:AVal→aC Ob→Prop)(hK:QV t n me sp R y s K):cT' 169 [.ptr 0 0,.ptr 2 0] [some (.cells [.ptr 1 0,.ptr 5 0]),some (.cells [.int .i64 t,.int .i64 n,.int .i64 me,.int .i64 sp,.slice 4 0 R.length 1]),aZ 3 s,a8 s,some (.ints (some .i64) R),some (.cells [.int .i64 t,.int .i64 n,.raw (.slice none 0 0),.raw (.slice none 0 0),.slice 6 0 y.N.length 1,.map 7,.int .i64 y.i,.raw (.pointer none)]),some (.ints (some .i64) y.N),some (.imap .i64 none y.m)] K:=
 (jA nW) _ _ _ (Ev.get (aJ (p:=mK swStepS [.ptr 0 0,.ptr 2 0] [some (.cells [.ptr 1 0,.ptr 5 0]),some (.cells [.int .i64 t,.int .i64 n,.int .i64 me,.int .i64 sp,.slice 4 0 R.length 1]),aZ 3 s,a8 s,some (.ints (some .i64) R),some (.cells [.int .i64 t,.int .i64 n,.raw (.slice none 0 0),.raw (.slice none 0 0),.slice 6 0 y.N.length 1,.map 7,.int .i64 y.i,.raw (.pointer none)]),some (.ints (some .i64) y.N),some (.imap .i64 none y.m)] K) (q:=QV t n me sp R y s K) (by kernel_rfl) hK))
def QX(t n me sp:Int)(R:List Int)(y:SWS)(s:MS)(K:AVal→aC Ob→Prop):Prop:=((lE' s.3∧lE' R∧lE' y.5∧lE' y.6∧lE' y.2∧t=t∧n=n∧t=t∧n=n)∧((1:Int)≤t∧t≤(1000:Int))∧((1:Int)≤n∧n≤(1000:Int))∧((0:Int)≤s.4∧s.4≤(1000000:Int))∧2*t≤y.4∧((1:Nat)≤y.9∧y.7.length=y.8+y.9)∧(-1000000:Int)≤List.getD y.7 (y.8+Int.toNat 0*1) 0∧List.getD y.7 (y.8+Int.toNat 0*1) (0:Int)≤(1000000:Int))∧bif ieq (↑(y.9 - 1):Int) 0 then K (.bool true) [some (.cells [.ptr 1 0,.ptr 5 0]),some (.cells [.int .i64 t,.int .i64 n,.int .i64 me,.int .i64 sp,.slice 6 0 y.5.length 1]),some (.cells [.int .i64 s.1,.int .i64 s.2,.slice 3 0 (List.length (aS s.3 (bR n y.7 y.8) (WU (aD s.3 (bR n y.7 y.8)+1)))) 1,.int .i64 (s.4+1),.int .i64 4,.int .i64 (bR n y.7 y.8),.int .u64 (aD s.3 (bR n y.7 y.8)),.int .u64 (bif bL s.3 (bR n y.7 y.8)then WU (aD s.3 (bR n y.7 y.8)+1)else 0),.bool (bL s.3 (bR n y.7 y.8))]),some (.ints (some .u64) (aS s.3 (bR n y.7 y.8) (WU (aD s.3 (bR n y.7 y.8)+1)))),some (.ints (some .i64) R),some (.cells [.int .i64 t,.int .i64 n,.slice 6 0 y.5.length 1,.slice 7 0 y.6.length 1,.slice 8 0 y.2.length 1,.map 9,.int .i64 y.4,.ptr 10 0]),some (.ints (some .i64) y.5),some (.ints (some .i64) y.6),some (.ints (some .i64) y.2),some (.imap .i64 none y.3),some (.cells [.int .i64 t,.int .i64 n,.slice 11 (y.8+1) (y.9 - 1) 1]),some (.ints (some .i64) y.7)]else K (.bool false) [some (.cells [.ptr 1 0,.ptr 5 0]),some (.cells [.int .i64 t,.int .i64 n,.int .i64 me,.int .i64 sp,.slice 4 0 R.length 1]),some (.cells [.int .i64 s.1,.int .i64 s.2,.slice 3 0 (List.length (aS s.3 (bR n y.7 y.8) (WU (aD s.3 (bR n y.7 y.8)+1)))) 1,.int .i64 (s.4+1),.int .i64 4,.int .i64 (bR n y.7 y.8),.int .u64 (aD s.3 (bR n y.7 y.8)),.int .u64 (bif bL s.3 (bR n y.7 y.8)then WU (aD s.3 (bR n y.7 y.8)+1)else 0),.bool (bL s.3 (bR n y.7 y.8))]),some (.ints (some .u64) (aS s.3 (bR n y.7 y.8) (WU (aD s.3 (bR n y.7 y.8)+1)))),some (.ints (some .i64) R),some (.cells [.int .i64 t,.int .i64 n,.slice 6 0 y.5.length 1,.slice 7 0 y.6.length 1,.slice 8 0 y.2.length 1,.map 9,.int .i64 y.4,.ptr 10 0]),some (.ints (some .i64) y.5),some (.ints (some .i64) y.6),some (.ints (some .i64) y.2),some (.imap .i64 none y.3),some (.cells [.int .i64 t,.int .i64 n,.slice 11 (y.8+1) (y.9 - 1) 1]),some (.ints (some .i64) y.7)]
theorem aGa(t n me sp:Int)(R:List Int)(y:SWS)(s:MS)(K:AVal→aC Ob→Prop)(hK:QX t n me sp R y s K):cT' 169 [.ptr 0 0,.ptr 2 0] [some (.cells [.ptr 1 0,.ptr 5 0]),some (.cells [.int .i64 t,.int .i64 n,.int .i64 me,.int .i64 sp,.slice 4 0 R.length 1]),aZ 3 s,a8 s,some (.ints (some .i64) R),some (.cells [.int .i64 t,.int .i64 n,.slice 6 0 y.ks.length 1,.slice 7 0 y.fs.length 1,.slice 8 0 y.N.length 1,.map 9,.int .i64 y.i,.ptr 10 0]),some (.ints (some .i64) y.ks),some (.ints (some .i64) y.fs),some (.ints (some .i64) y.N),some (.imap .i64 none y.m),some (.cells [.int .i64 t,.int .i64 n,.slice 11 y.j y.l 1]),some (.ints (some .i64) y.gs)] K:=
 (jA nW) _ _ _ (Ev.get (aJ (p:=mK swStepS [.ptr 0 0,.ptr 2 0] [some (.cells [.ptr 1 0,.ptr 5 0]),some (.cells [.int .i64 t,.int .i64 n,.int .i64 me,.int .i64 sp,.slice 4 0 R.length 1]),aZ 3 s,a8 s,some (.ints (some .i64) R),some (.cells [.int .i64 t,.int .i64 n,.slice 6 0 y.ks.length 1,.slice 7 0 y.fs.length 1,.slice 8 0 y.N.length 1,.map 9,.int .i64 y.i,.ptr 10 0]),some (.ints (some .i64) y.ks),some (.ints (some .i64) y.fs),some (.ints (some .i64) y.N),some (.imap .i64 none y.m),some (.cells [.int .i64 t,.int .i64 n,.slice 11 y.j y.l 1]),some (.ints (some .i64) y.gs)] K) (q:=QX t n me sp R y s K) (by kernel_rfl) hK))
theorem wc{x y:Option (aH Ob)}{g g2:aC Ob}(h:oL x y)(k:lI g g2):lI (x::g) (y::g2):=⟨h,k⟩
theorem wv{v w:AVal}{vs ws:List AVal}(h:w=v∨w=.O)(k:nG vs ws):nG (v::vs) (w::ws):=⟨h,k⟩
theorem aGe:nG [] []:=trivial
theorem aFh{vs ws:List AVal}(h:nG vs ws):oL (some (.cells vs):Option (aH Ob)) (some (.cells ws)):=h
theorem wvs: ∀vs:List AVal,nG vs vs
 | []=>trivial
 | v::vs=>⟨.inl rfl,wvs vs⟩
theorem aFn: ∀x:Option (aH Ob),oL x x
 | none=>trivial
 | some (.cells vs)=>wvs vs
 | some (.ints c xs)=>rfl
 | some (.abs t ps)=>rfl
 | some (.tab ks r)=>rfl
 | some (.imap k v m)=>rfl
 | some (.iter _ _ _ _ _ _)=>rfl
theorem GC: ∀g:aC Ob,lI g g
 | []=>trivial
 | x::g=>⟨aFn x,GC g⟩
theorem tA{K:AVal→aC Ob→Prop}{v:AVal}{g:aC Ob}(h:K v g):LY K v g:=⟨g,GC g,h⟩
theorem B2{K:AVal→aC Ob→Prop}{v a b:AVal}{g:aC Ob}(h:K v (some (.cells [a,.O])::g)):LY K v (some (.cells [a,b])::g):=⟨_,wc (aFh (wv (.inl rfl) (wv (.inr rfl) aGe))) (GC g),h⟩
theorem sw0(t n:Int)(y:SWS)(st:STS)(s:MS)(K:AVal→aC Ob→Prop)(hp:y.ph=0)(ok:qA t n y st s)(hK:(swF t n y st s).left t n K):cT' 169 [.ptr 0 0,.ptr 2 0] (swH t n y st s) K:=by
 obtain⟨ht,hn,hc,hR,ho⟩:=ok;obtain⟨ph,N,m,i,ks,fs,gs,j,l⟩:=y;dsimp only at hp;subst hp;obtain⟨me,sp,R⟩:=st;dsimp only at hR;refine aB.pack tbl (aB.pack tbl (aB.less ?_));refine aB.unpack tbl (.store t n ⟨me,sp,R⟩) 1 0 (dN t n ⟨me,sp,R⟩) [] rfl rfl rfl rfl ?_;refine aB.unpack tbl (.sweep t n ⟨0,N,m,i,ks,fs,gs,j,l⟩) 0 1 (LH t n ⟨0,N,m,i,ks,fs,gs,j,l⟩) [1] rfl rfl rfl rfl ?_;refine aF8 t n me sp R ⟨0,N,m,i,ks,fs,gs,j,l⟩ s _ ?_;unfold QU;exact⟨⟨⟨rfl,rfl⟩,ht,hn,hc,hR⟩,tA (w8 (o:=swF t n ⟨0,N,m,i,ks,fs,gs,j,l⟩ ⟨me,sp,R⟩ s) [0,1,2,3,4,5,6,7] hK rfl rfl)⟩
theorem sw1(t n:Int)(y:SWS)(st:STS)(s:MS)(K:AVal→aC Ob→Prop)(hp:y.ph=1)(ok:qA t n y st s)(hK:(swF t n y st s).left t n K):cT' 169 [.ptr 0 0,.ptr 2 0] (swH t n y st s) K:=by
 obtain⟨ht,hn,hc,hR,ho⟩:=ok;obtain⟨ph,N,m,i,ks,fs,gs,j,l⟩:=y;dsimp only at hp;subst hp;obtain⟨me,sp,R⟩:=st;dsimp only at hR;refine aB.pack tbl (aB.pack tbl (aB.less ?_));refine aB.unpack tbl (.store t n ⟨me,sp,R⟩) 1 0 (dN t n ⟨me,sp,R⟩) [] rfl rfl rfl rfl ?_;refine aB.unpack tbl (.sweep t n ⟨1,N,m,i,ks,fs,gs,j,l⟩) 0 1 (LH t n ⟨1,N,m,i,ks,fs,gs,j,l⟩) [1] rfl rfl rfl rfl ?_;refine aF9 t n me sp R ⟨1,N,m,i,ks,fs,gs,j,l⟩ s _ ?_;unfold QV;have ho:N.length≤1000000∧0≤i∧i<2*t:=ho;refine⟨⟨⟨rfl,rfl,rfl,rfl,rfl⟩,ht,hn,hc,ho.1,ho.2⟩,?_⟩;unfold swF at hK;dsimp only at hK⊢;cases h1:ieq (i+1) (2*t)with
 | false=>
   rw [h1]at hK;exact tA (w8 (o:=⟨false,⟨1,N,aV m n i s,i+1,ks,fs,gs,j,l⟩,⟨me,sp,R⟩,s.loadd (bO n i)⟩) [0,1,2,3,4,5,6,7] hK rfl rfl)
 | true=>
   rw [h1]at hK;cases h2:ieq ((aU (aV m n i s) N).length :Int) 0 with
   | true=>
     rw [h2]at hK;exact B2 (w8 (o:=⟨true,⟨3,N,m,i,ks,fs,gs,j,l⟩,⟨me,sp,cC (aV m n i s) N⟩,s.loadd (bO n i)⟩) [0,1,2,3,8] hK rfl rfl)
   | false=>
     rw [h2]at hK;exact tA (w8 (o:=⟨false,⟨2,N,aV m n i s,i+1,cC (aV m n i s) N,aU (aV m n i s) N,aU (aV m n i s) N,0,(aU (aV m n i s) N).length⟩,⟨me,sp,R⟩,s.loadd (bO n i)⟩) [0,1,2,3,4,5,8,9,6,7,10,11] hK rfl rfl)
theorem sw2(t n:Int)(y:SWS)(st:STS)(s:MS)(K:AVal→aC Ob→Prop)(hp:y.ph=2)(ok:qA t n y st s)(hK:(swF t n y st s).left t n K):cT' 169 [.ptr 0 0,.ptr 2 0] (swH t n y st s) K:=by
 obtain⟨ht,hn,hc,hR,ho⟩:=ok;obtain⟨ph,N,m,i,ks,fs,gs,j,l⟩:=y;dsimp only at hp;subst hp;obtain⟨me,sp,R⟩:=st;dsimp only at hR;refine aB.pack tbl (aB.pack tbl (aB.less ?_));refine aB.unpack tbl (.store t n ⟨me,sp,R⟩) 1 0 (dN t n ⟨me,sp,R⟩) [] rfl rfl rfl rfl ?_;refine aB.unpack tbl (.sweep t n ⟨2,N,m,i,ks,fs,gs,j,l⟩) 0 1 (LH t n ⟨2,N,m,i,ks,fs,gs,j,l⟩) [1] rfl rfl rfl rfl ?_;refine aGa t n me sp R ⟨2,N,m,i,ks,fs,gs,j,l⟩ s _ ?_;unfold QX;have ho:2*t≤i∧1≤l∧gs.length=j+l∧ -1000000≤List.getD gs (j+Int.toNat 0*1) 0∧List.getD gs (j+Int.toNat 0*1) 0≤1000000:=ho;refine⟨⟨⟨rfl,rfl,rfl,rfl,rfl,rfl,rfl,rfl,rfl⟩,ht,hn,hc,ho.1,⟨ho.2.1,ho.2.2.1⟩,ho.2.2.2⟩,?_⟩;unfold swF at hK;dsimp only at hK⊢;cases h1:ieq ((l - 1:Nat):Int) 0 with
 | false=>
   rw [h1]at hK;exact tA (w8 (o:=⟨false,⟨2,N,m,i,ks,fs,gs,j+1,l - 1⟩,⟨me,sp,R⟩,s.added (bR n gs j) 1⟩) [0,1,2,3,4,5,6,7,8,9,10,11] hK rfl rfl)
 | true=>
   rw [h1]at hK;exact B2 (w8 (o:=⟨true,⟨3,N,m,i,ks,fs,gs,j,l⟩,⟨me,sp,ks⟩,s.added (bR n gs j) 1⟩) [0,1,2,3,6] hK rfl rfl)
theorem XL(t n:Int)(y:SWS)(st:STS)(s:MS)(K:AVal→aC Ob→Prop)(ok:qA t n y st s)(hK:(swF t n y st s).left t n K):cT' 169 [.ptr 0 0,.ptr 2 0] (swH t n y st s) K:=by
 match h:y.ph with
 | 0=>exact sw0 t n y st s K h ok hK
 | 1=>exact sw1 t n y st s K h ok hK
 | 2=>exact sw2 t n y st s K h ok hK
 | k+3=>have:=ok.ho;unfold Y2 at this;rw [h]at this;exact this.elim
theorem eU{I:Itp Ob}{n:Nat}{K:AVal→aC Ob→Prop}{d:Bool}{a b g:aC Ob}(hK:(Out.ite d (.ret (.bool true) a) (.ret (.bool false) b)).run K)(h1:K (.bool true) a→dJ I n K (.bool true) g)(h2:d=false→K (.bool false) b→dJ I n K (.bool false) g):dJ I n K (.bool d) g:=by
 cases d with
 | true=>exact h1 hK
 | false=>exact h2 rfl hK
theorem ZL{n:Nat}{v:AVal}{g h2:aC Ob}{K:AVal→aC Ob→Prop}(h:K v h2)(t:Ob)(l np:Nat)(e:aC Ob)(ps:List Nat)(hg:g=aP h2 l np e ps:=by kernel_rfl)(hl:aL h2 l=some (.abs t ps):=by exact rfl)(ht:tbl t=(np,e):=by exact rfl)
 (hb:(Nat.ble n h2.length&&obOk np e&&kZ h2 l ps&&v.within (upto 0 h2.length)&&Nat.beq ps.length np)=true:=by kernel_rfl):dJ (obI tbl) n K v g:=⟨⟨_,_,aF.pack h2 t l np e ps hg hl ht hb,h⟩⟩
theorem vJ{n:Nat}{v:AVal}{g h2 e1:aC Ob}{t1:Ob}{np1:Nat}{K:AVal→aC Ob→Prop}(h:K v h2)(t:Ob)(l np:Nat)(e:aC Ob)(ps:List Nat)(l1:Nat)(ps1:List Nat)(hl1:aL h2 l1=some (.abs t1 ps1))(ht1:tbl t1=(np1,e1))
 (hg:g=aP (aP h2 l1 np1 e1 ps1) l np e ps:=by kernel_rfl) (hl:aL (aP h2 l1 np1 e1 ps1) l=some (.abs t ps):=by exact rfl) (ht:tbl t=(np,e):=by exact rfl)
 (hb:(Nat.ble n (aP h2 l1 np1 e1 ps1).length &&obOk np e&&kZ (aP h2 l1 np1 e1 ps1) l ps&&v.within (upto 0 (aP h2 l1 np1 e1 ps1).length)&&Nat.beq ps.length np)=true:=by kernel_rfl)
 (hb1:(Nat.ble n h2.length&&obOk np1 e1&&kZ h2 l1 ps1&&v.within (upto 0 h2.length)&&Nat.beq ps1.length np1)=true:=by kernel_rfl):dJ (obI tbl) n K v g:=⟨⟨_,_,(aF.pack _ t l np e ps hg hl ht hb).trans (aF.pack h2 t1 l1 np1 e1 ps1 rfl hl1 ht1 hb1),h⟩⟩
theorem sL{n:Nat}{v:AVal}{g h2:aC Ob}{K:AVal→aC Ob→Prop}(h:K v h2)(pos pl:List Nat)(t:Ob)(l np:Nat)(e:aC Ob)(ps:List Nat)(hp:(dO pl (XQ g 0 pos).length &&iC pl 0 n)=true:=by exact rfl)(hv:kD pl v=v:=by kernel_rfl)(hg:fQ pl (XQ g 0 pos)=aP h2 l np e ps:=by kernel_rfl)(hl:aL h2 l=some (.abs t ps):=by exact rfl)(ht:tbl t=(np,e):=by exact rfl)
 (hb:(Nat.ble n h2.length&&obOk np e&&kZ h2 l ps&&v.within (upto 0 h2.length)&&Nat.beq ps.length np)=true:=by kernel_rfl):dJ (obI tbl) n K v g:=⟨⟨_,_,(aF.weak (dT g 0 pos)).trans ((aF.pick pl hp).trans ((aHl hv hg).trans (aF.pack h2 t l np e ps rfl hl ht hb))),h⟩⟩
abbrev iP(l:Nat)(t n:Int)(st:STS):Option (aH Mc):=some (.cells [.I t,.I n,.I st.me,.I st.sp,.slice l 0 st.R.length 1])
abbrev iQ(st:STS):Option (aH Mc):=some (.ints (some .i64) st.R)
def k9(w:Nat)(h:aC Ob):Option (Nat×Int×Int×STS):=match h with
 | [some (.cells [.int .i64 t,.int .i64 n,.int .i64 me,.int .i64 sp,.slice l 0 len 1]),some (.ints (some .i64) xs)]=>if l=w then some (len,t,n,⟨me,sp,xs⟩)else none
 | _=>none
theorem b8{w:Nat}{h:aC Ob}{l:Nat}{t n:Int}{st:STS}(e:k9 w h=some (l,t,n,st))(hl:l=st.R.length):h=[iP w t n st,iQ st]:=by
 unfold k9 at e;split at e
 ·split at e
  ·rename_i hw;simp only [sI',pI']at e;obtain⟨rfl,rfl,rfl,rfl⟩:=e;subst hw;simp only at hl;subst hl;rfl
  ·cases e
 ·cases e
theorem jG{f:FuncId}{t n:Int}{st st':STS}{s s':MS}{M:Mc}{e1 e2:aH Mc}{d:Bool}(h1: ∀ι:Nat→Nat,ι 1=1→e1.ren ι=e1)(h2: ∀ι:Nat→Nat,ι 1=1→e2.ren ι=e2)
 (hA: ∀K,(Out.ite d (.ret (.bool true) [some e1,some (.abs (.store t n st') []),aZ 3 s',a8 s']) (.ret (.bool false) [some e2,some (.abs (.store t n st') []),aZ 3 s',a8 s'])).run K→cT' f [.ptr 0 0,.ptr 2 0] [some (.abs M [1]),some (.abs (.store t n st) []),aZ 3 s,a8 s] K)
 (K:AVal→aC Ob→Prop) (hK:(Out.ite d (.ret (.bool true) [some e1,iP 5 t n st',none,aZ 4 s',a8 s',iQ st']) (.ret (.bool false) [some e2,iP 5 t n st',none,aZ 4 s',a8 s',iQ st'])).run K):
 cT' f [.ptr 0 0,.ptr 3 0] [some (.abs M [1]),iP 2 t n st,iQ st,aZ 4 s,a8 s] K:=by
 refine aHn ?_;refine aHN (h0:=[some (.abs M [1]),iP 4 t n st,aZ 3 s,a8 s,iQ st]) (args0:=[.ptr 0 0,.ptr 2 0]) (K0:=fun v g=>dJ (obI tbl) 5 K (v.ren (iota [0,1,3,4,2] 5)) (oG [some (.abs M [1]),iP 2 t n st,iQ st,aZ 4 s,a8 s] [0,1,3,4,2] g)) ?_ [0,1,3,4,2] rfl (by decide) (by intro l hl;simp at hl⊢;omega) ?_ rfl (fun v g hk _=>hk)
 ·refine aB.shut tbl [some (.abs M [1]),some (.abs (.store t n st) []),aZ 3 s,a8 s] (.store t n st) 1 0 (dN t n st) [] (by kernel_rfl) rfl rfl (by kernel_rfl) (hA _ ?_)
  have i1:farI 4 1 1=1:=rfl;have i2:iota [0,1,3,4,2] 5 1=1:=rfl;cases d with
  | true=>
    have q1:((e1.ren (farI 4 1)).ren (iota [0,1,3,4,2] 5))=e1:=by rw [h1 _ i1,h1 _ i2]
    refine⟨_,_,aF.trans (aHl (g2:=[some e1,some (.abs (.store t n st') []),none,aZ 4 s',a8 s']) (by kernel_rfl) ?_) (aF.unpack (.store t n st') 1 0 (dN t n st') [] rfl rfl rfl rfl),hK⟩
    show [some ((e1.ren (farI 4 1)).ren (iota [0,1,3,4,2] 5)),_,_,_,_]=_;rw [q1];rfl
  | false=>
    have q2:((e2.ren (farI 4 1)).ren (iota [0,1,3,4,2] 5))=e2:=by rw [h2 _ i1,h2 _ i2]
    refine⟨_,_,aF.trans (aHl (g2:=[some e2,some (.abs (.store t n st') []),none,aZ 4 s',a8 s']) (by kernel_rfl) ?_) (aF.unpack (.store t n st') 1 0 (dN t n st') [] rfl rfl rfl rfl),hK⟩
    show [some ((e2.ren (farI 4 1)).ren (iota [0,1,3,4,2] 5)),_,_,_,_]=_;rw [q2];rfl
 ·intro i l hi
  match i,hi with
  | 0,hi=>cases hi;rfl
  | 1,hi=>cases hi;rfl
  | 2,hi=>cases hi;rfl
  | 3,hi=>cases hi;rfl
  | 4,hi=>cases hi;rfl
  | _+5,hi=>cases hi
def fK(kd:Int):Bool:=ieq kd 1||ieq kd 4
def oH(sh kd:Int):Bool:=ieq kd 5&&ieq sh 4
def uI(sh kd:Int):Bool:=ieq kd 2||ieq kd 5&&ieq sh 3
def gH(ky curr cw:Int):Bool:=bif ieq curr 0 then false else ieq (aA cw 0 10) ky
def eT(sh ky:Int):Int:=bif ieq sh 2 then ky%4 else 0
def lV(sh kd ky:Int):Int:=bif ieq sh 2 then ky else bif ieq sh 1 then ky else bif ieq sh 3 then(bif fK kd then 1024 else -1)else -1
def O0:bE Ob:=fun args h=>match args,h with
 | [.agg [.int .i64 t,.int .i64 n],.int .i64 a],[]=>some ((0≤n∧n≤100000)∧(-1000000≤a∧a≤1000000),.I (n+1+a))
 | _,_=>none
theorem VR:sT' 112 O0.spec:=by
 intro args h o ho K hK;unfold bE.spec O0 at ho;split at ho
 case h_2=>cases ho
 rename_i p v hp;split at hp
 case h_2=>cases hp
 rename_i t n a;cases hp;simp only [sI']at ho;subst ho;obtain⟨hp,hK⟩:=hK;have hK:K (.I (n+1+a)) []:=hK;refine aHa (cM' (E:=enE) (q:=K (.I (W (W (1+n)+a))) []) (by kernel_rfl) ?_)
 simp(disch:=omega) only [W,cP]
 refine cast (congrArg (fun z=>K (AVal.int .i64 z) []) ?_) hK;omega
def GA:bE Ob:=fun args h=>match args,h with
 | [.agg [.int .i64 k,.int .i64 y,.bool m,.int .i64 c,.int .i64 v]],[]=>some (0≤v∧v≤1000000,.agg [.I k,.I y,.bool m,.I 0,.I (aQ v)])
 | _,_=>none
theorem RK:sT' 264 GA.spec:=by
 intro args h o ho K hK;unfold bE.spec GA at ho;split at ho
 case h_2=>cases ho
 rename_i p v hp;split at hp
 case h_2=>cases hp
 rename_i k y m c v;cases hp;simp only [sI']at ho;subst ho;obtain⟨hp,hK⟩:=hK;have hK:K (.agg [.I k,.I y,.bool m,.I 0,.I (aQ v)]) []:=hK;refine aHa (cM' (E:=enE) (q:=K (.agg [.I k,.I y,.bool m,.I 0,.I (W (↑(BitVec.toNat (BitVec.ofInt (IntKind.bits .i64) (W (v+1))&&&BitVec.ofInt (IntKind.bits .i64) 262143)):Int))]) []) (by kernel_rfl) ?_)
 refine cast (congrArg (fun z=>K (.agg [.I k,.I y,.bool m,.I 0,.I z]) []) ?_) hK;show aQ v=_;have hb:IntKind.bits .i64 =64:=rfl;simp only [W];rw [hb,cP (x:=v+1) (by omega)]
 have:=jJ (n:=64) (w:=18) (v+1) (by omega)
 have e:(2:Int)^18 - 1=262143:=by decide
 rw [e]at this;rw [this];have e2:(2:Int)^18=262144:=by decide
 rw [e2,cP (by omega)]
 rfl
def zB:bE Ob:=fun args h=>match args,h with
 | [.agg [.int .i64 k,.int .i64 y,.bool m,.int .i64 c,.int .i64 v],.int .i64 b,.int .i64 x,.bool q],[]=>some (-1000000≤b∧b≤1000000,.agg [.I k,.I x,.bool q,.I (b+1),.I v])
 | _,_=>none
theorem LP:sT' 268 zB.spec:=by
 intro args h o ho K hK;unfold bE.spec zB at ho;split at ho
 case h_2=>cases ho
 rename_i p v hp;split at hp
 case h_2=>cases hp
 rename_i k y m c v b x q;cases hp;simp only [sI']at ho;subst ho;obtain⟨hp,hK⟩:=hK;have hK:K (.agg [.I k,.I x,.bool q,.I (b+1),.I v]) []:=hK;refine aHa (cM' (E:=enE) (q:=K (.agg [.I k,.I x,.bool q,.I (W (b+1)),.I v]) []) (by kernel_rfl) ?_)
 rw [xI (by omega)]
 exact hK
def yV:bE Ob:=fun args h=>match args,h with
 | [.agg [.int .i64 sh,.int .i64 kd,.int .i64 ky]],[]=>some (True,.bool (fK kd))
 | _,_=>none
theorem LK:sT' 203 yV.spec:=by
 intro args h o ho K hK;unfold bE.spec yV at ho;split at ho
 case h_2=>cases ho
 rename_i p v hp;split at hp
 case h_2=>cases hp
 rename_i sh kd ky;cases hp;simp only [sI']at ho;subst ho;obtain⟨hp,hK⟩:=hK;have hK:K (.bool (fK kd)) []:=hK;refine aHa (cM' (E:=enE) (q:=bif ieq kd 1 then K (.bool true) []else K (.bool (ieq kd 4)) []) (by kernel_rfl) ?_)
 unfold fK at hK;cases h:ieq kd 1<;>rw [h]at hK<;>exact hK
def F9:bE Ob:=fun args h=>match args,h with
 | [.agg [.int .i64 sh,.int .i64 kd,.int .i64 ky]],[]=>some (True,.bool (oH sh kd))
 | _,_=>none
theorem RC:sT' 285 F9.spec:=by
 intro args h o ho K hK;unfold bE.spec F9 at ho;split at ho
 case h_2=>cases ho
 rename_i p v hp;split at hp
 case h_2=>cases hp
 rename_i sh kd ky;cases hp;simp only [sI']at ho;subst ho;obtain⟨hp,hK⟩:=hK;have hK:K (.bool (oH sh kd)) []:=hK;refine aHa (cM' (E:=enE) (q:=bif ieq kd 5 then K (.bool (ieq sh 4)) []else K (.bool false) []) (by kernel_rfl) ?_)
 unfold oH at hK;cases h:ieq kd 5<;>rw [h]at hK<;>exact hK
def yW:bE Ob:=fun args h=>match args,h with
 | [.agg [.int .i64 sh,.int .i64 kd,.int .i64 ky]],[]=>some (True,.bool (uI sh kd))
 | _,_=>none
theorem LM:sT' 225 yW.spec:=by
 intro args h o ho K hK;unfold bE.spec yW at ho;split at ho
 case h_2=>cases ho
 rename_i p v hp;split at hp
 case h_2=>cases hp
 rename_i sh kd ky;cases hp;simp only [sI']at ho;subst ho;obtain⟨hp,hK⟩:=hK;have hK:K (.bool (uI sh kd)) []:=hK;refine aHa (cM' (E:=enE) (q:=bif ieq kd 2 then K (.bool true) []else bif ieq kd 5 then K (.bool (ieq sh 3)) []else K (.bool false) []) (by kernel_rfl) ?_)
 unfold uI at hK;cases h:ieq kd 2<;>cases h2:ieq kd 5<;>rw [h]at hK<;>rw [h2]at hK<;>exact hK
noncomputable def hasCS:aI Ob:=tP [(.slot 0,.ints (some .i64))] UY.spec
theorem UX:sT' 138 hasCS:=zW OU
noncomputable def EB0:=((((((enE.addS 138 hasCS UX).addR 112 O0 VR).addR 264 GA RK).addR 268 zB LP).addR 203 yV LK).addR 285 F9 RC).addR 225 yW LM
def isS:aI Ob:=fun args h=>match args,h with
 | [.agg [.int .i64 a,.int .i64 b,.int .i64 c,.int .i64 d,.bool m,.int .i64 e,.int .i64 f],.slice 0 0 1 1],[some (.cells [.int .i64 s])]=>some (.ret (.bool (hasB [s] e)) [some (.ints (some .i64) [s])])
 | _,_=>none
theorem aEP:sT' 243 isS:=by
 intro args h o ho K hK;unfold isS at ho;split at ho<;>cases ho
 rename_i a b c d m e f s;have hK:K (.bool (hasB [s] e)) [some (.ints (some .i64) [s])]:=hK;refine aHa (cM' (E:=EB0) (q:=(1=1∧(1:Nat)≤(4294967296:Nat))∧K (.bool (hasB [s] e)) [some (.ints (some .i64) [s])]) (by kernel_rfl) ?_)
 exact⟨⟨rfl,by omega⟩,hK⟩
noncomputable def EB0b:=EB0.addS 243 isS aEP
def MU:bE Ob:=fun args h=>match args,h with
 | [.int .u64 x],[]=>some (True,.I (aA x 20 5 - 1))
 | _,_=>none
theorem S1:sT' 260 MU.spec:=by
 intro args h o ho K hK;unfold bE.spec MU at ho;split at ho
 case h_2=>cases ho
 rename_i p v hp;split at hp
 case h_2=>cases hp
 rename_i x;cases hp;simp only [sI']at ho;subst ho;obtain⟨hp,hK⟩:=hK;have hK:K (.I (aA x 20 5 - 1)) []:=hK;refine aHa (cM' (E:=EB0b) (q:=True∧K (.I (W (aA x 20 5 - 1))) []) (by kernel_rfl) ?_)
 have hb:0≤aA x 20 5∧aA x 20 5<32:=by
  unfold aA;have e:(2:Int)^(5:Int).toNat =32:=by decide
  rw [e];exact⟨Int.emod_nonneg _ (by decide),Int.emod_lt_of_pos _ (by decide)⟩
 have e1:W (aA x 20 5 - 1)=aA x 20 5 - 1:=cP (by omega)
 rw [e1];exact⟨trivial,hK⟩
def D5:bE Ob:=fun args h=>match args,h with
 | [.agg [.int .i64 a,.int .i64 b,.int .i64 c,.int .i64 d,.bool m,.int .i64 e,.int .i64 f],.int .i64 g],[]=>some (True,.agg [.I a,.I b,.I c,.I d,.bool m,.I g,.I f])
 | _,_=>none
theorem NE:sT' 262 D5.spec:=by
 intro args h o ho K hK;unfold bE.spec D5 at ho;split at ho
 case h_2=>cases ho
 rename_i p v hp;split at hp
 case h_2=>cases hp
 rename_i a b c d m e f g;cases hp;simp only [sI']at ho;subst ho;obtain⟨hp,hK⟩:=hK;have hK:K (.agg [.I a,.I b,.I c,.I d,.bool m,.I g,.I f]) []:=hK;refine aHa (cM' (E:=EB0b) (q:=K (.agg [.I a,.I b,.I c,.I d,.bool m,.I g,.I f]) []) (by kernel_rfl) ?_)
 exact hK
noncomputable def EB0c:=(EB0b.addR 260 MU S1).addR 262 D5 NE
def yZ:bE Ob:=fun args h=>match args,h with
 | [.agg [.int .i64 sh,.int .i64 kd,.int .i64 ky]],[]=>some (True,.agg [.I (eT sh ky),.I (lV sh kd ky)])
 | _,_=>none
theorem LN:sT' 226 yZ.spec:=by
 intro args h o ho K hK;unfold bE.spec yZ at ho;split at ho
 case h_2=>cases ho
 rename_i p v hp;split at hp
 case h_2=>cases hp
 rename_i sh kd ky;cases hp;simp only [sI']at ho;subst ho;obtain⟨hp,hK⟩:=hK;have hK:K (.agg [.I (eT sh ky),.I (lV sh kd ky)]) []:=hK;refine aHa (cM' (E:=EB0c) (q:=bif ieq sh 2 then K (.agg [.I (W (↑(BitVec.toNat (BitVec.ofInt (IntKind.bits .i64) ky&&&BitVec.ofInt (IntKind.bits .i64) 3)):Int)),.I ky]) []else bif ieq sh 1 then K (.agg [.I 0,.I ky]) []else bif ieq sh 2 then K (.agg [.I 0,.I ky]) []else bif ieq sh 3 then True∧bif fK kd then K (.agg [.I 0,.I 1024]) []else K (.agg [.I 0,.I (-1:Int)]) []else K (.agg [.I 0,.I (-1:Int)]) []) (by kernel_rfl) ?_)
 have e4:W (((BitVec.ofInt (IntKind.bits .i64) ky&&&BitVec.ofInt (IntKind.bits .i64) 3).toNat :Nat):Int)=ky%4:=by
  have hb:IntKind.bits .i64 =64:=rfl;rw [hb];have:=jJ (n:=64) (w:=2) ky (by omega)
  have e:(2:Int)^2 - 1=3:=by decide
  rw [e]at this;rw [this];have e2:(2:Int)^2=4:=by decide
  rw [e2];exact cP (by omega)
 unfold eT lV at hK;refine aO (fun e=>?_) (fun e=>aO (fun e1=>?_) (fun e1=>aO (fun e2=>?_) (fun e2=>aO (fun e3=>⟨trivial,aO (fun e5=>?_) (fun e5=>?_)⟩) (fun e3=>?_))))
 ·rw [e]at hK;rw [e4];exact hK
 ·rw [e,e1]at hK;exact hK
 ·rw [e]at e2;cases e2
 ·rw [e,e1,e3,e5]at hK;exact hK
 ·rw [e,e1,e3,e5]at hK;exact hK
 ·rw [e,e1,e3]at hK;exact hK
def yH:bE Ob:=fun args h=>match args,h with
 | [.agg [.int .i64 sh,.int .i64 kd,.int .i64 ky,.int .i64 pred,.int .u64 pw,.int .i64 curr,.int .u64 cw]],[]=>some (True,.bool (gH ky curr cw))
 | _,_=>none
theorem KT:sT' 287 yH.spec:=by
 intro args h o ho K hK;unfold bE.spec yH at ho;split at ho
 case h_2=>cases ho
 rename_i p v hp;split at hp
 case h_2=>cases hp
 rename_i sh kd ky pred pw curr cw;cases hp;simp only [sI']at ho;subst ho;obtain⟨hp,hK⟩:=hK;have hK:K (.bool (gH ky curr cw)) []:=hK;refine aHa (cM' (E:=EB0c) (q:=bif !ieq curr 0 then True∧K (.bool (ieq (aA cw 0 10) ky)) []else K (.bool false) []) (by kernel_rfl) ?_)
 unfold gH at hK;cases h:ieq curr 0 with
 | true=>rw [h]at hK;exact hK
 | false=>rw [h]at hK;exact⟨trivial,hK⟩
noncomputable def EB1:=(EB0c.addR 226 yZ LN).addR 287 yH KT
def Y5(v:AVal)(g:aC Ob):Option (Prop×PLN):=match v,g with
 | .agg [.bool now,.int .i64 code,.bool okk,.int .i64 val,.int .i64 addr,.int .u64 old,.int .i64 nxt,.bool mark,.int .i64 pops],[]=>some (True,⟨now,code,okk,val,addr,old,nxt,mark,pops⟩)
 | _,_=>none
def PX(y:PLN):AVal:=.agg [.bool y.now,.I y.code,.bool y.okk,.I y.val,.I y.addr,.int .u64 y.old,.I y.nxt,.bool y.mark,.I y.pops]
theorem PW:bM (obI tbl) 0 Y5 (fun y=>.ret (PX y) []):=by
 intro v g p x hp hq K hK;unfold Y5 at hp;split at hp
 case h_2=>cases hp
 cases hp;exact⟨⟨_,_,aHr _ _ _,hK⟩⟩
abbrev w02:Tr (PLN):=.pre True (.ret {now:=true,code:=0,okk:=false,val:=0,addr:=0,old:=0,nxt:=0,mark:=false,pops:=0})
abbrev w00(curr cw kd ky pred pw sh:Int):Tr (PLN):=.ite (ieq kd 5) (.ite (ieq curr 0) w02 (.pre True (.pre True (.ite (oH sh kd) (.pre True (.pre True (.pre True (.ret {now:=false,code:=0,okk:=true,val:=aA cw 0 10,addr:=pred,old:=pw,nxt:=aA cw 10 9,mark:=ieq (aA pw 19 1) 1,pops:=curr})))) (.pre True (.pre True (.ret {now:=false,code:=0,okk:=true,val:=aA cw 0 10,addr:=curr,old:=cw,nxt:=aA cw 10 9,mark:=true,pops:=0}))))))) (.ite (ieq kd 3) (.pre True (.pre True (.ret {now:=true,code:=0,okk:=gH ky curr cw,val:=0,addr:=0,old:=0,nxt:=0,mark:=false,pops:=0}))) w02)
abbrev w01(curr cw:Int):Tr (PLN):=.pre True (.pre True (.ret {now:=false,code:=0,okk:=true,val:=0,addr:=curr,old:=cw,nxt:=aA cw 10 9,mark:=true,pops:=0}))
abbrev w03(pred pw spare:Int):Tr (PLN):=.pre True (.pre True (.ret {now:=false,code:=0,okk:=true,val:=0,addr:=pred,old:=pw,nxt:=spare,mark:=ieq (aA pw 19 1) 1,pops:=0}))
def CF(sh kd ky pred pw curr cw spare:Int):Tr (PLN):=.pre True (.ite (!bS sh kd ky) (.pre True (.ret {now:=true,code:=1,okk:=false,val:=0,addr:=0,old:=0,nxt:=0,mark:=false,pops:=0})) (.ite (ieq kd 4) (.ite (ieq kd 4) (w03 pred pw spare) (.ite (ieq kd 2) (.pre True (.ite (gH ky curr cw) (w01 curr cw) (w00 curr cw kd ky pred pw sh))) (w00 curr cw kd ky pred pw sh))) (.ite (ieq kd 1) (.pre True (.ite (!gH ky curr cw) (w03 pred pw spare) (.ite (ieq kd 2) (.pre True (.ite (gH ky curr cw) (w01 curr cw) (w00 curr cw kd ky pred pw sh))) (w00 curr cw kd ky pred pw sh)))) (.ite (ieq kd 2) (.pre True (.ite (gH ky curr cw) (w01 curr cw) (w00 curr cw kd ky pred pw sh))) (w00 curr cw kd ky pred pw sh)))))
def bH(sh kd ky pred pw curr cw spare:Int):PLN:=(CF sh kd ky pred pw curr cw spare).val
def uW(sh kd ky pred pw curr cw spare:Int):Prop:=(CF sh kd ky pred pw curr cw spare).ok
def planS:aI Ob:=fun args h=>match args,h with
 | [.agg [.int .i64 sh,.int .i64 kd,.int .i64 ky],.agg [.int .i64 pred,.int .u64 pw,.int .i64 curr,.int .u64 cw],.int .i64 spare],[]=>some (.pre (uW sh kd ky pred pw curr cw spare) (.ret (PX (bH sh kd ky pred pw curr cw spare)) []))
 | _,_=>none
theorem WV:sT' 256 planS:=by
 intro args h o ho K hK;unfold planS at ho;split at ho<;>cases ho
 rename_i sh kd ky pred pw curr cw spare;obtain⟨ok,hK⟩:=hK;refine aHm (root:=0) (pos:=[]) (cs:=[]) PW ?_;exact cM' (E:=EB1) (q:=(CF sh kd ky pred pw curr cw spare).run (fun y=>(Out.ret (PX y) []).run K)) (by kernel_rfl) (aHe ok hK)
def PY(v:AVal)(g:aC Ob):Option (Prop×Int):=match v,g with
 | .int .u64 x,[]=>some (True,x)
 | _,_=>none
def FS(y:Int):AVal:=.int .u64 y
theorem KY:bM (obI tbl) 0 PY (fun y=>.ret (FS y) []):=by
 intro v g p x hp hq K hK;unfold PY at hp;split at hp
 case h_2=>cases hp
 cases hp;exact⟨⟨_,_,aHr _ _ _,hK⟩⟩
def uX(now:Bool)(code:Int)(okk:Bool)(val:Int)(addr:Int)(old:Int)(nxt:Int)(mark:Bool)(pops:Int):Tr (Int):=.ite now (.pre True (.ret 0)) (.pre True (.pre ((-1000000:Int)≤(0:Int)∧(0:Int)≤(1000000:Int)) (.pre ((0:Int)≤aA old 25 18∧aA old 25 (18:Int)≤(1000000:Int)) (.pre True (.pre True (.ret (bif bif aK (aA old 0 10) 10 then bif aK nxt 9 then bif aK 0 5 then aK (aQ (aA old 25 18)) 18 else false else false else false then cF (aA old 0 10) nxt mark 0 (aQ (aA old 25 18))else 0)))))))
def cY(now:Bool)(code:Int)(okk:Bool)(val:Int)(addr:Int)(old:Int)(nxt:Int)(mark:Bool)(pops:Int):Int:=(uX now code okk val addr old nxt mark pops).val
def yK(now:Bool)(code:Int)(okk:Bool)(val:Int)(addr:Int)(old:Int)(nxt:Int)(mark:Bool)(pops:Int):Prop:=(uX now code okk val addr old nxt mark pops).ok
def planWS:aI Ob:=fun args h=>match args,h with
 | [.agg [.bool now,.int .i64 code,.bool okk,.int .i64 val,.int .i64 addr,.int .u64 old,.int .i64 nxt,.bool mark,.int .i64 pops]],[]=>some (.pre (yK now code okk val addr old nxt mark pops) (.ret (FS (cY now code okk val addr old nxt mark pops)) []))
 | _,_=>none
theorem PZ:sT' 218 planWS:=by
 intro args h o ho K hK;unfold planWS at ho;split at ho<;>cases ho
 rename_i now code okk val addr old nxt mark pops;obtain⟨ok,hK⟩:=hK;refine aHm (root:=0) (pos:=[]) (cs:=[]) KY ?_;exact cM' (E:=EB1) (q:=(uX now code okk val addr old nxt mark pops).run (fun y=>(Out.ret (FS y) []).run K)) (by kernel_rfl) (aHe ok hK)
def PS(v:AVal)(g:aC Ob):Option (Prop×Bool):=match v,g with
 | .bool x,[]=>some (True,x)
 | _,_=>none
def FQ(y:Bool):AVal:=.bool y
theorem KU:bM (obI tbl) 0 PS (fun y=>.ret (FQ y) []):=by
 intro v g p x hp hq K hK;unfold PS at hp;split at hp
 case h_2=>cases hp
 cases hp;exact⟨⟨_,_,aHr _ _ _,hK⟩⟩
def uT(now:Bool)(code:Int)(okk:Bool)(val:Int)(addr:Int)(old:Int)(nxt:Int)(mark:Bool)(pops:Int):Tr (Bool):=.ite (!now) (.pre True (.pre True (.ret !ieq (aA old 20 5) 0))) (.pre True (.ret false))
def yI(now:Bool)(code:Int)(okk:Bool)(val:Int)(addr:Int)(old:Int)(nxt:Int)(mark:Bool)(pops:Int):Bool:=(uT now code okk val addr old nxt mark pops).val
def nU(now:Bool)(code:Int)(okk:Bool)(val:Int)(addr:Int)(old:Int)(nxt:Int)(mark:Bool)(pops:Int):Prop:=(uT now code okk val addr old nxt mark pops).ok
def planCS:aI Ob:=fun args h=>match args,h with
 | [.agg [.bool now,.int .i64 code,.bool okk,.int .i64 val,.int .i64 addr,.int .u64 old,.int .i64 nxt,.bool mark,.int .i64 pops]],[]=>some (.pre (nU now code okk val addr old nxt mark pops) (.ret (FQ (yI now code okk val addr old nxt mark pops)) []))
 | _,_=>none
theorem PT:sT' 257 planCS:=by
 intro args h o ho K hK;unfold planCS at ho;split at ho<;>cases ho
 rename_i now code okk val addr old nxt mark pops;obtain⟨ok,hK⟩:=hK;refine aHm (root:=0) (pos:=[]) (cs:=[]) KU ?_;exact cM' (E:=EB1) (q:=(uT now code okk val addr old nxt mark pops).run (fun y=>(Out.ret (FQ y) []).run K)) (by kernel_rfl) (aHe ok hK)
def PU(v:AVal)(g:aC Ob):Option (Prop×(Int×Int)):=match v,g with
 | .tup [.int .u64 x,.int .i64 e],[]=>some (True,(x,e))
 | _,_=>none
def FR(y:(Int×Int)):AVal:=.tup [.int .u64 y.1,.I y.2]
theorem KV:bM (obI tbl) 0 PU (fun y=>.ret (FR y) []):=by
 intro v g p x hp hq K hK;unfold PU at hp;split at hp
 case h_2=>cases hp
 cases hp;exact⟨⟨_,_,aHr _ _ _,hK⟩⟩
def uV(now:Bool)(code:Int)(okk:Bool)(val:Int)(addr:Int)(old:Int)(nxt:Int)(mark:Bool)(pops:Int)(att:Int):Tr ((Int×Int)):=.ite now (.pre True (.ret (0,5))) (.pre True (.pre True (.pre True (.ret (bif dOk att addr (aA old 25 18) nxt 2 val then cD att addr (aA old 25 18) nxt mark 2 val else 0,bif dOk att addr (aA old 25 18) nxt 2 val then 0 else 2)))))
def fL(now:Bool)(code:Int)(okk:Bool)(val:Int)(addr:Int)(old:Int)(nxt:Int)(mark:Bool)(pops:Int)(att:Int):(Int×Int):=(uV now code okk val addr old nxt mark pops att).val
def yJ(now:Bool)(code:Int)(okk:Bool)(val:Int)(addr:Int)(old:Int)(nxt:Int)(mark:Bool)(pops:Int)(att:Int):Prop:=(uV now code okk val addr old nxt mark pops att).ok
def planDS:aI Ob:=fun args h=>match args,h with
 | [.agg [.bool now,.int .i64 code,.bool okk,.int .i64 val,.int .i64 addr,.int .u64 old,.int .i64 nxt,.bool mark,.int .i64 pops],.int .i64 att],[]=>some (.pre (yJ now code okk val addr old nxt mark pops att) (.ret (FR (fL now code okk val addr old nxt mark pops att)) []))
 | _,_=>none
theorem PV:sT' 202 planDS:=by
 intro args h o ho K hK;unfold planDS at ho;split at ho<;>cases ho
 rename_i now code okk val addr old nxt mark pops att;obtain⟨ok,hK⟩:=hK;refine aHm (root:=0) (pos:=[]) (cs:=[]) KV ?_;exact cM' (E:=EB1) (q:=(uV now code okk val addr old nxt mark pops att).run (fun y=>(Out.ret (FR y) []).run K)) (by kernel_rfl) (aHe ok hK)
noncomputable def EB2:=(((EB1.addS 256 planS WV).addS 218 planWS PZ).addS 257 planCS PT).addS 202 planDS PV
abbrev aAY(x:ENS):aH Mc:=.cells [.ptr 1 0,.bool x.sh,.O,.O,.bool x.dn]
theorem T4{t n:Int}{x:ENS}{st:STS}{s:MS} :aF (obI tbl) 4 (.bool true) [some (.abs (.ensure t n x) [1]),some (.abs (.store t n st) []),aZ 3 s,a8 s] (.bool true) [some (aAY x),some (.abs (.store t n st) []),aZ 3 s,a8 s]:=by
 obtain⟨ph,sh,dn,a,y⟩:=x
 match ph with
 | 0=>exact(aF.unpack (.ensure t n ⟨0,sh,dn,a,y⟩) 0 1 (C1 t n ⟨0,sh,dn,a,y⟩) [1] rfl rfl (by kernel_rfl) rfl).trans ((aF.weak (dT _ 0 [2,3])).trans ((aF.pick (upto 0 4) rfl).trans (aHl (by kernel_rfl) (by kernel_rfl))))
 | 1=>exact(aF.unpack (.ensure t n ⟨1,sh,dn,a,y⟩) 0 1 (C1 t n ⟨1,sh,dn,a,y⟩) [1] rfl rfl (by kernel_rfl) rfl).trans ((aF.weak (dT _ 0 [2,3])).trans ((aF.pick (upto 0 4) rfl).trans (aHl (by kernel_rfl) (by kernel_rfl))))
 | 2=>exact(aF.unpack (.ensure t n ⟨2,sh,dn,a,y⟩) 0 1 (C1 t n ⟨2,sh,dn,a,y⟩) [1] rfl rfl (by kernel_rfl) rfl).trans ((aF.weak (dT _ 0 [2,3])).trans ((aF.pick (upto 0 4) rfl).trans (aHl (by kernel_rfl) (by kernel_rfl))))
 | 3=>exact(aF.unpack (.ensure t n ⟨3,sh,dn,a,y⟩) 0 1 (C1 t n ⟨3,sh,dn,a,y⟩) [1] rfl rfl (by kernel_rfl) rfl).trans ((aF.weak (dT _ 0 [2,3])).trans ((aF.pick (upto 0 4) rfl).trans (aHl (by kernel_rfl) (by kernel_rfl))))
 | k+4=>exact(aF.unpack (.ensure t n ⟨k+4,sh,dn,a,y⟩) 0 1 (C1 t n ⟨k+4,sh,dn,a,y⟩) [1] rfl rfl (by kernel_rfl) rfl).trans ((aF.weak (dT _ 0 [2,3])).trans ((aF.pick (upto 0 4) rfl).trans (aHl (by kernel_rfl) (by kernel_rfl))))
def EO.fin(t n:Int)(y:EO):Out Ob:=.ite y.d (.ret (.bool true) [some (aAY y.e),some (.abs (.store t n y.st) []),aZ 3 y.s,a8 y.s]) (.ret (.bool false) [some (.abs (.ensure t n y.e) [1]),some (.abs (.store t n y.st) []),aZ 3 y.s,a8 y.s])
theorem AT(t n:Int)(e:ENS)(st:STS)(s:MS)(K:AVal→aC Ob→Prop)(ok:KO t n e st s)(hK:((enF t n e st s).fin t n).run K):cT' 154 [.ptr 0 0,.ptr 2 0] (T0 t n e st s) K:=by
 refine aHn (GW t n e st s _ ok ?_);show dJ (obI tbl) 4 K (.bool (enF t n e st s).d) _;generalize enF t n e st s=y at hK⊢;exact qC hK (fun h=>⟨⟨_,_,T4,h⟩⟩) (fun h=>⟨⟨_,_,aHr _ _ _,h⟩⟩)
noncomputable def enSA:aI Ob:=fun args h=>match args,h with
 | [.ptr 0 0,.ptr 2 0],[some (.abs (.ensure t n x) [1]),some (.abs (.store t2 n2 st) []),e3,e4]=>(match cH 3 [e3,e4]with
   | some (l,s)=>some (.pre ((l=s.xs.length∧t2=t∧n2=n)∧KO t n x st s) (EO.fin t n (enF t n x st s)))
   | none=>none)
 | _,_=>none
theorem aA6:sT' 154 enSA:=by
 intro args h o ho K hK;unfold enSA at ho;split at ho
 case h_2=>cases ho
 split at ho<;>cases ho
 rename_i hm;obtain⟨⟨⟨hl,rfl,rfl⟩,ok⟩,hK⟩:=hK;cases aY hm hl;exact AT _ _ _ _ _ K ok hK
def EO.finB(t n:Int)(y:EO):Out Ob:=.ite y.d (.ret (.bool true) [some (aAY y.e),iP 5 t n y.st,none,aZ 4 y.s,a8 y.s,iQ y.st]) (.ret (.bool false) [some (.abs (.ensure t n y.e) [1]),iP 5 t n y.st,none,aZ 4 y.s,a8 y.s,iQ y.st])
noncomputable def enSB:aI Ob:=fun args h=>match args,h with
 | [.ptr 0 0,.ptr 3 0],[some (.abs (.ensure t n x) [1]),e1,e2,e3,e4]=>(match k9 2 [e1,e2],cH 4 [e3,e4]with
   | some (l2,t2,n2,st),some (l,s)=>some (.pre ((l=s.xs.length∧l2=st.R.length∧t2=t∧n2=n)∧KO t n x st s) (EO.finB t n (enF t n x st s)))
   | _,_=>none)
 | _,_=>none
theorem aA7:sT' 154 enSB:=by
 intro args h o ho K hK;unfold enSB at ho;split at ho
 case h_2=>cases ho
 split at ho<;>cases ho
 rename_i hs hm;obtain⟨⟨⟨hl,hl2,rfl,rfl⟩,ok⟩,hK⟩:=hK;cases aY hm hl;cases b8 hs hl2;exact jG (fun ι hι=>by simp [aH.ren,aHo,AVal.ren,hι]) (fun ι hι=>by simp [aH.ren,hι]) (fun K hK=>AT _ _ _ _ _ K ok hK) K hK
noncomputable def enS2:aI Ob:=aI.or enSA enSB
theorem aA5:sT' 154 enS2:=aHA aA6 aA7
abbrev aCR(x:SWS):aH Mc:=.cells [.ptr 1 0,.O]
theorem XK{t n:Int}{x:SWS}{st:STS}{s:MS} :aF (obI tbl) 4 (.bool true) [some (.abs (.sweep t n x) [1]),some (.abs (.store t n st) []),aZ 3 s,a8 s] (.bool true) [some (aCR x),some (.abs (.store t n st) []),aZ 3 s,a8 s]:=by
 obtain⟨ph,N,m,i,ks,fs,gs,j,l⟩:=x
 match ph with
 | 0=>exact(aF.unpack (.sweep t n ⟨0,N,m,i,ks,fs,gs,j,l⟩) 0 1 (LH t n ⟨0,N,m,i,ks,fs,gs,j,l⟩) [1] rfl rfl (by kernel_rfl) rfl).trans ((aF.weak (dT _ 0 [1])).trans ((aF.pick (upto 0 4) rfl).trans (aHl (by kernel_rfl) (by kernel_rfl))))
 | 1=>exact(aF.unpack (.sweep t n ⟨1,N,m,i,ks,fs,gs,j,l⟩) 0 1 (LH t n ⟨1,N,m,i,ks,fs,gs,j,l⟩) [1] rfl rfl (by kernel_rfl) rfl).trans ((aF.weak (dT _ 0 [1])).trans ((aF.pick (upto 0 4) rfl).trans (aHl (by kernel_rfl) (by kernel_rfl))))
 | 2=>exact(aF.unpack (.sweep t n ⟨2,N,m,i,ks,fs,gs,j,l⟩) 0 1 (LH t n ⟨2,N,m,i,ks,fs,gs,j,l⟩) [1] rfl rfl (by kernel_rfl) rfl).trans ((aF.weak (dT _ 0 [1])).trans ((aF.pick (upto 0 4) rfl).trans (aHl (by kernel_rfl) (by kernel_rfl))))
 | k+3=>exact(aF.unpack (.sweep t n ⟨k+3,N,m,i,ks,fs,gs,j,l⟩) 0 1 (LH t n ⟨k+3,N,m,i,ks,fs,gs,j,l⟩) [1] rfl rfl (by kernel_rfl) rfl).trans ((aF.weak (dT _ 0 [1])).trans ((aF.pick (upto 0 4) rfl).trans (aHl (by kernel_rfl) (by kernel_rfl))))
def SO.fin(t n:Int)(y:SO):Out Ob:=.ite y.d (.ret (.bool true) [some (aCR y.e),some (.abs (.store t n y.st) []),aZ 3 y.s,a8 y.s]) (.ret (.bool false) [some (.abs (.sweep t n y.e) [1]),some (.abs (.store t n y.st) []),aZ 3 y.s,a8 y.s])
theorem CT(t n:Int)(e:SWS)(st:STS)(s:MS)(K:AVal→aC Ob→Prop)(ok:qA t n e st s)(hK:((swF t n e st s).fin t n).run K):cT' 169 [.ptr 0 0,.ptr 2 0] (swH t n e st s) K:=by
 refine aHn (XL t n e st s _ ok ?_);show dJ (obI tbl) 4 K (.bool (swF t n e st s).d) _;generalize swF t n e st s=y at hK⊢;exact qC hK (fun h=>⟨⟨_,_,XK,h⟩⟩) (fun h=>⟨⟨_,_,aHr _ _ _,h⟩⟩)
noncomputable def swSA:aI Ob:=fun args h=>match args,h with
 | [.ptr 0 0,.ptr 2 0],[some (.abs (.sweep t n x) [1]),some (.abs (.store t2 n2 st) []),e3,e4]=>(match cH 3 [e3,e4]with
   | some (l,s)=>some (.pre ((l=s.xs.length∧t2=t∧n2=n)∧qA t n x st s) (SO.fin t n (swF t n x st s)))
   | none=>none)
 | _,_=>none
theorem aCX:sT' 169 swSA:=by
 intro args h o ho K hK;unfold swSA at ho;split at ho
 case h_2=>cases ho
 split at ho<;>cases ho
 rename_i hm;obtain⟨⟨⟨hl,rfl,rfl⟩,ok⟩,hK⟩:=hK;cases aY hm hl;exact CT _ _ _ _ _ K ok hK
def SO.finB(t n:Int)(y:SO):Out Ob:=.ite y.d (.ret (.bool true) [some (aCR y.e),iP 5 t n y.st,none,aZ 4 y.s,a8 y.s,iQ y.st]) (.ret (.bool false) [some (.abs (.sweep t n y.e) [1]),iP 5 t n y.st,none,aZ 4 y.s,a8 y.s,iQ y.st])
noncomputable def swSB:aI Ob:=fun args h=>match args,h with
 | [.ptr 0 0,.ptr 3 0],[some (.abs (.sweep t n x) [1]),e1,e2,e3,e4]=>(match k9 2 [e1,e2],cH 4 [e3,e4]with
   | some (l2,t2,n2,st),some (l,s)=>some (.pre ((l=s.xs.length∧l2=st.R.length∧t2=t∧n2=n)∧qA t n x st s) (SO.finB t n (swF t n x st s)))
   | _,_=>none)
 | _,_=>none
theorem aCY:sT' 169 swSB:=by
 intro args h o ho K hK;unfold swSB at ho;split at ho
 case h_2=>cases ho
 split at ho<;>cases ho
 rename_i hs hm;obtain⟨⟨⟨hl,hl2,rfl,rfl⟩,ok⟩,hK⟩:=hK;cases aY hm hl;cases b8 hs hl2;exact jG (fun ι hι=>by simp [aH.ren,aHo,AVal.ren,hι]) (fun ι hι=>by simp [aH.ren,hι]) (fun K hK=>CT _ _ _ _ _ K ok hK) K hK
noncomputable def swSC:aI Ob:=aI.or swSA swSB
theorem aCW:sT' 169 swSC:=aHA aCX aCY
def aA1(t n:Int)(v:AVal)(g:aC Ob):Option (Prop×STS):=match v,g with
 | .ptr 2 0,[e1,e2,some (.cells [.ptr 0 0,.bool false,.raw (.pointer none),.raw (.pointer none),.bool false])]=>(match k9 1 [e1,e2]with
   | some (l2,t2,n2,st)=>some (t2=t∧n2=n∧l2=st.R.length,st)
   | none=>none)
 | _,_=>none
abbrev aA0(t n:Int)(y:STS):aC Ob:=[iP 1 t n y,iQ y,some (.abs (.ensure t n bV) [0])]
theorem T3{t n:Int} :bM (obI tbl) 2 (aA1 t n) (fun y=>.ret (.ptr 2 0) (aA0 t n y)):=by
 intro v g p x hp hq K hK;unfold aA1 at hp;split at hp
 case h_2=>cases hp
 split at hp
 case h_2=>cases hp
 rename_i l2 t2 n2 st hs;cases hp;obtain⟨rfl,rfl,hl2⟩:=hq;cases b8 hs hl2;exact ZL hK (.ensure t2 n2 bV) 2 1 (C1 t2 n2 bV) [0]
def aA2(t n:Int)(st:STS):Tr STS:=.pre (t=t∧n=n∧lE' st.3) (.ret st)
def enNS:aI Ob:=fun args h=>match args,h with
 | [.ptr 0 0],[e1,e2]=>(match k9 1 [e1,e2]with
   | some (l2,t,n,st)=>some (.pre (l2=st.R.length∧(aA2 t n st).ok) (.ret (.ptr 2 0) (aA0 t n (aA2 t n st).val)))
   | none=>none)
 | _,_=>none
theorem aA3:sT' 206 enNS:=by
 intro args h o ho K hK;unfold enNS at ho;split at ho
 case h_2=>cases ho
 split at ho<;>cases ho
 rename_i l2 t n st hs;obtain⟨⟨hl2,ok⟩,hK⟩:=hK;cases b8 hs hl2;refine aHm (root:=2) (pos:=[]) (cs:=[]) (parse:=aA1 t n) T3 ?_;exact cM' (E:=EB2) (q:=(aA2 t n st).run (fun y=>(Out.ret (.ptr 2 0) (aA0 t n y)).run K)) (by kernel_rfl) (aHe ok hK)
def aCT(t n:Int)(v:AVal)(g:aC Ob):Option (Prop×STS):=match v,g with
 | .ptr 2 0,[e1,e2,some (.cells [.ptr 0 0,.raw (.pointer none)])]=>(match k9 1 [e1,e2]with
   | some (l2,t2,n2,st)=>some (t2=t∧n2=n∧l2=st.R.length,st)
   | none=>none)
 | _,_=>none
abbrev aCS(t n:Int)(y:STS):aC Ob:=[iP 1 t n y,iQ y,some (.abs (.sweep t n cU) [0])]
theorem XG{t n:Int} :bM (obI tbl) 2 (aCT t n) (fun y=>.ret (.ptr 2 0) (aCS t n y)):=by
 intro v g p x hp hq K hK;unfold aCT at hp;split at hp
 case h_2=>cases hp
 split at hp
 case h_2=>cases hp
 rename_i l2 t2 n2 st hs;cases hp;obtain⟨rfl,rfl,hl2⟩:=hq;cases b8 hs hl2;exact ZL hK (.sweep t2 n2 cU) 2 1 (LH t2 n2 cU) [0]
def aCU(t n:Int)(st:STS):Tr STS:=.pre (t=t∧n=n∧lE' st.3) (.ret st)
def swNS:aI Ob:=fun args h=>match args,h with
 | [.ptr 0 0],[e1,e2]=>(match k9 1 [e1,e2]with
   | some (l2,t,n,st)=>some (.pre (l2=st.R.length∧(aCU t n st).ok) (.ret (.ptr 2 0) (aCS t n (aCU t n st).val)))
   | none=>none)
 | _,_=>none
theorem aCV:sT' 167 swNS:=by
 intro args h o ho K hK;unfold swNS at ho;split at ho
 case h_2=>cases ho
 split at ho<;>cases ho
 rename_i l2 t n st hs;obtain⟨⟨hl2,ok⟩,hK⟩:=hK;cases b8 hs hl2;refine aHm (root:=2) (pos:=[]) (cs:=[]) (parse:=aCT t n) XG ?_;exact cM' (E:=EB2) (q:=(aCU t n st).run (fun y=>(Out.ret (.ptr 2 0) (aCS t n y)).run K)) (by kernel_rfl) (aHe ok hK)
noncomputable def EB3:=(((EB2.addS 154 enS2 aA5).addS 169 swSC aCW).addS 206 enNS aA3).addS 167 swNS aCV
structure ClO where
 d:Bool
 x:CLS
 s:MS
instance:Inhabited ClO:=⟨⟨false,⟨0,0,0,0⟩,⟨0,0,[],0,0,0,0,0,false⟩⟩⟩
instance:Inhabited CLS:=⟨⟨0,0,0,0⟩⟩
abbrev clH(t n:Int)(x:CLS)(s:MS):aC Ob:=[some (.abs (.clear t n x) []),aZ 2 s,a8 s]
abbrev clD(t n:Int)(x:CLS)(s:MS):aC Ob:=[cE' [.I t,.I n,.I x.addr,.I x.at',.int .u64 x.word,.int .u64 x.found],aZ 2 s,a8 s]
def ClO.fin(t n:Int)(y:ClO):Out Ob:=.ite y.d (.ret (.bool true) (clD t n y.x y.s)) (.ret (.bool false) (clH t n y.x y.s))
def aAn(t n:Int)(v:AVal)(g:aC Ob):Option (Prop×ClO):=match v,g with
 | .bool d,[some (.cells [.int .i64 t1,.int .i64 n1,.int .i64 addr,.int .i64 at',.int .u64 word,.int .u64 found]),e1,e2]=>(match cH 2 [e1,e2]with
   | some (l,s)=>some ((t1=t∧n1=n)∧l=s.xs.length,⟨d,⟨addr,at',word,found⟩,s⟩)
   | none=>none)
 | _,_=>none
def RT(t n:Int)(v:AVal)(g:aC Ob):Option (Prop×ClO):=aAn t n v g
theorem SW{t n:Int} :bM (obI tbl) 3 (aAn t n) (ClO.fin t n):=by
 intro v g p x hp hq K hK;unfold aAn at hp;split at hp
 case h_2=>cases hp
 rename_i d t1 n1 addr at' word found e1 e2;split at hp
 case h_2=>cases hp
 rename_i l s hm;cases hp;obtain⟨⟨rfl,rfl⟩,hl⟩:=hq;cases aY hm hl;refine qC hK (fun h=>?_) (fun h=>?_)
 ·exact⟨⟨_,_,aHr _ _ _,h⟩⟩
 ·exact⟨⟨_,_,(aF.pack (clH t1 n1 (⟨addr,at',word,found⟩:CLS) s) (.clear t1 n1 (⟨addr,at',word,found⟩:CLS)) 0 0 (lR t1 n1 (⟨addr,at',word,found⟩:CLS)) [] (by kernel_rfl) rfl (congrArg (Prod.mk 0) rfl) (by kernel_rfl)),h⟩⟩
theorem xQ{t n:Int} :bM (obI tbl) 3 (RT t n) (ClO.fin t n):=by
 intro v g p x hp hq K hK;unfold RT at hp;exact SW v g p x hp hq K hK
def zY(t n:Int)(x:CLS)(s:MS):Tr ClO:=.pre (lE' s.3∧(0:Int)≤s.4∧s.4≤(4611686018427387904:Int)) (.pre True (.ite (ilt (aA (aD s.3 x.1) 20 5 - 1) 0) (.pre ((t=t∧n=n)∧lE' s.3) (.ret {d:=true,x:= {addr:=x.1,at':=1,word:=aD s.3 x.1,found:=x.4},s:= {s with c:=s.4+1,k:=1,a:=x.1,o:=aD s.3 x.1,w:=aD s.3 x.1,ok:=bL s.3 x.1} })) (.pre ((t=t∧n=n)∧lE' s.3) (.ret {d:=ile t (aA (aD s.3 x.1) 20 5 - 1),x:= {addr:=x.1,at':=1,word:=aD s.3 x.1,found:=x.4},s:= {s with c:=s.4+1,k:=1,a:=x.1,o:=aD s.3 x.1,w:=aD s.3 x.1,ok:=bL s.3 x.1} }))))
theorem IR(t n:Int)(x:CLS)(s:MS)(K:ClO→Prop)(h:(zY t n x s).run K):cT' 214 [.ptr 0 0,.ptr 1 0] [cE' [.I t,.I n,.I x.addr,.I 0,.int .u64 x.word,.int .u64 x.found],aZ 2 s,a8 s] (bU 3 0 [] [] (RT t n) K):=by
 exact cM' (E:=EB3) (by kernel_rfl) h
abbrev w05(x:CLS):=aA x.3 20 5 - 1
abbrev w04(n:Int)(s:MS)(t:Int)(x:CLS):Tr ClO:=.ret {d:=false,x:= {addr:=x.1,at':=3,word:=x.3,found:=aD s.3 (2*n+5+2*t+3*(w05 x)+2) },s:= {s with c:=s.4+1,k:=1,a:=2*n+5+2*t+3*(w05 x)+2,o:=aD s.3 (2*n+5+2*t+3*(w05 x)+2),w:=aD s.3 (2*n+5+2*t+3*(w05 x)+2),ok:=bL s.3 (2*n+5+2*t+3*(w05 x)+2) } }
abbrev w06(n t:Int)(x:CLS):=(((0:Int)≤t∧t≤(100000:Int))∧((0:Int)≤n∧n≤(100000:Int))∧(-1099511627776:Int)≤aA x.3 20 5 - 1∧aA x.3 20 5 - (1:Int)≤(1099511627776:Int))∧True
def zZ(t n:Int)(x:CLS)(s:MS):Tr ClO:=.pre True (.pre (w06 n t x) (.pre ((lE' s.3∧(0:Int)≤s.4∧s.4≤(4611686018427387904:Int))∧True) (.pre True (.ite (hasB [2] (aA (aD s.3 (2*n+5+2*t+3*(w05 x)+2)) 49 3)) (.ite (ieq (aA (aD s.3 (2*n+5+2*t+3*(w05 x)+2)) 12 9) x.1) (.pre True (.ite (ieq (aA (aD s.3 (2*n+5+2*t+3*(w05 x)+2)) 21 18) (aA x.3 25 18)) (.pre ((t=t∧n=n)∧lE' s.3) (.ret {d:=false,x:= {addr:=x.1,at':=2,word:=x.3,found:=aD s.3 (2*n+5+2*t+3*(w05 x)+2) },s:= {s with c:=s.4+1,k:=1,a:=2*n+5+2*t+3*(w05 x)+2,o:=aD s.3 (2*n+5+2*t+3*(w05 x)+2),w:=aD s.3 (2*n+5+2*t+3*(w05 x)+2),ok:=bL s.3 (2*n+5+2*t+3*(w05 x)+2) } })) (.pre ((t=t∧n=n)∧lE' s.3) (w04 n s t x)))) (.pre ((t=t∧n=n)∧lE' s.3) (w04 n s t x))) (.pre ((t=t∧n=n)∧lE' s.3) (w04 n s t x))))))
theorem IS(t n:Int)(x:CLS)(s:MS)(K:ClO→Prop)(h:(zZ t n x s).run K):cT' 214 [.ptr 0 0,.ptr 1 0] [cE' [.I t,.I n,.I x.addr,.I 1,.int .u64 x.word,.int .u64 x.found],aZ 2 s,a8 s] (bU 3 0 [] [] (RT t n) K):=by
 exact cM' (E:=EB3) (by kernel_rfl) h
def z6(t n:Int)(x:CLS)(s:MS):Tr ClO:=.pre True (.pre True (.pre True (.pre True (.pre (w06 n t x) (.pre ((lE' s.3∧(0:Int)≤s.4∧s.4≤(4611686018427387904:Int))∧True) (.pre ((t=t∧n=n)∧lE' (bif aT s.3 (2*n+5+2*t+3*(w05 x)+2) x.4 then aS s.3 (2*n+5+2*t+3*(w05 x)+2) (bif dOk (aA x.4 0 12) (aA x.4 12 9) (aA x.4 21 18) (aA x.4 39 9) 3 (aA x.4 52 10)then cD (aA x.4 0 12) (aA x.4 12 9) (aA x.4 21 18) (aA x.4 39 9) (ieq (aA x.4 48 1) 1) 3 (aA x.4 52 10)else 0)else s.3)) (.ret {d:=false,x:= {x with at':=3},s:= {t:=s.1,n:=s.2,xs:=bif aT s.3 (2*n+5+2*t+3*(w05 x)+2) x.4 then aS s.3 (2*n+5+2*t+3*(w05 x)+2) (bif dOk (aA x.4 0 12) (aA x.4 12 9) (aA x.4 21 18) (aA x.4 39 9) 3 (aA x.4 52 10)then cD (aA x.4 0 12) (aA x.4 12 9) (aA x.4 21 18) (aA x.4 39 9) (ieq (aA x.4 48 1) 1) 3 (aA x.4 52 10)else 0)else s.3,c:=s.4+1,k:=3,a:=2*n+5+2*t+3*(w05 x)+2,o:=aD s.3 (2*n+5+2*t+3*(w05 x)+2),w:=bif bL s.3 (2*n+5+2*t+3*(w05 x)+2)then bif dOk (aA x.4 0 12) (aA x.4 12 9) (aA x.4 21 18) (aA x.4 39 9) 3 (aA x.4 52 10)then cD (aA x.4 0 12) (aA x.4 12 9) (aA x.4 21 18) (aA x.4 39 9) (ieq (aA x.4 48 1) 1) 3 (aA x.4 52 10)else 0 else 0,ok:=aT s.3 (2*n+5+2*t+3*(w05 x)+2) x.4} })))))))
theorem IT(t n:Int)(x:CLS)(s:MS)(K:ClO→Prop)(h:(z6 t n x s).run K):cT' 214 [.ptr 0 0,.ptr 1 0] [cE' [.I t,.I n,.I x.addr,.I 2,.int .u64 x.word,.int .u64 x.found],aZ 2 s,a8 s] (bU 3 0 [] [] (RT t n) K):=by
 exact cM' (E:=EB3) (by kernel_rfl) h
abbrev w07(x:CLS):=aQ (aA x.3 25 18)
def z7(t n:Int)(x:CLS)(s:MS):Tr ClO:=.pre True (.pre ((0:Int)≤aA x.3 25 18∧aA x.3 25 (18:Int)≤(1000000:Int)) (.pre True (.pre ((lE' s.3∧(0:Int)≤s.4∧s.4≤(4611686018427387904:Int))∧True) (.pre ((t=t∧n=n)∧lE' (bif aT s.3 x.1 x.3 then aS s.3 x.1 (bif bif aK (aA x.3 0 10) 10 then bif aK (aA x.3 10 9) 9 then bif aK 0 5 then aK (w07 x) 18 else false else false else false then cF (aA x.3 0 10) (aA x.3 10 9) (ieq (aA x.3 19 1) 1) 0 (w07 x)else 0)else s.3)) (.ret {d:=true,x:= {x with at':=3},s:= {t:=s.1,n:=s.2,xs:=bif aT s.3 x.1 x.3 then aS s.3 x.1 (bif bif aK (aA x.3 0 10) 10 then bif aK (aA x.3 10 9) 9 then bif aK 0 5 then aK (w07 x) 18 else false else false else false then cF (aA x.3 0 10) (aA x.3 10 9) (ieq (aA x.3 19 1) 1) 0 (w07 x)else 0)else s.3,c:=s.4+1,k:=3,a:=x.1,o:=aD s.3 x.1,w:=bif bL s.3 x.1 then bif bif aK (aA x.3 0 10) 10 then bif aK (aA x.3 10 9) 9 then bif aK 0 5 then aK (w07 x) 18 else false else false else false then cF (aA x.3 0 10) (aA x.3 10 9) (ieq (aA x.3 19 1) 1) 0 (w07 x)else 0 else 0,ok:=aT s.3 x.1 x.3} })))))
theorem IU(t n:Int)(x:CLS)(s:MS)(K:ClO→Prop)(h:(z7 t n x s).run K):cT' 214 [.ptr 0 0,.ptr 1 0] [cE' [.I t,.I n,.I x.addr,.I 3,.int .u64 x.word,.int .u64 x.found],aZ 2 s,a8 s] (bU 3 0 [] [] (RT t n) K):=by
 exact cM' (E:=EB3) (by kernel_rfl) h
def clT(t n:Int)(x:CLS)(s:MS):Tr ClO:=
 bif ieq x.at' 0 then zY t n x s else
 bif ieq x.at' 1 then zZ t n x s else
 bif ieq x.at' 2 then z6 t n x s else
 bif ieq x.at' 3 then z7 t n x s else .pre False (.ret default)
def oC(t n:Int)(x:CLS)(s:MS):ClO:=(clT t n x s).val
def MN(t n:Int)(x:CLS)(s:MS):Prop:=(clT t n x s).ok
theorem SX(t n:Int)(x:CLS)(s:MS)(K:AVal→aC Ob→Prop)(h:(clT t n x s).run (fun y=>(ClO.fin t n y).run K)):cT' 214 [.ptr 0 0,.ptr 1 0] (clH t n x s) K:=by
 unfold clT at h
 by_cases e:x.at'=0
 ·rw [e]at h;have h:(zY t n x s).run _:=h;refine aHb (root:=0) (pos:=[]) (cs:=[]) (parse:=RT t n) (fin:=ClO.fin t n) xQ (aR.unpack (.clear t n x) 0 0 (lR t n x) [] rfl (congrArg (Prod.mk 0) rfl) (by kernel_rfl) rfl) ?_
  have q:=IR t n x s _ h;rw [←e]at q;exact q
 rw [bF e]at h
 by_cases e:x.at'=1
 ·rw [e]at h;have h:(zZ t n x s).run _:=h;refine aHb (root:=0) (pos:=[]) (cs:=[]) (parse:=RT t n) (fin:=ClO.fin t n) xQ (aR.unpack (.clear t n x) 0 0 (lR t n x) [] rfl (congrArg (Prod.mk 0) rfl) (by kernel_rfl) rfl) ?_
  have q:=IS t n x s _ h;rw [←e]at q;exact q
 rw [bF e]at h
 by_cases e:x.at'=2
 ·rw [e]at h;have h:(z6 t n x s).run _:=h;refine aHb (root:=0) (pos:=[]) (cs:=[]) (parse:=RT t n) (fin:=ClO.fin t n) xQ (aR.unpack (.clear t n x) 0 0 (lR t n x) [] rfl (congrArg (Prod.mk 0) rfl) (by kernel_rfl) rfl) ?_
  have q:=IT t n x s _ h;rw [←e]at q;exact q
 rw [bF e]at h
 by_cases e:x.at'=3
 ·rw [e]at h;have h:(z7 t n x s).run _:=h;refine aHb (root:=0) (pos:=[]) (cs:=[]) (parse:=RT t n) (fin:=ClO.fin t n) xQ (aR.unpack (.clear t n x) 0 0 (lR t n x) [] rfl (congrArg (Prod.mk 0) rfl) (by kernel_rfl) rfl) ?_
  have q:=IU t n x s _ h;rw [←e]at q;exact q
 rw [bF e]at h;exact h.1.elim
noncomputable def clS:aI Ob:=fun args h=>match args,h with
 | [.ptr 0 0,.ptr 1 0],[some (.abs (.clear t n x) []),e1,e2]=>(match cH 2 [e1,e2]with
   | some (l,s)=>some (.pre (l=s.xs.length∧MN t n x s) (ClO.fin t n (oC t n x s)))
   | none=>none)
 | _,_=>none
theorem aDK:sT' 214 clS:=by
 intro args h o ho K hK;unfold clS at ho;split at ho
 case h_2=>cases ho
 split at ho<;>cases ho
 rename_i hm;obtain⟨⟨hl,ok⟩,hK⟩:=hK;cases aY hm hl;exact SX _ _ _ _ K (aHe ok hK)
def aAk(t n:Int)(v:AVal)(g:aC Ob):Option (Prop×CLS):=match v,g with
 | .ptr 0 0,[some (.cells [.int .i64 t1,.int .i64 n1,.int .i64 addr,.int .i64 at',.int .u64 word,.int .u64 found])]=>some ((t1=t∧n1=n),(⟨addr,at',word,found⟩:CLS))
 | _,_=>none
abbrev SU(t n:Int)(y:CLS):aC Ob:=[some (.abs (.clear t n y) [])]
theorem SV{t n:Int} :bM (obI tbl) 0 (aAk t n) (fun y=>.ret (.ptr 0 0) (SU t n y)):=by
 intro v g p x hp hq K hK;unfold aAk at hp;split at hp
 case h_2=>cases hp
 rename_i t1 n1 addr at' word found;cases hp;obtain⟨rfl,rfl⟩:=hq;exact⟨⟨_,_,aF.pack (SU t1 n1 (⟨addr,at',word,found⟩:CLS)) (.clear t1 n1 (⟨addr,at',word,found⟩:CLS)) 0 0 (lR t1 n1 (⟨addr,at',word,found⟩:CLS)) [] (by kernel_rfl) rfl (congrArg (Prod.mk 0) rfl) (by kernel_rfl),hK⟩⟩
def aAl(t n:Int)(a:Int):Tr CLS:=.pre (t=t∧n=n) (.ret {addr:=a,at':=0,word:=0,found:=0})
def xO(t n:Int)(a:Int):CLS:=(aAl t n a).val
def pH(t n:Int)(a:Int):Prop:=(aAl t n a).ok
def clNS:aI Ob:=fun args h=>match args,h with
 | [.agg [.int .i64 t,.int .i64 n],.int .i64 a],[]=>some (.pre (pH t n a) (.ret (.ptr 0 0) (SU t n (xO t n a))))
 | _,_=>none
theorem aAm:sT' 258 clNS:=by
 intro args h o ho K hK;unfold clNS at ho;split at ho<;>cases ho
 rename_i t n a;obtain⟨ok,hK⟩:=hK;refine aHm (root:=0) (pos:=[]) (cs:=[]) (parse:=aAk t n) SV ?_;exact cM' (E:=EB3) (q:=(aAl t n a).run (fun y=>(Out.ret (.ptr 0 0) (SU t n y)).run K)) (by kernel_rfl) (aHe ok hK)
noncomputable def EC1:=((EB3.addS 214 clS aDK).addS 258 clNS aAm)
def cmpI(a b:Int):Int:=bif ilt a b then -1 else bif ilt b a then 1 else 0
def orI(a b:Int):Int:=bif ieq a 0 then b else a
def CJ(u n v m:Int):Int:=orI (cmpI n m) (cmpI u v)
def MP:bE Ob:=fun args h=>match args,h with
 | [.int .i64 a,.int .i64 b],[]=>some (True,.I (cmpI a b))
 | _,_=>none
theorem SY:sT' 280 MP.spec:=by
 intro args h o ho K hK;unfold bE.spec MP at ho;split at ho
 case h_2=>cases ho
 rename_i p v hp;split at hp
 case h_2=>cases hp
 rename_i a b;cases hp;simp only [sI']at ho;subst ho;obtain⟨hp,hK⟩:=hK;have hK:K (.I (cmpI a b)) []:=hK;refine aHa (cM' (E:=EC1) (q:=bif !ieq a a then bif !ieq b b then K (.I 0) []else K (.I (-1:Int)) []else bif !ieq b b then K (.I 1) []else bif ilt a b then K (.I (-1:Int)) []else bif ilt b a then K (.I 1) []else K (.I 0) []) (by kernel_rfl) ?_)
 unfold cmpI at hK;rw [pV,pV];cases h:ilt a b with
 | true=>rw [h]at hK;exact hK
 | false=>cases h2:ilt b a<;>(rw [h,h2]at hK;exact hK)
def MR:bE Ob:=fun args h=>match args,h with
 | [.int .u64 a,.int .u64 b],[]=>some (True,.I (cmpI a b))
 | _,_=>none
theorem S0:sT' 279 MR.spec:=by
 intro args h o ho K hK;unfold bE.spec MR at ho;split at ho
 case h_2=>cases ho
 rename_i p v hp;split at hp
 case h_2=>cases hp
 rename_i a b;cases hp;simp only [sI']at ho;subst ho;obtain⟨hp,hK⟩:=hK;have hK:K (.I (cmpI a b)) []:=hK;refine aHa (cM' (E:=EC1) (q:=bif !ieq a a then bif !ieq b b then K (.I 0) []else K (.I (-1:Int)) []else bif !ieq b b then K (.I 1) []else bif ilt a b then K (.I (-1:Int)) []else bif ilt b a then K (.I 1) []else K (.I 0) []) (by kernel_rfl) ?_)
 unfold cmpI at hK;rw [pV,pV];cases h:ilt a b with
 | true=>rw [h]at hK;exact hK
 | false=>cases h2:ilt b a<;>(rw [h,h2]at hK;exact hK)
def MQ:bE Ob:=fun args h=>match args,h with
 | [.slice 0 0 2 1],[some (.cells [.int .i64 a,.int .i64 b])]=>some (True,.I (orI a b))
 | _,_=>none
theorem SZ:sT' 278 MQ.spec:=by
 intro args h o ho K hK;unfold bE.spec MQ at ho;split at ho
 case h_2=>cases ho
 rename_i p v hp;split at hp
 case h_2=>cases hp
 rename_i a b;cases hp;simp only [sI']at ho;subst ho;obtain⟨hp,hK⟩:=hK;have hK:K (.I (orI a b)) [cE' [.I a,.I b]]:=hK;refine aHa (cM' (E:=EC1) (q:=((0:Int)≤(0:Int)∧(0:Int)<(↑2:Int))∧bif !ieq a 0 then K (.I a) [cE' [.I a,.I b]]else((0:Int)≤W (0+1)∧W (0+1)<(↑2:Int))∧bif !ieq b 0 then K (.I b) [cE' [.I a,.I b]]else K (.I 0) [cE' [.I a,.I b]]) (by kernel_rfl) ?_)
 unfold orI at hK;have e1:W (0+1)=1:=by decide
 simp only [W]at e1;simp only [W,e1];refine⟨by omega,?_⟩
 cases h:ieq a 0 with
 | false=>rw [h]at hK;exact hK
 | true=>
   rw [h]at hK;refine⟨by omega,?_⟩
   cases h2:ieq b 0 with
   | false=>exact hK
   | true=>
     have:b=0:=by rw [cV]at h2;simpa using h2
     subst this;exact hK
noncomputable def EQ1:=((EC1.addR 280 MP SY).addR 279 MR S0).addR 278 MQ SZ
def P7:bE Ob:=fun args h=>match args,h with
 | [.agg [.int .i64 u,.int .u64 n],.agg [.int .i64 v,.int .u64 m]],[]=>some (True,.I (CJ u n v m))
 | _,_=>none
theorem W2:sT' 244 P7.spec:=by
 intro args h o ho K hK;unfold bE.spec P7 at ho;split at ho
 case h_2=>cases ho
 rename_i p v hp;split at hp
 case h_2=>cases hp
 rename_i u n v m;cases hp;simp only [sI']at ho;subst ho;obtain⟨hp,hK⟩:=hK;have hK:K (.I (CJ u n v m)) []:=hK;refine aHa (cM' (E:=EQ1) (q:=True∧True∧True∧K (.I (orI (cmpI n m) (cmpI u v))) []) (by kernel_rfl) ?_)
 exact⟨trivial,trivial,trivial,hK⟩
noncomputable def EQ2:=EQ1.addR 244 P7 W2
def yM(u n v m:Int):Bool:=!ile 0 (CJ u n v m)
def FU:bE Ob:=fun args h=>match args,h with
 | [.slice 0 0 2 2],[some (.cells [.int .i64 u,.int .u64 n,.int .i64 v,.int .u64 m])]=>some (True,.bool (yM u n v m))
 | _,_=>none
theorem P8:sT' 195 FU.spec:=by
 intro args h o ho K hK;unfold bE.spec FU at ho;split at ho
 case h_2=>cases ho
 rename_i p v hp;split at hp
 case h_2=>cases hp
 rename_i u n v m;cases hp;simp only [sI']at ho;subst ho;obtain⟨hp,hK⟩:=hK;have hK:K (.bool (yM u n v m)) [cE' [.I u,.int .u64 n,.I v,.int .u64 m]]:=hK;refine aHa (cM' (E:=EQ2) (q:=((0:Int)≤W (1 - 1)∧W (1 - 1)<(↑2:Int))∧((0:Int)≤(1:Int)∧(1:Int)<(↑2:Int))∧True∧bif ile 0 (CJ u n v m)then K (.bool false) [cE' [.I u,.int .u64 n,.I v,.int .u64 m]]else K (.bool true) [cE' [.I u,.int .u64 n,.I v,.int .u64 m]]) (by kernel_rfl) ?_)
 have e1:W (1 - 1)=0:=by decide
 simp only [W]at e1;simp only [W,e1];refine⟨by omega,by omega,trivial,?_⟩
 unfold yM at hK;cases h:ile 0 (CJ u n v m)<;>(rw [h]at hK;exact hK)
noncomputable def EQ:=EQ2.addR 195 FU P8
structure HdO where
 d:Bool
 x:HDS
 s:MS
instance:Inhabited HdO:=⟨⟨false,⟨0,0,0,false⟩,⟨0,0,[],0,0,0,0,0,false⟩⟩⟩
instance:Inhabited HDS:=⟨⟨0,0,0,false⟩⟩
abbrev hdH(t n:Int)(x:HDS)(s:MS):aC Ob:=[some (.abs (.head t n x) []),aZ 2 s,a8 s]
abbrev hdD(t n:Int)(x:HDS)(s:MS):aC Ob:=[cE' [.I t,.I n,.I x.u,.int .u64 x.no,.I x.at',.bool x.tk],aZ 2 s,a8 s]
def HdO.fin(t n:Int)(y:HdO):Out Ob:=.ite y.d (.ret (.bool true) (hdD t n y.x y.s)) (.ret (.bool false) (hdH t n y.x y.s))
def aBV(t n:Int)(v:AVal)(g:aC Ob):Option (Prop×HdO):=match v,g with
 | .bool d,[some (.cells [.int .i64 t1,.int .i64 n1,.int .i64 u,.int .u64 no,.int .i64 at',.bool tk]),e1,e2]=>(match cH 2 [e1,e2]with
   | some (l,s)=>some ((t1=t∧n1=n)∧l=s.xs.length,⟨d,⟨u,no,at',tk⟩,s⟩)
   | none=>none)
 | _,_=>none
def hdP(t n:Int)(v:AVal)(g:aC Ob):Option (Prop×HdO):=aBV t n v g
theorem VD{t n:Int} :bM (obI tbl) 3 (aBV t n) (HdO.fin t n):=by
 intro v g p x hp hq K hK;unfold aBV at hp;split at hp
 case h_2=>cases hp
 rename_i d t1 n1 u no at' tk e1 e2;split at hp
 case h_2=>cases hp
 rename_i l s hm;cases hp;obtain⟨⟨rfl,rfl⟩,hl⟩:=hq;cases aY hm hl;refine qC hK (fun h=>?_) (fun h=>?_)
 ·exact⟨⟨_,_,aHr _ _ _,h⟩⟩
 ·exact⟨⟨_,_,(aF.pack (hdH t1 n1 (⟨u,no,at',tk⟩:HDS) s) (.head t1 n1 (⟨u,no,at',tk⟩:HDS)) 0 0 (x9 t1 n1 (⟨u,no,at',tk⟩:HDS)) [] (by kernel_rfl) rfl (congrArg (Prod.mk 0) rfl) (by kernel_rfl)),h⟩⟩
theorem aBW{t n:Int} :bM (obI tbl) 3 (hdP t n) (HdO.fin t n):=by
 intro v g p x hp hq K hK;unfold hdP at hp;exact VD v g p x hp hq K hK
abbrev w08(n:Int)(s:MS)(t:Int)(x:HDS):Tr HdO:=.ret {d:=ile t (W (x.3+1)),x:= {u:=x.3,no:=aD s.3 (2*n+5+2*t+3*x.3),at':=W (x.3+1),tk:=false},s:= {s with c:=s.4+1,k:=1,a:=2*n+5+2*t+3*x.3,o:=aD s.3 (2*n+5+2*t+3*x.3),w:=aD s.3 (2*n+5+2*t+3*x.3),ok:=bL s.3 (2*n+5+2*t+3*x.3) } }
abbrev w09(n t:Int)(x:HDS):=(((0:Int)≤t∧t≤(100000:Int))∧((0:Int)≤n∧n≤(100000:Int))∧(-1099511627776:Int)≤x.3∧x.3≤(1099511627776:Int))∧True
def VF(t n:Int)(x:HDS)(s:MS):Tr HdO:=.ite (!x.4) (.pre (w09 n t x) (.pre ((lE' s.3∧(0:Int)≤s.4∧s.4≤(4611686018427387904:Int))∧True) (.pre True (.pre True (.ite (!m8 (aA (aD s.3 (2*n+5+2*t+3*x.3+2)) 49 3)) (.pre ((t=t∧n=n)∧lE' s.3) (.ret {d:=ile t (W (x.3+1)),x:= {u:=x.1,no:=x.2,at':=W (x.3+1),tk:=false},s:= {s with c:=s.4+1,k:=1,a:=2*n+5+2*t+3*x.3+2,o:=aD s.3 (2*n+5+2*t+3*x.3+2),w:=aD s.3 (2*n+5+2*t+3*x.3+2),ok:=bL s.3 (2*n+5+2*t+3*x.3+2) } })) (.pre ((t=t∧n=n)∧lE' s.3) (.ret {d:=false,x:= {x with tk:=m8 (aA (aD s.3 (2*n+5+2*t+3*x.3+2)) 49 3) },s:= {s with c:=s.4+1,k:=1,a:=2*n+5+2*t+3*x.3+2,o:=aD s.3 (2*n+5+2*t+3*x.3+2),w:=aD s.3 (2*n+5+2*t+3*x.3+2),ok:=bL s.3 (2*n+5+2*t+3*x.3+2) } }))))))) (.pre (w09 n t x) (.pre ((lE' s.3∧(0:Int)≤s.4∧s.4≤(4611686018427387904:Int))∧True) (.ite (ilt x.1 0) (.pre ((t=t∧n=n)∧lE' s.3) (w08 n s t x)) (.pre True (.ite (yM x.3 (aD s.3 (2*n+5+2*t+3*x.3)) x.1 x.2) (.pre ((t=t∧n=n)∧lE' s.3) (w08 n s t x)) (.pre ((t=t∧n=n)∧lE' s.3) (.ret {d:=ile t (W (x.3+1)),x:= {u:=x.1,no:=x.2,at':=W (x.3+1),tk:=false},s:= {s with c:=s.4+1,k:=1,a:=2*n+5+2*t+3*x.3,o:=aD s.3 (2*n+5+2*t+3*x.3),w:=aD s.3 (2*n+5+2*t+3*x.3),ok:=bL s.3 (2*n+5+2*t+3*x.3) } })))))))
theorem OX(t n:Int)(x:HDS)(s:MS)(K:HdO→Prop)(h:(VF t n x s).run K):cT' 150 [.ptr 0 0,.ptr 1 0] [cE' [.I t,.I n,.I x.u,.int .u64 x.no,.I x.at',.bool x.tk],aZ 2 s,a8 s] (bU 3 0 [] [] (hdP t n) K):=by
 exact cM' (E:=EQ) (by kernel_rfl) h
def hdT(t n:Int)(x:HDS)(s:MS):Tr HdO:=VF t n x s
def pD(t n:Int)(x:HDS)(s:MS):HdO:=(hdT t n x s).val
def aBU(t n:Int)(x:HDS)(s:MS):Prop:=(hdT t n x s).ok
theorem VG(t n:Int)(x:HDS)(s:MS)(K:AVal→aC Ob→Prop)(h:(hdT t n x s).run (fun y=>(HdO.fin t n y).run K)):cT' 150 [.ptr 0 0,.ptr 1 0] (hdH t n x s) K:=by
 unfold hdT at h;exact aHb (root:=0) (pos:=[]) (cs:=[]) (parse:=hdP t n) (fin:=HdO.fin t n) aBW (aR.unpack (.head t n x) 0 0 (x9 t n x) [] rfl (congrArg (Prod.mk 0) rfl) (by kernel_rfl) rfl) (OX t n x s _ h)
noncomputable def hdS:aI Ob:=fun args h=>match args,h with
 | [.ptr 0 0,.ptr 1 0],[some (.abs (.head t n x) []),e1,e2]=>(match cH 2 [e1,e2]with
   | some (l,s)=>some (.pre (l=s.xs.length∧aBU t n x s) (HdO.fin t n (pD t n x s)))
   | none=>none)
 | _,_=>none
theorem aEG:sT' 150 hdS:=by
 intro args h o ho K hK;unfold hdS at ho;split at ho
 case h_2=>cases ho
 split at ho<;>cases ho
 rename_i hm;obtain⟨⟨hl,ok⟩,hK⟩:=hK;cases aY hm hl;exact VG _ _ _ _ K (aHe ok hK)
def aBR(t n:Int)(v:AVal)(g:aC Ob):Option (Prop×HDS):=match v,g with
 | .ptr 0 0,[some (.cells [.int .i64 t1,.int .i64 n1,.int .i64 u,.int .u64 no,.int .i64 at',.bool tk])]=>some ((t1=t∧n1=n),(⟨u,no,at',tk⟩:HDS))
 | _,_=>none
abbrev VA(t n:Int)(y:HDS):aC Ob:=[some (.abs (.head t n y) [])]
theorem VB{t n:Int} :bM (obI tbl) 0 (aBR t n) (fun y=>.ret (.ptr 0 0) (VA t n y)):=by
 intro v g p x hp hq K hK;unfold aBR at hp;split at hp
 case h_2=>cases hp
 rename_i t1 n1 u no at' tk;cases hp;obtain⟨rfl,rfl⟩:=hq;exact⟨⟨_,_,aF.pack (VA t1 n1 (⟨u,no,at',tk⟩:HDS)) (.head t1 n1 (⟨u,no,at',tk⟩:HDS)) 0 0 (x9 t1 n1 (⟨u,no,at',tk⟩:HDS)) [] (by kernel_rfl) rfl (congrArg (Prod.mk 0) rfl) (by kernel_rfl),hK⟩⟩
def aBS(t n:Int):Tr HDS:=.pre (t=t∧n=n) (.ret {u:= -1,no:=0,at':=0,tk:=false})
def aBQ(t n:Int):HDS:=(aBS t n).val
def OW(t n:Int):Prop:=(aBS t n).ok
def hdNS:aI Ob:=fun args h=>match args,h with
 | [.agg [.int .i64 t,.int .i64 n]],[]=>some (.pre (OW t n) (.ret (.ptr 0 0) (VA t n (aBQ t n))))
 | _,_=>none
theorem aBT:sT' 128 hdNS:=by
 intro args h o ho K hK;unfold hdNS at ho;split at ho<;>cases ho
 rename_i t n;obtain⟨ok,hK⟩:=hK;refine aHm (root:=0) (pos:=[]) (cs:=[]) (parse:=aBR t n) VB ?_;exact cM' (E:=EQ) (q:=(aBS t n).run (fun y=>(Out.ret (.ptr 0 0) (VA t n y)).run K)) (by kernel_rfl) (aHe ok hK)
noncomputable def EC2:=((EQ.addS 150 hdS aEG).addS 128 hdNS aBT)
structure DrO where
 d:Bool
 x:DRS
 s:MS
instance:Inhabited DrO:=⟨⟨false,⟨0,0⟩,⟨0,0,[],0,0,0,0,0,false⟩⟩⟩
instance:Inhabited DRS:=⟨⟨0,0⟩⟩
abbrev drH(t n:Int)(x:DRS)(s:MS):aC Ob:=[some (.abs (.drop t n x) []),aZ 2 s,a8 s]
abbrev drD(t n:Int)(x:DRS)(s:MS):aC Ob:=[cE' [.I t,.I n,.I x.th,.I x.at'],aZ 2 s,a8 s]
def DrO.fin(t n:Int)(y:DrO):Out Ob:=.ite y.d (.ret (.bool true) (drD t n y.x y.s)) (.ret (.bool false) (drH t n y.x y.s))
def aAN(t n:Int)(v:AVal)(g:aC Ob):Option (Prop×DrO):=match v,g with
 | .bool d,[some (.cells [.int .i64 t1,.int .i64 n1,.int .i64 th,.int .i64 at']),e1,e2]=>(match cH 2 [e1,e2]with
   | some (l,s)=>some ((t1=t∧n1=n)∧l=s.xs.length,⟨d,⟨th,at'⟩,s⟩)
   | none=>none)
 | _,_=>none
def drP(t n:Int)(v:AVal)(g:aC Ob):Option (Prop×DrO):=aAN t n v g
theorem TQ{t n:Int} :bM (obI tbl) 3 (aAN t n) (DrO.fin t n):=by
 intro v g p x hp hq K hK;unfold aAN at hp;split at hp
 case h_2=>cases hp
 rename_i d t1 n1 th at' e1 e2;split at hp
 case h_2=>cases hp
 rename_i l s hm;cases hp;obtain⟨⟨rfl,rfl⟩,hl⟩:=hq;cases aY hm hl;refine qC hK (fun h=>?_) (fun h=>?_)
 ·exact⟨⟨_,_,aHr _ _ _,h⟩⟩
 ·exact⟨⟨_,_,(aF.pack (drH t1 n1 (⟨th,at'⟩:DRS) s) (.drop t1 n1 (⟨th,at'⟩:DRS)) 0 0 (xV t1 n1 (⟨th,at'⟩:DRS)) [] (by kernel_rfl) rfl (congrArg (Prod.mk 0) rfl) (by kernel_rfl)),h⟩⟩
theorem aAO{t n:Int} :bM (obI tbl) 3 (drP t n) (DrO.fin t n):=by
 intro v g p x hp hq K hK;unfold drP at hp;exact TQ v g p x hp hq K hK
def TR(t n:Int)(x:DRS)(s:MS):Tr DrO:=.pre ((((0:Int)≤t∧t≤(100000:Int))∧((0:Int)≤n∧n≤(100000:Int))∧((-1099511627776:Int)≤x.1∧x.1≤(1099511627776:Int))∧(-1099511627776:Int)≤x.2∧x.2≤(1099511627776:Int))∧True) (.pre ((lE' s.3∧(0:Int)≤s.4∧s.4≤(4611686018427387904:Int))∧True) (.pre ((t=t∧n=n)∧lE' (aS s.3 (2*n+5+2*x.1+x.2) 0)) (.ret {d:=ile 2 (W (x.2+1)),x:= {th:=x.1,at':=W (x.2+1) },s:= {t:=s.1,n:=s.2,xs:=aS s.3 (2*n+5+2*x.1+x.2) 0,c:=s.4+1,k:=2,a:=2*n+5+2*x.1+x.2,o:=aD s.3 (2*n+5+2*x.1+x.2),w:=bif bL s.3 (2*n+5+2*x.1+x.2)then 0 else 0,ok:=bL s.3 (2*n+5+2*x.1+x.2) } })))
theorem ND(t n:Int)(x:DRS)(s:MS)(K:DrO→Prop)(h:(TR t n x s).run K):cT' 166 [.ptr 0 0,.ptr 1 0] [cE' [.I t,.I n,.I x.th,.I x.at'],aZ 2 s,a8 s] (bU 3 0 [] [] (drP t n) K):=by
 exact cM' (E:=EC2) (by kernel_rfl) h
def drT(t n:Int)(x:DRS)(s:MS):Tr DrO:=TR t n x s
def RU(t n:Int)(x:DRS)(s:MS):DrO:=(drT t n x s).val
def aAM(t n:Int)(x:DRS)(s:MS):Prop:=(drT t n x s).ok
theorem TT(t n:Int)(x:DRS)(s:MS)(K:AVal→aC Ob→Prop)(h:(drT t n x s).run (fun y=>(DrO.fin t n y).run K)):cT' 166 [.ptr 0 0,.ptr 1 0] (drH t n x s) K:=by
 unfold drT at h;exact aHb (root:=0) (pos:=[]) (cs:=[]) (parse:=drP t n) (fin:=DrO.fin t n) aAO (aR.unpack (.drop t n x) 0 0 (xV t n x) [] rfl (congrArg (Prod.mk 0) rfl) (by kernel_rfl) rfl) (ND t n x s _ h)
noncomputable def drS:aI Ob:=fun args h=>match args,h with
 | [.ptr 0 0,.ptr 1 0],[some (.abs (.drop t n x) []),e1,e2]=>(match cH 2 [e1,e2]with
   | some (l,s)=>some (.pre (l=s.xs.length∧aAM t n x s) (DrO.fin t n (RU t n x s)))
   | none=>none)
 | _,_=>none
theorem aDQ:sT' 166 drS:=by
 intro args h o ho K hK;unfold drS at ho;split at ho
 case h_2=>cases ho
 split at ho<;>cases ho
 rename_i hm;obtain⟨⟨hl,ok⟩,hK⟩:=hK;cases aY hm hl;exact TT _ _ _ _ K (aHe ok hK)
def aAJ(t n:Int)(v:AVal)(g:aC Ob):Option (Prop×DRS):=match v,g with
 | .ptr 0 0,[some (.cells [.int .i64 t1,.int .i64 n1,.int .i64 th,.int .i64 at'])]=>some ((t1=t∧n1=n),(⟨th,at'⟩:DRS))
 | _,_=>none
abbrev TN(t n:Int)(y:DRS):aC Ob:=[some (.abs (.drop t n y) [])]
theorem TO{t n:Int} :bM (obI tbl) 0 (aAJ t n) (fun y=>.ret (.ptr 0 0) (TN t n y)):=by
 intro v g p x hp hq K hK;unfold aAJ at hp;split at hp
 case h_2=>cases hp
 rename_i t1 n1 th at';cases hp;obtain⟨rfl,rfl⟩:=hq;exact⟨⟨_,_,aF.pack (TN t1 n1 (⟨th,at'⟩:DRS)) (.drop t1 n1 (⟨th,at'⟩:DRS)) 0 0 (xV t1 n1 (⟨th,at'⟩:DRS)) [] (by kernel_rfl) rfl (congrArg (Prod.mk 0) rfl) (by kernel_rfl),hK⟩⟩
def aAK(t n:Int)(u:Int):Tr DRS:=.pre (t=t∧n=n) (.ret {th:=u,at':=0})
def AN(t n:Int)(u:Int):DRS:=(aAK t n u).val
def rT(t n:Int)(u:Int):Prop:=(aAK t n u).ok
def drNS:aI Ob:=fun args h=>match args,h with
 | [.agg [.int .i64 t,.int .i64 n],.int .i64 u],[]=>some (.pre (rT t n u) (.ret (.ptr 0 0) (TN t n (AN t n u))))
 | _,_=>none
theorem aAL:sT' 233 drNS:=by
 intro args h o ho K hK;unfold drNS at ho;split at ho<;>cases ho
 rename_i t n u;obtain⟨ok,hK⟩:=hK;refine aHm (root:=0) (pos:=[]) (cs:=[]) (parse:=aAJ t n) TO ?_;exact cM' (E:=EC2) (q:=(aAK t n u).run (fun y=>(Out.ret (.ptr 0 0) (TN t n y)).run K)) (by kernel_rfl) (aHe ok hK)
noncomputable def EC3:=((EC2.addS 166 drS aDQ).addS 233 drNS aAL)
structure AnO where
 d:Bool
 x:ANS
 s:MS
instance:Inhabited AnO:=⟨⟨false,⟨0,0,0,0,false,0⟩,⟨0,0,[],0,0,0,0,0,false⟩⟩⟩
instance:Inhabited ANS:=⟨⟨0,0,0,0,false,0⟩⟩
abbrev anH(t n:Int)(x:ANS)(s:MS):aC Ob:=[some (.abs (.announce t n x) []),aZ 2 s,a8 s]
abbrev anD(t n:Int)(x:ANS)(s:MS):aC Ob:=[cE' [.I t,.I n,.int .u64 x.no,.I x.me,.I x.at',.int .u64 x.bits,.bool x.wrong,.int .u64 x.found],aZ 2 s,a8 s]
def AnO.fin(t n:Int)(y:AnO):Out Ob:=.ite y.d (.ret (.bool true) (anD t n y.x y.s)) (.ret (.bool false) (anH t n y.x y.s))
def Z3(t n:Int)(v:AVal)(g:aC Ob):Option (Prop×AnO):=match v,g with
 | .bool d,[some (.cells [.int .i64 t1,.int .i64 n1,.int .u64 no,.int .i64 me,.int .i64 at',.int .u64 bits,.bool wrong,.int .u64 found]),e1,e2]=>(match cH 2 [e1,e2]with
   | some (l,s)=>some ((t1=t∧n1=n)∧l=s.xs.length,⟨d,⟨no,me,at',bits,wrong,found⟩,s⟩)
   | none=>none)
 | _,_=>none
def LV(t n:Int)(v:AVal)(g:aC Ob):Option (Prop×AnO):=Z3 t n v g
theorem SG{t n:Int} :bM (obI tbl) 3 (Z3 t n) (AnO.fin t n):=by
 intro v g p x hp hq K hK;unfold Z3 at hp;split at hp
 case h_2=>cases hp
 rename_i d t1 n1 no me at' bits wrong found e1 e2;split at hp
 case h_2=>cases hp
 rename_i l s hm;cases hp;obtain⟨⟨rfl,rfl⟩,hl⟩:=hq;cases aY hm hl;refine qC hK (fun h=>?_) (fun h=>?_)
 ·exact⟨⟨_,_,aHr _ _ _,h⟩⟩
 ·exact⟨⟨_,_,(aF.pack (anH t1 n1 (⟨no,me,at',bits,wrong,found⟩:ANS) s) (.announce t1 n1 (⟨no,me,at',bits,wrong,found⟩:ANS)) 0 0 (eG t1 n1 (⟨no,me,at',bits,wrong,found⟩:ANS)) [] (by kernel_rfl) rfl (congrArg (Prod.mk 0) rfl) (by kernel_rfl)),h⟩⟩
theorem tM{t n:Int} :bM (obI tbl) 3 (LV t n) (AnO.fin t n):=by
 intro v g p x hp hq K hK;unfold LV at hp;exact SG v g p x hp hq K hK
abbrev w0a(n t:Int)(x:ANS):=(((0:Int)≤t∧t≤(100000:Int))∧((0:Int)≤n∧n≤(100000:Int))∧(-1099511627776:Int)≤x.2∧x.2≤(1099511627776:Int))∧True
def zL(t n:Int)(x:ANS)(s:MS):Tr AnO:=.ite x.5 (.pre (lE' s.3∧(0:Int)≤s.4∧s.4≤(4611686018427387904:Int)) (.pre ((t=t∧n=n)∧lE' s.3) (.ret {d:=true,x:= {x with at':=0},s:= {s with c:=s.4+1,k:=1,a:=0,o:=aD s.3 0,w:=aD s.3 0,ok:=bL s.3 0} }))) (.pre (w0a n t x) (.pre ((lE' s.3∧(0:Int)≤s.4∧s.4≤(4611686018427387904:Int))∧True) (.pre ((t=t∧n=n)∧lE' (aS s.3 (2*n+5+2*t+3*x.2+1) x.4)) (.ret {d:=false,x:= {x with at':=W (0+1)},s:= {t:=s.1,n:=s.2,xs:=aS s.3 (2*n+5+2*t+3*x.2+1) x.4,c:=s.4+1,k:=2,a:=2*n+5+2*t+3*x.2+1,o:=aD s.3 (2*n+5+2*t+3*x.2+1),w:=bif bL s.3 (2*n+5+2*t+3*x.2+1)then x.4 else 0,ok:=bL s.3 (2*n+5+2*t+3*x.2+1) } }))))
theorem IH(t n:Int)(x:ANS)(s:MS)(K:AnO→Prop)(h:(zL t n x s).run K):cT' 158 [.ptr 0 0,.ptr 1 0] [cE' [.I t,.I n,.int .u64 x.no,.I x.me,.I 0,.int .u64 x.bits,.bool x.wrong,.int .u64 x.found],aZ 2 s,a8 s] (bU 3 0 [] [] (LV t n) K):=by
 exact cM' (E:=EC3) (by kernel_rfl) h
def zM(t n:Int)(x:ANS)(s:MS):Tr AnO:=.ite x.5 (.pre (lE' s.3∧(0:Int)≤s.4∧s.4≤(4611686018427387904:Int)) (.pre ((t=t∧n=n)∧lE' s.3) (.ret {d:=true,x:= {x with at':=1},s:= {s with c:=s.4+1,k:=1,a:=0,o:=aD s.3 0,w:=aD s.3 0,ok:=bL s.3 0} }))) (.pre (((0:Int)≤t∧t≤(100000:Int))∧(0:Int)≤n∧n≤(100000:Int)) (.pre (lE' s.3∧(0:Int)≤s.4∧s.4≤(4611686018427387904:Int)) (.pre ((t=t∧n=n)∧lE' (aS s.3 (2*n+5+2*t+3*t) (WU (aD s.3 (2*n+5+2*t+3*t)+1)))) (.ret {d:=false,x:= {x with no:=WU (aD s.3 (2*n+5+2*t+3*t)+1),at':=W (1+1)},s:= {t:=s.1,n:=s.2,xs:=aS s.3 (2*n+5+2*t+3*t) (WU (aD s.3 (2*n+5+2*t+3*t)+1)),c:=s.4+1,k:=4,a:=2*n+5+2*t+3*t,o:=aD s.3 (2*n+5+2*t+3*t),w:=bif bL s.3 (2*n+5+2*t+3*t)then WU (aD s.3 (2*n+5+2*t+3*t)+1)else 0,ok:=bL s.3 (2*n+5+2*t+3*t) } }))))
theorem II(t n:Int)(x:ANS)(s:MS)(K:AnO→Prop)(h:(zM t n x s).run K):cT' 158 [.ptr 0 0,.ptr 1 0] [cE' [.I t,.I n,.int .u64 x.no,.I x.me,.I 1,.int .u64 x.bits,.bool x.wrong,.int .u64 x.found],aZ 2 s,a8 s] (bU 3 0 [] [] (LV t n) K):=by
 exact cM' (E:=EC3) (by kernel_rfl) h
def zN(t n:Int)(x:ANS)(s:MS):Tr AnO:=.ite x.5 (.pre (lE' s.3∧(0:Int)≤s.4∧s.4≤(4611686018427387904:Int)) (.pre ((t=t∧n=n)∧lE' s.3) (.ret {d:=true,x:= {x with at':=2},s:= {s with c:=s.4+1,k:=1,a:=0,o:=aD s.3 0,w:=aD s.3 0,ok:=bL s.3 0} }))) (.pre (w0a n t x) (.pre ((lE' s.3∧(0:Int)≤s.4∧s.4≤(4611686018427387904:Int))∧True) (.pre ((t=t∧n=n)∧lE' (aS s.3 (2*n+5+2*t+3*x.2) x.1)) (.ret {d:=false,x:= {x with at':=W (2+1)},s:= {t:=s.1,n:=s.2,xs:=aS s.3 (2*n+5+2*t+3*x.2) x.1,c:=s.4+1,k:=2,a:=2*n+5+2*t+3*x.2,o:=aD s.3 (2*n+5+2*t+3*x.2),w:=bif bL s.3 (2*n+5+2*t+3*x.2)then x.1 else 0,ok:=bL s.3 (2*n+5+2*t+3*x.2) } }))))
theorem IJ(t n:Int)(x:ANS)(s:MS)(K:AnO→Prop)(h:(zN t n x s).run K):cT' 158 [.ptr 0 0,.ptr 1 0] [cE' [.I t,.I n,.int .u64 x.no,.I x.me,.I 2,.int .u64 x.bits,.bool x.wrong,.int .u64 x.found],aZ 2 s,a8 s] (bU 3 0 [] [] (LV t n) K):=by
 exact cM' (E:=EC3) (by kernel_rfl) h
def zO(t n:Int)(x:ANS)(s:MS):Tr AnO:=.ite x.5 (.pre (lE' s.3∧(0:Int)≤s.4∧s.4≤(4611686018427387904:Int)) (.pre ((t=t∧n=n)∧lE' s.3) (.ret {d:=true,x:= {x with at':=3},s:= {s with c:=s.4+1,k:=1,a:=0,o:=aD s.3 0,w:=aD s.3 0,ok:=bL s.3 0} }))) (.pre (w0a n t x) (.pre ((lE' s.3∧(0:Int)≤s.4∧s.4≤(4611686018427387904:Int))∧True) (.pre ((t=t∧n=n)∧lE' s.3) (.ret {d:=false,x:= {x with at':=W (3+1),found:=aD s.3 (2*n+5+2*t+3*x.2+2) },s:= {s with c:=s.4+1,k:=1,a:=2*n+5+2*t+3*x.2+2,o:=aD s.3 (2*n+5+2*t+3*x.2+2),w:=aD s.3 (2*n+5+2*t+3*x.2+2),ok:=bL s.3 (2*n+5+2*t+3*x.2+2) } }))))
theorem IK(t n:Int)(x:ANS)(s:MS)(K:AnO→Prop)(h:(zO t n x s).run K):cT' 158 [.ptr 0 0,.ptr 1 0] [cE' [.I t,.I n,.int .u64 x.no,.I x.me,.I 3,.int .u64 x.bits,.bool x.wrong,.int .u64 x.found],aZ 2 s,a8 s] (bU 3 0 [] [] (LV t n) K):=by
 exact cM' (E:=EC3) (by kernel_rfl) h
abbrev w0b(x:ANS):=eH (aA x.6 0 12)
def zP(t n:Int)(x:ANS)(s:MS):Tr AnO:=.ite x.5 (.pre (lE' s.3∧(0:Int)≤s.4∧s.4≤(4611686018427387904:Int)) (.pre ((t=t∧n=n)∧lE' s.3) (.ret {d:=true,x:= {x with at':=4},s:= {s with c:=s.4+1,k:=1,a:=0,o:=aD s.3 0,w:=aD s.3 0,ok:=bL s.3 0} }))) (.pre True (.pre ((0:Int)≤aA x.6 0 12∧aA x.6 0 (12:Int)≤(1000000:Int)) (.pre True (.pre (w0a n t x) (.pre ((lE' s.3∧(0:Int)≤s.4∧s.4≤(4611686018427387904:Int))∧True) (.pre ((t=t∧n=n)∧lE' (aS s.3 (2*n+5+2*t+3*x.2+2) (bif dOk (w0b x) 0 0 0 1 0 then cD (w0b x) 0 0 0 false 1 0 else 0))) (.ret {d:=true,x:= {x with at':=W (4+1)},s:= {t:=s.1,n:=s.2,xs:=aS s.3 (2*n+5+2*t+3*x.2+2) (bif dOk (w0b x) 0 0 0 1 0 then cD (w0b x) 0 0 0 false 1 0 else 0),c:=s.4+1,k:=2,a:=2*n+5+2*t+3*x.2+2,o:=aD s.3 (2*n+5+2*t+3*x.2+2),w:=bif bL s.3 (2*n+5+2*t+3*x.2+2)then bif dOk (w0b x) 0 0 0 1 0 then cD (w0b x) 0 0 0 false 1 0 else 0 else 0,ok:=bL s.3 (2*n+5+2*t+3*x.2+2) } })))))))
theorem IL(t n:Int)(x:ANS)(s:MS)(K:AnO→Prop)(h:(zP t n x s).run K):cT' 158 [.ptr 0 0,.ptr 1 0] [cE' [.I t,.I n,.int .u64 x.no,.I x.me,.I 4,.int .u64 x.bits,.bool x.wrong,.int .u64 x.found],aZ 2 s,a8 s] (bU 3 0 [] [] (LV t n) K):=by
 exact cM' (E:=EC3) (by kernel_rfl) h
def anT(t n:Int)(x:ANS)(s:MS):Tr AnO:=
 bif ieq x.at' 0 then zL t n x s else
 bif ieq x.at' 1 then zM t n x s else
 bif ieq x.at' 2 then zN t n x s else
 bif ieq x.at' 3 then zO t n x s else
 bif ieq x.at' 4 then zP t n x s else .pre False (.ret default)
def DP(t n:Int)(x:ANS)(s:MS):AnO:=(anT t n x s).val
def Z2(t n:Int)(x:ANS)(s:MS):Prop:=(anT t n x s).ok
theorem SI(t n:Int)(x:ANS)(s:MS)(K:AVal→aC Ob→Prop)(h:(anT t n x s).run (fun y=>(AnO.fin t n y).run K)):cT' 158 [.ptr 0 0,.ptr 1 0] (anH t n x s) K:=by
 unfold anT at h
 by_cases e:x.at'=0
 ·rw [e]at h;have h:(zL t n x s).run _:=h;refine aHb (root:=0) (pos:=[]) (cs:=[]) (parse:=LV t n) (fin:=AnO.fin t n) tM (aR.unpack (.announce t n x) 0 0 (eG t n x) [] rfl (congrArg (Prod.mk 0) rfl) (by kernel_rfl) rfl) ?_
  have q:=IH t n x s _ h;rw [←e]at q;exact q
 rw [bF e]at h
 by_cases e:x.at'=1
 ·rw [e]at h;have h:(zM t n x s).run _:=h;refine aHb (root:=0) (pos:=[]) (cs:=[]) (parse:=LV t n) (fin:=AnO.fin t n) tM (aR.unpack (.announce t n x) 0 0 (eG t n x) [] rfl (congrArg (Prod.mk 0) rfl) (by kernel_rfl) rfl) ?_
  have q:=II t n x s _ h;rw [←e]at q;exact q
 rw [bF e]at h
 by_cases e:x.at'=2
 ·rw [e]at h;have h:(zN t n x s).run _:=h;refine aHb (root:=0) (pos:=[]) (cs:=[]) (parse:=LV t n) (fin:=AnO.fin t n) tM (aR.unpack (.announce t n x) 0 0 (eG t n x) [] rfl (congrArg (Prod.mk 0) rfl) (by kernel_rfl) rfl) ?_
  have q:=IJ t n x s _ h;rw [←e]at q;exact q
 rw [bF e]at h
 by_cases e:x.at'=3
 ·rw [e]at h;have h:(zO t n x s).run _:=h;refine aHb (root:=0) (pos:=[]) (cs:=[]) (parse:=LV t n) (fin:=AnO.fin t n) tM (aR.unpack (.announce t n x) 0 0 (eG t n x) [] rfl (congrArg (Prod.mk 0) rfl) (by kernel_rfl) rfl) ?_
  have q:=IK t n x s _ h;rw [←e]at q;exact q
 rw [bF e]at h
 by_cases e:x.at'=4
 ·rw [e]at h;have h:(zP t n x s).run _:=h;refine aHb (root:=0) (pos:=[]) (cs:=[]) (parse:=LV t n) (fin:=AnO.fin t n) tM (aR.unpack (.announce t n x) 0 0 (eG t n x) [] rfl (congrArg (Prod.mk 0) rfl) (by kernel_rfl) rfl) ?_
  have q:=IL t n x s _ h;rw [←e]at q;exact q
 rw [bF e]at h;exact h.1.elim
noncomputable def anS:aI Ob:=fun args h=>match args,h with
 | [.ptr 0 0,.ptr 1 0],[some (.abs (.announce t n x) []),e1,e2]=>(match cH 2 [e1,e2]with
   | some (l,s)=>some (.pre (l=s.xs.length∧Z2 t n x s) (AnO.fin t n (DP t n x s)))
   | none=>none)
 | _,_=>none
theorem aDE:sT' 158 anS:=by
 intro args h o ho K hK;unfold anS at ho;split at ho
 case h_2=>cases ho
 split at ho<;>cases ho
 rename_i hm;obtain⟨⟨hl,ok⟩,hK⟩:=hK;cases aY hm hl;exact SI _ _ _ _ K (aHe ok hK)
def ZZ(t n:Int)(v:AVal)(g:aC Ob):Option (Prop×ANS):=match v,g with
 | .ptr 0 0,[some (.cells [.int .i64 t1,.int .i64 n1,.int .u64 no,.int .i64 me,.int .i64 at',.int .u64 bits,.bool wrong,.int .u64 found])]=>some ((t1=t∧n1=n),(⟨no,me,at',bits,wrong,found⟩:ANS))
 | _,_=>none
abbrev SD(t n:Int)(y:ANS):aC Ob:=[some (.abs (.announce t n y) [])]
theorem SE{t n:Int} :bM (obI tbl) 0 (ZZ t n) (fun y=>.ret (.ptr 0 0) (SD t n y)):=by
 intro v g p x hp hq K hK;unfold ZZ at hp;split at hp
 case h_2=>cases hp
 rename_i t1 n1 no me at' bits wrong found;cases hp;obtain⟨rfl,rfl⟩:=hq;exact⟨⟨_,_,aF.pack (SD t1 n1 (⟨no,me,at',bits,wrong,found⟩:ANS)) (.announce t1 n1 (⟨no,me,at',bits,wrong,found⟩:ANS)) 0 0 (eG t1 n1 (⟨no,me,at',bits,wrong,found⟩:ANS)) [] (by kernel_rfl) rfl (congrArg (Prod.mk 0) rfl) (by kernel_rfl),hK⟩⟩
def Z0(t n:Int)(u sh kd ky:Int):Tr ANS:=.pre True (.pre (t=t∧n=n) (.ret {no:=0,me:=u,at':=0,bits:=bif bS sh kd ky then tskV sh kd ky else 0,wrong:=!ieq (bif bS sh kd ky then 0 else 1) 0,found:=0}))
def ZY(t n:Int)(u sh kd ky:Int):ANS:=(Z0 t n u sh kd ky).val
def MC(t n:Int)(u sh kd ky:Int):Prop:=(Z0 t n u sh kd ky).ok
def anNS:aI Ob:=fun args h=>match args,h with
 | [.agg [.int .i64 t,.int .i64 n],.int .i64 u,.agg [.int .i64 sh,.int .i64 kd,.int .i64 ky]],[]=>some (.pre (MC t n u sh kd ky) (.ret (.ptr 0 0) (SD t n (ZY t n u sh kd ky))))
 | _,_=>none
theorem Z1:sT' 220 anNS:=by
 intro args h o ho K hK;unfold anNS at ho;split at ho<;>cases ho
 rename_i t n u sh kd ky;obtain⟨ok,hK⟩:=hK;refine aHm (root:=0) (pos:=[]) (cs:=[]) (parse:=ZZ t n) SE ?_;exact cM' (E:=EC3) (q:=(Z0 t n u sh kd ky).run (fun y=>(Out.ret (.ptr 0 0) (SD t n y)).run K)) (by kernel_rfl) (aHe ok hK)
noncomputable def EC4:=((EC3.addS 158 anS aDE).addS 220 anNS Z1)
structure AwO where
 d:Bool
 x:AWS
 s:MS
instance:Inhabited AwO:=⟨⟨false,⟨0,false,0,0⟩,⟨0,0,[],0,0,0,0,0,false⟩⟩⟩
instance:Inhabited AWS:=⟨⟨0,false,0,0⟩⟩
abbrev awH(t n:Int)(x:AWS)(s:MS):aC Ob:=[some (.abs (.answer t n x) []),aZ 2 s,a8 s]
abbrev awD(t n:Int)(x:AWS)(s:MS):aC Ob:=[cE' [.I t,.I n,.I x.code,.bool x.okk,.I x.val,.I x.me],aZ 2 s,a8 s]
def AwO.fin(t n:Int)(y:AwO):Out Ob:=.ite y.d (.ret (.bool true) (awD t n y.x y.s)) (.ret (.bool false) (awH t n y.x y.s))
def aAc(t n:Int)(v:AVal)(g:aC Ob):Option (Prop×AwO):=match v,g with
 | .bool d,[some (.cells [.int .i64 t1,.int .i64 n1,.int .i64 code,.bool okk,.int .i64 val,.int .i64 me]),e1,e2]=>(match cH 2 [e1,e2]with
   | some (l,s)=>some ((t1=t∧n1=n)∧l=s.xs.length,⟨d,⟨code,okk,val,me⟩,s⟩)
   | none=>none)
 | _,_=>none
def awP(t n:Int)(v:AVal)(g:aC Ob):Option (Prop×AwO):=aAc t n v g
theorem SP{t n:Int} :bM (obI tbl) 3 (aAc t n) (AwO.fin t n):=by
 intro v g p x hp hq K hK;unfold aAc at hp;split at hp
 case h_2=>cases hp
 rename_i d t1 n1 code okk val me e1 e2;split at hp
 case h_2=>cases hp
 rename_i l s hm;cases hp;obtain⟨⟨rfl,rfl⟩,hl⟩:=hq;cases aY hm hl;refine qC hK (fun h=>?_) (fun h=>?_)
 ·exact⟨⟨_,_,aHr _ _ _,h⟩⟩
 ·exact⟨⟨_,_,(aF.pack (awH t1 n1 (⟨code,okk,val,me⟩:AWS) s) (.answer t1 n1 (⟨code,okk,val,me⟩:AWS)) 0 0 (pG t1 n1 (⟨code,okk,val,me⟩:AWS)) [] (by kernel_rfl) rfl (congrArg (Prod.mk 0) rfl) (by kernel_rfl)),h⟩⟩
theorem aAd{t n:Int} :bM (obI tbl) 3 (awP t n) (AwO.fin t n):=by
 intro v g p x hp hq K hK;unfold awP at hp;exact SP v g p x hp hq K hK
abbrev w0c(n:Int)(s:MS)(t:Int)(x:AWS):=aD s.3 (2*n+5+2*t+3*x.4+2)
def SQ(t n:Int)(x:AWS)(s:MS):Tr AwO:=.pre ((((0:Int)≤t∧t≤(100000:Int))∧((0:Int)≤n∧n≤(100000:Int))∧(-1099511627776:Int)≤x.4∧x.4≤(1099511627776:Int))∧True) (.pre ((lE' s.3∧(0:Int)≤s.4∧s.4≤(4611686018427387904:Int))∧True) (.pre True (.pre True (.pre ((t=t∧n=n)∧lE' s.3) (.ret {d:=true,x:= {code:=resC (aA (w0c n s t x) 39 9) (aA (w0c n s t x) 49 3),okk:=W4 (aA (w0c n s t x) 39 9) (aA (w0c n s t x) 49 3) (ieq (aA (w0c n s t x) 48 1) 1),val:=W5 (aA (w0c n s t x) 39 9) (aA (w0c n s t x) 49 3) (aA (w0c n s t x) 52 10),me:=x.4},s:= {s with c:=s.4+1,k:=1,a:=2*n+5+2*t+3*x.4+2,o:=aD s.3 (2*n+5+2*t+3*x.4+2),w:=aD s.3 (2*n+5+2*t+3*x.4+2),ok:=bL s.3 (2*n+5+2*t+3*x.4+2) } })))))
theorem ME(t n:Int)(x:AWS)(s:MS)(K:AwO→Prop)(h:(SQ t n x s).run K):cT' 161 [.ptr 0 0,.ptr 1 0] [cE' [.I t,.I n,.I x.code,.bool x.okk,.I x.val,.I x.me],aZ 2 s,a8 s] (bU 3 0 [] [] (awP t n) K):=by
 exact cM' (E:=EC4) (by kernel_rfl) h
def awT(t n:Int)(x:AWS)(s:MS):Tr AwO:=SQ t n x s
def rR(t n:Int)(x:AWS)(s:MS):AwO:=(awT t n x s).val
def aAb(t n:Int)(x:AWS)(s:MS):Prop:=(awT t n x s).ok
theorem SS(t n:Int)(x:AWS)(s:MS)(K:AVal→aC Ob→Prop)(h:(awT t n x s).run (fun y=>(AwO.fin t n y).run K)):cT' 161 [.ptr 0 0,.ptr 1 0] (awH t n x s) K:=by
 unfold awT at h;exact aHb (root:=0) (pos:=[]) (cs:=[]) (parse:=awP t n) (fin:=AwO.fin t n) aAd (aR.unpack (.answer t n x) 0 0 (pG t n x) [] rfl (congrArg (Prod.mk 0) rfl) (by kernel_rfl) rfl) (ME t n x s _ h)
noncomputable def awS:aI Ob:=fun args h=>match args,h with
 | [.ptr 0 0,.ptr 1 0],[some (.abs (.answer t n x) []),e1,e2]=>(match cH 2 [e1,e2]with
   | some (l,s)=>some (.pre (l=s.xs.length∧aAb t n x s) (AwO.fin t n (rR t n x s)))
   | none=>none)
 | _,_=>none
theorem aDH:sT' 161 awS:=by
 intro args h o ho K hK;unfold awS at ho;split at ho
 case h_2=>cases ho
 split at ho<;>cases ho
 rename_i hm;obtain⟨⟨hl,ok⟩,hK⟩:=hK;cases aY hm hl;exact SS _ _ _ _ K (aHe ok hK)
def Z8(t n:Int)(v:AVal)(g:aC Ob):Option (Prop×AWS):=match v,g with
 | .ptr 0 0,[some (.cells [.int .i64 t1,.int .i64 n1,.int .i64 code,.bool okk,.int .i64 val,.int .i64 me])]=>some ((t1=t∧n1=n),(⟨code,okk,val,me⟩:AWS))
 | _,_=>none
abbrev SL(t n:Int)(y:AWS):aC Ob:=[some (.abs (.answer t n y) [])]
theorem SM{t n:Int} :bM (obI tbl) 0 (Z8 t n) (fun y=>.ret (.ptr 0 0) (SL t n y)):=by
 intro v g p x hp hq K hK;unfold Z8 at hp;split at hp
 case h_2=>cases hp
 rename_i t1 n1 code okk val me;cases hp;obtain⟨rfl,rfl⟩:=hq;exact⟨⟨_,_,aF.pack (SL t1 n1 (⟨code,okk,val,me⟩:AWS)) (.answer t1 n1 (⟨code,okk,val,me⟩:AWS)) 0 0 (pG t1 n1 (⟨code,okk,val,me⟩:AWS)) [] (by kernel_rfl) rfl (congrArg (Prod.mk 0) rfl) (by kernel_rfl),hK⟩⟩
def Z9(t n:Int)(u:Int):Tr AWS:=.pre (t=t∧n=n) (.ret {code:=0,okk:=false,val:=0,me:=u})
def Z7(t n:Int)(u:Int):AWS:=(Z9 t n u).val
def MD(t n:Int)(u:Int):Prop:=(Z9 t n u).ok
def awNS:aI Ob:=fun args h=>match args,h with
 | [.agg [.int .i64 t,.int .i64 n],.int .i64 u],[]=>some (.pre (MD t n u) (.ret (.ptr 0 0) (SL t n (Z7 t n u))))
 | _,_=>none
theorem aAa:sT' 160 awNS:=by
 intro args h o ho K hK;unfold awNS at ho;split at ho<;>cases ho
 rename_i t n u;obtain⟨ok,hK⟩:=hK;refine aHm (root:=0) (pos:=[]) (cs:=[]) (parse:=Z8 t n) SM ?_;exact cM' (E:=EC4) (q:=(Z9 t n u).run (fun y=>(Out.ret (.ptr 0 0) (SL t n y)).run K)) (by kernel_rfl) (aHe ok hK)
noncomputable def EC5:=((EC4.addS 161 awS aDH).addS 160 awNS aAa)
def GG:bE Ob:=fun args h=>match args,h with
 | [.ptr 0 0],[some (.cells [.int .i64 t,.int .i64 n,.int .i64 pop,.int .i64 gave,.int .i64 u,.int .i64 sh,.int .i64 kd,.int .i64 ky,.bool only,.int .i64 att,.int .i64 at',.int .u64 found,.int .u64 word])]=>some (True,.agg [.I (aA found 0 12),.I (aA found 12 9),.I (aA found 21 18),.I (aA found 39 9),.bool (ieq (aA found 48 1) 1),.I (aA found 49 3),.I (aA found 52 10)])
 | _,_=>none
theorem RN:sT' 281 GG.spec:=by
 intro args h o ho K hK;unfold bE.spec GG at ho;split at ho
 case h_2=>cases ho
 rename_i p v hp;split at hp
 case h_2=>cases hp
 rename_i t n pop gave u sh kd ky only att at' found word;cases hp;simp only [sI']at ho;subst ho;obtain⟨hp,hK⟩:=hK;have hK:K (.agg [.I (aA found 0 12),.I (aA found 12 9),.I (aA found 21 18),.I (aA found 39 9),.bool (ieq (aA found 48 1) 1),.I (aA found 49 3),.I (aA found 52 10)]) [cE' [.I t,.I n,.I pop,.I gave,.I u,.I sh,.I kd,.I ky,.bool only,.I att,.I at',.int .u64 found,.int .u64 word]]:=hK;refine aHa (cM' (E:=EC5) (q:=True∧K (.agg [.I (aA found 0 12),.I (aA found 12 9),.I (aA found 21 18),.I (aA found 39 9),.bool (ieq (aA found 48 1) 1),.I (aA found 49 3),.I (aA found 52 10)]) [cE' [.I t,.I n,.I pop,.I gave,.I u,.I sh,.I kd,.I ky,.bool only,.I att,.I at',.int .u64 found,.int .u64 word]]) (by kernel_rfl) ?_)
 exact⟨trivial,hK⟩
noncomputable def EX1:=EC5.addR 281 GG RN
def RO(t n pop gave u sh kd ky:Int)(only:Bool)(att at' found word:Int)(k y:Int)(m:Bool)(c v:Int)(s:MS):Out Ob:=.pre True (.pre True (.pre ((lE' s.3∧(0:Int)≤s.4∧s.4≤(4611686018427387904:Int))∧True) (.ret (.bool (aT s.3 (aA found 12 9) word)) [cE' [.I t,.I n,.I pop,.I gave,.I u,.I sh,.I kd,.I ky,.bool only,.I att,.I at',.int .u64 found,.int .u64 word],cE' [.I s.1,.I s.2,.slice 2 0 (List.length (bif aT s.3 (aA found 12 9) word then aS s.3 (aA found 12 9) (bif bif aK k 10 then bif aK y 9 then bif aK c 5 then aK v 18 else false else false else false then cF k y m c v else 0)else s.3)) 1,.I (s.4+1),.I 3,.I (aA found 12 9),.int .u64 (aD s.3 (aA found 12 9)),.int .u64 (bif bL s.3 (aA found 12 9)then bif bif aK k 10 then bif aK y 9 then bif aK c 5 then aK v 18 else false else false else false then cF k y m c v else 0 else 0),.bool (aT s.3 (aA found 12 9) word)],some (.ints (some .u64) (bif aT s.3 (aA found 12 9) word then aS s.3 (aA found 12 9) (bif bif aK k 10 then bif aK y 9 then bif aK c 5 then aK v 18 else false else false else false then cF k y m c v else 0)else s.3))])))
theorem RP(t n pop gave u sh kd ky:Int)(only:Bool)(att at' found word:Int)(k y:Int)(m:Bool)(c v:Int)(s:MS)(K:AVal→aC Ob→Prop)(h:(RO t n pop gave u sh kd ky only att at' found word k y m c v s).run K):cT' 284 [.ptr 0 0,.ptr 1 0,.agg [.I k,.I y,.bool m,.I c,.I v]] [cE' [.I t,.I n,.I pop,.I gave,.I u,.I sh,.I kd,.I ky,.bool only,.I att,.I at',.int .u64 found,.int .u64 word],aZ 2 s,a8 s] K:=by
 refine aHa (cM' (E:=EX1) (by kernel_rfl) h)
def xputS:aI Ob:=fun args h=>match args,h with
 | [.ptr 0 0,.ptr 1 0,.agg [.int .i64 k,.int .i64 y,.bool m,.int .i64 c,.int .i64 v]],[some (.cells [.int .i64 t,.int .i64 n,.int .i64 pop,.int .i64 gave,.int .i64 u,.int .i64 sh,.int .i64 kd,.int .i64 ky,.bool only,.int .i64 att,.int .i64 at',.int .u64 found,.int .u64 word]),e1,e2]=>(match cH 2 [e1,e2]with
   | some (l,s)=>some (.pre (l=s.xs.length) (RO t n pop gave u sh kd ky only att at' found word k y m c v s))
   | none=>none)
 | _,_=>none
theorem X3:sT' 284 xputS:=by
 intro args h o ho K hK;unfold xputS at ho;split at ho
 case h_2=>cases ho
 split at ho<;>cases ho
 rename_i hm;obtain⟨hl,hK⟩:=hK;cases aY hm hl;exact RP _ _ _ _ _ _ _ _ _ _ _ _ _ _ _ _ _ _ _ K hK
def GI(t n pop gave u sh kd ky:Int)(only:Bool)(att at' found word:Int)(a b c d:Int)(m:Bool)(e f:Int)(s:MS):Out Ob:=.pre True (.pre ((((0:Int)≤t∧t≤(100000:Int))∧((0:Int)≤n∧n≤(100000:Int))∧(-1099511627776:Int)≤u∧u≤(1099511627776:Int))∧True) (.pre ((lE' s.3∧(0:Int)≤s.4∧s.4≤(4611686018427387904:Int))∧True) (.ret (.bool (aT s.3 (2*n+5+2*t+3*u+2) found)) [cE' [.I t,.I n,.I pop,.I gave,.I u,.I sh,.I kd,.I ky,.bool only,.I att,.I at',.int .u64 found,.int .u64 word],cE' [.I s.1,.I s.2,.slice 2 0 (List.length (bif aT s.3 (2*n+5+2*t+3*u+2) found then aS s.3 (2*n+5+2*t+3*u+2) (bif dOk a b c d e f then cD a b c d m e f else 0)else s.3)) 1,.I (s.4+1),.I 3,.I (2*n+5+2*t+3*u+2),.int .u64 (aD s.3 (2*n+5+2*t+3*u+2)),.int .u64 (bif bL s.3 (2*n+5+2*t+3*u+2)then bif dOk a b c d e f then cD a b c d m e f else 0 else 0),.bool (aT s.3 (2*n+5+2*t+3*u+2) found)],some (.ints (some .u64) (bif aT s.3 (2*n+5+2*t+3*u+2) found then aS s.3 (2*n+5+2*t+3*u+2) (bif dOk a b c d e f then cD a b c d m e f else 0)else s.3))])))
theorem LT(t n pop gave u sh kd ky:Int)(only:Bool)(att at' found word:Int)(a b c d:Int)(m:Bool)(e f:Int)(s:MS)(K:AVal→aC Ob→Prop)(h:(GI t n pop gave u sh kd ky only att at' found word a b c d m e f s).run K):cT' 286 [.ptr 0 0,.ptr 1 0,.agg [.I a,.I b,.I c,.I d,.bool m,.I e,.I f]] [cE' [.I t,.I n,.I pop,.I gave,.I u,.I sh,.I kd,.I ky,.bool only,.I att,.I at',.int .u64 found,.int .u64 word],aZ 2 s,a8 s] K:=by
 refine aHa (cM' (E:=EX1) (by kernel_rfl) h)
def xturnS:aI Ob:=fun args h=>match args,h with
 | [.ptr 0 0,.ptr 1 0,.agg [.int .i64 a,.int .i64 b,.int .i64 c,.int .i64 d,.bool m,.int .i64 e,.int .i64 f]],[some (.cells [.int .i64 t,.int .i64 n,.int .i64 pop,.int .i64 gave,.int .i64 u,.int .i64 sh,.int .i64 kd,.int .i64 ky,.bool only,.int .i64 att,.int .i64 at',.int .u64 found,.int .u64 word]),e1,e2]=>(match cH 2 [e1,e2]with
   | some (l,s)=>some (.pre (l=s.xs.length) (GI t n pop gave u sh kd ky only att at' found word a b c d m e f s))
   | none=>none)
 | _,_=>none
theorem RQ:sT' 286 xturnS:=by
 intro args h o ho K hK;unfold xturnS at ho;split at ho
 case h_2=>cases ho
 split at ho<;>cases ho
 rename_i hm;obtain⟨hl,hK⟩:=hK;cases aY hm hl;exact LT _ _ _ _ _ _ _ _ _ _ _ _ _ _ _ _ _ _ _ _ _ K hK
noncomputable def EX2:=(EX1.addS 284 xputS X3).addS 286 xturnS RQ
instance:Inhabited STS:=⟨⟨0,0,[]⟩⟩
end Go.Sh
