import Derived.Test.YtedeloeobocpiaaGreatZM0toM42
set_option linter.all false
set_option maxHeartbeats 8000000
namespace Go.Sh
open Go Go.Proofs
variable [Con]
theorem dQ{xs:List Int}(h:okW xs){a x:Int}(hx:0≤x∧x≤18446744073709551615):okW (aJ xs a x):=by
 unfold aJ
 split
 ·refine⟨fun y hy=>?_⟩
  rcases List.mem_or_eq_of_mem_set hy with h1 | h1
  ·exact h.h y h1
  ·subst h1;exact hx
 ·exact h
theorem DF(x:Int):0≤WU x∧WU x≤18446744073709551615:=by
 unfold WU
 simp only [IntKind.wrap,IntKind.bits,IntKind.signed]
 simp
 omega
theorem sJ(m:List (Int×Int))(k v r:Int):mget (dN m k v) r=if r=k then some v else mget m r:=by
 induction m with
 | nil=>
   unfold dN mget
   by_cases h:r=k
   ·subst h;simp
   ·have h': ¬k=r:=fun c=>h c.symm
    simp [h,h']
 | cons x m ih=>
   unfold dN
   by_cases hx:x.1=k
   ·rw [if_pos hx]
    unfold mget
    by_cases h:r=k
    ·subst h;simp
    ·have h': ¬k=r:=fun c=>h c.symm
     have h2: ¬x.1=r:=by rw [hx];exact h'
     simp [h,h',h2]
   ·rw [if_neg hx]
    unfold mget at ih⊢
    by_cases h2:x.1=r
    ·have h3: ¬r=k:=by rw [←h2];exact hx
     simp [h2,h3]
    ·simp only [List.find?_cons,beq_iff_eq,h2]
     have h4:(x.1 == r)=false:=by simpa using h2
     rw [h4]
     exact ih
structure EO where
 d:Bool
 e:ENS
 st:STS
 s:MS
def at0(t n me:Int):Int:=bif bQ n (aN t n me)then aN t n me else 1
def zI(e:ENS)(st:STS)(x:AL)(s:MS):EO:=match ile x.left 0 with
 | true=>⟨e.dn||ieq (st.R.length:Int) 0,{e with ph:=2,sh:=e.dn||ieq (st.R.length:Int) 0,x:=x},{st with sp:=0},s⟩
 | false=>⟨false,{e with ph:=1,x:=x},st,s⟩
def jR(n:Int)(e:ENS)(st:STS)(x:AL)(s:MS):EO:=match x.free with
 | true=>(match aS s.xs (n+4+x.at') x.found with
   | true=>⟨true,{e with ph:=1,x:=⟨x.at',x.at',x.left,x.found,true⟩ },{st with sp:=x.at'},s.cased (n+4+x.at') x.found (WU (x.found+1))⟩
   | false=>zI e st ⟨0,cK n x.at',x.left - 1,x.found,false⟩ (s.cased (n+4+x.at') x.found (WU (x.found+1))))
 | false=>(match oddB (aB s.xs (n+4+x.at'))with
   | true=>zI e st ⟨0,cK n x.at',x.left - 1,aB s.xs (n+4+x.at'),false⟩ (s.loadd (n+4+x.at'))
   | false=>⟨false,{e with ph:=1,x:=⟨0,x.at',x.left,aB s.xs (n+4+x.at'),true⟩ },st,s.loadd (n+4+x.at')⟩)
instance:Inhabited EO:=⟨⟨false,cF,⟨0,0,[]⟩,⟨0,0,[],0,0,0,0,0,false⟩⟩⟩
def enF(t n:Int)(e:ENS)(st:STS)(s:MS):EO:=match e.ph with
 | 0=>(match ieq st.sp 0 with
   | true=>jR n e st ⟨0,at0 t n st.me,n,0,false⟩ s
   | false=>⟨true,e,st,s.loadd 0⟩)
 | 1=>jR n e st e.x s
 | 2=>⟨false,{e with ph:=3,y:= {e.y with N:=st.R,m:=aU [] n 0 s,i:=1} },st,s.loadd (bR n 0)⟩
 | 3=>(match ieq (e.y.i+1) (2*t),ieq ((aV (aU e.y.m n e.y.i s) e.y.N).length :Int) 0 with
   | true,true=>⟨true,{e with ph:=0,sh:=true,dn:=true},{st with R:=cM (aU e.y.m n e.y.i s) e.y.N},s.loadd (bR n e.y.i)⟩
   | true,false=>⟨false,{e with ph:=4,y:=⟨0,e.y.N,aU e.y.m n e.y.i s,e.y.i+1,cM (aU e.y.m n e.y.i s) e.y.N,aV (aU e.y.m n e.y.i s) e.y.N,aV (aU e.y.m n e.y.i s) e.y.N,0,(aV (aU e.y.m n e.y.i s) e.y.N).length⟩ },st,s.loadd (bR n e.y.i)⟩
   | false,_=>⟨false,{e with y:= {e.y with m:=aU e.y.m n e.y.i s,i:=e.y.i+1} },st,s.loadd (bR n e.y.i)⟩)
 | _=>(match ieq ((e.y.l - 1:Nat):Int) 0 with
   | true=>⟨ieq (e.y.fs.length:Int) 0,{e with ph:=0,sh:=ieq (e.y.fs.length:Int) 0,dn:=true},{st with R:=e.y.ks},s.added (bV n e.y.gs e.y.j) 1⟩
   | false=>⟨false,{e with y:= {e.y with j:=e.y.j+1,l:=e.y.l - 1} },st,s.added (bV n e.y.gs e.y.j) 1⟩)
structure okAl (n:Int) (x:AL):Prop where
 hg:x.got=0
 ha:1≤x.at'∧x.at'≤n
 hl:0≤x.left∧x.left≤1000
def ZE(t n:Int)(e:ENS)(st:STS):Prop:=match e.ph with
 | 0=>True
 | 1=>okAl n e.x
 | 2=>True
 | 3=>e.y.N.length≤1000000∧0≤e.y.i∧e.y.i<2*t
 | 4=>2*t≤e.y.i∧1≤e.y.l∧e.y.gs.length=e.y.j+e.y.l∧ -1000000≤List.getD e.y.gs (e.y.j+Int.toNat 0*1) 0∧List.getD e.y.gs (e.y.j+Int.toNat 0*1) 0≤1000000
 | _=>False
structure KQ (t n:Int) (e:ENS) (st:STS) (s:MS):Prop where
 ht:1≤t∧t≤1000
 hn:1≤n∧n≤1000
 hc:0≤s.c∧s.c≤1000000
 hm:0≤st.me∧st.me≤1000
 hR:st.R.length≤1000000
 ho:ZE t n e st
abbrev a9(l:Nat)(s:MS):Option (aG Mc):=some (.cells [.int .i64 s.t,.int .i64 s.n,.slice l 0 s.xs.length 1,.int .i64 s.c,.int .i64 s.k,.int .i64 s.a,.int .u64 s.o,.int .u64 s.w,.bool s.ok])
abbrev bA(s:MS):Option (aG Mc):=some (.ints (some .u64) s.xs)
def QH(t n:Int)(e:ENS)(st:STS)(s:MS):aD Ob:=[some (.abs (.ensure t n e) [1]),some (.abs (.store t n st) []),a9 3 s,bA s]
def EO.left(o:EO)(t n:Int)(K:AVal→aD Ob→Prop):Prop:=K (.bool o.d) (QH t n o.e o.st o.s)
theorem gK{K:AVal→aD Ob→Prop}{t n:Int}{o:EO}{g':aD Ob}(pl:List Nat)(hK:o.left t n K)
 (hb:(fG pl g'.length&&kM pl 0 4&&tS 1 (GO t n o.e))=true)
 (hT:gR pl g'=bT [some (.abs (.ensure t n o.e) [1]),some (.cells [.int .i64 t,.int .i64 n,.int .i64 o.st.me,.int .i64 o.st.sp,.slice 4 0 o.st.R.length 1]),a9 3 o.s,bA o.s,some (.ints (some .i64) o.st.R)] 0 1 (GO t n o.e) [1]):AX tbl 4 (AX tbl 4 K) (.bool o.d) g':=by
 simp only [Bool.and_eq_true]at hb
 obtain⟨⟨b1,b2⟩,b3⟩:=hb
 refine⟨pl,_,.ensure t n o.e,0,1,_,[1],?_,hT,rfl,rfl,⟨[0,1,2,3,4],[some (.abs (.ensure t n o.e) [1]),some (.abs (.store t n o.st) []),a9 3 o.s,bA o.s],.store t n o.st,1,0,iU t n o.st,[],rfl,rfl,rfl,rfl,?_⟩⟩
 ·rw [b1,b2,b3];rfl
 ·exact hK
theorem aAl(t n me sp:Int)(R:List Int)(sh dn:Bool)(x:AL)(y:SWS)(s:MS)(K:AVal→aD Ob→Prop)(hK:bif !ieq sp 0 then(lE' s.3∧(0:Int)≤s.4∧s.4≤(4611686018427387904:Int))∧K (.bool true) [some (.cells [.ptr 1 0,.bool sh,.raw (Value.pointer none),.raw (Value.pointer none),.bool dn]),some (.cells [.int .i64 t,.int .i64 n,.int .i64 me,.int .i64 sp,.slice 4 0 (List.length R) 1]),some (.cells [.int .i64 s.1,.int .i64 s.2,.slice 3 0 (List.length s.3) 1,.int .i64 (s.4+1),.int .i64 1,.int .i64 0,.int .u64 (aB s.3 0),.int .u64 (aB s.3 0),.bool (bL s.3 0)]),some (.ints (some .u64) s.3),some (.ints (some .i64) R)]else(((0:Int)≤me∧me≤(100000:Int))∧(0:Int)≤n∧n≤(100000:Int))∧(True∧True)∧(lE' s.3∧((1:Int)≤t∧t≤(1000:Int))∧((1:Int)≤n∧n≤(1000:Int))∧(((1:Int)≤bif bQ n (aN t n me)then aN t n me else 1)∧(bif bQ n (aN t n me)then aN t n me else 1)≤n)∧((0:Int)≤n∧n≤(1000:Int))∧(0:Int)≤s.4∧s.4≤(1000000:Int))∧bif oddB (aB s.3 (n+4+bif bQ n (aN t n me)then aN t n me else 1))then bif !ile (n - 1) 0 then K (.bool false) [some (.cells [.ptr 1 0,.bool sh,.ptr 5 0,.raw (Value.pointer none),.bool dn]),some (.cells [.int .i64 t,.int .i64 n,.int .i64 me,.int .i64 sp,.slice 4 0 (List.length R) 1]),some (.cells [.int .i64 s.1,.int .i64 s.2,.slice 3 0 (List.length s.3) 1,.int .i64 (s.4+1),.int .i64 1,.int .i64 (n+4+bif bQ n (aN t n me)then aN t n me else 1),.int .u64 (aB s.3 (n+4+bif bQ n (aN t n me)then aN t n me else 1)),.int .u64 (aB s.3 (n+4+bif bQ n (aN t n me)then aN t n me else 1)),.bool (bL s.3 (n+4+bif bQ n (aN t n me)then aN t n me else 1))]),some (.ints (some .u64) s.3),some (.ints (some .i64) R),some (.cells [.int .i64 t,.int .i64 n,.int .i64 0,.int .i64 (cK n (bif bQ n (aN t n me)then aN t n me else 1)),.int .i64 (n - 1),.int .u64 (aB s.3 (n+4+bif bQ n (aN t n me)then aN t n me else 1)),.bool false])]else bif dn then K (.bool true) [some (.cells [.ptr 1 0,.bool true,.ptr 5 0,.ptr 6 0,.bool dn]),some (.cells [.int .i64 t,.int .i64 n,.int .i64 me,.int .i64 0,.slice 4 0 (List.length R) 1]),some (.cells [.int .i64 s.1,.int .i64 s.2,.slice 3 0 (List.length s.3) 1,.int .i64 (s.4+1),.int .i64 1,.int .i64 (n+4+bif bQ n (aN t n me)then aN t n me else 1),.int .u64 (aB s.3 (n+4+bif bQ n (aN t n me)then aN t n me else 1)),.int .u64 (aB s.3 (n+4+bif bQ n (aN t n me)then aN t n me else 1)),.bool (bL s.3 (n+4+bif bQ n (aN t n me)then aN t n me else 1))]),some (.ints (some .u64) s.3),some (.ints (some .i64) R),some (.cells [.int .i64 t,.int .i64 n,.int .i64 0,.int .i64 (cK n (bif bQ n (aN t n me)then aN t n me else 1)),.int .i64 (n - 1),.int .u64 (aB s.3 (n+4+bif bQ n (aN t n me)then aN t n me else 1)),.bool false]),some (.cells [.ptr 1 0,.raw (Value.pointer none)])]else K (.bool (ieq (↑(List.length R):Int) 0)) [some (.cells [.ptr 1 0,.bool (ieq (↑(List.length R):Int) 0),.ptr 5 0,.ptr 6 0,.bool dn]),some (.cells [.int .i64 t,.int .i64 n,.int .i64 me,.int .i64 0,.slice 4 0 (List.length R) 1]),some (.cells [.int .i64 s.1,.int .i64 s.2,.slice 3 0 (List.length s.3) 1,.int .i64 (s.4+1),.int .i64 1,.int .i64 (n+4+bif bQ n (aN t n me)then aN t n me else 1),.int .u64 (aB s.3 (n+4+bif bQ n (aN t n me)then aN t n me else 1)),.int .u64 (aB s.3 (n+4+bif bQ n (aN t n me)then aN t n me else 1)),.bool (bL s.3 (n+4+bif bQ n (aN t n me)then aN t n me else 1))]),some (.ints (some .u64) s.3),some (.ints (some .i64) R),some (.cells [.int .i64 t,.int .i64 n,.int .i64 0,.int .i64 (cK n (bif bQ n (aN t n me)then aN t n me else 1)),.int .i64 (n - 1),.int .u64 (aB s.3 (n+4+bif bQ n (aN t n me)then aN t n me else 1)),.bool false]),some (.cells [.ptr 1 0,.raw (Value.pointer none)])]else K (.bool false) [some (.cells [.ptr 1 0,.bool sh,.ptr 5 0,.raw (Value.pointer none),.bool dn]),some (.cells [.int .i64 t,.int .i64 n,.int .i64 me,.int .i64 sp,.slice 4 0 (List.length R) 1]),some (.cells [.int .i64 s.1,.int .i64 s.2,.slice 3 0 (List.length s.3) 1,.int .i64 (s.4+1),.int .i64 1,.int .i64 (n+4+bif bQ n (aN t n me)then aN t n me else 1),.int .u64 (aB s.3 (n+4+bif bQ n (aN t n me)then aN t n me else 1)),.int .u64 (aB s.3 (n+4+bif bQ n (aN t n me)then aN t n me else 1)),.bool (bL s.3 (n+4+bif bQ n (aN t n me)then aN t n me else 1))]),some (.ints (some .u64) s.3),some (.ints (some .i64) R),some (.cells [.int .i64 t,.int .i64 n,.int .i64 0,.int .i64 (bif bQ n (aN t n me)then aN t n me else 1),.int .i64 n,.int .u64 (aB s.3 (n+4+bif bQ n (aN t n me)then aN t n me else 1)),.bool true])]):cT' 85 [.ptr 0 0,.ptr 2 0] [some (.cells [.ptr 1 0,.bool sh,.raw (.pointer none),.raw (.pointer none),.bool dn]),some (.cells [.int .i64 t,.int .i64 n,.int .i64 me,.int .i64 sp,.slice 4 0 R.length 1]),a9 3 s,bA s,some (.ints (some .i64) R)] K:=by
 refine aBs (cM' (E:=E42) (by kernel_rfl) hK)
theorem aAm(t n me sp:Int)(R:List Int)(sh dn:Bool)(x:AL)(y:SWS)(s:MS)(K:AVal→aD Ob→Prop)(hK:(lE' s.3∧((1:Int)≤t∧t≤(1000:Int))∧((1:Int)≤n∧n≤(1000:Int))∧((1:Int)≤x.2∧x.2≤n)∧((0:Int)≤x.3∧x.3≤(1000:Int))∧(0:Int)≤s.4∧s.4≤(1000000:Int))∧bif x.5 then bif aS s.3 (n+4+x.2) x.4 then bif !ieq x.2 0 then K (.bool true) [some (.cells [.ptr 1 0,.bool sh,.ptr 5 0,.raw (Value.pointer none),.bool dn]),some (.cells [.int .i64 t,.int .i64 n,.int .i64 me,.int .i64 x.2,.slice 4 0 (List.length R) 1]),some (.cells [.int .i64 s.1,.int .i64 s.2,.slice 3 0 (List.length (bif aS s.3 (n+4+x.2) x.4 then aJ s.3 (n+4+x.2) (WU (x.4+1))else s.3)) 1,.int .i64 (s.4+1),.int .i64 3,.int .i64 (n+4+x.2),.int .u64 (aB s.3 (n+4+x.2)),.int .u64 (bif bL s.3 (n+4+x.2)then WU (x.4+1)else 0),.bool (aS s.3 (n+4+x.2) x.4)]),some (.ints (some .u64) (bif aS s.3 (n+4+x.2) x.4 then aJ s.3 (n+4+x.2) (WU (x.4+1))else s.3)),some (.ints (some .i64) R),some (.cells [.int .i64 t,.int .i64 n,.int .i64 x.2,.int .i64 x.2,.int .i64 x.3,.int .u64 x.4,.bool true])]else bif dn then K (.bool true) [some (.cells [.ptr 1 0,.bool true,.ptr 5 0,.ptr 6 0,.bool dn]),some (.cells [.int .i64 t,.int .i64 n,.int .i64 me,.int .i64 x.2,.slice 4 0 (List.length R) 1]),some (.cells [.int .i64 s.1,.int .i64 s.2,.slice 3 0 (List.length (bif aS s.3 (n+4+x.2) x.4 then aJ s.3 (n+4+x.2) (WU (x.4+1))else s.3)) 1,.int .i64 (s.4+1),.int .i64 3,.int .i64 (n+4+x.2),.int .u64 (aB s.3 (n+4+x.2)),.int .u64 (bif bL s.3 (n+4+x.2)then WU (x.4+1)else 0),.bool (aS s.3 (n+4+x.2) x.4)]),some (.ints (some .u64) (bif aS s.3 (n+4+x.2) x.4 then aJ s.3 (n+4+x.2) (WU (x.4+1))else s.3)),some (.ints (some .i64) R),some (.cells [.int .i64 t,.int .i64 n,.int .i64 x.2,.int .i64 x.2,.int .i64 x.3,.int .u64 x.4,.bool true]),some (.cells [.ptr 1 0,.raw (Value.pointer none)])]else K (.bool (ieq (↑(List.length R):Int) 0)) [some (.cells [.ptr 1 0,.bool (ieq (↑(List.length R):Int) 0),.ptr 5 0,.ptr 6 0,.bool dn]),some (.cells [.int .i64 t,.int .i64 n,.int .i64 me,.int .i64 x.2,.slice 4 0 (List.length R) 1]),some (.cells [.int .i64 s.1,.int .i64 s.2,.slice 3 0 (List.length (bif aS s.3 (n+4+x.2) x.4 then aJ s.3 (n+4+x.2) (WU (x.4+1))else s.3)) 1,.int .i64 (s.4+1),.int .i64 3,.int .i64 (n+4+x.2),.int .u64 (aB s.3 (n+4+x.2)),.int .u64 (bif bL s.3 (n+4+x.2)then WU (x.4+1)else 0),.bool (aS s.3 (n+4+x.2) x.4)]),some (.ints (some .u64) (bif aS s.3 (n+4+x.2) x.4 then aJ s.3 (n+4+x.2) (WU (x.4+1))else s.3)),some (.ints (some .i64) R),some (.cells [.int .i64 t,.int .i64 n,.int .i64 x.2,.int .i64 x.2,.int .i64 x.3,.int .u64 x.4,.bool true]),some (.cells [.ptr 1 0,.raw (Value.pointer none)])]else bif !ile (x.3 - 1) 0 then K (.bool false) [some (.cells [.ptr 1 0,.bool sh,.ptr 5 0,.raw (Value.pointer none),.bool dn]),some (.cells [.int .i64 t,.int .i64 n,.int .i64 me,.int .i64 sp,.slice 4 0 (List.length R) 1]),some (.cells [.int .i64 s.1,.int .i64 s.2,.slice 3 0 (List.length (bif aS s.3 (n+4+x.2) x.4 then aJ s.3 (n+4+x.2) (WU (x.4+1))else s.3)) 1,.int .i64 (s.4+1),.int .i64 3,.int .i64 (n+4+x.2),.int .u64 (aB s.3 (n+4+x.2)),.int .u64 (bif bL s.3 (n+4+x.2)then WU (x.4+1)else 0),.bool (aS s.3 (n+4+x.2) x.4)]),some (.ints (some .u64) (bif aS s.3 (n+4+x.2) x.4 then aJ s.3 (n+4+x.2) (WU (x.4+1))else s.3)),some (.ints (some .i64) R),some (.cells [.int .i64 t,.int .i64 n,.int .i64 x.1,.int .i64 (cK n x.2),.int .i64 (x.3 - 1),.int .u64 x.4,.bool false])]else bif !ieq x.1 0 then K (.bool true) [some (.cells [.ptr 1 0,.bool sh,.ptr 5 0,.raw (Value.pointer none),.bool dn]),some (.cells [.int .i64 t,.int .i64 n,.int .i64 me,.int .i64 x.1,.slice 4 0 (List.length R) 1]),some (.cells [.int .i64 s.1,.int .i64 s.2,.slice 3 0 (List.length (bif aS s.3 (n+4+x.2) x.4 then aJ s.3 (n+4+x.2) (WU (x.4+1))else s.3)) 1,.int .i64 (s.4+1),.int .i64 3,.int .i64 (n+4+x.2),.int .u64 (aB s.3 (n+4+x.2)),.int .u64 (bif bL s.3 (n+4+x.2)then WU (x.4+1)else 0),.bool (aS s.3 (n+4+x.2) x.4)]),some (.ints (some .u64) (bif aS s.3 (n+4+x.2) x.4 then aJ s.3 (n+4+x.2) (WU (x.4+1))else s.3)),some (.ints (some .i64) R),some (.cells [.int .i64 t,.int .i64 n,.int .i64 x.1,.int .i64 (cK n x.2),.int .i64 (x.3 - 1),.int .u64 x.4,.bool false])]else bif dn then K (.bool true) [some (.cells [.ptr 1 0,.bool true,.ptr 5 0,.ptr 6 0,.bool dn]),some (.cells [.int .i64 t,.int .i64 n,.int .i64 me,.int .i64 x.1,.slice 4 0 (List.length R) 1]),some (.cells [.int .i64 s.1,.int .i64 s.2,.slice 3 0 (List.length (bif aS s.3 (n+4+x.2) x.4 then aJ s.3 (n+4+x.2) (WU (x.4+1))else s.3)) 1,.int .i64 (s.4+1),.int .i64 3,.int .i64 (n+4+x.2),.int .u64 (aB s.3 (n+4+x.2)),.int .u64 (bif bL s.3 (n+4+x.2)then WU (x.4+1)else 0),.bool (aS s.3 (n+4+x.2) x.4)]),some (.ints (some .u64) (bif aS s.3 (n+4+x.2) x.4 then aJ s.3 (n+4+x.2) (WU (x.4+1))else s.3)),some (.ints (some .i64) R),some (.cells [.int .i64 t,.int .i64 n,.int .i64 x.1,.int .i64 (cK n x.2),.int .i64 (x.3 - 1),.int .u64 x.4,.bool false]),some (.cells [.ptr 1 0,.raw (Value.pointer none)])]else K (.bool (ieq (↑(List.length R):Int) 0)) [some (.cells [.ptr 1 0,.bool (ieq (↑(List.length R):Int) 0),.ptr 5 0,.ptr 6 0,.bool dn]),some (.cells [.int .i64 t,.int .i64 n,.int .i64 me,.int .i64 x.1,.slice 4 0 (List.length R) 1]),some (.cells [.int .i64 s.1,.int .i64 s.2,.slice 3 0 (List.length (bif aS s.3 (n+4+x.2) x.4 then aJ s.3 (n+4+x.2) (WU (x.4+1))else s.3)) 1,.int .i64 (s.4+1),.int .i64 3,.int .i64 (n+4+x.2),.int .u64 (aB s.3 (n+4+x.2)),.int .u64 (bif bL s.3 (n+4+x.2)then WU (x.4+1)else 0),.bool (aS s.3 (n+4+x.2) x.4)]),some (.ints (some .u64) (bif aS s.3 (n+4+x.2) x.4 then aJ s.3 (n+4+x.2) (WU (x.4+1))else s.3)),some (.ints (some .i64) R),some (.cells [.int .i64 t,.int .i64 n,.int .i64 x.1,.int .i64 (cK n x.2),.int .i64 (x.3 - 1),.int .u64 x.4,.bool false]),some (.cells [.ptr 1 0,.raw (Value.pointer none)])]else bif oddB (aB s.3 (n+4+x.2))then bif !ile (x.3 - 1) 0 then K (.bool false) [some (.cells [.ptr 1 0,.bool sh,.ptr 5 0,.raw (Value.pointer none),.bool dn]),some (.cells [.int .i64 t,.int .i64 n,.int .i64 me,.int .i64 sp,.slice 4 0 (List.length R) 1]),some (.cells [.int .i64 s.1,.int .i64 s.2,.slice 3 0 (List.length s.3) 1,.int .i64 (s.4+1),.int .i64 1,.int .i64 (n+4+x.2),.int .u64 (aB s.3 (n+4+x.2)),.int .u64 (aB s.3 (n+4+x.2)),.bool (bL s.3 (n+4+x.2))]),some (.ints (some .u64) s.3),some (.ints (some .i64) R),some (.cells [.int .i64 t,.int .i64 n,.int .i64 x.1,.int .i64 (cK n x.2),.int .i64 (x.3 - 1),.int .u64 (aB s.3 (n+4+x.2)),.bool false])]else bif !ieq x.1 0 then K (.bool true) [some (.cells [.ptr 1 0,.bool sh,.ptr 5 0,.raw (Value.pointer none),.bool dn]),some (.cells [.int .i64 t,.int .i64 n,.int .i64 me,.int .i64 x.1,.slice 4 0 (List.length R) 1]),some (.cells [.int .i64 s.1,.int .i64 s.2,.slice 3 0 (List.length s.3) 1,.int .i64 (s.4+1),.int .i64 1,.int .i64 (n+4+x.2),.int .u64 (aB s.3 (n+4+x.2)),.int .u64 (aB s.3 (n+4+x.2)),.bool (bL s.3 (n+4+x.2))]),some (.ints (some .u64) s.3),some (.ints (some .i64) R),some (.cells [.int .i64 t,.int .i64 n,.int .i64 x.1,.int .i64 (cK n x.2),.int .i64 (x.3 - 1),.int .u64 (aB s.3 (n+4+x.2)),.bool false])]else bif dn then K (.bool true) [some (.cells [.ptr 1 0,.bool true,.ptr 5 0,.ptr 6 0,.bool dn]),some (.cells [.int .i64 t,.int .i64 n,.int .i64 me,.int .i64 x.1,.slice 4 0 (List.length R) 1]),some (.cells [.int .i64 s.1,.int .i64 s.2,.slice 3 0 (List.length s.3) 1,.int .i64 (s.4+1),.int .i64 1,.int .i64 (n+4+x.2),.int .u64 (aB s.3 (n+4+x.2)),.int .u64 (aB s.3 (n+4+x.2)),.bool (bL s.3 (n+4+x.2))]),some (.ints (some .u64) s.3),some (.ints (some .i64) R),some (.cells [.int .i64 t,.int .i64 n,.int .i64 x.1,.int .i64 (cK n x.2),.int .i64 (x.3 - 1),.int .u64 (aB s.3 (n+4+x.2)),.bool false]),some (.cells [.ptr 1 0,.raw (Value.pointer none)])]else K (.bool (ieq (↑(List.length R):Int) 0)) [some (.cells [.ptr 1 0,.bool (ieq (↑(List.length R):Int) 0),.ptr 5 0,.ptr 6 0,.bool dn]),some (.cells [.int .i64 t,.int .i64 n,.int .i64 me,.int .i64 x.1,.slice 4 0 (List.length R) 1]),some (.cells [.int .i64 s.1,.int .i64 s.2,.slice 3 0 (List.length s.3) 1,.int .i64 (s.4+1),.int .i64 1,.int .i64 (n+4+x.2),.int .u64 (aB s.3 (n+4+x.2)),.int .u64 (aB s.3 (n+4+x.2)),.bool (bL s.3 (n+4+x.2))]),some (.ints (some .u64) s.3),some (.ints (some .i64) R),some (.cells [.int .i64 t,.int .i64 n,.int .i64 x.1,.int .i64 (cK n x.2),.int .i64 (x.3 - 1),.int .u64 (aB s.3 (n+4+x.2)),.bool false]),some (.cells [.ptr 1 0,.raw (Value.pointer none)])]else K (.bool false) [some (.cells [.ptr 1 0,.bool sh,.ptr 5 0,.raw (Value.pointer none),.bool dn]),some (.cells [.int .i64 t,.int .i64 n,.int .i64 me,.int .i64 sp,.slice 4 0 (List.length R) 1]),some (.cells [.int .i64 s.1,.int .i64 s.2,.slice 3 0 (List.length s.3) 1,.int .i64 (s.4+1),.int .i64 1,.int .i64 (n+4+x.2),.int .u64 (aB s.3 (n+4+x.2)),.int .u64 (aB s.3 (n+4+x.2)),.bool (bL s.3 (n+4+x.2))]),some (.ints (some .u64) s.3),some (.ints (some .i64) R),some (.cells [.int .i64 t,.int .i64 n,.int .i64 x.1,.int .i64 x.2,.int .i64 x.3,.int .u64 (aB s.3 (n+4+x.2)),.bool true])]):cT' 85 [.ptr 0 0,.ptr 2 0] [some (.cells [.ptr 1 0,.bool sh,.ptr 5 0,.raw (.pointer none),.bool dn]),some (.cells [.int .i64 t,.int .i64 n,.int .i64 me,.int .i64 sp,.slice 4 0 R.length 1]),a9 3 s,bA s,some (.ints (some .i64) R),TG t n x] K:=by
 refine aBs (cM' (E:=E42) (by kernel_rfl) hK)
theorem aAn(t n me sp:Int)(R:List Int)(sh dn:Bool)(x:AL)(y:SWS)(s:MS)(K:AVal→aD Ob→Prop)(hK:((lE' s.3∧lE' R)∧((1:Int)≤t∧t≤(1000:Int))∧((1:Int)≤n∧n≤(1000:Int))∧((0:Int)≤s.4∧s.4≤(1000000:Int))∧List.length R≤(1000000:Nat))∧K (.bool false) [some (.cells [.ptr 1 0,.bool sh,.ptr 5 0,.ptr 6 0,.bool dn]),some (.cells [.int .i64 t,.int .i64 n,.int .i64 me,.int .i64 sp,.slice 4 0 (List.length R) 1]),some (.cells [.int .i64 s.1,.int .i64 s.2,.slice 3 0 (List.length s.3) 1,.int .i64 (s.4+1),.int .i64 1,.int .i64 (bR n 0),.int .u64 (aB s.3 (bR n 0)),.int .u64 (aB s.3 (bR n 0)),.bool (bL s.3 (bR n 0))]),some (.ints (some .u64) s.3),some (.ints (some .i64) R),some (.cells [.int .i64 t,.int .i64 n,.int .i64 x.1,.int .i64 x.2,.int .i64 x.3,.int .u64 x.4,.bool x.5]),some (.cells [.ptr 1 0,.ptr 7 0]),some (.cells [.int .i64 t,.int .i64 n,.raw (Value.slice none 0 0),.raw (Value.slice none 0 0),.slice 8 0 (List.length R) 1,.map 9,.int .i64 1,.raw (Value.pointer none)]),some (.ints (some .i64) R),some (.imap .i64 none (aU [] n 0 s))]):cT' 85 [.ptr 0 0,.ptr 2 0] [some (.cells [.ptr 1 0,.bool sh,.ptr 5 0,.ptr 6 0,.bool dn]),some (.cells [.int .i64 t,.int .i64 n,.int .i64 me,.int .i64 sp,.slice 4 0 R.length 1]),a9 3 s,bA s,some (.ints (some .i64) R),TG t n x,some (.cells [.ptr 1 0,.raw (.pointer none)])] K:=by
 refine aBs (cM' (E:=E42) (by kernel_rfl) hK)
theorem aAo(t n me sp:Int)(R:List Int)(sh dn:Bool)(x:AL)(y:SWS)(s:MS)(K:AVal→aD Ob→Prop)(hK:((lE' s.3∧lE' R∧lE' y.2∧t=t∧n=n)∧((1:Int)≤t∧t≤(1000:Int))∧((1:Int)≤n∧n≤(1000:Int))∧((0:Int)≤s.4∧s.4≤(1000000:Int))∧List.length y.2≤(1000000:Nat)∧(0:Int)≤y.4∧y.4<(2:Int)*t)∧bif ieq (y.4+1) (2*t)then bif ieq (↑(List.length (aV (aU y.3 n y.4 s) y.2)):Int) 0 then K (.bool (ieq (↑(List.length (aV (aU y.3 n y.4 s) y.2)):Int) 0)) [some (.cells [.ptr 1 0,.bool (ieq (↑(List.length (aV (aU y.3 n y.4 s) y.2)):Int) 0),.raw (Value.pointer none),.raw (Value.pointer none),.bool true]),some (.cells [.int .i64 t,.int .i64 n,.int .i64 me,.int .i64 sp,.slice 10 0 (List.length (cM (aU y.3 n y.4 s) y.2)) 1]),some (.cells [.int .i64 s.1,.int .i64 s.2,.slice 3 0 (List.length s.3) 1,.int .i64 (s.4+1),.int .i64 1,.int .i64 (bR n y.4),.int .u64 (aB s.3 (bR n y.4)),.int .u64 (aB s.3 (bR n y.4)),.bool (bL s.3 (bR n y.4))]),some (.ints (some .u64) s.3),some (.ints (some .i64) R),some (.cells [.int .i64 t,.int .i64 n,.int .i64 x.1,.int .i64 x.2,.int .i64 x.3,.int .u64 x.4,.bool x.5]),some (.cells [.ptr 1 0,.ptr 7 0]),some (.cells [.int .i64 t,.int .i64 n,.slice 10 0 (List.length (cM (aU y.3 n y.4 s) y.2)) 1,.slice 11 0 (List.length (aV (aU y.3 n y.4 s) y.2)) 1,.slice 8 0 (List.length y.2) 1,.map 9,.int .i64 (y.4+1),.ptr 12 0]),some (.ints (some .i64) y.2),some (.imap .i64 none (aU y.3 n y.4 s)),some (.ints (some .i64) (cM (aU y.3 n y.4 s) y.2)),some (.ints (some .i64) (aV (aU y.3 n y.4 s) y.2)),some (.cells [.int .i64 t,.int .i64 n,.slice 13 0 (List.length (aV (aU y.3 n y.4 s) y.2)) 1]),some (.ints (some .i64) (aV (aU y.3 n y.4 s) y.2))]else K (.bool false) [some (.cells [.ptr 1 0,.bool sh,.ptr 5 0,.ptr 6 0,.bool dn]),some (.cells [.int .i64 t,.int .i64 n,.int .i64 me,.int .i64 sp,.slice 4 0 (List.length R) 1]),some (.cells [.int .i64 s.1,.int .i64 s.2,.slice 3 0 (List.length s.3) 1,.int .i64 (s.4+1),.int .i64 1,.int .i64 (bR n y.4),.int .u64 (aB s.3 (bR n y.4)),.int .u64 (aB s.3 (bR n y.4)),.bool (bL s.3 (bR n y.4))]),some (.ints (some .u64) s.3),some (.ints (some .i64) R),some (.cells [.int .i64 t,.int .i64 n,.int .i64 x.1,.int .i64 x.2,.int .i64 x.3,.int .u64 x.4,.bool x.5]),some (.cells [.ptr 1 0,.ptr 7 0]),some (.cells [.int .i64 t,.int .i64 n,.slice 10 0 (List.length (cM (aU y.3 n y.4 s) y.2)) 1,.slice 11 0 (List.length (aV (aU y.3 n y.4 s) y.2)) 1,.slice 8 0 (List.length y.2) 1,.map 9,.int .i64 (y.4+1),.ptr 12 0]),some (.ints (some .i64) y.2),some (.imap .i64 none (aU y.3 n y.4 s)),some (.ints (some .i64) (cM (aU y.3 n y.4 s) y.2)),some (.ints (some .i64) (aV (aU y.3 n y.4 s) y.2)),some (.cells [.int .i64 t,.int .i64 n,.slice 13 0 (List.length (aV (aU y.3 n y.4 s) y.2)) 1]),some (.ints (some .i64) (aV (aU y.3 n y.4 s) y.2))]else K (.bool false) [some (.cells [.ptr 1 0,.bool sh,.ptr 5 0,.ptr 6 0,.bool dn]),some (.cells [.int .i64 t,.int .i64 n,.int .i64 me,.int .i64 sp,.slice 4 0 (List.length R) 1]),some (.cells [.int .i64 s.1,.int .i64 s.2,.slice 3 0 (List.length s.3) 1,.int .i64 (s.4+1),.int .i64 1,.int .i64 (bR n y.4),.int .u64 (aB s.3 (bR n y.4)),.int .u64 (aB s.3 (bR n y.4)),.bool (bL s.3 (bR n y.4))]),some (.ints (some .u64) s.3),some (.ints (some .i64) R),some (.cells [.int .i64 t,.int .i64 n,.int .i64 x.1,.int .i64 x.2,.int .i64 x.3,.int .u64 x.4,.bool x.5]),some (.cells [.ptr 1 0,.ptr 7 0]),some (.cells [.int .i64 t,.int .i64 n,.raw (Value.slice none 0 0),.raw (Value.slice none 0 0),.slice 8 0 (List.length y.2) 1,.map 9,.int .i64 (y.4+1),.raw (Value.pointer none)]),some (.ints (some .i64) y.2),some (.imap .i64 none (aU y.3 n y.4 s))]):cT' 85 [.ptr 0 0,.ptr 2 0] [some (.cells [.ptr 1 0,.bool sh,.ptr 5 0,.ptr 6 0,.bool dn]),some (.cells [.int .i64 t,.int .i64 n,.int .i64 me,.int .i64 sp,.slice 4 0 R.length 1]),a9 3 s,bA s,some (.ints (some .i64) R),TG t n x,some (.cells [.ptr 1 0,.ptr 7 0]),some (.cells [.int .i64 t,.int .i64 n,.raw (.slice none 0 0),.raw (.slice none 0 0),.slice 8 0 y.N.length 1,.map 9,.int .i64 y.i,.raw (.pointer none)]),some (.ints (some .i64) y.N),some (.imap .i64 none y.m)] K:=by
 refine aBs (cM' (E:=E42) (by kernel_rfl) hK)
theorem aAp(t n me sp:Int)(R:List Int)(sh dn:Bool)(x:AL)(y:SWS)(s:MS)(K:AVal→aD Ob→Prop)(hK:((lE' s.3∧lE' R∧lE' y.5∧lE' y.6∧lE' y.2∧t=t∧n=n∧t=t∧n=n)∧((1:Int)≤t∧t≤(1000:Int))∧((1:Int)≤n∧n≤(1000:Int))∧((0:Int)≤s.4∧s.4≤(1000000:Int))∧2*t≤y.4∧((1:Nat)≤y.9∧List.length y.7=y.8+y.9)∧(-1000000:Int)≤List.getD y.7 (y.8+Int.toNat 0*1) 0∧List.getD y.7 (y.8+Int.toNat 0*1) (0:Int)≤(1000000:Int))∧bif ieq (↑(y.9 - 1):Int) 0 then K (.bool (ieq (↑(List.length y.6):Int) 0)) [some (.cells [.ptr 1 0,.bool (ieq (↑(List.length y.6):Int) 0),.raw (Value.pointer none),.raw (Value.pointer none),.bool true]),some (.cells [.int .i64 t,.int .i64 n,.int .i64 me,.int .i64 sp,.slice 8 0 (List.length y.5) 1]),some (.cells [.int .i64 s.1,.int .i64 s.2,.slice 3 0 (List.length (aJ s.3 (bV n y.7 y.8) (WU (aB s.3 (bV n y.7 y.8)+1)))) 1,.int .i64 (s.4+1),.int .i64 4,.int .i64 (bV n y.7 y.8),.int .u64 (aB s.3 (bV n y.7 y.8)),.int .u64 (bif bL s.3 (bV n y.7 y.8)then WU (aB s.3 (bV n y.7 y.8)+1)else 0),.bool (bL s.3 (bV n y.7 y.8))]),some (.ints (some .u64) (aJ s.3 (bV n y.7 y.8) (WU (aB s.3 (bV n y.7 y.8)+1)))),some (.ints (some .i64) R),some (.cells [.int .i64 t,.int .i64 n,.int .i64 x.1,.int .i64 x.2,.int .i64 x.3,.int .u64 x.4,.bool x.5]),some (.cells [.ptr 1 0,.ptr 7 0]),some (.cells [.int .i64 t,.int .i64 n,.slice 8 0 (List.length y.5) 1,.slice 9 0 (List.length y.6) 1,.slice 10 0 (List.length y.2) 1,.map 11,.int .i64 y.4,.ptr 12 0]),some (.ints (some .i64) y.5),some (.ints (some .i64) y.6),some (.ints (some .i64) y.2),some (.imap .i64 none y.3),some (.cells [.int .i64 t,.int .i64 n,.slice 13 (y.8+1) (y.9 - 1) 1]),some (.ints (some .i64) y.7)]else K (.bool false) [some (.cells [.ptr 1 0,.bool sh,.ptr 5 0,.ptr 6 0,.bool dn]),some (.cells [.int .i64 t,.int .i64 n,.int .i64 me,.int .i64 sp,.slice 4 0 (List.length R) 1]),some (.cells [.int .i64 s.1,.int .i64 s.2,.slice 3 0 (List.length (aJ s.3 (bV n y.7 y.8) (WU (aB s.3 (bV n y.7 y.8)+1)))) 1,.int .i64 (s.4+1),.int .i64 4,.int .i64 (bV n y.7 y.8),.int .u64 (aB s.3 (bV n y.7 y.8)),.int .u64 (bif bL s.3 (bV n y.7 y.8)then WU (aB s.3 (bV n y.7 y.8)+1)else 0),.bool (bL s.3 (bV n y.7 y.8))]),some (.ints (some .u64) (aJ s.3 (bV n y.7 y.8) (WU (aB s.3 (bV n y.7 y.8)+1)))),some (.ints (some .i64) R),some (.cells [.int .i64 t,.int .i64 n,.int .i64 x.1,.int .i64 x.2,.int .i64 x.3,.int .u64 x.4,.bool x.5]),some (.cells [.ptr 1 0,.ptr 7 0]),some (.cells [.int .i64 t,.int .i64 n,.slice 8 0 (List.length y.5) 1,.slice 9 0 (List.length y.6) 1,.slice 10 0 (List.length y.2) 1,.map 11,.int .i64 y.4,.ptr 12 0]),some (.ints (some .i64) y.5),some (.ints (some .i64) y.6),some (.ints (some .i64) y.2),some (.imap .i64 none y.3),some (.cells [.int .i64 t,.int .i64 n,.slice 13 (y.8+1) (y.9 - 1) 1]),some (.ints (some .i64) y.7)]):cT' 85 [.ptr 0 0,.ptr 2 0] [some (.cells [.ptr 1 0,.bool sh,.ptr 5 0,.ptr 6 0,.bool dn]),some (.cells [.int .i64 t,.int .i64 n,.int .i64 me,.int .i64 sp,.slice 4 0 R.length 1]),a9 3 s,bA s,some (.ints (some .i64) R),TG t n x,some (.cells [.ptr 1 0,.ptr 7 0]),some (.cells [.int .i64 t,.int .i64 n,.slice 8 0 y.ks.length 1,.slice 9 0 y.fs.length 1,.slice 10 0 y.N.length 1,.map 11,.int .i64 y.i,.ptr 12 0]),some (.ints (some .i64) y.ks),some (.ints (some .i64) y.fs),some (.ints (some .i64) y.N),some (.imap .i64 none y.m),some (.cells [.int .i64 t,.int .i64 n,.slice 13 y.j y.l 1]),some (.ints (some .i64) y.gs)] K:=by
 refine aBs (cM' (E:=E42) (by kernel_rfl) hK)
theorem en2(t n:Int)(e:ENS)(st:STS)(s:MS)(K:AVal→aD Ob→Prop)(hp:e.ph=2)(ok:KQ t n e st s)(hK:(enF t n e st s).left t n K):cT' 85 [.ptr 0 0,.ptr 2 0] (QH t n e st s) K:=by
 obtain⟨ht,hn,hc,hm,hR,ho⟩:=ok
 obtain⟨ph,sh,dn,x,y⟩:=e
 dsimp only at hp
 subst hp
 obtain⟨me,sp,R⟩:=st
 dsimp only at hm hR
 refine aC.pack tbl (aC.pack tbl ?_)
 refine aC.unpack tbl (.store t n ⟨me,sp,R⟩) 1 0 (iU t n ⟨me,sp,R⟩) [] rfl rfl rfl rfl ?_
 refine aC.unpack tbl (.ensure t n ⟨2,sh,dn,x,y⟩) 0 1 (GO t n ⟨2,sh,dn,x,y⟩) [1] rfl rfl rfl rfl ?_
 refine aAn t n me sp R sh dn x y s _ ?_
 exact⟨⟨⟨rfl,rfl⟩,ht,hn,hc,hR⟩,gK (o:=enF t n ⟨2,sh,dn,x,y⟩ ⟨me,sp,R⟩ s) [0,1,2,3,4,5,6,7,8,9] hK rfl rfl⟩
theorem en3(t n:Int)(e:ENS)(st:STS)(s:MS)(K:AVal→aD Ob→Prop)(hp:e.ph=3)(ok:KQ t n e st s)(hK:(enF t n e st s).left t n K):cT' 85 [.ptr 0 0,.ptr 2 0] (QH t n e st s) K:=by
 obtain⟨ht,hn,hc,hm,hR,ho⟩:=ok
 obtain⟨ph,sh,dn,x,y⟩:=e
 dsimp only at hp
 subst hp
 obtain⟨me,sp,R⟩:=st
 dsimp only at hm hR
 refine aC.pack tbl (aC.pack tbl ?_)
 refine aC.unpack tbl (.store t n ⟨me,sp,R⟩) 1 0 (iU t n ⟨me,sp,R⟩) [] rfl rfl rfl rfl ?_
 refine aC.unpack tbl (.ensure t n ⟨3,sh,dn,x,y⟩) 0 1 (GO t n ⟨3,sh,dn,x,y⟩) [1] rfl rfl rfl rfl ?_
 refine aAo t n me sp R sh dn x y s _ ?_
 have ho:y.N.length≤1000000∧0≤y.i∧y.i<2*t:=ho
 refine⟨⟨⟨rfl,rfl,rfl,rfl,rfl⟩,ht,hn,hc,ho.1,ho.2⟩,?_⟩
 unfold enF at hK
 dsimp only at hK
 cases h1:ieq (y.i+1) (2*t)with
 | false=>
   rw [h1]at hK
   exact gK (o:=⟨false,⟨3,sh,dn,x,{y with m:=aU y.m n y.i s,i:=y.i+1}⟩,⟨me,sp,R⟩,s.loadd (bR n y.i)⟩) [0,1,2,3,4,5,6,7,8,9] hK rfl rfl
 | true=>
   rw [h1]at hK
   cases h2:ieq ((aV (aU y.m n y.i s) y.N).length :Int) 0 with
   | true=>
     rw [h2]at hK
     exact gK (o:=⟨true,⟨0,true,true,x,y⟩,⟨me,sp,cM (aU y.m n y.i s) y.N⟩,s.loadd (bR n y.i)⟩) [0,1,2,3,10] hK rfl rfl
   | false=>
     rw [h2]at hK
     exact gK (o:=⟨false,⟨4,sh,dn,x,⟨0,y.N,aU y.m n y.i s,y.i+1,cM (aU y.m n y.i s) y.N,aV (aU y.m n y.i s) y.N,aV (aU y.m n y.i s) y.N,0,(aV (aU y.m n y.i s) y.N).length⟩⟩,⟨me,sp,R⟩,s.loadd (bR n y.i)⟩) [0,1,2,3,4,5,6,7,10,11,8,9,12,13] hK rfl rfl
theorem en4(t n:Int)(e:ENS)(st:STS)(s:MS)(K:AVal→aD Ob→Prop)(hp:e.ph=4)(ok:KQ t n e st s)(hK:(enF t n e st s).left t n K):cT' 85 [.ptr 0 0,.ptr 2 0] (QH t n e st s) K:=by
 obtain⟨ht,hn,hc,hm,hR,ho⟩:=ok
 obtain⟨ph,sh,dn,x,y⟩:=e
 dsimp only at hp
 subst hp
 obtain⟨me,sp,R⟩:=st
 dsimp only at hm hR
 refine aC.pack tbl (aC.pack tbl ?_)
 refine aC.unpack tbl (.store t n ⟨me,sp,R⟩) 1 0 (iU t n ⟨me,sp,R⟩) [] rfl rfl rfl rfl ?_
 refine aC.unpack tbl (.ensure t n ⟨4,sh,dn,x,y⟩) 0 1 (GO t n ⟨4,sh,dn,x,y⟩) [1] rfl rfl rfl rfl ?_
 refine aAp t n me sp R sh dn x y s _ ?_
 have ho:2*t≤y.i∧1≤y.l∧y.gs.length=y.j+y.l∧ -1000000≤List.getD y.gs (y.j+Int.toNat 0*1) 0∧List.getD y.gs (y.j+Int.toNat 0*1) 0≤1000000:=ho
 refine⟨⟨⟨rfl,rfl,rfl,rfl,rfl,rfl,rfl,rfl,rfl⟩,ht,hn,hc,ho.1,⟨ho.2.1,ho.2.2.1⟩,ho.2.2.2⟩,?_⟩
 unfold enF at hK
 dsimp only at hK
 cases h1:ieq ((y.l - 1:Nat):Int) 0 with
 | false=>
   rw [h1]at hK
   exact gK (o:=⟨false,⟨4,sh,dn,x,{y with j:=y.j+1,l:=y.l - 1}⟩,⟨me,sp,R⟩,s.added (bV n y.gs y.j) 1⟩) [0,1,2,3,4,5,6,7,8,9,10,11,12,13] hK rfl rfl
 | true=>
   rw [h1]at hK
   exact gK (o:=⟨ieq (y.fs.length:Int) 0,⟨0,ieq (y.fs.length:Int) 0,true,x,y⟩,⟨me,sp,y.ks⟩,s.added (bV n y.gs y.j) 1⟩) [0,1,2,3,8] hK rfl rfl
theorem en1(t n:Int)(e:ENS)(st:STS)(s:MS)(K:AVal→aD Ob→Prop)(hp:e.ph=1)(ok:KQ t n e st s)(hK:(enF t n e st s).left t n K):cT' 85 [.ptr 0 0,.ptr 2 0] (QH t n e st s) K:=by
 obtain⟨ht,hn,hc,hm,hR,ho⟩:=ok
 obtain⟨ph,sh,dn,x,y⟩:=e
 dsimp only at hp
 subst hp
 obtain⟨me,sp,R⟩:=st
 dsimp only at hm hR
 refine aC.pack tbl (aC.pack tbl ?_)
 refine aC.unpack tbl (.store t n ⟨me,sp,R⟩) 1 0 (iU t n ⟨me,sp,R⟩) [] rfl rfl rfl rfl ?_
 refine aC.unpack tbl (.ensure t n ⟨1,sh,dn,x,y⟩) 0 1 (GO t n ⟨1,sh,dn,x,y⟩) [1] rfl rfl rfl rfl ?_
 refine aAm t n me sp R sh dn x y s _ ?_
 have ho:okAl n x:=ho
 obtain⟨hg,ha,hl⟩:=ho
 refine⟨⟨rfl,ht,hn,ha,hl,hc⟩,?_⟩
 obtain⟨got,at',left,found,free⟩:=x
 dsimp only at hg ha hl⊢
 subst hg
 have i0:ieq at' 0=false:=by rw [b9];simp;omega
 have i00:ieq 0 0=true:=rfl
 rw [i0,i00]
 unfold enF jR zI at hK
 dsimp only at hK
 cases free with
 | false=>
   dsimp only [cond]at hK⊢
   cases ho:oddB (aB s.xs (n+4+at'))with
   | false=>
     rw [ho]at hK
     exact gK (o:=⟨false,⟨1,sh,dn,⟨0,at',left,aB s.xs (n+4+at'),true⟩,y⟩,⟨me,sp,R⟩,s.loadd (n+4+at')⟩) [0,1,2,3,4,5] hK rfl rfl
   | true=>
     rw [ho]at hK
     dsimp only [cond]at hK⊢
     cases hw:ile (left - 1) 0 with
     | false=>
       rw [hw]at hK
       exact gK (o:=⟨false,⟨1,sh,dn,⟨0,cK n at',left - 1,aB s.xs (n+4+at'),false⟩,y⟩,⟨me,sp,R⟩,s.loadd (n+4+at')⟩) [0,1,2,3,4,5] hK rfl rfl
     | true=>
       rw [hw]at hK
       cases dn with
       | true=>exact gK (o:=⟨true,⟨2,true,true,⟨0,cK n at',left - 1,aB s.xs (n+4+at'),false⟩,y⟩,⟨me,0,R⟩,s.loadd (n+4+at')⟩) [0,1,2,3,4,5,6] hK rfl rfl
       | false=>exact gK (o:=⟨ieq (R.length:Int) 0,⟨2,ieq (R.length:Int) 0,false,⟨0,cK n at',left - 1,aB s.xs (n+4+at'),false⟩,y⟩,⟨me,0,R⟩,s.loadd (n+4+at')⟩) [0,1,2,3,4,5,6] hK rfl rfl
 | true=>
   dsimp only [cond]at hK⊢
   unfold MS.cased at hK
   cases hb:aS s.xs (n+4+at') found with
   | true=>
     rw [hb]at hK
     exact gK (o:=⟨true,⟨1,sh,dn,⟨at',at',left,found,true⟩,y⟩,⟨me,at',R⟩,_⟩) [0,1,2,3,4,5] hK rfl rfl
   | false=>
     rw [hb]at hK
     dsimp only [cond]at hK⊢
     cases hw:ile (left - 1) 0 with
     | false=>
       rw [hw]at hK
       exact gK (o:=⟨false,⟨1,sh,dn,⟨0,cK n at',left - 1,found,false⟩,y⟩,⟨me,sp,R⟩,_⟩) [0,1,2,3,4,5] hK rfl rfl
     | true=>
       rw [hw]at hK
       cases dn with
       | true=>exact gK (o:=⟨true,⟨2,true,true,⟨0,cK n at',left - 1,found,false⟩,y⟩,⟨me,0,R⟩,_⟩) [0,1,2,3,4,5,6] hK rfl rfl
       | false=>exact gK (o:=⟨ieq (R.length:Int) 0,⟨2,ieq (R.length:Int) 0,false,⟨0,cK n at',left - 1,found,false⟩,y⟩,⟨me,0,R⟩,_⟩) [0,1,2,3,4,5,6] hK rfl rfl
theorem en0(t n:Int)(e:ENS)(st:STS)(s:MS)(K:AVal→aD Ob→Prop)(hp:e.ph=0)(ok:KQ t n e st s)(hK:(enF t n e st s).left t n K):cT' 85 [.ptr 0 0,.ptr 2 0] (QH t n e st s) K:=by
 obtain⟨ht,hn,hc,hm,hR,ho⟩:=ok
 obtain⟨ph,sh,dn,x,y⟩:=e
 dsimp only at hp
 subst hp
 obtain⟨me,sp,R⟩:=st
 dsimp only at hm hR
 refine aC.pack tbl (aC.pack tbl ?_)
 refine aC.unpack tbl (.store t n ⟨me,sp,R⟩) 1 0 (iU t n ⟨me,sp,R⟩) [] rfl rfl rfl rfl ?_
 refine aC.unpack tbl (.ensure t n ⟨0,sh,dn,x,y⟩) 0 1 (GO t n ⟨0,sh,dn,x,y⟩) [1] rfl rfl rfl rfl ?_
 refine aAl t n me sp R sh dn x y s _ ?_
 unfold enF jR zI at hK
 dsimp only at hK
 cases hz:ieq sp 0 with
 | false=>
   rw [hz]at hK
   exact⟨⟨rfl,by omega⟩,gK (o:=⟨true,⟨0,sh,dn,x,y⟩,⟨me,sp,R⟩,s.loadd 0⟩) [0,1,2,3,4] hK rfl rfl⟩
 | true=>
   rw [hz]at hK
   have ha:1≤at0 t n me∧at0 t n me≤n:=by
    unfold at0 bQ
    cases h1:(ile 1 (aN t n me))<;>cases h2:ile (aN t n me) n<;>simp only [Bool.and_true,Bool.and_false,Bool.and_self,cond_true,cond_false]<;>rw [cE]at h1 h2<;>simp at h1 h2<;>omega
   refine⟨⟨by omega,by omega⟩,⟨trivial,trivial⟩,⟨rfl,ht,hn,ha,by omega,hc⟩,?_⟩
   show cond (oddB (aB s.xs (n+4+at0 t n me))) _ _
   cases ho:oddB (aB s.xs (n+4+at0 t n me))with
   | false=>
     rw [ho]at hK
     exact gK (o:=⟨false,⟨1,sh,dn,⟨0,at0 t n me,n,aB s.xs (n+4+at0 t n me),true⟩,y⟩,⟨me,sp,R⟩,s.loadd (n+4+at0 t n me)⟩) [0,1,2,3,4,5] hK rfl rfl
   | true=>
     rw [ho]at hK
     dsimp only [cond]at hK⊢
     cases hw:ile (n - 1) 0 with
     | false=>
       rw [hw]at hK
       exact gK (o:=⟨false,⟨1,sh,dn,⟨0,cK n (at0 t n me),n - 1,aB s.xs (n+4+at0 t n me),false⟩,y⟩,⟨me,sp,R⟩,s.loadd (n+4+at0 t n me)⟩) [0,1,2,3,4,5] hK rfl rfl
     | true=>
       rw [hw]at hK
       cases dn with
       | true=>exact gK (o:=⟨true,⟨2,true,true,⟨0,cK n (at0 t n me),n - 1,aB s.xs (n+4+at0 t n me),false⟩,y⟩,⟨me,0,R⟩,s.loadd (n+4+at0 t n me)⟩) [0,1,2,3,4,5,6] hK rfl rfl
       | false=>exact gK (o:=⟨ieq (R.length:Int) 0,⟨2,ieq (R.length:Int) 0,false,⟨0,cK n (at0 t n me),n - 1,aB s.xs (n+4+at0 t n me),false⟩,y⟩,⟨me,0,R⟩,s.loadd (n+4+at0 t n me)⟩) [0,1,2,3,4,5,6] hK rfl rfl
theorem GV(t n:Int)(e:ENS)(st:STS)(s:MS)(K:AVal→aD Ob→Prop)(ok:KQ t n e st s)(hK:(enF t n e st s).left t n K):cT' 85 [.ptr 0 0,.ptr 2 0] (QH t n e st s) K:=by
 match h:e.ph with
 | 0=>exact en0 t n e st s K h ok hK
 | 1=>exact en1 t n e st s K h ok hK
 | 2=>exact en2 t n e st s K h ok hK
 | 3=>exact en3 t n e st s K h ok hK
 | 4=>exact en4 t n e st s K h ok hK
 | k+5=>have:=ok.ho;unfold ZE at this;rw [h]at this;exact this.elim
noncomputable def enS:aM Ob:=fun args h=>match args,h with
 | [.ptr 0 0,.ptr 2 0],[some (.abs (.ensure t n e) [1]),some (.abs (.store t' n' st) []),e1,e2]=>(match fD 3 [e1,e2]with
   | some (l,s)=>some (.pre ((l=s.xs.length∧t'=t∧n'=n)∧KQ t n e st s) (.ret (.bool (enF t n e st s).d) (QH t n (enF t n e st s).e (enF t n e st s).st (enF t n e st s).s)))
   | none=>none)
 | _,_=>none
theorem YR:aM.ok E42.I Tryz.prog 85 enS:=by
 intro args h o ho K hK
 unfold enS at ho
 split at ho
 case h_2=>cases ho
 split at ho<;>cases ho
 rename_i hm
 obtain⟨⟨⟨hl,ht',hn'⟩,ok⟩,hK⟩:=hK
 have hh:=cC hm hl
 cases hh
 subst ht' hn'
 exact GV _ _ _ _ _ K ok hK
noncomputable def enE:=E42.addS 85 enS YR
structure SO where
 d:Bool
 e:SWS
 st:STS
 s:MS
instance:Inhabited SO:=⟨⟨false,QB,⟨0,0,[]⟩,⟨0,0,[],0,0,0,0,0,false⟩⟩⟩
def swF(t n:Int)(y:SWS)(st:STS)(s:MS):SO:=match y.ph with
 | 0=>⟨false,{y with ph:=1,N:=st.R,m:=aU [] n 0 s,i:=1},st,s.loadd (bR n 0)⟩
 | 1=>(match ieq (y.i+1) (2*t),ieq ((aV (aU y.m n y.i s) y.N).length :Int) 0 with
   | true,true=>⟨true,{y with ph:=3},{st with R:=cM (aU y.m n y.i s) y.N},s.loadd (bR n y.i)⟩
   | true,false=>⟨false,⟨2,y.N,aU y.m n y.i s,y.i+1,cM (aU y.m n y.i s) y.N,aV (aU y.m n y.i s) y.N,aV (aU y.m n y.i s) y.N,0,(aV (aU y.m n y.i s) y.N).length⟩,st,s.loadd (bR n y.i)⟩
   | false,_=>⟨false,{y with m:=aU y.m n y.i s,i:=y.i+1},st,s.loadd (bR n y.i)⟩)
 | _=>(match ieq ((y.l - 1:Nat):Int) 0 with
   | true=>⟨true,{y with ph:=3},{st with R:=y.ks},s.added (bV n y.gs y.j) 1⟩
   | false=>⟨false,{y with j:=y.j+1,l:=y.l - 1},st,s.added (bV n y.gs y.j) 1⟩)
def TT(t n:Int)(y:SWS):Prop:=match y.ph with
 | 0=>True
 | 1=>y.N.length≤1000000∧0≤y.i∧y.i<2*t
 | 2=>2*t≤y.i∧1≤y.l∧y.gs.length=y.j+y.l∧ -1000000≤List.getD y.gs (y.j+Int.toNat 0*1) 0∧List.getD y.gs (y.j+Int.toNat 0*1) 0≤1000000
 | _=>False
structure v8 (t n:Int) (y:SWS) (st:STS) (s:MS):Prop where
 ht:1≤t∧t≤1000
 hn:1≤n∧n≤1000
 hc:0≤s.c∧s.c≤1000000
 hR:st.R.length≤1000000
 ho:TT t n y
def X9(t n:Int)(y:SWS)(st:STS)(s:MS):aD Ob:=[some (.abs (.sweep t n y) [1]),some (.abs (.store t n st) []),a9 3 s,bA s]
def SO.left(o:SO)(t n:Int)(K:AVal→aD Ob→Prop):Prop:=K (.bool o.d) (X9 t n o.e o.st o.s)
theorem yP{K:AVal→aD Ob→Prop}{t n:Int}{o:SO}{g':aD Ob}(pl:List Nat)(hK:o.left t n K)
 (hb:(fG pl g'.length&&kM pl 0 4&&tS 1 (O6 t n o.e))=true)
 (hT:gR pl g'=bT [some (.abs (.sweep t n o.e) [1]),some (.cells [.int .i64 t,.int .i64 n,.int .i64 o.st.me,.int .i64 o.st.sp,.slice 4 0 o.st.R.length 1]),a9 3 o.s,bA o.s,some (.ints (some .i64) o.st.R)] 0 1 (O6 t n o.e) [1]):AX tbl 4 (AX tbl 4 K) (.bool o.d) g':=by
 simp only [Bool.and_eq_true]at hb
 obtain⟨⟨b1,b2⟩,b3⟩:=hb
 refine⟨pl,_,.sweep t n o.e,0,1,_,[1],?_,hT,rfl,rfl,⟨[0,1,2,3,4],[some (.abs (.sweep t n o.e) [1]),some (.abs (.store t n o.st) []),a9 3 o.s,bA o.s],.store t n o.st,1,0,iU t n o.st,[],rfl,rfl,rfl,rfl,?_⟩⟩
 ·rw [b1,b2,b3];rfl
 ·exact hK
def O3(t n me sp:Int)(R:List Int)(y:SWS)(s:MS)(K:AVal→aD Ob→Prop):Prop:=((lE' s.3∧lE' R)∧((1:Int)≤t∧t≤(1000:Int))∧((1:Int)≤n∧n≤(1000:Int))∧((0:Int)≤s.4∧s.4≤(1000000:Int))∧List.length R≤(1000000:Nat))∧K (.bool false) [some (.cells [.ptr 1 0,.ptr 5 0]),some (.cells [.int .i64 t,.int .i64 n,.int .i64 me,.int .i64 sp,.slice 4 0 (List.length R) 1]),some (.cells [.int .i64 s.1,.int .i64 s.2,.slice 3 0 (List.length s.3) 1,.int .i64 (s.4+1),.int .i64 1,.int .i64 (bR n 0),.int .u64 (aB s.3 (bR n 0)),.int .u64 (aB s.3 (bR n 0)),.bool (bL s.3 (bR n 0))]),some (.ints (some .u64) s.3),some (.ints (some .i64) R),some (.cells [.int .i64 t,.int .i64 n,.raw (Value.slice none 0 0),.raw (Value.slice none 0 0),.slice 6 0 (List.length R) 1,.map 7,.int .i64 1,.raw (Value.pointer none)]),some (.ints (some .i64) R),some (.imap .i64 none (aU [] n 0 s))]
theorem aAz(t n me sp:Int)(R:List Int)(y:SWS)(s:MS)(K:AVal→aD Ob→Prop)(hK:O3 t n me sp R y s K):cT' 195 [.ptr 0 0,.ptr 2 0] [some (.cells [.ptr 1 0,.raw (.pointer none)]),some (.cells [.int .i64 t,.int .i64 n,.int .i64 me,.int .i64 sp,.slice 4 0 R.length 1]),a9 3 s,bA s,some (.ints (some .i64) R)] K:=
 (lH oT) _ _ _ (Ev.get (aR (p:=pG swStepS [.ptr 0 0,.ptr 2 0] [some (.cells [.ptr 1 0,.raw (.pointer none)]),some (.cells [.int .i64 t,.int .i64 n,.int .i64 me,.int .i64 sp,.slice 4 0 R.length 1]),a9 3 s,bA s,some (.ints (some .i64) R)] K) (q:=O3 t n me sp R y s K) (by kernel_rfl) hK))
def O4(t n me sp:Int)(R:List Int)(y:SWS)(s:MS)(K:AVal→aD Ob→Prop):Prop:=((lE' s.3∧lE' R∧lE' y.2∧t=t∧n=n)∧((1:Int)≤t∧t≤(1000:Int))∧((1:Int)≤n∧n≤(1000:Int))∧((0:Int)≤s.4∧s.4≤(1000000:Int))∧List.length y.2≤(1000000:Nat)∧(0:Int)≤y.4∧y.4<(2:Int)*t)∧bif ieq (y.4+1) (2*t)then bif ieq (↑(List.length (aV (aU y.3 n y.4 s) y.2)):Int) 0 then K (.bool true) [some (.cells [.ptr 1 0,.ptr 5 0]),some (.cells [.int .i64 t,.int .i64 n,.int .i64 me,.int .i64 sp,.slice 8 0 (List.length (cM (aU y.3 n y.4 s) y.2)) 1]),some (.cells [.int .i64 s.1,.int .i64 s.2,.slice 3 0 (List.length s.3) 1,.int .i64 (s.4+1),.int .i64 1,.int .i64 (bR n y.4),.int .u64 (aB s.3 (bR n y.4)),.int .u64 (aB s.3 (bR n y.4)),.bool (bL s.3 (bR n y.4))]),some (.ints (some .u64) s.3),some (.ints (some .i64) R),some (.cells [.int .i64 t,.int .i64 n,.slice 8 0 (List.length (cM (aU y.3 n y.4 s) y.2)) 1,.slice 9 0 (List.length (aV (aU y.3 n y.4 s) y.2)) 1,.slice 6 0 (List.length y.2) 1,.map 7,.int .i64 (y.4+1),.ptr 10 0]),some (.ints (some .i64) y.2),some (.imap .i64 none (aU y.3 n y.4 s)),some (.ints (some .i64) (cM (aU y.3 n y.4 s) y.2)),some (.ints (some .i64) (aV (aU y.3 n y.4 s) y.2)),some (.cells [.int .i64 t,.int .i64 n,.slice 11 0 (List.length (aV (aU y.3 n y.4 s) y.2)) 1]),some (.ints (some .i64) (aV (aU y.3 n y.4 s) y.2))]else K (.bool false) [some (.cells [.ptr 1 0,.ptr 5 0]),some (.cells [.int .i64 t,.int .i64 n,.int .i64 me,.int .i64 sp,.slice 4 0 (List.length R) 1]),some (.cells [.int .i64 s.1,.int .i64 s.2,.slice 3 0 (List.length s.3) 1,.int .i64 (s.4+1),.int .i64 1,.int .i64 (bR n y.4),.int .u64 (aB s.3 (bR n y.4)),.int .u64 (aB s.3 (bR n y.4)),.bool (bL s.3 (bR n y.4))]),some (.ints (some .u64) s.3),some (.ints (some .i64) R),some (.cells [.int .i64 t,.int .i64 n,.slice 8 0 (List.length (cM (aU y.3 n y.4 s) y.2)) 1,.slice 9 0 (List.length (aV (aU y.3 n y.4 s) y.2)) 1,.slice 6 0 (List.length y.2) 1,.map 7,.int .i64 (y.4+1),.ptr 10 0]),some (.ints (some .i64) y.2),some (.imap .i64 none (aU y.3 n y.4 s)),some (.ints (some .i64) (cM (aU y.3 n y.4 s) y.2)),some (.ints (some .i64) (aV (aU y.3 n y.4 s) y.2)),some (.cells [.int .i64 t,.int .i64 n,.slice 11 0 (List.length (aV (aU y.3 n y.4 s) y.2)) 1]),some (.ints (some .i64) (aV (aU y.3 n y.4 s) y.2))]else K (.bool false) [some (.cells [.ptr 1 0,.ptr 5 0]),some (.cells [.int .i64 t,.int .i64 n,.int .i64 me,.int .i64 sp,.slice 4 0 (List.length R) 1]),some (.cells [.int .i64 s.1,.int .i64 s.2,.slice 3 0 (List.length s.3) 1,.int .i64 (s.4+1),.int .i64 1,.int .i64 (bR n y.4),.int .u64 (aB s.3 (bR n y.4)),.int .u64 (aB s.3 (bR n y.4)),.bool (bL s.3 (bR n y.4))]),some (.ints (some .u64) s.3),some (.ints (some .i64) R),some (.cells [.int .i64 t,.int .i64 n,.raw (Value.slice none 0 0),.raw (Value.slice none 0 0),.slice 6 0 (List.length y.2) 1,.map 7,.int .i64 (y.4+1),.raw (Value.pointer none)]),some (.ints (some .i64) y.2),some (.imap .i64 none (aU y.3 n y.4 s))]
theorem aAA(t n me sp:Int)(R:List Int)(y:SWS)(s:MS)(K:AVal→aD Ob→Prop)(hK:O4 t n me sp R y s K):cT' 195 [.ptr 0 0,.ptr 2 0] [some (.cells [.ptr 1 0,.ptr 5 0]),some (.cells [.int .i64 t,.int .i64 n,.int .i64 me,.int .i64 sp,.slice 4 0 R.length 1]),a9 3 s,bA s,some (.ints (some .i64) R),some (.cells [.int .i64 t,.int .i64 n,.raw (.slice none 0 0),.raw (.slice none 0 0),.slice 6 0 y.N.length 1,.map 7,.int .i64 y.i,.raw (.pointer none)]),some (.ints (some .i64) y.N),some (.imap .i64 none y.m)] K:=
 (lH oT) _ _ _ (Ev.get (aR (p:=pG swStepS [.ptr 0 0,.ptr 2 0] [some (.cells [.ptr 1 0,.ptr 5 0]),some (.cells [.int .i64 t,.int .i64 n,.int .i64 me,.int .i64 sp,.slice 4 0 R.length 1]),a9 3 s,bA s,some (.ints (some .i64) R),some (.cells [.int .i64 t,.int .i64 n,.raw (.slice none 0 0),.raw (.slice none 0 0),.slice 6 0 y.N.length 1,.map 7,.int .i64 y.i,.raw (.pointer none)]),some (.ints (some .i64) y.N),some (.imap .i64 none y.m)] K) (q:=O4 t n me sp R y s K) (by kernel_rfl) hK))
def O5(t n me sp:Int)(R:List Int)(y:SWS)(s:MS)(K:AVal→aD Ob→Prop):Prop:=((lE' s.3∧lE' R∧lE' y.5∧lE' y.6∧lE' y.2∧t=t∧n=n∧t=t∧n=n)∧((1:Int)≤t∧t≤(1000:Int))∧((1:Int)≤n∧n≤(1000:Int))∧((0:Int)≤s.4∧s.4≤(1000000:Int))∧2*t≤y.4∧((1:Nat)≤y.9∧List.length y.7=y.8+y.9)∧(-1000000:Int)≤List.getD y.7 (y.8+Int.toNat 0*1) 0∧List.getD y.7 (y.8+Int.toNat 0*1) (0:Int)≤(1000000:Int))∧bif ieq (↑(y.9 - 1):Int) 0 then K (.bool true) [some (.cells [.ptr 1 0,.ptr 5 0]),some (.cells [.int .i64 t,.int .i64 n,.int .i64 me,.int .i64 sp,.slice 6 0 (List.length y.5) 1]),some (.cells [.int .i64 s.1,.int .i64 s.2,.slice 3 0 (List.length (aJ s.3 (bV n y.7 y.8) (WU (aB s.3 (bV n y.7 y.8)+1)))) 1,.int .i64 (s.4+1),.int .i64 4,.int .i64 (bV n y.7 y.8),.int .u64 (aB s.3 (bV n y.7 y.8)),.int .u64 (bif bL s.3 (bV n y.7 y.8)then WU (aB s.3 (bV n y.7 y.8)+1)else 0),.bool (bL s.3 (bV n y.7 y.8))]),some (.ints (some .u64) (aJ s.3 (bV n y.7 y.8) (WU (aB s.3 (bV n y.7 y.8)+1)))),some (.ints (some .i64) R),some (.cells [.int .i64 t,.int .i64 n,.slice 6 0 (List.length y.5) 1,.slice 7 0 (List.length y.6) 1,.slice 8 0 (List.length y.2) 1,.map 9,.int .i64 y.4,.ptr 10 0]),some (.ints (some .i64) y.5),some (.ints (some .i64) y.6),some (.ints (some .i64) y.2),some (.imap .i64 none y.3),some (.cells [.int .i64 t,.int .i64 n,.slice 11 (y.8+1) (y.9 - 1) 1]),some (.ints (some .i64) y.7)]else K (.bool false) [some (.cells [.ptr 1 0,.ptr 5 0]),some (.cells [.int .i64 t,.int .i64 n,.int .i64 me,.int .i64 sp,.slice 4 0 (List.length R) 1]),some (.cells [.int .i64 s.1,.int .i64 s.2,.slice 3 0 (List.length (aJ s.3 (bV n y.7 y.8) (WU (aB s.3 (bV n y.7 y.8)+1)))) 1,.int .i64 (s.4+1),.int .i64 4,.int .i64 (bV n y.7 y.8),.int .u64 (aB s.3 (bV n y.7 y.8)),.int .u64 (bif bL s.3 (bV n y.7 y.8)then WU (aB s.3 (bV n y.7 y.8)+1)else 0),.bool (bL s.3 (bV n y.7 y.8))]),some (.ints (some .u64) (aJ s.3 (bV n y.7 y.8) (WU (aB s.3 (bV n y.7 y.8)+1)))),some (.ints (some .i64) R),some (.cells [.int .i64 t,.int .i64 n,.slice 6 0 (List.length y.5) 1,.slice 7 0 (List.length y.6) 1,.slice 8 0 (List.length y.2) 1,.map 9,.int .i64 y.4,.ptr 10 0]),some (.ints (some .i64) y.5),some (.ints (some .i64) y.6),some (.ints (some .i64) y.2),some (.imap .i64 none y.3),some (.cells [.int .i64 t,.int .i64 n,.slice 11 (y.8+1) (y.9 - 1) 1]),some (.ints (some .i64) y.7)]
theorem aAB(t n me sp:Int)(R:List Int)(y:SWS)(s:MS)(K:AVal→aD Ob→Prop)(hK:O5 t n me sp R y s K):cT' 195 [.ptr 0 0,.ptr 2 0] [some (.cells [.ptr 1 0,.ptr 5 0]),some (.cells [.int .i64 t,.int .i64 n,.int .i64 me,.int .i64 sp,.slice 4 0 R.length 1]),a9 3 s,bA s,some (.ints (some .i64) R),some (.cells [.int .i64 t,.int .i64 n,.slice 6 0 y.ks.length 1,.slice 7 0 y.fs.length 1,.slice 8 0 y.N.length 1,.map 9,.int .i64 y.i,.ptr 10 0]),some (.ints (some .i64) y.ks),some (.ints (some .i64) y.fs),some (.ints (some .i64) y.N),some (.imap .i64 none y.m),some (.cells [.int .i64 t,.int .i64 n,.slice 11 y.j y.l 1]),some (.ints (some .i64) y.gs)] K:=
 (lH oT) _ _ _ (Ev.get (aR (p:=pG swStepS [.ptr 0 0,.ptr 2 0] [some (.cells [.ptr 1 0,.ptr 5 0]),some (.cells [.int .i64 t,.int .i64 n,.int .i64 me,.int .i64 sp,.slice 4 0 R.length 1]),a9 3 s,bA s,some (.ints (some .i64) R),some (.cells [.int .i64 t,.int .i64 n,.slice 6 0 y.ks.length 1,.slice 7 0 y.fs.length 1,.slice 8 0 y.N.length 1,.map 9,.int .i64 y.i,.ptr 10 0]),some (.ints (some .i64) y.ks),some (.ints (some .i64) y.fs),some (.ints (some .i64) y.N),some (.imap .i64 none y.m),some (.cells [.int .i64 t,.int .i64 n,.slice 11 y.j y.l 1]),some (.ints (some .i64) y.gs)] K) (q:=O5 t n me sp R y s K) (by kernel_rfl) hK))
theorem wc{x y:Option (aG Ob)}{g g2:aD Ob}(h:pA x y)(k:kS g g2):kS (x::g) (y::g2):=⟨h,k⟩
theorem wv{v w:AVal}{vs ws:List AVal}(h:w=v∨w=.O)(k:oB vs ws):oB (v::vs) (w::ws):=⟨h,k⟩
theorem aAD:oB [] []:=trivial
theorem ZT{vs ws:List AVal}(h:oB vs ws):pA (some (.cells vs):Option (aG Ob)) (some (.cells ws)):=h
theorem wvs: ∀vs:List AVal,oB vs vs
 | []=>trivial
 | v::vs=>⟨.inl rfl,wvs vs⟩
theorem ZU: ∀x:Option (aG Ob),pA x x
 | none=>trivial
 | some (.cells vs)=>wvs vs
 | some (.ints c xs)=>rfl
 | some (.abs t ps)=>rfl
 | some (.tab ks r)=>rfl
 | some (.imap k v m)=>rfl
theorem F4: ∀g:aD Ob,kS g g
 | []=>trivial
 | x::g=>⟨ZU x,F4 g⟩
theorem uB{K:AVal→aD Ob→Prop}{v:AVal}{g:aD Ob}(h:K v g):KV K v g:=⟨g,F4 g,h⟩
theorem CE{K:AVal→aD Ob→Prop}{v a b:AVal}{g:aD Ob}(h:K v (some (.cells [a,.O])::g)):KV K v (some (.cells [a,b])::g):=⟨_,wc (ZT (wv (.inl rfl) (wv (.inr rfl) aAD))) (F4 g),h⟩
theorem sw0(t n:Int)(y:SWS)(st:STS)(s:MS)(K:AVal→aD Ob→Prop)(hp:y.ph=0)(ok:v8 t n y st s)(hK:(swF t n y st s).left t n K):cT' 195 [.ptr 0 0,.ptr 2 0] (X9 t n y st s) K:=by
 obtain⟨ht,hn,hc,hR,ho⟩:=ok
 obtain⟨ph,N,m,i,ks,fs,gs,j,l⟩:=y
 dsimp only at hp
 subst hp
 obtain⟨me,sp,R⟩:=st
 dsimp only at hR
 refine aC.pack tbl (aC.pack tbl (aB7 ?_))
 refine aC.unpack tbl (.store t n ⟨me,sp,R⟩) 1 0 (iU t n ⟨me,sp,R⟩) [] rfl rfl rfl rfl ?_
 refine aC.unpack tbl (.sweep t n ⟨0,N,m,i,ks,fs,gs,j,l⟩) 0 1 (O6 t n ⟨0,N,m,i,ks,fs,gs,j,l⟩) [1] rfl rfl rfl rfl ?_
 refine aAz t n me sp R ⟨0,N,m,i,ks,fs,gs,j,l⟩ s _ ?_
 unfold O3
 exact⟨⟨⟨rfl,rfl⟩,ht,hn,hc,hR⟩,uB (yP (o:=swF t n ⟨0,N,m,i,ks,fs,gs,j,l⟩ ⟨me,sp,R⟩ s) [0,1,2,3,4,5,6,7] hK rfl rfl)⟩
theorem sw1(t n:Int)(y:SWS)(st:STS)(s:MS)(K:AVal→aD Ob→Prop)(hp:y.ph=1)(ok:v8 t n y st s)(hK:(swF t n y st s).left t n K):cT' 195 [.ptr 0 0,.ptr 2 0] (X9 t n y st s) K:=by
 obtain⟨ht,hn,hc,hR,ho⟩:=ok
 obtain⟨ph,N,m,i,ks,fs,gs,j,l⟩:=y
 dsimp only at hp
 subst hp
 obtain⟨me,sp,R⟩:=st
 dsimp only at hR
 refine aC.pack tbl (aC.pack tbl (aB7 ?_))
 refine aC.unpack tbl (.store t n ⟨me,sp,R⟩) 1 0 (iU t n ⟨me,sp,R⟩) [] rfl rfl rfl rfl ?_
 refine aC.unpack tbl (.sweep t n ⟨1,N,m,i,ks,fs,gs,j,l⟩) 0 1 (O6 t n ⟨1,N,m,i,ks,fs,gs,j,l⟩) [1] rfl rfl rfl rfl ?_
 refine aAA t n me sp R ⟨1,N,m,i,ks,fs,gs,j,l⟩ s _ ?_
 unfold O4
 have ho:N.length≤1000000∧0≤i∧i<2*t:=ho
 refine⟨⟨⟨rfl,rfl,rfl,rfl,rfl⟩,ht,hn,hc,ho.1,ho.2⟩,?_⟩
 unfold swF at hK
 dsimp only at hK⊢
 cases h1:ieq (i+1) (2*t)with
 | false=>
   rw [h1]at hK
   exact uB (yP (o:=⟨false,⟨1,N,aU m n i s,i+1,ks,fs,gs,j,l⟩,⟨me,sp,R⟩,s.loadd (bR n i)⟩) [0,1,2,3,4,5,6,7] hK rfl rfl)
 | true=>
   rw [h1]at hK
   cases h2:ieq ((aV (aU m n i s) N).length :Int) 0 with
   | true=>
     rw [h2]at hK
     exact CE (yP (o:=⟨true,⟨3,N,m,i,ks,fs,gs,j,l⟩,⟨me,sp,cM (aU m n i s) N⟩,s.loadd (bR n i)⟩) [0,1,2,3,8] hK rfl rfl)
   | false=>
     rw [h2]at hK
     exact uB (yP (o:=⟨false,⟨2,N,aU m n i s,i+1,cM (aU m n i s) N,aV (aU m n i s) N,aV (aU m n i s) N,0,(aV (aU m n i s) N).length⟩,⟨me,sp,R⟩,s.loadd (bR n i)⟩) [0,1,2,3,4,5,8,9,6,7,10,11] hK rfl rfl)
theorem sw2(t n:Int)(y:SWS)(st:STS)(s:MS)(K:AVal→aD Ob→Prop)(hp:y.ph=2)(ok:v8 t n y st s)(hK:(swF t n y st s).left t n K):cT' 195 [.ptr 0 0,.ptr 2 0] (X9 t n y st s) K:=by
 obtain⟨ht,hn,hc,hR,ho⟩:=ok
 obtain⟨ph,N,m,i,ks,fs,gs,j,l⟩:=y
 dsimp only at hp
 subst hp
 obtain⟨me,sp,R⟩:=st
 dsimp only at hR
 refine aC.pack tbl (aC.pack tbl (aB7 ?_))
 refine aC.unpack tbl (.store t n ⟨me,sp,R⟩) 1 0 (iU t n ⟨me,sp,R⟩) [] rfl rfl rfl rfl ?_
 refine aC.unpack tbl (.sweep t n ⟨2,N,m,i,ks,fs,gs,j,l⟩) 0 1 (O6 t n ⟨2,N,m,i,ks,fs,gs,j,l⟩) [1] rfl rfl rfl rfl ?_
 refine aAB t n me sp R ⟨2,N,m,i,ks,fs,gs,j,l⟩ s _ ?_
 unfold O5
 have ho:2*t≤i∧1≤l∧gs.length=j+l∧ -1000000≤List.getD gs (j+Int.toNat 0*1) 0∧List.getD gs (j+Int.toNat 0*1) 0≤1000000:=ho
 refine⟨⟨⟨rfl,rfl,rfl,rfl,rfl,rfl,rfl,rfl,rfl⟩,ht,hn,hc,ho.1,⟨ho.2.1,ho.2.2.1⟩,ho.2.2.2⟩,?_⟩
 unfold swF at hK
 dsimp only at hK⊢
 cases h1:ieq ((l - 1:Nat):Int) 0 with
 | false=>
   rw [h1]at hK
   exact uB (yP (o:=⟨false,⟨2,N,m,i,ks,fs,gs,j+1,l - 1⟩,⟨me,sp,R⟩,s.added (bV n gs j) 1⟩) [0,1,2,3,4,5,6,7,8,9,10,11] hK rfl rfl)
 | true=>
   rw [h1]at hK
   exact CE (yP (o:=⟨true,⟨3,N,m,i,ks,fs,gs,j,l⟩,⟨me,sp,ks⟩,s.added (bV n gs j) 1⟩) [0,1,2,3,6] hK rfl rfl)
theorem S5(t n:Int)(y:SWS)(st:STS)(s:MS)(K:AVal→aD Ob→Prop)(ok:v8 t n y st s)(hK:(swF t n y st s).left t n K):cT' 195 [.ptr 0 0,.ptr 2 0] (X9 t n y st s) K:=by
 match h:y.ph with
 | 0=>exact sw0 t n y st s K h ok hK
 | 1=>exact sw1 t n y st s K h ok hK
 | 2=>exact sw2 t n y st s K h ok hK
 | k+3=>have:=ok.ho;unfold TT at this;rw [h]at this;exact this.elim
theorem tL{I:Itp Ob}{n:Nat}{K:AVal→aD Ob→Prop}{d:Bool}{a b g:aD Ob}(hK:(Out.ite d (.ret (.bool true) a) (.ret (.bool false) b)).run K)(h1:K (.bool true) a→iW I n K (.bool true) g)(h2:d=false→K (.bool false) b→iW I n K (.bool false) g):iW I n K (.bool d) g:=by
 cases d with
 | true=>exact h1 hK
 | false=>exact h2 rfl hK
abbrev stC(l:Nat)(t n:Int)(st:STS):Option (aG Mc):=some (.cells [.int .i64 t,.int .i64 n,.int .i64 st.me,.int .i64 st.sp,.slice l 0 st.R.length 1])
abbrev mG(st:STS):Option (aG Mc):=some (.ints (some .i64) st.R)
def uH(w:Nat)(h:aD Ob):Option (Nat×Int×Int×STS):=match h with
 | [some (.cells [.int .i64 t,.int .i64 n,.int .i64 me,.int .i64 sp,.slice l 0 len 1]),some (.ints (some .i64) xs)]=>if l=w then some (len,t,n,⟨me,sp,xs⟩)else none
 | _=>none
theorem dX{w:Nat}{h:aD Ob}{l:Nat}{t n:Int}{st:STS}(e:uH w h=some (l,t,n,st))(hl:l=st.R.length):h=[stC w t n st,mG st]:=by
 unfold uH at e
 split at e
 ·split at e
  ·rename_i hw
   simp only [sI',pI']at e
   obtain⟨rfl,rfl,rfl,rfl⟩:=e
   subst hw
   simp only at hl;subst hl;rfl
  ·cases e
 ·cases e
theorem oS{f:FuncId}{t n:Int}{st st':STS}{s s':MS}{M:Mc}{e1 e2:aG Mc}{d:Bool}(h1: ∀ι:Nat→Nat,ι 1=1→e1.ren ι=e1)(h2: ∀ι:Nat→Nat,ι 1=1→e2.ren ι=e2)
 (hA: ∀K,(Out.ite d (.ret (.bool true) [some e1,some (.abs (.store t n st') []),a9 3 s',bA s']) (.ret (.bool false) [some e2,some (.abs (.store t n st') []),a9 3 s',bA s'])).run K→cT' f [.ptr 0 0,.ptr 2 0] [some (.abs M [1]),some (.abs (.store t n st) []),a9 3 s,bA s] K)
 (K:AVal→aD Ob→Prop) (hK:(Out.ite d (.ret (.bool true) [some e1,stC 5 t n st',none,a9 4 s',bA s',mG st']) (.ret (.bool false) [some e2,stC 5 t n st',none,a9 4 s',bA s',mG st'])).run K):
 cT' f [.ptr 0 0,.ptr 3 0] [some (.abs M [1]),stC 2 t n st,mG st,a9 4 s,bA s] K:=by
 refine aBV ?_
 refine aCb (h0:=[some (.abs M [1]),stC 4 t n st,a9 3 s,bA s,mG st]) (args0:=[.ptr 0 0,.ptr 2 0]) (K0:=fun v g=>iW (obI tbl) 5 K (v.ren (iota [0,1,3,4,2] 5)) (oY [some (.abs M [1]),stC 2 t n st,mG st,a9 4 s,bA s] [0,1,3,4,2] g)) ?_ [0,1,3,4,2] rfl (by decide) (by intro l hl;simp at hl⊢;omega) ?_ rfl (fun v g hk _=>hk)
 ·refine aCg tbl [some (.abs M [1]),some (.abs (.store t n st) []),a9 3 s,bA s] (.store t n st) 1 0 (iU t n st) [] (by kernel_rfl) rfl rfl (by kernel_rfl) (hA _ ?_)
  have i1:farI 4 1 1=1:=rfl
  have i2:iota [0,1,3,4,2] 5 1=1:=rfl
  cases d with
  | true=>
    have q1:((e1.ren (farI 4 1)).ren (iota [0,1,3,4,2] 5))=e1:=by rw [h1 _ i1,h1 _ i2]
    refine⟨_,_,aQ.trans (aQ.eq (g2:=[some e1,some (.abs (.store t n st') []),none,a9 4 s',bA s']) (by kernel_rfl) ?_) (aQ.unpack (.store t n st') 1 0 (iU t n st') [] rfl rfl rfl rfl),hK⟩
    show [some ((e1.ren (farI 4 1)).ren (iota [0,1,3,4,2] 5)),_,_,_,_]=_
    rw [q1];rfl
  | false=>
    have q2:((e2.ren (farI 4 1)).ren (iota [0,1,3,4,2] 5))=e2:=by rw [h2 _ i1,h2 _ i2]
    refine⟨_,_,aQ.trans (aQ.eq (g2:=[some e2,some (.abs (.store t n st') []),none,a9 4 s',bA s']) (by kernel_rfl) ?_) (aQ.unpack (.store t n st') 1 0 (iU t n st') [] rfl rfl rfl rfl),hK⟩
    show [some ((e2.ren (farI 4 1)).ren (iota [0,1,3,4,2] 5)),_,_,_,_]=_
    rw [q2];rfl
 ·intro i l hi
  match i,hi with
  | 0,hi=>cases hi;rfl
  | 1,hi=>cases hi;rfl
  | 2,hi=>cases hi;rfl
  | 3,hi=>cases hi;rfl
  | 4,hi=>cases hi;rfl
  | _+5,hi=>cases hi
def bM(kd:Int):Bool:=ieq kd 1||ieq kd 4
def dD(sh kd:Int):Bool:=ieq kd 5&&ieq sh 4
def gD(ky curr cw:Int):Bool:=bif ieq curr 0 then false else ieq (aA cw 0 10) ky
def cJ(sh ky:Int):Int:=bif ieq sh 2 then ky%4 else 0
def dG(sh kd ky:Int):Int:=bif ieq sh 2 then ky else bif ieq sh 1 then ky else bif ieq sh 3 then(bif bM kd then 1024 else -1)else -1
def NB:bZ Ob:=fun args h=>match args,h with
 | [.agg [.int .i64 t,.int .i64 n],.int .i64 a],[]=>some ((0≤n∧n≤100000)∧(-1000000≤a∧a≤1000000),.int .i64 (n+1+a))
 | _,_=>none
theorem RC:sT' 65 NB.spec:=by
 intro args h o ho K hK
 unfold bZ.spec NB at ho
 split at ho
 case h_2=>cases ho
 rename_i p v hp
 split at hp
 case h_2=>cases hp
 rename_i t n a
 simp only [sI',pI']at hp
 obtain⟨rfl,rfl⟩:=hp
 simp only [sI']at ho;subst ho
 obtain⟨hp,hK⟩:=hK
 have hK:K (.int .i64 (n+1+a)) []:=hK
 refine aBs (cM' (E:=enE) (q:=K (.int .i64 (W (W (1+n)+a))) []) (by kernel_rfl) ?_)
 simp(disch:=omega) only [W,cU]
 refine cast (congrArg (fun z=>K (AVal.int .i64 z) []) ?_) hK
 omega
def F3:bZ Ob:=fun args h=>match args,h with
 | [.agg [.int .i64 k,.int .i64 y,.bool m,.int .i64 c,.int .i64 v]],[]=>some (0≤v∧v≤1000000,.agg [.int .i64 k,.int .i64 y,.bool m,.int .i64 0,.int .i64 (aO v)])
 | _,_=>none
theorem PE:sT' 165 F3.spec:=by
 intro args h o ho K hK
 unfold bZ.spec F3 at ho
 split at ho
 case h_2=>cases ho
 rename_i p v hp
 split at hp
 case h_2=>cases hp
 rename_i k y m c v
 simp only [sI',pI']at hp
 obtain⟨rfl,rfl⟩:=hp
 simp only [sI']at ho;subst ho
 obtain⟨hp,hK⟩:=hK
 have hK:K (.agg [.int .i64 k,.int .i64 y,.bool m,.int .i64 0,.int .i64 (aO v)]) []:=hK
 refine aBs (cM' (E:=enE) (q:=K (.agg [.int .i64 k,.int .i64 y,.bool m,.int .i64 0,.int .i64 (W (↑(BitVec.toNat (BitVec.ofInt (IntKind.bits .i64) (W (v+1))&&&BitVec.ofInt (IntKind.bits .i64) 262143)):Int))]) []) (by kernel_rfl) ?_)
 refine cast (congrArg (fun z=>K (.agg [.int .i64 k,.int .i64 y,.bool m,.int .i64 0,.int .i64 z]) []) ?_) hK
 show aO v=_
 have hb:IntKind.bits .i64 =64:=rfl
 simp only [W]
 rw [hb,cU (x:=v+1) (by omega)]
 have:=jN (n:=64) (w:=18) (v+1) (by omega)
 have e:(2:Int)^18 - 1=262143:=by decide
 rw [e]at this
 rw [this]
 have e2:(2:Int)^18=262144:=by decide
 rw [e2,cU (by omega)]
 rfl
def AT:bZ Ob:=fun args h=>match args,h with
 | [.agg [.int .i64 k,.int .i64 y,.bool m,.int .i64 c,.int .i64 v],.int .i64 b,.int .i64 x,.bool q],[]=>some (-1000000≤b∧b≤1000000,.agg [.int .i64 k,.int .i64 x,.bool q,.int .i64 (b+1),.int .i64 v])
 | _,_=>none
theorem KM:sT' 168 AT.spec:=by
 intro args h o ho K hK
 unfold bZ.spec AT at ho
 split at ho
 case h_2=>cases ho
 rename_i p v hp
 split at hp
 case h_2=>cases hp
 rename_i k y m c v b x q
 simp only [sI',pI']at hp
 obtain⟨rfl,rfl⟩:=hp
 simp only [sI']at ho;subst ho
 obtain⟨hp,hK⟩:=hK
 have hK:K (.agg [.int .i64 k,.int .i64 x,.bool q,.int .i64 (b+1),.int .i64 v]) []:=hK
 refine aBs (cM' (E:=enE) (q:=K (.agg [.int .i64 k,.int .i64 x,.bool q,.int .i64 (W (b+1)),.int .i64 v]) []) (by kernel_rfl) ?_)
 rw [y3 (by omega)]
 exact hK
def AN:bZ Ob:=fun args h=>match args,h with
 | [.agg [.int .i64 sh,.int .i64 kd,.int .i64 ky]],[]=>some (True,.bool (bM kd))
 | _,_=>none
theorem KK:sT' 84 AN.spec:=by
 intro args h o ho K hK
 unfold bZ.spec AN at ho
 split at ho
 case h_2=>cases ho
 rename_i p v hp
 split at hp
 case h_2=>cases hp
 rename_i sh kd ky
 simp only [sI',pI']at hp
 obtain⟨rfl,rfl⟩:=hp
 simp only [sI']at ho;subst ho
 obtain⟨hp,hK⟩:=hK
 have hK:K (.bool (bM kd)) []:=hK
 refine aBs (cM' (E:=enE) (q:=bif ieq kd 1 then K (.bool true) []else K (.bool (ieq kd 4)) []) (by kernel_rfl) ?_)
 unfold bM at hK
 cases h:ieq kd 1<;>rw [h]at hK<;>exact hK
def F2:bZ Ob:=fun args h=>match args,h with
 | [.agg [.int .i64 sh,.int .i64 kd,.int .i64 ky]],[]=>some (True,.bool (dD sh kd))
 | _,_=>none
theorem PA:sT' 212 F2.spec:=by
 intro args h o ho K hK
 unfold bZ.spec F2 at ho
 split at ho
 case h_2=>cases ho
 rename_i p v hp
 split at hp
 case h_2=>cases hp
 rename_i sh kd ky
 simp only [sI',pI']at hp
 obtain⟨rfl,rfl⟩:=hp
 simp only [sI']at ho;subst ho
 obtain⟨hp,hK⟩:=hK
 have hK:K (.bool (dD sh kd)) []:=hK
 refine aBs (cM' (E:=enE) (q:=bif ieq kd 5 then K (.bool (ieq sh 4)) []else K (.bool false) []) (by kernel_rfl) ?_)
 unfold dD at hK
 cases h:ieq kd 5<;>rw [h]at hK<;>exact hK
noncomputable def hasCS:aM Ob:=p9 [(.slot 0,.ints (some .i64))] RB.spec
theorem RA:sT' 124 hasCS:=s8 M7
noncomputable def EB0:=((((((enE.addS 124 hasCS RA).addR 65 NB RC).addR 165 F3 PE).addR 168 AT KM).addR 84 AN KK).addR 212 F2 PA)
def isS:aM Ob:=fun args h=>match args,h with
 | [.agg [.int .i64 a,.int .i64 b,.int .i64 c,.int .i64 d,.bool m,.int .i64 e,.int .i64 f],.slice 0 0 1 1],[some (.cells [.int .i64 s])]=>some (.ret (.bool (hasB [s] e)) [some (.ints (some .i64) [s])])
 | _,_=>none
theorem ZB:sT' 172 isS:=by
 intro args h o ho K hK
 unfold isS at ho
 split at ho<;>cases ho
 rename_i a b c d m e f s
 have hK:K (.bool (hasB [s] e)) [some (.ints (some .i64) [s])]:=hK
 refine aBs (cM' (E:=EB0) (q:=(1=1∧(1:Nat)≤(4294967296:Nat))∧K (.bool (hasB [s] e)) [some (.ints (some .i64) [s])]) (by kernel_rfl) ?_)
 exact⟨⟨rfl,by omega⟩,hK⟩
noncomputable def EB0b:=EB0.addS 172 isS ZB
def LP:bZ Ob:=fun args h=>match args,h with
 | [.int .u64 x],[]=>some (True,.int .i64 (aA x 20 5 - 1))
 | _,_=>none
theorem P7:sT' 161 LP.spec:=by
 intro args h o ho K hK
 unfold bZ.spec LP at ho
 split at ho
 case h_2=>cases ho
 rename_i p v hp
 split at hp
 case h_2=>cases hp
 rename_i x
 simp only [sI',pI']at hp
 obtain⟨rfl,rfl⟩:=hp
 simp only [sI']at ho;subst ho
 obtain⟨hp,hK⟩:=hK
 have hK:K (.int .i64 (aA x 20 5 - 1)) []:=hK
 refine aBs (cM' (E:=EB0b) (q:=True∧K (.int .i64 (W (aA x 20 5 - 1))) []) (by kernel_rfl) ?_)
 have hb:0≤aA x 20 5∧aA x 20 5<32:=by
  unfold aA
  have e:(2:Int)^(5:Int).toNat =32:=by decide
  rw [e]
  exact⟨Int.emod_nonneg _ (by decide),Int.emod_lt_of_pos _ (by decide)⟩
 have e1:W (aA x 20 5 - 1)=aA x 20 5 - 1:=cU (by omega)
 rw [e1]
 exact⟨trivial,hK⟩
def D7:bZ Ob:=fun args h=>match args,h with
 | [.agg [.int .i64 a,.int .i64 b,.int .i64 c,.int .i64 d,.bool m,.int .i64 e,.int .i64 f],.int .i64 g],[]=>some (True,.agg [.int .i64 a,.int .i64 b,.int .i64 c,.int .i64 d,.bool m,.int .i64 g,.int .i64 f])
 | _,_=>none
theorem L7:sT' 163 D7.spec:=by
 intro args h o ho K hK
 unfold bZ.spec D7 at ho
 split at ho
 case h_2=>cases ho
 rename_i p v hp
 split at hp
 case h_2=>cases hp
 rename_i a b c d m e f g
 simp only [sI',pI']at hp
 obtain⟨rfl,rfl⟩:=hp
 simp only [sI']at ho;subst ho
 obtain⟨hp,hK⟩:=hK
 have hK:K (.agg [.int .i64 a,.int .i64 b,.int .i64 c,.int .i64 d,.bool m,.int .i64 g,.int .i64 f]) []:=hK
 refine aBs (cM' (E:=EB0b) (q:=K (.agg [.int .i64 a,.int .i64 b,.int .i64 c,.int .i64 d,.bool m,.int .i64 g,.int .i64 f]) []) (by kernel_rfl) ?_)
 exact hK
noncomputable def EB0c:=(EB0b.addR 161 LP P7).addR 163 D7 L7
def AQ:bZ Ob:=fun args h=>match args,h with
 | [.agg [.int .i64 sh,.int .i64 kd,.int .i64 ky]],[]=>some (True,.agg [.int .i64 (cJ sh ky),.int .i64 (dG sh kd ky)])
 | _,_=>none
theorem KL:sT' 131 AQ.spec:=by
 intro args h o ho K hK
 unfold bZ.spec AQ at ho
 split at ho
 case h_2=>cases ho
 rename_i p v hp
 split at hp
 case h_2=>cases hp
 rename_i sh kd ky
 simp only [sI',pI']at hp
 obtain⟨rfl,rfl⟩:=hp
 simp only [sI']at ho;subst ho
 obtain⟨hp,hK⟩:=hK
 have hK:K (.agg [.int .i64 (cJ sh ky),.int .i64 (dG sh kd ky)]) []:=hK
 refine aBs (cM' (E:=EB0c) (q:=bif ieq sh 2 then K (.agg [.int .i64 (W (↑(BitVec.toNat (BitVec.ofInt (IntKind.bits .i64) ky&&&BitVec.ofInt (IntKind.bits .i64) 3)):Int)),.int .i64 ky]) []else bif ieq sh 1 then K (.agg [.int .i64 0,.int .i64 ky]) []else bif ieq sh 2 then K (.agg [.int .i64 0,.int .i64 ky]) []else bif ieq sh 3 then True∧bif bM kd then K (.agg [.int .i64 0,.int .i64 1024]) []else K (.agg [.int .i64 0,.int .i64 (-1:Int)]) []else K (.agg [.int .i64 0,.int .i64 (-1:Int)]) []) (by kernel_rfl) ?_)
 have e4:W (((BitVec.ofInt (IntKind.bits .i64) ky&&&BitVec.ofInt (IntKind.bits .i64) 3).toNat :Nat):Int)=ky%4:=by
  have hb:IntKind.bits .i64 =64:=rfl
  rw [hb]
  have:=jN (n:=64) (w:=2) ky (by omega)
  have e:(2:Int)^2 - 1=3:=by decide
  rw [e]at this
  rw [this]
  have e2:(2:Int)^2=4:=by decide
  rw [e2]
  exact cU (by omega)
 unfold cJ dG at hK
 refine aP (fun e=>?_) (fun e=>aP (fun e1=>?_) (fun e1=>aP (fun e2=>?_) (fun e2=>aP (fun e3=>⟨trivial,aP (fun e5=>?_) (fun e5=>?_)⟩) (fun e3=>?_))))
 ·rw [e]at hK;rw [e4];exact hK
 ·rw [e,e1]at hK;exact hK
 ·rw [e]at e2;cases e2
 ·rw [e,e1,e3,e5]at hK;exact hK
 ·rw [e,e1,e3,e5]at hK;exact hK
 ·rw [e,e1,e3]at hK;exact hK
def AA:bZ Ob:=fun args h=>match args,h with
 | [.agg [.int .i64 sh,.int .i64 kd,.int .i64 ky,.int .i64 pred,.int .u64 pw,.int .i64 curr,.int .u64 cw]],[]=>some (True,.bool (gD ky curr cw))
 | _,_=>none
theorem J0:sT' 200 AA.spec:=by
 intro args h o ho K hK
 unfold bZ.spec AA at ho
 split at ho
 case h_2=>cases ho
 rename_i p v hp
 split at hp
 case h_2=>cases hp
 rename_i sh kd ky pred pw curr cw
 simp only [sI',pI']at hp
 obtain⟨rfl,rfl⟩:=hp
 simp only [sI']at ho;subst ho
 obtain⟨hp,hK⟩:=hK
 have hK:K (.bool (gD ky curr cw)) []:=hK
 refine aBs (cM' (E:=EB0c) (q:=bif !ieq curr 0 then True∧K (.bool (ieq (aA cw 0 10) ky)) []else K (.bool false) []) (by kernel_rfl) ?_)
 unfold gD at hK
 cases h:ieq curr 0 with
 | true=>rw [h]at hK;exact hK
 | false=>rw [h]at hK;exact⟨trivial,hK⟩
noncomputable def EB1:=(EB0c.addR 131 AQ KL).addR 200 AA J0
def TU(v:AVal)(g:aD Ob):Option (Prop×PLN):=match v,g with
 | .agg [.bool now,.int .i64 code,.bool okk,.int .i64 val,.int .i64 addr,.int .u64 old,.int .i64 nxt,.bool mark,.int .i64 pops],[]=>some (True,⟨now,code,okk,val,addr,old,nxt,mark,pops⟩)
 | _,_=>none
def OC(y:PLN):AVal:=.agg [.bool y.now,.int .i64 y.code,.bool y.okk,.int .i64 y.val,.int .i64 y.addr,.int .u64 y.old,.int .i64 y.nxt,.bool y.mark,.int .i64 y.pops]
theorem OB:dI (obI tbl) 0 TU (fun y=>.ret (OC y) []):=by
 intro v g p x hp hq K hK
 unfold TU at hp
 split at hp
 case h_2=>cases hp
 simp only [sI',pI']at hp
 obtain⟨rfl,rfl⟩:=hp
 exact⟨⟨_,_,aQ.refl _ _ _,hK⟩⟩
def yJ(sh kd ky pred pw curr cw spare:Int):Tr (PLN):=.pre True (.ite (!bX sh kd ky) (.pre True (.ret {now:=true,code:=1,okk:=false,val:=0,addr:=0,old:=0,nxt:=0,mark:=false,pops:=0})) (.ite (ieq kd 4) (.ite (ieq kd 4) (.pre True (.pre True (.ret {now:=false,code:=0,okk:=true,val:=0,addr:=pred,old:=pw,nxt:=spare,mark:=ieq (aA pw 19 1) 1,pops:=0}))) (.ite (ieq kd 2) (.pre True (.ite (gD ky curr cw) (.pre True (.pre True (.ret {now:=false,code:=0,okk:=true,val:=0,addr:=curr,old:=cw,nxt:=aA cw 10 9,mark:=true,pops:=0}))) (.ite (ieq kd 5) (.ite (ieq curr 0) (.pre True (.ret {now:=true,code:=0,okk:=false,val:=0,addr:=0,old:=0,nxt:=0,mark:=false,pops:=0})) (.pre True (.pre True (.ite (dD sh kd) (.pre True (.pre True (.pre True (.ret {now:=false,code:=0,okk:=true,val:=aA cw 0 10,addr:=pred,old:=pw,nxt:=aA cw 10 9,mark:=ieq (aA pw 19 1) 1,pops:=curr})))) (.pre True (.pre True (.ret {now:=false,code:=0,okk:=true,val:=aA cw 0 10,addr:=curr,old:=cw,nxt:=aA cw 10 9,mark:=true,pops:=0}))))))) (.ite (ieq kd 3) (.pre True (.pre True (.ret {now:=true,code:=0,okk:=gD ky curr cw,val:=0,addr:=0,old:=0,nxt:=0,mark:=false,pops:=0}))) (.pre True (.ret {now:=true,code:=0,okk:=false,val:=0,addr:=0,old:=0,nxt:=0,mark:=false,pops:=0})))))) (.ite (ieq kd 5) (.ite (ieq curr 0) (.pre True (.ret {now:=true,code:=0,okk:=false,val:=0,addr:=0,old:=0,nxt:=0,mark:=false,pops:=0})) (.pre True (.pre True (.ite (dD sh kd) (.pre True (.pre True (.pre True (.ret {now:=false,code:=0,okk:=true,val:=aA cw 0 10,addr:=pred,old:=pw,nxt:=aA cw 10 9,mark:=ieq (aA pw 19 1) 1,pops:=curr})))) (.pre True (.pre True (.ret {now:=false,code:=0,okk:=true,val:=aA cw 0 10,addr:=curr,old:=cw,nxt:=aA cw 10 9,mark:=true,pops:=0}))))))) (.ite (ieq kd 3) (.pre True (.pre True (.ret {now:=true,code:=0,okk:=gD ky curr cw,val:=0,addr:=0,old:=0,nxt:=0,mark:=false,pops:=0}))) (.pre True (.ret {now:=true,code:=0,okk:=false,val:=0,addr:=0,old:=0,nxt:=0,mark:=false,pops:=0})))))) (.ite (ieq kd 1) (.pre True (.ite (!gD ky curr cw) (.pre True (.pre True (.ret {now:=false,code:=0,okk:=true,val:=0,addr:=pred,old:=pw,nxt:=spare,mark:=ieq (aA pw 19 1) 1,pops:=0}))) (.ite (ieq kd 2) (.pre True (.ite (gD ky curr cw) (.pre True (.pre True (.ret {now:=false,code:=0,okk:=true,val:=0,addr:=curr,old:=cw,nxt:=aA cw 10 9,mark:=true,pops:=0}))) (.ite (ieq kd 5) (.ite (ieq curr 0) (.pre True (.ret {now:=true,code:=0,okk:=false,val:=0,addr:=0,old:=0,nxt:=0,mark:=false,pops:=0})) (.pre True (.pre True (.ite (dD sh kd) (.pre True (.pre True (.pre True (.ret {now:=false,code:=0,okk:=true,val:=aA cw 0 10,addr:=pred,old:=pw,nxt:=aA cw 10 9,mark:=ieq (aA pw 19 1) 1,pops:=curr})))) (.pre True (.pre True (.ret {now:=false,code:=0,okk:=true,val:=aA cw 0 10,addr:=curr,old:=cw,nxt:=aA cw 10 9,mark:=true,pops:=0}))))))) (.ite (ieq kd 3) (.pre True (.pre True (.ret {now:=true,code:=0,okk:=gD ky curr cw,val:=0,addr:=0,old:=0,nxt:=0,mark:=false,pops:=0}))) (.pre True (.ret {now:=true,code:=0,okk:=false,val:=0,addr:=0,old:=0,nxt:=0,mark:=false,pops:=0})))))) (.ite (ieq kd 5) (.ite (ieq curr 0) (.pre True (.ret {now:=true,code:=0,okk:=false,val:=0,addr:=0,old:=0,nxt:=0,mark:=false,pops:=0})) (.pre True (.pre True (.ite (dD sh kd) (.pre True (.pre True (.pre True (.ret {now:=false,code:=0,okk:=true,val:=aA cw 0 10,addr:=pred,old:=pw,nxt:=aA cw 10 9,mark:=ieq (aA pw 19 1) 1,pops:=curr})))) (.pre True (.pre True (.ret {now:=false,code:=0,okk:=true,val:=aA cw 0 10,addr:=curr,old:=cw,nxt:=aA cw 10 9,mark:=true,pops:=0}))))))) (.ite (ieq kd 3) (.pre True (.pre True (.ret {now:=true,code:=0,okk:=gD ky curr cw,val:=0,addr:=0,old:=0,nxt:=0,mark:=false,pops:=0}))) (.pre True (.ret {now:=true,code:=0,okk:=false,val:=0,addr:=0,old:=0,nxt:=0,mark:=false,pops:=0}))))))) (.ite (ieq kd 2) (.pre True (.ite (gD ky curr cw) (.pre True (.pre True (.ret {now:=false,code:=0,okk:=true,val:=0,addr:=curr,old:=cw,nxt:=aA cw 10 9,mark:=true,pops:=0}))) (.ite (ieq kd 5) (.ite (ieq curr 0) (.pre True (.ret {now:=true,code:=0,okk:=false,val:=0,addr:=0,old:=0,nxt:=0,mark:=false,pops:=0})) (.pre True (.pre True (.ite (dD sh kd) (.pre True (.pre True (.pre True (.ret {now:=false,code:=0,okk:=true,val:=aA cw 0 10,addr:=pred,old:=pw,nxt:=aA cw 10 9,mark:=ieq (aA pw 19 1) 1,pops:=curr})))) (.pre True (.pre True (.ret {now:=false,code:=0,okk:=true,val:=aA cw 0 10,addr:=curr,old:=cw,nxt:=aA cw 10 9,mark:=true,pops:=0}))))))) (.ite (ieq kd 3) (.pre True (.pre True (.ret {now:=true,code:=0,okk:=gD ky curr cw,val:=0,addr:=0,old:=0,nxt:=0,mark:=false,pops:=0}))) (.pre True (.ret {now:=true,code:=0,okk:=false,val:=0,addr:=0,old:=0,nxt:=0,mark:=false,pops:=0})))))) (.ite (ieq kd 5) (.ite (ieq curr 0) (.pre True (.ret {now:=true,code:=0,okk:=false,val:=0,addr:=0,old:=0,nxt:=0,mark:=false,pops:=0})) (.pre True (.pre True (.ite (dD sh kd) (.pre True (.pre True (.pre True (.ret {now:=false,code:=0,okk:=true,val:=aA cw 0 10,addr:=pred,old:=pw,nxt:=aA cw 10 9,mark:=ieq (aA pw 19 1) 1,pops:=curr})))) (.pre True (.pre True (.ret {now:=false,code:=0,okk:=true,val:=aA cw 0 10,addr:=curr,old:=cw,nxt:=aA cw 10 9,mark:=true,pops:=0}))))))) (.ite (ieq kd 3) (.pre True (.pre True (.ret {now:=true,code:=0,okk:=gD ky curr cw,val:=0,addr:=0,old:=0,nxt:=0,mark:=false,pops:=0}))) (.pre True (.ret {now:=true,code:=0,okk:=false,val:=0,addr:=0,old:=0,nxt:=0,mark:=false,pops:=0}))))))))
def bN(sh kd ky pred pw curr cw spare:Int):PLN:=(yJ sh kd ky pred pw curr cw spare).val
def FS(sh kd ky pred pw curr cw spare:Int):Prop:=(yJ sh kd ky pred pw curr cw spare).ok
def planS:aM Ob:=fun args h=>match args,h with
 | [.agg [.int .i64 sh,.int .i64 kd,.int .i64 ky],.agg [.int .i64 pred,.int .u64 pw,.int .i64 curr,.int .u64 cw],.int .i64 spare],[]=>some (.pre (FS sh kd ky pred pw curr cw spare) (.ret (OC (bN sh kd ky pred pw curr cw spare)) []))
 | _,_=>none
theorem R7:sT' 157 planS:=by
 intro args h o ho K hK
 unfold planS at ho
 split at ho<;>cases ho
 rename_i sh kd ky pred pw curr cw spare
 obtain⟨ok,hK⟩:=hK
 refine aBF (root:=0) (pos:=[]) (cs:=[]) OB ?_
 exact cM' (E:=EB1) (q:=(yJ sh kd ky pred pw curr cw spare).run (fun y=>(Out.ret (OC y) []).run K)) (by kernel_rfl) (aBD ok hK)
def N6(v:AVal)(g:aD Ob):Option (Prop×Bool):=match v,g with
 | .bool x,[]=>some (True,x)
 | _,_=>none
def FP(y:Bool):AVal:=.bool y
theorem J2:dI (obI tbl) 0 N6 (fun y=>.ret (FP y) []):=by
 intro v g p x hp hq K hK
 unfold N6 at hp
 split at hp
 case h_2=>cases hp
 simp only [sI',pI']at hp
 obtain⟨rfl,rfl⟩:=hp
 exact⟨⟨_,_,aQ.refl _ _ _,hK⟩⟩
def sP(now:Bool)(code:Int)(okk:Bool)(val:Int)(addr:Int)(old:Int)(nxt:Int)(mark:Bool)(pops:Int):Tr (Bool):=.ite (!now) (.pre True (.pre True (.ret !ieq (aA old 20 5) 0))) (.pre True (.ret false))
def nR(now:Bool)(code:Int)(okk:Bool)(val:Int)(addr:Int)(old:Int)(nxt:Int)(mark:Bool)(pops:Int):Bool:=(sP now code okk val addr old nxt mark pops).val
def uE(now:Bool)(code:Int)(okk:Bool)(val:Int)(addr:Int)(old:Int)(nxt:Int)(mark:Bool)(pops:Int):Prop:=(sP now code okk val addr old nxt mark pops).ok
def planCS:aM Ob:=fun args h=>match args,h with
 | [.agg [.bool now,.int .i64 code,.bool okk,.int .i64 val,.int .i64 addr,.int .u64 old,.int .i64 nxt,.bool mark,.int .i64 pops]],[]=>some (.pre (uE now code okk val addr old nxt mark pops) (.ret (FP (nR now code okk val addr old nxt mark pops)) []))
 | _,_=>none
theorem N7:sT' 158 planCS:=by
 intro args h o ho K hK
 unfold planCS at ho
 split at ho<;>cases ho
 rename_i now code okk val addr old nxt mark pops
 obtain⟨ok,hK⟩:=hK
 refine aBF (root:=0) (pos:=[]) (cs:=[]) J2 ?_
 exact cM' (E:=EB1) (q:=(sP now code okk val addr old nxt mark pops).run (fun y=>(Out.ret (FP y) []).run K)) (by kernel_rfl) (aBD ok hK)
def N8(v:AVal)(g:aD Ob):Option (Prop×(Int×Int)):=match v,g with
 | .tup [.int .u64 x,.int .i64 e],[]=>some (True,(x,e))
 | _,_=>none
def FR(y:(Int×Int)):AVal:=.tup [.int .u64 y.1,.int .i64 y.2]
theorem J5:dI (obI tbl) 0 N8 (fun y=>.ret (FR y) []):=by
 intro v g p x hp hq K hK
 unfold N8 at hp
 split at hp
 case h_2=>cases hp
 simp only [sI',pI']at hp
 obtain⟨rfl,rfl⟩:=hp
 exact⟨⟨_,_,aQ.refl _ _ _,hK⟩⟩
def sQ(now:Bool)(code:Int)(okk:Bool)(val:Int)(addr:Int)(old:Int)(nxt:Int)(mark:Bool)(pops:Int)(att:Int):Tr ((Int×Int)):=.ite now (.pre True (.ret (0,5))) (.pre True (.pre True (.pre True (.ret (bif dOk att addr (aA old 25 18) nxt 2 val then aY att addr (aA old 25 18) nxt mark 2 val else 0,bif dOk att addr (aA old 25 18) nxt 2 val then 0 else 2)))))
def fB(now:Bool)(code:Int)(okk:Bool)(val:Int)(addr:Int)(old:Int)(nxt:Int)(mark:Bool)(pops:Int)(att:Int):(Int×Int):=(sQ now code okk val addr old nxt mark pops att).val
def AB(now:Bool)(code:Int)(okk:Bool)(val:Int)(addr:Int)(old:Int)(nxt:Int)(mark:Bool)(pops:Int)(att:Int):Prop:=(sQ now code okk val addr old nxt mark pops att).ok
def planDS:aM Ob:=fun args h=>match args,h with
 | [.agg [.bool now,.int .i64 code,.bool okk,.int .i64 val,.int .i64 addr,.int .u64 old,.int .i64 nxt,.bool mark,.int .i64 pops],.int .i64 att],[]=>some (.pre (AB now code okk val addr old nxt mark pops att) (.ret (FR (fB now code okk val addr old nxt mark pops att)) []))
 | _,_=>none
theorem OA:sT' 116 planDS:=by
 intro args h o ho K hK
 unfold planDS at ho
 split at ho<;>cases ho
 rename_i now code okk val addr old nxt mark pops att
 obtain⟨ok,hK⟩:=hK
 refine aBF (root:=0) (pos:=[]) (cs:=[]) J5 ?_
 exact cM' (E:=EB1) (q:=(sQ now code okk val addr old nxt mark pops att).run (fun y=>(Out.ret (FR y) []).run K)) (by kernel_rfl) (aBD ok hK)
noncomputable def EB2:=(((EB1.addS 157 planS R7)).addS 158 planCS N7).addS 116 planDS OA
abbrev UW(x:ENS):aG Mc:=.cells [.ptr 1 0,.bool x.sh,.O,.O,.bool x.dn]
theorem QN{t n:Int}{x:ENS}{st:STS}{s:MS} :aQ (obI tbl) 4 (.bool true) [some (.abs (.ensure t n x) [1]),some (.abs (.store t n st) []),a9 3 s,bA s] (.bool true) [some (UW x),some (.abs (.store t n st) []),a9 3 s,bA s]:=by
 obtain⟨ph,sh,dn,a,y⟩:=x
 match ph with
 | 0=>exact(aQ.unpack (.ensure t n ⟨0,sh,dn,a,y⟩) 0 1 (GO t n ⟨0,sh,dn,a,y⟩) [1] rfl rfl (by kernel_rfl) rfl).trans ((aQ.weak (dH _ 0 [2,3])).trans ((aQ.pick (upto 0 4) rfl).trans (aQ.eq (by kernel_rfl) (by kernel_rfl))))
 | 1=>exact(aQ.unpack (.ensure t n ⟨1,sh,dn,a,y⟩) 0 1 (GO t n ⟨1,sh,dn,a,y⟩) [1] rfl rfl (by kernel_rfl) rfl).trans ((aQ.weak (dH _ 0 [2,3])).trans ((aQ.pick (upto 0 4) rfl).trans (aQ.eq (by kernel_rfl) (by kernel_rfl))))
 | 2=>exact(aQ.unpack (.ensure t n ⟨2,sh,dn,a,y⟩) 0 1 (GO t n ⟨2,sh,dn,a,y⟩) [1] rfl rfl (by kernel_rfl) rfl).trans ((aQ.weak (dH _ 0 [2,3])).trans ((aQ.pick (upto 0 4) rfl).trans (aQ.eq (by kernel_rfl) (by kernel_rfl))))
 | 3=>exact(aQ.unpack (.ensure t n ⟨3,sh,dn,a,y⟩) 0 1 (GO t n ⟨3,sh,dn,a,y⟩) [1] rfl rfl (by kernel_rfl) rfl).trans ((aQ.weak (dH _ 0 [2,3])).trans ((aQ.pick (upto 0 4) rfl).trans (aQ.eq (by kernel_rfl) (by kernel_rfl))))
 | k+4=>exact(aQ.unpack (.ensure t n ⟨k+4,sh,dn,a,y⟩) 0 1 (GO t n ⟨k+4,sh,dn,a,y⟩) [1] rfl rfl (by kernel_rfl) rfl).trans ((aQ.weak (dH _ 0 [2,3])).trans ((aQ.pick (upto 0 4) rfl).trans (aQ.eq (by kernel_rfl) (by kernel_rfl))))
def EO.fin(t n:Int)(y:EO):Out Ob:=.ite y.d (.ret (.bool true) [some (UW y.e),some (.abs (.store t n y.st) []),a9 3 y.s,bA y.s]) (.ret (.bool false) [some (.abs (.ensure t n y.e) [1]),some (.abs (.store t n y.st) []),a9 3 y.s,bA y.s])
theorem BP(t n:Int)(e:ENS)(st:STS)(s:MS)(K:AVal→aD Ob→Prop)(ok:KQ t n e st s)(hK:((enF t n e st s).fin t n).run K):cT' 85 [.ptr 0 0,.ptr 2 0] (QH t n e st s) K:=by
 refine aBV (GV t n e st s _ ok ?_)
 show iW (obI tbl) 4 K (.bool (enF t n e st s).d) _
 generalize enF t n e st s=y at hK⊢
 exact yN hK (fun h=>⟨⟨_,_,QN,h⟩⟩) (fun h=>⟨⟨_,_,aQ.refl _ _ _,h⟩⟩)
noncomputable def enSA:aM Ob:=fun args h=>match args,h with
 | [.ptr 0 0,.ptr 2 0],[some (.abs (.ensure t n x) [1]),some (.abs (.store t2 n2 st) []),e3,e4]=>(match fD 3 [e3,e4]with
   | some (l,s)=>some (.pre ((l=s.xs.length∧t2=t∧n2=n)∧KQ t n x st s) (EO.fin t n (enF t n x st s)))
   | none=>none)
 | _,_=>none
theorem U2:sT' 85 enSA:=by
 intro args h o ho K hK
 unfold enSA at ho
 split at ho
 case h_2=>cases ho
 split at ho<;>cases ho
 rename_i hm
 obtain⟨⟨⟨hl,rfl,rfl⟩,ok⟩,hK⟩:=hK
 have hh:=cC hm hl
 cases hh
 exact BP _ _ _ _ _ K ok hK
def EO.finB(t n:Int)(y:EO):Out Ob:=.ite y.d (.ret (.bool true) [some (UW y.e),stC 5 t n y.st,none,a9 4 y.s,bA y.s,mG y.st]) (.ret (.bool false) [some (.abs (.ensure t n y.e) [1]),stC 5 t n y.st,none,a9 4 y.s,bA y.s,mG y.st])
noncomputable def enSB:aM Ob:=fun args h=>match args,h with
 | [.ptr 0 0,.ptr 3 0],[some (.abs (.ensure t n x) [1]),e1,e2,e3,e4]=>(match uH 2 [e1,e2],fD 4 [e3,e4]with
   | some (l2,t2,n2,st),some (l,s)=>some (.pre ((l=s.xs.length∧l2=st.R.length∧t2=t∧n2=n)∧KQ t n x st s) (EO.finB t n (enF t n x st s)))
   | _,_=>none)
 | _,_=>none
theorem U3:sT' 85 enSB:=by
 intro args h o ho K hK
 unfold enSB at ho
 split at ho
 case h_2=>cases ho
 split at ho<;>cases ho
 rename_i hs hm
 obtain⟨⟨⟨hl,hl2,rfl,rfl⟩,ok⟩,hK⟩:=hK
 have hh:=cC hm hl
 cases hh
 have hh:=dX hs hl2
 cases hh
 exact oS (fun ι hι=>by simp [aG.ren,aBB,AVal.ren,hι]) (fun ι hι=>by simp [aG.ren,hι]) (fun K hK=>BP _ _ _ _ _ K ok hK) K hK
noncomputable def enS2:aM Ob:=aM.or enSA enSB
theorem U1:sT' 85 enS2:=aBK U2 U3
abbrev XV(x:SWS):aG Mc:=.cells [.ptr 1 0,.O]
theorem S4{t n:Int}{x:SWS}{st:STS}{s:MS} :aQ (obI tbl) 4 (.bool true) [some (.abs (.sweep t n x) [1]),some (.abs (.store t n st) []),a9 3 s,bA s] (.bool true) [some (XV x),some (.abs (.store t n st) []),a9 3 s,bA s]:=by
 obtain⟨ph,N,m,i,ks,fs,gs,j,l⟩:=x
 match ph with
 | 0=>exact(aQ.unpack (.sweep t n ⟨0,N,m,i,ks,fs,gs,j,l⟩) 0 1 (O6 t n ⟨0,N,m,i,ks,fs,gs,j,l⟩) [1] rfl rfl (by kernel_rfl) rfl).trans ((aQ.weak (dH _ 0 [1])).trans ((aQ.pick (upto 0 4) rfl).trans (aQ.eq (by kernel_rfl) (by kernel_rfl))))
 | 1=>exact(aQ.unpack (.sweep t n ⟨1,N,m,i,ks,fs,gs,j,l⟩) 0 1 (O6 t n ⟨1,N,m,i,ks,fs,gs,j,l⟩) [1] rfl rfl (by kernel_rfl) rfl).trans ((aQ.weak (dH _ 0 [1])).trans ((aQ.pick (upto 0 4) rfl).trans (aQ.eq (by kernel_rfl) (by kernel_rfl))))
 | 2=>exact(aQ.unpack (.sweep t n ⟨2,N,m,i,ks,fs,gs,j,l⟩) 0 1 (O6 t n ⟨2,N,m,i,ks,fs,gs,j,l⟩) [1] rfl rfl (by kernel_rfl) rfl).trans ((aQ.weak (dH _ 0 [1])).trans ((aQ.pick (upto 0 4) rfl).trans (aQ.eq (by kernel_rfl) (by kernel_rfl))))
 | k+3=>exact(aQ.unpack (.sweep t n ⟨k+3,N,m,i,ks,fs,gs,j,l⟩) 0 1 (O6 t n ⟨k+3,N,m,i,ks,fs,gs,j,l⟩) [1] rfl rfl (by kernel_rfl) rfl).trans ((aQ.weak (dH _ 0 [1])).trans ((aQ.pick (upto 0 4) rfl).trans (aQ.eq (by kernel_rfl) (by kernel_rfl))))
def SO.fin(t n:Int)(y:SO):Out Ob:=.ite y.d (.ret (.bool true) [some (XV y.e),some (.abs (.store t n y.st) []),a9 3 y.s,bA y.s]) (.ret (.bool false) [some (.abs (.sweep t n y.e) [1]),some (.abs (.store t n y.st) []),a9 3 y.s,bA y.s])
theorem C3(t n:Int)(e:SWS)(st:STS)(s:MS)(K:AVal→aD Ob→Prop)(ok:v8 t n e st s)(hK:((swF t n e st s).fin t n).run K):cT' 195 [.ptr 0 0,.ptr 2 0] (X9 t n e st s) K:=by
 refine aBV (S5 t n e st s _ ok ?_)
 show iW (obI tbl) 4 K (.bool (swF t n e st s).d) _
 generalize swF t n e st s=y at hK⊢
 exact yN hK (fun h=>⟨⟨_,_,S4,h⟩⟩) (fun h=>⟨⟨_,_,aQ.refl _ _ _,h⟩⟩)
noncomputable def swSA:aM Ob:=fun args h=>match args,h with
 | [.ptr 0 0,.ptr 2 0],[some (.abs (.sweep t n x) [1]),some (.abs (.store t2 n2 st) []),e3,e4]=>(match fD 3 [e3,e4]with
   | some (l,s)=>some (.pre ((l=s.xs.length∧t2=t∧n2=n)∧v8 t n x st s) (SO.fin t n (swF t n x st s)))
   | none=>none)
 | _,_=>none
theorem X0:sT' 195 swSA:=by
 intro args h o ho K hK
 unfold swSA at ho
 split at ho
 case h_2=>cases ho
 split at ho<;>cases ho
 rename_i hm
 obtain⟨⟨⟨hl,rfl,rfl⟩,ok⟩,hK⟩:=hK
 have hh:=cC hm hl
 cases hh
 exact C3 _ _ _ _ _ K ok hK
def SO.finB(t n:Int)(y:SO):Out Ob:=.ite y.d (.ret (.bool true) [some (XV y.e),stC 5 t n y.st,none,a9 4 y.s,bA y.s,mG y.st]) (.ret (.bool false) [some (.abs (.sweep t n y.e) [1]),stC 5 t n y.st,none,a9 4 y.s,bA y.s,mG y.st])
noncomputable def swSB:aM Ob:=fun args h=>match args,h with
 | [.ptr 0 0,.ptr 3 0],[some (.abs (.sweep t n x) [1]),e1,e2,e3,e4]=>(match uH 2 [e1,e2],fD 4 [e3,e4]with
   | some (l2,t2,n2,st),some (l,s)=>some (.pre ((l=s.xs.length∧l2=st.R.length∧t2=t∧n2=n)∧v8 t n x st s) (SO.finB t n (swF t n x st s)))
   | _,_=>none)
 | _,_=>none
theorem X1:sT' 195 swSB:=by
 intro args h o ho K hK
 unfold swSB at ho
 split at ho
 case h_2=>cases ho
 split at ho<;>cases ho
 rename_i hs hm
 obtain⟨⟨⟨hl,hl2,rfl,rfl⟩,ok⟩,hK⟩:=hK
 have hh:=cC hm hl
 cases hh
 have hh:=dX hs hl2
 cases hh
 exact oS (fun ι hι=>by simp [aG.ren,aBB,AVal.ren,hι]) (fun ι hι=>by simp [aG.ren,hι]) (fun K hK=>C3 _ _ _ _ _ K ok hK) K hK
noncomputable def swSC:aM Ob:=aM.or swSA swSB
theorem XZ:sT' 195 swSC:=aBK X0 X1
def UX(t n:Int)(v:AVal)(g:aD Ob):Option (Prop×STS):=match v,g with
 | .ptr 2 0,[e1,e2,some (.cells [.ptr 0 0,.bool false,.raw (.pointer none),.raw (.pointer none),.bool false])]=>(match uH 1 [e1,e2]with
   | some (l2,t2,n2,st)=>some (t2=t∧n2=n∧l2=st.R.length,st)
   | none=>none)
 | _,_=>none
abbrev QK(t n:Int)(y:STS):aD Ob:=[stC 1 t n y,mG y,some (.abs (.ensure t n cF) [0])]
theorem QM{t n:Int} :dI (obI tbl) 2 (UX t n) (fun y=>.ret (.ptr 2 0) (QK t n y)):=by
 intro v g p x hp hq K hK
 unfold UX at hp
 split at hp
 case h_2=>cases hp
 split at hp
 case h_2=>cases hp
 rename_i l2 t2 n2 st hs
 simp only [sI',pI']at hp
 obtain⟨rfl,rfl⟩:=hp
 obtain⟨rfl,rfl,hl2⟩:=hq
 have hh:=dX hs hl2
 cases hh
 exact⟨⟨_,_,aQ.pack (QK t2 n2 st) (.ensure t2 n2 cF) 2 1 (GO t2 n2 cF) [0] (by kernel_rfl) rfl rfl (by kernel_rfl),hK⟩⟩
def BN(t n:Int)(st:STS):Tr STS:=.pre (t=t∧n=n∧lE' st.3) (.ret {me:=st.1,sp:=st.2,R:=st.3})
def enNS:aM Ob:=fun args h=>match args,h with
 | [.ptr 0 0],[e1,e2]=>(match uH 1 [e1,e2]with
   | some (l2,t,n,st)=>some (.pre (l2=st.R.length∧(BN t n st).ok) (.ret (.ptr 2 0) (QK t n (BN t n st).val)))
   | none=>none)
 | _,_=>none
theorem D8:sT' 37 enNS:=by
 intro args h o ho K hK
 unfold enNS at ho
 split at ho
 case h_2=>cases ho
 split at ho<;>cases ho
 rename_i l2 t n st hs
 obtain⟨⟨hl2,ok⟩,hK⟩:=hK
 have hh:=dX hs hl2
 cases hh
 refine aBF (root:=2) (pos:=[]) (cs:=[]) (parse:=UX t n) QM ?_
 exact cM' (E:=EB2) (q:=(BN t n st).run (fun y=>(Out.ret (.ptr 2 0) (QK t n y)).run K)) (by kernel_rfl) (aBD ok hK)
def XW(t n:Int)(v:AVal)(g:aD Ob):Option (Prop×STS):=match v,g with
 | .ptr 2 0,[e1,e2,some (.cells [.ptr 0 0,.raw (.pointer none)])]=>(match uH 1 [e1,e2]with
   | some (l2,t2,n2,st)=>some (t2=t∧n2=n∧l2=st.R.length,st)
   | none=>none)
 | _,_=>none
abbrev SU(t n:Int)(y:STS):aD Ob:=[stC 1 t n y,mG y,some (.abs (.sweep t n QB) [0])]
theorem SV{t n:Int} :dI (obI tbl) 2 (XW t n) (fun y=>.ret (.ptr 2 0) (SU t n y)):=by
 intro v g p x hp hq K hK
 unfold XW at hp
 split at hp
 case h_2=>cases hp
 split at hp
 case h_2=>cases hp
 rename_i l2 t2 n2 st hs
 simp only [sI',pI']at hp
 obtain⟨rfl,rfl⟩:=hp
 obtain⟨rfl,rfl,hl2⟩:=hq
 have hh:=dX hs hl2
 cases hh
 exact⟨⟨_,_,aQ.pack (SU t2 n2 st) (.sweep t2 n2 QB) 2 1 (O6 t2 n2 QB) [0] (by kernel_rfl) rfl rfl (by kernel_rfl),hK⟩⟩
def XX(t n:Int)(st:STS):Tr STS:=.pre (t=t∧n=n∧lE' st.3) (.ret {me:=st.1,sp:=st.2,R:=st.3})
def swNS:aM Ob:=fun args h=>match args,h with
 | [.ptr 0 0],[e1,e2]=>(match uH 1 [e1,e2]with
   | some (l2,t,n,st)=>some (.pre (l2=st.R.length∧(XX t n st).ok) (.ret (.ptr 2 0) (SU t n (XX t n st).val)))
   | none=>none)
 | _,_=>none
theorem XY:sT' 146 swNS:=by
 intro args h o ho K hK
 unfold swNS at ho
 split at ho
 case h_2=>cases ho
 split at ho<;>cases ho
 rename_i l2 t n st hs
 obtain⟨⟨hl2,ok⟩,hK⟩:=hK
 have hh:=dX hs hl2
 cases hh
 refine aBF (root:=2) (pos:=[]) (cs:=[]) (parse:=XW t n) SV ?_
 exact cM' (E:=EB2) (q:=(XX t n st).run (fun y=>(Out.ret (.ptr 2 0) (SU t n y)).run K)) (by kernel_rfl) (aBD ok hK)
noncomputable def EB3:=(((EB2.addS 85 enS2 U1).addS 195 swSC XZ).addS 37 enNS D8).addS 146 swNS XY
structure ClO where
 d:Bool
 x:CLS
 s:MS
instance:Inhabited ClO:=⟨⟨false,⟨0,0,0,0⟩,⟨0,0,[],0,0,0,0,0,false⟩⟩⟩
instance:Inhabited CLS:=⟨⟨0,0,0,0⟩⟩
abbrev clH(t n:Int)(x:CLS)(s:MS):aD Ob:=[some (.abs (.clear t n x) []),a9 2 s,bA s]
abbrev clD(t n:Int)(x:CLS)(s:MS):aD Ob:=[some (.cells [.int .i64 t,.int .i64 n,.int .i64 x.addr,.int .i64 x.at',.int .u64 x.word,.int .u64 x.found]),a9 2 s,bA s]
def ClO.fin(t n:Int)(y:ClO):Out Ob:=.ite y.d (.ret (.bool true) (clD t n y.x y.s)) (.ret (.bool false) (clH t n y.x y.s))
def UP(t n:Int)(v:AVal)(g:aD Ob):Option (Prop×ClO):=match v,g with
 | .bool d,[some (.cells [.int .i64 t1,.int .i64 n1,.int .i64 addr,.int .i64 at',.int .u64 word,.int .u64 found]),e1,e2]=>(match fD 2 [e1,e2]with
   | some (l,s)=>some ((t1=t∧n1=n)∧l=s.xs.length,⟨d,⟨addr,at',word,found⟩,s⟩)
   | none=>none)
 | _,_=>none
def PJ(t n:Int)(v:AVal)(g:aD Ob):Option (Prop×ClO):=UP t n v g
theorem P5{t n:Int} :dI (obI tbl) 3 (UP t n) (ClO.fin t n):=by
 intro v g p x hp hq K hK
 unfold UP at hp
 split at hp
 case h_2=>cases hp
 rename_i d t1 n1 addr at' word found e1 e2
 split at hp
 case h_2=>cases hp
 rename_i l s hm
 simp only [sI',pI']at hp
 obtain⟨rfl,rfl⟩:=hp
 obtain⟨⟨rfl,rfl⟩,hl⟩:=hq
 have hh:=cC hm hl
 cases hh
 refine yN hK (fun h=>?_) (fun h=>?_)
 ·exact⟨⟨_,_,aQ.refl _ _ _,h⟩⟩
 ·exact⟨⟨_,_,(aQ.pack (clH t1 n1 (⟨addr,at',word,found⟩:CLS) s) (.clear t1 n1 (⟨addr,at',word,found⟩:CLS)) 0 0 (l1 t1 n1 (⟨addr,at',word,found⟩:CLS)) [] (by kernel_rfl) rfl (congrArg (Prod.mk 0) rfl) (by kernel_rfl)),h⟩⟩
theorem zD{t n:Int} :dI (obI tbl) 3 (PJ t n) (ClO.fin t n):=by
 intro v g p x hp hq K hK
 unfold PJ at hp
 exact P5 v g p x hp hq K hK
def BE(t n:Int)(x:CLS)(s:MS):Tr ClO:=.pre (lE' s.3∧(0:Int)≤s.4∧s.4≤(4611686018427387904:Int)) (.pre True (.ite (ilt (aA (aB s.3 x.1) 20 5 - 1) 0) (.pre ((t=t∧n=n)∧lE' s.3) (.ret {d:=true,x:= {addr:=x.1,at':=1,word:=aB s.3 x.1,found:=x.4},s:= {s with c:=s.4+1,k:=1,a:=x.1,o:=aB s.3 x.1,w:=aB s.3 x.1,ok:=bL s.3 x.1} })) (.pre ((t=t∧n=n)∧lE' s.3) (.ret {d:=ile t (aA (aB s.3 x.1) 20 5 - 1),x:= {addr:=x.1,at':=1,word:=aB s.3 x.1,found:=x.4},s:= {s with c:=s.4+1,k:=1,a:=x.1,o:=aB s.3 x.1,w:=aB s.3 x.1,ok:=bL s.3 x.1} }))))
theorem ID(t n:Int)(x:CLS)(s:MS)(K:ClO→Prop)(h:(BE t n x s).run K):cT' 96 [.ptr 0 0,.ptr 1 0] [some (.cells [.int .i64 t,.int .i64 n,.int .i64 x.addr,.int .i64 0,.int .u64 x.word,.int .u64 x.found]),a9 2 s,bA s] (cV 3 0 [] [] (PJ t n) K):=by
 exact cM' (E:=EB3) (by kernel_rfl) h
def BF(t n:Int)(x:CLS)(s:MS):Tr ClO:=.pre True (.pre ((((0:Int)≤t∧t≤(100000:Int))∧((0:Int)≤n∧n≤(100000:Int))∧(-1099511627776:Int)≤aA x.3 20 5 - 1∧aA x.3 20 5 - (1:Int)≤(1099511627776:Int))∧True) (.pre ((lE' s.3∧(0:Int)≤s.4∧s.4≤(4611686018427387904:Int))∧True) (.pre True (.ite (hasB [2] (aA (aB s.3 (2*n+5+2*t+3*(aA x.3 20 5 - 1)+2)) 49 3)) (.ite (ieq (aA (aB s.3 (2*n+5+2*t+3*(aA x.3 20 5 - 1)+2)) 12 9) x.1) (.pre True (.ite (ieq (aA (aB s.3 (2*n+5+2*t+3*(aA x.3 20 5 - 1)+2)) 21 18) (aA x.3 25 18)) (.pre ((t=t∧n=n)∧lE' s.3) (.ret {d:=false,x:= {addr:=x.1,at':=2,word:=x.3,found:=aB s.3 (2*n+5+2*t+3*(aA x.3 20 5 - 1)+2) },s:= {s with c:=s.4+1,k:=1,a:=2*n+5+2*t+3*(aA x.3 20 5 - 1)+2,o:=aB s.3 (2*n+5+2*t+3*(aA x.3 20 5 - 1)+2),w:=aB s.3 (2*n+5+2*t+3*(aA x.3 20 5 - 1)+2),ok:=bL s.3 (2*n+5+2*t+3*(aA x.3 20 5 - 1)+2) } })) (.pre ((t=t∧n=n)∧lE' s.3) (.ret {d:=false,x:= {addr:=x.1,at':=3,word:=x.3,found:=aB s.3 (2*n+5+2*t+3*(aA x.3 20 5 - 1)+2) },s:= {s with c:=s.4+1,k:=1,a:=2*n+5+2*t+3*(aA x.3 20 5 - 1)+2,o:=aB s.3 (2*n+5+2*t+3*(aA x.3 20 5 - 1)+2),w:=aB s.3 (2*n+5+2*t+3*(aA x.3 20 5 - 1)+2),ok:=bL s.3 (2*n+5+2*t+3*(aA x.3 20 5 - 1)+2) } })))) (.pre ((t=t∧n=n)∧lE' s.3) (.ret {d:=false,x:= {addr:=x.1,at':=3,word:=x.3,found:=aB s.3 (2*n+5+2*t+3*(aA x.3 20 5 - 1)+2) },s:= {s with c:=s.4+1,k:=1,a:=2*n+5+2*t+3*(aA x.3 20 5 - 1)+2,o:=aB s.3 (2*n+5+2*t+3*(aA x.3 20 5 - 1)+2),w:=aB s.3 (2*n+5+2*t+3*(aA x.3 20 5 - 1)+2),ok:=bL s.3 (2*n+5+2*t+3*(aA x.3 20 5 - 1)+2) } }))) (.pre ((t=t∧n=n)∧lE' s.3) (.ret {d:=false,x:= {addr:=x.1,at':=3,word:=x.3,found:=aB s.3 (2*n+5+2*t+3*(aA x.3 20 5 - 1)+2) },s:= {s with c:=s.4+1,k:=1,a:=2*n+5+2*t+3*(aA x.3 20 5 - 1)+2,o:=aB s.3 (2*n+5+2*t+3*(aA x.3 20 5 - 1)+2),w:=aB s.3 (2*n+5+2*t+3*(aA x.3 20 5 - 1)+2),ok:=bL s.3 (2*n+5+2*t+3*(aA x.3 20 5 - 1)+2) } }))))))
theorem IE(t n:Int)(x:CLS)(s:MS)(K:ClO→Prop)(h:(BF t n x s).run K):cT' 96 [.ptr 0 0,.ptr 1 0] [some (.cells [.int .i64 t,.int .i64 n,.int .i64 x.addr,.int .i64 1,.int .u64 x.word,.int .u64 x.found]),a9 2 s,bA s] (cV 3 0 [] [] (PJ t n) K):=by
 exact cM' (E:=EB3) (by kernel_rfl) h
def BG(t n:Int)(x:CLS)(s:MS):Tr ClO:=.pre True (.pre True (.pre True (.pre True (.pre ((((0:Int)≤t∧t≤(100000:Int))∧((0:Int)≤n∧n≤(100000:Int))∧(-1099511627776:Int)≤aA x.3 20 5 - 1∧aA x.3 20 5 - (1:Int)≤(1099511627776:Int))∧True) (.pre ((lE' s.3∧(0:Int)≤s.4∧s.4≤(4611686018427387904:Int))∧True) (.pre ((t=t∧n=n)∧lE' (bif aS s.3 (2*n+5+2*t+3*(aA x.3 20 5 - 1)+2) x.4 then aJ s.3 (2*n+5+2*t+3*(aA x.3 20 5 - 1)+2) (bif dOk (aA x.4 0 12) (aA x.4 12 9) (aA x.4 21 18) (aA x.4 39 9) 3 (aA x.4 52 10)then aY (aA x.4 0 12) (aA x.4 12 9) (aA x.4 21 18) (aA x.4 39 9) (ieq (aA x.4 48 1) 1) 3 (aA x.4 52 10)else 0)else s.3)) (.ret {d:=false,x:= {x with at':=3},s:= {t:=s.1,n:=s.2,xs:=bif aS s.3 (2*n+5+2*t+3*(aA x.3 20 5 - 1)+2) x.4 then aJ s.3 (2*n+5+2*t+3*(aA x.3 20 5 - 1)+2) (bif dOk (aA x.4 0 12) (aA x.4 12 9) (aA x.4 21 18) (aA x.4 39 9) 3 (aA x.4 52 10)then aY (aA x.4 0 12) (aA x.4 12 9) (aA x.4 21 18) (aA x.4 39 9) (ieq (aA x.4 48 1) 1) 3 (aA x.4 52 10)else 0)else s.3,c:=s.4+1,k:=3,a:=2*n+5+2*t+3*(aA x.3 20 5 - 1)+2,o:=aB s.3 (2*n+5+2*t+3*(aA x.3 20 5 - 1)+2),w:=bif bL s.3 (2*n+5+2*t+3*(aA x.3 20 5 - 1)+2)then bif dOk (aA x.4 0 12) (aA x.4 12 9) (aA x.4 21 18) (aA x.4 39 9) 3 (aA x.4 52 10)then aY (aA x.4 0 12) (aA x.4 12 9) (aA x.4 21 18) (aA x.4 39 9) (ieq (aA x.4 48 1) 1) 3 (aA x.4 52 10)else 0 else 0,ok:=aS s.3 (2*n+5+2*t+3*(aA x.3 20 5 - 1)+2) x.4} })))))))
theorem IF(t n:Int)(x:CLS)(s:MS)(K:ClO→Prop)(h:(BG t n x s).run K):cT' 96 [.ptr 0 0,.ptr 1 0] [some (.cells [.int .i64 t,.int .i64 n,.int .i64 x.addr,.int .i64 2,.int .u64 x.word,.int .u64 x.found]),a9 2 s,bA s] (cV 3 0 [] [] (PJ t n) K):=by
 exact cM' (E:=EB3) (by kernel_rfl) h
def BH(t n:Int)(x:CLS)(s:MS):Tr ClO:=.pre True (.pre ((0:Int)≤aA x.3 25 18∧aA x.3 25 (18:Int)≤(1000000:Int)) (.pre True (.pre ((lE' s.3∧(0:Int)≤s.4∧s.4≤(4611686018427387904:Int))∧True) (.pre ((t=t∧n=n)∧lE' (bif aS s.3 x.1 x.3 then aJ s.3 x.1 (bif bif aH (aA x.3 0 10) 10 then bif aH (aA x.3 10 9) 9 then bif aH 0 5 then aH (aO (aA x.3 25 18)) 18 else false else false else false then aT (aA x.3 0 10) (aA x.3 10 9) (ieq (aA x.3 19 1) 1) 0 (aO (aA x.3 25 18))else 0)else s.3)) (.ret {d:=true,x:= {x with at':=3},s:= {t:=s.1,n:=s.2,xs:=bif aS s.3 x.1 x.3 then aJ s.3 x.1 (bif bif aH (aA x.3 0 10) 10 then bif aH (aA x.3 10 9) 9 then bif aH 0 5 then aH (aO (aA x.3 25 18)) 18 else false else false else false then aT (aA x.3 0 10) (aA x.3 10 9) (ieq (aA x.3 19 1) 1) 0 (aO (aA x.3 25 18))else 0)else s.3,c:=s.4+1,k:=3,a:=x.1,o:=aB s.3 x.1,w:=bif bL s.3 x.1 then bif bif aH (aA x.3 0 10) 10 then bif aH (aA x.3 10 9) 9 then bif aH 0 5 then aH (aO (aA x.3 25 18)) 18 else false else false else false then aT (aA x.3 0 10) (aA x.3 10 9) (ieq (aA x.3 19 1) 1) 0 (aO (aA x.3 25 18))else 0 else 0,ok:=aS s.3 x.1 x.3} })))))
theorem IG(t n:Int)(x:CLS)(s:MS)(K:ClO→Prop)(h:(BH t n x s).run K):cT' 96 [.ptr 0 0,.ptr 1 0] [some (.cells [.int .i64 t,.int .i64 n,.int .i64 x.addr,.int .i64 3,.int .u64 x.word,.int .u64 x.found]),a9 2 s,bA s] (cV 3 0 [] [] (PJ t n) K):=by
 exact cM' (E:=EB3) (by kernel_rfl) h
def X5(t n:Int)(x:CLS)(s:MS):Tr ClO:=
 bif ieq x.at' 0 then BE t n x s else
 bif ieq x.at' 1 then BF t n x s else
 bif ieq x.at' 2 then BG t n x s else
 bif ieq x.at' 3 then BH t n x s else .pre False (.ret default)
def gA(t n:Int)(x:CLS)(s:MS):ClO:=(X5 t n x s).val
def P4(t n:Int)(x:CLS)(s:MS):Prop:=(X5 t n x s).ok
theorem P6(t n:Int)(x:CLS)(s:MS)(K:AVal→aD Ob→Prop)(h:(X5 t n x s).run (fun y=>(ClO.fin t n y).run K)):cT' 96 [.ptr 0 0,.ptr 1 0] (clH t n x s) K:=by
 unfold X5 at h
 by_cases e:x.at'=0
 ·rw [e]at h
  have h:(BE t n x s).run _:=h
  refine aBt (root:=0) (pos:=[]) (cs:=[]) (parse:=PJ t n) (fin:=ClO.fin t n) zD (b8.unpack (.clear t n x) 0 0 (l1 t n x) [] rfl (congrArg (Prod.mk 0) rfl) (by kernel_rfl) rfl) ?_
  have q:=ID t n x s _ h
  rw [←e]at q
  exact q
 rw [cY e]at h
 by_cases e:x.at'=1
 ·rw [e]at h
  have h:(BF t n x s).run _:=h
  refine aBt (root:=0) (pos:=[]) (cs:=[]) (parse:=PJ t n) (fin:=ClO.fin t n) zD (b8.unpack (.clear t n x) 0 0 (l1 t n x) [] rfl (congrArg (Prod.mk 0) rfl) (by kernel_rfl) rfl) ?_
  have q:=IE t n x s _ h
  rw [←e]at q
  exact q
 rw [cY e]at h
 by_cases e:x.at'=2
 ·rw [e]at h
  have h:(BG t n x s).run _:=h
  refine aBt (root:=0) (pos:=[]) (cs:=[]) (parse:=PJ t n) (fin:=ClO.fin t n) zD (b8.unpack (.clear t n x) 0 0 (l1 t n x) [] rfl (congrArg (Prod.mk 0) rfl) (by kernel_rfl) rfl) ?_
  have q:=IF t n x s _ h
  rw [←e]at q
  exact q
 rw [cY e]at h
 by_cases e:x.at'=3
 ·rw [e]at h
  have h:(BH t n x s).run _:=h
  refine aBt (root:=0) (pos:=[]) (cs:=[]) (parse:=PJ t n) (fin:=ClO.fin t n) zD (b8.unpack (.clear t n x) 0 0 (l1 t n x) [] rfl (congrArg (Prod.mk 0) rfl) (by kernel_rfl) rfl) ?_
  have q:=IG t n x s _ h
  rw [←e]at q
  exact q
 rw [cY e]at h
 exact h.1.elim
noncomputable def clS:aM Ob:=fun args h=>match args,h with
 | [.ptr 0 0,.ptr 1 0],[some (.abs (.clear t n x) []),e1,e2]=>(match fD 2 [e1,e2]with
   | some (l,s)=>some (.pre (l=s.xs.length∧P4 t n x s) (ClO.fin t n (gA t n x s)))
   | none=>none)
 | _,_=>none
theorem YL:sT' 96 clS:=by
 intro args h o ho K hK
 unfold clS at ho
 split at ho
 case h_2=>cases ho
 split at ho<;>cases ho
 rename_i hm
 obtain⟨⟨hl,ok⟩,hK⟩:=hK
 have hh:=cC hm hl
 cases hh
 exact P6 _ _ _ _ K (aBD ok hK)
def UL(t n:Int)(v:AVal)(g:aD Ob):Option (Prop×CLS):=match v,g with
 | .ptr 0 0,[some (.cells [.int .i64 t1,.int .i64 n1,.int .i64 addr,.int .i64 at',.int .u64 word,.int .u64 found])]=>some ((t1=t∧n1=n),(⟨addr,at',word,found⟩:CLS))
 | _,_=>none
abbrev P2(t n:Int)(y:CLS):aD Ob:=[some (.abs (.clear t n y) [])]
theorem P3{t n:Int} :dI (obI tbl) 0 (UL t n) (fun y=>.ret (.ptr 0 0) (P2 t n y)):=by
 intro v g p x hp hq K hK
 unfold UL at hp
 split at hp
 case h_2=>cases hp
 rename_i t1 n1 addr at' word found
 simp only [sI',pI']at hp
 obtain⟨rfl,rfl⟩:=hp
 obtain⟨rfl,rfl⟩:=hq
 exact⟨⟨_,_,aQ.pack (P2 t1 n1 (⟨addr,at',word,found⟩:CLS)) (.clear t1 n1 (⟨addr,at',word,found⟩:CLS)) 0 0 (l1 t1 n1 (⟨addr,at',word,found⟩:CLS)) [] (by kernel_rfl) rfl (congrArg (Prod.mk 0) rfl) (by kernel_rfl),hK⟩⟩
def UN(t n:Int)(a:Int):Tr CLS:=.pre (t=t∧n=n) (.ret {addr:=a,at':=0,word:=0,found:=0})
def DV(t n:Int)(a:Int):CLS:=(UN t n a).val
def u2(t n:Int)(a:Int):Prop:=(UN t n a).ok
def clNS:aM Ob:=fun args h=>match args,h with
 | [.agg [.int .i64 t,.int .i64 n],.int .i64 a],[]=>some (.pre (u2 t n a) (.ret (.ptr 0 0) (P2 t n (DV t n a))))
 | _,_=>none
theorem UO:sT' 159 clNS:=by
 intro args h o ho K hK
 unfold clNS at ho
 split at ho<;>cases ho
 rename_i t n a
 obtain⟨ok,hK⟩:=hK
 refine aBF (root:=0) (pos:=[]) (cs:=[]) (parse:=UL t n) P3 ?_
 exact cM' (E:=EB3) (q:=(UN t n a).run (fun y=>(Out.ret (.ptr 0 0) (P2 t n y)).run K)) (by kernel_rfl) (aBD ok hK)
noncomputable def EC1:=((EB3.addS 96 clS YL).addS 159 clNS UO)
noncomputable def EQ1:=((EC1))
noncomputable def EQ2:=EQ1
noncomputable def EQ:=EQ2
structure HdO where
 d:Bool
 x:HDS
 s:MS
instance:Inhabited HdO:=⟨⟨false,⟨0,0,0,false⟩,⟨0,0,[],0,0,0,0,0,false⟩⟩⟩
instance:Inhabited HDS:=⟨⟨0,0,0,false⟩⟩
abbrev hdH(t n:Int)(x:HDS)(s:MS):aD Ob:=[some (.abs (.head t n x) []),a9 2 s,bA s]
abbrev hdD(t n:Int)(x:HDS)(s:MS):aD Ob:=[some (.cells [.int .i64 t,.int .i64 n,.int .i64 x.u,.int .u64 x.no,.int .i64 x.at',.bool x.tk]),a9 2 s,bA s]
def HdO.fin(t n:Int)(y:HdO):Out Ob:=.ite y.d (.ret (.bool true) (hdD t n y.x y.s)) (.ret (.bool false) (hdH t n y.x y.s))
noncomputable def EC2:=((EQ))
structure DrO where
 d:Bool
 x:DRS
 s:MS
instance:Inhabited DrO:=⟨⟨false,⟨0,0⟩,⟨0,0,[],0,0,0,0,0,false⟩⟩⟩
instance:Inhabited DRS:=⟨⟨0,0⟩⟩
abbrev drH(t n:Int)(x:DRS)(s:MS):aD Ob:=[some (.abs (.drop t n x) []),a9 2 s,bA s]
abbrev drD(t n:Int)(x:DRS)(s:MS):aD Ob:=[some (.cells [.int .i64 t,.int .i64 n,.int .i64 x.th,.int .i64 x.at']),a9 2 s,bA s]
def DrO.fin(t n:Int)(y:DrO):Out Ob:=.ite y.d (.ret (.bool true) (drD t n y.x y.s)) (.ret (.bool false) (drH t n y.x y.s))
noncomputable def EC3:=((EC2))
structure AnO where
 d:Bool
 x:ANS
 s:MS
instance:Inhabited AnO:=⟨⟨false,⟨0,0,0,0,false,0⟩,⟨0,0,[],0,0,0,0,0,false⟩⟩⟩
instance:Inhabited ANS:=⟨⟨0,0,0,0,false,0⟩⟩
abbrev anH(t n:Int)(x:ANS)(s:MS):aD Ob:=[some (.abs (.announce t n x) []),a9 2 s,bA s]
abbrev anD(t n:Int)(x:ANS)(s:MS):aD Ob:=[some (.cells [.int .i64 t,.int .i64 n,.int .u64 x.no,.int .i64 x.me,.int .i64 x.at',.int .u64 x.bits,.bool x.wrong,.int .u64 x.found]),a9 2 s,bA s]
def AnO.fin(t n:Int)(y:AnO):Out Ob:=.ite y.d (.ret (.bool true) (anD t n y.x y.s)) (.ret (.bool false) (anH t n y.x y.s))
def UH(t n:Int)(v:AVal)(g:aD Ob):Option (Prop×AnO):=match v,g with
 | .bool d,[some (.cells [.int .i64 t1,.int .i64 n1,.int .u64 no,.int .i64 me,.int .i64 at',.int .u64 bits,.bool wrong,.int .u64 found]),e1,e2]=>(match fD 2 [e1,e2]with
   | some (l,s)=>some ((t1=t∧n1=n)∧l=s.xs.length,⟨d,⟨no,me,at',bits,wrong,found⟩,s⟩)
   | none=>none)
 | _,_=>none
def KO(t n:Int)(v:AVal)(g:aD Ob):Option (Prop×AnO):=UH t n v g
theorem PS{t n:Int} :dI (obI tbl) 3 (UH t n) (AnO.fin t n):=by
 intro v g p x hp hq K hK
 unfold UH at hp
 split at hp
 case h_2=>cases hp
 rename_i d t1 n1 no me at' bits wrong found e1 e2
 split at hp
 case h_2=>cases hp
 rename_i l s hm
 simp only [sI',pI']at hp
 obtain⟨rfl,rfl⟩:=hp
 obtain⟨⟨rfl,rfl⟩,hl⟩:=hq
 have hh:=cC hm hl
 cases hh
 refine yN hK (fun h=>?_) (fun h=>?_)
 ·exact⟨⟨_,_,aQ.refl _ _ _,h⟩⟩
 ·exact⟨⟨_,_,(aQ.pack (anH t1 n1 (⟨no,me,at',bits,wrong,found⟩:ANS) s) (.announce t1 n1 (⟨no,me,at',bits,wrong,found⟩:ANS)) 0 0 (fE t1 n1 (⟨no,me,at',bits,wrong,found⟩:ANS)) [] (by kernel_rfl) rfl (congrArg (Prod.mk 0) rfl) (by kernel_rfl)),h⟩⟩
theorem uT{t n:Int} :dI (obI tbl) 3 (KO t n) (AnO.fin t n):=by
 intro v g p x hp hq K hK
 unfold KO at hp
 exact PS v g p x hp hq K hK
def A3(t n:Int)(x:ANS)(s:MS):Tr AnO:=.ite x.5 (.pre (lE' s.3∧(0:Int)≤s.4∧s.4≤(4611686018427387904:Int)) (.pre ((t=t∧n=n)∧lE' s.3) (.ret {d:=true,x:= {x with at':=0},s:= {s with c:=s.4+1,k:=1,a:=0,o:=aB s.3 0,w:=aB s.3 0,ok:=bL s.3 0} }))) (.pre ((((0:Int)≤t∧t≤(100000:Int))∧((0:Int)≤n∧n≤(100000:Int))∧(-1099511627776:Int)≤x.2∧x.2≤(1099511627776:Int))∧True) (.pre ((lE' s.3∧(0:Int)≤s.4∧s.4≤(4611686018427387904:Int))∧True) (.pre ((t=t∧n=n)∧lE' (aJ s.3 (2*n+5+2*t+3*x.2+1) x.4)) (.ret {d:=false,x:= {x with at':=W (0+1)},s:= {t:=s.1,n:=s.2,xs:=aJ s.3 (2*n+5+2*t+3*x.2+1) x.4,c:=s.4+1,k:=2,a:=2*n+5+2*t+3*x.2+1,o:=aB s.3 (2*n+5+2*t+3*x.2+1),w:=bif bL s.3 (2*n+5+2*t+3*x.2+1)then x.4 else 0,ok:=bL s.3 (2*n+5+2*t+3*x.2+1) } }))))
theorem H4(t n:Int)(x:ANS)(s:MS)(K:AnO→Prop)(h:(A3 t n x s).run K):cT' 190 [.ptr 0 0,.ptr 1 0] [some (.cells [.int .i64 t,.int .i64 n,.int .u64 x.no,.int .i64 x.me,.int .i64 0,.int .u64 x.bits,.bool x.wrong,.int .u64 x.found]),a9 2 s,bA s] (cV 3 0 [] [] (KO t n) K):=by
 exact cM' (E:=EC3) (by kernel_rfl) h
def A4(t n:Int)(x:ANS)(s:MS):Tr AnO:=.ite x.5 (.pre (lE' s.3∧(0:Int)≤s.4∧s.4≤(4611686018427387904:Int)) (.pre ((t=t∧n=n)∧lE' s.3) (.ret {d:=true,x:= {x with at':=1},s:= {s with c:=s.4+1,k:=1,a:=0,o:=aB s.3 0,w:=aB s.3 0,ok:=bL s.3 0} }))) (.pre (((0:Int)≤t∧t≤(100000:Int))∧(0:Int)≤n∧n≤(100000:Int)) (.pre (lE' s.3∧(0:Int)≤s.4∧s.4≤(4611686018427387904:Int)) (.pre ((t=t∧n=n)∧lE' (aJ s.3 (2*n+5+2*t+3*t) (WU (aB s.3 (2*n+5+2*t+3*t)+1)))) (.ret {d:=false,x:= {x with no:=WU (aB s.3 (2*n+5+2*t+3*t)+1),at':=W (1+1)},s:= {t:=s.1,n:=s.2,xs:=aJ s.3 (2*n+5+2*t+3*t) (WU (aB s.3 (2*n+5+2*t+3*t)+1)),c:=s.4+1,k:=4,a:=2*n+5+2*t+3*t,o:=aB s.3 (2*n+5+2*t+3*t),w:=bif bL s.3 (2*n+5+2*t+3*t)then WU (aB s.3 (2*n+5+2*t+3*t)+1)else 0,ok:=bL s.3 (2*n+5+2*t+3*t) } }))))
theorem H5(t n:Int)(x:ANS)(s:MS)(K:AnO→Prop)(h:(A4 t n x s).run K):cT' 190 [.ptr 0 0,.ptr 1 0] [some (.cells [.int .i64 t,.int .i64 n,.int .u64 x.no,.int .i64 x.me,.int .i64 1,.int .u64 x.bits,.bool x.wrong,.int .u64 x.found]),a9 2 s,bA s] (cV 3 0 [] [] (KO t n) K):=by
 exact cM' (E:=EC3) (by kernel_rfl) h
def A5(t n:Int)(x:ANS)(s:MS):Tr AnO:=.ite x.5 (.pre (lE' s.3∧(0:Int)≤s.4∧s.4≤(4611686018427387904:Int)) (.pre ((t=t∧n=n)∧lE' s.3) (.ret {d:=true,x:= {x with at':=2},s:= {s with c:=s.4+1,k:=1,a:=0,o:=aB s.3 0,w:=aB s.3 0,ok:=bL s.3 0} }))) (.pre ((((0:Int)≤t∧t≤(100000:Int))∧((0:Int)≤n∧n≤(100000:Int))∧(-1099511627776:Int)≤x.2∧x.2≤(1099511627776:Int))∧True) (.pre ((lE' s.3∧(0:Int)≤s.4∧s.4≤(4611686018427387904:Int))∧True) (.pre ((t=t∧n=n)∧lE' (aJ s.3 (2*n+5+2*t+3*x.2) x.1)) (.ret {d:=false,x:= {x with at':=W (2+1)},s:= {t:=s.1,n:=s.2,xs:=aJ s.3 (2*n+5+2*t+3*x.2) x.1,c:=s.4+1,k:=2,a:=2*n+5+2*t+3*x.2,o:=aB s.3 (2*n+5+2*t+3*x.2),w:=bif bL s.3 (2*n+5+2*t+3*x.2)then x.1 else 0,ok:=bL s.3 (2*n+5+2*t+3*x.2) } }))))
theorem H6(t n:Int)(x:ANS)(s:MS)(K:AnO→Prop)(h:(A5 t n x s).run K):cT' 190 [.ptr 0 0,.ptr 1 0] [some (.cells [.int .i64 t,.int .i64 n,.int .u64 x.no,.int .i64 x.me,.int .i64 2,.int .u64 x.bits,.bool x.wrong,.int .u64 x.found]),a9 2 s,bA s] (cV 3 0 [] [] (KO t n) K):=by
 exact cM' (E:=EC3) (by kernel_rfl) h
def A6(t n:Int)(x:ANS)(s:MS):Tr AnO:=.ite x.5 (.pre (lE' s.3∧(0:Int)≤s.4∧s.4≤(4611686018427387904:Int)) (.pre ((t=t∧n=n)∧lE' s.3) (.ret {d:=true,x:= {x with at':=3},s:= {s with c:=s.4+1,k:=1,a:=0,o:=aB s.3 0,w:=aB s.3 0,ok:=bL s.3 0} }))) (.pre ((((0:Int)≤t∧t≤(100000:Int))∧((0:Int)≤n∧n≤(100000:Int))∧(-1099511627776:Int)≤x.2∧x.2≤(1099511627776:Int))∧True) (.pre ((lE' s.3∧(0:Int)≤s.4∧s.4≤(4611686018427387904:Int))∧True) (.pre ((t=t∧n=n)∧lE' s.3) (.ret {d:=false,x:= {x with at':=W (3+1),found:=aB s.3 (2*n+5+2*t+3*x.2+2) },s:= {s with c:=s.4+1,k:=1,a:=2*n+5+2*t+3*x.2+2,o:=aB s.3 (2*n+5+2*t+3*x.2+2),w:=aB s.3 (2*n+5+2*t+3*x.2+2),ok:=bL s.3 (2*n+5+2*t+3*x.2+2) } }))))
theorem H7(t n:Int)(x:ANS)(s:MS)(K:AnO→Prop)(h:(A6 t n x s).run K):cT' 190 [.ptr 0 0,.ptr 1 0] [some (.cells [.int .i64 t,.int .i64 n,.int .u64 x.no,.int .i64 x.me,.int .i64 3,.int .u64 x.bits,.bool x.wrong,.int .u64 x.found]),a9 2 s,bA s] (cV 3 0 [] [] (KO t n) K):=by
 exact cM' (E:=EC3) (by kernel_rfl) h
def uU(t n:Int)(x:ANS)(s:MS):Tr AnO:=.ite x.5 (.pre (lE' s.3∧(0:Int)≤s.4∧s.4≤(4611686018427387904:Int)) (.pre ((t=t∧n=n)∧lE' s.3) (.ret {d:=true,x:= {x with at':=4},s:= {s with c:=s.4+1,k:=1,a:=0,o:=aB s.3 0,w:=aB s.3 0,ok:=bL s.3 0} }))) (.pre True (.pre ((0:Int)≤aA x.6 0 12∧aA x.6 0 (12:Int)≤(1000000:Int)) (.pre True (.pre ((((0:Int)≤t∧t≤(100000:Int))∧((0:Int)≤n∧n≤(100000:Int))∧(-1099511627776:Int)≤x.2∧x.2≤(1099511627776:Int))∧True) (.pre ((lE' s.3∧(0:Int)≤s.4∧s.4≤(4611686018427387904:Int))∧True) (.pre ((t=t∧n=n)∧lE' (aJ s.3 (2*n+5+2*t+3*x.2+2) (bif dOk (eO (aA x.6 0 12)) 0 0 0 1 0 then aY (eO (aA x.6 0 12)) 0 0 0 false 1 0 else 0))) (.ret {d:=true,x:= {x with at':=W (4+1)},s:= {t:=s.1,n:=s.2,xs:=aJ s.3 (2*n+5+2*t+3*x.2+2) (bif dOk (eO (aA x.6 0 12)) 0 0 0 1 0 then aY (eO (aA x.6 0 12)) 0 0 0 false 1 0 else 0),c:=s.4+1,k:=2,a:=2*n+5+2*t+3*x.2+2,o:=aB s.3 (2*n+5+2*t+3*x.2+2),w:=bif bL s.3 (2*n+5+2*t+3*x.2+2)then bif dOk (eO (aA x.6 0 12)) 0 0 0 1 0 then aY (eO (aA x.6 0 12)) 0 0 0 false 1 0 else 0 else 0,ok:=bL s.3 (2*n+5+2*t+3*x.2+2) } })))))))
theorem H8(t n:Int)(x:ANS)(s:MS)(K:AnO→Prop)(h:(uU t n x s).run K):cT' 190 [.ptr 0 0,.ptr 1 0] [some (.cells [.int .i64 t,.int .i64 n,.int .u64 x.no,.int .i64 x.me,.int .i64 4,.int .u64 x.bits,.bool x.wrong,.int .u64 x.found]),a9 2 s,bA s] (cV 3 0 [] [] (KO t n) K):=by
 exact cM' (E:=EC3) (by kernel_rfl) h
def K9(t n:Int)(x:ANS)(s:MS):Tr AnO:=
 bif ieq x.at' 0 then A3 t n x s else
 bif ieq x.at' 1 then A4 t n x s else
 bif ieq x.at' 2 then A5 t n x s else
 bif ieq x.at' 3 then A6 t n x s else
 bif ieq x.at' 4 then uU t n x s else .pre False (.ret default)
def anF(t n:Int)(x:ANS)(s:MS):AnO:=(K9 t n x s).val
def K8(t n:Int)(x:ANS)(s:MS):Prop:=(K9 t n x s).ok
theorem PU(t n:Int)(x:ANS)(s:MS)(K:AVal→aD Ob→Prop)(h:(K9 t n x s).run (fun y=>(AnO.fin t n y).run K)):cT' 190 [.ptr 0 0,.ptr 1 0] (anH t n x s) K:=by
 unfold K9 at h
 by_cases e:x.at'=0
 ·rw [e]at h
  have h:(A3 t n x s).run _:=h
  refine aBt (root:=0) (pos:=[]) (cs:=[]) (parse:=KO t n) (fin:=AnO.fin t n) uT (b8.unpack (.announce t n x) 0 0 (fE t n x) [] rfl (congrArg (Prod.mk 0) rfl) (by kernel_rfl) rfl) ?_
  have q:=H4 t n x s _ h
  rw [←e]at q
  exact q
 rw [cY e]at h
 by_cases e:x.at'=1
 ·rw [e]at h
  have h:(A4 t n x s).run _:=h
  refine aBt (root:=0) (pos:=[]) (cs:=[]) (parse:=KO t n) (fin:=AnO.fin t n) uT (b8.unpack (.announce t n x) 0 0 (fE t n x) [] rfl (congrArg (Prod.mk 0) rfl) (by kernel_rfl) rfl) ?_
  have q:=H5 t n x s _ h
  rw [←e]at q
  exact q
 rw [cY e]at h
 by_cases e:x.at'=2
 ·rw [e]at h
  have h:(A5 t n x s).run _:=h
  refine aBt (root:=0) (pos:=[]) (cs:=[]) (parse:=KO t n) (fin:=AnO.fin t n) uT (b8.unpack (.announce t n x) 0 0 (fE t n x) [] rfl (congrArg (Prod.mk 0) rfl) (by kernel_rfl) rfl) ?_
  have q:=H6 t n x s _ h
  rw [←e]at q
  exact q
 rw [cY e]at h
 by_cases e:x.at'=3
 ·rw [e]at h
  have h:(A6 t n x s).run _:=h
  refine aBt (root:=0) (pos:=[]) (cs:=[]) (parse:=KO t n) (fin:=AnO.fin t n) uT (b8.unpack (.announce t n x) 0 0 (fE t n x) [] rfl (congrArg (Prod.mk 0) rfl) (by kernel_rfl) rfl) ?_
  have q:=H7 t n x s _ h
  rw [←e]at q
  exact q
 rw [cY e]at h
 by_cases e:x.at'=4
 ·rw [e]at h
  have h:(uU t n x s).run _:=h
  refine aBt (root:=0) (pos:=[]) (cs:=[]) (parse:=KO t n) (fin:=AnO.fin t n) uT (b8.unpack (.announce t n x) 0 0 (fE t n x) [] rfl (congrArg (Prod.mk 0) rfl) (by kernel_rfl) rfl) ?_
  have q:=H8 t n x s _ h
  rw [←e]at q
  exact q
 rw [cY e]at h
 exact h.1.elim
noncomputable def anS:aM Ob:=fun args h=>match args,h with
 | [.ptr 0 0,.ptr 1 0],[some (.abs (.announce t n x) []),e1,e2]=>(match fD 2 [e1,e2]with
   | some (l,s)=>some (.pre (l=s.xs.length∧K8 t n x s) (AnO.fin t n (anF t n x s)))
   | none=>none)
 | _,_=>none
theorem YG:sT' 190 anS:=by
 intro args h o ho K hK
 unfold anS at ho
 split at ho
 case h_2=>cases ho
 split at ho<;>cases ho
 rename_i hm
 obtain⟨⟨hl,ok⟩,hK⟩:=hK
 have hh:=cC hm hl
 cases hh
 exact PU _ _ _ _ K (aBD ok hK)
def UF(t n:Int)(v:AVal)(g:aD Ob):Option (Prop×ANS):=match v,g with
 | .ptr 0 0,[some (.cells [.int .i64 t1,.int .i64 n1,.int .u64 no,.int .i64 me,.int .i64 at',.int .u64 bits,.bool wrong,.int .u64 found])]=>some ((t1=t∧n1=n),(⟨no,me,at',bits,wrong,found⟩:ANS))
 | _,_=>none
abbrev PO(t n:Int)(y:ANS):aD Ob:=[some (.abs (.announce t n y) [])]
theorem PP{t n:Int} :dI (obI tbl) 0 (UF t n) (fun y=>.ret (.ptr 0 0) (PO t n y)):=by
 intro v g p x hp hq K hK
 unfold UF at hp
 split at hp
 case h_2=>cases hp
 rename_i t1 n1 no me at' bits wrong found
 simp only [sI',pI']at hp
 obtain⟨rfl,rfl⟩:=hp
 obtain⟨rfl,rfl⟩:=hq
 exact⟨⟨_,_,aQ.pack (PO t1 n1 (⟨no,me,at',bits,wrong,found⟩:ANS)) (.announce t1 n1 (⟨no,me,at',bits,wrong,found⟩:ANS)) 0 0 (fE t1 n1 (⟨no,me,at',bits,wrong,found⟩:ANS)) [] (by kernel_rfl) rfl (congrArg (Prod.mk 0) rfl) (by kernel_rfl),hK⟩⟩
def PR(t n:Int)(u sh kd ky:Int):Tr ANS:=.pre True (.pre (t=t∧n=n) (.ret {no:=0,me:=u,at':=0,bits:=bif bX sh kd ky then tskV sh kd ky else 0,wrong:=!ieq (bif bX sh kd ky then 0 else 1) 0,found:=0}))
def anNF(t n:Int)(u sh kd ky:Int):ANS:=(PR t n u sh kd ky).val
def uS(t n:Int)(u sh kd ky:Int):Prop:=(PR t n u sh kd ky).ok
def anNS:aM Ob:=fun args h=>match args,h with
 | [.agg [.int .i64 t,.int .i64 n],.int .i64 u,.agg [.int .i64 sh,.int .i64 kd,.int .i64 ky]],[]=>some (.pre (uS t n u sh kd ky) (.ret (.ptr 0 0) (PO t n (anNF t n u sh kd ky))))
 | _,_=>none
theorem UG:sT' 104 anNS:=by
 intro args h o ho K hK
 unfold anNS at ho
 split at ho<;>cases ho
 rename_i t n u sh kd ky
 obtain⟨ok,hK⟩:=hK
 refine aBF (root:=0) (pos:=[]) (cs:=[]) (parse:=UF t n) PP ?_
 exact cM' (E:=EC3) (q:=(PR t n u sh kd ky).run (fun y=>(Out.ret (.ptr 0 0) (PO t n y)).run K)) (by kernel_rfl) (aBD ok hK)
noncomputable def EC4:=((EC3.addS 190 anS YG).addS 104 anNS UG)
structure AwO where
 d:Bool
 x:AWS
 s:MS
instance:Inhabited AwO:=⟨⟨false,⟨0,false,0,0⟩,⟨0,0,[],0,0,0,0,0,false⟩⟩⟩
instance:Inhabited AWS:=⟨⟨0,false,0,0⟩⟩
abbrev awH(t n:Int)(x:AWS)(s:MS):aD Ob:=[some (.abs (.answer t n x) []),a9 2 s,bA s]
abbrev awD(t n:Int)(x:AWS)(s:MS):aD Ob:=[some (.cells [.int .i64 t,.int .i64 n,.int .i64 x.code,.bool x.okk,.int .i64 x.val,.int .i64 x.me]),a9 2 s,bA s]
def AwO.fin(t n:Int)(y:AwO):Out Ob:=.ite y.d (.ret (.bool true) (awD t n y.x y.s)) (.ret (.bool false) (awH t n y.x y.s))
noncomputable def EC5:=((EC4))
def F5:bZ Ob:=fun args h=>match args,h with
 | [.ptr 0 0],[some (.cells [.int .i64 t,.int .i64 n,.int .i64 pop,.int .i64 gave,.int .i64 u,.int .i64 sh,.int .i64 kd,.int .i64 ky,.bool only,.int .i64 att,.int .i64 at',.int .u64 found,.int .u64 word])]=>some (True,.agg [.int .i64 (aA found 0 12),.int .i64 (aA found 12 9),.int .i64 (aA found 21 18),.int .i64 (aA found 39 9),.bool (ieq (aA found 48 1) 1),.int .i64 (aA found 49 3),.int .i64 (aA found 52 10)])
 | _,_=>none
theorem PF:sT' 208 F5.spec:=by
 intro args h o ho K hK
 unfold bZ.spec F5 at ho
 split at ho
 case h_2=>cases ho
 rename_i p v hp
 split at hp
 case h_2=>cases hp
 rename_i t n pop gave u sh kd ky only att at' found word
 simp only [sI',pI']at hp
 obtain⟨rfl,rfl⟩:=hp
 simp only [sI']at ho;subst ho
 obtain⟨hp,hK⟩:=hK
 have hK:K (.agg [.int .i64 (aA found 0 12),.int .i64 (aA found 12 9),.int .i64 (aA found 21 18),.int .i64 (aA found 39 9),.bool (ieq (aA found 48 1) 1),.int .i64 (aA found 49 3),.int .i64 (aA found 52 10)]) [some (.cells [.int .i64 t,.int .i64 n,.int .i64 pop,.int .i64 gave,.int .i64 u,.int .i64 sh,.int .i64 kd,.int .i64 ky,.bool only,.int .i64 att,.int .i64 at',.int .u64 found,.int .u64 word])]:=hK
 refine aBs (cM' (E:=EC5) (q:=True∧K (.agg [.int .i64 (aA found 0 12),.int .i64 (aA found 12 9),.int .i64 (aA found 21 18),.int .i64 (aA found 39 9),.bool (ieq (aA found 48 1) 1),.int .i64 (aA found 49 3),.int .i64 (aA found 52 10)]) [some (.cells [.int .i64 t,.int .i64 n,.int .i64 pop,.int .i64 gave,.int .i64 u,.int .i64 sh,.int .i64 kd,.int .i64 ky,.bool only,.int .i64 att,.int .i64 at',.int .u64 found,.int .u64 word])]) (by kernel_rfl) ?_)
 exact⟨trivial,hK⟩
noncomputable def EX1:=EC5.addR 208 F5 PF
def PG(t n pop gave u sh kd ky:Int)(only:Bool)(att at' found word:Int)(k y:Int)(m:Bool)(c v:Int)(s:MS):Out Ob:=.pre True (.pre True (.pre ((lE' s.3∧(0:Int)≤s.4∧s.4≤(4611686018427387904:Int))∧True) (.ret (.bool (aS s.3 (aA found 12 9) word)) [some (.cells [.int .i64 t,.int .i64 n,.int .i64 pop,.int .i64 gave,.int .i64 u,.int .i64 sh,.int .i64 kd,.int .i64 ky,.bool only,.int .i64 att,.int .i64 at',.int .u64 found,.int .u64 word]),some (.cells [.int .i64 s.1,.int .i64 s.2,.slice 2 0 (List.length (bif aS s.3 (aA found 12 9) word then aJ s.3 (aA found 12 9) (bif bif aH k 10 then bif aH y 9 then bif aH c 5 then aH v 18 else false else false else false then aT k y m c v else 0)else s.3)) 1,.int .i64 (s.4+1),.int .i64 3,.int .i64 (aA found 12 9),.int .u64 (aB s.3 (aA found 12 9)),.int .u64 (bif bL s.3 (aA found 12 9)then bif bif aH k 10 then bif aH y 9 then bif aH c 5 then aH v 18 else false else false else false then aT k y m c v else 0 else 0),.bool (aS s.3 (aA found 12 9) word)]),some (.ints (some .u64) (bif aS s.3 (aA found 12 9) word then aJ s.3 (aA found 12 9) (bif bif aH k 10 then bif aH y 9 then bif aH c 5 then aH v 18 else false else false else false then aT k y m c v else 0)else s.3))])))
theorem PH(t n pop gave u sh kd ky:Int)(only:Bool)(att at' found word:Int)(k y:Int)(m:Bool)(c v:Int)(s:MS)(K:AVal→aD Ob→Prop)(h:(PG t n pop gave u sh kd ky only att at' found word k y m c v s).run K):cT' 211 [.ptr 0 0,.ptr 1 0,.agg [.int .i64 k,.int .i64 y,.bool m,.int .i64 c,.int .i64 v]] [some (.cells [.int .i64 t,.int .i64 n,.int .i64 pop,.int .i64 gave,.int .i64 u,.int .i64 sh,.int .i64 kd,.int .i64 ky,.bool only,.int .i64 att,.int .i64 at',.int .u64 found,.int .u64 word]),a9 2 s,bA s] K:=by
 refine aBs (cM' (E:=EX1) (by kernel_rfl) h)
def xputS:aM Ob:=fun args h=>match args,h with
 | [.ptr 0 0,.ptr 1 0,.agg [.int .i64 k,.int .i64 y,.bool m,.int .i64 c,.int .i64 v]],[some (.cells [.int .i64 t,.int .i64 n,.int .i64 pop,.int .i64 gave,.int .i64 u,.int .i64 sh,.int .i64 kd,.int .i64 ky,.bool only,.int .i64 att,.int .i64 at',.int .u64 found,.int .u64 word]),e1,e2]=>(match fD 2 [e1,e2]with
   | some (l,s)=>some (.pre (l=s.xs.length) (PG t n pop gave u sh kd ky only att at' found word k y m c v s))
   | none=>none)
 | _,_=>none
theorem TC:sT' 211 xputS:=by
 intro args h o ho K hK
 unfold xputS at ho
 split at ho
 case h_2=>cases ho
 split at ho<;>cases ho
 rename_i hm
 obtain⟨hl,hK⟩:=hK
 have hh:=cC hm hl
 cases hh
 exact PH _ _ _ _ _ _ _ _ _ _ _ _ _ _ _ _ _ _ _ K hK
def F6(t n pop gave u sh kd ky:Int)(only:Bool)(att at' found word:Int)(a b c d:Int)(m:Bool)(e f:Int)(s:MS):Out Ob:=.pre True (.pre ((((0:Int)≤t∧t≤(100000:Int))∧((0:Int)≤n∧n≤(100000:Int))∧(-1099511627776:Int)≤u∧u≤(1099511627776:Int))∧True) (.pre ((lE' s.3∧(0:Int)≤s.4∧s.4≤(4611686018427387904:Int))∧True) (.ret (.bool (aS s.3 (2*n+5+2*t+3*u+2) found)) [some (.cells [.int .i64 t,.int .i64 n,.int .i64 pop,.int .i64 gave,.int .i64 u,.int .i64 sh,.int .i64 kd,.int .i64 ky,.bool only,.int .i64 att,.int .i64 at',.int .u64 found,.int .u64 word]),some (.cells [.int .i64 s.1,.int .i64 s.2,.slice 2 0 (List.length (bif aS s.3 (2*n+5+2*t+3*u+2) found then aJ s.3 (2*n+5+2*t+3*u+2) (bif dOk a b c d e f then aY a b c d m e f else 0)else s.3)) 1,.int .i64 (s.4+1),.int .i64 3,.int .i64 (2*n+5+2*t+3*u+2),.int .u64 (aB s.3 (2*n+5+2*t+3*u+2)),.int .u64 (bif bL s.3 (2*n+5+2*t+3*u+2)then bif dOk a b c d e f then aY a b c d m e f else 0 else 0),.bool (aS s.3 (2*n+5+2*t+3*u+2) found)]),some (.ints (some .u64) (bif aS s.3 (2*n+5+2*t+3*u+2) found then aJ s.3 (2*n+5+2*t+3*u+2) (bif dOk a b c d e f then aY a b c d m e f else 0)else s.3))])))
theorem KN(t n pop gave u sh kd ky:Int)(only:Bool)(att at' found word:Int)(a b c d:Int)(m:Bool)(e f:Int)(s:MS)(K:AVal→aD Ob→Prop)(h:(F6 t n pop gave u sh kd ky only att at' found word a b c d m e f s).run K):cT' 213 [.ptr 0 0,.ptr 1 0,.agg [.int .i64 a,.int .i64 b,.int .i64 c,.int .i64 d,.bool m,.int .i64 e,.int .i64 f]] [some (.cells [.int .i64 t,.int .i64 n,.int .i64 pop,.int .i64 gave,.int .i64 u,.int .i64 sh,.int .i64 kd,.int .i64 ky,.bool only,.int .i64 att,.int .i64 at',.int .u64 found,.int .u64 word]),a9 2 s,bA s] K:=by
 refine aBs (cM' (E:=EX1) (by kernel_rfl) h)
def xturnS:aM Ob:=fun args h=>match args,h with
 | [.ptr 0 0,.ptr 1 0,.agg [.int .i64 a,.int .i64 b,.int .i64 c,.int .i64 d,.bool m,.int .i64 e,.int .i64 f]],[some (.cells [.int .i64 t,.int .i64 n,.int .i64 pop,.int .i64 gave,.int .i64 u,.int .i64 sh,.int .i64 kd,.int .i64 ky,.bool only,.int .i64 att,.int .i64 at',.int .u64 found,.int .u64 word]),e1,e2]=>(match fD 2 [e1,e2]with
   | some (l,s)=>some (.pre (l=s.xs.length) (F6 t n pop gave u sh kd ky only att at' found word a b c d m e f s))
   | none=>none)
 | _,_=>none
theorem PI:sT' 213 xturnS:=by
 intro args h o ho K hK
 unfold xturnS at ho
 split at ho
 case h_2=>cases ho
 split at ho<;>cases ho
 rename_i hm
 obtain⟨hl,hK⟩:=hK
 have hh:=cC hm hl
 cases hh
 exact KN _ _ _ _ _ _ _ _ _ _ _ _ _ _ _ _ _ _ _ _ _ K hK
noncomputable def EX2:=(EX1.addS 211 xputS TC).addS 213 xturnS PI
instance:Inhabited STS:=⟨⟨0,0,[]⟩⟩
end Go.Sh
