import Derived.Test.YtedeloeobocpiaaGreatZM0toM36
set_option linter.all false
set_option maxHeartbeats 8000000
namespace Go.Sh
open Go Go.Proofs
variable [Con]
def ZH(t n:Int)(x:AL)(s:MS):aD Ob:=[some (.cells [.int .i64 t,.int .i64 n,.int .i64 x.got,.int .i64 x.at',.int .i64 x.left,.int .u64 x.found,.bool x.free]),some (.cells [.int .i64 s.t,.int .i64 s.n,.slice 2 0 s.xs.length 1,.int .i64 s.c,.int .i64 s.k,.int .i64 s.a,.int .u64 s.o,.int .u64 s.w,.bool s.ok]),some (.ints (some .u64) s.xs)]
def oddB(y:Int):Bool:=!ieq (Int.tmod y 2) 0
def cM(n a:Int):Int:=Int.tmod a n+1
def VC(t n:Int)(x:AL)(s:MS):Out Ob:=.ite x.free
 (.ite (aU s.xs (n+4+x.at') x.found) (.ret (.bool true) (ZH t n ⟨x.at',x.at',x.left,x.found,true⟩ (s.cased (n+4+x.at') x.found (WU (x.found+1)))))
   (.ret (.bool (ile (x.left - 1) 0)) (ZH t n ⟨x.got,cM n x.at',x.left - 1,x.found,false⟩ (s.cased (n+4+x.at') x.found (WU (x.found+1))))))
 (.ite (oddB (aB s.xs (n+4+x.at'))) (.ret (.bool (ile (x.left - 1) 0)) (ZH t n ⟨x.got,cM n x.at',x.left - 1,aB s.xs (n+4+x.at'),false⟩ (s.loadd (n+4+x.at'))))
   (.ret (.bool false) (ZH t n ⟨x.got,x.at',x.left,aB s.xs (n+4+x.at'),true⟩ (s.loadd (n+4+x.at')))))
theorem QE(t n:Int)(x:AL)(s:MS)(K:AVal→aD Ob→Prop)(ht:1≤t∧t≤1000)(hn:1≤n∧n≤1000)(ha:1≤x.at'∧x.at'≤n)(hl:0≤x.left∧x.left≤1000)(hc:0≤s.c∧s.c≤1000000)(hK:(VC t n x s).run K):aC E36.I Tryz.prog 145 [.ptr 0 0,.ptr 1 0] (ZH t n x s) K:=by
 refine aCu (cM' (E:=E36) (q:=bif !x.5 then((((0:Int)≤t∧t≤(100000:Int))∧((0:Int)≤n∧n≤(100000:Int))∧(-1099511627776:Int)≤x.2∧x.2≤(1099511627776:Int))∧True)∧((lE' s.3∧(0:Int)≤s.4∧s.4≤(4611686018427387904:Int))∧True)∧(2:Int)≠(0:Int)∧bif !ieq (Int.tmod (aB s.3 (n+4+x.2)) 2) 0 then n≠(0:Int)∧K (.bool (ile (W (x.3 - 1)) 0)) [some (.cells [.int .i64 t,.int .i64 n,.int .i64 x.1,.int .i64 (W (Int.tmod x.2 n+1)),.int .i64 (W (x.3 - 1)),.int .u64 (aB s.3 (n+4+x.2)),.bool false]),some (.cells [.int .i64 s.1,.int .i64 s.2,.slice 2 0 (List.length s.3) 1,.int .i64 (s.4+1),.int .i64 1,.int .i64 (n+4+x.2),.int .u64 (aB s.3 (n+4+x.2)),.int .u64 (aB s.3 (n+4+x.2)),.bool (bN s.3 (n+4+x.2))]),some (.ints (some .u64) s.3)]else K (.bool false) [some (.cells [.int .i64 t,.int .i64 n,.int .i64 x.1,.int .i64 x.2,.int .i64 x.3,.int .u64 (aB s.3 (n+4+x.2)),.bool (ieq (Int.tmod (aB s.3 (n+4+x.2)) 2) 0)]),some (.cells [.int .i64 s.1,.int .i64 s.2,.slice 2 0 (List.length s.3) 1,.int .i64 (s.4+1),.int .i64 1,.int .i64 (n+4+x.2),.int .u64 (aB s.3 (n+4+x.2)),.int .u64 (aB s.3 (n+4+x.2)),.bool (bN s.3 (n+4+x.2))]),some (.ints (some .u64) s.3)]else((((0:Int)≤t∧t≤(100000:Int))∧((0:Int)≤n∧n≤(100000:Int))∧(-1099511627776:Int)≤x.2∧x.2≤(1099511627776:Int))∧True)∧((lE' s.3∧(0:Int)≤s.4∧s.4≤(4611686018427387904:Int))∧True)∧bif aU s.3 (n+4+x.2) x.4 then K (.bool true) [some (.cells [.int .i64 t,.int .i64 n,.int .i64 x.2,.int .i64 x.2,.int .i64 x.3,.int .u64 x.4,.bool x.5]),some (.cells [.int .i64 s.1,.int .i64 s.2,.slice 2 0 (List.length (bif aU s.3 (n+4+x.2) x.4 then aJ s.3 (n+4+x.2) (WU (x.4+1))else s.3)) 1,.int .i64 (s.4+1),.int .i64 3,.int .i64 (n+4+x.2),.int .u64 (aB s.3 (n+4+x.2)),.int .u64 (bif bN s.3 (n+4+x.2)then WU (x.4+1)else 0),.bool (aU s.3 (n+4+x.2) x.4)]),some (.ints (some .u64) (bif aU s.3 (n+4+x.2) x.4 then aJ s.3 (n+4+x.2) (WU (x.4+1))else s.3))]else n≠(0:Int)∧K (.bool (ile (W (x.3 - 1)) 0)) [some (.cells [.int .i64 t,.int .i64 n,.int .i64 x.1,.int .i64 (W (Int.tmod x.2 n+1)),.int .i64 (W (x.3 - 1)),.int .u64 x.4,.bool false]),some (.cells [.int .i64 s.1,.int .i64 s.2,.slice 2 0 (List.length (bif aU s.3 (n+4+x.2) x.4 then aJ s.3 (n+4+x.2) (WU (x.4+1))else s.3)) 1,.int .i64 (s.4+1),.int .i64 3,.int .i64 (n+4+x.2),.int .u64 (aB s.3 (n+4+x.2)),.int .u64 (bif bN s.3 (n+4+x.2)then WU (x.4+1)else 0),.bool (aU s.3 (n+4+x.2) x.4)]),some (.ints (some .u64) (bif aU s.3 (n+4+x.2) x.4 then aJ s.3 (n+4+x.2) (WU (x.4+1))else s.3))]) (by kernel_rfl) ?_)
 obtain⟨got,at',left,found,free⟩:=x
 dsimp only at ha hl⊢
 have hm:=T9 (x:=at') (t:=n) (by omega) (by omega)
 have e1:W (left - 1)=left - 1:=zA (by omega)
 have e2:W (Int.tmod at' n+1)=cM n at':=zA (by show _≤Int.tmod at' n+1∧Int.tmod at' n+1≤_;omega)
 rw [e1,e2]
 unfold VC at hK
 dsimp only [Out.run]at hK
 cases free with
 | false=>
   simp only [cond_false,Bool.not_false,cond_true]at hK⊢
   refine⟨⟨by omega,trivial⟩,⟨⟨trivial,by omega⟩,trivial⟩,by omega,?_⟩
   unfold oddB at hK
   generalize ho:ieq (Int.tmod (aB s.xs (n+4+at')) 2) 0=b at hK⊢
   cases b with
   | false=>exact⟨by omega,hK⟩
   | true=>exact hK
 | true=>
   simp only [cond_true,Bool.not_true,cond_false]at hK⊢
   refine⟨⟨by omega,trivial⟩,⟨⟨trivial,by omega⟩,trivial⟩,?_⟩
   unfold ZH at hK
   cases hb:aU s.xs (n+4+at') found with
   | true=>
     rw [hb]at hK
     simp only [cond_true]at hK⊢
     unfold MS.cased at hK
     rw [hb]at hK
     exact hK
   | false=>
     rw [hb]at hK
     simp only [cond_false]at hK⊢
     unfold MS.cased at hK
     rw [hb]at hK
     exact⟨by omega,hK⟩
noncomputable def alS:aM Ob:=fun args h=>match args,h with
 | [.ptr 0 0,.ptr 1 0],[some (.cells [.int .i64 t,.int .i64 n,.int .i64 got,.int .i64 at',.int .i64 left,.int .u64 found,.bool free]),e1,e2]=>match eI 2 [e1,e2]with
   | some (l,s)=>some (.pre (l=s.xs.length∧(1≤t∧t≤1000)∧(1≤n∧n≤1000)∧(1≤at'∧at'≤n)∧(0≤left∧left≤1000)∧(0≤s.c∧s.c≤1000000)) (VC t n ⟨got,at',left,found,free⟩ s))
   | none=>none
 | _,_=>none
theorem ZR:aM.ok E36.I Tryz.prog 145 alS:=by
 intro args h o ho K hK
 unfold alS at ho
 split at ho
 case h_2=>cases ho
 split at ho<;>cases ho
 rename_i hm
 obtain⟨⟨hl,ht,hn,ha,hl',hc⟩,hK⟩:=hK
 have hh:=b8 hm hl
 cases hh
 exact QE _ _ _ _ K ht hn ha hl' hc hK
noncomputable def E42:=E36.addS 145 alS ZR
theorem dU{xs:List Int}(h:okW xs){a x:Int}(hx:0≤x∧x≤18446744073709551615):okW (aJ xs a x):=by
 unfold aJ
 split
 ·refine⟨fun y hy=>?_⟩
  rcases List.mem_or_eq_of_mem_set hy with h1 | h1
  ·exact h.h y h1
  ·subst h1;exact hx
 ·exact h
theorem DL(x:Int):0≤WU x∧WU x≤18446744073709551615:=by
 unfold WU
 simp only [IntKind.wrap,IntKind.bits,IntKind.signed]
 simp
 omega
theorem oP(m:List (Int×Int))(k v r:Int):mget (dO m k v) r=if r=k then some v else mget m r:=by
 induction m with
 | nil=>
   unfold dO mget
   by_cases h:r=k
   ·subst h;simp
   ·have h': ¬k=r:=fun c=>h c.symm
    simp [h,h']
 | cons x m ih=>
   unfold dO
   by_cases hx:x.1=k
   ·rw [if_pos hx]
    unfold mget
    by_cases h:r=k
    ·subst h;simp
    ·have h': ¬k=r:=fun c=>h c.symm
     have h2: ¬x.1=r:=by rw [hx];exact h'
     simp [h,h',h2]
   ·rw [if_neg hx]
    unfold mget at ih⊢
    by_cases h2:x.1=r
    ·have h3: ¬r=k:=by rw [←h2];exact hx
     simp [h2,h3]
    ·simp only [List.find?_cons,beq_iff_eq,h2]
     have h4:(x.1 == r)=false:=by simpa using h2
     rw [h4]
     exact ih
structure EO where
 d:Bool
 e:ENS
 st:STS
 s:MS
def at0(t n me:Int):Int:=bif bK n (aO t n me)then aO t n me else 1
def zQ(e:ENS)(st:STS)(x:AL)(s:MS):EO:=match ile x.left 0 with
 | true=>⟨e.dn||ieq (st.R.length:Int) 0,{e with ph:=2,sh:=e.dn||ieq (st.R.length:Int) 0,x:=x},{st with sp:=0},s⟩
 | false=>⟨false,{e with ph:=1,x:=x},st,s⟩
def jX(n:Int)(e:ENS)(st:STS)(x:AL)(s:MS):EO:=match x.free with
 | true=>(match aU s.xs (n+4+x.at') x.found with
   | true=>⟨true,{e with ph:=1,x:=⟨x.at',x.at',x.left,x.found,true⟩ },{st with sp:=x.at'},s.cased (n+4+x.at') x.found (WU (x.found+1))⟩
   | false=>zQ e st ⟨0,cM n x.at',x.left - 1,x.found,false⟩ (s.cased (n+4+x.at') x.found (WU (x.found+1))))
 | false=>(match oddB (aB s.xs (n+4+x.at'))with
   | true=>zQ e st ⟨0,cM n x.at',x.left - 1,aB s.xs (n+4+x.at'),false⟩ (s.loadd (n+4+x.at'))
   | false=>⟨false,{e with ph:=1,x:=⟨0,x.at',x.left,aB s.xs (n+4+x.at'),true⟩ },st,s.loadd (n+4+x.at')⟩)
instance:Inhabited EO:=⟨⟨false,cF,⟨0,0,[]⟩,⟨0,0,[],0,0,0,0,0,false⟩⟩⟩
def enF(t n:Int)(e:ENS)(st:STS)(s:MS):EO:=match e.ph with
 | 0=>(match ieq st.sp 0 with
   | true=>jX n e st ⟨0,at0 t n st.me,n,0,false⟩ s
   | false=>⟨true,e,st,s.loadd 0⟩)
 | 1=>jX n e st e.x s
 | 2=>⟨false,{e with ph:=3,y:= {e.y with N:=st.R,m:=aW [] n 0 s,i:=1} },st,s.loadd (bT n 0)⟩
 | 3=>(match ieq (e.y.i+1) (2*t),ieq ((aX (aW e.y.m n e.y.i s) e.y.N).length :Int) 0 with
   | true,true=>⟨true,{e with ph:=0,sh:=true,dn:=true},{st with R:=cR (aW e.y.m n e.y.i s) e.y.N},s.loadd (bT n e.y.i)⟩
   | true,false=>⟨false,{e with ph:=4,y:=⟨0,e.y.N,aW e.y.m n e.y.i s,e.y.i+1,cR (aW e.y.m n e.y.i s) e.y.N,aX (aW e.y.m n e.y.i s) e.y.N,aX (aW e.y.m n e.y.i s) e.y.N,0,(aX (aW e.y.m n e.y.i s) e.y.N).length⟩ },st,s.loadd (bT n e.y.i)⟩
   | false,_=>⟨false,{e with y:= {e.y with m:=aW e.y.m n e.y.i s,i:=e.y.i+1} },st,s.loadd (bT n e.y.i)⟩)
 | _=>(match ieq ((e.y.l - 1:Nat):Int) 0 with
   | true=>⟨ieq (e.y.fs.length:Int) 0,{e with ph:=0,sh:=ieq (e.y.fs.length:Int) 0,dn:=true},{st with R:=e.y.ks},s.added (bY n e.y.gs e.y.j) 1⟩
   | false=>⟨false,{e with y:= {e.y with j:=e.y.j+1,l:=e.y.l - 1} },st,s.added (bY n e.y.gs e.y.j) 1⟩)
structure okAl (n:Int) (x:AL):Prop where
 hg:x.got=0
 ha:1≤x.at'∧x.at'≤n
 hl:0≤x.left∧x.left≤1000
def aAC(t n:Int)(e:ENS)(st:STS):Prop:=match e.ph with
 | 0=>True
 | 1=>okAl n e.x
 | 2=>True
 | 3=>e.y.N.length≤1000000∧0≤e.y.i∧e.y.i<2*t
 | 4=>2*t≤e.y.i∧1≤e.y.l∧e.y.gs.length=e.y.j+e.y.l∧ -1000000≤List.getD e.y.gs (e.y.j+Int.toNat 0*1) 0∧List.getD e.y.gs (e.y.j+Int.toNat 0*1) 0≤1000000
 | _=>False
structure K7 (t n:Int) (e:ENS) (st:STS) (s:MS):Prop where
 ht:1≤t∧t≤1000
 hn:1≤n∧n≤1000
 hc:0≤s.c∧s.c≤1000000
 hm:0≤st.me∧st.me≤1000
 hR:st.R.length≤1000000
 ho:aAC t n e st
abbrev aZ(l:Nat)(s:MS):Option (aG Mc):=some (.cells [.int .i64 s.t,.int .i64 s.n,.slice l 0 s.xs.length 1,.int .i64 s.c,.int .i64 s.k,.int .i64 s.a,.int .u64 s.o,.int .u64 s.w,.bool s.ok])
abbrev a9(s:MS):Option (aG Mc):=some (.ints (some .u64) s.xs)
def RE(t n:Int)(e:ENS)(st:STS)(s:MS):aD Ob:=[some (.abs (.ensure t n e) [1]),some (.abs (.store t n st) []),aZ 3 s,a9 s]
def EO.left(o:EO)(t n:Int)(K:AVal→aD Ob→Prop):Prop:=K (.bool o.d) (RE t n o.e o.st o.s)
theorem gO{K:AVal→aD Ob→Prop}{t n:Int}{o:EO}{g':aD Ob}(pl:List Nat)(hK:o.left t n K)
 (hb:(fK pl g'.length&&kS pl 0 4&&uA 1 (G4 t n o.e))=true)
 (hT:gV pl g'=bV [some (.abs (.ensure t n o.e) [1]),some (.cells [.int .i64 t,.int .i64 n,.int .i64 o.st.me,.int .i64 o.st.sp,.slice 4 0 o.st.R.length 1]),aZ 3 o.s,a9 o.s,some (.ints (some .i64) o.st.R)] 0 1 (G4 t n o.e) [1]):A1 tbl 4 (A1 tbl 4 K) (.bool o.d) g':=by
 simp only [Bool.and_eq_true]at hb
 obtain⟨⟨b1,b2⟩,b3⟩:=hb
 refine⟨pl,_,.ensure t n o.e,0,1,_,[1],?_,hT,rfl,rfl,⟨[0,1,2,3,4],[some (.abs (.ensure t n o.e) [1]),some (.abs (.store t n o.st) []),aZ 3 o.s,a9 o.s],.store t n o.st,1,0,iZ t n o.st,[],rfl,rfl,rfl,rfl,?_⟩⟩
 ·rw [b1,b2,b3];rfl
 ·exact hK
theorem aBq(t n me sp:Int)(R:List Int)(sh dn:Bool)(x:AL)(y:SWS)(s:MS)(K:AVal→aD Ob→Prop)(hK:bif !ieq sp 0 then(lE' s.3∧(0:Int)≤s.4∧s.4≤(4611686018427387904:Int))∧K (.bool true) [some (.cells [.ptr 1 0,.bool sh,.raw (Value.pointer none),.raw (Value.pointer none),.bool dn]),some (.cells [.int .i64 t,.int .i64 n,.int .i64 me,.int .i64 sp,.slice 4 0 (List.length R) 1]),some (.cells [.int .i64 s.1,.int .i64 s.2,.slice 3 0 (List.length s.3) 1,.int .i64 (s.4+1),.int .i64 1,.int .i64 0,.int .u64 (aB s.3 0),.int .u64 (aB s.3 0),.bool (bN s.3 0)]),some (.ints (some .u64) s.3),some (.ints (some .i64) R)]else(((0:Int)≤me∧me≤(100000:Int))∧(0:Int)≤n∧n≤(100000:Int))∧(True∧True)∧(lE' s.3∧((1:Int)≤t∧t≤(1000:Int))∧((1:Int)≤n∧n≤(1000:Int))∧(((1:Int)≤bif bK n (aO t n me)then aO t n me else 1)∧(bif bK n (aO t n me)then aO t n me else 1)≤n)∧((0:Int)≤n∧n≤(1000:Int))∧(0:Int)≤s.4∧s.4≤(1000000:Int))∧bif oddB (aB s.3 (n+4+bif bK n (aO t n me)then aO t n me else 1))then bif !ile (n - 1) 0 then K (.bool false) [some (.cells [.ptr 1 0,.bool sh,.ptr 5 0,.raw (Value.pointer none),.bool dn]),some (.cells [.int .i64 t,.int .i64 n,.int .i64 me,.int .i64 sp,.slice 4 0 (List.length R) 1]),some (.cells [.int .i64 s.1,.int .i64 s.2,.slice 3 0 (List.length s.3) 1,.int .i64 (s.4+1),.int .i64 1,.int .i64 (n+4+bif bK n (aO t n me)then aO t n me else 1),.int .u64 (aB s.3 (n+4+bif bK n (aO t n me)then aO t n me else 1)),.int .u64 (aB s.3 (n+4+bif bK n (aO t n me)then aO t n me else 1)),.bool (bN s.3 (n+4+bif bK n (aO t n me)then aO t n me else 1))]),some (.ints (some .u64) s.3),some (.ints (some .i64) R),some (.cells [.int .i64 t,.int .i64 n,.int .i64 0,.int .i64 (cM n (bif bK n (aO t n me)then aO t n me else 1)),.int .i64 (n - 1),.int .u64 (aB s.3 (n+4+bif bK n (aO t n me)then aO t n me else 1)),.bool false])]else bif dn then K (.bool true) [some (.cells [.ptr 1 0,.bool true,.ptr 5 0,.ptr 6 0,.bool dn]),some (.cells [.int .i64 t,.int .i64 n,.int .i64 me,.int .i64 0,.slice 4 0 (List.length R) 1]),some (.cells [.int .i64 s.1,.int .i64 s.2,.slice 3 0 (List.length s.3) 1,.int .i64 (s.4+1),.int .i64 1,.int .i64 (n+4+bif bK n (aO t n me)then aO t n me else 1),.int .u64 (aB s.3 (n+4+bif bK n (aO t n me)then aO t n me else 1)),.int .u64 (aB s.3 (n+4+bif bK n (aO t n me)then aO t n me else 1)),.bool (bN s.3 (n+4+bif bK n (aO t n me)then aO t n me else 1))]),some (.ints (some .u64) s.3),some (.ints (some .i64) R),some (.cells [.int .i64 t,.int .i64 n,.int .i64 0,.int .i64 (cM n (bif bK n (aO t n me)then aO t n me else 1)),.int .i64 (n - 1),.int .u64 (aB s.3 (n+4+bif bK n (aO t n me)then aO t n me else 1)),.bool false]),some (.cells [.ptr 1 0,.raw (Value.pointer none)])]else K (.bool (ieq (↑(List.length R):Int) 0)) [some (.cells [.ptr 1 0,.bool (ieq (↑(List.length R):Int) 0),.ptr 5 0,.ptr 6 0,.bool dn]),some (.cells [.int .i64 t,.int .i64 n,.int .i64 me,.int .i64 0,.slice 4 0 (List.length R) 1]),some (.cells [.int .i64 s.1,.int .i64 s.2,.slice 3 0 (List.length s.3) 1,.int .i64 (s.4+1),.int .i64 1,.int .i64 (n+4+bif bK n (aO t n me)then aO t n me else 1),.int .u64 (aB s.3 (n+4+bif bK n (aO t n me)then aO t n me else 1)),.int .u64 (aB s.3 (n+4+bif bK n (aO t n me)then aO t n me else 1)),.bool (bN s.3 (n+4+bif bK n (aO t n me)then aO t n me else 1))]),some (.ints (some .u64) s.3),some (.ints (some .i64) R),some (.cells [.int .i64 t,.int .i64 n,.int .i64 0,.int .i64 (cM n (bif bK n (aO t n me)then aO t n me else 1)),.int .i64 (n - 1),.int .u64 (aB s.3 (n+4+bif bK n (aO t n me)then aO t n me else 1)),.bool false]),some (.cells [.ptr 1 0,.raw (Value.pointer none)])]else K (.bool false) [some (.cells [.ptr 1 0,.bool sh,.ptr 5 0,.raw (Value.pointer none),.bool dn]),some (.cells [.int .i64 t,.int .i64 n,.int .i64 me,.int .i64 sp,.slice 4 0 (List.length R) 1]),some (.cells [.int .i64 s.1,.int .i64 s.2,.slice 3 0 (List.length s.3) 1,.int .i64 (s.4+1),.int .i64 1,.int .i64 (n+4+bif bK n (aO t n me)then aO t n me else 1),.int .u64 (aB s.3 (n+4+bif bK n (aO t n me)then aO t n me else 1)),.int .u64 (aB s.3 (n+4+bif bK n (aO t n me)then aO t n me else 1)),.bool (bN s.3 (n+4+bif bK n (aO t n me)then aO t n me else 1))]),some (.ints (some .u64) s.3),some (.ints (some .i64) R),some (.cells [.int .i64 t,.int .i64 n,.int .i64 0,.int .i64 (bif bK n (aO t n me)then aO t n me else 1),.int .i64 n,.int .u64 (aB s.3 (n+4+bif bK n (aO t n me)then aO t n me else 1)),.bool true])]):cT' 85 [.ptr 0 0,.ptr 2 0] [some (.cells [.ptr 1 0,.bool sh,.raw (.pointer none),.raw (.pointer none),.bool dn]),some (.cells [.int .i64 t,.int .i64 n,.int .i64 me,.int .i64 sp,.slice 4 0 R.length 1]),aZ 3 s,a9 s,some (.ints (some .i64) R)] K:=by
 refine aCu (cM' (E:=E42) (by kernel_rfl) hK)
theorem aBr(t n me sp:Int)(R:List Int)(sh dn:Bool)(x:AL)(y:SWS)(s:MS)(K:AVal→aD Ob→Prop)(hK:(lE' s.3∧((1:Int)≤t∧t≤(1000:Int))∧((1:Int)≤n∧n≤(1000:Int))∧((1:Int)≤x.2∧x.2≤n)∧((0:Int)≤x.3∧x.3≤(1000:Int))∧(0:Int)≤s.4∧s.4≤(1000000:Int))∧bif x.5 then bif aU s.3 (n+4+x.2) x.4 then bif !ieq x.2 0 then K (.bool true) [some (.cells [.ptr 1 0,.bool sh,.ptr 5 0,.raw (Value.pointer none),.bool dn]),some (.cells [.int .i64 t,.int .i64 n,.int .i64 me,.int .i64 x.2,.slice 4 0 (List.length R) 1]),some (.cells [.int .i64 s.1,.int .i64 s.2,.slice 3 0 (List.length (bif aU s.3 (n+4+x.2) x.4 then aJ s.3 (n+4+x.2) (WU (x.4+1))else s.3)) 1,.int .i64 (s.4+1),.int .i64 3,.int .i64 (n+4+x.2),.int .u64 (aB s.3 (n+4+x.2)),.int .u64 (bif bN s.3 (n+4+x.2)then WU (x.4+1)else 0),.bool (aU s.3 (n+4+x.2) x.4)]),some (.ints (some .u64) (bif aU s.3 (n+4+x.2) x.4 then aJ s.3 (n+4+x.2) (WU (x.4+1))else s.3)),some (.ints (some .i64) R),some (.cells [.int .i64 t,.int .i64 n,.int .i64 x.2,.int .i64 x.2,.int .i64 x.3,.int .u64 x.4,.bool true])]else bif dn then K (.bool true) [some (.cells [.ptr 1 0,.bool true,.ptr 5 0,.ptr 6 0,.bool dn]),some (.cells [.int .i64 t,.int .i64 n,.int .i64 me,.int .i64 x.2,.slice 4 0 (List.length R) 1]),some (.cells [.int .i64 s.1,.int .i64 s.2,.slice 3 0 (List.length (bif aU s.3 (n+4+x.2) x.4 then aJ s.3 (n+4+x.2) (WU (x.4+1))else s.3)) 1,.int .i64 (s.4+1),.int .i64 3,.int .i64 (n+4+x.2),.int .u64 (aB s.3 (n+4+x.2)),.int .u64 (bif bN s.3 (n+4+x.2)then WU (x.4+1)else 0),.bool (aU s.3 (n+4+x.2) x.4)]),some (.ints (some .u64) (bif aU s.3 (n+4+x.2) x.4 then aJ s.3 (n+4+x.2) (WU (x.4+1))else s.3)),some (.ints (some .i64) R),some (.cells [.int .i64 t,.int .i64 n,.int .i64 x.2,.int .i64 x.2,.int .i64 x.3,.int .u64 x.4,.bool true]),some (.cells [.ptr 1 0,.raw (Value.pointer none)])]else K (.bool (ieq (↑(List.length R):Int) 0)) [some (.cells [.ptr 1 0,.bool (ieq (↑(List.length R):Int) 0),.ptr 5 0,.ptr 6 0,.bool dn]),some (.cells [.int .i64 t,.int .i64 n,.int .i64 me,.int .i64 x.2,.slice 4 0 (List.length R) 1]),some (.cells [.int .i64 s.1,.int .i64 s.2,.slice 3 0 (List.length (bif aU s.3 (n+4+x.2) x.4 then aJ s.3 (n+4+x.2) (WU (x.4+1))else s.3)) 1,.int .i64 (s.4+1),.int .i64 3,.int .i64 (n+4+x.2),.int .u64 (aB s.3 (n+4+x.2)),.int .u64 (bif bN s.3 (n+4+x.2)then WU (x.4+1)else 0),.bool (aU s.3 (n+4+x.2) x.4)]),some (.ints (some .u64) (bif aU s.3 (n+4+x.2) x.4 then aJ s.3 (n+4+x.2) (WU (x.4+1))else s.3)),some (.ints (some .i64) R),some (.cells [.int .i64 t,.int .i64 n,.int .i64 x.2,.int .i64 x.2,.int .i64 x.3,.int .u64 x.4,.bool true]),some (.cells [.ptr 1 0,.raw (Value.pointer none)])]else bif !ile (x.3 - 1) 0 then K (.bool false) [some (.cells [.ptr 1 0,.bool sh,.ptr 5 0,.raw (Value.pointer none),.bool dn]),some (.cells [.int .i64 t,.int .i64 n,.int .i64 me,.int .i64 sp,.slice 4 0 (List.length R) 1]),some (.cells [.int .i64 s.1,.int .i64 s.2,.slice 3 0 (List.length (bif aU s.3 (n+4+x.2) x.4 then aJ s.3 (n+4+x.2) (WU (x.4+1))else s.3)) 1,.int .i64 (s.4+1),.int .i64 3,.int .i64 (n+4+x.2),.int .u64 (aB s.3 (n+4+x.2)),.int .u64 (bif bN s.3 (n+4+x.2)then WU (x.4+1)else 0),.bool (aU s.3 (n+4+x.2) x.4)]),some (.ints (some .u64) (bif aU s.3 (n+4+x.2) x.4 then aJ s.3 (n+4+x.2) (WU (x.4+1))else s.3)),some (.ints (some .i64) R),some (.cells [.int .i64 t,.int .i64 n,.int .i64 x.1,.int .i64 (cM n x.2),.int .i64 (x.3 - 1),.int .u64 x.4,.bool false])]else bif !ieq x.1 0 then K (.bool true) [some (.cells [.ptr 1 0,.bool sh,.ptr 5 0,.raw (Value.pointer none),.bool dn]),some (.cells [.int .i64 t,.int .i64 n,.int .i64 me,.int .i64 x.1,.slice 4 0 (List.length R) 1]),some (.cells [.int .i64 s.1,.int .i64 s.2,.slice 3 0 (List.length (bif aU s.3 (n+4+x.2) x.4 then aJ s.3 (n+4+x.2) (WU (x.4+1))else s.3)) 1,.int .i64 (s.4+1),.int .i64 3,.int .i64 (n+4+x.2),.int .u64 (aB s.3 (n+4+x.2)),.int .u64 (bif bN s.3 (n+4+x.2)then WU (x.4+1)else 0),.bool (aU s.3 (n+4+x.2) x.4)]),some (.ints (some .u64) (bif aU s.3 (n+4+x.2) x.4 then aJ s.3 (n+4+x.2) (WU (x.4+1))else s.3)),some (.ints (some .i64) R),some (.cells [.int .i64 t,.int .i64 n,.int .i64 x.1,.int .i64 (cM n x.2),.int .i64 (x.3 - 1),.int .u64 x.4,.bool false])]else bif dn then K (.bool true) [some (.cells [.ptr 1 0,.bool true,.ptr 5 0,.ptr 6 0,.bool dn]),some (.cells [.int .i64 t,.int .i64 n,.int .i64 me,.int .i64 x.1,.slice 4 0 (List.length R) 1]),some (.cells [.int .i64 s.1,.int .i64 s.2,.slice 3 0 (List.length (bif aU s.3 (n+4+x.2) x.4 then aJ s.3 (n+4+x.2) (WU (x.4+1))else s.3)) 1,.int .i64 (s.4+1),.int .i64 3,.int .i64 (n+4+x.2),.int .u64 (aB s.3 (n+4+x.2)),.int .u64 (bif bN s.3 (n+4+x.2)then WU (x.4+1)else 0),.bool (aU s.3 (n+4+x.2) x.4)]),some (.ints (some .u64) (bif aU s.3 (n+4+x.2) x.4 then aJ s.3 (n+4+x.2) (WU (x.4+1))else s.3)),some (.ints (some .i64) R),some (.cells [.int .i64 t,.int .i64 n,.int .i64 x.1,.int .i64 (cM n x.2),.int .i64 (x.3 - 1),.int .u64 x.4,.bool false]),some (.cells [.ptr 1 0,.raw (Value.pointer none)])]else K (.bool (ieq (↑(List.length R):Int) 0)) [some (.cells [.ptr 1 0,.bool (ieq (↑(List.length R):Int) 0),.ptr 5 0,.ptr 6 0,.bool dn]),some (.cells [.int .i64 t,.int .i64 n,.int .i64 me,.int .i64 x.1,.slice 4 0 (List.length R) 1]),some (.cells [.int .i64 s.1,.int .i64 s.2,.slice 3 0 (List.length (bif aU s.3 (n+4+x.2) x.4 then aJ s.3 (n+4+x.2) (WU (x.4+1))else s.3)) 1,.int .i64 (s.4+1),.int .i64 3,.int .i64 (n+4+x.2),.int .u64 (aB s.3 (n+4+x.2)),.int .u64 (bif bN s.3 (n+4+x.2)then WU (x.4+1)else 0),.bool (aU s.3 (n+4+x.2) x.4)]),some (.ints (some .u64) (bif aU s.3 (n+4+x.2) x.4 then aJ s.3 (n+4+x.2) (WU (x.4+1))else s.3)),some (.ints (some .i64) R),some (.cells [.int .i64 t,.int .i64 n,.int .i64 x.1,.int .i64 (cM n x.2),.int .i64 (x.3 - 1),.int .u64 x.4,.bool false]),some (.cells [.ptr 1 0,.raw (Value.pointer none)])]else bif oddB (aB s.3 (n+4+x.2))then bif !ile (x.3 - 1) 0 then K (.bool false) [some (.cells [.ptr 1 0,.bool sh,.ptr 5 0,.raw (Value.pointer none),.bool dn]),some (.cells [.int .i64 t,.int .i64 n,.int .i64 me,.int .i64 sp,.slice 4 0 (List.length R) 1]),some (.cells [.int .i64 s.1,.int .i64 s.2,.slice 3 0 (List.length s.3) 1,.int .i64 (s.4+1),.int .i64 1,.int .i64 (n+4+x.2),.int .u64 (aB s.3 (n+4+x.2)),.int .u64 (aB s.3 (n+4+x.2)),.bool (bN s.3 (n+4+x.2))]),some (.ints (some .u64) s.3),some (.ints (some .i64) R),some (.cells [.int .i64 t,.int .i64 n,.int .i64 x.1,.int .i64 (cM n x.2),.int .i64 (x.3 - 1),.int .u64 (aB s.3 (n+4+x.2)),.bool false])]else bif !ieq x.1 0 then K (.bool true) [some (.cells [.ptr 1 0,.bool sh,.ptr 5 0,.raw (Value.pointer none),.bool dn]),some (.cells [.int .i64 t,.int .i64 n,.int .i64 me,.int .i64 x.1,.slice 4 0 (List.length R) 1]),some (.cells [.int .i64 s.1,.int .i64 s.2,.slice 3 0 (List.length s.3) 1,.int .i64 (s.4+1),.int .i64 1,.int .i64 (n+4+x.2),.int .u64 (aB s.3 (n+4+x.2)),.int .u64 (aB s.3 (n+4+x.2)),.bool (bN s.3 (n+4+x.2))]),some (.ints (some .u64) s.3),some (.ints (some .i64) R),some (.cells [.int .i64 t,.int .i64 n,.int .i64 x.1,.int .i64 (cM n x.2),.int .i64 (x.3 - 1),.int .u64 (aB s.3 (n+4+x.2)),.bool false])]else bif dn then K (.bool true) [some (.cells [.ptr 1 0,.bool true,.ptr 5 0,.ptr 6 0,.bool dn]),some (.cells [.int .i64 t,.int .i64 n,.int .i64 me,.int .i64 x.1,.slice 4 0 (List.length R) 1]),some (.cells [.int .i64 s.1,.int .i64 s.2,.slice 3 0 (List.length s.3) 1,.int .i64 (s.4+1),.int .i64 1,.int .i64 (n+4+x.2),.int .u64 (aB s.3 (n+4+x.2)),.int .u64 (aB s.3 (n+4+x.2)),.bool (bN s.3 (n+4+x.2))]),some (.ints (some .u64) s.3),some (.ints (some .i64) R),some (.cells [.int .i64 t,.int .i64 n,.int .i64 x.1,.int .i64 (cM n x.2),.int .i64 (x.3 - 1),.int .u64 (aB s.3 (n+4+x.2)),.bool false]),some (.cells [.ptr 1 0,.raw (Value.pointer none)])]else K (.bool (ieq (↑(List.length R):Int) 0)) [some (.cells [.ptr 1 0,.bool (ieq (↑(List.length R):Int) 0),.ptr 5 0,.ptr 6 0,.bool dn]),some (.cells [.int .i64 t,.int .i64 n,.int .i64 me,.int .i64 x.1,.slice 4 0 (List.length R) 1]),some (.cells [.int .i64 s.1,.int .i64 s.2,.slice 3 0 (List.length s.3) 1,.int .i64 (s.4+1),.int .i64 1,.int .i64 (n+4+x.2),.int .u64 (aB s.3 (n+4+x.2)),.int .u64 (aB s.3 (n+4+x.2)),.bool (bN s.3 (n+4+x.2))]),some (.ints (some .u64) s.3),some (.ints (some .i64) R),some (.cells [.int .i64 t,.int .i64 n,.int .i64 x.1,.int .i64 (cM n x.2),.int .i64 (x.3 - 1),.int .u64 (aB s.3 (n+4+x.2)),.bool false]),some (.cells [.ptr 1 0,.raw (Value.pointer none)])]else K (.bool false) [some (.cells [.ptr 1 0,.bool sh,.ptr 5 0,.raw (Value.pointer none),.bool dn]),some (.cells [.int .i64 t,.int .i64 n,.int .i64 me,.int .i64 sp,.slice 4 0 (List.length R) 1]),some (.cells [.int .i64 s.1,.int .i64 s.2,.slice 3 0 (List.length s.3) 1,.int .i64 (s.4+1),.int .i64 1,.int .i64 (n+4+x.2),.int .u64 (aB s.3 (n+4+x.2)),.int .u64 (aB s.3 (n+4+x.2)),.bool (bN s.3 (n+4+x.2))]),some (.ints (some .u64) s.3),some (.ints (some .i64) R),some (.cells [.int .i64 t,.int .i64 n,.int .i64 x.1,.int .i64 x.2,.int .i64 x.3,.int .u64 (aB s.3 (n+4+x.2)),.bool true])]):cT' 85 [.ptr 0 0,.ptr 2 0] [some (.cells [.ptr 1 0,.bool sh,.ptr 5 0,.raw (.pointer none),.bool dn]),some (.cells [.int .i64 t,.int .i64 n,.int .i64 me,.int .i64 sp,.slice 4 0 R.length 1]),aZ 3 s,a9 s,some (.ints (some .i64) R),UH t n x] K:=by
 refine aCu (cM' (E:=E42) (by kernel_rfl) hK)
theorem aBs(t n me sp:Int)(R:List Int)(sh dn:Bool)(x:AL)(y:SWS)(s:MS)(K:AVal→aD Ob→Prop)(hK:((lE' s.3∧lE' R)∧((1:Int)≤t∧t≤(1000:Int))∧((1:Int)≤n∧n≤(1000:Int))∧((0:Int)≤s.4∧s.4≤(1000000:Int))∧List.length R≤(1000000:Nat))∧K (.bool false) [some (.cells [.ptr 1 0,.bool sh,.ptr 5 0,.ptr 6 0,.bool dn]),some (.cells [.int .i64 t,.int .i64 n,.int .i64 me,.int .i64 sp,.slice 4 0 (List.length R) 1]),some (.cells [.int .i64 s.1,.int .i64 s.2,.slice 3 0 (List.length s.3) 1,.int .i64 (s.4+1),.int .i64 1,.int .i64 (bT n 0),.int .u64 (aB s.3 (bT n 0)),.int .u64 (aB s.3 (bT n 0)),.bool (bN s.3 (bT n 0))]),some (.ints (some .u64) s.3),some (.ints (some .i64) R),some (.cells [.int .i64 t,.int .i64 n,.int .i64 x.1,.int .i64 x.2,.int .i64 x.3,.int .u64 x.4,.bool x.5]),some (.cells [.ptr 1 0,.ptr 7 0]),some (.cells [.int .i64 t,.int .i64 n,.raw (Value.slice none 0 0),.raw (Value.slice none 0 0),.slice 8 0 (List.length R) 1,.map 9,.int .i64 1,.raw (Value.pointer none)]),some (.ints (some .i64) R),some (.imap .i64 none (aW [] n 0 s))]):cT' 85 [.ptr 0 0,.ptr 2 0] [some (.cells [.ptr 1 0,.bool sh,.ptr 5 0,.ptr 6 0,.bool dn]),some (.cells [.int .i64 t,.int .i64 n,.int .i64 me,.int .i64 sp,.slice 4 0 R.length 1]),aZ 3 s,a9 s,some (.ints (some .i64) R),UH t n x,some (.cells [.ptr 1 0,.raw (.pointer none)])] K:=by
 refine aCu (cM' (E:=E42) (by kernel_rfl) hK)
theorem aBt(t n me sp:Int)(R:List Int)(sh dn:Bool)(x:AL)(y:SWS)(s:MS)(K:AVal→aD Ob→Prop)(hK:((lE' s.3∧lE' R∧lE' y.2∧t=t∧n=n)∧((1:Int)≤t∧t≤(1000:Int))∧((1:Int)≤n∧n≤(1000:Int))∧((0:Int)≤s.4∧s.4≤(1000000:Int))∧List.length y.2≤(1000000:Nat)∧(0:Int)≤y.4∧y.4<(2:Int)*t)∧bif ieq (y.4+1) (2*t)then bif ieq (↑(List.length (aX (aW y.3 n y.4 s) y.2)):Int) 0 then K (.bool (ieq (↑(List.length (aX (aW y.3 n y.4 s) y.2)):Int) 0)) [some (.cells [.ptr 1 0,.bool (ieq (↑(List.length (aX (aW y.3 n y.4 s) y.2)):Int) 0),.raw (Value.pointer none),.raw (Value.pointer none),.bool true]),some (.cells [.int .i64 t,.int .i64 n,.int .i64 me,.int .i64 sp,.slice 10 0 (List.length (cR (aW y.3 n y.4 s) y.2)) 1]),some (.cells [.int .i64 s.1,.int .i64 s.2,.slice 3 0 (List.length s.3) 1,.int .i64 (s.4+1),.int .i64 1,.int .i64 (bT n y.4),.int .u64 (aB s.3 (bT n y.4)),.int .u64 (aB s.3 (bT n y.4)),.bool (bN s.3 (bT n y.4))]),some (.ints (some .u64) s.3),some (.ints (some .i64) R),some (.cells [.int .i64 t,.int .i64 n,.int .i64 x.1,.int .i64 x.2,.int .i64 x.3,.int .u64 x.4,.bool x.5]),some (.cells [.ptr 1 0,.ptr 7 0]),some (.cells [.int .i64 t,.int .i64 n,.slice 10 0 (List.length (cR (aW y.3 n y.4 s) y.2)) 1,.slice 11 0 (List.length (aX (aW y.3 n y.4 s) y.2)) 1,.slice 8 0 (List.length y.2) 1,.map 9,.int .i64 (y.4+1),.ptr 12 0]),some (.ints (some .i64) y.2),some (.imap .i64 none (aW y.3 n y.4 s)),some (.ints (some .i64) (cR (aW y.3 n y.4 s) y.2)),some (.ints (some .i64) (aX (aW y.3 n y.4 s) y.2)),some (.cells [.int .i64 t,.int .i64 n,.slice 13 0 (List.length (aX (aW y.3 n y.4 s) y.2)) 1]),some (.ints (some .i64) (aX (aW y.3 n y.4 s) y.2))]else K (.bool false) [some (.cells [.ptr 1 0,.bool sh,.ptr 5 0,.ptr 6 0,.bool dn]),some (.cells [.int .i64 t,.int .i64 n,.int .i64 me,.int .i64 sp,.slice 4 0 (List.length R) 1]),some (.cells [.int .i64 s.1,.int .i64 s.2,.slice 3 0 (List.length s.3) 1,.int .i64 (s.4+1),.int .i64 1,.int .i64 (bT n y.4),.int .u64 (aB s.3 (bT n y.4)),.int .u64 (aB s.3 (bT n y.4)),.bool (bN s.3 (bT n y.4))]),some (.ints (some .u64) s.3),some (.ints (some .i64) R),some (.cells [.int .i64 t,.int .i64 n,.int .i64 x.1,.int .i64 x.2,.int .i64 x.3,.int .u64 x.4,.bool x.5]),some (.cells [.ptr 1 0,.ptr 7 0]),some (.cells [.int .i64 t,.int .i64 n,.slice 10 0 (List.length (cR (aW y.3 n y.4 s) y.2)) 1,.slice 11 0 (List.length (aX (aW y.3 n y.4 s) y.2)) 1,.slice 8 0 (List.length y.2) 1,.map 9,.int .i64 (y.4+1),.ptr 12 0]),some (.ints (some .i64) y.2),some (.imap .i64 none (aW y.3 n y.4 s)),some (.ints (some .i64) (cR (aW y.3 n y.4 s) y.2)),some (.ints (some .i64) (aX (aW y.3 n y.4 s) y.2)),some (.cells [.int .i64 t,.int .i64 n,.slice 13 0 (List.length (aX (aW y.3 n y.4 s) y.2)) 1]),some (.ints (some .i64) (aX (aW y.3 n y.4 s) y.2))]else K (.bool false) [some (.cells [.ptr 1 0,.bool sh,.ptr 5 0,.ptr 6 0,.bool dn]),some (.cells [.int .i64 t,.int .i64 n,.int .i64 me,.int .i64 sp,.slice 4 0 (List.length R) 1]),some (.cells [.int .i64 s.1,.int .i64 s.2,.slice 3 0 (List.length s.3) 1,.int .i64 (s.4+1),.int .i64 1,.int .i64 (bT n y.4),.int .u64 (aB s.3 (bT n y.4)),.int .u64 (aB s.3 (bT n y.4)),.bool (bN s.3 (bT n y.4))]),some (.ints (some .u64) s.3),some (.ints (some .i64) R),some (.cells [.int .i64 t,.int .i64 n,.int .i64 x.1,.int .i64 x.2,.int .i64 x.3,.int .u64 x.4,.bool x.5]),some (.cells [.ptr 1 0,.ptr 7 0]),some (.cells [.int .i64 t,.int .i64 n,.raw (Value.slice none 0 0),.raw (Value.slice none 0 0),.slice 8 0 (List.length y.2) 1,.map 9,.int .i64 (y.4+1),.raw (Value.pointer none)]),some (.ints (some .i64) y.2),some (.imap .i64 none (aW y.3 n y.4 s))]):cT' 85 [.ptr 0 0,.ptr 2 0] [some (.cells [.ptr 1 0,.bool sh,.ptr 5 0,.ptr 6 0,.bool dn]),some (.cells [.int .i64 t,.int .i64 n,.int .i64 me,.int .i64 sp,.slice 4 0 R.length 1]),aZ 3 s,a9 s,some (.ints (some .i64) R),UH t n x,some (.cells [.ptr 1 0,.ptr 7 0]),some (.cells [.int .i64 t,.int .i64 n,.raw (.slice none 0 0),.raw (.slice none 0 0),.slice 8 0 y.N.length 1,.map 9,.int .i64 y.i,.raw (.pointer none)]),some (.ints (some .i64) y.N),some (.imap .i64 none y.m)] K:=by
 refine aCu (cM' (E:=E42) (by kernel_rfl) hK)
theorem aBu(t n me sp:Int)(R:List Int)(sh dn:Bool)(x:AL)(y:SWS)(s:MS)(K:AVal→aD Ob→Prop)(hK:((lE' s.3∧lE' R∧lE' y.5∧lE' y.6∧lE' y.2∧t=t∧n=n∧t=t∧n=n)∧((1:Int)≤t∧t≤(1000:Int))∧((1:Int)≤n∧n≤(1000:Int))∧((0:Int)≤s.4∧s.4≤(1000000:Int))∧2*t≤y.4∧((1:Nat)≤y.9∧List.length y.7=y.8+y.9)∧(-1000000:Int)≤List.getD y.7 (y.8+Int.toNat 0*1) 0∧List.getD y.7 (y.8+Int.toNat 0*1) (0:Int)≤(1000000:Int))∧bif ieq (↑(y.9 - 1):Int) 0 then K (.bool (ieq (↑(List.length y.6):Int) 0)) [some (.cells [.ptr 1 0,.bool (ieq (↑(List.length y.6):Int) 0),.raw (Value.pointer none),.raw (Value.pointer none),.bool true]),some (.cells [.int .i64 t,.int .i64 n,.int .i64 me,.int .i64 sp,.slice 8 0 (List.length y.5) 1]),some (.cells [.int .i64 s.1,.int .i64 s.2,.slice 3 0 (List.length (aJ s.3 (bY n y.7 y.8) (WU (aB s.3 (bY n y.7 y.8)+1)))) 1,.int .i64 (s.4+1),.int .i64 4,.int .i64 (bY n y.7 y.8),.int .u64 (aB s.3 (bY n y.7 y.8)),.int .u64 (bif bN s.3 (bY n y.7 y.8)then WU (aB s.3 (bY n y.7 y.8)+1)else 0),.bool (bN s.3 (bY n y.7 y.8))]),some (.ints (some .u64) (aJ s.3 (bY n y.7 y.8) (WU (aB s.3 (bY n y.7 y.8)+1)))),some (.ints (some .i64) R),some (.cells [.int .i64 t,.int .i64 n,.int .i64 x.1,.int .i64 x.2,.int .i64 x.3,.int .u64 x.4,.bool x.5]),some (.cells [.ptr 1 0,.ptr 7 0]),some (.cells [.int .i64 t,.int .i64 n,.slice 8 0 (List.length y.5) 1,.slice 9 0 (List.length y.6) 1,.slice 10 0 (List.length y.2) 1,.map 11,.int .i64 y.4,.ptr 12 0]),some (.ints (some .i64) y.5),some (.ints (some .i64) y.6),some (.ints (some .i64) y.2),some (.imap .i64 none y.3),some (.cells [.int .i64 t,.int .i64 n,.slice 13 (y.8+1) (y.9 - 1) 1]),some (.ints (some .i64) y.7)]else K (.bool false) [some (.cells [.ptr 1 0,.bool sh,.ptr 5 0,.ptr 6 0,.bool dn]),some (.cells [.int .i64 t,.int .i64 n,.int .i64 me,.int .i64 sp,.slice 4 0 (List.length R) 1]),some (.cells [.int .i64 s.1,.int .i64 s.2,.slice 3 0 (List.length (aJ s.3 (bY n y.7 y.8) (WU (aB s.3 (bY n y.7 y.8)+1)))) 1,.int .i64 (s.4+1),.int .i64 4,.int .i64 (bY n y.7 y.8),.int .u64 (aB s.3 (bY n y.7 y.8)),.int .u64 (bif bN s.3 (bY n y.7 y.8)then WU (aB s.3 (bY n y.7 y.8)+1)else 0),.bool (bN s.3 (bY n y.7 y.8))]),some (.ints (some .u64) (aJ s.3 (bY n y.7 y.8) (WU (aB s.3 (bY n y.7 y.8)+1)))),some (.ints (some .i64) R),some (.cells [.int .i64 t,.int .i64 n,.int .i64 x.1,.int .i64 x.2,.int .i64 x.3,.int .u64 x.4,.bool x.5]),some (.cells [.ptr 1 0,.ptr 7 0]),some (.cells [.int .i64 t,.int .i64 n,.slice 8 0 (List.length y.5) 1,.slice 9 0 (List.length y.6) 1,.slice 10 0 (List.length y.2) 1,.map 11,.int .i64 y.4,.ptr 12 0]),some (.ints (some .i64) y.5),some (.ints (some .i64) y.6),some (.ints (some .i64) y.2),some (.imap .i64 none y.3),some (.cells [.int .i64 t,.int .i64 n,.slice 13 (y.8+1) (y.9 - 1) 1]),some (.ints (some .i64) y.7)]):cT' 85 [.ptr 0 0,.ptr 2 0] [some (.cells [.ptr 1 0,.bool sh,.ptr 5 0,.ptr 6 0,.bool dn]),some (.cells [.int .i64 t,.int .i64 n,.int .i64 me,.int .i64 sp,.slice 4 0 R.length 1]),aZ 3 s,a9 s,some (.ints (some .i64) R),UH t n x,some (.cells [.ptr 1 0,.ptr 7 0]),some (.cells [.int .i64 t,.int .i64 n,.slice 8 0 y.ks.length 1,.slice 9 0 y.fs.length 1,.slice 10 0 y.N.length 1,.map 11,.int .i64 y.i,.ptr 12 0]),some (.ints (some .i64) y.ks),some (.ints (some .i64) y.fs),some (.ints (some .i64) y.N),some (.imap .i64 none y.m),some (.cells [.int .i64 t,.int .i64 n,.slice 13 y.j y.l 1]),some (.ints (some .i64) y.gs)] K:=by
 refine aCu (cM' (E:=E42) (by kernel_rfl) hK)
theorem en2(t n:Int)(e:ENS)(st:STS)(s:MS)(K:AVal→aD Ob→Prop)(hp:e.ph=2)(ok:K7 t n e st s)(hK:(enF t n e st s).left t n K):cT' 85 [.ptr 0 0,.ptr 2 0] (RE t n e st s) K:=by
 obtain⟨ht,hn,hc,hm,hR,ho⟩:=ok
 obtain⟨ph,sh,dn,x,y⟩:=e
 dsimp only at hp
 subst hp
 obtain⟨me,sp,R⟩:=st
 dsimp only at hm hR
 refine aC.pack tbl (aC.pack tbl ?_)
 refine aC.unpack tbl (.store t n ⟨me,sp,R⟩) 1 0 (iZ t n ⟨me,sp,R⟩) [] rfl rfl rfl rfl ?_
 refine aC.unpack tbl (.ensure t n ⟨2,sh,dn,x,y⟩) 0 1 (G4 t n ⟨2,sh,dn,x,y⟩) [1] rfl rfl rfl rfl ?_
 refine aBs t n me sp R sh dn x y s _ ?_
 exact⟨⟨⟨rfl,rfl⟩,ht,hn,hc,hR⟩,gO (o:=enF t n ⟨2,sh,dn,x,y⟩ ⟨me,sp,R⟩ s) [0,1,2,3,4,5,6,7,8,9] hK rfl rfl⟩
theorem en3(t n:Int)(e:ENS)(st:STS)(s:MS)(K:AVal→aD Ob→Prop)(hp:e.ph=3)(ok:K7 t n e st s)(hK:(enF t n e st s).left t n K):cT' 85 [.ptr 0 0,.ptr 2 0] (RE t n e st s) K:=by
 obtain⟨ht,hn,hc,hm,hR,ho⟩:=ok
 obtain⟨ph,sh,dn,x,y⟩:=e
 dsimp only at hp
 subst hp
 obtain⟨me,sp,R⟩:=st
 dsimp only at hm hR
 refine aC.pack tbl (aC.pack tbl ?_)
 refine aC.unpack tbl (.store t n ⟨me,sp,R⟩) 1 0 (iZ t n ⟨me,sp,R⟩) [] rfl rfl rfl rfl ?_
 refine aC.unpack tbl (.ensure t n ⟨3,sh,dn,x,y⟩) 0 1 (G4 t n ⟨3,sh,dn,x,y⟩) [1] rfl rfl rfl rfl ?_
 refine aBt t n me sp R sh dn x y s _ ?_
 have ho:y.N.length≤1000000∧0≤y.i∧y.i<2*t:=ho
 refine⟨⟨⟨rfl,rfl,rfl,rfl,rfl⟩,ht,hn,hc,ho.1,ho.2⟩,?_⟩
 unfold enF at hK
 dsimp only at hK
 cases h1:ieq (y.i+1) (2*t)with
 | false=>
   rw [h1]at hK
   exact gO (o:=⟨false,⟨3,sh,dn,x,{y with m:=aW y.m n y.i s,i:=y.i+1}⟩,⟨me,sp,R⟩,s.loadd (bT n y.i)⟩) [0,1,2,3,4,5,6,7,8,9] hK rfl rfl
 | true=>
   rw [h1]at hK
   cases h2:ieq ((aX (aW y.m n y.i s) y.N).length :Int) 0 with
   | true=>
     rw [h2]at hK
     exact gO (o:=⟨true,⟨0,true,true,x,y⟩,⟨me,sp,cR (aW y.m n y.i s) y.N⟩,s.loadd (bT n y.i)⟩) [0,1,2,3,10] hK rfl rfl
   | false=>
     rw [h2]at hK
     exact gO (o:=⟨false,⟨4,sh,dn,x,⟨0,y.N,aW y.m n y.i s,y.i+1,cR (aW y.m n y.i s) y.N,aX (aW y.m n y.i s) y.N,aX (aW y.m n y.i s) y.N,0,(aX (aW y.m n y.i s) y.N).length⟩⟩,⟨me,sp,R⟩,s.loadd (bT n y.i)⟩) [0,1,2,3,4,5,6,7,10,11,8,9,12,13] hK rfl rfl
theorem en4(t n:Int)(e:ENS)(st:STS)(s:MS)(K:AVal→aD Ob→Prop)(hp:e.ph=4)(ok:K7 t n e st s)(hK:(enF t n e st s).left t n K):cT' 85 [.ptr 0 0,.ptr 2 0] (RE t n e st s) K:=by
 obtain⟨ht,hn,hc,hm,hR,ho⟩:=ok
 obtain⟨ph,sh,dn,x,y⟩:=e
 dsimp only at hp
 subst hp
 obtain⟨me,sp,R⟩:=st
 dsimp only at hm hR
 refine aC.pack tbl (aC.pack tbl ?_)
 refine aC.unpack tbl (.store t n ⟨me,sp,R⟩) 1 0 (iZ t n ⟨me,sp,R⟩) [] rfl rfl rfl rfl ?_
 refine aC.unpack tbl (.ensure t n ⟨4,sh,dn,x,y⟩) 0 1 (G4 t n ⟨4,sh,dn,x,y⟩) [1] rfl rfl rfl rfl ?_
 refine aBu t n me sp R sh dn x y s _ ?_
 have ho:2*t≤y.i∧1≤y.l∧y.gs.length=y.j+y.l∧ -1000000≤List.getD y.gs (y.j+Int.toNat 0*1) 0∧List.getD y.gs (y.j+Int.toNat 0*1) 0≤1000000:=ho
 refine⟨⟨⟨rfl,rfl,rfl,rfl,rfl,rfl,rfl,rfl,rfl⟩,ht,hn,hc,ho.1,⟨ho.2.1,ho.2.2.1⟩,ho.2.2.2⟩,?_⟩
 unfold enF at hK
 dsimp only at hK
 cases h1:ieq ((y.l - 1:Nat):Int) 0 with
 | false=>
   rw [h1]at hK
   exact gO (o:=⟨false,⟨4,sh,dn,x,{y with j:=y.j+1,l:=y.l - 1}⟩,⟨me,sp,R⟩,s.added (bY n y.gs y.j) 1⟩) [0,1,2,3,4,5,6,7,8,9,10,11,12,13] hK rfl rfl
 | true=>
   rw [h1]at hK
   exact gO (o:=⟨ieq (y.fs.length:Int) 0,⟨0,ieq (y.fs.length:Int) 0,true,x,y⟩,⟨me,sp,y.ks⟩,s.added (bY n y.gs y.j) 1⟩) [0,1,2,3,8] hK rfl rfl
theorem en1(t n:Int)(e:ENS)(st:STS)(s:MS)(K:AVal→aD Ob→Prop)(hp:e.ph=1)(ok:K7 t n e st s)(hK:(enF t n e st s).left t n K):cT' 85 [.ptr 0 0,.ptr 2 0] (RE t n e st s) K:=by
 obtain⟨ht,hn,hc,hm,hR,ho⟩:=ok
 obtain⟨ph,sh,dn,x,y⟩:=e
 dsimp only at hp
 subst hp
 obtain⟨me,sp,R⟩:=st
 dsimp only at hm hR
 refine aC.pack tbl (aC.pack tbl ?_)
 refine aC.unpack tbl (.store t n ⟨me,sp,R⟩) 1 0 (iZ t n ⟨me,sp,R⟩) [] rfl rfl rfl rfl ?_
 refine aC.unpack tbl (.ensure t n ⟨1,sh,dn,x,y⟩) 0 1 (G4 t n ⟨1,sh,dn,x,y⟩) [1] rfl rfl rfl rfl ?_
 refine aBr t n me sp R sh dn x y s _ ?_
 have ho:okAl n x:=ho
 obtain⟨hg,ha,hl⟩:=ho
 refine⟨⟨rfl,ht,hn,ha,hl,hc⟩,?_⟩
 obtain⟨got,at',left,found,free⟩:=x
 dsimp only at hg ha hl⊢
 subst hg
 have i0:ieq at' 0=false:=by rw [bX];simp;omega
 have i00:ieq 0 0=true:=rfl
 rw [i0,i00]
 unfold enF jX zQ at hK
 dsimp only at hK
 cases free with
 | false=>
   dsimp only [cond]at hK⊢
   cases ho:oddB (aB s.xs (n+4+at'))with
   | false=>
     rw [ho]at hK
     exact gO (o:=⟨false,⟨1,sh,dn,⟨0,at',left,aB s.xs (n+4+at'),true⟩,y⟩,⟨me,sp,R⟩,s.loadd (n+4+at')⟩) [0,1,2,3,4,5] hK rfl rfl
   | true=>
     rw [ho]at hK
     dsimp only [cond]at hK⊢
     cases hw:ile (left - 1) 0 with
     | false=>
       rw [hw]at hK
       exact gO (o:=⟨false,⟨1,sh,dn,⟨0,cM n at',left - 1,aB s.xs (n+4+at'),false⟩,y⟩,⟨me,sp,R⟩,s.loadd (n+4+at')⟩) [0,1,2,3,4,5] hK rfl rfl
     | true=>
       rw [hw]at hK
       cases dn with
       | true=>exact gO (o:=⟨true,⟨2,true,true,⟨0,cM n at',left - 1,aB s.xs (n+4+at'),false⟩,y⟩,⟨me,0,R⟩,s.loadd (n+4+at')⟩) [0,1,2,3,4,5,6] hK rfl rfl
       | false=>exact gO (o:=⟨ieq (R.length:Int) 0,⟨2,ieq (R.length:Int) 0,false,⟨0,cM n at',left - 1,aB s.xs (n+4+at'),false⟩,y⟩,⟨me,0,R⟩,s.loadd (n+4+at')⟩) [0,1,2,3,4,5,6] hK rfl rfl
 | true=>
   dsimp only [cond]at hK⊢
   unfold MS.cased at hK
   cases hb:aU s.xs (n+4+at') found with
   | true=>
     rw [hb]at hK
     exact gO (o:=⟨true,⟨1,sh,dn,⟨at',at',left,found,true⟩,y⟩,⟨me,at',R⟩,_⟩) [0,1,2,3,4,5] hK rfl rfl
   | false=>
     rw [hb]at hK
     dsimp only [cond]at hK⊢
     cases hw:ile (left - 1) 0 with
     | false=>
       rw [hw]at hK
       exact gO (o:=⟨false,⟨1,sh,dn,⟨0,cM n at',left - 1,found,false⟩,y⟩,⟨me,sp,R⟩,_⟩) [0,1,2,3,4,5] hK rfl rfl
     | true=>
       rw [hw]at hK
       cases dn with
       | true=>exact gO (o:=⟨true,⟨2,true,true,⟨0,cM n at',left - 1,found,false⟩,y⟩,⟨me,0,R⟩,_⟩) [0,1,2,3,4,5,6] hK rfl rfl
       | false=>exact gO (o:=⟨ieq (R.length:Int) 0,⟨2,ieq (R.length:Int) 0,false,⟨0,cM n at',left - 1,found,false⟩,y⟩,⟨me,0,R⟩,_⟩) [0,1,2,3,4,5,6] hK rfl rfl
theorem en0(t n:Int)(e:ENS)(st:STS)(s:MS)(K:AVal→aD Ob→Prop)(hp:e.ph=0)(ok:K7 t n e st s)(hK:(enF t n e st s).left t n K):cT' 85 [.ptr 0 0,.ptr 2 0] (RE t n e st s) K:=by
 obtain⟨ht,hn,hc,hm,hR,ho⟩:=ok
 obtain⟨ph,sh,dn,x,y⟩:=e
 dsimp only at hp
 subst hp
 obtain⟨me,sp,R⟩:=st
 dsimp only at hm hR
 refine aC.pack tbl (aC.pack tbl ?_)
 refine aC.unpack tbl (.store t n ⟨me,sp,R⟩) 1 0 (iZ t n ⟨me,sp,R⟩) [] rfl rfl rfl rfl ?_
 refine aC.unpack tbl (.ensure t n ⟨0,sh,dn,x,y⟩) 0 1 (G4 t n ⟨0,sh,dn,x,y⟩) [1] rfl rfl rfl rfl ?_
 refine aBq t n me sp R sh dn x y s _ ?_
 unfold enF jX zQ at hK
 dsimp only at hK
 cases hz:ieq sp 0 with
 | false=>
   rw [hz]at hK
   exact⟨⟨rfl,by omega⟩,gO (o:=⟨true,⟨0,sh,dn,x,y⟩,⟨me,sp,R⟩,s.loadd 0⟩) [0,1,2,3,4] hK rfl rfl⟩
 | true=>
   rw [hz]at hK
   have ha:1≤at0 t n me∧at0 t n me≤n:=by
    unfold at0 bK
    cases h1:(ile 1 (aO t n me))<;>cases h2:ile (aO t n me) n<;>simp only [Bool.and_true,Bool.and_false,Bool.and_self,cond_true,cond_false]<;>rw [cE]at h1 h2<;>simp at h1 h2<;>omega
   refine⟨⟨by omega,by omega⟩,⟨trivial,trivial⟩,⟨rfl,ht,hn,ha,by omega,hc⟩,?_⟩
   show cond (oddB (aB s.xs (n+4+at0 t n me))) _ _
   cases ho:oddB (aB s.xs (n+4+at0 t n me))with
   | false=>
     rw [ho]at hK
     exact gO (o:=⟨false,⟨1,sh,dn,⟨0,at0 t n me,n,aB s.xs (n+4+at0 t n me),true⟩,y⟩,⟨me,sp,R⟩,s.loadd (n+4+at0 t n me)⟩) [0,1,2,3,4,5] hK rfl rfl
   | true=>
     rw [ho]at hK
     dsimp only [cond]at hK⊢
     cases hw:ile (n - 1) 0 with
     | false=>
       rw [hw]at hK
       exact gO (o:=⟨false,⟨1,sh,dn,⟨0,cM n (at0 t n me),n - 1,aB s.xs (n+4+at0 t n me),false⟩,y⟩,⟨me,sp,R⟩,s.loadd (n+4+at0 t n me)⟩) [0,1,2,3,4,5] hK rfl rfl
     | true=>
       rw [hw]at hK
       cases dn with
       | true=>exact gO (o:=⟨true,⟨2,true,true,⟨0,cM n (at0 t n me),n - 1,aB s.xs (n+4+at0 t n me),false⟩,y⟩,⟨me,0,R⟩,s.loadd (n+4+at0 t n me)⟩) [0,1,2,3,4,5,6] hK rfl rfl
       | false=>exact gO (o:=⟨ieq (R.length:Int) 0,⟨2,ieq (R.length:Int) 0,false,⟨0,cM n (at0 t n me),n - 1,aB s.xs (n+4+at0 t n me),false⟩,y⟩,⟨me,0,R⟩,s.loadd (n+4+at0 t n me)⟩) [0,1,2,3,4,5,6] hK rfl rfl
theorem G7(t n:Int)(e:ENS)(st:STS)(s:MS)(K:AVal→aD Ob→Prop)(ok:K7 t n e st s)(hK:(enF t n e st s).left t n K):cT' 85 [.ptr 0 0,.ptr 2 0] (RE t n e st s) K:=by
 match h:e.ph with
 | 0=>exact en0 t n e st s K h ok hK
 | 1=>exact en1 t n e st s K h ok hK
 | 2=>exact en2 t n e st s K h ok hK
 | 3=>exact en3 t n e st s K h ok hK
 | 4=>exact en4 t n e st s K h ok hK
 | k+5=>have:=ok.ho;unfold aAC at this;rw [h]at this;exact this.elim
noncomputable def enS:aM Ob:=fun args h=>match args,h with
 | [.ptr 0 0,.ptr 2 0],[some (.abs (.ensure t n e) [1]),some (.abs (.store t' n' st) []),e1,e2]=>(match eI 3 [e1,e2]with
   | some (l,s)=>some (.pre ((l=s.xs.length∧t'=t∧n'=n)∧K7 t n e st s) (.ret (.bool (enF t n e st s).d) (RE t n (enF t n e st s).e (enF t n e st s).st (enF t n e st s).s)))
   | none=>none)
 | _,_=>none
theorem Z8:aM.ok E42.I Tryz.prog 85 enS:=by
 intro args h o ho K hK
 unfold enS at ho
 split at ho
 case h_2=>cases ho
 split at ho<;>cases ho
 rename_i hm
 obtain⟨⟨⟨hl,ht',hn'⟩,ok⟩,hK⟩:=hK
 have hh:=b8 hm hl
 cases hh
 subst ht' hn'
 exact G7 _ _ _ _ _ K ok hK
noncomputable def enE:=E42.addS 85 enS Z8
structure SO where
 d:Bool
 e:SWS
 st:STS
 s:MS
instance:Inhabited SO:=⟨⟨false,Q8,⟨0,0,[]⟩,⟨0,0,[],0,0,0,0,0,false⟩⟩⟩
def swF(t n:Int)(y:SWS)(st:STS)(s:MS):SO:=match y.ph with
 | 0=>⟨false,{y with ph:=1,N:=st.R,m:=aW [] n 0 s,i:=1},st,s.loadd (bT n 0)⟩
 | 1=>(match ieq (y.i+1) (2*t),ieq ((aX (aW y.m n y.i s) y.N).length :Int) 0 with
   | true,true=>⟨true,{y with ph:=3},{st with R:=cR (aW y.m n y.i s) y.N},s.loadd (bT n y.i)⟩
   | true,false=>⟨false,⟨2,y.N,aW y.m n y.i s,y.i+1,cR (aW y.m n y.i s) y.N,aX (aW y.m n y.i s) y.N,aX (aW y.m n y.i s) y.N,0,(aX (aW y.m n y.i s) y.N).length⟩,st,s.loadd (bT n y.i)⟩
   | false,_=>⟨false,{y with m:=aW y.m n y.i s,i:=y.i+1},st,s.loadd (bT n y.i)⟩)
 | _=>(match ieq ((y.l - 1:Nat):Int) 0 with
   | true=>⟨true,{y with ph:=3},{st with R:=y.ks},s.added (bY n y.gs y.j) 1⟩
   | false=>⟨false,{y with j:=y.j+1,l:=y.l - 1},st,s.added (bY n y.gs y.j) 1⟩)
def UV(t n:Int)(y:SWS):Prop:=match y.ph with
 | 0=>True
 | 1=>y.N.length≤1000000∧0≤y.i∧y.i<2*t
 | 2=>2*t≤y.i∧1≤y.l∧y.gs.length=y.j+y.l∧ -1000000≤List.getD y.gs (y.j+Int.toNat 0*1) 0∧List.getD y.gs (y.j+Int.toNat 0*1) 0≤1000000
 | _=>False
structure wE (t n:Int) (y:SWS) (st:STS) (s:MS):Prop where
 ht:1≤t∧t≤1000
 hn:1≤n∧n≤1000
 hc:0≤s.c∧s.c≤1000000
 hR:st.R.length≤1000000
 ho:UV t n y
def ZN(t n:Int)(y:SWS)(st:STS)(s:MS):aD Ob:=[some (.abs (.sweep t n y) [1]),some (.abs (.store t n st) []),aZ 3 s,a9 s]
def SO.left(o:SO)(t n:Int)(K:AVal→aD Ob→Prop):Prop:=K (.bool o.d) (ZN t n o.e o.st o.s)
theorem yX{K:AVal→aD Ob→Prop}{t n:Int}{o:SO}{g':aD Ob}(pl:List Nat)(hK:o.left t n K)
 (hb:(fK pl g'.length&&kS pl 0 4&&uA 1 (PS t n o.e))=true)
 (hT:gV pl g'=bV [some (.abs (.sweep t n o.e) [1]),some (.cells [.int .i64 t,.int .i64 n,.int .i64 o.st.me,.int .i64 o.st.sp,.slice 4 0 o.st.R.length 1]),aZ 3 o.s,a9 o.s,some (.ints (some .i64) o.st.R)] 0 1 (PS t n o.e) [1]):A1 tbl 4 (A1 tbl 4 K) (.bool o.d) g':=by
 simp only [Bool.and_eq_true]at hb
 obtain⟨⟨b1,b2⟩,b3⟩:=hb
 refine⟨pl,_,.sweep t n o.e,0,1,_,[1],?_,hT,rfl,rfl,⟨[0,1,2,3,4],[some (.abs (.sweep t n o.e) [1]),some (.abs (.store t n o.st) []),aZ 3 o.s,a9 o.s],.store t n o.st,1,0,iZ t n o.st,[],rfl,rfl,rfl,rfl,?_⟩⟩
 ·rw [b1,b2,b3];rfl
 ·exact hK
def PO(t n me sp:Int)(R:List Int)(y:SWS)(s:MS)(K:AVal→aD Ob→Prop):Prop:=((lE' s.3∧lE' R)∧((1:Int)≤t∧t≤(1000:Int))∧((1:Int)≤n∧n≤(1000:Int))∧((0:Int)≤s.4∧s.4≤(1000000:Int))∧List.length R≤(1000000:Nat))∧K (.bool false) [some (.cells [.ptr 1 0,.ptr 5 0]),some (.cells [.int .i64 t,.int .i64 n,.int .i64 me,.int .i64 sp,.slice 4 0 (List.length R) 1]),some (.cells [.int .i64 s.1,.int .i64 s.2,.slice 3 0 (List.length s.3) 1,.int .i64 (s.4+1),.int .i64 1,.int .i64 (bT n 0),.int .u64 (aB s.3 (bT n 0)),.int .u64 (aB s.3 (bT n 0)),.bool (bN s.3 (bT n 0))]),some (.ints (some .u64) s.3),some (.ints (some .i64) R),some (.cells [.int .i64 t,.int .i64 n,.raw (Value.slice none 0 0),.raw (Value.slice none 0 0),.slice 6 0 (List.length R) 1,.map 7,.int .i64 1,.raw (Value.pointer none)]),some (.ints (some .i64) R),some (.imap .i64 none (aW [] n 0 s))]
theorem aBD(t n me sp:Int)(R:List Int)(y:SWS)(s:MS)(K:AVal→aD Ob→Prop)(hK:PO t n me sp R y s K):cT' 195 [.ptr 0 0,.ptr 2 0] [some (.cells [.ptr 1 0,.raw (.pointer none)]),some (.cells [.int .i64 t,.int .i64 n,.int .i64 me,.int .i64 sp,.slice 4 0 R.length 1]),aZ 3 s,a9 s,some (.ints (some .i64) R)] K:=
 (lN oW) _ _ _ (Ev.get (aR (p:=pK swStepS [.ptr 0 0,.ptr 2 0] [some (.cells [.ptr 1 0,.raw (.pointer none)]),some (.cells [.int .i64 t,.int .i64 n,.int .i64 me,.int .i64 sp,.slice 4 0 R.length 1]),aZ 3 s,a9 s,some (.ints (some .i64) R)] K) (q:=PO t n me sp R y s K) (by kernel_rfl) hK))
def PP(t n me sp:Int)(R:List Int)(y:SWS)(s:MS)(K:AVal→aD Ob→Prop):Prop:=((lE' s.3∧lE' R∧lE' y.2∧t=t∧n=n)∧((1:Int)≤t∧t≤(1000:Int))∧((1:Int)≤n∧n≤(1000:Int))∧((0:Int)≤s.4∧s.4≤(1000000:Int))∧List.length y.2≤(1000000:Nat)∧(0:Int)≤y.4∧y.4<(2:Int)*t)∧bif ieq (y.4+1) (2*t)then bif ieq (↑(List.length (aX (aW y.3 n y.4 s) y.2)):Int) 0 then K (.bool true) [some (.cells [.ptr 1 0,.ptr 5 0]),some (.cells [.int .i64 t,.int .i64 n,.int .i64 me,.int .i64 sp,.slice 8 0 (List.length (cR (aW y.3 n y.4 s) y.2)) 1]),some (.cells [.int .i64 s.1,.int .i64 s.2,.slice 3 0 (List.length s.3) 1,.int .i64 (s.4+1),.int .i64 1,.int .i64 (bT n y.4),.int .u64 (aB s.3 (bT n y.4)),.int .u64 (aB s.3 (bT n y.4)),.bool (bN s.3 (bT n y.4))]),some (.ints (some .u64) s.3),some (.ints (some .i64) R),some (.cells [.int .i64 t,.int .i64 n,.slice 8 0 (List.length (cR (aW y.3 n y.4 s) y.2)) 1,.slice 9 0 (List.length (aX (aW y.3 n y.4 s) y.2)) 1,.slice 6 0 (List.length y.2) 1,.map 7,.int .i64 (y.4+1),.ptr 10 0]),some (.ints (some .i64) y.2),some (.imap .i64 none (aW y.3 n y.4 s)),some (.ints (some .i64) (cR (aW y.3 n y.4 s) y.2)),some (.ints (some .i64) (aX (aW y.3 n y.4 s) y.2)),some (.cells [.int .i64 t,.int .i64 n,.slice 11 0 (List.length (aX (aW y.3 n y.4 s) y.2)) 1]),some (.ints (some .i64) (aX (aW y.3 n y.4 s) y.2))]else K (.bool false) [some (.cells [.ptr 1 0,.ptr 5 0]),some (.cells [.int .i64 t,.int .i64 n,.int .i64 me,.int .i64 sp,.slice 4 0 (List.length R) 1]),some (.cells [.int .i64 s.1,.int .i64 s.2,.slice 3 0 (List.length s.3) 1,.int .i64 (s.4+1),.int .i64 1,.int .i64 (bT n y.4),.int .u64 (aB s.3 (bT n y.4)),.int .u64 (aB s.3 (bT n y.4)),.bool (bN s.3 (bT n y.4))]),some (.ints (some .u64) s.3),some (.ints (some .i64) R),some (.cells [.int .i64 t,.int .i64 n,.slice 8 0 (List.length (cR (aW y.3 n y.4 s) y.2)) 1,.slice 9 0 (List.length (aX (aW y.3 n y.4 s) y.2)) 1,.slice 6 0 (List.length y.2) 1,.map 7,.int .i64 (y.4+1),.ptr 10 0]),some (.ints (some .i64) y.2),some (.imap .i64 none (aW y.3 n y.4 s)),some (.ints (some .i64) (cR (aW y.3 n y.4 s) y.2)),some (.ints (some .i64) (aX (aW y.3 n y.4 s) y.2)),some (.cells [.int .i64 t,.int .i64 n,.slice 11 0 (List.length (aX (aW y.3 n y.4 s) y.2)) 1]),some (.ints (some .i64) (aX (aW y.3 n y.4 s) y.2))]else K (.bool false) [some (.cells [.ptr 1 0,.ptr 5 0]),some (.cells [.int .i64 t,.int .i64 n,.int .i64 me,.int .i64 sp,.slice 4 0 (List.length R) 1]),some (.cells [.int .i64 s.1,.int .i64 s.2,.slice 3 0 (List.length s.3) 1,.int .i64 (s.4+1),.int .i64 1,.int .i64 (bT n y.4),.int .u64 (aB s.3 (bT n y.4)),.int .u64 (aB s.3 (bT n y.4)),.bool (bN s.3 (bT n y.4))]),some (.ints (some .u64) s.3),some (.ints (some .i64) R),some (.cells [.int .i64 t,.int .i64 n,.raw (Value.slice none 0 0),.raw (Value.slice none 0 0),.slice 6 0 (List.length y.2) 1,.map 7,.int .i64 (y.4+1),.raw (Value.pointer none)]),some (.ints (some .i64) y.2),some (.imap .i64 none (aW y.3 n y.4 s))]
theorem aBE(t n me sp:Int)(R:List Int)(y:SWS)(s:MS)(K:AVal→aD Ob→Prop)(hK:PP t n me sp R y s K):cT' 195 [.ptr 0 0,.ptr 2 0] [some (.cells [.ptr 1 0,.ptr 5 0]),some (.cells [.int .i64 t,.int .i64 n,.int .i64 me,.int .i64 sp,.slice 4 0 R.length 1]),aZ 3 s,a9 s,some (.ints (some .i64) R),some (.cells [.int .i64 t,.int .i64 n,.raw (.slice none 0 0),.raw (.slice none 0 0),.slice 6 0 y.N.length 1,.map 7,.int .i64 y.i,.raw (.pointer none)]),some (.ints (some .i64) y.N),some (.imap .i64 none y.m)] K:=
 (lN oW) _ _ _ (Ev.get (aR (p:=pK swStepS [.ptr 0 0,.ptr 2 0] [some (.cells [.ptr 1 0,.ptr 5 0]),some (.cells [.int .i64 t,.int .i64 n,.int .i64 me,.int .i64 sp,.slice 4 0 R.length 1]),aZ 3 s,a9 s,some (.ints (some .i64) R),some (.cells [.int .i64 t,.int .i64 n,.raw (.slice none 0 0),.raw (.slice none 0 0),.slice 6 0 y.N.length 1,.map 7,.int .i64 y.i,.raw (.pointer none)]),some (.ints (some .i64) y.N),some (.imap .i64 none y.m)] K) (q:=PP t n me sp R y s K) (by kernel_rfl) hK))
def PR(t n me sp:Int)(R:List Int)(y:SWS)(s:MS)(K:AVal→aD Ob→Prop):Prop:=((lE' s.3∧lE' R∧lE' y.5∧lE' y.6∧lE' y.2∧t=t∧n=n∧t=t∧n=n)∧((1:Int)≤t∧t≤(1000:Int))∧((1:Int)≤n∧n≤(1000:Int))∧((0:Int)≤s.4∧s.4≤(1000000:Int))∧2*t≤y.4∧((1:Nat)≤y.9∧List.length y.7=y.8+y.9)∧(-1000000:Int)≤List.getD y.7 (y.8+Int.toNat 0*1) 0∧List.getD y.7 (y.8+Int.toNat 0*1) (0:Int)≤(1000000:Int))∧bif ieq (↑(y.9 - 1):Int) 0 then K (.bool true) [some (.cells [.ptr 1 0,.ptr 5 0]),some (.cells [.int .i64 t,.int .i64 n,.int .i64 me,.int .i64 sp,.slice 6 0 (List.length y.5) 1]),some (.cells [.int .i64 s.1,.int .i64 s.2,.slice 3 0 (List.length (aJ s.3 (bY n y.7 y.8) (WU (aB s.3 (bY n y.7 y.8)+1)))) 1,.int .i64 (s.4+1),.int .i64 4,.int .i64 (bY n y.7 y.8),.int .u64 (aB s.3 (bY n y.7 y.8)),.int .u64 (bif bN s.3 (bY n y.7 y.8)then WU (aB s.3 (bY n y.7 y.8)+1)else 0),.bool (bN s.3 (bY n y.7 y.8))]),some (.ints (some .u64) (aJ s.3 (bY n y.7 y.8) (WU (aB s.3 (bY n y.7 y.8)+1)))),some (.ints (some .i64) R),some (.cells [.int .i64 t,.int .i64 n,.slice 6 0 (List.length y.5) 1,.slice 7 0 (List.length y.6) 1,.slice 8 0 (List.length y.2) 1,.map 9,.int .i64 y.4,.ptr 10 0]),some (.ints (some .i64) y.5),some (.ints (some .i64) y.6),some (.ints (some .i64) y.2),some (.imap .i64 none y.3),some (.cells [.int .i64 t,.int .i64 n,.slice 11 (y.8+1) (y.9 - 1) 1]),some (.ints (some .i64) y.7)]else K (.bool false) [some (.cells [.ptr 1 0,.ptr 5 0]),some (.cells [.int .i64 t,.int .i64 n,.int .i64 me,.int .i64 sp,.slice 4 0 (List.length R) 1]),some (.cells [.int .i64 s.1,.int .i64 s.2,.slice 3 0 (List.length (aJ s.3 (bY n y.7 y.8) (WU (aB s.3 (bY n y.7 y.8)+1)))) 1,.int .i64 (s.4+1),.int .i64 4,.int .i64 (bY n y.7 y.8),.int .u64 (aB s.3 (bY n y.7 y.8)),.int .u64 (bif bN s.3 (bY n y.7 y.8)then WU (aB s.3 (bY n y.7 y.8)+1)else 0),.bool (bN s.3 (bY n y.7 y.8))]),some (.ints (some .u64) (aJ s.3 (bY n y.7 y.8) (WU (aB s.3 (bY n y.7 y.8)+1)))),some (.ints (some .i64) R),some (.cells [.int .i64 t,.int .i64 n,.slice 6 0 (List.length y.5) 1,.slice 7 0 (List.length y.6) 1,.slice 8 0 (List.length y.2) 1,.map 9,.int .i64 y.4,.ptr 10 0]),some (.ints (some .i64) y.5),some (.ints (some .i64) y.6),some (.ints (some .i64) y.2),some (.imap .i64 none y.3),some (.cells [.int .i64 t,.int .i64 n,.slice 11 (y.8+1) (y.9 - 1) 1]),some (.ints (some .i64) y.7)]
theorem aBF(t n me sp:Int)(R:List Int)(y:SWS)(s:MS)(K:AVal→aD Ob→Prop)(hK:PR t n me sp R y s K):cT' 195 [.ptr 0 0,.ptr 2 0] [some (.cells [.ptr 1 0,.ptr 5 0]),some (.cells [.int .i64 t,.int .i64 n,.int .i64 me,.int .i64 sp,.slice 4 0 R.length 1]),aZ 3 s,a9 s,some (.ints (some .i64) R),some (.cells [.int .i64 t,.int .i64 n,.slice 6 0 y.ks.length 1,.slice 7 0 y.fs.length 1,.slice 8 0 y.N.length 1,.map 9,.int .i64 y.i,.ptr 10 0]),some (.ints (some .i64) y.ks),some (.ints (some .i64) y.fs),some (.ints (some .i64) y.N),some (.imap .i64 none y.m),some (.cells [.int .i64 t,.int .i64 n,.slice 11 y.j y.l 1]),some (.ints (some .i64) y.gs)] K:=
 (lN oW) _ _ _ (Ev.get (aR (p:=pK swStepS [.ptr 0 0,.ptr 2 0] [some (.cells [.ptr 1 0,.ptr 5 0]),some (.cells [.int .i64 t,.int .i64 n,.int .i64 me,.int .i64 sp,.slice 4 0 R.length 1]),aZ 3 s,a9 s,some (.ints (some .i64) R),some (.cells [.int .i64 t,.int .i64 n,.slice 6 0 y.ks.length 1,.slice 7 0 y.fs.length 1,.slice 8 0 y.N.length 1,.map 9,.int .i64 y.i,.ptr 10 0]),some (.ints (some .i64) y.ks),some (.ints (some .i64) y.fs),some (.ints (some .i64) y.N),some (.imap .i64 none y.m),some (.cells [.int .i64 t,.int .i64 n,.slice 11 y.j y.l 1]),some (.ints (some .i64) y.gs)] K) (q:=PR t n me sp R y s K) (by kernel_rfl) hK))
theorem wc{x y:Option (aG Ob)}{g g2:aD Ob}(h:pE x y)(k:kY g g2):kY (x::g) (y::g2):=⟨h,k⟩
theorem wv{v w:AVal}{vs ws:List AVal}(h:w=v∨w=.O)(k:oD vs ws):oD (v::vs) (w::ws):=⟨h,k⟩
theorem aBH:oD [] []:=trivial
theorem aAU{vs ws:List AVal}(h:oD vs ws):pE (some (.cells vs):Option (aG Ob)) (some (.cells ws)):=h
theorem wvs: ∀vs:List AVal,oD vs vs
 | []=>trivial
 | v::vs=>⟨.inl rfl,wvs vs⟩
theorem aAV: ∀x:Option (aG Ob),pE x x
 | none=>trivial
 | some (.cells vs)=>wvs vs
 | some (.ints c xs)=>rfl
 | some (.abs t ps)=>rfl
 | some (.tab ks r)=>rfl
 | some (.imap k v m)=>rfl
theorem GJ: ∀g:aD Ob,kY g g
 | []=>trivial
 | x::g=>⟨aAV x,GJ g⟩
theorem uL{K:AVal→aD Ob→Prop}{v:AVal}{g:aD Ob}(h:K v g):LD K v g:=⟨g,GJ g,h⟩
theorem CK{K:AVal→aD Ob→Prop}{v a b:AVal}{g:aD Ob}(h:K v (some (.cells [a,.O])::g)):LD K v (some (.cells [a,b])::g):=⟨_,wc (aAU (wv (.inl rfl) (wv (.inr rfl) aBH))) (GJ g),h⟩
theorem sw0(t n:Int)(y:SWS)(st:STS)(s:MS)(K:AVal→aD Ob→Prop)(hp:y.ph=0)(ok:wE t n y st s)(hK:(swF t n y st s).left t n K):cT' 195 [.ptr 0 0,.ptr 2 0] (ZN t n y st s) K:=by
 obtain⟨ht,hn,hc,hR,ho⟩:=ok
 obtain⟨ph,N,m,i,ks,fs,gs,j,l⟩:=y
 dsimp only at hp
 subst hp
 obtain⟨me,sp,R⟩:=st
 dsimp only at hR
 refine aC.pack tbl (aC.pack tbl (aC9 ?_))
 refine aC.unpack tbl (.store t n ⟨me,sp,R⟩) 1 0 (iZ t n ⟨me,sp,R⟩) [] rfl rfl rfl rfl ?_
 refine aC.unpack tbl (.sweep t n ⟨0,N,m,i,ks,fs,gs,j,l⟩) 0 1 (PS t n ⟨0,N,m,i,ks,fs,gs,j,l⟩) [1] rfl rfl rfl rfl ?_
 refine aBD t n me sp R ⟨0,N,m,i,ks,fs,gs,j,l⟩ s _ ?_
 unfold PO
 exact⟨⟨⟨rfl,rfl⟩,ht,hn,hc,hR⟩,uL (yX (o:=swF t n ⟨0,N,m,i,ks,fs,gs,j,l⟩ ⟨me,sp,R⟩ s) [0,1,2,3,4,5,6,7] hK rfl rfl)⟩
theorem sw1(t n:Int)(y:SWS)(st:STS)(s:MS)(K:AVal→aD Ob→Prop)(hp:y.ph=1)(ok:wE t n y st s)(hK:(swF t n y st s).left t n K):cT' 195 [.ptr 0 0,.ptr 2 0] (ZN t n y st s) K:=by
 obtain⟨ht,hn,hc,hR,ho⟩:=ok
 obtain⟨ph,N,m,i,ks,fs,gs,j,l⟩:=y
 dsimp only at hp
 subst hp
 obtain⟨me,sp,R⟩:=st
 dsimp only at hR
 refine aC.pack tbl (aC.pack tbl (aC9 ?_))
 refine aC.unpack tbl (.store t n ⟨me,sp,R⟩) 1 0 (iZ t n ⟨me,sp,R⟩) [] rfl rfl rfl rfl ?_
 refine aC.unpack tbl (.sweep t n ⟨1,N,m,i,ks,fs,gs,j,l⟩) 0 1 (PS t n ⟨1,N,m,i,ks,fs,gs,j,l⟩) [1] rfl rfl rfl rfl ?_
 refine aBE t n me sp R ⟨1,N,m,i,ks,fs,gs,j,l⟩ s _ ?_
 unfold PP
 have ho:N.length≤1000000∧0≤i∧i<2*t:=ho
 refine⟨⟨⟨rfl,rfl,rfl,rfl,rfl⟩,ht,hn,hc,ho.1,ho.2⟩,?_⟩
 unfold swF at hK
 dsimp only at hK⊢
 cases h1:ieq (i+1) (2*t)with
 | false=>
   rw [h1]at hK
   exact uL (yX (o:=⟨false,⟨1,N,aW m n i s,i+1,ks,fs,gs,j,l⟩,⟨me,sp,R⟩,s.loadd (bT n i)⟩) [0,1,2,3,4,5,6,7] hK rfl rfl)
 | true=>
   rw [h1]at hK
   cases h2:ieq ((aX (aW m n i s) N).length :Int) 0 with
   | true=>
     rw [h2]at hK
     exact CK (yX (o:=⟨true,⟨3,N,m,i,ks,fs,gs,j,l⟩,⟨me,sp,cR (aW m n i s) N⟩,s.loadd (bT n i)⟩) [0,1,2,3,8] hK rfl rfl)
   | false=>
     rw [h2]at hK
     exact uL (yX (o:=⟨false,⟨2,N,aW m n i s,i+1,cR (aW m n i s) N,aX (aW m n i s) N,aX (aW m n i s) N,0,(aX (aW m n i s) N).length⟩,⟨me,sp,R⟩,s.loadd (bT n i)⟩) [0,1,2,3,4,5,8,9,6,7,10,11] hK rfl rfl)
theorem sw2(t n:Int)(y:SWS)(st:STS)(s:MS)(K:AVal→aD Ob→Prop)(hp:y.ph=2)(ok:wE t n y st s)(hK:(swF t n y st s).left t n K):cT' 195 [.ptr 0 0,.ptr 2 0] (ZN t n y st s) K:=by
 obtain⟨ht,hn,hc,hR,ho⟩:=ok
 obtain⟨ph,N,m,i,ks,fs,gs,j,l⟩:=y
 dsimp only at hp
 subst hp
 obtain⟨me,sp,R⟩:=st
 dsimp only at hR
 refine aC.pack tbl (aC.pack tbl (aC9 ?_))
 refine aC.unpack tbl (.store t n ⟨me,sp,R⟩) 1 0 (iZ t n ⟨me,sp,R⟩) [] rfl rfl rfl rfl ?_
 refine aC.unpack tbl (.sweep t n ⟨2,N,m,i,ks,fs,gs,j,l⟩) 0 1 (PS t n ⟨2,N,m,i,ks,fs,gs,j,l⟩) [1] rfl rfl rfl rfl ?_
 refine aBF t n me sp R ⟨2,N,m,i,ks,fs,gs,j,l⟩ s _ ?_
 unfold PR
 have ho:2*t≤i∧1≤l∧gs.length=j+l∧ -1000000≤List.getD gs (j+Int.toNat 0*1) 0∧List.getD gs (j+Int.toNat 0*1) 0≤1000000:=ho
 refine⟨⟨⟨rfl,rfl,rfl,rfl,rfl,rfl,rfl,rfl,rfl⟩,ht,hn,hc,ho.1,⟨ho.2.1,ho.2.2.1⟩,ho.2.2.2⟩,?_⟩
 unfold swF at hK
 dsimp only at hK⊢
 cases h1:ieq ((l - 1:Nat):Int) 0 with
 | false=>
   rw [h1]at hK
   exact uL (yX (o:=⟨false,⟨2,N,m,i,ks,fs,gs,j+1,l - 1⟩,⟨me,sp,R⟩,s.added (bY n gs j) 1⟩) [0,1,2,3,4,5,6,7,8,9,10,11] hK rfl rfl)
 | true=>
   rw [h1]at hK
   exact CK (yX (o:=⟨true,⟨3,N,m,i,ks,fs,gs,j,l⟩,⟨me,sp,ks⟩,s.added (bY n gs j) 1⟩) [0,1,2,3,6] hK rfl rfl)
theorem T6(t n:Int)(y:SWS)(st:STS)(s:MS)(K:AVal→aD Ob→Prop)(ok:wE t n y st s)(hK:(swF t n y st s).left t n K):cT' 195 [.ptr 0 0,.ptr 2 0] (ZN t n y st s) K:=by
 match h:y.ph with
 | 0=>exact sw0 t n y st s K h ok hK
 | 1=>exact sw1 t n y st s K h ok hK
 | 2=>exact sw2 t n y st s K h ok hK
 | k+3=>have:=ok.ho;unfold UV at this;rw [h]at this;exact this.elim
theorem tW{I:Itp Ob}{n:Nat}{K:AVal→aD Ob→Prop}{d:Bool}{a b g:aD Ob}(hK:(Out.ite d (.ret (.bool true) a) (.ret (.bool false) b)).run K)(h1:K (.bool true) a→i4 I n K (.bool true) g)(h2:d=false→K (.bool false) b→i4 I n K (.bool false) g):i4 I n K (.bool d) g:=by
 cases d with
 | true=>exact h1 hK
 | false=>exact h2 rfl hK
abbrev stC(l:Nat)(t n:Int)(st:STS):Option (aG Mc):=some (.cells [.int .i64 t,.int .i64 n,.int .i64 st.me,.int .i64 st.sp,.slice l 0 st.R.length 1])
abbrev mM(st:STS):Option (aG Mc):=some (.ints (some .i64) st.R)
def uP(w:Nat)(h:aD Ob):Option (Nat×Int×Int×STS):=match h with
 | [some (.cells [.int .i64 t,.int .i64 n,.int .i64 me,.int .i64 sp,.slice l 0 len 1]),some (.ints (some .i64) xs)]=>if l=w then some (len,t,n,⟨me,sp,xs⟩)else none
 | _=>none
theorem d8{w:Nat}{h:aD Ob}{l:Nat}{t n:Int}{st:STS}(e:uP w h=some (l,t,n,st))(hl:l=st.R.length):h=[stC w t n st,mM st]:=by
 unfold uP at e
 split at e
 ·split at e
  ·rename_i hw
   simp only [sI',pI']at e
   obtain⟨rfl,rfl,rfl,rfl⟩:=e
   subst hw
   simp only at hl;subst hl;rfl
  ·cases e
 ·cases e
theorem oV{f:FuncId}{t n:Int}{st st':STS}{s s':MS}{M:Mc}{e1 e2:aG Mc}{d:Bool}(h1: ∀ι:Nat→Nat,ι 1=1→e1.ren ι=e1)(h2: ∀ι:Nat→Nat,ι 1=1→e2.ren ι=e2)
 (hA: ∀K,(Out.ite d (.ret (.bool true) [some e1,some (.abs (.store t n st') []),aZ 3 s',a9 s']) (.ret (.bool false) [some e2,some (.abs (.store t n st') []),aZ 3 s',a9 s'])).run K→cT' f [.ptr 0 0,.ptr 2 0] [some (.abs M [1]),some (.abs (.store t n st) []),aZ 3 s,a9 s] K)
 (K:AVal→aD Ob→Prop) (hK:(Out.ite d (.ret (.bool true) [some e1,stC 5 t n st',none,aZ 4 s',a9 s',mM st']) (.ret (.bool false) [some e2,stC 5 t n st',none,aZ 4 s',a9 s',mM st'])).run K):
 cT' f [.ptr 0 0,.ptr 3 0] [some (.abs M [1]),stC 2 t n st,mM st,aZ 4 s,a9 s] K:=by
 refine aCX ?_
 refine aDd (h0:=[some (.abs M [1]),stC 4 t n st,aZ 3 s,a9 s,mM st]) (args0:=[.ptr 0 0,.ptr 2 0]) (K0:=fun v g=>i4 (obI tbl) 5 K (v.ren (iota [0,1,3,4,2] 5)) (pA [some (.abs M [1]),stC 2 t n st,mM st,aZ 4 s,a9 s] [0,1,3,4,2] g)) ?_ [0,1,3,4,2] rfl (by decide) (by intro l hl;simp at hl⊢;omega) ?_ rfl (fun v g hk _=>hk)
 ·refine aDi tbl [some (.abs M [1]),some (.abs (.store t n st) []),aZ 3 s,a9 s] (.store t n st) 1 0 (iZ t n st) [] (by kernel_rfl) rfl rfl (by kernel_rfl) (hA _ ?_)
  have i1:farI 4 1 1=1:=rfl
  have i2:iota [0,1,3,4,2] 5 1=1:=rfl
  cases d with
  | true=>
    have q1:((e1.ren (farI 4 1)).ren (iota [0,1,3,4,2] 5))=e1:=by rw [h1 _ i1,h1 _ i2]
    refine⟨_,_,aS.trans (aS.eq (g2:=[some e1,some (.abs (.store t n st') []),none,aZ 4 s',a9 s']) (by kernel_rfl) ?_) (aS.unpack (.store t n st') 1 0 (iZ t n st') [] rfl rfl rfl rfl),hK⟩
    show [some ((e1.ren (farI 4 1)).ren (iota [0,1,3,4,2] 5)),_,_,_,_]=_
    rw [q1];rfl
  | false=>
    have q2:((e2.ren (farI 4 1)).ren (iota [0,1,3,4,2] 5))=e2:=by rw [h2 _ i1,h2 _ i2]
    refine⟨_,_,aS.trans (aS.eq (g2:=[some e2,some (.abs (.store t n st') []),none,aZ 4 s',a9 s']) (by kernel_rfl) ?_) (aS.unpack (.store t n st') 1 0 (iZ t n st') [] rfl rfl rfl rfl),hK⟩
    show [some ((e2.ren (farI 4 1)).ren (iota [0,1,3,4,2] 5)),_,_,_,_]=_
    rw [q2];rfl
 ·intro i l hi
  match i,hi with
  | 0,hi=>cases hi;rfl
  | 1,hi=>cases hi;rfl
  | 2,hi=>cases hi;rfl
  | 3,hi=>cases hi;rfl
  | 4,hi=>cases hi;rfl
  | _+5,hi=>cases hi
def bG(kd:Int):Bool:=ieq kd 1||ieq kd 4
def dG(sh kd:Int):Bool:=ieq kd 5&&ieq sh 4
def gI(ky curr cw:Int):Bool:=bif ieq curr 0 then false else ieq (aA cw 0 10) ky
def cH(sh ky:Int):Int:=bif ieq sh 2 then ky%4 else 0
def dK(sh kd ky:Int):Int:=bif ieq sh 2 then ky else bif ieq sh 1 then ky else bif ieq sh 3 then(bif bG kd then 1024 else -1)else -1
def NP:bU Ob:=fun args h=>match args,h with
 | [.agg [.int .i64 t,.int .i64 n],.int .i64 a],[]=>some ((0≤n∧n≤100000)∧(-1000000≤a∧a≤1000000),.int .i64 (n+1+a))
 | _,_=>none
theorem R7:sT' 65 NP.spec:=by
 intro args h o ho K hK
 unfold bU.spec NP at ho
 split at ho
 case h_2=>cases ho
 rename_i p v hp
 split at hp
 case h_2=>cases hp
 rename_i t n a
 simp only [sI',pI']at hp
 obtain⟨rfl,rfl⟩:=hp
 simp only [sI']at ho;subst ho
 obtain⟨hp,hK⟩:=hK
 have hK:K (.int .i64 (n+1+a)) []:=hK
 refine aCu (cM' (E:=enE) (q:=K (.int .i64 (W (W (1+n)+a))) []) (by kernel_rfl) ?_)
 simp(disch:=omega) only [W,cG]
 refine cast (congrArg (fun z=>K (AVal.int .i64 z) []) ?_) hK
 omega
def GI:bU Ob:=fun args h=>match args,h with
 | [.agg [.int .i64 k,.int .i64 y,.bool m,.int .i64 c,.int .i64 v]],[]=>some (0≤v∧v≤1000000,.agg [.int .i64 k,.int .i64 y,.bool m,.int .i64 0,.int .i64 (aP v)])
 | _,_=>none
theorem P1:sT' 165 GI.spec:=by
 intro args h o ho K hK
 unfold bU.spec GI at ho
 split at ho
 case h_2=>cases ho
 rename_i p v hp
 split at hp
 case h_2=>cases hp
 rename_i k y m c v
 simp only [sI',pI']at hp
 obtain⟨rfl,rfl⟩:=hp
 simp only [sI']at ho;subst ho
 obtain⟨hp,hK⟩:=hK
 have hK:K (.agg [.int .i64 k,.int .i64 y,.bool m,.int .i64 0,.int .i64 (aP v)]) []:=hK
 refine aCu (cM' (E:=enE) (q:=K (.agg [.int .i64 k,.int .i64 y,.bool m,.int .i64 0,.int .i64 (W (↑(BitVec.toNat (BitVec.ofInt (IntKind.bits .i64) (W (v+1))&&&BitVec.ofInt (IntKind.bits .i64) 262143)):Int))]) []) (by kernel_rfl) ?_)
 refine cast (congrArg (fun z=>K (.agg [.int .i64 k,.int .i64 y,.bool m,.int .i64 0,.int .i64 z]) []) ?_) hK
 show aP v=_
 have hb:IntKind.bits .i64 =64:=rfl
 simp only [W]
 rw [hb,cG (x:=v+1) (by omega)]
 have:=jT (n:=64) (w:=18) (v+1) (by omega)
 have e:(2:Int)^18 - 1=262143:=by decide
 rw [e]at this
 rw [this]
 have e2:(2:Int)^18=262144:=by decide
 rw [e2,cG (by omega)]
 rfl
def AX:bU Ob:=fun args h=>match args,h with
 | [.agg [.int .i64 k,.int .i64 y,.bool m,.int .i64 c,.int .i64 v],.int .i64 b,.int .i64 x,.bool q],[]=>some (-1000000≤b∧b≤1000000,.agg [.int .i64 k,.int .i64 x,.bool q,.int .i64 (b+1),.int .i64 v])
 | _,_=>none
theorem K3:sT' 168 AX.spec:=by
 intro args h o ho K hK
 unfold bU.spec AX at ho
 split at ho
 case h_2=>cases ho
 rename_i p v hp
 split at hp
 case h_2=>cases hp
 rename_i k y m c v b x q
 simp only [sI',pI']at hp
 obtain⟨rfl,rfl⟩:=hp
 simp only [sI']at ho;subst ho
 obtain⟨hp,hK⟩:=hK
 have hK:K (.agg [.int .i64 k,.int .i64 x,.bool q,.int .i64 (b+1),.int .i64 v]) []:=hK
 refine aCu (cM' (E:=enE) (q:=K (.agg [.int .i64 k,.int .i64 x,.bool q,.int .i64 (W (b+1)),.int .i64 v]) []) (by kernel_rfl) ?_)
 rw [zA (by omega)]
 exact hK
def AR:bU Ob:=fun args h=>match args,h with
 | [.agg [.int .i64 sh,.int .i64 kd,.int .i64 ky]],[]=>some (True,.bool (bG kd))
 | _,_=>none
theorem K1:sT' 84 AR.spec:=by
 intro args h o ho K hK
 unfold bU.spec AR at ho
 split at ho
 case h_2=>cases ho
 rename_i p v hp
 split at hp
 case h_2=>cases hp
 rename_i sh kd ky
 simp only [sI',pI']at hp
 obtain⟨rfl,rfl⟩:=hp
 simp only [sI']at ho;subst ho
 obtain⟨hp,hK⟩:=hK
 have hK:K (.bool (bG kd)) []:=hK
 refine aCu (cM' (E:=enE) (q:=bif ieq kd 1 then K (.bool true) []else K (.bool (ieq kd 4)) []) (by kernel_rfl) ?_)
 unfold bG at hK
 cases h:ieq kd 1<;>rw [h]at hK<;>exact hK
def GG:bU Ob:=fun args h=>match args,h with
 | [.agg [.int .i64 sh,.int .i64 kd,.int .i64 ky]],[]=>some (True,.bool (dG sh kd))
 | _,_=>none
theorem PW:sT' 212 GG.spec:=by
 intro args h o ho K hK
 unfold bU.spec GG at ho
 split at ho
 case h_2=>cases ho
 rename_i p v hp
 split at hp
 case h_2=>cases hp
 rename_i sh kd ky
 simp only [sI',pI']at hp
 obtain⟨rfl,rfl⟩:=hp
 simp only [sI']at ho;subst ho
 obtain⟨hp,hK⟩:=hK
 have hK:K (.bool (dG sh kd)) []:=hK
 refine aCu (cM' (E:=enE) (q:=bif ieq kd 5 then K (.bool (ieq sh 4)) []else K (.bool false) []) (by kernel_rfl) ?_)
 unfold dG at hK
 cases h:ieq kd 5<;>rw [h]at hK<;>exact hK
noncomputable def hasCS:aM Ob:=qD [(.slot 0,.ints (some .i64))] R6.spec
theorem R5:sT' 124 hasCS:=tE NN
noncomputable def EB0:=((((((enE.addS 124 hasCS R5).addR 65 NP R7).addR 165 GI P1).addR 168 AX K3).addR 84 AR K1).addR 212 GG PW)
def isS:aM Ob:=fun args h=>match args,h with
 | [.agg [.int .i64 a,.int .i64 b,.int .i64 c,.int .i64 d,.bool m,.int .i64 e,.int .i64 f],.slice 0 0 1 1],[some (.cells [.int .i64 s])]=>some (.ret (.bool (hasB [s] e)) [some (.ints (some .i64) [s])])
 | _,_=>none
theorem aAs:sT' 172 isS:=by
 intro args h o ho K hK
 unfold isS at ho
 split at ho<;>cases ho
 rename_i a b c d m e f s
 have hK:K (.bool (hasB [s] e)) [some (.ints (some .i64) [s])]:=hK
 refine aCu (cM' (E:=EB0) (q:=(1=1∧(1:Nat)≤(4294967296:Nat))∧K (.bool (hasB [s] e)) [some (.ints (some .i64) [s])]) (by kernel_rfl) ?_)
 exact⟨⟨rfl,by omega⟩,hK⟩
noncomputable def EB0b:=EB0.addS 172 isS aAs
def L7:bU Ob:=fun args h=>match args,h with
 | [.int .u64 x],[]=>some (True,.int .i64 (aA x 20 5 - 1))
 | _,_=>none
theorem Q4:sT' 161 L7.spec:=by
 intro args h o ho K hK
 unfold bU.spec L7 at ho
 split at ho
 case h_2=>cases ho
 rename_i p v hp
 split at hp
 case h_2=>cases hp
 rename_i x
 simp only [sI',pI']at hp
 obtain⟨rfl,rfl⟩:=hp
 simp only [sI']at ho;subst ho
 obtain⟨hp,hK⟩:=hK
 have hK:K (.int .i64 (aA x 20 5 - 1)) []:=hK
 refine aCu (cM' (E:=EB0b) (q:=True∧K (.int .i64 (W (aA x 20 5 - 1))) []) (by kernel_rfl) ?_)
 have hb:0≤aA x 20 5∧aA x 20 5<32:=by
  unfold aA
  have e:(2:Int)^(5:Int).toNat =32:=by decide
  rw [e]
  exact⟨Int.emod_nonneg _ (by decide),Int.emod_lt_of_pos _ (by decide)⟩
 have e1:W (aA x 20 5 - 1)=aA x 20 5 - 1:=cG (by omega)
 rw [e1]
 exact⟨trivial,hK⟩
def EJ:bU Ob:=fun args h=>match args,h with
 | [.agg [.int .i64 a,.int .i64 b,.int .i64 c,.int .i64 d,.bool m,.int .i64 e,.int .i64 f],.int .i64 g],[]=>some (True,.agg [.int .i64 a,.int .i64 b,.int .i64 c,.int .i64 d,.bool m,.int .i64 g,.int .i64 f])
 | _,_=>none
theorem MN:sT' 163 EJ.spec:=by
 intro args h o ho K hK
 unfold bU.spec EJ at ho
 split at ho
 case h_2=>cases ho
 rename_i p v hp
 split at hp
 case h_2=>cases hp
 rename_i a b c d m e f g
 simp only [sI',pI']at hp
 obtain⟨rfl,rfl⟩:=hp
 simp only [sI']at ho;subst ho
 obtain⟨hp,hK⟩:=hK
 have hK:K (.agg [.int .i64 a,.int .i64 b,.int .i64 c,.int .i64 d,.bool m,.int .i64 g,.int .i64 f]) []:=hK
 refine aCu (cM' (E:=EB0b) (q:=K (.agg [.int .i64 a,.int .i64 b,.int .i64 c,.int .i64 d,.bool m,.int .i64 g,.int .i64 f]) []) (by kernel_rfl) ?_)
 exact hK
noncomputable def EB0c:=(EB0b.addR 161 L7 Q4).addR 163 EJ MN
def AU:bU Ob:=fun args h=>match args,h with
 | [.agg [.int .i64 sh,.int .i64 kd,.int .i64 ky]],[]=>some (True,.agg [.int .i64 (cH sh ky),.int .i64 (dK sh kd ky)])
 | _,_=>none
theorem K2:sT' 131 AU.spec:=by
 intro args h o ho K hK
 unfold bU.spec AU at ho
 split at ho
 case h_2=>cases ho
 rename_i p v hp
 split at hp
 case h_2=>cases hp
 rename_i sh kd ky
 simp only [sI',pI']at hp
 obtain⟨rfl,rfl⟩:=hp
 simp only [sI']at ho;subst ho
 obtain⟨hp,hK⟩:=hK
 have hK:K (.agg [.int .i64 (cH sh ky),.int .i64 (dK sh kd ky)]) []:=hK
 refine aCu (cM' (E:=EB0c) (q:=bif ieq sh 2 then K (.agg [.int .i64 (W (↑(BitVec.toNat (BitVec.ofInt (IntKind.bits .i64) ky&&&BitVec.ofInt (IntKind.bits .i64) 3)):Int)),.int .i64 ky]) []else bif ieq sh 1 then K (.agg [.int .i64 0,.int .i64 ky]) []else bif ieq sh 2 then K (.agg [.int .i64 0,.int .i64 ky]) []else bif ieq sh 3 then True∧bif bG kd then K (.agg [.int .i64 0,.int .i64 1024]) []else K (.agg [.int .i64 0,.int .i64 (-1:Int)]) []else K (.agg [.int .i64 0,.int .i64 (-1:Int)]) []) (by kernel_rfl) ?_)
 have e4:W (((BitVec.ofInt (IntKind.bits .i64) ky&&&BitVec.ofInt (IntKind.bits .i64) 3).toNat :Nat):Int)=ky%4:=by
  have hb:IntKind.bits .i64 =64:=rfl
  rw [hb]
  have:=jT (n:=64) (w:=2) ky (by omega)
  have e:(2:Int)^2 - 1=3:=by decide
  rw [e]at this
  rw [this]
  have e2:(2:Int)^2=4:=by decide
  rw [e2]
  exact cG (by omega)
 unfold cH dK at hK
 refine aN (fun e=>?_) (fun e=>aN (fun e1=>?_) (fun e1=>aN (fun e2=>?_) (fun e2=>aN (fun e3=>⟨trivial,aN (fun e5=>?_) (fun e5=>?_)⟩) (fun e3=>?_))))
 ·rw [e]at hK;rw [e4];exact hK
 ·rw [e,e1]at hK;exact hK
 ·rw [e]at e2;cases e2
 ·rw [e,e1,e3,e5]at hK;exact hK
 ·rw [e,e1,e3,e5]at hK;exact hK
 ·rw [e,e1,e3]at hK;exact hK
def AD:bU Ob:=fun args h=>match args,h with
 | [.agg [.int .i64 sh,.int .i64 kd,.int .i64 ky,.int .i64 pred,.int .u64 pw,.int .i64 curr,.int .u64 cw]],[]=>some (True,.bool (gI ky curr cw))
 | _,_=>none
theorem KG:sT' 200 AD.spec:=by
 intro args h o ho K hK
 unfold bU.spec AD at ho
 split at ho
 case h_2=>cases ho
 rename_i p v hp
 split at hp
 case h_2=>cases hp
 rename_i sh kd ky pred pw curr cw
 simp only [sI',pI']at hp
 obtain⟨rfl,rfl⟩:=hp
 simp only [sI']at ho;subst ho
 obtain⟨hp,hK⟩:=hK
 have hK:K (.bool (gI ky curr cw)) []:=hK
 refine aCu (cM' (E:=EB0c) (q:=bif !ieq curr 0 then True∧K (.bool (ieq (aA cw 0 10) ky)) []else K (.bool false) []) (by kernel_rfl) ?_)
 unfold gI at hK
 cases h:ieq curr 0 with
 | true=>rw [h]at hK;exact hK
 | false=>rw [h]at hK;exact⟨trivial,hK⟩
noncomputable def EB1:=(EB0c.addR 131 AU K2).addR 200 AD KG
def UW(v:AVal)(g:aD Ob):Option (Prop×PLN):=match v,g with
 | .agg [.bool now,.int .i64 code,.bool okk,.int .i64 val,.int .i64 addr,.int .u64 old,.int .i64 nxt,.bool mark,.int .i64 pops],[]=>some (True,⟨now,code,okk,val,addr,old,nxt,mark,pops⟩)
 | _,_=>none
def OW(y:PLN):AVal:=.agg [.bool y.now,.int .i64 y.code,.bool y.okk,.int .i64 y.val,.int .i64 y.addr,.int .u64 y.old,.int .i64 y.nxt,.bool y.mark,.int .i64 y.pops]
theorem OV:dL (obI tbl) 0 UW (fun y=>.ret (OW y) []):=by
 intro v g p x hp hq K hK
 unfold UW at hp
 split at hp
 case h_2=>cases hp
 simp only [sI',pI']at hp
 obtain⟨rfl,rfl⟩:=hp
 exact⟨⟨_,_,aS.refl _ _ _,hK⟩⟩
def yS(sh kd ky pred pw curr cw spare:Int):Tr (PLN):=.pre True (.ite (!b9 sh kd ky) (.pre True (.ret {now:=true,code:=1,okk:=false,val:=0,addr:=0,old:=0,nxt:=0,mark:=false,pops:=0})) (.ite (ieq kd 4) (.ite (ieq kd 4) (.pre True (.pre True (.ret {now:=false,code:=0,okk:=true,val:=0,addr:=pred,old:=pw,nxt:=spare,mark:=ieq (aA pw 19 1) 1,pops:=0}))) (.ite (ieq kd 2) (.pre True (.ite (gI ky curr cw) (.pre True (.pre True (.ret {now:=false,code:=0,okk:=true,val:=0,addr:=curr,old:=cw,nxt:=aA cw 10 9,mark:=true,pops:=0}))) (.ite (ieq kd 5) (.ite (ieq curr 0) (.pre True (.ret {now:=true,code:=0,okk:=false,val:=0,addr:=0,old:=0,nxt:=0,mark:=false,pops:=0})) (.pre True (.pre True (.ite (dG sh kd) (.pre True (.pre True (.pre True (.ret {now:=false,code:=0,okk:=true,val:=aA cw 0 10,addr:=pred,old:=pw,nxt:=aA cw 10 9,mark:=ieq (aA pw 19 1) 1,pops:=curr})))) (.pre True (.pre True (.ret {now:=false,code:=0,okk:=true,val:=aA cw 0 10,addr:=curr,old:=cw,nxt:=aA cw 10 9,mark:=true,pops:=0}))))))) (.ite (ieq kd 3) (.pre True (.pre True (.ret {now:=true,code:=0,okk:=gI ky curr cw,val:=0,addr:=0,old:=0,nxt:=0,mark:=false,pops:=0}))) (.pre True (.ret {now:=true,code:=0,okk:=false,val:=0,addr:=0,old:=0,nxt:=0,mark:=false,pops:=0})))))) (.ite (ieq kd 5) (.ite (ieq curr 0) (.pre True (.ret {now:=true,code:=0,okk:=false,val:=0,addr:=0,old:=0,nxt:=0,mark:=false,pops:=0})) (.pre True (.pre True (.ite (dG sh kd) (.pre True (.pre True (.pre True (.ret {now:=false,code:=0,okk:=true,val:=aA cw 0 10,addr:=pred,old:=pw,nxt:=aA cw 10 9,mark:=ieq (aA pw 19 1) 1,pops:=curr})))) (.pre True (.pre True (.ret {now:=false,code:=0,okk:=true,val:=aA cw 0 10,addr:=curr,old:=cw,nxt:=aA cw 10 9,mark:=true,pops:=0}))))))) (.ite (ieq kd 3) (.pre True (.pre True (.ret {now:=true,code:=0,okk:=gI ky curr cw,val:=0,addr:=0,old:=0,nxt:=0,mark:=false,pops:=0}))) (.pre True (.ret {now:=true,code:=0,okk:=false,val:=0,addr:=0,old:=0,nxt:=0,mark:=false,pops:=0})))))) (.ite (ieq kd 1) (.pre True (.ite (!gI ky curr cw) (.pre True (.pre True (.ret {now:=false,code:=0,okk:=true,val:=0,addr:=pred,old:=pw,nxt:=spare,mark:=ieq (aA pw 19 1) 1,pops:=0}))) (.ite (ieq kd 2) (.pre True (.ite (gI ky curr cw) (.pre True (.pre True (.ret {now:=false,code:=0,okk:=true,val:=0,addr:=curr,old:=cw,nxt:=aA cw 10 9,mark:=true,pops:=0}))) (.ite (ieq kd 5) (.ite (ieq curr 0) (.pre True (.ret {now:=true,code:=0,okk:=false,val:=0,addr:=0,old:=0,nxt:=0,mark:=false,pops:=0})) (.pre True (.pre True (.ite (dG sh kd) (.pre True (.pre True (.pre True (.ret {now:=false,code:=0,okk:=true,val:=aA cw 0 10,addr:=pred,old:=pw,nxt:=aA cw 10 9,mark:=ieq (aA pw 19 1) 1,pops:=curr})))) (.pre True (.pre True (.ret {now:=false,code:=0,okk:=true,val:=aA cw 0 10,addr:=curr,old:=cw,nxt:=aA cw 10 9,mark:=true,pops:=0}))))))) (.ite (ieq kd 3) (.pre True (.pre True (.ret {now:=true,code:=0,okk:=gI ky curr cw,val:=0,addr:=0,old:=0,nxt:=0,mark:=false,pops:=0}))) (.pre True (.ret {now:=true,code:=0,okk:=false,val:=0,addr:=0,old:=0,nxt:=0,mark:=false,pops:=0})))))) (.ite (ieq kd 5) (.ite (ieq curr 0) (.pre True (.ret {now:=true,code:=0,okk:=false,val:=0,addr:=0,old:=0,nxt:=0,mark:=false,pops:=0})) (.pre True (.pre True (.ite (dG sh kd) (.pre True (.pre True (.pre True (.ret {now:=false,code:=0,okk:=true,val:=aA cw 0 10,addr:=pred,old:=pw,nxt:=aA cw 10 9,mark:=ieq (aA pw 19 1) 1,pops:=curr})))) (.pre True (.pre True (.ret {now:=false,code:=0,okk:=true,val:=aA cw 0 10,addr:=curr,old:=cw,nxt:=aA cw 10 9,mark:=true,pops:=0}))))))) (.ite (ieq kd 3) (.pre True (.pre True (.ret {now:=true,code:=0,okk:=gI ky curr cw,val:=0,addr:=0,old:=0,nxt:=0,mark:=false,pops:=0}))) (.pre True (.ret {now:=true,code:=0,okk:=false,val:=0,addr:=0,old:=0,nxt:=0,mark:=false,pops:=0}))))))) (.ite (ieq kd 2) (.pre True (.ite (gI ky curr cw) (.pre True (.pre True (.ret {now:=false,code:=0,okk:=true,val:=0,addr:=curr,old:=cw,nxt:=aA cw 10 9,mark:=true,pops:=0}))) (.ite (ieq kd 5) (.ite (ieq curr 0) (.pre True (.ret {now:=true,code:=0,okk:=false,val:=0,addr:=0,old:=0,nxt:=0,mark:=false,pops:=0})) (.pre True (.pre True (.ite (dG sh kd) (.pre True (.pre True (.pre True (.ret {now:=false,code:=0,okk:=true,val:=aA cw 0 10,addr:=pred,old:=pw,nxt:=aA cw 10 9,mark:=ieq (aA pw 19 1) 1,pops:=curr})))) (.pre True (.pre True (.ret {now:=false,code:=0,okk:=true,val:=aA cw 0 10,addr:=curr,old:=cw,nxt:=aA cw 10 9,mark:=true,pops:=0}))))))) (.ite (ieq kd 3) (.pre True (.pre True (.ret {now:=true,code:=0,okk:=gI ky curr cw,val:=0,addr:=0,old:=0,nxt:=0,mark:=false,pops:=0}))) (.pre True (.ret {now:=true,code:=0,okk:=false,val:=0,addr:=0,old:=0,nxt:=0,mark:=false,pops:=0})))))) (.ite (ieq kd 5) (.ite (ieq curr 0) (.pre True (.ret {now:=true,code:=0,okk:=false,val:=0,addr:=0,old:=0,nxt:=0,mark:=false,pops:=0})) (.pre True (.pre True (.ite (dG sh kd) (.pre True (.pre True (.pre True (.ret {now:=false,code:=0,okk:=true,val:=aA cw 0 10,addr:=pred,old:=pw,nxt:=aA cw 10 9,mark:=ieq (aA pw 19 1) 1,pops:=curr})))) (.pre True (.pre True (.ret {now:=false,code:=0,okk:=true,val:=aA cw 0 10,addr:=curr,old:=cw,nxt:=aA cw 10 9,mark:=true,pops:=0}))))))) (.ite (ieq kd 3) (.pre True (.pre True (.ret {now:=true,code:=0,okk:=gI ky curr cw,val:=0,addr:=0,old:=0,nxt:=0,mark:=false,pops:=0}))) (.pre True (.ret {now:=true,code:=0,okk:=false,val:=0,addr:=0,old:=0,nxt:=0,mark:=false,pops:=0}))))))))
def bQ(sh kd ky pred pw curr cw spare:Int):PLN:=(yS sh kd ky pred pw curr cw spare).val
def F3(sh kd ky pred pw curr cw spare:Int):Prop:=(yS sh kd ky pred pw curr cw spare).ok
def planS:aM Ob:=fun args h=>match args,h with
 | [.agg [.int .i64 sh,.int .i64 kd,.int .i64 ky],.agg [.int .i64 pred,.int .u64 pw,.int .i64 curr,.int .u64 cw],.int .i64 spare],[]=>some (.pre (F3 sh kd ky pred pw curr cw spare) (.ret (OW (bQ sh kd ky pred pw curr cw spare)) []))
 | _,_=>none
theorem TA:sT' 157 planS:=by
 intro args h o ho K hK
 unfold planS at ho
 split at ho<;>cases ho
 rename_i sh kd ky pred pw curr cw spare
 obtain⟨ok,hK⟩:=hK
 refine aCH (root:=0) (pos:=[]) (cs:=[]) OV ?_
 exact cM' (E:=EB1) (q:=(yS sh kd ky pred pw curr cw spare).run (fun y=>(Out.ret (OW y) []).run K)) (by kernel_rfl) (aCF ok hK)
def OQ(v:AVal)(g:aD Ob):Option (Prop×Bool):=match v,g with
 | .bool x,[]=>some (True,x)
 | _,_=>none
def F0(y:Bool):AVal:=.bool y
theorem KI:dL (obI tbl) 0 OQ (fun y=>.ret (F0 y) []):=by
 intro v g p x hp hq K hK
 unfold OQ at hp
 split at hp
 case h_2=>cases hp
 simp only [sI',pI']at hp
 obtain⟨rfl,rfl⟩:=hp
 exact⟨⟨_,_,aS.refl _ _ _,hK⟩⟩
def sT(now:Bool)(code:Int)(okk:Bool)(val:Int)(addr:Int)(old:Int)(nxt:Int)(mark:Bool)(pops:Int):Tr (Bool):=.ite (!now) (.pre True (.pre True (.ret !ieq (aA old 20 5) 0))) (.pre True (.ret false))
def nT(now:Bool)(code:Int)(okk:Bool)(val:Int)(addr:Int)(old:Int)(nxt:Int)(mark:Bool)(pops:Int):Bool:=(sT now code okk val addr old nxt mark pops).val
def uN(now:Bool)(code:Int)(okk:Bool)(val:Int)(addr:Int)(old:Int)(nxt:Int)(mark:Bool)(pops:Int):Prop:=(sT now code okk val addr old nxt mark pops).ok
def planCS:aM Ob:=fun args h=>match args,h with
 | [.agg [.bool now,.int .i64 code,.bool okk,.int .i64 val,.int .i64 addr,.int .u64 old,.int .i64 nxt,.bool mark,.int .i64 pops]],[]=>some (.pre (uN now code okk val addr old nxt mark pops) (.ret (F0 (nT now code okk val addr old nxt mark pops)) []))
 | _,_=>none
theorem OR:sT' 158 planCS:=by
 intro args h o ho K hK
 unfold planCS at ho
 split at ho<;>cases ho
 rename_i now code okk val addr old nxt mark pops
 obtain⟨ok,hK⟩:=hK
 refine aCH (root:=0) (pos:=[]) (cs:=[]) KI ?_
 exact cM' (E:=EB1) (q:=(sT now code okk val addr old nxt mark pops).run (fun y=>(Out.ret (F0 y) []).run K)) (by kernel_rfl) (aCF ok hK)
def OS(v:AVal)(g:aD Ob):Option (Prop×(Int×Int)):=match v,g with
 | .tup [.int .u64 x,.int .i64 e],[]=>some (True,(x,e))
 | _,_=>none
def F2(y:(Int×Int)):AVal:=.tup [.int .u64 y.1,.int .i64 y.2]
theorem KL:dL (obI tbl) 0 OS (fun y=>.ret (F2 y) []):=by
 intro v g p x hp hq K hK
 unfold OS at hp
 split at hp
 case h_2=>cases hp
 simp only [sI',pI']at hp
 obtain⟨rfl,rfl⟩:=hp
 exact⟨⟨_,_,aS.refl _ _ _,hK⟩⟩
def sU(now:Bool)(code:Int)(okk:Bool)(val:Int)(addr:Int)(old:Int)(nxt:Int)(mark:Bool)(pops:Int)(att:Int):Tr ((Int×Int)):=.ite now (.pre True (.ret (0,5))) (.pre True (.pre True (.pre True (.ret (bif dOk att addr (aA old 25 18) nxt 2 val then bA att addr (aA old 25 18) nxt mark 2 val else 0,bif dOk att addr (aA old 25 18) nxt 2 val then 0 else 2)))))
def fG(now:Bool)(code:Int)(okk:Bool)(val:Int)(addr:Int)(old:Int)(nxt:Int)(mark:Bool)(pops:Int)(att:Int):(Int×Int):=(sU now code okk val addr old nxt mark pops att).val
def AE(now:Bool)(code:Int)(okk:Bool)(val:Int)(addr:Int)(old:Int)(nxt:Int)(mark:Bool)(pops:Int)(att:Int):Prop:=(sU now code okk val addr old nxt mark pops att).ok
def planDS:aM Ob:=fun args h=>match args,h with
 | [.agg [.bool now,.int .i64 code,.bool okk,.int .i64 val,.int .i64 addr,.int .u64 old,.int .i64 nxt,.bool mark,.int .i64 pops],.int .i64 att],[]=>some (.pre (AE now code okk val addr old nxt mark pops att) (.ret (F2 (fG now code okk val addr old nxt mark pops att)) []))
 | _,_=>none
theorem OU:sT' 116 planDS:=by
 intro args h o ho K hK
 unfold planDS at ho
 split at ho<;>cases ho
 rename_i now code okk val addr old nxt mark pops att
 obtain⟨ok,hK⟩:=hK
 refine aCH (root:=0) (pos:=[]) (cs:=[]) KL ?_
 exact cM' (E:=EB1) (q:=(sU now code okk val addr old nxt mark pops att).run (fun y=>(Out.ret (F2 y) []).run K)) (by kernel_rfl) (aCF ok hK)
noncomputable def EB2:=(((EB1.addS 157 planS TA)).addS 158 planCS OR).addS 116 planDS OU
abbrev V7(x:ENS):aG Mc:=.cells [.ptr 1 0,.bool x.sh,.O,.O,.bool x.dn]
theorem RJ{t n:Int}{x:ENS}{st:STS}{s:MS} :aS (obI tbl) 4 (.bool true) [some (.abs (.ensure t n x) [1]),some (.abs (.store t n st) []),aZ 3 s,a9 s] (.bool true) [some (V7 x),some (.abs (.store t n st) []),aZ 3 s,a9 s]:=by
 obtain⟨ph,sh,dn,a,y⟩:=x
 match ph with
 | 0=>exact(aS.unpack (.ensure t n ⟨0,sh,dn,a,y⟩) 0 1 (G4 t n ⟨0,sh,dn,a,y⟩) [1] rfl rfl (by kernel_rfl) rfl).trans ((aS.weak (dN _ 0 [2,3])).trans ((aS.pick (upto 0 4) rfl).trans (aS.eq (by kernel_rfl) (by kernel_rfl))))
 | 1=>exact(aS.unpack (.ensure t n ⟨1,sh,dn,a,y⟩) 0 1 (G4 t n ⟨1,sh,dn,a,y⟩) [1] rfl rfl (by kernel_rfl) rfl).trans ((aS.weak (dN _ 0 [2,3])).trans ((aS.pick (upto 0 4) rfl).trans (aS.eq (by kernel_rfl) (by kernel_rfl))))
 | 2=>exact(aS.unpack (.ensure t n ⟨2,sh,dn,a,y⟩) 0 1 (G4 t n ⟨2,sh,dn,a,y⟩) [1] rfl rfl (by kernel_rfl) rfl).trans ((aS.weak (dN _ 0 [2,3])).trans ((aS.pick (upto 0 4) rfl).trans (aS.eq (by kernel_rfl) (by kernel_rfl))))
 | 3=>exact(aS.unpack (.ensure t n ⟨3,sh,dn,a,y⟩) 0 1 (G4 t n ⟨3,sh,dn,a,y⟩) [1] rfl rfl (by kernel_rfl) rfl).trans ((aS.weak (dN _ 0 [2,3])).trans ((aS.pick (upto 0 4) rfl).trans (aS.eq (by kernel_rfl) (by kernel_rfl))))
 | k+4=>exact(aS.unpack (.ensure t n ⟨k+4,sh,dn,a,y⟩) 0 1 (G4 t n ⟨k+4,sh,dn,a,y⟩) [1] rfl rfl (by kernel_rfl) rfl).trans ((aS.weak (dN _ 0 [2,3])).trans ((aS.pick (upto 0 4) rfl).trans (aS.eq (by kernel_rfl) (by kernel_rfl))))
def EO.fin(t n:Int)(y:EO):Out Ob:=.ite y.d (.ret (.bool true) [some (V7 y.e),some (.abs (.store t n y.st) []),aZ 3 y.s,a9 y.s]) (.ret (.bool false) [some (.abs (.ensure t n y.e) [1]),some (.abs (.store t n y.st) []),aZ 3 y.s,a9 y.s])
theorem BU(t n:Int)(e:ENS)(st:STS)(s:MS)(K:AVal→aD Ob→Prop)(ok:K7 t n e st s)(hK:((enF t n e st s).fin t n).run K):cT' 85 [.ptr 0 0,.ptr 2 0] (RE t n e st s) K:=by
 refine aCX (G7 t n e st s _ ok ?_)
 show i4 (obI tbl) 4 K (.bool (enF t n e st s).d) _
 generalize enF t n e st s=y at hK⊢
 exact wO hK (fun h=>⟨⟨_,_,RJ,h⟩⟩) (fun h=>⟨⟨_,_,aS.refl _ _ _,h⟩⟩)
noncomputable def enSA:aM Ob:=fun args h=>match args,h with
 | [.ptr 0 0,.ptr 2 0],[some (.abs (.ensure t n x) [1]),some (.abs (.store t2 n2 st) []),e3,e4]=>(match eI 3 [e3,e4]with
   | some (l,s)=>some (.pre ((l=s.xs.length∧t2=t∧n2=n)∧K7 t n x st s) (EO.fin t n (enF t n x st s)))
   | none=>none)
 | _,_=>none
theorem WD:sT' 85 enSA:=by
 intro args h o ho K hK
 unfold enSA at ho
 split at ho
 case h_2=>cases ho
 split at ho<;>cases ho
 rename_i hm
 obtain⟨⟨⟨hl,rfl,rfl⟩,ok⟩,hK⟩:=hK
 have hh:=b8 hm hl
 cases hh
 exact BU _ _ _ _ _ K ok hK
def EO.finB(t n:Int)(y:EO):Out Ob:=.ite y.d (.ret (.bool true) [some (V7 y.e),stC 5 t n y.st,none,aZ 4 y.s,a9 y.s,mM y.st]) (.ret (.bool false) [some (.abs (.ensure t n y.e) [1]),stC 5 t n y.st,none,aZ 4 y.s,a9 y.s,mM y.st])
noncomputable def enSB:aM Ob:=fun args h=>match args,h with
 | [.ptr 0 0,.ptr 3 0],[some (.abs (.ensure t n x) [1]),e1,e2,e3,e4]=>(match uP 2 [e1,e2],eI 4 [e3,e4]with
   | some (l2,t2,n2,st),some (l,s)=>some (.pre ((l=s.xs.length∧l2=st.R.length∧t2=t∧n2=n)∧K7 t n x st s) (EO.finB t n (enF t n x st s)))
   | _,_=>none)
 | _,_=>none
theorem WE:sT' 85 enSB:=by
 intro args h o ho K hK
 unfold enSB at ho
 split at ho
 case h_2=>cases ho
 split at ho<;>cases ho
 rename_i hs hm
 obtain⟨⟨⟨hl,hl2,rfl,rfl⟩,ok⟩,hK⟩:=hK
 have hh:=b8 hm hl
 cases hh
 have hh:=d8 hs hl2
 cases hh
 exact oV (fun ι hι=>by simp [aG.ren,aCD,AVal.ren,hι]) (fun ι hι=>by simp [aG.ren,hι]) (fun K hK=>BU _ _ _ _ _ K ok hK) K hK
noncomputable def enS2:aM Ob:=aM.or enSA enSB
theorem WC:sT' 85 enS2:=aCN WD WE
abbrev Y7(x:SWS):aG Mc:=.cells [.ptr 1 0,.O]
theorem T5{t n:Int}{x:SWS}{st:STS}{s:MS} :aS (obI tbl) 4 (.bool true) [some (.abs (.sweep t n x) [1]),some (.abs (.store t n st) []),aZ 3 s,a9 s] (.bool true) [some (Y7 x),some (.abs (.store t n st) []),aZ 3 s,a9 s]:=by
 obtain⟨ph,N,m,i,ks,fs,gs,j,l⟩:=x
 match ph with
 | 0=>exact(aS.unpack (.sweep t n ⟨0,N,m,i,ks,fs,gs,j,l⟩) 0 1 (PS t n ⟨0,N,m,i,ks,fs,gs,j,l⟩) [1] rfl rfl (by kernel_rfl) rfl).trans ((aS.weak (dN _ 0 [1])).trans ((aS.pick (upto 0 4) rfl).trans (aS.eq (by kernel_rfl) (by kernel_rfl))))
 | 1=>exact(aS.unpack (.sweep t n ⟨1,N,m,i,ks,fs,gs,j,l⟩) 0 1 (PS t n ⟨1,N,m,i,ks,fs,gs,j,l⟩) [1] rfl rfl (by kernel_rfl) rfl).trans ((aS.weak (dN _ 0 [1])).trans ((aS.pick (upto 0 4) rfl).trans (aS.eq (by kernel_rfl) (by kernel_rfl))))
 | 2=>exact(aS.unpack (.sweep t n ⟨2,N,m,i,ks,fs,gs,j,l⟩) 0 1 (PS t n ⟨2,N,m,i,ks,fs,gs,j,l⟩) [1] rfl rfl (by kernel_rfl) rfl).trans ((aS.weak (dN _ 0 [1])).trans ((aS.pick (upto 0 4) rfl).trans (aS.eq (by kernel_rfl) (by kernel_rfl))))
 | k+3=>exact(aS.unpack (.sweep t n ⟨k+3,N,m,i,ks,fs,gs,j,l⟩) 0 1 (PS t n ⟨k+3,N,m,i,ks,fs,gs,j,l⟩) [1] rfl rfl (by kernel_rfl) rfl).trans ((aS.weak (dN _ 0 [1])).trans ((aS.pick (upto 0 4) rfl).trans (aS.eq (by kernel_rfl) (by kernel_rfl))))
def SO.fin(t n:Int)(y:SO):Out Ob:=.ite y.d (.ret (.bool true) [some (Y7 y.e),some (.abs (.store t n y.st) []),aZ 3 y.s,a9 y.s]) (.ret (.bool false) [some (.abs (.sweep t n y.e) [1]),some (.abs (.store t n y.st) []),aZ 3 y.s,a9 y.s])
theorem C9(t n:Int)(e:SWS)(st:STS)(s:MS)(K:AVal→aD Ob→Prop)(ok:wE t n e st s)(hK:((swF t n e st s).fin t n).run K):cT' 195 [.ptr 0 0,.ptr 2 0] (ZN t n e st s) K:=by
 refine aCX (T6 t n e st s _ ok ?_)
 show i4 (obI tbl) 4 K (.bool (swF t n e st s).d) _
 generalize swF t n e st s=y at hK⊢
 exact wO hK (fun h=>⟨⟨_,_,T5,h⟩⟩) (fun h=>⟨⟨_,_,aS.refl _ _ _,h⟩⟩)
noncomputable def swSA:aM Ob:=fun args h=>match args,h with
 | [.ptr 0 0,.ptr 2 0],[some (.abs (.sweep t n x) [1]),some (.abs (.store t2 n2 st) []),e3,e4]=>(match eI 3 [e3,e4]with
   | some (l,s)=>some (.pre ((l=s.xs.length∧t2=t∧n2=n)∧wE t n x st s) (SO.fin t n (swF t n x st s)))
   | none=>none)
 | _,_=>none
theorem ZC:sT' 195 swSA:=by
 intro args h o ho K hK
 unfold swSA at ho
 split at ho
 case h_2=>cases ho
 split at ho<;>cases ho
 rename_i hm
 obtain⟨⟨⟨hl,rfl,rfl⟩,ok⟩,hK⟩:=hK
 have hh:=b8 hm hl
 cases hh
 exact C9 _ _ _ _ _ K ok hK
def SO.finB(t n:Int)(y:SO):Out Ob:=.ite y.d (.ret (.bool true) [some (Y7 y.e),stC 5 t n y.st,none,aZ 4 y.s,a9 y.s,mM y.st]) (.ret (.bool false) [some (.abs (.sweep t n y.e) [1]),stC 5 t n y.st,none,aZ 4 y.s,a9 y.s,mM y.st])
noncomputable def swSB:aM Ob:=fun args h=>match args,h with
 | [.ptr 0 0,.ptr 3 0],[some (.abs (.sweep t n x) [1]),e1,e2,e3,e4]=>(match uP 2 [e1,e2],eI 4 [e3,e4]with
   | some (l2,t2,n2,st),some (l,s)=>some (.pre ((l=s.xs.length∧l2=st.R.length∧t2=t∧n2=n)∧wE t n x st s) (SO.finB t n (swF t n x st s)))
   | _,_=>none)
 | _,_=>none
theorem ZD:sT' 195 swSB:=by
 intro args h o ho K hK
 unfold swSB at ho
 split at ho
 case h_2=>cases ho
 split at ho<;>cases ho
 rename_i hs hm
 obtain⟨⟨⟨hl,hl2,rfl,rfl⟩,ok⟩,hK⟩:=hK
 have hh:=b8 hm hl
 cases hh
 have hh:=d8 hs hl2
 cases hh
 exact oV (fun ι hι=>by simp [aG.ren,aCD,AVal.ren,hι]) (fun ι hι=>by simp [aG.ren,hι]) (fun K hK=>C9 _ _ _ _ _ K ok hK) K hK
noncomputable def swSC:aM Ob:=aM.or swSA swSB
theorem ZB:sT' 195 swSC:=aCN ZC ZD
def V8(t n:Int)(v:AVal)(g:aD Ob):Option (Prop×STS):=match v,g with
 | .ptr 2 0,[e1,e2,some (.cells [.ptr 0 0,.bool false,.raw (.pointer none),.raw (.pointer none),.bool false])]=>(match uP 1 [e1,e2]with
   | some (l2,t2,n2,st)=>some (t2=t∧n2=n∧l2=st.R.length,st)
   | none=>none)
 | _,_=>none
abbrev RH(t n:Int)(y:STS):aD Ob:=[stC 1 t n y,mM y,some (.abs (.ensure t n cF) [0])]
theorem RI{t n:Int} :dL (obI tbl) 2 (V8 t n) (fun y=>.ret (.ptr 2 0) (RH t n y)):=by
 intro v g p x hp hq K hK
 unfold V8 at hp
 split at hp
 case h_2=>cases hp
 split at hp
 case h_2=>cases hp
 rename_i l2 t2 n2 st hs
 simp only [sI',pI']at hp
 obtain⟨rfl,rfl⟩:=hp
 obtain⟨rfl,rfl,hl2⟩:=hq
 have hh:=d8 hs hl2
 cases hh
 exact⟨⟨_,_,aS.pack (RH t2 n2 st) (.ensure t2 n2 cF) 2 1 (G4 t2 n2 cF) [0] (by kernel_rfl) rfl rfl (by kernel_rfl),hK⟩⟩
def BS(t n:Int)(st:STS):Tr STS:=.pre (t=t∧n=n∧lE' st.3) (.ret {me:=st.1,sp:=st.2,R:=st.3})
def enNS:aM Ob:=fun args h=>match args,h with
 | [.ptr 0 0],[e1,e2]=>(match uP 1 [e1,e2]with
   | some (l2,t,n,st)=>some (.pre (l2=st.R.length∧(BS t n st).ok) (.ret (.ptr 2 0) (RH t n (BS t n st).val)))
   | none=>none)
 | _,_=>none
theorem EK:sT' 37 enNS:=by
 intro args h o ho K hK
 unfold enNS at ho
 split at ho
 case h_2=>cases ho
 split at ho<;>cases ho
 rename_i l2 t n st hs
 obtain⟨⟨hl2,ok⟩,hK⟩:=hK
 have hh:=d8 hs hl2
 cases hh
 refine aCH (root:=2) (pos:=[]) (cs:=[]) (parse:=V8 t n) RI ?_
 exact cM' (E:=EB2) (q:=(BS t n st).run (fun y=>(Out.ret (.ptr 2 0) (RH t n y)).run K)) (by kernel_rfl) (aCF ok hK)
def Y8(t n:Int)(v:AVal)(g:aD Ob):Option (Prop×STS):=match v,g with
 | .ptr 2 0,[e1,e2,some (.cells [.ptr 0 0,.raw (.pointer none)])]=>(match uP 1 [e1,e2]with
   | some (l2,t2,n2,st)=>some (t2=t∧n2=n∧l2=st.R.length,st)
   | none=>none)
 | _,_=>none
abbrev TY(t n:Int)(y:STS):aD Ob:=[stC 1 t n y,mM y,some (.abs (.sweep t n Q8) [0])]
theorem TZ{t n:Int} :dL (obI tbl) 2 (Y8 t n) (fun y=>.ret (.ptr 2 0) (TY t n y)):=by
 intro v g p x hp hq K hK
 unfold Y8 at hp
 split at hp
 case h_2=>cases hp
 split at hp
 case h_2=>cases hp
 rename_i l2 t2 n2 st hs
 simp only [sI',pI']at hp
 obtain⟨rfl,rfl⟩:=hp
 obtain⟨rfl,rfl,hl2⟩:=hq
 have hh:=d8 hs hl2
 cases hh
 exact⟨⟨_,_,aS.pack (TY t2 n2 st) (.sweep t2 n2 Q8) 2 1 (PS t2 n2 Q8) [0] (by kernel_rfl) rfl rfl (by kernel_rfl),hK⟩⟩
def Y9(t n:Int)(st:STS):Tr STS:=.pre (t=t∧n=n∧lE' st.3) (.ret {me:=st.1,sp:=st.2,R:=st.3})
def swNS:aM Ob:=fun args h=>match args,h with
 | [.ptr 0 0],[e1,e2]=>(match uP 1 [e1,e2]with
   | some (l2,t,n,st)=>some (.pre (l2=st.R.length∧(Y9 t n st).ok) (.ret (.ptr 2 0) (TY t n (Y9 t n st).val)))
   | none=>none)
 | _,_=>none
theorem ZA:sT' 146 swNS:=by
 intro args h o ho K hK
 unfold swNS at ho
 split at ho
 case h_2=>cases ho
 split at ho<;>cases ho
 rename_i l2 t n st hs
 obtain⟨⟨hl2,ok⟩,hK⟩:=hK
 have hh:=d8 hs hl2
 cases hh
 refine aCH (root:=2) (pos:=[]) (cs:=[]) (parse:=Y8 t n) TZ ?_
 exact cM' (E:=EB2) (q:=(Y9 t n st).run (fun y=>(Out.ret (.ptr 2 0) (TY t n y)).run K)) (by kernel_rfl) (aCF ok hK)
noncomputable def EB3:=(((EB2.addS 85 enS2 WC).addS 195 swSC ZB).addS 37 enNS EK).addS 146 swNS ZA
structure ClO where
 d:Bool
 x:CLS
 s:MS
instance:Inhabited ClO:=⟨⟨false,⟨0,0,0,0⟩,⟨0,0,[],0,0,0,0,0,false⟩⟩⟩
instance:Inhabited CLS:=⟨⟨0,0,0,0⟩⟩
abbrev clH(t n:Int)(x:CLS)(s:MS):aD Ob:=[some (.abs (.clear t n x) []),aZ 2 s,a9 s]
abbrev clD(t n:Int)(x:CLS)(s:MS):aD Ob:=[some (.cells [.int .i64 t,.int .i64 n,.int .i64 x.addr,.int .i64 x.at',.int .u64 x.word,.int .u64 x.found]),aZ 2 s,a9 s]
def ClO.fin(t n:Int)(y:ClO):Out Ob:=.ite y.d (.ret (.bool true) (clD t n y.x y.s)) (.ret (.bool false) (clH t n y.x y.s))
def VV(t n:Int)(v:AVal)(g:aD Ob):Option (Prop×ClO):=match v,g with
 | .bool d,[some (.cells [.int .i64 t1,.int .i64 n1,.int .i64 addr,.int .i64 at',.int .u64 word,.int .u64 found]),e1,e2]=>(match eI 2 [e1,e2]with
   | some (l,s)=>some ((t1=t∧n1=n)∧l=s.xs.length,⟨d,⟨addr,at',word,found⟩,s⟩)
   | none=>none)
 | _,_=>none
def P8(t n:Int)(v:AVal)(g:aD Ob):Option (Prop×ClO):=VV t n v g
theorem Q2{t n:Int} :dL (obI tbl) 3 (VV t n) (ClO.fin t n):=by
 intro v g p x hp hq K hK
 unfold VV at hp
 split at hp
 case h_2=>cases hp
 rename_i d t1 n1 addr at' word found e1 e2
 split at hp
 case h_2=>cases hp
 rename_i l s hm
 simp only [sI',pI']at hp
 obtain⟨rfl,rfl⟩:=hp
 obtain⟨⟨rfl,rfl⟩,hl⟩:=hq
 have hh:=b8 hm hl
 cases hh
 refine wO hK (fun h=>?_) (fun h=>?_)
 ·exact⟨⟨_,_,aS.refl _ _ _,h⟩⟩
 ·exact⟨⟨_,_,(aS.pack (clH t1 n1 (⟨addr,at',word,found⟩:CLS) s) (.clear t1 n1 (⟨addr,at',word,found⟩:CLS)) 0 0 (mA t1 n1 (⟨addr,at',word,found⟩:CLS)) [] (by kernel_rfl) rfl (congrArg (Prod.mk 0) rfl) (by kernel_rfl)),h⟩⟩
theorem zK{t n:Int} :dL (obI tbl) 3 (P8 t n) (ClO.fin t n):=by
 intro v g p x hp hq K hK
 unfold P8 at hp
 exact Q2 v g p x hp hq K hK
def BJ(t n:Int)(x:CLS)(s:MS):Tr ClO:=.pre (lE' s.3∧(0:Int)≤s.4∧s.4≤(4611686018427387904:Int)) (.pre True (.ite (ilt (aA (aB s.3 x.1) 20 5 - 1) 0) (.pre ((t=t∧n=n)∧lE' s.3) (.ret {d:=true,x:= {addr:=x.1,at':=1,word:=aB s.3 x.1,found:=x.4},s:= {s with c:=s.4+1,k:=1,a:=x.1,o:=aB s.3 x.1,w:=aB s.3 x.1,ok:=bN s.3 x.1} })) (.pre ((t=t∧n=n)∧lE' s.3) (.ret {d:=ile t (aA (aB s.3 x.1) 20 5 - 1),x:= {addr:=x.1,at':=1,word:=aB s.3 x.1,found:=x.4},s:= {s with c:=s.4+1,k:=1,a:=x.1,o:=aB s.3 x.1,w:=aB s.3 x.1,ok:=bN s.3 x.1} }))))
theorem IR(t n:Int)(x:CLS)(s:MS)(K:ClO→Prop)(h:(BJ t n x s).run K):cT' 96 [.ptr 0 0,.ptr 1 0] [some (.cells [.int .i64 t,.int .i64 n,.int .i64 x.addr,.int .i64 0,.int .u64 x.word,.int .u64 x.found]),aZ 2 s,a9 s] (cX 3 0 [] [] (P8 t n) K):=by
 exact cM' (E:=EB3) (by kernel_rfl) h
def BK(t n:Int)(x:CLS)(s:MS):Tr ClO:=.pre True (.pre ((((0:Int)≤t∧t≤(100000:Int))∧((0:Int)≤n∧n≤(100000:Int))∧(-1099511627776:Int)≤aA x.3 20 5 - 1∧aA x.3 20 5 - (1:Int)≤(1099511627776:Int))∧True) (.pre ((lE' s.3∧(0:Int)≤s.4∧s.4≤(4611686018427387904:Int))∧True) (.pre True (.ite (hasB [2] (aA (aB s.3 (2*n+5+2*t+3*(aA x.3 20 5 - 1)+2)) 49 3)) (.ite (ieq (aA (aB s.3 (2*n+5+2*t+3*(aA x.3 20 5 - 1)+2)) 12 9) x.1) (.pre True (.ite (ieq (aA (aB s.3 (2*n+5+2*t+3*(aA x.3 20 5 - 1)+2)) 21 18) (aA x.3 25 18)) (.pre ((t=t∧n=n)∧lE' s.3) (.ret {d:=false,x:= {addr:=x.1,at':=2,word:=x.3,found:=aB s.3 (2*n+5+2*t+3*(aA x.3 20 5 - 1)+2) },s:= {s with c:=s.4+1,k:=1,a:=2*n+5+2*t+3*(aA x.3 20 5 - 1)+2,o:=aB s.3 (2*n+5+2*t+3*(aA x.3 20 5 - 1)+2),w:=aB s.3 (2*n+5+2*t+3*(aA x.3 20 5 - 1)+2),ok:=bN s.3 (2*n+5+2*t+3*(aA x.3 20 5 - 1)+2) } })) (.pre ((t=t∧n=n)∧lE' s.3) (.ret {d:=false,x:= {addr:=x.1,at':=3,word:=x.3,found:=aB s.3 (2*n+5+2*t+3*(aA x.3 20 5 - 1)+2) },s:= {s with c:=s.4+1,k:=1,a:=2*n+5+2*t+3*(aA x.3 20 5 - 1)+2,o:=aB s.3 (2*n+5+2*t+3*(aA x.3 20 5 - 1)+2),w:=aB s.3 (2*n+5+2*t+3*(aA x.3 20 5 - 1)+2),ok:=bN s.3 (2*n+5+2*t+3*(aA x.3 20 5 - 1)+2) } })))) (.pre ((t=t∧n=n)∧lE' s.3) (.ret {d:=false,x:= {addr:=x.1,at':=3,word:=x.3,found:=aB s.3 (2*n+5+2*t+3*(aA x.3 20 5 - 1)+2) },s:= {s with c:=s.4+1,k:=1,a:=2*n+5+2*t+3*(aA x.3 20 5 - 1)+2,o:=aB s.3 (2*n+5+2*t+3*(aA x.3 20 5 - 1)+2),w:=aB s.3 (2*n+5+2*t+3*(aA x.3 20 5 - 1)+2),ok:=bN s.3 (2*n+5+2*t+3*(aA x.3 20 5 - 1)+2) } }))) (.pre ((t=t∧n=n)∧lE' s.3) (.ret {d:=false,x:= {addr:=x.1,at':=3,word:=x.3,found:=aB s.3 (2*n+5+2*t+3*(aA x.3 20 5 - 1)+2) },s:= {s with c:=s.4+1,k:=1,a:=2*n+5+2*t+3*(aA x.3 20 5 - 1)+2,o:=aB s.3 (2*n+5+2*t+3*(aA x.3 20 5 - 1)+2),w:=aB s.3 (2*n+5+2*t+3*(aA x.3 20 5 - 1)+2),ok:=bN s.3 (2*n+5+2*t+3*(aA x.3 20 5 - 1)+2) } }))))))
theorem IS(t n:Int)(x:CLS)(s:MS)(K:ClO→Prop)(h:(BK t n x s).run K):cT' 96 [.ptr 0 0,.ptr 1 0] [some (.cells [.int .i64 t,.int .i64 n,.int .i64 x.addr,.int .i64 1,.int .u64 x.word,.int .u64 x.found]),aZ 2 s,a9 s] (cX 3 0 [] [] (P8 t n) K):=by
 exact cM' (E:=EB3) (by kernel_rfl) h
def BL(t n:Int)(x:CLS)(s:MS):Tr ClO:=.pre True (.pre True (.pre True (.pre True (.pre ((((0:Int)≤t∧t≤(100000:Int))∧((0:Int)≤n∧n≤(100000:Int))∧(-1099511627776:Int)≤aA x.3 20 5 - 1∧aA x.3 20 5 - (1:Int)≤(1099511627776:Int))∧True) (.pre ((lE' s.3∧(0:Int)≤s.4∧s.4≤(4611686018427387904:Int))∧True) (.pre ((t=t∧n=n)∧lE' (bif aU s.3 (2*n+5+2*t+3*(aA x.3 20 5 - 1)+2) x.4 then aJ s.3 (2*n+5+2*t+3*(aA x.3 20 5 - 1)+2) (bif dOk (aA x.4 0 12) (aA x.4 12 9) (aA x.4 21 18) (aA x.4 39 9) 3 (aA x.4 52 10)then bA (aA x.4 0 12) (aA x.4 12 9) (aA x.4 21 18) (aA x.4 39 9) (ieq (aA x.4 48 1) 1) 3 (aA x.4 52 10)else 0)else s.3)) (.ret {d:=false,x:= {x with at':=3},s:= {t:=s.1,n:=s.2,xs:=bif aU s.3 (2*n+5+2*t+3*(aA x.3 20 5 - 1)+2) x.4 then aJ s.3 (2*n+5+2*t+3*(aA x.3 20 5 - 1)+2) (bif dOk (aA x.4 0 12) (aA x.4 12 9) (aA x.4 21 18) (aA x.4 39 9) 3 (aA x.4 52 10)then bA (aA x.4 0 12) (aA x.4 12 9) (aA x.4 21 18) (aA x.4 39 9) (ieq (aA x.4 48 1) 1) 3 (aA x.4 52 10)else 0)else s.3,c:=s.4+1,k:=3,a:=2*n+5+2*t+3*(aA x.3 20 5 - 1)+2,o:=aB s.3 (2*n+5+2*t+3*(aA x.3 20 5 - 1)+2),w:=bif bN s.3 (2*n+5+2*t+3*(aA x.3 20 5 - 1)+2)then bif dOk (aA x.4 0 12) (aA x.4 12 9) (aA x.4 21 18) (aA x.4 39 9) 3 (aA x.4 52 10)then bA (aA x.4 0 12) (aA x.4 12 9) (aA x.4 21 18) (aA x.4 39 9) (ieq (aA x.4 48 1) 1) 3 (aA x.4 52 10)else 0 else 0,ok:=aU s.3 (2*n+5+2*t+3*(aA x.3 20 5 - 1)+2) x.4} })))))))
theorem IT(t n:Int)(x:CLS)(s:MS)(K:ClO→Prop)(h:(BL t n x s).run K):cT' 96 [.ptr 0 0,.ptr 1 0] [some (.cells [.int .i64 t,.int .i64 n,.int .i64 x.addr,.int .i64 2,.int .u64 x.word,.int .u64 x.found]),aZ 2 s,a9 s] (cX 3 0 [] [] (P8 t n) K):=by
 exact cM' (E:=EB3) (by kernel_rfl) h
def BM(t n:Int)(x:CLS)(s:MS):Tr ClO:=.pre True (.pre ((0:Int)≤aA x.3 25 18∧aA x.3 25 (18:Int)≤(1000000:Int)) (.pre True (.pre ((lE' s.3∧(0:Int)≤s.4∧s.4≤(4611686018427387904:Int))∧True) (.pre ((t=t∧n=n)∧lE' (bif aU s.3 x.1 x.3 then aJ s.3 x.1 (bif bif aI (aA x.3 0 10) 10 then bif aI (aA x.3 10 9) 9 then bif aI 0 5 then aI (aP (aA x.3 25 18)) 18 else false else false else false then aV (aA x.3 0 10) (aA x.3 10 9) (ieq (aA x.3 19 1) 1) 0 (aP (aA x.3 25 18))else 0)else s.3)) (.ret {d:=true,x:= {x with at':=3},s:= {t:=s.1,n:=s.2,xs:=bif aU s.3 x.1 x.3 then aJ s.3 x.1 (bif bif aI (aA x.3 0 10) 10 then bif aI (aA x.3 10 9) 9 then bif aI 0 5 then aI (aP (aA x.3 25 18)) 18 else false else false else false then aV (aA x.3 0 10) (aA x.3 10 9) (ieq (aA x.3 19 1) 1) 0 (aP (aA x.3 25 18))else 0)else s.3,c:=s.4+1,k:=3,a:=x.1,o:=aB s.3 x.1,w:=bif bN s.3 x.1 then bif bif aI (aA x.3 0 10) 10 then bif aI (aA x.3 10 9) 9 then bif aI 0 5 then aI (aP (aA x.3 25 18)) 18 else false else false else false then aV (aA x.3 0 10) (aA x.3 10 9) (ieq (aA x.3 19 1) 1) 0 (aP (aA x.3 25 18))else 0 else 0,ok:=aU s.3 x.1 x.3} })))))
theorem IU(t n:Int)(x:CLS)(s:MS)(K:ClO→Prop)(h:(BM t n x s).run K):cT' 96 [.ptr 0 0,.ptr 1 0] [some (.cells [.int .i64 t,.int .i64 n,.int .i64 x.addr,.int .i64 3,.int .u64 x.word,.int .u64 x.found]),aZ 2 s,a9 s] (cX 3 0 [] [] (P8 t n) K):=by
 exact cM' (E:=EB3) (by kernel_rfl) h
def ZJ(t n:Int)(x:CLS)(s:MS):Tr ClO:=
 bif ieq x.at' 0 then BJ t n x s else
 bif ieq x.at' 1 then BK t n x s else
 bif ieq x.at' 2 then BL t n x s else
 bif ieq x.at' 3 then BM t n x s else .pre False (.ret default)
def gE(t n:Int)(x:CLS)(s:MS):ClO:=(ZJ t n x s).val
def Q1(t n:Int)(x:CLS)(s:MS):Prop:=(ZJ t n x s).ok
theorem Q3(t n:Int)(x:CLS)(s:MS)(K:AVal→aD Ob→Prop)(h:(ZJ t n x s).run (fun y=>(ClO.fin t n y).run K)):cT' 96 [.ptr 0 0,.ptr 1 0] (clH t n x s) K:=by
 unfold ZJ at h
 by_cases e:x.at'=0
 ·rw [e]at h
  have h:(BJ t n x s).run _:=h
  refine aCv (root:=0) (pos:=[]) (cs:=[]) (parse:=P8 t n) (fin:=ClO.fin t n) zK (cB.unpack (.clear t n x) 0 0 (mA t n x) [] rfl (congrArg (Prod.mk 0) rfl) (by kernel_rfl) rfl) ?_
  have q:=IR t n x s _ h
  rw [←e]at q
  exact q
 rw [dB e]at h
 by_cases e:x.at'=1
 ·rw [e]at h
  have h:(BK t n x s).run _:=h
  refine aCv (root:=0) (pos:=[]) (cs:=[]) (parse:=P8 t n) (fin:=ClO.fin t n) zK (cB.unpack (.clear t n x) 0 0 (mA t n x) [] rfl (congrArg (Prod.mk 0) rfl) (by kernel_rfl) rfl) ?_
  have q:=IS t n x s _ h
  rw [←e]at q
  exact q
 rw [dB e]at h
 by_cases e:x.at'=2
 ·rw [e]at h
  have h:(BL t n x s).run _:=h
  refine aCv (root:=0) (pos:=[]) (cs:=[]) (parse:=P8 t n) (fin:=ClO.fin t n) zK (cB.unpack (.clear t n x) 0 0 (mA t n x) [] rfl (congrArg (Prod.mk 0) rfl) (by kernel_rfl) rfl) ?_
  have q:=IT t n x s _ h
  rw [←e]at q
  exact q
 rw [dB e]at h
 by_cases e:x.at'=3
 ·rw [e]at h
  have h:(BM t n x s).run _:=h
  refine aCv (root:=0) (pos:=[]) (cs:=[]) (parse:=P8 t n) (fin:=ClO.fin t n) zK (cB.unpack (.clear t n x) 0 0 (mA t n x) [] rfl (congrArg (Prod.mk 0) rfl) (by kernel_rfl) rfl) ?_
  have q:=IU t n x s _ h
  rw [←e]at q
  exact q
 rw [dB e]at h
 exact h.1.elim
noncomputable def clS:aM Ob:=fun args h=>match args,h with
 | [.ptr 0 0,.ptr 1 0],[some (.abs (.clear t n x) []),e1,e2]=>(match eI 2 [e1,e2]with
   | some (l,s)=>some (.pre (l=s.xs.length∧Q1 t n x s) (ClO.fin t n (gE t n x s)))
   | none=>none)
 | _,_=>none
theorem Z2:sT' 96 clS:=by
 intro args h o ho K hK
 unfold clS at ho
 split at ho
 case h_2=>cases ho
 split at ho<;>cases ho
 rename_i hm
 obtain⟨⟨hl,ok⟩,hK⟩:=hK
 have hh:=b8 hm hl
 cases hh
 exact Q3 _ _ _ _ K (aCF ok hK)
def VR(t n:Int)(v:AVal)(g:aD Ob):Option (Prop×CLS):=match v,g with
 | .ptr 0 0,[some (.cells [.int .i64 t1,.int .i64 n1,.int .i64 addr,.int .i64 at',.int .u64 word,.int .u64 found])]=>some ((t1=t∧n1=n),(⟨addr,at',word,found⟩:CLS))
 | _,_=>none
abbrev QZ(t n:Int)(y:CLS):aD Ob:=[some (.abs (.clear t n y) [])]
theorem Q0{t n:Int} :dL (obI tbl) 0 (VR t n) (fun y=>.ret (.ptr 0 0) (QZ t n y)):=by
 intro v g p x hp hq K hK
 unfold VR at hp
 split at hp
 case h_2=>cases hp
 rename_i t1 n1 addr at' word found
 simp only [sI',pI']at hp
 obtain⟨rfl,rfl⟩:=hp
 obtain⟨rfl,rfl⟩:=hq
 exact⟨⟨_,_,aS.pack (QZ t1 n1 (⟨addr,at',word,found⟩:CLS)) (.clear t1 n1 (⟨addr,at',word,found⟩:CLS)) 0 0 (mA t1 n1 (⟨addr,at',word,found⟩:CLS)) [] (by kernel_rfl) rfl (congrArg (Prod.mk 0) rfl) (by kernel_rfl),hK⟩⟩
def VT(t n:Int)(a:Int):Tr CLS:=.pre (t=t∧n=n) (.ret {addr:=a,at':=0,word:=0,found:=0})
def D4(t n:Int)(a:Int):CLS:=(VT t n a).val
def vA(t n:Int)(a:Int):Prop:=(VT t n a).ok
def clNS:aM Ob:=fun args h=>match args,h with
 | [.agg [.int .i64 t,.int .i64 n],.int .i64 a],[]=>some (.pre (vA t n a) (.ret (.ptr 0 0) (QZ t n (D4 t n a))))
 | _,_=>none
theorem VU:sT' 159 clNS:=by
 intro args h o ho K hK
 unfold clNS at ho
 split at ho<;>cases ho
 rename_i t n a
 obtain⟨ok,hK⟩:=hK
 refine aCH (root:=0) (pos:=[]) (cs:=[]) (parse:=VR t n) Q0 ?_
 exact cM' (E:=EB3) (q:=(VT t n a).run (fun y=>(Out.ret (.ptr 0 0) (QZ t n y)).run K)) (by kernel_rfl) (aCF ok hK)
noncomputable def EC1:=((EB3.addS 96 clS Z2).addS 159 clNS VU)
noncomputable def EQ1:=((EC1))
noncomputable def EQ2:=EQ1
noncomputable def EQ:=EQ2
structure HdO where
 d:Bool
 x:HDS
 s:MS
instance:Inhabited HdO:=⟨⟨false,⟨0,0,0,false⟩,⟨0,0,[],0,0,0,0,0,false⟩⟩⟩
instance:Inhabited HDS:=⟨⟨0,0,0,false⟩⟩
abbrev hdH(t n:Int)(x:HDS)(s:MS):aD Ob:=[some (.abs (.head t n x) []),aZ 2 s,a9 s]
abbrev hdD(t n:Int)(x:HDS)(s:MS):aD Ob:=[some (.cells [.int .i64 t,.int .i64 n,.int .i64 x.u,.int .u64 x.no,.int .i64 x.at',.bool x.tk]),aZ 2 s,a9 s]
def HdO.fin(t n:Int)(y:HdO):Out Ob:=.ite y.d (.ret (.bool true) (hdD t n y.x y.s)) (.ret (.bool false) (hdH t n y.x y.s))
noncomputable def EC2:=((EQ))
structure DrO where
 d:Bool
 x:DRS
 s:MS
instance:Inhabited DrO:=⟨⟨false,⟨0,0⟩,⟨0,0,[],0,0,0,0,0,false⟩⟩⟩
instance:Inhabited DRS:=⟨⟨0,0⟩⟩
abbrev drH(t n:Int)(x:DRS)(s:MS):aD Ob:=[some (.abs (.drop t n x) []),aZ 2 s,a9 s]
abbrev drD(t n:Int)(x:DRS)(s:MS):aD Ob:=[some (.cells [.int .i64 t,.int .i64 n,.int .i64 x.th,.int .i64 x.at']),aZ 2 s,a9 s]
def DrO.fin(t n:Int)(y:DrO):Out Ob:=.ite y.d (.ret (.bool true) (drD t n y.x y.s)) (.ret (.bool false) (drH t n y.x y.s))
noncomputable def EC3:=((EC2))
structure AnO where
 d:Bool
 x:ANS
 s:MS
instance:Inhabited AnO:=⟨⟨false,⟨0,0,0,0,false,0⟩,⟨0,0,[],0,0,0,0,0,false⟩⟩⟩
instance:Inhabited ANS:=⟨⟨0,0,0,0,false,0⟩⟩
abbrev anH(t n:Int)(x:ANS)(s:MS):aD Ob:=[some (.abs (.announce t n x) []),aZ 2 s,a9 s]
abbrev anD(t n:Int)(x:ANS)(s:MS):aD Ob:=[some (.cells [.int .i64 t,.int .i64 n,.int .u64 x.no,.int .i64 x.me,.int .i64 x.at',.int .u64 x.bits,.bool x.wrong,.int .u64 x.found]),aZ 2 s,a9 s]
def AnO.fin(t n:Int)(y:AnO):Out Ob:=.ite y.d (.ret (.bool true) (anD t n y.x y.s)) (.ret (.bool false) (anH t n y.x y.s))
def VH(t n:Int)(v:AVal)(g:aD Ob):Option (Prop×AnO):=match v,g with
 | .bool d,[some (.cells [.int .i64 t1,.int .i64 n1,.int .u64 no,.int .i64 me,.int .i64 at',.int .u64 bits,.bool wrong,.int .u64 found]),e1,e2]=>(match eI 2 [e1,e2]with
   | some (l,s)=>some ((t1=t∧n1=n)∧l=s.xs.length,⟨d,⟨no,me,at',bits,wrong,found⟩,s⟩)
   | none=>none)
 | _,_=>none
def K5(t n:Int)(v:AVal)(g:aD Ob):Option (Prop×AnO):=VH t n v g
theorem QJ{t n:Int} :dL (obI tbl) 3 (VH t n) (AnO.fin t n):=by
 intro v g p x hp hq K hK
 unfold VH at hp
 split at hp
 case h_2=>cases hp
 rename_i d t1 n1 no me at' bits wrong found e1 e2
 split at hp
 case h_2=>cases hp
 rename_i l s hm
 simp only [sI',pI']at hp
 obtain⟨rfl,rfl⟩:=hp
 obtain⟨⟨rfl,rfl⟩,hl⟩:=hq
 have hh:=b8 hm hl
 cases hh
 refine wO hK (fun h=>?_) (fun h=>?_)
 ·exact⟨⟨_,_,aS.refl _ _ _,h⟩⟩
 ·exact⟨⟨_,_,(aS.pack (anH t1 n1 (⟨no,me,at',bits,wrong,found⟩:ANS) s) (.announce t1 n1 (⟨no,me,at',bits,wrong,found⟩:ANS)) 0 0 (fI t1 n1 (⟨no,me,at',bits,wrong,found⟩:ANS)) [] (by kernel_rfl) rfl (congrArg (Prod.mk 0) rfl) (by kernel_rfl)),h⟩⟩
theorem u2{t n:Int} :dL (obI tbl) 3 (K5 t n) (AnO.fin t n):=by
 intro v g p x hp hq K hK
 unfold K5 at hp
 exact QJ v g p x hp hq K hK
def A8(t n:Int)(x:ANS)(s:MS):Tr AnO:=.ite x.5 (.pre (lE' s.3∧(0:Int)≤s.4∧s.4≤(4611686018427387904:Int)) (.pre ((t=t∧n=n)∧lE' s.3) (.ret {d:=true,x:= {x with at':=0},s:= {s with c:=s.4+1,k:=1,a:=0,o:=aB s.3 0,w:=aB s.3 0,ok:=bN s.3 0} }))) (.pre ((((0:Int)≤t∧t≤(100000:Int))∧((0:Int)≤n∧n≤(100000:Int))∧(-1099511627776:Int)≤x.2∧x.2≤(1099511627776:Int))∧True) (.pre ((lE' s.3∧(0:Int)≤s.4∧s.4≤(4611686018427387904:Int))∧True) (.pre ((t=t∧n=n)∧lE' (aJ s.3 (2*n+5+2*t+3*x.2+1) x.4)) (.ret {d:=false,x:= {x with at':=W (0+1)},s:= {t:=s.1,n:=s.2,xs:=aJ s.3 (2*n+5+2*t+3*x.2+1) x.4,c:=s.4+1,k:=2,a:=2*n+5+2*t+3*x.2+1,o:=aB s.3 (2*n+5+2*t+3*x.2+1),w:=bif bN s.3 (2*n+5+2*t+3*x.2+1)then x.4 else 0,ok:=bN s.3 (2*n+5+2*t+3*x.2+1) } }))))
theorem IH(t n:Int)(x:ANS)(s:MS)(K:AnO→Prop)(h:(A8 t n x s).run K):cT' 190 [.ptr 0 0,.ptr 1 0] [some (.cells [.int .i64 t,.int .i64 n,.int .u64 x.no,.int .i64 x.me,.int .i64 0,.int .u64 x.bits,.bool x.wrong,.int .u64 x.found]),aZ 2 s,a9 s] (cX 3 0 [] [] (K5 t n) K):=by
 exact cM' (E:=EC3) (by kernel_rfl) h
def A9(t n:Int)(x:ANS)(s:MS):Tr AnO:=.ite x.5 (.pre (lE' s.3∧(0:Int)≤s.4∧s.4≤(4611686018427387904:Int)) (.pre ((t=t∧n=n)∧lE' s.3) (.ret {d:=true,x:= {x with at':=1},s:= {s with c:=s.4+1,k:=1,a:=0,o:=aB s.3 0,w:=aB s.3 0,ok:=bN s.3 0} }))) (.pre (((0:Int)≤t∧t≤(100000:Int))∧(0:Int)≤n∧n≤(100000:Int)) (.pre (lE' s.3∧(0:Int)≤s.4∧s.4≤(4611686018427387904:Int)) (.pre ((t=t∧n=n)∧lE' (aJ s.3 (2*n+5+2*t+3*t) (WU (aB s.3 (2*n+5+2*t+3*t)+1)))) (.ret {d:=false,x:= {x with no:=WU (aB s.3 (2*n+5+2*t+3*t)+1),at':=W (1+1)},s:= {t:=s.1,n:=s.2,xs:=aJ s.3 (2*n+5+2*t+3*t) (WU (aB s.3 (2*n+5+2*t+3*t)+1)),c:=s.4+1,k:=4,a:=2*n+5+2*t+3*t,o:=aB s.3 (2*n+5+2*t+3*t),w:=bif bN s.3 (2*n+5+2*t+3*t)then WU (aB s.3 (2*n+5+2*t+3*t)+1)else 0,ok:=bN s.3 (2*n+5+2*t+3*t) } }))))
theorem II(t n:Int)(x:ANS)(s:MS)(K:AnO→Prop)(h:(A9 t n x s).run K):cT' 190 [.ptr 0 0,.ptr 1 0] [some (.cells [.int .i64 t,.int .i64 n,.int .u64 x.no,.int .i64 x.me,.int .i64 1,.int .u64 x.bits,.bool x.wrong,.int .u64 x.found]),aZ 2 s,a9 s] (cX 3 0 [] [] (K5 t n) K):=by
 exact cM' (E:=EC3) (by kernel_rfl) h
def BA(t n:Int)(x:ANS)(s:MS):Tr AnO:=.ite x.5 (.pre (lE' s.3∧(0:Int)≤s.4∧s.4≤(4611686018427387904:Int)) (.pre ((t=t∧n=n)∧lE' s.3) (.ret {d:=true,x:= {x with at':=2},s:= {s with c:=s.4+1,k:=1,a:=0,o:=aB s.3 0,w:=aB s.3 0,ok:=bN s.3 0} }))) (.pre ((((0:Int)≤t∧t≤(100000:Int))∧((0:Int)≤n∧n≤(100000:Int))∧(-1099511627776:Int)≤x.2∧x.2≤(1099511627776:Int))∧True) (.pre ((lE' s.3∧(0:Int)≤s.4∧s.4≤(4611686018427387904:Int))∧True) (.pre ((t=t∧n=n)∧lE' (aJ s.3 (2*n+5+2*t+3*x.2) x.1)) (.ret {d:=false,x:= {x with at':=W (2+1)},s:= {t:=s.1,n:=s.2,xs:=aJ s.3 (2*n+5+2*t+3*x.2) x.1,c:=s.4+1,k:=2,a:=2*n+5+2*t+3*x.2,o:=aB s.3 (2*n+5+2*t+3*x.2),w:=bif bN s.3 (2*n+5+2*t+3*x.2)then x.1 else 0,ok:=bN s.3 (2*n+5+2*t+3*x.2) } }))))
theorem IJ(t n:Int)(x:ANS)(s:MS)(K:AnO→Prop)(h:(BA t n x s).run K):cT' 190 [.ptr 0 0,.ptr 1 0] [some (.cells [.int .i64 t,.int .i64 n,.int .u64 x.no,.int .i64 x.me,.int .i64 2,.int .u64 x.bits,.bool x.wrong,.int .u64 x.found]),aZ 2 s,a9 s] (cX 3 0 [] [] (K5 t n) K):=by
 exact cM' (E:=EC3) (by kernel_rfl) h
def BB(t n:Int)(x:ANS)(s:MS):Tr AnO:=.ite x.5 (.pre (lE' s.3∧(0:Int)≤s.4∧s.4≤(4611686018427387904:Int)) (.pre ((t=t∧n=n)∧lE' s.3) (.ret {d:=true,x:= {x with at':=3},s:= {s with c:=s.4+1,k:=1,a:=0,o:=aB s.3 0,w:=aB s.3 0,ok:=bN s.3 0} }))) (.pre ((((0:Int)≤t∧t≤(100000:Int))∧((0:Int)≤n∧n≤(100000:Int))∧(-1099511627776:Int)≤x.2∧x.2≤(1099511627776:Int))∧True) (.pre ((lE' s.3∧(0:Int)≤s.4∧s.4≤(4611686018427387904:Int))∧True) (.pre ((t=t∧n=n)∧lE' s.3) (.ret {d:=false,x:= {x with at':=W (3+1),found:=aB s.3 (2*n+5+2*t+3*x.2+2) },s:= {s with c:=s.4+1,k:=1,a:=2*n+5+2*t+3*x.2+2,o:=aB s.3 (2*n+5+2*t+3*x.2+2),w:=aB s.3 (2*n+5+2*t+3*x.2+2),ok:=bN s.3 (2*n+5+2*t+3*x.2+2) } }))))
theorem IK(t n:Int)(x:ANS)(s:MS)(K:AnO→Prop)(h:(BB t n x s).run K):cT' 190 [.ptr 0 0,.ptr 1 0] [some (.cells [.int .i64 t,.int .i64 n,.int .u64 x.no,.int .i64 x.me,.int .i64 3,.int .u64 x.bits,.bool x.wrong,.int .u64 x.found]),aZ 2 s,a9 s] (cX 3 0 [] [] (K5 t n) K):=by
 exact cM' (E:=EC3) (by kernel_rfl) h
def u3(t n:Int)(x:ANS)(s:MS):Tr AnO:=.ite x.5 (.pre (lE' s.3∧(0:Int)≤s.4∧s.4≤(4611686018427387904:Int)) (.pre ((t=t∧n=n)∧lE' s.3) (.ret {d:=true,x:= {x with at':=4},s:= {s with c:=s.4+1,k:=1,a:=0,o:=aB s.3 0,w:=aB s.3 0,ok:=bN s.3 0} }))) (.pre True (.pre ((0:Int)≤aA x.6 0 12∧aA x.6 0 (12:Int)≤(1000000:Int)) (.pre True (.pre ((((0:Int)≤t∧t≤(100000:Int))∧((0:Int)≤n∧n≤(100000:Int))∧(-1099511627776:Int)≤x.2∧x.2≤(1099511627776:Int))∧True) (.pre ((lE' s.3∧(0:Int)≤s.4∧s.4≤(4611686018427387904:Int))∧True) (.pre ((t=t∧n=n)∧lE' (aJ s.3 (2*n+5+2*t+3*x.2+2) (bif dOk (eU (aA x.6 0 12)) 0 0 0 1 0 then bA (eU (aA x.6 0 12)) 0 0 0 false 1 0 else 0))) (.ret {d:=true,x:= {x with at':=W (4+1)},s:= {t:=s.1,n:=s.2,xs:=aJ s.3 (2*n+5+2*t+3*x.2+2) (bif dOk (eU (aA x.6 0 12)) 0 0 0 1 0 then bA (eU (aA x.6 0 12)) 0 0 0 false 1 0 else 0),c:=s.4+1,k:=2,a:=2*n+5+2*t+3*x.2+2,o:=aB s.3 (2*n+5+2*t+3*x.2+2),w:=bif bN s.3 (2*n+5+2*t+3*x.2+2)then bif dOk (eU (aA x.6 0 12)) 0 0 0 1 0 then bA (eU (aA x.6 0 12)) 0 0 0 false 1 0 else 0 else 0,ok:=bN s.3 (2*n+5+2*t+3*x.2+2) } })))))))
theorem IL(t n:Int)(x:ANS)(s:MS)(K:AnO→Prop)(h:(u3 t n x s).run K):cT' 190 [.ptr 0 0,.ptr 1 0] [some (.cells [.int .i64 t,.int .i64 n,.int .u64 x.no,.int .i64 x.me,.int .i64 4,.int .u64 x.bits,.bool x.wrong,.int .u64 x.found]),aZ 2 s,a9 s] (cX 3 0 [] [] (K5 t n) K):=by
 exact cM' (E:=EC3) (by kernel_rfl) h
def LR(t n:Int)(x:ANS)(s:MS):Tr AnO:=
 bif ieq x.at' 0 then A8 t n x s else
 bif ieq x.at' 1 then A9 t n x s else
 bif ieq x.at' 2 then BA t n x s else
 bif ieq x.at' 3 then BB t n x s else
 bif ieq x.at' 4 then u3 t n x s else .pre False (.ret default)
def anF(t n:Int)(x:ANS)(s:MS):AnO:=(LR t n x s).val
def LQ(t n:Int)(x:ANS)(s:MS):Prop:=(LR t n x s).ok
theorem QM(t n:Int)(x:ANS)(s:MS)(K:AVal→aD Ob→Prop)(h:(LR t n x s).run (fun y=>(AnO.fin t n y).run K)):cT' 190 [.ptr 0 0,.ptr 1 0] (anH t n x s) K:=by
 unfold LR at h
 by_cases e:x.at'=0
 ·rw [e]at h
  have h:(A8 t n x s).run _:=h
  refine aCv (root:=0) (pos:=[]) (cs:=[]) (parse:=K5 t n) (fin:=AnO.fin t n) u2 (cB.unpack (.announce t n x) 0 0 (fI t n x) [] rfl (congrArg (Prod.mk 0) rfl) (by kernel_rfl) rfl) ?_
  have q:=IH t n x s _ h
  rw [←e]at q
  exact q
 rw [dB e]at h
 by_cases e:x.at'=1
 ·rw [e]at h
  have h:(A9 t n x s).run _:=h
  refine aCv (root:=0) (pos:=[]) (cs:=[]) (parse:=K5 t n) (fin:=AnO.fin t n) u2 (cB.unpack (.announce t n x) 0 0 (fI t n x) [] rfl (congrArg (Prod.mk 0) rfl) (by kernel_rfl) rfl) ?_
  have q:=II t n x s _ h
  rw [←e]at q
  exact q
 rw [dB e]at h
 by_cases e:x.at'=2
 ·rw [e]at h
  have h:(BA t n x s).run _:=h
  refine aCv (root:=0) (pos:=[]) (cs:=[]) (parse:=K5 t n) (fin:=AnO.fin t n) u2 (cB.unpack (.announce t n x) 0 0 (fI t n x) [] rfl (congrArg (Prod.mk 0) rfl) (by kernel_rfl) rfl) ?_
  have q:=IJ t n x s _ h
  rw [←e]at q
  exact q
 rw [dB e]at h
 by_cases e:x.at'=3
 ·rw [e]at h
  have h:(BB t n x s).run _:=h
  refine aCv (root:=0) (pos:=[]) (cs:=[]) (parse:=K5 t n) (fin:=AnO.fin t n) u2 (cB.unpack (.announce t n x) 0 0 (fI t n x) [] rfl (congrArg (Prod.mk 0) rfl) (by kernel_rfl) rfl) ?_
  have q:=IK t n x s _ h
  rw [←e]at q
  exact q
 rw [dB e]at h
 by_cases e:x.at'=4
 ·rw [e]at h
  have h:(u3 t n x s).run _:=h
  refine aCv (root:=0) (pos:=[]) (cs:=[]) (parse:=K5 t n) (fin:=AnO.fin t n) u2 (cB.unpack (.announce t n x) 0 0 (fI t n x) [] rfl (congrArg (Prod.mk 0) rfl) (by kernel_rfl) rfl) ?_
  have q:=IL t n x s _ h
  rw [←e]at q
  exact q
 rw [dB e]at h
 exact h.1.elim
noncomputable def anS:aM Ob:=fun args h=>match args,h with
 | [.ptr 0 0,.ptr 1 0],[some (.abs (.announce t n x) []),e1,e2]=>(match eI 2 [e1,e2]with
   | some (l,s)=>some (.pre (l=s.xs.length∧LQ t n x s) (AnO.fin t n (anF t n x s)))
   | none=>none)
 | _,_=>none
theorem ZU:sT' 190 anS:=by
 intro args h o ho K hK
 unfold anS at ho
 split at ho
 case h_2=>cases ho
 split at ho<;>cases ho
 rename_i hm
 obtain⟨⟨hl,ok⟩,hK⟩:=hK
 have hh:=b8 hm hl
 cases hh
 exact QM _ _ _ _ K (aCF ok hK)
def VF(t n:Int)(v:AVal)(g:aD Ob):Option (Prop×ANS):=match v,g with
 | .ptr 0 0,[some (.cells [.int .i64 t1,.int .i64 n1,.int .u64 no,.int .i64 me,.int .i64 at',.int .u64 bits,.bool wrong,.int .u64 found])]=>some ((t1=t∧n1=n),(⟨no,me,at',bits,wrong,found⟩:ANS))
 | _,_=>none
abbrev QF(t n:Int)(y:ANS):aD Ob:=[some (.abs (.announce t n y) [])]
theorem QG{t n:Int} :dL (obI tbl) 0 (VF t n) (fun y=>.ret (.ptr 0 0) (QF t n y)):=by
 intro v g p x hp hq K hK
 unfold VF at hp
 split at hp
 case h_2=>cases hp
 rename_i t1 n1 no me at' bits wrong found
 simp only [sI',pI']at hp
 obtain⟨rfl,rfl⟩:=hp
 obtain⟨rfl,rfl⟩:=hq
 exact⟨⟨_,_,aS.pack (QF t1 n1 (⟨no,me,at',bits,wrong,found⟩:ANS)) (.announce t1 n1 (⟨no,me,at',bits,wrong,found⟩:ANS)) 0 0 (fI t1 n1 (⟨no,me,at',bits,wrong,found⟩:ANS)) [] (by kernel_rfl) rfl (congrArg (Prod.mk 0) rfl) (by kernel_rfl),hK⟩⟩
def QH(t n:Int)(u sh kd ky:Int):Tr ANS:=.pre True (.pre (t=t∧n=n) (.ret {no:=0,me:=u,at':=0,bits:=bif b9 sh kd ky then tskV sh kd ky else 0,wrong:=!ieq (bif b9 sh kd ky then 0 else 1) 0,found:=0}))
def anNF(t n:Int)(u sh kd ky:Int):ANS:=(QH t n u sh kd ky).val
def GV(t n:Int)(u sh kd ky:Int):Prop:=(QH t n u sh kd ky).ok
def anNS:aM Ob:=fun args h=>match args,h with
 | [.agg [.int .i64 t,.int .i64 n],.int .i64 u,.agg [.int .i64 sh,.int .i64 kd,.int .i64 ky]],[]=>some (.pre (GV t n u sh kd ky) (.ret (.ptr 0 0) (QF t n (anNF t n u sh kd ky))))
 | _,_=>none
theorem VG:sT' 104 anNS:=by
 intro args h o ho K hK
 unfold anNS at ho
 split at ho<;>cases ho
 rename_i t n u sh kd ky
 obtain⟨ok,hK⟩:=hK
 refine aCH (root:=0) (pos:=[]) (cs:=[]) (parse:=VF t n) QG ?_
 exact cM' (E:=EC3) (q:=(QH t n u sh kd ky).run (fun y=>(Out.ret (.ptr 0 0) (QF t n y)).run K)) (by kernel_rfl) (aCF ok hK)
noncomputable def EC4:=((EC3.addS 190 anS ZU).addS 104 anNS VG)
structure AwO where
 d:Bool
 x:AWS
 s:MS
instance:Inhabited AwO:=⟨⟨false,⟨0,false,0,0⟩,⟨0,0,[],0,0,0,0,0,false⟩⟩⟩
instance:Inhabited AWS:=⟨⟨0,false,0,0⟩⟩
abbrev awH(t n:Int)(x:AWS)(s:MS):aD Ob:=[some (.abs (.answer t n x) []),aZ 2 s,a9 s]
abbrev awD(t n:Int)(x:AWS)(s:MS):aD Ob:=[some (.cells [.int .i64 t,.int .i64 n,.int .i64 x.code,.bool x.okk,.int .i64 x.val,.int .i64 x.me]),aZ 2 s,a9 s]
def AwO.fin(t n:Int)(y:AwO):Out Ob:=.ite y.d (.ret (.bool true) (awD t n y.x y.s)) (.ret (.bool false) (awH t n y.x y.s))
def VL(t n:Int)(v:AVal)(g:aD Ob):Option (Prop×AwO):=match v,g with
 | .bool d,[some (.cells [.int .i64 t1,.int .i64 n1,.int .i64 code,.bool okk,.int .i64 val,.int .i64 me]),e1,e2]=>(match eI 2 [e1,e2]with
   | some (l,s)=>some ((t1=t∧n1=n)∧l=s.xs.length,⟨d,⟨code,okk,val,me⟩,s⟩)
   | none=>none)
 | _,_=>none
def awP(t n:Int)(v:AVal)(g:aD Ob):Option (Prop×AwO):=VL t n v g
theorem QT{t n:Int} :dL (obI tbl) 3 (VL t n) (AwO.fin t n):=by
 intro v g p x hp hq K hK
 unfold VL at hp
 split at hp
 case h_2=>cases hp
 rename_i d t1 n1 code okk val me e1 e2
 split at hp
 case h_2=>cases hp
 rename_i l s hm
 simp only [sI',pI']at hp
 obtain⟨rfl,rfl⟩:=hp
 obtain⟨⟨rfl,rfl⟩,hl⟩:=hq
 have hh:=b8 hm hl
 cases hh
 refine wO hK (fun h=>?_) (fun h=>?_)
 ·exact⟨⟨_,_,aS.refl _ _ _,h⟩⟩
 ·exact⟨⟨_,_,(aS.pack (awH t1 n1 (⟨code,okk,val,me⟩:AWS) s) (.answer t1 n1 (⟨code,okk,val,me⟩:AWS)) 0 0 (qC t1 n1 (⟨code,okk,val,me⟩:AWS)) [] (by kernel_rfl) rfl (congrArg (Prod.mk 0) rfl) (by kernel_rfl)),h⟩⟩
theorem VM{t n:Int} :dL (obI tbl) 3 (awP t n) (AwO.fin t n):=by
 intro v g p x hp hq K hK
 unfold awP at hp
 exact QT v g p x hp hq K hK
def QU(t n:Int)(x:AWS)(s:MS):Tr AwO:=.pre ((((0:Int)≤t∧t≤(100000:Int))∧((0:Int)≤n∧n≤(100000:Int))∧(-1099511627776:Int)≤x.4∧x.4≤(1099511627776:Int))∧True) (.pre ((lE' s.3∧(0:Int)≤s.4∧s.4≤(4611686018427387904:Int))∧True) (.pre True (.pre True (.pre ((t=t∧n=n)∧lE' s.3) (.ret {d:=true,x:= {code:=resC (aA (aB s.3 (2*n+5+2*t+3*x.4+2)) 39 9) (aA (aB s.3 (2*n+5+2*t+3*x.4+2)) 49 3),okk:=O8 (aA (aB s.3 (2*n+5+2*t+3*x.4+2)) 39 9) (aA (aB s.3 (2*n+5+2*t+3*x.4+2)) 49 3) (ieq (aA (aB s.3 (2*n+5+2*t+3*x.4+2)) 48 1) 1),val:=O9 (aA (aB s.3 (2*n+5+2*t+3*x.4+2)) 39 9) (aA (aB s.3 (2*n+5+2*t+3*x.4+2)) 49 3) (aA (aB s.3 (2*n+5+2*t+3*x.4+2)) 52 10),me:=x.4},s:= {s with c:=s.4+1,k:=1,a:=2*n+5+2*t+3*x.4+2,o:=aB s.3 (2*n+5+2*t+3*x.4+2),w:=aB s.3 (2*n+5+2*t+3*x.4+2),ok:=bN s.3 (2*n+5+2*t+3*x.4+2) } })))))
theorem LV(t n:Int)(x:AWS)(s:MS)(K:AwO→Prop)(h:(QU t n x s).run K):cT' 48 [.ptr 0 0,.ptr 1 0] [some (.cells [.int .i64 t,.int .i64 n,.int .i64 x.code,.bool x.okk,.int .i64 x.val,.int .i64 x.me]),aZ 2 s,a9 s] (cX 3 0 [] [] (awP t n) K):=by
 exact cM' (E:=EC4) (by kernel_rfl) h
def ZI(t n:Int)(x:AWS)(s:MS):Tr AwO:=QU t n x s
def awF(t n:Int)(x:AWS)(s:MS):AwO:=(ZI t n x s).val
def awOk(t n:Int)(x:AWS)(s:MS):Prop:=(ZI t n x s).ok
theorem QV(t n:Int)(x:AWS)(s:MS)(K:AVal→aD Ob→Prop)(h:(ZI t n x s).run (fun y=>(AwO.fin t n y).run K)):cT' 48 [.ptr 0 0,.ptr 1 0] (awH t n x s) K:=by
 unfold ZI at h
 exact aCv (root:=0) (pos:=[]) (cs:=[]) (parse:=awP t n) (fin:=AwO.fin t n) VM (cB.unpack (.answer t n x) 0 0 (qC t n x) [] rfl (congrArg (Prod.mk 0) rfl) (by kernel_rfl) rfl) (LV t n x s _ h)
noncomputable def awS:aM Ob:=fun args h=>match args,h with
 | [.ptr 0 0,.ptr 1 0],[some (.abs (.answer t n x) []),e1,e2]=>(match eI 2 [e1,e2]with
   | some (l,s)=>some (.pre (l=s.xs.length∧awOk t n x s) (AwO.fin t n (awF t n x s)))
   | none=>none)
 | _,_=>none
theorem ZZ:sT' 48 awS:=by
 intro args h o ho K hK
 unfold awS at ho
 split at ho
 case h_2=>cases ho
 split at ho<;>cases ho
 rename_i hm
 obtain⟨⟨hl,ok⟩,hK⟩:=hK
 have hh:=b8 hm hl
 cases hh
 exact QV _ _ _ _ K (aCF ok hK)
def VI(t n:Int)(v:AVal)(g:aD Ob):Option (Prop×AWS):=match v,g with
 | .ptr 0 0,[some (.cells [.int .i64 t1,.int .i64 n1,.int .i64 code,.bool okk,.int .i64 val,.int .i64 me])]=>some ((t1=t∧n1=n),(⟨code,okk,val,me⟩:AWS))
 | _,_=>none
abbrev QR(t n:Int)(y:AWS):aD Ob:=[some (.abs (.answer t n y) [])]
theorem QS{t n:Int} :dL (obI tbl) 0 (VI t n) (fun y=>.ret (.ptr 0 0) (QR t n y)):=by
 intro v g p x hp hq K hK
 unfold VI at hp
 split at hp
 case h_2=>cases hp
 rename_i t1 n1 code okk val me
 simp only [sI',pI']at hp
 obtain⟨rfl,rfl⟩:=hp
 obtain⟨rfl,rfl⟩:=hq
 exact⟨⟨_,_,aS.pack (QR t1 n1 (⟨code,okk,val,me⟩:AWS)) (.answer t1 n1 (⟨code,okk,val,me⟩:AWS)) 0 0 (qC t1 n1 (⟨code,okk,val,me⟩:AWS)) [] (by kernel_rfl) rfl (congrArg (Prod.mk 0) rfl) (by kernel_rfl),hK⟩⟩
def VJ(t n:Int)(u:Int):Tr AWS:=.pre (t=t∧n=n) (.ret {code:=0,okk:=false,val:=0,me:=u})
def awNF(t n:Int)(u:Int):AWS:=(VJ t n u).val
def LU(t n:Int)(u:Int):Prop:=(VJ t n u).ok
def awNS:aM Ob:=fun args h=>match args,h with
 | [.agg [.int .i64 t,.int .i64 n],.int .i64 u],[]=>some (.pre (LU t n u) (.ret (.ptr 0 0) (QR t n (awNF t n u))))
 | _,_=>none
theorem VK:sT' 47 awNS:=by
 intro args h o ho K hK
 unfold awNS at ho
 split at ho<;>cases ho
 rename_i t n u
 obtain⟨ok,hK⟩:=hK
 refine aCH (root:=0) (pos:=[]) (cs:=[]) (parse:=VI t n) QS ?_
 exact cM' (E:=EC4) (q:=(VJ t n u).run (fun y=>(Out.ret (.ptr 0 0) (QR t n y)).run K)) (by kernel_rfl) (aCF ok hK)
noncomputable def EC5:=((EC4.addS 48 awS ZZ).addS 47 awNS VK)
def GK:bU Ob:=fun args h=>match args,h with
 | [.ptr 0 0],[some (.cells [.int .i64 t,.int .i64 n,.int .i64 pop,.int .i64 gave,.int .i64 u,.int .i64 sh,.int .i64 kd,.int .i64 ky,.bool only,.int .i64 att,.int .i64 at',.int .u64 found,.int .u64 word])]=>some (True,.agg [.int .i64 (aA found 0 12),.int .i64 (aA found 12 9),.int .i64 (aA found 21 18),.int .i64 (aA found 39 9),.bool (ieq (aA found 48 1) 1),.int .i64 (aA found 49 3),.int .i64 (aA found 52 10)])
 | _,_=>none
theorem P2:sT' 208 GK.spec:=by
 intro args h o ho K hK
 unfold bU.spec GK at ho
 split at ho
 case h_2=>cases ho
 rename_i p v hp
 split at hp
 case h_2=>cases hp
 rename_i t n pop gave u sh kd ky only att at' found word
 simp only [sI',pI']at hp
 obtain⟨rfl,rfl⟩:=hp
 simp only [sI']at ho;subst ho
 obtain⟨hp,hK⟩:=hK
 have hK:K (.agg [.int .i64 (aA found 0 12),.int .i64 (aA found 12 9),.int .i64 (aA found 21 18),.int .i64 (aA found 39 9),.bool (ieq (aA found 48 1) 1),.int .i64 (aA found 49 3),.int .i64 (aA found 52 10)]) [some (.cells [.int .i64 t,.int .i64 n,.int .i64 pop,.int .i64 gave,.int .i64 u,.int .i64 sh,.int .i64 kd,.int .i64 ky,.bool only,.int .i64 att,.int .i64 at',.int .u64 found,.int .u64 word])]:=hK
 refine aCu (cM' (E:=EC5) (q:=True∧K (.agg [.int .i64 (aA found 0 12),.int .i64 (aA found 12 9),.int .i64 (aA found 21 18),.int .i64 (aA found 39 9),.bool (ieq (aA found 48 1) 1),.int .i64 (aA found 49 3),.int .i64 (aA found 52 10)]) [some (.cells [.int .i64 t,.int .i64 n,.int .i64 pop,.int .i64 gave,.int .i64 u,.int .i64 sh,.int .i64 kd,.int .i64 ky,.bool only,.int .i64 att,.int .i64 at',.int .u64 found,.int .u64 word])]) (by kernel_rfl) ?_)
 exact⟨trivial,hK⟩
noncomputable def EX1:=EC5.addR 208 GK P2
def P3(t n pop gave u sh kd ky:Int)(only:Bool)(att at' found word:Int)(k y:Int)(m:Bool)(c v:Int)(s:MS):Out Ob:=.pre True (.pre True (.pre ((lE' s.3∧(0:Int)≤s.4∧s.4≤(4611686018427387904:Int))∧True) (.ret (.bool (aU s.3 (aA found 12 9) word)) [some (.cells [.int .i64 t,.int .i64 n,.int .i64 pop,.int .i64 gave,.int .i64 u,.int .i64 sh,.int .i64 kd,.int .i64 ky,.bool only,.int .i64 att,.int .i64 at',.int .u64 found,.int .u64 word]),some (.cells [.int .i64 s.1,.int .i64 s.2,.slice 2 0 (List.length (bif aU s.3 (aA found 12 9) word then aJ s.3 (aA found 12 9) (bif bif aI k 10 then bif aI y 9 then bif aI c 5 then aI v 18 else false else false else false then aV k y m c v else 0)else s.3)) 1,.int .i64 (s.4+1),.int .i64 3,.int .i64 (aA found 12 9),.int .u64 (aB s.3 (aA found 12 9)),.int .u64 (bif bN s.3 (aA found 12 9)then bif bif aI k 10 then bif aI y 9 then bif aI c 5 then aI v 18 else false else false else false then aV k y m c v else 0 else 0),.bool (aU s.3 (aA found 12 9) word)]),some (.ints (some .u64) (bif aU s.3 (aA found 12 9) word then aJ s.3 (aA found 12 9) (bif bif aI k 10 then bif aI y 9 then bif aI c 5 then aI v 18 else false else false else false then aV k y m c v else 0)else s.3))])))
theorem P4(t n pop gave u sh kd ky:Int)(only:Bool)(att at' found word:Int)(k y:Int)(m:Bool)(c v:Int)(s:MS)(K:AVal→aD Ob→Prop)(h:(P3 t n pop gave u sh kd ky only att at' found word k y m c v s).run K):cT' 211 [.ptr 0 0,.ptr 1 0,.agg [.int .i64 k,.int .i64 y,.bool m,.int .i64 c,.int .i64 v]] [some (.cells [.int .i64 t,.int .i64 n,.int .i64 pop,.int .i64 gave,.int .i64 u,.int .i64 sh,.int .i64 kd,.int .i64 ky,.bool only,.int .i64 att,.int .i64 at',.int .u64 found,.int .u64 word]),aZ 2 s,a9 s] K:=by
 refine aCu (cM' (E:=EX1) (by kernel_rfl) h)
def xputS:aM Ob:=fun args h=>match args,h with
 | [.ptr 0 0,.ptr 1 0,.agg [.int .i64 k,.int .i64 y,.bool m,.int .i64 c,.int .i64 v]],[some (.cells [.int .i64 t,.int .i64 n,.int .i64 pop,.int .i64 gave,.int .i64 u,.int .i64 sh,.int .i64 kd,.int .i64 ky,.bool only,.int .i64 att,.int .i64 at',.int .u64 found,.int .u64 word]),e1,e2]=>(match eI 2 [e1,e2]with
   | some (l,s)=>some (.pre (l=s.xs.length) (P3 t n pop gave u sh kd ky only att at' found word k y m c v s))
   | none=>none)
 | _,_=>none
theorem UD:sT' 211 xputS:=by
 intro args h o ho K hK
 unfold xputS at ho
 split at ho
 case h_2=>cases ho
 split at ho<;>cases ho
 rename_i hm
 obtain⟨hl,hK⟩:=hK
 have hh:=b8 hm hl
 cases hh
 exact P4 _ _ _ _ _ _ _ _ _ _ _ _ _ _ _ _ _ _ _ K hK
def GL(t n pop gave u sh kd ky:Int)(only:Bool)(att at' found word:Int)(a b c d:Int)(m:Bool)(e f:Int)(s:MS):Out Ob:=.pre True (.pre ((((0:Int)≤t∧t≤(100000:Int))∧((0:Int)≤n∧n≤(100000:Int))∧(-1099511627776:Int)≤u∧u≤(1099511627776:Int))∧True) (.pre ((lE' s.3∧(0:Int)≤s.4∧s.4≤(4611686018427387904:Int))∧True) (.ret (.bool (aU s.3 (2*n+5+2*t+3*u+2) found)) [some (.cells [.int .i64 t,.int .i64 n,.int .i64 pop,.int .i64 gave,.int .i64 u,.int .i64 sh,.int .i64 kd,.int .i64 ky,.bool only,.int .i64 att,.int .i64 at',.int .u64 found,.int .u64 word]),some (.cells [.int .i64 s.1,.int .i64 s.2,.slice 2 0 (List.length (bif aU s.3 (2*n+5+2*t+3*u+2) found then aJ s.3 (2*n+5+2*t+3*u+2) (bif dOk a b c d e f then bA a b c d m e f else 0)else s.3)) 1,.int .i64 (s.4+1),.int .i64 3,.int .i64 (2*n+5+2*t+3*u+2),.int .u64 (aB s.3 (2*n+5+2*t+3*u+2)),.int .u64 (bif bN s.3 (2*n+5+2*t+3*u+2)then bif dOk a b c d e f then bA a b c d m e f else 0 else 0),.bool (aU s.3 (2*n+5+2*t+3*u+2) found)]),some (.ints (some .u64) (bif aU s.3 (2*n+5+2*t+3*u+2) found then aJ s.3 (2*n+5+2*t+3*u+2) (bif dOk a b c d e f then bA a b c d m e f else 0)else s.3))])))
theorem K4(t n pop gave u sh kd ky:Int)(only:Bool)(att at' found word:Int)(a b c d:Int)(m:Bool)(e f:Int)(s:MS)(K:AVal→aD Ob→Prop)(h:(GL t n pop gave u sh kd ky only att at' found word a b c d m e f s).run K):cT' 213 [.ptr 0 0,.ptr 1 0,.agg [.int .i64 a,.int .i64 b,.int .i64 c,.int .i64 d,.bool m,.int .i64 e,.int .i64 f]] [some (.cells [.int .i64 t,.int .i64 n,.int .i64 pop,.int .i64 gave,.int .i64 u,.int .i64 sh,.int .i64 kd,.int .i64 ky,.bool only,.int .i64 att,.int .i64 at',.int .u64 found,.int .u64 word]),aZ 2 s,a9 s] K:=by
 refine aCu (cM' (E:=EX1) (by kernel_rfl) h)
def xturnS:aM Ob:=fun args h=>match args,h with
 | [.ptr 0 0,.ptr 1 0,.agg [.int .i64 a,.int .i64 b,.int .i64 c,.int .i64 d,.bool m,.int .i64 e,.int .i64 f]],[some (.cells [.int .i64 t,.int .i64 n,.int .i64 pop,.int .i64 gave,.int .i64 u,.int .i64 sh,.int .i64 kd,.int .i64 ky,.bool only,.int .i64 att,.int .i64 at',.int .u64 found,.int .u64 word]),e1,e2]=>(match eI 2 [e1,e2]with
   | some (l,s)=>some (.pre (l=s.xs.length) (GL t n pop gave u sh kd ky only att at' found word a b c d m e f s))
   | none=>none)
 | _,_=>none
theorem P5:sT' 213 xturnS:=by
 intro args h o ho K hK
 unfold xturnS at ho
 split at ho
 case h_2=>cases ho
 split at ho<;>cases ho
 rename_i hm
 obtain⟨hl,hK⟩:=hK
 have hh:=b8 hm hl
 cases hh
 exact K4 _ _ _ _ _ _ _ _ _ _ _ _ _ _ _ _ _ _ _ _ _ K hK
noncomputable def EX2:=(EX1.addS 211 xputS UD).addS 213 xturnS P5
instance:Inhabited STS:=⟨⟨0,0,[]⟩⟩
end Go.Sh
