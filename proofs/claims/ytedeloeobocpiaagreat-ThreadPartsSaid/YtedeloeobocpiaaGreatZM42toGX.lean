import Derived.Test.YtedeloeobocpiaaGreatZM0toM36
set_option linter.all false
set_option maxHeartbeats 8000000
namespace Go.Sh
open Go Go.Proofs
variable [Con]
def alH(t n:Int)(x:AL)(s:MS):aD Ob:=[some (.cells [.int .i64 t,.int .i64 n,.int .i64 x.got,.int .i64 x.at',.int .i64 x.left,.int .u64 x.found,.bool x.free]),some (.cells [.int .i64 s.t,.int .i64 s.n,.slice 2 0 s.xs.length 1,.int .i64 s.c,.int .i64 s.k,.int .i64 s.a,.int .u64 s.o,.int .u64 s.w,.bool s.ok]),some (.ints (some .u64) s.xs)]
def oddB(y:Int):Bool:=!ieq (Int.tmod y 2) 0
def cL(n a:Int):Int:=Int.tmod a n+1
def WT(t n:Int)(x:AL)(s:MS):Out Ob:=.ite x.free
 (.ite (aR s.xs (n+4+x.at') x.found) (.ret (.bool true) (alH t n ⟨x.at',x.at',x.left,x.found,true⟩ (s.cased (n+4+x.at') x.found (WU (x.found+1)))))
   (.ret (.bool (ile (x.left - 1) 0)) (alH t n ⟨x.got,cL n x.at',x.left - 1,x.found,false⟩ (s.cased (n+4+x.at') x.found (WU (x.found+1))))))
 (.ite (oddB (aB s.xs (n+4+x.at'))) (.ret (.bool (ile (x.left - 1) 0)) (alH t n ⟨x.got,cL n x.at',x.left - 1,aB s.xs (n+4+x.at'),false⟩ (s.loadd (n+4+x.at'))))
   (.ret (.bool false) (alH t n ⟨x.got,x.at',x.left,aB s.xs (n+4+x.at'),true⟩ (s.loadd (n+4+x.at')))))
theorem QR(t n:Int)(x:AL)(s:MS)(K:AVal→aD Ob→Prop)(ht:1≤t∧t≤1000)(hn:1≤n∧n≤1000)(ha:1≤x.at'∧x.at'≤n)(hl:0≤x.left∧x.left≤1000)(hc:0≤s.c∧s.c≤1000000)(hK:(WT t n x s).run K):aC E36.I Tryz.prog 145 [.ptr 0 0,.ptr 1 0] (alH t n x s) K:=by
 refine aC8 (cM' (E:=E36) (q:=bif !x.5 then((((0:Int)≤t∧t≤(100000:Int))∧((0:Int)≤n∧n≤(100000:Int))∧(-1099511627776:Int)≤x.2∧x.2≤(1099511627776:Int))∧True)∧((lE' s.3∧(0:Int)≤s.4∧s.4≤(4611686018427387904:Int))∧True)∧(2:Int)≠(0:Int)∧bif !ieq (Int.tmod (aB s.3 (n+4+x.2)) 2) 0 then n≠(0:Int)∧K (.bool (ile (W (x.3 - 1)) 0)) [some (.cells [.int .i64 t,.int .i64 n,.int .i64 x.1,.int .i64 (W (Int.tmod x.2 n+1)),.int .i64 (W (x.3 - 1)),.int .u64 (aB s.3 (n+4+x.2)),.bool false]),some (.cells [.int .i64 s.1,.int .i64 s.2,.slice 2 0 (List.length s.3) 1,.int .i64 (s.4+1),.int .i64 1,.int .i64 (n+4+x.2),.int .u64 (aB s.3 (n+4+x.2)),.int .u64 (aB s.3 (n+4+x.2)),.bool (bM s.3 (n+4+x.2))]),some (.ints (some .u64) s.3)]else K (.bool false) [some (.cells [.int .i64 t,.int .i64 n,.int .i64 x.1,.int .i64 x.2,.int .i64 x.3,.int .u64 (aB s.3 (n+4+x.2)),.bool (ieq (Int.tmod (aB s.3 (n+4+x.2)) 2) 0)]),some (.cells [.int .i64 s.1,.int .i64 s.2,.slice 2 0 (List.length s.3) 1,.int .i64 (s.4+1),.int .i64 1,.int .i64 (n+4+x.2),.int .u64 (aB s.3 (n+4+x.2)),.int .u64 (aB s.3 (n+4+x.2)),.bool (bM s.3 (n+4+x.2))]),some (.ints (some .u64) s.3)]else((((0:Int)≤t∧t≤(100000:Int))∧((0:Int)≤n∧n≤(100000:Int))∧(-1099511627776:Int)≤x.2∧x.2≤(1099511627776:Int))∧True)∧((lE' s.3∧(0:Int)≤s.4∧s.4≤(4611686018427387904:Int))∧True)∧bif aR s.3 (n+4+x.2) x.4 then K (.bool true) [some (.cells [.int .i64 t,.int .i64 n,.int .i64 x.2,.int .i64 x.2,.int .i64 x.3,.int .u64 x.4,.bool x.5]),some (.cells [.int .i64 s.1,.int .i64 s.2,.slice 2 0 (List.length (bif aR s.3 (n+4+x.2) x.4 then aL s.3 (n+4+x.2) (WU (x.4+1))else s.3)) 1,.int .i64 (s.4+1),.int .i64 3,.int .i64 (n+4+x.2),.int .u64 (aB s.3 (n+4+x.2)),.int .u64 (bif bM s.3 (n+4+x.2)then WU (x.4+1)else 0),.bool (aR s.3 (n+4+x.2) x.4)]),some (.ints (some .u64) (bif aR s.3 (n+4+x.2) x.4 then aL s.3 (n+4+x.2) (WU (x.4+1))else s.3))]else n≠(0:Int)∧K (.bool (ile (W (x.3 - 1)) 0)) [some (.cells [.int .i64 t,.int .i64 n,.int .i64 x.1,.int .i64 (W (Int.tmod x.2 n+1)),.int .i64 (W (x.3 - 1)),.int .u64 x.4,.bool false]),some (.cells [.int .i64 s.1,.int .i64 s.2,.slice 2 0 (List.length (bif aR s.3 (n+4+x.2) x.4 then aL s.3 (n+4+x.2) (WU (x.4+1))else s.3)) 1,.int .i64 (s.4+1),.int .i64 3,.int .i64 (n+4+x.2),.int .u64 (aB s.3 (n+4+x.2)),.int .u64 (bif bM s.3 (n+4+x.2)then WU (x.4+1)else 0),.bool (aR s.3 (n+4+x.2) x.4)]),some (.ints (some .u64) (bif aR s.3 (n+4+x.2) x.4 then aL s.3 (n+4+x.2) (WU (x.4+1))else s.3))]) (by kernel_rfl) ?_)
 obtain⟨got,at',left,found,free⟩:=x
 dsimp only at ha hl⊢
 have hm:=U9 (x:=at') (t:=n) (by omega) (by omega)
 have e1:W (left - 1)=left - 1:=yC (by omega)
 have e2:W (Int.tmod at' n+1)=cL n at':=yC (by show _≤Int.tmod at' n+1∧Int.tmod at' n+1≤_;omega)
 rw [e1,e2]
 unfold WT at hK
 dsimp only [Out.run]at hK
 cases free with
 | false=>
   simp only [cond_false,Bool.not_false,cond_true]at hK⊢
   refine⟨⟨by omega,trivial⟩,⟨⟨trivial,by omega⟩,trivial⟩,by omega,?_⟩
   unfold oddB at hK
   generalize ho:ieq (Int.tmod (aB s.xs (n+4+at')) 2) 0=b at hK⊢
   cases b with
   | false=>exact⟨by omega,hK⟩
   | true=>exact hK
 | true=>
   simp only [cond_true,Bool.not_true,cond_false]at hK⊢
   refine⟨⟨by omega,trivial⟩,⟨⟨trivial,by omega⟩,trivial⟩,?_⟩
   unfold alH at hK
   cases hb:aR s.xs (n+4+at') found with
   | true=>
     rw [hb]at hK
     simp only [cond_true]at hK⊢
     unfold MS.cased at hK
     rw [hb]at hK
     exact hK
   | false=>
     rw [hb]at hK
     simp only [cond_false]at hK⊢
     unfold MS.cased at hK
     rw [hb]at hK
     exact⟨by omega,hK⟩
noncomputable def alS:aJ Ob:=fun args h=>match args,h with
 | [.ptr 0 0,.ptr 1 0],[some (.cells [.int .i64 t,.int .i64 n,.int .i64 got,.int .i64 at',.int .i64 left,.int .u64 found,.bool free]),e1,e2]=>match cW 2 [e1,e2]with
   | some (l,s)=>some (.pre (l=s.xs.length∧(1≤t∧t≤1000)∧(1≤n∧n≤1000)∧(1≤at'∧at'≤n)∧(0≤left∧left≤1000)∧(0≤s.c∧s.c≤1000000)) (WT t n ⟨got,at',left,found,free⟩ s))
   | none=>none
 | _,_=>none
theorem aAZ:aJ.ok E36.I Tryz.prog 145 alS:=by
 intro args h o ho K hK
 unfold alS at ho
 split at ho
 case h_2=>cases ho
 split at ho<;>cases ho
 rename_i hm
 obtain⟨⟨hl,ht,hn,ha,hl',hc⟩,hK⟩:=hK
 have hh:=bA hm hl
 cases hh
 exact QR _ _ _ _ K ht hn ha hl' hc hK
noncomputable def E42:=E36.addS 145 alS aAZ
theorem d9{xs:List Int}(h:okW xs){a x:Int}(hx:0≤x∧x≤18446744073709551615):okW (aL xs a x):=by
 unfold aL
 split
 ·refine⟨fun y hy=>?_⟩
  rcases List.mem_or_eq_of_mem_set hy with h1 | h1
  ·exact h.h y h1
  ·subst h1;exact hx
 ·exact h
theorem rB(x:Int):0≤WU x∧WU x≤18446744073709551615:=by
 unfold WU
 simp only [IntKind.wrap,IntKind.bits,IntKind.signed]
 simp
 omega
theorem KS(m:List (Int×Int))(k v r:Int):mget (dI m k v) r=if r=k then some v else mget m r:=by
 induction m with
 | nil=>
   unfold dI mget
   by_cases h:r=k
   ·subst h;simp
   ·have h': ¬k=r:=fun c=>h c.symm
    simp [h,h']
 | cons x m ih=>
   unfold dI
   by_cases hx:x.1=k
   ·rw [if_pos hx]
    unfold mget
    by_cases h:r=k
    ·subst h;simp
    ·have h': ¬k=r:=fun c=>h c.symm
     have h2: ¬x.1=r:=by rw [hx];exact h'
     simp [h,h',h2]
   ·rw [if_neg hx]
    unfold mget at ih⊢
    by_cases h2:x.1=r
    ·have h3: ¬r=k:=by rw [←h2];exact hx
     simp [h2,h3]
    ·simp only [List.find?_cons,beq_iff_eq,h2]
     have h4:(x.1 == r)=false:=by simpa using h2
     rw [h4]
     exact ih
theorem KU(m:List (Int×Int))(k r:Int):mhas (dI m k 1) r=(decide (r=k)||mhas m r):=by
 unfold mhas
 rw [KS]
 by_cases h:r=k
 ·rw [if_pos h,decide_eq_true h];rfl
 ·rw [if_neg h,decide_eq_false h];rfl
structure EO where
 d:Bool
 e:ENS
 st:STS
 s:MS
def at0(t n me:Int):Int:=bif bX n (aO t n me)then aO t n me else 1
def yU(e:ENS)(st:STS)(x:AL)(s:MS):EO:=match ile x.left 0 with
 | true=>⟨e.dn||ieq (st.R.length:Int) 0,{e with ph:=2,sh:=e.dn||ieq (st.R.length:Int) 0,x:=x},{st with sp:=0},s⟩
 | false=>⟨false,{e with ph:=1,x:=x},st,s⟩
def jC(n:Int)(e:ENS)(st:STS)(x:AL)(s:MS):EO:=match x.free with
 | true=>(match aR s.xs (n+4+x.at') x.found with
   | true=>⟨true,{e with ph:=1,x:=⟨x.at',x.at',x.left,x.found,true⟩ },{st with sp:=x.at'},s.cased (n+4+x.at') x.found (WU (x.found+1))⟩
   | false=>yU e st ⟨0,cL n x.at',x.left - 1,x.found,false⟩ (s.cased (n+4+x.at') x.found (WU (x.found+1))))
 | false=>(match oddB (aB s.xs (n+4+x.at'))with
   | true=>yU e st ⟨0,cL n x.at',x.left - 1,aB s.xs (n+4+x.at'),false⟩ (s.loadd (n+4+x.at'))
   | false=>⟨false,{e with ph:=1,x:=⟨0,x.at',x.left,aB s.xs (n+4+x.at'),true⟩ },st,s.loadd (n+4+x.at')⟩)
instance:Inhabited EO:=⟨⟨false,aS,⟨0,0,[]⟩,⟨0,0,[],0,0,0,0,0,false⟩⟩⟩
def enF(t n:Int)(e:ENS)(st:STS)(s:MS):EO:=match e.ph with
 | 0=>(match ieq st.sp 0 with
   | true=>jC n e st ⟨0,at0 t n st.me,n,0,false⟩ s
   | false=>⟨true,e,st,s.loadd 0⟩)
 | 1=>jC n e st e.x s
 | 2=>⟨false,{e with ph:=3,y:= {e.y with N:=st.R,m:=aT [] n 0 s,i:=1} },st,s.loadd (bG n 0)⟩
 | 3=>(match ieq (e.y.i+1) (2*t),ieq ((aV (aT e.y.m n e.y.i s) e.y.N).length :Int) 0 with
   | true,true=>⟨true,{e with ph:=0,sh:=true,dn:=true},{st with R:=cI (aT e.y.m n e.y.i s) e.y.N},s.loadd (bG n e.y.i)⟩
   | true,false=>⟨false,{e with ph:=4,y:=⟨0,e.y.N,aT e.y.m n e.y.i s,e.y.i+1,cI (aT e.y.m n e.y.i s) e.y.N,aV (aT e.y.m n e.y.i s) e.y.N,aV (aT e.y.m n e.y.i s) e.y.N,0,(aV (aT e.y.m n e.y.i s) e.y.N).length⟩ },st,s.loadd (bG n e.y.i)⟩
   | false,_=>⟨false,{e with y:= {e.y with m:=aT e.y.m n e.y.i s,i:=e.y.i+1} },st,s.loadd (bG n e.y.i)⟩)
 | _=>(match ieq ((e.y.l - 1:Nat):Int) 0 with
   | true=>⟨ieq (e.y.fs.length:Int) 0,{e with ph:=0,sh:=ieq (e.y.fs.length:Int) 0,dn:=true},{st with R:=e.y.ks},s.added (bV n e.y.gs e.y.j) 1⟩
   | false=>⟨false,{e with y:= {e.y with j:=e.y.j+1,l:=e.y.l - 1} },st,s.added (bV n e.y.gs e.y.j) 1⟩)
structure okAl (n:Int) (x:AL):Prop where
 hg:x.got=0
 ha:1≤x.at'∧x.at'≤n
 hl:0≤x.left∧x.left≤1000
def aBO(t n:Int)(e:ENS)(st:STS):Prop:=match e.ph with
 | 0=>True
 | 1=>okAl n e.x
 | 2=>True
 | 3=>e.y.N.length≤1000000∧0≤e.y.i∧e.y.i<2*t
 | 4=>2*t≤e.y.i∧1≤e.y.l∧e.y.gs.length=e.y.j+e.y.l∧ -1000000≤List.getD e.y.gs (e.y.j+Int.toNat 0*1) 0∧List.getD e.y.gs (e.y.j+Int.toNat 0*1) 0≤1000000
 | _=>False
structure okE (t n:Int) (e:ENS) (st:STS) (s:MS):Prop where
 ht:1≤t∧t≤1000
 hn:1≤n∧n≤1000
 hc:0≤s.c∧s.c≤1000000
 hm:0≤st.me∧st.me≤1000
 hR:st.R.length≤1000000
 ho:aBO t n e st
abbrev a8(l:Nat)(s:MS):Option (aK Mc):=some (.cells [.int .i64 s.t,.int .i64 s.n,.slice l 0 s.xs.length 1,.int .i64 s.c,.int .i64 s.k,.int .i64 s.a,.int .u64 s.o,.int .u64 s.w,.bool s.ok])
abbrev a9(s:MS):Option (aK Mc):=some (.ints (some .u64) s.xs)
def SA(t n:Int)(e:ENS)(st:STS)(s:MS):aD Ob:=[some (.abs (.ensure t n e) [1]),some (.abs (.store t n st) []),a8 3 s,a9 s]
def EO.left(o:EO)(t n:Int)(K:AVal→aD Ob→Prop):Prop:=K (.bool o.d) (SA t n o.e o.st o.s)
theorem gC{K:AVal→aD Ob→Prop}{t n:Int}{o:EO}{g':aD Ob}(pl:List Nat)(hK:o.left t n K)
 (hb:(eU pl g'.length&&jV pl 0 4&&tA 1 (G7 t n o.e))=true)
 (hT:gI pl g'=a7 [some (.abs (.ensure t n o.e) [1]),some (.cells [.int .i64 t,.int .i64 n,.int .i64 o.st.me,.int .i64 o.st.sp,.slice 4 0 o.st.R.length 1]),a8 3 o.s,a9 o.s,some (.ints (some .i64) o.st.R)] 0 1 (G7 t n o.e) [1]):AI tbl 4 (AI tbl 4 K) (.bool o.d) g':=by
 simp only [Bool.and_eq_true]at hb
 obtain⟨⟨b1,b2⟩,b3⟩:=hb
 refine⟨pl,_,.ensure t n o.e,0,1,_,[1],?_,hT,rfl,rfl,⟨[0,1,2,3,4],[some (.abs (.ensure t n o.e) [1]),some (.abs (.store t n o.st) []),a8 3 o.s,a9 o.s],.store t n o.st,1,0,dG t n o.st,[],rfl,rfl,rfl,rfl,?_⟩⟩
 ·rw [b1,b2,b3];rfl
 ·exact hK
theorem aCp(t n me sp:Int)(R:List Int)(sh dn:Bool)(x:AL)(y:SWS)(s:MS)(K:AVal→aD Ob→Prop)(hK:bif !ieq sp 0 then(lE' s.3∧(0:Int)≤s.4∧s.4≤(4611686018427387904:Int))∧K (.bool true) [some (.cells [.ptr 1 0,.bool sh,.raw (Value.pointer none),.raw (Value.pointer none),.bool dn]),some (.cells [.int .i64 t,.int .i64 n,.int .i64 me,.int .i64 sp,.slice 4 0 (List.length R) 1]),some (.cells [.int .i64 s.1,.int .i64 s.2,.slice 3 0 (List.length s.3) 1,.int .i64 (s.4+1),.int .i64 1,.int .i64 0,.int .u64 (aB s.3 0),.int .u64 (aB s.3 0),.bool (bM s.3 0)]),some (.ints (some .u64) s.3),some (.ints (some .i64) R)]else(((0:Int)≤me∧me≤(100000:Int))∧(0:Int)≤n∧n≤(100000:Int))∧(True∧True)∧(lE' s.3∧((1:Int)≤t∧t≤(1000:Int))∧((1:Int)≤n∧n≤(1000:Int))∧(((1:Int)≤bif bX n (aO t n me)then aO t n me else 1)∧(bif bX n (aO t n me)then aO t n me else 1)≤n)∧((0:Int)≤n∧n≤(1000:Int))∧(0:Int)≤s.4∧s.4≤(1000000:Int))∧bif oddB (aB s.3 (n+4+bif bX n (aO t n me)then aO t n me else 1))then bif !ile (n - 1) 0 then K (.bool false) [some (.cells [.ptr 1 0,.bool sh,.ptr 5 0,.raw (Value.pointer none),.bool dn]),some (.cells [.int .i64 t,.int .i64 n,.int .i64 me,.int .i64 sp,.slice 4 0 (List.length R) 1]),some (.cells [.int .i64 s.1,.int .i64 s.2,.slice 3 0 (List.length s.3) 1,.int .i64 (s.4+1),.int .i64 1,.int .i64 (n+4+bif bX n (aO t n me)then aO t n me else 1),.int .u64 (aB s.3 (n+4+bif bX n (aO t n me)then aO t n me else 1)),.int .u64 (aB s.3 (n+4+bif bX n (aO t n me)then aO t n me else 1)),.bool (bM s.3 (n+4+bif bX n (aO t n me)then aO t n me else 1))]),some (.ints (some .u64) s.3),some (.ints (some .i64) R),some (.cells [.int .i64 t,.int .i64 n,.int .i64 0,.int .i64 (cL n (bif bX n (aO t n me)then aO t n me else 1)),.int .i64 (n - 1),.int .u64 (aB s.3 (n+4+bif bX n (aO t n me)then aO t n me else 1)),.bool false])]else bif dn then K (.bool true) [some (.cells [.ptr 1 0,.bool true,.ptr 5 0,.ptr 6 0,.bool dn]),some (.cells [.int .i64 t,.int .i64 n,.int .i64 me,.int .i64 0,.slice 4 0 (List.length R) 1]),some (.cells [.int .i64 s.1,.int .i64 s.2,.slice 3 0 (List.length s.3) 1,.int .i64 (s.4+1),.int .i64 1,.int .i64 (n+4+bif bX n (aO t n me)then aO t n me else 1),.int .u64 (aB s.3 (n+4+bif bX n (aO t n me)then aO t n me else 1)),.int .u64 (aB s.3 (n+4+bif bX n (aO t n me)then aO t n me else 1)),.bool (bM s.3 (n+4+bif bX n (aO t n me)then aO t n me else 1))]),some (.ints (some .u64) s.3),some (.ints (some .i64) R),some (.cells [.int .i64 t,.int .i64 n,.int .i64 0,.int .i64 (cL n (bif bX n (aO t n me)then aO t n me else 1)),.int .i64 (n - 1),.int .u64 (aB s.3 (n+4+bif bX n (aO t n me)then aO t n me else 1)),.bool false]),some (.cells [.ptr 1 0,.raw (Value.pointer none)])]else K (.bool (ieq (↑(List.length R):Int) 0)) [some (.cells [.ptr 1 0,.bool (ieq (↑(List.length R):Int) 0),.ptr 5 0,.ptr 6 0,.bool dn]),some (.cells [.int .i64 t,.int .i64 n,.int .i64 me,.int .i64 0,.slice 4 0 (List.length R) 1]),some (.cells [.int .i64 s.1,.int .i64 s.2,.slice 3 0 (List.length s.3) 1,.int .i64 (s.4+1),.int .i64 1,.int .i64 (n+4+bif bX n (aO t n me)then aO t n me else 1),.int .u64 (aB s.3 (n+4+bif bX n (aO t n me)then aO t n me else 1)),.int .u64 (aB s.3 (n+4+bif bX n (aO t n me)then aO t n me else 1)),.bool (bM s.3 (n+4+bif bX n (aO t n me)then aO t n me else 1))]),some (.ints (some .u64) s.3),some (.ints (some .i64) R),some (.cells [.int .i64 t,.int .i64 n,.int .i64 0,.int .i64 (cL n (bif bX n (aO t n me)then aO t n me else 1)),.int .i64 (n - 1),.int .u64 (aB s.3 (n+4+bif bX n (aO t n me)then aO t n me else 1)),.bool false]),some (.cells [.ptr 1 0,.raw (Value.pointer none)])]else K (.bool false) [some (.cells [.ptr 1 0,.bool sh,.ptr 5 0,.raw (Value.pointer none),.bool dn]),some (.cells [.int .i64 t,.int .i64 n,.int .i64 me,.int .i64 sp,.slice 4 0 (List.length R) 1]),some (.cells [.int .i64 s.1,.int .i64 s.2,.slice 3 0 (List.length s.3) 1,.int .i64 (s.4+1),.int .i64 1,.int .i64 (n+4+bif bX n (aO t n me)then aO t n me else 1),.int .u64 (aB s.3 (n+4+bif bX n (aO t n me)then aO t n me else 1)),.int .u64 (aB s.3 (n+4+bif bX n (aO t n me)then aO t n me else 1)),.bool (bM s.3 (n+4+bif bX n (aO t n me)then aO t n me else 1))]),some (.ints (some .u64) s.3),some (.ints (some .i64) R),some (.cells [.int .i64 t,.int .i64 n,.int .i64 0,.int .i64 (bif bX n (aO t n me)then aO t n me else 1),.int .i64 n,.int .u64 (aB s.3 (n+4+bif bX n (aO t n me)then aO t n me else 1)),.bool true])]):cT' 85 [.ptr 0 0,.ptr 2 0] [some (.cells [.ptr 1 0,.bool sh,.raw (.pointer none),.raw (.pointer none),.bool dn]),some (.cells [.int .i64 t,.int .i64 n,.int .i64 me,.int .i64 sp,.slice 4 0 R.length 1]),a8 3 s,a9 s,some (.ints (some .i64) R)] K:=by
 refine aC8 (cM' (E:=E42) (by kernel_rfl) hK)
theorem aCq(t n me sp:Int)(R:List Int)(sh dn:Bool)(x:AL)(y:SWS)(s:MS)(K:AVal→aD Ob→Prop)(hK:(lE' s.3∧((1:Int)≤t∧t≤(1000:Int))∧((1:Int)≤n∧n≤(1000:Int))∧((1:Int)≤x.2∧x.2≤n)∧((0:Int)≤x.3∧x.3≤(1000:Int))∧(0:Int)≤s.4∧s.4≤(1000000:Int))∧bif x.5 then bif aR s.3 (n+4+x.2) x.4 then bif !ieq x.2 0 then K (.bool true) [some (.cells [.ptr 1 0,.bool sh,.ptr 5 0,.raw (Value.pointer none),.bool dn]),some (.cells [.int .i64 t,.int .i64 n,.int .i64 me,.int .i64 x.2,.slice 4 0 (List.length R) 1]),some (.cells [.int .i64 s.1,.int .i64 s.2,.slice 3 0 (List.length (bif aR s.3 (n+4+x.2) x.4 then aL s.3 (n+4+x.2) (WU (x.4+1))else s.3)) 1,.int .i64 (s.4+1),.int .i64 3,.int .i64 (n+4+x.2),.int .u64 (aB s.3 (n+4+x.2)),.int .u64 (bif bM s.3 (n+4+x.2)then WU (x.4+1)else 0),.bool (aR s.3 (n+4+x.2) x.4)]),some (.ints (some .u64) (bif aR s.3 (n+4+x.2) x.4 then aL s.3 (n+4+x.2) (WU (x.4+1))else s.3)),some (.ints (some .i64) R),some (.cells [.int .i64 t,.int .i64 n,.int .i64 x.2,.int .i64 x.2,.int .i64 x.3,.int .u64 x.4,.bool true])]else bif dn then K (.bool true) [some (.cells [.ptr 1 0,.bool true,.ptr 5 0,.ptr 6 0,.bool dn]),some (.cells [.int .i64 t,.int .i64 n,.int .i64 me,.int .i64 x.2,.slice 4 0 (List.length R) 1]),some (.cells [.int .i64 s.1,.int .i64 s.2,.slice 3 0 (List.length (bif aR s.3 (n+4+x.2) x.4 then aL s.3 (n+4+x.2) (WU (x.4+1))else s.3)) 1,.int .i64 (s.4+1),.int .i64 3,.int .i64 (n+4+x.2),.int .u64 (aB s.3 (n+4+x.2)),.int .u64 (bif bM s.3 (n+4+x.2)then WU (x.4+1)else 0),.bool (aR s.3 (n+4+x.2) x.4)]),some (.ints (some .u64) (bif aR s.3 (n+4+x.2) x.4 then aL s.3 (n+4+x.2) (WU (x.4+1))else s.3)),some (.ints (some .i64) R),some (.cells [.int .i64 t,.int .i64 n,.int .i64 x.2,.int .i64 x.2,.int .i64 x.3,.int .u64 x.4,.bool true]),some (.cells [.ptr 1 0,.raw (Value.pointer none)])]else K (.bool (ieq (↑(List.length R):Int) 0)) [some (.cells [.ptr 1 0,.bool (ieq (↑(List.length R):Int) 0),.ptr 5 0,.ptr 6 0,.bool dn]),some (.cells [.int .i64 t,.int .i64 n,.int .i64 me,.int .i64 x.2,.slice 4 0 (List.length R) 1]),some (.cells [.int .i64 s.1,.int .i64 s.2,.slice 3 0 (List.length (bif aR s.3 (n+4+x.2) x.4 then aL s.3 (n+4+x.2) (WU (x.4+1))else s.3)) 1,.int .i64 (s.4+1),.int .i64 3,.int .i64 (n+4+x.2),.int .u64 (aB s.3 (n+4+x.2)),.int .u64 (bif bM s.3 (n+4+x.2)then WU (x.4+1)else 0),.bool (aR s.3 (n+4+x.2) x.4)]),some (.ints (some .u64) (bif aR s.3 (n+4+x.2) x.4 then aL s.3 (n+4+x.2) (WU (x.4+1))else s.3)),some (.ints (some .i64) R),some (.cells [.int .i64 t,.int .i64 n,.int .i64 x.2,.int .i64 x.2,.int .i64 x.3,.int .u64 x.4,.bool true]),some (.cells [.ptr 1 0,.raw (Value.pointer none)])]else bif !ile (x.3 - 1) 0 then K (.bool false) [some (.cells [.ptr 1 0,.bool sh,.ptr 5 0,.raw (Value.pointer none),.bool dn]),some (.cells [.int .i64 t,.int .i64 n,.int .i64 me,.int .i64 sp,.slice 4 0 (List.length R) 1]),some (.cells [.int .i64 s.1,.int .i64 s.2,.slice 3 0 (List.length (bif aR s.3 (n+4+x.2) x.4 then aL s.3 (n+4+x.2) (WU (x.4+1))else s.3)) 1,.int .i64 (s.4+1),.int .i64 3,.int .i64 (n+4+x.2),.int .u64 (aB s.3 (n+4+x.2)),.int .u64 (bif bM s.3 (n+4+x.2)then WU (x.4+1)else 0),.bool (aR s.3 (n+4+x.2) x.4)]),some (.ints (some .u64) (bif aR s.3 (n+4+x.2) x.4 then aL s.3 (n+4+x.2) (WU (x.4+1))else s.3)),some (.ints (some .i64) R),some (.cells [.int .i64 t,.int .i64 n,.int .i64 x.1,.int .i64 (cL n x.2),.int .i64 (x.3 - 1),.int .u64 x.4,.bool false])]else bif !ieq x.1 0 then K (.bool true) [some (.cells [.ptr 1 0,.bool sh,.ptr 5 0,.raw (Value.pointer none),.bool dn]),some (.cells [.int .i64 t,.int .i64 n,.int .i64 me,.int .i64 x.1,.slice 4 0 (List.length R) 1]),some (.cells [.int .i64 s.1,.int .i64 s.2,.slice 3 0 (List.length (bif aR s.3 (n+4+x.2) x.4 then aL s.3 (n+4+x.2) (WU (x.4+1))else s.3)) 1,.int .i64 (s.4+1),.int .i64 3,.int .i64 (n+4+x.2),.int .u64 (aB s.3 (n+4+x.2)),.int .u64 (bif bM s.3 (n+4+x.2)then WU (x.4+1)else 0),.bool (aR s.3 (n+4+x.2) x.4)]),some (.ints (some .u64) (bif aR s.3 (n+4+x.2) x.4 then aL s.3 (n+4+x.2) (WU (x.4+1))else s.3)),some (.ints (some .i64) R),some (.cells [.int .i64 t,.int .i64 n,.int .i64 x.1,.int .i64 (cL n x.2),.int .i64 (x.3 - 1),.int .u64 x.4,.bool false])]else bif dn then K (.bool true) [some (.cells [.ptr 1 0,.bool true,.ptr 5 0,.ptr 6 0,.bool dn]),some (.cells [.int .i64 t,.int .i64 n,.int .i64 me,.int .i64 x.1,.slice 4 0 (List.length R) 1]),some (.cells [.int .i64 s.1,.int .i64 s.2,.slice 3 0 (List.length (bif aR s.3 (n+4+x.2) x.4 then aL s.3 (n+4+x.2) (WU (x.4+1))else s.3)) 1,.int .i64 (s.4+1),.int .i64 3,.int .i64 (n+4+x.2),.int .u64 (aB s.3 (n+4+x.2)),.int .u64 (bif bM s.3 (n+4+x.2)then WU (x.4+1)else 0),.bool (aR s.3 (n+4+x.2) x.4)]),some (.ints (some .u64) (bif aR s.3 (n+4+x.2) x.4 then aL s.3 (n+4+x.2) (WU (x.4+1))else s.3)),some (.ints (some .i64) R),some (.cells [.int .i64 t,.int .i64 n,.int .i64 x.1,.int .i64 (cL n x.2),.int .i64 (x.3 - 1),.int .u64 x.4,.bool false]),some (.cells [.ptr 1 0,.raw (Value.pointer none)])]else K (.bool (ieq (↑(List.length R):Int) 0)) [some (.cells [.ptr 1 0,.bool (ieq (↑(List.length R):Int) 0),.ptr 5 0,.ptr 6 0,.bool dn]),some (.cells [.int .i64 t,.int .i64 n,.int .i64 me,.int .i64 x.1,.slice 4 0 (List.length R) 1]),some (.cells [.int .i64 s.1,.int .i64 s.2,.slice 3 0 (List.length (bif aR s.3 (n+4+x.2) x.4 then aL s.3 (n+4+x.2) (WU (x.4+1))else s.3)) 1,.int .i64 (s.4+1),.int .i64 3,.int .i64 (n+4+x.2),.int .u64 (aB s.3 (n+4+x.2)),.int .u64 (bif bM s.3 (n+4+x.2)then WU (x.4+1)else 0),.bool (aR s.3 (n+4+x.2) x.4)]),some (.ints (some .u64) (bif aR s.3 (n+4+x.2) x.4 then aL s.3 (n+4+x.2) (WU (x.4+1))else s.3)),some (.ints (some .i64) R),some (.cells [.int .i64 t,.int .i64 n,.int .i64 x.1,.int .i64 (cL n x.2),.int .i64 (x.3 - 1),.int .u64 x.4,.bool false]),some (.cells [.ptr 1 0,.raw (Value.pointer none)])]else bif oddB (aB s.3 (n+4+x.2))then bif !ile (x.3 - 1) 0 then K (.bool false) [some (.cells [.ptr 1 0,.bool sh,.ptr 5 0,.raw (Value.pointer none),.bool dn]),some (.cells [.int .i64 t,.int .i64 n,.int .i64 me,.int .i64 sp,.slice 4 0 (List.length R) 1]),some (.cells [.int .i64 s.1,.int .i64 s.2,.slice 3 0 (List.length s.3) 1,.int .i64 (s.4+1),.int .i64 1,.int .i64 (n+4+x.2),.int .u64 (aB s.3 (n+4+x.2)),.int .u64 (aB s.3 (n+4+x.2)),.bool (bM s.3 (n+4+x.2))]),some (.ints (some .u64) s.3),some (.ints (some .i64) R),some (.cells [.int .i64 t,.int .i64 n,.int .i64 x.1,.int .i64 (cL n x.2),.int .i64 (x.3 - 1),.int .u64 (aB s.3 (n+4+x.2)),.bool false])]else bif !ieq x.1 0 then K (.bool true) [some (.cells [.ptr 1 0,.bool sh,.ptr 5 0,.raw (Value.pointer none),.bool dn]),some (.cells [.int .i64 t,.int .i64 n,.int .i64 me,.int .i64 x.1,.slice 4 0 (List.length R) 1]),some (.cells [.int .i64 s.1,.int .i64 s.2,.slice 3 0 (List.length s.3) 1,.int .i64 (s.4+1),.int .i64 1,.int .i64 (n+4+x.2),.int .u64 (aB s.3 (n+4+x.2)),.int .u64 (aB s.3 (n+4+x.2)),.bool (bM s.3 (n+4+x.2))]),some (.ints (some .u64) s.3),some (.ints (some .i64) R),some (.cells [.int .i64 t,.int .i64 n,.int .i64 x.1,.int .i64 (cL n x.2),.int .i64 (x.3 - 1),.int .u64 (aB s.3 (n+4+x.2)),.bool false])]else bif dn then K (.bool true) [some (.cells [.ptr 1 0,.bool true,.ptr 5 0,.ptr 6 0,.bool dn]),some (.cells [.int .i64 t,.int .i64 n,.int .i64 me,.int .i64 x.1,.slice 4 0 (List.length R) 1]),some (.cells [.int .i64 s.1,.int .i64 s.2,.slice 3 0 (List.length s.3) 1,.int .i64 (s.4+1),.int .i64 1,.int .i64 (n+4+x.2),.int .u64 (aB s.3 (n+4+x.2)),.int .u64 (aB s.3 (n+4+x.2)),.bool (bM s.3 (n+4+x.2))]),some (.ints (some .u64) s.3),some (.ints (some .i64) R),some (.cells [.int .i64 t,.int .i64 n,.int .i64 x.1,.int .i64 (cL n x.2),.int .i64 (x.3 - 1),.int .u64 (aB s.3 (n+4+x.2)),.bool false]),some (.cells [.ptr 1 0,.raw (Value.pointer none)])]else K (.bool (ieq (↑(List.length R):Int) 0)) [some (.cells [.ptr 1 0,.bool (ieq (↑(List.length R):Int) 0),.ptr 5 0,.ptr 6 0,.bool dn]),some (.cells [.int .i64 t,.int .i64 n,.int .i64 me,.int .i64 x.1,.slice 4 0 (List.length R) 1]),some (.cells [.int .i64 s.1,.int .i64 s.2,.slice 3 0 (List.length s.3) 1,.int .i64 (s.4+1),.int .i64 1,.int .i64 (n+4+x.2),.int .u64 (aB s.3 (n+4+x.2)),.int .u64 (aB s.3 (n+4+x.2)),.bool (bM s.3 (n+4+x.2))]),some (.ints (some .u64) s.3),some (.ints (some .i64) R),some (.cells [.int .i64 t,.int .i64 n,.int .i64 x.1,.int .i64 (cL n x.2),.int .i64 (x.3 - 1),.int .u64 (aB s.3 (n+4+x.2)),.bool false]),some (.cells [.ptr 1 0,.raw (Value.pointer none)])]else K (.bool false) [some (.cells [.ptr 1 0,.bool sh,.ptr 5 0,.raw (Value.pointer none),.bool dn]),some (.cells [.int .i64 t,.int .i64 n,.int .i64 me,.int .i64 sp,.slice 4 0 (List.length R) 1]),some (.cells [.int .i64 s.1,.int .i64 s.2,.slice 3 0 (List.length s.3) 1,.int .i64 (s.4+1),.int .i64 1,.int .i64 (n+4+x.2),.int .u64 (aB s.3 (n+4+x.2)),.int .u64 (aB s.3 (n+4+x.2)),.bool (bM s.3 (n+4+x.2))]),some (.ints (some .u64) s.3),some (.ints (some .i64) R),some (.cells [.int .i64 t,.int .i64 n,.int .i64 x.1,.int .i64 x.2,.int .i64 x.3,.int .u64 (aB s.3 (n+4+x.2)),.bool true])]):cT' 85 [.ptr 0 0,.ptr 2 0] [some (.cells [.ptr 1 0,.bool sh,.ptr 5 0,.raw (.pointer none),.bool dn]),some (.cells [.int .i64 t,.int .i64 n,.int .i64 me,.int .i64 sp,.slice 4 0 R.length 1]),a8 3 s,a9 s,some (.ints (some .i64) R),VI t n x] K:=by
 refine aC8 (cM' (E:=E42) (by kernel_rfl) hK)
theorem aCr(t n me sp:Int)(R:List Int)(sh dn:Bool)(x:AL)(y:SWS)(s:MS)(K:AVal→aD Ob→Prop)(hK:((lE' s.3∧lE' R)∧((1:Int)≤t∧t≤(1000:Int))∧((1:Int)≤n∧n≤(1000:Int))∧((0:Int)≤s.4∧s.4≤(1000000:Int))∧List.length R≤(1000000:Nat))∧K (.bool false) [some (.cells [.ptr 1 0,.bool sh,.ptr 5 0,.ptr 6 0,.bool dn]),some (.cells [.int .i64 t,.int .i64 n,.int .i64 me,.int .i64 sp,.slice 4 0 (List.length R) 1]),some (.cells [.int .i64 s.1,.int .i64 s.2,.slice 3 0 (List.length s.3) 1,.int .i64 (s.4+1),.int .i64 1,.int .i64 (bG n 0),.int .u64 (aB s.3 (bG n 0)),.int .u64 (aB s.3 (bG n 0)),.bool (bM s.3 (bG n 0))]),some (.ints (some .u64) s.3),some (.ints (some .i64) R),some (.cells [.int .i64 t,.int .i64 n,.int .i64 x.1,.int .i64 x.2,.int .i64 x.3,.int .u64 x.4,.bool x.5]),some (.cells [.ptr 1 0,.ptr 7 0]),some (.cells [.int .i64 t,.int .i64 n,.raw (Value.slice none 0 0),.raw (Value.slice none 0 0),.slice 8 0 (List.length R) 1,.map 9,.int .i64 1,.raw (Value.pointer none)]),some (.ints (some .i64) R),some (.imap .i64 none (aT [] n 0 s))]):cT' 85 [.ptr 0 0,.ptr 2 0] [some (.cells [.ptr 1 0,.bool sh,.ptr 5 0,.ptr 6 0,.bool dn]),some (.cells [.int .i64 t,.int .i64 n,.int .i64 me,.int .i64 sp,.slice 4 0 R.length 1]),a8 3 s,a9 s,some (.ints (some .i64) R),VI t n x,some (.cells [.ptr 1 0,.raw (.pointer none)])] K:=by
 refine aC8 (cM' (E:=E42) (by kernel_rfl) hK)
theorem aCs(t n me sp:Int)(R:List Int)(sh dn:Bool)(x:AL)(y:SWS)(s:MS)(K:AVal→aD Ob→Prop)(hK:((lE' s.3∧lE' R∧lE' y.2∧t=t∧n=n)∧((1:Int)≤t∧t≤(1000:Int))∧((1:Int)≤n∧n≤(1000:Int))∧((0:Int)≤s.4∧s.4≤(1000000:Int))∧List.length y.2≤(1000000:Nat)∧(0:Int)≤y.4∧y.4<(2:Int)*t)∧bif ieq (y.4+1) (2*t)then bif ieq (↑(List.length (aV (aT y.3 n y.4 s) y.2)):Int) 0 then K (.bool (ieq (↑(List.length (aV (aT y.3 n y.4 s) y.2)):Int) 0)) [some (.cells [.ptr 1 0,.bool (ieq (↑(List.length (aV (aT y.3 n y.4 s) y.2)):Int) 0),.raw (Value.pointer none),.raw (Value.pointer none),.bool true]),some (.cells [.int .i64 t,.int .i64 n,.int .i64 me,.int .i64 sp,.slice 10 0 (List.length (cI (aT y.3 n y.4 s) y.2)) 1]),some (.cells [.int .i64 s.1,.int .i64 s.2,.slice 3 0 (List.length s.3) 1,.int .i64 (s.4+1),.int .i64 1,.int .i64 (bG n y.4),.int .u64 (aB s.3 (bG n y.4)),.int .u64 (aB s.3 (bG n y.4)),.bool (bM s.3 (bG n y.4))]),some (.ints (some .u64) s.3),some (.ints (some .i64) R),some (.cells [.int .i64 t,.int .i64 n,.int .i64 x.1,.int .i64 x.2,.int .i64 x.3,.int .u64 x.4,.bool x.5]),some (.cells [.ptr 1 0,.ptr 7 0]),some (.cells [.int .i64 t,.int .i64 n,.slice 10 0 (List.length (cI (aT y.3 n y.4 s) y.2)) 1,.slice 11 0 (List.length (aV (aT y.3 n y.4 s) y.2)) 1,.slice 8 0 (List.length y.2) 1,.map 9,.int .i64 (y.4+1),.ptr 12 0]),some (.ints (some .i64) y.2),some (.imap .i64 none (aT y.3 n y.4 s)),some (.ints (some .i64) (cI (aT y.3 n y.4 s) y.2)),some (.ints (some .i64) (aV (aT y.3 n y.4 s) y.2)),some (.cells [.int .i64 t,.int .i64 n,.slice 13 0 (List.length (aV (aT y.3 n y.4 s) y.2)) 1]),some (.ints (some .i64) (aV (aT y.3 n y.4 s) y.2))]else K (.bool false) [some (.cells [.ptr 1 0,.bool sh,.ptr 5 0,.ptr 6 0,.bool dn]),some (.cells [.int .i64 t,.int .i64 n,.int .i64 me,.int .i64 sp,.slice 4 0 (List.length R) 1]),some (.cells [.int .i64 s.1,.int .i64 s.2,.slice 3 0 (List.length s.3) 1,.int .i64 (s.4+1),.int .i64 1,.int .i64 (bG n y.4),.int .u64 (aB s.3 (bG n y.4)),.int .u64 (aB s.3 (bG n y.4)),.bool (bM s.3 (bG n y.4))]),some (.ints (some .u64) s.3),some (.ints (some .i64) R),some (.cells [.int .i64 t,.int .i64 n,.int .i64 x.1,.int .i64 x.2,.int .i64 x.3,.int .u64 x.4,.bool x.5]),some (.cells [.ptr 1 0,.ptr 7 0]),some (.cells [.int .i64 t,.int .i64 n,.slice 10 0 (List.length (cI (aT y.3 n y.4 s) y.2)) 1,.slice 11 0 (List.length (aV (aT y.3 n y.4 s) y.2)) 1,.slice 8 0 (List.length y.2) 1,.map 9,.int .i64 (y.4+1),.ptr 12 0]),some (.ints (some .i64) y.2),some (.imap .i64 none (aT y.3 n y.4 s)),some (.ints (some .i64) (cI (aT y.3 n y.4 s) y.2)),some (.ints (some .i64) (aV (aT y.3 n y.4 s) y.2)),some (.cells [.int .i64 t,.int .i64 n,.slice 13 0 (List.length (aV (aT y.3 n y.4 s) y.2)) 1]),some (.ints (some .i64) (aV (aT y.3 n y.4 s) y.2))]else K (.bool false) [some (.cells [.ptr 1 0,.bool sh,.ptr 5 0,.ptr 6 0,.bool dn]),some (.cells [.int .i64 t,.int .i64 n,.int .i64 me,.int .i64 sp,.slice 4 0 (List.length R) 1]),some (.cells [.int .i64 s.1,.int .i64 s.2,.slice 3 0 (List.length s.3) 1,.int .i64 (s.4+1),.int .i64 1,.int .i64 (bG n y.4),.int .u64 (aB s.3 (bG n y.4)),.int .u64 (aB s.3 (bG n y.4)),.bool (bM s.3 (bG n y.4))]),some (.ints (some .u64) s.3),some (.ints (some .i64) R),some (.cells [.int .i64 t,.int .i64 n,.int .i64 x.1,.int .i64 x.2,.int .i64 x.3,.int .u64 x.4,.bool x.5]),some (.cells [.ptr 1 0,.ptr 7 0]),some (.cells [.int .i64 t,.int .i64 n,.raw (Value.slice none 0 0),.raw (Value.slice none 0 0),.slice 8 0 (List.length y.2) 1,.map 9,.int .i64 (y.4+1),.raw (Value.pointer none)]),some (.ints (some .i64) y.2),some (.imap .i64 none (aT y.3 n y.4 s))]):cT' 85 [.ptr 0 0,.ptr 2 0] [some (.cells [.ptr 1 0,.bool sh,.ptr 5 0,.ptr 6 0,.bool dn]),some (.cells [.int .i64 t,.int .i64 n,.int .i64 me,.int .i64 sp,.slice 4 0 R.length 1]),a8 3 s,a9 s,some (.ints (some .i64) R),VI t n x,some (.cells [.ptr 1 0,.ptr 7 0]),some (.cells [.int .i64 t,.int .i64 n,.raw (.slice none 0 0),.raw (.slice none 0 0),.slice 8 0 y.N.length 1,.map 9,.int .i64 y.i,.raw (.pointer none)]),some (.ints (some .i64) y.N),some (.imap .i64 none y.m)] K:=by
 refine aC8 (cM' (E:=E42) (by kernel_rfl) hK)
theorem aCt(t n me sp:Int)(R:List Int)(sh dn:Bool)(x:AL)(y:SWS)(s:MS)(K:AVal→aD Ob→Prop)(hK:((lE' s.3∧lE' R∧lE' y.5∧lE' y.6∧lE' y.2∧t=t∧n=n∧t=t∧n=n)∧((1:Int)≤t∧t≤(1000:Int))∧((1:Int)≤n∧n≤(1000:Int))∧((0:Int)≤s.4∧s.4≤(1000000:Int))∧2*t≤y.4∧((1:Nat)≤y.9∧List.length y.7=y.8+y.9)∧(-1000000:Int)≤List.getD y.7 (y.8+Int.toNat 0*1) 0∧List.getD y.7 (y.8+Int.toNat 0*1) (0:Int)≤(1000000:Int))∧bif ieq (↑(y.9 - 1):Int) 0 then K (.bool (ieq (↑(List.length y.6):Int) 0)) [some (.cells [.ptr 1 0,.bool (ieq (↑(List.length y.6):Int) 0),.raw (Value.pointer none),.raw (Value.pointer none),.bool true]),some (.cells [.int .i64 t,.int .i64 n,.int .i64 me,.int .i64 sp,.slice 8 0 (List.length y.5) 1]),some (.cells [.int .i64 s.1,.int .i64 s.2,.slice 3 0 (List.length (aL s.3 (bV n y.7 y.8) (WU (aB s.3 (bV n y.7 y.8)+1)))) 1,.int .i64 (s.4+1),.int .i64 4,.int .i64 (bV n y.7 y.8),.int .u64 (aB s.3 (bV n y.7 y.8)),.int .u64 (bif bM s.3 (bV n y.7 y.8)then WU (aB s.3 (bV n y.7 y.8)+1)else 0),.bool (bM s.3 (bV n y.7 y.8))]),some (.ints (some .u64) (aL s.3 (bV n y.7 y.8) (WU (aB s.3 (bV n y.7 y.8)+1)))),some (.ints (some .i64) R),some (.cells [.int .i64 t,.int .i64 n,.int .i64 x.1,.int .i64 x.2,.int .i64 x.3,.int .u64 x.4,.bool x.5]),some (.cells [.ptr 1 0,.ptr 7 0]),some (.cells [.int .i64 t,.int .i64 n,.slice 8 0 (List.length y.5) 1,.slice 9 0 (List.length y.6) 1,.slice 10 0 (List.length y.2) 1,.map 11,.int .i64 y.4,.ptr 12 0]),some (.ints (some .i64) y.5),some (.ints (some .i64) y.6),some (.ints (some .i64) y.2),some (.imap .i64 none y.3),some (.cells [.int .i64 t,.int .i64 n,.slice 13 (y.8+1) (y.9 - 1) 1]),some (.ints (some .i64) y.7)]else K (.bool false) [some (.cells [.ptr 1 0,.bool sh,.ptr 5 0,.ptr 6 0,.bool dn]),some (.cells [.int .i64 t,.int .i64 n,.int .i64 me,.int .i64 sp,.slice 4 0 (List.length R) 1]),some (.cells [.int .i64 s.1,.int .i64 s.2,.slice 3 0 (List.length (aL s.3 (bV n y.7 y.8) (WU (aB s.3 (bV n y.7 y.8)+1)))) 1,.int .i64 (s.4+1),.int .i64 4,.int .i64 (bV n y.7 y.8),.int .u64 (aB s.3 (bV n y.7 y.8)),.int .u64 (bif bM s.3 (bV n y.7 y.8)then WU (aB s.3 (bV n y.7 y.8)+1)else 0),.bool (bM s.3 (bV n y.7 y.8))]),some (.ints (some .u64) (aL s.3 (bV n y.7 y.8) (WU (aB s.3 (bV n y.7 y.8)+1)))),some (.ints (some .i64) R),some (.cells [.int .i64 t,.int .i64 n,.int .i64 x.1,.int .i64 x.2,.int .i64 x.3,.int .u64 x.4,.bool x.5]),some (.cells [.ptr 1 0,.ptr 7 0]),some (.cells [.int .i64 t,.int .i64 n,.slice 8 0 (List.length y.5) 1,.slice 9 0 (List.length y.6) 1,.slice 10 0 (List.length y.2) 1,.map 11,.int .i64 y.4,.ptr 12 0]),some (.ints (some .i64) y.5),some (.ints (some .i64) y.6),some (.ints (some .i64) y.2),some (.imap .i64 none y.3),some (.cells [.int .i64 t,.int .i64 n,.slice 13 (y.8+1) (y.9 - 1) 1]),some (.ints (some .i64) y.7)]):cT' 85 [.ptr 0 0,.ptr 2 0] [some (.cells [.ptr 1 0,.bool sh,.ptr 5 0,.ptr 6 0,.bool dn]),some (.cells [.int .i64 t,.int .i64 n,.int .i64 me,.int .i64 sp,.slice 4 0 R.length 1]),a8 3 s,a9 s,some (.ints (some .i64) R),VI t n x,some (.cells [.ptr 1 0,.ptr 7 0]),some (.cells [.int .i64 t,.int .i64 n,.slice 8 0 y.ks.length 1,.slice 9 0 y.fs.length 1,.slice 10 0 y.N.length 1,.map 11,.int .i64 y.i,.ptr 12 0]),some (.ints (some .i64) y.ks),some (.ints (some .i64) y.fs),some (.ints (some .i64) y.N),some (.imap .i64 none y.m),some (.cells [.int .i64 t,.int .i64 n,.slice 13 y.j y.l 1]),some (.ints (some .i64) y.gs)] K:=by
 refine aC8 (cM' (E:=E42) (by kernel_rfl) hK)
theorem en2(t n:Int)(e:ENS)(st:STS)(s:MS)(K:AVal→aD Ob→Prop)(hp:e.ph=2)(ok:okE t n e st s)(hK:(enF t n e st s).left t n K):cT' 85 [.ptr 0 0,.ptr 2 0] (SA t n e st s) K:=by
 obtain⟨ht,hn,hc,hm,hR,ho⟩:=ok
 obtain⟨ph,sh,dn,x,y⟩:=e
 dsimp only at hp
 subst hp
 obtain⟨me,sp,R⟩:=st
 dsimp only at hm hR
 refine aC.pack tbl (aC.pack tbl ?_)
 refine aC.unpack tbl (.store t n ⟨me,sp,R⟩) 1 0 (dG t n ⟨me,sp,R⟩) [] rfl rfl rfl rfl ?_
 refine aC.unpack tbl (.ensure t n ⟨2,sh,dn,x,y⟩) 0 1 (G7 t n ⟨2,sh,dn,x,y⟩) [1] rfl rfl rfl rfl ?_
 refine aCr t n me sp R sh dn x y s _ ?_
 exact⟨⟨⟨rfl,rfl⟩,ht,hn,hc,hR⟩,gC (o:=enF t n ⟨2,sh,dn,x,y⟩ ⟨me,sp,R⟩ s) [0,1,2,3,4,5,6,7,8,9] hK rfl rfl⟩
theorem en3(t n:Int)(e:ENS)(st:STS)(s:MS)(K:AVal→aD Ob→Prop)(hp:e.ph=3)(ok:okE t n e st s)(hK:(enF t n e st s).left t n K):cT' 85 [.ptr 0 0,.ptr 2 0] (SA t n e st s) K:=by
 obtain⟨ht,hn,hc,hm,hR,ho⟩:=ok
 obtain⟨ph,sh,dn,x,y⟩:=e
 dsimp only at hp
 subst hp
 obtain⟨me,sp,R⟩:=st
 dsimp only at hm hR
 refine aC.pack tbl (aC.pack tbl ?_)
 refine aC.unpack tbl (.store t n ⟨me,sp,R⟩) 1 0 (dG t n ⟨me,sp,R⟩) [] rfl rfl rfl rfl ?_
 refine aC.unpack tbl (.ensure t n ⟨3,sh,dn,x,y⟩) 0 1 (G7 t n ⟨3,sh,dn,x,y⟩) [1] rfl rfl rfl rfl ?_
 refine aCs t n me sp R sh dn x y s _ ?_
 have ho:y.N.length≤1000000∧0≤y.i∧y.i<2*t:=ho
 refine⟨⟨⟨rfl,rfl,rfl,rfl,rfl⟩,ht,hn,hc,ho.1,ho.2⟩,?_⟩
 unfold enF at hK
 dsimp only at hK
 cases h1:ieq (y.i+1) (2*t)with
 | false=>
   rw [h1]at hK
   exact gC (o:=⟨false,⟨3,sh,dn,x,{y with m:=aT y.m n y.i s,i:=y.i+1}⟩,⟨me,sp,R⟩,s.loadd (bG n y.i)⟩) [0,1,2,3,4,5,6,7,8,9] hK rfl rfl
 | true=>
   rw [h1]at hK
   cases h2:ieq ((aV (aT y.m n y.i s) y.N).length :Int) 0 with
   | true=>
     rw [h2]at hK
     exact gC (o:=⟨true,⟨0,true,true,x,y⟩,⟨me,sp,cI (aT y.m n y.i s) y.N⟩,s.loadd (bG n y.i)⟩) [0,1,2,3,10] hK rfl rfl
   | false=>
     rw [h2]at hK
     exact gC (o:=⟨false,⟨4,sh,dn,x,⟨0,y.N,aT y.m n y.i s,y.i+1,cI (aT y.m n y.i s) y.N,aV (aT y.m n y.i s) y.N,aV (aT y.m n y.i s) y.N,0,(aV (aT y.m n y.i s) y.N).length⟩⟩,⟨me,sp,R⟩,s.loadd (bG n y.i)⟩) [0,1,2,3,4,5,6,7,10,11,8,9,12,13] hK rfl rfl
theorem en4(t n:Int)(e:ENS)(st:STS)(s:MS)(K:AVal→aD Ob→Prop)(hp:e.ph=4)(ok:okE t n e st s)(hK:(enF t n e st s).left t n K):cT' 85 [.ptr 0 0,.ptr 2 0] (SA t n e st s) K:=by
 obtain⟨ht,hn,hc,hm,hR,ho⟩:=ok
 obtain⟨ph,sh,dn,x,y⟩:=e
 dsimp only at hp
 subst hp
 obtain⟨me,sp,R⟩:=st
 dsimp only at hm hR
 refine aC.pack tbl (aC.pack tbl ?_)
 refine aC.unpack tbl (.store t n ⟨me,sp,R⟩) 1 0 (dG t n ⟨me,sp,R⟩) [] rfl rfl rfl rfl ?_
 refine aC.unpack tbl (.ensure t n ⟨4,sh,dn,x,y⟩) 0 1 (G7 t n ⟨4,sh,dn,x,y⟩) [1] rfl rfl rfl rfl ?_
 refine aCt t n me sp R sh dn x y s _ ?_
 have ho:2*t≤y.i∧1≤y.l∧y.gs.length=y.j+y.l∧ -1000000≤List.getD y.gs (y.j+Int.toNat 0*1) 0∧List.getD y.gs (y.j+Int.toNat 0*1) 0≤1000000:=ho
 refine⟨⟨⟨rfl,rfl,rfl,rfl,rfl,rfl,rfl,rfl,rfl⟩,ht,hn,hc,ho.1,⟨ho.2.1,ho.2.2.1⟩,ho.2.2.2⟩,?_⟩
 unfold enF at hK
 dsimp only at hK
 cases h1:ieq ((y.l - 1:Nat):Int) 0 with
 | false=>
   rw [h1]at hK
   exact gC (o:=⟨false,⟨4,sh,dn,x,{y with j:=y.j+1,l:=y.l - 1}⟩,⟨me,sp,R⟩,s.added (bV n y.gs y.j) 1⟩) [0,1,2,3,4,5,6,7,8,9,10,11,12,13] hK rfl rfl
 | true=>
   rw [h1]at hK
   exact gC (o:=⟨ieq (y.fs.length:Int) 0,⟨0,ieq (y.fs.length:Int) 0,true,x,y⟩,⟨me,sp,y.ks⟩,s.added (bV n y.gs y.j) 1⟩) [0,1,2,3,8] hK rfl rfl
theorem en1(t n:Int)(e:ENS)(st:STS)(s:MS)(K:AVal→aD Ob→Prop)(hp:e.ph=1)(ok:okE t n e st s)(hK:(enF t n e st s).left t n K):cT' 85 [.ptr 0 0,.ptr 2 0] (SA t n e st s) K:=by
 obtain⟨ht,hn,hc,hm,hR,ho⟩:=ok
 obtain⟨ph,sh,dn,x,y⟩:=e
 dsimp only at hp
 subst hp
 obtain⟨me,sp,R⟩:=st
 dsimp only at hm hR
 refine aC.pack tbl (aC.pack tbl ?_)
 refine aC.unpack tbl (.store t n ⟨me,sp,R⟩) 1 0 (dG t n ⟨me,sp,R⟩) [] rfl rfl rfl rfl ?_
 refine aC.unpack tbl (.ensure t n ⟨1,sh,dn,x,y⟩) 0 1 (G7 t n ⟨1,sh,dn,x,y⟩) [1] rfl rfl rfl rfl ?_
 refine aCq t n me sp R sh dn x y s _ ?_
 have ho:okAl n x:=ho
 obtain⟨hg,ha,hl⟩:=ho
 refine⟨⟨rfl,ht,hn,ha,hl,hc⟩,?_⟩
 obtain⟨got,at',left,found,free⟩:=x
 dsimp only at hg ha hl⊢
 subst hg
 have i0:ieq at' 0=false:=by rw [bI];simp;omega
 have i00:ieq 0 0=true:=rfl
 rw [i0,i00]
 unfold enF jC yU at hK
 dsimp only at hK
 cases free with
 | false=>
   dsimp only [cond]at hK⊢
   cases ho:oddB (aB s.xs (n+4+at'))with
   | false=>
     rw [ho]at hK
     exact gC (o:=⟨false,⟨1,sh,dn,⟨0,at',left,aB s.xs (n+4+at'),true⟩,y⟩,⟨me,sp,R⟩,s.loadd (n+4+at')⟩) [0,1,2,3,4,5] hK rfl rfl
   | true=>
     rw [ho]at hK
     dsimp only [cond]at hK⊢
     cases hw:ile (left - 1) 0 with
     | false=>
       rw [hw]at hK
       exact gC (o:=⟨false,⟨1,sh,dn,⟨0,cL n at',left - 1,aB s.xs (n+4+at'),false⟩,y⟩,⟨me,sp,R⟩,s.loadd (n+4+at')⟩) [0,1,2,3,4,5] hK rfl rfl
     | true=>
       rw [hw]at hK
       cases dn with
       | true=>exact gC (o:=⟨true,⟨2,true,true,⟨0,cL n at',left - 1,aB s.xs (n+4+at'),false⟩,y⟩,⟨me,0,R⟩,s.loadd (n+4+at')⟩) [0,1,2,3,4,5,6] hK rfl rfl
       | false=>exact gC (o:=⟨ieq (R.length:Int) 0,⟨2,ieq (R.length:Int) 0,false,⟨0,cL n at',left - 1,aB s.xs (n+4+at'),false⟩,y⟩,⟨me,0,R⟩,s.loadd (n+4+at')⟩) [0,1,2,3,4,5,6] hK rfl rfl
 | true=>
   dsimp only [cond]at hK⊢
   unfold MS.cased at hK
   cases hb:aR s.xs (n+4+at') found with
   | true=>
     rw [hb]at hK
     exact gC (o:=⟨true,⟨1,sh,dn,⟨at',at',left,found,true⟩,y⟩,⟨me,at',R⟩,_⟩) [0,1,2,3,4,5] hK rfl rfl
   | false=>
     rw [hb]at hK
     dsimp only [cond]at hK⊢
     cases hw:ile (left - 1) 0 with
     | false=>
       rw [hw]at hK
       exact gC (o:=⟨false,⟨1,sh,dn,⟨0,cL n at',left - 1,found,false⟩,y⟩,⟨me,sp,R⟩,_⟩) [0,1,2,3,4,5] hK rfl rfl
     | true=>
       rw [hw]at hK
       cases dn with
       | true=>exact gC (o:=⟨true,⟨2,true,true,⟨0,cL n at',left - 1,found,false⟩,y⟩,⟨me,0,R⟩,_⟩) [0,1,2,3,4,5,6] hK rfl rfl
       | false=>exact gC (o:=⟨ieq (R.length:Int) 0,⟨2,ieq (R.length:Int) 0,false,⟨0,cL n at',left - 1,found,false⟩,y⟩,⟨me,0,R⟩,_⟩) [0,1,2,3,4,5,6] hK rfl rfl
theorem en0(t n:Int)(e:ENS)(st:STS)(s:MS)(K:AVal→aD Ob→Prop)(hp:e.ph=0)(ok:okE t n e st s)(hK:(enF t n e st s).left t n K):cT' 85 [.ptr 0 0,.ptr 2 0] (SA t n e st s) K:=by
 obtain⟨ht,hn,hc,hm,hR,ho⟩:=ok
 obtain⟨ph,sh,dn,x,y⟩:=e
 dsimp only at hp
 subst hp
 obtain⟨me,sp,R⟩:=st
 dsimp only at hm hR
 refine aC.pack tbl (aC.pack tbl ?_)
 refine aC.unpack tbl (.store t n ⟨me,sp,R⟩) 1 0 (dG t n ⟨me,sp,R⟩) [] rfl rfl rfl rfl ?_
 refine aC.unpack tbl (.ensure t n ⟨0,sh,dn,x,y⟩) 0 1 (G7 t n ⟨0,sh,dn,x,y⟩) [1] rfl rfl rfl rfl ?_
 refine aCp t n me sp R sh dn x y s _ ?_
 unfold enF jC yU at hK
 dsimp only at hK
 cases hz:ieq sp 0 with
 | false=>
   rw [hz]at hK
   exact⟨⟨rfl,by omega⟩,gC (o:=⟨true,⟨0,sh,dn,x,y⟩,⟨me,sp,R⟩,s.loadd 0⟩) [0,1,2,3,4] hK rfl rfl⟩
 | true=>
   rw [hz]at hK
   have ha:1≤at0 t n me∧at0 t n me≤n:=by
    unfold at0 bX
    cases h1:(ile 1 (aO t n me))<;>cases h2:ile (aO t n me) n<;>simp only [Bool.and_true,Bool.and_false,Bool.and_self,cond_true,cond_false]<;>rw [cG]at h1 h2<;>simp at h1 h2<;>omega
   refine⟨⟨by omega,by omega⟩,⟨trivial,trivial⟩,⟨rfl,ht,hn,ha,by omega,hc⟩,?_⟩
   show cond (oddB (aB s.xs (n+4+at0 t n me))) _ _
   cases ho:oddB (aB s.xs (n+4+at0 t n me))with
   | false=>
     rw [ho]at hK
     exact gC (o:=⟨false,⟨1,sh,dn,⟨0,at0 t n me,n,aB s.xs (n+4+at0 t n me),true⟩,y⟩,⟨me,sp,R⟩,s.loadd (n+4+at0 t n me)⟩) [0,1,2,3,4,5] hK rfl rfl
   | true=>
     rw [ho]at hK
     dsimp only [cond]at hK⊢
     cases hw:ile (n - 1) 0 with
     | false=>
       rw [hw]at hK
       exact gC (o:=⟨false,⟨1,sh,dn,⟨0,cL n (at0 t n me),n - 1,aB s.xs (n+4+at0 t n me),false⟩,y⟩,⟨me,sp,R⟩,s.loadd (n+4+at0 t n me)⟩) [0,1,2,3,4,5] hK rfl rfl
     | true=>
       rw [hw]at hK
       cases dn with
       | true=>exact gC (o:=⟨true,⟨2,true,true,⟨0,cL n (at0 t n me),n - 1,aB s.xs (n+4+at0 t n me),false⟩,y⟩,⟨me,0,R⟩,s.loadd (n+4+at0 t n me)⟩) [0,1,2,3,4,5,6] hK rfl rfl
       | false=>exact gC (o:=⟨ieq (R.length:Int) 0,⟨2,ieq (R.length:Int) 0,false,⟨0,cL n (at0 t n me),n - 1,aB s.xs (n+4+at0 t n me),false⟩,y⟩,⟨me,0,R⟩,s.loadd (n+4+at0 t n me)⟩) [0,1,2,3,4,5,6] hK rfl rfl
theorem HD(t n:Int)(e:ENS)(st:STS)(s:MS)(K:AVal→aD Ob→Prop)(ok:okE t n e st s)(hK:(enF t n e st s).left t n K):cT' 85 [.ptr 0 0,.ptr 2 0] (SA t n e st s) K:=by
 match h:e.ph with
 | 0=>exact en0 t n e st s K h ok hK
 | 1=>exact en1 t n e st s K h ok hK
 | 2=>exact en2 t n e st s K h ok hK
 | 3=>exact en3 t n e st s K h ok hK
 | 4=>exact en4 t n e st s K h ok hK
 | k+5=>have:=ok.ho;unfold aBO at this;rw [h]at this;exact this.elim
noncomputable def enS:aJ Ob:=fun args h=>match args,h with
 | [.ptr 0 0,.ptr 2 0],[some (.abs (.ensure t n e) [1]),some (.abs (.store t' n' st) []),e1,e2]=>(match cW 3 [e1,e2]with
   | some (l,s)=>some (.pre ((l=s.xs.length∧t'=t∧n'=n)∧okE t n e st s) (.ret (.bool (enF t n e st s).d) (SA t n (enF t n e st s).e (enF t n e st s).st (enF t n e st s).s)))
   | none=>none)
 | _,_=>none
theorem aBu:aJ.ok E42.I Tryz.prog 85 enS:=by
 intro args h o ho K hK
 unfold enS at ho
 split at ho
 case h_2=>cases ho
 split at ho<;>cases ho
 rename_i hm
 obtain⟨⟨⟨hl,ht',hn'⟩,ok⟩,hK⟩:=hK
 have hh:=bA hm hl
 cases hh
 subst ht' hn'
 exact HD _ _ _ _ _ K ok hK
noncomputable def enE:=E42.addS 85 enS aBu
structure SO where
 d:Bool
 e:SWS
 st:STS
 s:MS
instance:Inhabited SO:=⟨⟨false,bH,⟨0,0,[]⟩,⟨0,0,[],0,0,0,0,0,false⟩⟩⟩
def swF(t n:Int)(y:SWS)(st:STS)(s:MS):SO:=match y.ph with
 | 0=>⟨false,{y with ph:=1,N:=st.R,m:=aT [] n 0 s,i:=1},st,s.loadd (bG n 0)⟩
 | 1=>(match ieq (y.i+1) (2*t),ieq ((aV (aT y.m n y.i s) y.N).length :Int) 0 with
   | true,true=>⟨true,{y with ph:=3},{st with R:=cI (aT y.m n y.i s) y.N},s.loadd (bG n y.i)⟩
   | true,false=>⟨false,⟨2,y.N,aT y.m n y.i s,y.i+1,cI (aT y.m n y.i s) y.N,aV (aT y.m n y.i s) y.N,aV (aT y.m n y.i s) y.N,0,(aV (aT y.m n y.i s) y.N).length⟩,st,s.loadd (bG n y.i)⟩
   | false,_=>⟨false,{y with m:=aT y.m n y.i s,i:=y.i+1},st,s.loadd (bG n y.i)⟩)
 | _=>(match ieq ((y.l - 1:Nat):Int) 0 with
   | true=>⟨true,{y with ph:=3},{st with R:=y.ks},s.added (bV n y.gs y.j) 1⟩
   | false=>⟨false,{y with j:=y.j+1,l:=y.l - 1},st,s.added (bV n y.gs y.j) 1⟩)
def WE(t n:Int)(y:SWS):Prop:=match y.ph with
 | 0=>True
 | 1=>y.N.length≤1000000∧0≤y.i∧y.i<2*t
 | 2=>2*t≤y.i∧1≤y.l∧y.gs.length=y.j+y.l∧ -1000000≤List.getD y.gs (y.j+Int.toNat 0*1) 0∧List.getD y.gs (y.j+Int.toNat 0*1) 0≤1000000
 | _=>False
structure qO (t n:Int) (y:SWS) (st:STS) (s:MS):Prop where
 ht:1≤t∧t≤1000
 hn:1≤n∧n≤1000
 hc:0≤s.c∧s.c≤1000000
 hR:st.R.length≤1000000
 ho:WE t n y
def swH(t n:Int)(y:SWS)(st:STS)(s:MS):aD Ob:=[some (.abs (.sweep t n y) [1]),some (.abs (.store t n st) []),a8 3 s,a9 s]
def SO.left(o:SO)(t n:Int)(K:AVal→aD Ob→Prop):Prop:=K (.bool o.d) (swH t n o.e o.st o.s)
theorem xW{K:AVal→aD Ob→Prop}{t n:Int}{o:SO}{g':aD Ob}(pl:List Nat)(hK:o.left t n K)
 (hb:(eU pl g'.length&&jV pl 0 4&&tA 1 (P1 t n o.e))=true)
 (hT:gI pl g'=a7 [some (.abs (.sweep t n o.e) [1]),some (.cells [.int .i64 t,.int .i64 n,.int .i64 o.st.me,.int .i64 o.st.sp,.slice 4 0 o.st.R.length 1]),a8 3 o.s,a9 o.s,some (.ints (some .i64) o.st.R)] 0 1 (P1 t n o.e) [1]):AI tbl 4 (AI tbl 4 K) (.bool o.d) g':=by
 simp only [Bool.and_eq_true]at hb
 obtain⟨⟨b1,b2⟩,b3⟩:=hb
 refine⟨pl,_,.sweep t n o.e,0,1,_,[1],?_,hT,rfl,rfl,⟨[0,1,2,3,4],[some (.abs (.sweep t n o.e) [1]),some (.abs (.store t n o.st) []),a8 3 o.s,a9 o.s],.store t n o.st,1,0,dG t n o.st,[],rfl,rfl,rfl,rfl,?_⟩⟩
 ·rw [b1,b2,b3];rfl
 ·exact hK
def PX(t n me sp:Int)(R:List Int)(y:SWS)(s:MS)(K:AVal→aD Ob→Prop):Prop:=((lE' s.3∧lE' R)∧((1:Int)≤t∧t≤(1000:Int))∧((1:Int)≤n∧n≤(1000:Int))∧((0:Int)≤s.4∧s.4≤(1000000:Int))∧List.length R≤(1000000:Nat))∧K (.bool false) [some (.cells [.ptr 1 0,.ptr 5 0]),some (.cells [.int .i64 t,.int .i64 n,.int .i64 me,.int .i64 sp,.slice 4 0 (List.length R) 1]),some (.cells [.int .i64 s.1,.int .i64 s.2,.slice 3 0 (List.length s.3) 1,.int .i64 (s.4+1),.int .i64 1,.int .i64 (bG n 0),.int .u64 (aB s.3 (bG n 0)),.int .u64 (aB s.3 (bG n 0)),.bool (bM s.3 (bG n 0))]),some (.ints (some .u64) s.3),some (.ints (some .i64) R),some (.cells [.int .i64 t,.int .i64 n,.raw (Value.slice none 0 0),.raw (Value.slice none 0 0),.slice 6 0 (List.length R) 1,.map 7,.int .i64 1,.raw (Value.pointer none)]),some (.ints (some .i64) R),some (.imap .i64 none (aT [] n 0 s))]
theorem aCC(t n me sp:Int)(R:List Int)(y:SWS)(s:MS)(K:AVal→aD Ob→Prop)(hK:PX t n me sp R y s K):cT' 195 [.ptr 0 0,.ptr 2 0] [some (.cells [.ptr 1 0,.raw (.pointer none)]),some (.cells [.int .i64 t,.int .i64 n,.int .i64 me,.int .i64 sp,.slice 4 0 R.length 1]),a8 3 s,a9 s,some (.ints (some .i64) R)] K:=
 (kW oI) _ _ _ (Ev.get (aN (p:=oY swStepS [.ptr 0 0,.ptr 2 0] [some (.cells [.ptr 1 0,.raw (.pointer none)]),some (.cells [.int .i64 t,.int .i64 n,.int .i64 me,.int .i64 sp,.slice 4 0 R.length 1]),a8 3 s,a9 s,some (.ints (some .i64) R)] K) (q:=PX t n me sp R y s K) (by kernel_rfl) hK))
def PY(t n me sp:Int)(R:List Int)(y:SWS)(s:MS)(K:AVal→aD Ob→Prop):Prop:=((lE' s.3∧lE' R∧lE' y.2∧t=t∧n=n)∧((1:Int)≤t∧t≤(1000:Int))∧((1:Int)≤n∧n≤(1000:Int))∧((0:Int)≤s.4∧s.4≤(1000000:Int))∧List.length y.2≤(1000000:Nat)∧(0:Int)≤y.4∧y.4<(2:Int)*t)∧bif ieq (y.4+1) (2*t)then bif ieq (↑(List.length (aV (aT y.3 n y.4 s) y.2)):Int) 0 then K (.bool true) [some (.cells [.ptr 1 0,.ptr 5 0]),some (.cells [.int .i64 t,.int .i64 n,.int .i64 me,.int .i64 sp,.slice 8 0 (List.length (cI (aT y.3 n y.4 s) y.2)) 1]),some (.cells [.int .i64 s.1,.int .i64 s.2,.slice 3 0 (List.length s.3) 1,.int .i64 (s.4+1),.int .i64 1,.int .i64 (bG n y.4),.int .u64 (aB s.3 (bG n y.4)),.int .u64 (aB s.3 (bG n y.4)),.bool (bM s.3 (bG n y.4))]),some (.ints (some .u64) s.3),some (.ints (some .i64) R),some (.cells [.int .i64 t,.int .i64 n,.slice 8 0 (List.length (cI (aT y.3 n y.4 s) y.2)) 1,.slice 9 0 (List.length (aV (aT y.3 n y.4 s) y.2)) 1,.slice 6 0 (List.length y.2) 1,.map 7,.int .i64 (y.4+1),.ptr 10 0]),some (.ints (some .i64) y.2),some (.imap .i64 none (aT y.3 n y.4 s)),some (.ints (some .i64) (cI (aT y.3 n y.4 s) y.2)),some (.ints (some .i64) (aV (aT y.3 n y.4 s) y.2)),some (.cells [.int .i64 t,.int .i64 n,.slice 11 0 (List.length (aV (aT y.3 n y.4 s) y.2)) 1]),some (.ints (some .i64) (aV (aT y.3 n y.4 s) y.2))]else K (.bool false) [some (.cells [.ptr 1 0,.ptr 5 0]),some (.cells [.int .i64 t,.int .i64 n,.int .i64 me,.int .i64 sp,.slice 4 0 (List.length R) 1]),some (.cells [.int .i64 s.1,.int .i64 s.2,.slice 3 0 (List.length s.3) 1,.int .i64 (s.4+1),.int .i64 1,.int .i64 (bG n y.4),.int .u64 (aB s.3 (bG n y.4)),.int .u64 (aB s.3 (bG n y.4)),.bool (bM s.3 (bG n y.4))]),some (.ints (some .u64) s.3),some (.ints (some .i64) R),some (.cells [.int .i64 t,.int .i64 n,.slice 8 0 (List.length (cI (aT y.3 n y.4 s) y.2)) 1,.slice 9 0 (List.length (aV (aT y.3 n y.4 s) y.2)) 1,.slice 6 0 (List.length y.2) 1,.map 7,.int .i64 (y.4+1),.ptr 10 0]),some (.ints (some .i64) y.2),some (.imap .i64 none (aT y.3 n y.4 s)),some (.ints (some .i64) (cI (aT y.3 n y.4 s) y.2)),some (.ints (some .i64) (aV (aT y.3 n y.4 s) y.2)),some (.cells [.int .i64 t,.int .i64 n,.slice 11 0 (List.length (aV (aT y.3 n y.4 s) y.2)) 1]),some (.ints (some .i64) (aV (aT y.3 n y.4 s) y.2))]else K (.bool false) [some (.cells [.ptr 1 0,.ptr 5 0]),some (.cells [.int .i64 t,.int .i64 n,.int .i64 me,.int .i64 sp,.slice 4 0 (List.length R) 1]),some (.cells [.int .i64 s.1,.int .i64 s.2,.slice 3 0 (List.length s.3) 1,.int .i64 (s.4+1),.int .i64 1,.int .i64 (bG n y.4),.int .u64 (aB s.3 (bG n y.4)),.int .u64 (aB s.3 (bG n y.4)),.bool (bM s.3 (bG n y.4))]),some (.ints (some .u64) s.3),some (.ints (some .i64) R),some (.cells [.int .i64 t,.int .i64 n,.raw (Value.slice none 0 0),.raw (Value.slice none 0 0),.slice 6 0 (List.length y.2) 1,.map 7,.int .i64 (y.4+1),.raw (Value.pointer none)]),some (.ints (some .i64) y.2),some (.imap .i64 none (aT y.3 n y.4 s))]
theorem aCD(t n me sp:Int)(R:List Int)(y:SWS)(s:MS)(K:AVal→aD Ob→Prop)(hK:PY t n me sp R y s K):cT' 195 [.ptr 0 0,.ptr 2 0] [some (.cells [.ptr 1 0,.ptr 5 0]),some (.cells [.int .i64 t,.int .i64 n,.int .i64 me,.int .i64 sp,.slice 4 0 R.length 1]),a8 3 s,a9 s,some (.ints (some .i64) R),some (.cells [.int .i64 t,.int .i64 n,.raw (.slice none 0 0),.raw (.slice none 0 0),.slice 6 0 y.N.length 1,.map 7,.int .i64 y.i,.raw (.pointer none)]),some (.ints (some .i64) y.N),some (.imap .i64 none y.m)] K:=
 (kW oI) _ _ _ (Ev.get (aN (p:=oY swStepS [.ptr 0 0,.ptr 2 0] [some (.cells [.ptr 1 0,.ptr 5 0]),some (.cells [.int .i64 t,.int .i64 n,.int .i64 me,.int .i64 sp,.slice 4 0 R.length 1]),a8 3 s,a9 s,some (.ints (some .i64) R),some (.cells [.int .i64 t,.int .i64 n,.raw (.slice none 0 0),.raw (.slice none 0 0),.slice 6 0 y.N.length 1,.map 7,.int .i64 y.i,.raw (.pointer none)]),some (.ints (some .i64) y.N),some (.imap .i64 none y.m)] K) (q:=PY t n me sp R y s K) (by kernel_rfl) hK))
def P0(t n me sp:Int)(R:List Int)(y:SWS)(s:MS)(K:AVal→aD Ob→Prop):Prop:=((lE' s.3∧lE' R∧lE' y.5∧lE' y.6∧lE' y.2∧t=t∧n=n∧t=t∧n=n)∧((1:Int)≤t∧t≤(1000:Int))∧((1:Int)≤n∧n≤(1000:Int))∧((0:Int)≤s.4∧s.4≤(1000000:Int))∧2*t≤y.4∧((1:Nat)≤y.9∧List.length y.7=y.8+y.9)∧(-1000000:Int)≤List.getD y.7 (y.8+Int.toNat 0*1) 0∧List.getD y.7 (y.8+Int.toNat 0*1) (0:Int)≤(1000000:Int))∧bif ieq (↑(y.9 - 1):Int) 0 then K (.bool true) [some (.cells [.ptr 1 0,.ptr 5 0]),some (.cells [.int .i64 t,.int .i64 n,.int .i64 me,.int .i64 sp,.slice 6 0 (List.length y.5) 1]),some (.cells [.int .i64 s.1,.int .i64 s.2,.slice 3 0 (List.length (aL s.3 (bV n y.7 y.8) (WU (aB s.3 (bV n y.7 y.8)+1)))) 1,.int .i64 (s.4+1),.int .i64 4,.int .i64 (bV n y.7 y.8),.int .u64 (aB s.3 (bV n y.7 y.8)),.int .u64 (bif bM s.3 (bV n y.7 y.8)then WU (aB s.3 (bV n y.7 y.8)+1)else 0),.bool (bM s.3 (bV n y.7 y.8))]),some (.ints (some .u64) (aL s.3 (bV n y.7 y.8) (WU (aB s.3 (bV n y.7 y.8)+1)))),some (.ints (some .i64) R),some (.cells [.int .i64 t,.int .i64 n,.slice 6 0 (List.length y.5) 1,.slice 7 0 (List.length y.6) 1,.slice 8 0 (List.length y.2) 1,.map 9,.int .i64 y.4,.ptr 10 0]),some (.ints (some .i64) y.5),some (.ints (some .i64) y.6),some (.ints (some .i64) y.2),some (.imap .i64 none y.3),some (.cells [.int .i64 t,.int .i64 n,.slice 11 (y.8+1) (y.9 - 1) 1]),some (.ints (some .i64) y.7)]else K (.bool false) [some (.cells [.ptr 1 0,.ptr 5 0]),some (.cells [.int .i64 t,.int .i64 n,.int .i64 me,.int .i64 sp,.slice 4 0 (List.length R) 1]),some (.cells [.int .i64 s.1,.int .i64 s.2,.slice 3 0 (List.length (aL s.3 (bV n y.7 y.8) (WU (aB s.3 (bV n y.7 y.8)+1)))) 1,.int .i64 (s.4+1),.int .i64 4,.int .i64 (bV n y.7 y.8),.int .u64 (aB s.3 (bV n y.7 y.8)),.int .u64 (bif bM s.3 (bV n y.7 y.8)then WU (aB s.3 (bV n y.7 y.8)+1)else 0),.bool (bM s.3 (bV n y.7 y.8))]),some (.ints (some .u64) (aL s.3 (bV n y.7 y.8) (WU (aB s.3 (bV n y.7 y.8)+1)))),some (.ints (some .i64) R),some (.cells [.int .i64 t,.int .i64 n,.slice 6 0 (List.length y.5) 1,.slice 7 0 (List.length y.6) 1,.slice 8 0 (List.length y.2) 1,.map 9,.int .i64 y.4,.ptr 10 0]),some (.ints (some .i64) y.5),some (.ints (some .i64) y.6),some (.ints (some .i64) y.2),some (.imap .i64 none y.3),some (.cells [.int .i64 t,.int .i64 n,.slice 11 (y.8+1) (y.9 - 1) 1]),some (.ints (some .i64) y.7)]
theorem aCE(t n me sp:Int)(R:List Int)(y:SWS)(s:MS)(K:AVal→aD Ob→Prop)(hK:P0 t n me sp R y s K):cT' 195 [.ptr 0 0,.ptr 2 0] [some (.cells [.ptr 1 0,.ptr 5 0]),some (.cells [.int .i64 t,.int .i64 n,.int .i64 me,.int .i64 sp,.slice 4 0 R.length 1]),a8 3 s,a9 s,some (.ints (some .i64) R),some (.cells [.int .i64 t,.int .i64 n,.slice 6 0 y.ks.length 1,.slice 7 0 y.fs.length 1,.slice 8 0 y.N.length 1,.map 9,.int .i64 y.i,.ptr 10 0]),some (.ints (some .i64) y.ks),some (.ints (some .i64) y.fs),some (.ints (some .i64) y.N),some (.imap .i64 none y.m),some (.cells [.int .i64 t,.int .i64 n,.slice 11 y.j y.l 1]),some (.ints (some .i64) y.gs)] K:=
 (kW oI) _ _ _ (Ev.get (aN (p:=oY swStepS [.ptr 0 0,.ptr 2 0] [some (.cells [.ptr 1 0,.ptr 5 0]),some (.cells [.int .i64 t,.int .i64 n,.int .i64 me,.int .i64 sp,.slice 4 0 R.length 1]),a8 3 s,a9 s,some (.ints (some .i64) R),some (.cells [.int .i64 t,.int .i64 n,.slice 6 0 y.ks.length 1,.slice 7 0 y.fs.length 1,.slice 8 0 y.N.length 1,.map 9,.int .i64 y.i,.ptr 10 0]),some (.ints (some .i64) y.ks),some (.ints (some .i64) y.fs),some (.ints (some .i64) y.N),some (.imap .i64 none y.m),some (.cells [.int .i64 t,.int .i64 n,.slice 11 y.j y.l 1]),some (.ints (some .i64) y.gs)] K) (q:=P0 t n me sp R y s K) (by kernel_rfl) hK))
theorem wc{x y:Option (aK Ob)}{g g2:aD Ob}(h:oT x y)(k:kC g g2):kC (x::g) (y::g2):=⟨h,k⟩
theorem wv{v w:AVal}{vs ws:List AVal}(h:w=v∨w=.O)(k:n6 vs ws):n6 (v::vs) (w::ws):=⟨h,k⟩
theorem aCH:n6 [] []:=trivial
theorem aBY{vs ws:List AVal}(h:n6 vs ws):oT (some (.cells vs):Option (aK Ob)) (some (.cells ws)):=h
theorem wvs: ∀vs:List AVal,n6 vs vs
 | []=>trivial
 | v::vs=>⟨.inl rfl,wvs vs⟩
theorem aBZ: ∀x:Option (aK Ob),oT x x
 | none=>trivial
 | some (.cells vs)=>wvs vs
 | some (.ints c xs)=>rfl
 | some (.abs t ps)=>rfl
 | some (.tab ks r)=>rfl
 | some (.imap k v m)=>rfl
theorem F7: ∀g:aD Ob,kC g g
 | []=>trivial
 | x::g=>⟨aBZ x,F7 g⟩
theorem tL{K:AVal→aD Ob→Prop}{v:AVal}{g:aD Ob}(h:K v g):LY K v g:=⟨g,F7 g,h⟩
theorem CR{K:AVal→aD Ob→Prop}{v a b:AVal}{g:aD Ob}(h:K v (some (.cells [a,.O])::g)):LY K v (some (.cells [a,b])::g):=⟨_,wc (aBY (wv (.inl rfl) (wv (.inr rfl) aCH))) (F7 g),h⟩
theorem sw0(t n:Int)(y:SWS)(st:STS)(s:MS)(K:AVal→aD Ob→Prop)(hp:y.ph=0)(ok:qO t n y st s)(hK:(swF t n y st s).left t n K):cT' 195 [.ptr 0 0,.ptr 2 0] (swH t n y st s) K:=by
 obtain⟨ht,hn,hc,hR,ho⟩:=ok
 obtain⟨ph,N,m,i,ks,fs,gs,j,l⟩:=y
 dsimp only at hp
 subst hp
 obtain⟨me,sp,R⟩:=st
 dsimp only at hR
 refine aC.pack tbl (aC.pack tbl (aDM ?_))
 refine aC.unpack tbl (.store t n ⟨me,sp,R⟩) 1 0 (dG t n ⟨me,sp,R⟩) [] rfl rfl rfl rfl ?_
 refine aC.unpack tbl (.sweep t n ⟨0,N,m,i,ks,fs,gs,j,l⟩) 0 1 (P1 t n ⟨0,N,m,i,ks,fs,gs,j,l⟩) [1] rfl rfl rfl rfl ?_
 refine aCC t n me sp R ⟨0,N,m,i,ks,fs,gs,j,l⟩ s _ ?_
 unfold PX
 exact⟨⟨⟨rfl,rfl⟩,ht,hn,hc,hR⟩,tL (xW (o:=swF t n ⟨0,N,m,i,ks,fs,gs,j,l⟩ ⟨me,sp,R⟩ s) [0,1,2,3,4,5,6,7] hK rfl rfl)⟩
theorem sw1(t n:Int)(y:SWS)(st:STS)(s:MS)(K:AVal→aD Ob→Prop)(hp:y.ph=1)(ok:qO t n y st s)(hK:(swF t n y st s).left t n K):cT' 195 [.ptr 0 0,.ptr 2 0] (swH t n y st s) K:=by
 obtain⟨ht,hn,hc,hR,ho⟩:=ok
 obtain⟨ph,N,m,i,ks,fs,gs,j,l⟩:=y
 dsimp only at hp
 subst hp
 obtain⟨me,sp,R⟩:=st
 dsimp only at hR
 refine aC.pack tbl (aC.pack tbl (aDM ?_))
 refine aC.unpack tbl (.store t n ⟨me,sp,R⟩) 1 0 (dG t n ⟨me,sp,R⟩) [] rfl rfl rfl rfl ?_
 refine aC.unpack tbl (.sweep t n ⟨1,N,m,i,ks,fs,gs,j,l⟩) 0 1 (P1 t n ⟨1,N,m,i,ks,fs,gs,j,l⟩) [1] rfl rfl rfl rfl ?_
 refine aCD t n me sp R ⟨1,N,m,i,ks,fs,gs,j,l⟩ s _ ?_
 unfold PY
 have ho:N.length≤1000000∧0≤i∧i<2*t:=ho
 refine⟨⟨⟨rfl,rfl,rfl,rfl,rfl⟩,ht,hn,hc,ho.1,ho.2⟩,?_⟩
 unfold swF at hK
 dsimp only at hK⊢
 cases h1:ieq (i+1) (2*t)with
 | false=>
   rw [h1]at hK
   exact tL (xW (o:=⟨false,⟨1,N,aT m n i s,i+1,ks,fs,gs,j,l⟩,⟨me,sp,R⟩,s.loadd (bG n i)⟩) [0,1,2,3,4,5,6,7] hK rfl rfl)
 | true=>
   rw [h1]at hK
   cases h2:ieq ((aV (aT m n i s) N).length :Int) 0 with
   | true=>
     rw [h2]at hK
     exact CR (xW (o:=⟨true,⟨3,N,m,i,ks,fs,gs,j,l⟩,⟨me,sp,cI (aT m n i s) N⟩,s.loadd (bG n i)⟩) [0,1,2,3,8] hK rfl rfl)
   | false=>
     rw [h2]at hK
     exact tL (xW (o:=⟨false,⟨2,N,aT m n i s,i+1,cI (aT m n i s) N,aV (aT m n i s) N,aV (aT m n i s) N,0,(aV (aT m n i s) N).length⟩,⟨me,sp,R⟩,s.loadd (bG n i)⟩) [0,1,2,3,4,5,8,9,6,7,10,11] hK rfl rfl)
theorem sw2(t n:Int)(y:SWS)(st:STS)(s:MS)(K:AVal→aD Ob→Prop)(hp:y.ph=2)(ok:qO t n y st s)(hK:(swF t n y st s).left t n K):cT' 195 [.ptr 0 0,.ptr 2 0] (swH t n y st s) K:=by
 obtain⟨ht,hn,hc,hR,ho⟩:=ok
 obtain⟨ph,N,m,i,ks,fs,gs,j,l⟩:=y
 dsimp only at hp
 subst hp
 obtain⟨me,sp,R⟩:=st
 dsimp only at hR
 refine aC.pack tbl (aC.pack tbl (aDM ?_))
 refine aC.unpack tbl (.store t n ⟨me,sp,R⟩) 1 0 (dG t n ⟨me,sp,R⟩) [] rfl rfl rfl rfl ?_
 refine aC.unpack tbl (.sweep t n ⟨2,N,m,i,ks,fs,gs,j,l⟩) 0 1 (P1 t n ⟨2,N,m,i,ks,fs,gs,j,l⟩) [1] rfl rfl rfl rfl ?_
 refine aCE t n me sp R ⟨2,N,m,i,ks,fs,gs,j,l⟩ s _ ?_
 unfold P0
 have ho:2*t≤i∧1≤l∧gs.length=j+l∧ -1000000≤List.getD gs (j+Int.toNat 0*1) 0∧List.getD gs (j+Int.toNat 0*1) 0≤1000000:=ho
 refine⟨⟨⟨rfl,rfl,rfl,rfl,rfl,rfl,rfl,rfl,rfl⟩,ht,hn,hc,ho.1,⟨ho.2.1,ho.2.2.1⟩,ho.2.2.2⟩,?_⟩
 unfold swF at hK
 dsimp only at hK⊢
 cases h1:ieq ((l - 1:Nat):Int) 0 with
 | false=>
   rw [h1]at hK
   exact tL (xW (o:=⟨false,⟨2,N,m,i,ks,fs,gs,j+1,l - 1⟩,⟨me,sp,R⟩,s.added (bV n gs j) 1⟩) [0,1,2,3,4,5,6,7,8,9,10,11] hK rfl rfl)
 | true=>
   rw [h1]at hK
   exact CR (xW (o:=⟨true,⟨3,N,m,i,ks,fs,gs,j,l⟩,⟨me,sp,ks⟩,s.added (bV n gs j) 1⟩) [0,1,2,3,6] hK rfl rfl)
theorem U6(t n:Int)(y:SWS)(st:STS)(s:MS)(K:AVal→aD Ob→Prop)(ok:qO t n y st s)(hK:(swF t n y st s).left t n K):cT' 195 [.ptr 0 0,.ptr 2 0] (swH t n y st s) K:=by
 match h:y.ph with
 | 0=>exact sw0 t n y st s K h ok hK
 | 1=>exact sw1 t n y st s K h ok hK
 | 2=>exact sw2 t n y st s K h ok hK
 | k+3=>have:=ok.ho;unfold WE at this;rw [h]at this;exact this.elim
theorem fC{I:Itp Ob}{n:Nat}{K:AVal→aD Ob→Prop}{d:Bool}{a b g:aD Ob}(hK:(Out.ite d (.ret (.bool true) a) (.ret (.bool false) b)).run K)(h1:K (.bool true) a→iE I n K (.bool true) g)(h2:d=false→K (.bool false) b→iE I n K (.bool false) g):iE I n K (.bool d) g:=by
 cases d with
 | true=>exact h1 hK
 | false=>exact h2 rfl hK
abbrev stC(l:Nat)(t n:Int)(st:STS):Option (aK Mc):=some (.cells [.int .i64 t,.int .i64 n,.int .i64 st.me,.int .i64 st.sp,.slice l 0 st.R.length 1])
abbrev fS(st:STS):Option (aK Mc):=some (.ints (some .i64) st.R)
def j9(w:Nat)(h:aD Ob):Option (Nat×Int×Int×STS):=match h with
 | [some (.cells [.int .i64 t,.int .i64 n,.int .i64 me,.int .i64 sp,.slice l 0 len 1]),some (.ints (some .i64) xs)]=>if l=w then some (len,t,n,⟨me,sp,xs⟩)else none
 | _=>none
theorem cD{w:Nat}{h:aD Ob}{l:Nat}{t n:Int}{st:STS}(e:j9 w h=some (l,t,n,st))(hl:l=st.R.length):h=[stC w t n st,fS st]:=by
 unfold j9 at e
 split at e
 ·split at e
  ·rename_i hw
   simp only [sI',pI']at e
   obtain⟨rfl,rfl,rfl,rfl⟩:=e
   subst hw
   simp only at hl;subst hl;rfl
  ·cases e
 ·cases e
theorem i6{f:FuncId}{t n:Int}{st st':STS}{s s':MS}{M:Mc}{e1 e2:aK Mc}{d:Bool}(h1: ∀ι:Nat→Nat,ι 1=1→e1.ren ι=e1)(h2: ∀ι:Nat→Nat,ι 1=1→e2.ren ι=e2)
 (hA: ∀K,(Out.ite d (.ret (.bool true) [some e1,some (.abs (.store t n st') []),a8 3 s',a9 s']) (.ret (.bool false) [some e2,some (.abs (.store t n st') []),a8 3 s',a9 s'])).run K→cT' f [.ptr 0 0,.ptr 2 0] [some (.abs M [1]),some (.abs (.store t n st) []),a8 3 s,a9 s] K)
 (K:AVal→aD Ob→Prop) (hK:(Out.ite d (.ret (.bool true) [some e1,stC 5 t n st',none,a8 4 s',a9 s',fS st']) (.ret (.bool false) [some e2,stC 5 t n st',none,a8 4 s',a9 s',fS st'])).run K):
 cT' f [.ptr 0 0,.ptr 3 0] [some (.abs M [1]),stC 2 t n st,fS st,a8 4 s,a9 s] K:=by
 refine aDz ?_
 refine aDF (h0:=[some (.abs M [1]),stC 4 t n st,a8 3 s,a9 s,fS st]) (args0:=[.ptr 0 0,.ptr 2 0]) (K0:=fun v g=>iE (obI tbl) 5 K (v.ren (iota [0,1,3,4,2] 5)) (nJ [some (.abs M [1]),stC 2 t n st,fS st,a8 4 s,a9 s] [0,1,3,4,2] g)) ?_ [0,1,3,4,2] rfl (by decide) (by intro l hl;simp at hl⊢;omega) ?_ rfl (fun v g hk _=>hk)
 ·refine aDU tbl [some (.abs M [1]),some (.abs (.store t n st) []),a8 3 s,a9 s] (.store t n st) 1 0 (dG t n st) [] (by kernel_rfl) rfl rfl (by kernel_rfl) (hA _ ?_)
  have i1:farI 4 1 1=1:=rfl
  have i2:iota [0,1,3,4,2] 5 1=1:=rfl
  cases d with
  | true=>
    have q1:((e1.ren (farI 4 1)).ren (iota [0,1,3,4,2] 5))=e1:=by rw [h1 _ i1,h1 _ i2]
    refine⟨_,_,aF.trans (aF.eq (g2:=[some e1,some (.abs (.store t n st') []),none,a8 4 s',a9 s']) (by kernel_rfl) ?_) (aF.unpack (.store t n st') 1 0 (dG t n st') [] rfl rfl rfl rfl),hK⟩
    show [some ((e1.ren (farI 4 1)).ren (iota [0,1,3,4,2] 5)),_,_,_,_]=_
    rw [q1];rfl
  | false=>
    have q2:((e2.ren (farI 4 1)).ren (iota [0,1,3,4,2] 5))=e2:=by rw [h2 _ i1,h2 _ i2]
    refine⟨_,_,aF.trans (aF.eq (g2:=[some e2,some (.abs (.store t n st') []),none,a8 4 s',a9 s']) (by kernel_rfl) ?_) (aF.unpack (.store t n st') 1 0 (dG t n st') [] rfl rfl rfl rfl),hK⟩
    show [some ((e2.ren (farI 4 1)).ren (iota [0,1,3,4,2] 5)),_,_,_,_]=_
    rw [q2];rfl
 ·intro i l hi
  match i,hi with
  | 0,hi=>cases hi;rfl
  | 1,hi=>cases hi;rfl
  | 2,hi=>cases hi;rfl
  | 3,hi=>cases hi;rfl
  | 4,hi=>cases hi;rfl
  | _+5,hi=>cases hi
def bS(kd:Int):Bool:=ieq kd 1||ieq kd 4
def nN(sh kd:Int):Bool:=ieq kd 5&&ieq sh 4
def eJ(sh kd:Int):Bool:=ieq kd 2||ieq kd 5&&ieq sh 3
def fU(ky curr cw:Int):Bool:=bif ieq curr 0 then false else ieq (aA cw 0 10) ky
def cB(sh ky:Int):Int:=bif ieq sh 2 then ky%4 else 0
def bT(sh kd ky:Int):Int:=bif ieq sh 2 then ky else bif ieq sh 1 then ky else bif ieq sh 3 then(bif bS kd then 1024 else -1)else -1
def OB:bL Ob:=fun args h=>match args,h with
 | [.agg [.int .i64 t,.int .i64 n],.int .i64 a],[]=>some ((0≤n∧n≤100000)∧(-1000000≤a∧a≤1000000),.int .i64 (n+1+a))
 | _,_=>none
theorem TP:sT' 65 OB.spec:=by
 intro args h o ho K hK
 unfold bL.spec OB at ho
 split at ho
 case h_2=>cases ho
 rename_i p v hp
 split at hp
 case h_2=>cases hp
 rename_i t n a
 simp only [sI',pI']at hp
 obtain⟨rfl,rfl⟩:=hp
 simp only [sI']at ho;subst ho
 obtain⟨hp,hK⟩:=hK
 have hK:K (.int .i64 (n+1+a)) []:=hK
 refine aC8 (cM' (E:=enE) (q:=K (.int .i64 (W (W (1+n)+a))) []) (by kernel_rfl) ?_)
 simp(disch:=omega) only [W,cT]
 refine cast (congrArg (fun z=>K (AVal.int .i64 z) []) ?_) hK
 omega
def F6:bL Ob:=fun args h=>match args,h with
 | [.agg [.int .i64 k,.int .i64 y,.bool m,.int .i64 c,.int .i64 v]],[]=>some (0≤v∧v≤1000000,.agg [.int .i64 k,.int .i64 y,.bool m,.int .i64 0,.int .i64 (aQ v)])
 | _,_=>none
theorem QB:sT' 165 F6.spec:=by
 intro args h o ho K hK
 unfold bL.spec F6 at ho
 split at ho
 case h_2=>cases ho
 rename_i p v hp
 split at hp
 case h_2=>cases hp
 rename_i k y m c v
 simp only [sI',pI']at hp
 obtain⟨rfl,rfl⟩:=hp
 simp only [sI']at ho;subst ho
 obtain⟨hp,hK⟩:=hK
 have hK:K (.agg [.int .i64 k,.int .i64 y,.bool m,.int .i64 0,.int .i64 (aQ v)]) []:=hK
 refine aC8 (cM' (E:=enE) (q:=K (.agg [.int .i64 k,.int .i64 y,.bool m,.int .i64 0,.int .i64 (W (↑(BitVec.toNat (BitVec.ofInt (IntKind.bits .i64) (W (v+1))&&&BitVec.ofInt (IntKind.bits .i64) 262143)):Int))]) []) (by kernel_rfl) ?_)
 refine cast (congrArg (fun z=>K (.agg [.int .i64 k,.int .i64 y,.bool m,.int .i64 0,.int .i64 z]) []) ?_) hK
 show aQ v=_
 have hb:IntKind.bits .i64 =64:=rfl
 simp only [W]
 rw [hb,cT (x:=v+1) (by omega)]
 have:=i9 (n:=64) (w:=18) (v+1) (by omega)
 have e:(2:Int)^18 - 1=262143:=by decide
 rw [e]at this
 rw [this]
 have e2:(2:Int)^18=262144:=by decide
 rw [e2,cT (by omega)]
 rfl
def AD:bL Ob:=fun args h=>match args,h with
 | [.agg [.int .i64 k,.int .i64 y,.bool m,.int .i64 c,.int .i64 v],.int .i64 b,.int .i64 x,.bool q],[]=>some (-1000000≤b∧b≤1000000,.agg [.int .i64 k,.int .i64 x,.bool q,.int .i64 (b+1),.int .i64 v])
 | _,_=>none
theorem LQ:sT' 168 AD.spec:=by
 intro args h o ho K hK
 unfold bL.spec AD at ho
 split at ho
 case h_2=>cases ho
 rename_i p v hp
 split at hp
 case h_2=>cases hp
 rename_i k y m c v b x q
 simp only [sI',pI']at hp
 obtain⟨rfl,rfl⟩:=hp
 simp only [sI']at ho;subst ho
 obtain⟨hp,hK⟩:=hK
 have hK:K (.agg [.int .i64 k,.int .i64 x,.bool q,.int .i64 (b+1),.int .i64 v]) []:=hK
 refine aC8 (cM' (E:=enE) (q:=K (.agg [.int .i64 k,.int .i64 x,.bool q,.int .i64 (W (b+1)),.int .i64 v]) []) (by kernel_rfl) ?_)
 rw [yC (by omega)]
 exact hK
def z6:bL Ob:=fun args h=>match args,h with
 | [.agg [.int .i64 sh,.int .i64 kd,.int .i64 ky]],[]=>some (True,.bool (bS kd))
 | _,_=>none
theorem LM:sT' 84 z6.spec:=by
 intro args h o ho K hK
 unfold bL.spec z6 at ho
 split at ho
 case h_2=>cases ho
 rename_i p v hp
 split at hp
 case h_2=>cases hp
 rename_i sh kd ky
 simp only [sI',pI']at hp
 obtain⟨rfl,rfl⟩:=hp
 simp only [sI']at ho;subst ho
 obtain⟨hp,hK⟩:=hK
 have hK:K (.bool (bS kd)) []:=hK
 refine aC8 (cM' (E:=enE) (q:=bif ieq kd 1 then K (.bool true) []else K (.bool (ieq kd 4)) []) (by kernel_rfl) ?_)
 unfold bS at hK
 cases h:ieq kd 1<;>rw [h]at hK<;>exact hK
def F5:bL Ob:=fun args h=>match args,h with
 | [.agg [.int .i64 sh,.int .i64 kd,.int .i64 ky]],[]=>some (True,.bool (nN sh kd))
 | _,_=>none
theorem P5:sT' 212 F5.spec:=by
 intro args h o ho K hK
 unfold bL.spec F5 at ho
 split at ho
 case h_2=>cases ho
 rename_i p v hp
 split at hp
 case h_2=>cases hp
 rename_i sh kd ky
 simp only [sI',pI']at hp
 obtain⟨rfl,rfl⟩:=hp
 simp only [sI']at ho;subst ho
 obtain⟨hp,hK⟩:=hK
 have hK:K (.bool (nN sh kd)) []:=hK
 refine aC8 (cM' (E:=enE) (q:=bif ieq kd 5 then K (.bool (ieq sh 4)) []else K (.bool false) []) (by kernel_rfl) ?_)
 unfold nN at hK
 cases h:ieq kd 5<;>rw [h]at hK<;>exact hK
def z7:bL Ob:=fun args h=>match args,h with
 | [.agg [.int .i64 sh,.int .i64 kd,.int .i64 ky]],[]=>some (True,.bool (eJ sh kd))
 | _,_=>none
theorem LN:sT' 220 z7.spec:=by
 intro args h o ho K hK
 unfold bL.spec z7 at ho
 split at ho
 case h_2=>cases ho
 rename_i p v hp
 split at hp
 case h_2=>cases hp
 rename_i sh kd ky
 simp only [sI',pI']at hp
 obtain⟨rfl,rfl⟩:=hp
 simp only [sI']at ho;subst ho
 obtain⟨hp,hK⟩:=hK
 have hK:K (.bool (eJ sh kd)) []:=hK
 refine aC8 (cM' (E:=enE) (q:=bif ieq kd 2 then K (.bool true) []else bif ieq kd 5 then K (.bool (ieq sh 3)) []else K (.bool false) []) (by kernel_rfl) ?_)
 unfold eJ at hK
 cases h:ieq kd 2<;>cases h2:ieq kd 5<;>rw [h]at hK<;>rw [h2]at hK<;>exact hK
noncomputable def hasCS:aJ Ob:=kX [(.slot 0,.ints (some .i64))] TH.spec
theorem TG:sT' 124 hasCS:=jR N5
noncomputable def EB0:=((((((enE.addS 124 hasCS TG).addR 65 OB TP).addR 165 F6 QB).addR 168 AD LQ).addR 84 z6 LM).addR 212 F5 P5).addR 220 z7 LN
def isS:aJ Ob:=fun args h=>match args,h with
 | [.agg [.int .i64 a,.int .i64 b,.int .i64 c,.int .i64 d,.bool m,.int .i64 e,.int .i64 f],.slice 0 0 1 1],[some (.cells [.int .i64 s])]=>some (.ret (.bool (hasB [s] e)) [some (.ints (some .i64) [s])])
 | _,_=>none
theorem aBK:sT' 172 isS:=by
 intro args h o ho K hK
 unfold isS at ho
 split at ho<;>cases ho
 rename_i a b c d m e f s
 have hK:K (.bool (hasB [s] e)) [some (.ints (some .i64) [s])]:=hK
 refine aC8 (cM' (E:=EB0) (q:=(1=1∧(1:Nat)≤(4294967296:Nat))∧K (.bool (hasB [s] e)) [some (.ints (some .i64) [s])]) (by kernel_rfl) ?_)
 exact⟨⟨rfl,by omega⟩,hK⟩
noncomputable def EB0b:=EB0.addS 172 isS aBK
def MZ:bL Ob:=fun args h=>match args,h with
 | [.int .u64 x],[]=>some (True,.int .i64 (aA x 20 5 - 1))
 | _,_=>none
theorem RG:sT' 161 MZ.spec:=by
 intro args h o ho K hK
 unfold bL.spec MZ at ho
 split at ho
 case h_2=>cases ho
 rename_i p v hp
 split at hp
 case h_2=>cases hp
 rename_i x
 simp only [sI',pI']at hp
 obtain⟨rfl,rfl⟩:=hp
 simp only [sI']at ho;subst ho
 obtain⟨hp,hK⟩:=hK
 have hK:K (.int .i64 (aA x 20 5 - 1)) []:=hK
 refine aC8 (cM' (E:=EB0b) (q:=True∧K (.int .i64 (W (aA x 20 5 - 1))) []) (by kernel_rfl) ?_)
 have hb:0≤aA x 20 5∧aA x 20 5<32:=by
  unfold aA
  have e:(2:Int)^(5:Int).toNat =32:=by decide
  rw [e]
  exact⟨Int.emod_nonneg _ (by decide),Int.emod_lt_of_pos _ (by decide)⟩
 have e1:W (aA x 20 5 - 1)=aA x 20 5 - 1:=cT (by omega)
 rw [e1]
 exact⟨trivial,hK⟩
def EE:bL Ob:=fun args h=>match args,h with
 | [.agg [.int .i64 a,.int .i64 b,.int .i64 c,.int .i64 d,.bool m,.int .i64 e,.int .i64 f],.int .i64 g],[]=>some (True,.agg [.int .i64 a,.int .i64 b,.int .i64 c,.int .i64 d,.bool m,.int .i64 g,.int .i64 f])
 | _,_=>none
theorem NI:sT' 163 EE.spec:=by
 intro args h o ho K hK
 unfold bL.spec EE at ho
 split at ho
 case h_2=>cases ho
 rename_i p v hp
 split at hp
 case h_2=>cases hp
 rename_i a b c d m e f g
 simp only [sI',pI']at hp
 obtain⟨rfl,rfl⟩:=hp
 simp only [sI']at ho;subst ho
 obtain⟨hp,hK⟩:=hK
 have hK:K (.agg [.int .i64 a,.int .i64 b,.int .i64 c,.int .i64 d,.bool m,.int .i64 g,.int .i64 f]) []:=hK
 refine aC8 (cM' (E:=EB0b) (q:=K (.agg [.int .i64 a,.int .i64 b,.int .i64 c,.int .i64 d,.bool m,.int .i64 g,.int .i64 f]) []) (by kernel_rfl) ?_)
 exact hK
noncomputable def EB0c:=(EB0b.addR 161 MZ RG).addR 163 EE NI
def AA:bL Ob:=fun args h=>match args,h with
 | [.agg [.int .i64 sh,.int .i64 kd,.int .i64 ky]],[]=>some (True,.agg [.int .i64 (cB sh ky),.int .i64 (bT sh kd ky)])
 | _,_=>none
theorem LO:sT' 131 AA.spec:=by
 intro args h o ho K hK
 unfold bL.spec AA at ho
 split at ho
 case h_2=>cases ho
 rename_i p v hp
 split at hp
 case h_2=>cases hp
 rename_i sh kd ky
 simp only [sI',pI']at hp
 obtain⟨rfl,rfl⟩:=hp
 simp only [sI']at ho;subst ho
 obtain⟨hp,hK⟩:=hK
 have hK:K (.agg [.int .i64 (cB sh ky),.int .i64 (bT sh kd ky)]) []:=hK
 refine aC8 (cM' (E:=EB0c) (q:=bif ieq sh 2 then K (.agg [.int .i64 (W (↑(BitVec.toNat (BitVec.ofInt (IntKind.bits .i64) ky&&&BitVec.ofInt (IntKind.bits .i64) 3)):Int)),.int .i64 ky]) []else bif ieq sh 1 then K (.agg [.int .i64 0,.int .i64 ky]) []else bif ieq sh 2 then K (.agg [.int .i64 0,.int .i64 ky]) []else bif ieq sh 3 then True∧bif bS kd then K (.agg [.int .i64 0,.int .i64 1024]) []else K (.agg [.int .i64 0,.int .i64 (-1:Int)]) []else K (.agg [.int .i64 0,.int .i64 (-1:Int)]) []) (by kernel_rfl) ?_)
 have e4:W (((BitVec.ofInt (IntKind.bits .i64) ky&&&BitVec.ofInt (IntKind.bits .i64) 3).toNat :Nat):Int)=ky%4:=by
  have hb:IntKind.bits .i64 =64:=rfl
  rw [hb]
  have:=i9 (n:=64) (w:=2) ky (by omega)
  have e:(2:Int)^2 - 1=3:=by decide
  rw [e]at this
  rw [this]
  have e2:(2:Int)^2=4:=by decide
  rw [e2]
  exact cT (by omega)
 unfold cB bT at hK
 refine aW (fun e=>?_) (fun e=>aW (fun e1=>?_) (fun e1=>aW (fun e2=>?_) (fun e2=>aW (fun e3=>⟨trivial,aW (fun e5=>?_) (fun e5=>?_)⟩) (fun e3=>?_))))
 ·rw [e]at hK;rw [e4];exact hK
 ·rw [e,e1]at hK;exact hK
 ·rw [e]at e2;cases e2
 ·rw [e,e1,e3,e5]at hK;exact hK
 ·rw [e,e1,e3,e5]at hK;exact hK
 ·rw [e,e1,e3]at hK;exact hK
def zL:bL Ob:=fun args h=>match args,h with
 | [.agg [.int .i64 sh,.int .i64 kd,.int .i64 ky,.int .i64 pred,.int .u64 pw,.int .i64 curr,.int .u64 cw]],[]=>some (True,.bool (fU ky curr cw))
 | _,_=>none
theorem KZ:sT' 200 zL.spec:=by
 intro args h o ho K hK
 unfold bL.spec zL at ho
 split at ho
 case h_2=>cases ho
 rename_i p v hp
 split at hp
 case h_2=>cases hp
 rename_i sh kd ky pred pw curr cw
 simp only [sI',pI']at hp
 obtain⟨rfl,rfl⟩:=hp
 simp only [sI']at ho;subst ho
 obtain⟨hp,hK⟩:=hK
 have hK:K (.bool (fU ky curr cw)) []:=hK
 refine aC8 (cM' (E:=EB0c) (q:=bif !ieq curr 0 then True∧K (.bool (ieq (aA cw 0 10) ky)) []else K (.bool false) []) (by kernel_rfl) ?_)
 unfold fU at hK
 cases h:ieq curr 0 with
 | true=>rw [h]at hK;exact hK
 | false=>rw [h]at hK;exact⟨trivial,hK⟩
noncomputable def EB1:=(EB0c.addR 131 AA LO).addR 200 zL KZ
def WF(v:AVal)(g:aD Ob):Option (Prop×PLN):=match v,g with
 | .agg [.bool now,.int .i64 code,.bool okk,.int .i64 val,.int .i64 addr,.int .u64 old,.int .i64 nxt,.bool mark,.int .i64 pops],[]=>some (True,⟨now,code,okk,val,addr,old,nxt,mark,pops⟩)
 | _,_=>none
def O5(y:PLN):AVal:=.agg [.bool y.now,.int .i64 y.code,.bool y.okk,.int .i64 y.val,.int .i64 y.addr,.int .u64 y.old,.int .i64 y.nxt,.bool y.mark,.int .i64 y.pops]
theorem O4:cA (obI tbl) 0 WF (fun y=>.ret (O5 y) []):=by
 intro v g p x hp hq K hK
 unfold WF at hp
 split at hp
 case h_2=>cases hp
 simp only [sI',pI']at hp
 obtain⟨rfl,rfl⟩:=hp
 exact⟨⟨_,_,aF.refl _ _ _,hK⟩⟩
def xQ(sh kd ky pred pw curr cw spare:Int):Tr (PLN):=.pre True (.ite (!aY sh kd ky) (.pre True (.ret {now:=true,code:=1,okk:=false,val:=0,addr:=0,old:=0,nxt:=0,mark:=false,pops:=0})) (.ite (ieq kd 4) (.ite (ieq kd 4) (.pre True (.pre True (.ret {now:=false,code:=0,okk:=true,val:=0,addr:=pred,old:=pw,nxt:=spare,mark:=ieq (aA pw 19 1) 1,pops:=0}))) (.ite (ieq kd 2) (.pre True (.ite (fU ky curr cw) (.pre True (.pre True (.ret {now:=false,code:=0,okk:=true,val:=0,addr:=curr,old:=cw,nxt:=aA cw 10 9,mark:=true,pops:=0}))) (.ite (ieq kd 5) (.ite (ieq curr 0) (.pre True (.ret {now:=true,code:=0,okk:=false,val:=0,addr:=0,old:=0,nxt:=0,mark:=false,pops:=0})) (.pre True (.pre True (.ite (nN sh kd) (.pre True (.pre True (.pre True (.ret {now:=false,code:=0,okk:=true,val:=aA cw 0 10,addr:=pred,old:=pw,nxt:=aA cw 10 9,mark:=ieq (aA pw 19 1) 1,pops:=curr})))) (.pre True (.pre True (.ret {now:=false,code:=0,okk:=true,val:=aA cw 0 10,addr:=curr,old:=cw,nxt:=aA cw 10 9,mark:=true,pops:=0}))))))) (.ite (ieq kd 3) (.pre True (.pre True (.ret {now:=true,code:=0,okk:=fU ky curr cw,val:=0,addr:=0,old:=0,nxt:=0,mark:=false,pops:=0}))) (.pre True (.ret {now:=true,code:=0,okk:=false,val:=0,addr:=0,old:=0,nxt:=0,mark:=false,pops:=0})))))) (.ite (ieq kd 5) (.ite (ieq curr 0) (.pre True (.ret {now:=true,code:=0,okk:=false,val:=0,addr:=0,old:=0,nxt:=0,mark:=false,pops:=0})) (.pre True (.pre True (.ite (nN sh kd) (.pre True (.pre True (.pre True (.ret {now:=false,code:=0,okk:=true,val:=aA cw 0 10,addr:=pred,old:=pw,nxt:=aA cw 10 9,mark:=ieq (aA pw 19 1) 1,pops:=curr})))) (.pre True (.pre True (.ret {now:=false,code:=0,okk:=true,val:=aA cw 0 10,addr:=curr,old:=cw,nxt:=aA cw 10 9,mark:=true,pops:=0}))))))) (.ite (ieq kd 3) (.pre True (.pre True (.ret {now:=true,code:=0,okk:=fU ky curr cw,val:=0,addr:=0,old:=0,nxt:=0,mark:=false,pops:=0}))) (.pre True (.ret {now:=true,code:=0,okk:=false,val:=0,addr:=0,old:=0,nxt:=0,mark:=false,pops:=0})))))) (.ite (ieq kd 1) (.pre True (.ite (!fU ky curr cw) (.pre True (.pre True (.ret {now:=false,code:=0,okk:=true,val:=0,addr:=pred,old:=pw,nxt:=spare,mark:=ieq (aA pw 19 1) 1,pops:=0}))) (.ite (ieq kd 2) (.pre True (.ite (fU ky curr cw) (.pre True (.pre True (.ret {now:=false,code:=0,okk:=true,val:=0,addr:=curr,old:=cw,nxt:=aA cw 10 9,mark:=true,pops:=0}))) (.ite (ieq kd 5) (.ite (ieq curr 0) (.pre True (.ret {now:=true,code:=0,okk:=false,val:=0,addr:=0,old:=0,nxt:=0,mark:=false,pops:=0})) (.pre True (.pre True (.ite (nN sh kd) (.pre True (.pre True (.pre True (.ret {now:=false,code:=0,okk:=true,val:=aA cw 0 10,addr:=pred,old:=pw,nxt:=aA cw 10 9,mark:=ieq (aA pw 19 1) 1,pops:=curr})))) (.pre True (.pre True (.ret {now:=false,code:=0,okk:=true,val:=aA cw 0 10,addr:=curr,old:=cw,nxt:=aA cw 10 9,mark:=true,pops:=0}))))))) (.ite (ieq kd 3) (.pre True (.pre True (.ret {now:=true,code:=0,okk:=fU ky curr cw,val:=0,addr:=0,old:=0,nxt:=0,mark:=false,pops:=0}))) (.pre True (.ret {now:=true,code:=0,okk:=false,val:=0,addr:=0,old:=0,nxt:=0,mark:=false,pops:=0})))))) (.ite (ieq kd 5) (.ite (ieq curr 0) (.pre True (.ret {now:=true,code:=0,okk:=false,val:=0,addr:=0,old:=0,nxt:=0,mark:=false,pops:=0})) (.pre True (.pre True (.ite (nN sh kd) (.pre True (.pre True (.pre True (.ret {now:=false,code:=0,okk:=true,val:=aA cw 0 10,addr:=pred,old:=pw,nxt:=aA cw 10 9,mark:=ieq (aA pw 19 1) 1,pops:=curr})))) (.pre True (.pre True (.ret {now:=false,code:=0,okk:=true,val:=aA cw 0 10,addr:=curr,old:=cw,nxt:=aA cw 10 9,mark:=true,pops:=0}))))))) (.ite (ieq kd 3) (.pre True (.pre True (.ret {now:=true,code:=0,okk:=fU ky curr cw,val:=0,addr:=0,old:=0,nxt:=0,mark:=false,pops:=0}))) (.pre True (.ret {now:=true,code:=0,okk:=false,val:=0,addr:=0,old:=0,nxt:=0,mark:=false,pops:=0}))))))) (.ite (ieq kd 2) (.pre True (.ite (fU ky curr cw) (.pre True (.pre True (.ret {now:=false,code:=0,okk:=true,val:=0,addr:=curr,old:=cw,nxt:=aA cw 10 9,mark:=true,pops:=0}))) (.ite (ieq kd 5) (.ite (ieq curr 0) (.pre True (.ret {now:=true,code:=0,okk:=false,val:=0,addr:=0,old:=0,nxt:=0,mark:=false,pops:=0})) (.pre True (.pre True (.ite (nN sh kd) (.pre True (.pre True (.pre True (.ret {now:=false,code:=0,okk:=true,val:=aA cw 0 10,addr:=pred,old:=pw,nxt:=aA cw 10 9,mark:=ieq (aA pw 19 1) 1,pops:=curr})))) (.pre True (.pre True (.ret {now:=false,code:=0,okk:=true,val:=aA cw 0 10,addr:=curr,old:=cw,nxt:=aA cw 10 9,mark:=true,pops:=0}))))))) (.ite (ieq kd 3) (.pre True (.pre True (.ret {now:=true,code:=0,okk:=fU ky curr cw,val:=0,addr:=0,old:=0,nxt:=0,mark:=false,pops:=0}))) (.pre True (.ret {now:=true,code:=0,okk:=false,val:=0,addr:=0,old:=0,nxt:=0,mark:=false,pops:=0})))))) (.ite (ieq kd 5) (.ite (ieq curr 0) (.pre True (.ret {now:=true,code:=0,okk:=false,val:=0,addr:=0,old:=0,nxt:=0,mark:=false,pops:=0})) (.pre True (.pre True (.ite (nN sh kd) (.pre True (.pre True (.pre True (.ret {now:=false,code:=0,okk:=true,val:=aA cw 0 10,addr:=pred,old:=pw,nxt:=aA cw 10 9,mark:=ieq (aA pw 19 1) 1,pops:=curr})))) (.pre True (.pre True (.ret {now:=false,code:=0,okk:=true,val:=aA cw 0 10,addr:=curr,old:=cw,nxt:=aA cw 10 9,mark:=true,pops:=0}))))))) (.ite (ieq kd 3) (.pre True (.pre True (.ret {now:=true,code:=0,okk:=fU ky curr cw,val:=0,addr:=0,old:=0,nxt:=0,mark:=false,pops:=0}))) (.pre True (.ret {now:=true,code:=0,okk:=false,val:=0,addr:=0,old:=0,nxt:=0,mark:=false,pops:=0}))))))))
def aI(sh kd ky pred pw curr cw spare:Int):PLN:=(xQ sh kd ky pred pw curr cw spare).val
def vA(sh kd ky pred pw curr cw spare:Int):Prop:=(xQ sh kd ky pred pw curr cw spare).ok
def planS:aJ Ob:=fun args h=>match args,h with
 | [.agg [.int .i64 sh,.int .i64 kd,.int .i64 ky],.agg [.int .i64 pred,.int .u64 pw,.int .i64 curr,.int .u64 cw],.int .i64 spare],[]=>some (.pre (vA sh kd ky pred pw curr cw spare) (.ret (O5 (aI sh kd ky pred pw curr cw spare)) []))
 | _,_=>none
theorem UH:sT' 157 planS:=by
 intro args h o ho K hK
 unfold planS at ho
 split at ho<;>cases ho
 rename_i sh kd ky pred pw curr cw spare
 obtain⟨ok,hK⟩:=hK
 refine aDh (root:=0) (pos:=[]) (cs:=[]) O4 ?_
 exact cM' (E:=EB1) (q:=(xQ sh kd ky pred pw curr cw spare).run (fun y=>(Out.ret (O5 y) []).run K)) (by kernel_rfl) (aDe ok hK)
def O6(v:AVal)(g:aD Ob):Option (Prop×Int):=match v,g with
 | .int .u64 x,[]=>some (True,x)
 | _,_=>none
def FX(y:Int):AVal:=.int .u64 y
theorem K7:cA (obI tbl) 0 O6 (fun y=>.ret (FX y) []):=by
 intro v g p x hp hq K hK
 unfold O6 at hp
 split at hp
 case h_2=>cases hp
 simp only [sI',pI']at hp
 obtain⟨rfl,rfl⟩:=hp
 exact⟨⟨_,_,aF.refl _ _ _,hK⟩⟩
def sB(now:Bool)(code:Int)(okk:Bool)(val:Int)(addr:Int)(old:Int)(nxt:Int)(mark:Bool)(pops:Int):Tr (Int):=.ite now (.pre True (.ret 0)) (.pre True (.pre ((-1000000:Int)≤(0:Int)∧(0:Int)≤(1000000:Int)) (.pre ((0:Int)≤aA old 25 18∧aA old 25 (18:Int)≤(1000000:Int)) (.pre True (.pre True (.ret (bif bif aG (aA old 0 10) 10 then bif aG nxt 9 then bif aG 0 5 then aG (aQ (aA old 25 18)) 18 else false else false else false then bD (aA old 0 10) nxt mark 0 (aQ (aA old 25 18))else 0)))))))
def cY(now:Bool)(code:Int)(okk:Bool)(val:Int)(addr:Int)(old:Int)(nxt:Int)(mark:Bool)(pops:Int):Int:=(sB now code okk val addr old nxt mark pops).val
def zN(now:Bool)(code:Int)(okk:Bool)(val:Int)(addr:Int)(old:Int)(nxt:Int)(mark:Bool)(pops:Int):Prop:=(sB now code okk val addr old nxt mark pops).ok
def planWS:aJ Ob:=fun args h=>match args,h with
 | [.agg [.bool now,.int .i64 code,.bool okk,.int .i64 val,.int .i64 addr,.int .u64 old,.int .i64 nxt,.bool mark,.int .i64 pops]],[]=>some (.pre (zN now code okk val addr old nxt mark pops) (.ret (FX (cY now code okk val addr old nxt mark pops)) []))
 | _,_=>none
theorem O7:sT' 100 planWS:=by
 intro args h o ho K hK
 unfold planWS at ho
 split at ho<;>cases ho
 rename_i now code okk val addr old nxt mark pops
 obtain⟨ok,hK⟩:=hK
 refine aDh (root:=0) (pos:=[]) (cs:=[]) K7 ?_
 exact cM' (E:=EB1) (q:=(sB now code okk val addr old nxt mark pops).run (fun y=>(Out.ret (FX y) []).run K)) (by kernel_rfl) (aDe ok hK)
def O0(v:AVal)(g:aD Ob):Option (Prop×Bool):=match v,g with
 | .bool x,[]=>some (True,x)
 | _,_=>none
def FU(y:Bool):AVal:=.bool y
theorem K2:cA (obI tbl) 0 O0 (fun y=>.ret (FU y) []):=by
 intro v g p x hp hq K hK
 unfold O0 at hp
 split at hp
 case h_2=>cases hp
 simp only [sI',pI']at hp
 obtain⟨rfl,rfl⟩:=hp
 exact⟨⟨_,_,aF.refl _ _ _,hK⟩⟩
def sA(now:Bool)(code:Int)(okk:Bool)(val:Int)(addr:Int)(old:Int)(nxt:Int)(mark:Bool)(pops:Int):Tr (Bool):=.ite (!now) (.pre True (.pre True (.ret !ieq (aA old 20 5) 0))) (.pre True (.ret false))
def kO(now:Bool)(code:Int)(okk:Bool)(val:Int)(addr:Int)(old:Int)(nxt:Int)(mark:Bool)(pops:Int):Bool:=(sA now code okk val addr old nxt mark pops).val
def oG(now:Bool)(code:Int)(okk:Bool)(val:Int)(addr:Int)(old:Int)(nxt:Int)(mark:Bool)(pops:Int):Prop:=(sA now code okk val addr old nxt mark pops).ok
def planCS:aJ Ob:=fun args h=>match args,h with
 | [.agg [.bool now,.int .i64 code,.bool okk,.int .i64 val,.int .i64 addr,.int .u64 old,.int .i64 nxt,.bool mark,.int .i64 pops]],[]=>some (.pre (oG now code okk val addr old nxt mark pops) (.ret (FU (kO now code okk val addr old nxt mark pops)) []))
 | _,_=>none
theorem O1:sT' 158 planCS:=by
 intro args h o ho K hK
 unfold planCS at ho
 split at ho<;>cases ho
 rename_i now code okk val addr old nxt mark pops
 obtain⟨ok,hK⟩:=hK
 refine aDh (root:=0) (pos:=[]) (cs:=[]) K2 ?_
 exact cM' (E:=EB1) (q:=(sA now code okk val addr old nxt mark pops).run (fun y=>(Out.ret (FU y) []).run K)) (by kernel_rfl) (aDe ok hK)
def O2(v:AVal)(g:aD Ob):Option (Prop×(Int×Int)):=match v,g with
 | .tup [.int .u64 x,.int .i64 e],[]=>some (True,(x,e))
 | _,_=>none
def FV(y:(Int×Int)):AVal:=.tup [.int .u64 y.1,.int .i64 y.2]
theorem K4:cA (obI tbl) 0 O2 (fun y=>.ret (FV y) []):=by
 intro v g p x hp hq K hK
 unfold O2 at hp
 split at hp
 case h_2=>cases hp
 simp only [sI',pI']at hp
 obtain⟨rfl,rfl⟩:=hp
 exact⟨⟨_,_,aF.refl _ _ _,hK⟩⟩
def u9(now:Bool)(code:Int)(okk:Bool)(val:Int)(addr:Int)(old:Int)(nxt:Int)(mark:Bool)(pops:Int)(att:Int):Tr ((Int×Int)):=.ite now (.pre True (.ret (0,5))) (.pre True (.pre True (.pre True (.ret (bif dOk att addr (aA old 25 18) nxt 2 val then cO att addr (aA old 25 18) nxt mark 2 val else 0,bif dOk att addr (aA old 25 18) nxt 2 val then 0 else 2)))))
def gA(now:Bool)(code:Int)(okk:Bool)(val:Int)(addr:Int)(old:Int)(nxt:Int)(mark:Bool)(pops:Int)(att:Int):(Int×Int):=(u9 now code okk val addr old nxt mark pops att).val
def zM(now:Bool)(code:Int)(okk:Bool)(val:Int)(addr:Int)(old:Int)(nxt:Int)(mark:Bool)(pops:Int)(att:Int):Prop:=(u9 now code okk val addr old nxt mark pops att).ok
def planDS:aJ Ob:=fun args h=>match args,h with
 | [.agg [.bool now,.int .i64 code,.bool okk,.int .i64 val,.int .i64 addr,.int .u64 old,.int .i64 nxt,.bool mark,.int .i64 pops],.int .i64 att],[]=>some (.pre (zM now code okk val addr old nxt mark pops att) (.ret (FV (gA now code okk val addr old nxt mark pops att)) []))
 | _,_=>none
theorem O3:sT' 116 planDS:=by
 intro args h o ho K hK
 unfold planDS at ho
 split at ho<;>cases ho
 rename_i now code okk val addr old nxt mark pops att
 obtain⟨ok,hK⟩:=hK
 refine aDh (root:=0) (pos:=[]) (cs:=[]) K4 ?_
 exact cM' (E:=EB1) (q:=(u9 now code okk val addr old nxt mark pops att).run (fun y=>(Out.ret (FV y) []).run K)) (by kernel_rfl) (aDe ok hK)
noncomputable def EB2:=(((EB1.addS 157 planS UH).addS 100 planWS O7).addS 158 planCS O1).addS 116 planDS O3
abbrev YF(x:ENS):aK Mc:=.cells [.ptr 1 0,.bool x.sh,.O,.O,.bool x.dn]
theorem SF{t n:Int}{x:ENS}{st:STS}{s:MS} :aF (obI tbl) 4 (.bool true) [some (.abs (.ensure t n x) [1]),some (.abs (.store t n st) []),a8 3 s,a9 s] (.bool true) [some (YF x),some (.abs (.store t n st) []),a8 3 s,a9 s]:=by
 obtain⟨ph,sh,dn,a,y⟩:=x
 match ph with
 | 0=>exact(aF.unpack (.ensure t n ⟨0,sh,dn,a,y⟩) 0 1 (G7 t n ⟨0,sh,dn,a,y⟩) [1] rfl rfl (by kernel_rfl) rfl).trans ((aF.weak (b9 _ 0 [2,3])).trans ((aF.pick (upto 0 4) rfl).trans (aF.eq (by kernel_rfl) (by kernel_rfl))))
 | 1=>exact(aF.unpack (.ensure t n ⟨1,sh,dn,a,y⟩) 0 1 (G7 t n ⟨1,sh,dn,a,y⟩) [1] rfl rfl (by kernel_rfl) rfl).trans ((aF.weak (b9 _ 0 [2,3])).trans ((aF.pick (upto 0 4) rfl).trans (aF.eq (by kernel_rfl) (by kernel_rfl))))
 | 2=>exact(aF.unpack (.ensure t n ⟨2,sh,dn,a,y⟩) 0 1 (G7 t n ⟨2,sh,dn,a,y⟩) [1] rfl rfl (by kernel_rfl) rfl).trans ((aF.weak (b9 _ 0 [2,3])).trans ((aF.pick (upto 0 4) rfl).trans (aF.eq (by kernel_rfl) (by kernel_rfl))))
 | 3=>exact(aF.unpack (.ensure t n ⟨3,sh,dn,a,y⟩) 0 1 (G7 t n ⟨3,sh,dn,a,y⟩) [1] rfl rfl (by kernel_rfl) rfl).trans ((aF.weak (b9 _ 0 [2,3])).trans ((aF.pick (upto 0 4) rfl).trans (aF.eq (by kernel_rfl) (by kernel_rfl))))
 | k+4=>exact(aF.unpack (.ensure t n ⟨k+4,sh,dn,a,y⟩) 0 1 (G7 t n ⟨k+4,sh,dn,a,y⟩) [1] rfl rfl (by kernel_rfl) rfl).trans ((aF.weak (b9 _ 0 [2,3])).trans ((aF.pick (upto 0 4) rfl).trans (aF.eq (by kernel_rfl) (by kernel_rfl))))
def EO.fin(t n:Int)(y:EO):Out Ob:=.ite y.d (.ret (.bool true) [some (YF y.e),some (.abs (.store t n y.st) []),a8 3 y.s,a9 y.s]) (.ret (.bool false) [some (.abs (.ensure t n y.e) [1]),some (.abs (.store t n y.st) []),a8 3 y.s,a9 y.s])
theorem BI(t n:Int)(e:ENS)(st:STS)(s:MS)(K:AVal→aD Ob→Prop)(ok:okE t n e st s)(hK:((enF t n e st s).fin t n).run K):cT' 85 [.ptr 0 0,.ptr 2 0] (SA t n e st s) K:=by
 refine aDz (HD t n e st s _ ok ?_)
 show iE (obI tbl) 4 K (.bool (enF t n e st s).d) _
 generalize enF t n e st s=y at hK⊢
 exact qQ hK (fun h=>⟨⟨_,_,SF,h⟩⟩) (fun h=>⟨⟨_,_,aF.refl _ _ _,h⟩⟩)
noncomputable def enSA:aJ Ob:=fun args h=>match args,h with
 | [.ptr 0 0,.ptr 2 0],[some (.abs (.ensure t n x) [1]),some (.abs (.store t2 n2 st) []),e3,e4]=>(match cW 3 [e3,e4]with
   | some (l,s)=>some (.pre ((l=s.xs.length∧t2=t∧n2=n)∧okE t n x st s) (EO.fin t n (enF t n x st s)))
   | none=>none)
 | _,_=>none
theorem YL:sT' 85 enSA:=by
 intro args h o ho K hK
 unfold enSA at ho
 split at ho
 case h_2=>cases ho
 split at ho<;>cases ho
 rename_i hm
 obtain⟨⟨⟨hl,rfl,rfl⟩,ok⟩,hK⟩:=hK
 have hh:=bA hm hl
 cases hh
 exact BI _ _ _ _ _ K ok hK
def EO.finB(t n:Int)(y:EO):Out Ob:=.ite y.d (.ret (.bool true) [some (YF y.e),stC 5 t n y.st,none,a8 4 y.s,a9 y.s,fS y.st]) (.ret (.bool false) [some (.abs (.ensure t n y.e) [1]),stC 5 t n y.st,none,a8 4 y.s,a9 y.s,fS y.st])
noncomputable def enSB:aJ Ob:=fun args h=>match args,h with
 | [.ptr 0 0,.ptr 3 0],[some (.abs (.ensure t n x) [1]),e1,e2,e3,e4]=>(match j9 2 [e1,e2],cW 4 [e3,e4]with
   | some (l2,t2,n2,st),some (l,s)=>some (.pre ((l=s.xs.length∧l2=st.R.length∧t2=t∧n2=n)∧okE t n x st s) (EO.finB t n (enF t n x st s)))
   | _,_=>none)
 | _,_=>none
theorem YM:sT' 85 enSB:=by
 intro args h o ho K hK
 unfold enSB at ho
 split at ho
 case h_2=>cases ho
 split at ho<;>cases ho
 rename_i hs hm
 obtain⟨⟨⟨hl,hl2,rfl,rfl⟩,ok⟩,hK⟩:=hK
 have hh:=bA hm hl
 cases hh
 have hh:=cD hs hl2
 cases hh
 exact i6 (fun ι hι=>by simp [aK.ren,aDg,AVal.ren,hι]) (fun ι hι=>by simp [aK.ren,hι]) (fun K hK=>BI _ _ _ _ _ K ok hK) K hK
noncomputable def enS2:aJ Ob:=aJ.or enSA enSB
theorem YK:sT' 85 enS2:=aDn YL YM
abbrev aAt(x:SWS):aK Mc:=.cells [.ptr 1 0,.O]
theorem U5{t n:Int}{x:SWS}{st:STS}{s:MS} :aF (obI tbl) 4 (.bool true) [some (.abs (.sweep t n x) [1]),some (.abs (.store t n st) []),a8 3 s,a9 s] (.bool true) [some (aAt x),some (.abs (.store t n st) []),a8 3 s,a9 s]:=by
 obtain⟨ph,N,m,i,ks,fs,gs,j,l⟩:=x
 match ph with
 | 0=>exact(aF.unpack (.sweep t n ⟨0,N,m,i,ks,fs,gs,j,l⟩) 0 1 (P1 t n ⟨0,N,m,i,ks,fs,gs,j,l⟩) [1] rfl rfl (by kernel_rfl) rfl).trans ((aF.weak (b9 _ 0 [1])).trans ((aF.pick (upto 0 4) rfl).trans (aF.eq (by kernel_rfl) (by kernel_rfl))))
 | 1=>exact(aF.unpack (.sweep t n ⟨1,N,m,i,ks,fs,gs,j,l⟩) 0 1 (P1 t n ⟨1,N,m,i,ks,fs,gs,j,l⟩) [1] rfl rfl (by kernel_rfl) rfl).trans ((aF.weak (b9 _ 0 [1])).trans ((aF.pick (upto 0 4) rfl).trans (aF.eq (by kernel_rfl) (by kernel_rfl))))
 | 2=>exact(aF.unpack (.sweep t n ⟨2,N,m,i,ks,fs,gs,j,l⟩) 0 1 (P1 t n ⟨2,N,m,i,ks,fs,gs,j,l⟩) [1] rfl rfl (by kernel_rfl) rfl).trans ((aF.weak (b9 _ 0 [1])).trans ((aF.pick (upto 0 4) rfl).trans (aF.eq (by kernel_rfl) (by kernel_rfl))))
 | k+3=>exact(aF.unpack (.sweep t n ⟨k+3,N,m,i,ks,fs,gs,j,l⟩) 0 1 (P1 t n ⟨k+3,N,m,i,ks,fs,gs,j,l⟩) [1] rfl rfl (by kernel_rfl) rfl).trans ((aF.weak (b9 _ 0 [1])).trans ((aF.pick (upto 0 4) rfl).trans (aF.eq (by kernel_rfl) (by kernel_rfl))))
def SO.fin(t n:Int)(y:SO):Out Ob:=.ite y.d (.ret (.bool true) [some (aAt y.e),some (.abs (.store t n y.st) []),a8 3 y.s,a9 y.s]) (.ret (.bool false) [some (.abs (.sweep t n y.e) [1]),some (.abs (.store t n y.st) []),a8 3 y.s,a9 y.s])
theorem DF(t n:Int)(e:SWS)(st:STS)(s:MS)(K:AVal→aD Ob→Prop)(ok:qO t n e st s)(hK:((swF t n e st s).fin t n).run K):cT' 195 [.ptr 0 0,.ptr 2 0] (swH t n e st s) K:=by
 refine aDz (U6 t n e st s _ ok ?_)
 show iE (obI tbl) 4 K (.bool (swF t n e st s).d) _
 generalize swF t n e st s=y at hK⊢
 exact qQ hK (fun h=>⟨⟨_,_,U5,h⟩⟩) (fun h=>⟨⟨_,_,aF.refl _ _ _,h⟩⟩)
noncomputable def swSA:aJ Ob:=fun args h=>match args,h with
 | [.ptr 0 0,.ptr 2 0],[some (.abs (.sweep t n x) [1]),some (.abs (.store t2 n2 st) []),e3,e4]=>(match cW 3 [e3,e4]with
   | some (l,s)=>some (.pre ((l=s.xs.length∧t2=t∧n2=n)∧qO t n x st s) (SO.fin t n (swF t n x st s)))
   | none=>none)
 | _,_=>none
theorem aAz:sT' 195 swSA:=by
 intro args h o ho K hK
 unfold swSA at ho
 split at ho
 case h_2=>cases ho
 split at ho<;>cases ho
 rename_i hm
 obtain⟨⟨⟨hl,rfl,rfl⟩,ok⟩,hK⟩:=hK
 have hh:=bA hm hl
 cases hh
 exact DF _ _ _ _ _ K ok hK
def SO.finB(t n:Int)(y:SO):Out Ob:=.ite y.d (.ret (.bool true) [some (aAt y.e),stC 5 t n y.st,none,a8 4 y.s,a9 y.s,fS y.st]) (.ret (.bool false) [some (.abs (.sweep t n y.e) [1]),stC 5 t n y.st,none,a8 4 y.s,a9 y.s,fS y.st])
noncomputable def swSB:aJ Ob:=fun args h=>match args,h with
 | [.ptr 0 0,.ptr 3 0],[some (.abs (.sweep t n x) [1]),e1,e2,e3,e4]=>(match j9 2 [e1,e2],cW 4 [e3,e4]with
   | some (l2,t2,n2,st),some (l,s)=>some (.pre ((l=s.xs.length∧l2=st.R.length∧t2=t∧n2=n)∧qO t n x st s) (SO.finB t n (swF t n x st s)))
   | _,_=>none)
 | _,_=>none
theorem aAA:sT' 195 swSB:=by
 intro args h o ho K hK
 unfold swSB at ho
 split at ho
 case h_2=>cases ho
 split at ho<;>cases ho
 rename_i hs hm
 obtain⟨⟨⟨hl,hl2,rfl,rfl⟩,ok⟩,hK⟩:=hK
 have hh:=bA hm hl
 cases hh
 have hh:=cD hs hl2
 cases hh
 exact i6 (fun ι hι=>by simp [aK.ren,aDg,AVal.ren,hι]) (fun ι hι=>by simp [aK.ren,hι]) (fun K hK=>DF _ _ _ _ _ K ok hK) K hK
noncomputable def swSC:aJ Ob:=aJ.or swSA swSB
theorem aAy:sT' 195 swSC:=aDn aAz aAA
def YG(t n:Int)(v:AVal)(g:aD Ob):Option (Prop×STS):=match v,g with
 | .ptr 2 0,[e1,e2,some (.cells [.ptr 0 0,.bool false,.raw (.pointer none),.raw (.pointer none),.bool false])]=>(match j9 1 [e1,e2]with
   | some (l2,t2,n2,st)=>some (t2=t∧n2=n∧l2=st.R.length,st)
   | none=>none)
 | _,_=>none
abbrev SD(t n:Int)(y:STS):aD Ob:=[stC 1 t n y,fS y,some (.abs (.ensure t n aS) [0])]
theorem SE{t n:Int} :cA (obI tbl) 2 (YG t n) (fun y=>.ret (.ptr 2 0) (SD t n y)):=by
 intro v g p x hp hq K hK
 unfold YG at hp
 split at hp
 case h_2=>cases hp
 split at hp
 case h_2=>cases hp
 rename_i l2 t2 n2 st hs
 simp only [sI',pI']at hp
 obtain⟨rfl,rfl⟩:=hp
 obtain⟨rfl,rfl,hl2⟩:=hq
 have hh:=cD hs hl2
 cases hh
 exact⟨⟨_,_,aF.pack (SD t2 n2 st) (.ensure t2 n2 aS) 2 1 (G7 t2 n2 aS) [0] (by kernel_rfl) rfl rfl (by kernel_rfl),hK⟩⟩
def BH(t n:Int)(st:STS):Tr STS:=.pre (t=t∧n=n∧lE' st.3) (.ret {me:=st.1,sp:=st.2,R:=st.3})
def enNS:aJ Ob:=fun args h=>match args,h with
 | [.ptr 0 0],[e1,e2]=>(match j9 1 [e1,e2]with
   | some (l2,t,n,st)=>some (.pre (l2=st.R.length∧(BH t n st).ok) (.ret (.ptr 2 0) (SD t n (BH t n st).val)))
   | none=>none)
 | _,_=>none
theorem EG:sT' 37 enNS:=by
 intro args h o ho K hK
 unfold enNS at ho
 split at ho
 case h_2=>cases ho
 split at ho<;>cases ho
 rename_i l2 t n st hs
 obtain⟨⟨hl2,ok⟩,hK⟩:=hK
 have hh:=cD hs hl2
 cases hh
 refine aDh (root:=2) (pos:=[]) (cs:=[]) (parse:=YG t n) SE ?_
 exact cM' (E:=EB2) (q:=(BH t n st).run (fun y=>(Out.ret (.ptr 2 0) (SD t n y)).run K)) (by kernel_rfl) (aDe ok hK)
def aAu(t n:Int)(v:AVal)(g:aD Ob):Option (Prop×STS):=match v,g with
 | .ptr 2 0,[e1,e2,some (.cells [.ptr 0 0,.raw (.pointer none)])]=>(match j9 1 [e1,e2]with
   | some (l2,t2,n2,st)=>some (t2=t∧n2=n∧l2=st.R.length,st)
   | none=>none)
 | _,_=>none
abbrev U0(t n:Int)(y:STS):aD Ob:=[stC 1 t n y,fS y,some (.abs (.sweep t n bH) [0])]
theorem U1{t n:Int} :cA (obI tbl) 2 (aAu t n) (fun y=>.ret (.ptr 2 0) (U0 t n y)):=by
 intro v g p x hp hq K hK
 unfold aAu at hp
 split at hp
 case h_2=>cases hp
 split at hp
 case h_2=>cases hp
 rename_i l2 t2 n2 st hs
 simp only [sI',pI']at hp
 obtain⟨rfl,rfl⟩:=hp
 obtain⟨rfl,rfl,hl2⟩:=hq
 have hh:=cD hs hl2
 cases hh
 exact⟨⟨_,_,aF.pack (U0 t2 n2 st) (.sweep t2 n2 bH) 2 1 (P1 t2 n2 bH) [0] (by kernel_rfl) rfl rfl (by kernel_rfl),hK⟩⟩
def aAv(t n:Int)(st:STS):Tr STS:=.pre (t=t∧n=n∧lE' st.3) (.ret {me:=st.1,sp:=st.2,R:=st.3})
def swNS:aJ Ob:=fun args h=>match args,h with
 | [.ptr 0 0],[e1,e2]=>(match j9 1 [e1,e2]with
   | some (l2,t,n,st)=>some (.pre (l2=st.R.length∧(aAv t n st).ok) (.ret (.ptr 2 0) (U0 t n (aAv t n st).val)))
   | none=>none)
 | _,_=>none
theorem aAw:sT' 146 swNS:=by
 intro args h o ho K hK
 unfold swNS at ho
 split at ho
 case h_2=>cases ho
 split at ho<;>cases ho
 rename_i l2 t n st hs
 obtain⟨⟨hl2,ok⟩,hK⟩:=hK
 have hh:=cD hs hl2
 cases hh
 refine aDh (root:=2) (pos:=[]) (cs:=[]) (parse:=aAu t n) U1 ?_
 exact cM' (E:=EB2) (q:=(aAv t n st).run (fun y=>(Out.ret (.ptr 2 0) (U0 t n y)).run K)) (by kernel_rfl) (aDe ok hK)
noncomputable def EB3:=(((EB2.addS 85 enS2 YK).addS 195 swSC aAy).addS 37 enNS EG).addS 146 swNS aAw
structure ClO where
 d:Bool
 x:CLS
 s:MS
instance:Inhabited ClO:=⟨⟨false,⟨0,0,0,0⟩,⟨0,0,[],0,0,0,0,0,false⟩⟩⟩
instance:Inhabited CLS:=⟨⟨0,0,0,0⟩⟩
abbrev clH(t n:Int)(x:CLS)(s:MS):aD Ob:=[some (.abs (.clear t n x) []),a8 2 s,a9 s]
abbrev clD(t n:Int)(x:CLS)(s:MS):aD Ob:=[some (.cells [.int .i64 t,.int .i64 n,.int .i64 x.addr,.int .i64 x.at',.int .u64 x.word,.int .u64 x.found]),a8 2 s,a9 s]
def ClO.fin(t n:Int)(y:ClO):Out Ob:=.ite y.d (.ret (.bool true) (clD t n y.x y.s)) (.ret (.bool false) (clH t n y.x y.s))
def XN(t n:Int)(v:AVal)(g:aD Ob):Option (Prop×ClO):=match v,g with
 | .bool d,[some (.cells [.int .i64 t1,.int .i64 n1,.int .i64 addr,.int .i64 at',.int .u64 word,.int .u64 found]),e1,e2]=>(match cW 2 [e1,e2]with
   | some (l,s)=>some ((t1=t∧n1=n)∧l=s.xs.length,⟨d,⟨addr,at',word,found⟩,s⟩)
   | none=>none)
 | _,_=>none
def QK(t n:Int)(v:AVal)(g:aD Ob):Option (Prop×ClO):=XN t n v g
theorem RB{t n:Int} :cA (obI tbl) 3 (XN t n) (ClO.fin t n):=by
 intro v g p x hp hq K hK
 unfold XN at hp
 split at hp
 case h_2=>cases hp
 rename_i d t1 n1 addr at' word found e1 e2
 split at hp
 case h_2=>cases hp
 rename_i l s hm
 simp only [sI',pI']at hp
 obtain⟨rfl,rfl⟩:=hp
 obtain⟨⟨rfl,rfl⟩,hl⟩:=hq
 have hh:=bA hm hl
 cases hh
 refine qQ hK (fun h=>?_) (fun h=>?_)
 ·exact⟨⟨_,_,aF.refl _ _ _,h⟩⟩
 ·exact⟨⟨_,_,(aF.pack (clH t1 n1 (⟨addr,at',word,found⟩:CLS) s) (.clear t1 n1 (⟨addr,at',word,found⟩:CLS)) 0 0 (lX t1 n1 (⟨addr,at',word,found⟩:CLS)) [] (by kernel_rfl) rfl (congrArg (Prod.mk 0) rfl) (by kernel_rfl)),h⟩⟩
theorem yL{t n:Int} :cA (obI tbl) 3 (QK t n) (ClO.fin t n):=by
 intro v g p x hp hq K hK
 unfold QK at hp
 exact RB v g p x hp hq K hK
def A1(t n:Int)(x:CLS)(s:MS):Tr ClO:=.pre (lE' s.3∧(0:Int)≤s.4∧s.4≤(4611686018427387904:Int)) (.pre True (.ite (ilt (aA (aB s.3 x.1) 20 5 - 1) 0) (.pre ((t=t∧n=n)∧lE' s.3) (.ret {d:=true,x:= {addr:=x.1,at':=1,word:=aB s.3 x.1,found:=x.4},s:= {s with c:=s.4+1,k:=1,a:=x.1,o:=aB s.3 x.1,w:=aB s.3 x.1,ok:=bM s.3 x.1} })) (.pre ((t=t∧n=n)∧lE' s.3) (.ret {d:=ile t (aA (aB s.3 x.1) 20 5 - 1),x:= {addr:=x.1,at':=1,word:=aB s.3 x.1,found:=x.4},s:= {s with c:=s.4+1,k:=1,a:=x.1,o:=aB s.3 x.1,w:=aB s.3 x.1,ok:=bM s.3 x.1} }))))
theorem IX(t n:Int)(x:CLS)(s:MS)(K:ClO→Prop)(h:(A1 t n x s).run K):cT' 96 [.ptr 0 0,.ptr 1 0] [some (.cells [.int .i64 t,.int .i64 n,.int .i64 x.addr,.int .i64 0,.int .u64 x.word,.int .u64 x.found]),a8 2 s,a9 s] (cC 3 0 [] [] (QK t n) K):=by
 exact cM' (E:=EB3) (by kernel_rfl) h
def A2(t n:Int)(x:CLS)(s:MS):Tr ClO:=.pre True (.pre ((((0:Int)≤t∧t≤(100000:Int))∧((0:Int)≤n∧n≤(100000:Int))∧(-1099511627776:Int)≤aA x.3 20 5 - 1∧aA x.3 20 5 - (1:Int)≤(1099511627776:Int))∧True) (.pre ((lE' s.3∧(0:Int)≤s.4∧s.4≤(4611686018427387904:Int))∧True) (.pre True (.ite (hasB [2] (aA (aB s.3 (2*n+5+2*t+3*(aA x.3 20 5 - 1)+2)) 49 3)) (.ite (ieq (aA (aB s.3 (2*n+5+2*t+3*(aA x.3 20 5 - 1)+2)) 12 9) x.1) (.pre True (.ite (ieq (aA (aB s.3 (2*n+5+2*t+3*(aA x.3 20 5 - 1)+2)) 21 18) (aA x.3 25 18)) (.pre ((t=t∧n=n)∧lE' s.3) (.ret {d:=false,x:= {addr:=x.1,at':=2,word:=x.3,found:=aB s.3 (2*n+5+2*t+3*(aA x.3 20 5 - 1)+2) },s:= {s with c:=s.4+1,k:=1,a:=2*n+5+2*t+3*(aA x.3 20 5 - 1)+2,o:=aB s.3 (2*n+5+2*t+3*(aA x.3 20 5 - 1)+2),w:=aB s.3 (2*n+5+2*t+3*(aA x.3 20 5 - 1)+2),ok:=bM s.3 (2*n+5+2*t+3*(aA x.3 20 5 - 1)+2) } })) (.pre ((t=t∧n=n)∧lE' s.3) (.ret {d:=false,x:= {addr:=x.1,at':=3,word:=x.3,found:=aB s.3 (2*n+5+2*t+3*(aA x.3 20 5 - 1)+2) },s:= {s with c:=s.4+1,k:=1,a:=2*n+5+2*t+3*(aA x.3 20 5 - 1)+2,o:=aB s.3 (2*n+5+2*t+3*(aA x.3 20 5 - 1)+2),w:=aB s.3 (2*n+5+2*t+3*(aA x.3 20 5 - 1)+2),ok:=bM s.3 (2*n+5+2*t+3*(aA x.3 20 5 - 1)+2) } })))) (.pre ((t=t∧n=n)∧lE' s.3) (.ret {d:=false,x:= {addr:=x.1,at':=3,word:=x.3,found:=aB s.3 (2*n+5+2*t+3*(aA x.3 20 5 - 1)+2) },s:= {s with c:=s.4+1,k:=1,a:=2*n+5+2*t+3*(aA x.3 20 5 - 1)+2,o:=aB s.3 (2*n+5+2*t+3*(aA x.3 20 5 - 1)+2),w:=aB s.3 (2*n+5+2*t+3*(aA x.3 20 5 - 1)+2),ok:=bM s.3 (2*n+5+2*t+3*(aA x.3 20 5 - 1)+2) } }))) (.pre ((t=t∧n=n)∧lE' s.3) (.ret {d:=false,x:= {addr:=x.1,at':=3,word:=x.3,found:=aB s.3 (2*n+5+2*t+3*(aA x.3 20 5 - 1)+2) },s:= {s with c:=s.4+1,k:=1,a:=2*n+5+2*t+3*(aA x.3 20 5 - 1)+2,o:=aB s.3 (2*n+5+2*t+3*(aA x.3 20 5 - 1)+2),w:=aB s.3 (2*n+5+2*t+3*(aA x.3 20 5 - 1)+2),ok:=bM s.3 (2*n+5+2*t+3*(aA x.3 20 5 - 1)+2) } }))))))
theorem IY(t n:Int)(x:CLS)(s:MS)(K:ClO→Prop)(h:(A2 t n x s).run K):cT' 96 [.ptr 0 0,.ptr 1 0] [some (.cells [.int .i64 t,.int .i64 n,.int .i64 x.addr,.int .i64 1,.int .u64 x.word,.int .u64 x.found]),a8 2 s,a9 s] (cC 3 0 [] [] (QK t n) K):=by
 exact cM' (E:=EB3) (by kernel_rfl) h
def A3(t n:Int)(x:CLS)(s:MS):Tr ClO:=.pre True (.pre True (.pre True (.pre True (.pre ((((0:Int)≤t∧t≤(100000:Int))∧((0:Int)≤n∧n≤(100000:Int))∧(-1099511627776:Int)≤aA x.3 20 5 - 1∧aA x.3 20 5 - (1:Int)≤(1099511627776:Int))∧True) (.pre ((lE' s.3∧(0:Int)≤s.4∧s.4≤(4611686018427387904:Int))∧True) (.pre ((t=t∧n=n)∧lE' (bif aR s.3 (2*n+5+2*t+3*(aA x.3 20 5 - 1)+2) x.4 then aL s.3 (2*n+5+2*t+3*(aA x.3 20 5 - 1)+2) (bif dOk (aA x.4 0 12) (aA x.4 12 9) (aA x.4 21 18) (aA x.4 39 9) 3 (aA x.4 52 10)then cO (aA x.4 0 12) (aA x.4 12 9) (aA x.4 21 18) (aA x.4 39 9) (ieq (aA x.4 48 1) 1) 3 (aA x.4 52 10)else 0)else s.3)) (.ret {d:=false,x:= {x with at':=3},s:= {t:=s.1,n:=s.2,xs:=bif aR s.3 (2*n+5+2*t+3*(aA x.3 20 5 - 1)+2) x.4 then aL s.3 (2*n+5+2*t+3*(aA x.3 20 5 - 1)+2) (bif dOk (aA x.4 0 12) (aA x.4 12 9) (aA x.4 21 18) (aA x.4 39 9) 3 (aA x.4 52 10)then cO (aA x.4 0 12) (aA x.4 12 9) (aA x.4 21 18) (aA x.4 39 9) (ieq (aA x.4 48 1) 1) 3 (aA x.4 52 10)else 0)else s.3,c:=s.4+1,k:=3,a:=2*n+5+2*t+3*(aA x.3 20 5 - 1)+2,o:=aB s.3 (2*n+5+2*t+3*(aA x.3 20 5 - 1)+2),w:=bif bM s.3 (2*n+5+2*t+3*(aA x.3 20 5 - 1)+2)then bif dOk (aA x.4 0 12) (aA x.4 12 9) (aA x.4 21 18) (aA x.4 39 9) 3 (aA x.4 52 10)then cO (aA x.4 0 12) (aA x.4 12 9) (aA x.4 21 18) (aA x.4 39 9) (ieq (aA x.4 48 1) 1) 3 (aA x.4 52 10)else 0 else 0,ok:=aR s.3 (2*n+5+2*t+3*(aA x.3 20 5 - 1)+2) x.4} })))))))
theorem IZ(t n:Int)(x:CLS)(s:MS)(K:ClO→Prop)(h:(A3 t n x s).run K):cT' 96 [.ptr 0 0,.ptr 1 0] [some (.cells [.int .i64 t,.int .i64 n,.int .i64 x.addr,.int .i64 2,.int .u64 x.word,.int .u64 x.found]),a8 2 s,a9 s] (cC 3 0 [] [] (QK t n) K):=by
 exact cM' (E:=EB3) (by kernel_rfl) h
def A4(t n:Int)(x:CLS)(s:MS):Tr ClO:=.pre True (.pre ((0:Int)≤aA x.3 25 18∧aA x.3 25 (18:Int)≤(1000000:Int)) (.pre True (.pre ((lE' s.3∧(0:Int)≤s.4∧s.4≤(4611686018427387904:Int))∧True) (.pre ((t=t∧n=n)∧lE' (bif aR s.3 x.1 x.3 then aL s.3 x.1 (bif bif aG (aA x.3 0 10) 10 then bif aG (aA x.3 10 9) 9 then bif aG 0 5 then aG (aQ (aA x.3 25 18)) 18 else false else false else false then bD (aA x.3 0 10) (aA x.3 10 9) (ieq (aA x.3 19 1) 1) 0 (aQ (aA x.3 25 18))else 0)else s.3)) (.ret {d:=true,x:= {x with at':=3},s:= {t:=s.1,n:=s.2,xs:=bif aR s.3 x.1 x.3 then aL s.3 x.1 (bif bif aG (aA x.3 0 10) 10 then bif aG (aA x.3 10 9) 9 then bif aG 0 5 then aG (aQ (aA x.3 25 18)) 18 else false else false else false then bD (aA x.3 0 10) (aA x.3 10 9) (ieq (aA x.3 19 1) 1) 0 (aQ (aA x.3 25 18))else 0)else s.3,c:=s.4+1,k:=3,a:=x.1,o:=aB s.3 x.1,w:=bif bM s.3 x.1 then bif bif aG (aA x.3 0 10) 10 then bif aG (aA x.3 10 9) 9 then bif aG 0 5 then aG (aQ (aA x.3 25 18)) 18 else false else false else false then bD (aA x.3 0 10) (aA x.3 10 9) (ieq (aA x.3 19 1) 1) 0 (aQ (aA x.3 25 18))else 0 else 0,ok:=aR s.3 x.1 x.3} })))))
theorem I0(t n:Int)(x:CLS)(s:MS)(K:ClO→Prop)(h:(A4 t n x s).run K):cT' 96 [.ptr 0 0,.ptr 1 0] [some (.cells [.int .i64 t,.int .i64 n,.int .i64 x.addr,.int .i64 3,.int .u64 x.word,.int .u64 x.found]),a8 2 s,a9 s] (cC 3 0 [] [] (QK t n) K):=by
 exact cM' (E:=EB3) (by kernel_rfl) h
def clT(t n:Int)(x:CLS)(s:MS):Tr ClO:=
 bif ieq x.at' 0 then A1 t n x s else
 bif ieq x.at' 1 then A2 t n x s else
 bif ieq x.at' 2 then A3 t n x s else
 bif ieq x.at' 3 then A4 t n x s else .pre False (.ret default)
def dL(t n:Int)(x:CLS)(s:MS):ClO:=(clT t n x s).val
def MQ(t n:Int)(x:CLS)(s:MS):Prop:=(clT t n x s).ok
theorem RC(t n:Int)(x:CLS)(s:MS)(K:AVal→aD Ob→Prop)(h:(clT t n x s).run (fun y=>(ClO.fin t n y).run K)):cT' 96 [.ptr 0 0,.ptr 1 0] (clH t n x s) K:=by
 unfold clT at h
 by_cases e:x.at'=0
 ·rw [e]at h
  have h:(A1 t n x s).run _:=h
  refine aC9 (root:=0) (pos:=[]) (cs:=[]) (parse:=QK t n) (fin:=ClO.fin t n) yL (bE.unpack (.clear t n x) 0 0 (lX t n x) [] rfl (congrArg (Prod.mk 0) rfl) (by kernel_rfl) rfl) ?_
  have q:=IX t n x s _ h
  rw [←e]at q
  exact q
 rw [bW e]at h
 by_cases e:x.at'=1
 ·rw [e]at h
  have h:(A2 t n x s).run _:=h
  refine aC9 (root:=0) (pos:=[]) (cs:=[]) (parse:=QK t n) (fin:=ClO.fin t n) yL (bE.unpack (.clear t n x) 0 0 (lX t n x) [] rfl (congrArg (Prod.mk 0) rfl) (by kernel_rfl) rfl) ?_
  have q:=IY t n x s _ h
  rw [←e]at q
  exact q
 rw [bW e]at h
 by_cases e:x.at'=2
 ·rw [e]at h
  have h:(A3 t n x s).run _:=h
  refine aC9 (root:=0) (pos:=[]) (cs:=[]) (parse:=QK t n) (fin:=ClO.fin t n) yL (bE.unpack (.clear t n x) 0 0 (lX t n x) [] rfl (congrArg (Prod.mk 0) rfl) (by kernel_rfl) rfl) ?_
  have q:=IZ t n x s _ h
  rw [←e]at q
  exact q
 rw [bW e]at h
 by_cases e:x.at'=3
 ·rw [e]at h
  have h:(A4 t n x s).run _:=h
  refine aC9 (root:=0) (pos:=[]) (cs:=[]) (parse:=QK t n) (fin:=ClO.fin t n) yL (bE.unpack (.clear t n x) 0 0 (lX t n x) [] rfl (congrArg (Prod.mk 0) rfl) (by kernel_rfl) rfl) ?_
  have q:=I0 t n x s _ h
  rw [←e]at q
  exact q
 rw [bW e]at h
 exact h.1.elim
noncomputable def clS:aJ Ob:=fun args h=>match args,h with
 | [.ptr 0 0,.ptr 1 0],[some (.abs (.clear t n x) []),e1,e2]=>(match cW 2 [e1,e2]with
   | some (l,s)=>some (.pre (l=s.xs.length∧MQ t n x s) (ClO.fin t n (dL t n x s)))
   | none=>none)
 | _,_=>none
theorem aA9:sT' 96 clS:=by
 intro args h o ho K hK
 unfold clS at ho
 split at ho
 case h_2=>cases ho
 split at ho<;>cases ho
 rename_i hm
 obtain⟨⟨hl,ok⟩,hK⟩:=hK
 have hh:=bA hm hl
 cases hh
 exact RC _ _ _ _ K (aDe ok hK)
def XK(t n:Int)(v:AVal)(g:aD Ob):Option (Prop×CLS):=match v,g with
 | .ptr 0 0,[some (.cells [.int .i64 t1,.int .i64 n1,.int .i64 addr,.int .i64 at',.int .u64 word,.int .u64 found])]=>some ((t1=t∧n1=n),(⟨addr,at',word,found⟩:CLS))
 | _,_=>none
abbrev Q9(t n:Int)(y:CLS):aD Ob:=[some (.abs (.clear t n y) [])]
theorem RA{t n:Int} :cA (obI tbl) 0 (XK t n) (fun y=>.ret (.ptr 0 0) (Q9 t n y)):=by
 intro v g p x hp hq K hK
 unfold XK at hp
 split at hp
 case h_2=>cases hp
 rename_i t1 n1 addr at' word found
 simp only [sI',pI']at hp
 obtain⟨rfl,rfl⟩:=hp
 obtain⟨rfl,rfl⟩:=hq
 exact⟨⟨_,_,aF.pack (Q9 t1 n1 (⟨addr,at',word,found⟩:CLS)) (.clear t1 n1 (⟨addr,at',word,found⟩:CLS)) 0 0 (lX t1 n1 (⟨addr,at',word,found⟩:CLS)) [] (by kernel_rfl) rfl (congrArg (Prod.mk 0) rfl) (by kernel_rfl),hK⟩⟩
def XL(t n:Int)(a:Int):Tr CLS:=.pre (t=t∧n=n) (.ret {addr:=a,at':=0,word:=0,found:=0})
def yK(t n:Int)(a:Int):CLS:=(XL t n a).val
def pO(t n:Int)(a:Int):Prop:=(XL t n a).ok
def clNS:aJ Ob:=fun args h=>match args,h with
 | [.agg [.int .i64 t,.int .i64 n],.int .i64 a],[]=>some (.pre (pO t n a) (.ret (.ptr 0 0) (Q9 t n (yK t n a))))
 | _,_=>none
theorem XM:sT' 159 clNS:=by
 intro args h o ho K hK
 unfold clNS at ho
 split at ho<;>cases ho
 rename_i t n a
 obtain⟨ok,hK⟩:=hK
 refine aDh (root:=0) (pos:=[]) (cs:=[]) (parse:=XK t n) RA ?_
 exact cM' (E:=EB3) (q:=(XL t n a).run (fun y=>(Out.ret (.ptr 0 0) (Q9 t n y)).run K)) (by kernel_rfl) (aDe ok hK)
noncomputable def EC1:=((EB3.addS 96 clS aA9).addS 159 clNS XM)
def cmpI(a b:Int):Int:=bif ilt a b then -1 else bif ilt b a then 1 else 0
def orI(a b:Int):Int:=bif ieq a 0 then b else a
def C5(u n v m:Int):Int:=orI (cmpI n m) (cmpI u v)
def MT:bL Ob:=fun args h=>match args,h with
 | [.int .i64 a,.int .i64 b],[]=>some (True,.int .i64 (cmpI a b))
 | _,_=>none
theorem RD:sT' 231 MT.spec:=by
 intro args h o ho K hK
 unfold bL.spec MT at ho
 split at ho
 case h_2=>cases ho
 rename_i p v hp
 split at hp
 case h_2=>cases hp
 rename_i a b
 simp only [sI',pI']at hp
 obtain⟨rfl,rfl⟩:=hp
 simp only [sI']at ho;subst ho
 obtain⟨hp,hK⟩:=hK
 have hK:K (.int .i64 (cmpI a b)) []:=hK
 refine aC8 (cM' (E:=EC1) (q:=bif !ieq a a then bif !ieq b b then K (.int .i64 0) []else K (.int .i64 (-1:Int)) []else bif !ieq b b then K (.int .i64 1) []else bif ilt a b then K (.int .i64 (-1:Int)) []else bif ilt b a then K (.int .i64 1) []else K (.int .i64 0) []) (by kernel_rfl) ?_)
 unfold cmpI at hK
 rw [bN,bN]
 cases h:ilt a b with
 | true=>rw [h]at hK;exact hK
 | false=>cases h2:ilt b a<;>(rw [h,h2]at hK;exact hK)
def MV:bL Ob:=fun args h=>match args,h with
 | [.int .u64 a,.int .u64 b],[]=>some (True,.int .i64 (cmpI a b))
 | _,_=>none
theorem RF:sT' 230 MV.spec:=by
 intro args h o ho K hK
 unfold bL.spec MV at ho
 split at ho
 case h_2=>cases ho
 rename_i p v hp
 split at hp
 case h_2=>cases hp
 rename_i a b
 simp only [sI',pI']at hp
 obtain⟨rfl,rfl⟩:=hp
 simp only [sI']at ho;subst ho
 obtain⟨hp,hK⟩:=hK
 have hK:K (.int .i64 (cmpI a b)) []:=hK
 refine aC8 (cM' (E:=EC1) (q:=bif !ieq a a then bif !ieq b b then K (.int .i64 0) []else K (.int .i64 (-1:Int)) []else bif !ieq b b then K (.int .i64 1) []else bif ilt a b then K (.int .i64 (-1:Int)) []else bif ilt b a then K (.int .i64 1) []else K (.int .i64 0) []) (by kernel_rfl) ?_)
 unfold cmpI at hK
 rw [bN,bN]
 cases h:ilt a b with
 | true=>rw [h]at hK;exact hK
 | false=>cases h2:ilt b a<;>(rw [h,h2]at hK;exact hK)
def MU:bL Ob:=fun args h=>match args,h with
 | [.slice 0 0 2 1],[some (.cells [.int .i64 a,.int .i64 b])]=>some (True,.int .i64 (orI a b))
 | _,_=>none
theorem RE:sT' 229 MU.spec:=by
 intro args h o ho K hK
 unfold bL.spec MU at ho
 split at ho
 case h_2=>cases ho
 rename_i p v hp
 split at hp
 case h_2=>cases hp
 rename_i a b
 simp only [sI',pI']at hp
 obtain⟨rfl,rfl⟩:=hp
 simp only [sI']at ho;subst ho
 obtain⟨hp,hK⟩:=hK
 have hK:K (.int .i64 (orI a b)) [some (.cells [.int .i64 a,.int .i64 b])]:=hK
 refine aC8 (cM' (E:=EC1) (q:=((0:Int)≤(0:Int)∧(0:Int)<(↑2:Int))∧bif !ieq a 0 then K (.int .i64 a) [some (.cells [.int .i64 a,.int .i64 b])]else((0:Int)≤W (0+1)∧W (0+1)<(↑2:Int))∧bif !ieq b 0 then K (.int .i64 b) [some (.cells [.int .i64 a,.int .i64 b])]else K (.int .i64 0) [some (.cells [.int .i64 a,.int .i64 b])]) (by kernel_rfl) ?_)
 unfold orI at hK
 have e1:W (0+1)=1:=by decide
 simp only [W]at e1
 simp only [W,e1]
 refine⟨by omega,?_⟩
 cases h:ieq a 0 with
 | false=>rw [h]at hK;exact hK
 | true=>
   rw [h]at hK
   refine⟨by omega,?_⟩
   cases h2:ieq b 0 with
   | false=>exact hK
   | true=>
     have:b=0:=by rw [bI]at h2;simpa using h2
     subst this;exact hK
noncomputable def EQ1:=((EC1.addR 231 MT RD).addR 230 MV RF).addR 229 MU RE
def PG:bL Ob:=fun args h=>match args,h with
 | [.agg [.int .i64 u,.int .u64 n],.agg [.int .i64 v,.int .u64 m]],[]=>some (True,.int .i64 (C5 u n v m))
 | _,_=>none
theorem UO:sT' 226 PG.spec:=by
 intro args h o ho K hK
 unfold bL.spec PG at ho
 split at ho
 case h_2=>cases ho
 rename_i p v hp
 split at hp
 case h_2=>cases hp
 rename_i u n v m
 simp only [sI',pI']at hp
 obtain⟨rfl,rfl⟩:=hp
 simp only [sI']at ho;subst ho
 obtain⟨hp,hK⟩:=hK
 have hK:K (.int .i64 (C5 u n v m)) []:=hK
 refine aC8 (cM' (E:=EQ1) (q:=True∧True∧True∧K (.int .i64 (orI (cmpI n m) (cmpI u v))) []) (by kernel_rfl) ?_)
 exact⟨trivial,trivial,trivial,hK⟩
noncomputable def EQ2:=EQ1.addR 226 PG UO
def zO(u n v m:Int):Bool:=!ile 0 (C5 u n v m)
def FY:bL Ob:=fun args h=>match args,h with
 | [.slice 0 0 2 2],[some (.cells [.int .i64 u,.int .u64 n,.int .i64 v,.int .u64 m])]=>some (True,.bool (zO u n v m))
 | _,_=>none
theorem PH:sT' 218 FY.spec:=by
 intro args h o ho K hK
 unfold bL.spec FY at ho
 split at ho
 case h_2=>cases ho
 rename_i p v hp
 split at hp
 case h_2=>cases hp
 rename_i u n v m
 simp only [sI',pI']at hp
 obtain⟨rfl,rfl⟩:=hp
 simp only [sI']at ho;subst ho
 obtain⟨hp,hK⟩:=hK
 have hK:K (.bool (zO u n v m)) [some (.cells [.int .i64 u,.int .u64 n,.int .i64 v,.int .u64 m])]:=hK
 refine aC8 (cM' (E:=EQ2) (q:=((0:Int)≤W (1 - 1)∧W (1 - 1)<(↑2:Int))∧((0:Int)≤(1:Int)∧(1:Int)<(↑2:Int))∧True∧bif ile 0 (C5 u n v m)then K (.bool false) [some (.cells [.int .i64 u,.int .u64 n,.int .i64 v,.int .u64 m])]else K (.bool true) [some (.cells [.int .i64 u,.int .u64 n,.int .i64 v,.int .u64 m])]) (by kernel_rfl) ?_)
 have e1:W (1 - 1)=0:=by decide
 simp only [W]at e1
 simp only [W,e1]
 refine⟨by omega,by omega,trivial,?_⟩
 unfold zO at hK
 cases h:ile 0 (C5 u n v m)<;>(rw [h]at hK;exact hK)
noncomputable def EQ:=EQ2.addR 218 FY PH
structure HdO where
 d:Bool
 x:HDS
 s:MS
instance:Inhabited HdO:=⟨⟨false,⟨0,0,0,false⟩,⟨0,0,[],0,0,0,0,0,false⟩⟩⟩
instance:Inhabited HDS:=⟨⟨0,0,0,false⟩⟩
abbrev hdH(t n:Int)(x:HDS)(s:MS):aD Ob:=[some (.abs (.head t n x) []),a8 2 s,a9 s]
abbrev hdD(t n:Int)(x:HDS)(s:MS):aD Ob:=[some (.cells [.int .i64 t,.int .i64 n,.int .i64 x.u,.int .u64 x.no,.int .i64 x.at',.bool x.tk]),a8 2 s,a9 s]
def HdO.fin(t n:Int)(y:HdO):Out Ob:=.ite y.d (.ret (.bool true) (hdD t n y.x y.s)) (.ret (.bool false) (hdH t n y.x y.s))
def ZM(t n:Int)(v:AVal)(g:aD Ob):Option (Prop×HdO):=match v,g with
 | .bool d,[some (.cells [.int .i64 t1,.int .i64 n1,.int .i64 u,.int .u64 no,.int .i64 at',.bool tk]),e1,e2]=>(match cW 2 [e1,e2]with
   | some (l,s)=>some ((t1=t∧n1=n)∧l=s.xs.length,⟨d,⟨u,no,at',tk⟩,s⟩)
   | none=>none)
 | _,_=>none
def hdP(t n:Int)(v:AVal)(g:aD Ob):Option (Prop×HdO):=ZM t n v g
theorem TN{t n:Int} :cA (obI tbl) 3 (ZM t n) (HdO.fin t n):=by
 intro v g p x hp hq K hK
 unfold ZM at hp
 split at hp
 case h_2=>cases hp
 rename_i d t1 n1 u no at' tk e1 e2
 split at hp
 case h_2=>cases hp
 rename_i l s hm
 simp only [sI',pI']at hp
 obtain⟨rfl,rfl⟩:=hp
 obtain⟨⟨rfl,rfl⟩,hl⟩:=hq
 have hh:=bA hm hl
 cases hh
 refine qQ hK (fun h=>?_) (fun h=>?_)
 ·exact⟨⟨_,_,aF.refl _ _ _,h⟩⟩
 ·exact⟨⟨_,_,(aF.pack (hdH t1 n1 (⟨u,no,at',tk⟩:HDS) s) (.head t1 n1 (⟨u,no,at',tk⟩:HDS)) 0 0 (zB t1 n1 (⟨u,no,at',tk⟩:HDS)) [] (by kernel_rfl) rfl (congrArg (Prod.mk 0) rfl) (by kernel_rfl)),h⟩⟩
theorem ZN{t n:Int} :cA (obI tbl) 3 (hdP t n) (HdO.fin t n):=by
 intro v g p x hp hq K hK
 unfold hdP at hp
 exact TN v g p x hp hq K hK
def N8(t n:Int)(x:HDS)(s:MS):Tr HdO:=.ite (!x.4) (.pre ((((0:Int)≤t∧t≤(100000:Int))∧((0:Int)≤n∧n≤(100000:Int))∧(-1099511627776:Int)≤x.3∧x.3≤(1099511627776:Int))∧True) (.pre ((lE' s.3∧(0:Int)≤s.4∧s.4≤(4611686018427387904:Int))∧True) (.pre True (.pre True (.ite (!lJ (aA (aB s.3 (2*n+5+2*t+3*x.3+2)) 49 3)) (.pre ((t=t∧n=n)∧lE' s.3) (.ret {d:=ile t (W (x.3+1)),x:= {u:=x.1,no:=x.2,at':=W (x.3+1),tk:=false},s:= {s with c:=s.4+1,k:=1,a:=2*n+5+2*t+3*x.3+2,o:=aB s.3 (2*n+5+2*t+3*x.3+2),w:=aB s.3 (2*n+5+2*t+3*x.3+2),ok:=bM s.3 (2*n+5+2*t+3*x.3+2) } })) (.pre ((t=t∧n=n)∧lE' s.3) (.ret {d:=false,x:= {x with tk:=lJ (aA (aB s.3 (2*n+5+2*t+3*x.3+2)) 49 3) },s:= {s with c:=s.4+1,k:=1,a:=2*n+5+2*t+3*x.3+2,o:=aB s.3 (2*n+5+2*t+3*x.3+2),w:=aB s.3 (2*n+5+2*t+3*x.3+2),ok:=bM s.3 (2*n+5+2*t+3*x.3+2) } }))))))) (.pre ((((0:Int)≤t∧t≤(100000:Int))∧((0:Int)≤n∧n≤(100000:Int))∧(-1099511627776:Int)≤x.3∧x.3≤(1099511627776:Int))∧True) (.pre ((lE' s.3∧(0:Int)≤s.4∧s.4≤(4611686018427387904:Int))∧True) (.ite (ilt x.1 0) (.pre ((t=t∧n=n)∧lE' s.3) (.ret {d:=ile t (W (x.3+1)),x:= {u:=x.3,no:=aB s.3 (2*n+5+2*t+3*x.3),at':=W (x.3+1),tk:=false},s:= {s with c:=s.4+1,k:=1,a:=2*n+5+2*t+3*x.3,o:=aB s.3 (2*n+5+2*t+3*x.3),w:=aB s.3 (2*n+5+2*t+3*x.3),ok:=bM s.3 (2*n+5+2*t+3*x.3) } })) (.pre True (.ite (zO x.3 (aB s.3 (2*n+5+2*t+3*x.3)) x.1 x.2) (.pre ((t=t∧n=n)∧lE' s.3) (.ret {d:=ile t (W (x.3+1)),x:= {u:=x.3,no:=aB s.3 (2*n+5+2*t+3*x.3),at':=W (x.3+1),tk:=false},s:= {s with c:=s.4+1,k:=1,a:=2*n+5+2*t+3*x.3,o:=aB s.3 (2*n+5+2*t+3*x.3),w:=aB s.3 (2*n+5+2*t+3*x.3),ok:=bM s.3 (2*n+5+2*t+3*x.3) } })) (.pre ((t=t∧n=n)∧lE' s.3) (.ret {d:=ile t (W (x.3+1)),x:= {u:=x.1,no:=x.2,at':=W (x.3+1),tk:=false},s:= {s with c:=s.4+1,k:=1,a:=2*n+5+2*t+3*x.3,o:=aB s.3 (2*n+5+2*t+3*x.3),w:=aB s.3 (2*n+5+2*t+3*x.3),ok:=bM s.3 (2*n+5+2*t+3*x.3) } })))))))
theorem N9(t n:Int)(x:HDS)(s:MS)(K:HdO→Prop)(h:(N8 t n x s).run K):cT' 185 [.ptr 0 0,.ptr 1 0] [some (.cells [.int .i64 t,.int .i64 n,.int .i64 x.u,.int .u64 x.no,.int .i64 x.at',.bool x.tk]),a8 2 s,a9 s] (cC 3 0 [] [] (hdP t n) K):=by
 exact cM' (E:=EQ) (by kernel_rfl) h
def ZO(t n:Int)(x:HDS)(s:MS):Tr HdO:=N8 t n x s
def hdF(t n:Int)(x:HDS)(s:MS):HdO:=(ZO t n x s).val
def ZL(t n:Int)(x:HDS)(s:MS):Prop:=(ZO t n x s).ok
theorem TO(t n:Int)(x:HDS)(s:MS)(K:AVal→aD Ob→Prop)(h:(ZO t n x s).run (fun y=>(HdO.fin t n y).run K)):cT' 185 [.ptr 0 0,.ptr 1 0] (hdH t n x s) K:=by
 unfold ZO at h
 exact aC9 (root:=0) (pos:=[]) (cs:=[]) (parse:=hdP t n) (fin:=HdO.fin t n) ZN (bE.unpack (.head t n x) 0 0 (zB t n x) [] rfl (congrArg (Prod.mk 0) rfl) (by kernel_rfl) rfl) (N9 t n x s _ h)
noncomputable def hdS:aJ Ob:=fun args h=>match args,h with
 | [.ptr 0 0,.ptr 1 0],[some (.abs (.head t n x) []),e1,e2]=>(match cW 2 [e1,e2]with
   | some (l,s)=>some (.pre (l=s.xs.length∧ZL t n x s) (HdO.fin t n (hdF t n x s)))
   | none=>none)
 | _,_=>none
theorem aBG:sT' 185 hdS:=by
 intro args h o ho K hK
 unfold hdS at ho
 split at ho
 case h_2=>cases ho
 split at ho<;>cases ho
 rename_i hm
 obtain⟨⟨hl,ok⟩,hK⟩:=hK
 have hh:=bA hm hl
 cases hh
 exact TO _ _ _ _ K (aDe ok hK)
def ZI(t n:Int)(v:AVal)(g:aD Ob):Option (Prop×HDS):=match v,g with
 | .ptr 0 0,[some (.cells [.int .i64 t1,.int .i64 n1,.int .i64 u,.int .u64 no,.int .i64 at',.bool tk])]=>some ((t1=t∧n1=n),(⟨u,no,at',tk⟩:HDS))
 | _,_=>none
abbrev TJ(t n:Int)(y:HDS):aD Ob:=[some (.abs (.head t n y) [])]
theorem TL{t n:Int} :cA (obI tbl) 0 (ZI t n) (fun y=>.ret (.ptr 0 0) (TJ t n y)):=by
 intro v g p x hp hq K hK
 unfold ZI at hp
 split at hp
 case h_2=>cases hp
 rename_i t1 n1 u no at' tk
 simp only [sI',pI']at hp
 obtain⟨rfl,rfl⟩:=hp
 obtain⟨rfl,rfl⟩:=hq
 exact⟨⟨_,_,aF.pack (TJ t1 n1 (⟨u,no,at',tk⟩:HDS)) (.head t1 n1 (⟨u,no,at',tk⟩:HDS)) 0 0 (zB t1 n1 (⟨u,no,at',tk⟩:HDS)) [] (by kernel_rfl) rfl (congrArg (Prod.mk 0) rfl) (by kernel_rfl),hK⟩⟩
def ZJ(t n:Int):Tr HDS:=.pre (t=t∧n=n) (.ret {u:= -1,no:=0,at':=0,tk:=false})
def TI(t n:Int):HDS:=(ZJ t n).val
def N7(t n:Int):Prop:=(ZJ t n).ok
def hdNS:aJ Ob:=fun args h=>match args,h with
 | [.agg [.int .i64 t,.int .i64 n]],[]=>some (.pre (N7 t n) (.ret (.ptr 0 0) (TJ t n (TI t n))))
 | _,_=>none
theorem ZK:sT' 119 hdNS:=by
 intro args h o ho K hK
 unfold hdNS at ho
 split at ho<;>cases ho
 rename_i t n
 obtain⟨ok,hK⟩:=hK
 refine aDh (root:=0) (pos:=[]) (cs:=[]) (parse:=ZI t n) TL ?_
 exact cM' (E:=EQ) (q:=(ZJ t n).run (fun y=>(Out.ret (.ptr 0 0) (TJ t n y)).run K)) (by kernel_rfl) (aDe ok hK)
noncomputable def EC2:=((EQ.addS 185 hdS aBG).addS 119 hdNS ZK)
structure DrO where
 d:Bool
 x:DRS
 s:MS
instance:Inhabited DrO:=⟨⟨false,⟨0,0⟩,⟨0,0,[],0,0,0,0,0,false⟩⟩⟩
instance:Inhabited DRS:=⟨⟨0,0⟩⟩
abbrev drH(t n:Int)(x:DRS)(s:MS):aD Ob:=[some (.abs (.drop t n x) []),a8 2 s,a9 s]
abbrev drD(t n:Int)(x:DRS)(s:MS):aD Ob:=[some (.cells [.int .i64 t,.int .i64 n,.int .i64 x.th,.int .i64 x.at']),a8 2 s,a9 s]
def DrO.fin(t n:Int)(y:DrO):Out Ob:=.ite y.d (.ret (.bool true) (drD t n y.x y.s)) (.ret (.bool false) (drH t n y.x y.s))
def YB(t n:Int)(v:AVal)(g:aD Ob):Option (Prop×DrO):=match v,g with
 | .bool d,[some (.cells [.int .i64 t1,.int .i64 n1,.int .i64 th,.int .i64 at']),e1,e2]=>(match cW 2 [e1,e2]with
   | some (l,s)=>some ((t1=t∧n1=n)∧l=s.xs.length,⟨d,⟨th,at'⟩,s⟩)
   | none=>none)
 | _,_=>none
def drP(t n:Int)(v:AVal)(g:aD Ob):Option (Prop×DrO):=YB t n v g
theorem R6{t n:Int} :cA (obI tbl) 3 (YB t n) (DrO.fin t n):=by
 intro v g p x hp hq K hK
 unfold YB at hp
 split at hp
 case h_2=>cases hp
 rename_i d t1 n1 th at' e1 e2
 split at hp
 case h_2=>cases hp
 rename_i l s hm
 simp only [sI',pI']at hp
 obtain⟨rfl,rfl⟩:=hp
 obtain⟨⟨rfl,rfl⟩,hl⟩:=hq
 have hh:=bA hm hl
 cases hh
 refine qQ hK (fun h=>?_) (fun h=>?_)
 ·exact⟨⟨_,_,aF.refl _ _ _,h⟩⟩
 ·exact⟨⟨_,_,(aF.pack (drH t1 n1 (⟨th,at'⟩:DRS) s) (.drop t1 n1 (⟨th,at'⟩:DRS)) 0 0 (yS t1 n1 (⟨th,at'⟩:DRS)) [] (by kernel_rfl) rfl (congrArg (Prod.mk 0) rfl) (by kernel_rfl)),h⟩⟩
theorem YC{t n:Int} :cA (obI tbl) 3 (drP t n) (DrO.fin t n):=by
 intro v g p x hp hq K hK
 unfold drP at hp
 exact R6 v g p x hp hq K hK
def JE(t n:Int)(x:DRS)(s:MS):Tr DrO:=.pre ((((0:Int)≤t∧t≤(100000:Int))∧((0:Int)≤n∧n≤(100000:Int))∧((-1099511627776:Int)≤x.1∧x.1≤(1099511627776:Int))∧(-1099511627776:Int)≤x.2∧x.2≤(1099511627776:Int))∧True) (.pre ((lE' s.3∧(0:Int)≤s.4∧s.4≤(4611686018427387904:Int))∧True) (.pre ((t=t∧n=n)∧lE' (aL s.3 (2*n+5+2*x.1+x.2) 0)) (.ret {d:=ile 2 (W (x.2+1)),x:= {th:=x.1,at':=W (x.2+1) },s:= {t:=s.1,n:=s.2,xs:=aL s.3 (2*n+5+2*x.1+x.2) 0,c:=s.4+1,k:=2,a:=2*n+5+2*x.1+x.2,o:=aB s.3 (2*n+5+2*x.1+x.2),w:=bif bM s.3 (2*n+5+2*x.1+x.2)then 0 else 0,ok:=bM s.3 (2*n+5+2*x.1+x.2) } })))
theorem NG(t n:Int)(x:DRS)(s:MS)(K:DrO→Prop)(h:(JE t n x s).run K):cT' 193 [.ptr 0 0,.ptr 1 0] [some (.cells [.int .i64 t,.int .i64 n,.int .i64 x.th,.int .i64 x.at']),a8 2 s,a9 s] (cC 3 0 [] [] (drP t n) K):=by
 exact cM' (E:=EC2) (by kernel_rfl) h
def VU(t n:Int)(x:DRS)(s:MS):Tr DrO:=JE t n x s
def drF(t n:Int)(x:DRS)(s:MS):DrO:=(VU t n x s).val
def YA(t n:Int)(x:DRS)(s:MS):Prop:=(VU t n x s).ok
theorem R7(t n:Int)(x:DRS)(s:MS)(K:AVal→aD Ob→Prop)(h:(VU t n x s).run (fun y=>(DrO.fin t n y).run K)):cT' 193 [.ptr 0 0,.ptr 1 0] (drH t n x s) K:=by
 unfold VU at h
 exact aC9 (root:=0) (pos:=[]) (cs:=[]) (parse:=drP t n) (fin:=DrO.fin t n) YC (bE.unpack (.drop t n x) 0 0 (yS t n x) [] rfl (congrArg (Prod.mk 0) rfl) (by kernel_rfl) rfl) (NG t n x s _ h)
noncomputable def drS:aJ Ob:=fun args h=>match args,h with
 | [.ptr 0 0,.ptr 1 0],[some (.abs (.drop t n x) []),e1,e2]=>(match cW 2 [e1,e2]with
   | some (l,s)=>some (.pre (l=s.xs.length∧YA t n x s) (DrO.fin t n (drF t n x s)))
   | none=>none)
 | _,_=>none
theorem aBr:sT' 193 drS:=by
 intro args h o ho K hK
 unfold drS at ho
 split at ho
 case h_2=>cases ho
 split at ho<;>cases ho
 rename_i hm
 obtain⟨⟨hl,ok⟩,hK⟩:=hK
 have hh:=bA hm hl
 cases hh
 exact R7 _ _ _ _ K (aDe ok hK)
def X6(t n:Int)(v:AVal)(g:aD Ob):Option (Prop×DRS):=match v,g with
 | .ptr 0 0,[some (.cells [.int .i64 t1,.int .i64 n1,.int .i64 th,.int .i64 at'])]=>some ((t1=t∧n1=n),(⟨th,at'⟩:DRS))
 | _,_=>none
abbrev R3(t n:Int)(y:DRS):aD Ob:=[some (.abs (.drop t n y) [])]
theorem R4{t n:Int} :cA (obI tbl) 0 (X6 t n) (fun y=>.ret (.ptr 0 0) (R3 t n y)):=by
 intro v g p x hp hq K hK
 unfold X6 at hp
 split at hp
 case h_2=>cases hp
 rename_i t1 n1 th at'
 simp only [sI',pI']at hp
 obtain⟨rfl,rfl⟩:=hp
 obtain⟨rfl,rfl⟩:=hq
 exact⟨⟨_,_,aF.pack (R3 t1 n1 (⟨th,at'⟩:DRS)) (.drop t1 n1 (⟨th,at'⟩:DRS)) 0 0 (yS t1 n1 (⟨th,at'⟩:DRS)) [] (by kernel_rfl) rfl (congrArg (Prod.mk 0) rfl) (by kernel_rfl),hK⟩⟩
def X8(t n:Int)(u:Int):Tr DRS:=.pre (t=t∧n=n) (.ret {th:=u,at':=0})
def mJ(t n:Int)(u:Int):DRS:=(X8 t n u).val
def sP(t n:Int)(u:Int):Prop:=(X8 t n u).ok
def drNS:aJ Ob:=fun args h=>match args,h with
 | [.agg [.int .i64 t,.int .i64 n],.int .i64 u],[]=>some (.pre (sP t n u) (.ret (.ptr 0 0) (R3 t n (mJ t n u))))
 | _,_=>none
theorem X9:sT' 221 drNS:=by
 intro args h o ho K hK
 unfold drNS at ho
 split at ho<;>cases ho
 rename_i t n u
 obtain⟨ok,hK⟩:=hK
 refine aDh (root:=0) (pos:=[]) (cs:=[]) (parse:=X6 t n) R4 ?_
 exact cM' (E:=EC2) (q:=(X8 t n u).run (fun y=>(Out.ret (.ptr 0 0) (R3 t n y)).run K)) (by kernel_rfl) (aDe ok hK)
noncomputable def EC3:=((EC2.addS 193 drS aBr).addS 221 drNS X9)
structure AnO where
 d:Bool
 x:ANS
 s:MS
instance:Inhabited AnO:=⟨⟨false,⟨0,0,0,0,false,0⟩,⟨0,0,[],0,0,0,0,0,false⟩⟩⟩
instance:Inhabited ANS:=⟨⟨0,0,0,0,false,0⟩⟩
abbrev anH(t n:Int)(x:ANS)(s:MS):aD Ob:=[some (.abs (.announce t n x) []),a8 2 s,a9 s]
abbrev anD(t n:Int)(x:ANS)(s:MS):aD Ob:=[some (.cells [.int .i64 t,.int .i64 n,.int .u64 x.no,.int .i64 x.me,.int .i64 x.at',.int .u64 x.bits,.bool x.wrong,.int .u64 x.found]),a8 2 s,a9 s]
def AnO.fin(t n:Int)(y:AnO):Out Ob:=.ite y.d (.ret (.bool true) (anD t n y.x y.s)) (.ret (.bool false) (anH t n y.x y.s))
def W5(t n:Int)(v:AVal)(g:aD Ob):Option (Prop×AnO):=match v,g with
 | .bool d,[some (.cells [.int .i64 t1,.int .i64 n1,.int .u64 no,.int .i64 me,.int .i64 at',.int .u64 bits,.bool wrong,.int .u64 found]),e1,e2]=>(match cW 2 [e1,e2]with
   | some (l,s)=>some ((t1=t∧n1=n)∧l=s.xs.length,⟨d,⟨no,me,at',bits,wrong,found⟩,s⟩)
   | none=>none)
 | _,_=>none
def LS(t n:Int)(v:AVal)(g:aD Ob):Option (Prop×AnO):=W5 t n v g
theorem QW{t n:Int} :cA (obI tbl) 3 (W5 t n) (AnO.fin t n):=by
 intro v g p x hp hq K hK
 unfold W5 at hp
 split at hp
 case h_2=>cases hp
 rename_i d t1 n1 no me at' bits wrong found e1 e2
 split at hp
 case h_2=>cases hp
 rename_i l s hm
 simp only [sI',pI']at hp
 obtain⟨rfl,rfl⟩:=hp
 obtain⟨⟨rfl,rfl⟩,hl⟩:=hq
 have hh:=bA hm hl
 cases hh
 refine qQ hK (fun h=>?_) (fun h=>?_)
 ·exact⟨⟨_,_,aF.refl _ _ _,h⟩⟩
 ·exact⟨⟨_,_,(aF.pack (anH t1 n1 (⟨no,me,at',bits,wrong,found⟩:ANS) s) (.announce t1 n1 (⟨no,me,at',bits,wrong,found⟩:ANS)) 0 0 (eM t1 n1 (⟨no,me,at',bits,wrong,found⟩:ANS)) [] (by kernel_rfl) rfl (congrArg (Prod.mk 0) rfl) (by kernel_rfl)),h⟩⟩
theorem tZ{t n:Int} :cA (obI tbl) 3 (LS t n) (AnO.fin t n):=by
 intro v g p x hp hq K hK
 unfold LS at hp
 exact QW v g p x hp hq K hK
def AP(t n:Int)(x:ANS)(s:MS):Tr AnO:=.ite x.5 (.pre (lE' s.3∧(0:Int)≤s.4∧s.4≤(4611686018427387904:Int)) (.pre ((t=t∧n=n)∧lE' s.3) (.ret {d:=true,x:= {x with at':=0},s:= {s with c:=s.4+1,k:=1,a:=0,o:=aB s.3 0,w:=aB s.3 0,ok:=bM s.3 0} }))) (.pre ((((0:Int)≤t∧t≤(100000:Int))∧((0:Int)≤n∧n≤(100000:Int))∧(-1099511627776:Int)≤x.2∧x.2≤(1099511627776:Int))∧True) (.pre ((lE' s.3∧(0:Int)≤s.4∧s.4≤(4611686018427387904:Int))∧True) (.pre ((t=t∧n=n)∧lE' (aL s.3 (2*n+5+2*t+3*x.2+1) x.4)) (.ret {d:=false,x:= {x with at':=W (0+1)},s:= {t:=s.1,n:=s.2,xs:=aL s.3 (2*n+5+2*t+3*x.2+1) x.4,c:=s.4+1,k:=2,a:=2*n+5+2*t+3*x.2+1,o:=aB s.3 (2*n+5+2*t+3*x.2+1),w:=bif bM s.3 (2*n+5+2*t+3*x.2+1)then x.4 else 0,ok:=bM s.3 (2*n+5+2*t+3*x.2+1) } }))))
theorem IP(t n:Int)(x:ANS)(s:MS)(K:AnO→Prop)(h:(AP t n x s).run K):cT' 190 [.ptr 0 0,.ptr 1 0] [some (.cells [.int .i64 t,.int .i64 n,.int .u64 x.no,.int .i64 x.me,.int .i64 0,.int .u64 x.bits,.bool x.wrong,.int .u64 x.found]),a8 2 s,a9 s] (cC 3 0 [] [] (LS t n) K):=by
 exact cM' (E:=EC3) (by kernel_rfl) h
def AQ(t n:Int)(x:ANS)(s:MS):Tr AnO:=.ite x.5 (.pre (lE' s.3∧(0:Int)≤s.4∧s.4≤(4611686018427387904:Int)) (.pre ((t=t∧n=n)∧lE' s.3) (.ret {d:=true,x:= {x with at':=1},s:= {s with c:=s.4+1,k:=1,a:=0,o:=aB s.3 0,w:=aB s.3 0,ok:=bM s.3 0} }))) (.pre (((0:Int)≤t∧t≤(100000:Int))∧(0:Int)≤n∧n≤(100000:Int)) (.pre (lE' s.3∧(0:Int)≤s.4∧s.4≤(4611686018427387904:Int)) (.pre ((t=t∧n=n)∧lE' (aL s.3 (2*n+5+2*t+3*t) (WU (aB s.3 (2*n+5+2*t+3*t)+1)))) (.ret {d:=false,x:= {x with no:=WU (aB s.3 (2*n+5+2*t+3*t)+1),at':=W (1+1)},s:= {t:=s.1,n:=s.2,xs:=aL s.3 (2*n+5+2*t+3*t) (WU (aB s.3 (2*n+5+2*t+3*t)+1)),c:=s.4+1,k:=4,a:=2*n+5+2*t+3*t,o:=aB s.3 (2*n+5+2*t+3*t),w:=bif bM s.3 (2*n+5+2*t+3*t)then WU (aB s.3 (2*n+5+2*t+3*t)+1)else 0,ok:=bM s.3 (2*n+5+2*t+3*t) } }))))
theorem IQ(t n:Int)(x:ANS)(s:MS)(K:AnO→Prop)(h:(AQ t n x s).run K):cT' 190 [.ptr 0 0,.ptr 1 0] [some (.cells [.int .i64 t,.int .i64 n,.int .u64 x.no,.int .i64 x.me,.int .i64 1,.int .u64 x.bits,.bool x.wrong,.int .u64 x.found]),a8 2 s,a9 s] (cC 3 0 [] [] (LS t n) K):=by
 exact cM' (E:=EC3) (by kernel_rfl) h
def AR(t n:Int)(x:ANS)(s:MS):Tr AnO:=.ite x.5 (.pre (lE' s.3∧(0:Int)≤s.4∧s.4≤(4611686018427387904:Int)) (.pre ((t=t∧n=n)∧lE' s.3) (.ret {d:=true,x:= {x with at':=2},s:= {s with c:=s.4+1,k:=1,a:=0,o:=aB s.3 0,w:=aB s.3 0,ok:=bM s.3 0} }))) (.pre ((((0:Int)≤t∧t≤(100000:Int))∧((0:Int)≤n∧n≤(100000:Int))∧(-1099511627776:Int)≤x.2∧x.2≤(1099511627776:Int))∧True) (.pre ((lE' s.3∧(0:Int)≤s.4∧s.4≤(4611686018427387904:Int))∧True) (.pre ((t=t∧n=n)∧lE' (aL s.3 (2*n+5+2*t+3*x.2) x.1)) (.ret {d:=false,x:= {x with at':=W (2+1)},s:= {t:=s.1,n:=s.2,xs:=aL s.3 (2*n+5+2*t+3*x.2) x.1,c:=s.4+1,k:=2,a:=2*n+5+2*t+3*x.2,o:=aB s.3 (2*n+5+2*t+3*x.2),w:=bif bM s.3 (2*n+5+2*t+3*x.2)then x.1 else 0,ok:=bM s.3 (2*n+5+2*t+3*x.2) } }))))
theorem IR(t n:Int)(x:ANS)(s:MS)(K:AnO→Prop)(h:(AR t n x s).run K):cT' 190 [.ptr 0 0,.ptr 1 0] [some (.cells [.int .i64 t,.int .i64 n,.int .u64 x.no,.int .i64 x.me,.int .i64 2,.int .u64 x.bits,.bool x.wrong,.int .u64 x.found]),a8 2 s,a9 s] (cC 3 0 [] [] (LS t n) K):=by
 exact cM' (E:=EC3) (by kernel_rfl) h
def AS(t n:Int)(x:ANS)(s:MS):Tr AnO:=.ite x.5 (.pre (lE' s.3∧(0:Int)≤s.4∧s.4≤(4611686018427387904:Int)) (.pre ((t=t∧n=n)∧lE' s.3) (.ret {d:=true,x:= {x with at':=3},s:= {s with c:=s.4+1,k:=1,a:=0,o:=aB s.3 0,w:=aB s.3 0,ok:=bM s.3 0} }))) (.pre ((((0:Int)≤t∧t≤(100000:Int))∧((0:Int)≤n∧n≤(100000:Int))∧(-1099511627776:Int)≤x.2∧x.2≤(1099511627776:Int))∧True) (.pre ((lE' s.3∧(0:Int)≤s.4∧s.4≤(4611686018427387904:Int))∧True) (.pre ((t=t∧n=n)∧lE' s.3) (.ret {d:=false,x:= {x with at':=W (3+1),found:=aB s.3 (2*n+5+2*t+3*x.2+2) },s:= {s with c:=s.4+1,k:=1,a:=2*n+5+2*t+3*x.2+2,o:=aB s.3 (2*n+5+2*t+3*x.2+2),w:=aB s.3 (2*n+5+2*t+3*x.2+2),ok:=bM s.3 (2*n+5+2*t+3*x.2+2) } }))))
theorem IS(t n:Int)(x:ANS)(s:MS)(K:AnO→Prop)(h:(AS t n x s).run K):cT' 190 [.ptr 0 0,.ptr 1 0] [some (.cells [.int .i64 t,.int .i64 n,.int .u64 x.no,.int .i64 x.me,.int .i64 3,.int .u64 x.bits,.bool x.wrong,.int .u64 x.found]),a8 2 s,a9 s] (cC 3 0 [] [] (LS t n) K):=by
 exact cM' (E:=EC3) (by kernel_rfl) h
def AT(t n:Int)(x:ANS)(s:MS):Tr AnO:=.ite x.5 (.pre (lE' s.3∧(0:Int)≤s.4∧s.4≤(4611686018427387904:Int)) (.pre ((t=t∧n=n)∧lE' s.3) (.ret {d:=true,x:= {x with at':=4},s:= {s with c:=s.4+1,k:=1,a:=0,o:=aB s.3 0,w:=aB s.3 0,ok:=bM s.3 0} }))) (.pre True (.pre ((0:Int)≤aA x.6 0 12∧aA x.6 0 (12:Int)≤(1000000:Int)) (.pre True (.pre ((((0:Int)≤t∧t≤(100000:Int))∧((0:Int)≤n∧n≤(100000:Int))∧(-1099511627776:Int)≤x.2∧x.2≤(1099511627776:Int))∧True) (.pre ((lE' s.3∧(0:Int)≤s.4∧s.4≤(4611686018427387904:Int))∧True) (.pre ((t=t∧n=n)∧lE' (aL s.3 (2*n+5+2*t+3*x.2+2) (bif dOk (eN (aA x.6 0 12)) 0 0 0 1 0 then cO (eN (aA x.6 0 12)) 0 0 0 false 1 0 else 0))) (.ret {d:=true,x:= {x with at':=W (4+1)},s:= {t:=s.1,n:=s.2,xs:=aL s.3 (2*n+5+2*t+3*x.2+2) (bif dOk (eN (aA x.6 0 12)) 0 0 0 1 0 then cO (eN (aA x.6 0 12)) 0 0 0 false 1 0 else 0),c:=s.4+1,k:=2,a:=2*n+5+2*t+3*x.2+2,o:=aB s.3 (2*n+5+2*t+3*x.2+2),w:=bif bM s.3 (2*n+5+2*t+3*x.2+2)then bif dOk (eN (aA x.6 0 12)) 0 0 0 1 0 then cO (eN (aA x.6 0 12)) 0 0 0 false 1 0 else 0 else 0,ok:=bM s.3 (2*n+5+2*t+3*x.2+2) } })))))))
theorem IT(t n:Int)(x:ANS)(s:MS)(K:AnO→Prop)(h:(AT t n x s).run K):cT' 190 [.ptr 0 0,.ptr 1 0] [some (.cells [.int .i64 t,.int .i64 n,.int .u64 x.no,.int .i64 x.me,.int .i64 4,.int .u64 x.bits,.bool x.wrong,.int .u64 x.found]),a8 2 s,a9 s] (cC 3 0 [] [] (LS t n) K):=by
 exact cM' (E:=EC3) (by kernel_rfl) h
def anT(t n:Int)(x:ANS)(s:MS):Tr AnO:=
 bif ieq x.at' 0 then AP t n x s else
 bif ieq x.at' 1 then AQ t n x s else
 bif ieq x.at' 2 then AR t n x s else
 bif ieq x.at' 3 then AS t n x s else
 bif ieq x.at' 4 then AT t n x s else .pre False (.ret default)
def oL(t n:Int)(x:ANS)(s:MS):AnO:=(anT t n x s).val
def W4(t n:Int)(x:ANS)(s:MS):Prop:=(anT t n x s).ok
theorem QX(t n:Int)(x:ANS)(s:MS)(K:AVal→aD Ob→Prop)(h:(anT t n x s).run (fun y=>(AnO.fin t n y).run K)):cT' 190 [.ptr 0 0,.ptr 1 0] (anH t n x s) K:=by
 unfold anT at h
 by_cases e:x.at'=0
 ·rw [e]at h
  have h:(AP t n x s).run _:=h
  refine aC9 (root:=0) (pos:=[]) (cs:=[]) (parse:=LS t n) (fin:=AnO.fin t n) tZ (bE.unpack (.announce t n x) 0 0 (eM t n x) [] rfl (congrArg (Prod.mk 0) rfl) (by kernel_rfl) rfl) ?_
  have q:=IP t n x s _ h
  rw [←e]at q
  exact q
 rw [bW e]at h
 by_cases e:x.at'=1
 ·rw [e]at h
  have h:(AQ t n x s).run _:=h
  refine aC9 (root:=0) (pos:=[]) (cs:=[]) (parse:=LS t n) (fin:=AnO.fin t n) tZ (bE.unpack (.announce t n x) 0 0 (eM t n x) [] rfl (congrArg (Prod.mk 0) rfl) (by kernel_rfl) rfl) ?_
  have q:=IQ t n x s _ h
  rw [←e]at q
  exact q
 rw [bW e]at h
 by_cases e:x.at'=2
 ·rw [e]at h
  have h:(AR t n x s).run _:=h
  refine aC9 (root:=0) (pos:=[]) (cs:=[]) (parse:=LS t n) (fin:=AnO.fin t n) tZ (bE.unpack (.announce t n x) 0 0 (eM t n x) [] rfl (congrArg (Prod.mk 0) rfl) (by kernel_rfl) rfl) ?_
  have q:=IR t n x s _ h
  rw [←e]at q
  exact q
 rw [bW e]at h
 by_cases e:x.at'=3
 ·rw [e]at h
  have h:(AS t n x s).run _:=h
  refine aC9 (root:=0) (pos:=[]) (cs:=[]) (parse:=LS t n) (fin:=AnO.fin t n) tZ (bE.unpack (.announce t n x) 0 0 (eM t n x) [] rfl (congrArg (Prod.mk 0) rfl) (by kernel_rfl) rfl) ?_
  have q:=IS t n x s _ h
  rw [←e]at q
  exact q
 rw [bW e]at h
 by_cases e:x.at'=4
 ·rw [e]at h
  have h:(AT t n x s).run _:=h
  refine aC9 (root:=0) (pos:=[]) (cs:=[]) (parse:=LS t n) (fin:=AnO.fin t n) tZ (bE.unpack (.announce t n x) 0 0 (eM t n x) [] rfl (congrArg (Prod.mk 0) rfl) (by kernel_rfl) rfl) ?_
  have q:=IT t n x s _ h
  rw [←e]at q
  exact q
 rw [bW e]at h
 exact h.1.elim
noncomputable def anS:aJ Ob:=fun args h=>match args,h with
 | [.ptr 0 0,.ptr 1 0],[some (.abs (.announce t n x) []),e1,e2]=>(match cW 2 [e1,e2]with
   | some (l,s)=>some (.pre (l=s.xs.length∧W4 t n x s) (AnO.fin t n (oL t n x s)))
   | none=>none)
 | _,_=>none
theorem aA2:sT' 190 anS:=by
 intro args h o ho K hK
 unfold anS at ho
 split at ho
 case h_2=>cases ho
 split at ho<;>cases ho
 rename_i hm
 obtain⟨⟨hl,ok⟩,hK⟩:=hK
 have hh:=bA hm hl
 cases hh
 exact QX _ _ _ _ K (aDe ok hK)
def W1(t n:Int)(v:AVal)(g:aD Ob):Option (Prop×ANS):=match v,g with
 | .ptr 0 0,[some (.cells [.int .i64 t1,.int .i64 n1,.int .u64 no,.int .i64 me,.int .i64 at',.int .u64 bits,.bool wrong,.int .u64 found])]=>some ((t1=t∧n1=n),(⟨no,me,at',bits,wrong,found⟩:ANS))
 | _,_=>none
abbrev QT(t n:Int)(y:ANS):aD Ob:=[some (.abs (.announce t n y) [])]
theorem QU{t n:Int} :cA (obI tbl) 0 (W1 t n) (fun y=>.ret (.ptr 0 0) (QT t n y)):=by
 intro v g p x hp hq K hK
 unfold W1 at hp
 split at hp
 case h_2=>cases hp
 rename_i t1 n1 no me at' bits wrong found
 simp only [sI',pI']at hp
 obtain⟨rfl,rfl⟩:=hp
 obtain⟨rfl,rfl⟩:=hq
 exact⟨⟨_,_,aF.pack (QT t1 n1 (⟨no,me,at',bits,wrong,found⟩:ANS)) (.announce t1 n1 (⟨no,me,at',bits,wrong,found⟩:ANS)) 0 0 (eM t1 n1 (⟨no,me,at',bits,wrong,found⟩:ANS)) [] (by kernel_rfl) rfl (congrArg (Prod.mk 0) rfl) (by kernel_rfl),hK⟩⟩
def W2(t n:Int)(u sh kd ky:Int):Tr ANS:=.pre True (.pre (t=t∧n=n) (.ret {no:=0,me:=u,at':=0,bits:=bif aY sh kd ky then tskV sh kd ky else 0,wrong:=!ieq (bif aY sh kd ky then 0 else 1) 0,found:=0}))
def WZ(t n:Int)(u sh kd ky:Int):ANS:=(W2 t n u sh kd ky).val
def MG(t n:Int)(u sh kd ky:Int):Prop:=(W2 t n u sh kd ky).ok
def anNS:aJ Ob:=fun args h=>match args,h with
 | [.agg [.int .i64 t,.int .i64 n],.int .i64 u,.agg [.int .i64 sh,.int .i64 kd,.int .i64 ky]],[]=>some (.pre (MG t n u sh kd ky) (.ret (.ptr 0 0) (QT t n (WZ t n u sh kd ky))))
 | _,_=>none
theorem W3:sT' 104 anNS:=by
 intro args h o ho K hK
 unfold anNS at ho
 split at ho<;>cases ho
 rename_i t n u sh kd ky
 obtain⟨ok,hK⟩:=hK
 refine aDh (root:=0) (pos:=[]) (cs:=[]) (parse:=W1 t n) QU ?_
 exact cM' (E:=EC3) (q:=(W2 t n u sh kd ky).run (fun y=>(Out.ret (.ptr 0 0) (QT t n y)).run K)) (by kernel_rfl) (aDe ok hK)
noncomputable def EC4:=((EC3.addS 190 anS aA2).addS 104 anNS W3)
structure AwO where
 d:Bool
 x:AWS
 s:MS
instance:Inhabited AwO:=⟨⟨false,⟨0,false,0,0⟩,⟨0,0,[],0,0,0,0,0,false⟩⟩⟩
instance:Inhabited AWS:=⟨⟨0,false,0,0⟩⟩
abbrev awH(t n:Int)(x:AWS)(s:MS):aD Ob:=[some (.abs (.answer t n x) []),a8 2 s,a9 s]
abbrev awD(t n:Int)(x:AWS)(s:MS):aD Ob:=[some (.cells [.int .i64 t,.int .i64 n,.int .i64 x.code,.bool x.okk,.int .i64 x.val,.int .i64 x.me]),a8 2 s,a9 s]
def AwO.fin(t n:Int)(y:AwO):Out Ob:=.ite y.d (.ret (.bool true) (awD t n y.x y.s)) (.ret (.bool false) (awH t n y.x y.s))
def XD(t n:Int)(v:AVal)(g:aD Ob):Option (Prop×AwO):=match v,g with
 | .bool d,[some (.cells [.int .i64 t1,.int .i64 n1,.int .i64 code,.bool okk,.int .i64 val,.int .i64 me]),e1,e2]=>(match cW 2 [e1,e2]with
   | some (l,s)=>some ((t1=t∧n1=n)∧l=s.xs.length,⟨d,⟨code,okk,val,me⟩,s⟩)
   | none=>none)
 | _,_=>none
def awP(t n:Int)(v:AVal)(g:aD Ob):Option (Prop×AwO):=XD t n v g
theorem Q4{t n:Int} :cA (obI tbl) 3 (XD t n) (AwO.fin t n):=by
 intro v g p x hp hq K hK
 unfold XD at hp
 split at hp
 case h_2=>cases hp
 rename_i d t1 n1 code okk val me e1 e2
 split at hp
 case h_2=>cases hp
 rename_i l s hm
 simp only [sI',pI']at hp
 obtain⟨rfl,rfl⟩:=hp
 obtain⟨⟨rfl,rfl⟩,hl⟩:=hq
 have hh:=bA hm hl
 cases hh
 refine qQ hK (fun h=>?_) (fun h=>?_)
 ·exact⟨⟨_,_,aF.refl _ _ _,h⟩⟩
 ·exact⟨⟨_,_,(aF.pack (awH t1 n1 (⟨code,okk,val,me⟩:AWS) s) (.answer t1 n1 (⟨code,okk,val,me⟩:AWS)) 0 0 (pN t1 n1 (⟨code,okk,val,me⟩:AWS)) [] (by kernel_rfl) rfl (congrArg (Prod.mk 0) rfl) (by kernel_rfl)),h⟩⟩
theorem XE{t n:Int} :cA (obI tbl) 3 (awP t n) (AwO.fin t n):=by
 intro v g p x hp hq K hK
 unfold awP at hp
 exact Q4 v g p x hp hq K hK
def Q5(t n:Int)(x:AWS)(s:MS):Tr AwO:=.pre ((((0:Int)≤t∧t≤(100000:Int))∧((0:Int)≤n∧n≤(100000:Int))∧(-1099511627776:Int)≤x.4∧x.4≤(1099511627776:Int))∧True) (.pre ((lE' s.3∧(0:Int)≤s.4∧s.4≤(4611686018427387904:Int))∧True) (.pre True (.pre True (.pre ((t=t∧n=n)∧lE' s.3) (.ret {d:=true,x:= {code:=resC (aA (aB s.3 (2*n+5+2*t+3*x.4+2)) 39 9) (aA (aB s.3 (2*n+5+2*t+3*x.4+2)) 49 3),okk:=UQ (aA (aB s.3 (2*n+5+2*t+3*x.4+2)) 39 9) (aA (aB s.3 (2*n+5+2*t+3*x.4+2)) 49 3) (ieq (aA (aB s.3 (2*n+5+2*t+3*x.4+2)) 48 1) 1),val:=UR (aA (aB s.3 (2*n+5+2*t+3*x.4+2)) 39 9) (aA (aB s.3 (2*n+5+2*t+3*x.4+2)) 49 3) (aA (aB s.3 (2*n+5+2*t+3*x.4+2)) 52 10),me:=x.4},s:= {s with c:=s.4+1,k:=1,a:=2*n+5+2*t+3*x.4+2,o:=aB s.3 (2*n+5+2*t+3*x.4+2),w:=aB s.3 (2*n+5+2*t+3*x.4+2),ok:=bM s.3 (2*n+5+2*t+3*x.4+2) } })))))
theorem MJ(t n:Int)(x:AWS)(s:MS)(K:AwO→Prop)(h:(Q5 t n x s).run K):cT' 48 [.ptr 0 0,.ptr 1 0] [some (.cells [.int .i64 t,.int .i64 n,.int .i64 x.code,.bool x.okk,.int .i64 x.val,.int .i64 x.me]),a8 2 s,a9 s] (cC 3 0 [] [] (awP t n) K):=by
 exact cM' (E:=EC4) (by kernel_rfl) h
def awT(t n:Int)(x:AWS)(s:MS):Tr AwO:=Q5 t n x s
def gF(t n:Int)(x:AWS)(s:MS):AwO:=(awT t n x s).val
def XC(t n:Int)(x:AWS)(s:MS):Prop:=(awT t n x s).ok
theorem Q6(t n:Int)(x:AWS)(s:MS)(K:AVal→aD Ob→Prop)(h:(awT t n x s).run (fun y=>(AwO.fin t n y).run K)):cT' 48 [.ptr 0 0,.ptr 1 0] (awH t n x s) K:=by
 unfold awT at h
 exact aC9 (root:=0) (pos:=[]) (cs:=[]) (parse:=awP t n) (fin:=AwO.fin t n) XE (bE.unpack (.answer t n x) 0 0 (pN t n x) [] rfl (congrArg (Prod.mk 0) rfl) (by kernel_rfl) rfl) (MJ t n x s _ h)
noncomputable def awS:aJ Ob:=fun args h=>match args,h with
 | [.ptr 0 0,.ptr 1 0],[some (.abs (.answer t n x) []),e1,e2]=>(match cW 2 [e1,e2]with
   | some (l,s)=>some (.pre (l=s.xs.length∧XC t n x s) (AwO.fin t n (gF t n x s)))
   | none=>none)
 | _,_=>none
theorem aA6:sT' 48 awS:=by
 intro args h o ho K hK
 unfold awS at ho
 split at ho
 case h_2=>cases ho
 split at ho<;>cases ho
 rename_i hm
 obtain⟨⟨hl,ok⟩,hK⟩:=hK
 have hh:=bA hm hl
 cases hh
 exact Q6 _ _ _ _ K (aDe ok hK)
def W9(t n:Int)(v:AVal)(g:aD Ob):Option (Prop×AWS):=match v,g with
 | .ptr 0 0,[some (.cells [.int .i64 t1,.int .i64 n1,.int .i64 code,.bool okk,.int .i64 val,.int .i64 me])]=>some ((t1=t∧n1=n),(⟨code,okk,val,me⟩:AWS))
 | _,_=>none
abbrev Q1(t n:Int)(y:AWS):aD Ob:=[some (.abs (.answer t n y) [])]
theorem Q2{t n:Int} :cA (obI tbl) 0 (W9 t n) (fun y=>.ret (.ptr 0 0) (Q1 t n y)):=by
 intro v g p x hp hq K hK
 unfold W9 at hp
 split at hp
 case h_2=>cases hp
 rename_i t1 n1 code okk val me
 simp only [sI',pI']at hp
 obtain⟨rfl,rfl⟩:=hp
 obtain⟨rfl,rfl⟩:=hq
 exact⟨⟨_,_,aF.pack (Q1 t1 n1 (⟨code,okk,val,me⟩:AWS)) (.answer t1 n1 (⟨code,okk,val,me⟩:AWS)) 0 0 (pN t1 n1 (⟨code,okk,val,me⟩:AWS)) [] (by kernel_rfl) rfl (congrArg (Prod.mk 0) rfl) (by kernel_rfl),hK⟩⟩
def XA(t n:Int)(u:Int):Tr AWS:=.pre (t=t∧n=n) (.ret {code:=0,okk:=false,val:=0,me:=u})
def W8(t n:Int)(u:Int):AWS:=(XA t n u).val
def MI(t n:Int)(u:Int):Prop:=(XA t n u).ok
def awNS:aJ Ob:=fun args h=>match args,h with
 | [.agg [.int .i64 t,.int .i64 n],.int .i64 u],[]=>some (.pre (MI t n u) (.ret (.ptr 0 0) (Q1 t n (W8 t n u))))
 | _,_=>none
theorem XB:sT' 47 awNS:=by
 intro args h o ho K hK
 unfold awNS at ho
 split at ho<;>cases ho
 rename_i t n u
 obtain⟨ok,hK⟩:=hK
 refine aDh (root:=0) (pos:=[]) (cs:=[]) (parse:=W9 t n) Q2 ?_
 exact cM' (E:=EC4) (q:=(XA t n u).run (fun y=>(Out.ret (.ptr 0 0) (Q1 t n y)).run K)) (by kernel_rfl) (aDe ok hK)
noncomputable def EC5:=((EC4.addS 48 awS aA6).addS 47 awNS XB)
def F8:bL Ob:=fun args h=>match args,h with
 | [.ptr 0 0],[some (.cells [.int .i64 t,.int .i64 n,.int .i64 pop,.int .i64 gave,.int .i64 u,.int .i64 sh,.int .i64 kd,.int .i64 ky,.bool only,.int .i64 att,.int .i64 at',.int .u64 found,.int .u64 word])]=>some (True,.agg [.int .i64 (aA found 0 12),.int .i64 (aA found 12 9),.int .i64 (aA found 21 18),.int .i64 (aA found 39 9),.bool (ieq (aA found 48 1) 1),.int .i64 (aA found 49 3),.int .i64 (aA found 52 10)])
 | _,_=>none
theorem QC:sT' 208 F8.spec:=by
 intro args h o ho K hK
 unfold bL.spec F8 at ho
 split at ho
 case h_2=>cases ho
 rename_i p v hp
 split at hp
 case h_2=>cases hp
 rename_i t n pop gave u sh kd ky only att at' found word
 simp only [sI',pI']at hp
 obtain⟨rfl,rfl⟩:=hp
 simp only [sI']at ho;subst ho
 obtain⟨hp,hK⟩:=hK
 have hK:K (.agg [.int .i64 (aA found 0 12),.int .i64 (aA found 12 9),.int .i64 (aA found 21 18),.int .i64 (aA found 39 9),.bool (ieq (aA found 48 1) 1),.int .i64 (aA found 49 3),.int .i64 (aA found 52 10)]) [some (.cells [.int .i64 t,.int .i64 n,.int .i64 pop,.int .i64 gave,.int .i64 u,.int .i64 sh,.int .i64 kd,.int .i64 ky,.bool only,.int .i64 att,.int .i64 at',.int .u64 found,.int .u64 word])]:=hK
 refine aC8 (cM' (E:=EC5) (q:=True∧K (.agg [.int .i64 (aA found 0 12),.int .i64 (aA found 12 9),.int .i64 (aA found 21 18),.int .i64 (aA found 39 9),.bool (ieq (aA found 48 1) 1),.int .i64 (aA found 49 3),.int .i64 (aA found 52 10)]) [some (.cells [.int .i64 t,.int .i64 n,.int .i64 pop,.int .i64 gave,.int .i64 u,.int .i64 sh,.int .i64 kd,.int .i64 ky,.bool only,.int .i64 att,.int .i64 at',.int .u64 found,.int .u64 word])]) (by kernel_rfl) ?_)
 exact⟨trivial,hK⟩
noncomputable def EX1:=EC5.addR 208 F8 QC
def QD(t n pop gave u sh kd ky:Int)(only:Bool)(att at' found word:Int)(k y:Int)(m:Bool)(c v:Int)(s:MS):Out Ob:=.pre True (.pre True (.pre ((lE' s.3∧(0:Int)≤s.4∧s.4≤(4611686018427387904:Int))∧True) (.ret (.bool (aR s.3 (aA found 12 9) word)) [some (.cells [.int .i64 t,.int .i64 n,.int .i64 pop,.int .i64 gave,.int .i64 u,.int .i64 sh,.int .i64 kd,.int .i64 ky,.bool only,.int .i64 att,.int .i64 at',.int .u64 found,.int .u64 word]),some (.cells [.int .i64 s.1,.int .i64 s.2,.slice 2 0 (List.length (bif aR s.3 (aA found 12 9) word then aL s.3 (aA found 12 9) (bif bif aG k 10 then bif aG y 9 then bif aG c 5 then aG v 18 else false else false else false then bD k y m c v else 0)else s.3)) 1,.int .i64 (s.4+1),.int .i64 3,.int .i64 (aA found 12 9),.int .u64 (aB s.3 (aA found 12 9)),.int .u64 (bif bM s.3 (aA found 12 9)then bif bif aG k 10 then bif aG y 9 then bif aG c 5 then aG v 18 else false else false else false then bD k y m c v else 0 else 0),.bool (aR s.3 (aA found 12 9) word)]),some (.ints (some .u64) (bif aR s.3 (aA found 12 9) word then aL s.3 (aA found 12 9) (bif bif aG k 10 then bif aG y 9 then bif aG c 5 then aG v 18 else false else false else false then bD k y m c v else 0)else s.3))])))
theorem QE(t n pop gave u sh kd ky:Int)(only:Bool)(att at' found word:Int)(k y:Int)(m:Bool)(c v:Int)(s:MS)(K:AVal→aD Ob→Prop)(h:(QD t n pop gave u sh kd ky only att at' found word k y m c v s).run K):cT' 211 [.ptr 0 0,.ptr 1 0,.agg [.int .i64 k,.int .i64 y,.bool m,.int .i64 c,.int .i64 v]] [some (.cells [.int .i64 t,.int .i64 n,.int .i64 pop,.int .i64 gave,.int .i64 u,.int .i64 sh,.int .i64 kd,.int .i64 ky,.bool only,.int .i64 att,.int .i64 at',.int .u64 found,.int .u64 word]),a8 2 s,a9 s] K:=by
 refine aC8 (cM' (E:=EX1) (by kernel_rfl) h)
def xputS:aJ Ob:=fun args h=>match args,h with
 | [.ptr 0 0,.ptr 1 0,.agg [.int .i64 k,.int .i64 y,.bool m,.int .i64 c,.int .i64 v]],[some (.cells [.int .i64 t,.int .i64 n,.int .i64 pop,.int .i64 gave,.int .i64 u,.int .i64 sh,.int .i64 kd,.int .i64 ky,.bool only,.int .i64 att,.int .i64 at',.int .u64 found,.int .u64 word]),e1,e2]=>(match cW 2 [e1,e2]with
   | some (l,s)=>some (.pre (l=s.xs.length) (QD t n pop gave u sh kd ky only att at' found word k y m c v s))
   | none=>none)
 | _,_=>none
theorem VF:sT' 211 xputS:=by
 intro args h o ho K hK
 unfold xputS at ho
 split at ho
 case h_2=>cases ho
 split at ho<;>cases ho
 rename_i hm
 obtain⟨hl,hK⟩:=hK
 have hh:=bA hm hl
 cases hh
 exact QE _ _ _ _ _ _ _ _ _ _ _ _ _ _ _ _ _ _ _ K hK
def F9(t n pop gave u sh kd ky:Int)(only:Bool)(att at' found word:Int)(a b c d:Int)(m:Bool)(e f:Int)(s:MS):Out Ob:=.pre True (.pre ((((0:Int)≤t∧t≤(100000:Int))∧((0:Int)≤n∧n≤(100000:Int))∧(-1099511627776:Int)≤u∧u≤(1099511627776:Int))∧True) (.pre ((lE' s.3∧(0:Int)≤s.4∧s.4≤(4611686018427387904:Int))∧True) (.ret (.bool (aR s.3 (2*n+5+2*t+3*u+2) found)) [some (.cells [.int .i64 t,.int .i64 n,.int .i64 pop,.int .i64 gave,.int .i64 u,.int .i64 sh,.int .i64 kd,.int .i64 ky,.bool only,.int .i64 att,.int .i64 at',.int .u64 found,.int .u64 word]),some (.cells [.int .i64 s.1,.int .i64 s.2,.slice 2 0 (List.length (bif aR s.3 (2*n+5+2*t+3*u+2) found then aL s.3 (2*n+5+2*t+3*u+2) (bif dOk a b c d e f then cO a b c d m e f else 0)else s.3)) 1,.int .i64 (s.4+1),.int .i64 3,.int .i64 (2*n+5+2*t+3*u+2),.int .u64 (aB s.3 (2*n+5+2*t+3*u+2)),.int .u64 (bif bM s.3 (2*n+5+2*t+3*u+2)then bif dOk a b c d e f then cO a b c d m e f else 0 else 0),.bool (aR s.3 (2*n+5+2*t+3*u+2) found)]),some (.ints (some .u64) (bif aR s.3 (2*n+5+2*t+3*u+2) found then aL s.3 (2*n+5+2*t+3*u+2) (bif dOk a b c d e f then cO a b c d m e f else 0)else s.3))])))
theorem LR(t n pop gave u sh kd ky:Int)(only:Bool)(att at' found word:Int)(a b c d:Int)(m:Bool)(e f:Int)(s:MS)(K:AVal→aD Ob→Prop)(h:(F9 t n pop gave u sh kd ky only att at' found word a b c d m e f s).run K):cT' 213 [.ptr 0 0,.ptr 1 0,.agg [.int .i64 a,.int .i64 b,.int .i64 c,.int .i64 d,.bool m,.int .i64 e,.int .i64 f]] [some (.cells [.int .i64 t,.int .i64 n,.int .i64 pop,.int .i64 gave,.int .i64 u,.int .i64 sh,.int .i64 kd,.int .i64 ky,.bool only,.int .i64 att,.int .i64 at',.int .u64 found,.int .u64 word]),a8 2 s,a9 s] K:=by
 refine aC8 (cM' (E:=EX1) (by kernel_rfl) h)
def xturnS:aJ Ob:=fun args h=>match args,h with
 | [.ptr 0 0,.ptr 1 0,.agg [.int .i64 a,.int .i64 b,.int .i64 c,.int .i64 d,.bool m,.int .i64 e,.int .i64 f]],[some (.cells [.int .i64 t,.int .i64 n,.int .i64 pop,.int .i64 gave,.int .i64 u,.int .i64 sh,.int .i64 kd,.int .i64 ky,.bool only,.int .i64 att,.int .i64 at',.int .u64 found,.int .u64 word]),e1,e2]=>(match cW 2 [e1,e2]with
   | some (l,s)=>some (.pre (l=s.xs.length) (F9 t n pop gave u sh kd ky only att at' found word a b c d m e f s))
   | none=>none)
 | _,_=>none
theorem QF:sT' 213 xturnS:=by
 intro args h o ho K hK
 unfold xturnS at ho
 split at ho
 case h_2=>cases ho
 split at ho<;>cases ho
 rename_i hm
 obtain⟨hl,hK⟩:=hK
 have hh:=bA hm hl
 cases hh
 exact LR _ _ _ _ _ _ _ _ _ _ _ _ _ _ _ _ _ _ _ _ _ K hK
noncomputable def EX2:=(EX1.addS 211 xputS VF).addS 213 xturnS QF
instance:Inhabited STS:=⟨⟨0,0,[]⟩⟩
end Go.Sh
