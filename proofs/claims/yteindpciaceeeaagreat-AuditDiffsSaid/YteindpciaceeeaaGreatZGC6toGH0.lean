import Derived.Test.YteindpciaceeeaaGreatZM42toGX
set_option linter.all false
set_option maxHeartbeats 8000000
namespace Go.Sh
open Go Go.Proofs
variable [Con]
structure ExO where
 d:Bool
 x:EXS
 s:MS
instance:Inhabited ExO:=⟨⟨false,cI,⟨0,0,[],0,0,0,0,0,false⟩⟩⟩
instance:Inhabited EXS:=⟨cI⟩
abbrev exH(t n:Int)(x:EXS)(s:MS):aD Ob:=[some (.abs (.exec t n x) []),bE 2 s,bF s]
abbrev exD(t n:Int)(x:EXS)(s:MS):aD Ob:=[cE' [.I t,.I n,.I x.popped,.I x.gave,.I x.u,.I x.sh,.I x.kd,.I x.ky,.bool x.only,.I x.att,.I x.at',.int .u64 x.found,.int .u64 x.word],bE 2 s,bF s]
def ExO.fin(t n:Int)(y:ExO):Out Ob:=.ite y.d (.ret (.bool true) (exD t n y.x y.s)) (.ret (.bool false) (exH t n y.x y.s))
def YX(t n:Int)(v:AVal)(g:aD Ob):Option (Prop×ExO):=match v,g with
 | .bool d,[some (.cells [.int .i64 t1,.int .i64 n1,.int .i64 popped,.int .i64 gave,.int .i64 u,.int .i64 sh,.int .i64 kd,.int .i64 ky,.bool only,.int .i64 att,.int .i64 at',.int .u64 found,.int .u64 word]),e1,e2]=>(match cL 2 [e1,e2]with
   | some (l,s)=>some ((t1=t∧n1=n)∧l=s.xs.length,⟨d,⟨popped,gave,u,sh,kd,ky,only,att,at',found,word⟩,s⟩)
   | none=>none)
 | _,_=>none
def uZ(t n:Int)(v:AVal)(g:aD Ob):Option (Prop×ExO):=YX t n v g
theorem RM{t n:Int} :bS (obI tbl) 3 (YX t n) (ExO.fin t n):=by
 intro v g p x hp hq K hK;unfold YX at hp;split at hp
 case h_2=>cases hp
 rename_i d t1 n1 popped gave u sh kd ky only att at' found word e1 e2;split at hp
 case h_2=>cases hp
 rename_i l s hm;simp only [sI',pI']at hp;obtain⟨rfl,rfl⟩:=hp;obtain⟨⟨rfl,rfl⟩,hl⟩:=hq;have hh:=bB hm hl;cases hh;refine p8 hK (fun h=>?_) (fun h=>?_)
 ·exact⟨⟨_,_,aEM _ _ _,h⟩⟩
 ·exact⟨⟨_,_,(aF.pack (exH t1 n1 (⟨popped,gave,u,sh,kd,ky,only,att,at',found,word⟩:EXS) s) (.exec t1 n1 (⟨popped,gave,u,sh,kd,ky,only,att,at',found,word⟩:EXS)) 0 0 (gU t1 n1 (⟨popped,gave,u,sh,kd,ky,only,att,at',found,word⟩:EXS)) [] (by kernel_rfl) rfl (congrArg (Prod.mk 0) rfl) (by kernel_rfl)),h⟩⟩
theorem kT{t n:Int} :bS (obI tbl) 3 (uZ t n) (ExO.fin t n):=by
 intro v g p x hp hq K hK;unfold uZ at hp;exact RM v g p x hp hq K hK
abbrev w0g(n t:Int)(x:EXS):=(((0:Int)≤t∧t≤(100000:Int))∧((0:Int)≤n∧n≤(100000:Int))∧(-1099511627776:Int)≤x.3∧x.3≤(1099511627776:Int))∧True
abbrev w0i(n:Int)(s:MS)(t:Int)(x:EXS):Tr ExO:=.ret {d:=true,x:= {x with at':=0,found:=aC s.3 (2*n+5+2*t+3*x.3+2)},s:= {s with c:=s.4+1,k:=1,a:=2*n+5+2*t+3*x.3+2,o:=aC s.3 (2*n+5+2*t+3*x.3+2),w:=aC s.3 (2*n+5+2*t+3*x.3+2),ok:=bQ s.3 (2*n+5+2*t+3*x.3+2) } }
abbrev w0l(n:Int)(s:MS)(t:Int)(x:EXS):Tr ExO:=.ret {d:=false,x:= {x with at':=1,found:=aC s.3 (2*n+5+2*t+3*x.3+2)},s:= {s with c:=s.4+1,k:=1,a:=2*n+5+2*t+3*x.3+2,o:=aC s.3 (2*n+5+2*t+3*x.3+2),w:=aC s.3 (2*n+5+2*t+3*x.3+2),ok:=bQ s.3 (2*n+5+2*t+3*x.3+2) } }
abbrev w0m(n:Int)(s:MS)(t:Int)(x:EXS):Tr ExO:=.ret {d:=false,x:= {x with at':=5,found:=aC s.3 (2*n+5+2*t+3*x.3+2)},s:= {s with c:=s.4+1,k:=1,a:=2*n+5+2*t+3*x.3+2,o:=aC s.3 (2*n+5+2*t+3*x.3+2),w:=aC s.3 (2*n+5+2*t+3*x.3+2),ok:=bQ s.3 (2*n+5+2*t+3*x.3+2) } }
abbrev w0n(n:Int)(s:MS)(t:Int)(x:EXS):Tr ExO:=.ret {d:=false,x:= {x with at':=8,found:=aC s.3 (2*n+5+2*t+3*x.3+2)},s:= {s with c:=s.4+1,k:=1,a:=2*n+5+2*t+3*x.3+2,o:=aC s.3 (2*n+5+2*t+3*x.3+2),w:=aC s.3 (2*n+5+2*t+3*x.3+2),ok:=bQ s.3 (2*n+5+2*t+3*x.3+2) } }
abbrev w0s(n:Int)(s:MS)(t:Int)(x:EXS):=aA (aC s.3 (2*n+5+2*t+3*x.3+2)) 49 3
def z6(t n:Int)(x:EXS)(s:MS):Tr ExO:=.pre True (.pre True (.pre (w0g n t x) (.pre ((lE' s.3∧(0:Int)≤s.4∧s.4≤(4611686018427387904:Int))∧True) (.ite x.7 (.pre True (.ite (!ieq (aA (aC s.3 (2*n+5+2*t+3*x.3+2)) 0 12) x.8) (.pre ((t=t∧n=n)∧lE' s.3) (w0i n s t x)) (.pre True (.ite (ieq (w0s n s t x) 2) (.pre ((t=t∧n=n)∧lE' s.3) (w0l n s t x)) (.ite (ieq (w0s n s t x) 3) (.pre ((t=t∧n=n)∧lE' s.3) (w0m n s t x)) (.ite (ieq (w0s n s t x) 4) (.pre ((t=t∧n=n)∧lE' s.3) (w0n n s t x)) (.pre ((t=t∧n=n)∧lE' s.3) (w0i n s t x)))))))) (.pre True (.ite (ieq (w0s n s t x) 2) (.pre ((t=t∧n=n)∧lE' s.3) (w0l n s t x)) (.ite (ieq (w0s n s t x) 3) (.pre ((t=t∧n=n)∧lE' s.3) (w0m n s t x)) (.ite (ieq (w0s n s t x) 4) (.pre ((t=t∧n=n)∧lE' s.3) (w0n n s t x)) (.pre ((t=t∧n=n)∧lE' s.3) (w0i n s t x))))))))))
theorem HJ(t n:Int)(x:EXS)(s:MS)(K:ExO→Prop)(h:(z6 t n x s).run K):cT' 249 [.ptr 0 0,.ptr 1 0] [cE' [.I t,.I n,.I x.popped,.I x.gave,.I x.u,.I x.sh,.I x.kd,.I x.ky,.bool x.only,.I x.att,.I 0,.int .u64 x.found,.int .u64 x.word],bE 2 s,bF s] (bM 3 0 [] [] (uZ t n) K):=by
 exact cM' (E:=EX2) (by kernel_rfl) h
abbrev w0f(s:MS)(x:EXS):Tr ExO:=.ret {d:=false,x:= {x with at':=4,word:=aC s.3 (aA x.10 12 9) },s:= {s with c:=s.4+1,k:=1,a:=aA x.10 12 9,o:=aC s.3 (aA x.10 12 9),w:=aC s.3 (aA x.10 12 9),ok:=bQ s.3 (aA x.10 12 9) } }
abbrev w0j(s:MS)(x:EXS):=ieq (aA (aC s.3 (aA x.10 12 9)) 25 18) (aA x.10 21 18)
abbrev w0o(s:MS)(x:EXS):Tr ExO:=.ret {d:=false,x:= {x with at':=3,word:=aC s.3 (aA x.10 12 9) },s:= {s with c:=s.4+1,k:=1,a:=aA x.10 12 9,o:=aC s.3 (aA x.10 12 9),w:=aC s.3 (aA x.10 12 9),ok:=bQ s.3 (aA x.10 12 9) } }
abbrev w0r(s:MS)(x:EXS):=ieq (aA (aC s.3 (aA x.10 12 9)) 20 5) (W (x.3+1))
def z7(t n:Int)(x:EXS)(s:MS):Tr ExO:=.pre True (.pre True (.pre True (.pre (lE' s.3∧(0:Int)≤s.4∧s.4≤(4611686018427387904:Int)) (.pre True (.pre True (.ite (w0j s x) (.ite (ieq (aA (aC s.3 (aA x.10 12 9)) 20 5) 0) (.pre ((t=t∧n=n)∧lE' s.3) (.ret {d:=false,x:= {x with at':=2,word:=aC s.3 (aA x.10 12 9) },s:= {s with c:=s.4+1,k:=1,a:=aA x.10 12 9,o:=aC s.3 (aA x.10 12 9),w:=aC s.3 (aA x.10 12 9),ok:=bQ s.3 (aA x.10 12 9) } })) (.pre True (.ite (w0j s x) (.ite (w0r s x) (.pre ((t=t∧n=n)∧lE' s.3) (w0o s x)) (.pre ((t=t∧n=n)∧lE' s.3) (w0f s x))) (.pre ((t=t∧n=n)∧lE' s.3) (w0f s x))))) (.pre True (.ite (w0j s x) (.ite (w0r s x) (.pre ((t=t∧n=n)∧lE' s.3) (w0o s x)) (.pre ((t=t∧n=n)∧lE' s.3) (w0f s x))) (.pre ((t=t∧n=n)∧lE' s.3) (w0f s x))))))))))
theorem HK(t n:Int)(x:EXS)(s:MS)(K:ExO→Prop)(h:(z7 t n x s).run K):cT' 249 [.ptr 0 0,.ptr 1 0] [cE' [.I t,.I n,.I x.popped,.I x.gave,.I x.u,.I x.sh,.I x.kd,.I x.ky,.bool x.only,.I x.att,.I 1,.int .u64 x.found,.int .u64 x.word],bE 2 s,bF s] (bM 3 0 [] [] (uZ t n) K):=by
 exact cM' (E:=EX2) (by kernel_rfl) h
abbrev w0k(x:EXS):=ieq (aA x.10 48 1) 1
abbrev w0e(n:Int)(s:MS)(t:Int)(x:EXS):Tr ExO:=.ret {d:=true,x:= {x with at':=2},s:= {t:=s.1,n:=s.2,xs:=bif aT s.3 (aA x.10 12 9) x.11 then aV s.3 (aA x.10 12 9) (bif bif aK (aA x.11 0 10) 10 then bif aK (aA x.10 39 9) 9 then bif aK (x.3+1) 5 then aK (aA x.11 25 18) 18 else false else false else false then cK (aA x.11 0 10) (aA x.10 39 9) (w0k x) (x.3+1) (aA x.11 25 18)else 0)else s.3,c:=s.4+1,k:=3,a:=aA x.10 12 9,o:=aC s.3 (aA x.10 12 9),w:=bif bQ s.3 (aA x.10 12 9)then bif bif aK (aA x.11 0 10) 10 then bif aK (aA x.10 39 9) 9 then bif aK (x.3+1) 5 then aK (aA x.11 25 18) 18 else false else false else false then cK (aA x.11 0 10) (aA x.10 39 9) (w0k x) (x.3+1) (aA x.11 25 18)else 0 else 0,ok:=aT s.3 (aA x.10 12 9) x.11} }
def z8(t n:Int)(x:EXS)(s:MS):Tr ExO:=.pre True (.pre True (.pre ((-1000000:Int)≤x.3∧x.3≤(1000000:Int)) (.pre (lE' s.3∧True∧True∧((lE' s.3∧(0:Int)≤s.4∧s.4≤(4611686018427387904:Int))∧True)∧True) (.ite (aT s.3 (aA x.10 12 9) x.11) (.pre True (.ite (oG x.4 x.5) (.pre ((t=t∧n=n)∧lE' (bif aT s.3 (aA x.10 12 9) x.11 then aV s.3 (aA x.10 12 9) (bif bif aK (aA x.11 0 10) 10 then bif aK (aA x.10 39 9) 9 then bif aK (x.3+1) 5 then aK (aA x.11 25 18) 18 else false else false else false then cK (aA x.11 0 10) (aA x.10 39 9) (w0k x) (x.3+1) (aA x.11 25 18)else 0)else s.3)) (.ret {d:=true,x:= {x with popped:=aA x.11 10 9,at':=2},s:= {t:=s.1,n:=s.2,xs:=bif aT s.3 (aA x.10 12 9) x.11 then aV s.3 (aA x.10 12 9) (bif bif aK (aA x.11 0 10) 10 then bif aK (aA x.10 39 9) 9 then bif aK (x.3+1) 5 then aK (aA x.11 25 18) 18 else false else false else false then cK (aA x.11 0 10) (aA x.10 39 9) (w0k x) (x.3+1) (aA x.11 25 18)else 0)else s.3,c:=s.4+1,k:=3,a:=aA x.10 12 9,o:=aC s.3 (aA x.10 12 9),w:=bif bQ s.3 (aA x.10 12 9)then bif bif aK (aA x.11 0 10) 10 then bif aK (aA x.10 39 9) 9 then bif aK (x.3+1) 5 then aK (aA x.11 25 18) 18 else false else false else false then cK (aA x.11 0 10) (aA x.10 39 9) (w0k x) (x.3+1) (aA x.11 25 18)else 0 else 0,ok:=aT s.3 (aA x.10 12 9) x.11} })) (.pre ((t=t∧n=n)∧lE' (bif aT s.3 (aA x.10 12 9) x.11 then aV s.3 (aA x.10 12 9) (bif bif aK (aA x.11 0 10) 10 then bif aK (aA x.10 39 9) 9 then bif aK (x.3+1) 5 then aK (aA x.11 25 18) 18 else false else false else false then cK (aA x.11 0 10) (aA x.10 39 9) (w0k x) (x.3+1) (aA x.11 25 18)else 0)else s.3)) (w0e n s t x)))) (.pre ((t=t∧n=n)∧lE' (bif aT s.3 (aA x.10 12 9) x.11 then aV s.3 (aA x.10 12 9) (bif bif aK (aA x.11 0 10) 10 then bif aK (aA x.10 39 9) 9 then bif aK (x.3+1) 5 then aK (aA x.11 25 18) 18 else false else false else false then cK (aA x.11 0 10) (aA x.10 39 9) (w0k x) (x.3+1) (aA x.11 25 18)else 0)else s.3)) (w0e n s t x))))))
theorem HL(t n:Int)(x:EXS)(s:MS)(K:ExO→Prop)(h:(z8 t n x s).run K):cT' 249 [.ptr 0 0,.ptr 1 0] [cE' [.I t,.I n,.I x.popped,.I x.gave,.I x.u,.I x.sh,.I x.kd,.I x.ky,.bool x.only,.I x.att,.I 2,.int .u64 x.found,.int .u64 x.word],bE 2 s,bF s] (bM 3 0 [] [] (uZ t n) K):=by
 exact cM' (E:=EX2) (by kernel_rfl) h
def AA(t n:Int)(x:EXS)(s:MS):Tr ExO:=.pre True (.pre True (.pre True (.pre (lE' s.3) (.pre True (.pre (w0g n t x) (.pre ((lE' s.3∧(0:Int)≤s.4∧s.4≤(4611686018427387904:Int))∧True) (.pre ((t=t∧n=n)∧lE' (bif aT s.3 (2*n+5+2*t+3*x.3+2) x.10 then aV s.3 (2*n+5+2*t+3*x.3+2) (bif dOk (aA x.10 0 12) (aA x.10 12 9) (aA x.10 21 18) (aA x.10 39 9) 3 (aA x.10 52 10)then cJ (aA x.10 0 12) (aA x.10 12 9) (aA x.10 21 18) (aA x.10 39 9) (w0k x) 3 (aA x.10 52 10)else 0)else s.3)) (.ret {d:=true,x:= {x with at':=3},s:= {t:=s.1,n:=s.2,xs:=bif aT s.3 (2*n+5+2*t+3*x.3+2) x.10 then aV s.3 (2*n+5+2*t+3*x.3+2) (bif dOk (aA x.10 0 12) (aA x.10 12 9) (aA x.10 21 18) (aA x.10 39 9) 3 (aA x.10 52 10)then cJ (aA x.10 0 12) (aA x.10 12 9) (aA x.10 21 18) (aA x.10 39 9) (w0k x) 3 (aA x.10 52 10)else 0)else s.3,c:=s.4+1,k:=3,a:=2*n+5+2*t+3*x.3+2,o:=aC s.3 (2*n+5+2*t+3*x.3+2),w:=bif bQ s.3 (2*n+5+2*t+3*x.3+2)then bif dOk (aA x.10 0 12) (aA x.10 12 9) (aA x.10 21 18) (aA x.10 39 9) 3 (aA x.10 52 10)then cJ (aA x.10 0 12) (aA x.10 12 9) (aA x.10 21 18) (aA x.10 39 9) (w0k x) 3 (aA x.10 52 10)else 0 else 0,ok:=aT s.3 (2*n+5+2*t+3*x.3+2) x.10} }))))))))
theorem HM(t n:Int)(x:EXS)(s:MS)(K:ExO→Prop)(h:(AA t n x s).run K):cT' 249 [.ptr 0 0,.ptr 1 0] [cE' [.I t,.I n,.I x.popped,.I x.gave,.I x.u,.I x.sh,.I x.kd,.I x.ky,.bool x.only,.I x.att,.I 3,.int .u64 x.found,.int .u64 x.word],bE 2 s,bF s] (bM 3 0 [] [] (uZ t n) K):=by
 exact cM' (E:=EX2) (by kernel_rfl) h
def AB(t n:Int)(x:EXS)(s:MS):Tr ExO:=.pre True (.pre True (.pre True (.pre (lE' s.3) (.pre True (.pre (w0g n t x) (.pre ((lE' s.3∧(0:Int)≤s.4∧s.4≤(4611686018427387904:Int))∧True) (.pre ((t=t∧n=n)∧lE' (bif aT s.3 (2*n+5+2*t+3*x.3+2) x.10 then aV s.3 (2*n+5+2*t+3*x.3+2) (bif dOk (aA x.10 0 12) (aA x.10 12 9) (aA x.10 21 18) (aA x.10 39 9) 4 (aA x.10 52 10)then cJ (aA x.10 0 12) (aA x.10 12 9) (aA x.10 21 18) (aA x.10 39 9) (w0k x) 4 (aA x.10 52 10)else 0)else s.3)) (.ret {d:=true,x:= {x with at':=4},s:= {t:=s.1,n:=s.2,xs:=bif aT s.3 (2*n+5+2*t+3*x.3+2) x.10 then aV s.3 (2*n+5+2*t+3*x.3+2) (bif dOk (aA x.10 0 12) (aA x.10 12 9) (aA x.10 21 18) (aA x.10 39 9) 4 (aA x.10 52 10)then cJ (aA x.10 0 12) (aA x.10 12 9) (aA x.10 21 18) (aA x.10 39 9) (w0k x) 4 (aA x.10 52 10)else 0)else s.3,c:=s.4+1,k:=3,a:=2*n+5+2*t+3*x.3+2,o:=aC s.3 (2*n+5+2*t+3*x.3+2),w:=bif bQ s.3 (2*n+5+2*t+3*x.3+2)then bif dOk (aA x.10 0 12) (aA x.10 12 9) (aA x.10 21 18) (aA x.10 39 9) 4 (aA x.10 52 10)then cJ (aA x.10 0 12) (aA x.10 12 9) (aA x.10 21 18) (aA x.10 39 9) (w0k x) 4 (aA x.10 52 10)else 0 else 0,ok:=aT s.3 (2*n+5+2*t+3*x.3+2) x.10} }))))))))
theorem HN(t n:Int)(x:EXS)(s:MS)(K:ExO→Prop)(h:(AB t n x s).run K):cT' 249 [.ptr 0 0,.ptr 1 0] [cE' [.I t,.I n,.I x.popped,.I x.gave,.I x.u,.I x.sh,.I x.kd,.I x.ky,.bool x.only,.I x.att,.I 4,.int .u64 x.found,.int .u64 x.word],bE 2 s,bF s] (bM 3 0 [] [] (uZ t n) K):=by
 exact cM' (E:=EX2) (by kernel_rfl) h
abbrev w0d(s:MS)(x:EXS):Tr ExO:=.ret {d:=false,x:= {x with at':=7,word:=aC s.3 (aA x.10 12 9) },s:= {s with c:=s.4+1,k:=1,a:=aA x.10 12 9,o:=aC s.3 (aA x.10 12 9),w:=aC s.3 (aA x.10 12 9),ok:=bQ s.3 (aA x.10 12 9) } }
abbrev w0p(s:MS)(x:EXS):Tr ExO:=.ret {d:=false,x:= {x with at':=6,word:=aC s.3 (aA x.10 12 9) },s:= {s with c:=s.4+1,k:=1,a:=aA x.10 12 9,o:=aC s.3 (aA x.10 12 9),w:=aC s.3 (aA x.10 12 9),ok:=bQ s.3 (aA x.10 12 9) } }
def AC(t n:Int)(x:EXS)(s:MS):Tr ExO:=.pre True (.pre True (.pre True (.pre (lE' s.3∧(0:Int)≤s.4∧s.4≤(4611686018427387904:Int)) (.pre True (.pre True (.ite (w0j s x) (.ite (ieq (aA (aC s.3 (aA x.10 12 9)) 20 5) 0) (.pre ((t=t∧n=n)∧lE' s.3) (w0d s x)) (.pre True (.ite (w0j s x) (.ite (w0r s x) (.pre ((t=t∧n=n)∧lE' s.3) (w0p s x)) (.pre ((t=t∧n=n)∧lE' s.3) (w0d s x))) (.pre ((t=t∧n=n)∧lE' s.3) (w0d s x))))) (.pre True (.ite (w0j s x) (.ite (w0r s x) (.pre ((t=t∧n=n)∧lE' s.3) (w0p s x)) (.pre ((t=t∧n=n)∧lE' s.3) (w0d s x))) (.pre ((t=t∧n=n)∧lE' s.3) (w0d s x))))))))))
theorem HO(t n:Int)(x:EXS)(s:MS)(K:ExO→Prop)(h:(AC t n x s).run K):cT' 249 [.ptr 0 0,.ptr 1 0] [cE' [.I t,.I n,.I x.popped,.I x.gave,.I x.u,.I x.sh,.I x.kd,.I x.ky,.bool x.only,.I x.att,.I 5,.int .u64 x.found,.int .u64 x.word],bE 2 s,bF s] (bM 3 0 [] [] (uZ t n) K):=by
 exact cM' (E:=EX2) (by kernel_rfl) h
abbrev w0t(x:EXS):=aR (aA x.11 25 18)
def AD(t n:Int)(x:EXS)(s:MS):Tr ExO:=.pre True (.pre True (.pre ((0:Int)≤aA x.11 25 18∧aA x.11 25 (18:Int)≤(1000000:Int)) (.pre (lE' s.3) (.pre True (.pre True (.pre ((lE' s.3∧(0:Int)≤s.4∧s.4≤(4611686018427387904:Int))∧True) (.pre ((t=t∧n=n)∧lE' (bif aT s.3 (aA x.10 12 9) x.11 then aV s.3 (aA x.10 12 9) (bif bif aK (aA x.11 0 10) 10 then bif aK (aA x.11 10 9) 9 then bif aK 0 5 then aK (w0t x) 18 else false else false else false then cK (aA x.11 0 10) (aA x.11 10 9) (ieq (aA x.11 19 1) 1) 0 (w0t x)else 0)else s.3)) (.ret {d:=false,x:= {x with at':=7},s:= {t:=s.1,n:=s.2,xs:=bif aT s.3 (aA x.10 12 9) x.11 then aV s.3 (aA x.10 12 9) (bif bif aK (aA x.11 0 10) 10 then bif aK (aA x.11 10 9) 9 then bif aK 0 5 then aK (w0t x) 18 else false else false else false then cK (aA x.11 0 10) (aA x.11 10 9) (ieq (aA x.11 19 1) 1) 0 (w0t x)else 0)else s.3,c:=s.4+1,k:=3,a:=aA x.10 12 9,o:=aC s.3 (aA x.10 12 9),w:=bif bQ s.3 (aA x.10 12 9)then bif bif aK (aA x.11 0 10) 10 then bif aK (aA x.11 10 9) 9 then bif aK 0 5 then aK (w0t x) 18 else false else false else false then cK (aA x.11 0 10) (aA x.11 10 9) (ieq (aA x.11 19 1) 1) 0 (w0t x)else 0 else 0,ok:=aT s.3 (aA x.10 12 9) x.11} }))))))))
theorem HP(t n:Int)(x:EXS)(s:MS)(K:ExO→Prop)(h:(AD t n x s).run K):cT' 249 [.ptr 0 0,.ptr 1 0] [cE' [.I t,.I n,.I x.popped,.I x.gave,.I x.u,.I x.sh,.I x.kd,.I x.ky,.bool x.only,.I x.att,.I 6,.int .u64 x.found,.int .u64 x.word],bE 2 s,bF s] (bM 3 0 [] [] (uZ t n) K):=by
 exact cM' (E:=EX2) (by kernel_rfl) h
def AE(t n:Int)(x:EXS)(s:MS):Tr ExO:=.pre True (.pre True (.pre True (.pre (lE' s.3) (.pre True (.pre (w0g n t x) (.pre ((lE' s.3∧(0:Int)≤s.4∧s.4≤(4611686018427387904:Int))∧True) (.pre ((t=t∧n=n)∧lE' (bif aT s.3 (2*n+5+2*t+3*x.3+2) x.10 then aV s.3 (2*n+5+2*t+3*x.3+2) (bif dOk (aA x.10 0 12) 0 0 0 5 (aA x.10 52 10)then cJ (aA x.10 0 12) 0 0 0 true 5 (aA x.10 52 10)else 0)else s.3)) (.ret {d:=true,x:= {x with at':=7},s:= {t:=s.1,n:=s.2,xs:=bif aT s.3 (2*n+5+2*t+3*x.3+2) x.10 then aV s.3 (2*n+5+2*t+3*x.3+2) (bif dOk (aA x.10 0 12) 0 0 0 5 (aA x.10 52 10)then cJ (aA x.10 0 12) 0 0 0 true 5 (aA x.10 52 10)else 0)else s.3,c:=s.4+1,k:=3,a:=2*n+5+2*t+3*x.3+2,o:=aC s.3 (2*n+5+2*t+3*x.3+2),w:=bif bQ s.3 (2*n+5+2*t+3*x.3+2)then bif dOk (aA x.10 0 12) 0 0 0 5 (aA x.10 52 10)then cJ (aA x.10 0 12) 0 0 0 true 5 (aA x.10 52 10)else 0 else 0,ok:=aT s.3 (2*n+5+2*t+3*x.3+2) x.10} }))))))))
theorem HQ(t n:Int)(x:EXS)(s:MS)(K:ExO→Prop)(h:(AE t n x s).run K):cT' 249 [.ptr 0 0,.ptr 1 0] [cE' [.I t,.I n,.I x.popped,.I x.gave,.I x.u,.I x.sh,.I x.kd,.I x.ky,.bool x.only,.I x.att,.I 7,.int .u64 x.found,.int .u64 x.word],bE 2 s,bF s] (bM 3 0 [] [] (uZ t n) K):=by
 exact cM' (E:=EX2) (by kernel_rfl) h
abbrev w0q(x:EXS):=eF (aA x.10 0 12)
abbrev w0h(n:Int)(s:MS)(t:Int)(x:EXS):Tr ExO:=.ret {d:=true,x:= {x with at':=9},s:= {t:=s.1,n:=s.2,xs:=bif aT s.3 (2*n+5+2*t+3*x.3+2) x.10 then aV s.3 (2*n+5+2*t+3*x.3+2) (bif dOk (w0q x) 0 0 0 1 0 then cJ (w0q x) 0 0 0 false 1 0 else 0)else s.3,c:=s.4+1,k:=3,a:=2*n+5+2*t+3*x.3+2,o:=aC s.3 (2*n+5+2*t+3*x.3+2),w:=bif bQ s.3 (2*n+5+2*t+3*x.3+2)then bif dOk (w0q x) 0 0 0 1 0 then cJ (w0q x) 0 0 0 false 1 0 else 0 else 0,ok:=aT s.3 (2*n+5+2*t+3*x.3+2) x.10} }
def AF(t n:Int)(x:EXS)(s:MS):Tr ExO:=.pre True (.pre True (.pre ((0:Int)≤aA x.10 0 12∧aA x.10 0 (12:Int)≤(1000000:Int)) (.pre (lE' s.3∧True∧(w0g n t x)∧((lE' s.3∧(0:Int)≤s.4∧s.4≤(4611686018427387904:Int))∧True)∧True) (.ite (!aT s.3 (2*n+5+2*t+3*x.3+2) x.10) (.pre ((t=t∧n=n)∧lE' (bif aT s.3 (2*n+5+2*t+3*x.3+2) x.10 then aV s.3 (2*n+5+2*t+3*x.3+2) (bif dOk (w0q x) 0 0 0 1 0 then cJ (w0q x) 0 0 0 false 1 0 else 0)else s.3)) (w0h n s t x)) (.pre True (.ite (!fT x.5) (.pre ((t=t∧n=n)∧lE' (bif aT s.3 (2*n+5+2*t+3*x.3+2) x.10 then aV s.3 (2*n+5+2*t+3*x.3+2) (bif dOk (w0q x) 0 0 0 1 0 then cJ (w0q x) 0 0 0 false 1 0 else 0)else s.3)) (w0h n s t x)) (.pre (True∧True) (.pre ((t=t∧n=n)∧lE' (bif aT s.3 (2*n+5+2*t+3*x.3+2) x.10 then aV s.3 (2*n+5+2*t+3*x.3+2) (bif dOk (w0q x) 0 0 0 1 0 then cJ (w0q x) 0 0 0 false 1 0 else 0)else s.3)) (.ret {d:=!bT n (aA x.10 39 9),x:= {x with at':=9},s:= {t:=s.1,n:=s.2,xs:=bif aT s.3 (2*n+5+2*t+3*x.3+2) x.10 then aV s.3 (2*n+5+2*t+3*x.3+2) (bif dOk (w0q x) 0 0 0 1 0 then cJ (w0q x) 0 0 0 false 1 0 else 0)else s.3,c:=s.4+1,k:=3,a:=2*n+5+2*t+3*x.3+2,o:=aC s.3 (2*n+5+2*t+3*x.3+2),w:=bif bQ s.3 (2*n+5+2*t+3*x.3+2)then bif dOk (w0q x) 0 0 0 1 0 then cJ (w0q x) 0 0 0 false 1 0 else 0 else 0,ok:=aT s.3 (2*n+5+2*t+3*x.3+2) x.10} })))))))))
theorem HR(t n:Int)(x:EXS)(s:MS)(K:ExO→Prop)(h:(AF t n x s).run K):cT' 249 [.ptr 0 0,.ptr 1 0] [cE' [.I t,.I n,.I x.popped,.I x.gave,.I x.u,.I x.sh,.I x.kd,.I x.ky,.bool x.only,.I x.att,.I 8,.int .u64 x.found,.int .u64 x.word],bE 2 s,bF s] (bM 3 0 [] [] (uZ t n) K):=by
 exact cM' (E:=EX2) (by kernel_rfl) h
abbrev w0u(n:Int)(x:EXS):=n+4+aA x.10 39 9
def AG(t n:Int)(x:EXS)(s:MS):Tr ExO:=.pre True (.pre True (.pre ((((0:Int)≤t∧t≤(100000:Int))∧((0:Int)≤n∧n≤(100000:Int))∧(-1099511627776:Int)≤aA x.10 39 9∧aA x.10 39 (9:Int)≤(1099511627776:Int))∧True) (.pre ((lE' s.3∧(0:Int)≤s.4∧s.4≤(4611686018427387904:Int))∧True) (.pre ((t=t∧n=n)∧lE' (aV s.3 (w0u n x) (WU (aC s.3 (w0u n x)+1)))) (.ret {d:=true,x:= {x with gave:=aA x.10 39 9,at':=9},s:= {t:=s.1,n:=s.2,xs:=aV s.3 (w0u n x) (WU (aC s.3 (w0u n x)+1)),c:=s.4+1,k:=4,a:=n+4+aA x.10 39 9,o:=aC s.3 (w0u n x),w:=bif bQ s.3 (w0u n x)then WU (aC s.3 (w0u n x)+1)else 0,ok:=bQ s.3 (w0u n x) } })))))
theorem HS(t n:Int)(x:EXS)(s:MS)(K:ExO→Prop)(h:(AG t n x s).run K):cT' 249 [.ptr 0 0,.ptr 1 0] [cE' [.I t,.I n,.I x.popped,.I x.gave,.I x.u,.I x.sh,.I x.kd,.I x.ky,.bool x.only,.I x.att,.I 9,.int .u64 x.found,.int .u64 x.word],bE 2 s,bF s] (bM 3 0 [] [] (uZ t n) K):=by
 exact cM' (E:=EX2) (by kernel_rfl) h
def exT(t n:Int)(x:EXS)(s:MS):Tr ExO:=
 bif ieq x.at' 0 then z6 t n x s else
 bif ieq x.at' 1 then z7 t n x s else
 bif ieq x.at' 2 then z8 t n x s else
 bif ieq x.at' 3 then AA t n x s else
 bif ieq x.at' 4 then AB t n x s else
 bif ieq x.at' 5 then AC t n x s else
 bif ieq x.at' 6 then AD t n x s else
 bif ieq x.at' 7 then AE t n x s else
 bif ieq x.at' 8 then AF t n x s else
 bif ieq x.at' 9 then AG t n x s else .pre False (.ret default)
def zZ(t n:Int)(x:EXS)(s:MS):ExO:=(exT t n x s).val
def YW(t n:Int)(x:EXS)(s:MS):Prop:=(exT t n x s).ok
theorem RN(t n:Int)(x:EXS)(s:MS)(K:AVal→aD Ob→Prop)(h:(exT t n x s).run (fun y=>(ExO.fin t n y).run K)):cT' 249 [.ptr 0 0,.ptr 1 0] (exH t n x s) K:=by
 unfold exT at h
 by_cases e:x.at'=0
 ·rw [e]at h;have h:(z6 t n x s).run _:=h;refine aEB (root:=0) (pos:=[]) (cs:=[]) (parse:=uZ t n) (fin:=ExO.fin t n) kT (aS.unpack (.exec t n x) 0 0 (gU t n x) [] rfl (congrArg (Prod.mk 0) rfl) (by kernel_rfl) rfl) ?_
  have q:=HJ t n x s _ h;rw [←e]at q;exact q
 rw [bI e]at h
 by_cases e:x.at'=1
 ·rw [e]at h;have h:(z7 t n x s).run _:=h;refine aEB (root:=0) (pos:=[]) (cs:=[]) (parse:=uZ t n) (fin:=ExO.fin t n) kT (aS.unpack (.exec t n x) 0 0 (gU t n x) [] rfl (congrArg (Prod.mk 0) rfl) (by kernel_rfl) rfl) ?_
  have q:=HK t n x s _ h;rw [←e]at q;exact q
 rw [bI e]at h
 by_cases e:x.at'=2
 ·rw [e]at h;have h:(z8 t n x s).run _:=h;refine aEB (root:=0) (pos:=[]) (cs:=[]) (parse:=uZ t n) (fin:=ExO.fin t n) kT (aS.unpack (.exec t n x) 0 0 (gU t n x) [] rfl (congrArg (Prod.mk 0) rfl) (by kernel_rfl) rfl) ?_
  have q:=HL t n x s _ h;rw [←e]at q;exact q
 rw [bI e]at h
 by_cases e:x.at'=3
 ·rw [e]at h;have h:(AA t n x s).run _:=h;refine aEB (root:=0) (pos:=[]) (cs:=[]) (parse:=uZ t n) (fin:=ExO.fin t n) kT (aS.unpack (.exec t n x) 0 0 (gU t n x) [] rfl (congrArg (Prod.mk 0) rfl) (by kernel_rfl) rfl) ?_
  have q:=HM t n x s _ h;rw [←e]at q;exact q
 rw [bI e]at h
 by_cases e:x.at'=4
 ·rw [e]at h;have h:(AB t n x s).run _:=h;refine aEB (root:=0) (pos:=[]) (cs:=[]) (parse:=uZ t n) (fin:=ExO.fin t n) kT (aS.unpack (.exec t n x) 0 0 (gU t n x) [] rfl (congrArg (Prod.mk 0) rfl) (by kernel_rfl) rfl) ?_
  have q:=HN t n x s _ h;rw [←e]at q;exact q
 rw [bI e]at h
 by_cases e:x.at'=5
 ·rw [e]at h;have h:(AC t n x s).run _:=h;refine aEB (root:=0) (pos:=[]) (cs:=[]) (parse:=uZ t n) (fin:=ExO.fin t n) kT (aS.unpack (.exec t n x) 0 0 (gU t n x) [] rfl (congrArg (Prod.mk 0) rfl) (by kernel_rfl) rfl) ?_
  have q:=HO t n x s _ h;rw [←e]at q;exact q
 rw [bI e]at h
 by_cases e:x.at'=6
 ·rw [e]at h;have h:(AD t n x s).run _:=h;refine aEB (root:=0) (pos:=[]) (cs:=[]) (parse:=uZ t n) (fin:=ExO.fin t n) kT (aS.unpack (.exec t n x) 0 0 (gU t n x) [] rfl (congrArg (Prod.mk 0) rfl) (by kernel_rfl) rfl) ?_
  have q:=HP t n x s _ h;rw [←e]at q;exact q
 rw [bI e]at h
 by_cases e:x.at'=7
 ·rw [e]at h;have h:(AE t n x s).run _:=h;refine aEB (root:=0) (pos:=[]) (cs:=[]) (parse:=uZ t n) (fin:=ExO.fin t n) kT (aS.unpack (.exec t n x) 0 0 (gU t n x) [] rfl (congrArg (Prod.mk 0) rfl) (by kernel_rfl) rfl) ?_
  have q:=HQ t n x s _ h;rw [←e]at q;exact q
 rw [bI e]at h
 by_cases e:x.at'=8
 ·rw [e]at h;have h:(AF t n x s).run _:=h;refine aEB (root:=0) (pos:=[]) (cs:=[]) (parse:=uZ t n) (fin:=ExO.fin t n) kT (aS.unpack (.exec t n x) 0 0 (gU t n x) [] rfl (congrArg (Prod.mk 0) rfl) (by kernel_rfl) rfl) ?_
  have q:=HR t n x s _ h;rw [←e]at q;exact q
 rw [bI e]at h
 by_cases e:x.at'=9
 ·rw [e]at h;have h:(AG t n x s).run _:=h;refine aEB (root:=0) (pos:=[]) (cs:=[]) (parse:=uZ t n) (fin:=ExO.fin t n) kT (aS.unpack (.exec t n x) 0 0 (gU t n x) [] rfl (congrArg (Prod.mk 0) rfl) (by kernel_rfl) rfl) ?_
  have q:=HS t n x s _ h;rw [←e]at q;exact q
 rw [bI e]at h;exact h.1.elim
noncomputable def exS:aI Ob:=fun args h=>match args,h with
 | [.ptr 0 0,.ptr 1 0],[some (.abs (.exec t n x) []),e1,e2]=>(match cL 2 [e1,e2]with
   | some (l,s)=>some (.pre (l=s.xs.length∧YW t n x s) (ExO.fin t n (zZ t n x s)))
   | none=>none)
 | _,_=>none
theorem aCd:sT' 249 exS:=by
 intro args h o ho K hK;unfold exS at ho;split at ho
 case h_2=>cases ho
 split at ho<;>cases ho
 rename_i hm;obtain⟨⟨hl,ok⟩,hK⟩:=hK;have hh:=bB hm hl;cases hh;exact RN _ _ _ _ K (aEG ok hK)
def YT(t n:Int)(v:AVal)(g:aD Ob):Option (Prop×EXS):=match v,g with
 | .ptr 0 0,[some (.cells [.int .i64 t1,.int .i64 n1,.int .i64 popped,.int .i64 gave,.int .i64 u,.int .i64 sh,.int .i64 kd,.int .i64 ky,.bool only,.int .i64 att,.int .i64 at',.int .u64 found,.int .u64 word])]=>some ((t1=t∧n1=n),(⟨popped,gave,u,sh,kd,ky,only,att,at',found,word⟩:EXS))
 | _,_=>none
abbrev RJ(t n:Int)(y:EXS):aD Ob:=[some (.abs (.exec t n y) [])]
theorem RK{t n:Int} :bS (obI tbl) 0 (YT t n) (fun y=>.ret (.ptr 0 0) (RJ t n y)):=by
 intro v g p x hp hq K hK;unfold YT at hp;split at hp
 case h_2=>cases hp
 rename_i t1 n1 popped gave u sh kd ky only att at' found word;simp only [sI',pI']at hp;obtain⟨rfl,rfl⟩:=hp;obtain⟨rfl,rfl⟩:=hq;exact⟨⟨_,_,aF.pack (RJ t1 n1 (⟨popped,gave,u,sh,kd,ky,only,att,at',found,word⟩:EXS)) (.exec t1 n1 (⟨popped,gave,u,sh,kd,ky,only,att,at',found,word⟩:EXS)) 0 0 (gU t1 n1 (⟨popped,gave,u,sh,kd,ky,only,att,at',found,word⟩:EXS)) [] (by kernel_rfl) rfl (congrArg (Prod.mk 0) rfl) (by kernel_rfl),hK⟩⟩
def YU(t n:Int)(u sh kd ky att:Int):Tr EXS:=.pre (t=t∧n=n) (.ret {popped:=0,gave:=0,u:=u,sh:=sh,kd:=kd,ky:=ky,only:=true,att:=att,at':=0,found:=0,word:=0})
def YS(t n:Int)(u sh kd ky att:Int):EXS:=(YU t n u sh kd ky att).val
def LC(t n:Int)(u sh kd ky att:Int):Prop:=(YU t n u sh kd ky att).ok
def exNS:aI Ob:=fun args h=>match args,h with
 | [.agg [.int .i64 t,.int .i64 n],.int .i64 u,.agg [.int .i64 sh,.int .i64 kd,.int .i64 ky],.int .i64 att],[]=>some (.pre (LC t n u sh kd ky att) (.ret (.ptr 0 0) (RJ t n (YS t n u sh kd ky att))))
 | _,_=>none
theorem YV:sT' 246 exNS:=by
 intro args h o ho K hK;unfold exNS at ho;split at ho<;>cases ho
 rename_i t n u sh kd ky att;obtain⟨ok,hK⟩:=hK;refine aEL (root:=0) (pos:=[]) (cs:=[]) (parse:=YT t n) RK ?_;exact cM' (E:=EX2) (q:=(YU t n u sh kd ky att).run (fun y=>(Out.ret (.ptr 0 0) (RJ t n y)).run K)) (by kernel_rfl) (aEG ok hK)
noncomputable def EC6:=((EX2.addS 249 exS aCd).addS 246 exNS YV)
structure PrO where
 d:Bool
 x:PRS
 st:STS
 s:MS
instance:Inhabited PrO:=⟨⟨false,⟨0,0,0,false⟩,⟨0,0,[]⟩,⟨0,0,[],0,0,0,0,0,false⟩⟩⟩
instance:Inhabited PRS:=⟨⟨0,0,0,false⟩⟩
abbrev prH(t n:Int)(x:PRS)(st:STS)(s:MS):aD Ob:=[some (.abs (.prepare t n x) [1]),some (.abs (.store t n st) []),bE 3 s,bF s]
abbrev prD(t n:Int)(x:PRS)(st:STS)(s:MS):aD Ob:=[cE' [.ptr 1 0,.I x.key,.I x.nxt,.int .u64 x.found,.bool x.loaded],some (.abs (.store t n st) []),bE 3 s,bF s]
def PrO.fin(t n:Int)(y:PrO):Out Ob:=.ite y.d (.ret (.bool true) (prD t n y.x y.st y.s)) (.ret (.bool false) (prH t n y.x y.st y.s))
def aAC(t n:Int)(v:AVal)(g:aD Ob):Option (Prop×PrO):=match v,g with
 | .bool d,[some (.cells [.ptr 1 0,.int .i64 key,.int .i64 nxt,.int .u64 found,.bool loaded]),e1,e3,e4,e2]=>(match lB 4 [e1,e2],cL 3 [e3,e4]with
   | some (l2,t2,n2,st),some (l,s)=>some ((t2=t∧n2=n)∧l=s.xs.length∧l2=st.R.length,⟨d,⟨key,nxt,found,loaded⟩,st,s⟩)
   | _,_=>none)
 | _,_=>none
def prP(t n:Int)(v:AVal)(g:aD Ob):Option (Prop×PrO):=aAC t n v g
theorem TY{t n:Int} :bS (obI tbl) 4 (aAC t n) (PrO.fin t n):=by
 intro v g p x hp hq K hK;unfold aAC at hp;split at hp
 case h_2=>cases hp
 rename_i d key nxt found loaded e1 e3 e4 e2;split at hp
 case h_2=>cases hp
 rename_i l2 t2 n2 st l s hs hm;simp only [sI',pI']at hp;obtain⟨rfl,rfl⟩:=hp;obtain⟨⟨rfl,rfl⟩,hl,hl2⟩:=hq;have hh:=bB hm hl;cases hh;have hh:=cB hs hl2;cases hh;refine p8 hK (fun h=>?_) (fun h=>?_)
 ·exact⟨⟨_,_,(aF.pack (prD t2 n2 (⟨key,nxt,found,loaded⟩:PRS) st s) (.store t2 n2 st) 1 0 (dD t2 n2 st) [] (by kernel_rfl) rfl rfl (by kernel_rfl)),h⟩⟩
 ·exact let X0:PRS:=⟨key,nxt,found,loaded⟩;⟨⟨_,_,((aF.pack (aM (prH t2 n2 X0 st s) 0 1 (lI t2 n2 X0) [1]) (.store t2 n2 st) 1 0 (dD t2 n2 st) [] (by kernel_rfl) rfl rfl (by kernel_rfl)).trans (aF.pack (prH t2 n2 X0 st s) (.prepare t2 n2 X0) 0 1 (lI t2 n2 X0) [1] (by kernel_rfl) rfl (congrArg (Prod.mk 1) rfl) (by kernel_rfl))),h⟩⟩
theorem aAD{t n:Int} :bS (obI tbl) 4 (prP t n) (PrO.fin t n):=by
 intro v g p x hp hq K hK;unfold prP at hp;exact TY v g p x hp hq K hK
abbrev w0v(x:PRS):=aR (aA x.3 25 18)
def TZ(t n:Int)(x:PRS)(st:STS)(s:MS):Tr PrO:=.ite (!x.4) (.pre (lE' s.3∧(0:Int)≤s.4∧s.4≤(4611686018427387904:Int)) (.pre ((t=t∧n=n)∧lE' s.3∧lE' st.3) (.ret {d:=false,x:= {key:=x.1,nxt:=x.2,found:=aC s.3 st.2,loaded:=true},st:=st,s:= {s with c:=s.4+1,k:=1,a:=st.2,o:=aC s.3 st.2,w:=aC s.3 st.2,ok:=bQ s.3 st.2} }))) (.pre True (.pre ((0:Int)≤aA x.3 25 18∧aA x.3 25 (18:Int)≤(1000000:Int)) (.pre True (.pre (lE' s.3∧(0:Int)≤s.4∧s.4≤(4611686018427387904:Int)) (.pre ((t=t∧n=n)∧lE' (aV s.3 st.2 (bif bif aK x.1 10 then bif aK x.2 9 then bif aK 0 5 then aK (w0v x) 18 else false else false else false then cK x.1 x.2 false 0 (w0v x)else 0))∧lE' st.3) (.ret {d:=true,x:=x,st:=st,s:= {t:=s.1,n:=s.2,xs:=aV s.3 st.2 (bif bif aK x.1 10 then bif aK x.2 9 then bif aK 0 5 then aK (w0v x) 18 else false else false else false then cK x.1 x.2 false 0 (w0v x)else 0),c:=s.4+1,k:=2,a:=st.2,o:=aC s.3 st.2,w:=bif bQ s.3 st.2 then bif bif aK x.1 10 then bif aK x.2 9 then bif aK 0 5 then aK (w0v x) 18 else false else false else false then cK x.1 x.2 false 0 (w0v x)else 0 else 0,ok:=bQ s.3 st.2} }))))))
theorem MR(t n:Int)(x:PRS)(st:STS)(s:MS)(K:PrO→Prop)(h:(TZ t n x st s).run K):cT' 216 [.ptr 0 0,.ptr 2 0] [cE' [.ptr 1 0,.I x.key,.I x.nxt,.int .u64 x.found,.bool x.loaded],iT 4 t n st,bE 3 s,bF s,iU st] (bM 4 0 [] [(.cell 1 4,.ints (some .i64))] (prP t n) K):=by
 exact cM' (E:=EC6) (by kernel_rfl) h
def prT(t n:Int)(x:PRS)(st:STS)(s:MS):Tr PrO:=TZ t n x st s
def prF(t n:Int)(x:PRS)(st:STS)(s:MS):PrO:=(prT t n x st s).val
def MQ(t n:Int)(x:PRS)(st:STS)(s:MS):Prop:=(prT t n x st s).ok
theorem F4(t n:Int)(x:PRS)(st:STS)(s:MS)(K:AVal→aD Ob→Prop)(h:(prT t n x st s).run (fun y=>(PrO.fin t n y).run K)):cT' 216 [.ptr 0 0,.ptr 2 0] (prH t n x st s) K:=by
 unfold prT at h;exact aEB (root:=0) (pos:=[]) (cs:=[(.cell 1 4,.ints (some .i64))]) (parse:=prP t n) (fin:=PrO.fin t n) aAD ((aS.unpack (.prepare t n x) 0 1 (lI t n x) [1] rfl (congrArg (Prod.mk 1) rfl) (by kernel_rfl) rfl).trans (aS.unpack (.store t n st) 1 0 (dD t n st) [] rfl rfl rfl rfl)) (MR t n x st s _ h)
noncomputable def prSA:aI Ob:=fun args h=>match args,h with
 | [.ptr 0 0,.ptr 2 0],[some (.abs (.prepare t n x) [1]),some (.abs (.store t2 n2 st) []),e3,e4]=>(match cL 3 [e3,e4]with
   | some (l,s)=>some (.pre ((l=s.xs.length∧t2=t∧n2=n)∧MQ t n x st s) (PrO.fin t n (prF t n x st s)))
   | none=>none)
 | _,_=>none
theorem aAE:sT' 216 prSA:=by
 intro args h o ho K hK;unfold prSA at ho;split at ho
 case h_2=>cases ho
 split at ho<;>cases ho
 rename_i hm;obtain⟨⟨⟨hl,rfl,rfl⟩,ok⟩,hK⟩:=hK;have hh:=bB hm hl;cases hh;exact F4 _ _ _ _ _ K (aEG ok hK)
def PrO.finB(t n:Int)(y:PrO):Out Ob:=.ite y.d (.ret (.bool true) ([cE' [.ptr 1 0,.I y.x.key,.I y.x.nxt,.int .u64 y.x.found,.bool y.x.loaded],iT 5 t n y.st,none,bE 4 y.s,bF y.s,iU y.st])) (.ret (.bool false) [some (.abs (.prepare t n y.x) [1]),iT 5 t n y.st,none,bE 4 y.s,bF y.s,iU y.st])
noncomputable def prSB:aI Ob:=fun args h=>match args,h with
 | [.ptr 0 0,.ptr 3 0],[some (.abs (.prepare t n x) [1]),e1,e2,e3,e4]=>(match lB 2 [e1,e2],cL 4 [e3,e4]with
   | some (l2,t2,n2,st),some (l,s)=>some (.pre ((l=s.xs.length∧l2=st.R.length∧t2=t∧n2=n)∧MQ t n x st s) (PrO.finB t n (prF t n x st s)))
   | _,_=>none)
 | _,_=>none
theorem aAF:sT' 216 prSB:=by
 intro args h o ho K hK;unfold prSB at ho;split at ho
 case h_2=>cases ho
 split at ho<;>cases ho
 rename_i hs hm;obtain⟨⟨⟨hl,hl2,rfl,rfl⟩,ok⟩,hK⟩:=hK;have hh:=bB hm hl;cases hh;have hh:=cB hs hl2;cases hh;exact jN (fun ι hι=>by simp [aH.ren,aEN,AVal.ren,hι]) (fun ι hι=>by simp [aH.ren,hι]) (fun K hK=>F4 _ _ _ _ _ K (aEG ok hK)) K hK
noncomputable def prS:aI Ob:=aI.or prSA prSB
theorem aCV:sT' 216 prS:=aEZ aAE aAF
def aAA(t n:Int)(v:AVal)(g:aD Ob):Option (Prop×(PRS×STS)):=match v,g with
 | .ptr 2 0,[e1,e2,some (.cells [.ptr 0 0,.int .i64 key,.int .i64 nxt,.int .u64 found,.bool loaded])]=>(match lB 1 [e1,e2]with
   | some (l2,t2,n2,st)=>some ((t2=t∧n2=n∧l2=st.R.length),⟨(⟨key,nxt,found,loaded⟩:PRS),st⟩)
   | none=>none)
 | _,_=>none
abbrev TV(t n:Int)(y:(PRS×STS)):aD Ob:=[iT 1 t n y.2,iU y.2,some (.abs (.prepare t n y.1) [0])]
theorem TW{t n:Int} :bS (obI tbl) 2 (aAA t n) (fun y=>.ret (.ptr 2 0) (TV t n y)):=by
 intro v g p x hp hq K hK;unfold aAA at hp;split at hp
 case h_2=>cases hp
 rename_i e1 e2 key nxt found loaded;split at hp
 case h_2=>cases hp
 rename_i l2 t2 n2 st hs;simp only [sI',pI']at hp;obtain⟨rfl,rfl⟩:=hp;obtain⟨rfl,rfl,hl2⟩:=hq;have hh:=cB hs hl2;cases hh;exact⟨⟨_,_,aF.pack (TV t2 n2 ((⟨key,nxt,found,loaded⟩:PRS),st)) (.prepare t2 n2 (⟨key,nxt,found,loaded⟩:PRS)) 2 1 (lI t2 n2 (⟨key,nxt,found,loaded⟩:PRS)) [0] (by kernel_rfl) rfl (congrArg (Prod.mk 1) rfl) (by kernel_rfl),hK⟩⟩
def TX(t n:Int)(key nx:Int)(st:STS):Tr (PRS×STS):=.pre (t=t∧n=n∧lE' st.3) (.ret ({key:=key,nxt:=nx,found:=0,loaded:=false},st))
def p5(t n:Int)(key nx:Int)(st:STS):(PRS×STS):=(TX t n key nx st).val
def B8(t n:Int)(key nx:Int)(st:STS):Prop:=(TX t n key nx st).ok
def prNS:aI Ob:=fun args h=>match args,h with
 | [.ptr 0 0,.int .i64 key,.int .i64 nx],[e1,e2]=>(match lB 1 [e1,e2]with
   | some (l2,t,n,st)=>some (.pre (l2=st.R.length∧B8 t n key nx st) (.ret (.ptr 2 0) (TV t n (p5 t n key nx st))))
   | none=>none)
 | _,_=>none
theorem aAB:sT' 259 prNS:=by
 intro args h o ho K hK;unfold prNS at ho;split at ho
 case h_2=>cases ho
 rename_i key nx e1 e2;split at ho<;>cases ho
 rename_i l2 t n st hs;obtain⟨⟨hl2,ok⟩,hK⟩:=hK;have hh:=cB hs hl2;cases hh;refine aEL (root:=2) (pos:=[]) (cs:=[]) (parse:=aAA t n) TW ?_;exact cM' (E:=EC6) (q:=(TX t n key nx st).run (fun y=>(Out.ret (.ptr 2 0) (TV t n y)).run K)) (by kernel_rfl) (aEG ok hK)
noncomputable def EC7:=((EC6.addS 216 prS aCV).addS 259 prNS aAB)
structure FnO where
 d:Bool
 x:FNS
 s:MS
instance:Inhabited FnO:=⟨⟨false,aQ,⟨0,0,[],0,0,0,0,0,false⟩⟩⟩
instance:Inhabited FNS:=⟨aQ⟩
abbrev fnH(t n:Int)(x:FNS)(s:MS):aD Ob:=[some (.abs (.find t n x) []),bE 2 s,bF s]
abbrev fnD(t n:Int)(x:FNS)(s:MS):aD Ob:=[cE' [.I t,.I n,.I x.pred,.int .u64 x.pw,.I x.curr,.int .u64 x.cw,.I x.tries,.slice 3 0 x.ul.length 1,.bool x.ab,.I x.me,.I x.frm,.I x.key,.I x.limit,.I x.at',.I x.moved,.O],bE 2 s,bF s,iI' x.ul]
def FnO.fin(t n:Int)(y:FnO):Out Ob:=.ite y.d (.ret (.bool true) (fnD t n y.x y.s)) (.ret (.bool false) (fnH t n y.x y.s))
def Y5(t n:Int)(v:AVal)(g:aD Ob):Option (Prop×FnO):=match v,g with
 | .bool d,[some (.cells [.int .i64 t1,.int .i64 n1,.int .i64 pred,.int .u64 pw,.int .i64 curr,.int .u64 cw,.int .i64 tries,.slice 3 0 ul_l 1,.bool ab,.int .i64 me,.int .i64 frm,.int .i64 key,.int .i64 limit,.int .i64 at',.int .i64 moved,.O]),e1,e2,some (.ints (some .i64) ul)]=>(match cL 2 [e1,e2]with
   | some (l,s)=>some ((t1=t∧n1=n)∧ul_l=ul.length∧(d=false→at'≠4)∧l=s.xs.length,⟨d,⟨pred,pw,curr,cw,tries,ul,ab,me,frm,key,limit,at',moved,⟨0,0,0,0⟩⟩,s⟩)
   | none=>none)
 | _,_=>none
def Y6(t n:Int)(v:AVal)(g:aD Ob):Option (Prop×FnO):=match v,g with
 | .bool d,[some (.cells [.int .i64 t1,.int .i64 n1,.int .i64 pred,.int .u64 pw,.int .i64 curr,.int .u64 cw,.int .i64 tries,.slice 3 0 ul_l 1,.bool ab,.int .i64 me,.int .i64 frm,.int .i64 key,.int .i64 limit,.int .i64 at',.int .i64 moved,.ptr 4 0]),e1,e2,some (.ints (some .i64) ul),some (.abs (.clear t' n' sub) [])]=>(match cL 2 [e1,e2]with
   | some (l,s)=>some ((t1=t∧n1=n)∧ul_l=ul.length∧t'=t∧n'=n∧(d=false→at'=4)∧l=s.xs.length,⟨d,⟨pred,pw,curr,cw,tries,ul,ab,me,frm,key,limit,at',moved,sub⟩,s⟩)
   | none=>none)
 | _,_=>none
def CR(t n:Int)(v:AVal)(g:aD Ob):Option (Prop×FnO):=(match Y5 t n v g with
 | some r=>some r
 | none=>Y6 t n v g)
theorem RS{t n:Int} :bS (obI tbl) 3 (Y5 t n) (FnO.fin t n):=by
 intro v g p x hp hq K hK;unfold Y5 at hp;split at hp
 case h_2=>cases hp
 rename_i d t1 n1 pred pw curr cw tries ul_l ab me frm key limit at' moved e1 e2 ul;split at hp
 case h_2=>cases hp
 rename_i l s hm;simp only [sI',pI']at hp;obtain⟨rfl,rfl⟩:=hp;obtain⟨⟨rfl,rfl⟩,rfl,hat,hl⟩:=hq;have hh:=bB hm hl;cases hh;refine eV hK (fun h=>?_) (fun hd h=>?_)
 ·exact⟨⟨_,_,aEM _ _ _,h⟩⟩
 ·exact⟨⟨_,_,(aF.pack (fnH t1 n1 (⟨pred,pw,curr,cw,tries,ul,ab,me,frm,key,limit,at',moved,⟨0,0,0,0⟩⟩:FNS) s) (.find t1 n1 (⟨pred,pw,curr,cw,tries,ul,ab,me,frm,key,limit,at',moved,⟨0,0,0,0⟩⟩:FNS)) 0 0 (kU t1 n1 (⟨pred,pw,curr,cw,tries,ul,ab,me,frm,key,limit,at',moved,⟨0,0,0,0⟩⟩:FNS)) [] (by kernel_rfl) rfl (congrArg (Prod.mk 0) (iF (hat hd))) (by kernel_rfl)),h⟩⟩
theorem RT{t n:Int} :bS (obI tbl) 3 (Y6 t n) (FnO.fin t n):=by
 intro v g p x hp hq K hK;unfold Y6 at hp;split at hp
 case h_2=>cases hp
 rename_i d t1 n1 pred pw curr cw tries ul_l ab me frm key limit at' moved e1 e2 ul t' n' sub;split at hp
 case h_2=>cases hp
 rename_i l s hm;simp only [sI',pI']at hp;obtain⟨rfl,rfl⟩:=hp;obtain⟨⟨rfl,rfl⟩,rfl,rfl,rfl,hat,hl⟩:=hq;have hh:=bB hm hl;cases hh;refine eV hK (fun h=>?_) (fun hd h=>?_)
 ·exact⟨⟨_,_,(aF.weak (bZ _ 0 [15])).trans ((aF.pick (upto 0 4) rfl).trans (aEH (by kernel_rfl) (by kernel_rfl))),h⟩⟩
 ·exact⟨⟨_,_,(aF.pack (fnH t' n' (⟨pred,pw,curr,cw,tries,ul,ab,me,frm,key,limit,at',moved,sub⟩:FNS) s) (.find t' n' (⟨pred,pw,curr,cw,tries,ul,ab,me,frm,key,limit,at',moved,sub⟩:FNS)) 0 0 (pL t' n' (⟨pred,pw,curr,cw,tries,ul,ab,me,frm,key,limit,at',moved,sub⟩:FNS)) [] (by kernel_rfl) rfl (congrArg (Prod.mk 0) (FM (hat hd))) (by kernel_rfl)),h⟩⟩
theorem oT{t n:Int} :bS (obI tbl) 3 (CR t n) (FnO.fin t n):=by
 intro v g p x hp hq K hK;unfold CR at hp;split at hp
 ·rename_i r hr;cases hp;exact RS v g p x hr hq K hK
 exact RT v g p x hp hq K hK
abbrev w0y:=false=false→(0:Int)≠(4:Int)
abbrev w0z(s:MS)(x:FNS):Tr FnO:=.ret {d:=ieq (aA (aC s.3 x.1) 10 9) 0,x:= {x with pred:=0,pw:=aC s.3 x.1,curr:=aA (aC s.3 x.1) 10 9,cw:=0,tries:=W (x.5+1),ab:=ilt x.11 (W (x.5+1)),at':=1,cl:=b9},s:= {s with c:=s.4+1,k:=1,a:=x.1,o:=aC s.3 x.1,w:=aC s.3 x.1,ok:=bQ s.3 x.1} }
abbrev w11(s:MS)(x:FNS):Tr FnO:=.ret {d:=ieq (aA (aC s.3 x.1) 10 9) 0,x:= {x with pw:=aC s.3 x.1,curr:=aA (aC s.3 x.1) 10 9,cw:=0,tries:=W (x.5+1),ab:=ilt x.11 (W (x.5+1)),at':=1,cl:=b9},s:= {s with c:=s.4+1,k:=1,a:=x.1,o:=aC s.3 x.1,w:=aC s.3 x.1,ok:=bQ s.3 x.1} }
abbrev w13(s:MS)(x:FNS):=ieq (aA (aC s.3 x.1) 10 9) (0:Int)=false→(1:Int)≠(4:Int)
abbrev w14(x:FNS):=ilt x.11 (W (x.5+1))
abbrev w15(s:MS)(x:FNS):Tr FnO:=.ret {d:=false,x:= {x with pred:=x.9,pw:=0,curr:=0,cw:=0,tries:=W (x.5+1),ab:=ilt x.11 (W (x.5+1)),at':=0,moved:=0,cl:=b9},s:= {s with c:=s.4+1,k:=1,a:=x.1,o:=aC s.3 x.1,w:=aC s.3 x.1,ok:=bQ s.3 x.1} }
abbrev w16(s:MS)(x:FNS):Tr FnO:=.ret {d:=false,x:= {x with pred:=x.9,tries:=W (x.5+1),ab:=ilt x.11 (W (x.5+1)),at':=0,moved:=0,cl:=b9},s:= {s with c:=s.4+1,k:=1,a:=x.1,o:=aC s.3 x.1,w:=aC s.3 x.1,ok:=bQ s.3 x.1} }
abbrev w1e:=true=false→(0:Int)≠(4:Int)
abbrev w1f(s:MS)(x:FNS):=ieq (aA (aC s.3 x.1) 19 1) 1
def AM(t n:Int)(x:FNS)(s:MS):Tr FnO:=.pre (lE' s.3∧(0:Int)≤s.4∧s.4≤(4611686018427387904:Int)) (.pre True (.ite (w1f s x) (.ite (w14 x) (.ite (w14 x) (.pre ((t=t∧n=n)∧lE' x.6∧w1e∧lE' s.3) (.ret {d:=true,x:= {x with pred:=0,pw:=0,curr:=0,cw:=0,tries:=W (x.5+1),ab:=ilt x.11 (W (x.5+1)),at':=0,cl:=b9},s:= {s with c:=s.4+1,k:=1,a:=x.1,o:=aC s.3 x.1,w:=aC s.3 x.1,ok:=bQ s.3 x.1} })) (.pre True (.ite (w1f s x) (.pre ((t=t∧n=n)∧lE' x.6∧w0y∧lE' s.3) (w15 s x)) (.pre ((t=t∧n=n)∧lE' x.6∧(w13 s x)∧lE' s.3) (w0z s x))))) (.ite (w14 x) (.pre ((t=t∧n=n)∧lE' x.6∧w1e∧lE' s.3) (.ret {d:=true,x:= {x with tries:=W (x.5+1),ab:=ilt x.11 (W (x.5+1)),at':=0,cl:=b9},s:= {s with c:=s.4+1,k:=1,a:=x.1,o:=aC s.3 x.1,w:=aC s.3 x.1,ok:=bQ s.3 x.1} })) (.pre True (.ite (w1f s x) (.pre ((t=t∧n=n)∧lE' x.6∧w0y∧lE' s.3) (w16 s x)) (.pre ((t=t∧n=n)∧lE' x.6∧(w13 s x)∧lE' s.3) (w11 s x)))))) (.pre True (.ite (w1f s x) (.pre ((t=t∧n=n)∧lE' x.6∧w0y∧lE' s.3) (.ret {d:=false,x:= {x with pred:=x.9,at':=0,moved:=0,cl:=b9},s:= {s with c:=s.4+1,k:=1,a:=x.1,o:=aC s.3 x.1,w:=aC s.3 x.1,ok:=bQ s.3 x.1} })) (.pre ((t=t∧n=n)∧lE' x.6∧(w13 s x)∧lE' s.3) (.ret {d:=ieq (aA (aC s.3 x.1) 10 9) 0,x:= {x with pw:=aC s.3 x.1,curr:=aA (aC s.3 x.1) 10 9,cw:=0,at':=1,cl:=b9},s:= {s with c:=s.4+1,k:=1,a:=x.1,o:=aC s.3 x.1,w:=aC s.3 x.1,ok:=bQ s.3 x.1} }))))))
theorem HX(t n:Int)(x:FNS)(s:MS)(K:FnO→Prop)(h:(AM t n x s).run K):cT' 163 [.ptr 0 0,.ptr 1 0] [cE' [.I t,.I n,.I x.pred,.int .u64 x.pw,.I x.curr,.int .u64 x.cw,.I x.tries,.slice 3 0 x.ul.length 1,.bool x.ab,.I x.me,.I x.frm,.I x.key,.I x.limit,.I 0,.I x.moved,.O],bE 2 s,bF s,iI' x.ul] (bM 3 0 [15] [(.cell 0 7,.ints (some .i64))] (CR t n) K):=by
 exact cM' (E:=EC7) (by kernel_rfl) h
def AN(t n:Int)(x:FNS)(s:MS):Tr FnO:=.pre ((((0:Int)≤t∧t≤(100000:Int))∧((0:Int)≤n∧n≤(100000:Int))∧((-1099511627776:Int)≤x.8∧x.8≤(1099511627776:Int))∧(-1099511627776:Int)≤(1:Int)∧(1:Int)≤(1099511627776:Int))∧True) (.pre ((lE' s.3∧(0:Int)≤s.4∧s.4≤(4611686018427387904:Int))∧True) (.pre ((t=t∧n=n)∧lE' x.6∧(false=false→(2:Int)≠(4:Int))∧lE' (aV s.3 (2*n+5+2*x.8+1) (WU x.3))) (.ret {d:=false,x:= {x with at':=2,cl:=b9},s:= {t:=s.1,n:=s.2,xs:=aV s.3 (2*n+5+2*x.8+1) (WU x.3),c:=s.4+1,k:=2,a:=2*n+5+2*x.8+1,o:=aC s.3 (2*n+5+2*x.8+1),w:=bif bQ s.3 (2*n+5+2*x.8+1)then WU x.3 else 0,ok:=bQ s.3 (2*n+5+2*x.8+1) } })))
theorem HY(t n:Int)(x:FNS)(s:MS)(K:FnO→Prop)(h:(AN t n x s).run K):cT' 163 [.ptr 0 0,.ptr 1 0] [cE' [.I t,.I n,.I x.pred,.int .u64 x.pw,.I x.curr,.int .u64 x.cw,.I x.tries,.slice 3 0 x.ul.length 1,.bool x.ab,.I x.me,.I x.frm,.I x.key,.I x.limit,.I 1,.I x.moved,.O],bE 2 s,bF s,iI' x.ul] (bM 3 0 [15] [(.cell 0 7,.ints (some .i64))] (CR t n) K):=by
 exact cM' (E:=EC7) (by kernel_rfl) h
def AO(t n:Int)(x:FNS)(s:MS):Tr FnO:=.pre (lE' s.3∧(0:Int)≤s.4∧s.4≤(4611686018427387904:Int)) (.ite (!ieq (aC s.3 x.1) x.2) (.ite (w14 x) (.ite (w14 x) (.pre ((t=t∧n=n)∧lE' x.6∧(true=false→(2:Int)≠(4:Int))∧lE' s.3) (.ret {d:=true,x:= {x with pred:=0,pw:=0,curr:=0,cw:=0,tries:=W (x.5+1),ab:=ilt x.11 (W (x.5+1)),at':=2,cl:=b9},s:= {s with c:=s.4+1,k:=1,a:=x.1,o:=aC s.3 x.1,w:=aC s.3 x.1,ok:=bQ s.3 x.1} })) (.pre True (.ite (w1f s x) (.pre ((t=t∧n=n)∧lE' x.6∧w0y∧lE' s.3) (w15 s x)) (.pre ((t=t∧n=n)∧lE' x.6∧(w13 s x)∧lE' s.3) (w0z s x))))) (.ite (w14 x) (.pre ((t=t∧n=n)∧lE' x.6∧(true=false→(2:Int)≠(4:Int))∧lE' s.3) (.ret {d:=true,x:= {x with tries:=W (x.5+1),ab:=ilt x.11 (W (x.5+1)),at':=2,cl:=b9},s:= {s with c:=s.4+1,k:=1,a:=x.1,o:=aC s.3 x.1,w:=aC s.3 x.1,ok:=bQ s.3 x.1} })) (.pre True (.ite (w1f s x) (.pre ((t=t∧n=n)∧lE' x.6∧w0y∧lE' s.3) (w16 s x)) (.pre ((t=t∧n=n)∧lE' x.6∧(w13 s x)∧lE' s.3) (w11 s x)))))) (.pre ((t=t∧n=n)∧lE' x.6∧(false=false→(3:Int)≠(4:Int))∧lE' s.3) (.ret {d:=false,x:= {x with at':=3,cl:=b9},s:= {s with c:=s.4+1,k:=1,a:=x.1,o:=aC s.3 x.1,w:=aC s.3 x.1,ok:=bQ s.3 x.1} })))
theorem HZ(t n:Int)(x:FNS)(s:MS)(K:FnO→Prop)(h:(AO t n x s).run K):cT' 163 [.ptr 0 0,.ptr 1 0] [cE' [.I t,.I n,.I x.pred,.int .u64 x.pw,.I x.curr,.int .u64 x.cw,.I x.tries,.slice 3 0 x.ul.length 1,.bool x.ab,.I x.me,.I x.frm,.I x.key,.I x.limit,.I 2,.I x.moved,.O],bE 2 s,bF s,iI' x.ul] (bM 3 0 [15] [(.cell 0 7,.ints (some .i64))] (CR t n) K):=by
 exact cM' (E:=EC7) (by kernel_rfl) h
abbrev w17:=false=false→(4:Int)=(4:Int)
abbrev w1a(s:MS)(x:FNS):Tr FnO:=.ret {d:=false,x:= {x with cw:=aC s.3 x.3,at':=6,cl:=b9},s:= {s with c:=s.4+1,k:=1,a:=x.3,o:=aC s.3 x.3,w:=aC s.3 x.3,ok:=bQ s.3 x.3} }
abbrev w1b(s:MS)(x:FNS):Tr FnO:=.ret {d:=false,x:= {x with cw:=aC s.3 x.3,at':=5,cl:=b9},s:= {s with c:=s.4+1,k:=1,a:=x.3,o:=aC s.3 x.3,w:=aC s.3 x.3,ok:=bQ s.3 x.3} }
abbrev w1c(n:Int)(s:MS)(t:Int)(x:FNS):Tr FnO:=.ret {d:=false,x:= {x with cw:=aC s.3 x.3,at':=4,cl:=xD t n x.3},s:= {s with c:=s.4+1,k:=1,a:=x.3,o:=aC s.3 x.3,w:=aC s.3 x.3,ok:=bQ s.3 x.3} }
abbrev w1d(n:Int)(s:MS)(t:Int)(x:FNS):Tr FnO:=.ret {d:=false,x:= {x with cw:=aC s.3 x.3,at':=4,cl:=xD t n x.1},s:= {s with c:=s.4+1,k:=1,a:=x.3,o:=aC s.3 x.3,w:=aC s.3 x.3,ok:=bQ s.3 x.3} }
def AP(t n:Int)(x:FNS)(s:MS):Tr FnO:=.pre (lE' s.3∧(0:Int)≤s.4∧s.4≤(4611686018427387904:Int)) (.pre True (.ite (!ieq (aA (aC s.3 x.3) 19 1) 1) (.ite (ile x.10 (aA (aC s.3 x.3) 0 10)) (.pre ((t=t∧n=n)∧lE' x.6∧(true=false→(3:Int)≠(4:Int))∧lE' s.3) (.ret {d:=true,x:= {x with cw:=aC s.3 x.3,at':=3,cl:=b9},s:= {s with c:=s.4+1,k:=1,a:=x.3,o:=aC s.3 x.3,w:=aC s.3 x.3,ok:=bQ s.3 x.3} })) (.ite (!ieq (aA (aC s.3 x.3) 19 1) 1) (.pre ((t=t∧n=n)∧lE' x.6∧(false=false→(6:Int)≠(4:Int))∧lE' s.3) (w1a s x)) (.ite (!ieq (aA (aC s.3 x.3) 20 5) 0) (.pre (pF t n x.3∧True) (.pre ((t=t∧n=n)∧lE' x.6∧t=t∧n=n∧w17∧lE' s.3) (w1c n s t x))) (.pre True (.ite (!ieq (aA x.2 20 5) 0) (.pre (pF t n x.1∧True) (.pre ((t=t∧n=n)∧lE' x.6∧t=t∧n=n∧w17∧lE' s.3) (w1d n s t x))) (.pre ((t=t∧n=n)∧lE' x.6∧(false=false→(5:Int)≠(4:Int))∧lE' s.3) (w1b s x))))))) (.ite (!ieq (aA (aC s.3 x.3) 19 1) 1) (.pre ((t=t∧n=n)∧lE' x.6∧(false=false→(6:Int)≠(4:Int))∧lE' s.3) (w1a s x)) (.ite (!ieq (aA (aC s.3 x.3) 20 5) 0) (.pre (pF t n x.3∧True) (.pre ((t=t∧n=n)∧lE' x.6∧t=t∧n=n∧w17∧lE' s.3) (w1c n s t x))) (.pre True (.ite (!ieq (aA x.2 20 5) 0) (.pre (pF t n x.1∧True) (.pre ((t=t∧n=n)∧lE' x.6∧t=t∧n=n∧w17∧lE' s.3) (w1d n s t x))) (.pre ((t=t∧n=n)∧lE' x.6∧(false=false→(5:Int)≠(4:Int))∧lE' s.3) (w1b s x))))))))
theorem H0(t n:Int)(x:FNS)(s:MS)(K:FnO→Prop)(h:(AP t n x s).run K):cT' 163 [.ptr 0 0,.ptr 1 0] [cE' [.I t,.I n,.I x.pred,.int .u64 x.pw,.I x.curr,.int .u64 x.cw,.I x.tries,.slice 3 0 x.ul.length 1,.bool x.ab,.I x.me,.I x.frm,.I x.key,.I x.limit,.I 3,.I x.moved,.O],bE 2 s,bF s,iI' x.ul] (bM 3 0 [15] [(.cell 0 7,.ints (some .i64))] (CR t n) K):=by
 exact cM' (E:=EC7) (by kernel_rfl) h
abbrev w19(x:FNS):=ilt x.11 (W (x.5+1))=false→(0:Int)≠(4:Int)
def AQ(t n:Int)(x:FNS)(s:MS):Tr FnO:=.pre (lE' s.3∧KD t n x.14 s) (.ite (oB t n x.14 s).1 (.ite (w14 x) (.pre ((t=t∧n=n)∧lE' x.6∧(w19 x)∧lE' (ClO.s (oB t n x.14 s)).3) (.ret {d:=ilt x.11 (W (x.5+1)),x:= {x with pred:=0,pw:=0,curr:=0,cw:=0,tries:=W (x.5+1),ab:=ilt x.11 (W (x.5+1)),at':=0,cl:=b9},s:=(oB t n x.14 s).3})) (.pre ((t=t∧n=n)∧lE' x.6∧(w19 x)∧lE' (ClO.s (oB t n x.14 s)).3) (.ret {d:=ilt x.11 (W (x.5+1)),x:= {x with tries:=W (x.5+1),ab:=ilt x.11 (W (x.5+1)),at':=0,cl:=b9},s:=(oB t n x.14 s).3}))) (.pre ((t=t∧n=n)∧lE' x.6∧t=t∧n=n∧w17∧lE' (ClO.s (oB t n x.14 s)).3) (.ret {d:=false,x:= {x with at':=4,cl:=(oB t n x.14 s).2},s:=(oB t n x.14 s).3})))
theorem H1(t n:Int)(x:FNS)(s:MS)(K:FnO→Prop)(h:(AQ t n x s).run K):cT' 163 [.ptr 0 0,.ptr 1 0] [cE' [.I t,.I n,.I x.pred,.int .u64 x.pw,.I x.curr,.int .u64 x.cw,.I x.tries,.slice 3 0 x.ul.length 1,.bool x.ab,.I x.me,.I x.frm,.I x.key,.I x.limit,.I 4,.I x.moved,.ptr 4 0],bE 2 s,bF s,iI' x.ul,some (.abs (.clear t n x.cl) [])] (bM 3 0 [15] [(.cell 0 7,.ints (some .i64))] (CR t n) K):=by
 exact cM' (E:=EC7) (by kernel_rfl) h
abbrev w0w(x:FNS):=aR (aA x.2 25 18)
abbrev w0x(x:FNS):=ieq (aA x.2 19 1) 1
def AR(t n:Int)(x:FNS)(s:MS):Tr FnO:=.pre True (.pre True (.pre ((0:Int)≤aA x.2 25 18∧aA x.2 25 (18:Int)≤(1000000:Int)) (.pre True (.pre ((lE' s.3∧(0:Int)≤s.4∧s.4≤(4611686018427387904:Int))∧True) (.ite (!aT s.3 x.1 x.2) (.ite (w14 x) (.pre ((t=t∧n=n)∧lE' x.6∧(w19 x)∧lE' (bif aT s.3 x.1 x.2 then aV s.3 x.1 (bif bif aK (aA x.2 0 10) 10 then bif aK (aA x.4 10 9) 9 then bif aK (aA x.2 20 5) 5 then aK (w0w x) 18 else false else false else false then cK (aA x.2 0 10) (aA x.4 10 9) (w0x x) (aA x.2 20 5) (w0w x)else 0)else s.3)) (.ret {d:=ilt x.11 (W (x.5+1)),x:= {x with pred:=0,pw:=0,curr:=0,cw:=0,tries:=W (x.5+1),ab:=ilt x.11 (W (x.5+1)),at':=0,cl:=b9},s:= {t:=s.1,n:=s.2,xs:=bif aT s.3 x.1 x.2 then aV s.3 x.1 (bif bif aK (aA x.2 0 10) 10 then bif aK (aA x.4 10 9) 9 then bif aK (aA x.2 20 5) 5 then aK (w0w x) 18 else false else false else false then cK (aA x.2 0 10) (aA x.4 10 9) (w0x x) (aA x.2 20 5) (w0w x)else 0)else s.3,c:=s.4+1,k:=3,a:=x.1,o:=aC s.3 x.1,w:=bif bQ s.3 x.1 then bif bif aK (aA x.2 0 10) 10 then bif aK (aA x.4 10 9) 9 then bif aK (aA x.2 20 5) 5 then aK (w0w x) 18 else false else false else false then cK (aA x.2 0 10) (aA x.4 10 9) (w0x x) (aA x.2 20 5) (w0w x)else 0 else 0,ok:=aT s.3 x.1 x.2} })) (.pre ((t=t∧n=n)∧lE' x.6∧(w19 x)∧lE' (bif aT s.3 x.1 x.2 then aV s.3 x.1 (bif bif aK (aA x.2 0 10) 10 then bif aK (aA x.4 10 9) 9 then bif aK (aA x.2 20 5) 5 then aK (w0w x) 18 else false else false else false then cK (aA x.2 0 10) (aA x.4 10 9) (w0x x) (aA x.2 20 5) (w0w x)else 0)else s.3)) (.ret {d:=ilt x.11 (W (x.5+1)),x:= {x with tries:=W (x.5+1),ab:=ilt x.11 (W (x.5+1)),at':=0,cl:=b9},s:= {t:=s.1,n:=s.2,xs:=bif aT s.3 x.1 x.2 then aV s.3 x.1 (bif bif aK (aA x.2 0 10) 10 then bif aK (aA x.4 10 9) 9 then bif aK (aA x.2 20 5) 5 then aK (w0w x) 18 else false else false else false then cK (aA x.2 0 10) (aA x.4 10 9) (w0x x) (aA x.2 20 5) (w0w x)else 0)else s.3,c:=s.4+1,k:=3,a:=x.1,o:=aC s.3 x.1,w:=bif bQ s.3 x.1 then bif bif aK (aA x.2 0 10) 10 then bif aK (aA x.4 10 9) 9 then bif aK (aA x.2 20 5) 5 then aK (w0w x) 18 else false else false else false then cK (aA x.2 0 10) (aA x.4 10 9) (w0x x) (aA x.2 20 5) (w0w x)else 0 else 0,ok:=aT s.3 x.1 x.2} }))) (.pre (0=0∧lE' x.6∧1=1∧x.6.length+(1:Nat)≤(4294967296:Nat)) (.ite (ile (W (x.13+1)) n) (.pre True (.ite (ieq (aA (bif bif aK (aA x.2 0 10) 10 then bif aK (aA x.4 10 9) 9 then bif aK (aA x.2 20 5) 5 then aK (w0w x) 18 else false else false else false then cK (aA x.2 0 10) (aA x.4 10 9) (w0x x) (aA x.2 20 5) (w0w x)else 0) 19 1) 1) (.pre ((t=t∧n=n)∧x.6.length+(1:Nat)=List.length (x.6++ [x.3])∧w0y∧lE' (bif aT s.3 x.1 x.2 then aV s.3 x.1 (bif bif aK (aA x.2 0 10) 10 then bif aK (aA x.4 10 9) 9 then bif aK (aA x.2 20 5) 5 then aK (w0w x) 18 else false else false else false then cK (aA x.2 0 10) (aA x.4 10 9) (w0x x) (aA x.2 20 5) (w0w x)else 0)else s.3)) (.ret {d:=false,x:= {x with pred:=x.9,ul:=x.6++ [x.3],at':=0,moved:=0,cl:=b9},s:= {t:=s.1,n:=s.2,xs:=bif aT s.3 x.1 x.2 then aV s.3 x.1 (bif bif aK (aA x.2 0 10) 10 then bif aK (aA x.4 10 9) 9 then bif aK (aA x.2 20 5) 5 then aK (w0w x) 18 else false else false else false then cK (aA x.2 0 10) (aA x.4 10 9) (w0x x) (aA x.2 20 5) (w0w x)else 0)else s.3,c:=s.4+1,k:=3,a:=x.1,o:=aC s.3 x.1,w:=bif bQ s.3 x.1 then bif bif aK (aA x.2 0 10) 10 then bif aK (aA x.4 10 9) 9 then bif aK (aA x.2 20 5) 5 then aK (w0w x) 18 else false else false else false then cK (aA x.2 0 10) (aA x.4 10 9) (w0x x) (aA x.2 20 5) (w0w x)else 0 else 0,ok:=aT s.3 x.1 x.2} })) (.pre ((t=t∧n=n)∧x.6.length+(1:Nat)=List.length (x.6++ [x.3])∧(ieq (aA (bif bif aK (aA x.2 0 10) 10 then bif aK (aA x.4 10 9) 9 then bif aK (aA x.2 20 5) 5 then aK (w0w x) 18 else false else false else false then cK (aA x.2 0 10) (aA x.4 10 9) (w0x x) (aA x.2 20 5) (w0w x)else 0) 10 9) (0:Int)=false→(1:Int)≠(4:Int))∧lE' (bif aT s.3 x.1 x.2 then aV s.3 x.1 (bif bif aK (aA x.2 0 10) 10 then bif aK (aA x.4 10 9) 9 then bif aK (aA x.2 20 5) 5 then aK (w0w x) 18 else false else false else false then cK (aA x.2 0 10) (aA x.4 10 9) (w0x x) (aA x.2 20 5) (w0w x)else 0)else s.3)) (.ret {d:=ieq (aA (bif bif aK (aA x.2 0 10) 10 then bif aK (aA x.4 10 9) 9 then bif aK (aA x.2 20 5) 5 then aK (w0w x) 18 else false else false else false then cK (aA x.2 0 10) (aA x.4 10 9) (w0x x) (aA x.2 20 5) (w0w x)else 0) 10 9) 0,x:= {x with pw:=bif bif aK (aA x.2 0 10) 10 then bif aK (aA x.4 10 9) 9 then bif aK (aA x.2 20 5) 5 then aK (w0w x) 18 else false else false else false then cK (aA x.2 0 10) (aA x.4 10 9) (w0x x) (aA x.2 20 5) (w0w x)else 0,curr:=aA (bif bif aK (aA x.2 0 10) 10 then bif aK (aA x.4 10 9) 9 then bif aK (aA x.2 20 5) 5 then aK (w0w x) 18 else false else false else false then cK (aA x.2 0 10) (aA x.4 10 9) (w0x x) (aA x.2 20 5) (w0w x)else 0) 10 9,cw:=0,ul:=x.6++ [x.3],at':=1,moved:=W (x.13+1),cl:=b9},s:= {t:=s.1,n:=s.2,xs:=bif aT s.3 x.1 x.2 then aV s.3 x.1 (bif bif aK (aA x.2 0 10) 10 then bif aK (aA x.4 10 9) 9 then bif aK (aA x.2 20 5) 5 then aK (w0w x) 18 else false else false else false then cK (aA x.2 0 10) (aA x.4 10 9) (w0x x) (aA x.2 20 5) (w0w x)else 0)else s.3,c:=s.4+1,k:=3,a:=x.1,o:=aC s.3 x.1,w:=bif bQ s.3 x.1 then bif bif aK (aA x.2 0 10) 10 then bif aK (aA x.4 10 9) 9 then bif aK (aA x.2 20 5) 5 then aK (w0w x) 18 else false else false else false then cK (aA x.2 0 10) (aA x.4 10 9) (w0x x) (aA x.2 20 5) (w0w x)else 0 else 0,ok:=aT s.3 x.1 x.2} })))) (.ite (w14 x) (.ite (w14 x) (.pre ((t=t∧n=n)∧x.6.length+(1:Nat)=List.length (x.6++ [x.3])∧(true=false→(5:Int)≠(4:Int))∧lE' (bif aT s.3 x.1 x.2 then aV s.3 x.1 (bif bif aK (aA x.2 0 10) 10 then bif aK (aA x.4 10 9) 9 then bif aK (aA x.2 20 5) 5 then aK (w0w x) 18 else false else false else false then cK (aA x.2 0 10) (aA x.4 10 9) (w0x x) (aA x.2 20 5) (w0w x)else 0)else s.3)) (.ret {d:=true,x:= {x with pred:=0,pw:=0,curr:=0,cw:=0,tries:=W (x.5+1),ul:=x.6++ [x.3],ab:=ilt x.11 (W (x.5+1)),at':=5,moved:=W (x.13+1),cl:=b9},s:= {t:=s.1,n:=s.2,xs:=bif aT s.3 x.1 x.2 then aV s.3 x.1 (bif bif aK (aA x.2 0 10) 10 then bif aK (aA x.4 10 9) 9 then bif aK (aA x.2 20 5) 5 then aK (w0w x) 18 else false else false else false then cK (aA x.2 0 10) (aA x.4 10 9) (w0x x) (aA x.2 20 5) (w0w x)else 0)else s.3,c:=s.4+1,k:=3,a:=x.1,o:=aC s.3 x.1,w:=bif bQ s.3 x.1 then bif bif aK (aA x.2 0 10) 10 then bif aK (aA x.4 10 9) 9 then bif aK (aA x.2 20 5) 5 then aK (w0w x) 18 else false else false else false then cK (aA x.2 0 10) (aA x.4 10 9) (w0x x) (aA x.2 20 5) (w0w x)else 0 else 0,ok:=aT s.3 x.1 x.2} })) (.pre ((t=t∧n=n)∧x.6.length+(1:Nat)=List.length (x.6++ [x.3])∧w0y∧lE' (bif aT s.3 x.1 x.2 then aV s.3 x.1 (bif bif aK (aA x.2 0 10) 10 then bif aK (aA x.4 10 9) 9 then bif aK (aA x.2 20 5) 5 then aK (w0w x) 18 else false else false else false then cK (aA x.2 0 10) (aA x.4 10 9) (w0x x) (aA x.2 20 5) (w0w x)else 0)else s.3)) (.ret {d:=false,x:= {x with pred:=x.9,pw:=0,curr:=0,cw:=0,tries:=W (x.5+1),ul:=x.6++ [x.3],ab:=ilt x.11 (W (x.5+1)),at':=0,moved:=0,cl:=b9},s:= {t:=s.1,n:=s.2,xs:=bif aT s.3 x.1 x.2 then aV s.3 x.1 (bif bif aK (aA x.2 0 10) 10 then bif aK (aA x.4 10 9) 9 then bif aK (aA x.2 20 5) 5 then aK (w0w x) 18 else false else false else false then cK (aA x.2 0 10) (aA x.4 10 9) (w0x x) (aA x.2 20 5) (w0w x)else 0)else s.3,c:=s.4+1,k:=3,a:=x.1,o:=aC s.3 x.1,w:=bif bQ s.3 x.1 then bif bif aK (aA x.2 0 10) 10 then bif aK (aA x.4 10 9) 9 then bif aK (aA x.2 20 5) 5 then aK (w0w x) 18 else false else false else false then cK (aA x.2 0 10) (aA x.4 10 9) (w0x x) (aA x.2 20 5) (w0w x)else 0 else 0,ok:=aT s.3 x.1 x.2} }))) (.ite (w14 x) (.pre ((t=t∧n=n)∧x.6.length+(1:Nat)=List.length (x.6++ [x.3])∧(true=false→(5:Int)≠(4:Int))∧lE' (bif aT s.3 x.1 x.2 then aV s.3 x.1 (bif bif aK (aA x.2 0 10) 10 then bif aK (aA x.4 10 9) 9 then bif aK (aA x.2 20 5) 5 then aK (w0w x) 18 else false else false else false then cK (aA x.2 0 10) (aA x.4 10 9) (w0x x) (aA x.2 20 5) (w0w x)else 0)else s.3)) (.ret {d:=true,x:= {x with tries:=W (x.5+1),ul:=x.6++ [x.3],ab:=ilt x.11 (W (x.5+1)),at':=5,moved:=W (x.13+1),cl:=b9},s:= {t:=s.1,n:=s.2,xs:=bif aT s.3 x.1 x.2 then aV s.3 x.1 (bif bif aK (aA x.2 0 10) 10 then bif aK (aA x.4 10 9) 9 then bif aK (aA x.2 20 5) 5 then aK (w0w x) 18 else false else false else false then cK (aA x.2 0 10) (aA x.4 10 9) (w0x x) (aA x.2 20 5) (w0w x)else 0)else s.3,c:=s.4+1,k:=3,a:=x.1,o:=aC s.3 x.1,w:=bif bQ s.3 x.1 then bif bif aK (aA x.2 0 10) 10 then bif aK (aA x.4 10 9) 9 then bif aK (aA x.2 20 5) 5 then aK (w0w x) 18 else false else false else false then cK (aA x.2 0 10) (aA x.4 10 9) (w0x x) (aA x.2 20 5) (w0w x)else 0 else 0,ok:=aT s.3 x.1 x.2} })) (.pre ((t=t∧n=n)∧x.6.length+(1:Nat)=List.length (x.6++ [x.3])∧w0y∧lE' (bif aT s.3 x.1 x.2 then aV s.3 x.1 (bif bif aK (aA x.2 0 10) 10 then bif aK (aA x.4 10 9) 9 then bif aK (aA x.2 20 5) 5 then aK (w0w x) 18 else false else false else false then cK (aA x.2 0 10) (aA x.4 10 9) (w0x x) (aA x.2 20 5) (w0w x)else 0)else s.3)) (.ret {d:=false,x:= {x with pred:=x.9,tries:=W (x.5+1),ul:=x.6++ [x.3],ab:=ilt x.11 (W (x.5+1)),at':=0,moved:=0,cl:=b9},s:= {t:=s.1,n:=s.2,xs:=bif aT s.3 x.1 x.2 then aV s.3 x.1 (bif bif aK (aA x.2 0 10) 10 then bif aK (aA x.4 10 9) 9 then bif aK (aA x.2 20 5) 5 then aK (w0w x) 18 else false else false else false then cK (aA x.2 0 10) (aA x.4 10 9) (w0x x) (aA x.2 20 5) (w0w x)else 0)else s.3,c:=s.4+1,k:=3,a:=x.1,o:=aC s.3 x.1,w:=bif bQ s.3 x.1 then bif bif aK (aA x.2 0 10) 10 then bif aK (aA x.4 10 9) 9 then bif aK (aA x.2 20 5) 5 then aK (w0w x) 18 else false else false else false then cK (aA x.2 0 10) (aA x.4 10 9) (w0x x) (aA x.2 20 5) (w0w x)else 0 else 0,ok:=aT s.3 x.1 x.2} })))))))))))
theorem H2(t n:Int)(x:FNS)(s:MS)(K:FnO→Prop)(h:(AR t n x s).run K):cT' 163 [.ptr 0 0,.ptr 1 0] [cE' [.I t,.I n,.I x.pred,.int .u64 x.pw,.I x.curr,.int .u64 x.cw,.I x.tries,.slice 3 0 x.ul.length 1,.bool x.ab,.I x.me,.I x.frm,.I x.key,.I x.limit,.I 5,.I x.moved,.O],bE 2 s,bF s,iI' x.ul] (bM 3 0 [15] [(.cell 0 7,.ints (some .i64))] (CR t n) K):=by
 exact cM' (E:=EC7) (by kernel_rfl) h
abbrev w1g(n:Int)(s:MS)(x:FNS):=aV s.3 (2*n+5+2*x.8+0) (WU x.3)
def AS(t n:Int)(x:FNS)(s:MS):Tr FnO:=.pre ((((0:Int)≤t∧t≤(100000:Int))∧((0:Int)≤n∧n≤(100000:Int))∧((-1099511627776:Int)≤x.8∧x.8≤(1099511627776:Int))∧(-1099511627776:Int)≤(0:Int)∧(0:Int)≤(1099511627776:Int))∧True) (.pre ((lE' s.3∧(0:Int)≤s.4∧s.4≤(4611686018427387904:Int))∧True) (.ite (ile (W (x.13+1)) n) (.pre ((t=t∧n=n)∧lE' x.6∧w0y∧lE' (w1g n s x)) (.ret {d:=false,x:= {x with pred:=x.3,at':=0,moved:=W (x.13+1),cl:=b9},s:= {t:=s.1,n:=s.2,xs:=aV s.3 (2*n+5+2*x.8+0) (WU x.3),c:=s.4+1,k:=2,a:=2*n+5+2*x.8+0,o:=aC s.3 (2*n+5+2*x.8+0),w:=bif bQ s.3 (2*n+5+2*x.8+0)then WU x.3 else 0,ok:=bQ s.3 (2*n+5+2*x.8+0) } })) (.ite (w14 x) (.ite (w14 x) (.pre ((t=t∧n=n)∧lE' x.6∧w1e∧lE' (w1g n s x)) (.ret {d:=true,x:= {x with pred:=0,pw:=0,curr:=0,cw:=0,tries:=W (x.5+1),ab:=ilt x.11 (W (x.5+1)),at':=0,moved:=W (x.13+1),cl:=b9},s:= {t:=s.1,n:=s.2,xs:=aV s.3 (2*n+5+2*x.8+0) (WU x.3),c:=s.4+1,k:=2,a:=2*n+5+2*x.8+0,o:=aC s.3 (2*n+5+2*x.8+0),w:=bif bQ s.3 (2*n+5+2*x.8+0)then WU x.3 else 0,ok:=bQ s.3 (2*n+5+2*x.8+0) } })) (.pre ((t=t∧n=n)∧lE' x.6∧w0y∧lE' (w1g n s x)) (.ret {d:=false,x:= {x with pred:=x.9,pw:=0,curr:=0,cw:=0,tries:=W (x.5+1),ab:=ilt x.11 (W (x.5+1)),at':=0,moved:=0,cl:=b9},s:= {t:=s.1,n:=s.2,xs:=aV s.3 (2*n+5+2*x.8+0) (WU x.3),c:=s.4+1,k:=2,a:=2*n+5+2*x.8+0,o:=aC s.3 (2*n+5+2*x.8+0),w:=bif bQ s.3 (2*n+5+2*x.8+0)then WU x.3 else 0,ok:=bQ s.3 (2*n+5+2*x.8+0) } }))) (.ite (w14 x) (.pre ((t=t∧n=n)∧lE' x.6∧w1e∧lE' (w1g n s x)) (.ret {d:=true,x:= {x with pred:=x.3,tries:=W (x.5+1),ab:=ilt x.11 (W (x.5+1)),at':=0,moved:=W (x.13+1),cl:=b9},s:= {t:=s.1,n:=s.2,xs:=aV s.3 (2*n+5+2*x.8+0) (WU x.3),c:=s.4+1,k:=2,a:=2*n+5+2*x.8+0,o:=aC s.3 (2*n+5+2*x.8+0),w:=bif bQ s.3 (2*n+5+2*x.8+0)then WU x.3 else 0,ok:=bQ s.3 (2*n+5+2*x.8+0) } })) (.pre ((t=t∧n=n)∧lE' x.6∧w0y∧lE' (w1g n s x)) (.ret {d:=false,x:= {x with pred:=x.9,tries:=W (x.5+1),ab:=ilt x.11 (W (x.5+1)),at':=0,moved:=0,cl:=b9},s:= {t:=s.1,n:=s.2,xs:=aV s.3 (2*n+5+2*x.8+0) (WU x.3),c:=s.4+1,k:=2,a:=2*n+5+2*x.8+0,o:=aC s.3 (2*n+5+2*x.8+0),w:=bif bQ s.3 (2*n+5+2*x.8+0)then WU x.3 else 0,ok:=bQ s.3 (2*n+5+2*x.8+0) } }))))))
theorem H3(t n:Int)(x:FNS)(s:MS)(K:FnO→Prop)(h:(AS t n x s).run K):cT' 163 [.ptr 0 0,.ptr 1 0] [cE' [.I t,.I n,.I x.pred,.int .u64 x.pw,.I x.curr,.int .u64 x.cw,.I x.tries,.slice 3 0 x.ul.length 1,.bool x.ab,.I x.me,.I x.frm,.I x.key,.I x.limit,.I 6,.I x.moved,.O],bE 2 s,bF s,iI' x.ul] (bM 3 0 [15] [(.cell 0 7,.ints (some .i64))] (CR t n) K):=by
 exact cM' (E:=EC7) (by kernel_rfl) h
def fnT(t n:Int)(x:FNS)(s:MS):Tr FnO:=
 bif ieq x.at' 0 then AM t n x s else
 bif ieq x.at' 1 then AN t n x s else
 bif ieq x.at' 2 then AO t n x s else
 bif ieq x.at' 3 then AP t n x s else
 bif ieq x.at' 4 then AQ t n x s else
 bif ieq x.at' 5 then AR t n x s else
 bif ieq x.at' 6 then AS t n x s else .pre False (.ret default)
def aN(t n:Int)(x:FNS)(s:MS):FnO:=(fnT t n x s).val
def HW(t n:Int)(x:FNS)(s:MS):Prop:=(fnT t n x s).ok
theorem RV(t n:Int)(x:FNS)(s:MS)(K:AVal→aD Ob→Prop)(h:(fnT t n x s).run (fun y=>(FnO.fin t n y).run K)):cT' 163 [.ptr 0 0,.ptr 1 0] (fnH t n x s) K:=by
 unfold fnT at h
 by_cases e:x.at'=0
 ·rw [e]at h;have h:(AM t n x s).run _:=h;refine aEB (root:=0) (pos:=[15]) (cs:=[(.cell 0 7,.ints (some .i64))]) (parse:=CR t n) (fin:=FnO.fin t n) oT (aS.unpack (.find t n x) 0 0 (kU t n x) [] rfl (congrArg (Prod.mk 0) (iF (by omega))) (by kernel_rfl) rfl) ?_
  have q:=HX t n x s _ h;rw [←e]at q;exact q
 rw [bI e]at h
 by_cases e:x.at'=1
 ·rw [e]at h;have h:(AN t n x s).run _:=h;refine aEB (root:=0) (pos:=[15]) (cs:=[(.cell 0 7,.ints (some .i64))]) (parse:=CR t n) (fin:=FnO.fin t n) oT (aS.unpack (.find t n x) 0 0 (kU t n x) [] rfl (congrArg (Prod.mk 0) (iF (by omega))) (by kernel_rfl) rfl) ?_
  have q:=HY t n x s _ h;rw [←e]at q;exact q
 rw [bI e]at h
 by_cases e:x.at'=2
 ·rw [e]at h;have h:(AO t n x s).run _:=h;refine aEB (root:=0) (pos:=[15]) (cs:=[(.cell 0 7,.ints (some .i64))]) (parse:=CR t n) (fin:=FnO.fin t n) oT (aS.unpack (.find t n x) 0 0 (kU t n x) [] rfl (congrArg (Prod.mk 0) (iF (by omega))) (by kernel_rfl) rfl) ?_
  have q:=HZ t n x s _ h;rw [←e]at q;exact q
 rw [bI e]at h
 by_cases e:x.at'=3
 ·rw [e]at h;have h:(AP t n x s).run _:=h;refine aEB (root:=0) (pos:=[15]) (cs:=[(.cell 0 7,.ints (some .i64))]) (parse:=CR t n) (fin:=FnO.fin t n) oT (aS.unpack (.find t n x) 0 0 (kU t n x) [] rfl (congrArg (Prod.mk 0) (iF (by omega))) (by kernel_rfl) rfl) ?_
  have q:=H0 t n x s _ h;rw [←e]at q;exact q
 rw [bI e]at h
 by_cases e:x.at'=4
 ·rw [e]at h;have h:(AQ t n x s).run _:=h;refine aEB (root:=0) (pos:=[15]) (cs:=[(.cell 0 7,.ints (some .i64))]) (parse:=CR t n) (fin:=FnO.fin t n) oT (aS.unpack (.find t n x) 0 0 (pL t n x) [] rfl (congrArg (Prod.mk 0) (FM e)) (by kernel_rfl) rfl) ?_
  have q:=H1 t n x s _ h;rw [←e]at q;exact q
 rw [bI e]at h
 by_cases e:x.at'=5
 ·rw [e]at h;have h:(AR t n x s).run _:=h;refine aEB (root:=0) (pos:=[15]) (cs:=[(.cell 0 7,.ints (some .i64))]) (parse:=CR t n) (fin:=FnO.fin t n) oT (aS.unpack (.find t n x) 0 0 (kU t n x) [] rfl (congrArg (Prod.mk 0) (iF (by omega))) (by kernel_rfl) rfl) ?_
  have q:=H2 t n x s _ h;rw [←e]at q;exact q
 rw [bI e]at h
 by_cases e:x.at'=6
 ·rw [e]at h;have h:(AS t n x s).run _:=h;refine aEB (root:=0) (pos:=[15]) (cs:=[(.cell 0 7,.ints (some .i64))]) (parse:=CR t n) (fin:=FnO.fin t n) oT (aS.unpack (.find t n x) 0 0 (kU t n x) [] rfl (congrArg (Prod.mk 0) (iF (by omega))) (by kernel_rfl) rfl) ?_
  have q:=H3 t n x s _ h;rw [←e]at q;exact q
 rw [bI e]at h;exact h.1.elim
noncomputable def fnS:aI Ob:=fun args h=>match args,h with
 | [.ptr 0 0,.ptr 1 0],[some (.abs (.find t n x) []),e1,e2]=>(match cL 2 [e1,e2]with
   | some (l,s)=>some (.pre (l=s.xs.length∧HW t n x s) (FnO.fin t n (aN t n x s)))
   | none=>none)
 | _,_=>none
theorem aCg:sT' 163 fnS:=by
 intro args h o ho K hK;unfold fnS at ho;split at ho
 case h_2=>cases ho
 split at ho<;>cases ho
 rename_i hm;obtain⟨⟨hl,ok⟩,hK⟩:=hK;have hh:=bB hm hl;cases hh;exact RV _ _ _ _ K (aEG ok hK)
def Y3(t n:Int)(v:AVal)(g:aD Ob):Option (Prop×FNS):=match v,g with
 | .ptr 0 0,[some (.cells [.int .i64 t1,.int .i64 n1,.int .i64 pred,.int .u64 pw,.int .i64 curr,.int .u64 cw,.int .i64 tries,.slice 1 0 ul_l 1,.bool ab,.int .i64 me,.int .i64 frm,.int .i64 key,.int .i64 limit,.int .i64 at',.int .i64 moved,.O]),some (.ints (some .i64) ul)]=>some ((t1=t∧n1=n)∧ul_l=ul.length∧(at'≠4),(⟨pred,pw,curr,cw,tries,ul,ab,me,frm,key,limit,at',moved,⟨0,0,0,0⟩⟩:FNS))
 | _,_=>none
abbrev RQ(t n:Int)(y:FNS):aD Ob:=[some (.abs (.find t n y) [])]
theorem RR{t n:Int} :bS (obI tbl) 0 (Y3 t n) (fun y=>.ret (.ptr 0 0) (RQ t n y)):=by
 intro v g p x hp hq K hK;unfold Y3 at hp;split at hp
 case h_2=>cases hp
 rename_i t1 n1 pred pw curr cw tries ul_l ab me frm key limit at' moved ul;simp only [sI',pI']at hp;obtain⟨rfl,rfl⟩:=hp;obtain⟨⟨rfl,rfl⟩,rfl,hat⟩:=hq;exact⟨⟨_,_,aF.pack (RQ t1 n1 (⟨pred,pw,curr,cw,tries,ul,ab,me,frm,key,limit,at',moved,⟨0,0,0,0⟩⟩:FNS)) (.find t1 n1 (⟨pred,pw,curr,cw,tries,ul,ab,me,frm,key,limit,at',moved,⟨0,0,0,0⟩⟩:FNS)) 0 0 (kU t1 n1 (⟨pred,pw,curr,cw,tries,ul,ab,me,frm,key,limit,at',moved,⟨0,0,0,0⟩⟩:FNS)) [] (by kernel_rfl) rfl (congrArg (Prod.mk 0) (iF hat)) (by kernel_rfl),hK⟩⟩
abbrev w1h(hd n:Int):=((0:Int)≤n∧n≤(100000:Int))∧(-1000000:Int)≤hd∧hd≤(1000000:Int)
def LG(t n:Int)(me hd key lim:Int):Tr FNS:=.pre (w1h hd n) (.pre (w1h hd n) (.pre ((t=t∧n=n)∧0=0∧(0:Int)≠(4:Int)) (.ret {pred:=n+1+hd,pw:=0,curr:=0,cw:=0,tries:=0,ul:=[],ab:=false,me:=me,frm:=n+1+hd,key:=key,limit:=lim,at':=0,moved:=0,cl:=b9})))
def tP(t n:Int)(me hd key lim:Int):FNS:=(LG t n me hd key lim).val
def oC(t n:Int)(me hd key lim:Int):Prop:=(LG t n me hd key lim).ok
def fnNS:aI Ob:=fun args h=>match args,h with
 | [.agg [.int .i64 t,.int .i64 n],.int .i64 me,.int .i64 hd,.int .i64 key,.int .i64 lim],[]=>some (.pre (oC t n me hd key lim) (.ret (.ptr 0 0) (RQ t n (tP t n me hd key lim))))
 | _,_=>none
theorem Y4:sT' 227 fnNS:=by
 intro args h o ho K hK;unfold fnNS at ho;split at ho<;>cases ho
 rename_i t n me hd key lim;obtain⟨ok,hK⟩:=hK;refine aEL (root:=0) (pos:=[15]) (cs:=[(.cell 0 7,.ints (some .i64))]) (parse:=Y3 t n) RR ?_;exact cM' (E:=EC7) (q:=(LG t n me hd key lim).run (fun y=>(Out.ret (.ptr 0 0) (RQ t n y)).run K)) (by kernel_rfl) (aEG ok hK)
noncomputable def EF:=((EC7.addS 163 fnS aCg).addS 227 fnNS Y4)
def retC:aI Ob:=fun args h=>match args,h with
 | [.ptr 0 0,.slice 2 0 k 1],[e1,e2,some (.cells [.int .i64 p])]=>(match lB 1 [e1,e2]with
   | some (l,t,n,st)=>some (.pre (l=st.R.length∧k=1∧st.R.length+1≤4294967296) (.ret (.tup []) [cE' [.I t,.I n,.I st.me,.I st.sp,.slice 3 0 (st.R.length+1) 1],none,cE' [.I p],iI' (st.R++ [p])]))
   | none=>none)
 | _,_=>none
theorem T6:sT' 164 retC:=by
 intro args h o ho K hK;unfold retC at ho;split at ho
 case h_2=>cases ho
 rename_i k e1 e2 p;split at ho<;>cases ho
 rename_i l t n st hs;obtain⟨⟨hl,rfl,hle⟩,hK⟩:=hK;have hh:=cB hs hl;cases hh;refine aEA (cM' (E:=EF) (q:=(0=0∧lE' st.3∧1=1∧st.3.length+(1:Nat)≤(4294967296:Nat))∧K (.tup []) [cE' [.I t,.I n,.I st.1,.I st.2,.slice 3 0 (st.3.length+1) 1],none,cE' [.I p],iI' (st.3++ [p])]) (by kernel_rfl) ?_)
 exact⟨⟨rfl,rfl,rfl,hle⟩,hK⟩
def retI:aI Ob:=fun args h=>match args,h with
 | [.ptr 0 0,.slice 2 0 k 1],[e1,e2,some (.ints (some .i64) xs)]=>(match lB 1 [e1,e2]with
   | some (l,t,n,st)=>some (.pre (l=st.R.length∧k=xs.length∧st.R.length+xs.length≤4294967296) (.ret (.tup []) [cE' [.I t,.I n,.I st.me,.I st.sp,.slice 3 0 (st.R.length+xs.length) 1],none,iI' xs,iI' (st.R++xs)]))
   | none=>none)
 | _,_=>none
theorem T7:sT' 164 retI:=by
 intro args h o ho K hK;unfold retI at ho;split at ho
 case h_2=>cases ho
 rename_i k e1 e2 xs;split at ho<;>cases ho
 rename_i l t n st hs;obtain⟨⟨hl,rfl,hle⟩,hK⟩:=hK;have hh:=cB hs hl;cases hh;refine aEA (cM' (E:=EF) (q:=(0+xs.length≤xs.length∧0=0∧lE' st.3∧1=1∧st.3.length+xs.length≤(4294967296:Nat))∧K (.tup []) [cE' [.I t,.I n,.I st.1,.I st.2,.slice 3 0 (st.3.length+xs.length) 1],none,iI' xs,iI' (st.3++List.take xs.length (List.drop 0 xs))]) (by kernel_rfl) ?_)
 refine⟨⟨by omega,rfl,rfl,rfl,hle⟩,?_⟩
 rw [List.drop_zero,List.take_length];exact hK
noncomputable def retS:aI Ob:=aI.or retC retI
theorem aAK:sT' 164 retS:=aEZ T6 T7
noncomputable def ER:=EF.addS 164 retS aAK
structure FtO where
 d:Bool
 x:FTS
 st:STS
 s:MS
instance:Inhabited FtO:=⟨⟨false,bO,⟨0,0,[]⟩,⟨0,0,[],0,0,0,0,0,false⟩⟩⟩
instance:Inhabited FTS:=⟨bO⟩
abbrev O0(t n:Int)(x:FTS)(st:STS)(s:MS):aD Ob:=[some (.abs (.fast t n x) [1]),some (.abs (.store t n st) []),bE 3 s,bF s]
abbrev VH(t n:Int)(x:FTS)(st:STS)(s:MS):aD Ob:=[cE' [.ptr 1 0,.I x.code,.bool x.okk,.I x.val,.bool x.failed,.I x.tries,.I x.sh,.I x.kd,.I x.ky,.I x.most,.I x.at',.bool x.p.now,.I x.p.code,.bool x.p.okk,.I x.p.val,.I x.p.addr,.int .u64 x.p.old,.I x.p.nxt,.bool x.p.mark,.I x.p.pops,.O,.O,.O],some (.abs (.store t n st) []),bE 3 s,bF s]
def FtO.fin(t n:Int)(y:FtO):Out Ob:=.ite y.d (.ret (.bool true) (VH t n y.x y.st y.s)) (.ret (.bool false) (O0 t n y.x y.st y.s))
def Y9(t n:Int)(v:AVal)(g:aD Ob):Option (Prop×FtO):=match v,g with
 | .bool d,[some (.cells [.ptr 1 0,.int .i64 code,.bool okk,.int .i64 val,.bool failed,.int .i64 tries,.int .i64 sh,.int .i64 kd,.int .i64 ky,.int .i64 most,.int .i64 at',.bool p_now,.int .i64 p_code,.bool p_okk,.int .i64 p_val,.int .i64 p_addr,.int .u64 p_old,.int .i64 p_nxt,.bool p_mark,.int .i64 p_pops,.O,.O,.O]),e1,e3,e4,e2]=>(match lB 4 [e1,e2],cL 3 [e3,e4]with
   | some (l2,t2,n2,st),some (l,s)=>some ((t2=t∧n2=n)∧(d=false→at'≠0∧at'≠1∧at'≠2)∧l=s.xs.length∧l2=st.R.length,⟨d,⟨code,okk,val,failed,tries,sh,kd,ky,most,at',⟨p_now,p_code,p_okk,p_val,p_addr,p_old,p_nxt,p_mark,p_pops⟩,aQ,⟨0,0,0,0⟩,⟨0,0,0,false⟩⟩,st,s⟩)
   | _,_=>none)
 | _,_=>none
def ZA(t n:Int)(v:AVal)(g:aD Ob):Option (Prop×FtO):=match v,g with
 | .bool d,[some (.cells [.ptr 1 0,.int .i64 code,.bool okk,.int .i64 val,.bool failed,.int .i64 tries,.int .i64 sh,.int .i64 kd,.int .i64 ky,.int .i64 most,.int .i64 at',.bool p_now,.int .i64 p_code,.bool p_okk,.int .i64 p_val,.int .i64 p_addr,.int .u64 p_old,.int .i64 p_nxt,.bool p_mark,.int .i64 p_pops,.ptr 4 0,.O,.O]),e1,e3,e4,some (.abs (.find t' n' sub) []),e2]=>(match lB 5 [e1,e2],cL 3 [e3,e4]with
   | some (l2,t2,n2,st),some (l,s)=>some ((t2=t∧n2=n)∧t'=t∧n'=n∧(d=false→at'=0)∧l=s.xs.length∧l2=st.R.length,⟨d,⟨code,okk,val,failed,tries,sh,kd,ky,most,at',⟨p_now,p_code,p_okk,p_val,p_addr,p_old,p_nxt,p_mark,p_pops⟩,sub,⟨0,0,0,0⟩,⟨0,0,0,false⟩⟩,st,s⟩)
   | _,_=>none)
 | _,_=>none
def ZB(t n:Int)(v:AVal)(g:aD Ob):Option (Prop×FtO):=match v,g with
 | .bool d,[some (.cells [.ptr 1 0,.int .i64 code,.bool okk,.int .i64 val,.bool failed,.int .i64 tries,.int .i64 sh,.int .i64 kd,.int .i64 ky,.int .i64 most,.int .i64 at',.bool p_now,.int .i64 p_code,.bool p_okk,.int .i64 p_val,.int .i64 p_addr,.int .u64 p_old,.int .i64 p_nxt,.bool p_mark,.int .i64 p_pops,.O,.ptr 4 0,.O]),e1,e3,e4,some (.abs (.clear t' n' sub) []),e2]=>(match lB 5 [e1,e2],cL 3 [e3,e4]with
   | some (l2,t2,n2,st),some (l,s)=>some ((t2=t∧n2=n)∧t'=t∧n'=n∧(d=false→at'=1)∧l=s.xs.length∧l2=st.R.length,⟨d,⟨code,okk,val,failed,tries,sh,kd,ky,most,at',⟨p_now,p_code,p_okk,p_val,p_addr,p_old,p_nxt,p_mark,p_pops⟩,aQ,sub,⟨0,0,0,false⟩⟩,st,s⟩)
   | _,_=>none)
 | _,_=>none
def ZC(t n:Int)(v:AVal)(g:aD Ob):Option (Prop×FtO):=match v,g with
 | .bool d,[some (.cells [.ptr 1 0,.int .i64 code,.bool okk,.int .i64 val,.bool failed,.int .i64 tries,.int .i64 sh,.int .i64 kd,.int .i64 ky,.int .i64 most,.int .i64 at',.bool p_now,.int .i64 p_code,.bool p_okk,.int .i64 p_val,.int .i64 p_addr,.int .u64 p_old,.int .i64 p_nxt,.bool p_mark,.int .i64 p_pops,.O,.O,.ptr 4 0]),e1,e3,e4,some (.abs (.prepare t' n' sub) [1]),e2]=>(match lB 5 [e1,e2],cL 3 [e3,e4]with
   | some (l2,t2,n2,st),some (l,s)=>some ((t2=t∧n2=n)∧t'=t∧n'=n∧(d=false→at'=2)∧l=s.xs.length∧l2=st.R.length,⟨d,⟨code,okk,val,failed,tries,sh,kd,ky,most,at',⟨p_now,p_code,p_okk,p_val,p_addr,p_old,p_nxt,p_mark,p_pops⟩,aQ,⟨0,0,0,0⟩,sub⟩,st,s⟩)
   | _,_=>none)
 | _,_=>none
def O1(t n:Int)(v:AVal)(g:aD Ob):Option (Prop×FtO):=(match Y9 t n v g with
 | some r=>some r
 | none=>(match ZA t n v g with
 | some r=>some r
 | none=>(match ZB t n v g with
 | some r=>some r
 | none=>ZC t n v g)))
theorem R0{t n:Int} :bS (obI tbl) 4 (Y9 t n) (FtO.fin t n):=by
 intro v g p x hp hq K hK;unfold Y9 at hp;split at hp
 case h_2=>cases hp
 rename_i d code okk val failed tries sh kd ky most at' p_now p_code p_okk p_val p_addr p_old p_nxt p_mark p_pops e1 e3 e4 e2;split at hp
 case h_2=>cases hp
 rename_i l2 t2 n2 st l s hs hm;simp only [sI',pI']at hp;obtain⟨rfl,rfl⟩:=hp;obtain⟨⟨rfl,rfl⟩,hat,hl,hl2⟩:=hq;have hh:=bB hm hl;cases hh;have hh:=cB hs hl2;cases hh;refine eV hK (fun h=>?_) (fun hd h=>?_)
 ·exact⟨⟨_,_,(aF.pack (VH t2 n2 (⟨code,okk,val,failed,tries,sh,kd,ky,most,at',⟨p_now,p_code,p_okk,p_val,p_addr,p_old,p_nxt,p_mark,p_pops⟩,aQ,⟨0,0,0,0⟩,⟨0,0,0,false⟩⟩:FTS) st s) (.store t2 n2 st) 1 0 (dD t2 n2 st) [] (by kernel_rfl) rfl rfl (by kernel_rfl)),h⟩⟩
 ·exact let X0:FTS:=⟨code,okk,val,failed,tries,sh,kd,ky,most,at',⟨p_now,p_code,p_okk,p_val,p_addr,p_old,p_nxt,p_mark,p_pops⟩,aQ,⟨0,0,0,0⟩,⟨0,0,0,false⟩⟩;⟨⟨_,_,((aF.pack (aM (O0 t2 n2 X0 st s) 0 1 (tL t2 n2 X0) [1]) (.store t2 n2 st) 1 0 (dD t2 n2 st) [] (by kernel_rfl) rfl rfl (by kernel_rfl)).trans (aF.pack (O0 t2 n2 X0 st s) (.fast t2 n2 X0) 0 1 (tL t2 n2 X0) [1] (by kernel_rfl) rfl (congrArg (Prod.mk 1) (AI (hat hd))) (by kernel_rfl))),h⟩⟩
theorem R6{t n:Int} :bS (obI tbl) 4 (ZA t n) (FtO.fin t n):=by
 intro v g p x hp hq K hK;unfold ZA at hp;split at hp
 case h_2=>cases hp
 rename_i d code okk val failed tries sh kd ky most at' p_now p_code p_okk p_val p_addr p_old p_nxt p_mark p_pops e1 e3 e4 t' n' sub e2;split at hp
 case h_2=>cases hp
 rename_i l2 t2 n2 st l s hs hm;simp only [sI',pI']at hp;obtain⟨rfl,rfl⟩:=hp;obtain⟨⟨rfl,rfl⟩,rfl,rfl,hat,hl,hl2⟩:=hq;have hh:=bB hm hl;cases hh;have hh:=cB hs hl2;cases hh;refine eV hK (fun h=>?_) (fun hd h=>?_)
 ·exact⟨⟨_,_,(aF.weak (bZ _ 0 [20,21,22])).trans ((aF.pick [0,1,2,3,5] rfl).trans ((aEH (g2:=aM (VH t' n' (⟨code,okk,val,failed,tries,sh,kd,ky,most,at',⟨p_now,p_code,p_okk,p_val,p_addr,p_old,p_nxt,p_mark,p_pops⟩,sub,⟨0,0,0,0⟩,⟨0,0,0,false⟩⟩:FTS) st s) 1 0 (dD t' n' st) []) (by kernel_rfl) (by kernel_rfl)).trans (aF.pack (VH t' n' (⟨code,okk,val,failed,tries,sh,kd,ky,most,at',⟨p_now,p_code,p_okk,p_val,p_addr,p_old,p_nxt,p_mark,p_pops⟩,sub,⟨0,0,0,0⟩,⟨0,0,0,false⟩⟩:FTS) st s) (.store t' n' st) 1 0 (dD t' n' st) [] (by kernel_rfl) rfl rfl (by kernel_rfl)))),h⟩⟩
 ·exact let X0:FTS:=⟨code,okk,val,failed,tries,sh,kd,ky,most,at',⟨p_now,p_code,p_okk,p_val,p_addr,p_old,p_nxt,p_mark,p_pops⟩,sub,⟨0,0,0,0⟩,⟨0,0,0,false⟩⟩;⟨⟨_,_,((aF.pack (aM (O0 t' n' X0 st s) 0 1 (lE t' n' X0) [1]) (.store t' n' st) 1 0 (dD t' n' st) [] (by kernel_rfl) rfl rfl (by kernel_rfl)).trans (aF.pack (O0 t' n' X0 st s) (.fast t' n' X0) 0 1 (lE t' n' X0) [1] (by kernel_rfl) rfl (congrArg (Prod.mk 1) (xP (hat hd))) (by kernel_rfl))),h⟩⟩
theorem R7{t n:Int} :bS (obI tbl) 4 (ZB t n) (FtO.fin t n):=by
 intro v g p x hp hq K hK;unfold ZB at hp;split at hp
 case h_2=>cases hp
 rename_i d code okk val failed tries sh kd ky most at' p_now p_code p_okk p_val p_addr p_old p_nxt p_mark p_pops e1 e3 e4 t' n' sub e2;split at hp
 case h_2=>cases hp
 rename_i l2 t2 n2 st l s hs hm;simp only [sI',pI']at hp;obtain⟨rfl,rfl⟩:=hp;obtain⟨⟨rfl,rfl⟩,rfl,rfl,hat,hl,hl2⟩:=hq;have hh:=bB hm hl;cases hh;have hh:=cB hs hl2;cases hh;refine eV hK (fun h=>?_) (fun hd h=>?_)
 ·exact⟨⟨_,_,(aF.weak (bZ _ 0 [20,21,22])).trans ((aF.pick [0,1,2,3,5] rfl).trans ((aEH (g2:=aM (VH t' n' (⟨code,okk,val,failed,tries,sh,kd,ky,most,at',⟨p_now,p_code,p_okk,p_val,p_addr,p_old,p_nxt,p_mark,p_pops⟩,aQ,sub,⟨0,0,0,false⟩⟩:FTS) st s) 1 0 (dD t' n' st) []) (by kernel_rfl) (by kernel_rfl)).trans (aF.pack (VH t' n' (⟨code,okk,val,failed,tries,sh,kd,ky,most,at',⟨p_now,p_code,p_okk,p_val,p_addr,p_old,p_nxt,p_mark,p_pops⟩,aQ,sub,⟨0,0,0,false⟩⟩:FTS) st s) (.store t' n' st) 1 0 (dD t' n' st) [] (by kernel_rfl) rfl rfl (by kernel_rfl)))),h⟩⟩
 ·exact let X0:FTS:=⟨code,okk,val,failed,tries,sh,kd,ky,most,at',⟨p_now,p_code,p_okk,p_val,p_addr,p_old,p_nxt,p_mark,p_pops⟩,aQ,sub,⟨0,0,0,false⟩⟩;⟨⟨_,_,((aF.pack (aM (O0 t' n' X0 st s) 0 1 (mM t' n' X0) [1]) (.store t' n' st) 1 0 (dD t' n' st) [] (by kernel_rfl) rfl rfl (by kernel_rfl)).trans (aF.pack (O0 t' n' X0 st s) (.fast t' n' X0) 0 1 (mM t' n' X0) [1] (by kernel_rfl) rfl (congrArg (Prod.mk 1) (FK (hat hd))) (by kernel_rfl))),h⟩⟩
theorem R8{t n:Int} :bS (obI tbl) 4 (ZC t n) (FtO.fin t n):=by
 intro v g p x hp hq K hK;unfold ZC at hp;split at hp
 case h_2=>cases hp
 rename_i d code okk val failed tries sh kd ky most at' p_now p_code p_okk p_val p_addr p_old p_nxt p_mark p_pops e1 e3 e4 t' n' sub e2;split at hp
 case h_2=>cases hp
 rename_i l2 t2 n2 st l s hs hm;simp only [sI',pI']at hp;obtain⟨rfl,rfl⟩:=hp;obtain⟨⟨rfl,rfl⟩,rfl,rfl,hat,hl,hl2⟩:=hq;have hh:=bB hm hl;cases hh;have hh:=cB hs hl2;cases hh;refine eV hK (fun h=>?_) (fun hd h=>?_)
 ·exact⟨⟨_,_,(aF.weak (bZ _ 0 [20,21,22])).trans ((aF.pick [0,1,2,3,5] rfl).trans ((aEH (g2:=aM (VH t' n' (⟨code,okk,val,failed,tries,sh,kd,ky,most,at',⟨p_now,p_code,p_okk,p_val,p_addr,p_old,p_nxt,p_mark,p_pops⟩,aQ,⟨0,0,0,0⟩,sub⟩:FTS) st s) 1 0 (dD t' n' st) []) (by kernel_rfl) (by kernel_rfl)).trans (aF.pack (VH t' n' (⟨code,okk,val,failed,tries,sh,kd,ky,most,at',⟨p_now,p_code,p_okk,p_val,p_addr,p_old,p_nxt,p_mark,p_pops⟩,aQ,⟨0,0,0,0⟩,sub⟩:FTS) st s) (.store t' n' st) 1 0 (dD t' n' st) [] (by kernel_rfl) rfl rfl (by kernel_rfl)))),h⟩⟩
 ·exact let X0:FTS:=⟨code,okk,val,failed,tries,sh,kd,ky,most,at',⟨p_now,p_code,p_okk,p_val,p_addr,p_old,p_nxt,p_mark,p_pops⟩,aQ,⟨0,0,0,0⟩,sub⟩;⟨⟨_,_,((aF.pack (aM (O0 t' n' X0 st s) 0 1 (mN t' n' X0) [1]) (.store t' n' st) 1 0 (dD t' n' st) [] (by kernel_rfl) rfl rfl (by kernel_rfl)).trans (aF.pack (O0 t' n' X0 st s) (.fast t' n' X0) 0 1 (mN t' n' X0) [1] (by kernel_rfl) rfl (congrArg (Prod.mk 1) (FL (hat hd))) (by kernel_rfl))),h⟩⟩
theorem xQ{t n:Int} :bS (obI tbl) 4 (O1 t n) (FtO.fin t n):=by
 intro v g p x hp hq K hK;unfold O1 at hp;split at hp
 ·rename_i r hr;cases hp;exact R0 v g p x hr hq K hK
 split at hp
 ·rename_i r hr;cases hp;exact R6 v g p x hr hq K hK
 split at hp
 ·rename_i r hr;cases hp;exact R7 v g p x hr hq K hK
 exact R8 v g p x hp hq K hK
abbrev w1k(n:Int)(s:MS)(t:Int)(x:FTS):=FnO.x (aN t n x.12 s)
abbrev w1i(n:Int)(s:MS)(st:STS)(t:Int)(x:FTS):=bJ x.6 x.7 x.8 (w1k n s t x).1 (w1k n s t x).2 (w1k n s t x).3 (w1k n s t x).4 st.2
abbrev w1m:=true=false→(0:Int)≠(0:Int)∧(0:Int)≠(1:Int)∧(0:Int)≠(2:Int)
abbrev w1n:=false=false→(3:Int)≠(0:Int)∧(3:Int)≠(1:Int)∧(3:Int)≠(2:Int)
abbrev w1o(s:MS)(st:STS)(x:FTS):Tr FtO:=.ret {d:=true,x:= {x with failed:=true,at':=0,cl:=b9,pr:=dF},st:=st,s:= {s with c:=s.4+1,k:=1,a:=0,o:=aC s.3 0,w:=aC s.3 0,ok:=bQ s.3 0} }
abbrev w1p:=false=false→(0:Int)=(0:Int)
abbrev w1q(n:Int)(s:MS)(t:Int)(x:FTS):=FnO.s (aN t n x.12 s)
abbrev w1r:=false=false→(1:Int)=(1:Int)
abbrev w1s:=false=false→(2:Int)=(2:Int)
def AU(t n:Int)(x:FTS)(st:STS)(s:MS):Tr FtO:=.pre True (.ite (!cC x.6 x.7 x.8) (.pre (lE' s.3∧(0:Int)≤s.4∧s.4≤(4611686018427387904:Int)) (.pre ((t=t∧n=n)∧t=t∧n=n∧(true=false→(0:Int)=(0:Int))∧lE' s.3∧lE' st.3) (w1o s st x))) (.pre True (.ite (fT x.7) (.ite (ieq st.2 0) (.pre (lE' s.3∧(0:Int)≤s.4∧s.4≤(4611686018427387904:Int)) (.pre ((t=t∧n=n)∧t=t∧n=n∧(true=false→(0:Int)=(0:Int))∧lE' s.3∧lE' st.3) (w1o s st x))) (.pre (lE' s.3∧HW t n x.12 s) (.ite (aN t n x.12 s).1 (.pre ((lE' st.3∧lE' (w1k n s t x).6∧st.3.length+List.length (w1k n s t x).6≤(4294967296:Nat))∧True) (.ite (ilt x.9 (W (x.5+(w1k n s t x).5))) (.pre ((t=t∧n=n)∧w1m∧lE' (w1q n s t x).3∧st.3.length+List.length (w1k n s t x).6=List.length (st.3++(w1k n s t x).6)) (.ret {d:=true,x:= {x with failed:=ilt x.9 (W (x.5+(w1k n s t x).5)),tries:=W (x.5+(w1k n s t x).5),at':=0,fn:=aQ,cl:=b9,pr:=dF},st:= {me:=st.1,sp:=st.2,R:=st.3++(w1k n s t x).6},s:=(aN t n x.12 s).3})) (.pre (uE x.6 x.7 x.8 (w1k n s t x).1 (w1k n s t x).2 (w1k n s t x).3 (w1k n s t x).4 st.2∧True) (.ite (w1i n s st t x).1 (.pre ((t=t∧n=n)∧w1m∧lE' (w1q n s t x).3∧st.3.length+List.length (w1k n s t x).6=List.length (st.3++(w1k n s t x).6)) (.ret {d:=true,x:= {x with code:=(w1i n s st t x).2,okk:=(w1i n s st t x).3,val:=(w1i n s st t x).4,failed:=ilt x.9 (W (x.5+(w1k n s t x).5)),tries:=W (x.5+(w1k n s t x).5),at':=0,p:=bJ x.6 x.7 x.8 (w1k n s t x).1 (w1k n s t x).2 (w1k n s t x).3 (w1k n s t x).4 st.2,fn:=aQ,cl:=b9,pr:=dF},st:= {me:=st.1,sp:=st.2,R:=st.3++(w1k n s t x).6},s:=(aN t n x.12 s).3})) (.pre (nV (w1i n s st t x).1 (w1i n s st t x).2 (w1i n s st t x).3 (w1i n s st t x).4 (w1i n s st t x).5 (w1i n s st t x).6 (w1i n s st t x).7 (w1i n s st t x).8 (w1i n s st t x).9) (.ite (x1 (w1i n s st t x).1 (w1i n s st t x).2 (w1i n s st t x).3 (w1i n s st t x).4 (w1i n s st t x).5 (w1i n s st t x).6 (w1i n s st t x).7 (w1i n s st t x).8 (w1i n s st t x).9) (.pre (pF t n (w1i n s st t x).5∧True) (.pre ((t=t∧n=n)∧t=t∧n=n∧w1r∧lE' (w1q n s t x).3∧st.3.length+List.length (w1k n s t x).6=List.length (st.3++(w1k n s t x).6)) (.ret {d:=false,x:= {x with failed:=ilt x.9 (W (x.5+(w1k n s t x).5)),tries:=W (x.5+(w1k n s t x).5),at':=1,p:=bJ x.6 x.7 x.8 (w1k n s t x).1 (w1k n s t x).2 (w1k n s t x).3 (w1k n s t x).4 st.2,fn:=aQ,cl:=xD t n (w1i n s st t x).5,pr:=dF},st:= {me:=st.1,sp:=st.2,R:=st.3++(w1k n s t x).6},s:=(aN t n x.12 s).3}))) (.pre True (.ite (fT x.7) (.pre ((st.3.length+List.length (w1k n s t x).6=List.length (st.3++(w1k n s t x).6)∧B8 t n x.8 (w1k n s t x).3 {me:=st.1,sp:=st.2,R:=st.3++(w1k n s t x).6})∧True) (.pre ((t=t∧n=n)∧t=t∧n=n∧w1s∧lE' (w1q n s t x).3∧lE' (Prod.snd (p5 t n x.8 (w1k n s t x).3 {me:=st.1,sp:=st.2,R:=st.3++(w1k n s t x).6})).3) (.ret {d:=false,x:= {x with failed:=ilt x.9 (W (x.5+(w1k n s t x).5)),tries:=W (x.5+(w1k n s t x).5),at':=2,p:=bJ x.6 x.7 x.8 (w1k n s t x).1 (w1k n s t x).2 (w1k n s t x).3 (w1k n s t x).4 st.2,fn:=aQ,cl:=b9,pr:=(p5 t n x.8 (w1k n s t x).3 {me:=st.1,sp:=st.2,R:=st.3++(w1k n s t x).6}).1},st:=(p5 t n x.8 (w1k n s t x).3 {me:=st.1,sp:=st.2,R:=st.3++(w1k n s t x).6}).2,s:=(aN t n x.12 s).3}))) (.pre ((t=t∧n=n)∧w1n∧lE' (w1q n s t x).3∧st.3.length+List.length (w1k n s t x).6=List.length (st.3++(w1k n s t x).6)) (.ret {d:=false,x:= {x with failed:=ilt x.9 (W (x.5+(w1k n s t x).5)),tries:=W (x.5+(w1k n s t x).5),at':=3,p:=bJ x.6 x.7 x.8 (w1k n s t x).1 (w1k n s t x).2 (w1k n s t x).3 (w1k n s t x).4 st.2,fn:=aQ,cl:=b9,pr:=dF},st:= {me:=st.1,sp:=st.2,R:=st.3++(w1k n s t x).6},s:=(aN t n x.12 s).3})))))))))) (.pre ((t=t∧n=n)∧t=t∧n=n∧w1p∧lE' (w1q n s t x).3∧lE' st.3) (.ret {d:=false,x:= {x with at':=0,fn:=(aN t n x.12 s).2,cl:=b9,pr:=dF},st:=st,s:=(aN t n x.12 s).3}))))) (.pre (lE' s.3∧HW t n x.12 s) (.ite (aN t n x.12 s).1 (.pre ((lE' st.3∧lE' (w1k n s t x).6∧st.3.length+List.length (w1k n s t x).6≤(4294967296:Nat))∧True) (.ite (ilt x.9 (W (x.5+(w1k n s t x).5))) (.pre ((t=t∧n=n)∧w1m∧lE' (w1q n s t x).3∧st.3.length+List.length (w1k n s t x).6=List.length (st.3++(w1k n s t x).6)) (.ret {d:=true,x:= {x with failed:=ilt x.9 (W (x.5+(w1k n s t x).5)),tries:=W (x.5+(w1k n s t x).5),at':=0,fn:=aQ,cl:=b9,pr:=dF},st:= {me:=st.1,sp:=st.2,R:=st.3++(w1k n s t x).6},s:=(aN t n x.12 s).3})) (.pre (uE x.6 x.7 x.8 (w1k n s t x).1 (w1k n s t x).2 (w1k n s t x).3 (w1k n s t x).4 st.2∧True) (.ite (w1i n s st t x).1 (.pre ((t=t∧n=n)∧w1m∧lE' (w1q n s t x).3∧st.3.length+List.length (w1k n s t x).6=List.length (st.3++(w1k n s t x).6)) (.ret {d:=true,x:= {x with code:=(w1i n s st t x).2,okk:=(w1i n s st t x).3,val:=(w1i n s st t x).4,failed:=ilt x.9 (W (x.5+(w1k n s t x).5)),tries:=W (x.5+(w1k n s t x).5),at':=0,p:=bJ x.6 x.7 x.8 (w1k n s t x).1 (w1k n s t x).2 (w1k n s t x).3 (w1k n s t x).4 st.2,fn:=aQ,cl:=b9,pr:=dF},st:= {me:=st.1,sp:=st.2,R:=st.3++(w1k n s t x).6},s:=(aN t n x.12 s).3})) (.pre (nV (w1i n s st t x).1 (w1i n s st t x).2 (w1i n s st t x).3 (w1i n s st t x).4 (w1i n s st t x).5 (w1i n s st t x).6 (w1i n s st t x).7 (w1i n s st t x).8 (w1i n s st t x).9) (.ite (x1 (w1i n s st t x).1 (w1i n s st t x).2 (w1i n s st t x).3 (w1i n s st t x).4 (w1i n s st t x).5 (w1i n s st t x).6 (w1i n s st t x).7 (w1i n s st t x).8 (w1i n s st t x).9) (.pre (pF t n (w1i n s st t x).5∧True) (.pre ((t=t∧n=n)∧t=t∧n=n∧w1r∧lE' (w1q n s t x).3∧st.3.length+List.length (w1k n s t x).6=List.length (st.3++(w1k n s t x).6)) (.ret {d:=false,x:= {x with failed:=ilt x.9 (W (x.5+(w1k n s t x).5)),tries:=W (x.5+(w1k n s t x).5),at':=1,p:=bJ x.6 x.7 x.8 (w1k n s t x).1 (w1k n s t x).2 (w1k n s t x).3 (w1k n s t x).4 st.2,fn:=aQ,cl:=xD t n (w1i n s st t x).5,pr:=dF},st:= {me:=st.1,sp:=st.2,R:=st.3++(w1k n s t x).6},s:=(aN t n x.12 s).3}))) (.pre True (.ite (fT x.7) (.pre ((st.3.length+List.length (w1k n s t x).6=List.length (st.3++(w1k n s t x).6)∧B8 t n x.8 (w1k n s t x).3 {me:=st.1,sp:=st.2,R:=st.3++(w1k n s t x).6})∧True) (.pre ((t=t∧n=n)∧t=t∧n=n∧w1s∧lE' (w1q n s t x).3∧lE' (Prod.snd (p5 t n x.8 (w1k n s t x).3 {me:=st.1,sp:=st.2,R:=st.3++(w1k n s t x).6})).3) (.ret {d:=false,x:= {x with failed:=ilt x.9 (W (x.5+(w1k n s t x).5)),tries:=W (x.5+(w1k n s t x).5),at':=2,p:=bJ x.6 x.7 x.8 (w1k n s t x).1 (w1k n s t x).2 (w1k n s t x).3 (w1k n s t x).4 st.2,fn:=aQ,cl:=b9,pr:=(p5 t n x.8 (w1k n s t x).3 {me:=st.1,sp:=st.2,R:=st.3++(w1k n s t x).6}).1},st:=(p5 t n x.8 (w1k n s t x).3 {me:=st.1,sp:=st.2,R:=st.3++(w1k n s t x).6}).2,s:=(aN t n x.12 s).3}))) (.pre ((t=t∧n=n)∧w1n∧lE' (w1q n s t x).3∧st.3.length+List.length (w1k n s t x).6=List.length (st.3++(w1k n s t x).6)) (.ret {d:=false,x:= {x with failed:=ilt x.9 (W (x.5+(w1k n s t x).5)),tries:=W (x.5+(w1k n s t x).5),at':=3,p:=bJ x.6 x.7 x.8 (w1k n s t x).1 (w1k n s t x).2 (w1k n s t x).3 (w1k n s t x).4 st.2,fn:=aQ,cl:=b9,pr:=dF},st:= {me:=st.1,sp:=st.2,R:=st.3++(w1k n s t x).6},s:=(aN t n x.12 s).3})))))))))) (.pre ((t=t∧n=n)∧t=t∧n=n∧w1p∧lE' (w1q n s t x).3∧lE' st.3) (.ret {d:=false,x:= {x with at':=0,fn:=(aN t n x.12 s).2,cl:=b9,pr:=dF},st:=st,s:=(aN t n x.12 s).3})))))))
theorem H4(t n:Int)(x:FTS)(st:STS)(s:MS)(K:FtO→Prop)(h:(AU t n x st s).run K):cT' 156 [.ptr 0 0,.ptr 2 0] [cE' [.ptr 1 0,.I x.code,.bool x.okk,.I x.val,.bool x.failed,.I x.tries,.I x.sh,.I x.kd,.I x.ky,.I x.most,.I 0,.bool x.p.now,.I x.p.code,.bool x.p.okk,.I x.p.val,.I x.p.addr,.int .u64 x.p.old,.I x.p.nxt,.bool x.p.mark,.I x.p.pops,.ptr 4 0,.O,.O],iT 5 t n st,bE 3 s,bF s,some (.abs (.find t n x.fn) []),iU st] (bM 4 0 [20,21,22] [(.cell 1 4,.ints (some .i64))] (O1 t n) K):=by
 exact cM' (E:=ER) (by kernel_rfl) h
def AV(t n:Int)(x:FTS)(st:STS)(s:MS):Tr FtO:=.pre (lE' s.3∧KD t n x.13 s) (.ite (oB t n x.13 s).1 (.ite (ilt x.9 (W (x.5+1))) (.pre ((t=t∧n=n)∧(true=false→(1:Int)≠(0:Int)∧(1:Int)≠(1:Int)∧(1:Int)≠(2:Int))∧lE' (ClO.s (oB t n x.13 s)).3∧lE' st.3) (.ret {d:=true,x:= {x with failed:=ilt x.9 (W (x.5+1)),tries:=W (x.5+1),at':=1,fn:=aQ,cl:=b9,pr:=dF},st:=st,s:=(oB t n x.13 s).3})) (.pre True (.pre (oC t n st.1 (eU x.6 x.8) (lV x.6 x.7 x.8) (W (x.9 - W (x.5+1)))∧True) (.pre ((t=t∧n=n)∧t=t∧n=n∧w1p∧lE' (ClO.s (oB t n x.13 s)).3∧lE' st.3) (.ret {d:=false,x:= {x with failed:=ilt x.9 (W (x.5+1)),tries:=W (x.5+1),at':=0,fn:=tP t n st.1 (eU x.6 x.8) (lV x.6 x.7 x.8) (W (x.9 - W (x.5+1))),cl:=b9,pr:=dF},st:=st,s:=(oB t n x.13 s).3}))))) (.pre ((t=t∧n=n)∧t=t∧n=n∧w1r∧lE' (ClO.s (oB t n x.13 s)).3∧lE' st.3) (.ret {d:=false,x:= {x with at':=1,fn:=aQ,cl:=(oB t n x.13 s).2,pr:=dF},st:=st,s:=(oB t n x.13 s).3})))
theorem H5(t n:Int)(x:FTS)(st:STS)(s:MS)(K:FtO→Prop)(h:(AV t n x st s).run K):cT' 156 [.ptr 0 0,.ptr 2 0] [cE' [.ptr 1 0,.I x.code,.bool x.okk,.I x.val,.bool x.failed,.I x.tries,.I x.sh,.I x.kd,.I x.ky,.I x.most,.I 1,.bool x.p.now,.I x.p.code,.bool x.p.okk,.I x.p.val,.I x.p.addr,.int .u64 x.p.old,.I x.p.nxt,.bool x.p.mark,.I x.p.pops,.O,.ptr 4 0,.O],iT 5 t n st,bE 3 s,bF s,some (.abs (.clear t n x.cl) []),iU st] (bM 4 0 [20,21,22] [(.cell 1 4,.ints (some .i64))] (O1 t n) K):=by
 exact cM' (E:=ER) (by kernel_rfl) h
def AW(t n:Int)(x:FTS)(st:STS)(s:MS):Tr FtO:=.pre ((lE' s.3∧lE' st.3∧t=t∧n=n)∧MQ t n x.14 st s) (.ite (prF t n x.14 st s).1 (.pre ((t=t∧n=n)∧w1n∧lE' (PrO.s (prF t n x.14 st s)).3∧lE' (PrO.st (prF t n x.14 st s)).3) (.ret {d:=false,x:= {x with at':=3,fn:=aQ,cl:=b9,pr:=dF},st:=(prF t n x.14 st s).3,s:=(prF t n x.14 st s).4})) (.pre ((t=t∧n=n)∧t=t∧n=n∧w1s∧lE' (PrO.s (prF t n x.14 st s)).3∧lE' (PrO.st (prF t n x.14 st s)).3) (.ret {d:=false,x:= {x with at':=2,fn:=aQ,cl:=b9,pr:=(prF t n x.14 st s).2},st:=(prF t n x.14 st s).3,s:=(prF t n x.14 st s).4})))
theorem H6(t n:Int)(x:FTS)(st:STS)(s:MS)(K:FtO→Prop)(h:(AW t n x st s).run K):cT' 156 [.ptr 0 0,.ptr 2 0] [cE' [.ptr 1 0,.I x.code,.bool x.okk,.I x.val,.bool x.failed,.I x.tries,.I x.sh,.I x.kd,.I x.ky,.I x.most,.I 2,.bool x.p.now,.I x.p.code,.bool x.p.okk,.I x.p.val,.I x.p.addr,.int .u64 x.p.old,.I x.p.nxt,.bool x.p.mark,.I x.p.pops,.O,.O,.ptr 4 0],iT 5 t n st,bE 3 s,bF s,some (.abs (.prepare t n x.pr) [1]),iU st] (bM 4 0 [20,21,22] [(.cell 1 4,.ints (some .i64))] (O1 t n) K):=by
 exact cM' (E:=ER) (by kernel_rfl) h
abbrev w1j(x:FTS):=dC (FTS.p x).1 (FTS.p x).2 (FTS.p x).3 (FTS.p x).4 (FTS.p x).5 (FTS.p x).6 (FTS.p x).7 (FTS.p x).8 (FTS.p x).9
abbrev w1l:=true=false→(3:Int)≠(0:Int)∧(3:Int)≠(1:Int)∧(3:Int)≠(2:Int)
def AX(t n:Int)(x:FTS)(st:STS)(s:MS):Tr FtO:=.pre (x5 (FTS.p x).1 (FTS.p x).2 (FTS.p x).3 (FTS.p x).4 (FTS.p x).5 (FTS.p x).6 (FTS.p x).7 (FTS.p x).8 (FTS.p x).9∧True) (.pre ((lE' s.3∧(0:Int)≤s.4∧s.4≤(4611686018427387904:Int))∧True) (.ite (!aT s.3 (FTS.p x).5 (FTS.p x).6) (.ite (ilt x.9 (W (x.5+1))) (.pre ((t=t∧n=n)∧w1l∧lE' (bif aT s.3 (FTS.p x).5 (FTS.p x).6 then aV s.3 (FTS.p x).5 (w1j x)else s.3)∧lE' st.3) (.ret {d:=true,x:= {x with failed:=ilt x.9 (W (x.5+1)),tries:=W (x.5+1),at':=3,fn:=aQ,cl:=b9,pr:=dF},st:=st,s:= {t:=s.1,n:=s.2,xs:=bif aT s.3 (FTS.p x).5 (FTS.p x).6 then aV s.3 (FTS.p x).5 (w1j x)else s.3,c:=s.4+1,k:=3,a:=(FTS.p x).5,o:=aC s.3 (FTS.p x).5,w:=bif bQ s.3 (FTS.p x).5 then dC (FTS.p x).1 (FTS.p x).2 (FTS.p x).3 (FTS.p x).4 (FTS.p x).5 (FTS.p x).6 (FTS.p x).7 (FTS.p x).8 (FTS.p x).9 else 0,ok:=aT s.3 (FTS.p x).5 (FTS.p x).6} })) (.pre True (.pre (oC t n st.1 (eU x.6 x.8) (lV x.6 x.7 x.8) (W (x.9 - W (x.5+1)))∧True) (.pre ((t=t∧n=n)∧t=t∧n=n∧w1p∧lE' (bif aT s.3 (FTS.p x).5 (FTS.p x).6 then aV s.3 (FTS.p x).5 (w1j x)else s.3)∧lE' st.3) (.ret {d:=false,x:= {x with failed:=ilt x.9 (W (x.5+1)),tries:=W (x.5+1),at':=0,fn:=tP t n st.1 (eU x.6 x.8) (lV x.6 x.7 x.8) (W (x.9 - W (x.5+1))),cl:=b9,pr:=dF},st:=st,s:= {t:=s.1,n:=s.2,xs:=bif aT s.3 (FTS.p x).5 (FTS.p x).6 then aV s.3 (FTS.p x).5 (w1j x)else s.3,c:=s.4+1,k:=3,a:=(FTS.p x).5,o:=aC s.3 (FTS.p x).5,w:=bif bQ s.3 (FTS.p x).5 then dC (FTS.p x).1 (FTS.p x).2 (FTS.p x).3 (FTS.p x).4 (FTS.p x).5 (FTS.p x).6 (FTS.p x).7 (FTS.p x).8 (FTS.p x).9 else 0,ok:=aT s.3 (FTS.p x).5 (FTS.p x).6} }))))) (.pre True (.ite (fT x.7) (.ite (!ieq (FTS.p x).9 0) (.pre ((lE' st.3∧1=1∧st.3.length+(1:Nat)≤(4294967296:Nat))∧True) (.pre ((t=t∧n=n)∧w1l∧lE' (bif aT s.3 (FTS.p x).5 (FTS.p x).6 then aV s.3 (FTS.p x).5 (w1j x)else s.3)∧st.3.length+(1:Nat)=List.length (st.3++ [(FTS.p x).9])) (.ret {d:=true,x:= {x with code:=(FTS.p x).2,okk:=(FTS.p x).3,val:=(FTS.p x).4,at':=3,fn:=aQ,cl:=b9,pr:=dF},st:= {me:=st.1,sp:=0,R:=st.3++ [(FTS.p x).9] },s:= {t:=s.1,n:=s.2,xs:=bif aT s.3 (FTS.p x).5 (FTS.p x).6 then aV s.3 (FTS.p x).5 (w1j x)else s.3,c:=s.4+1,k:=3,a:=(FTS.p x).5,o:=aC s.3 (FTS.p x).5,w:=bif bQ s.3 (FTS.p x).5 then dC (FTS.p x).1 (FTS.p x).2 (FTS.p x).3 (FTS.p x).4 (FTS.p x).5 (FTS.p x).6 (FTS.p x).7 (FTS.p x).8 (FTS.p x).9 else 0,ok:=aT s.3 (FTS.p x).5 (FTS.p x).6} }))) (.pre ((t=t∧n=n)∧w1l∧lE' (bif aT s.3 (FTS.p x).5 (FTS.p x).6 then aV s.3 (FTS.p x).5 (w1j x)else s.3)∧lE' st.3) (.ret {d:=true,x:= {x with code:=(FTS.p x).2,okk:=(FTS.p x).3,val:=(FTS.p x).4,at':=3,fn:=aQ,cl:=b9,pr:=dF},st:= {me:=st.1,sp:=0,R:=st.3},s:= {t:=s.1,n:=s.2,xs:=bif aT s.3 (FTS.p x).5 (FTS.p x).6 then aV s.3 (FTS.p x).5 (w1j x)else s.3,c:=s.4+1,k:=3,a:=(FTS.p x).5,o:=aC s.3 (FTS.p x).5,w:=bif bQ s.3 (FTS.p x).5 then dC (FTS.p x).1 (FTS.p x).2 (FTS.p x).3 (FTS.p x).4 (FTS.p x).5 (FTS.p x).6 (FTS.p x).7 (FTS.p x).8 (FTS.p x).9 else 0,ok:=aT s.3 (FTS.p x).5 (FTS.p x).6} }))) (.ite (!ieq (FTS.p x).9 0) (.pre ((lE' st.3∧1=1∧st.3.length+(1:Nat)≤(4294967296:Nat))∧True) (.pre ((t=t∧n=n)∧w1l∧lE' (bif aT s.3 (FTS.p x).5 (FTS.p x).6 then aV s.3 (FTS.p x).5 (w1j x)else s.3)∧st.3.length+(1:Nat)=List.length (st.3++ [(FTS.p x).9])) (.ret {d:=true,x:= {x with code:=(FTS.p x).2,okk:=(FTS.p x).3,val:=(FTS.p x).4,at':=3,fn:=aQ,cl:=b9,pr:=dF},st:= {me:=st.1,sp:=st.2,R:=st.3++ [(FTS.p x).9] },s:= {t:=s.1,n:=s.2,xs:=bif aT s.3 (FTS.p x).5 (FTS.p x).6 then aV s.3 (FTS.p x).5 (w1j x)else s.3,c:=s.4+1,k:=3,a:=(FTS.p x).5,o:=aC s.3 (FTS.p x).5,w:=bif bQ s.3 (FTS.p x).5 then dC (FTS.p x).1 (FTS.p x).2 (FTS.p x).3 (FTS.p x).4 (FTS.p x).5 (FTS.p x).6 (FTS.p x).7 (FTS.p x).8 (FTS.p x).9 else 0,ok:=aT s.3 (FTS.p x).5 (FTS.p x).6} }))) (.pre ((t=t∧n=n)∧w1l∧lE' (bif aT s.3 (FTS.p x).5 (FTS.p x).6 then aV s.3 (FTS.p x).5 (w1j x)else s.3)∧lE' st.3) (.ret {d:=true,x:= {x with code:=(FTS.p x).2,okk:=(FTS.p x).3,val:=(FTS.p x).4,at':=3,fn:=aQ,cl:=b9,pr:=dF},st:=st,s:= {t:=s.1,n:=s.2,xs:=bif aT s.3 (FTS.p x).5 (FTS.p x).6 then aV s.3 (FTS.p x).5 (w1j x)else s.3,c:=s.4+1,k:=3,a:=(FTS.p x).5,o:=aC s.3 (FTS.p x).5,w:=bif bQ s.3 (FTS.p x).5 then dC (FTS.p x).1 (FTS.p x).2 (FTS.p x).3 (FTS.p x).4 (FTS.p x).5 (FTS.p x).6 (FTS.p x).7 (FTS.p x).8 (FTS.p x).9 else 0,ok:=aT s.3 (FTS.p x).5 (FTS.p x).6} })))))))
theorem H7(t n:Int)(x:FTS)(st:STS)(s:MS)(K:FtO→Prop)(h:(AX t n x st s).run K):cT' 156 [.ptr 0 0,.ptr 2 0] [cE' [.ptr 1 0,.I x.code,.bool x.okk,.I x.val,.bool x.failed,.I x.tries,.I x.sh,.I x.kd,.I x.ky,.I x.most,.I 3,.bool x.p.now,.I x.p.code,.bool x.p.okk,.I x.p.val,.I x.p.addr,.int .u64 x.p.old,.I x.p.nxt,.bool x.p.mark,.I x.p.pops,.O,.O,.O],iT 4 t n st,bE 3 s,bF s,iU st] (bM 4 0 [20,21,22] [(.cell 1 4,.ints (some .i64))] (O1 t n) K):=by
 exact cM' (E:=ER) (by kernel_rfl) h
def ftT(t n:Int)(x:FTS)(st:STS)(s:MS):Tr FtO:=
 bif ieq x.at' 0 then AU t n x st s else
 bif ieq x.at' 1 then AV t n x st s else
 bif ieq x.at' 2 then AW t n x st s else
 bif ieq x.at' 3 then AX t n x st s else .pre False (.ret default)
def hU(t n:Int)(x:FTS)(st:STS)(s:MS):FtO:=(ftT t n x st s).val
def RZ(t n:Int)(x:FTS)(st:STS)(s:MS):Prop:=(ftT t n x st s).ok
theorem FN(t n:Int)(x:FTS)(st:STS)(s:MS)(K:AVal→aD Ob→Prop)(h:(ftT t n x st s).run (fun y=>(FtO.fin t n y).run K)):cT' 156 [.ptr 0 0,.ptr 2 0] (O0 t n x st s) K:=by
 unfold ftT at h
 by_cases e:x.at'=0
 ·rw [e]at h;have h:(AU t n x st s).run _:=h;refine aEB (root:=0) (pos:=[20,21,22]) (cs:=[(.cell 1 4,.ints (some .i64))]) (parse:=O1 t n) (fin:=FtO.fin t n) xQ ((aS.unpack (.fast t n x) 0 1 (lE t n x) [1] rfl (congrArg (Prod.mk 1) (xP e)) (by kernel_rfl) rfl).trans (aS.unpack (.store t n st) 1 0 (dD t n st) [] rfl rfl rfl rfl)) ?_
  have q:=H4 t n x st s _ h;rw [←e]at q;exact q
 rw [bI e]at h
 by_cases e:x.at'=1
 ·rw [e]at h;have h:(AV t n x st s).run _:=h;refine aEB (root:=0) (pos:=[20,21,22]) (cs:=[(.cell 1 4,.ints (some .i64))]) (parse:=O1 t n) (fin:=FtO.fin t n) xQ ((aS.unpack (.fast t n x) 0 1 (mM t n x) [1] rfl (congrArg (Prod.mk 1) (FK e)) (by kernel_rfl) rfl).trans (aS.unpack (.store t n st) 1 0 (dD t n st) [] rfl rfl rfl rfl)) ?_
  have q:=H5 t n x st s _ h;rw [←e]at q;exact q
 rw [bI e]at h
 by_cases e:x.at'=2
 ·rw [e]at h;have h:(AW t n x st s).run _:=h;refine aEB (root:=0) (pos:=[20,21,22]) (cs:=[(.cell 1 4,.ints (some .i64))]) (parse:=O1 t n) (fin:=FtO.fin t n) xQ ((aS.unpack (.fast t n x) 0 1 (mN t n x) [1] rfl (congrArg (Prod.mk 1) (FL e)) (by kernel_rfl) rfl).trans (aS.unpack (.store t n st) 1 0 (dD t n st) [] rfl rfl rfl rfl)) ?_
  have q:=H6 t n x st s _ h;rw [←e]at q;exact q
 rw [bI e]at h
 by_cases e:x.at'=3
 ·rw [e]at h;have h:(AX t n x st s).run _:=h;refine aEB (root:=0) (pos:=[20,21,22]) (cs:=[(.cell 1 4,.ints (some .i64))]) (parse:=O1 t n) (fin:=FtO.fin t n) xQ ((aS.unpack (.fast t n x) 0 1 (tL t n x) [1] rfl (congrArg (Prod.mk 1) (AI ⟨(by omega),(by omega),(by omega)⟩)) (by kernel_rfl) rfl).trans (aS.unpack (.store t n st) 1 0 (dD t n st) [] rfl rfl rfl rfl)) ?_
  have q:=H7 t n x st s _ h;rw [←e]at q;exact q
 rw [bI e]at h;exact h.1.elim
noncomputable def ftSA:aI Ob:=fun args h=>match args,h with
 | [.ptr 0 0,.ptr 2 0],[some (.abs (.fast t n x) [1]),some (.abs (.store t2 n2 st) []),e3,e4]=>(match cL 3 [e3,e4]with
   | some (l,s)=>some (.pre ((l=s.xs.length∧t2=t∧n2=n)∧RZ t n x st s) (FtO.fin t n (hU t n x st s)))
   | none=>none)
 | _,_=>none
theorem ZD:sT' 156 ftSA:=by
 intro args h o ho K hK;unfold ftSA at ho;split at ho
 case h_2=>cases ho
 split at ho<;>cases ho
 rename_i hm;obtain⟨⟨⟨hl,rfl,rfl⟩,ok⟩,hK⟩:=hK;have hh:=bB hm hl;cases hh;exact FN _ _ _ _ _ K (aEG ok hK)
def FtO.finB(t n:Int)(y:FtO):Out Ob:=.ite y.d (.ret (.bool true) ([cE' [.ptr 1 0,.I y.x.code,.bool y.x.okk,.I y.x.val,.bool y.x.failed,.I y.x.tries,.I y.x.sh,.I y.x.kd,.I y.x.ky,.I y.x.most,.I y.x.at',.bool y.x.p.now,.I y.x.p.code,.bool y.x.p.okk,.I y.x.p.val,.I y.x.p.addr,.int .u64 y.x.p.old,.I y.x.p.nxt,.bool y.x.p.mark,.I y.x.p.pops,.O,.O,.O],iT 5 t n y.st,none,bE 4 y.s,bF y.s,iU y.st])) (.ret (.bool false) [some (.abs (.fast t n y.x) [1]),iT 5 t n y.st,none,bE 4 y.s,bF y.s,iU y.st])
noncomputable def ftSB:aI Ob:=fun args h=>match args,h with
 | [.ptr 0 0,.ptr 3 0],[some (.abs (.fast t n x) [1]),e1,e2,e3,e4]=>(match lB 2 [e1,e2],cL 4 [e3,e4]with
   | some (l2,t2,n2,st),some (l,s)=>some (.pre ((l=s.xs.length∧l2=st.R.length∧t2=t∧n2=n)∧RZ t n x st s) (FtO.finB t n (hU t n x st s)))
   | _,_=>none)
 | _,_=>none
theorem ZE:sT' 156 ftSB:=by
 intro args h o ho K hK;unfold ftSB at ho;split at ho
 case h_2=>cases ho
 split at ho<;>cases ho
 rename_i hs hm;obtain⟨⟨⟨hl,hl2,rfl,rfl⟩,ok⟩,hK⟩:=hK;have hh:=bB hm hl;cases hh;have hh:=cB hs hl2;cases hh;exact jN (fun ι hι=>by simp [aH.ren,aEN,AVal.ren,hι]) (fun ι hι=>by simp [aH.ren,hι]) (fun K hK=>FN _ _ _ _ _ K (aEG ok hK)) K hK
noncomputable def ftS:aI Ob:=aI.or ftSA ftSB
theorem aCj:sT' 156 ftS:=aEZ ZD ZE
def Y7(t n:Int)(v:AVal)(g:aD Ob):Option (Prop×(FTS×STS)):=match v,g with
 | .ptr 2 0,[e1,e2,some (.cells [.ptr 0 0,.int .i64 code,.bool okk,.int .i64 val,.bool failed,.int .i64 tries,.int .i64 sh,.int .i64 kd,.int .i64 ky,.int .i64 most,.int .i64 at',.bool p_now,.int .i64 p_code,.bool p_okk,.int .i64 p_val,.int .i64 p_addr,.int .u64 p_old,.int .i64 p_nxt,.bool p_mark,.int .i64 p_pops,.ptr 3 0,.O,.O]),some (.abs (.find t' n' sub) [])]=>(match lB 1 [e1,e2]with
   | some (l2,t2,n2,st)=>some ((t2=t∧n2=n∧l2=st.R.length)∧t'=t∧n'=n∧at'=0,⟨(⟨code,okk,val,failed,tries,sh,kd,ky,most,at',⟨p_now,p_code,p_okk,p_val,p_addr,p_old,p_nxt,p_mark,p_pops⟩,sub,⟨0,0,0,0⟩,⟨0,0,0,false⟩⟩:FTS),st⟩)
   | none=>none)
 | _,_=>none
abbrev RW(t n:Int)(y:(FTS×STS)):aD Ob:=[iT 1 t n y.2,iU y.2,some (.abs (.fast t n y.1) [0])]
theorem RX{t n:Int} :bS (obI tbl) 2 (Y7 t n) (fun y=>.ret (.ptr 2 0) (RW t n y)):=by
 intro v g p x hp hq K hK;unfold Y7 at hp;split at hp
 case h_2=>cases hp
 rename_i e1 e2 code okk val failed tries sh kd ky most at' p_now p_code p_okk p_val p_addr p_old p_nxt p_mark p_pops t' n' sub;split at hp
 case h_2=>cases hp
 rename_i l2 t2 n2 st hs;simp only [sI',pI']at hp;obtain⟨rfl,rfl⟩:=hp;obtain⟨⟨rfl,rfl,hl2⟩,rfl,rfl,hat⟩:=hq;have hh:=cB hs hl2;cases hh;exact let X0:FTS:=⟨code,okk,val,failed,tries,sh,kd,ky,most,at',⟨p_now,p_code,p_okk,p_val,p_addr,p_old,p_nxt,p_mark,p_pops⟩,sub,⟨0,0,0,0⟩,⟨0,0,0,false⟩⟩;⟨⟨_,_,aF.pack (RW t' n' (X0,st)) (.fast t' n' X0) 2 1 (lE t' n' X0) [0] (by kernel_rfl) rfl (congrArg (Prod.mk 1) (xP hat)) (by kernel_rfl),hK⟩⟩
def LH(t n:Int)(sh kd ky most:Int)(st:STS):Tr (FTS×STS):=.pre True (.pre (oC t n st.1 (eU sh ky) (lV sh kd ky) (W (most - 0))∧True) (.pre ((t=t∧n=n∧lE' st.3)∧t=t∧n=n∧(0:Int)=(0:Int)) (.ret ({code:=0,okk:=false,val:=0,failed:=false,tries:=0,sh:=sh,kd:=kd,ky:=ky,most:=most,at':=0,p:=aBN,fn:=tP t n st.1 (eU sh ky) (lV sh kd ky) (W (most - 0)),cl:=b9,pr:=dF},st))))
def jS(t n:Int)(sh kd ky most:Int)(st:STS):(FTS×STS):=(LH t n sh kd ky most st).val
def tQ(t n:Int)(sh kd ky most:Int)(st:STS):Prop:=(LH t n sh kd ky most st).ok
def ftNS:aI Ob:=fun args h=>match args,h with
 | [.ptr 0 0,.agg [.int .i64 sh,.int .i64 kd,.int .i64 ky],.int .i64 most],[e1,e2]=>(match lB 1 [e1,e2]with
   | some (l2,t,n,st)=>some (.pre (l2=st.R.length∧tQ t n sh kd ky most st) (.ret (.ptr 2 0) (RW t n (jS t n sh kd ky most st))))
   | none=>none)
 | _,_=>none
theorem Y8:sT' 253 ftNS:=by
 intro args h o ho K hK;unfold ftNS at ho;split at ho
 case h_2=>cases ho
 rename_i sh kd ky most e1 e2;split at ho<;>cases ho
 rename_i l2 t n st hs;obtain⟨⟨hl2,ok⟩,hK⟩:=hK;have hh:=cB hs hl2;cases hh;refine aEL (root:=2) (pos:=[20,21,22]) (cs:=[]) (parse:=Y7 t n) RX ?_;exact cM' (E:=ER) (q:=(LH t n sh kd ky most st).run (fun y=>(Out.ret (.ptr 2 0) (RW t n y)).run K)) (by kernel_rfl) (aEG ok hK)
noncomputable def ET:=((ER.addS 156 ftS aCj).addS 253 ftNS Y8)
def DR:bD Ob:=fun args h=>match args,h with
 | [.ptr 0 0],[some (.cells [.ptr 1 0,.int .i64 u,.int .u64 no,.int .i64 rounds,.int .i64 limit,.int .i64 at',.int .u64 found,.int .i64 sh,.int .i64 kd,.int .i64 ky,.bool p_now,.int .i64 p_code,.bool p_okk,.int .i64 p_val,.int .i64 p_addr,.int .u64 p_old,.int .i64 p_nxt,.bool p_mark,.int .i64 p_pops,.O,.O,.O,.O,.O]),some (.cells [.int .i64 t,.int .i64 n,.int .i64 me,.int .i64 sp,.slice 2 0 k 1]),some (.ints (some .i64) R)]=>some (True,.agg [.I (aA found 0 12),.I (aA found 12 9),.I (aA found 21 18),.I (aA found 39 9),.bool (ieq (aA found 48 1) 1),.I (aA found 49 3),.I (aA found 52 10)])
 | _,_=>none
theorem LS:sT' 196 DR.spec:=by
 intro args h o ho K hK;unfold bD.spec DR at ho;split at ho
 case h_2=>cases ho
 rename_i p v hp;split at hp
 case h_2=>cases hp
 rename_i u no rounds limit at' found sh kd ky p_now p_code p_okk p_val p_addr p_old p_nxt p_mark p_pops t n me sp k R;simp only [sI',pI']at hp;obtain⟨rfl,rfl⟩:=hp;simp only [sI']at ho;subst ho;obtain⟨hp,hK⟩:=hK;have hK:K (.agg [.I (aA found 0 12),.I (aA found 12 9),.I (aA found 21 18),.I (aA found 39 9),.bool (ieq (aA found 48 1) 1),.I (aA found 49 3),.I (aA found 52 10)]) [cE' [.ptr 1 0,.I u,.int .u64 no,.I rounds,.I limit,.I at',.int .u64 found,.I sh,.I kd,.I ky,.bool p_now,.I p_code,.bool p_okk,.I p_val,.I p_addr,.int .u64 p_old,.I p_nxt,.bool p_mark,.I p_pops,.O,.O,.O,.O,.O],cE' [.I t,.I n,.I me,.I sp,.slice 2 0 k 1],iI' R]:=hK;refine aEA (cM' (E:=ET) (q:=True∧K (.agg [.I (aA found 0 12),.I (aA found 12 9),.I (aA found 21 18),.I (aA found 39 9),.bool (ieq (aA found 48 1) 1),.I (aA found 49 3),.I (aA found 52 10)]) [cE' [.ptr 1 0,.I u,.int .u64 no,.I rounds,.I limit,.I at',.int .u64 found,.I sh,.I kd,.I ky,.bool p_now,.I p_code,.bool p_okk,.I p_val,.I p_addr,.int .u64 p_old,.I p_nxt,.bool p_mark,.I p_pops,.O,.O,.O,.O,.O],cE' [.I t,.I n,.I me,.I sp,.slice 2 0 k 1],iI' R]) (by kernel_rfl) ?_)
 exact⟨trivial,hK⟩
noncomputable def EH0:=ET.addR 196 DR LS
end Go.Sh
