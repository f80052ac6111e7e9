import Derived.Test.YteindpciaceeeaaGreatZMLtoGX
set_option linter.all false
set_option maxHeartbeats 8000000
namespace Go.Sh
open Go Go.Proofs
variable [Con]
structure ExO where
 d:Bool
 x:EXS
 s:MS
instance:Inhabited ExO:=⟨⟨false,cL,⟨0,0,[],0,0,0,0,0,false⟩⟩⟩
instance:Inhabited EXS:=⟨cL⟩
abbrev exH(t n:Int)(x:EXS)(s:MS):aC Ob:=[some (.abs (.exec t n x) []),bE 2 s,bF s]
abbrev exD(t n:Int)(x:EXS)(s:MS):aC Ob:=[cE' [.I t,.I n,.I x.popped,.I x.gave,.I x.u,.I x.sh,.I x.kd,.I x.ky,.bool x.only,.I x.att,.I x.at',.int .u64 x.found,.int .u64 x.word],bE 2 s,bF s]
def ExO.fin(t n:Int)(y:ExO):Out Ob:=.ite y.d (.ret (.bool true) (exD t n y.x y.s)) (.ret (.bool false) (exH t n y.x y.s))
def aAI(t n:Int)(v:AVal)(g:aC Ob):Option (Prop×ExO):=match v,g with
 | .bool d,[some (.cells [.int .i64 t1,.int .i64 n1,.int .i64 popped,.int .i64 gave,.int .i64 u,.int .i64 sh,.int .i64 kd,.int .i64 ky,.bool only,.int .i64 att,.int .i64 at',.int .u64 found,.int .u64 word]),e1,e2]=>(match cO 2 [e1,e2]with
   | some (l,s)=>some ((t1=t∧n1=n)∧l=s.xs.length,⟨d,⟨popped,gave,u,sh,kd,ky,only,att,at',found,word⟩,s⟩)
   | none=>none)
 | _,_=>none
def vQ(t n:Int)(v:AVal)(g:aC Ob):Option (Prop×ExO):=aAI t n v g
theorem TQ{t n:Int} :bV (obI tbl) 3 (aAI t n) (ExO.fin t n):=by
 intro v g p x hp hq K hK;unfold aAI at hp;split at hp
 case h_2=>cases hp
 rename_i d t1 n1 popped gave u sh kd ky only att at' found word e1 e2;split at hp
 case h_2=>cases hp
 rename_i l s hm;simp only [sI',pI']at hp;obtain⟨rfl,rfl⟩:=hp;obtain⟨⟨rfl,rfl⟩,hl⟩:=hq;have hh:=bD hm hl;cases hh;refine qP hK (fun h=>?_) (fun h=>?_)
 ·exact⟨⟨_,_,aGW _ _ _,h⟩⟩
 ·exact⟨⟨_,_,(aF.pack (exH t1 n1 (⟨popped,gave,u,sh,kd,ky,only,att,at',found,word⟩:EXS) s) (.exec t1 n1 (⟨popped,gave,u,sh,kd,ky,only,att,at',found,word⟩:EXS)) 0 0 (gW t1 n1 (⟨popped,gave,u,sh,kd,ky,only,att,at',found,word⟩:EXS)) [] (by kernel_rfl) rfl (congrArg (Prod.mk 0) rfl) (by kernel_rfl)),h⟩⟩
theorem lB{t n:Int} :bV (obI tbl) 3 (vQ t n) (ExO.fin t n):=by
 intro v g p x hp hq K hK;unfold vQ at hp;exact TQ v g p x hp hq K hK
abbrev w0g(n t:Int)(x:EXS):=(((0:Int)≤t∧t≤(100000:Int))∧((0:Int)≤n∧n≤(100000:Int))∧(-1099511627776:Int)≤x.3∧x.3≤(1099511627776:Int))∧True
abbrev w0i(n:Int)(s:MS)(t:Int)(x:EXS):Tr ExO:=.ret {d:=true,x:= {x with at':=0,found:=aE s.3 (2*n+5+2*t+3*x.3+2)},s:= {s with c:=s.4+1,k:=1,a:=2*n+5+2*t+3*x.3+2,o:=aE s.3 (2*n+5+2*t+3*x.3+2),w:=aE s.3 (2*n+5+2*t+3*x.3+2),ok:=bT s.3 (2*n+5+2*t+3*x.3+2) } }
abbrev w0l(n:Int)(s:MS)(t:Int)(x:EXS):Tr ExO:=.ret {d:=false,x:= {x with at':=1,found:=aE s.3 (2*n+5+2*t+3*x.3+2)},s:= {s with c:=s.4+1,k:=1,a:=2*n+5+2*t+3*x.3+2,o:=aE s.3 (2*n+5+2*t+3*x.3+2),w:=aE s.3 (2*n+5+2*t+3*x.3+2),ok:=bT s.3 (2*n+5+2*t+3*x.3+2) } }
abbrev w0m(n:Int)(s:MS)(t:Int)(x:EXS):Tr ExO:=.ret {d:=false,x:= {x with at':=5,found:=aE s.3 (2*n+5+2*t+3*x.3+2)},s:= {s with c:=s.4+1,k:=1,a:=2*n+5+2*t+3*x.3+2,o:=aE s.3 (2*n+5+2*t+3*x.3+2),w:=aE s.3 (2*n+5+2*t+3*x.3+2),ok:=bT s.3 (2*n+5+2*t+3*x.3+2) } }
abbrev w0n(n:Int)(s:MS)(t:Int)(x:EXS):Tr ExO:=.ret {d:=false,x:= {x with at':=8,found:=aE s.3 (2*n+5+2*t+3*x.3+2)},s:= {s with c:=s.4+1,k:=1,a:=2*n+5+2*t+3*x.3+2,o:=aE s.3 (2*n+5+2*t+3*x.3+2),w:=aE s.3 (2*n+5+2*t+3*x.3+2),ok:=bT s.3 (2*n+5+2*t+3*x.3+2) } }
abbrev w0s(n:Int)(s:MS)(t:Int)(x:EXS):=aA (aE s.3 (2*n+5+2*t+3*x.3+2)) 49 3
def AW(t n:Int)(x:EXS)(s:MS):Tr ExO:=.pre True (.pre True (.pre (w0g n t x) (.pre ((lE' s.3∧(0:Int)≤s.4∧s.4≤(4611686018427387904:Int))∧True) (.ite x.7 (.pre True (.ite (!ieq (aA (aE s.3 (2*n+5+2*t+3*x.3+2)) 0 12) x.8) (.pre ((t=t∧n=n)∧lE' s.3) (w0i n s t x)) (.pre True (.ite (ieq (w0s n s t x) 2) (.pre ((t=t∧n=n)∧lE' s.3) (w0l n s t x)) (.ite (ieq (w0s n s t x) 3) (.pre ((t=t∧n=n)∧lE' s.3) (w0m n s t x)) (.ite (ieq (w0s n s t x) 4) (.pre ((t=t∧n=n)∧lE' s.3) (w0n n s t x)) (.pre ((t=t∧n=n)∧lE' s.3) (w0i n s t x)))))))) (.pre True (.ite (ieq (w0s n s t x) 2) (.pre ((t=t∧n=n)∧lE' s.3) (w0l n s t x)) (.ite (ieq (w0s n s t x) 3) (.pre ((t=t∧n=n)∧lE' s.3) (w0m n s t x)) (.ite (ieq (w0s n s t x) 4) (.pre ((t=t∧n=n)∧lE' s.3) (w0n n s t x)) (.pre ((t=t∧n=n)∧lE' s.3) (w0i n s t x))))))))))
theorem IU(t n:Int)(x:EXS)(s:MS)(K:ExO→Prop)(h:(AW t n x s).run K):cT' 249 [.ptr 0 0,.ptr 1 0] [cE' [.I t,.I n,.I x.popped,.I x.gave,.I x.u,.I x.sh,.I x.kd,.I x.ky,.bool x.only,.I x.att,.I 0,.int .u64 x.found,.int .u64 x.word],bE 2 s,bF s] (bP 3 0 [] [] (vQ t n) K):=by
 exact cM' (E:=EX2) (by kernel_rfl) h
abbrev w0f(s:MS)(x:EXS):Tr ExO:=.ret {d:=false,x:= {x with at':=4,word:=aE s.3 (aA x.10 12 9) },s:= {s with c:=s.4+1,k:=1,a:=aA x.10 12 9,o:=aE s.3 (aA x.10 12 9),w:=aE s.3 (aA x.10 12 9),ok:=bT s.3 (aA x.10 12 9) } }
abbrev w0j(s:MS)(x:EXS):=ieq (aA (aE s.3 (aA x.10 12 9)) 25 18) (aA x.10 21 18)
abbrev w0o(s:MS)(x:EXS):Tr ExO:=.ret {d:=false,x:= {x with at':=3,word:=aE s.3 (aA x.10 12 9) },s:= {s with c:=s.4+1,k:=1,a:=aA x.10 12 9,o:=aE s.3 (aA x.10 12 9),w:=aE s.3 (aA x.10 12 9),ok:=bT s.3 (aA x.10 12 9) } }
abbrev w0r(s:MS)(x:EXS):=ieq (aA (aE s.3 (aA x.10 12 9)) 20 5) (W (x.3+1))
def AX(t n:Int)(x:EXS)(s:MS):Tr ExO:=.pre True (.pre True (.pre True (.pre (lE' s.3∧(0:Int)≤s.4∧s.4≤(4611686018427387904:Int)) (.pre True (.pre True (.ite (w0j s x) (.ite (ieq (aA (aE s.3 (aA x.10 12 9)) 20 5) 0) (.pre ((t=t∧n=n)∧lE' s.3) (.ret {d:=false,x:= {x with at':=2,word:=aE s.3 (aA x.10 12 9) },s:= {s with c:=s.4+1,k:=1,a:=aA x.10 12 9,o:=aE s.3 (aA x.10 12 9),w:=aE s.3 (aA x.10 12 9),ok:=bT s.3 (aA x.10 12 9) } })) (.pre True (.ite (w0j s x) (.ite (w0r s x) (.pre ((t=t∧n=n)∧lE' s.3) (w0o s x)) (.pre ((t=t∧n=n)∧lE' s.3) (w0f s x))) (.pre ((t=t∧n=n)∧lE' s.3) (w0f s x))))) (.pre True (.ite (w0j s x) (.ite (w0r s x) (.pre ((t=t∧n=n)∧lE' s.3) (w0o s x)) (.pre ((t=t∧n=n)∧lE' s.3) (w0f s x))) (.pre ((t=t∧n=n)∧lE' s.3) (w0f s x))))))))))
theorem IV(t n:Int)(x:EXS)(s:MS)(K:ExO→Prop)(h:(AX t n x s).run K):cT' 249 [.ptr 0 0,.ptr 1 0] [cE' [.I t,.I n,.I x.popped,.I x.gave,.I x.u,.I x.sh,.I x.kd,.I x.ky,.bool x.only,.I x.att,.I 1,.int .u64 x.found,.int .u64 x.word],bE 2 s,bF s] (bP 3 0 [] [] (vQ t n) K):=by
 exact cM' (E:=EX2) (by kernel_rfl) h
abbrev w0k(x:EXS):=ieq (aA x.10 48 1) 1
abbrev w0e(n:Int)(s:MS)(t:Int)(x:EXS):Tr ExO:=.ret {d:=true,x:= {x with at':=2},s:= {t:=s.1,n:=s.2,xs:=bif aW s.3 (aA x.10 12 9) x.11 then aY s.3 (aA x.10 12 9) (bif bif aK (aA x.11 0 10) 10 then bif aK (aA x.10 39 9) 9 then bif aK (x.3+1) 5 then aK (aA x.11 25 18) 18 else false else false else false then cN (aA x.11 0 10) (aA x.10 39 9) (w0k x) (x.3+1) (aA x.11 25 18)else 0)else s.3,c:=s.4+1,k:=3,a:=aA x.10 12 9,o:=aE s.3 (aA x.10 12 9),w:=bif bT s.3 (aA x.10 12 9)then bif bif aK (aA x.11 0 10) 10 then bif aK (aA x.10 39 9) 9 then bif aK (x.3+1) 5 then aK (aA x.11 25 18) 18 else false else false else false then cN (aA x.11 0 10) (aA x.10 39 9) (w0k x) (x.3+1) (aA x.11 25 18)else 0 else 0,ok:=aW s.3 (aA x.10 12 9) x.11} }
def AY(t n:Int)(x:EXS)(s:MS):Tr ExO:=.pre True (.pre True (.pre ((-1000000:Int)≤x.3∧x.3≤(1000000:Int)) (.pre (lE' s.3∧True∧True∧((lE' s.3∧(0:Int)≤s.4∧s.4≤(4611686018427387904:Int))∧True)∧True) (.ite (aW s.3 (aA x.10 12 9) x.11) (.pre True (.ite (oU x.4 x.5) (.pre ((t=t∧n=n)∧lE' (bif aW s.3 (aA x.10 12 9) x.11 then aY s.3 (aA x.10 12 9) (bif bif aK (aA x.11 0 10) 10 then bif aK (aA x.10 39 9) 9 then bif aK (x.3+1) 5 then aK (aA x.11 25 18) 18 else false else false else false then cN (aA x.11 0 10) (aA x.10 39 9) (w0k x) (x.3+1) (aA x.11 25 18)else 0)else s.3)) (.ret {d:=true,x:= {x with popped:=aA x.11 10 9,at':=2},s:= {t:=s.1,n:=s.2,xs:=bif aW s.3 (aA x.10 12 9) x.11 then aY s.3 (aA x.10 12 9) (bif bif aK (aA x.11 0 10) 10 then bif aK (aA x.10 39 9) 9 then bif aK (x.3+1) 5 then aK (aA x.11 25 18) 18 else false else false else false then cN (aA x.11 0 10) (aA x.10 39 9) (w0k x) (x.3+1) (aA x.11 25 18)else 0)else s.3,c:=s.4+1,k:=3,a:=aA x.10 12 9,o:=aE s.3 (aA x.10 12 9),w:=bif bT s.3 (aA x.10 12 9)then bif bif aK (aA x.11 0 10) 10 then bif aK (aA x.10 39 9) 9 then bif aK (x.3+1) 5 then aK (aA x.11 25 18) 18 else false else false else false then cN (aA x.11 0 10) (aA x.10 39 9) (w0k x) (x.3+1) (aA x.11 25 18)else 0 else 0,ok:=aW s.3 (aA x.10 12 9) x.11} })) (.pre ((t=t∧n=n)∧lE' (bif aW s.3 (aA x.10 12 9) x.11 then aY s.3 (aA x.10 12 9) (bif bif aK (aA x.11 0 10) 10 then bif aK (aA x.10 39 9) 9 then bif aK (x.3+1) 5 then aK (aA x.11 25 18) 18 else false else false else false then cN (aA x.11 0 10) (aA x.10 39 9) (w0k x) (x.3+1) (aA x.11 25 18)else 0)else s.3)) (w0e n s t x)))) (.pre ((t=t∧n=n)∧lE' (bif aW s.3 (aA x.10 12 9) x.11 then aY s.3 (aA x.10 12 9) (bif bif aK (aA x.11 0 10) 10 then bif aK (aA x.10 39 9) 9 then bif aK (x.3+1) 5 then aK (aA x.11 25 18) 18 else false else false else false then cN (aA x.11 0 10) (aA x.10 39 9) (w0k x) (x.3+1) (aA x.11 25 18)else 0)else s.3)) (w0e n s t x))))))
theorem IW(t n:Int)(x:EXS)(s:MS)(K:ExO→Prop)(h:(AY t n x s).run K):cT' 249 [.ptr 0 0,.ptr 1 0] [cE' [.I t,.I n,.I x.popped,.I x.gave,.I x.u,.I x.sh,.I x.kd,.I x.ky,.bool x.only,.I x.att,.I 2,.int .u64 x.found,.int .u64 x.word],bE 2 s,bF s] (bP 3 0 [] [] (vQ t n) K):=by
 exact cM' (E:=EX2) (by kernel_rfl) h
def AZ(t n:Int)(x:EXS)(s:MS):Tr ExO:=.pre True (.pre True (.pre True (.pre (lE' s.3) (.pre True (.pre (w0g n t x) (.pre ((lE' s.3∧(0:Int)≤s.4∧s.4≤(4611686018427387904:Int))∧True) (.pre ((t=t∧n=n)∧lE' (bif aW s.3 (2*n+5+2*t+3*x.3+2) x.10 then aY s.3 (2*n+5+2*t+3*x.3+2) (bif dOk (aA x.10 0 12) (aA x.10 12 9) (aA x.10 21 18) (aA x.10 39 9) 3 (aA x.10 52 10)then cM (aA x.10 0 12) (aA x.10 12 9) (aA x.10 21 18) (aA x.10 39 9) (w0k x) 3 (aA x.10 52 10)else 0)else s.3)) (.ret {d:=true,x:= {x with at':=3},s:= {t:=s.1,n:=s.2,xs:=bif aW s.3 (2*n+5+2*t+3*x.3+2) x.10 then aY s.3 (2*n+5+2*t+3*x.3+2) (bif dOk (aA x.10 0 12) (aA x.10 12 9) (aA x.10 21 18) (aA x.10 39 9) 3 (aA x.10 52 10)then cM (aA x.10 0 12) (aA x.10 12 9) (aA x.10 21 18) (aA x.10 39 9) (w0k x) 3 (aA x.10 52 10)else 0)else s.3,c:=s.4+1,k:=3,a:=2*n+5+2*t+3*x.3+2,o:=aE s.3 (2*n+5+2*t+3*x.3+2),w:=bif bT s.3 (2*n+5+2*t+3*x.3+2)then bif dOk (aA x.10 0 12) (aA x.10 12 9) (aA x.10 21 18) (aA x.10 39 9) 3 (aA x.10 52 10)then cM (aA x.10 0 12) (aA x.10 12 9) (aA x.10 21 18) (aA x.10 39 9) (w0k x) 3 (aA x.10 52 10)else 0 else 0,ok:=aW s.3 (2*n+5+2*t+3*x.3+2) x.10} }))))))))
theorem IX(t n:Int)(x:EXS)(s:MS)(K:ExO→Prop)(h:(AZ t n x s).run K):cT' 249 [.ptr 0 0,.ptr 1 0] [cE' [.I t,.I n,.I x.popped,.I x.gave,.I x.u,.I x.sh,.I x.kd,.I x.ky,.bool x.only,.I x.att,.I 3,.int .u64 x.found,.int .u64 x.word],bE 2 s,bF s] (bP 3 0 [] [] (vQ t n) K):=by
 exact cM' (E:=EX2) (by kernel_rfl) h
def A0(t n:Int)(x:EXS)(s:MS):Tr ExO:=.pre True (.pre True (.pre True (.pre (lE' s.3) (.pre True (.pre (w0g n t x) (.pre ((lE' s.3∧(0:Int)≤s.4∧s.4≤(4611686018427387904:Int))∧True) (.pre ((t=t∧n=n)∧lE' (bif aW s.3 (2*n+5+2*t+3*x.3+2) x.10 then aY s.3 (2*n+5+2*t+3*x.3+2) (bif dOk (aA x.10 0 12) (aA x.10 12 9) (aA x.10 21 18) (aA x.10 39 9) 4 (aA x.10 52 10)then cM (aA x.10 0 12) (aA x.10 12 9) (aA x.10 21 18) (aA x.10 39 9) (w0k x) 4 (aA x.10 52 10)else 0)else s.3)) (.ret {d:=true,x:= {x with at':=4},s:= {t:=s.1,n:=s.2,xs:=bif aW s.3 (2*n+5+2*t+3*x.3+2) x.10 then aY s.3 (2*n+5+2*t+3*x.3+2) (bif dOk (aA x.10 0 12) (aA x.10 12 9) (aA x.10 21 18) (aA x.10 39 9) 4 (aA x.10 52 10)then cM (aA x.10 0 12) (aA x.10 12 9) (aA x.10 21 18) (aA x.10 39 9) (w0k x) 4 (aA x.10 52 10)else 0)else s.3,c:=s.4+1,k:=3,a:=2*n+5+2*t+3*x.3+2,o:=aE s.3 (2*n+5+2*t+3*x.3+2),w:=bif bT s.3 (2*n+5+2*t+3*x.3+2)then bif dOk (aA x.10 0 12) (aA x.10 12 9) (aA x.10 21 18) (aA x.10 39 9) 4 (aA x.10 52 10)then cM (aA x.10 0 12) (aA x.10 12 9) (aA x.10 21 18) (aA x.10 39 9) (w0k x) 4 (aA x.10 52 10)else 0 else 0,ok:=aW s.3 (2*n+5+2*t+3*x.3+2) x.10} }))))))))
theorem IY(t n:Int)(x:EXS)(s:MS)(K:ExO→Prop)(h:(A0 t n x s).run K):cT' 249 [.ptr 0 0,.ptr 1 0] [cE' [.I t,.I n,.I x.popped,.I x.gave,.I x.u,.I x.sh,.I x.kd,.I x.ky,.bool x.only,.I x.att,.I 4,.int .u64 x.found,.int .u64 x.word],bE 2 s,bF s] (bP 3 0 [] [] (vQ t n) K):=by
 exact cM' (E:=EX2) (by kernel_rfl) h
abbrev w0d(s:MS)(x:EXS):Tr ExO:=.ret {d:=false,x:= {x with at':=7,word:=aE s.3 (aA x.10 12 9) },s:= {s with c:=s.4+1,k:=1,a:=aA x.10 12 9,o:=aE s.3 (aA x.10 12 9),w:=aE s.3 (aA x.10 12 9),ok:=bT s.3 (aA x.10 12 9) } }
abbrev w0p(s:MS)(x:EXS):Tr ExO:=.ret {d:=false,x:= {x with at':=6,word:=aE s.3 (aA x.10 12 9) },s:= {s with c:=s.4+1,k:=1,a:=aA x.10 12 9,o:=aE s.3 (aA x.10 12 9),w:=aE s.3 (aA x.10 12 9),ok:=bT s.3 (aA x.10 12 9) } }
def A1(t n:Int)(x:EXS)(s:MS):Tr ExO:=.pre True (.pre True (.pre True (.pre (lE' s.3∧(0:Int)≤s.4∧s.4≤(4611686018427387904:Int)) (.pre True (.pre True (.ite (w0j s x) (.ite (ieq (aA (aE s.3 (aA x.10 12 9)) 20 5) 0) (.pre ((t=t∧n=n)∧lE' s.3) (w0d s x)) (.pre True (.ite (w0j s x) (.ite (w0r s x) (.pre ((t=t∧n=n)∧lE' s.3) (w0p s x)) (.pre ((t=t∧n=n)∧lE' s.3) (w0d s x))) (.pre ((t=t∧n=n)∧lE' s.3) (w0d s x))))) (.pre True (.ite (w0j s x) (.ite (w0r s x) (.pre ((t=t∧n=n)∧lE' s.3) (w0p s x)) (.pre ((t=t∧n=n)∧lE' s.3) (w0d s x))) (.pre ((t=t∧n=n)∧lE' s.3) (w0d s x))))))))))
theorem IZ(t n:Int)(x:EXS)(s:MS)(K:ExO→Prop)(h:(A1 t n x s).run K):cT' 249 [.ptr 0 0,.ptr 1 0] [cE' [.I t,.I n,.I x.popped,.I x.gave,.I x.u,.I x.sh,.I x.kd,.I x.ky,.bool x.only,.I x.att,.I 5,.int .u64 x.found,.int .u64 x.word],bE 2 s,bF s] (bP 3 0 [] [] (vQ t n) K):=by
 exact cM' (E:=EX2) (by kernel_rfl) h
abbrev w0t(x:EXS):=aU (aA x.11 25 18)
def A2(t n:Int)(x:EXS)(s:MS):Tr ExO:=.pre True (.pre True (.pre ((0:Int)≤aA x.11 25 18∧aA x.11 25 (18:Int)≤(1000000:Int)) (.pre (lE' s.3) (.pre True (.pre True (.pre ((lE' s.3∧(0:Int)≤s.4∧s.4≤(4611686018427387904:Int))∧True) (.pre ((t=t∧n=n)∧lE' (bif aW s.3 (aA x.10 12 9) x.11 then aY s.3 (aA x.10 12 9) (bif bif aK (aA x.11 0 10) 10 then bif aK (aA x.11 10 9) 9 then bif aK 0 5 then aK (w0t x) 18 else false else false else false then cN (aA x.11 0 10) (aA x.11 10 9) (ieq (aA x.11 19 1) 1) 0 (w0t x)else 0)else s.3)) (.ret {d:=false,x:= {x with at':=7},s:= {t:=s.1,n:=s.2,xs:=bif aW s.3 (aA x.10 12 9) x.11 then aY s.3 (aA x.10 12 9) (bif bif aK (aA x.11 0 10) 10 then bif aK (aA x.11 10 9) 9 then bif aK 0 5 then aK (w0t x) 18 else false else false else false then cN (aA x.11 0 10) (aA x.11 10 9) (ieq (aA x.11 19 1) 1) 0 (w0t x)else 0)else s.3,c:=s.4+1,k:=3,a:=aA x.10 12 9,o:=aE s.3 (aA x.10 12 9),w:=bif bT s.3 (aA x.10 12 9)then bif bif aK (aA x.11 0 10) 10 then bif aK (aA x.11 10 9) 9 then bif aK 0 5 then aK (w0t x) 18 else false else false else false then cN (aA x.11 0 10) (aA x.11 10 9) (ieq (aA x.11 19 1) 1) 0 (w0t x)else 0 else 0,ok:=aW s.3 (aA x.10 12 9) x.11} }))))))))
theorem I0(t n:Int)(x:EXS)(s:MS)(K:ExO→Prop)(h:(A2 t n x s).run K):cT' 249 [.ptr 0 0,.ptr 1 0] [cE' [.I t,.I n,.I x.popped,.I x.gave,.I x.u,.I x.sh,.I x.kd,.I x.ky,.bool x.only,.I x.att,.I 6,.int .u64 x.found,.int .u64 x.word],bE 2 s,bF s] (bP 3 0 [] [] (vQ t n) K):=by
 exact cM' (E:=EX2) (by kernel_rfl) h
def A3(t n:Int)(x:EXS)(s:MS):Tr ExO:=.pre True (.pre True (.pre True (.pre (lE' s.3) (.pre True (.pre (w0g n t x) (.pre ((lE' s.3∧(0:Int)≤s.4∧s.4≤(4611686018427387904:Int))∧True) (.pre ((t=t∧n=n)∧lE' (bif aW s.3 (2*n+5+2*t+3*x.3+2) x.10 then aY s.3 (2*n+5+2*t+3*x.3+2) (bif dOk (aA x.10 0 12) 0 0 0 5 (aA x.10 52 10)then cM (aA x.10 0 12) 0 0 0 true 5 (aA x.10 52 10)else 0)else s.3)) (.ret {d:=true,x:= {x with at':=7},s:= {t:=s.1,n:=s.2,xs:=bif aW s.3 (2*n+5+2*t+3*x.3+2) x.10 then aY s.3 (2*n+5+2*t+3*x.3+2) (bif dOk (aA x.10 0 12) 0 0 0 5 (aA x.10 52 10)then cM (aA x.10 0 12) 0 0 0 true 5 (aA x.10 52 10)else 0)else s.3,c:=s.4+1,k:=3,a:=2*n+5+2*t+3*x.3+2,o:=aE s.3 (2*n+5+2*t+3*x.3+2),w:=bif bT s.3 (2*n+5+2*t+3*x.3+2)then bif dOk (aA x.10 0 12) 0 0 0 5 (aA x.10 52 10)then cM (aA x.10 0 12) 0 0 0 true 5 (aA x.10 52 10)else 0 else 0,ok:=aW s.3 (2*n+5+2*t+3*x.3+2) x.10} }))))))))
theorem I1(t n:Int)(x:EXS)(s:MS)(K:ExO→Prop)(h:(A3 t n x s).run K):cT' 249 [.ptr 0 0,.ptr 1 0] [cE' [.I t,.I n,.I x.popped,.I x.gave,.I x.u,.I x.sh,.I x.kd,.I x.ky,.bool x.only,.I x.att,.I 7,.int .u64 x.found,.int .u64 x.word],bE 2 s,bF s] (bP 3 0 [] [] (vQ t n) K):=by
 exact cM' (E:=EX2) (by kernel_rfl) h
abbrev w0q(x:EXS):=eP (aA x.10 0 12)
abbrev w0h(n:Int)(s:MS)(t:Int)(x:EXS):Tr ExO:=.ret {d:=true,x:= {x with at':=9},s:= {t:=s.1,n:=s.2,xs:=bif aW s.3 (2*n+5+2*t+3*x.3+2) x.10 then aY s.3 (2*n+5+2*t+3*x.3+2) (bif dOk (w0q x) 0 0 0 1 0 then cM (w0q x) 0 0 0 false 1 0 else 0)else s.3,c:=s.4+1,k:=3,a:=2*n+5+2*t+3*x.3+2,o:=aE s.3 (2*n+5+2*t+3*x.3+2),w:=bif bT s.3 (2*n+5+2*t+3*x.3+2)then bif dOk (w0q x) 0 0 0 1 0 then cM (w0q x) 0 0 0 false 1 0 else 0 else 0,ok:=aW s.3 (2*n+5+2*t+3*x.3+2) x.10} }
def A4(t n:Int)(x:EXS)(s:MS):Tr ExO:=.pre True (.pre True (.pre ((0:Int)≤aA x.10 0 12∧aA x.10 0 (12:Int)≤(1000000:Int)) (.pre (lE' s.3∧True∧(w0g n t x)∧((lE' s.3∧(0:Int)≤s.4∧s.4≤(4611686018427387904:Int))∧True)∧True) (.ite (!aW s.3 (2*n+5+2*t+3*x.3+2) x.10) (.pre ((t=t∧n=n)∧lE' (bif aW s.3 (2*n+5+2*t+3*x.3+2) x.10 then aY s.3 (2*n+5+2*t+3*x.3+2) (bif dOk (w0q x) 0 0 0 1 0 then cM (w0q x) 0 0 0 false 1 0 else 0)else s.3)) (w0h n s t x)) (.pre True (.ite (!f5 x.5) (.pre ((t=t∧n=n)∧lE' (bif aW s.3 (2*n+5+2*t+3*x.3+2) x.10 then aY s.3 (2*n+5+2*t+3*x.3+2) (bif dOk (w0q x) 0 0 0 1 0 then cM (w0q x) 0 0 0 false 1 0 else 0)else s.3)) (w0h n s t x)) (.pre (True∧True) (.pre ((t=t∧n=n)∧lE' (bif aW s.3 (2*n+5+2*t+3*x.3+2) x.10 then aY s.3 (2*n+5+2*t+3*x.3+2) (bif dOk (w0q x) 0 0 0 1 0 then cM (w0q x) 0 0 0 false 1 0 else 0)else s.3)) (.ret {d:=!bW n (aA x.10 39 9),x:= {x with at':=9},s:= {t:=s.1,n:=s.2,xs:=bif aW s.3 (2*n+5+2*t+3*x.3+2) x.10 then aY s.3 (2*n+5+2*t+3*x.3+2) (bif dOk (w0q x) 0 0 0 1 0 then cM (w0q x) 0 0 0 false 1 0 else 0)else s.3,c:=s.4+1,k:=3,a:=2*n+5+2*t+3*x.3+2,o:=aE s.3 (2*n+5+2*t+3*x.3+2),w:=bif bT s.3 (2*n+5+2*t+3*x.3+2)then bif dOk (w0q x) 0 0 0 1 0 then cM (w0q x) 0 0 0 false 1 0 else 0 else 0,ok:=aW s.3 (2*n+5+2*t+3*x.3+2) x.10} })))))))))
theorem I2(t n:Int)(x:EXS)(s:MS)(K:ExO→Prop)(h:(A4 t n x s).run K):cT' 249 [.ptr 0 0,.ptr 1 0] [cE' [.I t,.I n,.I x.popped,.I x.gave,.I x.u,.I x.sh,.I x.kd,.I x.ky,.bool x.only,.I x.att,.I 8,.int .u64 x.found,.int .u64 x.word],bE 2 s,bF s] (bP 3 0 [] [] (vQ t n) K):=by
 exact cM' (E:=EX2) (by kernel_rfl) h
abbrev w0u(n:Int)(x:EXS):=n+4+aA x.10 39 9
def A5(t n:Int)(x:EXS)(s:MS):Tr ExO:=.pre True (.pre True (.pre ((((0:Int)≤t∧t≤(100000:Int))∧((0:Int)≤n∧n≤(100000:Int))∧(-1099511627776:Int)≤aA x.10 39 9∧aA x.10 39 (9:Int)≤(1099511627776:Int))∧True) (.pre ((lE' s.3∧(0:Int)≤s.4∧s.4≤(4611686018427387904:Int))∧True) (.pre ((t=t∧n=n)∧lE' (aY s.3 (w0u n x) (WU (aE s.3 (w0u n x)+1)))) (.ret {d:=true,x:= {x with gave:=aA x.10 39 9,at':=9},s:= {t:=s.1,n:=s.2,xs:=aY s.3 (w0u n x) (WU (aE s.3 (w0u n x)+1)),c:=s.4+1,k:=4,a:=n+4+aA x.10 39 9,o:=aE s.3 (w0u n x),w:=bif bT s.3 (w0u n x)then WU (aE s.3 (w0u n x)+1)else 0,ok:=bT s.3 (w0u n x) } })))))
theorem I3(t n:Int)(x:EXS)(s:MS)(K:ExO→Prop)(h:(A5 t n x s).run K):cT' 249 [.ptr 0 0,.ptr 1 0] [cE' [.I t,.I n,.I x.popped,.I x.gave,.I x.u,.I x.sh,.I x.kd,.I x.ky,.bool x.only,.I x.att,.I 9,.int .u64 x.found,.int .u64 x.word],bE 2 s,bF s] (bP 3 0 [] [] (vQ t n) K):=by
 exact cM' (E:=EX2) (by kernel_rfl) h
def exT(t n:Int)(x:EXS)(s:MS):Tr ExO:=
 bif ieq x.at' 0 then AW t n x s else
 bif ieq x.at' 1 then AX t n x s else
 bif ieq x.at' 2 then AY t n x s else
 bif ieq x.at' 3 then AZ t n x s else
 bif ieq x.at' 4 then A0 t n x s else
 bif ieq x.at' 5 then A1 t n x s else
 bif ieq x.at' 6 then A2 t n x s else
 bif ieq x.at' 7 then A3 t n x s else
 bif ieq x.at' 8 then A4 t n x s else
 bif ieq x.at' 9 then A5 t n x s else .pre False (.ret default)
def AV(t n:Int)(x:EXS)(s:MS):ExO:=(exT t n x s).val
def aAH(t n:Int)(x:EXS)(s:MS):Prop:=(exT t n x s).ok
theorem TR(t n:Int)(x:EXS)(s:MS)(K:AVal→aC Ob→Prop)(h:(exT t n x s).run (fun y=>(ExO.fin t n y).run K)):cT' 249 [.ptr 0 0,.ptr 1 0] (exH t n x s) K:=by
 unfold exT at h
 by_cases e:x.at'=0
 ·rw [e]at h;have h:(AW t n x s).run _:=h;refine aGL (root:=0) (pos:=[]) (cs:=[]) (parse:=vQ t n) (fin:=ExO.fin t n) lB (aS.unpack (.exec t n x) 0 0 (gW t n x) [] rfl (congrArg (Prod.mk 0) rfl) (by kernel_rfl) rfl) ?_
  have q:=IU t n x s _ h;rw [←e]at q;exact q
 rw [bK e]at h
 by_cases e:x.at'=1
 ·rw [e]at h;have h:(AX t n x s).run _:=h;refine aGL (root:=0) (pos:=[]) (cs:=[]) (parse:=vQ t n) (fin:=ExO.fin t n) lB (aS.unpack (.exec t n x) 0 0 (gW t n x) [] rfl (congrArg (Prod.mk 0) rfl) (by kernel_rfl) rfl) ?_
  have q:=IV t n x s _ h;rw [←e]at q;exact q
 rw [bK e]at h
 by_cases e:x.at'=2
 ·rw [e]at h;have h:(AY t n x s).run _:=h;refine aGL (root:=0) (pos:=[]) (cs:=[]) (parse:=vQ t n) (fin:=ExO.fin t n) lB (aS.unpack (.exec t n x) 0 0 (gW t n x) [] rfl (congrArg (Prod.mk 0) rfl) (by kernel_rfl) rfl) ?_
  have q:=IW t n x s _ h;rw [←e]at q;exact q
 rw [bK e]at h
 by_cases e:x.at'=3
 ·rw [e]at h;have h:(AZ t n x s).run _:=h;refine aGL (root:=0) (pos:=[]) (cs:=[]) (parse:=vQ t n) (fin:=ExO.fin t n) lB (aS.unpack (.exec t n x) 0 0 (gW t n x) [] rfl (congrArg (Prod.mk 0) rfl) (by kernel_rfl) rfl) ?_
  have q:=IX t n x s _ h;rw [←e]at q;exact q
 rw [bK e]at h
 by_cases e:x.at'=4
 ·rw [e]at h;have h:(A0 t n x s).run _:=h;refine aGL (root:=0) (pos:=[]) (cs:=[]) (parse:=vQ t n) (fin:=ExO.fin t n) lB (aS.unpack (.exec t n x) 0 0 (gW t n x) [] rfl (congrArg (Prod.mk 0) rfl) (by kernel_rfl) rfl) ?_
  have q:=IY t n x s _ h;rw [←e]at q;exact q
 rw [bK e]at h
 by_cases e:x.at'=5
 ·rw [e]at h;have h:(A1 t n x s).run _:=h;refine aGL (root:=0) (pos:=[]) (cs:=[]) (parse:=vQ t n) (fin:=ExO.fin t n) lB (aS.unpack (.exec t n x) 0 0 (gW t n x) [] rfl (congrArg (Prod.mk 0) rfl) (by kernel_rfl) rfl) ?_
  have q:=IZ t n x s _ h;rw [←e]at q;exact q
 rw [bK e]at h
 by_cases e:x.at'=6
 ·rw [e]at h;have h:(A2 t n x s).run _:=h;refine aGL (root:=0) (pos:=[]) (cs:=[]) (parse:=vQ t n) (fin:=ExO.fin t n) lB (aS.unpack (.exec t n x) 0 0 (gW t n x) [] rfl (congrArg (Prod.mk 0) rfl) (by kernel_rfl) rfl) ?_
  have q:=I0 t n x s _ h;rw [←e]at q;exact q
 rw [bK e]at h
 by_cases e:x.at'=7
 ·rw [e]at h;have h:(A3 t n x s).run _:=h;refine aGL (root:=0) (pos:=[]) (cs:=[]) (parse:=vQ t n) (fin:=ExO.fin t n) lB (aS.unpack (.exec t n x) 0 0 (gW t n x) [] rfl (congrArg (Prod.mk 0) rfl) (by kernel_rfl) rfl) ?_
  have q:=I1 t n x s _ h;rw [←e]at q;exact q
 rw [bK e]at h
 by_cases e:x.at'=8
 ·rw [e]at h;have h:(A4 t n x s).run _:=h;refine aGL (root:=0) (pos:=[]) (cs:=[]) (parse:=vQ t n) (fin:=ExO.fin t n) lB (aS.unpack (.exec t n x) 0 0 (gW t n x) [] rfl (congrArg (Prod.mk 0) rfl) (by kernel_rfl) rfl) ?_
  have q:=I2 t n x s _ h;rw [←e]at q;exact q
 rw [bK e]at h
 by_cases e:x.at'=9
 ·rw [e]at h;have h:(A5 t n x s).run _:=h;refine aGL (root:=0) (pos:=[]) (cs:=[]) (parse:=vQ t n) (fin:=ExO.fin t n) lB (aS.unpack (.exec t n x) 0 0 (gW t n x) [] rfl (congrArg (Prod.mk 0) rfl) (by kernel_rfl) rfl) ?_
  have q:=I3 t n x s _ h;rw [←e]at q;exact q
 rw [bK e]at h;exact h.1.elim
noncomputable def exS:aI Ob:=fun args h=>match args,h with
 | [.ptr 0 0,.ptr 1 0],[some (.abs (.exec t n x) []),e1,e2]=>(match cO 2 [e1,e2]with
   | some (l,s)=>some (.pre (l=s.xs.length∧aAH t n x s) (ExO.fin t n (AV t n x s)))
   | none=>none)
 | _,_=>none
theorem aDH:sT' 249 exS:=by
 intro args h o ho K hK;unfold exS at ho;split at ho
 case h_2=>cases ho
 split at ho<;>cases ho
 rename_i hm;obtain⟨⟨hl,ok⟩,hK⟩:=hK;have hh:=bD hm hl;cases hh;exact TR _ _ _ _ K (aGR ok hK)
def aAE(t n:Int)(v:AVal)(g:aC Ob):Option (Prop×EXS):=match v,g with
 | .ptr 0 0,[some (.cells [.int .i64 t1,.int .i64 n1,.int .i64 popped,.int .i64 gave,.int .i64 u,.int .i64 sh,.int .i64 kd,.int .i64 ky,.bool only,.int .i64 att,.int .i64 at',.int .u64 found,.int .u64 word])]=>some ((t1=t∧n1=n),(⟨popped,gave,u,sh,kd,ky,only,att,at',found,word⟩:EXS))
 | _,_=>none
abbrev TN(t n:Int)(y:EXS):aC Ob:=[some (.abs (.exec t n y) [])]
theorem TO{t n:Int} :bV (obI tbl) 0 (aAE t n) (fun y=>.ret (.ptr 0 0) (TN t n y)):=by
 intro v g p x hp hq K hK;unfold aAE at hp;split at hp
 case h_2=>cases hp
 rename_i t1 n1 popped gave u sh kd ky only att at' found word;simp only [sI',pI']at hp;obtain⟨rfl,rfl⟩:=hp;obtain⟨rfl,rfl⟩:=hq;exact⟨⟨_,_,aF.pack (TN t1 n1 (⟨popped,gave,u,sh,kd,ky,only,att,at',found,word⟩:EXS)) (.exec t1 n1 (⟨popped,gave,u,sh,kd,ky,only,att,at',found,word⟩:EXS)) 0 0 (gW t1 n1 (⟨popped,gave,u,sh,kd,ky,only,att,at',found,word⟩:EXS)) [] (by kernel_rfl) rfl (congrArg (Prod.mk 0) rfl) (by kernel_rfl),hK⟩⟩
def aAF(t n:Int)(u sh kd ky att:Int):Tr EXS:=.pre (t=t∧n=n) (.ret {popped:=0,gave:=0,u:=u,sh:=sh,kd:=kd,ky:=ky,only:=true,att:=att,at':=0,found:=0,word:=0})
def aAD(t n:Int)(u sh kd ky att:Int):EXS:=(aAF t n u sh kd ky att).val
def NI(t n:Int)(u sh kd ky att:Int):Prop:=(aAF t n u sh kd ky att).ok
def exNS:aI Ob:=fun args h=>match args,h with
 | [.agg [.int .i64 t,.int .i64 n],.int .i64 u,.agg [.int .i64 sh,.int .i64 kd,.int .i64 ky],.int .i64 att],[]=>some (.pre (NI t n u sh kd ky att) (.ret (.ptr 0 0) (TN t n (aAD t n u sh kd ky att))))
 | _,_=>none
theorem aAG:sT' 246 exNS:=by
 intro args h o ho K hK;unfold exNS at ho;split at ho<;>cases ho
 rename_i t n u sh kd ky att;obtain⟨ok,hK⟩:=hK;refine aGX (root:=0) (pos:=[]) (cs:=[]) (parse:=aAE t n) TO ?_;exact cM' (E:=EX2) (q:=(aAF t n u sh kd ky att).run (fun y=>(Out.ret (.ptr 0 0) (TN t n y)).run K)) (by kernel_rfl) (aGR ok hK)
noncomputable def EC6:=((EX2.addS 249 exS aDH).addS 246 exNS aAG)
structure PrO where
 d:Bool
 x:PRS
 st:STS
 s:MS
instance:Inhabited PrO:=⟨⟨false,⟨0,0,0,false⟩,⟨0,0,[]⟩,⟨0,0,[],0,0,0,0,0,false⟩⟩⟩
instance:Inhabited PRS:=⟨⟨0,0,0,false⟩⟩
abbrev prH(t n:Int)(x:PRS)(st:STS)(s:MS):aC Ob:=[some (.abs (.prepare t n x) [1]),some (.abs (.store t n st) []),bE 3 s,bF s]
abbrev prD(t n:Int)(x:PRS)(st:STS)(s:MS):aC Ob:=[cE' [.ptr 1 0,.I x.key,.I x.nxt,.int .u64 x.found,.bool x.loaded],some (.abs (.store t n st) []),bE 3 s,bF s]
def PrO.fin(t n:Int)(y:PrO):Out Ob:=.ite y.d (.ret (.bool true) (prD t n y.x y.st y.s)) (.ret (.bool false) (prH t n y.x y.st y.s))
def aBX(t n:Int)(v:AVal)(g:aC Ob):Option (Prop×PrO):=match v,g with
 | .bool d,[some (.cells [.ptr 1 0,.int .i64 key,.int .i64 nxt,.int .u64 found,.bool loaded]),e1,e3,e4,e2]=>(match lK 4 [e1,e2],cO 3 [e3,e4]with
   | some (l2,t2,n2,st),some (l,s)=>some ((t2=t∧n2=n)∧l=s.xs.length∧l2=st.R.length,⟨d,⟨key,nxt,found,loaded⟩,st,s⟩)
   | _,_=>none)
 | _,_=>none
def prP(t n:Int)(v:AVal)(g:aC Ob):Option (Prop×PrO):=aBX t n v g
theorem WA{t n:Int} :bV (obI tbl) 4 (aBX t n) (PrO.fin t n):=by
 intro v g p x hp hq K hK;unfold aBX at hp;split at hp
 case h_2=>cases hp
 rename_i d key nxt found loaded e1 e3 e4 e2;split at hp
 case h_2=>cases hp
 rename_i l2 t2 n2 st l s hs hm;simp only [sI',pI']at hp;obtain⟨rfl,rfl⟩:=hp;obtain⟨⟨rfl,rfl⟩,hl,hl2⟩:=hq;have hh:=bD hm hl;cases hh;have hh:=cH hs hl2;cases hh;refine qP hK (fun h=>?_) (fun h=>?_)
 ·exact⟨⟨_,_,(aF.pack (prD t2 n2 (⟨key,nxt,found,loaded⟩:PRS) st s) (.store t2 n2 st) 1 0 (dL t2 n2 st) [] (by kernel_rfl) rfl rfl (by kernel_rfl)),h⟩⟩
 ·exact let X0:PRS:=⟨key,nxt,found,loaded⟩;⟨⟨_,_,((aF.pack (aM (prH t2 n2 X0 st s) 0 1 (lS t2 n2 X0) [1]) (.store t2 n2 st) 1 0 (dL t2 n2 st) [] (by kernel_rfl) rfl rfl (by kernel_rfl)).trans (aF.pack (prH t2 n2 X0 st s) (.prepare t2 n2 X0) 0 1 (lS t2 n2 X0) [1] (by kernel_rfl) rfl (congrArg (Prod.mk 1) rfl) (by kernel_rfl))),h⟩⟩
theorem aBY{t n:Int} :bV (obI tbl) 4 (prP t n) (PrO.fin t n):=by
 intro v g p x hp hq K hK;unfold prP at hp;exact WA v g p x hp hq K hK
abbrev w0v(x:PRS):=aU (aA x.3 25 18)
def WB(t n:Int)(x:PRS)(st:STS)(s:MS):Tr PrO:=.ite (!x.4) (.pre (lE' s.3∧(0:Int)≤s.4∧s.4≤(4611686018427387904:Int)) (.pre ((t=t∧n=n)∧lE' s.3∧lE' st.3) (.ret {d:=false,x:= {key:=x.1,nxt:=x.2,found:=aE s.3 st.2,loaded:=true},st:=st,s:= {s with c:=s.4+1,k:=1,a:=st.2,o:=aE s.3 st.2,w:=aE s.3 st.2,ok:=bT s.3 st.2} }))) (.pre True (.pre ((0:Int)≤aA x.3 25 18∧aA x.3 25 (18:Int)≤(1000000:Int)) (.pre True (.pre (lE' s.3∧(0:Int)≤s.4∧s.4≤(4611686018427387904:Int)) (.pre ((t=t∧n=n)∧lE' (aY s.3 st.2 (bif bif aK x.1 10 then bif aK x.2 9 then bif aK 0 5 then aK (w0v x) 18 else false else false else false then cN x.1 x.2 false 0 (w0v x)else 0))∧lE' st.3) (.ret {d:=true,x:=x,st:=st,s:= {t:=s.1,n:=s.2,xs:=aY s.3 st.2 (bif bif aK x.1 10 then bif aK x.2 9 then bif aK 0 5 then aK (w0v x) 18 else false else false else false then cN x.1 x.2 false 0 (w0v x)else 0),c:=s.4+1,k:=2,a:=st.2,o:=aE s.3 st.2,w:=bif bT s.3 st.2 then bif bif aK x.1 10 then bif aK x.2 9 then bif aK 0 5 then aK (w0v x) 18 else false else false else false then cN x.1 x.2 false 0 (w0v x)else 0 else 0,ok:=bT s.3 st.2} }))))))
theorem PE(t n:Int)(x:PRS)(st:STS)(s:MS)(K:PrO→Prop)(h:(WB t n x st s).run K):cT' 216 [.ptr 0 0,.ptr 2 0] [cE' [.ptr 1 0,.I x.key,.I x.nxt,.int .u64 x.found,.bool x.loaded],iY 4 t n st,bE 3 s,bF s,iZ st] (bP 4 0 [] [(.cell 1 4,.ints (some .i64))] (prP t n) K):=by
 exact cM' (E:=EC6) (by kernel_rfl) h
def prT(t n:Int)(x:PRS)(st:STS)(s:MS):Tr PrO:=WB t n x st s
def prF(t n:Int)(x:PRS)(st:STS)(s:MS):PrO:=(prT t n x st s).val
def PB(t n:Int)(x:PRS)(st:STS)(s:MS):Prop:=(prT t n x st s).ok
theorem HK(t n:Int)(x:PRS)(st:STS)(s:MS)(K:AVal→aC Ob→Prop)(h:(prT t n x st s).run (fun y=>(PrO.fin t n y).run K)):cT' 216 [.ptr 0 0,.ptr 2 0] (prH t n x st s) K:=by
 unfold prT at h;exact aGL (root:=0) (pos:=[]) (cs:=[(.cell 1 4,.ints (some .i64))]) (parse:=prP t n) (fin:=PrO.fin t n) aBY ((aS.unpack (.prepare t n x) 0 1 (lS t n x) [1] rfl (congrArg (Prod.mk 1) rfl) (by kernel_rfl) rfl).trans (aS.unpack (.store t n st) 1 0 (dL t n st) [] rfl rfl rfl rfl)) (PE t n x st s _ h)
noncomputable def prSA:aI Ob:=fun args h=>match args,h with
 | [.ptr 0 0,.ptr 2 0],[some (.abs (.prepare t n x) [1]),some (.abs (.store t2 n2 st) []),e3,e4]=>(match cO 3 [e3,e4]with
   | some (l,s)=>some (.pre ((l=s.xs.length∧t2=t∧n2=n)∧PB t n x st s) (PrO.fin t n (prF t n x st s)))
   | none=>none)
 | _,_=>none
theorem aBZ:sT' 216 prSA:=by
 intro args h o ho K hK;unfold prSA at ho;split at ho
 case h_2=>cases ho
 split at ho<;>cases ho
 rename_i hm;obtain⟨⟨⟨hl,rfl,rfl⟩,ok⟩,hK⟩:=hK;have hh:=bD hm hl;cases hh;exact HK _ _ _ _ _ K (aGR ok hK)
def PrO.finB(t n:Int)(y:PrO):Out Ob:=.ite y.d (.ret (.bool true) ([cE' [.ptr 1 0,.I y.x.key,.I y.x.nxt,.int .u64 y.x.found,.bool y.x.loaded],iY 5 t n y.st,none,bE 4 y.s,bF y.s,iZ y.st])) (.ret (.bool false) [some (.abs (.prepare t n y.x) [1]),iY 5 t n y.st,none,bE 4 y.s,bF y.s,iZ y.st])
noncomputable def prSB:aI Ob:=fun args h=>match args,h with
 | [.ptr 0 0,.ptr 3 0],[some (.abs (.prepare t n x) [1]),e1,e2,e3,e4]=>(match lK 2 [e1,e2],cO 4 [e3,e4]with
   | some (l2,t2,n2,st),some (l,s)=>some (.pre ((l=s.xs.length∧l2=st.R.length∧t2=t∧n2=n)∧PB t n x st s) (PrO.finB t n (prF t n x st s)))
   | _,_=>none)
 | _,_=>none
theorem aB0:sT' 216 prSB:=by
 intro args h o ho K hK;unfold prSB at ho;split at ho
 case h_2=>cases ho
 split at ho<;>cases ho
 rename_i hs hm;obtain⟨⟨⟨hl,hl2,rfl,rfl⟩,ok⟩,hK⟩:=hK;have hh:=bD hm hl;cases hh;have hh:=cH hs hl2;cases hh;exact jR (fun ι hι=>by simp [aH.ren,aGY,AVal.ren,hι]) (fun ι hι=>by simp [aH.ren,hι]) (fun K hK=>HK _ _ _ _ _ K (aGR ok hK)) K hK
noncomputable def prS:aI Ob:=aI.or prSA prSB
theorem aEA:sT' 216 prS:=aG9 aBZ aB0
def aBV(t n:Int)(v:AVal)(g:aC Ob):Option (Prop×(PRS×STS)):=match v,g with
 | .ptr 2 0,[e1,e2,some (.cells [.ptr 0 0,.int .i64 key,.int .i64 nxt,.int .u64 found,.bool loaded])]=>(match lK 1 [e1,e2]with
   | some (l2,t2,n2,st)=>some ((t2=t∧n2=n∧l2=st.R.length),⟨(⟨key,nxt,found,loaded⟩:PRS),st⟩)
   | none=>none)
 | _,_=>none
abbrev VY(t n:Int)(y:(PRS×STS)):aC Ob:=[iY 1 t n y.2,iZ y.2,some (.abs (.prepare t n y.1) [0])]
theorem VZ{t n:Int} :bV (obI tbl) 2 (aBV t n) (fun y=>.ret (.ptr 2 0) (VY t n y)):=by
 intro v g p x hp hq K hK;unfold aBV at hp;split at hp
 case h_2=>cases hp
 rename_i e1 e2 key nxt found loaded;split at hp
 case h_2=>cases hp
 rename_i l2 t2 n2 st hs;simp only [sI',pI']at hp;obtain⟨rfl,rfl⟩:=hp;obtain⟨rfl,rfl,hl2⟩:=hq;have hh:=cH hs hl2;cases hh;exact⟨⟨_,_,aF.pack (VY t2 n2 ((⟨key,nxt,found,loaded⟩:PRS),st)) (.prepare t2 n2 (⟨key,nxt,found,loaded⟩:PRS)) 2 1 (lS t2 n2 (⟨key,nxt,found,loaded⟩:PRS)) [0] (by kernel_rfl) rfl (congrArg (Prod.mk 1) rfl) (by kernel_rfl),hK⟩⟩
def V9(t n:Int)(key nx:Int)(st:STS):Tr (PRS×STS):=.pre (t=t∧n=n∧lE' st.3) (.ret ({key:=key,nxt:=nx,found:=0,loaded:=false},st))
def qN(t n:Int)(key nx:Int)(st:STS):(PRS×STS):=(V9 t n key nx st).val
def CV(t n:Int)(key nx:Int)(st:STS):Prop:=(V9 t n key nx st).ok
def prNS:aI Ob:=fun args h=>match args,h with
 | [.ptr 0 0,.int .i64 key,.int .i64 nx],[e1,e2]=>(match lK 1 [e1,e2]with
   | some (l2,t,n,st)=>some (.pre (l2=st.R.length∧CV t n key nx st) (.ret (.ptr 2 0) (VY t n (qN t n key nx st))))
   | none=>none)
 | _,_=>none
theorem aBW:sT' 259 prNS:=by
 intro args h o ho K hK;unfold prNS at ho;split at ho
 case h_2=>cases ho
 rename_i key nx e1 e2;split at ho<;>cases ho
 rename_i l2 t n st hs;obtain⟨⟨hl2,ok⟩,hK⟩:=hK;have hh:=cH hs hl2;cases hh;refine aGX (root:=2) (pos:=[]) (cs:=[]) (parse:=aBV t n) VZ ?_;exact cM' (E:=EC6) (q:=(V9 t n key nx st).run (fun y=>(Out.ret (.ptr 2 0) (VY t n y)).run K)) (by kernel_rfl) (aGR ok hK)
noncomputable def EC7:=((EC6.addS 216 prS aEA).addS 259 prNS aBW)
structure FnO where
 d:Bool
 x:FNS
 s:MS
instance:Inhabited FnO:=⟨⟨false,aR,⟨0,0,[],0,0,0,0,0,false⟩⟩⟩
instance:Inhabited FNS:=⟨aR⟩
abbrev fnH(t n:Int)(x:FNS)(s:MS):aC Ob:=[some (.abs (.find t n x) []),bE 2 s,bF s]
abbrev fnD(t n:Int)(x:FNS)(s:MS):aC Ob:=[cE' [.I t,.I n,.I x.pred,.int .u64 x.pw,.I x.curr,.int .u64 x.cw,.I x.tries,.slice 3 0 x.ul.length 1,.bool x.ab,.I x.me,.I x.frm,.I x.key,.I x.limit,.I x.at',.I x.moved,.O],bE 2 s,bF s,iI' x.ul]
def FnO.fin(t n:Int)(y:FnO):Out Ob:=.ite y.d (.ret (.bool true) (fnD t n y.x y.s)) (.ret (.bool false) (fnH t n y.x y.s))
def aAP(t n:Int)(v:AVal)(g:aC Ob):Option (Prop×FnO):=match v,g with
 | .bool d,[some (.cells [.int .i64 t1,.int .i64 n1,.int .i64 pred,.int .u64 pw,.int .i64 curr,.int .u64 cw,.int .i64 tries,.slice 3 0 ul_l 1,.bool ab,.int .i64 me,.int .i64 frm,.int .i64 key,.int .i64 limit,.int .i64 at',.int .i64 moved,.O]),e1,e2,some (.ints (some .i64) ul)]=>(match cO 2 [e1,e2]with
   | some (l,s)=>some ((t1=t∧n1=n)∧ul_l=ul.length∧(d=false→at'≠4)∧l=s.xs.length,⟨d,⟨pred,pw,curr,cw,tries,ul,ab,me,frm,key,limit,at',moved,⟨0,0,0,0⟩⟩,s⟩)
   | none=>none)
 | _,_=>none
def aAQ(t n:Int)(v:AVal)(g:aC Ob):Option (Prop×FnO):=match v,g with
 | .bool d,[some (.cells [.int .i64 t1,.int .i64 n1,.int .i64 pred,.int .u64 pw,.int .i64 curr,.int .u64 cw,.int .i64 tries,.slice 3 0 ul_l 1,.bool ab,.int .i64 me,.int .i64 frm,.int .i64 key,.int .i64 limit,.int .i64 at',.int .i64 moved,.ptr 4 0]),e1,e2,some (.ints (some .i64) ul),some (.abs (.clear t' n' sub) [])]=>(match cO 2 [e1,e2]with
   | some (l,s)=>some ((t1=t∧n1=n)∧ul_l=ul.length∧t'=t∧n'=n∧(d=false→at'=4)∧l=s.xs.length,⟨d,⟨pred,pw,curr,cw,tries,ul,ab,me,frm,key,limit,at',moved,sub⟩,s⟩)
   | none=>none)
 | _,_=>none
def DE(t n:Int)(v:AVal)(g:aC Ob):Option (Prop×FnO):=(match aAP t n v g with
 | some r=>some r
 | none=>aAQ t n v g)
theorem TW{t n:Int} :bV (obI tbl) 3 (aAP t n) (FnO.fin t n):=by
 intro v g p x hp hq K hK;unfold aAP at hp;split at hp
 case h_2=>cases hp
 rename_i d t1 n1 pred pw curr cw tries ul_l ab me frm key limit at' moved e1 e2 ul;split at hp
 case h_2=>cases hp
 rename_i l s hm;simp only [sI',pI']at hp;obtain⟨rfl,rfl⟩:=hp;obtain⟨⟨rfl,rfl⟩,rfl,hat,hl⟩:=hq;have hh:=bD hm hl;cases hh;refine fH hK (fun h=>?_) (fun hd h=>?_)
 ·exact⟨⟨_,_,aGW _ _ _,h⟩⟩
 ·exact⟨⟨_,_,(aF.pack (fnH t1 n1 (⟨pred,pw,curr,cw,tries,ul,ab,me,frm,key,limit,at',moved,⟨0,0,0,0⟩⟩:FNS) s) (.find t1 n1 (⟨pred,pw,curr,cw,tries,ul,ab,me,frm,key,limit,at',moved,⟨0,0,0,0⟩⟩:FNS)) 0 0 (lC t1 n1 (⟨pred,pw,curr,cw,tries,ul,ab,me,frm,key,limit,at',moved,⟨0,0,0,0⟩⟩:FNS)) [] (by kernel_rfl) rfl (congrArg (Prod.mk 0) (iI (hat hd))) (by kernel_rfl)),h⟩⟩
theorem TX{t n:Int} :bV (obI tbl) 3 (aAQ t n) (FnO.fin t n):=by
 intro v g p x hp hq K hK;unfold aAQ at hp;split at hp
 case h_2=>cases hp
 rename_i d t1 n1 pred pw curr cw tries ul_l ab me frm key limit at' moved e1 e2 ul t' n' sub;split at hp
 case h_2=>cases hp
 rename_i l s hm;simp only [sI',pI']at hp;obtain⟨rfl,rfl⟩:=hp;obtain⟨⟨rfl,rfl⟩,rfl,rfl,rfl,hat,hl⟩:=hq;have hh:=bD hm hl;cases hh;refine fH hK (fun h=>?_) (fun hd h=>?_)
 ·exact⟨⟨_,_,(aF.weak (cA _ 0 [15])).trans ((aF.pick (upto 0 4) rfl).trans (aGQ (by kernel_rfl) (by kernel_rfl))),h⟩⟩
 ·exact⟨⟨_,_,(aF.pack (fnH t' n' (⟨pred,pw,curr,cw,tries,ul,ab,me,frm,key,limit,at',moved,sub⟩:FNS) s) (.find t' n' (⟨pred,pw,curr,cw,tries,ul,ab,me,frm,key,limit,at',moved,sub⟩:FNS)) 0 0 (qA t' n' (⟨pred,pw,curr,cw,tries,ul,ab,me,frm,key,limit,at',moved,sub⟩:FNS)) [] (by kernel_rfl) rfl (congrArg (Prod.mk 0) (GW (hat hd))) (by kernel_rfl)),h⟩⟩
theorem pE{t n:Int} :bV (obI tbl) 3 (DE t n) (FnO.fin t n):=by
 intro v g p x hp hq K hK;unfold DE at hp;split at hp
 ·rename_i r hr;cases hp;exact TW v g p x hr hq K hK
 exact TX v g p x hp hq K hK
abbrev w0y:=false=false→(0:Int)≠(4:Int)
abbrev w0z(s:MS)(x:FNS):Tr FnO:=.ret {d:=ieq (aA (aE s.3 x.1) 10 9) 0,x:= {x with pred:=0,pw:=aE s.3 x.1,curr:=aA (aE s.3 x.1) 10 9,cw:=0,tries:=W (x.5+1),ab:=ilt x.11 (W (x.5+1)),at':=1,cl:=cF},s:= {s with c:=s.4+1,k:=1,a:=x.1,o:=aE s.3 x.1,w:=aE s.3 x.1,ok:=bT s.3 x.1} }
abbrev w11(s:MS)(x:FNS):Tr FnO:=.ret {d:=ieq (aA (aE s.3 x.1) 10 9) 0,x:= {x with pw:=aE s.3 x.1,curr:=aA (aE s.3 x.1) 10 9,cw:=0,tries:=W (x.5+1),ab:=ilt x.11 (W (x.5+1)),at':=1,cl:=cF},s:= {s with c:=s.4+1,k:=1,a:=x.1,o:=aE s.3 x.1,w:=aE s.3 x.1,ok:=bT s.3 x.1} }
abbrev w13(s:MS)(x:FNS):=ieq (aA (aE s.3 x.1) 10 9) (0:Int)=false→(1:Int)≠(4:Int)
abbrev w14(x:FNS):=ilt x.11 (W (x.5+1))
abbrev w15(s:MS)(x:FNS):Tr FnO:=.ret {d:=false,x:= {x with pred:=x.9,pw:=0,curr:=0,cw:=0,tries:=W (x.5+1),ab:=ilt x.11 (W (x.5+1)),at':=0,moved:=0,cl:=cF},s:= {s with c:=s.4+1,k:=1,a:=x.1,o:=aE s.3 x.1,w:=aE s.3 x.1,ok:=bT s.3 x.1} }
abbrev w16(s:MS)(x:FNS):Tr FnO:=.ret {d:=false,x:= {x with pred:=x.9,tries:=W (x.5+1),ab:=ilt x.11 (W (x.5+1)),at':=0,moved:=0,cl:=cF},s:= {s with c:=s.4+1,k:=1,a:=x.1,o:=aE s.3 x.1,w:=aE s.3 x.1,ok:=bT s.3 x.1} }
abbrev w1e:=true=false→(0:Int)≠(4:Int)
abbrev w1f(s:MS)(x:FNS):=ieq (aA (aE s.3 x.1) 19 1) 1
def BA(t n:Int)(x:FNS)(s:MS):Tr FnO:=.pre (lE' s.3∧(0:Int)≤s.4∧s.4≤(4611686018427387904:Int)) (.pre True (.ite (w1f s x) (.ite (w14 x) (.ite (w14 x) (.pre ((t=t∧n=n)∧lE' x.6∧w1e∧lE' s.3) (.ret {d:=true,x:= {x with pred:=0,pw:=0,curr:=0,cw:=0,tries:=W (x.5+1),ab:=ilt x.11 (W (x.5+1)),at':=0,cl:=cF},s:= {s with c:=s.4+1,k:=1,a:=x.1,o:=aE s.3 x.1,w:=aE s.3 x.1,ok:=bT s.3 x.1} })) (.pre True (.ite (w1f s x) (.pre ((t=t∧n=n)∧lE' x.6∧w0y∧lE' s.3) (w15 s x)) (.pre ((t=t∧n=n)∧lE' x.6∧(w13 s x)∧lE' s.3) (w0z s x))))) (.ite (w14 x) (.pre ((t=t∧n=n)∧lE' x.6∧w1e∧lE' s.3) (.ret {d:=true,x:= {x with tries:=W (x.5+1),ab:=ilt x.11 (W (x.5+1)),at':=0,cl:=cF},s:= {s with c:=s.4+1,k:=1,a:=x.1,o:=aE s.3 x.1,w:=aE s.3 x.1,ok:=bT s.3 x.1} })) (.pre True (.ite (w1f s x) (.pre ((t=t∧n=n)∧lE' x.6∧w0y∧lE' s.3) (w16 s x)) (.pre ((t=t∧n=n)∧lE' x.6∧(w13 s x)∧lE' s.3) (w11 s x)))))) (.pre True (.ite (w1f s x) (.pre ((t=t∧n=n)∧lE' x.6∧w0y∧lE' s.3) (.ret {d:=false,x:= {x with pred:=x.9,at':=0,moved:=0,cl:=cF},s:= {s with c:=s.4+1,k:=1,a:=x.1,o:=aE s.3 x.1,w:=aE s.3 x.1,ok:=bT s.3 x.1} })) (.pre ((t=t∧n=n)∧lE' x.6∧(w13 s x)∧lE' s.3) (.ret {d:=ieq (aA (aE s.3 x.1) 10 9) 0,x:= {x with pw:=aE s.3 x.1,curr:=aA (aE s.3 x.1) 10 9,cw:=0,at':=1,cl:=cF},s:= {s with c:=s.4+1,k:=1,a:=x.1,o:=aE s.3 x.1,w:=aE s.3 x.1,ok:=bT s.3 x.1} }))))))
theorem I7(t n:Int)(x:FNS)(s:MS)(K:FnO→Prop)(h:(BA t n x s).run K):cT' 163 [.ptr 0 0,.ptr 1 0] [cE' [.I t,.I n,.I x.pred,.int .u64 x.pw,.I x.curr,.int .u64 x.cw,.I x.tries,.slice 3 0 x.ul.length 1,.bool x.ab,.I x.me,.I x.frm,.I x.key,.I x.limit,.I 0,.I x.moved,.O],bE 2 s,bF s,iI' x.ul] (bP 3 0 [15] [(.cell 0 7,.ints (some .i64))] (DE t n) K):=by
 exact cM' (E:=EC7) (by kernel_rfl) h
def BB(t n:Int)(x:FNS)(s:MS):Tr FnO:=.pre ((((0:Int)≤t∧t≤(100000:Int))∧((0:Int)≤n∧n≤(100000:Int))∧((-1099511627776:Int)≤x.8∧x.8≤(1099511627776:Int))∧(-1099511627776:Int)≤(1:Int)∧(1:Int)≤(1099511627776:Int))∧True) (.pre ((lE' s.3∧(0:Int)≤s.4∧s.4≤(4611686018427387904:Int))∧True) (.pre ((t=t∧n=n)∧lE' x.6∧(false=false→(2:Int)≠(4:Int))∧lE' (aY s.3 (2*n+5+2*x.8+1) (WU x.3))) (.ret {d:=false,x:= {x with at':=2,cl:=cF},s:= {t:=s.1,n:=s.2,xs:=aY s.3 (2*n+5+2*x.8+1) (WU x.3),c:=s.4+1,k:=2,a:=2*n+5+2*x.8+1,o:=aE s.3 (2*n+5+2*x.8+1),w:=bif bT s.3 (2*n+5+2*x.8+1)then WU x.3 else 0,ok:=bT s.3 (2*n+5+2*x.8+1) } })))
theorem I8(t n:Int)(x:FNS)(s:MS)(K:FnO→Prop)(h:(BB t n x s).run K):cT' 163 [.ptr 0 0,.ptr 1 0] [cE' [.I t,.I n,.I x.pred,.int .u64 x.pw,.I x.curr,.int .u64 x.cw,.I x.tries,.slice 3 0 x.ul.length 1,.bool x.ab,.I x.me,.I x.frm,.I x.key,.I x.limit,.I 1,.I x.moved,.O],bE 2 s,bF s,iI' x.ul] (bP 3 0 [15] [(.cell 0 7,.ints (some .i64))] (DE t n) K):=by
 exact cM' (E:=EC7) (by kernel_rfl) h
def BC(t n:Int)(x:FNS)(s:MS):Tr FnO:=.pre (lE' s.3∧(0:Int)≤s.4∧s.4≤(4611686018427387904:Int)) (.ite (!ieq (aE s.3 x.1) x.2) (.ite (w14 x) (.ite (w14 x) (.pre ((t=t∧n=n)∧lE' x.6∧(true=false→(2:Int)≠(4:Int))∧lE' s.3) (.ret {d:=true,x:= {x with pred:=0,pw:=0,curr:=0,cw:=0,tries:=W (x.5+1),ab:=ilt x.11 (W (x.5+1)),at':=2,cl:=cF},s:= {s with c:=s.4+1,k:=1,a:=x.1,o:=aE s.3 x.1,w:=aE s.3 x.1,ok:=bT s.3 x.1} })) (.pre True (.ite (w1f s x) (.pre ((t=t∧n=n)∧lE' x.6∧w0y∧lE' s.3) (w15 s x)) (.pre ((t=t∧n=n)∧lE' x.6∧(w13 s x)∧lE' s.3) (w0z s x))))) (.ite (w14 x) (.pre ((t=t∧n=n)∧lE' x.6∧(true=false→(2:Int)≠(4:Int))∧lE' s.3) (.ret {d:=true,x:= {x with tries:=W (x.5+1),ab:=ilt x.11 (W (x.5+1)),at':=2,cl:=cF},s:= {s with c:=s.4+1,k:=1,a:=x.1,o:=aE s.3 x.1,w:=aE s.3 x.1,ok:=bT s.3 x.1} })) (.pre True (.ite (w1f s x) (.pre ((t=t∧n=n)∧lE' x.6∧w0y∧lE' s.3) (w16 s x)) (.pre ((t=t∧n=n)∧lE' x.6∧(w13 s x)∧lE' s.3) (w11 s x)))))) (.pre ((t=t∧n=n)∧lE' x.6∧(false=false→(3:Int)≠(4:Int))∧lE' s.3) (.ret {d:=false,x:= {x with at':=3,cl:=cF},s:= {s with c:=s.4+1,k:=1,a:=x.1,o:=aE s.3 x.1,w:=aE s.3 x.1,ok:=bT s.3 x.1} })))
theorem I9(t n:Int)(x:FNS)(s:MS)(K:FnO→Prop)(h:(BC t n x s).run K):cT' 163 [.ptr 0 0,.ptr 1 0] [cE' [.I t,.I n,.I x.pred,.int .u64 x.pw,.I x.curr,.int .u64 x.cw,.I x.tries,.slice 3 0 x.ul.length 1,.bool x.ab,.I x.me,.I x.frm,.I x.key,.I x.limit,.I 2,.I x.moved,.O],bE 2 s,bF s,iI' x.ul] (bP 3 0 [15] [(.cell 0 7,.ints (some .i64))] (DE t n) K):=by
 exact cM' (E:=EC7) (by kernel_rfl) h
abbrev w17:=false=false→(4:Int)=(4:Int)
abbrev w1a(s:MS)(x:FNS):Tr FnO:=.ret {d:=false,x:= {x with cw:=aE s.3 x.3,at':=6,cl:=cF},s:= {s with c:=s.4+1,k:=1,a:=x.3,o:=aE s.3 x.3,w:=aE s.3 x.3,ok:=bT s.3 x.3} }
abbrev w1b(s:MS)(x:FNS):Tr FnO:=.ret {d:=false,x:= {x with cw:=aE s.3 x.3,at':=5,cl:=cF},s:= {s with c:=s.4+1,k:=1,a:=x.3,o:=aE s.3 x.3,w:=aE s.3 x.3,ok:=bT s.3 x.3} }
abbrev w1c(n:Int)(s:MS)(t:Int)(x:FNS):Tr FnO:=.ret {d:=false,x:= {x with cw:=aE s.3 x.3,at':=4,cl:=xT t n x.3},s:= {s with c:=s.4+1,k:=1,a:=x.3,o:=aE s.3 x.3,w:=aE s.3 x.3,ok:=bT s.3 x.3} }
abbrev w1d(n:Int)(s:MS)(t:Int)(x:FNS):Tr FnO:=.ret {d:=false,x:= {x with cw:=aE s.3 x.3,at':=4,cl:=xT t n x.1},s:= {s with c:=s.4+1,k:=1,a:=x.3,o:=aE s.3 x.3,w:=aE s.3 x.3,ok:=bT s.3 x.3} }
def BD(t n:Int)(x:FNS)(s:MS):Tr FnO:=.pre (lE' s.3∧(0:Int)≤s.4∧s.4≤(4611686018427387904:Int)) (.pre True (.ite (!ieq (aA (aE s.3 x.3) 19 1) 1) (.ite (ile x.10 (aA (aE s.3 x.3) 0 10)) (.pre ((t=t∧n=n)∧lE' x.6∧(true=false→(3:Int)≠(4:Int))∧lE' s.3) (.ret {d:=true,x:= {x with cw:=aE s.3 x.3,at':=3,cl:=cF},s:= {s with c:=s.4+1,k:=1,a:=x.3,o:=aE s.3 x.3,w:=aE s.3 x.3,ok:=bT s.3 x.3} })) (.ite (!ieq (aA (aE s.3 x.3) 19 1) 1) (.pre ((t=t∧n=n)∧lE' x.6∧(false=false→(6:Int)≠(4:Int))∧lE' s.3) (w1a s x)) (.ite (!ieq (aA (aE s.3 x.3) 20 5) 0) (.pre (pT t n x.3∧True) (.pre ((t=t∧n=n)∧lE' x.6∧t=t∧n=n∧w17∧lE' s.3) (w1c n s t x))) (.pre True (.ite (!ieq (aA x.2 20 5) 0) (.pre (pT t n x.1∧True) (.pre ((t=t∧n=n)∧lE' x.6∧t=t∧n=n∧w17∧lE' s.3) (w1d n s t x))) (.pre ((t=t∧n=n)∧lE' x.6∧(false=false→(5:Int)≠(4:Int))∧lE' s.3) (w1b s x))))))) (.ite (!ieq (aA (aE s.3 x.3) 19 1) 1) (.pre ((t=t∧n=n)∧lE' x.6∧(false=false→(6:Int)≠(4:Int))∧lE' s.3) (w1a s x)) (.ite (!ieq (aA (aE s.3 x.3) 20 5) 0) (.pre (pT t n x.3∧True) (.pre ((t=t∧n=n)∧lE' x.6∧t=t∧n=n∧w17∧lE' s.3) (w1c n s t x))) (.pre True (.ite (!ieq (aA x.2 20 5) 0) (.pre (pT t n x.1∧True) (.pre ((t=t∧n=n)∧lE' x.6∧t=t∧n=n∧w17∧lE' s.3) (w1d n s t x))) (.pre ((t=t∧n=n)∧lE' x.6∧(false=false→(5:Int)≠(4:Int))∧lE' s.3) (w1b s x))))))))
theorem JA(t n:Int)(x:FNS)(s:MS)(K:FnO→Prop)(h:(BD t n x s).run K):cT' 163 [.ptr 0 0,.ptr 1 0] [cE' [.I t,.I n,.I x.pred,.int .u64 x.pw,.I x.curr,.int .u64 x.cw,.I x.tries,.slice 3 0 x.ul.length 1,.bool x.ab,.I x.me,.I x.frm,.I x.key,.I x.limit,.I 3,.I x.moved,.O],bE 2 s,bF s,iI' x.ul] (bP 3 0 [15] [(.cell 0 7,.ints (some .i64))] (DE t n) K):=by
 exact cM' (E:=EC7) (by kernel_rfl) h
abbrev w19(x:FNS):=ilt x.11 (W (x.5+1))=false→(0:Int)≠(4:Int)
def BE(t n:Int)(x:FNS)(s:MS):Tr FnO:=.pre (lE' s.3∧LY t n x.14 s) (.ite (oP t n x.14 s).1 (.ite (w14 x) (.pre ((t=t∧n=n)∧lE' x.6∧(w19 x)∧lE' (ClO.s (oP t n x.14 s)).3) (.ret {d:=ilt x.11 (W (x.5+1)),x:= {x with pred:=0,pw:=0,curr:=0,cw:=0,tries:=W (x.5+1),ab:=ilt x.11 (W (x.5+1)),at':=0,cl:=cF},s:=(oP t n x.14 s).3})) (.pre ((t=t∧n=n)∧lE' x.6∧(w19 x)∧lE' (ClO.s (oP t n x.14 s)).3) (.ret {d:=ilt x.11 (W (x.5+1)),x:= {x with tries:=W (x.5+1),ab:=ilt x.11 (W (x.5+1)),at':=0,cl:=cF},s:=(oP t n x.14 s).3}))) (.pre ((t=t∧n=n)∧lE' x.6∧t=t∧n=n∧w17∧lE' (ClO.s (oP t n x.14 s)).3) (.ret {d:=false,x:= {x with at':=4,cl:=(oP t n x.14 s).2},s:=(oP t n x.14 s).3})))
theorem JB(t n:Int)(x:FNS)(s:MS)(K:FnO→Prop)(h:(BE t n x s).run K):cT' 163 [.ptr 0 0,.ptr 1 0] [cE' [.I t,.I n,.I x.pred,.int .u64 x.pw,.I x.curr,.int .u64 x.cw,.I x.tries,.slice 3 0 x.ul.length 1,.bool x.ab,.I x.me,.I x.frm,.I x.key,.I x.limit,.I 4,.I x.moved,.ptr 4 0],bE 2 s,bF s,iI' x.ul,some (.abs (.clear t n x.cl) [])] (bP 3 0 [15] [(.cell 0 7,.ints (some .i64))] (DE t n) K):=by
 exact cM' (E:=EC7) (by kernel_rfl) h
abbrev w0w(x:FNS):=aU (aA x.2 25 18)
abbrev w0x(x:FNS):=ieq (aA x.2 19 1) 1
def BF(t n:Int)(x:FNS)(s:MS):Tr FnO:=.pre True (.pre True (.pre ((0:Int)≤aA x.2 25 18∧aA x.2 25 (18:Int)≤(1000000:Int)) (.pre True (.pre ((lE' s.3∧(0:Int)≤s.4∧s.4≤(4611686018427387904:Int))∧True) (.ite (!aW s.3 x.1 x.2) (.ite (w14 x) (.pre ((t=t∧n=n)∧lE' x.6∧(w19 x)∧lE' (bif aW s.3 x.1 x.2 then aY s.3 x.1 (bif bif aK (aA x.2 0 10) 10 then bif aK (aA x.4 10 9) 9 then bif aK (aA x.2 20 5) 5 then aK (w0w x) 18 else false else false else false then cN (aA x.2 0 10) (aA x.4 10 9) (w0x x) (aA x.2 20 5) (w0w x)else 0)else s.3)) (.ret {d:=ilt x.11 (W (x.5+1)),x:= {x with pred:=0,pw:=0,curr:=0,cw:=0,tries:=W (x.5+1),ab:=ilt x.11 (W (x.5+1)),at':=0,cl:=cF},s:= {t:=s.1,n:=s.2,xs:=bif aW s.3 x.1 x.2 then aY s.3 x.1 (bif bif aK (aA x.2 0 10) 10 then bif aK (aA x.4 10 9) 9 then bif aK (aA x.2 20 5) 5 then aK (w0w x) 18 else false else false else false then cN (aA x.2 0 10) (aA x.4 10 9) (w0x x) (aA x.2 20 5) (w0w x)else 0)else s.3,c:=s.4+1,k:=3,a:=x.1,o:=aE s.3 x.1,w:=bif bT s.3 x.1 then bif bif aK (aA x.2 0 10) 10 then bif aK (aA x.4 10 9) 9 then bif aK (aA x.2 20 5) 5 then aK (w0w x) 18 else false else false else false then cN (aA x.2 0 10) (aA x.4 10 9) (w0x x) (aA x.2 20 5) (w0w x)else 0 else 0,ok:=aW s.3 x.1 x.2} })) (.pre ((t=t∧n=n)∧lE' x.6∧(w19 x)∧lE' (bif aW s.3 x.1 x.2 then aY s.3 x.1 (bif bif aK (aA x.2 0 10) 10 then bif aK (aA x.4 10 9) 9 then bif aK (aA x.2 20 5) 5 then aK (w0w x) 18 else false else false else false then cN (aA x.2 0 10) (aA x.4 10 9) (w0x x) (aA x.2 20 5) (w0w x)else 0)else s.3)) (.ret {d:=ilt x.11 (W (x.5+1)),x:= {x with tries:=W (x.5+1),ab:=ilt x.11 (W (x.5+1)),at':=0,cl:=cF},s:= {t:=s.1,n:=s.2,xs:=bif aW s.3 x.1 x.2 then aY s.3 x.1 (bif bif aK (aA x.2 0 10) 10 then bif aK (aA x.4 10 9) 9 then bif aK (aA x.2 20 5) 5 then aK (w0w x) 18 else false else false else false then cN (aA x.2 0 10) (aA x.4 10 9) (w0x x) (aA x.2 20 5) (w0w x)else 0)else s.3,c:=s.4+1,k:=3,a:=x.1,o:=aE s.3 x.1,w:=bif bT s.3 x.1 then bif bif aK (aA x.2 0 10) 10 then bif aK (aA x.4 10 9) 9 then bif aK (aA x.2 20 5) 5 then aK (w0w x) 18 else false else false else false then cN (aA x.2 0 10) (aA x.4 10 9) (w0x x) (aA x.2 20 5) (w0w x)else 0 else 0,ok:=aW s.3 x.1 x.2} }))) (.pre (0=0∧lE' x.6∧1=1∧x.6.length+(1:Nat)≤(4294967296:Nat)) (.ite (ile (W (x.13+1)) n) (.pre True (.ite (ieq (aA (bif bif aK (aA x.2 0 10) 10 then bif aK (aA x.4 10 9) 9 then bif aK (aA x.2 20 5) 5 then aK (w0w x) 18 else false else false else false then cN (aA x.2 0 10) (aA x.4 10 9) (w0x x) (aA x.2 20 5) (w0w x)else 0) 19 1) 1) (.pre ((t=t∧n=n)∧x.6.length+(1:Nat)=List.length (x.6++ [x.3])∧w0y∧lE' (bif aW s.3 x.1 x.2 then aY s.3 x.1 (bif bif aK (aA x.2 0 10) 10 then bif aK (aA x.4 10 9) 9 then bif aK (aA x.2 20 5) 5 then aK (w0w x) 18 else false else false else false then cN (aA x.2 0 10) (aA x.4 10 9) (w0x x) (aA x.2 20 5) (w0w x)else 0)else s.3)) (.ret {d:=false,x:= {x with pred:=x.9,ul:=x.6++ [x.3],at':=0,moved:=0,cl:=cF},s:= {t:=s.1,n:=s.2,xs:=bif aW s.3 x.1 x.2 then aY s.3 x.1 (bif bif aK (aA x.2 0 10) 10 then bif aK (aA x.4 10 9) 9 then bif aK (aA x.2 20 5) 5 then aK (w0w x) 18 else false else false else false then cN (aA x.2 0 10) (aA x.4 10 9) (w0x x) (aA x.2 20 5) (w0w x)else 0)else s.3,c:=s.4+1,k:=3,a:=x.1,o:=aE s.3 x.1,w:=bif bT s.3 x.1 then bif bif aK (aA x.2 0 10) 10 then bif aK (aA x.4 10 9) 9 then bif aK (aA x.2 20 5) 5 then aK (w0w x) 18 else false else false else false then cN (aA x.2 0 10) (aA x.4 10 9) (w0x x) (aA x.2 20 5) (w0w x)else 0 else 0,ok:=aW s.3 x.1 x.2} })) (.pre ((t=t∧n=n)∧x.6.length+(1:Nat)=List.length (x.6++ [x.3])∧(ieq (aA (bif bif aK (aA x.2 0 10) 10 then bif aK (aA x.4 10 9) 9 then bif aK (aA x.2 20 5) 5 then aK (w0w x) 18 else false else false else false then cN (aA x.2 0 10) (aA x.4 10 9) (w0x x) (aA x.2 20 5) (w0w x)else 0) 10 9) (0:Int)=false→(1:Int)≠(4:Int))∧lE' (bif aW s.3 x.1 x.2 then aY s.3 x.1 (bif bif aK (aA x.2 0 10) 10 then bif aK (aA x.4 10 9) 9 then bif aK (aA x.2 20 5) 5 then aK (w0w x) 18 else false else false else false then cN (aA x.2 0 10) (aA x.4 10 9) (w0x x) (aA x.2 20 5) (w0w x)else 0)else s.3)) (.ret {d:=ieq (aA (bif bif aK (aA x.2 0 10) 10 then bif aK (aA x.4 10 9) 9 then bif aK (aA x.2 20 5) 5 then aK (w0w x) 18 else false else false else false then cN (aA x.2 0 10) (aA x.4 10 9) (w0x x) (aA x.2 20 5) (w0w x)else 0) 10 9) 0,x:= {x with pw:=bif bif aK (aA x.2 0 10) 10 then bif aK (aA x.4 10 9) 9 then bif aK (aA x.2 20 5) 5 then aK (w0w x) 18 else false else false else false then cN (aA x.2 0 10) (aA x.4 10 9) (w0x x) (aA x.2 20 5) (w0w x)else 0,curr:=aA (bif bif aK (aA x.2 0 10) 10 then bif aK (aA x.4 10 9) 9 then bif aK (aA x.2 20 5) 5 then aK (w0w x) 18 else false else false else false then cN (aA x.2 0 10) (aA x.4 10 9) (w0x x) (aA x.2 20 5) (w0w x)else 0) 10 9,cw:=0,ul:=x.6++ [x.3],at':=1,moved:=W (x.13+1),cl:=cF},s:= {t:=s.1,n:=s.2,xs:=bif aW s.3 x.1 x.2 then aY s.3 x.1 (bif bif aK (aA x.2 0 10) 10 then bif aK (aA x.4 10 9) 9 then bif aK (aA x.2 20 5) 5 then aK (w0w x) 18 else false else false else false then cN (aA x.2 0 10) (aA x.4 10 9) (w0x x) (aA x.2 20 5) (w0w x)else 0)else s.3,c:=s.4+1,k:=3,a:=x.1,o:=aE s.3 x.1,w:=bif bT s.3 x.1 then bif bif aK (aA x.2 0 10) 10 then bif aK (aA x.4 10 9) 9 then bif aK (aA x.2 20 5) 5 then aK (w0w x) 18 else false else false else false then cN (aA x.2 0 10) (aA x.4 10 9) (w0x x) (aA x.2 20 5) (w0w x)else 0 else 0,ok:=aW s.3 x.1 x.2} })))) (.ite (w14 x) (.ite (w14 x) (.pre ((t=t∧n=n)∧x.6.length+(1:Nat)=List.length (x.6++ [x.3])∧(true=false→(5:Int)≠(4:Int))∧lE' (bif aW s.3 x.1 x.2 then aY s.3 x.1 (bif bif aK (aA x.2 0 10) 10 then bif aK (aA x.4 10 9) 9 then bif aK (aA x.2 20 5) 5 then aK (w0w x) 18 else false else false else false then cN (aA x.2 0 10) (aA x.4 10 9) (w0x x) (aA x.2 20 5) (w0w x)else 0)else s.3)) (.ret {d:=true,x:= {x with pred:=0,pw:=0,curr:=0,cw:=0,tries:=W (x.5+1),ul:=x.6++ [x.3],ab:=ilt x.11 (W (x.5+1)),at':=5,moved:=W (x.13+1),cl:=cF},s:= {t:=s.1,n:=s.2,xs:=bif aW s.3 x.1 x.2 then aY s.3 x.1 (bif bif aK (aA x.2 0 10) 10 then bif aK (aA x.4 10 9) 9 then bif aK (aA x.2 20 5) 5 then aK (w0w x) 18 else false else false else false then cN (aA x.2 0 10) (aA x.4 10 9) (w0x x) (aA x.2 20 5) (w0w x)else 0)else s.3,c:=s.4+1,k:=3,a:=x.1,o:=aE s.3 x.1,w:=bif bT s.3 x.1 then bif bif aK (aA x.2 0 10) 10 then bif aK (aA x.4 10 9) 9 then bif aK (aA x.2 20 5) 5 then aK (w0w x) 18 else false else false else false then cN (aA x.2 0 10) (aA x.4 10 9) (w0x x) (aA x.2 20 5) (w0w x)else 0 else 0,ok:=aW s.3 x.1 x.2} })) (.pre ((t=t∧n=n)∧x.6.length+(1:Nat)=List.length (x.6++ [x.3])∧w0y∧lE' (bif aW s.3 x.1 x.2 then aY s.3 x.1 (bif bif aK (aA x.2 0 10) 10 then bif aK (aA x.4 10 9) 9 then bif aK (aA x.2 20 5) 5 then aK (w0w x) 18 else false else false else false then cN (aA x.2 0 10) (aA x.4 10 9) (w0x x) (aA x.2 20 5) (w0w x)else 0)else s.3)) (.ret {d:=false,x:= {x with pred:=x.9,pw:=0,curr:=0,cw:=0,tries:=W (x.5+1),ul:=x.6++ [x.3],ab:=ilt x.11 (W (x.5+1)),at':=0,moved:=0,cl:=cF},s:= {t:=s.1,n:=s.2,xs:=bif aW s.3 x.1 x.2 then aY s.3 x.1 (bif bif aK (aA x.2 0 10) 10 then bif aK (aA x.4 10 9) 9 then bif aK (aA x.2 20 5) 5 then aK (w0w x) 18 else false else false else false then cN (aA x.2 0 10) (aA x.4 10 9) (w0x x) (aA x.2 20 5) (w0w x)else 0)else s.3,c:=s.4+1,k:=3,a:=x.1,o:=aE s.3 x.1,w:=bif bT s.3 x.1 then bif bif aK (aA x.2 0 10) 10 then bif aK (aA x.4 10 9) 9 then bif aK (aA x.2 20 5) 5 then aK (w0w x) 18 else false else false else false then cN (aA x.2 0 10) (aA x.4 10 9) (w0x x) (aA x.2 20 5) (w0w x)else 0 else 0,ok:=aW s.3 x.1 x.2} }))) (.ite (w14 x) (.pre ((t=t∧n=n)∧x.6.length+(1:Nat)=List.length (x.6++ [x.3])∧(true=false→(5:Int)≠(4:Int))∧lE' (bif aW s.3 x.1 x.2 then aY s.3 x.1 (bif bif aK (aA x.2 0 10) 10 then bif aK (aA x.4 10 9) 9 then bif aK (aA x.2 20 5) 5 then aK (w0w x) 18 else false else false else false then cN (aA x.2 0 10) (aA x.4 10 9) (w0x x) (aA x.2 20 5) (w0w x)else 0)else s.3)) (.ret {d:=true,x:= {x with tries:=W (x.5+1),ul:=x.6++ [x.3],ab:=ilt x.11 (W (x.5+1)),at':=5,moved:=W (x.13+1),cl:=cF},s:= {t:=s.1,n:=s.2,xs:=bif aW s.3 x.1 x.2 then aY s.3 x.1 (bif bif aK (aA x.2 0 10) 10 then bif aK (aA x.4 10 9) 9 then bif aK (aA x.2 20 5) 5 then aK (w0w x) 18 else false else false else false then cN (aA x.2 0 10) (aA x.4 10 9) (w0x x) (aA x.2 20 5) (w0w x)else 0)else s.3,c:=s.4+1,k:=3,a:=x.1,o:=aE s.3 x.1,w:=bif bT s.3 x.1 then bif bif aK (aA x.2 0 10) 10 then bif aK (aA x.4 10 9) 9 then bif aK (aA x.2 20 5) 5 then aK (w0w x) 18 else false else false else false then cN (aA x.2 0 10) (aA x.4 10 9) (w0x x) (aA x.2 20 5) (w0w x)else 0 else 0,ok:=aW s.3 x.1 x.2} })) (.pre ((t=t∧n=n)∧x.6.length+(1:Nat)=List.length (x.6++ [x.3])∧w0y∧lE' (bif aW s.3 x.1 x.2 then aY s.3 x.1 (bif bif aK (aA x.2 0 10) 10 then bif aK (aA x.4 10 9) 9 then bif aK (aA x.2 20 5) 5 then aK (w0w x) 18 else false else false else false then cN (aA x.2 0 10) (aA x.4 10 9) (w0x x) (aA x.2 20 5) (w0w x)else 0)else s.3)) (.ret {d:=false,x:= {x with pred:=x.9,tries:=W (x.5+1),ul:=x.6++ [x.3],ab:=ilt x.11 (W (x.5+1)),at':=0,moved:=0,cl:=cF},s:= {t:=s.1,n:=s.2,xs:=bif aW s.3 x.1 x.2 then aY s.3 x.1 (bif bif aK (aA x.2 0 10) 10 then bif aK (aA x.4 10 9) 9 then bif aK (aA x.2 20 5) 5 then aK (w0w x) 18 else false else false else false then cN (aA x.2 0 10) (aA x.4 10 9) (w0x x) (aA x.2 20 5) (w0w x)else 0)else s.3,c:=s.4+1,k:=3,a:=x.1,o:=aE s.3 x.1,w:=bif bT s.3 x.1 then bif bif aK (aA x.2 0 10) 10 then bif aK (aA x.4 10 9) 9 then bif aK (aA x.2 20 5) 5 then aK (w0w x) 18 else false else false else false then cN (aA x.2 0 10) (aA x.4 10 9) (w0x x) (aA x.2 20 5) (w0w x)else 0 else 0,ok:=aW s.3 x.1 x.2} })))))))))))
theorem JC(t n:Int)(x:FNS)(s:MS)(K:FnO→Prop)(h:(BF t n x s).run K):cT' 163 [.ptr 0 0,.ptr 1 0] [cE' [.I t,.I n,.I x.pred,.int .u64 x.pw,.I x.curr,.int .u64 x.cw,.I x.tries,.slice 3 0 x.ul.length 1,.bool x.ab,.I x.me,.I x.frm,.I x.key,.I x.limit,.I 5,.I x.moved,.O],bE 2 s,bF s,iI' x.ul] (bP 3 0 [15] [(.cell 0 7,.ints (some .i64))] (DE t n) K):=by
 exact cM' (E:=EC7) (by kernel_rfl) h
abbrev w1g(n:Int)(s:MS)(x:FNS):=aY s.3 (2*n+5+2*x.8+0) (WU x.3)
def BG(t n:Int)(x:FNS)(s:MS):Tr FnO:=.pre ((((0:Int)≤t∧t≤(100000:Int))∧((0:Int)≤n∧n≤(100000:Int))∧((-1099511627776:Int)≤x.8∧x.8≤(1099511627776:Int))∧(-1099511627776:Int)≤(0:Int)∧(0:Int)≤(1099511627776:Int))∧True) (.pre ((lE' s.3∧(0:Int)≤s.4∧s.4≤(4611686018427387904:Int))∧True) (.ite (ile (W (x.13+1)) n) (.pre ((t=t∧n=n)∧lE' x.6∧w0y∧lE' (w1g n s x)) (.ret {d:=false,x:= {x with pred:=x.3,at':=0,moved:=W (x.13+1),cl:=cF},s:= {t:=s.1,n:=s.2,xs:=aY s.3 (2*n+5+2*x.8+0) (WU x.3),c:=s.4+1,k:=2,a:=2*n+5+2*x.8+0,o:=aE s.3 (2*n+5+2*x.8+0),w:=bif bT s.3 (2*n+5+2*x.8+0)then WU x.3 else 0,ok:=bT s.3 (2*n+5+2*x.8+0) } })) (.ite (w14 x) (.ite (w14 x) (.pre ((t=t∧n=n)∧lE' x.6∧w1e∧lE' (w1g n s x)) (.ret {d:=true,x:= {x with pred:=0,pw:=0,curr:=0,cw:=0,tries:=W (x.5+1),ab:=ilt x.11 (W (x.5+1)),at':=0,moved:=W (x.13+1),cl:=cF},s:= {t:=s.1,n:=s.2,xs:=aY s.3 (2*n+5+2*x.8+0) (WU x.3),c:=s.4+1,k:=2,a:=2*n+5+2*x.8+0,o:=aE s.3 (2*n+5+2*x.8+0),w:=bif bT s.3 (2*n+5+2*x.8+0)then WU x.3 else 0,ok:=bT s.3 (2*n+5+2*x.8+0) } })) (.pre ((t=t∧n=n)∧lE' x.6∧w0y∧lE' (w1g n s x)) (.ret {d:=false,x:= {x with pred:=x.9,pw:=0,curr:=0,cw:=0,tries:=W (x.5+1),ab:=ilt x.11 (W (x.5+1)),at':=0,moved:=0,cl:=cF},s:= {t:=s.1,n:=s.2,xs:=aY s.3 (2*n+5+2*x.8+0) (WU x.3),c:=s.4+1,k:=2,a:=2*n+5+2*x.8+0,o:=aE s.3 (2*n+5+2*x.8+0),w:=bif bT s.3 (2*n+5+2*x.8+0)then WU x.3 else 0,ok:=bT s.3 (2*n+5+2*x.8+0) } }))) (.ite (w14 x) (.pre ((t=t∧n=n)∧lE' x.6∧w1e∧lE' (w1g n s x)) (.ret {d:=true,x:= {x with pred:=x.3,tries:=W (x.5+1),ab:=ilt x.11 (W (x.5+1)),at':=0,moved:=W (x.13+1),cl:=cF},s:= {t:=s.1,n:=s.2,xs:=aY s.3 (2*n+5+2*x.8+0) (WU x.3),c:=s.4+1,k:=2,a:=2*n+5+2*x.8+0,o:=aE s.3 (2*n+5+2*x.8+0),w:=bif bT s.3 (2*n+5+2*x.8+0)then WU x.3 else 0,ok:=bT s.3 (2*n+5+2*x.8+0) } })) (.pre ((t=t∧n=n)∧lE' x.6∧w0y∧lE' (w1g n s x)) (.ret {d:=false,x:= {x with pred:=x.9,tries:=W (x.5+1),ab:=ilt x.11 (W (x.5+1)),at':=0,moved:=0,cl:=cF},s:= {t:=s.1,n:=s.2,xs:=aY s.3 (2*n+5+2*x.8+0) (WU x.3),c:=s.4+1,k:=2,a:=2*n+5+2*x.8+0,o:=aE s.3 (2*n+5+2*x.8+0),w:=bif bT s.3 (2*n+5+2*x.8+0)then WU x.3 else 0,ok:=bT s.3 (2*n+5+2*x.8+0) } }))))))
theorem JD(t n:Int)(x:FNS)(s:MS)(K:FnO→Prop)(h:(BG t n x s).run K):cT' 163 [.ptr 0 0,.ptr 1 0] [cE' [.I t,.I n,.I x.pred,.int .u64 x.pw,.I x.curr,.int .u64 x.cw,.I x.tries,.slice 3 0 x.ul.length 1,.bool x.ab,.I x.me,.I x.frm,.I x.key,.I x.limit,.I 6,.I x.moved,.O],bE 2 s,bF s,iI' x.ul] (bP 3 0 [15] [(.cell 0 7,.ints (some .i64))] (DE t n) K):=by
 exact cM' (E:=EC7) (by kernel_rfl) h
def fnT(t n:Int)(x:FNS)(s:MS):Tr FnO:=
 bif ieq x.at' 0 then BA t n x s else
 bif ieq x.at' 1 then BB t n x s else
 bif ieq x.at' 2 then BC t n x s else
 bif ieq x.at' 3 then BD t n x s else
 bif ieq x.at' 4 then BE t n x s else
 bif ieq x.at' 5 then BF t n x s else
 bif ieq x.at' 6 then BG t n x s else .pre False (.ret default)
def aN(t n:Int)(x:FNS)(s:MS):FnO:=(fnT t n x s).val
def I6(t n:Int)(x:FNS)(s:MS):Prop:=(fnT t n x s).ok
theorem TZ(t n:Int)(x:FNS)(s:MS)(K:AVal→aC Ob→Prop)(h:(fnT t n x s).run (fun y=>(FnO.fin t n y).run K)):cT' 163 [.ptr 0 0,.ptr 1 0] (fnH t n x s) K:=by
 unfold fnT at h
 by_cases e:x.at'=0
 ·rw [e]at h;have h:(BA t n x s).run _:=h;refine aGL (root:=0) (pos:=[15]) (cs:=[(.cell 0 7,.ints (some .i64))]) (parse:=DE t n) (fin:=FnO.fin t n) pE (aS.unpack (.find t n x) 0 0 (lC t n x) [] rfl (congrArg (Prod.mk 0) (iI (by omega))) (by kernel_rfl) rfl) ?_
  have q:=I7 t n x s _ h;rw [←e]at q;exact q
 rw [bK e]at h
 by_cases e:x.at'=1
 ·rw [e]at h;have h:(BB t n x s).run _:=h;refine aGL (root:=0) (pos:=[15]) (cs:=[(.cell 0 7,.ints (some .i64))]) (parse:=DE t n) (fin:=FnO.fin t n) pE (aS.unpack (.find t n x) 0 0 (lC t n x) [] rfl (congrArg (Prod.mk 0) (iI (by omega))) (by kernel_rfl) rfl) ?_
  have q:=I8 t n x s _ h;rw [←e]at q;exact q
 rw [bK e]at h
 by_cases e:x.at'=2
 ·rw [e]at h;have h:(BC t n x s).run _:=h;refine aGL (root:=0) (pos:=[15]) (cs:=[(.cell 0 7,.ints (some .i64))]) (parse:=DE t n) (fin:=FnO.fin t n) pE (aS.unpack (.find t n x) 0 0 (lC t n x) [] rfl (congrArg (Prod.mk 0) (iI (by omega))) (by kernel_rfl) rfl) ?_
  have q:=I9 t n x s _ h;rw [←e]at q;exact q
 rw [bK e]at h
 by_cases e:x.at'=3
 ·rw [e]at h;have h:(BD t n x s).run _:=h;refine aGL (root:=0) (pos:=[15]) (cs:=[(.cell 0 7,.ints (some .i64))]) (parse:=DE t n) (fin:=FnO.fin t n) pE (aS.unpack (.find t n x) 0 0 (lC t n x) [] rfl (congrArg (Prod.mk 0) (iI (by omega))) (by kernel_rfl) rfl) ?_
  have q:=JA t n x s _ h;rw [←e]at q;exact q
 rw [bK e]at h
 by_cases e:x.at'=4
 ·rw [e]at h;have h:(BE t n x s).run _:=h;refine aGL (root:=0) (pos:=[15]) (cs:=[(.cell 0 7,.ints (some .i64))]) (parse:=DE t n) (fin:=FnO.fin t n) pE (aS.unpack (.find t n x) 0 0 (qA t n x) [] rfl (congrArg (Prod.mk 0) (GW e)) (by kernel_rfl) rfl) ?_
  have q:=JB t n x s _ h;rw [←e]at q;exact q
 rw [bK e]at h
 by_cases e:x.at'=5
 ·rw [e]at h;have h:(BF t n x s).run _:=h;refine aGL (root:=0) (pos:=[15]) (cs:=[(.cell 0 7,.ints (some .i64))]) (parse:=DE t n) (fin:=FnO.fin t n) pE (aS.unpack (.find t n x) 0 0 (lC t n x) [] rfl (congrArg (Prod.mk 0) (iI (by omega))) (by kernel_rfl) rfl) ?_
  have q:=JC t n x s _ h;rw [←e]at q;exact q
 rw [bK e]at h
 by_cases e:x.at'=6
 ·rw [e]at h;have h:(BG t n x s).run _:=h;refine aGL (root:=0) (pos:=[15]) (cs:=[(.cell 0 7,.ints (some .i64))]) (parse:=DE t n) (fin:=FnO.fin t n) pE (aS.unpack (.find t n x) 0 0 (lC t n x) [] rfl (congrArg (Prod.mk 0) (iI (by omega))) (by kernel_rfl) rfl) ?_
  have q:=JD t n x s _ h;rw [←e]at q;exact q
 rw [bK e]at h;exact h.1.elim
noncomputable def fnS:aI Ob:=fun args h=>match args,h with
 | [.ptr 0 0,.ptr 1 0],[some (.abs (.find t n x) []),e1,e2]=>(match cO 2 [e1,e2]with
   | some (l,s)=>some (.pre (l=s.xs.length∧I6 t n x s) (FnO.fin t n (aN t n x s)))
   | none=>none)
 | _,_=>none
theorem aDK:sT' 163 fnS:=by
 intro args h o ho K hK;unfold fnS at ho;split at ho
 case h_2=>cases ho
 split at ho<;>cases ho
 rename_i hm;obtain⟨⟨hl,ok⟩,hK⟩:=hK;have hh:=bD hm hl;cases hh;exact TZ _ _ _ _ K (aGR ok hK)
def aAN(t n:Int)(v:AVal)(g:aC Ob):Option (Prop×FNS):=match v,g with
 | .ptr 0 0,[some (.cells [.int .i64 t1,.int .i64 n1,.int .i64 pred,.int .u64 pw,.int .i64 curr,.int .u64 cw,.int .i64 tries,.slice 1 0 ul_l 1,.bool ab,.int .i64 me,.int .i64 frm,.int .i64 key,.int .i64 limit,.int .i64 at',.int .i64 moved,.O]),some (.ints (some .i64) ul)]=>some ((t1=t∧n1=n)∧ul_l=ul.length∧(at'≠4),(⟨pred,pw,curr,cw,tries,ul,ab,me,frm,key,limit,at',moved,⟨0,0,0,0⟩⟩:FNS))
 | _,_=>none
abbrev TU(t n:Int)(y:FNS):aC Ob:=[some (.abs (.find t n y) [])]
theorem TV{t n:Int} :bV (obI tbl) 0 (aAN t n) (fun y=>.ret (.ptr 0 0) (TU t n y)):=by
 intro v g p x hp hq K hK;unfold aAN at hp;split at hp
 case h_2=>cases hp
 rename_i t1 n1 pred pw curr cw tries ul_l ab me frm key limit at' moved ul;simp only [sI',pI']at hp;obtain⟨rfl,rfl⟩:=hp;obtain⟨⟨rfl,rfl⟩,rfl,hat⟩:=hq;exact⟨⟨_,_,aF.pack (TU t1 n1 (⟨pred,pw,curr,cw,tries,ul,ab,me,frm,key,limit,at',moved,⟨0,0,0,0⟩⟩:FNS)) (.find t1 n1 (⟨pred,pw,curr,cw,tries,ul,ab,me,frm,key,limit,at',moved,⟨0,0,0,0⟩⟩:FNS)) 0 0 (lC t1 n1 (⟨pred,pw,curr,cw,tries,ul,ab,me,frm,key,limit,at',moved,⟨0,0,0,0⟩⟩:FNS)) [] (by kernel_rfl) rfl (congrArg (Prod.mk 0) (iI hat)) (by kernel_rfl),hK⟩⟩
abbrev w1h(hd n:Int):=((0:Int)≤n∧n≤(100000:Int))∧(-1000000:Int)≤hd∧hd≤(1000000:Int)
def NM(t n:Int)(me hd key lim:Int):Tr FNS:=.pre (w1h hd n) (.pre (w1h hd n) (.pre ((t=t∧n=n)∧0=0∧(0:Int)≠(4:Int)) (.ret {pred:=n+1+hd,pw:=0,curr:=0,cw:=0,tries:=0,ul:=[],ab:=false,me:=me,frm:=n+1+hd,key:=key,limit:=lim,at':=0,moved:=0,cl:=cF})))
def uM(t n:Int)(me hd key lim:Int):FNS:=(NM t n me hd key lim).val
def oQ(t n:Int)(me hd key lim:Int):Prop:=(NM t n me hd key lim).ok
def fnNS:aI Ob:=fun args h=>match args,h with
 | [.agg [.int .i64 t,.int .i64 n],.int .i64 me,.int .i64 hd,.int .i64 key,.int .i64 lim],[]=>some (.pre (oQ t n me hd key lim) (.ret (.ptr 0 0) (TU t n (uM t n me hd key lim))))
 | _,_=>none
theorem aAO:sT' 227 fnNS:=by
 intro args h o ho K hK;unfold fnNS at ho;split at ho<;>cases ho
 rename_i t n me hd key lim;obtain⟨ok,hK⟩:=hK;refine aGX (root:=0) (pos:=[15]) (cs:=[(.cell 0 7,.ints (some .i64))]) (parse:=aAN t n) TV ?_;exact cM' (E:=EC7) (q:=(NM t n me hd key lim).run (fun y=>(Out.ret (.ptr 0 0) (TU t n y)).run K)) (by kernel_rfl) (aGR ok hK)
noncomputable def EF:=((EC7.addS 163 fnS aDK).addS 227 fnNS aAO)
def retC:aI Ob:=fun args h=>match args,h with
 | [.ptr 0 0,.slice 2 0 k 1],[e1,e2,some (.cells [.int .i64 p])]=>(match lK 1 [e1,e2]with
   | some (l,t,n,st)=>some (.pre (l=st.R.length∧k=1∧st.R.length+1≤4294967296) (.ret (.tup []) [cE' [.I t,.I n,.I st.me,.I st.sp,.slice 3 0 (st.R.length+1) 1],none,cE' [.I p],iI' (st.R++ [p])]))
   | none=>none)
 | _,_=>none
theorem WG:sT' 164 retC:=by
 intro args h o ho K hK;unfold retC at ho;split at ho
 case h_2=>cases ho
 rename_i k e1 e2 p;split at ho<;>cases ho
 rename_i l t n st hs;obtain⟨⟨hl,rfl,hle⟩,hK⟩:=hK;have hh:=cH hs hl;cases hh;refine aGK (cM' (E:=EF) (q:=(0=0∧lE' st.3∧1=1∧st.3.length+(1:Nat)≤(4294967296:Nat))∧K (.tup []) [cE' [.I t,.I n,.I st.1,.I st.2,.slice 3 0 (st.3.length+1) 1],none,cE' [.I p],iI' (st.3++ [p])]) (by kernel_rfl) ?_)
 exact⟨⟨rfl,rfl,rfl,hle⟩,hK⟩
def retI:aI Ob:=fun args h=>match args,h with
 | [.ptr 0 0,.slice 2 0 k 1],[e1,e2,some (.ints (some .i64) xs)]=>(match lK 1 [e1,e2]with
   | some (l,t,n,st)=>some (.pre (l=st.R.length∧k=xs.length∧st.R.length+xs.length≤4294967296) (.ret (.tup []) [cE' [.I t,.I n,.I st.me,.I st.sp,.slice 3 0 (st.R.length+xs.length) 1],none,iI' xs,iI' (st.R++xs)]))
   | none=>none)
 | _,_=>none
theorem WH:sT' 164 retI:=by
 intro args h o ho K hK;unfold retI at ho;split at ho
 case h_2=>cases ho
 rename_i k e1 e2 xs;split at ho<;>cases ho
 rename_i l t n st hs;obtain⟨⟨hl,rfl,hle⟩,hK⟩:=hK;have hh:=cH hs hl;cases hh;refine aGK (cM' (E:=EF) (q:=(0+xs.length≤xs.length∧0=0∧lE' st.3∧1=1∧st.3.length+xs.length≤(4294967296:Nat))∧K (.tup []) [cE' [.I t,.I n,.I st.1,.I st.2,.slice 3 0 (st.3.length+xs.length) 1],none,iI' xs,iI' (st.3++List.take xs.length (List.drop 0 xs))]) (by kernel_rfl) ?_)
 refine⟨⟨by omega,rfl,rfl,rfl,hle⟩,?_⟩
 rw [List.drop_zero,List.take_length];exact hK
noncomputable def retS:aI Ob:=aI.or retC retI
theorem aB3:sT' 164 retS:=aG9 WG WH
noncomputable def ER:=EF.addS 164 retS aB3
structure FtO where
 d:Bool
 x:FTS
 st:STS
 s:MS
instance:Inhabited FtO:=⟨⟨false,bR,⟨0,0,[]⟩,⟨0,0,[],0,0,0,0,0,false⟩⟩⟩
instance:Inhabited FTS:=⟨bR⟩
abbrev QZ(t n:Int)(x:FTS)(st:STS)(s:MS):aC Ob:=[some (.abs (.fast t n x) [1]),some (.abs (.store t n st) []),bE 3 s,bF s]
abbrev XX(t n:Int)(x:FTS)(st:STS)(s:MS):aC Ob:=[cE' [.ptr 1 0,.I x.code,.bool x.okk,.I x.val,.bool x.failed,.I x.tries,.I x.sh,.I x.kd,.I x.ky,.I x.most,.I x.at',.bool x.p.now,.I x.p.code,.bool x.p.okk,.I x.p.val,.I x.p.addr,.int .u64 x.p.old,.I x.p.nxt,.bool x.p.mark,.I x.p.pops,.O,.O,.O],some (.abs (.store t n st) []),bE 3 s,bF s]
def FtO.fin(t n:Int)(y:FtO):Out Ob:=.ite y.d (.ret (.bool true) (XX t n y.x y.st y.s)) (.ret (.bool false) (QZ t n y.x y.st y.s))
def aAT(t n:Int)(v:AVal)(g:aC Ob):Option (Prop×FtO):=match v,g with
 | .bool d,[some (.cells [.ptr 1 0,.int .i64 code,.bool okk,.int .i64 val,.bool failed,.int .i64 tries,.int .i64 sh,.int .i64 kd,.int .i64 ky,.int .i64 most,.int .i64 at',.bool p_now,.int .i64 p_code,.bool p_okk,.int .i64 p_val,.int .i64 p_addr,.int .u64 p_old,.int .i64 p_nxt,.bool p_mark,.int .i64 p_pops,.O,.O,.O]),e1,e3,e4,e2]=>(match lK 4 [e1,e2],cO 3 [e3,e4]with
   | some (l2,t2,n2,st),some (l,s)=>some ((t2=t∧n2=n)∧(d=false→at'≠0∧at'≠1∧at'≠2)∧l=s.xs.length∧l2=st.R.length,⟨d,⟨code,okk,val,failed,tries,sh,kd,ky,most,at',⟨p_now,p_code,p_okk,p_val,p_addr,p_old,p_nxt,p_mark,p_pops⟩,aR,⟨0,0,0,0⟩,⟨0,0,0,false⟩⟩,st,s⟩)
   | _,_=>none)
 | _,_=>none
def aAU(t n:Int)(v:AVal)(g:aC Ob):Option (Prop×FtO):=match v,g with
 | .bool d,[some (.cells [.ptr 1 0,.int .i64 code,.bool okk,.int .i64 val,.bool failed,.int .i64 tries,.int .i64 sh,.int .i64 kd,.int .i64 ky,.int .i64 most,.int .i64 at',.bool p_now,.int .i64 p_code,.bool p_okk,.int .i64 p_val,.int .i64 p_addr,.int .u64 p_old,.int .i64 p_nxt,.bool p_mark,.int .i64 p_pops,.ptr 4 0,.O,.O]),e1,e3,e4,some (.abs (.find t' n' sub) []),e2]=>(match lK 5 [e1,e2],cO 3 [e3,e4]with
   | some (l2,t2,n2,st),some (l,s)=>some ((t2=t∧n2=n)∧t'=t∧n'=n∧(d=false→at'=0)∧l=s.xs.length∧l2=st.R.length,⟨d,⟨code,okk,val,failed,tries,sh,kd,ky,most,at',⟨p_now,p_code,p_okk,p_val,p_addr,p_old,p_nxt,p_mark,p_pops⟩,sub,⟨0,0,0,0⟩,⟨0,0,0,false⟩⟩,st,s⟩)
   | _,_=>none)
 | _,_=>none
def aAV(t n:Int)(v:AVal)(g:aC Ob):Option (Prop×FtO):=match v,g with
 | .bool d,[some (.cells [.ptr 1 0,.int .i64 code,.bool okk,.int .i64 val,.bool failed,.int .i64 tries,.int .i64 sh,.int .i64 kd,.int .i64 ky,.int .i64 most,.int .i64 at',.bool p_now,.int .i64 p_code,.bool p_okk,.int .i64 p_val,.int .i64 p_addr,.int .u64 p_old,.int .i64 p_nxt,.bool p_mark,.int .i64 p_pops,.O,.ptr 4 0,.O]),e1,e3,e4,some (.abs (.clear t' n' sub) []),e2]=>(match lK 5 [e1,e2],cO 3 [e3,e4]with
   | some (l2,t2,n2,st),some (l,s)=>some ((t2=t∧n2=n)∧t'=t∧n'=n∧(d=false→at'=1)∧l=s.xs.length∧l2=st.R.length,⟨d,⟨code,okk,val,failed,tries,sh,kd,ky,most,at',⟨p_now,p_code,p_okk,p_val,p_addr,p_old,p_nxt,p_mark,p_pops⟩,aR,sub,⟨0,0,0,false⟩⟩,st,s⟩)
   | _,_=>none)
 | _,_=>none
def aAW(t n:Int)(v:AVal)(g:aC Ob):Option (Prop×FtO):=match v,g with
 | .bool d,[some (.cells [.ptr 1 0,.int .i64 code,.bool okk,.int .i64 val,.bool failed,.int .i64 tries,.int .i64 sh,.int .i64 kd,.int .i64 ky,.int .i64 most,.int .i64 at',.bool p_now,.int .i64 p_code,.bool p_okk,.int .i64 p_val,.int .i64 p_addr,.int .u64 p_old,.int .i64 p_nxt,.bool p_mark,.int .i64 p_pops,.O,.O,.ptr 4 0]),e1,e3,e4,some (.abs (.prepare t' n' sub) [1]),e2]=>(match lK 5 [e1,e2],cO 3 [e3,e4]with
   | some (l2,t2,n2,st),some (l,s)=>some ((t2=t∧n2=n)∧t'=t∧n'=n∧(d=false→at'=2)∧l=s.xs.length∧l2=st.R.length,⟨d,⟨code,okk,val,failed,tries,sh,kd,ky,most,at',⟨p_now,p_code,p_okk,p_val,p_addr,p_old,p_nxt,p_mark,p_pops⟩,aR,⟨0,0,0,0⟩,sub⟩,st,s⟩)
   | _,_=>none)
 | _,_=>none
def Q0(t n:Int)(v:AVal)(g:aC Ob):Option (Prop×FtO):=(match aAT t n v g with
 | some r=>some r
 | none=>(match aAU t n v g with
 | some r=>some r
 | none=>(match aAV t n v g with
 | some r=>some r
 | none=>aAW t n v g)))
theorem T6{t n:Int} :bV (obI tbl) 4 (aAT t n) (FtO.fin t n):=by
 intro v g p x hp hq K hK;unfold aAT at hp;split at hp
 case h_2=>cases hp
 rename_i d code okk val failed tries sh kd ky most at' p_now p_code p_okk p_val p_addr p_old p_nxt p_mark p_pops e1 e3 e4 e2;split at hp
 case h_2=>cases hp
 rename_i l2 t2 n2 st l s hs hm;simp only [sI',pI']at hp;obtain⟨rfl,rfl⟩:=hp;obtain⟨⟨rfl,rfl⟩,hat,hl,hl2⟩:=hq;have hh:=bD hm hl;cases hh;have hh:=cH hs hl2;cases hh;refine fH hK (fun h=>?_) (fun hd h=>?_)
 ·exact⟨⟨_,_,(aF.pack (XX t2 n2 (⟨code,okk,val,failed,tries,sh,kd,ky,most,at',⟨p_now,p_code,p_okk,p_val,p_addr,p_old,p_nxt,p_mark,p_pops⟩,aR,⟨0,0,0,0⟩,⟨0,0,0,false⟩⟩:FTS) st s) (.store t2 n2 st) 1 0 (dL t2 n2 st) [] (by kernel_rfl) rfl rfl (by kernel_rfl)),h⟩⟩
 ·exact let X0:FTS:=⟨code,okk,val,failed,tries,sh,kd,ky,most,at',⟨p_now,p_code,p_okk,p_val,p_addr,p_old,p_nxt,p_mark,p_pops⟩,aR,⟨0,0,0,0⟩,⟨0,0,0,false⟩⟩;⟨⟨_,_,((aF.pack (aM (QZ t2 n2 X0 st s) 0 1 (uI t2 n2 X0) [1]) (.store t2 n2 st) 1 0 (dL t2 n2 st) [] (by kernel_rfl) rfl rfl (by kernel_rfl)).trans (aF.pack (QZ t2 n2 X0 st s) (.fast t2 n2 X0) 0 1 (uI t2 n2 X0) [1] (by kernel_rfl) rfl (congrArg (Prod.mk 1) (A7 (hat hd))) (by kernel_rfl))),h⟩⟩
theorem T7{t n:Int} :bV (obI tbl) 4 (aAU t n) (FtO.fin t n):=by
 intro v g p x hp hq K hK;unfold aAU at hp;split at hp
 case h_2=>cases hp
 rename_i d code okk val failed tries sh kd ky most at' p_now p_code p_okk p_val p_addr p_old p_nxt p_mark p_pops e1 e3 e4 t' n' sub e2;split at hp
 case h_2=>cases hp
 rename_i l2 t2 n2 st l s hs hm;simp only [sI',pI']at hp;obtain⟨rfl,rfl⟩:=hp;obtain⟨⟨rfl,rfl⟩,rfl,rfl,hat,hl,hl2⟩:=hq;have hh:=bD hm hl;cases hh;have hh:=cH hs hl2;cases hh;refine fH hK (fun h=>?_) (fun hd h=>?_)
 ·exact⟨⟨_,_,(aF.weak (cA _ 0 [20,21,22])).trans ((aF.pick [0,1,2,3,5] rfl).trans ((aGQ (g2:=aM (XX t' n' (⟨code,okk,val,failed,tries,sh,kd,ky,most,at',⟨p_now,p_code,p_okk,p_val,p_addr,p_old,p_nxt,p_mark,p_pops⟩,sub,⟨0,0,0,0⟩,⟨0,0,0,false⟩⟩:FTS) st s) 1 0 (dL t' n' st) []) (by kernel_rfl) (by kernel_rfl)).trans (aF.pack (XX t' n' (⟨code,okk,val,failed,tries,sh,kd,ky,most,at',⟨p_now,p_code,p_okk,p_val,p_addr,p_old,p_nxt,p_mark,p_pops⟩,sub,⟨0,0,0,0⟩,⟨0,0,0,false⟩⟩:FTS) st s) (.store t' n' st) 1 0 (dL t' n' st) [] (by kernel_rfl) rfl rfl (by kernel_rfl)))),h⟩⟩
 ·exact let X0:FTS:=⟨code,okk,val,failed,tries,sh,kd,ky,most,at',⟨p_now,p_code,p_okk,p_val,p_addr,p_old,p_nxt,p_mark,p_pops⟩,sub,⟨0,0,0,0⟩,⟨0,0,0,false⟩⟩;⟨⟨_,_,((aF.pack (aM (QZ t' n' X0 st s) 0 1 (lN t' n' X0) [1]) (.store t' n' st) 1 0 (dL t' n' st) [] (by kernel_rfl) rfl rfl (by kernel_rfl)).trans (aF.pack (QZ t' n' X0 st s) (.fast t' n' X0) 0 1 (lN t' n' X0) [1] (by kernel_rfl) rfl (congrArg (Prod.mk 1) (x8 (hat hd))) (by kernel_rfl))),h⟩⟩
theorem T8{t n:Int} :bV (obI tbl) 4 (aAV t n) (FtO.fin t n):=by
 intro v g p x hp hq K hK;unfold aAV at hp;split at hp
 case h_2=>cases hp
 rename_i d code okk val failed tries sh kd ky most at' p_now p_code p_okk p_val p_addr p_old p_nxt p_mark p_pops e1 e3 e4 t' n' sub e2;split at hp
 case h_2=>cases hp
 rename_i l2 t2 n2 st l s hs hm;simp only [sI',pI']at hp;obtain⟨rfl,rfl⟩:=hp;obtain⟨⟨rfl,rfl⟩,rfl,rfl,hat,hl,hl2⟩:=hq;have hh:=bD hm hl;cases hh;have hh:=cH hs hl2;cases hh;refine fH hK (fun h=>?_) (fun hd h=>?_)
 ·exact⟨⟨_,_,(aF.weak (cA _ 0 [20,21,22])).trans ((aF.pick [0,1,2,3,5] rfl).trans ((aGQ (g2:=aM (XX t' n' (⟨code,okk,val,failed,tries,sh,kd,ky,most,at',⟨p_now,p_code,p_okk,p_val,p_addr,p_old,p_nxt,p_mark,p_pops⟩,aR,sub,⟨0,0,0,false⟩⟩:FTS) st s) 1 0 (dL t' n' st) []) (by kernel_rfl) (by kernel_rfl)).trans (aF.pack (XX t' n' (⟨code,okk,val,failed,tries,sh,kd,ky,most,at',⟨p_now,p_code,p_okk,p_val,p_addr,p_old,p_nxt,p_mark,p_pops⟩,aR,sub,⟨0,0,0,false⟩⟩:FTS) st s) (.store t' n' st) 1 0 (dL t' n' st) [] (by kernel_rfl) rfl rfl (by kernel_rfl)))),h⟩⟩
 ·exact let X0:FTS:=⟨code,okk,val,failed,tries,sh,kd,ky,most,at',⟨p_now,p_code,p_okk,p_val,p_addr,p_old,p_nxt,p_mark,p_pops⟩,aR,sub,⟨0,0,0,false⟩⟩;⟨⟨_,_,((aF.pack (aM (QZ t' n' X0 st s) 0 1 (m8 t' n' X0) [1]) (.store t' n' st) 1 0 (dL t' n' st) [] (by kernel_rfl) rfl rfl (by kernel_rfl)).trans (aF.pack (QZ t' n' X0 st s) (.fast t' n' X0) 0 1 (m8 t' n' X0) [1] (by kernel_rfl) rfl (congrArg (Prod.mk 1) (GU (hat hd))) (by kernel_rfl))),h⟩⟩
theorem T9{t n:Int} :bV (obI tbl) 4 (aAW t n) (FtO.fin t n):=by
 intro v g p x hp hq K hK;unfold aAW at hp;split at hp
 case h_2=>cases hp
 rename_i d code okk val failed tries sh kd ky most at' p_now p_code p_okk p_val p_addr p_old p_nxt p_mark p_pops e1 e3 e4 t' n' sub e2;split at hp
 case h_2=>cases hp
 rename_i l2 t2 n2 st l s hs hm;simp only [sI',pI']at hp;obtain⟨rfl,rfl⟩:=hp;obtain⟨⟨rfl,rfl⟩,rfl,rfl,hat,hl,hl2⟩:=hq;have hh:=bD hm hl;cases hh;have hh:=cH hs hl2;cases hh;refine fH hK (fun h=>?_) (fun hd h=>?_)
 ·exact⟨⟨_,_,(aF.weak (cA _ 0 [20,21,22])).trans ((aF.pick [0,1,2,3,5] rfl).trans ((aGQ (g2:=aM (XX t' n' (⟨code,okk,val,failed,tries,sh,kd,ky,most,at',⟨p_now,p_code,p_okk,p_val,p_addr,p_old,p_nxt,p_mark,p_pops⟩,aR,⟨0,0,0,0⟩,sub⟩:FTS) st s) 1 0 (dL t' n' st) []) (by kernel_rfl) (by kernel_rfl)).trans (aF.pack (XX t' n' (⟨code,okk,val,failed,tries,sh,kd,ky,most,at',⟨p_now,p_code,p_okk,p_val,p_addr,p_old,p_nxt,p_mark,p_pops⟩,aR,⟨0,0,0,0⟩,sub⟩:FTS) st s) (.store t' n' st) 1 0 (dL t' n' st) [] (by kernel_rfl) rfl rfl (by kernel_rfl)))),h⟩⟩
 ·exact let X0:FTS:=⟨code,okk,val,failed,tries,sh,kd,ky,most,at',⟨p_now,p_code,p_okk,p_val,p_addr,p_old,p_nxt,p_mark,p_pops⟩,aR,⟨0,0,0,0⟩,sub⟩;⟨⟨_,_,((aF.pack (aM (QZ t' n' X0 st s) 0 1 (m9 t' n' X0) [1]) (.store t' n' st) 1 0 (dL t' n' st) [] (by kernel_rfl) rfl rfl (by kernel_rfl)).trans (aF.pack (QZ t' n' X0 st s) (.fast t' n' X0) 0 1 (m9 t' n' X0) [1] (by kernel_rfl) rfl (congrArg (Prod.mk 1) (GV (hat hd))) (by kernel_rfl))),h⟩⟩
theorem x9{t n:Int} :bV (obI tbl) 4 (Q0 t n) (FtO.fin t n):=by
 intro v g p x hp hq K hK;unfold Q0 at hp;split at hp
 ·rename_i r hr;cases hp;exact T6 v g p x hr hq K hK
 split at hp
 ·rename_i r hr;cases hp;exact T7 v g p x hr hq K hK
 split at hp
 ·rename_i r hr;cases hp;exact T8 v g p x hr hq K hK
 exact T9 v g p x hp hq K hK
abbrev w1k(n:Int)(s:MS)(t:Int)(x:FTS):=FnO.x (aN t n x.12 s)
abbrev w1i(n:Int)(s:MS)(st:STS)(t:Int)(x:FTS):=bL x.6 x.7 x.8 (w1k n s t x).1 (w1k n s t x).2 (w1k n s t x).3 (w1k n s t x).4 st.2
abbrev w1m:=true=false→(0:Int)≠(0:Int)∧(0:Int)≠(1:Int)∧(0:Int)≠(2:Int)
abbrev w1n:=false=false→(3:Int)≠(0:Int)∧(3:Int)≠(1:Int)∧(3:Int)≠(2:Int)
abbrev w1o(s:MS)(st:STS)(x:FTS):Tr FtO:=.ret {d:=true,x:= {x with failed:=true,at':=0,cl:=cF,pr:=dN},st:=st,s:= {s with c:=s.4+1,k:=1,a:=0,o:=aE s.3 0,w:=aE s.3 0,ok:=bT s.3 0} }
abbrev w1p:=false=false→(0:Int)=(0:Int)
abbrev w1q(n:Int)(s:MS)(t:Int)(x:FTS):=FnO.s (aN t n x.12 s)
abbrev w1r:=false=false→(1:Int)=(1:Int)
abbrev w1s:=false=false→(2:Int)=(2:Int)
def BI(t n:Int)(x:FTS)(st:STS)(s:MS):Tr FtO:=.pre True (.ite (!b9 x.6 x.7 x.8) (.pre (lE' s.3∧(0:Int)≤s.4∧s.4≤(4611686018427387904:Int)) (.pre ((t=t∧n=n)∧t=t∧n=n∧(true=false→(0:Int)=(0:Int))∧lE' s.3∧lE' st.3) (w1o s st x))) (.pre True (.ite (f5 x.7) (.ite (ieq st.2 0) (.pre (lE' s.3∧(0:Int)≤s.4∧s.4≤(4611686018427387904:Int)) (.pre ((t=t∧n=n)∧t=t∧n=n∧(true=false→(0:Int)=(0:Int))∧lE' s.3∧lE' st.3) (w1o s st x))) (.pre (lE' s.3∧I6 t n x.12 s) (.ite (aN t n x.12 s).1 (.pre ((lE' st.3∧lE' (w1k n s t x).6∧st.3.length+List.length (w1k n s t x).6≤(4294967296:Nat))∧True) (.ite (ilt x.9 (W (x.5+(w1k n s t x).5))) (.pre ((t=t∧n=n)∧w1m∧lE' (w1q n s t x).3∧st.3.length+List.length (w1k n s t x).6=List.length (st.3++(w1k n s t x).6)) (.ret {d:=true,x:= {x with failed:=ilt x.9 (W (x.5+(w1k n s t x).5)),tries:=W (x.5+(w1k n s t x).5),at':=0,fn:=aR,cl:=cF,pr:=dN},st:= {me:=st.1,sp:=st.2,R:=st.3++(w1k n s t x).6},s:=(aN t n x.12 s).3})) (.pre (u7 x.6 x.7 x.8 (w1k n s t x).1 (w1k n s t x).2 (w1k n s t x).3 (w1k n s t x).4 st.2∧True) (.ite (w1i n s st t x).1 (.pre ((t=t∧n=n)∧w1m∧lE' (w1q n s t x).3∧st.3.length+List.length (w1k n s t x).6=List.length (st.3++(w1k n s t x).6)) (.ret {d:=true,x:= {x with code:=(w1i n s st t x).2,okk:=(w1i n s st t x).3,val:=(w1i n s st t x).4,failed:=ilt x.9 (W (x.5+(w1k n s t x).5)),tries:=W (x.5+(w1k n s t x).5),at':=0,p:=bL x.6 x.7 x.8 (w1k n s t x).1 (w1k n s t x).2 (w1k n s t x).3 (w1k n s t x).4 st.2,fn:=aR,cl:=cF,pr:=dN},st:= {me:=st.1,sp:=st.2,R:=st.3++(w1k n s t x).6},s:=(aN t n x.12 s).3})) (.pre (oG (w1i n s st t x).1 (w1i n s st t x).2 (w1i n s st t x).3 (w1i n s st t x).4 (w1i n s st t x).5 (w1i n s st t x).6 (w1i n s st t x).7 (w1i n s st t x).8 (w1i n s st t x).9) (.ite (yJ (w1i n s st t x).1 (w1i n s st t x).2 (w1i n s st t x).3 (w1i n s st t x).4 (w1i n s st t x).5 (w1i n s st t x).6 (w1i n s st t x).7 (w1i n s st t x).8 (w1i n s st t x).9) (.pre (pT t n (w1i n s st t x).5∧True) (.pre ((t=t∧n=n)∧t=t∧n=n∧w1r∧lE' (w1q n s t x).3∧st.3.length+List.length (w1k n s t x).6=List.length (st.3++(w1k n s t x).6)) (.ret {d:=false,x:= {x with failed:=ilt x.9 (W (x.5+(w1k n s t x).5)),tries:=W (x.5+(w1k n s t x).5),at':=1,p:=bL x.6 x.7 x.8 (w1k n s t x).1 (w1k n s t x).2 (w1k n s t x).3 (w1k n s t x).4 st.2,fn:=aR,cl:=xT t n (w1i n s st t x).5,pr:=dN},st:= {me:=st.1,sp:=st.2,R:=st.3++(w1k n s t x).6},s:=(aN t n x.12 s).3}))) (.pre True (.ite (f5 x.7) (.pre ((st.3.length+List.length (w1k n s t x).6=List.length (st.3++(w1k n s t x).6)∧CV t n x.8 (w1k n s t x).3 {me:=st.1,sp:=st.2,R:=st.3++(w1k n s t x).6})∧True) (.pre ((t=t∧n=n)∧t=t∧n=n∧w1s∧lE' (w1q n s t x).3∧lE' (Prod.snd (qN t n x.8 (w1k n s t x).3 {me:=st.1,sp:=st.2,R:=st.3++(w1k n s t x).6})).3) (.ret {d:=false,x:= {x with failed:=ilt x.9 (W (x.5+(w1k n s t x).5)),tries:=W (x.5+(w1k n s t x).5),at':=2,p:=bL x.6 x.7 x.8 (w1k n s t x).1 (w1k n s t x).2 (w1k n s t x).3 (w1k n s t x).4 st.2,fn:=aR,cl:=cF,pr:=(qN t n x.8 (w1k n s t x).3 {me:=st.1,sp:=st.2,R:=st.3++(w1k n s t x).6}).1},st:=(qN t n x.8 (w1k n s t x).3 {me:=st.1,sp:=st.2,R:=st.3++(w1k n s t x).6}).2,s:=(aN t n x.12 s).3}))) (.pre ((t=t∧n=n)∧w1n∧lE' (w1q n s t x).3∧st.3.length+List.length (w1k n s t x).6=List.length (st.3++(w1k n s t x).6)) (.ret {d:=false,x:= {x with failed:=ilt x.9 (W (x.5+(w1k n s t x).5)),tries:=W (x.5+(w1k n s t x).5),at':=3,p:=bL x.6 x.7 x.8 (w1k n s t x).1 (w1k n s t x).2 (w1k n s t x).3 (w1k n s t x).4 st.2,fn:=aR,cl:=cF,pr:=dN},st:= {me:=st.1,sp:=st.2,R:=st.3++(w1k n s t x).6},s:=(aN t n x.12 s).3})))))))))) (.pre ((t=t∧n=n)∧t=t∧n=n∧w1p∧lE' (w1q n s t x).3∧lE' st.3) (.ret {d:=false,x:= {x with at':=0,fn:=(aN t n x.12 s).2,cl:=cF,pr:=dN},st:=st,s:=(aN t n x.12 s).3}))))) (.pre (lE' s.3∧I6 t n x.12 s) (.ite (aN t n x.12 s).1 (.pre ((lE' st.3∧lE' (w1k n s t x).6∧st.3.length+List.length (w1k n s t x).6≤(4294967296:Nat))∧True) (.ite (ilt x.9 (W (x.5+(w1k n s t x).5))) (.pre ((t=t∧n=n)∧w1m∧lE' (w1q n s t x).3∧st.3.length+List.length (w1k n s t x).6=List.length (st.3++(w1k n s t x).6)) (.ret {d:=true,x:= {x with failed:=ilt x.9 (W (x.5+(w1k n s t x).5)),tries:=W (x.5+(w1k n s t x).5),at':=0,fn:=aR,cl:=cF,pr:=dN},st:= {me:=st.1,sp:=st.2,R:=st.3++(w1k n s t x).6},s:=(aN t n x.12 s).3})) (.pre (u7 x.6 x.7 x.8 (w1k n s t x).1 (w1k n s t x).2 (w1k n s t x).3 (w1k n s t x).4 st.2∧True) (.ite (w1i n s st t x).1 (.pre ((t=t∧n=n)∧w1m∧lE' (w1q n s t x).3∧st.3.length+List.length (w1k n s t x).6=List.length (st.3++(w1k n s t x).6)) (.ret {d:=true,x:= {x with code:=(w1i n s st t x).2,okk:=(w1i n s st t x).3,val:=(w1i n s st t x).4,failed:=ilt x.9 (W (x.5+(w1k n s t x).5)),tries:=W (x.5+(w1k n s t x).5),at':=0,p:=bL x.6 x.7 x.8 (w1k n s t x).1 (w1k n s t x).2 (w1k n s t x).3 (w1k n s t x).4 st.2,fn:=aR,cl:=cF,pr:=dN},st:= {me:=st.1,sp:=st.2,R:=st.3++(w1k n s t x).6},s:=(aN t n x.12 s).3})) (.pre (oG (w1i n s st t x).1 (w1i n s st t x).2 (w1i n s st t x).3 (w1i n s st t x).4 (w1i n s st t x).5 (w1i n s st t x).6 (w1i n s st t x).7 (w1i n s st t x).8 (w1i n s st t x).9) (.ite (yJ (w1i n s st t x).1 (w1i n s st t x).2 (w1i n s st t x).3 (w1i n s st t x).4 (w1i n s st t x).5 (w1i n s st t x).6 (w1i n s st t x).7 (w1i n s st t x).8 (w1i n s st t x).9) (.pre (pT t n (w1i n s st t x).5∧True) (.pre ((t=t∧n=n)∧t=t∧n=n∧w1r∧lE' (w1q n s t x).3∧st.3.length+List.length (w1k n s t x).6=List.length (st.3++(w1k n s t x).6)) (.ret {d:=false,x:= {x with failed:=ilt x.9 (W (x.5+(w1k n s t x).5)),tries:=W (x.5+(w1k n s t x).5),at':=1,p:=bL x.6 x.7 x.8 (w1k n s t x).1 (w1k n s t x).2 (w1k n s t x).3 (w1k n s t x).4 st.2,fn:=aR,cl:=xT t n (w1i n s st t x).5,pr:=dN},st:= {me:=st.1,sp:=st.2,R:=st.3++(w1k n s t x).6},s:=(aN t n x.12 s).3}))) (.pre True (.ite (f5 x.7) (.pre ((st.3.length+List.length (w1k n s t x).6=List.length (st.3++(w1k n s t x).6)∧CV t n x.8 (w1k n s t x).3 {me:=st.1,sp:=st.2,R:=st.3++(w1k n s t x).6})∧True) (.pre ((t=t∧n=n)∧t=t∧n=n∧w1s∧lE' (w1q n s t x).3∧lE' (Prod.snd (qN t n x.8 (w1k n s t x).3 {me:=st.1,sp:=st.2,R:=st.3++(w1k n s t x).6})).3) (.ret {d:=false,x:= {x with failed:=ilt x.9 (W (x.5+(w1k n s t x).5)),tries:=W (x.5+(w1k n s t x).5),at':=2,p:=bL x.6 x.7 x.8 (w1k n s t x).1 (w1k n s t x).2 (w1k n s t x).3 (w1k n s t x).4 st.2,fn:=aR,cl:=cF,pr:=(qN t n x.8 (w1k n s t x).3 {me:=st.1,sp:=st.2,R:=st.3++(w1k n s t x).6}).1},st:=(qN t n x.8 (w1k n s t x).3 {me:=st.1,sp:=st.2,R:=st.3++(w1k n s t x).6}).2,s:=(aN t n x.12 s).3}))) (.pre ((t=t∧n=n)∧w1n∧lE' (w1q n s t x).3∧st.3.length+List.length (w1k n s t x).6=List.length (st.3++(w1k n s t x).6)) (.ret {d:=false,x:= {x with failed:=ilt x.9 (W (x.5+(w1k n s t x).5)),tries:=W (x.5+(w1k n s t x).5),at':=3,p:=bL x.6 x.7 x.8 (w1k n s t x).1 (w1k n s t x).2 (w1k n s t x).3 (w1k n s t x).4 st.2,fn:=aR,cl:=cF,pr:=dN},st:= {me:=st.1,sp:=st.2,R:=st.3++(w1k n s t x).6},s:=(aN t n x.12 s).3})))))))))) (.pre ((t=t∧n=n)∧t=t∧n=n∧w1p∧lE' (w1q n s t x).3∧lE' st.3) (.ret {d:=false,x:= {x with at':=0,fn:=(aN t n x.12 s).2,cl:=cF,pr:=dN},st:=st,s:=(aN t n x.12 s).3})))))))
theorem JE(t n:Int)(x:FTS)(st:STS)(s:MS)(K:FtO→Prop)(h:(BI t n x st s).run K):cT' 156 [.ptr 0 0,.ptr 2 0] [cE' [.ptr 1 0,.I x.code,.bool x.okk,.I x.val,.bool x.failed,.I x.tries,.I x.sh,.I x.kd,.I x.ky,.I x.most,.I 0,.bool x.p.now,.I x.p.code,.bool x.p.okk,.I x.p.val,.I x.p.addr,.int .u64 x.p.old,.I x.p.nxt,.bool x.p.mark,.I x.p.pops,.ptr 4 0,.O,.O],iY 5 t n st,bE 3 s,bF s,some (.abs (.find t n x.fn) []),iZ st] (bP 4 0 [20,21,22] [(.cell 1 4,.ints (some .i64))] (Q0 t n) K):=by
 exact cM' (E:=ER) (by kernel_rfl) h
def BJ(t n:Int)(x:FTS)(st:STS)(s:MS):Tr FtO:=.pre (lE' s.3∧LY t n x.13 s) (.ite (oP t n x.13 s).1 (.ite (ilt x.9 (W (x.5+1))) (.pre ((t=t∧n=n)∧(true=false→(1:Int)≠(0:Int)∧(1:Int)≠(1:Int)∧(1:Int)≠(2:Int))∧lE' (ClO.s (oP t n x.13 s)).3∧lE' st.3) (.ret {d:=true,x:= {x with failed:=ilt x.9 (W (x.5+1)),tries:=W (x.5+1),at':=1,fn:=aR,cl:=cF,pr:=dN},st:=st,s:=(oP t n x.13 s).3})) (.pre True (.pre (oQ t n st.1 (fG x.6 x.8) (l9 x.6 x.7 x.8) (W (x.9 - W (x.5+1)))∧True) (.pre ((t=t∧n=n)∧t=t∧n=n∧w1p∧lE' (ClO.s (oP t n x.13 s)).3∧lE' st.3) (.ret {d:=false,x:= {x with failed:=ilt x.9 (W (x.5+1)),tries:=W (x.5+1),at':=0,fn:=uM t n st.1 (fG x.6 x.8) (l9 x.6 x.7 x.8) (W (x.9 - W (x.5+1))),cl:=cF,pr:=dN},st:=st,s:=(oP t n x.13 s).3}))))) (.pre ((t=t∧n=n)∧t=t∧n=n∧w1r∧lE' (ClO.s (oP t n x.13 s)).3∧lE' st.3) (.ret {d:=false,x:= {x with at':=1,fn:=aR,cl:=(oP t n x.13 s).2,pr:=dN},st:=st,s:=(oP t n x.13 s).3})))
theorem JF(t n:Int)(x:FTS)(st:STS)(s:MS)(K:FtO→Prop)(h:(BJ t n x st s).run K):cT' 156 [.ptr 0 0,.ptr 2 0] [cE' [.ptr 1 0,.I x.code,.bool x.okk,.I x.val,.bool x.failed,.I x.tries,.I x.sh,.I x.kd,.I x.ky,.I x.most,.I 1,.bool x.p.now,.I x.p.code,.bool x.p.okk,.I x.p.val,.I x.p.addr,.int .u64 x.p.old,.I x.p.nxt,.bool x.p.mark,.I x.p.pops,.O,.ptr 4 0,.O],iY 5 t n st,bE 3 s,bF s,some (.abs (.clear t n x.cl) []),iZ st] (bP 4 0 [20,21,22] [(.cell 1 4,.ints (some .i64))] (Q0 t n) K):=by
 exact cM' (E:=ER) (by kernel_rfl) h
def BK(t n:Int)(x:FTS)(st:STS)(s:MS):Tr FtO:=.pre ((lE' s.3∧lE' st.3∧t=t∧n=n)∧PB t n x.14 st s) (.ite (prF t n x.14 st s).1 (.pre ((t=t∧n=n)∧w1n∧lE' (PrO.s (prF t n x.14 st s)).3∧lE' (PrO.st (prF t n x.14 st s)).3) (.ret {d:=false,x:= {x with at':=3,fn:=aR,cl:=cF,pr:=dN},st:=(prF t n x.14 st s).3,s:=(prF t n x.14 st s).4})) (.pre ((t=t∧n=n)∧t=t∧n=n∧w1s∧lE' (PrO.s (prF t n x.14 st s)).3∧lE' (PrO.st (prF t n x.14 st s)).3) (.ret {d:=false,x:= {x with at':=2,fn:=aR,cl:=cF,pr:=(prF t n x.14 st s).2},st:=(prF t n x.14 st s).3,s:=(prF t n x.14 st s).4})))
theorem JG(t n:Int)(x:FTS)(st:STS)(s:MS)(K:FtO→Prop)(h:(BK t n x st s).run K):cT' 156 [.ptr 0 0,.ptr 2 0] [cE' [.ptr 1 0,.I x.code,.bool x.okk,.I x.val,.bool x.failed,.I x.tries,.I x.sh,.I x.kd,.I x.ky,.I x.most,.I 2,.bool x.p.now,.I x.p.code,.bool x.p.okk,.I x.p.val,.I x.p.addr,.int .u64 x.p.old,.I x.p.nxt,.bool x.p.mark,.I x.p.pops,.O,.O,.ptr 4 0],iY 5 t n st,bE 3 s,bF s,some (.abs (.prepare t n x.pr) [1]),iZ st] (bP 4 0 [20,21,22] [(.cell 1 4,.ints (some .i64))] (Q0 t n) K):=by
 exact cM' (E:=ER) (by kernel_rfl) h
abbrev w1j(x:FTS):=dK (FTS.p x).1 (FTS.p x).2 (FTS.p x).3 (FTS.p x).4 (FTS.p x).5 (FTS.p x).6 (FTS.p x).7 (FTS.p x).8 (FTS.p x).9
abbrev w1l:=true=false→(3:Int)≠(0:Int)∧(3:Int)≠(1:Int)∧(3:Int)≠(2:Int)
def BL(t n:Int)(x:FTS)(st:STS)(s:MS):Tr FtO:=.pre (yL (FTS.p x).1 (FTS.p x).2 (FTS.p x).3 (FTS.p x).4 (FTS.p x).5 (FTS.p x).6 (FTS.p x).7 (FTS.p x).8 (FTS.p x).9∧True) (.pre ((lE' s.3∧(0:Int)≤s.4∧s.4≤(4611686018427387904:Int))∧True) (.ite (!aW s.3 (FTS.p x).5 (FTS.p x).6) (.ite (ilt x.9 (W (x.5+1))) (.pre ((t=t∧n=n)∧w1l∧lE' (bif aW s.3 (FTS.p x).5 (FTS.p x).6 then aY s.3 (FTS.p x).5 (w1j x)else s.3)∧lE' st.3) (.ret {d:=true,x:= {x with failed:=ilt x.9 (W (x.5+1)),tries:=W (x.5+1),at':=3,fn:=aR,cl:=cF,pr:=dN},st:=st,s:= {t:=s.1,n:=s.2,xs:=bif aW s.3 (FTS.p x).5 (FTS.p x).6 then aY s.3 (FTS.p x).5 (w1j x)else s.3,c:=s.4+1,k:=3,a:=(FTS.p x).5,o:=aE s.3 (FTS.p x).5,w:=bif bT s.3 (FTS.p x).5 then dK (FTS.p x).1 (FTS.p x).2 (FTS.p x).3 (FTS.p x).4 (FTS.p x).5 (FTS.p x).6 (FTS.p x).7 (FTS.p x).8 (FTS.p x).9 else 0,ok:=aW s.3 (FTS.p x).5 (FTS.p x).6} })) (.pre True (.pre (oQ t n st.1 (fG x.6 x.8) (l9 x.6 x.7 x.8) (W (x.9 - W (x.5+1)))∧True) (.pre ((t=t∧n=n)∧t=t∧n=n∧w1p∧lE' (bif aW s.3 (FTS.p x).5 (FTS.p x).6 then aY s.3 (FTS.p x).5 (w1j x)else s.3)∧lE' st.3) (.ret {d:=false,x:= {x with failed:=ilt x.9 (W (x.5+1)),tries:=W (x.5+1),at':=0,fn:=uM t n st.1 (fG x.6 x.8) (l9 x.6 x.7 x.8) (W (x.9 - W (x.5+1))),cl:=cF,pr:=dN},st:=st,s:= {t:=s.1,n:=s.2,xs:=bif aW s.3 (FTS.p x).5 (FTS.p x).6 then aY s.3 (FTS.p x).5 (w1j x)else s.3,c:=s.4+1,k:=3,a:=(FTS.p x).5,o:=aE s.3 (FTS.p x).5,w:=bif bT s.3 (FTS.p x).5 then dK (FTS.p x).1 (FTS.p x).2 (FTS.p x).3 (FTS.p x).4 (FTS.p x).5 (FTS.p x).6 (FTS.p x).7 (FTS.p x).8 (FTS.p x).9 else 0,ok:=aW s.3 (FTS.p x).5 (FTS.p x).6} }))))) (.pre True (.ite (f5 x.7) (.ite (!ieq (FTS.p x).9 0) (.pre ((lE' st.3∧1=1∧st.3.length+(1:Nat)≤(4294967296:Nat))∧True) (.pre ((t=t∧n=n)∧w1l∧lE' (bif aW s.3 (FTS.p x).5 (FTS.p x).6 then aY s.3 (FTS.p x).5 (w1j x)else s.3)∧st.3.length+(1:Nat)=List.length (st.3++ [(FTS.p x).9])) (.ret {d:=true,x:= {x with code:=(FTS.p x).2,okk:=(FTS.p x).3,val:=(FTS.p x).4,at':=3,fn:=aR,cl:=cF,pr:=dN},st:= {me:=st.1,sp:=0,R:=st.3++ [(FTS.p x).9] },s:= {t:=s.1,n:=s.2,xs:=bif aW s.3 (FTS.p x).5 (FTS.p x).6 then aY s.3 (FTS.p x).5 (w1j x)else s.3,c:=s.4+1,k:=3,a:=(FTS.p x).5,o:=aE s.3 (FTS.p x).5,w:=bif bT s.3 (FTS.p x).5 then dK (FTS.p x).1 (FTS.p x).2 (FTS.p x).3 (FTS.p x).4 (FTS.p x).5 (FTS.p x).6 (FTS.p x).7 (FTS.p x).8 (FTS.p x).9 else 0,ok:=aW s.3 (FTS.p x).5 (FTS.p x).6} }))) (.pre ((t=t∧n=n)∧w1l∧lE' (bif aW s.3 (FTS.p x).5 (FTS.p x).6 then aY s.3 (FTS.p x).5 (w1j x)else s.3)∧lE' st.3) (.ret {d:=true,x:= {x with code:=(FTS.p x).2,okk:=(FTS.p x).3,val:=(FTS.p x).4,at':=3,fn:=aR,cl:=cF,pr:=dN},st:= {me:=st.1,sp:=0,R:=st.3},s:= {t:=s.1,n:=s.2,xs:=bif aW s.3 (FTS.p x).5 (FTS.p x).6 then aY s.3 (FTS.p x).5 (w1j x)else s.3,c:=s.4+1,k:=3,a:=(FTS.p x).5,o:=aE s.3 (FTS.p x).5,w:=bif bT s.3 (FTS.p x).5 then dK (FTS.p x).1 (FTS.p x).2 (FTS.p x).3 (FTS.p x).4 (FTS.p x).5 (FTS.p x).6 (FTS.p x).7 (FTS.p x).8 (FTS.p x).9 else 0,ok:=aW s.3 (FTS.p x).5 (FTS.p x).6} }))) (.ite (!ieq (FTS.p x).9 0) (.pre ((lE' st.3∧1=1∧st.3.length+(1:Nat)≤(4294967296:Nat))∧True) (.pre ((t=t∧n=n)∧w1l∧lE' (bif aW s.3 (FTS.p x).5 (FTS.p x).6 then aY s.3 (FTS.p x).5 (w1j x)else s.3)∧st.3.length+(1:Nat)=List.length (st.3++ [(FTS.p x).9])) (.ret {d:=true,x:= {x with code:=(FTS.p x).2,okk:=(FTS.p x).3,val:=(FTS.p x).4,at':=3,fn:=aR,cl:=cF,pr:=dN},st:= {me:=st.1,sp:=st.2,R:=st.3++ [(FTS.p x).9] },s:= {t:=s.1,n:=s.2,xs:=bif aW s.3 (FTS.p x).5 (FTS.p x).6 then aY s.3 (FTS.p x).5 (w1j x)else s.3,c:=s.4+1,k:=3,a:=(FTS.p x).5,o:=aE s.3 (FTS.p x).5,w:=bif bT s.3 (FTS.p x).5 then dK (FTS.p x).1 (FTS.p x).2 (FTS.p x).3 (FTS.p x).4 (FTS.p x).5 (FTS.p x).6 (FTS.p x).7 (FTS.p x).8 (FTS.p x).9 else 0,ok:=aW s.3 (FTS.p x).5 (FTS.p x).6} }))) (.pre ((t=t∧n=n)∧w1l∧lE' (bif aW s.3 (FTS.p x).5 (FTS.p x).6 then aY s.3 (FTS.p x).5 (w1j x)else s.3)∧lE' st.3) (.ret {d:=true,x:= {x with code:=(FTS.p x).2,okk:=(FTS.p x).3,val:=(FTS.p x).4,at':=3,fn:=aR,cl:=cF,pr:=dN},st:=st,s:= {t:=s.1,n:=s.2,xs:=bif aW s.3 (FTS.p x).5 (FTS.p x).6 then aY s.3 (FTS.p x).5 (w1j x)else s.3,c:=s.4+1,k:=3,a:=(FTS.p x).5,o:=aE s.3 (FTS.p x).5,w:=bif bT s.3 (FTS.p x).5 then dK (FTS.p x).1 (FTS.p x).2 (FTS.p x).3 (FTS.p x).4 (FTS.p x).5 (FTS.p x).6 (FTS.p x).7 (FTS.p x).8 (FTS.p x).9 else 0,ok:=aW s.3 (FTS.p x).5 (FTS.p x).6} })))))))
theorem JH(t n:Int)(x:FTS)(st:STS)(s:MS)(K:FtO→Prop)(h:(BL t n x st s).run K):cT' 156 [.ptr 0 0,.ptr 2 0] [cE' [.ptr 1 0,.I x.code,.bool x.okk,.I x.val,.bool x.failed,.I x.tries,.I x.sh,.I x.kd,.I x.ky,.I x.most,.I 3,.bool x.p.now,.I x.p.code,.bool x.p.okk,.I x.p.val,.I x.p.addr,.int .u64 x.p.old,.I x.p.nxt,.bool x.p.mark,.I x.p.pops,.O,.O,.O],iY 4 t n st,bE 3 s,bF s,iZ st] (bP 4 0 [20,21,22] [(.cell 1 4,.ints (some .i64))] (Q0 t n) K):=by
 exact cM' (E:=ER) (by kernel_rfl) h
def ftT(t n:Int)(x:FTS)(st:STS)(s:MS):Tr FtO:=
 bif ieq x.at' 0 then BI t n x st s else
 bif ieq x.at' 1 then BJ t n x st s else
 bif ieq x.at' 2 then BK t n x st s else
 bif ieq x.at' 3 then BL t n x st s else .pre False (.ret default)
def iB(t n:Int)(x:FTS)(st:STS)(s:MS):FtO:=(ftT t n x st s).val
def T5(t n:Int)(x:FTS)(st:STS)(s:MS):Prop:=(ftT t n x st s).ok
theorem GY(t n:Int)(x:FTS)(st:STS)(s:MS)(K:AVal→aC Ob→Prop)(h:(ftT t n x st s).run (fun y=>(FtO.fin t n y).run K)):cT' 156 [.ptr 0 0,.ptr 2 0] (QZ t n x st s) K:=by
 unfold ftT at h
 by_cases e:x.at'=0
 ·rw [e]at h;have h:(BI t n x st s).run _:=h;refine aGL (root:=0) (pos:=[20,21,22]) (cs:=[(.cell 1 4,.ints (some .i64))]) (parse:=Q0 t n) (fin:=FtO.fin t n) x9 ((aS.unpack (.fast t n x) 0 1 (lN t n x) [1] rfl (congrArg (Prod.mk 1) (x8 e)) (by kernel_rfl) rfl).trans (aS.unpack (.store t n st) 1 0 (dL t n st) [] rfl rfl rfl rfl)) ?_
  have q:=JE t n x st s _ h;rw [←e]at q;exact q
 rw [bK e]at h
 by_cases e:x.at'=1
 ·rw [e]at h;have h:(BJ t n x st s).run _:=h;refine aGL (root:=0) (pos:=[20,21,22]) (cs:=[(.cell 1 4,.ints (some .i64))]) (parse:=Q0 t n) (fin:=FtO.fin t n) x9 ((aS.unpack (.fast t n x) 0 1 (m8 t n x) [1] rfl (congrArg (Prod.mk 1) (GU e)) (by kernel_rfl) rfl).trans (aS.unpack (.store t n st) 1 0 (dL t n st) [] rfl rfl rfl rfl)) ?_
  have q:=JF t n x st s _ h;rw [←e]at q;exact q
 rw [bK e]at h
 by_cases e:x.at'=2
 ·rw [e]at h;have h:(BK t n x st s).run _:=h;refine aGL (root:=0) (pos:=[20,21,22]) (cs:=[(.cell 1 4,.ints (some .i64))]) (parse:=Q0 t n) (fin:=FtO.fin t n) x9 ((aS.unpack (.fast t n x) 0 1 (m9 t n x) [1] rfl (congrArg (Prod.mk 1) (GV e)) (by kernel_rfl) rfl).trans (aS.unpack (.store t n st) 1 0 (dL t n st) [] rfl rfl rfl rfl)) ?_
  have q:=JG t n x st s _ h;rw [←e]at q;exact q
 rw [bK e]at h
 by_cases e:x.at'=3
 ·rw [e]at h;have h:(BL t n x st s).run _:=h;refine aGL (root:=0) (pos:=[20,21,22]) (cs:=[(.cell 1 4,.ints (some .i64))]) (parse:=Q0 t n) (fin:=FtO.fin t n) x9 ((aS.unpack (.fast t n x) 0 1 (uI t n x) [1] rfl (congrArg (Prod.mk 1) (A7 ⟨(by omega),(by omega),(by omega)⟩)) (by kernel_rfl) rfl).trans (aS.unpack (.store t n st) 1 0 (dL t n st) [] rfl rfl rfl rfl)) ?_
  have q:=JH t n x st s _ h;rw [←e]at q;exact q
 rw [bK e]at h;exact h.1.elim
noncomputable def ftSA:aI Ob:=fun args h=>match args,h with
 | [.ptr 0 0,.ptr 2 0],[some (.abs (.fast t n x) [1]),some (.abs (.store t2 n2 st) []),e3,e4]=>(match cO 3 [e3,e4]with
   | some (l,s)=>some (.pre ((l=s.xs.length∧t2=t∧n2=n)∧T5 t n x st s) (FtO.fin t n (iB t n x st s)))
   | none=>none)
 | _,_=>none
theorem aAX:sT' 156 ftSA:=by
 intro args h o ho K hK;unfold ftSA at ho;split at ho
 case h_2=>cases ho
 split at ho<;>cases ho
 rename_i hm;obtain⟨⟨⟨hl,rfl,rfl⟩,ok⟩,hK⟩:=hK;have hh:=bD hm hl;cases hh;exact GY _ _ _ _ _ K (aGR ok hK)
def FtO.finB(t n:Int)(y:FtO):Out Ob:=.ite y.d (.ret (.bool true) ([cE' [.ptr 1 0,.I y.x.code,.bool y.x.okk,.I y.x.val,.bool y.x.failed,.I y.x.tries,.I y.x.sh,.I y.x.kd,.I y.x.ky,.I y.x.most,.I y.x.at',.bool y.x.p.now,.I y.x.p.code,.bool y.x.p.okk,.I y.x.p.val,.I y.x.p.addr,.int .u64 y.x.p.old,.I y.x.p.nxt,.bool y.x.p.mark,.I y.x.p.pops,.O,.O,.O],iY 5 t n y.st,none,bE 4 y.s,bF y.s,iZ y.st])) (.ret (.bool false) [some (.abs (.fast t n y.x) [1]),iY 5 t n y.st,none,bE 4 y.s,bF y.s,iZ y.st])
noncomputable def ftSB:aI Ob:=fun args h=>match args,h with
 | [.ptr 0 0,.ptr 3 0],[some (.abs (.fast t n x) [1]),e1,e2,e3,e4]=>(match lK 2 [e1,e2],cO 4 [e3,e4]with
   | some (l2,t2,n2,st),some (l,s)=>some (.pre ((l=s.xs.length∧l2=st.R.length∧t2=t∧n2=n)∧T5 t n x st s) (FtO.finB t n (iB t n x st s)))
   | _,_=>none)
 | _,_=>none
theorem aAY:sT' 156 ftSB:=by
 intro args h o ho K hK;unfold ftSB at ho;split at ho
 case h_2=>cases ho
 split at ho<;>cases ho
 rename_i hs hm;obtain⟨⟨⟨hl,hl2,rfl,rfl⟩,ok⟩,hK⟩:=hK;have hh:=bD hm hl;cases hh;have hh:=cH hs hl2;cases hh;exact jR (fun ι hι=>by simp [aH.ren,aGY,AVal.ren,hι]) (fun ι hι=>by simp [aH.ren,hι]) (fun K hK=>GY _ _ _ _ _ K (aGR ok hK)) K hK
noncomputable def ftS:aI Ob:=aI.or ftSA ftSB
theorem aDN:sT' 156 ftS:=aG9 aAX aAY
def aAR(t n:Int)(v:AVal)(g:aC Ob):Option (Prop×(FTS×STS)):=match v,g with
 | .ptr 2 0,[e1,e2,some (.cells [.ptr 0 0,.int .i64 code,.bool okk,.int .i64 val,.bool failed,.int .i64 tries,.int .i64 sh,.int .i64 kd,.int .i64 ky,.int .i64 most,.int .i64 at',.bool p_now,.int .i64 p_code,.bool p_okk,.int .i64 p_val,.int .i64 p_addr,.int .u64 p_old,.int .i64 p_nxt,.bool p_mark,.int .i64 p_pops,.ptr 3 0,.O,.O]),some (.abs (.find t' n' sub) [])]=>(match lK 1 [e1,e2]with
   | some (l2,t2,n2,st)=>some ((t2=t∧n2=n∧l2=st.R.length)∧t'=t∧n'=n∧at'=0,⟨(⟨code,okk,val,failed,tries,sh,kd,ky,most,at',⟨p_now,p_code,p_okk,p_val,p_addr,p_old,p_nxt,p_mark,p_pops⟩,sub,⟨0,0,0,0⟩,⟨0,0,0,false⟩⟩:FTS),st⟩)
   | none=>none)
 | _,_=>none
abbrev T0(t n:Int)(y:(FTS×STS)):aC Ob:=[iY 1 t n y.2,iZ y.2,some (.abs (.fast t n y.1) [0])]
theorem T3{t n:Int} :bV (obI tbl) 2 (aAR t n) (fun y=>.ret (.ptr 2 0) (T0 t n y)):=by
 intro v g p x hp hq K hK;unfold aAR at hp;split at hp
 case h_2=>cases hp
 rename_i e1 e2 code okk val failed tries sh kd ky most at' p_now p_code p_okk p_val p_addr p_old p_nxt p_mark p_pops t' n' sub;split at hp
 case h_2=>cases hp
 rename_i l2 t2 n2 st hs;simp only [sI',pI']at hp;obtain⟨rfl,rfl⟩:=hp;obtain⟨⟨rfl,rfl,hl2⟩,rfl,rfl,hat⟩:=hq;have hh:=cH hs hl2;cases hh;exact let X0:FTS:=⟨code,okk,val,failed,tries,sh,kd,ky,most,at',⟨p_now,p_code,p_okk,p_val,p_addr,p_old,p_nxt,p_mark,p_pops⟩,sub,⟨0,0,0,0⟩,⟨0,0,0,false⟩⟩;⟨⟨_,_,aF.pack (T0 t' n' (X0,st)) (.fast t' n' X0) 2 1 (lN t' n' X0) [0] (by kernel_rfl) rfl (congrArg (Prod.mk 1) (x8 hat)) (by kernel_rfl),hK⟩⟩
def NN(t n:Int)(sh kd ky most:Int)(st:STS):Tr (FTS×STS):=.pre True (.pre (oQ t n st.1 (fG sh ky) (l9 sh kd ky) (W (most - 0))∧True) (.pre ((t=t∧n=n∧lE' st.3)∧t=t∧n=n∧(0:Int)=(0:Int)) (.ret ({code:=0,okk:=false,val:=0,failed:=false,tries:=0,sh:=sh,kd:=kd,ky:=ky,most:=most,at':=0,p:=aDe,fn:=uM t n st.1 (fG sh ky) (l9 sh kd ky) (W (most - 0)),cl:=cF,pr:=dN},st))))
def j9(t n:Int)(sh kd ky most:Int)(st:STS):(FTS×STS):=(NN t n sh kd ky most st).val
def uN(t n:Int)(sh kd ky most:Int)(st:STS):Prop:=(NN t n sh kd ky most st).ok
def ftNS:aI Ob:=fun args h=>match args,h with
 | [.ptr 0 0,.agg [.int .i64 sh,.int .i64 kd,.int .i64 ky],.int .i64 most],[e1,e2]=>(match lK 1 [e1,e2]with
   | some (l2,t,n,st)=>some (.pre (l2=st.R.length∧uN t n sh kd ky most st) (.ret (.ptr 2 0) (T0 t n (j9 t n sh kd ky most st))))
   | none=>none)
 | _,_=>none
theorem aAS:sT' 253 ftNS:=by
 intro args h o ho K hK;unfold ftNS at ho;split at ho
 case h_2=>cases ho
 rename_i sh kd ky most e1 e2;split at ho<;>cases ho
 rename_i l2 t n st hs;obtain⟨⟨hl2,ok⟩,hK⟩:=hK;have hh:=cH hs hl2;cases hh;refine aGX (root:=2) (pos:=[20,21,22]) (cs:=[]) (parse:=aAR t n) T3 ?_;exact cM' (E:=ER) (q:=(NN t n sh kd ky most st).run (fun y=>(Out.ret (.ptr 2 0) (T0 t n y)).run K)) (by kernel_rfl) (aGR ok hK)
noncomputable def ET:=((ER.addS 156 ftS aDN).addS 253 ftNS aAS)
def EM:bI Ob:=fun args h=>match args,h with
 | [.ptr 0 0],[some (.cells [.ptr 1 0,.int .i64 u,.int .u64 no,.int .i64 rounds,.int .i64 limit,.int .i64 at',.int .u64 found,.int .i64 sh,.int .i64 kd,.int .i64 ky,.bool p_now,.int .i64 p_code,.bool p_okk,.int .i64 p_val,.int .i64 p_addr,.int .u64 p_old,.int .i64 p_nxt,.bool p_mark,.int .i64 p_pops,.O,.O,.O,.O,.O]),some (.cells [.int .i64 t,.int .i64 n,.int .i64 me,.int .i64 sp,.slice 2 0 k 1]),some (.ints (some .i64) R)]=>some (True,.agg [.I (aA found 0 12),.I (aA found 12 9),.I (aA found 21 18),.I (aA found 39 9),.bool (ieq (aA found 48 1) 1),.I (aA found 49 3),.I (aA found 52 10)])
 | _,_=>none
theorem OC:sT' 196 EM.spec:=by
 intro args h o ho K hK;unfold bI.spec EM at ho;split at ho
 case h_2=>cases ho
 rename_i p v hp;split at hp
 case h_2=>cases hp
 rename_i u no rounds limit at' found sh kd ky p_now p_code p_okk p_val p_addr p_old p_nxt p_mark p_pops t n me sp k R;simp only [sI',pI']at hp;obtain⟨rfl,rfl⟩:=hp;simp only [sI']at ho;subst ho;obtain⟨hp,hK⟩:=hK;have hK:K (.agg [.I (aA found 0 12),.I (aA found 12 9),.I (aA found 21 18),.I (aA found 39 9),.bool (ieq (aA found 48 1) 1),.I (aA found 49 3),.I (aA found 52 10)]) [cE' [.ptr 1 0,.I u,.int .u64 no,.I rounds,.I limit,.I at',.int .u64 found,.I sh,.I kd,.I ky,.bool p_now,.I p_code,.bool p_okk,.I p_val,.I p_addr,.int .u64 p_old,.I p_nxt,.bool p_mark,.I p_pops,.O,.O,.O,.O,.O],cE' [.I t,.I n,.I me,.I sp,.slice 2 0 k 1],iI' R]:=hK;refine aGK (cM' (E:=ET) (q:=True∧K (.agg [.I (aA found 0 12),.I (aA found 12 9),.I (aA found 21 18),.I (aA found 39 9),.bool (ieq (aA found 48 1) 1),.I (aA found 49 3),.I (aA found 52 10)]) [cE' [.ptr 1 0,.I u,.int .u64 no,.I rounds,.I limit,.I at',.int .u64 found,.I sh,.I kd,.I ky,.bool p_now,.I p_code,.bool p_okk,.I p_val,.I p_addr,.int .u64 p_old,.I p_nxt,.bool p_mark,.I p_pops,.O,.O,.O,.O,.O],cE' [.I t,.I n,.I me,.I sp,.slice 2 0 k 1],iI' R]) (by kernel_rfl) ?_)
 exact⟨trivial,hK⟩
noncomputable def EH0:=ET.addR 196 EM OC
end Go.Sh
