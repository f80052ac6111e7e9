import Derived.Test.YteindpciaceeeaaGreatZMLtoGX
set_option linter.all false
set_option maxHeartbeats 8000000
namespace Go.Sh
open Go Go.Proofs
variable [Con]
structure ExO where
 d:Bool
 x:EXS
 s:MS
instance:Inhabited ExO:=⟨⟨false,eC,⟨0,0,[],0,0,0,0,0,false⟩⟩⟩
instance:Inhabited EXS:=⟨eC⟩
abbrev exH(t n:Int)(x:EXS)(s:MS):aC Ob:=[some (.abs (.exec t n x) []),aZ 2 s,a8 s]
abbrev exD(t n:Int)(x:EXS)(s:MS):aC Ob:=[cE' [.I t,.I n,.I x.popped,.I x.gave,.I x.u,.I x.sh,.I x.kd,.I x.ky,.bool x.only,.I x.att,.I x.at',.int .u64 x.found,.int .u64 x.word],aZ 2 s,a8 s]
def ExO.fin(t n:Int)(y:ExO):Out Ob:=.ite y.d (.ret (.bool true) (exD t n y.x y.s)) (.ret (.bool false) (exH t n y.x y.s))
def aBh(t n:Int)(v:AVal)(g:aC Ob):Option (Prop×ExO):=match v,g with
 | .bool d,[some (.cells [.int .i64 t1,.int .i64 n1,.int .i64 popped,.int .i64 gave,.int .i64 u,.int .i64 sh,.int .i64 kd,.int .i64 ky,.bool only,.int .i64 att,.int .i64 at',.int .u64 found,.int .u64 word]),e1,e2]=>(match cH 2 [e1,e2]with
   | some (l,s)=>some ((t1=t∧n1=n)∧l=s.xs.length,⟨d,⟨popped,gave,u,sh,kd,ky,only,att,at',found,word⟩,s⟩)
   | none=>none)
 | _,_=>none
def vH(t n:Int)(v:AVal)(g:aC Ob):Option (Prop×ExO):=aBh t n v g
theorem UC{t n:Int} :bM (obI tbl) 3 (aBh t n) (ExO.fin t n):=by
 intro v g p x hp hq K hK;unfold aBh at hp;split at hp
 case h_2=>cases hp
 rename_i d t1 n1 popped gave u sh kd ky only att at' found word e1 e2;split at hp
 case h_2=>cases hp
 rename_i l s hm;cases hp;obtain⟨⟨rfl,rfl⟩,hl⟩:=hq;cases aY hm hl;refine qC hK (fun h=>?_) (fun h=>?_)
 ·exact⟨⟨_,_,aHr _ _ _,h⟩⟩
 ·exact⟨⟨_,_,(aF.pack (exH t1 n1 (⟨popped,gave,u,sh,kd,ky,only,att,at',found,word⟩:EXS) s) (.exec t1 n1 (⟨popped,gave,u,sh,kd,ky,only,att,at',found,word⟩:EXS)) 0 0 (gG t1 n1 (⟨popped,gave,u,sh,kd,ky,only,att,at',found,word⟩:EXS)) [] (by kernel_rfl) rfl (congrArg (Prod.mk 0) rfl) (by kernel_rfl)),h⟩⟩
theorem kU{t n:Int} :bM (obI tbl) 3 (vH t n) (ExO.fin t n):=by
 intro v g p x hp hq K hK;unfold vH at hp;exact UC v g p x hp hq K hK
abbrev w0g(n t:Int)(x:EXS):=(((0:Int)≤t∧t≤(100000:Int))∧((0:Int)≤n∧n≤(100000:Int))∧(-1099511627776:Int)≤x.3∧x.3≤(1099511627776:Int))∧True
abbrev w0i(n:Int)(s:MS)(t:Int)(x:EXS):Tr ExO:=.ret {d:=true,x:= {x with at':=0,found:=aD s.3 (2*n+5+2*t+3*x.3+2)},s:= {s with c:=s.4+1,k:=1,a:=2*n+5+2*t+3*x.3+2,o:=aD s.3 (2*n+5+2*t+3*x.3+2),w:=aD s.3 (2*n+5+2*t+3*x.3+2),ok:=bL s.3 (2*n+5+2*t+3*x.3+2) } }
abbrev w0l(n:Int)(s:MS)(t:Int)(x:EXS):Tr ExO:=.ret {d:=false,x:= {x with at':=1,found:=aD s.3 (2*n+5+2*t+3*x.3+2)},s:= {s with c:=s.4+1,k:=1,a:=2*n+5+2*t+3*x.3+2,o:=aD s.3 (2*n+5+2*t+3*x.3+2),w:=aD s.3 (2*n+5+2*t+3*x.3+2),ok:=bL s.3 (2*n+5+2*t+3*x.3+2) } }
abbrev w0m(n:Int)(s:MS)(t:Int)(x:EXS):Tr ExO:=.ret {d:=false,x:= {x with at':=5,found:=aD s.3 (2*n+5+2*t+3*x.3+2)},s:= {s with c:=s.4+1,k:=1,a:=2*n+5+2*t+3*x.3+2,o:=aD s.3 (2*n+5+2*t+3*x.3+2),w:=aD s.3 (2*n+5+2*t+3*x.3+2),ok:=bL s.3 (2*n+5+2*t+3*x.3+2) } }
abbrev w0n(n:Int)(s:MS)(t:Int)(x:EXS):Tr ExO:=.ret {d:=false,x:= {x with at':=8,found:=aD s.3 (2*n+5+2*t+3*x.3+2)},s:= {s with c:=s.4+1,k:=1,a:=2*n+5+2*t+3*x.3+2,o:=aD s.3 (2*n+5+2*t+3*x.3+2),w:=aD s.3 (2*n+5+2*t+3*x.3+2),ok:=bL s.3 (2*n+5+2*t+3*x.3+2) } }
abbrev w0s(n:Int)(s:MS)(t:Int)(x:EXS):=aA (aD s.3 (2*n+5+2*t+3*x.3+2)) 49 3
def AV(t n:Int)(x:EXS)(s:MS):Tr ExO:=.pre True (.pre True (.pre (w0g n t x) (.pre ((lE' s.3∧(0:Int)≤s.4∧s.4≤(4611686018427387904:Int))∧True) (.ite x.7 (.pre True (.ite (!ieq (aA (aD s.3 (2*n+5+2*t+3*x.3+2)) 0 12) x.8) (.pre ((t=t∧n=n)∧lE' s.3) (w0i n s t x)) (.pre True (.ite (ieq (w0s n s t x) 2) (.pre ((t=t∧n=n)∧lE' s.3) (w0l n s t x)) (.ite (ieq (w0s n s t x) 3) (.pre ((t=t∧n=n)∧lE' s.3) (w0m n s t x)) (.ite (ieq (w0s n s t x) 4) (.pre ((t=t∧n=n)∧lE' s.3) (w0n n s t x)) (.pre ((t=t∧n=n)∧lE' s.3) (w0i n s t x)))))))) (.pre True (.ite (ieq (w0s n s t x) 2) (.pre ((t=t∧n=n)∧lE' s.3) (w0l n s t x)) (.ite (ieq (w0s n s t x) 3) (.pre ((t=t∧n=n)∧lE' s.3) (w0m n s t x)) (.ite (ieq (w0s n s t x) 4) (.pre ((t=t∧n=n)∧lE' s.3) (w0n n s t x)) (.pre ((t=t∧n=n)∧lE' s.3) (w0i n s t x))))))))))
theorem JG(t n:Int)(x:EXS)(s:MS)(K:ExO→Prop)(h:(AV t n x s).run K):cT' 249 [.ptr 0 0,.ptr 1 0] [cE' [.I t,.I n,.I x.popped,.I x.gave,.I x.u,.I x.sh,.I x.kd,.I x.ky,.bool x.only,.I x.att,.I 0,.int .u64 x.found,.int .u64 x.word],aZ 2 s,a8 s] (bU 3 0 [] [] (vH t n) K):=by
 exact cM' (E:=EX2) (by kernel_rfl) h
abbrev w0f(s:MS)(x:EXS):Tr ExO:=.ret {d:=false,x:= {x with at':=4,word:=aD s.3 (aA x.10 12 9) },s:= {s with c:=s.4+1,k:=1,a:=aA x.10 12 9,o:=aD s.3 (aA x.10 12 9),w:=aD s.3 (aA x.10 12 9),ok:=bL s.3 (aA x.10 12 9) } }
abbrev w0j(s:MS)(x:EXS):=ieq (aA (aD s.3 (aA x.10 12 9)) 25 18) (aA x.10 21 18)
abbrev w0o(s:MS)(x:EXS):Tr ExO:=.ret {d:=false,x:= {x with at':=3,word:=aD s.3 (aA x.10 12 9) },s:= {s with c:=s.4+1,k:=1,a:=aA x.10 12 9,o:=aD s.3 (aA x.10 12 9),w:=aD s.3 (aA x.10 12 9),ok:=bL s.3 (aA x.10 12 9) } }
abbrev w0r(s:MS)(x:EXS):=ieq (aA (aD s.3 (aA x.10 12 9)) 20 5) (W (x.3+1))
def AW(t n:Int)(x:EXS)(s:MS):Tr ExO:=.pre True (.pre True (.pre True (.pre (lE' s.3∧(0:Int)≤s.4∧s.4≤(4611686018427387904:Int)) (.pre True (.pre True (.ite (w0j s x) (.ite (ieq (aA (aD s.3 (aA x.10 12 9)) 20 5) 0) (.pre ((t=t∧n=n)∧lE' s.3) (.ret {d:=false,x:= {x with at':=2,word:=aD s.3 (aA x.10 12 9) },s:= {s with c:=s.4+1,k:=1,a:=aA x.10 12 9,o:=aD s.3 (aA x.10 12 9),w:=aD s.3 (aA x.10 12 9),ok:=bL s.3 (aA x.10 12 9) } })) (.pre True (.ite (w0j s x) (.ite (w0r s x) (.pre ((t=t∧n=n)∧lE' s.3) (w0o s x)) (.pre ((t=t∧n=n)∧lE' s.3) (w0f s x))) (.pre ((t=t∧n=n)∧lE' s.3) (w0f s x))))) (.pre True (.ite (w0j s x) (.ite (w0r s x) (.pre ((t=t∧n=n)∧lE' s.3) (w0o s x)) (.pre ((t=t∧n=n)∧lE' s.3) (w0f s x))) (.pre ((t=t∧n=n)∧lE' s.3) (w0f s x))))))))))
theorem JH(t n:Int)(x:EXS)(s:MS)(K:ExO→Prop)(h:(AW t n x s).run K):cT' 249 [.ptr 0 0,.ptr 1 0] [cE' [.I t,.I n,.I x.popped,.I x.gave,.I x.u,.I x.sh,.I x.kd,.I x.ky,.bool x.only,.I x.att,.I 1,.int .u64 x.found,.int .u64 x.word],aZ 2 s,a8 s] (bU 3 0 [] [] (vH t n) K):=by
 exact cM' (E:=EX2) (by kernel_rfl) h
abbrev w0k(x:EXS):=ieq (aA x.10 48 1) 1
abbrev w0e(n:Int)(s:MS)(t:Int)(x:EXS):Tr ExO:=.ret {d:=true,x:= {x with at':=2},s:= {t:=s.1,n:=s.2,xs:=bif aT s.3 (aA x.10 12 9) x.11 then aS s.3 (aA x.10 12 9) (bif bif aK (aA x.11 0 10) 10 then bif aK (aA x.10 39 9) 9 then bif aK (x.3+1) 5 then aK (aA x.11 25 18) 18 else false else false else false then cF (aA x.11 0 10) (aA x.10 39 9) (w0k x) (x.3+1) (aA x.11 25 18)else 0)else s.3,c:=s.4+1,k:=3,a:=aA x.10 12 9,o:=aD s.3 (aA x.10 12 9),w:=bif bL s.3 (aA x.10 12 9)then bif bif aK (aA x.11 0 10) 10 then bif aK (aA x.10 39 9) 9 then bif aK (x.3+1) 5 then aK (aA x.11 25 18) 18 else false else false else false then cF (aA x.11 0 10) (aA x.10 39 9) (w0k x) (x.3+1) (aA x.11 25 18)else 0 else 0,ok:=aT s.3 (aA x.10 12 9) x.11} }
def AX(t n:Int)(x:EXS)(s:MS):Tr ExO:=.pre True (.pre True (.pre ((-1000000:Int)≤x.3∧x.3≤(1000000:Int)) (.pre (lE' s.3∧True∧True∧((lE' s.3∧(0:Int)≤s.4∧s.4≤(4611686018427387904:Int))∧True)∧True) (.ite (aT s.3 (aA x.10 12 9) x.11) (.pre True (.ite (oH x.4 x.5) (.pre ((t=t∧n=n)∧lE' (bif aT s.3 (aA x.10 12 9) x.11 then aS s.3 (aA x.10 12 9) (bif bif aK (aA x.11 0 10) 10 then bif aK (aA x.10 39 9) 9 then bif aK (x.3+1) 5 then aK (aA x.11 25 18) 18 else false else false else false then cF (aA x.11 0 10) (aA x.10 39 9) (w0k x) (x.3+1) (aA x.11 25 18)else 0)else s.3)) (.ret {d:=true,x:= {x with popped:=aA x.11 10 9,at':=2},s:= {t:=s.1,n:=s.2,xs:=bif aT s.3 (aA x.10 12 9) x.11 then aS s.3 (aA x.10 12 9) (bif bif aK (aA x.11 0 10) 10 then bif aK (aA x.10 39 9) 9 then bif aK (x.3+1) 5 then aK (aA x.11 25 18) 18 else false else false else false then cF (aA x.11 0 10) (aA x.10 39 9) (w0k x) (x.3+1) (aA x.11 25 18)else 0)else s.3,c:=s.4+1,k:=3,a:=aA x.10 12 9,o:=aD s.3 (aA x.10 12 9),w:=bif bL s.3 (aA x.10 12 9)then bif bif aK (aA x.11 0 10) 10 then bif aK (aA x.10 39 9) 9 then bif aK (x.3+1) 5 then aK (aA x.11 25 18) 18 else false else false else false then cF (aA x.11 0 10) (aA x.10 39 9) (w0k x) (x.3+1) (aA x.11 25 18)else 0 else 0,ok:=aT s.3 (aA x.10 12 9) x.11} })) (.pre ((t=t∧n=n)∧lE' (bif aT s.3 (aA x.10 12 9) x.11 then aS s.3 (aA x.10 12 9) (bif bif aK (aA x.11 0 10) 10 then bif aK (aA x.10 39 9) 9 then bif aK (x.3+1) 5 then aK (aA x.11 25 18) 18 else false else false else false then cF (aA x.11 0 10) (aA x.10 39 9) (w0k x) (x.3+1) (aA x.11 25 18)else 0)else s.3)) (w0e n s t x)))) (.pre ((t=t∧n=n)∧lE' (bif aT s.3 (aA x.10 12 9) x.11 then aS s.3 (aA x.10 12 9) (bif bif aK (aA x.11 0 10) 10 then bif aK (aA x.10 39 9) 9 then bif aK (x.3+1) 5 then aK (aA x.11 25 18) 18 else false else false else false then cF (aA x.11 0 10) (aA x.10 39 9) (w0k x) (x.3+1) (aA x.11 25 18)else 0)else s.3)) (w0e n s t x))))))
theorem JI(t n:Int)(x:EXS)(s:MS)(K:ExO→Prop)(h:(AX t n x s).run K):cT' 249 [.ptr 0 0,.ptr 1 0] [cE' [.I t,.I n,.I x.popped,.I x.gave,.I x.u,.I x.sh,.I x.kd,.I x.ky,.bool x.only,.I x.att,.I 2,.int .u64 x.found,.int .u64 x.word],aZ 2 s,a8 s] (bU 3 0 [] [] (vH t n) K):=by
 exact cM' (E:=EX2) (by kernel_rfl) h
def AY(t n:Int)(x:EXS)(s:MS):Tr ExO:=.pre True (.pre True (.pre True (.pre (lE' s.3) (.pre True (.pre (w0g n t x) (.pre ((lE' s.3∧(0:Int)≤s.4∧s.4≤(4611686018427387904:Int))∧True) (.pre ((t=t∧n=n)∧lE' (bif aT s.3 (2*n+5+2*t+3*x.3+2) x.10 then aS s.3 (2*n+5+2*t+3*x.3+2) (bif dOk (aA x.10 0 12) (aA x.10 12 9) (aA x.10 21 18) (aA x.10 39 9) 3 (aA x.10 52 10)then cD (aA x.10 0 12) (aA x.10 12 9) (aA x.10 21 18) (aA x.10 39 9) (w0k x) 3 (aA x.10 52 10)else 0)else s.3)) (.ret {d:=true,x:= {x with at':=3},s:= {t:=s.1,n:=s.2,xs:=bif aT s.3 (2*n+5+2*t+3*x.3+2) x.10 then aS s.3 (2*n+5+2*t+3*x.3+2) (bif dOk (aA x.10 0 12) (aA x.10 12 9) (aA x.10 21 18) (aA x.10 39 9) 3 (aA x.10 52 10)then cD (aA x.10 0 12) (aA x.10 12 9) (aA x.10 21 18) (aA x.10 39 9) (w0k x) 3 (aA x.10 52 10)else 0)else s.3,c:=s.4+1,k:=3,a:=2*n+5+2*t+3*x.3+2,o:=aD s.3 (2*n+5+2*t+3*x.3+2),w:=bif bL s.3 (2*n+5+2*t+3*x.3+2)then bif dOk (aA x.10 0 12) (aA x.10 12 9) (aA x.10 21 18) (aA x.10 39 9) 3 (aA x.10 52 10)then cD (aA x.10 0 12) (aA x.10 12 9) (aA x.10 21 18) (aA x.10 39 9) (w0k x) 3 (aA x.10 52 10)else 0 else 0,ok:=aT s.3 (2*n+5+2*t+3*x.3+2) x.10} }))))))))
theorem JJ(t n:Int)(x:EXS)(s:MS)(K:ExO→Prop)(h:(AY t n x s).run K):cT' 249 [.ptr 0 0,.ptr 1 0] [cE' [.I t,.I n,.I x.popped,.I x.gave,.I x.u,.I x.sh,.I x.kd,.I x.ky,.bool x.only,.I x.att,.I 3,.int .u64 x.found,.int .u64 x.word],aZ 2 s,a8 s] (bU 3 0 [] [] (vH t n) K):=by
 exact cM' (E:=EX2) (by kernel_rfl) h
def AZ(t n:Int)(x:EXS)(s:MS):Tr ExO:=.pre True (.pre True (.pre True (.pre (lE' s.3) (.pre True (.pre (w0g n t x) (.pre ((lE' s.3∧(0:Int)≤s.4∧s.4≤(4611686018427387904:Int))∧True) (.pre ((t=t∧n=n)∧lE' (bif aT s.3 (2*n+5+2*t+3*x.3+2) x.10 then aS s.3 (2*n+5+2*t+3*x.3+2) (bif dOk (aA x.10 0 12) (aA x.10 12 9) (aA x.10 21 18) (aA x.10 39 9) 4 (aA x.10 52 10)then cD (aA x.10 0 12) (aA x.10 12 9) (aA x.10 21 18) (aA x.10 39 9) (w0k x) 4 (aA x.10 52 10)else 0)else s.3)) (.ret {d:=true,x:= {x with at':=4},s:= {t:=s.1,n:=s.2,xs:=bif aT s.3 (2*n+5+2*t+3*x.3+2) x.10 then aS s.3 (2*n+5+2*t+3*x.3+2) (bif dOk (aA x.10 0 12) (aA x.10 12 9) (aA x.10 21 18) (aA x.10 39 9) 4 (aA x.10 52 10)then cD (aA x.10 0 12) (aA x.10 12 9) (aA x.10 21 18) (aA x.10 39 9) (w0k x) 4 (aA x.10 52 10)else 0)else s.3,c:=s.4+1,k:=3,a:=2*n+5+2*t+3*x.3+2,o:=aD s.3 (2*n+5+2*t+3*x.3+2),w:=bif bL s.3 (2*n+5+2*t+3*x.3+2)then bif dOk (aA x.10 0 12) (aA x.10 12 9) (aA x.10 21 18) (aA x.10 39 9) 4 (aA x.10 52 10)then cD (aA x.10 0 12) (aA x.10 12 9) (aA x.10 21 18) (aA x.10 39 9) (w0k x) 4 (aA x.10 52 10)else 0 else 0,ok:=aT s.3 (2*n+5+2*t+3*x.3+2) x.10} }))))))))
theorem JK(t n:Int)(x:EXS)(s:MS)(K:ExO→Prop)(h:(AZ t n x s).run K):cT' 249 [.ptr 0 0,.ptr 1 0] [cE' [.I t,.I n,.I x.popped,.I x.gave,.I x.u,.I x.sh,.I x.kd,.I x.ky,.bool x.only,.I x.att,.I 4,.int .u64 x.found,.int .u64 x.word],aZ 2 s,a8 s] (bU 3 0 [] [] (vH t n) K):=by
 exact cM' (E:=EX2) (by kernel_rfl) h
abbrev w0d(s:MS)(x:EXS):Tr ExO:=.ret {d:=false,x:= {x with at':=7,word:=aD s.3 (aA x.10 12 9) },s:= {s with c:=s.4+1,k:=1,a:=aA x.10 12 9,o:=aD s.3 (aA x.10 12 9),w:=aD s.3 (aA x.10 12 9),ok:=bL s.3 (aA x.10 12 9) } }
abbrev w0p(s:MS)(x:EXS):Tr ExO:=.ret {d:=false,x:= {x with at':=6,word:=aD s.3 (aA x.10 12 9) },s:= {s with c:=s.4+1,k:=1,a:=aA x.10 12 9,o:=aD s.3 (aA x.10 12 9),w:=aD s.3 (aA x.10 12 9),ok:=bL s.3 (aA x.10 12 9) } }
def A0(t n:Int)(x:EXS)(s:MS):Tr ExO:=.pre True (.pre True (.pre True (.pre (lE' s.3∧(0:Int)≤s.4∧s.4≤(4611686018427387904:Int)) (.pre True (.pre True (.ite (w0j s x) (.ite (ieq (aA (aD s.3 (aA x.10 12 9)) 20 5) 0) (.pre ((t=t∧n=n)∧lE' s.3) (w0d s x)) (.pre True (.ite (w0j s x) (.ite (w0r s x) (.pre ((t=t∧n=n)∧lE' s.3) (w0p s x)) (.pre ((t=t∧n=n)∧lE' s.3) (w0d s x))) (.pre ((t=t∧n=n)∧lE' s.3) (w0d s x))))) (.pre True (.ite (w0j s x) (.ite (w0r s x) (.pre ((t=t∧n=n)∧lE' s.3) (w0p s x)) (.pre ((t=t∧n=n)∧lE' s.3) (w0d s x))) (.pre ((t=t∧n=n)∧lE' s.3) (w0d s x))))))))))
theorem JL(t n:Int)(x:EXS)(s:MS)(K:ExO→Prop)(h:(A0 t n x s).run K):cT' 249 [.ptr 0 0,.ptr 1 0] [cE' [.I t,.I n,.I x.popped,.I x.gave,.I x.u,.I x.sh,.I x.kd,.I x.ky,.bool x.only,.I x.att,.I 5,.int .u64 x.found,.int .u64 x.word],aZ 2 s,a8 s] (bU 3 0 [] [] (vH t n) K):=by
 exact cM' (E:=EX2) (by kernel_rfl) h
abbrev w0t(x:EXS):=aQ (aA x.11 25 18)
def A1(t n:Int)(x:EXS)(s:MS):Tr ExO:=.pre True (.pre True (.pre ((0:Int)≤aA x.11 25 18∧aA x.11 25 (18:Int)≤(1000000:Int)) (.pre (lE' s.3) (.pre True (.pre True (.pre ((lE' s.3∧(0:Int)≤s.4∧s.4≤(4611686018427387904:Int))∧True) (.pre ((t=t∧n=n)∧lE' (bif aT s.3 (aA x.10 12 9) x.11 then aS s.3 (aA x.10 12 9) (bif bif aK (aA x.11 0 10) 10 then bif aK (aA x.11 10 9) 9 then bif aK 0 5 then aK (w0t x) 18 else false else false else false then cF (aA x.11 0 10) (aA x.11 10 9) (ieq (aA x.11 19 1) 1) 0 (w0t x)else 0)else s.3)) (.ret {d:=false,x:= {x with at':=7},s:= {t:=s.1,n:=s.2,xs:=bif aT s.3 (aA x.10 12 9) x.11 then aS s.3 (aA x.10 12 9) (bif bif aK (aA x.11 0 10) 10 then bif aK (aA x.11 10 9) 9 then bif aK 0 5 then aK (w0t x) 18 else false else false else false then cF (aA x.11 0 10) (aA x.11 10 9) (ieq (aA x.11 19 1) 1) 0 (w0t x)else 0)else s.3,c:=s.4+1,k:=3,a:=aA x.10 12 9,o:=aD s.3 (aA x.10 12 9),w:=bif bL s.3 (aA x.10 12 9)then bif bif aK (aA x.11 0 10) 10 then bif aK (aA x.11 10 9) 9 then bif aK 0 5 then aK (w0t x) 18 else false else false else false then cF (aA x.11 0 10) (aA x.11 10 9) (ieq (aA x.11 19 1) 1) 0 (w0t x)else 0 else 0,ok:=aT s.3 (aA x.10 12 9) x.11} }))))))))
theorem JM(t n:Int)(x:EXS)(s:MS)(K:ExO→Prop)(h:(A1 t n x s).run K):cT' 249 [.ptr 0 0,.ptr 1 0] [cE' [.I t,.I n,.I x.popped,.I x.gave,.I x.u,.I x.sh,.I x.kd,.I x.ky,.bool x.only,.I x.att,.I 6,.int .u64 x.found,.int .u64 x.word],aZ 2 s,a8 s] (bU 3 0 [] [] (vH t n) K):=by
 exact cM' (E:=EX2) (by kernel_rfl) h
def A2(t n:Int)(x:EXS)(s:MS):Tr ExO:=.pre True (.pre True (.pre True (.pre (lE' s.3) (.pre True (.pre (w0g n t x) (.pre ((lE' s.3∧(0:Int)≤s.4∧s.4≤(4611686018427387904:Int))∧True) (.pre ((t=t∧n=n)∧lE' (bif aT s.3 (2*n+5+2*t+3*x.3+2) x.10 then aS s.3 (2*n+5+2*t+3*x.3+2) (bif dOk (aA x.10 0 12) 0 0 0 5 (aA x.10 52 10)then cD (aA x.10 0 12) 0 0 0 true 5 (aA x.10 52 10)else 0)else s.3)) (.ret {d:=true,x:= {x with at':=7},s:= {t:=s.1,n:=s.2,xs:=bif aT s.3 (2*n+5+2*t+3*x.3+2) x.10 then aS s.3 (2*n+5+2*t+3*x.3+2) (bif dOk (aA x.10 0 12) 0 0 0 5 (aA x.10 52 10)then cD (aA x.10 0 12) 0 0 0 true 5 (aA x.10 52 10)else 0)else s.3,c:=s.4+1,k:=3,a:=2*n+5+2*t+3*x.3+2,o:=aD s.3 (2*n+5+2*t+3*x.3+2),w:=bif bL s.3 (2*n+5+2*t+3*x.3+2)then bif dOk (aA x.10 0 12) 0 0 0 5 (aA x.10 52 10)then cD (aA x.10 0 12) 0 0 0 true 5 (aA x.10 52 10)else 0 else 0,ok:=aT s.3 (2*n+5+2*t+3*x.3+2) x.10} }))))))))
theorem JN(t n:Int)(x:EXS)(s:MS)(K:ExO→Prop)(h:(A2 t n x s).run K):cT' 249 [.ptr 0 0,.ptr 1 0] [cE' [.I t,.I n,.I x.popped,.I x.gave,.I x.u,.I x.sh,.I x.kd,.I x.ky,.bool x.only,.I x.att,.I 7,.int .u64 x.found,.int .u64 x.word],aZ 2 s,a8 s] (bU 3 0 [] [] (vH t n) K):=by
 exact cM' (E:=EX2) (by kernel_rfl) h
abbrev w0q(x:EXS):=eH (aA x.10 0 12)
abbrev w0h(n:Int)(s:MS)(t:Int)(x:EXS):Tr ExO:=.ret {d:=true,x:= {x with at':=9},s:= {t:=s.1,n:=s.2,xs:=bif aT s.3 (2*n+5+2*t+3*x.3+2) x.10 then aS s.3 (2*n+5+2*t+3*x.3+2) (bif dOk (w0q x) 0 0 0 1 0 then cD (w0q x) 0 0 0 false 1 0 else 0)else s.3,c:=s.4+1,k:=3,a:=2*n+5+2*t+3*x.3+2,o:=aD s.3 (2*n+5+2*t+3*x.3+2),w:=bif bL s.3 (2*n+5+2*t+3*x.3+2)then bif dOk (w0q x) 0 0 0 1 0 then cD (w0q x) 0 0 0 false 1 0 else 0 else 0,ok:=aT s.3 (2*n+5+2*t+3*x.3+2) x.10} }
def A3(t n:Int)(x:EXS)(s:MS):Tr ExO:=.pre True (.pre True (.pre ((0:Int)≤aA x.10 0 12∧aA x.10 0 (12:Int)≤(1000000:Int)) (.pre (lE' s.3∧True∧(w0g n t x)∧((lE' s.3∧(0:Int)≤s.4∧s.4≤(4611686018427387904:Int))∧True)∧True) (.ite (!aT s.3 (2*n+5+2*t+3*x.3+2) x.10) (.pre ((t=t∧n=n)∧lE' (bif aT s.3 (2*n+5+2*t+3*x.3+2) x.10 then aS s.3 (2*n+5+2*t+3*x.3+2) (bif dOk (w0q x) 0 0 0 1 0 then cD (w0q x) 0 0 0 false 1 0 else 0)else s.3)) (w0h n s t x)) (.pre True (.ite (!fK x.5) (.pre ((t=t∧n=n)∧lE' (bif aT s.3 (2*n+5+2*t+3*x.3+2) x.10 then aS s.3 (2*n+5+2*t+3*x.3+2) (bif dOk (w0q x) 0 0 0 1 0 then cD (w0q x) 0 0 0 false 1 0 else 0)else s.3)) (w0h n s t x)) (.pre (True∧True) (.pre ((t=t∧n=n)∧lE' (bif aT s.3 (2*n+5+2*t+3*x.3+2) x.10 then aS s.3 (2*n+5+2*t+3*x.3+2) (bif dOk (w0q x) 0 0 0 1 0 then cD (w0q x) 0 0 0 false 1 0 else 0)else s.3)) (.ret {d:=!bN n (aA x.10 39 9),x:= {x with at':=9},s:= {t:=s.1,n:=s.2,xs:=bif aT s.3 (2*n+5+2*t+3*x.3+2) x.10 then aS s.3 (2*n+5+2*t+3*x.3+2) (bif dOk (w0q x) 0 0 0 1 0 then cD (w0q x) 0 0 0 false 1 0 else 0)else s.3,c:=s.4+1,k:=3,a:=2*n+5+2*t+3*x.3+2,o:=aD s.3 (2*n+5+2*t+3*x.3+2),w:=bif bL s.3 (2*n+5+2*t+3*x.3+2)then bif dOk (w0q x) 0 0 0 1 0 then cD (w0q x) 0 0 0 false 1 0 else 0 else 0,ok:=aT s.3 (2*n+5+2*t+3*x.3+2) x.10} })))))))))
theorem JO(t n:Int)(x:EXS)(s:MS)(K:ExO→Prop)(h:(A3 t n x s).run K):cT' 249 [.ptr 0 0,.ptr 1 0] [cE' [.I t,.I n,.I x.popped,.I x.gave,.I x.u,.I x.sh,.I x.kd,.I x.ky,.bool x.only,.I x.att,.I 8,.int .u64 x.found,.int .u64 x.word],aZ 2 s,a8 s] (bU 3 0 [] [] (vH t n) K):=by
 exact cM' (E:=EX2) (by kernel_rfl) h
abbrev w0u(n:Int)(x:EXS):=n+4+aA x.10 39 9
def A4(t n:Int)(x:EXS)(s:MS):Tr ExO:=.pre True (.pre True (.pre ((((0:Int)≤t∧t≤(100000:Int))∧((0:Int)≤n∧n≤(100000:Int))∧(-1099511627776:Int)≤aA x.10 39 9∧aA x.10 39 (9:Int)≤(1099511627776:Int))∧True) (.pre ((lE' s.3∧(0:Int)≤s.4∧s.4≤(4611686018427387904:Int))∧True) (.pre ((t=t∧n=n)∧lE' (aS s.3 (w0u n x) (WU (aD s.3 (w0u n x)+1)))) (.ret {d:=true,x:= {x with gave:=aA x.10 39 9,at':=9},s:= {t:=s.1,n:=s.2,xs:=aS s.3 (w0u n x) (WU (aD s.3 (w0u n x)+1)),c:=s.4+1,k:=4,a:=n+4+aA x.10 39 9,o:=aD s.3 (w0u n x),w:=bif bL s.3 (w0u n x)then WU (aD s.3 (w0u n x)+1)else 0,ok:=bL s.3 (w0u n x) } })))))
theorem JP(t n:Int)(x:EXS)(s:MS)(K:ExO→Prop)(h:(A4 t n x s).run K):cT' 249 [.ptr 0 0,.ptr 1 0] [cE' [.I t,.I n,.I x.popped,.I x.gave,.I x.u,.I x.sh,.I x.kd,.I x.ky,.bool x.only,.I x.att,.I 9,.int .u64 x.found,.int .u64 x.word],aZ 2 s,a8 s] (bU 3 0 [] [] (vH t n) K):=by
 exact cM' (E:=EX2) (by kernel_rfl) h
def exT(t n:Int)(x:EXS)(s:MS):Tr ExO:=
 bif ieq x.at' 0 then AV t n x s else
 bif ieq x.at' 1 then AW t n x s else
 bif ieq x.at' 2 then AX t n x s else
 bif ieq x.at' 3 then AY t n x s else
 bif ieq x.at' 4 then AZ t n x s else
 bif ieq x.at' 5 then A0 t n x s else
 bif ieq x.at' 6 then A1 t n x s else
 bif ieq x.at' 7 then A2 t n x s else
 bif ieq x.at' 8 then A3 t n x s else
 bif ieq x.at' 9 then A4 t n x s else .pre False (.ret default)
def C2(t n:Int)(x:EXS)(s:MS):ExO:=(exT t n x s).val
def aBg(t n:Int)(x:EXS)(s:MS):Prop:=(exT t n x s).ok
theorem UD(t n:Int)(x:EXS)(s:MS)(K:AVal→aC Ob→Prop)(h:(exT t n x s).run (fun y=>(ExO.fin t n y).run K)):cT' 249 [.ptr 0 0,.ptr 1 0] (exH t n x s) K:=by
 unfold exT at h
 by_cases e:x.at'=0
 ·rw [e]at h;have h:(AV t n x s).run _:=h;refine aHb (root:=0) (pos:=[]) (cs:=[]) (parse:=vH t n) (fin:=ExO.fin t n) kU (aR.unpack (.exec t n x) 0 0 (gG t n x) [] rfl (congrArg (Prod.mk 0) rfl) (by kernel_rfl) rfl) ?_
  have q:=JG t n x s _ h;rw [←e]at q;exact q
 rw [bF e]at h
 by_cases e:x.at'=1
 ·rw [e]at h;have h:(AW t n x s).run _:=h;refine aHb (root:=0) (pos:=[]) (cs:=[]) (parse:=vH t n) (fin:=ExO.fin t n) kU (aR.unpack (.exec t n x) 0 0 (gG t n x) [] rfl (congrArg (Prod.mk 0) rfl) (by kernel_rfl) rfl) ?_
  have q:=JH t n x s _ h;rw [←e]at q;exact q
 rw [bF e]at h
 by_cases e:x.at'=2
 ·rw [e]at h;have h:(AX t n x s).run _:=h;refine aHb (root:=0) (pos:=[]) (cs:=[]) (parse:=vH t n) (fin:=ExO.fin t n) kU (aR.unpack (.exec t n x) 0 0 (gG t n x) [] rfl (congrArg (Prod.mk 0) rfl) (by kernel_rfl) rfl) ?_
  have q:=JI t n x s _ h;rw [←e]at q;exact q
 rw [bF e]at h
 by_cases e:x.at'=3
 ·rw [e]at h;have h:(AY t n x s).run _:=h;refine aHb (root:=0) (pos:=[]) (cs:=[]) (parse:=vH t n) (fin:=ExO.fin t n) kU (aR.unpack (.exec t n x) 0 0 (gG t n x) [] rfl (congrArg (Prod.mk 0) rfl) (by kernel_rfl) rfl) ?_
  have q:=JJ t n x s _ h;rw [←e]at q;exact q
 rw [bF e]at h
 by_cases e:x.at'=4
 ·rw [e]at h;have h:(AZ t n x s).run _:=h;refine aHb (root:=0) (pos:=[]) (cs:=[]) (parse:=vH t n) (fin:=ExO.fin t n) kU (aR.unpack (.exec t n x) 0 0 (gG t n x) [] rfl (congrArg (Prod.mk 0) rfl) (by kernel_rfl) rfl) ?_
  have q:=JK t n x s _ h;rw [←e]at q;exact q
 rw [bF e]at h
 by_cases e:x.at'=5
 ·rw [e]at h;have h:(A0 t n x s).run _:=h;refine aHb (root:=0) (pos:=[]) (cs:=[]) (parse:=vH t n) (fin:=ExO.fin t n) kU (aR.unpack (.exec t n x) 0 0 (gG t n x) [] rfl (congrArg (Prod.mk 0) rfl) (by kernel_rfl) rfl) ?_
  have q:=JL t n x s _ h;rw [←e]at q;exact q
 rw [bF e]at h
 by_cases e:x.at'=6
 ·rw [e]at h;have h:(A1 t n x s).run _:=h;refine aHb (root:=0) (pos:=[]) (cs:=[]) (parse:=vH t n) (fin:=ExO.fin t n) kU (aR.unpack (.exec t n x) 0 0 (gG t n x) [] rfl (congrArg (Prod.mk 0) rfl) (by kernel_rfl) rfl) ?_
  have q:=JM t n x s _ h;rw [←e]at q;exact q
 rw [bF e]at h
 by_cases e:x.at'=7
 ·rw [e]at h;have h:(A2 t n x s).run _:=h;refine aHb (root:=0) (pos:=[]) (cs:=[]) (parse:=vH t n) (fin:=ExO.fin t n) kU (aR.unpack (.exec t n x) 0 0 (gG t n x) [] rfl (congrArg (Prod.mk 0) rfl) (by kernel_rfl) rfl) ?_
  have q:=JN t n x s _ h;rw [←e]at q;exact q
 rw [bF e]at h
 by_cases e:x.at'=8
 ·rw [e]at h;have h:(A3 t n x s).run _:=h;refine aHb (root:=0) (pos:=[]) (cs:=[]) (parse:=vH t n) (fin:=ExO.fin t n) kU (aR.unpack (.exec t n x) 0 0 (gG t n x) [] rfl (congrArg (Prod.mk 0) rfl) (by kernel_rfl) rfl) ?_
  have q:=JO t n x s _ h;rw [←e]at q;exact q
 rw [bF e]at h
 by_cases e:x.at'=9
 ·rw [e]at h;have h:(A4 t n x s).run _:=h;refine aHb (root:=0) (pos:=[]) (cs:=[]) (parse:=vH t n) (fin:=ExO.fin t n) kU (aR.unpack (.exec t n x) 0 0 (gG t n x) [] rfl (congrArg (Prod.mk 0) rfl) (by kernel_rfl) rfl) ?_
  have q:=JP t n x s _ h;rw [←e]at q;exact q
 rw [bF e]at h;exact h.1.elim
noncomputable def exS:aI Ob:=fun args h=>match args,h with
 | [.ptr 0 0,.ptr 1 0],[some (.abs (.exec t n x) []),e1,e2]=>(match cH 2 [e1,e2]with
   | some (l,s)=>some (.pre (l=s.xs.length∧aBg t n x s) (ExO.fin t n (C2 t n x s)))
   | none=>none)
 | _,_=>none
theorem aEd:sT' 249 exS:=by
 intro args h o ho K hK;unfold exS at ho;split at ho
 case h_2=>cases ho
 split at ho<;>cases ho
 rename_i hm;obtain⟨⟨hl,ok⟩,hK⟩:=hK;cases aY hm hl;exact UD _ _ _ _ K (aHe ok hK)
def aBd(t n:Int)(v:AVal)(g:aC Ob):Option (Prop×EXS):=match v,g with
 | .ptr 0 0,[some (.cells [.int .i64 t1,.int .i64 n1,.int .i64 popped,.int .i64 gave,.int .i64 u,.int .i64 sh,.int .i64 kd,.int .i64 ky,.bool only,.int .i64 att,.int .i64 at',.int .u64 found,.int .u64 word])]=>some ((t1=t∧n1=n),(⟨popped,gave,u,sh,kd,ky,only,att,at',found,word⟩:EXS))
 | _,_=>none
abbrev T9(t n:Int)(y:EXS):aC Ob:=[some (.abs (.exec t n y) [])]
theorem UA{t n:Int} :bM (obI tbl) 0 (aBd t n) (fun y=>.ret (.ptr 0 0) (T9 t n y)):=by
 intro v g p x hp hq K hK;unfold aBd at hp;split at hp
 case h_2=>cases hp
 rename_i t1 n1 popped gave u sh kd ky only att at' found word;cases hp;obtain⟨rfl,rfl⟩:=hq;exact⟨⟨_,_,aF.pack (T9 t1 n1 (⟨popped,gave,u,sh,kd,ky,only,att,at',found,word⟩:EXS)) (.exec t1 n1 (⟨popped,gave,u,sh,kd,ky,only,att,at',found,word⟩:EXS)) 0 0 (gG t1 n1 (⟨popped,gave,u,sh,kd,ky,only,att,at',found,word⟩:EXS)) [] (by kernel_rfl) rfl (congrArg (Prod.mk 0) rfl) (by kernel_rfl),hK⟩⟩
def aBe(t n:Int)(u sh kd ky att:Int):Tr EXS:=.pre (t=t∧n=n) (.ret {popped:=0,gave:=0,u:=u,sh:=sh,kd:=kd,ky:=ky,only:=true,att:=att,at':=0,found:=0,word:=0})
def aBc(t n:Int)(u sh kd ky att:Int):EXS:=(aBe t n u sh kd ky att).val
def OF(t n:Int)(u sh kd ky att:Int):Prop:=(aBe t n u sh kd ky att).ok
def exNS:aI Ob:=fun args h=>match args,h with
 | [.agg [.int .i64 t,.int .i64 n],.int .i64 u,.agg [.int .i64 sh,.int .i64 kd,.int .i64 ky],.int .i64 att],[]=>some (.pre (OF t n u sh kd ky att) (.ret (.ptr 0 0) (T9 t n (aBc t n u sh kd ky att))))
 | _,_=>none
theorem aBf:sT' 246 exNS:=by
 intro args h o ho K hK;unfold exNS at ho;split at ho<;>cases ho
 rename_i t n u sh kd ky att;obtain⟨ok,hK⟩:=hK;refine aHm (root:=0) (pos:=[]) (cs:=[]) (parse:=aBd t n) UA ?_;exact cM' (E:=EX2) (q:=(aBe t n u sh kd ky att).run (fun y=>(Out.ret (.ptr 0 0) (T9 t n y)).run K)) (by kernel_rfl) (aHe ok hK)
noncomputable def EC6:=((EX2.addS 249 exS aEd).addS 246 exNS aBf)
structure PrO where
 d:Bool
 x:PRS
 st:STS
 s:MS
instance:Inhabited PrO:=⟨⟨false,⟨0,0,0,false⟩,⟨0,0,[]⟩,⟨0,0,[],0,0,0,0,0,false⟩⟩⟩
instance:Inhabited PRS:=⟨⟨0,0,0,false⟩⟩
abbrev prH(t n:Int)(x:PRS)(st:STS)(s:MS):aC Ob:=[some (.abs (.prepare t n x) [1]),some (.abs (.store t n st) []),aZ 3 s,a8 s]
abbrev prD(t n:Int)(x:PRS)(st:STS)(s:MS):aC Ob:=[cE' [.ptr 1 0,.I x.key,.I x.nxt,.int .u64 x.found,.bool x.loaded],some (.abs (.store t n st) []),aZ 3 s,a8 s]
def PrO.fin(t n:Int)(y:PrO):Out Ob:=.ite y.d (.ret (.bool true) (prD t n y.x y.st y.s)) (.ret (.bool false) (prH t n y.x y.st y.s))
def aCC(t n:Int)(v:AVal)(g:aC Ob):Option (Prop×PrO):=match v,g with
 | .bool d,[some (.cells [.ptr 1 0,.int .i64 key,.int .i64 nxt,.int .u64 found,.bool loaded]),e1,e3,e4,e2]=>(match k9 4 [e1,e2],cH 3 [e3,e4]with
   | some (l2,t2,n2,st),some (l,s)=>some ((t2=t∧n2=n)∧l=s.xs.length∧l2=st.R.length,⟨d,⟨key,nxt,found,loaded⟩,st,s⟩)
   | _,_=>none)
 | _,_=>none
def prP(t n:Int)(v:AVal)(g:aC Ob):Option (Prop×PrO):=aCC t n v g
theorem WY{t n:Int} :bM (obI tbl) 4 (aCC t n) (PrO.fin t n):=by
 intro v g p x hp hq K hK;unfold aCC at hp;split at hp
 case h_2=>cases hp
 rename_i d key nxt found loaded e1 e3 e4 e2;split at hp
 case h_2=>cases hp
 rename_i l2 t2 n2 st l s hs hm;cases hp;obtain⟨⟨rfl,rfl⟩,hl,hl2⟩:=hq;cases aY hm hl;cases b8 hs hl2;refine qC hK (fun h=>?_) (fun h=>?_)
 ·exact ZL h (.store t2 n2 st) 1 0 (dN t2 n2 st) []
 ·exact vJ h (.store t2 n2 st) 1 0 (dN t2 n2 st) [] 0 [1] rfl (congrArg (Prod.mk 1) rfl)
theorem aCD{t n:Int} :bM (obI tbl) 4 (prP t n) (PrO.fin t n):=by
 intro v g p x hp hq K hK;unfold prP at hp;exact WY v g p x hp hq K hK
abbrev w0v(x:PRS):=aQ (aA x.3 25 18)
def WZ(t n:Int)(x:PRS)(st:STS)(s:MS):Tr PrO:=.ite (!x.4) (.pre (lE' s.3∧(0:Int)≤s.4∧s.4≤(4611686018427387904:Int)) (.pre ((t=t∧n=n)∧lE' s.3∧lE' st.3) (.ret {d:=false,x:= {key:=x.1,nxt:=x.2,found:=aD s.3 st.2,loaded:=true},st:=st,s:= {s with c:=s.4+1,k:=1,a:=st.2,o:=aD s.3 st.2,w:=aD s.3 st.2,ok:=bL s.3 st.2} }))) (.pre True (.pre ((0:Int)≤aA x.3 25 18∧aA x.3 25 (18:Int)≤(1000000:Int)) (.pre True (.pre (lE' s.3∧(0:Int)≤s.4∧s.4≤(4611686018427387904:Int)) (.pre ((t=t∧n=n)∧lE' (aS s.3 st.2 (bif bif aK x.1 10 then bif aK x.2 9 then bif aK 0 5 then aK (w0v x) 18 else false else false else false then cF x.1 x.2 false 0 (w0v x)else 0))∧lE' st.3) (.ret {d:=true,x:=x,st:=st,s:= {t:=s.1,n:=s.2,xs:=aS s.3 st.2 (bif bif aK x.1 10 then bif aK x.2 9 then bif aK 0 5 then aK (w0v x) 18 else false else false else false then cF x.1 x.2 false 0 (w0v x)else 0),c:=s.4+1,k:=2,a:=st.2,o:=aD s.3 st.2,w:=bif bL s.3 st.2 then bif bif aK x.1 10 then bif aK x.2 9 then bif aK 0 5 then aK (w0v x) 18 else false else false else false then cF x.1 x.2 false 0 (w0v x)else 0 else 0,ok:=bL s.3 st.2} }))))))
theorem P3(t n:Int)(x:PRS)(st:STS)(s:MS)(K:PrO→Prop)(h:(WZ t n x st s).run K):cT' 216 [.ptr 0 0,.ptr 2 0] [cE' [.ptr 1 0,.I x.key,.I x.nxt,.int .u64 x.found,.bool x.loaded],iP 4 t n st,aZ 3 s,a8 s,iQ st] (bU 4 0 [] [(.cell 1 4,.ints (some .i64))] (prP t n) K):=by
 exact cM' (E:=EC6) (by kernel_rfl) h
def prT(t n:Int)(x:PRS)(st:STS)(s:MS):Tr PrO:=WZ t n x st s
def prF(t n:Int)(x:PRS)(st:STS)(s:MS):PrO:=(prT t n x st s).val
def P2(t n:Int)(x:PRS)(st:STS)(s:MS):Prop:=(prT t n x st s).ok
theorem H7(t n:Int)(x:PRS)(st:STS)(s:MS)(K:AVal→aC Ob→Prop)(h:(prT t n x st s).run (fun y=>(PrO.fin t n y).run K)):cT' 216 [.ptr 0 0,.ptr 2 0] (prH t n x st s) K:=by
 unfold prT at h;exact aHb (root:=0) (pos:=[]) (cs:=[(.cell 1 4,.ints (some .i64))]) (parse:=prP t n) (fin:=PrO.fin t n) aCD ((aR.unpack (.prepare t n x) 0 1 (rB t n x) [1] rfl (congrArg (Prod.mk 1) rfl) (by kernel_rfl) rfl).trans (aR.unpack (.store t n st) 1 0 (dN t n st) [] rfl rfl rfl rfl)) (P3 t n x st s _ h)
noncomputable def prSA:aI Ob:=fun args h=>match args,h with
 | [.ptr 0 0,.ptr 2 0],[some (.abs (.prepare t n x) [1]),some (.abs (.store t2 n2 st) []),e3,e4]=>(match cH 3 [e3,e4]with
   | some (l,s)=>some (.pre ((l=s.xs.length∧t2=t∧n2=n)∧P2 t n x st s) (PrO.fin t n (prF t n x st s)))
   | none=>none)
 | _,_=>none
theorem aCE:sT' 216 prSA:=by
 intro args h o ho K hK;unfold prSA at ho;split at ho
 case h_2=>cases ho
 split at ho<;>cases ho
 rename_i hm;obtain⟨⟨⟨hl,rfl,rfl⟩,ok⟩,hK⟩:=hK;cases aY hm hl;exact H7 _ _ _ _ _ K (aHe ok hK)
def PrO.finB(t n:Int)(y:PrO):Out Ob:=.ite y.d (.ret (.bool true) ([cE' [.ptr 1 0,.I y.x.key,.I y.x.nxt,.int .u64 y.x.found,.bool y.x.loaded],iP 5 t n y.st,none,aZ 4 y.s,a8 y.s,iQ y.st])) (.ret (.bool false) [some (.abs (.prepare t n y.x) [1]),iP 5 t n y.st,none,aZ 4 y.s,a8 y.s,iQ y.st])
noncomputable def prSB:aI Ob:=fun args h=>match args,h with
 | [.ptr 0 0,.ptr 3 0],[some (.abs (.prepare t n x) [1]),e1,e2,e3,e4]=>(match k9 2 [e1,e2],cH 4 [e3,e4]with
   | some (l2,t2,n2,st),some (l,s)=>some (.pre ((l=s.xs.length∧l2=st.R.length∧t2=t∧n2=n)∧P2 t n x st s) (PrO.finB t n (prF t n x st s)))
   | _,_=>none)
 | _,_=>none
theorem aCF:sT' 216 prSB:=by
 intro args h o ho K hK;unfold prSB at ho;split at ho
 case h_2=>cases ho
 split at ho<;>cases ho
 rename_i hs hm;obtain⟨⟨⟨hl,hl2,rfl,rfl⟩,ok⟩,hK⟩:=hK;cases aY hm hl;cases b8 hs hl2;exact jG (fun ι hι=>by simp [aH.ren,aHo,AVal.ren,hι]) (fun ι hι=>by simp [aH.ren,hι]) (fun K hK=>H7 _ _ _ _ _ K (aHe ok hK)) K hK
noncomputable def prS:aI Ob:=aI.or prSA prSB
theorem aE6:sT' 216 prS:=aHA aCE aCF
def aCz(t n:Int)(v:AVal)(g:aC Ob):Option (Prop×(PRS×STS)):=match v,g with
 | .ptr 2 0,[e1,e2,some (.cells [.ptr 0 0,.int .i64 key,.int .i64 nxt,.int .u64 found,.bool loaded])]=>(match k9 1 [e1,e2]with
   | some (l2,t2,n2,st)=>some ((t2=t∧n2=n∧l2=st.R.length),⟨(⟨key,nxt,found,loaded⟩:PRS),st⟩)
   | none=>none)
 | _,_=>none
abbrev WW(t n:Int)(y:(PRS×STS)):aC Ob:=[iP 1 t n y.2,iQ y.2,some (.abs (.prepare t n y.1) [0])]
theorem WX{t n:Int} :bM (obI tbl) 2 (aCz t n) (fun y=>.ret (.ptr 2 0) (WW t n y)):=by
 intro v g p x hp hq K hK;unfold aCz at hp;split at hp
 case h_2=>cases hp
 rename_i e1 e2 key nxt found loaded;split at hp
 case h_2=>cases hp
 rename_i l2 t2 n2 st hs;cases hp;obtain⟨rfl,rfl,hl2⟩:=hq;cases b8 hs hl2;exact⟨⟨_,_,aF.pack (WW t2 n2 ((⟨key,nxt,found,loaded⟩:PRS),st)) (.prepare t2 n2 (⟨key,nxt,found,loaded⟩:PRS)) 2 1 (rB t2 n2 (⟨key,nxt,found,loaded⟩:PRS)) [0] (by kernel_rfl) rfl (congrArg (Prod.mk 1) rfl) (by kernel_rfl),hK⟩⟩
def K3(t n:Int)(key nx:Int)(st:STS):Tr (PRS×STS):=.pre (t=t∧n=n∧lE' st.3) (.ret ({key:=key,nxt:=nx,found:=0,loaded:=false},st))
def o9(t n:Int)(key nx:Int)(st:STS):(PRS×STS):=(K3 t n key nx st).val
def CI(t n:Int)(key nx:Int)(st:STS):Prop:=(K3 t n key nx st).ok
def prNS:aI Ob:=fun args h=>match args,h with
 | [.ptr 0 0,.int .i64 key,.int .i64 nx],[e1,e2]=>(match k9 1 [e1,e2]with
   | some (l2,t,n,st)=>some (.pre (l2=st.R.length∧CI t n key nx st) (.ret (.ptr 2 0) (WW t n (o9 t n key nx st))))
   | none=>none)
 | _,_=>none
theorem aCA:sT' 259 prNS:=by
 intro args h o ho K hK;unfold prNS at ho;split at ho
 case h_2=>cases ho
 rename_i key nx e1 e2;split at ho<;>cases ho
 rename_i l2 t n st hs;obtain⟨⟨hl2,ok⟩,hK⟩:=hK;cases b8 hs hl2;refine aHm (root:=2) (pos:=[]) (cs:=[]) (parse:=aCz t n) WX ?_;exact cM' (E:=EC6) (q:=(K3 t n key nx st).run (fun y=>(Out.ret (.ptr 2 0) (WW t n y)).run K)) (by kernel_rfl) (aHe ok hK)
noncomputable def EC7:=((EC6.addS 216 prS aE6).addS 259 prNS aCA)
structure FnO where
 d:Bool
 x:FNS
 s:MS
instance:Inhabited FnO:=⟨⟨false,bQ,⟨0,0,[],0,0,0,0,0,false⟩⟩⟩
instance:Inhabited FNS:=⟨bQ⟩
abbrev fnH(t n:Int)(x:FNS)(s:MS):aC Ob:=[some (.abs (.find t n x) []),aZ 2 s,a8 s]
abbrev fnD(t n:Int)(x:FNS)(s:MS):aC Ob:=[cE' [.I t,.I n,.I x.pred,.int .u64 x.pw,.I x.curr,.int .u64 x.cw,.I x.tries,.slice 3 0 x.ul.length 1,.bool x.ab,.I x.me,.I x.frm,.I x.key,.I x.limit,.I x.at',.I x.moved,.O],aZ 2 s,a8 s,iI' x.ul]
def FnO.fin(t n:Int)(y:FnO):Out Ob:=.ite y.d (.ret (.bool true) (fnD t n y.x y.s)) (.ret (.bool false) (fnH t n y.x y.s))
def aBo(t n:Int)(v:AVal)(g:aC Ob):Option (Prop×FnO):=match v,g with
 | .bool d,[some (.cells [.int .i64 t1,.int .i64 n1,.int .i64 pred,.int .u64 pw,.int .i64 curr,.int .u64 cw,.int .i64 tries,.slice 3 0 ul_l 1,.bool ab,.int .i64 me,.int .i64 frm,.int .i64 key,.int .i64 limit,.int .i64 at',.int .i64 moved,.O]),e1,e2,some (.ints (some .i64) ul)]=>(match cH 2 [e1,e2]with
   | some (l,s)=>some ((t1=t∧n1=n)∧ul_l=ul.length∧(d=false→at'≠4)∧l=s.xs.length,⟨d,⟨pred,pw,curr,cw,tries,ul,ab,me,frm,key,limit,at',moved,⟨0,0,0,0⟩⟩,s⟩)
   | none=>none)
 | _,_=>none
def aBp(t n:Int)(v:AVal)(g:aC Ob):Option (Prop×FnO):=match v,g with
 | .bool d,[some (.cells [.int .i64 t1,.int .i64 n1,.int .i64 pred,.int .u64 pw,.int .i64 curr,.int .u64 cw,.int .i64 tries,.slice 3 0 ul_l 1,.bool ab,.int .i64 me,.int .i64 frm,.int .i64 key,.int .i64 limit,.int .i64 at',.int .i64 moved,.ptr 4 0]),e1,e2,some (.ints (some .i64) ul),some (.abs (.clear t' n' sub) [])]=>(match cH 2 [e1,e2]with
   | some (l,s)=>some ((t1=t∧n1=n)∧ul_l=ul.length∧t'=t∧n'=n∧(d=false→at'=4)∧l=s.xs.length,⟨d,⟨pred,pw,curr,cw,tries,ul,ab,me,frm,key,limit,at',moved,sub⟩,s⟩)
   | none=>none)
 | _,_=>none
def C3(t n:Int)(v:AVal)(g:aC Ob):Option (Prop×FnO):=(match aBo t n v g with
 | some r=>some r
 | none=>aBp t n v g)
theorem UH{t n:Int} :bM (obI tbl) 3 (aBo t n) (FnO.fin t n):=by
 intro v g p x hp hq K hK;unfold aBo at hp;split at hp
 case h_2=>cases hp
 rename_i d t1 n1 pred pw curr cw tries ul_l ab me frm key limit at' moved e1 e2 ul;split at hp
 case h_2=>cases hp
 rename_i l s hm;cases hp;obtain⟨⟨rfl,rfl⟩,rfl,hat,hl⟩:=hq;cases aY hm hl;refine eU hK (fun h=>?_) (fun hd h=>?_)
 ·exact⟨⟨_,_,aHr _ _ _,h⟩⟩
 ·exact⟨⟨_,_,(aF.pack (fnH t1 n1 (⟨pred,pw,curr,cw,tries,ul,ab,me,frm,key,limit,at',moved,⟨0,0,0,0⟩⟩:FNS) s) (.find t1 n1 (⟨pred,pw,curr,cw,tries,ul,ab,me,frm,key,limit,at',moved,⟨0,0,0,0⟩⟩:FNS)) 0 0 (kV t1 n1 (⟨pred,pw,curr,cw,tries,ul,ab,me,frm,key,limit,at',moved,⟨0,0,0,0⟩⟩:FNS)) [] (by kernel_rfl) rfl (congrArg (Prod.mk 0) (hZ (hat hd))) (by kernel_rfl)),h⟩⟩
theorem UI{t n:Int} :bM (obI tbl) 3 (aBp t n) (FnO.fin t n):=by
 intro v g p x hp hq K hK;unfold aBp at hp;split at hp
 case h_2=>cases hp
 rename_i d t1 n1 pred pw curr cw tries ul_l ab me frm key limit at' moved e1 e2 ul t' n' sub;split at hp
 case h_2=>cases hp
 rename_i l s hm;cases hp;obtain⟨⟨rfl,rfl⟩,rfl,rfl,rfl,hat,hl⟩:=hq;cases aY hm hl;refine eU hK (fun h=>?_) (fun hd h=>?_)
 ·exact⟨⟨_,_,(aF.weak (dT _ 0 [15])).trans ((aF.pick (upto 0 4) rfl).trans (aHl (by kernel_rfl) (by kernel_rfl))),h⟩⟩
 ·exact⟨⟨_,_,(aF.pack (fnH t' n' (⟨pred,pw,curr,cw,tries,ul,ab,me,frm,key,limit,at',moved,sub⟩:FNS) s) (.find t' n' (⟨pred,pw,curr,cw,tries,ul,ab,me,frm,key,limit,at',moved,sub⟩:FNS)) 0 0 (pQ t' n' (⟨pred,pw,curr,cw,tries,ul,ab,me,frm,key,limit,at',moved,sub⟩:FNS)) [] (by kernel_rfl) rfl (congrArg (Prod.mk 0) (G2 (hat hd))) (by kernel_rfl)),h⟩⟩
theorem oU{t n:Int} :bM (obI tbl) 3 (C3 t n) (FnO.fin t n):=by
 intro v g p x hp hq K hK;unfold C3 at hp;split at hp
 ·rename_i r hr;cases hp;exact UH v g p x hr hq K hK
 exact UI v g p x hp hq K hK
abbrev w0y:=false=false→(0:Int)≠(4:Int)
abbrev w0z(s:MS)(x:FNS):Tr FnO:=.ret {d:=ieq (aA (aD s.3 x.1) 10 9) 0,x:= {x with pred:=0,pw:=aD s.3 x.1,curr:=aA (aD s.3 x.1) 10 9,cw:=0,tries:=W (x.5+1),ab:=ilt x.11 (W (x.5+1)),at':=1,cl:=bY},s:= {s with c:=s.4+1,k:=1,a:=x.1,o:=aD s.3 x.1,w:=aD s.3 x.1,ok:=bL s.3 x.1} }
abbrev w11(s:MS)(x:FNS):Tr FnO:=.ret {d:=ieq (aA (aD s.3 x.1) 10 9) 0,x:= {x with pw:=aD s.3 x.1,curr:=aA (aD s.3 x.1) 10 9,cw:=0,tries:=W (x.5+1),ab:=ilt x.11 (W (x.5+1)),at':=1,cl:=bY},s:= {s with c:=s.4+1,k:=1,a:=x.1,o:=aD s.3 x.1,w:=aD s.3 x.1,ok:=bL s.3 x.1} }
abbrev w13(s:MS)(x:FNS):=ieq (aA (aD s.3 x.1) 10 9) (0:Int)=false→(1:Int)≠(4:Int)
abbrev w14(x:FNS):=ilt x.11 (W (x.5+1))
abbrev w15(s:MS)(x:FNS):Tr FnO:=.ret {d:=false,x:= {x with pred:=x.9,pw:=0,curr:=0,cw:=0,tries:=W (x.5+1),ab:=ilt x.11 (W (x.5+1)),at':=0,moved:=0,cl:=bY},s:= {s with c:=s.4+1,k:=1,a:=x.1,o:=aD s.3 x.1,w:=aD s.3 x.1,ok:=bL s.3 x.1} }
abbrev w16(s:MS)(x:FNS):Tr FnO:=.ret {d:=false,x:= {x with pred:=x.9,tries:=W (x.5+1),ab:=ilt x.11 (W (x.5+1)),at':=0,moved:=0,cl:=bY},s:= {s with c:=s.4+1,k:=1,a:=x.1,o:=aD s.3 x.1,w:=aD s.3 x.1,ok:=bL s.3 x.1} }
abbrev w1e:=true=false→(0:Int)≠(4:Int)
abbrev w1f(s:MS)(x:FNS):=ieq (aA (aD s.3 x.1) 19 1) 1
def A7(t n:Int)(x:FNS)(s:MS):Tr FnO:=.pre (lE' s.3∧(0:Int)≤s.4∧s.4≤(4611686018427387904:Int)) (.pre True (.ite (w1f s x) (.ite (w14 x) (.ite (w14 x) (.pre ((t=t∧n=n)∧lE' x.6∧w1e∧lE' s.3) (.ret {d:=true,x:= {x with pred:=0,pw:=0,curr:=0,cw:=0,tries:=W (x.5+1),ab:=ilt x.11 (W (x.5+1)),at':=0,cl:=bY},s:= {s with c:=s.4+1,k:=1,a:=x.1,o:=aD s.3 x.1,w:=aD s.3 x.1,ok:=bL s.3 x.1} })) (.pre True (.ite (w1f s x) (.pre ((t=t∧n=n)∧lE' x.6∧w0y∧lE' s.3) (w15 s x)) (.pre ((t=t∧n=n)∧lE' x.6∧(w13 s x)∧lE' s.3) (w0z s x))))) (.ite (w14 x) (.pre ((t=t∧n=n)∧lE' x.6∧w1e∧lE' s.3) (.ret {d:=true,x:= {x with tries:=W (x.5+1),ab:=ilt x.11 (W (x.5+1)),at':=0,cl:=bY},s:= {s with c:=s.4+1,k:=1,a:=x.1,o:=aD s.3 x.1,w:=aD s.3 x.1,ok:=bL s.3 x.1} })) (.pre True (.ite (w1f s x) (.pre ((t=t∧n=n)∧lE' x.6∧w0y∧lE' s.3) (w16 s x)) (.pre ((t=t∧n=n)∧lE' x.6∧(w13 s x)∧lE' s.3) (w11 s x)))))) (.pre True (.ite (w1f s x) (.pre ((t=t∧n=n)∧lE' x.6∧w0y∧lE' s.3) (.ret {d:=false,x:= {x with pred:=x.9,at':=0,moved:=0,cl:=bY},s:= {s with c:=s.4+1,k:=1,a:=x.1,o:=aD s.3 x.1,w:=aD s.3 x.1,ok:=bL s.3 x.1} })) (.pre ((t=t∧n=n)∧lE' x.6∧(w13 s x)∧lE' s.3) (.ret {d:=ieq (aA (aD s.3 x.1) 10 9) 0,x:= {x with pw:=aD s.3 x.1,curr:=aA (aD s.3 x.1) 10 9,cw:=0,at':=1,cl:=bY},s:= {s with c:=s.4+1,k:=1,a:=x.1,o:=aD s.3 x.1,w:=aD s.3 x.1,ok:=bL s.3 x.1} }))))))
theorem JT(t n:Int)(x:FNS)(s:MS)(K:FnO→Prop)(h:(A7 t n x s).run K):cT' 163 [.ptr 0 0,.ptr 1 0] [cE' [.I t,.I n,.I x.pred,.int .u64 x.pw,.I x.curr,.int .u64 x.cw,.I x.tries,.slice 3 0 x.ul.length 1,.bool x.ab,.I x.me,.I x.frm,.I x.key,.I x.limit,.I 0,.I x.moved,.O],aZ 2 s,a8 s,iI' x.ul] (bU 3 0 [15] [(.cell 0 7,.ints (some .i64))] (C3 t n) K):=by
 exact cM' (E:=EC7) (by kernel_rfl) h
def A8(t n:Int)(x:FNS)(s:MS):Tr FnO:=.pre ((((0:Int)≤t∧t≤(100000:Int))∧((0:Int)≤n∧n≤(100000:Int))∧((-1099511627776:Int)≤x.8∧x.8≤(1099511627776:Int))∧(-1099511627776:Int)≤(1:Int)∧(1:Int)≤(1099511627776:Int))∧True) (.pre ((lE' s.3∧(0:Int)≤s.4∧s.4≤(4611686018427387904:Int))∧True) (.pre ((t=t∧n=n)∧lE' x.6∧(false=false→(2:Int)≠(4:Int))∧lE' (aS s.3 (2*n+5+2*x.8+1) (WU x.3))) (.ret {d:=false,x:= {x with at':=2,cl:=bY},s:= {t:=s.1,n:=s.2,xs:=aS s.3 (2*n+5+2*x.8+1) (WU x.3),c:=s.4+1,k:=2,a:=2*n+5+2*x.8+1,o:=aD s.3 (2*n+5+2*x.8+1),w:=bif bL s.3 (2*n+5+2*x.8+1)then WU x.3 else 0,ok:=bL s.3 (2*n+5+2*x.8+1) } })))
theorem JU(t n:Int)(x:FNS)(s:MS)(K:FnO→Prop)(h:(A8 t n x s).run K):cT' 163 [.ptr 0 0,.ptr 1 0] [cE' [.I t,.I n,.I x.pred,.int .u64 x.pw,.I x.curr,.int .u64 x.cw,.I x.tries,.slice 3 0 x.ul.length 1,.bool x.ab,.I x.me,.I x.frm,.I x.key,.I x.limit,.I 1,.I x.moved,.O],aZ 2 s,a8 s,iI' x.ul] (bU 3 0 [15] [(.cell 0 7,.ints (some .i64))] (C3 t n) K):=by
 exact cM' (E:=EC7) (by kernel_rfl) h
def A9(t n:Int)(x:FNS)(s:MS):Tr FnO:=.pre (lE' s.3∧(0:Int)≤s.4∧s.4≤(4611686018427387904:Int)) (.ite (!ieq (aD s.3 x.1) x.2) (.ite (w14 x) (.ite (w14 x) (.pre ((t=t∧n=n)∧lE' x.6∧(true=false→(2:Int)≠(4:Int))∧lE' s.3) (.ret {d:=true,x:= {x with pred:=0,pw:=0,curr:=0,cw:=0,tries:=W (x.5+1),ab:=ilt x.11 (W (x.5+1)),at':=2,cl:=bY},s:= {s with c:=s.4+1,k:=1,a:=x.1,o:=aD s.3 x.1,w:=aD s.3 x.1,ok:=bL s.3 x.1} })) (.pre True (.ite (w1f s x) (.pre ((t=t∧n=n)∧lE' x.6∧w0y∧lE' s.3) (w15 s x)) (.pre ((t=t∧n=n)∧lE' x.6∧(w13 s x)∧lE' s.3) (w0z s x))))) (.ite (w14 x) (.pre ((t=t∧n=n)∧lE' x.6∧(true=false→(2:Int)≠(4:Int))∧lE' s.3) (.ret {d:=true,x:= {x with tries:=W (x.5+1),ab:=ilt x.11 (W (x.5+1)),at':=2,cl:=bY},s:= {s with c:=s.4+1,k:=1,a:=x.1,o:=aD s.3 x.1,w:=aD s.3 x.1,ok:=bL s.3 x.1} })) (.pre True (.ite (w1f s x) (.pre ((t=t∧n=n)∧lE' x.6∧w0y∧lE' s.3) (w16 s x)) (.pre ((t=t∧n=n)∧lE' x.6∧(w13 s x)∧lE' s.3) (w11 s x)))))) (.pre ((t=t∧n=n)∧lE' x.6∧(false=false→(3:Int)≠(4:Int))∧lE' s.3) (.ret {d:=false,x:= {x with at':=3,cl:=bY},s:= {s with c:=s.4+1,k:=1,a:=x.1,o:=aD s.3 x.1,w:=aD s.3 x.1,ok:=bL s.3 x.1} })))
theorem JV(t n:Int)(x:FNS)(s:MS)(K:FnO→Prop)(h:(A9 t n x s).run K):cT' 163 [.ptr 0 0,.ptr 1 0] [cE' [.I t,.I n,.I x.pred,.int .u64 x.pw,.I x.curr,.int .u64 x.cw,.I x.tries,.slice 3 0 x.ul.length 1,.bool x.ab,.I x.me,.I x.frm,.I x.key,.I x.limit,.I 2,.I x.moved,.O],aZ 2 s,a8 s,iI' x.ul] (bU 3 0 [15] [(.cell 0 7,.ints (some .i64))] (C3 t n) K):=by
 exact cM' (E:=EC7) (by kernel_rfl) h
abbrev w17:=false=false→(4:Int)=(4:Int)
abbrev w1a(s:MS)(x:FNS):Tr FnO:=.ret {d:=false,x:= {x with cw:=aD s.3 x.3,at':=6,cl:=bY},s:= {s with c:=s.4+1,k:=1,a:=x.3,o:=aD s.3 x.3,w:=aD s.3 x.3,ok:=bL s.3 x.3} }
abbrev w1b(s:MS)(x:FNS):Tr FnO:=.ret {d:=false,x:= {x with cw:=aD s.3 x.3,at':=5,cl:=bY},s:= {s with c:=s.4+1,k:=1,a:=x.3,o:=aD s.3 x.3,w:=aD s.3 x.3,ok:=bL s.3 x.3} }
abbrev w1c(n:Int)(s:MS)(t:Int)(x:FNS):Tr FnO:=.ret {d:=false,x:= {x with cw:=aD s.3 x.3,at':=4,cl:=xO t n x.3},s:= {s with c:=s.4+1,k:=1,a:=x.3,o:=aD s.3 x.3,w:=aD s.3 x.3,ok:=bL s.3 x.3} }
abbrev w1d(n:Int)(s:MS)(t:Int)(x:FNS):Tr FnO:=.ret {d:=false,x:= {x with cw:=aD s.3 x.3,at':=4,cl:=xO t n x.1},s:= {s with c:=s.4+1,k:=1,a:=x.3,o:=aD s.3 x.3,w:=aD s.3 x.3,ok:=bL s.3 x.3} }
def BA(t n:Int)(x:FNS)(s:MS):Tr FnO:=.pre (lE' s.3∧(0:Int)≤s.4∧s.4≤(4611686018427387904:Int)) (.pre True (.ite (!ieq (aA (aD s.3 x.3) 19 1) 1) (.ite (ile x.10 (aA (aD s.3 x.3) 0 10)) (.pre ((t=t∧n=n)∧lE' x.6∧(true=false→(3:Int)≠(4:Int))∧lE' s.3) (.ret {d:=true,x:= {x with cw:=aD s.3 x.3,at':=3,cl:=bY},s:= {s with c:=s.4+1,k:=1,a:=x.3,o:=aD s.3 x.3,w:=aD s.3 x.3,ok:=bL s.3 x.3} })) (.ite (!ieq (aA (aD s.3 x.3) 19 1) 1) (.pre ((t=t∧n=n)∧lE' x.6∧(false=false→(6:Int)≠(4:Int))∧lE' s.3) (w1a s x)) (.ite (!ieq (aA (aD s.3 x.3) 20 5) 0) (.pre (pH t n x.3∧True) (.pre ((t=t∧n=n)∧lE' x.6∧t=t∧n=n∧w17∧lE' s.3) (w1c n s t x))) (.pre True (.ite (!ieq (aA x.2 20 5) 0) (.pre (pH t n x.1∧True) (.pre ((t=t∧n=n)∧lE' x.6∧t=t∧n=n∧w17∧lE' s.3) (w1d n s t x))) (.pre ((t=t∧n=n)∧lE' x.6∧(false=false→(5:Int)≠(4:Int))∧lE' s.3) (w1b s x))))))) (.ite (!ieq (aA (aD s.3 x.3) 19 1) 1) (.pre ((t=t∧n=n)∧lE' x.6∧(false=false→(6:Int)≠(4:Int))∧lE' s.3) (w1a s x)) (.ite (!ieq (aA (aD s.3 x.3) 20 5) 0) (.pre (pH t n x.3∧True) (.pre ((t=t∧n=n)∧lE' x.6∧t=t∧n=n∧w17∧lE' s.3) (w1c n s t x))) (.pre True (.ite (!ieq (aA x.2 20 5) 0) (.pre (pH t n x.1∧True) (.pre ((t=t∧n=n)∧lE' x.6∧t=t∧n=n∧w17∧lE' s.3) (w1d n s t x))) (.pre ((t=t∧n=n)∧lE' x.6∧(false=false→(5:Int)≠(4:Int))∧lE' s.3) (w1b s x))))))))
theorem JW(t n:Int)(x:FNS)(s:MS)(K:FnO→Prop)(h:(BA t n x s).run K):cT' 163 [.ptr 0 0,.ptr 1 0] [cE' [.I t,.I n,.I x.pred,.int .u64 x.pw,.I x.curr,.int .u64 x.cw,.I x.tries,.slice 3 0 x.ul.length 1,.bool x.ab,.I x.me,.I x.frm,.I x.key,.I x.limit,.I 3,.I x.moved,.O],aZ 2 s,a8 s,iI' x.ul] (bU 3 0 [15] [(.cell 0 7,.ints (some .i64))] (C3 t n) K):=by
 exact cM' (E:=EC7) (by kernel_rfl) h
abbrev w19(x:FNS):=ilt x.11 (W (x.5+1))=false→(0:Int)≠(4:Int)
def BB(t n:Int)(x:FNS)(s:MS):Tr FnO:=.pre (lE' s.3∧MN t n x.14 s) (.ite (oC t n x.14 s).1 (.ite (w14 x) (.pre ((t=t∧n=n)∧lE' x.6∧(w19 x)∧lE' (ClO.s (oC t n x.14 s)).3) (.ret {d:=ilt x.11 (W (x.5+1)),x:= {x with pred:=0,pw:=0,curr:=0,cw:=0,tries:=W (x.5+1),ab:=ilt x.11 (W (x.5+1)),at':=0,cl:=bY},s:=(oC t n x.14 s).3})) (.pre ((t=t∧n=n)∧lE' x.6∧(w19 x)∧lE' (ClO.s (oC t n x.14 s)).3) (.ret {d:=ilt x.11 (W (x.5+1)),x:= {x with tries:=W (x.5+1),ab:=ilt x.11 (W (x.5+1)),at':=0,cl:=bY},s:=(oC t n x.14 s).3}))) (.pre ((t=t∧n=n)∧lE' x.6∧t=t∧n=n∧w17∧lE' (ClO.s (oC t n x.14 s)).3) (.ret {d:=false,x:= {x with at':=4,cl:=(oC t n x.14 s).2},s:=(oC t n x.14 s).3})))
theorem JX(t n:Int)(x:FNS)(s:MS)(K:FnO→Prop)(h:(BB t n x s).run K):cT' 163 [.ptr 0 0,.ptr 1 0] [cE' [.I t,.I n,.I x.pred,.int .u64 x.pw,.I x.curr,.int .u64 x.cw,.I x.tries,.slice 3 0 x.ul.length 1,.bool x.ab,.I x.me,.I x.frm,.I x.key,.I x.limit,.I 4,.I x.moved,.ptr 4 0],aZ 2 s,a8 s,iI' x.ul,some (.abs (.clear t n x.cl) [])] (bU 3 0 [15] [(.cell 0 7,.ints (some .i64))] (C3 t n) K):=by
 exact cM' (E:=EC7) (by kernel_rfl) h
abbrev w0w(x:FNS):=aQ (aA x.2 25 18)
abbrev w0x(x:FNS):=ieq (aA x.2 19 1) 1
def BC(t n:Int)(x:FNS)(s:MS):Tr FnO:=.pre True (.pre True (.pre ((0:Int)≤aA x.2 25 18∧aA x.2 25 (18:Int)≤(1000000:Int)) (.pre True (.pre ((lE' s.3∧(0:Int)≤s.4∧s.4≤(4611686018427387904:Int))∧True) (.ite (!aT s.3 x.1 x.2) (.ite (w14 x) (.pre ((t=t∧n=n)∧lE' x.6∧(w19 x)∧lE' (bif aT s.3 x.1 x.2 then aS s.3 x.1 (bif bif aK (aA x.2 0 10) 10 then bif aK (aA x.4 10 9) 9 then bif aK (aA x.2 20 5) 5 then aK (w0w x) 18 else false else false else false then cF (aA x.2 0 10) (aA x.4 10 9) (w0x x) (aA x.2 20 5) (w0w x)else 0)else s.3)) (.ret {d:=ilt x.11 (W (x.5+1)),x:= {x with pred:=0,pw:=0,curr:=0,cw:=0,tries:=W (x.5+1),ab:=ilt x.11 (W (x.5+1)),at':=0,cl:=bY},s:= {t:=s.1,n:=s.2,xs:=bif aT s.3 x.1 x.2 then aS s.3 x.1 (bif bif aK (aA x.2 0 10) 10 then bif aK (aA x.4 10 9) 9 then bif aK (aA x.2 20 5) 5 then aK (w0w x) 18 else false else false else false then cF (aA x.2 0 10) (aA x.4 10 9) (w0x x) (aA x.2 20 5) (w0w x)else 0)else s.3,c:=s.4+1,k:=3,a:=x.1,o:=aD s.3 x.1,w:=bif bL s.3 x.1 then bif bif aK (aA x.2 0 10) 10 then bif aK (aA x.4 10 9) 9 then bif aK (aA x.2 20 5) 5 then aK (w0w x) 18 else false else false else false then cF (aA x.2 0 10) (aA x.4 10 9) (w0x x) (aA x.2 20 5) (w0w x)else 0 else 0,ok:=aT s.3 x.1 x.2} })) (.pre ((t=t∧n=n)∧lE' x.6∧(w19 x)∧lE' (bif aT s.3 x.1 x.2 then aS s.3 x.1 (bif bif aK (aA x.2 0 10) 10 then bif aK (aA x.4 10 9) 9 then bif aK (aA x.2 20 5) 5 then aK (w0w x) 18 else false else false else false then cF (aA x.2 0 10) (aA x.4 10 9) (w0x x) (aA x.2 20 5) (w0w x)else 0)else s.3)) (.ret {d:=ilt x.11 (W (x.5+1)),x:= {x with tries:=W (x.5+1),ab:=ilt x.11 (W (x.5+1)),at':=0,cl:=bY},s:= {t:=s.1,n:=s.2,xs:=bif aT s.3 x.1 x.2 then aS s.3 x.1 (bif bif aK (aA x.2 0 10) 10 then bif aK (aA x.4 10 9) 9 then bif aK (aA x.2 20 5) 5 then aK (w0w x) 18 else false else false else false then cF (aA x.2 0 10) (aA x.4 10 9) (w0x x) (aA x.2 20 5) (w0w x)else 0)else s.3,c:=s.4+1,k:=3,a:=x.1,o:=aD s.3 x.1,w:=bif bL s.3 x.1 then bif bif aK (aA x.2 0 10) 10 then bif aK (aA x.4 10 9) 9 then bif aK (aA x.2 20 5) 5 then aK (w0w x) 18 else false else false else false then cF (aA x.2 0 10) (aA x.4 10 9) (w0x x) (aA x.2 20 5) (w0w x)else 0 else 0,ok:=aT s.3 x.1 x.2} }))) (.pre (0=0∧lE' x.6∧1=1∧x.6.length+(1:Nat)≤(4294967296:Nat)) (.ite (ile (W (x.13+1)) n) (.pre True (.ite (ieq (aA (bif bif aK (aA x.2 0 10) 10 then bif aK (aA x.4 10 9) 9 then bif aK (aA x.2 20 5) 5 then aK (w0w x) 18 else false else false else false then cF (aA x.2 0 10) (aA x.4 10 9) (w0x x) (aA x.2 20 5) (w0w x)else 0) 19 1) 1) (.pre ((t=t∧n=n)∧x.6.length+(1:Nat)=List.length (x.6++ [x.3])∧w0y∧lE' (bif aT s.3 x.1 x.2 then aS s.3 x.1 (bif bif aK (aA x.2 0 10) 10 then bif aK (aA x.4 10 9) 9 then bif aK (aA x.2 20 5) 5 then aK (w0w x) 18 else false else false else false then cF (aA x.2 0 10) (aA x.4 10 9) (w0x x) (aA x.2 20 5) (w0w x)else 0)else s.3)) (.ret {d:=false,x:= {x with pred:=x.9,ul:=x.6++ [x.3],at':=0,moved:=0,cl:=bY},s:= {t:=s.1,n:=s.2,xs:=bif aT s.3 x.1 x.2 then aS s.3 x.1 (bif bif aK (aA x.2 0 10) 10 then bif aK (aA x.4 10 9) 9 then bif aK (aA x.2 20 5) 5 then aK (w0w x) 18 else false else false else false then cF (aA x.2 0 10) (aA x.4 10 9) (w0x x) (aA x.2 20 5) (w0w x)else 0)else s.3,c:=s.4+1,k:=3,a:=x.1,o:=aD s.3 x.1,w:=bif bL s.3 x.1 then bif bif aK (aA x.2 0 10) 10 then bif aK (aA x.4 10 9) 9 then bif aK (aA x.2 20 5) 5 then aK (w0w x) 18 else false else false else false then cF (aA x.2 0 10) (aA x.4 10 9) (w0x x) (aA x.2 20 5) (w0w x)else 0 else 0,ok:=aT s.3 x.1 x.2} })) (.pre ((t=t∧n=n)∧x.6.length+(1:Nat)=List.length (x.6++ [x.3])∧(ieq (aA (bif bif aK (aA x.2 0 10) 10 then bif aK (aA x.4 10 9) 9 then bif aK (aA x.2 20 5) 5 then aK (w0w x) 18 else false else false else false then cF (aA x.2 0 10) (aA x.4 10 9) (w0x x) (aA x.2 20 5) (w0w x)else 0) 10 9) (0:Int)=false→(1:Int)≠(4:Int))∧lE' (bif aT s.3 x.1 x.2 then aS s.3 x.1 (bif bif aK (aA x.2 0 10) 10 then bif aK (aA x.4 10 9) 9 then bif aK (aA x.2 20 5) 5 then aK (w0w x) 18 else false else false else false then cF (aA x.2 0 10) (aA x.4 10 9) (w0x x) (aA x.2 20 5) (w0w x)else 0)else s.3)) (.ret {d:=ieq (aA (bif bif aK (aA x.2 0 10) 10 then bif aK (aA x.4 10 9) 9 then bif aK (aA x.2 20 5) 5 then aK (w0w x) 18 else false else false else false then cF (aA x.2 0 10) (aA x.4 10 9) (w0x x) (aA x.2 20 5) (w0w x)else 0) 10 9) 0,x:= {x with pw:=bif bif aK (aA x.2 0 10) 10 then bif aK (aA x.4 10 9) 9 then bif aK (aA x.2 20 5) 5 then aK (w0w x) 18 else false else false else false then cF (aA x.2 0 10) (aA x.4 10 9) (w0x x) (aA x.2 20 5) (w0w x)else 0,curr:=aA (bif bif aK (aA x.2 0 10) 10 then bif aK (aA x.4 10 9) 9 then bif aK (aA x.2 20 5) 5 then aK (w0w x) 18 else false else false else false then cF (aA x.2 0 10) (aA x.4 10 9) (w0x x) (aA x.2 20 5) (w0w x)else 0) 10 9,cw:=0,ul:=x.6++ [x.3],at':=1,moved:=W (x.13+1),cl:=bY},s:= {t:=s.1,n:=s.2,xs:=bif aT s.3 x.1 x.2 then aS s.3 x.1 (bif bif aK (aA x.2 0 10) 10 then bif aK (aA x.4 10 9) 9 then bif aK (aA x.2 20 5) 5 then aK (w0w x) 18 else false else false else false then cF (aA x.2 0 10) (aA x.4 10 9) (w0x x) (aA x.2 20 5) (w0w x)else 0)else s.3,c:=s.4+1,k:=3,a:=x.1,o:=aD s.3 x.1,w:=bif bL s.3 x.1 then bif bif aK (aA x.2 0 10) 10 then bif aK (aA x.4 10 9) 9 then bif aK (aA x.2 20 5) 5 then aK (w0w x) 18 else false else false else false then cF (aA x.2 0 10) (aA x.4 10 9) (w0x x) (aA x.2 20 5) (w0w x)else 0 else 0,ok:=aT s.3 x.1 x.2} })))) (.ite (w14 x) (.ite (w14 x) (.pre ((t=t∧n=n)∧x.6.length+(1:Nat)=List.length (x.6++ [x.3])∧(true=false→(5:Int)≠(4:Int))∧lE' (bif aT s.3 x.1 x.2 then aS s.3 x.1 (bif bif aK (aA x.2 0 10) 10 then bif aK (aA x.4 10 9) 9 then bif aK (aA x.2 20 5) 5 then aK (w0w x) 18 else false else false else false then cF (aA x.2 0 10) (aA x.4 10 9) (w0x x) (aA x.2 20 5) (w0w x)else 0)else s.3)) (.ret {d:=true,x:= {x with pred:=0,pw:=0,curr:=0,cw:=0,tries:=W (x.5+1),ul:=x.6++ [x.3],ab:=ilt x.11 (W (x.5+1)),at':=5,moved:=W (x.13+1),cl:=bY},s:= {t:=s.1,n:=s.2,xs:=bif aT s.3 x.1 x.2 then aS s.3 x.1 (bif bif aK (aA x.2 0 10) 10 then bif aK (aA x.4 10 9) 9 then bif aK (aA x.2 20 5) 5 then aK (w0w x) 18 else false else false else false then cF (aA x.2 0 10) (aA x.4 10 9) (w0x x) (aA x.2 20 5) (w0w x)else 0)else s.3,c:=s.4+1,k:=3,a:=x.1,o:=aD s.3 x.1,w:=bif bL s.3 x.1 then bif bif aK (aA x.2 0 10) 10 then bif aK (aA x.4 10 9) 9 then bif aK (aA x.2 20 5) 5 then aK (w0w x) 18 else false else false else false then cF (aA x.2 0 10) (aA x.4 10 9) (w0x x) (aA x.2 20 5) (w0w x)else 0 else 0,ok:=aT s.3 x.1 x.2} })) (.pre ((t=t∧n=n)∧x.6.length+(1:Nat)=List.length (x.6++ [x.3])∧w0y∧lE' (bif aT s.3 x.1 x.2 then aS s.3 x.1 (bif bif aK (aA x.2 0 10) 10 then bif aK (aA x.4 10 9) 9 then bif aK (aA x.2 20 5) 5 then aK (w0w x) 18 else false else false else false then cF (aA x.2 0 10) (aA x.4 10 9) (w0x x) (aA x.2 20 5) (w0w x)else 0)else s.3)) (.ret {d:=false,x:= {x with pred:=x.9,pw:=0,curr:=0,cw:=0,tries:=W (x.5+1),ul:=x.6++ [x.3],ab:=ilt x.11 (W (x.5+1)),at':=0,moved:=0,cl:=bY},s:= {t:=s.1,n:=s.2,xs:=bif aT s.3 x.1 x.2 then aS s.3 x.1 (bif bif aK (aA x.2 0 10) 10 then bif aK (aA x.4 10 9) 9 then bif aK (aA x.2 20 5) 5 then aK (w0w x) 18 else false else false else false then cF (aA x.2 0 10) (aA x.4 10 9) (w0x x) (aA x.2 20 5) (w0w x)else 0)else s.3,c:=s.4+1,k:=3,a:=x.1,o:=aD s.3 x.1,w:=bif bL s.3 x.1 then bif bif aK (aA x.2 0 10) 10 then bif aK (aA x.4 10 9) 9 then bif aK (aA x.2 20 5) 5 then aK (w0w x) 18 else false else false else false then cF (aA x.2 0 10) (aA x.4 10 9) (w0x x) (aA x.2 20 5) (w0w x)else 0 else 0,ok:=aT s.3 x.1 x.2} }))) (.ite (w14 x) (.pre ((t=t∧n=n)∧x.6.length+(1:Nat)=List.length (x.6++ [x.3])∧(true=false→(5:Int)≠(4:Int))∧lE' (bif aT s.3 x.1 x.2 then aS s.3 x.1 (bif bif aK (aA x.2 0 10) 10 then bif aK (aA x.4 10 9) 9 then bif aK (aA x.2 20 5) 5 then aK (w0w x) 18 else false else false else false then cF (aA x.2 0 10) (aA x.4 10 9) (w0x x) (aA x.2 20 5) (w0w x)else 0)else s.3)) (.ret {d:=true,x:= {x with tries:=W (x.5+1),ul:=x.6++ [x.3],ab:=ilt x.11 (W (x.5+1)),at':=5,moved:=W (x.13+1),cl:=bY},s:= {t:=s.1,n:=s.2,xs:=bif aT s.3 x.1 x.2 then aS s.3 x.1 (bif bif aK (aA x.2 0 10) 10 then bif aK (aA x.4 10 9) 9 then bif aK (aA x.2 20 5) 5 then aK (w0w x) 18 else false else false else false then cF (aA x.2 0 10) (aA x.4 10 9) (w0x x) (aA x.2 20 5) (w0w x)else 0)else s.3,c:=s.4+1,k:=3,a:=x.1,o:=aD s.3 x.1,w:=bif bL s.3 x.1 then bif bif aK (aA x.2 0 10) 10 then bif aK (aA x.4 10 9) 9 then bif aK (aA x.2 20 5) 5 then aK (w0w x) 18 else false else false else false then cF (aA x.2 0 10) (aA x.4 10 9) (w0x x) (aA x.2 20 5) (w0w x)else 0 else 0,ok:=aT s.3 x.1 x.2} })) (.pre ((t=t∧n=n)∧x.6.length+(1:Nat)=List.length (x.6++ [x.3])∧w0y∧lE' (bif aT s.3 x.1 x.2 then aS s.3 x.1 (bif bif aK (aA x.2 0 10) 10 then bif aK (aA x.4 10 9) 9 then bif aK (aA x.2 20 5) 5 then aK (w0w x) 18 else false else false else false then cF (aA x.2 0 10) (aA x.4 10 9) (w0x x) (aA x.2 20 5) (w0w x)else 0)else s.3)) (.ret {d:=false,x:= {x with pred:=x.9,tries:=W (x.5+1),ul:=x.6++ [x.3],ab:=ilt x.11 (W (x.5+1)),at':=0,moved:=0,cl:=bY},s:= {t:=s.1,n:=s.2,xs:=bif aT s.3 x.1 x.2 then aS s.3 x.1 (bif bif aK (aA x.2 0 10) 10 then bif aK (aA x.4 10 9) 9 then bif aK (aA x.2 20 5) 5 then aK (w0w x) 18 else false else false else false then cF (aA x.2 0 10) (aA x.4 10 9) (w0x x) (aA x.2 20 5) (w0w x)else 0)else s.3,c:=s.4+1,k:=3,a:=x.1,o:=aD s.3 x.1,w:=bif bL s.3 x.1 then bif bif aK (aA x.2 0 10) 10 then bif aK (aA x.4 10 9) 9 then bif aK (aA x.2 20 5) 5 then aK (w0w x) 18 else false else false else false then cF (aA x.2 0 10) (aA x.4 10 9) (w0x x) (aA x.2 20 5) (w0w x)else 0 else 0,ok:=aT s.3 x.1 x.2} })))))))))))
theorem JY(t n:Int)(x:FNS)(s:MS)(K:FnO→Prop)(h:(BC t n x s).run K):cT' 163 [.ptr 0 0,.ptr 1 0] [cE' [.I t,.I n,.I x.pred,.int .u64 x.pw,.I x.curr,.int .u64 x.cw,.I x.tries,.slice 3 0 x.ul.length 1,.bool x.ab,.I x.me,.I x.frm,.I x.key,.I x.limit,.I 5,.I x.moved,.O],aZ 2 s,a8 s,iI' x.ul] (bU 3 0 [15] [(.cell 0 7,.ints (some .i64))] (C3 t n) K):=by
 exact cM' (E:=EC7) (by kernel_rfl) h
abbrev w1g(n:Int)(s:MS)(x:FNS):=aS s.3 (2*n+5+2*x.8+0) (WU x.3)
def BD(t n:Int)(x:FNS)(s:MS):Tr FnO:=.pre ((((0:Int)≤t∧t≤(100000:Int))∧((0:Int)≤n∧n≤(100000:Int))∧((-1099511627776:Int)≤x.8∧x.8≤(1099511627776:Int))∧(-1099511627776:Int)≤(0:Int)∧(0:Int)≤(1099511627776:Int))∧True) (.pre ((lE' s.3∧(0:Int)≤s.4∧s.4≤(4611686018427387904:Int))∧True) (.ite (ile (W (x.13+1)) n) (.pre ((t=t∧n=n)∧lE' x.6∧w0y∧lE' (w1g n s x)) (.ret {d:=false,x:= {x with pred:=x.3,at':=0,moved:=W (x.13+1),cl:=bY},s:= {t:=s.1,n:=s.2,xs:=aS s.3 (2*n+5+2*x.8+0) (WU x.3),c:=s.4+1,k:=2,a:=2*n+5+2*x.8+0,o:=aD s.3 (2*n+5+2*x.8+0),w:=bif bL s.3 (2*n+5+2*x.8+0)then WU x.3 else 0,ok:=bL s.3 (2*n+5+2*x.8+0) } })) (.ite (w14 x) (.ite (w14 x) (.pre ((t=t∧n=n)∧lE' x.6∧w1e∧lE' (w1g n s x)) (.ret {d:=true,x:= {x with pred:=0,pw:=0,curr:=0,cw:=0,tries:=W (x.5+1),ab:=ilt x.11 (W (x.5+1)),at':=0,moved:=W (x.13+1),cl:=bY},s:= {t:=s.1,n:=s.2,xs:=aS s.3 (2*n+5+2*x.8+0) (WU x.3),c:=s.4+1,k:=2,a:=2*n+5+2*x.8+0,o:=aD s.3 (2*n+5+2*x.8+0),w:=bif bL s.3 (2*n+5+2*x.8+0)then WU x.3 else 0,ok:=bL s.3 (2*n+5+2*x.8+0) } })) (.pre ((t=t∧n=n)∧lE' x.6∧w0y∧lE' (w1g n s x)) (.ret {d:=false,x:= {x with pred:=x.9,pw:=0,curr:=0,cw:=0,tries:=W (x.5+1),ab:=ilt x.11 (W (x.5+1)),at':=0,moved:=0,cl:=bY},s:= {t:=s.1,n:=s.2,xs:=aS s.3 (2*n+5+2*x.8+0) (WU x.3),c:=s.4+1,k:=2,a:=2*n+5+2*x.8+0,o:=aD s.3 (2*n+5+2*x.8+0),w:=bif bL s.3 (2*n+5+2*x.8+0)then WU x.3 else 0,ok:=bL s.3 (2*n+5+2*x.8+0) } }))) (.ite (w14 x) (.pre ((t=t∧n=n)∧lE' x.6∧w1e∧lE' (w1g n s x)) (.ret {d:=true,x:= {x with pred:=x.3,tries:=W (x.5+1),ab:=ilt x.11 (W (x.5+1)),at':=0,moved:=W (x.13+1),cl:=bY},s:= {t:=s.1,n:=s.2,xs:=aS s.3 (2*n+5+2*x.8+0) (WU x.3),c:=s.4+1,k:=2,a:=2*n+5+2*x.8+0,o:=aD s.3 (2*n+5+2*x.8+0),w:=bif bL s.3 (2*n+5+2*x.8+0)then WU x.3 else 0,ok:=bL s.3 (2*n+5+2*x.8+0) } })) (.pre ((t=t∧n=n)∧lE' x.6∧w0y∧lE' (w1g n s x)) (.ret {d:=false,x:= {x with pred:=x.9,tries:=W (x.5+1),ab:=ilt x.11 (W (x.5+1)),at':=0,moved:=0,cl:=bY},s:= {t:=s.1,n:=s.2,xs:=aS s.3 (2*n+5+2*x.8+0) (WU x.3),c:=s.4+1,k:=2,a:=2*n+5+2*x.8+0,o:=aD s.3 (2*n+5+2*x.8+0),w:=bif bL s.3 (2*n+5+2*x.8+0)then WU x.3 else 0,ok:=bL s.3 (2*n+5+2*x.8+0) } }))))))
theorem JZ(t n:Int)(x:FNS)(s:MS)(K:FnO→Prop)(h:(BD t n x s).run K):cT' 163 [.ptr 0 0,.ptr 1 0] [cE' [.I t,.I n,.I x.pred,.int .u64 x.pw,.I x.curr,.int .u64 x.cw,.I x.tries,.slice 3 0 x.ul.length 1,.bool x.ab,.I x.me,.I x.frm,.I x.key,.I x.limit,.I 6,.I x.moved,.O],aZ 2 s,a8 s,iI' x.ul] (bU 3 0 [15] [(.cell 0 7,.ints (some .i64))] (C3 t n) K):=by
 exact cM' (E:=EC7) (by kernel_rfl) h
def fnT(t n:Int)(x:FNS)(s:MS):Tr FnO:=
 bif ieq x.at' 0 then A7 t n x s else
 bif ieq x.at' 1 then A8 t n x s else
 bif ieq x.at' 2 then A9 t n x s else
 bif ieq x.at' 3 then BA t n x s else
 bif ieq x.at' 4 then BB t n x s else
 bif ieq x.at' 5 then BC t n x s else
 bif ieq x.at' 6 then BD t n x s else .pre False (.ret default)
def aM(t n:Int)(x:FNS)(s:MS):FnO:=(fnT t n x s).val
def JS(t n:Int)(x:FNS)(s:MS):Prop:=(fnT t n x s).ok
theorem UK(t n:Int)(x:FNS)(s:MS)(K:AVal→aC Ob→Prop)(h:(fnT t n x s).run (fun y=>(FnO.fin t n y).run K)):cT' 163 [.ptr 0 0,.ptr 1 0] (fnH t n x s) K:=by
 unfold fnT at h
 by_cases e:x.at'=0
 ·rw [e]at h;have h:(A7 t n x s).run _:=h;refine aHb (root:=0) (pos:=[15]) (cs:=[(.cell 0 7,.ints (some .i64))]) (parse:=C3 t n) (fin:=FnO.fin t n) oU (aR.unpack (.find t n x) 0 0 (kV t n x) [] rfl (congrArg (Prod.mk 0) (hZ (by omega))) (by kernel_rfl) rfl) ?_
  have q:=JT t n x s _ h;rw [←e]at q;exact q
 rw [bF e]at h
 by_cases e:x.at'=1
 ·rw [e]at h;have h:(A8 t n x s).run _:=h;refine aHb (root:=0) (pos:=[15]) (cs:=[(.cell 0 7,.ints (some .i64))]) (parse:=C3 t n) (fin:=FnO.fin t n) oU (aR.unpack (.find t n x) 0 0 (kV t n x) [] rfl (congrArg (Prod.mk 0) (hZ (by omega))) (by kernel_rfl) rfl) ?_
  have q:=JU t n x s _ h;rw [←e]at q;exact q
 rw [bF e]at h
 by_cases e:x.at'=2
 ·rw [e]at h;have h:(A9 t n x s).run _:=h;refine aHb (root:=0) (pos:=[15]) (cs:=[(.cell 0 7,.ints (some .i64))]) (parse:=C3 t n) (fin:=FnO.fin t n) oU (aR.unpack (.find t n x) 0 0 (kV t n x) [] rfl (congrArg (Prod.mk 0) (hZ (by omega))) (by kernel_rfl) rfl) ?_
  have q:=JV t n x s _ h;rw [←e]at q;exact q
 rw [bF e]at h
 by_cases e:x.at'=3
 ·rw [e]at h;have h:(BA t n x s).run _:=h;refine aHb (root:=0) (pos:=[15]) (cs:=[(.cell 0 7,.ints (some .i64))]) (parse:=C3 t n) (fin:=FnO.fin t n) oU (aR.unpack (.find t n x) 0 0 (kV t n x) [] rfl (congrArg (Prod.mk 0) (hZ (by omega))) (by kernel_rfl) rfl) ?_
  have q:=JW t n x s _ h;rw [←e]at q;exact q
 rw [bF e]at h
 by_cases e:x.at'=4
 ·rw [e]at h;have h:(BB t n x s).run _:=h;refine aHb (root:=0) (pos:=[15]) (cs:=[(.cell 0 7,.ints (some .i64))]) (parse:=C3 t n) (fin:=FnO.fin t n) oU (aR.unpack (.find t n x) 0 0 (pQ t n x) [] rfl (congrArg (Prod.mk 0) (G2 e)) (by kernel_rfl) rfl) ?_
  have q:=JX t n x s _ h;rw [←e]at q;exact q
 rw [bF e]at h
 by_cases e:x.at'=5
 ·rw [e]at h;have h:(BC t n x s).run _:=h;refine aHb (root:=0) (pos:=[15]) (cs:=[(.cell 0 7,.ints (some .i64))]) (parse:=C3 t n) (fin:=FnO.fin t n) oU (aR.unpack (.find t n x) 0 0 (kV t n x) [] rfl (congrArg (Prod.mk 0) (hZ (by omega))) (by kernel_rfl) rfl) ?_
  have q:=JY t n x s _ h;rw [←e]at q;exact q
 rw [bF e]at h
 by_cases e:x.at'=6
 ·rw [e]at h;have h:(BD t n x s).run _:=h;refine aHb (root:=0) (pos:=[15]) (cs:=[(.cell 0 7,.ints (some .i64))]) (parse:=C3 t n) (fin:=FnO.fin t n) oU (aR.unpack (.find t n x) 0 0 (kV t n x) [] rfl (congrArg (Prod.mk 0) (hZ (by omega))) (by kernel_rfl) rfl) ?_
  have q:=JZ t n x s _ h;rw [←e]at q;exact q
 rw [bF e]at h;exact h.1.elim
noncomputable def fnS:aI Ob:=fun args h=>match args,h with
 | [.ptr 0 0,.ptr 1 0],[some (.abs (.find t n x) []),e1,e2]=>(match cH 2 [e1,e2]with
   | some (l,s)=>some (.pre (l=s.xs.length∧JS t n x s) (FnO.fin t n (aM t n x s)))
   | none=>none)
 | _,_=>none
theorem aEg:sT' 163 fnS:=by
 intro args h o ho K hK;unfold fnS at ho;split at ho
 case h_2=>cases ho
 split at ho<;>cases ho
 rename_i hm;obtain⟨⟨hl,ok⟩,hK⟩:=hK;cases aY hm hl;exact UK _ _ _ _ K (aHe ok hK)
def aBm(t n:Int)(v:AVal)(g:aC Ob):Option (Prop×FNS):=match v,g with
 | .ptr 0 0,[some (.cells [.int .i64 t1,.int .i64 n1,.int .i64 pred,.int .u64 pw,.int .i64 curr,.int .u64 cw,.int .i64 tries,.slice 1 0 ul_l 1,.bool ab,.int .i64 me,.int .i64 frm,.int .i64 key,.int .i64 limit,.int .i64 at',.int .i64 moved,.O]),some (.ints (some .i64) ul)]=>some ((t1=t∧n1=n)∧ul_l=ul.length∧(at'≠4),(⟨pred,pw,curr,cw,tries,ul,ab,me,frm,key,limit,at',moved,⟨0,0,0,0⟩⟩:FNS))
 | _,_=>none
abbrev UF(t n:Int)(y:FNS):aC Ob:=[some (.abs (.find t n y) [])]
theorem UG{t n:Int} :bM (obI tbl) 0 (aBm t n) (fun y=>.ret (.ptr 0 0) (UF t n y)):=by
 intro v g p x hp hq K hK;unfold aBm at hp;split at hp
 case h_2=>cases hp
 rename_i t1 n1 pred pw curr cw tries ul_l ab me frm key limit at' moved ul;cases hp;obtain⟨⟨rfl,rfl⟩,rfl,hat⟩:=hq;exact⟨⟨_,_,aF.pack (UF t1 n1 (⟨pred,pw,curr,cw,tries,ul,ab,me,frm,key,limit,at',moved,⟨0,0,0,0⟩⟩:FNS)) (.find t1 n1 (⟨pred,pw,curr,cw,tries,ul,ab,me,frm,key,limit,at',moved,⟨0,0,0,0⟩⟩:FNS)) 0 0 (kV t1 n1 (⟨pred,pw,curr,cw,tries,ul,ab,me,frm,key,limit,at',moved,⟨0,0,0,0⟩⟩:FNS)) [] (by kernel_rfl) rfl (congrArg (Prod.mk 0) (hZ hat)) (by kernel_rfl),hK⟩⟩
abbrev w1h(hd n:Int):=((0:Int)≤n∧n≤(100000:Int))∧(-1000000:Int)≤hd∧hd≤(1000000:Int)
def OJ(t n:Int)(me hd key lim:Int):Tr FNS:=.pre (w1h hd n) (.pre (w1h hd n) (.pre ((t=t∧n=n)∧0=0∧(0:Int)≠(4:Int)) (.ret {pred:=n+1+hd,pw:=0,curr:=0,cw:=0,tries:=0,ul:=[],ab:=false,me:=me,frm:=n+1+hd,key:=key,limit:=lim,at':=0,moved:=0,cl:=bY})))
def t8(t n:Int)(me hd key lim:Int):FNS:=(OJ t n me hd key lim).val
def oD(t n:Int)(me hd key lim:Int):Prop:=(OJ t n me hd key lim).ok
def fnNS:aI Ob:=fun args h=>match args,h with
 | [.agg [.int .i64 t,.int .i64 n],.int .i64 me,.int .i64 hd,.int .i64 key,.int .i64 lim],[]=>some (.pre (oD t n me hd key lim) (.ret (.ptr 0 0) (UF t n (t8 t n me hd key lim))))
 | _,_=>none
theorem aBn:sT' 227 fnNS:=by
 intro args h o ho K hK;unfold fnNS at ho;split at ho<;>cases ho
 rename_i t n me hd key lim;obtain⟨ok,hK⟩:=hK;refine aHm (root:=0) (pos:=[15]) (cs:=[(.cell 0 7,.ints (some .i64))]) (parse:=aBm t n) UG ?_;exact cM' (E:=EC7) (q:=(OJ t n me hd key lim).run (fun y=>(Out.ret (.ptr 0 0) (UF t n y)).run K)) (by kernel_rfl) (aHe ok hK)
noncomputable def EF:=((EC7.addS 163 fnS aEg).addS 227 fnNS aBn)
def retC:aI Ob:=fun args h=>match args,h with
 | [.ptr 0 0,.slice 2 0 k 1],[e1,e2,some (.cells [.int .i64 p])]=>(match k9 1 [e1,e2]with
   | some (l,t,n,st)=>some (.pre (l=st.R.length∧k=1∧st.R.length+1≤4294967296) (.ret (.tup []) [cE' [.I t,.I n,.I st.me,.I st.sp,.slice 3 0 (st.R.length+1) 1],none,cE' [.I p],iI' (st.R++ [p])]))
   | none=>none)
 | _,_=>none
theorem W6:sT' 164 retC:=by
 intro args h o ho K hK;unfold retC at ho;split at ho
 case h_2=>cases ho
 rename_i k e1 e2 p;split at ho<;>cases ho
 rename_i l t n st hs;obtain⟨⟨hl,rfl,hle⟩,hK⟩:=hK;have hh:=b8 hs hl;cases hh;refine aHa (cM' (E:=EF) (q:=(0=0∧lE' st.3∧1=1∧st.3.length+(1:Nat)≤(4294967296:Nat))∧K (.tup []) [cE' [.I t,.I n,.I st.1,.I st.2,.slice 3 0 (st.3.length+1) 1],none,cE' [.I p],iI' (st.3++ [p])]) (by kernel_rfl) ?_)
 exact⟨⟨rfl,rfl,rfl,hle⟩,hK⟩
def retI:aI Ob:=fun args h=>match args,h with
 | [.ptr 0 0,.slice 2 0 k 1],[e1,e2,some (.ints (some .i64) xs)]=>(match k9 1 [e1,e2]with
   | some (l,t,n,st)=>some (.pre (l=st.R.length∧k=xs.length∧st.R.length+xs.length≤4294967296) (.ret (.tup []) [cE' [.I t,.I n,.I st.me,.I st.sp,.slice 3 0 (st.R.length+xs.length) 1],none,iI' xs,iI' (st.R++xs)]))
   | none=>none)
 | _,_=>none
theorem W7:sT' 164 retI:=by
 intro args h o ho K hK;unfold retI at ho;split at ho
 case h_2=>cases ho
 rename_i k e1 e2 xs;split at ho<;>cases ho
 rename_i l t n st hs;obtain⟨⟨hl,rfl,hle⟩,hK⟩:=hK;have hh:=b8 hs hl;cases hh;refine aHa (cM' (E:=EF) (q:=(0+xs.length≤xs.length∧0=0∧lE' st.3∧1=1∧st.3.length+xs.length≤(4294967296:Nat))∧K (.tup []) [cE' [.I t,.I n,.I st.1,.I st.2,.slice 3 0 (st.3.length+xs.length) 1],none,iI' xs,iI' (st.3++List.take xs.length (List.drop 0 xs))]) (by kernel_rfl) ?_)
 refine⟨⟨by omega,rfl,rfl,rfl,hle⟩,?_⟩
 rw [List.drop_zero,List.take_length];exact hK
noncomputable def retS:aI Ob:=aI.or retC retI
theorem aCI:sT' 164 retS:=aHA W6 W7
noncomputable def ER:=EF.addS 164 retS aCI
structure FtO where
 d:Bool
 x:FTS
 st:STS
 s:MS
instance:Inhabited FtO:=⟨⟨false,dC,⟨0,0,[]⟩,⟨0,0,[],0,0,0,0,0,false⟩⟩⟩
instance:Inhabited FTS:=⟨dC⟩
abbrev ftH(t n:Int)(x:FTS)(st:STS)(s:MS):aC Ob:=[some (.abs (.fast t n x) [1]),some (.abs (.store t n st) []),aZ 3 s,a8 s]
abbrev ftD(t n:Int)(x:FTS)(st:STS)(s:MS):aC Ob:=[cE' [.ptr 1 0,.I x.code,.bool x.okk,.I x.val,.bool x.failed,.I x.tries,.I x.sh,.I x.kd,.I x.ky,.I x.most,.I x.at',.bool x.p.now,.I x.p.code,.bool x.p.okk,.I x.p.val,.I x.p.addr,.int .u64 x.p.old,.I x.p.nxt,.bool x.p.mark,.I x.p.pops,.O,.O,.O],some (.abs (.store t n st) []),aZ 3 s,a8 s]
def FtO.fin(t n:Int)(y:FtO):Out Ob:=.ite y.d (.ret (.bool true) (ftD t n y.x y.st y.s)) (.ret (.bool false) (ftH t n y.x y.st y.s))
def aBt(t n:Int)(v:AVal)(g:aC Ob):Option (Prop×FtO):=match v,g with
 | .bool d,[some (.cells [.ptr 1 0,.int .i64 code,.bool okk,.int .i64 val,.bool failed,.int .i64 tries,.int .i64 sh,.int .i64 kd,.int .i64 ky,.int .i64 most,.int .i64 at',.bool p_now,.int .i64 p_code,.bool p_okk,.int .i64 p_val,.int .i64 p_addr,.int .u64 p_old,.int .i64 p_nxt,.bool p_mark,.int .i64 p_pops,.O,.O,.O]),e1,e3,e4,e2]=>(match k9 4 [e1,e2],cH 3 [e3,e4]with
   | some (l2,t2,n2,st),some (l,s)=>some ((t2=t∧n2=n)∧(d=false→at'≠0∧at'≠1∧at'≠2)∧l=s.xs.length∧l2=st.R.length,⟨d,⟨code,okk,val,failed,tries,sh,kd,ky,most,at',⟨p_now,p_code,p_okk,p_val,p_addr,p_old,p_nxt,p_mark,p_pops⟩,bQ,⟨0,0,0,0⟩,⟨0,0,0,false⟩⟩,st,s⟩)
   | _,_=>none)
 | _,_=>none
def aBu(t n:Int)(v:AVal)(g:aC Ob):Option (Prop×FtO):=match v,g with
 | .bool d,[some (.cells [.ptr 1 0,.int .i64 code,.bool okk,.int .i64 val,.bool failed,.int .i64 tries,.int .i64 sh,.int .i64 kd,.int .i64 ky,.int .i64 most,.int .i64 at',.bool p_now,.int .i64 p_code,.bool p_okk,.int .i64 p_val,.int .i64 p_addr,.int .u64 p_old,.int .i64 p_nxt,.bool p_mark,.int .i64 p_pops,.ptr 4 0,.O,.O]),e1,e3,e4,some (.abs (.find t' n' sub) []),e2]=>(match k9 5 [e1,e2],cH 3 [e3,e4]with
   | some (l2,t2,n2,st),some (l,s)=>some ((t2=t∧n2=n)∧t'=t∧n'=n∧(d=false→at'=0)∧l=s.xs.length∧l2=st.R.length,⟨d,⟨code,okk,val,failed,tries,sh,kd,ky,most,at',⟨p_now,p_code,p_okk,p_val,p_addr,p_old,p_nxt,p_mark,p_pops⟩,sub,⟨0,0,0,0⟩,⟨0,0,0,false⟩⟩,st,s⟩)
   | _,_=>none)
 | _,_=>none
def aBv(t n:Int)(v:AVal)(g:aC Ob):Option (Prop×FtO):=match v,g with
 | .bool d,[some (.cells [.ptr 1 0,.int .i64 code,.bool okk,.int .i64 val,.bool failed,.int .i64 tries,.int .i64 sh,.int .i64 kd,.int .i64 ky,.int .i64 most,.int .i64 at',.bool p_now,.int .i64 p_code,.bool p_okk,.int .i64 p_val,.int .i64 p_addr,.int .u64 p_old,.int .i64 p_nxt,.bool p_mark,.int .i64 p_pops,.O,.ptr 4 0,.O]),e1,e3,e4,some (.abs (.clear t' n' sub) []),e2]=>(match k9 5 [e1,e2],cH 3 [e3,e4]with
   | some (l2,t2,n2,st),some (l,s)=>some ((t2=t∧n2=n)∧t'=t∧n'=n∧(d=false→at'=1)∧l=s.xs.length∧l2=st.R.length,⟨d,⟨code,okk,val,failed,tries,sh,kd,ky,most,at',⟨p_now,p_code,p_okk,p_val,p_addr,p_old,p_nxt,p_mark,p_pops⟩,bQ,sub,⟨0,0,0,false⟩⟩,st,s⟩)
   | _,_=>none)
 | _,_=>none
def aBw(t n:Int)(v:AVal)(g:aC Ob):Option (Prop×FtO):=match v,g with
 | .bool d,[some (.cells [.ptr 1 0,.int .i64 code,.bool okk,.int .i64 val,.bool failed,.int .i64 tries,.int .i64 sh,.int .i64 kd,.int .i64 ky,.int .i64 most,.int .i64 at',.bool p_now,.int .i64 p_code,.bool p_okk,.int .i64 p_val,.int .i64 p_addr,.int .u64 p_old,.int .i64 p_nxt,.bool p_mark,.int .i64 p_pops,.O,.O,.ptr 4 0]),e1,e3,e4,some (.abs (.prepare t' n' sub) [1]),e2]=>(match k9 5 [e1,e2],cH 3 [e3,e4]with
   | some (l2,t2,n2,st),some (l,s)=>some ((t2=t∧n2=n)∧t'=t∧n'=n∧(d=false→at'=2)∧l=s.xs.length∧l2=st.R.length,⟨d,⟨code,okk,val,failed,tries,sh,kd,ky,most,at',⟨p_now,p_code,p_okk,p_val,p_addr,p_old,p_nxt,p_mark,p_pops⟩,bQ,⟨0,0,0,0⟩,sub⟩,st,s⟩)
   | _,_=>none)
 | _,_=>none
def RV(t n:Int)(v:AVal)(g:aC Ob):Option (Prop×FtO):=(match aBt t n v g with
 | some r=>some r
 | none=>(match aBu t n v g with
 | some r=>some r
 | none=>(match aBv t n v g with
 | some r=>some r
 | none=>aBw t n v g)))
theorem UP{t n:Int} :bM (obI tbl) 4 (aBt t n) (FtO.fin t n):=by
 intro v g p x hp hq K hK;unfold aBt at hp;split at hp
 case h_2=>cases hp
 rename_i d code okk val failed tries sh kd ky most at' p_now p_code p_okk p_val p_addr p_old p_nxt p_mark p_pops e1 e3 e4 e2;split at hp
 case h_2=>cases hp
 rename_i l2 t2 n2 st l s hs hm;cases hp;obtain⟨⟨rfl,rfl⟩,hat,hl,hl2⟩:=hq;cases aY hm hl;cases b8 hs hl2;refine eU hK (fun h=>?_) (fun hd h=>?_)
 ·exact ZL h (.store t2 n2 st) 1 0 (dN t2 n2 st) []
 ·exact vJ h (.store t2 n2 st) 1 0 (dN t2 n2 st) [] 0 [1] rfl (congrArg (Prod.mk 1) (A6 (hat hd)))
theorem UQ{t n:Int} :bM (obI tbl) 4 (aBu t n) (FtO.fin t n):=by
 intro v g p x hp hq K hK;unfold aBu at hp;split at hp
 case h_2=>cases hp
 rename_i d code okk val failed tries sh kd ky most at' p_now p_code p_okk p_val p_addr p_old p_nxt p_mark p_pops e1 e3 e4 t' n' sub e2;split at hp
 case h_2=>cases hp
 rename_i l2 t2 n2 st l s hs hm;cases hp;obtain⟨⟨rfl,rfl⟩,rfl,rfl,hat,hl,hl2⟩:=hq;cases aY hm hl;cases b8 hs hl2;refine eU hK (fun h=>?_) (fun hd h=>?_)
 ·exact sL h [20,21,22] [0,1,2,3,5] (.store t' n' st) 1 0 (dN t' n' st) []
 ·exact vJ h (.store t' n' st) 1 0 (dN t' n' st) [] 0 [1] rfl (congrArg (Prod.mk 1) (x5 (hat hd)))
theorem UR{t n:Int} :bM (obI tbl) 4 (aBv t n) (FtO.fin t n):=by
 intro v g p x hp hq K hK;unfold aBv at hp;split at hp
 case h_2=>cases hp
 rename_i d code okk val failed tries sh kd ky most at' p_now p_code p_okk p_val p_addr p_old p_nxt p_mark p_pops e1 e3 e4 t' n' sub e2;split at hp
 case h_2=>cases hp
 rename_i l2 t2 n2 st l s hs hm;cases hp;obtain⟨⟨rfl,rfl⟩,rfl,rfl,hat,hl,hl2⟩:=hq;cases aY hm hl;cases b8 hs hl2;refine eU hK (fun h=>?_) (fun hd h=>?_)
 ·exact sL h [20,21,22] [0,1,2,3,5] (.store t' n' st) 1 0 (dN t' n' st) []
 ·exact vJ h (.store t' n' st) 1 0 (dN t' n' st) [] 0 [1] rfl (congrArg (Prod.mk 1) (G0 (hat hd)))
theorem US{t n:Int} :bM (obI tbl) 4 (aBw t n) (FtO.fin t n):=by
 intro v g p x hp hq K hK;unfold aBw at hp;split at hp
 case h_2=>cases hp
 rename_i d code okk val failed tries sh kd ky most at' p_now p_code p_okk p_val p_addr p_old p_nxt p_mark p_pops e1 e3 e4 t' n' sub e2;split at hp
 case h_2=>cases hp
 rename_i l2 t2 n2 st l s hs hm;cases hp;obtain⟨⟨rfl,rfl⟩,rfl,rfl,hat,hl,hl2⟩:=hq;cases aY hm hl;cases b8 hs hl2;refine eU hK (fun h=>?_) (fun hd h=>?_)
 ·exact sL h [20,21,22] [0,1,2,3,5] (.store t' n' st) 1 0 (dN t' n' st) []
 ·exact vJ h (.store t' n' st) 1 0 (dN t' n' st) [] 0 [1] rfl (congrArg (Prod.mk 1) (G1 (hat hd)))
theorem x6{t n:Int} :bM (obI tbl) 4 (RV t n) (FtO.fin t n):=by
 intro v g p x hp hq K hK;unfold RV at hp;split at hp
 ·rename_i r hr;cases hp;exact UP v g p x hr hq K hK
 split at hp
 ·rename_i r hr;cases hp;exact UQ v g p x hr hq K hK
 split at hp
 ·rename_i r hr;cases hp;exact UR v g p x hr hq K hK
 exact US v g p x hp hq K hK
abbrev w1k(n:Int)(s:MS)(t:Int)(x:FTS):=FnO.x (aM t n x.12 s)
abbrev w1i(n:Int)(s:MS)(st:STS)(t:Int)(x:FTS):=bH x.6 x.7 x.8 (w1k n s t x).1 (w1k n s t x).2 (w1k n s t x).3 (w1k n s t x).4 st.2
abbrev w1m:=true=false→(0:Int)≠(0:Int)∧(0:Int)≠(1:Int)∧(0:Int)≠(2:Int)
abbrev w1n:=false=false→(3:Int)≠(0:Int)∧(3:Int)≠(1:Int)∧(3:Int)≠(2:Int)
abbrev w1o(s:MS)(st:STS)(x:FTS):Tr FtO:=.ret {d:=true,x:= {x with failed:=true,at':=0,cl:=bY,pr:=dD},st:=st,s:= {s with c:=s.4+1,k:=1,a:=0,o:=aD s.3 0,w:=aD s.3 0,ok:=bL s.3 0} }
abbrev w1p:=false=false→(0:Int)=(0:Int)
abbrev w1q(n:Int)(s:MS)(t:Int)(x:FTS):=FnO.s (aM t n x.12 s)
abbrev w1r:=false=false→(1:Int)=(1:Int)
abbrev w1s:=false=false→(2:Int)=(2:Int)
def BF(t n:Int)(x:FTS)(st:STS)(s:MS):Tr FtO:=.pre True (.ite (!bS x.6 x.7 x.8) (.pre (lE' s.3∧(0:Int)≤s.4∧s.4≤(4611686018427387904:Int)) (.pre ((t=t∧n=n)∧t=t∧n=n∧(true=false→(0:Int)=(0:Int))∧lE' s.3∧lE' st.3) (w1o s st x))) (.pre True (.ite (fK x.7) (.ite (ieq st.2 0) (.pre (lE' s.3∧(0:Int)≤s.4∧s.4≤(4611686018427387904:Int)) (.pre ((t=t∧n=n)∧t=t∧n=n∧(true=false→(0:Int)=(0:Int))∧lE' s.3∧lE' st.3) (w1o s st x))) (.pre (lE' s.3∧JS t n x.12 s) (.ite (aM t n x.12 s).1 (.pre ((lE' st.3∧lE' (w1k n s t x).6∧st.3.length+List.length (w1k n s t x).6≤(4294967296:Nat))∧True) (.ite (ilt x.9 (W (x.5+(w1k n s t x).5))) (.pre ((t=t∧n=n)∧w1m∧lE' (w1q n s t x).3∧st.3.length+List.length (w1k n s t x).6=List.length (st.3++(w1k n s t x).6)) (.ret {d:=true,x:= {x with failed:=ilt x.9 (W (x.5+(w1k n s t x).5)),tries:=W (x.5+(w1k n s t x).5),at':=0,fn:=bQ,cl:=bY,pr:=dD},st:= {me:=st.1,sp:=st.2,R:=st.3++(w1k n s t x).6},s:=(aM t n x.12 s).3})) (.pre (uW x.6 x.7 x.8 (w1k n s t x).1 (w1k n s t x).2 (w1k n s t x).3 (w1k n s t x).4 st.2∧True) (.ite (w1i n s st t x).1 (.pre ((t=t∧n=n)∧w1m∧lE' (w1q n s t x).3∧st.3.length+List.length (w1k n s t x).6=List.length (st.3++(w1k n s t x).6)) (.ret {d:=true,x:= {x with code:=(w1i n s st t x).2,okk:=(w1i n s st t x).3,val:=(w1i n s st t x).4,failed:=ilt x.9 (W (x.5+(w1k n s t x).5)),tries:=W (x.5+(w1k n s t x).5),at':=0,p:=bH x.6 x.7 x.8 (w1k n s t x).1 (w1k n s t x).2 (w1k n s t x).3 (w1k n s t x).4 st.2,fn:=bQ,cl:=bY,pr:=dD},st:= {me:=st.1,sp:=st.2,R:=st.3++(w1k n s t x).6},s:=(aM t n x.12 s).3})) (.pre (nU (w1i n s st t x).1 (w1i n s st t x).2 (w1i n s st t x).3 (w1i n s st t x).4 (w1i n s st t x).5 (w1i n s st t x).6 (w1i n s st t x).7 (w1i n s st t x).8 (w1i n s st t x).9) (.ite (yI (w1i n s st t x).1 (w1i n s st t x).2 (w1i n s st t x).3 (w1i n s st t x).4 (w1i n s st t x).5 (w1i n s st t x).6 (w1i n s st t x).7 (w1i n s st t x).8 (w1i n s st t x).9) (.pre (pH t n (w1i n s st t x).5∧True) (.pre ((t=t∧n=n)∧t=t∧n=n∧w1r∧lE' (w1q n s t x).3∧st.3.length+List.length (w1k n s t x).6=List.length (st.3++(w1k n s t x).6)) (.ret {d:=false,x:= {x with failed:=ilt x.9 (W (x.5+(w1k n s t x).5)),tries:=W (x.5+(w1k n s t x).5),at':=1,p:=bH x.6 x.7 x.8 (w1k n s t x).1 (w1k n s t x).2 (w1k n s t x).3 (w1k n s t x).4 st.2,fn:=bQ,cl:=xO t n (w1i n s st t x).5,pr:=dD},st:= {me:=st.1,sp:=st.2,R:=st.3++(w1k n s t x).6},s:=(aM t n x.12 s).3}))) (.pre True (.ite (fK x.7) (.pre ((st.3.length+List.length (w1k n s t x).6=List.length (st.3++(w1k n s t x).6)∧CI t n x.8 (w1k n s t x).3 {me:=st.1,sp:=st.2,R:=st.3++(w1k n s t x).6})∧True) (.pre ((t=t∧n=n)∧t=t∧n=n∧w1s∧lE' (w1q n s t x).3∧lE' (Prod.snd (o9 t n x.8 (w1k n s t x).3 {me:=st.1,sp:=st.2,R:=st.3++(w1k n s t x).6})).3) (.ret {d:=false,x:= {x with failed:=ilt x.9 (W (x.5+(w1k n s t x).5)),tries:=W (x.5+(w1k n s t x).5),at':=2,p:=bH x.6 x.7 x.8 (w1k n s t x).1 (w1k n s t x).2 (w1k n s t x).3 (w1k n s t x).4 st.2,fn:=bQ,cl:=bY,pr:=(o9 t n x.8 (w1k n s t x).3 {me:=st.1,sp:=st.2,R:=st.3++(w1k n s t x).6}).1},st:=(o9 t n x.8 (w1k n s t x).3 {me:=st.1,sp:=st.2,R:=st.3++(w1k n s t x).6}).2,s:=(aM t n x.12 s).3}))) (.pre ((t=t∧n=n)∧w1n∧lE' (w1q n s t x).3∧st.3.length+List.length (w1k n s t x).6=List.length (st.3++(w1k n s t x).6)) (.ret {d:=false,x:= {x with failed:=ilt x.9 (W (x.5+(w1k n s t x).5)),tries:=W (x.5+(w1k n s t x).5),at':=3,p:=bH x.6 x.7 x.8 (w1k n s t x).1 (w1k n s t x).2 (w1k n s t x).3 (w1k n s t x).4 st.2,fn:=bQ,cl:=bY,pr:=dD},st:= {me:=st.1,sp:=st.2,R:=st.3++(w1k n s t x).6},s:=(aM t n x.12 s).3})))))))))) (.pre ((t=t∧n=n)∧t=t∧n=n∧w1p∧lE' (w1q n s t x).3∧lE' st.3) (.ret {d:=false,x:= {x with at':=0,fn:=(aM t n x.12 s).2,cl:=bY,pr:=dD},st:=st,s:=(aM t n x.12 s).3}))))) (.pre (lE' s.3∧JS t n x.12 s) (.ite (aM t n x.12 s).1 (.pre ((lE' st.3∧lE' (w1k n s t x).6∧st.3.length+List.length (w1k n s t x).6≤(4294967296:Nat))∧True) (.ite (ilt x.9 (W (x.5+(w1k n s t x).5))) (.pre ((t=t∧n=n)∧w1m∧lE' (w1q n s t x).3∧st.3.length+List.length (w1k n s t x).6=List.length (st.3++(w1k n s t x).6)) (.ret {d:=true,x:= {x with failed:=ilt x.9 (W (x.5+(w1k n s t x).5)),tries:=W (x.5+(w1k n s t x).5),at':=0,fn:=bQ,cl:=bY,pr:=dD},st:= {me:=st.1,sp:=st.2,R:=st.3++(w1k n s t x).6},s:=(aM t n x.12 s).3})) (.pre (uW x.6 x.7 x.8 (w1k n s t x).1 (w1k n s t x).2 (w1k n s t x).3 (w1k n s t x).4 st.2∧True) (.ite (w1i n s st t x).1 (.pre ((t=t∧n=n)∧w1m∧lE' (w1q n s t x).3∧st.3.length+List.length (w1k n s t x).6=List.length (st.3++(w1k n s t x).6)) (.ret {d:=true,x:= {x with code:=(w1i n s st t x).2,okk:=(w1i n s st t x).3,val:=(w1i n s st t x).4,failed:=ilt x.9 (W (x.5+(w1k n s t x).5)),tries:=W (x.5+(w1k n s t x).5),at':=0,p:=bH x.6 x.7 x.8 (w1k n s t x).1 (w1k n s t x).2 (w1k n s t x).3 (w1k n s t x).4 st.2,fn:=bQ,cl:=bY,pr:=dD},st:= {me:=st.1,sp:=st.2,R:=st.3++(w1k n s t x).6},s:=(aM t n x.12 s).3})) (.pre (nU (w1i n s st t x).1 (w1i n s st t x).2 (w1i n s st t x).3 (w1i n s st t x).4 (w1i n s st t x).5 (w1i n s st t x).6 (w1i n s st t x).7 (w1i n s st t x).8 (w1i n s st t x).9) (.ite (yI (w1i n s st t x).1 (w1i n s st t x).2 (w1i n s st t x).3 (w1i n s st t x).4 (w1i n s st t x).5 (w1i n s st t x).6 (w1i n s st t x).7 (w1i n s st t x).8 (w1i n s st t x).9) (.pre (pH t n (w1i n s st t x).5∧True) (.pre ((t=t∧n=n)∧t=t∧n=n∧w1r∧lE' (w1q n s t x).3∧st.3.length+List.length (w1k n s t x).6=List.length (st.3++(w1k n s t x).6)) (.ret {d:=false,x:= {x with failed:=ilt x.9 (W (x.5+(w1k n s t x).5)),tries:=W (x.5+(w1k n s t x).5),at':=1,p:=bH x.6 x.7 x.8 (w1k n s t x).1 (w1k n s t x).2 (w1k n s t x).3 (w1k n s t x).4 st.2,fn:=bQ,cl:=xO t n (w1i n s st t x).5,pr:=dD},st:= {me:=st.1,sp:=st.2,R:=st.3++(w1k n s t x).6},s:=(aM t n x.12 s).3}))) (.pre True (.ite (fK x.7) (.pre ((st.3.length+List.length (w1k n s t x).6=List.length (st.3++(w1k n s t x).6)∧CI t n x.8 (w1k n s t x).3 {me:=st.1,sp:=st.2,R:=st.3++(w1k n s t x).6})∧True) (.pre ((t=t∧n=n)∧t=t∧n=n∧w1s∧lE' (w1q n s t x).3∧lE' (Prod.snd (o9 t n x.8 (w1k n s t x).3 {me:=st.1,sp:=st.2,R:=st.3++(w1k n s t x).6})).3) (.ret {d:=false,x:= {x with failed:=ilt x.9 (W (x.5+(w1k n s t x).5)),tries:=W (x.5+(w1k n s t x).5),at':=2,p:=bH x.6 x.7 x.8 (w1k n s t x).1 (w1k n s t x).2 (w1k n s t x).3 (w1k n s t x).4 st.2,fn:=bQ,cl:=bY,pr:=(o9 t n x.8 (w1k n s t x).3 {me:=st.1,sp:=st.2,R:=st.3++(w1k n s t x).6}).1},st:=(o9 t n x.8 (w1k n s t x).3 {me:=st.1,sp:=st.2,R:=st.3++(w1k n s t x).6}).2,s:=(aM t n x.12 s).3}))) (.pre ((t=t∧n=n)∧w1n∧lE' (w1q n s t x).3∧st.3.length+List.length (w1k n s t x).6=List.length (st.3++(w1k n s t x).6)) (.ret {d:=false,x:= {x with failed:=ilt x.9 (W (x.5+(w1k n s t x).5)),tries:=W (x.5+(w1k n s t x).5),at':=3,p:=bH x.6 x.7 x.8 (w1k n s t x).1 (w1k n s t x).2 (w1k n s t x).3 (w1k n s t x).4 st.2,fn:=bQ,cl:=bY,pr:=dD},st:= {me:=st.1,sp:=st.2,R:=st.3++(w1k n s t x).6},s:=(aM t n x.12 s).3})))))))))) (.pre ((t=t∧n=n)∧t=t∧n=n∧w1p∧lE' (w1q n s t x).3∧lE' st.3) (.ret {d:=false,x:= {x with at':=0,fn:=(aM t n x.12 s).2,cl:=bY,pr:=dD},st:=st,s:=(aM t n x.12 s).3})))))))
theorem J0(t n:Int)(x:FTS)(st:STS)(s:MS)(K:FtO→Prop)(h:(BF t n x st s).run K):cT' 156 [.ptr 0 0,.ptr 2 0] [cE' [.ptr 1 0,.I x.code,.bool x.okk,.I x.val,.bool x.failed,.I x.tries,.I x.sh,.I x.kd,.I x.ky,.I x.most,.I 0,.bool x.p.now,.I x.p.code,.bool x.p.okk,.I x.p.val,.I x.p.addr,.int .u64 x.p.old,.I x.p.nxt,.bool x.p.mark,.I x.p.pops,.ptr 4 0,.O,.O],iP 5 t n st,aZ 3 s,a8 s,some (.abs (.find t n x.fn) []),iQ st] (bU 4 0 [20,21,22] [(.cell 1 4,.ints (some .i64))] (RV t n) K):=by
 exact cM' (E:=ER) (by kernel_rfl) h
def BG(t n:Int)(x:FTS)(st:STS)(s:MS):Tr FtO:=.pre (lE' s.3∧MN t n x.13 s) (.ite (oC t n x.13 s).1 (.ite (ilt x.9 (W (x.5+1))) (.pre ((t=t∧n=n)∧(true=false→(1:Int)≠(0:Int)∧(1:Int)≠(1:Int)∧(1:Int)≠(2:Int))∧lE' (ClO.s (oC t n x.13 s)).3∧lE' st.3) (.ret {d:=true,x:= {x with failed:=ilt x.9 (W (x.5+1)),tries:=W (x.5+1),at':=1,fn:=bQ,cl:=bY,pr:=dD},st:=st,s:=(oC t n x.13 s).3})) (.pre True (.pre (oD t n st.1 (eT x.6 x.8) (lV x.6 x.7 x.8) (W (x.9 - W (x.5+1)))∧True) (.pre ((t=t∧n=n)∧t=t∧n=n∧w1p∧lE' (ClO.s (oC t n x.13 s)).3∧lE' st.3) (.ret {d:=false,x:= {x with failed:=ilt x.9 (W (x.5+1)),tries:=W (x.5+1),at':=0,fn:=t8 t n st.1 (eT x.6 x.8) (lV x.6 x.7 x.8) (W (x.9 - W (x.5+1))),cl:=bY,pr:=dD},st:=st,s:=(oC t n x.13 s).3}))))) (.pre ((t=t∧n=n)∧t=t∧n=n∧w1r∧lE' (ClO.s (oC t n x.13 s)).3∧lE' st.3) (.ret {d:=false,x:= {x with at':=1,fn:=bQ,cl:=(oC t n x.13 s).2,pr:=dD},st:=st,s:=(oC t n x.13 s).3})))
theorem J1(t n:Int)(x:FTS)(st:STS)(s:MS)(K:FtO→Prop)(h:(BG t n x st s).run K):cT' 156 [.ptr 0 0,.ptr 2 0] [cE' [.ptr 1 0,.I x.code,.bool x.okk,.I x.val,.bool x.failed,.I x.tries,.I x.sh,.I x.kd,.I x.ky,.I x.most,.I 1,.bool x.p.now,.I x.p.code,.bool x.p.okk,.I x.p.val,.I x.p.addr,.int .u64 x.p.old,.I x.p.nxt,.bool x.p.mark,.I x.p.pops,.O,.ptr 4 0,.O],iP 5 t n st,aZ 3 s,a8 s,some (.abs (.clear t n x.cl) []),iQ st] (bU 4 0 [20,21,22] [(.cell 1 4,.ints (some .i64))] (RV t n) K):=by
 exact cM' (E:=ER) (by kernel_rfl) h
def BH(t n:Int)(x:FTS)(st:STS)(s:MS):Tr FtO:=.pre ((lE' s.3∧lE' st.3∧t=t∧n=n)∧P2 t n x.14 st s) (.ite (prF t n x.14 st s).1 (.pre ((t=t∧n=n)∧w1n∧lE' (PrO.s (prF t n x.14 st s)).3∧lE' (PrO.st (prF t n x.14 st s)).3) (.ret {d:=false,x:= {x with at':=3,fn:=bQ,cl:=bY,pr:=dD},st:=(prF t n x.14 st s).3,s:=(prF t n x.14 st s).4})) (.pre ((t=t∧n=n)∧t=t∧n=n∧w1s∧lE' (PrO.s (prF t n x.14 st s)).3∧lE' (PrO.st (prF t n x.14 st s)).3) (.ret {d:=false,x:= {x with at':=2,fn:=bQ,cl:=bY,pr:=(prF t n x.14 st s).2},st:=(prF t n x.14 st s).3,s:=(prF t n x.14 st s).4})))
theorem J2(t n:Int)(x:FTS)(st:STS)(s:MS)(K:FtO→Prop)(h:(BH t n x st s).run K):cT' 156 [.ptr 0 0,.ptr 2 0] [cE' [.ptr 1 0,.I x.code,.bool x.okk,.I x.val,.bool x.failed,.I x.tries,.I x.sh,.I x.kd,.I x.ky,.I x.most,.I 2,.bool x.p.now,.I x.p.code,.bool x.p.okk,.I x.p.val,.I x.p.addr,.int .u64 x.p.old,.I x.p.nxt,.bool x.p.mark,.I x.p.pops,.O,.O,.ptr 4 0],iP 5 t n st,aZ 3 s,a8 s,some (.abs (.prepare t n x.pr) [1]),iQ st] (bU 4 0 [20,21,22] [(.cell 1 4,.ints (some .i64))] (RV t n) K):=by
 exact cM' (E:=ER) (by kernel_rfl) h
abbrev w1j(x:FTS):=cY (FTS.p x).1 (FTS.p x).2 (FTS.p x).3 (FTS.p x).4 (FTS.p x).5 (FTS.p x).6 (FTS.p x).7 (FTS.p x).8 (FTS.p x).9
abbrev w1l:=true=false→(3:Int)≠(0:Int)∧(3:Int)≠(1:Int)∧(3:Int)≠(2:Int)
def BI(t n:Int)(x:FTS)(st:STS)(s:MS):Tr FtO:=.pre (yK (FTS.p x).1 (FTS.p x).2 (FTS.p x).3 (FTS.p x).4 (FTS.p x).5 (FTS.p x).6 (FTS.p x).7 (FTS.p x).8 (FTS.p x).9∧True) (.pre ((lE' s.3∧(0:Int)≤s.4∧s.4≤(4611686018427387904:Int))∧True) (.ite (!aT s.3 (FTS.p x).5 (FTS.p x).6) (.ite (ilt x.9 (W (x.5+1))) (.pre ((t=t∧n=n)∧w1l∧lE' (bif aT s.3 (FTS.p x).5 (FTS.p x).6 then aS s.3 (FTS.p x).5 (w1j x)else s.3)∧lE' st.3) (.ret {d:=true,x:= {x with failed:=ilt x.9 (W (x.5+1)),tries:=W (x.5+1),at':=3,fn:=bQ,cl:=bY,pr:=dD},st:=st,s:= {t:=s.1,n:=s.2,xs:=bif aT s.3 (FTS.p x).5 (FTS.p x).6 then aS s.3 (FTS.p x).5 (w1j x)else s.3,c:=s.4+1,k:=3,a:=(FTS.p x).5,o:=aD s.3 (FTS.p x).5,w:=bif bL s.3 (FTS.p x).5 then cY (FTS.p x).1 (FTS.p x).2 (FTS.p x).3 (FTS.p x).4 (FTS.p x).5 (FTS.p x).6 (FTS.p x).7 (FTS.p x).8 (FTS.p x).9 else 0,ok:=aT s.3 (FTS.p x).5 (FTS.p x).6} })) (.pre True (.pre (oD t n st.1 (eT x.6 x.8) (lV x.6 x.7 x.8) (W (x.9 - W (x.5+1)))∧True) (.pre ((t=t∧n=n)∧t=t∧n=n∧w1p∧lE' (bif aT s.3 (FTS.p x).5 (FTS.p x).6 then aS s.3 (FTS.p x).5 (w1j x)else s.3)∧lE' st.3) (.ret {d:=false,x:= {x with failed:=ilt x.9 (W (x.5+1)),tries:=W (x.5+1),at':=0,fn:=t8 t n st.1 (eT x.6 x.8) (lV x.6 x.7 x.8) (W (x.9 - W (x.5+1))),cl:=bY,pr:=dD},st:=st,s:= {t:=s.1,n:=s.2,xs:=bif aT s.3 (FTS.p x).5 (FTS.p x).6 then aS s.3 (FTS.p x).5 (w1j x)else s.3,c:=s.4+1,k:=3,a:=(FTS.p x).5,o:=aD s.3 (FTS.p x).5,w:=bif bL s.3 (FTS.p x).5 then cY (FTS.p x).1 (FTS.p x).2 (FTS.p x).3 (FTS.p x).4 (FTS.p x).5 (FTS.p x).6 (FTS.p x).7 (FTS.p x).8 (FTS.p x).9 else 0,ok:=aT s.3 (FTS.p x).5 (FTS.p x).6} }))))) (.pre True (.ite (fK x.7) (.ite (!ieq (FTS.p x).9 0) (.pre ((lE' st.3∧1=1∧st.3.length+(1:Nat)≤(4294967296:Nat))∧True) (.pre ((t=t∧n=n)∧w1l∧lE' (bif aT s.3 (FTS.p x).5 (FTS.p x).6 then aS s.3 (FTS.p x).5 (w1j x)else s.3)∧st.3.length+(1:Nat)=List.length (st.3++ [(FTS.p x).9])) (.ret {d:=true,x:= {x with code:=(FTS.p x).2,okk:=(FTS.p x).3,val:=(FTS.p x).4,at':=3,fn:=bQ,cl:=bY,pr:=dD},st:= {me:=st.1,sp:=0,R:=st.3++ [(FTS.p x).9] },s:= {t:=s.1,n:=s.2,xs:=bif aT s.3 (FTS.p x).5 (FTS.p x).6 then aS s.3 (FTS.p x).5 (w1j x)else s.3,c:=s.4+1,k:=3,a:=(FTS.p x).5,o:=aD s.3 (FTS.p x).5,w:=bif bL s.3 (FTS.p x).5 then cY (FTS.p x).1 (FTS.p x).2 (FTS.p x).3 (FTS.p x).4 (FTS.p x).5 (FTS.p x).6 (FTS.p x).7 (FTS.p x).8 (FTS.p x).9 else 0,ok:=aT s.3 (FTS.p x).5 (FTS.p x).6} }))) (.pre ((t=t∧n=n)∧w1l∧lE' (bif aT s.3 (FTS.p x).5 (FTS.p x).6 then aS s.3 (FTS.p x).5 (w1j x)else s.3)∧lE' st.3) (.ret {d:=true,x:= {x with code:=(FTS.p x).2,okk:=(FTS.p x).3,val:=(FTS.p x).4,at':=3,fn:=bQ,cl:=bY,pr:=dD},st:= {me:=st.1,sp:=0,R:=st.3},s:= {t:=s.1,n:=s.2,xs:=bif aT s.3 (FTS.p x).5 (FTS.p x).6 then aS s.3 (FTS.p x).5 (w1j x)else s.3,c:=s.4+1,k:=3,a:=(FTS.p x).5,o:=aD s.3 (FTS.p x).5,w:=bif bL s.3 (FTS.p x).5 then cY (FTS.p x).1 (FTS.p x).2 (FTS.p x).3 (FTS.p x).4 (FTS.p x).5 (FTS.p x).6 (FTS.p x).7 (FTS.p x).8 (FTS.p x).9 else 0,ok:=aT s.3 (FTS.p x).5 (FTS.p x).6} }))) (.ite (!ieq (FTS.p x).9 0) (.pre ((lE' st.3∧1=1∧st.3.length+(1:Nat)≤(4294967296:Nat))∧True) (.pre ((t=t∧n=n)∧w1l∧lE' (bif aT s.3 (FTS.p x).5 (FTS.p x).6 then aS s.3 (FTS.p x).5 (w1j x)else s.3)∧st.3.length+(1:Nat)=List.length (st.3++ [(FTS.p x).9])) (.ret {d:=true,x:= {x with code:=(FTS.p x).2,okk:=(FTS.p x).3,val:=(FTS.p x).4,at':=3,fn:=bQ,cl:=bY,pr:=dD},st:= {me:=st.1,sp:=st.2,R:=st.3++ [(FTS.p x).9] },s:= {t:=s.1,n:=s.2,xs:=bif aT s.3 (FTS.p x).5 (FTS.p x).6 then aS s.3 (FTS.p x).5 (w1j x)else s.3,c:=s.4+1,k:=3,a:=(FTS.p x).5,o:=aD s.3 (FTS.p x).5,w:=bif bL s.3 (FTS.p x).5 then cY (FTS.p x).1 (FTS.p x).2 (FTS.p x).3 (FTS.p x).4 (FTS.p x).5 (FTS.p x).6 (FTS.p x).7 (FTS.p x).8 (FTS.p x).9 else 0,ok:=aT s.3 (FTS.p x).5 (FTS.p x).6} }))) (.pre ((t=t∧n=n)∧w1l∧lE' (bif aT s.3 (FTS.p x).5 (FTS.p x).6 then aS s.3 (FTS.p x).5 (w1j x)else s.3)∧lE' st.3) (.ret {d:=true,x:= {x with code:=(FTS.p x).2,okk:=(FTS.p x).3,val:=(FTS.p x).4,at':=3,fn:=bQ,cl:=bY,pr:=dD},st:=st,s:= {t:=s.1,n:=s.2,xs:=bif aT s.3 (FTS.p x).5 (FTS.p x).6 then aS s.3 (FTS.p x).5 (w1j x)else s.3,c:=s.4+1,k:=3,a:=(FTS.p x).5,o:=aD s.3 (FTS.p x).5,w:=bif bL s.3 (FTS.p x).5 then cY (FTS.p x).1 (FTS.p x).2 (FTS.p x).3 (FTS.p x).4 (FTS.p x).5 (FTS.p x).6 (FTS.p x).7 (FTS.p x).8 (FTS.p x).9 else 0,ok:=aT s.3 (FTS.p x).5 (FTS.p x).6} })))))))
theorem J3(t n:Int)(x:FTS)(st:STS)(s:MS)(K:FtO→Prop)(h:(BI t n x st s).run K):cT' 156 [.ptr 0 0,.ptr 2 0] [cE' [.ptr 1 0,.I x.code,.bool x.okk,.I x.val,.bool x.failed,.I x.tries,.I x.sh,.I x.kd,.I x.ky,.I x.most,.I 3,.bool x.p.now,.I x.p.code,.bool x.p.okk,.I x.p.val,.I x.p.addr,.int .u64 x.p.old,.I x.p.nxt,.bool x.p.mark,.I x.p.pops,.O,.O,.O],iP 4 t n st,aZ 3 s,a8 s,iQ st] (bU 4 0 [20,21,22] [(.cell 1 4,.ints (some .i64))] (RV t n) K):=by
 exact cM' (E:=ER) (by kernel_rfl) h
def ftT(t n:Int)(x:FTS)(st:STS)(s:MS):Tr FtO:=
 bif ieq x.at' 0 then BF t n x st s else
 bif ieq x.at' 1 then BG t n x st s else
 bif ieq x.at' 2 then BH t n x st s else
 bif ieq x.at' 3 then BI t n x st s else .pre False (.ret default)
def gO(t n:Int)(x:FTS)(st:STS)(s:MS):FtO:=(ftT t n x st s).val
def UO(t n:Int)(x:FTS)(st:STS)(s:MS):Prop:=(ftT t n x st s).ok
theorem G6(t n:Int)(x:FTS)(st:STS)(s:MS)(K:AVal→aC Ob→Prop)(h:(ftT t n x st s).run (fun y=>(FtO.fin t n y).run K)):cT' 156 [.ptr 0 0,.ptr 2 0] (ftH t n x st s) K:=by
 unfold ftT at h
 by_cases e:x.at'=0
 ·rw [e]at h;have h:(BF t n x st s).run _:=h;refine aHb (root:=0) (pos:=[20,21,22]) (cs:=[(.cell 1 4,.ints (some .i64))]) (parse:=RV t n) (fin:=FtO.fin t n) x6 ((aR.unpack (.fast t n x) 0 1 (pP t n x) [1] rfl (congrArg (Prod.mk 1) (x5 e)) (by kernel_rfl) rfl).trans (aR.unpack (.store t n st) 1 0 (dN t n st) [] rfl rfl rfl rfl)) ?_
  have q:=J0 t n x st s _ h;rw [←e]at q;exact q
 rw [bF e]at h
 by_cases e:x.at'=1
 ·rw [e]at h;have h:(BG t n x st s).run _:=h;refine aHb (root:=0) (pos:=[20,21,22]) (cs:=[(.cell 1 4,.ints (some .i64))]) (parse:=RV t n) (fin:=FtO.fin t n) x6 ((aR.unpack (.fast t n x) 0 1 (tW t n x) [1] rfl (congrArg (Prod.mk 1) (G0 e)) (by kernel_rfl) rfl).trans (aR.unpack (.store t n st) 1 0 (dN t n st) [] rfl rfl rfl rfl)) ?_
  have q:=J1 t n x st s _ h;rw [←e]at q;exact q
 rw [bF e]at h
 by_cases e:x.at'=2
 ·rw [e]at h;have h:(BH t n x st s).run _:=h;refine aHb (root:=0) (pos:=[20,21,22]) (cs:=[(.cell 1 4,.ints (some .i64))]) (parse:=RV t n) (fin:=FtO.fin t n) x6 ((aR.unpack (.fast t n x) 0 1 (tX t n x) [1] rfl (congrArg (Prod.mk 1) (G1 e)) (by kernel_rfl) rfl).trans (aR.unpack (.store t n st) 1 0 (dN t n st) [] rfl rfl rfl rfl)) ?_
  have q:=J2 t n x st s _ h;rw [←e]at q;exact q
 rw [bF e]at h
 by_cases e:x.at'=3
 ·rw [e]at h;have h:(BI t n x st s).run _:=h;refine aHb (root:=0) (pos:=[20,21,22]) (cs:=[(.cell 1 4,.ints (some .i64))]) (parse:=RV t n) (fin:=FtO.fin t n) x6 ((aR.unpack (.fast t n x) 0 1 (D9 t n x) [1] rfl (congrArg (Prod.mk 1) (A6 ⟨(by omega),(by omega),(by omega)⟩)) (by kernel_rfl) rfl).trans (aR.unpack (.store t n st) 1 0 (dN t n st) [] rfl rfl rfl rfl)) ?_
  have q:=J3 t n x st s _ h;rw [←e]at q;exact q
 rw [bF e]at h;exact h.1.elim
noncomputable def ftSA:aI Ob:=fun args h=>match args,h with
 | [.ptr 0 0,.ptr 2 0],[some (.abs (.fast t n x) [1]),some (.abs (.store t2 n2 st) []),e3,e4]=>(match cH 3 [e3,e4]with
   | some (l,s)=>some (.pre ((l=s.xs.length∧t2=t∧n2=n)∧UO t n x st s) (FtO.fin t n (gO t n x st s)))
   | none=>none)
 | _,_=>none
theorem aBx:sT' 156 ftSA:=by
 intro args h o ho K hK;unfold ftSA at ho;split at ho
 case h_2=>cases ho
 split at ho<;>cases ho
 rename_i hm;obtain⟨⟨⟨hl,rfl,rfl⟩,ok⟩,hK⟩:=hK;cases aY hm hl;exact G6 _ _ _ _ _ K (aHe ok hK)
def FtO.finB(t n:Int)(y:FtO):Out Ob:=.ite y.d (.ret (.bool true) ([cE' [.ptr 1 0,.I y.x.code,.bool y.x.okk,.I y.x.val,.bool y.x.failed,.I y.x.tries,.I y.x.sh,.I y.x.kd,.I y.x.ky,.I y.x.most,.I y.x.at',.bool y.x.p.now,.I y.x.p.code,.bool y.x.p.okk,.I y.x.p.val,.I y.x.p.addr,.int .u64 y.x.p.old,.I y.x.p.nxt,.bool y.x.p.mark,.I y.x.p.pops,.O,.O,.O],iP 5 t n y.st,none,aZ 4 y.s,a8 y.s,iQ y.st])) (.ret (.bool false) [some (.abs (.fast t n y.x) [1]),iP 5 t n y.st,none,aZ 4 y.s,a8 y.s,iQ y.st])
noncomputable def ftSB:aI Ob:=fun args h=>match args,h with
 | [.ptr 0 0,.ptr 3 0],[some (.abs (.fast t n x) [1]),e1,e2,e3,e4]=>(match k9 2 [e1,e2],cH 4 [e3,e4]with
   | some (l2,t2,n2,st),some (l,s)=>some (.pre ((l=s.xs.length∧l2=st.R.length∧t2=t∧n2=n)∧UO t n x st s) (FtO.finB t n (gO t n x st s)))
   | _,_=>none)
 | _,_=>none
theorem aBy:sT' 156 ftSB:=by
 intro args h o ho K hK;unfold ftSB at ho;split at ho
 case h_2=>cases ho
 split at ho<;>cases ho
 rename_i hs hm;obtain⟨⟨⟨hl,hl2,rfl,rfl⟩,ok⟩,hK⟩:=hK;cases aY hm hl;cases b8 hs hl2;exact jG (fun ι hι=>by simp [aH.ren,aHo,AVal.ren,hι]) (fun ι hι=>by simp [aH.ren,hι]) (fun K hK=>G6 _ _ _ _ _ K (aHe ok hK)) K hK
noncomputable def ftS:aI Ob:=aI.or ftSA ftSB
theorem aEj:sT' 156 ftS:=aHA aBx aBy
def aBr(t n:Int)(v:AVal)(g:aC Ob):Option (Prop×(FTS×STS)):=match v,g with
 | .ptr 2 0,[e1,e2,some (.cells [.ptr 0 0,.int .i64 code,.bool okk,.int .i64 val,.bool failed,.int .i64 tries,.int .i64 sh,.int .i64 kd,.int .i64 ky,.int .i64 most,.int .i64 at',.bool p_now,.int .i64 p_code,.bool p_okk,.int .i64 p_val,.int .i64 p_addr,.int .u64 p_old,.int .i64 p_nxt,.bool p_mark,.int .i64 p_pops,.ptr 3 0,.O,.O]),some (.abs (.find t' n' sub) [])]=>(match k9 1 [e1,e2]with
   | some (l2,t2,n2,st)=>some ((t2=t∧n2=n∧l2=st.R.length)∧t'=t∧n'=n∧at'=0,⟨(⟨code,okk,val,failed,tries,sh,kd,ky,most,at',⟨p_now,p_code,p_okk,p_val,p_addr,p_old,p_nxt,p_mark,p_pops⟩,sub,⟨0,0,0,0⟩,⟨0,0,0,false⟩⟩:FTS),st⟩)
   | none=>none)
 | _,_=>none
abbrev UL(t n:Int)(y:(FTS×STS)):aC Ob:=[iP 1 t n y.2,iQ y.2,some (.abs (.fast t n y.1) [0])]
theorem UM{t n:Int} :bM (obI tbl) 2 (aBr t n) (fun y=>.ret (.ptr 2 0) (UL t n y)):=by
 intro v g p x hp hq K hK;unfold aBr at hp;split at hp
 case h_2=>cases hp
 rename_i e1 e2 code okk val failed tries sh kd ky most at' p_now p_code p_okk p_val p_addr p_old p_nxt p_mark p_pops t' n' sub;split at hp
 case h_2=>cases hp
 rename_i l2 t2 n2 st hs;cases hp;obtain⟨⟨rfl,rfl,hl2⟩,rfl,rfl,hat⟩:=hq;cases b8 hs hl2;exact let X0:FTS:=⟨code,okk,val,failed,tries,sh,kd,ky,most,at',⟨p_now,p_code,p_okk,p_val,p_addr,p_old,p_nxt,p_mark,p_pops⟩,sub,⟨0,0,0,0⟩,⟨0,0,0,false⟩⟩;⟨⟨_,_,aF.pack (UL t' n' (X0,st)) (.fast t' n' X0) 2 1 (pP t' n' X0) [0] (by kernel_rfl) rfl (congrArg (Prod.mk 1) (x5 hat)) (by kernel_rfl),hK⟩⟩
def OK(t n:Int)(sh kd ky most:Int)(st:STS):Tr (FTS×STS):=.pre True (.pre (oD t n st.1 (eT sh ky) (lV sh kd ky) (W (most - 0))∧True) (.pre ((t=t∧n=n∧lE' st.3)∧t=t∧n=n∧(0:Int)=(0:Int)) (.ret ({code:=0,okk:=false,val:=0,failed:=false,tries:=0,sh:=sh,kd:=kd,ky:=ky,most:=most,at':=0,p:=aDM,fn:=t8 t n st.1 (eT sh ky) (lV sh kd ky) (W (most - 0)),cl:=bY,pr:=dD},st))))
def jQ(t n:Int)(sh kd ky most:Int)(st:STS):(FTS×STS):=(OK t n sh kd ky most st).val
def uA(t n:Int)(sh kd ky most:Int)(st:STS):Prop:=(OK t n sh kd ky most st).ok
def ftNS:aI Ob:=fun args h=>match args,h with
 | [.ptr 0 0,.agg [.int .i64 sh,.int .i64 kd,.int .i64 ky],.int .i64 most],[e1,e2]=>(match k9 1 [e1,e2]with
   | some (l2,t,n,st)=>some (.pre (l2=st.R.length∧uA t n sh kd ky most st) (.ret (.ptr 2 0) (UL t n (jQ t n sh kd ky most st))))
   | none=>none)
 | _,_=>none
theorem aBs:sT' 253 ftNS:=by
 intro args h o ho K hK;unfold ftNS at ho;split at ho
 case h_2=>cases ho
 rename_i sh kd ky most e1 e2;split at ho<;>cases ho
 rename_i l2 t n st hs;obtain⟨⟨hl2,ok⟩,hK⟩:=hK;cases b8 hs hl2;refine aHm (root:=2) (pos:=[20,21,22]) (cs:=[]) (parse:=aBr t n) UM ?_;exact cM' (E:=ER) (q:=(OK t n sh kd ky most st).run (fun y=>(Out.ret (.ptr 2 0) (UL t n y)).run K)) (by kernel_rfl) (aHe ok hK)
noncomputable def ET:=((ER.addS 156 ftS aEj).addS 253 ftNS aBs)
def EL:bE Ob:=fun args h=>match args,h with
 | [.ptr 0 0],[some (.cells [.ptr 1 0,.int .i64 u,.int .u64 no,.int .i64 rounds,.int .i64 limit,.int .i64 at',.int .u64 found,.int .i64 sh,.int .i64 kd,.int .i64 ky,.bool p_now,.int .i64 p_code,.bool p_okk,.int .i64 p_val,.int .i64 p_addr,.int .u64 p_old,.int .i64 p_nxt,.bool p_mark,.int .i64 p_pops,.O,.O,.O,.O,.O]),some (.cells [.int .i64 t,.int .i64 n,.int .i64 me,.int .i64 sp,.slice 2 0 k 1]),some (.ints (some .i64) R)]=>some (True,.agg [.I (aA found 0 12),.I (aA found 12 9),.I (aA found 21 18),.I (aA found 39 9),.bool (ieq (aA found 48 1) 1),.I (aA found 49 3),.I (aA found 52 10)])
 | _,_=>none
theorem OY:sT' 196 EL.spec:=by
 intro args h o ho K hK;unfold bE.spec EL at ho;split at ho
 case h_2=>cases ho
 rename_i p v hp;split at hp
 case h_2=>cases hp
 rename_i u no rounds limit at' found sh kd ky p_now p_code p_okk p_val p_addr p_old p_nxt p_mark p_pops t n me sp k R;cases hp;simp only [sI']at ho;subst ho;obtain⟨hp,hK⟩:=hK;have hK:K (.agg [.I (aA found 0 12),.I (aA found 12 9),.I (aA found 21 18),.I (aA found 39 9),.bool (ieq (aA found 48 1) 1),.I (aA found 49 3),.I (aA found 52 10)]) [cE' [.ptr 1 0,.I u,.int .u64 no,.I rounds,.I limit,.I at',.int .u64 found,.I sh,.I kd,.I ky,.bool p_now,.I p_code,.bool p_okk,.I p_val,.I p_addr,.int .u64 p_old,.I p_nxt,.bool p_mark,.I p_pops,.O,.O,.O,.O,.O],cE' [.I t,.I n,.I me,.I sp,.slice 2 0 k 1],iI' R]:=hK;refine aHa (cM' (E:=ET) (q:=True∧K (.agg [.I (aA found 0 12),.I (aA found 12 9),.I (aA found 21 18),.I (aA found 39 9),.bool (ieq (aA found 48 1) 1),.I (aA found 49 3),.I (aA found 52 10)]) [cE' [.ptr 1 0,.I u,.int .u64 no,.I rounds,.I limit,.I at',.int .u64 found,.I sh,.I kd,.I ky,.bool p_now,.I p_code,.bool p_okk,.I p_val,.I p_addr,.int .u64 p_old,.I p_nxt,.bool p_mark,.I p_pops,.O,.O,.O,.O,.O],cE' [.I t,.I n,.I me,.I sp,.slice 2 0 k 1],iI' R]) (by kernel_rfl) ?_)
 exact⟨trivial,hK⟩
noncomputable def EH0:=ET.addR 196 EL OY
structure HpO where
 d:Bool
 x:HPS
 st:STS
 s:MS
instance:Inhabited HpO:=⟨⟨false,dB,⟨0,0,[]⟩,⟨0,0,[],0,0,0,0,0,false⟩⟩⟩
instance:Inhabited HPS:=⟨dB⟩
abbrev hpH(t n:Int)(x:HPS)(st:STS)(s:MS):aC Ob:=[some (.abs (.help t n x) [1]),some (.abs (.store t n st) []),aZ 3 s,a8 s]
abbrev hpD(t n:Int)(x:HPS)(st:STS)(s:MS):aC Ob:=[cE' [.ptr 1 0,.I x.u,.int .u64 x.no,.I x.rounds,.I x.limit,.I x.at',.int .u64 x.found,.I x.sh,.I x.kd,.I x.ky,.bool x.p.now,.I x.p.code,.bool x.p.okk,.I x.p.val,.I x.p.addr,.int .u64 x.p.old,.I x.p.nxt,.bool x.p.mark,.I x.p.pops,.O,.O,.O,.O,.O],some (.abs (.store t n st) []),aZ 3 s,a8 s]
def HpO.fin(t n:Int)(y:HpO):Out Ob:=.ite y.d (.ret (.bool true) (hpD t n y.x y.st y.s)) (.ret (.bool false) (hpH t n y.x y.st y.s))
def aB4(t n:Int)(v:AVal)(g:aC Ob):Option (Prop×HpO):=match v,g with
 | .bool d,[some (.cells [.ptr 1 0,.int .i64 u,.int .u64 no,.int .i64 rounds,.int .i64 limit,.int .i64 at',.int .u64 found,.int .i64 sh,.int .i64 kd,.int .i64 ky,.bool p_now,.int .i64 p_code,.bool p_okk,.int .i64 p_val,.int .i64 p_addr,.int .u64 p_old,.int .i64 p_nxt,.bool p_mark,.int .i64 p_pops,.O,.O,.O,.O,.O]),e1,e3,e4,e2]=>(match k9 4 [e1,e2],cH 3 [e3,e4]with
   | some (l2,t2,n2,st),some (l,s)=>some ((t2=t∧n2=n)∧(d=false→at'≠3∧at'≠4∧at'≠5∧at'≠7∧at'≠8)∧l=s.xs.length∧l2=st.R.length,⟨d,⟨u,no,rounds,limit,at',found,sh,kd,ky,⟨p_now,p_code,p_okk,p_val,p_addr,p_old,p_nxt,p_mark,p_pops⟩,eC,bV,bQ,⟨0,0,0,0⟩,⟨0,0,0,false⟩⟩,st,s⟩)
   | _,_=>none)
 | _,_=>none
def aB5(t n:Int)(v:AVal)(g:aC Ob):Option (Prop×HpO):=match v,g with
 | .bool d,[some (.cells [.ptr 1 0,.int .i64 u,.int .u64 no,.int .i64 rounds,.int .i64 limit,.int .i64 at',.int .u64 found,.int .i64 sh,.int .i64 kd,.int .i64 ky,.bool p_now,.int .i64 p_code,.bool p_okk,.int .i64 p_val,.int .i64 p_addr,.int .u64 p_old,.int .i64 p_nxt,.bool p_mark,.int .i64 p_pops,.ptr 4 0,.O,.O,.O,.O]),e1,e3,e4,some (.abs (.exec t' n' sub) []),e2]=>(match k9 5 [e1,e2],cH 3 [e3,e4]with
   | some (l2,t2,n2,st),some (l,s)=>some ((t2=t∧n2=n)∧t'=t∧n'=n∧(d=false→at'=3)∧l=s.xs.length∧l2=st.R.length,⟨d,⟨u,no,rounds,limit,at',found,sh,kd,ky,⟨p_now,p_code,p_okk,p_val,p_addr,p_old,p_nxt,p_mark,p_pops⟩,sub,bV,bQ,⟨0,0,0,0⟩,⟨0,0,0,false⟩⟩,st,s⟩)
   | _,_=>none)
 | _,_=>none
def aB6(t n:Int)(v:AVal)(g:aC Ob):Option (Prop×HpO):=match v,g with
 | .bool d,[some (.cells [.ptr 1 0,.int .i64 u,.int .u64 no,.int .i64 rounds,.int .i64 limit,.int .i64 at',.int .u64 found,.int .i64 sh,.int .i64 kd,.int .i64 ky,.bool p_now,.int .i64 p_code,.bool p_okk,.int .i64 p_val,.int .i64 p_addr,.int .u64 p_old,.int .i64 p_nxt,.bool p_mark,.int .i64 p_pops,.O,.ptr 4 0,.O,.O,.O]),e1,e3,e4,some (.abs (.ensure t' n' sub) [1]),e2]=>(match k9 5 [e1,e2],cH 3 [e3,e4]with
   | some (l2,t2,n2,st),some (l,s)=>some ((t2=t∧n2=n)∧t'=t∧n'=n∧(d=false→at'=4)∧l=s.xs.length∧l2=st.R.length,⟨d,⟨u,no,rounds,limit,at',found,sh,kd,ky,⟨p_now,p_code,p_okk,p_val,p_addr,p_old,p_nxt,p_mark,p_pops⟩,eC,sub,bQ,⟨0,0,0,0⟩,⟨0,0,0,false⟩⟩,st,s⟩)
   | _,_=>none)
 | _,_=>none
def aB7(t n:Int)(v:AVal)(g:aC Ob):Option (Prop×HpO):=match v,g with
 | .bool d,[some (.cells [.ptr 1 0,.int .i64 u,.int .u64 no,.int .i64 rounds,.int .i64 limit,.int .i64 at',.int .u64 found,.int .i64 sh,.int .i64 kd,.int .i64 ky,.bool p_now,.int .i64 p_code,.bool p_okk,.int .i64 p_val,.int .i64 p_addr,.int .u64 p_old,.int .i64 p_nxt,.bool p_mark,.int .i64 p_pops,.O,.O,.ptr 4 0,.O,.O]),e1,e3,e4,some (.abs (.find t' n' sub) []),e2]=>(match k9 5 [e1,e2],cH 3 [e3,e4]with
   | some (l2,t2,n2,st),some (l,s)=>some ((t2=t∧n2=n)∧t'=t∧n'=n∧(d=false→at'=5)∧l=s.xs.length∧l2=st.R.length,⟨d,⟨u,no,rounds,limit,at',found,sh,kd,ky,⟨p_now,p_code,p_okk,p_val,p_addr,p_old,p_nxt,p_mark,p_pops⟩,eC,bV,sub,⟨0,0,0,0⟩,⟨0,0,0,false⟩⟩,st,s⟩)
   | _,_=>none)
 | _,_=>none
def aB8(t n:Int)(v:AVal)(g:aC Ob):Option (Prop×HpO):=match v,g with
 | .bool d,[some (.cells [.ptr 1 0,.int .i64 u,.int .u64 no,.int .i64 rounds,.int .i64 limit,.int .i64 at',.int .u64 found,.int .i64 sh,.int .i64 kd,.int .i64 ky,.bool p_now,.int .i64 p_code,.bool p_okk,.int .i64 p_val,.int .i64 p_addr,.int .u64 p_old,.int .i64 p_nxt,.bool p_mark,.int .i64 p_pops,.O,.O,.O,.ptr 4 0,.O]),e1,e3,e4,some (.abs (.clear t' n' sub) []),e2]=>(match k9 5 [e1,e2],cH 3 [e3,e4]with
   | some (l2,t2,n2,st),some (l,s)=>some ((t2=t∧n2=n)∧t'=t∧n'=n∧(d=false→at'=7)∧l=s.xs.length∧l2=st.R.length,⟨d,⟨u,no,rounds,limit,at',found,sh,kd,ky,⟨p_now,p_code,p_okk,p_val,p_addr,p_old,p_nxt,p_mark,p_pops⟩,eC,bV,bQ,sub,⟨0,0,0,false⟩⟩,st,s⟩)
   | _,_=>none)
 | _,_=>none
def aB9(t n:Int)(v:AVal)(g:aC Ob):Option (Prop×HpO):=match v,g with
 | .bool d,[some (.cells [.ptr 1 0,.int .i64 u,.int .u64 no,.int .i64 rounds,.int .i64 limit,.int .i64 at',.int .u64 found,.int .i64 sh,.int .i64 kd,.int .i64 ky,.bool p_now,.int .i64 p_code,.bool p_okk,.int .i64 p_val,.int .i64 p_addr,.int .u64 p_old,.int .i64 p_nxt,.bool p_mark,.int .i64 p_pops,.O,.O,.O,.O,.ptr 4 0]),e1,e3,e4,some (.abs (.prepare t' n' sub) [1]),e2]=>(match k9 5 [e1,e2],cH 3 [e3,e4]with
   | some (l2,t2,n2,st),some (l,s)=>some ((t2=t∧n2=n)∧t'=t∧n'=n∧(d=false→at'=8)∧l=s.xs.length∧l2=st.R.length,⟨d,⟨u,no,rounds,limit,at',found,sh,kd,ky,⟨p_now,p_code,p_okk,p_val,p_addr,p_old,p_nxt,p_mark,p_pops⟩,eC,bV,bQ,⟨0,0,0,0⟩,sub⟩,st,s⟩)
   | _,_=>none)
 | _,_=>none
def vI(t n:Int)(v:AVal)(g:aC Ob):Option (Prop×HpO):=(match aB4 t n v g with
 | some r=>some r
 | none=>(match aB5 t n v g with
 | some r=>some r
 | none=>(match aB6 t n v g with
 | some r=>some r
 | none=>(match aB7 t n v g with
 | some r=>some r
 | none=>(match aB8 t n v g with
 | some r=>some r
 | none=>aB9 t n v g)))))
theorem VV{t n:Int} :bM (obI tbl) 4 (aB4 t n) (HpO.fin t n):=by
 intro v g p x hp hq K hK;unfold aB4 at hp;split at hp
 case h_2=>cases hp
 rename_i d u no rounds limit at' found sh kd ky p_now p_code p_okk p_val p_addr p_old p_nxt p_mark p_pops e1 e3 e4 e2;split at hp
 case h_2=>cases hp
 rename_i l2 t2 n2 st l s hs hm;cases hp;obtain⟨⟨rfl,rfl⟩,hat,hl,hl2⟩:=hq;cases aY hm hl;cases b8 hs hl2;refine eU hK (fun h=>?_) (fun hd h=>?_)
 ·exact ZL h (.store t2 n2 st) 1 0 (dN t2 n2 st) []
 ·exact vJ h (.store t2 n2 st) 1 0 (dN t2 n2 st) [] 0 [1] rfl (congrArg (Prod.mk 1) (jS (hat hd)))
theorem VW{t n:Int} :bM (obI tbl) 4 (aB5 t n) (HpO.fin t n):=by
 intro v g p x hp hq K hK;unfold aB5 at hp;split at hp
 case h_2=>cases hp
 rename_i d u no rounds limit at' found sh kd ky p_now p_code p_okk p_val p_addr p_old p_nxt p_mark p_pops e1 e3 e4 t' n' sub e2;split at hp
 case h_2=>cases hp
 rename_i l2 t2 n2 st l s hs hm;cases hp;obtain⟨⟨rfl,rfl⟩,rfl,rfl,hat,hl,hl2⟩:=hq;cases aY hm hl;cases b8 hs hl2;refine eU hK (fun h=>?_) (fun hd h=>?_)
 ·exact sL h [19,20,21,22,23] [0,1,2,3,5] (.store t' n' st) 1 0 (dN t' n' st) []
 ·exact vJ h (.store t' n' st) 1 0 (dN t' n' st) [] 0 [1] rfl (congrArg (Prod.mk 1) (HR (hat hd)))
theorem VX{t n:Int} :bM (obI tbl) 4 (aB6 t n) (HpO.fin t n):=by
 intro v g p x hp hq K hK;unfold aB6 at hp;split at hp
 case h_2=>cases hp
 rename_i d u no rounds limit at' found sh kd ky p_now p_code p_okk p_val p_addr p_old p_nxt p_mark p_pops e1 e3 e4 t' n' sub e2;split at hp
 case h_2=>cases hp
 rename_i l2 t2 n2 st l s hs hm;cases hp;obtain⟨⟨rfl,rfl⟩,rfl,rfl,hat,hl,hl2⟩:=hq;cases aY hm hl;cases b8 hs hl2;refine eU hK (fun h=>?_) (fun hd h=>?_)
 ·exact sL h [19,20,21,22,23] [0,1,2,3,5] (.store t' n' st) 1 0 (dN t' n' st) []
 ·exact vJ h (.store t' n' st) 1 0 (dN t' n' st) [] 0 [1] rfl (congrArg (Prod.mk 1) (HS (hat hd)))
theorem VY{t n:Int} :bM (obI tbl) 4 (aB7 t n) (HpO.fin t n):=by
 intro v g p x hp hq K hK;unfold aB7 at hp;split at hp
 case h_2=>cases hp
 rename_i d u no rounds limit at' found sh kd ky p_now p_code p_okk p_val p_addr p_old p_nxt p_mark p_pops e1 e3 e4 t' n' sub e2;split at hp
 case h_2=>cases hp
 rename_i l2 t2 n2 st l s hs hm;cases hp;obtain⟨⟨rfl,rfl⟩,rfl,rfl,hat,hl,hl2⟩:=hq;cases aY hm hl;cases b8 hs hl2;refine eU hK (fun h=>?_) (fun hd h=>?_)
 ·exact sL h [19,20,21,22,23] [0,1,2,3,5] (.store t' n' st) 1 0 (dN t' n' st) []
 ·exact vJ h (.store t' n' st) 1 0 (dN t' n' st) [] 0 [1] rfl (congrArg (Prod.mk 1) (HT (hat hd)))
theorem VZ{t n:Int} :bM (obI tbl) 4 (aB8 t n) (HpO.fin t n):=by
 intro v g p x hp hq K hK;unfold aB8 at hp;split at hp
 case h_2=>cases hp
 rename_i d u no rounds limit at' found sh kd ky p_now p_code p_okk p_val p_addr p_old p_nxt p_mark p_pops e1 e3 e4 t' n' sub e2;split at hp
 case h_2=>cases hp
 rename_i l2 t2 n2 st l s hs hm;cases hp;obtain⟨⟨rfl,rfl⟩,rfl,rfl,hat,hl,hl2⟩:=hq;cases aY hm hl;cases b8 hs hl2;refine eU hK (fun h=>?_) (fun hd h=>?_)
 ·exact sL h [19,20,21,22,23] [0,1,2,3,5] (.store t' n' st) 1 0 (dN t' n' st) []
 ·exact vJ h (.store t' n' st) 1 0 (dN t' n' st) [] 0 [1] rfl (congrArg (Prod.mk 1) (HU (hat hd)))
theorem V9{t n:Int} :bM (obI tbl) 4 (aB9 t n) (HpO.fin t n):=by
 intro v g p x hp hq K hK;unfold aB9 at hp;split at hp
 case h_2=>cases hp
 rename_i d u no rounds limit at' found sh kd ky p_now p_code p_okk p_val p_addr p_old p_nxt p_mark p_pops e1 e3 e4 t' n' sub e2;split at hp
 case h_2=>cases hp
 rename_i l2 t2 n2 st l s hs hm;cases hp;obtain⟨⟨rfl,rfl⟩,rfl,rfl,hat,hl,hl2⟩:=hq;cases aY hm hl;cases b8 hs hl2;refine eU hK (fun h=>?_) (fun hd h=>?_)
 ·exact sL h [19,20,21,22,23] [0,1,2,3,5] (.store t' n' st) 1 0 (dN t' n' st) []
 ·exact vJ h (.store t' n' st) 1 0 (dN t' n' st) [] 0 [1] rfl (congrArg (Prod.mk 1) (HV (hat hd)))
theorem kX{t n:Int} :bM (obI tbl) 4 (vI t n) (HpO.fin t n):=by
 intro v g p x hp hq K hK;unfold vI at hp;split at hp
 ·rename_i r hr;cases hp;exact VV v g p x hr hq K hK
 split at hp
 ·rename_i r hr;cases hp;exact VW v g p x hr hq K hK
 split at hp
 ·rename_i r hr;cases hp;exact VX v g p x hr hq K hK
 split at hp
 ·rename_i r hr;cases hp;exact VY v g p x hr hq K hK
 split at hp
 ·rename_i r hr;cases hp;exact VZ v g p x hr hq K hK
 exact V9 v g p x hp hq K hK
abbrev w1y(n t:Int)(x:HPS):=(((0:Int)≤t∧t≤(100000:Int))∧((0:Int)≤n∧n≤(100000:Int))∧(-1099511627776:Int)≤x.1∧x.1≤(1099511627776:Int))∧True
def BM(t n:Int)(x:HPS)(st:STS)(s:MS):Tr HpO:=.pre (w1y n t x) (.pre ((lE' s.3∧(0:Int)≤s.4∧s.4≤(4611686018427387904:Int))∧True) (.pre True (.pre True (.pre ((t=t∧n=n)∧((!m8 (aA (aD s.3 (2*n+5+2*t+3*x.1+2)) 49 3))=false→(1:Int)≠(3:Int)∧(1:Int)≠(4:Int)∧(1:Int)≠(5:Int)∧(1:Int)≠(7:Int)∧(1:Int)≠(8:Int))∧lE' s.3∧lE' st.3) (.ret {d:=!m8 (aA (aD s.3 (2*n+5+2*t+3*x.1+2)) 49 3),x:= {x with rounds:=W (x.3+1),at':=1,found:=aD s.3 (2*n+5+2*t+3*x.1+2),ex:=eC,en:=bV,fn:=bQ,cl:=bY,pr:=dD},st:=st,s:= {s with c:=s.4+1,k:=1,a:=2*n+5+2*t+3*x.1+2,o:=aD s.3 (2*n+5+2*t+3*x.1+2),w:=aD s.3 (2*n+5+2*t+3*x.1+2),ok:=bL s.3 (2*n+5+2*t+3*x.1+2) } })))))
theorem J7(t n:Int)(x:HPS)(st:STS)(s:MS)(K:HpO→Prop)(h:(BM t n x st s).run K):cT' 152 [.ptr 0 0,.ptr 2 0] [cE' [.ptr 1 0,.I x.u,.int .u64 x.no,.I x.rounds,.I x.limit,.I 0,.int .u64 x.found,.I x.sh,.I x.kd,.I x.ky,.bool x.p.now,.I x.p.code,.bool x.p.okk,.I x.p.val,.I x.p.addr,.int .u64 x.p.old,.I x.p.nxt,.bool x.p.mark,.I x.p.pops,.O,.O,.O,.O,.O],iP 4 t n st,aZ 3 s,a8 s,iQ st] (bU 4 0 [19,20,21,22,23] [(.cell 1 4,.ints (some .i64))] (vI t n) K):=by
 exact cM' (E:=EH0) (by kernel_rfl) h
def BN(t n:Int)(x:HPS)(st:STS)(s:MS):Tr HpO:=.pre (w1y n t x) (.pre ((lE' s.3∧(0:Int)≤s.4∧s.4≤(4611686018427387904:Int))∧True) (.pre ((t=t∧n=n)∧((!ieq (aD s.3 (2*n+5+2*t+3*x.1)) x.2)=false→(2:Int)≠(3:Int)∧(2:Int)≠(4:Int)∧(2:Int)≠(5:Int)∧(2:Int)≠(7:Int)∧(2:Int)≠(8:Int))∧lE' s.3∧lE' st.3) (.ret {d:=!ieq (aD s.3 (2*n+5+2*t+3*x.1)) x.2,x:= {x with at':=2,ex:=eC,en:=bV,fn:=bQ,cl:=bY,pr:=dD},st:=st,s:= {s with c:=s.4+1,k:=1,a:=2*n+5+2*t+3*x.1,o:=aD s.3 (2*n+5+2*t+3*x.1),w:=aD s.3 (2*n+5+2*t+3*x.1),ok:=bL s.3 (2*n+5+2*t+3*x.1) } })))
theorem J8(t n:Int)(x:HPS)(st:STS)(s:MS)(K:HpO→Prop)(h:(BN t n x st s).run K):cT' 152 [.ptr 0 0,.ptr 2 0] [cE' [.ptr 1 0,.I x.u,.int .u64 x.no,.I x.rounds,.I x.limit,.I 1,.int .u64 x.found,.I x.sh,.I x.kd,.I x.ky,.bool x.p.now,.I x.p.code,.bool x.p.okk,.I x.p.val,.I x.p.addr,.int .u64 x.p.old,.I x.p.nxt,.bool x.p.mark,.I x.p.pops,.O,.O,.O,.O,.O],iP 4 t n st,aZ 3 s,a8 s,iQ st] (bU 4 0 [19,20,21,22,23] [(.cell 1 4,.ints (some .i64))] (vI t n) K):=by
 exact cM' (E:=EH0) (by kernel_rfl) h
abbrev w1u(n:Int)(s:MS)(t:Int)(x:HPS):=aD s.3 (2*n+5+2*t+3*x.1+1)
abbrev w21:=false=false→(5:Int)=(5:Int)
def BO(t n:Int)(x:HPS)(st:STS)(s:MS):Tr HpO:=.pre (w1y n t x) (.pre ((lE' s.3∧(0:Int)≤s.4∧s.4≤(4611686018427387904:Int))∧True) (.pre ((0:Int)≤aD s.3 (2*n+5+2*t+3*x.1+1)∧aD s.3 (2*n+5+2*t+3*x.1+1)≤(18446744073709551615:Int)) (.ite (!ieq (bif iL (w1u n s t x)then 0 else 3) 0) (.pre ((t=t∧n=n)∧(true=false→(2:Int)≠(3:Int)∧(2:Int)≠(4:Int)∧(2:Int)≠(5:Int)∧(2:Int)≠(7:Int)∧(2:Int)≠(8:Int))∧lE' s.3∧lE' st.3) (.ret {d:=true,x:= {x with at':=2,sh:=bif iL (w1u n s t x)then aA (w1u n s t x) 0 3 else 0,kd:=bif iL (w1u n s t x)then aA (w1u n s t x) 3 3 else 0,ky:=bif iL (w1u n s t x)then aA (w1u n s t x) 6 10 else 0,ex:=eC,en:=bV,fn:=bQ,cl:=bY,pr:=dD},st:=st,s:= {s with c:=s.4+1,k:=1,a:=2*n+5+2*t+3*x.1+1,o:=aD s.3 (2*n+5+2*t+3*x.1+1),w:=aD s.3 (2*n+5+2*t+3*x.1+1),ok:=bL s.3 (2*n+5+2*t+3*x.1+1) } })) (.pre True (.ite (!hasB [1] (aA x.6 49 3)) (.pre True (.pre (OF t n x.1 (bif iL (w1u n s t x)then aA (w1u n s t x) 0 3 else 0) (bif iL (w1u n s t x)then aA (w1u n s t x) 3 3 else 0) (bif iL (w1u n s t x)then aA (w1u n s t x) 6 10 else 0) (aA x.6 0 12)∧True) (.pre ((t=t∧n=n)∧t=t∧n=n∧(false=false→(3:Int)=(3:Int))∧lE' s.3∧lE' st.3) (.ret {d:=false,x:= {x with at':=3,sh:=bif iL (w1u n s t x)then aA (w1u n s t x) 0 3 else 0,kd:=bif iL (w1u n s t x)then aA (w1u n s t x) 3 3 else 0,ky:=bif iL (w1u n s t x)then aA (w1u n s t x) 6 10 else 0,ex:=aBc t n x.1 (bif iL (w1u n s t x)then aA (w1u n s t x) 0 3 else 0) (bif iL (w1u n s t x)then aA (w1u n s t x) 3 3 else 0) (bif iL (w1u n s t x)then aA (w1u n s t x) 6 10 else 0) (aA x.6 0 12),en:=bV,fn:=bQ,cl:=bY,pr:=dD},st:=st,s:= {s with c:=s.4+1,k:=1,a:=2*n+5+2*t+3*x.1+1,o:=aD s.3 (2*n+5+2*t+3*x.1+1),w:=aD s.3 (2*n+5+2*t+3*x.1+1),ok:=bL s.3 (2*n+5+2*t+3*x.1+1) } })))) (.pre True (.ite (fK (bif iL (w1u n s t x)then aA (w1u n s t x) 3 3 else 0)) (.ite (ieq st.2 0) (.pre (lE' st.3∧(t=t∧n=n∧lE' st.3)∧True) (.pre ((t=t∧n=n)∧t=t∧n=n∧(false=false→(4:Int)=(4:Int))∧lE' s.3∧lE' st.3) (.ret {d:=false,x:= {x with at':=4,sh:=bif iL (w1u n s t x)then aA (w1u n s t x) 0 3 else 0,kd:=bif iL (w1u n s t x)then aA (w1u n s t x) 3 3 else 0,ky:=bif iL (w1u n s t x)then aA (w1u n s t x) 6 10 else 0,ex:=eC,en:=bV,fn:=bQ,cl:=bY,pr:=dD},st:=st,s:= {s with c:=s.4+1,k:=1,a:=2*n+5+2*t+3*x.1+1,o:=aD s.3 (2*n+5+2*t+3*x.1+1),w:=aD s.3 (2*n+5+2*t+3*x.1+1),ok:=bL s.3 (2*n+5+2*t+3*x.1+1) } }))) (.pre True (.pre (oD t n st.1 (eT (bif iL (w1u n s t x)then aA (w1u n s t x) 0 3 else 0) (bif iL (w1u n s t x)then aA (w1u n s t x) 6 10 else 0)) (lV (bif iL (w1u n s t x)then aA (w1u n s t x) 0 3 else 0) (bif iL (w1u n s t x)then aA (w1u n s t x) 3 3 else 0) (bif iL (w1u n s t x)then aA (w1u n s t x) 6 10 else 0)) x.4∧True) (.pre ((t=t∧n=n)∧t=t∧n=n∧w21∧lE' s.3∧lE' st.3) (.ret {d:=false,x:= {x with at':=5,sh:=bif iL (w1u n s t x)then aA (w1u n s t x) 0 3 else 0,kd:=bif iL (w1u n s t x)then aA (w1u n s t x) 3 3 else 0,ky:=bif iL (w1u n s t x)then aA (w1u n s t x) 6 10 else 0,ex:=eC,en:=bV,fn:=t8 t n st.1 (eT (bif iL (w1u n s t x)then aA (w1u n s t x) 0 3 else 0) (bif iL (w1u n s t x)then aA (w1u n s t x) 6 10 else 0)) (lV (bif iL (w1u n s t x)then aA (w1u n s t x) 0 3 else 0) (bif iL (w1u n s t x)then aA (w1u n s t x) 3 3 else 0) (bif iL (w1u n s t x)then aA (w1u n s t x) 6 10 else 0)) x.4,cl:=bY,pr:=dD},st:=st,s:= {s with c:=s.4+1,k:=1,a:=2*n+5+2*t+3*x.1+1,o:=aD s.3 (2*n+5+2*t+3*x.1+1),w:=aD s.3 (2*n+5+2*t+3*x.1+1),ok:=bL s.3 (2*n+5+2*t+3*x.1+1) } }))))) (.pre True (.pre (oD t n st.1 (eT (bif iL (w1u n s t x)then aA (w1u n s t x) 0 3 else 0) (bif iL (w1u n s t x)then aA (w1u n s t x) 6 10 else 0)) (lV (bif iL (w1u n s t x)then aA (w1u n s t x) 0 3 else 0) (bif iL (w1u n s t x)then aA (w1u n s t x) 3 3 else 0) (bif iL (w1u n s t x)then aA (w1u n s t x) 6 10 else 0)) x.4∧True) (.pre ((t=t∧n=n)∧t=t∧n=n∧w21∧lE' s.3∧lE' st.3) (.ret {d:=false,x:= {x with at':=5,sh:=bif iL (w1u n s t x)then aA (w1u n s t x) 0 3 else 0,kd:=bif iL (w1u n s t x)then aA (w1u n s t x) 3 3 else 0,ky:=bif iL (w1u n s t x)then aA (w1u n s t x) 6 10 else 0,ex:=eC,en:=bV,fn:=t8 t n st.1 (eT (bif iL (w1u n s t x)then aA (w1u n s t x) 0 3 else 0) (bif iL (w1u n s t x)then aA (w1u n s t x) 6 10 else 0)) (lV (bif iL (w1u n s t x)then aA (w1u n s t x) 0 3 else 0) (bif iL (w1u n s t x)then aA (w1u n s t x) 3 3 else 0) (bif iL (w1u n s t x)then aA (w1u n s t x) 6 10 else 0)) x.4,cl:=bY,pr:=dD},st:=st,s:= {s with c:=s.4+1,k:=1,a:=2*n+5+2*t+3*x.1+1,o:=aD s.3 (2*n+5+2*t+3*x.1+1),w:=aD s.3 (2*n+5+2*t+3*x.1+1),ok:=bL s.3 (2*n+5+2*t+3*x.1+1) } })))))))))))
theorem J9(t n:Int)(x:HPS)(st:STS)(s:MS)(K:HpO→Prop)(h:(BO t n x st s).run K):cT' 152 [.ptr 0 0,.ptr 2 0] [cE' [.ptr 1 0,.I x.u,.int .u64 x.no,.I x.rounds,.I x.limit,.I 2,.int .u64 x.found,.I x.sh,.I x.kd,.I x.ky,.bool x.p.now,.I x.p.code,.bool x.p.okk,.I x.p.val,.I x.p.addr,.int .u64 x.p.old,.I x.p.nxt,.bool x.p.mark,.I x.p.pops,.O,.O,.O,.O,.O],iP 4 t n st,aZ 3 s,a8 s,iQ st] (bU 4 0 [19,20,21,22,23] [(.cell 1 4,.ints (some .i64))] (vI t n) K):=by
 exact cM' (E:=EH0) (by kernel_rfl) h
abbrev w1w:=false=false→(0:Int)≠(3:Int)∧(0:Int)≠(4:Int)∧(0:Int)≠(5:Int)∧(0:Int)≠(7:Int)∧(0:Int)≠(8:Int)
def BP(t n:Int)(x:HPS)(st:STS)(s:MS):Tr HpO:=.pre (lE' s.3∧aBg t n x.11 s) (.ite (C2 t n x.11 s).1 (.ite (!ieq (ExO.x (C2 t n x.11 s)).1 0) (.pre (lE' st.3∧1=1∧st.3.length+(1:Nat)≤(4294967296:Nat)) (.pre ((t=t∧n=n)∧w1w∧lE' (ExO.s (C2 t n x.11 s)).3∧st.3.length+(1:Nat)=List.length (st.3++ [(ExO.x (C2 t n x.11 s)).1])) (.ret {d:=false,x:= {x with at':=0,ex:=eC,en:=bV,fn:=bQ,cl:=bY,pr:=dD},st:= {me:=st.1,sp:=st.2,R:=st.3++ [(ExO.x (C2 t n x.11 s)).1] },s:=(C2 t n x.11 s).3}))) (.pre ((t=t∧n=n)∧w1w∧lE' (ExO.s (C2 t n x.11 s)).3∧lE' st.3) (.ret {d:=false,x:= {x with at':=0,ex:=eC,en:=bV,fn:=bQ,cl:=bY,pr:=dD},st:=st,s:=(C2 t n x.11 s).3}))) (.pre ((t=t∧n=n)∧t=t∧n=n∧(false=false→(3:Int)=(3:Int))∧lE' (ExO.s (C2 t n x.11 s)).3∧lE' st.3) (.ret {d:=false,x:= {x with at':=3,ex:=(C2 t n x.11 s).2,en:=bV,fn:=bQ,cl:=bY,pr:=dD},st:=st,s:=(C2 t n x.11 s).3})))
theorem KA(t n:Int)(x:HPS)(st:STS)(s:MS)(K:HpO→Prop)(h:(BP t n x st s).run K):cT' 152 [.ptr 0 0,.ptr 2 0] [cE' [.ptr 1 0,.I x.u,.int .u64 x.no,.I x.rounds,.I x.limit,.I 3,.int .u64 x.found,.I x.sh,.I x.kd,.I x.ky,.bool x.p.now,.I x.p.code,.bool x.p.okk,.I x.p.val,.I x.p.addr,.int .u64 x.p.old,.I x.p.nxt,.bool x.p.mark,.I x.p.pops,.ptr 4 0,.O,.O,.O,.O],iP 5 t n st,aZ 3 s,a8 s,some (.abs (.exec t n x.ex) []),iQ st] (bU 4 0 [19,20,21,22,23] [(.cell 1 4,.ints (some .i64))] (vI t n) K):=by
 exact cM' (E:=EH0) (by kernel_rfl) h
abbrev w1z:=false=false→(6:Int)≠(3:Int)∧(6:Int)≠(4:Int)∧(6:Int)≠(5:Int)∧(6:Int)≠(7:Int)∧(6:Int)≠(8:Int)
def BQ(t n:Int)(x:HPS)(st:STS)(s:MS):Tr HpO:=.pre ((lE' s.3∧lE' st.3∧t=t∧n=n)∧KO t n (HPS.en x) st s) (.ite (enF t n x.12 st s).1 (.ite (EO.e (enF t n x.12 st s)).2 (.pre ((t=t∧n=n)∧w1z∧lE' (EO.s (enF t n x.12 st s)).3∧lE' (EO.st (enF t n x.12 st s)).3) (.ret {d:=false,x:= {x with at':=6,p:= {now:=true,code:=4,okk:=false,val:=0,addr:=0,old:=0,nxt:=0,mark:=false,pops:=0},ex:=eC,en:=bV,fn:=bQ,cl:=bY,pr:=dD},st:=(enF t n x.12 st s).3,s:=(enF t n x.12 st s).4})) (.pre True (.pre (oD t n (EO.st (enF t n x.12 st s)).1 (eT x.7 x.9) (lV x.7 x.8 x.9) x.4∧True) (.pre ((t=t∧n=n)∧t=t∧n=n∧w21∧lE' (EO.s (enF t n x.12 st s)).3∧lE' (EO.st (enF t n x.12 st s)).3) (.ret {d:=false,x:= {x with at':=5,ex:=eC,en:=bV,fn:=t8 t n (EO.st (enF t n x.12 st s)).1 (eT x.7 x.9) (lV x.7 x.8 x.9) x.4,cl:=bY,pr:=dD},st:=(enF t n x.12 st s).3,s:=(enF t n x.12 st s).4}))))) (.pre ((t=t∧n=n)∧t=t∧n=n∧(false=false→(4:Int)=(4:Int))∧lE' (EO.s (enF t n x.12 st s)).3∧lE' (EO.st (enF t n x.12 st s)).3) (.ret {d:=false,x:= {x with at':=4,ex:=eC,en:=(enF t n x.12 st s).2,fn:=bQ,cl:=bY,pr:=dD},st:=(enF t n x.12 st s).3,s:=(enF t n x.12 st s).4})))
theorem KB(t n:Int)(x:HPS)(st:STS)(s:MS)(K:HpO→Prop)(h:(BQ t n x st s).run K):cT' 152 [.ptr 0 0,.ptr 2 0] [cE' [.ptr 1 0,.I x.u,.int .u64 x.no,.I x.rounds,.I x.limit,.I 4,.int .u64 x.found,.I x.sh,.I x.kd,.I x.ky,.bool x.p.now,.I x.p.code,.bool x.p.okk,.I x.p.val,.I x.p.addr,.int .u64 x.p.old,.I x.p.nxt,.bool x.p.mark,.I x.p.pops,.O,.ptr 4 0,.O,.O,.O],iP 5 t n st,aZ 3 s,a8 s,some (.abs (.ensure t n x.en) [1]),iQ st] (bU 4 0 [19,20,21,22,23] [(.cell 1 4,.ints (some .i64))] (vI t n) K):=by
 exact cM' (E:=EH0) (by kernel_rfl) h
abbrev w1x(n:Int)(s:MS)(t:Int)(x:HPS):=FnO.x (aM t n x.13 s)
abbrev w1t(n:Int)(s:MS)(st:STS)(t:Int)(x:HPS):=bH x.7 x.8 x.9 (w1x n s t x).1 (w1x n s t x).2 (w1x n s t x).3 (w1x n s t x).4 st.2
abbrev w20:=false=false→(9:Int)≠(3:Int)∧(9:Int)≠(4:Int)∧(9:Int)≠(5:Int)∧(9:Int)≠(7:Int)∧(9:Int)≠(8:Int)
def BR(t n:Int)(x:HPS)(st:STS)(s:MS):Tr HpO:=.pre (lE' s.3∧JS t n x.13 s) (.ite (aM t n x.13 s).1 (.pre ((lE' st.3∧lE' (w1x n s t x).6∧st.3.length+List.length (w1x n s t x).6≤(4294967296:Nat))∧True) (.pre (uW x.7 x.8 x.9 (w1x n s t x).1 (w1x n s t x).2 (w1x n s t x).3 (w1x n s t x).4 st.2∧True) (.ite (w1x n s t x).7 (.pre ((t=t∧n=n)∧w1w∧lE' (FnO.s (aM t n x.13 s)).3∧st.3.length+List.length (w1x n s t x).6=List.length (st.3++(w1x n s t x).6)) (.ret {d:=false,x:= {x with at':=0,p:=bH x.7 x.8 x.9 (w1x n s t x).1 (w1x n s t x).2 (w1x n s t x).3 (w1x n s t x).4 st.2,ex:=eC,en:=bV,fn:=bQ,cl:=bY,pr:=dD},st:= {me:=st.1,sp:=st.2,R:=st.3++(w1x n s t x).6},s:=(aM t n x.13 s).3})) (.ite (w1t n s st t x).1 (.pre ((t=t∧n=n)∧w1z∧lE' (FnO.s (aM t n x.13 s)).3∧st.3.length+List.length (w1x n s t x).6=List.length (st.3++(w1x n s t x).6)) (.ret {d:=false,x:= {x with at':=6,p:=bH x.7 x.8 x.9 (w1x n s t x).1 (w1x n s t x).2 (w1x n s t x).3 (w1x n s t x).4 st.2,ex:=eC,en:=bV,fn:=bQ,cl:=bY,pr:=dD},st:= {me:=st.1,sp:=st.2,R:=st.3++(w1x n s t x).6},s:=(aM t n x.13 s).3})) (.pre (nU (w1t n s st t x).1 (w1t n s st t x).2 (w1t n s st t x).3 (w1t n s st t x).4 (w1t n s st t x).5 (w1t n s st t x).6 (w1t n s st t x).7 (w1t n s st t x).8 (w1t n s st t x).9) (.ite (yI (w1t n s st t x).1 (w1t n s st t x).2 (w1t n s st t x).3 (w1t n s st t x).4 (w1t n s st t x).5 (w1t n s st t x).6 (w1t n s st t x).7 (w1t n s st t x).8 (w1t n s st t x).9) (.pre (pH t n (w1t n s st t x).5∧True) (.pre ((t=t∧n=n)∧t=t∧n=n∧(false=false→(7:Int)=(7:Int))∧lE' (FnO.s (aM t n x.13 s)).3∧st.3.length+List.length (w1x n s t x).6=List.length (st.3++(w1x n s t x).6)) (.ret {d:=false,x:= {x with at':=7,p:=bH x.7 x.8 x.9 (w1x n s t x).1 (w1x n s t x).2 (w1x n s t x).3 (w1x n s t x).4 st.2,ex:=eC,en:=bV,fn:=bQ,cl:=xO t n (w1t n s st t x).5,pr:=dD},st:= {me:=st.1,sp:=st.2,R:=st.3++(w1x n s t x).6},s:=(aM t n x.13 s).3}))) (.pre True (.ite (fK x.8) (.pre ((st.3.length+List.length (w1x n s t x).6=List.length (st.3++(w1x n s t x).6)∧CI t n x.9 (w1x n s t x).3 {me:=st.1,sp:=st.2,R:=st.3++(w1x n s t x).6})∧True) (.pre ((t=t∧n=n)∧t=t∧n=n∧(false=false→(8:Int)=(8:Int))∧lE' (FnO.s (aM t n x.13 s)).3∧lE' (Prod.snd (o9 t n x.9 (w1x n s t x).3 {me:=st.1,sp:=st.2,R:=st.3++(w1x n s t x).6})).3) (.ret {d:=false,x:= {x with at':=8,p:=bH x.7 x.8 x.9 (w1x n s t x).1 (w1x n s t x).2 (w1x n s t x).3 (w1x n s t x).4 st.2,ex:=eC,en:=bV,fn:=bQ,cl:=bY,pr:=(o9 t n x.9 (w1x n s t x).3 {me:=st.1,sp:=st.2,R:=st.3++(w1x n s t x).6}).1},st:=(o9 t n x.9 (w1x n s t x).3 {me:=st.1,sp:=st.2,R:=st.3++(w1x n s t x).6}).2,s:=(aM t n x.13 s).3}))) (.pre ((t=t∧n=n)∧w20∧lE' (FnO.s (aM t n x.13 s)).3∧st.3.length+List.length (w1x n s t x).6=List.length (st.3++(w1x n s t x).6)) (.ret {d:=false,x:= {x with at':=9,p:=bH x.7 x.8 x.9 (w1x n s t x).1 (w1x n s t x).2 (w1x n s t x).3 (w1x n s t x).4 st.2,ex:=eC,en:=bV,fn:=bQ,cl:=bY,pr:=dD},st:= {me:=st.1,sp:=st.2,R:=st.3++(w1x n s t x).6},s:=(aM t n x.13 s).3})))))))))) (.pre ((t=t∧n=n)∧t=t∧n=n∧w21∧lE' (FnO.s (aM t n x.13 s)).3∧lE' st.3) (.ret {d:=false,x:= {x with at':=5,ex:=eC,en:=bV,fn:=(aM t n x.13 s).2,cl:=bY,pr:=dD},st:=st,s:=(aM t n x.13 s).3})))
theorem KC(t n:Int)(x:HPS)(st:STS)(s:MS)(K:HpO→Prop)(h:(BR t n x st s).run K):cT' 152 [.ptr 0 0,.ptr 2 0] [cE' [.ptr 1 0,.I x.u,.int .u64 x.no,.I x.rounds,.I x.limit,.I 5,.int .u64 x.found,.I x.sh,.I x.kd,.I x.ky,.bool x.p.now,.I x.p.code,.bool x.p.okk,.I x.p.val,.I x.p.addr,.int .u64 x.p.old,.I x.p.nxt,.bool x.p.mark,.I x.p.pops,.O,.O,.ptr 4 0,.O,.O],iP 5 t n st,aZ 3 s,a8 s,some (.abs (.find t n x.fn) []),iQ st] (bU 4 0 [19,20,21,22,23] [(.cell 1 4,.ints (some .i64))] (vI t n) K):=by
 exact cM' (E:=EH0) (by kernel_rfl) h
def BS(t n:Int)(x:HPS)(st:STS)(s:MS):Tr HpO:=.pre True (.pre True (.pre True (.pre (w1y n t x) (.pre ((lE' s.3∧(0:Int)≤s.4∧s.4≤(4611686018427387904:Int))∧True) (.pre ((t=t∧n=n)∧w1w∧lE' (bif aT s.3 (2*n+5+2*t+3*x.1+2) x.6 then aS s.3 (2*n+5+2*t+3*x.1+2) (bif dOk (aA x.6 0 12) 0 0 (bif ieq (HPS.p x).2 4 then 1 else 0) 5 (HPS.p x).4 then cD (aA x.6 0 12) 0 0 (bif ieq (HPS.p x).2 4 then 1 else 0) (HPS.p x).3 5 (HPS.p x).4 else 0)else s.3)∧lE' st.3) (.ret {d:=false,x:= {x with at':=0,ex:=eC,en:=bV,fn:=bQ,cl:=bY,pr:=dD},st:=st,s:= {t:=s.1,n:=s.2,xs:=bif aT s.3 (2*n+5+2*t+3*x.1+2) x.6 then aS s.3 (2*n+5+2*t+3*x.1+2) (bif dOk (aA x.6 0 12) 0 0 (bif ieq (HPS.p x).2 4 then 1 else 0) 5 (HPS.p x).4 then cD (aA x.6 0 12) 0 0 (bif ieq (HPS.p x).2 4 then 1 else 0) (HPS.p x).3 5 (HPS.p x).4 else 0)else s.3,c:=s.4+1,k:=3,a:=2*n+5+2*t+3*x.1+2,o:=aD s.3 (2*n+5+2*t+3*x.1+2),w:=bif bL s.3 (2*n+5+2*t+3*x.1+2)then bif dOk (aA x.6 0 12) 0 0 (bif ieq (HPS.p x).2 4 then 1 else 0) 5 (HPS.p x).4 then cD (aA x.6 0 12) 0 0 (bif ieq (HPS.p x).2 4 then 1 else 0) (HPS.p x).3 5 (HPS.p x).4 else 0 else 0,ok:=aT s.3 (2*n+5+2*t+3*x.1+2) x.6} }))))))
theorem KD(t n:Int)(x:HPS)(st:STS)(s:MS)(K:HpO→Prop)(h:(BS t n x st s).run K):cT' 152 [.ptr 0 0,.ptr 2 0] [cE' [.ptr 1 0,.I x.u,.int .u64 x.no,.I x.rounds,.I x.limit,.I 6,.int .u64 x.found,.I x.sh,.I x.kd,.I x.ky,.bool x.p.now,.I x.p.code,.bool x.p.okk,.I x.p.val,.I x.p.addr,.int .u64 x.p.old,.I x.p.nxt,.bool x.p.mark,.I x.p.pops,.O,.O,.O,.O,.O],iP 4 t n st,aZ 3 s,a8 s,iQ st] (bU 4 0 [19,20,21,22,23] [(.cell 1 4,.ints (some .i64))] (vI t n) K):=by
 exact cM' (E:=EH0) (by kernel_rfl) h
def BT(t n:Int)(x:HPS)(st:STS)(s:MS):Tr HpO:=.pre (lE' s.3∧MN t n x.14 s) (.ite (oC t n x.14 s).1 (.pre ((t=t∧n=n)∧w1w∧lE' (ClO.s (oC t n x.14 s)).3∧lE' st.3) (.ret {d:=false,x:= {x with at':=0,ex:=eC,en:=bV,fn:=bQ,cl:=bY,pr:=dD},st:=st,s:=(oC t n x.14 s).3})) (.pre ((t=t∧n=n)∧t=t∧n=n∧(false=false→(7:Int)=(7:Int))∧lE' (ClO.s (oC t n x.14 s)).3∧lE' st.3) (.ret {d:=false,x:= {x with at':=7,ex:=eC,en:=bV,fn:=bQ,cl:=(oC t n x.14 s).2,pr:=dD},st:=st,s:=(oC t n x.14 s).3})))
theorem KE(t n:Int)(x:HPS)(st:STS)(s:MS)(K:HpO→Prop)(h:(BT t n x st s).run K):cT' 152 [.ptr 0 0,.ptr 2 0] [cE' [.ptr 1 0,.I x.u,.int .u64 x.no,.I x.rounds,.I x.limit,.I 7,.int .u64 x.found,.I x.sh,.I x.kd,.I x.ky,.bool x.p.now,.I x.p.code,.bool x.p.okk,.I x.p.val,.I x.p.addr,.int .u64 x.p.old,.I x.p.nxt,.bool x.p.mark,.I x.p.pops,.O,.O,.O,.ptr 4 0,.O],iP 5 t n st,aZ 3 s,a8 s,some (.abs (.clear t n x.cl) []),iQ st] (bU 4 0 [19,20,21,22,23] [(.cell 1 4,.ints (some .i64))] (vI t n) K):=by
 exact cM' (E:=EH0) (by kernel_rfl) h
def BU(t n:Int)(x:HPS)(st:STS)(s:MS):Tr HpO:=.pre ((lE' s.3∧lE' st.3∧t=t∧n=n)∧P2 t n x.15 st s) (.ite (prF t n x.15 st s).1 (.pre ((t=t∧n=n)∧w20∧lE' (PrO.s (prF t n x.15 st s)).3∧lE' (PrO.st (prF t n x.15 st s)).3) (.ret {d:=false,x:= {x with at':=9,ex:=eC,en:=bV,fn:=bQ,cl:=bY,pr:=dD},st:=(prF t n x.15 st s).3,s:=(prF t n x.15 st s).4})) (.pre ((t=t∧n=n)∧t=t∧n=n∧(false=false→(8:Int)=(8:Int))∧lE' (PrO.s (prF t n x.15 st s)).3∧lE' (PrO.st (prF t n x.15 st s)).3) (.ret {d:=false,x:= {x with at':=8,ex:=eC,en:=bV,fn:=bQ,cl:=bY,pr:=(prF t n x.15 st s).2},st:=(prF t n x.15 st s).3,s:=(prF t n x.15 st s).4})))
theorem KF(t n:Int)(x:HPS)(st:STS)(s:MS)(K:HpO→Prop)(h:(BU t n x st s).run K):cT' 152 [.ptr 0 0,.ptr 2 0] [cE' [.ptr 1 0,.I x.u,.int .u64 x.no,.I x.rounds,.I x.limit,.I 8,.int .u64 x.found,.I x.sh,.I x.kd,.I x.ky,.bool x.p.now,.I x.p.code,.bool x.p.okk,.I x.p.val,.I x.p.addr,.int .u64 x.p.old,.I x.p.nxt,.bool x.p.mark,.I x.p.pops,.O,.O,.O,.O,.ptr 4 0],iP 5 t n st,aZ 3 s,a8 s,some (.abs (.prepare t n x.pr) [1]),iQ st] (bU 4 0 [19,20,21,22,23] [(.cell 1 4,.ints (some .i64))] (vI t n) K):=by
 exact cM' (E:=EH0) (by kernel_rfl) h
abbrev w1v(x:HPS):=fL (HPS.p x).1 (HPS.p x).2 (HPS.p x).3 (HPS.p x).4 (HPS.p x).5 (HPS.p x).6 (HPS.p x).7 (HPS.p x).8 (HPS.p x).9 (aA x.6 0 12)
def BV(t n:Int)(x:HPS)(st:STS)(s:MS):Tr HpO:=.pre True (.pre (yJ (HPS.p x).1 (HPS.p x).2 (HPS.p x).3 (HPS.p x).4 (HPS.p x).5 (HPS.p x).6 (HPS.p x).7 (HPS.p x).8 (HPS.p x).9 (aA x.6 0 12)∧True) (.pre (w1y n t x) (.pre ((lE' s.3∧(0:Int)≤s.4∧s.4≤(4611686018427387904:Int))∧True) (.ite (aT s.3 (2*n+5+2*t+3*x.1+2) x.6) (.pre True (.ite (fK x.8) (.pre ((t=t∧n=n)∧w1w∧lE' (bif aT s.3 (2*n+5+2*t+3*x.1+2) x.6 then aS s.3 (2*n+5+2*t+3*x.1+2) (w1v x).1 else s.3)∧lE' st.3) (.ret {d:=false,x:= {x with at':=0,ex:=eC,en:=bV,fn:=bQ,cl:=bY,pr:=dD},st:= {me:=st.1,sp:=0,R:=st.3},s:= {t:=s.1,n:=s.2,xs:=bif aT s.3 (2*n+5+2*t+3*x.1+2) x.6 then aS s.3 (2*n+5+2*t+3*x.1+2) (w1v x).1 else s.3,c:=s.4+1,k:=3,a:=2*n+5+2*t+3*x.1+2,o:=aD s.3 (2*n+5+2*t+3*x.1+2),w:=bif bL s.3 (2*n+5+2*t+3*x.1+2)then(w1v x).1 else 0,ok:=aT s.3 (2*n+5+2*t+3*x.1+2) x.6} })) (.pre ((t=t∧n=n)∧w1w∧lE' (bif aT s.3 (2*n+5+2*t+3*x.1+2) x.6 then aS s.3 (2*n+5+2*t+3*x.1+2) (w1v x).1 else s.3)∧lE' st.3) (.ret {d:=false,x:= {x with at':=0,ex:=eC,en:=bV,fn:=bQ,cl:=bY,pr:=dD},st:=st,s:= {t:=s.1,n:=s.2,xs:=bif aT s.3 (2*n+5+2*t+3*x.1+2) x.6 then aS s.3 (2*n+5+2*t+3*x.1+2) (w1v x).1 else s.3,c:=s.4+1,k:=3,a:=2*n+5+2*t+3*x.1+2,o:=aD s.3 (2*n+5+2*t+3*x.1+2),w:=bif bL s.3 (2*n+5+2*t+3*x.1+2)then(w1v x).1 else 0,ok:=aT s.3 (2*n+5+2*t+3*x.1+2) x.6} })))) (.pre ((t=t∧n=n)∧w1w∧lE' (bif aT s.3 (2*n+5+2*t+3*x.1+2) x.6 then aS s.3 (2*n+5+2*t+3*x.1+2) (w1v x).1 else s.3)∧lE' st.3) (.ret {d:=false,x:= {x with at':=0,ex:=eC,en:=bV,fn:=bQ,cl:=bY,pr:=dD},st:=st,s:= {t:=s.1,n:=s.2,xs:=bif aT s.3 (2*n+5+2*t+3*x.1+2) x.6 then aS s.3 (2*n+5+2*t+3*x.1+2) (w1v x).1 else s.3,c:=s.4+1,k:=3,a:=2*n+5+2*t+3*x.1+2,o:=aD s.3 (2*n+5+2*t+3*x.1+2),w:=bif bL s.3 (2*n+5+2*t+3*x.1+2)then(w1v x).1 else 0,ok:=aT s.3 (2*n+5+2*t+3*x.1+2) x.6} }))))))
theorem KG(t n:Int)(x:HPS)(st:STS)(s:MS)(K:HpO→Prop)(h:(BV t n x st s).run K):cT' 152 [.ptr 0 0,.ptr 2 0] [cE' [.ptr 1 0,.I x.u,.int .u64 x.no,.I x.rounds,.I x.limit,.I 9,.int .u64 x.found,.I x.sh,.I x.kd,.I x.ky,.bool x.p.now,.I x.p.code,.bool x.p.okk,.I x.p.val,.I x.p.addr,.int .u64 x.p.old,.I x.p.nxt,.bool x.p.mark,.I x.p.pops,.O,.O,.O,.O,.O],iP 4 t n st,aZ 3 s,a8 s,iQ st] (bU 4 0 [19,20,21,22,23] [(.cell 1 4,.ints (some .i64))] (vI t n) K):=by
 exact cM' (E:=EH0) (by kernel_rfl) h
def hpT(t n:Int)(x:HPS)(st:STS)(s:MS):Tr HpO:=
 bif ieq x.at' 0 then BM t n x st s else
 bif ieq x.at' 1 then BN t n x st s else
 bif ieq x.at' 2 then BO t n x st s else
 bif ieq x.at' 3 then BP t n x st s else
 bif ieq x.at' 4 then BQ t n x st s else
 bif ieq x.at' 5 then BR t n x st s else
 bif ieq x.at' 6 then BS t n x st s else
 bif ieq x.at' 7 then BT t n x st s else
 bif ieq x.at' 8 then BU t n x st s else
 bif ieq x.at' 9 then BV t n x st s else .pre False (.ret default)
def gC(t n:Int)(x:HPS)(st:STS)(s:MS):HpO:=(hpT t n x st s).val
def O2(t n:Int)(x:HPS)(st:STS)(s:MS):Prop:=(hpT t n x st s).ok
theorem HW(t n:Int)(x:HPS)(st:STS)(s:MS)(K:AVal→aC Ob→Prop)(h:(hpT t n x st s).run (fun y=>(HpO.fin t n y).run K)):cT' 152 [.ptr 0 0,.ptr 2 0] (hpH t n x st s) K:=by
 unfold hpT at h
 by_cases e:x.at'=0
 ·rw [e]at h;have h:(BM t n x st s).run _:=h;refine aHb (root:=0) (pos:=[19,20,21,22,23]) (cs:=[(.cell 1 4,.ints (some .i64))]) (parse:=vI t n) (fin:=HpO.fin t n) kX ((aR.unpack (.help t n x) 0 1 (mU t n x) [1] rfl (congrArg (Prod.mk 1) (jS ⟨(by omega),(by omega),(by omega),(by omega),(by omega)⟩)) (by kernel_rfl) rfl).trans (aR.unpack (.store t n st) 1 0 (dN t n st) [] rfl rfl rfl rfl)) ?_
  have q:=J7 t n x st s _ h;rw [←e]at q;exact q
 rw [bF e]at h
 by_cases e:x.at'=1
 ·rw [e]at h;have h:(BN t n x st s).run _:=h;refine aHb (root:=0) (pos:=[19,20,21,22,23]) (cs:=[(.cell 1 4,.ints (some .i64))]) (parse:=vI t n) (fin:=HpO.fin t n) kX ((aR.unpack (.help t n x) 0 1 (mU t n x) [1] rfl (congrArg (Prod.mk 1) (jS ⟨(by omega),(by omega),(by omega),(by omega),(by omega)⟩)) (by kernel_rfl) rfl).trans (aR.unpack (.store t n st) 1 0 (dN t n st) [] rfl rfl rfl rfl)) ?_
  have q:=J8 t n x st s _ h;rw [←e]at q;exact q
 rw [bF e]at h
 by_cases e:x.at'=2
 ·rw [e]at h;have h:(BO t n x st s).run _:=h;refine aHb (root:=0) (pos:=[19,20,21,22,23]) (cs:=[(.cell 1 4,.ints (some .i64))]) (parse:=vI t n) (fin:=HpO.fin t n) kX ((aR.unpack (.help t n x) 0 1 (mU t n x) [1] rfl (congrArg (Prod.mk 1) (jS ⟨(by omega),(by omega),(by omega),(by omega),(by omega)⟩)) (by kernel_rfl) rfl).trans (aR.unpack (.store t n st) 1 0 (dN t n st) [] rfl rfl rfl rfl)) ?_
  have q:=J9 t n x st s _ h;rw [←e]at q;exact q
 rw [bF e]at h
 by_cases e:x.at'=3
 ·rw [e]at h;have h:(BP t n x st s).run _:=h;refine aHb (root:=0) (pos:=[19,20,21,22,23]) (cs:=[(.cell 1 4,.ints (some .i64))]) (parse:=vI t n) (fin:=HpO.fin t n) kX ((aR.unpack (.help t n x) 0 1 (uF t n x) [1] rfl (congrArg (Prod.mk 1) (HR e)) (by kernel_rfl) rfl).trans (aR.unpack (.store t n st) 1 0 (dN t n st) [] rfl rfl rfl rfl)) ?_
  have q:=KA t n x st s _ h;rw [←e]at q;exact q
 rw [bF e]at h
 by_cases e:x.at'=4
 ·rw [e]at h;have h:(BQ t n x st s).run _:=h;refine aHb (root:=0) (pos:=[19,20,21,22,23]) (cs:=[(.cell 1 4,.ints (some .i64))]) (parse:=vI t n) (fin:=HpO.fin t n) kX ((aR.unpack (.help t n x) 0 1 (uE t n x) [1] rfl (congrArg (Prod.mk 1) (HS e)) (by kernel_rfl) rfl).trans (aR.unpack (.store t n st) 1 0 (dN t n st) [] rfl rfl rfl rfl)) ?_
  have q:=KB t n x st s _ h;rw [←e]at q;exact q
 rw [bF e]at h
 by_cases e:x.at'=5
 ·rw [e]at h;have h:(BR t n x st s).run _:=h;refine aHb (root:=0) (pos:=[19,20,21,22,23]) (cs:=[(.cell 1 4,.ints (some .i64))]) (parse:=vI t n) (fin:=HpO.fin t n) kX ((aR.unpack (.help t n x) 0 1 (uG t n x) [1] rfl (congrArg (Prod.mk 1) (HT e)) (by kernel_rfl) rfl).trans (aR.unpack (.store t n st) 1 0 (dN t n st) [] rfl rfl rfl rfl)) ?_
  have q:=KC t n x st s _ h;rw [←e]at q;exact q
 rw [bF e]at h
 by_cases e:x.at'=6
 ·rw [e]at h;have h:(BS t n x st s).run _:=h;refine aHb (root:=0) (pos:=[19,20,21,22,23]) (cs:=[(.cell 1 4,.ints (some .i64))]) (parse:=vI t n) (fin:=HpO.fin t n) kX ((aR.unpack (.help t n x) 0 1 (mU t n x) [1] rfl (congrArg (Prod.mk 1) (jS ⟨(by omega),(by omega),(by omega),(by omega),(by omega)⟩)) (by kernel_rfl) rfl).trans (aR.unpack (.store t n st) 1 0 (dN t n st) [] rfl rfl rfl rfl)) ?_
  have q:=KD t n x st s _ h;rw [←e]at q;exact q
 rw [bF e]at h
 by_cases e:x.at'=7
 ·rw [e]at h;have h:(BT t n x st s).run _:=h;refine aHb (root:=0) (pos:=[19,20,21,22,23]) (cs:=[(.cell 1 4,.ints (some .i64))]) (parse:=vI t n) (fin:=HpO.fin t n) kX ((aR.unpack (.help t n x) 0 1 (uD t n x) [1] rfl (congrArg (Prod.mk 1) (HU e)) (by kernel_rfl) rfl).trans (aR.unpack (.store t n st) 1 0 (dN t n st) [] rfl rfl rfl rfl)) ?_
  have q:=KE t n x st s _ h;rw [←e]at q;exact q
 rw [bF e]at h
 by_cases e:x.at'=8
 ·rw [e]at h;have h:(BU t n x st s).run _:=h;refine aHb (root:=0) (pos:=[19,20,21,22,23]) (cs:=[(.cell 1 4,.ints (some .i64))]) (parse:=vI t n) (fin:=HpO.fin t n) kX ((aR.unpack (.help t n x) 0 1 (uH t n x) [1] rfl (congrArg (Prod.mk 1) (HV e)) (by kernel_rfl) rfl).trans (aR.unpack (.store t n st) 1 0 (dN t n st) [] rfl rfl rfl rfl)) ?_
  have q:=KF t n x st s _ h;rw [←e]at q;exact q
 rw [bF e]at h
 by_cases e:x.at'=9
 ·rw [e]at h;have h:(BV t n x st s).run _:=h;refine aHb (root:=0) (pos:=[19,20,21,22,23]) (cs:=[(.cell 1 4,.ints (some .i64))]) (parse:=vI t n) (fin:=HpO.fin t n) kX ((aR.unpack (.help t n x) 0 1 (mU t n x) [1] rfl (congrArg (Prod.mk 1) (jS ⟨(by omega),(by omega),(by omega),(by omega),(by omega)⟩)) (by kernel_rfl) rfl).trans (aR.unpack (.store t n st) 1 0 (dN t n st) [] rfl rfl rfl rfl)) ?_
  have q:=KG t n x st s _ h;rw [←e]at q;exact q
 rw [bF e]at h;exact h.1.elim
noncomputable def hpSA:aI Ob:=fun args h=>match args,h with
 | [.ptr 0 0,.ptr 2 0],[some (.abs (.help t n x) [1]),some (.abs (.store t2 n2 st) []),e3,e4]=>(match cH 3 [e3,e4]with
   | some (l,s)=>some (.pre ((l=s.xs.length∧t2=t∧n2=n)∧O2 t n x st s) (HpO.fin t n (gC t n x st s)))
   | none=>none)
 | _,_=>none
theorem aCa:sT' 152 hpSA:=by
 intro args h o ho K hK;unfold hpSA at ho;split at ho
 case h_2=>cases ho
 split at ho<;>cases ho
 rename_i hm;obtain⟨⟨⟨hl,rfl,rfl⟩,ok⟩,hK⟩:=hK;cases aY hm hl;exact HW _ _ _ _ _ K (aHe ok hK)
def HpO.finB(t n:Int)(y:HpO):Out Ob:=.ite y.d (.ret (.bool true) ([cE' [.ptr 1 0,.I y.x.u,.int .u64 y.x.no,.I y.x.rounds,.I y.x.limit,.I y.x.at',.int .u64 y.x.found,.I y.x.sh,.I y.x.kd,.I y.x.ky,.bool y.x.p.now,.I y.x.p.code,.bool y.x.p.okk,.I y.x.p.val,.I y.x.p.addr,.int .u64 y.x.p.old,.I y.x.p.nxt,.bool y.x.p.mark,.I y.x.p.pops,.O,.O,.O,.O,.O],iP 5 t n y.st,none,aZ 4 y.s,a8 y.s,iQ y.st])) (.ret (.bool false) [some (.abs (.help t n y.x) [1]),iP 5 t n y.st,none,aZ 4 y.s,a8 y.s,iQ y.st])
noncomputable def hpSB:aI Ob:=fun args h=>match args,h with
 | [.ptr 0 0,.ptr 3 0],[some (.abs (.help t n x) [1]),e1,e2,e3,e4]=>(match k9 2 [e1,e2],cH 4 [e3,e4]with
   | some (l2,t2,n2,st),some (l,s)=>some (.pre ((l=s.xs.length∧l2=st.R.length∧t2=t∧n2=n)∧O2 t n x st s) (HpO.finB t n (gC t n x st s)))
   | _,_=>none)
 | _,_=>none
theorem aCb:sT' 152 hpSB:=by
 intro args h o ho K hK;unfold hpSB at ho;split at ho
 case h_2=>cases ho
 split at ho<;>cases ho
 rename_i hs hm;obtain⟨⟨⟨hl,hl2,rfl,rfl⟩,ok⟩,hK⟩:=hK;cases aY hm hl;cases b8 hs hl2;exact jG (fun ι hι=>by simp [aH.ren,aHo,AVal.ren,hι]) (fun ι hι=>by simp [aH.ren,hι]) (fun K hK=>HW _ _ _ _ _ K (aHe ok hK)) K hK
noncomputable def hpS:aI Ob:=aI.or hpSA hpSB
theorem aEL:sT' 152 hpS:=aHA aCa aCb
def aB1(t n:Int)(v:AVal)(g:aC Ob):Option (Prop×(HPS×STS)):=match v,g with
 | .ptr 2 0,[e1,e2,some (.cells [.ptr 0 0,.int .i64 u,.int .u64 no,.int .i64 rounds,.int .i64 limit,.int .i64 at',.int .u64 found,.int .i64 sh,.int .i64 kd,.int .i64 ky,.bool p_now,.int .i64 p_code,.bool p_okk,.int .i64 p_val,.int .i64 p_addr,.int .u64 p_old,.int .i64 p_nxt,.bool p_mark,.int .i64 p_pops,.O,.O,.O,.O,.O])]=>(match k9 1 [e1,e2]with
   | some (l2,t2,n2,st)=>some ((t2=t∧n2=n∧l2=st.R.length)∧(at'≠3∧at'≠4∧at'≠5∧at'≠7∧at'≠8),⟨(⟨u,no,rounds,limit,at',found,sh,kd,ky,⟨p_now,p_code,p_okk,p_val,p_addr,p_old,p_nxt,p_mark,p_pops⟩,eC,bV,bQ,⟨0,0,0,0⟩,⟨0,0,0,false⟩⟩:HPS),st⟩)
   | none=>none)
 | _,_=>none
abbrev VS(t n:Int)(y:(HPS×STS)):aC Ob:=[iP 1 t n y.2,iQ y.2,some (.abs (.help t n y.1) [0])]
theorem VT{t n:Int} :bM (obI tbl) 2 (aB1 t n) (fun y=>.ret (.ptr 2 0) (VS t n y)):=by
 intro v g p x hp hq K hK;unfold aB1 at hp;split at hp
 case h_2=>cases hp
 rename_i e1 e2 u no rounds limit at' found sh kd ky p_now p_code p_okk p_val p_addr p_old p_nxt p_mark p_pops;split at hp
 case h_2=>cases hp
 rename_i l2 t2 n2 st hs;cases hp;obtain⟨⟨rfl,rfl,hl2⟩,hat⟩:=hq;cases b8 hs hl2;exact let X0:HPS:=⟨u,no,rounds,limit,at',found,sh,kd,ky,⟨p_now,p_code,p_okk,p_val,p_addr,p_old,p_nxt,p_mark,p_pops⟩,eC,bV,bQ,⟨0,0,0,0⟩,⟨0,0,0,false⟩⟩;⟨⟨_,_,aF.pack (VS t2 n2 (X0,st)) (.help t2 n2 X0) 2 1 (mU t2 n2 X0) [0] (by kernel_rfl) rfl (congrArg (Prod.mk 1) (jS hat)) (by kernel_rfl),hK⟩⟩
def J6(t n:Int)(u no lim:Int)(st:STS):Tr (HPS×STS):=.pre ((t=t∧n=n∧lE' st.3)∧(0:Int)≠(3:Int)∧(0:Int)≠(4:Int)∧(0:Int)≠(5:Int)∧(0:Int)≠(7:Int)∧(0:Int)≠(8:Int)) (.ret ({u:=u,no:=no,rounds:=0,limit:=lim,at':=0,found:=0,sh:=0,kd:=0,ky:=0,p:=aDM,ex:=eC,en:=bV,fn:=bQ,cl:=bY,pr:=dD},st))
def vQ(t n:Int)(u no lim:Int)(st:STS):(HPS×STS):=(J6 t n u no lim st).val
def BL(t n:Int)(u no lim:Int)(st:STS):Prop:=(J6 t n u no lim st).ok
def hpNS:aI Ob:=fun args h=>match args,h with
 | [.ptr 0 0,.int .i64 u,.int .u64 no,.int .i64 lim],[e1,e2]=>(match k9 1 [e1,e2]with
   | some (l2,t,n,st)=>some (.pre (l2=st.R.length∧BL t n u no lim st) (.ret (.ptr 2 0) (VS t n (vQ t n u no lim st))))
   | none=>none)
 | _,_=>none
theorem aB2:sT' 159 hpNS:=by
 intro args h o ho K hK;unfold hpNS at ho;split at ho
 case h_2=>cases ho
 rename_i u no lim e1 e2;split at ho<;>cases ho
 rename_i l2 t n st hs;obtain⟨⟨hl2,ok⟩,hK⟩:=hK;cases b8 hs hl2;refine aHm (root:=2) (pos:=[19,20,21,22,23]) (cs:=[]) (parse:=aB1 t n) VT ?_;exact cM' (E:=EH0) (q:=(J6 t n u no lim st).run (fun y=>(Out.ret (.ptr 2 0) (VS t n y)).run K)) (by kernel_rfl) (aHe ok hK)
noncomputable def EH:=((EH0.addS 152 hpS aEL).addS 159 hpNS aB2)
end Go.Sh
