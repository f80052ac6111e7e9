import Derived.Test.YtedeloeobocpiaaGreatZM42toGX
set_option linter.all false
set_option maxHeartbeats 8000000
namespace Go.Sh
open Go Go.Proofs
variable [Con]
structure ExO where
 d:Bool
 x:EXS
 s:MS
instance:Inhabited ExO:=⟨⟨false,cN,⟨0,0,[],0,0,0,0,0,false⟩⟩⟩
instance:Inhabited EXS:=⟨cN⟩
abbrev exH(t n:Int)(x:EXS)(s:MS):aD Ob:=[some (.abs (.exec t n x) []),a8 2 s,a9 s]
abbrev exD(t n:Int)(x:EXS)(s:MS):aD Ob:=[some (.cells [.int .i64 t,.int .i64 n,.int .i64 x.popped,.int .i64 x.gave,.int .i64 x.u,.int .i64 x.sh,.int .i64 x.kd,.int .i64 x.ky,.bool x.only,.int .i64 x.att,.int .i64 x.at',.int .u64 x.found,.int .u64 x.word]),a8 2 s,a9 s]
def ExO.fin(t n:Int)(y:ExO):Out Ob:=.ite y.d (.ret (.bool true) (exD t n y.x y.s)) (.ret (.bool false) (exH t n y.x y.s))
def YS(t n:Int)(v:AVal)(g:aD Ob):Option (Prop×ExO):=match v,g with
 | .bool d,[some (.cells [.int .i64 t1,.int .i64 n1,.int .i64 popped,.int .i64 gave,.int .i64 u,.int .i64 sh,.int .i64 kd,.int .i64 ky,.bool only,.int .i64 att,.int .i64 at',.int .u64 found,.int .u64 word]),e1,e2]=>(match cW 2 [e1,e2]with
   | some (l,s)=>some ((t1=t∧n1=n)∧l=s.xs.length,⟨d,⟨popped,gave,u,sh,kd,ky,only,att,at',found,word⟩,s⟩)
   | none=>none)
 | _,_=>none
def vT(t n:Int)(v:AVal)(g:aD Ob):Option (Prop×ExO):=YS t n v g
theorem SM{t n:Int} :cA (obI tbl) 3 (YS t n) (ExO.fin t n):=by
 intro v g p x hp hq K hK
 unfold YS at hp
 split at hp
 case h_2=>cases hp
 rename_i d t1 n1 popped gave u sh kd ky only att at' found word e1 e2
 split at hp
 case h_2=>cases hp
 rename_i l s hm
 simp only [sI',pI']at hp
 obtain⟨rfl,rfl⟩:=hp
 obtain⟨⟨rfl,rfl⟩,hl⟩:=hq
 have hh:=bA hm hl
 cases hh
 refine qQ hK (fun h=>?_) (fun h=>?_)
 ·exact⟨⟨_,_,aF.refl _ _ _,h⟩⟩
 ·exact⟨⟨_,_,(aF.pack (exH t1 n1 (⟨popped,gave,u,sh,kd,ky,only,att,at',found,word⟩:EXS) s) (.exec t1 n1 (⟨popped,gave,u,sh,kd,ky,only,att,at',found,word⟩:EXS)) 0 0 (gJ t1 n1 (⟨popped,gave,u,sh,kd,ky,only,att,at',found,word⟩:EXS)) [] (by kernel_rfl) rfl (congrArg (Prod.mk 0) rfl) (by kernel_rfl)),h⟩⟩
theorem kG{t n:Int} :cA (obI tbl) 3 (vT t n) (ExO.fin t n):=by
 intro v g p x hp hq K hK
 unfold vT at hp
 exact SM v g p x hp hq K hK
def BN(t n:Int)(x:EXS)(s:MS):Tr ExO:=.pre True (.pre True (.pre ((((0:Int)≤t∧t≤(100000:Int))∧((0:Int)≤n∧n≤(100000:Int))∧(-1099511627776:Int)≤x.3∧x.3≤(1099511627776:Int))∧True) (.pre ((lE' s.3∧(0:Int)≤s.4∧s.4≤(4611686018427387904:Int))∧True) (.ite x.7 (.pre True (.ite (!ieq (aA (aB s.3 (2*n+5+2*t+3*x.3+2)) 0 12) x.8) (.pre ((t=t∧n=n)∧lE' s.3) (.ret {d:=true,x:= {x with at':=0,found:=aB s.3 (2*n+5+2*t+3*x.3+2)},s:= {s with c:=s.4+1,k:=1,a:=2*n+5+2*t+3*x.3+2,o:=aB s.3 (2*n+5+2*t+3*x.3+2),w:=aB s.3 (2*n+5+2*t+3*x.3+2),ok:=bM s.3 (2*n+5+2*t+3*x.3+2) } })) (.pre True (.ite (ieq (aA (aB s.3 (2*n+5+2*t+3*x.3+2)) 49 3) 2) (.pre ((t=t∧n=n)∧lE' s.3) (.ret {d:=false,x:= {x with at':=1,found:=aB s.3 (2*n+5+2*t+3*x.3+2)},s:= {s with c:=s.4+1,k:=1,a:=2*n+5+2*t+3*x.3+2,o:=aB s.3 (2*n+5+2*t+3*x.3+2),w:=aB s.3 (2*n+5+2*t+3*x.3+2),ok:=bM s.3 (2*n+5+2*t+3*x.3+2) } })) (.ite (ieq (aA (aB s.3 (2*n+5+2*t+3*x.3+2)) 49 3) 3) (.pre ((t=t∧n=n)∧lE' s.3) (.ret {d:=false,x:= {x with at':=5,found:=aB s.3 (2*n+5+2*t+3*x.3+2)},s:= {s with c:=s.4+1,k:=1,a:=2*n+5+2*t+3*x.3+2,o:=aB s.3 (2*n+5+2*t+3*x.3+2),w:=aB s.3 (2*n+5+2*t+3*x.3+2),ok:=bM s.3 (2*n+5+2*t+3*x.3+2) } })) (.ite (ieq (aA (aB s.3 (2*n+5+2*t+3*x.3+2)) 49 3) 4) (.pre ((t=t∧n=n)∧lE' s.3) (.ret {d:=false,x:= {x with at':=8,found:=aB s.3 (2*n+5+2*t+3*x.3+2)},s:= {s with c:=s.4+1,k:=1,a:=2*n+5+2*t+3*x.3+2,o:=aB s.3 (2*n+5+2*t+3*x.3+2),w:=aB s.3 (2*n+5+2*t+3*x.3+2),ok:=bM s.3 (2*n+5+2*t+3*x.3+2) } })) (.pre ((t=t∧n=n)∧lE' s.3) (.ret {d:=true,x:= {x with at':=0,found:=aB s.3 (2*n+5+2*t+3*x.3+2)},s:= {s with c:=s.4+1,k:=1,a:=2*n+5+2*t+3*x.3+2,o:=aB s.3 (2*n+5+2*t+3*x.3+2),w:=aB s.3 (2*n+5+2*t+3*x.3+2),ok:=bM s.3 (2*n+5+2*t+3*x.3+2) } })))))))) (.pre True (.ite (ieq (aA (aB s.3 (2*n+5+2*t+3*x.3+2)) 49 3) 2) (.pre ((t=t∧n=n)∧lE' s.3) (.ret {d:=false,x:= {x with at':=1,found:=aB s.3 (2*n+5+2*t+3*x.3+2)},s:= {s with c:=s.4+1,k:=1,a:=2*n+5+2*t+3*x.3+2,o:=aB s.3 (2*n+5+2*t+3*x.3+2),w:=aB s.3 (2*n+5+2*t+3*x.3+2),ok:=bM s.3 (2*n+5+2*t+3*x.3+2) } })) (.ite (ieq (aA (aB s.3 (2*n+5+2*t+3*x.3+2)) 49 3) 3) (.pre ((t=t∧n=n)∧lE' s.3) (.ret {d:=false,x:= {x with at':=5,found:=aB s.3 (2*n+5+2*t+3*x.3+2)},s:= {s with c:=s.4+1,k:=1,a:=2*n+5+2*t+3*x.3+2,o:=aB s.3 (2*n+5+2*t+3*x.3+2),w:=aB s.3 (2*n+5+2*t+3*x.3+2),ok:=bM s.3 (2*n+5+2*t+3*x.3+2) } })) (.ite (ieq (aA (aB s.3 (2*n+5+2*t+3*x.3+2)) 49 3) 4) (.pre ((t=t∧n=n)∧lE' s.3) (.ret {d:=false,x:= {x with at':=8,found:=aB s.3 (2*n+5+2*t+3*x.3+2)},s:= {s with c:=s.4+1,k:=1,a:=2*n+5+2*t+3*x.3+2,o:=aB s.3 (2*n+5+2*t+3*x.3+2),w:=aB s.3 (2*n+5+2*t+3*x.3+2),ok:=bM s.3 (2*n+5+2*t+3*x.3+2) } })) (.pre ((t=t∧n=n)∧lE' s.3) (.ret {d:=true,x:= {x with at':=0,found:=aB s.3 (2*n+5+2*t+3*x.3+2)},s:= {s with c:=s.4+1,k:=1,a:=2*n+5+2*t+3*x.3+2,o:=aB s.3 (2*n+5+2*t+3*x.3+2),w:=aB s.3 (2*n+5+2*t+3*x.3+2),ok:=bM s.3 (2*n+5+2*t+3*x.3+2) } }))))))))))
theorem JH(t n:Int)(x:EXS)(s:MS)(K:ExO→Prop)(h:(BN t n x s).run K):cT' 177 [.ptr 0 0,.ptr 1 0] [some (.cells [.int .i64 t,.int .i64 n,.int .i64 x.popped,.int .i64 x.gave,.int .i64 x.u,.int .i64 x.sh,.int .i64 x.kd,.int .i64 x.ky,.bool x.only,.int .i64 x.att,.int .i64 0,.int .u64 x.found,.int .u64 x.word]),a8 2 s,a9 s] (cC 3 0 [] [] (vT t n) K):=by
 exact cM' (E:=EX2) (by kernel_rfl) h
def BO(t n:Int)(x:EXS)(s:MS):Tr ExO:=.pre True (.pre True (.pre True (.pre (lE' s.3∧(0:Int)≤s.4∧s.4≤(4611686018427387904:Int)) (.pre True (.pre True (.ite (ieq (aA (aB s.3 (aA x.10 12 9)) 25 18) (aA x.10 21 18)) (.ite (ieq (aA (aB s.3 (aA x.10 12 9)) 20 5) 0) (.pre ((t=t∧n=n)∧lE' s.3) (.ret {d:=false,x:= {x with at':=2,word:=aB s.3 (aA x.10 12 9) },s:= {s with c:=s.4+1,k:=1,a:=aA x.10 12 9,o:=aB s.3 (aA x.10 12 9),w:=aB s.3 (aA x.10 12 9),ok:=bM s.3 (aA x.10 12 9) } })) (.pre True (.ite (ieq (aA (aB s.3 (aA x.10 12 9)) 25 18) (aA x.10 21 18)) (.ite (ieq (aA (aB s.3 (aA x.10 12 9)) 20 5) (W (x.3+1))) (.pre ((t=t∧n=n)∧lE' s.3) (.ret {d:=false,x:= {x with at':=3,word:=aB s.3 (aA x.10 12 9) },s:= {s with c:=s.4+1,k:=1,a:=aA x.10 12 9,o:=aB s.3 (aA x.10 12 9),w:=aB s.3 (aA x.10 12 9),ok:=bM s.3 (aA x.10 12 9) } })) (.pre ((t=t∧n=n)∧lE' s.3) (.ret {d:=false,x:= {x with at':=4,word:=aB s.3 (aA x.10 12 9) },s:= {s with c:=s.4+1,k:=1,a:=aA x.10 12 9,o:=aB s.3 (aA x.10 12 9),w:=aB s.3 (aA x.10 12 9),ok:=bM s.3 (aA x.10 12 9) } }))) (.pre ((t=t∧n=n)∧lE' s.3) (.ret {d:=false,x:= {x with at':=4,word:=aB s.3 (aA x.10 12 9) },s:= {s with c:=s.4+1,k:=1,a:=aA x.10 12 9,o:=aB s.3 (aA x.10 12 9),w:=aB s.3 (aA x.10 12 9),ok:=bM s.3 (aA x.10 12 9) } }))))) (.pre True (.ite (ieq (aA (aB s.3 (aA x.10 12 9)) 25 18) (aA x.10 21 18)) (.ite (ieq (aA (aB s.3 (aA x.10 12 9)) 20 5) (W (x.3+1))) (.pre ((t=t∧n=n)∧lE' s.3) (.ret {d:=false,x:= {x with at':=3,word:=aB s.3 (aA x.10 12 9) },s:= {s with c:=s.4+1,k:=1,a:=aA x.10 12 9,o:=aB s.3 (aA x.10 12 9),w:=aB s.3 (aA x.10 12 9),ok:=bM s.3 (aA x.10 12 9) } })) (.pre ((t=t∧n=n)∧lE' s.3) (.ret {d:=false,x:= {x with at':=4,word:=aB s.3 (aA x.10 12 9) },s:= {s with c:=s.4+1,k:=1,a:=aA x.10 12 9,o:=aB s.3 (aA x.10 12 9),w:=aB s.3 (aA x.10 12 9),ok:=bM s.3 (aA x.10 12 9) } }))) (.pre ((t=t∧n=n)∧lE' s.3) (.ret {d:=false,x:= {x with at':=4,word:=aB s.3 (aA x.10 12 9) },s:= {s with c:=s.4+1,k:=1,a:=aA x.10 12 9,o:=aB s.3 (aA x.10 12 9),w:=aB s.3 (aA x.10 12 9),ok:=bM s.3 (aA x.10 12 9) } }))))))))))
theorem JI(t n:Int)(x:EXS)(s:MS)(K:ExO→Prop)(h:(BO t n x s).run K):cT' 177 [.ptr 0 0,.ptr 1 0] [some (.cells [.int .i64 t,.int .i64 n,.int .i64 x.popped,.int .i64 x.gave,.int .i64 x.u,.int .i64 x.sh,.int .i64 x.kd,.int .i64 x.ky,.bool x.only,.int .i64 x.att,.int .i64 1,.int .u64 x.found,.int .u64 x.word]),a8 2 s,a9 s] (cC 3 0 [] [] (vT t n) K):=by
 exact cM' (E:=EX2) (by kernel_rfl) h
def BP(t n:Int)(x:EXS)(s:MS):Tr ExO:=.pre True (.pre True (.pre ((-1000000:Int)≤x.3∧x.3≤(1000000:Int)) (.pre (lE' s.3∧True∧True∧((lE' s.3∧(0:Int)≤s.4∧s.4≤(4611686018427387904:Int))∧True)∧True) (.ite (aR s.3 (aA x.10 12 9) x.11) (.pre True (.ite (nN x.4 x.5) (.pre ((t=t∧n=n)∧lE' (bif aR s.3 (aA x.10 12 9) x.11 then aL s.3 (aA x.10 12 9) (bif bif aG (aA x.11 0 10) 10 then bif aG (aA x.10 39 9) 9 then bif aG (x.3+1) 5 then aG (aA x.11 25 18) 18 else false else false else false then bD (aA x.11 0 10) (aA x.10 39 9) (ieq (aA x.10 48 1) 1) (x.3+1) (aA x.11 25 18)else 0)else s.3)) (.ret {d:=true,x:= {x with popped:=aA x.11 10 9,at':=2},s:= {t:=s.1,n:=s.2,xs:=bif aR s.3 (aA x.10 12 9) x.11 then aL s.3 (aA x.10 12 9) (bif bif aG (aA x.11 0 10) 10 then bif aG (aA x.10 39 9) 9 then bif aG (x.3+1) 5 then aG (aA x.11 25 18) 18 else false else false else false then bD (aA x.11 0 10) (aA x.10 39 9) (ieq (aA x.10 48 1) 1) (x.3+1) (aA x.11 25 18)else 0)else s.3,c:=s.4+1,k:=3,a:=aA x.10 12 9,o:=aB s.3 (aA x.10 12 9),w:=bif bM s.3 (aA x.10 12 9)then bif bif aG (aA x.11 0 10) 10 then bif aG (aA x.10 39 9) 9 then bif aG (x.3+1) 5 then aG (aA x.11 25 18) 18 else false else false else false then bD (aA x.11 0 10) (aA x.10 39 9) (ieq (aA x.10 48 1) 1) (x.3+1) (aA x.11 25 18)else 0 else 0,ok:=aR s.3 (aA x.10 12 9) x.11} })) (.pre ((t=t∧n=n)∧lE' (bif aR s.3 (aA x.10 12 9) x.11 then aL s.3 (aA x.10 12 9) (bif bif aG (aA x.11 0 10) 10 then bif aG (aA x.10 39 9) 9 then bif aG (x.3+1) 5 then aG (aA x.11 25 18) 18 else false else false else false then bD (aA x.11 0 10) (aA x.10 39 9) (ieq (aA x.10 48 1) 1) (x.3+1) (aA x.11 25 18)else 0)else s.3)) (.ret {d:=true,x:= {x with at':=2},s:= {t:=s.1,n:=s.2,xs:=bif aR s.3 (aA x.10 12 9) x.11 then aL s.3 (aA x.10 12 9) (bif bif aG (aA x.11 0 10) 10 then bif aG (aA x.10 39 9) 9 then bif aG (x.3+1) 5 then aG (aA x.11 25 18) 18 else false else false else false then bD (aA x.11 0 10) (aA x.10 39 9) (ieq (aA x.10 48 1) 1) (x.3+1) (aA x.11 25 18)else 0)else s.3,c:=s.4+1,k:=3,a:=aA x.10 12 9,o:=aB s.3 (aA x.10 12 9),w:=bif bM s.3 (aA x.10 12 9)then bif bif aG (aA x.11 0 10) 10 then bif aG (aA x.10 39 9) 9 then bif aG (x.3+1) 5 then aG (aA x.11 25 18) 18 else false else false else false then bD (aA x.11 0 10) (aA x.10 39 9) (ieq (aA x.10 48 1) 1) (x.3+1) (aA x.11 25 18)else 0 else 0,ok:=aR s.3 (aA x.10 12 9) x.11} })))) (.pre ((t=t∧n=n)∧lE' (bif aR s.3 (aA x.10 12 9) x.11 then aL s.3 (aA x.10 12 9) (bif bif aG (aA x.11 0 10) 10 then bif aG (aA x.10 39 9) 9 then bif aG (x.3+1) 5 then aG (aA x.11 25 18) 18 else false else false else false then bD (aA x.11 0 10) (aA x.10 39 9) (ieq (aA x.10 48 1) 1) (x.3+1) (aA x.11 25 18)else 0)else s.3)) (.ret {d:=true,x:= {x with at':=2},s:= {t:=s.1,n:=s.2,xs:=bif aR s.3 (aA x.10 12 9) x.11 then aL s.3 (aA x.10 12 9) (bif bif aG (aA x.11 0 10) 10 then bif aG (aA x.10 39 9) 9 then bif aG (x.3+1) 5 then aG (aA x.11 25 18) 18 else false else false else false then bD (aA x.11 0 10) (aA x.10 39 9) (ieq (aA x.10 48 1) 1) (x.3+1) (aA x.11 25 18)else 0)else s.3,c:=s.4+1,k:=3,a:=aA x.10 12 9,o:=aB s.3 (aA x.10 12 9),w:=bif bM s.3 (aA x.10 12 9)then bif bif aG (aA x.11 0 10) 10 then bif aG (aA x.10 39 9) 9 then bif aG (x.3+1) 5 then aG (aA x.11 25 18) 18 else false else false else false then bD (aA x.11 0 10) (aA x.10 39 9) (ieq (aA x.10 48 1) 1) (x.3+1) (aA x.11 25 18)else 0 else 0,ok:=aR s.3 (aA x.10 12 9) x.11} }))))))
theorem JJ(t n:Int)(x:EXS)(s:MS)(K:ExO→Prop)(h:(BP t n x s).run K):cT' 177 [.ptr 0 0,.ptr 1 0] [some (.cells [.int .i64 t,.int .i64 n,.int .i64 x.popped,.int .i64 x.gave,.int .i64 x.u,.int .i64 x.sh,.int .i64 x.kd,.int .i64 x.ky,.bool x.only,.int .i64 x.att,.int .i64 2,.int .u64 x.found,.int .u64 x.word]),a8 2 s,a9 s] (cC 3 0 [] [] (vT t n) K):=by
 exact cM' (E:=EX2) (by kernel_rfl) h
def BQ(t n:Int)(x:EXS)(s:MS):Tr ExO:=.pre True (.pre True (.pre True (.pre (lE' s.3) (.pre True (.pre ((((0:Int)≤t∧t≤(100000:Int))∧((0:Int)≤n∧n≤(100000:Int))∧(-1099511627776:Int)≤x.3∧x.3≤(1099511627776:Int))∧True) (.pre ((lE' s.3∧(0:Int)≤s.4∧s.4≤(4611686018427387904:Int))∧True) (.pre ((t=t∧n=n)∧lE' (bif aR s.3 (2*n+5+2*t+3*x.3+2) x.10 then aL s.3 (2*n+5+2*t+3*x.3+2) (bif dOk (aA x.10 0 12) (aA x.10 12 9) (aA x.10 21 18) (aA x.10 39 9) 3 (aA x.10 52 10)then cO (aA x.10 0 12) (aA x.10 12 9) (aA x.10 21 18) (aA x.10 39 9) (ieq (aA x.10 48 1) 1) 3 (aA x.10 52 10)else 0)else s.3)) (.ret {d:=true,x:= {x with at':=3},s:= {t:=s.1,n:=s.2,xs:=bif aR s.3 (2*n+5+2*t+3*x.3+2) x.10 then aL s.3 (2*n+5+2*t+3*x.3+2) (bif dOk (aA x.10 0 12) (aA x.10 12 9) (aA x.10 21 18) (aA x.10 39 9) 3 (aA x.10 52 10)then cO (aA x.10 0 12) (aA x.10 12 9) (aA x.10 21 18) (aA x.10 39 9) (ieq (aA x.10 48 1) 1) 3 (aA x.10 52 10)else 0)else s.3,c:=s.4+1,k:=3,a:=2*n+5+2*t+3*x.3+2,o:=aB s.3 (2*n+5+2*t+3*x.3+2),w:=bif bM s.3 (2*n+5+2*t+3*x.3+2)then bif dOk (aA x.10 0 12) (aA x.10 12 9) (aA x.10 21 18) (aA x.10 39 9) 3 (aA x.10 52 10)then cO (aA x.10 0 12) (aA x.10 12 9) (aA x.10 21 18) (aA x.10 39 9) (ieq (aA x.10 48 1) 1) 3 (aA x.10 52 10)else 0 else 0,ok:=aR s.3 (2*n+5+2*t+3*x.3+2) x.10} }))))))))
theorem JK(t n:Int)(x:EXS)(s:MS)(K:ExO→Prop)(h:(BQ t n x s).run K):cT' 177 [.ptr 0 0,.ptr 1 0] [some (.cells [.int .i64 t,.int .i64 n,.int .i64 x.popped,.int .i64 x.gave,.int .i64 x.u,.int .i64 x.sh,.int .i64 x.kd,.int .i64 x.ky,.bool x.only,.int .i64 x.att,.int .i64 3,.int .u64 x.found,.int .u64 x.word]),a8 2 s,a9 s] (cC 3 0 [] [] (vT t n) K):=by
 exact cM' (E:=EX2) (by kernel_rfl) h
def BR(t n:Int)(x:EXS)(s:MS):Tr ExO:=.pre True (.pre True (.pre True (.pre (lE' s.3) (.pre True (.pre ((((0:Int)≤t∧t≤(100000:Int))∧((0:Int)≤n∧n≤(100000:Int))∧(-1099511627776:Int)≤x.3∧x.3≤(1099511627776:Int))∧True) (.pre ((lE' s.3∧(0:Int)≤s.4∧s.4≤(4611686018427387904:Int))∧True) (.pre ((t=t∧n=n)∧lE' (bif aR s.3 (2*n+5+2*t+3*x.3+2) x.10 then aL s.3 (2*n+5+2*t+3*x.3+2) (bif dOk (aA x.10 0 12) (aA x.10 12 9) (aA x.10 21 18) (aA x.10 39 9) 4 (aA x.10 52 10)then cO (aA x.10 0 12) (aA x.10 12 9) (aA x.10 21 18) (aA x.10 39 9) (ieq (aA x.10 48 1) 1) 4 (aA x.10 52 10)else 0)else s.3)) (.ret {d:=true,x:= {x with at':=4},s:= {t:=s.1,n:=s.2,xs:=bif aR s.3 (2*n+5+2*t+3*x.3+2) x.10 then aL s.3 (2*n+5+2*t+3*x.3+2) (bif dOk (aA x.10 0 12) (aA x.10 12 9) (aA x.10 21 18) (aA x.10 39 9) 4 (aA x.10 52 10)then cO (aA x.10 0 12) (aA x.10 12 9) (aA x.10 21 18) (aA x.10 39 9) (ieq (aA x.10 48 1) 1) 4 (aA x.10 52 10)else 0)else s.3,c:=s.4+1,k:=3,a:=2*n+5+2*t+3*x.3+2,o:=aB s.3 (2*n+5+2*t+3*x.3+2),w:=bif bM s.3 (2*n+5+2*t+3*x.3+2)then bif dOk (aA x.10 0 12) (aA x.10 12 9) (aA x.10 21 18) (aA x.10 39 9) 4 (aA x.10 52 10)then cO (aA x.10 0 12) (aA x.10 12 9) (aA x.10 21 18) (aA x.10 39 9) (ieq (aA x.10 48 1) 1) 4 (aA x.10 52 10)else 0 else 0,ok:=aR s.3 (2*n+5+2*t+3*x.3+2) x.10} }))))))))
theorem JL(t n:Int)(x:EXS)(s:MS)(K:ExO→Prop)(h:(BR t n x s).run K):cT' 177 [.ptr 0 0,.ptr 1 0] [some (.cells [.int .i64 t,.int .i64 n,.int .i64 x.popped,.int .i64 x.gave,.int .i64 x.u,.int .i64 x.sh,.int .i64 x.kd,.int .i64 x.ky,.bool x.only,.int .i64 x.att,.int .i64 4,.int .u64 x.found,.int .u64 x.word]),a8 2 s,a9 s] (cC 3 0 [] [] (vT t n) K):=by
 exact cM' (E:=EX2) (by kernel_rfl) h
def BS(t n:Int)(x:EXS)(s:MS):Tr ExO:=.pre True (.pre True (.pre True (.pre (lE' s.3∧(0:Int)≤s.4∧s.4≤(4611686018427387904:Int)) (.pre True (.pre True (.ite (ieq (aA (aB s.3 (aA x.10 12 9)) 25 18) (aA x.10 21 18)) (.ite (ieq (aA (aB s.3 (aA x.10 12 9)) 20 5) 0) (.pre ((t=t∧n=n)∧lE' s.3) (.ret {d:=false,x:= {x with at':=7,word:=aB s.3 (aA x.10 12 9) },s:= {s with c:=s.4+1,k:=1,a:=aA x.10 12 9,o:=aB s.3 (aA x.10 12 9),w:=aB s.3 (aA x.10 12 9),ok:=bM s.3 (aA x.10 12 9) } })) (.pre True (.ite (ieq (aA (aB s.3 (aA x.10 12 9)) 25 18) (aA x.10 21 18)) (.ite (ieq (aA (aB s.3 (aA x.10 12 9)) 20 5) (W (x.3+1))) (.pre ((t=t∧n=n)∧lE' s.3) (.ret {d:=false,x:= {x with at':=6,word:=aB s.3 (aA x.10 12 9) },s:= {s with c:=s.4+1,k:=1,a:=aA x.10 12 9,o:=aB s.3 (aA x.10 12 9),w:=aB s.3 (aA x.10 12 9),ok:=bM s.3 (aA x.10 12 9) } })) (.pre ((t=t∧n=n)∧lE' s.3) (.ret {d:=false,x:= {x with at':=7,word:=aB s.3 (aA x.10 12 9) },s:= {s with c:=s.4+1,k:=1,a:=aA x.10 12 9,o:=aB s.3 (aA x.10 12 9),w:=aB s.3 (aA x.10 12 9),ok:=bM s.3 (aA x.10 12 9) } }))) (.pre ((t=t∧n=n)∧lE' s.3) (.ret {d:=false,x:= {x with at':=7,word:=aB s.3 (aA x.10 12 9) },s:= {s with c:=s.4+1,k:=1,a:=aA x.10 12 9,o:=aB s.3 (aA x.10 12 9),w:=aB s.3 (aA x.10 12 9),ok:=bM s.3 (aA x.10 12 9) } }))))) (.pre True (.ite (ieq (aA (aB s.3 (aA x.10 12 9)) 25 18) (aA x.10 21 18)) (.ite (ieq (aA (aB s.3 (aA x.10 12 9)) 20 5) (W (x.3+1))) (.pre ((t=t∧n=n)∧lE' s.3) (.ret {d:=false,x:= {x with at':=6,word:=aB s.3 (aA x.10 12 9) },s:= {s with c:=s.4+1,k:=1,a:=aA x.10 12 9,o:=aB s.3 (aA x.10 12 9),w:=aB s.3 (aA x.10 12 9),ok:=bM s.3 (aA x.10 12 9) } })) (.pre ((t=t∧n=n)∧lE' s.3) (.ret {d:=false,x:= {x with at':=7,word:=aB s.3 (aA x.10 12 9) },s:= {s with c:=s.4+1,k:=1,a:=aA x.10 12 9,o:=aB s.3 (aA x.10 12 9),w:=aB s.3 (aA x.10 12 9),ok:=bM s.3 (aA x.10 12 9) } }))) (.pre ((t=t∧n=n)∧lE' s.3) (.ret {d:=false,x:= {x with at':=7,word:=aB s.3 (aA x.10 12 9) },s:= {s with c:=s.4+1,k:=1,a:=aA x.10 12 9,o:=aB s.3 (aA x.10 12 9),w:=aB s.3 (aA x.10 12 9),ok:=bM s.3 (aA x.10 12 9) } }))))))))))
theorem JM(t n:Int)(x:EXS)(s:MS)(K:ExO→Prop)(h:(BS t n x s).run K):cT' 177 [.ptr 0 0,.ptr 1 0] [some (.cells [.int .i64 t,.int .i64 n,.int .i64 x.popped,.int .i64 x.gave,.int .i64 x.u,.int .i64 x.sh,.int .i64 x.kd,.int .i64 x.ky,.bool x.only,.int .i64 x.att,.int .i64 5,.int .u64 x.found,.int .u64 x.word]),a8 2 s,a9 s] (cC 3 0 [] [] (vT t n) K):=by
 exact cM' (E:=EX2) (by kernel_rfl) h
def BT(t n:Int)(x:EXS)(s:MS):Tr ExO:=.pre True (.pre True (.pre ((0:Int)≤aA x.11 25 18∧aA x.11 25 (18:Int)≤(1000000:Int)) (.pre (lE' s.3) (.pre True (.pre True (.pre ((lE' s.3∧(0:Int)≤s.4∧s.4≤(4611686018427387904:Int))∧True) (.pre ((t=t∧n=n)∧lE' (bif aR s.3 (aA x.10 12 9) x.11 then aL s.3 (aA x.10 12 9) (bif bif aG (aA x.11 0 10) 10 then bif aG (aA x.11 10 9) 9 then bif aG 0 5 then aG (aQ (aA x.11 25 18)) 18 else false else false else false then bD (aA x.11 0 10) (aA x.11 10 9) (ieq (aA x.11 19 1) 1) 0 (aQ (aA x.11 25 18))else 0)else s.3)) (.ret {d:=false,x:= {x with at':=7},s:= {t:=s.1,n:=s.2,xs:=bif aR s.3 (aA x.10 12 9) x.11 then aL s.3 (aA x.10 12 9) (bif bif aG (aA x.11 0 10) 10 then bif aG (aA x.11 10 9) 9 then bif aG 0 5 then aG (aQ (aA x.11 25 18)) 18 else false else false else false then bD (aA x.11 0 10) (aA x.11 10 9) (ieq (aA x.11 19 1) 1) 0 (aQ (aA x.11 25 18))else 0)else s.3,c:=s.4+1,k:=3,a:=aA x.10 12 9,o:=aB s.3 (aA x.10 12 9),w:=bif bM s.3 (aA x.10 12 9)then bif bif aG (aA x.11 0 10) 10 then bif aG (aA x.11 10 9) 9 then bif aG 0 5 then aG (aQ (aA x.11 25 18)) 18 else false else false else false then bD (aA x.11 0 10) (aA x.11 10 9) (ieq (aA x.11 19 1) 1) 0 (aQ (aA x.11 25 18))else 0 else 0,ok:=aR s.3 (aA x.10 12 9) x.11} }))))))))
theorem JN(t n:Int)(x:EXS)(s:MS)(K:ExO→Prop)(h:(BT t n x s).run K):cT' 177 [.ptr 0 0,.ptr 1 0] [some (.cells [.int .i64 t,.int .i64 n,.int .i64 x.popped,.int .i64 x.gave,.int .i64 x.u,.int .i64 x.sh,.int .i64 x.kd,.int .i64 x.ky,.bool x.only,.int .i64 x.att,.int .i64 6,.int .u64 x.found,.int .u64 x.word]),a8 2 s,a9 s] (cC 3 0 [] [] (vT t n) K):=by
 exact cM' (E:=EX2) (by kernel_rfl) h
def BU(t n:Int)(x:EXS)(s:MS):Tr ExO:=.pre True (.pre True (.pre True (.pre (lE' s.3) (.pre True (.pre ((((0:Int)≤t∧t≤(100000:Int))∧((0:Int)≤n∧n≤(100000:Int))∧(-1099511627776:Int)≤x.3∧x.3≤(1099511627776:Int))∧True) (.pre ((lE' s.3∧(0:Int)≤s.4∧s.4≤(4611686018427387904:Int))∧True) (.pre ((t=t∧n=n)∧lE' (bif aR s.3 (2*n+5+2*t+3*x.3+2) x.10 then aL s.3 (2*n+5+2*t+3*x.3+2) (bif dOk (aA x.10 0 12) 0 0 0 5 (aA x.10 52 10)then cO (aA x.10 0 12) 0 0 0 true 5 (aA x.10 52 10)else 0)else s.3)) (.ret {d:=true,x:= {x with at':=7},s:= {t:=s.1,n:=s.2,xs:=bif aR s.3 (2*n+5+2*t+3*x.3+2) x.10 then aL s.3 (2*n+5+2*t+3*x.3+2) (bif dOk (aA x.10 0 12) 0 0 0 5 (aA x.10 52 10)then cO (aA x.10 0 12) 0 0 0 true 5 (aA x.10 52 10)else 0)else s.3,c:=s.4+1,k:=3,a:=2*n+5+2*t+3*x.3+2,o:=aB s.3 (2*n+5+2*t+3*x.3+2),w:=bif bM s.3 (2*n+5+2*t+3*x.3+2)then bif dOk (aA x.10 0 12) 0 0 0 5 (aA x.10 52 10)then cO (aA x.10 0 12) 0 0 0 true 5 (aA x.10 52 10)else 0 else 0,ok:=aR s.3 (2*n+5+2*t+3*x.3+2) x.10} }))))))))
theorem JO(t n:Int)(x:EXS)(s:MS)(K:ExO→Prop)(h:(BU t n x s).run K):cT' 177 [.ptr 0 0,.ptr 1 0] [some (.cells [.int .i64 t,.int .i64 n,.int .i64 x.popped,.int .i64 x.gave,.int .i64 x.u,.int .i64 x.sh,.int .i64 x.kd,.int .i64 x.ky,.bool x.only,.int .i64 x.att,.int .i64 7,.int .u64 x.found,.int .u64 x.word]),a8 2 s,a9 s] (cC 3 0 [] [] (vT t n) K):=by
 exact cM' (E:=EX2) (by kernel_rfl) h
def BV(t n:Int)(x:EXS)(s:MS):Tr ExO:=.pre True (.pre True (.pre ((0:Int)≤aA x.10 0 12∧aA x.10 0 (12:Int)≤(1000000:Int)) (.pre (lE' s.3∧True∧((((0:Int)≤t∧t≤(100000:Int))∧((0:Int)≤n∧n≤(100000:Int))∧(-1099511627776:Int)≤x.3∧x.3≤(1099511627776:Int))∧True)∧((lE' s.3∧(0:Int)≤s.4∧s.4≤(4611686018427387904:Int))∧True)∧True) (.ite (!aR s.3 (2*n+5+2*t+3*x.3+2) x.10) (.pre ((t=t∧n=n)∧lE' (bif aR s.3 (2*n+5+2*t+3*x.3+2) x.10 then aL s.3 (2*n+5+2*t+3*x.3+2) (bif dOk (eN (aA x.10 0 12)) 0 0 0 1 0 then cO (eN (aA x.10 0 12)) 0 0 0 false 1 0 else 0)else s.3)) (.ret {d:=true,x:= {x with at':=9},s:= {t:=s.1,n:=s.2,xs:=bif aR s.3 (2*n+5+2*t+3*x.3+2) x.10 then aL s.3 (2*n+5+2*t+3*x.3+2) (bif dOk (eN (aA x.10 0 12)) 0 0 0 1 0 then cO (eN (aA x.10 0 12)) 0 0 0 false 1 0 else 0)else s.3,c:=s.4+1,k:=3,a:=2*n+5+2*t+3*x.3+2,o:=aB s.3 (2*n+5+2*t+3*x.3+2),w:=bif bM s.3 (2*n+5+2*t+3*x.3+2)then bif dOk (eN (aA x.10 0 12)) 0 0 0 1 0 then cO (eN (aA x.10 0 12)) 0 0 0 false 1 0 else 0 else 0,ok:=aR s.3 (2*n+5+2*t+3*x.3+2) x.10} })) (.pre True (.ite (!bS x.5) (.pre ((t=t∧n=n)∧lE' (bif aR s.3 (2*n+5+2*t+3*x.3+2) x.10 then aL s.3 (2*n+5+2*t+3*x.3+2) (bif dOk (eN (aA x.10 0 12)) 0 0 0 1 0 then cO (eN (aA x.10 0 12)) 0 0 0 false 1 0 else 0)else s.3)) (.ret {d:=true,x:= {x with at':=9},s:= {t:=s.1,n:=s.2,xs:=bif aR s.3 (2*n+5+2*t+3*x.3+2) x.10 then aL s.3 (2*n+5+2*t+3*x.3+2) (bif dOk (eN (aA x.10 0 12)) 0 0 0 1 0 then cO (eN (aA x.10 0 12)) 0 0 0 false 1 0 else 0)else s.3,c:=s.4+1,k:=3,a:=2*n+5+2*t+3*x.3+2,o:=aB s.3 (2*n+5+2*t+3*x.3+2),w:=bif bM s.3 (2*n+5+2*t+3*x.3+2)then bif dOk (eN (aA x.10 0 12)) 0 0 0 1 0 then cO (eN (aA x.10 0 12)) 0 0 0 false 1 0 else 0 else 0,ok:=aR s.3 (2*n+5+2*t+3*x.3+2) x.10} })) (.pre (True∧True) (.pre ((t=t∧n=n)∧lE' (bif aR s.3 (2*n+5+2*t+3*x.3+2) x.10 then aL s.3 (2*n+5+2*t+3*x.3+2) (bif dOk (eN (aA x.10 0 12)) 0 0 0 1 0 then cO (eN (aA x.10 0 12)) 0 0 0 false 1 0 else 0)else s.3)) (.ret {d:=!bX n (aA x.10 39 9),x:= {x with at':=9},s:= {t:=s.1,n:=s.2,xs:=bif aR s.3 (2*n+5+2*t+3*x.3+2) x.10 then aL s.3 (2*n+5+2*t+3*x.3+2) (bif dOk (eN (aA x.10 0 12)) 0 0 0 1 0 then cO (eN (aA x.10 0 12)) 0 0 0 false 1 0 else 0)else s.3,c:=s.4+1,k:=3,a:=2*n+5+2*t+3*x.3+2,o:=aB s.3 (2*n+5+2*t+3*x.3+2),w:=bif bM s.3 (2*n+5+2*t+3*x.3+2)then bif dOk (eN (aA x.10 0 12)) 0 0 0 1 0 then cO (eN (aA x.10 0 12)) 0 0 0 false 1 0 else 0 else 0,ok:=aR s.3 (2*n+5+2*t+3*x.3+2) x.10} })))))))))
theorem JP(t n:Int)(x:EXS)(s:MS)(K:ExO→Prop)(h:(BV t n x s).run K):cT' 177 [.ptr 0 0,.ptr 1 0] [some (.cells [.int .i64 t,.int .i64 n,.int .i64 x.popped,.int .i64 x.gave,.int .i64 x.u,.int .i64 x.sh,.int .i64 x.kd,.int .i64 x.ky,.bool x.only,.int .i64 x.att,.int .i64 8,.int .u64 x.found,.int .u64 x.word]),a8 2 s,a9 s] (cC 3 0 [] [] (vT t n) K):=by
 exact cM' (E:=EX2) (by kernel_rfl) h
def BW(t n:Int)(x:EXS)(s:MS):Tr ExO:=.pre True (.pre True (.pre ((((0:Int)≤t∧t≤(100000:Int))∧((0:Int)≤n∧n≤(100000:Int))∧(-1099511627776:Int)≤aA x.10 39 9∧aA x.10 39 (9:Int)≤(1099511627776:Int))∧True) (.pre ((lE' s.3∧(0:Int)≤s.4∧s.4≤(4611686018427387904:Int))∧True) (.pre ((t=t∧n=n)∧lE' (aL s.3 (n+4+aA x.10 39 9) (WU (aB s.3 (n+4+aA x.10 39 9)+1)))) (.ret {d:=true,x:= {x with gave:=aA x.10 39 9,at':=9},s:= {t:=s.1,n:=s.2,xs:=aL s.3 (n+4+aA x.10 39 9) (WU (aB s.3 (n+4+aA x.10 39 9)+1)),c:=s.4+1,k:=4,a:=n+4+aA x.10 39 9,o:=aB s.3 (n+4+aA x.10 39 9),w:=bif bM s.3 (n+4+aA x.10 39 9)then WU (aB s.3 (n+4+aA x.10 39 9)+1)else 0,ok:=bM s.3 (n+4+aA x.10 39 9) } })))))
theorem JQ(t n:Int)(x:EXS)(s:MS)(K:ExO→Prop)(h:(BW t n x s).run K):cT' 177 [.ptr 0 0,.ptr 1 0] [some (.cells [.int .i64 t,.int .i64 n,.int .i64 x.popped,.int .i64 x.gave,.int .i64 x.u,.int .i64 x.sh,.int .i64 x.kd,.int .i64 x.ky,.bool x.only,.int .i64 x.att,.int .i64 9,.int .u64 x.found,.int .u64 x.word]),a8 2 s,a9 s] (cC 3 0 [] [] (vT t n) K):=by
 exact cM' (E:=EX2) (by kernel_rfl) h
def exT(t n:Int)(x:EXS)(s:MS):Tr ExO:=
 bif ieq x.at' 0 then BN t n x s else
 bif ieq x.at' 1 then BO t n x s else
 bif ieq x.at' 2 then BP t n x s else
 bif ieq x.at' 3 then BQ t n x s else
 bif ieq x.at' 4 then BR t n x s else
 bif ieq x.at' 5 then BS t n x s else
 bif ieq x.at' 6 then BT t n x s else
 bif ieq x.at' 7 then BU t n x s else
 bif ieq x.at' 8 then BV t n x s else
 bif ieq x.at' 9 then BW t n x s else .pre False (.ret default)
def lA(t n:Int)(x:EXS)(s:MS):ExO:=(exT t n x s).val
def YR(t n:Int)(x:EXS)(s:MS):Prop:=(exT t n x s).ok
theorem SN(t n:Int)(x:EXS)(s:MS)(K:AVal→aD Ob→Prop)(h:(exT t n x s).run (fun y=>(ExO.fin t n y).run K)):cT' 177 [.ptr 0 0,.ptr 1 0] (exH t n x s) K:=by
 unfold exT at h
 by_cases e:x.at'=0
 ·rw [e]at h
  have h:(BN t n x s).run _:=h
  refine aC9 (root:=0) (pos:=[]) (cs:=[]) (parse:=vT t n) (fin:=ExO.fin t n) kG (bE.unpack (.exec t n x) 0 0 (gJ t n x) [] rfl (congrArg (Prod.mk 0) rfl) (by kernel_rfl) rfl) ?_
  have q:=JH t n x s _ h
  rw [←e]at q
  exact q
 rw [bW e]at h
 by_cases e:x.at'=1
 ·rw [e]at h
  have h:(BO t n x s).run _:=h
  refine aC9 (root:=0) (pos:=[]) (cs:=[]) (parse:=vT t n) (fin:=ExO.fin t n) kG (bE.unpack (.exec t n x) 0 0 (gJ t n x) [] rfl (congrArg (Prod.mk 0) rfl) (by kernel_rfl) rfl) ?_
  have q:=JI t n x s _ h
  rw [←e]at q
  exact q
 rw [bW e]at h
 by_cases e:x.at'=2
 ·rw [e]at h
  have h:(BP t n x s).run _:=h
  refine aC9 (root:=0) (pos:=[]) (cs:=[]) (parse:=vT t n) (fin:=ExO.fin t n) kG (bE.unpack (.exec t n x) 0 0 (gJ t n x) [] rfl (congrArg (Prod.mk 0) rfl) (by kernel_rfl) rfl) ?_
  have q:=JJ t n x s _ h
  rw [←e]at q
  exact q
 rw [bW e]at h
 by_cases e:x.at'=3
 ·rw [e]at h
  have h:(BQ t n x s).run _:=h
  refine aC9 (root:=0) (pos:=[]) (cs:=[]) (parse:=vT t n) (fin:=ExO.fin t n) kG (bE.unpack (.exec t n x) 0 0 (gJ t n x) [] rfl (congrArg (Prod.mk 0) rfl) (by kernel_rfl) rfl) ?_
  have q:=JK t n x s _ h
  rw [←e]at q
  exact q
 rw [bW e]at h
 by_cases e:x.at'=4
 ·rw [e]at h
  have h:(BR t n x s).run _:=h
  refine aC9 (root:=0) (pos:=[]) (cs:=[]) (parse:=vT t n) (fin:=ExO.fin t n) kG (bE.unpack (.exec t n x) 0 0 (gJ t n x) [] rfl (congrArg (Prod.mk 0) rfl) (by kernel_rfl) rfl) ?_
  have q:=JL t n x s _ h
  rw [←e]at q
  exact q
 rw [bW e]at h
 by_cases e:x.at'=5
 ·rw [e]at h
  have h:(BS t n x s).run _:=h
  refine aC9 (root:=0) (pos:=[]) (cs:=[]) (parse:=vT t n) (fin:=ExO.fin t n) kG (bE.unpack (.exec t n x) 0 0 (gJ t n x) [] rfl (congrArg (Prod.mk 0) rfl) (by kernel_rfl) rfl) ?_
  have q:=JM t n x s _ h
  rw [←e]at q
  exact q
 rw [bW e]at h
 by_cases e:x.at'=6
 ·rw [e]at h
  have h:(BT t n x s).run _:=h
  refine aC9 (root:=0) (pos:=[]) (cs:=[]) (parse:=vT t n) (fin:=ExO.fin t n) kG (bE.unpack (.exec t n x) 0 0 (gJ t n x) [] rfl (congrArg (Prod.mk 0) rfl) (by kernel_rfl) rfl) ?_
  have q:=JN t n x s _ h
  rw [←e]at q
  exact q
 rw [bW e]at h
 by_cases e:x.at'=7
 ·rw [e]at h
  have h:(BU t n x s).run _:=h
  refine aC9 (root:=0) (pos:=[]) (cs:=[]) (parse:=vT t n) (fin:=ExO.fin t n) kG (bE.unpack (.exec t n x) 0 0 (gJ t n x) [] rfl (congrArg (Prod.mk 0) rfl) (by kernel_rfl) rfl) ?_
  have q:=JO t n x s _ h
  rw [←e]at q
  exact q
 rw [bW e]at h
 by_cases e:x.at'=8
 ·rw [e]at h
  have h:(BV t n x s).run _:=h
  refine aC9 (root:=0) (pos:=[]) (cs:=[]) (parse:=vT t n) (fin:=ExO.fin t n) kG (bE.unpack (.exec t n x) 0 0 (gJ t n x) [] rfl (congrArg (Prod.mk 0) rfl) (by kernel_rfl) rfl) ?_
  have q:=JP t n x s _ h
  rw [←e]at q
  exact q
 rw [bW e]at h
 by_cases e:x.at'=9
 ·rw [e]at h
  have h:(BW t n x s).run _:=h
  refine aC9 (root:=0) (pos:=[]) (cs:=[]) (parse:=vT t n) (fin:=ExO.fin t n) kG (bE.unpack (.exec t n x) 0 0 (gJ t n x) [] rfl (congrArg (Prod.mk 0) rfl) (by kernel_rfl) rfl) ?_
  have q:=JQ t n x s _ h
  rw [←e]at q
  exact q
 rw [bW e]at h
 exact h.1.elim
noncomputable def exS:aJ Ob:=fun args h=>match args,h with
 | [.ptr 0 0,.ptr 1 0],[some (.abs (.exec t n x) []),e1,e2]=>(match cW 2 [e1,e2]with
   | some (l,s)=>some (.pre (l=s.xs.length∧YR t n x s) (ExO.fin t n (lA t n x s)))
   | none=>none)
 | _,_=>none
theorem aBx:sT' 177 exS:=by
 intro args h o ho K hK
 unfold exS at ho
 split at ho
 case h_2=>cases ho
 split at ho<;>cases ho
 rename_i hm
 obtain⟨⟨hl,ok⟩,hK⟩:=hK
 have hh:=bA hm hl
 cases hh
 exact SN _ _ _ _ K (aDe ok hK)
def YO(t n:Int)(v:AVal)(g:aD Ob):Option (Prop×EXS):=match v,g with
 | .ptr 0 0,[some (.cells [.int .i64 t1,.int .i64 n1,.int .i64 popped,.int .i64 gave,.int .i64 u,.int .i64 sh,.int .i64 kd,.int .i64 ky,.bool only,.int .i64 att,.int .i64 at',.int .u64 found,.int .u64 word])]=>some ((t1=t∧n1=n),(⟨popped,gave,u,sh,kd,ky,only,att,at',found,word⟩:EXS))
 | _,_=>none
abbrev SJ(t n:Int)(y:EXS):aD Ob:=[some (.abs (.exec t n y) [])]
theorem SK{t n:Int} :cA (obI tbl) 0 (YO t n) (fun y=>.ret (.ptr 0 0) (SJ t n y)):=by
 intro v g p x hp hq K hK
 unfold YO at hp
 split at hp
 case h_2=>cases hp
 rename_i t1 n1 popped gave u sh kd ky only att at' found word
 simp only [sI',pI']at hp
 obtain⟨rfl,rfl⟩:=hp
 obtain⟨rfl,rfl⟩:=hq
 exact⟨⟨_,_,aF.pack (SJ t1 n1 (⟨popped,gave,u,sh,kd,ky,only,att,at',found,word⟩:EXS)) (.exec t1 n1 (⟨popped,gave,u,sh,kd,ky,only,att,at',found,word⟩:EXS)) 0 0 (gJ t1 n1 (⟨popped,gave,u,sh,kd,ky,only,att,at',found,word⟩:EXS)) [] (by kernel_rfl) rfl (congrArg (Prod.mk 0) rfl) (by kernel_rfl),hK⟩⟩
def YP(t n:Int)(u sh kd ky att:Int):Tr EXS:=.pre (t=t∧n=n) (.ret {popped:=0,gave:=0,u:=u,sh:=sh,kd:=kd,ky:=ky,only:=true,att:=att,at':=0,found:=0,word:=0})
def YN(t n:Int)(u sh kd ky att:Int):EXS:=(YP t n u sh kd ky att).val
def NN(t n:Int)(u sh kd ky att:Int):Prop:=(YP t n u sh kd ky att).ok
def exNS:aJ Ob:=fun args h=>match args,h with
 | [.agg [.int .i64 t,.int .i64 n],.int .i64 u,.agg [.int .i64 sh,.int .i64 kd,.int .i64 ky],.int .i64 att],[]=>some (.pre (NN t n u sh kd ky att) (.ret (.ptr 0 0) (SJ t n (YN t n u sh kd ky att))))
 | _,_=>none
theorem YQ:sT' 174 exNS:=by
 intro args h o ho K hK
 unfold exNS at ho
 split at ho<;>cases ho
 rename_i t n u sh kd ky att
 obtain⟨ok,hK⟩:=hK
 refine aDh (root:=0) (pos:=[]) (cs:=[]) (parse:=YO t n) SK ?_
 exact cM' (E:=EX2) (q:=(YP t n u sh kd ky att).run (fun y=>(Out.ret (.ptr 0 0) (SJ t n y)).run K)) (by kernel_rfl) (aDe ok hK)
noncomputable def EC6:=((EX2.addS 177 exS aBx).addS 174 exNS YQ)
structure PrO where
 d:Bool
 x:PRS
 st:STS
 s:MS
instance:Inhabited PrO:=⟨⟨false,⟨0,0,0,false⟩,⟨0,0,[]⟩,⟨0,0,[],0,0,0,0,0,false⟩⟩⟩
instance:Inhabited PRS:=⟨⟨0,0,0,false⟩⟩
abbrev prH(t n:Int)(x:PRS)(st:STS)(s:MS):aD Ob:=[some (.abs (.prepare t n x) [1]),some (.abs (.store t n st) []),a8 3 s,a9 s]
abbrev prD(t n:Int)(x:PRS)(st:STS)(s:MS):aD Ob:=[some (.cells [.ptr 1 0,.int .i64 x.key,.int .i64 x.nxt,.int .u64 x.found,.bool x.loaded]),some (.abs (.store t n st) []),a8 3 s,a9 s]
def PrO.fin(t n:Int)(y:PrO):Out Ob:=.ite y.d (.ret (.bool true) (prD t n y.x y.st y.s)) (.ret (.bool false) (prH t n y.x y.st y.s))
def aAd(t n:Int)(v:AVal)(g:aD Ob):Option (Prop×PrO):=match v,g with
 | .bool d,[some (.cells [.ptr 1 0,.int .i64 key,.int .i64 nxt,.int .u64 found,.bool loaded]),e1,e3,e4,e2]=>(match j9 4 [e1,e2],cW 3 [e3,e4]with
   | some (l2,t2,n2,st),some (l,s)=>some ((t2=t∧n2=n)∧l=s.xs.length∧l2=st.R.length,⟨d,⟨key,nxt,found,loaded⟩,st,s⟩)
   | _,_=>none)
 | _,_=>none
def prP(t n:Int)(v:AVal)(g:aD Ob):Option (Prop×PrO):=aAd t n v g
theorem UL{t n:Int} :cA (obI tbl) 4 (aAd t n) (PrO.fin t n):=by
 intro v g p x hp hq K hK
 unfold aAd at hp
 split at hp
 case h_2=>cases hp
 rename_i d key nxt found loaded e1 e3 e4 e2
 split at hp
 case h_2=>cases hp
 rename_i l2 t2 n2 st l s hs hm
 simp only [sI',pI']at hp
 obtain⟨rfl,rfl⟩:=hp
 obtain⟨⟨rfl,rfl⟩,hl,hl2⟩:=hq
 have hh:=bA hm hl
 cases hh
 have hh:=cD hs hl2
 cases hh
 refine qQ hK (fun h=>?_) (fun h=>?_)
 ·exact⟨⟨_,_,(aF.pack (prD t2 n2 (⟨key,nxt,found,loaded⟩:PRS) st s) (.store t2 n2 st) 1 0 (dG t2 n2 st) [] (by kernel_rfl) rfl rfl (by kernel_rfl)),h⟩⟩
 ·exact⟨⟨_,_,((aF.pack (a7 (prH t2 n2 (⟨key,nxt,found,loaded⟩:PRS) st s) 0 1 (lL t2 n2 (⟨key,nxt,found,loaded⟩:PRS)) [1]) (.store t2 n2 st) 1 0 (dG t2 n2 st) [] (by kernel_rfl) rfl rfl (by kernel_rfl)).trans (aF.pack (prH t2 n2 (⟨key,nxt,found,loaded⟩:PRS) st s) (.prepare t2 n2 (⟨key,nxt,found,loaded⟩:PRS)) 0 1 (lL t2 n2 (⟨key,nxt,found,loaded⟩:PRS)) [1] (by kernel_rfl) rfl (congrArg (Prod.mk 1) rfl) (by kernel_rfl))),h⟩⟩
theorem aAe{t n:Int} :cA (obI tbl) 4 (prP t n) (PrO.fin t n):=by
 intro v g p x hp hq K hK
 unfold prP at hp
 exact UL v g p x hp hq K hK
def LB(t n:Int)(x:PRS)(st:STS)(s:MS):Tr PrO:=.ite (!x.4) (.pre (lE' s.3∧(0:Int)≤s.4∧s.4≤(4611686018427387904:Int)) (.pre ((t=t∧n=n)∧lE' s.3∧lE' st.3) (.ret {d:=false,x:= {key:=x.1,nxt:=x.2,found:=aB s.3 st.2,loaded:=true},st:= {me:=st.1,sp:=st.2,R:=st.3},s:= {s with c:=s.4+1,k:=1,a:=st.2,o:=aB s.3 st.2,w:=aB s.3 st.2,ok:=bM s.3 st.2} }))) (.pre True (.pre ((0:Int)≤aA x.3 25 18∧aA x.3 25 (18:Int)≤(1000000:Int)) (.pre True (.pre (lE' s.3∧(0:Int)≤s.4∧s.4≤(4611686018427387904:Int)) (.pre ((t=t∧n=n)∧lE' (aL s.3 st.2 (bif bif aG x.1 10 then bif aG x.2 9 then bif aG 0 5 then aG (aQ (aA x.3 25 18)) 18 else false else false else false then bD x.1 x.2 false 0 (aQ (aA x.3 25 18))else 0))∧lE' st.3) (.ret {d:=true,x:= x,st:= {me:=st.1,sp:=st.2,R:=st.3},s:= {t:=s.1,n:=s.2,xs:=aL s.3 st.2 (bif bif aG x.1 10 then bif aG x.2 9 then bif aG 0 5 then aG (aQ (aA x.3 25 18)) 18 else false else false else false then bD x.1 x.2 false 0 (aQ (aA x.3 25 18))else 0),c:=s.4+1,k:=2,a:=st.2,o:=aB s.3 st.2,w:=bif bM s.3 st.2 then bif bif aG x.1 10 then bif aG x.2 9 then bif aG 0 5 then aG (aQ (aA x.3 25 18)) 18 else false else false else false then bD x.1 x.2 false 0 (aQ (aA x.3 25 18))else 0 else 0,ok:=bM s.3 st.2} }))))))
theorem PB(t n:Int)(x:PRS)(st:STS)(s:MS)(K:PrO→Prop)(h:(LB t n x st s).run K):cT' 98 [.ptr 0 0,.ptr 2 0] [some (.cells [.ptr 1 0,.int .i64 x.key,.int .i64 x.nxt,.int .u64 x.found,.bool x.loaded]),stC 4 t n st,a8 3 s,a9 s,fS st] (cC 4 0 [] [(.cell 1 4,.ints (some .i64))] (prP t n) K):=by
 exact cM' (E:=EC6) (by kernel_rfl) h
def WG(t n:Int)(x:PRS)(st:STS)(s:MS):Tr PrO:=LB t n x st s
def prF(t n:Int)(x:PRS)(st:STS)(s:MS):PrO:=(WG t n x st s).val
def PA(t n:Int)(x:PRS)(st:STS)(s:MS):Prop:=(WG t n x st s).ok
theorem H6(t n:Int)(x:PRS)(st:STS)(s:MS)(K:AVal→aD Ob→Prop)(h:(WG t n x st s).run (fun y=>(PrO.fin t n y).run K)):cT' 98 [.ptr 0 0,.ptr 2 0] (prH t n x st s) K:=by
 unfold WG at h
 exact aC9 (root:=0) (pos:=[]) (cs:=[(.cell 1 4,.ints (some .i64))]) (parse:=prP t n) (fin:=PrO.fin t n) aAe ((bE.unpack (.prepare t n x) 0 1 (lL t n x) [1] rfl (congrArg (Prod.mk 1) rfl) (by kernel_rfl) rfl).trans (bE.unpack (.store t n st) 1 0 (dG t n st) [] rfl rfl rfl rfl)) (PB t n x st s _ h)
noncomputable def prSA:aJ Ob:=fun args h=>match args,h with
 | [.ptr 0 0,.ptr 2 0],[some (.abs (.prepare t n x) [1]),some (.abs (.store t2 n2 st) []),e3,e4]=>(match cW 3 [e3,e4]with
   | some (l,s)=>some (.pre ((l=s.xs.length∧t2=t∧n2=n)∧PA t n x st s) (PrO.fin t n (prF t n x st s)))
   | none=>none)
 | _,_=>none
theorem aAf:sT' 98 prSA:=by
 intro args h o ho K hK
 unfold prSA at ho
 split at ho
 case h_2=>cases ho
 split at ho<;>cases ho
 rename_i hm
 obtain⟨⟨⟨hl,rfl,rfl⟩,ok⟩,hK⟩:=hK
 have hh:=bA hm hl
 cases hh
 exact H6 _ _ _ _ _ K (aDe ok hK)
def PrO.finB(t n:Int)(y:PrO):Out Ob:=.ite y.d (.ret (.bool true) ([some (.cells [.ptr 1 0,.int .i64 y.x.key,.int .i64 y.x.nxt,.int .u64 y.x.found,.bool y.x.loaded]),stC 5 t n y.st,none,a8 4 y.s,a9 y.s,fS y.st])) (.ret (.bool false) [some (.abs (.prepare t n y.x) [1]),stC 5 t n y.st,none,a8 4 y.s,a9 y.s,fS y.st])
noncomputable def prSB:aJ Ob:=fun args h=>match args,h with
 | [.ptr 0 0,.ptr 3 0],[some (.abs (.prepare t n x) [1]),e1,e2,e3,e4]=>(match j9 2 [e1,e2],cW 4 [e3,e4]with
   | some (l2,t2,n2,st),some (l,s)=>some (.pre ((l=s.xs.length∧l2=st.R.length∧t2=t∧n2=n)∧PA t n x st s) (PrO.finB t n (prF t n x st s)))
   | _,_=>none)
 | _,_=>none
theorem aAg:sT' 98 prSB:=by
 intro args h o ho K hK
 unfold prSB at ho
 split at ho
 case h_2=>cases ho
 split at ho<;>cases ho
 rename_i hs hm
 obtain⟨⟨⟨hl,hl2,rfl,rfl⟩,ok⟩,hK⟩:=hK
 have hh:=bA hm hl
 cases hh
 have hh:=cD hs hl2
 cases hh
 exact i6 (fun ι hι=>by simp [aK.ren,aDg,AVal.ren,hι]) (fun ι hι=>by simp [aK.ren,hι]) (fun K hK=>H6 _ _ _ _ _ K (aDe ok hK)) K hK
noncomputable def prS:aJ Ob:=aJ.or prSA prSB
theorem aBR:sT' 98 prS:=aDn aAf aAg
def aAb(t n:Int)(v:AVal)(g:aD Ob):Option (Prop×(PRS×STS)):=match v,g with
 | .ptr 2 0,[e1,e2,some (.cells [.ptr 0 0,.int .i64 key,.int .i64 nxt,.int .u64 found,.bool loaded])]=>(match j9 1 [e1,e2]with
   | some (l2,t2,n2,st)=>some ((t2=t∧n2=n∧l2=st.R.length),⟨(⟨key,nxt,found,loaded⟩:PRS),st⟩)
   | none=>none)
 | _,_=>none
abbrev UI(t n:Int)(y:(PRS×STS)):aD Ob:=[stC 1 t n y.2,fS y.2,some (.abs (.prepare t n y.1) [0])]
theorem UJ{t n:Int} :cA (obI tbl) 2 (aAb t n) (fun y=>.ret (.ptr 2 0) (UI t n y)):=by
 intro v g p x hp hq K hK
 unfold aAb at hp
 split at hp
 case h_2=>cases hp
 rename_i e1 e2 key nxt found loaded
 split at hp
 case h_2=>cases hp
 rename_i l2 t2 n2 st hs
 simp only [sI',pI']at hp
 obtain⟨rfl,rfl⟩:=hp
 obtain⟨rfl,rfl,hl2⟩:=hq
 have hh:=cD hs hl2
 cases hh
 exact⟨⟨_,_,aF.pack (UI t2 n2 ((⟨key,nxt,found,loaded⟩:PRS),st)) (.prepare t2 n2 (⟨key,nxt,found,loaded⟩:PRS)) 2 1 (lL t2 n2 (⟨key,nxt,found,loaded⟩:PRS)) [0] (by kernel_rfl) rfl (congrArg (Prod.mk 1) rfl) (by kernel_rfl),hK⟩⟩
def UK(t n:Int)(key nx:Int)(st:STS):Tr (PRS×STS):=.pre (t=t∧n=n∧lE' st.3) (.ret ({key:=key,nxt:=nx,found:=0,loaded:=false},{me:=st.1,sp:=st.2,R:=st.3}))
def lK(t n:Int)(key nx:Int)(st:STS):(PRS×STS):=(UK t n key nx st).val
def C3(t n:Int)(key nx:Int)(st:STS):Prop:=(UK t n key nx st).ok
def prNS:aJ Ob:=fun args h=>match args,h with
 | [.ptr 0 0,.int .i64 key,.int .i64 nx],[e1,e2]=>(match j9 1 [e1,e2]with
   | some (l2,t,n,st)=>some (.pre (l2=st.R.length∧C3 t n key nx st) (.ret (.ptr 2 0) (UI t n (lK t n key nx st))))
   | none=>none)
 | _,_=>none
theorem aAc:sT' 160 prNS:=by
 intro args h o ho K hK
 unfold prNS at ho
 split at ho
 case h_2=>cases ho
 rename_i key nx e1 e2
 split at ho<;>cases ho
 rename_i l2 t n st hs
 obtain⟨⟨hl2,ok⟩,hK⟩:=hK
 have hh:=cD hs hl2
 cases hh
 refine aDh (root:=2) (pos:=[]) (cs:=[]) (parse:=aAb t n) UJ ?_
 exact cM' (E:=EC6) (q:=(UK t n key nx st).run (fun y=>(Out.ret (.ptr 2 0) (UI t n y)).run K)) (by kernel_rfl) (aDe ok hK)
noncomputable def EC7:=((EC6.addS 98 prS aBR).addS 160 prNS aAc)
structure FnO where
 d:Bool
 x:FNS
 s:MS
instance:Inhabited FnO:=⟨⟨false,aM,⟨0,0,[],0,0,0,0,0,false⟩⟩⟩
instance:Inhabited FNS:=⟨aM⟩
abbrev fnH(t n:Int)(x:FNS)(s:MS):aD Ob:=[some (.abs (.find t n x) []),a8 2 s,a9 s]
abbrev fnD(t n:Int)(x:FNS)(s:MS):aD Ob:=[some (.cells [.int .i64 t,.int .i64 n,.int .i64 x.pred,.int .u64 x.pw,.int .i64 x.curr,.int .u64 x.cw,.int .i64 x.tries,.slice 3 0 x.ul.length 1,.bool x.ab,.int .i64 x.me,.int .i64 x.frm,.int .i64 x.key,.int .i64 x.limit,.int .i64 x.at',.int .i64 x.moved,.O]),a8 2 s,a9 s,some (.ints (some .i64) x.ul)]
def FnO.fin(t n:Int)(y:FnO):Out Ob:=.ite y.d (.ret (.bool true) (fnD t n y.x y.s)) (.ret (.bool false) (fnH t n y.x y.s))
def Y3(t n:Int)(v:AVal)(g:aD Ob):Option (Prop×FnO):=match v,g with
 | .bool d,[some (.cells [.int .i64 t1,.int .i64 n1,.int .i64 pred,.int .u64 pw,.int .i64 curr,.int .u64 cw,.int .i64 tries,.slice 3 0 ul_l 1,.bool ab,.int .i64 me,.int .i64 frm,.int .i64 key,.int .i64 limit,.int .i64 at',.int .i64 moved,.O]),e1,e2,some (.ints (some .i64) ul)]=>(match cW 2 [e1,e2]with
   | some (l,s)=>some ((t1=t∧n1=n)∧ul_l=ul.length∧(d=false→at'≠4)∧l=s.xs.length,⟨d,⟨pred,pw,curr,cw,tries,ul,ab,me,frm,key,limit,at',moved,⟨0,0,0,0⟩⟩,s⟩)
   | none=>none)
 | _,_=>none
def Y4(t n:Int)(v:AVal)(g:aD Ob):Option (Prop×FnO):=match v,g with
 | .bool d,[some (.cells [.int .i64 t1,.int .i64 n1,.int .i64 pred,.int .u64 pw,.int .i64 curr,.int .u64 cw,.int .i64 tries,.slice 3 0 ul_l 1,.bool ab,.int .i64 me,.int .i64 frm,.int .i64 key,.int .i64 limit,.int .i64 at',.int .i64 moved,.ptr 4 0]),e1,e2,some (.ints (some .i64) ul),some (.abs (.clear t' n' sub) [])]=>(match cW 2 [e1,e2]with
   | some (l,s)=>some ((t1=t∧n1=n)∧ul_l=ul.length∧t'=t∧n'=n∧(d=false→at'=4)∧l=s.xs.length,⟨d,⟨pred,pw,curr,cw,tries,ul,ab,me,frm,key,limit,at',moved,sub⟩,s⟩)
   | none=>none)
 | _,_=>none
def DI(t n:Int)(v:AVal)(g:aD Ob):Option (Prop×FnO):=(match Y3 t n v g with
 | some r=>some r
 | none=>Y4 t n v g)
theorem SU{t n:Int} :cA (obI tbl) 3 (Y3 t n) (FnO.fin t n):=by
 intro v g p x hp hq K hK
 unfold Y3 at hp
 split at hp
 case h_2=>cases hp
 rename_i d t1 n1 pred pw curr cw tries ul_l ab me frm key limit at' moved e1 e2 ul
 split at hp
 case h_2=>cases hp
 rename_i l s hm
 simp only [sI',pI']at hp
 obtain⟨rfl,rfl⟩:=hp
 obtain⟨⟨rfl,rfl⟩,rfl,hat,hl⟩:=hq
 have hh:=bA hm hl
 cases hh
 refine fC hK (fun h=>?_) (fun hd h=>?_)
 ·exact⟨⟨_,_,aF.refl _ _ _,h⟩⟩
 ·exact⟨⟨_,_,(aF.pack (fnH t1 n1 (⟨pred,pw,curr,cw,tries,ul,ab,me,frm,key,limit,at',moved,⟨0,0,0,0⟩⟩:FNS) s) (.find t1 n1 (⟨pred,pw,curr,cw,tries,ul,ab,me,frm,key,limit,at',moved,⟨0,0,0,0⟩⟩:FNS)) 0 0 (kH t1 n1 (⟨pred,pw,curr,cw,tries,ul,ab,me,frm,key,limit,at',moved,⟨0,0,0,0⟩⟩:FNS)) [] (by kernel_rfl) rfl (congrArg (Prod.mk 0) (gY (hat hd))) (by kernel_rfl)),h⟩⟩
theorem SV{t n:Int} :cA (obI tbl) 3 (Y4 t n) (FnO.fin t n):=by
 intro v g p x hp hq K hK
 unfold Y4 at hp
 split at hp
 case h_2=>cases hp
 rename_i d t1 n1 pred pw curr cw tries ul_l ab me frm key limit at' moved e1 e2 ul t' n' sub
 split at hp
 case h_2=>cases hp
 rename_i l s hm
 simp only [sI',pI']at hp
 obtain⟨rfl,rfl⟩:=hp
 obtain⟨⟨rfl,rfl⟩,rfl,rfl,rfl,hat,hl⟩:=hq
 have hh:=bA hm hl
 cases hh
 refine fC hK (fun h=>?_) (fun hd h=>?_)
 ·exact⟨⟨_,_,(aF.weak (b9 _ 0 [15])).trans ((aF.pick (upto 0 4) rfl).trans (aF.eq (by kernel_rfl) (by kernel_rfl))),h⟩⟩
 ·exact⟨⟨_,_,(aF.pack (fnH t' n' (⟨pred,pw,curr,cw,tries,ul,ab,me,frm,key,limit,at',moved,sub⟩:FNS) s) (.find t' n' (⟨pred,pw,curr,cw,tries,ul,ab,me,frm,key,limit,at',moved,sub⟩:FNS)) 0 0 (p8 t' n' (⟨pred,pw,curr,cw,tries,ul,ab,me,frm,key,limit,at',moved,sub⟩:FNS)) [] (by kernel_rfl) rfl (congrArg (Prod.mk 0) (HM (hat hd))) (by kernel_rfl)),h⟩⟩
theorem o0{t n:Int} :cA (obI tbl) 3 (DI t n) (FnO.fin t n):=by
 intro v g p x hp hq K hK
 unfold DI at hp
 split at hp
 ·rename_i r hr
  cases hp
  exact SU v g p x hr hq K hK
 exact SV v g p x hp hq K hK
def uK(t n:Int)(x:FNS)(s:MS):Tr FnO:=.pre (lE' s.3∧(0:Int)≤s.4∧s.4≤(4611686018427387904:Int)) (.pre True (.ite (ieq (aA (aB s.3 x.1) 19 1) 1) (.ite (ilt x.11 (W (x.5+1))) (.ite (ilt x.11 (W (x.5+1))) (.pre ((t=t∧n=n)∧lE' x.6∧(true=false→(0:Int)≠(4:Int))∧lE' s.3) (.ret {d:=true,x:= {x with pred:=0,pw:=0,curr:=0,cw:=0,tries:=W (x.5+1),ab:=ilt x.11 (W (x.5+1)),at':=0,cl:=bC},s:= {s with c:=s.4+1,k:=1,a:=x.1,o:=aB s.3 x.1,w:=aB s.3 x.1,ok:=bM s.3 x.1} })) (.pre True (.ite (ieq (aA (aB s.3 x.1) 19 1) 1) (.pre ((t=t∧n=n)∧lE' x.6∧(false=false→(0:Int)≠(4:Int))∧lE' s.3) (.ret {d:=false,x:= {x with pred:=x.9,pw:=0,curr:=0,cw:=0,tries:=W (x.5+1),ab:=ilt x.11 (W (x.5+1)),at':=0,moved:=0,cl:=bC},s:= {s with c:=s.4+1,k:=1,a:=x.1,o:=aB s.3 x.1,w:=aB s.3 x.1,ok:=bM s.3 x.1} })) (.pre ((t=t∧n=n)∧lE' x.6∧(ieq (aA (aB s.3 x.1) 10 9) (0:Int)=false→(1:Int)≠(4:Int))∧lE' s.3) (.ret {d:=ieq (aA (aB s.3 x.1) 10 9) 0,x:= {x with pred:=0,pw:=aB s.3 x.1,curr:=aA (aB s.3 x.1) 10 9,cw:=0,tries:=W (x.5+1),ab:=ilt x.11 (W (x.5+1)),at':=1,cl:=bC},s:= {s with c:=s.4+1,k:=1,a:=x.1,o:=aB s.3 x.1,w:=aB s.3 x.1,ok:=bM s.3 x.1} }))))) (.ite (ilt x.11 (W (x.5+1))) (.pre ((t=t∧n=n)∧lE' x.6∧(true=false→(0:Int)≠(4:Int))∧lE' s.3) (.ret {d:=true,x:= {x with tries:=W (x.5+1),ab:=ilt x.11 (W (x.5+1)),at':=0,cl:=bC},s:= {s with c:=s.4+1,k:=1,a:=x.1,o:=aB s.3 x.1,w:=aB s.3 x.1,ok:=bM s.3 x.1} })) (.pre True (.ite (ieq (aA (aB s.3 x.1) 19 1) 1) (.pre ((t=t∧n=n)∧lE' x.6∧(false=false→(0:Int)≠(4:Int))∧lE' s.3) (.ret {d:=false,x:= {x with pred:=x.9,tries:=W (x.5+1),ab:=ilt x.11 (W (x.5+1)),at':=0,moved:=0,cl:=bC},s:= {s with c:=s.4+1,k:=1,a:=x.1,o:=aB s.3 x.1,w:=aB s.3 x.1,ok:=bM s.3 x.1} })) (.pre ((t=t∧n=n)∧lE' x.6∧(ieq (aA (aB s.3 x.1) 10 9) (0:Int)=false→(1:Int)≠(4:Int))∧lE' s.3) (.ret {d:=ieq (aA (aB s.3 x.1) 10 9) 0,x:= {x with pw:=aB s.3 x.1,curr:=aA (aB s.3 x.1) 10 9,cw:=0,tries:=W (x.5+1),ab:=ilt x.11 (W (x.5+1)),at':=1,cl:=bC},s:= {s with c:=s.4+1,k:=1,a:=x.1,o:=aB s.3 x.1,w:=aB s.3 x.1,ok:=bM s.3 x.1} })))))) (.pre True (.ite (ieq (aA (aB s.3 x.1) 19 1) 1) (.pre ((t=t∧n=n)∧lE' x.6∧(false=false→(0:Int)≠(4:Int))∧lE' s.3) (.ret {d:=false,x:= {x with pred:=x.9,at':=0,moved:=0,cl:=bC},s:= {s with c:=s.4+1,k:=1,a:=x.1,o:=aB s.3 x.1,w:=aB s.3 x.1,ok:=bM s.3 x.1} })) (.pre ((t=t∧n=n)∧lE' x.6∧(ieq (aA (aB s.3 x.1) 10 9) (0:Int)=false→(1:Int)≠(4:Int))∧lE' s.3) (.ret {d:=ieq (aA (aB s.3 x.1) 10 9) 0,x:= {x with pw:=aB s.3 x.1,curr:=aA (aB s.3 x.1) 10 9,cw:=0,at':=1,cl:=bC},s:= {s with c:=s.4+1,k:=1,a:=x.1,o:=aB s.3 x.1,w:=aB s.3 x.1,ok:=bM s.3 x.1} }))))))
theorem JV(t n:Int)(x:FNS)(s:MS)(K:FnO→Prop)(h:(uK t n x s).run K):cT' 94 [.ptr 0 0,.ptr 1 0] [some (.cells [.int .i64 t,.int .i64 n,.int .i64 x.pred,.int .u64 x.pw,.int .i64 x.curr,.int .u64 x.cw,.int .i64 x.tries,.slice 3 0 x.ul.length 1,.bool x.ab,.int .i64 x.me,.int .i64 x.frm,.int .i64 x.key,.int .i64 x.limit,.int .i64 0,.int .i64 x.moved,.O]),a8 2 s,a9 s,some (.ints (some .i64) x.ul)] (cC 3 0 [15] [(.cell 0 7,.ints (some .i64))] (DI t n) K):=by
 exact cM' (E:=EC7) (by kernel_rfl) h
def w7(t n:Int)(x:FNS)(s:MS):Tr FnO:=.pre ((((0:Int)≤t∧t≤(100000:Int))∧((0:Int)≤n∧n≤(100000:Int))∧((-1099511627776:Int)≤x.8∧x.8≤(1099511627776:Int))∧(-1099511627776:Int)≤(1:Int)∧(1:Int)≤(1099511627776:Int))∧True) (.pre ((lE' s.3∧(0:Int)≤s.4∧s.4≤(4611686018427387904:Int))∧True) (.pre ((t=t∧n=n)∧lE' x.6∧(false=false→(2:Int)≠(4:Int))∧lE' (aL s.3 (2*n+5+2*x.8+1) (WU x.3))) (.ret {d:=false,x:= {x with at':=2,cl:=bC},s:= {t:=s.1,n:=s.2,xs:=aL s.3 (2*n+5+2*x.8+1) (WU x.3),c:=s.4+1,k:=2,a:=2*n+5+2*x.8+1,o:=aB s.3 (2*n+5+2*x.8+1),w:=bif bM s.3 (2*n+5+2*x.8+1)then WU x.3 else 0,ok:=bM s.3 (2*n+5+2*x.8+1) } })))
theorem JW(t n:Int)(x:FNS)(s:MS)(K:FnO→Prop)(h:(w7 t n x s).run K):cT' 94 [.ptr 0 0,.ptr 1 0] [some (.cells [.int .i64 t,.int .i64 n,.int .i64 x.pred,.int .u64 x.pw,.int .i64 x.curr,.int .u64 x.cw,.int .i64 x.tries,.slice 3 0 x.ul.length 1,.bool x.ab,.int .i64 x.me,.int .i64 x.frm,.int .i64 x.key,.int .i64 x.limit,.int .i64 1,.int .i64 x.moved,.O]),a8 2 s,a9 s,some (.ints (some .i64) x.ul)] (cC 3 0 [15] [(.cell 0 7,.ints (some .i64))] (DI t n) K):=by
 exact cM' (E:=EC7) (by kernel_rfl) h
def uL(t n:Int)(x:FNS)(s:MS):Tr FnO:=.pre (lE' s.3∧(0:Int)≤s.4∧s.4≤(4611686018427387904:Int)) (.ite (!ieq (aB s.3 x.1) x.2) (.ite (ilt x.11 (W (x.5+1))) (.ite (ilt x.11 (W (x.5+1))) (.pre ((t=t∧n=n)∧lE' x.6∧(true=false→(2:Int)≠(4:Int))∧lE' s.3) (.ret {d:=true,x:= {x with pred:=0,pw:=0,curr:=0,cw:=0,tries:=W (x.5+1),ab:=ilt x.11 (W (x.5+1)),at':=2,cl:=bC},s:= {s with c:=s.4+1,k:=1,a:=x.1,o:=aB s.3 x.1,w:=aB s.3 x.1,ok:=bM s.3 x.1} })) (.pre True (.ite (ieq (aA (aB s.3 x.1) 19 1) 1) (.pre ((t=t∧n=n)∧lE' x.6∧(false=false→(0:Int)≠(4:Int))∧lE' s.3) (.ret {d:=false,x:= {x with pred:=x.9,pw:=0,curr:=0,cw:=0,tries:=W (x.5+1),ab:=ilt x.11 (W (x.5+1)),at':=0,moved:=0,cl:=bC},s:= {s with c:=s.4+1,k:=1,a:=x.1,o:=aB s.3 x.1,w:=aB s.3 x.1,ok:=bM s.3 x.1} })) (.pre ((t=t∧n=n)∧lE' x.6∧(ieq (aA (aB s.3 x.1) 10 9) (0:Int)=false→(1:Int)≠(4:Int))∧lE' s.3) (.ret {d:=ieq (aA (aB s.3 x.1) 10 9) 0,x:= {x with pred:=0,pw:=aB s.3 x.1,curr:=aA (aB s.3 x.1) 10 9,cw:=0,tries:=W (x.5+1),ab:=ilt x.11 (W (x.5+1)),at':=1,cl:=bC},s:= {s with c:=s.4+1,k:=1,a:=x.1,o:=aB s.3 x.1,w:=aB s.3 x.1,ok:=bM s.3 x.1} }))))) (.ite (ilt x.11 (W (x.5+1))) (.pre ((t=t∧n=n)∧lE' x.6∧(true=false→(2:Int)≠(4:Int))∧lE' s.3) (.ret {d:=true,x:= {x with tries:=W (x.5+1),ab:=ilt x.11 (W (x.5+1)),at':=2,cl:=bC},s:= {s with c:=s.4+1,k:=1,a:=x.1,o:=aB s.3 x.1,w:=aB s.3 x.1,ok:=bM s.3 x.1} })) (.pre True (.ite (ieq (aA (aB s.3 x.1) 19 1) 1) (.pre ((t=t∧n=n)∧lE' x.6∧(false=false→(0:Int)≠(4:Int))∧lE' s.3) (.ret {d:=false,x:= {x with pred:=x.9,tries:=W (x.5+1),ab:=ilt x.11 (W (x.5+1)),at':=0,moved:=0,cl:=bC},s:= {s with c:=s.4+1,k:=1,a:=x.1,o:=aB s.3 x.1,w:=aB s.3 x.1,ok:=bM s.3 x.1} })) (.pre ((t=t∧n=n)∧lE' x.6∧(ieq (aA (aB s.3 x.1) 10 9) (0:Int)=false→(1:Int)≠(4:Int))∧lE' s.3) (.ret {d:=ieq (aA (aB s.3 x.1) 10 9) 0,x:= {x with pw:=aB s.3 x.1,curr:=aA (aB s.3 x.1) 10 9,cw:=0,tries:=W (x.5+1),ab:=ilt x.11 (W (x.5+1)),at':=1,cl:=bC},s:= {s with c:=s.4+1,k:=1,a:=x.1,o:=aB s.3 x.1,w:=aB s.3 x.1,ok:=bM s.3 x.1} })))))) (.pre ((t=t∧n=n)∧lE' x.6∧(false=false→(3:Int)≠(4:Int))∧lE' s.3) (.ret {d:=false,x:= {x with at':=3,cl:=bC},s:= {s with c:=s.4+1,k:=1,a:=x.1,o:=aB s.3 x.1,w:=aB s.3 x.1,ok:=bM s.3 x.1} })))
theorem JX(t n:Int)(x:FNS)(s:MS)(K:FnO→Prop)(h:(uL t n x s).run K):cT' 94 [.ptr 0 0,.ptr 1 0] [some (.cells [.int .i64 t,.int .i64 n,.int .i64 x.pred,.int .u64 x.pw,.int .i64 x.curr,.int .u64 x.cw,.int .i64 x.tries,.slice 3 0 x.ul.length 1,.bool x.ab,.int .i64 x.me,.int .i64 x.frm,.int .i64 x.key,.int .i64 x.limit,.int .i64 2,.int .i64 x.moved,.O]),a8 2 s,a9 s,some (.ints (some .i64) x.ul)] (cC 3 0 [15] [(.cell 0 7,.ints (some .i64))] (DI t n) K):=by
 exact cM' (E:=EC7) (by kernel_rfl) h
def nA(t n:Int)(x:FNS)(s:MS):Tr FnO:=.pre (lE' s.3∧(0:Int)≤s.4∧s.4≤(4611686018427387904:Int)) (.pre True (.ite (!ieq (aA (aB s.3 x.3) 19 1) 1) (.ite (ile x.10 (aA (aB s.3 x.3) 0 10)) (.pre ((t=t∧n=n)∧lE' x.6∧(true=false→(3:Int)≠(4:Int))∧lE' s.3) (.ret {d:=true,x:= {x with cw:=aB s.3 x.3,at':=3,cl:=bC},s:= {s with c:=s.4+1,k:=1,a:=x.3,o:=aB s.3 x.3,w:=aB s.3 x.3,ok:=bM s.3 x.3} })) (.ite (!ieq (aA (aB s.3 x.3) 19 1) 1) (.pre ((t=t∧n=n)∧lE' x.6∧(false=false→(6:Int)≠(4:Int))∧lE' s.3) (.ret {d:=false,x:= {x with cw:=aB s.3 x.3,at':=6,cl:=bC},s:= {s with c:=s.4+1,k:=1,a:=x.3,o:=aB s.3 x.3,w:=aB s.3 x.3,ok:=bM s.3 x.3} })) (.ite (!ieq (aA (aB s.3 x.3) 20 5) 0) (.pre (pO t n x.3∧True) (.pre ((t=t∧n=n)∧lE' x.6∧t=t∧n=n∧(false=false→(4:Int)=(4:Int))∧lE' s.3) (.ret {d:=false,x:= {x with cw:=aB s.3 x.3,at':=4,cl:=yK t n x.3},s:= {s with c:=s.4+1,k:=1,a:=x.3,o:=aB s.3 x.3,w:=aB s.3 x.3,ok:=bM s.3 x.3} }))) (.pre True (.ite (!ieq (aA x.2 20 5) 0) (.pre (pO t n x.1∧True) (.pre ((t=t∧n=n)∧lE' x.6∧t=t∧n=n∧(false=false→(4:Int)=(4:Int))∧lE' s.3) (.ret {d:=false,x:= {x with cw:=aB s.3 x.3,at':=4,cl:=yK t n x.1},s:= {s with c:=s.4+1,k:=1,a:=x.3,o:=aB s.3 x.3,w:=aB s.3 x.3,ok:=bM s.3 x.3} }))) (.pre ((t=t∧n=n)∧lE' x.6∧(false=false→(5:Int)≠(4:Int))∧lE' s.3) (.ret {d:=false,x:= {x with cw:=aB s.3 x.3,at':=5,cl:=bC},s:= {s with c:=s.4+1,k:=1,a:=x.3,o:=aB s.3 x.3,w:=aB s.3 x.3,ok:=bM s.3 x.3} }))))))) (.ite (!ieq (aA (aB s.3 x.3) 19 1) 1) (.pre ((t=t∧n=n)∧lE' x.6∧(false=false→(6:Int)≠(4:Int))∧lE' s.3) (.ret {d:=false,x:= {x with cw:=aB s.3 x.3,at':=6,cl:=bC},s:= {s with c:=s.4+1,k:=1,a:=x.3,o:=aB s.3 x.3,w:=aB s.3 x.3,ok:=bM s.3 x.3} })) (.ite (!ieq (aA (aB s.3 x.3) 20 5) 0) (.pre (pO t n x.3∧True) (.pre ((t=t∧n=n)∧lE' x.6∧t=t∧n=n∧(false=false→(4:Int)=(4:Int))∧lE' s.3) (.ret {d:=false,x:= {x with cw:=aB s.3 x.3,at':=4,cl:=yK t n x.3},s:= {s with c:=s.4+1,k:=1,a:=x.3,o:=aB s.3 x.3,w:=aB s.3 x.3,ok:=bM s.3 x.3} }))) (.pre True (.ite (!ieq (aA x.2 20 5) 0) (.pre (pO t n x.1∧True) (.pre ((t=t∧n=n)∧lE' x.6∧t=t∧n=n∧(false=false→(4:Int)=(4:Int))∧lE' s.3) (.ret {d:=false,x:= {x with cw:=aB s.3 x.3,at':=4,cl:=yK t n x.1},s:= {s with c:=s.4+1,k:=1,a:=x.3,o:=aB s.3 x.3,w:=aB s.3 x.3,ok:=bM s.3 x.3} }))) (.pre ((t=t∧n=n)∧lE' x.6∧(false=false→(5:Int)≠(4:Int))∧lE' s.3) (.ret {d:=false,x:= {x with cw:=aB s.3 x.3,at':=5,cl:=bC},s:= {s with c:=s.4+1,k:=1,a:=x.3,o:=aB s.3 x.3,w:=aB s.3 x.3,ok:=bM s.3 x.3} }))))))))
theorem JY(t n:Int)(x:FNS)(s:MS)(K:FnO→Prop)(h:(nA t n x s).run K):cT' 94 [.ptr 0 0,.ptr 1 0] [some (.cells [.int .i64 t,.int .i64 n,.int .i64 x.pred,.int .u64 x.pw,.int .i64 x.curr,.int .u64 x.cw,.int .i64 x.tries,.slice 3 0 x.ul.length 1,.bool x.ab,.int .i64 x.me,.int .i64 x.frm,.int .i64 x.key,.int .i64 x.limit,.int .i64 3,.int .i64 x.moved,.O]),a8 2 s,a9 s,some (.ints (some .i64) x.ul)] (cC 3 0 [15] [(.cell 0 7,.ints (some .i64))] (DI t n) K):=by
 exact cM' (E:=EC7) (by kernel_rfl) h
def B6(t n:Int)(x:FNS)(s:MS):Tr FnO:=.pre (lE' s.3∧MQ t n x.14 s) (.ite (dL t n x.14 s).1 (.ite (ilt x.11 (W (x.5+1))) (.pre ((t=t∧n=n)∧lE' x.6∧(ilt x.11 (W (x.5+1))=false→(0:Int)≠(4:Int))∧lE' (ClO.s (dL t n x.14 s)).3) (.ret {d:=ilt x.11 (W (x.5+1)),x:= {x with pred:=0,pw:=0,curr:=0,cw:=0,tries:=W (x.5+1),ab:=ilt x.11 (W (x.5+1)),at':=0,cl:=bC},s:= {t:=(ClO.s (dL t n x.14 s)).1,n:=(ClO.s (dL t n x.14 s)).2,xs:=(ClO.s (dL t n x.14 s)).3,c:=(ClO.s (dL t n x.14 s)).4,k:=(ClO.s (dL t n x.14 s)).5,a:=(ClO.s (dL t n x.14 s)).6,o:=(ClO.s (dL t n x.14 s)).7,w:=(ClO.s (dL t n x.14 s)).8,ok:=(ClO.s (dL t n x.14 s)).9} })) (.pre ((t=t∧n=n)∧lE' x.6∧(ilt x.11 (W (x.5+1))=false→(0:Int)≠(4:Int))∧lE' (ClO.s (dL t n x.14 s)).3) (.ret {d:=ilt x.11 (W (x.5+1)),x:= {x with tries:=W (x.5+1),ab:=ilt x.11 (W (x.5+1)),at':=0,cl:=bC},s:= {t:=(ClO.s (dL t n x.14 s)).1,n:=(ClO.s (dL t n x.14 s)).2,xs:=(ClO.s (dL t n x.14 s)).3,c:=(ClO.s (dL t n x.14 s)).4,k:=(ClO.s (dL t n x.14 s)).5,a:=(ClO.s (dL t n x.14 s)).6,o:=(ClO.s (dL t n x.14 s)).7,w:=(ClO.s (dL t n x.14 s)).8,ok:=(ClO.s (dL t n x.14 s)).9} }))) (.pre ((t=t∧n=n)∧lE' x.6∧t=t∧n=n∧(false=false→(4:Int)=(4:Int))∧lE' (ClO.s (dL t n x.14 s)).3) (.ret {d:=false,x:= {x with at':=4,cl:=(dL t n x.14 s).2},s:= {t:=(ClO.s (dL t n x.14 s)).1,n:=(ClO.s (dL t n x.14 s)).2,xs:=(ClO.s (dL t n x.14 s)).3,c:=(ClO.s (dL t n x.14 s)).4,k:=(ClO.s (dL t n x.14 s)).5,a:=(ClO.s (dL t n x.14 s)).6,o:=(ClO.s (dL t n x.14 s)).7,w:=(ClO.s (dL t n x.14 s)).8,ok:=(ClO.s (dL t n x.14 s)).9} })))
theorem JZ(t n:Int)(x:FNS)(s:MS)(K:FnO→Prop)(h:(B6 t n x s).run K):cT' 94 [.ptr 0 0,.ptr 1 0] [some (.cells [.int .i64 t,.int .i64 n,.int .i64 x.pred,.int .u64 x.pw,.int .i64 x.curr,.int .u64 x.cw,.int .i64 x.tries,.slice 3 0 x.ul.length 1,.bool x.ab,.int .i64 x.me,.int .i64 x.frm,.int .i64 x.key,.int .i64 x.limit,.int .i64 4,.int .i64 x.moved,.ptr 4 0]),a8 2 s,a9 s,some (.ints (some .i64) x.ul),some (.abs (.clear t n x.cl) [])] (cC 3 0 [15] [(.cell 0 7,.ints (some .i64))] (DI t n) K):=by
 exact cM' (E:=EC7) (by kernel_rfl) h
def uM(t n:Int)(x:FNS)(s:MS):Tr FnO:=.pre True (.pre True (.pre ((0:Int)≤aA x.2 25 18∧aA x.2 25 (18:Int)≤(1000000:Int)) (.pre True (.pre ((lE' s.3∧(0:Int)≤s.4∧s.4≤(4611686018427387904:Int))∧True) (.ite (!aR s.3 x.1 x.2) (.ite (ilt x.11 (W (x.5+1))) (.pre ((t=t∧n=n)∧lE' x.6∧(ilt x.11 (W (x.5+1))=false→(0:Int)≠(4:Int))∧lE' (bif aR s.3 x.1 x.2 then aL s.3 x.1 (bif bif aG (aA x.2 0 10) 10 then bif aG (aA x.4 10 9) 9 then bif aG (aA x.2 20 5) 5 then aG (aQ (aA x.2 25 18)) 18 else false else false else false then bD (aA x.2 0 10) (aA x.4 10 9) (ieq (aA x.2 19 1) 1) (aA x.2 20 5) (aQ (aA x.2 25 18))else 0)else s.3)) (.ret {d:=ilt x.11 (W (x.5+1)),x:= {x with pred:=0,pw:=0,curr:=0,cw:=0,tries:=W (x.5+1),ab:=ilt x.11 (W (x.5+1)),at':=0,cl:=bC},s:= {t:=s.1,n:=s.2,xs:=bif aR s.3 x.1 x.2 then aL s.3 x.1 (bif bif aG (aA x.2 0 10) 10 then bif aG (aA x.4 10 9) 9 then bif aG (aA x.2 20 5) 5 then aG (aQ (aA x.2 25 18)) 18 else false else false else false then bD (aA x.2 0 10) (aA x.4 10 9) (ieq (aA x.2 19 1) 1) (aA x.2 20 5) (aQ (aA x.2 25 18))else 0)else s.3,c:=s.4+1,k:=3,a:=x.1,o:=aB s.3 x.1,w:=bif bM s.3 x.1 then bif bif aG (aA x.2 0 10) 10 then bif aG (aA x.4 10 9) 9 then bif aG (aA x.2 20 5) 5 then aG (aQ (aA x.2 25 18)) 18 else false else false else false then bD (aA x.2 0 10) (aA x.4 10 9) (ieq (aA x.2 19 1) 1) (aA x.2 20 5) (aQ (aA x.2 25 18))else 0 else 0,ok:=aR s.3 x.1 x.2} })) (.pre ((t=t∧n=n)∧lE' x.6∧(ilt x.11 (W (x.5+1))=false→(0:Int)≠(4:Int))∧lE' (bif aR s.3 x.1 x.2 then aL s.3 x.1 (bif bif aG (aA x.2 0 10) 10 then bif aG (aA x.4 10 9) 9 then bif aG (aA x.2 20 5) 5 then aG (aQ (aA x.2 25 18)) 18 else false else false else false then bD (aA x.2 0 10) (aA x.4 10 9) (ieq (aA x.2 19 1) 1) (aA x.2 20 5) (aQ (aA x.2 25 18))else 0)else s.3)) (.ret {d:=ilt x.11 (W (x.5+1)),x:= {x with tries:=W (x.5+1),ab:=ilt x.11 (W (x.5+1)),at':=0,cl:=bC},s:= {t:=s.1,n:=s.2,xs:=bif aR s.3 x.1 x.2 then aL s.3 x.1 (bif bif aG (aA x.2 0 10) 10 then bif aG (aA x.4 10 9) 9 then bif aG (aA x.2 20 5) 5 then aG (aQ (aA x.2 25 18)) 18 else false else false else false then bD (aA x.2 0 10) (aA x.4 10 9) (ieq (aA x.2 19 1) 1) (aA x.2 20 5) (aQ (aA x.2 25 18))else 0)else s.3,c:=s.4+1,k:=3,a:=x.1,o:=aB s.3 x.1,w:=bif bM s.3 x.1 then bif bif aG (aA x.2 0 10) 10 then bif aG (aA x.4 10 9) 9 then bif aG (aA x.2 20 5) 5 then aG (aQ (aA x.2 25 18)) 18 else false else false else false then bD (aA x.2 0 10) (aA x.4 10 9) (ieq (aA x.2 19 1) 1) (aA x.2 20 5) (aQ (aA x.2 25 18))else 0 else 0,ok:=aR s.3 x.1 x.2} }))) (.pre (0=0∧lE' x.6∧1=1∧List.length x.6+(1:Nat)≤(4294967296:Nat)) (.ite (ile (W (x.13+1)) n) (.pre True (.ite (ieq (aA (bif bif aG (aA x.2 0 10) 10 then bif aG (aA x.4 10 9) 9 then bif aG (aA x.2 20 5) 5 then aG (aQ (aA x.2 25 18)) 18 else false else false else false then bD (aA x.2 0 10) (aA x.4 10 9) (ieq (aA x.2 19 1) 1) (aA x.2 20 5) (aQ (aA x.2 25 18))else 0) 19 1) 1) (.pre ((t=t∧n=n)∧List.length x.6+(1:Nat)=List.length (x.6++ [x.3])∧(false=false→(0:Int)≠(4:Int))∧lE' (bif aR s.3 x.1 x.2 then aL s.3 x.1 (bif bif aG (aA x.2 0 10) 10 then bif aG (aA x.4 10 9) 9 then bif aG (aA x.2 20 5) 5 then aG (aQ (aA x.2 25 18)) 18 else false else false else false then bD (aA x.2 0 10) (aA x.4 10 9) (ieq (aA x.2 19 1) 1) (aA x.2 20 5) (aQ (aA x.2 25 18))else 0)else s.3)) (.ret {d:=false,x:= {x with pred:=x.9,ul:=x.6++ [x.3],at':=0,moved:=0,cl:=bC},s:= {t:=s.1,n:=s.2,xs:=bif aR s.3 x.1 x.2 then aL s.3 x.1 (bif bif aG (aA x.2 0 10) 10 then bif aG (aA x.4 10 9) 9 then bif aG (aA x.2 20 5) 5 then aG (aQ (aA x.2 25 18)) 18 else false else false else false then bD (aA x.2 0 10) (aA x.4 10 9) (ieq (aA x.2 19 1) 1) (aA x.2 20 5) (aQ (aA x.2 25 18))else 0)else s.3,c:=s.4+1,k:=3,a:=x.1,o:=aB s.3 x.1,w:=bif bM s.3 x.1 then bif bif aG (aA x.2 0 10) 10 then bif aG (aA x.4 10 9) 9 then bif aG (aA x.2 20 5) 5 then aG (aQ (aA x.2 25 18)) 18 else false else false else false then bD (aA x.2 0 10) (aA x.4 10 9) (ieq (aA x.2 19 1) 1) (aA x.2 20 5) (aQ (aA x.2 25 18))else 0 else 0,ok:=aR s.3 x.1 x.2} })) (.pre ((t=t∧n=n)∧List.length x.6+(1:Nat)=List.length (x.6++ [x.3])∧(ieq (aA (bif bif aG (aA x.2 0 10) 10 then bif aG (aA x.4 10 9) 9 then bif aG (aA x.2 20 5) 5 then aG (aQ (aA x.2 25 18)) 18 else false else false else false then bD (aA x.2 0 10) (aA x.4 10 9) (ieq (aA x.2 19 1) 1) (aA x.2 20 5) (aQ (aA x.2 25 18))else 0) 10 9) (0:Int)=false→(1:Int)≠(4:Int))∧lE' (bif aR s.3 x.1 x.2 then aL s.3 x.1 (bif bif aG (aA x.2 0 10) 10 then bif aG (aA x.4 10 9) 9 then bif aG (aA x.2 20 5) 5 then aG (aQ (aA x.2 25 18)) 18 else false else false else false then bD (aA x.2 0 10) (aA x.4 10 9) (ieq (aA x.2 19 1) 1) (aA x.2 20 5) (aQ (aA x.2 25 18))else 0)else s.3)) (.ret {d:=ieq (aA (bif bif aG (aA x.2 0 10) 10 then bif aG (aA x.4 10 9) 9 then bif aG (aA x.2 20 5) 5 then aG (aQ (aA x.2 25 18)) 18 else false else false else false then bD (aA x.2 0 10) (aA x.4 10 9) (ieq (aA x.2 19 1) 1) (aA x.2 20 5) (aQ (aA x.2 25 18))else 0) 10 9) 0,x:= {x with pw:=bif bif aG (aA x.2 0 10) 10 then bif aG (aA x.4 10 9) 9 then bif aG (aA x.2 20 5) 5 then aG (aQ (aA x.2 25 18)) 18 else false else false else false then bD (aA x.2 0 10) (aA x.4 10 9) (ieq (aA x.2 19 1) 1) (aA x.2 20 5) (aQ (aA x.2 25 18))else 0,curr:=aA (bif bif aG (aA x.2 0 10) 10 then bif aG (aA x.4 10 9) 9 then bif aG (aA x.2 20 5) 5 then aG (aQ (aA x.2 25 18)) 18 else false else false else false then bD (aA x.2 0 10) (aA x.4 10 9) (ieq (aA x.2 19 1) 1) (aA x.2 20 5) (aQ (aA x.2 25 18))else 0) 10 9,cw:=0,ul:=x.6++ [x.3],at':=1,moved:=W (x.13+1),cl:=bC},s:= {t:=s.1,n:=s.2,xs:=bif aR s.3 x.1 x.2 then aL s.3 x.1 (bif bif aG (aA x.2 0 10) 10 then bif aG (aA x.4 10 9) 9 then bif aG (aA x.2 20 5) 5 then aG (aQ (aA x.2 25 18)) 18 else false else false else false then bD (aA x.2 0 10) (aA x.4 10 9) (ieq (aA x.2 19 1) 1) (aA x.2 20 5) (aQ (aA x.2 25 18))else 0)else s.3,c:=s.4+1,k:=3,a:=x.1,o:=aB s.3 x.1,w:=bif bM s.3 x.1 then bif bif aG (aA x.2 0 10) 10 then bif aG (aA x.4 10 9) 9 then bif aG (aA x.2 20 5) 5 then aG (aQ (aA x.2 25 18)) 18 else false else false else false then bD (aA x.2 0 10) (aA x.4 10 9) (ieq (aA x.2 19 1) 1) (aA x.2 20 5) (aQ (aA x.2 25 18))else 0 else 0,ok:=aR s.3 x.1 x.2} })))) (.ite (ilt x.11 (W (x.5+1))) (.ite (ilt x.11 (W (x.5+1))) (.pre ((t=t∧n=n)∧List.length x.6+(1:Nat)=List.length (x.6++ [x.3])∧(true=false→(5:Int)≠(4:Int))∧lE' (bif aR s.3 x.1 x.2 then aL s.3 x.1 (bif bif aG (aA x.2 0 10) 10 then bif aG (aA x.4 10 9) 9 then bif aG (aA x.2 20 5) 5 then aG (aQ (aA x.2 25 18)) 18 else false else false else false then bD (aA x.2 0 10) (aA x.4 10 9) (ieq (aA x.2 19 1) 1) (aA x.2 20 5) (aQ (aA x.2 25 18))else 0)else s.3)) (.ret {d:=true,x:= {x with pred:=0,pw:=0,curr:=0,cw:=0,tries:=W (x.5+1),ul:=x.6++ [x.3],ab:=ilt x.11 (W (x.5+1)),at':=5,moved:=W (x.13+1),cl:=bC},s:= {t:=s.1,n:=s.2,xs:=bif aR s.3 x.1 x.2 then aL s.3 x.1 (bif bif aG (aA x.2 0 10) 10 then bif aG (aA x.4 10 9) 9 then bif aG (aA x.2 20 5) 5 then aG (aQ (aA x.2 25 18)) 18 else false else false else false then bD (aA x.2 0 10) (aA x.4 10 9) (ieq (aA x.2 19 1) 1) (aA x.2 20 5) (aQ (aA x.2 25 18))else 0)else s.3,c:=s.4+1,k:=3,a:=x.1,o:=aB s.3 x.1,w:=bif bM s.3 x.1 then bif bif aG (aA x.2 0 10) 10 then bif aG (aA x.4 10 9) 9 then bif aG (aA x.2 20 5) 5 then aG (aQ (aA x.2 25 18)) 18 else false else false else false then bD (aA x.2 0 10) (aA x.4 10 9) (ieq (aA x.2 19 1) 1) (aA x.2 20 5) (aQ (aA x.2 25 18))else 0 else 0,ok:=aR s.3 x.1 x.2} })) (.pre ((t=t∧n=n)∧List.length x.6+(1:Nat)=List.length (x.6++ [x.3])∧(false=false→(0:Int)≠(4:Int))∧lE' (bif aR s.3 x.1 x.2 then aL s.3 x.1 (bif bif aG (aA x.2 0 10) 10 then bif aG (aA x.4 10 9) 9 then bif aG (aA x.2 20 5) 5 then aG (aQ (aA x.2 25 18)) 18 else false else false else false then bD (aA x.2 0 10) (aA x.4 10 9) (ieq (aA x.2 19 1) 1) (aA x.2 20 5) (aQ (aA x.2 25 18))else 0)else s.3)) (.ret {d:=false,x:= {x with pred:=x.9,pw:=0,curr:=0,cw:=0,tries:=W (x.5+1),ul:=x.6++ [x.3],ab:=ilt x.11 (W (x.5+1)),at':=0,moved:=0,cl:=bC},s:= {t:=s.1,n:=s.2,xs:=bif aR s.3 x.1 x.2 then aL s.3 x.1 (bif bif aG (aA x.2 0 10) 10 then bif aG (aA x.4 10 9) 9 then bif aG (aA x.2 20 5) 5 then aG (aQ (aA x.2 25 18)) 18 else false else false else false then bD (aA x.2 0 10) (aA x.4 10 9) (ieq (aA x.2 19 1) 1) (aA x.2 20 5) (aQ (aA x.2 25 18))else 0)else s.3,c:=s.4+1,k:=3,a:=x.1,o:=aB s.3 x.1,w:=bif bM s.3 x.1 then bif bif aG (aA x.2 0 10) 10 then bif aG (aA x.4 10 9) 9 then bif aG (aA x.2 20 5) 5 then aG (aQ (aA x.2 25 18)) 18 else false else false else false then bD (aA x.2 0 10) (aA x.4 10 9) (ieq (aA x.2 19 1) 1) (aA x.2 20 5) (aQ (aA x.2 25 18))else 0 else 0,ok:=aR s.3 x.1 x.2} }))) (.ite (ilt x.11 (W (x.5+1))) (.pre ((t=t∧n=n)∧List.length x.6+(1:Nat)=List.length (x.6++ [x.3])∧(true=false→(5:Int)≠(4:Int))∧lE' (bif aR s.3 x.1 x.2 then aL s.3 x.1 (bif bif aG (aA x.2 0 10) 10 then bif aG (aA x.4 10 9) 9 then bif aG (aA x.2 20 5) 5 then aG (aQ (aA x.2 25 18)) 18 else false else false else false then bD (aA x.2 0 10) (aA x.4 10 9) (ieq (aA x.2 19 1) 1) (aA x.2 20 5) (aQ (aA x.2 25 18))else 0)else s.3)) (.ret {d:=true,x:= {x with tries:=W (x.5+1),ul:=x.6++ [x.3],ab:=ilt x.11 (W (x.5+1)),at':=5,moved:=W (x.13+1),cl:=bC},s:= {t:=s.1,n:=s.2,xs:=bif aR s.3 x.1 x.2 then aL s.3 x.1 (bif bif aG (aA x.2 0 10) 10 then bif aG (aA x.4 10 9) 9 then bif aG (aA x.2 20 5) 5 then aG (aQ (aA x.2 25 18)) 18 else false else false else false then bD (aA x.2 0 10) (aA x.4 10 9) (ieq (aA x.2 19 1) 1) (aA x.2 20 5) (aQ (aA x.2 25 18))else 0)else s.3,c:=s.4+1,k:=3,a:=x.1,o:=aB s.3 x.1,w:=bif bM s.3 x.1 then bif bif aG (aA x.2 0 10) 10 then bif aG (aA x.4 10 9) 9 then bif aG (aA x.2 20 5) 5 then aG (aQ (aA x.2 25 18)) 18 else false else false else false then bD (aA x.2 0 10) (aA x.4 10 9) (ieq (aA x.2 19 1) 1) (aA x.2 20 5) (aQ (aA x.2 25 18))else 0 else 0,ok:=aR s.3 x.1 x.2} })) (.pre ((t=t∧n=n)∧List.length x.6+(1:Nat)=List.length (x.6++ [x.3])∧(false=false→(0:Int)≠(4:Int))∧lE' (bif aR s.3 x.1 x.2 then aL s.3 x.1 (bif bif aG (aA x.2 0 10) 10 then bif aG (aA x.4 10 9) 9 then bif aG (aA x.2 20 5) 5 then aG (aQ (aA x.2 25 18)) 18 else false else false else false then bD (aA x.2 0 10) (aA x.4 10 9) (ieq (aA x.2 19 1) 1) (aA x.2 20 5) (aQ (aA x.2 25 18))else 0)else s.3)) (.ret {d:=false,x:= {x with pred:=x.9,tries:=W (x.5+1),ul:=x.6++ [x.3],ab:=ilt x.11 (W (x.5+1)),at':=0,moved:=0,cl:=bC},s:= {t:=s.1,n:=s.2,xs:=bif aR s.3 x.1 x.2 then aL s.3 x.1 (bif bif aG (aA x.2 0 10) 10 then bif aG (aA x.4 10 9) 9 then bif aG (aA x.2 20 5) 5 then aG (aQ (aA x.2 25 18)) 18 else false else false else false then bD (aA x.2 0 10) (aA x.4 10 9) (ieq (aA x.2 19 1) 1) (aA x.2 20 5) (aQ (aA x.2 25 18))else 0)else s.3,c:=s.4+1,k:=3,a:=x.1,o:=aB s.3 x.1,w:=bif bM s.3 x.1 then bif bif aG (aA x.2 0 10) 10 then bif aG (aA x.4 10 9) 9 then bif aG (aA x.2 20 5) 5 then aG (aQ (aA x.2 25 18)) 18 else false else false else false then bD (aA x.2 0 10) (aA x.4 10 9) (ieq (aA x.2 19 1) 1) (aA x.2 20 5) (aQ (aA x.2 25 18))else 0 else 0,ok:=aR s.3 x.1 x.2} })))))))))))
theorem J0(t n:Int)(x:FNS)(s:MS)(K:FnO→Prop)(h:(uM t n x s).run K):cT' 94 [.ptr 0 0,.ptr 1 0] [some (.cells [.int .i64 t,.int .i64 n,.int .i64 x.pred,.int .u64 x.pw,.int .i64 x.curr,.int .u64 x.cw,.int .i64 x.tries,.slice 3 0 x.ul.length 1,.bool x.ab,.int .i64 x.me,.int .i64 x.frm,.int .i64 x.key,.int .i64 x.limit,.int .i64 5,.int .i64 x.moved,.O]),a8 2 s,a9 s,some (.ints (some .i64) x.ul)] (cC 3 0 [15] [(.cell 0 7,.ints (some .i64))] (DI t n) K):=by
 exact cM' (E:=EC7) (by kernel_rfl) h
def uN(t n:Int)(x:FNS)(s:MS):Tr FnO:=.pre ((((0:Int)≤t∧t≤(100000:Int))∧((0:Int)≤n∧n≤(100000:Int))∧((-1099511627776:Int)≤x.8∧x.8≤(1099511627776:Int))∧(-1099511627776:Int)≤(0:Int)∧(0:Int)≤(1099511627776:Int))∧True) (.pre ((lE' s.3∧(0:Int)≤s.4∧s.4≤(4611686018427387904:Int))∧True) (.ite (ile (W (x.13+1)) n) (.pre ((t=t∧n=n)∧lE' x.6∧(false=false→(0:Int)≠(4:Int))∧lE' (aL s.3 (2*n+5+2*x.8+0) (WU x.3))) (.ret {d:=false,x:= {x with pred:=x.3,at':=0,moved:=W (x.13+1),cl:=bC},s:= {t:=s.1,n:=s.2,xs:=aL s.3 (2*n+5+2*x.8+0) (WU x.3),c:=s.4+1,k:=2,a:=2*n+5+2*x.8+0,o:=aB s.3 (2*n+5+2*x.8+0),w:=bif bM s.3 (2*n+5+2*x.8+0)then WU x.3 else 0,ok:=bM s.3 (2*n+5+2*x.8+0) } })) (.ite (ilt x.11 (W (x.5+1))) (.ite (ilt x.11 (W (x.5+1))) (.pre ((t=t∧n=n)∧lE' x.6∧(true=false→(0:Int)≠(4:Int))∧lE' (aL s.3 (2*n+5+2*x.8+0) (WU x.3))) (.ret {d:=true,x:= {x with pred:=0,pw:=0,curr:=0,cw:=0,tries:=W (x.5+1),ab:=ilt x.11 (W (x.5+1)),at':=0,moved:=W (x.13+1),cl:=bC},s:= {t:=s.1,n:=s.2,xs:=aL s.3 (2*n+5+2*x.8+0) (WU x.3),c:=s.4+1,k:=2,a:=2*n+5+2*x.8+0,o:=aB s.3 (2*n+5+2*x.8+0),w:=bif bM s.3 (2*n+5+2*x.8+0)then WU x.3 else 0,ok:=bM s.3 (2*n+5+2*x.8+0) } })) (.pre ((t=t∧n=n)∧lE' x.6∧(false=false→(0:Int)≠(4:Int))∧lE' (aL s.3 (2*n+5+2*x.8+0) (WU x.3))) (.ret {d:=false,x:= {x with pred:=x.9,pw:=0,curr:=0,cw:=0,tries:=W (x.5+1),ab:=ilt x.11 (W (x.5+1)),at':=0,moved:=0,cl:=bC},s:= {t:=s.1,n:=s.2,xs:=aL s.3 (2*n+5+2*x.8+0) (WU x.3),c:=s.4+1,k:=2,a:=2*n+5+2*x.8+0,o:=aB s.3 (2*n+5+2*x.8+0),w:=bif bM s.3 (2*n+5+2*x.8+0)then WU x.3 else 0,ok:=bM s.3 (2*n+5+2*x.8+0) } }))) (.ite (ilt x.11 (W (x.5+1))) (.pre ((t=t∧n=n)∧lE' x.6∧(true=false→(0:Int)≠(4:Int))∧lE' (aL s.3 (2*n+5+2*x.8+0) (WU x.3))) (.ret {d:=true,x:= {x with pred:=x.3,tries:=W (x.5+1),ab:=ilt x.11 (W (x.5+1)),at':=0,moved:=W (x.13+1),cl:=bC},s:= {t:=s.1,n:=s.2,xs:=aL s.3 (2*n+5+2*x.8+0) (WU x.3),c:=s.4+1,k:=2,a:=2*n+5+2*x.8+0,o:=aB s.3 (2*n+5+2*x.8+0),w:=bif bM s.3 (2*n+5+2*x.8+0)then WU x.3 else 0,ok:=bM s.3 (2*n+5+2*x.8+0) } })) (.pre ((t=t∧n=n)∧lE' x.6∧(false=false→(0:Int)≠(4:Int))∧lE' (aL s.3 (2*n+5+2*x.8+0) (WU x.3))) (.ret {d:=false,x:= {x with pred:=x.9,tries:=W (x.5+1),ab:=ilt x.11 (W (x.5+1)),at':=0,moved:=0,cl:=bC},s:= {t:=s.1,n:=s.2,xs:=aL s.3 (2*n+5+2*x.8+0) (WU x.3),c:=s.4+1,k:=2,a:=2*n+5+2*x.8+0,o:=aB s.3 (2*n+5+2*x.8+0),w:=bif bM s.3 (2*n+5+2*x.8+0)then WU x.3 else 0,ok:=bM s.3 (2*n+5+2*x.8+0) } }))))))
theorem J1(t n:Int)(x:FNS)(s:MS)(K:FnO→Prop)(h:(uN t n x s).run K):cT' 94 [.ptr 0 0,.ptr 1 0] [some (.cells [.int .i64 t,.int .i64 n,.int .i64 x.pred,.int .u64 x.pw,.int .i64 x.curr,.int .u64 x.cw,.int .i64 x.tries,.slice 3 0 x.ul.length 1,.bool x.ab,.int .i64 x.me,.int .i64 x.frm,.int .i64 x.key,.int .i64 x.limit,.int .i64 6,.int .i64 x.moved,.O]),a8 2 s,a9 s,some (.ints (some .i64) x.ul)] (cC 3 0 [15] [(.cell 0 7,.ints (some .i64))] (DI t n) K):=by
 exact cM' (E:=EC7) (by kernel_rfl) h
def HO(t n:Int)(x:FNS)(s:MS):Tr FnO:=
 bif ieq x.at' 0 then uK t n x s else
 bif ieq x.at' 1 then w7 t n x s else
 bif ieq x.at' 2 then uL t n x s else
 bif ieq x.at' 3 then nA t n x s else
 bif ieq x.at' 4 then B6 t n x s else
 bif ieq x.at' 5 then uM t n x s else
 bif ieq x.at' 6 then uN t n x s else .pre False (.ret default)
def fnF(t n:Int)(x:FNS)(s:MS):FnO:=(HO t n x s).val
def JU(t n:Int)(x:FNS)(s:MS):Prop:=(HO t n x s).ok
theorem S1(t n:Int)(x:FNS)(s:MS)(K:AVal→aD Ob→Prop)(h:(HO t n x s).run (fun y=>(FnO.fin t n y).run K)):cT' 94 [.ptr 0 0,.ptr 1 0] (fnH t n x s) K:=by
 unfold HO at h
 by_cases e:x.at'=0
 ·rw [e]at h
  have h:(uK t n x s).run _:=h
  refine aC9 (root:=0) (pos:=[15]) (cs:=[(.cell 0 7,.ints (some .i64))]) (parse:=DI t n) (fin:=FnO.fin t n) o0 (bE.unpack (.find t n x) 0 0 (kH t n x) [] rfl (congrArg (Prod.mk 0) (gY (by omega))) (by kernel_rfl) rfl) ?_
  have q:=JV t n x s _ h
  rw [←e]at q
  exact q
 rw [bW e]at h
 by_cases e:x.at'=1
 ·rw [e]at h
  have h:(w7 t n x s).run _:=h
  refine aC9 (root:=0) (pos:=[15]) (cs:=[(.cell 0 7,.ints (some .i64))]) (parse:=DI t n) (fin:=FnO.fin t n) o0 (bE.unpack (.find t n x) 0 0 (kH t n x) [] rfl (congrArg (Prod.mk 0) (gY (by omega))) (by kernel_rfl) rfl) ?_
  have q:=JW t n x s _ h
  rw [←e]at q
  exact q
 rw [bW e]at h
 by_cases e:x.at'=2
 ·rw [e]at h
  have h:(uL t n x s).run _:=h
  refine aC9 (root:=0) (pos:=[15]) (cs:=[(.cell 0 7,.ints (some .i64))]) (parse:=DI t n) (fin:=FnO.fin t n) o0 (bE.unpack (.find t n x) 0 0 (kH t n x) [] rfl (congrArg (Prod.mk 0) (gY (by omega))) (by kernel_rfl) rfl) ?_
  have q:=JX t n x s _ h
  rw [←e]at q
  exact q
 rw [bW e]at h
 by_cases e:x.at'=3
 ·rw [e]at h
  have h:(nA t n x s).run _:=h
  refine aC9 (root:=0) (pos:=[15]) (cs:=[(.cell 0 7,.ints (some .i64))]) (parse:=DI t n) (fin:=FnO.fin t n) o0 (bE.unpack (.find t n x) 0 0 (kH t n x) [] rfl (congrArg (Prod.mk 0) (gY (by omega))) (by kernel_rfl) rfl) ?_
  have q:=JY t n x s _ h
  rw [←e]at q
  exact q
 rw [bW e]at h
 by_cases e:x.at'=4
 ·rw [e]at h
  have h:(B6 t n x s).run _:=h
  refine aC9 (root:=0) (pos:=[15]) (cs:=[(.cell 0 7,.ints (some .i64))]) (parse:=DI t n) (fin:=FnO.fin t n) o0 (bE.unpack (.find t n x) 0 0 (p8 t n x) [] rfl (congrArg (Prod.mk 0) (HM e)) (by kernel_rfl) rfl) ?_
  have q:=JZ t n x s _ h
  rw [←e]at q
  exact q
 rw [bW e]at h
 by_cases e:x.at'=5
 ·rw [e]at h
  have h:(uM t n x s).run _:=h
  refine aC9 (root:=0) (pos:=[15]) (cs:=[(.cell 0 7,.ints (some .i64))]) (parse:=DI t n) (fin:=FnO.fin t n) o0 (bE.unpack (.find t n x) 0 0 (kH t n x) [] rfl (congrArg (Prod.mk 0) (gY (by omega))) (by kernel_rfl) rfl) ?_
  have q:=J0 t n x s _ h
  rw [←e]at q
  exact q
 rw [bW e]at h
 by_cases e:x.at'=6
 ·rw [e]at h
  have h:(uN t n x s).run _:=h
  refine aC9 (root:=0) (pos:=[15]) (cs:=[(.cell 0 7,.ints (some .i64))]) (parse:=DI t n) (fin:=FnO.fin t n) o0 (bE.unpack (.find t n x) 0 0 (kH t n x) [] rfl (congrArg (Prod.mk 0) (gY (by omega))) (by kernel_rfl) rfl) ?_
  have q:=J1 t n x s _ h
  rw [←e]at q
  exact q
 rw [bW e]at h
 exact h.1.elim
noncomputable def fnS:aJ Ob:=fun args h=>match args,h with
 | [.ptr 0 0,.ptr 1 0],[some (.abs (.find t n x) []),e1,e2]=>(match cW 2 [e1,e2]with
   | some (l,s)=>some (.pre (l=s.xs.length∧JU t n x s) (FnO.fin t n (fnF t n x s)))
   | none=>none)
 | _,_=>none
theorem aBA:sT' 94 fnS:=by
 intro args h o ho K hK
 unfold fnS at ho
 split at ho
 case h_2=>cases ho
 split at ho<;>cases ho
 rename_i hm
 obtain⟨⟨hl,ok⟩,hK⟩:=hK
 have hh:=bA hm hl
 cases hh
 exact S1 _ _ _ _ K (aDe ok hK)
def Y1(t n:Int)(v:AVal)(g:aD Ob):Option (Prop×FNS):=match v,g with
 | .ptr 0 0,[some (.cells [.int .i64 t1,.int .i64 n1,.int .i64 pred,.int .u64 pw,.int .i64 curr,.int .u64 cw,.int .i64 tries,.slice 1 0 ul_l 1,.bool ab,.int .i64 me,.int .i64 frm,.int .i64 key,.int .i64 limit,.int .i64 at',.int .i64 moved,.O]),some (.ints (some .i64) ul)]=>some ((t1=t∧n1=n)∧ul_l=ul.length∧(at'≠4),(⟨pred,pw,curr,cw,tries,ul,ab,me,frm,key,limit,at',moved,⟨0,0,0,0⟩⟩:FNS))
 | _,_=>none
abbrev SS(t n:Int)(y:FNS):aD Ob:=[some (.abs (.find t n y) [])]
theorem ST{t n:Int} :cA (obI tbl) 0 (Y1 t n) (fun y=>.ret (.ptr 0 0) (SS t n y)):=by
 intro v g p x hp hq K hK
 unfold Y1 at hp
 split at hp
 case h_2=>cases hp
 rename_i t1 n1 pred pw curr cw tries ul_l ab me frm key limit at' moved ul
 simp only [sI',pI']at hp
 obtain⟨rfl,rfl⟩:=hp
 obtain⟨⟨rfl,rfl⟩,rfl,hat⟩:=hq
 exact⟨⟨_,_,aF.pack (SS t1 n1 (⟨pred,pw,curr,cw,tries,ul,ab,me,frm,key,limit,at',moved,⟨0,0,0,0⟩⟩:FNS)) (.find t1 n1 (⟨pred,pw,curr,cw,tries,ul,ab,me,frm,key,limit,at',moved,⟨0,0,0,0⟩⟩:FNS)) 0 0 (kH t1 n1 (⟨pred,pw,curr,cw,tries,ul,ab,me,frm,key,limit,at',moved,⟨0,0,0,0⟩⟩:FNS)) [] (by kernel_rfl) rfl (congrArg (Prod.mk 0) (gY hat)) (by kernel_rfl),hK⟩⟩
def NU(t n:Int)(me hd key lim:Int):Tr FNS:=.pre (((0:Int)≤n∧n≤(100000:Int))∧(-1000000:Int)≤hd∧hd≤(1000000:Int)) (.pre (((0:Int)≤n∧n≤(100000:Int))∧(-1000000:Int)≤hd∧hd≤(1000000:Int)) (.pre ((t=t∧n=n)∧0=0∧(0:Int)≠(4:Int)) (.ret {pred:=n+1+hd,pw:=0,curr:=0,cw:=0,tries:=0,ul:=[],ab:=false,me:=me,frm:=n+1+hd,key:=key,limit:=lim,at':=0,moved:=0,cl:=bC})))
def lC(t n:Int)(me hd key lim:Int):FNS:=(NU t n me hd key lim).val
def oO(t n:Int)(me hd key lim:Int):Prop:=(NU t n me hd key lim).ok
def fnNS:aJ Ob:=fun args h=>match args,h with
 | [.agg [.int .i64 t,.int .i64 n],.int .i64 me,.int .i64 hd,.int .i64 key,.int .i64 lim],[]=>some (.pre (oO t n me hd key lim) (.ret (.ptr 0 0) (SS t n (lC t n me hd key lim))))
 | _,_=>none
theorem Y2:sT' 132 fnNS:=by
 intro args h o ho K hK
 unfold fnNS at ho
 split at ho<;>cases ho
 rename_i t n me hd key lim
 obtain⟨ok,hK⟩:=hK
 refine aDh (root:=0) (pos:=[15]) (cs:=[(.cell 0 7,.ints (some .i64))]) (parse:=Y1 t n) ST ?_
 exact cM' (E:=EC7) (q:=(NU t n me hd key lim).run (fun y=>(Out.ret (.ptr 0 0) (SS t n y)).run K)) (by kernel_rfl) (aDe ok hK)
noncomputable def EF:=((EC7.addS 94 fnS aBA).addS 132 fnNS Y2)
def retC:aJ Ob:=fun args h=>match args,h with
 | [.ptr 0 0,.slice 2 0 k 1],[e1,e2,some (.cells [.int .i64 p])]=>(match j9 1 [e1,e2]with
   | some (l,t,n,st)=>some (.pre (l=st.R.length∧k=1∧st.R.length+1≤4294967296) (.ret (.tup []) [some (.cells [.int .i64 t,.int .i64 n,.int .i64 st.me,.int .i64 st.sp,.slice 3 0 (st.R.length+1) 1]),none,some (.cells [.int .i64 p]),some (.ints (some .i64) (st.R++ [p]))]))
   | none=>none)
 | _,_=>none
theorem US:sT' 71 retC:=by
 intro args h o ho K hK
 unfold retC at ho
 split at ho
 case h_2=>cases ho
 rename_i k e1 e2 p
 split at ho<;>cases ho
 rename_i l t n st hs
 obtain⟨⟨hl,rfl,hle⟩,hK⟩:=hK
 have hh:=cD hs hl
 cases hh
 refine aC8 (cM' (E:=EF) (q:=(0=0∧lE' st.3∧1=1∧List.length st.3+(1:Nat)≤(4294967296:Nat))∧K (.tup []) [some (.cells [.int .i64 t,.int .i64 n,.int .i64 st.1,.int .i64 st.2,.slice 3 0 (List.length st.3+1) 1]),none,some (.cells [.int .i64 p]),some (.ints (some .i64) (st.3++ [p]))]) (by kernel_rfl) ?_)
 exact⟨⟨rfl,rfl,rfl,hle⟩,hK⟩
def retI:aJ Ob:=fun args h=>match args,h with
 | [.ptr 0 0,.slice 2 0 k 1],[e1,e2,some (.ints (some .i64) xs)]=>(match j9 1 [e1,e2]with
   | some (l,t,n,st)=>some (.pre (l=st.R.length∧k=xs.length∧st.R.length+xs.length≤4294967296) (.ret (.tup []) [some (.cells [.int .i64 t,.int .i64 n,.int .i64 st.me,.int .i64 st.sp,.slice 3 0 (st.R.length+xs.length) 1]),none,some (.ints (some .i64) xs),some (.ints (some .i64) (st.R++xs))]))
   | none=>none)
 | _,_=>none
theorem UT:sT' 71 retI:=by
 intro args h o ho K hK
 unfold retI at ho
 split at ho
 case h_2=>cases ho
 rename_i k e1 e2 xs
 split at ho<;>cases ho
 rename_i l t n st hs
 obtain⟨⟨hl,rfl,hle⟩,hK⟩:=hK
 have hh:=cD hs hl
 cases hh
 refine aC8 (cM' (E:=EF) (q:=(0+List.length xs≤List.length xs∧0=0∧lE' st.3∧1=1∧List.length st.3+List.length xs≤(4294967296:Nat))∧K (.tup []) [some (.cells [.int .i64 t,.int .i64 n,.int .i64 st.1,.int .i64 st.2,.slice 3 0 (List.length st.3+List.length xs) 1]),none,some (.ints (some .i64) xs),some (.ints (some .i64) (st.3++List.take (List.length xs) (List.drop 0 xs)))]) (by kernel_rfl) ?_)
 refine⟨⟨by omega,rfl,rfl,rfl,hle⟩,?_⟩
 rw [List.drop_zero,List.take_length]
 exact hK
noncomputable def retS:aJ Ob:=aJ.or retC retI
theorem aAj:sT' 71 retS:=aDn US UT
noncomputable def ER:=EF.addS 71 retS aAj
structure FtO where
 d:Bool
 x:FTS
 st:STS
 s:MS
instance:Inhabited FtO:=⟨⟨false,bQ,⟨0,0,[]⟩,⟨0,0,[],0,0,0,0,0,false⟩⟩⟩
instance:Inhabited FTS:=⟨bQ⟩
abbrev QM(t n:Int)(x:FTS)(st:STS)(s:MS):aD Ob:=[some (.abs (.fast t n x) [1]),some (.abs (.store t n st) []),a8 3 s,a9 s]
abbrev VY(t n:Int)(x:FTS)(st:STS)(s:MS):aD Ob:=[some (.cells [.ptr 1 0,.int .i64 x.code,.bool x.okk,.int .i64 x.val,.bool x.failed,.int .i64 x.tries,.int .i64 x.sh,.int .i64 x.kd,.int .i64 x.ky,.int .i64 x.most,.int .i64 x.at',.bool x.p.now,.int .i64 x.p.code,.bool x.p.okk,.int .i64 x.p.val,.int .i64 x.p.addr,.int .u64 x.p.old,.int .i64 x.p.nxt,.bool x.p.mark,.int .i64 x.p.pops,.O,.O,.O]),some (.abs (.store t n st) []),a8 3 s,a9 s]
def FtO.fin(t n:Int)(y:FtO):Out Ob:=.ite y.d (.ret (.bool true) (VY t n y.x y.st y.s)) (.ret (.bool false) (QM t n y.x y.st y.s))
def Y7(t n:Int)(v:AVal)(g:aD Ob):Option (Prop×FtO):=match v,g with
 | .bool d,[some (.cells [.ptr 1 0,.int .i64 code,.bool okk,.int .i64 val,.bool failed,.int .i64 tries,.int .i64 sh,.int .i64 kd,.int .i64 ky,.int .i64 most,.int .i64 at',.bool p_now,.int .i64 p_code,.bool p_okk,.int .i64 p_val,.int .i64 p_addr,.int .u64 p_old,.int .i64 p_nxt,.bool p_mark,.int .i64 p_pops,.O,.O,.O]),e1,e3,e4,e2]=>(match j9 4 [e1,e2],cW 3 [e3,e4]with
   | some (l2,t2,n2,st),some (l,s)=>some ((t2=t∧n2=n)∧(d=false→at'≠0∧at'≠1∧at'≠2)∧l=s.xs.length∧l2=st.R.length,⟨d,⟨code,okk,val,failed,tries,sh,kd,ky,most,at',⟨p_now,p_code,p_okk,p_val,p_addr,p_old,p_nxt,p_mark,p_pops⟩,aM,⟨0,0,0,0⟩,⟨0,0,0,false⟩⟩,st,s⟩)
   | _,_=>none)
 | _,_=>none
def Y8(t n:Int)(v:AVal)(g:aD Ob):Option (Prop×FtO):=match v,g with
 | .bool d,[some (.cells [.ptr 1 0,.int .i64 code,.bool okk,.int .i64 val,.bool failed,.int .i64 tries,.int .i64 sh,.int .i64 kd,.int .i64 ky,.int .i64 most,.int .i64 at',.bool p_now,.int .i64 p_code,.bool p_okk,.int .i64 p_val,.int .i64 p_addr,.int .u64 p_old,.int .i64 p_nxt,.bool p_mark,.int .i64 p_pops,.ptr 4 0,.O,.O]),e1,e3,e4,some (.abs (.find t' n' sub) []),e2]=>(match j9 5 [e1,e2],cW 3 [e3,e4]with
   | some (l2,t2,n2,st),some (l,s)=>some ((t2=t∧n2=n)∧t'=t∧n'=n∧(d=false→at'=0)∧l=s.xs.length∧l2=st.R.length,⟨d,⟨code,okk,val,failed,tries,sh,kd,ky,most,at',⟨p_now,p_code,p_okk,p_val,p_addr,p_old,p_nxt,p_mark,p_pops⟩,sub,⟨0,0,0,0⟩,⟨0,0,0,false⟩⟩,st,s⟩)
   | _,_=>none)
 | _,_=>none
def Y9(t n:Int)(v:AVal)(g:aD Ob):Option (Prop×FtO):=match v,g with
 | .bool d,[some (.cells [.ptr 1 0,.int .i64 code,.bool okk,.int .i64 val,.bool failed,.int .i64 tries,.int .i64 sh,.int .i64 kd,.int .i64 ky,.int .i64 most,.int .i64 at',.bool p_now,.int .i64 p_code,.bool p_okk,.int .i64 p_val,.int .i64 p_addr,.int .u64 p_old,.int .i64 p_nxt,.bool p_mark,.int .i64 p_pops,.O,.ptr 4 0,.O]),e1,e3,e4,some (.abs (.clear t' n' sub) []),e2]=>(match j9 5 [e1,e2],cW 3 [e3,e4]with
   | some (l2,t2,n2,st),some (l,s)=>some ((t2=t∧n2=n)∧t'=t∧n'=n∧(d=false→at'=1)∧l=s.xs.length∧l2=st.R.length,⟨d,⟨code,okk,val,failed,tries,sh,kd,ky,most,at',⟨p_now,p_code,p_okk,p_val,p_addr,p_old,p_nxt,p_mark,p_pops⟩,aM,sub,⟨0,0,0,false⟩⟩,st,s⟩)
   | _,_=>none)
 | _,_=>none
def ZA(t n:Int)(v:AVal)(g:aD Ob):Option (Prop×FtO):=match v,g with
 | .bool d,[some (.cells [.ptr 1 0,.int .i64 code,.bool okk,.int .i64 val,.bool failed,.int .i64 tries,.int .i64 sh,.int .i64 kd,.int .i64 ky,.int .i64 most,.int .i64 at',.bool p_now,.int .i64 p_code,.bool p_okk,.int .i64 p_val,.int .i64 p_addr,.int .u64 p_old,.int .i64 p_nxt,.bool p_mark,.int .i64 p_pops,.O,.O,.ptr 4 0]),e1,e3,e4,some (.abs (.prepare t' n' sub) [1]),e2]=>(match j9 5 [e1,e2],cW 3 [e3,e4]with
   | some (l2,t2,n2,st),some (l,s)=>some ((t2=t∧n2=n)∧t'=t∧n'=n∧(d=false→at'=2)∧l=s.xs.length∧l2=st.R.length,⟨d,⟨code,okk,val,failed,tries,sh,kd,ky,most,at',⟨p_now,p_code,p_okk,p_val,p_addr,p_old,p_nxt,p_mark,p_pops⟩,aM,⟨0,0,0,0⟩,sub⟩,st,s⟩)
   | _,_=>none)
 | _,_=>none
def QN(t n:Int)(v:AVal)(g:aD Ob):Option (Prop×FtO):=(match Y7 t n v g with
 | some r=>some r
 | none=>(match Y8 t n v g with
 | some r=>some r
 | none=>(match Y9 t n v g with
 | some r=>some r
 | none=>ZA t n v g)))
theorem S8{t n:Int} :cA (obI tbl) 4 (Y7 t n) (FtO.fin t n):=by
 intro v g p x hp hq K hK
 unfold Y7 at hp
 split at hp
 case h_2=>cases hp
 rename_i d code okk val failed tries sh kd ky most at' p_now p_code p_okk p_val p_addr p_old p_nxt p_mark p_pops e1 e3 e4 e2
 split at hp
 case h_2=>cases hp
 rename_i l2 t2 n2 st l s hs hm
 simp only [sI',pI']at hp
 obtain⟨rfl,rfl⟩:=hp
 obtain⟨⟨rfl,rfl⟩,hat,hl,hl2⟩:=hq
 have hh:=bA hm hl
 cases hh
 have hh:=cD hs hl2
 cases hh
 refine fC hK (fun h=>?_) (fun hd h=>?_)
 ·exact⟨⟨_,_,(aF.pack (VY t2 n2 (⟨code,okk,val,failed,tries,sh,kd,ky,most,at',⟨p_now,p_code,p_okk,p_val,p_addr,p_old,p_nxt,p_mark,p_pops⟩,aM,⟨0,0,0,0⟩,⟨0,0,0,false⟩⟩:FTS) st s) (.store t2 n2 st) 1 0 (dG t2 n2 st) [] (by kernel_rfl) rfl rfl (by kernel_rfl)),h⟩⟩
 ·exact⟨⟨_,_,((aF.pack (a7 (QM t2 n2 (⟨code,okk,val,failed,tries,sh,kd,ky,most,at',⟨p_now,p_code,p_okk,p_val,p_addr,p_old,p_nxt,p_mark,p_pops⟩,aM,⟨0,0,0,0⟩,⟨0,0,0,false⟩⟩:FTS) st s) 0 1 (uH t2 n2 (⟨code,okk,val,failed,tries,sh,kd,ky,most,at',⟨p_now,p_code,p_okk,p_val,p_addr,p_old,p_nxt,p_mark,p_pops⟩,aM,⟨0,0,0,0⟩,⟨0,0,0,false⟩⟩:FTS)) [1]) (.store t2 n2 st) 1 0 (dG t2 n2 st) [] (by kernel_rfl) rfl rfl (by kernel_rfl)).trans (aF.pack (QM t2 n2 (⟨code,okk,val,failed,tries,sh,kd,ky,most,at',⟨p_now,p_code,p_okk,p_val,p_addr,p_old,p_nxt,p_mark,p_pops⟩,aM,⟨0,0,0,0⟩,⟨0,0,0,false⟩⟩:FTS) st s) (.fast t2 n2 (⟨code,okk,val,failed,tries,sh,kd,ky,most,at',⟨p_now,p_code,p_okk,p_val,p_addr,p_old,p_nxt,p_mark,p_pops⟩,aM,⟨0,0,0,0⟩,⟨0,0,0,false⟩⟩:FTS)) 0 1 (uH t2 n2 (⟨code,okk,val,failed,tries,sh,kd,ky,most,at',⟨p_now,p_code,p_okk,p_val,p_addr,p_old,p_nxt,p_mark,p_pops⟩,aM,⟨0,0,0,0⟩,⟨0,0,0,false⟩⟩:FTS)) [1] (by kernel_rfl) rfl (congrArg (Prod.mk 1) (BY (hat hd))) (by kernel_rfl))),h⟩⟩
theorem S9{t n:Int} :cA (obI tbl) 4 (Y8 t n) (FtO.fin t n):=by
 intro v g p x hp hq K hK
 unfold Y8 at hp
 split at hp
 case h_2=>cases hp
 rename_i d code okk val failed tries sh kd ky most at' p_now p_code p_okk p_val p_addr p_old p_nxt p_mark p_pops e1 e3 e4 t' n' sub e2
 split at hp
 case h_2=>cases hp
 rename_i l2 t2 n2 st l s hs hm
 simp only [sI',pI']at hp
 obtain⟨rfl,rfl⟩:=hp
 obtain⟨⟨rfl,rfl⟩,rfl,rfl,hat,hl,hl2⟩:=hq
 have hh:=bA hm hl
 cases hh
 have hh:=cD hs hl2
 cases hh
 refine fC hK (fun h=>?_) (fun hd h=>?_)
 ·exact⟨⟨_,_,(aF.weak (b9 _ 0 [20,21,22])).trans ((aF.pick [0,1,2,3,5] rfl).trans ((aF.eq (g2:=a7 (VY t' n' (⟨code,okk,val,failed,tries,sh,kd,ky,most,at',⟨p_now,p_code,p_okk,p_val,p_addr,p_old,p_nxt,p_mark,p_pops⟩,sub,⟨0,0,0,0⟩,⟨0,0,0,false⟩⟩:FTS) st s) 1 0 (dG t' n' st) []) (by kernel_rfl) (by kernel_rfl)).trans (aF.pack (VY t' n' (⟨code,okk,val,failed,tries,sh,kd,ky,most,at',⟨p_now,p_code,p_okk,p_val,p_addr,p_old,p_nxt,p_mark,p_pops⟩,sub,⟨0,0,0,0⟩,⟨0,0,0,false⟩⟩:FTS) st s) (.store t' n' st) 1 0 (dG t' n' st) [] (by kernel_rfl) rfl rfl (by kernel_rfl)))),h⟩⟩
 ·exact⟨⟨_,_,((aF.pack (a7 (QM t' n' (⟨code,okk,val,failed,tries,sh,kd,ky,most,at',⟨p_now,p_code,p_okk,p_val,p_addr,p_old,p_nxt,p_mark,p_pops⟩,sub,⟨0,0,0,0⟩,⟨0,0,0,false⟩⟩:FTS) st s) 0 1 (lB t' n' (⟨code,okk,val,failed,tries,sh,kd,ky,most,at',⟨p_now,p_code,p_okk,p_val,p_addr,p_old,p_nxt,p_mark,p_pops⟩,sub,⟨0,0,0,0⟩,⟨0,0,0,false⟩⟩:FTS)) [1]) (.store t' n' st) 1 0 (dG t' n' st) [] (by kernel_rfl) rfl rfl (by kernel_rfl)).trans (aF.pack (QM t' n' (⟨code,okk,val,failed,tries,sh,kd,ky,most,at',⟨p_now,p_code,p_okk,p_val,p_addr,p_old,p_nxt,p_mark,p_pops⟩,sub,⟨0,0,0,0⟩,⟨0,0,0,false⟩⟩:FTS) st s) (.fast t' n' (⟨code,okk,val,failed,tries,sh,kd,ky,most,at',⟨p_now,p_code,p_okk,p_val,p_addr,p_old,p_nxt,p_mark,p_pops⟩,sub,⟨0,0,0,0⟩,⟨0,0,0,false⟩⟩:FTS)) 0 1 (lB t' n' (⟨code,okk,val,failed,tries,sh,kd,ky,most,at',⟨p_now,p_code,p_okk,p_val,p_addr,p_old,p_nxt,p_mark,p_pops⟩,sub,⟨0,0,0,0⟩,⟨0,0,0,false⟩⟩:FTS)) [1] (by kernel_rfl) rfl (congrArg (Prod.mk 1) (y0 (hat hd))) (by kernel_rfl))),h⟩⟩
theorem TA{t n:Int} :cA (obI tbl) 4 (Y9 t n) (FtO.fin t n):=by
 intro v g p x hp hq K hK
 unfold Y9 at hp
 split at hp
 case h_2=>cases hp
 rename_i d code okk val failed tries sh kd ky most at' p_now p_code p_okk p_val p_addr p_old p_nxt p_mark p_pops e1 e3 e4 t' n' sub e2
 split at hp
 case h_2=>cases hp
 rename_i l2 t2 n2 st l s hs hm
 simp only [sI',pI']at hp
 obtain⟨rfl,rfl⟩:=hp
 obtain⟨⟨rfl,rfl⟩,rfl,rfl,hat,hl,hl2⟩:=hq
 have hh:=bA hm hl
 cases hh
 have hh:=cD hs hl2
 cases hh
 refine fC hK (fun h=>?_) (fun hd h=>?_)
 ·exact⟨⟨_,_,(aF.weak (b9 _ 0 [20,21,22])).trans ((aF.pick [0,1,2,3,5] rfl).trans ((aF.eq (g2:=a7 (VY t' n' (⟨code,okk,val,failed,tries,sh,kd,ky,most,at',⟨p_now,p_code,p_okk,p_val,p_addr,p_old,p_nxt,p_mark,p_pops⟩,aM,sub,⟨0,0,0,false⟩⟩:FTS) st s) 1 0 (dG t' n' st) []) (by kernel_rfl) (by kernel_rfl)).trans (aF.pack (VY t' n' (⟨code,okk,val,failed,tries,sh,kd,ky,most,at',⟨p_now,p_code,p_okk,p_val,p_addr,p_old,p_nxt,p_mark,p_pops⟩,aM,sub,⟨0,0,0,false⟩⟩:FTS) st s) (.store t' n' st) 1 0 (dG t' n' st) [] (by kernel_rfl) rfl rfl (by kernel_rfl)))),h⟩⟩
 ·exact⟨⟨_,_,((aF.pack (a7 (QM t' n' (⟨code,okk,val,failed,tries,sh,kd,ky,most,at',⟨p_now,p_code,p_okk,p_val,p_addr,p_old,p_nxt,p_mark,p_pops⟩,aM,sub,⟨0,0,0,false⟩⟩:FTS) st s) 0 1 (m7 t' n' (⟨code,okk,val,failed,tries,sh,kd,ky,most,at',⟨p_now,p_code,p_okk,p_val,p_addr,p_old,p_nxt,p_mark,p_pops⟩,aM,sub,⟨0,0,0,false⟩⟩:FTS)) [1]) (.store t' n' st) 1 0 (dG t' n' st) [] (by kernel_rfl) rfl rfl (by kernel_rfl)).trans (aF.pack (QM t' n' (⟨code,okk,val,failed,tries,sh,kd,ky,most,at',⟨p_now,p_code,p_okk,p_val,p_addr,p_old,p_nxt,p_mark,p_pops⟩,aM,sub,⟨0,0,0,false⟩⟩:FTS) st s) (.fast t' n' (⟨code,okk,val,failed,tries,sh,kd,ky,most,at',⟨p_now,p_code,p_okk,p_val,p_addr,p_old,p_nxt,p_mark,p_pops⟩,aM,sub,⟨0,0,0,false⟩⟩:FTS)) 0 1 (m7 t' n' (⟨code,okk,val,failed,tries,sh,kd,ky,most,at',⟨p_now,p_code,p_okk,p_val,p_addr,p_old,p_nxt,p_mark,p_pops⟩,aM,sub,⟨0,0,0,false⟩⟩:FTS)) [1] (by kernel_rfl) rfl (congrArg (Prod.mk 1) (HG (hat hd))) (by kernel_rfl))),h⟩⟩
theorem TB{t n:Int} :cA (obI tbl) 4 (ZA t n) (FtO.fin t n):=by
 intro v g p x hp hq K hK
 unfold ZA at hp
 split at hp
 case h_2=>cases hp
 rename_i d code okk val failed tries sh kd ky most at' p_now p_code p_okk p_val p_addr p_old p_nxt p_mark p_pops e1 e3 e4 t' n' sub e2
 split at hp
 case h_2=>cases hp
 rename_i l2 t2 n2 st l s hs hm
 simp only [sI',pI']at hp
 obtain⟨rfl,rfl⟩:=hp
 obtain⟨⟨rfl,rfl⟩,rfl,rfl,hat,hl,hl2⟩:=hq
 have hh:=bA hm hl
 cases hh
 have hh:=cD hs hl2
 cases hh
 refine fC hK (fun h=>?_) (fun hd h=>?_)
 ·exact⟨⟨_,_,(aF.weak (b9 _ 0 [20,21,22])).trans ((aF.pick [0,1,2,3,5] rfl).trans ((aF.eq (g2:=a7 (VY t' n' (⟨code,okk,val,failed,tries,sh,kd,ky,most,at',⟨p_now,p_code,p_okk,p_val,p_addr,p_old,p_nxt,p_mark,p_pops⟩,aM,⟨0,0,0,0⟩,sub⟩:FTS) st s) 1 0 (dG t' n' st) []) (by kernel_rfl) (by kernel_rfl)).trans (aF.pack (VY t' n' (⟨code,okk,val,failed,tries,sh,kd,ky,most,at',⟨p_now,p_code,p_okk,p_val,p_addr,p_old,p_nxt,p_mark,p_pops⟩,aM,⟨0,0,0,0⟩,sub⟩:FTS) st s) (.store t' n' st) 1 0 (dG t' n' st) [] (by kernel_rfl) rfl rfl (by kernel_rfl)))),h⟩⟩
 ·exact⟨⟨_,_,((aF.pack (a7 (QM t' n' (⟨code,okk,val,failed,tries,sh,kd,ky,most,at',⟨p_now,p_code,p_okk,p_val,p_addr,p_old,p_nxt,p_mark,p_pops⟩,aM,⟨0,0,0,0⟩,sub⟩:FTS) st s) 0 1 (m8 t' n' (⟨code,okk,val,failed,tries,sh,kd,ky,most,at',⟨p_now,p_code,p_okk,p_val,p_addr,p_old,p_nxt,p_mark,p_pops⟩,aM,⟨0,0,0,0⟩,sub⟩:FTS)) [1]) (.store t' n' st) 1 0 (dG t' n' st) [] (by kernel_rfl) rfl rfl (by kernel_rfl)).trans (aF.pack (QM t' n' (⟨code,okk,val,failed,tries,sh,kd,ky,most,at',⟨p_now,p_code,p_okk,p_val,p_addr,p_old,p_nxt,p_mark,p_pops⟩,aM,⟨0,0,0,0⟩,sub⟩:FTS) st s) (.fast t' n' (⟨code,okk,val,failed,tries,sh,kd,ky,most,at',⟨p_now,p_code,p_okk,p_val,p_addr,p_old,p_nxt,p_mark,p_pops⟩,aM,⟨0,0,0,0⟩,sub⟩:FTS)) 0 1 (m8 t' n' (⟨code,okk,val,failed,tries,sh,kd,ky,most,at',⟨p_now,p_code,p_okk,p_val,p_addr,p_old,p_nxt,p_mark,p_pops⟩,aM,⟨0,0,0,0⟩,sub⟩:FTS)) [1] (by kernel_rfl) rfl (congrArg (Prod.mk 1) (HH (hat hd))) (by kernel_rfl))),h⟩⟩
theorem y9{t n:Int} :cA (obI tbl) 4 (QN t n) (FtO.fin t n):=by
 intro v g p x hp hq K hK
 unfold QN at hp
 split at hp
 ·rename_i r hr
  cases hp
  exact S8 v g p x hr hq K hK
 split at hp
 ·rename_i r hr
  cases hp
  exact S9 v g p x hr hq K hK
 split at hp
 ·rename_i r hr
  cases hp
  exact TA v g p x hr hq K hK
 exact TB v g p x hp hq K hK
def qC(t n:Int)(x:FTS)(st:STS)(s:MS):Tr FtO:=.pre True (.ite (!aY x.6 x.7 x.8) (.pre (lE' s.3∧(0:Int)≤s.4∧s.4≤(4611686018427387904:Int)) (.pre ((t=t∧n=n)∧t=t∧n=n∧(true=false→(0:Int)=(0:Int))∧lE' s.3∧lE' st.3) (.ret {d:=true,x:= {x with failed:=true,at':=0,p:= {now:=(FTS.p x).1,code:=(FTS.p x).2,okk:=(FTS.p x).3,val:=(FTS.p x).4,addr:=(FTS.p x).5,old:=(FTS.p x).6,nxt:=(FTS.p x).7,mark:=(FTS.p x).8,pops:=(FTS.p x).9},cl:=bC,pr:=cQ},st:= {me:=st.1,sp:=st.2,R:=st.3},s:= {s with c:=s.4+1,k:=1,a:=0,o:=aB s.3 0,w:=aB s.3 0,ok:=bM s.3 0} }))) (.pre True (.ite (bS x.7) (.ite (ieq st.2 0) (.pre (lE' s.3∧(0:Int)≤s.4∧s.4≤(4611686018427387904:Int)) (.pre ((t=t∧n=n)∧t=t∧n=n∧(true=false→(0:Int)=(0:Int))∧lE' s.3∧lE' st.3) (.ret {d:=true,x:= {x with failed:=true,at':=0,p:= {now:=(FTS.p x).1,code:=(FTS.p x).2,okk:=(FTS.p x).3,val:=(FTS.p x).4,addr:=(FTS.p x).5,old:=(FTS.p x).6,nxt:=(FTS.p x).7,mark:=(FTS.p x).8,pops:=(FTS.p x).9},cl:=bC,pr:=cQ},st:= {me:=st.1,sp:=st.2,R:=st.3},s:= {s with c:=s.4+1,k:=1,a:=0,o:=aB s.3 0,w:=aB s.3 0,ok:=bM s.3 0} }))) (.pre (lE' s.3∧JU t n x.12 s) (.ite (fnF t n x.12 s).1 (.pre ((lE' st.3∧lE' (FnO.x (fnF t n x.12 s)).6∧List.length st.3+List.length (FnO.x (fnF t n x.12 s)).6≤(4294967296:Nat))∧True) (.ite (ilt x.9 (W (x.5+(FnO.x (fnF t n x.12 s)).5))) (.pre ((t=t∧n=n)∧(true=false→(0:Int)≠(0:Int)∧(0:Int)≠(1:Int)∧(0:Int)≠(2:Int))∧lE' (FnO.s (fnF t n x.12 s)).3∧List.length st.3+List.length (FnO.x (fnF t n x.12 s)).6=List.length (st.3++(FnO.x (fnF t n x.12 s)).6)) (.ret {d:=true,x:= {x with failed:=ilt x.9 (W (x.5+(FnO.x (fnF t n x.12 s)).5)),tries:=W (x.5+(FnO.x (fnF t n x.12 s)).5),at':=0,p:= {now:=(FTS.p x).1,code:=(FTS.p x).2,okk:=(FTS.p x).3,val:=(FTS.p x).4,addr:=(FTS.p x).5,old:=(FTS.p x).6,nxt:=(FTS.p x).7,mark:=(FTS.p x).8,pops:=(FTS.p x).9},fn:=aM,cl:=bC,pr:=cQ},st:= {me:=st.1,sp:=st.2,R:=st.3++(FnO.x (fnF t n x.12 s)).6},s:= {t:=(FnO.s (fnF t n x.12 s)).1,n:=(FnO.s (fnF t n x.12 s)).2,xs:=(FnO.s (fnF t n x.12 s)).3,c:=(FnO.s (fnF t n x.12 s)).4,k:=(FnO.s (fnF t n x.12 s)).5,a:=(FnO.s (fnF t n x.12 s)).6,o:=(FnO.s (fnF t n x.12 s)).7,w:=(FnO.s (fnF t n x.12 s)).8,ok:=(FnO.s (fnF t n x.12 s)).9} })) (.pre (vA x.6 x.7 x.8 (FnO.x (fnF t n x.12 s)).1 (FnO.x (fnF t n x.12 s)).2 (FnO.x (fnF t n x.12 s)).3 (FnO.x (fnF t n x.12 s)).4 st.2∧True) (.ite (aI x.6 x.7 x.8 (FnO.x (fnF t n x.12 s)).1 (FnO.x (fnF t n x.12 s)).2 (FnO.x (fnF t n x.12 s)).3 (FnO.x (fnF t n x.12 s)).4 st.2).1 (.pre ((t=t∧n=n)∧(true=false→(0:Int)≠(0:Int)∧(0:Int)≠(1:Int)∧(0:Int)≠(2:Int))∧lE' (FnO.s (fnF t n x.12 s)).3∧List.length st.3+List.length (FnO.x (fnF t n x.12 s)).6=List.length (st.3++(FnO.x (fnF t n x.12 s)).6)) (.ret {d:=true,x:= {x with code:=(aI x.6 x.7 x.8 (FnO.x (fnF t n x.12 s)).1 (FnO.x (fnF t n x.12 s)).2 (FnO.x (fnF t n x.12 s)).3 (FnO.x (fnF t n x.12 s)).4 st.2).2,okk:=(aI x.6 x.7 x.8 (FnO.x (fnF t n x.12 s)).1 (FnO.x (fnF t n x.12 s)).2 (FnO.x (fnF t n x.12 s)).3 (FnO.x (fnF t n x.12 s)).4 st.2).3,val:=(aI x.6 x.7 x.8 (FnO.x (fnF t n x.12 s)).1 (FnO.x (fnF t n x.12 s)).2 (FnO.x (fnF t n x.12 s)).3 (FnO.x (fnF t n x.12 s)).4 st.2).4,failed:=ilt x.9 (W (x.5+(FnO.x (fnF t n x.12 s)).5)),tries:=W (x.5+(FnO.x (fnF t n x.12 s)).5),at':=0,p:= {now:=(aI x.6 x.7 x.8 (FnO.x (fnF t n x.12 s)).1 (FnO.x (fnF t n x.12 s)).2 (FnO.x (fnF t n x.12 s)).3 (FnO.x (fnF t n x.12 s)).4 st.2).1,code:=(aI x.6 x.7 x.8 (FnO.x (fnF t n x.12 s)).1 (FnO.x (fnF t n x.12 s)).2 (FnO.x (fnF t n x.12 s)).3 (FnO.x (fnF t n x.12 s)).4 st.2).2,okk:=(aI x.6 x.7 x.8 (FnO.x (fnF t n x.12 s)).1 (FnO.x (fnF t n x.12 s)).2 (FnO.x (fnF t n x.12 s)).3 (FnO.x (fnF t n x.12 s)).4 st.2).3,val:=(aI x.6 x.7 x.8 (FnO.x (fnF t n x.12 s)).1 (FnO.x (fnF t n x.12 s)).2 (FnO.x (fnF t n x.12 s)).3 (FnO.x (fnF t n x.12 s)).4 st.2).4,addr:=(aI x.6 x.7 x.8 (FnO.x (fnF t n x.12 s)).1 (FnO.x (fnF t n x.12 s)).2 (FnO.x (fnF t n x.12 s)).3 (FnO.x (fnF t n x.12 s)).4 st.2).5,old:=(aI x.6 x.7 x.8 (FnO.x (fnF t n x.12 s)).1 (FnO.x (fnF t n x.12 s)).2 (FnO.x (fnF t n x.12 s)).3 (FnO.x (fnF t n x.12 s)).4 st.2).6,nxt:=(aI x.6 x.7 x.8 (FnO.x (fnF t n x.12 s)).1 (FnO.x (fnF t n x.12 s)).2 (FnO.x (fnF t n x.12 s)).3 (FnO.x (fnF t n x.12 s)).4 st.2).7,mark:=(aI x.6 x.7 x.8 (FnO.x (fnF t n x.12 s)).1 (FnO.x (fnF t n x.12 s)).2 (FnO.x (fnF t n x.12 s)).3 (FnO.x (fnF t n x.12 s)).4 st.2).8,pops:=(aI x.6 x.7 x.8 (FnO.x (fnF t n x.12 s)).1 (FnO.x (fnF t n x.12 s)).2 (FnO.x (fnF t n x.12 s)).3 (FnO.x (fnF t n x.12 s)).4 st.2).9},fn:=aM,cl:=bC,pr:=cQ},st:= {me:=st.1,sp:=st.2,R:=st.3++(FnO.x (fnF t n x.12 s)).6},s:= {t:=(FnO.s (fnF t n x.12 s)).1,n:=(FnO.s (fnF t n x.12 s)).2,xs:=(FnO.s (fnF t n x.12 s)).3,c:=(FnO.s (fnF t n x.12 s)).4,k:=(FnO.s (fnF t n x.12 s)).5,a:=(FnO.s (fnF t n x.12 s)).6,o:=(FnO.s (fnF t n x.12 s)).7,w:=(FnO.s (fnF t n x.12 s)).8,ok:=(FnO.s (fnF t n x.12 s)).9} })) (.pre (oG (aI x.6 x.7 x.8 (FnO.x (fnF t n x.12 s)).1 (FnO.x (fnF t n x.12 s)).2 (FnO.x (fnF t n x.12 s)).3 (FnO.x (fnF t n x.12 s)).4 st.2).1 (aI x.6 x.7 x.8 (FnO.x (fnF t n x.12 s)).1 (FnO.x (fnF t n x.12 s)).2 (FnO.x (fnF t n x.12 s)).3 (FnO.x (fnF t n x.12 s)).4 st.2).2 (aI x.6 x.7 x.8 (FnO.x (fnF t n x.12 s)).1 (FnO.x (fnF t n x.12 s)).2 (FnO.x (fnF t n x.12 s)).3 (FnO.x (fnF t n x.12 s)).4 st.2).3 (aI x.6 x.7 x.8 (FnO.x (fnF t n x.12 s)).1 (FnO.x (fnF t n x.12 s)).2 (FnO.x (fnF t n x.12 s)).3 (FnO.x (fnF t n x.12 s)).4 st.2).4 (aI x.6 x.7 x.8 (FnO.x (fnF t n x.12 s)).1 (FnO.x (fnF t n x.12 s)).2 (FnO.x (fnF t n x.12 s)).3 (FnO.x (fnF t n x.12 s)).4 st.2).5 (aI x.6 x.7 x.8 (FnO.x (fnF t n x.12 s)).1 (FnO.x (fnF t n x.12 s)).2 (FnO.x (fnF t n x.12 s)).3 (FnO.x (fnF t n x.12 s)).4 st.2).6 (aI x.6 x.7 x.8 (FnO.x (fnF t n x.12 s)).1 (FnO.x (fnF t n x.12 s)).2 (FnO.x (fnF t n x.12 s)).3 (FnO.x (fnF t n x.12 s)).4 st.2).7 (aI x.6 x.7 x.8 (FnO.x (fnF t n x.12 s)).1 (FnO.x (fnF t n x.12 s)).2 (FnO.x (fnF t n x.12 s)).3 (FnO.x (fnF t n x.12 s)).4 st.2).8 (aI x.6 x.7 x.8 (FnO.x (fnF t n x.12 s)).1 (FnO.x (fnF t n x.12 s)).2 (FnO.x (fnF t n x.12 s)).3 (FnO.x (fnF t n x.12 s)).4 st.2).9) (.ite (kO (aI x.6 x.7 x.8 (FnO.x (fnF t n x.12 s)).1 (FnO.x (fnF t n x.12 s)).2 (FnO.x (fnF t n x.12 s)).3 (FnO.x (fnF t n x.12 s)).4 st.2).1 (aI x.6 x.7 x.8 (FnO.x (fnF t n x.12 s)).1 (FnO.x (fnF t n x.12 s)).2 (FnO.x (fnF t n x.12 s)).3 (FnO.x (fnF t n x.12 s)).4 st.2).2 (aI x.6 x.7 x.8 (FnO.x (fnF t n x.12 s)).1 (FnO.x (fnF t n x.12 s)).2 (FnO.x (fnF t n x.12 s)).3 (FnO.x (fnF t n x.12 s)).4 st.2).3 (aI x.6 x.7 x.8 (FnO.x (fnF t n x.12 s)).1 (FnO.x (fnF t n x.12 s)).2 (FnO.x (fnF t n x.12 s)).3 (FnO.x (fnF t n x.12 s)).4 st.2).4 (aI x.6 x.7 x.8 (FnO.x (fnF t n x.12 s)).1 (FnO.x (fnF t n x.12 s)).2 (FnO.x (fnF t n x.12 s)).3 (FnO.x (fnF t n x.12 s)).4 st.2).5 (aI x.6 x.7 x.8 (FnO.x (fnF t n x.12 s)).1 (FnO.x (fnF t n x.12 s)).2 (FnO.x (fnF t n x.12 s)).3 (FnO.x (fnF t n x.12 s)).4 st.2).6 (aI x.6 x.7 x.8 (FnO.x (fnF t n x.12 s)).1 (FnO.x (fnF t n x.12 s)).2 (FnO.x (fnF t n x.12 s)).3 (FnO.x (fnF t n x.12 s)).4 st.2).7 (aI x.6 x.7 x.8 (FnO.x (fnF t n x.12 s)).1 (FnO.x (fnF t n x.12 s)).2 (FnO.x (fnF t n x.12 s)).3 (FnO.x (fnF t n x.12 s)).4 st.2).8 (aI x.6 x.7 x.8 (FnO.x (fnF t n x.12 s)).1 (FnO.x (fnF t n x.12 s)).2 (FnO.x (fnF t n x.12 s)).3 (FnO.x (fnF t n x.12 s)).4 st.2).9) (.pre (pO t n (aI x.6 x.7 x.8 (FnO.x (fnF t n x.12 s)).1 (FnO.x (fnF t n x.12 s)).2 (FnO.x (fnF t n x.12 s)).3 (FnO.x (fnF t n x.12 s)).4 st.2).5∧True) (.pre ((t=t∧n=n)∧t=t∧n=n∧(false=false→(1:Int)=(1:Int))∧lE' (FnO.s (fnF t n x.12 s)).3∧List.length st.3+List.length (FnO.x (fnF t n x.12 s)).6=List.length (st.3++(FnO.x (fnF t n x.12 s)).6)) (.ret {d:=false,x:= {x with failed:=ilt x.9 (W (x.5+(FnO.x (fnF t n x.12 s)).5)),tries:=W (x.5+(FnO.x (fnF t n x.12 s)).5),at':=1,p:= {now:=(aI x.6 x.7 x.8 (FnO.x (fnF t n x.12 s)).1 (FnO.x (fnF t n x.12 s)).2 (FnO.x (fnF t n x.12 s)).3 (FnO.x (fnF t n x.12 s)).4 st.2).1,code:=(aI x.6 x.7 x.8 (FnO.x (fnF t n x.12 s)).1 (FnO.x (fnF t n x.12 s)).2 (FnO.x (fnF t n x.12 s)).3 (FnO.x (fnF t n x.12 s)).4 st.2).2,okk:=(aI x.6 x.7 x.8 (FnO.x (fnF t n x.12 s)).1 (FnO.x (fnF t n x.12 s)).2 (FnO.x (fnF t n x.12 s)).3 (FnO.x (fnF t n x.12 s)).4 st.2).3,val:=(aI x.6 x.7 x.8 (FnO.x (fnF t n x.12 s)).1 (FnO.x (fnF t n x.12 s)).2 (FnO.x (fnF t n x.12 s)).3 (FnO.x (fnF t n x.12 s)).4 st.2).4,addr:=(aI x.6 x.7 x.8 (FnO.x (fnF t n x.12 s)).1 (FnO.x (fnF t n x.12 s)).2 (FnO.x (fnF t n x.12 s)).3 (FnO.x (fnF t n x.12 s)).4 st.2).5,old:=(aI x.6 x.7 x.8 (FnO.x (fnF t n x.12 s)).1 (FnO.x (fnF t n x.12 s)).2 (FnO.x (fnF t n x.12 s)).3 (FnO.x (fnF t n x.12 s)).4 st.2).6,nxt:=(aI x.6 x.7 x.8 (FnO.x (fnF t n x.12 s)).1 (FnO.x (fnF t n x.12 s)).2 (FnO.x (fnF t n x.12 s)).3 (FnO.x (fnF t n x.12 s)).4 st.2).7,mark:=(aI x.6 x.7 x.8 (FnO.x (fnF t n x.12 s)).1 (FnO.x (fnF t n x.12 s)).2 (FnO.x (fnF t n x.12 s)).3 (FnO.x (fnF t n x.12 s)).4 st.2).8,pops:=(aI x.6 x.7 x.8 (FnO.x (fnF t n x.12 s)).1 (FnO.x (fnF t n x.12 s)).2 (FnO.x (fnF t n x.12 s)).3 (FnO.x (fnF t n x.12 s)).4 st.2).9},fn:=aM,cl:=yK t n (aI x.6 x.7 x.8 (FnO.x (fnF t n x.12 s)).1 (FnO.x (fnF t n x.12 s)).2 (FnO.x (fnF t n x.12 s)).3 (FnO.x (fnF t n x.12 s)).4 st.2).5,pr:=cQ},st:= {me:=st.1,sp:=st.2,R:=st.3++(FnO.x (fnF t n x.12 s)).6},s:= {t:=(FnO.s (fnF t n x.12 s)).1,n:=(FnO.s (fnF t n x.12 s)).2,xs:=(FnO.s (fnF t n x.12 s)).3,c:=(FnO.s (fnF t n x.12 s)).4,k:=(FnO.s (fnF t n x.12 s)).5,a:=(FnO.s (fnF t n x.12 s)).6,o:=(FnO.s (fnF t n x.12 s)).7,w:=(FnO.s (fnF t n x.12 s)).8,ok:=(FnO.s (fnF t n x.12 s)).9} }))) (.pre True (.ite (bS x.7) (.pre ((List.length st.3+List.length (FnO.x (fnF t n x.12 s)).6=List.length (st.3++(FnO.x (fnF t n x.12 s)).6)∧C3 t n x.8 (FnO.x (fnF t n x.12 s)).3 {me:=st.1,sp:=st.2,R:=st.3++(FnO.x (fnF t n x.12 s)).6})∧True) (.pre ((t=t∧n=n)∧t=t∧n=n∧(false=false→(2:Int)=(2:Int))∧lE' (FnO.s (fnF t n x.12 s)).3∧lE' (Prod.snd (lK t n x.8 (FnO.x (fnF t n x.12 s)).3 {me:=st.1,sp:=st.2,R:=st.3++(FnO.x (fnF t n x.12 s)).6})).3) (.ret {d:=false,x:= {x with failed:=ilt x.9 (W (x.5+(FnO.x (fnF t n x.12 s)).5)),tries:=W (x.5+(FnO.x (fnF t n x.12 s)).5),at':=2,p:= {now:=(aI x.6 x.7 x.8 (FnO.x (fnF t n x.12 s)).1 (FnO.x (fnF t n x.12 s)).2 (FnO.x (fnF t n x.12 s)).3 (FnO.x (fnF t n x.12 s)).4 st.2).1,code:=(aI x.6 x.7 x.8 (FnO.x (fnF t n x.12 s)).1 (FnO.x (fnF t n x.12 s)).2 (FnO.x (fnF t n x.12 s)).3 (FnO.x (fnF t n x.12 s)).4 st.2).2,okk:=(aI x.6 x.7 x.8 (FnO.x (fnF t n x.12 s)).1 (FnO.x (fnF t n x.12 s)).2 (FnO.x (fnF t n x.12 s)).3 (FnO.x (fnF t n x.12 s)).4 st.2).3,val:=(aI x.6 x.7 x.8 (FnO.x (fnF t n x.12 s)).1 (FnO.x (fnF t n x.12 s)).2 (FnO.x (fnF t n x.12 s)).3 (FnO.x (fnF t n x.12 s)).4 st.2).4,addr:=(aI x.6 x.7 x.8 (FnO.x (fnF t n x.12 s)).1 (FnO.x (fnF t n x.12 s)).2 (FnO.x (fnF t n x.12 s)).3 (FnO.x (fnF t n x.12 s)).4 st.2).5,old:=(aI x.6 x.7 x.8 (FnO.x (fnF t n x.12 s)).1 (FnO.x (fnF t n x.12 s)).2 (FnO.x (fnF t n x.12 s)).3 (FnO.x (fnF t n x.12 s)).4 st.2).6,nxt:=(aI x.6 x.7 x.8 (FnO.x (fnF t n x.12 s)).1 (FnO.x (fnF t n x.12 s)).2 (FnO.x (fnF t n x.12 s)).3 (FnO.x (fnF t n x.12 s)).4 st.2).7,mark:=(aI x.6 x.7 x.8 (FnO.x (fnF t n x.12 s)).1 (FnO.x (fnF t n x.12 s)).2 (FnO.x (fnF t n x.12 s)).3 (FnO.x (fnF t n x.12 s)).4 st.2).8,pops:=(aI x.6 x.7 x.8 (FnO.x (fnF t n x.12 s)).1 (FnO.x (fnF t n x.12 s)).2 (FnO.x (fnF t n x.12 s)).3 (FnO.x (fnF t n x.12 s)).4 st.2).9},fn:=aM,cl:=bC,pr:=(lK t n x.8 (FnO.x (fnF t n x.12 s)).3 {me:=st.1,sp:=st.2,R:=st.3++(FnO.x (fnF t n x.12 s)).6}).1},st:= {me:=(Prod.snd (lK t n x.8 (FnO.x (fnF t n x.12 s)).3 {me:=st.1,sp:=st.2,R:=st.3++(FnO.x (fnF t n x.12 s)).6})).1,sp:=(Prod.snd (lK t n x.8 (FnO.x (fnF t n x.12 s)).3 {me:=st.1,sp:=st.2,R:=st.3++(FnO.x (fnF t n x.12 s)).6})).2,R:=(Prod.snd (lK t n x.8 (FnO.x (fnF t n x.12 s)).3 {me:=st.1,sp:=st.2,R:=st.3++(FnO.x (fnF t n x.12 s)).6})).3},s:= {t:=(FnO.s (fnF t n x.12 s)).1,n:=(FnO.s (fnF t n x.12 s)).2,xs:=(FnO.s (fnF t n x.12 s)).3,c:=(FnO.s (fnF t n x.12 s)).4,k:=(FnO.s (fnF t n x.12 s)).5,a:=(FnO.s (fnF t n x.12 s)).6,o:=(FnO.s (fnF t n x.12 s)).7,w:=(FnO.s (fnF t n x.12 s)).8,ok:=(FnO.s (fnF t n x.12 s)).9} }))) (.pre ((t=t∧n=n)∧(false=false→(3:Int)≠(0:Int)∧(3:Int)≠(1:Int)∧(3:Int)≠(2:Int))∧lE' (FnO.s (fnF t n x.12 s)).3∧List.length st.3+List.length (FnO.x (fnF t n x.12 s)).6=List.length (st.3++(FnO.x (fnF t n x.12 s)).6)) (.ret {d:=false,x:= {x with failed:=ilt x.9 (W (x.5+(FnO.x (fnF t n x.12 s)).5)),tries:=W (x.5+(FnO.x (fnF t n x.12 s)).5),at':=3,p:= {now:=(aI x.6 x.7 x.8 (FnO.x (fnF t n x.12 s)).1 (FnO.x (fnF t n x.12 s)).2 (FnO.x (fnF t n x.12 s)).3 (FnO.x (fnF t n x.12 s)).4 st.2).1,code:=(aI x.6 x.7 x.8 (FnO.x (fnF t n x.12 s)).1 (FnO.x (fnF t n x.12 s)).2 (FnO.x (fnF t n x.12 s)).3 (FnO.x (fnF t n x.12 s)).4 st.2).2,okk:=(aI x.6 x.7 x.8 (FnO.x (fnF t n x.12 s)).1 (FnO.x (fnF t n x.12 s)).2 (FnO.x (fnF t n x.12 s)).3 (FnO.x (fnF t n x.12 s)).4 st.2).3,val:=(aI x.6 x.7 x.8 (FnO.x (fnF t n x.12 s)).1 (FnO.x (fnF t n x.12 s)).2 (FnO.x (fnF t n x.12 s)).3 (FnO.x (fnF t n x.12 s)).4 st.2).4,addr:=(aI x.6 x.7 x.8 (FnO.x (fnF t n x.12 s)).1 (FnO.x (fnF t n x.12 s)).2 (FnO.x (fnF t n x.12 s)).3 (FnO.x (fnF t n x.12 s)).4 st.2).5,old:=(aI x.6 x.7 x.8 (FnO.x (fnF t n x.12 s)).1 (FnO.x (fnF t n x.12 s)).2 (FnO.x (fnF t n x.12 s)).3 (FnO.x (fnF t n x.12 s)).4 st.2).6,nxt:=(aI x.6 x.7 x.8 (FnO.x (fnF t n x.12 s)).1 (FnO.x (fnF t n x.12 s)).2 (FnO.x (fnF t n x.12 s)).3 (FnO.x (fnF t n x.12 s)).4 st.2).7,mark:=(aI x.6 x.7 x.8 (FnO.x (fnF t n x.12 s)).1 (FnO.x (fnF t n x.12 s)).2 (FnO.x (fnF t n x.12 s)).3 (FnO.x (fnF t n x.12 s)).4 st.2).8,pops:=(aI x.6 x.7 x.8 (FnO.x (fnF t n x.12 s)).1 (FnO.x (fnF t n x.12 s)).2 (FnO.x (fnF t n x.12 s)).3 (FnO.x (fnF t n x.12 s)).4 st.2).9},fn:=aM,cl:=bC,pr:=cQ},st:= {me:=st.1,sp:=st.2,R:=st.3++(FnO.x (fnF t n x.12 s)).6},s:= {t:=(FnO.s (fnF t n x.12 s)).1,n:=(FnO.s (fnF t n x.12 s)).2,xs:=(FnO.s (fnF t n x.12 s)).3,c:=(FnO.s (fnF t n x.12 s)).4,k:=(FnO.s (fnF t n x.12 s)).5,a:=(FnO.s (fnF t n x.12 s)).6,o:=(FnO.s (fnF t n x.12 s)).7,w:=(FnO.s (fnF t n x.12 s)).8,ok:=(FnO.s (fnF t n x.12 s)).9} })))))))))) (.pre ((t=t∧n=n)∧t=t∧n=n∧(false=false→(0:Int)=(0:Int))∧lE' (FnO.s (fnF t n x.12 s)).3∧lE' st.3) (.ret {d:=false,x:= {x with at':=0,p:= {now:=(FTS.p x).1,code:=(FTS.p x).2,okk:=(FTS.p x).3,val:=(FTS.p x).4,addr:=(FTS.p x).5,old:=(FTS.p x).6,nxt:=(FTS.p x).7,mark:=(FTS.p x).8,pops:=(FTS.p x).9},fn:=(fnF t n x.12 s).2,cl:=bC,pr:=cQ},st:= {me:=st.1,sp:=st.2,R:=st.3},s:= {t:=(FnO.s (fnF t n x.12 s)).1,n:=(FnO.s (fnF t n x.12 s)).2,xs:=(FnO.s (fnF t n x.12 s)).3,c:=(FnO.s (fnF t n x.12 s)).4,k:=(FnO.s (fnF t n x.12 s)).5,a:=(FnO.s (fnF t n x.12 s)).6,o:=(FnO.s (fnF t n x.12 s)).7,w:=(FnO.s (fnF t n x.12 s)).8,ok:=(FnO.s (fnF t n x.12 s)).9} }))))) (.pre (lE' s.3∧JU t n x.12 s) (.ite (fnF t n x.12 s).1 (.pre ((lE' st.3∧lE' (FnO.x (fnF t n x.12 s)).6∧List.length st.3+List.length (FnO.x (fnF t n x.12 s)).6≤(4294967296:Nat))∧True) (.ite (ilt x.9 (W (x.5+(FnO.x (fnF t n x.12 s)).5))) (.pre ((t=t∧n=n)∧(true=false→(0:Int)≠(0:Int)∧(0:Int)≠(1:Int)∧(0:Int)≠(2:Int))∧lE' (FnO.s (fnF t n x.12 s)).3∧List.length st.3+List.length (FnO.x (fnF t n x.12 s)).6=List.length (st.3++(FnO.x (fnF t n x.12 s)).6)) (.ret {d:=true,x:= {x with failed:=ilt x.9 (W (x.5+(FnO.x (fnF t n x.12 s)).5)),tries:=W (x.5+(FnO.x (fnF t n x.12 s)).5),at':=0,p:= {now:=(FTS.p x).1,code:=(FTS.p x).2,okk:=(FTS.p x).3,val:=(FTS.p x).4,addr:=(FTS.p x).5,old:=(FTS.p x).6,nxt:=(FTS.p x).7,mark:=(FTS.p x).8,pops:=(FTS.p x).9},fn:=aM,cl:=bC,pr:=cQ},st:= {me:=st.1,sp:=st.2,R:=st.3++(FnO.x (fnF t n x.12 s)).6},s:= {t:=(FnO.s (fnF t n x.12 s)).1,n:=(FnO.s (fnF t n x.12 s)).2,xs:=(FnO.s (fnF t n x.12 s)).3,c:=(FnO.s (fnF t n x.12 s)).4,k:=(FnO.s (fnF t n x.12 s)).5,a:=(FnO.s (fnF t n x.12 s)).6,o:=(FnO.s (fnF t n x.12 s)).7,w:=(FnO.s (fnF t n x.12 s)).8,ok:=(FnO.s (fnF t n x.12 s)).9} })) (.pre (vA x.6 x.7 x.8 (FnO.x (fnF t n x.12 s)).1 (FnO.x (fnF t n x.12 s)).2 (FnO.x (fnF t n x.12 s)).3 (FnO.x (fnF t n x.12 s)).4 st.2∧True) (.ite (aI x.6 x.7 x.8 (FnO.x (fnF t n x.12 s)).1 (FnO.x (fnF t n x.12 s)).2 (FnO.x (fnF t n x.12 s)).3 (FnO.x (fnF t n x.12 s)).4 st.2).1 (.pre ((t=t∧n=n)∧(true=false→(0:Int)≠(0:Int)∧(0:Int)≠(1:Int)∧(0:Int)≠(2:Int))∧lE' (FnO.s (fnF t n x.12 s)).3∧List.length st.3+List.length (FnO.x (fnF t n x.12 s)).6=List.length (st.3++(FnO.x (fnF t n x.12 s)).6)) (.ret {d:=true,x:= {x with code:=(aI x.6 x.7 x.8 (FnO.x (fnF t n x.12 s)).1 (FnO.x (fnF t n x.12 s)).2 (FnO.x (fnF t n x.12 s)).3 (FnO.x (fnF t n x.12 s)).4 st.2).2,okk:=(aI x.6 x.7 x.8 (FnO.x (fnF t n x.12 s)).1 (FnO.x (fnF t n x.12 s)).2 (FnO.x (fnF t n x.12 s)).3 (FnO.x (fnF t n x.12 s)).4 st.2).3,val:=(aI x.6 x.7 x.8 (FnO.x (fnF t n x.12 s)).1 (FnO.x (fnF t n x.12 s)).2 (FnO.x (fnF t n x.12 s)).3 (FnO.x (fnF t n x.12 s)).4 st.2).4,failed:=ilt x.9 (W (x.5+(FnO.x (fnF t n x.12 s)).5)),tries:=W (x.5+(FnO.x (fnF t n x.12 s)).5),at':=0,p:= {now:=(aI x.6 x.7 x.8 (FnO.x (fnF t n x.12 s)).1 (FnO.x (fnF t n x.12 s)).2 (FnO.x (fnF t n x.12 s)).3 (FnO.x (fnF t n x.12 s)).4 st.2).1,code:=(aI x.6 x.7 x.8 (FnO.x (fnF t n x.12 s)).1 (FnO.x (fnF t n x.12 s)).2 (FnO.x (fnF t n x.12 s)).3 (FnO.x (fnF t n x.12 s)).4 st.2).2,okk:=(aI x.6 x.7 x.8 (FnO.x (fnF t n x.12 s)).1 (FnO.x (fnF t n x.12 s)).2 (FnO.x (fnF t n x.12 s)).3 (FnO.x (fnF t n x.12 s)).4 st.2).3,val:=(aI x.6 x.7 x.8 (FnO.x (fnF t n x.12 s)).1 (FnO.x (fnF t n x.12 s)).2 (FnO.x (fnF t n x.12 s)).3 (FnO.x (fnF t n x.12 s)).4 st.2).4,addr:=(aI x.6 x.7 x.8 (FnO.x (fnF t n x.12 s)).1 (FnO.x (fnF t n x.12 s)).2 (FnO.x (fnF t n x.12 s)).3 (FnO.x (fnF t n x.12 s)).4 st.2).5,old:=(aI x.6 x.7 x.8 (FnO.x (fnF t n x.12 s)).1 (FnO.x (fnF t n x.12 s)).2 (FnO.x (fnF t n x.12 s)).3 (FnO.x (fnF t n x.12 s)).4 st.2).6,nxt:=(aI x.6 x.7 x.8 (FnO.x (fnF t n x.12 s)).1 (FnO.x (fnF t n x.12 s)).2 (FnO.x (fnF t n x.12 s)).3 (FnO.x (fnF t n x.12 s)).4 st.2).7,mark:=(aI x.6 x.7 x.8 (FnO.x (fnF t n x.12 s)).1 (FnO.x (fnF t n x.12 s)).2 (FnO.x (fnF t n x.12 s)).3 (FnO.x (fnF t n x.12 s)).4 st.2).8,pops:=(aI x.6 x.7 x.8 (FnO.x (fnF t n x.12 s)).1 (FnO.x (fnF t n x.12 s)).2 (FnO.x (fnF t n x.12 s)).3 (FnO.x (fnF t n x.12 s)).4 st.2).9},fn:=aM,cl:=bC,pr:=cQ},st:= {me:=st.1,sp:=st.2,R:=st.3++(FnO.x (fnF t n x.12 s)).6},s:= {t:=(FnO.s (fnF t n x.12 s)).1,n:=(FnO.s (fnF t n x.12 s)).2,xs:=(FnO.s (fnF t n x.12 s)).3,c:=(FnO.s (fnF t n x.12 s)).4,k:=(FnO.s (fnF t n x.12 s)).5,a:=(FnO.s (fnF t n x.12 s)).6,o:=(FnO.s (fnF t n x.12 s)).7,w:=(FnO.s (fnF t n x.12 s)).8,ok:=(FnO.s (fnF t n x.12 s)).9} })) (.pre (oG (aI x.6 x.7 x.8 (FnO.x (fnF t n x.12 s)).1 (FnO.x (fnF t n x.12 s)).2 (FnO.x (fnF t n x.12 s)).3 (FnO.x (fnF t n x.12 s)).4 st.2).1 (aI x.6 x.7 x.8 (FnO.x (fnF t n x.12 s)).1 (FnO.x (fnF t n x.12 s)).2 (FnO.x (fnF t n x.12 s)).3 (FnO.x (fnF t n x.12 s)).4 st.2).2 (aI x.6 x.7 x.8 (FnO.x (fnF t n x.12 s)).1 (FnO.x (fnF t n x.12 s)).2 (FnO.x (fnF t n x.12 s)).3 (FnO.x (fnF t n x.12 s)).4 st.2).3 (aI x.6 x.7 x.8 (FnO.x (fnF t n x.12 s)).1 (FnO.x (fnF t n x.12 s)).2 (FnO.x (fnF t n x.12 s)).3 (FnO.x (fnF t n x.12 s)).4 st.2).4 (aI x.6 x.7 x.8 (FnO.x (fnF t n x.12 s)).1 (FnO.x (fnF t n x.12 s)).2 (FnO.x (fnF t n x.12 s)).3 (FnO.x (fnF t n x.12 s)).4 st.2).5 (aI x.6 x.7 x.8 (FnO.x (fnF t n x.12 s)).1 (FnO.x (fnF t n x.12 s)).2 (FnO.x (fnF t n x.12 s)).3 (FnO.x (fnF t n x.12 s)).4 st.2).6 (aI x.6 x.7 x.8 (FnO.x (fnF t n x.12 s)).1 (FnO.x (fnF t n x.12 s)).2 (FnO.x (fnF t n x.12 s)).3 (FnO.x (fnF t n x.12 s)).4 st.2).7 (aI x.6 x.7 x.8 (FnO.x (fnF t n x.12 s)).1 (FnO.x (fnF t n x.12 s)).2 (FnO.x (fnF t n x.12 s)).3 (FnO.x (fnF t n x.12 s)).4 st.2).8 (aI x.6 x.7 x.8 (FnO.x (fnF t n x.12 s)).1 (FnO.x (fnF t n x.12 s)).2 (FnO.x (fnF t n x.12 s)).3 (FnO.x (fnF t n x.12 s)).4 st.2).9) (.ite (kO (aI x.6 x.7 x.8 (FnO.x (fnF t n x.12 s)).1 (FnO.x (fnF t n x.12 s)).2 (FnO.x (fnF t n x.12 s)).3 (FnO.x (fnF t n x.12 s)).4 st.2).1 (aI x.6 x.7 x.8 (FnO.x (fnF t n x.12 s)).1 (FnO.x (fnF t n x.12 s)).2 (FnO.x (fnF t n x.12 s)).3 (FnO.x (fnF t n x.12 s)).4 st.2).2 (aI x.6 x.7 x.8 (FnO.x (fnF t n x.12 s)).1 (FnO.x (fnF t n x.12 s)).2 (FnO.x (fnF t n x.12 s)).3 (FnO.x (fnF t n x.12 s)).4 st.2).3 (aI x.6 x.7 x.8 (FnO.x (fnF t n x.12 s)).1 (FnO.x (fnF t n x.12 s)).2 (FnO.x (fnF t n x.12 s)).3 (FnO.x (fnF t n x.12 s)).4 st.2).4 (aI x.6 x.7 x.8 (FnO.x (fnF t n x.12 s)).1 (FnO.x (fnF t n x.12 s)).2 (FnO.x (fnF t n x.12 s)).3 (FnO.x (fnF t n x.12 s)).4 st.2).5 (aI x.6 x.7 x.8 (FnO.x (fnF t n x.12 s)).1 (FnO.x (fnF t n x.12 s)).2 (FnO.x (fnF t n x.12 s)).3 (FnO.x (fnF t n x.12 s)).4 st.2).6 (aI x.6 x.7 x.8 (FnO.x (fnF t n x.12 s)).1 (FnO.x (fnF t n x.12 s)).2 (FnO.x (fnF t n x.12 s)).3 (FnO.x (fnF t n x.12 s)).4 st.2).7 (aI x.6 x.7 x.8 (FnO.x (fnF t n x.12 s)).1 (FnO.x (fnF t n x.12 s)).2 (FnO.x (fnF t n x.12 s)).3 (FnO.x (fnF t n x.12 s)).4 st.2).8 (aI x.6 x.7 x.8 (FnO.x (fnF t n x.12 s)).1 (FnO.x (fnF t n x.12 s)).2 (FnO.x (fnF t n x.12 s)).3 (FnO.x (fnF t n x.12 s)).4 st.2).9) (.pre (pO t n (aI x.6 x.7 x.8 (FnO.x (fnF t n x.12 s)).1 (FnO.x (fnF t n x.12 s)).2 (FnO.x (fnF t n x.12 s)).3 (FnO.x (fnF t n x.12 s)).4 st.2).5∧True) (.pre ((t=t∧n=n)∧t=t∧n=n∧(false=false→(1:Int)=(1:Int))∧lE' (FnO.s (fnF t n x.12 s)).3∧List.length st.3+List.length (FnO.x (fnF t n x.12 s)).6=List.length (st.3++(FnO.x (fnF t n x.12 s)).6)) (.ret {d:=false,x:= {x with failed:=ilt x.9 (W (x.5+(FnO.x (fnF t n x.12 s)).5)),tries:=W (x.5+(FnO.x (fnF t n x.12 s)).5),at':=1,p:= {now:=(aI x.6 x.7 x.8 (FnO.x (fnF t n x.12 s)).1 (FnO.x (fnF t n x.12 s)).2 (FnO.x (fnF t n x.12 s)).3 (FnO.x (fnF t n x.12 s)).4 st.2).1,code:=(aI x.6 x.7 x.8 (FnO.x (fnF t n x.12 s)).1 (FnO.x (fnF t n x.12 s)).2 (FnO.x (fnF t n x.12 s)).3 (FnO.x (fnF t n x.12 s)).4 st.2).2,okk:=(aI x.6 x.7 x.8 (FnO.x (fnF t n x.12 s)).1 (FnO.x (fnF t n x.12 s)).2 (FnO.x (fnF t n x.12 s)).3 (FnO.x (fnF t n x.12 s)).4 st.2).3,val:=(aI x.6 x.7 x.8 (FnO.x (fnF t n x.12 s)).1 (FnO.x (fnF t n x.12 s)).2 (FnO.x (fnF t n x.12 s)).3 (FnO.x (fnF t n x.12 s)).4 st.2).4,addr:=(aI x.6 x.7 x.8 (FnO.x (fnF t n x.12 s)).1 (FnO.x (fnF t n x.12 s)).2 (FnO.x (fnF t n x.12 s)).3 (FnO.x (fnF t n x.12 s)).4 st.2).5,old:=(aI x.6 x.7 x.8 (FnO.x (fnF t n x.12 s)).1 (FnO.x (fnF t n x.12 s)).2 (FnO.x (fnF t n x.12 s)).3 (FnO.x (fnF t n x.12 s)).4 st.2).6,nxt:=(aI x.6 x.7 x.8 (FnO.x (fnF t n x.12 s)).1 (FnO.x (fnF t n x.12 s)).2 (FnO.x (fnF t n x.12 s)).3 (FnO.x (fnF t n x.12 s)).4 st.2).7,mark:=(aI x.6 x.7 x.8 (FnO.x (fnF t n x.12 s)).1 (FnO.x (fnF t n x.12 s)).2 (FnO.x (fnF t n x.12 s)).3 (FnO.x (fnF t n x.12 s)).4 st.2).8,pops:=(aI x.6 x.7 x.8 (FnO.x (fnF t n x.12 s)).1 (FnO.x (fnF t n x.12 s)).2 (FnO.x (fnF t n x.12 s)).3 (FnO.x (fnF t n x.12 s)).4 st.2).9},fn:=aM,cl:=yK t n (aI x.6 x.7 x.8 (FnO.x (fnF t n x.12 s)).1 (FnO.x (fnF t n x.12 s)).2 (FnO.x (fnF t n x.12 s)).3 (FnO.x (fnF t n x.12 s)).4 st.2).5,pr:=cQ},st:= {me:=st.1,sp:=st.2,R:=st.3++(FnO.x (fnF t n x.12 s)).6},s:= {t:=(FnO.s (fnF t n x.12 s)).1,n:=(FnO.s (fnF t n x.12 s)).2,xs:=(FnO.s (fnF t n x.12 s)).3,c:=(FnO.s (fnF t n x.12 s)).4,k:=(FnO.s (fnF t n x.12 s)).5,a:=(FnO.s (fnF t n x.12 s)).6,o:=(FnO.s (fnF t n x.12 s)).7,w:=(FnO.s (fnF t n x.12 s)).8,ok:=(FnO.s (fnF t n x.12 s)).9} }))) (.pre True (.ite (bS x.7) (.pre ((List.length st.3+List.length (FnO.x (fnF t n x.12 s)).6=List.length (st.3++(FnO.x (fnF t n x.12 s)).6)∧C3 t n x.8 (FnO.x (fnF t n x.12 s)).3 {me:=st.1,sp:=st.2,R:=st.3++(FnO.x (fnF t n x.12 s)).6})∧True) (.pre ((t=t∧n=n)∧t=t∧n=n∧(false=false→(2:Int)=(2:Int))∧lE' (FnO.s (fnF t n x.12 s)).3∧lE' (Prod.snd (lK t n x.8 (FnO.x (fnF t n x.12 s)).3 {me:=st.1,sp:=st.2,R:=st.3++(FnO.x (fnF t n x.12 s)).6})).3) (.ret {d:=false,x:= {x with failed:=ilt x.9 (W (x.5+(FnO.x (fnF t n x.12 s)).5)),tries:=W (x.5+(FnO.x (fnF t n x.12 s)).5),at':=2,p:= {now:=(aI x.6 x.7 x.8 (FnO.x (fnF t n x.12 s)).1 (FnO.x (fnF t n x.12 s)).2 (FnO.x (fnF t n x.12 s)).3 (FnO.x (fnF t n x.12 s)).4 st.2).1,code:=(aI x.6 x.7 x.8 (FnO.x (fnF t n x.12 s)).1 (FnO.x (fnF t n x.12 s)).2 (FnO.x (fnF t n x.12 s)).3 (FnO.x (fnF t n x.12 s)).4 st.2).2,okk:=(aI x.6 x.7 x.8 (FnO.x (fnF t n x.12 s)).1 (FnO.x (fnF t n x.12 s)).2 (FnO.x (fnF t n x.12 s)).3 (FnO.x (fnF t n x.12 s)).4 st.2).3,val:=(aI x.6 x.7 x.8 (FnO.x (fnF t n x.12 s)).1 (FnO.x (fnF t n x.12 s)).2 (FnO.x (fnF t n x.12 s)).3 (FnO.x (fnF t n x.12 s)).4 st.2).4,addr:=(aI x.6 x.7 x.8 (FnO.x (fnF t n x.12 s)).1 (FnO.x (fnF t n x.12 s)).2 (FnO.x (fnF t n x.12 s)).3 (FnO.x (fnF t n x.12 s)).4 st.2).5,old:=(aI x.6 x.7 x.8 (FnO.x (fnF t n x.12 s)).1 (FnO.x (fnF t n x.12 s)).2 (FnO.x (fnF t n x.12 s)).3 (FnO.x (fnF t n x.12 s)).4 st.2).6,nxt:=(aI x.6 x.7 x.8 (FnO.x (fnF t n x.12 s)).1 (FnO.x (fnF t n x.12 s)).2 (FnO.x (fnF t n x.12 s)).3 (FnO.x (fnF t n x.12 s)).4 st.2).7,mark:=(aI x.6 x.7 x.8 (FnO.x (fnF t n x.12 s)).1 (FnO.x (fnF t n x.12 s)).2 (FnO.x (fnF t n x.12 s)).3 (FnO.x (fnF t n x.12 s)).4 st.2).8,pops:=(aI x.6 x.7 x.8 (FnO.x (fnF t n x.12 s)).1 (FnO.x (fnF t n x.12 s)).2 (FnO.x (fnF t n x.12 s)).3 (FnO.x (fnF t n x.12 s)).4 st.2).9},fn:=aM,cl:=bC,pr:=(lK t n x.8 (FnO.x (fnF t n x.12 s)).3 {me:=st.1,sp:=st.2,R:=st.3++(FnO.x (fnF t n x.12 s)).6}).1},st:= {me:=(Prod.snd (lK t n x.8 (FnO.x (fnF t n x.12 s)).3 {me:=st.1,sp:=st.2,R:=st.3++(FnO.x (fnF t n x.12 s)).6})).1,sp:=(Prod.snd (lK t n x.8 (FnO.x (fnF t n x.12 s)).3 {me:=st.1,sp:=st.2,R:=st.3++(FnO.x (fnF t n x.12 s)).6})).2,R:=(Prod.snd (lK t n x.8 (FnO.x (fnF t n x.12 s)).3 {me:=st.1,sp:=st.2,R:=st.3++(FnO.x (fnF t n x.12 s)).6})).3},s:= {t:=(FnO.s (fnF t n x.12 s)).1,n:=(FnO.s (fnF t n x.12 s)).2,xs:=(FnO.s (fnF t n x.12 s)).3,c:=(FnO.s (fnF t n x.12 s)).4,k:=(FnO.s (fnF t n x.12 s)).5,a:=(FnO.s (fnF t n x.12 s)).6,o:=(FnO.s (fnF t n x.12 s)).7,w:=(FnO.s (fnF t n x.12 s)).8,ok:=(FnO.s (fnF t n x.12 s)).9} }))) (.pre ((t=t∧n=n)∧(false=false→(3:Int)≠(0:Int)∧(3:Int)≠(1:Int)∧(3:Int)≠(2:Int))∧lE' (FnO.s (fnF t n x.12 s)).3∧List.length st.3+List.length (FnO.x (fnF t n x.12 s)).6=List.length (st.3++(FnO.x (fnF t n x.12 s)).6)) (.ret {d:=false,x:= {x with failed:=ilt x.9 (W (x.5+(FnO.x (fnF t n x.12 s)).5)),tries:=W (x.5+(FnO.x (fnF t n x.12 s)).5),at':=3,p:= {now:=(aI x.6 x.7 x.8 (FnO.x (fnF t n x.12 s)).1 (FnO.x (fnF t n x.12 s)).2 (FnO.x (fnF t n x.12 s)).3 (FnO.x (fnF t n x.12 s)).4 st.2).1,code:=(aI x.6 x.7 x.8 (FnO.x (fnF t n x.12 s)).1 (FnO.x (fnF t n x.12 s)).2 (FnO.x (fnF t n x.12 s)).3 (FnO.x (fnF t n x.12 s)).4 st.2).2,okk:=(aI x.6 x.7 x.8 (FnO.x (fnF t n x.12 s)).1 (FnO.x (fnF t n x.12 s)).2 (FnO.x (fnF t n x.12 s)).3 (FnO.x (fnF t n x.12 s)).4 st.2).3,val:=(aI x.6 x.7 x.8 (FnO.x (fnF t n x.12 s)).1 (FnO.x (fnF t n x.12 s)).2 (FnO.x (fnF t n x.12 s)).3 (FnO.x (fnF t n x.12 s)).4 st.2).4,addr:=(aI x.6 x.7 x.8 (FnO.x (fnF t n x.12 s)).1 (FnO.x (fnF t n x.12 s)).2 (FnO.x (fnF t n x.12 s)).3 (FnO.x (fnF t n x.12 s)).4 st.2).5,old:=(aI x.6 x.7 x.8 (FnO.x (fnF t n x.12 s)).1 (FnO.x (fnF t n x.12 s)).2 (FnO.x (fnF t n x.12 s)).3 (FnO.x (fnF t n x.12 s)).4 st.2).6,nxt:=(aI x.6 x.7 x.8 (FnO.x (fnF t n x.12 s)).1 (FnO.x (fnF t n x.12 s)).2 (FnO.x (fnF t n x.12 s)).3 (FnO.x (fnF t n x.12 s)).4 st.2).7,mark:=(aI x.6 x.7 x.8 (FnO.x (fnF t n x.12 s)).1 (FnO.x (fnF t n x.12 s)).2 (FnO.x (fnF t n x.12 s)).3 (FnO.x (fnF t n x.12 s)).4 st.2).8,pops:=(aI x.6 x.7 x.8 (FnO.x (fnF t n x.12 s)).1 (FnO.x (fnF t n x.12 s)).2 (FnO.x (fnF t n x.12 s)).3 (FnO.x (fnF t n x.12 s)).4 st.2).9},fn:=aM,cl:=bC,pr:=cQ},st:= {me:=st.1,sp:=st.2,R:=st.3++(FnO.x (fnF t n x.12 s)).6},s:= {t:=(FnO.s (fnF t n x.12 s)).1,n:=(FnO.s (fnF t n x.12 s)).2,xs:=(FnO.s (fnF t n x.12 s)).3,c:=(FnO.s (fnF t n x.12 s)).4,k:=(FnO.s (fnF t n x.12 s)).5,a:=(FnO.s (fnF t n x.12 s)).6,o:=(FnO.s (fnF t n x.12 s)).7,w:=(FnO.s (fnF t n x.12 s)).8,ok:=(FnO.s (fnF t n x.12 s)).9} })))))))))) (.pre ((t=t∧n=n)∧t=t∧n=n∧(false=false→(0:Int)=(0:Int))∧lE' (FnO.s (fnF t n x.12 s)).3∧lE' st.3) (.ret {d:=false,x:= {x with at':=0,p:= {now:=(FTS.p x).1,code:=(FTS.p x).2,okk:=(FTS.p x).3,val:=(FTS.p x).4,addr:=(FTS.p x).5,old:=(FTS.p x).6,nxt:=(FTS.p x).7,mark:=(FTS.p x).8,pops:=(FTS.p x).9},fn:=(fnF t n x.12 s).2,cl:=bC,pr:=cQ},st:= {me:=st.1,sp:=st.2,R:=st.3},s:= {t:=(FnO.s (fnF t n x.12 s)).1,n:=(FnO.s (fnF t n x.12 s)).2,xs:=(FnO.s (fnF t n x.12 s)).3,c:=(FnO.s (fnF t n x.12 s)).4,k:=(FnO.s (fnF t n x.12 s)).5,a:=(FnO.s (fnF t n x.12 s)).6,o:=(FnO.s (fnF t n x.12 s)).7,w:=(FnO.s (fnF t n x.12 s)).8,ok:=(FnO.s (fnF t n x.12 s)).9} })))))))
theorem J3(t n:Int)(x:FTS)(st:STS)(s:MS)(K:FtO→Prop)(h:(qC t n x st s).run K):cT' 39 [.ptr 0 0,.ptr 2 0] [some (.cells [.ptr 1 0,.int .i64 x.code,.bool x.okk,.int .i64 x.val,.bool x.failed,.int .i64 x.tries,.int .i64 x.sh,.int .i64 x.kd,.int .i64 x.ky,.int .i64 x.most,.int .i64 0,.bool x.p.now,.int .i64 x.p.code,.bool x.p.okk,.int .i64 x.p.val,.int .i64 x.p.addr,.int .u64 x.p.old,.int .i64 x.p.nxt,.bool x.p.mark,.int .i64 x.p.pops,.ptr 4 0,.O,.O]),stC 5 t n st,a8 3 s,a9 s,some (.abs (.find t n x.fn) []),fS st] (cC 4 0 [20,21,22] [(.cell 1 4,.ints (some .i64))] (QN t n) K):=by
 exact cM' (E:=ER) (by kernel_rfl) h
def B9(t n:Int)(x:FTS)(st:STS)(s:MS):Tr FtO:=.pre (lE' s.3∧MQ t n x.13 s) (.ite (dL t n x.13 s).1 (.ite (ilt x.9 (W (x.5+1))) (.pre ((t=t∧n=n)∧(true=false→(1:Int)≠(0:Int)∧(1:Int)≠(1:Int)∧(1:Int)≠(2:Int))∧lE' (ClO.s (dL t n x.13 s)).3∧lE' st.3) (.ret {d:=true,x:= {x with failed:=ilt x.9 (W (x.5+1)),tries:=W (x.5+1),at':=1,p:= {now:=(FTS.p x).1,code:=(FTS.p x).2,okk:=(FTS.p x).3,val:=(FTS.p x).4,addr:=(FTS.p x).5,old:=(FTS.p x).6,nxt:=(FTS.p x).7,mark:=(FTS.p x).8,pops:=(FTS.p x).9},fn:=aM,cl:=bC,pr:=cQ},st:= {me:=st.1,sp:=st.2,R:=st.3},s:= {t:=(ClO.s (dL t n x.13 s)).1,n:=(ClO.s (dL t n x.13 s)).2,xs:=(ClO.s (dL t n x.13 s)).3,c:=(ClO.s (dL t n x.13 s)).4,k:=(ClO.s (dL t n x.13 s)).5,a:=(ClO.s (dL t n x.13 s)).6,o:=(ClO.s (dL t n x.13 s)).7,w:=(ClO.s (dL t n x.13 s)).8,ok:=(ClO.s (dL t n x.13 s)).9} })) (.pre True (.pre (oO t n st.1 (cB x.6 x.8) (bT x.6 x.7 x.8) (W (x.9 - W (x.5+1)))∧True) (.pre ((t=t∧n=n)∧t=t∧n=n∧(false=false→(0:Int)=(0:Int))∧lE' (ClO.s (dL t n x.13 s)).3∧lE' st.3) (.ret {d:=false,x:= {x with failed:=ilt x.9 (W (x.5+1)),tries:=W (x.5+1),at':=0,p:= {now:=(FTS.p x).1,code:=(FTS.p x).2,okk:=(FTS.p x).3,val:=(FTS.p x).4,addr:=(FTS.p x).5,old:=(FTS.p x).6,nxt:=(FTS.p x).7,mark:=(FTS.p x).8,pops:=(FTS.p x).9},fn:=lC t n st.1 (cB x.6 x.8) (bT x.6 x.7 x.8) (W (x.9 - W (x.5+1))),cl:=bC,pr:=cQ},st:= {me:=st.1,sp:=st.2,R:=st.3},s:= {t:=(ClO.s (dL t n x.13 s)).1,n:=(ClO.s (dL t n x.13 s)).2,xs:=(ClO.s (dL t n x.13 s)).3,c:=(ClO.s (dL t n x.13 s)).4,k:=(ClO.s (dL t n x.13 s)).5,a:=(ClO.s (dL t n x.13 s)).6,o:=(ClO.s (dL t n x.13 s)).7,w:=(ClO.s (dL t n x.13 s)).8,ok:=(ClO.s (dL t n x.13 s)).9} }))))) (.pre ((t=t∧n=n)∧t=t∧n=n∧(false=false→(1:Int)=(1:Int))∧lE' (ClO.s (dL t n x.13 s)).3∧lE' st.3) (.ret {d:=false,x:= {x with at':=1,p:= {now:=(FTS.p x).1,code:=(FTS.p x).2,okk:=(FTS.p x).3,val:=(FTS.p x).4,addr:=(FTS.p x).5,old:=(FTS.p x).6,nxt:=(FTS.p x).7,mark:=(FTS.p x).8,pops:=(FTS.p x).9},fn:=aM,cl:=(dL t n x.13 s).2,pr:=cQ},st:= {me:=st.1,sp:=st.2,R:=st.3},s:= {t:=(ClO.s (dL t n x.13 s)).1,n:=(ClO.s (dL t n x.13 s)).2,xs:=(ClO.s (dL t n x.13 s)).3,c:=(ClO.s (dL t n x.13 s)).4,k:=(ClO.s (dL t n x.13 s)).5,a:=(ClO.s (dL t n x.13 s)).6,o:=(ClO.s (dL t n x.13 s)).7,w:=(ClO.s (dL t n x.13 s)).8,ok:=(ClO.s (dL t n x.13 s)).9} })))
theorem J4(t n:Int)(x:FTS)(st:STS)(s:MS)(K:FtO→Prop)(h:(B9 t n x st s).run K):cT' 39 [.ptr 0 0,.ptr 2 0] [some (.cells [.ptr 1 0,.int .i64 x.code,.bool x.okk,.int .i64 x.val,.bool x.failed,.int .i64 x.tries,.int .i64 x.sh,.int .i64 x.kd,.int .i64 x.ky,.int .i64 x.most,.int .i64 1,.bool x.p.now,.int .i64 x.p.code,.bool x.p.okk,.int .i64 x.p.val,.int .i64 x.p.addr,.int .u64 x.p.old,.int .i64 x.p.nxt,.bool x.p.mark,.int .i64 x.p.pops,.O,.ptr 4 0,.O]),stC 5 t n st,a8 3 s,a9 s,some (.abs (.clear t n x.cl) []),fS st] (cC 4 0 [20,21,22] [(.cell 1 4,.ints (some .i64))] (QN t n) K):=by
 exact cM' (E:=ER) (by kernel_rfl) h
def qD(t n:Int)(x:FTS)(st:STS)(s:MS):Tr FtO:=.pre ((lE' s.3∧lE' st.3∧t=t∧n=n)∧PA t n x.14 st s) (.ite (prF t n x.14 st s).1 (.pre ((t=t∧n=n)∧(false=false→(3:Int)≠(0:Int)∧(3:Int)≠(1:Int)∧(3:Int)≠(2:Int))∧lE' (PrO.s (prF t n x.14 st s)).3∧lE' (PrO.st (prF t n x.14 st s)).3) (.ret {d:=false,x:= {x with at':=3,p:= {now:=(FTS.p x).1,code:=(FTS.p x).2,okk:=(FTS.p x).3,val:=(FTS.p x).4,addr:=(FTS.p x).5,old:=(FTS.p x).6,nxt:=(FTS.p x).7,mark:=(FTS.p x).8,pops:=(FTS.p x).9},fn:=aM,cl:=bC,pr:=cQ},st:= {me:=(PrO.st (prF t n x.14 st s)).1,sp:=(PrO.st (prF t n x.14 st s)).2,R:=(PrO.st (prF t n x.14 st s)).3},s:= {t:=(PrO.s (prF t n x.14 st s)).1,n:=(PrO.s (prF t n x.14 st s)).2,xs:=(PrO.s (prF t n x.14 st s)).3,c:=(PrO.s (prF t n x.14 st s)).4,k:=(PrO.s (prF t n x.14 st s)).5,a:=(PrO.s (prF t n x.14 st s)).6,o:=(PrO.s (prF t n x.14 st s)).7,w:=(PrO.s (prF t n x.14 st s)).8,ok:=(PrO.s (prF t n x.14 st s)).9} })) (.pre ((t=t∧n=n)∧t=t∧n=n∧(false=false→(2:Int)=(2:Int))∧lE' (PrO.s (prF t n x.14 st s)).3∧lE' (PrO.st (prF t n x.14 st s)).3) (.ret {d:=false,x:= {x with at':=2,p:= {now:=(FTS.p x).1,code:=(FTS.p x).2,okk:=(FTS.p x).3,val:=(FTS.p x).4,addr:=(FTS.p x).5,old:=(FTS.p x).6,nxt:=(FTS.p x).7,mark:=(FTS.p x).8,pops:=(FTS.p x).9},fn:=aM,cl:=bC,pr:=(prF t n x.14 st s).2},st:= {me:=(PrO.st (prF t n x.14 st s)).1,sp:=(PrO.st (prF t n x.14 st s)).2,R:=(PrO.st (prF t n x.14 st s)).3},s:= {t:=(PrO.s (prF t n x.14 st s)).1,n:=(PrO.s (prF t n x.14 st s)).2,xs:=(PrO.s (prF t n x.14 st s)).3,c:=(PrO.s (prF t n x.14 st s)).4,k:=(PrO.s (prF t n x.14 st s)).5,a:=(PrO.s (prF t n x.14 st s)).6,o:=(PrO.s (prF t n x.14 st s)).7,w:=(PrO.s (prF t n x.14 st s)).8,ok:=(PrO.s (prF t n x.14 st s)).9} })))
theorem J5(t n:Int)(x:FTS)(st:STS)(s:MS)(K:FtO→Prop)(h:(qD t n x st s).run K):cT' 39 [.ptr 0 0,.ptr 2 0] [some (.cells [.ptr 1 0,.int .i64 x.code,.bool x.okk,.int .i64 x.val,.bool x.failed,.int .i64 x.tries,.int .i64 x.sh,.int .i64 x.kd,.int .i64 x.ky,.int .i64 x.most,.int .i64 2,.bool x.p.now,.int .i64 x.p.code,.bool x.p.okk,.int .i64 x.p.val,.int .i64 x.p.addr,.int .u64 x.p.old,.int .i64 x.p.nxt,.bool x.p.mark,.int .i64 x.p.pops,.O,.O,.ptr 4 0]),stC 5 t n st,a8 3 s,a9 s,some (.abs (.prepare t n x.pr) [1]),fS st] (cC 4 0 [20,21,22] [(.cell 1 4,.ints (some .i64))] (QN t n) K):=by
 exact cM' (E:=ER) (by kernel_rfl) h
def uO(t n:Int)(x:FTS)(st:STS)(s:MS):Tr FtO:=.pre (zN (FTS.p x).1 (FTS.p x).2 (FTS.p x).3 (FTS.p x).4 (FTS.p x).5 (FTS.p x).6 (FTS.p x).7 (FTS.p x).8 (FTS.p x).9∧True) (.pre ((lE' s.3∧(0:Int)≤s.4∧s.4≤(4611686018427387904:Int))∧True) (.ite (!aR s.3 (FTS.p x).5 (FTS.p x).6) (.ite (ilt x.9 (W (x.5+1))) (.pre ((t=t∧n=n)∧(true=false→(3:Int)≠(0:Int)∧(3:Int)≠(1:Int)∧(3:Int)≠(2:Int))∧lE' (bif aR s.3 (FTS.p x).5 (FTS.p x).6 then aL s.3 (FTS.p x).5 (cY (FTS.p x).1 (FTS.p x).2 (FTS.p x).3 (FTS.p x).4 (FTS.p x).5 (FTS.p x).6 (FTS.p x).7 (FTS.p x).8 (FTS.p x).9)else s.3)∧lE' st.3) (.ret {d:=true,x:= {x with failed:=ilt x.9 (W (x.5+1)),tries:=W (x.5+1),at':=3,p:= {now:=(FTS.p x).1,code:=(FTS.p x).2,okk:=(FTS.p x).3,val:=(FTS.p x).4,addr:=(FTS.p x).5,old:=(FTS.p x).6,nxt:=(FTS.p x).7,mark:=(FTS.p x).8,pops:=(FTS.p x).9},fn:=aM,cl:=bC,pr:=cQ},st:= {me:=st.1,sp:=st.2,R:=st.3},s:= {t:=s.1,n:=s.2,xs:=bif aR s.3 (FTS.p x).5 (FTS.p x).6 then aL s.3 (FTS.p x).5 (cY (FTS.p x).1 (FTS.p x).2 (FTS.p x).3 (FTS.p x).4 (FTS.p x).5 (FTS.p x).6 (FTS.p x).7 (FTS.p x).8 (FTS.p x).9)else s.3,c:=s.4+1,k:=3,a:=(FTS.p x).5,o:=aB s.3 (FTS.p x).5,w:=bif bM s.3 (FTS.p x).5 then cY (FTS.p x).1 (FTS.p x).2 (FTS.p x).3 (FTS.p x).4 (FTS.p x).5 (FTS.p x).6 (FTS.p x).7 (FTS.p x).8 (FTS.p x).9 else 0,ok:=aR s.3 (FTS.p x).5 (FTS.p x).6} })) (.pre True (.pre (oO t n st.1 (cB x.6 x.8) (bT x.6 x.7 x.8) (W (x.9 - W (x.5+1)))∧True) (.pre ((t=t∧n=n)∧t=t∧n=n∧(false=false→(0:Int)=(0:Int))∧lE' (bif aR s.3 (FTS.p x).5 (FTS.p x).6 then aL s.3 (FTS.p x).5 (cY (FTS.p x).1 (FTS.p x).2 (FTS.p x).3 (FTS.p x).4 (FTS.p x).5 (FTS.p x).6 (FTS.p x).7 (FTS.p x).8 (FTS.p x).9)else s.3)∧lE' st.3) (.ret {d:=false,x:= {x with failed:=ilt x.9 (W (x.5+1)),tries:=W (x.5+1),at':=0,p:= {now:=(FTS.p x).1,code:=(FTS.p x).2,okk:=(FTS.p x).3,val:=(FTS.p x).4,addr:=(FTS.p x).5,old:=(FTS.p x).6,nxt:=(FTS.p x).7,mark:=(FTS.p x).8,pops:=(FTS.p x).9},fn:=lC t n st.1 (cB x.6 x.8) (bT x.6 x.7 x.8) (W (x.9 - W (x.5+1))),cl:=bC,pr:=cQ},st:= {me:=st.1,sp:=st.2,R:=st.3},s:= {t:=s.1,n:=s.2,xs:=bif aR s.3 (FTS.p x).5 (FTS.p x).6 then aL s.3 (FTS.p x).5 (cY (FTS.p x).1 (FTS.p x).2 (FTS.p x).3 (FTS.p x).4 (FTS.p x).5 (FTS.p x).6 (FTS.p x).7 (FTS.p x).8 (FTS.p x).9)else s.3,c:=s.4+1,k:=3,a:=(FTS.p x).5,o:=aB s.3 (FTS.p x).5,w:=bif bM s.3 (FTS.p x).5 then cY (FTS.p x).1 (FTS.p x).2 (FTS.p x).3 (FTS.p x).4 (FTS.p x).5 (FTS.p x).6 (FTS.p x).7 (FTS.p x).8 (FTS.p x).9 else 0,ok:=aR s.3 (FTS.p x).5 (FTS.p x).6} }))))) (.pre True (.ite (bS x.7) (.ite (!ieq (FTS.p x).9 0) (.pre ((lE' st.3∧1=1∧List.length st.3+(1:Nat)≤(4294967296:Nat))∧True) (.pre ((t=t∧n=n)∧(true=false→(3:Int)≠(0:Int)∧(3:Int)≠(1:Int)∧(3:Int)≠(2:Int))∧lE' (bif aR s.3 (FTS.p x).5 (FTS.p x).6 then aL s.3 (FTS.p x).5 (cY (FTS.p x).1 (FTS.p x).2 (FTS.p x).3 (FTS.p x).4 (FTS.p x).5 (FTS.p x).6 (FTS.p x).7 (FTS.p x).8 (FTS.p x).9)else s.3)∧List.length st.3+(1:Nat)=List.length (st.3++ [(FTS.p x).9])) (.ret {d:=true,x:= {x with code:=(FTS.p x).2,okk:=(FTS.p x).3,val:=(FTS.p x).4,at':=3,p:= {now:=(FTS.p x).1,code:=(FTS.p x).2,okk:=(FTS.p x).3,val:=(FTS.p x).4,addr:=(FTS.p x).5,old:=(FTS.p x).6,nxt:=(FTS.p x).7,mark:=(FTS.p x).8,pops:=(FTS.p x).9},fn:=aM,cl:=bC,pr:=cQ},st:= {me:=st.1,sp:=0,R:=st.3++ [(FTS.p x).9] },s:= {t:=s.1,n:=s.2,xs:=bif aR s.3 (FTS.p x).5 (FTS.p x).6 then aL s.3 (FTS.p x).5 (cY (FTS.p x).1 (FTS.p x).2 (FTS.p x).3 (FTS.p x).4 (FTS.p x).5 (FTS.p x).6 (FTS.p x).7 (FTS.p x).8 (FTS.p x).9)else s.3,c:=s.4+1,k:=3,a:=(FTS.p x).5,o:=aB s.3 (FTS.p x).5,w:=bif bM s.3 (FTS.p x).5 then cY (FTS.p x).1 (FTS.p x).2 (FTS.p x).3 (FTS.p x).4 (FTS.p x).5 (FTS.p x).6 (FTS.p x).7 (FTS.p x).8 (FTS.p x).9 else 0,ok:=aR s.3 (FTS.p x).5 (FTS.p x).6} }))) (.pre ((t=t∧n=n)∧(true=false→(3:Int)≠(0:Int)∧(3:Int)≠(1:Int)∧(3:Int)≠(2:Int))∧lE' (bif aR s.3 (FTS.p x).5 (FTS.p x).6 then aL s.3 (FTS.p x).5 (cY (FTS.p x).1 (FTS.p x).2 (FTS.p x).3 (FTS.p x).4 (FTS.p x).5 (FTS.p x).6 (FTS.p x).7 (FTS.p x).8 (FTS.p x).9)else s.3)∧lE' st.3) (.ret {d:=true,x:= {x with code:=(FTS.p x).2,okk:=(FTS.p x).3,val:=(FTS.p x).4,at':=3,p:= {now:=(FTS.p x).1,code:=(FTS.p x).2,okk:=(FTS.p x).3,val:=(FTS.p x).4,addr:=(FTS.p x).5,old:=(FTS.p x).6,nxt:=(FTS.p x).7,mark:=(FTS.p x).8,pops:=(FTS.p x).9},fn:=aM,cl:=bC,pr:=cQ},st:= {me:=st.1,sp:=0,R:=st.3},s:= {t:=s.1,n:=s.2,xs:=bif aR s.3 (FTS.p x).5 (FTS.p x).6 then aL s.3 (FTS.p x).5 (cY (FTS.p x).1 (FTS.p x).2 (FTS.p x).3 (FTS.p x).4 (FTS.p x).5 (FTS.p x).6 (FTS.p x).7 (FTS.p x).8 (FTS.p x).9)else s.3,c:=s.4+1,k:=3,a:=(FTS.p x).5,o:=aB s.3 (FTS.p x).5,w:=bif bM s.3 (FTS.p x).5 then cY (FTS.p x).1 (FTS.p x).2 (FTS.p x).3 (FTS.p x).4 (FTS.p x).5 (FTS.p x).6 (FTS.p x).7 (FTS.p x).8 (FTS.p x).9 else 0,ok:=aR s.3 (FTS.p x).5 (FTS.p x).6} }))) (.ite (!ieq (FTS.p x).9 0) (.pre ((lE' st.3∧1=1∧List.length st.3+(1:Nat)≤(4294967296:Nat))∧True) (.pre ((t=t∧n=n)∧(true=false→(3:Int)≠(0:Int)∧(3:Int)≠(1:Int)∧(3:Int)≠(2:Int))∧lE' (bif aR s.3 (FTS.p x).5 (FTS.p x).6 then aL s.3 (FTS.p x).5 (cY (FTS.p x).1 (FTS.p x).2 (FTS.p x).3 (FTS.p x).4 (FTS.p x).5 (FTS.p x).6 (FTS.p x).7 (FTS.p x).8 (FTS.p x).9)else s.3)∧List.length st.3+(1:Nat)=List.length (st.3++ [(FTS.p x).9])) (.ret {d:=true,x:= {x with code:=(FTS.p x).2,okk:=(FTS.p x).3,val:=(FTS.p x).4,at':=3,p:= {now:=(FTS.p x).1,code:=(FTS.p x).2,okk:=(FTS.p x).3,val:=(FTS.p x).4,addr:=(FTS.p x).5,old:=(FTS.p x).6,nxt:=(FTS.p x).7,mark:=(FTS.p x).8,pops:=(FTS.p x).9},fn:=aM,cl:=bC,pr:=cQ},st:= {me:=st.1,sp:=st.2,R:=st.3++ [(FTS.p x).9] },s:= {t:=s.1,n:=s.2,xs:=bif aR s.3 (FTS.p x).5 (FTS.p x).6 then aL s.3 (FTS.p x).5 (cY (FTS.p x).1 (FTS.p x).2 (FTS.p x).3 (FTS.p x).4 (FTS.p x).5 (FTS.p x).6 (FTS.p x).7 (FTS.p x).8 (FTS.p x).9)else s.3,c:=s.4+1,k:=3,a:=(FTS.p x).5,o:=aB s.3 (FTS.p x).5,w:=bif bM s.3 (FTS.p x).5 then cY (FTS.p x).1 (FTS.p x).2 (FTS.p x).3 (FTS.p x).4 (FTS.p x).5 (FTS.p x).6 (FTS.p x).7 (FTS.p x).8 (FTS.p x).9 else 0,ok:=aR s.3 (FTS.p x).5 (FTS.p x).6} }))) (.pre ((t=t∧n=n)∧(true=false→(3:Int)≠(0:Int)∧(3:Int)≠(1:Int)∧(3:Int)≠(2:Int))∧lE' (bif aR s.3 (FTS.p x).5 (FTS.p x).6 then aL s.3 (FTS.p x).5 (cY (FTS.p x).1 (FTS.p x).2 (FTS.p x).3 (FTS.p x).4 (FTS.p x).5 (FTS.p x).6 (FTS.p x).7 (FTS.p x).8 (FTS.p x).9)else s.3)∧lE' st.3) (.ret {d:=true,x:= {x with code:=(FTS.p x).2,okk:=(FTS.p x).3,val:=(FTS.p x).4,at':=3,p:= {now:=(FTS.p x).1,code:=(FTS.p x).2,okk:=(FTS.p x).3,val:=(FTS.p x).4,addr:=(FTS.p x).5,old:=(FTS.p x).6,nxt:=(FTS.p x).7,mark:=(FTS.p x).8,pops:=(FTS.p x).9},fn:=aM,cl:=bC,pr:=cQ},st:= {me:=st.1,sp:=st.2,R:=st.3},s:= {t:=s.1,n:=s.2,xs:=bif aR s.3 (FTS.p x).5 (FTS.p x).6 then aL s.3 (FTS.p x).5 (cY (FTS.p x).1 (FTS.p x).2 (FTS.p x).3 (FTS.p x).4 (FTS.p x).5 (FTS.p x).6 (FTS.p x).7 (FTS.p x).8 (FTS.p x).9)else s.3,c:=s.4+1,k:=3,a:=(FTS.p x).5,o:=aB s.3 (FTS.p x).5,w:=bif bM s.3 (FTS.p x).5 then cY (FTS.p x).1 (FTS.p x).2 (FTS.p x).3 (FTS.p x).4 (FTS.p x).5 (FTS.p x).6 (FTS.p x).7 (FTS.p x).8 (FTS.p x).9 else 0,ok:=aR s.3 (FTS.p x).5 (FTS.p x).6} })))))))
theorem J6(t n:Int)(x:FTS)(st:STS)(s:MS)(K:FtO→Prop)(h:(uO t n x st s).run K):cT' 39 [.ptr 0 0,.ptr 2 0] [some (.cells [.ptr 1 0,.int .i64 x.code,.bool x.okk,.int .i64 x.val,.bool x.failed,.int .i64 x.tries,.int .i64 x.sh,.int .i64 x.kd,.int .i64 x.ky,.int .i64 x.most,.int .i64 3,.bool x.p.now,.int .i64 x.p.code,.bool x.p.okk,.int .i64 x.p.val,.int .i64 x.p.addr,.int .u64 x.p.old,.int .i64 x.p.nxt,.bool x.p.mark,.int .i64 x.p.pops,.O,.O,.O]),stC 4 t n st,a8 3 s,a9 s,fS st] (cC 4 0 [20,21,22] [(.cell 1 4,.ints (some .i64))] (QN t n) K):=by
 exact cM' (E:=ER) (by kernel_rfl) h
def N0(t n:Int)(x:FTS)(st:STS)(s:MS):Tr FtO:=
 bif ieq x.at' 0 then qC t n x st s else
 bif ieq x.at' 1 then B9 t n x st s else
 bif ieq x.at' 2 then qD t n x st s else
 bif ieq x.at' 3 then uO t n x st s else .pre False (.ret default)
def ftF(t n:Int)(x:FTS)(st:STS)(s:MS):FtO:=(N0 t n x st s).val
def S7(t n:Int)(x:FTS)(st:STS)(s:MS):Prop:=(N0 t n x st s).ok
theorem HP(t n:Int)(x:FTS)(st:STS)(s:MS)(K:AVal→aD Ob→Prop)(h:(N0 t n x st s).run (fun y=>(FtO.fin t n y).run K)):cT' 39 [.ptr 0 0,.ptr 2 0] (QM t n x st s) K:=by
 unfold N0 at h
 by_cases e:x.at'=0
 ·rw [e]at h
  have h:(qC t n x st s).run _:=h
  refine aC9 (root:=0) (pos:=[20,21,22]) (cs:=[(.cell 1 4,.ints (some .i64))]) (parse:=QN t n) (fin:=FtO.fin t n) y9 ((bE.unpack (.fast t n x) 0 1 (lB t n x) [1] rfl (congrArg (Prod.mk 1) (y0 e)) (by kernel_rfl) rfl).trans (bE.unpack (.store t n st) 1 0 (dG t n st) [] rfl rfl rfl rfl)) ?_
  have q:=J3 t n x st s _ h
  rw [←e]at q
  exact q
 rw [bW e]at h
 by_cases e:x.at'=1
 ·rw [e]at h
  have h:(B9 t n x st s).run _:=h
  refine aC9 (root:=0) (pos:=[20,21,22]) (cs:=[(.cell 1 4,.ints (some .i64))]) (parse:=QN t n) (fin:=FtO.fin t n) y9 ((bE.unpack (.fast t n x) 0 1 (m7 t n x) [1] rfl (congrArg (Prod.mk 1) (HG e)) (by kernel_rfl) rfl).trans (bE.unpack (.store t n st) 1 0 (dG t n st) [] rfl rfl rfl rfl)) ?_
  have q:=J4 t n x st s _ h
  rw [←e]at q
  exact q
 rw [bW e]at h
 by_cases e:x.at'=2
 ·rw [e]at h
  have h:(qD t n x st s).run _:=h
  refine aC9 (root:=0) (pos:=[20,21,22]) (cs:=[(.cell 1 4,.ints (some .i64))]) (parse:=QN t n) (fin:=FtO.fin t n) y9 ((bE.unpack (.fast t n x) 0 1 (m8 t n x) [1] rfl (congrArg (Prod.mk 1) (HH e)) (by kernel_rfl) rfl).trans (bE.unpack (.store t n st) 1 0 (dG t n st) [] rfl rfl rfl rfl)) ?_
  have q:=J5 t n x st s _ h
  rw [←e]at q
  exact q
 rw [bW e]at h
 by_cases e:x.at'=3
 ·rw [e]at h
  have h:(uO t n x st s).run _:=h
  refine aC9 (root:=0) (pos:=[20,21,22]) (cs:=[(.cell 1 4,.ints (some .i64))]) (parse:=QN t n) (fin:=FtO.fin t n) y9 ((bE.unpack (.fast t n x) 0 1 (uH t n x) [1] rfl (congrArg (Prod.mk 1) (BY ⟨(by omega),(by omega),(by omega)⟩)) (by kernel_rfl) rfl).trans (bE.unpack (.store t n st) 1 0 (dG t n st) [] rfl rfl rfl rfl)) ?_
  have q:=J6 t n x st s _ h
  rw [←e]at q
  exact q
 rw [bW e]at h
 exact h.1.elim
noncomputable def ftSA:aJ Ob:=fun args h=>match args,h with
 | [.ptr 0 0,.ptr 2 0],[some (.abs (.fast t n x) [1]),some (.abs (.store t2 n2 st) []),e3,e4]=>(match cW 3 [e3,e4]with
   | some (l,s)=>some (.pre ((l=s.xs.length∧t2=t∧n2=n)∧S7 t n x st s) (FtO.fin t n (ftF t n x st s)))
   | none=>none)
 | _,_=>none
theorem ZC:sT' 39 ftSA:=by
 intro args h o ho K hK
 unfold ftSA at ho
 split at ho
 case h_2=>cases ho
 split at ho<;>cases ho
 rename_i hm
 obtain⟨⟨⟨hl,rfl,rfl⟩,ok⟩,hK⟩:=hK
 have hh:=bA hm hl
 cases hh
 exact HP _ _ _ _ _ K (aDe ok hK)
def FtO.finB(t n:Int)(y:FtO):Out Ob:=.ite y.d (.ret (.bool true) ([some (.cells [.ptr 1 0,.int .i64 y.x.code,.bool y.x.okk,.int .i64 y.x.val,.bool y.x.failed,.int .i64 y.x.tries,.int .i64 y.x.sh,.int .i64 y.x.kd,.int .i64 y.x.ky,.int .i64 y.x.most,.int .i64 y.x.at',.bool y.x.p.now,.int .i64 y.x.p.code,.bool y.x.p.okk,.int .i64 y.x.p.val,.int .i64 y.x.p.addr,.int .u64 y.x.p.old,.int .i64 y.x.p.nxt,.bool y.x.p.mark,.int .i64 y.x.p.pops,.O,.O,.O]),stC 5 t n y.st,none,a8 4 y.s,a9 y.s,fS y.st])) (.ret (.bool false) [some (.abs (.fast t n y.x) [1]),stC 5 t n y.st,none,a8 4 y.s,a9 y.s,fS y.st])
noncomputable def ftSB:aJ Ob:=fun args h=>match args,h with
 | [.ptr 0 0,.ptr 3 0],[some (.abs (.fast t n x) [1]),e1,e2,e3,e4]=>(match j9 2 [e1,e2],cW 4 [e3,e4]with
   | some (l2,t2,n2,st),some (l,s)=>some (.pre ((l=s.xs.length∧l2=st.R.length∧t2=t∧n2=n)∧S7 t n x st s) (FtO.finB t n (ftF t n x st s)))
   | _,_=>none)
 | _,_=>none
theorem ZD:sT' 39 ftSB:=by
 intro args h o ho K hK
 unfold ftSB at ho
 split at ho
 case h_2=>cases ho
 split at ho<;>cases ho
 rename_i hs hm
 obtain⟨⟨⟨hl,hl2,rfl,rfl⟩,ok⟩,hK⟩:=hK
 have hh:=bA hm hl
 cases hh
 have hh:=cD hs hl2
 cases hh
 exact i6 (fun ι hι=>by simp [aK.ren,aDg,AVal.ren,hι]) (fun ι hι=>by simp [aK.ren,hι]) (fun K hK=>HP _ _ _ _ _ K (aDe ok hK)) K hK
noncomputable def ftS:aJ Ob:=aJ.or ftSA ftSB
theorem aBD:sT' 39 ftS:=aDn ZC ZD
def Y6(t n:Int)(v:AVal)(g:aD Ob):Option (Prop×(FTS×STS)):=match v,g with
 | .ptr 2 0,[e1,e2,some (.cells [.ptr 0 0,.int .i64 code,.bool okk,.int .i64 val,.bool failed,.int .i64 tries,.int .i64 sh,.int .i64 kd,.int .i64 ky,.int .i64 most,.int .i64 at',.bool p_now,.int .i64 p_code,.bool p_okk,.int .i64 p_val,.int .i64 p_addr,.int .u64 p_old,.int .i64 p_nxt,.bool p_mark,.int .i64 p_pops,.ptr 3 0,.O,.O]),some (.abs (.find t' n' sub) [])]=>(match j9 1 [e1,e2]with
   | some (l2,t2,n2,st)=>some ((t2=t∧n2=n∧l2=st.R.length)∧t'=t∧n'=n∧at'=0,⟨(⟨code,okk,val,failed,tries,sh,kd,ky,most,at',⟨p_now,p_code,p_okk,p_val,p_addr,p_old,p_nxt,p_mark,p_pops⟩,sub,⟨0,0,0,0⟩,⟨0,0,0,false⟩⟩:FTS),st⟩)
   | none=>none)
 | _,_=>none
abbrev S4(t n:Int)(y:(FTS×STS)):aD Ob:=[stC 1 t n y.2,fS y.2,some (.abs (.fast t n y.1) [0])]
theorem S5{t n:Int} :cA (obI tbl) 2 (Y6 t n) (fun y=>.ret (.ptr 2 0) (S4 t n y)):=by
 intro v g p x hp hq K hK
 unfold Y6 at hp
 split at hp
 case h_2=>cases hp
 rename_i e1 e2 code okk val failed tries sh kd ky most at' p_now p_code p_okk p_val p_addr p_old p_nxt p_mark p_pops t' n' sub
 split at hp
 case h_2=>cases hp
 rename_i l2 t2 n2 st hs
 simp only [sI',pI']at hp
 obtain⟨rfl,rfl⟩:=hp
 obtain⟨⟨rfl,rfl,hl2⟩,rfl,rfl,hat⟩:=hq
 have hh:=cD hs hl2
 cases hh
 exact⟨⟨_,_,aF.pack (S4 t' n' ((⟨code,okk,val,failed,tries,sh,kd,ky,most,at',⟨p_now,p_code,p_okk,p_val,p_addr,p_old,p_nxt,p_mark,p_pops⟩,sub,⟨0,0,0,0⟩,⟨0,0,0,false⟩⟩:FTS),st)) (.fast t' n' (⟨code,okk,val,failed,tries,sh,kd,ky,most,at',⟨p_now,p_code,p_okk,p_val,p_addr,p_old,p_nxt,p_mark,p_pops⟩,sub,⟨0,0,0,0⟩,⟨0,0,0,false⟩⟩:FTS)) 2 1 (lB t' n' (⟨code,okk,val,failed,tries,sh,kd,ky,most,at',⟨p_now,p_code,p_okk,p_val,p_addr,p_old,p_nxt,p_mark,p_pops⟩,sub,⟨0,0,0,0⟩,⟨0,0,0,false⟩⟩:FTS)) [0] (by kernel_rfl) rfl (congrArg (Prod.mk 1) (y0 hat)) (by kernel_rfl),hK⟩⟩
def NZ(t n:Int)(sh kd ky most:Int)(st:STS):Tr (FTS×STS):=.pre True (.pre (oO t n st.1 (cB sh ky) (bT sh kd ky) (W (most - 0))∧True) (.pre ((t=t∧n=n∧lE' st.3)∧t=t∧n=n∧(0:Int)=(0:Int)) (.ret ({code:=0,okk:=false,val:=0,failed:=false,tries:=0,sh:=sh,kd:=kd,ky:=ky,most:=most,at':=0,p:=aBb,fn:=lC t n st.1 (cB sh ky) (bT sh kd ky) (W (most - 0)),cl:=bC,pr:=cQ},{me:=st.1,sp:=st.2,R:=st.3}))))
def ftNF(t n:Int)(sh kd ky most:Int)(st:STS):(FTS×STS):=(NZ t n sh kd ky most st).val
def sW(t n:Int)(sh kd ky most:Int)(st:STS):Prop:=(NZ t n sh kd ky most st).ok
def ftNS:aJ Ob:=fun args h=>match args,h with
 | [.ptr 0 0,.agg [.int .i64 sh,.int .i64 kd,.int .i64 ky],.int .i64 most],[e1,e2]=>(match j9 1 [e1,e2]with
   | some (l2,t,n,st)=>some (.pre (l2=st.R.length∧sW t n sh kd ky most st) (.ret (.ptr 2 0) (S4 t n (ftNF t n sh kd ky most st))))
   | none=>none)
 | _,_=>none
theorem EW:sT' 18 ftNS:=by
 intro args h o ho K hK
 unfold ftNS at ho
 split at ho
 case h_2=>cases ho
 rename_i sh kd ky most e1 e2
 split at ho<;>cases ho
 rename_i l2 t n st hs
 obtain⟨⟨hl2,ok⟩,hK⟩:=hK
 have hh:=cD hs hl2
 cases hh
 refine aDh (root:=2) (pos:=[20,21,22]) (cs:=[]) (parse:=Y6 t n) S5 ?_
 exact cM' (E:=ER) (q:=(NZ t n sh kd ky most st).run (fun y=>(Out.ret (.ptr 2 0) (S4 t n y)).run K)) (by kernel_rfl) (aDe ok hK)
noncomputable def ET:=((ER.addS 39 ftS aBD).addS 18 ftNS EW)
def EY:bL Ob:=fun args h=>match args,h with
 | [.ptr 0 0],[some (.cells [.ptr 1 0,.int .i64 u,.int .u64 no,.int .i64 rounds,.int .i64 limit,.int .i64 at',.int .u64 found,.int .i64 sh,.int .i64 kd,.int .i64 ky,.bool p_now,.int .i64 p_code,.bool p_okk,.int .i64 p_val,.int .i64 p_addr,.int .u64 p_old,.int .i64 p_nxt,.bool p_mark,.int .i64 p_pops,.O,.O,.O,.O,.O]),some (.cells [.int .i64 t,.int .i64 n,.int .i64 me,.int .i64 sp,.slice 2 0 k 1]),some (.ints (some .i64) R)]=>some (True,.agg [.int .i64 (aA found 0 12),.int .i64 (aA found 12 9),.int .i64 (aA found 21 18),.int .i64 (aA found 39 9),.bool (ieq (aA found 48 1) 1),.int .i64 (aA found 49 3),.int .i64 (aA found 52 10)])
 | _,_=>none
theorem OA:sT' 108 EY.spec:=by
 intro args h o ho K hK
 unfold bL.spec EY at ho
 split at ho
 case h_2=>cases ho
 rename_i p v hp
 split at hp
 case h_2=>cases hp
 rename_i u no rounds limit at' found sh kd ky p_now p_code p_okk p_val p_addr p_old p_nxt p_mark p_pops t n me sp k R
 simp only [sI',pI']at hp
 obtain⟨rfl,rfl⟩:=hp
 simp only [sI']at ho;subst ho
 obtain⟨hp,hK⟩:=hK
 have hK:K (.agg [.int .i64 (aA found 0 12),.int .i64 (aA found 12 9),.int .i64 (aA found 21 18),.int .i64 (aA found 39 9),.bool (ieq (aA found 48 1) 1),.int .i64 (aA found 49 3),.int .i64 (aA found 52 10)]) [some (.cells [.ptr 1 0,.int .i64 u,.int .u64 no,.int .i64 rounds,.int .i64 limit,.int .i64 at',.int .u64 found,.int .i64 sh,.int .i64 kd,.int .i64 ky,.bool p_now,.int .i64 p_code,.bool p_okk,.int .i64 p_val,.int .i64 p_addr,.int .u64 p_old,.int .i64 p_nxt,.bool p_mark,.int .i64 p_pops,.O,.O,.O,.O,.O]),some (.cells [.int .i64 t,.int .i64 n,.int .i64 me,.int .i64 sp,.slice 2 0 k 1]),some (.ints (some .i64) R)]:=hK
 refine aC8 (cM' (E:=ET) (q:=True∧K (.agg [.int .i64 (aA found 0 12),.int .i64 (aA found 12 9),.int .i64 (aA found 21 18),.int .i64 (aA found 39 9),.bool (ieq (aA found 48 1) 1),.int .i64 (aA found 49 3),.int .i64 (aA found 52 10)]) [some (.cells [.ptr 1 0,.int .i64 u,.int .u64 no,.int .i64 rounds,.int .i64 limit,.int .i64 at',.int .u64 found,.int .i64 sh,.int .i64 kd,.int .i64 ky,.bool p_now,.int .i64 p_code,.bool p_okk,.int .i64 p_val,.int .i64 p_addr,.int .u64 p_old,.int .i64 p_nxt,.bool p_mark,.int .i64 p_pops,.O,.O,.O,.O,.O]),some (.cells [.int .i64 t,.int .i64 n,.int .i64 me,.int .i64 sp,.slice 2 0 k 1]),some (.ints (some .i64) R)]) (by kernel_rfl) ?_)
 exact⟨trivial,hK⟩
noncomputable def EH0:=ET.addR 108 EY OA
end Go.Sh
