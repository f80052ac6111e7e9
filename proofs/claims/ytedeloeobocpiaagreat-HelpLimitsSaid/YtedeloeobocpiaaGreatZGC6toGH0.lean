import Derived.Test.YtedeloeobocpiaaGreatZMLtoGX
set_option linter.all false
set_option maxHeartbeats 8000000
namespace Go.Sh
open Go Go.Proofs
variable [Con]
structure ExO where
 d:Bool
 x:EXS
 s:MS
instance:Inhabited ExO:=⟨⟨false,cN,⟨0,0,[],0,0,0,0,0,false⟩⟩⟩
instance:Inhabited EXS:=⟨cN⟩
abbrev exH(t n:Int)(x:EXS)(s:MS):aD Ob:=[some (.abs (.exec t n x) []),a9 2 s,bA s]
abbrev exD(t n:Int)(x:EXS)(s:MS):aD Ob:=[some (.cells [.int .i64 t,.int .i64 n,.int .i64 x.popped,.int .i64 x.gave,.int .i64 x.u,.int .i64 x.sh,.int .i64 x.kd,.int .i64 x.ky,.bool x.only,.int .i64 x.att,.int .i64 x.at',.int .u64 x.found,.int .u64 x.word]),a9 2 s,bA s]
def ExO.fin(t n:Int)(y:ExO):Out Ob:=.ite y.d (.ret (.bool true) (exD t n y.x y.s)) (.ret (.bool false) (exH t n y.x y.s))
def VB(t n:Int)(v:AVal)(g:aD Ob):Option (Prop×ExO):=match v,g with
 | .bool d,[some (.cells [.int .i64 t1,.int .i64 n1,.int .i64 popped,.int .i64 gave,.int .i64 u,.int .i64 sh,.int .i64 kd,.int .i64 ky,.bool only,.int .i64 att,.int .i64 at',.int .u64 found,.int .u64 word]),e1,e2]=>(match fD 2 [e1,e2]with
   | some (l,s)=>some ((t1=t∧n1=n)∧l=s.xs.length,⟨d,⟨popped,gave,u,sh,kd,ky,only,att,at',found,word⟩,s⟩)
   | none=>none)
 | _,_=>none
def wS(t n:Int)(v:AVal)(g:aD Ob):Option (Prop×ExO):=VB t n v g
theorem QU{t n:Int} :dI (obI tbl) 3 (VB t n) (ExO.fin t n):=by
 intro v g p x hp hq K hK
 unfold VB at hp
 split at hp
 case h_2=>cases hp
 rename_i d t1 n1 popped gave u sh kd ky only att at' found word e1 e2
 split at hp
 case h_2=>cases hp
 rename_i l s hm
 simp only [sI',pI']at hp
 obtain⟨rfl,rfl⟩:=hp
 obtain⟨⟨rfl,rfl⟩,hl⟩:=hq
 have hh:=cC hm hl
 cases hh
 refine yN hK (fun h=>?_) (fun h=>?_)
 ·exact⟨⟨_,_,aQ.refl _ _ _,h⟩⟩
 ·exact⟨⟨_,_,(aQ.pack (exH t1 n1 (⟨popped,gave,u,sh,kd,ky,only,att,at',found,word⟩:EXS) s) (.exec t1 n1 (⟨popped,gave,u,sh,kd,ky,only,att,at',found,word⟩:EXS)) 0 0 (gT t1 n1 (⟨popped,gave,u,sh,kd,ky,only,att,at',found,word⟩:EXS)) [] (by kernel_rfl) rfl (congrArg (Prod.mk 0) rfl) (by kernel_rfl)),h⟩⟩
theorem kT{t n:Int} :dI (obI tbl) 3 (wS t n) (ExO.fin t n):=by
 intro v g p x hp hq K hK
 unfold wS at hp
 exact QU v g p x hp hq K hK
def u7(t n:Int)(x:EXS)(s:MS):Tr ExO:=.pre True (.pre True (.pre ((((0:Int)≤t∧t≤(100000:Int))∧((0:Int)≤n∧n≤(100000:Int))∧(-1099511627776:Int)≤x.3∧x.3≤(1099511627776:Int))∧True) (.pre ((lE' s.3∧(0:Int)≤s.4∧s.4≤(4611686018427387904:Int))∧True) (.ite x.7 (.pre True (.ite (!ieq (aA (aB s.3 (2*n+5+2*t+3*x.3+2)) 0 12) x.8) (.pre ((t=t∧n=n)∧lE' s.3) (.ret {d:=true,x:= {x with at':=0,found:=aB s.3 (2*n+5+2*t+3*x.3+2)},s:= {s with c:=s.4+1,k:=1,a:=2*n+5+2*t+3*x.3+2,o:=aB s.3 (2*n+5+2*t+3*x.3+2),w:=aB s.3 (2*n+5+2*t+3*x.3+2),ok:=bL s.3 (2*n+5+2*t+3*x.3+2) } })) (.pre True (.ite (ieq (aA (aB s.3 (2*n+5+2*t+3*x.3+2)) 49 3) 2) (.pre ((t=t∧n=n)∧lE' s.3) (.ret {d:=false,x:= {x with at':=1,found:=aB s.3 (2*n+5+2*t+3*x.3+2)},s:= {s with c:=s.4+1,k:=1,a:=2*n+5+2*t+3*x.3+2,o:=aB s.3 (2*n+5+2*t+3*x.3+2),w:=aB s.3 (2*n+5+2*t+3*x.3+2),ok:=bL s.3 (2*n+5+2*t+3*x.3+2) } })) (.ite (ieq (aA (aB s.3 (2*n+5+2*t+3*x.3+2)) 49 3) 3) (.pre ((t=t∧n=n)∧lE' s.3) (.ret {d:=false,x:= {x with at':=5,found:=aB s.3 (2*n+5+2*t+3*x.3+2)},s:= {s with c:=s.4+1,k:=1,a:=2*n+5+2*t+3*x.3+2,o:=aB s.3 (2*n+5+2*t+3*x.3+2),w:=aB s.3 (2*n+5+2*t+3*x.3+2),ok:=bL s.3 (2*n+5+2*t+3*x.3+2) } })) (.ite (ieq (aA (aB s.3 (2*n+5+2*t+3*x.3+2)) 49 3) 4) (.pre ((t=t∧n=n)∧lE' s.3) (.ret {d:=false,x:= {x with at':=8,found:=aB s.3 (2*n+5+2*t+3*x.3+2)},s:= {s with c:=s.4+1,k:=1,a:=2*n+5+2*t+3*x.3+2,o:=aB s.3 (2*n+5+2*t+3*x.3+2),w:=aB s.3 (2*n+5+2*t+3*x.3+2),ok:=bL s.3 (2*n+5+2*t+3*x.3+2) } })) (.pre ((t=t∧n=n)∧lE' s.3) (.ret {d:=true,x:= {x with at':=0,found:=aB s.3 (2*n+5+2*t+3*x.3+2)},s:= {s with c:=s.4+1,k:=1,a:=2*n+5+2*t+3*x.3+2,o:=aB s.3 (2*n+5+2*t+3*x.3+2),w:=aB s.3 (2*n+5+2*t+3*x.3+2),ok:=bL s.3 (2*n+5+2*t+3*x.3+2) } })))))))) (.pre True (.ite (ieq (aA (aB s.3 (2*n+5+2*t+3*x.3+2)) 49 3) 2) (.pre ((t=t∧n=n)∧lE' s.3) (.ret {d:=false,x:= {x with at':=1,found:=aB s.3 (2*n+5+2*t+3*x.3+2)},s:= {s with c:=s.4+1,k:=1,a:=2*n+5+2*t+3*x.3+2,o:=aB s.3 (2*n+5+2*t+3*x.3+2),w:=aB s.3 (2*n+5+2*t+3*x.3+2),ok:=bL s.3 (2*n+5+2*t+3*x.3+2) } })) (.ite (ieq (aA (aB s.3 (2*n+5+2*t+3*x.3+2)) 49 3) 3) (.pre ((t=t∧n=n)∧lE' s.3) (.ret {d:=false,x:= {x with at':=5,found:=aB s.3 (2*n+5+2*t+3*x.3+2)},s:= {s with c:=s.4+1,k:=1,a:=2*n+5+2*t+3*x.3+2,o:=aB s.3 (2*n+5+2*t+3*x.3+2),w:=aB s.3 (2*n+5+2*t+3*x.3+2),ok:=bL s.3 (2*n+5+2*t+3*x.3+2) } })) (.ite (ieq (aA (aB s.3 (2*n+5+2*t+3*x.3+2)) 49 3) 4) (.pre ((t=t∧n=n)∧lE' s.3) (.ret {d:=false,x:= {x with at':=8,found:=aB s.3 (2*n+5+2*t+3*x.3+2)},s:= {s with c:=s.4+1,k:=1,a:=2*n+5+2*t+3*x.3+2,o:=aB s.3 (2*n+5+2*t+3*x.3+2),w:=aB s.3 (2*n+5+2*t+3*x.3+2),ok:=bL s.3 (2*n+5+2*t+3*x.3+2) } })) (.pre ((t=t∧n=n)∧lE' s.3) (.ret {d:=true,x:= {x with at':=0,found:=aB s.3 (2*n+5+2*t+3*x.3+2)},s:= {s with c:=s.4+1,k:=1,a:=2*n+5+2*t+3*x.3+2,o:=aB s.3 (2*n+5+2*t+3*x.3+2),w:=aB s.3 (2*n+5+2*t+3*x.3+2),ok:=bL s.3 (2*n+5+2*t+3*x.3+2) } }))))))))))
theorem IM(t n:Int)(x:EXS)(s:MS)(K:ExO→Prop)(h:(u7 t n x s).run K):cT' 177 [.ptr 0 0,.ptr 1 0] [some (.cells [.int .i64 t,.int .i64 n,.int .i64 x.popped,.int .i64 x.gave,.int .i64 x.u,.int .i64 x.sh,.int .i64 x.kd,.int .i64 x.ky,.bool x.only,.int .i64 x.att,.int .i64 0,.int .u64 x.found,.int .u64 x.word]),a9 2 s,bA s] (cV 3 0 [] [] (wS t n) K):=by
 exact cM' (E:=EX2) (by kernel_rfl) h
def u9(t n:Int)(x:EXS)(s:MS):Tr ExO:=.pre True (.pre True (.pre True (.pre (lE' s.3∧(0:Int)≤s.4∧s.4≤(4611686018427387904:Int)) (.pre True (.pre True (.ite (ieq (aA (aB s.3 (aA x.10 12 9)) 25 18) (aA x.10 21 18)) (.ite (ieq (aA (aB s.3 (aA x.10 12 9)) 20 5) 0) (.pre ((t=t∧n=n)∧lE' s.3) (.ret {d:=false,x:= {x with at':=2,word:=aB s.3 (aA x.10 12 9) },s:= {s with c:=s.4+1,k:=1,a:=aA x.10 12 9,o:=aB s.3 (aA x.10 12 9),w:=aB s.3 (aA x.10 12 9),ok:=bL s.3 (aA x.10 12 9) } })) (.pre True (.ite (ieq (aA (aB s.3 (aA x.10 12 9)) 25 18) (aA x.10 21 18)) (.ite (ieq (aA (aB s.3 (aA x.10 12 9)) 20 5) (W (x.3+1))) (.pre ((t=t∧n=n)∧lE' s.3) (.ret {d:=false,x:= {x with at':=3,word:=aB s.3 (aA x.10 12 9) },s:= {s with c:=s.4+1,k:=1,a:=aA x.10 12 9,o:=aB s.3 (aA x.10 12 9),w:=aB s.3 (aA x.10 12 9),ok:=bL s.3 (aA x.10 12 9) } })) (.pre ((t=t∧n=n)∧lE' s.3) (.ret {d:=false,x:= {x with at':=4,word:=aB s.3 (aA x.10 12 9) },s:= {s with c:=s.4+1,k:=1,a:=aA x.10 12 9,o:=aB s.3 (aA x.10 12 9),w:=aB s.3 (aA x.10 12 9),ok:=bL s.3 (aA x.10 12 9) } }))) (.pre ((t=t∧n=n)∧lE' s.3) (.ret {d:=false,x:= {x with at':=4,word:=aB s.3 (aA x.10 12 9) },s:= {s with c:=s.4+1,k:=1,a:=aA x.10 12 9,o:=aB s.3 (aA x.10 12 9),w:=aB s.3 (aA x.10 12 9),ok:=bL s.3 (aA x.10 12 9) } }))))) (.pre True (.ite (ieq (aA (aB s.3 (aA x.10 12 9)) 25 18) (aA x.10 21 18)) (.ite (ieq (aA (aB s.3 (aA x.10 12 9)) 20 5) (W (x.3+1))) (.pre ((t=t∧n=n)∧lE' s.3) (.ret {d:=false,x:= {x with at':=3,word:=aB s.3 (aA x.10 12 9) },s:= {s with c:=s.4+1,k:=1,a:=aA x.10 12 9,o:=aB s.3 (aA x.10 12 9),w:=aB s.3 (aA x.10 12 9),ok:=bL s.3 (aA x.10 12 9) } })) (.pre ((t=t∧n=n)∧lE' s.3) (.ret {d:=false,x:= {x with at':=4,word:=aB s.3 (aA x.10 12 9) },s:= {s with c:=s.4+1,k:=1,a:=aA x.10 12 9,o:=aB s.3 (aA x.10 12 9),w:=aB s.3 (aA x.10 12 9),ok:=bL s.3 (aA x.10 12 9) } }))) (.pre ((t=t∧n=n)∧lE' s.3) (.ret {d:=false,x:= {x with at':=4,word:=aB s.3 (aA x.10 12 9) },s:= {s with c:=s.4+1,k:=1,a:=aA x.10 12 9,o:=aB s.3 (aA x.10 12 9),w:=aB s.3 (aA x.10 12 9),ok:=bL s.3 (aA x.10 12 9) } }))))))))))
theorem IN(t n:Int)(x:EXS)(s:MS)(K:ExO→Prop)(h:(u9 t n x s).run K):cT' 177 [.ptr 0 0,.ptr 1 0] [some (.cells [.int .i64 t,.int .i64 n,.int .i64 x.popped,.int .i64 x.gave,.int .i64 x.u,.int .i64 x.sh,.int .i64 x.kd,.int .i64 x.ky,.bool x.only,.int .i64 x.att,.int .i64 1,.int .u64 x.found,.int .u64 x.word]),a9 2 s,bA s] (cV 3 0 [] [] (wS t n) K):=by
 exact cM' (E:=EX2) (by kernel_rfl) h
def vA(t n:Int)(x:EXS)(s:MS):Tr ExO:=.pre True (.pre True (.pre ((-1000000:Int)≤x.3∧x.3≤(1000000:Int)) (.pre (lE' s.3∧True∧True∧((lE' s.3∧(0:Int)≤s.4∧s.4≤(4611686018427387904:Int))∧True)∧True) (.ite (aS s.3 (aA x.10 12 9) x.11) (.pre True (.ite (dD x.4 x.5) (.pre ((t=t∧n=n)∧lE' (bif aS s.3 (aA x.10 12 9) x.11 then aJ s.3 (aA x.10 12 9) (bif bif aH (aA x.11 0 10) 10 then bif aH (aA x.10 39 9) 9 then bif aH (x.3+1) 5 then aH (aA x.11 25 18) 18 else false else false else false then aT (aA x.11 0 10) (aA x.10 39 9) (ieq (aA x.10 48 1) 1) (x.3+1) (aA x.11 25 18)else 0)else s.3)) (.ret {d:=true,x:= {x with popped:=aA x.11 10 9,at':=2},s:= {t:=s.1,n:=s.2,xs:=bif aS s.3 (aA x.10 12 9) x.11 then aJ s.3 (aA x.10 12 9) (bif bif aH (aA x.11 0 10) 10 then bif aH (aA x.10 39 9) 9 then bif aH (x.3+1) 5 then aH (aA x.11 25 18) 18 else false else false else false then aT (aA x.11 0 10) (aA x.10 39 9) (ieq (aA x.10 48 1) 1) (x.3+1) (aA x.11 25 18)else 0)else s.3,c:=s.4+1,k:=3,a:=aA x.10 12 9,o:=aB s.3 (aA x.10 12 9),w:=bif bL s.3 (aA x.10 12 9)then bif bif aH (aA x.11 0 10) 10 then bif aH (aA x.10 39 9) 9 then bif aH (x.3+1) 5 then aH (aA x.11 25 18) 18 else false else false else false then aT (aA x.11 0 10) (aA x.10 39 9) (ieq (aA x.10 48 1) 1) (x.3+1) (aA x.11 25 18)else 0 else 0,ok:=aS s.3 (aA x.10 12 9) x.11} })) (.pre ((t=t∧n=n)∧lE' (bif aS s.3 (aA x.10 12 9) x.11 then aJ s.3 (aA x.10 12 9) (bif bif aH (aA x.11 0 10) 10 then bif aH (aA x.10 39 9) 9 then bif aH (x.3+1) 5 then aH (aA x.11 25 18) 18 else false else false else false then aT (aA x.11 0 10) (aA x.10 39 9) (ieq (aA x.10 48 1) 1) (x.3+1) (aA x.11 25 18)else 0)else s.3)) (.ret {d:=true,x:= {x with at':=2},s:= {t:=s.1,n:=s.2,xs:=bif aS s.3 (aA x.10 12 9) x.11 then aJ s.3 (aA x.10 12 9) (bif bif aH (aA x.11 0 10) 10 then bif aH (aA x.10 39 9) 9 then bif aH (x.3+1) 5 then aH (aA x.11 25 18) 18 else false else false else false then aT (aA x.11 0 10) (aA x.10 39 9) (ieq (aA x.10 48 1) 1) (x.3+1) (aA x.11 25 18)else 0)else s.3,c:=s.4+1,k:=3,a:=aA x.10 12 9,o:=aB s.3 (aA x.10 12 9),w:=bif bL s.3 (aA x.10 12 9)then bif bif aH (aA x.11 0 10) 10 then bif aH (aA x.10 39 9) 9 then bif aH (x.3+1) 5 then aH (aA x.11 25 18) 18 else false else false else false then aT (aA x.11 0 10) (aA x.10 39 9) (ieq (aA x.10 48 1) 1) (x.3+1) (aA x.11 25 18)else 0 else 0,ok:=aS s.3 (aA x.10 12 9) x.11} })))) (.pre ((t=t∧n=n)∧lE' (bif aS s.3 (aA x.10 12 9) x.11 then aJ s.3 (aA x.10 12 9) (bif bif aH (aA x.11 0 10) 10 then bif aH (aA x.10 39 9) 9 then bif aH (x.3+1) 5 then aH (aA x.11 25 18) 18 else false else false else false then aT (aA x.11 0 10) (aA x.10 39 9) (ieq (aA x.10 48 1) 1) (x.3+1) (aA x.11 25 18)else 0)else s.3)) (.ret {d:=true,x:= {x with at':=2},s:= {t:=s.1,n:=s.2,xs:=bif aS s.3 (aA x.10 12 9) x.11 then aJ s.3 (aA x.10 12 9) (bif bif aH (aA x.11 0 10) 10 then bif aH (aA x.10 39 9) 9 then bif aH (x.3+1) 5 then aH (aA x.11 25 18) 18 else false else false else false then aT (aA x.11 0 10) (aA x.10 39 9) (ieq (aA x.10 48 1) 1) (x.3+1) (aA x.11 25 18)else 0)else s.3,c:=s.4+1,k:=3,a:=aA x.10 12 9,o:=aB s.3 (aA x.10 12 9),w:=bif bL s.3 (aA x.10 12 9)then bif bif aH (aA x.11 0 10) 10 then bif aH (aA x.10 39 9) 9 then bif aH (x.3+1) 5 then aH (aA x.11 25 18) 18 else false else false else false then aT (aA x.11 0 10) (aA x.10 39 9) (ieq (aA x.10 48 1) 1) (x.3+1) (aA x.11 25 18)else 0 else 0,ok:=aS s.3 (aA x.10 12 9) x.11} }))))))
theorem IP(t n:Int)(x:EXS)(s:MS)(K:ExO→Prop)(h:(vA t n x s).run K):cT' 177 [.ptr 0 0,.ptr 1 0] [some (.cells [.int .i64 t,.int .i64 n,.int .i64 x.popped,.int .i64 x.gave,.int .i64 x.u,.int .i64 x.sh,.int .i64 x.kd,.int .i64 x.ky,.bool x.only,.int .i64 x.att,.int .i64 2,.int .u64 x.found,.int .u64 x.word]),a9 2 s,bA s] (cV 3 0 [] [] (wS t n) K):=by
 exact cM' (E:=EX2) (by kernel_rfl) h
def vB(t n:Int)(x:EXS)(s:MS):Tr ExO:=.pre True (.pre True (.pre True (.pre (lE' s.3) (.pre True (.pre ((((0:Int)≤t∧t≤(100000:Int))∧((0:Int)≤n∧n≤(100000:Int))∧(-1099511627776:Int)≤x.3∧x.3≤(1099511627776:Int))∧True) (.pre ((lE' s.3∧(0:Int)≤s.4∧s.4≤(4611686018427387904:Int))∧True) (.pre ((t=t∧n=n)∧lE' (bif aS s.3 (2*n+5+2*t+3*x.3+2) x.10 then aJ s.3 (2*n+5+2*t+3*x.3+2) (bif dOk (aA x.10 0 12) (aA x.10 12 9) (aA x.10 21 18) (aA x.10 39 9) 3 (aA x.10 52 10)then aY (aA x.10 0 12) (aA x.10 12 9) (aA x.10 21 18) (aA x.10 39 9) (ieq (aA x.10 48 1) 1) 3 (aA x.10 52 10)else 0)else s.3)) (.ret {d:=true,x:= {x with at':=3},s:= {t:=s.1,n:=s.2,xs:=bif aS s.3 (2*n+5+2*t+3*x.3+2) x.10 then aJ s.3 (2*n+5+2*t+3*x.3+2) (bif dOk (aA x.10 0 12) (aA x.10 12 9) (aA x.10 21 18) (aA x.10 39 9) 3 (aA x.10 52 10)then aY (aA x.10 0 12) (aA x.10 12 9) (aA x.10 21 18) (aA x.10 39 9) (ieq (aA x.10 48 1) 1) 3 (aA x.10 52 10)else 0)else s.3,c:=s.4+1,k:=3,a:=2*n+5+2*t+3*x.3+2,o:=aB s.3 (2*n+5+2*t+3*x.3+2),w:=bif bL s.3 (2*n+5+2*t+3*x.3+2)then bif dOk (aA x.10 0 12) (aA x.10 12 9) (aA x.10 21 18) (aA x.10 39 9) 3 (aA x.10 52 10)then aY (aA x.10 0 12) (aA x.10 12 9) (aA x.10 21 18) (aA x.10 39 9) (ieq (aA x.10 48 1) 1) 3 (aA x.10 52 10)else 0 else 0,ok:=aS s.3 (2*n+5+2*t+3*x.3+2) x.10} }))))))))
theorem IQ(t n:Int)(x:EXS)(s:MS)(K:ExO→Prop)(h:(vB t n x s).run K):cT' 177 [.ptr 0 0,.ptr 1 0] [some (.cells [.int .i64 t,.int .i64 n,.int .i64 x.popped,.int .i64 x.gave,.int .i64 x.u,.int .i64 x.sh,.int .i64 x.kd,.int .i64 x.ky,.bool x.only,.int .i64 x.att,.int .i64 3,.int .u64 x.found,.int .u64 x.word]),a9 2 s,bA s] (cV 3 0 [] [] (wS t n) K):=by
 exact cM' (E:=EX2) (by kernel_rfl) h
def BS(t n:Int)(x:EXS)(s:MS):Tr ExO:=.pre True (.pre True (.pre True (.pre (lE' s.3) (.pre True (.pre ((((0:Int)≤t∧t≤(100000:Int))∧((0:Int)≤n∧n≤(100000:Int))∧(-1099511627776:Int)≤x.3∧x.3≤(1099511627776:Int))∧True) (.pre ((lE' s.3∧(0:Int)≤s.4∧s.4≤(4611686018427387904:Int))∧True) (.pre ((t=t∧n=n)∧lE' (bif aS s.3 (2*n+5+2*t+3*x.3+2) x.10 then aJ s.3 (2*n+5+2*t+3*x.3+2) (bif dOk (aA x.10 0 12) (aA x.10 12 9) (aA x.10 21 18) (aA x.10 39 9) 4 (aA x.10 52 10)then aY (aA x.10 0 12) (aA x.10 12 9) (aA x.10 21 18) (aA x.10 39 9) (ieq (aA x.10 48 1) 1) 4 (aA x.10 52 10)else 0)else s.3)) (.ret {d:=true,x:= {x with at':=4},s:= {t:=s.1,n:=s.2,xs:=bif aS s.3 (2*n+5+2*t+3*x.3+2) x.10 then aJ s.3 (2*n+5+2*t+3*x.3+2) (bif dOk (aA x.10 0 12) (aA x.10 12 9) (aA x.10 21 18) (aA x.10 39 9) 4 (aA x.10 52 10)then aY (aA x.10 0 12) (aA x.10 12 9) (aA x.10 21 18) (aA x.10 39 9) (ieq (aA x.10 48 1) 1) 4 (aA x.10 52 10)else 0)else s.3,c:=s.4+1,k:=3,a:=2*n+5+2*t+3*x.3+2,o:=aB s.3 (2*n+5+2*t+3*x.3+2),w:=bif bL s.3 (2*n+5+2*t+3*x.3+2)then bif dOk (aA x.10 0 12) (aA x.10 12 9) (aA x.10 21 18) (aA x.10 39 9) 4 (aA x.10 52 10)then aY (aA x.10 0 12) (aA x.10 12 9) (aA x.10 21 18) (aA x.10 39 9) (ieq (aA x.10 48 1) 1) 4 (aA x.10 52 10)else 0 else 0,ok:=aS s.3 (2*n+5+2*t+3*x.3+2) x.10} }))))))))
theorem IR(t n:Int)(x:EXS)(s:MS)(K:ExO→Prop)(h:(BS t n x s).run K):cT' 177 [.ptr 0 0,.ptr 1 0] [some (.cells [.int .i64 t,.int .i64 n,.int .i64 x.popped,.int .i64 x.gave,.int .i64 x.u,.int .i64 x.sh,.int .i64 x.kd,.int .i64 x.ky,.bool x.only,.int .i64 x.att,.int .i64 4,.int .u64 x.found,.int .u64 x.word]),a9 2 s,bA s] (cV 3 0 [] [] (wS t n) K):=by
 exact cM' (E:=EX2) (by kernel_rfl) h
def vC(t n:Int)(x:EXS)(s:MS):Tr ExO:=.pre True (.pre True (.pre True (.pre (lE' s.3∧(0:Int)≤s.4∧s.4≤(4611686018427387904:Int)) (.pre True (.pre True (.ite (ieq (aA (aB s.3 (aA x.10 12 9)) 25 18) (aA x.10 21 18)) (.ite (ieq (aA (aB s.3 (aA x.10 12 9)) 20 5) 0) (.pre ((t=t∧n=n)∧lE' s.3) (.ret {d:=false,x:= {x with at':=7,word:=aB s.3 (aA x.10 12 9) },s:= {s with c:=s.4+1,k:=1,a:=aA x.10 12 9,o:=aB s.3 (aA x.10 12 9),w:=aB s.3 (aA x.10 12 9),ok:=bL s.3 (aA x.10 12 9) } })) (.pre True (.ite (ieq (aA (aB s.3 (aA x.10 12 9)) 25 18) (aA x.10 21 18)) (.ite (ieq (aA (aB s.3 (aA x.10 12 9)) 20 5) (W (x.3+1))) (.pre ((t=t∧n=n)∧lE' s.3) (.ret {d:=false,x:= {x with at':=6,word:=aB s.3 (aA x.10 12 9) },s:= {s with c:=s.4+1,k:=1,a:=aA x.10 12 9,o:=aB s.3 (aA x.10 12 9),w:=aB s.3 (aA x.10 12 9),ok:=bL s.3 (aA x.10 12 9) } })) (.pre ((t=t∧n=n)∧lE' s.3) (.ret {d:=false,x:= {x with at':=7,word:=aB s.3 (aA x.10 12 9) },s:= {s with c:=s.4+1,k:=1,a:=aA x.10 12 9,o:=aB s.3 (aA x.10 12 9),w:=aB s.3 (aA x.10 12 9),ok:=bL s.3 (aA x.10 12 9) } }))) (.pre ((t=t∧n=n)∧lE' s.3) (.ret {d:=false,x:= {x with at':=7,word:=aB s.3 (aA x.10 12 9) },s:= {s with c:=s.4+1,k:=1,a:=aA x.10 12 9,o:=aB s.3 (aA x.10 12 9),w:=aB s.3 (aA x.10 12 9),ok:=bL s.3 (aA x.10 12 9) } }))))) (.pre True (.ite (ieq (aA (aB s.3 (aA x.10 12 9)) 25 18) (aA x.10 21 18)) (.ite (ieq (aA (aB s.3 (aA x.10 12 9)) 20 5) (W (x.3+1))) (.pre ((t=t∧n=n)∧lE' s.3) (.ret {d:=false,x:= {x with at':=6,word:=aB s.3 (aA x.10 12 9) },s:= {s with c:=s.4+1,k:=1,a:=aA x.10 12 9,o:=aB s.3 (aA x.10 12 9),w:=aB s.3 (aA x.10 12 9),ok:=bL s.3 (aA x.10 12 9) } })) (.pre ((t=t∧n=n)∧lE' s.3) (.ret {d:=false,x:= {x with at':=7,word:=aB s.3 (aA x.10 12 9) },s:= {s with c:=s.4+1,k:=1,a:=aA x.10 12 9,o:=aB s.3 (aA x.10 12 9),w:=aB s.3 (aA x.10 12 9),ok:=bL s.3 (aA x.10 12 9) } }))) (.pre ((t=t∧n=n)∧lE' s.3) (.ret {d:=false,x:= {x with at':=7,word:=aB s.3 (aA x.10 12 9) },s:= {s with c:=s.4+1,k:=1,a:=aA x.10 12 9,o:=aB s.3 (aA x.10 12 9),w:=aB s.3 (aA x.10 12 9),ok:=bL s.3 (aA x.10 12 9) } }))))))))))
theorem IS(t n:Int)(x:EXS)(s:MS)(K:ExO→Prop)(h:(vC t n x s).run K):cT' 177 [.ptr 0 0,.ptr 1 0] [some (.cells [.int .i64 t,.int .i64 n,.int .i64 x.popped,.int .i64 x.gave,.int .i64 x.u,.int .i64 x.sh,.int .i64 x.kd,.int .i64 x.ky,.bool x.only,.int .i64 x.att,.int .i64 5,.int .u64 x.found,.int .u64 x.word]),a9 2 s,bA s] (cV 3 0 [] [] (wS t n) K):=by
 exact cM' (E:=EX2) (by kernel_rfl) h
def vD(t n:Int)(x:EXS)(s:MS):Tr ExO:=.pre True (.pre True (.pre ((0:Int)≤aA x.11 25 18∧aA x.11 25 (18:Int)≤(1000000:Int)) (.pre (lE' s.3) (.pre True (.pre True (.pre ((lE' s.3∧(0:Int)≤s.4∧s.4≤(4611686018427387904:Int))∧True) (.pre ((t=t∧n=n)∧lE' (bif aS s.3 (aA x.10 12 9) x.11 then aJ s.3 (aA x.10 12 9) (bif bif aH (aA x.11 0 10) 10 then bif aH (aA x.11 10 9) 9 then bif aH 0 5 then aH (aO (aA x.11 25 18)) 18 else false else false else false then aT (aA x.11 0 10) (aA x.11 10 9) (ieq (aA x.11 19 1) 1) 0 (aO (aA x.11 25 18))else 0)else s.3)) (.ret {d:=false,x:= {x with at':=7},s:= {t:=s.1,n:=s.2,xs:=bif aS s.3 (aA x.10 12 9) x.11 then aJ s.3 (aA x.10 12 9) (bif bif aH (aA x.11 0 10) 10 then bif aH (aA x.11 10 9) 9 then bif aH 0 5 then aH (aO (aA x.11 25 18)) 18 else false else false else false then aT (aA x.11 0 10) (aA x.11 10 9) (ieq (aA x.11 19 1) 1) 0 (aO (aA x.11 25 18))else 0)else s.3,c:=s.4+1,k:=3,a:=aA x.10 12 9,o:=aB s.3 (aA x.10 12 9),w:=bif bL s.3 (aA x.10 12 9)then bif bif aH (aA x.11 0 10) 10 then bif aH (aA x.11 10 9) 9 then bif aH 0 5 then aH (aO (aA x.11 25 18)) 18 else false else false else false then aT (aA x.11 0 10) (aA x.11 10 9) (ieq (aA x.11 19 1) 1) 0 (aO (aA x.11 25 18))else 0 else 0,ok:=aS s.3 (aA x.10 12 9) x.11} }))))))))
theorem IT(t n:Int)(x:EXS)(s:MS)(K:ExO→Prop)(h:(vD t n x s).run K):cT' 177 [.ptr 0 0,.ptr 1 0] [some (.cells [.int .i64 t,.int .i64 n,.int .i64 x.popped,.int .i64 x.gave,.int .i64 x.u,.int .i64 x.sh,.int .i64 x.kd,.int .i64 x.ky,.bool x.only,.int .i64 x.att,.int .i64 6,.int .u64 x.found,.int .u64 x.word]),a9 2 s,bA s] (cV 3 0 [] [] (wS t n) K):=by
 exact cM' (E:=EX2) (by kernel_rfl) h
def vE(t n:Int)(x:EXS)(s:MS):Tr ExO:=.pre True (.pre True (.pre True (.pre (lE' s.3) (.pre True (.pre ((((0:Int)≤t∧t≤(100000:Int))∧((0:Int)≤n∧n≤(100000:Int))∧(-1099511627776:Int)≤x.3∧x.3≤(1099511627776:Int))∧True) (.pre ((lE' s.3∧(0:Int)≤s.4∧s.4≤(4611686018427387904:Int))∧True) (.pre ((t=t∧n=n)∧lE' (bif aS s.3 (2*n+5+2*t+3*x.3+2) x.10 then aJ s.3 (2*n+5+2*t+3*x.3+2) (bif dOk (aA x.10 0 12) 0 0 0 5 (aA x.10 52 10)then aY (aA x.10 0 12) 0 0 0 true 5 (aA x.10 52 10)else 0)else s.3)) (.ret {d:=true,x:= {x with at':=7},s:= {t:=s.1,n:=s.2,xs:=bif aS s.3 (2*n+5+2*t+3*x.3+2) x.10 then aJ s.3 (2*n+5+2*t+3*x.3+2) (bif dOk (aA x.10 0 12) 0 0 0 5 (aA x.10 52 10)then aY (aA x.10 0 12) 0 0 0 true 5 (aA x.10 52 10)else 0)else s.3,c:=s.4+1,k:=3,a:=2*n+5+2*t+3*x.3+2,o:=aB s.3 (2*n+5+2*t+3*x.3+2),w:=bif bL s.3 (2*n+5+2*t+3*x.3+2)then bif dOk (aA x.10 0 12) 0 0 0 5 (aA x.10 52 10)then aY (aA x.10 0 12) 0 0 0 true 5 (aA x.10 52 10)else 0 else 0,ok:=aS s.3 (2*n+5+2*t+3*x.3+2) x.10} }))))))))
theorem IU(t n:Int)(x:EXS)(s:MS)(K:ExO→Prop)(h:(vE t n x s).run K):cT' 177 [.ptr 0 0,.ptr 1 0] [some (.cells [.int .i64 t,.int .i64 n,.int .i64 x.popped,.int .i64 x.gave,.int .i64 x.u,.int .i64 x.sh,.int .i64 x.kd,.int .i64 x.ky,.bool x.only,.int .i64 x.att,.int .i64 7,.int .u64 x.found,.int .u64 x.word]),a9 2 s,bA s] (cV 3 0 [] [] (wS t n) K):=by
 exact cM' (E:=EX2) (by kernel_rfl) h
def BT(t n:Int)(x:EXS)(s:MS):Tr ExO:=.pre True (.pre True (.pre ((0:Int)≤aA x.10 0 12∧aA x.10 0 (12:Int)≤(1000000:Int)) (.pre (lE' s.3∧True∧((((0:Int)≤t∧t≤(100000:Int))∧((0:Int)≤n∧n≤(100000:Int))∧(-1099511627776:Int)≤x.3∧x.3≤(1099511627776:Int))∧True)∧((lE' s.3∧(0:Int)≤s.4∧s.4≤(4611686018427387904:Int))∧True)∧True) (.ite (!aS s.3 (2*n+5+2*t+3*x.3+2) x.10) (.pre ((t=t∧n=n)∧lE' (bif aS s.3 (2*n+5+2*t+3*x.3+2) x.10 then aJ s.3 (2*n+5+2*t+3*x.3+2) (bif dOk (eO (aA x.10 0 12)) 0 0 0 1 0 then aY (eO (aA x.10 0 12)) 0 0 0 false 1 0 else 0)else s.3)) (.ret {d:=true,x:= {x with at':=9},s:= {t:=s.1,n:=s.2,xs:=bif aS s.3 (2*n+5+2*t+3*x.3+2) x.10 then aJ s.3 (2*n+5+2*t+3*x.3+2) (bif dOk (eO (aA x.10 0 12)) 0 0 0 1 0 then aY (eO (aA x.10 0 12)) 0 0 0 false 1 0 else 0)else s.3,c:=s.4+1,k:=3,a:=2*n+5+2*t+3*x.3+2,o:=aB s.3 (2*n+5+2*t+3*x.3+2),w:=bif bL s.3 (2*n+5+2*t+3*x.3+2)then bif dOk (eO (aA x.10 0 12)) 0 0 0 1 0 then aY (eO (aA x.10 0 12)) 0 0 0 false 1 0 else 0 else 0,ok:=aS s.3 (2*n+5+2*t+3*x.3+2) x.10} })) (.pre True (.ite (!bM x.5) (.pre ((t=t∧n=n)∧lE' (bif aS s.3 (2*n+5+2*t+3*x.3+2) x.10 then aJ s.3 (2*n+5+2*t+3*x.3+2) (bif dOk (eO (aA x.10 0 12)) 0 0 0 1 0 then aY (eO (aA x.10 0 12)) 0 0 0 false 1 0 else 0)else s.3)) (.ret {d:=true,x:= {x with at':=9},s:= {t:=s.1,n:=s.2,xs:=bif aS s.3 (2*n+5+2*t+3*x.3+2) x.10 then aJ s.3 (2*n+5+2*t+3*x.3+2) (bif dOk (eO (aA x.10 0 12)) 0 0 0 1 0 then aY (eO (aA x.10 0 12)) 0 0 0 false 1 0 else 0)else s.3,c:=s.4+1,k:=3,a:=2*n+5+2*t+3*x.3+2,o:=aB s.3 (2*n+5+2*t+3*x.3+2),w:=bif bL s.3 (2*n+5+2*t+3*x.3+2)then bif dOk (eO (aA x.10 0 12)) 0 0 0 1 0 then aY (eO (aA x.10 0 12)) 0 0 0 false 1 0 else 0 else 0,ok:=aS s.3 (2*n+5+2*t+3*x.3+2) x.10} })) (.pre (True∧True) (.pre ((t=t∧n=n)∧lE' (bif aS s.3 (2*n+5+2*t+3*x.3+2) x.10 then aJ s.3 (2*n+5+2*t+3*x.3+2) (bif dOk (eO (aA x.10 0 12)) 0 0 0 1 0 then aY (eO (aA x.10 0 12)) 0 0 0 false 1 0 else 0)else s.3)) (.ret {d:=!bQ n (aA x.10 39 9),x:= {x with at':=9},s:= {t:=s.1,n:=s.2,xs:=bif aS s.3 (2*n+5+2*t+3*x.3+2) x.10 then aJ s.3 (2*n+5+2*t+3*x.3+2) (bif dOk (eO (aA x.10 0 12)) 0 0 0 1 0 then aY (eO (aA x.10 0 12)) 0 0 0 false 1 0 else 0)else s.3,c:=s.4+1,k:=3,a:=2*n+5+2*t+3*x.3+2,o:=aB s.3 (2*n+5+2*t+3*x.3+2),w:=bif bL s.3 (2*n+5+2*t+3*x.3+2)then bif dOk (eO (aA x.10 0 12)) 0 0 0 1 0 then aY (eO (aA x.10 0 12)) 0 0 0 false 1 0 else 0 else 0,ok:=aS s.3 (2*n+5+2*t+3*x.3+2) x.10} })))))))))
theorem IV(t n:Int)(x:EXS)(s:MS)(K:ExO→Prop)(h:(BT t n x s).run K):cT' 177 [.ptr 0 0,.ptr 1 0] [some (.cells [.int .i64 t,.int .i64 n,.int .i64 x.popped,.int .i64 x.gave,.int .i64 x.u,.int .i64 x.sh,.int .i64 x.kd,.int .i64 x.ky,.bool x.only,.int .i64 x.att,.int .i64 8,.int .u64 x.found,.int .u64 x.word]),a9 2 s,bA s] (cV 3 0 [] [] (wS t n) K):=by
 exact cM' (E:=EX2) (by kernel_rfl) h
def BU(t n:Int)(x:EXS)(s:MS):Tr ExO:=.pre True (.pre True (.pre ((((0:Int)≤t∧t≤(100000:Int))∧((0:Int)≤n∧n≤(100000:Int))∧(-1099511627776:Int)≤aA x.10 39 9∧aA x.10 39 (9:Int)≤(1099511627776:Int))∧True) (.pre ((lE' s.3∧(0:Int)≤s.4∧s.4≤(4611686018427387904:Int))∧True) (.pre ((t=t∧n=n)∧lE' (aJ s.3 (n+4+aA x.10 39 9) (WU (aB s.3 (n+4+aA x.10 39 9)+1)))) (.ret {d:=true,x:= {x with gave:=aA x.10 39 9,at':=9},s:= {t:=s.1,n:=s.2,xs:=aJ s.3 (n+4+aA x.10 39 9) (WU (aB s.3 (n+4+aA x.10 39 9)+1)),c:=s.4+1,k:=4,a:=n+4+aA x.10 39 9,o:=aB s.3 (n+4+aA x.10 39 9),w:=bif bL s.3 (n+4+aA x.10 39 9)then WU (aB s.3 (n+4+aA x.10 39 9)+1)else 0,ok:=bL s.3 (n+4+aA x.10 39 9) } })))))
theorem IW(t n:Int)(x:EXS)(s:MS)(K:ExO→Prop)(h:(BU t n x s).run K):cT' 177 [.ptr 0 0,.ptr 1 0] [some (.cells [.int .i64 t,.int .i64 n,.int .i64 x.popped,.int .i64 x.gave,.int .i64 x.u,.int .i64 x.sh,.int .i64 x.kd,.int .i64 x.ky,.bool x.only,.int .i64 x.att,.int .i64 9,.int .u64 x.found,.int .u64 x.word]),a9 2 s,bA s] (cV 3 0 [] [] (wS t n) K):=by
 exact cM' (E:=EX2) (by kernel_rfl) h
def IL(t n:Int)(x:EXS)(s:MS):Tr ExO:=
 bif ieq x.at' 0 then u7 t n x s else
 bif ieq x.at' 1 then u9 t n x s else
 bif ieq x.at' 2 then vA t n x s else
 bif ieq x.at' 3 then vB t n x s else
 bif ieq x.at' 4 then BS t n x s else
 bif ieq x.at' 5 then vC t n x s else
 bif ieq x.at' 6 then vD t n x s else
 bif ieq x.at' 7 then vE t n x s else
 bif ieq x.at' 8 then BT t n x s else
 bif ieq x.at' 9 then BU t n x s else .pre False (.ret default)
def exF(t n:Int)(x:EXS)(s:MS):ExO:=(IL t n x s).val
def VA(t n:Int)(x:EXS)(s:MS):Prop:=(IL t n x s).ok
theorem QW(t n:Int)(x:EXS)(s:MS)(K:AVal→aD Ob→Prop)(h:(IL t n x s).run (fun y=>(ExO.fin t n y).run K)):cT' 177 [.ptr 0 0,.ptr 1 0] (exH t n x s) K:=by
 unfold IL at h
 by_cases e:x.at'=0
 ·rw [e]at h
  have h:(u7 t n x s).run _:=h
  refine aBt (root:=0) (pos:=[]) (cs:=[]) (parse:=wS t n) (fin:=ExO.fin t n) kT (b8.unpack (.exec t n x) 0 0 (gT t n x) [] rfl (congrArg (Prod.mk 0) rfl) (by kernel_rfl) rfl) ?_
  have q:=IM t n x s _ h
  rw [←e]at q
  exact q
 rw [cY e]at h
 by_cases e:x.at'=1
 ·rw [e]at h
  have h:(u9 t n x s).run _:=h
  refine aBt (root:=0) (pos:=[]) (cs:=[]) (parse:=wS t n) (fin:=ExO.fin t n) kT (b8.unpack (.exec t n x) 0 0 (gT t n x) [] rfl (congrArg (Prod.mk 0) rfl) (by kernel_rfl) rfl) ?_
  have q:=IN t n x s _ h
  rw [←e]at q
  exact q
 rw [cY e]at h
 by_cases e:x.at'=2
 ·rw [e]at h
  have h:(vA t n x s).run _:=h
  refine aBt (root:=0) (pos:=[]) (cs:=[]) (parse:=wS t n) (fin:=ExO.fin t n) kT (b8.unpack (.exec t n x) 0 0 (gT t n x) [] rfl (congrArg (Prod.mk 0) rfl) (by kernel_rfl) rfl) ?_
  have q:=IP t n x s _ h
  rw [←e]at q
  exact q
 rw [cY e]at h
 by_cases e:x.at'=3
 ·rw [e]at h
  have h:(vB t n x s).run _:=h
  refine aBt (root:=0) (pos:=[]) (cs:=[]) (parse:=wS t n) (fin:=ExO.fin t n) kT (b8.unpack (.exec t n x) 0 0 (gT t n x) [] rfl (congrArg (Prod.mk 0) rfl) (by kernel_rfl) rfl) ?_
  have q:=IQ t n x s _ h
  rw [←e]at q
  exact q
 rw [cY e]at h
 by_cases e:x.at'=4
 ·rw [e]at h
  have h:(BS t n x s).run _:=h
  refine aBt (root:=0) (pos:=[]) (cs:=[]) (parse:=wS t n) (fin:=ExO.fin t n) kT (b8.unpack (.exec t n x) 0 0 (gT t n x) [] rfl (congrArg (Prod.mk 0) rfl) (by kernel_rfl) rfl) ?_
  have q:=IR t n x s _ h
  rw [←e]at q
  exact q
 rw [cY e]at h
 by_cases e:x.at'=5
 ·rw [e]at h
  have h:(vC t n x s).run _:=h
  refine aBt (root:=0) (pos:=[]) (cs:=[]) (parse:=wS t n) (fin:=ExO.fin t n) kT (b8.unpack (.exec t n x) 0 0 (gT t n x) [] rfl (congrArg (Prod.mk 0) rfl) (by kernel_rfl) rfl) ?_
  have q:=IS t n x s _ h
  rw [←e]at q
  exact q
 rw [cY e]at h
 by_cases e:x.at'=6
 ·rw [e]at h
  have h:(vD t n x s).run _:=h
  refine aBt (root:=0) (pos:=[]) (cs:=[]) (parse:=wS t n) (fin:=ExO.fin t n) kT (b8.unpack (.exec t n x) 0 0 (gT t n x) [] rfl (congrArg (Prod.mk 0) rfl) (by kernel_rfl) rfl) ?_
  have q:=IT t n x s _ h
  rw [←e]at q
  exact q
 rw [cY e]at h
 by_cases e:x.at'=7
 ·rw [e]at h
  have h:(vE t n x s).run _:=h
  refine aBt (root:=0) (pos:=[]) (cs:=[]) (parse:=wS t n) (fin:=ExO.fin t n) kT (b8.unpack (.exec t n x) 0 0 (gT t n x) [] rfl (congrArg (Prod.mk 0) rfl) (by kernel_rfl) rfl) ?_
  have q:=IU t n x s _ h
  rw [←e]at q
  exact q
 rw [cY e]at h
 by_cases e:x.at'=8
 ·rw [e]at h
  have h:(BT t n x s).run _:=h
  refine aBt (root:=0) (pos:=[]) (cs:=[]) (parse:=wS t n) (fin:=ExO.fin t n) kT (b8.unpack (.exec t n x) 0 0 (gT t n x) [] rfl (congrArg (Prod.mk 0) rfl) (by kernel_rfl) rfl) ?_
  have q:=IV t n x s _ h
  rw [←e]at q
  exact q
 rw [cY e]at h
 by_cases e:x.at'=9
 ·rw [e]at h
  have h:(BU t n x s).run _:=h
  refine aBt (root:=0) (pos:=[]) (cs:=[]) (parse:=wS t n) (fin:=ExO.fin t n) kT (b8.unpack (.exec t n x) 0 0 (gT t n x) [] rfl (congrArg (Prod.mk 0) rfl) (by kernel_rfl) rfl) ?_
  have q:=IW t n x s _ h
  rw [←e]at q
  exact q
 rw [cY e]at h
 exact h.1.elim
noncomputable def exS:aM Ob:=fun args h=>match args,h with
 | [.ptr 0 0,.ptr 1 0],[some (.abs (.exec t n x) []),e1,e2]=>(match fD 2 [e1,e2]with
   | some (l,s)=>some (.pre (l=s.xs.length∧VA t n x s) (ExO.fin t n (exF t n x s)))
   | none=>none)
 | _,_=>none
theorem YU:sT' 177 exS:=by
 intro args h o ho K hK
 unfold exS at ho
 split at ho
 case h_2=>cases ho
 split at ho<;>cases ho
 rename_i hm
 obtain⟨⟨hl,ok⟩,hK⟩:=hK
 have hh:=cC hm hl
 cases hh
 exact QW _ _ _ _ K (aBD ok hK)
def U7(t n:Int)(v:AVal)(g:aD Ob):Option (Prop×EXS):=match v,g with
 | .ptr 0 0,[some (.cells [.int .i64 t1,.int .i64 n1,.int .i64 popped,.int .i64 gave,.int .i64 u,.int .i64 sh,.int .i64 kd,.int .i64 ky,.bool only,.int .i64 att,.int .i64 at',.int .u64 found,.int .u64 word])]=>some ((t1=t∧n1=n),(⟨popped,gave,u,sh,kd,ky,only,att,at',found,word⟩:EXS))
 | _,_=>none
abbrev QR(t n:Int)(y:EXS):aD Ob:=[some (.abs (.exec t n y) [])]
theorem QS{t n:Int} :dI (obI tbl) 0 (U7 t n) (fun y=>.ret (.ptr 0 0) (QR t n y)):=by
 intro v g p x hp hq K hK
 unfold U7 at hp
 split at hp
 case h_2=>cases hp
 rename_i t1 n1 popped gave u sh kd ky only att at' found word
 simp only [sI',pI']at hp
 obtain⟨rfl,rfl⟩:=hp
 obtain⟨rfl,rfl⟩:=hq
 exact⟨⟨_,_,aQ.pack (QR t1 n1 (⟨popped,gave,u,sh,kd,ky,only,att,at',found,word⟩:EXS)) (.exec t1 n1 (⟨popped,gave,u,sh,kd,ky,only,att,at',found,word⟩:EXS)) 0 0 (gT t1 n1 (⟨popped,gave,u,sh,kd,ky,only,att,at',found,word⟩:EXS)) [] (by kernel_rfl) rfl (congrArg (Prod.mk 0) rfl) (by kernel_rfl),hK⟩⟩
def U8(t n:Int)(u sh kd ky att:Int):Tr EXS:=.pre (t=t∧n=n) (.ret {popped:=0,gave:=0,u:=u,sh:=sh,kd:=kd,ky:=ky,only:=true,att:=att,at':=0,found:=0,word:=0})
def exNF(t n:Int)(u sh kd ky att:Int):EXS:=(U8 t n u sh kd ky att).val
def MD(t n:Int)(u sh kd ky att:Int):Prop:=(U8 t n u sh kd ky att).ok
def exNS:aM Ob:=fun args h=>match args,h with
 | [.agg [.int .i64 t,.int .i64 n],.int .i64 u,.agg [.int .i64 sh,.int .i64 kd,.int .i64 ky],.int .i64 att],[]=>some (.pre (MD t n u sh kd ky att) (.ret (.ptr 0 0) (QR t n (exNF t n u sh kd ky att))))
 | _,_=>none
theorem U9:sT' 174 exNS:=by
 intro args h o ho K hK
 unfold exNS at ho
 split at ho<;>cases ho
 rename_i t n u sh kd ky att
 obtain⟨ok,hK⟩:=hK
 refine aBF (root:=0) (pos:=[]) (cs:=[]) (parse:=U7 t n) QS ?_
 exact cM' (E:=EX2) (q:=(U8 t n u sh kd ky att).run (fun y=>(Out.ret (.ptr 0 0) (QR t n y)).run K)) (by kernel_rfl) (aBD ok hK)
noncomputable def EC6:=((EX2.addS 177 exS YU).addS 174 exNS U9)
structure PrO where
 d:Bool
 x:PRS
 st:STS
 s:MS
instance:Inhabited PrO:=⟨⟨false,⟨0,0,0,false⟩,⟨0,0,[]⟩,⟨0,0,[],0,0,0,0,0,false⟩⟩⟩
instance:Inhabited PRS:=⟨⟨0,0,0,false⟩⟩
abbrev Z3(t n:Int)(x:PRS)(st:STS)(s:MS):aD Ob:=[some (.abs (.prepare t n x) [1]),some (.abs (.store t n st) []),a9 3 s,bA s]
abbrev prD(t n:Int)(x:PRS)(st:STS)(s:MS):aD Ob:=[some (.cells [.ptr 1 0,.int .i64 x.key,.int .i64 x.nxt,.int .u64 x.found,.bool x.loaded]),some (.abs (.store t n st) []),a9 3 s,bA s]
def PrO.fin(t n:Int)(y:PrO):Out Ob:=.ite y.d (.ret (.bool true) (prD t n y.x y.st y.s)) (.ret (.bool false) (Z3 t n y.x y.st y.s))
def XB(t n:Int)(v:AVal)(g:aD Ob):Option (Prop×PrO):=match v,g with
 | .bool d,[some (.cells [.ptr 1 0,.int .i64 key,.int .i64 nxt,.int .u64 found,.bool loaded]),e1,e3,e4,e2]=>(match uH 4 [e1,e2],fD 3 [e3,e4]with
   | some (l2,t2,n2,st),some (l,s)=>some ((t2=t∧n2=n)∧l=s.xs.length∧l2=st.R.length,⟨d,⟨key,nxt,found,loaded⟩,st,s⟩)
   | _,_=>none)
 | _,_=>none
def Z4(t n:Int)(v:AVal)(g:aD Ob):Option (Prop×PrO):=XB t n v g
theorem SD{t n:Int} :dI (obI tbl) 4 (XB t n) (PrO.fin t n):=by
 intro v g p x hp hq K hK
 unfold XB at hp
 split at hp
 case h_2=>cases hp
 rename_i d key nxt found loaded e1 e3 e4 e2
 split at hp
 case h_2=>cases hp
 rename_i l2 t2 n2 st l s hs hm
 simp only [sI',pI']at hp
 obtain⟨rfl,rfl⟩:=hp
 obtain⟨⟨rfl,rfl⟩,hl,hl2⟩:=hq
 have hh:=cC hm hl
 cases hh
 have hh:=dX hs hl2
 cases hh
 refine yN hK (fun h=>?_) (fun h=>?_)
 ·exact⟨⟨_,_,(aQ.pack (prD t2 n2 (⟨key,nxt,found,loaded⟩:PRS) st s) (.store t2 n2 st) 1 0 (iU t2 n2 st) [] (by kernel_rfl) rfl rfl (by kernel_rfl)),h⟩⟩
 ·exact⟨⟨_,_,((aQ.pack (bT (Z3 t2 n2 (⟨key,nxt,found,loaded⟩:PRS) st s) 0 1 (lR t2 n2 (⟨key,nxt,found,loaded⟩:PRS)) [1]) (.store t2 n2 st) 1 0 (iU t2 n2 st) [] (by kernel_rfl) rfl rfl (by kernel_rfl)).trans (aQ.pack (Z3 t2 n2 (⟨key,nxt,found,loaded⟩:PRS) st s) (.prepare t2 n2 (⟨key,nxt,found,loaded⟩:PRS)) 0 1 (lR t2 n2 (⟨key,nxt,found,loaded⟩:PRS)) [1] (by kernel_rfl) rfl (congrArg (Prod.mk 1) rfl) (by kernel_rfl))),h⟩⟩
theorem XC{t n:Int} :dI (obI tbl) 4 (Z4 t n) (PrO.fin t n):=by
 intro v g p x hp hq K hK
 unfold Z4 at hp
 exact SD v g p x hp hq K hK
def KA(t n:Int)(x:PRS)(st:STS)(s:MS):Tr PrO:=.ite (!x.4) (.pre (lE' s.3∧(0:Int)≤s.4∧s.4≤(4611686018427387904:Int)) (.pre ((t=t∧n=n)∧lE' s.3∧lE' st.3) (.ret {d:=false,x:= {key:=x.1,nxt:=x.2,found:=aB s.3 st.2,loaded:=true},st:= {me:=st.1,sp:=st.2,R:=st.3},s:= {s with c:=s.4+1,k:=1,a:=st.2,o:=aB s.3 st.2,w:=aB s.3 st.2,ok:=bL s.3 st.2} }))) (.pre True (.pre ((0:Int)≤aA x.3 25 18∧aA x.3 25 (18:Int)≤(1000000:Int)) (.pre True (.pre (lE' s.3∧(0:Int)≤s.4∧s.4≤(4611686018427387904:Int)) (.pre ((t=t∧n=n)∧lE' (aJ s.3 st.2 (bif bif aH x.1 10 then bif aH x.2 9 then bif aH 0 5 then aH (aO (aA x.3 25 18)) 18 else false else false else false then aT x.1 x.2 false 0 (aO (aA x.3 25 18))else 0))∧lE' st.3) (.ret {d:=true,x:= x,st:= {me:=st.1,sp:=st.2,R:=st.3},s:= {t:=s.1,n:=s.2,xs:=aJ s.3 st.2 (bif bif aH x.1 10 then bif aH x.2 9 then bif aH 0 5 then aH (aO (aA x.3 25 18)) 18 else false else false else false then aT x.1 x.2 false 0 (aO (aA x.3 25 18))else 0),c:=s.4+1,k:=2,a:=st.2,o:=aB s.3 st.2,w:=bif bL s.3 st.2 then bif bif aH x.1 10 then bif aH x.2 9 then bif aH 0 5 then aH (aO (aA x.3 25 18)) 18 else false else false else false then aT x.1 x.2 false 0 (aO (aA x.3 25 18))else 0 else 0,ok:=bL s.3 st.2} }))))))
theorem OJ(t n:Int)(x:PRS)(st:STS)(s:MS)(K:PrO→Prop)(h:(KA t n x st s).run K):cT' 98 [.ptr 0 0,.ptr 2 0] [some (.cells [.ptr 1 0,.int .i64 x.key,.int .i64 x.nxt,.int .u64 x.found,.bool x.loaded]),stC 4 t n st,a9 3 s,bA s,mG st] (cV 4 0 [] [(.cell 1 4,.ints (some .i64))] (Z4 t n) K):=by
 exact cM' (E:=EC6) (by kernel_rfl) h
def TV(t n:Int)(x:PRS)(st:STS)(s:MS):Tr PrO:=KA t n x st s
def prF(t n:Int)(x:PRS)(st:STS)(s:MS):PrO:=(TV t n x st s).val
def SC(t n:Int)(x:PRS)(st:STS)(s:MS):Prop:=(TV t n x st s).ok
theorem HP(t n:Int)(x:PRS)(st:STS)(s:MS)(K:AVal→aD Ob→Prop)(h:(TV t n x st s).run (fun y=>(PrO.fin t n y).run K)):cT' 98 [.ptr 0 0,.ptr 2 0] (Z3 t n x st s) K:=by
 unfold TV at h
 exact aBt (root:=0) (pos:=[]) (cs:=[(.cell 1 4,.ints (some .i64))]) (parse:=Z4 t n) (fin:=PrO.fin t n) XC ((b8.unpack (.prepare t n x) 0 1 (lR t n x) [1] rfl (congrArg (Prod.mk 1) rfl) (by kernel_rfl) rfl).trans (b8.unpack (.store t n st) 1 0 (iU t n st) [] rfl rfl rfl rfl)) (OJ t n x st s _ h)
noncomputable def prSA:aM Ob:=fun args h=>match args,h with
 | [.ptr 0 0,.ptr 2 0],[some (.abs (.prepare t n x) [1]),some (.abs (.store t2 n2 st) []),e3,e4]=>(match fD 3 [e3,e4]with
   | some (l,s)=>some (.pre ((l=s.xs.length∧t2=t∧n2=n)∧SC t n x st s) (PrO.fin t n (prF t n x st s)))
   | none=>none)
 | _,_=>none
theorem XD:sT' 98 prSA:=by
 intro args h o ho K hK
 unfold prSA at ho
 split at ho
 case h_2=>cases ho
 split at ho<;>cases ho
 rename_i hm
 obtain⟨⟨⟨hl,rfl,rfl⟩,ok⟩,hK⟩:=hK
 have hh:=cC hm hl
 cases hh
 exact HP _ _ _ _ _ K (aBD ok hK)
def PrO.finB(t n:Int)(y:PrO):Out Ob:=.ite y.d (.ret (.bool true) ([some (.cells [.ptr 1 0,.int .i64 y.x.key,.int .i64 y.x.nxt,.int .u64 y.x.found,.bool y.x.loaded]),stC 5 t n y.st,none,a9 4 y.s,bA y.s,mG y.st])) (.ret (.bool false) [some (.abs (.prepare t n y.x) [1]),stC 5 t n y.st,none,a9 4 y.s,bA y.s,mG y.st])
noncomputable def prSB:aM Ob:=fun args h=>match args,h with
 | [.ptr 0 0,.ptr 3 0],[some (.abs (.prepare t n x) [1]),e1,e2,e3,e4]=>(match uH 2 [e1,e2],fD 4 [e3,e4]with
   | some (l2,t2,n2,st),some (l,s)=>some (.pre ((l=s.xs.length∧l2=st.R.length∧t2=t∧n2=n)∧SC t n x st s) (PrO.finB t n (prF t n x st s)))
   | _,_=>none)
 | _,_=>none
theorem XE:sT' 98 prSB:=by
 intro args h o ho K hK
 unfold prSB at ho
 split at ho
 case h_2=>cases ho
 split at ho<;>cases ho
 rename_i hs hm
 obtain⟨⟨⟨hl,hl2,rfl,rfl⟩,ok⟩,hK⟩:=hK
 have hh:=cC hm hl
 cases hh
 have hh:=dX hs hl2
 cases hh
 exact oS (fun ι hι=>by simp [aG.ren,aBB,AVal.ren,hι]) (fun ι hι=>by simp [aG.ren,hι]) (fun K hK=>HP _ _ _ _ _ K (aBD ok hK)) K hK
noncomputable def prS:aM Ob:=aM.or prSA prSB
theorem ZN:sT' 98 prS:=aBK XD XE
def W8(t n:Int)(v:AVal)(g:aD Ob):Option (Prop×(PRS×STS)):=match v,g with
 | .ptr 2 0,[e1,e2,some (.cells [.ptr 0 0,.int .i64 key,.int .i64 nxt,.int .u64 found,.bool loaded])]=>(match uH 1 [e1,e2]with
   | some (l2,t2,n2,st)=>some ((t2=t∧n2=n∧l2=st.R.length),⟨(⟨key,nxt,found,loaded⟩:PRS),st⟩)
   | none=>none)
 | _,_=>none
abbrev R8(t n:Int)(y:(PRS×STS)):aD Ob:=[stC 1 t n y.2,mG y.2,some (.abs (.prepare t n y.1) [0])]
theorem R9{t n:Int} :dI (obI tbl) 2 (W8 t n) (fun y=>.ret (.ptr 2 0) (R8 t n y)):=by
 intro v g p x hp hq K hK
 unfold W8 at hp
 split at hp
 case h_2=>cases hp
 rename_i e1 e2 key nxt found loaded
 split at hp
 case h_2=>cases hp
 rename_i l2 t2 n2 st hs
 simp only [sI',pI']at hp
 obtain⟨rfl,rfl⟩:=hp
 obtain⟨rfl,rfl,hl2⟩:=hq
 have hh:=dX hs hl2
 cases hh
 exact⟨⟨_,_,aQ.pack (R8 t2 n2 ((⟨key,nxt,found,loaded⟩:PRS),st)) (.prepare t2 n2 (⟨key,nxt,found,loaded⟩:PRS)) 2 1 (lR t2 n2 (⟨key,nxt,found,loaded⟩:PRS)) [0] (by kernel_rfl) rfl (congrArg (Prod.mk 1) rfl) (by kernel_rfl),hK⟩⟩
def SA(t n:Int)(key nx:Int)(st:STS):Tr (PRS×STS):=.pre (t=t∧n=n∧lE' st.3) (.ret ({key:=key,nxt:=nx,found:=0,loaded:=false},{me:=st.1,sp:=st.2,R:=st.3}))
def CQ(t n:Int)(key nx:Int)(st:STS):(PRS×STS):=(SA t n key nx st).val
def OH(t n:Int)(key nx:Int)(st:STS):Prop:=(SA t n key nx st).ok
def prNS:aM Ob:=fun args h=>match args,h with
 | [.ptr 0 0,.int .i64 key,.int .i64 nx],[e1,e2]=>(match uH 1 [e1,e2]with
   | some (l2,t,n,st)=>some (.pre (l2=st.R.length∧OH t n key nx st) (.ret (.ptr 2 0) (R8 t n (CQ t n key nx st))))
   | none=>none)
 | _,_=>none
theorem W9:sT' 160 prNS:=by
 intro args h o ho K hK
 unfold prNS at ho
 split at ho
 case h_2=>cases ho
 rename_i key nx e1 e2
 split at ho<;>cases ho
 rename_i l2 t n st hs
 obtain⟨⟨hl2,ok⟩,hK⟩:=hK
 have hh:=dX hs hl2
 cases hh
 refine aBF (root:=2) (pos:=[]) (cs:=[]) (parse:=W8 t n) R9 ?_
 exact cM' (E:=EC6) (q:=(SA t n key nx st).run (fun y=>(Out.ret (.ptr 2 0) (R8 t n y)).run K)) (by kernel_rfl) (aBD ok hK)
noncomputable def EC7:=((EC6.addS 98 prS ZN).addS 160 prNS W9)
structure FnO where
 d:Bool
 x:FNS
 s:MS
instance:Inhabited FnO:=⟨⟨false,cR,⟨0,0,[],0,0,0,0,0,false⟩⟩⟩
instance:Inhabited FNS:=⟨cR⟩
abbrev Z1(t n:Int)(x:FNS)(s:MS):aD Ob:=[some (.abs (.find t n x) []),a9 2 s,bA s]
abbrev fnD(t n:Int)(x:FNS)(s:MS):aD Ob:=[some (.cells [.int .i64 t,.int .i64 n,.int .i64 x.pred,.int .u64 x.pw,.int .i64 x.curr,.int .u64 x.cw,.int .i64 x.tries,.slice 3 0 x.ul.length 1,.bool x.ab,.int .i64 x.me,.int .i64 x.frm,.int .i64 x.key,.int .i64 x.limit,.int .i64 x.at',.int .i64 x.moved,.O]),a9 2 s,bA s,some (.ints (some .i64) x.ul)]
def FnO.fin(t n:Int)(y:FnO):Out Ob:=.ite y.d (.ret (.bool true) (fnD t n y.x y.s)) (.ret (.bool false) (Z1 t n y.x y.s))
def VU(t n:Int)(v:AVal)(g:aD Ob):Option (Prop×FnO):=match v,g with
 | .bool d,[some (.cells [.int .i64 t1,.int .i64 n1,.int .i64 pred,.int .u64 pw,.int .i64 curr,.int .u64 cw,.int .i64 tries,.slice 3 0 ul_l 1,.bool ab,.int .i64 me,.int .i64 frm,.int .i64 key,.int .i64 limit,.int .i64 at',.int .i64 moved,.O]),e1,e2,some (.ints (some .i64) ul)]=>(match fD 2 [e1,e2]with
   | some (l,s)=>some ((t1=t∧n1=n)∧ul_l=ul.length∧(d=false→at'≠4)∧l=s.xs.length,⟨d,⟨pred,pw,curr,cw,tries,ul,ab,me,frm,key,limit,at',moved,⟨0,0,0,0⟩⟩,s⟩)
   | none=>none)
 | _,_=>none
def VV(t n:Int)(v:AVal)(g:aD Ob):Option (Prop×FnO):=match v,g with
 | .bool d,[some (.cells [.int .i64 t1,.int .i64 n1,.int .i64 pred,.int .u64 pw,.int .i64 curr,.int .u64 cw,.int .i64 tries,.slice 3 0 ul_l 1,.bool ab,.int .i64 me,.int .i64 frm,.int .i64 key,.int .i64 limit,.int .i64 at',.int .i64 moved,.ptr 4 0]),e1,e2,some (.ints (some .i64) ul),some (.abs (.clear t' n' sub) [])]=>(match fD 2 [e1,e2]with
   | some (l,s)=>some ((t1=t∧n1=n)∧ul_l=ul.length∧t'=t∧n'=n∧(d=false→at'=4)∧l=s.xs.length,⟨d,⟨pred,pw,curr,cw,tries,ul,ab,me,frm,key,limit,at',moved,sub⟩,s⟩)
   | none=>none)
 | _,_=>none
def DA(t n:Int)(v:AVal)(g:aD Ob):Option (Prop×FnO):=(match VU t n v g with
 | some r=>some r
 | none=>VV t n v g)
theorem Q3{t n:Int} :dI (obI tbl) 3 (VU t n) (FnO.fin t n):=by
 intro v g p x hp hq K hK
 unfold VU at hp
 split at hp
 case h_2=>cases hp
 rename_i d t1 n1 pred pw curr cw tries ul_l ab me frm key limit at' moved e1 e2 ul
 split at hp
 case h_2=>cases hp
 rename_i l s hm
 simp only [sI',pI']at hp
 obtain⟨rfl,rfl⟩:=hp
 obtain⟨⟨rfl,rfl⟩,rfl,hat,hl⟩:=hq
 have hh:=cC hm hl
 cases hh
 refine tL hK (fun h=>?_) (fun hd h=>?_)
 ·exact⟨⟨_,_,aQ.refl _ _ _,h⟩⟩
 ·exact⟨⟨_,_,(aQ.pack (Z1 t1 n1 (⟨pred,pw,curr,cw,tries,ul,ab,me,frm,key,limit,at',moved,⟨0,0,0,0⟩⟩:FNS) s) (.find t1 n1 (⟨pred,pw,curr,cw,tries,ul,ab,me,frm,key,limit,at',moved,⟨0,0,0,0⟩⟩:FNS)) 0 0 (kV t1 n1 (⟨pred,pw,curr,cw,tries,ul,ab,me,frm,key,limit,at',moved,⟨0,0,0,0⟩⟩:FNS)) [] (by kernel_rfl) rfl (congrArg (Prod.mk 0) (iI (hat hd))) (by kernel_rfl)),h⟩⟩
theorem Q4{t n:Int} :dI (obI tbl) 3 (VV t n) (FnO.fin t n):=by
 intro v g p x hp hq K hK
 unfold VV at hp
 split at hp
 case h_2=>cases hp
 rename_i d t1 n1 pred pw curr cw tries ul_l ab me frm key limit at' moved e1 e2 ul t' n' sub
 split at hp
 case h_2=>cases hp
 rename_i l s hm
 simp only [sI',pI']at hp
 obtain⟨rfl,rfl⟩:=hp
 obtain⟨⟨rfl,rfl⟩,rfl,rfl,rfl,hat,hl⟩:=hq
 have hh:=cC hm hl
 cases hh
 refine tL hK (fun h=>?_) (fun hd h=>?_)
 ·exact⟨⟨_,_,(aQ.weak (dH _ 0 [15])).trans ((aQ.pick (upto 0 4) rfl).trans (aQ.eq (by kernel_rfl) (by kernel_rfl))),h⟩⟩
 ·exact⟨⟨_,_,(aQ.pack (Z1 t' n' (⟨pred,pw,curr,cw,tries,ul,ab,me,frm,key,limit,at',moved,sub⟩:FNS) s) (.find t' n' (⟨pred,pw,curr,cw,tries,ul,ab,me,frm,key,limit,at',moved,sub⟩:FNS)) 0 0 (qF t' n' (⟨pred,pw,curr,cw,tries,ul,ab,me,frm,key,limit,at',moved,sub⟩:FNS)) [] (by kernel_rfl) rfl (congrArg (Prod.mk 0) (G0 (hat hd))) (by kernel_rfl)),h⟩⟩
theorem pJ{t n:Int} :dI (obI tbl) 3 (DA t n) (FnO.fin t n):=by
 intro v g p x hp hq K hK
 unfold DA at hp
 split at hp
 ·rename_i r hr
  cases hp
  exact Q3 v g p x hr hq K hK
 exact Q4 v g p x hp hq K hK
def vH(t n:Int)(x:FNS)(s:MS):Tr FnO:=.pre (lE' s.3∧(0:Int)≤s.4∧s.4≤(4611686018427387904:Int)) (.pre True (.ite (ieq (aA (aB s.3 x.1) 19 1) 1) (.ite (ilt x.11 (W (x.5+1))) (.ite (ilt x.11 (W (x.5+1))) (.pre ((t=t∧n=n)∧lE' x.6∧(true=false→(0:Int)≠(4:Int))∧lE' s.3) (.ret {d:=true,x:= {x with pred:=0,pw:=0,curr:=0,cw:=0,tries:=W (x.5+1),ab:=ilt x.11 (W (x.5+1)),at':=0,cl:=bU},s:= {s with c:=s.4+1,k:=1,a:=x.1,o:=aB s.3 x.1,w:=aB s.3 x.1,ok:=bL s.3 x.1} })) (.pre True (.ite (ieq (aA (aB s.3 x.1) 19 1) 1) (.pre ((t=t∧n=n)∧lE' x.6∧(false=false→(0:Int)≠(4:Int))∧lE' s.3) (.ret {d:=false,x:= {x with pred:=x.9,pw:=0,curr:=0,cw:=0,tries:=W (x.5+1),ab:=ilt x.11 (W (x.5+1)),at':=0,moved:=0,cl:=bU},s:= {s with c:=s.4+1,k:=1,a:=x.1,o:=aB s.3 x.1,w:=aB s.3 x.1,ok:=bL s.3 x.1} })) (.pre ((t=t∧n=n)∧lE' x.6∧(ieq (aA (aB s.3 x.1) 10 9) (0:Int)=false→(1:Int)≠(4:Int))∧lE' s.3) (.ret {d:=ieq (aA (aB s.3 x.1) 10 9) 0,x:= {x with pred:=0,pw:=aB s.3 x.1,curr:=aA (aB s.3 x.1) 10 9,cw:=0,tries:=W (x.5+1),ab:=ilt x.11 (W (x.5+1)),at':=1,cl:=bU},s:= {s with c:=s.4+1,k:=1,a:=x.1,o:=aB s.3 x.1,w:=aB s.3 x.1,ok:=bL s.3 x.1} }))))) (.ite (ilt x.11 (W (x.5+1))) (.pre ((t=t∧n=n)∧lE' x.6∧(true=false→(0:Int)≠(4:Int))∧lE' s.3) (.ret {d:=true,x:= {x with tries:=W (x.5+1),ab:=ilt x.11 (W (x.5+1)),at':=0,cl:=bU},s:= {s with c:=s.4+1,k:=1,a:=x.1,o:=aB s.3 x.1,w:=aB s.3 x.1,ok:=bL s.3 x.1} })) (.pre True (.ite (ieq (aA (aB s.3 x.1) 19 1) 1) (.pre ((t=t∧n=n)∧lE' x.6∧(false=false→(0:Int)≠(4:Int))∧lE' s.3) (.ret {d:=false,x:= {x with pred:=x.9,tries:=W (x.5+1),ab:=ilt x.11 (W (x.5+1)),at':=0,moved:=0,cl:=bU},s:= {s with c:=s.4+1,k:=1,a:=x.1,o:=aB s.3 x.1,w:=aB s.3 x.1,ok:=bL s.3 x.1} })) (.pre ((t=t∧n=n)∧lE' x.6∧(ieq (aA (aB s.3 x.1) 10 9) (0:Int)=false→(1:Int)≠(4:Int))∧lE' s.3) (.ret {d:=ieq (aA (aB s.3 x.1) 10 9) 0,x:= {x with pw:=aB s.3 x.1,curr:=aA (aB s.3 x.1) 10 9,cw:=0,tries:=W (x.5+1),ab:=ilt x.11 (W (x.5+1)),at':=1,cl:=bU},s:= {s with c:=s.4+1,k:=1,a:=x.1,o:=aB s.3 x.1,w:=aB s.3 x.1,ok:=bL s.3 x.1} })))))) (.pre True (.ite (ieq (aA (aB s.3 x.1) 19 1) 1) (.pre ((t=t∧n=n)∧lE' x.6∧(false=false→(0:Int)≠(4:Int))∧lE' s.3) (.ret {d:=false,x:= {x with pred:=x.9,at':=0,moved:=0,cl:=bU},s:= {s with c:=s.4+1,k:=1,a:=x.1,o:=aB s.3 x.1,w:=aB s.3 x.1,ok:=bL s.3 x.1} })) (.pre ((t=t∧n=n)∧lE' x.6∧(ieq (aA (aB s.3 x.1) 10 9) (0:Int)=false→(1:Int)≠(4:Int))∧lE' s.3) (.ret {d:=ieq (aA (aB s.3 x.1) 10 9) 0,x:= {x with pw:=aB s.3 x.1,curr:=aA (aB s.3 x.1) 10 9,cw:=0,at':=1,cl:=bU},s:= {s with c:=s.4+1,k:=1,a:=x.1,o:=aB s.3 x.1,w:=aB s.3 x.1,ok:=bL s.3 x.1} }))))))
theorem I1(t n:Int)(x:FNS)(s:MS)(K:FnO→Prop)(h:(vH t n x s).run K):cT' 94 [.ptr 0 0,.ptr 1 0] [some (.cells [.int .i64 t,.int .i64 n,.int .i64 x.pred,.int .u64 x.pw,.int .i64 x.curr,.int .u64 x.cw,.int .i64 x.tries,.slice 3 0 x.ul.length 1,.bool x.ab,.int .i64 x.me,.int .i64 x.frm,.int .i64 x.key,.int .i64 x.limit,.int .i64 0,.int .i64 x.moved,.O]),a9 2 s,bA s,some (.ints (some .i64) x.ul)] (cV 3 0 [15] [(.cell 0 7,.ints (some .i64))] (DA t n) K):=by
 exact cM' (E:=EC7) (by kernel_rfl) h
def xX(t n:Int)(x:FNS)(s:MS):Tr FnO:=.pre ((((0:Int)≤t∧t≤(100000:Int))∧((0:Int)≤n∧n≤(100000:Int))∧((-1099511627776:Int)≤x.8∧x.8≤(1099511627776:Int))∧(-1099511627776:Int)≤(1:Int)∧(1:Int)≤(1099511627776:Int))∧True) (.pre ((lE' s.3∧(0:Int)≤s.4∧s.4≤(4611686018427387904:Int))∧True) (.pre ((t=t∧n=n)∧lE' x.6∧(false=false→(2:Int)≠(4:Int))∧lE' (aJ s.3 (2*n+5+2*x.8+1) (WU x.3))) (.ret {d:=false,x:= {x with at':=2,cl:=bU},s:= {t:=s.1,n:=s.2,xs:=aJ s.3 (2*n+5+2*x.8+1) (WU x.3),c:=s.4+1,k:=2,a:=2*n+5+2*x.8+1,o:=aB s.3 (2*n+5+2*x.8+1),w:=bif bL s.3 (2*n+5+2*x.8+1)then WU x.3 else 0,ok:=bL s.3 (2*n+5+2*x.8+1) } })))
theorem I2(t n:Int)(x:FNS)(s:MS)(K:FnO→Prop)(h:(xX t n x s).run K):cT' 94 [.ptr 0 0,.ptr 1 0] [some (.cells [.int .i64 t,.int .i64 n,.int .i64 x.pred,.int .u64 x.pw,.int .i64 x.curr,.int .u64 x.cw,.int .i64 x.tries,.slice 3 0 x.ul.length 1,.bool x.ab,.int .i64 x.me,.int .i64 x.frm,.int .i64 x.key,.int .i64 x.limit,.int .i64 1,.int .i64 x.moved,.O]),a9 2 s,bA s,some (.ints (some .i64) x.ul)] (cV 3 0 [15] [(.cell 0 7,.ints (some .i64))] (DA t n) K):=by
 exact cM' (E:=EC7) (by kernel_rfl) h
def vI(t n:Int)(x:FNS)(s:MS):Tr FnO:=.pre (lE' s.3∧(0:Int)≤s.4∧s.4≤(4611686018427387904:Int)) (.ite (!ieq (aB s.3 x.1) x.2) (.ite (ilt x.11 (W (x.5+1))) (.ite (ilt x.11 (W (x.5+1))) (.pre ((t=t∧n=n)∧lE' x.6∧(true=false→(2:Int)≠(4:Int))∧lE' s.3) (.ret {d:=true,x:= {x with pred:=0,pw:=0,curr:=0,cw:=0,tries:=W (x.5+1),ab:=ilt x.11 (W (x.5+1)),at':=2,cl:=bU},s:= {s with c:=s.4+1,k:=1,a:=x.1,o:=aB s.3 x.1,w:=aB s.3 x.1,ok:=bL s.3 x.1} })) (.pre True (.ite (ieq (aA (aB s.3 x.1) 19 1) 1) (.pre ((t=t∧n=n)∧lE' x.6∧(false=false→(0:Int)≠(4:Int))∧lE' s.3) (.ret {d:=false,x:= {x with pred:=x.9,pw:=0,curr:=0,cw:=0,tries:=W (x.5+1),ab:=ilt x.11 (W (x.5+1)),at':=0,moved:=0,cl:=bU},s:= {s with c:=s.4+1,k:=1,a:=x.1,o:=aB s.3 x.1,w:=aB s.3 x.1,ok:=bL s.3 x.1} })) (.pre ((t=t∧n=n)∧lE' x.6∧(ieq (aA (aB s.3 x.1) 10 9) (0:Int)=false→(1:Int)≠(4:Int))∧lE' s.3) (.ret {d:=ieq (aA (aB s.3 x.1) 10 9) 0,x:= {x with pred:=0,pw:=aB s.3 x.1,curr:=aA (aB s.3 x.1) 10 9,cw:=0,tries:=W (x.5+1),ab:=ilt x.11 (W (x.5+1)),at':=1,cl:=bU},s:= {s with c:=s.4+1,k:=1,a:=x.1,o:=aB s.3 x.1,w:=aB s.3 x.1,ok:=bL s.3 x.1} }))))) (.ite (ilt x.11 (W (x.5+1))) (.pre ((t=t∧n=n)∧lE' x.6∧(true=false→(2:Int)≠(4:Int))∧lE' s.3) (.ret {d:=true,x:= {x with tries:=W (x.5+1),ab:=ilt x.11 (W (x.5+1)),at':=2,cl:=bU},s:= {s with c:=s.4+1,k:=1,a:=x.1,o:=aB s.3 x.1,w:=aB s.3 x.1,ok:=bL s.3 x.1} })) (.pre True (.ite (ieq (aA (aB s.3 x.1) 19 1) 1) (.pre ((t=t∧n=n)∧lE' x.6∧(false=false→(0:Int)≠(4:Int))∧lE' s.3) (.ret {d:=false,x:= {x with pred:=x.9,tries:=W (x.5+1),ab:=ilt x.11 (W (x.5+1)),at':=0,moved:=0,cl:=bU},s:= {s with c:=s.4+1,k:=1,a:=x.1,o:=aB s.3 x.1,w:=aB s.3 x.1,ok:=bL s.3 x.1} })) (.pre ((t=t∧n=n)∧lE' x.6∧(ieq (aA (aB s.3 x.1) 10 9) (0:Int)=false→(1:Int)≠(4:Int))∧lE' s.3) (.ret {d:=ieq (aA (aB s.3 x.1) 10 9) 0,x:= {x with pw:=aB s.3 x.1,curr:=aA (aB s.3 x.1) 10 9,cw:=0,tries:=W (x.5+1),ab:=ilt x.11 (W (x.5+1)),at':=1,cl:=bU},s:= {s with c:=s.4+1,k:=1,a:=x.1,o:=aB s.3 x.1,w:=aB s.3 x.1,ok:=bL s.3 x.1} })))))) (.pre ((t=t∧n=n)∧lE' x.6∧(false=false→(3:Int)≠(4:Int))∧lE' s.3) (.ret {d:=false,x:= {x with at':=3,cl:=bU},s:= {s with c:=s.4+1,k:=1,a:=x.1,o:=aB s.3 x.1,w:=aB s.3 x.1,ok:=bL s.3 x.1} })))
theorem I3(t n:Int)(x:FNS)(s:MS)(K:FnO→Prop)(h:(vI t n x s).run K):cT' 94 [.ptr 0 0,.ptr 1 0] [some (.cells [.int .i64 t,.int .i64 n,.int .i64 x.pred,.int .u64 x.pw,.int .i64 x.curr,.int .u64 x.cw,.int .i64 x.tries,.slice 3 0 x.ul.length 1,.bool x.ab,.int .i64 x.me,.int .i64 x.frm,.int .i64 x.key,.int .i64 x.limit,.int .i64 2,.int .i64 x.moved,.O]),a9 2 s,bA s,some (.ints (some .i64) x.ul)] (cV 3 0 [15] [(.cell 0 7,.ints (some .i64))] (DA t n) K):=by
 exact cM' (E:=EC7) (by kernel_rfl) h
def nB(t n:Int)(x:FNS)(s:MS):Tr FnO:=.pre (lE' s.3∧(0:Int)≤s.4∧s.4≤(4611686018427387904:Int)) (.pre True (.ite (!ieq (aA (aB s.3 x.3) 19 1) 1) (.ite (ile x.10 (aA (aB s.3 x.3) 0 10)) (.pre ((t=t∧n=n)∧lE' x.6∧(true=false→(3:Int)≠(4:Int))∧lE' s.3) (.ret {d:=true,x:= {x with cw:=aB s.3 x.3,at':=3,cl:=bU},s:= {s with c:=s.4+1,k:=1,a:=x.3,o:=aB s.3 x.3,w:=aB s.3 x.3,ok:=bL s.3 x.3} })) (.ite (!ieq (aA (aB s.3 x.3) 19 1) 1) (.pre ((t=t∧n=n)∧lE' x.6∧(false=false→(6:Int)≠(4:Int))∧lE' s.3) (.ret {d:=false,x:= {x with cw:=aB s.3 x.3,at':=6,cl:=bU},s:= {s with c:=s.4+1,k:=1,a:=x.3,o:=aB s.3 x.3,w:=aB s.3 x.3,ok:=bL s.3 x.3} })) (.ite (!ieq (aA (aB s.3 x.3) 20 5) 0) (.pre (u2 t n x.3∧True) (.pre ((t=t∧n=n)∧lE' x.6∧t=t∧n=n∧(false=false→(4:Int)=(4:Int))∧lE' s.3) (.ret {d:=false,x:= {x with cw:=aB s.3 x.3,at':=4,cl:=DV t n x.3},s:= {s with c:=s.4+1,k:=1,a:=x.3,o:=aB s.3 x.3,w:=aB s.3 x.3,ok:=bL s.3 x.3} }))) (.pre True (.ite (!ieq (aA x.2 20 5) 0) (.pre (u2 t n x.1∧True) (.pre ((t=t∧n=n)∧lE' x.6∧t=t∧n=n∧(false=false→(4:Int)=(4:Int))∧lE' s.3) (.ret {d:=false,x:= {x with cw:=aB s.3 x.3,at':=4,cl:=DV t n x.1},s:= {s with c:=s.4+1,k:=1,a:=x.3,o:=aB s.3 x.3,w:=aB s.3 x.3,ok:=bL s.3 x.3} }))) (.pre ((t=t∧n=n)∧lE' x.6∧(false=false→(5:Int)≠(4:Int))∧lE' s.3) (.ret {d:=false,x:= {x with cw:=aB s.3 x.3,at':=5,cl:=bU},s:= {s with c:=s.4+1,k:=1,a:=x.3,o:=aB s.3 x.3,w:=aB s.3 x.3,ok:=bL s.3 x.3} }))))))) (.ite (!ieq (aA (aB s.3 x.3) 19 1) 1) (.pre ((t=t∧n=n)∧lE' x.6∧(false=false→(6:Int)≠(4:Int))∧lE' s.3) (.ret {d:=false,x:= {x with cw:=aB s.3 x.3,at':=6,cl:=bU},s:= {s with c:=s.4+1,k:=1,a:=x.3,o:=aB s.3 x.3,w:=aB s.3 x.3,ok:=bL s.3 x.3} })) (.ite (!ieq (aA (aB s.3 x.3) 20 5) 0) (.pre (u2 t n x.3∧True) (.pre ((t=t∧n=n)∧lE' x.6∧t=t∧n=n∧(false=false→(4:Int)=(4:Int))∧lE' s.3) (.ret {d:=false,x:= {x with cw:=aB s.3 x.3,at':=4,cl:=DV t n x.3},s:= {s with c:=s.4+1,k:=1,a:=x.3,o:=aB s.3 x.3,w:=aB s.3 x.3,ok:=bL s.3 x.3} }))) (.pre True (.ite (!ieq (aA x.2 20 5) 0) (.pre (u2 t n x.1∧True) (.pre ((t=t∧n=n)∧lE' x.6∧t=t∧n=n∧(false=false→(4:Int)=(4:Int))∧lE' s.3) (.ret {d:=false,x:= {x with cw:=aB s.3 x.3,at':=4,cl:=DV t n x.1},s:= {s with c:=s.4+1,k:=1,a:=x.3,o:=aB s.3 x.3,w:=aB s.3 x.3,ok:=bL s.3 x.3} }))) (.pre ((t=t∧n=n)∧lE' x.6∧(false=false→(5:Int)≠(4:Int))∧lE' s.3) (.ret {d:=false,x:= {x with cw:=aB s.3 x.3,at':=5,cl:=bU},s:= {s with c:=s.4+1,k:=1,a:=x.3,o:=aB s.3 x.3,w:=aB s.3 x.3,ok:=bL s.3 x.3} }))))))))
theorem I4(t n:Int)(x:FNS)(s:MS)(K:FnO→Prop)(h:(nB t n x s).run K):cT' 94 [.ptr 0 0,.ptr 1 0] [some (.cells [.int .i64 t,.int .i64 n,.int .i64 x.pred,.int .u64 x.pw,.int .i64 x.curr,.int .u64 x.cw,.int .i64 x.tries,.slice 3 0 x.ul.length 1,.bool x.ab,.int .i64 x.me,.int .i64 x.frm,.int .i64 x.key,.int .i64 x.limit,.int .i64 3,.int .i64 x.moved,.O]),a9 2 s,bA s,some (.ints (some .i64) x.ul)] (cV 3 0 [15] [(.cell 0 7,.ints (some .i64))] (DA t n) K):=by
 exact cM' (E:=EC7) (by kernel_rfl) h
def B2(t n:Int)(x:FNS)(s:MS):Tr FnO:=.pre (lE' s.3∧P4 t n x.14 s) (.ite (gA t n x.14 s).1 (.ite (ilt x.11 (W (x.5+1))) (.pre ((t=t∧n=n)∧lE' x.6∧(ilt x.11 (W (x.5+1))=false→(0:Int)≠(4:Int))∧lE' (ClO.s (gA t n x.14 s)).3) (.ret {d:=ilt x.11 (W (x.5+1)),x:= {x with pred:=0,pw:=0,curr:=0,cw:=0,tries:=W (x.5+1),ab:=ilt x.11 (W (x.5+1)),at':=0,cl:=bU},s:= {t:=(ClO.s (gA t n x.14 s)).1,n:=(ClO.s (gA t n x.14 s)).2,xs:=(ClO.s (gA t n x.14 s)).3,c:=(ClO.s (gA t n x.14 s)).4,k:=(ClO.s (gA t n x.14 s)).5,a:=(ClO.s (gA t n x.14 s)).6,o:=(ClO.s (gA t n x.14 s)).7,w:=(ClO.s (gA t n x.14 s)).8,ok:=(ClO.s (gA t n x.14 s)).9} })) (.pre ((t=t∧n=n)∧lE' x.6∧(ilt x.11 (W (x.5+1))=false→(0:Int)≠(4:Int))∧lE' (ClO.s (gA t n x.14 s)).3) (.ret {d:=ilt x.11 (W (x.5+1)),x:= {x with tries:=W (x.5+1),ab:=ilt x.11 (W (x.5+1)),at':=0,cl:=bU},s:= {t:=(ClO.s (gA t n x.14 s)).1,n:=(ClO.s (gA t n x.14 s)).2,xs:=(ClO.s (gA t n x.14 s)).3,c:=(ClO.s (gA t n x.14 s)).4,k:=(ClO.s (gA t n x.14 s)).5,a:=(ClO.s (gA t n x.14 s)).6,o:=(ClO.s (gA t n x.14 s)).7,w:=(ClO.s (gA t n x.14 s)).8,ok:=(ClO.s (gA t n x.14 s)).9} }))) (.pre ((t=t∧n=n)∧lE' x.6∧t=t∧n=n∧(false=false→(4:Int)=(4:Int))∧lE' (ClO.s (gA t n x.14 s)).3) (.ret {d:=false,x:= {x with at':=4,cl:=(gA t n x.14 s).2},s:= {t:=(ClO.s (gA t n x.14 s)).1,n:=(ClO.s (gA t n x.14 s)).2,xs:=(ClO.s (gA t n x.14 s)).3,c:=(ClO.s (gA t n x.14 s)).4,k:=(ClO.s (gA t n x.14 s)).5,a:=(ClO.s (gA t n x.14 s)).6,o:=(ClO.s (gA t n x.14 s)).7,w:=(ClO.s (gA t n x.14 s)).8,ok:=(ClO.s (gA t n x.14 s)).9} })))
theorem I5(t n:Int)(x:FNS)(s:MS)(K:FnO→Prop)(h:(B2 t n x s).run K):cT' 94 [.ptr 0 0,.ptr 1 0] [some (.cells [.int .i64 t,.int .i64 n,.int .i64 x.pred,.int .u64 x.pw,.int .i64 x.curr,.int .u64 x.cw,.int .i64 x.tries,.slice 3 0 x.ul.length 1,.bool x.ab,.int .i64 x.me,.int .i64 x.frm,.int .i64 x.key,.int .i64 x.limit,.int .i64 4,.int .i64 x.moved,.ptr 4 0]),a9 2 s,bA s,some (.ints (some .i64) x.ul),some (.abs (.clear t n x.cl) [])] (cV 3 0 [15] [(.cell 0 7,.ints (some .i64))] (DA t n) K):=by
 exact cM' (E:=EC7) (by kernel_rfl) h
def vJ(t n:Int)(x:FNS)(s:MS):Tr FnO:=.pre True (.pre True (.pre ((0:Int)≤aA x.2 25 18∧aA x.2 25 (18:Int)≤(1000000:Int)) (.pre True (.pre ((lE' s.3∧(0:Int)≤s.4∧s.4≤(4611686018427387904:Int))∧True) (.ite (!aS s.3 x.1 x.2) (.ite (ilt x.11 (W (x.5+1))) (.pre ((t=t∧n=n)∧lE' x.6∧(ilt x.11 (W (x.5+1))=false→(0:Int)≠(4:Int))∧lE' (bif aS s.3 x.1 x.2 then aJ s.3 x.1 (bif bif aH (aA x.2 0 10) 10 then bif aH (aA x.4 10 9) 9 then bif aH (aA x.2 20 5) 5 then aH (aO (aA x.2 25 18)) 18 else false else false else false then aT (aA x.2 0 10) (aA x.4 10 9) (ieq (aA x.2 19 1) 1) (aA x.2 20 5) (aO (aA x.2 25 18))else 0)else s.3)) (.ret {d:=ilt x.11 (W (x.5+1)),x:= {x with pred:=0,pw:=0,curr:=0,cw:=0,tries:=W (x.5+1),ab:=ilt x.11 (W (x.5+1)),at':=0,cl:=bU},s:= {t:=s.1,n:=s.2,xs:=bif aS s.3 x.1 x.2 then aJ s.3 x.1 (bif bif aH (aA x.2 0 10) 10 then bif aH (aA x.4 10 9) 9 then bif aH (aA x.2 20 5) 5 then aH (aO (aA x.2 25 18)) 18 else false else false else false then aT (aA x.2 0 10) (aA x.4 10 9) (ieq (aA x.2 19 1) 1) (aA x.2 20 5) (aO (aA x.2 25 18))else 0)else s.3,c:=s.4+1,k:=3,a:=x.1,o:=aB s.3 x.1,w:=bif bL s.3 x.1 then bif bif aH (aA x.2 0 10) 10 then bif aH (aA x.4 10 9) 9 then bif aH (aA x.2 20 5) 5 then aH (aO (aA x.2 25 18)) 18 else false else false else false then aT (aA x.2 0 10) (aA x.4 10 9) (ieq (aA x.2 19 1) 1) (aA x.2 20 5) (aO (aA x.2 25 18))else 0 else 0,ok:=aS s.3 x.1 x.2} })) (.pre ((t=t∧n=n)∧lE' x.6∧(ilt x.11 (W (x.5+1))=false→(0:Int)≠(4:Int))∧lE' (bif aS s.3 x.1 x.2 then aJ s.3 x.1 (bif bif aH (aA x.2 0 10) 10 then bif aH (aA x.4 10 9) 9 then bif aH (aA x.2 20 5) 5 then aH (aO (aA x.2 25 18)) 18 else false else false else false then aT (aA x.2 0 10) (aA x.4 10 9) (ieq (aA x.2 19 1) 1) (aA x.2 20 5) (aO (aA x.2 25 18))else 0)else s.3)) (.ret {d:=ilt x.11 (W (x.5+1)),x:= {x with tries:=W (x.5+1),ab:=ilt x.11 (W (x.5+1)),at':=0,cl:=bU},s:= {t:=s.1,n:=s.2,xs:=bif aS s.3 x.1 x.2 then aJ s.3 x.1 (bif bif aH (aA x.2 0 10) 10 then bif aH (aA x.4 10 9) 9 then bif aH (aA x.2 20 5) 5 then aH (aO (aA x.2 25 18)) 18 else false else false else false then aT (aA x.2 0 10) (aA x.4 10 9) (ieq (aA x.2 19 1) 1) (aA x.2 20 5) (aO (aA x.2 25 18))else 0)else s.3,c:=s.4+1,k:=3,a:=x.1,o:=aB s.3 x.1,w:=bif bL s.3 x.1 then bif bif aH (aA x.2 0 10) 10 then bif aH (aA x.4 10 9) 9 then bif aH (aA x.2 20 5) 5 then aH (aO (aA x.2 25 18)) 18 else false else false else false then aT (aA x.2 0 10) (aA x.4 10 9) (ieq (aA x.2 19 1) 1) (aA x.2 20 5) (aO (aA x.2 25 18))else 0 else 0,ok:=aS s.3 x.1 x.2} }))) (.pre (0=0∧lE' x.6∧1=1∧List.length x.6+(1:Nat)≤(4294967296:Nat)) (.ite (ile (W (x.13+1)) n) (.pre True (.ite (ieq (aA (bif bif aH (aA x.2 0 10) 10 then bif aH (aA x.4 10 9) 9 then bif aH (aA x.2 20 5) 5 then aH (aO (aA x.2 25 18)) 18 else false else false else false then aT (aA x.2 0 10) (aA x.4 10 9) (ieq (aA x.2 19 1) 1) (aA x.2 20 5) (aO (aA x.2 25 18))else 0) 19 1) 1) (.pre ((t=t∧n=n)∧List.length x.6+(1:Nat)=List.length (x.6++ [x.3])∧(false=false→(0:Int)≠(4:Int))∧lE' (bif aS s.3 x.1 x.2 then aJ s.3 x.1 (bif bif aH (aA x.2 0 10) 10 then bif aH (aA x.4 10 9) 9 then bif aH (aA x.2 20 5) 5 then aH (aO (aA x.2 25 18)) 18 else false else false else false then aT (aA x.2 0 10) (aA x.4 10 9) (ieq (aA x.2 19 1) 1) (aA x.2 20 5) (aO (aA x.2 25 18))else 0)else s.3)) (.ret {d:=false,x:= {x with pred:=x.9,ul:=x.6++ [x.3],at':=0,moved:=0,cl:=bU},s:= {t:=s.1,n:=s.2,xs:=bif aS s.3 x.1 x.2 then aJ s.3 x.1 (bif bif aH (aA x.2 0 10) 10 then bif aH (aA x.4 10 9) 9 then bif aH (aA x.2 20 5) 5 then aH (aO (aA x.2 25 18)) 18 else false else false else false then aT (aA x.2 0 10) (aA x.4 10 9) (ieq (aA x.2 19 1) 1) (aA x.2 20 5) (aO (aA x.2 25 18))else 0)else s.3,c:=s.4+1,k:=3,a:=x.1,o:=aB s.3 x.1,w:=bif bL s.3 x.1 then bif bif aH (aA x.2 0 10) 10 then bif aH (aA x.4 10 9) 9 then bif aH (aA x.2 20 5) 5 then aH (aO (aA x.2 25 18)) 18 else false else false else false then aT (aA x.2 0 10) (aA x.4 10 9) (ieq (aA x.2 19 1) 1) (aA x.2 20 5) (aO (aA x.2 25 18))else 0 else 0,ok:=aS s.3 x.1 x.2} })) (.pre ((t=t∧n=n)∧List.length x.6+(1:Nat)=List.length (x.6++ [x.3])∧(ieq (aA (bif bif aH (aA x.2 0 10) 10 then bif aH (aA x.4 10 9) 9 then bif aH (aA x.2 20 5) 5 then aH (aO (aA x.2 25 18)) 18 else false else false else false then aT (aA x.2 0 10) (aA x.4 10 9) (ieq (aA x.2 19 1) 1) (aA x.2 20 5) (aO (aA x.2 25 18))else 0) 10 9) (0:Int)=false→(1:Int)≠(4:Int))∧lE' (bif aS s.3 x.1 x.2 then aJ s.3 x.1 (bif bif aH (aA x.2 0 10) 10 then bif aH (aA x.4 10 9) 9 then bif aH (aA x.2 20 5) 5 then aH (aO (aA x.2 25 18)) 18 else false else false else false then aT (aA x.2 0 10) (aA x.4 10 9) (ieq (aA x.2 19 1) 1) (aA x.2 20 5) (aO (aA x.2 25 18))else 0)else s.3)) (.ret {d:=ieq (aA (bif bif aH (aA x.2 0 10) 10 then bif aH (aA x.4 10 9) 9 then bif aH (aA x.2 20 5) 5 then aH (aO (aA x.2 25 18)) 18 else false else false else false then aT (aA x.2 0 10) (aA x.4 10 9) (ieq (aA x.2 19 1) 1) (aA x.2 20 5) (aO (aA x.2 25 18))else 0) 10 9) 0,x:= {x with pw:=bif bif aH (aA x.2 0 10) 10 then bif aH (aA x.4 10 9) 9 then bif aH (aA x.2 20 5) 5 then aH (aO (aA x.2 25 18)) 18 else false else false else false then aT (aA x.2 0 10) (aA x.4 10 9) (ieq (aA x.2 19 1) 1) (aA x.2 20 5) (aO (aA x.2 25 18))else 0,curr:=aA (bif bif aH (aA x.2 0 10) 10 then bif aH (aA x.4 10 9) 9 then bif aH (aA x.2 20 5) 5 then aH (aO (aA x.2 25 18)) 18 else false else false else false then aT (aA x.2 0 10) (aA x.4 10 9) (ieq (aA x.2 19 1) 1) (aA x.2 20 5) (aO (aA x.2 25 18))else 0) 10 9,cw:=0,ul:=x.6++ [x.3],at':=1,moved:=W (x.13+1),cl:=bU},s:= {t:=s.1,n:=s.2,xs:=bif aS s.3 x.1 x.2 then aJ s.3 x.1 (bif bif aH (aA x.2 0 10) 10 then bif aH (aA x.4 10 9) 9 then bif aH (aA x.2 20 5) 5 then aH (aO (aA x.2 25 18)) 18 else false else false else false then aT (aA x.2 0 10) (aA x.4 10 9) (ieq (aA x.2 19 1) 1) (aA x.2 20 5) (aO (aA x.2 25 18))else 0)else s.3,c:=s.4+1,k:=3,a:=x.1,o:=aB s.3 x.1,w:=bif bL s.3 x.1 then bif bif aH (aA x.2 0 10) 10 then bif aH (aA x.4 10 9) 9 then bif aH (aA x.2 20 5) 5 then aH (aO (aA x.2 25 18)) 18 else false else false else false then aT (aA x.2 0 10) (aA x.4 10 9) (ieq (aA x.2 19 1) 1) (aA x.2 20 5) (aO (aA x.2 25 18))else 0 else 0,ok:=aS s.3 x.1 x.2} })))) (.ite (ilt x.11 (W (x.5+1))) (.ite (ilt x.11 (W (x.5+1))) (.pre ((t=t∧n=n)∧List.length x.6+(1:Nat)=List.length (x.6++ [x.3])∧(true=false→(5:Int)≠(4:Int))∧lE' (bif aS s.3 x.1 x.2 then aJ s.3 x.1 (bif bif aH (aA x.2 0 10) 10 then bif aH (aA x.4 10 9) 9 then bif aH (aA x.2 20 5) 5 then aH (aO (aA x.2 25 18)) 18 else false else false else false then aT (aA x.2 0 10) (aA x.4 10 9) (ieq (aA x.2 19 1) 1) (aA x.2 20 5) (aO (aA x.2 25 18))else 0)else s.3)) (.ret {d:=true,x:= {x with pred:=0,pw:=0,curr:=0,cw:=0,tries:=W (x.5+1),ul:=x.6++ [x.3],ab:=ilt x.11 (W (x.5+1)),at':=5,moved:=W (x.13+1),cl:=bU},s:= {t:=s.1,n:=s.2,xs:=bif aS s.3 x.1 x.2 then aJ s.3 x.1 (bif bif aH (aA x.2 0 10) 10 then bif aH (aA x.4 10 9) 9 then bif aH (aA x.2 20 5) 5 then aH (aO (aA x.2 25 18)) 18 else false else false else false then aT (aA x.2 0 10) (aA x.4 10 9) (ieq (aA x.2 19 1) 1) (aA x.2 20 5) (aO (aA x.2 25 18))else 0)else s.3,c:=s.4+1,k:=3,a:=x.1,o:=aB s.3 x.1,w:=bif bL s.3 x.1 then bif bif aH (aA x.2 0 10) 10 then bif aH (aA x.4 10 9) 9 then bif aH (aA x.2 20 5) 5 then aH (aO (aA x.2 25 18)) 18 else false else false else false then aT (aA x.2 0 10) (aA x.4 10 9) (ieq (aA x.2 19 1) 1) (aA x.2 20 5) (aO (aA x.2 25 18))else 0 else 0,ok:=aS s.3 x.1 x.2} })) (.pre ((t=t∧n=n)∧List.length x.6+(1:Nat)=List.length (x.6++ [x.3])∧(false=false→(0:Int)≠(4:Int))∧lE' (bif aS s.3 x.1 x.2 then aJ s.3 x.1 (bif bif aH (aA x.2 0 10) 10 then bif aH (aA x.4 10 9) 9 then bif aH (aA x.2 20 5) 5 then aH (aO (aA x.2 25 18)) 18 else false else false else false then aT (aA x.2 0 10) (aA x.4 10 9) (ieq (aA x.2 19 1) 1) (aA x.2 20 5) (aO (aA x.2 25 18))else 0)else s.3)) (.ret {d:=false,x:= {x with pred:=x.9,pw:=0,curr:=0,cw:=0,tries:=W (x.5+1),ul:=x.6++ [x.3],ab:=ilt x.11 (W (x.5+1)),at':=0,moved:=0,cl:=bU},s:= {t:=s.1,n:=s.2,xs:=bif aS s.3 x.1 x.2 then aJ s.3 x.1 (bif bif aH (aA x.2 0 10) 10 then bif aH (aA x.4 10 9) 9 then bif aH (aA x.2 20 5) 5 then aH (aO (aA x.2 25 18)) 18 else false else false else false then aT (aA x.2 0 10) (aA x.4 10 9) (ieq (aA x.2 19 1) 1) (aA x.2 20 5) (aO (aA x.2 25 18))else 0)else s.3,c:=s.4+1,k:=3,a:=x.1,o:=aB s.3 x.1,w:=bif bL s.3 x.1 then bif bif aH (aA x.2 0 10) 10 then bif aH (aA x.4 10 9) 9 then bif aH (aA x.2 20 5) 5 then aH (aO (aA x.2 25 18)) 18 else false else false else false then aT (aA x.2 0 10) (aA x.4 10 9) (ieq (aA x.2 19 1) 1) (aA x.2 20 5) (aO (aA x.2 25 18))else 0 else 0,ok:=aS s.3 x.1 x.2} }))) (.ite (ilt x.11 (W (x.5+1))) (.pre ((t=t∧n=n)∧List.length x.6+(1:Nat)=List.length (x.6++ [x.3])∧(true=false→(5:Int)≠(4:Int))∧lE' (bif aS s.3 x.1 x.2 then aJ s.3 x.1 (bif bif aH (aA x.2 0 10) 10 then bif aH (aA x.4 10 9) 9 then bif aH (aA x.2 20 5) 5 then aH (aO (aA x.2 25 18)) 18 else false else false else false then aT (aA x.2 0 10) (aA x.4 10 9) (ieq (aA x.2 19 1) 1) (aA x.2 20 5) (aO (aA x.2 25 18))else 0)else s.3)) (.ret {d:=true,x:= {x with tries:=W (x.5+1),ul:=x.6++ [x.3],ab:=ilt x.11 (W (x.5+1)),at':=5,moved:=W (x.13+1),cl:=bU},s:= {t:=s.1,n:=s.2,xs:=bif aS s.3 x.1 x.2 then aJ s.3 x.1 (bif bif aH (aA x.2 0 10) 10 then bif aH (aA x.4 10 9) 9 then bif aH (aA x.2 20 5) 5 then aH (aO (aA x.2 25 18)) 18 else false else false else false then aT (aA x.2 0 10) (aA x.4 10 9) (ieq (aA x.2 19 1) 1) (aA x.2 20 5) (aO (aA x.2 25 18))else 0)else s.3,c:=s.4+1,k:=3,a:=x.1,o:=aB s.3 x.1,w:=bif bL s.3 x.1 then bif bif aH (aA x.2 0 10) 10 then bif aH (aA x.4 10 9) 9 then bif aH (aA x.2 20 5) 5 then aH (aO (aA x.2 25 18)) 18 else false else false else false then aT (aA x.2 0 10) (aA x.4 10 9) (ieq (aA x.2 19 1) 1) (aA x.2 20 5) (aO (aA x.2 25 18))else 0 else 0,ok:=aS s.3 x.1 x.2} })) (.pre ((t=t∧n=n)∧List.length x.6+(1:Nat)=List.length (x.6++ [x.3])∧(false=false→(0:Int)≠(4:Int))∧lE' (bif aS s.3 x.1 x.2 then aJ s.3 x.1 (bif bif aH (aA x.2 0 10) 10 then bif aH (aA x.4 10 9) 9 then bif aH (aA x.2 20 5) 5 then aH (aO (aA x.2 25 18)) 18 else false else false else false then aT (aA x.2 0 10) (aA x.4 10 9) (ieq (aA x.2 19 1) 1) (aA x.2 20 5) (aO (aA x.2 25 18))else 0)else s.3)) (.ret {d:=false,x:= {x with pred:=x.9,tries:=W (x.5+1),ul:=x.6++ [x.3],ab:=ilt x.11 (W (x.5+1)),at':=0,moved:=0,cl:=bU},s:= {t:=s.1,n:=s.2,xs:=bif aS s.3 x.1 x.2 then aJ s.3 x.1 (bif bif aH (aA x.2 0 10) 10 then bif aH (aA x.4 10 9) 9 then bif aH (aA x.2 20 5) 5 then aH (aO (aA x.2 25 18)) 18 else false else false else false then aT (aA x.2 0 10) (aA x.4 10 9) (ieq (aA x.2 19 1) 1) (aA x.2 20 5) (aO (aA x.2 25 18))else 0)else s.3,c:=s.4+1,k:=3,a:=x.1,o:=aB s.3 x.1,w:=bif bL s.3 x.1 then bif bif aH (aA x.2 0 10) 10 then bif aH (aA x.4 10 9) 9 then bif aH (aA x.2 20 5) 5 then aH (aO (aA x.2 25 18)) 18 else false else false else false then aT (aA x.2 0 10) (aA x.4 10 9) (ieq (aA x.2 19 1) 1) (aA x.2 20 5) (aO (aA x.2 25 18))else 0 else 0,ok:=aS s.3 x.1 x.2} })))))))))))
theorem I6(t n:Int)(x:FNS)(s:MS)(K:FnO→Prop)(h:(vJ t n x s).run K):cT' 94 [.ptr 0 0,.ptr 1 0] [some (.cells [.int .i64 t,.int .i64 n,.int .i64 x.pred,.int .u64 x.pw,.int .i64 x.curr,.int .u64 x.cw,.int .i64 x.tries,.slice 3 0 x.ul.length 1,.bool x.ab,.int .i64 x.me,.int .i64 x.frm,.int .i64 x.key,.int .i64 x.limit,.int .i64 5,.int .i64 x.moved,.O]),a9 2 s,bA s,some (.ints (some .i64) x.ul)] (cV 3 0 [15] [(.cell 0 7,.ints (some .i64))] (DA t n) K):=by
 exact cM' (E:=EC7) (by kernel_rfl) h
def vK(t n:Int)(x:FNS)(s:MS):Tr FnO:=.pre ((((0:Int)≤t∧t≤(100000:Int))∧((0:Int)≤n∧n≤(100000:Int))∧((-1099511627776:Int)≤x.8∧x.8≤(1099511627776:Int))∧(-1099511627776:Int)≤(0:Int)∧(0:Int)≤(1099511627776:Int))∧True) (.pre ((lE' s.3∧(0:Int)≤s.4∧s.4≤(4611686018427387904:Int))∧True) (.ite (ile (W (x.13+1)) n) (.pre ((t=t∧n=n)∧lE' x.6∧(false=false→(0:Int)≠(4:Int))∧lE' (aJ s.3 (2*n+5+2*x.8+0) (WU x.3))) (.ret {d:=false,x:= {x with pred:=x.3,at':=0,moved:=W (x.13+1),cl:=bU},s:= {t:=s.1,n:=s.2,xs:=aJ s.3 (2*n+5+2*x.8+0) (WU x.3),c:=s.4+1,k:=2,a:=2*n+5+2*x.8+0,o:=aB s.3 (2*n+5+2*x.8+0),w:=bif bL s.3 (2*n+5+2*x.8+0)then WU x.3 else 0,ok:=bL s.3 (2*n+5+2*x.8+0) } })) (.ite (ilt x.11 (W (x.5+1))) (.ite (ilt x.11 (W (x.5+1))) (.pre ((t=t∧n=n)∧lE' x.6∧(true=false→(0:Int)≠(4:Int))∧lE' (aJ s.3 (2*n+5+2*x.8+0) (WU x.3))) (.ret {d:=true,x:= {x with pred:=0,pw:=0,curr:=0,cw:=0,tries:=W (x.5+1),ab:=ilt x.11 (W (x.5+1)),at':=0,moved:=W (x.13+1),cl:=bU},s:= {t:=s.1,n:=s.2,xs:=aJ s.3 (2*n+5+2*x.8+0) (WU x.3),c:=s.4+1,k:=2,a:=2*n+5+2*x.8+0,o:=aB s.3 (2*n+5+2*x.8+0),w:=bif bL s.3 (2*n+5+2*x.8+0)then WU x.3 else 0,ok:=bL s.3 (2*n+5+2*x.8+0) } })) (.pre ((t=t∧n=n)∧lE' x.6∧(false=false→(0:Int)≠(4:Int))∧lE' (aJ s.3 (2*n+5+2*x.8+0) (WU x.3))) (.ret {d:=false,x:= {x with pred:=x.9,pw:=0,curr:=0,cw:=0,tries:=W (x.5+1),ab:=ilt x.11 (W (x.5+1)),at':=0,moved:=0,cl:=bU},s:= {t:=s.1,n:=s.2,xs:=aJ s.3 (2*n+5+2*x.8+0) (WU x.3),c:=s.4+1,k:=2,a:=2*n+5+2*x.8+0,o:=aB s.3 (2*n+5+2*x.8+0),w:=bif bL s.3 (2*n+5+2*x.8+0)then WU x.3 else 0,ok:=bL s.3 (2*n+5+2*x.8+0) } }))) (.ite (ilt x.11 (W (x.5+1))) (.pre ((t=t∧n=n)∧lE' x.6∧(true=false→(0:Int)≠(4:Int))∧lE' (aJ s.3 (2*n+5+2*x.8+0) (WU x.3))) (.ret {d:=true,x:= {x with pred:=x.3,tries:=W (x.5+1),ab:=ilt x.11 (W (x.5+1)),at':=0,moved:=W (x.13+1),cl:=bU},s:= {t:=s.1,n:=s.2,xs:=aJ s.3 (2*n+5+2*x.8+0) (WU x.3),c:=s.4+1,k:=2,a:=2*n+5+2*x.8+0,o:=aB s.3 (2*n+5+2*x.8+0),w:=bif bL s.3 (2*n+5+2*x.8+0)then WU x.3 else 0,ok:=bL s.3 (2*n+5+2*x.8+0) } })) (.pre ((t=t∧n=n)∧lE' x.6∧(false=false→(0:Int)≠(4:Int))∧lE' (aJ s.3 (2*n+5+2*x.8+0) (WU x.3))) (.ret {d:=false,x:= {x with pred:=x.9,tries:=W (x.5+1),ab:=ilt x.11 (W (x.5+1)),at':=0,moved:=0,cl:=bU},s:= {t:=s.1,n:=s.2,xs:=aJ s.3 (2*n+5+2*x.8+0) (WU x.3),c:=s.4+1,k:=2,a:=2*n+5+2*x.8+0,o:=aB s.3 (2*n+5+2*x.8+0),w:=bif bL s.3 (2*n+5+2*x.8+0)then WU x.3 else 0,ok:=bL s.3 (2*n+5+2*x.8+0) } }))))))
theorem I7(t n:Int)(x:FNS)(s:MS)(K:FnO→Prop)(h:(vK t n x s).run K):cT' 94 [.ptr 0 0,.ptr 1 0] [some (.cells [.int .i64 t,.int .i64 n,.int .i64 x.pred,.int .u64 x.pw,.int .i64 x.curr,.int .u64 x.cw,.int .i64 x.tries,.slice 3 0 x.ul.length 1,.bool x.ab,.int .i64 x.me,.int .i64 x.frm,.int .i64 x.key,.int .i64 x.limit,.int .i64 6,.int .i64 x.moved,.O]),a9 2 s,bA s,some (.ints (some .i64) x.ul)] (cV 3 0 [15] [(.cell 0 7,.ints (some .i64))] (DA t n) K):=by
 exact cM' (E:=EC7) (by kernel_rfl) h
def G3(t n:Int)(x:FNS)(s:MS):Tr FnO:=
 bif ieq x.at' 0 then vH t n x s else
 bif ieq x.at' 1 then xX t n x s else
 bif ieq x.at' 2 then vI t n x s else
 bif ieq x.at' 3 then nB t n x s else
 bif ieq x.at' 4 then B2 t n x s else
 bif ieq x.at' 5 then vJ t n x s else
 bif ieq x.at' 6 then vK t n x s else .pre False (.ret default)
def fnF(t n:Int)(x:FNS)(s:MS):FnO:=(G3 t n x s).val
def VT(t n:Int)(x:FNS)(s:MS):Prop:=(G3 t n x s).ok
theorem Q8(t n:Int)(x:FNS)(s:MS)(K:AVal→aD Ob→Prop)(h:(G3 t n x s).run (fun y=>(FnO.fin t n y).run K)):cT' 94 [.ptr 0 0,.ptr 1 0] (Z1 t n x s) K:=by
 unfold G3 at h
 by_cases e:x.at'=0
 ·rw [e]at h
  have h:(vH t n x s).run _:=h
  refine aBt (root:=0) (pos:=[15]) (cs:=[(.cell 0 7,.ints (some .i64))]) (parse:=DA t n) (fin:=FnO.fin t n) pJ (b8.unpack (.find t n x) 0 0 (kV t n x) [] rfl (congrArg (Prod.mk 0) (iI (by omega))) (by kernel_rfl) rfl) ?_
  have q:=I1 t n x s _ h
  rw [←e]at q
  exact q
 rw [cY e]at h
 by_cases e:x.at'=1
 ·rw [e]at h
  have h:(xX t n x s).run _:=h
  refine aBt (root:=0) (pos:=[15]) (cs:=[(.cell 0 7,.ints (some .i64))]) (parse:=DA t n) (fin:=FnO.fin t n) pJ (b8.unpack (.find t n x) 0 0 (kV t n x) [] rfl (congrArg (Prod.mk 0) (iI (by omega))) (by kernel_rfl) rfl) ?_
  have q:=I2 t n x s _ h
  rw [←e]at q
  exact q
 rw [cY e]at h
 by_cases e:x.at'=2
 ·rw [e]at h
  have h:(vI t n x s).run _:=h
  refine aBt (root:=0) (pos:=[15]) (cs:=[(.cell 0 7,.ints (some .i64))]) (parse:=DA t n) (fin:=FnO.fin t n) pJ (b8.unpack (.find t n x) 0 0 (kV t n x) [] rfl (congrArg (Prod.mk 0) (iI (by omega))) (by kernel_rfl) rfl) ?_
  have q:=I3 t n x s _ h
  rw [←e]at q
  exact q
 rw [cY e]at h
 by_cases e:x.at'=3
 ·rw [e]at h
  have h:(nB t n x s).run _:=h
  refine aBt (root:=0) (pos:=[15]) (cs:=[(.cell 0 7,.ints (some .i64))]) (parse:=DA t n) (fin:=FnO.fin t n) pJ (b8.unpack (.find t n x) 0 0 (kV t n x) [] rfl (congrArg (Prod.mk 0) (iI (by omega))) (by kernel_rfl) rfl) ?_
  have q:=I4 t n x s _ h
  rw [←e]at q
  exact q
 rw [cY e]at h
 by_cases e:x.at'=4
 ·rw [e]at h
  have h:(B2 t n x s).run _:=h
  refine aBt (root:=0) (pos:=[15]) (cs:=[(.cell 0 7,.ints (some .i64))]) (parse:=DA t n) (fin:=FnO.fin t n) pJ (b8.unpack (.find t n x) 0 0 (qF t n x) [] rfl (congrArg (Prod.mk 0) (G0 e)) (by kernel_rfl) rfl) ?_
  have q:=I5 t n x s _ h
  rw [←e]at q
  exact q
 rw [cY e]at h
 by_cases e:x.at'=5
 ·rw [e]at h
  have h:(vJ t n x s).run _:=h
  refine aBt (root:=0) (pos:=[15]) (cs:=[(.cell 0 7,.ints (some .i64))]) (parse:=DA t n) (fin:=FnO.fin t n) pJ (b8.unpack (.find t n x) 0 0 (kV t n x) [] rfl (congrArg (Prod.mk 0) (iI (by omega))) (by kernel_rfl) rfl) ?_
  have q:=I6 t n x s _ h
  rw [←e]at q
  exact q
 rw [cY e]at h
 by_cases e:x.at'=6
 ·rw [e]at h
  have h:(vK t n x s).run _:=h
  refine aBt (root:=0) (pos:=[15]) (cs:=[(.cell 0 7,.ints (some .i64))]) (parse:=DA t n) (fin:=FnO.fin t n) pJ (b8.unpack (.find t n x) 0 0 (kV t n x) [] rfl (congrArg (Prod.mk 0) (iI (by omega))) (by kernel_rfl) rfl) ?_
  have q:=I7 t n x s _ h
  rw [←e]at q
  exact q
 rw [cY e]at h
 exact h.1.elim
noncomputable def fnS:aM Ob:=fun args h=>match args,h with
 | [.ptr 0 0,.ptr 1 0],[some (.abs (.find t n x) []),e1,e2]=>(match fD 2 [e1,e2]with
   | some (l,s)=>some (.pre (l=s.xs.length∧VT t n x s) (FnO.fin t n (fnF t n x s)))
   | none=>none)
 | _,_=>none
theorem Y0:sT' 94 fnS:=by
 intro args h o ho K hK
 unfold fnS at ho
 split at ho
 case h_2=>cases ho
 split at ho<;>cases ho
 rename_i hm
 obtain⟨⟨hl,ok⟩,hK⟩:=hK
 have hh:=cC hm hl
 cases hh
 exact Q8 _ _ _ _ K (aBD ok hK)
def VQ(t n:Int)(v:AVal)(g:aD Ob):Option (Prop×FNS):=match v,g with
 | .ptr 0 0,[some (.cells [.int .i64 t1,.int .i64 n1,.int .i64 pred,.int .u64 pw,.int .i64 curr,.int .u64 cw,.int .i64 tries,.slice 1 0 ul_l 1,.bool ab,.int .i64 me,.int .i64 frm,.int .i64 key,.int .i64 limit,.int .i64 at',.int .i64 moved,.O]),some (.ints (some .i64) ul)]=>some ((t1=t∧n1=n)∧ul_l=ul.length∧(at'≠4),(⟨pred,pw,curr,cw,tries,ul,ab,me,frm,key,limit,at',moved,⟨0,0,0,0⟩⟩:FNS))
 | _,_=>none
abbrev Q0(t n:Int)(y:FNS):aD Ob:=[some (.abs (.find t n y) [])]
theorem Q1{t n:Int} :dI (obI tbl) 0 (VQ t n) (fun y=>.ret (.ptr 0 0) (Q0 t n y)):=by
 intro v g p x hp hq K hK
 unfold VQ at hp
 split at hp
 case h_2=>cases hp
 rename_i t1 n1 pred pw curr cw tries ul_l ab me frm key limit at' moved ul
 simp only [sI',pI']at hp
 obtain⟨rfl,rfl⟩:=hp
 obtain⟨⟨rfl,rfl⟩,rfl,hat⟩:=hq
 exact⟨⟨_,_,aQ.pack (Q0 t1 n1 (⟨pred,pw,curr,cw,tries,ul,ab,me,frm,key,limit,at',moved,⟨0,0,0,0⟩⟩:FNS)) (.find t1 n1 (⟨pred,pw,curr,cw,tries,ul,ab,me,frm,key,limit,at',moved,⟨0,0,0,0⟩⟩:FNS)) 0 0 (kV t1 n1 (⟨pred,pw,curr,cw,tries,ul,ab,me,frm,key,limit,at',moved,⟨0,0,0,0⟩⟩:FNS)) [] (by kernel_rfl) rfl (congrArg (Prod.mk 0) (iI hat)) (by kernel_rfl),hK⟩⟩
def MR(t n:Int)(me hd key lim:Int):Tr FNS:=.pre (((0:Int)≤n∧n≤(100000:Int))∧(-1000000:Int)≤hd∧hd≤(1000000:Int)) (.pre (((0:Int)≤n∧n≤(100000:Int))∧(-1000000:Int)≤hd∧hd≤(1000000:Int)) (.pre ((t=t∧n=n)∧0=0∧(0:Int)≠(4:Int)) (.ret {pred:=n+1+hd,pw:=0,curr:=0,cw:=0,tries:=0,ul:=[],ab:=false,me:=me,frm:=n+1+hd,key:=key,limit:=lim,at':=0,moved:=0,cl:=bU})))
def qI(t n:Int)(me hd key lim:Int):FNS:=(MR t n me hd key lim).val
def B0(t n:Int)(me hd key lim:Int):Prop:=(MR t n me hd key lim).ok
def fnNS:aM Ob:=fun args h=>match args,h with
 | [.agg [.int .i64 t,.int .i64 n],.int .i64 me,.int .i64 hd,.int .i64 key,.int .i64 lim],[]=>some (.pre (B0 t n me hd key lim) (.ret (.ptr 0 0) (Q0 t n (qI t n me hd key lim))))
 | _,_=>none
theorem VR:sT' 132 fnNS:=by
 intro args h o ho K hK
 unfold fnNS at ho
 split at ho<;>cases ho
 rename_i t n me hd key lim
 obtain⟨ok,hK⟩:=hK
 refine aBF (root:=0) (pos:=[15]) (cs:=[(.cell 0 7,.ints (some .i64))]) (parse:=VQ t n) Q1 ?_
 exact cM' (E:=EC7) (q:=(MR t n me hd key lim).run (fun y=>(Out.ret (.ptr 0 0) (Q0 t n y)).run K)) (by kernel_rfl) (aBD ok hK)
noncomputable def EF:=((EC7.addS 94 fnS Y0).addS 132 fnNS VR)
def retC:aM Ob:=fun args h=>match args,h with
 | [.ptr 0 0,.slice 2 0 k 1],[e1,e2,some (.cells [.int .i64 p])]=>(match uH 1 [e1,e2]with
   | some (l,t,n,st)=>some (.pre (l=st.R.length∧k=1∧st.R.length+1≤4294967296) (.ret (.tup []) [some (.cells [.int .i64 t,.int .i64 n,.int .i64 st.me,.int .i64 st.sp,.slice 3 0 (st.R.length+1) 1]),none,some (.cells [.int .i64 p]),some (.ints (some .i64) (st.R++ [p]))]))
   | none=>none)
 | _,_=>none
theorem SF:sT' 71 retC:=by
 intro args h o ho K hK
 unfold retC at ho
 split at ho
 case h_2=>cases ho
 rename_i k e1 e2 p
 split at ho<;>cases ho
 rename_i l t n st hs
 obtain⟨⟨hl,rfl,hle⟩,hK⟩:=hK
 have hh:=dX hs hl
 cases hh
 refine aBs (cM' (E:=EF) (q:=(0=0∧lE' st.3∧1=1∧List.length st.3+(1:Nat)≤(4294967296:Nat))∧K (.tup []) [some (.cells [.int .i64 t,.int .i64 n,.int .i64 st.1,.int .i64 st.2,.slice 3 0 (List.length st.3+1) 1]),none,some (.cells [.int .i64 p]),some (.ints (some .i64) (st.3++ [p]))]) (by kernel_rfl) ?_)
 exact⟨⟨rfl,rfl,rfl,hle⟩,hK⟩
def retI:aM Ob:=fun args h=>match args,h with
 | [.ptr 0 0,.slice 2 0 k 1],[e1,e2,some (.ints (some .i64) xs)]=>(match uH 1 [e1,e2]with
   | some (l,t,n,st)=>some (.pre (l=st.R.length∧k=xs.length∧st.R.length+xs.length≤4294967296) (.ret (.tup []) [some (.cells [.int .i64 t,.int .i64 n,.int .i64 st.me,.int .i64 st.sp,.slice 3 0 (st.R.length+xs.length) 1]),none,some (.ints (some .i64) xs),some (.ints (some .i64) (st.R++xs))]))
   | none=>none)
 | _,_=>none
theorem SG:sT' 71 retI:=by
 intro args h o ho K hK
 unfold retI at ho
 split at ho
 case h_2=>cases ho
 rename_i k e1 e2 xs
 split at ho<;>cases ho
 rename_i l t n st hs
 obtain⟨⟨hl,rfl,hle⟩,hK⟩:=hK
 have hh:=dX hs hl
 cases hh
 refine aBs (cM' (E:=EF) (q:=(0+List.length xs≤List.length xs∧0=0∧lE' st.3∧1=1∧List.length st.3+List.length xs≤(4294967296:Nat))∧K (.tup []) [some (.cells [.int .i64 t,.int .i64 n,.int .i64 st.1,.int .i64 st.2,.slice 3 0 (List.length st.3+List.length xs) 1]),none,some (.ints (some .i64) xs),some (.ints (some .i64) (st.3++List.take (List.length xs) (List.drop 0 xs)))]) (by kernel_rfl) ?_)
 refine⟨⟨by omega,rfl,rfl,rfl,hle⟩,?_⟩
 rw [List.drop_zero,List.take_length]
 exact hK
noncomputable def retS:aM Ob:=aM.or retC retI
theorem XK:sT' 71 retS:=aBK SF SG
noncomputable def ER:=EF.addS 71 retS XK
structure FtO where
 d:Bool
 x:FTS
 st:STS
 s:MS
instance:Inhabited FtO:=⟨⟨false,YN,⟨0,0,[]⟩,⟨0,0,[],0,0,0,0,0,false⟩⟩⟩
instance:Inhabited FTS:=⟨YN⟩
abbrev ftH(t n:Int)(x:FTS)(st:STS)(s:MS):aD Ob:=[some (.abs (.fast t n x) [1]),some (.abs (.store t n st) []),a9 3 s,bA s]
abbrev ftD(t n:Int)(x:FTS)(st:STS)(s:MS):aD Ob:=[some (.cells [.ptr 1 0,.int .i64 x.code,.bool x.okk,.int .i64 x.val,.bool x.failed,.int .i64 x.tries,.int .i64 x.sh,.int .i64 x.kd,.int .i64 x.ky,.int .i64 x.most,.int .i64 x.at',.bool x.p.now,.int .i64 x.p.code,.bool x.p.okk,.int .i64 x.p.val,.int .i64 x.p.addr,.int .u64 x.p.old,.int .i64 x.p.nxt,.bool x.p.mark,.int .i64 x.p.pops,.O,.O,.O]),some (.abs (.store t n st) []),a9 3 s,bA s]
def FtO.fin(t n:Int)(y:FtO):Out Ob:=.ite y.d (.ret (.bool true) (ftD t n y.x y.st y.s)) (.ret (.bool false) (ftH t n y.x y.st y.s))
def FtO.finB(t n:Int)(y:FtO):Out Ob:=.ite y.d (.ret (.bool true) ([some (.cells [.ptr 1 0,.int .i64 y.x.code,.bool y.x.okk,.int .i64 y.x.val,.bool y.x.failed,.int .i64 y.x.tries,.int .i64 y.x.sh,.int .i64 y.x.kd,.int .i64 y.x.ky,.int .i64 y.x.most,.int .i64 y.x.at',.bool y.x.p.now,.int .i64 y.x.p.code,.bool y.x.p.okk,.int .i64 y.x.p.val,.int .i64 y.x.p.addr,.int .u64 y.x.p.old,.int .i64 y.x.p.nxt,.bool y.x.p.mark,.int .i64 y.x.p.pops,.O,.O,.O]),stC 5 t n y.st,none,a9 4 y.s,bA y.s,mG y.st])) (.ret (.bool false) [some (.abs (.fast t n y.x) [1]),stC 5 t n y.st,none,a9 4 y.s,bA y.s,mG y.st])
noncomputable def ET:=((ER))
def EJ:bZ Ob:=fun args h=>match args,h with
 | [.ptr 0 0],[some (.cells [.ptr 1 0,.int .i64 u,.int .u64 no,.int .i64 rounds,.int .i64 limit,.int .i64 at',.int .u64 found,.int .i64 sh,.int .i64 kd,.int .i64 ky,.bool p_now,.int .i64 p_code,.bool p_okk,.int .i64 p_val,.int .i64 p_addr,.int .u64 p_old,.int .i64 p_nxt,.bool p_mark,.int .i64 p_pops,.O,.O,.O,.O,.O]),some (.cells [.int .i64 t,.int .i64 n,.int .i64 me,.int .i64 sp,.slice 2 0 k 1]),some (.ints (some .i64) R)]=>some (True,.agg [.int .i64 (aA found 0 12),.int .i64 (aA found 12 9),.int .i64 (aA found 21 18),.int .i64 (aA found 39 9),.bool (ieq (aA found 48 1) 1),.int .i64 (aA found 49 3),.int .i64 (aA found 52 10)])
 | _,_=>none
theorem NA:sT' 108 EJ.spec:=by
 intro args h o ho K hK
 unfold bZ.spec EJ at ho
 split at ho
 case h_2=>cases ho
 rename_i p v hp
 split at hp
 case h_2=>cases hp
 rename_i u no rounds limit at' found sh kd ky p_now p_code p_okk p_val p_addr p_old p_nxt p_mark p_pops t n me sp k R
 simp only [sI',pI']at hp
 obtain⟨rfl,rfl⟩:=hp
 simp only [sI']at ho;subst ho
 obtain⟨hp,hK⟩:=hK
 have hK:K (.agg [.int .i64 (aA found 0 12),.int .i64 (aA found 12 9),.int .i64 (aA found 21 18),.int .i64 (aA found 39 9),.bool (ieq (aA found 48 1) 1),.int .i64 (aA found 49 3),.int .i64 (aA found 52 10)]) [some (.cells [.ptr 1 0,.int .i64 u,.int .u64 no,.int .i64 rounds,.int .i64 limit,.int .i64 at',.int .u64 found,.int .i64 sh,.int .i64 kd,.int .i64 ky,.bool p_now,.int .i64 p_code,.bool p_okk,.int .i64 p_val,.int .i64 p_addr,.int .u64 p_old,.int .i64 p_nxt,.bool p_mark,.int .i64 p_pops,.O,.O,.O,.O,.O]),some (.cells [.int .i64 t,.int .i64 n,.int .i64 me,.int .i64 sp,.slice 2 0 k 1]),some (.ints (some .i64) R)]:=hK
 refine aBs (cM' (E:=ET) (q:=True∧K (.agg [.int .i64 (aA found 0 12),.int .i64 (aA found 12 9),.int .i64 (aA found 21 18),.int .i64 (aA found 39 9),.bool (ieq (aA found 48 1) 1),.int .i64 (aA found 49 3),.int .i64 (aA found 52 10)]) [some (.cells [.ptr 1 0,.int .i64 u,.int .u64 no,.int .i64 rounds,.int .i64 limit,.int .i64 at',.int .u64 found,.int .i64 sh,.int .i64 kd,.int .i64 ky,.bool p_now,.int .i64 p_code,.bool p_okk,.int .i64 p_val,.int .i64 p_addr,.int .u64 p_old,.int .i64 p_nxt,.bool p_mark,.int .i64 p_pops,.O,.O,.O,.O,.O]),some (.cells [.int .i64 t,.int .i64 n,.int .i64 me,.int .i64 sp,.slice 2 0 k 1]),some (.ints (some .i64) R)]) (by kernel_rfl) ?_)
 exact⟨trivial,hK⟩
noncomputable def EH0:=ET.addR 108 EJ NA
end Go.Sh
