import Derived.Test.YtedeloeobocpiaaGreatZM36toGC3
set_option linter.all false
set_option maxHeartbeats 8000000
namespace Go.Sh
open Go Go.Proofs
variable [Con]
structure AnO where
 d:Bool
 x:ANS
 s:MS
instance:Inhabited AnO:=⟨⟨false,⟨0,0,0,0,false,0⟩,⟨0,0,[],0,0,0,0,0,false⟩⟩⟩
instance:Inhabited ANS:=⟨⟨0,0,0,0,false,0⟩⟩
abbrev anH(t n:Int)(x:ANS)(s:MS):aD Ob:=[some (.abs (.announce t n x) []),aY 2 s,aZ s]
abbrev anD(t n:Int)(x:ANS)(s:MS):aD Ob:=[cE' [.I t,.I n,.int .u64 x.no,.I x.me,.I x.at',.int .u64 x.bits,.bool x.wrong,.int .u64 x.found],aY 2 s,aZ s]
def AnO.fin(t n:Int)(y:AnO):Out Ob:=.ite y.d (.ret (.bool true) (anD t n y.x y.s)) (.ret (.bool false) (anH t n y.x y.s))
def aAb(t n:Int)(v:AVal)(g:aD Ob):Option (Prop×AnO):=match v,g with
 | .bool d,[some (.cells [.int .i64 t1,.int .i64 n1,.int .u64 no,.int .i64 me,.int .i64 at',.int .u64 bits,.bool wrong,.int .u64 found]),e1,e2]=>(match cU 2 [e1,e2]with
   | some (l,s)=>some ((t1=t∧n1=n)∧l=s.xs.length,⟨d,⟨no,me,at',bits,wrong,found⟩,s⟩)
   | none=>none)
 | _,_=>none
def OY(t n:Int)(v:AVal)(g:aD Ob):Option (Prop×AnO):=aAb t n v g
theorem T7{t n:Int} :cE (obI tbl) 3 (aAb t n) (AnO.fin t n):=by
 intro v g p x hp hq K hK;unfold aAb at hp;split at hp
 case h_2=>cases hp
 rename_i d t1 n1 no me at' bits wrong found e1 e2;split at hp
 case h_2=>cases hp
 rename_i l s hm;simp only [sI',pI']at hp;obtain⟨rfl,rfl⟩:=hp;obtain⟨⟨rfl,rfl⟩,hl⟩:=hq;have hh:=bB hm hl;cases hh;refine sJ hK (fun h=>?_) (fun h=>?_)
 ·exact⟨⟨_,_,aF.refl _ _ _,h⟩⟩
 ·exact⟨⟨_,_,(aF.pack (anH t1 n1 (⟨no,me,at',bits,wrong,found⟩:ANS) s) (.announce t1 n1 (⟨no,me,at',bits,wrong,found⟩:ANS)) 0 0 (eX t1 n1 (⟨no,me,at',bits,wrong,found⟩:ANS)) [] (by kernel_rfl) rfl (congrArg (Prod.mk 0) rfl) (by kernel_rfl)),h⟩⟩
theorem vT{t n:Int} :cE (obI tbl) 3 (OY t n) (AnO.fin t n):=by
 intro v g p x hp hq K hK;unfold OY at hp;exact T7 v g p x hp hq K hK
abbrev w0a(n t:Int)(x:ANS):=(((0:Int)≤t∧t≤(100000:Int))∧((0:Int)≤n∧n≤(100000:Int))∧(-1099511627776:Int)≤x.2∧x.2≤(1099511627776:Int))∧True
def CH(t n:Int)(x:ANS)(s:MS):Tr AnO:=.ite x.5 (.pre (lE' s.3∧(0:Int)≤s.4∧s.4≤(4611686018427387904:Int)) (.pre ((t=t∧n=n)∧lE' s.3) (.ret {d:=true,x:= {x with at':=0},s:= {s with c:=s.4+1,k:=1,a:=0,o:=aB s.3 0,w:=aB s.3 0,ok:=bS s.3 0} }))) (.pre (w0a n t x) (.pre ((lE' s.3∧(0:Int)≤s.4∧s.4≤(4611686018427387904:Int))∧True) (.pre ((t=t∧n=n)∧lE' (aS s.3 (2*n+5+2*t+3*x.2+1) x.4)) (.ret {d:=false,x:= {x with at':=W (0+1)},s:= {t:=s.1,n:=s.2,xs:=aS s.3 (2*n+5+2*t+3*x.2+1) x.4,c:=s.4+1,k:=2,a:=2*n+5+2*t+3*x.2+1,o:=aB s.3 (2*n+5+2*t+3*x.2+1),w:=bif bS s.3 (2*n+5+2*t+3*x.2+1)then x.4 else 0,ok:=bS s.3 (2*n+5+2*t+3*x.2+1) } }))))
theorem K5(t n:Int)(x:ANS)(s:MS)(K:AnO→Prop)(h:(CH t n x s).run K):cT' 190 [.ptr 0 0,.ptr 1 0] [cE' [.I t,.I n,.int .u64 x.no,.I x.me,.I 0,.int .u64 x.bits,.bool x.wrong,.int .u64 x.found],aY 2 s,aZ s] (cF 3 0 [] [] (OY t n) K):=by
 exact cM' (E:=EC3) (by kernel_rfl) h
def CI(t n:Int)(x:ANS)(s:MS):Tr AnO:=.ite x.5 (.pre (lE' s.3∧(0:Int)≤s.4∧s.4≤(4611686018427387904:Int)) (.pre ((t=t∧n=n)∧lE' s.3) (.ret {d:=true,x:= {x with at':=1},s:= {s with c:=s.4+1,k:=1,a:=0,o:=aB s.3 0,w:=aB s.3 0,ok:=bS s.3 0} }))) (.pre (((0:Int)≤t∧t≤(100000:Int))∧(0:Int)≤n∧n≤(100000:Int)) (.pre (lE' s.3∧(0:Int)≤s.4∧s.4≤(4611686018427387904:Int)) (.pre ((t=t∧n=n)∧lE' (aS s.3 (2*n+5+2*t+3*t) (WU (aB s.3 (2*n+5+2*t+3*t)+1)))) (.ret {d:=false,x:= {x with no:=WU (aB s.3 (2*n+5+2*t+3*t)+1),at':=W (1+1)},s:= {t:=s.1,n:=s.2,xs:=aS s.3 (2*n+5+2*t+3*t) (WU (aB s.3 (2*n+5+2*t+3*t)+1)),c:=s.4+1,k:=4,a:=2*n+5+2*t+3*t,o:=aB s.3 (2*n+5+2*t+3*t),w:=bif bS s.3 (2*n+5+2*t+3*t)then WU (aB s.3 (2*n+5+2*t+3*t)+1)else 0,ok:=bS s.3 (2*n+5+2*t+3*t) } }))))
theorem K6(t n:Int)(x:ANS)(s:MS)(K:AnO→Prop)(h:(CI t n x s).run K):cT' 190 [.ptr 0 0,.ptr 1 0] [cE' [.I t,.I n,.int .u64 x.no,.I x.me,.I 1,.int .u64 x.bits,.bool x.wrong,.int .u64 x.found],aY 2 s,aZ s] (cF 3 0 [] [] (OY t n) K):=by
 exact cM' (E:=EC3) (by kernel_rfl) h
def CJ(t n:Int)(x:ANS)(s:MS):Tr AnO:=.ite x.5 (.pre (lE' s.3∧(0:Int)≤s.4∧s.4≤(4611686018427387904:Int)) (.pre ((t=t∧n=n)∧lE' s.3) (.ret {d:=true,x:= {x with at':=2},s:= {s with c:=s.4+1,k:=1,a:=0,o:=aB s.3 0,w:=aB s.3 0,ok:=bS s.3 0} }))) (.pre (w0a n t x) (.pre ((lE' s.3∧(0:Int)≤s.4∧s.4≤(4611686018427387904:Int))∧True) (.pre ((t=t∧n=n)∧lE' (aS s.3 (2*n+5+2*t+3*x.2) x.1)) (.ret {d:=false,x:= {x with at':=W (2+1)},s:= {t:=s.1,n:=s.2,xs:=aS s.3 (2*n+5+2*t+3*x.2) x.1,c:=s.4+1,k:=2,a:=2*n+5+2*t+3*x.2,o:=aB s.3 (2*n+5+2*t+3*x.2),w:=bif bS s.3 (2*n+5+2*t+3*x.2)then x.1 else 0,ok:=bS s.3 (2*n+5+2*t+3*x.2) } }))))
theorem K7(t n:Int)(x:ANS)(s:MS)(K:AnO→Prop)(h:(CJ t n x s).run K):cT' 190 [.ptr 0 0,.ptr 1 0] [cE' [.I t,.I n,.int .u64 x.no,.I x.me,.I 2,.int .u64 x.bits,.bool x.wrong,.int .u64 x.found],aY 2 s,aZ s] (cF 3 0 [] [] (OY t n) K):=by
 exact cM' (E:=EC3) (by kernel_rfl) h
def CK(t n:Int)(x:ANS)(s:MS):Tr AnO:=.ite x.5 (.pre (lE' s.3∧(0:Int)≤s.4∧s.4≤(4611686018427387904:Int)) (.pre ((t=t∧n=n)∧lE' s.3) (.ret {d:=true,x:= {x with at':=3},s:= {s with c:=s.4+1,k:=1,a:=0,o:=aB s.3 0,w:=aB s.3 0,ok:=bS s.3 0} }))) (.pre (w0a n t x) (.pre ((lE' s.3∧(0:Int)≤s.4∧s.4≤(4611686018427387904:Int))∧True) (.pre ((t=t∧n=n)∧lE' s.3) (.ret {d:=false,x:= {x with at':=W (3+1),found:=aB s.3 (2*n+5+2*t+3*x.2+2) },s:= {s with c:=s.4+1,k:=1,a:=2*n+5+2*t+3*x.2+2,o:=aB s.3 (2*n+5+2*t+3*x.2+2),w:=aB s.3 (2*n+5+2*t+3*x.2+2),ok:=bS s.3 (2*n+5+2*t+3*x.2+2) } }))))
theorem K8(t n:Int)(x:ANS)(s:MS)(K:AnO→Prop)(h:(CK t n x s).run K):cT' 190 [.ptr 0 0,.ptr 1 0] [cE' [.I t,.I n,.int .u64 x.no,.I x.me,.I 3,.int .u64 x.bits,.bool x.wrong,.int .u64 x.found],aY 2 s,aZ s] (cF 3 0 [] [] (OY t n) K):=by
 exact cM' (E:=EC3) (by kernel_rfl) h
abbrev w0b(x:ANS):=eY (aA x.6 0 12)
def CL(t n:Int)(x:ANS)(s:MS):Tr AnO:=.ite x.5 (.pre (lE' s.3∧(0:Int)≤s.4∧s.4≤(4611686018427387904:Int)) (.pre ((t=t∧n=n)∧lE' s.3) (.ret {d:=true,x:= {x with at':=4},s:= {s with c:=s.4+1,k:=1,a:=0,o:=aB s.3 0,w:=aB s.3 0,ok:=bS s.3 0} }))) (.pre True (.pre ((0:Int)≤aA x.6 0 12∧aA x.6 0 (12:Int)≤(1000000:Int)) (.pre True (.pre (w0a n t x) (.pre ((lE' s.3∧(0:Int)≤s.4∧s.4≤(4611686018427387904:Int))∧True) (.pre ((t=t∧n=n)∧lE' (aS s.3 (2*n+5+2*t+3*x.2+2) (bif dOk (w0b x) 0 0 0 1 0 then cT (w0b x) 0 0 0 false 1 0 else 0))) (.ret {d:=true,x:= {x with at':=W (4+1)},s:= {t:=s.1,n:=s.2,xs:=aS s.3 (2*n+5+2*t+3*x.2+2) (bif dOk (w0b x) 0 0 0 1 0 then cT (w0b x) 0 0 0 false 1 0 else 0),c:=s.4+1,k:=2,a:=2*n+5+2*t+3*x.2+2,o:=aB s.3 (2*n+5+2*t+3*x.2+2),w:=bif bS s.3 (2*n+5+2*t+3*x.2+2)then bif dOk (w0b x) 0 0 0 1 0 then cT (w0b x) 0 0 0 false 1 0 else 0 else 0,ok:=bS s.3 (2*n+5+2*t+3*x.2+2) } })))))))
theorem K9(t n:Int)(x:ANS)(s:MS)(K:AnO→Prop)(h:(CL t n x s).run K):cT' 190 [.ptr 0 0,.ptr 1 0] [cE' [.I t,.I n,.int .u64 x.no,.I x.me,.I 4,.int .u64 x.bits,.bool x.wrong,.int .u64 x.found],aY 2 s,aZ s] (cF 3 0 [] [] (OY t n) K):=by
 exact cM' (E:=EC3) (by kernel_rfl) h
def anT(t n:Int)(x:ANS)(s:MS):Tr AnO:=
 bif ieq x.at' 0 then CH t n x s else
 bif ieq x.at' 1 then CI t n x s else
 bif ieq x.at' 2 then CJ t n x s else
 bif ieq x.at' 3 then CK t n x s else
 bif ieq x.at' 4 then CL t n x s else .pre False (.ret default)
def pO(t n:Int)(x:ANS)(s:MS):AnO:=(anT t n x s).val
def aAa(t n:Int)(x:ANS)(s:MS):Prop:=(anT t n x s).ok
theorem T8(t n:Int)(x:ANS)(s:MS)(K:AVal→aD Ob→Prop)(h:(anT t n x s).run (fun y=>(AnO.fin t n y).run K)):cT' 190 [.ptr 0 0,.ptr 1 0] (anH t n x s) K:=by
 unfold anT at h
 by_cases e:x.at'=0
 ·rw [e]at h;have h:(CH t n x s).run _:=h;refine aFR (root:=0) (pos:=[]) (cs:=[]) (parse:=OY t n) (fin:=AnO.fin t n) vT (bF.unpack (.announce t n x) 0 0 (eX t n x) [] rfl (congrArg (Prod.mk 0) rfl) (by kernel_rfl) rfl) ?_
  have q:=K5 t n x s _ h;rw [←e]at q;exact q
 rw [b8 e]at h
 by_cases e:x.at'=1
 ·rw [e]at h;have h:(CI t n x s).run _:=h;refine aFR (root:=0) (pos:=[]) (cs:=[]) (parse:=OY t n) (fin:=AnO.fin t n) vT (bF.unpack (.announce t n x) 0 0 (eX t n x) [] rfl (congrArg (Prod.mk 0) rfl) (by kernel_rfl) rfl) ?_
  have q:=K6 t n x s _ h;rw [←e]at q;exact q
 rw [b8 e]at h
 by_cases e:x.at'=2
 ·rw [e]at h;have h:(CJ t n x s).run _:=h;refine aFR (root:=0) (pos:=[]) (cs:=[]) (parse:=OY t n) (fin:=AnO.fin t n) vT (bF.unpack (.announce t n x) 0 0 (eX t n x) [] rfl (congrArg (Prod.mk 0) rfl) (by kernel_rfl) rfl) ?_
  have q:=K7 t n x s _ h;rw [←e]at q;exact q
 rw [b8 e]at h
 by_cases e:x.at'=3
 ·rw [e]at h;have h:(CK t n x s).run _:=h;refine aFR (root:=0) (pos:=[]) (cs:=[]) (parse:=OY t n) (fin:=AnO.fin t n) vT (bF.unpack (.announce t n x) 0 0 (eX t n x) [] rfl (congrArg (Prod.mk 0) rfl) (by kernel_rfl) rfl) ?_
  have q:=K8 t n x s _ h;rw [←e]at q;exact q
 rw [b8 e]at h
 by_cases e:x.at'=4
 ·rw [e]at h;have h:(CL t n x s).run _:=h;refine aFR (root:=0) (pos:=[]) (cs:=[]) (parse:=OY t n) (fin:=AnO.fin t n) vT (bF.unpack (.announce t n x) 0 0 (eX t n x) [] rfl (congrArg (Prod.mk 0) rfl) (by kernel_rfl) rfl) ?_
  have q:=K9 t n x s _ h;rw [←e]at q;exact q
 rw [b8 e]at h;exact h.1.elim
noncomputable def anS:aG Ob:=fun args h=>match args,h with
 | [.ptr 0 0,.ptr 1 0],[some (.abs (.announce t n x) []),e1,e2]=>(match cU 2 [e1,e2]with
   | some (l,s)=>some (.pre (l=s.xs.length∧aAa t n x s) (AnO.fin t n (pO t n x s)))
   | none=>none)
 | _,_=>none
theorem aDh:sT' 190 anS:=by
 intro args h o ho K hK;unfold anS at ho;split at ho
 case h_2=>cases ho
 split at ho<;>cases ho
 rename_i hm;obtain⟨⟨hl,ok⟩,hK⟩:=hK;have hh:=bB hm hl;cases hh;exact T8 _ _ _ _ K (aFW ok hK)
def Z7(t n:Int)(v:AVal)(g:aD Ob):Option (Prop×ANS):=match v,g with
 | .ptr 0 0,[some (.cells [.int .i64 t1,.int .i64 n1,.int .u64 no,.int .i64 me,.int .i64 at',.int .u64 bits,.bool wrong,.int .u64 found])]=>some ((t1=t∧n1=n),(⟨no,me,at',bits,wrong,found⟩:ANS))
 | _,_=>none
abbrev T4(t n:Int)(y:ANS):aD Ob:=[some (.abs (.announce t n y) [])]
theorem T5{t n:Int} :cE (obI tbl) 0 (Z7 t n) (fun y=>.ret (.ptr 0 0) (T4 t n y)):=by
 intro v g p x hp hq K hK;unfold Z7 at hp;split at hp
 case h_2=>cases hp
 rename_i t1 n1 no me at' bits wrong found;simp only [sI',pI']at hp;obtain⟨rfl,rfl⟩:=hp;obtain⟨rfl,rfl⟩:=hq;exact⟨⟨_,_,aF.pack (T4 t1 n1 (⟨no,me,at',bits,wrong,found⟩:ANS)) (.announce t1 n1 (⟨no,me,at',bits,wrong,found⟩:ANS)) 0 0 (eX t1 n1 (⟨no,me,at',bits,wrong,found⟩:ANS)) [] (by kernel_rfl) rfl (congrArg (Prod.mk 0) rfl) (by kernel_rfl),hK⟩⟩
def Z8(t n:Int)(u sh kd ky:Int):Tr ANS:=.pre True (.pre (t=t∧n=n) (.ret {no:=0,me:=u,at':=0,bits:=bif a8 sh kd ky then tskV sh kd ky else 0,wrong:=!ieq (bif a8 sh kd ky then 0 else 1) 0,found:=0}))
def Z6(t n:Int)(u sh kd ky:Int):ANS:=(Z8 t n u sh kd ky).val
def PH(t n:Int)(u sh kd ky:Int):Prop:=(Z8 t n u sh kd ky).ok
def anNS:aG Ob:=fun args h=>match args,h with
 | [.agg [.int .i64 t,.int .i64 n],.int .i64 u,.agg [.int .i64 sh,.int .i64 kd,.int .i64 ky]],[]=>some (.pre (PH t n u sh kd ky) (.ret (.ptr 0 0) (T4 t n (Z6 t n u sh kd ky))))
 | _,_=>none
theorem Z9:sT' 104 anNS:=by
 intro args h o ho K hK;unfold anNS at ho;split at ho<;>cases ho
 rename_i t n u sh kd ky;obtain⟨ok,hK⟩:=hK;refine aF0 (root:=0) (pos:=[]) (cs:=[]) (parse:=Z7 t n) T5 ?_;exact cM' (E:=EC3) (q:=(Z8 t n u sh kd ky).run (fun y=>(Out.ret (.ptr 0 0) (T4 t n y)).run K)) (by kernel_rfl) (aFW ok hK)
noncomputable def EC4:=((EC3.addS 190 anS aDh).addS 104 anNS Z9)
structure AwO where
 d:Bool
 x:AWS
 s:MS
instance:Inhabited AwO:=⟨⟨false,⟨0,false,0,0⟩,⟨0,0,[],0,0,0,0,0,false⟩⟩⟩
instance:Inhabited AWS:=⟨⟨0,false,0,0⟩⟩
abbrev awH(t n:Int)(x:AWS)(s:MS):aD Ob:=[some (.abs (.answer t n x) []),aY 2 s,aZ s]
abbrev awD(t n:Int)(x:AWS)(s:MS):aD Ob:=[cE' [.I t,.I n,.I x.code,.bool x.okk,.I x.val,.I x.me],aY 2 s,aZ s]
def AwO.fin(t n:Int)(y:AwO):Out Ob:=.ite y.d (.ret (.bool true) (awD t n y.x y.s)) (.ret (.bool false) (awH t n y.x y.s))
def aAj(t n:Int)(v:AVal)(g:aD Ob):Option (Prop×AwO):=match v,g with
 | .bool d,[some (.cells [.int .i64 t1,.int .i64 n1,.int .i64 code,.bool okk,.int .i64 val,.int .i64 me]),e1,e2]=>(match cU 2 [e1,e2]with
   | some (l,s)=>some ((t1=t∧n1=n)∧l=s.xs.length,⟨d,⟨code,okk,val,me⟩,s⟩)
   | none=>none)
 | _,_=>none
def awP(t n:Int)(v:AVal)(g:aD Ob):Option (Prop×AwO):=aAj t n v g
theorem UF{t n:Int} :cE (obI tbl) 3 (aAj t n) (AwO.fin t n):=by
 intro v g p x hp hq K hK;unfold aAj at hp;split at hp
 case h_2=>cases hp
 rename_i d t1 n1 code okk val me e1 e2;split at hp
 case h_2=>cases hp
 rename_i l s hm;simp only [sI',pI']at hp;obtain⟨rfl,rfl⟩:=hp;obtain⟨⟨rfl,rfl⟩,hl⟩:=hq;have hh:=bB hm hl;cases hh;refine sJ hK (fun h=>?_) (fun h=>?_)
 ·exact⟨⟨_,_,aF.refl _ _ _,h⟩⟩
 ·exact⟨⟨_,_,(aF.pack (awH t1 n1 (⟨code,okk,val,me⟩:AWS) s) (.answer t1 n1 (⟨code,okk,val,me⟩:AWS)) 0 0 (qT t1 n1 (⟨code,okk,val,me⟩:AWS)) [] (by kernel_rfl) rfl (congrArg (Prod.mk 0) rfl) (by kernel_rfl)),h⟩⟩
theorem aAk{t n:Int} :cE (obI tbl) 3 (awP t n) (AwO.fin t n):=by
 intro v g p x hp hq K hK;unfold awP at hp;exact UF v g p x hp hq K hK
abbrev w0c(n:Int)(s:MS)(t:Int)(x:AWS):=aB s.3 (2*n+5+2*t+3*x.4+2)
def UG(t n:Int)(x:AWS)(s:MS):Tr AwO:=.pre ((((0:Int)≤t∧t≤(100000:Int))∧((0:Int)≤n∧n≤(100000:Int))∧(-1099511627776:Int)≤x.4∧x.4≤(1099511627776:Int))∧True) (.pre ((lE' s.3∧(0:Int)≤s.4∧s.4≤(4611686018427387904:Int))∧True) (.pre True (.pre True (.pre ((t=t∧n=n)∧lE' s.3) (.ret {d:=true,x:= {code:=resC (aA (w0c n s t x) 39 9) (aA (w0c n s t x) 49 3),okk:=X2 (aA (w0c n s t x) 39 9) (aA (w0c n s t x) 49 3) (ieq (aA (w0c n s t x) 48 1) 1),val:=X3 (aA (w0c n s t x) 39 9) (aA (w0c n s t x) 49 3) (aA (w0c n s t x) 52 10),me:=x.4},s:= {s with c:=s.4+1,k:=1,a:=2*n+5+2*t+3*x.4+2,o:=aB s.3 (2*n+5+2*t+3*x.4+2),w:=aB s.3 (2*n+5+2*t+3*x.4+2),ok:=bS s.3 (2*n+5+2*t+3*x.4+2) } })))))
theorem PK(t n:Int)(x:AWS)(s:MS)(K:AwO→Prop)(h:(UG t n x s).run K):cT' 48 [.ptr 0 0,.ptr 1 0] [cE' [.I t,.I n,.I x.code,.bool x.okk,.I x.val,.I x.me],aY 2 s,aZ s] (cF 3 0 [] [] (awP t n) K):=by
 exact cM' (E:=EC4) (by kernel_rfl) h
def awT(t n:Int)(x:AWS)(s:MS):Tr AwO:=UG t n x s
def gR(t n:Int)(x:AWS)(s:MS):AwO:=(awT t n x s).val
def aAi(t n:Int)(x:AWS)(s:MS):Prop:=(awT t n x s).ok
theorem UH(t n:Int)(x:AWS)(s:MS)(K:AVal→aD Ob→Prop)(h:(awT t n x s).run (fun y=>(AwO.fin t n y).run K)):cT' 48 [.ptr 0 0,.ptr 1 0] (awH t n x s) K:=by
 unfold awT at h;exact aFR (root:=0) (pos:=[]) (cs:=[]) (parse:=awP t n) (fin:=AwO.fin t n) aAk (bF.unpack (.answer t n x) 0 0 (qT t n x) [] rfl (congrArg (Prod.mk 0) rfl) (by kernel_rfl) rfl) (PK t n x s _ h)
noncomputable def awS:aG Ob:=fun args h=>match args,h with
 | [.ptr 0 0,.ptr 1 0],[some (.abs (.answer t n x) []),e1,e2]=>(match cU 2 [e1,e2]with
   | some (l,s)=>some (.pre (l=s.xs.length∧aAi t n x s) (AwO.fin t n (gR t n x s)))
   | none=>none)
 | _,_=>none
theorem aDl:sT' 48 awS:=by
 intro args h o ho K hK;unfold awS at ho;split at ho
 case h_2=>cases ho
 split at ho<;>cases ho
 rename_i hm;obtain⟨⟨hl,ok⟩,hK⟩:=hK;have hh:=bB hm hl;cases hh;exact UH _ _ _ _ K (aFW ok hK)
def aAf(t n:Int)(v:AVal)(g:aD Ob):Option (Prop×AWS):=match v,g with
 | .ptr 0 0,[some (.cells [.int .i64 t1,.int .i64 n1,.int .i64 code,.bool okk,.int .i64 val,.int .i64 me])]=>some ((t1=t∧n1=n),(⟨code,okk,val,me⟩:AWS))
 | _,_=>none
abbrev UC(t n:Int)(y:AWS):aD Ob:=[some (.abs (.answer t n y) [])]
theorem UD{t n:Int} :cE (obI tbl) 0 (aAf t n) (fun y=>.ret (.ptr 0 0) (UC t n y)):=by
 intro v g p x hp hq K hK;unfold aAf at hp;split at hp
 case h_2=>cases hp
 rename_i t1 n1 code okk val me;simp only [sI',pI']at hp;obtain⟨rfl,rfl⟩:=hp;obtain⟨rfl,rfl⟩:=hq;exact⟨⟨_,_,aF.pack (UC t1 n1 (⟨code,okk,val,me⟩:AWS)) (.answer t1 n1 (⟨code,okk,val,me⟩:AWS)) 0 0 (qT t1 n1 (⟨code,okk,val,me⟩:AWS)) [] (by kernel_rfl) rfl (congrArg (Prod.mk 0) rfl) (by kernel_rfl),hK⟩⟩
def aAg(t n:Int)(u:Int):Tr AWS:=.pre (t=t∧n=n) (.ret {code:=0,okk:=false,val:=0,me:=u})
def aAe(t n:Int)(u:Int):AWS:=(aAg t n u).val
def PJ(t n:Int)(u:Int):Prop:=(aAg t n u).ok
def awNS:aG Ob:=fun args h=>match args,h with
 | [.agg [.int .i64 t,.int .i64 n],.int .i64 u],[]=>some (.pre (PJ t n u) (.ret (.ptr 0 0) (UC t n (aAe t n u))))
 | _,_=>none
theorem aAh:sT' 47 awNS:=by
 intro args h o ho K hK;unfold awNS at ho;split at ho<;>cases ho
 rename_i t n u;obtain⟨ok,hK⟩:=hK;refine aF0 (root:=0) (pos:=[]) (cs:=[]) (parse:=aAf t n) UD ?_;exact cM' (E:=EC4) (q:=(aAg t n u).run (fun y=>(Out.ret (.ptr 0 0) (UC t n y)).run K)) (by kernel_rfl) (aFW ok hK)
noncomputable def EC5:=((EC4.addS 48 awS aDl).addS 47 awNS aAh)
def IM:bO Ob:=fun args h=>match args,h with
 | [.ptr 0 0],[some (.cells [.int .i64 t,.int .i64 n,.int .i64 pop,.int .i64 gave,.int .i64 u,.int .i64 sh,.int .i64 kd,.int .i64 ky,.bool only,.int .i64 att,.int .i64 at',.int .u64 found,.int .u64 word])]=>some (True,.agg [.I (aA found 0 12),.I (aA found 12 9),.I (aA found 21 18),.I (aA found 39 9),.bool (ieq (aA found 48 1) 1),.I (aA found 49 3),.I (aA found 52 10)])
 | _,_=>none
theorem TJ:sT' 208 IM.spec:=by
 intro args h o ho K hK;unfold bO.spec IM at ho;split at ho
 case h_2=>cases ho
 rename_i p v hp;split at hp
 case h_2=>cases hp
 rename_i t n pop gave u sh kd ky only att at' found word;simp only [sI',pI']at hp;obtain⟨rfl,rfl⟩:=hp;simp only [sI']at ho;subst ho;obtain⟨hp,hK⟩:=hK;have hK:K (.agg [.I (aA found 0 12),.I (aA found 12 9),.I (aA found 21 18),.I (aA found 39 9),.bool (ieq (aA found 48 1) 1),.I (aA found 49 3),.I (aA found 52 10)]) [cE' [.I t,.I n,.I pop,.I gave,.I u,.I sh,.I kd,.I ky,.bool only,.I att,.I at',.int .u64 found,.int .u64 word]]:=hK;refine aFQ (cM' (E:=EC5) (q:=True∧K (.agg [.I (aA found 0 12),.I (aA found 12 9),.I (aA found 21 18),.I (aA found 39 9),.bool (ieq (aA found 48 1) 1),.I (aA found 49 3),.I (aA found 52 10)]) [cE' [.I t,.I n,.I pop,.I gave,.I u,.I sh,.I kd,.I ky,.bool only,.I att,.I at',.int .u64 found,.int .u64 word]]) (by kernel_rfl) ?_)
 exact⟨trivial,hK⟩
noncomputable def EX1:=EC5.addR 208 IM TJ
def TL(t n pop gave u sh kd ky:Int)(only:Bool)(att at' found word:Int)(k y:Int)(m:Bool)(c v:Int)(s:MS):Out Ob:=.pre True (.pre True (.pre ((lE' s.3∧(0:Int)≤s.4∧s.4≤(4611686018427387904:Int))∧True) (.ret (.bool (aT s.3 (aA found 12 9) word)) [cE' [.I t,.I n,.I pop,.I gave,.I u,.I sh,.I kd,.I ky,.bool only,.I att,.I at',.int .u64 found,.int .u64 word],cE' [.I s.1,.I s.2,.slice 2 0 (List.length (bif aT s.3 (aA found 12 9) word then aS s.3 (aA found 12 9) (bif bif aH k 10 then bif aH y 9 then bif aH c 5 then aH v 18 else false else false else false then bY k y m c v else 0)else s.3)) 1,.I (s.4+1),.I 3,.I (aA found 12 9),.int .u64 (aB s.3 (aA found 12 9)),.int .u64 (bif bS s.3 (aA found 12 9)then bif bif aH k 10 then bif aH y 9 then bif aH c 5 then aH v 18 else false else false else false then bY k y m c v else 0 else 0),.bool (aT s.3 (aA found 12 9) word)],some (.ints (some .u64) (bif aT s.3 (aA found 12 9) word then aS s.3 (aA found 12 9) (bif bif aH k 10 then bif aH y 9 then bif aH c 5 then aH v 18 else false else false else false then bY k y m c v else 0)else s.3))])))
theorem TM(t n pop gave u sh kd ky:Int)(only:Bool)(att at' found word:Int)(k y:Int)(m:Bool)(c v:Int)(s:MS)(K:AVal→aD Ob→Prop)(h:(TL t n pop gave u sh kd ky only att at' found word k y m c v s).run K):cT' 211 [.ptr 0 0,.ptr 1 0,.agg [.I k,.I y,.bool m,.I c,.I v]] [cE' [.I t,.I n,.I pop,.I gave,.I u,.I sh,.I kd,.I ky,.bool only,.I att,.I at',.int .u64 found,.int .u64 word],aY 2 s,aZ s] K:=by
 refine aFQ (cM' (E:=EX1) (by kernel_rfl) h)
def xputS:aG Ob:=fun args h=>match args,h with
 | [.ptr 0 0,.ptr 1 0,.agg [.int .i64 k,.int .i64 y,.bool m,.int .i64 c,.int .i64 v]],[some (.cells [.int .i64 t,.int .i64 n,.int .i64 pop,.int .i64 gave,.int .i64 u,.int .i64 sh,.int .i64 kd,.int .i64 ky,.bool only,.int .i64 att,.int .i64 at',.int .u64 found,.int .u64 word]),e1,e2]=>(match cU 2 [e1,e2]with
   | some (l,s)=>some (.pre (l=s.xs.length) (TL t n pop gave u sh kd ky only att at' found word k y m c v s))
   | none=>none)
 | _,_=>none
theorem YU:sT' 211 xputS:=by
 intro args h o ho K hK;unfold xputS at ho;split at ho
 case h_2=>cases ho
 split at ho<;>cases ho
 rename_i hm;obtain⟨hl,hK⟩:=hK;have hh:=bB hm hl;cases hh;exact TM _ _ _ _ _ _ _ _ _ _ _ _ _ _ _ _ _ _ _ K hK
def IN(t n pop gave u sh kd ky:Int)(only:Bool)(att at' found word:Int)(a b c d:Int)(m:Bool)(e f:Int)(s:MS):Out Ob:=.pre True (.pre ((((0:Int)≤t∧t≤(100000:Int))∧((0:Int)≤n∧n≤(100000:Int))∧(-1099511627776:Int)≤u∧u≤(1099511627776:Int))∧True) (.pre ((lE' s.3∧(0:Int)≤s.4∧s.4≤(4611686018427387904:Int))∧True) (.ret (.bool (aT s.3 (2*n+5+2*t+3*u+2) found)) [cE' [.I t,.I n,.I pop,.I gave,.I u,.I sh,.I kd,.I ky,.bool only,.I att,.I at',.int .u64 found,.int .u64 word],cE' [.I s.1,.I s.2,.slice 2 0 (List.length (bif aT s.3 (2*n+5+2*t+3*u+2) found then aS s.3 (2*n+5+2*t+3*u+2) (bif dOk a b c d e f then cT a b c d m e f else 0)else s.3)) 1,.I (s.4+1),.I 3,.I (2*n+5+2*t+3*u+2),.int .u64 (aB s.3 (2*n+5+2*t+3*u+2)),.int .u64 (bif bS s.3 (2*n+5+2*t+3*u+2)then bif dOk a b c d e f then cT a b c d m e f else 0 else 0),.bool (aT s.3 (2*n+5+2*t+3*u+2) found)],some (.ints (some .u64) (bif aT s.3 (2*n+5+2*t+3*u+2) found then aS s.3 (2*n+5+2*t+3*u+2) (bif dOk a b c d e f then cT a b c d m e f else 0)else s.3))])))
theorem OX(t n pop gave u sh kd ky:Int)(only:Bool)(att at' found word:Int)(a b c d:Int)(m:Bool)(e f:Int)(s:MS)(K:AVal→aD Ob→Prop)(h:(IN t n pop gave u sh kd ky only att at' found word a b c d m e f s).run K):cT' 213 [.ptr 0 0,.ptr 1 0,.agg [.I a,.I b,.I c,.I d,.bool m,.I e,.I f]] [cE' [.I t,.I n,.I pop,.I gave,.I u,.I sh,.I kd,.I ky,.bool only,.I att,.I at',.int .u64 found,.int .u64 word],aY 2 s,aZ s] K:=by
 refine aFQ (cM' (E:=EX1) (by kernel_rfl) h)
def xturnS:aG Ob:=fun args h=>match args,h with
 | [.ptr 0 0,.ptr 1 0,.agg [.int .i64 a,.int .i64 b,.int .i64 c,.int .i64 d,.bool m,.int .i64 e,.int .i64 f]],[some (.cells [.int .i64 t,.int .i64 n,.int .i64 pop,.int .i64 gave,.int .i64 u,.int .i64 sh,.int .i64 kd,.int .i64 ky,.bool only,.int .i64 att,.int .i64 at',.int .u64 found,.int .u64 word]),e1,e2]=>(match cU 2 [e1,e2]with
   | some (l,s)=>some (.pre (l=s.xs.length) (IN t n pop gave u sh kd ky only att at' found word a b c d m e f s))
   | none=>none)
 | _,_=>none
theorem TN:sT' 213 xturnS:=by
 intro args h o ho K hK;unfold xturnS at ho;split at ho
 case h_2=>cases ho
 split at ho<;>cases ho
 rename_i hm;obtain⟨hl,hK⟩:=hK;have hh:=bB hm hl;cases hh;exact OX _ _ _ _ _ _ _ _ _ _ _ _ _ _ _ _ _ _ _ _ _ K hK
noncomputable def EX2:=(EX1.addS 211 xputS YU).addS 213 xturnS TN
instance:Inhabited STS:=⟨⟨0,0,[]⟩⟩
structure ExO where
 d:Bool
 x:EXS
 s:MS
instance:Inhabited ExO:=⟨⟨false,cS,⟨0,0,[],0,0,0,0,0,false⟩⟩⟩
instance:Inhabited EXS:=⟨cS⟩
abbrev exH(t n:Int)(x:EXS)(s:MS):aD Ob:=[some (.abs (.exec t n x) []),aY 2 s,aZ s]
abbrev exD(t n:Int)(x:EXS)(s:MS):aD Ob:=[cE' [.I t,.I n,.I x.popped,.I x.gave,.I x.u,.I x.sh,.I x.kd,.I x.ky,.bool x.only,.I x.att,.I x.at',.int .u64 x.found,.int .u64 x.word],aY 2 s,aZ s]
def ExO.fin(t n:Int)(y:ExO):Out Ob:=.ite y.d (.ret (.bool true) (exD t n y.x y.s)) (.ret (.bool false) (exH t n y.x y.s))
def aA7(t n:Int)(v:AVal)(g:aD Ob):Option (Prop×ExO):=match v,g with
 | .bool d,[some (.cells [.int .i64 t1,.int .i64 n1,.int .i64 popped,.int .i64 gave,.int .i64 u,.int .i64 sh,.int .i64 kd,.int .i64 ky,.bool only,.int .i64 att,.int .i64 at',.int .u64 found,.int .u64 word]),e1,e2]=>(match cU 2 [e1,e2]with
   | some (l,s)=>some ((t1=t∧n1=n)∧l=s.xs.length,⟨d,⟨popped,gave,u,sh,kd,ky,only,att,at',found,word⟩,s⟩)
   | none=>none)
 | _,_=>none
def xQ(t n:Int)(v:AVal)(g:aD Ob):Option (Prop×ExO):=aA7 t n v g
theorem VY{t n:Int} :cE (obI tbl) 3 (aA7 t n) (ExO.fin t n):=by
 intro v g p x hp hq K hK;unfold aA7 at hp;split at hp
 case h_2=>cases hp
 rename_i d t1 n1 popped gave u sh kd ky only att at' found word e1 e2;split at hp
 case h_2=>cases hp
 rename_i l s hm;simp only [sI',pI']at hp;obtain⟨rfl,rfl⟩:=hp;obtain⟨⟨rfl,rfl⟩,hl⟩:=hq;have hh:=bB hm hl;cases hh;refine sJ hK (fun h=>?_) (fun h=>?_)
 ·exact⟨⟨_,_,aF.refl _ _ _,h⟩⟩
 ·exact⟨⟨_,_,(aF.pack (exH t1 n1 (⟨popped,gave,u,sh,kd,ky,only,att,at',found,word⟩:EXS) s) (.exec t1 n1 (⟨popped,gave,u,sh,kd,ky,only,att,at',found,word⟩:EXS)) 0 0 (gV t1 n1 (⟨popped,gave,u,sh,kd,ky,only,att,at',found,word⟩:EXS)) [] (by kernel_rfl) rfl (congrArg (Prod.mk 0) rfl) (by kernel_rfl)),h⟩⟩
theorem lB{t n:Int} :cE (obI tbl) 3 (xQ t n) (ExO.fin t n):=by
 intro v g p x hp hq K hK;unfold xQ at hp;exact VY v g p x hp hq K hK
abbrev w0g(n t:Int)(x:EXS):=(((0:Int)≤t∧t≤(100000:Int))∧((0:Int)≤n∧n≤(100000:Int))∧(-1099511627776:Int)≤x.3∧x.3≤(1099511627776:Int))∧True
abbrev w0i(n:Int)(s:MS)(t:Int)(x:EXS):Tr ExO:=.ret {d:=true,x:= {x with at':=0,found:=aB s.3 (2*n+5+2*t+3*x.3+2)},s:= {s with c:=s.4+1,k:=1,a:=2*n+5+2*t+3*x.3+2,o:=aB s.3 (2*n+5+2*t+3*x.3+2),w:=aB s.3 (2*n+5+2*t+3*x.3+2),ok:=bS s.3 (2*n+5+2*t+3*x.3+2) } }
abbrev w0l(n:Int)(s:MS)(t:Int)(x:EXS):Tr ExO:=.ret {d:=false,x:= {x with at':=1,found:=aB s.3 (2*n+5+2*t+3*x.3+2)},s:= {s with c:=s.4+1,k:=1,a:=2*n+5+2*t+3*x.3+2,o:=aB s.3 (2*n+5+2*t+3*x.3+2),w:=aB s.3 (2*n+5+2*t+3*x.3+2),ok:=bS s.3 (2*n+5+2*t+3*x.3+2) } }
abbrev w0m(n:Int)(s:MS)(t:Int)(x:EXS):Tr ExO:=.ret {d:=false,x:= {x with at':=5,found:=aB s.3 (2*n+5+2*t+3*x.3+2)},s:= {s with c:=s.4+1,k:=1,a:=2*n+5+2*t+3*x.3+2,o:=aB s.3 (2*n+5+2*t+3*x.3+2),w:=aB s.3 (2*n+5+2*t+3*x.3+2),ok:=bS s.3 (2*n+5+2*t+3*x.3+2) } }
abbrev w0n(n:Int)(s:MS)(t:Int)(x:EXS):Tr ExO:=.ret {d:=false,x:= {x with at':=8,found:=aB s.3 (2*n+5+2*t+3*x.3+2)},s:= {s with c:=s.4+1,k:=1,a:=2*n+5+2*t+3*x.3+2,o:=aB s.3 (2*n+5+2*t+3*x.3+2),w:=aB s.3 (2*n+5+2*t+3*x.3+2),ok:=bS s.3 (2*n+5+2*t+3*x.3+2) } }
abbrev w0s(n:Int)(s:MS)(t:Int)(x:EXS):=aA (aB s.3 (2*n+5+2*t+3*x.3+2)) 49 3
def DD(t n:Int)(x:EXS)(s:MS):Tr ExO:=.pre True (.pre True (.pre (w0g n t x) (.pre ((lE' s.3∧(0:Int)≤s.4∧s.4≤(4611686018427387904:Int))∧True) (.ite x.7 (.pre True (.ite (!ieq (aA (aB s.3 (2*n+5+2*t+3*x.3+2)) 0 12) x.8) (.pre ((t=t∧n=n)∧lE' s.3) (w0i n s t x)) (.pre True (.ite (ieq (w0s n s t x) 2) (.pre ((t=t∧n=n)∧lE' s.3) (w0l n s t x)) (.ite (ieq (w0s n s t x) 3) (.pre ((t=t∧n=n)∧lE' s.3) (w0m n s t x)) (.ite (ieq (w0s n s t x) 4) (.pre ((t=t∧n=n)∧lE' s.3) (w0n n s t x)) (.pre ((t=t∧n=n)∧lE' s.3) (w0i n s t x)))))))) (.pre True (.ite (ieq (w0s n s t x) 2) (.pre ((t=t∧n=n)∧lE' s.3) (w0l n s t x)) (.ite (ieq (w0s n s t x) 3) (.pre ((t=t∧n=n)∧lE' s.3) (w0m n s t x)) (.ite (ieq (w0s n s t x) 4) (.pre ((t=t∧n=n)∧lE' s.3) (w0n n s t x)) (.pre ((t=t∧n=n)∧lE' s.3) (w0i n s t x))))))))))
theorem L1(t n:Int)(x:EXS)(s:MS)(K:ExO→Prop)(h:(DD t n x s).run K):cT' 177 [.ptr 0 0,.ptr 1 0] [cE' [.I t,.I n,.I x.popped,.I x.gave,.I x.u,.I x.sh,.I x.kd,.I x.ky,.bool x.only,.I x.att,.I 0,.int .u64 x.found,.int .u64 x.word],aY 2 s,aZ s] (cF 3 0 [] [] (xQ t n) K):=by
 exact cM' (E:=EX2) (by kernel_rfl) h
abbrev w0f(s:MS)(x:EXS):Tr ExO:=.ret {d:=false,x:= {x with at':=4,word:=aB s.3 (aA x.10 12 9) },s:= {s with c:=s.4+1,k:=1,a:=aA x.10 12 9,o:=aB s.3 (aA x.10 12 9),w:=aB s.3 (aA x.10 12 9),ok:=bS s.3 (aA x.10 12 9) } }
abbrev w0j(s:MS)(x:EXS):=ieq (aA (aB s.3 (aA x.10 12 9)) 25 18) (aA x.10 21 18)
abbrev w0o(s:MS)(x:EXS):Tr ExO:=.ret {d:=false,x:= {x with at':=3,word:=aB s.3 (aA x.10 12 9) },s:= {s with c:=s.4+1,k:=1,a:=aA x.10 12 9,o:=aB s.3 (aA x.10 12 9),w:=aB s.3 (aA x.10 12 9),ok:=bS s.3 (aA x.10 12 9) } }
abbrev w0r(s:MS)(x:EXS):=ieq (aA (aB s.3 (aA x.10 12 9)) 20 5) (W (x.3+1))
def DE(t n:Int)(x:EXS)(s:MS):Tr ExO:=.pre True (.pre True (.pre True (.pre (lE' s.3∧(0:Int)≤s.4∧s.4≤(4611686018427387904:Int)) (.pre True (.pre True (.ite (w0j s x) (.ite (ieq (aA (aB s.3 (aA x.10 12 9)) 20 5) 0) (.pre ((t=t∧n=n)∧lE' s.3) (.ret {d:=false,x:= {x with at':=2,word:=aB s.3 (aA x.10 12 9) },s:= {s with c:=s.4+1,k:=1,a:=aA x.10 12 9,o:=aB s.3 (aA x.10 12 9),w:=aB s.3 (aA x.10 12 9),ok:=bS s.3 (aA x.10 12 9) } })) (.pre True (.ite (w0j s x) (.ite (w0r s x) (.pre ((t=t∧n=n)∧lE' s.3) (w0o s x)) (.pre ((t=t∧n=n)∧lE' s.3) (w0f s x))) (.pre ((t=t∧n=n)∧lE' s.3) (w0f s x))))) (.pre True (.ite (w0j s x) (.ite (w0r s x) (.pre ((t=t∧n=n)∧lE' s.3) (w0o s x)) (.pre ((t=t∧n=n)∧lE' s.3) (w0f s x))) (.pre ((t=t∧n=n)∧lE' s.3) (w0f s x))))))))))
theorem L3(t n:Int)(x:EXS)(s:MS)(K:ExO→Prop)(h:(DE t n x s).run K):cT' 177 [.ptr 0 0,.ptr 1 0] [cE' [.I t,.I n,.I x.popped,.I x.gave,.I x.u,.I x.sh,.I x.kd,.I x.ky,.bool x.only,.I x.att,.I 1,.int .u64 x.found,.int .u64 x.word],aY 2 s,aZ s] (cF 3 0 [] [] (xQ t n) K):=by
 exact cM' (E:=EX2) (by kernel_rfl) h
abbrev w0k(x:EXS):=ieq (aA x.10 48 1) 1
abbrev w0e(n:Int)(s:MS)(t:Int)(x:EXS):Tr ExO:=.ret {d:=true,x:= {x with at':=2},s:= {t:=s.1,n:=s.2,xs:=bif aT s.3 (aA x.10 12 9) x.11 then aS s.3 (aA x.10 12 9) (bif bif aH (aA x.11 0 10) 10 then bif aH (aA x.10 39 9) 9 then bif aH (x.3+1) 5 then aH (aA x.11 25 18) 18 else false else false else false then bY (aA x.11 0 10) (aA x.10 39 9) (w0k x) (x.3+1) (aA x.11 25 18)else 0)else s.3,c:=s.4+1,k:=3,a:=aA x.10 12 9,o:=aB s.3 (aA x.10 12 9),w:=bif bS s.3 (aA x.10 12 9)then bif bif aH (aA x.11 0 10) 10 then bif aH (aA x.10 39 9) 9 then bif aH (x.3+1) 5 then aH (aA x.11 25 18) 18 else false else false else false then bY (aA x.11 0 10) (aA x.10 39 9) (w0k x) (x.3+1) (aA x.11 25 18)else 0 else 0,ok:=aT s.3 (aA x.10 12 9) x.11} }
def DF(t n:Int)(x:EXS)(s:MS):Tr ExO:=.pre True (.pre True (.pre ((-1000000:Int)≤x.3∧x.3≤(1000000:Int)) (.pre (lE' s.3∧True∧True∧((lE' s.3∧(0:Int)≤s.4∧s.4≤(4611686018427387904:Int))∧True)∧True) (.ite (aT s.3 (aA x.10 12 9) x.11) (.pre True (.ite (oL x.4 x.5) (.pre ((t=t∧n=n)∧lE' (bif aT s.3 (aA x.10 12 9) x.11 then aS s.3 (aA x.10 12 9) (bif bif aH (aA x.11 0 10) 10 then bif aH (aA x.10 39 9) 9 then bif aH (x.3+1) 5 then aH (aA x.11 25 18) 18 else false else false else false then bY (aA x.11 0 10) (aA x.10 39 9) (w0k x) (x.3+1) (aA x.11 25 18)else 0)else s.3)) (.ret {d:=true,x:= {x with popped:=aA x.11 10 9,at':=2},s:= {t:=s.1,n:=s.2,xs:=bif aT s.3 (aA x.10 12 9) x.11 then aS s.3 (aA x.10 12 9) (bif bif aH (aA x.11 0 10) 10 then bif aH (aA x.10 39 9) 9 then bif aH (x.3+1) 5 then aH (aA x.11 25 18) 18 else false else false else false then bY (aA x.11 0 10) (aA x.10 39 9) (w0k x) (x.3+1) (aA x.11 25 18)else 0)else s.3,c:=s.4+1,k:=3,a:=aA x.10 12 9,o:=aB s.3 (aA x.10 12 9),w:=bif bS s.3 (aA x.10 12 9)then bif bif aH (aA x.11 0 10) 10 then bif aH (aA x.10 39 9) 9 then bif aH (x.3+1) 5 then aH (aA x.11 25 18) 18 else false else false else false then bY (aA x.11 0 10) (aA x.10 39 9) (w0k x) (x.3+1) (aA x.11 25 18)else 0 else 0,ok:=aT s.3 (aA x.10 12 9) x.11} })) (.pre ((t=t∧n=n)∧lE' (bif aT s.3 (aA x.10 12 9) x.11 then aS s.3 (aA x.10 12 9) (bif bif aH (aA x.11 0 10) 10 then bif aH (aA x.10 39 9) 9 then bif aH (x.3+1) 5 then aH (aA x.11 25 18) 18 else false else false else false then bY (aA x.11 0 10) (aA x.10 39 9) (w0k x) (x.3+1) (aA x.11 25 18)else 0)else s.3)) (w0e n s t x)))) (.pre ((t=t∧n=n)∧lE' (bif aT s.3 (aA x.10 12 9) x.11 then aS s.3 (aA x.10 12 9) (bif bif aH (aA x.11 0 10) 10 then bif aH (aA x.10 39 9) 9 then bif aH (x.3+1) 5 then aH (aA x.11 25 18) 18 else false else false else false then bY (aA x.11 0 10) (aA x.10 39 9) (w0k x) (x.3+1) (aA x.11 25 18)else 0)else s.3)) (w0e n s t x))))))
theorem L4(t n:Int)(x:EXS)(s:MS)(K:ExO→Prop)(h:(DF t n x s).run K):cT' 177 [.ptr 0 0,.ptr 1 0] [cE' [.I t,.I n,.I x.popped,.I x.gave,.I x.u,.I x.sh,.I x.kd,.I x.ky,.bool x.only,.I x.att,.I 2,.int .u64 x.found,.int .u64 x.word],aY 2 s,aZ s] (cF 3 0 [] [] (xQ t n) K):=by
 exact cM' (E:=EX2) (by kernel_rfl) h
def DG(t n:Int)(x:EXS)(s:MS):Tr ExO:=.pre True (.pre True (.pre True (.pre (lE' s.3) (.pre True (.pre (w0g n t x) (.pre ((lE' s.3∧(0:Int)≤s.4∧s.4≤(4611686018427387904:Int))∧True) (.pre ((t=t∧n=n)∧lE' (bif aT s.3 (2*n+5+2*t+3*x.3+2) x.10 then aS s.3 (2*n+5+2*t+3*x.3+2) (bif dOk (aA x.10 0 12) (aA x.10 12 9) (aA x.10 21 18) (aA x.10 39 9) 3 (aA x.10 52 10)then cT (aA x.10 0 12) (aA x.10 12 9) (aA x.10 21 18) (aA x.10 39 9) (w0k x) 3 (aA x.10 52 10)else 0)else s.3)) (.ret {d:=true,x:= {x with at':=3},s:= {t:=s.1,n:=s.2,xs:=bif aT s.3 (2*n+5+2*t+3*x.3+2) x.10 then aS s.3 (2*n+5+2*t+3*x.3+2) (bif dOk (aA x.10 0 12) (aA x.10 12 9) (aA x.10 21 18) (aA x.10 39 9) 3 (aA x.10 52 10)then cT (aA x.10 0 12) (aA x.10 12 9) (aA x.10 21 18) (aA x.10 39 9) (w0k x) 3 (aA x.10 52 10)else 0)else s.3,c:=s.4+1,k:=3,a:=2*n+5+2*t+3*x.3+2,o:=aB s.3 (2*n+5+2*t+3*x.3+2),w:=bif bS s.3 (2*n+5+2*t+3*x.3+2)then bif dOk (aA x.10 0 12) (aA x.10 12 9) (aA x.10 21 18) (aA x.10 39 9) 3 (aA x.10 52 10)then cT (aA x.10 0 12) (aA x.10 12 9) (aA x.10 21 18) (aA x.10 39 9) (w0k x) 3 (aA x.10 52 10)else 0 else 0,ok:=aT s.3 (2*n+5+2*t+3*x.3+2) x.10} }))))))))
theorem L5(t n:Int)(x:EXS)(s:MS)(K:ExO→Prop)(h:(DG t n x s).run K):cT' 177 [.ptr 0 0,.ptr 1 0] [cE' [.I t,.I n,.I x.popped,.I x.gave,.I x.u,.I x.sh,.I x.kd,.I x.ky,.bool x.only,.I x.att,.I 3,.int .u64 x.found,.int .u64 x.word],aY 2 s,aZ s] (cF 3 0 [] [] (xQ t n) K):=by
 exact cM' (E:=EX2) (by kernel_rfl) h
def DH(t n:Int)(x:EXS)(s:MS):Tr ExO:=.pre True (.pre True (.pre True (.pre (lE' s.3) (.pre True (.pre (w0g n t x) (.pre ((lE' s.3∧(0:Int)≤s.4∧s.4≤(4611686018427387904:Int))∧True) (.pre ((t=t∧n=n)∧lE' (bif aT s.3 (2*n+5+2*t+3*x.3+2) x.10 then aS s.3 (2*n+5+2*t+3*x.3+2) (bif dOk (aA x.10 0 12) (aA x.10 12 9) (aA x.10 21 18) (aA x.10 39 9) 4 (aA x.10 52 10)then cT (aA x.10 0 12) (aA x.10 12 9) (aA x.10 21 18) (aA x.10 39 9) (w0k x) 4 (aA x.10 52 10)else 0)else s.3)) (.ret {d:=true,x:= {x with at':=4},s:= {t:=s.1,n:=s.2,xs:=bif aT s.3 (2*n+5+2*t+3*x.3+2) x.10 then aS s.3 (2*n+5+2*t+3*x.3+2) (bif dOk (aA x.10 0 12) (aA x.10 12 9) (aA x.10 21 18) (aA x.10 39 9) 4 (aA x.10 52 10)then cT (aA x.10 0 12) (aA x.10 12 9) (aA x.10 21 18) (aA x.10 39 9) (w0k x) 4 (aA x.10 52 10)else 0)else s.3,c:=s.4+1,k:=3,a:=2*n+5+2*t+3*x.3+2,o:=aB s.3 (2*n+5+2*t+3*x.3+2),w:=bif bS s.3 (2*n+5+2*t+3*x.3+2)then bif dOk (aA x.10 0 12) (aA x.10 12 9) (aA x.10 21 18) (aA x.10 39 9) 4 (aA x.10 52 10)then cT (aA x.10 0 12) (aA x.10 12 9) (aA x.10 21 18) (aA x.10 39 9) (w0k x) 4 (aA x.10 52 10)else 0 else 0,ok:=aT s.3 (2*n+5+2*t+3*x.3+2) x.10} }))))))))
theorem L6(t n:Int)(x:EXS)(s:MS)(K:ExO→Prop)(h:(DH t n x s).run K):cT' 177 [.ptr 0 0,.ptr 1 0] [cE' [.I t,.I n,.I x.popped,.I x.gave,.I x.u,.I x.sh,.I x.kd,.I x.ky,.bool x.only,.I x.att,.I 4,.int .u64 x.found,.int .u64 x.word],aY 2 s,aZ s] (cF 3 0 [] [] (xQ t n) K):=by
 exact cM' (E:=EX2) (by kernel_rfl) h
abbrev w0d(s:MS)(x:EXS):Tr ExO:=.ret {d:=false,x:= {x with at':=7,word:=aB s.3 (aA x.10 12 9) },s:= {s with c:=s.4+1,k:=1,a:=aA x.10 12 9,o:=aB s.3 (aA x.10 12 9),w:=aB s.3 (aA x.10 12 9),ok:=bS s.3 (aA x.10 12 9) } }
abbrev w0p(s:MS)(x:EXS):Tr ExO:=.ret {d:=false,x:= {x with at':=6,word:=aB s.3 (aA x.10 12 9) },s:= {s with c:=s.4+1,k:=1,a:=aA x.10 12 9,o:=aB s.3 (aA x.10 12 9),w:=aB s.3 (aA x.10 12 9),ok:=bS s.3 (aA x.10 12 9) } }
def DI(t n:Int)(x:EXS)(s:MS):Tr ExO:=.pre True (.pre True (.pre True (.pre (lE' s.3∧(0:Int)≤s.4∧s.4≤(4611686018427387904:Int)) (.pre True (.pre True (.ite (w0j s x) (.ite (ieq (aA (aB s.3 (aA x.10 12 9)) 20 5) 0) (.pre ((t=t∧n=n)∧lE' s.3) (w0d s x)) (.pre True (.ite (w0j s x) (.ite (w0r s x) (.pre ((t=t∧n=n)∧lE' s.3) (w0p s x)) (.pre ((t=t∧n=n)∧lE' s.3) (w0d s x))) (.pre ((t=t∧n=n)∧lE' s.3) (w0d s x))))) (.pre True (.ite (w0j s x) (.ite (w0r s x) (.pre ((t=t∧n=n)∧lE' s.3) (w0p s x)) (.pre ((t=t∧n=n)∧lE' s.3) (w0d s x))) (.pre ((t=t∧n=n)∧lE' s.3) (w0d s x))))))))))
theorem L7(t n:Int)(x:EXS)(s:MS)(K:ExO→Prop)(h:(DI t n x s).run K):cT' 177 [.ptr 0 0,.ptr 1 0] [cE' [.I t,.I n,.I x.popped,.I x.gave,.I x.u,.I x.sh,.I x.kd,.I x.ky,.bool x.only,.I x.att,.I 5,.int .u64 x.found,.int .u64 x.word],aY 2 s,aZ s] (cF 3 0 [] [] (xQ t n) K):=by
 exact cM' (E:=EX2) (by kernel_rfl) h
abbrev w0t(x:EXS):=aR (aA x.11 25 18)
def DJ(t n:Int)(x:EXS)(s:MS):Tr ExO:=.pre True (.pre True (.pre ((0:Int)≤aA x.11 25 18∧aA x.11 25 (18:Int)≤(1000000:Int)) (.pre (lE' s.3) (.pre True (.pre True (.pre ((lE' s.3∧(0:Int)≤s.4∧s.4≤(4611686018427387904:Int))∧True) (.pre ((t=t∧n=n)∧lE' (bif aT s.3 (aA x.10 12 9) x.11 then aS s.3 (aA x.10 12 9) (bif bif aH (aA x.11 0 10) 10 then bif aH (aA x.11 10 9) 9 then bif aH 0 5 then aH (w0t x) 18 else false else false else false then bY (aA x.11 0 10) (aA x.11 10 9) (ieq (aA x.11 19 1) 1) 0 (w0t x)else 0)else s.3)) (.ret {d:=false,x:= {x with at':=7},s:= {t:=s.1,n:=s.2,xs:=bif aT s.3 (aA x.10 12 9) x.11 then aS s.3 (aA x.10 12 9) (bif bif aH (aA x.11 0 10) 10 then bif aH (aA x.11 10 9) 9 then bif aH 0 5 then aH (w0t x) 18 else false else false else false then bY (aA x.11 0 10) (aA x.11 10 9) (ieq (aA x.11 19 1) 1) 0 (w0t x)else 0)else s.3,c:=s.4+1,k:=3,a:=aA x.10 12 9,o:=aB s.3 (aA x.10 12 9),w:=bif bS s.3 (aA x.10 12 9)then bif bif aH (aA x.11 0 10) 10 then bif aH (aA x.11 10 9) 9 then bif aH 0 5 then aH (w0t x) 18 else false else false else false then bY (aA x.11 0 10) (aA x.11 10 9) (ieq (aA x.11 19 1) 1) 0 (w0t x)else 0 else 0,ok:=aT s.3 (aA x.10 12 9) x.11} }))))))))
theorem L8(t n:Int)(x:EXS)(s:MS)(K:ExO→Prop)(h:(DJ t n x s).run K):cT' 177 [.ptr 0 0,.ptr 1 0] [cE' [.I t,.I n,.I x.popped,.I x.gave,.I x.u,.I x.sh,.I x.kd,.I x.ky,.bool x.only,.I x.att,.I 6,.int .u64 x.found,.int .u64 x.word],aY 2 s,aZ s] (cF 3 0 [] [] (xQ t n) K):=by
 exact cM' (E:=EX2) (by kernel_rfl) h
def DK(t n:Int)(x:EXS)(s:MS):Tr ExO:=.pre True (.pre True (.pre True (.pre (lE' s.3) (.pre True (.pre (w0g n t x) (.pre ((lE' s.3∧(0:Int)≤s.4∧s.4≤(4611686018427387904:Int))∧True) (.pre ((t=t∧n=n)∧lE' (bif aT s.3 (2*n+5+2*t+3*x.3+2) x.10 then aS s.3 (2*n+5+2*t+3*x.3+2) (bif dOk (aA x.10 0 12) 0 0 0 5 (aA x.10 52 10)then cT (aA x.10 0 12) 0 0 0 true 5 (aA x.10 52 10)else 0)else s.3)) (.ret {d:=true,x:= {x with at':=7},s:= {t:=s.1,n:=s.2,xs:=bif aT s.3 (2*n+5+2*t+3*x.3+2) x.10 then aS s.3 (2*n+5+2*t+3*x.3+2) (bif dOk (aA x.10 0 12) 0 0 0 5 (aA x.10 52 10)then cT (aA x.10 0 12) 0 0 0 true 5 (aA x.10 52 10)else 0)else s.3,c:=s.4+1,k:=3,a:=2*n+5+2*t+3*x.3+2,o:=aB s.3 (2*n+5+2*t+3*x.3+2),w:=bif bS s.3 (2*n+5+2*t+3*x.3+2)then bif dOk (aA x.10 0 12) 0 0 0 5 (aA x.10 52 10)then cT (aA x.10 0 12) 0 0 0 true 5 (aA x.10 52 10)else 0 else 0,ok:=aT s.3 (2*n+5+2*t+3*x.3+2) x.10} }))))))))
theorem L9(t n:Int)(x:EXS)(s:MS)(K:ExO→Prop)(h:(DK t n x s).run K):cT' 177 [.ptr 0 0,.ptr 1 0] [cE' [.I t,.I n,.I x.popped,.I x.gave,.I x.u,.I x.sh,.I x.kd,.I x.ky,.bool x.only,.I x.att,.I 7,.int .u64 x.found,.int .u64 x.word],aY 2 s,aZ s] (cF 3 0 [] [] (xQ t n) K):=by
 exact cM' (E:=EX2) (by kernel_rfl) h
abbrev w0q(x:EXS):=eY (aA x.10 0 12)
abbrev w0h(n:Int)(s:MS)(t:Int)(x:EXS):Tr ExO:=.ret {d:=true,x:= {x with at':=9},s:= {t:=s.1,n:=s.2,xs:=bif aT s.3 (2*n+5+2*t+3*x.3+2) x.10 then aS s.3 (2*n+5+2*t+3*x.3+2) (bif dOk (w0q x) 0 0 0 1 0 then cT (w0q x) 0 0 0 false 1 0 else 0)else s.3,c:=s.4+1,k:=3,a:=2*n+5+2*t+3*x.3+2,o:=aB s.3 (2*n+5+2*t+3*x.3+2),w:=bif bS s.3 (2*n+5+2*t+3*x.3+2)then bif dOk (w0q x) 0 0 0 1 0 then cT (w0q x) 0 0 0 false 1 0 else 0 else 0,ok:=aT s.3 (2*n+5+2*t+3*x.3+2) x.10} }
def DL(t n:Int)(x:EXS)(s:MS):Tr ExO:=.pre True (.pre True (.pre ((0:Int)≤aA x.10 0 12∧aA x.10 0 (12:Int)≤(1000000:Int)) (.pre (lE' s.3∧True∧(w0g n t x)∧((lE' s.3∧(0:Int)≤s.4∧s.4≤(4611686018427387904:Int))∧True)∧True) (.ite (!aT s.3 (2*n+5+2*t+3*x.3+2) x.10) (.pre ((t=t∧n=n)∧lE' (bif aT s.3 (2*n+5+2*t+3*x.3+2) x.10 then aS s.3 (2*n+5+2*t+3*x.3+2) (bif dOk (w0q x) 0 0 0 1 0 then cT (w0q x) 0 0 0 false 1 0 else 0)else s.3)) (w0h n s t x)) (.pre True (.ite (!bV x.5) (.pre ((t=t∧n=n)∧lE' (bif aT s.3 (2*n+5+2*t+3*x.3+2) x.10 then aS s.3 (2*n+5+2*t+3*x.3+2) (bif dOk (w0q x) 0 0 0 1 0 then cT (w0q x) 0 0 0 false 1 0 else 0)else s.3)) (w0h n s t x)) (.pre (True∧True) (.pre ((t=t∧n=n)∧lE' (bif aT s.3 (2*n+5+2*t+3*x.3+2) x.10 then aS s.3 (2*n+5+2*t+3*x.3+2) (bif dOk (w0q x) 0 0 0 1 0 then cT (w0q x) 0 0 0 false 1 0 else 0)else s.3)) (.ret {d:=!bK n (aA x.10 39 9),x:= {x with at':=9},s:= {t:=s.1,n:=s.2,xs:=bif aT s.3 (2*n+5+2*t+3*x.3+2) x.10 then aS s.3 (2*n+5+2*t+3*x.3+2) (bif dOk (w0q x) 0 0 0 1 0 then cT (w0q x) 0 0 0 false 1 0 else 0)else s.3,c:=s.4+1,k:=3,a:=2*n+5+2*t+3*x.3+2,o:=aB s.3 (2*n+5+2*t+3*x.3+2),w:=bif bS s.3 (2*n+5+2*t+3*x.3+2)then bif dOk (w0q x) 0 0 0 1 0 then cT (w0q x) 0 0 0 false 1 0 else 0 else 0,ok:=aT s.3 (2*n+5+2*t+3*x.3+2) x.10} })))))))))
theorem MA(t n:Int)(x:EXS)(s:MS)(K:ExO→Prop)(h:(DL t n x s).run K):cT' 177 [.ptr 0 0,.ptr 1 0] [cE' [.I t,.I n,.I x.popped,.I x.gave,.I x.u,.I x.sh,.I x.kd,.I x.ky,.bool x.only,.I x.att,.I 8,.int .u64 x.found,.int .u64 x.word],aY 2 s,aZ s] (cF 3 0 [] [] (xQ t n) K):=by
 exact cM' (E:=EX2) (by kernel_rfl) h
abbrev w0u(n:Int)(x:EXS):=n+4+aA x.10 39 9
def DM(t n:Int)(x:EXS)(s:MS):Tr ExO:=.pre True (.pre True (.pre ((((0:Int)≤t∧t≤(100000:Int))∧((0:Int)≤n∧n≤(100000:Int))∧(-1099511627776:Int)≤aA x.10 39 9∧aA x.10 39 (9:Int)≤(1099511627776:Int))∧True) (.pre ((lE' s.3∧(0:Int)≤s.4∧s.4≤(4611686018427387904:Int))∧True) (.pre ((t=t∧n=n)∧lE' (aS s.3 (w0u n x) (WU (aB s.3 (w0u n x)+1)))) (.ret {d:=true,x:= {x with gave:=aA x.10 39 9,at':=9},s:= {t:=s.1,n:=s.2,xs:=aS s.3 (w0u n x) (WU (aB s.3 (w0u n x)+1)),c:=s.4+1,k:=4,a:=n+4+aA x.10 39 9,o:=aB s.3 (w0u n x),w:=bif bS s.3 (w0u n x)then WU (aB s.3 (w0u n x)+1)else 0,ok:=bS s.3 (w0u n x) } })))))
theorem MB(t n:Int)(x:EXS)(s:MS)(K:ExO→Prop)(h:(DM t n x s).run K):cT' 177 [.ptr 0 0,.ptr 1 0] [cE' [.I t,.I n,.I x.popped,.I x.gave,.I x.u,.I x.sh,.I x.kd,.I x.ky,.bool x.only,.I x.att,.I 9,.int .u64 x.found,.int .u64 x.word],aY 2 s,aZ s] (cF 3 0 [] [] (xQ t n) K):=by
 exact cM' (E:=EX2) (by kernel_rfl) h
def exT(t n:Int)(x:EXS)(s:MS):Tr ExO:=
 bif ieq x.at' 0 then DD t n x s else
 bif ieq x.at' 1 then DE t n x s else
 bif ieq x.at' 2 then DF t n x s else
 bif ieq x.at' 3 then DG t n x s else
 bif ieq x.at' 4 then DH t n x s else
 bif ieq x.at' 5 then DI t n x s else
 bif ieq x.at' 6 then DJ t n x s else
 bif ieq x.at' 7 then DK t n x s else
 bif ieq x.at' 8 then DL t n x s else
 bif ieq x.at' 9 then DM t n x s else .pre False (.ret default)
def lU(t n:Int)(x:EXS)(s:MS):ExO:=(exT t n x s).val
def aA6(t n:Int)(x:EXS)(s:MS):Prop:=(exT t n x s).ok
theorem VZ(t n:Int)(x:EXS)(s:MS)(K:AVal→aD Ob→Prop)(h:(exT t n x s).run (fun y=>(ExO.fin t n y).run K)):cT' 177 [.ptr 0 0,.ptr 1 0] (exH t n x s) K:=by
 unfold exT at h
 by_cases e:x.at'=0
 ·rw [e]at h;have h:(DD t n x s).run _:=h;refine aFR (root:=0) (pos:=[]) (cs:=[]) (parse:=xQ t n) (fin:=ExO.fin t n) lB (bF.unpack (.exec t n x) 0 0 (gV t n x) [] rfl (congrArg (Prod.mk 0) rfl) (by kernel_rfl) rfl) ?_
  have q:=L1 t n x s _ h;rw [←e]at q;exact q
 rw [b8 e]at h
 by_cases e:x.at'=1
 ·rw [e]at h;have h:(DE t n x s).run _:=h;refine aFR (root:=0) (pos:=[]) (cs:=[]) (parse:=xQ t n) (fin:=ExO.fin t n) lB (bF.unpack (.exec t n x) 0 0 (gV t n x) [] rfl (congrArg (Prod.mk 0) rfl) (by kernel_rfl) rfl) ?_
  have q:=L3 t n x s _ h;rw [←e]at q;exact q
 rw [b8 e]at h
 by_cases e:x.at'=2
 ·rw [e]at h;have h:(DF t n x s).run _:=h;refine aFR (root:=0) (pos:=[]) (cs:=[]) (parse:=xQ t n) (fin:=ExO.fin t n) lB (bF.unpack (.exec t n x) 0 0 (gV t n x) [] rfl (congrArg (Prod.mk 0) rfl) (by kernel_rfl) rfl) ?_
  have q:=L4 t n x s _ h;rw [←e]at q;exact q
 rw [b8 e]at h
 by_cases e:x.at'=3
 ·rw [e]at h;have h:(DG t n x s).run _:=h;refine aFR (root:=0) (pos:=[]) (cs:=[]) (parse:=xQ t n) (fin:=ExO.fin t n) lB (bF.unpack (.exec t n x) 0 0 (gV t n x) [] rfl (congrArg (Prod.mk 0) rfl) (by kernel_rfl) rfl) ?_
  have q:=L5 t n x s _ h;rw [←e]at q;exact q
 rw [b8 e]at h
 by_cases e:x.at'=4
 ·rw [e]at h;have h:(DH t n x s).run _:=h;refine aFR (root:=0) (pos:=[]) (cs:=[]) (parse:=xQ t n) (fin:=ExO.fin t n) lB (bF.unpack (.exec t n x) 0 0 (gV t n x) [] rfl (congrArg (Prod.mk 0) rfl) (by kernel_rfl) rfl) ?_
  have q:=L6 t n x s _ h;rw [←e]at q;exact q
 rw [b8 e]at h
 by_cases e:x.at'=5
 ·rw [e]at h;have h:(DI t n x s).run _:=h;refine aFR (root:=0) (pos:=[]) (cs:=[]) (parse:=xQ t n) (fin:=ExO.fin t n) lB (bF.unpack (.exec t n x) 0 0 (gV t n x) [] rfl (congrArg (Prod.mk 0) rfl) (by kernel_rfl) rfl) ?_
  have q:=L7 t n x s _ h;rw [←e]at q;exact q
 rw [b8 e]at h
 by_cases e:x.at'=6
 ·rw [e]at h;have h:(DJ t n x s).run _:=h;refine aFR (root:=0) (pos:=[]) (cs:=[]) (parse:=xQ t n) (fin:=ExO.fin t n) lB (bF.unpack (.exec t n x) 0 0 (gV t n x) [] rfl (congrArg (Prod.mk 0) rfl) (by kernel_rfl) rfl) ?_
  have q:=L8 t n x s _ h;rw [←e]at q;exact q
 rw [b8 e]at h
 by_cases e:x.at'=7
 ·rw [e]at h;have h:(DK t n x s).run _:=h;refine aFR (root:=0) (pos:=[]) (cs:=[]) (parse:=xQ t n) (fin:=ExO.fin t n) lB (bF.unpack (.exec t n x) 0 0 (gV t n x) [] rfl (congrArg (Prod.mk 0) rfl) (by kernel_rfl) rfl) ?_
  have q:=L9 t n x s _ h;rw [←e]at q;exact q
 rw [b8 e]at h
 by_cases e:x.at'=8
 ·rw [e]at h;have h:(DL t n x s).run _:=h;refine aFR (root:=0) (pos:=[]) (cs:=[]) (parse:=xQ t n) (fin:=ExO.fin t n) lB (bF.unpack (.exec t n x) 0 0 (gV t n x) [] rfl (congrArg (Prod.mk 0) rfl) (by kernel_rfl) rfl) ?_
  have q:=MA t n x s _ h;rw [←e]at q;exact q
 rw [b8 e]at h
 by_cases e:x.at'=9
 ·rw [e]at h;have h:(DM t n x s).run _:=h;refine aFR (root:=0) (pos:=[]) (cs:=[]) (parse:=xQ t n) (fin:=ExO.fin t n) lB (bF.unpack (.exec t n x) 0 0 (gV t n x) [] rfl (congrArg (Prod.mk 0) rfl) (by kernel_rfl) rfl) ?_
  have q:=MB t n x s _ h;rw [←e]at q;exact q
 rw [b8 e]at h;exact h.1.elim
noncomputable def exS:aG Ob:=fun args h=>match args,h with
 | [.ptr 0 0,.ptr 1 0],[some (.abs (.exec t n x) []),e1,e2]=>(match cU 2 [e1,e2]with
   | some (l,s)=>some (.pre (l=s.xs.length∧aA6 t n x s) (ExO.fin t n (lU t n x s)))
   | none=>none)
 | _,_=>none
theorem aDP:sT' 177 exS:=by
 intro args h o ho K hK;unfold exS at ho;split at ho
 case h_2=>cases ho
 split at ho<;>cases ho
 rename_i hm;obtain⟨⟨hl,ok⟩,hK⟩:=hK;have hh:=bB hm hl;cases hh;exact VZ _ _ _ _ K (aFW ok hK)
def aA3(t n:Int)(v:AVal)(g:aD Ob):Option (Prop×EXS):=match v,g with
 | .ptr 0 0,[some (.cells [.int .i64 t1,.int .i64 n1,.int .i64 popped,.int .i64 gave,.int .i64 u,.int .i64 sh,.int .i64 kd,.int .i64 ky,.bool only,.int .i64 att,.int .i64 at',.int .u64 found,.int .u64 word])]=>some ((t1=t∧n1=n),(⟨popped,gave,u,sh,kd,ky,only,att,at',found,word⟩:EXS))
 | _,_=>none
abbrev VV(t n:Int)(y:EXS):aD Ob:=[some (.abs (.exec t n y) [])]
theorem VW{t n:Int} :cE (obI tbl) 0 (aA3 t n) (fun y=>.ret (.ptr 0 0) (VV t n y)):=by
 intro v g p x hp hq K hK;unfold aA3 at hp;split at hp
 case h_2=>cases hp
 rename_i t1 n1 popped gave u sh kd ky only att at' found word;simp only [sI',pI']at hp;obtain⟨rfl,rfl⟩:=hp;obtain⟨rfl,rfl⟩:=hq;exact⟨⟨_,_,aF.pack (VV t1 n1 (⟨popped,gave,u,sh,kd,ky,only,att,at',found,word⟩:EXS)) (.exec t1 n1 (⟨popped,gave,u,sh,kd,ky,only,att,at',found,word⟩:EXS)) 0 0 (gV t1 n1 (⟨popped,gave,u,sh,kd,ky,only,att,at',found,word⟩:EXS)) [] (by kernel_rfl) rfl (congrArg (Prod.mk 0) rfl) (by kernel_rfl),hK⟩⟩
def aA4(t n:Int)(u sh kd ky att:Int):Tr EXS:=.pre (t=t∧n=n) (.ret {popped:=0,gave:=0,u:=u,sh:=sh,kd:=kd,ky:=ky,only:=true,att:=att,at':=0,found:=0,word:=0})
def aA2(t n:Int)(u sh kd ky att:Int):EXS:=(aA4 t n u sh kd ky att).val
def QF(t n:Int)(u sh kd ky att:Int):Prop:=(aA4 t n u sh kd ky att).ok
def exNS:aG Ob:=fun args h=>match args,h with
 | [.agg [.int .i64 t,.int .i64 n],.int .i64 u,.agg [.int .i64 sh,.int .i64 kd,.int .i64 ky],.int .i64 att],[]=>some (.pre (QF t n u sh kd ky att) (.ret (.ptr 0 0) (VV t n (aA2 t n u sh kd ky att))))
 | _,_=>none
theorem aA5:sT' 174 exNS:=by
 intro args h o ho K hK;unfold exNS at ho;split at ho<;>cases ho
 rename_i t n u sh kd ky att;obtain⟨ok,hK⟩:=hK;refine aF0 (root:=0) (pos:=[]) (cs:=[]) (parse:=aA3 t n) VW ?_;exact cM' (E:=EX2) (q:=(aA4 t n u sh kd ky att).run (fun y=>(Out.ret (.ptr 0 0) (VV t n y)).run K)) (by kernel_rfl) (aFW ok hK)
noncomputable def EC6:=((EX2.addS 177 exS aDP).addS 174 exNS aA5)
structure PrO where
 d:Bool
 x:PRS
 st:STS
 s:MS
instance:Inhabited PrO:=⟨⟨false,⟨0,0,0,false⟩,⟨0,0,[]⟩,⟨0,0,[],0,0,0,0,0,false⟩⟩⟩
instance:Inhabited PRS:=⟨⟨0,0,0,false⟩⟩
abbrev prH(t n:Int)(x:PRS)(st:STS)(s:MS):aD Ob:=[some (.abs (.prepare t n x) [1]),some (.abs (.store t n st) []),aY 3 s,aZ s]
abbrev prD(t n:Int)(x:PRS)(st:STS)(s:MS):aD Ob:=[cE' [.ptr 1 0,.I x.key,.I x.nxt,.int .u64 x.found,.bool x.loaded],some (.abs (.store t n st) []),aY 3 s,aZ s]
def PrO.fin(t n:Int)(y:PrO):Out Ob:=.ite y.d (.ret (.bool true) (prD t n y.x y.st y.s)) (.ret (.bool false) (prH t n y.x y.st y.s))
def aCn(t n:Int)(v:AVal)(g:aD Ob):Option (Prop×PrO):=match v,g with
 | .bool d,[some (.cells [.ptr 1 0,.int .i64 key,.int .i64 nxt,.int .u64 found,.bool loaded]),e1,e3,e4,e2]=>(match lL 4 [e1,e2],cU 3 [e3,e4]with
   | some (l2,t2,n2,st),some (l,s)=>some ((t2=t∧n2=n)∧l=s.xs.length∧l2=st.R.length,⟨d,⟨key,nxt,found,loaded⟩,st,s⟩)
   | _,_=>none)
 | _,_=>none
def prP(t n:Int)(v:AVal)(g:aD Ob):Option (Prop×PrO):=aCn t n v g
theorem XY{t n:Int} :cE (obI tbl) 4 (aCn t n) (PrO.fin t n):=by
 intro v g p x hp hq K hK;unfold aCn at hp;split at hp
 case h_2=>cases hp
 rename_i d key nxt found loaded e1 e3 e4 e2;split at hp
 case h_2=>cases hp
 rename_i l2 t2 n2 st l s hs hm;simp only [sI',pI']at hp;obtain⟨rfl,rfl⟩:=hp;obtain⟨⟨rfl,rfl⟩,hl,hl2⟩:=hq;have hh:=bB hm hl;cases hh;have hh:=cH hs hl2;cases hh;refine sJ hK (fun h=>?_) (fun h=>?_)
 ·exact⟨⟨_,_,(aF.pack (prD t2 n2 (⟨key,nxt,found,loaded⟩:PRS) st s) (.store t2 n2 st) 1 0 (dJ t2 n2 st) [] (by kernel_rfl) rfl rfl (by kernel_rfl)),h⟩⟩
 ·exact let X0:PRS:=⟨key,nxt,found,loaded⟩;⟨⟨_,_,((aF.pack (bA (prH t2 n2 X0 st s) 0 1 (l9 t2 n2 X0) [1]) (.store t2 n2 st) 1 0 (dJ t2 n2 st) [] (by kernel_rfl) rfl rfl (by kernel_rfl)).trans (aF.pack (prH t2 n2 X0 st s) (.prepare t2 n2 X0) 0 1 (l9 t2 n2 X0) [1] (by kernel_rfl) rfl (congrArg (Prod.mk 1) rfl) (by kernel_rfl))),h⟩⟩
theorem aCo{t n:Int} :cE (obI tbl) 4 (prP t n) (PrO.fin t n):=by
 intro v g p x hp hq K hK;unfold prP at hp;exact XY v g p x hp hq K hK
abbrev w0v(x:PRS):=aR (aA x.3 25 18)
def OG(t n:Int)(x:PRS)(st:STS)(s:MS):Tr PrO:=.ite (!x.4) (.pre (lE' s.3∧(0:Int)≤s.4∧s.4≤(4611686018427387904:Int)) (.pre ((t=t∧n=n)∧lE' s.3∧lE' st.3) (.ret {d:=false,x:= {key:=x.1,nxt:=x.2,found:=aB s.3 st.2,loaded:=true},st:= {me:=st.1,sp:=st.2,R:=st.3},s:= {s with c:=s.4+1,k:=1,a:=st.2,o:=aB s.3 st.2,w:=aB s.3 st.2,ok:=bS s.3 st.2} }))) (.pre True (.pre ((0:Int)≤aA x.3 25 18∧aA x.3 25 (18:Int)≤(1000000:Int)) (.pre True (.pre (lE' s.3∧(0:Int)≤s.4∧s.4≤(4611686018427387904:Int)) (.pre ((t=t∧n=n)∧lE' (aS s.3 st.2 (bif bif aH x.1 10 then bif aH x.2 9 then bif aH 0 5 then aH (w0v x) 18 else false else false else false then bY x.1 x.2 false 0 (w0v x)else 0))∧lE' st.3) (.ret {d:=true,x:= x,st:= {me:=st.1,sp:=st.2,R:=st.3},s:= {t:=s.1,n:=s.2,xs:=aS s.3 st.2 (bif bif aH x.1 10 then bif aH x.2 9 then bif aH 0 5 then aH (w0v x) 18 else false else false else false then bY x.1 x.2 false 0 (w0v x)else 0),c:=s.4+1,k:=2,a:=st.2,o:=aB s.3 st.2,w:=bif bS s.3 st.2 then bif bif aH x.1 10 then bif aH x.2 9 then bif aH 0 5 then aH (w0v x) 18 else false else false else false then bY x.1 x.2 false 0 (w0v x)else 0 else 0,ok:=bS s.3 st.2} }))))))
theorem SH(t n:Int)(x:PRS)(st:STS)(s:MS)(K:PrO→Prop)(h:(OG t n x st s).run K):cT' 98 [.ptr 0 0,.ptr 2 0] [cE' [.ptr 1 0,.I x.key,.I x.nxt,.int .u64 x.found,.bool x.loaded],stC 4 t n st,aY 3 s,aZ s,hO st] (cF 4 0 [] [(.cell 1 4,.ints (some .i64))] (prP t n) K):=by
 exact cM' (E:=EC6) (by kernel_rfl) h
def ZP(t n:Int)(x:PRS)(st:STS)(s:MS):Tr PrO:=OG t n x st s
def prF(t n:Int)(x:PRS)(st:STS)(s:MS):PrO:=(ZP t n x st s).val
def SG(t n:Int)(x:PRS)(st:STS)(s:MS):Prop:=(ZP t n x st s).ok
theorem KF(t n:Int)(x:PRS)(st:STS)(s:MS)(K:AVal→aD Ob→Prop)(h:(ZP t n x st s).run (fun y=>(PrO.fin t n y).run K)):cT' 98 [.ptr 0 0,.ptr 2 0] (prH t n x st s) K:=by
 unfold ZP at h;exact aFR (root:=0) (pos:=[]) (cs:=[(.cell 1 4,.ints (some .i64))]) (parse:=prP t n) (fin:=PrO.fin t n) aCo ((bF.unpack (.prepare t n x) 0 1 (l9 t n x) [1] rfl (congrArg (Prod.mk 1) rfl) (by kernel_rfl) rfl).trans (bF.unpack (.store t n st) 1 0 (dJ t n st) [] rfl rfl rfl rfl)) (SH t n x st s _ h)
noncomputable def prSA:aG Ob:=fun args h=>match args,h with
 | [.ptr 0 0,.ptr 2 0],[some (.abs (.prepare t n x) [1]),some (.abs (.store t2 n2 st) []),e3,e4]=>(match cU 3 [e3,e4]with
   | some (l,s)=>some (.pre ((l=s.xs.length∧t2=t∧n2=n)∧SG t n x st s) (PrO.fin t n (prF t n x st s)))
   | none=>none)
 | _,_=>none
theorem aCp:sT' 98 prSA:=by
 intro args h o ho K hK;unfold prSA at ho;split at ho
 case h_2=>cases ho
 split at ho<;>cases ho
 rename_i hm;obtain⟨⟨⟨hl,rfl,rfl⟩,ok⟩,hK⟩:=hK;have hh:=bB hm hl;cases hh;exact KF _ _ _ _ _ K (aFW ok hK)
def PrO.finB(t n:Int)(y:PrO):Out Ob:=.ite y.d (.ret (.bool true) ([cE' [.ptr 1 0,.I y.x.key,.I y.x.nxt,.int .u64 y.x.found,.bool y.x.loaded],stC 5 t n y.st,none,aY 4 y.s,aZ y.s,hO y.st])) (.ret (.bool false) [some (.abs (.prepare t n y.x) [1]),stC 5 t n y.st,none,aY 4 y.s,aZ y.s,hO y.st])
noncomputable def prSB:aG Ob:=fun args h=>match args,h with
 | [.ptr 0 0,.ptr 3 0],[some (.abs (.prepare t n x) [1]),e1,e2,e3,e4]=>(match lL 2 [e1,e2],cU 4 [e3,e4]with
   | some (l2,t2,n2,st),some (l,s)=>some (.pre ((l=s.xs.length∧l2=st.R.length∧t2=t∧n2=n)∧SG t n x st s) (PrO.finB t n (prF t n x st s)))
   | _,_=>none)
 | _,_=>none
theorem aCq:sT' 98 prSB:=by
 intro args h o ho K hK;unfold prSB at ho;split at ho
 case h_2=>cases ho
 split at ho<;>cases ho
 rename_i hs hm;obtain⟨⟨⟨hl,hl2,rfl,rfl⟩,ok⟩,hK⟩:=hK;have hh:=bB hm hl;cases hh;have hh:=cH hs hl2;cases hh;exact jP (fun ι hι=>by simp [aM.ren,aFY,AVal.ren,hι]) (fun ι hι=>by simp [aM.ren,hι]) (fun K hK=>KF _ _ _ _ _ K (aFW ok hK)) K hK
noncomputable def prS:aG Ob:=aG.or prSA prSB
theorem aEB:sT' 98 prS:=aF6 aCp aCq
def aCl(t n:Int)(v:AVal)(g:aD Ob):Option (Prop×(PRS×STS)):=match v,g with
 | .ptr 2 0,[e1,e2,some (.cells [.ptr 0 0,.int .i64 key,.int .i64 nxt,.int .u64 found,.bool loaded])]=>(match lL 1 [e1,e2]with
   | some (l2,t2,n2,st)=>some ((t2=t∧n2=n∧l2=st.R.length),⟨(⟨key,nxt,found,loaded⟩:PRS),st⟩)
   | none=>none)
 | _,_=>none
abbrev XV(t n:Int)(y:(PRS×STS)):aD Ob:=[stC 1 t n y.2,hO y.2,some (.abs (.prepare t n y.1) [0])]
theorem XW{t n:Int} :cE (obI tbl) 2 (aCl t n) (fun y=>.ret (.ptr 2 0) (XV t n y)):=by
 intro v g p x hp hq K hK;unfold aCl at hp;split at hp
 case h_2=>cases hp
 rename_i e1 e2 key nxt found loaded;split at hp
 case h_2=>cases hp
 rename_i l2 t2 n2 st hs;simp only [sI',pI']at hp;obtain⟨rfl,rfl⟩:=hp;obtain⟨rfl,rfl,hl2⟩:=hq;have hh:=cH hs hl2;cases hh;exact⟨⟨_,_,aF.pack (XV t2 n2 ((⟨key,nxt,found,loaded⟩:PRS),st)) (.prepare t2 n2 (⟨key,nxt,found,loaded⟩:PRS)) 2 1 (l9 t2 n2 (⟨key,nxt,found,loaded⟩:PRS)) [0] (by kernel_rfl) rfl (congrArg (Prod.mk 1) rfl) (by kernel_rfl),hK⟩⟩
def XX(t n:Int)(key nx:Int)(st:STS):Tr (PRS×STS):=.pre (t=t∧n=n∧lE' st.3) (.ret ({key:=key,nxt:=nx,found:=0,loaded:=false},{me:=st.1,sp:=st.2,R:=st.3}))
def l8(t n:Int)(key nx:Int)(st:STS):(PRS×STS):=(XX t n key nx st).val
def FK(t n:Int)(key nx:Int)(st:STS):Prop:=(XX t n key nx st).ok
def prNS:aG Ob:=fun args h=>match args,h with
 | [.ptr 0 0,.int .i64 key,.int .i64 nx],[e1,e2]=>(match lL 1 [e1,e2]with
   | some (l2,t,n,st)=>some (.pre (l2=st.R.length∧FK t n key nx st) (.ret (.ptr 2 0) (XV t n (l8 t n key nx st))))
   | none=>none)
 | _,_=>none
theorem aCm:sT' 160 prNS:=by
 intro args h o ho K hK;unfold prNS at ho;split at ho
 case h_2=>cases ho
 rename_i key nx e1 e2;split at ho<;>cases ho
 rename_i l2 t n st hs;obtain⟨⟨hl2,ok⟩,hK⟩:=hK;have hh:=cH hs hl2;cases hh;refine aF0 (root:=2) (pos:=[]) (cs:=[]) (parse:=aCl t n) XW ?_;exact cM' (E:=EC6) (q:=(XX t n key nx st).run (fun y=>(Out.ret (.ptr 2 0) (XV t n y)).run K)) (by kernel_rfl) (aFW ok hK)
noncomputable def EC7:=((EC6.addS 98 prS aEB).addS 160 prNS aCm)
structure FnO where
 d:Bool
 x:FNS
 s:MS
instance:Inhabited FnO:=⟨⟨false,aP,⟨0,0,[],0,0,0,0,0,false⟩⟩⟩
instance:Inhabited FNS:=⟨aP⟩
abbrev fnH(t n:Int)(x:FNS)(s:MS):aD Ob:=[some (.abs (.find t n x) []),aY 2 s,aZ s]
abbrev fnD(t n:Int)(x:FNS)(s:MS):aD Ob:=[cE' [.I t,.I n,.I x.pred,.int .u64 x.pw,.I x.curr,.int .u64 x.cw,.I x.tries,.slice 3 0 x.ul.length 1,.bool x.ab,.I x.me,.I x.frm,.I x.key,.I x.limit,.I x.at',.I x.moved,.O],aY 2 s,aZ s,iI' x.ul]
def FnO.fin(t n:Int)(y:FnO):Out Ob:=.ite y.d (.ret (.bool true) (fnD t n y.x y.s)) (.ret (.bool false) (fnH t n y.x y.s))
def aBg(t n:Int)(v:AVal)(g:aD Ob):Option (Prop×FnO):=match v,g with
 | .bool d,[some (.cells [.int .i64 t1,.int .i64 n1,.int .i64 pred,.int .u64 pw,.int .i64 curr,.int .u64 cw,.int .i64 tries,.slice 3 0 ul_l 1,.bool ab,.int .i64 me,.int .i64 frm,.int .i64 key,.int .i64 limit,.int .i64 at',.int .i64 moved,.O]),e1,e2,some (.ints (some .i64) ul)]=>(match cU 2 [e1,e2]with
   | some (l,s)=>some ((t1=t∧n1=n)∧ul_l=ul.length∧(d=false→at'≠4)∧l=s.xs.length,⟨d,⟨pred,pw,curr,cw,tries,ul,ab,me,frm,key,limit,at',moved,⟨0,0,0,0⟩⟩,s⟩)
   | none=>none)
 | _,_=>none
def aBh(t n:Int)(v:AVal)(g:aD Ob):Option (Prop×FnO):=match v,g with
 | .bool d,[some (.cells [.int .i64 t1,.int .i64 n1,.int .i64 pred,.int .u64 pw,.int .i64 curr,.int .u64 cw,.int .i64 tries,.slice 3 0 ul_l 1,.bool ab,.int .i64 me,.int .i64 frm,.int .i64 key,.int .i64 limit,.int .i64 at',.int .i64 moved,.ptr 4 0]),e1,e2,some (.ints (some .i64) ul),some (.abs (.clear t' n' sub) [])]=>(match cU 2 [e1,e2]with
   | some (l,s)=>some ((t1=t∧n1=n)∧ul_l=ul.length∧t'=t∧n'=n∧(d=false→at'=4)∧l=s.xs.length,⟨d,⟨pred,pw,curr,cw,tries,ul,ab,me,frm,key,limit,at',moved,sub⟩,s⟩)
   | none=>none)
 | _,_=>none
def F5(t n:Int)(v:AVal)(g:aD Ob):Option (Prop×FnO):=(match aBg t n v g with
 | some r=>some r
 | none=>aBh t n v g)
theorem V9{t n:Int} :cE (obI tbl) 3 (aBg t n) (FnO.fin t n):=by
 intro v g p x hp hq K hK;unfold aBg at hp;split at hp
 case h_2=>cases hp
 rename_i d t1 n1 pred pw curr cw tries ul_l ab me frm key limit at' moved e1 e2 ul;split at hp
 case h_2=>cases hp
 rename_i l s hm;simp only [sI',pI']at hp;obtain⟨rfl,rfl⟩:=hp;obtain⟨⟨rfl,rfl⟩,rfl,hat,hl⟩:=hq;have hh:=bB hm hl;cases hh;refine fM hK (fun h=>?_) (fun hd h=>?_)
 ·exact⟨⟨_,_,aF.refl _ _ _,h⟩⟩
 ·exact⟨⟨_,_,(aF.pack (fnH t1 n1 (⟨pred,pw,curr,cw,tries,ul,ab,me,frm,key,limit,at',moved,⟨0,0,0,0⟩⟩:FNS) s) (.find t1 n1 (⟨pred,pw,curr,cw,tries,ul,ab,me,frm,key,limit,at',moved,⟨0,0,0,0⟩⟩:FNS)) 0 0 (lC t1 n1 (⟨pred,pw,curr,cw,tries,ul,ab,me,frm,key,limit,at',moved,⟨0,0,0,0⟩⟩:FNS)) [] (by kernel_rfl) rfl (congrArg (Prod.mk 0) (iK (hat hd))) (by kernel_rfl)),h⟩⟩
theorem WA{t n:Int} :cE (obI tbl) 3 (aBh t n) (FnO.fin t n):=by
 intro v g p x hp hq K hK;unfold aBh at hp;split at hp
 case h_2=>cases hp
 rename_i d t1 n1 pred pw curr cw tries ul_l ab me frm key limit at' moved e1 e2 ul t' n' sub;split at hp
 case h_2=>cases hp
 rename_i l s hm;simp only [sI',pI']at hp;obtain⟨rfl,rfl⟩:=hp;obtain⟨⟨rfl,rfl⟩,rfl,rfl,rfl,hat,hl⟩:=hq;have hh:=bB hm hl;cases hh;refine fM hK (fun h=>?_) (fun hd h=>?_)
 ·exact⟨⟨_,_,(aF.weak (cD _ 0 [15])).trans ((aF.pick (upto 0 4) rfl).trans (aF.eq (by kernel_rfl) (by kernel_rfl))),h⟩⟩
 ·exact⟨⟨_,_,(aF.pack (fnH t' n' (⟨pred,pw,curr,cw,tries,ul,ab,me,frm,key,limit,at',moved,sub⟩:FNS) s) (.find t' n' (⟨pred,pw,curr,cw,tries,ul,ab,me,frm,key,limit,at',moved,sub⟩:FNS)) 0 0 (rP t' n' (⟨pred,pw,curr,cw,tries,ul,ab,me,frm,key,limit,at',moved,sub⟩:FNS)) [] (by kernel_rfl) rfl (congrArg (Prod.mk 0) (JO (hat hd))) (by kernel_rfl)),h⟩⟩
theorem qE{t n:Int} :cE (obI tbl) 3 (F5 t n) (FnO.fin t n):=by
 intro v g p x hp hq K hK;unfold F5 at hp;split at hp
 ·rename_i r hr;cases hp;exact V9 v g p x hr hq K hK
 exact WA v g p x hp hq K hK
abbrev w0y:=false=false→(0:Int)≠(4:Int)
abbrev w11(s:MS)(x:FNS):Tr FnO:=.ret {d:=ieq (aA (aB s.3 x.1) 10 9) 0,x:= {x with pred:=0,pw:=aB s.3 x.1,curr:=aA (aB s.3 x.1) 10 9,cw:=0,tries:=W (x.5+1),ab:=ilt x.11 (W (x.5+1)),at':=1,cl:=bD},s:= {s with c:=s.4+1,k:=1,a:=x.1,o:=aB s.3 x.1,w:=aB s.3 x.1,ok:=bS s.3 x.1} }
abbrev w13(s:MS)(x:FNS):Tr FnO:=.ret {d:=ieq (aA (aB s.3 x.1) 10 9) 0,x:= {x with pw:=aB s.3 x.1,curr:=aA (aB s.3 x.1) 10 9,cw:=0,tries:=W (x.5+1),ab:=ilt x.11 (W (x.5+1)),at':=1,cl:=bD},s:= {s with c:=s.4+1,k:=1,a:=x.1,o:=aB s.3 x.1,w:=aB s.3 x.1,ok:=bS s.3 x.1} }
abbrev w14(s:MS)(x:FNS):=ieq (aA (aB s.3 x.1) 10 9) (0:Int)=false→(1:Int)≠(4:Int)
abbrev w15(x:FNS):=ilt x.11 (W (x.5+1))
abbrev w16(s:MS)(x:FNS):Tr FnO:=.ret {d:=false,x:= {x with pred:=x.9,pw:=0,curr:=0,cw:=0,tries:=W (x.5+1),ab:=ilt x.11 (W (x.5+1)),at':=0,moved:=0,cl:=bD},s:= {s with c:=s.4+1,k:=1,a:=x.1,o:=aB s.3 x.1,w:=aB s.3 x.1,ok:=bS s.3 x.1} }
abbrev w17(s:MS)(x:FNS):Tr FnO:=.ret {d:=false,x:= {x with pred:=x.9,tries:=W (x.5+1),ab:=ilt x.11 (W (x.5+1)),at':=0,moved:=0,cl:=bD},s:= {s with c:=s.4+1,k:=1,a:=x.1,o:=aB s.3 x.1,w:=aB s.3 x.1,ok:=bS s.3 x.1} }
abbrev w1f:=true=false→(0:Int)≠(4:Int)
abbrev w1g(s:MS)(x:FNS):=ieq (aA (aB s.3 x.1) 19 1) 1
def wE(t n:Int)(x:FNS)(s:MS):Tr FnO:=.pre (lE' s.3∧(0:Int)≤s.4∧s.4≤(4611686018427387904:Int)) (.pre True (.ite (w1g s x) (.ite (w15 x) (.ite (w15 x) (.pre ((t=t∧n=n)∧lE' x.6∧w1f∧lE' s.3) (.ret {d:=true,x:= {x with pred:=0,pw:=0,curr:=0,cw:=0,tries:=W (x.5+1),ab:=ilt x.11 (W (x.5+1)),at':=0,cl:=bD},s:= {s with c:=s.4+1,k:=1,a:=x.1,o:=aB s.3 x.1,w:=aB s.3 x.1,ok:=bS s.3 x.1} })) (.pre True (.ite (w1g s x) (.pre ((t=t∧n=n)∧lE' x.6∧w0y∧lE' s.3) (w16 s x)) (.pre ((t=t∧n=n)∧lE' x.6∧(w14 s x)∧lE' s.3) (w11 s x))))) (.ite (w15 x) (.pre ((t=t∧n=n)∧lE' x.6∧w1f∧lE' s.3) (.ret {d:=true,x:= {x with tries:=W (x.5+1),ab:=ilt x.11 (W (x.5+1)),at':=0,cl:=bD},s:= {s with c:=s.4+1,k:=1,a:=x.1,o:=aB s.3 x.1,w:=aB s.3 x.1,ok:=bS s.3 x.1} })) (.pre True (.ite (w1g s x) (.pre ((t=t∧n=n)∧lE' x.6∧w0y∧lE' s.3) (w17 s x)) (.pre ((t=t∧n=n)∧lE' x.6∧(w14 s x)∧lE' s.3) (w13 s x)))))) (.pre True (.ite (w1g s x) (.pre ((t=t∧n=n)∧lE' x.6∧w0y∧lE' s.3) (.ret {d:=false,x:= {x with pred:=x.9,at':=0,moved:=0,cl:=bD},s:= {s with c:=s.4+1,k:=1,a:=x.1,o:=aB s.3 x.1,w:=aB s.3 x.1,ok:=bS s.3 x.1} })) (.pre ((t=t∧n=n)∧lE' x.6∧(w14 s x)∧lE' s.3) (.ret {d:=ieq (aA (aB s.3 x.1) 10 9) 0,x:= {x with pw:=aB s.3 x.1,curr:=aA (aB s.3 x.1) 10 9,cw:=0,at':=1,cl:=bD},s:= {s with c:=s.4+1,k:=1,a:=x.1,o:=aB s.3 x.1,w:=aB s.3 x.1,ok:=bS s.3 x.1} }))))))
theorem MH(t n:Int)(x:FNS)(s:MS)(K:FnO→Prop)(h:(wE t n x s).run K):cT' 94 [.ptr 0 0,.ptr 1 0] [cE' [.I t,.I n,.I x.pred,.int .u64 x.pw,.I x.curr,.int .u64 x.cw,.I x.tries,.slice 3 0 x.ul.length 1,.bool x.ab,.I x.me,.I x.frm,.I x.key,.I x.limit,.I 0,.I x.moved,.O],aY 2 s,aZ s,iI' x.ul] (cF 3 0 [15] [(.cell 0 7,.ints (some .i64))] (F5 t n) K):=by
 exact cM' (E:=EC7) (by kernel_rfl) h
def yY(t n:Int)(x:FNS)(s:MS):Tr FnO:=.pre ((((0:Int)≤t∧t≤(100000:Int))∧((0:Int)≤n∧n≤(100000:Int))∧((-1099511627776:Int)≤x.8∧x.8≤(1099511627776:Int))∧(-1099511627776:Int)≤(1:Int)∧(1:Int)≤(1099511627776:Int))∧True) (.pre ((lE' s.3∧(0:Int)≤s.4∧s.4≤(4611686018427387904:Int))∧True) (.pre ((t=t∧n=n)∧lE' x.6∧(false=false→(2:Int)≠(4:Int))∧lE' (aS s.3 (2*n+5+2*x.8+1) (WU x.3))) (.ret {d:=false,x:= {x with at':=2,cl:=bD},s:= {t:=s.1,n:=s.2,xs:=aS s.3 (2*n+5+2*x.8+1) (WU x.3),c:=s.4+1,k:=2,a:=2*n+5+2*x.8+1,o:=aB s.3 (2*n+5+2*x.8+1),w:=bif bS s.3 (2*n+5+2*x.8+1)then WU x.3 else 0,ok:=bS s.3 (2*n+5+2*x.8+1) } })))
theorem MI(t n:Int)(x:FNS)(s:MS)(K:FnO→Prop)(h:(yY t n x s).run K):cT' 94 [.ptr 0 0,.ptr 1 0] [cE' [.I t,.I n,.I x.pred,.int .u64 x.pw,.I x.curr,.int .u64 x.cw,.I x.tries,.slice 3 0 x.ul.length 1,.bool x.ab,.I x.me,.I x.frm,.I x.key,.I x.limit,.I 1,.I x.moved,.O],aY 2 s,aZ s,iI' x.ul] (cF 3 0 [15] [(.cell 0 7,.ints (some .i64))] (F5 t n) K):=by
 exact cM' (E:=EC7) (by kernel_rfl) h
def wF(t n:Int)(x:FNS)(s:MS):Tr FnO:=.pre (lE' s.3∧(0:Int)≤s.4∧s.4≤(4611686018427387904:Int)) (.ite (!ieq (aB s.3 x.1) x.2) (.ite (w15 x) (.ite (w15 x) (.pre ((t=t∧n=n)∧lE' x.6∧(true=false→(2:Int)≠(4:Int))∧lE' s.3) (.ret {d:=true,x:= {x with pred:=0,pw:=0,curr:=0,cw:=0,tries:=W (x.5+1),ab:=ilt x.11 (W (x.5+1)),at':=2,cl:=bD},s:= {s with c:=s.4+1,k:=1,a:=x.1,o:=aB s.3 x.1,w:=aB s.3 x.1,ok:=bS s.3 x.1} })) (.pre True (.ite (w1g s x) (.pre ((t=t∧n=n)∧lE' x.6∧w0y∧lE' s.3) (w16 s x)) (.pre ((t=t∧n=n)∧lE' x.6∧(w14 s x)∧lE' s.3) (w11 s x))))) (.ite (w15 x) (.pre ((t=t∧n=n)∧lE' x.6∧(true=false→(2:Int)≠(4:Int))∧lE' s.3) (.ret {d:=true,x:= {x with tries:=W (x.5+1),ab:=ilt x.11 (W (x.5+1)),at':=2,cl:=bD},s:= {s with c:=s.4+1,k:=1,a:=x.1,o:=aB s.3 x.1,w:=aB s.3 x.1,ok:=bS s.3 x.1} })) (.pre True (.ite (w1g s x) (.pre ((t=t∧n=n)∧lE' x.6∧w0y∧lE' s.3) (w17 s x)) (.pre ((t=t∧n=n)∧lE' x.6∧(w14 s x)∧lE' s.3) (w13 s x)))))) (.pre ((t=t∧n=n)∧lE' x.6∧(false=false→(3:Int)≠(4:Int))∧lE' s.3) (.ret {d:=false,x:= {x with at':=3,cl:=bD},s:= {s with c:=s.4+1,k:=1,a:=x.1,o:=aB s.3 x.1,w:=aB s.3 x.1,ok:=bS s.3 x.1} })))
theorem MJ(t n:Int)(x:FNS)(s:MS)(K:FnO→Prop)(h:(wF t n x s).run K):cT' 94 [.ptr 0 0,.ptr 1 0] [cE' [.I t,.I n,.I x.pred,.int .u64 x.pw,.I x.curr,.int .u64 x.cw,.I x.tries,.slice 3 0 x.ul.length 1,.bool x.ab,.I x.me,.I x.frm,.I x.key,.I x.limit,.I 2,.I x.moved,.O],aY 2 s,aZ s,iI' x.ul] (cF 3 0 [15] [(.cell 0 7,.ints (some .i64))] (F5 t n) K):=by
 exact cM' (E:=EC7) (by kernel_rfl) h
abbrev w19:=false=false→(4:Int)=(4:Int)
abbrev w1b(s:MS)(x:FNS):Tr FnO:=.ret {d:=false,x:= {x with cw:=aB s.3 x.3,at':=6,cl:=bD},s:= {s with c:=s.4+1,k:=1,a:=x.3,o:=aB s.3 x.3,w:=aB s.3 x.3,ok:=bS s.3 x.3} }
abbrev w1c(s:MS)(x:FNS):Tr FnO:=.ret {d:=false,x:= {x with cw:=aB s.3 x.3,at':=5,cl:=bD},s:= {s with c:=s.4+1,k:=1,a:=x.3,o:=aB s.3 x.3,w:=aB s.3 x.3,ok:=bS s.3 x.3} }
abbrev w1d(n:Int)(s:MS)(t:Int)(x:FNS):Tr FnO:=.ret {d:=false,x:= {x with cw:=aB s.3 x.3,at':=4,cl:=AG t n x.3},s:= {s with c:=s.4+1,k:=1,a:=x.3,o:=aB s.3 x.3,w:=aB s.3 x.3,ok:=bS s.3 x.3} }
abbrev w1e(n:Int)(s:MS)(t:Int)(x:FNS):Tr FnO:=.ret {d:=false,x:= {x with cw:=aB s.3 x.3,at':=4,cl:=AG t n x.1},s:= {s with c:=s.4+1,k:=1,a:=x.3,o:=aB s.3 x.3,w:=aB s.3 x.3,ok:=bS s.3 x.3} }
def n8(t n:Int)(x:FNS)(s:MS):Tr FnO:=.pre (lE' s.3∧(0:Int)≤s.4∧s.4≤(4611686018427387904:Int)) (.pre True (.ite (!ieq (aA (aB s.3 x.3) 19 1) 1) (.ite (ile x.10 (aA (aB s.3 x.3) 0 10)) (.pre ((t=t∧n=n)∧lE' x.6∧(true=false→(3:Int)≠(4:Int))∧lE' s.3) (.ret {d:=true,x:= {x with cw:=aB s.3 x.3,at':=3,cl:=bD},s:= {s with c:=s.4+1,k:=1,a:=x.3,o:=aB s.3 x.3,w:=aB s.3 x.3,ok:=bS s.3 x.3} })) (.ite (!ieq (aA (aB s.3 x.3) 19 1) 1) (.pre ((t=t∧n=n)∧lE' x.6∧(false=false→(6:Int)≠(4:Int))∧lE' s.3) (w1b s x)) (.ite (!ieq (aA (aB s.3 x.3) 20 5) 0) (.pre (qU t n x.3∧True) (.pre ((t=t∧n=n)∧lE' x.6∧t=t∧n=n∧w19∧lE' s.3) (w1d n s t x))) (.pre True (.ite (!ieq (aA x.2 20 5) 0) (.pre (qU t n x.1∧True) (.pre ((t=t∧n=n)∧lE' x.6∧t=t∧n=n∧w19∧lE' s.3) (w1e n s t x))) (.pre ((t=t∧n=n)∧lE' x.6∧(false=false→(5:Int)≠(4:Int))∧lE' s.3) (w1c s x))))))) (.ite (!ieq (aA (aB s.3 x.3) 19 1) 1) (.pre ((t=t∧n=n)∧lE' x.6∧(false=false→(6:Int)≠(4:Int))∧lE' s.3) (w1b s x)) (.ite (!ieq (aA (aB s.3 x.3) 20 5) 0) (.pre (qU t n x.3∧True) (.pre ((t=t∧n=n)∧lE' x.6∧t=t∧n=n∧w19∧lE' s.3) (w1d n s t x))) (.pre True (.ite (!ieq (aA x.2 20 5) 0) (.pre (qU t n x.1∧True) (.pre ((t=t∧n=n)∧lE' x.6∧t=t∧n=n∧w19∧lE' s.3) (w1e n s t x))) (.pre ((t=t∧n=n)∧lE' x.6∧(false=false→(5:Int)≠(4:Int))∧lE' s.3) (w1c s x))))))))
theorem MK(t n:Int)(x:FNS)(s:MS)(K:FnO→Prop)(h:(n8 t n x s).run K):cT' 94 [.ptr 0 0,.ptr 1 0] [cE' [.I t,.I n,.I x.pred,.int .u64 x.pw,.I x.curr,.int .u64 x.cw,.I x.tries,.slice 3 0 x.ul.length 1,.bool x.ab,.I x.me,.I x.frm,.I x.key,.I x.limit,.I 3,.I x.moved,.O],aY 2 s,aZ s,iI' x.ul] (cF 3 0 [15] [(.cell 0 7,.ints (some .i64))] (F5 t n) K):=by
 exact cM' (E:=EC7) (by kernel_rfl) h
abbrev w0z(n:Int)(s:MS)(t:Int)(x:FNS):=ClO.s (dP t n x.14 s)
abbrev w1a(x:FNS):=ilt x.11 (W (x.5+1))=false→(0:Int)≠(4:Int)
def DU(t n:Int)(x:FNS)(s:MS):Tr FnO:=.pre (lE' s.3∧PQ t n x.14 s) (.ite (dP t n x.14 s).1 (.ite (w15 x) (.pre ((t=t∧n=n)∧lE' x.6∧(w1a x)∧lE' (w0z n s t x).3) (.ret {d:=ilt x.11 (W (x.5+1)),x:= {x with pred:=0,pw:=0,curr:=0,cw:=0,tries:=W (x.5+1),ab:=ilt x.11 (W (x.5+1)),at':=0,cl:=bD},s:= {t:=(w0z n s t x).1,n:=(w0z n s t x).2,xs:=(w0z n s t x).3,c:=(w0z n s t x).4,k:=(w0z n s t x).5,a:=(w0z n s t x).6,o:=(w0z n s t x).7,w:=(w0z n s t x).8,ok:=(w0z n s t x).9} })) (.pre ((t=t∧n=n)∧lE' x.6∧(w1a x)∧lE' (w0z n s t x).3) (.ret {d:=ilt x.11 (W (x.5+1)),x:= {x with tries:=W (x.5+1),ab:=ilt x.11 (W (x.5+1)),at':=0,cl:=bD},s:= {t:=(w0z n s t x).1,n:=(w0z n s t x).2,xs:=(w0z n s t x).3,c:=(w0z n s t x).4,k:=(w0z n s t x).5,a:=(w0z n s t x).6,o:=(w0z n s t x).7,w:=(w0z n s t x).8,ok:=(w0z n s t x).9} }))) (.pre ((t=t∧n=n)∧lE' x.6∧t=t∧n=n∧w19∧lE' (w0z n s t x).3) (.ret {d:=false,x:= {x with at':=4,cl:=(dP t n x.14 s).2},s:= {t:=(w0z n s t x).1,n:=(w0z n s t x).2,xs:=(w0z n s t x).3,c:=(w0z n s t x).4,k:=(w0z n s t x).5,a:=(w0z n s t x).6,o:=(w0z n s t x).7,w:=(w0z n s t x).8,ok:=(w0z n s t x).9} })))
theorem MM(t n:Int)(x:FNS)(s:MS)(K:FnO→Prop)(h:(DU t n x s).run K):cT' 94 [.ptr 0 0,.ptr 1 0] [cE' [.I t,.I n,.I x.pred,.int .u64 x.pw,.I x.curr,.int .u64 x.cw,.I x.tries,.slice 3 0 x.ul.length 1,.bool x.ab,.I x.me,.I x.frm,.I x.key,.I x.limit,.I 4,.I x.moved,.ptr 4 0],aY 2 s,aZ s,iI' x.ul,some (.abs (.clear t n x.cl) [])] (cF 3 0 [15] [(.cell 0 7,.ints (some .i64))] (F5 t n) K):=by
 exact cM' (E:=EC7) (by kernel_rfl) h
abbrev w0w(x:FNS):=aR (aA x.2 25 18)
abbrev w0x(x:FNS):=ieq (aA x.2 19 1) 1
def wG(t n:Int)(x:FNS)(s:MS):Tr FnO:=.pre True (.pre True (.pre ((0:Int)≤aA x.2 25 18∧aA x.2 25 (18:Int)≤(1000000:Int)) (.pre True (.pre ((lE' s.3∧(0:Int)≤s.4∧s.4≤(4611686018427387904:Int))∧True) (.ite (!aT s.3 x.1 x.2) (.ite (w15 x) (.pre ((t=t∧n=n)∧lE' x.6∧(w1a x)∧lE' (bif aT s.3 x.1 x.2 then aS s.3 x.1 (bif bif aH (aA x.2 0 10) 10 then bif aH (aA x.4 10 9) 9 then bif aH (aA x.2 20 5) 5 then aH (w0w x) 18 else false else false else false then bY (aA x.2 0 10) (aA x.4 10 9) (w0x x) (aA x.2 20 5) (w0w x)else 0)else s.3)) (.ret {d:=ilt x.11 (W (x.5+1)),x:= {x with pred:=0,pw:=0,curr:=0,cw:=0,tries:=W (x.5+1),ab:=ilt x.11 (W (x.5+1)),at':=0,cl:=bD},s:= {t:=s.1,n:=s.2,xs:=bif aT s.3 x.1 x.2 then aS s.3 x.1 (bif bif aH (aA x.2 0 10) 10 then bif aH (aA x.4 10 9) 9 then bif aH (aA x.2 20 5) 5 then aH (w0w x) 18 else false else false else false then bY (aA x.2 0 10) (aA x.4 10 9) (w0x x) (aA x.2 20 5) (w0w x)else 0)else s.3,c:=s.4+1,k:=3,a:=x.1,o:=aB s.3 x.1,w:=bif bS s.3 x.1 then bif bif aH (aA x.2 0 10) 10 then bif aH (aA x.4 10 9) 9 then bif aH (aA x.2 20 5) 5 then aH (w0w x) 18 else false else false else false then bY (aA x.2 0 10) (aA x.4 10 9) (w0x x) (aA x.2 20 5) (w0w x)else 0 else 0,ok:=aT s.3 x.1 x.2} })) (.pre ((t=t∧n=n)∧lE' x.6∧(w1a x)∧lE' (bif aT s.3 x.1 x.2 then aS s.3 x.1 (bif bif aH (aA x.2 0 10) 10 then bif aH (aA x.4 10 9) 9 then bif aH (aA x.2 20 5) 5 then aH (w0w x) 18 else false else false else false then bY (aA x.2 0 10) (aA x.4 10 9) (w0x x) (aA x.2 20 5) (w0w x)else 0)else s.3)) (.ret {d:=ilt x.11 (W (x.5+1)),x:= {x with tries:=W (x.5+1),ab:=ilt x.11 (W (x.5+1)),at':=0,cl:=bD},s:= {t:=s.1,n:=s.2,xs:=bif aT s.3 x.1 x.2 then aS s.3 x.1 (bif bif aH (aA x.2 0 10) 10 then bif aH (aA x.4 10 9) 9 then bif aH (aA x.2 20 5) 5 then aH (w0w x) 18 else false else false else false then bY (aA x.2 0 10) (aA x.4 10 9) (w0x x) (aA x.2 20 5) (w0w x)else 0)else s.3,c:=s.4+1,k:=3,a:=x.1,o:=aB s.3 x.1,w:=bif bS s.3 x.1 then bif bif aH (aA x.2 0 10) 10 then bif aH (aA x.4 10 9) 9 then bif aH (aA x.2 20 5) 5 then aH (w0w x) 18 else false else false else false then bY (aA x.2 0 10) (aA x.4 10 9) (w0x x) (aA x.2 20 5) (w0w x)else 0 else 0,ok:=aT s.3 x.1 x.2} }))) (.pre (0=0∧lE' x.6∧1=1∧x.6.length+(1:Nat)≤(4294967296:Nat)) (.ite (ile (W (x.13+1)) n) (.pre True (.ite (ieq (aA (bif bif aH (aA x.2 0 10) 10 then bif aH (aA x.4 10 9) 9 then bif aH (aA x.2 20 5) 5 then aH (w0w x) 18 else false else false else false then bY (aA x.2 0 10) (aA x.4 10 9) (w0x x) (aA x.2 20 5) (w0w x)else 0) 19 1) 1) (.pre ((t=t∧n=n)∧x.6.length+(1:Nat)=List.length (x.6++ [x.3])∧w0y∧lE' (bif aT s.3 x.1 x.2 then aS s.3 x.1 (bif bif aH (aA x.2 0 10) 10 then bif aH (aA x.4 10 9) 9 then bif aH (aA x.2 20 5) 5 then aH (w0w x) 18 else false else false else false then bY (aA x.2 0 10) (aA x.4 10 9) (w0x x) (aA x.2 20 5) (w0w x)else 0)else s.3)) (.ret {d:=false,x:= {x with pred:=x.9,ul:=x.6++ [x.3],at':=0,moved:=0,cl:=bD},s:= {t:=s.1,n:=s.2,xs:=bif aT s.3 x.1 x.2 then aS s.3 x.1 (bif bif aH (aA x.2 0 10) 10 then bif aH (aA x.4 10 9) 9 then bif aH (aA x.2 20 5) 5 then aH (w0w x) 18 else false else false else false then bY (aA x.2 0 10) (aA x.4 10 9) (w0x x) (aA x.2 20 5) (w0w x)else 0)else s.3,c:=s.4+1,k:=3,a:=x.1,o:=aB s.3 x.1,w:=bif bS s.3 x.1 then bif bif aH (aA x.2 0 10) 10 then bif aH (aA x.4 10 9) 9 then bif aH (aA x.2 20 5) 5 then aH (w0w x) 18 else false else false else false then bY (aA x.2 0 10) (aA x.4 10 9) (w0x x) (aA x.2 20 5) (w0w x)else 0 else 0,ok:=aT s.3 x.1 x.2} })) (.pre ((t=t∧n=n)∧x.6.length+(1:Nat)=List.length (x.6++ [x.3])∧(ieq (aA (bif bif aH (aA x.2 0 10) 10 then bif aH (aA x.4 10 9) 9 then bif aH (aA x.2 20 5) 5 then aH (w0w x) 18 else false else false else false then bY (aA x.2 0 10) (aA x.4 10 9) (w0x x) (aA x.2 20 5) (w0w x)else 0) 10 9) (0:Int)=false→(1:Int)≠(4:Int))∧lE' (bif aT s.3 x.1 x.2 then aS s.3 x.1 (bif bif aH (aA x.2 0 10) 10 then bif aH (aA x.4 10 9) 9 then bif aH (aA x.2 20 5) 5 then aH (w0w x) 18 else false else false else false then bY (aA x.2 0 10) (aA x.4 10 9) (w0x x) (aA x.2 20 5) (w0w x)else 0)else s.3)) (.ret {d:=ieq (aA (bif bif aH (aA x.2 0 10) 10 then bif aH (aA x.4 10 9) 9 then bif aH (aA x.2 20 5) 5 then aH (w0w x) 18 else false else false else false then bY (aA x.2 0 10) (aA x.4 10 9) (w0x x) (aA x.2 20 5) (w0w x)else 0) 10 9) 0,x:= {x with pw:=bif bif aH (aA x.2 0 10) 10 then bif aH (aA x.4 10 9) 9 then bif aH (aA x.2 20 5) 5 then aH (w0w x) 18 else false else false else false then bY (aA x.2 0 10) (aA x.4 10 9) (w0x x) (aA x.2 20 5) (w0w x)else 0,curr:=aA (bif bif aH (aA x.2 0 10) 10 then bif aH (aA x.4 10 9) 9 then bif aH (aA x.2 20 5) 5 then aH (w0w x) 18 else false else false else false then bY (aA x.2 0 10) (aA x.4 10 9) (w0x x) (aA x.2 20 5) (w0w x)else 0) 10 9,cw:=0,ul:=x.6++ [x.3],at':=1,moved:=W (x.13+1),cl:=bD},s:= {t:=s.1,n:=s.2,xs:=bif aT s.3 x.1 x.2 then aS s.3 x.1 (bif bif aH (aA x.2 0 10) 10 then bif aH (aA x.4 10 9) 9 then bif aH (aA x.2 20 5) 5 then aH (w0w x) 18 else false else false else false then bY (aA x.2 0 10) (aA x.4 10 9) (w0x x) (aA x.2 20 5) (w0w x)else 0)else s.3,c:=s.4+1,k:=3,a:=x.1,o:=aB s.3 x.1,w:=bif bS s.3 x.1 then bif bif aH (aA x.2 0 10) 10 then bif aH (aA x.4 10 9) 9 then bif aH (aA x.2 20 5) 5 then aH (w0w x) 18 else false else false else false then bY (aA x.2 0 10) (aA x.4 10 9) (w0x x) (aA x.2 20 5) (w0w x)else 0 else 0,ok:=aT s.3 x.1 x.2} })))) (.ite (w15 x) (.ite (w15 x) (.pre ((t=t∧n=n)∧x.6.length+(1:Nat)=List.length (x.6++ [x.3])∧(true=false→(5:Int)≠(4:Int))∧lE' (bif aT s.3 x.1 x.2 then aS s.3 x.1 (bif bif aH (aA x.2 0 10) 10 then bif aH (aA x.4 10 9) 9 then bif aH (aA x.2 20 5) 5 then aH (w0w x) 18 else false else false else false then bY (aA x.2 0 10) (aA x.4 10 9) (w0x x) (aA x.2 20 5) (w0w x)else 0)else s.3)) (.ret {d:=true,x:= {x with pred:=0,pw:=0,curr:=0,cw:=0,tries:=W (x.5+1),ul:=x.6++ [x.3],ab:=ilt x.11 (W (x.5+1)),at':=5,moved:=W (x.13+1),cl:=bD},s:= {t:=s.1,n:=s.2,xs:=bif aT s.3 x.1 x.2 then aS s.3 x.1 (bif bif aH (aA x.2 0 10) 10 then bif aH (aA x.4 10 9) 9 then bif aH (aA x.2 20 5) 5 then aH (w0w x) 18 else false else false else false then bY (aA x.2 0 10) (aA x.4 10 9) (w0x x) (aA x.2 20 5) (w0w x)else 0)else s.3,c:=s.4+1,k:=3,a:=x.1,o:=aB s.3 x.1,w:=bif bS s.3 x.1 then bif bif aH (aA x.2 0 10) 10 then bif aH (aA x.4 10 9) 9 then bif aH (aA x.2 20 5) 5 then aH (w0w x) 18 else false else false else false then bY (aA x.2 0 10) (aA x.4 10 9) (w0x x) (aA x.2 20 5) (w0w x)else 0 else 0,ok:=aT s.3 x.1 x.2} })) (.pre ((t=t∧n=n)∧x.6.length+(1:Nat)=List.length (x.6++ [x.3])∧w0y∧lE' (bif aT s.3 x.1 x.2 then aS s.3 x.1 (bif bif aH (aA x.2 0 10) 10 then bif aH (aA x.4 10 9) 9 then bif aH (aA x.2 20 5) 5 then aH (w0w x) 18 else false else false else false then bY (aA x.2 0 10) (aA x.4 10 9) (w0x x) (aA x.2 20 5) (w0w x)else 0)else s.3)) (.ret {d:=false,x:= {x with pred:=x.9,pw:=0,curr:=0,cw:=0,tries:=W (x.5+1),ul:=x.6++ [x.3],ab:=ilt x.11 (W (x.5+1)),at':=0,moved:=0,cl:=bD},s:= {t:=s.1,n:=s.2,xs:=bif aT s.3 x.1 x.2 then aS s.3 x.1 (bif bif aH (aA x.2 0 10) 10 then bif aH (aA x.4 10 9) 9 then bif aH (aA x.2 20 5) 5 then aH (w0w x) 18 else false else false else false then bY (aA x.2 0 10) (aA x.4 10 9) (w0x x) (aA x.2 20 5) (w0w x)else 0)else s.3,c:=s.4+1,k:=3,a:=x.1,o:=aB s.3 x.1,w:=bif bS s.3 x.1 then bif bif aH (aA x.2 0 10) 10 then bif aH (aA x.4 10 9) 9 then bif aH (aA x.2 20 5) 5 then aH (w0w x) 18 else false else false else false then bY (aA x.2 0 10) (aA x.4 10 9) (w0x x) (aA x.2 20 5) (w0w x)else 0 else 0,ok:=aT s.3 x.1 x.2} }))) (.ite (w15 x) (.pre ((t=t∧n=n)∧x.6.length+(1:Nat)=List.length (x.6++ [x.3])∧(true=false→(5:Int)≠(4:Int))∧lE' (bif aT s.3 x.1 x.2 then aS s.3 x.1 (bif bif aH (aA x.2 0 10) 10 then bif aH (aA x.4 10 9) 9 then bif aH (aA x.2 20 5) 5 then aH (w0w x) 18 else false else false else false then bY (aA x.2 0 10) (aA x.4 10 9) (w0x x) (aA x.2 20 5) (w0w x)else 0)else s.3)) (.ret {d:=true,x:= {x with tries:=W (x.5+1),ul:=x.6++ [x.3],ab:=ilt x.11 (W (x.5+1)),at':=5,moved:=W (x.13+1),cl:=bD},s:= {t:=s.1,n:=s.2,xs:=bif aT s.3 x.1 x.2 then aS s.3 x.1 (bif bif aH (aA x.2 0 10) 10 then bif aH (aA x.4 10 9) 9 then bif aH (aA x.2 20 5) 5 then aH (w0w x) 18 else false else false else false then bY (aA x.2 0 10) (aA x.4 10 9) (w0x x) (aA x.2 20 5) (w0w x)else 0)else s.3,c:=s.4+1,k:=3,a:=x.1,o:=aB s.3 x.1,w:=bif bS s.3 x.1 then bif bif aH (aA x.2 0 10) 10 then bif aH (aA x.4 10 9) 9 then bif aH (aA x.2 20 5) 5 then aH (w0w x) 18 else false else false else false then bY (aA x.2 0 10) (aA x.4 10 9) (w0x x) (aA x.2 20 5) (w0w x)else 0 else 0,ok:=aT s.3 x.1 x.2} })) (.pre ((t=t∧n=n)∧x.6.length+(1:Nat)=List.length (x.6++ [x.3])∧w0y∧lE' (bif aT s.3 x.1 x.2 then aS s.3 x.1 (bif bif aH (aA x.2 0 10) 10 then bif aH (aA x.4 10 9) 9 then bif aH (aA x.2 20 5) 5 then aH (w0w x) 18 else false else false else false then bY (aA x.2 0 10) (aA x.4 10 9) (w0x x) (aA x.2 20 5) (w0w x)else 0)else s.3)) (.ret {d:=false,x:= {x with pred:=x.9,tries:=W (x.5+1),ul:=x.6++ [x.3],ab:=ilt x.11 (W (x.5+1)),at':=0,moved:=0,cl:=bD},s:= {t:=s.1,n:=s.2,xs:=bif aT s.3 x.1 x.2 then aS s.3 x.1 (bif bif aH (aA x.2 0 10) 10 then bif aH (aA x.4 10 9) 9 then bif aH (aA x.2 20 5) 5 then aH (w0w x) 18 else false else false else false then bY (aA x.2 0 10) (aA x.4 10 9) (w0x x) (aA x.2 20 5) (w0w x)else 0)else s.3,c:=s.4+1,k:=3,a:=x.1,o:=aB s.3 x.1,w:=bif bS s.3 x.1 then bif bif aH (aA x.2 0 10) 10 then bif aH (aA x.4 10 9) 9 then bif aH (aA x.2 20 5) 5 then aH (w0w x) 18 else false else false else false then bY (aA x.2 0 10) (aA x.4 10 9) (w0x x) (aA x.2 20 5) (w0w x)else 0 else 0,ok:=aT s.3 x.1 x.2} })))))))))))
theorem MN(t n:Int)(x:FNS)(s:MS)(K:FnO→Prop)(h:(wG t n x s).run K):cT' 94 [.ptr 0 0,.ptr 1 0] [cE' [.I t,.I n,.I x.pred,.int .u64 x.pw,.I x.curr,.int .u64 x.cw,.I x.tries,.slice 3 0 x.ul.length 1,.bool x.ab,.I x.me,.I x.frm,.I x.key,.I x.limit,.I 5,.I x.moved,.O],aY 2 s,aZ s,iI' x.ul] (cF 3 0 [15] [(.cell 0 7,.ints (some .i64))] (F5 t n) K):=by
 exact cM' (E:=EC7) (by kernel_rfl) h
abbrev w1h(n:Int)(s:MS)(x:FNS):=aS s.3 (2*n+5+2*x.8+0) (WU x.3)
def wH(t n:Int)(x:FNS)(s:MS):Tr FnO:=.pre ((((0:Int)≤t∧t≤(100000:Int))∧((0:Int)≤n∧n≤(100000:Int))∧((-1099511627776:Int)≤x.8∧x.8≤(1099511627776:Int))∧(-1099511627776:Int)≤(0:Int)∧(0:Int)≤(1099511627776:Int))∧True) (.pre ((lE' s.3∧(0:Int)≤s.4∧s.4≤(4611686018427387904:Int))∧True) (.ite (ile (W (x.13+1)) n) (.pre ((t=t∧n=n)∧lE' x.6∧w0y∧lE' (w1h n s x)) (.ret {d:=false,x:= {x with pred:=x.3,at':=0,moved:=W (x.13+1),cl:=bD},s:= {t:=s.1,n:=s.2,xs:=aS s.3 (2*n+5+2*x.8+0) (WU x.3),c:=s.4+1,k:=2,a:=2*n+5+2*x.8+0,o:=aB s.3 (2*n+5+2*x.8+0),w:=bif bS s.3 (2*n+5+2*x.8+0)then WU x.3 else 0,ok:=bS s.3 (2*n+5+2*x.8+0) } })) (.ite (w15 x) (.ite (w15 x) (.pre ((t=t∧n=n)∧lE' x.6∧w1f∧lE' (w1h n s x)) (.ret {d:=true,x:= {x with pred:=0,pw:=0,curr:=0,cw:=0,tries:=W (x.5+1),ab:=ilt x.11 (W (x.5+1)),at':=0,moved:=W (x.13+1),cl:=bD},s:= {t:=s.1,n:=s.2,xs:=aS s.3 (2*n+5+2*x.8+0) (WU x.3),c:=s.4+1,k:=2,a:=2*n+5+2*x.8+0,o:=aB s.3 (2*n+5+2*x.8+0),w:=bif bS s.3 (2*n+5+2*x.8+0)then WU x.3 else 0,ok:=bS s.3 (2*n+5+2*x.8+0) } })) (.pre ((t=t∧n=n)∧lE' x.6∧w0y∧lE' (w1h n s x)) (.ret {d:=false,x:= {x with pred:=x.9,pw:=0,curr:=0,cw:=0,tries:=W (x.5+1),ab:=ilt x.11 (W (x.5+1)),at':=0,moved:=0,cl:=bD},s:= {t:=s.1,n:=s.2,xs:=aS s.3 (2*n+5+2*x.8+0) (WU x.3),c:=s.4+1,k:=2,a:=2*n+5+2*x.8+0,o:=aB s.3 (2*n+5+2*x.8+0),w:=bif bS s.3 (2*n+5+2*x.8+0)then WU x.3 else 0,ok:=bS s.3 (2*n+5+2*x.8+0) } }))) (.ite (w15 x) (.pre ((t=t∧n=n)∧lE' x.6∧w1f∧lE' (w1h n s x)) (.ret {d:=true,x:= {x with pred:=x.3,tries:=W (x.5+1),ab:=ilt x.11 (W (x.5+1)),at':=0,moved:=W (x.13+1),cl:=bD},s:= {t:=s.1,n:=s.2,xs:=aS s.3 (2*n+5+2*x.8+0) (WU x.3),c:=s.4+1,k:=2,a:=2*n+5+2*x.8+0,o:=aB s.3 (2*n+5+2*x.8+0),w:=bif bS s.3 (2*n+5+2*x.8+0)then WU x.3 else 0,ok:=bS s.3 (2*n+5+2*x.8+0) } })) (.pre ((t=t∧n=n)∧lE' x.6∧w0y∧lE' (w1h n s x)) (.ret {d:=false,x:= {x with pred:=x.9,tries:=W (x.5+1),ab:=ilt x.11 (W (x.5+1)),at':=0,moved:=0,cl:=bD},s:= {t:=s.1,n:=s.2,xs:=aS s.3 (2*n+5+2*x.8+0) (WU x.3),c:=s.4+1,k:=2,a:=2*n+5+2*x.8+0,o:=aB s.3 (2*n+5+2*x.8+0),w:=bif bS s.3 (2*n+5+2*x.8+0)then WU x.3 else 0,ok:=bS s.3 (2*n+5+2*x.8+0) } }))))))
theorem MO(t n:Int)(x:FNS)(s:MS)(K:FnO→Prop)(h:(wH t n x s).run K):cT' 94 [.ptr 0 0,.ptr 1 0] [cE' [.I t,.I n,.I x.pred,.int .u64 x.pw,.I x.curr,.int .u64 x.cw,.I x.tries,.slice 3 0 x.ul.length 1,.bool x.ab,.I x.me,.I x.frm,.I x.key,.I x.limit,.I 6,.I x.moved,.O],aY 2 s,aZ s,iI' x.ul] (cF 3 0 [15] [(.cell 0 7,.ints (some .i64))] (F5 t n) K):=by
 exact cM' (E:=EC7) (by kernel_rfl) h
def JQ(t n:Int)(x:FNS)(s:MS):Tr FnO:=
 bif ieq x.at' 0 then wE t n x s else
 bif ieq x.at' 1 then yY t n x s else
 bif ieq x.at' 2 then wF t n x s else
 bif ieq x.at' 3 then n8 t n x s else
 bif ieq x.at' 4 then DU t n x s else
 bif ieq x.at' 5 then wG t n x s else
 bif ieq x.at' 6 then wH t n x s else .pre False (.ret default)
def fnF(t n:Int)(x:FNS)(s:MS):FnO:=(JQ t n x s).val
def MG(t n:Int)(x:FNS)(s:MS):Prop:=(JQ t n x s).ok
theorem WF(t n:Int)(x:FNS)(s:MS)(K:AVal→aD Ob→Prop)(h:(JQ t n x s).run (fun y=>(FnO.fin t n y).run K)):cT' 94 [.ptr 0 0,.ptr 1 0] (fnH t n x s) K:=by
 unfold JQ at h
 by_cases e:x.at'=0
 ·rw [e]at h;have h:(wE t n x s).run _:=h;refine aFR (root:=0) (pos:=[15]) (cs:=[(.cell 0 7,.ints (some .i64))]) (parse:=F5 t n) (fin:=FnO.fin t n) qE (bF.unpack (.find t n x) 0 0 (lC t n x) [] rfl (congrArg (Prod.mk 0) (iK (by omega))) (by kernel_rfl) rfl) ?_
  have q:=MH t n x s _ h;rw [←e]at q;exact q
 rw [b8 e]at h
 by_cases e:x.at'=1
 ·rw [e]at h;have h:(yY t n x s).run _:=h;refine aFR (root:=0) (pos:=[15]) (cs:=[(.cell 0 7,.ints (some .i64))]) (parse:=F5 t n) (fin:=FnO.fin t n) qE (bF.unpack (.find t n x) 0 0 (lC t n x) [] rfl (congrArg (Prod.mk 0) (iK (by omega))) (by kernel_rfl) rfl) ?_
  have q:=MI t n x s _ h;rw [←e]at q;exact q
 rw [b8 e]at h
 by_cases e:x.at'=2
 ·rw [e]at h;have h:(wF t n x s).run _:=h;refine aFR (root:=0) (pos:=[15]) (cs:=[(.cell 0 7,.ints (some .i64))]) (parse:=F5 t n) (fin:=FnO.fin t n) qE (bF.unpack (.find t n x) 0 0 (lC t n x) [] rfl (congrArg (Prod.mk 0) (iK (by omega))) (by kernel_rfl) rfl) ?_
  have q:=MJ t n x s _ h;rw [←e]at q;exact q
 rw [b8 e]at h
 by_cases e:x.at'=3
 ·rw [e]at h;have h:(n8 t n x s).run _:=h;refine aFR (root:=0) (pos:=[15]) (cs:=[(.cell 0 7,.ints (some .i64))]) (parse:=F5 t n) (fin:=FnO.fin t n) qE (bF.unpack (.find t n x) 0 0 (lC t n x) [] rfl (congrArg (Prod.mk 0) (iK (by omega))) (by kernel_rfl) rfl) ?_
  have q:=MK t n x s _ h;rw [←e]at q;exact q
 rw [b8 e]at h
 by_cases e:x.at'=4
 ·rw [e]at h;have h:(DU t n x s).run _:=h;refine aFR (root:=0) (pos:=[15]) (cs:=[(.cell 0 7,.ints (some .i64))]) (parse:=F5 t n) (fin:=FnO.fin t n) qE (bF.unpack (.find t n x) 0 0 (rP t n x) [] rfl (congrArg (Prod.mk 0) (JO e)) (by kernel_rfl) rfl) ?_
  have q:=MM t n x s _ h;rw [←e]at q;exact q
 rw [b8 e]at h
 by_cases e:x.at'=5
 ·rw [e]at h;have h:(wG t n x s).run _:=h;refine aFR (root:=0) (pos:=[15]) (cs:=[(.cell 0 7,.ints (some .i64))]) (parse:=F5 t n) (fin:=FnO.fin t n) qE (bF.unpack (.find t n x) 0 0 (lC t n x) [] rfl (congrArg (Prod.mk 0) (iK (by omega))) (by kernel_rfl) rfl) ?_
  have q:=MN t n x s _ h;rw [←e]at q;exact q
 rw [b8 e]at h
 by_cases e:x.at'=6
 ·rw [e]at h;have h:(wH t n x s).run _:=h;refine aFR (root:=0) (pos:=[15]) (cs:=[(.cell 0 7,.ints (some .i64))]) (parse:=F5 t n) (fin:=FnO.fin t n) qE (bF.unpack (.find t n x) 0 0 (lC t n x) [] rfl (congrArg (Prod.mk 0) (iK (by omega))) (by kernel_rfl) rfl) ?_
  have q:=MO t n x s _ h;rw [←e]at q;exact q
 rw [b8 e]at h;exact h.1.elim
noncomputable def fnS:aG Ob:=fun args h=>match args,h with
 | [.ptr 0 0,.ptr 1 0],[some (.abs (.find t n x) []),e1,e2]=>(match cU 2 [e1,e2]with
   | some (l,s)=>some (.pre (l=s.xs.length∧MG t n x s) (FnO.fin t n (fnF t n x s)))
   | none=>none)
 | _,_=>none
theorem aDS:sT' 94 fnS:=by
 intro args h o ho K hK;unfold fnS at ho;split at ho
 case h_2=>cases ho
 split at ho<;>cases ho
 rename_i hm;obtain⟨⟨hl,ok⟩,hK⟩:=hK;have hh:=bB hm hl;cases hh;exact WF _ _ _ _ K (aFW ok hK)
def aBe(t n:Int)(v:AVal)(g:aD Ob):Option (Prop×FNS):=match v,g with
 | .ptr 0 0,[some (.cells [.int .i64 t1,.int .i64 n1,.int .i64 pred,.int .u64 pw,.int .i64 curr,.int .u64 cw,.int .i64 tries,.slice 1 0 ul_l 1,.bool ab,.int .i64 me,.int .i64 frm,.int .i64 key,.int .i64 limit,.int .i64 at',.int .i64 moved,.O]),some (.ints (some .i64) ul)]=>some ((t1=t∧n1=n)∧ul_l=ul.length∧(at'≠4),(⟨pred,pw,curr,cw,tries,ul,ab,me,frm,key,limit,at',moved,⟨0,0,0,0⟩⟩:FNS))
 | _,_=>none
abbrev V7(t n:Int)(y:FNS):aD Ob:=[some (.abs (.find t n y) [])]
theorem V8{t n:Int} :cE (obI tbl) 0 (aBe t n) (fun y=>.ret (.ptr 0 0) (V7 t n y)):=by
 intro v g p x hp hq K hK;unfold aBe at hp;split at hp
 case h_2=>cases hp
 rename_i t1 n1 pred pw curr cw tries ul_l ab me frm key limit at' moved ul;simp only [sI',pI']at hp;obtain⟨rfl,rfl⟩:=hp;obtain⟨⟨rfl,rfl⟩,rfl,hat⟩:=hq;exact⟨⟨_,_,aF.pack (V7 t1 n1 (⟨pred,pw,curr,cw,tries,ul,ab,me,frm,key,limit,at',moved,⟨0,0,0,0⟩⟩:FNS)) (.find t1 n1 (⟨pred,pw,curr,cw,tries,ul,ab,me,frm,key,limit,at',moved,⟨0,0,0,0⟩⟩:FNS)) 0 0 (lC t1 n1 (⟨pred,pw,curr,cw,tries,ul,ab,me,frm,key,limit,at',moved,⟨0,0,0,0⟩⟩:FNS)) [] (by kernel_rfl) rfl (congrArg (Prod.mk 0) (iK hat)) (by kernel_rfl),hK⟩⟩
abbrev w1i(hd n:Int):=((0:Int)≤n∧n≤(100000:Int))∧(-1000000:Int)≤hd∧hd≤(1000000:Int)
def QO(t n:Int)(me hd key lim:Int):Tr FNS:=.pre (w1i hd n) (.pre (w1i hd n) (.pre ((t=t∧n=n)∧0=0∧(0:Int)≠(4:Int)) (.ret {pred:=n+1+hd,pw:=0,curr:=0,cw:=0,tries:=0,ul:=[],ab:=false,me:=me,frm:=n+1+hd,key:=key,limit:=lim,at':=0,moved:=0,cl:=bD})))
def lW(t n:Int)(me hd key lim:Int):FNS:=(QO t n me hd key lim).val
def pR(t n:Int)(me hd key lim:Int):Prop:=(QO t n me hd key lim).ok
def fnNS:aG Ob:=fun args h=>match args,h with
 | [.agg [.int .i64 t,.int .i64 n],.int .i64 me,.int .i64 hd,.int .i64 key,.int .i64 lim],[]=>some (.pre (pR t n me hd key lim) (.ret (.ptr 0 0) (V7 t n (lW t n me hd key lim))))
 | _,_=>none
theorem aBf:sT' 132 fnNS:=by
 intro args h o ho K hK;unfold fnNS at ho;split at ho<;>cases ho
 rename_i t n me hd key lim;obtain⟨ok,hK⟩:=hK;refine aF0 (root:=0) (pos:=[15]) (cs:=[(.cell 0 7,.ints (some .i64))]) (parse:=aBe t n) V8 ?_;exact cM' (E:=EC7) (q:=(QO t n me hd key lim).run (fun y=>(Out.ret (.ptr 0 0) (V7 t n y)).run K)) (by kernel_rfl) (aFW ok hK)
noncomputable def EF:=((EC7.addS 94 fnS aDS).addS 132 fnNS aBf)
def retC:aG Ob:=fun args h=>match args,h with
 | [.ptr 0 0,.slice 2 0 k 1],[e1,e2,some (.cells [.int .i64 p])]=>(match lL 1 [e1,e2]with
   | some (l,t,n,st)=>some (.pre (l=st.R.length∧k=1∧st.R.length+1≤4294967296) (.ret (.tup []) [cE' [.I t,.I n,.I st.me,.I st.sp,.slice 3 0 (st.R.length+1) 1],none,cE' [.I p],iI' (st.R++ [p])]))
   | none=>none)
 | _,_=>none
theorem X4:sT' 71 retC:=by
 intro args h o ho K hK;unfold retC at ho;split at ho
 case h_2=>cases ho
 rename_i k e1 e2 p;split at ho<;>cases ho
 rename_i l t n st hs;obtain⟨⟨hl,rfl,hle⟩,hK⟩:=hK;have hh:=cH hs hl;cases hh;refine aFQ (cM' (E:=EF) (q:=(0=0∧lE' st.3∧1=1∧st.3.length+(1:Nat)≤(4294967296:Nat))∧K (.tup []) [cE' [.I t,.I n,.I st.1,.I st.2,.slice 3 0 (st.3.length+1) 1],none,cE' [.I p],iI' (st.3++ [p])]) (by kernel_rfl) ?_)
 exact⟨⟨rfl,rfl,rfl,hle⟩,hK⟩
def retI:aG Ob:=fun args h=>match args,h with
 | [.ptr 0 0,.slice 2 0 k 1],[e1,e2,some (.ints (some .i64) xs)]=>(match lL 1 [e1,e2]with
   | some (l,t,n,st)=>some (.pre (l=st.R.length∧k=xs.length∧st.R.length+xs.length≤4294967296) (.ret (.tup []) [cE' [.I t,.I n,.I st.me,.I st.sp,.slice 3 0 (st.R.length+xs.length) 1],none,iI' xs,iI' (st.R++xs)]))
   | none=>none)
 | _,_=>none
theorem X5:sT' 71 retI:=by
 intro args h o ho K hK;unfold retI at ho;split at ho
 case h_2=>cases ho
 rename_i k e1 e2 xs;split at ho<;>cases ho
 rename_i l t n st hs;obtain⟨⟨hl,rfl,hle⟩,hK⟩:=hK;have hh:=cH hs hl;cases hh;refine aFQ (cM' (E:=EF) (q:=(0+xs.length≤xs.length∧0=0∧lE' st.3∧1=1∧st.3.length+xs.length≤(4294967296:Nat))∧K (.tup []) [cE' [.I t,.I n,.I st.1,.I st.2,.slice 3 0 (st.3.length+xs.length) 1],none,iI' xs,iI' (st.3++List.take xs.length (List.drop 0 xs))]) (by kernel_rfl) ?_)
 refine⟨⟨by omega,rfl,rfl,rfl,hle⟩,?_⟩
 rw [List.drop_zero,List.take_length];exact hK
noncomputable def retS:aG Ob:=aG.or retC retI
theorem aCy:sT' 71 retS:=aF6 X4 X5
noncomputable def ER:=EF.addS 71 retS aCy
structure FtO where
 d:Bool
 x:FTS
 st:STS
 s:MS
instance:Inhabited FtO:=⟨⟨false,bR,⟨0,0,[]⟩,⟨0,0,[],0,0,0,0,0,false⟩⟩⟩
instance:Inhabited FTS:=⟨bR⟩
abbrev TV(t n:Int)(x:FTS)(st:STS)(s:MS):aD Ob:=[some (.abs (.fast t n x) [1]),some (.abs (.store t n st) []),aY 3 s,aZ s]
abbrev ZB(t n:Int)(x:FTS)(st:STS)(s:MS):aD Ob:=[cE' [.ptr 1 0,.I x.code,.bool x.okk,.I x.val,.bool x.failed,.I x.tries,.I x.sh,.I x.kd,.I x.ky,.I x.most,.I x.at',.bool x.p.now,.I x.p.code,.bool x.p.okk,.I x.p.val,.I x.p.addr,.int .u64 x.p.old,.I x.p.nxt,.bool x.p.mark,.I x.p.pops,.O,.O,.O],some (.abs (.store t n st) []),aY 3 s,aZ s]
def FtO.fin(t n:Int)(y:FtO):Out Ob:=.ite y.d (.ret (.bool true) (ZB t n y.x y.st y.s)) (.ret (.bool false) (TV t n y.x y.st y.s))
def aBm(t n:Int)(v:AVal)(g:aD Ob):Option (Prop×FtO):=match v,g with
 | .bool d,[some (.cells [.ptr 1 0,.int .i64 code,.bool okk,.int .i64 val,.bool failed,.int .i64 tries,.int .i64 sh,.int .i64 kd,.int .i64 ky,.int .i64 most,.int .i64 at',.bool p_now,.int .i64 p_code,.bool p_okk,.int .i64 p_val,.int .i64 p_addr,.int .u64 p_old,.int .i64 p_nxt,.bool p_mark,.int .i64 p_pops,.O,.O,.O]),e1,e3,e4,e2]=>(match lL 4 [e1,e2],cU 3 [e3,e4]with
   | some (l2,t2,n2,st),some (l,s)=>some ((t2=t∧n2=n)∧(d=false→at'≠0∧at'≠1∧at'≠2)∧l=s.xs.length∧l2=st.R.length,⟨d,⟨code,okk,val,failed,tries,sh,kd,ky,most,at',⟨p_now,p_code,p_okk,p_val,p_addr,p_old,p_nxt,p_mark,p_pops⟩,aP,⟨0,0,0,0⟩,⟨0,0,0,false⟩⟩,st,s⟩)
   | _,_=>none)
 | _,_=>none
def aBn(t n:Int)(v:AVal)(g:aD Ob):Option (Prop×FtO):=match v,g with
 | .bool d,[some (.cells [.ptr 1 0,.int .i64 code,.bool okk,.int .i64 val,.bool failed,.int .i64 tries,.int .i64 sh,.int .i64 kd,.int .i64 ky,.int .i64 most,.int .i64 at',.bool p_now,.int .i64 p_code,.bool p_okk,.int .i64 p_val,.int .i64 p_addr,.int .u64 p_old,.int .i64 p_nxt,.bool p_mark,.int .i64 p_pops,.ptr 4 0,.O,.O]),e1,e3,e4,some (.abs (.find t' n' sub) []),e2]=>(match lL 5 [e1,e2],cU 3 [e3,e4]with
   | some (l2,t2,n2,st),some (l,s)=>some ((t2=t∧n2=n)∧t'=t∧n'=n∧(d=false→at'=0)∧l=s.xs.length∧l2=st.R.length,⟨d,⟨code,okk,val,failed,tries,sh,kd,ky,most,at',⟨p_now,p_code,p_okk,p_val,p_addr,p_old,p_nxt,p_mark,p_pops⟩,sub,⟨0,0,0,0⟩,⟨0,0,0,false⟩⟩,st,s⟩)
   | _,_=>none)
 | _,_=>none
def aBo(t n:Int)(v:AVal)(g:aD Ob):Option (Prop×FtO):=match v,g with
 | .bool d,[some (.cells [.ptr 1 0,.int .i64 code,.bool okk,.int .i64 val,.bool failed,.int .i64 tries,.int .i64 sh,.int .i64 kd,.int .i64 ky,.int .i64 most,.int .i64 at',.bool p_now,.int .i64 p_code,.bool p_okk,.int .i64 p_val,.int .i64 p_addr,.int .u64 p_old,.int .i64 p_nxt,.bool p_mark,.int .i64 p_pops,.O,.ptr 4 0,.O]),e1,e3,e4,some (.abs (.clear t' n' sub) []),e2]=>(match lL 5 [e1,e2],cU 3 [e3,e4]with
   | some (l2,t2,n2,st),some (l,s)=>some ((t2=t∧n2=n)∧t'=t∧n'=n∧(d=false→at'=1)∧l=s.xs.length∧l2=st.R.length,⟨d,⟨code,okk,val,failed,tries,sh,kd,ky,most,at',⟨p_now,p_code,p_okk,p_val,p_addr,p_old,p_nxt,p_mark,p_pops⟩,aP,sub,⟨0,0,0,false⟩⟩,st,s⟩)
   | _,_=>none)
 | _,_=>none
def aBp(t n:Int)(v:AVal)(g:aD Ob):Option (Prop×FtO):=match v,g with
 | .bool d,[some (.cells [.ptr 1 0,.int .i64 code,.bool okk,.int .i64 val,.bool failed,.int .i64 tries,.int .i64 sh,.int .i64 kd,.int .i64 ky,.int .i64 most,.int .i64 at',.bool p_now,.int .i64 p_code,.bool p_okk,.int .i64 p_val,.int .i64 p_addr,.int .u64 p_old,.int .i64 p_nxt,.bool p_mark,.int .i64 p_pops,.O,.O,.ptr 4 0]),e1,e3,e4,some (.abs (.prepare t' n' sub) [1]),e2]=>(match lL 5 [e1,e2],cU 3 [e3,e4]with
   | some (l2,t2,n2,st),some (l,s)=>some ((t2=t∧n2=n)∧t'=t∧n'=n∧(d=false→at'=2)∧l=s.xs.length∧l2=st.R.length,⟨d,⟨code,okk,val,failed,tries,sh,kd,ky,most,at',⟨p_now,p_code,p_okk,p_val,p_addr,p_old,p_nxt,p_mark,p_pops⟩,aP,⟨0,0,0,0⟩,sub⟩,st,s⟩)
   | _,_=>none)
 | _,_=>none
def TW(t n:Int)(v:AVal)(g:aD Ob):Option (Prop×FtO):=(match aBm t n v g with
 | some r=>some r
 | none=>(match aBn t n v g with
 | some r=>some r
 | none=>(match aBo t n v g with
 | some r=>some r
 | none=>aBp t n v g)))
theorem WN{t n:Int} :cE (obI tbl) 4 (aBm t n) (FtO.fin t n):=by
 intro v g p x hp hq K hK;unfold aBm at hp;split at hp
 case h_2=>cases hp
 rename_i d code okk val failed tries sh kd ky most at' p_now p_code p_okk p_val p_addr p_old p_nxt p_mark p_pops e1 e3 e4 e2;split at hp
 case h_2=>cases hp
 rename_i l2 t2 n2 st l s hs hm;simp only [sI',pI']at hp;obtain⟨rfl,rfl⟩:=hp;obtain⟨⟨rfl,rfl⟩,hat,hl,hl2⟩:=hq;have hh:=bB hm hl;cases hh;have hh:=cH hs hl2;cases hh;refine fM hK (fun h=>?_) (fun hd h=>?_)
 ·exact⟨⟨_,_,(aF.pack (ZB t2 n2 (⟨code,okk,val,failed,tries,sh,kd,ky,most,at',⟨p_now,p_code,p_okk,p_val,p_addr,p_old,p_nxt,p_mark,p_pops⟩,aP,⟨0,0,0,0⟩,⟨0,0,0,false⟩⟩:FTS) st s) (.store t2 n2 st) 1 0 (dJ t2 n2 st) [] (by kernel_rfl) rfl rfl (by kernel_rfl)),h⟩⟩
 ·exact let X0:FTS:=⟨code,okk,val,failed,tries,sh,kd,ky,most,at',⟨p_now,p_code,p_okk,p_val,p_addr,p_old,p_nxt,p_mark,p_pops⟩,aP,⟨0,0,0,0⟩,⟨0,0,0,false⟩⟩;⟨⟨_,_,((aF.pack (bA (TV t2 n2 X0 st s) 0 1 (wC t2 n2 X0) [1]) (.store t2 n2 st) 1 0 (dJ t2 n2 st) [] (by kernel_rfl) rfl rfl (by kernel_rfl)).trans (aF.pack (TV t2 n2 X0 st s) (.fast t2 n2 X0) 0 1 (wC t2 n2 X0) [1] (by kernel_rfl) rfl (congrArg (Prod.mk 1) (DO (hat hd))) (by kernel_rfl))),h⟩⟩
theorem WO{t n:Int} :cE (obI tbl) 4 (aBn t n) (FtO.fin t n):=by
 intro v g p x hp hq K hK;unfold aBn at hp;split at hp
 case h_2=>cases hp
 rename_i d code okk val failed tries sh kd ky most at' p_now p_code p_okk p_val p_addr p_old p_nxt p_mark p_pops e1 e3 e4 t' n' sub e2;split at hp
 case h_2=>cases hp
 rename_i l2 t2 n2 st l s hs hm;simp only [sI',pI']at hp;obtain⟨rfl,rfl⟩:=hp;obtain⟨⟨rfl,rfl⟩,rfl,rfl,hat,hl,hl2⟩:=hq;have hh:=bB hm hl;cases hh;have hh:=cH hs hl2;cases hh;refine fM hK (fun h=>?_) (fun hd h=>?_)
 ·exact⟨⟨_,_,(aF.weak (cD _ 0 [20,21,22])).trans ((aF.pick [0,1,2,3,5] rfl).trans ((aF.eq (g2:=bA (ZB t' n' (⟨code,okk,val,failed,tries,sh,kd,ky,most,at',⟨p_now,p_code,p_okk,p_val,p_addr,p_old,p_nxt,p_mark,p_pops⟩,sub,⟨0,0,0,0⟩,⟨0,0,0,false⟩⟩:FTS) st s) 1 0 (dJ t' n' st) []) (by kernel_rfl) (by kernel_rfl)).trans (aF.pack (ZB t' n' (⟨code,okk,val,failed,tries,sh,kd,ky,most,at',⟨p_now,p_code,p_okk,p_val,p_addr,p_old,p_nxt,p_mark,p_pops⟩,sub,⟨0,0,0,0⟩,⟨0,0,0,false⟩⟩:FTS) st s) (.store t' n' st) 1 0 (dJ t' n' st) [] (by kernel_rfl) rfl rfl (by kernel_rfl)))),h⟩⟩
 ·exact let X0:FTS:=⟨code,okk,val,failed,tries,sh,kd,ky,most,at',⟨p_now,p_code,p_okk,p_val,p_addr,p_old,p_nxt,p_mark,p_pops⟩,sub,⟨0,0,0,0⟩,⟨0,0,0,false⟩⟩;⟨⟨_,_,((aF.pack (bA (TV t' n' X0 st s) 0 1 (lV t' n' X0) [1]) (.store t' n' st) 1 0 (dJ t' n' st) [] (by kernel_rfl) rfl rfl (by kernel_rfl)).trans (aF.pack (TV t' n' X0 st s) (.fast t' n' X0) 0 1 (lV t' n' X0) [1] (by kernel_rfl) rfl (congrArg (Prod.mk 1) (AZ (hat hd))) (by kernel_rfl))),h⟩⟩
theorem WP{t n:Int} :cE (obI tbl) 4 (aBo t n) (FtO.fin t n):=by
 intro v g p x hp hq K hK;unfold aBo at hp;split at hp
 case h_2=>cases hp
 rename_i d code okk val failed tries sh kd ky most at' p_now p_code p_okk p_val p_addr p_old p_nxt p_mark p_pops e1 e3 e4 t' n' sub e2;split at hp
 case h_2=>cases hp
 rename_i l2 t2 n2 st l s hs hm;simp only [sI',pI']at hp;obtain⟨rfl,rfl⟩:=hp;obtain⟨⟨rfl,rfl⟩,rfl,rfl,hat,hl,hl2⟩:=hq;have hh:=bB hm hl;cases hh;have hh:=cH hs hl2;cases hh;refine fM hK (fun h=>?_) (fun hd h=>?_)
 ·exact⟨⟨_,_,(aF.weak (cD _ 0 [20,21,22])).trans ((aF.pick [0,1,2,3,5] rfl).trans ((aF.eq (g2:=bA (ZB t' n' (⟨code,okk,val,failed,tries,sh,kd,ky,most,at',⟨p_now,p_code,p_okk,p_val,p_addr,p_old,p_nxt,p_mark,p_pops⟩,aP,sub,⟨0,0,0,false⟩⟩:FTS) st s) 1 0 (dJ t' n' st) []) (by kernel_rfl) (by kernel_rfl)).trans (aF.pack (ZB t' n' (⟨code,okk,val,failed,tries,sh,kd,ky,most,at',⟨p_now,p_code,p_okk,p_val,p_addr,p_old,p_nxt,p_mark,p_pops⟩,aP,sub,⟨0,0,0,false⟩⟩:FTS) st s) (.store t' n' st) 1 0 (dJ t' n' st) [] (by kernel_rfl) rfl rfl (by kernel_rfl)))),h⟩⟩
 ·exact let X0:FTS:=⟨code,okk,val,failed,tries,sh,kd,ky,most,at',⟨p_now,p_code,p_okk,p_val,p_addr,p_old,p_nxt,p_mark,p_pops⟩,aP,sub,⟨0,0,0,false⟩⟩;⟨⟨_,_,((aF.pack (bA (TV t' n' X0 st s) 0 1 (nZ t' n' X0) [1]) (.store t' n' st) 1 0 (dJ t' n' st) [] (by kernel_rfl) rfl rfl (by kernel_rfl)).trans (aF.pack (TV t' n' X0 st s) (.fast t' n' X0) 0 1 (nZ t' n' X0) [1] (by kernel_rfl) rfl (congrArg (Prod.mk 1) (JL (hat hd))) (by kernel_rfl))),h⟩⟩
theorem WQ{t n:Int} :cE (obI tbl) 4 (aBp t n) (FtO.fin t n):=by
 intro v g p x hp hq K hK;unfold aBp at hp;split at hp
 case h_2=>cases hp
 rename_i d code okk val failed tries sh kd ky most at' p_now p_code p_okk p_val p_addr p_old p_nxt p_mark p_pops e1 e3 e4 t' n' sub e2;split at hp
 case h_2=>cases hp
 rename_i l2 t2 n2 st l s hs hm;simp only [sI',pI']at hp;obtain⟨rfl,rfl⟩:=hp;obtain⟨⟨rfl,rfl⟩,rfl,rfl,hat,hl,hl2⟩:=hq;have hh:=bB hm hl;cases hh;have hh:=cH hs hl2;cases hh;refine fM hK (fun h=>?_) (fun hd h=>?_)
 ·exact⟨⟨_,_,(aF.weak (cD _ 0 [20,21,22])).trans ((aF.pick [0,1,2,3,5] rfl).trans ((aF.eq (g2:=bA (ZB t' n' (⟨code,okk,val,failed,tries,sh,kd,ky,most,at',⟨p_now,p_code,p_okk,p_val,p_addr,p_old,p_nxt,p_mark,p_pops⟩,aP,⟨0,0,0,0⟩,sub⟩:FTS) st s) 1 0 (dJ t' n' st) []) (by kernel_rfl) (by kernel_rfl)).trans (aF.pack (ZB t' n' (⟨code,okk,val,failed,tries,sh,kd,ky,most,at',⟨p_now,p_code,p_okk,p_val,p_addr,p_old,p_nxt,p_mark,p_pops⟩,aP,⟨0,0,0,0⟩,sub⟩:FTS) st s) (.store t' n' st) 1 0 (dJ t' n' st) [] (by kernel_rfl) rfl rfl (by kernel_rfl)))),h⟩⟩
 ·exact let X0:FTS:=⟨code,okk,val,failed,tries,sh,kd,ky,most,at',⟨p_now,p_code,p_okk,p_val,p_addr,p_old,p_nxt,p_mark,p_pops⟩,aP,⟨0,0,0,0⟩,sub⟩;⟨⟨_,_,((aF.pack (bA (TV t' n' X0 st s) 0 1 (n5 t' n' X0) [1]) (.store t' n' st) 1 0 (dJ t' n' st) [] (by kernel_rfl) rfl rfl (by kernel_rfl)).trans (aF.pack (TV t' n' X0 st s) (.fast t' n' X0) 0 1 (n5 t' n' X0) [1] (by kernel_rfl) rfl (congrArg (Prod.mk 1) (JM (hat hd))) (by kernel_rfl))),h⟩⟩
theorem A3{t n:Int} :cE (obI tbl) 4 (TW t n) (FtO.fin t n):=by
 intro v g p x hp hq K hK;unfold TW at hp;split at hp
 ·rename_i r hr;cases hp;exact WN v g p x hr hq K hK
 split at hp
 ·rename_i r hr;cases hp;exact WO v g p x hr hq K hK
 split at hp
 ·rename_i r hr;cases hp;exact WP v g p x hr hq K hK
 exact WQ v g p x hp hq K hK
abbrev w1m(n:Int)(s:MS)(t:Int)(x:FTS):=FnO.x (fnF t n x.12 s)
abbrev w1j(n:Int)(s:MS)(st:STS)(t:Int)(x:FTS):=aJ x.6 x.7 x.8 (w1m n s t x).1 (w1m n s t x).2 (w1m n s t x).3 (w1m n s t x).4 st.2
abbrev w1k(n:Int)(s:MS)(t:Int)(x:FTS):=FnO.s (fnF t n x.12 s)
abbrev w1n(s:MS)(st:STS)(x:FTS):Tr FtO:=.ret {d:=true,x:= {x with failed:=true,at':=0,p:= {now:=(FTS.p x).1,code:=(FTS.p x).2,okk:=(FTS.p x).3,val:=(FTS.p x).4,addr:=(FTS.p x).5,old:=(FTS.p x).6,nxt:=(FTS.p x).7,mark:=(FTS.p x).8,pops:=(FTS.p x).9},cl:=bD,pr:=cV},st:= {me:=st.1,sp:=st.2,R:=st.3},s:= {s with c:=s.4+1,k:=1,a:=0,o:=aB s.3 0,w:=aB s.3 0,ok:=bS s.3 0} }
abbrev w1q:=true=false→(0:Int)≠(0:Int)∧(0:Int)≠(1:Int)∧(0:Int)≠(2:Int)
abbrev w1s:=false=false→(3:Int)≠(0:Int)∧(3:Int)≠(1:Int)∧(3:Int)≠(2:Int)
abbrev w1t:=false=false→(0:Int)=(0:Int)
abbrev w1u:=false=false→(1:Int)=(1:Int)
abbrev w1v:=false=false→(2:Int)=(2:Int)
def rT(t n:Int)(x:FTS)(st:STS)(s:MS):Tr FtO:=.pre True (.ite (!a8 x.6 x.7 x.8) (.pre (lE' s.3∧(0:Int)≤s.4∧s.4≤(4611686018427387904:Int)) (.pre ((t=t∧n=n)∧t=t∧n=n∧(true=false→(0:Int)=(0:Int))∧lE' s.3∧lE' st.3) (w1n s st x))) (.pre True (.ite (bV x.7) (.ite (ieq st.2 0) (.pre (lE' s.3∧(0:Int)≤s.4∧s.4≤(4611686018427387904:Int)) (.pre ((t=t∧n=n)∧t=t∧n=n∧(true=false→(0:Int)=(0:Int))∧lE' s.3∧lE' st.3) (w1n s st x))) (.pre (lE' s.3∧MG t n x.12 s) (.ite (fnF t n x.12 s).1 (.pre ((lE' st.3∧lE' (w1m n s t x).6∧st.3.length+List.length (w1m n s t x).6≤(4294967296:Nat))∧True) (.ite (ilt x.9 (W (x.5+(w1m n s t x).5))) (.pre ((t=t∧n=n)∧w1q∧lE' (w1k n s t x).3∧st.3.length+List.length (w1m n s t x).6=List.length (st.3++(w1m n s t x).6)) (.ret {d:=true,x:= {x with failed:=ilt x.9 (W (x.5+(w1m n s t x).5)),tries:=W (x.5+(w1m n s t x).5),at':=0,p:= {now:=(FTS.p x).1,code:=(FTS.p x).2,okk:=(FTS.p x).3,val:=(FTS.p x).4,addr:=(FTS.p x).5,old:=(FTS.p x).6,nxt:=(FTS.p x).7,mark:=(FTS.p x).8,pops:=(FTS.p x).9},fn:=aP,cl:=bD,pr:=cV},st:= {me:=st.1,sp:=st.2,R:=st.3++(w1m n s t x).6},s:= {t:=(w1k n s t x).1,n:=(w1k n s t x).2,xs:=(w1k n s t x).3,c:=(w1k n s t x).4,k:=(w1k n s t x).5,a:=(w1k n s t x).6,o:=(w1k n s t x).7,w:=(w1k n s t x).8,ok:=(w1k n s t x).9} })) (.pre (w6 x.6 x.7 x.8 (w1m n s t x).1 (w1m n s t x).2 (w1m n s t x).3 (w1m n s t x).4 st.2∧True) (.ite (w1j n s st t x).1 (.pre ((t=t∧n=n)∧w1q∧lE' (w1k n s t x).3∧st.3.length+List.length (w1m n s t x).6=List.length (st.3++(w1m n s t x).6)) (.ret {d:=true,x:= {x with code:=(w1j n s st t x).2,okk:=(w1j n s st t x).3,val:=(w1j n s st t x).4,failed:=ilt x.9 (W (x.5+(w1m n s t x).5)),tries:=W (x.5+(w1m n s t x).5),at':=0,p:= {now:=(w1j n s st t x).1,code:=(w1j n s st t x).2,okk:=(w1j n s st t x).3,val:=(w1j n s st t x).4,addr:=(w1j n s st t x).5,old:=(w1j n s st t x).6,nxt:=(w1j n s st t x).7,mark:=(w1j n s st t x).8,pops:=(w1j n s st t x).9},fn:=aP,cl:=bD,pr:=cV},st:= {me:=st.1,sp:=st.2,R:=st.3++(w1m n s t x).6},s:= {t:=(w1k n s t x).1,n:=(w1k n s t x).2,xs:=(w1k n s t x).3,c:=(w1k n s t x).4,k:=(w1k n s t x).5,a:=(w1k n s t x).6,o:=(w1k n s t x).7,w:=(w1k n s t x).8,ok:=(w1k n s t x).9} })) (.pre (pH (w1j n s st t x).1 (w1j n s st t x).2 (w1j n s st t x).3 (w1j n s st t x).4 (w1j n s st t x).5 (w1j n s st t x).6 (w1j n s st t x).7 (w1j n s st t x).8 (w1j n s st t x).9) (.ite (lJ (w1j n s st t x).1 (w1j n s st t x).2 (w1j n s st t x).3 (w1j n s st t x).4 (w1j n s st t x).5 (w1j n s st t x).6 (w1j n s st t x).7 (w1j n s st t x).8 (w1j n s st t x).9) (.pre (qU t n (w1j n s st t x).5∧True) (.pre ((t=t∧n=n)∧t=t∧n=n∧w1u∧lE' (w1k n s t x).3∧st.3.length+List.length (w1m n s t x).6=List.length (st.3++(w1m n s t x).6)) (.ret {d:=false,x:= {x with failed:=ilt x.9 (W (x.5+(w1m n s t x).5)),tries:=W (x.5+(w1m n s t x).5),at':=1,p:= {now:=(w1j n s st t x).1,code:=(w1j n s st t x).2,okk:=(w1j n s st t x).3,val:=(w1j n s st t x).4,addr:=(w1j n s st t x).5,old:=(w1j n s st t x).6,nxt:=(w1j n s st t x).7,mark:=(w1j n s st t x).8,pops:=(w1j n s st t x).9},fn:=aP,cl:=AG t n (w1j n s st t x).5,pr:=cV},st:= {me:=st.1,sp:=st.2,R:=st.3++(w1m n s t x).6},s:= {t:=(w1k n s t x).1,n:=(w1k n s t x).2,xs:=(w1k n s t x).3,c:=(w1k n s t x).4,k:=(w1k n s t x).5,a:=(w1k n s t x).6,o:=(w1k n s t x).7,w:=(w1k n s t x).8,ok:=(w1k n s t x).9} }))) (.pre True (.ite (bV x.7) (.pre ((st.3.length+List.length (w1m n s t x).6=List.length (st.3++(w1m n s t x).6)∧FK t n x.8 (w1m n s t x).3 {me:=st.1,sp:=st.2,R:=st.3++(w1m n s t x).6})∧True) (.pre ((t=t∧n=n)∧t=t∧n=n∧w1v∧lE' (w1k n s t x).3∧lE' (Prod.snd (l8 t n x.8 (w1m n s t x).3 {me:=st.1,sp:=st.2,R:=st.3++(w1m n s t x).6})).3) (.ret {d:=false,x:= {x with failed:=ilt x.9 (W (x.5+(w1m n s t x).5)),tries:=W (x.5+(w1m n s t x).5),at':=2,p:= {now:=(w1j n s st t x).1,code:=(w1j n s st t x).2,okk:=(w1j n s st t x).3,val:=(w1j n s st t x).4,addr:=(w1j n s st t x).5,old:=(w1j n s st t x).6,nxt:=(w1j n s st t x).7,mark:=(w1j n s st t x).8,pops:=(w1j n s st t x).9},fn:=aP,cl:=bD,pr:=(l8 t n x.8 (w1m n s t x).3 {me:=st.1,sp:=st.2,R:=st.3++(w1m n s t x).6}).1},st:= {me:=(Prod.snd (l8 t n x.8 (w1m n s t x).3 {me:=st.1,sp:=st.2,R:=st.3++(w1m n s t x).6})).1,sp:=(Prod.snd (l8 t n x.8 (w1m n s t x).3 {me:=st.1,sp:=st.2,R:=st.3++(w1m n s t x).6})).2,R:=(Prod.snd (l8 t n x.8 (w1m n s t x).3 {me:=st.1,sp:=st.2,R:=st.3++(w1m n s t x).6})).3},s:= {t:=(w1k n s t x).1,n:=(w1k n s t x).2,xs:=(w1k n s t x).3,c:=(w1k n s t x).4,k:=(w1k n s t x).5,a:=(w1k n s t x).6,o:=(w1k n s t x).7,w:=(w1k n s t x).8,ok:=(w1k n s t x).9} }))) (.pre ((t=t∧n=n)∧w1s∧lE' (w1k n s t x).3∧st.3.length+List.length (w1m n s t x).6=List.length (st.3++(w1m n s t x).6)) (.ret {d:=false,x:= {x with failed:=ilt x.9 (W (x.5+(w1m n s t x).5)),tries:=W (x.5+(w1m n s t x).5),at':=3,p:= {now:=(w1j n s st t x).1,code:=(w1j n s st t x).2,okk:=(w1j n s st t x).3,val:=(w1j n s st t x).4,addr:=(w1j n s st t x).5,old:=(w1j n s st t x).6,nxt:=(w1j n s st t x).7,mark:=(w1j n s st t x).8,pops:=(w1j n s st t x).9},fn:=aP,cl:=bD,pr:=cV},st:= {me:=st.1,sp:=st.2,R:=st.3++(w1m n s t x).6},s:= {t:=(w1k n s t x).1,n:=(w1k n s t x).2,xs:=(w1k n s t x).3,c:=(w1k n s t x).4,k:=(w1k n s t x).5,a:=(w1k n s t x).6,o:=(w1k n s t x).7,w:=(w1k n s t x).8,ok:=(w1k n s t x).9} })))))))))) (.pre ((t=t∧n=n)∧t=t∧n=n∧w1t∧lE' (w1k n s t x).3∧lE' st.3) (.ret {d:=false,x:= {x with at':=0,p:= {now:=(FTS.p x).1,code:=(FTS.p x).2,okk:=(FTS.p x).3,val:=(FTS.p x).4,addr:=(FTS.p x).5,old:=(FTS.p x).6,nxt:=(FTS.p x).7,mark:=(FTS.p x).8,pops:=(FTS.p x).9},fn:=(fnF t n x.12 s).2,cl:=bD,pr:=cV},st:= {me:=st.1,sp:=st.2,R:=st.3},s:= {t:=(w1k n s t x).1,n:=(w1k n s t x).2,xs:=(w1k n s t x).3,c:=(w1k n s t x).4,k:=(w1k n s t x).5,a:=(w1k n s t x).6,o:=(w1k n s t x).7,w:=(w1k n s t x).8,ok:=(w1k n s t x).9} }))))) (.pre (lE' s.3∧MG t n x.12 s) (.ite (fnF t n x.12 s).1 (.pre ((lE' st.3∧lE' (w1m n s t x).6∧st.3.length+List.length (w1m n s t x).6≤(4294967296:Nat))∧True) (.ite (ilt x.9 (W (x.5+(w1m n s t x).5))) (.pre ((t=t∧n=n)∧w1q∧lE' (w1k n s t x).3∧st.3.length+List.length (w1m n s t x).6=List.length (st.3++(w1m n s t x).6)) (.ret {d:=true,x:= {x with failed:=ilt x.9 (W (x.5+(w1m n s t x).5)),tries:=W (x.5+(w1m n s t x).5),at':=0,p:= {now:=(FTS.p x).1,code:=(FTS.p x).2,okk:=(FTS.p x).3,val:=(FTS.p x).4,addr:=(FTS.p x).5,old:=(FTS.p x).6,nxt:=(FTS.p x).7,mark:=(FTS.p x).8,pops:=(FTS.p x).9},fn:=aP,cl:=bD,pr:=cV},st:= {me:=st.1,sp:=st.2,R:=st.3++(w1m n s t x).6},s:= {t:=(w1k n s t x).1,n:=(w1k n s t x).2,xs:=(w1k n s t x).3,c:=(w1k n s t x).4,k:=(w1k n s t x).5,a:=(w1k n s t x).6,o:=(w1k n s t x).7,w:=(w1k n s t x).8,ok:=(w1k n s t x).9} })) (.pre (w6 x.6 x.7 x.8 (w1m n s t x).1 (w1m n s t x).2 (w1m n s t x).3 (w1m n s t x).4 st.2∧True) (.ite (w1j n s st t x).1 (.pre ((t=t∧n=n)∧w1q∧lE' (w1k n s t x).3∧st.3.length+List.length (w1m n s t x).6=List.length (st.3++(w1m n s t x).6)) (.ret {d:=true,x:= {x with code:=(w1j n s st t x).2,okk:=(w1j n s st t x).3,val:=(w1j n s st t x).4,failed:=ilt x.9 (W (x.5+(w1m n s t x).5)),tries:=W (x.5+(w1m n s t x).5),at':=0,p:= {now:=(w1j n s st t x).1,code:=(w1j n s st t x).2,okk:=(w1j n s st t x).3,val:=(w1j n s st t x).4,addr:=(w1j n s st t x).5,old:=(w1j n s st t x).6,nxt:=(w1j n s st t x).7,mark:=(w1j n s st t x).8,pops:=(w1j n s st t x).9},fn:=aP,cl:=bD,pr:=cV},st:= {me:=st.1,sp:=st.2,R:=st.3++(w1m n s t x).6},s:= {t:=(w1k n s t x).1,n:=(w1k n s t x).2,xs:=(w1k n s t x).3,c:=(w1k n s t x).4,k:=(w1k n s t x).5,a:=(w1k n s t x).6,o:=(w1k n s t x).7,w:=(w1k n s t x).8,ok:=(w1k n s t x).9} })) (.pre (pH (w1j n s st t x).1 (w1j n s st t x).2 (w1j n s st t x).3 (w1j n s st t x).4 (w1j n s st t x).5 (w1j n s st t x).6 (w1j n s st t x).7 (w1j n s st t x).8 (w1j n s st t x).9) (.ite (lJ (w1j n s st t x).1 (w1j n s st t x).2 (w1j n s st t x).3 (w1j n s st t x).4 (w1j n s st t x).5 (w1j n s st t x).6 (w1j n s st t x).7 (w1j n s st t x).8 (w1j n s st t x).9) (.pre (qU t n (w1j n s st t x).5∧True) (.pre ((t=t∧n=n)∧t=t∧n=n∧w1u∧lE' (w1k n s t x).3∧st.3.length+List.length (w1m n s t x).6=List.length (st.3++(w1m n s t x).6)) (.ret {d:=false,x:= {x with failed:=ilt x.9 (W (x.5+(w1m n s t x).5)),tries:=W (x.5+(w1m n s t x).5),at':=1,p:= {now:=(w1j n s st t x).1,code:=(w1j n s st t x).2,okk:=(w1j n s st t x).3,val:=(w1j n s st t x).4,addr:=(w1j n s st t x).5,old:=(w1j n s st t x).6,nxt:=(w1j n s st t x).7,mark:=(w1j n s st t x).8,pops:=(w1j n s st t x).9},fn:=aP,cl:=AG t n (w1j n s st t x).5,pr:=cV},st:= {me:=st.1,sp:=st.2,R:=st.3++(w1m n s t x).6},s:= {t:=(w1k n s t x).1,n:=(w1k n s t x).2,xs:=(w1k n s t x).3,c:=(w1k n s t x).4,k:=(w1k n s t x).5,a:=(w1k n s t x).6,o:=(w1k n s t x).7,w:=(w1k n s t x).8,ok:=(w1k n s t x).9} }))) (.pre True (.ite (bV x.7) (.pre ((st.3.length+List.length (w1m n s t x).6=List.length (st.3++(w1m n s t x).6)∧FK t n x.8 (w1m n s t x).3 {me:=st.1,sp:=st.2,R:=st.3++(w1m n s t x).6})∧True) (.pre ((t=t∧n=n)∧t=t∧n=n∧w1v∧lE' (w1k n s t x).3∧lE' (Prod.snd (l8 t n x.8 (w1m n s t x).3 {me:=st.1,sp:=st.2,R:=st.3++(w1m n s t x).6})).3) (.ret {d:=false,x:= {x with failed:=ilt x.9 (W (x.5+(w1m n s t x).5)),tries:=W (x.5+(w1m n s t x).5),at':=2,p:= {now:=(w1j n s st t x).1,code:=(w1j n s st t x).2,okk:=(w1j n s st t x).3,val:=(w1j n s st t x).4,addr:=(w1j n s st t x).5,old:=(w1j n s st t x).6,nxt:=(w1j n s st t x).7,mark:=(w1j n s st t x).8,pops:=(w1j n s st t x).9},fn:=aP,cl:=bD,pr:=(l8 t n x.8 (w1m n s t x).3 {me:=st.1,sp:=st.2,R:=st.3++(w1m n s t x).6}).1},st:= {me:=(Prod.snd (l8 t n x.8 (w1m n s t x).3 {me:=st.1,sp:=st.2,R:=st.3++(w1m n s t x).6})).1,sp:=(Prod.snd (l8 t n x.8 (w1m n s t x).3 {me:=st.1,sp:=st.2,R:=st.3++(w1m n s t x).6})).2,R:=(Prod.snd (l8 t n x.8 (w1m n s t x).3 {me:=st.1,sp:=st.2,R:=st.3++(w1m n s t x).6})).3},s:= {t:=(w1k n s t x).1,n:=(w1k n s t x).2,xs:=(w1k n s t x).3,c:=(w1k n s t x).4,k:=(w1k n s t x).5,a:=(w1k n s t x).6,o:=(w1k n s t x).7,w:=(w1k n s t x).8,ok:=(w1k n s t x).9} }))) (.pre ((t=t∧n=n)∧w1s∧lE' (w1k n s t x).3∧st.3.length+List.length (w1m n s t x).6=List.length (st.3++(w1m n s t x).6)) (.ret {d:=false,x:= {x with failed:=ilt x.9 (W (x.5+(w1m n s t x).5)),tries:=W (x.5+(w1m n s t x).5),at':=3,p:= {now:=(w1j n s st t x).1,code:=(w1j n s st t x).2,okk:=(w1j n s st t x).3,val:=(w1j n s st t x).4,addr:=(w1j n s st t x).5,old:=(w1j n s st t x).6,nxt:=(w1j n s st t x).7,mark:=(w1j n s st t x).8,pops:=(w1j n s st t x).9},fn:=aP,cl:=bD,pr:=cV},st:= {me:=st.1,sp:=st.2,R:=st.3++(w1m n s t x).6},s:= {t:=(w1k n s t x).1,n:=(w1k n s t x).2,xs:=(w1k n s t x).3,c:=(w1k n s t x).4,k:=(w1k n s t x).5,a:=(w1k n s t x).6,o:=(w1k n s t x).7,w:=(w1k n s t x).8,ok:=(w1k n s t x).9} })))))))))) (.pre ((t=t∧n=n)∧t=t∧n=n∧w1t∧lE' (w1k n s t x).3∧lE' st.3) (.ret {d:=false,x:= {x with at':=0,p:= {now:=(FTS.p x).1,code:=(FTS.p x).2,okk:=(FTS.p x).3,val:=(FTS.p x).4,addr:=(FTS.p x).5,old:=(FTS.p x).6,nxt:=(FTS.p x).7,mark:=(FTS.p x).8,pops:=(FTS.p x).9},fn:=(fnF t n x.12 s).2,cl:=bD,pr:=cV},st:= {me:=st.1,sp:=st.2,R:=st.3},s:= {t:=(w1k n s t x).1,n:=(w1k n s t x).2,xs:=(w1k n s t x).3,c:=(w1k n s t x).4,k:=(w1k n s t x).5,a:=(w1k n s t x).6,o:=(w1k n s t x).7,w:=(w1k n s t x).8,ok:=(w1k n s t x).9} })))))))
theorem MR(t n:Int)(x:FTS)(st:STS)(s:MS)(K:FtO→Prop)(h:(rT t n x st s).run K):cT' 39 [.ptr 0 0,.ptr 2 0] [cE' [.ptr 1 0,.I x.code,.bool x.okk,.I x.val,.bool x.failed,.I x.tries,.I x.sh,.I x.kd,.I x.ky,.I x.most,.I 0,.bool x.p.now,.I x.p.code,.bool x.p.okk,.I x.p.val,.I x.p.addr,.int .u64 x.p.old,.I x.p.nxt,.bool x.p.mark,.I x.p.pops,.ptr 4 0,.O,.O],stC 5 t n st,aY 3 s,aZ s,some (.abs (.find t n x.fn) []),hO st] (cF 4 0 [20,21,22] [(.cell 1 4,.ints (some .i64))] (TW t n) K):=by
 exact cM' (E:=ER) (by kernel_rfl) h
abbrev w1p(n:Int)(s:MS)(t:Int)(x:FTS):=ClO.s (dP t n x.13 s)
def DY(t n:Int)(x:FTS)(st:STS)(s:MS):Tr FtO:=.pre (lE' s.3∧PQ t n x.13 s) (.ite (dP t n x.13 s).1 (.ite (ilt x.9 (W (x.5+1))) (.pre ((t=t∧n=n)∧(true=false→(1:Int)≠(0:Int)∧(1:Int)≠(1:Int)∧(1:Int)≠(2:Int))∧lE' (w1p n s t x).3∧lE' st.3) (.ret {d:=true,x:= {x with failed:=ilt x.9 (W (x.5+1)),tries:=W (x.5+1),at':=1,p:= {now:=(FTS.p x).1,code:=(FTS.p x).2,okk:=(FTS.p x).3,val:=(FTS.p x).4,addr:=(FTS.p x).5,old:=(FTS.p x).6,nxt:=(FTS.p x).7,mark:=(FTS.p x).8,pops:=(FTS.p x).9},fn:=aP,cl:=bD,pr:=cV},st:= {me:=st.1,sp:=st.2,R:=st.3},s:= {t:=(w1p n s t x).1,n:=(w1p n s t x).2,xs:=(w1p n s t x).3,c:=(w1p n s t x).4,k:=(w1p n s t x).5,a:=(w1p n s t x).6,o:=(w1p n s t x).7,w:=(w1p n s t x).8,ok:=(w1p n s t x).9} })) (.pre True (.pre (pR t n st.1 (b9 x.6 x.8) (bW x.6 x.7 x.8) (W (x.9 - W (x.5+1)))∧True) (.pre ((t=t∧n=n)∧t=t∧n=n∧w1t∧lE' (w1p n s t x).3∧lE' st.3) (.ret {d:=false,x:= {x with failed:=ilt x.9 (W (x.5+1)),tries:=W (x.5+1),at':=0,p:= {now:=(FTS.p x).1,code:=(FTS.p x).2,okk:=(FTS.p x).3,val:=(FTS.p x).4,addr:=(FTS.p x).5,old:=(FTS.p x).6,nxt:=(FTS.p x).7,mark:=(FTS.p x).8,pops:=(FTS.p x).9},fn:=lW t n st.1 (b9 x.6 x.8) (bW x.6 x.7 x.8) (W (x.9 - W (x.5+1))),cl:=bD,pr:=cV},st:= {me:=st.1,sp:=st.2,R:=st.3},s:= {t:=(w1p n s t x).1,n:=(w1p n s t x).2,xs:=(w1p n s t x).3,c:=(w1p n s t x).4,k:=(w1p n s t x).5,a:=(w1p n s t x).6,o:=(w1p n s t x).7,w:=(w1p n s t x).8,ok:=(w1p n s t x).9} }))))) (.pre ((t=t∧n=n)∧t=t∧n=n∧w1u∧lE' (w1p n s t x).3∧lE' st.3) (.ret {d:=false,x:= {x with at':=1,p:= {now:=(FTS.p x).1,code:=(FTS.p x).2,okk:=(FTS.p x).3,val:=(FTS.p x).4,addr:=(FTS.p x).5,old:=(FTS.p x).6,nxt:=(FTS.p x).7,mark:=(FTS.p x).8,pops:=(FTS.p x).9},fn:=aP,cl:=(dP t n x.13 s).2,pr:=cV},st:= {me:=st.1,sp:=st.2,R:=st.3},s:= {t:=(w1p n s t x).1,n:=(w1p n s t x).2,xs:=(w1p n s t x).3,c:=(w1p n s t x).4,k:=(w1p n s t x).5,a:=(w1p n s t x).6,o:=(w1p n s t x).7,w:=(w1p n s t x).8,ok:=(w1p n s t x).9} })))
theorem MT(t n:Int)(x:FTS)(st:STS)(s:MS)(K:FtO→Prop)(h:(DY t n x st s).run K):cT' 39 [.ptr 0 0,.ptr 2 0] [cE' [.ptr 1 0,.I x.code,.bool x.okk,.I x.val,.bool x.failed,.I x.tries,.I x.sh,.I x.kd,.I x.ky,.I x.most,.I 1,.bool x.p.now,.I x.p.code,.bool x.p.okk,.I x.p.val,.I x.p.addr,.int .u64 x.p.old,.I x.p.nxt,.bool x.p.mark,.I x.p.pops,.O,.ptr 4 0,.O],stC 5 t n st,aY 3 s,aZ s,some (.abs (.clear t n x.cl) []),hO st] (cF 4 0 [20,21,22] [(.cell 1 4,.ints (some .i64))] (TW t n) K):=by
 exact cM' (E:=ER) (by kernel_rfl) h
abbrev w1r(n:Int)(s:MS)(st:STS)(t:Int)(x:FTS):=PrO.s (prF t n x.14 st s)
def rU(t n:Int)(x:FTS)(st:STS)(s:MS):Tr FtO:=.pre ((lE' s.3∧lE' st.3∧t=t∧n=n)∧SG t n x.14 st s) (.ite (prF t n x.14 st s).1 (.pre ((t=t∧n=n)∧w1s∧lE' (w1r n s st t x).3∧lE' (PrO.st (prF t n x.14 st s)).3) (.ret {d:=false,x:= {x with at':=3,p:= {now:=(FTS.p x).1,code:=(FTS.p x).2,okk:=(FTS.p x).3,val:=(FTS.p x).4,addr:=(FTS.p x).5,old:=(FTS.p x).6,nxt:=(FTS.p x).7,mark:=(FTS.p x).8,pops:=(FTS.p x).9},fn:=aP,cl:=bD,pr:=cV},st:= {me:=(PrO.st (prF t n x.14 st s)).1,sp:=(PrO.st (prF t n x.14 st s)).2,R:=(PrO.st (prF t n x.14 st s)).3},s:= {t:=(w1r n s st t x).1,n:=(w1r n s st t x).2,xs:=(w1r n s st t x).3,c:=(w1r n s st t x).4,k:=(w1r n s st t x).5,a:=(w1r n s st t x).6,o:=(w1r n s st t x).7,w:=(w1r n s st t x).8,ok:=(w1r n s st t x).9} })) (.pre ((t=t∧n=n)∧t=t∧n=n∧w1v∧lE' (w1r n s st t x).3∧lE' (PrO.st (prF t n x.14 st s)).3) (.ret {d:=false,x:= {x with at':=2,p:= {now:=(FTS.p x).1,code:=(FTS.p x).2,okk:=(FTS.p x).3,val:=(FTS.p x).4,addr:=(FTS.p x).5,old:=(FTS.p x).6,nxt:=(FTS.p x).7,mark:=(FTS.p x).8,pops:=(FTS.p x).9},fn:=aP,cl:=bD,pr:=(prF t n x.14 st s).2},st:= {me:=(PrO.st (prF t n x.14 st s)).1,sp:=(PrO.st (prF t n x.14 st s)).2,R:=(PrO.st (prF t n x.14 st s)).3},s:= {t:=(w1r n s st t x).1,n:=(w1r n s st t x).2,xs:=(w1r n s st t x).3,c:=(w1r n s st t x).4,k:=(w1r n s st t x).5,a:=(w1r n s st t x).6,o:=(w1r n s st t x).7,w:=(w1r n s st t x).8,ok:=(w1r n s st t x).9} })))
theorem MU(t n:Int)(x:FTS)(st:STS)(s:MS)(K:FtO→Prop)(h:(rU t n x st s).run K):cT' 39 [.ptr 0 0,.ptr 2 0] [cE' [.ptr 1 0,.I x.code,.bool x.okk,.I x.val,.bool x.failed,.I x.tries,.I x.sh,.I x.kd,.I x.ky,.I x.most,.I 2,.bool x.p.now,.I x.p.code,.bool x.p.okk,.I x.p.val,.I x.p.addr,.int .u64 x.p.old,.I x.p.nxt,.bool x.p.mark,.I x.p.pops,.O,.O,.ptr 4 0],stC 5 t n st,aY 3 s,aZ s,some (.abs (.prepare t n x.pr) [1]),hO st] (cF 4 0 [20,21,22] [(.cell 1 4,.ints (some .i64))] (TW t n) K):=by
 exact cM' (E:=ER) (by kernel_rfl) h
abbrev w1l(x:FTS):=dD (FTS.p x).1 (FTS.p x).2 (FTS.p x).3 (FTS.p x).4 (FTS.p x).5 (FTS.p x).6 (FTS.p x).7 (FTS.p x).8 (FTS.p x).9
abbrev w1o:=true=false→(3:Int)≠(0:Int)∧(3:Int)≠(1:Int)∧(3:Int)≠(2:Int)
def wJ(t n:Int)(x:FTS)(st:STS)(s:MS):Tr FtO:=.pre (BK (FTS.p x).1 (FTS.p x).2 (FTS.p x).3 (FTS.p x).4 (FTS.p x).5 (FTS.p x).6 (FTS.p x).7 (FTS.p x).8 (FTS.p x).9∧True) (.pre ((lE' s.3∧(0:Int)≤s.4∧s.4≤(4611686018427387904:Int))∧True) (.ite (!aT s.3 (FTS.p x).5 (FTS.p x).6) (.ite (ilt x.9 (W (x.5+1))) (.pre ((t=t∧n=n)∧w1o∧lE' (bif aT s.3 (FTS.p x).5 (FTS.p x).6 then aS s.3 (FTS.p x).5 (w1l x)else s.3)∧lE' st.3) (.ret {d:=true,x:= {x with failed:=ilt x.9 (W (x.5+1)),tries:=W (x.5+1),at':=3,p:= {now:=(FTS.p x).1,code:=(FTS.p x).2,okk:=(FTS.p x).3,val:=(FTS.p x).4,addr:=(FTS.p x).5,old:=(FTS.p x).6,nxt:=(FTS.p x).7,mark:=(FTS.p x).8,pops:=(FTS.p x).9},fn:=aP,cl:=bD,pr:=cV},st:= {me:=st.1,sp:=st.2,R:=st.3},s:= {t:=s.1,n:=s.2,xs:=bif aT s.3 (FTS.p x).5 (FTS.p x).6 then aS s.3 (FTS.p x).5 (w1l x)else s.3,c:=s.4+1,k:=3,a:=(FTS.p x).5,o:=aB s.3 (FTS.p x).5,w:=bif bS s.3 (FTS.p x).5 then dD (FTS.p x).1 (FTS.p x).2 (FTS.p x).3 (FTS.p x).4 (FTS.p x).5 (FTS.p x).6 (FTS.p x).7 (FTS.p x).8 (FTS.p x).9 else 0,ok:=aT s.3 (FTS.p x).5 (FTS.p x).6} })) (.pre True (.pre (pR t n st.1 (b9 x.6 x.8) (bW x.6 x.7 x.8) (W (x.9 - W (x.5+1)))∧True) (.pre ((t=t∧n=n)∧t=t∧n=n∧w1t∧lE' (bif aT s.3 (FTS.p x).5 (FTS.p x).6 then aS s.3 (FTS.p x).5 (w1l x)else s.3)∧lE' st.3) (.ret {d:=false,x:= {x with failed:=ilt x.9 (W (x.5+1)),tries:=W (x.5+1),at':=0,p:= {now:=(FTS.p x).1,code:=(FTS.p x).2,okk:=(FTS.p x).3,val:=(FTS.p x).4,addr:=(FTS.p x).5,old:=(FTS.p x).6,nxt:=(FTS.p x).7,mark:=(FTS.p x).8,pops:=(FTS.p x).9},fn:=lW t n st.1 (b9 x.6 x.8) (bW x.6 x.7 x.8) (W (x.9 - W (x.5+1))),cl:=bD,pr:=cV},st:= {me:=st.1,sp:=st.2,R:=st.3},s:= {t:=s.1,n:=s.2,xs:=bif aT s.3 (FTS.p x).5 (FTS.p x).6 then aS s.3 (FTS.p x).5 (w1l x)else s.3,c:=s.4+1,k:=3,a:=(FTS.p x).5,o:=aB s.3 (FTS.p x).5,w:=bif bS s.3 (FTS.p x).5 then dD (FTS.p x).1 (FTS.p x).2 (FTS.p x).3 (FTS.p x).4 (FTS.p x).5 (FTS.p x).6 (FTS.p x).7 (FTS.p x).8 (FTS.p x).9 else 0,ok:=aT s.3 (FTS.p x).5 (FTS.p x).6} }))))) (.pre True (.ite (bV x.7) (.ite (!ieq (FTS.p x).9 0) (.pre ((lE' st.3∧1=1∧st.3.length+(1:Nat)≤(4294967296:Nat))∧True) (.pre ((t=t∧n=n)∧w1o∧lE' (bif aT s.3 (FTS.p x).5 (FTS.p x).6 then aS s.3 (FTS.p x).5 (w1l x)else s.3)∧st.3.length+(1:Nat)=List.length (st.3++ [(FTS.p x).9])) (.ret {d:=true,x:= {x with code:=(FTS.p x).2,okk:=(FTS.p x).3,val:=(FTS.p x).4,at':=3,p:= {now:=(FTS.p x).1,code:=(FTS.p x).2,okk:=(FTS.p x).3,val:=(FTS.p x).4,addr:=(FTS.p x).5,old:=(FTS.p x).6,nxt:=(FTS.p x).7,mark:=(FTS.p x).8,pops:=(FTS.p x).9},fn:=aP,cl:=bD,pr:=cV},st:= {me:=st.1,sp:=0,R:=st.3++ [(FTS.p x).9] },s:= {t:=s.1,n:=s.2,xs:=bif aT s.3 (FTS.p x).5 (FTS.p x).6 then aS s.3 (FTS.p x).5 (w1l x)else s.3,c:=s.4+1,k:=3,a:=(FTS.p x).5,o:=aB s.3 (FTS.p x).5,w:=bif bS s.3 (FTS.p x).5 then dD (FTS.p x).1 (FTS.p x).2 (FTS.p x).3 (FTS.p x).4 (FTS.p x).5 (FTS.p x).6 (FTS.p x).7 (FTS.p x).8 (FTS.p x).9 else 0,ok:=aT s.3 (FTS.p x).5 (FTS.p x).6} }))) (.pre ((t=t∧n=n)∧w1o∧lE' (bif aT s.3 (FTS.p x).5 (FTS.p x).6 then aS s.3 (FTS.p x).5 (w1l x)else s.3)∧lE' st.3) (.ret {d:=true,x:= {x with code:=(FTS.p x).2,okk:=(FTS.p x).3,val:=(FTS.p x).4,at':=3,p:= {now:=(FTS.p x).1,code:=(FTS.p x).2,okk:=(FTS.p x).3,val:=(FTS.p x).4,addr:=(FTS.p x).5,old:=(FTS.p x).6,nxt:=(FTS.p x).7,mark:=(FTS.p x).8,pops:=(FTS.p x).9},fn:=aP,cl:=bD,pr:=cV},st:= {me:=st.1,sp:=0,R:=st.3},s:= {t:=s.1,n:=s.2,xs:=bif aT s.3 (FTS.p x).5 (FTS.p x).6 then aS s.3 (FTS.p x).5 (w1l x)else s.3,c:=s.4+1,k:=3,a:=(FTS.p x).5,o:=aB s.3 (FTS.p x).5,w:=bif bS s.3 (FTS.p x).5 then dD (FTS.p x).1 (FTS.p x).2 (FTS.p x).3 (FTS.p x).4 (FTS.p x).5 (FTS.p x).6 (FTS.p x).7 (FTS.p x).8 (FTS.p x).9 else 0,ok:=aT s.3 (FTS.p x).5 (FTS.p x).6} }))) (.ite (!ieq (FTS.p x).9 0) (.pre ((lE' st.3∧1=1∧st.3.length+(1:Nat)≤(4294967296:Nat))∧True) (.pre ((t=t∧n=n)∧w1o∧lE' (bif aT s.3 (FTS.p x).5 (FTS.p x).6 then aS s.3 (FTS.p x).5 (w1l x)else s.3)∧st.3.length+(1:Nat)=List.length (st.3++ [(FTS.p x).9])) (.ret {d:=true,x:= {x with code:=(FTS.p x).2,okk:=(FTS.p x).3,val:=(FTS.p x).4,at':=3,p:= {now:=(FTS.p x).1,code:=(FTS.p x).2,okk:=(FTS.p x).3,val:=(FTS.p x).4,addr:=(FTS.p x).5,old:=(FTS.p x).6,nxt:=(FTS.p x).7,mark:=(FTS.p x).8,pops:=(FTS.p x).9},fn:=aP,cl:=bD,pr:=cV},st:= {me:=st.1,sp:=st.2,R:=st.3++ [(FTS.p x).9] },s:= {t:=s.1,n:=s.2,xs:=bif aT s.3 (FTS.p x).5 (FTS.p x).6 then aS s.3 (FTS.p x).5 (w1l x)else s.3,c:=s.4+1,k:=3,a:=(FTS.p x).5,o:=aB s.3 (FTS.p x).5,w:=bif bS s.3 (FTS.p x).5 then dD (FTS.p x).1 (FTS.p x).2 (FTS.p x).3 (FTS.p x).4 (FTS.p x).5 (FTS.p x).6 (FTS.p x).7 (FTS.p x).8 (FTS.p x).9 else 0,ok:=aT s.3 (FTS.p x).5 (FTS.p x).6} }))) (.pre ((t=t∧n=n)∧w1o∧lE' (bif aT s.3 (FTS.p x).5 (FTS.p x).6 then aS s.3 (FTS.p x).5 (w1l x)else s.3)∧lE' st.3) (.ret {d:=true,x:= {x with code:=(FTS.p x).2,okk:=(FTS.p x).3,val:=(FTS.p x).4,at':=3,p:= {now:=(FTS.p x).1,code:=(FTS.p x).2,okk:=(FTS.p x).3,val:=(FTS.p x).4,addr:=(FTS.p x).5,old:=(FTS.p x).6,nxt:=(FTS.p x).7,mark:=(FTS.p x).8,pops:=(FTS.p x).9},fn:=aP,cl:=bD,pr:=cV},st:= {me:=st.1,sp:=st.2,R:=st.3},s:= {t:=s.1,n:=s.2,xs:=bif aT s.3 (FTS.p x).5 (FTS.p x).6 then aS s.3 (FTS.p x).5 (w1l x)else s.3,c:=s.4+1,k:=3,a:=(FTS.p x).5,o:=aB s.3 (FTS.p x).5,w:=bif bS s.3 (FTS.p x).5 then dD (FTS.p x).1 (FTS.p x).2 (FTS.p x).3 (FTS.p x).4 (FTS.p x).5 (FTS.p x).6 (FTS.p x).7 (FTS.p x).8 (FTS.p x).9 else 0,ok:=aT s.3 (FTS.p x).5 (FTS.p x).6} })))))))
theorem MV(t n:Int)(x:FTS)(st:STS)(s:MS)(K:FtO→Prop)(h:(wJ t n x st s).run K):cT' 39 [.ptr 0 0,.ptr 2 0] [cE' [.ptr 1 0,.I x.code,.bool x.okk,.I x.val,.bool x.failed,.I x.tries,.I x.sh,.I x.kd,.I x.ky,.I x.most,.I 3,.bool x.p.now,.I x.p.code,.bool x.p.okk,.I x.p.val,.I x.p.addr,.int .u64 x.p.old,.I x.p.nxt,.bool x.p.mark,.I x.p.pops,.O,.O,.O],stC 4 t n st,aY 3 s,aZ s,hO st] (cF 4 0 [20,21,22] [(.cell 1 4,.ints (some .i64))] (TW t n) K):=by
 exact cM' (E:=ER) (by kernel_rfl) h
def QV(t n:Int)(x:FTS)(st:STS)(s:MS):Tr FtO:=
 bif ieq x.at' 0 then rT t n x st s else
 bif ieq x.at' 1 then DY t n x st s else
 bif ieq x.at' 2 then rU t n x st s else
 bif ieq x.at' 3 then wJ t n x st s else .pre False (.ret default)
def ftF(t n:Int)(x:FTS)(st:STS)(s:MS):FtO:=(QV t n x st s).val
def WM(t n:Int)(x:FTS)(st:STS)(s:MS):Prop:=(QV t n x st s).ok
theorem JS(t n:Int)(x:FTS)(st:STS)(s:MS)(K:AVal→aD Ob→Prop)(h:(QV t n x st s).run (fun y=>(FtO.fin t n y).run K)):cT' 39 [.ptr 0 0,.ptr 2 0] (TV t n x st s) K:=by
 unfold QV at h
 by_cases e:x.at'=0
 ·rw [e]at h;have h:(rT t n x st s).run _:=h;refine aFR (root:=0) (pos:=[20,21,22]) (cs:=[(.cell 1 4,.ints (some .i64))]) (parse:=TW t n) (fin:=FtO.fin t n) A3 ((bF.unpack (.fast t n x) 0 1 (lV t n x) [1] rfl (congrArg (Prod.mk 1) (AZ e)) (by kernel_rfl) rfl).trans (bF.unpack (.store t n st) 1 0 (dJ t n st) [] rfl rfl rfl rfl)) ?_
  have q:=MR t n x st s _ h;rw [←e]at q;exact q
 rw [b8 e]at h
 by_cases e:x.at'=1
 ·rw [e]at h;have h:(DY t n x st s).run _:=h;refine aFR (root:=0) (pos:=[20,21,22]) (cs:=[(.cell 1 4,.ints (some .i64))]) (parse:=TW t n) (fin:=FtO.fin t n) A3 ((bF.unpack (.fast t n x) 0 1 (nZ t n x) [1] rfl (congrArg (Prod.mk 1) (JL e)) (by kernel_rfl) rfl).trans (bF.unpack (.store t n st) 1 0 (dJ t n st) [] rfl rfl rfl rfl)) ?_
  have q:=MT t n x st s _ h;rw [←e]at q;exact q
 rw [b8 e]at h
 by_cases e:x.at'=2
 ·rw [e]at h;have h:(rU t n x st s).run _:=h;refine aFR (root:=0) (pos:=[20,21,22]) (cs:=[(.cell 1 4,.ints (some .i64))]) (parse:=TW t n) (fin:=FtO.fin t n) A3 ((bF.unpack (.fast t n x) 0 1 (n5 t n x) [1] rfl (congrArg (Prod.mk 1) (JM e)) (by kernel_rfl) rfl).trans (bF.unpack (.store t n st) 1 0 (dJ t n st) [] rfl rfl rfl rfl)) ?_
  have q:=MU t n x st s _ h;rw [←e]at q;exact q
 rw [b8 e]at h
 by_cases e:x.at'=3
 ·rw [e]at h;have h:(wJ t n x st s).run _:=h;refine aFR (root:=0) (pos:=[20,21,22]) (cs:=[(.cell 1 4,.ints (some .i64))]) (parse:=TW t n) (fin:=FtO.fin t n) A3 ((bF.unpack (.fast t n x) 0 1 (wC t n x) [1] rfl (congrArg (Prod.mk 1) (DO ⟨(by omega),(by omega),(by omega)⟩)) (by kernel_rfl) rfl).trans (bF.unpack (.store t n st) 1 0 (dJ t n st) [] rfl rfl rfl rfl)) ?_
  have q:=MV t n x st s _ h;rw [←e]at q;exact q
 rw [b8 e]at h;exact h.1.elim
noncomputable def ftSA:aG Ob:=fun args h=>match args,h with
 | [.ptr 0 0,.ptr 2 0],[some (.abs (.fast t n x) [1]),some (.abs (.store t2 n2 st) []),e3,e4]=>(match cU 3 [e3,e4]with
   | some (l,s)=>some (.pre ((l=s.xs.length∧t2=t∧n2=n)∧WM t n x st s) (FtO.fin t n (ftF t n x st s)))
   | none=>none)
 | _,_=>none
theorem aBr:sT' 39 ftSA:=by
 intro args h o ho K hK;unfold ftSA at ho;split at ho
 case h_2=>cases ho
 split at ho<;>cases ho
 rename_i hm;obtain⟨⟨⟨hl,rfl,rfl⟩,ok⟩,hK⟩:=hK;have hh:=bB hm hl;cases hh;exact JS _ _ _ _ _ K (aFW ok hK)
def FtO.finB(t n:Int)(y:FtO):Out Ob:=.ite y.d (.ret (.bool true) ([cE' [.ptr 1 0,.I y.x.code,.bool y.x.okk,.I y.x.val,.bool y.x.failed,.I y.x.tries,.I y.x.sh,.I y.x.kd,.I y.x.ky,.I y.x.most,.I y.x.at',.bool y.x.p.now,.I y.x.p.code,.bool y.x.p.okk,.I y.x.p.val,.I y.x.p.addr,.int .u64 y.x.p.old,.I y.x.p.nxt,.bool y.x.p.mark,.I y.x.p.pops,.O,.O,.O],stC 5 t n y.st,none,aY 4 y.s,aZ y.s,hO y.st])) (.ret (.bool false) [some (.abs (.fast t n y.x) [1]),stC 5 t n y.st,none,aY 4 y.s,aZ y.s,hO y.st])
noncomputable def ftSB:aG Ob:=fun args h=>match args,h with
 | [.ptr 0 0,.ptr 3 0],[some (.abs (.fast t n x) [1]),e1,e2,e3,e4]=>(match lL 2 [e1,e2],cU 4 [e3,e4]with
   | some (l2,t2,n2,st),some (l,s)=>some (.pre ((l=s.xs.length∧l2=st.R.length∧t2=t∧n2=n)∧WM t n x st s) (FtO.finB t n (ftF t n x st s)))
   | _,_=>none)
 | _,_=>none
theorem aBs:sT' 39 ftSB:=by
 intro args h o ho K hK;unfold ftSB at ho;split at ho
 case h_2=>cases ho
 split at ho<;>cases ho
 rename_i hs hm;obtain⟨⟨⟨hl,hl2,rfl,rfl⟩,ok⟩,hK⟩:=hK;have hh:=bB hm hl;cases hh;have hh:=cH hs hl2;cases hh;exact jP (fun ι hι=>by simp [aM.ren,aFY,AVal.ren,hι]) (fun ι hι=>by simp [aM.ren,hι]) (fun K hK=>JS _ _ _ _ _ K (aFW ok hK)) K hK
noncomputable def ftS:aG Ob:=aG.or ftSA ftSB
theorem aDV:sT' 39 ftS:=aF6 aBr aBs
def aBl(t n:Int)(v:AVal)(g:aD Ob):Option (Prop×(FTS×STS)):=match v,g with
 | .ptr 2 0,[e1,e2,some (.cells [.ptr 0 0,.int .i64 code,.bool okk,.int .i64 val,.bool failed,.int .i64 tries,.int .i64 sh,.int .i64 kd,.int .i64 ky,.int .i64 most,.int .i64 at',.bool p_now,.int .i64 p_code,.bool p_okk,.int .i64 p_val,.int .i64 p_addr,.int .u64 p_old,.int .i64 p_nxt,.bool p_mark,.int .i64 p_pops,.ptr 3 0,.O,.O]),some (.abs (.find t' n' sub) [])]=>(match lL 1 [e1,e2]with
   | some (l2,t2,n2,st)=>some ((t2=t∧n2=n∧l2=st.R.length)∧t'=t∧n'=n∧at'=0,⟨(⟨code,okk,val,failed,tries,sh,kd,ky,most,at',⟨p_now,p_code,p_okk,p_val,p_addr,p_old,p_nxt,p_mark,p_pops⟩,sub,⟨0,0,0,0⟩,⟨0,0,0,false⟩⟩:FTS),st⟩)
   | none=>none)
 | _,_=>none
abbrev WJ(t n:Int)(y:(FTS×STS)):aD Ob:=[stC 1 t n y.2,hO y.2,some (.abs (.fast t n y.1) [0])]
theorem WK{t n:Int} :cE (obI tbl) 2 (aBl t n) (fun y=>.ret (.ptr 2 0) (WJ t n y)):=by
 intro v g p x hp hq K hK;unfold aBl at hp;split at hp
 case h_2=>cases hp
 rename_i e1 e2 code okk val failed tries sh kd ky most at' p_now p_code p_okk p_val p_addr p_old p_nxt p_mark p_pops t' n' sub;split at hp
 case h_2=>cases hp
 rename_i l2 t2 n2 st hs;simp only [sI',pI']at hp;obtain⟨rfl,rfl⟩:=hp;obtain⟨⟨rfl,rfl,hl2⟩,rfl,rfl,hat⟩:=hq;have hh:=cH hs hl2;cases hh;exact let X0:FTS:=⟨code,okk,val,failed,tries,sh,kd,ky,most,at',⟨p_now,p_code,p_okk,p_val,p_addr,p_old,p_nxt,p_mark,p_pops⟩,sub,⟨0,0,0,0⟩,⟨0,0,0,false⟩⟩;⟨⟨_,_,aF.pack (WJ t' n' (X0,st)) (.fast t' n' X0) 2 1 (lV t' n' X0) [0] (by kernel_rfl) rfl (congrArg (Prod.mk 1) (AZ hat)) (by kernel_rfl),hK⟩⟩
def QU(t n:Int)(sh kd ky most:Int)(st:STS):Tr (FTS×STS):=.pre True (.pre (pR t n st.1 (b9 sh ky) (bW sh kd ky) (W (most - 0))∧True) (.pre ((t=t∧n=n∧lE' st.3)∧t=t∧n=n∧(0:Int)=(0:Int)) (.ret ({code:=0,okk:=false,val:=0,failed:=false,tries:=0,sh:=sh,kd:=kd,ky:=ky,most:=most,at':=0,p:=aDq,fn:=lW t n st.1 (b9 sh ky) (bW sh kd ky) (W (most - 0)),cl:=bD,pr:=cV},{me:=st.1,sp:=st.2,R:=st.3}))))
def ftNF(t n:Int)(sh kd ky most:Int)(st:STS):(FTS×STS):=(QU t n sh kd ky most st).val
def uN(t n:Int)(sh kd ky most:Int)(st:STS):Prop:=(QU t n sh kd ky most st).ok
def ftNS:aG Ob:=fun args h=>match args,h with
 | [.ptr 0 0,.agg [.int .i64 sh,.int .i64 kd,.int .i64 ky],.int .i64 most],[e1,e2]=>(match lL 1 [e1,e2]with
   | some (l2,t,n,st)=>some (.pre (l2=st.R.length∧uN t n sh kd ky most st) (.ret (.ptr 2 0) (WJ t n (ftNF t n sh kd ky most st))))
   | none=>none)
 | _,_=>none
theorem HM:sT' 18 ftNS:=by
 intro args h o ho K hK;unfold ftNS at ho;split at ho
 case h_2=>cases ho
 rename_i sh kd ky most e1 e2;split at ho<;>cases ho
 rename_i l2 t n st hs;obtain⟨⟨hl2,ok⟩,hK⟩:=hK;have hh:=cH hs hl2;cases hh;refine aF0 (root:=2) (pos:=[20,21,22]) (cs:=[]) (parse:=aBl t n) WK ?_;exact cM' (E:=ER) (q:=(QU t n sh kd ky most st).run (fun y=>(Out.ret (.ptr 2 0) (WJ t n y)).run K)) (by kernel_rfl) (aFW ok hK)
noncomputable def ET:=((ER.addS 39 ftS aDV).addS 18 ftNS HM)
def HO:bO Ob:=fun args h=>match args,h with
 | [.ptr 0 0],[some (.cells [.ptr 1 0,.int .i64 u,.int .u64 no,.int .i64 rounds,.int .i64 limit,.int .i64 at',.int .u64 found,.int .i64 sh,.int .i64 kd,.int .i64 ky,.bool p_now,.int .i64 p_code,.bool p_okk,.int .i64 p_val,.int .i64 p_addr,.int .u64 p_old,.int .i64 p_nxt,.bool p_mark,.int .i64 p_pops,.O,.O,.O,.O,.O]),some (.cells [.int .i64 t,.int .i64 n,.int .i64 me,.int .i64 sp,.slice 2 0 k 1]),some (.ints (some .i64) R)]=>some (True,.agg [.I (aA found 0 12),.I (aA found 12 9),.I (aA found 21 18),.I (aA found 39 9),.bool (ieq (aA found 48 1) 1),.I (aA found 49 3),.I (aA found 52 10)])
 | _,_=>none
theorem Q6:sT' 108 HO.spec:=by
 intro args h o ho K hK;unfold bO.spec HO at ho;split at ho
 case h_2=>cases ho
 rename_i p v hp;split at hp
 case h_2=>cases hp
 rename_i u no rounds limit at' found sh kd ky p_now p_code p_okk p_val p_addr p_old p_nxt p_mark p_pops t n me sp k R;simp only [sI',pI']at hp;obtain⟨rfl,rfl⟩:=hp;simp only [sI']at ho;subst ho;obtain⟨hp,hK⟩:=hK;have hK:K (.agg [.I (aA found 0 12),.I (aA found 12 9),.I (aA found 21 18),.I (aA found 39 9),.bool (ieq (aA found 48 1) 1),.I (aA found 49 3),.I (aA found 52 10)]) [cE' [.ptr 1 0,.I u,.int .u64 no,.I rounds,.I limit,.I at',.int .u64 found,.I sh,.I kd,.I ky,.bool p_now,.I p_code,.bool p_okk,.I p_val,.I p_addr,.int .u64 p_old,.I p_nxt,.bool p_mark,.I p_pops,.O,.O,.O,.O,.O],cE' [.I t,.I n,.I me,.I sp,.slice 2 0 k 1],iI' R]:=hK;refine aFQ (cM' (E:=ET) (q:=True∧K (.agg [.I (aA found 0 12),.I (aA found 12 9),.I (aA found 21 18),.I (aA found 39 9),.bool (ieq (aA found 48 1) 1),.I (aA found 49 3),.I (aA found 52 10)]) [cE' [.ptr 1 0,.I u,.int .u64 no,.I rounds,.I limit,.I at',.int .u64 found,.I sh,.I kd,.I ky,.bool p_now,.I p_code,.bool p_okk,.I p_val,.I p_addr,.int .u64 p_old,.I p_nxt,.bool p_mark,.I p_pops,.O,.O,.O,.O,.O],cE' [.I t,.I n,.I me,.I sp,.slice 2 0 k 1],iI' R]) (by kernel_rfl) ?_)
 exact⟨trivial,hK⟩
noncomputable def EH0:=ET.addR 108 HO Q6
end Go.Sh
