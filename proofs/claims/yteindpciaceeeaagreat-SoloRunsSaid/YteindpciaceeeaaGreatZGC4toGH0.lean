import Derived.Test.YteindpciaceeeaaGreatZM36toGC3
set_option linter.all false
set_option maxHeartbeats 8000000
namespace Go.Sh
open Go Go.Proofs
variable [Con]
structure AnO where
 d:Bool
 x:ANS
 s:MS
instance:Inhabited AnO:=⟨⟨false,⟨0,0,0,0,false,0⟩,⟨0,0,[],0,0,0,0,0,false⟩⟩⟩
instance:Inhabited ANS:=⟨⟨0,0,0,0,false,0⟩⟩
abbrev anH(t n:Int)(x:ANS)(s:MS):aC Ob:=[some (.abs (.announce t n x) []),aZ 2 s,bA s]
abbrev anD(t n:Int)(x:ANS)(s:MS):aC Ob:=[cE' [.I t,.I n,.int .u64 x.no,.I x.me,.I x.at',.int .u64 x.bits,.bool x.wrong,.int .u64 x.found],aZ 2 s,bA s]
def AnO.fin(t n:Int)(y:AnO):Out Ob:=.ite y.d (.ret (.bool true) (anD t n y.x y.s)) (.ret (.bool false) (anH t n y.x y.s))
def aAy(t n:Int)(v:AVal)(g:aC Ob):Option (Prop×AnO):=match v,g with
 | .bool d,[some (.cells [.int .i64 t1,.int .i64 n1,.int .u64 no,.int .i64 me,.int .i64 at',.int .u64 bits,.bool wrong,.int .u64 found]),e1,e2]=>(match cO 2 [e1,e2]with
   | some (l,s)=>some ((t1=t∧n1=n)∧l=s.xs.length,⟨d,⟨no,me,at',bits,wrong,found⟩,s⟩)
   | none=>none)
 | _,_=>none
def MO(t n:Int)(v:AVal)(g:aC Ob):Option (Prop×AnO):=aAy t n v g
theorem TD{t n:Int} :bM (obI tbl) 3 (aAy t n) (AnO.fin t n):=by
 intro v g p x hp hq K hK;unfold aAy at hp;split at hp
 case h_2=>cases hp
 rename_i d t1 n1 no me at' bits wrong found e1 e2;split at hp
 case h_2=>cases hp
 rename_i l s hm;cases hp;obtain⟨⟨rfl,rfl⟩,hl⟩:=hq;cases bB hm hl;refine qG hK (fun h=>?_) (fun h=>?_)
 ·exact⟨⟨_,_,aIF _ _ _,h⟩⟩
 ·exact⟨⟨_,_,(aF.pack (anH t1 n1 (⟨no,me,at',bits,wrong,found⟩:ANS) s) (.announce t1 n1 (⟨no,me,at',bits,wrong,found⟩:ANS)) 0 0 (eU t1 n1 (⟨no,me,at',bits,wrong,found⟩:ANS)) [] (by kernel_rfl) rfl (congrArg (Prod.mk 0) rfl) (by kernel_rfl)),h⟩⟩
theorem tR{t n:Int} :bM (obI tbl) 3 (MO t n) (AnO.fin t n):=by
 intro v g p x hp hq K hK;unfold MO at hp;exact TD v g p x hp hq K hK
abbrev w0a(n t:Int)(x:ANS):=(((0:Int)≤t∧t≤(100000:Int))∧((0:Int)≤n∧n≤(100000:Int))∧(-1099511627776:Int)≤x.2∧x.2≤(1099511627776:Int))∧True
def AE(t n:Int)(x:ANS)(s:MS):Tr AnO:=.ite x.5 (.pre (lE' s.3∧(0:Int)≤s.4∧s.4≤(4611686018427387904:Int)) (.pre ((t=t∧n=n)∧lE' s.3) (.ret {d:=true,x:= {x with at':=0},s:= {s with c:=s.4+1,k:=1,a:=0,o:=aE s.3 0,w:=aE s.3 0,ok:=bL s.3 0} }))) (.pre (w0a n t x) (.pre ((lE' s.3∧(0:Int)≤s.4∧s.4≤(4611686018427387904:Int))∧True) (.pre ((t=t∧n=n)∧lE' (aV s.3 (2*n+5+2*t+3*x.2+1) x.4)) (.ret {d:=false,x:= {x with at':=W (0+1)},s:= {t:=s.1,n:=s.2,xs:=aV s.3 (2*n+5+2*t+3*x.2+1) x.4,c:=s.4+1,k:=2,a:=2*n+5+2*t+3*x.2+1,o:=aE s.3 (2*n+5+2*t+3*x.2+1),w:=bif bL s.3 (2*n+5+2*t+3*x.2+1)then x.4 else 0,ok:=bL s.3 (2*n+5+2*t+3*x.2+1) } }))))
theorem JA(t n:Int)(x:ANS)(s:MS)(K:AnO→Prop)(h:(AE t n x s).run K):cT' 158 [.ptr 0 0,.ptr 1 0] [cE' [.I t,.I n,.int .u64 x.no,.I x.me,.I 0,.int .u64 x.bits,.bool x.wrong,.int .u64 x.found],aZ 2 s,bA s] (bR 3 0 [] [] (MO t n) K):=by
 exact cM' (E:=EC3) (by kernel_rfl) h
def AF(t n:Int)(x:ANS)(s:MS):Tr AnO:=.ite x.5 (.pre (lE' s.3∧(0:Int)≤s.4∧s.4≤(4611686018427387904:Int)) (.pre ((t=t∧n=n)∧lE' s.3) (.ret {d:=true,x:= {x with at':=1},s:= {s with c:=s.4+1,k:=1,a:=0,o:=aE s.3 0,w:=aE s.3 0,ok:=bL s.3 0} }))) (.pre (((0:Int)≤t∧t≤(100000:Int))∧(0:Int)≤n∧n≤(100000:Int)) (.pre (lE' s.3∧(0:Int)≤s.4∧s.4≤(4611686018427387904:Int)) (.pre ((t=t∧n=n)∧lE' (aV s.3 (2*n+5+2*t+3*t) (WU (aE s.3 (2*n+5+2*t+3*t)+1)))) (.ret {d:=false,x:= {x with no:=WU (aE s.3 (2*n+5+2*t+3*t)+1),at':=W (1+1)},s:= {t:=s.1,n:=s.2,xs:=aV s.3 (2*n+5+2*t+3*t) (WU (aE s.3 (2*n+5+2*t+3*t)+1)),c:=s.4+1,k:=4,a:=2*n+5+2*t+3*t,o:=aE s.3 (2*n+5+2*t+3*t),w:=bif bL s.3 (2*n+5+2*t+3*t)then WU (aE s.3 (2*n+5+2*t+3*t)+1)else 0,ok:=bL s.3 (2*n+5+2*t+3*t) } }))))
theorem JB(t n:Int)(x:ANS)(s:MS)(K:AnO→Prop)(h:(AF t n x s).run K):cT' 158 [.ptr 0 0,.ptr 1 0] [cE' [.I t,.I n,.int .u64 x.no,.I x.me,.I 1,.int .u64 x.bits,.bool x.wrong,.int .u64 x.found],aZ 2 s,bA s] (bR 3 0 [] [] (MO t n) K):=by
 exact cM' (E:=EC3) (by kernel_rfl) h
def AG(t n:Int)(x:ANS)(s:MS):Tr AnO:=.ite x.5 (.pre (lE' s.3∧(0:Int)≤s.4∧s.4≤(4611686018427387904:Int)) (.pre ((t=t∧n=n)∧lE' s.3) (.ret {d:=true,x:= {x with at':=2},s:= {s with c:=s.4+1,k:=1,a:=0,o:=aE s.3 0,w:=aE s.3 0,ok:=bL s.3 0} }))) (.pre (w0a n t x) (.pre ((lE' s.3∧(0:Int)≤s.4∧s.4≤(4611686018427387904:Int))∧True) (.pre ((t=t∧n=n)∧lE' (aV s.3 (2*n+5+2*t+3*x.2) x.1)) (.ret {d:=false,x:= {x with at':=W (2+1)},s:= {t:=s.1,n:=s.2,xs:=aV s.3 (2*n+5+2*t+3*x.2) x.1,c:=s.4+1,k:=2,a:=2*n+5+2*t+3*x.2,o:=aE s.3 (2*n+5+2*t+3*x.2),w:=bif bL s.3 (2*n+5+2*t+3*x.2)then x.1 else 0,ok:=bL s.3 (2*n+5+2*t+3*x.2) } }))))
theorem JC(t n:Int)(x:ANS)(s:MS)(K:AnO→Prop)(h:(AG t n x s).run K):cT' 158 [.ptr 0 0,.ptr 1 0] [cE' [.I t,.I n,.int .u64 x.no,.I x.me,.I 2,.int .u64 x.bits,.bool x.wrong,.int .u64 x.found],aZ 2 s,bA s] (bR 3 0 [] [] (MO t n) K):=by
 exact cM' (E:=EC3) (by kernel_rfl) h
def AH(t n:Int)(x:ANS)(s:MS):Tr AnO:=.ite x.5 (.pre (lE' s.3∧(0:Int)≤s.4∧s.4≤(4611686018427387904:Int)) (.pre ((t=t∧n=n)∧lE' s.3) (.ret {d:=true,x:= {x with at':=3},s:= {s with c:=s.4+1,k:=1,a:=0,o:=aE s.3 0,w:=aE s.3 0,ok:=bL s.3 0} }))) (.pre (w0a n t x) (.pre ((lE' s.3∧(0:Int)≤s.4∧s.4≤(4611686018427387904:Int))∧True) (.pre ((t=t∧n=n)∧lE' s.3) (.ret {d:=false,x:= {x with at':=W (3+1),found:=aE s.3 (2*n+5+2*t+3*x.2+2) },s:= {s with c:=s.4+1,k:=1,a:=2*n+5+2*t+3*x.2+2,o:=aE s.3 (2*n+5+2*t+3*x.2+2),w:=aE s.3 (2*n+5+2*t+3*x.2+2),ok:=bL s.3 (2*n+5+2*t+3*x.2+2) } }))))
theorem JD(t n:Int)(x:ANS)(s:MS)(K:AnO→Prop)(h:(AH t n x s).run K):cT' 158 [.ptr 0 0,.ptr 1 0] [cE' [.I t,.I n,.int .u64 x.no,.I x.me,.I 3,.int .u64 x.bits,.bool x.wrong,.int .u64 x.found],aZ 2 s,bA s] (bR 3 0 [] [] (MO t n) K):=by
 exact cM' (E:=EC3) (by kernel_rfl) h
abbrev w0b(x:ANS):=eV (aA x.6 0 12)
def AI(t n:Int)(x:ANS)(s:MS):Tr AnO:=.ite x.5 (.pre (lE' s.3∧(0:Int)≤s.4∧s.4≤(4611686018427387904:Int)) (.pre ((t=t∧n=n)∧lE' s.3) (.ret {d:=true,x:= {x with at':=4},s:= {s with c:=s.4+1,k:=1,a:=0,o:=aE s.3 0,w:=aE s.3 0,ok:=bL s.3 0} }))) (.pre True (.pre ((0:Int)≤aA x.6 0 12∧aA x.6 0 (12:Int)≤(1000000:Int)) (.pre True (.pre (w0a n t x) (.pre ((lE' s.3∧(0:Int)≤s.4∧s.4≤(4611686018427387904:Int))∧True) (.pre ((t=t∧n=n)∧lE' (aV s.3 (2*n+5+2*t+3*x.2+2) (bif dOk (w0b x) 0 0 0 1 0 then cK (w0b x) 0 0 0 false 1 0 else 0))) (.ret {d:=true,x:= {x with at':=W (4+1)},s:= {t:=s.1,n:=s.2,xs:=aV s.3 (2*n+5+2*t+3*x.2+2) (bif dOk (w0b x) 0 0 0 1 0 then cK (w0b x) 0 0 0 false 1 0 else 0),c:=s.4+1,k:=2,a:=2*n+5+2*t+3*x.2+2,o:=aE s.3 (2*n+5+2*t+3*x.2+2),w:=bif bL s.3 (2*n+5+2*t+3*x.2+2)then bif dOk (w0b x) 0 0 0 1 0 then cK (w0b x) 0 0 0 false 1 0 else 0 else 0,ok:=bL s.3 (2*n+5+2*t+3*x.2+2) } })))))))
theorem JE(t n:Int)(x:ANS)(s:MS)(K:AnO→Prop)(h:(AI t n x s).run K):cT' 158 [.ptr 0 0,.ptr 1 0] [cE' [.I t,.I n,.int .u64 x.no,.I x.me,.I 4,.int .u64 x.bits,.bool x.wrong,.int .u64 x.found],aZ 2 s,bA s] (bR 3 0 [] [] (MO t n) K):=by
 exact cM' (E:=EC3) (by kernel_rfl) h
def anT(t n:Int)(x:ANS)(s:MS):Tr AnO:=
 bif ieq x.at' 0 then AE t n x s else
 bif ieq x.at' 1 then AF t n x s else
 bif ieq x.at' 2 then AG t n x s else
 bif ieq x.at' 3 then AH t n x s else
 bif ieq x.at' 4 then AI t n x s else .pre False (.ret default)
def EJ(t n:Int)(x:ANS)(s:MS):AnO:=(anT t n x s).val
def aAx(t n:Int)(x:ANS)(s:MS):Prop:=(anT t n x s).ok
theorem TE(t n:Int)(x:ANS)(s:MS)(K:AVal→aC Ob→Prop)(h:(anT t n x s).run (fun y=>(AnO.fin t n y).run K)):cT' 158 [.ptr 0 0,.ptr 1 0] (anH t n x s) K:=by
 unfold anT at h
 by_cases e:x.at'=0
 ·rw [e]at h;have h:(AE t n x s).run _:=h;refine aIm (root:=0) (pos:=[]) (cs:=[]) (parse:=MO t n) (fin:=AnO.fin t n) tR (aT.unpack (.announce t n x) 0 0 (eU t n x) [] rfl (congrArg (Prod.mk 0) rfl) (by kernel_rfl) rfl) ?_
  have q:=JA t n x s _ h;rw [←e]at q;exact q
 rw [bI e]at h
 by_cases e:x.at'=1
 ·rw [e]at h;have h:(AF t n x s).run _:=h;refine aIm (root:=0) (pos:=[]) (cs:=[]) (parse:=MO t n) (fin:=AnO.fin t n) tR (aT.unpack (.announce t n x) 0 0 (eU t n x) [] rfl (congrArg (Prod.mk 0) rfl) (by kernel_rfl) rfl) ?_
  have q:=JB t n x s _ h;rw [←e]at q;exact q
 rw [bI e]at h
 by_cases e:x.at'=2
 ·rw [e]at h;have h:(AG t n x s).run _:=h;refine aIm (root:=0) (pos:=[]) (cs:=[]) (parse:=MO t n) (fin:=AnO.fin t n) tR (aT.unpack (.announce t n x) 0 0 (eU t n x) [] rfl (congrArg (Prod.mk 0) rfl) (by kernel_rfl) rfl) ?_
  have q:=JC t n x s _ h;rw [←e]at q;exact q
 rw [bI e]at h
 by_cases e:x.at'=3
 ·rw [e]at h;have h:(AH t n x s).run _:=h;refine aIm (root:=0) (pos:=[]) (cs:=[]) (parse:=MO t n) (fin:=AnO.fin t n) tR (aT.unpack (.announce t n x) 0 0 (eU t n x) [] rfl (congrArg (Prod.mk 0) rfl) (by kernel_rfl) rfl) ?_
  have q:=JD t n x s _ h;rw [←e]at q;exact q
 rw [bI e]at h
 by_cases e:x.at'=4
 ·rw [e]at h;have h:(AI t n x s).run _:=h;refine aIm (root:=0) (pos:=[]) (cs:=[]) (parse:=MO t n) (fin:=AnO.fin t n) tR (aT.unpack (.announce t n x) 0 0 (eU t n x) [] rfl (congrArg (Prod.mk 0) rfl) (by kernel_rfl) rfl) ?_
  have q:=JE t n x s _ h;rw [←e]at q;exact q
 rw [bI e]at h;exact h.1.elim
noncomputable def anS:aH Ob:=fun args h=>match args,h with
 | [.ptr 0 0,.ptr 1 0],[some (.abs (.announce t n x) []),e1,e2]=>(match cO 2 [e1,e2]with
   | some (l,s)=>some (.pre (l=s.xs.length∧aAx t n x s) (AnO.fin t n (EJ t n x s)))
   | none=>none)
 | _,_=>none
theorem aEe:sT' 158 anS:=by
 intro args h o ho K hK;unfold anS at ho;split at ho
 case h_2=>cases ho
 split at ho<;>cases ho
 rename_i hm;obtain⟨⟨hl,ok⟩,hK⟩:=hK;cases bB hm hl;exact TE _ _ _ _ K (aIp ok hK)
def aAu(t n:Int)(v:AVal)(g:aC Ob):Option (Prop×ANS):=match v,g with
 | .ptr 0 0,[some (.cells [.int .i64 t1,.int .i64 n1,.int .u64 no,.int .i64 me,.int .i64 at',.int .u64 bits,.bool wrong,.int .u64 found])]=>some ((t1=t∧n1=n),(⟨no,me,at',bits,wrong,found⟩:ANS))
 | _,_=>none
abbrev TA(t n:Int)(y:ANS):aC Ob:=[some (.abs (.announce t n y) [])]
theorem TB{t n:Int} :bM (obI tbl) 0 (aAu t n) (fun y=>.ret (.ptr 0 0) (TA t n y)):=by
 intro v g p x hp hq K hK;unfold aAu at hp;split at hp
 case h_2=>cases hp
 rename_i t1 n1 no me at' bits wrong found;cases hp;obtain⟨rfl,rfl⟩:=hq;exact⟨⟨_,_,aF.pack (TA t1 n1 (⟨no,me,at',bits,wrong,found⟩:ANS)) (.announce t1 n1 (⟨no,me,at',bits,wrong,found⟩:ANS)) 0 0 (eU t1 n1 (⟨no,me,at',bits,wrong,found⟩:ANS)) [] (by kernel_rfl) rfl (congrArg (Prod.mk 0) rfl) (by kernel_rfl),hK⟩⟩
def aAv(t n:Int)(u sh kd ky:Int):Tr ANS:=.pre True (.pre (t=t∧n=n) (.ret {no:=0,me:=u,at':=0,bits:=bif bU sh kd ky then tskV sh kd ky else 0,wrong:=!ieq (bif bU sh kd ky then 0 else 1) 0,found:=0}))
def aAt(t n:Int)(u sh kd ky:Int):ANS:=(aAv t n u sh kd ky).val
def NI(t n:Int)(u sh kd ky:Int):Prop:=(aAv t n u sh kd ky).ok
def anNS:aH Ob:=fun args h=>match args,h with
 | [.agg [.int .i64 t,.int .i64 n],.int .i64 u,.agg [.int .i64 sh,.int .i64 kd,.int .i64 ky]],[]=>some (.pre (NI t n u sh kd ky) (.ret (.ptr 0 0) (TA t n (aAt t n u sh kd ky))))
 | _,_=>none
theorem aAw:sT' 220 anNS:=by
 intro args h o ho K hK;unfold anNS at ho;split at ho<;>cases ho
 rename_i t n u sh kd ky;obtain⟨ok,hK⟩:=hK;refine aIy (root:=0) (pos:=[]) (cs:=[]) (parse:=aAu t n) TB ?_;exact cM' (E:=EC3) (q:=(aAv t n u sh kd ky).run (fun y=>(Out.ret (.ptr 0 0) (TA t n y)).run K)) (by kernel_rfl) (aIp ok hK)
noncomputable def EC4:=((EC3.addS 158 anS aEe).addS 220 anNS aAw)
structure AwO where
 d:Bool
 x:AWS
 s:MS
instance:Inhabited AwO:=⟨⟨false,⟨0,false,0,0⟩,⟨0,0,[],0,0,0,0,0,false⟩⟩⟩
instance:Inhabited AWS:=⟨⟨0,false,0,0⟩⟩
abbrev awH(t n:Int)(x:AWS)(s:MS):aC Ob:=[some (.abs (.answer t n x) []),aZ 2 s,bA s]
abbrev awD(t n:Int)(x:AWS)(s:MS):aC Ob:=[cE' [.I t,.I n,.I x.code,.bool x.okk,.I x.val,.I x.me],aZ 2 s,bA s]
def AwO.fin(t n:Int)(y:AwO):Out Ob:=.ite y.d (.ret (.bool true) (awD t n y.x y.s)) (.ret (.bool false) (awH t n y.x y.s))
def aAG(t n:Int)(v:AVal)(g:aC Ob):Option (Prop×AwO):=match v,g with
 | .bool d,[some (.cells [.int .i64 t1,.int .i64 n1,.int .i64 code,.bool okk,.int .i64 val,.int .i64 me]),e1,e2]=>(match cO 2 [e1,e2]with
   | some (l,s)=>some ((t1=t∧n1=n)∧l=s.xs.length,⟨d,⟨code,okk,val,me⟩,s⟩)
   | none=>none)
 | _,_=>none
def awP(t n:Int)(v:AVal)(g:aC Ob):Option (Prop×AwO):=aAG t n v g
theorem TM{t n:Int} :bM (obI tbl) 3 (aAG t n) (AwO.fin t n):=by
 intro v g p x hp hq K hK;unfold aAG at hp;split at hp
 case h_2=>cases hp
 rename_i d t1 n1 code okk val me e1 e2;split at hp
 case h_2=>cases hp
 rename_i l s hm;cases hp;obtain⟨⟨rfl,rfl⟩,hl⟩:=hq;cases bB hm hl;refine qG hK (fun h=>?_) (fun h=>?_)
 ·exact⟨⟨_,_,aIF _ _ _,h⟩⟩
 ·exact⟨⟨_,_,(aF.pack (awH t1 n1 (⟨code,okk,val,me⟩:AWS) s) (.answer t1 n1 (⟨code,okk,val,me⟩:AWS)) 0 0 (pN t1 n1 (⟨code,okk,val,me⟩:AWS)) [] (by kernel_rfl) rfl (congrArg (Prod.mk 0) rfl) (by kernel_rfl)),h⟩⟩
theorem aAH{t n:Int} :bM (obI tbl) 3 (awP t n) (AwO.fin t n):=by
 intro v g p x hp hq K hK;unfold awP at hp;exact TM v g p x hp hq K hK
abbrev w0c(n:Int)(s:MS)(t:Int)(x:AWS):=aE s.3 (2*n+5+2*t+3*x.4+2)
def TN(t n:Int)(x:AWS)(s:MS):Tr AwO:=.pre ((((0:Int)≤t∧t≤(100000:Int))∧((0:Int)≤n∧n≤(100000:Int))∧(-1099511627776:Int)≤x.4∧x.4≤(1099511627776:Int))∧True) (.pre ((lE' s.3∧(0:Int)≤s.4∧s.4≤(4611686018427387904:Int))∧True) (.pre True (.pre True (.pre ((t=t∧n=n)∧lE' s.3) (.ret {d:=true,x:= {code:=resC (aA (w0c n s t x) 39 9) (aA (w0c n s t x) 49 3),okk:=X7 (aA (w0c n s t x) 39 9) (aA (w0c n s t x) 49 3) (ieq (aA (w0c n s t x) 48 1) 1),val:=X8 (aA (w0c n s t x) 39 9) (aA (w0c n s t x) 49 3) (aA (w0c n s t x) 52 10),me:=x.4},s:= {s with c:=s.4+1,k:=1,a:=2*n+5+2*t+3*x.4+2,o:=aE s.3 (2*n+5+2*t+3*x.4+2),w:=aE s.3 (2*n+5+2*t+3*x.4+2),ok:=bL s.3 (2*n+5+2*t+3*x.4+2) } })))))
theorem NK(t n:Int)(x:AWS)(s:MS)(K:AwO→Prop)(h:(TN t n x s).run K):cT' 161 [.ptr 0 0,.ptr 1 0] [cE' [.I t,.I n,.I x.code,.bool x.okk,.I x.val,.I x.me],aZ 2 s,bA s] (bR 3 0 [] [] (awP t n) K):=by
 exact cM' (E:=EC4) (by kernel_rfl) h
def awT(t n:Int)(x:AWS)(s:MS):Tr AwO:=TN t n x s
def rR(t n:Int)(x:AWS)(s:MS):AwO:=(awT t n x s).val
def aAF(t n:Int)(x:AWS)(s:MS):Prop:=(awT t n x s).ok
theorem TO(t n:Int)(x:AWS)(s:MS)(K:AVal→aC Ob→Prop)(h:(awT t n x s).run (fun y=>(AwO.fin t n y).run K)):cT' 161 [.ptr 0 0,.ptr 1 0] (awH t n x s) K:=by
 unfold awT at h;exact aIm (root:=0) (pos:=[]) (cs:=[]) (parse:=awP t n) (fin:=AwO.fin t n) aAH (aT.unpack (.answer t n x) 0 0 (pN t n x) [] rfl (congrArg (Prod.mk 0) rfl) (by kernel_rfl) rfl) (NK t n x s _ h)
noncomputable def awS:aH Ob:=fun args h=>match args,h with
 | [.ptr 0 0,.ptr 1 0],[some (.abs (.answer t n x) []),e1,e2]=>(match cO 2 [e1,e2]with
   | some (l,s)=>some (.pre (l=s.xs.length∧aAF t n x s) (AwO.fin t n (rR t n x s)))
   | none=>none)
 | _,_=>none
theorem aEh:sT' 161 awS:=by
 intro args h o ho K hK;unfold awS at ho;split at ho
 case h_2=>cases ho
 split at ho<;>cases ho
 rename_i hm;obtain⟨⟨hl,ok⟩,hK⟩:=hK;cases bB hm hl;exact TO _ _ _ _ K (aIp ok hK)
def aAC(t n:Int)(v:AVal)(g:aC Ob):Option (Prop×AWS):=match v,g with
 | .ptr 0 0,[some (.cells [.int .i64 t1,.int .i64 n1,.int .i64 code,.bool okk,.int .i64 val,.int .i64 me])]=>some ((t1=t∧n1=n),(⟨code,okk,val,me⟩:AWS))
 | _,_=>none
abbrev TJ(t n:Int)(y:AWS):aC Ob:=[some (.abs (.answer t n y) [])]
theorem TK{t n:Int} :bM (obI tbl) 0 (aAC t n) (fun y=>.ret (.ptr 0 0) (TJ t n y)):=by
 intro v g p x hp hq K hK;unfold aAC at hp;split at hp
 case h_2=>cases hp
 rename_i t1 n1 code okk val me;cases hp;obtain⟨rfl,rfl⟩:=hq;exact⟨⟨_,_,aF.pack (TJ t1 n1 (⟨code,okk,val,me⟩:AWS)) (.answer t1 n1 (⟨code,okk,val,me⟩:AWS)) 0 0 (pN t1 n1 (⟨code,okk,val,me⟩:AWS)) [] (by kernel_rfl) rfl (congrArg (Prod.mk 0) rfl) (by kernel_rfl),hK⟩⟩
def aAD(t n:Int)(u:Int):Tr AWS:=.pre (t=t∧n=n) (.ret {code:=0,okk:=false,val:=0,me:=u})
def aAB(t n:Int)(u:Int):AWS:=(aAD t n u).val
def NJ(t n:Int)(u:Int):Prop:=(aAD t n u).ok
def awNS:aH Ob:=fun args h=>match args,h with
 | [.agg [.int .i64 t,.int .i64 n],.int .i64 u],[]=>some (.pre (NJ t n u) (.ret (.ptr 0 0) (TJ t n (aAB t n u))))
 | _,_=>none
theorem aAE:sT' 160 awNS:=by
 intro args h o ho K hK;unfold awNS at ho;split at ho<;>cases ho
 rename_i t n u;obtain⟨ok,hK⟩:=hK;refine aIy (root:=0) (pos:=[]) (cs:=[]) (parse:=aAC t n) TK ?_;exact cM' (E:=EC4) (q:=(aAD t n u).run (fun y=>(Out.ret (.ptr 0 0) (TJ t n y)).run K)) (by kernel_rfl) (aIp ok hK)
noncomputable def EC5:=((EC4.addS 161 awS aEh).addS 160 awNS aAE)
def HA:bF Ob:=fun args h=>match args,h with
 | [.ptr 0 0],[some (.cells [.int .i64 t,.int .i64 n,.int .i64 pop,.int .i64 gave,.int .i64 u,.int .i64 sh,.int .i64 kd,.int .i64 ky,.bool only,.int .i64 att,.int .i64 at',.int .u64 found,.int .u64 word])]=>some (True,.agg [.I (aA found 0 12),.I (aA found 12 9),.I (aA found 21 18),.I (aA found 39 9),.bool (ieq (aA found 48 1) 1),.I (aA found 49 3),.I (aA found 52 10)])
 | _,_=>none
theorem SN:sT' 281 HA.spec:=by
 intro args h o ho K hK;unfold bF.spec HA at ho;split at ho
 case h_2=>cases ho
 rename_i p v hp;split at hp
 case h_2=>cases hp
 rename_i t n pop gave u sh kd ky only att at' found word;cases hp;simp only [sI']at ho;subst ho;obtain⟨hp,hK⟩:=hK;have hK:K (.agg [.I (aA found 0 12),.I (aA found 12 9),.I (aA found 21 18),.I (aA found 39 9),.bool (ieq (aA found 48 1) 1),.I (aA found 49 3),.I (aA found 52 10)]) [cE' [.I t,.I n,.I pop,.I gave,.I u,.I sh,.I kd,.I ky,.bool only,.I att,.I at',.int .u64 found,.int .u64 word]]:=hK;refine aIl (cM' (E:=EC5) (q:=True∧K (.agg [.I (aA found 0 12),.I (aA found 12 9),.I (aA found 21 18),.I (aA found 39 9),.bool (ieq (aA found 48 1) 1),.I (aA found 49 3),.I (aA found 52 10)]) [cE' [.I t,.I n,.I pop,.I gave,.I u,.I sh,.I kd,.I ky,.bool only,.I att,.I at',.int .u64 found,.int .u64 word]]) (by kernel_rfl) ?_)
 exact⟨trivial,hK⟩
noncomputable def EX1:=EC5.addR 281 HA SN
def SP(t n pop gave u sh kd ky:Int)(only:Bool)(att at' found word:Int)(k y:Int)(m:Bool)(c v:Int)(s:MS):Out Ob:=.pre True (.pre True (.pre ((lE' s.3∧(0:Int)≤s.4∧s.4≤(4611686018427387904:Int))∧True) (.ret (.bool (aU s.3 (aA found 12 9) word)) [cE' [.I t,.I n,.I pop,.I gave,.I u,.I sh,.I kd,.I ky,.bool only,.I att,.I at',.int .u64 found,.int .u64 word],cE' [.I s.1,.I s.2,.slice 2 0 (List.length (bif aU s.3 (aA found 12 9) word then aV s.3 (aA found 12 9) (bif bif aL k 10 then bif aL y 9 then bif aL c 5 then aL v 18 else false else false else false then cL k y m c v else 0)else s.3)) 1,.I (s.4+1),.I 3,.I (aA found 12 9),.int .u64 (aE s.3 (aA found 12 9)),.int .u64 (bif bL s.3 (aA found 12 9)then bif bif aL k 10 then bif aL y 9 then bif aL c 5 then aL v 18 else false else false else false then cL k y m c v else 0 else 0),.bool (aU s.3 (aA found 12 9) word)],some (.ints (some .u64) (bif aU s.3 (aA found 12 9) word then aV s.3 (aA found 12 9) (bif bif aL k 10 then bif aL y 9 then bif aL c 5 then aL v 18 else false else false else false then cL k y m c v else 0)else s.3))])))
theorem SQ(t n pop gave u sh kd ky:Int)(only:Bool)(att at' found word:Int)(k y:Int)(m:Bool)(c v:Int)(s:MS)(K:AVal→aC Ob→Prop)(h:(SP t n pop gave u sh kd ky only att at' found word k y m c v s).run K):cT' 284 [.ptr 0 0,.ptr 1 0,.agg [.I k,.I y,.bool m,.I c,.I v]] [cE' [.I t,.I n,.I pop,.I gave,.I u,.I sh,.I kd,.I ky,.bool only,.I att,.I at',.int .u64 found,.int .u64 word],aZ 2 s,bA s] K:=by
 refine aIl (cM' (E:=EX1) (by kernel_rfl) h)
def xputS:aH Ob:=fun args h=>match args,h with
 | [.ptr 0 0,.ptr 1 0,.agg [.int .i64 k,.int .i64 y,.bool m,.int .i64 c,.int .i64 v]],[some (.cells [.int .i64 t,.int .i64 n,.int .i64 pop,.int .i64 gave,.int .i64 u,.int .i64 sh,.int .i64 kd,.int .i64 ky,.bool only,.int .i64 att,.int .i64 at',.int .u64 found,.int .u64 word]),e1,e2]=>(match cO 2 [e1,e2]with
   | some (l,s)=>some (.pre (l=s.xs.length) (SP t n pop gave u sh kd ky only att at' found word k y m c v s))
   | none=>none)
 | _,_=>none
theorem ZA:sT' 284 xputS:=by
 intro args h o ho K hK;unfold xputS at ho;split at ho
 case h_2=>cases ho
 split at ho<;>cases ho
 rename_i hm;obtain⟨hl,hK⟩:=hK;cases bB hm hl;exact SQ _ _ _ _ _ _ _ _ _ _ _ _ _ _ _ _ _ _ _ K hK
def HB(t n pop gave u sh kd ky:Int)(only:Bool)(att at' found word:Int)(a b c d:Int)(m:Bool)(e f:Int)(s:MS):Out Ob:=.pre True (.pre ((((0:Int)≤t∧t≤(100000:Int))∧((0:Int)≤n∧n≤(100000:Int))∧(-1099511627776:Int)≤u∧u≤(1099511627776:Int))∧True) (.pre ((lE' s.3∧(0:Int)≤s.4∧s.4≤(4611686018427387904:Int))∧True) (.ret (.bool (aU s.3 (2*n+5+2*t+3*u+2) found)) [cE' [.I t,.I n,.I pop,.I gave,.I u,.I sh,.I kd,.I ky,.bool only,.I att,.I at',.int .u64 found,.int .u64 word],cE' [.I s.1,.I s.2,.slice 2 0 (List.length (bif aU s.3 (2*n+5+2*t+3*u+2) found then aV s.3 (2*n+5+2*t+3*u+2) (bif dOk a b c d e f then cK a b c d m e f else 0)else s.3)) 1,.I (s.4+1),.I 3,.I (2*n+5+2*t+3*u+2),.int .u64 (aE s.3 (2*n+5+2*t+3*u+2)),.int .u64 (bif bL s.3 (2*n+5+2*t+3*u+2)then bif dOk a b c d e f then cK a b c d m e f else 0 else 0),.bool (aU s.3 (2*n+5+2*t+3*u+2) found)],some (.ints (some .u64) (bif aU s.3 (2*n+5+2*t+3*u+2) found then aV s.3 (2*n+5+2*t+3*u+2) (bif dOk a b c d e f then cK a b c d m e f else 0)else s.3))])))
theorem MN(t n pop gave u sh kd ky:Int)(only:Bool)(att at' found word:Int)(a b c d:Int)(m:Bool)(e f:Int)(s:MS)(K:AVal→aC Ob→Prop)(h:(HB t n pop gave u sh kd ky only att at' found word a b c d m e f s).run K):cT' 286 [.ptr 0 0,.ptr 1 0,.agg [.I a,.I b,.I c,.I d,.bool m,.I e,.I f]] [cE' [.I t,.I n,.I pop,.I gave,.I u,.I sh,.I kd,.I ky,.bool only,.I att,.I at',.int .u64 found,.int .u64 word],aZ 2 s,bA s] K:=by
 refine aIl (cM' (E:=EX1) (by kernel_rfl) h)
def xturnS:aH Ob:=fun args h=>match args,h with
 | [.ptr 0 0,.ptr 1 0,.agg [.int .i64 a,.int .i64 b,.int .i64 c,.int .i64 d,.bool m,.int .i64 e,.int .i64 f]],[some (.cells [.int .i64 t,.int .i64 n,.int .i64 pop,.int .i64 gave,.int .i64 u,.int .i64 sh,.int .i64 kd,.int .i64 ky,.bool only,.int .i64 att,.int .i64 at',.int .u64 found,.int .u64 word]),e1,e2]=>(match cO 2 [e1,e2]with
   | some (l,s)=>some (.pre (l=s.xs.length) (HB t n pop gave u sh kd ky only att at' found word a b c d m e f s))
   | none=>none)
 | _,_=>none
theorem SR:sT' 286 xturnS:=by
 intro args h o ho K hK;unfold xturnS at ho;split at ho
 case h_2=>cases ho
 split at ho<;>cases ho
 rename_i hm;obtain⟨hl,hK⟩:=hK;cases bB hm hl;exact MN _ _ _ _ _ _ _ _ _ _ _ _ _ _ _ _ _ _ _ _ _ K hK
noncomputable def EX2:=(EX1.addS 284 xputS ZA).addS 286 xturnS SR
instance:Inhabited STS:=⟨⟨0,0,[]⟩⟩
structure ExO where
 d:Bool
 x:EXS
 s:MS
instance:Inhabited ExO:=⟨⟨false,eN,⟨0,0,[],0,0,0,0,0,false⟩⟩⟩
instance:Inhabited EXS:=⟨eN⟩
abbrev exH(t n:Int)(x:EXS)(s:MS):aC Ob:=[some (.abs (.exec t n x) []),aZ 2 s,bA s]
abbrev exD(t n:Int)(x:EXS)(s:MS):aC Ob:=[cE' [.I t,.I n,.I x.popped,.I x.gave,.I x.u,.I x.sh,.I x.kd,.I x.ky,.bool x.only,.I x.att,.I x.at',.int .u64 x.found,.int .u64 x.word],aZ 2 s,bA s]
def ExO.fin(t n:Int)(y:ExO):Out Ob:=.ite y.d (.ret (.bool true) (exD t n y.x y.s)) (.ret (.bool false) (exH t n y.x y.s))
def aBJ(t n:Int)(v:AVal)(g:aC Ob):Option (Prop×ExO):=match v,g with
 | .bool d,[some (.cells [.int .i64 t1,.int .i64 n1,.int .i64 popped,.int .i64 gave,.int .i64 u,.int .i64 sh,.int .i64 kd,.int .i64 ky,.bool only,.int .i64 att,.int .i64 at',.int .u64 found,.int .u64 word]),e1,e2]=>(match cO 2 [e1,e2]with
   | some (l,s)=>some ((t1=t∧n1=n)∧l=s.xs.length,⟨d,⟨popped,gave,u,sh,kd,ky,only,att,at',found,word⟩,s⟩)
   | none=>none)
 | _,_=>none
def wB(t n:Int)(v:AVal)(g:aC Ob):Option (Prop×ExO):=aBJ t n v g
theorem VB{t n:Int} :bM (obI tbl) 3 (aBJ t n) (ExO.fin t n):=by
 intro v g p x hp hq K hK;unfold aBJ at hp;split at hp
 case h_2=>cases hp
 rename_i d t1 n1 popped gave u sh kd ky only att at' found word e1 e2;split at hp
 case h_2=>cases hp
 rename_i l s hm;cases hp;obtain⟨⟨rfl,rfl⟩,hl⟩:=hq;cases bB hm hl;refine qG hK (fun h=>?_) (fun h=>?_)
 ·exact⟨⟨_,_,aIF _ _ _,h⟩⟩
 ·exact⟨⟨_,_,(aF.pack (exH t1 n1 (⟨popped,gave,u,sh,kd,ky,only,att,at',found,word⟩:EXS) s) (.exec t1 n1 (⟨popped,gave,u,sh,kd,ky,only,att,at',found,word⟩:EXS)) 0 0 (gR t1 n1 (⟨popped,gave,u,sh,kd,ky,only,att,at',found,word⟩:EXS)) [] (by kernel_rfl) rfl (congrArg (Prod.mk 0) rfl) (by kernel_rfl)),h⟩⟩
theorem kW{t n:Int} :bM (obI tbl) 3 (wB t n) (ExO.fin t n):=by
 intro v g p x hp hq K hK;unfold wB at hp;exact VB v g p x hp hq K hK
abbrev w0g(n t:Int)(x:EXS):=(((0:Int)≤t∧t≤(100000:Int))∧((0:Int)≤n∧n≤(100000:Int))∧(-1099511627776:Int)≤x.3∧x.3≤(1099511627776:Int))∧True
abbrev w0i(n:Int)(s:MS)(t:Int)(x:EXS):Tr ExO:=.ret {d:=true,x:= {x with at':=0,found:=aE s.3 (2*n+5+2*t+3*x.3+2)},s:= {s with c:=s.4+1,k:=1,a:=2*n+5+2*t+3*x.3+2,o:=aE s.3 (2*n+5+2*t+3*x.3+2),w:=aE s.3 (2*n+5+2*t+3*x.3+2),ok:=bL s.3 (2*n+5+2*t+3*x.3+2) } }
abbrev w0l(n:Int)(s:MS)(t:Int)(x:EXS):Tr ExO:=.ret {d:=false,x:= {x with at':=1,found:=aE s.3 (2*n+5+2*t+3*x.3+2)},s:= {s with c:=s.4+1,k:=1,a:=2*n+5+2*t+3*x.3+2,o:=aE s.3 (2*n+5+2*t+3*x.3+2),w:=aE s.3 (2*n+5+2*t+3*x.3+2),ok:=bL s.3 (2*n+5+2*t+3*x.3+2) } }
abbrev w0m(n:Int)(s:MS)(t:Int)(x:EXS):Tr ExO:=.ret {d:=false,x:= {x with at':=5,found:=aE s.3 (2*n+5+2*t+3*x.3+2)},s:= {s with c:=s.4+1,k:=1,a:=2*n+5+2*t+3*x.3+2,o:=aE s.3 (2*n+5+2*t+3*x.3+2),w:=aE s.3 (2*n+5+2*t+3*x.3+2),ok:=bL s.3 (2*n+5+2*t+3*x.3+2) } }
abbrev w0n(n:Int)(s:MS)(t:Int)(x:EXS):Tr ExO:=.ret {d:=false,x:= {x with at':=8,found:=aE s.3 (2*n+5+2*t+3*x.3+2)},s:= {s with c:=s.4+1,k:=1,a:=2*n+5+2*t+3*x.3+2,o:=aE s.3 (2*n+5+2*t+3*x.3+2),w:=aE s.3 (2*n+5+2*t+3*x.3+2),ok:=bL s.3 (2*n+5+2*t+3*x.3+2) } }
abbrev w0s(n:Int)(s:MS)(t:Int)(x:EXS):=aA (aE s.3 (2*n+5+2*t+3*x.3+2)) 49 3
def BH(t n:Int)(x:EXS)(s:MS):Tr ExO:=.pre True (.pre True (.pre (w0g n t x) (.pre ((lE' s.3∧(0:Int)≤s.4∧s.4≤(4611686018427387904:Int))∧True) (.ite x.7 (.pre True (.ite (!ieq (aA (aE s.3 (2*n+5+2*t+3*x.3+2)) 0 12) x.8) (.pre ((t=t∧n=n)∧lE' s.3) (w0i n s t x)) (.pre True (.ite (ieq (w0s n s t x) 2) (.pre ((t=t∧n=n)∧lE' s.3) (w0l n s t x)) (.ite (ieq (w0s n s t x) 3) (.pre ((t=t∧n=n)∧lE' s.3) (w0m n s t x)) (.ite (ieq (w0s n s t x) 4) (.pre ((t=t∧n=n)∧lE' s.3) (w0n n s t x)) (.pre ((t=t∧n=n)∧lE' s.3) (w0i n s t x)))))))) (.pre True (.ite (ieq (w0s n s t x) 2) (.pre ((t=t∧n=n)∧lE' s.3) (w0l n s t x)) (.ite (ieq (w0s n s t x) 3) (.pre ((t=t∧n=n)∧lE' s.3) (w0m n s t x)) (.ite (ieq (w0s n s t x) 4) (.pre ((t=t∧n=n)∧lE' s.3) (w0n n s t x)) (.pre ((t=t∧n=n)∧lE' s.3) (w0i n s t x))))))))))
theorem J8(t n:Int)(x:EXS)(s:MS)(K:ExO→Prop)(h:(BH t n x s).run K):cT' 249 [.ptr 0 0,.ptr 1 0] [cE' [.I t,.I n,.I x.popped,.I x.gave,.I x.u,.I x.sh,.I x.kd,.I x.ky,.bool x.only,.I x.att,.I 0,.int .u64 x.found,.int .u64 x.word],aZ 2 s,bA s] (bR 3 0 [] [] (wB t n) K):=by
 exact cM' (E:=EX2) (by kernel_rfl) h
abbrev w0f(s:MS)(x:EXS):Tr ExO:=.ret {d:=false,x:= {x with at':=4,word:=aE s.3 (aA x.10 12 9) },s:= {s with c:=s.4+1,k:=1,a:=aA x.10 12 9,o:=aE s.3 (aA x.10 12 9),w:=aE s.3 (aA x.10 12 9),ok:=bL s.3 (aA x.10 12 9) } }
abbrev w0j(s:MS)(x:EXS):=ieq (aA (aE s.3 (aA x.10 12 9)) 25 18) (aA x.10 21 18)
abbrev w0o(s:MS)(x:EXS):Tr ExO:=.ret {d:=false,x:= {x with at':=3,word:=aE s.3 (aA x.10 12 9) },s:= {s with c:=s.4+1,k:=1,a:=aA x.10 12 9,o:=aE s.3 (aA x.10 12 9),w:=aE s.3 (aA x.10 12 9),ok:=bL s.3 (aA x.10 12 9) } }
abbrev w0r(s:MS)(x:EXS):=ieq (aA (aE s.3 (aA x.10 12 9)) 20 5) (W (x.3+1))
def BI(t n:Int)(x:EXS)(s:MS):Tr ExO:=.pre True (.pre True (.pre True (.pre (lE' s.3∧(0:Int)≤s.4∧s.4≤(4611686018427387904:Int)) (.pre True (.pre True (.ite (w0j s x) (.ite (ieq (aA (aE s.3 (aA x.10 12 9)) 20 5) 0) (.pre ((t=t∧n=n)∧lE' s.3) (.ret {d:=false,x:= {x with at':=2,word:=aE s.3 (aA x.10 12 9) },s:= {s with c:=s.4+1,k:=1,a:=aA x.10 12 9,o:=aE s.3 (aA x.10 12 9),w:=aE s.3 (aA x.10 12 9),ok:=bL s.3 (aA x.10 12 9) } })) (.pre True (.ite (w0j s x) (.ite (w0r s x) (.pre ((t=t∧n=n)∧lE' s.3) (w0o s x)) (.pre ((t=t∧n=n)∧lE' s.3) (w0f s x))) (.pre ((t=t∧n=n)∧lE' s.3) (w0f s x))))) (.pre True (.ite (w0j s x) (.ite (w0r s x) (.pre ((t=t∧n=n)∧lE' s.3) (w0o s x)) (.pre ((t=t∧n=n)∧lE' s.3) (w0f s x))) (.pre ((t=t∧n=n)∧lE' s.3) (w0f s x))))))))))
theorem J9(t n:Int)(x:EXS)(s:MS)(K:ExO→Prop)(h:(BI t n x s).run K):cT' 249 [.ptr 0 0,.ptr 1 0] [cE' [.I t,.I n,.I x.popped,.I x.gave,.I x.u,.I x.sh,.I x.kd,.I x.ky,.bool x.only,.I x.att,.I 1,.int .u64 x.found,.int .u64 x.word],aZ 2 s,bA s] (bR 3 0 [] [] (wB t n) K):=by
 exact cM' (E:=EX2) (by kernel_rfl) h
abbrev w0k(x:EXS):=ieq (aA x.10 48 1) 1
abbrev w0e(n:Int)(s:MS)(t:Int)(x:EXS):Tr ExO:=.ret {d:=true,x:= {x with at':=2},s:= {t:=s.1,n:=s.2,xs:=bif aU s.3 (aA x.10 12 9) x.11 then aV s.3 (aA x.10 12 9) (bif bif aL (aA x.11 0 10) 10 then bif aL (aA x.10 39 9) 9 then bif aL (x.3+1) 5 then aL (aA x.11 25 18) 18 else false else false else false then cL (aA x.11 0 10) (aA x.10 39 9) (w0k x) (x.3+1) (aA x.11 25 18)else 0)else s.3,c:=s.4+1,k:=3,a:=aA x.10 12 9,o:=aE s.3 (aA x.10 12 9),w:=bif bL s.3 (aA x.10 12 9)then bif bif aL (aA x.11 0 10) 10 then bif aL (aA x.10 39 9) 9 then bif aL (x.3+1) 5 then aL (aA x.11 25 18) 18 else false else false else false then cL (aA x.11 0 10) (aA x.10 39 9) (w0k x) (x.3+1) (aA x.11 25 18)else 0 else 0,ok:=aU s.3 (aA x.10 12 9) x.11} }
def BJ(t n:Int)(x:EXS)(s:MS):Tr ExO:=.pre True (.pre True (.pre ((-1000000:Int)≤x.3∧x.3≤(1000000:Int)) (.pre (lE' s.3∧True∧True∧((lE' s.3∧(0:Int)≤s.4∧s.4≤(4611686018427387904:Int))∧True)∧True) (.ite (aU s.3 (aA x.10 12 9) x.11) (.pre True (.ite (oI x.4 x.5) (.pre ((t=t∧n=n)∧lE' (bif aU s.3 (aA x.10 12 9) x.11 then aV s.3 (aA x.10 12 9) (bif bif aL (aA x.11 0 10) 10 then bif aL (aA x.10 39 9) 9 then bif aL (x.3+1) 5 then aL (aA x.11 25 18) 18 else false else false else false then cL (aA x.11 0 10) (aA x.10 39 9) (w0k x) (x.3+1) (aA x.11 25 18)else 0)else s.3)) (.ret {d:=true,x:= {x with popped:=aA x.11 10 9,at':=2},s:= {t:=s.1,n:=s.2,xs:=bif aU s.3 (aA x.10 12 9) x.11 then aV s.3 (aA x.10 12 9) (bif bif aL (aA x.11 0 10) 10 then bif aL (aA x.10 39 9) 9 then bif aL (x.3+1) 5 then aL (aA x.11 25 18) 18 else false else false else false then cL (aA x.11 0 10) (aA x.10 39 9) (w0k x) (x.3+1) (aA x.11 25 18)else 0)else s.3,c:=s.4+1,k:=3,a:=aA x.10 12 9,o:=aE s.3 (aA x.10 12 9),w:=bif bL s.3 (aA x.10 12 9)then bif bif aL (aA x.11 0 10) 10 then bif aL (aA x.10 39 9) 9 then bif aL (x.3+1) 5 then aL (aA x.11 25 18) 18 else false else false else false then cL (aA x.11 0 10) (aA x.10 39 9) (w0k x) (x.3+1) (aA x.11 25 18)else 0 else 0,ok:=aU s.3 (aA x.10 12 9) x.11} })) (.pre ((t=t∧n=n)∧lE' (bif aU s.3 (aA x.10 12 9) x.11 then aV s.3 (aA x.10 12 9) (bif bif aL (aA x.11 0 10) 10 then bif aL (aA x.10 39 9) 9 then bif aL (x.3+1) 5 then aL (aA x.11 25 18) 18 else false else false else false then cL (aA x.11 0 10) (aA x.10 39 9) (w0k x) (x.3+1) (aA x.11 25 18)else 0)else s.3)) (w0e n s t x)))) (.pre ((t=t∧n=n)∧lE' (bif aU s.3 (aA x.10 12 9) x.11 then aV s.3 (aA x.10 12 9) (bif bif aL (aA x.11 0 10) 10 then bif aL (aA x.10 39 9) 9 then bif aL (x.3+1) 5 then aL (aA x.11 25 18) 18 else false else false else false then cL (aA x.11 0 10) (aA x.10 39 9) (w0k x) (x.3+1) (aA x.11 25 18)else 0)else s.3)) (w0e n s t x))))))
theorem KA(t n:Int)(x:EXS)(s:MS)(K:ExO→Prop)(h:(BJ t n x s).run K):cT' 249 [.ptr 0 0,.ptr 1 0] [cE' [.I t,.I n,.I x.popped,.I x.gave,.I x.u,.I x.sh,.I x.kd,.I x.ky,.bool x.only,.I x.att,.I 2,.int .u64 x.found,.int .u64 x.word],aZ 2 s,bA s] (bR 3 0 [] [] (wB t n) K):=by
 exact cM' (E:=EX2) (by kernel_rfl) h
def BK(t n:Int)(x:EXS)(s:MS):Tr ExO:=.pre True (.pre True (.pre True (.pre (lE' s.3) (.pre True (.pre (w0g n t x) (.pre ((lE' s.3∧(0:Int)≤s.4∧s.4≤(4611686018427387904:Int))∧True) (.pre ((t=t∧n=n)∧lE' (bif aU s.3 (2*n+5+2*t+3*x.3+2) x.10 then aV s.3 (2*n+5+2*t+3*x.3+2) (bif dOk (aA x.10 0 12) (aA x.10 12 9) (aA x.10 21 18) (aA x.10 39 9) 3 (aA x.10 52 10)then cK (aA x.10 0 12) (aA x.10 12 9) (aA x.10 21 18) (aA x.10 39 9) (w0k x) 3 (aA x.10 52 10)else 0)else s.3)) (.ret {d:=true,x:= {x with at':=3},s:= {t:=s.1,n:=s.2,xs:=bif aU s.3 (2*n+5+2*t+3*x.3+2) x.10 then aV s.3 (2*n+5+2*t+3*x.3+2) (bif dOk (aA x.10 0 12) (aA x.10 12 9) (aA x.10 21 18) (aA x.10 39 9) 3 (aA x.10 52 10)then cK (aA x.10 0 12) (aA x.10 12 9) (aA x.10 21 18) (aA x.10 39 9) (w0k x) 3 (aA x.10 52 10)else 0)else s.3,c:=s.4+1,k:=3,a:=2*n+5+2*t+3*x.3+2,o:=aE s.3 (2*n+5+2*t+3*x.3+2),w:=bif bL s.3 (2*n+5+2*t+3*x.3+2)then bif dOk (aA x.10 0 12) (aA x.10 12 9) (aA x.10 21 18) (aA x.10 39 9) 3 (aA x.10 52 10)then cK (aA x.10 0 12) (aA x.10 12 9) (aA x.10 21 18) (aA x.10 39 9) (w0k x) 3 (aA x.10 52 10)else 0 else 0,ok:=aU s.3 (2*n+5+2*t+3*x.3+2) x.10} }))))))))
theorem KB(t n:Int)(x:EXS)(s:MS)(K:ExO→Prop)(h:(BK t n x s).run K):cT' 249 [.ptr 0 0,.ptr 1 0] [cE' [.I t,.I n,.I x.popped,.I x.gave,.I x.u,.I x.sh,.I x.kd,.I x.ky,.bool x.only,.I x.att,.I 3,.int .u64 x.found,.int .u64 x.word],aZ 2 s,bA s] (bR 3 0 [] [] (wB t n) K):=by
 exact cM' (E:=EX2) (by kernel_rfl) h
def BL(t n:Int)(x:EXS)(s:MS):Tr ExO:=.pre True (.pre True (.pre True (.pre (lE' s.3) (.pre True (.pre (w0g n t x) (.pre ((lE' s.3∧(0:Int)≤s.4∧s.4≤(4611686018427387904:Int))∧True) (.pre ((t=t∧n=n)∧lE' (bif aU s.3 (2*n+5+2*t+3*x.3+2) x.10 then aV s.3 (2*n+5+2*t+3*x.3+2) (bif dOk (aA x.10 0 12) (aA x.10 12 9) (aA x.10 21 18) (aA x.10 39 9) 4 (aA x.10 52 10)then cK (aA x.10 0 12) (aA x.10 12 9) (aA x.10 21 18) (aA x.10 39 9) (w0k x) 4 (aA x.10 52 10)else 0)else s.3)) (.ret {d:=true,x:= {x with at':=4},s:= {t:=s.1,n:=s.2,xs:=bif aU s.3 (2*n+5+2*t+3*x.3+2) x.10 then aV s.3 (2*n+5+2*t+3*x.3+2) (bif dOk (aA x.10 0 12) (aA x.10 12 9) (aA x.10 21 18) (aA x.10 39 9) 4 (aA x.10 52 10)then cK (aA x.10 0 12) (aA x.10 12 9) (aA x.10 21 18) (aA x.10 39 9) (w0k x) 4 (aA x.10 52 10)else 0)else s.3,c:=s.4+1,k:=3,a:=2*n+5+2*t+3*x.3+2,o:=aE s.3 (2*n+5+2*t+3*x.3+2),w:=bif bL s.3 (2*n+5+2*t+3*x.3+2)then bif dOk (aA x.10 0 12) (aA x.10 12 9) (aA x.10 21 18) (aA x.10 39 9) 4 (aA x.10 52 10)then cK (aA x.10 0 12) (aA x.10 12 9) (aA x.10 21 18) (aA x.10 39 9) (w0k x) 4 (aA x.10 52 10)else 0 else 0,ok:=aU s.3 (2*n+5+2*t+3*x.3+2) x.10} }))))))))
theorem KC(t n:Int)(x:EXS)(s:MS)(K:ExO→Prop)(h:(BL t n x s).run K):cT' 249 [.ptr 0 0,.ptr 1 0] [cE' [.I t,.I n,.I x.popped,.I x.gave,.I x.u,.I x.sh,.I x.kd,.I x.ky,.bool x.only,.I x.att,.I 4,.int .u64 x.found,.int .u64 x.word],aZ 2 s,bA s] (bR 3 0 [] [] (wB t n) K):=by
 exact cM' (E:=EX2) (by kernel_rfl) h
abbrev w0d(s:MS)(x:EXS):Tr ExO:=.ret {d:=false,x:= {x with at':=7,word:=aE s.3 (aA x.10 12 9) },s:= {s with c:=s.4+1,k:=1,a:=aA x.10 12 9,o:=aE s.3 (aA x.10 12 9),w:=aE s.3 (aA x.10 12 9),ok:=bL s.3 (aA x.10 12 9) } }
abbrev w0p(s:MS)(x:EXS):Tr ExO:=.ret {d:=false,x:= {x with at':=6,word:=aE s.3 (aA x.10 12 9) },s:= {s with c:=s.4+1,k:=1,a:=aA x.10 12 9,o:=aE s.3 (aA x.10 12 9),w:=aE s.3 (aA x.10 12 9),ok:=bL s.3 (aA x.10 12 9) } }
def BM(t n:Int)(x:EXS)(s:MS):Tr ExO:=.pre True (.pre True (.pre True (.pre (lE' s.3∧(0:Int)≤s.4∧s.4≤(4611686018427387904:Int)) (.pre True (.pre True (.ite (w0j s x) (.ite (ieq (aA (aE s.3 (aA x.10 12 9)) 20 5) 0) (.pre ((t=t∧n=n)∧lE' s.3) (w0d s x)) (.pre True (.ite (w0j s x) (.ite (w0r s x) (.pre ((t=t∧n=n)∧lE' s.3) (w0p s x)) (.pre ((t=t∧n=n)∧lE' s.3) (w0d s x))) (.pre ((t=t∧n=n)∧lE' s.3) (w0d s x))))) (.pre True (.ite (w0j s x) (.ite (w0r s x) (.pre ((t=t∧n=n)∧lE' s.3) (w0p s x)) (.pre ((t=t∧n=n)∧lE' s.3) (w0d s x))) (.pre ((t=t∧n=n)∧lE' s.3) (w0d s x))))))))))
theorem KD(t n:Int)(x:EXS)(s:MS)(K:ExO→Prop)(h:(BM t n x s).run K):cT' 249 [.ptr 0 0,.ptr 1 0] [cE' [.I t,.I n,.I x.popped,.I x.gave,.I x.u,.I x.sh,.I x.kd,.I x.ky,.bool x.only,.I x.att,.I 5,.int .u64 x.found,.int .u64 x.word],aZ 2 s,bA s] (bR 3 0 [] [] (wB t n) K):=by
 exact cM' (E:=EX2) (by kernel_rfl) h
abbrev w0t(x:EXS):=aS (aA x.11 25 18)
def BN(t n:Int)(x:EXS)(s:MS):Tr ExO:=.pre True (.pre True (.pre ((0:Int)≤aA x.11 25 18∧aA x.11 25 (18:Int)≤(1000000:Int)) (.pre (lE' s.3) (.pre True (.pre True (.pre ((lE' s.3∧(0:Int)≤s.4∧s.4≤(4611686018427387904:Int))∧True) (.pre ((t=t∧n=n)∧lE' (bif aU s.3 (aA x.10 12 9) x.11 then aV s.3 (aA x.10 12 9) (bif bif aL (aA x.11 0 10) 10 then bif aL (aA x.11 10 9) 9 then bif aL 0 5 then aL (w0t x) 18 else false else false else false then cL (aA x.11 0 10) (aA x.11 10 9) (ieq (aA x.11 19 1) 1) 0 (w0t x)else 0)else s.3)) (.ret {d:=false,x:= {x with at':=7},s:= {t:=s.1,n:=s.2,xs:=bif aU s.3 (aA x.10 12 9) x.11 then aV s.3 (aA x.10 12 9) (bif bif aL (aA x.11 0 10) 10 then bif aL (aA x.11 10 9) 9 then bif aL 0 5 then aL (w0t x) 18 else false else false else false then cL (aA x.11 0 10) (aA x.11 10 9) (ieq (aA x.11 19 1) 1) 0 (w0t x)else 0)else s.3,c:=s.4+1,k:=3,a:=aA x.10 12 9,o:=aE s.3 (aA x.10 12 9),w:=bif bL s.3 (aA x.10 12 9)then bif bif aL (aA x.11 0 10) 10 then bif aL (aA x.11 10 9) 9 then bif aL 0 5 then aL (w0t x) 18 else false else false else false then cL (aA x.11 0 10) (aA x.11 10 9) (ieq (aA x.11 19 1) 1) 0 (w0t x)else 0 else 0,ok:=aU s.3 (aA x.10 12 9) x.11} }))))))))
theorem KE(t n:Int)(x:EXS)(s:MS)(K:ExO→Prop)(h:(BN t n x s).run K):cT' 249 [.ptr 0 0,.ptr 1 0] [cE' [.I t,.I n,.I x.popped,.I x.gave,.I x.u,.I x.sh,.I x.kd,.I x.ky,.bool x.only,.I x.att,.I 6,.int .u64 x.found,.int .u64 x.word],aZ 2 s,bA s] (bR 3 0 [] [] (wB t n) K):=by
 exact cM' (E:=EX2) (by kernel_rfl) h
def BO(t n:Int)(x:EXS)(s:MS):Tr ExO:=.pre True (.pre True (.pre True (.pre (lE' s.3) (.pre True (.pre (w0g n t x) (.pre ((lE' s.3∧(0:Int)≤s.4∧s.4≤(4611686018427387904:Int))∧True) (.pre ((t=t∧n=n)∧lE' (bif aU s.3 (2*n+5+2*t+3*x.3+2) x.10 then aV s.3 (2*n+5+2*t+3*x.3+2) (bif dOk (aA x.10 0 12) 0 0 0 5 (aA x.10 52 10)then cK (aA x.10 0 12) 0 0 0 true 5 (aA x.10 52 10)else 0)else s.3)) (.ret {d:=true,x:= {x with at':=7},s:= {t:=s.1,n:=s.2,xs:=bif aU s.3 (2*n+5+2*t+3*x.3+2) x.10 then aV s.3 (2*n+5+2*t+3*x.3+2) (bif dOk (aA x.10 0 12) 0 0 0 5 (aA x.10 52 10)then cK (aA x.10 0 12) 0 0 0 true 5 (aA x.10 52 10)else 0)else s.3,c:=s.4+1,k:=3,a:=2*n+5+2*t+3*x.3+2,o:=aE s.3 (2*n+5+2*t+3*x.3+2),w:=bif bL s.3 (2*n+5+2*t+3*x.3+2)then bif dOk (aA x.10 0 12) 0 0 0 5 (aA x.10 52 10)then cK (aA x.10 0 12) 0 0 0 true 5 (aA x.10 52 10)else 0 else 0,ok:=aU s.3 (2*n+5+2*t+3*x.3+2) x.10} }))))))))
theorem KF(t n:Int)(x:EXS)(s:MS)(K:ExO→Prop)(h:(BO t n x s).run K):cT' 249 [.ptr 0 0,.ptr 1 0] [cE' [.I t,.I n,.I x.popped,.I x.gave,.I x.u,.I x.sh,.I x.kd,.I x.ky,.bool x.only,.I x.att,.I 7,.int .u64 x.found,.int .u64 x.word],aZ 2 s,bA s] (bR 3 0 [] [] (wB t n) K):=by
 exact cM' (E:=EX2) (by kernel_rfl) h
abbrev w0q(x:EXS):=eV (aA x.10 0 12)
abbrev w0h(n:Int)(s:MS)(t:Int)(x:EXS):Tr ExO:=.ret {d:=true,x:= {x with at':=9},s:= {t:=s.1,n:=s.2,xs:=bif aU s.3 (2*n+5+2*t+3*x.3+2) x.10 then aV s.3 (2*n+5+2*t+3*x.3+2) (bif dOk (w0q x) 0 0 0 1 0 then cK (w0q x) 0 0 0 false 1 0 else 0)else s.3,c:=s.4+1,k:=3,a:=2*n+5+2*t+3*x.3+2,o:=aE s.3 (2*n+5+2*t+3*x.3+2),w:=bif bL s.3 (2*n+5+2*t+3*x.3+2)then bif dOk (w0q x) 0 0 0 1 0 then cK (w0q x) 0 0 0 false 1 0 else 0 else 0,ok:=aU s.3 (2*n+5+2*t+3*x.3+2) x.10} }
def BP(t n:Int)(x:EXS)(s:MS):Tr ExO:=.pre True (.pre True (.pre ((0:Int)≤aA x.10 0 12∧aA x.10 0 (12:Int)≤(1000000:Int)) (.pre (lE' s.3∧True∧(w0g n t x)∧((lE' s.3∧(0:Int)≤s.4∧s.4≤(4611686018427387904:Int))∧True)∧True) (.ite (!aU s.3 (2*n+5+2*t+3*x.3+2) x.10) (.pre ((t=t∧n=n)∧lE' (bif aU s.3 (2*n+5+2*t+3*x.3+2) x.10 then aV s.3 (2*n+5+2*t+3*x.3+2) (bif dOk (w0q x) 0 0 0 1 0 then cK (w0q x) 0 0 0 false 1 0 else 0)else s.3)) (w0h n s t x)) (.pre True (.ite (!fW x.5) (.pre ((t=t∧n=n)∧lE' (bif aU s.3 (2*n+5+2*t+3*x.3+2) x.10 then aV s.3 (2*n+5+2*t+3*x.3+2) (bif dOk (w0q x) 0 0 0 1 0 then cK (w0q x) 0 0 0 false 1 0 else 0)else s.3)) (w0h n s t x)) (.pre (True∧True) (.pre ((t=t∧n=n)∧lE' (bif aU s.3 (2*n+5+2*t+3*x.3+2) x.10 then aV s.3 (2*n+5+2*t+3*x.3+2) (bif dOk (w0q x) 0 0 0 1 0 then cK (w0q x) 0 0 0 false 1 0 else 0)else s.3)) (.ret {d:=!bN n (aA x.10 39 9),x:= {x with at':=9},s:= {t:=s.1,n:=s.2,xs:=bif aU s.3 (2*n+5+2*t+3*x.3+2) x.10 then aV s.3 (2*n+5+2*t+3*x.3+2) (bif dOk (w0q x) 0 0 0 1 0 then cK (w0q x) 0 0 0 false 1 0 else 0)else s.3,c:=s.4+1,k:=3,a:=2*n+5+2*t+3*x.3+2,o:=aE s.3 (2*n+5+2*t+3*x.3+2),w:=bif bL s.3 (2*n+5+2*t+3*x.3+2)then bif dOk (w0q x) 0 0 0 1 0 then cK (w0q x) 0 0 0 false 1 0 else 0 else 0,ok:=aU s.3 (2*n+5+2*t+3*x.3+2) x.10} })))))))))
theorem KG(t n:Int)(x:EXS)(s:MS)(K:ExO→Prop)(h:(BP t n x s).run K):cT' 249 [.ptr 0 0,.ptr 1 0] [cE' [.I t,.I n,.I x.popped,.I x.gave,.I x.u,.I x.sh,.I x.kd,.I x.ky,.bool x.only,.I x.att,.I 8,.int .u64 x.found,.int .u64 x.word],aZ 2 s,bA s] (bR 3 0 [] [] (wB t n) K):=by
 exact cM' (E:=EX2) (by kernel_rfl) h
abbrev w0u(n:Int)(x:EXS):=n+4+aA x.10 39 9
def BQ(t n:Int)(x:EXS)(s:MS):Tr ExO:=.pre True (.pre True (.pre ((((0:Int)≤t∧t≤(100000:Int))∧((0:Int)≤n∧n≤(100000:Int))∧(-1099511627776:Int)≤aA x.10 39 9∧aA x.10 39 (9:Int)≤(1099511627776:Int))∧True) (.pre ((lE' s.3∧(0:Int)≤s.4∧s.4≤(4611686018427387904:Int))∧True) (.pre ((t=t∧n=n)∧lE' (aV s.3 (w0u n x) (WU (aE s.3 (w0u n x)+1)))) (.ret {d:=true,x:= {x with gave:=aA x.10 39 9,at':=9},s:= {t:=s.1,n:=s.2,xs:=aV s.3 (w0u n x) (WU (aE s.3 (w0u n x)+1)),c:=s.4+1,k:=4,a:=n+4+aA x.10 39 9,o:=aE s.3 (w0u n x),w:=bif bL s.3 (w0u n x)then WU (aE s.3 (w0u n x)+1)else 0,ok:=bL s.3 (w0u n x) } })))))
theorem KH(t n:Int)(x:EXS)(s:MS)(K:ExO→Prop)(h:(BQ t n x s).run K):cT' 249 [.ptr 0 0,.ptr 1 0] [cE' [.I t,.I n,.I x.popped,.I x.gave,.I x.u,.I x.sh,.I x.kd,.I x.ky,.bool x.only,.I x.att,.I 9,.int .u64 x.found,.int .u64 x.word],aZ 2 s,bA s] (bR 3 0 [] [] (wB t n) K):=by
 exact cM' (E:=EX2) (by kernel_rfl) h
def exT(t n:Int)(x:EXS)(s:MS):Tr ExO:=
 bif ieq x.at' 0 then BH t n x s else
 bif ieq x.at' 1 then BI t n x s else
 bif ieq x.at' 2 then BJ t n x s else
 bif ieq x.at' 3 then BK t n x s else
 bif ieq x.at' 4 then BL t n x s else
 bif ieq x.at' 5 then BM t n x s else
 bif ieq x.at' 6 then BN t n x s else
 bif ieq x.at' 7 then BO t n x s else
 bif ieq x.at' 8 then BP t n x s else
 bif ieq x.at' 9 then BQ t n x s else .pre False (.ret default)
def BG(t n:Int)(x:EXS)(s:MS):ExO:=(exT t n x s).val
def aBI(t n:Int)(x:EXS)(s:MS):Prop:=(exT t n x s).ok
theorem VC(t n:Int)(x:EXS)(s:MS)(K:AVal→aC Ob→Prop)(h:(exT t n x s).run (fun y=>(ExO.fin t n y).run K)):cT' 249 [.ptr 0 0,.ptr 1 0] (exH t n x s) K:=by
 unfold exT at h
 by_cases e:x.at'=0
 ·rw [e]at h;have h:(BH t n x s).run _:=h;refine aIm (root:=0) (pos:=[]) (cs:=[]) (parse:=wB t n) (fin:=ExO.fin t n) kW (aT.unpack (.exec t n x) 0 0 (gR t n x) [] rfl (congrArg (Prod.mk 0) rfl) (by kernel_rfl) rfl) ?_
  have q:=J8 t n x s _ h;rw [←e]at q;exact q
 rw [bI e]at h
 by_cases e:x.at'=1
 ·rw [e]at h;have h:(BI t n x s).run _:=h;refine aIm (root:=0) (pos:=[]) (cs:=[]) (parse:=wB t n) (fin:=ExO.fin t n) kW (aT.unpack (.exec t n x) 0 0 (gR t n x) [] rfl (congrArg (Prod.mk 0) rfl) (by kernel_rfl) rfl) ?_
  have q:=J9 t n x s _ h;rw [←e]at q;exact q
 rw [bI e]at h
 by_cases e:x.at'=2
 ·rw [e]at h;have h:(BJ t n x s).run _:=h;refine aIm (root:=0) (pos:=[]) (cs:=[]) (parse:=wB t n) (fin:=ExO.fin t n) kW (aT.unpack (.exec t n x) 0 0 (gR t n x) [] rfl (congrArg (Prod.mk 0) rfl) (by kernel_rfl) rfl) ?_
  have q:=KA t n x s _ h;rw [←e]at q;exact q
 rw [bI e]at h
 by_cases e:x.at'=3
 ·rw [e]at h;have h:(BK t n x s).run _:=h;refine aIm (root:=0) (pos:=[]) (cs:=[]) (parse:=wB t n) (fin:=ExO.fin t n) kW (aT.unpack (.exec t n x) 0 0 (gR t n x) [] rfl (congrArg (Prod.mk 0) rfl) (by kernel_rfl) rfl) ?_
  have q:=KB t n x s _ h;rw [←e]at q;exact q
 rw [bI e]at h
 by_cases e:x.at'=4
 ·rw [e]at h;have h:(BL t n x s).run _:=h;refine aIm (root:=0) (pos:=[]) (cs:=[]) (parse:=wB t n) (fin:=ExO.fin t n) kW (aT.unpack (.exec t n x) 0 0 (gR t n x) [] rfl (congrArg (Prod.mk 0) rfl) (by kernel_rfl) rfl) ?_
  have q:=KC t n x s _ h;rw [←e]at q;exact q
 rw [bI e]at h
 by_cases e:x.at'=5
 ·rw [e]at h;have h:(BM t n x s).run _:=h;refine aIm (root:=0) (pos:=[]) (cs:=[]) (parse:=wB t n) (fin:=ExO.fin t n) kW (aT.unpack (.exec t n x) 0 0 (gR t n x) [] rfl (congrArg (Prod.mk 0) rfl) (by kernel_rfl) rfl) ?_
  have q:=KD t n x s _ h;rw [←e]at q;exact q
 rw [bI e]at h
 by_cases e:x.at'=6
 ·rw [e]at h;have h:(BN t n x s).run _:=h;refine aIm (root:=0) (pos:=[]) (cs:=[]) (parse:=wB t n) (fin:=ExO.fin t n) kW (aT.unpack (.exec t n x) 0 0 (gR t n x) [] rfl (congrArg (Prod.mk 0) rfl) (by kernel_rfl) rfl) ?_
  have q:=KE t n x s _ h;rw [←e]at q;exact q
 rw [bI e]at h
 by_cases e:x.at'=7
 ·rw [e]at h;have h:(BO t n x s).run _:=h;refine aIm (root:=0) (pos:=[]) (cs:=[]) (parse:=wB t n) (fin:=ExO.fin t n) kW (aT.unpack (.exec t n x) 0 0 (gR t n x) [] rfl (congrArg (Prod.mk 0) rfl) (by kernel_rfl) rfl) ?_
  have q:=KF t n x s _ h;rw [←e]at q;exact q
 rw [bI e]at h
 by_cases e:x.at'=8
 ·rw [e]at h;have h:(BP t n x s).run _:=h;refine aIm (root:=0) (pos:=[]) (cs:=[]) (parse:=wB t n) (fin:=ExO.fin t n) kW (aT.unpack (.exec t n x) 0 0 (gR t n x) [] rfl (congrArg (Prod.mk 0) rfl) (by kernel_rfl) rfl) ?_
  have q:=KG t n x s _ h;rw [←e]at q;exact q
 rw [bI e]at h
 by_cases e:x.at'=9
 ·rw [e]at h;have h:(BQ t n x s).run _:=h;refine aIm (root:=0) (pos:=[]) (cs:=[]) (parse:=wB t n) (fin:=ExO.fin t n) kW (aT.unpack (.exec t n x) 0 0 (gR t n x) [] rfl (congrArg (Prod.mk 0) rfl) (by kernel_rfl) rfl) ?_
  have q:=KH t n x s _ h;rw [←e]at q;exact q
 rw [bI e]at h;exact h.1.elim
noncomputable def exS:aH Ob:=fun args h=>match args,h with
 | [.ptr 0 0,.ptr 1 0],[some (.abs (.exec t n x) []),e1,e2]=>(match cO 2 [e1,e2]with
   | some (l,s)=>some (.pre (l=s.xs.length∧aBI t n x s) (ExO.fin t n (BG t n x s)))
   | none=>none)
 | _,_=>none
theorem aES:sT' 249 exS:=by
 intro args h o ho K hK;unfold exS at ho;split at ho
 case h_2=>cases ho
 split at ho<;>cases ho
 rename_i hm;obtain⟨⟨hl,ok⟩,hK⟩:=hK;cases bB hm hl;exact VC _ _ _ _ K (aIp ok hK)
def aBF(t n:Int)(v:AVal)(g:aC Ob):Option (Prop×EXS):=match v,g with
 | .ptr 0 0,[some (.cells [.int .i64 t1,.int .i64 n1,.int .i64 popped,.int .i64 gave,.int .i64 u,.int .i64 sh,.int .i64 kd,.int .i64 ky,.bool only,.int .i64 att,.int .i64 at',.int .u64 found,.int .u64 word])]=>some ((t1=t∧n1=n),(⟨popped,gave,u,sh,kd,ky,only,att,at',found,word⟩:EXS))
 | _,_=>none
abbrev U8(t n:Int)(y:EXS):aC Ob:=[some (.abs (.exec t n y) [])]
theorem U9{t n:Int} :bM (obI tbl) 0 (aBF t n) (fun y=>.ret (.ptr 0 0) (U8 t n y)):=by
 intro v g p x hp hq K hK;unfold aBF at hp;split at hp
 case h_2=>cases hp
 rename_i t1 n1 popped gave u sh kd ky only att at' found word;cases hp;obtain⟨rfl,rfl⟩:=hq;exact⟨⟨_,_,aF.pack (U8 t1 n1 (⟨popped,gave,u,sh,kd,ky,only,att,at',found,word⟩:EXS)) (.exec t1 n1 (⟨popped,gave,u,sh,kd,ky,only,att,at',found,word⟩:EXS)) 0 0 (gR t1 n1 (⟨popped,gave,u,sh,kd,ky,only,att,at',found,word⟩:EXS)) [] (by kernel_rfl) rfl (congrArg (Prod.mk 0) rfl) (by kernel_rfl),hK⟩⟩
def aBG(t n:Int)(u sh kd ky att:Int):Tr EXS:=.pre (t=t∧n=n) (.ret {popped:=0,gave:=0,u:=u,sh:=sh,kd:=kd,ky:=ky,only:=true,att:=att,at':=0,found:=0,word:=0})
def aBE(t n:Int)(u sh kd ky att:Int):EXS:=(aBG t n u sh kd ky att).val
def OT(t n:Int)(u sh kd ky att:Int):Prop:=(aBG t n u sh kd ky att).ok
def exNS:aH Ob:=fun args h=>match args,h with
 | [.agg [.int .i64 t,.int .i64 n],.int .i64 u,.agg [.int .i64 sh,.int .i64 kd,.int .i64 ky],.int .i64 att],[]=>some (.pre (OT t n u sh kd ky att) (.ret (.ptr 0 0) (U8 t n (aBE t n u sh kd ky att))))
 | _,_=>none
theorem aBH:sT' 246 exNS:=by
 intro args h o ho K hK;unfold exNS at ho;split at ho<;>cases ho
 rename_i t n u sh kd ky att;obtain⟨ok,hK⟩:=hK;refine aIy (root:=0) (pos:=[]) (cs:=[]) (parse:=aBF t n) U9 ?_;exact cM' (E:=EX2) (q:=(aBG t n u sh kd ky att).run (fun y=>(Out.ret (.ptr 0 0) (U8 t n y)).run K)) (by kernel_rfl) (aIp ok hK)
noncomputable def EC6:=((EX2.addS 249 exS aES).addS 246 exNS aBH)
structure PrO where
 d:Bool
 x:PRS
 st:STS
 s:MS
instance:Inhabited PrO:=⟨⟨false,⟨0,0,0,false⟩,⟨0,0,[]⟩,⟨0,0,[],0,0,0,0,0,false⟩⟩⟩
instance:Inhabited PRS:=⟨⟨0,0,0,false⟩⟩
abbrev prH(t n:Int)(x:PRS)(st:STS)(s:MS):aC Ob:=[some (.abs (.prepare t n x) [1]),some (.abs (.store t n st) []),aZ 3 s,bA s]
abbrev prD(t n:Int)(x:PRS)(st:STS)(s:MS):aC Ob:=[cE' [.ptr 1 0,.I x.key,.I x.nxt,.int .u64 x.found,.bool x.loaded],some (.abs (.store t n st) []),aZ 3 s,bA s]
def PrO.fin(t n:Int)(y:PrO):Out Ob:=.ite y.d (.ret (.bool true) (prD t n y.x y.st y.s)) (.ret (.bool false) (prH t n y.x y.st y.s))
def aCY(t n:Int)(v:AVal)(g:aC Ob):Option (Prop×PrO):=match v,g with
 | .bool d,[some (.cells [.ptr 1 0,.int .i64 key,.int .i64 nxt,.int .u64 found,.bool loaded]),e1,e3,e4,e2]=>(match lC 4 [e1,e2],cO 3 [e3,e4]with
   | some (l2,t2,n2,st),some (l,s)=>some ((t2=t∧n2=n)∧l=s.xs.length∧l2=st.R.length,⟨d,⟨key,nxt,found,loaded⟩,st,s⟩)
   | _,_=>none)
 | _,_=>none
def prP(t n:Int)(v:AVal)(g:aC Ob):Option (Prop×PrO):=aCY t n v g
theorem X3{t n:Int} :bM (obI tbl) 4 (aCY t n) (PrO.fin t n):=by
 intro v g p x hp hq K hK;unfold aCY at hp;split at hp
 case h_2=>cases hp
 rename_i d key nxt found loaded e1 e3 e4 e2;split at hp
 case h_2=>cases hp
 rename_i l2 t2 n2 st l s hs hm;cases hp;obtain⟨⟨rfl,rfl⟩,hl,hl2⟩:=hq;cases bB hm hl;cases cD hs hl2;refine qG hK (fun h=>?_) (fun h=>?_)
 ·exact tkP h (.store t2 n2 st) 1 0 (dM t2 n2 st) []
 ·exact wD h (.store t2 n2 st) 1 0 (dM t2 n2 st) [] 0 [1] rfl (congrArg (Prod.mk 1) rfl)
theorem aCZ{t n:Int} :bM (obI tbl) 4 (prP t n) (PrO.fin t n):=by
 intro v g p x hp hq K hK;unfold prP at hp;exact X3 v g p x hp hq K hK
abbrev w0v(x:PRS):=aS (aA x.3 25 18)
def X4(t n:Int)(x:PRS)(st:STS)(s:MS):Tr PrO:=.ite (!x.4) (.pre (lE' s.3∧(0:Int)≤s.4∧s.4≤(4611686018427387904:Int)) (.pre ((t=t∧n=n)∧lE' s.3∧lE' st.3) (.ret {d:=false,x:= {key:=x.1,nxt:=x.2,found:=aE s.3 st.2,loaded:=true},st:=st,s:= {s with c:=s.4+1,k:=1,a:=st.2,o:=aE s.3 st.2,w:=aE s.3 st.2,ok:=bL s.3 st.2} }))) (.pre True (.pre ((0:Int)≤aA x.3 25 18∧aA x.3 25 (18:Int)≤(1000000:Int)) (.pre True (.pre (lE' s.3∧(0:Int)≤s.4∧s.4≤(4611686018427387904:Int)) (.pre ((t=t∧n=n)∧lE' (aV s.3 st.2 (bif bif aL x.1 10 then bif aL x.2 9 then bif aL 0 5 then aL (w0v x) 18 else false else false else false then cL x.1 x.2 false 0 (w0v x)else 0))∧lE' st.3) (.ret {d:=true,x:=x,st:=st,s:= {t:=s.1,n:=s.2,xs:=aV s.3 st.2 (bif bif aL x.1 10 then bif aL x.2 9 then bif aL 0 5 then aL (w0v x) 18 else false else false else false then cL x.1 x.2 false 0 (w0v x)else 0),c:=s.4+1,k:=2,a:=st.2,o:=aE s.3 st.2,w:=bif bL s.3 st.2 then bif bif aL x.1 10 then bif aL x.2 9 then bif aL 0 5 then aL (w0v x) 18 else false else false else false then cL x.1 x.2 false 0 (w0v x)else 0 else 0,ok:=bL s.3 st.2} }))))))
theorem QK(t n:Int)(x:PRS)(st:STS)(s:MS)(K:PrO→Prop)(h:(X4 t n x st s).run K):cT' 216 [.ptr 0 0,.ptr 2 0] [cE' [.ptr 1 0,.I x.key,.I x.nxt,.int .u64 x.found,.bool x.loaded],gV 4 t n st,aZ 3 s,bA s,gW st] (bR 4 0 [] [(.cell 1 4,.ints (some .i64))] (prP t n) K):=by
 exact cM' (E:=EC6) (by kernel_rfl) h
def prT(t n:Int)(x:PRS)(st:STS)(s:MS):Tr PrO:=X4 t n x st s
def prF(t n:Int)(x:PRS)(st:STS)(s:MS):PrO:=(prT t n x st s).val
def QJ(t n:Int)(x:PRS)(st:STS)(s:MS):Prop:=(prT t n x st s).ok
theorem IW(t n:Int)(x:PRS)(st:STS)(s:MS)(K:AVal→aC Ob→Prop)(h:(prT t n x st s).run (fun y=>(PrO.fin t n y).run K)):cT' 216 [.ptr 0 0,.ptr 2 0] (prH t n x st s) K:=by
 unfold prT at h;exact aIm (root:=0) (pos:=[]) (cs:=[(.cell 1 4,.ints (some .i64))]) (parse:=prP t n) (fin:=PrO.fin t n) aCZ ((aT.unpack (.prepare t n x) 0 1 (rC t n x) [1] rfl (congrArg (Prod.mk 1) rfl) (by kernel_rfl) rfl).trans (aT.unpack (.store t n st) 1 0 (dM t n st) [] rfl rfl rfl rfl)) (QK t n x st s _ h)
noncomputable def prSA:aH Ob:=fun args h=>match args,h with
 | [.ptr 0 0,.ptr 2 0],[some (.abs (.prepare t n x) [1]),some (.abs (.store t2 n2 st) []),e3,e4]=>(match cO 3 [e3,e4]with
   | some (l,s)=>some (.pre ((l=s.xs.length∧t2=t∧n2=n)∧QJ t n x st s) (PrO.fin t n (prF t n x st s)))
   | none=>none)
 | _,_=>none
theorem aC0:sT' 216 prSA:=by
 intro args h o ho K hK;unfold prSA at ho;split at ho
 case h_2=>cases ho
 split at ho<;>cases ho
 rename_i hm;obtain⟨⟨⟨hl,rfl,rfl⟩,ok⟩,hK⟩:=hK;cases bB hm hl;exact IW _ _ _ _ _ K (aIp ok hK)
def PrO.finB(t n:Int)(y:PrO):Out Ob:=.ite y.d (.ret (.bool true) ([cE' [.ptr 1 0,.I y.x.key,.I y.x.nxt,.int .u64 y.x.found,.bool y.x.loaded],gV 5 t n y.st,none,aZ 4 y.s,bA y.s,gW y.st])) (.ret (.bool false) [some (.abs (.prepare t n y.x) [1]),gV 5 t n y.st,none,aZ 4 y.s,bA y.s,gW y.st])
noncomputable def prSB:aH Ob:=fun args h=>match args,h with
 | [.ptr 0 0,.ptr 3 0],[some (.abs (.prepare t n x) [1]),e1,e2,e3,e4]=>(match lC 2 [e1,e2],cO 4 [e3,e4]with
   | some (l2,t2,n2,st),some (l,s)=>some (.pre ((l=s.xs.length∧l2=st.R.length∧t2=t∧n2=n)∧QJ t n x st s) (PrO.finB t n (prF t n x st s)))
   | _,_=>none)
 | _,_=>none
theorem aC1:sT' 216 prSB:=by
 intro args h o ho K hK;unfold prSB at ho;split at ho
 case h_2=>cases ho
 split at ho<;>cases ho
 rename_i hs hm;obtain⟨⟨⟨hl,hl2,rfl,rfl⟩,ok⟩,hK⟩:=hK;cases bB hm hl;cases cD hs hl2;exact jM (fun ι hι=>by simp [aG.ren,aIA,AVal.ren,hι]) (fun ι hι=>by simp [aG.ren,hι]) (fun K hK=>IW _ _ _ _ _ K (aIp ok hK)) K hK
noncomputable def prS:aH Ob:=aH.or prSA prSB
theorem aFQ:sT' 216 prS:=aIJ aC0 aC1
def aCW(t n:Int)(v:AVal)(g:aC Ob):Option (Prop×(PRS×STS)):=match v,g with
 | .ptr 2 0,[e1,e2,some (.cells [.ptr 0 0,.int .i64 key,.int .i64 nxt,.int .u64 found,.bool loaded])]=>(match lC 1 [e1,e2]with
   | some (l2,t2,n2,st)=>some ((t2=t∧n2=n∧l2=st.R.length),⟨(⟨key,nxt,found,loaded⟩:PRS),st⟩)
   | none=>none)
 | _,_=>none
abbrev X0(t n:Int)(y:(PRS×STS)):aC Ob:=[gV 1 t n y.2,gW y.2,some (.abs (.prepare t n y.1) [0])]
theorem X1{t n:Int} :bM (obI tbl) 2 (aCW t n) (fun y=>.ret (.ptr 2 0) (X0 t n y)):=by
 intro v g p x hp hq K hK;unfold aCW at hp;split at hp
 case h_2=>cases hp
 rename_i e1 e2 key nxt found loaded;split at hp
 case h_2=>cases hp
 rename_i l2 t2 n2 st hs;cases hp;obtain⟨rfl,rfl,hl2⟩:=hq;cases cD hs hl2;exact⟨⟨_,_,aF.pack (X0 t2 n2 ((⟨key,nxt,found,loaded⟩:PRS),st)) (.prepare t2 n2 (⟨key,nxt,found,loaded⟩:PRS)) 2 1 (rC t2 n2 (⟨key,nxt,found,loaded⟩:PRS)) [0] (by kernel_rfl) rfl (congrArg (Prod.mk 1) rfl) (by kernel_rfl),hK⟩⟩
def X2(t n:Int)(key nx:Int)(st:STS):Tr (PRS×STS):=.pre (t=t∧n=n∧lE' st.3) (.ret ({key:=key,nxt:=nx,found:=0,loaded:=false},st))
def qE(t n:Int)(key nx:Int)(st:STS):(PRS×STS):=(X2 t n key nx st).val
def C7(t n:Int)(key nx:Int)(st:STS):Prop:=(X2 t n key nx st).ok
def prNS:aH Ob:=fun args h=>match args,h with
 | [.ptr 0 0,.int .i64 key,.int .i64 nx],[e1,e2]=>(match lC 1 [e1,e2]with
   | some (l2,t,n,st)=>some (.pre (l2=st.R.length∧C7 t n key nx st) (.ret (.ptr 2 0) (X0 t n (qE t n key nx st))))
   | none=>none)
 | _,_=>none
theorem aCX:sT' 259 prNS:=by
 intro args h o ho K hK;unfold prNS at ho;split at ho
 case h_2=>cases ho
 rename_i key nx e1 e2;split at ho<;>cases ho
 rename_i l2 t n st hs;obtain⟨⟨hl2,ok⟩,hK⟩:=hK;cases cD hs hl2;refine aIy (root:=2) (pos:=[]) (cs:=[]) (parse:=aCW t n) X1 ?_;exact cM' (E:=EC6) (q:=(X2 t n key nx st).run (fun y=>(Out.ret (.ptr 2 0) (X0 t n y)).run K)) (by kernel_rfl) (aIp ok hK)
noncomputable def EC7:=((EC6.addS 216 prS aFQ).addS 259 prNS aCX)
structure FnO where
 d:Bool
 x:FNS
 s:MS
instance:Inhabited FnO:=⟨⟨false,bQ,⟨0,0,[],0,0,0,0,0,false⟩⟩⟩
instance:Inhabited FNS:=⟨bQ⟩
abbrev fnH(t n:Int)(x:FNS)(s:MS):aC Ob:=[some (.abs (.find t n x) []),aZ 2 s,bA s]
abbrev fnD(t n:Int)(x:FNS)(s:MS):aC Ob:=[cE' [.I t,.I n,.I x.pred,.int .u64 x.pw,.I x.curr,.int .u64 x.cw,.I x.tries,.slice 3 0 x.ul.length 1,.bool x.ab,.I x.me,.I x.frm,.I x.key,.I x.limit,.I x.at',.I x.moved,.O],aZ 2 s,bA s,iI' x.ul]
def FnO.fin(t n:Int)(y:FnO):Out Ob:=.ite y.d (.ret (.bool true) (fnD t n y.x y.s)) (.ret (.bool false) (fnH t n y.x y.s))
def aBQ(t n:Int)(v:AVal)(g:aC Ob):Option (Prop×FnO):=match v,g with
 | .bool d,[some (.cells [.int .i64 t1,.int .i64 n1,.int .i64 pred,.int .u64 pw,.int .i64 curr,.int .u64 cw,.int .i64 tries,.slice 3 0 ul_l 1,.bool ab,.int .i64 me,.int .i64 frm,.int .i64 key,.int .i64 limit,.int .i64 at',.int .i64 moved,.O]),e1,e2,some (.ints (some .i64) ul)]=>(match cO 2 [e1,e2]with
   | some (l,s)=>some ((t1=t∧n1=n)∧ul_l=ul.length∧(d=false→at'≠4)∧l=s.xs.length,⟨d,⟨pred,pw,curr,cw,tries,ul,ab,me,frm,key,limit,at',moved,⟨0,0,0,0⟩⟩,s⟩)
   | none=>none)
 | _,_=>none
def aBR(t n:Int)(v:AVal)(g:aC Ob):Option (Prop×FnO):=match v,g with
 | .bool d,[some (.cells [.int .i64 t1,.int .i64 n1,.int .i64 pred,.int .u64 pw,.int .i64 curr,.int .u64 cw,.int .i64 tries,.slice 3 0 ul_l 1,.bool ab,.int .i64 me,.int .i64 frm,.int .i64 key,.int .i64 limit,.int .i64 at',.int .i64 moved,.ptr 4 0]),e1,e2,some (.ints (some .i64) ul),some (.abs (.clear t' n' sub) [])]=>(match cO 2 [e1,e2]with
   | some (l,s)=>some ((t1=t∧n1=n)∧ul_l=ul.length∧t'=t∧n'=n∧(d=false→at'=4)∧l=s.xs.length,⟨d,⟨pred,pw,curr,cw,tries,ul,ab,me,frm,key,limit,at',moved,sub⟩,s⟩)
   | none=>none)
 | _,_=>none
def DV(t n:Int)(v:AVal)(g:aC Ob):Option (Prop×FnO):=(match aBQ t n v g with
 | some r=>some r
 | none=>aBR t n v g)
theorem VI{t n:Int} :bM (obI tbl) 3 (aBQ t n) (FnO.fin t n):=by
 intro v g p x hp hq K hK;unfold aBQ at hp;split at hp
 case h_2=>cases hp
 rename_i d t1 n1 pred pw curr cw tries ul_l ab me frm key limit at' moved e1 e2 ul;split at hp
 case h_2=>cases hp
 rename_i l s hm;cases hp;obtain⟨⟨rfl,rfl⟩,rfl,hat,hl⟩:=hq;cases bB hm hl;refine fK hK (fun h=>?_) (fun hd h=>?_)
 ·exact⟨⟨_,_,aIF _ _ _,h⟩⟩
 ·exact⟨⟨_,_,(aF.pack (fnH t1 n1 (⟨pred,pw,curr,cw,tries,ul,ab,me,frm,key,limit,at',moved,⟨0,0,0,0⟩⟩:FNS) s) (.find t1 n1 (⟨pred,pw,curr,cw,tries,ul,ab,me,frm,key,limit,at',moved,⟨0,0,0,0⟩⟩:FNS)) 0 0 (kX t1 n1 (⟨pred,pw,curr,cw,tries,ul,ab,me,frm,key,limit,at',moved,⟨0,0,0,0⟩⟩:FNS)) [] (by kernel_rfl) rfl (congrArg (Prod.mk 0) (iK (hat hd))) (by kernel_rfl)),h⟩⟩
theorem VJ{t n:Int} :bM (obI tbl) 3 (aBR t n) (FnO.fin t n):=by
 intro v g p x hp hq K hK;unfold aBR at hp;split at hp
 case h_2=>cases hp
 rename_i d t1 n1 pred pw curr cw tries ul_l ab me frm key limit at' moved e1 e2 ul t' n' sub;split at hp
 case h_2=>cases hp
 rename_i l s hm;cases hp;obtain⟨⟨rfl,rfl⟩,rfl,rfl,rfl,hat,hl⟩:=hq;cases bB hm hl;refine fK hK (fun h=>?_) (fun hd h=>?_)
 ·exact⟨⟨_,_,(aF.weak (d7 _ 0 [15])).trans ((aF.pick (upto 0 4) rfl).trans (aIt (by kernel_rfl) (by kernel_rfl))),h⟩⟩
 ·exact⟨⟨_,_,(aF.pack (fnH t' n' (⟨pred,pw,curr,cw,tries,ul,ab,me,frm,key,limit,at',moved,sub⟩:FNS) s) (.find t' n' (⟨pred,pw,curr,cw,tries,ul,ab,me,frm,key,limit,at',moved,sub⟩:FNS)) 0 0 (pV t' n' (⟨pred,pw,curr,cw,tries,ul,ab,me,frm,key,limit,at',moved,sub⟩:FNS)) [] (by kernel_rfl) rfl (congrArg (Prod.mk 0) (HS (hat hd))) (by kernel_rfl)),h⟩⟩
theorem o0{t n:Int} :bM (obI tbl) 3 (DV t n) (FnO.fin t n):=by
 intro v g p x hp hq K hK;unfold DV at hp;split at hp
 ·rename_i r hr;cases hp;exact VI v g p x hr hq K hK
 exact VJ v g p x hp hq K hK
abbrev w0y:=false=false→(0:Int)≠(4:Int)
abbrev w0z(s:MS)(x:FNS):Tr FnO:=.ret {d:=ieq (aA (aE s.3 x.1) 10 9) 0,x:= {x with pred:=0,pw:=aE s.3 x.1,curr:=aA (aE s.3 x.1) 10 9,cw:=0,tries:=W (x.5+1),ab:=ilt x.11 (W (x.5+1)),at':=1,cl:=b9},s:= {s with c:=s.4+1,k:=1,a:=x.1,o:=aE s.3 x.1,w:=aE s.3 x.1,ok:=bL s.3 x.1} }
abbrev w11(s:MS)(x:FNS):Tr FnO:=.ret {d:=ieq (aA (aE s.3 x.1) 10 9) 0,x:= {x with pw:=aE s.3 x.1,curr:=aA (aE s.3 x.1) 10 9,cw:=0,tries:=W (x.5+1),ab:=ilt x.11 (W (x.5+1)),at':=1,cl:=b9},s:= {s with c:=s.4+1,k:=1,a:=x.1,o:=aE s.3 x.1,w:=aE s.3 x.1,ok:=bL s.3 x.1} }
abbrev w13(s:MS)(x:FNS):=ieq (aA (aE s.3 x.1) 10 9) (0:Int)=false→(1:Int)≠(4:Int)
abbrev w14(x:FNS):=ilt x.11 (W (x.5+1))
abbrev w15(s:MS)(x:FNS):Tr FnO:=.ret {d:=false,x:= {x with pred:=x.9,pw:=0,curr:=0,cw:=0,tries:=W (x.5+1),ab:=ilt x.11 (W (x.5+1)),at':=0,moved:=0,cl:=b9},s:= {s with c:=s.4+1,k:=1,a:=x.1,o:=aE s.3 x.1,w:=aE s.3 x.1,ok:=bL s.3 x.1} }
abbrev w16(s:MS)(x:FNS):Tr FnO:=.ret {d:=false,x:= {x with pred:=x.9,tries:=W (x.5+1),ab:=ilt x.11 (W (x.5+1)),at':=0,moved:=0,cl:=b9},s:= {s with c:=s.4+1,k:=1,a:=x.1,o:=aE s.3 x.1,w:=aE s.3 x.1,ok:=bL s.3 x.1} }
abbrev w1e:=true=false→(0:Int)≠(4:Int)
abbrev w1f(s:MS)(x:FNS):=ieq (aA (aE s.3 x.1) 19 1) 1
def BV(t n:Int)(x:FNS)(s:MS):Tr FnO:=.pre (lE' s.3∧(0:Int)≤s.4∧s.4≤(4611686018427387904:Int)) (.pre True (.ite (w1f s x) (.ite (w14 x) (.ite (w14 x) (.pre ((t=t∧n=n)∧lE' x.6∧w1e∧lE' s.3) (.ret {d:=true,x:= {x with pred:=0,pw:=0,curr:=0,cw:=0,tries:=W (x.5+1),ab:=ilt x.11 (W (x.5+1)),at':=0,cl:=b9},s:= {s with c:=s.4+1,k:=1,a:=x.1,o:=aE s.3 x.1,w:=aE s.3 x.1,ok:=bL s.3 x.1} })) (.pre True (.ite (w1f s x) (.pre ((t=t∧n=n)∧lE' x.6∧w0y∧lE' s.3) (w15 s x)) (.pre ((t=t∧n=n)∧lE' x.6∧(w13 s x)∧lE' s.3) (w0z s x))))) (.ite (w14 x) (.pre ((t=t∧n=n)∧lE' x.6∧w1e∧lE' s.3) (.ret {d:=true,x:= {x with tries:=W (x.5+1),ab:=ilt x.11 (W (x.5+1)),at':=0,cl:=b9},s:= {s with c:=s.4+1,k:=1,a:=x.1,o:=aE s.3 x.1,w:=aE s.3 x.1,ok:=bL s.3 x.1} })) (.pre True (.ite (w1f s x) (.pre ((t=t∧n=n)∧lE' x.6∧w0y∧lE' s.3) (w16 s x)) (.pre ((t=t∧n=n)∧lE' x.6∧(w13 s x)∧lE' s.3) (w11 s x)))))) (.pre True (.ite (w1f s x) (.pre ((t=t∧n=n)∧lE' x.6∧w0y∧lE' s.3) (.ret {d:=false,x:= {x with pred:=x.9,at':=0,moved:=0,cl:=b9},s:= {s with c:=s.4+1,k:=1,a:=x.1,o:=aE s.3 x.1,w:=aE s.3 x.1,ok:=bL s.3 x.1} })) (.pre ((t=t∧n=n)∧lE' x.6∧(w13 s x)∧lE' s.3) (.ret {d:=ieq (aA (aE s.3 x.1) 10 9) 0,x:= {x with pw:=aE s.3 x.1,curr:=aA (aE s.3 x.1) 10 9,cw:=0,at':=1,cl:=b9},s:= {s with c:=s.4+1,k:=1,a:=x.1,o:=aE s.3 x.1,w:=aE s.3 x.1,ok:=bL s.3 x.1} }))))))
theorem KL(t n:Int)(x:FNS)(s:MS)(K:FnO→Prop)(h:(BV t n x s).run K):cT' 163 [.ptr 0 0,.ptr 1 0] [cE' [.I t,.I n,.I x.pred,.int .u64 x.pw,.I x.curr,.int .u64 x.cw,.I x.tries,.slice 3 0 x.ul.length 1,.bool x.ab,.I x.me,.I x.frm,.I x.key,.I x.limit,.I 0,.I x.moved,.O],aZ 2 s,bA s,iI' x.ul] (bR 3 0 [15] [(.cell 0 7,.ints (some .i64))] (DV t n) K):=by
 exact cM' (E:=EC7) (by kernel_rfl) h
def BW(t n:Int)(x:FNS)(s:MS):Tr FnO:=.pre ((((0:Int)≤t∧t≤(100000:Int))∧((0:Int)≤n∧n≤(100000:Int))∧((-1099511627776:Int)≤x.8∧x.8≤(1099511627776:Int))∧(-1099511627776:Int)≤(1:Int)∧(1:Int)≤(1099511627776:Int))∧True) (.pre ((lE' s.3∧(0:Int)≤s.4∧s.4≤(4611686018427387904:Int))∧True) (.pre ((t=t∧n=n)∧lE' x.6∧(false=false→(2:Int)≠(4:Int))∧lE' (aV s.3 (2*n+5+2*x.8+1) (WU x.3))) (.ret {d:=false,x:= {x with at':=2,cl:=b9},s:= {t:=s.1,n:=s.2,xs:=aV s.3 (2*n+5+2*x.8+1) (WU x.3),c:=s.4+1,k:=2,a:=2*n+5+2*x.8+1,o:=aE s.3 (2*n+5+2*x.8+1),w:=bif bL s.3 (2*n+5+2*x.8+1)then WU x.3 else 0,ok:=bL s.3 (2*n+5+2*x.8+1) } })))
theorem KM(t n:Int)(x:FNS)(s:MS)(K:FnO→Prop)(h:(BW t n x s).run K):cT' 163 [.ptr 0 0,.ptr 1 0] [cE' [.I t,.I n,.I x.pred,.int .u64 x.pw,.I x.curr,.int .u64 x.cw,.I x.tries,.slice 3 0 x.ul.length 1,.bool x.ab,.I x.me,.I x.frm,.I x.key,.I x.limit,.I 1,.I x.moved,.O],aZ 2 s,bA s,iI' x.ul] (bR 3 0 [15] [(.cell 0 7,.ints (some .i64))] (DV t n) K):=by
 exact cM' (E:=EC7) (by kernel_rfl) h
def BX(t n:Int)(x:FNS)(s:MS):Tr FnO:=.pre (lE' s.3∧(0:Int)≤s.4∧s.4≤(4611686018427387904:Int)) (.ite (!ieq (aE s.3 x.1) x.2) (.ite (w14 x) (.ite (w14 x) (.pre ((t=t∧n=n)∧lE' x.6∧(true=false→(2:Int)≠(4:Int))∧lE' s.3) (.ret {d:=true,x:= {x with pred:=0,pw:=0,curr:=0,cw:=0,tries:=W (x.5+1),ab:=ilt x.11 (W (x.5+1)),at':=2,cl:=b9},s:= {s with c:=s.4+1,k:=1,a:=x.1,o:=aE s.3 x.1,w:=aE s.3 x.1,ok:=bL s.3 x.1} })) (.pre True (.ite (w1f s x) (.pre ((t=t∧n=n)∧lE' x.6∧w0y∧lE' s.3) (w15 s x)) (.pre ((t=t∧n=n)∧lE' x.6∧(w13 s x)∧lE' s.3) (w0z s x))))) (.ite (w14 x) (.pre ((t=t∧n=n)∧lE' x.6∧(true=false→(2:Int)≠(4:Int))∧lE' s.3) (.ret {d:=true,x:= {x with tries:=W (x.5+1),ab:=ilt x.11 (W (x.5+1)),at':=2,cl:=b9},s:= {s with c:=s.4+1,k:=1,a:=x.1,o:=aE s.3 x.1,w:=aE s.3 x.1,ok:=bL s.3 x.1} })) (.pre True (.ite (w1f s x) (.pre ((t=t∧n=n)∧lE' x.6∧w0y∧lE' s.3) (w16 s x)) (.pre ((t=t∧n=n)∧lE' x.6∧(w13 s x)∧lE' s.3) (w11 s x)))))) (.pre ((t=t∧n=n)∧lE' x.6∧(false=false→(3:Int)≠(4:Int))∧lE' s.3) (.ret {d:=false,x:= {x with at':=3,cl:=b9},s:= {s with c:=s.4+1,k:=1,a:=x.1,o:=aE s.3 x.1,w:=aE s.3 x.1,ok:=bL s.3 x.1} })))
theorem KN(t n:Int)(x:FNS)(s:MS)(K:FnO→Prop)(h:(BX t n x s).run K):cT' 163 [.ptr 0 0,.ptr 1 0] [cE' [.I t,.I n,.I x.pred,.int .u64 x.pw,.I x.curr,.int .u64 x.cw,.I x.tries,.slice 3 0 x.ul.length 1,.bool x.ab,.I x.me,.I x.frm,.I x.key,.I x.limit,.I 2,.I x.moved,.O],aZ 2 s,bA s,iI' x.ul] (bR 3 0 [15] [(.cell 0 7,.ints (some .i64))] (DV t n) K):=by
 exact cM' (E:=EC7) (by kernel_rfl) h
abbrev w17:=false=false→(4:Int)=(4:Int)
abbrev w1a(s:MS)(x:FNS):Tr FnO:=.ret {d:=false,x:= {x with cw:=aE s.3 x.3,at':=6,cl:=b9},s:= {s with c:=s.4+1,k:=1,a:=x.3,o:=aE s.3 x.3,w:=aE s.3 x.3,ok:=bL s.3 x.3} }
abbrev w1b(s:MS)(x:FNS):Tr FnO:=.ret {d:=false,x:= {x with cw:=aE s.3 x.3,at':=5,cl:=b9},s:= {s with c:=s.4+1,k:=1,a:=x.3,o:=aE s.3 x.3,w:=aE s.3 x.3,ok:=bL s.3 x.3} }
abbrev w1c(n:Int)(s:MS)(t:Int)(x:FNS):Tr FnO:=.ret {d:=false,x:= {x with cw:=aE s.3 x.3,at':=4,cl:=yH t n x.3},s:= {s with c:=s.4+1,k:=1,a:=x.3,o:=aE s.3 x.3,w:=aE s.3 x.3,ok:=bL s.3 x.3} }
abbrev w1d(n:Int)(s:MS)(t:Int)(x:FNS):Tr FnO:=.ret {d:=false,x:= {x with cw:=aE s.3 x.3,at':=4,cl:=yH t n x.1},s:= {s with c:=s.4+1,k:=1,a:=x.3,o:=aE s.3 x.3,w:=aE s.3 x.3,ok:=bL s.3 x.3} }
def BY(t n:Int)(x:FNS)(s:MS):Tr FnO:=.pre (lE' s.3∧(0:Int)≤s.4∧s.4≤(4611686018427387904:Int)) (.pre True (.ite (!ieq (aA (aE s.3 x.3) 19 1) 1) (.ite (ile x.10 (aA (aE s.3 x.3) 0 10)) (.pre ((t=t∧n=n)∧lE' x.6∧(true=false→(3:Int)≠(4:Int))∧lE' s.3) (.ret {d:=true,x:= {x with cw:=aE s.3 x.3,at':=3,cl:=b9},s:= {s with c:=s.4+1,k:=1,a:=x.3,o:=aE s.3 x.3,w:=aE s.3 x.3,ok:=bL s.3 x.3} })) (.ite (!ieq (aA (aE s.3 x.3) 19 1) 1) (.pre ((t=t∧n=n)∧lE' x.6∧(false=false→(6:Int)≠(4:Int))∧lE' s.3) (w1a s x)) (.ite (!ieq (aA (aE s.3 x.3) 20 5) 0) (.pre (pP t n x.3∧True) (.pre ((t=t∧n=n)∧lE' x.6∧t=t∧n=n∧w17∧lE' s.3) (w1c n s t x))) (.pre True (.ite (!ieq (aA x.2 20 5) 0) (.pre (pP t n x.1∧True) (.pre ((t=t∧n=n)∧lE' x.6∧t=t∧n=n∧w17∧lE' s.3) (w1d n s t x))) (.pre ((t=t∧n=n)∧lE' x.6∧(false=false→(5:Int)≠(4:Int))∧lE' s.3) (w1b s x))))))) (.ite (!ieq (aA (aE s.3 x.3) 19 1) 1) (.pre ((t=t∧n=n)∧lE' x.6∧(false=false→(6:Int)≠(4:Int))∧lE' s.3) (w1a s x)) (.ite (!ieq (aA (aE s.3 x.3) 20 5) 0) (.pre (pP t n x.3∧True) (.pre ((t=t∧n=n)∧lE' x.6∧t=t∧n=n∧w17∧lE' s.3) (w1c n s t x))) (.pre True (.ite (!ieq (aA x.2 20 5) 0) (.pre (pP t n x.1∧True) (.pre ((t=t∧n=n)∧lE' x.6∧t=t∧n=n∧w17∧lE' s.3) (w1d n s t x))) (.pre ((t=t∧n=n)∧lE' x.6∧(false=false→(5:Int)≠(4:Int))∧lE' s.3) (w1b s x))))))))
theorem KO(t n:Int)(x:FNS)(s:MS)(K:FnO→Prop)(h:(BY t n x s).run K):cT' 163 [.ptr 0 0,.ptr 1 0] [cE' [.I t,.I n,.I x.pred,.int .u64 x.pw,.I x.curr,.int .u64 x.cw,.I x.tries,.slice 3 0 x.ul.length 1,.bool x.ab,.I x.me,.I x.frm,.I x.key,.I x.limit,.I 3,.I x.moved,.O],aZ 2 s,bA s,iI' x.ul] (bR 3 0 [15] [(.cell 0 7,.ints (some .i64))] (DV t n) K):=by
 exact cM' (E:=EC7) (by kernel_rfl) h
abbrev w19(x:FNS):=ilt x.11 (W (x.5+1))=false→(0:Int)≠(4:Int)
def BZ(t n:Int)(x:FNS)(s:MS):Tr FnO:=.pre (lE' s.3∧NO t n x.14 s) (.ite (oE t n x.14 s).1 (.ite (w14 x) (.pre ((t=t∧n=n)∧lE' x.6∧(w19 x)∧lE' (ClO.s (oE t n x.14 s)).3) (.ret {d:=ilt x.11 (W (x.5+1)),x:= {x with pred:=0,pw:=0,curr:=0,cw:=0,tries:=W (x.5+1),ab:=ilt x.11 (W (x.5+1)),at':=0,cl:=b9},s:=(oE t n x.14 s).3})) (.pre ((t=t∧n=n)∧lE' x.6∧(w19 x)∧lE' (ClO.s (oE t n x.14 s)).3) (.ret {d:=ilt x.11 (W (x.5+1)),x:= {x with tries:=W (x.5+1),ab:=ilt x.11 (W (x.5+1)),at':=0,cl:=b9},s:=(oE t n x.14 s).3}))) (.pre ((t=t∧n=n)∧lE' x.6∧t=t∧n=n∧w17∧lE' (ClO.s (oE t n x.14 s)).3) (.ret {d:=false,x:= {x with at':=4,cl:=(oE t n x.14 s).2},s:=(oE t n x.14 s).3})))
theorem KP(t n:Int)(x:FNS)(s:MS)(K:FnO→Prop)(h:(BZ t n x s).run K):cT' 163 [.ptr 0 0,.ptr 1 0] [cE' [.I t,.I n,.I x.pred,.int .u64 x.pw,.I x.curr,.int .u64 x.cw,.I x.tries,.slice 3 0 x.ul.length 1,.bool x.ab,.I x.me,.I x.frm,.I x.key,.I x.limit,.I 4,.I x.moved,.ptr 4 0],aZ 2 s,bA s,iI' x.ul,some (.abs (.clear t n x.cl) [])] (bR 3 0 [15] [(.cell 0 7,.ints (some .i64))] (DV t n) K):=by
 exact cM' (E:=EC7) (by kernel_rfl) h
abbrev w0w(x:FNS):=aS (aA x.2 25 18)
abbrev w0x(x:FNS):=ieq (aA x.2 19 1) 1
def B0(t n:Int)(x:FNS)(s:MS):Tr FnO:=.pre True (.pre True (.pre ((0:Int)≤aA x.2 25 18∧aA x.2 25 (18:Int)≤(1000000:Int)) (.pre True (.pre ((lE' s.3∧(0:Int)≤s.4∧s.4≤(4611686018427387904:Int))∧True) (.ite (!aU s.3 x.1 x.2) (.ite (w14 x) (.pre ((t=t∧n=n)∧lE' x.6∧(w19 x)∧lE' (bif aU s.3 x.1 x.2 then aV s.3 x.1 (bif bif aL (aA x.2 0 10) 10 then bif aL (aA x.4 10 9) 9 then bif aL (aA x.2 20 5) 5 then aL (w0w x) 18 else false else false else false then cL (aA x.2 0 10) (aA x.4 10 9) (w0x x) (aA x.2 20 5) (w0w x)else 0)else s.3)) (.ret {d:=ilt x.11 (W (x.5+1)),x:= {x with pred:=0,pw:=0,curr:=0,cw:=0,tries:=W (x.5+1),ab:=ilt x.11 (W (x.5+1)),at':=0,cl:=b9},s:= {t:=s.1,n:=s.2,xs:=bif aU s.3 x.1 x.2 then aV s.3 x.1 (bif bif aL (aA x.2 0 10) 10 then bif aL (aA x.4 10 9) 9 then bif aL (aA x.2 20 5) 5 then aL (w0w x) 18 else false else false else false then cL (aA x.2 0 10) (aA x.4 10 9) (w0x x) (aA x.2 20 5) (w0w x)else 0)else s.3,c:=s.4+1,k:=3,a:=x.1,o:=aE s.3 x.1,w:=bif bL s.3 x.1 then bif bif aL (aA x.2 0 10) 10 then bif aL (aA x.4 10 9) 9 then bif aL (aA x.2 20 5) 5 then aL (w0w x) 18 else false else false else false then cL (aA x.2 0 10) (aA x.4 10 9) (w0x x) (aA x.2 20 5) (w0w x)else 0 else 0,ok:=aU s.3 x.1 x.2} })) (.pre ((t=t∧n=n)∧lE' x.6∧(w19 x)∧lE' (bif aU s.3 x.1 x.2 then aV s.3 x.1 (bif bif aL (aA x.2 0 10) 10 then bif aL (aA x.4 10 9) 9 then bif aL (aA x.2 20 5) 5 then aL (w0w x) 18 else false else false else false then cL (aA x.2 0 10) (aA x.4 10 9) (w0x x) (aA x.2 20 5) (w0w x)else 0)else s.3)) (.ret {d:=ilt x.11 (W (x.5+1)),x:= {x with tries:=W (x.5+1),ab:=ilt x.11 (W (x.5+1)),at':=0,cl:=b9},s:= {t:=s.1,n:=s.2,xs:=bif aU s.3 x.1 x.2 then aV s.3 x.1 (bif bif aL (aA x.2 0 10) 10 then bif aL (aA x.4 10 9) 9 then bif aL (aA x.2 20 5) 5 then aL (w0w x) 18 else false else false else false then cL (aA x.2 0 10) (aA x.4 10 9) (w0x x) (aA x.2 20 5) (w0w x)else 0)else s.3,c:=s.4+1,k:=3,a:=x.1,o:=aE s.3 x.1,w:=bif bL s.3 x.1 then bif bif aL (aA x.2 0 10) 10 then bif aL (aA x.4 10 9) 9 then bif aL (aA x.2 20 5) 5 then aL (w0w x) 18 else false else false else false then cL (aA x.2 0 10) (aA x.4 10 9) (w0x x) (aA x.2 20 5) (w0w x)else 0 else 0,ok:=aU s.3 x.1 x.2} }))) (.pre (0=0∧lE' x.6∧1=1∧x.6.length+(1:Nat)≤(4294967296:Nat)) (.ite (ile (W (x.13+1)) n) (.pre True (.ite (ieq (aA (bif bif aL (aA x.2 0 10) 10 then bif aL (aA x.4 10 9) 9 then bif aL (aA x.2 20 5) 5 then aL (w0w x) 18 else false else false else false then cL (aA x.2 0 10) (aA x.4 10 9) (w0x x) (aA x.2 20 5) (w0w x)else 0) 19 1) 1) (.pre ((t=t∧n=n)∧x.6.length+(1:Nat)=List.length (x.6++ [x.3])∧w0y∧lE' (bif aU s.3 x.1 x.2 then aV s.3 x.1 (bif bif aL (aA x.2 0 10) 10 then bif aL (aA x.4 10 9) 9 then bif aL (aA x.2 20 5) 5 then aL (w0w x) 18 else false else false else false then cL (aA x.2 0 10) (aA x.4 10 9) (w0x x) (aA x.2 20 5) (w0w x)else 0)else s.3)) (.ret {d:=false,x:= {x with pred:=x.9,ul:=x.6++ [x.3],at':=0,moved:=0,cl:=b9},s:= {t:=s.1,n:=s.2,xs:=bif aU s.3 x.1 x.2 then aV s.3 x.1 (bif bif aL (aA x.2 0 10) 10 then bif aL (aA x.4 10 9) 9 then bif aL (aA x.2 20 5) 5 then aL (w0w x) 18 else false else false else false then cL (aA x.2 0 10) (aA x.4 10 9) (w0x x) (aA x.2 20 5) (w0w x)else 0)else s.3,c:=s.4+1,k:=3,a:=x.1,o:=aE s.3 x.1,w:=bif bL s.3 x.1 then bif bif aL (aA x.2 0 10) 10 then bif aL (aA x.4 10 9) 9 then bif aL (aA x.2 20 5) 5 then aL (w0w x) 18 else false else false else false then cL (aA x.2 0 10) (aA x.4 10 9) (w0x x) (aA x.2 20 5) (w0w x)else 0 else 0,ok:=aU s.3 x.1 x.2} })) (.pre ((t=t∧n=n)∧x.6.length+(1:Nat)=List.length (x.6++ [x.3])∧(ieq (aA (bif bif aL (aA x.2 0 10) 10 then bif aL (aA x.4 10 9) 9 then bif aL (aA x.2 20 5) 5 then aL (w0w x) 18 else false else false else false then cL (aA x.2 0 10) (aA x.4 10 9) (w0x x) (aA x.2 20 5) (w0w x)else 0) 10 9) (0:Int)=false→(1:Int)≠(4:Int))∧lE' (bif aU s.3 x.1 x.2 then aV s.3 x.1 (bif bif aL (aA x.2 0 10) 10 then bif aL (aA x.4 10 9) 9 then bif aL (aA x.2 20 5) 5 then aL (w0w x) 18 else false else false else false then cL (aA x.2 0 10) (aA x.4 10 9) (w0x x) (aA x.2 20 5) (w0w x)else 0)else s.3)) (.ret {d:=ieq (aA (bif bif aL (aA x.2 0 10) 10 then bif aL (aA x.4 10 9) 9 then bif aL (aA x.2 20 5) 5 then aL (w0w x) 18 else false else false else false then cL (aA x.2 0 10) (aA x.4 10 9) (w0x x) (aA x.2 20 5) (w0w x)else 0) 10 9) 0,x:= {x with pw:=bif bif aL (aA x.2 0 10) 10 then bif aL (aA x.4 10 9) 9 then bif aL (aA x.2 20 5) 5 then aL (w0w x) 18 else false else false else false then cL (aA x.2 0 10) (aA x.4 10 9) (w0x x) (aA x.2 20 5) (w0w x)else 0,curr:=aA (bif bif aL (aA x.2 0 10) 10 then bif aL (aA x.4 10 9) 9 then bif aL (aA x.2 20 5) 5 then aL (w0w x) 18 else false else false else false then cL (aA x.2 0 10) (aA x.4 10 9) (w0x x) (aA x.2 20 5) (w0w x)else 0) 10 9,cw:=0,ul:=x.6++ [x.3],at':=1,moved:=W (x.13+1),cl:=b9},s:= {t:=s.1,n:=s.2,xs:=bif aU s.3 x.1 x.2 then aV s.3 x.1 (bif bif aL (aA x.2 0 10) 10 then bif aL (aA x.4 10 9) 9 then bif aL (aA x.2 20 5) 5 then aL (w0w x) 18 else false else false else false then cL (aA x.2 0 10) (aA x.4 10 9) (w0x x) (aA x.2 20 5) (w0w x)else 0)else s.3,c:=s.4+1,k:=3,a:=x.1,o:=aE s.3 x.1,w:=bif bL s.3 x.1 then bif bif aL (aA x.2 0 10) 10 then bif aL (aA x.4 10 9) 9 then bif aL (aA x.2 20 5) 5 then aL (w0w x) 18 else false else false else false then cL (aA x.2 0 10) (aA x.4 10 9) (w0x x) (aA x.2 20 5) (w0w x)else 0 else 0,ok:=aU s.3 x.1 x.2} })))) (.ite (w14 x) (.ite (w14 x) (.pre ((t=t∧n=n)∧x.6.length+(1:Nat)=List.length (x.6++ [x.3])∧(true=false→(5:Int)≠(4:Int))∧lE' (bif aU s.3 x.1 x.2 then aV s.3 x.1 (bif bif aL (aA x.2 0 10) 10 then bif aL (aA x.4 10 9) 9 then bif aL (aA x.2 20 5) 5 then aL (w0w x) 18 else false else false else false then cL (aA x.2 0 10) (aA x.4 10 9) (w0x x) (aA x.2 20 5) (w0w x)else 0)else s.3)) (.ret {d:=true,x:= {x with pred:=0,pw:=0,curr:=0,cw:=0,tries:=W (x.5+1),ul:=x.6++ [x.3],ab:=ilt x.11 (W (x.5+1)),at':=5,moved:=W (x.13+1),cl:=b9},s:= {t:=s.1,n:=s.2,xs:=bif aU s.3 x.1 x.2 then aV s.3 x.1 (bif bif aL (aA x.2 0 10) 10 then bif aL (aA x.4 10 9) 9 then bif aL (aA x.2 20 5) 5 then aL (w0w x) 18 else false else false else false then cL (aA x.2 0 10) (aA x.4 10 9) (w0x x) (aA x.2 20 5) (w0w x)else 0)else s.3,c:=s.4+1,k:=3,a:=x.1,o:=aE s.3 x.1,w:=bif bL s.3 x.1 then bif bif aL (aA x.2 0 10) 10 then bif aL (aA x.4 10 9) 9 then bif aL (aA x.2 20 5) 5 then aL (w0w x) 18 else false else false else false then cL (aA x.2 0 10) (aA x.4 10 9) (w0x x) (aA x.2 20 5) (w0w x)else 0 else 0,ok:=aU s.3 x.1 x.2} })) (.pre ((t=t∧n=n)∧x.6.length+(1:Nat)=List.length (x.6++ [x.3])∧w0y∧lE' (bif aU s.3 x.1 x.2 then aV s.3 x.1 (bif bif aL (aA x.2 0 10) 10 then bif aL (aA x.4 10 9) 9 then bif aL (aA x.2 20 5) 5 then aL (w0w x) 18 else false else false else false then cL (aA x.2 0 10) (aA x.4 10 9) (w0x x) (aA x.2 20 5) (w0w x)else 0)else s.3)) (.ret {d:=false,x:= {x with pred:=x.9,pw:=0,curr:=0,cw:=0,tries:=W (x.5+1),ul:=x.6++ [x.3],ab:=ilt x.11 (W (x.5+1)),at':=0,moved:=0,cl:=b9},s:= {t:=s.1,n:=s.2,xs:=bif aU s.3 x.1 x.2 then aV s.3 x.1 (bif bif aL (aA x.2 0 10) 10 then bif aL (aA x.4 10 9) 9 then bif aL (aA x.2 20 5) 5 then aL (w0w x) 18 else false else false else false then cL (aA x.2 0 10) (aA x.4 10 9) (w0x x) (aA x.2 20 5) (w0w x)else 0)else s.3,c:=s.4+1,k:=3,a:=x.1,o:=aE s.3 x.1,w:=bif bL s.3 x.1 then bif bif aL (aA x.2 0 10) 10 then bif aL (aA x.4 10 9) 9 then bif aL (aA x.2 20 5) 5 then aL (w0w x) 18 else false else false else false then cL (aA x.2 0 10) (aA x.4 10 9) (w0x x) (aA x.2 20 5) (w0w x)else 0 else 0,ok:=aU s.3 x.1 x.2} }))) (.ite (w14 x) (.pre ((t=t∧n=n)∧x.6.length+(1:Nat)=List.length (x.6++ [x.3])∧(true=false→(5:Int)≠(4:Int))∧lE' (bif aU s.3 x.1 x.2 then aV s.3 x.1 (bif bif aL (aA x.2 0 10) 10 then bif aL (aA x.4 10 9) 9 then bif aL (aA x.2 20 5) 5 then aL (w0w x) 18 else false else false else false then cL (aA x.2 0 10) (aA x.4 10 9) (w0x x) (aA x.2 20 5) (w0w x)else 0)else s.3)) (.ret {d:=true,x:= {x with tries:=W (x.5+1),ul:=x.6++ [x.3],ab:=ilt x.11 (W (x.5+1)),at':=5,moved:=W (x.13+1),cl:=b9},s:= {t:=s.1,n:=s.2,xs:=bif aU s.3 x.1 x.2 then aV s.3 x.1 (bif bif aL (aA x.2 0 10) 10 then bif aL (aA x.4 10 9) 9 then bif aL (aA x.2 20 5) 5 then aL (w0w x) 18 else false else false else false then cL (aA x.2 0 10) (aA x.4 10 9) (w0x x) (aA x.2 20 5) (w0w x)else 0)else s.3,c:=s.4+1,k:=3,a:=x.1,o:=aE s.3 x.1,w:=bif bL s.3 x.1 then bif bif aL (aA x.2 0 10) 10 then bif aL (aA x.4 10 9) 9 then bif aL (aA x.2 20 5) 5 then aL (w0w x) 18 else false else false else false then cL (aA x.2 0 10) (aA x.4 10 9) (w0x x) (aA x.2 20 5) (w0w x)else 0 else 0,ok:=aU s.3 x.1 x.2} })) (.pre ((t=t∧n=n)∧x.6.length+(1:Nat)=List.length (x.6++ [x.3])∧w0y∧lE' (bif aU s.3 x.1 x.2 then aV s.3 x.1 (bif bif aL (aA x.2 0 10) 10 then bif aL (aA x.4 10 9) 9 then bif aL (aA x.2 20 5) 5 then aL (w0w x) 18 else false else false else false then cL (aA x.2 0 10) (aA x.4 10 9) (w0x x) (aA x.2 20 5) (w0w x)else 0)else s.3)) (.ret {d:=false,x:= {x with pred:=x.9,tries:=W (x.5+1),ul:=x.6++ [x.3],ab:=ilt x.11 (W (x.5+1)),at':=0,moved:=0,cl:=b9},s:= {t:=s.1,n:=s.2,xs:=bif aU s.3 x.1 x.2 then aV s.3 x.1 (bif bif aL (aA x.2 0 10) 10 then bif aL (aA x.4 10 9) 9 then bif aL (aA x.2 20 5) 5 then aL (w0w x) 18 else false else false else false then cL (aA x.2 0 10) (aA x.4 10 9) (w0x x) (aA x.2 20 5) (w0w x)else 0)else s.3,c:=s.4+1,k:=3,a:=x.1,o:=aE s.3 x.1,w:=bif bL s.3 x.1 then bif bif aL (aA x.2 0 10) 10 then bif aL (aA x.4 10 9) 9 then bif aL (aA x.2 20 5) 5 then aL (w0w x) 18 else false else false else false then cL (aA x.2 0 10) (aA x.4 10 9) (w0x x) (aA x.2 20 5) (w0w x)else 0 else 0,ok:=aU s.3 x.1 x.2} })))))))))))
theorem KQ(t n:Int)(x:FNS)(s:MS)(K:FnO→Prop)(h:(B0 t n x s).run K):cT' 163 [.ptr 0 0,.ptr 1 0] [cE' [.I t,.I n,.I x.pred,.int .u64 x.pw,.I x.curr,.int .u64 x.cw,.I x.tries,.slice 3 0 x.ul.length 1,.bool x.ab,.I x.me,.I x.frm,.I x.key,.I x.limit,.I 5,.I x.moved,.O],aZ 2 s,bA s,iI' x.ul] (bR 3 0 [15] [(.cell 0 7,.ints (some .i64))] (DV t n) K):=by
 exact cM' (E:=EC7) (by kernel_rfl) h
abbrev w1g(n:Int)(s:MS)(x:FNS):=aV s.3 (2*n+5+2*x.8+0) (WU x.3)
def B1(t n:Int)(x:FNS)(s:MS):Tr FnO:=.pre ((((0:Int)≤t∧t≤(100000:Int))∧((0:Int)≤n∧n≤(100000:Int))∧((-1099511627776:Int)≤x.8∧x.8≤(1099511627776:Int))∧(-1099511627776:Int)≤(0:Int)∧(0:Int)≤(1099511627776:Int))∧True) (.pre ((lE' s.3∧(0:Int)≤s.4∧s.4≤(4611686018427387904:Int))∧True) (.ite (ile (W (x.13+1)) n) (.pre ((t=t∧n=n)∧lE' x.6∧w0y∧lE' (w1g n s x)) (.ret {d:=false,x:= {x with pred:=x.3,at':=0,moved:=W (x.13+1),cl:=b9},s:= {t:=s.1,n:=s.2,xs:=aV s.3 (2*n+5+2*x.8+0) (WU x.3),c:=s.4+1,k:=2,a:=2*n+5+2*x.8+0,o:=aE s.3 (2*n+5+2*x.8+0),w:=bif bL s.3 (2*n+5+2*x.8+0)then WU x.3 else 0,ok:=bL s.3 (2*n+5+2*x.8+0) } })) (.ite (w14 x) (.ite (w14 x) (.pre ((t=t∧n=n)∧lE' x.6∧w1e∧lE' (w1g n s x)) (.ret {d:=true,x:= {x with pred:=0,pw:=0,curr:=0,cw:=0,tries:=W (x.5+1),ab:=ilt x.11 (W (x.5+1)),at':=0,moved:=W (x.13+1),cl:=b9},s:= {t:=s.1,n:=s.2,xs:=aV s.3 (2*n+5+2*x.8+0) (WU x.3),c:=s.4+1,k:=2,a:=2*n+5+2*x.8+0,o:=aE s.3 (2*n+5+2*x.8+0),w:=bif bL s.3 (2*n+5+2*x.8+0)then WU x.3 else 0,ok:=bL s.3 (2*n+5+2*x.8+0) } })) (.pre ((t=t∧n=n)∧lE' x.6∧w0y∧lE' (w1g n s x)) (.ret {d:=false,x:= {x with pred:=x.9,pw:=0,curr:=0,cw:=0,tries:=W (x.5+1),ab:=ilt x.11 (W (x.5+1)),at':=0,moved:=0,cl:=b9},s:= {t:=s.1,n:=s.2,xs:=aV s.3 (2*n+5+2*x.8+0) (WU x.3),c:=s.4+1,k:=2,a:=2*n+5+2*x.8+0,o:=aE s.3 (2*n+5+2*x.8+0),w:=bif bL s.3 (2*n+5+2*x.8+0)then WU x.3 else 0,ok:=bL s.3 (2*n+5+2*x.8+0) } }))) (.ite (w14 x) (.pre ((t=t∧n=n)∧lE' x.6∧w1e∧lE' (w1g n s x)) (.ret {d:=true,x:= {x with pred:=x.3,tries:=W (x.5+1),ab:=ilt x.11 (W (x.5+1)),at':=0,moved:=W (x.13+1),cl:=b9},s:= {t:=s.1,n:=s.2,xs:=aV s.3 (2*n+5+2*x.8+0) (WU x.3),c:=s.4+1,k:=2,a:=2*n+5+2*x.8+0,o:=aE s.3 (2*n+5+2*x.8+0),w:=bif bL s.3 (2*n+5+2*x.8+0)then WU x.3 else 0,ok:=bL s.3 (2*n+5+2*x.8+0) } })) (.pre ((t=t∧n=n)∧lE' x.6∧w0y∧lE' (w1g n s x)) (.ret {d:=false,x:= {x with pred:=x.9,tries:=W (x.5+1),ab:=ilt x.11 (W (x.5+1)),at':=0,moved:=0,cl:=b9},s:= {t:=s.1,n:=s.2,xs:=aV s.3 (2*n+5+2*x.8+0) (WU x.3),c:=s.4+1,k:=2,a:=2*n+5+2*x.8+0,o:=aE s.3 (2*n+5+2*x.8+0),w:=bif bL s.3 (2*n+5+2*x.8+0)then WU x.3 else 0,ok:=bL s.3 (2*n+5+2*x.8+0) } }))))))
theorem KR(t n:Int)(x:FNS)(s:MS)(K:FnO→Prop)(h:(B1 t n x s).run K):cT' 163 [.ptr 0 0,.ptr 1 0] [cE' [.I t,.I n,.I x.pred,.int .u64 x.pw,.I x.curr,.int .u64 x.cw,.I x.tries,.slice 3 0 x.ul.length 1,.bool x.ab,.I x.me,.I x.frm,.I x.key,.I x.limit,.I 6,.I x.moved,.O],aZ 2 s,bA s,iI' x.ul] (bR 3 0 [15] [(.cell 0 7,.ints (some .i64))] (DV t n) K):=by
 exact cM' (E:=EC7) (by kernel_rfl) h
def fnT(t n:Int)(x:FNS)(s:MS):Tr FnO:=
 bif ieq x.at' 0 then BV t n x s else
 bif ieq x.at' 1 then BW t n x s else
 bif ieq x.at' 2 then BX t n x s else
 bif ieq x.at' 3 then BY t n x s else
 bif ieq x.at' 4 then BZ t n x s else
 bif ieq x.at' 5 then B0 t n x s else
 bif ieq x.at' 6 then B1 t n x s else .pre False (.ret default)
def aO(t n:Int)(x:FNS)(s:MS):FnO:=(fnT t n x s).val
def KK(t n:Int)(x:FNS)(s:MS):Prop:=(fnT t n x s).ok
theorem VL(t n:Int)(x:FNS)(s:MS)(K:AVal→aC Ob→Prop)(h:(fnT t n x s).run (fun y=>(FnO.fin t n y).run K)):cT' 163 [.ptr 0 0,.ptr 1 0] (fnH t n x s) K:=by
 unfold fnT at h
 by_cases e:x.at'=0
 ·rw [e]at h;have h:(BV t n x s).run _:=h;refine aIm (root:=0) (pos:=[15]) (cs:=[(.cell 0 7,.ints (some .i64))]) (parse:=DV t n) (fin:=FnO.fin t n) o0 (aT.unpack (.find t n x) 0 0 (kX t n x) [] rfl (congrArg (Prod.mk 0) (iK (by omega))) (by kernel_rfl) rfl) ?_
  have q:=KL t n x s _ h;rw [←e]at q;exact q
 rw [bI e]at h
 by_cases e:x.at'=1
 ·rw [e]at h;have h:(BW t n x s).run _:=h;refine aIm (root:=0) (pos:=[15]) (cs:=[(.cell 0 7,.ints (some .i64))]) (parse:=DV t n) (fin:=FnO.fin t n) o0 (aT.unpack (.find t n x) 0 0 (kX t n x) [] rfl (congrArg (Prod.mk 0) (iK (by omega))) (by kernel_rfl) rfl) ?_
  have q:=KM t n x s _ h;rw [←e]at q;exact q
 rw [bI e]at h
 by_cases e:x.at'=2
 ·rw [e]at h;have h:(BX t n x s).run _:=h;refine aIm (root:=0) (pos:=[15]) (cs:=[(.cell 0 7,.ints (some .i64))]) (parse:=DV t n) (fin:=FnO.fin t n) o0 (aT.unpack (.find t n x) 0 0 (kX t n x) [] rfl (congrArg (Prod.mk 0) (iK (by omega))) (by kernel_rfl) rfl) ?_
  have q:=KN t n x s _ h;rw [←e]at q;exact q
 rw [bI e]at h
 by_cases e:x.at'=3
 ·rw [e]at h;have h:(BY t n x s).run _:=h;refine aIm (root:=0) (pos:=[15]) (cs:=[(.cell 0 7,.ints (some .i64))]) (parse:=DV t n) (fin:=FnO.fin t n) o0 (aT.unpack (.find t n x) 0 0 (kX t n x) [] rfl (congrArg (Prod.mk 0) (iK (by omega))) (by kernel_rfl) rfl) ?_
  have q:=KO t n x s _ h;rw [←e]at q;exact q
 rw [bI e]at h
 by_cases e:x.at'=4
 ·rw [e]at h;have h:(BZ t n x s).run _:=h;refine aIm (root:=0) (pos:=[15]) (cs:=[(.cell 0 7,.ints (some .i64))]) (parse:=DV t n) (fin:=FnO.fin t n) o0 (aT.unpack (.find t n x) 0 0 (pV t n x) [] rfl (congrArg (Prod.mk 0) (HS e)) (by kernel_rfl) rfl) ?_
  have q:=KP t n x s _ h;rw [←e]at q;exact q
 rw [bI e]at h
 by_cases e:x.at'=5
 ·rw [e]at h;have h:(B0 t n x s).run _:=h;refine aIm (root:=0) (pos:=[15]) (cs:=[(.cell 0 7,.ints (some .i64))]) (parse:=DV t n) (fin:=FnO.fin t n) o0 (aT.unpack (.find t n x) 0 0 (kX t n x) [] rfl (congrArg (Prod.mk 0) (iK (by omega))) (by kernel_rfl) rfl) ?_
  have q:=KQ t n x s _ h;rw [←e]at q;exact q
 rw [bI e]at h
 by_cases e:x.at'=6
 ·rw [e]at h;have h:(B1 t n x s).run _:=h;refine aIm (root:=0) (pos:=[15]) (cs:=[(.cell 0 7,.ints (some .i64))]) (parse:=DV t n) (fin:=FnO.fin t n) o0 (aT.unpack (.find t n x) 0 0 (kX t n x) [] rfl (congrArg (Prod.mk 0) (iK (by omega))) (by kernel_rfl) rfl) ?_
  have q:=KR t n x s _ h;rw [←e]at q;exact q
 rw [bI e]at h;exact h.1.elim
noncomputable def fnS:aH Ob:=fun args h=>match args,h with
 | [.ptr 0 0,.ptr 1 0],[some (.abs (.find t n x) []),e1,e2]=>(match cO 2 [e1,e2]with
   | some (l,s)=>some (.pre (l=s.xs.length∧KK t n x s) (FnO.fin t n (aO t n x s)))
   | none=>none)
 | _,_=>none
theorem aEV:sT' 163 fnS:=by
 intro args h o ho K hK;unfold fnS at ho;split at ho
 case h_2=>cases ho
 split at ho<;>cases ho
 rename_i hm;obtain⟨⟨hl,ok⟩,hK⟩:=hK;cases bB hm hl;exact VL _ _ _ _ K (aIp ok hK)
def aBO(t n:Int)(v:AVal)(g:aC Ob):Option (Prop×FNS):=match v,g with
 | .ptr 0 0,[some (.cells [.int .i64 t1,.int .i64 n1,.int .i64 pred,.int .u64 pw,.int .i64 curr,.int .u64 cw,.int .i64 tries,.slice 1 0 ul_l 1,.bool ab,.int .i64 me,.int .i64 frm,.int .i64 key,.int .i64 limit,.int .i64 at',.int .i64 moved,.O]),some (.ints (some .i64) ul)]=>some ((t1=t∧n1=n)∧ul_l=ul.length∧(at'≠4),(⟨pred,pw,curr,cw,tries,ul,ab,me,frm,key,limit,at',moved,⟨0,0,0,0⟩⟩:FNS))
 | _,_=>none
abbrev VG(t n:Int)(y:FNS):aC Ob:=[some (.abs (.find t n y) [])]
theorem VH{t n:Int} :bM (obI tbl) 0 (aBO t n) (fun y=>.ret (.ptr 0 0) (VG t n y)):=by
 intro v g p x hp hq K hK;unfold aBO at hp;split at hp
 case h_2=>cases hp
 rename_i t1 n1 pred pw curr cw tries ul_l ab me frm key limit at' moved ul;cases hp;obtain⟨⟨rfl,rfl⟩,rfl,hat⟩:=hq;exact⟨⟨_,_,aF.pack (VG t1 n1 (⟨pred,pw,curr,cw,tries,ul,ab,me,frm,key,limit,at',moved,⟨0,0,0,0⟩⟩:FNS)) (.find t1 n1 (⟨pred,pw,curr,cw,tries,ul,ab,me,frm,key,limit,at',moved,⟨0,0,0,0⟩⟩:FNS)) 0 0 (kX t1 n1 (⟨pred,pw,curr,cw,tries,ul,ab,me,frm,key,limit,at',moved,⟨0,0,0,0⟩⟩:FNS)) [] (by kernel_rfl) rfl (congrArg (Prod.mk 0) (iK hat)) (by kernel_rfl),hK⟩⟩
abbrev w1h(hd n:Int):=((0:Int)≤n∧n≤(100000:Int))∧(-1000000:Int)≤hd∧hd≤(1000000:Int)
def OX(t n:Int)(me hd key lim:Int):Tr FNS:=.pre (w1h hd n) (.pre (w1h hd n) (.pre ((t=t∧n=n)∧0=0∧(0:Int)≠(4:Int)) (.ret {pred:=n+1+hd,pw:=0,curr:=0,cw:=0,tries:=0,ul:=[],ab:=false,me:=me,frm:=n+1+hd,key:=key,limit:=lim,at':=0,moved:=0,cl:=b9})))
def uI(t n:Int)(me hd key lim:Int):FNS:=(OX t n me hd key lim).val
def oG(t n:Int)(me hd key lim:Int):Prop:=(OX t n me hd key lim).ok
def fnNS:aH Ob:=fun args h=>match args,h with
 | [.agg [.int .i64 t,.int .i64 n],.int .i64 me,.int .i64 hd,.int .i64 key,.int .i64 lim],[]=>some (.pre (oG t n me hd key lim) (.ret (.ptr 0 0) (VG t n (uI t n me hd key lim))))
 | _,_=>none
theorem aBP:sT' 227 fnNS:=by
 intro args h o ho K hK;unfold fnNS at ho;split at ho<;>cases ho
 rename_i t n me hd key lim;obtain⟨ok,hK⟩:=hK;refine aIy (root:=0) (pos:=[15]) (cs:=[(.cell 0 7,.ints (some .i64))]) (parse:=aBO t n) VH ?_;exact cM' (E:=EC7) (q:=(OX t n me hd key lim).run (fun y=>(Out.ret (.ptr 0 0) (VG t n y)).run K)) (by kernel_rfl) (aIp ok hK)
noncomputable def EF:=((EC7.addS 163 fnS aEV).addS 227 fnNS aBP)
def retC:aH Ob:=fun args h=>match args,h with
 | [.ptr 0 0,.slice 2 0 k 1],[e1,e2,some (.cells [.int .i64 p])]=>(match lC 1 [e1,e2]with
   | some (l,t,n,st)=>some (.pre (l=st.R.length∧k=1∧st.R.length+1≤4294967296) (.ret (.tup []) [cE' [.I t,.I n,.I st.me,.I st.sp,.slice 3 0 (st.R.length+1) 1],none,cE' [.I p],iI' (st.R++ [p])]))
   | none=>none)
 | _,_=>none
theorem X9:sT' 164 retC:=by
 intro args h o ho K hK;unfold retC at ho;split at ho
 case h_2=>cases ho
 rename_i k e1 e2 p;split at ho<;>cases ho
 rename_i l t n st hs;obtain⟨⟨hl,rfl,hle⟩,hK⟩:=hK;have hh:=cD hs hl;cases hh;refine aIl (cM' (E:=EF) (q:=(0=0∧lE' st.3∧1=1∧st.3.length+(1:Nat)≤(4294967296:Nat))∧K (.tup []) [cE' [.I t,.I n,.I st.1,.I st.2,.slice 3 0 (st.3.length+1) 1],none,cE' [.I p],iI' (st.3++ [p])]) (by kernel_rfl) ?_)
 exact⟨⟨rfl,rfl,rfl,hle⟩,hK⟩
def retI:aH Ob:=fun args h=>match args,h with
 | [.ptr 0 0,.slice 2 0 k 1],[e1,e2,some (.ints (some .i64) xs)]=>(match lC 1 [e1,e2]with
   | some (l,t,n,st)=>some (.pre (l=st.R.length∧k=xs.length∧st.R.length+xs.length≤4294967296) (.ret (.tup []) [cE' [.I t,.I n,.I st.me,.I st.sp,.slice 3 0 (st.R.length+xs.length) 1],none,iI' xs,iI' (st.R++xs)]))
   | none=>none)
 | _,_=>none
theorem YA:sT' 164 retI:=by
 intro args h o ho K hK;unfold retI at ho;split at ho
 case h_2=>cases ho
 rename_i k e1 e2 xs;split at ho<;>cases ho
 rename_i l t n st hs;obtain⟨⟨hl,rfl,hle⟩,hK⟩:=hK;have hh:=cD hs hl;cases hh;refine aIl (cM' (E:=EF) (q:=(0+xs.length≤xs.length∧0=0∧lE' st.3∧1=1∧st.3.length+xs.length≤(4294967296:Nat))∧K (.tup []) [cE' [.I t,.I n,.I st.1,.I st.2,.slice 3 0 (st.3.length+xs.length) 1],none,iI' xs,iI' (st.3++List.take xs.length (List.drop 0 xs))]) (by kernel_rfl) ?_)
 refine⟨⟨by omega,rfl,rfl,rfl,hle⟩,?_⟩
 rw [List.drop_zero,List.take_length];exact hK
noncomputable def retS:aH Ob:=aH.or retC retI
theorem aC4:sT' 164 retS:=aIJ X9 YA
noncomputable def ER:=EF.addS 164 retS aC4
structure FtO where
 d:Bool
 x:FTS
 st:STS
 s:MS
instance:Inhabited FtO:=⟨⟨false,dD,⟨0,0,[]⟩,⟨0,0,[],0,0,0,0,0,false⟩⟩⟩
instance:Inhabited FTS:=⟨dD⟩
abbrev ftH(t n:Int)(x:FTS)(st:STS)(s:MS):aC Ob:=[some (.abs (.fast t n x) [1]),some (.abs (.store t n st) []),aZ 3 s,bA s]
abbrev ftD(t n:Int)(x:FTS)(st:STS)(s:MS):aC Ob:=[cE' [.ptr 1 0,.I x.code,.bool x.okk,.I x.val,.bool x.failed,.I x.tries,.I x.sh,.I x.kd,.I x.ky,.I x.most,.I x.at',.bool x.p.now,.I x.p.code,.bool x.p.okk,.I x.p.val,.I x.p.addr,.int .u64 x.p.old,.I x.p.nxt,.bool x.p.mark,.I x.p.pops,.O,.O,.O],some (.abs (.store t n st) []),aZ 3 s,bA s]
def FtO.fin(t n:Int)(y:FtO):Out Ob:=.ite y.d (.ret (.bool true) (ftD t n y.x y.st y.s)) (.ret (.bool false) (ftH t n y.x y.st y.s))
def aBV(t n:Int)(v:AVal)(g:aC Ob):Option (Prop×FtO):=match v,g with
 | .bool d,[some (.cells [.ptr 1 0,.int .i64 code,.bool okk,.int .i64 val,.bool failed,.int .i64 tries,.int .i64 sh,.int .i64 kd,.int .i64 ky,.int .i64 most,.int .i64 at',.bool p_now,.int .i64 p_code,.bool p_okk,.int .i64 p_val,.int .i64 p_addr,.int .u64 p_old,.int .i64 p_nxt,.bool p_mark,.int .i64 p_pops,.O,.O,.O]),e1,e3,e4,e2]=>(match lC 4 [e1,e2],cO 3 [e3,e4]with
   | some (l2,t2,n2,st),some (l,s)=>some ((t2=t∧n2=n)∧(d=false→at'≠0∧at'≠1∧at'≠2)∧l=s.xs.length∧l2=st.R.length,⟨d,⟨code,okk,val,failed,tries,sh,kd,ky,most,at',⟨p_now,p_code,p_okk,p_val,p_addr,p_old,p_nxt,p_mark,p_pops⟩,bQ,⟨0,0,0,0⟩,⟨0,0,0,false⟩⟩,st,s⟩)
   | _,_=>none)
 | _,_=>none
def aBW(t n:Int)(v:AVal)(g:aC Ob):Option (Prop×FtO):=match v,g with
 | .bool d,[some (.cells [.ptr 1 0,.int .i64 code,.bool okk,.int .i64 val,.bool failed,.int .i64 tries,.int .i64 sh,.int .i64 kd,.int .i64 ky,.int .i64 most,.int .i64 at',.bool p_now,.int .i64 p_code,.bool p_okk,.int .i64 p_val,.int .i64 p_addr,.int .u64 p_old,.int .i64 p_nxt,.bool p_mark,.int .i64 p_pops,.ptr 4 0,.O,.O]),e1,e3,e4,some (.abs (.find t' n' sub) []),e2]=>(match lC 5 [e1,e2],cO 3 [e3,e4]with
   | some (l2,t2,n2,st),some (l,s)=>some ((t2=t∧n2=n)∧t'=t∧n'=n∧(d=false→at'=0)∧l=s.xs.length∧l2=st.R.length,⟨d,⟨code,okk,val,failed,tries,sh,kd,ky,most,at',⟨p_now,p_code,p_okk,p_val,p_addr,p_old,p_nxt,p_mark,p_pops⟩,sub,⟨0,0,0,0⟩,⟨0,0,0,false⟩⟩,st,s⟩)
   | _,_=>none)
 | _,_=>none
def aBX(t n:Int)(v:AVal)(g:aC Ob):Option (Prop×FtO):=match v,g with
 | .bool d,[some (.cells [.ptr 1 0,.int .i64 code,.bool okk,.int .i64 val,.bool failed,.int .i64 tries,.int .i64 sh,.int .i64 kd,.int .i64 ky,.int .i64 most,.int .i64 at',.bool p_now,.int .i64 p_code,.bool p_okk,.int .i64 p_val,.int .i64 p_addr,.int .u64 p_old,.int .i64 p_nxt,.bool p_mark,.int .i64 p_pops,.O,.ptr 4 0,.O]),e1,e3,e4,some (.abs (.clear t' n' sub) []),e2]=>(match lC 5 [e1,e2],cO 3 [e3,e4]with
   | some (l2,t2,n2,st),some (l,s)=>some ((t2=t∧n2=n)∧t'=t∧n'=n∧(d=false→at'=1)∧l=s.xs.length∧l2=st.R.length,⟨d,⟨code,okk,val,failed,tries,sh,kd,ky,most,at',⟨p_now,p_code,p_okk,p_val,p_addr,p_old,p_nxt,p_mark,p_pops⟩,bQ,sub,⟨0,0,0,false⟩⟩,st,s⟩)
   | _,_=>none)
 | _,_=>none
def aBY(t n:Int)(v:AVal)(g:aC Ob):Option (Prop×FtO):=match v,g with
 | .bool d,[some (.cells [.ptr 1 0,.int .i64 code,.bool okk,.int .i64 val,.bool failed,.int .i64 tries,.int .i64 sh,.int .i64 kd,.int .i64 ky,.int .i64 most,.int .i64 at',.bool p_now,.int .i64 p_code,.bool p_okk,.int .i64 p_val,.int .i64 p_addr,.int .u64 p_old,.int .i64 p_nxt,.bool p_mark,.int .i64 p_pops,.O,.O,.ptr 4 0]),e1,e3,e4,some (.abs (.prepare t' n' sub) [1]),e2]=>(match lC 5 [e1,e2],cO 3 [e3,e4]with
   | some (l2,t2,n2,st),some (l,s)=>some ((t2=t∧n2=n)∧t'=t∧n'=n∧(d=false→at'=2)∧l=s.xs.length∧l2=st.R.length,⟨d,⟨code,okk,val,failed,tries,sh,kd,ky,most,at',⟨p_now,p_code,p_okk,p_val,p_addr,p_old,p_nxt,p_mark,p_pops⟩,bQ,⟨0,0,0,0⟩,sub⟩,st,s⟩)
   | _,_=>none)
 | _,_=>none
def SY(t n:Int)(v:AVal)(g:aC Ob):Option (Prop×FtO):=(match aBV t n v g with
 | some r=>some r
 | none=>(match aBW t n v g with
 | some r=>some r
 | none=>(match aBX t n v g with
 | some r=>some r
 | none=>aBY t n v g)))
theorem VQ{t n:Int} :bM (obI tbl) 4 (aBV t n) (FtO.fin t n):=by
 intro v g p x hp hq K hK;unfold aBV at hp;split at hp
 case h_2=>cases hp
 rename_i d code okk val failed tries sh kd ky most at' p_now p_code p_okk p_val p_addr p_old p_nxt p_mark p_pops e1 e3 e4 e2;split at hp
 case h_2=>cases hp
 rename_i l2 t2 n2 st l s hs hm;cases hp;obtain⟨⟨rfl,rfl⟩,hat,hl,hl2⟩:=hq;cases bB hm hl;cases cD hs hl2;refine fK hK (fun h=>?_) (fun hd h=>?_)
 ·exact tkP h (.store t2 n2 st) 1 0 (dM t2 n2 st) []
 ·exact wD h (.store t2 n2 st) 1 0 (dM t2 n2 st) [] 0 [1] rfl (congrArg (Prod.mk 1) (BS (hat hd)))
theorem VR{t n:Int} :bM (obI tbl) 4 (aBW t n) (FtO.fin t n):=by
 intro v g p x hp hq K hK;unfold aBW at hp;split at hp
 case h_2=>cases hp
 rename_i d code okk val failed tries sh kd ky most at' p_now p_code p_okk p_val p_addr p_old p_nxt p_mark p_pops e1 e3 e4 t' n' sub e2;split at hp
 case h_2=>cases hp
 rename_i l2 t2 n2 st l s hs hm;cases hp;obtain⟨⟨rfl,rfl⟩,rfl,rfl,hat,hl,hl2⟩:=hq;cases bB hm hl;cases cD hs hl2;refine fK hK (fun h=>?_) (fun hd h=>?_)
 ·exact DI h [20,21,22] [0,1,2,3,5] (.store t' n' st) 1 0 (dM t' n' st) []
 ·exact wD h (.store t' n' st) 1 0 (dM t' n' st) [] 0 [1] rfl (congrArg (Prod.mk 1) (yU (hat hd)))
theorem VS{t n:Int} :bM (obI tbl) 4 (aBX t n) (FtO.fin t n):=by
 intro v g p x hp hq K hK;unfold aBX at hp;split at hp
 case h_2=>cases hp
 rename_i d code okk val failed tries sh kd ky most at' p_now p_code p_okk p_val p_addr p_old p_nxt p_mark p_pops e1 e3 e4 t' n' sub e2;split at hp
 case h_2=>cases hp
 rename_i l2 t2 n2 st l s hs hm;cases hp;obtain⟨⟨rfl,rfl⟩,rfl,rfl,hat,hl,hl2⟩:=hq;cases bB hm hl;cases cD hs hl2;refine fK hK (fun h=>?_) (fun hd h=>?_)
 ·exact DI h [20,21,22] [0,1,2,3,5] (.store t' n' st) 1 0 (dM t' n' st) []
 ·exact wD h (.store t' n' st) 1 0 (dM t' n' st) [] 0 [1] rfl (congrArg (Prod.mk 1) (HQ (hat hd)))
theorem VT{t n:Int} :bM (obI tbl) 4 (aBY t n) (FtO.fin t n):=by
 intro v g p x hp hq K hK;unfold aBY at hp;split at hp
 case h_2=>cases hp
 rename_i d code okk val failed tries sh kd ky most at' p_now p_code p_okk p_val p_addr p_old p_nxt p_mark p_pops e1 e3 e4 t' n' sub e2;split at hp
 case h_2=>cases hp
 rename_i l2 t2 n2 st l s hs hm;cases hp;obtain⟨⟨rfl,rfl⟩,rfl,rfl,hat,hl,hl2⟩:=hq;cases bB hm hl;cases cD hs hl2;refine fK hK (fun h=>?_) (fun hd h=>?_)
 ·exact DI h [20,21,22] [0,1,2,3,5] (.store t' n' st) 1 0 (dM t' n' st) []
 ·exact wD h (.store t' n' st) 1 0 (dM t' n' st) [] 0 [1] rfl (congrArg (Prod.mk 1) (HR (hat hd)))
theorem yV{t n:Int} :bM (obI tbl) 4 (SY t n) (FtO.fin t n):=by
 intro v g p x hp hq K hK;unfold SY at hp;split at hp
 ·rename_i r hr;cases hp;exact VQ v g p x hr hq K hK
 split at hp
 ·rename_i r hr;cases hp;exact VR v g p x hr hq K hK
 split at hp
 ·rename_i r hr;cases hp;exact VS v g p x hr hq K hK
 exact VT v g p x hp hq K hK
abbrev w1k(n:Int)(s:MS)(t:Int)(x:FTS):=FnO.x (aO t n x.12 s)
abbrev w1i(n:Int)(s:MS)(st:STS)(t:Int)(x:FTS):=bJ x.6 x.7 x.8 (w1k n s t x).1 (w1k n s t x).2 (w1k n s t x).3 (w1k n s t x).4 st.2
abbrev w1m:=true=false→(0:Int)≠(0:Int)∧(0:Int)≠(1:Int)∧(0:Int)≠(2:Int)
abbrev w1n:=false=false→(3:Int)≠(0:Int)∧(3:Int)≠(1:Int)∧(3:Int)≠(2:Int)
abbrev w1o(s:MS)(st:STS)(x:FTS):Tr FtO:=.ret {d:=true,x:= {x with failed:=true,at':=0,cl:=b9,pr:=dG},st:=st,s:= {s with c:=s.4+1,k:=1,a:=0,o:=aE s.3 0,w:=aE s.3 0,ok:=bL s.3 0} }
abbrev w1p:=false=false→(0:Int)=(0:Int)
abbrev w1q(n:Int)(s:MS)(t:Int)(x:FTS):=FnO.s (aO t n x.12 s)
abbrev w1r:=false=false→(1:Int)=(1:Int)
abbrev w1s:=false=false→(2:Int)=(2:Int)
def B3(t n:Int)(x:FTS)(st:STS)(s:MS):Tr FtO:=.pre True (.ite (!bU x.6 x.7 x.8) (.pre (lE' s.3∧(0:Int)≤s.4∧s.4≤(4611686018427387904:Int)) (.pre ((t=t∧n=n)∧t=t∧n=n∧(true=false→(0:Int)=(0:Int))∧lE' s.3∧lE' st.3) (w1o s st x))) (.pre True (.ite (fW x.7) (.ite (ieq st.2 0) (.pre (lE' s.3∧(0:Int)≤s.4∧s.4≤(4611686018427387904:Int)) (.pre ((t=t∧n=n)∧t=t∧n=n∧(true=false→(0:Int)=(0:Int))∧lE' s.3∧lE' st.3) (w1o s st x))) (.pre (lE' s.3∧KK t n x.12 s) (.ite (aO t n x.12 s).1 (.pre ((lE' st.3∧lE' (w1k n s t x).6∧st.3.length+List.length (w1k n s t x).6≤(4294967296:Nat))∧True) (.ite (ilt x.9 (W (x.5+(w1k n s t x).5))) (.pre ((t=t∧n=n)∧w1m∧lE' (w1q n s t x).3∧st.3.length+List.length (w1k n s t x).6=List.length (st.3++(w1k n s t x).6)) (.ret {d:=true,x:= {x with failed:=ilt x.9 (W (x.5+(w1k n s t x).5)),tries:=W (x.5+(w1k n s t x).5),at':=0,fn:=bQ,cl:=b9,pr:=dG},st:= {me:=st.1,sp:=st.2,R:=st.3++(w1k n s t x).6},s:=(aO t n x.12 s).3})) (.pre (vD x.6 x.7 x.8 (w1k n s t x).1 (w1k n s t x).2 (w1k n s t x).3 (w1k n s t x).4 st.2∧True) (.ite (w1i n s st t x).1 (.pre ((t=t∧n=n)∧w1m∧lE' (w1q n s t x).3∧st.3.length+List.length (w1k n s t x).6=List.length (st.3++(w1k n s t x).6)) (.ret {d:=true,x:= {x with code:=(w1i n s st t x).2,okk:=(w1i n s st t x).3,val:=(w1i n s st t x).4,failed:=ilt x.9 (W (x.5+(w1k n s t x).5)),tries:=W (x.5+(w1k n s t x).5),at':=0,p:=bJ x.6 x.7 x.8 (w1k n s t x).1 (w1k n s t x).2 (w1k n s t x).3 (w1k n s t x).4 st.2,fn:=bQ,cl:=b9,pr:=dG},st:= {me:=st.1,sp:=st.2,R:=st.3++(w1k n s t x).6},s:=(aO t n x.12 s).3})) (.pre (nZ (w1i n s st t x).1 (w1i n s st t x).2 (w1i n s st t x).3 (w1i n s st t x).4 (w1i n s st t x).5 (w1i n s st t x).6 (w1i n s st t x).7 (w1i n s st t x).8 (w1i n s st t x).9) (.ite (zA (w1i n s st t x).1 (w1i n s st t x).2 (w1i n s st t x).3 (w1i n s st t x).4 (w1i n s st t x).5 (w1i n s st t x).6 (w1i n s st t x).7 (w1i n s st t x).8 (w1i n s st t x).9) (.pre (pP t n (w1i n s st t x).5∧True) (.pre ((t=t∧n=n)∧t=t∧n=n∧w1r∧lE' (w1q n s t x).3∧st.3.length+List.length (w1k n s t x).6=List.length (st.3++(w1k n s t x).6)) (.ret {d:=false,x:= {x with failed:=ilt x.9 (W (x.5+(w1k n s t x).5)),tries:=W (x.5+(w1k n s t x).5),at':=1,p:=bJ x.6 x.7 x.8 (w1k n s t x).1 (w1k n s t x).2 (w1k n s t x).3 (w1k n s t x).4 st.2,fn:=bQ,cl:=yH t n (w1i n s st t x).5,pr:=dG},st:= {me:=st.1,sp:=st.2,R:=st.3++(w1k n s t x).6},s:=(aO t n x.12 s).3}))) (.pre True (.ite (fW x.7) (.pre ((st.3.length+List.length (w1k n s t x).6=List.length (st.3++(w1k n s t x).6)∧C7 t n x.8 (w1k n s t x).3 {me:=st.1,sp:=st.2,R:=st.3++(w1k n s t x).6})∧True) (.pre ((t=t∧n=n)∧t=t∧n=n∧w1s∧lE' (w1q n s t x).3∧lE' (Prod.snd (qE t n x.8 (w1k n s t x).3 {me:=st.1,sp:=st.2,R:=st.3++(w1k n s t x).6})).3) (.ret {d:=false,x:= {x with failed:=ilt x.9 (W (x.5+(w1k n s t x).5)),tries:=W (x.5+(w1k n s t x).5),at':=2,p:=bJ x.6 x.7 x.8 (w1k n s t x).1 (w1k n s t x).2 (w1k n s t x).3 (w1k n s t x).4 st.2,fn:=bQ,cl:=b9,pr:=(qE t n x.8 (w1k n s t x).3 {me:=st.1,sp:=st.2,R:=st.3++(w1k n s t x).6}).1},st:=(qE t n x.8 (w1k n s t x).3 {me:=st.1,sp:=st.2,R:=st.3++(w1k n s t x).6}).2,s:=(aO t n x.12 s).3}))) (.pre ((t=t∧n=n)∧w1n∧lE' (w1q n s t x).3∧st.3.length+List.length (w1k n s t x).6=List.length (st.3++(w1k n s t x).6)) (.ret {d:=false,x:= {x with failed:=ilt x.9 (W (x.5+(w1k n s t x).5)),tries:=W (x.5+(w1k n s t x).5),at':=3,p:=bJ x.6 x.7 x.8 (w1k n s t x).1 (w1k n s t x).2 (w1k n s t x).3 (w1k n s t x).4 st.2,fn:=bQ,cl:=b9,pr:=dG},st:= {me:=st.1,sp:=st.2,R:=st.3++(w1k n s t x).6},s:=(aO t n x.12 s).3})))))))))) (.pre ((t=t∧n=n)∧t=t∧n=n∧w1p∧lE' (w1q n s t x).3∧lE' st.3) (.ret {d:=false,x:= {x with at':=0,fn:=(aO t n x.12 s).2,cl:=b9,pr:=dG},st:=st,s:=(aO t n x.12 s).3}))))) (.pre (lE' s.3∧KK t n x.12 s) (.ite (aO t n x.12 s).1 (.pre ((lE' st.3∧lE' (w1k n s t x).6∧st.3.length+List.length (w1k n s t x).6≤(4294967296:Nat))∧True) (.ite (ilt x.9 (W (x.5+(w1k n s t x).5))) (.pre ((t=t∧n=n)∧w1m∧lE' (w1q n s t x).3∧st.3.length+List.length (w1k n s t x).6=List.length (st.3++(w1k n s t x).6)) (.ret {d:=true,x:= {x with failed:=ilt x.9 (W (x.5+(w1k n s t x).5)),tries:=W (x.5+(w1k n s t x).5),at':=0,fn:=bQ,cl:=b9,pr:=dG},st:= {me:=st.1,sp:=st.2,R:=st.3++(w1k n s t x).6},s:=(aO t n x.12 s).3})) (.pre (vD x.6 x.7 x.8 (w1k n s t x).1 (w1k n s t x).2 (w1k n s t x).3 (w1k n s t x).4 st.2∧True) (.ite (w1i n s st t x).1 (.pre ((t=t∧n=n)∧w1m∧lE' (w1q n s t x).3∧st.3.length+List.length (w1k n s t x).6=List.length (st.3++(w1k n s t x).6)) (.ret {d:=true,x:= {x with code:=(w1i n s st t x).2,okk:=(w1i n s st t x).3,val:=(w1i n s st t x).4,failed:=ilt x.9 (W (x.5+(w1k n s t x).5)),tries:=W (x.5+(w1k n s t x).5),at':=0,p:=bJ x.6 x.7 x.8 (w1k n s t x).1 (w1k n s t x).2 (w1k n s t x).3 (w1k n s t x).4 st.2,fn:=bQ,cl:=b9,pr:=dG},st:= {me:=st.1,sp:=st.2,R:=st.3++(w1k n s t x).6},s:=(aO t n x.12 s).3})) (.pre (nZ (w1i n s st t x).1 (w1i n s st t x).2 (w1i n s st t x).3 (w1i n s st t x).4 (w1i n s st t x).5 (w1i n s st t x).6 (w1i n s st t x).7 (w1i n s st t x).8 (w1i n s st t x).9) (.ite (zA (w1i n s st t x).1 (w1i n s st t x).2 (w1i n s st t x).3 (w1i n s st t x).4 (w1i n s st t x).5 (w1i n s st t x).6 (w1i n s st t x).7 (w1i n s st t x).8 (w1i n s st t x).9) (.pre (pP t n (w1i n s st t x).5∧True) (.pre ((t=t∧n=n)∧t=t∧n=n∧w1r∧lE' (w1q n s t x).3∧st.3.length+List.length (w1k n s t x).6=List.length (st.3++(w1k n s t x).6)) (.ret {d:=false,x:= {x with failed:=ilt x.9 (W (x.5+(w1k n s t x).5)),tries:=W (x.5+(w1k n s t x).5),at':=1,p:=bJ x.6 x.7 x.8 (w1k n s t x).1 (w1k n s t x).2 (w1k n s t x).3 (w1k n s t x).4 st.2,fn:=bQ,cl:=yH t n (w1i n s st t x).5,pr:=dG},st:= {me:=st.1,sp:=st.2,R:=st.3++(w1k n s t x).6},s:=(aO t n x.12 s).3}))) (.pre True (.ite (fW x.7) (.pre ((st.3.length+List.length (w1k n s t x).6=List.length (st.3++(w1k n s t x).6)∧C7 t n x.8 (w1k n s t x).3 {me:=st.1,sp:=st.2,R:=st.3++(w1k n s t x).6})∧True) (.pre ((t=t∧n=n)∧t=t∧n=n∧w1s∧lE' (w1q n s t x).3∧lE' (Prod.snd (qE t n x.8 (w1k n s t x).3 {me:=st.1,sp:=st.2,R:=st.3++(w1k n s t x).6})).3) (.ret {d:=false,x:= {x with failed:=ilt x.9 (W (x.5+(w1k n s t x).5)),tries:=W (x.5+(w1k n s t x).5),at':=2,p:=bJ x.6 x.7 x.8 (w1k n s t x).1 (w1k n s t x).2 (w1k n s t x).3 (w1k n s t x).4 st.2,fn:=bQ,cl:=b9,pr:=(qE t n x.8 (w1k n s t x).3 {me:=st.1,sp:=st.2,R:=st.3++(w1k n s t x).6}).1},st:=(qE t n x.8 (w1k n s t x).3 {me:=st.1,sp:=st.2,R:=st.3++(w1k n s t x).6}).2,s:=(aO t n x.12 s).3}))) (.pre ((t=t∧n=n)∧w1n∧lE' (w1q n s t x).3∧st.3.length+List.length (w1k n s t x).6=List.length (st.3++(w1k n s t x).6)) (.ret {d:=false,x:= {x with failed:=ilt x.9 (W (x.5+(w1k n s t x).5)),tries:=W (x.5+(w1k n s t x).5),at':=3,p:=bJ x.6 x.7 x.8 (w1k n s t x).1 (w1k n s t x).2 (w1k n s t x).3 (w1k n s t x).4 st.2,fn:=bQ,cl:=b9,pr:=dG},st:= {me:=st.1,sp:=st.2,R:=st.3++(w1k n s t x).6},s:=(aO t n x.12 s).3})))))))))) (.pre ((t=t∧n=n)∧t=t∧n=n∧w1p∧lE' (w1q n s t x).3∧lE' st.3) (.ret {d:=false,x:= {x with at':=0,fn:=(aO t n x.12 s).2,cl:=b9,pr:=dG},st:=st,s:=(aO t n x.12 s).3})))))))
theorem KS(t n:Int)(x:FTS)(st:STS)(s:MS)(K:FtO→Prop)(h:(B3 t n x st s).run K):cT' 156 [.ptr 0 0,.ptr 2 0] [cE' [.ptr 1 0,.I x.code,.bool x.okk,.I x.val,.bool x.failed,.I x.tries,.I x.sh,.I x.kd,.I x.ky,.I x.most,.I 0,.bool x.p.now,.I x.p.code,.bool x.p.okk,.I x.p.val,.I x.p.addr,.int .u64 x.p.old,.I x.p.nxt,.bool x.p.mark,.I x.p.pops,.ptr 4 0,.O,.O],gV 5 t n st,aZ 3 s,bA s,some (.abs (.find t n x.fn) []),gW st] (bR 4 0 [20,21,22] [(.cell 1 4,.ints (some .i64))] (SY t n) K):=by
 exact cM' (E:=ER) (by kernel_rfl) h
def B4(t n:Int)(x:FTS)(st:STS)(s:MS):Tr FtO:=.pre (lE' s.3∧NO t n x.13 s) (.ite (oE t n x.13 s).1 (.ite (ilt x.9 (W (x.5+1))) (.pre ((t=t∧n=n)∧(true=false→(1:Int)≠(0:Int)∧(1:Int)≠(1:Int)∧(1:Int)≠(2:Int))∧lE' (ClO.s (oE t n x.13 s)).3∧lE' st.3) (.ret {d:=true,x:= {x with failed:=ilt x.9 (W (x.5+1)),tries:=W (x.5+1),at':=1,fn:=bQ,cl:=b9,pr:=dG},st:=st,s:=(oE t n x.13 s).3})) (.pre True (.pre (oG t n st.1 (fJ x.6 x.8) (l8 x.6 x.7 x.8) (W (x.9 - W (x.5+1)))∧True) (.pre ((t=t∧n=n)∧t=t∧n=n∧w1p∧lE' (ClO.s (oE t n x.13 s)).3∧lE' st.3) (.ret {d:=false,x:= {x with failed:=ilt x.9 (W (x.5+1)),tries:=W (x.5+1),at':=0,fn:=uI t n st.1 (fJ x.6 x.8) (l8 x.6 x.7 x.8) (W (x.9 - W (x.5+1))),cl:=b9,pr:=dG},st:=st,s:=(oE t n x.13 s).3}))))) (.pre ((t=t∧n=n)∧t=t∧n=n∧w1r∧lE' (ClO.s (oE t n x.13 s)).3∧lE' st.3) (.ret {d:=false,x:= {x with at':=1,fn:=bQ,cl:=(oE t n x.13 s).2,pr:=dG},st:=st,s:=(oE t n x.13 s).3})))
theorem KT(t n:Int)(x:FTS)(st:STS)(s:MS)(K:FtO→Prop)(h:(B4 t n x st s).run K):cT' 156 [.ptr 0 0,.ptr 2 0] [cE' [.ptr 1 0,.I x.code,.bool x.okk,.I x.val,.bool x.failed,.I x.tries,.I x.sh,.I x.kd,.I x.ky,.I x.most,.I 1,.bool x.p.now,.I x.p.code,.bool x.p.okk,.I x.p.val,.I x.p.addr,.int .u64 x.p.old,.I x.p.nxt,.bool x.p.mark,.I x.p.pops,.O,.ptr 4 0,.O],gV 5 t n st,aZ 3 s,bA s,some (.abs (.clear t n x.cl) []),gW st] (bR 4 0 [20,21,22] [(.cell 1 4,.ints (some .i64))] (SY t n) K):=by
 exact cM' (E:=ER) (by kernel_rfl) h
def B5(t n:Int)(x:FTS)(st:STS)(s:MS):Tr FtO:=.pre ((lE' s.3∧lE' st.3∧t=t∧n=n)∧QJ t n x.14 st s) (.ite (prF t n x.14 st s).1 (.pre ((t=t∧n=n)∧w1n∧lE' (PrO.s (prF t n x.14 st s)).3∧lE' (PrO.st (prF t n x.14 st s)).3) (.ret {d:=false,x:= {x with at':=3,fn:=bQ,cl:=b9,pr:=dG},st:=(prF t n x.14 st s).3,s:=(prF t n x.14 st s).4})) (.pre ((t=t∧n=n)∧t=t∧n=n∧w1s∧lE' (PrO.s (prF t n x.14 st s)).3∧lE' (PrO.st (prF t n x.14 st s)).3) (.ret {d:=false,x:= {x with at':=2,fn:=bQ,cl:=b9,pr:=(prF t n x.14 st s).2},st:=(prF t n x.14 st s).3,s:=(prF t n x.14 st s).4})))
theorem KU(t n:Int)(x:FTS)(st:STS)(s:MS)(K:FtO→Prop)(h:(B5 t n x st s).run K):cT' 156 [.ptr 0 0,.ptr 2 0] [cE' [.ptr 1 0,.I x.code,.bool x.okk,.I x.val,.bool x.failed,.I x.tries,.I x.sh,.I x.kd,.I x.ky,.I x.most,.I 2,.bool x.p.now,.I x.p.code,.bool x.p.okk,.I x.p.val,.I x.p.addr,.int .u64 x.p.old,.I x.p.nxt,.bool x.p.mark,.I x.p.pops,.O,.O,.ptr 4 0],gV 5 t n st,aZ 3 s,bA s,some (.abs (.prepare t n x.pr) [1]),gW st] (bR 4 0 [20,21,22] [(.cell 1 4,.ints (some .i64))] (SY t n) K):=by
 exact cM' (E:=ER) (by kernel_rfl) h
abbrev w1j(x:FTS):=dB (FTS.p x).1 (FTS.p x).2 (FTS.p x).3 (FTS.p x).4 (FTS.p x).5 (FTS.p x).6 (FTS.p x).7 (FTS.p x).8 (FTS.p x).9
abbrev w1l:=true=false→(3:Int)≠(0:Int)∧(3:Int)≠(1:Int)∧(3:Int)≠(2:Int)
def B6(t n:Int)(x:FTS)(st:STS)(s:MS):Tr FtO:=.pre (zC (FTS.p x).1 (FTS.p x).2 (FTS.p x).3 (FTS.p x).4 (FTS.p x).5 (FTS.p x).6 (FTS.p x).7 (FTS.p x).8 (FTS.p x).9∧True) (.pre ((lE' s.3∧(0:Int)≤s.4∧s.4≤(4611686018427387904:Int))∧True) (.ite (!aU s.3 (FTS.p x).5 (FTS.p x).6) (.ite (ilt x.9 (W (x.5+1))) (.pre ((t=t∧n=n)∧w1l∧lE' (bif aU s.3 (FTS.p x).5 (FTS.p x).6 then aV s.3 (FTS.p x).5 (w1j x)else s.3)∧lE' st.3) (.ret {d:=true,x:= {x with failed:=ilt x.9 (W (x.5+1)),tries:=W (x.5+1),at':=3,fn:=bQ,cl:=b9,pr:=dG},st:=st,s:= {t:=s.1,n:=s.2,xs:=bif aU s.3 (FTS.p x).5 (FTS.p x).6 then aV s.3 (FTS.p x).5 (w1j x)else s.3,c:=s.4+1,k:=3,a:=(FTS.p x).5,o:=aE s.3 (FTS.p x).5,w:=bif bL s.3 (FTS.p x).5 then dB (FTS.p x).1 (FTS.p x).2 (FTS.p x).3 (FTS.p x).4 (FTS.p x).5 (FTS.p x).6 (FTS.p x).7 (FTS.p x).8 (FTS.p x).9 else 0,ok:=aU s.3 (FTS.p x).5 (FTS.p x).6} })) (.pre True (.pre (oG t n st.1 (fJ x.6 x.8) (l8 x.6 x.7 x.8) (W (x.9 - W (x.5+1)))∧True) (.pre ((t=t∧n=n)∧t=t∧n=n∧w1p∧lE' (bif aU s.3 (FTS.p x).5 (FTS.p x).6 then aV s.3 (FTS.p x).5 (w1j x)else s.3)∧lE' st.3) (.ret {d:=false,x:= {x with failed:=ilt x.9 (W (x.5+1)),tries:=W (x.5+1),at':=0,fn:=uI t n st.1 (fJ x.6 x.8) (l8 x.6 x.7 x.8) (W (x.9 - W (x.5+1))),cl:=b9,pr:=dG},st:=st,s:= {t:=s.1,n:=s.2,xs:=bif aU s.3 (FTS.p x).5 (FTS.p x).6 then aV s.3 (FTS.p x).5 (w1j x)else s.3,c:=s.4+1,k:=3,a:=(FTS.p x).5,o:=aE s.3 (FTS.p x).5,w:=bif bL s.3 (FTS.p x).5 then dB (FTS.p x).1 (FTS.p x).2 (FTS.p x).3 (FTS.p x).4 (FTS.p x).5 (FTS.p x).6 (FTS.p x).7 (FTS.p x).8 (FTS.p x).9 else 0,ok:=aU s.3 (FTS.p x).5 (FTS.p x).6} }))))) (.pre True (.ite (fW x.7) (.ite (!ieq (FTS.p x).9 0) (.pre ((lE' st.3∧1=1∧st.3.length+(1:Nat)≤(4294967296:Nat))∧True) (.pre ((t=t∧n=n)∧w1l∧lE' (bif aU s.3 (FTS.p x).5 (FTS.p x).6 then aV s.3 (FTS.p x).5 (w1j x)else s.3)∧st.3.length+(1:Nat)=List.length (st.3++ [(FTS.p x).9])) (.ret {d:=true,x:= {x with code:=(FTS.p x).2,okk:=(FTS.p x).3,val:=(FTS.p x).4,at':=3,fn:=bQ,cl:=b9,pr:=dG},st:= {me:=st.1,sp:=0,R:=st.3++ [(FTS.p x).9] },s:= {t:=s.1,n:=s.2,xs:=bif aU s.3 (FTS.p x).5 (FTS.p x).6 then aV s.3 (FTS.p x).5 (w1j x)else s.3,c:=s.4+1,k:=3,a:=(FTS.p x).5,o:=aE s.3 (FTS.p x).5,w:=bif bL s.3 (FTS.p x).5 then dB (FTS.p x).1 (FTS.p x).2 (FTS.p x).3 (FTS.p x).4 (FTS.p x).5 (FTS.p x).6 (FTS.p x).7 (FTS.p x).8 (FTS.p x).9 else 0,ok:=aU s.3 (FTS.p x).5 (FTS.p x).6} }))) (.pre ((t=t∧n=n)∧w1l∧lE' (bif aU s.3 (FTS.p x).5 (FTS.p x).6 then aV s.3 (FTS.p x).5 (w1j x)else s.3)∧lE' st.3) (.ret {d:=true,x:= {x with code:=(FTS.p x).2,okk:=(FTS.p x).3,val:=(FTS.p x).4,at':=3,fn:=bQ,cl:=b9,pr:=dG},st:= {me:=st.1,sp:=0,R:=st.3},s:= {t:=s.1,n:=s.2,xs:=bif aU s.3 (FTS.p x).5 (FTS.p x).6 then aV s.3 (FTS.p x).5 (w1j x)else s.3,c:=s.4+1,k:=3,a:=(FTS.p x).5,o:=aE s.3 (FTS.p x).5,w:=bif bL s.3 (FTS.p x).5 then dB (FTS.p x).1 (FTS.p x).2 (FTS.p x).3 (FTS.p x).4 (FTS.p x).5 (FTS.p x).6 (FTS.p x).7 (FTS.p x).8 (FTS.p x).9 else 0,ok:=aU s.3 (FTS.p x).5 (FTS.p x).6} }))) (.ite (!ieq (FTS.p x).9 0) (.pre ((lE' st.3∧1=1∧st.3.length+(1:Nat)≤(4294967296:Nat))∧True) (.pre ((t=t∧n=n)∧w1l∧lE' (bif aU s.3 (FTS.p x).5 (FTS.p x).6 then aV s.3 (FTS.p x).5 (w1j x)else s.3)∧st.3.length+(1:Nat)=List.length (st.3++ [(FTS.p x).9])) (.ret {d:=true,x:= {x with code:=(FTS.p x).2,okk:=(FTS.p x).3,val:=(FTS.p x).4,at':=3,fn:=bQ,cl:=b9,pr:=dG},st:= {me:=st.1,sp:=st.2,R:=st.3++ [(FTS.p x).9] },s:= {t:=s.1,n:=s.2,xs:=bif aU s.3 (FTS.p x).5 (FTS.p x).6 then aV s.3 (FTS.p x).5 (w1j x)else s.3,c:=s.4+1,k:=3,a:=(FTS.p x).5,o:=aE s.3 (FTS.p x).5,w:=bif bL s.3 (FTS.p x).5 then dB (FTS.p x).1 (FTS.p x).2 (FTS.p x).3 (FTS.p x).4 (FTS.p x).5 (FTS.p x).6 (FTS.p x).7 (FTS.p x).8 (FTS.p x).9 else 0,ok:=aU s.3 (FTS.p x).5 (FTS.p x).6} }))) (.pre ((t=t∧n=n)∧w1l∧lE' (bif aU s.3 (FTS.p x).5 (FTS.p x).6 then aV s.3 (FTS.p x).5 (w1j x)else s.3)∧lE' st.3) (.ret {d:=true,x:= {x with code:=(FTS.p x).2,okk:=(FTS.p x).3,val:=(FTS.p x).4,at':=3,fn:=bQ,cl:=b9,pr:=dG},st:=st,s:= {t:=s.1,n:=s.2,xs:=bif aU s.3 (FTS.p x).5 (FTS.p x).6 then aV s.3 (FTS.p x).5 (w1j x)else s.3,c:=s.4+1,k:=3,a:=(FTS.p x).5,o:=aE s.3 (FTS.p x).5,w:=bif bL s.3 (FTS.p x).5 then dB (FTS.p x).1 (FTS.p x).2 (FTS.p x).3 (FTS.p x).4 (FTS.p x).5 (FTS.p x).6 (FTS.p x).7 (FTS.p x).8 (FTS.p x).9 else 0,ok:=aU s.3 (FTS.p x).5 (FTS.p x).6} })))))))
theorem KV(t n:Int)(x:FTS)(st:STS)(s:MS)(K:FtO→Prop)(h:(B6 t n x st s).run K):cT' 156 [.ptr 0 0,.ptr 2 0] [cE' [.ptr 1 0,.I x.code,.bool x.okk,.I x.val,.bool x.failed,.I x.tries,.I x.sh,.I x.kd,.I x.ky,.I x.most,.I 3,.bool x.p.now,.I x.p.code,.bool x.p.okk,.I x.p.val,.I x.p.addr,.int .u64 x.p.old,.I x.p.nxt,.bool x.p.mark,.I x.p.pops,.O,.O,.O],gV 4 t n st,aZ 3 s,bA s,gW st] (bR 4 0 [20,21,22] [(.cell 1 4,.ints (some .i64))] (SY t n) K):=by
 exact cM' (E:=ER) (by kernel_rfl) h
def ftT(t n:Int)(x:FTS)(st:STS)(s:MS):Tr FtO:=
 bif ieq x.at' 0 then B3 t n x st s else
 bif ieq x.at' 1 then B4 t n x st s else
 bif ieq x.at' 2 then B5 t n x st s else
 bif ieq x.at' 3 then B6 t n x st s else .pre False (.ret default)
def hO(t n:Int)(x:FTS)(st:STS)(s:MS):FtO:=(ftT t n x st s).val
def VP(t n:Int)(x:FTS)(st:STS)(s:MS):Prop:=(ftT t n x st s).ok
theorem HT(t n:Int)(x:FTS)(st:STS)(s:MS)(K:AVal→aC Ob→Prop)(h:(ftT t n x st s).run (fun y=>(FtO.fin t n y).run K)):cT' 156 [.ptr 0 0,.ptr 2 0] (ftH t n x st s) K:=by
 unfold ftT at h
 by_cases e:x.at'=0
 ·rw [e]at h;have h:(B3 t n x st s).run _:=h;refine aIm (root:=0) (pos:=[20,21,22]) (cs:=[(.cell 1 4,.ints (some .i64))]) (parse:=SY t n) (fin:=FtO.fin t n) yV ((aT.unpack (.fast t n x) 0 1 (pU t n x) [1] rfl (congrArg (Prod.mk 1) (yU e)) (by kernel_rfl) rfl).trans (aT.unpack (.store t n st) 1 0 (dM t n st) [] rfl rfl rfl rfl)) ?_
  have q:=KS t n x st s _ h;rw [←e]at q;exact q
 rw [bI e]at h
 by_cases e:x.at'=1
 ·rw [e]at h;have h:(B4 t n x st s).run _:=h;refine aIm (root:=0) (pos:=[20,21,22]) (cs:=[(.cell 1 4,.ints (some .i64))]) (parse:=SY t n) (fin:=FtO.fin t n) yV ((aT.unpack (.fast t n x) 0 1 (uE t n x) [1] rfl (congrArg (Prod.mk 1) (HQ e)) (by kernel_rfl) rfl).trans (aT.unpack (.store t n st) 1 0 (dM t n st) [] rfl rfl rfl rfl)) ?_
  have q:=KT t n x st s _ h;rw [←e]at q;exact q
 rw [bI e]at h
 by_cases e:x.at'=2
 ·rw [e]at h;have h:(B5 t n x st s).run _:=h;refine aIm (root:=0) (pos:=[20,21,22]) (cs:=[(.cell 1 4,.ints (some .i64))]) (parse:=SY t n) (fin:=FtO.fin t n) yV ((aT.unpack (.fast t n x) 0 1 (uF t n x) [1] rfl (congrArg (Prod.mk 1) (HR e)) (by kernel_rfl) rfl).trans (aT.unpack (.store t n st) 1 0 (dM t n st) [] rfl rfl rfl rfl)) ?_
  have q:=KU t n x st s _ h;rw [←e]at q;exact q
 rw [bI e]at h
 by_cases e:x.at'=3
 ·rw [e]at h;have h:(B6 t n x st s).run _:=h;refine aIm (root:=0) (pos:=[20,21,22]) (cs:=[(.cell 1 4,.ints (some .i64))]) (parse:=SY t n) (fin:=FtO.fin t n) yV ((aT.unpack (.fast t n x) 0 1 (FF t n x) [1] rfl (congrArg (Prod.mk 1) (BS ⟨(by omega),(by omega),(by omega)⟩)) (by kernel_rfl) rfl).trans (aT.unpack (.store t n st) 1 0 (dM t n st) [] rfl rfl rfl rfl)) ?_
  have q:=KV t n x st s _ h;rw [←e]at q;exact q
 rw [bI e]at h;exact h.1.elim
noncomputable def ftSA:aH Ob:=fun args h=>match args,h with
 | [.ptr 0 0,.ptr 2 0],[some (.abs (.fast t n x) [1]),some (.abs (.store t2 n2 st) []),e3,e4]=>(match cO 3 [e3,e4]with
   | some (l,s)=>some (.pre ((l=s.xs.length∧t2=t∧n2=n)∧VP t n x st s) (FtO.fin t n (hO t n x st s)))
   | none=>none)
 | _,_=>none
theorem aBZ:sT' 156 ftSA:=by
 intro args h o ho K hK;unfold ftSA at ho;split at ho
 case h_2=>cases ho
 split at ho<;>cases ho
 rename_i hm;obtain⟨⟨⟨hl,rfl,rfl⟩,ok⟩,hK⟩:=hK;cases bB hm hl;exact HT _ _ _ _ _ K (aIp ok hK)
def FtO.finB(t n:Int)(y:FtO):Out Ob:=.ite y.d (.ret (.bool true) ([cE' [.ptr 1 0,.I y.x.code,.bool y.x.okk,.I y.x.val,.bool y.x.failed,.I y.x.tries,.I y.x.sh,.I y.x.kd,.I y.x.ky,.I y.x.most,.I y.x.at',.bool y.x.p.now,.I y.x.p.code,.bool y.x.p.okk,.I y.x.p.val,.I y.x.p.addr,.int .u64 y.x.p.old,.I y.x.p.nxt,.bool y.x.p.mark,.I y.x.p.pops,.O,.O,.O],gV 5 t n y.st,none,aZ 4 y.s,bA y.s,gW y.st])) (.ret (.bool false) [some (.abs (.fast t n y.x) [1]),gV 5 t n y.st,none,aZ 4 y.s,bA y.s,gW y.st])
noncomputable def ftSB:aH Ob:=fun args h=>match args,h with
 | [.ptr 0 0,.ptr 3 0],[some (.abs (.fast t n x) [1]),e1,e2,e3,e4]=>(match lC 2 [e1,e2],cO 4 [e3,e4]with
   | some (l2,t2,n2,st),some (l,s)=>some (.pre ((l=s.xs.length∧l2=st.R.length∧t2=t∧n2=n)∧VP t n x st s) (FtO.finB t n (hO t n x st s)))
   | _,_=>none)
 | _,_=>none
theorem aB0:sT' 156 ftSB:=by
 intro args h o ho K hK;unfold ftSB at ho;split at ho
 case h_2=>cases ho
 split at ho<;>cases ho
 rename_i hs hm;obtain⟨⟨⟨hl,hl2,rfl,rfl⟩,ok⟩,hK⟩:=hK;cases bB hm hl;cases cD hs hl2;exact jM (fun ι hι=>by simp [aG.ren,aIA,AVal.ren,hι]) (fun ι hι=>by simp [aG.ren,hι]) (fun K hK=>HT _ _ _ _ _ K (aIp ok hK)) K hK
noncomputable def ftS:aH Ob:=aH.or ftSA ftSB
theorem aEY:sT' 156 ftS:=aIJ aBZ aB0
def aBT(t n:Int)(v:AVal)(g:aC Ob):Option (Prop×(FTS×STS)):=match v,g with
 | .ptr 2 0,[e1,e2,some (.cells [.ptr 0 0,.int .i64 code,.bool okk,.int .i64 val,.bool failed,.int .i64 tries,.int .i64 sh,.int .i64 kd,.int .i64 ky,.int .i64 most,.int .i64 at',.bool p_now,.int .i64 p_code,.bool p_okk,.int .i64 p_val,.int .i64 p_addr,.int .u64 p_old,.int .i64 p_nxt,.bool p_mark,.int .i64 p_pops,.ptr 3 0,.O,.O]),some (.abs (.find t' n' sub) [])]=>(match lC 1 [e1,e2]with
   | some (l2,t2,n2,st)=>some ((t2=t∧n2=n∧l2=st.R.length)∧t'=t∧n'=n∧at'=0,⟨(⟨code,okk,val,failed,tries,sh,kd,ky,most,at',⟨p_now,p_code,p_okk,p_val,p_addr,p_old,p_nxt,p_mark,p_pops⟩,sub,⟨0,0,0,0⟩,⟨0,0,0,false⟩⟩:FTS),st⟩)
   | none=>none)
 | _,_=>none
abbrev VM(t n:Int)(y:(FTS×STS)):aC Ob:=[gV 1 t n y.2,gW y.2,some (.abs (.fast t n y.1) [0])]
theorem VN{t n:Int} :bM (obI tbl) 2 (aBT t n) (fun y=>.ret (.ptr 2 0) (VM t n y)):=by
 intro v g p x hp hq K hK;unfold aBT at hp;split at hp
 case h_2=>cases hp
 rename_i e1 e2 code okk val failed tries sh kd ky most at' p_now p_code p_okk p_val p_addr p_old p_nxt p_mark p_pops t' n' sub;split at hp
 case h_2=>cases hp
 rename_i l2 t2 n2 st hs;cases hp;obtain⟨⟨rfl,rfl,hl2⟩,rfl,rfl,hat⟩:=hq;cases cD hs hl2;exact let X0:FTS:=⟨code,okk,val,failed,tries,sh,kd,ky,most,at',⟨p_now,p_code,p_okk,p_val,p_addr,p_old,p_nxt,p_mark,p_pops⟩,sub,⟨0,0,0,0⟩,⟨0,0,0,false⟩⟩;⟨⟨_,_,aF.pack (VM t' n' (X0,st)) (.fast t' n' X0) 2 1 (pU t' n' X0) [0] (by kernel_rfl) rfl (congrArg (Prod.mk 1) (yU hat)) (by kernel_rfl),hK⟩⟩
def OY(t n:Int)(sh kd ky most:Int)(st:STS):Tr (FTS×STS):=.pre True (.pre (oG t n st.1 (fJ sh ky) (l8 sh kd ky) (W (most - 0))∧True) (.pre ((t=t∧n=n∧lE' st.3)∧t=t∧n=n∧(0:Int)=(0:Int)) (.ret ({code:=0,okk:=false,val:=0,failed:=false,tries:=0,sh:=sh,kd:=kd,ky:=ky,most:=most,at':=0,p:=aEm,fn:=uI t n st.1 (fJ sh ky) (l8 sh kd ky) (W (most - 0)),cl:=b9,pr:=dG},st))))
def jU(t n:Int)(sh kd ky most:Int)(st:STS):(FTS×STS):=(OY t n sh kd ky most st).val
def uJ(t n:Int)(sh kd ky most:Int)(st:STS):Prop:=(OY t n sh kd ky most st).ok
def ftNS:aH Ob:=fun args h=>match args,h with
 | [.ptr 0 0,.agg [.int .i64 sh,.int .i64 kd,.int .i64 ky],.int .i64 most],[e1,e2]=>(match lC 1 [e1,e2]with
   | some (l2,t,n,st)=>some (.pre (l2=st.R.length∧uJ t n sh kd ky most st) (.ret (.ptr 2 0) (VM t n (jU t n sh kd ky most st))))
   | none=>none)
 | _,_=>none
theorem aBU:sT' 253 ftNS:=by
 intro args h o ho K hK;unfold ftNS at ho;split at ho
 case h_2=>cases ho
 rename_i sh kd ky most e1 e2;split at ho<;>cases ho
 rename_i l2 t n st hs;obtain⟨⟨hl2,ok⟩,hK⟩:=hK;cases cD hs hl2;refine aIy (root:=2) (pos:=[20,21,22]) (cs:=[]) (parse:=aBT t n) VN ?_;exact cM' (E:=ER) (q:=(OY t n sh kd ky most st).run (fun y=>(Out.ret (.ptr 2 0) (VM t n y)).run K)) (by kernel_rfl) (aIp ok hK)
noncomputable def ET:=((ER.addS 156 ftS aEY).addS 253 ftNS aBU)
def FO:bF Ob:=fun args h=>match args,h with
 | [.ptr 0 0],[some (.cells [.ptr 1 0,.int .i64 u,.int .u64 no,.int .i64 rounds,.int .i64 limit,.int .i64 at',.int .u64 found,.int .i64 sh,.int .i64 kd,.int .i64 ky,.bool p_now,.int .i64 p_code,.bool p_okk,.int .i64 p_val,.int .i64 p_addr,.int .u64 p_old,.int .i64 p_nxt,.bool p_mark,.int .i64 p_pops,.O,.O,.O,.O,.O]),some (.cells [.int .i64 t,.int .i64 n,.int .i64 me,.int .i64 sp,.slice 2 0 k 1]),some (.ints (some .i64) R)]=>some (True,.agg [.I (aA found 0 12),.I (aA found 12 9),.I (aA found 21 18),.I (aA found 39 9),.bool (ieq (aA found 48 1) 1),.I (aA found 49 3),.I (aA found 52 10)])
 | _,_=>none
theorem PA:sT' 196 FO.spec:=by
 intro args h o ho K hK;unfold bF.spec FO at ho;split at ho
 case h_2=>cases ho
 rename_i p v hp;split at hp
 case h_2=>cases hp
 rename_i u no rounds limit at' found sh kd ky p_now p_code p_okk p_val p_addr p_old p_nxt p_mark p_pops t n me sp k R;cases hp;simp only [sI']at ho;subst ho;obtain⟨hp,hK⟩:=hK;have hK:K (.agg [.I (aA found 0 12),.I (aA found 12 9),.I (aA found 21 18),.I (aA found 39 9),.bool (ieq (aA found 48 1) 1),.I (aA found 49 3),.I (aA found 52 10)]) [cE' [.ptr 1 0,.I u,.int .u64 no,.I rounds,.I limit,.I at',.int .u64 found,.I sh,.I kd,.I ky,.bool p_now,.I p_code,.bool p_okk,.I p_val,.I p_addr,.int .u64 p_old,.I p_nxt,.bool p_mark,.I p_pops,.O,.O,.O,.O,.O],cE' [.I t,.I n,.I me,.I sp,.slice 2 0 k 1],iI' R]:=hK;refine aIl (cM' (E:=ET) (q:=True∧K (.agg [.I (aA found 0 12),.I (aA found 12 9),.I (aA found 21 18),.I (aA found 39 9),.bool (ieq (aA found 48 1) 1),.I (aA found 49 3),.I (aA found 52 10)]) [cE' [.ptr 1 0,.I u,.int .u64 no,.I rounds,.I limit,.I at',.int .u64 found,.I sh,.I kd,.I ky,.bool p_now,.I p_code,.bool p_okk,.I p_val,.I p_addr,.int .u64 p_old,.I p_nxt,.bool p_mark,.I p_pops,.O,.O,.O,.O,.O],cE' [.I t,.I n,.I me,.I sp,.slice 2 0 k 1],iI' R]) (by kernel_rfl) ?_)
 exact⟨trivial,hK⟩
noncomputable def EH0:=ET.addR 196 FO PA
end Go.Sh
