import Derived.Test.YteindpciaceeeaaGreatZM36toGC4
set_option linter.all false
set_option maxHeartbeats 8000000
namespace Go.Sh
open Go Go.Proofs
variable [Con]
structure AwO where
 d:Bool
 x:AWS
 s:MS
instance:Inhabited AwO:=⟨⟨false,⟨0,false,0,0⟩,⟨0,0,[],0,0,0,0,0,false⟩⟩⟩
instance:Inhabited AWS:=⟨⟨0,false,0,0⟩⟩
abbrev awH(t n:Int)(x:AWS)(s:MS):aC Ob:=[some (.abs (.answer t n x) []),aX 2 s,aY s]
abbrev awD(t n:Int)(x:AWS)(s:MS):aC Ob:=[cE' [.I t,.I n,.I x.code,.bool x.okk,.I x.val,.I x.me],aX 2 s,aY s]
def AwO.fin(t n:Int)(y:AwO):Out Ob:=.ite y.d (.ret (.bool true) (awD t n y.x y.s)) (.ret (.bool false) (awH t n y.x y.s))
def aB4(t n:Int)(v:AVal)(g:aC Ob):Option (Prop×AwO):=match v,g with
 | .bool d,[some (.cells [.int .i64 t1,.int .i64 n1,.int .i64 code,.bool okk,.int .i64 val,.int .i64 me]),e1,e2]=>(match cJ 2 [e1,e2]with
   | some (l,s)=>some ((t1=t/\n1=n)/\l=s.xs.length,⟨d,⟨code,okk,val,me⟩,s⟩)
   | none=>none)
 | _,_=>none
def awP(t n:Int)(v:AVal)(g:aC Ob):Option (Prop×AwO):=aB4 t n v g
theorem U9{t n:Int} :bO (obI tbl) 3 (aB4 t n) (AwO.fin t n):=by
 intro v g p x hp hq K hK;unfold aB4 at hp;split at hp
 case h_2=>cases hp
 rename_i d t1 n1 code okk val me e1 e2;split at hp
 case h_2=>cases hp
 rename_i l s hm;cases hp;obtain⟨⟨rfl,rfl⟩,hl⟩:=hq;cases aZ hm hl;refine qT hK (fun h=>?_) (fun h=>?_)
 ·exact⟨⟨_,_,aKi _ _ _,h⟩⟩
 ·exact⟨⟨_,_,(aF.pack (awH t1 n1 (⟨code,okk,val,me⟩:AWS) s) (.answer t1 n1 (⟨code,okk,val,me⟩:AWS)) 0 0 (pX t1 n1 (⟨code,okk,val,me⟩:AWS)) [] (by kernel_rfl) rfl (congrArg (Prod.mk 0) rfl) (by kernel_rfl)),h⟩⟩
theorem aB5{t n:Int} :bO (obI tbl) 3 (awP t n) (AwO.fin t n):=by
 intro v g p x hp hq K hK;unfold awP at hp;exact U9 v g p x hp hq K hK
abbrev w0a(n:Int)(s:MS)(t:Int)(x:AWS):=aE s.3 (2*n+5+2*t+3*x.4+2)
def VA(t n:Int)(x:AWS)(s:MS):Tr AwO:=.pre ((((0:Int)<=t/\t<=(100000:Int))/\((0:Int)<=n/\n<=(100000:Int))/\(-1099511627776:Int)<=x.4/\x.4<=(1099511627776:Int))/\True) (.pre ((q9' s)/\True) (.pre True (.pre True (.pre ((t=t/\n=n)/\lE' s.3) (.ret {d:=true,x:= {code:=resC (aB (w0a n s t x) 39 9) (aB (w0a n s t x) 49 3),okk:=ZO (aB (w0a n s t x) 39 9) (aB (w0a n s t x) 49 3) (ieq (aB (w0a n s t x) 48 1) 1),val:=ZP (aB (w0a n s t x) 39 9) (aB (w0a n s t x) 49 3) (aB (w0a n s t x) 52 10),me:=x.4},s:=(dU s (2*n+5+2*t+3*x.4+2)) })))))
theorem OQ(t n:Int)(x:AWS)(s:MS)(K:AwO->Prop)(h:(VA t n x s).run K):cT' 161 [.ptr 0 0,.ptr 1 0] [cE' [.I t,.I n,.I x.code,.bool x.okk,.I x.val,.I x.me],aX 2 s,aY s] (bS 3 0 [] [] (awP t n) K):=by
 exact cM' (E:=EC4) (by kernel_rfl) h
def awT(t n:Int)(x:AWS)(s:MS):Tr AwO:=VA t n x s
def sI(t n:Int)(x:AWS)(s:MS):AwO:=(awT t n x s).val
def aB3(t n:Int)(x:AWS)(s:MS):Prop:=(awT t n x s).ok
theorem VB(t n:Int)(x:AWS)(s:MS)(K:AVal->aC Ob->Prop)(h:(awT t n x s).run (fun y=>(AwO.fin t n y).run K)):cT' 161 [.ptr 0 0,.ptr 1 0] (awH t n x s) K:=by
 unfold awT at h;exact aJ2 (root:=0) (pos:=[]) (cs:=[]) (parse:=awP t n) (fin:=AwO.fin t n) aB5 (aQ.unpack (.answer t n x) 0 0 (pX t n x) [] rfl (congrArg (Prod.mk 0) rfl) (by kernel_rfl) rfl) (OQ t n x s _ h)
noncomputable def awS:aH Ob:=fun args h=>match args,h with
 | [.ptr 0 0,.ptr 1 0],[some (.abs (.answer t n x) []),e1,e2]=>(match cJ 2 [e1,e2]with
   | some (l,s)=>some (.pre (l=s.xs.length/\aB3 t n x s) (AwO.fin t n (sI t n x s)))
   | none=>none)
 | _,_=>none
theorem aFN:sT' 161 awS:=by
 intro args h o ho K hK;unfold awS at ho;split at ho
 case h_2=>cases ho
 split at ho<;>cases ho
 rename_i hm;obtain⟨⟨hl,ok⟩,hK⟩:=hK;cases aZ hm hl;exact VB _ _ _ _ K (aJ5 ok hK)
def aB0(t n:Int)(v:AVal)(g:aC Ob):Option (Prop×AWS):=match v,g with
 | .ptr 0 0,[some (.cells [.int .i64 t1,.int .i64 n1,.int .i64 code,.bool okk,.int .i64 val,.int .i64 me])]=>some ((t1=t/\n1=n),(⟨code,okk,val,me⟩:AWS))
 | _,_=>none
abbrev U6(t n:Int)(y:AWS):aC Ob:=[some (.abs (.answer t n y) [])]
theorem U7{t n:Int} :bO (obI tbl) 0 (aB0 t n) (fun y=>.ret (.ptr 0 0) (U6 t n y)):=by
 intro v g p x hp hq K hK;unfold aB0 at hp;split at hp
 case h_2=>cases hp
 rename_i t1 n1 code okk val me;cases hp;obtain⟨rfl,rfl⟩:=hq;exact⟨⟨_,_,aF.pack (U6 t1 n1 (⟨code,okk,val,me⟩:AWS)) (.answer t1 n1 (⟨code,okk,val,me⟩:AWS)) 0 0 (pX t1 n1 (⟨code,okk,val,me⟩:AWS)) [] (by kernel_rfl) rfl (congrArg (Prod.mk 0) rfl) (by kernel_rfl),hK⟩⟩
def aB1(t n:Int)(u:Int):Tr AWS:=.pre (t=t/\n=n) (.ret {code:=0,okk:=false,val:=0,me:=u})
def aBZ(t n:Int)(u:Int):AWS:=(aB1 t n u).val
def OP(t n:Int)(u:Int):Prop:=(aB1 t n u).ok
def awNS:aH Ob:=fun args h=>match args,h with
 | [.agg [.int .i64 t,.int .i64 n],.int .i64 u],[]=>some (.pre (OP t n u) (.ret (.ptr 0 0) (U6 t n (aBZ t n u))))
 | _,_=>none
theorem aB2:sT' 160 awNS:=by
 intro args h o ho K hK;unfold awNS at ho;split at ho<;>cases ho
 rename_i t n u;obtain⟨ok,hK⟩:=hK;refine aKf (root:=0) (pos:=[]) (cs:=[]) (parse:=aB0 t n) U7 ?_;exact cM' (E:=EC4) (q:=(aB1 t n u).run (fun y=>(Out.ret (.ptr 0 0) (U6 t n y)).run K)) (by kernel_rfl) (aJ5 ok hK)
noncomputable def EC5:=((EC4.addS 161 awS aFN).addS 160 awNS aB2)
def HN:bE Ob:=fun args h=>match args,h with
 | [.ptr 0 0],[some (.cells [.int .i64 t,.int .i64 n,.int .i64 pop,.int .i64 gave,.int .i64 u,.int .i64 sh,.int .i64 kd,.int .i64 ky,.bool only,.int .i64 att,.int .i64 at',.int .u64 found,.int .u64 word])]=>some (True,.agg [.I (aB found 0 12),.I (aB found 12 9),.I (aB found 21 18),.I (aB found 39 9),.bool (ieq (aB found 48 1) 1),.I (aB found 49 3),.I (aB found 52 10)])
 | _,_=>none
theorem TP:sT' 281 HN.spec:=by
 intro args h o ho K hK;unfold bE.spec HN at ho;split at ho
 case h_2=>cases ho
 rename_i p v hp;split at hp
 case h_2=>cases hp
 rename_i t n pop gave u sh kd ky only att at' found word;cases hp;simp only [sI']at ho;subst ho;obtain⟨hp,hK⟩:=hK;have hK:K (.agg [.I (aB found 0 12),.I (aB found 12 9),.I (aB found 21 18),.I (aB found 39 9),.bool (ieq (aB found 48 1) 1),.I (aB found 49 3),.I (aB found 52 10)]) [cE' [.I t,.I n,.I pop,.I gave,.I u,.I sh,.I kd,.I ky,.bool only,.I att,.I at',.int .u64 found,.int .u64 word]]:=hK;refine aJ1 (cM' (E:=EC5) (q:=True/\K (.agg [.I (aB found 0 12),.I (aB found 12 9),.I (aB found 21 18),.I (aB found 39 9),.bool (ieq (aB found 48 1) 1),.I (aB found 49 3),.I (aB found 52 10)]) [cE' [.I t,.I n,.I pop,.I gave,.I u,.I sh,.I kd,.I ky,.bool only,.I att,.I at',.int .u64 found,.int .u64 word]]) (by kernel_rfl) ?_)
 exact⟨trivial,hK⟩
noncomputable def EX1:=EC5.addR 281 HN TP
def TQ(t n pop gave u sh kd ky:Int)(only:Bool)(att at' found word:Int)(k y:Int)(m:Bool)(c v:Int)(s:MS):Out Ob:=.pre True (.pre True (.pre ((q9' s)/\True) (.ret (.bool (bJ s.3 (aB found 12 9) word)) [cE' [.I t,.I n,.I pop,.I gave,.I u,.I sh,.I kd,.I ky,.bool only,.I att,.I at',.int .u64 found,.int .u64 word],cE' [.I s.1,.I s.2,.slice 2 0 (List.length (bif bJ s.3 (aB found 12 9) word then bA s.3 (aB found 12 9) (bif bif aN k 10 then bif aN y 9 then bif aN c 5 then aN v 18 else false else false else false then cR k y m c v else 0)else s.3)) 1,.I (s.4+1),.I 3,.I (aB found 12 9),.int .u64 (aE s.3 (aB found 12 9)),.int .u64 (bif dM s.3 (aB found 12 9)then bif bif aN k 10 then bif aN y 9 then bif aN c 5 then aN v 18 else false else false else false then cR k y m c v else 0 else 0),.bool (bJ s.3 (aB found 12 9) word)],some (.ints (some .u64) (bif bJ s.3 (aB found 12 9) word then bA s.3 (aB found 12 9) (bif bif aN k 10 then bif aN y 9 then bif aN c 5 then aN v 18 else false else false else false then cR k y m c v else 0)else s.3))])))
theorem TR(t n pop gave u sh kd ky:Int)(only:Bool)(att at' found word:Int)(k y:Int)(m:Bool)(c v:Int)(s:MS)(K:AVal->aC Ob->Prop)(h:(TQ t n pop gave u sh kd ky only att at' found word k y m c v s).run K):cT' 284 [.ptr 0 0,.ptr 1 0,.agg [.I k,.I y,.bool m,.I c,.I v]] [cE' [.I t,.I n,.I pop,.I gave,.I u,.I sh,.I kd,.I ky,.bool only,.I att,.I at',.int .u64 found,.int .u64 word],aX 2 s,aY s] K:=by
 refine aJ1 (cM' (E:=EX1) (by kernel_rfl) h)
def xputS:aH Ob:=fun args h=>match args,h with
 | [.ptr 0 0,.ptr 1 0,.agg [.int .i64 k,.int .i64 y,.bool m,.int .i64 c,.int .i64 v]],[some (.cells [.int .i64 t,.int .i64 n,.int .i64 pop,.int .i64 gave,.int .i64 u,.int .i64 sh,.int .i64 kd,.int .i64 ky,.bool only,.int .i64 att,.int .i64 at',.int .u64 found,.int .u64 word]),e1,e2]=>(match cJ 2 [e1,e2]with
   | some (l,s)=>some (.pre (l=s.xs.length) (TQ t n pop gave u sh kd ky only att at' found word k y m c v s))
   | none=>none)
 | _,_=>none
theorem aAq:sT' 284 xputS:=by
 intro args h o ho K hK;unfold xputS at ho;split at ho
 case h_2=>cases ho
 split at ho<;>cases ho
 rename_i hm;obtain⟨hl,hK⟩:=hK;cases aZ hm hl;exact TR _ _ _ _ _ _ _ _ _ _ _ _ _ _ _ _ _ _ _ K hK
def HO(t n pop gave u sh kd ky:Int)(only:Bool)(att at' found word:Int)(a b c d:Int)(m:Bool)(e f:Int)(s:MS):Out Ob:=.pre True (.pre ((((0:Int)<=t/\t<=(100000:Int))/\((0:Int)<=n/\n<=(100000:Int))/\(-1099511627776:Int)<=u/\u<=(1099511627776:Int))/\True) (.pre ((q9' s)/\True) (.ret (.bool (bJ s.3 (2*n+5+2*t+3*u+2) found)) [cE' [.I t,.I n,.I pop,.I gave,.I u,.I sh,.I kd,.I ky,.bool only,.I att,.I at',.int .u64 found,.int .u64 word],cE' [.I s.1,.I s.2,.slice 2 0 (List.length (bif bJ s.3 (2*n+5+2*t+3*u+2) found then bA s.3 (2*n+5+2*t+3*u+2) (bif dOk a b c d e f then cM a b c d m e f else 0)else s.3)) 1,.I (s.4+1),.I 3,.I (2*n+5+2*t+3*u+2),.int .u64 (aE s.3 (2*n+5+2*t+3*u+2)),.int .u64 (bif dM s.3 (2*n+5+2*t+3*u+2)then bif dOk a b c d e f then cM a b c d m e f else 0 else 0),.bool (bJ s.3 (2*n+5+2*t+3*u+2) found)],some (.ints (some .u64) (bif bJ s.3 (2*n+5+2*t+3*u+2) found then bA s.3 (2*n+5+2*t+3*u+2) (bif dOk a b c d e f then cM a b c d m e f else 0)else s.3))])))
theorem NN(t n pop gave u sh kd ky:Int)(only:Bool)(att at' found word:Int)(a b c d:Int)(m:Bool)(e f:Int)(s:MS)(K:AVal->aC Ob->Prop)(h:(HO t n pop gave u sh kd ky only att at' found word a b c d m e f s).run K):cT' 286 [.ptr 0 0,.ptr 1 0,.agg [.I a,.I b,.I c,.I d,.bool m,.I e,.I f]] [cE' [.I t,.I n,.I pop,.I gave,.I u,.I sh,.I kd,.I ky,.bool only,.I att,.I at',.int .u64 found,.int .u64 word],aX 2 s,aY s] K:=by
 refine aJ1 (cM' (E:=EX1) (by kernel_rfl) h)
def xturnS:aH Ob:=fun args h=>match args,h with
 | [.ptr 0 0,.ptr 1 0,.agg [.int .i64 a,.int .i64 b,.int .i64 c,.int .i64 d,.bool m,.int .i64 e,.int .i64 f]],[some (.cells [.int .i64 t,.int .i64 n,.int .i64 pop,.int .i64 gave,.int .i64 u,.int .i64 sh,.int .i64 kd,.int .i64 ky,.bool only,.int .i64 att,.int .i64 at',.int .u64 found,.int .u64 word]),e1,e2]=>(match cJ 2 [e1,e2]with
   | some (l,s)=>some (.pre (l=s.xs.length) (HO t n pop gave u sh kd ky only att at' found word a b c d m e f s))
   | none=>none)
 | _,_=>none
theorem TT:sT' 286 xturnS:=by
 intro args h o ho K hK;unfold xturnS at ho;split at ho
 case h_2=>cases ho
 split at ho<;>cases ho
 rename_i hm;obtain⟨hl,hK⟩:=hK;cases aZ hm hl;exact NN _ _ _ _ _ _ _ _ _ _ _ _ _ _ _ _ _ _ _ _ _ K hK
noncomputable def EX2:=(EX1.addS 284 xputS aAq).addS 286 xturnS TT
instance:Inhabited STS:=⟨⟨0,0,[]⟩⟩
structure ExO where
 d:Bool
 x:EXS
 s:MS
instance:Inhabited ExO:=⟨⟨false,eK,⟨0,0,[],0,0,0,0,0,false⟩⟩⟩
instance:Inhabited EXS:=⟨eK⟩
abbrev exH(t n:Int)(x:EXS)(s:MS):aC Ob:=[some (.abs (.exec t n x) []),aX 2 s,aY s]
abbrev exD(t n:Int)(x:EXS)(s:MS):aC Ob:=[cE' [.I t,.I n,.I x.popped,.I x.gave,.I x.u,.I x.sh,.I x.kd,.I x.ky,.bool x.only,.I x.att,.I x.at',.int .u64 x.found,.int .u64 x.word],aX 2 s,aY s]
def ExO.fin(t n:Int)(y:ExO):Out Ob:=.ite y.d (.ret (.bool true) (exD t n y.x y.s)) (.ret (.bool false) (exH t n y.x y.s))
def aC9(t n:Int)(v:AVal)(g:aC Ob):Option (Prop×ExO):=match v,g with
 | .bool d,[some (.cells [.int .i64 t1,.int .i64 n1,.int .i64 popped,.int .i64 gave,.int .i64 u,.int .i64 sh,.int .i64 kd,.int .i64 ky,.bool only,.int .i64 att,.int .i64 at',.int .u64 found,.int .u64 word]),e1,e2]=>(match cJ 2 [e1,e2]with
   | some (l,s)=>some ((t1=t/\n1=n)/\l=s.xs.length,⟨d,⟨popped,gave,u,sh,kd,ky,only,att,at',found,word⟩,s⟩)
   | none=>none)
 | _,_=>none
def wH(t n:Int)(v:AVal)(g:aC Ob):Option (Prop×ExO):=aC9 t n v g
theorem W8{t n:Int} :bO (obI tbl) 3 (aC9 t n) (ExO.fin t n):=by
 intro v g p x hp hq K hK;unfold aC9 at hp;split at hp
 case h_2=>cases hp
 rename_i d t1 n1 popped gave u sh kd ky only att at' found word e1 e2;split at hp
 case h_2=>cases hp
 rename_i l s hm;cases hp;obtain⟨⟨rfl,rfl⟩,hl⟩:=hq;cases aZ hm hl;refine qT hK (fun h=>?_) (fun h=>?_)
 ·exact⟨⟨_,_,aKi _ _ _,h⟩⟩
 ·exact⟨⟨_,_,(aF.pack (exH t1 n1 (⟨popped,gave,u,sh,kd,ky,only,att,at',found,word⟩:EXS) s) (.exec t1 n1 (⟨popped,gave,u,sh,kd,ky,only,att,at',found,word⟩:EXS)) 0 0 (gR t1 n1 (⟨popped,gave,u,sh,kd,ky,only,att,at',found,word⟩:EXS)) [] (by kernel_rfl) rfl (congrArg (Prod.mk 0) rfl) (by kernel_rfl)),h⟩⟩
theorem kY{t n:Int} :bO (obI tbl) 3 (wH t n) (ExO.fin t n):=by
 intro v g p x hp hq K hK;unfold wH at hp;exact W8 v g p x hp hq K hK
abbrev w0c(n t:Int)(x:EXS):=(((0:Int)<=t/\t<=(100000:Int))/\((0:Int)<=n/\n<=(100000:Int))/\(-1099511627776:Int)<=x.3/\x.3<=(1099511627776:Int))/\True
abbrev w0h(n:Int)(s:MS)(t:Int)(x:EXS):Tr ExO:=.ret {d:=true,x:= {x with at':=0,found:=aE s.3 (2*n+5+2*t+3*x.3+2)},s:=(dU s (2*n+5+2*t+3*x.3+2)) }
abbrev w0k(n:Int)(s:MS)(t:Int)(x:EXS):=aB (aE s.3 (2*n+5+2*t+3*x.3+2)) 49 3
abbrev w0o(n:Int)(s:MS)(t:Int)(x:EXS):Tr ExO:=.ret {d:=false,x:= {x with at':=1,found:=aE s.3 (2*n+5+2*t+3*x.3+2)},s:=(dU s (2*n+5+2*t+3*x.3+2)) }
abbrev w0p(n:Int)(s:MS)(t:Int)(x:EXS):Tr ExO:=.ret {d:=false,x:= {x with at':=5,found:=aE s.3 (2*n+5+2*t+3*x.3+2)},s:=(dU s (2*n+5+2*t+3*x.3+2)) }
abbrev w0q(n:Int)(s:MS)(t:Int)(x:EXS):Tr ExO:=.ret {d:=false,x:= {x with at':=8,found:=aE s.3 (2*n+5+2*t+3*x.3+2)},s:=(dU s (2*n+5+2*t+3*x.3+2)) }
def BK(t n:Int)(x:EXS)(s:MS):Tr ExO:=.pre True (.pre True (.pre (w0c n t x) (.pre ((q9' s)/\True) (.ite x.7 (.pre True (.ite (!ieq (aB (aE s.3 (2*n+5+2*t+3*x.3+2)) 0 12) x.8) (.pre ((t=t/\n=n)/\lE' s.3) (w0h n s t x)) (.pre True (.ite (ieq (w0k n s t x) 2) (.pre ((t=t/\n=n)/\lE' s.3) (w0o n s t x)) (.ite (ieq (w0k n s t x) 3) (.pre ((t=t/\n=n)/\lE' s.3) (w0p n s t x)) (.ite (ieq (w0k n s t x) 4) (.pre ((t=t/\n=n)/\lE' s.3) (w0q n s t x)) (.pre ((t=t/\n=n)/\lE' s.3) (w0h n s t x)))))))) (.pre True (.ite (ieq (w0k n s t x) 2) (.pre ((t=t/\n=n)/\lE' s.3) (w0o n s t x)) (.ite (ieq (w0k n s t x) 3) (.pre ((t=t/\n=n)/\lE' s.3) (w0p n s t x)) (.ite (ieq (w0k n s t x) 4) (.pre ((t=t/\n=n)/\lE' s.3) (w0q n s t x)) (.pre ((t=t/\n=n)/\lE' s.3) (w0h n s t x))))))))))
theorem KT(t n:Int)(x:EXS)(s:MS)(K:ExO->Prop)(h:(BK t n x s).run K):cT' 249 [.ptr 0 0,.ptr 1 0] [cE' [.I t,.I n,.I x.popped,.I x.gave,.I x.u,.I x.sh,.I x.kd,.I x.ky,.bool x.only,.I x.att,.I 0,.int .u64 x.found,.int .u64 x.word],aX 2 s,aY s] (bS 3 0 [] [] (wH t n) K):=by
 exact cM' (E:=EX2) (by kernel_rfl) h
abbrev w0e(s:MS)(x:EXS):Tr ExO:=.ret {d:=false,x:= {x with at':=4,word:=aE s.3 (aB x.10 12 9) },s:=(dU s (aB x.10 12 9)) }
abbrev w0f(s:MS)(x:EXS):=ieq (aB (aE s.3 (aB x.10 12 9)) 25 18) (aB x.10 21 18)
abbrev w0i(s:MS)(x:EXS):=ieq (aB (aE s.3 (aB x.10 12 9)) 20 5) (W (x.3+1))
abbrev w0m(s:MS)(x:EXS):Tr ExO:=.ret {d:=false,x:= {x with at':=3,word:=aE s.3 (aB x.10 12 9) },s:=(dU s (aB x.10 12 9)) }
def BL(t n:Int)(x:EXS)(s:MS):Tr ExO:=.pre True (.pre True (.pre True (.pre (q9' s) (.pre True (.pre True (.ite (w0f s x) (.ite (ieq (aB (aE s.3 (aB x.10 12 9)) 20 5) 0) (.pre ((t=t/\n=n)/\lE' s.3) (.ret {d:=false,x:= {x with at':=2,word:=aE s.3 (aB x.10 12 9) },s:=(dU s (aB x.10 12 9)) })) (.pre True (.ite (w0f s x) (.ite (w0i s x) (.pre ((t=t/\n=n)/\lE' s.3) (w0m s x)) (.pre ((t=t/\n=n)/\lE' s.3) (w0e s x))) (.pre ((t=t/\n=n)/\lE' s.3) (w0e s x))))) (.pre True (.ite (w0f s x) (.ite (w0i s x) (.pre ((t=t/\n=n)/\lE' s.3) (w0m s x)) (.pre ((t=t/\n=n)/\lE' s.3) (w0e s x))) (.pre ((t=t/\n=n)/\lE' s.3) (w0e s x))))))))))
theorem KU(t n:Int)(x:EXS)(s:MS)(K:ExO->Prop)(h:(BL t n x s).run K):cT' 249 [.ptr 0 0,.ptr 1 0] [cE' [.I t,.I n,.I x.popped,.I x.gave,.I x.u,.I x.sh,.I x.kd,.I x.ky,.bool x.only,.I x.att,.I 1,.int .u64 x.found,.int .u64 x.word],aX 2 s,aY s] (bS 3 0 [] [] (wH t n) K):=by
 exact cM' (E:=EX2) (by kernel_rfl) h
abbrev w0j(x:EXS):=ieq (aB x.10 48 1) 1
abbrev w0b(s:MS)(x:EXS):=pQ s (aB x.10 12 9) x.11 (bif bif aN (aB x.11 0 10) 10 then bif aN (aB x.10 39 9) 9 then bif aN (x.3+1) 5 then aN (aB x.11 25 18) 18 else false else false else false then cR (aB x.11 0 10) (aB x.10 39 9) (w0j x) (x.3+1) (aB x.11 25 18)else 0)
def BM(t n:Int)(x:EXS)(s:MS):Tr ExO:=.pre True (.pre True (.pre ((-1000000:Int)<=x.3/\x.3<=(1000000:Int)) (.pre (lE' s.3/\True/\True/\((q9' s)/\True)/\True) (.ite (bJ s.3 (aB x.10 12 9) x.11) (.pre True (.ite (oR x.4 x.5) (.pre ((t=t/\n=n)/\lE' (bif bJ s.3 (aB x.10 12 9) x.11 then bA s.3 (aB x.10 12 9) (bif bif aN (aB x.11 0 10) 10 then bif aN (aB x.10 39 9) 9 then bif aN (x.3+1) 5 then aN (aB x.11 25 18) 18 else false else false else false then cR (aB x.11 0 10) (aB x.10 39 9) (w0j x) (x.3+1) (aB x.11 25 18)else 0)else s.3)) (.ret {d:=true,x:= {x with popped:=aB x.11 10 9,at':=2},s:=(w0b s x) })) (.pre ((t=t/\n=n)/\lE' (bif bJ s.3 (aB x.10 12 9) x.11 then bA s.3 (aB x.10 12 9) (bif bif aN (aB x.11 0 10) 10 then bif aN (aB x.10 39 9) 9 then bif aN (x.3+1) 5 then aN (aB x.11 25 18) 18 else false else false else false then cR (aB x.11 0 10) (aB x.10 39 9) (w0j x) (x.3+1) (aB x.11 25 18)else 0)else s.3)) (.ret {d:=true,x:= {x with at':=2},s:=(w0b s x) })))) (.pre ((t=t/\n=n)/\lE' (bif bJ s.3 (aB x.10 12 9) x.11 then bA s.3 (aB x.10 12 9) (bif bif aN (aB x.11 0 10) 10 then bif aN (aB x.10 39 9) 9 then bif aN (x.3+1) 5 then aN (aB x.11 25 18) 18 else false else false else false then cR (aB x.11 0 10) (aB x.10 39 9) (w0j x) (x.3+1) (aB x.11 25 18)else 0)else s.3)) (.ret {d:=true,x:= {x with at':=2},s:=(w0b s x) }))))))
theorem KV(t n:Int)(x:EXS)(s:MS)(K:ExO->Prop)(h:(BM t n x s).run K):cT' 249 [.ptr 0 0,.ptr 1 0] [cE' [.I t,.I n,.I x.popped,.I x.gave,.I x.u,.I x.sh,.I x.kd,.I x.ky,.bool x.only,.I x.att,.I 2,.int .u64 x.found,.int .u64 x.word],aX 2 s,aY s] (bS 3 0 [] [] (wH t n) K):=by
 exact cM' (E:=EX2) (by kernel_rfl) h
def BN(t n:Int)(x:EXS)(s:MS):Tr ExO:=.pre True (.pre True (.pre True (.pre (lE' s.3) (.pre True (.pre (w0c n t x) (.pre ((q9' s)/\True) (.pre ((t=t/\n=n)/\lE' (bif bJ s.3 (2*n+5+2*t+3*x.3+2) x.10 then bA s.3 (2*n+5+2*t+3*x.3+2) (bif dOk (aB x.10 0 12) (aB x.10 12 9) (aB x.10 21 18) (aB x.10 39 9) 3 (aB x.10 52 10)then cM (aB x.10 0 12) (aB x.10 12 9) (aB x.10 21 18) (aB x.10 39 9) (w0j x) 3 (aB x.10 52 10)else 0)else s.3)) (.ret {d:=true,x:= {x with at':=3},s:=(pQ s (2*n+5+2*t+3*x.3+2) x.10 (bif dOk (aB x.10 0 12) (aB x.10 12 9) (aB x.10 21 18) (aB x.10 39 9) 3 (aB x.10 52 10)then cM (aB x.10 0 12) (aB x.10 12 9) (aB x.10 21 18) (aB x.10 39 9) (w0j x) 3 (aB x.10 52 10)else 0)) }))))))))
theorem KW(t n:Int)(x:EXS)(s:MS)(K:ExO->Prop)(h:(BN t n x s).run K):cT' 249 [.ptr 0 0,.ptr 1 0] [cE' [.I t,.I n,.I x.popped,.I x.gave,.I x.u,.I x.sh,.I x.kd,.I x.ky,.bool x.only,.I x.att,.I 3,.int .u64 x.found,.int .u64 x.word],aX 2 s,aY s] (bS 3 0 [] [] (wH t n) K):=by
 exact cM' (E:=EX2) (by kernel_rfl) h
def BO(t n:Int)(x:EXS)(s:MS):Tr ExO:=.pre True (.pre True (.pre True (.pre (lE' s.3) (.pre True (.pre (w0c n t x) (.pre ((q9' s)/\True) (.pre ((t=t/\n=n)/\lE' (bif bJ s.3 (2*n+5+2*t+3*x.3+2) x.10 then bA s.3 (2*n+5+2*t+3*x.3+2) (bif dOk (aB x.10 0 12) (aB x.10 12 9) (aB x.10 21 18) (aB x.10 39 9) 4 (aB x.10 52 10)then cM (aB x.10 0 12) (aB x.10 12 9) (aB x.10 21 18) (aB x.10 39 9) (w0j x) 4 (aB x.10 52 10)else 0)else s.3)) (.ret {d:=true,x:= {x with at':=4},s:=(pQ s (2*n+5+2*t+3*x.3+2) x.10 (bif dOk (aB x.10 0 12) (aB x.10 12 9) (aB x.10 21 18) (aB x.10 39 9) 4 (aB x.10 52 10)then cM (aB x.10 0 12) (aB x.10 12 9) (aB x.10 21 18) (aB x.10 39 9) (w0j x) 4 (aB x.10 52 10)else 0)) }))))))))
theorem KX(t n:Int)(x:EXS)(s:MS)(K:ExO->Prop)(h:(BO t n x s).run K):cT' 249 [.ptr 0 0,.ptr 1 0] [cE' [.I t,.I n,.I x.popped,.I x.gave,.I x.u,.I x.sh,.I x.kd,.I x.ky,.bool x.only,.I x.att,.I 4,.int .u64 x.found,.int .u64 x.word],aX 2 s,aY s] (bS 3 0 [] [] (wH t n) K):=by
 exact cM' (E:=EX2) (by kernel_rfl) h
abbrev w0d(s:MS)(x:EXS):Tr ExO:=.ret {d:=false,x:= {x with at':=7,word:=aE s.3 (aB x.10 12 9) },s:=(dU s (aB x.10 12 9)) }
abbrev w0n(s:MS)(x:EXS):Tr ExO:=.ret {d:=false,x:= {x with at':=6,word:=aE s.3 (aB x.10 12 9) },s:=(dU s (aB x.10 12 9)) }
def BP(t n:Int)(x:EXS)(s:MS):Tr ExO:=.pre True (.pre True (.pre True (.pre (q9' s) (.pre True (.pre True (.ite (w0f s x) (.ite (ieq (aB (aE s.3 (aB x.10 12 9)) 20 5) 0) (.pre ((t=t/\n=n)/\lE' s.3) (w0d s x)) (.pre True (.ite (w0f s x) (.ite (w0i s x) (.pre ((t=t/\n=n)/\lE' s.3) (w0n s x)) (.pre ((t=t/\n=n)/\lE' s.3) (w0d s x))) (.pre ((t=t/\n=n)/\lE' s.3) (w0d s x))))) (.pre True (.ite (w0f s x) (.ite (w0i s x) (.pre ((t=t/\n=n)/\lE' s.3) (w0n s x)) (.pre ((t=t/\n=n)/\lE' s.3) (w0d s x))) (.pre ((t=t/\n=n)/\lE' s.3) (w0d s x))))))))))
theorem KY(t n:Int)(x:EXS)(s:MS)(K:ExO->Prop)(h:(BP t n x s).run K):cT' 249 [.ptr 0 0,.ptr 1 0] [cE' [.I t,.I n,.I x.popped,.I x.gave,.I x.u,.I x.sh,.I x.kd,.I x.ky,.bool x.only,.I x.att,.I 5,.int .u64 x.found,.int .u64 x.word],aX 2 s,aY s] (bS 3 0 [] [] (wH t n) K):=by
 exact cM' (E:=EX2) (by kernel_rfl) h
def BQ(t n:Int)(x:EXS)(s:MS):Tr ExO:=.pre True (.pre True (.pre ((0:Int)<=aB x.11 25 18/\aB x.11 25 (18:Int)<=(1000000:Int)) (.pre (lE' s.3) (.pre True (.pre True (.pre ((q9' s)/\True) (.pre ((t=t/\n=n)/\lE' (bif bJ s.3 (aB x.10 12 9) x.11 then bA s.3 (aB x.10 12 9) (bif bif aN (aB x.11 0 10) 10 then bif aN (aB x.11 10 9) 9 then bif aN 0 5 then aN (aW (aB x.11 25 18)) 18 else false else false else false then cR (aB x.11 0 10) (aB x.11 10 9) (ieq (aB x.11 19 1) 1) 0 (aW (aB x.11 25 18))else 0)else s.3)) (.ret {d:=false,x:= {x with at':=7},s:=(pQ s (aB x.10 12 9) x.11 (bif bif aN (aB x.11 0 10) 10 then bif aN (aB x.11 10 9) 9 then bif aN 0 5 then aN (aW (aB x.11 25 18)) 18 else false else false else false then cR (aB x.11 0 10) (aB x.11 10 9) (ieq (aB x.11 19 1) 1) 0 (aW (aB x.11 25 18))else 0)) }))))))))
theorem KZ(t n:Int)(x:EXS)(s:MS)(K:ExO->Prop)(h:(BQ t n x s).run K):cT' 249 [.ptr 0 0,.ptr 1 0] [cE' [.I t,.I n,.I x.popped,.I x.gave,.I x.u,.I x.sh,.I x.kd,.I x.ky,.bool x.only,.I x.att,.I 6,.int .u64 x.found,.int .u64 x.word],aX 2 s,aY s] (bS 3 0 [] [] (wH t n) K):=by
 exact cM' (E:=EX2) (by kernel_rfl) h
def BR(t n:Int)(x:EXS)(s:MS):Tr ExO:=.pre True (.pre True (.pre True (.pre (lE' s.3) (.pre True (.pre (w0c n t x) (.pre ((q9' s)/\True) (.pre ((t=t/\n=n)/\lE' (bif bJ s.3 (2*n+5+2*t+3*x.3+2) x.10 then bA s.3 (2*n+5+2*t+3*x.3+2) (bif dOk (aB x.10 0 12) 0 0 0 5 (aB x.10 52 10)then cM (aB x.10 0 12) 0 0 0 true 5 (aB x.10 52 10)else 0)else s.3)) (.ret {d:=true,x:= {x with at':=7},s:=(pQ s (2*n+5+2*t+3*x.3+2) x.10 (bif dOk (aB x.10 0 12) 0 0 0 5 (aB x.10 52 10)then cM (aB x.10 0 12) 0 0 0 true 5 (aB x.10 52 10)else 0)) }))))))))
theorem K1(t n:Int)(x:EXS)(s:MS)(K:ExO->Prop)(h:(BR t n x s).run K):cT' 249 [.ptr 0 0,.ptr 1 0] [cE' [.I t,.I n,.I x.popped,.I x.gave,.I x.u,.I x.sh,.I x.kd,.I x.ky,.bool x.only,.I x.att,.I 7,.int .u64 x.found,.int .u64 x.word],aX 2 s,aY s] (bS 3 0 [] [] (wH t n) K):=by
 exact cM' (E:=EX2) (by kernel_rfl) h
abbrev w0l(x:EXS):=gQ (aB x.10 0 12)
abbrev w0g(n:Int)(s:MS)(t:Int)(x:EXS):=pQ s (2*n+5+2*t+3*x.3+2) x.10 (bif dOk (w0l x) 0 0 0 1 0 then cM (w0l x) 0 0 0 false 1 0 else 0)
def BS(t n:Int)(x:EXS)(s:MS):Tr ExO:=.pre True (.pre True (.pre ((0:Int)<=aB x.10 0 12/\aB x.10 0 (12:Int)<=(1000000:Int)) (.pre (lE' s.3/\True/\(w0c n t x)/\((q9' s)/\True)/\True) (.ite (!bJ s.3 (2*n+5+2*t+3*x.3+2) x.10) (.pre ((t=t/\n=n)/\lE' (bif bJ s.3 (2*n+5+2*t+3*x.3+2) x.10 then bA s.3 (2*n+5+2*t+3*x.3+2) (bif dOk (w0l x) 0 0 0 1 0 then cM (w0l x) 0 0 0 false 1 0 else 0)else s.3)) (.ret {d:=true,x:= {x with at':=9},s:=(w0g n s t x) })) (.pre True (.ite (!fT x.5) (.pre ((t=t/\n=n)/\lE' (bif bJ s.3 (2*n+5+2*t+3*x.3+2) x.10 then bA s.3 (2*n+5+2*t+3*x.3+2) (bif dOk (w0l x) 0 0 0 1 0 then cM (w0l x) 0 0 0 false 1 0 else 0)else s.3)) (.ret {d:=true,x:= {x with at':=9},s:=(w0g n s t x) })) (.pre (True/\True) (.pre ((t=t/\n=n)/\lE' (bif bJ s.3 (2*n+5+2*t+3*x.3+2) x.10 then bA s.3 (2*n+5+2*t+3*x.3+2) (bif dOk (w0l x) 0 0 0 1 0 then cM (w0l x) 0 0 0 false 1 0 else 0)else s.3)) (.ret {d:=!bC n (aB x.10 39 9),x:= {x with at':=9},s:=(w0g n s t x) })))))))))
theorem K2(t n:Int)(x:EXS)(s:MS)(K:ExO->Prop)(h:(BS t n x s).run K):cT' 249 [.ptr 0 0,.ptr 1 0] [cE' [.I t,.I n,.I x.popped,.I x.gave,.I x.u,.I x.sh,.I x.kd,.I x.ky,.bool x.only,.I x.att,.I 8,.int .u64 x.found,.int .u64 x.word],aX 2 s,aY s] (bS 3 0 [] [] (wH t n) K):=by
 exact cM' (E:=EX2) (by kernel_rfl) h
def BT(t n:Int)(x:EXS)(s:MS):Tr ExO:=.pre True (.pre True (.pre ((((0:Int)<=t/\t<=(100000:Int))/\((0:Int)<=n/\n<=(100000:Int))/\(-1099511627776:Int)<=aB x.10 39 9/\aB x.10 39 (9:Int)<=(1099511627776:Int))/\True) (.pre ((q9' s)/\True) (.pre ((t=t/\n=n)/\lE' (bA s.3 (n+4+aB x.10 39 9) (WU (aE s.3 (n+4+aB x.10 39 9)+1)))) (.ret {d:=true,x:= {x with gave:=aB x.10 39 9,at':=9},s:=(NC s 4 (n+4+aB x.10 39 9) (WU (aE s.3 (n+4+aB x.10 39 9)+1))) })))))
theorem K3(t n:Int)(x:EXS)(s:MS)(K:ExO->Prop)(h:(BT t n x s).run K):cT' 249 [.ptr 0 0,.ptr 1 0] [cE' [.I t,.I n,.I x.popped,.I x.gave,.I x.u,.I x.sh,.I x.kd,.I x.ky,.bool x.only,.I x.att,.I 9,.int .u64 x.found,.int .u64 x.word],aX 2 s,aY s] (bS 3 0 [] [] (wH t n) K):=by
 exact cM' (E:=EX2) (by kernel_rfl) h
def exT(t n:Int)(x:EXS)(s:MS):Tr ExO:=
 bif ieq x.at' 0 then BK t n x s else
 bif ieq x.at' 1 then BL t n x s else
 bif ieq x.at' 2 then BM t n x s else
 bif ieq x.at' 3 then BN t n x s else
 bif ieq x.at' 4 then BO t n x s else
 bif ieq x.at' 5 then BP t n x s else
 bif ieq x.at' 6 then BQ t n x s else
 bif ieq x.at' 7 then BR t n x s else
 bif ieq x.at' 8 then BS t n x s else
 bif ieq x.at' 9 then BT t n x s else .pre False (.ret default)
def DV(t n:Int)(x:EXS)(s:MS):ExO:=(exT t n x s).val
def aC8(t n:Int)(x:EXS)(s:MS):Prop:=(exT t n x s).ok
theorem W9(t n:Int)(x:EXS)(s:MS)(K:AVal->aC Ob->Prop)(h:(exT t n x s).run (fun y=>(ExO.fin t n y).run K)):cT' 249 [.ptr 0 0,.ptr 1 0] (exH t n x s) K:=by
 unfold exT at h
 by_cases e:x.at'=0
 ·rw [e]at h;have h:(BK t n x s).run _:=h;refine aJ2 (root:=0) (pos:=[]) (cs:=[]) (parse:=wH t n) (fin:=ExO.fin t n) kY (aQ.unpack (.exec t n x) 0 0 (gR t n x) [] rfl (congrArg (Prod.mk 0) rfl) (by kernel_rfl) rfl) ?_
  have q:=KT t n x s _ h;rw [<-e]at q;exact q
 rw [bK e]at h
 by_cases e:x.at'=1
 ·rw [e]at h;have h:(BL t n x s).run _:=h;refine aJ2 (root:=0) (pos:=[]) (cs:=[]) (parse:=wH t n) (fin:=ExO.fin t n) kY (aQ.unpack (.exec t n x) 0 0 (gR t n x) [] rfl (congrArg (Prod.mk 0) rfl) (by kernel_rfl) rfl) ?_
  have q:=KU t n x s _ h;rw [<-e]at q;exact q
 rw [bK e]at h
 by_cases e:x.at'=2
 ·rw [e]at h;have h:(BM t n x s).run _:=h;refine aJ2 (root:=0) (pos:=[]) (cs:=[]) (parse:=wH t n) (fin:=ExO.fin t n) kY (aQ.unpack (.exec t n x) 0 0 (gR t n x) [] rfl (congrArg (Prod.mk 0) rfl) (by kernel_rfl) rfl) ?_
  have q:=KV t n x s _ h;rw [<-e]at q;exact q
 rw [bK e]at h
 by_cases e:x.at'=3
 ·rw [e]at h;have h:(BN t n x s).run _:=h;refine aJ2 (root:=0) (pos:=[]) (cs:=[]) (parse:=wH t n) (fin:=ExO.fin t n) kY (aQ.unpack (.exec t n x) 0 0 (gR t n x) [] rfl (congrArg (Prod.mk 0) rfl) (by kernel_rfl) rfl) ?_
  have q:=KW t n x s _ h;rw [<-e]at q;exact q
 rw [bK e]at h
 by_cases e:x.at'=4
 ·rw [e]at h;have h:(BO t n x s).run _:=h;refine aJ2 (root:=0) (pos:=[]) (cs:=[]) (parse:=wH t n) (fin:=ExO.fin t n) kY (aQ.unpack (.exec t n x) 0 0 (gR t n x) [] rfl (congrArg (Prod.mk 0) rfl) (by kernel_rfl) rfl) ?_
  have q:=KX t n x s _ h;rw [<-e]at q;exact q
 rw [bK e]at h
 by_cases e:x.at'=5
 ·rw [e]at h;have h:(BP t n x s).run _:=h;refine aJ2 (root:=0) (pos:=[]) (cs:=[]) (parse:=wH t n) (fin:=ExO.fin t n) kY (aQ.unpack (.exec t n x) 0 0 (gR t n x) [] rfl (congrArg (Prod.mk 0) rfl) (by kernel_rfl) rfl) ?_
  have q:=KY t n x s _ h;rw [<-e]at q;exact q
 rw [bK e]at h
 by_cases e:x.at'=6
 ·rw [e]at h;have h:(BQ t n x s).run _:=h;refine aJ2 (root:=0) (pos:=[]) (cs:=[]) (parse:=wH t n) (fin:=ExO.fin t n) kY (aQ.unpack (.exec t n x) 0 0 (gR t n x) [] rfl (congrArg (Prod.mk 0) rfl) (by kernel_rfl) rfl) ?_
  have q:=KZ t n x s _ h;rw [<-e]at q;exact q
 rw [bK e]at h
 by_cases e:x.at'=7
 ·rw [e]at h;have h:(BR t n x s).run _:=h;refine aJ2 (root:=0) (pos:=[]) (cs:=[]) (parse:=wH t n) (fin:=ExO.fin t n) kY (aQ.unpack (.exec t n x) 0 0 (gR t n x) [] rfl (congrArg (Prod.mk 0) rfl) (by kernel_rfl) rfl) ?_
  have q:=K1 t n x s _ h;rw [<-e]at q;exact q
 rw [bK e]at h
 by_cases e:x.at'=8
 ·rw [e]at h;have h:(BS t n x s).run _:=h;refine aJ2 (root:=0) (pos:=[]) (cs:=[]) (parse:=wH t n) (fin:=ExO.fin t n) kY (aQ.unpack (.exec t n x) 0 0 (gR t n x) [] rfl (congrArg (Prod.mk 0) rfl) (by kernel_rfl) rfl) ?_
  have q:=K2 t n x s _ h;rw [<-e]at q;exact q
 rw [bK e]at h
 by_cases e:x.at'=9
 ·rw [e]at h;have h:(BT t n x s).run _:=h;refine aJ2 (root:=0) (pos:=[]) (cs:=[]) (parse:=wH t n) (fin:=ExO.fin t n) kY (aQ.unpack (.exec t n x) 0 0 (gR t n x) [] rfl (congrArg (Prod.mk 0) rfl) (by kernel_rfl) rfl) ?_
  have q:=K3 t n x s _ h;rw [<-e]at q;exact q
 rw [bK e]at h;exact h.1.elim
noncomputable def exS:aH Ob:=fun args h=>match args,h with
 | [.ptr 0 0,.ptr 1 0],[some (.abs (.exec t n x) []),e1,e2]=>(match cJ 2 [e1,e2]with
   | some (l,s)=>some (.pre (l=s.xs.length/\aC8 t n x s) (ExO.fin t n (DV t n x s)))
   | none=>none)
 | _,_=>none
theorem aGp:sT' 249 exS:=by
 intro args h o ho K hK;unfold exS at ho;split at ho
 case h_2=>cases ho
 split at ho<;>cases ho
 rename_i hm;obtain⟨⟨hl,ok⟩,hK⟩:=hK;cases aZ hm hl;exact W9 _ _ _ _ K (aJ5 ok hK)
def aC5(t n:Int)(v:AVal)(g:aC Ob):Option (Prop×EXS):=match v,g with
 | .ptr 0 0,[some (.cells [.int .i64 t1,.int .i64 n1,.int .i64 popped,.int .i64 gave,.int .i64 u,.int .i64 sh,.int .i64 kd,.int .i64 ky,.bool only,.int .i64 att,.int .i64 at',.int .u64 found,.int .u64 word])]=>some ((t1=t/\n1=n),(⟨popped,gave,u,sh,kd,ky,only,att,at',found,word⟩:EXS))
 | _,_=>none
abbrev W5(t n:Int)(y:EXS):aC Ob:=[some (.abs (.exec t n y) [])]
theorem W6{t n:Int} :bO (obI tbl) 0 (aC5 t n) (fun y=>.ret (.ptr 0 0) (W5 t n y)):=by
 intro v g p x hp hq K hK;unfold aC5 at hp;split at hp
 case h_2=>cases hp
 rename_i t1 n1 popped gave u sh kd ky only att at' found word;cases hp;obtain⟨rfl,rfl⟩:=hq;exact⟨⟨_,_,aF.pack (W5 t1 n1 (⟨popped,gave,u,sh,kd,ky,only,att,at',found,word⟩:EXS)) (.exec t1 n1 (⟨popped,gave,u,sh,kd,ky,only,att,at',found,word⟩:EXS)) 0 0 (gR t1 n1 (⟨popped,gave,u,sh,kd,ky,only,att,at',found,word⟩:EXS)) [] (by kernel_rfl) rfl (congrArg (Prod.mk 0) rfl) (by kernel_rfl),hK⟩⟩
def aC6(t n:Int)(u sh kd ky att:Int):Tr EXS:=.pre (t=t/\n=n) (.ret {popped:=0,gave:=0,u:=u,sh:=sh,kd:=kd,ky:=ky,only:=true,att:=att,at':=0,found:=0,word:=0})
def aC4(t n:Int)(u sh kd ky att:Int):EXS:=(aC6 t n u sh kd ky att).val
def PV(t n:Int)(u sh kd ky att:Int):Prop:=(aC6 t n u sh kd ky att).ok
def exNS:aH Ob:=fun args h=>match args,h with
 | [.agg [.int .i64 t,.int .i64 n],.int .i64 u,.agg [.int .i64 sh,.int .i64 kd,.int .i64 ky],.int .i64 att],[]=>some (.pre (PV t n u sh kd ky att) (.ret (.ptr 0 0) (W5 t n (aC4 t n u sh kd ky att))))
 | _,_=>none
theorem aC7:sT' 246 exNS:=by
 intro args h o ho K hK;unfold exNS at ho;split at ho<;>cases ho
 rename_i t n u sh kd ky att;obtain⟨ok,hK⟩:=hK;refine aKf (root:=0) (pos:=[]) (cs:=[]) (parse:=aC5 t n) W6 ?_;exact cM' (E:=EX2) (q:=(aC6 t n u sh kd ky att).run (fun y=>(Out.ret (.ptr 0 0) (W5 t n y)).run K)) (by kernel_rfl) (aJ5 ok hK)
noncomputable def EC6:=((EX2.addS 249 exS aGp).addS 246 exNS aC7)
structure PrO where
 d:Bool
 x:PRS
 st:STS
 s:MS
instance:Inhabited PrO:=⟨⟨false,⟨0,0,0,false⟩,⟨0,0,[]⟩,⟨0,0,[],0,0,0,0,0,false⟩⟩⟩
instance:Inhabited PRS:=⟨⟨0,0,0,false⟩⟩
abbrev prH(t n:Int)(x:PRS)(st:STS)(s:MS):aC Ob:=[some (.abs (.prepare t n x) [1]),some (.abs (.store t n st) []),aX 3 s,aY s]
abbrev prD(t n:Int)(x:PRS)(st:STS)(s:MS):aC Ob:=[cE' [.ptr 1 0,.I x.key,.I x.nxt,.int .u64 x.found,.bool x.loaded],some (.abs (.store t n st) []),aX 3 s,aY s]
def PrO.fin(t n:Int)(y:PrO):Out Ob:=.ite y.d (.ret (.bool true) (prD t n y.x y.st y.s)) (.ret (.bool false) (prH t n y.x y.st y.s))
def aEx(t n:Int)(v:AVal)(g:aC Ob):Option (Prop×PrO):=match v,g with
 | .bool d,[some (.cells [.ptr 1 0,.int .i64 key,.int .i64 nxt,.int .u64 found,.bool loaded]),e1,e3,e4,e2]=>(match lB 4 [e1,e2],cJ 3 [e3,e4]with
   | some (l2,t2,n2,st),some (l,s)=>some ((t2=t/\n2=n)/\l=s.xs.length/\l2=st.R.length,⟨d,⟨key,nxt,found,loaded⟩,st,s⟩)
   | _,_=>none)
 | _,_=>none
def prP(t n:Int)(v:AVal)(g:aC Ob):Option (Prop×PrO):=aEx t n v g
theorem ZK{t n:Int} :bO (obI tbl) 4 (aEx t n) (PrO.fin t n):=by
 intro v g p x hp hq K hK;unfold aEx at hp;split at hp
 case h_2=>cases hp
 rename_i d key nxt found loaded e1 e3 e4 e2;split at hp
 case h_2=>cases hp
 rename_i l2 t2 n2 st l s hs hm;cases hp;obtain⟨⟨rfl,rfl⟩,hl,hl2⟩:=hq;cases aZ hm hl;cases b9 hs hl2;refine qT hK (fun h=>?_) (fun h=>?_)
 ·exact tkP h (.store t2 n2 st) 1 0 (dK t2 n2 st) []
 ·exact wJ h (.store t2 n2 st) 1 0 (dK t2 n2 st) [] 0 [1] rfl (congrArg (Prod.mk 1) rfl)
theorem aEy{t n:Int} :bO (obI tbl) 4 (prP t n) (PrO.fin t n):=by
 intro v g p x hp hq K hK;unfold prP at hp;exact ZK v g p x hp hq K hK
def ZL(t n:Int)(x:PRS)(st:STS)(s:MS):Tr PrO:=.ite (!x.4) (.pre (q9' s) (.pre ((t=t/\n=n)/\lE' s.3/\lE' st.3) (.ret {d:=false,x:= {key:=x.1,nxt:=x.2,found:=aE s.3 st.2,loaded:=true},st:=st,s:=(dU s st.2) }))) (.pre True (.pre ((0:Int)<=aB x.3 25 18/\aB x.3 25 (18:Int)<=(1000000:Int)) (.pre True (.pre (q9' s) (.pre ((t=t/\n=n)/\lE' (bA s.3 st.2 (bif bif aN x.1 10 then bif aN x.2 9 then bif aN 0 5 then aN (aW (aB x.3 25 18)) 18 else false else false else false then cR x.1 x.2 false 0 (aW (aB x.3 25 18))else 0))/\lE' st.3) (.ret {d:=true,x:=x,st:=st,s:=(NC s 2 st.2 (bif bif aN x.1 10 then bif aN x.2 9 then bif aN 0 5 then aN (aW (aB x.3 25 18)) 18 else false else false else false then cR x.1 x.2 false 0 (aW (aB x.3 25 18))else 0)) }))))))
theorem SG(t n:Int)(x:PRS)(st:STS)(s:MS)(K:PrO->Prop)(h:(ZL t n x st s).run K):cT' 216 [.ptr 0 0,.ptr 2 0] [cE' [.ptr 1 0,.I x.key,.I x.nxt,.int .u64 x.found,.bool x.loaded],gW 4 t n st,aX 3 s,aY s,gX st] (bS 4 0 [] [(.cell 1 4,.ints (some .i64))] (prP t n) K):=by
 exact cM' (E:=EC6) (by kernel_rfl) h
def prT(t n:Int)(x:PRS)(st:STS)(s:MS):Tr PrO:=ZL t n x st s
def prF(t n:Int)(x:PRS)(st:STS)(s:MS):PrO:=(prT t n x st s).val
def SF(t n:Int)(x:PRS)(st:STS)(s:MS):Prop:=(prT t n x st s).ok
theorem JE(t n:Int)(x:PRS)(st:STS)(s:MS)(K:AVal->aC Ob->Prop)(h:(prT t n x st s).run (fun y=>(PrO.fin t n y).run K)):cT' 216 [.ptr 0 0,.ptr 2 0] (prH t n x st s) K:=by
 unfold prT at h;exact aJ2 (root:=0) (pos:=[]) (cs:=[(.cell 1 4,.ints (some .i64))]) (parse:=prP t n) (fin:=PrO.fin t n) aEy ((aQ.unpack (.prepare t n x) 0 1 (rX t n x) [1] rfl (congrArg (Prod.mk 1) rfl) (by kernel_rfl) rfl).trans (aQ.unpack (.store t n st) 1 0 (dK t n st) [] rfl rfl rfl rfl)) (SG t n x st s _ h)
noncomputable def prSA:aH Ob:=fun args h=>match args,h with
 | [.ptr 0 0,.ptr 2 0],[some (.abs (.prepare t n x) [1]),some (.abs (.store t2 n2 st) []),e3,e4]=>(match cJ 3 [e3,e4]with
   | some (l,s)=>some (.pre ((l=s.xs.length/\t2=t/\n2=n)/\SF t n x st s) (PrO.fin t n (prF t n x st s)))
   | none=>none)
 | _,_=>none
theorem aEz:sT' 216 prSA:=by
 intro args h o ho K hK;unfold prSA at ho;split at ho
 case h_2=>cases ho
 split at ho<;>cases ho
 rename_i hm;obtain⟨⟨⟨hl,rfl,rfl⟩,ok⟩,hK⟩:=hK;cases aZ hm hl;exact JE _ _ _ _ _ K (aJ5 ok hK)
def PrO.finB(t n:Int)(y:PrO):Out Ob:=.ite y.d (.ret (.bool true) ([cE' [.ptr 1 0,.I y.x.key,.I y.x.nxt,.int .u64 y.x.found,.bool y.x.loaded],gW 5 t n y.st,none,aX 4 y.s,aY y.s,gX y.st])) (.ret (.bool false) [some (.abs (.prepare t n y.x) [1]),gW 5 t n y.st,none,aX 4 y.s,aY y.s,gX y.st])
noncomputable def prSB:aH Ob:=fun args h=>match args,h with
 | [.ptr 0 0,.ptr 3 0],[some (.abs (.prepare t n x) [1]),e1,e2,e3,e4]=>(match lB 2 [e1,e2],cJ 4 [e3,e4]with
   | some (l2,t2,n2,st),some (l,s)=>some (.pre ((l=s.xs.length/\l2=st.R.length/\t2=t/\n2=n)/\SF t n x st s) (PrO.finB t n (prF t n x st s)))
   | _,_=>none)
 | _,_=>none
theorem aEA:sT' 216 prSB:=by
 intro args h o ho K hK;unfold prSB at ho;split at ho
 case h_2=>cases ho
 split at ho<;>cases ho
 rename_i hs hm;obtain⟨⟨⟨hl,hl2,rfl,rfl⟩,ok⟩,hK⟩:=hK;cases aZ hm hl;cases b9 hs hl2;exact jQ (fun ι hι=>by simp [aG.ren,aKg,AVal.ren,hι]) (fun ι hι=>by simp [aG.ren,hι]) (fun K hK=>JE _ _ _ _ _ K (aJ5 ok hK)) K hK
noncomputable def prS:aH Ob:=aH.or prSA prSB
theorem aHo:sT' 216 prS:=aKs aEz aEA
def aEu(t n:Int)(v:AVal)(g:aC Ob):Option (Prop×(PRS×STS)):=match v,g with
 | .ptr 2 0,[e1,e2,some (.cells [.ptr 0 0,.int .i64 key,.int .i64 nxt,.int .u64 found,.bool loaded])]=>(match lB 1 [e1,e2]with
   | some (l2,t2,n2,st)=>some ((t2=t/\n2=n/\l2=st.R.length),⟨(⟨key,nxt,found,loaded⟩:PRS),st⟩)
   | none=>none)
 | _,_=>none
abbrev ZI(t n:Int)(y:(PRS×STS)):aC Ob:=[gW 1 t n y.2,gX y.2,some (.abs (.prepare t n y.1) [0])]
theorem ZJ{t n:Int} :bO (obI tbl) 2 (aEu t n) (fun y=>.ret (.ptr 2 0) (ZI t n y)):=by
 intro v g p x hp hq K hK;unfold aEu at hp;split at hp
 case h_2=>cases hp
 rename_i e1 e2 key nxt found loaded;split at hp
 case h_2=>cases hp
 rename_i l2 t2 n2 st hs;cases hp;obtain⟨rfl,rfl,hl2⟩:=hq;cases b9 hs hl2;exact⟨⟨_,_,aF.pack (ZI t2 n2 ((⟨key,nxt,found,loaded⟩:PRS),st)) (.prepare t2 n2 (⟨key,nxt,found,loaded⟩:PRS)) 2 1 (rX t2 n2 (⟨key,nxt,found,loaded⟩:PRS)) [0] (by kernel_rfl) rfl (congrArg (Prod.mk 1) rfl) (by kernel_rfl),hK⟩⟩
def MO(t n:Int)(key nx:Int)(st:STS):Tr (PRS×STS):=.pre (t=t/\n=n/\lE' st.3) (.ret ({key:=key,nxt:=nx,found:=0,loaded:=false},st))
def pJ(t n:Int)(key nx:Int)(st:STS):(PRS×STS):=(MO t n key nx st).val
def C8(t n:Int)(key nx:Int)(st:STS):Prop:=(MO t n key nx st).ok
def prNS:aH Ob:=fun args h=>match args,h with
 | [.ptr 0 0,.int .i64 key,.int .i64 nx],[e1,e2]=>(match lB 1 [e1,e2]with
   | some (l2,t,n,st)=>some (.pre (l2=st.R.length/\C8 t n key nx st) (.ret (.ptr 2 0) (ZI t n (pJ t n key nx st))))
   | none=>none)
 | _,_=>none
theorem aEv:sT' 259 prNS:=by
 intro args h o ho K hK;unfold prNS at ho;split at ho
 case h_2=>cases ho
 rename_i key nx e1 e2;split at ho<;>cases ho
 rename_i l2 t n st hs;obtain⟨⟨hl2,ok⟩,hK⟩:=hK;cases b9 hs hl2;refine aKf (root:=2) (pos:=[]) (cs:=[]) (parse:=aEu t n) ZJ ?_;exact cM' (E:=EC6) (q:=(MO t n key nx st).run (fun y=>(Out.ret (.ptr 2 0) (ZI t n y)).run K)) (by kernel_rfl) (aJ5 ok hK)
noncomputable def EC7:=((EC6.addS 216 prS aHo).addS 259 prNS aEv)
structure FnO where
 d:Bool
 x:FNS
 s:MS
instance:Inhabited FnO:=⟨⟨false,bP,⟨0,0,[],0,0,0,0,0,false⟩⟩⟩
instance:Inhabited FNS:=⟨bP⟩
abbrev fnH(t n:Int)(x:FNS)(s:MS):aC Ob:=[some (.abs (.find t n x) []),aX 2 s,aY s]
abbrev fnD(t n:Int)(x:FNS)(s:MS):aC Ob:=[cE' [.I t,.I n,.I x.pred,.int .u64 x.pw,.I x.curr,.int .u64 x.cw,.I x.tries,.slice 3 0 x.ul.length 1,.bool x.ab,.I x.me,.I x.frm,.I x.key,.I x.limit,.I x.at',.I x.moved,.O],aX 2 s,aY s,iI' x.ul]
def FnO.fin(t n:Int)(y:FnO):Out Ob:=.ite y.d (.ret (.bool true) (fnD t n y.x y.s)) (.ret (.bool false) (fnH t n y.x y.s))
def aDg(t n:Int)(v:AVal)(g:aC Ob):Option (Prop×FnO):=match v,g with
 | .bool d,[some (.cells [.int .i64 t1,.int .i64 n1,.int .i64 pred,.int .u64 pw,.int .i64 curr,.int .u64 cw,.int .i64 tries,.slice 3 0 ul_l 1,.bool ab,.int .i64 me,.int .i64 frm,.int .i64 key,.int .i64 limit,.int .i64 at',.int .i64 moved,.O]),e1,e2,some (.ints (some .i64) ul)]=>(match cJ 2 [e1,e2]with
   | some (l,s)=>some ((t1=t/\n1=n)/\ul_l=ul.length/\(d=false->at'≠4)/\l=s.xs.length,⟨d,⟨pred,pw,curr,cw,tries,ul,ab,me,frm,key,limit,at',moved,⟨0,0,0,0⟩⟩,s⟩)
   | none=>none)
 | _,_=>none
def aDh(t n:Int)(v:AVal)(g:aC Ob):Option (Prop×FnO):=match v,g with
 | .bool d,[some (.cells [.int .i64 t1,.int .i64 n1,.int .i64 pred,.int .u64 pw,.int .i64 curr,.int .u64 cw,.int .i64 tries,.slice 3 0 ul_l 1,.bool ab,.int .i64 me,.int .i64 frm,.int .i64 key,.int .i64 limit,.int .i64 at',.int .i64 moved,.ptr 4 0]),e1,e2,some (.ints (some .i64) ul),some (.abs (.clear t' n' sub) [])]=>(match cJ 2 [e1,e2]with
   | some (l,s)=>some ((t1=t/\n1=n)/\ul_l=ul.length/\t'=t/\n'=n/\(d=false->at'=4)/\l=s.xs.length,⟨d,⟨pred,pw,curr,cw,tries,ul,ab,me,frm,key,limit,at',moved,sub⟩,s⟩)
   | none=>none)
 | _,_=>none
def DW(t n:Int)(v:AVal)(g:aC Ob):Option (Prop×FnO):=(match aDg t n v g with
 | some r=>some r
 | none=>aDh t n v g)
theorem XD{t n:Int} :bO (obI tbl) 3 (aDg t n) (FnO.fin t n):=by
 intro v g p x hp hq K hK;unfold aDg at hp;split at hp
 case h_2=>cases hp
 rename_i d t1 n1 pred pw curr cw tries ul_l ab me frm key limit at' moved e1 e2 ul;split at hp
 case h_2=>cases hp
 rename_i l s hm;cases hp;obtain⟨⟨rfl,rfl⟩,rfl,hat,hl⟩:=hq;cases aZ hm hl;refine fC hK (fun h=>?_) (fun hd h=>?_)
 ·exact⟨⟨_,_,aKi _ _ _,h⟩⟩
 ·exact⟨⟨_,_,(aF.pack (fnH t1 n1 (⟨pred,pw,curr,cw,tries,ul,ab,me,frm,key,limit,at',moved,⟨0,0,0,0⟩⟩:FNS) s) (.find t1 n1 (⟨pred,pw,curr,cw,tries,ul,ab,me,frm,key,limit,at',moved,⟨0,0,0,0⟩⟩:FNS)) 0 0 (kZ t1 n1 (⟨pred,pw,curr,cw,tries,ul,ab,me,frm,key,limit,at',moved,⟨0,0,0,0⟩⟩:FNS)) [] (by kernel_rfl) rfl (congrArg (Prod.mk 0) (iJ (hat hd))) (by kernel_rfl)),h⟩⟩
theorem XE{t n:Int} :bO (obI tbl) 3 (aDh t n) (FnO.fin t n):=by
 intro v g p x hp hq K hK;unfold aDh at hp;split at hp
 case h_2=>cases hp
 rename_i d t1 n1 pred pw curr cw tries ul_l ab me frm key limit at' moved e1 e2 ul t' n' sub;split at hp
 case h_2=>cases hp
 rename_i l s hm;cases hp;obtain⟨⟨rfl,rfl⟩,rfl,rfl,rfl,hat,hl⟩:=hq;cases aZ hm hl;refine fC hK (fun h=>?_) (fun hd h=>?_)
 ·exact⟨⟨_,_,(aF.weak (d5 _ 0 [15])).trans ((aF.pick (upto 0 4) rfl).trans (aJ8 (by kernel_rfl) (by kernel_rfl))),h⟩⟩
 ·exact⟨⟨_,_,(aF.pack (fnH t' n' (⟨pred,pw,curr,cw,tries,ul,ab,me,frm,key,limit,at',moved,sub⟩:FNS) s) (.find t' n' (⟨pred,pw,curr,cw,tries,ul,ab,me,frm,key,limit,at',moved,sub⟩:FNS)) 0 0 (qE t' n' (⟨pred,pw,curr,cw,tries,ul,ab,me,frm,key,limit,at',moved,sub⟩:FNS)) [] (by kernel_rfl) rfl (congrArg (Prod.mk 0) (H6 (hat hd))) (by kernel_rfl)),h⟩⟩
theorem pC{t n:Int} :bO (obI tbl) 3 (DW t n) (FnO.fin t n):=by
 intro v g p x hp hq K hK;unfold DW at hp;split at hp
 ·rename_i r hr;cases hp;exact XD v g p x hr hq K hK
 exact XE v g p x hp hq K hK
abbrev w0t:=false=false->(0:Int)≠(4:Int)
abbrev w0u(s:MS)(x:FNS):=ieq (aB (aE s.3 x.1) 10 9) (0:Int)=false->(1:Int)≠(4:Int)
abbrev w0v(x:FNS):=ilt x.11 (W (x.5+1))
abbrev w0x(s:MS)(x:FNS):Tr FnO:=.ret {d:=ieq (aB (aE s.3 x.1) 10 9) 0,x:= {x with pred:=0,pw:=aE s.3 x.1,curr:=aB (aE s.3 x.1) 10 9,cw:=0,tries:=W (x.5+1),ab:=ilt x.11 (W (x.5+1)),at':=1,cl:=bY},s:=(dU s x.1) }
abbrev w0y(s:MS)(x:FNS):Tr FnO:=.ret {d:=ieq (aB (aE s.3 x.1) 10 9) 0,x:= {x with pw:=aE s.3 x.1,curr:=aB (aE s.3 x.1) 10 9,cw:=0,tries:=W (x.5+1),ab:=ilt x.11 (W (x.5+1)),at':=1,cl:=bY},s:=(dU s x.1) }
abbrev w13(s:MS)(x:FNS):Tr FnO:=.ret {d:=false,x:= {x with pred:=x.9,pw:=0,curr:=0,cw:=0,tries:=W (x.5+1),ab:=ilt x.11 (W (x.5+1)),at':=0,moved:=0,cl:=bY},s:=(dU s x.1) }
abbrev w14:=true=false->(0:Int)≠(4:Int)
abbrev w15(s:MS)(x:FNS):=ieq (aB (aE s.3 x.1) 19 1) 1
abbrev w16(s:MS)(x:FNS):Tr FnO:=.ret {d:=false,x:= {x with pred:=x.9,tries:=W (x.5+1),ab:=ilt x.11 (W (x.5+1)),at':=0,moved:=0,cl:=bY},s:=(dU s x.1) }
def BX(t n:Int)(x:FNS)(s:MS):Tr FnO:=.pre (q9' s) (.pre True (.ite (w15 s x) (.ite (w0v x) (.ite (w0v x) (.pre ((t=t/\n=n)/\lE' x.6/\w14/\lE' s.3) (.ret {d:=true,x:= {x with pred:=0,pw:=0,curr:=0,cw:=0,tries:=W (x.5+1),ab:=ilt x.11 (W (x.5+1)),at':=0,cl:=bY},s:=(dU s x.1) })) (.pre True (.ite (w15 s x) (.pre ((t=t/\n=n)/\lE' x.6/\w0t/\lE' s.3) (w13 s x)) (.pre ((t=t/\n=n)/\lE' x.6/\(w0u s x)/\lE' s.3) (w0x s x))))) (.ite (w0v x) (.pre ((t=t/\n=n)/\lE' x.6/\w14/\lE' s.3) (.ret {d:=true,x:= {x with tries:=W (x.5+1),ab:=ilt x.11 (W (x.5+1)),at':=0,cl:=bY},s:=(dU s x.1) })) (.pre True (.ite (w15 s x) (.pre ((t=t/\n=n)/\lE' x.6/\w0t/\lE' s.3) (w16 s x)) (.pre ((t=t/\n=n)/\lE' x.6/\(w0u s x)/\lE' s.3) (w0y s x)))))) (.pre True (.ite (w15 s x) (.pre ((t=t/\n=n)/\lE' x.6/\w0t/\lE' s.3) (.ret {d:=false,x:= {x with pred:=x.9,at':=0,moved:=0,cl:=bY},s:=(dU s x.1) })) (.pre ((t=t/\n=n)/\lE' x.6/\(w0u s x)/\lE' s.3) (.ret {d:=ieq (aB (aE s.3 x.1) 10 9) 0,x:= {x with pw:=aE s.3 x.1,curr:=aB (aE s.3 x.1) 10 9,cw:=0,at':=1,cl:=bY},s:=(dU s x.1) }))))))
theorem K7(t n:Int)(x:FNS)(s:MS)(K:FnO->Prop)(h:(BX t n x s).run K):cT' 163 [.ptr 0 0,.ptr 1 0] [cE' [.I t,.I n,.I x.pred,.int .u64 x.pw,.I x.curr,.int .u64 x.cw,.I x.tries,.slice 3 0 x.ul.length 1,.bool x.ab,.I x.me,.I x.frm,.I x.key,.I x.limit,.I 0,.I x.moved,.O],aX 2 s,aY s,iI' x.ul] (bS 3 0 [15] [(.cell 0 7,.ints (some .i64))] (DW t n) K):=by
 exact cM' (E:=EC7) (by kernel_rfl) h
def BY(t n:Int)(x:FNS)(s:MS):Tr FnO:=.pre ((((0:Int)<=t/\t<=(100000:Int))/\((0:Int)<=n/\n<=(100000:Int))/\((-1099511627776:Int)<=x.8/\x.8<=(1099511627776:Int))/\(-1099511627776:Int)<=(1:Int)/\(1:Int)<=(1099511627776:Int))/\True) (.pre ((q9' s)/\True) (.pre ((t=t/\n=n)/\lE' x.6/\(false=false->(2:Int)≠(4:Int))/\lE' (bA s.3 (2*n+5+2*x.8+1) (WU x.3))) (.ret {d:=false,x:= {x with at':=2,cl:=bY},s:=(NC s 2 (2*n+5+2*x.8+1) (WU x.3)) })))
theorem K8(t n:Int)(x:FNS)(s:MS)(K:FnO->Prop)(h:(BY t n x s).run K):cT' 163 [.ptr 0 0,.ptr 1 0] [cE' [.I t,.I n,.I x.pred,.int .u64 x.pw,.I x.curr,.int .u64 x.cw,.I x.tries,.slice 3 0 x.ul.length 1,.bool x.ab,.I x.me,.I x.frm,.I x.key,.I x.limit,.I 1,.I x.moved,.O],aX 2 s,aY s,iI' x.ul] (bS 3 0 [15] [(.cell 0 7,.ints (some .i64))] (DW t n) K):=by
 exact cM' (E:=EC7) (by kernel_rfl) h
def BZ(t n:Int)(x:FNS)(s:MS):Tr FnO:=.pre (q9' s) (.ite (!ieq (aE s.3 x.1) x.2) (.ite (w0v x) (.ite (w0v x) (.pre ((t=t/\n=n)/\lE' x.6/\(true=false->(2:Int)≠(4:Int))/\lE' s.3) (.ret {d:=true,x:= {x with pred:=0,pw:=0,curr:=0,cw:=0,tries:=W (x.5+1),ab:=ilt x.11 (W (x.5+1)),at':=2,cl:=bY},s:=(dU s x.1) })) (.pre True (.ite (w15 s x) (.pre ((t=t/\n=n)/\lE' x.6/\w0t/\lE' s.3) (w13 s x)) (.pre ((t=t/\n=n)/\lE' x.6/\(w0u s x)/\lE' s.3) (w0x s x))))) (.ite (w0v x) (.pre ((t=t/\n=n)/\lE' x.6/\(true=false->(2:Int)≠(4:Int))/\lE' s.3) (.ret {d:=true,x:= {x with tries:=W (x.5+1),ab:=ilt x.11 (W (x.5+1)),at':=2,cl:=bY},s:=(dU s x.1) })) (.pre True (.ite (w15 s x) (.pre ((t=t/\n=n)/\lE' x.6/\w0t/\lE' s.3) (w16 s x)) (.pre ((t=t/\n=n)/\lE' x.6/\(w0u s x)/\lE' s.3) (w0y s x)))))) (.pre ((t=t/\n=n)/\lE' x.6/\(false=false->(3:Int)≠(4:Int))/\lE' s.3) (.ret {d:=false,x:= {x with at':=3,cl:=bY},s:=(dU s x.1) })))
theorem K9(t n:Int)(x:FNS)(s:MS)(K:FnO->Prop)(h:(BZ t n x s).run K):cT' 163 [.ptr 0 0,.ptr 1 0] [cE' [.I t,.I n,.I x.pred,.int .u64 x.pw,.I x.curr,.int .u64 x.cw,.I x.tries,.slice 3 0 x.ul.length 1,.bool x.ab,.I x.me,.I x.frm,.I x.key,.I x.limit,.I 2,.I x.moved,.O],aX 2 s,aY s,iI' x.ul] (bS 3 0 [15] [(.cell 0 7,.ints (some .i64))] (DW t n) K):=by
 exact cM' (E:=EC7) (by kernel_rfl) h
abbrev w0z:=false=false->(4:Int)=(4:Int)
def B0(t n:Int)(x:FNS)(s:MS):Tr FnO:=.pre (q9' s) (.pre True (.ite (!ieq (aB (aE s.3 x.3) 19 1) 1) (.ite (ile x.10 (aB (aE s.3 x.3) 0 10)) (.pre ((t=t/\n=n)/\lE' x.6/\(true=false->(3:Int)≠(4:Int))/\lE' s.3) (.ret {d:=true,x:= {x with cw:=aE s.3 x.3,at':=3,cl:=bY},s:=(dU s x.3) })) (.ite (!ieq (aB (aE s.3 x.3) 19 1) 1) (.pre ((t=t/\n=n)/\lE' x.6/\(false=false->(6:Int)≠(4:Int))/\lE' s.3) (.ret {d:=false,x:= {x with cw:=aE s.3 x.3,at':=6,cl:=bY},s:=(dU s x.3) })) (.ite (!ieq (aB (aE s.3 x.3) 20 5) 0) (.pre (p5 t n x.3/\True) (.pre ((t=t/\n=n)/\lE' x.6/\t=t/\n=n/\w0z/\lE' s.3) (.ret {d:=false,x:= {x with cw:=aE s.3 x.3,at':=4,cl:=yJ t n x.3},s:=(dU s x.3) }))) (.pre True (.ite (!ieq (aB x.2 20 5) 0) (.pre (p5 t n x.1/\True) (.pre ((t=t/\n=n)/\lE' x.6/\t=t/\n=n/\w0z/\lE' s.3) (.ret {d:=false,x:= {x with cw:=aE s.3 x.3,at':=4,cl:=yJ t n x.1},s:=(dU s x.3) }))) (.pre ((t=t/\n=n)/\lE' x.6/\(false=false->(5:Int)≠(4:Int))/\lE' s.3) (.ret {d:=false,x:= {x with cw:=aE s.3 x.3,at':=5,cl:=bY},s:=(dU s x.3) }))))))) (.ite (!ieq (aB (aE s.3 x.3) 19 1) 1) (.pre ((t=t/\n=n)/\lE' x.6/\(false=false->(6:Int)≠(4:Int))/\lE' s.3) (.ret {d:=false,x:= {x with cw:=aE s.3 x.3,at':=6,cl:=bY},s:=(dU s x.3) })) (.ite (!ieq (aB (aE s.3 x.3) 20 5) 0) (.pre (p5 t n x.3/\True) (.pre ((t=t/\n=n)/\lE' x.6/\t=t/\n=n/\w0z/\lE' s.3) (.ret {d:=false,x:= {x with cw:=aE s.3 x.3,at':=4,cl:=yJ t n x.3},s:=(dU s x.3) }))) (.pre True (.ite (!ieq (aB x.2 20 5) 0) (.pre (p5 t n x.1/\True) (.pre ((t=t/\n=n)/\lE' x.6/\t=t/\n=n/\w0z/\lE' s.3) (.ret {d:=false,x:= {x with cw:=aE s.3 x.3,at':=4,cl:=yJ t n x.1},s:=(dU s x.3) }))) (.pre ((t=t/\n=n)/\lE' x.6/\(false=false->(5:Int)≠(4:Int))/\lE' s.3) (.ret {d:=false,x:= {x with cw:=aE s.3 x.3,at':=5,cl:=bY},s:=(dU s x.3) }))))))))
theorem LA(t n:Int)(x:FNS)(s:MS)(K:FnO->Prop)(h:(B0 t n x s).run K):cT' 163 [.ptr 0 0,.ptr 1 0] [cE' [.I t,.I n,.I x.pred,.int .u64 x.pw,.I x.curr,.int .u64 x.cw,.I x.tries,.slice 3 0 x.ul.length 1,.bool x.ab,.I x.me,.I x.frm,.I x.key,.I x.limit,.I 3,.I x.moved,.O],aX 2 s,aY s,iI' x.ul] (bS 3 0 [15] [(.cell 0 7,.ints (some .i64))] (DW t n) K):=by
 exact cM' (E:=EC7) (by kernel_rfl) h
abbrev w11(x:FNS):=ilt x.11 (W (x.5+1))=false->(0:Int)≠(4:Int)
def B1(t n:Int)(x:FNS)(s:MS):Tr FnO:=.pre (lE' s.3/\OV t n x.14 s) (.ite (oM t n x.14 s).1 (.ite (w0v x) (.pre ((t=t/\n=n)/\lE' x.6/\(w11 x)/\lE' (ClO.s (oM t n x.14 s)).3) (.ret {d:=ilt x.11 (W (x.5+1)),x:= {x with pred:=0,pw:=0,curr:=0,cw:=0,tries:=W (x.5+1),ab:=ilt x.11 (W (x.5+1)),at':=0,cl:=bY},s:=(oM t n x.14 s).3})) (.pre ((t=t/\n=n)/\lE' x.6/\(w11 x)/\lE' (ClO.s (oM t n x.14 s)).3) (.ret {d:=ilt x.11 (W (x.5+1)),x:= {x with tries:=W (x.5+1),ab:=ilt x.11 (W (x.5+1)),at':=0,cl:=bY},s:=(oM t n x.14 s).3}))) (.pre ((t=t/\n=n)/\lE' x.6/\t=t/\n=n/\w0z/\lE' (ClO.s (oM t n x.14 s)).3) (.ret {d:=false,x:= {x with at':=4,cl:=(oM t n x.14 s).2},s:=(oM t n x.14 s).3})))
theorem LB(t n:Int)(x:FNS)(s:MS)(K:FnO->Prop)(h:(B1 t n x s).run K):cT' 163 [.ptr 0 0,.ptr 1 0] [cE' [.I t,.I n,.I x.pred,.int .u64 x.pw,.I x.curr,.int .u64 x.cw,.I x.tries,.slice 3 0 x.ul.length 1,.bool x.ab,.I x.me,.I x.frm,.I x.key,.I x.limit,.I 4,.I x.moved,.ptr 4 0],aX 2 s,aY s,iI' x.ul,some (.abs (.clear t n x.cl) [])] (bS 3 0 [15] [(.cell 0 7,.ints (some .i64))] (DW t n) K):=by
 exact cM' (E:=EC7) (by kernel_rfl) h
abbrev w0s(x:FNS):=aW (aB x.2 25 18)
abbrev w0w(x:FNS):=ieq (aB x.2 19 1) 1
abbrev w0r(s:MS)(x:FNS):=pQ s x.1 x.2 (bif bif aN (aB x.2 0 10) 10 then bif aN (aB x.4 10 9) 9 then bif aN (aB x.2 20 5) 5 then aN (w0s x) 18 else false else false else false then cR (aB x.2 0 10) (aB x.4 10 9) (w0w x) (aB x.2 20 5) (w0s x)else 0)
def B2(t n:Int)(x:FNS)(s:MS):Tr FnO:=.pre True (.pre True (.pre ((0:Int)<=aB x.2 25 18/\aB x.2 25 (18:Int)<=(1000000:Int)) (.pre True (.pre ((q9' s)/\True) (.ite (!bJ s.3 x.1 x.2) (.ite (w0v x) (.pre ((t=t/\n=n)/\lE' x.6/\(w11 x)/\lE' (bif bJ s.3 x.1 x.2 then bA s.3 x.1 (bif bif aN (aB x.2 0 10) 10 then bif aN (aB x.4 10 9) 9 then bif aN (aB x.2 20 5) 5 then aN (w0s x) 18 else false else false else false then cR (aB x.2 0 10) (aB x.4 10 9) (w0w x) (aB x.2 20 5) (w0s x)else 0)else s.3)) (.ret {d:=ilt x.11 (W (x.5+1)),x:= {x with pred:=0,pw:=0,curr:=0,cw:=0,tries:=W (x.5+1),ab:=ilt x.11 (W (x.5+1)),at':=0,cl:=bY},s:=(w0r s x) })) (.pre ((t=t/\n=n)/\lE' x.6/\(w11 x)/\lE' (bif bJ s.3 x.1 x.2 then bA s.3 x.1 (bif bif aN (aB x.2 0 10) 10 then bif aN (aB x.4 10 9) 9 then bif aN (aB x.2 20 5) 5 then aN (w0s x) 18 else false else false else false then cR (aB x.2 0 10) (aB x.4 10 9) (w0w x) (aB x.2 20 5) (w0s x)else 0)else s.3)) (.ret {d:=ilt x.11 (W (x.5+1)),x:= {x with tries:=W (x.5+1),ab:=ilt x.11 (W (x.5+1)),at':=0,cl:=bY},s:=(w0r s x) }))) (.pre (0=0/\lE' x.6/\1=1/\x.6.length+(1:Nat)<=(4294967296:Nat)) (.ite (ile (W (x.13+1)) n) (.pre True (.ite (ieq (aB (bif bif aN (aB x.2 0 10) 10 then bif aN (aB x.4 10 9) 9 then bif aN (aB x.2 20 5) 5 then aN (w0s x) 18 else false else false else false then cR (aB x.2 0 10) (aB x.4 10 9) (w0w x) (aB x.2 20 5) (w0s x)else 0) 19 1) 1) (.pre ((t=t/\n=n)/\x.6.length+(1:Nat)=List.length (x.6++ [x.3])/\w0t/\lE' (bif bJ s.3 x.1 x.2 then bA s.3 x.1 (bif bif aN (aB x.2 0 10) 10 then bif aN (aB x.4 10 9) 9 then bif aN (aB x.2 20 5) 5 then aN (w0s x) 18 else false else false else false then cR (aB x.2 0 10) (aB x.4 10 9) (w0w x) (aB x.2 20 5) (w0s x)else 0)else s.3)) (.ret {d:=false,x:= {x with pred:=x.9,ul:=x.6++ [x.3],at':=0,moved:=0,cl:=bY},s:=(w0r s x) })) (.pre ((t=t/\n=n)/\x.6.length+(1:Nat)=List.length (x.6++ [x.3])/\(ieq (aB (bif bif aN (aB x.2 0 10) 10 then bif aN (aB x.4 10 9) 9 then bif aN (aB x.2 20 5) 5 then aN (w0s x) 18 else false else false else false then cR (aB x.2 0 10) (aB x.4 10 9) (w0w x) (aB x.2 20 5) (w0s x)else 0) 10 9) (0:Int)=false->(1:Int)≠(4:Int))/\lE' (bif bJ s.3 x.1 x.2 then bA s.3 x.1 (bif bif aN (aB x.2 0 10) 10 then bif aN (aB x.4 10 9) 9 then bif aN (aB x.2 20 5) 5 then aN (w0s x) 18 else false else false else false then cR (aB x.2 0 10) (aB x.4 10 9) (w0w x) (aB x.2 20 5) (w0s x)else 0)else s.3)) (.ret {d:=ieq (aB (bif bif aN (aB x.2 0 10) 10 then bif aN (aB x.4 10 9) 9 then bif aN (aB x.2 20 5) 5 then aN (w0s x) 18 else false else false else false then cR (aB x.2 0 10) (aB x.4 10 9) (w0w x) (aB x.2 20 5) (w0s x)else 0) 10 9) 0,x:= {x with pw:=bif bif aN (aB x.2 0 10) 10 then bif aN (aB x.4 10 9) 9 then bif aN (aB x.2 20 5) 5 then aN (w0s x) 18 else false else false else false then cR (aB x.2 0 10) (aB x.4 10 9) (w0w x) (aB x.2 20 5) (w0s x)else 0,curr:=aB (bif bif aN (aB x.2 0 10) 10 then bif aN (aB x.4 10 9) 9 then bif aN (aB x.2 20 5) 5 then aN (w0s x) 18 else false else false else false then cR (aB x.2 0 10) (aB x.4 10 9) (w0w x) (aB x.2 20 5) (w0s x)else 0) 10 9,cw:=0,ul:=x.6++ [x.3],at':=1,moved:=W (x.13+1),cl:=bY},s:=(w0r s x) })))) (.ite (w0v x) (.ite (w0v x) (.pre ((t=t/\n=n)/\x.6.length+(1:Nat)=List.length (x.6++ [x.3])/\(true=false->(5:Int)≠(4:Int))/\lE' (bif bJ s.3 x.1 x.2 then bA s.3 x.1 (bif bif aN (aB x.2 0 10) 10 then bif aN (aB x.4 10 9) 9 then bif aN (aB x.2 20 5) 5 then aN (w0s x) 18 else false else false else false then cR (aB x.2 0 10) (aB x.4 10 9) (w0w x) (aB x.2 20 5) (w0s x)else 0)else s.3)) (.ret {d:=true,x:= {x with pred:=0,pw:=0,curr:=0,cw:=0,tries:=W (x.5+1),ul:=x.6++ [x.3],ab:=ilt x.11 (W (x.5+1)),at':=5,moved:=W (x.13+1),cl:=bY},s:=(w0r s x) })) (.pre ((t=t/\n=n)/\x.6.length+(1:Nat)=List.length (x.6++ [x.3])/\w0t/\lE' (bif bJ s.3 x.1 x.2 then bA s.3 x.1 (bif bif aN (aB x.2 0 10) 10 then bif aN (aB x.4 10 9) 9 then bif aN (aB x.2 20 5) 5 then aN (w0s x) 18 else false else false else false then cR (aB x.2 0 10) (aB x.4 10 9) (w0w x) (aB x.2 20 5) (w0s x)else 0)else s.3)) (.ret {d:=false,x:= {x with pred:=x.9,pw:=0,curr:=0,cw:=0,tries:=W (x.5+1),ul:=x.6++ [x.3],ab:=ilt x.11 (W (x.5+1)),at':=0,moved:=0,cl:=bY},s:=(w0r s x) }))) (.ite (w0v x) (.pre ((t=t/\n=n)/\x.6.length+(1:Nat)=List.length (x.6++ [x.3])/\(true=false->(5:Int)≠(4:Int))/\lE' (bif bJ s.3 x.1 x.2 then bA s.3 x.1 (bif bif aN (aB x.2 0 10) 10 then bif aN (aB x.4 10 9) 9 then bif aN (aB x.2 20 5) 5 then aN (w0s x) 18 else false else false else false then cR (aB x.2 0 10) (aB x.4 10 9) (w0w x) (aB x.2 20 5) (w0s x)else 0)else s.3)) (.ret {d:=true,x:= {x with tries:=W (x.5+1),ul:=x.6++ [x.3],ab:=ilt x.11 (W (x.5+1)),at':=5,moved:=W (x.13+1),cl:=bY},s:=(w0r s x) })) (.pre ((t=t/\n=n)/\x.6.length+(1:Nat)=List.length (x.6++ [x.3])/\w0t/\lE' (bif bJ s.3 x.1 x.2 then bA s.3 x.1 (bif bif aN (aB x.2 0 10) 10 then bif aN (aB x.4 10 9) 9 then bif aN (aB x.2 20 5) 5 then aN (w0s x) 18 else false else false else false then cR (aB x.2 0 10) (aB x.4 10 9) (w0w x) (aB x.2 20 5) (w0s x)else 0)else s.3)) (.ret {d:=false,x:= {x with pred:=x.9,tries:=W (x.5+1),ul:=x.6++ [x.3],ab:=ilt x.11 (W (x.5+1)),at':=0,moved:=0,cl:=bY},s:=(w0r s x) })))))))))))
theorem LC(t n:Int)(x:FNS)(s:MS)(K:FnO->Prop)(h:(B2 t n x s).run K):cT' 163 [.ptr 0 0,.ptr 1 0] [cE' [.I t,.I n,.I x.pred,.int .u64 x.pw,.I x.curr,.int .u64 x.cw,.I x.tries,.slice 3 0 x.ul.length 1,.bool x.ab,.I x.me,.I x.frm,.I x.key,.I x.limit,.I 5,.I x.moved,.O],aX 2 s,aY s,iI' x.ul] (bS 3 0 [15] [(.cell 0 7,.ints (some .i64))] (DW t n) K):=by
 exact cM' (E:=EC7) (by kernel_rfl) h
abbrev w17(n:Int)(s:MS)(x:FNS):=bA s.3 (2*n+5+2*x.8+0) (WU x.3)
abbrev w19(n:Int)(s:MS)(x:FNS):=NC s 2 (2*n+5+2*x.8+0) (WU x.3)
def B3(t n:Int)(x:FNS)(s:MS):Tr FnO:=.pre ((((0:Int)<=t/\t<=(100000:Int))/\((0:Int)<=n/\n<=(100000:Int))/\((-1099511627776:Int)<=x.8/\x.8<=(1099511627776:Int))/\(-1099511627776:Int)<=(0:Int)/\(0:Int)<=(1099511627776:Int))/\True) (.pre ((q9' s)/\True) (.ite (ile (W (x.13+1)) n) (.pre ((t=t/\n=n)/\lE' x.6/\w0t/\lE' (w17 n s x)) (.ret {d:=false,x:= {x with pred:=x.3,at':=0,moved:=W (x.13+1),cl:=bY},s:=(w19 n s x) })) (.ite (w0v x) (.ite (w0v x) (.pre ((t=t/\n=n)/\lE' x.6/\w14/\lE' (w17 n s x)) (.ret {d:=true,x:= {x with pred:=0,pw:=0,curr:=0,cw:=0,tries:=W (x.5+1),ab:=ilt x.11 (W (x.5+1)),at':=0,moved:=W (x.13+1),cl:=bY},s:=(w19 n s x) })) (.pre ((t=t/\n=n)/\lE' x.6/\w0t/\lE' (w17 n s x)) (.ret {d:=false,x:= {x with pred:=x.9,pw:=0,curr:=0,cw:=0,tries:=W (x.5+1),ab:=ilt x.11 (W (x.5+1)),at':=0,moved:=0,cl:=bY},s:=(w19 n s x) }))) (.ite (w0v x) (.pre ((t=t/\n=n)/\lE' x.6/\w14/\lE' (w17 n s x)) (.ret {d:=true,x:= {x with pred:=x.3,tries:=W (x.5+1),ab:=ilt x.11 (W (x.5+1)),at':=0,moved:=W (x.13+1),cl:=bY},s:=(w19 n s x) })) (.pre ((t=t/\n=n)/\lE' x.6/\w0t/\lE' (w17 n s x)) (.ret {d:=false,x:= {x with pred:=x.9,tries:=W (x.5+1),ab:=ilt x.11 (W (x.5+1)),at':=0,moved:=0,cl:=bY},s:=(w19 n s x) }))))))
theorem LD(t n:Int)(x:FNS)(s:MS)(K:FnO->Prop)(h:(B3 t n x s).run K):cT' 163 [.ptr 0 0,.ptr 1 0] [cE' [.I t,.I n,.I x.pred,.int .u64 x.pw,.I x.curr,.int .u64 x.cw,.I x.tries,.slice 3 0 x.ul.length 1,.bool x.ab,.I x.me,.I x.frm,.I x.key,.I x.limit,.I 6,.I x.moved,.O],aX 2 s,aY s,iI' x.ul] (bS 3 0 [15] [(.cell 0 7,.ints (some .i64))] (DW t n) K):=by
 exact cM' (E:=EC7) (by kernel_rfl) h
def fnT(t n:Int)(x:FNS)(s:MS):Tr FnO:=
 bif ieq x.at' 0 then BX t n x s else
 bif ieq x.at' 1 then BY t n x s else
 bif ieq x.at' 2 then BZ t n x s else
 bif ieq x.at' 3 then B0 t n x s else
 bif ieq x.at' 4 then B1 t n x s else
 bif ieq x.at' 5 then B2 t n x s else
 bif ieq x.at' 6 then B3 t n x s else .pre False (.ret default)
def aM(t n:Int)(x:FNS)(s:MS):FnO:=(fnT t n x s).val
def K6(t n:Int)(x:FNS)(s:MS):Prop:=(fnT t n x s).ok
theorem XG(t n:Int)(x:FNS)(s:MS)(K:AVal->aC Ob->Prop)(h:(fnT t n x s).run (fun y=>(FnO.fin t n y).run K)):cT' 163 [.ptr 0 0,.ptr 1 0] (fnH t n x s) K:=by
 unfold fnT at h
 by_cases e:x.at'=0
 ·rw [e]at h;have h:(BX t n x s).run _:=h;refine aJ2 (root:=0) (pos:=[15]) (cs:=[(.cell 0 7,.ints (some .i64))]) (parse:=DW t n) (fin:=FnO.fin t n) pC (aQ.unpack (.find t n x) 0 0 (kZ t n x) [] rfl (congrArg (Prod.mk 0) (iJ (by omega))) (by kernel_rfl) rfl) ?_
  have q:=K7 t n x s _ h;rw [<-e]at q;exact q
 rw [bK e]at h
 by_cases e:x.at'=1
 ·rw [e]at h;have h:(BY t n x s).run _:=h;refine aJ2 (root:=0) (pos:=[15]) (cs:=[(.cell 0 7,.ints (some .i64))]) (parse:=DW t n) (fin:=FnO.fin t n) pC (aQ.unpack (.find t n x) 0 0 (kZ t n x) [] rfl (congrArg (Prod.mk 0) (iJ (by omega))) (by kernel_rfl) rfl) ?_
  have q:=K8 t n x s _ h;rw [<-e]at q;exact q
 rw [bK e]at h
 by_cases e:x.at'=2
 ·rw [e]at h;have h:(BZ t n x s).run _:=h;refine aJ2 (root:=0) (pos:=[15]) (cs:=[(.cell 0 7,.ints (some .i64))]) (parse:=DW t n) (fin:=FnO.fin t n) pC (aQ.unpack (.find t n x) 0 0 (kZ t n x) [] rfl (congrArg (Prod.mk 0) (iJ (by omega))) (by kernel_rfl) rfl) ?_
  have q:=K9 t n x s _ h;rw [<-e]at q;exact q
 rw [bK e]at h
 by_cases e:x.at'=3
 ·rw [e]at h;have h:(B0 t n x s).run _:=h;refine aJ2 (root:=0) (pos:=[15]) (cs:=[(.cell 0 7,.ints (some .i64))]) (parse:=DW t n) (fin:=FnO.fin t n) pC (aQ.unpack (.find t n x) 0 0 (kZ t n x) [] rfl (congrArg (Prod.mk 0) (iJ (by omega))) (by kernel_rfl) rfl) ?_
  have q:=LA t n x s _ h;rw [<-e]at q;exact q
 rw [bK e]at h
 by_cases e:x.at'=4
 ·rw [e]at h;have h:(B1 t n x s).run _:=h;refine aJ2 (root:=0) (pos:=[15]) (cs:=[(.cell 0 7,.ints (some .i64))]) (parse:=DW t n) (fin:=FnO.fin t n) pC (aQ.unpack (.find t n x) 0 0 (qE t n x) [] rfl (congrArg (Prod.mk 0) (H6 e)) (by kernel_rfl) rfl) ?_
  have q:=LB t n x s _ h;rw [<-e]at q;exact q
 rw [bK e]at h
 by_cases e:x.at'=5
 ·rw [e]at h;have h:(B2 t n x s).run _:=h;refine aJ2 (root:=0) (pos:=[15]) (cs:=[(.cell 0 7,.ints (some .i64))]) (parse:=DW t n) (fin:=FnO.fin t n) pC (aQ.unpack (.find t n x) 0 0 (kZ t n x) [] rfl (congrArg (Prod.mk 0) (iJ (by omega))) (by kernel_rfl) rfl) ?_
  have q:=LC t n x s _ h;rw [<-e]at q;exact q
 rw [bK e]at h
 by_cases e:x.at'=6
 ·rw [e]at h;have h:(B3 t n x s).run _:=h;refine aJ2 (root:=0) (pos:=[15]) (cs:=[(.cell 0 7,.ints (some .i64))]) (parse:=DW t n) (fin:=FnO.fin t n) pC (aQ.unpack (.find t n x) 0 0 (kZ t n x) [] rfl (congrArg (Prod.mk 0) (iJ (by omega))) (by kernel_rfl) rfl) ?_
  have q:=LD t n x s _ h;rw [<-e]at q;exact q
 rw [bK e]at h;exact h.1.elim
noncomputable def fnS:aH Ob:=fun args h=>match args,h with
 | [.ptr 0 0,.ptr 1 0],[some (.abs (.find t n x) []),e1,e2]=>(match cJ 2 [e1,e2]with
   | some (l,s)=>some (.pre (l=s.xs.length/\K6 t n x s) (FnO.fin t n (aM t n x s)))
   | none=>none)
 | _,_=>none
theorem aGs:sT' 163 fnS:=by
 intro args h o ho K hK;unfold fnS at ho;split at ho
 case h_2=>cases ho
 split at ho<;>cases ho
 rename_i hm;obtain⟨⟨hl,ok⟩,hK⟩:=hK;cases aZ hm hl;exact XG _ _ _ _ K (aJ5 ok hK)
def aDe(t n:Int)(v:AVal)(g:aC Ob):Option (Prop×FNS):=match v,g with
 | .ptr 0 0,[some (.cells [.int .i64 t1,.int .i64 n1,.int .i64 pred,.int .u64 pw,.int .i64 curr,.int .u64 cw,.int .i64 tries,.slice 1 0 ul_l 1,.bool ab,.int .i64 me,.int .i64 frm,.int .i64 key,.int .i64 limit,.int .i64 at',.int .i64 moved,.O]),some (.ints (some .i64) ul)]=>some ((t1=t/\n1=n)/\ul_l=ul.length/\(at'≠4),(⟨pred,pw,curr,cw,tries,ul,ab,me,frm,key,limit,at',moved,⟨0,0,0,0⟩⟩:FNS))
 | _,_=>none
abbrev XB(t n:Int)(y:FNS):aC Ob:=[some (.abs (.find t n y) [])]
theorem XC{t n:Int} :bO (obI tbl) 0 (aDe t n) (fun y=>.ret (.ptr 0 0) (XB t n y)):=by
 intro v g p x hp hq K hK;unfold aDe at hp;split at hp
 case h_2=>cases hp
 rename_i t1 n1 pred pw curr cw tries ul_l ab me frm key limit at' moved ul;cases hp;obtain⟨⟨rfl,rfl⟩,rfl,hat⟩:=hq;exact⟨⟨_,_,aF.pack (XB t1 n1 (⟨pred,pw,curr,cw,tries,ul,ab,me,frm,key,limit,at',moved,⟨0,0,0,0⟩⟩:FNS)) (.find t1 n1 (⟨pred,pw,curr,cw,tries,ul,ab,me,frm,key,limit,at',moved,⟨0,0,0,0⟩⟩:FNS)) 0 0 (kZ t1 n1 (⟨pred,pw,curr,cw,tries,ul,ab,me,frm,key,limit,at',moved,⟨0,0,0,0⟩⟩:FNS)) [] (by kernel_rfl) rfl (congrArg (Prod.mk 0) (iJ hat)) (by kernel_rfl),hK⟩⟩
abbrev w1a(hd n:Int):=((0:Int)<=n/\n<=(100000:Int))/\(-1000000:Int)<=hd/\hd<=(1000000:Int)
def PZ(t n:Int)(me hd key lim:Int):Tr FNS:=.pre (w1a hd n) (.pre (w1a hd n) (.pre ((t=t/\n=n)/\0=0/\(0:Int)≠(4:Int)) (.ret {pred:=n+1+hd,pw:=0,curr:=0,cw:=0,tries:=0,ul:=[],ab:=false,me:=me,frm:=n+1+hd,key:=key,limit:=lim,at':=0,moved:=0,cl:=bY})))
def u3(t n:Int)(me hd key lim:Int):FNS:=(PZ t n me hd key lim).val
def oO(t n:Int)(me hd key lim:Int):Prop:=(PZ t n me hd key lim).ok
def fnNS:aH Ob:=fun args h=>match args,h with
 | [.agg [.int .i64 t,.int .i64 n],.int .i64 me,.int .i64 hd,.int .i64 key,.int .i64 lim],[]=>some (.pre (oO t n me hd key lim) (.ret (.ptr 0 0) (XB t n (u3 t n me hd key lim))))
 | _,_=>none
theorem aDf:sT' 227 fnNS:=by
 intro args h o ho K hK;unfold fnNS at ho;split at ho<;>cases ho
 rename_i t n me hd key lim;obtain⟨ok,hK⟩:=hK;refine aKf (root:=0) (pos:=[15]) (cs:=[(.cell 0 7,.ints (some .i64))]) (parse:=aDe t n) XC ?_;exact cM' (E:=EC7) (q:=(PZ t n me hd key lim).run (fun y=>(Out.ret (.ptr 0 0) (XB t n y)).run K)) (by kernel_rfl) (aJ5 ok hK)
noncomputable def EF:=((EC7.addS 163 fnS aGs).addS 227 fnNS aDf)
def retC:aH Ob:=fun args h=>match args,h with
 | [.ptr 0 0,.slice 2 0 k 1],[e1,e2,some (.cells [.int .i64 p])]=>(match lB 1 [e1,e2]with
   | some (l,t,n,st)=>some (.pre (l=st.R.length/\k=1/\st.R.length+1<=4294967296) (.ret (.tup []) [cE' [.I t,.I n,.I st.me,.I st.sp,.slice 3 0 (st.R.length+1) 1],none,cE' [.I p],iI' (st.R++ [p])]))
   | none=>none)
 | _,_=>none
theorem ZQ:sT' 164 retC:=by
 intro args h o ho K hK;unfold retC at ho;split at ho
 case h_2=>cases ho
 rename_i k e1 e2 p;split at ho<;>cases ho
 rename_i l t n st hs;obtain⟨⟨hl,rfl,hle⟩,hK⟩:=hK;have hh:=b9 hs hl;cases hh;refine aJ1 (cM' (E:=EF) (q:=(0=0/\lE' st.3/\1=1/\st.3.length+(1:Nat)<=(4294967296:Nat))/\K (.tup []) [cE' [.I t,.I n,.I st.1,.I st.2,.slice 3 0 (st.3.length+1) 1],none,cE' [.I p],iI' (st.3++ [p])]) (by kernel_rfl) ?_)
 exact⟨⟨rfl,rfl,rfl,hle⟩,hK⟩
def retI:aH Ob:=fun args h=>match args,h with
 | [.ptr 0 0,.slice 2 0 k 1],[e1,e2,some (.ints (some .i64) xs)]=>(match lB 1 [e1,e2]with
   | some (l,t,n,st)=>some (.pre (l=st.R.length/\k=xs.length/\st.R.length+xs.length<=4294967296) (.ret (.tup []) [cE' [.I t,.I n,.I st.me,.I st.sp,.slice 3 0 (st.R.length+xs.length) 1],none,iI' xs,iI' (st.R++xs)]))
   | none=>none)
 | _,_=>none
theorem ZR:sT' 164 retI:=by
 intro args h o ho K hK;unfold retI at ho;split at ho
 case h_2=>cases ho
 rename_i k e1 e2 xs;split at ho<;>cases ho
 rename_i l t n st hs;obtain⟨⟨hl,rfl,hle⟩,hK⟩:=hK;have hh:=b9 hs hl;cases hh;refine aJ1 (cM' (E:=EF) (q:=(0+xs.length<=xs.length/\0=0/\lE' st.3/\1=1/\st.3.length+xs.length<=(4294967296:Nat))/\K (.tup []) [cE' [.I t,.I n,.I st.1,.I st.2,.slice 3 0 (st.3.length+xs.length) 1],none,iI' xs,iI' (st.3++List.take xs.length (List.drop 0 xs))]) (by kernel_rfl) ?_)
 refine⟨⟨by omega,rfl,rfl,rfl,hle⟩,?_⟩
 rw [List.drop_zero,List.take_length];exact hK
noncomputable def retS:aH Ob:=aH.or retC retI
theorem aEE:sT' 164 retS:=aKs ZQ ZR
noncomputable def ER:=EF.addS 164 retS aEE
structure FtO where
 d:Bool
 x:FTS
 st:STS
 s:MS
instance:Inhabited FtO:=⟨⟨false,dC,⟨0,0,[]⟩,⟨0,0,[],0,0,0,0,0,false⟩⟩⟩
instance:Inhabited FTS:=⟨dC⟩
abbrev ftH(t n:Int)(x:FTS)(st:STS)(s:MS):aC Ob:=[some (.abs (.fast t n x) [1]),some (.abs (.store t n st) []),aX 3 s,aY s]
abbrev ftD(t n:Int)(x:FTS)(st:STS)(s:MS):aC Ob:=[cE' [.ptr 1 0,.I x.code,.bool x.okk,.I x.val,.bool x.failed,.I x.tries,.I x.sh,.I x.kd,.I x.ky,.I x.most,.I x.at',.bool x.p.now,.I x.p.code,.bool x.p.okk,.I x.p.val,.I x.p.addr,.int .u64 x.p.old,.I x.p.nxt,.bool x.p.mark,.I x.p.pops,.O,.O,.O],some (.abs (.store t n st) []),aX 3 s,aY s]
def FtO.fin(t n:Int)(y:FtO):Out Ob:=.ite y.d (.ret (.bool true) (ftD t n y.x y.st y.s)) (.ret (.bool false) (ftH t n y.x y.st y.s))
def aDm(t n:Int)(v:AVal)(g:aC Ob):Option (Prop×FtO):=match v,g with
 | .bool d,[some (.cells [.ptr 1 0,.int .i64 code,.bool okk,.int .i64 val,.bool failed,.int .i64 tries,.int .i64 sh,.int .i64 kd,.int .i64 ky,.int .i64 most,.int .i64 at',.bool p_now,.int .i64 p_code,.bool p_okk,.int .i64 p_val,.int .i64 p_addr,.int .u64 p_old,.int .i64 p_nxt,.bool p_mark,.int .i64 p_pops,.O,.O,.O]),e1,e3,e4,e2]=>(match lB 4 [e1,e2],cJ 3 [e3,e4]with
   | some (l2,t2,n2,st),some (l,s)=>some ((t2=t/\n2=n)/\(d=false->at'≠0/\at'≠1/\at'≠2)/\l=s.xs.length/\l2=st.R.length,⟨d,⟨code,okk,val,failed,tries,sh,kd,ky,most,at',⟨p_now,p_code,p_okk,p_val,p_addr,p_old,p_nxt,p_mark,p_pops⟩,bP,⟨0,0,0,0⟩,⟨0,0,0,false⟩⟩,st,s⟩)
   | _,_=>none)
 | _,_=>none
def aDn(t n:Int)(v:AVal)(g:aC Ob):Option (Prop×FtO):=match v,g with
 | .bool d,[some (.cells [.ptr 1 0,.int .i64 code,.bool okk,.int .i64 val,.bool failed,.int .i64 tries,.int .i64 sh,.int .i64 kd,.int .i64 ky,.int .i64 most,.int .i64 at',.bool p_now,.int .i64 p_code,.bool p_okk,.int .i64 p_val,.int .i64 p_addr,.int .u64 p_old,.int .i64 p_nxt,.bool p_mark,.int .i64 p_pops,.ptr 4 0,.O,.O]),e1,e3,e4,some (.abs (.find t' n' sub) []),e2]=>(match lB 5 [e1,e2],cJ 3 [e3,e4]with
   | some (l2,t2,n2,st),some (l,s)=>some ((t2=t/\n2=n)/\t'=t/\n'=n/\(d=false->at'=0)/\l=s.xs.length/\l2=st.R.length,⟨d,⟨code,okk,val,failed,tries,sh,kd,ky,most,at',⟨p_now,p_code,p_okk,p_val,p_addr,p_old,p_nxt,p_mark,p_pops⟩,sub,⟨0,0,0,0⟩,⟨0,0,0,false⟩⟩,st,s⟩)
   | _,_=>none)
 | _,_=>none
def aDo(t n:Int)(v:AVal)(g:aC Ob):Option (Prop×FtO):=match v,g with
 | .bool d,[some (.cells [.ptr 1 0,.int .i64 code,.bool okk,.int .i64 val,.bool failed,.int .i64 tries,.int .i64 sh,.int .i64 kd,.int .i64 ky,.int .i64 most,.int .i64 at',.bool p_now,.int .i64 p_code,.bool p_okk,.int .i64 p_val,.int .i64 p_addr,.int .u64 p_old,.int .i64 p_nxt,.bool p_mark,.int .i64 p_pops,.O,.ptr 4 0,.O]),e1,e3,e4,some (.abs (.clear t' n' sub) []),e2]=>(match lB 5 [e1,e2],cJ 3 [e3,e4]with
   | some (l2,t2,n2,st),some (l,s)=>some ((t2=t/\n2=n)/\t'=t/\n'=n/\(d=false->at'=1)/\l=s.xs.length/\l2=st.R.length,⟨d,⟨code,okk,val,failed,tries,sh,kd,ky,most,at',⟨p_now,p_code,p_okk,p_val,p_addr,p_old,p_nxt,p_mark,p_pops⟩,bP,sub,⟨0,0,0,false⟩⟩,st,s⟩)
   | _,_=>none)
 | _,_=>none
def aDp(t n:Int)(v:AVal)(g:aC Ob):Option (Prop×FtO):=match v,g with
 | .bool d,[some (.cells [.ptr 1 0,.int .i64 code,.bool okk,.int .i64 val,.bool failed,.int .i64 tries,.int .i64 sh,.int .i64 kd,.int .i64 ky,.int .i64 most,.int .i64 at',.bool p_now,.int .i64 p_code,.bool p_okk,.int .i64 p_val,.int .i64 p_addr,.int .u64 p_old,.int .i64 p_nxt,.bool p_mark,.int .i64 p_pops,.O,.O,.ptr 4 0]),e1,e3,e4,some (.abs (.prepare t' n' sub) [1]),e2]=>(match lB 5 [e1,e2],cJ 3 [e3,e4]with
   | some (l2,t2,n2,st),some (l,s)=>some ((t2=t/\n2=n)/\t'=t/\n'=n/\(d=false->at'=2)/\l=s.xs.length/\l2=st.R.length,⟨d,⟨code,okk,val,failed,tries,sh,kd,ky,most,at',⟨p_now,p_code,p_okk,p_val,p_addr,p_old,p_nxt,p_mark,p_pops⟩,bP,⟨0,0,0,0⟩,sub⟩,st,s⟩)
   | _,_=>none)
 | _,_=>none
def T3(t n:Int)(v:AVal)(g:aC Ob):Option (Prop×FtO):=(match aDm t n v g with
 | some r=>some r
 | none=>(match aDn t n v g with
 | some r=>some r
 | none=>(match aDo t n v g with
 | some r=>some r
 | none=>aDp t n v g)))
theorem XL{t n:Int} :bO (obI tbl) 4 (aDm t n) (FtO.fin t n):=by
 intro v g p x hp hq K hK;unfold aDm at hp;split at hp
 case h_2=>cases hp
 rename_i d code okk val failed tries sh kd ky most at' p_now p_code p_okk p_val p_addr p_old p_nxt p_mark p_pops e1 e3 e4 e2;split at hp
 case h_2=>cases hp
 rename_i l2 t2 n2 st l s hs hm;cases hp;obtain⟨⟨rfl,rfl⟩,hat,hl,hl2⟩:=hq;cases aZ hm hl;cases b9 hs hl2;refine fC hK (fun h=>?_) (fun hd h=>?_)
 ·exact tkP h (.store t2 n2 st) 1 0 (dK t2 n2 st) []
 ·exact wJ h (.store t2 n2 st) 1 0 (dK t2 n2 st) [] 0 [1] rfl (congrArg (Prod.mk 1) (BV (hat hd)))
theorem XM{t n:Int} :bO (obI tbl) 4 (aDn t n) (FtO.fin t n):=by
 intro v g p x hp hq K hK;unfold aDn at hp;split at hp
 case h_2=>cases hp
 rename_i d code okk val failed tries sh kd ky most at' p_now p_code p_okk p_val p_addr p_old p_nxt p_mark p_pops e1 e3 e4 t' n' sub e2;split at hp
 case h_2=>cases hp
 rename_i l2 t2 n2 st l s hs hm;cases hp;obtain⟨⟨rfl,rfl⟩,rfl,rfl,hat,hl,hl2⟩:=hq;cases aZ hm hl;cases b9 hs hl2;refine fC hK (fun h=>?_) (fun hd h=>?_)
 ·exact DM h [20,21,22] [0,1,2,3,5] (.store t' n' st) 1 0 (dK t' n' st) []
 ·exact wJ h (.store t' n' st) 1 0 (dK t' n' st) [] 0 [1] rfl (congrArg (Prod.mk 1) (yW (hat hd)))
theorem XN{t n:Int} :bO (obI tbl) 4 (aDo t n) (FtO.fin t n):=by
 intro v g p x hp hq K hK;unfold aDo at hp;split at hp
 case h_2=>cases hp
 rename_i d code okk val failed tries sh kd ky most at' p_now p_code p_okk p_val p_addr p_old p_nxt p_mark p_pops e1 e3 e4 t' n' sub e2;split at hp
 case h_2=>cases hp
 rename_i l2 t2 n2 st l s hs hm;cases hp;obtain⟨⟨rfl,rfl⟩,rfl,rfl,hat,hl,hl2⟩:=hq;cases aZ hm hl;cases b9 hs hl2;refine fC hK (fun h=>?_) (fun hd h=>?_)
 ·exact DM h [20,21,22] [0,1,2,3,5] (.store t' n' st) 1 0 (dK t' n' st) []
 ·exact wJ h (.store t' n' st) 1 0 (dK t' n' st) [] 0 [1] rfl (congrArg (Prod.mk 1) (H4 (hat hd)))
theorem XO{t n:Int} :bO (obI tbl) 4 (aDp t n) (FtO.fin t n):=by
 intro v g p x hp hq K hK;unfold aDp at hp;split at hp
 case h_2=>cases hp
 rename_i d code okk val failed tries sh kd ky most at' p_now p_code p_okk p_val p_addr p_old p_nxt p_mark p_pops e1 e3 e4 t' n' sub e2;split at hp
 case h_2=>cases hp
 rename_i l2 t2 n2 st l s hs hm;cases hp;obtain⟨⟨rfl,rfl⟩,rfl,rfl,hat,hl,hl2⟩:=hq;cases aZ hm hl;cases b9 hs hl2;refine fC hK (fun h=>?_) (fun hd h=>?_)
 ·exact DM h [20,21,22] [0,1,2,3,5] (.store t' n' st) 1 0 (dK t' n' st) []
 ·exact wJ h (.store t' n' st) 1 0 (dK t' n' st) [] 0 [1] rfl (congrArg (Prod.mk 1) (H5 (hat hd)))
theorem yX{t n:Int} :bO (obI tbl) 4 (T3 t n) (FtO.fin t n):=by
 intro v g p x hp hq K hK;unfold T3 at hp;split at hp
 ·rename_i r hr;cases hp;exact XL v g p x hr hq K hK
 split at hp
 ·rename_i r hr;cases hp;exact XM v g p x hr hq K hK
 split at hp
 ·rename_i r hr;cases hp;exact XN v g p x hr hq K hK
 exact XO v g p x hp hq K hK
abbrev w1d(n:Int)(s:MS)(t:Int)(x:FTS):=FnO.x (aM t n x.12 s)
abbrev w1b(n:Int)(s:MS)(st:STS)(t:Int)(x:FTS):=bL x.6 x.7 x.8 (w1d n s t x).1 (w1d n s t x).2 (w1d n s t x).3 (w1d n s t x).4 st.2
abbrev w1f:=true=false->(0:Int)≠(0:Int)/\(0:Int)≠(1:Int)/\(0:Int)≠(2:Int)
abbrev w1g:=false=false->(3:Int)≠(0:Int)/\(3:Int)≠(1:Int)/\(3:Int)≠(2:Int)
abbrev w1h:=false=false->(0:Int)=(0:Int)
abbrev w1i(n:Int)(s:MS)(t:Int)(x:FTS):=FnO.s (aM t n x.12 s)
abbrev w1j:=false=false->(1:Int)=(1:Int)
abbrev w1k:=false=false->(2:Int)=(2:Int)
def B5(t n:Int)(x:FTS)(st:STS)(s:MS):Tr FtO:=.pre True (.ite (!bR x.6 x.7 x.8) (.pre (q9' s) (.pre ((t=t/\n=n)/\t=t/\n=n/\(true=false->(0:Int)=(0:Int))/\lE' s.3/\lE' st.3) (.ret {d:=true,x:= {x with failed:=true,at':=0,cl:=bY,pr:=dE},st:=st,s:=(dU s 0) }))) (.pre True (.ite (fT x.7) (.ite (ieq st.2 0) (.pre (q9' s) (.pre ((t=t/\n=n)/\t=t/\n=n/\(true=false->(0:Int)=(0:Int))/\lE' s.3/\lE' st.3) (.ret {d:=true,x:= {x with failed:=true,at':=0,cl:=bY,pr:=dE},st:=st,s:=(dU s 0) }))) (.pre (lE' s.3/\K6 t n x.12 s) (.ite (aM t n x.12 s).1 (.pre ((lE' st.3/\lE' (w1d n s t x).6/\st.3.length+List.length (w1d n s t x).6<=(4294967296:Nat))/\True) (.ite (ilt x.9 (W (x.5+(w1d n s t x).5))) (.pre ((t=t/\n=n)/\w1f/\lE' (w1i n s t x).3/\st.3.length+List.length (w1d n s t x).6=List.length (st.3++(w1d n s t x).6)) (.ret {d:=true,x:= {x with failed:=ilt x.9 (W (x.5+(w1d n s t x).5)),tries:=W (x.5+(w1d n s t x).5),at':=0,fn:=bP,cl:=bY,pr:=dE},st:= {me:=st.1,sp:=st.2,R:=st.3++(w1d n s t x).6},s:=(aM t n x.12 s).3})) (.pre (vT x.6 x.7 x.8 (w1d n s t x).1 (w1d n s t x).2 (w1d n s t x).3 (w1d n s t x).4 st.2/\True) (.ite (w1b n s st t x).1 (.pre ((t=t/\n=n)/\w1f/\lE' (w1i n s t x).3/\st.3.length+List.length (w1d n s t x).6=List.length (st.3++(w1d n s t x).6)) (.ret {d:=true,x:= {x with code:=(w1b n s st t x).2,okk:=(w1b n s st t x).3,val:=(w1b n s st t x).4,failed:=ilt x.9 (W (x.5+(w1d n s t x).5)),tries:=W (x.5+(w1d n s t x).5),at':=0,p:=bL x.6 x.7 x.8 (w1d n s t x).1 (w1d n s t x).2 (w1d n s t x).3 (w1d n s t x).4 st.2,fn:=bP,cl:=bY,pr:=dE},st:= {me:=st.1,sp:=st.2,R:=st.3++(w1d n s t x).6},s:=(aM t n x.12 s).3})) (.pre (oC (w1b n s st t x).1 (w1b n s st t x).2 (w1b n s st t x).3 (w1b n s st t x).4 (w1b n s st t x).5 (w1b n s st t x).6 (w1b n s st t x).7 (w1b n s st t x).8 (w1b n s st t x).9) (.ite (zF (w1b n s st t x).1 (w1b n s st t x).2 (w1b n s st t x).3 (w1b n s st t x).4 (w1b n s st t x).5 (w1b n s st t x).6 (w1b n s st t x).7 (w1b n s st t x).8 (w1b n s st t x).9) (.pre (p5 t n (w1b n s st t x).5/\True) (.pre ((t=t/\n=n)/\t=t/\n=n/\w1j/\lE' (w1i n s t x).3/\st.3.length+List.length (w1d n s t x).6=List.length (st.3++(w1d n s t x).6)) (.ret {d:=false,x:= {x with failed:=ilt x.9 (W (x.5+(w1d n s t x).5)),tries:=W (x.5+(w1d n s t x).5),at':=1,p:=bL x.6 x.7 x.8 (w1d n s t x).1 (w1d n s t x).2 (w1d n s t x).3 (w1d n s t x).4 st.2,fn:=bP,cl:=yJ t n (w1b n s st t x).5,pr:=dE},st:= {me:=st.1,sp:=st.2,R:=st.3++(w1d n s t x).6},s:=(aM t n x.12 s).3}))) (.pre True (.ite (fT x.7) (.pre ((st.3.length+List.length (w1d n s t x).6=List.length (st.3++(w1d n s t x).6)/\C8 t n x.8 (w1d n s t x).3 {me:=st.1,sp:=st.2,R:=st.3++(w1d n s t x).6})/\True) (.pre ((t=t/\n=n)/\t=t/\n=n/\w1k/\lE' (w1i n s t x).3/\lE' (Prod.snd (pJ t n x.8 (w1d n s t x).3 {me:=st.1,sp:=st.2,R:=st.3++(w1d n s t x).6})).3) (.ret {d:=false,x:= {x with failed:=ilt x.9 (W (x.5+(w1d n s t x).5)),tries:=W (x.5+(w1d n s t x).5),at':=2,p:=bL x.6 x.7 x.8 (w1d n s t x).1 (w1d n s t x).2 (w1d n s t x).3 (w1d n s t x).4 st.2,fn:=bP,cl:=bY,pr:=(pJ t n x.8 (w1d n s t x).3 {me:=st.1,sp:=st.2,R:=st.3++(w1d n s t x).6}).1},st:=(pJ t n x.8 (w1d n s t x).3 {me:=st.1,sp:=st.2,R:=st.3++(w1d n s t x).6}).2,s:=(aM t n x.12 s).3}))) (.pre ((t=t/\n=n)/\w1g/\lE' (w1i n s t x).3/\st.3.length+List.length (w1d n s t x).6=List.length (st.3++(w1d n s t x).6)) (.ret {d:=false,x:= {x with failed:=ilt x.9 (W (x.5+(w1d n s t x).5)),tries:=W (x.5+(w1d n s t x).5),at':=3,p:=bL x.6 x.7 x.8 (w1d n s t x).1 (w1d n s t x).2 (w1d n s t x).3 (w1d n s t x).4 st.2,fn:=bP,cl:=bY,pr:=dE},st:= {me:=st.1,sp:=st.2,R:=st.3++(w1d n s t x).6},s:=(aM t n x.12 s).3})))))))))) (.pre ((t=t/\n=n)/\t=t/\n=n/\w1h/\lE' (w1i n s t x).3/\lE' st.3) (.ret {d:=false,x:= {x with at':=0,fn:=(aM t n x.12 s).2,cl:=bY,pr:=dE},st:=st,s:=(aM t n x.12 s).3}))))) (.pre (lE' s.3/\K6 t n x.12 s) (.ite (aM t n x.12 s).1 (.pre ((lE' st.3/\lE' (w1d n s t x).6/\st.3.length+List.length (w1d n s t x).6<=(4294967296:Nat))/\True) (.ite (ilt x.9 (W (x.5+(w1d n s t x).5))) (.pre ((t=t/\n=n)/\w1f/\lE' (w1i n s t x).3/\st.3.length+List.length (w1d n s t x).6=List.length (st.3++(w1d n s t x).6)) (.ret {d:=true,x:= {x with failed:=ilt x.9 (W (x.5+(w1d n s t x).5)),tries:=W (x.5+(w1d n s t x).5),at':=0,fn:=bP,cl:=bY,pr:=dE},st:= {me:=st.1,sp:=st.2,R:=st.3++(w1d n s t x).6},s:=(aM t n x.12 s).3})) (.pre (vT x.6 x.7 x.8 (w1d n s t x).1 (w1d n s t x).2 (w1d n s t x).3 (w1d n s t x).4 st.2/\True) (.ite (w1b n s st t x).1 (.pre ((t=t/\n=n)/\w1f/\lE' (w1i n s t x).3/\st.3.length+List.length (w1d n s t x).6=List.length (st.3++(w1d n s t x).6)) (.ret {d:=true,x:= {x with code:=(w1b n s st t x).2,okk:=(w1b n s st t x).3,val:=(w1b n s st t x).4,failed:=ilt x.9 (W (x.5+(w1d n s t x).5)),tries:=W (x.5+(w1d n s t x).5),at':=0,p:=bL x.6 x.7 x.8 (w1d n s t x).1 (w1d n s t x).2 (w1d n s t x).3 (w1d n s t x).4 st.2,fn:=bP,cl:=bY,pr:=dE},st:= {me:=st.1,sp:=st.2,R:=st.3++(w1d n s t x).6},s:=(aM t n x.12 s).3})) (.pre (oC (w1b n s st t x).1 (w1b n s st t x).2 (w1b n s st t x).3 (w1b n s st t x).4 (w1b n s st t x).5 (w1b n s st t x).6 (w1b n s st t x).7 (w1b n s st t x).8 (w1b n s st t x).9) (.ite (zF (w1b n s st t x).1 (w1b n s st t x).2 (w1b n s st t x).3 (w1b n s st t x).4 (w1b n s st t x).5 (w1b n s st t x).6 (w1b n s st t x).7 (w1b n s st t x).8 (w1b n s st t x).9) (.pre (p5 t n (w1b n s st t x).5/\True) (.pre ((t=t/\n=n)/\t=t/\n=n/\w1j/\lE' (w1i n s t x).3/\st.3.length+List.length (w1d n s t x).6=List.length (st.3++(w1d n s t x).6)) (.ret {d:=false,x:= {x with failed:=ilt x.9 (W (x.5+(w1d n s t x).5)),tries:=W (x.5+(w1d n s t x).5),at':=1,p:=bL x.6 x.7 x.8 (w1d n s t x).1 (w1d n s t x).2 (w1d n s t x).3 (w1d n s t x).4 st.2,fn:=bP,cl:=yJ t n (w1b n s st t x).5,pr:=dE},st:= {me:=st.1,sp:=st.2,R:=st.3++(w1d n s t x).6},s:=(aM t n x.12 s).3}))) (.pre True (.ite (fT x.7) (.pre ((st.3.length+List.length (w1d n s t x).6=List.length (st.3++(w1d n s t x).6)/\C8 t n x.8 (w1d n s t x).3 {me:=st.1,sp:=st.2,R:=st.3++(w1d n s t x).6})/\True) (.pre ((t=t/\n=n)/\t=t/\n=n/\w1k/\lE' (w1i n s t x).3/\lE' (Prod.snd (pJ t n x.8 (w1d n s t x).3 {me:=st.1,sp:=st.2,R:=st.3++(w1d n s t x).6})).3) (.ret {d:=false,x:= {x with failed:=ilt x.9 (W (x.5+(w1d n s t x).5)),tries:=W (x.5+(w1d n s t x).5),at':=2,p:=bL x.6 x.7 x.8 (w1d n s t x).1 (w1d n s t x).2 (w1d n s t x).3 (w1d n s t x).4 st.2,fn:=bP,cl:=bY,pr:=(pJ t n x.8 (w1d n s t x).3 {me:=st.1,sp:=st.2,R:=st.3++(w1d n s t x).6}).1},st:=(pJ t n x.8 (w1d n s t x).3 {me:=st.1,sp:=st.2,R:=st.3++(w1d n s t x).6}).2,s:=(aM t n x.12 s).3}))) (.pre ((t=t/\n=n)/\w1g/\lE' (w1i n s t x).3/\st.3.length+List.length (w1d n s t x).6=List.length (st.3++(w1d n s t x).6)) (.ret {d:=false,x:= {x with failed:=ilt x.9 (W (x.5+(w1d n s t x).5)),tries:=W (x.5+(w1d n s t x).5),at':=3,p:=bL x.6 x.7 x.8 (w1d n s t x).1 (w1d n s t x).2 (w1d n s t x).3 (w1d n s t x).4 st.2,fn:=bP,cl:=bY,pr:=dE},st:= {me:=st.1,sp:=st.2,R:=st.3++(w1d n s t x).6},s:=(aM t n x.12 s).3})))))))))) (.pre ((t=t/\n=n)/\t=t/\n=n/\w1h/\lE' (w1i n s t x).3/\lE' st.3) (.ret {d:=false,x:= {x with at':=0,fn:=(aM t n x.12 s).2,cl:=bY,pr:=dE},st:=st,s:=(aM t n x.12 s).3})))))))
theorem LE(t n:Int)(x:FTS)(st:STS)(s:MS)(K:FtO->Prop)(h:(B5 t n x st s).run K):cT' 156 [.ptr 0 0,.ptr 2 0] [cE' [.ptr 1 0,.I x.code,.bool x.okk,.I x.val,.bool x.failed,.I x.tries,.I x.sh,.I x.kd,.I x.ky,.I x.most,.I 0,.bool x.p.now,.I x.p.code,.bool x.p.okk,.I x.p.val,.I x.p.addr,.int .u64 x.p.old,.I x.p.nxt,.bool x.p.mark,.I x.p.pops,.ptr 4 0,.O,.O],gW 5 t n st,aX 3 s,aY s,some (.abs (.find t n x.fn) []),gX st] (bS 4 0 [20,21,22] [(.cell 1 4,.ints (some .i64))] (T3 t n) K):=by
 exact cM' (E:=ER) (by kernel_rfl) h
def B6(t n:Int)(x:FTS)(st:STS)(s:MS):Tr FtO:=.pre (lE' s.3/\OV t n x.13 s) (.ite (oM t n x.13 s).1 (.ite (ilt x.9 (W (x.5+1))) (.pre ((t=t/\n=n)/\(true=false->(1:Int)≠(0:Int)/\(1:Int)≠(1:Int)/\(1:Int)≠(2:Int))/\lE' (ClO.s (oM t n x.13 s)).3/\lE' st.3) (.ret {d:=true,x:= {x with failed:=ilt x.9 (W (x.5+1)),tries:=W (x.5+1),at':=1,fn:=bP,cl:=bY,pr:=dE},st:=st,s:=(oM t n x.13 s).3})) (.pre True (.pre (oO t n st.1 (fA x.6 x.8) (l8 x.6 x.7 x.8) (W (x.9 - W (x.5+1)))/\True) (.pre ((t=t/\n=n)/\t=t/\n=n/\w1h/\lE' (ClO.s (oM t n x.13 s)).3/\lE' st.3) (.ret {d:=false,x:= {x with failed:=ilt x.9 (W (x.5+1)),tries:=W (x.5+1),at':=0,fn:=u3 t n st.1 (fA x.6 x.8) (l8 x.6 x.7 x.8) (W (x.9 - W (x.5+1))),cl:=bY,pr:=dE},st:=st,s:=(oM t n x.13 s).3}))))) (.pre ((t=t/\n=n)/\t=t/\n=n/\w1j/\lE' (ClO.s (oM t n x.13 s)).3/\lE' st.3) (.ret {d:=false,x:= {x with at':=1,fn:=bP,cl:=(oM t n x.13 s).2,pr:=dE},st:=st,s:=(oM t n x.13 s).3})))
theorem LF(t n:Int)(x:FTS)(st:STS)(s:MS)(K:FtO->Prop)(h:(B6 t n x st s).run K):cT' 156 [.ptr 0 0,.ptr 2 0] [cE' [.ptr 1 0,.I x.code,.bool x.okk,.I x.val,.bool x.failed,.I x.tries,.I x.sh,.I x.kd,.I x.ky,.I x.most,.I 1,.bool x.p.now,.I x.p.code,.bool x.p.okk,.I x.p.val,.I x.p.addr,.int .u64 x.p.old,.I x.p.nxt,.bool x.p.mark,.I x.p.pops,.O,.ptr 4 0,.O],gW 5 t n st,aX 3 s,aY s,some (.abs (.clear t n x.cl) []),gX st] (bS 4 0 [20,21,22] [(.cell 1 4,.ints (some .i64))] (T3 t n) K):=by
 exact cM' (E:=ER) (by kernel_rfl) h
def B7(t n:Int)(x:FTS)(st:STS)(s:MS):Tr FtO:=.pre ((lE' s.3/\lE' st.3/\t=t/\n=n)/\SF t n x.14 st s) (.ite (prF t n x.14 st s).1 (.pre ((t=t/\n=n)/\w1g/\lE' (PrO.s (prF t n x.14 st s)).3/\lE' (PrO.st (prF t n x.14 st s)).3) (.ret {d:=false,x:= {x with at':=3,fn:=bP,cl:=bY,pr:=dE},st:=(prF t n x.14 st s).3,s:=(prF t n x.14 st s).4})) (.pre ((t=t/\n=n)/\t=t/\n=n/\w1k/\lE' (PrO.s (prF t n x.14 st s)).3/\lE' (PrO.st (prF t n x.14 st s)).3) (.ret {d:=false,x:= {x with at':=2,fn:=bP,cl:=bY,pr:=(prF t n x.14 st s).2},st:=(prF t n x.14 st s).3,s:=(prF t n x.14 st s).4})))
theorem LG(t n:Int)(x:FTS)(st:STS)(s:MS)(K:FtO->Prop)(h:(B7 t n x st s).run K):cT' 156 [.ptr 0 0,.ptr 2 0] [cE' [.ptr 1 0,.I x.code,.bool x.okk,.I x.val,.bool x.failed,.I x.tries,.I x.sh,.I x.kd,.I x.ky,.I x.most,.I 2,.bool x.p.now,.I x.p.code,.bool x.p.okk,.I x.p.val,.I x.p.addr,.int .u64 x.p.old,.I x.p.nxt,.bool x.p.mark,.I x.p.pops,.O,.O,.ptr 4 0],gW 5 t n st,aX 3 s,aY s,some (.abs (.prepare t n x.pr) [1]),gX st] (bS 4 0 [20,21,22] [(.cell 1 4,.ints (some .i64))] (T3 t n) K):=by
 exact cM' (E:=ER) (by kernel_rfl) h
abbrev w1c(x:FTS):=dS (FTS.p x).1 (FTS.p x).2 (FTS.p x).3 (FTS.p x).4 (FTS.p x).5 (FTS.p x).6 (FTS.p x).7 (FTS.p x).8 (FTS.p x).9
abbrev w1e:=true=false->(3:Int)≠(0:Int)/\(3:Int)≠(1:Int)/\(3:Int)≠(2:Int)
def B8(t n:Int)(x:FTS)(st:STS)(s:MS):Tr FtO:=.pre (zH (FTS.p x).1 (FTS.p x).2 (FTS.p x).3 (FTS.p x).4 (FTS.p x).5 (FTS.p x).6 (FTS.p x).7 (FTS.p x).8 (FTS.p x).9/\True) (.pre ((q9' s)/\True) (.ite (!bJ s.3 (FTS.p x).5 (FTS.p x).6) (.ite (ilt x.9 (W (x.5+1))) (.pre ((t=t/\n=n)/\w1e/\lE' (bif bJ s.3 (FTS.p x).5 (FTS.p x).6 then bA s.3 (FTS.p x).5 (w1c x)else s.3)/\lE' st.3) (.ret {d:=true,x:= {x with failed:=ilt x.9 (W (x.5+1)),tries:=W (x.5+1),at':=3,fn:=bP,cl:=bY,pr:=dE},st:=st,s:=(pQ s (FTS.p x).5 (FTS.p x).6 (w1c x)) })) (.pre True (.pre (oO t n st.1 (fA x.6 x.8) (l8 x.6 x.7 x.8) (W (x.9 - W (x.5+1)))/\True) (.pre ((t=t/\n=n)/\t=t/\n=n/\w1h/\lE' (bif bJ s.3 (FTS.p x).5 (FTS.p x).6 then bA s.3 (FTS.p x).5 (w1c x)else s.3)/\lE' st.3) (.ret {d:=false,x:= {x with failed:=ilt x.9 (W (x.5+1)),tries:=W (x.5+1),at':=0,fn:=u3 t n st.1 (fA x.6 x.8) (l8 x.6 x.7 x.8) (W (x.9 - W (x.5+1))),cl:=bY,pr:=dE},st:=st,s:=(pQ s (FTS.p x).5 (FTS.p x).6 (w1c x)) }))))) (.pre True (.ite (fT x.7) (.ite (!ieq (FTS.p x).9 0) (.pre ((lE' st.3/\1=1/\st.3.length+(1:Nat)<=(4294967296:Nat))/\True) (.pre ((t=t/\n=n)/\w1e/\lE' (bif bJ s.3 (FTS.p x).5 (FTS.p x).6 then bA s.3 (FTS.p x).5 (w1c x)else s.3)/\st.3.length+(1:Nat)=List.length (st.3++ [(FTS.p x).9])) (.ret {d:=true,x:= {x with code:=(FTS.p x).2,okk:=(FTS.p x).3,val:=(FTS.p x).4,at':=3,fn:=bP,cl:=bY,pr:=dE},st:= {me:=st.1,sp:=0,R:=st.3++ [(FTS.p x).9] },s:=(pQ s (FTS.p x).5 (FTS.p x).6 (w1c x)) }))) (.pre ((t=t/\n=n)/\w1e/\lE' (bif bJ s.3 (FTS.p x).5 (FTS.p x).6 then bA s.3 (FTS.p x).5 (w1c x)else s.3)/\lE' st.3) (.ret {d:=true,x:= {x with code:=(FTS.p x).2,okk:=(FTS.p x).3,val:=(FTS.p x).4,at':=3,fn:=bP,cl:=bY,pr:=dE},st:= {me:=st.1,sp:=0,R:=st.3},s:=(pQ s (FTS.p x).5 (FTS.p x).6 (w1c x)) }))) (.ite (!ieq (FTS.p x).9 0) (.pre ((lE' st.3/\1=1/\st.3.length+(1:Nat)<=(4294967296:Nat))/\True) (.pre ((t=t/\n=n)/\w1e/\lE' (bif bJ s.3 (FTS.p x).5 (FTS.p x).6 then bA s.3 (FTS.p x).5 (w1c x)else s.3)/\st.3.length+(1:Nat)=List.length (st.3++ [(FTS.p x).9])) (.ret {d:=true,x:= {x with code:=(FTS.p x).2,okk:=(FTS.p x).3,val:=(FTS.p x).4,at':=3,fn:=bP,cl:=bY,pr:=dE},st:= {me:=st.1,sp:=st.2,R:=st.3++ [(FTS.p x).9] },s:=(pQ s (FTS.p x).5 (FTS.p x).6 (w1c x)) }))) (.pre ((t=t/\n=n)/\w1e/\lE' (bif bJ s.3 (FTS.p x).5 (FTS.p x).6 then bA s.3 (FTS.p x).5 (w1c x)else s.3)/\lE' st.3) (.ret {d:=true,x:= {x with code:=(FTS.p x).2,okk:=(FTS.p x).3,val:=(FTS.p x).4,at':=3,fn:=bP,cl:=bY,pr:=dE},st:=st,s:=(pQ s (FTS.p x).5 (FTS.p x).6 (w1c x)) })))))))
theorem LH(t n:Int)(x:FTS)(st:STS)(s:MS)(K:FtO->Prop)(h:(B8 t n x st s).run K):cT' 156 [.ptr 0 0,.ptr 2 0] [cE' [.ptr 1 0,.I x.code,.bool x.okk,.I x.val,.bool x.failed,.I x.tries,.I x.sh,.I x.kd,.I x.ky,.I x.most,.I 3,.bool x.p.now,.I x.p.code,.bool x.p.okk,.I x.p.val,.I x.p.addr,.int .u64 x.p.old,.I x.p.nxt,.bool x.p.mark,.I x.p.pops,.O,.O,.O],gW 4 t n st,aX 3 s,aY s,gX st] (bS 4 0 [20,21,22] [(.cell 1 4,.ints (some .i64))] (T3 t n) K):=by
 exact cM' (E:=ER) (by kernel_rfl) h
def ftT(t n:Int)(x:FTS)(st:STS)(s:MS):Tr FtO:=
 bif ieq x.at' 0 then B5 t n x st s else
 bif ieq x.at' 1 then B6 t n x st s else
 bif ieq x.at' 2 then B7 t n x st s else
 bif ieq x.at' 3 then B8 t n x st s else .pre False (.ret default)
def hO(t n:Int)(x:FTS)(st:STS)(s:MS):FtO:=(ftT t n x st s).val
def XK(t n:Int)(x:FTS)(st:STS)(s:MS):Prop:=(ftT t n x st s).ok
theorem IC(t n:Int)(x:FTS)(st:STS)(s:MS)(K:AVal->aC Ob->Prop)(h:(ftT t n x st s).run (fun y=>(FtO.fin t n y).run K)):cT' 156 [.ptr 0 0,.ptr 2 0] (ftH t n x st s) K:=by
 unfold ftT at h
 by_cases e:x.at'=0
 ·rw [e]at h;have h:(B5 t n x st s).run _:=h;refine aJ2 (root:=0) (pos:=[20,21,22]) (cs:=[(.cell 1 4,.ints (some .i64))]) (parse:=T3 t n) (fin:=FtO.fin t n) yX ((aQ.unpack (.fast t n x) 0 1 (qD t n x) [1] rfl (congrArg (Prod.mk 1) (yW e)) (by kernel_rfl) rfl).trans (aQ.unpack (.store t n st) 1 0 (dK t n st) [] rfl rfl rfl rfl)) ?_
  have q:=LE t n x st s _ h;rw [<-e]at q;exact q
 rw [bK e]at h
 by_cases e:x.at'=1
 ·rw [e]at h;have h:(B6 t n x st s).run _:=h;refine aJ2 (root:=0) (pos:=[20,21,22]) (cs:=[(.cell 1 4,.ints (some .i64))]) (parse:=T3 t n) (fin:=FtO.fin t n) yX ((aQ.unpack (.fast t n x) 0 1 (uX t n x) [1] rfl (congrArg (Prod.mk 1) (H4 e)) (by kernel_rfl) rfl).trans (aQ.unpack (.store t n st) 1 0 (dK t n st) [] rfl rfl rfl rfl)) ?_
  have q:=LF t n x st s _ h;rw [<-e]at q;exact q
 rw [bK e]at h
 by_cases e:x.at'=2
 ·rw [e]at h;have h:(B7 t n x st s).run _:=h;refine aJ2 (root:=0) (pos:=[20,21,22]) (cs:=[(.cell 1 4,.ints (some .i64))]) (parse:=T3 t n) (fin:=FtO.fin t n) yX ((aQ.unpack (.fast t n x) 0 1 (uY t n x) [1] rfl (congrArg (Prod.mk 1) (H5 e)) (by kernel_rfl) rfl).trans (aQ.unpack (.store t n st) 1 0 (dK t n st) [] rfl rfl rfl rfl)) ?_
  have q:=LG t n x st s _ h;rw [<-e]at q;exact q
 rw [bK e]at h
 by_cases e:x.at'=3
 ·rw [e]at h;have h:(B8 t n x st s).run _:=h;refine aJ2 (root:=0) (pos:=[20,21,22]) (cs:=[(.cell 1 4,.ints (some .i64))]) (parse:=T3 t n) (fin:=FtO.fin t n) yX ((aQ.unpack (.fast t n x) 0 1 (FO t n x) [1] rfl (congrArg (Prod.mk 1) (BV ⟨(by omega),(by omega),(by omega)⟩)) (by kernel_rfl) rfl).trans (aQ.unpack (.store t n st) 1 0 (dK t n st) [] rfl rfl rfl rfl)) ?_
  have q:=LH t n x st s _ h;rw [<-e]at q;exact q
 rw [bK e]at h;exact h.1.elim
noncomputable def ftSA:aH Ob:=fun args h=>match args,h with
 | [.ptr 0 0,.ptr 2 0],[some (.abs (.fast t n x) [1]),some (.abs (.store t2 n2 st) []),e3,e4]=>(match cJ 3 [e3,e4]with
   | some (l,s)=>some (.pre ((l=s.xs.length/\t2=t/\n2=n)/\XK t n x st s) (FtO.fin t n (hO t n x st s)))
   | none=>none)
 | _,_=>none
theorem aDq:sT' 156 ftSA:=by
 intro args h o ho K hK;unfold ftSA at ho;split at ho
 case h_2=>cases ho
 split at ho<;>cases ho
 rename_i hm;obtain⟨⟨⟨hl,rfl,rfl⟩,ok⟩,hK⟩:=hK;cases aZ hm hl;exact IC _ _ _ _ _ K (aJ5 ok hK)
def FtO.finB(t n:Int)(y:FtO):Out Ob:=.ite y.d (.ret (.bool true) ([cE' [.ptr 1 0,.I y.x.code,.bool y.x.okk,.I y.x.val,.bool y.x.failed,.I y.x.tries,.I y.x.sh,.I y.x.kd,.I y.x.ky,.I y.x.most,.I y.x.at',.bool y.x.p.now,.I y.x.p.code,.bool y.x.p.okk,.I y.x.p.val,.I y.x.p.addr,.int .u64 y.x.p.old,.I y.x.p.nxt,.bool y.x.p.mark,.I y.x.p.pops,.O,.O,.O],gW 5 t n y.st,none,aX 4 y.s,aY y.s,gX y.st])) (.ret (.bool false) [some (.abs (.fast t n y.x) [1]),gW 5 t n y.st,none,aX 4 y.s,aY y.s,gX y.st])
noncomputable def ftSB:aH Ob:=fun args h=>match args,h with
 | [.ptr 0 0,.ptr 3 0],[some (.abs (.fast t n x) [1]),e1,e2,e3,e4]=>(match lB 2 [e1,e2],cJ 4 [e3,e4]with
   | some (l2,t2,n2,st),some (l,s)=>some (.pre ((l=s.xs.length/\l2=st.R.length/\t2=t/\n2=n)/\XK t n x st s) (FtO.finB t n (hO t n x st s)))
   | _,_=>none)
 | _,_=>none
theorem aDr:sT' 156 ftSB:=by
 intro args h o ho K hK;unfold ftSB at ho;split at ho
 case h_2=>cases ho
 split at ho<;>cases ho
 rename_i hs hm;obtain⟨⟨⟨hl,hl2,rfl,rfl⟩,ok⟩,hK⟩:=hK;cases aZ hm hl;cases b9 hs hl2;exact jQ (fun ι hι=>by simp [aG.ren,aKg,AVal.ren,hι]) (fun ι hι=>by simp [aG.ren,hι]) (fun K hK=>IC _ _ _ _ _ K (aJ5 ok hK)) K hK
noncomputable def ftS:aH Ob:=aH.or ftSA ftSB
theorem aGv:sT' 156 ftS:=aKs aDq aDr
def aDk(t n:Int)(v:AVal)(g:aC Ob):Option (Prop×(FTS×STS)):=match v,g with
 | .ptr 2 0,[e1,e2,some (.cells [.ptr 0 0,.int .i64 code,.bool okk,.int .i64 val,.bool failed,.int .i64 tries,.int .i64 sh,.int .i64 kd,.int .i64 ky,.int .i64 most,.int .i64 at',.bool p_now,.int .i64 p_code,.bool p_okk,.int .i64 p_val,.int .i64 p_addr,.int .u64 p_old,.int .i64 p_nxt,.bool p_mark,.int .i64 p_pops,.ptr 3 0,.O,.O]),some (.abs (.find t' n' sub) [])]=>(match lB 1 [e1,e2]with
   | some (l2,t2,n2,st)=>some ((t2=t/\n2=n/\l2=st.R.length)/\t'=t/\n'=n/\at'=0,⟨(⟨code,okk,val,failed,tries,sh,kd,ky,most,at',⟨p_now,p_code,p_okk,p_val,p_addr,p_old,p_nxt,p_mark,p_pops⟩,sub,⟨0,0,0,0⟩,⟨0,0,0,false⟩⟩:FTS),st⟩)
   | none=>none)
 | _,_=>none
abbrev XH(t n:Int)(y:(FTS×STS)):aC Ob:=[gW 1 t n y.2,gX y.2,some (.abs (.fast t n y.1) [0])]
theorem XI{t n:Int} :bO (obI tbl) 2 (aDk t n) (fun y=>.ret (.ptr 2 0) (XH t n y)):=by
 intro v g p x hp hq K hK;unfold aDk at hp;split at hp
 case h_2=>cases hp
 rename_i e1 e2 code okk val failed tries sh kd ky most at' p_now p_code p_okk p_val p_addr p_old p_nxt p_mark p_pops t' n' sub;split at hp
 case h_2=>cases hp
 rename_i l2 t2 n2 st hs;cases hp;obtain⟨⟨rfl,rfl,hl2⟩,rfl,rfl,hat⟩:=hq;cases b9 hs hl2;exact let X0:FTS:=⟨code,okk,val,failed,tries,sh,kd,ky,most,at',⟨p_now,p_code,p_okk,p_val,p_addr,p_old,p_nxt,p_mark,p_pops⟩,sub,⟨0,0,0,0⟩,⟨0,0,0,false⟩⟩;⟨⟨_,_,aF.pack (XH t' n' (X0,st)) (.fast t' n' X0) 2 1 (qD t' n' X0) [0] (by kernel_rfl) rfl (congrArg (Prod.mk 1) (yW hat)) (by kernel_rfl),hK⟩⟩
def P0(t n:Int)(sh kd ky most:Int)(st:STS):Tr (FTS×STS):=.pre True (.pre (oO t n st.1 (fA sh ky) (l8 sh kd ky) (W (most - 0))/\True) (.pre ((t=t/\n=n/\lE' st.3)/\t=t/\n=n/\(0:Int)=(0:Int)) (.ret ({code:=0,okk:=false,val:=0,failed:=false,tries:=0,sh:=sh,kd:=kd,ky:=ky,most:=most,at':=0,p:=aFT,fn:=u3 t n st.1 (fA sh ky) (l8 sh kd ky) (W (most - 0)),cl:=bY,pr:=dE},st))))
def jY(t n:Int)(sh kd ky most:Int)(st:STS):(FTS×STS):=(P0 t n sh kd ky most st).val
def u4(t n:Int)(sh kd ky most:Int)(st:STS):Prop:=(P0 t n sh kd ky most st).ok
def ftNS:aH Ob:=fun args h=>match args,h with
 | [.ptr 0 0,.agg [.int .i64 sh,.int .i64 kd,.int .i64 ky],.int .i64 most],[e1,e2]=>(match lB 1 [e1,e2]with
   | some (l2,t,n,st)=>some (.pre (l2=st.R.length/\u4 t n sh kd ky most st) (.ret (.ptr 2 0) (XH t n (jY t n sh kd ky most st))))
   | none=>none)
 | _,_=>none
theorem aDl:sT' 253 ftNS:=by
 intro args h o ho K hK;unfold ftNS at ho;split at ho
 case h_2=>cases ho
 rename_i sh kd ky most e1 e2;split at ho<;>cases ho
 rename_i l2 t n st hs;obtain⟨⟨hl2,ok⟩,hK⟩:=hK;cases b9 hs hl2;refine aKf (root:=2) (pos:=[20,21,22]) (cs:=[]) (parse:=aDk t n) XI ?_;exact cM' (E:=ER) (q:=(P0 t n sh kd ky most st).run (fun y=>(Out.ret (.ptr 2 0) (XH t n y)).run K)) (by kernel_rfl) (aJ5 ok hK)
noncomputable def ET:=((ER.addS 156 ftS aGv).addS 253 ftNS aDl)
def FZ:bE Ob:=fun args h=>match args,h with
 | [.ptr 0 0],[some (.cells [.ptr 1 0,.int .i64 u,.int .u64 no,.int .i64 rounds,.int .i64 limit,.int .i64 at',.int .u64 found,.int .i64 sh,.int .i64 kd,.int .i64 ky,.bool p_now,.int .i64 p_code,.bool p_okk,.int .i64 p_val,.int .i64 p_addr,.int .u64 p_old,.int .i64 p_nxt,.bool p_mark,.int .i64 p_pops,.O,.O,.O,.O,.O]),some (.cells [.int .i64 t,.int .i64 n,.int .i64 me,.int .i64 sp,.slice 2 0 k 1]),some (.ints (some .i64) R)]=>some (True,.agg [.I (aB found 0 12),.I (aB found 12 9),.I (aB found 21 18),.I (aB found 39 9),.bool (ieq (aB found 48 1) 1),.I (aB found 49 3),.I (aB found 52 10)])
 | _,_=>none
theorem QK:sT' 196 FZ.spec:=by
 intro args h o ho K hK;unfold bE.spec FZ at ho;split at ho
 case h_2=>cases ho
 rename_i p v hp;split at hp
 case h_2=>cases hp
 rename_i u no rounds limit at' found sh kd ky p_now p_code p_okk p_val p_addr p_old p_nxt p_mark p_pops t n me sp k R;cases hp;simp only [sI']at ho;subst ho;obtain⟨hp,hK⟩:=hK;have hK:K (.agg [.I (aB found 0 12),.I (aB found 12 9),.I (aB found 21 18),.I (aB found 39 9),.bool (ieq (aB found 48 1) 1),.I (aB found 49 3),.I (aB found 52 10)]) [cE' [.ptr 1 0,.I u,.int .u64 no,.I rounds,.I limit,.I at',.int .u64 found,.I sh,.I kd,.I ky,.bool p_now,.I p_code,.bool p_okk,.I p_val,.I p_addr,.int .u64 p_old,.I p_nxt,.bool p_mark,.I p_pops,.O,.O,.O,.O,.O],cE' [.I t,.I n,.I me,.I sp,.slice 2 0 k 1],iI' R]:=hK;refine aJ1 (cM' (E:=ET) (q:=True/\K (.agg [.I (aB found 0 12),.I (aB found 12 9),.I (aB found 21 18),.I (aB found 39 9),.bool (ieq (aB found 48 1) 1),.I (aB found 49 3),.I (aB found 52 10)]) [cE' [.ptr 1 0,.I u,.int .u64 no,.I rounds,.I limit,.I at',.int .u64 found,.I sh,.I kd,.I ky,.bool p_now,.I p_code,.bool p_okk,.I p_val,.I p_addr,.int .u64 p_old,.I p_nxt,.bool p_mark,.I p_pops,.O,.O,.O,.O,.O],cE' [.I t,.I n,.I me,.I sp,.slice 2 0 k 1],iI' R]) (by kernel_rfl) ?_)
 exact⟨trivial,hK⟩
noncomputable def EH0:=ET.addR 196 FZ QK
structure HpO where
 d:Bool
 x:HPS
 st:STS
 s:MS
instance:Inhabited HpO:=⟨⟨false,cZ,⟨0,0,[]⟩,⟨0,0,[],0,0,0,0,0,false⟩⟩⟩
instance:Inhabited HPS:=⟨cZ⟩
abbrev hpH(t n:Int)(x:HPS)(st:STS)(s:MS):aC Ob:=[some (.abs (.help t n x) [1]),some (.abs (.store t n st) []),aX 3 s,aY s]
abbrev hpD(t n:Int)(x:HPS)(st:STS)(s:MS):aC Ob:=[cE' [.ptr 1 0,.I x.u,.int .u64 x.no,.I x.rounds,.I x.limit,.I x.at',.int .u64 x.found,.I x.sh,.I x.kd,.I x.ky,.bool x.p.now,.I x.p.code,.bool x.p.okk,.I x.p.val,.I x.p.addr,.int .u64 x.p.old,.I x.p.nxt,.bool x.p.mark,.I x.p.pops,.O,.O,.O,.O,.O],some (.abs (.store t n st) []),aX 3 s,aY s]
def HpO.fin(t n:Int)(y:HpO):Out Ob:=.ite y.d (.ret (.bool true) (hpD t n y.x y.st y.s)) (.ret (.bool false) (hpH t n y.x y.st y.s))
def aDW(t n:Int)(v:AVal)(g:aC Ob):Option (Prop×HpO):=match v,g with
 | .bool d,[some (.cells [.ptr 1 0,.int .i64 u,.int .u64 no,.int .i64 rounds,.int .i64 limit,.int .i64 at',.int .u64 found,.int .i64 sh,.int .i64 kd,.int .i64 ky,.bool p_now,.int .i64 p_code,.bool p_okk,.int .i64 p_val,.int .i64 p_addr,.int .u64 p_old,.int .i64 p_nxt,.bool p_mark,.int .i64 p_pops,.O,.O,.O,.O,.O]),e1,e3,e4,e2]=>(match lB 4 [e1,e2],cJ 3 [e3,e4]with
   | some (l2,t2,n2,st),some (l,s)=>some ((t2=t/\n2=n)/\(d=false->at'≠3/\at'≠4/\at'≠5/\at'≠7/\at'≠8)/\l=s.xs.length/\l2=st.R.length,⟨d,⟨u,no,rounds,limit,at',found,sh,kd,ky,⟨p_now,p_code,p_okk,p_val,p_addr,p_old,p_nxt,p_mark,p_pops⟩,eK,bV,bP,⟨0,0,0,0⟩,⟨0,0,0,false⟩⟩,st,s⟩)
   | _,_=>none)
 | _,_=>none
def aDX(t n:Int)(v:AVal)(g:aC Ob):Option (Prop×HpO):=match v,g with
 | .bool d,[some (.cells [.ptr 1 0,.int .i64 u,.int .u64 no,.int .i64 rounds,.int .i64 limit,.int .i64 at',.int .u64 found,.int .i64 sh,.int .i64 kd,.int .i64 ky,.bool p_now,.int .i64 p_code,.bool p_okk,.int .i64 p_val,.int .i64 p_addr,.int .u64 p_old,.int .i64 p_nxt,.bool p_mark,.int .i64 p_pops,.ptr 4 0,.O,.O,.O,.O]),e1,e3,e4,some (.abs (.exec t' n' sub) []),e2]=>(match lB 5 [e1,e2],cJ 3 [e3,e4]with
   | some (l2,t2,n2,st),some (l,s)=>some ((t2=t/\n2=n)/\t'=t/\n'=n/\(d=false->at'=3)/\l=s.xs.length/\l2=st.R.length,⟨d,⟨u,no,rounds,limit,at',found,sh,kd,ky,⟨p_now,p_code,p_okk,p_val,p_addr,p_old,p_nxt,p_mark,p_pops⟩,sub,bV,bP,⟨0,0,0,0⟩,⟨0,0,0,false⟩⟩,st,s⟩)
   | _,_=>none)
 | _,_=>none
def aDY(t n:Int)(v:AVal)(g:aC Ob):Option (Prop×HpO):=match v,g with
 | .bool d,[some (.cells [.ptr 1 0,.int .i64 u,.int .u64 no,.int .i64 rounds,.int .i64 limit,.int .i64 at',.int .u64 found,.int .i64 sh,.int .i64 kd,.int .i64 ky,.bool p_now,.int .i64 p_code,.bool p_okk,.int .i64 p_val,.int .i64 p_addr,.int .u64 p_old,.int .i64 p_nxt,.bool p_mark,.int .i64 p_pops,.O,.ptr 4 0,.O,.O,.O]),e1,e3,e4,some (.abs (.ensure t' n' sub) [1]),e2]=>(match lB 5 [e1,e2],cJ 3 [e3,e4]with
   | some (l2,t2,n2,st),some (l,s)=>some ((t2=t/\n2=n)/\t'=t/\n'=n/\(d=false->at'=4)/\l=s.xs.length/\l2=st.R.length,⟨d,⟨u,no,rounds,limit,at',found,sh,kd,ky,⟨p_now,p_code,p_okk,p_val,p_addr,p_old,p_nxt,p_mark,p_pops⟩,eK,sub,bP,⟨0,0,0,0⟩,⟨0,0,0,false⟩⟩,st,s⟩)
   | _,_=>none)
 | _,_=>none
def aDZ(t n:Int)(v:AVal)(g:aC Ob):Option (Prop×HpO):=match v,g with
 | .bool d,[some (.cells [.ptr 1 0,.int .i64 u,.int .u64 no,.int .i64 rounds,.int .i64 limit,.int .i64 at',.int .u64 found,.int .i64 sh,.int .i64 kd,.int .i64 ky,.bool p_now,.int .i64 p_code,.bool p_okk,.int .i64 p_val,.int .i64 p_addr,.int .u64 p_old,.int .i64 p_nxt,.bool p_mark,.int .i64 p_pops,.O,.O,.ptr 4 0,.O,.O]),e1,e3,e4,some (.abs (.find t' n' sub) []),e2]=>(match lB 5 [e1,e2],cJ 3 [e3,e4]with
   | some (l2,t2,n2,st),some (l,s)=>some ((t2=t/\n2=n)/\t'=t/\n'=n/\(d=false->at'=5)/\l=s.xs.length/\l2=st.R.length,⟨d,⟨u,no,rounds,limit,at',found,sh,kd,ky,⟨p_now,p_code,p_okk,p_val,p_addr,p_old,p_nxt,p_mark,p_pops⟩,eK,bV,sub,⟨0,0,0,0⟩,⟨0,0,0,false⟩⟩,st,s⟩)
   | _,_=>none)
 | _,_=>none
def aD0(t n:Int)(v:AVal)(g:aC Ob):Option (Prop×HpO):=match v,g with
 | .bool d,[some (.cells [.ptr 1 0,.int .i64 u,.int .u64 no,.int .i64 rounds,.int .i64 limit,.int .i64 at',.int .u64 found,.int .i64 sh,.int .i64 kd,.int .i64 ky,.bool p_now,.int .i64 p_code,.bool p_okk,.int .i64 p_val,.int .i64 p_addr,.int .u64 p_old,.int .i64 p_nxt,.bool p_mark,.int .i64 p_pops,.O,.O,.O,.ptr 4 0,.O]),e1,e3,e4,some (.abs (.clear t' n' sub) []),e2]=>(match lB 5 [e1,e2],cJ 3 [e3,e4]with
   | some (l2,t2,n2,st),some (l,s)=>some ((t2=t/\n2=n)/\t'=t/\n'=n/\(d=false->at'=7)/\l=s.xs.length/\l2=st.R.length,⟨d,⟨u,no,rounds,limit,at',found,sh,kd,ky,⟨p_now,p_code,p_okk,p_val,p_addr,p_old,p_nxt,p_mark,p_pops⟩,eK,bV,bP,sub,⟨0,0,0,false⟩⟩,st,s⟩)
   | _,_=>none)
 | _,_=>none
def aD1(t n:Int)(v:AVal)(g:aC Ob):Option (Prop×HpO):=match v,g with
 | .bool d,[some (.cells [.ptr 1 0,.int .i64 u,.int .u64 no,.int .i64 rounds,.int .i64 limit,.int .i64 at',.int .u64 found,.int .i64 sh,.int .i64 kd,.int .i64 ky,.bool p_now,.int .i64 p_code,.bool p_okk,.int .i64 p_val,.int .i64 p_addr,.int .u64 p_old,.int .i64 p_nxt,.bool p_mark,.int .i64 p_pops,.O,.O,.O,.O,.ptr 4 0]),e1,e3,e4,some (.abs (.prepare t' n' sub) [1]),e2]=>(match lB 5 [e1,e2],cJ 3 [e3,e4]with
   | some (l2,t2,n2,st),some (l,s)=>some ((t2=t/\n2=n)/\t'=t/\n'=n/\(d=false->at'=8)/\l=s.xs.length/\l2=st.R.length,⟨d,⟨u,no,rounds,limit,at',found,sh,kd,ky,⟨p_now,p_code,p_okk,p_val,p_addr,p_old,p_nxt,p_mark,p_pops⟩,eK,bV,bP,⟨0,0,0,0⟩,sub⟩,st,s⟩)
   | _,_=>none)
 | _,_=>none
def wI(t n:Int)(v:AVal)(g:aC Ob):Option (Prop×HpO):=(match aDW t n v g with
 | some r=>some r
 | none=>(match aDX t n v g with
 | some r=>some r
 | none=>(match aDY t n v g with
 | some r=>some r
 | none=>(match aDZ t n v g with
 | some r=>some r
 | none=>(match aD0 t n v g with
 | some r=>some r
 | none=>aD1 t n v g)))))
theorem YR{t n:Int} :bO (obI tbl) 4 (aDW t n) (HpO.fin t n):=by
 intro v g p x hp hq K hK;unfold aDW at hp;split at hp
 case h_2=>cases hp
 rename_i d u no rounds limit at' found sh kd ky p_now p_code p_okk p_val p_addr p_old p_nxt p_mark p_pops e1 e3 e4 e2;split at hp
 case h_2=>cases hp
 rename_i l2 t2 n2 st l s hs hm;cases hp;obtain⟨⟨rfl,rfl⟩,hat,hl,hl2⟩:=hq;cases aZ hm hl;cases b9 hs hl2;refine fC hK (fun h=>?_) (fun hd h=>?_)
 ·exact tkP h (.store t2 n2 st) 1 0 (dK t2 n2 st) []
 ·exact wJ h (.store t2 n2 st) 1 0 (dK t2 n2 st) [] 0 [1] rfl (congrArg (Prod.mk 1) (j9 (hat hd)))
theorem YS{t n:Int} :bO (obI tbl) 4 (aDX t n) (HpO.fin t n):=by
 intro v g p x hp hq K hK;unfold aDX at hp;split at hp
 case h_2=>cases hp
 rename_i d u no rounds limit at' found sh kd ky p_now p_code p_okk p_val p_addr p_old p_nxt p_mark p_pops e1 e3 e4 t' n' sub e2;split at hp
 case h_2=>cases hp
 rename_i l2 t2 n2 st l s hs hm;cases hp;obtain⟨⟨rfl,rfl⟩,rfl,rfl,hat,hl,hl2⟩:=hq;cases aZ hm hl;cases b9 hs hl2;refine fC hK (fun h=>?_) (fun hd h=>?_)
 ·exact DM h [19,20,21,22,23] [0,1,2,3,5] (.store t' n' st) 1 0 (dK t' n' st) []
 ·exact wJ h (.store t' n' st) 1 0 (dK t' n' st) [] 0 [1] rfl (congrArg (Prod.mk 1) (IX (hat hd)))
theorem YT{t n:Int} :bO (obI tbl) 4 (aDY t n) (HpO.fin t n):=by
 intro v g p x hp hq K hK;unfold aDY at hp;split at hp
 case h_2=>cases hp
 rename_i d u no rounds limit at' found sh kd ky p_now p_code p_okk p_val p_addr p_old p_nxt p_mark p_pops e1 e3 e4 t' n' sub e2;split at hp
 case h_2=>cases hp
 rename_i l2 t2 n2 st l s hs hm;cases hp;obtain⟨⟨rfl,rfl⟩,rfl,rfl,hat,hl,hl2⟩:=hq;cases aZ hm hl;cases b9 hs hl2;refine fC hK (fun h=>?_) (fun hd h=>?_)
 ·exact DM h [19,20,21,22,23] [0,1,2,3,5] (.store t' n' st) 1 0 (dK t' n' st) []
 ·exact wJ h (.store t' n' st) 1 0 (dK t' n' st) [] 0 [1] rfl (congrArg (Prod.mk 1) (IY (hat hd)))
theorem YU{t n:Int} :bO (obI tbl) 4 (aDZ t n) (HpO.fin t n):=by
 intro v g p x hp hq K hK;unfold aDZ at hp;split at hp
 case h_2=>cases hp
 rename_i d u no rounds limit at' found sh kd ky p_now p_code p_okk p_val p_addr p_old p_nxt p_mark p_pops e1 e3 e4 t' n' sub e2;split at hp
 case h_2=>cases hp
 rename_i l2 t2 n2 st l s hs hm;cases hp;obtain⟨⟨rfl,rfl⟩,rfl,rfl,hat,hl,hl2⟩:=hq;cases aZ hm hl;cases b9 hs hl2;refine fC hK (fun h=>?_) (fun hd h=>?_)
 ·exact DM h [19,20,21,22,23] [0,1,2,3,5] (.store t' n' st) 1 0 (dK t' n' st) []
 ·exact wJ h (.store t' n' st) 1 0 (dK t' n' st) [] 0 [1] rfl (congrArg (Prod.mk 1) (IZ (hat hd)))
theorem YV{t n:Int} :bO (obI tbl) 4 (aD0 t n) (HpO.fin t n):=by
 intro v g p x hp hq K hK;unfold aD0 at hp;split at hp
 case h_2=>cases hp
 rename_i d u no rounds limit at' found sh kd ky p_now p_code p_okk p_val p_addr p_old p_nxt p_mark p_pops e1 e3 e4 t' n' sub e2;split at hp
 case h_2=>cases hp
 rename_i l2 t2 n2 st l s hs hm;cases hp;obtain⟨⟨rfl,rfl⟩,rfl,rfl,hat,hl,hl2⟩:=hq;cases aZ hm hl;cases b9 hs hl2;refine fC hK (fun h=>?_) (fun hd h=>?_)
 ·exact DM h [19,20,21,22,23] [0,1,2,3,5] (.store t' n' st) 1 0 (dK t' n' st) []
 ·exact wJ h (.store t' n' st) 1 0 (dK t' n' st) [] 0 [1] rfl (congrArg (Prod.mk 1) (I0 (hat hd)))
theorem YW{t n:Int} :bO (obI tbl) 4 (aD1 t n) (HpO.fin t n):=by
 intro v g p x hp hq K hK;unfold aD1 at hp;split at hp
 case h_2=>cases hp
 rename_i d u no rounds limit at' found sh kd ky p_now p_code p_okk p_val p_addr p_old p_nxt p_mark p_pops e1 e3 e4 t' n' sub e2;split at hp
 case h_2=>cases hp
 rename_i l2 t2 n2 st l s hs hm;cases hp;obtain⟨⟨rfl,rfl⟩,rfl,rfl,hat,hl,hl2⟩:=hq;cases aZ hm hl;cases b9 hs hl2;refine fC hK (fun h=>?_) (fun hd h=>?_)
 ·exact DM h [19,20,21,22,23] [0,1,2,3,5] (.store t' n' st) 1 0 (dK t' n' st) []
 ·exact wJ h (.store t' n' st) 1 0 (dK t' n' st) [] 0 [1] rfl (congrArg (Prod.mk 1) (I1 (hat hd)))
theorem lA{t n:Int} :bO (obI tbl) 4 (wI t n) (HpO.fin t n):=by
 intro v g p x hp hq K hK;unfold wI at hp;split at hp
 ·rename_i r hr;cases hp;exact YR v g p x hr hq K hK
 split at hp
 ·rename_i r hr;cases hp;exact YS v g p x hr hq K hK
 split at hp
 ·rename_i r hr;cases hp;exact YT v g p x hr hq K hK
 split at hp
 ·rename_i r hr;cases hp;exact YU v g p x hr hq K hK
 split at hp
 ·rename_i r hr;cases hp;exact YV v g p x hr hq K hK
 exact YW v g p x hp hq K hK
abbrev w1q(n t:Int)(x:HPS):=(((0:Int)<=t/\t<=(100000:Int))/\((0:Int)<=n/\n<=(100000:Int))/\(-1099511627776:Int)<=x.1/\x.1<=(1099511627776:Int))/\True
def CC(t n:Int)(x:HPS)(st:STS)(s:MS):Tr HpO:=.pre (w1q n t x) (.pre ((q9' s)/\True) (.pre True (.pre True (.pre ((t=t/\n=n)/\((!nK (aB (aE s.3 (2*n+5+2*t+3*x.1+2)) 49 3))=false->(1:Int)≠(3:Int)/\(1:Int)≠(4:Int)/\(1:Int)≠(5:Int)/\(1:Int)≠(7:Int)/\(1:Int)≠(8:Int))/\lE' s.3/\lE' st.3) (.ret {d:=!nK (aB (aE s.3 (2*n+5+2*t+3*x.1+2)) 49 3),x:= {x with rounds:=W (x.3+1),at':=1,found:=aE s.3 (2*n+5+2*t+3*x.1+2),ex:=eK,en:=bV,fn:=bP,cl:=bY,pr:=dE},st:=st,s:=(dU s (2*n+5+2*t+3*x.1+2)) })))))
theorem LO(t n:Int)(x:HPS)(st:STS)(s:MS)(K:HpO->Prop)(h:(CC t n x st s).run K):cT' 152 [.ptr 0 0,.ptr 2 0] [cE' [.ptr 1 0,.I x.u,.int .u64 x.no,.I x.rounds,.I x.limit,.I 0,.int .u64 x.found,.I x.sh,.I x.kd,.I x.ky,.bool x.p.now,.I x.p.code,.bool x.p.okk,.I x.p.val,.I x.p.addr,.int .u64 x.p.old,.I x.p.nxt,.bool x.p.mark,.I x.p.pops,.O,.O,.O,.O,.O],gW 4 t n st,aX 3 s,aY s,gX st] (bS 4 0 [19,20,21,22,23] [(.cell 1 4,.ints (some .i64))] (wI t n) K):=by
 exact cM' (E:=EH0) (by kernel_rfl) h
def CD(t n:Int)(x:HPS)(st:STS)(s:MS):Tr HpO:=.pre (w1q n t x) (.pre ((q9' s)/\True) (.pre ((t=t/\n=n)/\((!ieq (aE s.3 (2*n+5+2*t+3*x.1)) x.2)=false->(2:Int)≠(3:Int)/\(2:Int)≠(4:Int)/\(2:Int)≠(5:Int)/\(2:Int)≠(7:Int)/\(2:Int)≠(8:Int))/\lE' s.3/\lE' st.3) (.ret {d:=!ieq (aE s.3 (2*n+5+2*t+3*x.1)) x.2,x:= {x with at':=2,ex:=eK,en:=bV,fn:=bP,cl:=bY,pr:=dE},st:=st,s:=(dU s (2*n+5+2*t+3*x.1)) })))
theorem LP(t n:Int)(x:HPS)(st:STS)(s:MS)(K:HpO->Prop)(h:(CD t n x st s).run K):cT' 152 [.ptr 0 0,.ptr 2 0] [cE' [.ptr 1 0,.I x.u,.int .u64 x.no,.I x.rounds,.I x.limit,.I 1,.int .u64 x.found,.I x.sh,.I x.kd,.I x.ky,.bool x.p.now,.I x.p.code,.bool x.p.okk,.I x.p.val,.I x.p.addr,.int .u64 x.p.old,.I x.p.nxt,.bool x.p.mark,.I x.p.pops,.O,.O,.O,.O,.O],gW 4 t n st,aX 3 s,aY s,gX st] (bS 4 0 [19,20,21,22,23] [(.cell 1 4,.ints (some .i64))] (wI t n) K):=by
 exact cM' (E:=EH0) (by kernel_rfl) h
abbrev w1m(n:Int)(s:MS)(t:Int)(x:HPS):=aE s.3 (2*n+5+2*t+3*x.1+1)
abbrev w1t:=false=false->(5:Int)=(5:Int)
def CE(t n:Int)(x:HPS)(st:STS)(s:MS):Tr HpO:=.pre (w1q n t x) (.pre ((q9' s)/\True) (.pre ((0:Int)<=aE s.3 (2*n+5+2*t+3*x.1+1)/\aE s.3 (2*n+5+2*t+3*x.1+1)<=(18446744073709551615:Int)) (.ite (!ieq (bif iR (w1m n s t x)then 0 else 3) 0) (.pre ((t=t/\n=n)/\(true=false->(2:Int)≠(3:Int)/\(2:Int)≠(4:Int)/\(2:Int)≠(5:Int)/\(2:Int)≠(7:Int)/\(2:Int)≠(8:Int))/\lE' s.3/\lE' st.3) (.ret {d:=true,x:= {x with at':=2,sh:=bif iR (w1m n s t x)then aB (w1m n s t x) 0 3 else 0,kd:=bif iR (w1m n s t x)then aB (w1m n s t x) 3 3 else 0,ky:=bif iR (w1m n s t x)then aB (w1m n s t x) 6 10 else 0,ex:=eK,en:=bV,fn:=bP,cl:=bY,pr:=dE},st:=st,s:=(dU s (2*n+5+2*t+3*x.1+1)) })) (.pre True (.ite (!hasB [1] (aB x.6 49 3)) (.pre True (.pre (PV t n x.1 (bif iR (w1m n s t x)then aB (w1m n s t x) 0 3 else 0) (bif iR (w1m n s t x)then aB (w1m n s t x) 3 3 else 0) (bif iR (w1m n s t x)then aB (w1m n s t x) 6 10 else 0) (aB x.6 0 12)/\True) (.pre ((t=t/\n=n)/\t=t/\n=n/\(false=false->(3:Int)=(3:Int))/\lE' s.3/\lE' st.3) (.ret {d:=false,x:= {x with at':=3,sh:=bif iR (w1m n s t x)then aB (w1m n s t x) 0 3 else 0,kd:=bif iR (w1m n s t x)then aB (w1m n s t x) 3 3 else 0,ky:=bif iR (w1m n s t x)then aB (w1m n s t x) 6 10 else 0,ex:=aC4 t n x.1 (bif iR (w1m n s t x)then aB (w1m n s t x) 0 3 else 0) (bif iR (w1m n s t x)then aB (w1m n s t x) 3 3 else 0) (bif iR (w1m n s t x)then aB (w1m n s t x) 6 10 else 0) (aB x.6 0 12),en:=bV,fn:=bP,cl:=bY,pr:=dE},st:=st,s:=(dU s (2*n+5+2*t+3*x.1+1)) })))) (.pre True (.ite (fT (bif iR (w1m n s t x)then aB (w1m n s t x) 3 3 else 0)) (.ite (ieq st.2 0) (.pre (lE' st.3/\(t=t/\n=n/\lE' st.3)/\True) (.pre ((t=t/\n=n)/\t=t/\n=n/\(false=false->(4:Int)=(4:Int))/\lE' s.3/\lE' st.3) (.ret {d:=false,x:= {x with at':=4,sh:=bif iR (w1m n s t x)then aB (w1m n s t x) 0 3 else 0,kd:=bif iR (w1m n s t x)then aB (w1m n s t x) 3 3 else 0,ky:=bif iR (w1m n s t x)then aB (w1m n s t x) 6 10 else 0,ex:=eK,en:=bV,fn:=bP,cl:=bY,pr:=dE},st:=st,s:=(dU s (2*n+5+2*t+3*x.1+1)) }))) (.pre True (.pre (oO t n st.1 (fA (bif iR (w1m n s t x)then aB (w1m n s t x) 0 3 else 0) (bif iR (w1m n s t x)then aB (w1m n s t x) 6 10 else 0)) (l8 (bif iR (w1m n s t x)then aB (w1m n s t x) 0 3 else 0) (bif iR (w1m n s t x)then aB (w1m n s t x) 3 3 else 0) (bif iR (w1m n s t x)then aB (w1m n s t x) 6 10 else 0)) x.4/\True) (.pre ((t=t/\n=n)/\t=t/\n=n/\w1t/\lE' s.3/\lE' st.3) (.ret {d:=false,x:= {x with at':=5,sh:=bif iR (w1m n s t x)then aB (w1m n s t x) 0 3 else 0,kd:=bif iR (w1m n s t x)then aB (w1m n s t x) 3 3 else 0,ky:=bif iR (w1m n s t x)then aB (w1m n s t x) 6 10 else 0,ex:=eK,en:=bV,fn:=u3 t n st.1 (fA (bif iR (w1m n s t x)then aB (w1m n s t x) 0 3 else 0) (bif iR (w1m n s t x)then aB (w1m n s t x) 6 10 else 0)) (l8 (bif iR (w1m n s t x)then aB (w1m n s t x) 0 3 else 0) (bif iR (w1m n s t x)then aB (w1m n s t x) 3 3 else 0) (bif iR (w1m n s t x)then aB (w1m n s t x) 6 10 else 0)) x.4,cl:=bY,pr:=dE},st:=st,s:=(dU s (2*n+5+2*t+3*x.1+1)) }))))) (.pre True (.pre (oO t n st.1 (fA (bif iR (w1m n s t x)then aB (w1m n s t x) 0 3 else 0) (bif iR (w1m n s t x)then aB (w1m n s t x) 6 10 else 0)) (l8 (bif iR (w1m n s t x)then aB (w1m n s t x) 0 3 else 0) (bif iR (w1m n s t x)then aB (w1m n s t x) 3 3 else 0) (bif iR (w1m n s t x)then aB (w1m n s t x) 6 10 else 0)) x.4/\True) (.pre ((t=t/\n=n)/\t=t/\n=n/\w1t/\lE' s.3/\lE' st.3) (.ret {d:=false,x:= {x with at':=5,sh:=bif iR (w1m n s t x)then aB (w1m n s t x) 0 3 else 0,kd:=bif iR (w1m n s t x)then aB (w1m n s t x) 3 3 else 0,ky:=bif iR (w1m n s t x)then aB (w1m n s t x) 6 10 else 0,ex:=eK,en:=bV,fn:=u3 t n st.1 (fA (bif iR (w1m n s t x)then aB (w1m n s t x) 0 3 else 0) (bif iR (w1m n s t x)then aB (w1m n s t x) 6 10 else 0)) (l8 (bif iR (w1m n s t x)then aB (w1m n s t x) 0 3 else 0) (bif iR (w1m n s t x)then aB (w1m n s t x) 3 3 else 0) (bif iR (w1m n s t x)then aB (w1m n s t x) 6 10 else 0)) x.4,cl:=bY,pr:=dE},st:=st,s:=(dU s (2*n+5+2*t+3*x.1+1)) })))))))))))
theorem LQ(t n:Int)(x:HPS)(st:STS)(s:MS)(K:HpO->Prop)(h:(CE t n x st s).run K):cT' 152 [.ptr 0 0,.ptr 2 0] [cE' [.ptr 1 0,.I x.u,.int .u64 x.no,.I x.rounds,.I x.limit,.I 2,.int .u64 x.found,.I x.sh,.I x.kd,.I x.ky,.bool x.p.now,.I x.p.code,.bool x.p.okk,.I x.p.val,.I x.p.addr,.int .u64 x.p.old,.I x.p.nxt,.bool x.p.mark,.I x.p.pops,.O,.O,.O,.O,.O],gW 4 t n st,aX 3 s,aY s,gX st] (bS 4 0 [19,20,21,22,23] [(.cell 1 4,.ints (some .i64))] (wI t n) K):=by
 exact cM' (E:=EH0) (by kernel_rfl) h
abbrev w1n:=false=false->(0:Int)≠(3:Int)/\(0:Int)≠(4:Int)/\(0:Int)≠(5:Int)/\(0:Int)≠(7:Int)/\(0:Int)≠(8:Int)
def CF(t n:Int)(x:HPS)(st:STS)(s:MS):Tr HpO:=.pre (lE' s.3/\aC8 t n x.11 s) (.ite (DV t n x.11 s).1 (.ite (!ieq (ExO.x (DV t n x.11 s)).1 0) (.pre (lE' st.3/\1=1/\st.3.length+(1:Nat)<=(4294967296:Nat)) (.pre ((t=t/\n=n)/\w1n/\lE' (ExO.s (DV t n x.11 s)).3/\st.3.length+(1:Nat)=List.length (st.3++ [(ExO.x (DV t n x.11 s)).1])) (.ret {d:=false,x:= {x with at':=0,ex:=eK,en:=bV,fn:=bP,cl:=bY,pr:=dE},st:= {me:=st.1,sp:=st.2,R:=st.3++ [(ExO.x (DV t n x.11 s)).1] },s:=(DV t n x.11 s).3}))) (.pre ((t=t/\n=n)/\w1n/\lE' (ExO.s (DV t n x.11 s)).3/\lE' st.3) (.ret {d:=false,x:= {x with at':=0,ex:=eK,en:=bV,fn:=bP,cl:=bY,pr:=dE},st:=st,s:=(DV t n x.11 s).3}))) (.pre ((t=t/\n=n)/\t=t/\n=n/\(false=false->(3:Int)=(3:Int))/\lE' (ExO.s (DV t n x.11 s)).3/\lE' st.3) (.ret {d:=false,x:= {x with at':=3,ex:=(DV t n x.11 s).2,en:=bV,fn:=bP,cl:=bY,pr:=dE},st:=st,s:=(DV t n x.11 s).3})))
theorem LR(t n:Int)(x:HPS)(st:STS)(s:MS)(K:HpO->Prop)(h:(CF t n x st s).run K):cT' 152 [.ptr 0 0,.ptr 2 0] [cE' [.ptr 1 0,.I x.u,.int .u64 x.no,.I x.rounds,.I x.limit,.I 3,.int .u64 x.found,.I x.sh,.I x.kd,.I x.ky,.bool x.p.now,.I x.p.code,.bool x.p.okk,.I x.p.val,.I x.p.addr,.int .u64 x.p.old,.I x.p.nxt,.bool x.p.mark,.I x.p.pops,.ptr 4 0,.O,.O,.O,.O],gW 5 t n st,aX 3 s,aY s,some (.abs (.exec t n x.ex) []),gX st] (bS 4 0 [19,20,21,22,23] [(.cell 1 4,.ints (some .i64))] (wI t n) K):=by
 exact cM' (E:=EH0) (by kernel_rfl) h
abbrev w1r:=false=false->(6:Int)≠(3:Int)/\(6:Int)≠(4:Int)/\(6:Int)≠(5:Int)/\(6:Int)≠(7:Int)/\(6:Int)≠(8:Int)
def CG(t n:Int)(x:HPS)(st:STS)(s:MS):Tr HpO:=.pre ((lE' s.3/\lE' st.3/\t=t/\n=n)/\L8 t n (HPS.en x) st s) (.ite (enF t n x.12 st s).1 (.ite (EO.e (enF t n x.12 st s)).2 (.pre ((t=t/\n=n)/\w1r/\lE' (EO.s (enF t n x.12 st s)).3/\lE' (EO.st (enF t n x.12 st s)).3) (.ret {d:=false,x:= {x with at':=6,p:= {now:=true,code:=4,okk:=false,val:=0,addr:=0,old:=0,nxt:=0,mark:=false,pops:=0},ex:=eK,en:=bV,fn:=bP,cl:=bY,pr:=dE},st:=(enF t n x.12 st s).3,s:=(enF t n x.12 st s).4})) (.pre True (.pre (oO t n (EO.st (enF t n x.12 st s)).1 (fA x.7 x.9) (l8 x.7 x.8 x.9) x.4/\True) (.pre ((t=t/\n=n)/\t=t/\n=n/\w1t/\lE' (EO.s (enF t n x.12 st s)).3/\lE' (EO.st (enF t n x.12 st s)).3) (.ret {d:=false,x:= {x with at':=5,ex:=eK,en:=bV,fn:=u3 t n (EO.st (enF t n x.12 st s)).1 (fA x.7 x.9) (l8 x.7 x.8 x.9) x.4,cl:=bY,pr:=dE},st:=(enF t n x.12 st s).3,s:=(enF t n x.12 st s).4}))))) (.pre ((t=t/\n=n)/\t=t/\n=n/\(false=false->(4:Int)=(4:Int))/\lE' (EO.s (enF t n x.12 st s)).3/\lE' (EO.st (enF t n x.12 st s)).3) (.ret {d:=false,x:= {x with at':=4,ex:=eK,en:=(enF t n x.12 st s).2,fn:=bP,cl:=bY,pr:=dE},st:=(enF t n x.12 st s).3,s:=(enF t n x.12 st s).4})))
theorem LS(t n:Int)(x:HPS)(st:STS)(s:MS)(K:HpO->Prop)(h:(CG t n x st s).run K):cT' 152 [.ptr 0 0,.ptr 2 0] [cE' [.ptr 1 0,.I x.u,.int .u64 x.no,.I x.rounds,.I x.limit,.I 4,.int .u64 x.found,.I x.sh,.I x.kd,.I x.ky,.bool x.p.now,.I x.p.code,.bool x.p.okk,.I x.p.val,.I x.p.addr,.int .u64 x.p.old,.I x.p.nxt,.bool x.p.mark,.I x.p.pops,.O,.ptr 4 0,.O,.O,.O],gW 5 t n st,aX 3 s,aY s,some (.abs (.ensure t n x.en) [1]),gX st] (bS 4 0 [19,20,21,22,23] [(.cell 1 4,.ints (some .i64))] (wI t n) K):=by
 exact cM' (E:=EH0) (by kernel_rfl) h
abbrev w1p(n:Int)(s:MS)(t:Int)(x:HPS):=FnO.x (aM t n x.13 s)
abbrev w1l(n:Int)(s:MS)(st:STS)(t:Int)(x:HPS):=bL x.7 x.8 x.9 (w1p n s t x).1 (w1p n s t x).2 (w1p n s t x).3 (w1p n s t x).4 st.2
abbrev w1s:=false=false->(9:Int)≠(3:Int)/\(9:Int)≠(4:Int)/\(9:Int)≠(5:Int)/\(9:Int)≠(7:Int)/\(9:Int)≠(8:Int)
def CH(t n:Int)(x:HPS)(st:STS)(s:MS):Tr HpO:=.pre (lE' s.3/\K6 t n x.13 s) (.ite (aM t n x.13 s).1 (.pre ((lE' st.3/\lE' (w1p n s t x).6/\st.3.length+List.length (w1p n s t x).6<=(4294967296:Nat))/\True) (.pre (vT x.7 x.8 x.9 (w1p n s t x).1 (w1p n s t x).2 (w1p n s t x).3 (w1p n s t x).4 st.2/\True) (.ite (w1p n s t x).7 (.pre ((t=t/\n=n)/\w1n/\lE' (FnO.s (aM t n x.13 s)).3/\st.3.length+List.length (w1p n s t x).6=List.length (st.3++(w1p n s t x).6)) (.ret {d:=false,x:= {x with at':=0,p:=bL x.7 x.8 x.9 (w1p n s t x).1 (w1p n s t x).2 (w1p n s t x).3 (w1p n s t x).4 st.2,ex:=eK,en:=bV,fn:=bP,cl:=bY,pr:=dE},st:= {me:=st.1,sp:=st.2,R:=st.3++(w1p n s t x).6},s:=(aM t n x.13 s).3})) (.ite (w1l n s st t x).1 (.pre ((t=t/\n=n)/\w1r/\lE' (FnO.s (aM t n x.13 s)).3/\st.3.length+List.length (w1p n s t x).6=List.length (st.3++(w1p n s t x).6)) (.ret {d:=false,x:= {x with at':=6,p:=bL x.7 x.8 x.9 (w1p n s t x).1 (w1p n s t x).2 (w1p n s t x).3 (w1p n s t x).4 st.2,ex:=eK,en:=bV,fn:=bP,cl:=bY,pr:=dE},st:= {me:=st.1,sp:=st.2,R:=st.3++(w1p n s t x).6},s:=(aM t n x.13 s).3})) (.pre (oC (w1l n s st t x).1 (w1l n s st t x).2 (w1l n s st t x).3 (w1l n s st t x).4 (w1l n s st t x).5 (w1l n s st t x).6 (w1l n s st t x).7 (w1l n s st t x).8 (w1l n s st t x).9) (.ite (zF (w1l n s st t x).1 (w1l n s st t x).2 (w1l n s st t x).3 (w1l n s st t x).4 (w1l n s st t x).5 (w1l n s st t x).6 (w1l n s st t x).7 (w1l n s st t x).8 (w1l n s st t x).9) (.pre (p5 t n (w1l n s st t x).5/\True) (.pre ((t=t/\n=n)/\t=t/\n=n/\(false=false->(7:Int)=(7:Int))/\lE' (FnO.s (aM t n x.13 s)).3/\st.3.length+List.length (w1p n s t x).6=List.length (st.3++(w1p n s t x).6)) (.ret {d:=false,x:= {x with at':=7,p:=bL x.7 x.8 x.9 (w1p n s t x).1 (w1p n s t x).2 (w1p n s t x).3 (w1p n s t x).4 st.2,ex:=eK,en:=bV,fn:=bP,cl:=yJ t n (w1l n s st t x).5,pr:=dE},st:= {me:=st.1,sp:=st.2,R:=st.3++(w1p n s t x).6},s:=(aM t n x.13 s).3}))) (.pre True (.ite (fT x.8) (.pre ((st.3.length+List.length (w1p n s t x).6=List.length (st.3++(w1p n s t x).6)/\C8 t n x.9 (w1p n s t x).3 {me:=st.1,sp:=st.2,R:=st.3++(w1p n s t x).6})/\True) (.pre ((t=t/\n=n)/\t=t/\n=n/\(false=false->(8:Int)=(8:Int))/\lE' (FnO.s (aM t n x.13 s)).3/\lE' (Prod.snd (pJ t n x.9 (w1p n s t x).3 {me:=st.1,sp:=st.2,R:=st.3++(w1p n s t x).6})).3) (.ret {d:=false,x:= {x with at':=8,p:=bL x.7 x.8 x.9 (w1p n s t x).1 (w1p n s t x).2 (w1p n s t x).3 (w1p n s t x).4 st.2,ex:=eK,en:=bV,fn:=bP,cl:=bY,pr:=(pJ t n x.9 (w1p n s t x).3 {me:=st.1,sp:=st.2,R:=st.3++(w1p n s t x).6}).1},st:=(pJ t n x.9 (w1p n s t x).3 {me:=st.1,sp:=st.2,R:=st.3++(w1p n s t x).6}).2,s:=(aM t n x.13 s).3}))) (.pre ((t=t/\n=n)/\w1s/\lE' (FnO.s (aM t n x.13 s)).3/\st.3.length+List.length (w1p n s t x).6=List.length (st.3++(w1p n s t x).6)) (.ret {d:=false,x:= {x with at':=9,p:=bL x.7 x.8 x.9 (w1p n s t x).1 (w1p n s t x).2 (w1p n s t x).3 (w1p n s t x).4 st.2,ex:=eK,en:=bV,fn:=bP,cl:=bY,pr:=dE},st:= {me:=st.1,sp:=st.2,R:=st.3++(w1p n s t x).6},s:=(aM t n x.13 s).3})))))))))) (.pre ((t=t/\n=n)/\t=t/\n=n/\w1t/\lE' (FnO.s (aM t n x.13 s)).3/\lE' st.3) (.ret {d:=false,x:= {x with at':=5,ex:=eK,en:=bV,fn:=(aM t n x.13 s).2,cl:=bY,pr:=dE},st:=st,s:=(aM t n x.13 s).3})))
theorem LT(t n:Int)(x:HPS)(st:STS)(s:MS)(K:HpO->Prop)(h:(CH t n x st s).run K):cT' 152 [.ptr 0 0,.ptr 2 0] [cE' [.ptr 1 0,.I x.u,.int .u64 x.no,.I x.rounds,.I x.limit,.I 5,.int .u64 x.found,.I x.sh,.I x.kd,.I x.ky,.bool x.p.now,.I x.p.code,.bool x.p.okk,.I x.p.val,.I x.p.addr,.int .u64 x.p.old,.I x.p.nxt,.bool x.p.mark,.I x.p.pops,.O,.O,.ptr 4 0,.O,.O],gW 5 t n st,aX 3 s,aY s,some (.abs (.find t n x.fn) []),gX st] (bS 4 0 [19,20,21,22,23] [(.cell 1 4,.ints (some .i64))] (wI t n) K):=by
 exact cM' (E:=EH0) (by kernel_rfl) h
def CI(t n:Int)(x:HPS)(st:STS)(s:MS):Tr HpO:=.pre True (.pre True (.pre True (.pre (w1q n t x) (.pre ((q9' s)/\True) (.pre ((t=t/\n=n)/\w1n/\lE' (bif bJ s.3 (2*n+5+2*t+3*x.1+2) x.6 then bA s.3 (2*n+5+2*t+3*x.1+2) (bif dOk (aB x.6 0 12) 0 0 (bif ieq (HPS.p x).2 4 then 1 else 0) 5 (HPS.p x).4 then cM (aB x.6 0 12) 0 0 (bif ieq (HPS.p x).2 4 then 1 else 0) (HPS.p x).3 5 (HPS.p x).4 else 0)else s.3)/\lE' st.3) (.ret {d:=false,x:= {x with at':=0,ex:=eK,en:=bV,fn:=bP,cl:=bY,pr:=dE},st:=st,s:=(pQ s (2*n+5+2*t+3*x.1+2) x.6 (bif dOk (aB x.6 0 12) 0 0 (bif ieq (HPS.p x).2 4 then 1 else 0) 5 (HPS.p x).4 then cM (aB x.6 0 12) 0 0 (bif ieq (HPS.p x).2 4 then 1 else 0) (HPS.p x).3 5 (HPS.p x).4 else 0)) }))))))
theorem LU(t n:Int)(x:HPS)(st:STS)(s:MS)(K:HpO->Prop)(h:(CI t n x st s).run K):cT' 152 [.ptr 0 0,.ptr 2 0] [cE' [.ptr 1 0,.I x.u,.int .u64 x.no,.I x.rounds,.I x.limit,.I 6,.int .u64 x.found,.I x.sh,.I x.kd,.I x.ky,.bool x.p.now,.I x.p.code,.bool x.p.okk,.I x.p.val,.I x.p.addr,.int .u64 x.p.old,.I x.p.nxt,.bool x.p.mark,.I x.p.pops,.O,.O,.O,.O,.O],gW 4 t n st,aX 3 s,aY s,gX st] (bS 4 0 [19,20,21,22,23] [(.cell 1 4,.ints (some .i64))] (wI t n) K):=by
 exact cM' (E:=EH0) (by kernel_rfl) h
def CJ(t n:Int)(x:HPS)(st:STS)(s:MS):Tr HpO:=.pre (lE' s.3/\OV t n x.14 s) (.ite (oM t n x.14 s).1 (.pre ((t=t/\n=n)/\w1n/\lE' (ClO.s (oM t n x.14 s)).3/\lE' st.3) (.ret {d:=false,x:= {x with at':=0,ex:=eK,en:=bV,fn:=bP,cl:=bY,pr:=dE},st:=st,s:=(oM t n x.14 s).3})) (.pre ((t=t/\n=n)/\t=t/\n=n/\(false=false->(7:Int)=(7:Int))/\lE' (ClO.s (oM t n x.14 s)).3/\lE' st.3) (.ret {d:=false,x:= {x with at':=7,ex:=eK,en:=bV,fn:=bP,cl:=(oM t n x.14 s).2,pr:=dE},st:=st,s:=(oM t n x.14 s).3})))
theorem LV(t n:Int)(x:HPS)(st:STS)(s:MS)(K:HpO->Prop)(h:(CJ t n x st s).run K):cT' 152 [.ptr 0 0,.ptr 2 0] [cE' [.ptr 1 0,.I x.u,.int .u64 x.no,.I x.rounds,.I x.limit,.I 7,.int .u64 x.found,.I x.sh,.I x.kd,.I x.ky,.bool x.p.now,.I x.p.code,.bool x.p.okk,.I x.p.val,.I x.p.addr,.int .u64 x.p.old,.I x.p.nxt,.bool x.p.mark,.I x.p.pops,.O,.O,.O,.ptr 4 0,.O],gW 5 t n st,aX 3 s,aY s,some (.abs (.clear t n x.cl) []),gX st] (bS 4 0 [19,20,21,22,23] [(.cell 1 4,.ints (some .i64))] (wI t n) K):=by
 exact cM' (E:=EH0) (by kernel_rfl) h
def CK(t n:Int)(x:HPS)(st:STS)(s:MS):Tr HpO:=.pre ((lE' s.3/\lE' st.3/\t=t/\n=n)/\SF t n x.15 st s) (.ite (prF t n x.15 st s).1 (.pre ((t=t/\n=n)/\w1s/\lE' (PrO.s (prF t n x.15 st s)).3/\lE' (PrO.st (prF t n x.15 st s)).3) (.ret {d:=false,x:= {x with at':=9,ex:=eK,en:=bV,fn:=bP,cl:=bY,pr:=dE},st:=(prF t n x.15 st s).3,s:=(prF t n x.15 st s).4})) (.pre ((t=t/\n=n)/\t=t/\n=n/\(false=false->(8:Int)=(8:Int))/\lE' (PrO.s (prF t n x.15 st s)).3/\lE' (PrO.st (prF t n x.15 st s)).3) (.ret {d:=false,x:= {x with at':=8,ex:=eK,en:=bV,fn:=bP,cl:=bY,pr:=(prF t n x.15 st s).2},st:=(prF t n x.15 st s).3,s:=(prF t n x.15 st s).4})))
theorem LW(t n:Int)(x:HPS)(st:STS)(s:MS)(K:HpO->Prop)(h:(CK t n x st s).run K):cT' 152 [.ptr 0 0,.ptr 2 0] [cE' [.ptr 1 0,.I x.u,.int .u64 x.no,.I x.rounds,.I x.limit,.I 8,.int .u64 x.found,.I x.sh,.I x.kd,.I x.ky,.bool x.p.now,.I x.p.code,.bool x.p.okk,.I x.p.val,.I x.p.addr,.int .u64 x.p.old,.I x.p.nxt,.bool x.p.mark,.I x.p.pops,.O,.O,.O,.O,.ptr 4 0],gW 5 t n st,aX 3 s,aY s,some (.abs (.prepare t n x.pr) [1]),gX st] (bS 4 0 [19,20,21,22,23] [(.cell 1 4,.ints (some .i64))] (wI t n) K):=by
 exact cM' (E:=EH0) (by kernel_rfl) h
abbrev w1o(x:HPS):=iW (HPS.p x).1 (HPS.p x).2 (HPS.p x).3 (HPS.p x).4 (HPS.p x).5 (HPS.p x).6 (HPS.p x).7 (HPS.p x).8 (HPS.p x).9 (aB x.6 0 12)
def CL(t n:Int)(x:HPS)(st:STS)(s:MS):Tr HpO:=.pre True (.pre (zG (HPS.p x).1 (HPS.p x).2 (HPS.p x).3 (HPS.p x).4 (HPS.p x).5 (HPS.p x).6 (HPS.p x).7 (HPS.p x).8 (HPS.p x).9 (aB x.6 0 12)/\True) (.pre (w1q n t x) (.pre ((q9' s)/\True) (.ite (bJ s.3 (2*n+5+2*t+3*x.1+2) x.6) (.pre True (.ite (fT x.8) (.pre ((t=t/\n=n)/\w1n/\lE' (bif bJ s.3 (2*n+5+2*t+3*x.1+2) x.6 then bA s.3 (2*n+5+2*t+3*x.1+2) (w1o x).1 else s.3)/\lE' st.3) (.ret {d:=false,x:= {x with at':=0,ex:=eK,en:=bV,fn:=bP,cl:=bY,pr:=dE},st:= {me:=st.1,sp:=0,R:=st.3},s:=(pQ s (2*n+5+2*t+3*x.1+2) x.6 ((w1o x).1)) })) (.pre ((t=t/\n=n)/\w1n/\lE' (bif bJ s.3 (2*n+5+2*t+3*x.1+2) x.6 then bA s.3 (2*n+5+2*t+3*x.1+2) (w1o x).1 else s.3)/\lE' st.3) (.ret {d:=false,x:= {x with at':=0,ex:=eK,en:=bV,fn:=bP,cl:=bY,pr:=dE},st:=st,s:=(pQ s (2*n+5+2*t+3*x.1+2) x.6 ((w1o x).1)) })))) (.pre ((t=t/\n=n)/\w1n/\lE' (bif bJ s.3 (2*n+5+2*t+3*x.1+2) x.6 then bA s.3 (2*n+5+2*t+3*x.1+2) (w1o x).1 else s.3)/\lE' st.3) (.ret {d:=false,x:= {x with at':=0,ex:=eK,en:=bV,fn:=bP,cl:=bY,pr:=dE},st:=st,s:=(pQ s (2*n+5+2*t+3*x.1+2) x.6 ((w1o x).1)) }))))))
theorem LX(t n:Int)(x:HPS)(st:STS)(s:MS)(K:HpO->Prop)(h:(CL t n x st s).run K):cT' 152 [.ptr 0 0,.ptr 2 0] [cE' [.ptr 1 0,.I x.u,.int .u64 x.no,.I x.rounds,.I x.limit,.I 9,.int .u64 x.found,.I x.sh,.I x.kd,.I x.ky,.bool x.p.now,.I x.p.code,.bool x.p.okk,.I x.p.val,.I x.p.addr,.int .u64 x.p.old,.I x.p.nxt,.bool x.p.mark,.I x.p.pops,.O,.O,.O,.O,.O],gW 4 t n st,aX 3 s,aY s,gX st] (bS 4 0 [19,20,21,22,23] [(.cell 1 4,.ints (some .i64))] (wI t n) K):=by
 exact cM' (E:=EH0) (by kernel_rfl) h
def hpT(t n:Int)(x:HPS)(st:STS)(s:MS):Tr HpO:=
 bif ieq x.at' 0 then CC t n x st s else
 bif ieq x.at' 1 then CD t n x st s else
 bif ieq x.at' 2 then CE t n x st s else
 bif ieq x.at' 3 then CF t n x st s else
 bif ieq x.at' 4 then CG t n x st s else
 bif ieq x.at' 5 then CH t n x st s else
 bif ieq x.at' 6 then CI t n x st s else
 bif ieq x.at' 7 then CJ t n x st s else
 bif ieq x.at' 8 then CK t n x st s else
 bif ieq x.at' 9 then CL t n x st s else .pre False (.ret default)
def gN(t n:Int)(x:HPS)(st:STS)(s:MS):HpO:=(hpT t n x st s).val
def QO(t n:Int)(x:HPS)(st:STS)(s:MS):Prop:=(hpT t n x st s).ok
theorem I2(t n:Int)(x:HPS)(st:STS)(s:MS)(K:AVal->aC Ob->Prop)(h:(hpT t n x st s).run (fun y=>(HpO.fin t n y).run K)):cT' 152 [.ptr 0 0,.ptr 2 0] (hpH t n x st s) K:=by
 unfold hpT at h
 by_cases e:x.at'=0
 ·rw [e]at h;have h:(CC t n x st s).run _:=h;refine aJ2 (root:=0) (pos:=[19,20,21,22,23]) (cs:=[(.cell 1 4,.ints (some .i64))]) (parse:=wI t n) (fin:=HpO.fin t n) lA ((aQ.unpack (.help t n x) 0 1 (nB t n x) [1] rfl (congrArg (Prod.mk 1) (j9 ⟨(by omega),(by omega),(by omega),(by omega),(by omega)⟩)) (by kernel_rfl) rfl).trans (aQ.unpack (.store t n st) 1 0 (dK t n st) [] rfl rfl rfl rfl)) ?_
  have q:=LO t n x st s _ h;rw [<-e]at q;exact q
 rw [bK e]at h
 by_cases e:x.at'=1
 ·rw [e]at h;have h:(CD t n x st s).run _:=h;refine aJ2 (root:=0) (pos:=[19,20,21,22,23]) (cs:=[(.cell 1 4,.ints (some .i64))]) (parse:=wI t n) (fin:=HpO.fin t n) lA ((aQ.unpack (.help t n x) 0 1 (nB t n x) [1] rfl (congrArg (Prod.mk 1) (j9 ⟨(by omega),(by omega),(by omega),(by omega),(by omega)⟩)) (by kernel_rfl) rfl).trans (aQ.unpack (.store t n st) 1 0 (dK t n st) [] rfl rfl rfl rfl)) ?_
  have q:=LP t n x st s _ h;rw [<-e]at q;exact q
 rw [bK e]at h
 by_cases e:x.at'=2
 ·rw [e]at h;have h:(CE t n x st s).run _:=h;refine aJ2 (root:=0) (pos:=[19,20,21,22,23]) (cs:=[(.cell 1 4,.ints (some .i64))]) (parse:=wI t n) (fin:=HpO.fin t n) lA ((aQ.unpack (.help t n x) 0 1 (nB t n x) [1] rfl (congrArg (Prod.mk 1) (j9 ⟨(by omega),(by omega),(by omega),(by omega),(by omega)⟩)) (by kernel_rfl) rfl).trans (aQ.unpack (.store t n st) 1 0 (dK t n st) [] rfl rfl rfl rfl)) ?_
  have q:=LQ t n x st s _ h;rw [<-e]at q;exact q
 rw [bK e]at h
 by_cases e:x.at'=3
 ·rw [e]at h;have h:(CF t n x st s).run _:=h;refine aJ2 (root:=0) (pos:=[19,20,21,22,23]) (cs:=[(.cell 1 4,.ints (some .i64))]) (parse:=wI t n) (fin:=HpO.fin t n) lA ((aQ.unpack (.help t n x) 0 1 (vA t n x) [1] rfl (congrArg (Prod.mk 1) (IX e)) (by kernel_rfl) rfl).trans (aQ.unpack (.store t n st) 1 0 (dK t n st) [] rfl rfl rfl rfl)) ?_
  have q:=LR t n x st s _ h;rw [<-e]at q;exact q
 rw [bK e]at h
 by_cases e:x.at'=4
 ·rw [e]at h;have h:(CG t n x st s).run _:=h;refine aJ2 (root:=0) (pos:=[19,20,21,22,23]) (cs:=[(.cell 1 4,.ints (some .i64))]) (parse:=wI t n) (fin:=HpO.fin t n) lA ((aQ.unpack (.help t n x) 0 1 (u9 t n x) [1] rfl (congrArg (Prod.mk 1) (IY e)) (by kernel_rfl) rfl).trans (aQ.unpack (.store t n st) 1 0 (dK t n st) [] rfl rfl rfl rfl)) ?_
  have q:=LS t n x st s _ h;rw [<-e]at q;exact q
 rw [bK e]at h
 by_cases e:x.at'=5
 ·rw [e]at h;have h:(CH t n x st s).run _:=h;refine aJ2 (root:=0) (pos:=[19,20,21,22,23]) (cs:=[(.cell 1 4,.ints (some .i64))]) (parse:=wI t n) (fin:=HpO.fin t n) lA ((aQ.unpack (.help t n x) 0 1 (vB t n x) [1] rfl (congrArg (Prod.mk 1) (IZ e)) (by kernel_rfl) rfl).trans (aQ.unpack (.store t n st) 1 0 (dK t n st) [] rfl rfl rfl rfl)) ?_
  have q:=LT t n x st s _ h;rw [<-e]at q;exact q
 rw [bK e]at h
 by_cases e:x.at'=6
 ·rw [e]at h;have h:(CI t n x st s).run _:=h;refine aJ2 (root:=0) (pos:=[19,20,21,22,23]) (cs:=[(.cell 1 4,.ints (some .i64))]) (parse:=wI t n) (fin:=HpO.fin t n) lA ((aQ.unpack (.help t n x) 0 1 (nB t n x) [1] rfl (congrArg (Prod.mk 1) (j9 ⟨(by omega),(by omega),(by omega),(by omega),(by omega)⟩)) (by kernel_rfl) rfl).trans (aQ.unpack (.store t n st) 1 0 (dK t n st) [] rfl rfl rfl rfl)) ?_
  have q:=LU t n x st s _ h;rw [<-e]at q;exact q
 rw [bK e]at h
 by_cases e:x.at'=7
 ·rw [e]at h;have h:(CJ t n x st s).run _:=h;refine aJ2 (root:=0) (pos:=[19,20,21,22,23]) (cs:=[(.cell 1 4,.ints (some .i64))]) (parse:=wI t n) (fin:=HpO.fin t n) lA ((aQ.unpack (.help t n x) 0 1 (u7 t n x) [1] rfl (congrArg (Prod.mk 1) (I0 e)) (by kernel_rfl) rfl).trans (aQ.unpack (.store t n st) 1 0 (dK t n st) [] rfl rfl rfl rfl)) ?_
  have q:=LV t n x st s _ h;rw [<-e]at q;exact q
 rw [bK e]at h
 by_cases e:x.at'=8
 ·rw [e]at h;have h:(CK t n x st s).run _:=h;refine aJ2 (root:=0) (pos:=[19,20,21,22,23]) (cs:=[(.cell 1 4,.ints (some .i64))]) (parse:=wI t n) (fin:=HpO.fin t n) lA ((aQ.unpack (.help t n x) 0 1 (vC t n x) [1] rfl (congrArg (Prod.mk 1) (I1 e)) (by kernel_rfl) rfl).trans (aQ.unpack (.store t n st) 1 0 (dK t n st) [] rfl rfl rfl rfl)) ?_
  have q:=LW t n x st s _ h;rw [<-e]at q;exact q
 rw [bK e]at h
 by_cases e:x.at'=9
 ·rw [e]at h;have h:(CL t n x st s).run _:=h;refine aJ2 (root:=0) (pos:=[19,20,21,22,23]) (cs:=[(.cell 1 4,.ints (some .i64))]) (parse:=wI t n) (fin:=HpO.fin t n) lA ((aQ.unpack (.help t n x) 0 1 (nB t n x) [1] rfl (congrArg (Prod.mk 1) (j9 ⟨(by omega),(by omega),(by omega),(by omega),(by omega)⟩)) (by kernel_rfl) rfl).trans (aQ.unpack (.store t n st) 1 0 (dK t n st) [] rfl rfl rfl rfl)) ?_
  have q:=LX t n x st s _ h;rw [<-e]at q;exact q
 rw [bK e]at h;exact h.1.elim
noncomputable def hpSA:aH Ob:=fun args h=>match args,h with
 | [.ptr 0 0,.ptr 2 0],[some (.abs (.help t n x) [1]),some (.abs (.store t2 n2 st) []),e3,e4]=>(match cJ 3 [e3,e4]with
   | some (l,s)=>some (.pre ((l=s.xs.length/\t2=t/\n2=n)/\QO t n x st s) (HpO.fin t n (gN t n x st s)))
   | none=>none)
 | _,_=>none
theorem aD2:sT' 152 hpSA:=by
 intro args h o ho K hK;unfold hpSA at ho;split at ho
 case h_2=>cases ho
 split at ho<;>cases ho
 rename_i hm;obtain⟨⟨⟨hl,rfl,rfl⟩,ok⟩,hK⟩:=hK;cases aZ hm hl;exact I2 _ _ _ _ _ K (aJ5 ok hK)
def HpO.finB(t n:Int)(y:HpO):Out Ob:=.ite y.d (.ret (.bool true) ([cE' [.ptr 1 0,.I y.x.u,.int .u64 y.x.no,.I y.x.rounds,.I y.x.limit,.I y.x.at',.int .u64 y.x.found,.I y.x.sh,.I y.x.kd,.I y.x.ky,.bool y.x.p.now,.I y.x.p.code,.bool y.x.p.okk,.I y.x.p.val,.I y.x.p.addr,.int .u64 y.x.p.old,.I y.x.p.nxt,.bool y.x.p.mark,.I y.x.p.pops,.O,.O,.O,.O,.O],gW 5 t n y.st,none,aX 4 y.s,aY y.s,gX y.st])) (.ret (.bool false) [some (.abs (.help t n y.x) [1]),gW 5 t n y.st,none,aX 4 y.s,aY y.s,gX y.st])
noncomputable def hpSB:aH Ob:=fun args h=>match args,h with
 | [.ptr 0 0,.ptr 3 0],[some (.abs (.help t n x) [1]),e1,e2,e3,e4]=>(match lB 2 [e1,e2],cJ 4 [e3,e4]with
   | some (l2,t2,n2,st),some (l,s)=>some (.pre ((l=s.xs.length/\l2=st.R.length/\t2=t/\n2=n)/\QO t n x st s) (HpO.finB t n (gN t n x st s)))
   | _,_=>none)
 | _,_=>none
theorem aD3:sT' 152 hpSB:=by
 intro args h o ho K hK;unfold hpSB at ho;split at ho
 case h_2=>cases ho
 split at ho<;>cases ho
 rename_i hs hm;obtain⟨⟨⟨hl,hl2,rfl,rfl⟩,ok⟩,hK⟩:=hK;cases aZ hm hl;cases b9 hs hl2;exact jQ (fun ι hι=>by simp [aG.ren,aKg,AVal.ren,hι]) (fun ι hι=>by simp [aG.ren,hι]) (fun K hK=>I2 _ _ _ _ _ K (aJ5 ok hK)) K hK
noncomputable def hpS:aH Ob:=aH.or hpSA hpSB
theorem aGW:sT' 152 hpS:=aKs aD2 aD3
def aDT(t n:Int)(v:AVal)(g:aC Ob):Option (Prop×(HPS×STS)):=match v,g with
 | .ptr 2 0,[e1,e2,some (.cells [.ptr 0 0,.int .i64 u,.int .u64 no,.int .i64 rounds,.int .i64 limit,.int .i64 at',.int .u64 found,.int .i64 sh,.int .i64 kd,.int .i64 ky,.bool p_now,.int .i64 p_code,.bool p_okk,.int .i64 p_val,.int .i64 p_addr,.int .u64 p_old,.int .i64 p_nxt,.bool p_mark,.int .i64 p_pops,.O,.O,.O,.O,.O])]=>(match lB 1 [e1,e2]with
   | some (l2,t2,n2,st)=>some ((t2=t/\n2=n/\l2=st.R.length)/\(at'≠3/\at'≠4/\at'≠5/\at'≠7/\at'≠8),⟨(⟨u,no,rounds,limit,at',found,sh,kd,ky,⟨p_now,p_code,p_okk,p_val,p_addr,p_old,p_nxt,p_mark,p_pops⟩,eK,bV,bP,⟨0,0,0,0⟩,⟨0,0,0,false⟩⟩:HPS),st⟩)
   | none=>none)
 | _,_=>none
abbrev YO(t n:Int)(y:(HPS×STS)):aC Ob:=[gW 1 t n y.2,gX y.2,some (.abs (.help t n y.1) [0])]
theorem YP{t n:Int} :bO (obI tbl) 2 (aDT t n) (fun y=>.ret (.ptr 2 0) (YO t n y)):=by
 intro v g p x hp hq K hK;unfold aDT at hp;split at hp
 case h_2=>cases hp
 rename_i e1 e2 u no rounds limit at' found sh kd ky p_now p_code p_okk p_val p_addr p_old p_nxt p_mark p_pops;split at hp
 case h_2=>cases hp
 rename_i l2 t2 n2 st hs;cases hp;obtain⟨⟨rfl,rfl,hl2⟩,hat⟩:=hq;cases b9 hs hl2;exact let X0:HPS:=⟨u,no,rounds,limit,at',found,sh,kd,ky,⟨p_now,p_code,p_okk,p_val,p_addr,p_old,p_nxt,p_mark,p_pops⟩,eK,bV,bP,⟨0,0,0,0⟩,⟨0,0,0,false⟩⟩;⟨⟨_,_,aF.pack (YO t2 n2 (X0,st)) (.help t2 n2 X0) 2 1 (nB t2 n2 X0) [0] (by kernel_rfl) rfl (congrArg (Prod.mk 1) (j9 hat)) (by kernel_rfl),hK⟩⟩
def LN(t n:Int)(u no lim:Int)(st:STS):Tr (HPS×STS):=.pre ((t=t/\n=n/\lE' st.3)/\(0:Int)≠(3:Int)/\(0:Int)≠(4:Int)/\(0:Int)≠(5:Int)/\(0:Int)≠(7:Int)/\(0:Int)≠(8:Int)) (.ret ({u:=u,no:=no,rounds:=0,limit:=lim,at':=0,found:=0,sh:=0,kd:=0,ky:=0,p:=aFT,ex:=eK,en:=bV,fn:=bP,cl:=bY,pr:=dE},st))
def wO(t n:Int)(u no lim:Int)(st:STS):(HPS×STS):=(LN t n u no lim st).val
def CB(t n:Int)(u no lim:Int)(st:STS):Prop:=(LN t n u no lim st).ok
def hpNS:aH Ob:=fun args h=>match args,h with
 | [.ptr 0 0,.int .i64 u,.int .u64 no,.int .i64 lim],[e1,e2]=>(match lB 1 [e1,e2]with
   | some (l2,t,n,st)=>some (.pre (l2=st.R.length/\CB t n u no lim st) (.ret (.ptr 2 0) (YO t n (wO t n u no lim st))))
   | none=>none)
 | _,_=>none
theorem aDU:sT' 159 hpNS:=by
 intro args h o ho K hK;unfold hpNS at ho;split at ho
 case h_2=>cases ho
 rename_i u no lim e1 e2;split at ho<;>cases ho
 rename_i l2 t n st hs;obtain⟨⟨hl2,ok⟩,hK⟩:=hK;cases b9 hs hl2;refine aKf (root:=2) (pos:=[19,20,21,22,23]) (cs:=[]) (parse:=aDT t n) YP ?_;exact cM' (E:=EH0) (q:=(LN t n u no lim st).run (fun y=>(Out.ret (.ptr 2 0) (YO t n y)).run K)) (by kernel_rfl) (aJ5 ok hK)
noncomputable def EH:=((EH0.addS 152 hpS aGW).addS 159 hpNS aDU)
end Go.Sh
