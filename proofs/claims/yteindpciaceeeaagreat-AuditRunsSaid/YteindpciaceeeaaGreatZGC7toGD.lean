import Derived.Test.YteindpciaceeeaaGreatZM42toGC6
set_option linter.all false
set_option maxHeartbeats 8000000
namespace Go.Sh
open Go Go.Proofs
variable [Con]
structure PrO where
 d:Bool
 x:PRS
 st:STS
 s:MS
instance:Inhabited PrO:=⟨⟨false,⟨0,0,0,false⟩,⟨0,0,[]⟩,⟨0,0,[],0,0,0,0,0,false⟩⟩⟩
instance:Inhabited PRS:=⟨⟨0,0,0,false⟩⟩
abbrev prH(t n:Int)(x:PRS)(st:STS)(s:MS):aB Ob:=[some (.abs (.prepare t n x) [1]),some (.abs (.store t n st) []),bF 3 s,bG s]
abbrev prD(t n:Int)(x:PRS)(st:STS)(s:MS):aB Ob:=[cE' [.ptr 1 0,.I x.key,.I x.nxt,.int .u64 x.found,.bool x.loaded],some (.abs (.store t n st) []),bF 3 s,bG s]
def PrO.fin(t n:Int)(y:PrO):Out Ob:=.ite y.d (.ret (.bool true) (prD t n y.x y.st y.s)) (.ret (.bool false) (prH t n y.x y.st y.s))
def aFA(t n:Int)(v:AVal)(g:aB Ob):Option (Prop×PrO):=match v,g with
 | .bool d,[some (.cells [.ptr 1 0,.int .i64 key,.int .i64 nxt,.int .u64 found,.bool loaded]),e1,e3,e4,e2]=>(match lZ 4 [e1,e2],cO 3 [e3,e4]with
   | some (l2,t2,n2,st),some (l,s)=>some ((t2=t/\n2=n)/\l=s.xs.length/\l2=st.R.length,⟨d,⟨key,nxt,found,loaded⟩,st,s⟩)
   | _,_=>none)
 | _,_=>none
def prP(t n:Int)(v:AVal)(g:aB Ob):Option (Prop×PrO):=aFA t n v g
theorem aAW{t n:Int} :bP (obI tbl) 4 (aFA t n) (PrO.fin t n):=by
 intro v g p x hp hq K hK;unfold aFA at hp;split at hp
 case h_2=>cases hp
 rename_i d key nxt found loaded e1 e3 e4 e2;split at hp
 case h_2=>cases hp
 rename_i l2 t2 n2 st l s hs hm;cases hp;obtain⟨⟨rfl,rfl⟩,hl,aa⟩:=hq;cases bC hm hl;cases cB hs aa;refine rP hK (fun h=>?_) (fun h=>?_)
 ·exact tkP h (.store t2 n2 st) 1 0 (dP t2 n2 st) []
 ·exact w8 h (.store t2 n2 st) 1 0 (dP t2 n2 st) [] 0 [1] rfl (congrArg (Prod.mk 1) rfl)
theorem aFB{t n:Int} :bP (obI tbl) 4 (prP t n) (PrO.fin t n):=by
 intro v g p x hp hq K hK;unfold prP at hp;exact aAW v g p x hp hq K hK
def aAX(t n:Int)(x:PRS)(st:STS)(s:MS):Tr PrO:=.ite (!x.4) (.pre (q9' s) (.pre ((t=t/\n=n)/\lE' s.3/\lE' st.3) (.ret {d:=false,x:= {key:=x.1,nxt:=x.2,found:=aF s.3 st.2,loaded:=true},st:=st,s:=(dY s st.2) }))) (.pre True (.pre ((0:Int)<=aC x.3 25 18/\aC x.3 25 (18:Int)<=(1000000:Int)) (.pre True (.pre (q9' s) (.pre ((t=t/\n=n)/\lE' (aZ s.3 st.2 (bif bif aN x.1 10 then bif aN x.2 9 then bif aN 0 5 then aN (aW (aC x.3 25 18)) 18 else false else false else false then cZ x.1 x.2 false 0 (aW (aC x.3 25 18))else 0))/\lE' st.3) (.ret {d:=true,x:=x,st:=st,s:=(O1 s 2 st.2 (bif bif aN x.1 10 then bif aN x.2 9 then bif aN 0 5 then aN (aW (aC x.3 25 18)) 18 else false else false else false then cZ x.1 x.2 false 0 (aW (aC x.3 25 18))else 0)) }))))))
theorem UA(t n:Int)(x:PRS)(st:STS)(s:MS)(K:PrO->Prop)(h:(aAX t n x st s).run K):cT' 216 [.ptr 0 0,.ptr 2 0] [cE' [.ptr 1 0,.I x.key,.I x.nxt,.int .u64 x.found,.bool x.loaded],lD 4 t n st,bF 3 s,bG s,oV st] (eU 4 0 [] [(.cell 1 4,.ints (some .i64))] (prP t n) K):=by
 exact cM' (E:=EC6) (by kernel_rfl) h
def prT(t n:Int)(x:PRS)(st:STS)(s:MS):Tr PrO:=aAX t n x st s
def prF(t n:Int)(x:PRS)(st:STS)(s:MS):PrO:=(prT t n x st s).val
def aAV(t n:Int)(x:PRS)(st:STS)(s:MS):Prop:=(prT t n x st s).ok
theorem aAY(t n:Int)(x:PRS)(st:STS)(s:MS)(K:AVal->aB Ob->Prop)(h:(prT t n x st s).run (fun y=>(PrO.fin t n y).run K)):cT' 216 [.ptr 0 0,.ptr 2 0] (prH t n x st s) K:=by
 unfold prT at h;exact aK9 (root:=0) (pos:=[]) (cs:=[(.cell 1 4,.ints (some .i64))]) (parse:=prP t n) (fin:=PrO.fin t n) aFB ((aR.unpack (.prepare t n x) 0 1 (sU t n x) [1] rfl (congrArg (Prod.mk 1) rfl) (by kernel_rfl) rfl).trans (aR.unpack (.store t n st) 1 0 (dP t n st) [] rfl rfl rfl rfl)) (UA t n x st s _ h)
def PrO.finB(t n:Int)(y:PrO):Out Ob:=.ite y.d (.ret (.bool true) ([cE' [.ptr 1 0,.I y.x.key,.I y.x.nxt,.int .u64 y.x.found,.bool y.x.loaded],lD 5 t n y.st,none,bF 4 y.s,bG y.s,oV y.st])) (.ret (.bool false) [some (.abs (.prepare t n y.x) [1]),lD 5 t n y.st,none,bF 4 y.s,bG y.s,oV y.st])
noncomputable def prSB:aI Ob:=fun args h=>match args,h with
 | [.ptr 0 0,.ptr 3 0],[some (.abs (.prepare t n x) [1]),e1,e2,e3,e4]=>(match lZ 2 [e1,e2],cO 4 [e3,e4]with
   | some (l2,t2,n2,st),some (l,s)=>some (.pre ((l=s.xs.length/\l2=st.R.length/\t2=t/\n2=n)/\aAV t n x st s) (PrO.finB t n (prF t n x st s)))
   | _,_=>none)
 | _,_=>none
theorem aFC:sT' 216 prSB:=by
 intro args h o ho K g;unfold prSB at ho;split at ho
 case h_2=>cases ho
 split at ho<;>cases ho
 rename_i hs hm;obtain⟨⟨⟨hl,aa,rfl,rfl⟩,ok⟩,g⟩:=g;cases bC hm hl;cases cB hs aa;exact kH (fun ι hι=>by simp [aG.ren,aLn,AVal.ren,hι]) (fun ι hι=>by simp [aG.ren,hι]) (fun K g=>aAY _ _ _ _ _ K (aLf ok g)) K g
noncomputable def prS:aI Ob:=prSB
theorem aIA:sT' 216 prS:=aFC
def aFy(t n:Int)(v:AVal)(g:aB Ob):Option (Prop×(PRS×STS)):=match v,g with
 | .ptr 2 0,[e1,e2,some (.cells [.ptr 0 0,.int .i64 key,.int .i64 nxt,.int .u64 found,.bool loaded])]=>(match lZ 1 [e1,e2]with
   | some (l2,t2,n2,st)=>some ((t2=t/\n2=n/\l2=st.R.length),⟨(⟨key,nxt,found,loaded⟩:PRS),st⟩)
   | none=>none)
 | _,_=>none
abbrev aAS(t n:Int)(y:(PRS×STS)):aB Ob:=[lD 1 t n y.2,oV y.2,some (.abs (.prepare t n y.1) [0])]
theorem aAT{t n:Int} :bP (obI tbl) 2 (aFy t n) (fun y=>.ret (.ptr 2 0) (aAS t n y)):=by
 intro v g p x hp hq K hK;unfold aFy at hp;split at hp
 case h_2=>cases hp
 rename_i e1 e2 key nxt found loaded;split at hp
 case h_2=>cases hp
 rename_i l2 t2 n2 st hs;cases hp;obtain⟨rfl,rfl,aa⟩:=hq;cases cB hs aa;exact⟨⟨_,_,aE.pack (aAS t2 n2 ((⟨key,nxt,found,loaded⟩:PRS),st)) (.prepare t2 n2 (⟨key,nxt,found,loaded⟩:PRS)) 2 1 (sU t2 n2 (⟨key,nxt,found,loaded⟩:PRS)) [0] (by kernel_rfl) rfl (congrArg (Prod.mk 1) rfl) (by kernel_rfl),hK⟩⟩
def aAU(t n:Int)(key nx:Int)(st:STS):Tr (PRS×STS):=.pre (t=t/\n=n/\lE' st.3) (.ret ({key:=key,nxt:=nx,found:=0,loaded:=false},st))
def rN(t n:Int)(key nx:Int)(st:STS):(PRS×STS):=(aAU t n key nx st).val
def EN(t n:Int)(key nx:Int)(st:STS):Prop:=(aAU t n key nx st).ok
def prNS:aI Ob:=fun args h=>match args,h with
 | [.ptr 0 0,.int .i64 key,.int .i64 nx],[e1,e2]=>(match lZ 1 [e1,e2]with
   | some (l2,t,n,st)=>some (.pre (l2=st.R.length/\EN t n key nx st) (.ret (.ptr 2 0) (aAS t n (rN t n key nx st))))
   | none=>none)
 | _,_=>none
theorem aFz:sT' 259 prNS:=by
 intro args h o ho K hK;unfold prNS at ho;split at ho
 case h_2=>cases ho
 rename_i key nx e1 e2;split at ho<;>cases ho
 rename_i l2 t n st hs;obtain⟨⟨g,ok⟩,hK⟩:=hK;cases cB hs g;refine aLm (root:=2) (pos:=[]) (cs:=[]) (parse:=aFy t n) aAT ?_;exact cM' (E:=EC6) (q:=(aAU t n key nx st).run (fun y=>(Out.ret (.ptr 2 0) (aAS t n y)).run K)) (by kernel_rfl) (aLf ok hK)
noncomputable def EC7:=((EC6.addS 216 prS aIA).addS 259 prNS aFz)
structure FnO where
 d:Bool
 x:FNS
 s:MS
instance:Inhabited FnO:=⟨⟨false,bR,⟨0,0,[],0,0,0,0,0,false⟩⟩⟩
instance:Inhabited FNS:=⟨bR⟩
abbrev fnH(t n:Int)(x:FNS)(s:MS):aB Ob:=[some (.abs (.find t n x) []),bF 2 s,bG s]
abbrev fnD(t n:Int)(x:FNS)(s:MS):aB Ob:=[cE' [.I t,.I n,.I x.pred,.int .u64 x.pw,.I x.curr,.int .u64 x.cw,.I x.tries,.slice 3 0 x.ul.length 1,.bool x.ab,.I x.me,.I x.frm,.I x.key,.I x.limit,.I x.at',.I x.moved,.O],bF 2 s,bG s,iI' x.ul]
def FnO.fin(t n:Int)(y:FnO):Out Ob:=.ite y.d (.ret (.bool true) (fnD t n y.x y.s)) (.ret (.bool false) (fnH t n y.x y.s))
def aEm(t n:Int)(v:AVal)(g:aB Ob):Option (Prop×FnO):=match v,g with
 | .bool d,[some (.cells [.int .i64 t1,.int .i64 n1,.int .i64 pred,.int .u64 pw,.int .i64 curr,.int .u64 cw,.int .i64 tries,.slice 3 0 ul_l 1,.bool ab,.int .i64 me,.int .i64 frm,.int .i64 key,.int .i64 limit,.int .i64 at',.int .i64 moved,.O]),e1,e2,some (.ints (some .i64) ul)]=>(match cO 2 [e1,e2]with
   | some (l,s)=>some ((t1=t/\n1=n)/\ul_l=ul.length/\(d=false->at'≠4)/\l=s.xs.length,⟨d,⟨pred,pw,curr,cw,tries,ul,ab,me,frm,key,limit,at',moved,⟨0,0,0,0⟩⟩,s⟩)
   | none=>none)
 | _,_=>none
def aEn(t n:Int)(v:AVal)(g:aB Ob):Option (Prop×FnO):=match v,g with
 | .bool d,[some (.cells [.int .i64 t1,.int .i64 n1,.int .i64 pred,.int .u64 pw,.int .i64 curr,.int .u64 cw,.int .i64 tries,.slice 3 0 ul_l 1,.bool ab,.int .i64 me,.int .i64 frm,.int .i64 key,.int .i64 limit,.int .i64 at',.int .i64 moved,.ptr 4 0]),e1,e2,some (.ints (some .i64) ul),some (.abs (.clear t' n' sub) [])]=>(match cO 2 [e1,e2]with
   | some (l,s)=>some ((t1=t/\n1=n)/\ul_l=ul.length/\t'=t/\n'=n/\(d=false->at'=4)/\l=s.xs.length,⟨d,⟨pred,pw,curr,cw,tries,ul,ab,me,frm,key,limit,at',moved,sub⟩,s⟩)
   | none=>none)
 | _,_=>none
def VW(t n:Int)(v:AVal)(g:aB Ob):Option (Prop×FnO):=(match aEm t n v g with
 | some r=>some r
 | none=>aEn t n v g)
theorem ZA{t n:Int} :bP (obI tbl) 3 (aEm t n) (FnO.fin t n):=by
 intro v g p x hp hq K hK;unfold aEm at hp;split at hp
 case h_2=>cases hp
 rename_i d t1 n1 pred pw curr cw tries ul_l ab me frm key limit at' moved e1 e2 ul;split at hp
 case h_2=>cases hp
 rename_i l s hm;cases hp;obtain⟨⟨rfl,rfl⟩,rfl,aa,hl⟩:=hq;cases bC hm hl;refine fL hK (fun h=>?_) (fun hd h=>?_)
 ·exact⟨⟨_,_,aLo _ _ _,h⟩⟩
 ·exact⟨⟨_,_,(aE.pack (fnH t1 n1 (⟨pred,pw,curr,cw,tries,ul,ab,me,frm,key,limit,at',moved,⟨0,0,0,0⟩⟩:FNS) s) (.find t1 n1 (⟨pred,pw,curr,cw,tries,ul,ab,me,frm,key,limit,at',moved,⟨0,0,0,0⟩⟩:FNS)) 0 0 (lW t1 n1 (⟨pred,pw,curr,cw,tries,ul,ab,me,frm,key,limit,at',moved,⟨0,0,0,0⟩⟩:FNS)) [] (by kernel_rfl) rfl (congrArg (Prod.mk 0) (iZ (aa hd))) (by kernel_rfl)),h⟩⟩
theorem ZB{t n:Int} :bP (obI tbl) 3 (aEn t n) (FnO.fin t n):=by
 intro v g p x hp hq K hK;unfold aEn at hp;split at hp
 case h_2=>cases hp
 rename_i d t1 n1 pred pw curr cw tries ul_l ab me frm key limit at' moved e1 e2 ul t' n' sub;split at hp
 case h_2=>cases hp
 rename_i l s hm;cases hp;obtain⟨⟨rfl,rfl⟩,rfl,rfl,rfl,aa,hl⟩:=hq;cases bC hm hl;refine fL hK (fun h=>?_) (fun hd h=>?_)
 ·exact⟨⟨_,_,(aE.weak (d8 _ 0 [15])).trans ((aE.pick (upto 0 4) rfl).trans (aLh (by kernel_rfl) (by kernel_rfl))),h⟩⟩
 ·exact⟨⟨_,_,(aE.pack (fnH t' n' (⟨pred,pw,curr,cw,tries,ul,ab,me,frm,key,limit,at',moved,sub⟩:FNS) s) (.find t' n' (⟨pred,pw,curr,cw,tries,ul,ab,me,frm,key,limit,at',moved,sub⟩:FNS)) 0 0 (qY t' n' (⟨pred,pw,curr,cw,tries,ul,ab,me,frm,key,limit,at',moved,sub⟩:FNS)) [] (by kernel_rfl) rfl (congrArg (Prod.mk 0) (JK (aa hd))) (by kernel_rfl)),h⟩⟩
theorem pW{t n:Int} :bP (obI tbl) 3 (VW t n) (FnO.fin t n):=by
 intro v g p x hp hq K hK;unfold VW at hp;split at hp
 ·rename_i r hr;cases hp;exact ZA v g p x hr hq K hK
 exact ZB v g p x hp hq K hK
abbrev w12:=false=false->(0:Int)≠(4:Int)
abbrev w13(s:MS)(x:FNS):=ieq (aC (aF s.3 x.1) 10 9) (0:Int)=false->(1:Int)≠(4:Int)
abbrev w14(x:FNS):=ilt x.11 (W (x.5+1))
abbrev w16(s:MS)(x:FNS):Tr FnO:=.ret {d:=ieq (aC (aF s.3 x.1) 10 9) 0,x:= {x with pred:=0,pw:=aF s.3 x.1,curr:=aC (aF s.3 x.1) 10 9,cw:=0,tries:=W (x.5+1),ab:=ilt x.11 (W (x.5+1)),at':=1,cl:=bZ},s:=(dY s x.1) }
abbrev w17(s:MS)(x:FNS):Tr FnO:=.ret {d:=ieq (aC (aF s.3 x.1) 10 9) 0,x:= {x with pw:=aF s.3 x.1,curr:=aC (aF s.3 x.1) 10 9,cw:=0,tries:=W (x.5+1),ab:=ilt x.11 (W (x.5+1)),at':=1,cl:=bZ},s:=(dY s x.1) }
abbrev w1a(s:MS)(x:FNS):Tr FnO:=.ret {d:=false,x:= {x with pred:=x.9,pw:=0,curr:=0,cw:=0,tries:=W (x.5+1),ab:=ilt x.11 (W (x.5+1)),at':=0,moved:=0,cl:=bZ},s:=(dY s x.1) }
abbrev w1b:=true=false->(0:Int)≠(4:Int)
abbrev w1c(s:MS)(x:FNS):=ieq (aC (aF s.3 x.1) 19 1) 1
abbrev w1d(s:MS)(x:FNS):Tr FnO:=.ret {d:=false,x:= {x with pred:=x.9,tries:=W (x.5+1),ab:=ilt x.11 (W (x.5+1)),at':=0,moved:=0,cl:=bZ},s:=(dY s x.1) }
def C5(t n:Int)(x:FNS)(s:MS):Tr FnO:=.pre (q9' s) (.pre True (.ite (w1c s x) (.ite (w14 x) (.ite (w14 x) (.pre ((t=t/\n=n)/\lE' x.6/\w1b/\lE' s.3) (.ret {d:=true,x:= {x with pred:=0,pw:=0,curr:=0,cw:=0,tries:=W (x.5+1),ab:=ilt x.11 (W (x.5+1)),at':=0,cl:=bZ},s:=(dY s x.1) })) (.pre True (.ite (w1c s x) (.pre ((t=t/\n=n)/\lE' x.6/\w12/\lE' s.3) (w1a s x)) (.pre ((t=t/\n=n)/\lE' x.6/\(w13 s x)/\lE' s.3) (w16 s x))))) (.ite (w14 x) (.pre ((t=t/\n=n)/\lE' x.6/\w1b/\lE' s.3) (.ret {d:=true,x:= {x with tries:=W (x.5+1),ab:=ilt x.11 (W (x.5+1)),at':=0,cl:=bZ},s:=(dY s x.1) })) (.pre True (.ite (w1c s x) (.pre ((t=t/\n=n)/\lE' x.6/\w12/\lE' s.3) (w1d s x)) (.pre ((t=t/\n=n)/\lE' x.6/\(w13 s x)/\lE' s.3) (w17 s x)))))) (.pre True (.ite (w1c s x) (.pre ((t=t/\n=n)/\lE' x.6/\w12/\lE' s.3) (.ret {d:=false,x:= {x with pred:=x.9,at':=0,moved:=0,cl:=bZ},s:=(dY s x.1) })) (.pre ((t=t/\n=n)/\lE' x.6/\(w13 s x)/\lE' s.3) (.ret {d:=ieq (aC (aF s.3 x.1) 10 9) 0,x:= {x with pw:=aF s.3 x.1,curr:=aC (aF s.3 x.1) 10 9,cw:=0,at':=1,cl:=bZ},s:=(dY s x.1) }))))))
abbrev HA(F:Int->Int->FNS->MS->Tr FnO)(a:Int)(l:List AVal)(e:Int->Int->FNS->aB Ob):Prop:= ∀(t n:Int) (x:FNS) (s:MS) (K:FnO->Prop) (h:(F t n x s).run K),cT' 163 [.ptr 0 0,.ptr 1 0] ([some (.cells ([.I t,.I n,.I x.pred,.int .u64 x.pw,.I x.curr,.int .u64 x.cw,.I x.tries,.slice 3 0 x.ul.length 1,.bool x.ab,.I x.me,.I x.frm,.I x.key,.I x.limit,.I a,.I x.moved]++l)),bF 2 s,bG s,iI' x.ul]++e t n x) (eU 3 0 [15] [(.cell 0 7,.ints (some .i64))] (VW t n) K)
theorem MP:HA C5 0 [.O] (fun t n x=>[]):=by
 intro t n x s K h;exact cM' (E:=EC7) (by kernel_rfl) h
def C6(t n:Int)(x:FNS)(s:MS):Tr FnO:=.pre ((((0:Int)<=t/\t<=(100000:Int))/\((0:Int)<=n/\n<=(100000:Int))/\((-1099511627776:Int)<=x.8/\x.8<=(1099511627776:Int))/\(-1099511627776:Int)<=(1:Int)/\(1:Int)<=(1099511627776:Int))/\True) (.pre ((q9' s)/\True) (.pre ((t=t/\n=n)/\lE' x.6/\(false=false->(2:Int)≠(4:Int))/\lE' (aZ s.3 (2*n+5+2*x.8+1) (WU x.3))) (.ret {d:=false,x:= {x with at':=2,cl:=bZ},s:=(O1 s 2 (2*n+5+2*x.8+1) (WU x.3)) })))
theorem MQ:HA C6 1 [.O] (fun t n x=>[]):=by
 intro t n x s K h;exact cM' (E:=EC7) (by kernel_rfl) h
def C7(t n:Int)(x:FNS)(s:MS):Tr FnO:=.pre (q9' s) (.ite (!ieq (aF s.3 x.1) x.2) (.ite (w14 x) (.ite (w14 x) (.pre ((t=t/\n=n)/\lE' x.6/\(true=false->(2:Int)≠(4:Int))/\lE' s.3) (.ret {d:=true,x:= {x with pred:=0,pw:=0,curr:=0,cw:=0,tries:=W (x.5+1),ab:=ilt x.11 (W (x.5+1)),at':=2,cl:=bZ},s:=(dY s x.1) })) (.pre True (.ite (w1c s x) (.pre ((t=t/\n=n)/\lE' x.6/\w12/\lE' s.3) (w1a s x)) (.pre ((t=t/\n=n)/\lE' x.6/\(w13 s x)/\lE' s.3) (w16 s x))))) (.ite (w14 x) (.pre ((t=t/\n=n)/\lE' x.6/\(true=false->(2:Int)≠(4:Int))/\lE' s.3) (.ret {d:=true,x:= {x with tries:=W (x.5+1),ab:=ilt x.11 (W (x.5+1)),at':=2,cl:=bZ},s:=(dY s x.1) })) (.pre True (.ite (w1c s x) (.pre ((t=t/\n=n)/\lE' x.6/\w12/\lE' s.3) (w1d s x)) (.pre ((t=t/\n=n)/\lE' x.6/\(w13 s x)/\lE' s.3) (w17 s x)))))) (.pre ((t=t/\n=n)/\lE' x.6/\(false=false->(3:Int)≠(4:Int))/\lE' s.3) (.ret {d:=false,x:= {x with at':=3,cl:=bZ},s:=(dY s x.1) })))
theorem MR:HA C7 2 [.O] (fun t n x=>[]):=by
 intro t n x s K h;exact cM' (E:=EC7) (by kernel_rfl) h
abbrev w18:=false=false->(4:Int)=(4:Int)
def C8(t n:Int)(x:FNS)(s:MS):Tr FnO:=.pre (q9' s) (.pre True (.ite (!ieq (aC (aF s.3 x.3) 19 1) 1) (.ite (ile x.10 (aC (aF s.3 x.3) 0 10)) (.pre ((t=t/\n=n)/\lE' x.6/\(true=false->(3:Int)≠(4:Int))/\lE' s.3) (.ret {d:=true,x:= {x with cw:=aF s.3 x.3,at':=3,cl:=bZ},s:=(dY s x.3) })) (.ite (!ieq (aC (aF s.3 x.3) 19 1) 1) (.pre ((t=t/\n=n)/\lE' x.6/\(false=false->(6:Int)≠(4:Int))/\lE' s.3) (.ret {d:=false,x:= {x with cw:=aF s.3 x.3,at':=6,cl:=bZ},s:=(dY s x.3) })) (.ite (!ieq (aC (aF s.3 x.3) 20 5) 0) (.pre (qQ t n x.3/\True) (.pre ((t=t/\n=n)/\lE' x.6/\t=t/\n=n/\w18/\lE' s.3) (.ret {d:=false,x:= {x with cw:=aF s.3 x.3,at':=4,cl:=zP t n x.3},s:=(dY s x.3) }))) (.pre True (.ite (!ieq (aC x.2 20 5) 0) (.pre (qQ t n x.1/\True) (.pre ((t=t/\n=n)/\lE' x.6/\t=t/\n=n/\w18/\lE' s.3) (.ret {d:=false,x:= {x with cw:=aF s.3 x.3,at':=4,cl:=zP t n x.1},s:=(dY s x.3) }))) (.pre ((t=t/\n=n)/\lE' x.6/\(false=false->(5:Int)≠(4:Int))/\lE' s.3) (.ret {d:=false,x:= {x with cw:=aF s.3 x.3,at':=5,cl:=bZ},s:=(dY s x.3) }))))))) (.ite (!ieq (aC (aF s.3 x.3) 19 1) 1) (.pre ((t=t/\n=n)/\lE' x.6/\(false=false->(6:Int)≠(4:Int))/\lE' s.3) (.ret {d:=false,x:= {x with cw:=aF s.3 x.3,at':=6,cl:=bZ},s:=(dY s x.3) })) (.ite (!ieq (aC (aF s.3 x.3) 20 5) 0) (.pre (qQ t n x.3/\True) (.pre ((t=t/\n=n)/\lE' x.6/\t=t/\n=n/\w18/\lE' s.3) (.ret {d:=false,x:= {x with cw:=aF s.3 x.3,at':=4,cl:=zP t n x.3},s:=(dY s x.3) }))) (.pre True (.ite (!ieq (aC x.2 20 5) 0) (.pre (qQ t n x.1/\True) (.pre ((t=t/\n=n)/\lE' x.6/\t=t/\n=n/\w18/\lE' s.3) (.ret {d:=false,x:= {x with cw:=aF s.3 x.3,at':=4,cl:=zP t n x.1},s:=(dY s x.3) }))) (.pre ((t=t/\n=n)/\lE' x.6/\(false=false->(5:Int)≠(4:Int))/\lE' s.3) (.ret {d:=false,x:= {x with cw:=aF s.3 x.3,at':=5,cl:=bZ},s:=(dY s x.3) }))))))))
theorem MT:HA C8 3 [.O] (fun t n x=>[]):=by
 intro t n x s K h;exact cM' (E:=EC7) (by kernel_rfl) h
abbrev w19(x:FNS):=ilt x.11 (W (x.5+1))=false->(0:Int)≠(4:Int)
def C9(t n:Int)(x:FNS)(s:MS):Tr FnO:=.pre (lE' s.3/\QM t n x.14 s) (.ite (pA t n x.14 s).1 (.ite (w14 x) (.pre ((t=t/\n=n)/\lE' x.6/\(w19 x)/\lE' (ClO.s (pA t n x.14 s)).3) (.ret {d:=ilt x.11 (W (x.5+1)),x:= {x with pred:=0,pw:=0,curr:=0,cw:=0,tries:=W (x.5+1),ab:=ilt x.11 (W (x.5+1)),at':=0,cl:=bZ},s:=(pA t n x.14 s).3})) (.pre ((t=t/\n=n)/\lE' x.6/\(w19 x)/\lE' (ClO.s (pA t n x.14 s)).3) (.ret {d:=ilt x.11 (W (x.5+1)),x:= {x with tries:=W (x.5+1),ab:=ilt x.11 (W (x.5+1)),at':=0,cl:=bZ},s:=(pA t n x.14 s).3}))) (.pre ((t=t/\n=n)/\lE' x.6/\t=t/\n=n/\w18/\lE' (ClO.s (pA t n x.14 s)).3) (.ret {d:=false,x:= {x with at':=4,cl:=(pA t n x.14 s).2},s:=(pA t n x.14 s).3})))
theorem MU:HA C9 4 [.ptr 4 0] (fun t n x=>[some (.abs (.clear t n x.cl) [])]):=by
 intro t n x s K h;exact cM' (E:=EC7) (by kernel_rfl) h
abbrev w11(x:FNS):=aW (aC x.2 25 18)
abbrev w15(x:FNS):=ieq (aC x.2 19 1) 1
abbrev w10(s:MS)(x:FNS):=qK s x.1 x.2 (bif bif aN (aC x.2 0 10) 10 then bif aN (aC x.4 10 9) 9 then bif aN (aC x.2 20 5) 5 then aN (w11 x) 18 else false else false else false then cZ (aC x.2 0 10) (aC x.4 10 9) (w15 x) (aC x.2 20 5) (w11 x)else 0)
def DA(t n:Int)(x:FNS)(s:MS):Tr FnO:=.pre True (.pre True (.pre ((0:Int)<=aC x.2 25 18/\aC x.2 25 (18:Int)<=(1000000:Int)) (.pre True (.pre ((q9' s)/\True) (.ite (!bE s.3 x.1 x.2) (.ite (w14 x) (.pre ((t=t/\n=n)/\lE' x.6/\(w19 x)/\lE' (bif bE s.3 x.1 x.2 then aZ s.3 x.1 (bif bif aN (aC x.2 0 10) 10 then bif aN (aC x.4 10 9) 9 then bif aN (aC x.2 20 5) 5 then aN (w11 x) 18 else false else false else false then cZ (aC x.2 0 10) (aC x.4 10 9) (w15 x) (aC x.2 20 5) (w11 x)else 0)else s.3)) (.ret {d:=ilt x.11 (W (x.5+1)),x:= {x with pred:=0,pw:=0,curr:=0,cw:=0,tries:=W (x.5+1),ab:=ilt x.11 (W (x.5+1)),at':=0,cl:=bZ},s:=(w10 s x) })) (.pre ((t=t/\n=n)/\lE' x.6/\(w19 x)/\lE' (bif bE s.3 x.1 x.2 then aZ s.3 x.1 (bif bif aN (aC x.2 0 10) 10 then bif aN (aC x.4 10 9) 9 then bif aN (aC x.2 20 5) 5 then aN (w11 x) 18 else false else false else false then cZ (aC x.2 0 10) (aC x.4 10 9) (w15 x) (aC x.2 20 5) (w11 x)else 0)else s.3)) (.ret {d:=ilt x.11 (W (x.5+1)),x:= {x with tries:=W (x.5+1),ab:=ilt x.11 (W (x.5+1)),at':=0,cl:=bZ},s:=(w10 s x) }))) (.pre (0=0/\lE' x.6/\1=1/\x.6.length+(1:Nat)<=(4294967296:Nat)) (.ite (ile (W (x.13+1)) n) (.pre True (.ite (ieq (aC (bif bif aN (aC x.2 0 10) 10 then bif aN (aC x.4 10 9) 9 then bif aN (aC x.2 20 5) 5 then aN (w11 x) 18 else false else false else false then cZ (aC x.2 0 10) (aC x.4 10 9) (w15 x) (aC x.2 20 5) (w11 x)else 0) 19 1) 1) (.pre ((t=t/\n=n)/\x.6.length+(1:Nat)=List.length (x.6++ [x.3])/\w12/\lE' (bif bE s.3 x.1 x.2 then aZ s.3 x.1 (bif bif aN (aC x.2 0 10) 10 then bif aN (aC x.4 10 9) 9 then bif aN (aC x.2 20 5) 5 then aN (w11 x) 18 else false else false else false then cZ (aC x.2 0 10) (aC x.4 10 9) (w15 x) (aC x.2 20 5) (w11 x)else 0)else s.3)) (.ret {d:=false,x:= {x with pred:=x.9,ul:=x.6++ [x.3],at':=0,moved:=0,cl:=bZ},s:=(w10 s x) })) (.pre ((t=t/\n=n)/\x.6.length+(1:Nat)=List.length (x.6++ [x.3])/\(ieq (aC (bif bif aN (aC x.2 0 10) 10 then bif aN (aC x.4 10 9) 9 then bif aN (aC x.2 20 5) 5 then aN (w11 x) 18 else false else false else false then cZ (aC x.2 0 10) (aC x.4 10 9) (w15 x) (aC x.2 20 5) (w11 x)else 0) 10 9) (0:Int)=false->(1:Int)≠(4:Int))/\lE' (bif bE s.3 x.1 x.2 then aZ s.3 x.1 (bif bif aN (aC x.2 0 10) 10 then bif aN (aC x.4 10 9) 9 then bif aN (aC x.2 20 5) 5 then aN (w11 x) 18 else false else false else false then cZ (aC x.2 0 10) (aC x.4 10 9) (w15 x) (aC x.2 20 5) (w11 x)else 0)else s.3)) (.ret {d:=ieq (aC (bif bif aN (aC x.2 0 10) 10 then bif aN (aC x.4 10 9) 9 then bif aN (aC x.2 20 5) 5 then aN (w11 x) 18 else false else false else false then cZ (aC x.2 0 10) (aC x.4 10 9) (w15 x) (aC x.2 20 5) (w11 x)else 0) 10 9) 0,x:= {x with pw:=bif bif aN (aC x.2 0 10) 10 then bif aN (aC x.4 10 9) 9 then bif aN (aC x.2 20 5) 5 then aN (w11 x) 18 else false else false else false then cZ (aC x.2 0 10) (aC x.4 10 9) (w15 x) (aC x.2 20 5) (w11 x)else 0,curr:=aC (bif bif aN (aC x.2 0 10) 10 then bif aN (aC x.4 10 9) 9 then bif aN (aC x.2 20 5) 5 then aN (w11 x) 18 else false else false else false then cZ (aC x.2 0 10) (aC x.4 10 9) (w15 x) (aC x.2 20 5) (w11 x)else 0) 10 9,cw:=0,ul:=x.6++ [x.3],at':=1,moved:=W (x.13+1),cl:=bZ},s:=(w10 s x) })))) (.ite (w14 x) (.ite (w14 x) (.pre ((t=t/\n=n)/\x.6.length+(1:Nat)=List.length (x.6++ [x.3])/\(true=false->(5:Int)≠(4:Int))/\lE' (bif bE s.3 x.1 x.2 then aZ s.3 x.1 (bif bif aN (aC x.2 0 10) 10 then bif aN (aC x.4 10 9) 9 then bif aN (aC x.2 20 5) 5 then aN (w11 x) 18 else false else false else false then cZ (aC x.2 0 10) (aC x.4 10 9) (w15 x) (aC x.2 20 5) (w11 x)else 0)else s.3)) (.ret {d:=true,x:= {x with pred:=0,pw:=0,curr:=0,cw:=0,tries:=W (x.5+1),ul:=x.6++ [x.3],ab:=ilt x.11 (W (x.5+1)),at':=5,moved:=W (x.13+1),cl:=bZ},s:=(w10 s x) })) (.pre ((t=t/\n=n)/\x.6.length+(1:Nat)=List.length (x.6++ [x.3])/\w12/\lE' (bif bE s.3 x.1 x.2 then aZ s.3 x.1 (bif bif aN (aC x.2 0 10) 10 then bif aN (aC x.4 10 9) 9 then bif aN (aC x.2 20 5) 5 then aN (w11 x) 18 else false else false else false then cZ (aC x.2 0 10) (aC x.4 10 9) (w15 x) (aC x.2 20 5) (w11 x)else 0)else s.3)) (.ret {d:=false,x:= {x with pred:=x.9,pw:=0,curr:=0,cw:=0,tries:=W (x.5+1),ul:=x.6++ [x.3],ab:=ilt x.11 (W (x.5+1)),at':=0,moved:=0,cl:=bZ},s:=(w10 s x) }))) (.ite (w14 x) (.pre ((t=t/\n=n)/\x.6.length+(1:Nat)=List.length (x.6++ [x.3])/\(true=false->(5:Int)≠(4:Int))/\lE' (bif bE s.3 x.1 x.2 then aZ s.3 x.1 (bif bif aN (aC x.2 0 10) 10 then bif aN (aC x.4 10 9) 9 then bif aN (aC x.2 20 5) 5 then aN (w11 x) 18 else false else false else false then cZ (aC x.2 0 10) (aC x.4 10 9) (w15 x) (aC x.2 20 5) (w11 x)else 0)else s.3)) (.ret {d:=true,x:= {x with tries:=W (x.5+1),ul:=x.6++ [x.3],ab:=ilt x.11 (W (x.5+1)),at':=5,moved:=W (x.13+1),cl:=bZ},s:=(w10 s x) })) (.pre ((t=t/\n=n)/\x.6.length+(1:Nat)=List.length (x.6++ [x.3])/\w12/\lE' (bif bE s.3 x.1 x.2 then aZ s.3 x.1 (bif bif aN (aC x.2 0 10) 10 then bif aN (aC x.4 10 9) 9 then bif aN (aC x.2 20 5) 5 then aN (w11 x) 18 else false else false else false then cZ (aC x.2 0 10) (aC x.4 10 9) (w15 x) (aC x.2 20 5) (w11 x)else 0)else s.3)) (.ret {d:=false,x:= {x with pred:=x.9,tries:=W (x.5+1),ul:=x.6++ [x.3],ab:=ilt x.11 (W (x.5+1)),at':=0,moved:=0,cl:=bZ},s:=(w10 s x) })))))))))))
theorem MV:HA DA 5 [.O] (fun t n x=>[]):=by
 intro t n x s K h;exact cM' (E:=EC7) (by kernel_rfl) h
abbrev w1e(n:Int)(s:MS)(x:FNS):=aZ s.3 (2*n+5+2*x.8+0) (WU x.3)
abbrev w1f(n:Int)(s:MS)(x:FNS):=O1 s 2 (2*n+5+2*x.8+0) (WU x.3)
def DB(t n:Int)(x:FNS)(s:MS):Tr FnO:=.pre ((((0:Int)<=t/\t<=(100000:Int))/\((0:Int)<=n/\n<=(100000:Int))/\((-1099511627776:Int)<=x.8/\x.8<=(1099511627776:Int))/\(-1099511627776:Int)<=(0:Int)/\(0:Int)<=(1099511627776:Int))/\True) (.pre ((q9' s)/\True) (.ite (ile (W (x.13+1)) n) (.pre ((t=t/\n=n)/\lE' x.6/\w12/\lE' (w1e n s x)) (.ret {d:=false,x:= {x with pred:=x.3,at':=0,moved:=W (x.13+1),cl:=bZ},s:=(w1f n s x) })) (.ite (w14 x) (.ite (w14 x) (.pre ((t=t/\n=n)/\lE' x.6/\w1b/\lE' (w1e n s x)) (.ret {d:=true,x:= {x with pred:=0,pw:=0,curr:=0,cw:=0,tries:=W (x.5+1),ab:=ilt x.11 (W (x.5+1)),at':=0,moved:=W (x.13+1),cl:=bZ},s:=(w1f n s x) })) (.pre ((t=t/\n=n)/\lE' x.6/\w12/\lE' (w1e n s x)) (.ret {d:=false,x:= {x with pred:=x.9,pw:=0,curr:=0,cw:=0,tries:=W (x.5+1),ab:=ilt x.11 (W (x.5+1)),at':=0,moved:=0,cl:=bZ},s:=(w1f n s x) }))) (.ite (w14 x) (.pre ((t=t/\n=n)/\lE' x.6/\w1b/\lE' (w1e n s x)) (.ret {d:=true,x:= {x with pred:=x.3,tries:=W (x.5+1),ab:=ilt x.11 (W (x.5+1)),at':=0,moved:=W (x.13+1),cl:=bZ},s:=(w1f n s x) })) (.pre ((t=t/\n=n)/\lE' x.6/\w12/\lE' (w1e n s x)) (.ret {d:=false,x:= {x with pred:=x.9,tries:=W (x.5+1),ab:=ilt x.11 (W (x.5+1)),at':=0,moved:=0,cl:=bZ},s:=(w1f n s x) }))))))
theorem MX:HA DB 6 [.O] (fun t n x=>[]):=by
 intro t n x s K h;exact cM' (E:=EC7) (by kernel_rfl) h
def fnT(t n:Int)(x:FNS)(s:MS):Tr FnO:=
 bif ieq x.at' 0 then C5 t n x s else
 bif ieq x.at' 1 then C6 t n x s else
 bif ieq x.at' 2 then C7 t n x s else
 bif ieq x.at' 3 then C8 t n x s else
 bif ieq x.at' 4 then C9 t n x s else
 bif ieq x.at' 5 then DA t n x s else
 bif ieq x.at' 6 then DB t n x s else .pre False (.ret default)
def aM(t n:Int)(x:FNS)(s:MS):FnO:=(fnT t n x s).val
def MO(t n:Int)(x:FNS)(s:MS):Prop:=(fnT t n x s).ok
theorem ZD(t n:Int)(x:FNS)(s:MS)(K:AVal->aB Ob->Prop)(h:(fnT t n x s).run (fun y=>(FnO.fin t n y).run K)):cT' 163 [.ptr 0 0,.ptr 1 0] (fnH t n x s) K:=by
 unfold fnT at h
 by_cases e:x.at'=0
 ·rw [e]at h;have h:(C5 t n x s).run _:=h;refine aK9 (root:=0) (pos:=[15]) (cs:=[(.cell 0 7,.ints (some .i64))]) (parse:=VW t n) (fin:=FnO.fin t n) pW (aR.unpack (.find t n x) 0 0 (lW t n x) [] rfl (congrArg (Prod.mk 0) (iZ (by omega))) (by kernel_rfl) rfl) ?_
  have q:=MP t n x s _ h;rw [<-e]at q;exact q
 rw [bI e]at h
 by_cases e:x.at'=1
 ·rw [e]at h;have h:(C6 t n x s).run _:=h;refine aK9 (root:=0) (pos:=[15]) (cs:=[(.cell 0 7,.ints (some .i64))]) (parse:=VW t n) (fin:=FnO.fin t n) pW (aR.unpack (.find t n x) 0 0 (lW t n x) [] rfl (congrArg (Prod.mk 0) (iZ (by omega))) (by kernel_rfl) rfl) ?_
  have q:=MQ t n x s _ h;rw [<-e]at q;exact q
 rw [bI e]at h
 by_cases e:x.at'=2
 ·rw [e]at h;have h:(C7 t n x s).run _:=h;refine aK9 (root:=0) (pos:=[15]) (cs:=[(.cell 0 7,.ints (some .i64))]) (parse:=VW t n) (fin:=FnO.fin t n) pW (aR.unpack (.find t n x) 0 0 (lW t n x) [] rfl (congrArg (Prod.mk 0) (iZ (by omega))) (by kernel_rfl) rfl) ?_
  have q:=MR t n x s _ h;rw [<-e]at q;exact q
 rw [bI e]at h
 by_cases e:x.at'=3
 ·rw [e]at h;have h:(C8 t n x s).run _:=h;refine aK9 (root:=0) (pos:=[15]) (cs:=[(.cell 0 7,.ints (some .i64))]) (parse:=VW t n) (fin:=FnO.fin t n) pW (aR.unpack (.find t n x) 0 0 (lW t n x) [] rfl (congrArg (Prod.mk 0) (iZ (by omega))) (by kernel_rfl) rfl) ?_
  have q:=MT t n x s _ h;rw [<-e]at q;exact q
 rw [bI e]at h
 by_cases e:x.at'=4
 ·rw [e]at h;have h:(C9 t n x s).run _:=h;refine aK9 (root:=0) (pos:=[15]) (cs:=[(.cell 0 7,.ints (some .i64))]) (parse:=VW t n) (fin:=FnO.fin t n) pW (aR.unpack (.find t n x) 0 0 (qY t n x) [] rfl (congrArg (Prod.mk 0) (JK e)) (by kernel_rfl) rfl) ?_
  have q:=MU t n x s _ h;rw [<-e]at q;exact q
 rw [bI e]at h
 by_cases e:x.at'=5
 ·rw [e]at h;have h:(DA t n x s).run _:=h;refine aK9 (root:=0) (pos:=[15]) (cs:=[(.cell 0 7,.ints (some .i64))]) (parse:=VW t n) (fin:=FnO.fin t n) pW (aR.unpack (.find t n x) 0 0 (lW t n x) [] rfl (congrArg (Prod.mk 0) (iZ (by omega))) (by kernel_rfl) rfl) ?_
  have q:=MV t n x s _ h;rw [<-e]at q;exact q
 rw [bI e]at h
 by_cases e:x.at'=6
 ·rw [e]at h;have h:(DB t n x s).run _:=h;refine aK9 (root:=0) (pos:=[15]) (cs:=[(.cell 0 7,.ints (some .i64))]) (parse:=VW t n) (fin:=FnO.fin t n) pW (aR.unpack (.find t n x) 0 0 (lW t n x) [] rfl (congrArg (Prod.mk 0) (iZ (by omega))) (by kernel_rfl) rfl) ?_
  have q:=MX t n x s _ h;rw [<-e]at q;exact q
 rw [bI e]at h;exact h.1.elim
noncomputable def fnS:aI Ob:=fun args h=>match args,h with
 | [.ptr 0 0,.ptr 1 0],[some (.abs (.find t n x) []),e1,e2]=>(match cO 2 [e1,e2]with
   | some (l,s)=>some (.pre (l=s.xs.length/\MO t n x s) (FnO.fin t n (aM t n x s)))
   | none=>none)
 | _,_=>none
theorem aHD:sT' 163 fnS:=by
 intro args h o ho K g;unfold fnS at ho;split at ho
 case h_2=>cases ho
 split at ho<;>cases ho
 rename_i hm;obtain⟨⟨hl,ok⟩,g⟩:=g;cases bC hm hl;exact ZD _ _ _ _ K (aLf ok g)
def aEk(t n:Int)(v:AVal)(g:aB Ob):Option (Prop×FNS):=match v,g with
 | .ptr 0 0,[some (.cells [.int .i64 t1,.int .i64 n1,.int .i64 pred,.int .u64 pw,.int .i64 curr,.int .u64 cw,.int .i64 tries,.slice 1 0 ul_l 1,.bool ab,.int .i64 me,.int .i64 frm,.int .i64 key,.int .i64 limit,.int .i64 at',.int .i64 moved,.O]),some (.ints (some .i64) ul)]=>some ((t1=t/\n1=n)/\ul_l=ul.length/\(at'≠4),(⟨pred,pw,curr,cw,tries,ul,ab,me,frm,key,limit,at',moved,⟨0,0,0,0⟩⟩:FNS))
 | _,_=>none
abbrev Y8(t n:Int)(y:FNS):aB Ob:=[some (.abs (.find t n y) [])]
theorem Y9{t n:Int} :bP (obI tbl) 0 (aEk t n) (fun y=>.ret (.ptr 0 0) (Y8 t n y)):=by
 intro v g p x hp hq K hK;unfold aEk at hp;split at hp
 case h_2=>cases hp
 rename_i t1 n1 pred pw curr cw tries ul_l ab me frm key limit at' moved ul;cases hp;obtain⟨⟨rfl,rfl⟩,rfl,aa⟩:=hq;exact⟨⟨_,_,aE.pack (Y8 t1 n1 (⟨pred,pw,curr,cw,tries,ul,ab,me,frm,key,limit,at',moved,⟨0,0,0,0⟩⟩:FNS)) (.find t1 n1 (⟨pred,pw,curr,cw,tries,ul,ab,me,frm,key,limit,at',moved,⟨0,0,0,0⟩⟩:FNS)) 0 0 (lW t1 n1 (⟨pred,pw,curr,cw,tries,ul,ab,me,frm,key,limit,at',moved,⟨0,0,0,0⟩⟩:FNS)) [] (by kernel_rfl) rfl (congrArg (Prod.mk 0) (iZ aa)) (by kernel_rfl),hK⟩⟩
abbrev w1g(hd n:Int):=((0:Int)<=n/\n<=(100000:Int))/\(-1000000:Int)<=hd/\hd<=(1000000:Int)
def R9(t n:Int)(me hd key lim:Int):Tr FNS:=.pre (w1g hd n) (.pre (w1g hd n) (.pre ((t=t/\n=n)/\0=0/\(0:Int)≠(4:Int)) (.ret {pred:=n+1+hd,pw:=0,curr:=0,cw:=0,tries:=0,ul:=[],ab:=false,me:=me,frm:=n+1+hd,key:=key,limit:=lim,at':=0,moved:=0,cl:=bZ})))
def vP(t n:Int)(me hd key lim:Int):FNS:=(R9 t n me hd key lim).val
def pD(t n:Int)(me hd key lim:Int):Prop:=(R9 t n me hd key lim).ok
def fnNS:aI Ob:=fun args h=>match args,h with
 | [.agg [.int .i64 t,.int .i64 n],.int .i64 me,.int .i64 hd,.int .i64 key,.int .i64 lim],[]=>some (.pre (pD t n me hd key lim) (.ret (.ptr 0 0) (Y8 t n (vP t n me hd key lim))))
 | _,_=>none
theorem aEl:sT' 227 fnNS:=by
 intro args h o ho K g;unfold fnNS at ho;split at ho<;>cases ho
 rename_i t n me hd key lim;obtain⟨ok,g⟩:=g;refine aLm (root:=0) (pos:=[15]) (cs:=[(.cell 0 7,.ints (some .i64))]) (parse:=aEk t n) Y9 ?_;exact cM' (E:=EC7) (q:=(R9 t n me hd key lim).run (fun y=>(Out.ret (.ptr 0 0) (Y8 t n y)).run K)) (by kernel_rfl) (aLf ok g)
noncomputable def EF:=((EC7.addS 163 fnS aHD).addS 227 fnNS aEl)
def retC:aI Ob:=fun args h=>match args,h with
 | [.ptr 0 0,.slice 2 0 k 1],[e1,e2,some (.cells [.int .i64 p])]=>(match lZ 1 [e1,e2]with
   | some (l,t,n,st)=>some (.pre (l=st.R.length/\k=1/\st.R.length+1<=4294967296) (.ret (.tup []) [cE' [.I t,.I n,.I st.me,.I st.sp,.slice 3 0 (st.R.length+1) 1],none,cE' [.I p],iI' (st.R++ [p])]))
   | none=>none)
 | _,_=>none
theorem aA3:sT' 164 retC:=by
 intro args h o ho K hK;unfold retC at ho;split at ho
 case h_2=>cases ho
 rename_i k e1 e2 p;split at ho<;>cases ho
 rename_i l t n st hs;obtain⟨⟨hl,rfl,g⟩,hK⟩:=hK;have hh:=cB hs hl;cases hh;refine aK8 (cM' (E:=EF) (q:=(0=0/\lE' st.3/\1=1/\st.3.length+(1:Nat)<=(4294967296:Nat))/\K (.tup []) [cE' [.I t,.I n,.I st.1,.I st.2,.slice 3 0 (st.3.length+1) 1],none,cE' [.I p],iI' (st.3++ [p])]) (by kernel_rfl) ?_)
 exact⟨⟨rfl,rfl,rfl,g⟩,hK⟩
def retI:aI Ob:=fun args h=>match args,h with
 | [.ptr 0 0,.slice 2 0 k 1],[e1,e2,some (.ints (some .i64) xs)]=>(match lZ 1 [e1,e2]with
   | some (l,t,n,st)=>some (.pre (l=st.R.length/\k=xs.length/\st.R.length+xs.length<=4294967296) (.ret (.tup []) [cE' [.I t,.I n,.I st.me,.I st.sp,.slice 3 0 (st.R.length+xs.length) 1],none,iI' xs,iI' (st.R++xs)]))
   | none=>none)
 | _,_=>none
theorem aA4:sT' 164 retI:=by
 intro args h o ho K hK;unfold retI at ho;split at ho
 case h_2=>cases ho
 rename_i k e1 e2 xs;split at ho<;>cases ho
 rename_i l t n st hs;obtain⟨⟨hl,rfl,g⟩,hK⟩:=hK;have hh:=cB hs hl;cases hh;refine aK8 (cM' (E:=EF) (q:=(0+xs.length<=xs.length/\0=0/\lE' st.3/\1=1/\st.3.length+xs.length<=(4294967296:Nat))/\K (.tup []) [cE' [.I t,.I n,.I st.1,.I st.2,.slice 3 0 (st.3.length+xs.length) 1],none,iI' xs,iI' (st.3++List.take xs.length (List.drop 0 xs))]) (by kernel_rfl) ?_)
 refine⟨⟨by omega,rfl,rfl,rfl,g⟩,?_⟩
 rw [List.drop_zero,List.take_length];exact hK
noncomputable def retS:aI Ob:=aI.or retC retI
theorem aFG:sT' 164 retS:=aLK aA3 aA4
noncomputable def ER:=EF.addS 164 retS aFG
structure FtO where
 d:Bool
 x:FTS
 st:STS
 s:MS
instance:Inhabited FtO:=⟨⟨false,dH,⟨0,0,[]⟩,⟨0,0,[],0,0,0,0,0,false⟩⟩⟩
instance:Inhabited FTS:=⟨dH⟩
abbrev ftH(t n:Int)(x:FTS)(st:STS)(s:MS):aB Ob:=[some (.abs (.fast t n x) [1]),some (.abs (.store t n st) []),bF 3 s,bG s]
abbrev ftD(t n:Int)(x:FTS)(st:STS)(s:MS):aB Ob:=[cE' [.ptr 1 0,.I x.code,.bool x.okk,.I x.val,.bool x.failed,.I x.tries,.I x.sh,.I x.kd,.I x.ky,.I x.most,.I x.at',.bool x.p.now,.I x.p.code,.bool x.p.okk,.I x.p.val,.I x.p.addr,.int .u64 x.p.old,.I x.p.nxt,.bool x.p.mark,.I x.p.pops,.O,.O,.O],some (.abs (.store t n st) []),bF 3 s,bG s]
def FtO.fin(t n:Int)(y:FtO):Out Ob:=.ite y.d (.ret (.bool true) (ftD t n y.x y.st y.s)) (.ret (.bool false) (ftH t n y.x y.st y.s))
def aEt(t n:Int)(v:AVal)(g:aB Ob):Option (Prop×FtO):=match v,g with
 | .bool d,[some (.cells [.ptr 1 0,.int .i64 code,.bool okk,.int .i64 val,.bool failed,.int .i64 tries,.int .i64 sh,.int .i64 kd,.int .i64 ky,.int .i64 most,.int .i64 at',.bool p_now,.int .i64 p_code,.bool p_okk,.int .i64 p_val,.int .i64 p_addr,.int .u64 p_old,.int .i64 p_nxt,.bool p_mark,.int .i64 p_pops,.O,.O,.O]),e1,e3,e4,e2]=>(match lZ 4 [e1,e2],cO 3 [e3,e4]with
   | some (l2,t2,n2,st),some (l,s)=>some ((t2=t/\n2=n)/\(d=false->at'≠0/\at'≠1/\at'≠2)/\l=s.xs.length/\l2=st.R.length,⟨d,⟨code,okk,val,failed,tries,sh,kd,ky,most,at',⟨p_now,p_code,p_okk,p_val,p_addr,p_old,p_nxt,p_mark,p_pops⟩,bR,⟨0,0,0,0⟩,⟨0,0,0,false⟩⟩,st,s⟩)
   | _,_=>none)
 | _,_=>none
def aEu(t n:Int)(v:AVal)(g:aB Ob):Option (Prop×FtO):=match v,g with
 | .bool d,[some (.cells [.ptr 1 0,.int .i64 code,.bool okk,.int .i64 val,.bool failed,.int .i64 tries,.int .i64 sh,.int .i64 kd,.int .i64 ky,.int .i64 most,.int .i64 at',.bool p_now,.int .i64 p_code,.bool p_okk,.int .i64 p_val,.int .i64 p_addr,.int .u64 p_old,.int .i64 p_nxt,.bool p_mark,.int .i64 p_pops,.ptr 4 0,.O,.O]),e1,e3,e4,some (.abs (.find t' n' sub) []),e2]=>(match lZ 5 [e1,e2],cO 3 [e3,e4]with
   | some (l2,t2,n2,st),some (l,s)=>some ((t2=t/\n2=n)/\t'=t/\n'=n/\(d=false->at'=0)/\l=s.xs.length/\l2=st.R.length,⟨d,⟨code,okk,val,failed,tries,sh,kd,ky,most,at',⟨p_now,p_code,p_okk,p_val,p_addr,p_old,p_nxt,p_mark,p_pops⟩,sub,⟨0,0,0,0⟩,⟨0,0,0,false⟩⟩,st,s⟩)
   | _,_=>none)
 | _,_=>none
def aEv(t n:Int)(v:AVal)(g:aB Ob):Option (Prop×FtO):=match v,g with
 | .bool d,[some (.cells [.ptr 1 0,.int .i64 code,.bool okk,.int .i64 val,.bool failed,.int .i64 tries,.int .i64 sh,.int .i64 kd,.int .i64 ky,.int .i64 most,.int .i64 at',.bool p_now,.int .i64 p_code,.bool p_okk,.int .i64 p_val,.int .i64 p_addr,.int .u64 p_old,.int .i64 p_nxt,.bool p_mark,.int .i64 p_pops,.O,.ptr 4 0,.O]),e1,e3,e4,some (.abs (.clear t' n' sub) []),e2]=>(match lZ 5 [e1,e2],cO 3 [e3,e4]with
   | some (l2,t2,n2,st),some (l,s)=>some ((t2=t/\n2=n)/\t'=t/\n'=n/\(d=false->at'=1)/\l=s.xs.length/\l2=st.R.length,⟨d,⟨code,okk,val,failed,tries,sh,kd,ky,most,at',⟨p_now,p_code,p_okk,p_val,p_addr,p_old,p_nxt,p_mark,p_pops⟩,bR,sub,⟨0,0,0,false⟩⟩,st,s⟩)
   | _,_=>none)
 | _,_=>none
def aEw(t n:Int)(v:AVal)(g:aB Ob):Option (Prop×FtO):=match v,g with
 | .bool d,[some (.cells [.ptr 1 0,.int .i64 code,.bool okk,.int .i64 val,.bool failed,.int .i64 tries,.int .i64 sh,.int .i64 kd,.int .i64 ky,.int .i64 most,.int .i64 at',.bool p_now,.int .i64 p_code,.bool p_okk,.int .i64 p_val,.int .i64 p_addr,.int .u64 p_old,.int .i64 p_nxt,.bool p_mark,.int .i64 p_pops,.O,.O,.ptr 4 0]),e1,e3,e4,some (.abs (.prepare t' n' sub) [1]),e2]=>(match lZ 5 [e1,e2],cO 3 [e3,e4]with
   | some (l2,t2,n2,st),some (l,s)=>some ((t2=t/\n2=n)/\t'=t/\n'=n/\(d=false->at'=2)/\l=s.xs.length/\l2=st.R.length,⟨d,⟨code,okk,val,failed,tries,sh,kd,ky,most,at',⟨p_now,p_code,p_okk,p_val,p_addr,p_old,p_nxt,p_mark,p_pops⟩,bR,⟨0,0,0,0⟩,sub⟩,st,s⟩)
   | _,_=>none)
 | _,_=>none
def ftP(t n:Int)(v:AVal)(g:aB Ob):Option (Prop×FtO):=(match aEt t n v g with
 | some r=>some r
 | none=>(match aEu t n v g with
 | some r=>some r
 | none=>(match aEv t n v g with
 | some r=>some r
 | none=>aEw t n v g)))
theorem ZH{t n:Int} :bP (obI tbl) 4 (aEt t n) (FtO.fin t n):=by
 intro v g p x hp hq K hK;unfold aEt at hp;split at hp
 case h_2=>cases hp
 rename_i d code okk val failed tries sh kd ky most at' p_now p_code p_okk p_val p_addr p_old p_nxt p_mark p_pops e1 e3 e4 e2;split at hp
 case h_2=>cases hp
 rename_i l2 t2 n2 st l s hs hm;cases hp;obtain⟨⟨rfl,rfl⟩,ac,hl,aa⟩:=hq;cases bC hm hl;cases cB hs aa;refine fL hK (fun h=>?_) (fun hd h=>?_)
 ·exact tkP h (.store t2 n2 st) 1 0 (dP t2 n2 st) []
 ·exact w8 h (.store t2 n2 st) 1 0 (dP t2 n2 st) [] 0 [1] rfl (congrArg (Prod.mk 1) (C2 (ac hd)))
theorem ZI{t n:Int} :bP (obI tbl) 4 (aEu t n) (FtO.fin t n):=by
 intro v g p x hp hq K hK;unfold aEu at hp;split at hp
 case h_2=>cases hp
 rename_i d code okk val failed tries sh kd ky most at' p_now p_code p_okk p_val p_addr p_old p_nxt p_mark p_pops e1 e3 e4 t' n' sub e2;split at hp
 case h_2=>cases hp
 rename_i l2 t2 n2 st l s hs hm;cases hp;obtain⟨⟨rfl,rfl⟩,rfl,rfl,ac,hl,aa⟩:=hq;cases bC hm hl;cases cB hs aa;refine fL hK (fun h=>?_) (fun hd h=>?_)
 ·exact FE h [20,21,22] [0,1,2,3,5] (.store t' n' st) 1 0 (dP t' n' st) []
 ·exact w8 h (.store t' n' st) 1 0 (dP t' n' st) [] 0 [1] rfl (congrArg (Prod.mk 1) (z8 (ac hd)))
theorem ZJ{t n:Int} :bP (obI tbl) 4 (aEv t n) (FtO.fin t n):=by
 intro v g p x hp hq K hK;unfold aEv at hp;split at hp
 case h_2=>cases hp
 rename_i d code okk val failed tries sh kd ky most at' p_now p_code p_okk p_val p_addr p_old p_nxt p_mark p_pops e1 e3 e4 t' n' sub e2;split at hp
 case h_2=>cases hp
 rename_i l2 t2 n2 st l s hs hm;cases hp;obtain⟨⟨rfl,rfl⟩,rfl,rfl,ac,hl,aa⟩:=hq;cases bC hm hl;cases cB hs aa;refine fL hK (fun h=>?_) (fun hd h=>?_)
 ·exact FE h [20,21,22] [0,1,2,3,5] (.store t' n' st) 1 0 (dP t' n' st) []
 ·exact w8 h (.store t' n' st) 1 0 (dP t' n' st) [] 0 [1] rfl (congrArg (Prod.mk 1) (JI (ac hd)))
theorem ZK{t n:Int} :bP (obI tbl) 4 (aEw t n) (FtO.fin t n):=by
 intro v g p x hp hq K hK;unfold aEw at hp;split at hp
 case h_2=>cases hp
 rename_i d code okk val failed tries sh kd ky most at' p_now p_code p_okk p_val p_addr p_old p_nxt p_mark p_pops e1 e3 e4 t' n' sub e2;split at hp
 case h_2=>cases hp
 rename_i l2 t2 n2 st l s hs hm;cases hp;obtain⟨⟨rfl,rfl⟩,rfl,rfl,ac,hl,aa⟩:=hq;cases bC hm hl;cases cB hs aa;refine fL hK (fun h=>?_) (fun hd h=>?_)
 ·exact FE h [20,21,22] [0,1,2,3,5] (.store t' n' st) 1 0 (dP t' n' st) []
 ·exact w8 h (.store t' n' st) 1 0 (dP t' n' st) [] 0 [1] rfl (congrArg (Prod.mk 1) (JJ (ac hd)))
theorem AA{t n:Int} :bP (obI tbl) 4 (ftP t n) (FtO.fin t n):=by
 intro v g p x hp hq K hK;unfold ftP at hp;split at hp
 ·rename_i r hr;cases hp;exact ZH v g p x hr hq K hK
 split at hp
 ·rename_i r hr;cases hp;exact ZI v g p x hr hq K hK
 split at hp
 ·rename_i r hr;cases hp;exact ZJ v g p x hr hq K hK
 exact ZK v g p x hp hq K hK
abbrev w1j(n:Int)(s:MS)(t:Int)(x:FTS):=FnO.x (aM t n x.12 s)
abbrev w1h(n:Int)(s:MS)(st:STS)(t:Int)(x:FTS):=bJ x.6 x.7 x.8 (w1j n s t x).1 (w1j n s t x).2 (w1j n s t x).3 (w1j n s t x).4 st.2
abbrev w1l:=true=false->(0:Int)≠(0:Int)/\(0:Int)≠(1:Int)/\(0:Int)≠(2:Int)
abbrev w1m:=false=false->(3:Int)≠(0:Int)/\(3:Int)≠(1:Int)/\(3:Int)≠(2:Int)
abbrev w1n:=false=false->(0:Int)=(0:Int)
abbrev w1o(n:Int)(s:MS)(t:Int)(x:FTS):=FnO.s (aM t n x.12 s)
abbrev w1p:=false=false->(1:Int)=(1:Int)
abbrev w1q:=false=false->(2:Int)=(2:Int)
def DD(t n:Int)(x:FTS)(st:STS)(s:MS):Tr FtO:=.pre True (.ite (!bU x.6 x.7 x.8) (.pre (q9' s) (.pre ((t=t/\n=n)/\t=t/\n=n/\(true=false->(0:Int)=(0:Int))/\lE' s.3/\lE' st.3) (.ret {d:=true,x:= {x with failed:=true,at':=0,cl:=bZ,pr:=dJ},st:=st,s:=(dY s 0) }))) (.pre True (.ite (f5 x.7) (.ite (ieq st.2 0) (.pre (q9' s) (.pre ((t=t/\n=n)/\t=t/\n=n/\(true=false->(0:Int)=(0:Int))/\lE' s.3/\lE' st.3) (.ret {d:=true,x:= {x with failed:=true,at':=0,cl:=bZ,pr:=dJ},st:=st,s:=(dY s 0) }))) (.pre (lE' s.3/\MO t n x.12 s) (.ite (aM t n x.12 s).1 (.pre ((lE' st.3/\lE' (w1j n s t x).6/\st.3.length+List.length (w1j n s t x).6<=(4294967296:Nat))/\True) (.ite (ilt x.9 (W (x.5+(w1j n s t x).5))) (.pre ((t=t/\n=n)/\w1l/\lE' (w1o n s t x).3/\st.3.length+List.length (w1j n s t x).6=List.length (st.3++(w1j n s t x).6)) (.ret {d:=true,x:= {x with failed:=ilt x.9 (W (x.5+(w1j n s t x).5)),tries:=W (x.5+(w1j n s t x).5),at':=0,fn:=bR,cl:=bZ,pr:=dJ},st:= {me:=st.1,sp:=st.2,R:=st.3++(w1j n s t x).6},s:=(aM t n x.12 s).3})) (.pre (wN x.6 x.7 x.8 (w1j n s t x).1 (w1j n s t x).2 (w1j n s t x).3 (w1j n s t x).4 st.2/\True) (.ite (w1h n s st t x).1 (.pre ((t=t/\n=n)/\w1l/\lE' (w1o n s t x).3/\st.3.length+List.length (w1j n s t x).6=List.length (st.3++(w1j n s t x).6)) (.ret {d:=true,x:= {x with code:=(w1h n s st t x).2,okk:=(w1h n s st t x).3,val:=(w1h n s st t x).4,failed:=ilt x.9 (W (x.5+(w1j n s t x).5)),tries:=W (x.5+(w1j n s t x).5),at':=0,p:=bJ x.6 x.7 x.8 (w1j n s t x).1 (w1j n s t x).2 (w1j n s t x).3 (w1j n s t x).4 st.2,fn:=bR,cl:=bZ,pr:=dJ},st:= {me:=st.1,sp:=st.2,R:=st.3++(w1j n s t x).6},s:=(aM t n x.12 s).3})) (.pre (oT (w1h n s st t x).1 (w1h n s st t x).2 (w1h n s st t x).3 (w1h n s st t x).4 (w1h n s st t x).5 (w1h n s st t x).6 (w1h n s st t x).7 (w1h n s st t x).8 (w1h n s st t x).9) (.ite (AQ (w1h n s st t x).1 (w1h n s st t x).2 (w1h n s st t x).3 (w1h n s st t x).4 (w1h n s st t x).5 (w1h n s st t x).6 (w1h n s st t x).7 (w1h n s st t x).8 (w1h n s st t x).9) (.pre (qQ t n (w1h n s st t x).5/\True) (.pre ((t=t/\n=n)/\t=t/\n=n/\w1p/\lE' (w1o n s t x).3/\st.3.length+List.length (w1j n s t x).6=List.length (st.3++(w1j n s t x).6)) (.ret {d:=false,x:= {x with failed:=ilt x.9 (W (x.5+(w1j n s t x).5)),tries:=W (x.5+(w1j n s t x).5),at':=1,p:=bJ x.6 x.7 x.8 (w1j n s t x).1 (w1j n s t x).2 (w1j n s t x).3 (w1j n s t x).4 st.2,fn:=bR,cl:=zP t n (w1h n s st t x).5,pr:=dJ},st:= {me:=st.1,sp:=st.2,R:=st.3++(w1j n s t x).6},s:=(aM t n x.12 s).3}))) (.pre True (.ite (f5 x.7) (.pre ((st.3.length+List.length (w1j n s t x).6=List.length (st.3++(w1j n s t x).6)/\EN t n x.8 (w1j n s t x).3 {me:=st.1,sp:=st.2,R:=st.3++(w1j n s t x).6})/\True) (.pre ((t=t/\n=n)/\t=t/\n=n/\w1q/\lE' (w1o n s t x).3/\lE' (Prod.snd (rN t n x.8 (w1j n s t x).3 {me:=st.1,sp:=st.2,R:=st.3++(w1j n s t x).6})).3) (.ret {d:=false,x:= {x with failed:=ilt x.9 (W (x.5+(w1j n s t x).5)),tries:=W (x.5+(w1j n s t x).5),at':=2,p:=bJ x.6 x.7 x.8 (w1j n s t x).1 (w1j n s t x).2 (w1j n s t x).3 (w1j n s t x).4 st.2,fn:=bR,cl:=bZ,pr:=(rN t n x.8 (w1j n s t x).3 {me:=st.1,sp:=st.2,R:=st.3++(w1j n s t x).6}).1},st:=(rN t n x.8 (w1j n s t x).3 {me:=st.1,sp:=st.2,R:=st.3++(w1j n s t x).6}).2,s:=(aM t n x.12 s).3}))) (.pre ((t=t/\n=n)/\w1m/\lE' (w1o n s t x).3/\st.3.length+List.length (w1j n s t x).6=List.length (st.3++(w1j n s t x).6)) (.ret {d:=false,x:= {x with failed:=ilt x.9 (W (x.5+(w1j n s t x).5)),tries:=W (x.5+(w1j n s t x).5),at':=3,p:=bJ x.6 x.7 x.8 (w1j n s t x).1 (w1j n s t x).2 (w1j n s t x).3 (w1j n s t x).4 st.2,fn:=bR,cl:=bZ,pr:=dJ},st:= {me:=st.1,sp:=st.2,R:=st.3++(w1j n s t x).6},s:=(aM t n x.12 s).3})))))))))) (.pre ((t=t/\n=n)/\t=t/\n=n/\w1n/\lE' (w1o n s t x).3/\lE' st.3) (.ret {d:=false,x:= {x with at':=0,fn:=(aM t n x.12 s).2,cl:=bZ,pr:=dJ},st:=st,s:=(aM t n x.12 s).3}))))) (.pre (lE' s.3/\MO t n x.12 s) (.ite (aM t n x.12 s).1 (.pre ((lE' st.3/\lE' (w1j n s t x).6/\st.3.length+List.length (w1j n s t x).6<=(4294967296:Nat))/\True) (.ite (ilt x.9 (W (x.5+(w1j n s t x).5))) (.pre ((t=t/\n=n)/\w1l/\lE' (w1o n s t x).3/\st.3.length+List.length (w1j n s t x).6=List.length (st.3++(w1j n s t x).6)) (.ret {d:=true,x:= {x with failed:=ilt x.9 (W (x.5+(w1j n s t x).5)),tries:=W (x.5+(w1j n s t x).5),at':=0,fn:=bR,cl:=bZ,pr:=dJ},st:= {me:=st.1,sp:=st.2,R:=st.3++(w1j n s t x).6},s:=(aM t n x.12 s).3})) (.pre (wN x.6 x.7 x.8 (w1j n s t x).1 (w1j n s t x).2 (w1j n s t x).3 (w1j n s t x).4 st.2/\True) (.ite (w1h n s st t x).1 (.pre ((t=t/\n=n)/\w1l/\lE' (w1o n s t x).3/\st.3.length+List.length (w1j n s t x).6=List.length (st.3++(w1j n s t x).6)) (.ret {d:=true,x:= {x with code:=(w1h n s st t x).2,okk:=(w1h n s st t x).3,val:=(w1h n s st t x).4,failed:=ilt x.9 (W (x.5+(w1j n s t x).5)),tries:=W (x.5+(w1j n s t x).5),at':=0,p:=bJ x.6 x.7 x.8 (w1j n s t x).1 (w1j n s t x).2 (w1j n s t x).3 (w1j n s t x).4 st.2,fn:=bR,cl:=bZ,pr:=dJ},st:= {me:=st.1,sp:=st.2,R:=st.3++(w1j n s t x).6},s:=(aM t n x.12 s).3})) (.pre (oT (w1h n s st t x).1 (w1h n s st t x).2 (w1h n s st t x).3 (w1h n s st t x).4 (w1h n s st t x).5 (w1h n s st t x).6 (w1h n s st t x).7 (w1h n s st t x).8 (w1h n s st t x).9) (.ite (AQ (w1h n s st t x).1 (w1h n s st t x).2 (w1h n s st t x).3 (w1h n s st t x).4 (w1h n s st t x).5 (w1h n s st t x).6 (w1h n s st t x).7 (w1h n s st t x).8 (w1h n s st t x).9) (.pre (qQ t n (w1h n s st t x).5/\True) (.pre ((t=t/\n=n)/\t=t/\n=n/\w1p/\lE' (w1o n s t x).3/\st.3.length+List.length (w1j n s t x).6=List.length (st.3++(w1j n s t x).6)) (.ret {d:=false,x:= {x with failed:=ilt x.9 (W (x.5+(w1j n s t x).5)),tries:=W (x.5+(w1j n s t x).5),at':=1,p:=bJ x.6 x.7 x.8 (w1j n s t x).1 (w1j n s t x).2 (w1j n s t x).3 (w1j n s t x).4 st.2,fn:=bR,cl:=zP t n (w1h n s st t x).5,pr:=dJ},st:= {me:=st.1,sp:=st.2,R:=st.3++(w1j n s t x).6},s:=(aM t n x.12 s).3}))) (.pre True (.ite (f5 x.7) (.pre ((st.3.length+List.length (w1j n s t x).6=List.length (st.3++(w1j n s t x).6)/\EN t n x.8 (w1j n s t x).3 {me:=st.1,sp:=st.2,R:=st.3++(w1j n s t x).6})/\True) (.pre ((t=t/\n=n)/\t=t/\n=n/\w1q/\lE' (w1o n s t x).3/\lE' (Prod.snd (rN t n x.8 (w1j n s t x).3 {me:=st.1,sp:=st.2,R:=st.3++(w1j n s t x).6})).3) (.ret {d:=false,x:= {x with failed:=ilt x.9 (W (x.5+(w1j n s t x).5)),tries:=W (x.5+(w1j n s t x).5),at':=2,p:=bJ x.6 x.7 x.8 (w1j n s t x).1 (w1j n s t x).2 (w1j n s t x).3 (w1j n s t x).4 st.2,fn:=bR,cl:=bZ,pr:=(rN t n x.8 (w1j n s t x).3 {me:=st.1,sp:=st.2,R:=st.3++(w1j n s t x).6}).1},st:=(rN t n x.8 (w1j n s t x).3 {me:=st.1,sp:=st.2,R:=st.3++(w1j n s t x).6}).2,s:=(aM t n x.12 s).3}))) (.pre ((t=t/\n=n)/\w1m/\lE' (w1o n s t x).3/\st.3.length+List.length (w1j n s t x).6=List.length (st.3++(w1j n s t x).6)) (.ret {d:=false,x:= {x with failed:=ilt x.9 (W (x.5+(w1j n s t x).5)),tries:=W (x.5+(w1j n s t x).5),at':=3,p:=bJ x.6 x.7 x.8 (w1j n s t x).1 (w1j n s t x).2 (w1j n s t x).3 (w1j n s t x).4 st.2,fn:=bR,cl:=bZ,pr:=dJ},st:= {me:=st.1,sp:=st.2,R:=st.3++(w1j n s t x).6},s:=(aM t n x.12 s).3})))))))))) (.pre ((t=t/\n=n)/\t=t/\n=n/\w1n/\lE' (w1o n s t x).3/\lE' st.3) (.ret {d:=false,x:= {x with at':=0,fn:=(aM t n x.12 s).2,cl:=bZ,pr:=dJ},st:=st,s:=(aM t n x.12 s).3})))))))
abbrev ZL(F:Int->Int->FTS->STS->MS->Tr FtO)(a:Int)(l:List AVal)(e:Int->Int->FTS->STS->MS->aB Ob):Prop:= ∀(t n:Int) (x:FTS) (st:STS) (s:MS) (K:FtO->Prop) (h:(F t n x st s).run K),cT' 156 [.ptr 0 0,.ptr 2 0] ([some (.cells ([.ptr 1 0,.I x.code,.bool x.okk,.I x.val,.bool x.failed,.I x.tries,.I x.sh,.I x.kd,.I x.ky,.I x.most,.I a,.bool x.p.now,.I x.p.code,.bool x.p.okk,.I x.p.val,.I x.p.addr,.int .u64 x.p.old,.I x.p.nxt,.bool x.p.mark,.I x.p.pops]++l))]++e t n x st s++ [oV st]) (eU 4 0 [20,21,22] [(.cell 1 4,.ints (some .i64))] (ftP t n) K)
theorem MY:ZL DD 0 [.ptr 4 0,.O,.O] (fun t n x st s=>[lD 5 t n st,bF 3 s,bG s,some (.abs (.find t n x.fn) [])]):=by
 intro t n x st s K h;exact cM' (E:=ER) (by kernel_rfl) h
def DE(t n:Int)(x:FTS)(st:STS)(s:MS):Tr FtO:=.pre (lE' s.3/\QM t n x.13 s) (.ite (pA t n x.13 s).1 (.ite (ilt x.9 (W (x.5+1))) (.pre ((t=t/\n=n)/\(true=false->(1:Int)≠(0:Int)/\(1:Int)≠(1:Int)/\(1:Int)≠(2:Int))/\lE' (ClO.s (pA t n x.13 s)).3/\lE' st.3) (.ret {d:=true,x:= {x with failed:=ilt x.9 (W (x.5+1)),tries:=W (x.5+1),at':=1,fn:=bR,cl:=bZ,pr:=dJ},st:=st,s:=(pA t n x.13 s).3})) (.pre True (.pre (pD t n st.1 (fI x.6 x.8) (mV x.6 x.7 x.8) (W (x.9 - W (x.5+1)))/\True) (.pre ((t=t/\n=n)/\t=t/\n=n/\w1n/\lE' (ClO.s (pA t n x.13 s)).3/\lE' st.3) (.ret {d:=false,x:= {x with failed:=ilt x.9 (W (x.5+1)),tries:=W (x.5+1),at':=0,fn:=vP t n st.1 (fI x.6 x.8) (mV x.6 x.7 x.8) (W (x.9 - W (x.5+1))),cl:=bZ,pr:=dJ},st:=st,s:=(pA t n x.13 s).3}))))) (.pre ((t=t/\n=n)/\t=t/\n=n/\w1p/\lE' (ClO.s (pA t n x.13 s)).3/\lE' st.3) (.ret {d:=false,x:= {x with at':=1,fn:=bR,cl:=(pA t n x.13 s).2,pr:=dJ},st:=st,s:=(pA t n x.13 s).3})))
theorem MZ:ZL DE 1 [.O,.ptr 4 0,.O] (fun t n x st s=>[lD 5 t n st,bF 3 s,bG s,some (.abs (.clear t n x.cl) [])]):=by
 intro t n x st s K h;exact cM' (E:=ER) (by kernel_rfl) h
def DF(t n:Int)(x:FTS)(st:STS)(s:MS):Tr FtO:=.pre ((lE' s.3/\lE' st.3/\t=t/\n=n)/\aAV t n x.14 st s) (.ite (prF t n x.14 st s).1 (.pre ((t=t/\n=n)/\w1m/\lE' (PrO.s (prF t n x.14 st s)).3/\lE' (PrO.st (prF t n x.14 st s)).3) (.ret {d:=false,x:= {x with at':=3,fn:=bR,cl:=bZ,pr:=dJ},st:=(prF t n x.14 st s).3,s:=(prF t n x.14 st s).4})) (.pre ((t=t/\n=n)/\t=t/\n=n/\w1q/\lE' (PrO.s (prF t n x.14 st s)).3/\lE' (PrO.st (prF t n x.14 st s)).3) (.ret {d:=false,x:= {x with at':=2,fn:=bR,cl:=bZ,pr:=(prF t n x.14 st s).2},st:=(prF t n x.14 st s).3,s:=(prF t n x.14 st s).4})))
theorem M7:ZL DF 2 [.O,.O,.ptr 4 0] (fun t n x st s=>[lD 5 t n st,bF 3 s,bG s,some (.abs (.prepare t n x.pr) [1])]):=by
 intro t n x st s K h;exact cM' (E:=ER) (by kernel_rfl) h
abbrev w1i(x:FTS):=d6 (FTS.p x).1 (FTS.p x).2 (FTS.p x).3 (FTS.p x).4 (FTS.p x).5 (FTS.p x).6 (FTS.p x).7 (FTS.p x).8 (FTS.p x).9
abbrev w1k:=true=false->(3:Int)≠(0:Int)/\(3:Int)≠(1:Int)/\(3:Int)≠(2:Int)
def DG(t n:Int)(x:FTS)(st:STS)(s:MS):Tr FtO:=.pre (AS (FTS.p x).1 (FTS.p x).2 (FTS.p x).3 (FTS.p x).4 (FTS.p x).5 (FTS.p x).6 (FTS.p x).7 (FTS.p x).8 (FTS.p x).9/\True) (.pre ((q9' s)/\True) (.ite (!bE s.3 (FTS.p x).5 (FTS.p x).6) (.ite (ilt x.9 (W (x.5+1))) (.pre ((t=t/\n=n)/\w1k/\lE' (bif bE s.3 (FTS.p x).5 (FTS.p x).6 then aZ s.3 (FTS.p x).5 (w1i x)else s.3)/\lE' st.3) (.ret {d:=true,x:= {x with failed:=ilt x.9 (W (x.5+1)),tries:=W (x.5+1),at':=3,fn:=bR,cl:=bZ,pr:=dJ},st:=st,s:=(qK s (FTS.p x).5 (FTS.p x).6 (w1i x)) })) (.pre True (.pre (pD t n st.1 (fI x.6 x.8) (mV x.6 x.7 x.8) (W (x.9 - W (x.5+1)))/\True) (.pre ((t=t/\n=n)/\t=t/\n=n/\w1n/\lE' (bif bE s.3 (FTS.p x).5 (FTS.p x).6 then aZ s.3 (FTS.p x).5 (w1i x)else s.3)/\lE' st.3) (.ret {d:=false,x:= {x with failed:=ilt x.9 (W (x.5+1)),tries:=W (x.5+1),at':=0,fn:=vP t n st.1 (fI x.6 x.8) (mV x.6 x.7 x.8) (W (x.9 - W (x.5+1))),cl:=bZ,pr:=dJ},st:=st,s:=(qK s (FTS.p x).5 (FTS.p x).6 (w1i x)) }))))) (.pre True (.ite (f5 x.7) (.ite (!ieq (FTS.p x).9 0) (.pre ((lE' st.3/\1=1/\st.3.length+(1:Nat)<=(4294967296:Nat))/\True) (.pre ((t=t/\n=n)/\w1k/\lE' (bif bE s.3 (FTS.p x).5 (FTS.p x).6 then aZ s.3 (FTS.p x).5 (w1i x)else s.3)/\st.3.length+(1:Nat)=List.length (st.3++ [(FTS.p x).9])) (.ret {d:=true,x:= {x with code:=(FTS.p x).2,okk:=(FTS.p x).3,val:=(FTS.p x).4,at':=3,fn:=bR,cl:=bZ,pr:=dJ},st:= {me:=st.1,sp:=0,R:=st.3++ [(FTS.p x).9] },s:=(qK s (FTS.p x).5 (FTS.p x).6 (w1i x)) }))) (.pre ((t=t/\n=n)/\w1k/\lE' (bif bE s.3 (FTS.p x).5 (FTS.p x).6 then aZ s.3 (FTS.p x).5 (w1i x)else s.3)/\lE' st.3) (.ret {d:=true,x:= {x with code:=(FTS.p x).2,okk:=(FTS.p x).3,val:=(FTS.p x).4,at':=3,fn:=bR,cl:=bZ,pr:=dJ},st:= {me:=st.1,sp:=0,R:=st.3},s:=(qK s (FTS.p x).5 (FTS.p x).6 (w1i x)) }))) (.ite (!ieq (FTS.p x).9 0) (.pre ((lE' st.3/\1=1/\st.3.length+(1:Nat)<=(4294967296:Nat))/\True) (.pre ((t=t/\n=n)/\w1k/\lE' (bif bE s.3 (FTS.p x).5 (FTS.p x).6 then aZ s.3 (FTS.p x).5 (w1i x)else s.3)/\st.3.length+(1:Nat)=List.length (st.3++ [(FTS.p x).9])) (.ret {d:=true,x:= {x with code:=(FTS.p x).2,okk:=(FTS.p x).3,val:=(FTS.p x).4,at':=3,fn:=bR,cl:=bZ,pr:=dJ},st:= {me:=st.1,sp:=st.2,R:=st.3++ [(FTS.p x).9] },s:=(qK s (FTS.p x).5 (FTS.p x).6 (w1i x)) }))) (.pre ((t=t/\n=n)/\w1k/\lE' (bif bE s.3 (FTS.p x).5 (FTS.p x).6 then aZ s.3 (FTS.p x).5 (w1i x)else s.3)/\lE' st.3) (.ret {d:=true,x:= {x with code:=(FTS.p x).2,okk:=(FTS.p x).3,val:=(FTS.p x).4,at':=3,fn:=bR,cl:=bZ,pr:=dJ},st:=st,s:=(qK s (FTS.p x).5 (FTS.p x).6 (w1i x)) })))))))
theorem NA:ZL DG 3 [.O,.O,.O] (fun t n x st s=>[lD 4 t n st,bF 3 s,bG s]):=by
 intro t n x st s K h;exact cM' (E:=ER) (by kernel_rfl) h
def ftT(t n:Int)(x:FTS)(st:STS)(s:MS):Tr FtO:=
 bif ieq x.at' 0 then DD t n x st s else
 bif ieq x.at' 1 then DE t n x st s else
 bif ieq x.at' 2 then DF t n x st s else
 bif ieq x.at' 3 then DG t n x st s else .pre False (.ret default)
def i8(t n:Int)(x:FTS)(st:STS)(s:MS):FtO:=(ftT t n x st s).val
def aEr(t n:Int)(x:FTS)(st:STS)(s:MS):Prop:=(ftT t n x st s).ok
theorem ZN(t n:Int)(x:FTS)(st:STS)(s:MS)(K:AVal->aB Ob->Prop)(h:(ftT t n x st s).run (fun y=>(FtO.fin t n y).run K)):cT' 156 [.ptr 0 0,.ptr 2 0] (ftH t n x st s) K:=by
 unfold ftT at h
 by_cases e:x.at'=0
 ·rw [e]at h;have h:(DD t n x st s).run _:=h;refine aK9 (root:=0) (pos:=[20,21,22]) (cs:=[(.cell 1 4,.ints (some .i64))]) (parse:=ftP t n) (fin:=FtO.fin t n) AA ((aR.unpack (.fast t n x) 0 1 (qX t n x) [1] rfl (congrArg (Prod.mk 1) (z8 e)) (by kernel_rfl) rfl).trans (aR.unpack (.store t n st) 1 0 (dP t n st) [] rfl rfl rfl rfl)) ?_
  have q:=MY t n x st s _ h;rw [<-e]at q;exact q
 rw [bI e]at h
 by_cases e:x.at'=1
 ·rw [e]at h;have h:(DE t n x st s).run _:=h;refine aK9 (root:=0) (pos:=[20,21,22]) (cs:=[(.cell 1 4,.ints (some .i64))]) (parse:=ftP t n) (fin:=FtO.fin t n) AA ((aR.unpack (.fast t n x) 0 1 (vJ t n x) [1] rfl (congrArg (Prod.mk 1) (JI e)) (by kernel_rfl) rfl).trans (aR.unpack (.store t n st) 1 0 (dP t n st) [] rfl rfl rfl rfl)) ?_
  have q:=MZ t n x st s _ h;rw [<-e]at q;exact q
 rw [bI e]at h
 by_cases e:x.at'=2
 ·rw [e]at h;have h:(DF t n x st s).run _:=h;refine aK9 (root:=0) (pos:=[20,21,22]) (cs:=[(.cell 1 4,.ints (some .i64))]) (parse:=ftP t n) (fin:=FtO.fin t n) AA ((aR.unpack (.fast t n x) 0 1 (vM t n x) [1] rfl (congrArg (Prod.mk 1) (JJ e)) (by kernel_rfl) rfl).trans (aR.unpack (.store t n st) 1 0 (dP t n st) [] rfl rfl rfl rfl)) ?_
  have q:=M7 t n x st s _ h;rw [<-e]at q;exact q
 rw [bI e]at h
 by_cases e:x.at'=3
 ·rw [e]at h;have h:(DG t n x st s).run _:=h;refine aK9 (root:=0) (pos:=[20,21,22]) (cs:=[(.cell 1 4,.ints (some .i64))]) (parse:=ftP t n) (fin:=FtO.fin t n) AA ((aR.unpack (.fast t n x) 0 1 (G5 t n x) [1] rfl (congrArg (Prod.mk 1) (C2 ⟨(by omega),(by omega),(by omega)⟩)) (by kernel_rfl) rfl).trans (aR.unpack (.store t n st) 1 0 (dP t n st) [] rfl rfl rfl rfl)) ?_
  have q:=NA t n x st s _ h;rw [<-e]at q;exact q
 rw [bI e]at h;exact h.1.elim
def FtO.finB(t n:Int)(y:FtO):Out Ob:=.ite y.d (.ret (.bool true) ([cE' [.ptr 1 0,.I y.x.code,.bool y.x.okk,.I y.x.val,.bool y.x.failed,.I y.x.tries,.I y.x.sh,.I y.x.kd,.I y.x.ky,.I y.x.most,.I y.x.at',.bool y.x.p.now,.I y.x.p.code,.bool y.x.p.okk,.I y.x.p.val,.I y.x.p.addr,.int .u64 y.x.p.old,.I y.x.p.nxt,.bool y.x.p.mark,.I y.x.p.pops,.O,.O,.O],lD 5 t n y.st,none,bF 4 y.s,bG y.s,oV y.st])) (.ret (.bool false) [some (.abs (.fast t n y.x) [1]),lD 5 t n y.st,none,bF 4 y.s,bG y.s,oV y.st])
noncomputable def ftSB:aI Ob:=fun args h=>match args,h with
 | [.ptr 0 0,.ptr 3 0],[some (.abs (.fast t n x) [1]),e1,e2,e3,e4]=>(match lZ 2 [e1,e2],cO 4 [e3,e4]with
   | some (l2,t2,n2,st),some (l,s)=>some (.pre ((l=s.xs.length/\l2=st.R.length/\t2=t/\n2=n)/\aEr t n x st s) (FtO.finB t n (i8 t n x st s)))
   | _,_=>none)
 | _,_=>none
theorem aEx:sT' 156 ftSB:=by
 intro args h o ho K g;unfold ftSB at ho;split at ho
 case h_2=>cases ho
 split at ho<;>cases ho
 rename_i hs hm;obtain⟨⟨⟨hl,aa,rfl,rfl⟩,ok⟩,g⟩:=g;cases bC hm hl;cases cB hs aa;exact kH (fun ι hι=>by simp [aG.ren,aLn,AVal.ren,hι]) (fun ι hι=>by simp [aG.ren,hι]) (fun K g=>ZN _ _ _ _ _ K (aLf ok g)) K g
noncomputable def ftS:aI Ob:=ftSB
theorem aHG:sT' 156 ftS:=aEx
def aEp(t n:Int)(v:AVal)(g:aB Ob):Option (Prop×(FTS×STS)):=match v,g with
 | .ptr 2 0,[e1,e2,some (.cells [.ptr 0 0,.int .i64 code,.bool okk,.int .i64 val,.bool failed,.int .i64 tries,.int .i64 sh,.int .i64 kd,.int .i64 ky,.int .i64 most,.int .i64 at',.bool p_now,.int .i64 p_code,.bool p_okk,.int .i64 p_val,.int .i64 p_addr,.int .u64 p_old,.int .i64 p_nxt,.bool p_mark,.int .i64 p_pops,.ptr 3 0,.O,.O]),some (.abs (.find t' n' sub) [])]=>(match lZ 1 [e1,e2]with
   | some (l2,t2,n2,st)=>some ((t2=t/\n2=n/\l2=st.R.length)/\t'=t/\n'=n/\at'=0,⟨(⟨code,okk,val,failed,tries,sh,kd,ky,most,at',⟨p_now,p_code,p_okk,p_val,p_addr,p_old,p_nxt,p_mark,p_pops⟩,sub,⟨0,0,0,0⟩,⟨0,0,0,false⟩⟩:FTS),st⟩)
   | none=>none)
 | _,_=>none
abbrev ZE(t n:Int)(y:(FTS×STS)):aB Ob:=[lD 1 t n y.2,oV y.2,some (.abs (.fast t n y.1) [0])]
theorem ZF{t n:Int} :bP (obI tbl) 2 (aEp t n) (fun y=>.ret (.ptr 2 0) (ZE t n y)):=by
 intro v g p x hp hq K hK;unfold aEp at hp;split at hp
 case h_2=>cases hp
 rename_i e1 e2 code okk val failed tries sh kd ky most at' p_now p_code p_okk p_val p_addr p_old p_nxt p_mark p_pops t' n' sub;split at hp
 case h_2=>cases hp
 rename_i l2 t2 n2 st hs;cases hp;obtain⟨⟨rfl,rfl,aa⟩,rfl,rfl,ac⟩:=hq;cases cB hs aa;exact let X0:FTS:=⟨code,okk,val,failed,tries,sh,kd,ky,most,at',⟨p_now,p_code,p_okk,p_val,p_addr,p_old,p_nxt,p_mark,p_pops⟩,sub,⟨0,0,0,0⟩,⟨0,0,0,false⟩⟩;⟨⟨_,_,aE.pack (ZE t' n' (X0,st)) (.fast t' n' X0) 2 1 (qX t' n' X0) [0] (by kernel_rfl) rfl (congrArg (Prod.mk 1) (z8 ac)) (by kernel_rfl),hK⟩⟩
def SA(t n:Int)(sh kd ky most:Int)(st:STS):Tr (FTS×STS):=.pre True (.pre (pD t n st.1 (fI sh ky) (mV sh kd ky) (W (most - 0))/\True) (.pre ((t=t/\n=n/\lE' st.3)/\t=t/\n=n/\(0:Int)=(0:Int)) (.ret ({code:=0,okk:=false,val:=0,failed:=false,tries:=0,sh:=sh,kd:=kd,ky:=ky,most:=most,at':=0,p:=aG2,fn:=vP t n st.1 (fI sh ky) (mV sh kd ky) (W (most - 0)),cl:=bZ,pr:=dJ},st))))
def kR(t n:Int)(sh kd ky most:Int)(st:STS):(FTS×STS):=(SA t n sh kd ky most st).val
def vQ(t n:Int)(sh kd ky most:Int)(st:STS):Prop:=(SA t n sh kd ky most st).ok
def ftNS:aI Ob:=fun args h=>match args,h with
 | [.ptr 0 0,.agg [.int .i64 sh,.int .i64 kd,.int .i64 ky],.int .i64 most],[e1,e2]=>(match lZ 1 [e1,e2]with
   | some (l2,t,n,st)=>some (.pre (l2=st.R.length/\vQ t n sh kd ky most st) (.ret (.ptr 2 0) (ZE t n (kR t n sh kd ky most st))))
   | none=>none)
 | _,_=>none
theorem aEq:sT' 253 ftNS:=by
 intro args h o ho K hK;unfold ftNS at ho;split at ho
 case h_2=>cases ho
 rename_i sh kd ky most e1 e2;split at ho<;>cases ho
 rename_i l2 t n st hs;obtain⟨⟨g,ok⟩,hK⟩:=hK;cases cB hs g;refine aLm (root:=2) (pos:=[20,21,22]) (cs:=[]) (parse:=aEp t n) ZF ?_;exact cM' (E:=ER) (q:=(SA t n sh kd ky most st).run (fun y=>(Out.ret (.ptr 2 0) (ZE t n y)).run K)) (by kernel_rfl) (aLf ok hK)
noncomputable def ET:=((ER.addS 156 ftS aHG).addS 253 ftNS aEq)
def HJ:bA Ob:=fun args h=>match args,h with
 | [.ptr 0 0],[some (.cells [.ptr 1 0,.int .i64 u,.int .u64 no,.int .i64 rounds,.int .i64 limit,.int .i64 at',.int .u64 found,.int .i64 sh,.int .i64 kd,.int .i64 ky,.bool p_now,.int .i64 p_code,.bool p_okk,.int .i64 p_val,.int .i64 p_addr,.int .u64 p_old,.int .i64 p_nxt,.bool p_mark,.int .i64 p_pops,.O,.O,.O,.O,.O]),some (.cells [.int .i64 t,.int .i64 n,.int .i64 me,.int .i64 sp,.slice 2 0 k 1]),some (.ints (some .i64) R)]=>some (True,.agg [.I (aC found 0 12),.I (aC found 12 9),.I (aC found 21 18),.I (aC found 39 9),.bool (ieq (aC found 48 1) 1),.I (aC found 49 3),.I (aC found 52 10)])
 | _,_=>none
theorem SP:sT' 196 HJ.spec:=by
 intro args h o ho K g;unfold bA.spec HJ at ho;split at ho
 case h_2=>cases ho
 rename_i p v hp;split at hp
 case h_2=>cases hp
 rename_i u no rounds limit at' found sh kd ky p_now p_code p_okk p_val p_addr p_old p_nxt p_mark p_pops t n me sp k R;cases hp;simp only [sI']at ho;subst ho;obtain⟨hp,g⟩:=g;have g:K (.agg [.I (aC found 0 12),.I (aC found 12 9),.I (aC found 21 18),.I (aC found 39 9),.bool (ieq (aC found 48 1) 1),.I (aC found 49 3),.I (aC found 52 10)]) [cE' [.ptr 1 0,.I u,.int .u64 no,.I rounds,.I limit,.I at',.int .u64 found,.I sh,.I kd,.I ky,.bool p_now,.I p_code,.bool p_okk,.I p_val,.I p_addr,.int .u64 p_old,.I p_nxt,.bool p_mark,.I p_pops,.O,.O,.O,.O,.O],cE' [.I t,.I n,.I me,.I sp,.slice 2 0 k 1],iI' R]:=g;refine aK8 (cM' (E:=ET) (q:=True/\K (.agg [.I (aC found 0 12),.I (aC found 12 9),.I (aC found 21 18),.I (aC found 39 9),.bool (ieq (aC found 48 1) 1),.I (aC found 49 3),.I (aC found 52 10)]) [cE' [.ptr 1 0,.I u,.int .u64 no,.I rounds,.I limit,.I at',.int .u64 found,.I sh,.I kd,.I ky,.bool p_now,.I p_code,.bool p_okk,.I p_val,.I p_addr,.int .u64 p_old,.I p_nxt,.bool p_mark,.I p_pops,.O,.O,.O,.O,.O],cE' [.I t,.I n,.I me,.I sp,.slice 2 0 k 1],iI' R]) (by kernel_rfl) ?_)
 exact⟨trivial,g⟩
noncomputable def EH0:=ET.addR 196 HJ SP
structure HpO where
 d:Bool
 x:HPS
 st:STS
 s:MS
instance:Inhabited HpO:=⟨⟨false,dD,⟨0,0,[]⟩,⟨0,0,[],0,0,0,0,0,false⟩⟩⟩
instance:Inhabited HPS:=⟨dD⟩
abbrev hpH(t n:Int)(x:HPS)(st:STS)(s:MS):aB Ob:=[some (.abs (.help t n x) [1]),some (.abs (.store t n st) []),bF 3 s,bG s]
abbrev hpD(t n:Int)(x:HPS)(st:STS)(s:MS):aB Ob:=[cE' [.ptr 1 0,.I x.u,.int .u64 x.no,.I x.rounds,.I x.limit,.I x.at',.int .u64 x.found,.I x.sh,.I x.kd,.I x.ky,.bool x.p.now,.I x.p.code,.bool x.p.okk,.I x.p.val,.I x.p.addr,.int .u64 x.p.old,.I x.p.nxt,.bool x.p.mark,.I x.p.pops,.O,.O,.O,.O,.O],some (.abs (.store t n st) []),bF 3 s,bG s]
def HpO.fin(t n:Int)(y:HpO):Out Ob:=.ite y.d (.ret (.bool true) (hpD t n y.x y.st y.s)) (.ret (.bool false) (hpH t n y.x y.st y.s))
def aE3(t n:Int)(v:AVal)(g:aB Ob):Option (Prop×HpO):=match v,g with
 | .bool d,[some (.cells [.ptr 1 0,.int .i64 u,.int .u64 no,.int .i64 rounds,.int .i64 limit,.int .i64 at',.int .u64 found,.int .i64 sh,.int .i64 kd,.int .i64 ky,.bool p_now,.int .i64 p_code,.bool p_okk,.int .i64 p_val,.int .i64 p_addr,.int .u64 p_old,.int .i64 p_nxt,.bool p_mark,.int .i64 p_pops,.O,.O,.O,.O,.O]),e1,e3,e4,e2]=>(match lZ 4 [e1,e2],cO 3 [e3,e4]with
   | some (l2,t2,n2,st),some (l,s)=>some ((t2=t/\n2=n)/\(d=false->at'≠3/\at'≠4/\at'≠5/\at'≠7/\at'≠8)/\l=s.xs.length/\l2=st.R.length,⟨d,⟨u,no,rounds,limit,at',found,sh,kd,ky,⟨p_now,p_code,p_okk,p_val,p_addr,p_old,p_nxt,p_mark,p_pops⟩,eN,bW,bR,⟨0,0,0,0⟩,⟨0,0,0,false⟩⟩,st,s⟩)
   | _,_=>none)
 | _,_=>none
def aE4(t n:Int)(v:AVal)(g:aB Ob):Option (Prop×HpO):=match v,g with
 | .bool d,[some (.cells [.ptr 1 0,.int .i64 u,.int .u64 no,.int .i64 rounds,.int .i64 limit,.int .i64 at',.int .u64 found,.int .i64 sh,.int .i64 kd,.int .i64 ky,.bool p_now,.int .i64 p_code,.bool p_okk,.int .i64 p_val,.int .i64 p_addr,.int .u64 p_old,.int .i64 p_nxt,.bool p_mark,.int .i64 p_pops,.ptr 4 0,.O,.O,.O,.O]),e1,e3,e4,some (.abs (.exec t' n' sub) []),e2]=>(match lZ 5 [e1,e2],cO 3 [e3,e4]with
   | some (l2,t2,n2,st),some (l,s)=>some ((t2=t/\n2=n)/\t'=t/\n'=n/\(d=false->at'=3)/\l=s.xs.length/\l2=st.R.length,⟨d,⟨u,no,rounds,limit,at',found,sh,kd,ky,⟨p_now,p_code,p_okk,p_val,p_addr,p_old,p_nxt,p_mark,p_pops⟩,sub,bW,bR,⟨0,0,0,0⟩,⟨0,0,0,false⟩⟩,st,s⟩)
   | _,_=>none)
 | _,_=>none
def aE5(t n:Int)(v:AVal)(g:aB Ob):Option (Prop×HpO):=match v,g with
 | .bool d,[some (.cells [.ptr 1 0,.int .i64 u,.int .u64 no,.int .i64 rounds,.int .i64 limit,.int .i64 at',.int .u64 found,.int .i64 sh,.int .i64 kd,.int .i64 ky,.bool p_now,.int .i64 p_code,.bool p_okk,.int .i64 p_val,.int .i64 p_addr,.int .u64 p_old,.int .i64 p_nxt,.bool p_mark,.int .i64 p_pops,.O,.ptr 4 0,.O,.O,.O]),e1,e3,e4,some (.abs (.ensure t' n' sub) [1]),e2]=>(match lZ 5 [e1,e2],cO 3 [e3,e4]with
   | some (l2,t2,n2,st),some (l,s)=>some ((t2=t/\n2=n)/\t'=t/\n'=n/\(d=false->at'=4)/\l=s.xs.length/\l2=st.R.length,⟨d,⟨u,no,rounds,limit,at',found,sh,kd,ky,⟨p_now,p_code,p_okk,p_val,p_addr,p_old,p_nxt,p_mark,p_pops⟩,eN,sub,bR,⟨0,0,0,0⟩,⟨0,0,0,false⟩⟩,st,s⟩)
   | _,_=>none)
 | _,_=>none
def aE6(t n:Int)(v:AVal)(g:aB Ob):Option (Prop×HpO):=match v,g with
 | .bool d,[some (.cells [.ptr 1 0,.int .i64 u,.int .u64 no,.int .i64 rounds,.int .i64 limit,.int .i64 at',.int .u64 found,.int .i64 sh,.int .i64 kd,.int .i64 ky,.bool p_now,.int .i64 p_code,.bool p_okk,.int .i64 p_val,.int .i64 p_addr,.int .u64 p_old,.int .i64 p_nxt,.bool p_mark,.int .i64 p_pops,.O,.O,.ptr 4 0,.O,.O]),e1,e3,e4,some (.abs (.find t' n' sub) []),e2]=>(match lZ 5 [e1,e2],cO 3 [e3,e4]with
   | some (l2,t2,n2,st),some (l,s)=>some ((t2=t/\n2=n)/\t'=t/\n'=n/\(d=false->at'=5)/\l=s.xs.length/\l2=st.R.length,⟨d,⟨u,no,rounds,limit,at',found,sh,kd,ky,⟨p_now,p_code,p_okk,p_val,p_addr,p_old,p_nxt,p_mark,p_pops⟩,eN,bW,sub,⟨0,0,0,0⟩,⟨0,0,0,false⟩⟩,st,s⟩)
   | _,_=>none)
 | _,_=>none
def aE7(t n:Int)(v:AVal)(g:aB Ob):Option (Prop×HpO):=match v,g with
 | .bool d,[some (.cells [.ptr 1 0,.int .i64 u,.int .u64 no,.int .i64 rounds,.int .i64 limit,.int .i64 at',.int .u64 found,.int .i64 sh,.int .i64 kd,.int .i64 ky,.bool p_now,.int .i64 p_code,.bool p_okk,.int .i64 p_val,.int .i64 p_addr,.int .u64 p_old,.int .i64 p_nxt,.bool p_mark,.int .i64 p_pops,.O,.O,.O,.ptr 4 0,.O]),e1,e3,e4,some (.abs (.clear t' n' sub) []),e2]=>(match lZ 5 [e1,e2],cO 3 [e3,e4]with
   | some (l2,t2,n2,st),some (l,s)=>some ((t2=t/\n2=n)/\t'=t/\n'=n/\(d=false->at'=7)/\l=s.xs.length/\l2=st.R.length,⟨d,⟨u,no,rounds,limit,at',found,sh,kd,ky,⟨p_now,p_code,p_okk,p_val,p_addr,p_old,p_nxt,p_mark,p_pops⟩,eN,bW,bR,sub,⟨0,0,0,false⟩⟩,st,s⟩)
   | _,_=>none)
 | _,_=>none
def aE8(t n:Int)(v:AVal)(g:aB Ob):Option (Prop×HpO):=match v,g with
 | .bool d,[some (.cells [.ptr 1 0,.int .i64 u,.int .u64 no,.int .i64 rounds,.int .i64 limit,.int .i64 at',.int .u64 found,.int .i64 sh,.int .i64 kd,.int .i64 ky,.bool p_now,.int .i64 p_code,.bool p_okk,.int .i64 p_val,.int .i64 p_addr,.int .u64 p_old,.int .i64 p_nxt,.bool p_mark,.int .i64 p_pops,.O,.O,.O,.O,.ptr 4 0]),e1,e3,e4,some (.abs (.prepare t' n' sub) [1]),e2]=>(match lZ 5 [e1,e2],cO 3 [e3,e4]with
   | some (l2,t2,n2,st),some (l,s)=>some ((t2=t/\n2=n)/\t'=t/\n'=n/\(d=false->at'=8)/\l=s.xs.length/\l2=st.R.length,⟨d,⟨u,no,rounds,limit,at',found,sh,kd,ky,⟨p_now,p_code,p_okk,p_val,p_addr,p_old,p_nxt,p_mark,p_pops⟩,eN,bW,bR,⟨0,0,0,0⟩,sub⟩,st,s⟩)
   | _,_=>none)
 | _,_=>none
def NG(t n:Int)(v:AVal)(g:aB Ob):Option (Prop×HpO):=(match aE3 t n v g with
 | some r=>some r
 | none=>(match aE4 t n v g with
 | some r=>some r
 | none=>(match aE5 t n v g with
 | some r=>some r
 | none=>(match aE6 t n v g with
 | some r=>some r
 | none=>(match aE7 t n v g with
 | some r=>some r
 | none=>aE8 t n v g)))))
theorem aAr{t n:Int} :bP (obI tbl) 4 (aE3 t n) (HpO.fin t n):=by
 intro v g p x hp hq K hK;unfold aE3 at hp;split at hp
 case h_2=>cases hp
 rename_i d u no rounds limit at' found sh kd ky p_now p_code p_okk p_val p_addr p_old p_nxt p_mark p_pops e1 e3 e4 e2;split at hp
 case h_2=>cases hp
 rename_i l2 t2 n2 st l s hs hm;cases hp;obtain⟨⟨rfl,rfl⟩,ac,hl,aa⟩:=hq;cases bC hm hl;cases cB hs aa;refine fL hK (fun h=>?_) (fun hd h=>?_)
 ·exact tkP h (.store t2 n2 st) 1 0 (dP t2 n2 st) []
 ·exact w8 h (.store t2 n2 st) 1 0 (dP t2 n2 st) [] 0 [1] rfl (congrArg (Prod.mk 1) (kT (ac hd)))
theorem aAs{t n:Int} :bP (obI tbl) 4 (aE4 t n) (HpO.fin t n):=by
 intro v g p x hp hq K hK;unfold aE4 at hp;split at hp
 case h_2=>cases hp
 rename_i d u no rounds limit at' found sh kd ky p_now p_code p_okk p_val p_addr p_old p_nxt p_mark p_pops e1 e3 e4 t' n' sub e2;split at hp
 case h_2=>cases hp
 rename_i l2 t2 n2 st l s hs hm;cases hp;obtain⟨⟨rfl,rfl⟩,rfl,rfl,ac,hl,aa⟩:=hq;cases bC hm hl;cases cB hs aa;refine fL hK (fun h=>?_) (fun hd h=>?_)
 ·exact FE h [19,20,21,22,23] [0,1,2,3,5] (.store t' n' st) 1 0 (dP t' n' st) []
 ·exact w8 h (.store t' n' st) 1 0 (dP t' n' st) [] 0 [1] rfl (congrArg (Prod.mk 1) (J4 (ac hd)))
theorem aAt{t n:Int} :bP (obI tbl) 4 (aE5 t n) (HpO.fin t n):=by
 intro v g p x hp hq K hK;unfold aE5 at hp;split at hp
 case h_2=>cases hp
 rename_i d u no rounds limit at' found sh kd ky p_now p_code p_okk p_val p_addr p_old p_nxt p_mark p_pops e1 e3 e4 t' n' sub e2;split at hp
 case h_2=>cases hp
 rename_i l2 t2 n2 st l s hs hm;cases hp;obtain⟨⟨rfl,rfl⟩,rfl,rfl,ac,hl,aa⟩:=hq;cases bC hm hl;cases cB hs aa;refine fL hK (fun h=>?_) (fun hd h=>?_)
 ·exact FE h [19,20,21,22,23] [0,1,2,3,5] (.store t' n' st) 1 0 (dP t' n' st) []
 ·exact w8 h (.store t' n' st) 1 0 (dP t' n' st) [] 0 [1] rfl (congrArg (Prod.mk 1) (J5 (ac hd)))
theorem aAu{t n:Int} :bP (obI tbl) 4 (aE6 t n) (HpO.fin t n):=by
 intro v g p x hp hq K hK;unfold aE6 at hp;split at hp
 case h_2=>cases hp
 rename_i d u no rounds limit at' found sh kd ky p_now p_code p_okk p_val p_addr p_old p_nxt p_mark p_pops e1 e3 e4 t' n' sub e2;split at hp
 case h_2=>cases hp
 rename_i l2 t2 n2 st l s hs hm;cases hp;obtain⟨⟨rfl,rfl⟩,rfl,rfl,ac,hl,aa⟩:=hq;cases bC hm hl;cases cB hs aa;refine fL hK (fun h=>?_) (fun hd h=>?_)
 ·exact FE h [19,20,21,22,23] [0,1,2,3,5] (.store t' n' st) 1 0 (dP t' n' st) []
 ·exact w8 h (.store t' n' st) 1 0 (dP t' n' st) [] 0 [1] rfl (congrArg (Prod.mk 1) (J6 (ac hd)))
theorem aAv{t n:Int} :bP (obI tbl) 4 (aE7 t n) (HpO.fin t n):=by
 intro v g p x hp hq K hK;unfold aE7 at hp;split at hp
 case h_2=>cases hp
 rename_i d u no rounds limit at' found sh kd ky p_now p_code p_okk p_val p_addr p_old p_nxt p_mark p_pops e1 e3 e4 t' n' sub e2;split at hp
 case h_2=>cases hp
 rename_i l2 t2 n2 st l s hs hm;cases hp;obtain⟨⟨rfl,rfl⟩,rfl,rfl,ac,hl,aa⟩:=hq;cases bC hm hl;cases cB hs aa;refine fL hK (fun h=>?_) (fun hd h=>?_)
 ·exact FE h [19,20,21,22,23] [0,1,2,3,5] (.store t' n' st) 1 0 (dP t' n' st) []
 ·exact w8 h (.store t' n' st) 1 0 (dP t' n' st) [] 0 [1] rfl (congrArg (Prod.mk 1) (J7 (ac hd)))
theorem aAw{t n:Int} :bP (obI tbl) 4 (aE8 t n) (HpO.fin t n):=by
 intro v g p x hp hq K hK;unfold aE8 at hp;split at hp
 case h_2=>cases hp
 rename_i d u no rounds limit at' found sh kd ky p_now p_code p_okk p_val p_addr p_old p_nxt p_mark p_pops e1 e3 e4 t' n' sub e2;split at hp
 case h_2=>cases hp
 rename_i l2 t2 n2 st l s hs hm;cases hp;obtain⟨⟨rfl,rfl⟩,rfl,rfl,ac,hl,aa⟩:=hq;cases bC hm hl;cases cB hs aa;refine fL hK (fun h=>?_) (fun hd h=>?_)
 ·exact FE h [19,20,21,22,23] [0,1,2,3,5] (.store t' n' st) 1 0 (dP t' n' st) []
 ·exact w8 h (.store t' n' st) 1 0 (dP t' n' st) [] 0 [1] rfl (congrArg (Prod.mk 1) (J8 (ac hd)))
theorem lY{t n:Int} :bP (obI tbl) 4 (NG t n) (HpO.fin t n):=by
 intro v g p x hp hq K hK;unfold NG at hp;split at hp
 ·rename_i r hr;cases hp;exact aAr v g p x hr hq K hK
 split at hp
 ·rename_i r hr;cases hp;exact aAs v g p x hr hq K hK
 split at hp
 ·rename_i r hr;cases hp;exact aAt v g p x hr hq K hK
 split at hp
 ·rename_i r hr;cases hp;exact aAu v g p x hr hq K hK
 split at hp
 ·rename_i r hr;cases hp;exact aAv v g p x hr hq K hK
 exact aAw v g p x hp hq K hK
abbrev w1w(n t:Int)(x:HPS):=(((0:Int)<=t/\t<=(100000:Int))/\((0:Int)<=n/\n<=(100000:Int))/\(-1099511627776:Int)<=x.1/\x.1<=(1099511627776:Int))/\True
def DK(t n:Int)(x:HPS)(st:STS)(s:MS):Tr HpO:=.pre (w1w n t x) (.pre ((q9' s)/\True) (.pre True (.pre True (.pre ((t=t/\n=n)/\((!oC (aC (aF s.3 (2*n+5+2*t+3*x.1+2)) 49 3))=false->(1:Int)≠(3:Int)/\(1:Int)≠(4:Int)/\(1:Int)≠(5:Int)/\(1:Int)≠(7:Int)/\(1:Int)≠(8:Int))/\lE' s.3/\lE' st.3) (.ret {d:=!oC (aC (aF s.3 (2*n+5+2*t+3*x.1+2)) 49 3),x:= {x with rounds:=W (x.3+1),at':=1,found:=aF s.3 (2*n+5+2*t+3*x.1+2),ex:=eN,en:=bW,fn:=bR,cl:=bZ,pr:=dJ},st:=st,s:=(dY s (2*n+5+2*t+3*x.1+2)) })))))
abbrev xL(F:Int->Int->HPS->STS->MS->Tr HpO)(a:Int)(l:List AVal)(e:Int->Int->HPS->STS->MS->aB Ob):Prop:= ∀(t n:Int) (x:HPS) (st:STS) (s:MS) (K:HpO->Prop) (h:(F t n x st s).run K),cT' 152 [.ptr 0 0,.ptr 2 0] ([some (.cells ([.ptr 1 0,.I x.u,.int .u64 x.no,.I x.rounds,.I x.limit,.I a,.int .u64 x.found,.I x.sh,.I x.kd,.I x.ky,.bool x.p.now,.I x.p.code,.bool x.p.okk,.I x.p.val,.I x.p.addr,.int .u64 x.p.old,.I x.p.nxt,.bool x.p.mark,.I x.p.pops]++l))]++e t n x st s++ [oV st]) (eU 4 0 [19,20,21,22,23] [(.cell 1 4,.ints (some .i64))] (NG t n) K)
theorem NH:xL DK 0 [.O,.O,.O,.O,.O] (fun t n x st s=>[lD 4 t n st,bF 3 s,bG s]):=by
 intro t n x st s K h;exact cM' (E:=EH0) (by kernel_rfl) h
def DL(t n:Int)(x:HPS)(st:STS)(s:MS):Tr HpO:=.pre (w1w n t x) (.pre ((q9' s)/\True) (.pre ((t=t/\n=n)/\((!ieq (aF s.3 (2*n+5+2*t+3*x.1)) x.2)=false->(2:Int)≠(3:Int)/\(2:Int)≠(4:Int)/\(2:Int)≠(5:Int)/\(2:Int)≠(7:Int)/\(2:Int)≠(8:Int))/\lE' s.3/\lE' st.3) (.ret {d:=!ieq (aF s.3 (2*n+5+2*t+3*x.1)) x.2,x:= {x with at':=2,ex:=eN,en:=bW,fn:=bR,cl:=bZ,pr:=dJ},st:=st,s:=(dY s (2*n+5+2*t+3*x.1)) })))
theorem NI:xL DL 1 [.O,.O,.O,.O,.O] (fun t n x st s=>[lD 4 t n st,bF 3 s,bG s]):=by
 intro t n x st s K h;exact cM' (E:=EH0) (by kernel_rfl) h
abbrev w1s(n:Int)(s:MS)(t:Int)(x:HPS):=aF s.3 (2*n+5+2*t+3*x.1+1)
abbrev w1z:=false=false->(5:Int)=(5:Int)
def DM(t n:Int)(x:HPS)(st:STS)(s:MS):Tr HpO:=.pre (w1w n t x) (.pre ((q9' s)/\True) (.pre ((0:Int)<=aF s.3 (2*n+5+2*t+3*x.1+1)/\aF s.3 (2*n+5+2*t+3*x.1+1)<=(18446744073709551615:Int)) (.ite (!ieq (bif jG (w1s n s t x)then 0 else 3) 0) (.pre ((t=t/\n=n)/\(true=false->(2:Int)≠(3:Int)/\(2:Int)≠(4:Int)/\(2:Int)≠(5:Int)/\(2:Int)≠(7:Int)/\(2:Int)≠(8:Int))/\lE' s.3/\lE' st.3) (.ret {d:=true,x:= {x with at':=2,sh:=bif jG (w1s n s t x)then aC (w1s n s t x) 0 3 else 0,kd:=bif jG (w1s n s t x)then aC (w1s n s t x) 3 3 else 0,ky:=bif jG (w1s n s t x)then aC (w1s n s t x) 6 10 else 0,ex:=eN,en:=bW,fn:=bR,cl:=bZ,pr:=dJ},st:=st,s:=(dY s (2*n+5+2*t+3*x.1+1)) })) (.pre True (.ite (!hasB [1] (aC x.6 49 3)) (.pre True (.pre (RX t n x.1 (bif jG (w1s n s t x)then aC (w1s n s t x) 0 3 else 0) (bif jG (w1s n s t x)then aC (w1s n s t x) 3 3 else 0) (bif jG (w1s n s t x)then aC (w1s n s t x) 6 10 else 0) (aC x.6 0 12)/\True) (.pre ((t=t/\n=n)/\t=t/\n=n/\(false=false->(3:Int)=(3:Int))/\lE' s.3/\lE' st.3) (.ret {d:=false,x:= {x with at':=3,sh:=bif jG (w1s n s t x)then aC (w1s n s t x) 0 3 else 0,kd:=bif jG (w1s n s t x)then aC (w1s n s t x) 3 3 else 0,ky:=bif jG (w1s n s t x)then aC (w1s n s t x) 6 10 else 0,ex:=aD9 t n x.1 (bif jG (w1s n s t x)then aC (w1s n s t x) 0 3 else 0) (bif jG (w1s n s t x)then aC (w1s n s t x) 3 3 else 0) (bif jG (w1s n s t x)then aC (w1s n s t x) 6 10 else 0) (aC x.6 0 12),en:=bW,fn:=bR,cl:=bZ,pr:=dJ},st:=st,s:=(dY s (2*n+5+2*t+3*x.1+1)) })))) (.pre True (.ite (f5 (bif jG (w1s n s t x)then aC (w1s n s t x) 3 3 else 0)) (.ite (ieq st.2 0) (.pre (lE' st.3/\(t=t/\n=n/\lE' st.3)/\True) (.pre ((t=t/\n=n)/\t=t/\n=n/\(false=false->(4:Int)=(4:Int))/\lE' s.3/\lE' st.3) (.ret {d:=false,x:= {x with at':=4,sh:=bif jG (w1s n s t x)then aC (w1s n s t x) 0 3 else 0,kd:=bif jG (w1s n s t x)then aC (w1s n s t x) 3 3 else 0,ky:=bif jG (w1s n s t x)then aC (w1s n s t x) 6 10 else 0,ex:=eN,en:=bW,fn:=bR,cl:=bZ,pr:=dJ},st:=st,s:=(dY s (2*n+5+2*t+3*x.1+1)) }))) (.pre True (.pre (pD t n st.1 (fI (bif jG (w1s n s t x)then aC (w1s n s t x) 0 3 else 0) (bif jG (w1s n s t x)then aC (w1s n s t x) 6 10 else 0)) (mV (bif jG (w1s n s t x)then aC (w1s n s t x) 0 3 else 0) (bif jG (w1s n s t x)then aC (w1s n s t x) 3 3 else 0) (bif jG (w1s n s t x)then aC (w1s n s t x) 6 10 else 0)) x.4/\True) (.pre ((t=t/\n=n)/\t=t/\n=n/\w1z/\lE' s.3/\lE' st.3) (.ret {d:=false,x:= {x with at':=5,sh:=bif jG (w1s n s t x)then aC (w1s n s t x) 0 3 else 0,kd:=bif jG (w1s n s t x)then aC (w1s n s t x) 3 3 else 0,ky:=bif jG (w1s n s t x)then aC (w1s n s t x) 6 10 else 0,ex:=eN,en:=bW,fn:=vP t n st.1 (fI (bif jG (w1s n s t x)then aC (w1s n s t x) 0 3 else 0) (bif jG (w1s n s t x)then aC (w1s n s t x) 6 10 else 0)) (mV (bif jG (w1s n s t x)then aC (w1s n s t x) 0 3 else 0) (bif jG (w1s n s t x)then aC (w1s n s t x) 3 3 else 0) (bif jG (w1s n s t x)then aC (w1s n s t x) 6 10 else 0)) x.4,cl:=bZ,pr:=dJ},st:=st,s:=(dY s (2*n+5+2*t+3*x.1+1)) }))))) (.pre True (.pre (pD t n st.1 (fI (bif jG (w1s n s t x)then aC (w1s n s t x) 0 3 else 0) (bif jG (w1s n s t x)then aC (w1s n s t x) 6 10 else 0)) (mV (bif jG (w1s n s t x)then aC (w1s n s t x) 0 3 else 0) (bif jG (w1s n s t x)then aC (w1s n s t x) 3 3 else 0) (bif jG (w1s n s t x)then aC (w1s n s t x) 6 10 else 0)) x.4/\True) (.pre ((t=t/\n=n)/\t=t/\n=n/\w1z/\lE' s.3/\lE' st.3) (.ret {d:=false,x:= {x with at':=5,sh:=bif jG (w1s n s t x)then aC (w1s n s t x) 0 3 else 0,kd:=bif jG (w1s n s t x)then aC (w1s n s t x) 3 3 else 0,ky:=bif jG (w1s n s t x)then aC (w1s n s t x) 6 10 else 0,ex:=eN,en:=bW,fn:=vP t n st.1 (fI (bif jG (w1s n s t x)then aC (w1s n s t x) 0 3 else 0) (bif jG (w1s n s t x)then aC (w1s n s t x) 6 10 else 0)) (mV (bif jG (w1s n s t x)then aC (w1s n s t x) 0 3 else 0) (bif jG (w1s n s t x)then aC (w1s n s t x) 3 3 else 0) (bif jG (w1s n s t x)then aC (w1s n s t x) 6 10 else 0)) x.4,cl:=bZ,pr:=dJ},st:=st,s:=(dY s (2*n+5+2*t+3*x.1+1)) })))))))))))
theorem NJ:xL DM 2 [.O,.O,.O,.O,.O] (fun t n x st s=>[lD 4 t n st,bF 3 s,bG s]):=by
 intro t n x st s K h;exact cM' (E:=EH0) (by kernel_rfl) h
abbrev w1t:=false=false->(0:Int)≠(3:Int)/\(0:Int)≠(4:Int)/\(0:Int)≠(5:Int)/\(0:Int)≠(7:Int)/\(0:Int)≠(8:Int)
def DN(t n:Int)(x:HPS)(st:STS)(s:MS):Tr HpO:=.pre (lE' s.3/\aEd t n x.11 s) (.ite (CQ t n x.11 s).1 (.ite (!ieq (ExO.x (CQ t n x.11 s)).1 0) (.pre (lE' st.3/\1=1/\st.3.length+(1:Nat)<=(4294967296:Nat)) (.pre ((t=t/\n=n)/\w1t/\lE' (ExO.s (CQ t n x.11 s)).3/\st.3.length+(1:Nat)=List.length (st.3++ [(ExO.x (CQ t n x.11 s)).1])) (.ret {d:=false,x:= {x with at':=0,ex:=eN,en:=bW,fn:=bR,cl:=bZ,pr:=dJ},st:= {me:=st.1,sp:=st.2,R:=st.3++ [(ExO.x (CQ t n x.11 s)).1] },s:=(CQ t n x.11 s).3}))) (.pre ((t=t/\n=n)/\w1t/\lE' (ExO.s (CQ t n x.11 s)).3/\lE' st.3) (.ret {d:=false,x:= {x with at':=0,ex:=eN,en:=bW,fn:=bR,cl:=bZ,pr:=dJ},st:=st,s:=(CQ t n x.11 s).3}))) (.pre ((t=t/\n=n)/\t=t/\n=n/\(false=false->(3:Int)=(3:Int))/\lE' (ExO.s (CQ t n x.11 s)).3/\lE' st.3) (.ret {d:=false,x:= {x with at':=3,ex:=(CQ t n x.11 s).2,en:=bW,fn:=bR,cl:=bZ,pr:=dJ},st:=st,s:=(CQ t n x.11 s).3})))
theorem NK:xL DN 3 [.ptr 4 0,.O,.O,.O,.O] (fun t n x st s=>[lD 5 t n st,bF 3 s,bG s,some (.abs (.exec t n x.ex) [])]):=by
 intro t n x st s K h;exact cM' (E:=EH0) (by kernel_rfl) h
abbrev w1x:=false=false->(6:Int)≠(3:Int)/\(6:Int)≠(4:Int)/\(6:Int)≠(5:Int)/\(6:Int)≠(7:Int)/\(6:Int)≠(8:Int)
def DO(t n:Int)(x:HPS)(st:STS)(s:MS):Tr HpO:=.pre ((lE' s.3/\lE' st.3/\t=t/\n=n)/\PI t n (HPS.en x) st s) (.ite (enF t n x.12 st s).1 (.ite (EO.e (enF t n x.12 st s)).2 (.pre ((t=t/\n=n)/\w1x/\lE' (EO.s (enF t n x.12 st s)).3/\lE' (EO.st (enF t n x.12 st s)).3) (.ret {d:=false,x:= {x with at':=6,p:= {now:=true,code:=4,okk:=false,val:=0,addr:=0,old:=0,nxt:=0,mark:=false,pops:=0},ex:=eN,en:=bW,fn:=bR,cl:=bZ,pr:=dJ},st:=(enF t n x.12 st s).3,s:=(enF t n x.12 st s).4})) (.pre True (.pre (pD t n (EO.st (enF t n x.12 st s)).1 (fI x.7 x.9) (mV x.7 x.8 x.9) x.4/\True) (.pre ((t=t/\n=n)/\t=t/\n=n/\w1z/\lE' (EO.s (enF t n x.12 st s)).3/\lE' (EO.st (enF t n x.12 st s)).3) (.ret {d:=false,x:= {x with at':=5,ex:=eN,en:=bW,fn:=vP t n (EO.st (enF t n x.12 st s)).1 (fI x.7 x.9) (mV x.7 x.8 x.9) x.4,cl:=bZ,pr:=dJ},st:=(enF t n x.12 st s).3,s:=(enF t n x.12 st s).4}))))) (.pre ((t=t/\n=n)/\t=t/\n=n/\(false=false->(4:Int)=(4:Int))/\lE' (EO.s (enF t n x.12 st s)).3/\lE' (EO.st (enF t n x.12 st s)).3) (.ret {d:=false,x:= {x with at':=4,ex:=eN,en:=(enF t n x.12 st s).2,fn:=bR,cl:=bZ,pr:=dJ},st:=(enF t n x.12 st s).3,s:=(enF t n x.12 st s).4})))
theorem NL:xL DO 4 [.O,.ptr 4 0,.O,.O,.O] (fun t n x st s=>[lD 5 t n st,bF 3 s,bG s,some (.abs (.ensure t n x.en) [1])]):=by
 intro t n x st s K h;exact cM' (E:=EH0) (by kernel_rfl) h
abbrev w1v(n:Int)(s:MS)(t:Int)(x:HPS):=FnO.x (aM t n x.13 s)
abbrev w1r(n:Int)(s:MS)(st:STS)(t:Int)(x:HPS):=bJ x.7 x.8 x.9 (w1v n s t x).1 (w1v n s t x).2 (w1v n s t x).3 (w1v n s t x).4 st.2
abbrev w1y:=false=false->(9:Int)≠(3:Int)/\(9:Int)≠(4:Int)/\(9:Int)≠(5:Int)/\(9:Int)≠(7:Int)/\(9:Int)≠(8:Int)
def DP(t n:Int)(x:HPS)(st:STS)(s:MS):Tr HpO:=.pre (lE' s.3/\MO t n x.13 s) (.ite (aM t n x.13 s).1 (.pre ((lE' st.3/\lE' (w1v n s t x).6/\st.3.length+List.length (w1v n s t x).6<=(4294967296:Nat))/\True) (.pre (wN x.7 x.8 x.9 (w1v n s t x).1 (w1v n s t x).2 (w1v n s t x).3 (w1v n s t x).4 st.2/\True) (.ite (w1v n s t x).7 (.pre ((t=t/\n=n)/\w1t/\lE' (FnO.s (aM t n x.13 s)).3/\st.3.length+List.length (w1v n s t x).6=List.length (st.3++(w1v n s t x).6)) (.ret {d:=false,x:= {x with at':=0,p:=bJ x.7 x.8 x.9 (w1v n s t x).1 (w1v n s t x).2 (w1v n s t x).3 (w1v n s t x).4 st.2,ex:=eN,en:=bW,fn:=bR,cl:=bZ,pr:=dJ},st:= {me:=st.1,sp:=st.2,R:=st.3++(w1v n s t x).6},s:=(aM t n x.13 s).3})) (.ite (w1r n s st t x).1 (.pre ((t=t/\n=n)/\w1x/\lE' (FnO.s (aM t n x.13 s)).3/\st.3.length+List.length (w1v n s t x).6=List.length (st.3++(w1v n s t x).6)) (.ret {d:=false,x:= {x with at':=6,p:=bJ x.7 x.8 x.9 (w1v n s t x).1 (w1v n s t x).2 (w1v n s t x).3 (w1v n s t x).4 st.2,ex:=eN,en:=bW,fn:=bR,cl:=bZ,pr:=dJ},st:= {me:=st.1,sp:=st.2,R:=st.3++(w1v n s t x).6},s:=(aM t n x.13 s).3})) (.pre (oT (w1r n s st t x).1 (w1r n s st t x).2 (w1r n s st t x).3 (w1r n s st t x).4 (w1r n s st t x).5 (w1r n s st t x).6 (w1r n s st t x).7 (w1r n s st t x).8 (w1r n s st t x).9) (.ite (AQ (w1r n s st t x).1 (w1r n s st t x).2 (w1r n s st t x).3 (w1r n s st t x).4 (w1r n s st t x).5 (w1r n s st t x).6 (w1r n s st t x).7 (w1r n s st t x).8 (w1r n s st t x).9) (.pre (qQ t n (w1r n s st t x).5/\True) (.pre ((t=t/\n=n)/\t=t/\n=n/\(false=false->(7:Int)=(7:Int))/\lE' (FnO.s (aM t n x.13 s)).3/\st.3.length+List.length (w1v n s t x).6=List.length (st.3++(w1v n s t x).6)) (.ret {d:=false,x:= {x with at':=7,p:=bJ x.7 x.8 x.9 (w1v n s t x).1 (w1v n s t x).2 (w1v n s t x).3 (w1v n s t x).4 st.2,ex:=eN,en:=bW,fn:=bR,cl:=zP t n (w1r n s st t x).5,pr:=dJ},st:= {me:=st.1,sp:=st.2,R:=st.3++(w1v n s t x).6},s:=(aM t n x.13 s).3}))) (.pre True (.ite (f5 x.8) (.pre ((st.3.length+List.length (w1v n s t x).6=List.length (st.3++(w1v n s t x).6)/\EN t n x.9 (w1v n s t x).3 {me:=st.1,sp:=st.2,R:=st.3++(w1v n s t x).6})/\True) (.pre ((t=t/\n=n)/\t=t/\n=n/\(false=false->(8:Int)=(8:Int))/\lE' (FnO.s (aM t n x.13 s)).3/\lE' (Prod.snd (rN t n x.9 (w1v n s t x).3 {me:=st.1,sp:=st.2,R:=st.3++(w1v n s t x).6})).3) (.ret {d:=false,x:= {x with at':=8,p:=bJ x.7 x.8 x.9 (w1v n s t x).1 (w1v n s t x).2 (w1v n s t x).3 (w1v n s t x).4 st.2,ex:=eN,en:=bW,fn:=bR,cl:=bZ,pr:=(rN t n x.9 (w1v n s t x).3 {me:=st.1,sp:=st.2,R:=st.3++(w1v n s t x).6}).1},st:=(rN t n x.9 (w1v n s t x).3 {me:=st.1,sp:=st.2,R:=st.3++(w1v n s t x).6}).2,s:=(aM t n x.13 s).3}))) (.pre ((t=t/\n=n)/\w1y/\lE' (FnO.s (aM t n x.13 s)).3/\st.3.length+List.length (w1v n s t x).6=List.length (st.3++(w1v n s t x).6)) (.ret {d:=false,x:= {x with at':=9,p:=bJ x.7 x.8 x.9 (w1v n s t x).1 (w1v n s t x).2 (w1v n s t x).3 (w1v n s t x).4 st.2,ex:=eN,en:=bW,fn:=bR,cl:=bZ,pr:=dJ},st:= {me:=st.1,sp:=st.2,R:=st.3++(w1v n s t x).6},s:=(aM t n x.13 s).3})))))))))) (.pre ((t=t/\n=n)/\t=t/\n=n/\w1z/\lE' (FnO.s (aM t n x.13 s)).3/\lE' st.3) (.ret {d:=false,x:= {x with at':=5,ex:=eN,en:=bW,fn:=(aM t n x.13 s).2,cl:=bZ,pr:=dJ},st:=st,s:=(aM t n x.13 s).3})))
theorem NM:xL DP 5 [.O,.O,.ptr 4 0,.O,.O] (fun t n x st s=>[lD 5 t n st,bF 3 s,bG s,some (.abs (.find t n x.fn) [])]):=by
 intro t n x st s K h;exact cM' (E:=EH0) (by kernel_rfl) h
def DQ(t n:Int)(x:HPS)(st:STS)(s:MS):Tr HpO:=.pre True (.pre True (.pre True (.pre (w1w n t x) (.pre ((q9' s)/\True) (.pre ((t=t/\n=n)/\w1t/\lE' (bif bE s.3 (2*n+5+2*t+3*x.1+2) x.6 then aZ s.3 (2*n+5+2*t+3*x.1+2) (bif dOk (aC x.6 0 12) 0 0 (bif ieq (HPS.p x).2 4 then 1 else 0) 5 (HPS.p x).4 then cW (aC x.6 0 12) 0 0 (bif ieq (HPS.p x).2 4 then 1 else 0) (HPS.p x).3 5 (HPS.p x).4 else 0)else s.3)/\lE' st.3) (.ret {d:=false,x:= {x with at':=0,ex:=eN,en:=bW,fn:=bR,cl:=bZ,pr:=dJ},st:=st,s:=(qK s (2*n+5+2*t+3*x.1+2) x.6 (bif dOk (aC x.6 0 12) 0 0 (bif ieq (HPS.p x).2 4 then 1 else 0) 5 (HPS.p x).4 then cW (aC x.6 0 12) 0 0 (bif ieq (HPS.p x).2 4 then 1 else 0) (HPS.p x).3 5 (HPS.p x).4 else 0)) }))))))
theorem NN:xL DQ 6 [.O,.O,.O,.O,.O] (fun t n x st s=>[lD 4 t n st,bF 3 s,bG s]):=by
 intro t n x st s K h;exact cM' (E:=EH0) (by kernel_rfl) h
def DR(t n:Int)(x:HPS)(st:STS)(s:MS):Tr HpO:=.pre (lE' s.3/\QM t n x.14 s) (.ite (pA t n x.14 s).1 (.pre ((t=t/\n=n)/\w1t/\lE' (ClO.s (pA t n x.14 s)).3/\lE' st.3) (.ret {d:=false,x:= {x with at':=0,ex:=eN,en:=bW,fn:=bR,cl:=bZ,pr:=dJ},st:=st,s:=(pA t n x.14 s).3})) (.pre ((t=t/\n=n)/\t=t/\n=n/\(false=false->(7:Int)=(7:Int))/\lE' (ClO.s (pA t n x.14 s)).3/\lE' st.3) (.ret {d:=false,x:= {x with at':=7,ex:=eN,en:=bW,fn:=bR,cl:=(pA t n x.14 s).2,pr:=dJ},st:=st,s:=(pA t n x.14 s).3})))
theorem NO:xL DR 7 [.O,.O,.O,.ptr 4 0,.O] (fun t n x st s=>[lD 5 t n st,bF 3 s,bG s,some (.abs (.clear t n x.cl) [])]):=by
 intro t n x st s K h;exact cM' (E:=EH0) (by kernel_rfl) h
def DS(t n:Int)(x:HPS)(st:STS)(s:MS):Tr HpO:=.pre ((lE' s.3/\lE' st.3/\t=t/\n=n)/\aAV t n x.15 st s) (.ite (prF t n x.15 st s).1 (.pre ((t=t/\n=n)/\w1y/\lE' (PrO.s (prF t n x.15 st s)).3/\lE' (PrO.st (prF t n x.15 st s)).3) (.ret {d:=false,x:= {x with at':=9,ex:=eN,en:=bW,fn:=bR,cl:=bZ,pr:=dJ},st:=(prF t n x.15 st s).3,s:=(prF t n x.15 st s).4})) (.pre ((t=t/\n=n)/\t=t/\n=n/\(false=false->(8:Int)=(8:Int))/\lE' (PrO.s (prF t n x.15 st s)).3/\lE' (PrO.st (prF t n x.15 st s)).3) (.ret {d:=false,x:= {x with at':=8,ex:=eN,en:=bW,fn:=bR,cl:=bZ,pr:=(prF t n x.15 st s).2},st:=(prF t n x.15 st s).3,s:=(prF t n x.15 st s).4})))
theorem NP:xL DS 8 [.O,.O,.O,.O,.ptr 4 0] (fun t n x st s=>[lD 5 t n st,bF 3 s,bG s,some (.abs (.prepare t n x.pr) [1])]):=by
 intro t n x st s K h;exact cM' (E:=EH0) (by kernel_rfl) h
abbrev w1u(x:HPS):=kZ (HPS.p x).1 (HPS.p x).2 (HPS.p x).3 (HPS.p x).4 (HPS.p x).5 (HPS.p x).6 (HPS.p x).7 (HPS.p x).8 (HPS.p x).9 (aC x.6 0 12)
def DT(t n:Int)(x:HPS)(st:STS)(s:MS):Tr HpO:=.pre True (.pre (AR (HPS.p x).1 (HPS.p x).2 (HPS.p x).3 (HPS.p x).4 (HPS.p x).5 (HPS.p x).6 (HPS.p x).7 (HPS.p x).8 (HPS.p x).9 (aC x.6 0 12)/\True) (.pre (w1w n t x) (.pre ((q9' s)/\True) (.ite (bE s.3 (2*n+5+2*t+3*x.1+2) x.6) (.pre True (.ite (f5 x.8) (.pre ((t=t/\n=n)/\w1t/\lE' (bif bE s.3 (2*n+5+2*t+3*x.1+2) x.6 then aZ s.3 (2*n+5+2*t+3*x.1+2) (w1u x).1 else s.3)/\lE' st.3) (.ret {d:=false,x:= {x with at':=0,ex:=eN,en:=bW,fn:=bR,cl:=bZ,pr:=dJ},st:= {me:=st.1,sp:=0,R:=st.3},s:=(qK s (2*n+5+2*t+3*x.1+2) x.6 ((w1u x).1)) })) (.pre ((t=t/\n=n)/\w1t/\lE' (bif bE s.3 (2*n+5+2*t+3*x.1+2) x.6 then aZ s.3 (2*n+5+2*t+3*x.1+2) (w1u x).1 else s.3)/\lE' st.3) (.ret {d:=false,x:= {x with at':=0,ex:=eN,en:=bW,fn:=bR,cl:=bZ,pr:=dJ},st:=st,s:=(qK s (2*n+5+2*t+3*x.1+2) x.6 ((w1u x).1)) })))) (.pre ((t=t/\n=n)/\w1t/\lE' (bif bE s.3 (2*n+5+2*t+3*x.1+2) x.6 then aZ s.3 (2*n+5+2*t+3*x.1+2) (w1u x).1 else s.3)/\lE' st.3) (.ret {d:=false,x:= {x with at':=0,ex:=eN,en:=bW,fn:=bR,cl:=bZ,pr:=dJ},st:=st,s:=(qK s (2*n+5+2*t+3*x.1+2) x.6 ((w1u x).1)) }))))))
theorem NQ:xL DT 9 [.O,.O,.O,.O,.O] (fun t n x st s=>[lD 4 t n st,bF 3 s,bG s]):=by
 intro t n x st s K h;exact cM' (E:=EH0) (by kernel_rfl) h
def hpT(t n:Int)(x:HPS)(st:STS)(s:MS):Tr HpO:=
 bif ieq x.at' 0 then DK t n x st s else
 bif ieq x.at' 1 then DL t n x st s else
 bif ieq x.at' 2 then DM t n x st s else
 bif ieq x.at' 3 then DN t n x st s else
 bif ieq x.at' 4 then DO t n x st s else
 bif ieq x.at' 5 then DP t n x st s else
 bif ieq x.at' 6 then DQ t n x st s else
 bif ieq x.at' 7 then DR t n x st s else
 bif ieq x.at' 8 then DS t n x st s else
 bif ieq x.at' 9 then DT t n x st s else .pre False (.ret default)
def gY(t n:Int)(x:HPS)(st:STS)(s:MS):HpO:=(hpT t n x st s).val
def aAq(t n:Int)(x:HPS)(st:STS)(s:MS):Prop:=(hpT t n x st s).ok
theorem aAy(t n:Int)(x:HPS)(st:STS)(s:MS)(K:AVal->aB Ob->Prop)(h:(hpT t n x st s).run (fun y=>(HpO.fin t n y).run K)):cT' 152 [.ptr 0 0,.ptr 2 0] (hpH t n x st s) K:=by
 unfold hpT at h
 by_cases e:x.at'=0
 ·rw [e]at h;have h:(DK t n x st s).run _:=h;refine aK9 (root:=0) (pos:=[19,20,21,22,23]) (cs:=[(.cell 1 4,.ints (some .i64))]) (parse:=NG t n) (fin:=HpO.fin t n) lY ((aR.unpack (.help t n x) 0 1 (nW t n x) [1] rfl (congrArg (Prod.mk 1) (kT ⟨(by omega),(by omega),(by omega),(by omega),(by omega)⟩)) (by kernel_rfl) rfl).trans (aR.unpack (.store t n st) 1 0 (dP t n st) [] rfl rfl rfl rfl)) ?_
  have q:=NH t n x st s _ h;rw [<-e]at q;exact q
 rw [bI e]at h
 by_cases e:x.at'=1
 ·rw [e]at h;have h:(DL t n x st s).run _:=h;refine aK9 (root:=0) (pos:=[19,20,21,22,23]) (cs:=[(.cell 1 4,.ints (some .i64))]) (parse:=NG t n) (fin:=HpO.fin t n) lY ((aR.unpack (.help t n x) 0 1 (nW t n x) [1] rfl (congrArg (Prod.mk 1) (kT ⟨(by omega),(by omega),(by omega),(by omega),(by omega)⟩)) (by kernel_rfl) rfl).trans (aR.unpack (.store t n st) 1 0 (dP t n st) [] rfl rfl rfl rfl)) ?_
  have q:=NI t n x st s _ h;rw [<-e]at q;exact q
 rw [bI e]at h
 by_cases e:x.at'=2
 ·rw [e]at h;have h:(DM t n x st s).run _:=h;refine aK9 (root:=0) (pos:=[19,20,21,22,23]) (cs:=[(.cell 1 4,.ints (some .i64))]) (parse:=NG t n) (fin:=HpO.fin t n) lY ((aR.unpack (.help t n x) 0 1 (nW t n x) [1] rfl (congrArg (Prod.mk 1) (kT ⟨(by omega),(by omega),(by omega),(by omega),(by omega)⟩)) (by kernel_rfl) rfl).trans (aR.unpack (.store t n st) 1 0 (dP t n st) [] rfl rfl rfl rfl)) ?_
  have q:=NJ t n x st s _ h;rw [<-e]at q;exact q
 rw [bI e]at h
 by_cases e:x.at'=3
 ·rw [e]at h;have h:(DN t n x st s).run _:=h;refine aK9 (root:=0) (pos:=[19,20,21,22,23]) (cs:=[(.cell 1 4,.ints (some .i64))]) (parse:=NG t n) (fin:=HpO.fin t n) lY ((aR.unpack (.help t n x) 0 1 (vW t n x) [1] rfl (congrArg (Prod.mk 1) (J4 e)) (by kernel_rfl) rfl).trans (aR.unpack (.store t n st) 1 0 (dP t n st) [] rfl rfl rfl rfl)) ?_
  have q:=NK t n x st s _ h;rw [<-e]at q;exact q
 rw [bI e]at h
 by_cases e:x.at'=4
 ·rw [e]at h;have h:(DO t n x st s).run _:=h;refine aK9 (root:=0) (pos:=[19,20,21,22,23]) (cs:=[(.cell 1 4,.ints (some .i64))]) (parse:=NG t n) (fin:=HpO.fin t n) lY ((aR.unpack (.help t n x) 0 1 (vV t n x) [1] rfl (congrArg (Prod.mk 1) (J5 e)) (by kernel_rfl) rfl).trans (aR.unpack (.store t n st) 1 0 (dP t n st) [] rfl rfl rfl rfl)) ?_
  have q:=NL t n x st s _ h;rw [<-e]at q;exact q
 rw [bI e]at h
 by_cases e:x.at'=5
 ·rw [e]at h;have h:(DP t n x st s).run _:=h;refine aK9 (root:=0) (pos:=[19,20,21,22,23]) (cs:=[(.cell 1 4,.ints (some .i64))]) (parse:=NG t n) (fin:=HpO.fin t n) lY ((aR.unpack (.help t n x) 0 1 (vX t n x) [1] rfl (congrArg (Prod.mk 1) (J6 e)) (by kernel_rfl) rfl).trans (aR.unpack (.store t n st) 1 0 (dP t n st) [] rfl rfl rfl rfl)) ?_
  have q:=NM t n x st s _ h;rw [<-e]at q;exact q
 rw [bI e]at h
 by_cases e:x.at'=6
 ·rw [e]at h;have h:(DQ t n x st s).run _:=h;refine aK9 (root:=0) (pos:=[19,20,21,22,23]) (cs:=[(.cell 1 4,.ints (some .i64))]) (parse:=NG t n) (fin:=HpO.fin t n) lY ((aR.unpack (.help t n x) 0 1 (nW t n x) [1] rfl (congrArg (Prod.mk 1) (kT ⟨(by omega),(by omega),(by omega),(by omega),(by omega)⟩)) (by kernel_rfl) rfl).trans (aR.unpack (.store t n st) 1 0 (dP t n st) [] rfl rfl rfl rfl)) ?_
  have q:=NN t n x st s _ h;rw [<-e]at q;exact q
 rw [bI e]at h
 by_cases e:x.at'=7
 ·rw [e]at h;have h:(DR t n x st s).run _:=h;refine aK9 (root:=0) (pos:=[19,20,21,22,23]) (cs:=[(.cell 1 4,.ints (some .i64))]) (parse:=NG t n) (fin:=HpO.fin t n) lY ((aR.unpack (.help t n x) 0 1 (vU t n x) [1] rfl (congrArg (Prod.mk 1) (J7 e)) (by kernel_rfl) rfl).trans (aR.unpack (.store t n st) 1 0 (dP t n st) [] rfl rfl rfl rfl)) ?_
  have q:=NO t n x st s _ h;rw [<-e]at q;exact q
 rw [bI e]at h
 by_cases e:x.at'=8
 ·rw [e]at h;have h:(DS t n x st s).run _:=h;refine aK9 (root:=0) (pos:=[19,20,21,22,23]) (cs:=[(.cell 1 4,.ints (some .i64))]) (parse:=NG t n) (fin:=HpO.fin t n) lY ((aR.unpack (.help t n x) 0 1 (vZ t n x) [1] rfl (congrArg (Prod.mk 1) (J8 e)) (by kernel_rfl) rfl).trans (aR.unpack (.store t n st) 1 0 (dP t n st) [] rfl rfl rfl rfl)) ?_
  have q:=NP t n x st s _ h;rw [<-e]at q;exact q
 rw [bI e]at h
 by_cases e:x.at'=9
 ·rw [e]at h;have h:(DT t n x st s).run _:=h;refine aK9 (root:=0) (pos:=[19,20,21,22,23]) (cs:=[(.cell 1 4,.ints (some .i64))]) (parse:=NG t n) (fin:=HpO.fin t n) lY ((aR.unpack (.help t n x) 0 1 (nW t n x) [1] rfl (congrArg (Prod.mk 1) (kT ⟨(by omega),(by omega),(by omega),(by omega),(by omega)⟩)) (by kernel_rfl) rfl).trans (aR.unpack (.store t n st) 1 0 (dP t n st) [] rfl rfl rfl rfl)) ?_
  have q:=NQ t n x st s _ h;rw [<-e]at q;exact q
 rw [bI e]at h;exact h.1.elim
def HpO.finB(t n:Int)(y:HpO):Out Ob:=.ite y.d (.ret (.bool true) ([cE' [.ptr 1 0,.I y.x.u,.int .u64 y.x.no,.I y.x.rounds,.I y.x.limit,.I y.x.at',.int .u64 y.x.found,.I y.x.sh,.I y.x.kd,.I y.x.ky,.bool y.x.p.now,.I y.x.p.code,.bool y.x.p.okk,.I y.x.p.val,.I y.x.p.addr,.int .u64 y.x.p.old,.I y.x.p.nxt,.bool y.x.p.mark,.I y.x.p.pops,.O,.O,.O,.O,.O],lD 5 t n y.st,none,bF 4 y.s,bG y.s,oV y.st])) (.ret (.bool false) [some (.abs (.help t n y.x) [1]),lD 5 t n y.st,none,bF 4 y.s,bG y.s,oV y.st])
noncomputable def hpSB:aI Ob:=fun args h=>match args,h with
 | [.ptr 0 0,.ptr 3 0],[some (.abs (.help t n x) [1]),e1,e2,e3,e4]=>(match lZ 2 [e1,e2],cO 4 [e3,e4]with
   | some (l2,t2,n2,st),some (l,s)=>some (.pre ((l=s.xs.length/\l2=st.R.length/\t2=t/\n2=n)/\aAq t n x st s) (HpO.finB t n (gY t n x st s)))
   | _,_=>none)
 | _,_=>none
theorem aFa:sT' 152 hpSB:=by
 intro args h o ho K g;unfold hpSB at ho;split at ho
 case h_2=>cases ho
 split at ho<;>cases ho
 rename_i hs hm;obtain⟨⟨⟨hl,aa,rfl,rfl⟩,ok⟩,g⟩:=g;cases bC hm hl;cases cB hs aa;exact kH (fun ι hι=>by simp [aG.ren,aLn,AVal.ren,hι]) (fun ι hι=>by simp [aG.ren,hι]) (fun K g=>aAy _ _ _ _ _ K (aLf ok g)) K g
noncomputable def hpS:aI Ob:=hpSB
theorem aH7:sT' 152 hpS:=aFa
def aE0(t n:Int)(v:AVal)(g:aB Ob):Option (Prop×(HPS×STS)):=match v,g with
 | .ptr 2 0,[e1,e2,some (.cells [.ptr 0 0,.int .i64 u,.int .u64 no,.int .i64 rounds,.int .i64 limit,.int .i64 at',.int .u64 found,.int .i64 sh,.int .i64 kd,.int .i64 ky,.bool p_now,.int .i64 p_code,.bool p_okk,.int .i64 p_val,.int .i64 p_addr,.int .u64 p_old,.int .i64 p_nxt,.bool p_mark,.int .i64 p_pops,.O,.O,.O,.O,.O])]=>(match lZ 1 [e1,e2]with
   | some (l2,t2,n2,st)=>some ((t2=t/\n2=n/\l2=st.R.length)/\(at'≠3/\at'≠4/\at'≠5/\at'≠7/\at'≠8),⟨(⟨u,no,rounds,limit,at',found,sh,kd,ky,⟨p_now,p_code,p_okk,p_val,p_addr,p_old,p_nxt,p_mark,p_pops⟩,eN,bW,bR,⟨0,0,0,0⟩,⟨0,0,0,false⟩⟩:HPS),st⟩)
   | none=>none)
 | _,_=>none
abbrev aAn(t n:Int)(y:(HPS×STS)):aB Ob:=[lD 1 t n y.2,oV y.2,some (.abs (.help t n y.1) [0])]
theorem aAo{t n:Int} :bP (obI tbl) 2 (aE0 t n) (fun y=>.ret (.ptr 2 0) (aAn t n y)):=by
 intro v g p x hp hq K hK;unfold aE0 at hp;split at hp
 case h_2=>cases hp
 rename_i e1 e2 u no rounds limit at' found sh kd ky p_now p_code p_okk p_val p_addr p_old p_nxt p_mark p_pops;split at hp
 case h_2=>cases hp
 rename_i l2 t2 n2 st hs;cases hp;obtain⟨⟨rfl,rfl,aa⟩,ac⟩:=hq;cases cB hs aa;exact let X0:HPS:=⟨u,no,rounds,limit,at',found,sh,kd,ky,⟨p_now,p_code,p_okk,p_val,p_addr,p_old,p_nxt,p_mark,p_pops⟩,eN,bW,bR,⟨0,0,0,0⟩,⟨0,0,0,false⟩⟩;⟨⟨_,_,aE.pack (aAn t2 n2 (X0,st)) (.help t2 n2 X0) 2 1 (nW t2 n2 X0) [0] (by kernel_rfl) rfl (congrArg (Prod.mk 1) (kT ac)) (by kernel_rfl),hK⟩⟩
def NF(t n:Int)(u no lim:Int)(st:STS):Tr (HPS×STS):=.pre ((t=t/\n=n/\lE' st.3)/\(0:Int)≠(3:Int)/\(0:Int)≠(4:Int)/\(0:Int)≠(5:Int)/\(0:Int)≠(7:Int)/\(0:Int)≠(8:Int)) (.ret ({u:=u,no:=no,rounds:=0,limit:=lim,at':=0,found:=0,sh:=0,kd:=0,ky:=0,p:=aG2,ex:=eN,en:=bW,fn:=bR,cl:=bZ,pr:=dJ},st))
def xK(t n:Int)(u no lim:Int)(st:STS):(HPS×STS):=(NF t n u no lim st).val
def DJ(t n:Int)(u no lim:Int)(st:STS):Prop:=(NF t n u no lim st).ok
def hpNS:aI Ob:=fun args h=>match args,h with
 | [.ptr 0 0,.int .i64 u,.int .u64 no,.int .i64 lim],[e1,e2]=>(match lZ 1 [e1,e2]with
   | some (l2,t,n,st)=>some (.pre (l2=st.R.length/\DJ t n u no lim st) (.ret (.ptr 2 0) (aAn t n (xK t n u no lim st))))
   | none=>none)
 | _,_=>none
theorem aE1:sT' 159 hpNS:=by
 intro args h o ho K hK;unfold hpNS at ho;split at ho
 case h_2=>cases ho
 rename_i u no lim e1 e2;split at ho<;>cases ho
 rename_i l2 t n st hs;obtain⟨⟨g,ok⟩,hK⟩:=hK;cases cB hs g;refine aLm (root:=2) (pos:=[19,20,21,22,23]) (cs:=[]) (parse:=aE0 t n) aAo ?_;exact cM' (E:=EH0) (q:=(NF t n u no lim st).run (fun y=>(Out.ret (.ptr 2 0) (aAn t n y)).run K)) (by kernel_rfl) (aLf ok hK)
noncomputable def EH:=((EH0.addS 152 hpS aH7).addS 159 hpNS aE1)
structure DqO where
 d:Bool
 x:DOS
 st:STS
 s:MS
instance:Inhabited DqO:=⟨⟨false,eT,⟨0,0,[]⟩,⟨0,0,[],0,0,0,0,0,false⟩⟩⟩
instance:Inhabited DOS:=⟨eT⟩
abbrev dqH(t n:Int)(x:DOS)(st:STS)(s:MS):aB Ob:=[some (.abs (.doer t n x) [1]),some (.abs (.store t n st) []),bF 3 s,bG s]
abbrev dqD(t n:Int)(x:DOS)(st:STS)(s:MS):aB Ob:=[cE' [.ptr 1 0,.I x.code,.bool x.okk,.I x.val,.bool x.slow,.I x.sh,.I x.kd,.I x.ky,.I x.limit,.I x.at',.O,.O,.O,.O,.O,.O,.O,.O,.O],some (.abs (.store t n st) []),bF 3 s,bG s]
def DqO.fin(t n:Int)(y:DqO):Out Ob:=.ite y.d (.ret (.bool true) (dqD t n y.x y.st y.s)) (.ret (.bool false) (dqH t n y.x y.st y.s))
def aDt(t n:Int)(v:AVal)(g:aB Ob):Option (Prop×DqO):=match v,g with
 | .bool d,[some (.cells [.ptr 1 0,.int .i64 code,.bool okk,.int .i64 val,.bool slow,.int .i64 sh,.int .i64 kd,.int .i64 ky,.int .i64 limit,.int .i64 at',.O,.O,.O,.O,.O,.O,.O,.O,.O]),e1,e3,e4,e2]=>(match lZ 4 [e1,e2],cO 3 [e3,e4]with
   | some (l2,t2,n2,st),some (l,s)=>some ((t2=t/\n2=n)/\(d=false->at'≠0/\at'≠1/\at'≠5/\at'≠2/\at'≠3/\at'≠4/\at'≠6/\at'≠7/\at'≠8/\at'≠9)/\l=s.xs.length/\l2=st.R.length,⟨d,⟨code,okk,val,slow,sh,kd,ky,limit,at',⟨0,0,0,false⟩,dD,bW,dH,⟨0,0,0,0,false,0⟩,⟨0,false,0,0⟩,bR,⟨0,0⟩,cY⟩,st,s⟩)
   | _,_=>none)
 | _,_=>none
def aDu(t n:Int)(v:AVal)(g:aB Ob):Option (Prop×DqO):=match v,g with
 | .bool d,[some (.cells [.ptr 1 0,.int .i64 code,.bool okk,.int .i64 val,.bool slow,.int .i64 sh,.int .i64 kd,.int .i64 ky,.int .i64 limit,.int .i64 at',.ptr 4 0,.O,.O,.O,.O,.O,.O,.O,.O]),e1,e3,e4,some (.abs (.head t' n' sub) []),e2]=>(match lZ 5 [e1,e2],cO 3 [e3,e4]with
   | some (l2,t2,n2,st),some (l,s)=>some ((t2=t/\n2=n)/\t'=t/\n'=n/\(d=false->at'=0)/\l=s.xs.length/\l2=st.R.length,⟨d,⟨code,okk,val,slow,sh,kd,ky,limit,at',sub,dD,bW,dH,⟨0,0,0,0,false,0⟩,⟨0,false,0,0⟩,bR,⟨0,0⟩,cY⟩,st,s⟩)
   | _,_=>none)
 | _,_=>none
def aDv(t n:Int)(v:AVal)(g:aB Ob):Option (Prop×DqO):=match v,g with
 | .bool d,[some (.cells [.ptr 1 0,.int .i64 code,.bool okk,.int .i64 val,.bool slow,.int .i64 sh,.int .i64 kd,.int .i64 ky,.int .i64 limit,.int .i64 at',.O,.ptr 4 0,.O,.O,.O,.O,.O,.O,.O]),e1,e3,e4,some (.abs (.help t' n' sub) [1]),e2]=>(match lZ 5 [e1,e2],cO 3 [e3,e4]with
   | some (l2,t2,n2,st),some (l,s)=>some ((t2=t/\n2=n)/\t'=t/\n'=n/\(d=false->at'=1\/at'=5)/\l=s.xs.length/\l2=st.R.length,⟨d,⟨code,okk,val,slow,sh,kd,ky,limit,at',⟨0,0,0,false⟩,sub,bW,dH,⟨0,0,0,0,false,0⟩,⟨0,false,0,0⟩,bR,⟨0,0⟩,cY⟩,st,s⟩)
   | _,_=>none)
 | _,_=>none
def aDw(t n:Int)(v:AVal)(g:aB Ob):Option (Prop×DqO):=match v,g with
 | .bool d,[some (.cells [.ptr 1 0,.int .i64 code,.bool okk,.int .i64 val,.bool slow,.int .i64 sh,.int .i64 kd,.int .i64 ky,.int .i64 limit,.int .i64 at',.O,.O,.ptr 4 0,.O,.O,.O,.O,.O,.O]),e1,e3,e4,some (.abs (.ensure t' n' sub) [1]),e2]=>(match lZ 5 [e1,e2],cO 3 [e3,e4]with
   | some (l2,t2,n2,st),some (l,s)=>some ((t2=t/\n2=n)/\t'=t/\n'=n/\(d=false->at'=2)/\l=s.xs.length/\l2=st.R.length,⟨d,⟨code,okk,val,slow,sh,kd,ky,limit,at',⟨0,0,0,false⟩,dD,sub,dH,⟨0,0,0,0,false,0⟩,⟨0,false,0,0⟩,bR,⟨0,0⟩,cY⟩,st,s⟩)
   | _,_=>none)
 | _,_=>none
def aDx(t n:Int)(v:AVal)(g:aB Ob):Option (Prop×DqO):=match v,g with
 | .bool d,[some (.cells [.ptr 1 0,.int .i64 code,.bool okk,.int .i64 val,.bool slow,.int .i64 sh,.int .i64 kd,.int .i64 ky,.int .i64 limit,.int .i64 at',.O,.O,.O,.ptr 4 0,.O,.O,.O,.O,.O]),e1,e3,e4,some (.abs (.fast t' n' sub) [1]),e2]=>(match lZ 5 [e1,e2],cO 3 [e3,e4]with
   | some (l2,t2,n2,st),some (l,s)=>some ((t2=t/\n2=n)/\t'=t/\n'=n/\(d=false->at'=3)/\l=s.xs.length/\l2=st.R.length,⟨d,⟨code,okk,val,slow,sh,kd,ky,limit,at',⟨0,0,0,false⟩,dD,bW,sub,⟨0,0,0,0,false,0⟩,⟨0,false,0,0⟩,bR,⟨0,0⟩,cY⟩,st,s⟩)
   | _,_=>none)
 | _,_=>none
def aDy(t n:Int)(v:AVal)(g:aB Ob):Option (Prop×DqO):=match v,g with
 | .bool d,[some (.cells [.ptr 1 0,.int .i64 code,.bool okk,.int .i64 val,.bool slow,.int .i64 sh,.int .i64 kd,.int .i64 ky,.int .i64 limit,.int .i64 at',.O,.O,.O,.O,.ptr 4 0,.O,.O,.O,.O]),e1,e3,e4,some (.abs (.announce t' n' sub) []),e2]=>(match lZ 5 [e1,e2],cO 3 [e3,e4]with
   | some (l2,t2,n2,st),some (l,s)=>some ((t2=t/\n2=n)/\t'=t/\n'=n/\(d=false->at'=4)/\l=s.xs.length/\l2=st.R.length,⟨d,⟨code,okk,val,slow,sh,kd,ky,limit,at',⟨0,0,0,false⟩,dD,bW,dH,sub,⟨0,false,0,0⟩,bR,⟨0,0⟩,cY⟩,st,s⟩)
   | _,_=>none)
 | _,_=>none
def aDz(t n:Int)(v:AVal)(g:aB Ob):Option (Prop×DqO):=match v,g with
 | .bool d,[some (.cells [.ptr 1 0,.int .i64 code,.bool okk,.int .i64 val,.bool slow,.int .i64 sh,.int .i64 kd,.int .i64 ky,.int .i64 limit,.int .i64 at',.O,.O,.O,.O,.O,.ptr 4 0,.O,.O,.O]),e1,e3,e4,some (.abs (.answer t' n' sub) []),e2]=>(match lZ 5 [e1,e2],cO 3 [e3,e4]with
   | some (l2,t2,n2,st),some (l,s)=>some ((t2=t/\n2=n)/\t'=t/\n'=n/\(d=false->at'=6)/\l=s.xs.length/\l2=st.R.length,⟨d,⟨code,okk,val,slow,sh,kd,ky,limit,at',⟨0,0,0,false⟩,dD,bW,dH,⟨0,0,0,0,false,0⟩,sub,bR,⟨0,0⟩,cY⟩,st,s⟩)
   | _,_=>none)
 | _,_=>none
def aDA(t n:Int)(v:AVal)(g:aB Ob):Option (Prop×DqO):=match v,g with
 | .bool d,[some (.cells [.ptr 1 0,.int .i64 code,.bool okk,.int .i64 val,.bool slow,.int .i64 sh,.int .i64 kd,.int .i64 ky,.int .i64 limit,.int .i64 at',.O,.O,.O,.O,.O,.O,.ptr 4 0,.O,.O]),e1,e3,e4,some (.abs (.find t' n' sub) []),e2]=>(match lZ 5 [e1,e2],cO 3 [e3,e4]with
   | some (l2,t2,n2,st),some (l,s)=>some ((t2=t/\n2=n)/\t'=t/\n'=n/\(d=false->at'=7)/\l=s.xs.length/\l2=st.R.length,⟨d,⟨code,okk,val,slow,sh,kd,ky,limit,at',⟨0,0,0,false⟩,dD,bW,dH,⟨0,0,0,0,false,0⟩,⟨0,false,0,0⟩,sub,⟨0,0⟩,cY⟩,st,s⟩)
   | _,_=>none)
 | _,_=>none
def aDB(t n:Int)(v:AVal)(g:aB Ob):Option (Prop×DqO):=match v,g with
 | .bool d,[some (.cells [.ptr 1 0,.int .i64 code,.bool okk,.int .i64 val,.bool slow,.int .i64 sh,.int .i64 kd,.int .i64 ky,.int .i64 limit,.int .i64 at',.O,.O,.O,.O,.O,.O,.O,.ptr 4 0,.O]),e1,e3,e4,some (.abs (.drop t' n' sub) []),e2]=>(match lZ 5 [e1,e2],cO 3 [e3,e4]with
   | some (l2,t2,n2,st),some (l,s)=>some ((t2=t/\n2=n)/\t'=t/\n'=n/\(d=false->at'=8)/\l=s.xs.length/\l2=st.R.length,⟨d,⟨code,okk,val,slow,sh,kd,ky,limit,at',⟨0,0,0,false⟩,dD,bW,dH,⟨0,0,0,0,false,0⟩,⟨0,false,0,0⟩,bR,sub,cY⟩,st,s⟩)
   | _,_=>none)
 | _,_=>none
def aDC(t n:Int)(v:AVal)(g:aB Ob):Option (Prop×DqO):=match v,g with
 | .bool d,[some (.cells [.ptr 1 0,.int .i64 code,.bool okk,.int .i64 val,.bool slow,.int .i64 sh,.int .i64 kd,.int .i64 ky,.int .i64 limit,.int .i64 at',.O,.O,.O,.O,.O,.O,.O,.O,.ptr 4 0]),e1,e3,e4,some (.abs (.sweep t' n' sub) [1]),e2]=>(match lZ 5 [e1,e2],cO 3 [e3,e4]with
   | some (l2,t2,n2,st),some (l,s)=>some ((t2=t/\n2=n)/\t'=t/\n'=n/\(d=false->at'=9)/\l=s.xs.length/\l2=st.R.length,⟨d,⟨code,okk,val,slow,sh,kd,ky,limit,at',⟨0,0,0,false⟩,dD,bW,dH,⟨0,0,0,0,false,0⟩,⟨0,false,0,0⟩,bR,⟨0,0⟩,sub⟩,st,s⟩)
   | _,_=>none)
 | _,_=>none
def LP(t n:Int)(v:AVal)(g:aB Ob):Option (Prop×DqO):=(match aDt t n v g with
 | some r=>some r
 | none=>(match aDu t n v g with
 | some r=>some r
 | none=>(match aDv t n v g with
 | some r=>some r
 | none=>(match aDw t n v g with
 | some r=>some r
 | none=>(match aDx t n v g with
 | some r=>some r
 | none=>(match aDy t n v g with
 | some r=>some r
 | none=>(match aDz t n v g with
 | some r=>some r
 | none=>(match aDA t n v g with
 | some r=>some r
 | none=>(match aDB t n v g with
 | some r=>some r
 | none=>aDC t n v g)))))))))
theorem X8{t n:Int} :bP (obI tbl) 4 (aDt t n) (DqO.fin t n):=by
 intro v g p x hp hq K hK;unfold aDt at hp;split at hp
 case h_2=>cases hp
 rename_i d code okk val slow sh kd ky limit at' e1 e3 e4 e2;split at hp
 case h_2=>cases hp
 rename_i l2 t2 n2 st l s hs hm;cases hp;obtain⟨⟨rfl,rfl⟩,ac,hl,aa⟩:=hq;cases bC hm hl;cases cB hs aa;refine fL hK (fun h=>?_) (fun hd h=>?_)
 ·exact tkP h (.store t2 n2 st) 1 0 (dP t2 n2 st) []
 ·exact w8 h (.store t2 n2 st) 1 0 (dP t2 n2 st) [] 0 [1] rfl (congrArg (Prod.mk 1) (vF (ac hd)))
theorem X9{t n:Int} :bP (obI tbl) 4 (aDu t n) (DqO.fin t n):=by
 intro v g p x hp hq K hK;unfold aDu at hp;split at hp
 case h_2=>cases hp
 rename_i d code okk val slow sh kd ky limit at' e1 e3 e4 t' n' sub e2;split at hp
 case h_2=>cases hp
 rename_i l2 t2 n2 st l s hs hm;cases hp;obtain⟨⟨rfl,rfl⟩,rfl,rfl,ac,hl,aa⟩:=hq;cases bC hm hl;cases cB hs aa;refine fL hK (fun h=>?_) (fun hd h=>?_)
 ·exact FE h [10,11,12,13,14,15,16,17,18] [0,1,2,3,5] (.store t' n' st) 1 0 (dP t' n' st) []
 ·exact w8 h (.store t' n' st) 1 0 (dP t' n' st) [] 0 [1] rfl (congrArg (Prod.mk 1) (qU (ac hd)))
theorem YA{t n:Int} :bP (obI tbl) 4 (aDv t n) (DqO.fin t n):=by
 intro v g p x hp hq K hK;unfold aDv at hp;split at hp
 case h_2=>cases hp
 rename_i d code okk val slow sh kd ky limit at' e1 e3 e4 t' n' sub e2;split at hp
 case h_2=>cases hp
 rename_i l2 t2 n2 st l s hs hm;cases hp;obtain⟨⟨rfl,rfl⟩,rfl,rfl,aa,hl,ac⟩:=hq;cases bC hm hl;cases cB hs ac;refine fL hK (fun h=>?_) (fun hd h=>?_)
 ·exact FE h [10,11,12,13,14,15,16,17,18] [0,1,2,3,5] (.store t' n' st) 1 0 (dP t' n' st) []
 ·rcases aa hd with aa | aa
  ·exact w8 h (.store t' n' st) 1 0 (dP t' n' st) [] 0 [1] rfl (congrArg (Prod.mk 1) (uD aa))
  ·exact w8 h (.store t' n' st) 1 0 (dP t' n' st) [] 0 [1] rfl (congrArg (Prod.mk 1) (uH aa))
theorem YB{t n:Int} :bP (obI tbl) 4 (aDw t n) (DqO.fin t n):=by
 intro v g p x hp hq K hK;unfold aDw at hp;split at hp
 case h_2=>cases hp
 rename_i d code okk val slow sh kd ky limit at' e1 e3 e4 t' n' sub e2;split at hp
 case h_2=>cases hp
 rename_i l2 t2 n2 st l s hs hm;cases hp;obtain⟨⟨rfl,rfl⟩,rfl,rfl,ac,hl,aa⟩:=hq;cases bC hm hl;cases cB hs aa;refine fL hK (fun h=>?_) (fun hd h=>?_)
 ·exact FE h [10,11,12,13,14,15,16,17,18] [0,1,2,3,5] (.store t' n' st) 1 0 (dP t' n' st) []
 ·exact w8 h (.store t' n' st) 1 0 (dP t' n' st) [] 0 [1] rfl (congrArg (Prod.mk 1) (uE (ac hd)))
theorem YC{t n:Int} :bP (obI tbl) 4 (aDx t n) (DqO.fin t n):=by
 intro v g p x hp hq K hK;unfold aDx at hp;split at hp
 case h_2=>cases hp
 rename_i d code okk val slow sh kd ky limit at' e1 e3 e4 t' n' sub e2;split at hp
 case h_2=>cases hp
 rename_i l2 t2 n2 st l s hs hm;cases hp;obtain⟨⟨rfl,rfl⟩,rfl,rfl,ac,hl,aa⟩:=hq;cases bC hm hl;cases cB hs aa;refine fL hK (fun h=>?_) (fun hd h=>?_)
 ·exact FE h [10,11,12,13,14,15,16,17,18] [0,1,2,3,5] (.store t' n' st) 1 0 (dP t' n' st) []
 ·exact w8 h (.store t' n' st) 1 0 (dP t' n' st) [] 0 [1] rfl (congrArg (Prod.mk 1) (uF (ac hd)))
theorem YD{t n:Int} :bP (obI tbl) 4 (aDy t n) (DqO.fin t n):=by
 intro v g p x hp hq K hK;unfold aDy at hp;split at hp
 case h_2=>cases hp
 rename_i d code okk val slow sh kd ky limit at' e1 e3 e4 t' n' sub e2;split at hp
 case h_2=>cases hp
 rename_i l2 t2 n2 st l s hs hm;cases hp;obtain⟨⟨rfl,rfl⟩,rfl,rfl,ac,hl,aa⟩:=hq;cases bC hm hl;cases cB hs aa;refine fL hK (fun h=>?_) (fun hd h=>?_)
 ·exact FE h [10,11,12,13,14,15,16,17,18] [0,1,2,3,5] (.store t' n' st) 1 0 (dP t' n' st) []
 ·exact w8 h (.store t' n' st) 1 0 (dP t' n' st) [] 0 [1] rfl (congrArg (Prod.mk 1) (uG (ac hd)))
theorem YE{t n:Int} :bP (obI tbl) 4 (aDz t n) (DqO.fin t n):=by
 intro v g p x hp hq K hK;unfold aDz at hp;split at hp
 case h_2=>cases hp
 rename_i d code okk val slow sh kd ky limit at' e1 e3 e4 t' n' sub e2;split at hp
 case h_2=>cases hp
 rename_i l2 t2 n2 st l s hs hm;cases hp;obtain⟨⟨rfl,rfl⟩,rfl,rfl,ac,hl,aa⟩:=hq;cases bC hm hl;cases cB hs aa;refine fL hK (fun h=>?_) (fun hd h=>?_)
 ·exact FE h [10,11,12,13,14,15,16,17,18] [0,1,2,3,5] (.store t' n' st) 1 0 (dP t' n' st) []
 ·exact w8 h (.store t' n' st) 1 0 (dP t' n' st) [] 0 [1] rfl (congrArg (Prod.mk 1) (uI (ac hd)))
theorem YF{t n:Int} :bP (obI tbl) 4 (aDA t n) (DqO.fin t n):=by
 intro v g p x hp hq K hK;unfold aDA at hp;split at hp
 case h_2=>cases hp
 rename_i d code okk val slow sh kd ky limit at' e1 e3 e4 t' n' sub e2;split at hp
 case h_2=>cases hp
 rename_i l2 t2 n2 st l s hs hm;cases hp;obtain⟨⟨rfl,rfl⟩,rfl,rfl,ac,hl,aa⟩:=hq;cases bC hm hl;cases cB hs aa;refine fL hK (fun h=>?_) (fun hd h=>?_)
 ·exact FE h [10,11,12,13,14,15,16,17,18] [0,1,2,3,5] (.store t' n' st) 1 0 (dP t' n' st) []
 ·exact w8 h (.store t' n' st) 1 0 (dP t' n' st) [] 0 [1] rfl (congrArg (Prod.mk 1) (uJ (ac hd)))
theorem YG{t n:Int} :bP (obI tbl) 4 (aDB t n) (DqO.fin t n):=by
 intro v g p x hp hq K hK;unfold aDB at hp;split at hp
 case h_2=>cases hp
 rename_i d code okk val slow sh kd ky limit at' e1 e3 e4 t' n' sub e2;split at hp
 case h_2=>cases hp
 rename_i l2 t2 n2 st l s hs hm;cases hp;obtain⟨⟨rfl,rfl⟩,rfl,rfl,ac,hl,aa⟩:=hq;cases bC hm hl;cases cB hs aa;refine fL hK (fun h=>?_) (fun hd h=>?_)
 ·exact FE h [10,11,12,13,14,15,16,17,18] [0,1,2,3,5] (.store t' n' st) 1 0 (dP t' n' st) []
 ·exact w8 h (.store t' n' st) 1 0 (dP t' n' st) [] 0 [1] rfl (congrArg (Prod.mk 1) (uK (ac hd)))
theorem YH{t n:Int} :bP (obI tbl) 4 (aDC t n) (DqO.fin t n):=by
 intro v g p x hp hq K hK;unfold aDC at hp;split at hp
 case h_2=>cases hp
 rename_i d code okk val slow sh kd ky limit at' e1 e3 e4 t' n' sub e2;split at hp
 case h_2=>cases hp
 rename_i l2 t2 n2 st l s hs hm;cases hp;obtain⟨⟨rfl,rfl⟩,rfl,rfl,ac,hl,aa⟩:=hq;cases bC hm hl;cases cB hs aa;refine fL hK (fun h=>?_) (fun hd h=>?_)
 ·exact FE h [10,11,12,13,14,15,16,17,18] [0,1,2,3,5] (.store t' n' st) 1 0 (dP t' n' st) []
 ·exact w8 h (.store t' n' st) 1 0 (dP t' n' st) [] 0 [1] rfl (congrArg (Prod.mk 1) (uL (ac hd)))
theorem lU{t n:Int} :bP (obI tbl) 4 (LP t n) (DqO.fin t n):=by
 intro v g p x hp hq K hK;unfold LP at hp;split at hp
 ·rename_i r hr;cases hp;exact X8 v g p x hr hq K hK
 split at hp
 ·rename_i r hr;cases hp;exact X9 v g p x hr hq K hK
 split at hp
 ·rename_i r hr;cases hp;exact YA v g p x hr hq K hK
 split at hp
 ·rename_i r hr;cases hp;exact YB v g p x hr hq K hK
 split at hp
 ·rename_i r hr;cases hp;exact YC v g p x hr hq K hK
 split at hp
 ·rename_i r hr;cases hp;exact YD v g p x hr hq K hK
 split at hp
 ·rename_i r hr;cases hp;exact YE v g p x hr hq K hK
 split at hp
 ·rename_i r hr;cases hp;exact YF v g p x hr hq K hK
 split at hp
 ·rename_i r hr;cases hp;exact YG v g p x hr hq K hK
 exact YH v g p x hp hq K hK
abbrev w25:=false=false->(3:Int)=(3:Int)
abbrev w26(n:Int)(s:MS)(st:STS)(t:Int)(x:DOS):Tr DqO:=.ret {d:=false,x:= {x with at':=3,hd:=eE,hp:=dD,en:=bW,ft:=(kR t n x.5 x.6 x.7 x.8 st).1,an:=eC,aw:=eD,fn:=bR,dr:=fF,sw:=cY},st:=(kR t n x.5 x.6 x.7 x.8 st).2,s:=(qL t n x.10 s).3}
abbrev w27(x:DOS):=!bU x.5 x.6 x.7
abbrev w2a:=false=false->(2:Int)=(2:Int)
abbrev w2c(n:Int)(s:MS)(st:STS)(t:Int)(x:DOS):=xK t n (HdO.x (qL t n x.10 s)).1 (HdO.x (qL t n x.10 s)).2 x.8 st
abbrev w2d:=false=false->(1:Int)=(1:Int)\/(1:Int)=(5:Int)
def CB(t n:Int)(x:DOS)(st:STS)(s:MS):Tr DqO:=.pre True (.ite (w27 x) (.pre (q9' s) (.pre ((t=t/\n=n)/\t=t/\n=n/\(true=false->(0:Int)=(0:Int))/\lE' s.3/\lE' st.3) (.ret {d:=true,x:= {x with code:=1,okk:=false,val:=0,at':=0,hp:=dD,en:=bW,ft:=dH,an:=eC,aw:=eD,fn:=bR,dr:=fF,sw:=cY},st:=st,s:=(dY s 0) }))) (.pre (lE' s.3/\aET t n x.10 s) (.ite (qL t n x.10 s).1 (.ite (ilt (HdO.x (qL t n x.10 s)).1 0) (.pre True (.ite (f5 x.6) (.ite (ieq st.2 0) (.pre (lE' st.3/\(t=t/\n=n/\lE' st.3)/\True) (.pre ((t=t/\n=n)/\t=t/\n=n/\w2a/\lE' (HdO.s (qL t n x.10 s)).3/\lE' st.3) (.ret {d:=false,x:= {x with at':=2,hd:=eE,hp:=dD,en:=bW,ft:=dH,an:=eC,aw:=eD,fn:=bR,dr:=fF,sw:=cY},st:=st,s:=(qL t n x.10 s).3}))) (.pre ((lE' st.3/\vQ t n x.5 x.6 x.7 x.8 st)/\True) (.pre ((t=t/\n=n)/\t=t/\n=n/\w25/\lE' (HdO.s (qL t n x.10 s)).3/\lE' (Prod.snd (kR t n x.5 x.6 x.7 x.8 st)).3) (w26 n s st t x)))) (.pre ((lE' st.3/\vQ t n x.5 x.6 x.7 x.8 st)/\True) (.pre ((t=t/\n=n)/\t=t/\n=n/\w25/\lE' (HdO.s (qL t n x.10 s)).3/\lE' (Prod.snd (kR t n x.5 x.6 x.7 x.8 st)).3) (w26 n s st t x))))) (.pre ((lE' st.3/\DJ t n (HdO.x (qL t n x.10 s)).1 (HdO.x (qL t n x.10 s)).2 x.8 st)/\True) (.pre ((t=t/\n=n)/\t=t/\n=n/\w2d/\lE' (HdO.s (qL t n x.10 s)).3/\lE' (Prod.snd (w2c n s st t x)).3) (.ret {d:=false,x:= {x with at':=1,hd:=eE,hp:=(w2c n s st t x).1,en:=bW,ft:=dH,an:=eC,aw:=eD,fn:=bR,dr:=fF,sw:=cY},st:=(w2c n s st t x).2,s:=(qL t n x.10 s).3})))) (.pre ((t=t/\n=n)/\t=t/\n=n/\(false=false->(0:Int)=(0:Int))/\lE' (HdO.s (qL t n x.10 s)).3/\lE' st.3) (.ret {d:=false,x:= {x with at':=0,hd:=(qL t n x.10 s).2,hp:=dD,en:=bW,ft:=dH,an:=eC,aw:=eD,fn:=bR,dr:=fF,sw:=cY},st:=st,s:=(qL t n x.10 s).3})))))
abbrev xH(F:Int->Int->DOS->STS->MS->Tr DqO)(a:Int)(l:List AVal)(e:Int->Int->DOS->aB Ob):Prop:= ∀(t n:Int) (x:DOS) (st:STS) (s:MS) (K:DqO->Prop) (h:(F t n x st s).run K),cT' 104 [.ptr 0 0,.ptr 2 0] ([some (.cells ([.ptr 1 0,.I x.code,.bool x.okk,.I x.val,.bool x.slow,.I x.sh,.I x.kd,.I x.ky,.I x.limit,.I a]++l)),lD 5 t n st,bF 3 s,bG s]++e t n x++ [oV st]) (eU 4 0 [10,11,12,13,14,15,16,17,18] [(.cell 1 4,.ints (some .i64))] (LP t n) K)
theorem LQ:xH CB 0 [.ptr 4 0,.O,.O,.O,.O,.O,.O,.O,.O] (fun t n x=>[some (.abs (.head t n x.hd) [])]):=by
 intro t n x st s K h;exact cM' (E:=EH) (by kernel_rfl) h
abbrev w24(n:Int)(s:MS)(st:STS)(t:Int)(x:DOS):Tr DqO:=.ret {d:=false,x:= {x with at':=3,hd:=eE,hp:=dD,en:=bW,ft:=(kR t n x.5 x.6 x.7 x.8 (gY t n x.11 st s).3).1,an:=eC,aw:=eD,fn:=bR,dr:=fF,sw:=cY},st:=(kR t n x.5 x.6 x.7 x.8 (gY t n x.11 st s).3).2,s:=(gY t n x.11 st s).4}
abbrev w29(n:Int)(s:MS)(st:STS)(t:Int)(x:DOS):=HpO.st (gY t n x.11 st s)
def CC(t n:Int)(x:DOS)(st:STS)(s:MS):Tr DqO:=.pre True (.ite (w27 x) (.pre (q9' s) (.pre ((t=t/\n=n)/\t=t/\n=n/\(true=false->(1:Int)=(1:Int)\/(1:Int)=(5:Int))/\lE' s.3/\lE' st.3) (.ret {d:=true,x:= {x with code:=1,okk:=false,val:=0,at':=1,hd:=eE,en:=bW,ft:=dH,an:=eC,aw:=eD,fn:=bR,dr:=fF,sw:=cY},st:=st,s:=(dY s 0) }))) (.pre ((lE' s.3/\lE' st.3/\t=t/\n=n)/\aAq t n x.11 st s) (.ite (gY t n x.11 st s).1 (.pre True (.ite (f5 x.6) (.ite (ieq (w29 n s st t x).2 0) (.pre (lE' (w29 n s st t x).3/\(t=t/\n=n/\lE' (w29 n s st t x).3)/\True) (.pre ((t=t/\n=n)/\t=t/\n=n/\w2a/\lE' (HpO.s (gY t n x.11 st s)).3/\lE' (w29 n s st t x).3) (.ret {d:=false,x:= {x with at':=2,hd:=eE,hp:=dD,en:=bW,ft:=dH,an:=eC,aw:=eD,fn:=bR,dr:=fF,sw:=cY},st:=(gY t n x.11 st s).3,s:=(gY t n x.11 st s).4}))) (.pre ((lE' (w29 n s st t x).3/\vQ t n x.5 x.6 x.7 x.8 (gY t n x.11 st s).3)/\True) (.pre ((t=t/\n=n)/\t=t/\n=n/\w25/\lE' (HpO.s (gY t n x.11 st s)).3/\lE' (Prod.snd (kR t n x.5 x.6 x.7 x.8 (gY t n x.11 st s).3)).3) (w24 n s st t x)))) (.pre ((lE' (w29 n s st t x).3/\vQ t n x.5 x.6 x.7 x.8 (gY t n x.11 st s).3)/\True) (.pre ((t=t/\n=n)/\t=t/\n=n/\w25/\lE' (HpO.s (gY t n x.11 st s)).3/\lE' (Prod.snd (kR t n x.5 x.6 x.7 x.8 (gY t n x.11 st s).3)).3) (w24 n s st t x))))) (.pre ((t=t/\n=n)/\t=t/\n=n/\w2d/\lE' (HpO.s (gY t n x.11 st s)).3/\lE' (w29 n s st t x).3) (.ret {d:=false,x:= {x with at':=1,hd:=eE,hp:=(gY t n x.11 st s).2,en:=bW,ft:=dH,an:=eC,aw:=eD,fn:=bR,dr:=fF,sw:=cY},st:=(gY t n x.11 st s).3,s:=(gY t n x.11 st s).4})))))
theorem LR:xH CC 1 [.O,.ptr 4 0,.O,.O,.O,.O,.O,.O,.O] (fun t n x=>[some (.abs (.help t n x.hp) [1])]):=by
 intro t n x st s K h;exact cM' (E:=EH) (by kernel_rfl) h
abbrev w21:=false=false->(8:Int)=(8:Int)
def CD(t n:Int)(x:DOS)(st:STS)(s:MS):Tr DqO:=.pre True (.ite (w27 x) (.pre (q9' s) (.pre ((t=t/\n=n)/\t=t/\n=n/\(true=false->(2:Int)=(2:Int))/\lE' s.3/\lE' st.3) (.ret {d:=true,x:= {x with code:=1,okk:=false,val:=0,at':=2,hd:=eE,hp:=dD,ft:=dH,an:=eC,aw:=eD,fn:=bR,dr:=fF,sw:=cY},st:=st,s:=(dY s 0) }))) (.pre ((lE' s.3/\lE' st.3/\t=t/\n=n)/\PI t n (DOS.en x) st s) (.ite (enF t n x.12 st s).1 (.ite (EO.e (enF t n x.12 st s)).2 (.pre (tE t n (EO.st (enF t n x.12 st s)).1/\True) (.pre ((t=t/\n=n)/\t=t/\n=n/\w21/\lE' (EO.s (enF t n x.12 st s)).3/\lE' (EO.st (enF t n x.12 st s)).3) (.ret {d:=false,x:= {x with code:=4,okk:=false,val:=0,at':=8,hd:=eE,hp:=dD,en:=bW,ft:=dH,an:=eC,aw:=eD,fn:=bR,dr:=CL t n (EO.st (enF t n x.12 st s)).1,sw:=cY},st:=(enF t n x.12 st s).3,s:=(enF t n x.12 st s).4}))) (.pre ((lE' (EO.st (enF t n x.12 st s)).3/\vQ t n x.5 x.6 x.7 x.8 (enF t n x.12 st s).3)/\True) (.pre ((t=t/\n=n)/\t=t/\n=n/\w25/\lE' (EO.s (enF t n x.12 st s)).3/\lE' (Prod.snd (kR t n x.5 x.6 x.7 x.8 (enF t n x.12 st s).3)).3) (.ret {d:=false,x:= {x with at':=3,hd:=eE,hp:=dD,en:=bW,ft:=(kR t n x.5 x.6 x.7 x.8 (enF t n x.12 st s).3).1,an:=eC,aw:=eD,fn:=bR,dr:=fF,sw:=cY},st:=(kR t n x.5 x.6 x.7 x.8 (enF t n x.12 st s).3).2,s:=(enF t n x.12 st s).4})))) (.pre ((t=t/\n=n)/\t=t/\n=n/\w2a/\lE' (EO.s (enF t n x.12 st s)).3/\lE' (EO.st (enF t n x.12 st s)).3) (.ret {d:=false,x:= {x with at':=2,hd:=eE,hp:=dD,en:=(enF t n x.12 st s).2,ft:=dH,an:=eC,aw:=eD,fn:=bR,dr:=fF,sw:=cY},st:=(enF t n x.12 st s).3,s:=(enF t n x.12 st s).4})))))
theorem LS:xH CD 2 [.O,.O,.ptr 4 0,.O,.O,.O,.O,.O,.O] (fun t n x=>[some (.abs (.ensure t n x.en) [1])]):=by
 intro t n x st s K h;exact cM' (E:=EH) (by kernel_rfl) h
abbrev w28(n:Int)(s:MS)(st:STS)(t:Int)(x:DOS):=FtO.st (i8 t n x.13 st s)
abbrev w20(n:Int)(s:MS)(st:STS)(t:Int)(x:DOS):Tr DqO:=.ret {d:=false,x:= {x with code:=(FtO.x (i8 t n x.13 st s)).1,okk:=(FtO.x (i8 t n x.13 st s)).2,val:=(FtO.x (i8 t n x.13 st s)).3,at':=8,hd:=eE,hp:=dD,en:=bW,ft:=dH,an:=eC,aw:=eD,fn:=bR,dr:=CL t n (w28 n s st t x).1,sw:=cY},st:=(i8 t n x.13 st s).3,s:=(i8 t n x.13 st s).4}
abbrev w2b:=false=false->(7:Int)=(7:Int)
def CE(t n:Int)(x:DOS)(st:STS)(s:MS):Tr DqO:=.pre True (.ite (w27 x) (.pre (q9' s) (.pre ((t=t/\n=n)/\t=t/\n=n/\(true=false->(3:Int)=(3:Int))/\lE' s.3/\lE' st.3) (.ret {d:=true,x:= {x with code:=1,okk:=false,val:=0,at':=3,hd:=eE,hp:=dD,en:=bW,an:=eC,aw:=eD,fn:=bR,dr:=fF,sw:=cY},st:=st,s:=(dY s 0) }))) (.pre ((lE' s.3/\lE' st.3/\t=t/\n=n)/\aEr t n x.13 st s) (.ite (i8 t n x.13 st s).1 (.ite (!(FtO.x (i8 t n x.13 st s)).4) (.ite (!(FtO.x (i8 t n x.13 st s)).2) (.pre (tE t n (w28 n s st t x).1/\True) (.pre ((t=t/\n=n)/\t=t/\n=n/\w21/\lE' (FtO.s (i8 t n x.13 st s)).3/\lE' (w28 n s st t x).3) (w20 n s st t x))) (.pre True (.ite (!v7 x.5 x.6) (.pre (tE t n (w28 n s st t x).1/\True) (.pre ((t=t/\n=n)/\t=t/\n=n/\w21/\lE' (FtO.s (i8 t n x.13 st s)).3/\lE' (w28 n s st t x).3) (w20 n s st t x))) (.pre True (.pre (pD t n (w28 n s st t x).1 (fI x.5 x.7) (mV x.5 x.6 x.7) x.8/\True) (.pre ((t=t/\n=n)/\t=t/\n=n/\w2b/\lE' (FtO.s (i8 t n x.13 st s)).3/\lE' (w28 n s st t x).3) (.ret {d:=false,x:= {x with code:=(FtO.x (i8 t n x.13 st s)).1,okk:=(FtO.x (i8 t n x.13 st s)).2,val:=(FtO.x (i8 t n x.13 st s)).3,at':=7,hd:=eE,hp:=dD,en:=bW,ft:=dH,an:=eC,aw:=eD,fn:=vP t n (w28 n s st t x).1 (fI x.5 x.7) (mV x.5 x.6 x.7) x.8,dr:=fF,sw:=cY},st:=(i8 t n x.13 st s).3,s:=(i8 t n x.13 st s).4}))))))) (.pre (P3 t n (w28 n s st t x).1 x.5 x.6 x.7/\True) (.pre ((t=t/\n=n)/\t=t/\n=n/\(false=false->(4:Int)=(4:Int))/\lE' (FtO.s (i8 t n x.13 st s)).3/\lE' (w28 n s st t x).3) (.ret {d:=false,x:= {x with slow:=true,at':=4,hd:=eE,hp:=dD,en:=bW,ft:=dH,an:=aCJ t n (w28 n s st t x).1 x.5 x.6 x.7,aw:=eD,fn:=bR,dr:=fF,sw:=cY},st:=(i8 t n x.13 st s).3,s:=(i8 t n x.13 st s).4})))) (.pre ((t=t/\n=n)/\t=t/\n=n/\w25/\lE' (FtO.s (i8 t n x.13 st s)).3/\lE' (w28 n s st t x).3) (.ret {d:=false,x:= {x with at':=3,hd:=eE,hp:=dD,en:=bW,ft:=(i8 t n x.13 st s).2,an:=eC,aw:=eD,fn:=bR,dr:=fF,sw:=cY},st:=(i8 t n x.13 st s).3,s:=(i8 t n x.13 st s).4})))))
theorem LT:xH CE 3 [.O,.O,.O,.ptr 4 0,.O,.O,.O,.O,.O] (fun t n x=>[some (.abs (.fast t n x.ft) [1])]):=by
 intro t n x st s K h;exact cM' (E:=EH) (by kernel_rfl) h
abbrev w2e:=false=false->(5:Int)=(1:Int)\/(5:Int)=(5:Int)
def CF(t n:Int)(x:DOS)(st:STS)(s:MS):Tr DqO:=.pre True (.ite (w27 x) (.pre (q9' s) (.pre ((t=t/\n=n)/\t=t/\n=n/\(true=false->(4:Int)=(4:Int))/\lE' s.3/\lE' st.3) (.ret {d:=true,x:= {x with code:=1,okk:=false,val:=0,at':=4,hd:=eE,hp:=dD,en:=bW,ft:=dH,aw:=eD,fn:=bR,dr:=fF,sw:=cY},st:=st,s:=(dY s 0) }))) (.pre (lE' s.3/\aCN t n x.14 s) (.ite (F6 t n x.14 s).1 (.pre ((lE' st.3/\DJ t n st.1 (AnO.x (F6 t n x.14 s)).1 x.8 st)/\True) (.pre ((t=t/\n=n)/\t=t/\n=n/\w2e/\lE' (AnO.s (F6 t n x.14 s)).3/\lE' (Prod.snd (xK t n st.1 (AnO.x (F6 t n x.14 s)).1 x.8 st)).3) (.ret {d:=false,x:= {x with at':=5,hd:=eE,hp:=(xK t n st.1 (AnO.x (F6 t n x.14 s)).1 x.8 st).1,en:=bW,ft:=dH,an:=eC,aw:=eD,fn:=bR,dr:=fF,sw:=cY},st:=(xK t n st.1 (AnO.x (F6 t n x.14 s)).1 x.8 st).2,s:=(F6 t n x.14 s).3}))) (.pre ((t=t/\n=n)/\t=t/\n=n/\(false=false->(4:Int)=(4:Int))/\lE' (AnO.s (F6 t n x.14 s)).3/\lE' st.3) (.ret {d:=false,x:= {x with at':=4,hd:=eE,hp:=dD,en:=bW,ft:=dH,an:=(F6 t n x.14 s).2,aw:=eD,fn:=bR,dr:=fF,sw:=cY},st:=st,s:=(F6 t n x.14 s).3})))))
theorem LU:xH CF 4 [.O,.O,.O,.O,.ptr 4 0,.O,.O,.O,.O] (fun t n x=>[some (.abs (.announce t n x.an) [])]):=by
 intro t n x st s K h;exact cM' (E:=EH) (by kernel_rfl) h
def CG(t n:Int)(x:DOS)(st:STS)(s:MS):Tr DqO:=.pre True (.ite (w27 x) (.pre (q9' s) (.pre ((t=t/\n=n)/\t=t/\n=n/\(true=false->(5:Int)=(1:Int)\/(5:Int)=(5:Int))/\lE' s.3/\lE' st.3) (.ret {d:=true,x:= {x with code:=1,okk:=false,val:=0,at':=5,hd:=eE,en:=bW,ft:=dH,an:=eC,aw:=eD,fn:=bR,dr:=fF,sw:=cY},st:=st,s:=(dY s 0) }))) (.pre ((lE' s.3/\lE' st.3/\t=t/\n=n)/\aAq t n x.11 st s) (.ite (gY t n x.11 st s).1 (.pre (QC t n (w29 n s st t x).1/\True) (.pre ((t=t/\n=n)/\t=t/\n=n/\(false=false->(6:Int)=(6:Int))/\lE' (HpO.s (gY t n x.11 st s)).3/\lE' (w29 n s st t x).3) (.ret {d:=false,x:= {x with at':=6,hd:=eE,hp:=dD,en:=bW,ft:=dH,an:=eC,aw:=aC6 t n (w29 n s st t x).1,fn:=bR,dr:=fF,sw:=cY},st:=(gY t n x.11 st s).3,s:=(gY t n x.11 st s).4}))) (.pre ((t=t/\n=n)/\t=t/\n=n/\w2e/\lE' (HpO.s (gY t n x.11 st s)).3/\lE' (w29 n s st t x).3) (.ret {d:=false,x:= {x with at':=5,hd:=eE,hp:=(gY t n x.11 st s).2,en:=bW,ft:=dH,an:=eC,aw:=eD,fn:=bR,dr:=fF,sw:=cY},st:=(gY t n x.11 st s).3,s:=(gY t n x.11 st s).4})))))
theorem LV:xH CG 5 [.O,.ptr 4 0,.O,.O,.O,.O,.O,.O,.O] (fun t n x=>[some (.abs (.help t n x.hp) [1])]):=by
 intro t n x st s K h;exact cM' (E:=EH) (by kernel_rfl) h
abbrev w23(n:Int)(s:MS)(st:STS)(t:Int)(x:DOS):Tr DqO:=.ret {d:=false,x:= {x with code:=(AwO.x (tC t n x.15 s)).1,okk:=(AwO.x (tC t n x.15 s)).2,val:=(AwO.x (tC t n x.15 s)).3,at':=8,hd:=eE,hp:=dD,en:=bW,ft:=dH,an:=eC,aw:=eD,fn:=bR,dr:=CL t n st.1,sw:=cY},st:=st,s:=(tC t n x.15 s).3}
def CH(t n:Int)(x:DOS)(st:STS)(s:MS):Tr DqO:=.pre True (.ite (w27 x) (.pre (q9' s) (.pre ((t=t/\n=n)/\t=t/\n=n/\(true=false->(6:Int)=(6:Int))/\lE' s.3/\lE' st.3) (.ret {d:=true,x:= {x with code:=1,okk:=false,val:=0,at':=6,hd:=eE,hp:=dD,en:=bW,ft:=dH,an:=eC,fn:=bR,dr:=fF,sw:=cY},st:=st,s:=(dY s 0) }))) (.pre (lE' s.3/\aDa t n x.15 s) (.ite (tC t n x.15 s).1 (.ite (!(AwO.x (tC t n x.15 s)).2) (.pre (tE t n st.1/\True) (.pre ((t=t/\n=n)/\t=t/\n=n/\w21/\lE' (AwO.s (tC t n x.15 s)).3/\lE' st.3) (w23 n s st t x))) (.pre True (.ite (!v7 x.5 x.6) (.pre (tE t n st.1/\True) (.pre ((t=t/\n=n)/\t=t/\n=n/\w21/\lE' (AwO.s (tC t n x.15 s)).3/\lE' st.3) (w23 n s st t x))) (.pre True (.pre (pD t n st.1 (fI x.5 x.7) (mV x.5 x.6 x.7) x.8/\True) (.pre ((t=t/\n=n)/\t=t/\n=n/\w2b/\lE' (AwO.s (tC t n x.15 s)).3/\lE' st.3) (.ret {d:=false,x:= {x with code:=(AwO.x (tC t n x.15 s)).1,okk:=(AwO.x (tC t n x.15 s)).2,val:=(AwO.x (tC t n x.15 s)).3,at':=7,hd:=eE,hp:=dD,en:=bW,ft:=dH,an:=eC,aw:=eD,fn:=vP t n st.1 (fI x.5 x.7) (mV x.5 x.6 x.7) x.8,dr:=fF,sw:=cY},st:=st,s:=(tC t n x.15 s).3}))))))) (.pre ((t=t/\n=n)/\t=t/\n=n/\(false=false->(6:Int)=(6:Int))/\lE' (AwO.s (tC t n x.15 s)).3/\lE' st.3) (.ret {d:=false,x:= {x with at':=6,hd:=eE,hp:=dD,en:=bW,ft:=dH,an:=eC,aw:=(tC t n x.15 s).2,fn:=bR,dr:=fF,sw:=cY},st:=st,s:=(tC t n x.15 s).3})))))
theorem LW:xH CH 6 [.O,.O,.O,.O,.O,.ptr 4 0,.O,.O,.O] (fun t n x=>[some (.abs (.answer t n x.aw) [])]):=by
 intro t n x st s K h;exact cM' (E:=EH) (by kernel_rfl) h
def CI(t n:Int)(x:DOS)(st:STS)(s:MS):Tr DqO:=.pre True (.ite (w27 x) (.pre (q9' s) (.pre ((t=t/\n=n)/\t=t/\n=n/\(true=false->(7:Int)=(7:Int))/\lE' s.3/\lE' st.3) (.ret {d:=true,x:= {x with code:=1,okk:=false,val:=0,at':=7,hd:=eE,hp:=dD,en:=bW,ft:=dH,an:=eC,aw:=eD,dr:=fF,sw:=cY},st:=st,s:=(dY s 0) }))) (.pre (lE' s.3/\MO t n x.16 s) (.ite (aM t n x.16 s).1 (.pre ((lE' st.3/\lE' (FnO.x (aM t n x.16 s)).6/\st.3.length+List.length (FnO.x (aM t n x.16 s)).6<=(4294967296:Nat))/\True) (.pre (tE t n st.1/\True) (.pre ((t=t/\n=n)/\t=t/\n=n/\w21/\lE' (FnO.s (aM t n x.16 s)).3/\st.3.length+List.length (FnO.x (aM t n x.16 s)).6=List.length (st.3++(FnO.x (aM t n x.16 s)).6)) (.ret {d:=false,x:= {x with at':=8,hd:=eE,hp:=dD,en:=bW,ft:=dH,an:=eC,aw:=eD,fn:=bR,dr:=CL t n st.1,sw:=cY},st:= {me:=st.1,sp:=st.2,R:=st.3++(FnO.x (aM t n x.16 s)).6},s:=(aM t n x.16 s).3})))) (.pre ((t=t/\n=n)/\t=t/\n=n/\w2b/\lE' (FnO.s (aM t n x.16 s)).3/\lE' st.3) (.ret {d:=false,x:= {x with at':=7,hd:=eE,hp:=dD,en:=bW,ft:=dH,an:=eC,aw:=eD,fn:=(aM t n x.16 s).2,dr:=fF,sw:=cY},st:=st,s:=(aM t n x.16 s).3})))))
theorem LX:xH CI 7 [.O,.O,.O,.O,.O,.O,.ptr 4 0,.O,.O] (fun t n x=>[some (.abs (.find t n x.fn) [])]):=by
 intro t n x st s K h;exact cM' (E:=EH) (by kernel_rfl) h
def CJ(t n:Int)(x:DOS)(st:STS)(s:MS):Tr DqO:=.pre True (.ite (w27 x) (.pre (q9' s) (.pre ((t=t/\n=n)/\t=t/\n=n/\(true=false->(8:Int)=(8:Int))/\lE' s.3/\lE' st.3) (.ret {d:=true,x:= {x with code:=1,okk:=false,val:=0,at':=8,hd:=eE,hp:=dD,en:=bW,ft:=dH,an:=eC,aw:=eD,fn:=bR,sw:=cY},st:=st,s:=(dY s 0) }))) (.pre (lE' s.3/\aDK t n x.17 s) (.ite (VT t n x.17 s).1 (.pre (lE' st.3/\(t=t/\n=n/\lE' st.3)/\True) (.pre ((0:Int)<=t/\t<=(100000:Int)) (.pre ((t=t/\n=n)/\t=t/\n=n/\((!ile (4*t) (↑st.3.length:Int))=false->(9:Int)=(9:Int))/\lE' (DrO.s (VT t n x.17 s)).3/\lE' st.3) (.ret {d:=!ile (4*t) (↑st.3.length:Int),x:= {x with at':=9,hd:=eE,hp:=dD,en:=bW,ft:=dH,an:=eC,aw:=eD,fn:=bR,dr:=fF,sw:=cY},st:=st,s:=(VT t n x.17 s).3})))) (.pre ((t=t/\n=n)/\t=t/\n=n/\w21/\lE' (DrO.s (VT t n x.17 s)).3/\lE' st.3) (.ret {d:=false,x:= {x with at':=8,hd:=eE,hp:=dD,en:=bW,ft:=dH,an:=eC,aw:=eD,fn:=bR,dr:=(VT t n x.17 s).2,sw:=cY},st:=st,s:=(VT t n x.17 s).3})))))
theorem LY:xH CJ 8 [.O,.O,.O,.O,.O,.O,.O,.ptr 4 0,.O] (fun t n x=>[some (.abs (.drop t n x.dr) [])]):=by
 intro t n x st s K h;exact cM' (E:=EH) (by kernel_rfl) h
def CK(t n:Int)(x:DOS)(st:STS)(s:MS):Tr DqO:=.pre True (.ite (w27 x) (.pre (q9' s) (.pre ((t=t/\n=n)/\t=t/\n=n/\(true=false->(9:Int)=(9:Int))/\lE' s.3/\lE' st.3) (.ret {d:=true,x:= {x with code:=1,okk:=false,val:=0,at':=9,hd:=eE,hp:=dD,en:=bW,ft:=dH,an:=eC,aw:=eD,fn:=bR,dr:=fF},st:=st,s:=(dY s 0) }))) (.pre ((lE' s.3/\lE' st.3/\t=t/\n=n)/\tR t n (DOS.sw x) st s) (.ite (swF t n x.18 st s).1 (.pre ((t=t/\n=n)/\(true=false->(9:Int)≠(0:Int)/\(9:Int)≠(1:Int)/\(9:Int)≠(5:Int)/\(9:Int)≠(2:Int)/\(9:Int)≠(3:Int)/\(9:Int)≠(4:Int)/\(9:Int)≠(6:Int)/\(9:Int)≠(7:Int)/\(9:Int)≠(8:Int)/\(9:Int)≠(9:Int))/\lE' (SO.s (swF t n x.18 st s)).3/\lE' (SO.st (swF t n x.18 st s)).3) (.ret {d:=true,x:= {x with at':=9,hd:=eE,hp:=dD,en:=bW,ft:=dH,an:=eC,aw:=eD,fn:=bR,dr:=fF,sw:=cY},st:=(swF t n x.18 st s).3,s:=(swF t n x.18 st s).4})) (.pre ((t=t/\n=n)/\t=t/\n=n/\(false=false->(9:Int)=(9:Int))/\lE' (SO.s (swF t n x.18 st s)).3/\lE' (SO.st (swF t n x.18 st s)).3) (.ret {d:=false,x:= {x with at':=9,hd:=eE,hp:=dD,en:=bW,ft:=dH,an:=eC,aw:=eD,fn:=bR,dr:=fF,sw:=(swF t n x.18 st s).2},st:=(swF t n x.18 st s).3,s:=(swF t n x.18 st s).4})))))
theorem LZ:xH CK 9 [.O,.O,.O,.O,.O,.O,.O,.O,.ptr 4 0] (fun t n x=>[some (.abs (.sweep t n x.sw) [1])]):=by
 intro t n x st s K h;exact cM' (E:=EH) (by kernel_rfl) h
def dqT(t n:Int)(x:DOS)(st:STS)(s:MS):Tr DqO:=
 bif ieq x.at' 0 then CB t n x st s else
 bif ieq x.at' 1 then CC t n x st s else
 bif ieq x.at' 2 then CD t n x st s else
 bif ieq x.at' 3 then CE t n x st s else
 bif ieq x.at' 4 then CF t n x st s else
 bif ieq x.at' 5 then CG t n x st s else
 bif ieq x.at' 6 then CH t n x st s else
 bif ieq x.at' 7 then CI t n x st s else
 bif ieq x.at' 8 then CJ t n x st s else
 bif ieq x.at' 9 then CK t n x st s else .pre False (.ret default)
def uM(t n:Int)(x:DOS)(st:STS)(s:MS):DqO:=(dqT t n x st s).val
def X7(t n:Int)(x:DOS)(st:STS)(s:MS):Prop:=(dqT t n x st s).ok
theorem JC(t n:Int)(x:DOS)(st:STS)(s:MS)(K:AVal->aB Ob->Prop)(h:(dqT t n x st s).run (fun y=>(DqO.fin t n y).run K)):cT' 104 [.ptr 0 0,.ptr 2 0] (dqH t n x st s) K:=by
 unfold dqT at h
 by_cases e:x.at'=0
 ·rw [e]at h;have h:(CB t n x st s).run _:=h;refine aK9 (root:=0) (pos:=[10,11,12,13,14,15,16,17,18]) (cs:=[(.cell 1 4,.ints (some .i64))]) (parse:=LP t n) (fin:=DqO.fin t n) lU ((aR.unpack (.doer t n x) 0 1 (gJ t n x) [1] rfl (congrArg (Prod.mk 1) (qU e)) (by kernel_rfl) rfl).trans (aR.unpack (.store t n st) 1 0 (dP t n st) [] rfl rfl rfl rfl)) ?_
  have q:=LQ t n x st s _ h;rw [<-e]at q;exact q
 rw [bI e]at h
 by_cases e:x.at'=1
 ·rw [e]at h;have h:(CC t n x st s).run _:=h;refine aK9 (root:=0) (pos:=[10,11,12,13,14,15,16,17,18]) (cs:=[(.cell 1 4,.ints (some .i64))]) (parse:=LP t n) (fin:=DqO.fin t n) lU ((aR.unpack (.doer t n x) 0 1 (d4 t n x) [1] rfl (congrArg (Prod.mk 1) (uD e)) (by kernel_rfl) rfl).trans (aR.unpack (.store t n st) 1 0 (dP t n st) [] rfl rfl rfl rfl)) ?_
  have q:=LR t n x st s _ h;rw [<-e]at q;exact q
 rw [bI e]at h
 by_cases e:x.at'=2
 ·rw [e]at h;have h:(CD t n x st s).run _:=h;refine aK9 (root:=0) (pos:=[10,11,12,13,14,15,16,17,18]) (cs:=[(.cell 1 4,.ints (some .i64))]) (parse:=LP t n) (fin:=DqO.fin t n) lU ((aR.unpack (.doer t n x) 0 1 (iT t n x) [1] rfl (congrArg (Prod.mk 1) (uE e)) (by kernel_rfl) rfl).trans (aR.unpack (.store t n st) 1 0 (dP t n st) [] rfl rfl rfl rfl)) ?_
  have q:=LS t n x st s _ h;rw [<-e]at q;exact q
 rw [bI e]at h
 by_cases e:x.at'=3
 ·rw [e]at h;have h:(CE t n x st s).run _:=h;refine aK9 (root:=0) (pos:=[10,11,12,13,14,15,16,17,18]) (cs:=[(.cell 1 4,.ints (some .i64))]) (parse:=LP t n) (fin:=DqO.fin t n) lU ((aR.unpack (.doer t n x) 0 1 (iW t n x) [1] rfl (congrArg (Prod.mk 1) (uF e)) (by kernel_rfl) rfl).trans (aR.unpack (.store t n st) 1 0 (dP t n st) [] rfl rfl rfl rfl)) ?_
  have q:=LT t n x st s _ h;rw [<-e]at q;exact q
 rw [bI e]at h
 by_cases e:x.at'=4
 ·rw [e]at h;have h:(CF t n x st s).run _:=h;refine aK9 (root:=0) (pos:=[10,11,12,13,14,15,16,17,18]) (cs:=[(.cell 1 4,.ints (some .i64))]) (parse:=LP t n) (fin:=DqO.fin t n) lU ((aR.unpack (.doer t n x) 0 1 (iQ t n x) [1] rfl (congrArg (Prod.mk 1) (uG e)) (by kernel_rfl) rfl).trans (aR.unpack (.store t n st) 1 0 (dP t n st) [] rfl rfl rfl rfl)) ?_
  have q:=LU t n x st s _ h;rw [<-e]at q;exact q
 rw [bI e]at h
 by_cases e:x.at'=5
 ·rw [e]at h;have h:(CG t n x st s).run _:=h;refine aK9 (root:=0) (pos:=[10,11,12,13,14,15,16,17,18]) (cs:=[(.cell 1 4,.ints (some .i64))]) (parse:=LP t n) (fin:=DqO.fin t n) lU ((aR.unpack (.doer t n x) 0 1 (d4 t n x) [1] rfl (congrArg (Prod.mk 1) (uH e)) (by kernel_rfl) rfl).trans (aR.unpack (.store t n st) 1 0 (dP t n st) [] rfl rfl rfl rfl)) ?_
  have q:=LV t n x st s _ h;rw [<-e]at q;exact q
 rw [bI e]at h
 by_cases e:x.at'=6
 ·rw [e]at h;have h:(CH t n x st s).run _:=h;refine aK9 (root:=0) (pos:=[10,11,12,13,14,15,16,17,18]) (cs:=[(.cell 1 4,.ints (some .i64))]) (parse:=LP t n) (fin:=DqO.fin t n) lU ((aR.unpack (.doer t n x) 0 1 (iR t n x) [1] rfl (congrArg (Prod.mk 1) (uI e)) (by kernel_rfl) rfl).trans (aR.unpack (.store t n st) 1 0 (dP t n st) [] rfl rfl rfl rfl)) ?_
  have q:=LW t n x st s _ h;rw [<-e]at q;exact q
 rw [bI e]at h
 by_cases e:x.at'=7
 ·rw [e]at h;have h:(CI t n x st s).run _:=h;refine aK9 (root:=0) (pos:=[10,11,12,13,14,15,16,17,18]) (cs:=[(.cell 1 4,.ints (some .i64))]) (parse:=LP t n) (fin:=DqO.fin t n) lU ((aR.unpack (.doer t n x) 0 1 (iU t n x) [1] rfl (congrArg (Prod.mk 1) (uJ e)) (by kernel_rfl) rfl).trans (aR.unpack (.store t n st) 1 0 (dP t n st) [] rfl rfl rfl rfl)) ?_
  have q:=LX t n x st s _ h;rw [<-e]at q;exact q
 rw [bI e]at h
 by_cases e:x.at'=8
 ·rw [e]at h;have h:(CJ t n x st s).run _:=h;refine aK9 (root:=0) (pos:=[10,11,12,13,14,15,16,17,18]) (cs:=[(.cell 1 4,.ints (some .i64))]) (parse:=LP t n) (fin:=DqO.fin t n) lU ((aR.unpack (.doer t n x) 0 1 (iS t n x) [1] rfl (congrArg (Prod.mk 1) (uK e)) (by kernel_rfl) rfl).trans (aR.unpack (.store t n st) 1 0 (dP t n st) [] rfl rfl rfl rfl)) ?_
  have q:=LY t n x st s _ h;rw [<-e]at q;exact q
 rw [bI e]at h
 by_cases e:x.at'=9
 ·rw [e]at h;have h:(CK t n x st s).run _:=h;refine aK9 (root:=0) (pos:=[10,11,12,13,14,15,16,17,18]) (cs:=[(.cell 1 4,.ints (some .i64))]) (parse:=LP t n) (fin:=DqO.fin t n) lU ((aR.unpack (.doer t n x) 0 1 (iX t n x) [1] rfl (congrArg (Prod.mk 1) (uL e)) (by kernel_rfl) rfl).trans (aR.unpack (.store t n st) 1 0 (dP t n st) [] rfl rfl rfl rfl)) ?_
  have q:=LZ t n x st s _ h;rw [<-e]at q;exact q
 rw [bI e]at h;exact h.1.elim
noncomputable def dqSA:aI Ob:=fun args h=>match args,h with
 | [.ptr 0 0,.ptr 2 0],[some (.abs (.doer t n x) [1]),some (.abs (.store t2 n2 st) []),e3,e4]=>(match cO 3 [e3,e4]with
   | some (l,s)=>some (.pre ((l=s.xs.length/\t2=t/\n2=n)/\X7 t n x st s) (DqO.fin t n (uM t n x st s)))
   | none=>none)
 | _,_=>none
theorem aDD:sT' 104 dqSA:=by
 intro args h o ho K g;unfold dqSA at ho;split at ho
 case h_2=>cases ho
 split at ho<;>cases ho
 rename_i hm;obtain⟨⟨⟨hl,rfl,rfl⟩,ok⟩,g⟩:=g;cases bC hm hl;exact JC _ _ _ _ _ K (aLf ok g)
def DqO.finB(t n:Int)(y:DqO):Out Ob:=.ite y.d (.ret (.bool true) ([cE' [.ptr 1 0,.I y.x.code,.bool y.x.okk,.I y.x.val,.bool y.x.slow,.I y.x.sh,.I y.x.kd,.I y.x.ky,.I y.x.limit,.I y.x.at',.O,.O,.O,.O,.O,.O,.O,.O,.O],lD 5 t n y.st,none,bF 4 y.s,bG y.s,oV y.st])) (.ret (.bool false) [some (.abs (.doer t n y.x) [1]),lD 5 t n y.st,none,bF 4 y.s,bG y.s,oV y.st])
noncomputable def dqSB:aI Ob:=fun args h=>match args,h with
 | [.ptr 0 0,.ptr 3 0],[some (.abs (.doer t n x) [1]),e1,e2,e3,e4]=>(match lZ 2 [e1,e2],cO 4 [e3,e4]with
   | some (l2,t2,n2,st),some (l,s)=>some (.pre ((l=s.xs.length/\l2=st.R.length/\t2=t/\n2=n)/\X7 t n x st s) (DqO.finB t n (uM t n x st s)))
   | _,_=>none)
 | _,_=>none
theorem aDE:sT' 104 dqSB:=by
 intro args h o ho K g;unfold dqSB at ho;split at ho
 case h_2=>cases ho
 split at ho<;>cases ho
 rename_i hs hm;obtain⟨⟨⟨hl,aa,rfl,rfl⟩,ok⟩,g⟩:=g;cases bC hm hl;cases cB hs aa;exact kH (fun ι hι=>by simp [aG.ren,aLn,AVal.ren,hι]) (fun ι hι=>by simp [aG.ren,hι]) (fun K g=>JC _ _ _ _ _ K (aLf ok g)) K g
noncomputable def dqS:aI Ob:=aI.or dqSA dqSB
theorem aG4:sT' 104 dqS:=aLK aDD aDE
def aDr(t n:Int)(v:AVal)(g:aB Ob):Option (Prop×(DOS×STS)):=match v,g with
 | .ptr 2 0,[e1,e2,some (.cells [.ptr 0 0,.int .i64 code,.bool okk,.int .i64 val,.bool slow,.int .i64 sh,.int .i64 kd,.int .i64 ky,.int .i64 limit,.int .i64 at',.ptr 3 0,.O,.O,.O,.O,.O,.O,.O,.O]),some (.abs (.head t' n' sub) [])]=>(match lZ 1 [e1,e2]with
   | some (l2,t2,n2,st)=>some ((t2=t/\n2=n/\l2=st.R.length)/\t'=t/\n'=n/\at'=0,⟨(⟨code,okk,val,slow,sh,kd,ky,limit,at',sub,dD,bW,dH,⟨0,0,0,0,false,0⟩,⟨0,false,0,0⟩,bR,⟨0,0⟩,cY⟩:DOS),st⟩)
   | none=>none)
 | _,_=>none
abbrev X5(t n:Int)(y:(DOS×STS)):aB Ob:=[lD 1 t n y.2,oV y.2,some (.abs (.doer t n y.1) [0])]
theorem X6{t n:Int} :bP (obI tbl) 2 (aDr t n) (fun y=>.ret (.ptr 2 0) (X5 t n y)):=by
 intro v g p x hp hq K hK;unfold aDr at hp;split at hp
 case h_2=>cases hp
 rename_i e1 e2 code okk val slow sh kd ky limit at' t' n' sub;split at hp
 case h_2=>cases hp
 rename_i l2 t2 n2 st hs;cases hp;obtain⟨⟨rfl,rfl,aa⟩,rfl,rfl,ac⟩:=hq;cases cB hs aa;exact let X0:DOS:=⟨code,okk,val,slow,sh,kd,ky,limit,at',sub,dD,bW,dH,⟨0,0,0,0,false,0⟩,⟨0,false,0,0⟩,bR,⟨0,0⟩,cY⟩;⟨⟨_,_,aE.pack (X5 t' n' (X0,st)) (.doer t' n' X0) 2 1 (gJ t' n' X0) [0] (by kernel_rfl) rfl (congrArg (Prod.mk 1) (qU ac)) (by kernel_rfl),hK⟩⟩
def QY(t n:Int)(sh kd ky lim:Int)(st:STS):Tr (DOS×STS):=.pre (SL t n/\True) (.pre ((t=t/\n=n/\lE' st.3)/\t=t/\n=n/\(0:Int)=(0:Int)) (.ret ({code:=0,okk:=false,val:=0,slow:=false,sh:=sh,kd:=kd,ky:=ky,limit:=lim,at':=0,hd:=aEP t n,hp:=dD,en:=bW,ft:=dH,an:=eC,aw:=eD,fn:=bR,dr:=fF,sw:=cY},st)))
def dqNF(t n:Int)(sh kd ky lim:Int)(st:STS):(DOS×STS):=(QY t n sh kd ky lim st).val
def QX(t n:Int)(sh kd ky lim:Int)(st:STS):Prop:=(QY t n sh kd ky lim st).ok
def dqNS:aI Ob:=fun args h=>match args,h with
 | [.ptr 0 0,.agg [.int .i64 sh,.int .i64 kd,.int .i64 ky],.int .i64 lim],[e1,e2]=>(match lZ 1 [e1,e2]with
   | some (l2,t,n,st)=>some (.pre (l2=st.R.length/\QX t n sh kd ky lim st) (.ret (.ptr 2 0) (X5 t n (dqNF t n sh kd ky lim st))))
   | none=>none)
 | _,_=>none
theorem GS:sT' 103 dqNS:=by
 intro args h o ho K hK;unfold dqNS at ho;split at ho
 case h_2=>cases ho
 rename_i sh kd ky lim e1 e2;split at ho<;>cases ho
 rename_i l2 t n st hs;obtain⟨⟨g,ok⟩,hK⟩:=hK;cases cB hs g;refine aLm (root:=2) (pos:=[10,11,12,13,14,15,16,17,18]) (cs:=[]) (parse:=aDr t n) X6 ?_;exact cM' (E:=EH) (q:=(QY t n sh kd ky lim st).run (fun y=>(Out.ret (.ptr 2 0) (X5 t n y)).run K)) (by kernel_rfl) (aLf ok hK)
noncomputable def ED:=((EH.addS 104 dqS aG4).addS 103 dqNS GS)
end Go.Sh
