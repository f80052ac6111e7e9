import Derived.Test.YteindpciaceeeaaGreatZM42toGC6
set_option linter.all false
set_option maxHeartbeats 8000000
namespace Go.Sh
open Go Go.Proofs
variable [Con]
structure PrO where
 d:Bool
 x:PRS
 st:STS
 s:MS
instance:Inhabited PrO:=⟨⟨false,⟨0,0,0,false⟩,⟨0,0,[]⟩,⟨0,0,[],0,0,0,0,0,false⟩⟩⟩
instance:Inhabited PRS:=⟨⟨0,0,0,false⟩⟩
abbrev prH(t n:Int)(x:PRS)(st:STS)(s:MS):aC Ob:=[some (.abs (.prepare t n x) [1]),some (.abs (.store t n st) []),bI 3 s,bJ s]
abbrev prD(t n:Int)(x:PRS)(st:STS)(s:MS):aC Ob:=[cE' [.ptr 1 0,.I x.key,.I x.nxt,.int .u64 x.found,.bool x.loaded],some (.abs (.store t n st) []),bI 3 s,bJ s]
def PrO.fin(t n:Int)(y:PrO):Out Ob:=.ite y.d (.ret (.bool true) (prD t n y.x y.st y.s)) (.ret (.bool false) (prH t n y.x y.st y.s))
def aF4(t n:Int)(v:AVal)(g:aC Ob):Option (Prop×PrO):=match v,g with
 | .bool d,[some (.cells [.ptr 1 0,.int .i64 key,.int .i64 nxt,.int .u64 found,.bool loaded]),e1,e3,e4,e2]=>(match l9 4 [e1,e2],cQ 3 [e3,e4]with
   | some (l2,t2,n2,st),some (l,s)=>some ((t2=t/\n2=n)/\l=s.xs.length/\l2=st.R.length,⟨d,⟨key,nxt,found,loaded⟩,st,s⟩)
   | _,_=>none)
 | _,_=>none
def prP(t n:Int)(v:AVal)(g:aC Ob):Option (Prop×PrO):=aF4 t n v g
theorem aBk{t n:Int} :bQ (obI tbl) 4 (aF4 t n) (PrO.fin t n):=by
 intro v g p x hp hq K hK;unfold aF4 at hp;split at hp
 case h_2=>cases hp
 rename_i d key nxt found loaded e1 e3 e4 e2;split at hp
 case h_2=>cases hp
 rename_i l2 t2 n2 st l s hs hm;cases hp;obtain⟨⟨rfl,rfl⟩,hl,aa⟩:=hq;cases bB hm hl;cases cB hs aa;refine sE hK (fun h=>?_) (fun h=>?_)
 ·exact tkP h (.store t2 n2 st) 1 0 (dP t2 n2 st) []
 ·exact xU h (.store t2 n2 st) 1 0 (dP t2 n2 st) [] 0 [1] rfl (congrArg (Prod.mk 1) rfl)
theorem aF5{t n:Int} :bQ (obI tbl) 4 (prP t n) (PrO.fin t n):=by
 intro v g p x hp hq K hK;unfold prP at hp;exact aBk v g p x hp hq K hK
def aBl(t n:Int)(x:PRS)(st:STS)(s:MS):Tr PrO:=.ite (!x.4) (.pre (q9' s) (.pre ((t=t/\n=n)/\lE' s.3/\lE' st.3) (.ret {d:=false,x:= {key:=x.1,nxt:=x.2,found:=aE s.3 st.2,loaded:=true},st:=st,s:=(eC s st.2) }))) (.pre True (.pre ((0:Int)<=aB x.3 25 18/\aB x.3 25 (18:Int)<=(1000000:Int)) (.pre True (.pre (q9' s) (.pre ((t=t/\n=n)/\lE' (aX s.3 st.2 (bif bif aN x.1 10 then bif aN x.2 9 then bif aN 0 5 then aN (aW (aB x.3 25 18)) 18 else false else false else false then cV x.1 x.2 false 0 (aW (aB x.3 25 18))else 0))/\lE' st.3) (.ret {d:=true,x:=x,st:=st,s:=(O6 s 2 st.2 (bif bif aN x.1 10 then bif aN x.2 9 then bif aN 0 5 then aN (aW (aB x.3 25 18)) 18 else false else false else false then cV x.1 x.2 false 0 (aW (aB x.3 25 18))else 0)) }))))))
theorem UR(t n:Int)(x:PRS)(st:STS)(s:MS)(K:PrO->Prop)(h:(aBl t n x st s).run K):cT' 216 [.ptr 0 0,.ptr 2 0] [cE' [.ptr 1 0,.I x.key,.I x.nxt,.int .u64 x.found,.bool x.loaded],lJ 4 t n st,bI 3 s,bJ s,pJ st] (fG 4 0 [] [(.cell 1 4,.ints (some .i64))] (prP t n) K):=by
 exact cM' (E:=EC6) (by kernel_rfl) h
def prT(t n:Int)(x:PRS)(st:STS)(s:MS):Tr PrO:=aBl t n x st s
def prF(t n:Int)(x:PRS)(st:STS)(s:MS):PrO:=(prT t n x st s).val
def aBj(t n:Int)(x:PRS)(st:STS)(s:MS):Prop:=(prT t n x st s).ok
theorem aBm(t n:Int)(x:PRS)(st:STS)(s:MS)(K:AVal->aC Ob->Prop)(h:(prT t n x st s).run (fun y=>(PrO.fin t n y).run K)):cT' 216 [.ptr 0 0,.ptr 2 0] (prH t n x st s) K:=by
 unfold prT at h;exact aLx (root:=0) (pos:=[]) (cs:=[(.cell 1 4,.ints (some .i64))]) (parse:=prP t n) (fin:=PrO.fin t n) aF5 ((aQ.unpack (.prepare t n x) 0 1 (tH t n x) [1] rfl (congrArg (Prod.mk 1) rfl) (by kernel_rfl) rfl).trans (aQ.unpack (.store t n st) 1 0 (dP t n st) [] rfl rfl rfl rfl)) (UR t n x st s _ h)
def PrO.finB(t n:Int)(y:PrO):Out Ob:=.ite y.d (.ret (.bool true) ([cE' [.ptr 1 0,.I y.x.key,.I y.x.nxt,.int .u64 y.x.found,.bool y.x.loaded],lJ 5 t n y.st,none,bI 4 y.s,bJ y.s,pJ y.st])) (.ret (.bool false) [some (.abs (.prepare t n y.x) [1]),lJ 5 t n y.st,none,bI 4 y.s,bJ y.s,pJ y.st])
noncomputable def prSB:aI Ob:=fun args h=>match args,h with
 | [.ptr 0 0,.ptr 3 0],[some (.abs (.prepare t n x) [1]),e1,e2,e3,e4]=>(match l9 2 [e1,e2],cQ 4 [e3,e4]with
   | some (l2,t2,n2,st),some (l,s)=>some (.pre ((l=s.xs.length/\l2=st.R.length/\t2=t/\n2=n)/\aBj t n x st s) (PrO.finB t n (prF t n x st s)))
   | _,_=>none)
 | _,_=>none
theorem aF6:sT' 216 prSB:=by
 intro args h o ho K hK;unfold prSB at ho;split at ho
 case h_2=>cases ho
 split at ho
 case h_2=>cases ho
 rename_i hs hm;cases ho;obtain⟨⟨⟨hl,aa,rfl,rfl⟩,ok⟩,hK⟩:=hK;cases bB hm hl;cases cB hs aa;exact kP (fun ι hι=>by simp [aG.ren,aLL,AVal.ren,hι]) (fun ι hι=>by simp [aG.ren,hι]) (fun K hK=>aBm _ _ _ _ _ K (aLD ok hK)) K hK
noncomputable def prS:aI Ob:=prSB
theorem aIY:sT' 216 prS:=aF6
def aF1(t n:Int)(v:AVal)(g:aC Ob):Option (Prop×(PRS×STS)):=match v,g with
 | .ptr 2 0,[e1,e2,some (.cells [.ptr 0 0,.int .i64 key,.int .i64 nxt,.int .u64 found,.bool loaded])]=>(match l9 1 [e1,e2]with
   | some (l2,t2,n2,st)=>some ((t2=t/\n2=n/\l2=st.R.length),⟨(⟨key,nxt,found,loaded⟩:PRS),st⟩)
   | none=>none)
 | _,_=>none
abbrev aBh(t n:Int)(y:(PRS×STS)):aC Ob:=[lJ 1 t n y.2,pJ y.2,some (.abs (.prepare t n y.1) [0])]
theorem aBi{t n:Int} :bQ (obI tbl) 2 (aF1 t n) (fun y=>.ret (.ptr 2 0) (aBh t n y)):=by
 intro v g p x hp hq K hK;unfold aF1 at hp;split at hp
 case h_2=>cases hp
 rename_i e1 e2 key nxt found loaded;split at hp
 case h_2=>cases hp
 rename_i l2 t2 n2 st hs;cases hp;obtain⟨rfl,rfl,aa⟩:=hq;cases cB hs aa;exact⟨⟨_,_,aF.pack (aBh t2 n2 ((⟨key,nxt,found,loaded⟩:PRS),st)) (.prepare t2 n2 (⟨key,nxt,found,loaded⟩:PRS)) 2 1 (tH t2 n2 (⟨key,nxt,found,loaded⟩:PRS)) [0] (by kernel_rfl) rfl (congrArg (Prod.mk 1) rfl) (by kernel_rfl),hK⟩⟩
def OS(t n:Int)(key nx:Int)(st:STS):Tr (PRS×STS):=.pre (t=t/\n=n/\lE' st.3) (.ret ({key:=key,nxt:=nx,found:=0,loaded:=false},st))
def qR(t n:Int)(key nx:Int)(st:STS):(PRS×STS):=(OS t n key nx st).val
def EU(t n:Int)(key nx:Int)(st:STS):Prop:=(OS t n key nx st).ok
def prNS:aI Ob:=fun args h=>match args,h with
 | [.ptr 0 0,.int .i64 key,.int .i64 nx],[e1,e2]=>(match l9 1 [e1,e2]with
   | some (l2,t,n,st)=>some (.pre (l2=st.R.length/\EU t n key nx st) (.ret (.ptr 2 0) (aBh t n (qR t n key nx st))))
   | none=>none)
 | _,_=>none
theorem aF2:sT' 259 prNS:=by
 intro args h o ho K hK;unfold prNS at ho;split at ho
 case h_2=>cases ho
 rename_i key nx e1 e2;split at ho
 case h_2=>cases ho
 rename_i l2 t n st hs;cases ho;obtain⟨⟨aa,ok⟩,hK⟩:=hK;cases cB hs aa;refine aLK (root:=2) (pos:=[]) (cs:=[]) (parse:=aF1 t n) aBi ?_;exact cM' (E:=EC6) (q:=(OS t n key nx st).run (fun y=>(Out.ret (.ptr 2 0) (aBh t n y)).run K)) (by kernel_rfl) (aLD ok hK)
noncomputable def EC7:=((EC6.addS 216 prS aIY).addS 259 prNS aF2)
structure FnO where
 d:Bool
 x:FNS
 s:MS
instance:Inhabited FnO:=⟨⟨false,bR,⟨0,0,[],0,0,0,0,0,false⟩⟩⟩
instance:Inhabited FNS:=⟨bR⟩
abbrev fnH(t n:Int)(x:FNS)(s:MS):aC Ob:=[some (.abs (.find t n x) []),bI 2 s,bJ s]
abbrev fnD(t n:Int)(x:FNS)(s:MS):aC Ob:=[cE' [.I t,.I n,.I x.pred,.int .u64 x.pw,.I x.curr,.int .u64 x.cw,.I x.tries,.slice 3 0 x.ul.length 1,.bool x.ab,.I x.me,.I x.frm,.I x.key,.I x.limit,.I x.at',.I x.moved,.O],bI 2 s,bJ s,iI' x.ul]
def FnO.fin(t n:Int)(y:FnO):Out Ob:=.ite y.d (.ret (.bool true) (fnD t n y.x y.s)) (.ret (.bool false) (fnH t n y.x y.s))
def aEM(t n:Int)(v:AVal)(g:aC Ob):Option (Prop×FnO):=match v,g with
 | .bool d,[some (.cells [.int .i64 t1,.int .i64 n1,.int .i64 pred,.int .u64 pw,.int .i64 curr,.int .u64 cw,.int .i64 tries,.slice 3 0 ul_l 1,.bool ab,.int .i64 me,.int .i64 frm,.int .i64 key,.int .i64 limit,.int .i64 at',.int .i64 moved,.O]),e1,e2,some (.ints (some .i64) ul)]=>(match cQ 2 [e1,e2]with
   | some (l,s)=>some ((t1=t/\n1=n)/\ul_l=ul.length/\(d=false->at'≠4)/\l=s.xs.length,⟨d,⟨pred,pw,curr,cw,tries,ul,ab,me,frm,key,limit,at',moved,⟨0,0,0,0⟩⟩,s⟩)
   | none=>none)
 | _,_=>none
def aEN(t n:Int)(v:AVal)(g:aC Ob):Option (Prop×FnO):=match v,g with
 | .bool d,[some (.cells [.int .i64 t1,.int .i64 n1,.int .i64 pred,.int .u64 pw,.int .i64 curr,.int .u64 cw,.int .i64 tries,.slice 3 0 ul_l 1,.bool ab,.int .i64 me,.int .i64 frm,.int .i64 key,.int .i64 limit,.int .i64 at',.int .i64 moved,.ptr 4 0]),e1,e2,some (.ints (some .i64) ul),some (.abs (.clear t' n' sub) [])]=>(match cQ 2 [e1,e2]with
   | some (l,s)=>some ((t1=t/\n1=n)/\ul_l=ul.length/\t'=t/\n'=n/\(d=false->at'=4)/\l=s.xs.length,⟨d,⟨pred,pw,curr,cw,tries,ul,ab,me,frm,key,limit,at',moved,sub⟩,s⟩)
   | none=>none)
 | _,_=>none
def WM(t n:Int)(v:AVal)(g:aC Ob):Option (Prop×FnO):=(match aEM t n v g with
 | some r=>some r
 | none=>aEN t n v g)
theorem ZU{t n:Int} :bQ (obI tbl) 3 (aEM t n) (FnO.fin t n):=by
 intro v g p x hp hq K hK;unfold aEM at hp;split at hp
 case h_2=>cases hp
 rename_i d t1 n1 pred pw curr cw tries ul_l ab me frm key limit at' moved e1 e2 ul;split at hp
 case h_2=>cases hp
 rename_i l s hm;cases hp;obtain⟨⟨rfl,rfl⟩,rfl,aa,hl⟩:=hq;cases bB hm hl;refine fV hK (fun h=>?_) (fun hd h=>?_)
 ·exact⟨⟨_,_,aLM _ _ _,h⟩⟩
 ·exact⟨⟨_,_,(aF.pack (fnH t1 n1 (⟨pred,pw,curr,cw,tries,ul,ab,me,frm,key,limit,at',moved,⟨0,0,0,0⟩⟩:FNS) s) (.find t1 n1 (⟨pred,pw,curr,cw,tries,ul,ab,me,frm,key,limit,at',moved,⟨0,0,0,0⟩⟩:FNS)) 0 0 (l5 t1 n1 (⟨pred,pw,curr,cw,tries,ul,ab,me,frm,key,limit,at',moved,⟨0,0,0,0⟩⟩:FNS)) [] (by kernel_rfl) rfl (congrArg (Prod.mk 0) (jH (aa hd))) (by kernel_rfl)),h⟩⟩
theorem ZV{t n:Int} :bQ (obI tbl) 3 (aEN t n) (FnO.fin t n):=by
 intro v g p x hp hq K hK;unfold aEN at hp;split at hp
 case h_2=>cases hp
 rename_i d t1 n1 pred pw curr cw tries ul_l ab me frm key limit at' moved e1 e2 ul t' n' sub;split at hp
 case h_2=>cases hp
 rename_i l s hm;cases hp;obtain⟨⟨rfl,rfl⟩,rfl,rfl,rfl,aa,hl⟩:=hq;cases bB hm hl;refine fV hK (fun h=>?_) (fun hd h=>?_)
 ·exact⟨⟨_,_,(aF.weak (eH _ 0 [15])).trans ((aF.pick (upto 0 4) rfl).trans (aLE (by kernel_rfl) (by kernel_rfl))),h⟩⟩
 ·exact⟨⟨_,_,(aF.pack (fnH t' n' (⟨pred,pw,curr,cw,tries,ul,ab,me,frm,key,limit,at',moved,sub⟩:FNS) s) (.find t' n' (⟨pred,pw,curr,cw,tries,ul,ab,me,frm,key,limit,at',moved,sub⟩:FNS)) 0 0 (rR t' n' (⟨pred,pw,curr,cw,tries,ul,ab,me,frm,key,limit,at',moved,sub⟩:FNS)) [] (by kernel_rfl) rfl (congrArg (Prod.mk 0) (JO (aa hd))) (by kernel_rfl)),h⟩⟩
theorem qK{t n:Int} :bQ (obI tbl) 3 (WM t n) (FnO.fin t n):=by
 intro v g p x hp hq K hK;unfold WM at hp;split at hp
 ·rename_i r hr;cases hp;exact ZU v g p x hr hq K hK
 exact ZV v g p x hp hq K hK
abbrev w12:=false=false->(0:Int)≠(4:Int)
abbrev w13(s:MS)(x:FNS):=ieq (aB (aE s.3 x.1) 10 9) (0:Int)=false->(1:Int)≠(4:Int)
abbrev w14(x:FNS):=ilt x.11 (W (x.5+1))
abbrev w16(s:MS)(x:FNS):Tr FnO:=.ret {d:=ieq (aB (aE s.3 x.1) 10 9) 0,x:= {x with pred:=0,pw:=aE s.3 x.1,curr:=aB (aE s.3 x.1) 10 9,cw:=0,tries:=W (x.5+1),ab:=ilt x.11 (W (x.5+1)),at':=1,cl:=bY},s:=(eC s x.1) }
abbrev w17(s:MS)(x:FNS):Tr FnO:=.ret {d:=ieq (aB (aE s.3 x.1) 10 9) 0,x:= {x with pw:=aE s.3 x.1,curr:=aB (aE s.3 x.1) 10 9,cw:=0,tries:=W (x.5+1),ab:=ilt x.11 (W (x.5+1)),at':=1,cl:=bY},s:=(eC s x.1) }
abbrev w1a(s:MS)(x:FNS):Tr FnO:=.ret {d:=false,x:= {x with pred:=x.9,pw:=0,curr:=0,cw:=0,tries:=W (x.5+1),ab:=ilt x.11 (W (x.5+1)),at':=0,moved:=0,cl:=bY},s:=(eC s x.1) }
abbrev w1b:=true=false->(0:Int)≠(4:Int)
abbrev w1c(s:MS)(x:FNS):=ieq (aB (aE s.3 x.1) 19 1) 1
abbrev w1d(s:MS)(x:FNS):Tr FnO:=.ret {d:=false,x:= {x with pred:=x.9,tries:=W (x.5+1),ab:=ilt x.11 (W (x.5+1)),at':=0,moved:=0,cl:=bY},s:=(eC s x.1) }
def DC(t n:Int)(x:FNS)(s:MS):Tr FnO:=.pre (q9' s) (.pre True (.ite (w1c s x) (.ite (w14 x) (.ite (w14 x) (.pre ((t=t/\n=n)/\lE' x.6/\w1b/\lE' s.3) (.ret {d:=true,x:= {x with pred:=0,pw:=0,curr:=0,cw:=0,tries:=W (x.5+1),ab:=ilt x.11 (W (x.5+1)),at':=0,cl:=bY},s:=(eC s x.1) })) (.pre True (.ite (w1c s x) (.pre ((t=t/\n=n)/\lE' x.6/\w12/\lE' s.3) (w1a s x)) (.pre ((t=t/\n=n)/\lE' x.6/\(w13 s x)/\lE' s.3) (w16 s x))))) (.ite (w14 x) (.pre ((t=t/\n=n)/\lE' x.6/\w1b/\lE' s.3) (.ret {d:=true,x:= {x with tries:=W (x.5+1),ab:=ilt x.11 (W (x.5+1)),at':=0,cl:=bY},s:=(eC s x.1) })) (.pre True (.ite (w1c s x) (.pre ((t=t/\n=n)/\lE' x.6/\w12/\lE' s.3) (w1d s x)) (.pre ((t=t/\n=n)/\lE' x.6/\(w13 s x)/\lE' s.3) (w17 s x)))))) (.pre True (.ite (w1c s x) (.pre ((t=t/\n=n)/\lE' x.6/\w12/\lE' s.3) (.ret {d:=false,x:= {x with pred:=x.9,at':=0,moved:=0,cl:=bY},s:=(eC s x.1) })) (.pre ((t=t/\n=n)/\lE' x.6/\(w13 s x)/\lE' s.3) (.ret {d:=ieq (aB (aE s.3 x.1) 10 9) 0,x:= {x with pw:=aE s.3 x.1,curr:=aB (aE s.3 x.1) 10 9,cw:=0,at':=1,cl:=bY},s:=(eC s x.1) }))))))
abbrev HK(F:Int->Int->FNS->MS->Tr FnO)(a:Int)(l:List AVal)(e:Int->Int->FNS->aC Ob):Prop:= ∀(t n:Int) (x:FNS) (s:MS) (K:FnO->Prop) (h:(F t n x s).run K),cT' 163 [.ptr 0 0,.ptr 1 0] ([some (.cells ([.I t,.I n,.I x.pred,.int .u64 x.pw,.I x.curr,.int .u64 x.cw,.I x.tries,.slice 3 0 x.ul.length 1,.bool x.ab,.I x.me,.I x.frm,.I x.key,.I x.limit,.I a,.I x.moved]++l)),bI 2 s,bJ s,iI' x.ul]++e t n x) (fG 3 0 [15] [(.cell 0 7,.ints (some .i64))] (WM t n) K)
theorem MX:HK DC 0 [.O] (fun t n x=>[]):=by
 intro t n x s K h;exact cM' (E:=EC7) (by kernel_rfl) h
def DD(t n:Int)(x:FNS)(s:MS):Tr FnO:=.pre ((((0:Int)<=t/\t<=(100000:Int))/\((0:Int)<=n/\n<=(100000:Int))/\((-1099511627776:Int)<=x.8/\x.8<=(1099511627776:Int))/\(-1099511627776:Int)<=(1:Int)/\(1:Int)<=(1099511627776:Int))/\True) (.pre ((q9' s)/\True) (.pre ((t=t/\n=n)/\lE' x.6/\(false=false->(2:Int)≠(4:Int))/\lE' (aX s.3 (2*n+5+2*x.8+1) (WU x.3))) (.ret {d:=false,x:= {x with at':=2,cl:=bY},s:=(O6 s 2 (2*n+5+2*x.8+1) (WU x.3)) })))
theorem MY:HK DD 1 [.O] (fun t n x=>[]):=by
 intro t n x s K h;exact cM' (E:=EC7) (by kernel_rfl) h
def DE(t n:Int)(x:FNS)(s:MS):Tr FnO:=.pre (q9' s) (.ite (!ieq (aE s.3 x.1) x.2) (.ite (w14 x) (.ite (w14 x) (.pre ((t=t/\n=n)/\lE' x.6/\(true=false->(2:Int)≠(4:Int))/\lE' s.3) (.ret {d:=true,x:= {x with pred:=0,pw:=0,curr:=0,cw:=0,tries:=W (x.5+1),ab:=ilt x.11 (W (x.5+1)),at':=2,cl:=bY},s:=(eC s x.1) })) (.pre True (.ite (w1c s x) (.pre ((t=t/\n=n)/\lE' x.6/\w12/\lE' s.3) (w1a s x)) (.pre ((t=t/\n=n)/\lE' x.6/\(w13 s x)/\lE' s.3) (w16 s x))))) (.ite (w14 x) (.pre ((t=t/\n=n)/\lE' x.6/\(true=false->(2:Int)≠(4:Int))/\lE' s.3) (.ret {d:=true,x:= {x with tries:=W (x.5+1),ab:=ilt x.11 (W (x.5+1)),at':=2,cl:=bY},s:=(eC s x.1) })) (.pre True (.ite (w1c s x) (.pre ((t=t/\n=n)/\lE' x.6/\w12/\lE' s.3) (w1d s x)) (.pre ((t=t/\n=n)/\lE' x.6/\(w13 s x)/\lE' s.3) (w17 s x)))))) (.pre ((t=t/\n=n)/\lE' x.6/\(false=false->(3:Int)≠(4:Int))/\lE' s.3) (.ret {d:=false,x:= {x with at':=3,cl:=bY},s:=(eC s x.1) })))
theorem MZ:HK DE 2 [.O] (fun t n x=>[]):=by
 intro t n x s K h;exact cM' (E:=EC7) (by kernel_rfl) h
abbrev w18:=false=false->(4:Int)=(4:Int)
def DF(t n:Int)(x:FNS)(s:MS):Tr FnO:=.pre (q9' s) (.pre True (.ite (!ieq (aB (aE s.3 x.3) 19 1) 1) (.ite (ile x.10 (aB (aE s.3 x.3) 0 10)) (.pre ((t=t/\n=n)/\lE' x.6/\(true=false->(3:Int)≠(4:Int))/\lE' s.3) (.ret {d:=true,x:= {x with cw:=aE s.3 x.3,at':=3,cl:=bY},s:=(eC s x.3) })) (.ite (!ieq (aB (aE s.3 x.3) 19 1) 1) (.pre ((t=t/\n=n)/\lE' x.6/\(false=false->(6:Int)≠(4:Int))/\lE' s.3) (.ret {d:=false,x:= {x with cw:=aE s.3 x.3,at':=6,cl:=bY},s:=(eC s x.3) })) (.ite (!ieq (aB (aE s.3 x.3) 20 5) 0) (.pre (rG t n x.3/\True) (.pre ((t=t/\n=n)/\lE' x.6/\t=t/\n=n/\w18/\lE' s.3) (.ret {d:=false,x:= {x with cw:=aE s.3 x.3,at':=4,cl:=zZ t n x.3},s:=(eC s x.3) }))) (.pre True (.ite (!ieq (aB x.2 20 5) 0) (.pre (rG t n x.1/\True) (.pre ((t=t/\n=n)/\lE' x.6/\t=t/\n=n/\w18/\lE' s.3) (.ret {d:=false,x:= {x with cw:=aE s.3 x.3,at':=4,cl:=zZ t n x.1},s:=(eC s x.3) }))) (.pre ((t=t/\n=n)/\lE' x.6/\(false=false->(5:Int)≠(4:Int))/\lE' s.3) (.ret {d:=false,x:= {x with cw:=aE s.3 x.3,at':=5,cl:=bY},s:=(eC s x.3) }))))))) (.ite (!ieq (aB (aE s.3 x.3) 19 1) 1) (.pre ((t=t/\n=n)/\lE' x.6/\(false=false->(6:Int)≠(4:Int))/\lE' s.3) (.ret {d:=false,x:= {x with cw:=aE s.3 x.3,at':=6,cl:=bY},s:=(eC s x.3) })) (.ite (!ieq (aB (aE s.3 x.3) 20 5) 0) (.pre (rG t n x.3/\True) (.pre ((t=t/\n=n)/\lE' x.6/\t=t/\n=n/\w18/\lE' s.3) (.ret {d:=false,x:= {x with cw:=aE s.3 x.3,at':=4,cl:=zZ t n x.3},s:=(eC s x.3) }))) (.pre True (.ite (!ieq (aB x.2 20 5) 0) (.pre (rG t n x.1/\True) (.pre ((t=t/\n=n)/\lE' x.6/\t=t/\n=n/\w18/\lE' s.3) (.ret {d:=false,x:= {x with cw:=aE s.3 x.3,at':=4,cl:=zZ t n x.1},s:=(eC s x.3) }))) (.pre ((t=t/\n=n)/\lE' x.6/\(false=false->(5:Int)≠(4:Int))/\lE' s.3) (.ret {d:=false,x:= {x with cw:=aE s.3 x.3,at':=5,cl:=bY},s:=(eC s x.3) }))))))))
theorem M7:HK DF 3 [.O] (fun t n x=>[]):=by
 intro t n x s K h;exact cM' (E:=EC7) (by kernel_rfl) h
abbrev w19(x:FNS):=ilt x.11 (W (x.5+1))=false->(0:Int)≠(4:Int)
def DG(t n:Int)(x:FNS)(s:MS):Tr FnO:=.pre (lE' s.3/\RA t n x.14 s) (.ite (pR t n x.14 s).1 (.ite (w14 x) (.pre ((t=t/\n=n)/\lE' x.6/\(w19 x)/\lE' (ClO.s (pR t n x.14 s)).3) (.ret {d:=ilt x.11 (W (x.5+1)),x:= {x with pred:=0,pw:=0,curr:=0,cw:=0,tries:=W (x.5+1),ab:=ilt x.11 (W (x.5+1)),at':=0,cl:=bY},s:=(pR t n x.14 s).3})) (.pre ((t=t/\n=n)/\lE' x.6/\(w19 x)/\lE' (ClO.s (pR t n x.14 s)).3) (.ret {d:=ilt x.11 (W (x.5+1)),x:= {x with tries:=W (x.5+1),ab:=ilt x.11 (W (x.5+1)),at':=0,cl:=bY},s:=(pR t n x.14 s).3}))) (.pre ((t=t/\n=n)/\lE' x.6/\t=t/\n=n/\w18/\lE' (ClO.s (pR t n x.14 s)).3) (.ret {d:=false,x:= {x with at':=4,cl:=(pR t n x.14 s).2},s:=(pR t n x.14 s).3})))
theorem NA:HK DG 4 [.ptr 4 0] (fun t n x=>[some (.abs (.clear t n x.cl) [])]):=by
 intro t n x s K h;exact cM' (E:=EC7) (by kernel_rfl) h
abbrev w11(x:FNS):=aW (aB x.2 25 18)
abbrev w15(x:FNS):=ieq (aB x.2 19 1) 1
abbrev w10(s:MS)(x:FNS):=qX s x.1 x.2 (bif bif aN (aB x.2 0 10) 10 then bif aN (aB x.4 10 9) 9 then bif aN (aB x.2 20 5) 5 then aN (w11 x) 18 else false else false else false then cV (aB x.2 0 10) (aB x.4 10 9) (w15 x) (aB x.2 20 5) (w11 x)else 0)
def DH(t n:Int)(x:FNS)(s:MS):Tr FnO:=.pre True (.pre True (.pre ((0:Int)<=aB x.2 25 18/\aB x.2 25 (18:Int)<=(1000000:Int)) (.pre True (.pre ((q9' s)/\True) (.ite (!bH s.3 x.1 x.2) (.ite (w14 x) (.pre ((t=t/\n=n)/\lE' x.6/\(w19 x)/\lE' (bif bH s.3 x.1 x.2 then aX s.3 x.1 (bif bif aN (aB x.2 0 10) 10 then bif aN (aB x.4 10 9) 9 then bif aN (aB x.2 20 5) 5 then aN (w11 x) 18 else false else false else false then cV (aB x.2 0 10) (aB x.4 10 9) (w15 x) (aB x.2 20 5) (w11 x)else 0)else s.3)) (.ret {d:=ilt x.11 (W (x.5+1)),x:= {x with pred:=0,pw:=0,curr:=0,cw:=0,tries:=W (x.5+1),ab:=ilt x.11 (W (x.5+1)),at':=0,cl:=bY},s:=(w10 s x) })) (.pre ((t=t/\n=n)/\lE' x.6/\(w19 x)/\lE' (bif bH s.3 x.1 x.2 then aX s.3 x.1 (bif bif aN (aB x.2 0 10) 10 then bif aN (aB x.4 10 9) 9 then bif aN (aB x.2 20 5) 5 then aN (w11 x) 18 else false else false else false then cV (aB x.2 0 10) (aB x.4 10 9) (w15 x) (aB x.2 20 5) (w11 x)else 0)else s.3)) (.ret {d:=ilt x.11 (W (x.5+1)),x:= {x with tries:=W (x.5+1),ab:=ilt x.11 (W (x.5+1)),at':=0,cl:=bY},s:=(w10 s x) }))) (.pre (0=0/\lE' x.6/\1=1/\x.6.length+(1:Nat)<=(4294967296:Nat)) (.ite (ile (W (x.13+1)) n) (.pre True (.ite (ieq (aB (bif bif aN (aB x.2 0 10) 10 then bif aN (aB x.4 10 9) 9 then bif aN (aB x.2 20 5) 5 then aN (w11 x) 18 else false else false else false then cV (aB x.2 0 10) (aB x.4 10 9) (w15 x) (aB x.2 20 5) (w11 x)else 0) 19 1) 1) (.pre ((t=t/\n=n)/\x.6.length+(1:Nat)=List.length (x.6++ [x.3])/\w12/\lE' (bif bH s.3 x.1 x.2 then aX s.3 x.1 (bif bif aN (aB x.2 0 10) 10 then bif aN (aB x.4 10 9) 9 then bif aN (aB x.2 20 5) 5 then aN (w11 x) 18 else false else false else false then cV (aB x.2 0 10) (aB x.4 10 9) (w15 x) (aB x.2 20 5) (w11 x)else 0)else s.3)) (.ret {d:=false,x:= {x with pred:=x.9,ul:=x.6++ [x.3],at':=0,moved:=0,cl:=bY},s:=(w10 s x) })) (.pre ((t=t/\n=n)/\x.6.length+(1:Nat)=List.length (x.6++ [x.3])/\(ieq (aB (bif bif aN (aB x.2 0 10) 10 then bif aN (aB x.4 10 9) 9 then bif aN (aB x.2 20 5) 5 then aN (w11 x) 18 else false else false else false then cV (aB x.2 0 10) (aB x.4 10 9) (w15 x) (aB x.2 20 5) (w11 x)else 0) 10 9) (0:Int)=false->(1:Int)≠(4:Int))/\lE' (bif bH s.3 x.1 x.2 then aX s.3 x.1 (bif bif aN (aB x.2 0 10) 10 then bif aN (aB x.4 10 9) 9 then bif aN (aB x.2 20 5) 5 then aN (w11 x) 18 else false else false else false then cV (aB x.2 0 10) (aB x.4 10 9) (w15 x) (aB x.2 20 5) (w11 x)else 0)else s.3)) (.ret {d:=ieq (aB (bif bif aN (aB x.2 0 10) 10 then bif aN (aB x.4 10 9) 9 then bif aN (aB x.2 20 5) 5 then aN (w11 x) 18 else false else false else false then cV (aB x.2 0 10) (aB x.4 10 9) (w15 x) (aB x.2 20 5) (w11 x)else 0) 10 9) 0,x:= {x with pw:=bif bif aN (aB x.2 0 10) 10 then bif aN (aB x.4 10 9) 9 then bif aN (aB x.2 20 5) 5 then aN (w11 x) 18 else false else false else false then cV (aB x.2 0 10) (aB x.4 10 9) (w15 x) (aB x.2 20 5) (w11 x)else 0,curr:=aB (bif bif aN (aB x.2 0 10) 10 then bif aN (aB x.4 10 9) 9 then bif aN (aB x.2 20 5) 5 then aN (w11 x) 18 else false else false else false then cV (aB x.2 0 10) (aB x.4 10 9) (w15 x) (aB x.2 20 5) (w11 x)else 0) 10 9,cw:=0,ul:=x.6++ [x.3],at':=1,moved:=W (x.13+1),cl:=bY},s:=(w10 s x) })))) (.ite (w14 x) (.ite (w14 x) (.pre ((t=t/\n=n)/\x.6.length+(1:Nat)=List.length (x.6++ [x.3])/\(true=false->(5:Int)≠(4:Int))/\lE' (bif bH s.3 x.1 x.2 then aX s.3 x.1 (bif bif aN (aB x.2 0 10) 10 then bif aN (aB x.4 10 9) 9 then bif aN (aB x.2 20 5) 5 then aN (w11 x) 18 else false else false else false then cV (aB x.2 0 10) (aB x.4 10 9) (w15 x) (aB x.2 20 5) (w11 x)else 0)else s.3)) (.ret {d:=true,x:= {x with pred:=0,pw:=0,curr:=0,cw:=0,tries:=W (x.5+1),ul:=x.6++ [x.3],ab:=ilt x.11 (W (x.5+1)),at':=5,moved:=W (x.13+1),cl:=bY},s:=(w10 s x) })) (.pre ((t=t/\n=n)/\x.6.length+(1:Nat)=List.length (x.6++ [x.3])/\w12/\lE' (bif bH s.3 x.1 x.2 then aX s.3 x.1 (bif bif aN (aB x.2 0 10) 10 then bif aN (aB x.4 10 9) 9 then bif aN (aB x.2 20 5) 5 then aN (w11 x) 18 else false else false else false then cV (aB x.2 0 10) (aB x.4 10 9) (w15 x) (aB x.2 20 5) (w11 x)else 0)else s.3)) (.ret {d:=false,x:= {x with pred:=x.9,pw:=0,curr:=0,cw:=0,tries:=W (x.5+1),ul:=x.6++ [x.3],ab:=ilt x.11 (W (x.5+1)),at':=0,moved:=0,cl:=bY},s:=(w10 s x) }))) (.ite (w14 x) (.pre ((t=t/\n=n)/\x.6.length+(1:Nat)=List.length (x.6++ [x.3])/\(true=false->(5:Int)≠(4:Int))/\lE' (bif bH s.3 x.1 x.2 then aX s.3 x.1 (bif bif aN (aB x.2 0 10) 10 then bif aN (aB x.4 10 9) 9 then bif aN (aB x.2 20 5) 5 then aN (w11 x) 18 else false else false else false then cV (aB x.2 0 10) (aB x.4 10 9) (w15 x) (aB x.2 20 5) (w11 x)else 0)else s.3)) (.ret {d:=true,x:= {x with tries:=W (x.5+1),ul:=x.6++ [x.3],ab:=ilt x.11 (W (x.5+1)),at':=5,moved:=W (x.13+1),cl:=bY},s:=(w10 s x) })) (.pre ((t=t/\n=n)/\x.6.length+(1:Nat)=List.length (x.6++ [x.3])/\w12/\lE' (bif bH s.3 x.1 x.2 then aX s.3 x.1 (bif bif aN (aB x.2 0 10) 10 then bif aN (aB x.4 10 9) 9 then bif aN (aB x.2 20 5) 5 then aN (w11 x) 18 else false else false else false then cV (aB x.2 0 10) (aB x.4 10 9) (w15 x) (aB x.2 20 5) (w11 x)else 0)else s.3)) (.ret {d:=false,x:= {x with pred:=x.9,tries:=W (x.5+1),ul:=x.6++ [x.3],ab:=ilt x.11 (W (x.5+1)),at':=0,moved:=0,cl:=bY},s:=(w10 s x) })))))))))))
theorem NB:HK DH 5 [.O] (fun t n x=>[]):=by
 intro t n x s K h;exact cM' (E:=EC7) (by kernel_rfl) h
abbrev w1e(n:Int)(s:MS)(x:FNS):=aX s.3 (2*n+5+2*x.8+0) (WU x.3)
abbrev w1f(n:Int)(s:MS)(x:FNS):=O6 s 2 (2*n+5+2*x.8+0) (WU x.3)
def DI(t n:Int)(x:FNS)(s:MS):Tr FnO:=.pre ((((0:Int)<=t/\t<=(100000:Int))/\((0:Int)<=n/\n<=(100000:Int))/\((-1099511627776:Int)<=x.8/\x.8<=(1099511627776:Int))/\(-1099511627776:Int)<=(0:Int)/\(0:Int)<=(1099511627776:Int))/\True) (.pre ((q9' s)/\True) (.ite (ile (W (x.13+1)) n) (.pre ((t=t/\n=n)/\lE' x.6/\w12/\lE' (w1e n s x)) (.ret {d:=false,x:= {x with pred:=x.3,at':=0,moved:=W (x.13+1),cl:=bY},s:=(w1f n s x) })) (.ite (w14 x) (.ite (w14 x) (.pre ((t=t/\n=n)/\lE' x.6/\w1b/\lE' (w1e n s x)) (.ret {d:=true,x:= {x with pred:=0,pw:=0,curr:=0,cw:=0,tries:=W (x.5+1),ab:=ilt x.11 (W (x.5+1)),at':=0,moved:=W (x.13+1),cl:=bY},s:=(w1f n s x) })) (.pre ((t=t/\n=n)/\lE' x.6/\w12/\lE' (w1e n s x)) (.ret {d:=false,x:= {x with pred:=x.9,pw:=0,curr:=0,cw:=0,tries:=W (x.5+1),ab:=ilt x.11 (W (x.5+1)),at':=0,moved:=0,cl:=bY},s:=(w1f n s x) }))) (.ite (w14 x) (.pre ((t=t/\n=n)/\lE' x.6/\w1b/\lE' (w1e n s x)) (.ret {d:=true,x:= {x with pred:=x.3,tries:=W (x.5+1),ab:=ilt x.11 (W (x.5+1)),at':=0,moved:=W (x.13+1),cl:=bY},s:=(w1f n s x) })) (.pre ((t=t/\n=n)/\lE' x.6/\w12/\lE' (w1e n s x)) (.ret {d:=false,x:= {x with pred:=x.9,tries:=W (x.5+1),ab:=ilt x.11 (W (x.5+1)),at':=0,moved:=0,cl:=bY},s:=(w1f n s x) }))))))
theorem NC:HK DI 6 [.O] (fun t n x=>[]):=by
 intro t n x s K h;exact cM' (E:=EC7) (by kernel_rfl) h
def fnT(t n:Int)(x:FNS)(s:MS):Tr FnO:=
 bif ieq x.at' 0 then DC t n x s else
 bif ieq x.at' 1 then DD t n x s else
 bif ieq x.at' 2 then DE t n x s else
 bif ieq x.at' 3 then DF t n x s else
 bif ieq x.at' 4 then DG t n x s else
 bif ieq x.at' 5 then DH t n x s else
 bif ieq x.at' 6 then DI t n x s else .pre False (.ret default)
def aM(t n:Int)(x:FNS)(s:MS):FnO:=(fnT t n x s).val
def MV(t n:Int)(x:FNS)(s:MS):Prop:=(fnT t n x s).ok
theorem ZX(t n:Int)(x:FNS)(s:MS)(K:AVal->aC Ob->Prop)(h:(fnT t n x s).run (fun y=>(FnO.fin t n y).run K)):cT' 163 [.ptr 0 0,.ptr 1 0] (fnH t n x s) K:=by
 unfold fnT at h
 by_cases e:x.at'=0
 ·rw [e]at h;have h:(DC t n x s).run _:=h;refine aLx (root:=0) (pos:=[15]) (cs:=[(.cell 0 7,.ints (some .i64))]) (parse:=WM t n) (fin:=FnO.fin t n) qK (aQ.unpack (.find t n x) 0 0 (l5 t n x) [] rfl (congrArg (Prod.mk 0) (jH omz)) (by kernel_rfl) rfl) ?_
  have q:=MX t n x s _ h;rw [<-e]at q;exact q
 rw [bK e]at h
 by_cases e:x.at'=1
 ·rw [e]at h;have h:(DD t n x s).run _:=h;refine aLx (root:=0) (pos:=[15]) (cs:=[(.cell 0 7,.ints (some .i64))]) (parse:=WM t n) (fin:=FnO.fin t n) qK (aQ.unpack (.find t n x) 0 0 (l5 t n x) [] rfl (congrArg (Prod.mk 0) (jH omz)) (by kernel_rfl) rfl) ?_
  have q:=MY t n x s _ h;rw [<-e]at q;exact q
 rw [bK e]at h
 by_cases e:x.at'=2
 ·rw [e]at h;have h:(DE t n x s).run _:=h;refine aLx (root:=0) (pos:=[15]) (cs:=[(.cell 0 7,.ints (some .i64))]) (parse:=WM t n) (fin:=FnO.fin t n) qK (aQ.unpack (.find t n x) 0 0 (l5 t n x) [] rfl (congrArg (Prod.mk 0) (jH omz)) (by kernel_rfl) rfl) ?_
  have q:=MZ t n x s _ h;rw [<-e]at q;exact q
 rw [bK e]at h
 by_cases e:x.at'=3
 ·rw [e]at h;have h:(DF t n x s).run _:=h;refine aLx (root:=0) (pos:=[15]) (cs:=[(.cell 0 7,.ints (some .i64))]) (parse:=WM t n) (fin:=FnO.fin t n) qK (aQ.unpack (.find t n x) 0 0 (l5 t n x) [] rfl (congrArg (Prod.mk 0) (jH omz)) (by kernel_rfl) rfl) ?_
  have q:=M7 t n x s _ h;rw [<-e]at q;exact q
 rw [bK e]at h
 by_cases e:x.at'=4
 ·rw [e]at h;have h:(DG t n x s).run _:=h;refine aLx (root:=0) (pos:=[15]) (cs:=[(.cell 0 7,.ints (some .i64))]) (parse:=WM t n) (fin:=FnO.fin t n) qK (aQ.unpack (.find t n x) 0 0 (rR t n x) [] rfl (congrArg (Prod.mk 0) (JO e)) (by kernel_rfl) rfl) ?_
  have q:=NA t n x s _ h;rw [<-e]at q;exact q
 rw [bK e]at h
 by_cases e:x.at'=5
 ·rw [e]at h;have h:(DH t n x s).run _:=h;refine aLx (root:=0) (pos:=[15]) (cs:=[(.cell 0 7,.ints (some .i64))]) (parse:=WM t n) (fin:=FnO.fin t n) qK (aQ.unpack (.find t n x) 0 0 (l5 t n x) [] rfl (congrArg (Prod.mk 0) (jH omz)) (by kernel_rfl) rfl) ?_
  have q:=NB t n x s _ h;rw [<-e]at q;exact q
 rw [bK e]at h
 by_cases e:x.at'=6
 ·rw [e]at h;have h:(DI t n x s).run _:=h;refine aLx (root:=0) (pos:=[15]) (cs:=[(.cell 0 7,.ints (some .i64))]) (parse:=WM t n) (fin:=FnO.fin t n) qK (aQ.unpack (.find t n x) 0 0 (l5 t n x) [] rfl (congrArg (Prod.mk 0) (jH omz)) (by kernel_rfl) rfl) ?_
  have q:=NC t n x s _ h;rw [<-e]at q;exact q
 rw [bK e]at h;exact h.1.elim
noncomputable def fnS:aI Ob:=fun args h=>match args,h with
 | [.ptr 0 0,.ptr 1 0],[some (.abs (.find t n x) []),e1,e2]=>(match cQ 2 [e1,e2]with
   | some (l,s)=>some (.pre (l=s.xs.length/\MV t n x s) (FnO.fin t n (aM t n x s)))
   | none=>none)
 | _,_=>none
theorem aH4:sT' 163 fnS:=by
 intro args h o ho K hK;unfold fnS at ho;split at ho
 case h_2=>cases ho
 split at ho
 case h_2=>cases ho
 rename_i hm;cases ho;obtain⟨⟨hl,ok⟩,hK⟩:=hK;cases bB hm hl;exact ZX _ _ _ _ K (aLD ok hK)
def aEK(t n:Int)(v:AVal)(g:aC Ob):Option (Prop×FNS):=match v,g with
 | .ptr 0 0,[some (.cells [.int .i64 t1,.int .i64 n1,.int .i64 pred,.int .u64 pw,.int .i64 curr,.int .u64 cw,.int .i64 tries,.slice 1 0 ul_l 1,.bool ab,.int .i64 me,.int .i64 frm,.int .i64 key,.int .i64 limit,.int .i64 at',.int .i64 moved,.O]),some (.ints (some .i64) ul)]=>some ((t1=t/\n1=n)/\ul_l=ul.length/\(at'≠4),(⟨pred,pw,curr,cw,tries,ul,ab,me,frm,key,limit,at',moved,⟨0,0,0,0⟩⟩:FNS))
 | _,_=>none
abbrev ZS(t n:Int)(y:FNS):aC Ob:=[some (.abs (.find t n y) [])]
theorem ZT{t n:Int} :bQ (obI tbl) 0 (aEK t n) (fun y=>.ret (.ptr 0 0) (ZS t n y)):=by
 intro v g p x hp hq K hK;unfold aEK at hp;split at hp
 case h_2=>cases hp
 rename_i t1 n1 pred pw curr cw tries ul_l ab me frm key limit at' moved ul;cases hp;obtain⟨⟨rfl,rfl⟩,rfl,aa⟩:=hq;exact⟨⟨_,_,aF.pack (ZS t1 n1 (⟨pred,pw,curr,cw,tries,ul,ab,me,frm,key,limit,at',moved,⟨0,0,0,0⟩⟩:FNS)) (.find t1 n1 (⟨pred,pw,curr,cw,tries,ul,ab,me,frm,key,limit,at',moved,⟨0,0,0,0⟩⟩:FNS)) 0 0 (l5 t1 n1 (⟨pred,pw,curr,cw,tries,ul,ab,me,frm,key,limit,at',moved,⟨0,0,0,0⟩⟩:FNS)) [] (by kernel_rfl) rfl (congrArg (Prod.mk 0) (jH aa)) (by kernel_rfl),hK⟩⟩
abbrev w1g(hd n:Int):=((0:Int)<=n/\n<=(100000:Int))/\(-1000000:Int)<=hd/\hd<=(1000000:Int)
def SS(t n:Int)(me hd key lim:Int):Tr FNS:=.pre (w1g hd n) (.pre (w1g hd n) (.pre ((t=t/\n=n)/\0=0/\(0:Int)≠(4:Int)) (.ret {pred:=n+1+hd,pw:=0,curr:=0,cw:=0,tries:=0,ul:=[],ab:=false,me:=me,frm:=n+1+hd,key:=key,limit:=lim,at':=0,moved:=0,cl:=bY})))
def wL(t n:Int)(me hd key lim:Int):FNS:=(SS t n me hd key lim).val
def pS(t n:Int)(me hd key lim:Int):Prop:=(SS t n me hd key lim).ok
def fnNS:aI Ob:=fun args h=>match args,h with
 | [.agg [.int .i64 t,.int .i64 n],.int .i64 me,.int .i64 hd,.int .i64 key,.int .i64 lim],[]=>some (.pre (pS t n me hd key lim) (.ret (.ptr 0 0) (ZS t n (wL t n me hd key lim))))
 | _,_=>none
theorem aEL:sT' 227 fnNS:=by
 intro args h o ho K hK;unfold fnNS at ho;split at ho
 case h_2=>cases ho
 rename_i t n me hd key lim;cases ho;obtain⟨ok,hK⟩:=hK;refine aLK (root:=0) (pos:=[15]) (cs:=[(.cell 0 7,.ints (some .i64))]) (parse:=aEK t n) ZT ?_;exact cM' (E:=EC7) (q:=(SS t n me hd key lim).run (fun y=>(Out.ret (.ptr 0 0) (ZS t n y)).run K)) (by kernel_rfl) (aLD ok hK)
noncomputable def EF:=((EC7.addS 163 fnS aH4).addS 227 fnNS aEL)
def retC:aI Ob:=fun args h=>match args,h with
 | [.ptr 0 0,.slice 2 0 k 1],[e1,e2,some (.cells [.int .i64 p])]=>(match l9 1 [e1,e2]with
   | some (l,t,n,st)=>some (.pre (l=st.R.length/\k=1/\st.R.length+1<=4294967296) (.ret (.tup []) [cE' [.I t,.I n,.I st.me,.I st.sp,.slice 3 0 (st.R.length+1) 1],none,cE' [.I p],iI' (st.R++ [p])]))
   | none=>none)
 | _,_=>none
theorem aBr:sT' 164 retC:=by
 intro args h o ho K hK;unfold retC at ho;split at ho
 case h_2=>cases ho
 rename_i k e1 e2 p;split at ho
 case h_2=>cases ho
 rename_i l t n st hs;cases ho;obtain⟨⟨hl,rfl,aa⟩,hK⟩:=hK;have hh:=cB hs hl;cases hh;refine aLw (cM' (E:=EF) (q:=(0=0/\lE' st.3/\1=1/\st.3.length+(1:Nat)<=(4294967296:Nat))/\K (.tup []) [cE' [.I t,.I n,.I st.1,.I st.2,.slice 3 0 (st.3.length+1) 1],none,cE' [.I p],iI' (st.3++ [p])]) (by kernel_rfl) ?_)
 exact⟨⟨rfl,rfl,rfl,aa⟩,hK⟩
def retI:aI Ob:=fun args h=>match args,h with
 | [.ptr 0 0,.slice 2 0 k 1],[e1,e2,some (.ints (some .i64) xs)]=>(match l9 1 [e1,e2]with
   | some (l,t,n,st)=>some (.pre (l=st.R.length/\k=xs.length/\st.R.length+xs.length<=4294967296) (.ret (.tup []) [cE' [.I t,.I n,.I st.me,.I st.sp,.slice 3 0 (st.R.length+xs.length) 1],none,iI' xs,iI' (st.R++xs)]))
   | none=>none)
 | _,_=>none
theorem aBs:sT' 164 retI:=by
 intro args h o ho K hK;unfold retI at ho;split at ho
 case h_2=>cases ho
 rename_i k e1 e2 xs;split at ho
 case h_2=>cases ho
 rename_i l t n st hs;cases ho;obtain⟨⟨hl,rfl,aa⟩,hK⟩:=hK;have hh:=cB hs hl;cases hh;refine aLw (cM' (E:=EF) (q:=(0+xs.length<=xs.length/\0=0/\lE' st.3/\1=1/\st.3.length+xs.length<=(4294967296:Nat))/\K (.tup []) [cE' [.I t,.I n,.I st.1,.I st.2,.slice 3 0 (st.3.length+xs.length) 1],none,iI' xs,iI' (st.3++List.take xs.length (List.drop 0 xs))]) (by kernel_rfl) ?_)
 refine⟨⟨by omega,rfl,rfl,rfl,aa⟩,?_⟩
 rw [List.drop_zero,List.take_length];exact hK
noncomputable def retS:aI Ob:=aI.or retC retI
theorem aGb:sT' 164 retS:=aL9 aBr aBs
noncomputable def ER:=EF.addS 164 retS aGb
structure FtO where
 d:Bool
 x:FTS
 st:STS
 s:MS
instance:Inhabited FtO:=⟨⟨false,dF,⟨0,0,[]⟩,⟨0,0,[],0,0,0,0,0,false⟩⟩⟩
instance:Inhabited FTS:=⟨dF⟩
abbrev ftH(t n:Int)(x:FTS)(st:STS)(s:MS):aC Ob:=[some (.abs (.fast t n x) [1]),some (.abs (.store t n st) []),bI 3 s,bJ s]
abbrev ftD(t n:Int)(x:FTS)(st:STS)(s:MS):aC Ob:=[cE' [.ptr 1 0,.I x.code,.bool x.okk,.I x.val,.bool x.failed,.I x.tries,.I x.sh,.I x.kd,.I x.ky,.I x.most,.I x.at',.bool x.p.now,.I x.p.code,.bool x.p.okk,.I x.p.val,.I x.p.addr,.int .u64 x.p.old,.I x.p.nxt,.bool x.p.mark,.I x.p.pops,.O,.O,.O],some (.abs (.store t n st) []),bI 3 s,bJ s]
def FtO.fin(t n:Int)(y:FtO):Out Ob:=.ite y.d (.ret (.bool true) (ftD t n y.x y.st y.s)) (.ret (.bool false) (ftH t n y.x y.st y.s))
def aEU(t n:Int)(v:AVal)(g:aC Ob):Option (Prop×FtO):=match v,g with
 | .bool d,[some (.cells [.ptr 1 0,.int .i64 code,.bool okk,.int .i64 val,.bool failed,.int .i64 tries,.int .i64 sh,.int .i64 kd,.int .i64 ky,.int .i64 most,.int .i64 at',.bool p_now,.int .i64 p_code,.bool p_okk,.int .i64 p_val,.int .i64 p_addr,.int .u64 p_old,.int .i64 p_nxt,.bool p_mark,.int .i64 p_pops,.O,.O,.O]),e1,e3,e4,e2]=>(match l9 4 [e1,e2],cQ 3 [e3,e4]with
   | some (l2,t2,n2,st),some (l,s)=>some ((t2=t/\n2=n)/\(d=false->at'≠0/\at'≠1/\at'≠2)/\l=s.xs.length/\l2=st.R.length,⟨d,⟨code,okk,val,failed,tries,sh,kd,ky,most,at',⟨p_now,p_code,p_okk,p_val,p_addr,p_old,p_nxt,p_mark,p_pops⟩,bR,⟨0,0,0,0⟩,⟨0,0,0,false⟩⟩,st,s⟩)
   | _,_=>none)
 | _,_=>none
def aEV(t n:Int)(v:AVal)(g:aC Ob):Option (Prop×FtO):=match v,g with
 | .bool d,[some (.cells [.ptr 1 0,.int .i64 code,.bool okk,.int .i64 val,.bool failed,.int .i64 tries,.int .i64 sh,.int .i64 kd,.int .i64 ky,.int .i64 most,.int .i64 at',.bool p_now,.int .i64 p_code,.bool p_okk,.int .i64 p_val,.int .i64 p_addr,.int .u64 p_old,.int .i64 p_nxt,.bool p_mark,.int .i64 p_pops,.ptr 4 0,.O,.O]),e1,e3,e4,some (.abs (.find t' n' sub) []),e2]=>(match l9 5 [e1,e2],cQ 3 [e3,e4]with
   | some (l2,t2,n2,st),some (l,s)=>some ((t2=t/\n2=n)/\t'=t/\n'=n/\(d=false->at'=0)/\l=s.xs.length/\l2=st.R.length,⟨d,⟨code,okk,val,failed,tries,sh,kd,ky,most,at',⟨p_now,p_code,p_okk,p_val,p_addr,p_old,p_nxt,p_mark,p_pops⟩,sub,⟨0,0,0,0⟩,⟨0,0,0,false⟩⟩,st,s⟩)
   | _,_=>none)
 | _,_=>none
def aEW(t n:Int)(v:AVal)(g:aC Ob):Option (Prop×FtO):=match v,g with
 | .bool d,[some (.cells [.ptr 1 0,.int .i64 code,.bool okk,.int .i64 val,.bool failed,.int .i64 tries,.int .i64 sh,.int .i64 kd,.int .i64 ky,.int .i64 most,.int .i64 at',.bool p_now,.int .i64 p_code,.bool p_okk,.int .i64 p_val,.int .i64 p_addr,.int .u64 p_old,.int .i64 p_nxt,.bool p_mark,.int .i64 p_pops,.O,.ptr 4 0,.O]),e1,e3,e4,some (.abs (.clear t' n' sub) []),e2]=>(match l9 5 [e1,e2],cQ 3 [e3,e4]with
   | some (l2,t2,n2,st),some (l,s)=>some ((t2=t/\n2=n)/\t'=t/\n'=n/\(d=false->at'=1)/\l=s.xs.length/\l2=st.R.length,⟨d,⟨code,okk,val,failed,tries,sh,kd,ky,most,at',⟨p_now,p_code,p_okk,p_val,p_addr,p_old,p_nxt,p_mark,p_pops⟩,bR,sub,⟨0,0,0,false⟩⟩,st,s⟩)
   | _,_=>none)
 | _,_=>none
def aEX(t n:Int)(v:AVal)(g:aC Ob):Option (Prop×FtO):=match v,g with
 | .bool d,[some (.cells [.ptr 1 0,.int .i64 code,.bool okk,.int .i64 val,.bool failed,.int .i64 tries,.int .i64 sh,.int .i64 kd,.int .i64 ky,.int .i64 most,.int .i64 at',.bool p_now,.int .i64 p_code,.bool p_okk,.int .i64 p_val,.int .i64 p_addr,.int .u64 p_old,.int .i64 p_nxt,.bool p_mark,.int .i64 p_pops,.O,.O,.ptr 4 0]),e1,e3,e4,some (.abs (.prepare t' n' sub) [1]),e2]=>(match l9 5 [e1,e2],cQ 3 [e3,e4]with
   | some (l2,t2,n2,st),some (l,s)=>some ((t2=t/\n2=n)/\t'=t/\n'=n/\(d=false->at'=2)/\l=s.xs.length/\l2=st.R.length,⟨d,⟨code,okk,val,failed,tries,sh,kd,ky,most,at',⟨p_now,p_code,p_okk,p_val,p_addr,p_old,p_nxt,p_mark,p_pops⟩,bR,⟨0,0,0,0⟩,sub⟩,st,s⟩)
   | _,_=>none)
 | _,_=>none
def ftP(t n:Int)(v:AVal)(g:aC Ob):Option (Prop×FtO):=(match aEU t n v g with
 | some r=>some r
 | none=>(match aEV t n v g with
 | some r=>some r
 | none=>(match aEW t n v g with
 | some r=>some r
 | none=>aEX t n v g)))
theorem Z1{t n:Int} :bQ (obI tbl) 4 (aEU t n) (FtO.fin t n):=by
 intro v g p x hp hq K hK;unfold aEU at hp;split at hp
 case h_2=>cases hp
 rename_i d code okk val failed tries sh kd ky most at' p_now p_code p_okk p_val p_addr p_old p_nxt p_mark p_pops e1 e3 e4 e2;split at hp
 case h_2=>cases hp
 rename_i l2 t2 n2 st l s hs hm;cases hp;obtain⟨⟨rfl,rfl⟩,ac,hl,aa⟩:=hq;cases bB hm hl;cases cB hs aa;refine fV hK (fun h=>?_) (fun hd h=>?_)
 ·exact tkP h (.store t2 n2 st) 1 0 (dP t2 n2 st) []
 ·exact xU h (.store t2 n2 st) 1 0 (dP t2 n2 st) [] 0 [1] rfl (congrArg (Prod.mk 1) (DB (ac hd)))
theorem Z2{t n:Int} :bQ (obI tbl) 4 (aEV t n) (FtO.fin t n):=by
 intro v g p x hp hq K hK;unfold aEV at hp;split at hp
 case h_2=>cases hp
 rename_i d code okk val failed tries sh kd ky most at' p_now p_code p_okk p_val p_addr p_old p_nxt p_mark p_pops e1 e3 e4 t' n' sub e2;split at hp
 case h_2=>cases hp
 rename_i l2 t2 n2 st l s hs hm;cases hp;obtain⟨⟨rfl,rfl⟩,rfl,rfl,ac,hl,aa⟩:=hq;cases bB hm hl;cases cB hs aa;refine fV hK (fun h=>?_) (fun hd h=>?_)
 ·exact FI h [20,21,22] [0,1,2,3,5] (.store t' n' st) 1 0 (dP t' n' st) []
 ·exact xU h (.store t' n' st) 1 0 (dP t' n' st) [] 0 [1] rfl (congrArg (Prod.mk 1) (AI (ac hd)))
theorem Z3{t n:Int} :bQ (obI tbl) 4 (aEW t n) (FtO.fin t n):=by
 intro v g p x hp hq K hK;unfold aEW at hp;split at hp
 case h_2=>cases hp
 rename_i d code okk val failed tries sh kd ky most at' p_now p_code p_okk p_val p_addr p_old p_nxt p_mark p_pops e1 e3 e4 t' n' sub e2;split at hp
 case h_2=>cases hp
 rename_i l2 t2 n2 st l s hs hm;cases hp;obtain⟨⟨rfl,rfl⟩,rfl,rfl,ac,hl,aa⟩:=hq;cases bB hm hl;cases cB hs aa;refine fV hK (fun h=>?_) (fun hd h=>?_)
 ·exact FI h [20,21,22] [0,1,2,3,5] (.store t' n' st) 1 0 (dP t' n' st) []
 ·exact xU h (.store t' n' st) 1 0 (dP t' n' st) [] 0 [1] rfl (congrArg (Prod.mk 1) (JM (ac hd)))
theorem Z4{t n:Int} :bQ (obI tbl) 4 (aEX t n) (FtO.fin t n):=by
 intro v g p x hp hq K hK;unfold aEX at hp;split at hp
 case h_2=>cases hp
 rename_i d code okk val failed tries sh kd ky most at' p_now p_code p_okk p_val p_addr p_old p_nxt p_mark p_pops e1 e3 e4 t' n' sub e2;split at hp
 case h_2=>cases hp
 rename_i l2 t2 n2 st l s hs hm;cases hp;obtain⟨⟨rfl,rfl⟩,rfl,rfl,ac,hl,aa⟩:=hq;cases bB hm hl;cases cB hs aa;refine fV hK (fun h=>?_) (fun hd h=>?_)
 ·exact FI h [20,21,22] [0,1,2,3,5] (.store t' n' st) 1 0 (dP t' n' st) []
 ·exact xU h (.store t' n' st) 1 0 (dP t' n' st) [] 0 [1] rfl (congrArg (Prod.mk 1) (JN (ac hd)))
theorem AJ{t n:Int} :bQ (obI tbl) 4 (ftP t n) (FtO.fin t n):=by
 intro v g p x hp hq K hK;unfold ftP at hp;split at hp
 ·rename_i r hr;cases hp;exact Z1 v g p x hr hq K hK
 split at hp
 ·rename_i r hr;cases hp;exact Z2 v g p x hr hq K hK
 split at hp
 ·rename_i r hr;cases hp;exact Z3 v g p x hr hq K hK
 exact Z4 v g p x hp hq K hK
abbrev w1j(n:Int)(s:MS)(t:Int)(x:FTS):=FnO.x (aM t n x.12 s)
abbrev w1h(n:Int)(s:MS)(st:STS)(t:Int)(x:FTS):=bM x.6 x.7 x.8 (w1j n s t x).1 (w1j n s t x).2 (w1j n s t x).3 (w1j n s t x).4 st.2
abbrev w1l:=true=false->(0:Int)≠(0:Int)/\(0:Int)≠(1:Int)/\(0:Int)≠(2:Int)
abbrev w1m:=false=false->(3:Int)≠(0:Int)/\(3:Int)≠(1:Int)/\(3:Int)≠(2:Int)
abbrev w1n:=false=false->(0:Int)=(0:Int)
abbrev w1o(n:Int)(s:MS)(t:Int)(x:FTS):=FnO.s (aM t n x.12 s)
abbrev w1p:=false=false->(1:Int)=(1:Int)
abbrev w1q:=false=false->(2:Int)=(2:Int)
def DK(t n:Int)(x:FTS)(st:STS)(s:MS):Tr FtO:=.pre True (.ite (!bT x.6 x.7 x.8) (.pre (q9' s) (.pre ((t=t/\n=n)/\t=t/\n=n/\(true=false->(0:Int)=(0:Int))/\lE' s.3/\lE' st.3) (.ret {d:=true,x:= {x with failed:=true,at':=0,cl:=bY,pr:=dH},st:=st,s:=(eC s 0) }))) (.pre True (.ite (gL x.7) (.ite (ieq st.2 0) (.pre (q9' s) (.pre ((t=t/\n=n)/\t=t/\n=n/\(true=false->(0:Int)=(0:Int))/\lE' s.3/\lE' st.3) (.ret {d:=true,x:= {x with failed:=true,at':=0,cl:=bY,pr:=dH},st:=st,s:=(eC s 0) }))) (.pre (lE' s.3/\MV t n x.12 s) (.ite (aM t n x.12 s).1 (.pre ((lE' st.3/\lE' (w1j n s t x).6/\st.3.length+List.length (w1j n s t x).6<=(4294967296:Nat))/\True) (.ite (ilt x.9 (W (x.5+(w1j n s t x).5))) (.pre ((t=t/\n=n)/\w1l/\lE' (w1o n s t x).3/\st.3.length+List.length (w1j n s t x).6=List.length (st.3++(w1j n s t x).6)) (.ret {d:=true,x:= {x with failed:=ilt x.9 (W (x.5+(w1j n s t x).5)),tries:=W (x.5+(w1j n s t x).5),at':=0,fn:=bR,cl:=bY,pr:=dH},st:= {me:=st.1,sp:=st.2,R:=st.3++(w1j n s t x).6},s:=(aM t n x.12 s).3})) (.pre (xG x.6 x.7 x.8 (w1j n s t x).1 (w1j n s t x).2 (w1j n s t x).3 (w1j n s t x).4 st.2/\True) (.ite (w1h n s st t x).1 (.pre ((t=t/\n=n)/\w1l/\lE' (w1o n s t x).3/\st.3.length+List.length (w1j n s t x).6=List.length (st.3++(w1j n s t x).6)) (.ret {d:=true,x:= {x with code:=(w1h n s st t x).2,okk:=(w1h n s st t x).3,val:=(w1h n s st t x).4,failed:=ilt x.9 (W (x.5+(w1j n s t x).5)),tries:=W (x.5+(w1j n s t x).5),at':=0,p:=bM x.6 x.7 x.8 (w1j n s t x).1 (w1j n s t x).2 (w1j n s t x).3 (w1j n s t x).4 st.2,fn:=bR,cl:=bY,pr:=dH},st:= {me:=st.1,sp:=st.2,R:=st.3++(w1j n s t x).6},s:=(aM t n x.12 s).3})) (.pre (pG (w1h n s st t x).1 (w1h n s st t x).2 (w1h n s st t x).3 (w1h n s st t x).4 (w1h n s st t x).5 (w1h n s st t x).6 (w1h n s st t x).7 (w1h n s st t x).8 (w1h n s st t x).9) (.ite (AW (w1h n s st t x).1 (w1h n s st t x).2 (w1h n s st t x).3 (w1h n s st t x).4 (w1h n s st t x).5 (w1h n s st t x).6 (w1h n s st t x).7 (w1h n s st t x).8 (w1h n s st t x).9) (.pre (rG t n (w1h n s st t x).5/\True) (.pre ((t=t/\n=n)/\t=t/\n=n/\w1p/\lE' (w1o n s t x).3/\st.3.length+List.length (w1j n s t x).6=List.length (st.3++(w1j n s t x).6)) (.ret {d:=false,x:= {x with failed:=ilt x.9 (W (x.5+(w1j n s t x).5)),tries:=W (x.5+(w1j n s t x).5),at':=1,p:=bM x.6 x.7 x.8 (w1j n s t x).1 (w1j n s t x).2 (w1j n s t x).3 (w1j n s t x).4 st.2,fn:=bR,cl:=zZ t n (w1h n s st t x).5,pr:=dH},st:= {me:=st.1,sp:=st.2,R:=st.3++(w1j n s t x).6},s:=(aM t n x.12 s).3}))) (.pre True (.ite (gL x.7) (.pre ((st.3.length+List.length (w1j n s t x).6=List.length (st.3++(w1j n s t x).6)/\EU t n x.8 (w1j n s t x).3 {me:=st.1,sp:=st.2,R:=st.3++(w1j n s t x).6})/\True) (.pre ((t=t/\n=n)/\t=t/\n=n/\w1q/\lE' (w1o n s t x).3/\lE' (Prod.snd (qR t n x.8 (w1j n s t x).3 {me:=st.1,sp:=st.2,R:=st.3++(w1j n s t x).6})).3) (.ret {d:=false,x:= {x with failed:=ilt x.9 (W (x.5+(w1j n s t x).5)),tries:=W (x.5+(w1j n s t x).5),at':=2,p:=bM x.6 x.7 x.8 (w1j n s t x).1 (w1j n s t x).2 (w1j n s t x).3 (w1j n s t x).4 st.2,fn:=bR,cl:=bY,pr:=(qR t n x.8 (w1j n s t x).3 {me:=st.1,sp:=st.2,R:=st.3++(w1j n s t x).6}).1},st:=(qR t n x.8 (w1j n s t x).3 {me:=st.1,sp:=st.2,R:=st.3++(w1j n s t x).6}).2,s:=(aM t n x.12 s).3}))) (.pre ((t=t/\n=n)/\w1m/\lE' (w1o n s t x).3/\st.3.length+List.length (w1j n s t x).6=List.length (st.3++(w1j n s t x).6)) (.ret {d:=false,x:= {x with failed:=ilt x.9 (W (x.5+(w1j n s t x).5)),tries:=W (x.5+(w1j n s t x).5),at':=3,p:=bM x.6 x.7 x.8 (w1j n s t x).1 (w1j n s t x).2 (w1j n s t x).3 (w1j n s t x).4 st.2,fn:=bR,cl:=bY,pr:=dH},st:= {me:=st.1,sp:=st.2,R:=st.3++(w1j n s t x).6},s:=(aM t n x.12 s).3})))))))))) (.pre ((t=t/\n=n)/\t=t/\n=n/\w1n/\lE' (w1o n s t x).3/\lE' st.3) (.ret {d:=false,x:= {x with at':=0,fn:=(aM t n x.12 s).2,cl:=bY,pr:=dH},st:=st,s:=(aM t n x.12 s).3}))))) (.pre (lE' s.3/\MV t n x.12 s) (.ite (aM t n x.12 s).1 (.pre ((lE' st.3/\lE' (w1j n s t x).6/\st.3.length+List.length (w1j n s t x).6<=(4294967296:Nat))/\True) (.ite (ilt x.9 (W (x.5+(w1j n s t x).5))) (.pre ((t=t/\n=n)/\w1l/\lE' (w1o n s t x).3/\st.3.length+List.length (w1j n s t x).6=List.length (st.3++(w1j n s t x).6)) (.ret {d:=true,x:= {x with failed:=ilt x.9 (W (x.5+(w1j n s t x).5)),tries:=W (x.5+(w1j n s t x).5),at':=0,fn:=bR,cl:=bY,pr:=dH},st:= {me:=st.1,sp:=st.2,R:=st.3++(w1j n s t x).6},s:=(aM t n x.12 s).3})) (.pre (xG x.6 x.7 x.8 (w1j n s t x).1 (w1j n s t x).2 (w1j n s t x).3 (w1j n s t x).4 st.2/\True) (.ite (w1h n s st t x).1 (.pre ((t=t/\n=n)/\w1l/\lE' (w1o n s t x).3/\st.3.length+List.length (w1j n s t x).6=List.length (st.3++(w1j n s t x).6)) (.ret {d:=true,x:= {x with code:=(w1h n s st t x).2,okk:=(w1h n s st t x).3,val:=(w1h n s st t x).4,failed:=ilt x.9 (W (x.5+(w1j n s t x).5)),tries:=W (x.5+(w1j n s t x).5),at':=0,p:=bM x.6 x.7 x.8 (w1j n s t x).1 (w1j n s t x).2 (w1j n s t x).3 (w1j n s t x).4 st.2,fn:=bR,cl:=bY,pr:=dH},st:= {me:=st.1,sp:=st.2,R:=st.3++(w1j n s t x).6},s:=(aM t n x.12 s).3})) (.pre (pG (w1h n s st t x).1 (w1h n s st t x).2 (w1h n s st t x).3 (w1h n s st t x).4 (w1h n s st t x).5 (w1h n s st t x).6 (w1h n s st t x).7 (w1h n s st t x).8 (w1h n s st t x).9) (.ite (AW (w1h n s st t x).1 (w1h n s st t x).2 (w1h n s st t x).3 (w1h n s st t x).4 (w1h n s st t x).5 (w1h n s st t x).6 (w1h n s st t x).7 (w1h n s st t x).8 (w1h n s st t x).9) (.pre (rG t n (w1h n s st t x).5/\True) (.pre ((t=t/\n=n)/\t=t/\n=n/\w1p/\lE' (w1o n s t x).3/\st.3.length+List.length (w1j n s t x).6=List.length (st.3++(w1j n s t x).6)) (.ret {d:=false,x:= {x with failed:=ilt x.9 (W (x.5+(w1j n s t x).5)),tries:=W (x.5+(w1j n s t x).5),at':=1,p:=bM x.6 x.7 x.8 (w1j n s t x).1 (w1j n s t x).2 (w1j n s t x).3 (w1j n s t x).4 st.2,fn:=bR,cl:=zZ t n (w1h n s st t x).5,pr:=dH},st:= {me:=st.1,sp:=st.2,R:=st.3++(w1j n s t x).6},s:=(aM t n x.12 s).3}))) (.pre True (.ite (gL x.7) (.pre ((st.3.length+List.length (w1j n s t x).6=List.length (st.3++(w1j n s t x).6)/\EU t n x.8 (w1j n s t x).3 {me:=st.1,sp:=st.2,R:=st.3++(w1j n s t x).6})/\True) (.pre ((t=t/\n=n)/\t=t/\n=n/\w1q/\lE' (w1o n s t x).3/\lE' (Prod.snd (qR t n x.8 (w1j n s t x).3 {me:=st.1,sp:=st.2,R:=st.3++(w1j n s t x).6})).3) (.ret {d:=false,x:= {x with failed:=ilt x.9 (W (x.5+(w1j n s t x).5)),tries:=W (x.5+(w1j n s t x).5),at':=2,p:=bM x.6 x.7 x.8 (w1j n s t x).1 (w1j n s t x).2 (w1j n s t x).3 (w1j n s t x).4 st.2,fn:=bR,cl:=bY,pr:=(qR t n x.8 (w1j n s t x).3 {me:=st.1,sp:=st.2,R:=st.3++(w1j n s t x).6}).1},st:=(qR t n x.8 (w1j n s t x).3 {me:=st.1,sp:=st.2,R:=st.3++(w1j n s t x).6}).2,s:=(aM t n x.12 s).3}))) (.pre ((t=t/\n=n)/\w1m/\lE' (w1o n s t x).3/\st.3.length+List.length (w1j n s t x).6=List.length (st.3++(w1j n s t x).6)) (.ret {d:=false,x:= {x with failed:=ilt x.9 (W (x.5+(w1j n s t x).5)),tries:=W (x.5+(w1j n s t x).5),at':=3,p:=bM x.6 x.7 x.8 (w1j n s t x).1 (w1j n s t x).2 (w1j n s t x).3 (w1j n s t x).4 st.2,fn:=bR,cl:=bY,pr:=dH},st:= {me:=st.1,sp:=st.2,R:=st.3++(w1j n s t x).6},s:=(aM t n x.12 s).3})))))))))) (.pre ((t=t/\n=n)/\t=t/\n=n/\w1n/\lE' (w1o n s t x).3/\lE' st.3) (.ret {d:=false,x:= {x with at':=0,fn:=(aM t n x.12 s).2,cl:=bY,pr:=dH},st:=st,s:=(aM t n x.12 s).3})))))))
abbrev Z5(F:Int->Int->FTS->STS->MS->Tr FtO)(a:Int)(l:List AVal)(e:Int->Int->FTS->STS->MS->aC Ob):Prop:= ∀(t n:Int) (x:FTS) (st:STS) (s:MS) (K:FtO->Prop) (h:(F t n x st s).run K),cT' 156 [.ptr 0 0,.ptr 2 0] ([some (.cells ([.ptr 1 0,.I x.code,.bool x.okk,.I x.val,.bool x.failed,.I x.tries,.I x.sh,.I x.kd,.I x.ky,.I x.most,.I a,.bool x.p.now,.I x.p.code,.bool x.p.okk,.I x.p.val,.I x.p.addr,.int .u64 x.p.old,.I x.p.nxt,.bool x.p.mark,.I x.p.pops]++l))]++e t n x st s++ [pJ st]) (fG 4 0 [20,21,22] [(.cell 1 4,.ints (some .i64))] (ftP t n) K)
theorem ND:Z5 DK 0 [.ptr 4 0,.O,.O] (fun t n x st s=>[lJ 5 t n st,bI 3 s,bJ s,some (.abs (.find t n x.fn) [])]):=by
 intro t n x st s K h;exact cM' (E:=ER) (by kernel_rfl) h
def DL(t n:Int)(x:FTS)(st:STS)(s:MS):Tr FtO:=.pre (lE' s.3/\RA t n x.13 s) (.ite (pR t n x.13 s).1 (.ite (ilt x.9 (W (x.5+1))) (.pre ((t=t/\n=n)/\(true=false->(1:Int)≠(0:Int)/\(1:Int)≠(1:Int)/\(1:Int)≠(2:Int))/\lE' (ClO.s (pR t n x.13 s)).3/\lE' st.3) (.ret {d:=true,x:= {x with failed:=ilt x.9 (W (x.5+1)),tries:=W (x.5+1),at':=1,fn:=bR,cl:=bY,pr:=dH},st:=st,s:=(pR t n x.13 s).3})) (.pre True (.pre (pS t n st.1 (fU x.6 x.8) (nB x.6 x.7 x.8) (W (x.9 - W (x.5+1)))/\True) (.pre ((t=t/\n=n)/\t=t/\n=n/\w1n/\lE' (ClO.s (pR t n x.13 s)).3/\lE' st.3) (.ret {d:=false,x:= {x with failed:=ilt x.9 (W (x.5+1)),tries:=W (x.5+1),at':=0,fn:=wL t n st.1 (fU x.6 x.8) (nB x.6 x.7 x.8) (W (x.9 - W (x.5+1))),cl:=bY,pr:=dH},st:=st,s:=(pR t n x.13 s).3}))))) (.pre ((t=t/\n=n)/\t=t/\n=n/\w1p/\lE' (ClO.s (pR t n x.13 s)).3/\lE' st.3) (.ret {d:=false,x:= {x with at':=1,fn:=bR,cl:=(pR t n x.13 s).2,pr:=dH},st:=st,s:=(pR t n x.13 s).3})))
theorem NE:Z5 DL 1 [.O,.ptr 4 0,.O] (fun t n x st s=>[lJ 5 t n st,bI 3 s,bJ s,some (.abs (.clear t n x.cl) [])]):=by
 intro t n x st s K h;exact cM' (E:=ER) (by kernel_rfl) h
def DM(t n:Int)(x:FTS)(st:STS)(s:MS):Tr FtO:=.pre ((lE' s.3/\lE' st.3/\t=t/\n=n)/\aBj t n x.14 st s) (.ite (prF t n x.14 st s).1 (.pre ((t=t/\n=n)/\w1m/\lE' (PrO.s (prF t n x.14 st s)).3/\lE' (PrO.st (prF t n x.14 st s)).3) (.ret {d:=false,x:= {x with at':=3,fn:=bR,cl:=bY,pr:=dH},st:=(prF t n x.14 st s).3,s:=(prF t n x.14 st s).4})) (.pre ((t=t/\n=n)/\t=t/\n=n/\w1q/\lE' (PrO.s (prF t n x.14 st s)).3/\lE' (PrO.st (prF t n x.14 st s)).3) (.ret {d:=false,x:= {x with at':=2,fn:=bR,cl:=bY,pr:=(prF t n x.14 st s).2},st:=(prF t n x.14 st s).3,s:=(prF t n x.14 st s).4})))
theorem NF:Z5 DM 2 [.O,.O,.ptr 4 0] (fun t n x st s=>[lJ 5 t n st,bI 3 s,bJ s,some (.abs (.prepare t n x.pr) [1])]):=by
 intro t n x st s K h;exact cM' (E:=ER) (by kernel_rfl) h
abbrev w1i(x:FTS):=eA (FTS.p x).1 (FTS.p x).2 (FTS.p x).3 (FTS.p x).4 (FTS.p x).5 (FTS.p x).6 (FTS.p x).7 (FTS.p x).8 (FTS.p x).9
abbrev w1k:=true=false->(3:Int)≠(0:Int)/\(3:Int)≠(1:Int)/\(3:Int)≠(2:Int)
def DN(t n:Int)(x:FTS)(st:STS)(s:MS):Tr FtO:=.pre (AY (FTS.p x).1 (FTS.p x).2 (FTS.p x).3 (FTS.p x).4 (FTS.p x).5 (FTS.p x).6 (FTS.p x).7 (FTS.p x).8 (FTS.p x).9/\True) (.pre ((q9' s)/\True) (.ite (!bH s.3 (FTS.p x).5 (FTS.p x).6) (.ite (ilt x.9 (W (x.5+1))) (.pre ((t=t/\n=n)/\w1k/\lE' (bif bH s.3 (FTS.p x).5 (FTS.p x).6 then aX s.3 (FTS.p x).5 (w1i x)else s.3)/\lE' st.3) (.ret {d:=true,x:= {x with failed:=ilt x.9 (W (x.5+1)),tries:=W (x.5+1),at':=3,fn:=bR,cl:=bY,pr:=dH},st:=st,s:=(qX s (FTS.p x).5 (FTS.p x).6 (w1i x)) })) (.pre True (.pre (pS t n st.1 (fU x.6 x.8) (nB x.6 x.7 x.8) (W (x.9 - W (x.5+1)))/\True) (.pre ((t=t/\n=n)/\t=t/\n=n/\w1n/\lE' (bif bH s.3 (FTS.p x).5 (FTS.p x).6 then aX s.3 (FTS.p x).5 (w1i x)else s.3)/\lE' st.3) (.ret {d:=false,x:= {x with failed:=ilt x.9 (W (x.5+1)),tries:=W (x.5+1),at':=0,fn:=wL t n st.1 (fU x.6 x.8) (nB x.6 x.7 x.8) (W (x.9 - W (x.5+1))),cl:=bY,pr:=dH},st:=st,s:=(qX s (FTS.p x).5 (FTS.p x).6 (w1i x)) }))))) (.pre True (.ite (gL x.7) (.ite (!ieq (FTS.p x).9 0) (.pre ((lE' st.3/\1=1/\st.3.length+(1:Nat)<=(4294967296:Nat))/\True) (.pre ((t=t/\n=n)/\w1k/\lE' (bif bH s.3 (FTS.p x).5 (FTS.p x).6 then aX s.3 (FTS.p x).5 (w1i x)else s.3)/\st.3.length+(1:Nat)=List.length (st.3++ [(FTS.p x).9])) (.ret {d:=true,x:= {x with code:=(FTS.p x).2,okk:=(FTS.p x).3,val:=(FTS.p x).4,at':=3,fn:=bR,cl:=bY,pr:=dH},st:= {me:=st.1,sp:=0,R:=st.3++ [(FTS.p x).9] },s:=(qX s (FTS.p x).5 (FTS.p x).6 (w1i x)) }))) (.pre ((t=t/\n=n)/\w1k/\lE' (bif bH s.3 (FTS.p x).5 (FTS.p x).6 then aX s.3 (FTS.p x).5 (w1i x)else s.3)/\lE' st.3) (.ret {d:=true,x:= {x with code:=(FTS.p x).2,okk:=(FTS.p x).3,val:=(FTS.p x).4,at':=3,fn:=bR,cl:=bY,pr:=dH},st:= {me:=st.1,sp:=0,R:=st.3},s:=(qX s (FTS.p x).5 (FTS.p x).6 (w1i x)) }))) (.ite (!ieq (FTS.p x).9 0) (.pre ((lE' st.3/\1=1/\st.3.length+(1:Nat)<=(4294967296:Nat))/\True) (.pre ((t=t/\n=n)/\w1k/\lE' (bif bH s.3 (FTS.p x).5 (FTS.p x).6 then aX s.3 (FTS.p x).5 (w1i x)else s.3)/\st.3.length+(1:Nat)=List.length (st.3++ [(FTS.p x).9])) (.ret {d:=true,x:= {x with code:=(FTS.p x).2,okk:=(FTS.p x).3,val:=(FTS.p x).4,at':=3,fn:=bR,cl:=bY,pr:=dH},st:= {me:=st.1,sp:=st.2,R:=st.3++ [(FTS.p x).9] },s:=(qX s (FTS.p x).5 (FTS.p x).6 (w1i x)) }))) (.pre ((t=t/\n=n)/\w1k/\lE' (bif bH s.3 (FTS.p x).5 (FTS.p x).6 then aX s.3 (FTS.p x).5 (w1i x)else s.3)/\lE' st.3) (.ret {d:=true,x:= {x with code:=(FTS.p x).2,okk:=(FTS.p x).3,val:=(FTS.p x).4,at':=3,fn:=bR,cl:=bY,pr:=dH},st:=st,s:=(qX s (FTS.p x).5 (FTS.p x).6 (w1i x)) })))))))
theorem NG:Z5 DN 3 [.O,.O,.O] (fun t n x st s=>[lJ 4 t n st,bI 3 s,bJ s]):=by
 intro t n x st s K h;exact cM' (E:=ER) (by kernel_rfl) h
def ftT(t n:Int)(x:FTS)(st:STS)(s:MS):Tr FtO:=
 bif ieq x.at' 0 then DK t n x st s else
 bif ieq x.at' 1 then DL t n x st s else
 bif ieq x.at' 2 then DM t n x st s else
 bif ieq x.at' 3 then DN t n x st s else .pre False (.ret default)
def jI(t n:Int)(x:FTS)(st:STS)(s:MS):FtO:=(ftT t n x st s).val
def aES(t n:Int)(x:FTS)(st:STS)(s:MS):Prop:=(ftT t n x st s).ok
theorem Z7(t n:Int)(x:FTS)(st:STS)(s:MS)(K:AVal->aC Ob->Prop)(h:(ftT t n x st s).run (fun y=>(FtO.fin t n y).run K)):cT' 156 [.ptr 0 0,.ptr 2 0] (ftH t n x st s) K:=by
 unfold ftT at h
 by_cases e:x.at'=0
 ·rw [e]at h;have h:(DK t n x st s).run _:=h;refine aLx (root:=0) (pos:=[20,21,22]) (cs:=[(.cell 1 4,.ints (some .i64))]) (parse:=ftP t n) (fin:=FtO.fin t n) AJ ((aQ.unpack (.fast t n x) 0 1 (rQ t n x) [1] rfl (congrArg (Prod.mk 1) (AI e)) (by kernel_rfl) rfl).trans (aQ.unpack (.store t n st) 1 0 (dP t n st) [] rfl rfl rfl rfl)) ?_
  have q:=ND t n x st s _ h;rw [<-e]at q;exact q
 rw [bK e]at h
 by_cases e:x.at'=1
 ·rw [e]at h;have h:(DL t n x st s).run _:=h;refine aLx (root:=0) (pos:=[20,21,22]) (cs:=[(.cell 1 4,.ints (some .i64))]) (parse:=ftP t n) (fin:=FtO.fin t n) AJ ((aQ.unpack (.fast t n x) 0 1 (wH t n x) [1] rfl (congrArg (Prod.mk 1) (JM e)) (by kernel_rfl) rfl).trans (aQ.unpack (.store t n st) 1 0 (dP t n st) [] rfl rfl rfl rfl)) ?_
  have q:=NE t n x st s _ h;rw [<-e]at q;exact q
 rw [bK e]at h
 by_cases e:x.at'=2
 ·rw [e]at h;have h:(DM t n x st s).run _:=h;refine aLx (root:=0) (pos:=[20,21,22]) (cs:=[(.cell 1 4,.ints (some .i64))]) (parse:=ftP t n) (fin:=FtO.fin t n) AJ ((aQ.unpack (.fast t n x) 0 1 (wI t n x) [1] rfl (congrArg (Prod.mk 1) (JN e)) (by kernel_rfl) rfl).trans (aQ.unpack (.store t n st) 1 0 (dP t n st) [] rfl rfl rfl rfl)) ?_
  have q:=NF t n x st s _ h;rw [<-e]at q;exact q
 rw [bK e]at h
 by_cases e:x.at'=3
 ·rw [e]at h;have h:(DN t n x st s).run _:=h;refine aLx (root:=0) (pos:=[20,21,22]) (cs:=[(.cell 1 4,.ints (some .i64))]) (parse:=ftP t n) (fin:=FtO.fin t n) AJ ((aQ.unpack (.fast t n x) 0 1 (HF t n x) [1] rfl (congrArg (Prod.mk 1) (DB ⟨omz,omz,omz⟩)) (by kernel_rfl) rfl).trans (aQ.unpack (.store t n st) 1 0 (dP t n st) [] rfl rfl rfl rfl)) ?_
  have q:=NG t n x st s _ h;rw [<-e]at q;exact q
 rw [bK e]at h;exact h.1.elim
def FtO.finB(t n:Int)(y:FtO):Out Ob:=.ite y.d (.ret (.bool true) ([cE' [.ptr 1 0,.I y.x.code,.bool y.x.okk,.I y.x.val,.bool y.x.failed,.I y.x.tries,.I y.x.sh,.I y.x.kd,.I y.x.ky,.I y.x.most,.I y.x.at',.bool y.x.p.now,.I y.x.p.code,.bool y.x.p.okk,.I y.x.p.val,.I y.x.p.addr,.int .u64 y.x.p.old,.I y.x.p.nxt,.bool y.x.p.mark,.I y.x.p.pops,.O,.O,.O],lJ 5 t n y.st,none,bI 4 y.s,bJ y.s,pJ y.st])) (.ret (.bool false) [some (.abs (.fast t n y.x) [1]),lJ 5 t n y.st,none,bI 4 y.s,bJ y.s,pJ y.st])
noncomputable def ftSB:aI Ob:=fun args h=>match args,h with
 | [.ptr 0 0,.ptr 3 0],[some (.abs (.fast t n x) [1]),e1,e2,e3,e4]=>(match l9 2 [e1,e2],cQ 4 [e3,e4]with
   | some (l2,t2,n2,st),some (l,s)=>some (.pre ((l=s.xs.length/\l2=st.R.length/\t2=t/\n2=n)/\aES t n x st s) (FtO.finB t n (jI t n x st s)))
   | _,_=>none)
 | _,_=>none
theorem aEY:sT' 156 ftSB:=by
 intro args h o ho K hK;unfold ftSB at ho;split at ho
 case h_2=>cases ho
 split at ho
 case h_2=>cases ho
 rename_i hs hm;cases ho;obtain⟨⟨⟨hl,aa,rfl,rfl⟩,ok⟩,hK⟩:=hK;cases bB hm hl;cases cB hs aa;exact kP (fun ι hι=>by simp [aG.ren,aLL,AVal.ren,hι]) (fun ι hι=>by simp [aG.ren,hι]) (fun K hK=>Z7 _ _ _ _ _ K (aLD ok hK)) K hK
noncomputable def ftS:aI Ob:=ftSB
theorem aH8:sT' 156 ftS:=aEY
def aEQ(t n:Int)(v:AVal)(g:aC Ob):Option (Prop×(FTS×STS)):=match v,g with
 | .ptr 2 0,[e1,e2,some (.cells [.ptr 0 0,.int .i64 code,.bool okk,.int .i64 val,.bool failed,.int .i64 tries,.int .i64 sh,.int .i64 kd,.int .i64 ky,.int .i64 most,.int .i64 at',.bool p_now,.int .i64 p_code,.bool p_okk,.int .i64 p_val,.int .i64 p_addr,.int .u64 p_old,.int .i64 p_nxt,.bool p_mark,.int .i64 p_pops,.ptr 3 0,.O,.O]),some (.abs (.find t' n' sub) [])]=>(match l9 1 [e1,e2]with
   | some (l2,t2,n2,st)=>some ((t2=t/\n2=n/\l2=st.R.length)/\t'=t/\n'=n/\at'=0,⟨(⟨code,okk,val,failed,tries,sh,kd,ky,most,at',⟨p_now,p_code,p_okk,p_val,p_addr,p_old,p_nxt,p_mark,p_pops⟩,sub,⟨0,0,0,0⟩,⟨0,0,0,false⟩⟩:FTS),st⟩)
   | none=>none)
 | _,_=>none
abbrev ZY(t n:Int)(y:(FTS×STS)):aC Ob:=[lJ 1 t n y.2,pJ y.2,some (.abs (.fast t n y.1) [0])]
theorem ZZ{t n:Int} :bQ (obI tbl) 2 (aEQ t n) (fun y=>.ret (.ptr 2 0) (ZY t n y)):=by
 intro v g p x hp hq K hK;unfold aEQ at hp;split at hp
 case h_2=>cases hp
 rename_i e1 e2 code okk val failed tries sh kd ky most at' p_now p_code p_okk p_val p_addr p_old p_nxt p_mark p_pops t' n' sub;split at hp
 case h_2=>cases hp
 rename_i l2 t2 n2 st hs;cases hp;obtain⟨⟨rfl,rfl,aa⟩,rfl,rfl,ac⟩:=hq;cases cB hs aa;exact let X0:FTS:=⟨code,okk,val,failed,tries,sh,kd,ky,most,at',⟨p_now,p_code,p_okk,p_val,p_addr,p_old,p_nxt,p_mark,p_pops⟩,sub,⟨0,0,0,0⟩,⟨0,0,0,false⟩⟩;⟨⟨_,_,aF.pack (ZY t' n' (X0,st)) (.fast t' n' X0) 2 1 (rQ t' n' X0) [0] (by kernel_rfl) rfl (congrArg (Prod.mk 1) (AI ac)) (by kernel_rfl),hK⟩⟩
def ST(t n:Int)(sh kd ky most:Int)(st:STS):Tr (FTS×STS):=.pre True (.pre (pS t n st.1 (fU sh ky) (nB sh kd ky) (W (most - 0))/\True) (.pre ((t=t/\n=n/\lE' st.3)/\t=t/\n=n/\(0:Int)=(0:Int)) (.ret ({code:=0,okk:=false,val:=0,failed:=false,tries:=0,sh:=sh,kd:=kd,ky:=ky,most:=most,at':=0,p:=aHs,fn:=wL t n st.1 (fU sh ky) (nB sh kd ky) (W (most - 0)),cl:=bY,pr:=dH},st))))
def kY(t n:Int)(sh kd ky most:Int)(st:STS):(FTS×STS):=(ST t n sh kd ky most st).val
def wM(t n:Int)(sh kd ky most:Int)(st:STS):Prop:=(ST t n sh kd ky most st).ok
def ftNS:aI Ob:=fun args h=>match args,h with
 | [.ptr 0 0,.agg [.int .i64 sh,.int .i64 kd,.int .i64 ky],.int .i64 most],[e1,e2]=>(match l9 1 [e1,e2]with
   | some (l2,t,n,st)=>some (.pre (l2=st.R.length/\wM t n sh kd ky most st) (.ret (.ptr 2 0) (ZY t n (kY t n sh kd ky most st))))
   | none=>none)
 | _,_=>none
theorem aER:sT' 253 ftNS:=by
 intro args h o ho K hK;unfold ftNS at ho;split at ho
 case h_2=>cases ho
 rename_i sh kd ky most e1 e2;split at ho
 case h_2=>cases ho
 rename_i l2 t n st hs;cases ho;obtain⟨⟨aa,ok⟩,hK⟩:=hK;cases cB hs aa;refine aLK (root:=2) (pos:=[20,21,22]) (cs:=[]) (parse:=aEQ t n) ZZ ?_;exact cM' (E:=ER) (q:=(ST t n sh kd ky most st).run (fun y=>(Out.ret (.ptr 2 0) (ZY t n y)).run K)) (by kernel_rfl) (aLD ok hK)
noncomputable def ET:=((ER.addS 156 ftS aH8).addS 253 ftNS aER)
def HQ:aZ Ob:=fun args h=>match args,h with
 | [.ptr 0 0],[some (.cells [.ptr 1 0,.int .i64 u,.int .u64 no,.int .i64 rounds,.int .i64 limit,.int .i64 at',.int .u64 found,.int .i64 sh,.int .i64 kd,.int .i64 ky,.bool p_now,.int .i64 p_code,.bool p_okk,.int .i64 p_val,.int .i64 p_addr,.int .u64 p_old,.int .i64 p_nxt,.bool p_mark,.int .i64 p_pops,.O,.O,.O,.O,.O]),some (.cells [.int .i64 t,.int .i64 n,.int .i64 me,.int .i64 sp,.slice 2 0 k 1]),some (.ints (some .i64) R)]=>some (True,.agg [.I (aB found 0 12),.I (aB found 12 9),.I (aB found 21 18),.I (aB found 39 9),.bool (ieq (aB found 48 1) 1),.I (aB found 49 3),.I (aB found 52 10)])
 | _,_=>none
theorem S7:sT' 196 HQ.spec:=by
 intro args h o ho K hK;unfold aZ.spec HQ at ho;split at ho
 case h_2=>cases ho
 rename_i p v hp;split at hp
 case h_2=>cases hp
 rename_i u no rounds limit at' found sh kd ky p_now p_code p_okk p_val p_addr p_old p_nxt p_mark p_pops t n me sp k R;cases hp;cases ho;obtain⟨hp,hK⟩:=hK;have hK:K (.agg [.I (aB found 0 12),.I (aB found 12 9),.I (aB found 21 18),.I (aB found 39 9),.bool (ieq (aB found 48 1) 1),.I (aB found 49 3),.I (aB found 52 10)]) [cE' [.ptr 1 0,.I u,.int .u64 no,.I rounds,.I limit,.I at',.int .u64 found,.I sh,.I kd,.I ky,.bool p_now,.I p_code,.bool p_okk,.I p_val,.I p_addr,.int .u64 p_old,.I p_nxt,.bool p_mark,.I p_pops,.O,.O,.O,.O,.O],cE' [.I t,.I n,.I me,.I sp,.slice 2 0 k 1],iI' R]:=hK;refine aLw (cM' (E:=ET) (q:=True/\K (.agg [.I (aB found 0 12),.I (aB found 12 9),.I (aB found 21 18),.I (aB found 39 9),.bool (ieq (aB found 48 1) 1),.I (aB found 49 3),.I (aB found 52 10)]) [cE' [.ptr 1 0,.I u,.int .u64 no,.I rounds,.I limit,.I at',.int .u64 found,.I sh,.I kd,.I ky,.bool p_now,.I p_code,.bool p_okk,.I p_val,.I p_addr,.int .u64 p_old,.I p_nxt,.bool p_mark,.I p_pops,.O,.O,.O,.O,.O],cE' [.I t,.I n,.I me,.I sp,.slice 2 0 k 1],iI' R]) (by kernel_rfl) ?_)
 exact⟨trivial,hK⟩
noncomputable def EH0:=ET.addR 196 HQ S7
structure HpO where
 d:Bool
 x:HPS
 st:STS
 s:MS
instance:Inhabited HpO:=⟨⟨false,dC,⟨0,0,[]⟩,⟨0,0,[],0,0,0,0,0,false⟩⟩⟩
instance:Inhabited HPS:=⟨dC⟩
abbrev hpH(t n:Int)(x:HPS)(st:STS)(s:MS):aC Ob:=[some (.abs (.help t n x) [1]),some (.abs (.store t n st) []),bI 3 s,bJ s]
abbrev hpD(t n:Int)(x:HPS)(st:STS)(s:MS):aC Ob:=[cE' [.ptr 1 0,.I x.u,.int .u64 x.no,.I x.rounds,.I x.limit,.I x.at',.int .u64 x.found,.I x.sh,.I x.kd,.I x.ky,.bool x.p.now,.I x.p.code,.bool x.p.okk,.I x.p.val,.I x.p.addr,.int .u64 x.p.old,.I x.p.nxt,.bool x.p.mark,.I x.p.pops,.O,.O,.O,.O,.O],some (.abs (.store t n st) []),bI 3 s,bJ s]
def HpO.fin(t n:Int)(y:HpO):Out Ob:=.ite y.d (.ret (.bool true) (hpD t n y.x y.st y.s)) (.ret (.bool false) (hpH t n y.x y.st y.s))
def aFu(t n:Int)(v:AVal)(g:aC Ob):Option (Prop×HpO):=match v,g with
 | .bool d,[some (.cells [.ptr 1 0,.int .i64 u,.int .u64 no,.int .i64 rounds,.int .i64 limit,.int .i64 at',.int .u64 found,.int .i64 sh,.int .i64 kd,.int .i64 ky,.bool p_now,.int .i64 p_code,.bool p_okk,.int .i64 p_val,.int .i64 p_addr,.int .u64 p_old,.int .i64 p_nxt,.bool p_mark,.int .i64 p_pops,.O,.O,.O,.O,.O]),e1,e3,e4,e2]=>(match l9 4 [e1,e2],cQ 3 [e3,e4]with
   | some (l2,t2,n2,st),some (l,s)=>some ((t2=t/\n2=n)/\(d=false->at'≠3/\at'≠4/\at'≠5/\at'≠7/\at'≠8)/\l=s.xs.length/\l2=st.R.length,⟨d,⟨u,no,rounds,limit,at',found,sh,kd,ky,⟨p_now,p_code,p_okk,p_val,p_addr,p_old,p_nxt,p_mark,p_pops⟩,fB,bV,bR,⟨0,0,0,0⟩,⟨0,0,0,false⟩⟩,st,s⟩)
   | _,_=>none)
 | _,_=>none
def aFv(t n:Int)(v:AVal)(g:aC Ob):Option (Prop×HpO):=match v,g with
 | .bool d,[some (.cells [.ptr 1 0,.int .i64 u,.int .u64 no,.int .i64 rounds,.int .i64 limit,.int .i64 at',.int .u64 found,.int .i64 sh,.int .i64 kd,.int .i64 ky,.bool p_now,.int .i64 p_code,.bool p_okk,.int .i64 p_val,.int .i64 p_addr,.int .u64 p_old,.int .i64 p_nxt,.bool p_mark,.int .i64 p_pops,.ptr 4 0,.O,.O,.O,.O]),e1,e3,e4,some (.abs (.exec t' n' sub) []),e2]=>(match l9 5 [e1,e2],cQ 3 [e3,e4]with
   | some (l2,t2,n2,st),some (l,s)=>some ((t2=t/\n2=n)/\t'=t/\n'=n/\(d=false->at'=3)/\l=s.xs.length/\l2=st.R.length,⟨d,⟨u,no,rounds,limit,at',found,sh,kd,ky,⟨p_now,p_code,p_okk,p_val,p_addr,p_old,p_nxt,p_mark,p_pops⟩,sub,bV,bR,⟨0,0,0,0⟩,⟨0,0,0,false⟩⟩,st,s⟩)
   | _,_=>none)
 | _,_=>none
def aFw(t n:Int)(v:AVal)(g:aC Ob):Option (Prop×HpO):=match v,g with
 | .bool d,[some (.cells [.ptr 1 0,.int .i64 u,.int .u64 no,.int .i64 rounds,.int .i64 limit,.int .i64 at',.int .u64 found,.int .i64 sh,.int .i64 kd,.int .i64 ky,.bool p_now,.int .i64 p_code,.bool p_okk,.int .i64 p_val,.int .i64 p_addr,.int .u64 p_old,.int .i64 p_nxt,.bool p_mark,.int .i64 p_pops,.O,.ptr 4 0,.O,.O,.O]),e1,e3,e4,some (.abs (.ensure t' n' sub) [1]),e2]=>(match l9 5 [e1,e2],cQ 3 [e3,e4]with
   | some (l2,t2,n2,st),some (l,s)=>some ((t2=t/\n2=n)/\t'=t/\n'=n/\(d=false->at'=4)/\l=s.xs.length/\l2=st.R.length,⟨d,⟨u,no,rounds,limit,at',found,sh,kd,ky,⟨p_now,p_code,p_okk,p_val,p_addr,p_old,p_nxt,p_mark,p_pops⟩,fB,sub,bR,⟨0,0,0,0⟩,⟨0,0,0,false⟩⟩,st,s⟩)
   | _,_=>none)
 | _,_=>none
def aFx(t n:Int)(v:AVal)(g:aC Ob):Option (Prop×HpO):=match v,g with
 | .bool d,[some (.cells [.ptr 1 0,.int .i64 u,.int .u64 no,.int .i64 rounds,.int .i64 limit,.int .i64 at',.int .u64 found,.int .i64 sh,.int .i64 kd,.int .i64 ky,.bool p_now,.int .i64 p_code,.bool p_okk,.int .i64 p_val,.int .i64 p_addr,.int .u64 p_old,.int .i64 p_nxt,.bool p_mark,.int .i64 p_pops,.O,.O,.ptr 4 0,.O,.O]),e1,e3,e4,some (.abs (.find t' n' sub) []),e2]=>(match l9 5 [e1,e2],cQ 3 [e3,e4]with
   | some (l2,t2,n2,st),some (l,s)=>some ((t2=t/\n2=n)/\t'=t/\n'=n/\(d=false->at'=5)/\l=s.xs.length/\l2=st.R.length,⟨d,⟨u,no,rounds,limit,at',found,sh,kd,ky,⟨p_now,p_code,p_okk,p_val,p_addr,p_old,p_nxt,p_mark,p_pops⟩,fB,bV,sub,⟨0,0,0,0⟩,⟨0,0,0,false⟩⟩,st,s⟩)
   | _,_=>none)
 | _,_=>none
def aFy(t n:Int)(v:AVal)(g:aC Ob):Option (Prop×HpO):=match v,g with
 | .bool d,[some (.cells [.ptr 1 0,.int .i64 u,.int .u64 no,.int .i64 rounds,.int .i64 limit,.int .i64 at',.int .u64 found,.int .i64 sh,.int .i64 kd,.int .i64 ky,.bool p_now,.int .i64 p_code,.bool p_okk,.int .i64 p_val,.int .i64 p_addr,.int .u64 p_old,.int .i64 p_nxt,.bool p_mark,.int .i64 p_pops,.O,.O,.O,.ptr 4 0,.O]),e1,e3,e4,some (.abs (.clear t' n' sub) []),e2]=>(match l9 5 [e1,e2],cQ 3 [e3,e4]with
   | some (l2,t2,n2,st),some (l,s)=>some ((t2=t/\n2=n)/\t'=t/\n'=n/\(d=false->at'=7)/\l=s.xs.length/\l2=st.R.length,⟨d,⟨u,no,rounds,limit,at',found,sh,kd,ky,⟨p_now,p_code,p_okk,p_val,p_addr,p_old,p_nxt,p_mark,p_pops⟩,fB,bV,bR,sub,⟨0,0,0,false⟩⟩,st,s⟩)
   | _,_=>none)
 | _,_=>none
def aFz(t n:Int)(v:AVal)(g:aC Ob):Option (Prop×HpO):=match v,g with
 | .bool d,[some (.cells [.ptr 1 0,.int .i64 u,.int .u64 no,.int .i64 rounds,.int .i64 limit,.int .i64 at',.int .u64 found,.int .i64 sh,.int .i64 kd,.int .i64 ky,.bool p_now,.int .i64 p_code,.bool p_okk,.int .i64 p_val,.int .i64 p_addr,.int .u64 p_old,.int .i64 p_nxt,.bool p_mark,.int .i64 p_pops,.O,.O,.O,.O,.ptr 4 0]),e1,e3,e4,some (.abs (.prepare t' n' sub) [1]),e2]=>(match l9 5 [e1,e2],cQ 3 [e3,e4]with
   | some (l2,t2,n2,st),some (l,s)=>some ((t2=t/\n2=n)/\t'=t/\n'=n/\(d=false->at'=8)/\l=s.xs.length/\l2=st.R.length,⟨d,⟨u,no,rounds,limit,at',found,sh,kd,ky,⟨p_now,p_code,p_okk,p_val,p_addr,p_old,p_nxt,p_mark,p_pops⟩,fB,bV,bR,⟨0,0,0,0⟩,sub⟩,st,s⟩)
   | _,_=>none)
 | _,_=>none
def NM(t n:Int)(v:AVal)(g:aC Ob):Option (Prop×HpO):=(match aFu t n v g with
 | some r=>some r
 | none=>(match aFv t n v g with
 | some r=>some r
 | none=>(match aFw t n v g with
 | some r=>some r
 | none=>(match aFx t n v g with
 | some r=>some r
 | none=>(match aFy t n v g with
 | some r=>some r
 | none=>aFz t n v g)))))
theorem aAK{t n:Int} :bQ (obI tbl) 4 (aFu t n) (HpO.fin t n):=by
 intro v g p x hp hq K hK;unfold aFu at hp;split at hp
 case h_2=>cases hp
 rename_i d u no rounds limit at' found sh kd ky p_now p_code p_okk p_val p_addr p_old p_nxt p_mark p_pops e1 e3 e4 e2;split at hp
 case h_2=>cases hp
 rename_i l2 t2 n2 st l s hs hm;cases hp;obtain⟨⟨rfl,rfl⟩,ac,hl,aa⟩:=hq;cases bB hm hl;cases cB hs aa;refine fV hK (fun h=>?_) (fun hd h=>?_)
 ·exact tkP h (.store t2 n2 st) 1 0 (dP t2 n2 st) []
 ·exact xU h (.store t2 n2 st) 1 0 (dP t2 n2 st) [] 0 [1] rfl (congrArg (Prod.mk 1) (k9 (ac hd)))
theorem aAL{t n:Int} :bQ (obI tbl) 4 (aFv t n) (HpO.fin t n):=by
 intro v g p x hp hq K hK;unfold aFv at hp;split at hp
 case h_2=>cases hp
 rename_i d u no rounds limit at' found sh kd ky p_now p_code p_okk p_val p_addr p_old p_nxt p_mark p_pops e1 e3 e4 t' n' sub e2;split at hp
 case h_2=>cases hp
 rename_i l2 t2 n2 st l s hs hm;cases hp;obtain⟨⟨rfl,rfl⟩,rfl,rfl,ac,hl,aa⟩:=hq;cases bB hm hl;cases cB hs aa;refine fV hK (fun h=>?_) (fun hd h=>?_)
 ·exact FI h [19,20,21,22,23] [0,1,2,3,5] (.store t' n' st) 1 0 (dP t' n' st) []
 ·exact xU h (.store t' n' st) 1 0 (dP t' n' st) [] 0 [1] rfl (congrArg (Prod.mk 1) (KB (ac hd)))
theorem aAM{t n:Int} :bQ (obI tbl) 4 (aFw t n) (HpO.fin t n):=by
 intro v g p x hp hq K hK;unfold aFw at hp;split at hp
 case h_2=>cases hp
 rename_i d u no rounds limit at' found sh kd ky p_now p_code p_okk p_val p_addr p_old p_nxt p_mark p_pops e1 e3 e4 t' n' sub e2;split at hp
 case h_2=>cases hp
 rename_i l2 t2 n2 st l s hs hm;cases hp;obtain⟨⟨rfl,rfl⟩,rfl,rfl,ac,hl,aa⟩:=hq;cases bB hm hl;cases cB hs aa;refine fV hK (fun h=>?_) (fun hd h=>?_)
 ·exact FI h [19,20,21,22,23] [0,1,2,3,5] (.store t' n' st) 1 0 (dP t' n' st) []
 ·exact xU h (.store t' n' st) 1 0 (dP t' n' st) [] 0 [1] rfl (congrArg (Prod.mk 1) (KC (ac hd)))
theorem aAN{t n:Int} :bQ (obI tbl) 4 (aFx t n) (HpO.fin t n):=by
 intro v g p x hp hq K hK;unfold aFx at hp;split at hp
 case h_2=>cases hp
 rename_i d u no rounds limit at' found sh kd ky p_now p_code p_okk p_val p_addr p_old p_nxt p_mark p_pops e1 e3 e4 t' n' sub e2;split at hp
 case h_2=>cases hp
 rename_i l2 t2 n2 st l s hs hm;cases hp;obtain⟨⟨rfl,rfl⟩,rfl,rfl,ac,hl,aa⟩:=hq;cases bB hm hl;cases cB hs aa;refine fV hK (fun h=>?_) (fun hd h=>?_)
 ·exact FI h [19,20,21,22,23] [0,1,2,3,5] (.store t' n' st) 1 0 (dP t' n' st) []
 ·exact xU h (.store t' n' st) 1 0 (dP t' n' st) [] 0 [1] rfl (congrArg (Prod.mk 1) (KD (ac hd)))
theorem aAO{t n:Int} :bQ (obI tbl) 4 (aFy t n) (HpO.fin t n):=by
 intro v g p x hp hq K hK;unfold aFy at hp;split at hp
 case h_2=>cases hp
 rename_i d u no rounds limit at' found sh kd ky p_now p_code p_okk p_val p_addr p_old p_nxt p_mark p_pops e1 e3 e4 t' n' sub e2;split at hp
 case h_2=>cases hp
 rename_i l2 t2 n2 st l s hs hm;cases hp;obtain⟨⟨rfl,rfl⟩,rfl,rfl,ac,hl,aa⟩:=hq;cases bB hm hl;cases cB hs aa;refine fV hK (fun h=>?_) (fun hd h=>?_)
 ·exact FI h [19,20,21,22,23] [0,1,2,3,5] (.store t' n' st) 1 0 (dP t' n' st) []
 ·exact xU h (.store t' n' st) 1 0 (dP t' n' st) [] 0 [1] rfl (congrArg (Prod.mk 1) (KE (ac hd)))
theorem aAP{t n:Int} :bQ (obI tbl) 4 (aFz t n) (HpO.fin t n):=by
 intro v g p x hp hq K hK;unfold aFz at hp;split at hp
 case h_2=>cases hp
 rename_i d u no rounds limit at' found sh kd ky p_now p_code p_okk p_val p_addr p_old p_nxt p_mark p_pops e1 e3 e4 t' n' sub e2;split at hp
 case h_2=>cases hp
 rename_i l2 t2 n2 st l s hs hm;cases hp;obtain⟨⟨rfl,rfl⟩,rfl,rfl,ac,hl,aa⟩:=hq;cases bB hm hl;cases cB hs aa;refine fV hK (fun h=>?_) (fun hd h=>?_)
 ·exact FI h [19,20,21,22,23] [0,1,2,3,5] (.store t' n' st) 1 0 (dP t' n' st) []
 ·exact xU h (.store t' n' st) 1 0 (dP t' n' st) [] 0 [1] rfl (congrArg (Prod.mk 1) (KF (ac hd)))
theorem l7{t n:Int} :bQ (obI tbl) 4 (NM t n) (HpO.fin t n):=by
 intro v g p x hp hq K hK;unfold NM at hp;split at hp
 ·rename_i r hr;cases hp;exact aAK v g p x hr hq K hK
 split at hp
 ·rename_i r hr;cases hp;exact aAL v g p x hr hq K hK
 split at hp
 ·rename_i r hr;cases hp;exact aAM v g p x hr hq K hK
 split at hp
 ·rename_i r hr;cases hp;exact aAN v g p x hr hq K hK
 split at hp
 ·rename_i r hr;cases hp;exact aAO v g p x hr hq K hK
 exact aAP v g p x hp hq K hK
abbrev w1w(n t:Int)(x:HPS):=(((0:Int)<=t/\t<=(100000:Int))/\((0:Int)<=n/\n<=(100000:Int))/\(-1099511627776:Int)<=x.1/\x.1<=(1099511627776:Int))/\True
def DR(t n:Int)(x:HPS)(st:STS)(s:MS):Tr HpO:=.pre (w1w n t x) (.pre ((q9' s)/\True) (.pre True (.pre True (.pre ((t=t/\n=n)/\((!oN (aB (aE s.3 (2*n+5+2*t+3*x.1+2)) 49 3))=false->(1:Int)≠(3:Int)/\(1:Int)≠(4:Int)/\(1:Int)≠(5:Int)/\(1:Int)≠(7:Int)/\(1:Int)≠(8:Int))/\lE' s.3/\lE' st.3) (.ret {d:=!oN (aB (aE s.3 (2*n+5+2*t+3*x.1+2)) 49 3),x:= {x with rounds:=W (x.3+1),at':=1,found:=aE s.3 (2*n+5+2*t+3*x.1+2),ex:=fB,en:=bV,fn:=bR,cl:=bY,pr:=dH},st:=st,s:=(eC s (2*n+5+2*t+3*x.1+2)) })))))
abbrev x7(F:Int->Int->HPS->STS->MS->Tr HpO)(a:Int)(l:List AVal)(e:Int->Int->HPS->STS->MS->aC Ob):Prop:= ∀(t n:Int) (x:HPS) (st:STS) (s:MS) (K:HpO->Prop) (h:(F t n x st s).run K),cT' 152 [.ptr 0 0,.ptr 2 0] ([some (.cells ([.ptr 1 0,.I x.u,.int .u64 x.no,.I x.rounds,.I x.limit,.I a,.int .u64 x.found,.I x.sh,.I x.kd,.I x.ky,.bool x.p.now,.I x.p.code,.bool x.p.okk,.I x.p.val,.I x.p.addr,.int .u64 x.p.old,.I x.p.nxt,.bool x.p.mark,.I x.p.pops]++l))]++e t n x st s++ [pJ st]) (fG 4 0 [19,20,21,22,23] [(.cell 1 4,.ints (some .i64))] (NM t n) K)
theorem NN:x7 DR 0 [.O,.O,.O,.O,.O] (fun t n x st s=>[lJ 4 t n st,bI 3 s,bJ s]):=by
 intro t n x st s K h;exact cM' (E:=EH0) (by kernel_rfl) h
def DS(t n:Int)(x:HPS)(st:STS)(s:MS):Tr HpO:=.pre (w1w n t x) (.pre ((q9' s)/\True) (.pre ((t=t/\n=n)/\((!ieq (aE s.3 (2*n+5+2*t+3*x.1)) x.2)=false->(2:Int)≠(3:Int)/\(2:Int)≠(4:Int)/\(2:Int)≠(5:Int)/\(2:Int)≠(7:Int)/\(2:Int)≠(8:Int))/\lE' s.3/\lE' st.3) (.ret {d:=!ieq (aE s.3 (2*n+5+2*t+3*x.1)) x.2,x:= {x with at':=2,ex:=fB,en:=bV,fn:=bR,cl:=bY,pr:=dH},st:=st,s:=(eC s (2*n+5+2*t+3*x.1)) })))
theorem NO:x7 DS 1 [.O,.O,.O,.O,.O] (fun t n x st s=>[lJ 4 t n st,bI 3 s,bJ s]):=by
 intro t n x st s K h;exact cM' (E:=EH0) (by kernel_rfl) h
abbrev w1s(n:Int)(s:MS)(t:Int)(x:HPS):=aE s.3 (2*n+5+2*t+3*x.1+1)
abbrev w1z:=false=false->(5:Int)=(5:Int)
def DT(t n:Int)(x:HPS)(st:STS)(s:MS):Tr HpO:=.pre (w1w n t x) (.pre ((q9' s)/\True) (.pre ((0:Int)<=aE s.3 (2*n+5+2*t+3*x.1+1)/\aE s.3 (2*n+5+2*t+3*x.1+1)<=(18446744073709551615:Int)) (.ite (!ieq (bif jS (w1s n s t x)then 0 else 3) 0) (.pre ((t=t/\n=n)/\(true=false->(2:Int)≠(3:Int)/\(2:Int)≠(4:Int)/\(2:Int)≠(5:Int)/\(2:Int)≠(7:Int)/\(2:Int)≠(8:Int))/\lE' s.3/\lE' st.3) (.ret {d:=true,x:= {x with at':=2,sh:=bif jS (w1s n s t x)then aB (w1s n s t x) 0 3 else 0,kd:=bif jS (w1s n s t x)then aB (w1s n s t x) 3 3 else 0,ky:=bif jS (w1s n s t x)then aB (w1s n s t x) 6 10 else 0,ex:=fB,en:=bV,fn:=bR,cl:=bY,pr:=dH},st:=st,s:=(eC s (2*n+5+2*t+3*x.1+1)) })) (.pre True (.ite (!hasB [1] (aB x.6 49 3)) (.pre True (.pre (SN t n x.1 (bif jS (w1s n s t x)then aB (w1s n s t x) 0 3 else 0) (bif jS (w1s n s t x)then aB (w1s n s t x) 3 3 else 0) (bif jS (w1s n s t x)then aB (w1s n s t x) 6 10 else 0) (aB x.6 0 12)/\True) (.pre ((t=t/\n=n)/\t=t/\n=n/\(false=false->(3:Int)=(3:Int))/\lE' s.3/\lE' st.3) (.ret {d:=false,x:= {x with at':=3,sh:=bif jS (w1s n s t x)then aB (w1s n s t x) 0 3 else 0,kd:=bif jS (w1s n s t x)then aB (w1s n s t x) 3 3 else 0,ky:=bif jS (w1s n s t x)then aB (w1s n s t x) 6 10 else 0,ex:=aEA t n x.1 (bif jS (w1s n s t x)then aB (w1s n s t x) 0 3 else 0) (bif jS (w1s n s t x)then aB (w1s n s t x) 3 3 else 0) (bif jS (w1s n s t x)then aB (w1s n s t x) 6 10 else 0) (aB x.6 0 12),en:=bV,fn:=bR,cl:=bY,pr:=dH},st:=st,s:=(eC s (2*n+5+2*t+3*x.1+1)) })))) (.pre True (.ite (gL (bif jS (w1s n s t x)then aB (w1s n s t x) 3 3 else 0)) (.ite (ieq st.2 0) (.pre (lE' st.3/\(t=t/\n=n/\lE' st.3)/\True) (.pre ((t=t/\n=n)/\t=t/\n=n/\(false=false->(4:Int)=(4:Int))/\lE' s.3/\lE' st.3) (.ret {d:=false,x:= {x with at':=4,sh:=bif jS (w1s n s t x)then aB (w1s n s t x) 0 3 else 0,kd:=bif jS (w1s n s t x)then aB (w1s n s t x) 3 3 else 0,ky:=bif jS (w1s n s t x)then aB (w1s n s t x) 6 10 else 0,ex:=fB,en:=bV,fn:=bR,cl:=bY,pr:=dH},st:=st,s:=(eC s (2*n+5+2*t+3*x.1+1)) }))) (.pre True (.pre (pS t n st.1 (fU (bif jS (w1s n s t x)then aB (w1s n s t x) 0 3 else 0) (bif jS (w1s n s t x)then aB (w1s n s t x) 6 10 else 0)) (nB (bif jS (w1s n s t x)then aB (w1s n s t x) 0 3 else 0) (bif jS (w1s n s t x)then aB (w1s n s t x) 3 3 else 0) (bif jS (w1s n s t x)then aB (w1s n s t x) 6 10 else 0)) x.4/\True) (.pre ((t=t/\n=n)/\t=t/\n=n/\w1z/\lE' s.3/\lE' st.3) (.ret {d:=false,x:= {x with at':=5,sh:=bif jS (w1s n s t x)then aB (w1s n s t x) 0 3 else 0,kd:=bif jS (w1s n s t x)then aB (w1s n s t x) 3 3 else 0,ky:=bif jS (w1s n s t x)then aB (w1s n s t x) 6 10 else 0,ex:=fB,en:=bV,fn:=wL t n st.1 (fU (bif jS (w1s n s t x)then aB (w1s n s t x) 0 3 else 0) (bif jS (w1s n s t x)then aB (w1s n s t x) 6 10 else 0)) (nB (bif jS (w1s n s t x)then aB (w1s n s t x) 0 3 else 0) (bif jS (w1s n s t x)then aB (w1s n s t x) 3 3 else 0) (bif jS (w1s n s t x)then aB (w1s n s t x) 6 10 else 0)) x.4,cl:=bY,pr:=dH},st:=st,s:=(eC s (2*n+5+2*t+3*x.1+1)) }))))) (.pre True (.pre (pS t n st.1 (fU (bif jS (w1s n s t x)then aB (w1s n s t x) 0 3 else 0) (bif jS (w1s n s t x)then aB (w1s n s t x) 6 10 else 0)) (nB (bif jS (w1s n s t x)then aB (w1s n s t x) 0 3 else 0) (bif jS (w1s n s t x)then aB (w1s n s t x) 3 3 else 0) (bif jS (w1s n s t x)then aB (w1s n s t x) 6 10 else 0)) x.4/\True) (.pre ((t=t/\n=n)/\t=t/\n=n/\w1z/\lE' s.3/\lE' st.3) (.ret {d:=false,x:= {x with at':=5,sh:=bif jS (w1s n s t x)then aB (w1s n s t x) 0 3 else 0,kd:=bif jS (w1s n s t x)then aB (w1s n s t x) 3 3 else 0,ky:=bif jS (w1s n s t x)then aB (w1s n s t x) 6 10 else 0,ex:=fB,en:=bV,fn:=wL t n st.1 (fU (bif jS (w1s n s t x)then aB (w1s n s t x) 0 3 else 0) (bif jS (w1s n s t x)then aB (w1s n s t x) 6 10 else 0)) (nB (bif jS (w1s n s t x)then aB (w1s n s t x) 0 3 else 0) (bif jS (w1s n s t x)then aB (w1s n s t x) 3 3 else 0) (bif jS (w1s n s t x)then aB (w1s n s t x) 6 10 else 0)) x.4,cl:=bY,pr:=dH},st:=st,s:=(eC s (2*n+5+2*t+3*x.1+1)) })))))))))))
theorem NP:x7 DT 2 [.O,.O,.O,.O,.O] (fun t n x st s=>[lJ 4 t n st,bI 3 s,bJ s]):=by
 intro t n x st s K h;exact cM' (E:=EH0) (by kernel_rfl) h
abbrev w1t:=false=false->(0:Int)≠(3:Int)/\(0:Int)≠(4:Int)/\(0:Int)≠(5:Int)/\(0:Int)≠(7:Int)/\(0:Int)≠(8:Int)
def DU(t n:Int)(x:HPS)(st:STS)(s:MS):Tr HpO:=.pre (lE' s.3/\aEE t n x.11 s) (.ite (FR t n x.11 s).1 (.ite (!ieq (ExO.x (FR t n x.11 s)).1 0) (.pre (lE' st.3/\1=1/\st.3.length+(1:Nat)<=(4294967296:Nat)) (.pre ((t=t/\n=n)/\w1t/\lE' (ExO.s (FR t n x.11 s)).3/\st.3.length+(1:Nat)=List.length (st.3++ [(ExO.x (FR t n x.11 s)).1])) (.ret {d:=false,x:= {x with at':=0,ex:=fB,en:=bV,fn:=bR,cl:=bY,pr:=dH},st:= {me:=st.1,sp:=st.2,R:=st.3++ [(ExO.x (FR t n x.11 s)).1] },s:=(FR t n x.11 s).3}))) (.pre ((t=t/\n=n)/\w1t/\lE' (ExO.s (FR t n x.11 s)).3/\lE' st.3) (.ret {d:=false,x:= {x with at':=0,ex:=fB,en:=bV,fn:=bR,cl:=bY,pr:=dH},st:=st,s:=(FR t n x.11 s).3}))) (.pre ((t=t/\n=n)/\t=t/\n=n/\(false=false->(3:Int)=(3:Int))/\lE' (ExO.s (FR t n x.11 s)).3/\lE' st.3) (.ret {d:=false,x:= {x with at':=3,ex:=(FR t n x.11 s).2,en:=bV,fn:=bR,cl:=bY,pr:=dH},st:=st,s:=(FR t n x.11 s).3})))
theorem NQ:x7 DU 3 [.ptr 4 0,.O,.O,.O,.O] (fun t n x st s=>[lJ 5 t n st,bI 3 s,bJ s,some (.abs (.exec t n x.ex) [])]):=by
 intro t n x st s K h;exact cM' (E:=EH0) (by kernel_rfl) h
abbrev w1x:=false=false->(6:Int)≠(3:Int)/\(6:Int)≠(4:Int)/\(6:Int)≠(5:Int)/\(6:Int)≠(7:Int)/\(6:Int)≠(8:Int)
def DV(t n:Int)(x:HPS)(st:STS)(s:MS):Tr HpO:=.pre ((lE' s.3/\lE' st.3/\t=t/\n=n)/\PO t n (HPS.en x) st s) (.ite (enF t n x.12 st s).1 (.ite (EO.e (enF t n x.12 st s)).2 (.pre ((t=t/\n=n)/\w1x/\lE' (EO.s (enF t n x.12 st s)).3/\lE' (EO.st (enF t n x.12 st s)).3) (.ret {d:=false,x:= {x with at':=6,p:= {now:=true,code:=4,okk:=false,val:=0,addr:=0,old:=0,nxt:=0,mark:=false,pops:=0},ex:=fB,en:=bV,fn:=bR,cl:=bY,pr:=dH},st:=(enF t n x.12 st s).3,s:=(enF t n x.12 st s).4})) (.pre True (.pre (pS t n (EO.st (enF t n x.12 st s)).1 (fU x.7 x.9) (nB x.7 x.8 x.9) x.4/\True) (.pre ((t=t/\n=n)/\t=t/\n=n/\w1z/\lE' (EO.s (enF t n x.12 st s)).3/\lE' (EO.st (enF t n x.12 st s)).3) (.ret {d:=false,x:= {x with at':=5,ex:=fB,en:=bV,fn:=wL t n (EO.st (enF t n x.12 st s)).1 (fU x.7 x.9) (nB x.7 x.8 x.9) x.4,cl:=bY,pr:=dH},st:=(enF t n x.12 st s).3,s:=(enF t n x.12 st s).4}))))) (.pre ((t=t/\n=n)/\t=t/\n=n/\(false=false->(4:Int)=(4:Int))/\lE' (EO.s (enF t n x.12 st s)).3/\lE' (EO.st (enF t n x.12 st s)).3) (.ret {d:=false,x:= {x with at':=4,ex:=fB,en:=(enF t n x.12 st s).2,fn:=bR,cl:=bY,pr:=dH},st:=(enF t n x.12 st s).3,s:=(enF t n x.12 st s).4})))
theorem NR:x7 DV 4 [.O,.ptr 4 0,.O,.O,.O] (fun t n x st s=>[lJ 5 t n st,bI 3 s,bJ s,some (.abs (.ensure t n x.en) [1])]):=by
 intro t n x st s K h;exact cM' (E:=EH0) (by kernel_rfl) h
abbrev w1v(n:Int)(s:MS)(t:Int)(x:HPS):=FnO.x (aM t n x.13 s)
abbrev w1r(n:Int)(s:MS)(st:STS)(t:Int)(x:HPS):=bM x.7 x.8 x.9 (w1v n s t x).1 (w1v n s t x).2 (w1v n s t x).3 (w1v n s t x).4 st.2
abbrev w1y:=false=false->(9:Int)≠(3:Int)/\(9:Int)≠(4:Int)/\(9:Int)≠(5:Int)/\(9:Int)≠(7:Int)/\(9:Int)≠(8:Int)
def DW(t n:Int)(x:HPS)(st:STS)(s:MS):Tr HpO:=.pre (lE' s.3/\MV t n x.13 s) (.ite (aM t n x.13 s).1 (.pre ((lE' st.3/\lE' (w1v n s t x).6/\st.3.length+List.length (w1v n s t x).6<=(4294967296:Nat))/\True) (.pre (xG x.7 x.8 x.9 (w1v n s t x).1 (w1v n s t x).2 (w1v n s t x).3 (w1v n s t x).4 st.2/\True) (.ite (w1v n s t x).7 (.pre ((t=t/\n=n)/\w1t/\lE' (FnO.s (aM t n x.13 s)).3/\st.3.length+List.length (w1v n s t x).6=List.length (st.3++(w1v n s t x).6)) (.ret {d:=false,x:= {x with at':=0,p:=bM x.7 x.8 x.9 (w1v n s t x).1 (w1v n s t x).2 (w1v n s t x).3 (w1v n s t x).4 st.2,ex:=fB,en:=bV,fn:=bR,cl:=bY,pr:=dH},st:= {me:=st.1,sp:=st.2,R:=st.3++(w1v n s t x).6},s:=(aM t n x.13 s).3})) (.ite (w1r n s st t x).1 (.pre ((t=t/\n=n)/\w1x/\lE' (FnO.s (aM t n x.13 s)).3/\st.3.length+List.length (w1v n s t x).6=List.length (st.3++(w1v n s t x).6)) (.ret {d:=false,x:= {x with at':=6,p:=bM x.7 x.8 x.9 (w1v n s t x).1 (w1v n s t x).2 (w1v n s t x).3 (w1v n s t x).4 st.2,ex:=fB,en:=bV,fn:=bR,cl:=bY,pr:=dH},st:= {me:=st.1,sp:=st.2,R:=st.3++(w1v n s t x).6},s:=(aM t n x.13 s).3})) (.pre (pG (w1r n s st t x).1 (w1r n s st t x).2 (w1r n s st t x).3 (w1r n s st t x).4 (w1r n s st t x).5 (w1r n s st t x).6 (w1r n s st t x).7 (w1r n s st t x).8 (w1r n s st t x).9) (.ite (AW (w1r n s st t x).1 (w1r n s st t x).2 (w1r n s st t x).3 (w1r n s st t x).4 (w1r n s st t x).5 (w1r n s st t x).6 (w1r n s st t x).7 (w1r n s st t x).8 (w1r n s st t x).9) (.pre (rG t n (w1r n s st t x).5/\True) (.pre ((t=t/\n=n)/\t=t/\n=n/\(false=false->(7:Int)=(7:Int))/\lE' (FnO.s (aM t n x.13 s)).3/\st.3.length+List.length (w1v n s t x).6=List.length (st.3++(w1v n s t x).6)) (.ret {d:=false,x:= {x with at':=7,p:=bM x.7 x.8 x.9 (w1v n s t x).1 (w1v n s t x).2 (w1v n s t x).3 (w1v n s t x).4 st.2,ex:=fB,en:=bV,fn:=bR,cl:=zZ t n (w1r n s st t x).5,pr:=dH},st:= {me:=st.1,sp:=st.2,R:=st.3++(w1v n s t x).6},s:=(aM t n x.13 s).3}))) (.pre True (.ite (gL x.8) (.pre ((st.3.length+List.length (w1v n s t x).6=List.length (st.3++(w1v n s t x).6)/\EU t n x.9 (w1v n s t x).3 {me:=st.1,sp:=st.2,R:=st.3++(w1v n s t x).6})/\True) (.pre ((t=t/\n=n)/\t=t/\n=n/\(false=false->(8:Int)=(8:Int))/\lE' (FnO.s (aM t n x.13 s)).3/\lE' (Prod.snd (qR t n x.9 (w1v n s t x).3 {me:=st.1,sp:=st.2,R:=st.3++(w1v n s t x).6})).3) (.ret {d:=false,x:= {x with at':=8,p:=bM x.7 x.8 x.9 (w1v n s t x).1 (w1v n s t x).2 (w1v n s t x).3 (w1v n s t x).4 st.2,ex:=fB,en:=bV,fn:=bR,cl:=bY,pr:=(qR t n x.9 (w1v n s t x).3 {me:=st.1,sp:=st.2,R:=st.3++(w1v n s t x).6}).1},st:=(qR t n x.9 (w1v n s t x).3 {me:=st.1,sp:=st.2,R:=st.3++(w1v n s t x).6}).2,s:=(aM t n x.13 s).3}))) (.pre ((t=t/\n=n)/\w1y/\lE' (FnO.s (aM t n x.13 s)).3/\st.3.length+List.length (w1v n s t x).6=List.length (st.3++(w1v n s t x).6)) (.ret {d:=false,x:= {x with at':=9,p:=bM x.7 x.8 x.9 (w1v n s t x).1 (w1v n s t x).2 (w1v n s t x).3 (w1v n s t x).4 st.2,ex:=fB,en:=bV,fn:=bR,cl:=bY,pr:=dH},st:= {me:=st.1,sp:=st.2,R:=st.3++(w1v n s t x).6},s:=(aM t n x.13 s).3})))))))))) (.pre ((t=t/\n=n)/\t=t/\n=n/\w1z/\lE' (FnO.s (aM t n x.13 s)).3/\lE' st.3) (.ret {d:=false,x:= {x with at':=5,ex:=fB,en:=bV,fn:=(aM t n x.13 s).2,cl:=bY,pr:=dH},st:=st,s:=(aM t n x.13 s).3})))
theorem NT:x7 DW 5 [.O,.O,.ptr 4 0,.O,.O] (fun t n x st s=>[lJ 5 t n st,bI 3 s,bJ s,some (.abs (.find t n x.fn) [])]):=by
 intro t n x st s K h;exact cM' (E:=EH0) (by kernel_rfl) h
def DX(t n:Int)(x:HPS)(st:STS)(s:MS):Tr HpO:=.pre True (.pre True (.pre True (.pre (w1w n t x) (.pre ((q9' s)/\True) (.pre ((t=t/\n=n)/\w1t/\lE' (bif bH s.3 (2*n+5+2*t+3*x.1+2) x.6 then aX s.3 (2*n+5+2*t+3*x.1+2) (bif dOk (aB x.6 0 12) 0 0 (bif ieq (HPS.p x).2 4 then 1 else 0) 5 (HPS.p x).4 then cP (aB x.6 0 12) 0 0 (bif ieq (HPS.p x).2 4 then 1 else 0) (HPS.p x).3 5 (HPS.p x).4 else 0)else s.3)/\lE' st.3) (.ret {d:=false,x:= {x with at':=0,ex:=fB,en:=bV,fn:=bR,cl:=bY,pr:=dH},st:=st,s:=(qX s (2*n+5+2*t+3*x.1+2) x.6 (bif dOk (aB x.6 0 12) 0 0 (bif ieq (HPS.p x).2 4 then 1 else 0) 5 (HPS.p x).4 then cP (aB x.6 0 12) 0 0 (bif ieq (HPS.p x).2 4 then 1 else 0) (HPS.p x).3 5 (HPS.p x).4 else 0)) }))))))
theorem NU:x7 DX 6 [.O,.O,.O,.O,.O] (fun t n x st s=>[lJ 4 t n st,bI 3 s,bJ s]):=by
 intro t n x st s K h;exact cM' (E:=EH0) (by kernel_rfl) h
def DY(t n:Int)(x:HPS)(st:STS)(s:MS):Tr HpO:=.pre (lE' s.3/\RA t n x.14 s) (.ite (pR t n x.14 s).1 (.pre ((t=t/\n=n)/\w1t/\lE' (ClO.s (pR t n x.14 s)).3/\lE' st.3) (.ret {d:=false,x:= {x with at':=0,ex:=fB,en:=bV,fn:=bR,cl:=bY,pr:=dH},st:=st,s:=(pR t n x.14 s).3})) (.pre ((t=t/\n=n)/\t=t/\n=n/\(false=false->(7:Int)=(7:Int))/\lE' (ClO.s (pR t n x.14 s)).3/\lE' st.3) (.ret {d:=false,x:= {x with at':=7,ex:=fB,en:=bV,fn:=bR,cl:=(pR t n x.14 s).2,pr:=dH},st:=st,s:=(pR t n x.14 s).3})))
theorem NV:x7 DY 7 [.O,.O,.O,.ptr 4 0,.O] (fun t n x st s=>[lJ 5 t n st,bI 3 s,bJ s,some (.abs (.clear t n x.cl) [])]):=by
 intro t n x st s K h;exact cM' (E:=EH0) (by kernel_rfl) h
def DZ(t n:Int)(x:HPS)(st:STS)(s:MS):Tr HpO:=.pre ((lE' s.3/\lE' st.3/\t=t/\n=n)/\aBj t n x.15 st s) (.ite (prF t n x.15 st s).1 (.pre ((t=t/\n=n)/\w1y/\lE' (PrO.s (prF t n x.15 st s)).3/\lE' (PrO.st (prF t n x.15 st s)).3) (.ret {d:=false,x:= {x with at':=9,ex:=fB,en:=bV,fn:=bR,cl:=bY,pr:=dH},st:=(prF t n x.15 st s).3,s:=(prF t n x.15 st s).4})) (.pre ((t=t/\n=n)/\t=t/\n=n/\(false=false->(8:Int)=(8:Int))/\lE' (PrO.s (prF t n x.15 st s)).3/\lE' (PrO.st (prF t n x.15 st s)).3) (.ret {d:=false,x:= {x with at':=8,ex:=fB,en:=bV,fn:=bR,cl:=bY,pr:=(prF t n x.15 st s).2},st:=(prF t n x.15 st s).3,s:=(prF t n x.15 st s).4})))
theorem NW:x7 DZ 8 [.O,.O,.O,.O,.ptr 4 0] (fun t n x st s=>[lJ 5 t n st,bI 3 s,bJ s,some (.abs (.prepare t n x.pr) [1])]):=by
 intro t n x st s K h;exact cM' (E:=EH0) (by kernel_rfl) h
abbrev w1u(x:HPS):=jV (HPS.p x).1 (HPS.p x).2 (HPS.p x).3 (HPS.p x).4 (HPS.p x).5 (HPS.p x).6 (HPS.p x).7 (HPS.p x).8 (HPS.p x).9 (aB x.6 0 12)
def D0(t n:Int)(x:HPS)(st:STS)(s:MS):Tr HpO:=.pre True (.pre (AX (HPS.p x).1 (HPS.p x).2 (HPS.p x).3 (HPS.p x).4 (HPS.p x).5 (HPS.p x).6 (HPS.p x).7 (HPS.p x).8 (HPS.p x).9 (aB x.6 0 12)/\True) (.pre (w1w n t x) (.pre ((q9' s)/\True) (.ite (bH s.3 (2*n+5+2*t+3*x.1+2) x.6) (.pre True (.ite (gL x.8) (.pre ((t=t/\n=n)/\w1t/\lE' (bif bH s.3 (2*n+5+2*t+3*x.1+2) x.6 then aX s.3 (2*n+5+2*t+3*x.1+2) (w1u x).1 else s.3)/\lE' st.3) (.ret {d:=false,x:= {x with at':=0,ex:=fB,en:=bV,fn:=bR,cl:=bY,pr:=dH},st:= {me:=st.1,sp:=0,R:=st.3},s:=(qX s (2*n+5+2*t+3*x.1+2) x.6 ((w1u x).1)) })) (.pre ((t=t/\n=n)/\w1t/\lE' (bif bH s.3 (2*n+5+2*t+3*x.1+2) x.6 then aX s.3 (2*n+5+2*t+3*x.1+2) (w1u x).1 else s.3)/\lE' st.3) (.ret {d:=false,x:= {x with at':=0,ex:=fB,en:=bV,fn:=bR,cl:=bY,pr:=dH},st:=st,s:=(qX s (2*n+5+2*t+3*x.1+2) x.6 ((w1u x).1)) })))) (.pre ((t=t/\n=n)/\w1t/\lE' (bif bH s.3 (2*n+5+2*t+3*x.1+2) x.6 then aX s.3 (2*n+5+2*t+3*x.1+2) (w1u x).1 else s.3)/\lE' st.3) (.ret {d:=false,x:= {x with at':=0,ex:=fB,en:=bV,fn:=bR,cl:=bY,pr:=dH},st:=st,s:=(qX s (2*n+5+2*t+3*x.1+2) x.6 ((w1u x).1)) }))))))
theorem NX:x7 D0 9 [.O,.O,.O,.O,.O] (fun t n x st s=>[lJ 4 t n st,bI 3 s,bJ s]):=by
 intro t n x st s K h;exact cM' (E:=EH0) (by kernel_rfl) h
def hpT(t n:Int)(x:HPS)(st:STS)(s:MS):Tr HpO:=
 bif ieq x.at' 0 then DR t n x st s else
 bif ieq x.at' 1 then DS t n x st s else
 bif ieq x.at' 2 then DT t n x st s else
 bif ieq x.at' 3 then DU t n x st s else
 bif ieq x.at' 4 then DV t n x st s else
 bif ieq x.at' 5 then DW t n x st s else
 bif ieq x.at' 6 then DX t n x st s else
 bif ieq x.at' 7 then DY t n x st s else
 bif ieq x.at' 8 then DZ t n x st s else
 bif ieq x.at' 9 then D0 t n x st s else .pre False (.ret default)
def iI(t n:Int)(x:HPS)(st:STS)(s:MS):HpO:=(hpT t n x st s).val
def aAJ(t n:Int)(x:HPS)(st:STS)(s:MS):Prop:=(hpT t n x st s).ok
theorem aAR(t n:Int)(x:HPS)(st:STS)(s:MS)(K:AVal->aC Ob->Prop)(h:(hpT t n x st s).run (fun y=>(HpO.fin t n y).run K)):cT' 152 [.ptr 0 0,.ptr 2 0] (hpH t n x st s) K:=by
 unfold hpT at h
 by_cases e:x.at'=0
 ·rw [e]at h;have h:(DR t n x st s).run _:=h;refine aLx (root:=0) (pos:=[19,20,21,22,23]) (cs:=[(.cell 1 4,.ints (some .i64))]) (parse:=NM t n) (fin:=HpO.fin t n) l7 ((aQ.unpack (.help t n x) 0 1 (oF t n x) [1] rfl (congrArg (Prod.mk 1) (k9 ⟨omz,omz,omz,omz,omz⟩)) (by kernel_rfl) rfl).trans (aQ.unpack (.store t n st) 1 0 (dP t n st) [] rfl rfl rfl rfl)) ?_
  have q:=NN t n x st s _ h;rw [<-e]at q;exact q
 rw [bK e]at h
 by_cases e:x.at'=1
 ·rw [e]at h;have h:(DS t n x st s).run _:=h;refine aLx (root:=0) (pos:=[19,20,21,22,23]) (cs:=[(.cell 1 4,.ints (some .i64))]) (parse:=NM t n) (fin:=HpO.fin t n) l7 ((aQ.unpack (.help t n x) 0 1 (oF t n x) [1] rfl (congrArg (Prod.mk 1) (k9 ⟨omz,omz,omz,omz,omz⟩)) (by kernel_rfl) rfl).trans (aQ.unpack (.store t n st) 1 0 (dP t n st) [] rfl rfl rfl rfl)) ?_
  have q:=NO t n x st s _ h;rw [<-e]at q;exact q
 rw [bK e]at h
 by_cases e:x.at'=2
 ·rw [e]at h;have h:(DT t n x st s).run _:=h;refine aLx (root:=0) (pos:=[19,20,21,22,23]) (cs:=[(.cell 1 4,.ints (some .i64))]) (parse:=NM t n) (fin:=HpO.fin t n) l7 ((aQ.unpack (.help t n x) 0 1 (oF t n x) [1] rfl (congrArg (Prod.mk 1) (k9 ⟨omz,omz,omz,omz,omz⟩)) (by kernel_rfl) rfl).trans (aQ.unpack (.store t n st) 1 0 (dP t n st) [] rfl rfl rfl rfl)) ?_
  have q:=NP t n x st s _ h;rw [<-e]at q;exact q
 rw [bK e]at h
 by_cases e:x.at'=3
 ·rw [e]at h;have h:(DU t n x st s).run _:=h;refine aLx (root:=0) (pos:=[19,20,21,22,23]) (cs:=[(.cell 1 4,.ints (some .i64))]) (parse:=NM t n) (fin:=HpO.fin t n) l7 ((aQ.unpack (.help t n x) 0 1 (wQ t n x) [1] rfl (congrArg (Prod.mk 1) (KB e)) (by kernel_rfl) rfl).trans (aQ.unpack (.store t n st) 1 0 (dP t n st) [] rfl rfl rfl rfl)) ?_
  have q:=NQ t n x st s _ h;rw [<-e]at q;exact q
 rw [bK e]at h
 by_cases e:x.at'=4
 ·rw [e]at h;have h:(DV t n x st s).run _:=h;refine aLx (root:=0) (pos:=[19,20,21,22,23]) (cs:=[(.cell 1 4,.ints (some .i64))]) (parse:=NM t n) (fin:=HpO.fin t n) l7 ((aQ.unpack (.help t n x) 0 1 (wP t n x) [1] rfl (congrArg (Prod.mk 1) (KC e)) (by kernel_rfl) rfl).trans (aQ.unpack (.store t n st) 1 0 (dP t n st) [] rfl rfl rfl rfl)) ?_
  have q:=NR t n x st s _ h;rw [<-e]at q;exact q
 rw [bK e]at h
 by_cases e:x.at'=5
 ·rw [e]at h;have h:(DW t n x st s).run _:=h;refine aLx (root:=0) (pos:=[19,20,21,22,23]) (cs:=[(.cell 1 4,.ints (some .i64))]) (parse:=NM t n) (fin:=HpO.fin t n) l7 ((aQ.unpack (.help t n x) 0 1 (wR t n x) [1] rfl (congrArg (Prod.mk 1) (KD e)) (by kernel_rfl) rfl).trans (aQ.unpack (.store t n st) 1 0 (dP t n st) [] rfl rfl rfl rfl)) ?_
  have q:=NT t n x st s _ h;rw [<-e]at q;exact q
 rw [bK e]at h
 by_cases e:x.at'=6
 ·rw [e]at h;have h:(DX t n x st s).run _:=h;refine aLx (root:=0) (pos:=[19,20,21,22,23]) (cs:=[(.cell 1 4,.ints (some .i64))]) (parse:=NM t n) (fin:=HpO.fin t n) l7 ((aQ.unpack (.help t n x) 0 1 (oF t n x) [1] rfl (congrArg (Prod.mk 1) (k9 ⟨omz,omz,omz,omz,omz⟩)) (by kernel_rfl) rfl).trans (aQ.unpack (.store t n st) 1 0 (dP t n st) [] rfl rfl rfl rfl)) ?_
  have q:=NU t n x st s _ h;rw [<-e]at q;exact q
 rw [bK e]at h
 by_cases e:x.at'=7
 ·rw [e]at h;have h:(DY t n x st s).run _:=h;refine aLx (root:=0) (pos:=[19,20,21,22,23]) (cs:=[(.cell 1 4,.ints (some .i64))]) (parse:=NM t n) (fin:=HpO.fin t n) l7 ((aQ.unpack (.help t n x) 0 1 (wO t n x) [1] rfl (congrArg (Prod.mk 1) (KE e)) (by kernel_rfl) rfl).trans (aQ.unpack (.store t n st) 1 0 (dP t n st) [] rfl rfl rfl rfl)) ?_
  have q:=NV t n x st s _ h;rw [<-e]at q;exact q
 rw [bK e]at h
 by_cases e:x.at'=8
 ·rw [e]at h;have h:(DZ t n x st s).run _:=h;refine aLx (root:=0) (pos:=[19,20,21,22,23]) (cs:=[(.cell 1 4,.ints (some .i64))]) (parse:=NM t n) (fin:=HpO.fin t n) l7 ((aQ.unpack (.help t n x) 0 1 (wS t n x) [1] rfl (congrArg (Prod.mk 1) (KF e)) (by kernel_rfl) rfl).trans (aQ.unpack (.store t n st) 1 0 (dP t n st) [] rfl rfl rfl rfl)) ?_
  have q:=NW t n x st s _ h;rw [<-e]at q;exact q
 rw [bK e]at h
 by_cases e:x.at'=9
 ·rw [e]at h;have h:(D0 t n x st s).run _:=h;refine aLx (root:=0) (pos:=[19,20,21,22,23]) (cs:=[(.cell 1 4,.ints (some .i64))]) (parse:=NM t n) (fin:=HpO.fin t n) l7 ((aQ.unpack (.help t n x) 0 1 (oF t n x) [1] rfl (congrArg (Prod.mk 1) (k9 ⟨omz,omz,omz,omz,omz⟩)) (by kernel_rfl) rfl).trans (aQ.unpack (.store t n st) 1 0 (dP t n st) [] rfl rfl rfl rfl)) ?_
  have q:=NX t n x st s _ h;rw [<-e]at q;exact q
 rw [bK e]at h;exact h.1.elim
def HpO.finB(t n:Int)(y:HpO):Out Ob:=.ite y.d (.ret (.bool true) ([cE' [.ptr 1 0,.I y.x.u,.int .u64 y.x.no,.I y.x.rounds,.I y.x.limit,.I y.x.at',.int .u64 y.x.found,.I y.x.sh,.I y.x.kd,.I y.x.ky,.bool y.x.p.now,.I y.x.p.code,.bool y.x.p.okk,.I y.x.p.val,.I y.x.p.addr,.int .u64 y.x.p.old,.I y.x.p.nxt,.bool y.x.p.mark,.I y.x.p.pops,.O,.O,.O,.O,.O],lJ 5 t n y.st,none,bI 4 y.s,bJ y.s,pJ y.st])) (.ret (.bool false) [some (.abs (.help t n y.x) [1]),lJ 5 t n y.st,none,bI 4 y.s,bJ y.s,pJ y.st])
noncomputable def hpSB:aI Ob:=fun args h=>match args,h with
 | [.ptr 0 0,.ptr 3 0],[some (.abs (.help t n x) [1]),e1,e2,e3,e4]=>(match l9 2 [e1,e2],cQ 4 [e3,e4]with
   | some (l2,t2,n2,st),some (l,s)=>some (.pre ((l=s.xs.length/\l2=st.R.length/\t2=t/\n2=n)/\aAJ t n x st s) (HpO.finB t n (iI t n x st s)))
   | _,_=>none)
 | _,_=>none
theorem aFA:sT' 152 hpSB:=by
 intro args h o ho K hK;unfold hpSB at ho;split at ho
 case h_2=>cases ho
 split at ho
 case h_2=>cases ho
 rename_i hs hm;cases ho;obtain⟨⟨⟨hl,aa,rfl,rfl⟩,ok⟩,hK⟩:=hK;cases bB hm hl;cases cB hs aa;exact kP (fun ι hι=>by simp [aG.ren,aLL,AVal.ren,hι]) (fun ι hι=>by simp [aG.ren,hι]) (fun K hK=>aAR _ _ _ _ _ K (aLD ok hK)) K hK
noncomputable def hpS:aI Ob:=hpSB
theorem aIs:sT' 152 hpS:=aFA
def aFr(t n:Int)(v:AVal)(g:aC Ob):Option (Prop×(HPS×STS)):=match v,g with
 | .ptr 2 0,[e1,e2,some (.cells [.ptr 0 0,.int .i64 u,.int .u64 no,.int .i64 rounds,.int .i64 limit,.int .i64 at',.int .u64 found,.int .i64 sh,.int .i64 kd,.int .i64 ky,.bool p_now,.int .i64 p_code,.bool p_okk,.int .i64 p_val,.int .i64 p_addr,.int .u64 p_old,.int .i64 p_nxt,.bool p_mark,.int .i64 p_pops,.O,.O,.O,.O,.O])]=>(match l9 1 [e1,e2]with
   | some (l2,t2,n2,st)=>some ((t2=t/\n2=n/\l2=st.R.length)/\(at'≠3/\at'≠4/\at'≠5/\at'≠7/\at'≠8),⟨(⟨u,no,rounds,limit,at',found,sh,kd,ky,⟨p_now,p_code,p_okk,p_val,p_addr,p_old,p_nxt,p_mark,p_pops⟩,fB,bV,bR,⟨0,0,0,0⟩,⟨0,0,0,false⟩⟩:HPS),st⟩)
   | none=>none)
 | _,_=>none
abbrev aAG(t n:Int)(y:(HPS×STS)):aC Ob:=[lJ 1 t n y.2,pJ y.2,some (.abs (.help t n y.1) [0])]
theorem aAH{t n:Int} :bQ (obI tbl) 2 (aFr t n) (fun y=>.ret (.ptr 2 0) (aAG t n y)):=by
 intro v g p x hp hq K hK;unfold aFr at hp;split at hp
 case h_2=>cases hp
 rename_i e1 e2 u no rounds limit at' found sh kd ky p_now p_code p_okk p_val p_addr p_old p_nxt p_mark p_pops;split at hp
 case h_2=>cases hp
 rename_i l2 t2 n2 st hs;cases hp;obtain⟨⟨rfl,rfl,aa⟩,ac⟩:=hq;cases cB hs aa;exact let X0:HPS:=⟨u,no,rounds,limit,at',found,sh,kd,ky,⟨p_now,p_code,p_okk,p_val,p_addr,p_old,p_nxt,p_mark,p_pops⟩,fB,bV,bR,⟨0,0,0,0⟩,⟨0,0,0,false⟩⟩;⟨⟨_,_,aF.pack (aAG t2 n2 (X0,st)) (.help t2 n2 X0) 2 1 (oF t2 n2 X0) [0] (by kernel_rfl) rfl (congrArg (Prod.mk 1) (k9 ac)) (by kernel_rfl),hK⟩⟩
def NL(t n:Int)(u no lim:Int)(st:STS):Tr (HPS×STS):=.pre ((t=t/\n=n/\lE' st.3)/\(0:Int)≠(3:Int)/\(0:Int)≠(4:Int)/\(0:Int)≠(5:Int)/\(0:Int)≠(7:Int)/\(0:Int)≠(8:Int)) (.ret ({u:=u,no:=no,rounds:=0,limit:=lim,at':=0,found:=0,sh:=0,kd:=0,ky:=0,p:=aHs,ex:=fB,en:=bV,fn:=bR,cl:=bY,pr:=dH},st))
def x6(t n:Int)(u no lim:Int)(st:STS):(HPS×STS):=(NL t n u no lim st).val
def DQ(t n:Int)(u no lim:Int)(st:STS):Prop:=(NL t n u no lim st).ok
def hpNS:aI Ob:=fun args h=>match args,h with
 | [.ptr 0 0,.int .i64 u,.int .u64 no,.int .i64 lim],[e1,e2]=>(match l9 1 [e1,e2]with
   | some (l2,t,n,st)=>some (.pre (l2=st.R.length/\DQ t n u no lim st) (.ret (.ptr 2 0) (aAG t n (x6 t n u no lim st))))
   | none=>none)
 | _,_=>none
theorem aFs:sT' 159 hpNS:=by
 intro args h o ho K hK;unfold hpNS at ho;split at ho
 case h_2=>cases ho
 rename_i u no lim e1 e2;split at ho
 case h_2=>cases ho
 rename_i l2 t n st hs;cases ho;obtain⟨⟨aa,ok⟩,hK⟩:=hK;cases cB hs aa;refine aLK (root:=2) (pos:=[19,20,21,22,23]) (cs:=[]) (parse:=aFr t n) aAH ?_;exact cM' (E:=EH0) (q:=(NL t n u no lim st).run (fun y=>(Out.ret (.ptr 2 0) (aAG t n y)).run K)) (by kernel_rfl) (aLD ok hK)
noncomputable def EH:=((EH0.addS 152 hpS aIs).addS 159 hpNS aFs)
structure DqO where
 d:Bool
 x:DOS
 st:STS
 s:MS
instance:Inhabited DqO:=⟨⟨false,fF,⟨0,0,[]⟩,⟨0,0,[],0,0,0,0,0,false⟩⟩⟩
instance:Inhabited DOS:=⟨fF⟩
abbrev dqH(t n:Int)(x:DOS)(st:STS)(s:MS):aC Ob:=[some (.abs (.doer t n x) [1]),some (.abs (.store t n st) []),bI 3 s,bJ s]
abbrev dqD(t n:Int)(x:DOS)(st:STS)(s:MS):aC Ob:=[cE' [.ptr 1 0,.I x.code,.bool x.okk,.I x.val,.bool x.slow,.I x.sh,.I x.kd,.I x.ky,.I x.limit,.I x.at',.O,.O,.O,.O,.O,.O,.O,.O,.O],some (.abs (.store t n st) []),bI 3 s,bJ s]
def DqO.fin(t n:Int)(y:DqO):Out Ob:=.ite y.d (.ret (.bool true) (dqD t n y.x y.st y.s)) (.ret (.bool false) (dqH t n y.x y.st y.s))
def aDS(t n:Int)(v:AVal)(g:aC Ob):Option (Prop×DqO):=match v,g with
 | .bool d,[some (.cells [.ptr 1 0,.int .i64 code,.bool okk,.int .i64 val,.bool slow,.int .i64 sh,.int .i64 kd,.int .i64 ky,.int .i64 limit,.int .i64 at',.O,.O,.O,.O,.O,.O,.O,.O,.O]),e1,e3,e4,e2]=>(match l9 4 [e1,e2],cQ 3 [e3,e4]with
   | some (l2,t2,n2,st),some (l,s)=>some ((t2=t/\n2=n)/\(d=false->at'≠0/\at'≠1/\at'≠5/\at'≠2/\at'≠3/\at'≠4/\at'≠6/\at'≠7/\at'≠8/\at'≠9)/\l=s.xs.length/\l2=st.R.length,⟨d,⟨code,okk,val,slow,sh,kd,ky,limit,at',⟨0,0,0,false⟩,dC,bV,dF,⟨0,0,0,0,false,0⟩,⟨0,false,0,0⟩,bR,⟨0,0⟩,dB⟩,st,s⟩)
   | _,_=>none)
 | _,_=>none
def aDT(t n:Int)(v:AVal)(g:aC Ob):Option (Prop×DqO):=match v,g with
 | .bool d,[some (.cells [.ptr 1 0,.int .i64 code,.bool okk,.int .i64 val,.bool slow,.int .i64 sh,.int .i64 kd,.int .i64 ky,.int .i64 limit,.int .i64 at',.ptr 4 0,.O,.O,.O,.O,.O,.O,.O,.O]),e1,e3,e4,some (.abs (.head t' n' sub) []),e2]=>(match l9 5 [e1,e2],cQ 3 [e3,e4]with
   | some (l2,t2,n2,st),some (l,s)=>some ((t2=t/\n2=n)/\t'=t/\n'=n/\(d=false->at'=0)/\l=s.xs.length/\l2=st.R.length,⟨d,⟨code,okk,val,slow,sh,kd,ky,limit,at',sub,dC,bV,dF,⟨0,0,0,0,false,0⟩,⟨0,false,0,0⟩,bR,⟨0,0⟩,dB⟩,st,s⟩)
   | _,_=>none)
 | _,_=>none
def aDU(t n:Int)(v:AVal)(g:aC Ob):Option (Prop×DqO):=match v,g with
 | .bool d,[some (.cells [.ptr 1 0,.int .i64 code,.bool okk,.int .i64 val,.bool slow,.int .i64 sh,.int .i64 kd,.int .i64 ky,.int .i64 limit,.int .i64 at',.O,.ptr 4 0,.O,.O,.O,.O,.O,.O,.O]),e1,e3,e4,some (.abs (.help t' n' sub) [1]),e2]=>(match l9 5 [e1,e2],cQ 3 [e3,e4]with
   | some (l2,t2,n2,st),some (l,s)=>some ((t2=t/\n2=n)/\t'=t/\n'=n/\(d=false->at'=1\/at'=5)/\l=s.xs.length/\l2=st.R.length,⟨d,⟨code,okk,val,slow,sh,kd,ky,limit,at',⟨0,0,0,false⟩,sub,bV,dF,⟨0,0,0,0,false,0⟩,⟨0,false,0,0⟩,bR,⟨0,0⟩,dB⟩,st,s⟩)
   | _,_=>none)
 | _,_=>none
def aDV(t n:Int)(v:AVal)(g:aC Ob):Option (Prop×DqO):=match v,g with
 | .bool d,[some (.cells [.ptr 1 0,.int .i64 code,.bool okk,.int .i64 val,.bool slow,.int .i64 sh,.int .i64 kd,.int .i64 ky,.int .i64 limit,.int .i64 at',.O,.O,.ptr 4 0,.O,.O,.O,.O,.O,.O]),e1,e3,e4,some (.abs (.ensure t' n' sub) [1]),e2]=>(match l9 5 [e1,e2],cQ 3 [e3,e4]with
   | some (l2,t2,n2,st),some (l,s)=>some ((t2=t/\n2=n)/\t'=t/\n'=n/\(d=false->at'=2)/\l=s.xs.length/\l2=st.R.length,⟨d,⟨code,okk,val,slow,sh,kd,ky,limit,at',⟨0,0,0,false⟩,dC,sub,dF,⟨0,0,0,0,false,0⟩,⟨0,false,0,0⟩,bR,⟨0,0⟩,dB⟩,st,s⟩)
   | _,_=>none)
 | _,_=>none
def aDW(t n:Int)(v:AVal)(g:aC Ob):Option (Prop×DqO):=match v,g with
 | .bool d,[some (.cells [.ptr 1 0,.int .i64 code,.bool okk,.int .i64 val,.bool slow,.int .i64 sh,.int .i64 kd,.int .i64 ky,.int .i64 limit,.int .i64 at',.O,.O,.O,.ptr 4 0,.O,.O,.O,.O,.O]),e1,e3,e4,some (.abs (.fast t' n' sub) [1]),e2]=>(match l9 5 [e1,e2],cQ 3 [e3,e4]with
   | some (l2,t2,n2,st),some (l,s)=>some ((t2=t/\n2=n)/\t'=t/\n'=n/\(d=false->at'=3)/\l=s.xs.length/\l2=st.R.length,⟨d,⟨code,okk,val,slow,sh,kd,ky,limit,at',⟨0,0,0,false⟩,dC,bV,sub,⟨0,0,0,0,false,0⟩,⟨0,false,0,0⟩,bR,⟨0,0⟩,dB⟩,st,s⟩)
   | _,_=>none)
 | _,_=>none
def aDX(t n:Int)(v:AVal)(g:aC Ob):Option (Prop×DqO):=match v,g with
 | .bool d,[some (.cells [.ptr 1 0,.int .i64 code,.bool okk,.int .i64 val,.bool slow,.int .i64 sh,.int .i64 kd,.int .i64 ky,.int .i64 limit,.int .i64 at',.O,.O,.O,.O,.ptr 4 0,.O,.O,.O,.O]),e1,e3,e4,some (.abs (.announce t' n' sub) []),e2]=>(match l9 5 [e1,e2],cQ 3 [e3,e4]with
   | some (l2,t2,n2,st),some (l,s)=>some ((t2=t/\n2=n)/\t'=t/\n'=n/\(d=false->at'=4)/\l=s.xs.length/\l2=st.R.length,⟨d,⟨code,okk,val,slow,sh,kd,ky,limit,at',⟨0,0,0,false⟩,dC,bV,dF,sub,⟨0,false,0,0⟩,bR,⟨0,0⟩,dB⟩,st,s⟩)
   | _,_=>none)
 | _,_=>none
def aDY(t n:Int)(v:AVal)(g:aC Ob):Option (Prop×DqO):=match v,g with
 | .bool d,[some (.cells [.ptr 1 0,.int .i64 code,.bool okk,.int .i64 val,.bool slow,.int .i64 sh,.int .i64 kd,.int .i64 ky,.int .i64 limit,.int .i64 at',.O,.O,.O,.O,.O,.ptr 4 0,.O,.O,.O]),e1,e3,e4,some (.abs (.answer t' n' sub) []),e2]=>(match l9 5 [e1,e2],cQ 3 [e3,e4]with
   | some (l2,t2,n2,st),some (l,s)=>some ((t2=t/\n2=n)/\t'=t/\n'=n/\(d=false->at'=6)/\l=s.xs.length/\l2=st.R.length,⟨d,⟨code,okk,val,slow,sh,kd,ky,limit,at',⟨0,0,0,false⟩,dC,bV,dF,⟨0,0,0,0,false,0⟩,sub,bR,⟨0,0⟩,dB⟩,st,s⟩)
   | _,_=>none)
 | _,_=>none
def aDZ(t n:Int)(v:AVal)(g:aC Ob):Option (Prop×DqO):=match v,g with
 | .bool d,[some (.cells [.ptr 1 0,.int .i64 code,.bool okk,.int .i64 val,.bool slow,.int .i64 sh,.int .i64 kd,.int .i64 ky,.int .i64 limit,.int .i64 at',.O,.O,.O,.O,.O,.O,.ptr 4 0,.O,.O]),e1,e3,e4,some (.abs (.find t' n' sub) []),e2]=>(match l9 5 [e1,e2],cQ 3 [e3,e4]with
   | some (l2,t2,n2,st),some (l,s)=>some ((t2=t/\n2=n)/\t'=t/\n'=n/\(d=false->at'=7)/\l=s.xs.length/\l2=st.R.length,⟨d,⟨code,okk,val,slow,sh,kd,ky,limit,at',⟨0,0,0,false⟩,dC,bV,dF,⟨0,0,0,0,false,0⟩,⟨0,false,0,0⟩,sub,⟨0,0⟩,dB⟩,st,s⟩)
   | _,_=>none)
 | _,_=>none
def aD0(t n:Int)(v:AVal)(g:aC Ob):Option (Prop×DqO):=match v,g with
 | .bool d,[some (.cells [.ptr 1 0,.int .i64 code,.bool okk,.int .i64 val,.bool slow,.int .i64 sh,.int .i64 kd,.int .i64 ky,.int .i64 limit,.int .i64 at',.O,.O,.O,.O,.O,.O,.O,.ptr 4 0,.O]),e1,e3,e4,some (.abs (.drop t' n' sub) []),e2]=>(match l9 5 [e1,e2],cQ 3 [e3,e4]with
   | some (l2,t2,n2,st),some (l,s)=>some ((t2=t/\n2=n)/\t'=t/\n'=n/\(d=false->at'=8)/\l=s.xs.length/\l2=st.R.length,⟨d,⟨code,okk,val,slow,sh,kd,ky,limit,at',⟨0,0,0,false⟩,dC,bV,dF,⟨0,0,0,0,false,0⟩,⟨0,false,0,0⟩,bR,sub,dB⟩,st,s⟩)
   | _,_=>none)
 | _,_=>none
def aD1(t n:Int)(v:AVal)(g:aC Ob):Option (Prop×DqO):=match v,g with
 | .bool d,[some (.cells [.ptr 1 0,.int .i64 code,.bool okk,.int .i64 val,.bool slow,.int .i64 sh,.int .i64 kd,.int .i64 ky,.int .i64 limit,.int .i64 at',.O,.O,.O,.O,.O,.O,.O,.O,.ptr 4 0]),e1,e3,e4,some (.abs (.sweep t' n' sub) [1]),e2]=>(match l9 5 [e1,e2],cQ 3 [e3,e4]with
   | some (l2,t2,n2,st),some (l,s)=>some ((t2=t/\n2=n)/\t'=t/\n'=n/\(d=false->at'=9)/\l=s.xs.length/\l2=st.R.length,⟨d,⟨code,okk,val,slow,sh,kd,ky,limit,at',⟨0,0,0,false⟩,dC,bV,dF,⟨0,0,0,0,false,0⟩,⟨0,false,0,0⟩,bR,⟨0,0⟩,sub⟩,st,s⟩)
   | _,_=>none)
 | _,_=>none
def LS(t n:Int)(v:AVal)(g:aC Ob):Option (Prop×DqO):=(match aDS t n v g with
 | some r=>some r
 | none=>(match aDT t n v g with
 | some r=>some r
 | none=>(match aDU t n v g with
 | some r=>some r
 | none=>(match aDV t n v g with
 | some r=>some r
 | none=>(match aDW t n v g with
 | some r=>some r
 | none=>(match aDX t n v g with
 | some r=>some r
 | none=>(match aDY t n v g with
 | some r=>some r
 | none=>(match aDZ t n v g with
 | some r=>some r
 | none=>(match aD0 t n v g with
 | some r=>some r
 | none=>aD1 t n v g)))))))))
theorem YT{t n:Int} :bQ (obI tbl) 4 (aDS t n) (DqO.fin t n):=by
 intro v g p x hp hq K hK;unfold aDS at hp;split at hp
 case h_2=>cases hp
 rename_i d code okk val slow sh kd ky limit at' e1 e3 e4 e2;split at hp
 case h_2=>cases hp
 rename_i l2 t2 n2 st l s hs hm;cases hp;obtain⟨⟨rfl,rfl⟩,ac,hl,aa⟩:=hq;cases bB hm hl;cases cB hs aa;refine fV hK (fun h=>?_) (fun hd h=>?_)
 ·exact tkP h (.store t2 n2 st) 1 0 (dP t2 n2 st) []
 ·exact xU h (.store t2 n2 st) 1 0 (dP t2 n2 st) [] 0 [1] rfl (congrArg (Prod.mk 1) (wE (ac hd)))
theorem YU{t n:Int} :bQ (obI tbl) 4 (aDT t n) (DqO.fin t n):=by
 intro v g p x hp hq K hK;unfold aDT at hp;split at hp
 case h_2=>cases hp
 rename_i d code okk val slow sh kd ky limit at' e1 e3 e4 t' n' sub e2;split at hp
 case h_2=>cases hp
 rename_i l2 t2 n2 st l s hs hm;cases hp;obtain⟨⟨rfl,rfl⟩,rfl,rfl,ac,hl,aa⟩:=hq;cases bB hm hl;cases cB hs aa;refine fV hK (fun h=>?_) (fun hd h=>?_)
 ·exact FI h [10,11,12,13,14,15,16,17,18] [0,1,2,3,5] (.store t' n' st) 1 0 (dP t' n' st) []
 ·exact xU h (.store t' n' st) 1 0 (dP t' n' st) [] 0 [1] rfl (congrArg (Prod.mk 1) (rN (ac hd)))
theorem YV{t n:Int} :bQ (obI tbl) 4 (aDU t n) (DqO.fin t n):=by
 intro v g p x hp hq K hK;unfold aDU at hp;split at hp
 case h_2=>cases hp
 rename_i d code okk val slow sh kd ky limit at' e1 e3 e4 t' n' sub e2;split at hp
 case h_2=>cases hp
 rename_i l2 t2 n2 st l s hs hm;cases hp;obtain⟨⟨rfl,rfl⟩,rfl,rfl,aa,hl,ac⟩:=hq;cases bB hm hl;cases cB hs ac;refine fV hK (fun h=>?_) (fun hd h=>?_)
 ·exact FI h [10,11,12,13,14,15,16,17,18] [0,1,2,3,5] (.store t' n' st) 1 0 (dP t' n' st) []
 ·rcases aa hd with aa | aa
  ·exact xU h (.store t' n' st) 1 0 (dP t' n' st) [] 0 [1] rfl (congrArg (Prod.mk 1) (uS aa))
  ·exact xU h (.store t' n' st) 1 0 (dP t' n' st) [] 0 [1] rfl (congrArg (Prod.mk 1) (uW aa))
theorem YW{t n:Int} :bQ (obI tbl) 4 (aDV t n) (DqO.fin t n):=by
 intro v g p x hp hq K hK;unfold aDV at hp;split at hp
 case h_2=>cases hp
 rename_i d code okk val slow sh kd ky limit at' e1 e3 e4 t' n' sub e2;split at hp
 case h_2=>cases hp
 rename_i l2 t2 n2 st l s hs hm;cases hp;obtain⟨⟨rfl,rfl⟩,rfl,rfl,ac,hl,aa⟩:=hq;cases bB hm hl;cases cB hs aa;refine fV hK (fun h=>?_) (fun hd h=>?_)
 ·exact FI h [10,11,12,13,14,15,16,17,18] [0,1,2,3,5] (.store t' n' st) 1 0 (dP t' n' st) []
 ·exact xU h (.store t' n' st) 1 0 (dP t' n' st) [] 0 [1] rfl (congrArg (Prod.mk 1) (uT (ac hd)))
theorem YX{t n:Int} :bQ (obI tbl) 4 (aDW t n) (DqO.fin t n):=by
 intro v g p x hp hq K hK;unfold aDW at hp;split at hp
 case h_2=>cases hp
 rename_i d code okk val slow sh kd ky limit at' e1 e3 e4 t' n' sub e2;split at hp
 case h_2=>cases hp
 rename_i l2 t2 n2 st l s hs hm;cases hp;obtain⟨⟨rfl,rfl⟩,rfl,rfl,ac,hl,aa⟩:=hq;cases bB hm hl;cases cB hs aa;refine fV hK (fun h=>?_) (fun hd h=>?_)
 ·exact FI h [10,11,12,13,14,15,16,17,18] [0,1,2,3,5] (.store t' n' st) 1 0 (dP t' n' st) []
 ·exact xU h (.store t' n' st) 1 0 (dP t' n' st) [] 0 [1] rfl (congrArg (Prod.mk 1) (uU (ac hd)))
theorem YY{t n:Int} :bQ (obI tbl) 4 (aDX t n) (DqO.fin t n):=by
 intro v g p x hp hq K hK;unfold aDX at hp;split at hp
 case h_2=>cases hp
 rename_i d code okk val slow sh kd ky limit at' e1 e3 e4 t' n' sub e2;split at hp
 case h_2=>cases hp
 rename_i l2 t2 n2 st l s hs hm;cases hp;obtain⟨⟨rfl,rfl⟩,rfl,rfl,ac,hl,aa⟩:=hq;cases bB hm hl;cases cB hs aa;refine fV hK (fun h=>?_) (fun hd h=>?_)
 ·exact FI h [10,11,12,13,14,15,16,17,18] [0,1,2,3,5] (.store t' n' st) 1 0 (dP t' n' st) []
 ·exact xU h (.store t' n' st) 1 0 (dP t' n' st) [] 0 [1] rfl (congrArg (Prod.mk 1) (uV (ac hd)))
theorem YZ{t n:Int} :bQ (obI tbl) 4 (aDY t n) (DqO.fin t n):=by
 intro v g p x hp hq K hK;unfold aDY at hp;split at hp
 case h_2=>cases hp
 rename_i d code okk val slow sh kd ky limit at' e1 e3 e4 t' n' sub e2;split at hp
 case h_2=>cases hp
 rename_i l2 t2 n2 st l s hs hm;cases hp;obtain⟨⟨rfl,rfl⟩,rfl,rfl,ac,hl,aa⟩:=hq;cases bB hm hl;cases cB hs aa;refine fV hK (fun h=>?_) (fun hd h=>?_)
 ·exact FI h [10,11,12,13,14,15,16,17,18] [0,1,2,3,5] (.store t' n' st) 1 0 (dP t' n' st) []
 ·exact xU h (.store t' n' st) 1 0 (dP t' n' st) [] 0 [1] rfl (congrArg (Prod.mk 1) (uX (ac hd)))
theorem Y0{t n:Int} :bQ (obI tbl) 4 (aDZ t n) (DqO.fin t n):=by
 intro v g p x hp hq K hK;unfold aDZ at hp;split at hp
 case h_2=>cases hp
 rename_i d code okk val slow sh kd ky limit at' e1 e3 e4 t' n' sub e2;split at hp
 case h_2=>cases hp
 rename_i l2 t2 n2 st l s hs hm;cases hp;obtain⟨⟨rfl,rfl⟩,rfl,rfl,ac,hl,aa⟩:=hq;cases bB hm hl;cases cB hs aa;refine fV hK (fun h=>?_) (fun hd h=>?_)
 ·exact FI h [10,11,12,13,14,15,16,17,18] [0,1,2,3,5] (.store t' n' st) 1 0 (dP t' n' st) []
 ·exact xU h (.store t' n' st) 1 0 (dP t' n' st) [] 0 [1] rfl (congrArg (Prod.mk 1) (uY (ac hd)))
theorem Y1{t n:Int} :bQ (obI tbl) 4 (aD0 t n) (DqO.fin t n):=by
 intro v g p x hp hq K hK;unfold aD0 at hp;split at hp
 case h_2=>cases hp
 rename_i d code okk val slow sh kd ky limit at' e1 e3 e4 t' n' sub e2;split at hp
 case h_2=>cases hp
 rename_i l2 t2 n2 st l s hs hm;cases hp;obtain⟨⟨rfl,rfl⟩,rfl,rfl,ac,hl,aa⟩:=hq;cases bB hm hl;cases cB hs aa;refine fV hK (fun h=>?_) (fun hd h=>?_)
 ·exact FI h [10,11,12,13,14,15,16,17,18] [0,1,2,3,5] (.store t' n' st) 1 0 (dP t' n' st) []
 ·exact xU h (.store t' n' st) 1 0 (dP t' n' st) [] 0 [1] rfl (congrArg (Prod.mk 1) (uZ (ac hd)))
theorem Y2{t n:Int} :bQ (obI tbl) 4 (aD1 t n) (DqO.fin t n):=by
 intro v g p x hp hq K hK;unfold aD1 at hp;split at hp
 case h_2=>cases hp
 rename_i d code okk val slow sh kd ky limit at' e1 e3 e4 t' n' sub e2;split at hp
 case h_2=>cases hp
 rename_i l2 t2 n2 st l s hs hm;cases hp;obtain⟨⟨rfl,rfl⟩,rfl,rfl,ac,hl,aa⟩:=hq;cases bB hm hl;cases cB hs aa;refine fV hK (fun h=>?_) (fun hd h=>?_)
 ·exact FI h [10,11,12,13,14,15,16,17,18] [0,1,2,3,5] (.store t' n' st) 1 0 (dP t' n' st) []
 ·exact xU h (.store t' n' st) 1 0 (dP t' n' st) [] 0 [1] rfl (congrArg (Prod.mk 1) (u6 (ac hd)))
theorem lY{t n:Int} :bQ (obI tbl) 4 (LS t n) (DqO.fin t n):=by
 intro v g p x hp hq K hK;unfold LS at hp;split at hp
 ·rename_i r hr;cases hp;exact YT v g p x hr hq K hK
 split at hp
 ·rename_i r hr;cases hp;exact YU v g p x hr hq K hK
 split at hp
 ·rename_i r hr;cases hp;exact YV v g p x hr hq K hK
 split at hp
 ·rename_i r hr;cases hp;exact YW v g p x hr hq K hK
 split at hp
 ·rename_i r hr;cases hp;exact YX v g p x hr hq K hK
 split at hp
 ·rename_i r hr;cases hp;exact YY v g p x hr hq K hK
 split at hp
 ·rename_i r hr;cases hp;exact YZ v g p x hr hq K hK
 split at hp
 ·rename_i r hr;cases hp;exact Y0 v g p x hr hq K hK
 split at hp
 ·rename_i r hr;cases hp;exact Y1 v g p x hr hq K hK
 exact Y2 v g p x hp hq K hK
abbrev w25:=false=false->(3:Int)=(3:Int)
abbrev w26(n:Int)(s:MS)(st:STS)(t:Int)(x:DOS):Tr DqO:=.ret {d:=false,x:= {x with at':=3,hd:=eN,hp:=dC,en:=bV,ft:=(kY t n x.5 x.6 x.7 x.8 st).1,an:=eL,aw:=eM,fn:=bR,dr:=fP,sw:=dB},st:=(kY t n x.5 x.6 x.7 x.8 st).2,s:=(qY t n x.10 s).3}
abbrev w27(x:DOS):=!bT x.5 x.6 x.7
abbrev w2a:=false=false->(2:Int)=(2:Int)
abbrev w2c(n:Int)(s:MS)(st:STS)(t:Int)(x:DOS):=x6 t n (HdO.x (qY t n x.10 s)).1 (HdO.x (qY t n x.10 s)).2 x.8 st
abbrev w2d:=false=false->(1:Int)=(1:Int)\/(1:Int)=(5:Int)
def CI(t n:Int)(x:DOS)(st:STS)(s:MS):Tr DqO:=.pre True (.ite (w27 x) (.pre (q9' s) (.pre ((t=t/\n=n)/\t=t/\n=n/\(true=false->(0:Int)=(0:Int))/\lE' s.3/\lE' st.3) (.ret {d:=true,x:= {x with code:=1,okk:=false,val:=0,at':=0,hp:=dC,en:=bV,ft:=dF,an:=eL,aw:=eM,fn:=bR,dr:=fP,sw:=dB},st:=st,s:=(eC s 0) }))) (.pre (lE' s.3/\aFl t n x.10 s) (.ite (qY t n x.10 s).1 (.ite (ilt (HdO.x (qY t n x.10 s)).1 0) (.pre True (.ite (gL x.6) (.ite (ieq st.2 0) (.pre (lE' st.3/\(t=t/\n=n/\lE' st.3)/\True) (.pre ((t=t/\n=n)/\t=t/\n=n/\w2a/\lE' (HdO.s (qY t n x.10 s)).3/\lE' st.3) (.ret {d:=false,x:= {x with at':=2,hd:=eN,hp:=dC,en:=bV,ft:=dF,an:=eL,aw:=eM,fn:=bR,dr:=fP,sw:=dB},st:=st,s:=(qY t n x.10 s).3}))) (.pre ((lE' st.3/\wM t n x.5 x.6 x.7 x.8 st)/\True) (.pre ((t=t/\n=n)/\t=t/\n=n/\w25/\lE' (HdO.s (qY t n x.10 s)).3/\lE' (Prod.snd (kY t n x.5 x.6 x.7 x.8 st)).3) (w26 n s st t x)))) (.pre ((lE' st.3/\wM t n x.5 x.6 x.7 x.8 st)/\True) (.pre ((t=t/\n=n)/\t=t/\n=n/\w25/\lE' (HdO.s (qY t n x.10 s)).3/\lE' (Prod.snd (kY t n x.5 x.6 x.7 x.8 st)).3) (w26 n s st t x))))) (.pre ((lE' st.3/\DQ t n (HdO.x (qY t n x.10 s)).1 (HdO.x (qY t n x.10 s)).2 x.8 st)/\True) (.pre ((t=t/\n=n)/\t=t/\n=n/\w2d/\lE' (HdO.s (qY t n x.10 s)).3/\lE' (Prod.snd (w2c n s st t x)).3) (.ret {d:=false,x:= {x with at':=1,hd:=eN,hp:=(w2c n s st t x).1,en:=bV,ft:=dF,an:=eL,aw:=eM,fn:=bR,dr:=fP,sw:=dB},st:=(w2c n s st t x).2,s:=(qY t n x.10 s).3})))) (.pre ((t=t/\n=n)/\t=t/\n=n/\(false=false->(0:Int)=(0:Int))/\lE' (HdO.s (qY t n x.10 s)).3/\lE' st.3) (.ret {d:=false,x:= {x with at':=0,hd:=(qY t n x.10 s).2,hp:=dC,en:=bV,ft:=dF,an:=eL,aw:=eM,fn:=bR,dr:=fP,sw:=dB},st:=st,s:=(qY t n x.10 s).3})))))
abbrev x0(F:Int->Int->DOS->STS->MS->Tr DqO)(a:Int)(l:List AVal)(e:Int->Int->DOS->aC Ob):Prop:= ∀(t n:Int) (x:DOS) (st:STS) (s:MS) (K:DqO->Prop) (h:(F t n x st s).run K),cT' 104 [.ptr 0 0,.ptr 2 0] ([some (.cells ([.ptr 1 0,.I x.code,.bool x.okk,.I x.val,.bool x.slow,.I x.sh,.I x.kd,.I x.ky,.I x.limit,.I a]++l)),lJ 5 t n st,bI 3 s,bJ s]++e t n x++ [pJ st]) (fG 4 0 [10,11,12,13,14,15,16,17,18] [(.cell 1 4,.ints (some .i64))] (LS t n) K)
theorem LT:x0 CI 0 [.ptr 4 0,.O,.O,.O,.O,.O,.O,.O,.O] (fun t n x=>[some (.abs (.head t n x.hd) [])]):=by
 intro t n x st s K h;exact cM' (E:=EH) (by kernel_rfl) h
abbrev w24(n:Int)(s:MS)(st:STS)(t:Int)(x:DOS):Tr DqO:=.ret {d:=false,x:= {x with at':=3,hd:=eN,hp:=dC,en:=bV,ft:=(kY t n x.5 x.6 x.7 x.8 (iI t n x.11 st s).3).1,an:=eL,aw:=eM,fn:=bR,dr:=fP,sw:=dB},st:=(kY t n x.5 x.6 x.7 x.8 (iI t n x.11 st s).3).2,s:=(iI t n x.11 st s).4}
abbrev w29(n:Int)(s:MS)(st:STS)(t:Int)(x:DOS):=HpO.st (iI t n x.11 st s)
def CJ(t n:Int)(x:DOS)(st:STS)(s:MS):Tr DqO:=.pre True (.ite (w27 x) (.pre (q9' s) (.pre ((t=t/\n=n)/\t=t/\n=n/\(true=false->(1:Int)=(1:Int)\/(1:Int)=(5:Int))/\lE' s.3/\lE' st.3) (.ret {d:=true,x:= {x with code:=1,okk:=false,val:=0,at':=1,hd:=eN,en:=bV,ft:=dF,an:=eL,aw:=eM,fn:=bR,dr:=fP,sw:=dB},st:=st,s:=(eC s 0) }))) (.pre ((lE' s.3/\lE' st.3/\t=t/\n=n)/\aAJ t n x.11 st s) (.ite (iI t n x.11 st s).1 (.pre True (.ite (gL x.6) (.ite (ieq (w29 n s st t x).2 0) (.pre (lE' (w29 n s st t x).3/\(t=t/\n=n/\lE' (w29 n s st t x).3)/\True) (.pre ((t=t/\n=n)/\t=t/\n=n/\w2a/\lE' (HpO.s (iI t n x.11 st s)).3/\lE' (w29 n s st t x).3) (.ret {d:=false,x:= {x with at':=2,hd:=eN,hp:=dC,en:=bV,ft:=dF,an:=eL,aw:=eM,fn:=bR,dr:=fP,sw:=dB},st:=(iI t n x.11 st s).3,s:=(iI t n x.11 st s).4}))) (.pre ((lE' (w29 n s st t x).3/\wM t n x.5 x.6 x.7 x.8 (iI t n x.11 st s).3)/\True) (.pre ((t=t/\n=n)/\t=t/\n=n/\w25/\lE' (HpO.s (iI t n x.11 st s)).3/\lE' (Prod.snd (kY t n x.5 x.6 x.7 x.8 (iI t n x.11 st s).3)).3) (w24 n s st t x)))) (.pre ((lE' (w29 n s st t x).3/\wM t n x.5 x.6 x.7 x.8 (iI t n x.11 st s).3)/\True) (.pre ((t=t/\n=n)/\t=t/\n=n/\w25/\lE' (HpO.s (iI t n x.11 st s)).3/\lE' (Prod.snd (kY t n x.5 x.6 x.7 x.8 (iI t n x.11 st s).3)).3) (w24 n s st t x))))) (.pre ((t=t/\n=n)/\t=t/\n=n/\w2d/\lE' (HpO.s (iI t n x.11 st s)).3/\lE' (w29 n s st t x).3) (.ret {d:=false,x:= {x with at':=1,hd:=eN,hp:=(iI t n x.11 st s).2,en:=bV,ft:=dF,an:=eL,aw:=eM,fn:=bR,dr:=fP,sw:=dB},st:=(iI t n x.11 st s).3,s:=(iI t n x.11 st s).4})))))
theorem LU:x0 CJ 1 [.O,.ptr 4 0,.O,.O,.O,.O,.O,.O,.O] (fun t n x=>[some (.abs (.help t n x.hp) [1])]):=by
 intro t n x st s K h;exact cM' (E:=EH) (by kernel_rfl) h
abbrev w21:=false=false->(8:Int)=(8:Int)
def CK(t n:Int)(x:DOS)(st:STS)(s:MS):Tr DqO:=.pre True (.ite (w27 x) (.pre (q9' s) (.pre ((t=t/\n=n)/\t=t/\n=n/\(true=false->(2:Int)=(2:Int))/\lE' s.3/\lE' st.3) (.ret {d:=true,x:= {x with code:=1,okk:=false,val:=0,at':=2,hd:=eN,hp:=dC,ft:=dF,an:=eL,aw:=eM,fn:=bR,dr:=fP,sw:=dB},st:=st,s:=(eC s 0) }))) (.pre ((lE' s.3/\lE' st.3/\t=t/\n=n)/\PO t n (DOS.en x) st s) (.ite (enF t n x.12 st s).1 (.ite (EO.e (enF t n x.12 st s)).2 (.pre (tU t n (EO.st (enF t n x.12 st s)).1/\True) (.pre ((t=t/\n=n)/\t=t/\n=n/\w21/\lE' (EO.s (enF t n x.12 st s)).3/\lE' (EO.st (enF t n x.12 st s)).3) (.ret {d:=false,x:= {x with code:=4,okk:=false,val:=0,at':=8,hd:=eN,hp:=dC,en:=bV,ft:=dF,an:=eL,aw:=eM,fn:=bR,dr:=CS t n (EO.st (enF t n x.12 st s)).1,sw:=dB},st:=(enF t n x.12 st s).3,s:=(enF t n x.12 st s).4}))) (.pre ((lE' (EO.st (enF t n x.12 st s)).3/\wM t n x.5 x.6 x.7 x.8 (enF t n x.12 st s).3)/\True) (.pre ((t=t/\n=n)/\t=t/\n=n/\w25/\lE' (EO.s (enF t n x.12 st s)).3/\lE' (Prod.snd (kY t n x.5 x.6 x.7 x.8 (enF t n x.12 st s).3)).3) (.ret {d:=false,x:= {x with at':=3,hd:=eN,hp:=dC,en:=bV,ft:=(kY t n x.5 x.6 x.7 x.8 (enF t n x.12 st s).3).1,an:=eL,aw:=eM,fn:=bR,dr:=fP,sw:=dB},st:=(kY t n x.5 x.6 x.7 x.8 (enF t n x.12 st s).3).2,s:=(enF t n x.12 st s).4})))) (.pre ((t=t/\n=n)/\t=t/\n=n/\w2a/\lE' (EO.s (enF t n x.12 st s)).3/\lE' (EO.st (enF t n x.12 st s)).3) (.ret {d:=false,x:= {x with at':=2,hd:=eN,hp:=dC,en:=(enF t n x.12 st s).2,ft:=dF,an:=eL,aw:=eM,fn:=bR,dr:=fP,sw:=dB},st:=(enF t n x.12 st s).3,s:=(enF t n x.12 st s).4})))))
theorem LV:x0 CK 2 [.O,.O,.ptr 4 0,.O,.O,.O,.O,.O,.O] (fun t n x=>[some (.abs (.ensure t n x.en) [1])]):=by
 intro t n x st s K h;exact cM' (E:=EH) (by kernel_rfl) h
abbrev w28(n:Int)(s:MS)(st:STS)(t:Int)(x:DOS):=FtO.st (jI t n x.13 st s)
abbrev w20(n:Int)(s:MS)(st:STS)(t:Int)(x:DOS):Tr DqO:=.ret {d:=false,x:= {x with code:=(FtO.x (jI t n x.13 st s)).1,okk:=(FtO.x (jI t n x.13 st s)).2,val:=(FtO.x (jI t n x.13 st s)).3,at':=8,hd:=eN,hp:=dC,en:=bV,ft:=dF,an:=eL,aw:=eM,fn:=bR,dr:=CS t n (w28 n s st t x).1,sw:=dB},st:=(jI t n x.13 st s).3,s:=(jI t n x.13 st s).4}
abbrev w2b:=false=false->(7:Int)=(7:Int)
def CL(t n:Int)(x:DOS)(st:STS)(s:MS):Tr DqO:=.pre True (.ite (w27 x) (.pre (q9' s) (.pre ((t=t/\n=n)/\t=t/\n=n/\(true=false->(3:Int)=(3:Int))/\lE' s.3/\lE' st.3) (.ret {d:=true,x:= {x with code:=1,okk:=false,val:=0,at':=3,hd:=eN,hp:=dC,en:=bV,an:=eL,aw:=eM,fn:=bR,dr:=fP,sw:=dB},st:=st,s:=(eC s 0) }))) (.pre ((lE' s.3/\lE' st.3/\t=t/\n=n)/\aES t n x.13 st s) (.ite (jI t n x.13 st s).1 (.ite (!(FtO.x (jI t n x.13 st s)).4) (.ite (!(FtO.x (jI t n x.13 st s)).2) (.pre (tU t n (w28 n s st t x).1/\True) (.pre ((t=t/\n=n)/\t=t/\n=n/\w21/\lE' (FtO.s (jI t n x.13 st s)).3/\lE' (w28 n s st t x).3) (w20 n s st t x))) (.pre True (.ite (!wT x.5 x.6) (.pre (tU t n (w28 n s st t x).1/\True) (.pre ((t=t/\n=n)/\t=t/\n=n/\w21/\lE' (FtO.s (jI t n x.13 st s)).3/\lE' (w28 n s st t x).3) (w20 n s st t x))) (.pre True (.pre (pS t n (w28 n s st t x).1 (fU x.5 x.7) (nB x.5 x.6 x.7) x.8/\True) (.pre ((t=t/\n=n)/\t=t/\n=n/\w2b/\lE' (FtO.s (jI t n x.13 st s)).3/\lE' (w28 n s st t x).3) (.ret {d:=false,x:= {x with code:=(FtO.x (jI t n x.13 st s)).1,okk:=(FtO.x (jI t n x.13 st s)).2,val:=(FtO.x (jI t n x.13 st s)).3,at':=7,hd:=eN,hp:=dC,en:=bV,ft:=dF,an:=eL,aw:=eM,fn:=wL t n (w28 n s st t x).1 (fU x.5 x.7) (nB x.5 x.6 x.7) x.8,dr:=fP,sw:=dB},st:=(jI t n x.13 st s).3,s:=(jI t n x.13 st s).4}))))))) (.pre (QK t n (w28 n s st t x).1 x.5 x.6 x.7/\True) (.pre ((t=t/\n=n)/\t=t/\n=n/\(false=false->(4:Int)=(4:Int))/\lE' (FtO.s (jI t n x.13 st s)).3/\lE' (w28 n s st t x).3) (.ret {d:=false,x:= {x with slow:=true,at':=4,hd:=eN,hp:=dC,en:=bV,ft:=dF,an:=aDg t n (w28 n s st t x).1 x.5 x.6 x.7,aw:=eM,fn:=bR,dr:=fP,sw:=dB},st:=(jI t n x.13 st s).3,s:=(jI t n x.13 st s).4})))) (.pre ((t=t/\n=n)/\t=t/\n=n/\w25/\lE' (FtO.s (jI t n x.13 st s)).3/\lE' (w28 n s st t x).3) (.ret {d:=false,x:= {x with at':=3,hd:=eN,hp:=dC,en:=bV,ft:=(jI t n x.13 st s).2,an:=eL,aw:=eM,fn:=bR,dr:=fP,sw:=dB},st:=(jI t n x.13 st s).3,s:=(jI t n x.13 st s).4})))))
theorem LW:x0 CL 3 [.O,.O,.O,.ptr 4 0,.O,.O,.O,.O,.O] (fun t n x=>[some (.abs (.fast t n x.ft) [1])]):=by
 intro t n x st s K h;exact cM' (E:=EH) (by kernel_rfl) h
abbrev w2e:=false=false->(5:Int)=(1:Int)\/(5:Int)=(5:Int)
def CM(t n:Int)(x:DOS)(st:STS)(s:MS):Tr DqO:=.pre True (.ite (w27 x) (.pre (q9' s) (.pre ((t=t/\n=n)/\t=t/\n=n/\(true=false->(4:Int)=(4:Int))/\lE' s.3/\lE' st.3) (.ret {d:=true,x:= {x with code:=1,okk:=false,val:=0,at':=4,hd:=eN,hp:=dC,en:=bV,ft:=dF,aw:=eM,fn:=bR,dr:=fP,sw:=dB},st:=st,s:=(eC s 0) }))) (.pre (lE' s.3/\aDk t n x.14 s) (.ite (GC t n x.14 s).1 (.pre ((lE' st.3/\DQ t n st.1 (AnO.x (GC t n x.14 s)).1 x.8 st)/\True) (.pre ((t=t/\n=n)/\t=t/\n=n/\w2e/\lE' (AnO.s (GC t n x.14 s)).3/\lE' (Prod.snd (x6 t n st.1 (AnO.x (GC t n x.14 s)).1 x.8 st)).3) (.ret {d:=false,x:= {x with at':=5,hd:=eN,hp:=(x6 t n st.1 (AnO.x (GC t n x.14 s)).1 x.8 st).1,en:=bV,ft:=dF,an:=eL,aw:=eM,fn:=bR,dr:=fP,sw:=dB},st:=(x6 t n st.1 (AnO.x (GC t n x.14 s)).1 x.8 st).2,s:=(GC t n x.14 s).3}))) (.pre ((t=t/\n=n)/\t=t/\n=n/\(false=false->(4:Int)=(4:Int))/\lE' (AnO.s (GC t n x.14 s)).3/\lE' st.3) (.ret {d:=false,x:= {x with at':=4,hd:=eN,hp:=dC,en:=bV,ft:=dF,an:=(GC t n x.14 s).2,aw:=eM,fn:=bR,dr:=fP,sw:=dB},st:=st,s:=(GC t n x.14 s).3})))))
theorem LX:x0 CM 4 [.O,.O,.O,.O,.ptr 4 0,.O,.O,.O,.O] (fun t n x=>[some (.abs (.announce t n x.an) [])]):=by
 intro t n x st s K h;exact cM' (E:=EH) (by kernel_rfl) h
def CN(t n:Int)(x:DOS)(st:STS)(s:MS):Tr DqO:=.pre True (.ite (w27 x) (.pre (q9' s) (.pre ((t=t/\n=n)/\t=t/\n=n/\(true=false->(5:Int)=(1:Int)\/(5:Int)=(5:Int))/\lE' s.3/\lE' st.3) (.ret {d:=true,x:= {x with code:=1,okk:=false,val:=0,at':=5,hd:=eN,en:=bV,ft:=dF,an:=eL,aw:=eM,fn:=bR,dr:=fP,sw:=dB},st:=st,s:=(eC s 0) }))) (.pre ((lE' s.3/\lE' st.3/\t=t/\n=n)/\aAJ t n x.11 st s) (.ite (iI t n x.11 st s).1 (.pre (QT t n (w29 n s st t x).1/\True) (.pre ((t=t/\n=n)/\t=t/\n=n/\(false=false->(6:Int)=(6:Int))/\lE' (HpO.s (iI t n x.11 st s)).3/\lE' (w29 n s st t x).3) (.ret {d:=false,x:= {x with at':=6,hd:=eN,hp:=dC,en:=bV,ft:=dF,an:=eL,aw:=aDu t n (w29 n s st t x).1,fn:=bR,dr:=fP,sw:=dB},st:=(iI t n x.11 st s).3,s:=(iI t n x.11 st s).4}))) (.pre ((t=t/\n=n)/\t=t/\n=n/\w2e/\lE' (HpO.s (iI t n x.11 st s)).3/\lE' (w29 n s st t x).3) (.ret {d:=false,x:= {x with at':=5,hd:=eN,hp:=(iI t n x.11 st s).2,en:=bV,ft:=dF,an:=eL,aw:=eM,fn:=bR,dr:=fP,sw:=dB},st:=(iI t n x.11 st s).3,s:=(iI t n x.11 st s).4})))))
theorem LY:x0 CN 5 [.O,.ptr 4 0,.O,.O,.O,.O,.O,.O,.O] (fun t n x=>[some (.abs (.help t n x.hp) [1])]):=by
 intro t n x st s K h;exact cM' (E:=EH) (by kernel_rfl) h
abbrev w23(n:Int)(s:MS)(st:STS)(t:Int)(x:DOS):Tr DqO:=.ret {d:=false,x:= {x with code:=(AwO.x (tS t n x.15 s)).1,okk:=(AwO.x (tS t n x.15 s)).2,val:=(AwO.x (tS t n x.15 s)).3,at':=8,hd:=eN,hp:=dC,en:=bV,ft:=dF,an:=eL,aw:=eM,fn:=bR,dr:=CS t n st.1,sw:=dB},st:=st,s:=(tS t n x.15 s).3}
def CO(t n:Int)(x:DOS)(st:STS)(s:MS):Tr DqO:=.pre True (.ite (w27 x) (.pre (q9' s) (.pre ((t=t/\n=n)/\t=t/\n=n/\(true=false->(6:Int)=(6:Int))/\lE' s.3/\lE' st.3) (.ret {d:=true,x:= {x with code:=1,okk:=false,val:=0,at':=6,hd:=eN,hp:=dC,en:=bV,ft:=dF,an:=eL,fn:=bR,dr:=fP,sw:=dB},st:=st,s:=(eC s 0) }))) (.pre (lE' s.3/\aDy t n x.15 s) (.ite (tS t n x.15 s).1 (.ite (!(AwO.x (tS t n x.15 s)).2) (.pre (tU t n st.1/\True) (.pre ((t=t/\n=n)/\t=t/\n=n/\w21/\lE' (AwO.s (tS t n x.15 s)).3/\lE' st.3) (w23 n s st t x))) (.pre True (.ite (!wT x.5 x.6) (.pre (tU t n st.1/\True) (.pre ((t=t/\n=n)/\t=t/\n=n/\w21/\lE' (AwO.s (tS t n x.15 s)).3/\lE' st.3) (w23 n s st t x))) (.pre True (.pre (pS t n st.1 (fU x.5 x.7) (nB x.5 x.6 x.7) x.8/\True) (.pre ((t=t/\n=n)/\t=t/\n=n/\w2b/\lE' (AwO.s (tS t n x.15 s)).3/\lE' st.3) (.ret {d:=false,x:= {x with code:=(AwO.x (tS t n x.15 s)).1,okk:=(AwO.x (tS t n x.15 s)).2,val:=(AwO.x (tS t n x.15 s)).3,at':=7,hd:=eN,hp:=dC,en:=bV,ft:=dF,an:=eL,aw:=eM,fn:=wL t n st.1 (fU x.5 x.7) (nB x.5 x.6 x.7) x.8,dr:=fP,sw:=dB},st:=st,s:=(tS t n x.15 s).3}))))))) (.pre ((t=t/\n=n)/\t=t/\n=n/\(false=false->(6:Int)=(6:Int))/\lE' (AwO.s (tS t n x.15 s)).3/\lE' st.3) (.ret {d:=false,x:= {x with at':=6,hd:=eN,hp:=dC,en:=bV,ft:=dF,an:=eL,aw:=(tS t n x.15 s).2,fn:=bR,dr:=fP,sw:=dB},st:=st,s:=(tS t n x.15 s).3})))))
theorem LZ:x0 CO 6 [.O,.O,.O,.O,.O,.ptr 4 0,.O,.O,.O] (fun t n x=>[some (.abs (.answer t n x.aw) [])]):=by
 intro t n x st s K h;exact cM' (E:=EH) (by kernel_rfl) h
def CP(t n:Int)(x:DOS)(st:STS)(s:MS):Tr DqO:=.pre True (.ite (w27 x) (.pre (q9' s) (.pre ((t=t/\n=n)/\t=t/\n=n/\(true=false->(7:Int)=(7:Int))/\lE' s.3/\lE' st.3) (.ret {d:=true,x:= {x with code:=1,okk:=false,val:=0,at':=7,hd:=eN,hp:=dC,en:=bV,ft:=dF,an:=eL,aw:=eM,dr:=fP,sw:=dB},st:=st,s:=(eC s 0) }))) (.pre (lE' s.3/\MV t n x.16 s) (.ite (aM t n x.16 s).1 (.pre ((lE' st.3/\lE' (FnO.x (aM t n x.16 s)).6/\st.3.length+List.length (FnO.x (aM t n x.16 s)).6<=(4294967296:Nat))/\True) (.pre (tU t n st.1/\True) (.pre ((t=t/\n=n)/\t=t/\n=n/\w21/\lE' (FnO.s (aM t n x.16 s)).3/\st.3.length+List.length (FnO.x (aM t n x.16 s)).6=List.length (st.3++(FnO.x (aM t n x.16 s)).6)) (.ret {d:=false,x:= {x with at':=8,hd:=eN,hp:=dC,en:=bV,ft:=dF,an:=eL,aw:=eM,fn:=bR,dr:=CS t n st.1,sw:=dB},st:= {me:=st.1,sp:=st.2,R:=st.3++(FnO.x (aM t n x.16 s)).6},s:=(aM t n x.16 s).3})))) (.pre ((t=t/\n=n)/\t=t/\n=n/\w2b/\lE' (FnO.s (aM t n x.16 s)).3/\lE' st.3) (.ret {d:=false,x:= {x with at':=7,hd:=eN,hp:=dC,en:=bV,ft:=dF,an:=eL,aw:=eM,fn:=(aM t n x.16 s).2,dr:=fP,sw:=dB},st:=st,s:=(aM t n x.16 s).3})))))
theorem L0:x0 CP 7 [.O,.O,.O,.O,.O,.O,.ptr 4 0,.O,.O] (fun t n x=>[some (.abs (.find t n x.fn) [])]):=by
 intro t n x st s K h;exact cM' (E:=EH) (by kernel_rfl) h
def CQ(t n:Int)(x:DOS)(st:STS)(s:MS):Tr DqO:=.pre True (.ite (w27 x) (.pre (q9' s) (.pre ((t=t/\n=n)/\t=t/\n=n/\(true=false->(8:Int)=(8:Int))/\lE' s.3/\lE' st.3) (.ret {d:=true,x:= {x with code:=1,okk:=false,val:=0,at':=8,hd:=eN,hp:=dC,en:=bV,ft:=dF,an:=eL,aw:=eM,fn:=bR,sw:=dB},st:=st,s:=(eC s 0) }))) (.pre (lE' s.3/\aEa t n x.17 s) (.ite (WJ t n x.17 s).1 (.pre (lE' st.3/\(t=t/\n=n/\lE' st.3)/\True) (.pre ((0:Int)<=t/\t<=(100000:Int)) (.pre ((t=t/\n=n)/\t=t/\n=n/\((!ile (4*t) (↑st.3.length:Int))=false->(9:Int)=(9:Int))/\lE' (DrO.s (WJ t n x.17 s)).3/\lE' st.3) (.ret {d:=!ile (4*t) (↑st.3.length:Int),x:= {x with at':=9,hd:=eN,hp:=dC,en:=bV,ft:=dF,an:=eL,aw:=eM,fn:=bR,dr:=fP,sw:=dB},st:=st,s:=(WJ t n x.17 s).3})))) (.pre ((t=t/\n=n)/\t=t/\n=n/\w21/\lE' (DrO.s (WJ t n x.17 s)).3/\lE' st.3) (.ret {d:=false,x:= {x with at':=8,hd:=eN,hp:=dC,en:=bV,ft:=dF,an:=eL,aw:=eM,fn:=bR,dr:=(WJ t n x.17 s).2,sw:=dB},st:=st,s:=(WJ t n x.17 s).3})))))
theorem L1:x0 CQ 8 [.O,.O,.O,.O,.O,.O,.O,.ptr 4 0,.O] (fun t n x=>[some (.abs (.drop t n x.dr) [])]):=by
 intro t n x st s K h;exact cM' (E:=EH) (by kernel_rfl) h
def CR(t n:Int)(x:DOS)(st:STS)(s:MS):Tr DqO:=.pre True (.ite (w27 x) (.pre (q9' s) (.pre ((t=t/\n=n)/\t=t/\n=n/\(true=false->(9:Int)=(9:Int))/\lE' s.3/\lE' st.3) (.ret {d:=true,x:= {x with code:=1,okk:=false,val:=0,at':=9,hd:=eN,hp:=dC,en:=bV,ft:=dF,an:=eL,aw:=eM,fn:=bR,dr:=fP},st:=st,s:=(eC s 0) }))) (.pre ((lE' s.3/\lE' st.3/\t=t/\n=n)/\uG t n (DOS.sw x) st s) (.ite (swF t n x.18 st s).1 (.pre ((t=t/\n=n)/\(true=false->(9:Int)≠(0:Int)/\(9:Int)≠(1:Int)/\(9:Int)≠(5:Int)/\(9:Int)≠(2:Int)/\(9:Int)≠(3:Int)/\(9:Int)≠(4:Int)/\(9:Int)≠(6:Int)/\(9:Int)≠(7:Int)/\(9:Int)≠(8:Int)/\(9:Int)≠(9:Int))/\lE' (SO.s (swF t n x.18 st s)).3/\lE' (SO.st (swF t n x.18 st s)).3) (.ret {d:=true,x:= {x with at':=9,hd:=eN,hp:=dC,en:=bV,ft:=dF,an:=eL,aw:=eM,fn:=bR,dr:=fP,sw:=dB},st:=(swF t n x.18 st s).3,s:=(swF t n x.18 st s).4})) (.pre ((t=t/\n=n)/\t=t/\n=n/\(false=false->(9:Int)=(9:Int))/\lE' (SO.s (swF t n x.18 st s)).3/\lE' (SO.st (swF t n x.18 st s)).3) (.ret {d:=false,x:= {x with at':=9,hd:=eN,hp:=dC,en:=bV,ft:=dF,an:=eL,aw:=eM,fn:=bR,dr:=fP,sw:=(swF t n x.18 st s).2},st:=(swF t n x.18 st s).3,s:=(swF t n x.18 st s).4})))))
theorem L2:x0 CR 9 [.O,.O,.O,.O,.O,.O,.O,.O,.ptr 4 0] (fun t n x=>[some (.abs (.sweep t n x.sw) [1])]):=by
 intro t n x st s K h;exact cM' (E:=EH) (by kernel_rfl) h
def dqT(t n:Int)(x:DOS)(st:STS)(s:MS):Tr DqO:=
 bif ieq x.at' 0 then CI t n x st s else
 bif ieq x.at' 1 then CJ t n x st s else
 bif ieq x.at' 2 then CK t n x st s else
 bif ieq x.at' 3 then CL t n x st s else
 bif ieq x.at' 4 then CM t n x st s else
 bif ieq x.at' 5 then CN t n x st s else
 bif ieq x.at' 6 then CO t n x st s else
 bif ieq x.at' 7 then CP t n x st s else
 bif ieq x.at' 8 then CQ t n x st s else
 bif ieq x.at' 9 then CR t n x st s else .pre False (.ret default)
def uN(t n:Int)(x:DOS)(st:STS)(s:MS):DqO:=(dqT t n x st s).val
def YS(t n:Int)(x:DOS)(st:STS)(s:MS):Prop:=(dqT t n x st s).ok
theorem JE(t n:Int)(x:DOS)(st:STS)(s:MS)(K:AVal->aC Ob->Prop)(h:(dqT t n x st s).run (fun y=>(DqO.fin t n y).run K)):cT' 104 [.ptr 0 0,.ptr 2 0] (dqH t n x st s) K:=by
 unfold dqT at h
 by_cases e:x.at'=0
 ·rw [e]at h;have h:(CI t n x st s).run _:=h;refine aLx (root:=0) (pos:=[10,11,12,13,14,15,16,17,18]) (cs:=[(.cell 1 4,.ints (some .i64))]) (parse:=LS t n) (fin:=DqO.fin t n) lY ((aQ.unpack (.doer t n x) 0 1 (gY t n x) [1] rfl (congrArg (Prod.mk 1) (rN e)) (by kernel_rfl) rfl).trans (aQ.unpack (.store t n st) 1 0 (dP t n st) [] rfl rfl rfl rfl)) ?_
  have q:=LT t n x st s _ h;rw [<-e]at q;exact q
 rw [bK e]at h
 by_cases e:x.at'=1
 ·rw [e]at h;have h:(CJ t n x st s).run _:=h;refine aLx (root:=0) (pos:=[10,11,12,13,14,15,16,17,18]) (cs:=[(.cell 1 4,.ints (some .i64))]) (parse:=LS t n) (fin:=DqO.fin t n) lY ((aQ.unpack (.doer t n x) 0 1 (eD t n x) [1] rfl (congrArg (Prod.mk 1) (uS e)) (by kernel_rfl) rfl).trans (aQ.unpack (.store t n st) 1 0 (dP t n st) [] rfl rfl rfl rfl)) ?_
  have q:=LU t n x st s _ h;rw [<-e]at q;exact q
 rw [bK e]at h
 by_cases e:x.at'=2
 ·rw [e]at h;have h:(CK t n x st s).run _:=h;refine aLx (root:=0) (pos:=[10,11,12,13,14,15,16,17,18]) (cs:=[(.cell 1 4,.ints (some .i64))]) (parse:=LS t n) (fin:=DqO.fin t n) lY ((aQ.unpack (.doer t n x) 0 1 (jD t n x) [1] rfl (congrArg (Prod.mk 1) (uT e)) (by kernel_rfl) rfl).trans (aQ.unpack (.store t n st) 1 0 (dP t n st) [] rfl rfl rfl rfl)) ?_
  have q:=LV t n x st s _ h;rw [<-e]at q;exact q
 rw [bK e]at h
 by_cases e:x.at'=3
 ·rw [e]at h;have h:(CL t n x st s).run _:=h;refine aLx (root:=0) (pos:=[10,11,12,13,14,15,16,17,18]) (cs:=[(.cell 1 4,.ints (some .i64))]) (parse:=LS t n) (fin:=DqO.fin t n) lY ((aQ.unpack (.doer t n x) 0 1 (jF t n x) [1] rfl (congrArg (Prod.mk 1) (uU e)) (by kernel_rfl) rfl).trans (aQ.unpack (.store t n st) 1 0 (dP t n st) [] rfl rfl rfl rfl)) ?_
  have q:=LW t n x st s _ h;rw [<-e]at q;exact q
 rw [bK e]at h
 by_cases e:x.at'=4
 ·rw [e]at h;have h:(CM t n x st s).run _:=h;refine aLx (root:=0) (pos:=[10,11,12,13,14,15,16,17,18]) (cs:=[(.cell 1 4,.ints (some .i64))]) (parse:=LS t n) (fin:=DqO.fin t n) lY ((aQ.unpack (.doer t n x) 0 1 (jA t n x) [1] rfl (congrArg (Prod.mk 1) (uV e)) (by kernel_rfl) rfl).trans (aQ.unpack (.store t n st) 1 0 (dP t n st) [] rfl rfl rfl rfl)) ?_
  have q:=LX t n x st s _ h;rw [<-e]at q;exact q
 rw [bK e]at h
 by_cases e:x.at'=5
 ·rw [e]at h;have h:(CN t n x st s).run _:=h;refine aLx (root:=0) (pos:=[10,11,12,13,14,15,16,17,18]) (cs:=[(.cell 1 4,.ints (some .i64))]) (parse:=LS t n) (fin:=DqO.fin t n) lY ((aQ.unpack (.doer t n x) 0 1 (eD t n x) [1] rfl (congrArg (Prod.mk 1) (uW e)) (by kernel_rfl) rfl).trans (aQ.unpack (.store t n st) 1 0 (dP t n st) [] rfl rfl rfl rfl)) ?_
  have q:=LY t n x st s _ h;rw [<-e]at q;exact q
 rw [bK e]at h
 by_cases e:x.at'=6
 ·rw [e]at h;have h:(CO t n x st s).run _:=h;refine aLx (root:=0) (pos:=[10,11,12,13,14,15,16,17,18]) (cs:=[(.cell 1 4,.ints (some .i64))]) (parse:=LS t n) (fin:=DqO.fin t n) lY ((aQ.unpack (.doer t n x) 0 1 (jB t n x) [1] rfl (congrArg (Prod.mk 1) (uX e)) (by kernel_rfl) rfl).trans (aQ.unpack (.store t n st) 1 0 (dP t n st) [] rfl rfl rfl rfl)) ?_
  have q:=LZ t n x st s _ h;rw [<-e]at q;exact q
 rw [bK e]at h
 by_cases e:x.at'=7
 ·rw [e]at h;have h:(CP t n x st s).run _:=h;refine aLx (root:=0) (pos:=[10,11,12,13,14,15,16,17,18]) (cs:=[(.cell 1 4,.ints (some .i64))]) (parse:=LS t n) (fin:=DqO.fin t n) lY ((aQ.unpack (.doer t n x) 0 1 (jE t n x) [1] rfl (congrArg (Prod.mk 1) (uY e)) (by kernel_rfl) rfl).trans (aQ.unpack (.store t n st) 1 0 (dP t n st) [] rfl rfl rfl rfl)) ?_
  have q:=L0 t n x st s _ h;rw [<-e]at q;exact q
 rw [bK e]at h
 by_cases e:x.at'=8
 ·rw [e]at h;have h:(CQ t n x st s).run _:=h;refine aLx (root:=0) (pos:=[10,11,12,13,14,15,16,17,18]) (cs:=[(.cell 1 4,.ints (some .i64))]) (parse:=LS t n) (fin:=DqO.fin t n) lY ((aQ.unpack (.doer t n x) 0 1 (jC t n x) [1] rfl (congrArg (Prod.mk 1) (uZ e)) (by kernel_rfl) rfl).trans (aQ.unpack (.store t n st) 1 0 (dP t n st) [] rfl rfl rfl rfl)) ?_
  have q:=L1 t n x st s _ h;rw [<-e]at q;exact q
 rw [bK e]at h
 by_cases e:x.at'=9
 ·rw [e]at h;have h:(CR t n x st s).run _:=h;refine aLx (root:=0) (pos:=[10,11,12,13,14,15,16,17,18]) (cs:=[(.cell 1 4,.ints (some .i64))]) (parse:=LS t n) (fin:=DqO.fin t n) lY ((aQ.unpack (.doer t n x) 0 1 (jG t n x) [1] rfl (congrArg (Prod.mk 1) (u6 e)) (by kernel_rfl) rfl).trans (aQ.unpack (.store t n st) 1 0 (dP t n st) [] rfl rfl rfl rfl)) ?_
  have q:=L2 t n x st s _ h;rw [<-e]at q;exact q
 rw [bK e]at h;exact h.1.elim
noncomputable def dqSA:aI Ob:=fun args h=>match args,h with
 | [.ptr 0 0,.ptr 2 0],[some (.abs (.doer t n x) [1]),some (.abs (.store t2 n2 st) []),e3,e4]=>(match cQ 3 [e3,e4]with
   | some (l,s)=>some (.pre ((l=s.xs.length/\t2=t/\n2=n)/\YS t n x st s) (DqO.fin t n (uN t n x st s)))
   | none=>none)
 | _,_=>none
theorem aD3:sT' 104 dqSA:=by
 intro args h o ho K hK;unfold dqSA at ho;split at ho
 case h_2=>cases ho
 split at ho
 case h_2=>cases ho
 rename_i hm;cases ho;obtain⟨⟨⟨hl,rfl,rfl⟩,ok⟩,hK⟩:=hK;cases bB hm hl;exact JE _ _ _ _ _ K (aLD ok hK)
def DqO.finB(t n:Int)(y:DqO):Out Ob:=.ite y.d (.ret (.bool true) ([cE' [.ptr 1 0,.I y.x.code,.bool y.x.okk,.I y.x.val,.bool y.x.slow,.I y.x.sh,.I y.x.kd,.I y.x.ky,.I y.x.limit,.I y.x.at',.O,.O,.O,.O,.O,.O,.O,.O,.O],lJ 5 t n y.st,none,bI 4 y.s,bJ y.s,pJ y.st])) (.ret (.bool false) [some (.abs (.doer t n y.x) [1]),lJ 5 t n y.st,none,bI 4 y.s,bJ y.s,pJ y.st])
noncomputable def dqSB:aI Ob:=fun args h=>match args,h with
 | [.ptr 0 0,.ptr 3 0],[some (.abs (.doer t n x) [1]),e1,e2,e3,e4]=>(match l9 2 [e1,e2],cQ 4 [e3,e4]with
   | some (l2,t2,n2,st),some (l,s)=>some (.pre ((l=s.xs.length/\l2=st.R.length/\t2=t/\n2=n)/\YS t n x st s) (DqO.finB t n (uN t n x st s)))
   | _,_=>none)
 | _,_=>none
theorem aD4:sT' 104 dqSB:=by
 intro args h o ho K hK;unfold dqSB at ho;split at ho
 case h_2=>cases ho
 split at ho
 case h_2=>cases ho
 rename_i hs hm;cases ho;obtain⟨⟨⟨hl,aa,rfl,rfl⟩,ok⟩,hK⟩:=hK;cases bB hm hl;cases cB hs aa;exact kP (fun ι hι=>by simp [aG.ren,aLL,AVal.ren,hι]) (fun ι hι=>by simp [aG.ren,hι]) (fun K hK=>JE _ _ _ _ _ K (aLD ok hK)) K hK
noncomputable def dqS:aI Ob:=aI.or dqSA dqSB
theorem aHt:sT' 104 dqS:=aL9 aD3 aD4
def aDQ(t n:Int)(v:AVal)(g:aC Ob):Option (Prop×(DOS×STS)):=match v,g with
 | .ptr 2 0,[e1,e2,some (.cells [.ptr 0 0,.int .i64 code,.bool okk,.int .i64 val,.bool slow,.int .i64 sh,.int .i64 kd,.int .i64 ky,.int .i64 limit,.int .i64 at',.ptr 3 0,.O,.O,.O,.O,.O,.O,.O,.O]),some (.abs (.head t' n' sub) [])]=>(match l9 1 [e1,e2]with
   | some (l2,t2,n2,st)=>some ((t2=t/\n2=n/\l2=st.R.length)/\t'=t/\n'=n/\at'=0,⟨(⟨code,okk,val,slow,sh,kd,ky,limit,at',sub,dC,bV,dF,⟨0,0,0,0,false,0⟩,⟨0,false,0,0⟩,bR,⟨0,0⟩,dB⟩:DOS),st⟩)
   | none=>none)
 | _,_=>none
abbrev YQ(t n:Int)(y:(DOS×STS)):aC Ob:=[lJ 1 t n y.2,pJ y.2,some (.abs (.doer t n y.1) [0])]
theorem YR{t n:Int} :bQ (obI tbl) 2 (aDQ t n) (fun y=>.ret (.ptr 2 0) (YQ t n y)):=by
 intro v g p x hp hq K hK;unfold aDQ at hp;split at hp
 case h_2=>cases hp
 rename_i e1 e2 code okk val slow sh kd ky limit at' t' n' sub;split at hp
 case h_2=>cases hp
 rename_i l2 t2 n2 st hs;cases hp;obtain⟨⟨rfl,rfl,aa⟩,rfl,rfl,ac⟩:=hq;cases cB hs aa;exact let X0:DOS:=⟨code,okk,val,slow,sh,kd,ky,limit,at',sub,dC,bV,dF,⟨0,0,0,0,false,0⟩,⟨0,false,0,0⟩,bR,⟨0,0⟩,dB⟩;⟨⟨_,_,aF.pack (YQ t' n' (X0,st)) (.doer t' n' X0) 2 1 (gY t' n' X0) [0] (by kernel_rfl) rfl (congrArg (Prod.mk 1) (rN ac)) (by kernel_rfl),hK⟩⟩
def RN(t n:Int)(sh kd ky lim:Int)(st:STS):Tr (DOS×STS):=.pre (S4 t n/\True) (.pre ((t=t/\n=n/\lE' st.3)/\t=t/\n=n/\(0:Int)=(0:Int)) (.ret ({code:=0,okk:=false,val:=0,slow:=false,sh:=sh,kd:=kd,ky:=ky,limit:=lim,at':=0,hd:=aFh t n,hp:=dC,en:=bV,ft:=dF,an:=eL,aw:=eM,fn:=bR,dr:=fP,sw:=dB},st)))
def dqNF(t n:Int)(sh kd ky lim:Int)(st:STS):(DOS×STS):=(RN t n sh kd ky lim st).val
def RM(t n:Int)(sh kd ky lim:Int)(st:STS):Prop:=(RN t n sh kd ky lim st).ok
def dqNS:aI Ob:=fun args h=>match args,h with
 | [.ptr 0 0,.agg [.int .i64 sh,.int .i64 kd,.int .i64 ky],.int .i64 lim],[e1,e2]=>(match l9 1 [e1,e2]with
   | some (l2,t,n,st)=>some (.pre (l2=st.R.length/\RM t n sh kd ky lim st) (.ret (.ptr 2 0) (YQ t n (dqNF t n sh kd ky lim st))))
   | none=>none)
 | _,_=>none
theorem G0:sT' 103 dqNS:=by
 intro args h o ho K hK;unfold dqNS at ho;split at ho
 case h_2=>cases ho
 rename_i sh kd ky lim e1 e2;split at ho
 case h_2=>cases ho
 rename_i l2 t n st hs;cases ho;obtain⟨⟨aa,ok⟩,hK⟩:=hK;cases cB hs aa;refine aLK (root:=2) (pos:=[10,11,12,13,14,15,16,17,18]) (cs:=[]) (parse:=aDQ t n) YR ?_;exact cM' (E:=EH) (q:=(RN t n sh kd ky lim st).run (fun y=>(Out.ret (.ptr 2 0) (YQ t n y)).run K)) (by kernel_rfl) (aLD ok hK)
noncomputable def ED:=((EH.addS 104 dqS aHt).addS 103 dqNS G0)
end Go.Sh
