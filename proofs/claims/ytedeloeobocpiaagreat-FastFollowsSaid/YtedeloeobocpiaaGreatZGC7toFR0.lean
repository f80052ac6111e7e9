import Derived.Test.YtedeloeobocpiaaGreatZM22toGC6
set_option linter.all false
set_option maxHeartbeats 8000000
namespace Go.Sh
open Go Go.Proofs
variable [Con]
structure PrO where
 d:Bool
 x:PRS
 st:STS
 s:MS
instance:Inhabited PrO:=⟨⟨false,⟨0,0,0,false⟩,⟨0,0,[]⟩,⟨0,0,[],0,0,0,0,0,false⟩⟩⟩
instance:Inhabited PRS:=⟨⟨0,0,0,false⟩⟩
abbrev TB(t n:Int)(x:PRS)(st:STS)(s:MS):aB Ob:=[some (.abs (.prepare t n x) [1]),some (.abs (.store t n st) []),bH 3 s,bI s]
abbrev UO(t n:Int)(x:PRS)(st:STS)(s:MS):aB Ob:=[some (.cells [.ptr 1 0,.int .i64 x.key,.int .i64 x.nxt,.int .u64 x.found,.bool x.loaded]),some (.abs (.store t n st) []),bH 3 s,bI s]
def PrO.fin(t n:Int)(y:PrO):Out Ob:=.ite y.d (.ret (.bool true) (UO t n y.x y.st y.s)) (.ret (.bool false) (TB t n y.x y.st y.s))
def P4(t n:Int)(v:AVal)(g:aB Ob):Option (Prop×PrO):=match v,g with
 | .bool d,[some (.cells [.ptr 1 0,.int .i64 key,.int .i64 nxt,.int .u64 found,.bool loaded]),e1,e3,e4,e2]=>(match sJ 4 [e1,e2],fB 3 [e3,e4]with
   | some (l2,t2,n2,st),some (l,s)=>some ((t2=t∧n2=n)∧l=s.xs.length∧l2=st.R.length,⟨d,⟨key,nxt,found,loaded⟩,st,s⟩)
   | _,_=>none)
 | _,_=>none
def TC(t n:Int)(v:AVal)(g:aB Ob):Option (Prop×PrO):=P4 t n v g
theorem LR{t n:Int} :dB (obI tbl) 4 (P4 t n) (PrO.fin t n):=by
 intro v g p x hp hq K hK
 unfold P4 at hp
 split at hp
 case h_2=>cases hp
 rename_i d key nxt found loaded e1 e3 e4 e2
 split at hp
 case h_2=>cases hp
 rename_i l2 t2 n2 st l s hs hm
 simp only [sI',pI']at hp
 obtain⟨rfl,rfl⟩:=hp
 obtain⟨⟨rfl,rfl⟩,hl,hl2⟩:=hq
 have hh:=cC hm hl
 cases hh
 have hh:=dF hs hl2
 cases hh
 refine B4 hK (fun h=>?_) (fun h=>?_)
 ·exact⟨⟨_,_,(aQ.pack (UO t2 n2 (⟨key,nxt,found,loaded⟩:PRS) st s) (.store t2 n2 st) 1 0 (jD t2 n2 st) [] (by kernel_rfl) rfl rfl (by kernel_rfl)),h⟩⟩
 ·exact⟨⟨_,_,((aQ.pack (bP (TB t2 n2 (⟨key,nxt,found,loaded⟩:PRS) st s) 0 1 (jU t2 n2 (⟨key,nxt,found,loaded⟩:PRS)) [1]) (.store t2 n2 st) 1 0 (jD t2 n2 st) [] (by kernel_rfl) rfl rfl (by kernel_rfl)).trans (aQ.pack (TB t2 n2 (⟨key,nxt,found,loaded⟩:PRS) st s) (.prepare t2 n2 (⟨key,nxt,found,loaded⟩:PRS)) 0 1 (jU t2 n2 (⟨key,nxt,found,loaded⟩:PRS)) [1] (by kernel_rfl) rfl (congrArg (Prod.mk 1) rfl) (by kernel_rfl))),h⟩⟩
theorem P5{t n:Int} :dB (obI tbl) 4 (TC t n) (PrO.fin t n):=by
 intro v g p x hp hq K hK
 unfold TC at hp
 exact LR v g p x hp hq K hK
def AO(t n:Int)(x:PRS)(st:STS)(s:MS):Tr PrO:=.ite (!x.4) (.pre (lE' s.3∧(0:Int)≤s.4∧s.4≤(4611686018427387904:Int)) (.pre ((t=t∧n=n)∧lE' s.3∧lE' st.3) (.ret {d:=false,x:= {key:=x.1,nxt:=x.2,found:=aD s.3 st.2,loaded:=true},st:= {me:=st.1,sp:=st.2,R:=st.3},s:= {s with c:=s.4+1,k:=1,a:=st.2,o:=aD s.3 st.2,w:=aD s.3 st.2,ok:=bW s.3 st.2} }))) (.pre True (.pre ((0:Int)≤aA x.3 25 18∧aA x.3 25 (18:Int)≤(1000000:Int)) (.pre True (.pre (lE' s.3∧(0:Int)≤s.4∧s.4≤(4611686018427387904:Int)) (.pre ((t=t∧n=n)∧lE' (aZ s.3 st.2 (bif bif aK x.1 10 then bif aK x.2 9 then bif aK 0 5 then aK (aM (aA x.3 25 18)) 18 else false else false else false then bO x.1 x.2 false 0 (aM (aA x.3 25 18))else 0))∧lE' st.3) (.ret {d:=true,x:= x,st:= {me:=st.1,sp:=st.2,R:=st.3},s:= {t:=s.1,n:=s.2,xs:=aZ s.3 st.2 (bif bif aK x.1 10 then bif aK x.2 9 then bif aK 0 5 then aK (aM (aA x.3 25 18)) 18 else false else false else false then bO x.1 x.2 false 0 (aM (aA x.3 25 18))else 0),c:=s.4+1,k:=2,a:=st.2,o:=aD s.3 st.2,w:=bif bW s.3 st.2 then bif bif aK x.1 10 then bif aK x.2 9 then bif aK 0 5 then aK (aM (aA x.3 25 18)) 18 else false else false else false then bO x.1 x.2 false 0 (aM (aA x.3 25 18))else 0 else 0,ok:=bW s.3 st.2} }))))))
theorem H9(t n:Int)(x:PRS)(st:STS)(s:MS)(K:PrO→Prop)(h:(AO t n x st s).run K):cT' 98 [.ptr 0 0,.ptr 2 0] [some (.cells [.ptr 1 0,.int .i64 x.key,.int .i64 x.nxt,.int .u64 x.found,.bool x.loaded]),stC 4 t n st,bH 3 s,bI s,mF st] (dX 4 0 [] [(.cell 1 4,.ints (some .i64))] (TC t n) K):=by
 exact cM' (E:=EC6) (by kernel_rfl) h
def LS(t n:Int)(x:PRS)(st:STS)(s:MS):Tr PrO:=AO t n x st s
def prF(t n:Int)(x:PRS)(st:STS)(s:MS):PrO:=(LS t n x st s).val
def LQ(t n:Int)(x:PRS)(st:STS)(s:MS):Prop:=(LS t n x st s).ok
theorem B0(t n:Int)(x:PRS)(st:STS)(s:MS)(K:AVal→aB Ob→Prop)(h:(LS t n x st s).run (fun y=>(PrO.fin t n y).run K)):cT' 98 [.ptr 0 0,.ptr 2 0] (TB t n x st s) K:=by
 unfold LS at h
 exact V9 (root:=0) (pos:=[]) (cs:=[(.cell 1 4,.ints (some .i64))]) (parse:=TC t n) (fin:=PrO.fin t n) P5 ((cQ.unpack (.prepare t n x) 0 1 (jU t n x) [1] rfl (congrArg (Prod.mk 1) rfl) (by kernel_rfl) rfl).trans (cQ.unpack (.store t n st) 1 0 (jD t n st) [] rfl rfl rfl rfl)) (H9 t n x st s _ h)
noncomputable def prSA:aL Ob:=fun args h=>match args,h with
 | [.ptr 0 0,.ptr 2 0],[some (.abs (.prepare t n x) [1]),some (.abs (.store t2 n2 st) []),e3,e4]=>(match fB 3 [e3,e4]with
   | some (l,s)=>some (.pre ((l=s.xs.length∧t2=t∧n2=n)∧LQ t n x st s) (PrO.fin t n (prF t n x st s)))
   | none=>none)
 | _,_=>none
theorem P6:sT' 98 prSA:=by
 intro args h o ho K hK
 unfold prSA at ho
 split at ho
 case h_2=>cases ho
 split at ho<;>cases ho
 rename_i hm
 obtain⟨⟨⟨hl,rfl,rfl⟩,ok⟩,hK⟩:=hK
 have hh:=cC hm hl
 cases hh
 exact B0 _ _ _ _ _ K (WB ok hK)
def PrO.finB(t n:Int)(y:PrO):Out Ob:=.ite y.d (.ret (.bool true) ([some (.cells [.ptr 1 0,.int .i64 y.x.key,.int .i64 y.x.nxt,.int .u64 y.x.found,.bool y.x.loaded]),stC 5 t n y.st,none,bH 4 y.s,bI y.s,mF y.st])) (.ret (.bool false) [some (.abs (.prepare t n y.x) [1]),stC 5 t n y.st,none,bH 4 y.s,bI y.s,mF y.st])
noncomputable def prSB:aL Ob:=fun args h=>match args,h with
 | [.ptr 0 0,.ptr 3 0],[some (.abs (.prepare t n x) [1]),e1,e2,e3,e4]=>(match sJ 2 [e1,e2],fB 4 [e3,e4]with
   | some (l2,t2,n2,st),some (l,s)=>some (.pre ((l=s.xs.length∧l2=st.R.length∧t2=t∧n2=n)∧LQ t n x st s) (PrO.finB t n (prF t n x st s)))
   | _,_=>none)
 | _,_=>none
theorem P7:sT' 98 prSB:=by
 intro args h o ho K hK
 unfold prSB at ho
 split at ho
 case h_2=>cases ho
 split at ho<;>cases ho
 rename_i hs hm
 obtain⟨⟨⟨hl,hl2,rfl,rfl⟩,ok⟩,hK⟩:=hK
 have hh:=cC hm hl
 cases hh
 have hh:=dF hs hl2
 cases hh
 exact mA (fun ι hι=>by simp [aI.ren,V5,AVal.ren,hι]) (fun ι hι=>by simp [aI.ren,hι]) (fun K hK=>B0 _ _ _ _ _ K (WB ok hK)) K hK
noncomputable def prS:aL Ob:=aL.or prSA prSB
theorem SQ:sT' 98 prS:=WT P6 P7
def P1(t n:Int)(v:AVal)(g:aB Ob):Option (Prop×(PRS×STS)):=match v,g with
 | .ptr 2 0,[e1,e2,some (.cells [.ptr 0 0,.int .i64 key,.int .i64 nxt,.int .u64 found,.bool loaded])]=>(match sJ 1 [e1,e2]with
   | some (l2,t2,n2,st)=>some ((t2=t∧n2=n∧l2=st.R.length),⟨(⟨key,nxt,found,loaded⟩:PRS),st⟩)
   | none=>none)
 | _,_=>none
abbrev LM(t n:Int)(y:(PRS×STS)):aB Ob:=[stC 1 t n y.2,mF y.2,some (.abs (.prepare t n y.1) [0])]
theorem LN{t n:Int} :dB (obI tbl) 2 (P1 t n) (fun y=>.ret (.ptr 2 0) (LM t n y)):=by
 intro v g p x hp hq K hK
 unfold P1 at hp
 split at hp
 case h_2=>cases hp
 rename_i e1 e2 key nxt found loaded
 split at hp
 case h_2=>cases hp
 rename_i l2 t2 n2 st hs
 simp only [sI',pI']at hp
 obtain⟨rfl,rfl⟩:=hp
 obtain⟨rfl,rfl,hl2⟩:=hq
 have hh:=dF hs hl2
 cases hh
 exact⟨⟨_,_,aQ.pack (LM t2 n2 ((⟨key,nxt,found,loaded⟩:PRS),st)) (.prepare t2 n2 (⟨key,nxt,found,loaded⟩:PRS)) 2 1 (jU t2 n2 (⟨key,nxt,found,loaded⟩:PRS)) [0] (by kernel_rfl) rfl (congrArg (Prod.mk 1) rfl) (by kernel_rfl),hK⟩⟩
def LO(t n:Int)(key nx:Int)(st:STS):Tr (PRS×STS):=.pre (t=t∧n=n∧lE' st.3) (.ret ({key:=key,nxt:=nx,found:=0,loaded:=false},{me:=st.1,sp:=st.2,R:=st.3}))
def nD(t n:Int)(key nx:Int)(st:STS):(PRS×STS):=(LO t n key nx st).val
def BY(t n:Int)(key nx:Int)(st:STS):Prop:=(LO t n key nx st).ok
def prNS:aL Ob:=fun args h=>match args,h with
 | [.ptr 0 0,.int .i64 key,.int .i64 nx],[e1,e2]=>(match sJ 1 [e1,e2]with
   | some (l2,t,n,st)=>some (.pre (l2=st.R.length∧BY t n key nx st) (.ret (.ptr 2 0) (LM t n (nD t n key nx st))))
   | none=>none)
 | _,_=>none
theorem P2:sT' 160 prNS:=by
 intro args h o ho K hK
 unfold prNS at ho
 split at ho
 case h_2=>cases ho
 rename_i key nx e1 e2
 split at ho<;>cases ho
 rename_i l2 t n st hs
 obtain⟨⟨hl2,ok⟩,hK⟩:=hK
 have hh:=dF hs hl2
 cases hh
 refine WI (root:=2) (pos:=[]) (cs:=[]) (parse:=P1 t n) LN ?_
 exact cM' (E:=EC6) (q:=(LO t n key nx st).run (fun y=>(Out.ret (.ptr 2 0) (LM t n y)).run K)) (by kernel_rfl) (WB ok hK)
noncomputable def EC7:=((EC6.addS 98 prS SQ).addS 160 prNS P2)
structure FnO where
 d:Bool
 x:FNS
 s:MS
instance:Inhabited FnO:=⟨⟨false,bV,⟨0,0,[],0,0,0,0,0,false⟩⟩⟩
instance:Inhabited FNS:=⟨bV⟩
abbrev S7(t n:Int)(x:FNS)(s:MS):aB Ob:=[some (.abs (.find t n x) []),bH 2 s,bI s]
abbrev VI(t n:Int)(x:FNS)(s:MS):aB Ob:=[some (.cells [.int .i64 t,.int .i64 n,.int .i64 x.pred,.int .u64 x.pw,.int .i64 x.curr,.int .u64 x.cw,.int .i64 x.tries,.slice 3 0 x.ul.length 1,.bool x.ab,.int .i64 x.me,.int .i64 x.frm,.int .i64 x.key,.int .i64 x.limit,.int .i64 x.at',.int .i64 x.moved,.O]),bH 2 s,bI s,some (.ints (some .i64) x.ul)]
def FnO.fin(t n:Int)(y:FnO):Out Ob:=.ite y.d (.ret (.bool true) (VI t n y.x y.s)) (.ret (.bool false) (S7 t n y.x y.s))
def O1(t n:Int)(v:AVal)(g:aB Ob):Option (Prop×FnO):=match v,g with
 | .bool d,[some (.cells [.int .i64 t1,.int .i64 n1,.int .i64 pred,.int .u64 pw,.int .i64 curr,.int .u64 cw,.int .i64 tries,.slice 3 0 ul_l 1,.bool ab,.int .i64 me,.int .i64 frm,.int .i64 key,.int .i64 limit,.int .i64 at',.int .i64 moved,.O]),e1,e2,some (.ints (some .i64) ul)]=>(match fB 2 [e1,e2]with
   | some (l,s)=>some ((t1=t∧n1=n)∧ul_l=ul.length∧(d=false→at'≠4)∧l=s.xs.length,⟨d,⟨pred,pw,curr,cw,tries,ul,ab,me,frm,key,limit,at',moved,⟨0,0,0,0⟩⟩,s⟩)
   | none=>none)
 | _,_=>none
def O2(t n:Int)(v:AVal)(g:aB Ob):Option (Prop×FnO):=match v,g with
 | .bool d,[some (.cells [.int .i64 t1,.int .i64 n1,.int .i64 pred,.int .u64 pw,.int .i64 curr,.int .u64 cw,.int .i64 tries,.slice 3 0 ul_l 1,.bool ab,.int .i64 me,.int .i64 frm,.int .i64 key,.int .i64 limit,.int .i64 at',.int .i64 moved,.ptr 4 0]),e1,e2,some (.ints (some .i64) ul),some (.abs (.clear t' n' sub) [])]=>(match fB 2 [e1,e2]with
   | some (l,s)=>some ((t1=t∧n1=n)∧ul_l=ul.length∧t'=t∧n'=n∧(d=false→at'=4)∧l=s.xs.length,⟨d,⟨pred,pw,curr,cw,tries,ul,ab,me,frm,key,limit,at',moved,sub⟩,s⟩)
   | none=>none)
 | _,_=>none
def yN(t n:Int)(v:AVal)(g:aB Ob):Option (Prop×FnO):=(match O1 t n v g with
 | some r=>some r
 | none=>O2 t n v g)
theorem KG{t n:Int} :dB (obI tbl) 3 (O1 t n) (FnO.fin t n):=by
 intro v g p x hp hq K hK
 unfold O1 at hp
 split at hp
 case h_2=>cases hp
 rename_i d t1 n1 pred pw curr cw tries ul_l ab me frm key limit at' moved e1 e2 ul
 split at hp
 case h_2=>cases hp
 rename_i l s hm
 simp only [sI',pI']at hp
 obtain⟨rfl,rfl⟩:=hp
 obtain⟨⟨rfl,rfl⟩,rfl,hat,hl⟩:=hq
 have hh:=cC hm hl
 cases hh
 refine uB hK (fun h=>?_) (fun hd h=>?_)
 ·exact⟨⟨_,_,WV _ _ _,h⟩⟩
 ·exact⟨⟨_,_,(aQ.pack (S7 t1 n1 (⟨pred,pw,curr,cw,tries,ul,ab,me,frm,key,limit,at',moved,⟨0,0,0,0⟩⟩:FNS) s) (.find t1 n1 (⟨pred,pw,curr,cw,tries,ul,ab,me,frm,key,limit,at',moved,⟨0,0,0,0⟩⟩:FNS)) 0 0 (i8 t1 n1 (⟨pred,pw,curr,cw,tries,ul,ab,me,frm,key,limit,at',moved,⟨0,0,0,0⟩⟩:FNS)) [] (by kernel_rfl) rfl (congrArg (Prod.mk 0) (gC (hat hd))) (by kernel_rfl)),h⟩⟩
theorem KH{t n:Int} :dB (obI tbl) 3 (O2 t n) (FnO.fin t n):=by
 intro v g p x hp hq K hK
 unfold O2 at hp
 split at hp
 case h_2=>cases hp
 rename_i d t1 n1 pred pw curr cw tries ul_l ab me frm key limit at' moved e1 e2 ul t' n' sub
 split at hp
 case h_2=>cases hp
 rename_i l s hm
 simp only [sI',pI']at hp
 obtain⟨rfl,rfl⟩:=hp
 obtain⟨⟨rfl,rfl⟩,rfl,rfl,rfl,hat,hl⟩:=hq
 have hh:=cC hm hl
 cases hh
 refine uB hK (fun h=>?_) (fun hd h=>?_)
 ·exact⟨⟨_,_,(aQ.weak (cY _ 0 [15])).trans ((aQ.pick (upto 0 4) rfl).trans (WJ (by kernel_rfl) (by kernel_rfl))),h⟩⟩
 ·exact⟨⟨_,_,(aQ.pack (S7 t' n' (⟨pred,pw,curr,cw,tries,ul,ab,me,frm,key,limit,at',moved,sub⟩:FNS) s) (.find t' n' (⟨pred,pw,curr,cw,tries,ul,ab,me,frm,key,limit,at',moved,sub⟩:FNS)) 0 0 (nO t' n' (⟨pred,pw,curr,cw,tries,ul,ab,me,frm,key,limit,at',moved,sub⟩:FNS)) [] (by kernel_rfl) rfl (congrArg (Prod.mk 0) (BK (hat hd))) (by kernel_rfl)),h⟩⟩
theorem mY{t n:Int} :dB (obI tbl) 3 (yN t n) (FnO.fin t n):=by
 intro v g p x hp hq K hK
 unfold yN at hp
 split at hp
 ·rename_i r hr
  cases hp
  exact KG v g p x hr hq K hK
 exact KH v g p x hp hq K hK
def lE(t n:Int)(x:FNS)(s:MS):Tr FnO:=.pre (lE' s.3∧(0:Int)≤s.4∧s.4≤(4611686018427387904:Int)) (.pre True (.ite (ieq (aA (aD s.3 x.1) 19 1) 1) (.ite (ilt x.11 (W (x.5+1))) (.ite (ilt x.11 (W (x.5+1))) (.pre ((t=t∧n=n)∧lE' x.6∧(true=false→(0:Int)≠(4:Int))∧lE' s.3) (.ret {d:=true,x:= {x with pred:=0,pw:=0,curr:=0,cw:=0,tries:=W (x.5+1),ab:=ilt x.11 (W (x.5+1)),at':=0,cl:=a9},s:= {s with c:=s.4+1,k:=1,a:=x.1,o:=aD s.3 x.1,w:=aD s.3 x.1,ok:=bW s.3 x.1} })) (.pre True (.ite (ieq (aA (aD s.3 x.1) 19 1) 1) (.pre ((t=t∧n=n)∧lE' x.6∧(false=false→(0:Int)≠(4:Int))∧lE' s.3) (.ret {d:=false,x:= {x with pred:=x.9,pw:=0,curr:=0,cw:=0,tries:=W (x.5+1),ab:=ilt x.11 (W (x.5+1)),at':=0,moved:=0,cl:=a9},s:= {s with c:=s.4+1,k:=1,a:=x.1,o:=aD s.3 x.1,w:=aD s.3 x.1,ok:=bW s.3 x.1} })) (.pre ((t=t∧n=n)∧lE' x.6∧(ieq (aA (aD s.3 x.1) 10 9) (0:Int)=false→(1:Int)≠(4:Int))∧lE' s.3) (.ret {d:=ieq (aA (aD s.3 x.1) 10 9) 0,x:= {x with pred:=0,pw:=aD s.3 x.1,curr:=aA (aD s.3 x.1) 10 9,cw:=0,tries:=W (x.5+1),ab:=ilt x.11 (W (x.5+1)),at':=1,cl:=a9},s:= {s with c:=s.4+1,k:=1,a:=x.1,o:=aD s.3 x.1,w:=aD s.3 x.1,ok:=bW s.3 x.1} }))))) (.ite (ilt x.11 (W (x.5+1))) (.pre ((t=t∧n=n)∧lE' x.6∧(true=false→(0:Int)≠(4:Int))∧lE' s.3) (.ret {d:=true,x:= {x with tries:=W (x.5+1),ab:=ilt x.11 (W (x.5+1)),at':=0,cl:=a9},s:= {s with c:=s.4+1,k:=1,a:=x.1,o:=aD s.3 x.1,w:=aD s.3 x.1,ok:=bW s.3 x.1} })) (.pre True (.ite (ieq (aA (aD s.3 x.1) 19 1) 1) (.pre ((t=t∧n=n)∧lE' x.6∧(false=false→(0:Int)≠(4:Int))∧lE' s.3) (.ret {d:=false,x:= {x with pred:=x.9,tries:=W (x.5+1),ab:=ilt x.11 (W (x.5+1)),at':=0,moved:=0,cl:=a9},s:= {s with c:=s.4+1,k:=1,a:=x.1,o:=aD s.3 x.1,w:=aD s.3 x.1,ok:=bW s.3 x.1} })) (.pre ((t=t∧n=n)∧lE' x.6∧(ieq (aA (aD s.3 x.1) 10 9) (0:Int)=false→(1:Int)≠(4:Int))∧lE' s.3) (.ret {d:=ieq (aA (aD s.3 x.1) 10 9) 0,x:= {x with pw:=aD s.3 x.1,curr:=aA (aD s.3 x.1) 10 9,cw:=0,tries:=W (x.5+1),ab:=ilt x.11 (W (x.5+1)),at':=1,cl:=a9},s:= {s with c:=s.4+1,k:=1,a:=x.1,o:=aD s.3 x.1,w:=aD s.3 x.1,ok:=bW s.3 x.1} })))))) (.pre True (.ite (ieq (aA (aD s.3 x.1) 19 1) 1) (.pre ((t=t∧n=n)∧lE' x.6∧(false=false→(0:Int)≠(4:Int))∧lE' s.3) (.ret {d:=false,x:= {x with pred:=x.9,at':=0,moved:=0,cl:=a9},s:= {s with c:=s.4+1,k:=1,a:=x.1,o:=aD s.3 x.1,w:=aD s.3 x.1,ok:=bW s.3 x.1} })) (.pre ((t=t∧n=n)∧lE' x.6∧(ieq (aA (aD s.3 x.1) 10 9) (0:Int)=false→(1:Int)≠(4:Int))∧lE' s.3) (.ret {d:=ieq (aA (aD s.3 x.1) 10 9) 0,x:= {x with pw:=aD s.3 x.1,curr:=aA (aD s.3 x.1) 10 9,cw:=0,at':=1,cl:=a9},s:= {s with c:=s.4+1,k:=1,a:=x.1,o:=aD s.3 x.1,w:=aD s.3 x.1,ok:=bW s.3 x.1} }))))))
theorem CU(t n:Int)(x:FNS)(s:MS)(K:FnO→Prop)(h:(lE t n x s).run K):cT' 94 [.ptr 0 0,.ptr 1 0] [some (.cells [.int .i64 t,.int .i64 n,.int .i64 x.pred,.int .u64 x.pw,.int .i64 x.curr,.int .u64 x.cw,.int .i64 x.tries,.slice 3 0 x.ul.length 1,.bool x.ab,.int .i64 x.me,.int .i64 x.frm,.int .i64 x.key,.int .i64 x.limit,.int .i64 0,.int .i64 x.moved,.O]),bH 2 s,bI s,some (.ints (some .i64) x.ul)] (dX 3 0 [15] [(.cell 0 7,.ints (some .i64))] (yN t n) K):=by
 exact cM' (E:=EC7) (by kernel_rfl) h
def tL(t n:Int)(x:FNS)(s:MS):Tr FnO:=.pre ((((0:Int)≤t∧t≤(100000:Int))∧((0:Int)≤n∧n≤(100000:Int))∧((-1099511627776:Int)≤x.8∧x.8≤(1099511627776:Int))∧(-1099511627776:Int)≤(1:Int)∧(1:Int)≤(1099511627776:Int))∧True) (.pre ((lE' s.3∧(0:Int)≤s.4∧s.4≤(4611686018427387904:Int))∧True) (.pre ((t=t∧n=n)∧lE' x.6∧(false=false→(2:Int)≠(4:Int))∧lE' (aZ s.3 (2*n+5+2*x.8+1) (WU x.3))) (.ret {d:=false,x:= {x with at':=2,cl:=a9},s:= {t:=s.1,n:=s.2,xs:=aZ s.3 (2*n+5+2*x.8+1) (WU x.3),c:=s.4+1,k:=2,a:=2*n+5+2*x.8+1,o:=aD s.3 (2*n+5+2*x.8+1),w:=bif bW s.3 (2*n+5+2*x.8+1)then WU x.3 else 0,ok:=bW s.3 (2*n+5+2*x.8+1) } })))
theorem CV(t n:Int)(x:FNS)(s:MS)(K:FnO→Prop)(h:(tL t n x s).run K):cT' 94 [.ptr 0 0,.ptr 1 0] [some (.cells [.int .i64 t,.int .i64 n,.int .i64 x.pred,.int .u64 x.pw,.int .i64 x.curr,.int .u64 x.cw,.int .i64 x.tries,.slice 3 0 x.ul.length 1,.bool x.ab,.int .i64 x.me,.int .i64 x.frm,.int .i64 x.key,.int .i64 x.limit,.int .i64 1,.int .i64 x.moved,.O]),bH 2 s,bI s,some (.ints (some .i64) x.ul)] (dX 3 0 [15] [(.cell 0 7,.ints (some .i64))] (yN t n) K):=by
 exact cM' (E:=EC7) (by kernel_rfl) h
def jO(t n:Int)(x:FNS)(s:MS):Tr FnO:=.pre (lE' s.3∧(0:Int)≤s.4∧s.4≤(4611686018427387904:Int)) (.ite (!ieq (aD s.3 x.1) x.2) (.ite (ilt x.11 (W (x.5+1))) (.ite (ilt x.11 (W (x.5+1))) (.pre ((t=t∧n=n)∧lE' x.6∧(true=false→(2:Int)≠(4:Int))∧lE' s.3) (.ret {d:=true,x:= {x with pred:=0,pw:=0,curr:=0,cw:=0,tries:=W (x.5+1),ab:=ilt x.11 (W (x.5+1)),at':=2,cl:=a9},s:= {s with c:=s.4+1,k:=1,a:=x.1,o:=aD s.3 x.1,w:=aD s.3 x.1,ok:=bW s.3 x.1} })) (.pre True (.ite (ieq (aA (aD s.3 x.1) 19 1) 1) (.pre ((t=t∧n=n)∧lE' x.6∧(false=false→(0:Int)≠(4:Int))∧lE' s.3) (.ret {d:=false,x:= {x with pred:=x.9,pw:=0,curr:=0,cw:=0,tries:=W (x.5+1),ab:=ilt x.11 (W (x.5+1)),at':=0,moved:=0,cl:=a9},s:= {s with c:=s.4+1,k:=1,a:=x.1,o:=aD s.3 x.1,w:=aD s.3 x.1,ok:=bW s.3 x.1} })) (.pre ((t=t∧n=n)∧lE' x.6∧(ieq (aA (aD s.3 x.1) 10 9) (0:Int)=false→(1:Int)≠(4:Int))∧lE' s.3) (.ret {d:=ieq (aA (aD s.3 x.1) 10 9) 0,x:= {x with pred:=0,pw:=aD s.3 x.1,curr:=aA (aD s.3 x.1) 10 9,cw:=0,tries:=W (x.5+1),ab:=ilt x.11 (W (x.5+1)),at':=1,cl:=a9},s:= {s with c:=s.4+1,k:=1,a:=x.1,o:=aD s.3 x.1,w:=aD s.3 x.1,ok:=bW s.3 x.1} }))))) (.ite (ilt x.11 (W (x.5+1))) (.pre ((t=t∧n=n)∧lE' x.6∧(true=false→(2:Int)≠(4:Int))∧lE' s.3) (.ret {d:=true,x:= {x with tries:=W (x.5+1),ab:=ilt x.11 (W (x.5+1)),at':=2,cl:=a9},s:= {s with c:=s.4+1,k:=1,a:=x.1,o:=aD s.3 x.1,w:=aD s.3 x.1,ok:=bW s.3 x.1} })) (.pre True (.ite (ieq (aA (aD s.3 x.1) 19 1) 1) (.pre ((t=t∧n=n)∧lE' x.6∧(false=false→(0:Int)≠(4:Int))∧lE' s.3) (.ret {d:=false,x:= {x with pred:=x.9,tries:=W (x.5+1),ab:=ilt x.11 (W (x.5+1)),at':=0,moved:=0,cl:=a9},s:= {s with c:=s.4+1,k:=1,a:=x.1,o:=aD s.3 x.1,w:=aD s.3 x.1,ok:=bW s.3 x.1} })) (.pre ((t=t∧n=n)∧lE' x.6∧(ieq (aA (aD s.3 x.1) 10 9) (0:Int)=false→(1:Int)≠(4:Int))∧lE' s.3) (.ret {d:=ieq (aA (aD s.3 x.1) 10 9) 0,x:= {x with pw:=aD s.3 x.1,curr:=aA (aD s.3 x.1) 10 9,cw:=0,tries:=W (x.5+1),ab:=ilt x.11 (W (x.5+1)),at':=1,cl:=a9},s:= {s with c:=s.4+1,k:=1,a:=x.1,o:=aD s.3 x.1,w:=aD s.3 x.1,ok:=bW s.3 x.1} })))))) (.pre ((t=t∧n=n)∧lE' x.6∧(false=false→(3:Int)≠(4:Int))∧lE' s.3) (.ret {d:=false,x:= {x with at':=3,cl:=a9},s:= {s with c:=s.4+1,k:=1,a:=x.1,o:=aD s.3 x.1,w:=aD s.3 x.1,ok:=bW s.3 x.1} })))
theorem CW(t n:Int)(x:FNS)(s:MS)(K:FnO→Prop)(h:(jO t n x s).run K):cT' 94 [.ptr 0 0,.ptr 1 0] [some (.cells [.int .i64 t,.int .i64 n,.int .i64 x.pred,.int .u64 x.pw,.int .i64 x.curr,.int .u64 x.cw,.int .i64 x.tries,.slice 3 0 x.ul.length 1,.bool x.ab,.int .i64 x.me,.int .i64 x.frm,.int .i64 x.key,.int .i64 x.limit,.int .i64 2,.int .i64 x.moved,.O]),bH 2 s,bI s,some (.ints (some .i64) x.ul)] (dX 3 0 [15] [(.cell 0 7,.ints (some .i64))] (yN t n) K):=by
 exact cM' (E:=EC7) (by kernel_rfl) h
def iE(t n:Int)(x:FNS)(s:MS):Tr FnO:=.pre (lE' s.3∧(0:Int)≤s.4∧s.4≤(4611686018427387904:Int)) (.pre True (.ite (!ieq (aA (aD s.3 x.3) 19 1) 1) (.ite (ile x.10 (aA (aD s.3 x.3) 0 10)) (.pre ((t=t∧n=n)∧lE' x.6∧(true=false→(3:Int)≠(4:Int))∧lE' s.3) (.ret {d:=true,x:= {x with cw:=aD s.3 x.3,at':=3,cl:=a9},s:= {s with c:=s.4+1,k:=1,a:=x.3,o:=aD s.3 x.3,w:=aD s.3 x.3,ok:=bW s.3 x.3} })) (.ite (!ieq (aA (aD s.3 x.3) 19 1) 1) (.pre ((t=t∧n=n)∧lE' x.6∧(false=false→(6:Int)≠(4:Int))∧lE' s.3) (.ret {d:=false,x:= {x with cw:=aD s.3 x.3,at':=6,cl:=a9},s:= {s with c:=s.4+1,k:=1,a:=x.3,o:=aD s.3 x.3,w:=aD s.3 x.3,ok:=bW s.3 x.3} })) (.ite (!ieq (aA (aD s.3 x.3) 20 5) 0) (.pre (pL t n x.3∧True) (.pre ((t=t∧n=n)∧lE' x.6∧t=t∧n=n∧(false=false→(4:Int)=(4:Int))∧lE' s.3) (.ret {d:=false,x:= {x with cw:=aD s.3 x.3,at':=4,cl:=clNF t n x.3},s:= {s with c:=s.4+1,k:=1,a:=x.3,o:=aD s.3 x.3,w:=aD s.3 x.3,ok:=bW s.3 x.3} }))) (.pre True (.ite (!ieq (aA x.2 20 5) 0) (.pre (pL t n x.1∧True) (.pre ((t=t∧n=n)∧lE' x.6∧t=t∧n=n∧(false=false→(4:Int)=(4:Int))∧lE' s.3) (.ret {d:=false,x:= {x with cw:=aD s.3 x.3,at':=4,cl:=clNF t n x.1},s:= {s with c:=s.4+1,k:=1,a:=x.3,o:=aD s.3 x.3,w:=aD s.3 x.3,ok:=bW s.3 x.3} }))) (.pre ((t=t∧n=n)∧lE' x.6∧(false=false→(5:Int)≠(4:Int))∧lE' s.3) (.ret {d:=false,x:= {x with cw:=aD s.3 x.3,at':=5,cl:=a9},s:= {s with c:=s.4+1,k:=1,a:=x.3,o:=aD s.3 x.3,w:=aD s.3 x.3,ok:=bW s.3 x.3} }))))))) (.ite (!ieq (aA (aD s.3 x.3) 19 1) 1) (.pre ((t=t∧n=n)∧lE' x.6∧(false=false→(6:Int)≠(4:Int))∧lE' s.3) (.ret {d:=false,x:= {x with cw:=aD s.3 x.3,at':=6,cl:=a9},s:= {s with c:=s.4+1,k:=1,a:=x.3,o:=aD s.3 x.3,w:=aD s.3 x.3,ok:=bW s.3 x.3} })) (.ite (!ieq (aA (aD s.3 x.3) 20 5) 0) (.pre (pL t n x.3∧True) (.pre ((t=t∧n=n)∧lE' x.6∧t=t∧n=n∧(false=false→(4:Int)=(4:Int))∧lE' s.3) (.ret {d:=false,x:= {x with cw:=aD s.3 x.3,at':=4,cl:=clNF t n x.3},s:= {s with c:=s.4+1,k:=1,a:=x.3,o:=aD s.3 x.3,w:=aD s.3 x.3,ok:=bW s.3 x.3} }))) (.pre True (.ite (!ieq (aA x.2 20 5) 0) (.pre (pL t n x.1∧True) (.pre ((t=t∧n=n)∧lE' x.6∧t=t∧n=n∧(false=false→(4:Int)=(4:Int))∧lE' s.3) (.ret {d:=false,x:= {x with cw:=aD s.3 x.3,at':=4,cl:=clNF t n x.1},s:= {s with c:=s.4+1,k:=1,a:=x.3,o:=aD s.3 x.3,w:=aD s.3 x.3,ok:=bW s.3 x.3} }))) (.pre ((t=t∧n=n)∧lE' x.6∧(false=false→(5:Int)≠(4:Int))∧lE' s.3) (.ret {d:=false,x:= {x with cw:=aD s.3 x.3,at':=5,cl:=a9},s:= {s with c:=s.4+1,k:=1,a:=x.3,o:=aD s.3 x.3,w:=aD s.3 x.3,ok:=bW s.3 x.3} }))))))))
theorem CX(t n:Int)(x:FNS)(s:MS)(K:FnO→Prop)(h:(iE t n x s).run K):cT' 94 [.ptr 0 0,.ptr 1 0] [some (.cells [.int .i64 t,.int .i64 n,.int .i64 x.pred,.int .u64 x.pw,.int .i64 x.curr,.int .u64 x.cw,.int .i64 x.tries,.slice 3 0 x.ul.length 1,.bool x.ab,.int .i64 x.me,.int .i64 x.frm,.int .i64 x.key,.int .i64 x.limit,.int .i64 3,.int .i64 x.moved,.O]),bH 2 s,bI s,some (.ints (some .i64) x.ul)] (dX 3 0 [15] [(.cell 0 7,.ints (some .i64))] (yN t n) K):=by
 exact cM' (E:=EC7) (by kernel_rfl) h
def lF(t n:Int)(x:FNS)(s:MS):Tr FnO:=.pre (lE' s.3∧JJ t n x.14 s) (.ite (clF t n x.14 s).1 (.ite (ilt x.11 (W (x.5+1))) (.pre ((t=t∧n=n)∧lE' x.6∧(ilt x.11 (W (x.5+1))=false→(0:Int)≠(4:Int))∧lE' (ClO.s (clF t n x.14 s)).3) (.ret {d:=ilt x.11 (W (x.5+1)),x:= {x with pred:=0,pw:=0,curr:=0,cw:=0,tries:=W (x.5+1),ab:=ilt x.11 (W (x.5+1)),at':=0,cl:=a9},s:= {t:=(ClO.s (clF t n x.14 s)).1,n:=(ClO.s (clF t n x.14 s)).2,xs:=(ClO.s (clF t n x.14 s)).3,c:=(ClO.s (clF t n x.14 s)).4,k:=(ClO.s (clF t n x.14 s)).5,a:=(ClO.s (clF t n x.14 s)).6,o:=(ClO.s (clF t n x.14 s)).7,w:=(ClO.s (clF t n x.14 s)).8,ok:=(ClO.s (clF t n x.14 s)).9} })) (.pre ((t=t∧n=n)∧lE' x.6∧(ilt x.11 (W (x.5+1))=false→(0:Int)≠(4:Int))∧lE' (ClO.s (clF t n x.14 s)).3) (.ret {d:=ilt x.11 (W (x.5+1)),x:= {x with tries:=W (x.5+1),ab:=ilt x.11 (W (x.5+1)),at':=0,cl:=a9},s:= {t:=(ClO.s (clF t n x.14 s)).1,n:=(ClO.s (clF t n x.14 s)).2,xs:=(ClO.s (clF t n x.14 s)).3,c:=(ClO.s (clF t n x.14 s)).4,k:=(ClO.s (clF t n x.14 s)).5,a:=(ClO.s (clF t n x.14 s)).6,o:=(ClO.s (clF t n x.14 s)).7,w:=(ClO.s (clF t n x.14 s)).8,ok:=(ClO.s (clF t n x.14 s)).9} }))) (.pre ((t=t∧n=n)∧lE' x.6∧t=t∧n=n∧(false=false→(4:Int)=(4:Int))∧lE' (ClO.s (clF t n x.14 s)).3) (.ret {d:=false,x:= {x with at':=4,cl:=(clF t n x.14 s).2},s:= {t:=(ClO.s (clF t n x.14 s)).1,n:=(ClO.s (clF t n x.14 s)).2,xs:=(ClO.s (clF t n x.14 s)).3,c:=(ClO.s (clF t n x.14 s)).4,k:=(ClO.s (clF t n x.14 s)).5,a:=(ClO.s (clF t n x.14 s)).6,o:=(ClO.s (clF t n x.14 s)).7,w:=(ClO.s (clF t n x.14 s)).8,ok:=(ClO.s (clF t n x.14 s)).9} })))
theorem CY(t n:Int)(x:FNS)(s:MS)(K:FnO→Prop)(h:(lF t n x s).run K):cT' 94 [.ptr 0 0,.ptr 1 0] [some (.cells [.int .i64 t,.int .i64 n,.int .i64 x.pred,.int .u64 x.pw,.int .i64 x.curr,.int .u64 x.cw,.int .i64 x.tries,.slice 3 0 x.ul.length 1,.bool x.ab,.int .i64 x.me,.int .i64 x.frm,.int .i64 x.key,.int .i64 x.limit,.int .i64 4,.int .i64 x.moved,.ptr 4 0]),bH 2 s,bI s,some (.ints (some .i64) x.ul),some (.abs (.clear t n x.cl) [])] (dX 3 0 [15] [(.cell 0 7,.ints (some .i64))] (yN t n) K):=by
 exact cM' (E:=EC7) (by kernel_rfl) h
def gD(t n:Int)(x:FNS)(s:MS):Tr FnO:=.pre True (.pre True (.pre ((0:Int)≤aA x.2 25 18∧aA x.2 25 (18:Int)≤(1000000:Int)) (.pre True (.pre ((lE' s.3∧(0:Int)≤s.4∧s.4≤(4611686018427387904:Int))∧True) (.ite (!aV s.3 x.1 x.2) (.ite (ilt x.11 (W (x.5+1))) (.pre ((t=t∧n=n)∧lE' x.6∧(ilt x.11 (W (x.5+1))=false→(0:Int)≠(4:Int))∧lE' (bif aV s.3 x.1 x.2 then aZ s.3 x.1 (bif bif aK (aA x.2 0 10) 10 then bif aK (aA x.4 10 9) 9 then bif aK (aA x.2 20 5) 5 then aK (aM (aA x.2 25 18)) 18 else false else false else false then bO (aA x.2 0 10) (aA x.4 10 9) (ieq (aA x.2 19 1) 1) (aA x.2 20 5) (aM (aA x.2 25 18))else 0)else s.3)) (.ret {d:=ilt x.11 (W (x.5+1)),x:= {x with pred:=0,pw:=0,curr:=0,cw:=0,tries:=W (x.5+1),ab:=ilt x.11 (W (x.5+1)),at':=0,cl:=a9},s:= {t:=s.1,n:=s.2,xs:=bif aV s.3 x.1 x.2 then aZ s.3 x.1 (bif bif aK (aA x.2 0 10) 10 then bif aK (aA x.4 10 9) 9 then bif aK (aA x.2 20 5) 5 then aK (aM (aA x.2 25 18)) 18 else false else false else false then bO (aA x.2 0 10) (aA x.4 10 9) (ieq (aA x.2 19 1) 1) (aA x.2 20 5) (aM (aA x.2 25 18))else 0)else s.3,c:=s.4+1,k:=3,a:=x.1,o:=aD s.3 x.1,w:=bif bW s.3 x.1 then bif bif aK (aA x.2 0 10) 10 then bif aK (aA x.4 10 9) 9 then bif aK (aA x.2 20 5) 5 then aK (aM (aA x.2 25 18)) 18 else false else false else false then bO (aA x.2 0 10) (aA x.4 10 9) (ieq (aA x.2 19 1) 1) (aA x.2 20 5) (aM (aA x.2 25 18))else 0 else 0,ok:=aV s.3 x.1 x.2} })) (.pre ((t=t∧n=n)∧lE' x.6∧(ilt x.11 (W (x.5+1))=false→(0:Int)≠(4:Int))∧lE' (bif aV s.3 x.1 x.2 then aZ s.3 x.1 (bif bif aK (aA x.2 0 10) 10 then bif aK (aA x.4 10 9) 9 then bif aK (aA x.2 20 5) 5 then aK (aM (aA x.2 25 18)) 18 else false else false else false then bO (aA x.2 0 10) (aA x.4 10 9) (ieq (aA x.2 19 1) 1) (aA x.2 20 5) (aM (aA x.2 25 18))else 0)else s.3)) (.ret {d:=ilt x.11 (W (x.5+1)),x:= {x with tries:=W (x.5+1),ab:=ilt x.11 (W (x.5+1)),at':=0,cl:=a9},s:= {t:=s.1,n:=s.2,xs:=bif aV s.3 x.1 x.2 then aZ s.3 x.1 (bif bif aK (aA x.2 0 10) 10 then bif aK (aA x.4 10 9) 9 then bif aK (aA x.2 20 5) 5 then aK (aM (aA x.2 25 18)) 18 else false else false else false then bO (aA x.2 0 10) (aA x.4 10 9) (ieq (aA x.2 19 1) 1) (aA x.2 20 5) (aM (aA x.2 25 18))else 0)else s.3,c:=s.4+1,k:=3,a:=x.1,o:=aD s.3 x.1,w:=bif bW s.3 x.1 then bif bif aK (aA x.2 0 10) 10 then bif aK (aA x.4 10 9) 9 then bif aK (aA x.2 20 5) 5 then aK (aM (aA x.2 25 18)) 18 else false else false else false then bO (aA x.2 0 10) (aA x.4 10 9) (ieq (aA x.2 19 1) 1) (aA x.2 20 5) (aM (aA x.2 25 18))else 0 else 0,ok:=aV s.3 x.1 x.2} }))) (.pre (0=0∧lE' x.6∧1=1∧List.length x.6+(1:Nat)≤(4294967296:Nat)) (.ite (ile (W (x.13+1)) n) (.pre True (.ite (ieq (aA (bif bif aK (aA x.2 0 10) 10 then bif aK (aA x.4 10 9) 9 then bif aK (aA x.2 20 5) 5 then aK (aM (aA x.2 25 18)) 18 else false else false else false then bO (aA x.2 0 10) (aA x.4 10 9) (ieq (aA x.2 19 1) 1) (aA x.2 20 5) (aM (aA x.2 25 18))else 0) 19 1) 1) (.pre ((t=t∧n=n)∧List.length x.6+(1:Nat)=List.length (x.6++ [x.3])∧(false=false→(0:Int)≠(4:Int))∧lE' (bif aV s.3 x.1 x.2 then aZ s.3 x.1 (bif bif aK (aA x.2 0 10) 10 then bif aK (aA x.4 10 9) 9 then bif aK (aA x.2 20 5) 5 then aK (aM (aA x.2 25 18)) 18 else false else false else false then bO (aA x.2 0 10) (aA x.4 10 9) (ieq (aA x.2 19 1) 1) (aA x.2 20 5) (aM (aA x.2 25 18))else 0)else s.3)) (.ret {d:=false,x:= {x with pred:=x.9,ul:=x.6++ [x.3],at':=0,moved:=0,cl:=a9},s:= {t:=s.1,n:=s.2,xs:=bif aV s.3 x.1 x.2 then aZ s.3 x.1 (bif bif aK (aA x.2 0 10) 10 then bif aK (aA x.4 10 9) 9 then bif aK (aA x.2 20 5) 5 then aK (aM (aA x.2 25 18)) 18 else false else false else false then bO (aA x.2 0 10) (aA x.4 10 9) (ieq (aA x.2 19 1) 1) (aA x.2 20 5) (aM (aA x.2 25 18))else 0)else s.3,c:=s.4+1,k:=3,a:=x.1,o:=aD s.3 x.1,w:=bif bW s.3 x.1 then bif bif aK (aA x.2 0 10) 10 then bif aK (aA x.4 10 9) 9 then bif aK (aA x.2 20 5) 5 then aK (aM (aA x.2 25 18)) 18 else false else false else false then bO (aA x.2 0 10) (aA x.4 10 9) (ieq (aA x.2 19 1) 1) (aA x.2 20 5) (aM (aA x.2 25 18))else 0 else 0,ok:=aV s.3 x.1 x.2} })) (.pre ((t=t∧n=n)∧List.length x.6+(1:Nat)=List.length (x.6++ [x.3])∧(ieq (aA (bif bif aK (aA x.2 0 10) 10 then bif aK (aA x.4 10 9) 9 then bif aK (aA x.2 20 5) 5 then aK (aM (aA x.2 25 18)) 18 else false else false else false then bO (aA x.2 0 10) (aA x.4 10 9) (ieq (aA x.2 19 1) 1) (aA x.2 20 5) (aM (aA x.2 25 18))else 0) 10 9) (0:Int)=false→(1:Int)≠(4:Int))∧lE' (bif aV s.3 x.1 x.2 then aZ s.3 x.1 (bif bif aK (aA x.2 0 10) 10 then bif aK (aA x.4 10 9) 9 then bif aK (aA x.2 20 5) 5 then aK (aM (aA x.2 25 18)) 18 else false else false else false then bO (aA x.2 0 10) (aA x.4 10 9) (ieq (aA x.2 19 1) 1) (aA x.2 20 5) (aM (aA x.2 25 18))else 0)else s.3)) (.ret {d:=ieq (aA (bif bif aK (aA x.2 0 10) 10 then bif aK (aA x.4 10 9) 9 then bif aK (aA x.2 20 5) 5 then aK (aM (aA x.2 25 18)) 18 else false else false else false then bO (aA x.2 0 10) (aA x.4 10 9) (ieq (aA x.2 19 1) 1) (aA x.2 20 5) (aM (aA x.2 25 18))else 0) 10 9) 0,x:= {x with pw:=bif bif aK (aA x.2 0 10) 10 then bif aK (aA x.4 10 9) 9 then bif aK (aA x.2 20 5) 5 then aK (aM (aA x.2 25 18)) 18 else false else false else false then bO (aA x.2 0 10) (aA x.4 10 9) (ieq (aA x.2 19 1) 1) (aA x.2 20 5) (aM (aA x.2 25 18))else 0,curr:=aA (bif bif aK (aA x.2 0 10) 10 then bif aK (aA x.4 10 9) 9 then bif aK (aA x.2 20 5) 5 then aK (aM (aA x.2 25 18)) 18 else false else false else false then bO (aA x.2 0 10) (aA x.4 10 9) (ieq (aA x.2 19 1) 1) (aA x.2 20 5) (aM (aA x.2 25 18))else 0) 10 9,cw:=0,ul:=x.6++ [x.3],at':=1,moved:=W (x.13+1),cl:=a9},s:= {t:=s.1,n:=s.2,xs:=bif aV s.3 x.1 x.2 then aZ s.3 x.1 (bif bif aK (aA x.2 0 10) 10 then bif aK (aA x.4 10 9) 9 then bif aK (aA x.2 20 5) 5 then aK (aM (aA x.2 25 18)) 18 else false else false else false then bO (aA x.2 0 10) (aA x.4 10 9) (ieq (aA x.2 19 1) 1) (aA x.2 20 5) (aM (aA x.2 25 18))else 0)else s.3,c:=s.4+1,k:=3,a:=x.1,o:=aD s.3 x.1,w:=bif bW s.3 x.1 then bif bif aK (aA x.2 0 10) 10 then bif aK (aA x.4 10 9) 9 then bif aK (aA x.2 20 5) 5 then aK (aM (aA x.2 25 18)) 18 else false else false else false then bO (aA x.2 0 10) (aA x.4 10 9) (ieq (aA x.2 19 1) 1) (aA x.2 20 5) (aM (aA x.2 25 18))else 0 else 0,ok:=aV s.3 x.1 x.2} })))) (.ite (ilt x.11 (W (x.5+1))) (.ite (ilt x.11 (W (x.5+1))) (.pre ((t=t∧n=n)∧List.length x.6+(1:Nat)=List.length (x.6++ [x.3])∧(true=false→(5:Int)≠(4:Int))∧lE' (bif aV s.3 x.1 x.2 then aZ s.3 x.1 (bif bif aK (aA x.2 0 10) 10 then bif aK (aA x.4 10 9) 9 then bif aK (aA x.2 20 5) 5 then aK (aM (aA x.2 25 18)) 18 else false else false else false then bO (aA x.2 0 10) (aA x.4 10 9) (ieq (aA x.2 19 1) 1) (aA x.2 20 5) (aM (aA x.2 25 18))else 0)else s.3)) (.ret {d:=true,x:= {x with pred:=0,pw:=0,curr:=0,cw:=0,tries:=W (x.5+1),ul:=x.6++ [x.3],ab:=ilt x.11 (W (x.5+1)),at':=5,moved:=W (x.13+1),cl:=a9},s:= {t:=s.1,n:=s.2,xs:=bif aV s.3 x.1 x.2 then aZ s.3 x.1 (bif bif aK (aA x.2 0 10) 10 then bif aK (aA x.4 10 9) 9 then bif aK (aA x.2 20 5) 5 then aK (aM (aA x.2 25 18)) 18 else false else false else false then bO (aA x.2 0 10) (aA x.4 10 9) (ieq (aA x.2 19 1) 1) (aA x.2 20 5) (aM (aA x.2 25 18))else 0)else s.3,c:=s.4+1,k:=3,a:=x.1,o:=aD s.3 x.1,w:=bif bW s.3 x.1 then bif bif aK (aA x.2 0 10) 10 then bif aK (aA x.4 10 9) 9 then bif aK (aA x.2 20 5) 5 then aK (aM (aA x.2 25 18)) 18 else false else false else false then bO (aA x.2 0 10) (aA x.4 10 9) (ieq (aA x.2 19 1) 1) (aA x.2 20 5) (aM (aA x.2 25 18))else 0 else 0,ok:=aV s.3 x.1 x.2} })) (.pre ((t=t∧n=n)∧List.length x.6+(1:Nat)=List.length (x.6++ [x.3])∧(false=false→(0:Int)≠(4:Int))∧lE' (bif aV s.3 x.1 x.2 then aZ s.3 x.1 (bif bif aK (aA x.2 0 10) 10 then bif aK (aA x.4 10 9) 9 then bif aK (aA x.2 20 5) 5 then aK (aM (aA x.2 25 18)) 18 else false else false else false then bO (aA x.2 0 10) (aA x.4 10 9) (ieq (aA x.2 19 1) 1) (aA x.2 20 5) (aM (aA x.2 25 18))else 0)else s.3)) (.ret {d:=false,x:= {x with pred:=x.9,pw:=0,curr:=0,cw:=0,tries:=W (x.5+1),ul:=x.6++ [x.3],ab:=ilt x.11 (W (x.5+1)),at':=0,moved:=0,cl:=a9},s:= {t:=s.1,n:=s.2,xs:=bif aV s.3 x.1 x.2 then aZ s.3 x.1 (bif bif aK (aA x.2 0 10) 10 then bif aK (aA x.4 10 9) 9 then bif aK (aA x.2 20 5) 5 then aK (aM (aA x.2 25 18)) 18 else false else false else false then bO (aA x.2 0 10) (aA x.4 10 9) (ieq (aA x.2 19 1) 1) (aA x.2 20 5) (aM (aA x.2 25 18))else 0)else s.3,c:=s.4+1,k:=3,a:=x.1,o:=aD s.3 x.1,w:=bif bW s.3 x.1 then bif bif aK (aA x.2 0 10) 10 then bif aK (aA x.4 10 9) 9 then bif aK (aA x.2 20 5) 5 then aK (aM (aA x.2 25 18)) 18 else false else false else false then bO (aA x.2 0 10) (aA x.4 10 9) (ieq (aA x.2 19 1) 1) (aA x.2 20 5) (aM (aA x.2 25 18))else 0 else 0,ok:=aV s.3 x.1 x.2} }))) (.ite (ilt x.11 (W (x.5+1))) (.pre ((t=t∧n=n)∧List.length x.6+(1:Nat)=List.length (x.6++ [x.3])∧(true=false→(5:Int)≠(4:Int))∧lE' (bif aV s.3 x.1 x.2 then aZ s.3 x.1 (bif bif aK (aA x.2 0 10) 10 then bif aK (aA x.4 10 9) 9 then bif aK (aA x.2 20 5) 5 then aK (aM (aA x.2 25 18)) 18 else false else false else false then bO (aA x.2 0 10) (aA x.4 10 9) (ieq (aA x.2 19 1) 1) (aA x.2 20 5) (aM (aA x.2 25 18))else 0)else s.3)) (.ret {d:=true,x:= {x with tries:=W (x.5+1),ul:=x.6++ [x.3],ab:=ilt x.11 (W (x.5+1)),at':=5,moved:=W (x.13+1),cl:=a9},s:= {t:=s.1,n:=s.2,xs:=bif aV s.3 x.1 x.2 then aZ s.3 x.1 (bif bif aK (aA x.2 0 10) 10 then bif aK (aA x.4 10 9) 9 then bif aK (aA x.2 20 5) 5 then aK (aM (aA x.2 25 18)) 18 else false else false else false then bO (aA x.2 0 10) (aA x.4 10 9) (ieq (aA x.2 19 1) 1) (aA x.2 20 5) (aM (aA x.2 25 18))else 0)else s.3,c:=s.4+1,k:=3,a:=x.1,o:=aD s.3 x.1,w:=bif bW s.3 x.1 then bif bif aK (aA x.2 0 10) 10 then bif aK (aA x.4 10 9) 9 then bif aK (aA x.2 20 5) 5 then aK (aM (aA x.2 25 18)) 18 else false else false else false then bO (aA x.2 0 10) (aA x.4 10 9) (ieq (aA x.2 19 1) 1) (aA x.2 20 5) (aM (aA x.2 25 18))else 0 else 0,ok:=aV s.3 x.1 x.2} })) (.pre ((t=t∧n=n)∧List.length x.6+(1:Nat)=List.length (x.6++ [x.3])∧(false=false→(0:Int)≠(4:Int))∧lE' (bif aV s.3 x.1 x.2 then aZ s.3 x.1 (bif bif aK (aA x.2 0 10) 10 then bif aK (aA x.4 10 9) 9 then bif aK (aA x.2 20 5) 5 then aK (aM (aA x.2 25 18)) 18 else false else false else false then bO (aA x.2 0 10) (aA x.4 10 9) (ieq (aA x.2 19 1) 1) (aA x.2 20 5) (aM (aA x.2 25 18))else 0)else s.3)) (.ret {d:=false,x:= {x with pred:=x.9,tries:=W (x.5+1),ul:=x.6++ [x.3],ab:=ilt x.11 (W (x.5+1)),at':=0,moved:=0,cl:=a9},s:= {t:=s.1,n:=s.2,xs:=bif aV s.3 x.1 x.2 then aZ s.3 x.1 (bif bif aK (aA x.2 0 10) 10 then bif aK (aA x.4 10 9) 9 then bif aK (aA x.2 20 5) 5 then aK (aM (aA x.2 25 18)) 18 else false else false else false then bO (aA x.2 0 10) (aA x.4 10 9) (ieq (aA x.2 19 1) 1) (aA x.2 20 5) (aM (aA x.2 25 18))else 0)else s.3,c:=s.4+1,k:=3,a:=x.1,o:=aD s.3 x.1,w:=bif bW s.3 x.1 then bif bif aK (aA x.2 0 10) 10 then bif aK (aA x.4 10 9) 9 then bif aK (aA x.2 20 5) 5 then aK (aM (aA x.2 25 18)) 18 else false else false else false then bO (aA x.2 0 10) (aA x.4 10 9) (ieq (aA x.2 19 1) 1) (aA x.2 20 5) (aM (aA x.2 25 18))else 0 else 0,ok:=aV s.3 x.1 x.2} })))))))))))
theorem CZ(t n:Int)(x:FNS)(s:MS)(K:FnO→Prop)(h:(gD t n x s).run K):cT' 94 [.ptr 0 0,.ptr 1 0] [some (.cells [.int .i64 t,.int .i64 n,.int .i64 x.pred,.int .u64 x.pw,.int .i64 x.curr,.int .u64 x.cw,.int .i64 x.tries,.slice 3 0 x.ul.length 1,.bool x.ab,.int .i64 x.me,.int .i64 x.frm,.int .i64 x.key,.int .i64 x.limit,.int .i64 5,.int .i64 x.moved,.O]),bH 2 s,bI s,some (.ints (some .i64) x.ul)] (dX 3 0 [15] [(.cell 0 7,.ints (some .i64))] (yN t n) K):=by
 exact cM' (E:=EC7) (by kernel_rfl) h
def lG(t n:Int)(x:FNS)(s:MS):Tr FnO:=.pre ((((0:Int)≤t∧t≤(100000:Int))∧((0:Int)≤n∧n≤(100000:Int))∧((-1099511627776:Int)≤x.8∧x.8≤(1099511627776:Int))∧(-1099511627776:Int)≤(0:Int)∧(0:Int)≤(1099511627776:Int))∧True) (.pre ((lE' s.3∧(0:Int)≤s.4∧s.4≤(4611686018427387904:Int))∧True) (.ite (ile (W (x.13+1)) n) (.pre ((t=t∧n=n)∧lE' x.6∧(false=false→(0:Int)≠(4:Int))∧lE' (aZ s.3 (2*n+5+2*x.8+0) (WU x.3))) (.ret {d:=false,x:= {x with pred:=x.3,at':=0,moved:=W (x.13+1),cl:=a9},s:= {t:=s.1,n:=s.2,xs:=aZ s.3 (2*n+5+2*x.8+0) (WU x.3),c:=s.4+1,k:=2,a:=2*n+5+2*x.8+0,o:=aD s.3 (2*n+5+2*x.8+0),w:=bif bW s.3 (2*n+5+2*x.8+0)then WU x.3 else 0,ok:=bW s.3 (2*n+5+2*x.8+0) } })) (.ite (ilt x.11 (W (x.5+1))) (.ite (ilt x.11 (W (x.5+1))) (.pre ((t=t∧n=n)∧lE' x.6∧(true=false→(0:Int)≠(4:Int))∧lE' (aZ s.3 (2*n+5+2*x.8+0) (WU x.3))) (.ret {d:=true,x:= {x with pred:=0,pw:=0,curr:=0,cw:=0,tries:=W (x.5+1),ab:=ilt x.11 (W (x.5+1)),at':=0,moved:=W (x.13+1),cl:=a9},s:= {t:=s.1,n:=s.2,xs:=aZ s.3 (2*n+5+2*x.8+0) (WU x.3),c:=s.4+1,k:=2,a:=2*n+5+2*x.8+0,o:=aD s.3 (2*n+5+2*x.8+0),w:=bif bW s.3 (2*n+5+2*x.8+0)then WU x.3 else 0,ok:=bW s.3 (2*n+5+2*x.8+0) } })) (.pre ((t=t∧n=n)∧lE' x.6∧(false=false→(0:Int)≠(4:Int))∧lE' (aZ s.3 (2*n+5+2*x.8+0) (WU x.3))) (.ret {d:=false,x:= {x with pred:=x.9,pw:=0,curr:=0,cw:=0,tries:=W (x.5+1),ab:=ilt x.11 (W (x.5+1)),at':=0,moved:=0,cl:=a9},s:= {t:=s.1,n:=s.2,xs:=aZ s.3 (2*n+5+2*x.8+0) (WU x.3),c:=s.4+1,k:=2,a:=2*n+5+2*x.8+0,o:=aD s.3 (2*n+5+2*x.8+0),w:=bif bW s.3 (2*n+5+2*x.8+0)then WU x.3 else 0,ok:=bW s.3 (2*n+5+2*x.8+0) } }))) (.ite (ilt x.11 (W (x.5+1))) (.pre ((t=t∧n=n)∧lE' x.6∧(true=false→(0:Int)≠(4:Int))∧lE' (aZ s.3 (2*n+5+2*x.8+0) (WU x.3))) (.ret {d:=true,x:= {x with pred:=x.3,tries:=W (x.5+1),ab:=ilt x.11 (W (x.5+1)),at':=0,moved:=W (x.13+1),cl:=a9},s:= {t:=s.1,n:=s.2,xs:=aZ s.3 (2*n+5+2*x.8+0) (WU x.3),c:=s.4+1,k:=2,a:=2*n+5+2*x.8+0,o:=aD s.3 (2*n+5+2*x.8+0),w:=bif bW s.3 (2*n+5+2*x.8+0)then WU x.3 else 0,ok:=bW s.3 (2*n+5+2*x.8+0) } })) (.pre ((t=t∧n=n)∧lE' x.6∧(false=false→(0:Int)≠(4:Int))∧lE' (aZ s.3 (2*n+5+2*x.8+0) (WU x.3))) (.ret {d:=false,x:= {x with pred:=x.9,tries:=W (x.5+1),ab:=ilt x.11 (W (x.5+1)),at':=0,moved:=0,cl:=a9},s:= {t:=s.1,n:=s.2,xs:=aZ s.3 (2*n+5+2*x.8+0) (WU x.3),c:=s.4+1,k:=2,a:=2*n+5+2*x.8+0,o:=aD s.3 (2*n+5+2*x.8+0),w:=bif bW s.3 (2*n+5+2*x.8+0)then WU x.3 else 0,ok:=bW s.3 (2*n+5+2*x.8+0) } }))))))
theorem C0(t n:Int)(x:FNS)(s:MS)(K:FnO→Prop)(h:(lG t n x s).run K):cT' 94 [.ptr 0 0,.ptr 1 0] [some (.cells [.int .i64 t,.int .i64 n,.int .i64 x.pred,.int .u64 x.pw,.int .i64 x.curr,.int .u64 x.cw,.int .i64 x.tries,.slice 3 0 x.ul.length 1,.bool x.ab,.int .i64 x.me,.int .i64 x.frm,.int .i64 x.key,.int .i64 x.limit,.int .i64 6,.int .i64 x.moved,.O]),bH 2 s,bI s,some (.ints (some .i64) x.ul)] (dX 3 0 [15] [(.cell 0 7,.ints (some .i64))] (yN t n) K):=by
 exact cM' (E:=EC7) (by kernel_rfl) h
def mZ(t n:Int)(x:FNS)(s:MS):Tr FnO:=
 bif ieq x.at' 0 then lE t n x s else
 bif ieq x.at' 1 then tL t n x s else
 bif ieq x.at' 2 then jO t n x s else
 bif ieq x.at' 3 then iE t n x s else
 bif ieq x.at' 4 then lF t n x s else
 bif ieq x.at' 5 then gD t n x s else
 bif ieq x.at' 6 then lG t n x s else .pre False (.ret default)
def fnF(t n:Int)(x:FNS)(s:MS):FnO:=(mZ t n x s).val
def KF(t n:Int)(x:FNS)(s:MS):Prop:=(mZ t n x s).ok
theorem KI(t n:Int)(x:FNS)(s:MS)(K:AVal→aB Ob→Prop)(h:(mZ t n x s).run (fun y=>(FnO.fin t n y).run K)):cT' 94 [.ptr 0 0,.ptr 1 0] (S7 t n x s) K:=by
 unfold mZ at h
 by_cases e:x.at'=0
 ·rw [e]at h
  have h:(lE t n x s).run _:=h
  refine V9 (root:=0) (pos:=[15]) (cs:=[(.cell 0 7,.ints (some .i64))]) (parse:=yN t n) (fin:=FnO.fin t n) mY (cQ.unpack (.find t n x) 0 0 (i8 t n x) [] rfl (congrArg (Prod.mk 0) (gC (by omega))) (by kernel_rfl) rfl) ?_
  have q:=CU t n x s _ h
  rw [←e]at q
  exact q
 rw [eZ e]at h
 by_cases e:x.at'=1
 ·rw [e]at h
  have h:(tL t n x s).run _:=h
  refine V9 (root:=0) (pos:=[15]) (cs:=[(.cell 0 7,.ints (some .i64))]) (parse:=yN t n) (fin:=FnO.fin t n) mY (cQ.unpack (.find t n x) 0 0 (i8 t n x) [] rfl (congrArg (Prod.mk 0) (gC (by omega))) (by kernel_rfl) rfl) ?_
  have q:=CV t n x s _ h
  rw [←e]at q
  exact q
 rw [eZ e]at h
 by_cases e:x.at'=2
 ·rw [e]at h
  have h:(jO t n x s).run _:=h
  refine V9 (root:=0) (pos:=[15]) (cs:=[(.cell 0 7,.ints (some .i64))]) (parse:=yN t n) (fin:=FnO.fin t n) mY (cQ.unpack (.find t n x) 0 0 (i8 t n x) [] rfl (congrArg (Prod.mk 0) (gC (by omega))) (by kernel_rfl) rfl) ?_
  have q:=CW t n x s _ h
  rw [←e]at q
  exact q
 rw [eZ e]at h
 by_cases e:x.at'=3
 ·rw [e]at h
  have h:(iE t n x s).run _:=h
  refine V9 (root:=0) (pos:=[15]) (cs:=[(.cell 0 7,.ints (some .i64))]) (parse:=yN t n) (fin:=FnO.fin t n) mY (cQ.unpack (.find t n x) 0 0 (i8 t n x) [] rfl (congrArg (Prod.mk 0) (gC (by omega))) (by kernel_rfl) rfl) ?_
  have q:=CX t n x s _ h
  rw [←e]at q
  exact q
 rw [eZ e]at h
 by_cases e:x.at'=4
 ·rw [e]at h
  have h:(lF t n x s).run _:=h
  refine V9 (root:=0) (pos:=[15]) (cs:=[(.cell 0 7,.ints (some .i64))]) (parse:=yN t n) (fin:=FnO.fin t n) mY (cQ.unpack (.find t n x) 0 0 (nO t n x) [] rfl (congrArg (Prod.mk 0) (BK e)) (by kernel_rfl) rfl) ?_
  have q:=CY t n x s _ h
  rw [←e]at q
  exact q
 rw [eZ e]at h
 by_cases e:x.at'=5
 ·rw [e]at h
  have h:(gD t n x s).run _:=h
  refine V9 (root:=0) (pos:=[15]) (cs:=[(.cell 0 7,.ints (some .i64))]) (parse:=yN t n) (fin:=FnO.fin t n) mY (cQ.unpack (.find t n x) 0 0 (i8 t n x) [] rfl (congrArg (Prod.mk 0) (gC (by omega))) (by kernel_rfl) rfl) ?_
  have q:=CZ t n x s _ h
  rw [←e]at q
  exact q
 rw [eZ e]at h
 by_cases e:x.at'=6
 ·rw [e]at h
  have h:(lG t n x s).run _:=h
  refine V9 (root:=0) (pos:=[15]) (cs:=[(.cell 0 7,.ints (some .i64))]) (parse:=yN t n) (fin:=FnO.fin t n) mY (cQ.unpack (.find t n x) 0 0 (i8 t n x) [] rfl (congrArg (Prod.mk 0) (gC (by omega))) (by kernel_rfl) rfl) ?_
  have q:=C0 t n x s _ h
  rw [←e]at q
  exact q
 rw [eZ e]at h
 exact h.1.elim
noncomputable def fnS:aL Ob:=fun args h=>match args,h with
 | [.ptr 0 0,.ptr 1 0],[some (.abs (.find t n x) []),e1,e2]=>(match fB 2 [e1,e2]with
   | some (l,s)=>some (.pre (l=s.xs.length∧KF t n x s) (FnO.fin t n (fnF t n x s)))
   | none=>none)
 | _,_=>none
theorem RT:sT' 94 fnS:=by
 intro args h o ho K hK
 unfold fnS at ho
 split at ho
 case h_2=>cases ho
 split at ho<;>cases ho
 rename_i hm
 obtain⟨⟨hl,ok⟩,hK⟩:=hK
 have hh:=cC hm hl
 cases hh
 exact KI _ _ _ _ K (WB ok hK)
def OZ(t n:Int)(v:AVal)(g:aB Ob):Option (Prop×FNS):=match v,g with
 | .ptr 0 0,[some (.cells [.int .i64 t1,.int .i64 n1,.int .i64 pred,.int .u64 pw,.int .i64 curr,.int .u64 cw,.int .i64 tries,.slice 1 0 ul_l 1,.bool ab,.int .i64 me,.int .i64 frm,.int .i64 key,.int .i64 limit,.int .i64 at',.int .i64 moved,.O]),some (.ints (some .i64) ul)]=>some ((t1=t∧n1=n)∧ul_l=ul.length∧(at'≠4),(⟨pred,pw,curr,cw,tries,ul,ab,me,frm,key,limit,at',moved,⟨0,0,0,0⟩⟩:FNS))
 | _,_=>none
abbrev KC(t n:Int)(y:FNS):aB Ob:=[some (.abs (.find t n y) [])]
theorem KE{t n:Int} :dB (obI tbl) 0 (OZ t n) (fun y=>.ret (.ptr 0 0) (KC t n y)):=by
 intro v g p x hp hq K hK
 unfold OZ at hp
 split at hp
 case h_2=>cases hp
 rename_i t1 n1 pred pw curr cw tries ul_l ab me frm key limit at' moved ul
 simp only [sI',pI']at hp
 obtain⟨rfl,rfl⟩:=hp
 obtain⟨⟨rfl,rfl⟩,rfl,hat⟩:=hq
 exact⟨⟨_,_,aQ.pack (KC t1 n1 (⟨pred,pw,curr,cw,tries,ul,ab,me,frm,key,limit,at',moved,⟨0,0,0,0⟩⟩:FNS)) (.find t1 n1 (⟨pred,pw,curr,cw,tries,ul,ab,me,frm,key,limit,at',moved,⟨0,0,0,0⟩⟩:FNS)) 0 0 (i8 t1 n1 (⟨pred,pw,curr,cw,tries,ul,ab,me,frm,key,limit,at',moved,⟨0,0,0,0⟩⟩:FNS)) [] (by kernel_rfl) rfl (congrArg (Prod.mk 0) (gC hat)) (by kernel_rfl),hK⟩⟩
def GA(t n:Int)(me hd key lim:Int):Tr FNS:=.pre (((0:Int)≤n∧n≤(100000:Int))∧(-1000000:Int)≤hd∧hd≤(1000000:Int)) (.pre (((0:Int)≤n∧n≤(100000:Int))∧(-1000000:Int)≤hd∧hd≤(1000000:Int)) (.pre ((t=t∧n=n)∧0=0∧(0:Int)≠(4:Int)) (.ret {pred:=n+1+hd,pw:=0,curr:=0,cw:=0,tries:=0,ul:=[],ab:=false,me:=me,frm:=n+1+hd,key:=key,limit:=lim,at':=0,moved:=0,cl:=a9})))
def mE(t n:Int)(me hd key lim:Int):FNS:=(GA t n me hd key lim).val
def wX(t n:Int)(me hd key lim:Int):Prop:=(GA t n me hd key lim).ok
def fnNS:aL Ob:=fun args h=>match args,h with
 | [.agg [.int .i64 t,.int .i64 n],.int .i64 me,.int .i64 hd,.int .i64 key,.int .i64 lim],[]=>some (.pre (wX t n me hd key lim) (.ret (.ptr 0 0) (KC t n (mE t n me hd key lim))))
 | _,_=>none
theorem O0:sT' 132 fnNS:=by
 intro args h o ho K hK
 unfold fnNS at ho
 split at ho<;>cases ho
 rename_i t n me hd key lim
 obtain⟨ok,hK⟩:=hK
 refine WI (root:=0) (pos:=[15]) (cs:=[(.cell 0 7,.ints (some .i64))]) (parse:=OZ t n) KE ?_
 exact cM' (E:=EC7) (q:=(GA t n me hd key lim).run (fun y=>(Out.ret (.ptr 0 0) (KC t n y)).run K)) (by kernel_rfl) (WB ok hK)
noncomputable def EF:=((EC7.addS 94 fnS RT).addS 132 fnNS O0)
def retC:aL Ob:=fun args h=>match args,h with
 | [.ptr 0 0,.slice 2 0 k 1],[e1,e2,some (.cells [.int .i64 p])]=>(match sJ 1 [e1,e2]with
   | some (l,t,n,st)=>some (.pre (l=st.R.length∧k=1∧st.R.length+1≤4294967296) (.ret (.tup []) [some (.cells [.int .i64 t,.int .i64 n,.int .i64 st.me,.int .i64 st.sp,.slice 3 0 (st.R.length+1) 1]),none,some (.cells [.int .i64 p]),some (.ints (some .i64) (st.R++ [p]))]))
   | none=>none)
 | _,_=>none
theorem LU:sT' 71 retC:=by
 intro args h o ho K hK
 unfold retC at ho
 split at ho
 case h_2=>cases ho
 rename_i k e1 e2 p
 split at ho<;>cases ho
 rename_i l t n st hs
 obtain⟨⟨hl,rfl,hle⟩,hK⟩:=hK
 have hh:=dF hs hl
 cases hh
 refine VV (cM' (E:=EF) (q:=(0=0∧lE' st.3∧1=1∧List.length st.3+(1:Nat)≤(4294967296:Nat))∧K (.tup []) [some (.cells [.int .i64 t,.int .i64 n,.int .i64 st.1,.int .i64 st.2,.slice 3 0 (List.length st.3+1) 1]),none,some (.cells [.int .i64 p]),some (.ints (some .i64) (st.3++ [p]))]) (by kernel_rfl) ?_)
 exact⟨⟨rfl,rfl,rfl,hle⟩,hK⟩
def retI:aL Ob:=fun args h=>match args,h with
 | [.ptr 0 0,.slice 2 0 k 1],[e1,e2,some (.ints (some .i64) xs)]=>(match sJ 1 [e1,e2]with
   | some (l,t,n,st)=>some (.pre (l=st.R.length∧k=xs.length∧st.R.length+xs.length≤4294967296) (.ret (.tup []) [some (.cells [.int .i64 t,.int .i64 n,.int .i64 st.me,.int .i64 st.sp,.slice 3 0 (st.R.length+xs.length) 1]),none,some (.ints (some .i64) xs),some (.ints (some .i64) (st.R++xs))]))
   | none=>none)
 | _,_=>none
theorem LV:sT' 71 retI:=by
 intro args h o ho K hK
 unfold retI at ho
 split at ho
 case h_2=>cases ho
 rename_i k e1 e2 xs
 split at ho<;>cases ho
 rename_i l t n st hs
 obtain⟨⟨hl,rfl,hle⟩,hK⟩:=hK
 have hh:=dF hs hl
 cases hh
 refine VV (cM' (E:=EF) (q:=(0+List.length xs≤List.length xs∧0=0∧lE' st.3∧1=1∧List.length st.3+List.length xs≤(4294967296:Nat))∧K (.tup []) [some (.cells [.int .i64 t,.int .i64 n,.int .i64 st.1,.int .i64 st.2,.slice 3 0 (List.length st.3+List.length xs) 1]),none,some (.ints (some .i64) xs),some (.ints (some .i64) (st.3++List.take (List.length xs) (List.drop 0 xs)))]) (by kernel_rfl) ?_)
 refine⟨⟨by omega,rfl,rfl,rfl,hle⟩,?_⟩
 rw [List.drop_zero,List.take_length]
 exact hK
noncomputable def retS:aL Ob:=aL.or retC retI
theorem QH:sT' 71 retS:=WT LU LV
noncomputable def ER:=EF.addS 71 retS QH
structure FtO where
 d:Bool
 x:FTS
 st:STS
 s:MS
instance:Inhabited FtO:=⟨⟨false,RG,⟨0,0,[]⟩,⟨0,0,[],0,0,0,0,0,false⟩⟩⟩
instance:Inhabited FTS:=⟨RG⟩
abbrev I6(t n:Int)(x:FTS)(st:STS)(s:MS):aB Ob:=[some (.abs (.fast t n x) [1]),some (.abs (.store t n st) []),bH 3 s,bI s]
abbrev NF(t n:Int)(x:FTS)(st:STS)(s:MS):aB Ob:=[some (.cells [.ptr 1 0,.int .i64 x.code,.bool x.okk,.int .i64 x.val,.bool x.failed,.int .i64 x.tries,.int .i64 x.sh,.int .i64 x.kd,.int .i64 x.ky,.int .i64 x.most,.int .i64 x.at',.bool x.p.now,.int .i64 x.p.code,.bool x.p.okk,.int .i64 x.p.val,.int .i64 x.p.addr,.int .u64 x.p.old,.int .i64 x.p.nxt,.bool x.p.mark,.int .i64 x.p.pops,.O,.O,.O]),some (.abs (.store t n st) []),bH 3 s,bI s]
def FtO.fin(t n:Int)(y:FtO):Out Ob:=.ite y.d (.ret (.bool true) (NF t n y.x y.st y.s)) (.ret (.bool false) (I6 t n y.x y.st y.s))
def PE(t n:Int)(v:AVal)(g:aB Ob):Option (Prop×FtO):=match v,g with
 | .bool d,[some (.cells [.ptr 1 0,.int .i64 code,.bool okk,.int .i64 val,.bool failed,.int .i64 tries,.int .i64 sh,.int .i64 kd,.int .i64 ky,.int .i64 most,.int .i64 at',.bool p_now,.int .i64 p_code,.bool p_okk,.int .i64 p_val,.int .i64 p_addr,.int .u64 p_old,.int .i64 p_nxt,.bool p_mark,.int .i64 p_pops,.O,.O,.O]),e1,e3,e4,e2]=>(match sJ 4 [e1,e2],fB 3 [e3,e4]with
   | some (l2,t2,n2,st),some (l,s)=>some ((t2=t∧n2=n)∧(d=false→at'≠0∧at'≠1∧at'≠2)∧l=s.xs.length∧l2=st.R.length,⟨d,⟨code,okk,val,failed,tries,sh,kd,ky,most,at',⟨p_now,p_code,p_okk,p_val,p_addr,p_old,p_nxt,p_mark,p_pops⟩,bV,⟨0,0,0,0⟩,⟨0,0,0,false⟩⟩,st,s⟩)
   | _,_=>none)
 | _,_=>none
def PF(t n:Int)(v:AVal)(g:aB Ob):Option (Prop×FtO):=match v,g with
 | .bool d,[some (.cells [.ptr 1 0,.int .i64 code,.bool okk,.int .i64 val,.bool failed,.int .i64 tries,.int .i64 sh,.int .i64 kd,.int .i64 ky,.int .i64 most,.int .i64 at',.bool p_now,.int .i64 p_code,.bool p_okk,.int .i64 p_val,.int .i64 p_addr,.int .u64 p_old,.int .i64 p_nxt,.bool p_mark,.int .i64 p_pops,.ptr 4 0,.O,.O]),e1,e3,e4,some (.abs (.find t' n' sub) []),e2]=>(match sJ 5 [e1,e2],fB 3 [e3,e4]with
   | some (l2,t2,n2,st),some (l,s)=>some ((t2=t∧n2=n)∧t'=t∧n'=n∧(d=false→at'=0)∧l=s.xs.length∧l2=st.R.length,⟨d,⟨code,okk,val,failed,tries,sh,kd,ky,most,at',⟨p_now,p_code,p_okk,p_val,p_addr,p_old,p_nxt,p_mark,p_pops⟩,sub,⟨0,0,0,0⟩,⟨0,0,0,false⟩⟩,st,s⟩)
   | _,_=>none)
 | _,_=>none
def PG(t n:Int)(v:AVal)(g:aB Ob):Option (Prop×FtO):=match v,g with
 | .bool d,[some (.cells [.ptr 1 0,.int .i64 code,.bool okk,.int .i64 val,.bool failed,.int .i64 tries,.int .i64 sh,.int .i64 kd,.int .i64 ky,.int .i64 most,.int .i64 at',.bool p_now,.int .i64 p_code,.bool p_okk,.int .i64 p_val,.int .i64 p_addr,.int .u64 p_old,.int .i64 p_nxt,.bool p_mark,.int .i64 p_pops,.O,.ptr 4 0,.O]),e1,e3,e4,some (.abs (.clear t' n' sub) []),e2]=>(match sJ 5 [e1,e2],fB 3 [e3,e4]with
   | some (l2,t2,n2,st),some (l,s)=>some ((t2=t∧n2=n)∧t'=t∧n'=n∧(d=false→at'=1)∧l=s.xs.length∧l2=st.R.length,⟨d,⟨code,okk,val,failed,tries,sh,kd,ky,most,at',⟨p_now,p_code,p_okk,p_val,p_addr,p_old,p_nxt,p_mark,p_pops⟩,bV,sub,⟨0,0,0,false⟩⟩,st,s⟩)
   | _,_=>none)
 | _,_=>none
def PH(t n:Int)(v:AVal)(g:aB Ob):Option (Prop×FtO):=match v,g with
 | .bool d,[some (.cells [.ptr 1 0,.int .i64 code,.bool okk,.int .i64 val,.bool failed,.int .i64 tries,.int .i64 sh,.int .i64 kd,.int .i64 ky,.int .i64 most,.int .i64 at',.bool p_now,.int .i64 p_code,.bool p_okk,.int .i64 p_val,.int .i64 p_addr,.int .u64 p_old,.int .i64 p_nxt,.bool p_mark,.int .i64 p_pops,.O,.O,.ptr 4 0]),e1,e3,e4,some (.abs (.prepare t' n' sub) [1]),e2]=>(match sJ 5 [e1,e2],fB 3 [e3,e4]with
   | some (l2,t2,n2,st),some (l,s)=>some ((t2=t∧n2=n)∧t'=t∧n'=n∧(d=false→at'=2)∧l=s.xs.length∧l2=st.R.length,⟨d,⟨code,okk,val,failed,tries,sh,kd,ky,most,at',⟨p_now,p_code,p_okk,p_val,p_addr,p_old,p_nxt,p_mark,p_pops⟩,bV,⟨0,0,0,0⟩,sub⟩,st,s⟩)
   | _,_=>none)
 | _,_=>none
def I7(t n:Int)(v:AVal)(g:aB Ob):Option (Prop×FtO):=(match PE t n v g with
 | some r=>some r
 | none=>(match PF t n v g with
 | some r=>some r
 | none=>(match PG t n v g with
 | some r=>some r
 | none=>PH t n v g)))
theorem KO{t n:Int} :dB (obI tbl) 4 (PE t n) (FtO.fin t n):=by
 intro v g p x hp hq K hK
 unfold PE at hp
 split at hp
 case h_2=>cases hp
 rename_i d code okk val failed tries sh kd ky most at' p_now p_code p_okk p_val p_addr p_old p_nxt p_mark p_pops e1 e3 e4 e2
 split at hp
 case h_2=>cases hp
 rename_i l2 t2 n2 st l s hs hm
 simp only [sI',pI']at hp
 obtain⟨rfl,rfl⟩:=hp
 obtain⟨⟨rfl,rfl⟩,hat,hl,hl2⟩:=hq
 have hh:=cC hm hl
 cases hh
 have hh:=dF hs hl2
 cases hh
 refine uB hK (fun h=>?_) (fun hd h=>?_)
 ·exact⟨⟨_,_,(aQ.pack (NF t2 n2 (⟨code,okk,val,failed,tries,sh,kd,ky,most,at',⟨p_now,p_code,p_okk,p_val,p_addr,p_old,p_nxt,p_mark,p_pops⟩,bV,⟨0,0,0,0⟩,⟨0,0,0,false⟩⟩:FTS) st s) (.store t2 n2 st) 1 0 (jD t2 n2 st) [] (by kernel_rfl) rfl rfl (by kernel_rfl)),h⟩⟩
 ·exact⟨⟨_,_,((aQ.pack (bP (I6 t2 n2 (⟨code,okk,val,failed,tries,sh,kd,ky,most,at',⟨p_now,p_code,p_okk,p_val,p_addr,p_old,p_nxt,p_mark,p_pops⟩,bV,⟨0,0,0,0⟩,⟨0,0,0,false⟩⟩:FTS) st s) 0 1 (rB t2 n2 (⟨code,okk,val,failed,tries,sh,kd,ky,most,at',⟨p_now,p_code,p_okk,p_val,p_addr,p_old,p_nxt,p_mark,p_pops⟩,bV,⟨0,0,0,0⟩,⟨0,0,0,false⟩⟩:FTS)) [1]) (.store t2 n2 st) 1 0 (jD t2 n2 st) [] (by kernel_rfl) rfl rfl (by kernel_rfl)).trans (aQ.pack (I6 t2 n2 (⟨code,okk,val,failed,tries,sh,kd,ky,most,at',⟨p_now,p_code,p_okk,p_val,p_addr,p_old,p_nxt,p_mark,p_pops⟩,bV,⟨0,0,0,0⟩,⟨0,0,0,false⟩⟩:FTS) st s) (.fast t2 n2 (⟨code,okk,val,failed,tries,sh,kd,ky,most,at',⟨p_now,p_code,p_okk,p_val,p_addr,p_old,p_nxt,p_mark,p_pops⟩,bV,⟨0,0,0,0⟩,⟨0,0,0,false⟩⟩:FTS)) 0 1 (rB t2 n2 (⟨code,okk,val,failed,tries,sh,kd,ky,most,at',⟨p_now,p_code,p_okk,p_val,p_addr,p_old,p_nxt,p_mark,p_pops⟩,bV,⟨0,0,0,0⟩,⟨0,0,0,false⟩⟩:FTS)) [1] (by kernel_rfl) rfl (congrArg (Prod.mk 1) (wU (hat hd))) (by kernel_rfl))),h⟩⟩
theorem KP{t n:Int} :dB (obI tbl) 4 (PF t n) (FtO.fin t n):=by
 intro v g p x hp hq K hK
 unfold PF at hp
 split at hp
 case h_2=>cases hp
 rename_i d code okk val failed tries sh kd ky most at' p_now p_code p_okk p_val p_addr p_old p_nxt p_mark p_pops e1 e3 e4 t' n' sub e2
 split at hp
 case h_2=>cases hp
 rename_i l2 t2 n2 st l s hs hm
 simp only [sI',pI']at hp
 obtain⟨rfl,rfl⟩:=hp
 obtain⟨⟨rfl,rfl⟩,rfl,rfl,hat,hl,hl2⟩:=hq
 have hh:=cC hm hl
 cases hh
 have hh:=dF hs hl2
 cases hh
 refine uB hK (fun h=>?_) (fun hd h=>?_)
 ·exact⟨⟨_,_,(aQ.weak (cY _ 0 [20,21,22])).trans ((aQ.pick [0,1,2,3,5] rfl).trans ((WJ (g2:=bP (NF t' n' (⟨code,okk,val,failed,tries,sh,kd,ky,most,at',⟨p_now,p_code,p_okk,p_val,p_addr,p_old,p_nxt,p_mark,p_pops⟩,sub,⟨0,0,0,0⟩,⟨0,0,0,false⟩⟩:FTS) st s) 1 0 (jD t' n' st) []) (by kernel_rfl) (by kernel_rfl)).trans (aQ.pack (NF t' n' (⟨code,okk,val,failed,tries,sh,kd,ky,most,at',⟨p_now,p_code,p_okk,p_val,p_addr,p_old,p_nxt,p_mark,p_pops⟩,sub,⟨0,0,0,0⟩,⟨0,0,0,false⟩⟩:FTS) st s) (.store t' n' st) 1 0 (jD t' n' st) [] (by kernel_rfl) rfl rfl (by kernel_rfl)))),h⟩⟩
 ·exact⟨⟨_,_,((aQ.pack (bP (I6 t' n' (⟨code,okk,val,failed,tries,sh,kd,ky,most,at',⟨p_now,p_code,p_okk,p_val,p_addr,p_old,p_nxt,p_mark,p_pops⟩,sub,⟨0,0,0,0⟩,⟨0,0,0,false⟩⟩:FTS) st s) 0 1 (jL t' n' (⟨code,okk,val,failed,tries,sh,kd,ky,most,at',⟨p_now,p_code,p_okk,p_val,p_addr,p_old,p_nxt,p_mark,p_pops⟩,sub,⟨0,0,0,0⟩,⟨0,0,0,false⟩⟩:FTS)) [1]) (.store t' n' st) 1 0 (jD t' n' st) [] (by kernel_rfl) rfl rfl (by kernel_rfl)).trans (aQ.pack (I6 t' n' (⟨code,okk,val,failed,tries,sh,kd,ky,most,at',⟨p_now,p_code,p_okk,p_val,p_addr,p_old,p_nxt,p_mark,p_pops⟩,sub,⟨0,0,0,0⟩,⟨0,0,0,false⟩⟩:FTS) st s) (.fast t' n' (⟨code,okk,val,failed,tries,sh,kd,ky,most,at',⟨p_now,p_code,p_okk,p_val,p_addr,p_old,p_nxt,p_mark,p_pops⟩,sub,⟨0,0,0,0⟩,⟨0,0,0,false⟩⟩:FTS)) 0 1 (jL t' n' (⟨code,okk,val,failed,tries,sh,kd,ky,most,at',⟨p_now,p_code,p_okk,p_val,p_addr,p_old,p_nxt,p_mark,p_pops⟩,sub,⟨0,0,0,0⟩,⟨0,0,0,false⟩⟩:FTS)) [1] (by kernel_rfl) rfl (congrArg (Prod.mk 1) (u4 (hat hd))) (by kernel_rfl))),h⟩⟩
theorem KQ{t n:Int} :dB (obI tbl) 4 (PG t n) (FtO.fin t n):=by
 intro v g p x hp hq K hK
 unfold PG at hp
 split at hp
 case h_2=>cases hp
 rename_i d code okk val failed tries sh kd ky most at' p_now p_code p_okk p_val p_addr p_old p_nxt p_mark p_pops e1 e3 e4 t' n' sub e2
 split at hp
 case h_2=>cases hp
 rename_i l2 t2 n2 st l s hs hm
 simp only [sI',pI']at hp
 obtain⟨rfl,rfl⟩:=hp
 obtain⟨⟨rfl,rfl⟩,rfl,rfl,hat,hl,hl2⟩:=hq
 have hh:=cC hm hl
 cases hh
 have hh:=dF hs hl2
 cases hh
 refine uB hK (fun h=>?_) (fun hd h=>?_)
 ·exact⟨⟨_,_,(aQ.weak (cY _ 0 [20,21,22])).trans ((aQ.pick [0,1,2,3,5] rfl).trans ((WJ (g2:=bP (NF t' n' (⟨code,okk,val,failed,tries,sh,kd,ky,most,at',⟨p_now,p_code,p_okk,p_val,p_addr,p_old,p_nxt,p_mark,p_pops⟩,bV,sub,⟨0,0,0,false⟩⟩:FTS) st s) 1 0 (jD t' n' st) []) (by kernel_rfl) (by kernel_rfl)).trans (aQ.pack (NF t' n' (⟨code,okk,val,failed,tries,sh,kd,ky,most,at',⟨p_now,p_code,p_okk,p_val,p_addr,p_old,p_nxt,p_mark,p_pops⟩,bV,sub,⟨0,0,0,false⟩⟩:FTS) st s) (.store t' n' st) 1 0 (jD t' n' st) [] (by kernel_rfl) rfl rfl (by kernel_rfl)))),h⟩⟩
 ·exact⟨⟨_,_,((aQ.pack (bP (I6 t' n' (⟨code,okk,val,failed,tries,sh,kd,ky,most,at',⟨p_now,p_code,p_okk,p_val,p_addr,p_old,p_nxt,p_mark,p_pops⟩,bV,sub,⟨0,0,0,false⟩⟩:FTS) st s) 0 1 (lC t' n' (⟨code,okk,val,failed,tries,sh,kd,ky,most,at',⟨p_now,p_code,p_okk,p_val,p_addr,p_old,p_nxt,p_mark,p_pops⟩,bV,sub,⟨0,0,0,false⟩⟩:FTS)) [1]) (.store t' n' st) 1 0 (jD t' n' st) [] (by kernel_rfl) rfl rfl (by kernel_rfl)).trans (aQ.pack (I6 t' n' (⟨code,okk,val,failed,tries,sh,kd,ky,most,at',⟨p_now,p_code,p_okk,p_val,p_addr,p_old,p_nxt,p_mark,p_pops⟩,bV,sub,⟨0,0,0,false⟩⟩:FTS) st s) (.fast t' n' (⟨code,okk,val,failed,tries,sh,kd,ky,most,at',⟨p_now,p_code,p_okk,p_val,p_addr,p_old,p_nxt,p_mark,p_pops⟩,bV,sub,⟨0,0,0,false⟩⟩:FTS)) 0 1 (lC t' n' (⟨code,okk,val,failed,tries,sh,kd,ky,most,at',⟨p_now,p_code,p_okk,p_val,p_addr,p_old,p_nxt,p_mark,p_pops⟩,bV,sub,⟨0,0,0,false⟩⟩:FTS)) [1] (by kernel_rfl) rfl (congrArg (Prod.mk 1) (BI (hat hd))) (by kernel_rfl))),h⟩⟩
theorem KS{t n:Int} :dB (obI tbl) 4 (PH t n) (FtO.fin t n):=by
 intro v g p x hp hq K hK
 unfold PH at hp
 split at hp
 case h_2=>cases hp
 rename_i d code okk val failed tries sh kd ky most at' p_now p_code p_okk p_val p_addr p_old p_nxt p_mark p_pops e1 e3 e4 t' n' sub e2
 split at hp
 case h_2=>cases hp
 rename_i l2 t2 n2 st l s hs hm
 simp only [sI',pI']at hp
 obtain⟨rfl,rfl⟩:=hp
 obtain⟨⟨rfl,rfl⟩,rfl,rfl,hat,hl,hl2⟩:=hq
 have hh:=cC hm hl
 cases hh
 have hh:=dF hs hl2
 cases hh
 refine uB hK (fun h=>?_) (fun hd h=>?_)
 ·exact⟨⟨_,_,(aQ.weak (cY _ 0 [20,21,22])).trans ((aQ.pick [0,1,2,3,5] rfl).trans ((WJ (g2:=bP (NF t' n' (⟨code,okk,val,failed,tries,sh,kd,ky,most,at',⟨p_now,p_code,p_okk,p_val,p_addr,p_old,p_nxt,p_mark,p_pops⟩,bV,⟨0,0,0,0⟩,sub⟩:FTS) st s) 1 0 (jD t' n' st) []) (by kernel_rfl) (by kernel_rfl)).trans (aQ.pack (NF t' n' (⟨code,okk,val,failed,tries,sh,kd,ky,most,at',⟨p_now,p_code,p_okk,p_val,p_addr,p_old,p_nxt,p_mark,p_pops⟩,bV,⟨0,0,0,0⟩,sub⟩:FTS) st s) (.store t' n' st) 1 0 (jD t' n' st) [] (by kernel_rfl) rfl rfl (by kernel_rfl)))),h⟩⟩
 ·exact⟨⟨_,_,((aQ.pack (bP (I6 t' n' (⟨code,okk,val,failed,tries,sh,kd,ky,most,at',⟨p_now,p_code,p_okk,p_val,p_addr,p_old,p_nxt,p_mark,p_pops⟩,bV,⟨0,0,0,0⟩,sub⟩:FTS) st s) 0 1 (lD t' n' (⟨code,okk,val,failed,tries,sh,kd,ky,most,at',⟨p_now,p_code,p_okk,p_val,p_addr,p_old,p_nxt,p_mark,p_pops⟩,bV,⟨0,0,0,0⟩,sub⟩:FTS)) [1]) (.store t' n' st) 1 0 (jD t' n' st) [] (by kernel_rfl) rfl rfl (by kernel_rfl)).trans (aQ.pack (I6 t' n' (⟨code,okk,val,failed,tries,sh,kd,ky,most,at',⟨p_now,p_code,p_okk,p_val,p_addr,p_old,p_nxt,p_mark,p_pops⟩,bV,⟨0,0,0,0⟩,sub⟩:FTS) st s) (.fast t' n' (⟨code,okk,val,failed,tries,sh,kd,ky,most,at',⟨p_now,p_code,p_okk,p_val,p_addr,p_old,p_nxt,p_mark,p_pops⟩,bV,⟨0,0,0,0⟩,sub⟩:FTS)) 0 1 (lD t' n' (⟨code,okk,val,failed,tries,sh,kd,ky,most,at',⟨p_now,p_code,p_okk,p_val,p_addr,p_old,p_nxt,p_mark,p_pops⟩,bV,⟨0,0,0,0⟩,sub⟩:FTS)) [1] (by kernel_rfl) rfl (congrArg (Prod.mk 1) (BJ (hat hd))) (by kernel_rfl))),h⟩⟩
theorem u7{t n:Int} :dB (obI tbl) 4 (I7 t n) (FtO.fin t n):=by
 intro v g p x hp hq K hK
 unfold I7 at hp
 split at hp
 ·rename_i r hr
  cases hp
  exact KO v g p x hr hq K hK
 split at hp
 ·rename_i r hr
  cases hp
  exact KP v g p x hr hq K hK
 split at hp
 ·rename_i r hr
  cases hp
  exact KQ v g p x hr hq K hK
 exact KS v g p x hp hq K hK
def iG(t n:Int)(x:FTS)(st:STS)(s:MS):Tr FtO:=.pre True (.ite (!bT x.6 x.7 x.8) (.pre (lE' s.3∧(0:Int)≤s.4∧s.4≤(4611686018427387904:Int)) (.pre ((t=t∧n=n)∧t=t∧n=n∧(true=false→(0:Int)=(0:Int))∧lE' s.3∧lE' st.3) (.ret {d:=true,x:= {x with failed:=true,at':=0,p:= {now:=(FTS.p x).1,code:=(FTS.p x).2,okk:=(FTS.p x).3,val:=(FTS.p x).4,addr:=(FTS.p x).5,old:=(FTS.p x).6,nxt:=(FTS.p x).7,mark:=(FTS.p x).8,pops:=(FTS.p x).9},cl:=a9,pr:=bU},st:= {me:=st.1,sp:=st.2,R:=st.3},s:= {s with c:=s.4+1,k:=1,a:=0,o:=aD s.3 0,w:=aD s.3 0,ok:=bW s.3 0} }))) (.pre True (.ite (bL x.7) (.ite (ieq st.2 0) (.pre (lE' s.3∧(0:Int)≤s.4∧s.4≤(4611686018427387904:Int)) (.pre ((t=t∧n=n)∧t=t∧n=n∧(true=false→(0:Int)=(0:Int))∧lE' s.3∧lE' st.3) (.ret {d:=true,x:= {x with failed:=true,at':=0,p:= {now:=(FTS.p x).1,code:=(FTS.p x).2,okk:=(FTS.p x).3,val:=(FTS.p x).4,addr:=(FTS.p x).5,old:=(FTS.p x).6,nxt:=(FTS.p x).7,mark:=(FTS.p x).8,pops:=(FTS.p x).9},cl:=a9,pr:=bU},st:= {me:=st.1,sp:=st.2,R:=st.3},s:= {s with c:=s.4+1,k:=1,a:=0,o:=aD s.3 0,w:=aD s.3 0,ok:=bW s.3 0} }))) (.pre (lE' s.3∧KF t n x.12 s) (.ite (fnF t n x.12 s).1 (.pre ((lE' st.3∧lE' (FnO.x (fnF t n x.12 s)).6∧List.length st.3+List.length (FnO.x (fnF t n x.12 s)).6≤(4294967296:Nat))∧True) (.ite (ilt x.9 (W (x.5+(FnO.x (fnF t n x.12 s)).5))) (.pre ((t=t∧n=n)∧(true=false→(0:Int)≠(0:Int)∧(0:Int)≠(1:Int)∧(0:Int)≠(2:Int))∧lE' (FnO.s (fnF t n x.12 s)).3∧List.length st.3+List.length (FnO.x (fnF t n x.12 s)).6=List.length (st.3++(FnO.x (fnF t n x.12 s)).6)) (.ret {d:=true,x:= {x with failed:=ilt x.9 (W (x.5+(FnO.x (fnF t n x.12 s)).5)),tries:=W (x.5+(FnO.x (fnF t n x.12 s)).5),at':=0,p:= {now:=(FTS.p x).1,code:=(FTS.p x).2,okk:=(FTS.p x).3,val:=(FTS.p x).4,addr:=(FTS.p x).5,old:=(FTS.p x).6,nxt:=(FTS.p x).7,mark:=(FTS.p x).8,pops:=(FTS.p x).9},fn:=bV,cl:=a9,pr:=bU},st:= {me:=st.1,sp:=st.2,R:=st.3++(FnO.x (fnF t n x.12 s)).6},s:= {t:=(FnO.s (fnF t n x.12 s)).1,n:=(FnO.s (fnF t n x.12 s)).2,xs:=(FnO.s (fnF t n x.12 s)).3,c:=(FnO.s (fnF t n x.12 s)).4,k:=(FnO.s (fnF t n x.12 s)).5,a:=(FnO.s (fnF t n x.12 s)).6,o:=(FnO.s (fnF t n x.12 s)).7,w:=(FnO.s (fnF t n x.12 s)).8,ok:=(FnO.s (fnF t n x.12 s)).9} })) (.pre (vG x.6 x.7 x.8 (FnO.x (fnF t n x.12 s)).1 (FnO.x (fnF t n x.12 s)).2 (FnO.x (fnF t n x.12 s)).3 (FnO.x (fnF t n x.12 s)).4 st.2∧True) (.ite (aO x.6 x.7 x.8 (FnO.x (fnF t n x.12 s)).1 (FnO.x (fnF t n x.12 s)).2 (FnO.x (fnF t n x.12 s)).3 (FnO.x (fnF t n x.12 s)).4 st.2).1 (.pre ((t=t∧n=n)∧(true=false→(0:Int)≠(0:Int)∧(0:Int)≠(1:Int)∧(0:Int)≠(2:Int))∧lE' (FnO.s (fnF t n x.12 s)).3∧List.length st.3+List.length (FnO.x (fnF t n x.12 s)).6=List.length (st.3++(FnO.x (fnF t n x.12 s)).6)) (.ret {d:=true,x:= {x with code:=(aO x.6 x.7 x.8 (FnO.x (fnF t n x.12 s)).1 (FnO.x (fnF t n x.12 s)).2 (FnO.x (fnF t n x.12 s)).3 (FnO.x (fnF t n x.12 s)).4 st.2).2,okk:=(aO x.6 x.7 x.8 (FnO.x (fnF t n x.12 s)).1 (FnO.x (fnF t n x.12 s)).2 (FnO.x (fnF t n x.12 s)).3 (FnO.x (fnF t n x.12 s)).4 st.2).3,val:=(aO x.6 x.7 x.8 (FnO.x (fnF t n x.12 s)).1 (FnO.x (fnF t n x.12 s)).2 (FnO.x (fnF t n x.12 s)).3 (FnO.x (fnF t n x.12 s)).4 st.2).4,failed:=ilt x.9 (W (x.5+(FnO.x (fnF t n x.12 s)).5)),tries:=W (x.5+(FnO.x (fnF t n x.12 s)).5),at':=0,p:= {now:=(aO x.6 x.7 x.8 (FnO.x (fnF t n x.12 s)).1 (FnO.x (fnF t n x.12 s)).2 (FnO.x (fnF t n x.12 s)).3 (FnO.x (fnF t n x.12 s)).4 st.2).1,code:=(aO x.6 x.7 x.8 (FnO.x (fnF t n x.12 s)).1 (FnO.x (fnF t n x.12 s)).2 (FnO.x (fnF t n x.12 s)).3 (FnO.x (fnF t n x.12 s)).4 st.2).2,okk:=(aO x.6 x.7 x.8 (FnO.x (fnF t n x.12 s)).1 (FnO.x (fnF t n x.12 s)).2 (FnO.x (fnF t n x.12 s)).3 (FnO.x (fnF t n x.12 s)).4 st.2).3,val:=(aO x.6 x.7 x.8 (FnO.x (fnF t n x.12 s)).1 (FnO.x (fnF t n x.12 s)).2 (FnO.x (fnF t n x.12 s)).3 (FnO.x (fnF t n x.12 s)).4 st.2).4,addr:=(aO x.6 x.7 x.8 (FnO.x (fnF t n x.12 s)).1 (FnO.x (fnF t n x.12 s)).2 (FnO.x (fnF t n x.12 s)).3 (FnO.x (fnF t n x.12 s)).4 st.2).5,old:=(aO x.6 x.7 x.8 (FnO.x (fnF t n x.12 s)).1 (FnO.x (fnF t n x.12 s)).2 (FnO.x (fnF t n x.12 s)).3 (FnO.x (fnF t n x.12 s)).4 st.2).6,nxt:=(aO x.6 x.7 x.8 (FnO.x (fnF t n x.12 s)).1 (FnO.x (fnF t n x.12 s)).2 (FnO.x (fnF t n x.12 s)).3 (FnO.x (fnF t n x.12 s)).4 st.2).7,mark:=(aO x.6 x.7 x.8 (FnO.x (fnF t n x.12 s)).1 (FnO.x (fnF t n x.12 s)).2 (FnO.x (fnF t n x.12 s)).3 (FnO.x (fnF t n x.12 s)).4 st.2).8,pops:=(aO x.6 x.7 x.8 (FnO.x (fnF t n x.12 s)).1 (FnO.x (fnF t n x.12 s)).2 (FnO.x (fnF t n x.12 s)).3 (FnO.x (fnF t n x.12 s)).4 st.2).9},fn:=bV,cl:=a9,pr:=bU},st:= {me:=st.1,sp:=st.2,R:=st.3++(FnO.x (fnF t n x.12 s)).6},s:= {t:=(FnO.s (fnF t n x.12 s)).1,n:=(FnO.s (fnF t n x.12 s)).2,xs:=(FnO.s (fnF t n x.12 s)).3,c:=(FnO.s (fnF t n x.12 s)).4,k:=(FnO.s (fnF t n x.12 s)).5,a:=(FnO.s (fnF t n x.12 s)).6,o:=(FnO.s (fnF t n x.12 s)).7,w:=(FnO.s (fnF t n x.12 s)).8,ok:=(FnO.s (fnF t n x.12 s)).9} })) (.pre (oD (aO x.6 x.7 x.8 (FnO.x (fnF t n x.12 s)).1 (FnO.x (fnF t n x.12 s)).2 (FnO.x (fnF t n x.12 s)).3 (FnO.x (fnF t n x.12 s)).4 st.2).1 (aO x.6 x.7 x.8 (FnO.x (fnF t n x.12 s)).1 (FnO.x (fnF t n x.12 s)).2 (FnO.x (fnF t n x.12 s)).3 (FnO.x (fnF t n x.12 s)).4 st.2).2 (aO x.6 x.7 x.8 (FnO.x (fnF t n x.12 s)).1 (FnO.x (fnF t n x.12 s)).2 (FnO.x (fnF t n x.12 s)).3 (FnO.x (fnF t n x.12 s)).4 st.2).3 (aO x.6 x.7 x.8 (FnO.x (fnF t n x.12 s)).1 (FnO.x (fnF t n x.12 s)).2 (FnO.x (fnF t n x.12 s)).3 (FnO.x (fnF t n x.12 s)).4 st.2).4 (aO x.6 x.7 x.8 (FnO.x (fnF t n x.12 s)).1 (FnO.x (fnF t n x.12 s)).2 (FnO.x (fnF t n x.12 s)).3 (FnO.x (fnF t n x.12 s)).4 st.2).5 (aO x.6 x.7 x.8 (FnO.x (fnF t n x.12 s)).1 (FnO.x (fnF t n x.12 s)).2 (FnO.x (fnF t n x.12 s)).3 (FnO.x (fnF t n x.12 s)).4 st.2).6 (aO x.6 x.7 x.8 (FnO.x (fnF t n x.12 s)).1 (FnO.x (fnF t n x.12 s)).2 (FnO.x (fnF t n x.12 s)).3 (FnO.x (fnF t n x.12 s)).4 st.2).7 (aO x.6 x.7 x.8 (FnO.x (fnF t n x.12 s)).1 (FnO.x (fnF t n x.12 s)).2 (FnO.x (fnF t n x.12 s)).3 (FnO.x (fnF t n x.12 s)).4 st.2).8 (aO x.6 x.7 x.8 (FnO.x (fnF t n x.12 s)).1 (FnO.x (fnF t n x.12 s)).2 (FnO.x (fnF t n x.12 s)).3 (FnO.x (fnF t n x.12 s)).4 st.2).9) (.ite (fG (aO x.6 x.7 x.8 (FnO.x (fnF t n x.12 s)).1 (FnO.x (fnF t n x.12 s)).2 (FnO.x (fnF t n x.12 s)).3 (FnO.x (fnF t n x.12 s)).4 st.2).1 (aO x.6 x.7 x.8 (FnO.x (fnF t n x.12 s)).1 (FnO.x (fnF t n x.12 s)).2 (FnO.x (fnF t n x.12 s)).3 (FnO.x (fnF t n x.12 s)).4 st.2).2 (aO x.6 x.7 x.8 (FnO.x (fnF t n x.12 s)).1 (FnO.x (fnF t n x.12 s)).2 (FnO.x (fnF t n x.12 s)).3 (FnO.x (fnF t n x.12 s)).4 st.2).3 (aO x.6 x.7 x.8 (FnO.x (fnF t n x.12 s)).1 (FnO.x (fnF t n x.12 s)).2 (FnO.x (fnF t n x.12 s)).3 (FnO.x (fnF t n x.12 s)).4 st.2).4 (aO x.6 x.7 x.8 (FnO.x (fnF t n x.12 s)).1 (FnO.x (fnF t n x.12 s)).2 (FnO.x (fnF t n x.12 s)).3 (FnO.x (fnF t n x.12 s)).4 st.2).5 (aO x.6 x.7 x.8 (FnO.x (fnF t n x.12 s)).1 (FnO.x (fnF t n x.12 s)).2 (FnO.x (fnF t n x.12 s)).3 (FnO.x (fnF t n x.12 s)).4 st.2).6 (aO x.6 x.7 x.8 (FnO.x (fnF t n x.12 s)).1 (FnO.x (fnF t n x.12 s)).2 (FnO.x (fnF t n x.12 s)).3 (FnO.x (fnF t n x.12 s)).4 st.2).7 (aO x.6 x.7 x.8 (FnO.x (fnF t n x.12 s)).1 (FnO.x (fnF t n x.12 s)).2 (FnO.x (fnF t n x.12 s)).3 (FnO.x (fnF t n x.12 s)).4 st.2).8 (aO x.6 x.7 x.8 (FnO.x (fnF t n x.12 s)).1 (FnO.x (fnF t n x.12 s)).2 (FnO.x (fnF t n x.12 s)).3 (FnO.x (fnF t n x.12 s)).4 st.2).9) (.pre (pL t n (aO x.6 x.7 x.8 (FnO.x (fnF t n x.12 s)).1 (FnO.x (fnF t n x.12 s)).2 (FnO.x (fnF t n x.12 s)).3 (FnO.x (fnF t n x.12 s)).4 st.2).5∧True) (.pre ((t=t∧n=n)∧t=t∧n=n∧(false=false→(1:Int)=(1:Int))∧lE' (FnO.s (fnF t n x.12 s)).3∧List.length st.3+List.length (FnO.x (fnF t n x.12 s)).6=List.length (st.3++(FnO.x (fnF t n x.12 s)).6)) (.ret {d:=false,x:= {x with failed:=ilt x.9 (W (x.5+(FnO.x (fnF t n x.12 s)).5)),tries:=W (x.5+(FnO.x (fnF t n x.12 s)).5),at':=1,p:= {now:=(aO x.6 x.7 x.8 (FnO.x (fnF t n x.12 s)).1 (FnO.x (fnF t n x.12 s)).2 (FnO.x (fnF t n x.12 s)).3 (FnO.x (fnF t n x.12 s)).4 st.2).1,code:=(aO x.6 x.7 x.8 (FnO.x (fnF t n x.12 s)).1 (FnO.x (fnF t n x.12 s)).2 (FnO.x (fnF t n x.12 s)).3 (FnO.x (fnF t n x.12 s)).4 st.2).2,okk:=(aO x.6 x.7 x.8 (FnO.x (fnF t n x.12 s)).1 (FnO.x (fnF t n x.12 s)).2 (FnO.x (fnF t n x.12 s)).3 (FnO.x (fnF t n x.12 s)).4 st.2).3,val:=(aO x.6 x.7 x.8 (FnO.x (fnF t n x.12 s)).1 (FnO.x (fnF t n x.12 s)).2 (FnO.x (fnF t n x.12 s)).3 (FnO.x (fnF t n x.12 s)).4 st.2).4,addr:=(aO x.6 x.7 x.8 (FnO.x (fnF t n x.12 s)).1 (FnO.x (fnF t n x.12 s)).2 (FnO.x (fnF t n x.12 s)).3 (FnO.x (fnF t n x.12 s)).4 st.2).5,old:=(aO x.6 x.7 x.8 (FnO.x (fnF t n x.12 s)).1 (FnO.x (fnF t n x.12 s)).2 (FnO.x (fnF t n x.12 s)).3 (FnO.x (fnF t n x.12 s)).4 st.2).6,nxt:=(aO x.6 x.7 x.8 (FnO.x (fnF t n x.12 s)).1 (FnO.x (fnF t n x.12 s)).2 (FnO.x (fnF t n x.12 s)).3 (FnO.x (fnF t n x.12 s)).4 st.2).7,mark:=(aO x.6 x.7 x.8 (FnO.x (fnF t n x.12 s)).1 (FnO.x (fnF t n x.12 s)).2 (FnO.x (fnF t n x.12 s)).3 (FnO.x (fnF t n x.12 s)).4 st.2).8,pops:=(aO x.6 x.7 x.8 (FnO.x (fnF t n x.12 s)).1 (FnO.x (fnF t n x.12 s)).2 (FnO.x (fnF t n x.12 s)).3 (FnO.x (fnF t n x.12 s)).4 st.2).9},fn:=bV,cl:=clNF t n (aO x.6 x.7 x.8 (FnO.x (fnF t n x.12 s)).1 (FnO.x (fnF t n x.12 s)).2 (FnO.x (fnF t n x.12 s)).3 (FnO.x (fnF t n x.12 s)).4 st.2).5,pr:=bU},st:= {me:=st.1,sp:=st.2,R:=st.3++(FnO.x (fnF t n x.12 s)).6},s:= {t:=(FnO.s (fnF t n x.12 s)).1,n:=(FnO.s (fnF t n x.12 s)).2,xs:=(FnO.s (fnF t n x.12 s)).3,c:=(FnO.s (fnF t n x.12 s)).4,k:=(FnO.s (fnF t n x.12 s)).5,a:=(FnO.s (fnF t n x.12 s)).6,o:=(FnO.s (fnF t n x.12 s)).7,w:=(FnO.s (fnF t n x.12 s)).8,ok:=(FnO.s (fnF t n x.12 s)).9} }))) (.pre True (.ite (bL x.7) (.pre ((List.length st.3+List.length (FnO.x (fnF t n x.12 s)).6=List.length (st.3++(FnO.x (fnF t n x.12 s)).6)∧BY t n x.8 (FnO.x (fnF t n x.12 s)).3 {me:=st.1,sp:=st.2,R:=st.3++(FnO.x (fnF t n x.12 s)).6})∧True) (.pre ((t=t∧n=n)∧t=t∧n=n∧(false=false→(2:Int)=(2:Int))∧lE' (FnO.s (fnF t n x.12 s)).3∧lE' (Prod.snd (nD t n x.8 (FnO.x (fnF t n x.12 s)).3 {me:=st.1,sp:=st.2,R:=st.3++(FnO.x (fnF t n x.12 s)).6})).3) (.ret {d:=false,x:= {x with failed:=ilt x.9 (W (x.5+(FnO.x (fnF t n x.12 s)).5)),tries:=W (x.5+(FnO.x (fnF t n x.12 s)).5),at':=2,p:= {now:=(aO x.6 x.7 x.8 (FnO.x (fnF t n x.12 s)).1 (FnO.x (fnF t n x.12 s)).2 (FnO.x (fnF t n x.12 s)).3 (FnO.x (fnF t n x.12 s)).4 st.2).1,code:=(aO x.6 x.7 x.8 (FnO.x (fnF t n x.12 s)).1 (FnO.x (fnF t n x.12 s)).2 (FnO.x (fnF t n x.12 s)).3 (FnO.x (fnF t n x.12 s)).4 st.2).2,okk:=(aO x.6 x.7 x.8 (FnO.x (fnF t n x.12 s)).1 (FnO.x (fnF t n x.12 s)).2 (FnO.x (fnF t n x.12 s)).3 (FnO.x (fnF t n x.12 s)).4 st.2).3,val:=(aO x.6 x.7 x.8 (FnO.x (fnF t n x.12 s)).1 (FnO.x (fnF t n x.12 s)).2 (FnO.x (fnF t n x.12 s)).3 (FnO.x (fnF t n x.12 s)).4 st.2).4,addr:=(aO x.6 x.7 x.8 (FnO.x (fnF t n x.12 s)).1 (FnO.x (fnF t n x.12 s)).2 (FnO.x (fnF t n x.12 s)).3 (FnO.x (fnF t n x.12 s)).4 st.2).5,old:=(aO x.6 x.7 x.8 (FnO.x (fnF t n x.12 s)).1 (FnO.x (fnF t n x.12 s)).2 (FnO.x (fnF t n x.12 s)).3 (FnO.x (fnF t n x.12 s)).4 st.2).6,nxt:=(aO x.6 x.7 x.8 (FnO.x (fnF t n x.12 s)).1 (FnO.x (fnF t n x.12 s)).2 (FnO.x (fnF t n x.12 s)).3 (FnO.x (fnF t n x.12 s)).4 st.2).7,mark:=(aO x.6 x.7 x.8 (FnO.x (fnF t n x.12 s)).1 (FnO.x (fnF t n x.12 s)).2 (FnO.x (fnF t n x.12 s)).3 (FnO.x (fnF t n x.12 s)).4 st.2).8,pops:=(aO x.6 x.7 x.8 (FnO.x (fnF t n x.12 s)).1 (FnO.x (fnF t n x.12 s)).2 (FnO.x (fnF t n x.12 s)).3 (FnO.x (fnF t n x.12 s)).4 st.2).9},fn:=bV,cl:=a9,pr:=(nD t n x.8 (FnO.x (fnF t n x.12 s)).3 {me:=st.1,sp:=st.2,R:=st.3++(FnO.x (fnF t n x.12 s)).6}).1},st:= {me:=(Prod.snd (nD t n x.8 (FnO.x (fnF t n x.12 s)).3 {me:=st.1,sp:=st.2,R:=st.3++(FnO.x (fnF t n x.12 s)).6})).1,sp:=(Prod.snd (nD t n x.8 (FnO.x (fnF t n x.12 s)).3 {me:=st.1,sp:=st.2,R:=st.3++(FnO.x (fnF t n x.12 s)).6})).2,R:=(Prod.snd (nD t n x.8 (FnO.x (fnF t n x.12 s)).3 {me:=st.1,sp:=st.2,R:=st.3++(FnO.x (fnF t n x.12 s)).6})).3},s:= {t:=(FnO.s (fnF t n x.12 s)).1,n:=(FnO.s (fnF t n x.12 s)).2,xs:=(FnO.s (fnF t n x.12 s)).3,c:=(FnO.s (fnF t n x.12 s)).4,k:=(FnO.s (fnF t n x.12 s)).5,a:=(FnO.s (fnF t n x.12 s)).6,o:=(FnO.s (fnF t n x.12 s)).7,w:=(FnO.s (fnF t n x.12 s)).8,ok:=(FnO.s (fnF t n x.12 s)).9} }))) (.pre ((t=t∧n=n)∧(false=false→(3:Int)≠(0:Int)∧(3:Int)≠(1:Int)∧(3:Int)≠(2:Int))∧lE' (FnO.s (fnF t n x.12 s)).3∧List.length st.3+List.length (FnO.x (fnF t n x.12 s)).6=List.length (st.3++(FnO.x (fnF t n x.12 s)).6)) (.ret {d:=false,x:= {x with failed:=ilt x.9 (W (x.5+(FnO.x (fnF t n x.12 s)).5)),tries:=W (x.5+(FnO.x (fnF t n x.12 s)).5),at':=3,p:= {now:=(aO x.6 x.7 x.8 (FnO.x (fnF t n x.12 s)).1 (FnO.x (fnF t n x.12 s)).2 (FnO.x (fnF t n x.12 s)).3 (FnO.x (fnF t n x.12 s)).4 st.2).1,code:=(aO x.6 x.7 x.8 (FnO.x (fnF t n x.12 s)).1 (FnO.x (fnF t n x.12 s)).2 (FnO.x (fnF t n x.12 s)).3 (FnO.x (fnF t n x.12 s)).4 st.2).2,okk:=(aO x.6 x.7 x.8 (FnO.x (fnF t n x.12 s)).1 (FnO.x (fnF t n x.12 s)).2 (FnO.x (fnF t n x.12 s)).3 (FnO.x (fnF t n x.12 s)).4 st.2).3,val:=(aO x.6 x.7 x.8 (FnO.x (fnF t n x.12 s)).1 (FnO.x (fnF t n x.12 s)).2 (FnO.x (fnF t n x.12 s)).3 (FnO.x (fnF t n x.12 s)).4 st.2).4,addr:=(aO x.6 x.7 x.8 (FnO.x (fnF t n x.12 s)).1 (FnO.x (fnF t n x.12 s)).2 (FnO.x (fnF t n x.12 s)).3 (FnO.x (fnF t n x.12 s)).4 st.2).5,old:=(aO x.6 x.7 x.8 (FnO.x (fnF t n x.12 s)).1 (FnO.x (fnF t n x.12 s)).2 (FnO.x (fnF t n x.12 s)).3 (FnO.x (fnF t n x.12 s)).4 st.2).6,nxt:=(aO x.6 x.7 x.8 (FnO.x (fnF t n x.12 s)).1 (FnO.x (fnF t n x.12 s)).2 (FnO.x (fnF t n x.12 s)).3 (FnO.x (fnF t n x.12 s)).4 st.2).7,mark:=(aO x.6 x.7 x.8 (FnO.x (fnF t n x.12 s)).1 (FnO.x (fnF t n x.12 s)).2 (FnO.x (fnF t n x.12 s)).3 (FnO.x (fnF t n x.12 s)).4 st.2).8,pops:=(aO x.6 x.7 x.8 (FnO.x (fnF t n x.12 s)).1 (FnO.x (fnF t n x.12 s)).2 (FnO.x (fnF t n x.12 s)).3 (FnO.x (fnF t n x.12 s)).4 st.2).9},fn:=bV,cl:=a9,pr:=bU},st:= {me:=st.1,sp:=st.2,R:=st.3++(FnO.x (fnF t n x.12 s)).6},s:= {t:=(FnO.s (fnF t n x.12 s)).1,n:=(FnO.s (fnF t n x.12 s)).2,xs:=(FnO.s (fnF t n x.12 s)).3,c:=(FnO.s (fnF t n x.12 s)).4,k:=(FnO.s (fnF t n x.12 s)).5,a:=(FnO.s (fnF t n x.12 s)).6,o:=(FnO.s (fnF t n x.12 s)).7,w:=(FnO.s (fnF t n x.12 s)).8,ok:=(FnO.s (fnF t n x.12 s)).9} })))))))))) (.pre ((t=t∧n=n)∧t=t∧n=n∧(false=false→(0:Int)=(0:Int))∧lE' (FnO.s (fnF t n x.12 s)).3∧lE' st.3) (.ret {d:=false,x:= {x with at':=0,p:= {now:=(FTS.p x).1,code:=(FTS.p x).2,okk:=(FTS.p x).3,val:=(FTS.p x).4,addr:=(FTS.p x).5,old:=(FTS.p x).6,nxt:=(FTS.p x).7,mark:=(FTS.p x).8,pops:=(FTS.p x).9},fn:=(fnF t n x.12 s).2,cl:=a9,pr:=bU},st:= {me:=st.1,sp:=st.2,R:=st.3},s:= {t:=(FnO.s (fnF t n x.12 s)).1,n:=(FnO.s (fnF t n x.12 s)).2,xs:=(FnO.s (fnF t n x.12 s)).3,c:=(FnO.s (fnF t n x.12 s)).4,k:=(FnO.s (fnF t n x.12 s)).5,a:=(FnO.s (fnF t n x.12 s)).6,o:=(FnO.s (fnF t n x.12 s)).7,w:=(FnO.s (fnF t n x.12 s)).8,ok:=(FnO.s (fnF t n x.12 s)).9} }))))) (.pre (lE' s.3∧KF t n x.12 s) (.ite (fnF t n x.12 s).1 (.pre ((lE' st.3∧lE' (FnO.x (fnF t n x.12 s)).6∧List.length st.3+List.length (FnO.x (fnF t n x.12 s)).6≤(4294967296:Nat))∧True) (.ite (ilt x.9 (W (x.5+(FnO.x (fnF t n x.12 s)).5))) (.pre ((t=t∧n=n)∧(true=false→(0:Int)≠(0:Int)∧(0:Int)≠(1:Int)∧(0:Int)≠(2:Int))∧lE' (FnO.s (fnF t n x.12 s)).3∧List.length st.3+List.length (FnO.x (fnF t n x.12 s)).6=List.length (st.3++(FnO.x (fnF t n x.12 s)).6)) (.ret {d:=true,x:= {x with failed:=ilt x.9 (W (x.5+(FnO.x (fnF t n x.12 s)).5)),tries:=W (x.5+(FnO.x (fnF t n x.12 s)).5),at':=0,p:= {now:=(FTS.p x).1,code:=(FTS.p x).2,okk:=(FTS.p x).3,val:=(FTS.p x).4,addr:=(FTS.p x).5,old:=(FTS.p x).6,nxt:=(FTS.p x).7,mark:=(FTS.p x).8,pops:=(FTS.p x).9},fn:=bV,cl:=a9,pr:=bU},st:= {me:=st.1,sp:=st.2,R:=st.3++(FnO.x (fnF t n x.12 s)).6},s:= {t:=(FnO.s (fnF t n x.12 s)).1,n:=(FnO.s (fnF t n x.12 s)).2,xs:=(FnO.s (fnF t n x.12 s)).3,c:=(FnO.s (fnF t n x.12 s)).4,k:=(FnO.s (fnF t n x.12 s)).5,a:=(FnO.s (fnF t n x.12 s)).6,o:=(FnO.s (fnF t n x.12 s)).7,w:=(FnO.s (fnF t n x.12 s)).8,ok:=(FnO.s (fnF t n x.12 s)).9} })) (.pre (vG x.6 x.7 x.8 (FnO.x (fnF t n x.12 s)).1 (FnO.x (fnF t n x.12 s)).2 (FnO.x (fnF t n x.12 s)).3 (FnO.x (fnF t n x.12 s)).4 st.2∧True) (.ite (aO x.6 x.7 x.8 (FnO.x (fnF t n x.12 s)).1 (FnO.x (fnF t n x.12 s)).2 (FnO.x (fnF t n x.12 s)).3 (FnO.x (fnF t n x.12 s)).4 st.2).1 (.pre ((t=t∧n=n)∧(true=false→(0:Int)≠(0:Int)∧(0:Int)≠(1:Int)∧(0:Int)≠(2:Int))∧lE' (FnO.s (fnF t n x.12 s)).3∧List.length st.3+List.length (FnO.x (fnF t n x.12 s)).6=List.length (st.3++(FnO.x (fnF t n x.12 s)).6)) (.ret {d:=true,x:= {x with code:=(aO x.6 x.7 x.8 (FnO.x (fnF t n x.12 s)).1 (FnO.x (fnF t n x.12 s)).2 (FnO.x (fnF t n x.12 s)).3 (FnO.x (fnF t n x.12 s)).4 st.2).2,okk:=(aO x.6 x.7 x.8 (FnO.x (fnF t n x.12 s)).1 (FnO.x (fnF t n x.12 s)).2 (FnO.x (fnF t n x.12 s)).3 (FnO.x (fnF t n x.12 s)).4 st.2).3,val:=(aO x.6 x.7 x.8 (FnO.x (fnF t n x.12 s)).1 (FnO.x (fnF t n x.12 s)).2 (FnO.x (fnF t n x.12 s)).3 (FnO.x (fnF t n x.12 s)).4 st.2).4,failed:=ilt x.9 (W (x.5+(FnO.x (fnF t n x.12 s)).5)),tries:=W (x.5+(FnO.x (fnF t n x.12 s)).5),at':=0,p:= {now:=(aO x.6 x.7 x.8 (FnO.x (fnF t n x.12 s)).1 (FnO.x (fnF t n x.12 s)).2 (FnO.x (fnF t n x.12 s)).3 (FnO.x (fnF t n x.12 s)).4 st.2).1,code:=(aO x.6 x.7 x.8 (FnO.x (fnF t n x.12 s)).1 (FnO.x (fnF t n x.12 s)).2 (FnO.x (fnF t n x.12 s)).3 (FnO.x (fnF t n x.12 s)).4 st.2).2,okk:=(aO x.6 x.7 x.8 (FnO.x (fnF t n x.12 s)).1 (FnO.x (fnF t n x.12 s)).2 (FnO.x (fnF t n x.12 s)).3 (FnO.x (fnF t n x.12 s)).4 st.2).3,val:=(aO x.6 x.7 x.8 (FnO.x (fnF t n x.12 s)).1 (FnO.x (fnF t n x.12 s)).2 (FnO.x (fnF t n x.12 s)).3 (FnO.x (fnF t n x.12 s)).4 st.2).4,addr:=(aO x.6 x.7 x.8 (FnO.x (fnF t n x.12 s)).1 (FnO.x (fnF t n x.12 s)).2 (FnO.x (fnF t n x.12 s)).3 (FnO.x (fnF t n x.12 s)).4 st.2).5,old:=(aO x.6 x.7 x.8 (FnO.x (fnF t n x.12 s)).1 (FnO.x (fnF t n x.12 s)).2 (FnO.x (fnF t n x.12 s)).3 (FnO.x (fnF t n x.12 s)).4 st.2).6,nxt:=(aO x.6 x.7 x.8 (FnO.x (fnF t n x.12 s)).1 (FnO.x (fnF t n x.12 s)).2 (FnO.x (fnF t n x.12 s)).3 (FnO.x (fnF t n x.12 s)).4 st.2).7,mark:=(aO x.6 x.7 x.8 (FnO.x (fnF t n x.12 s)).1 (FnO.x (fnF t n x.12 s)).2 (FnO.x (fnF t n x.12 s)).3 (FnO.x (fnF t n x.12 s)).4 st.2).8,pops:=(aO x.6 x.7 x.8 (FnO.x (fnF t n x.12 s)).1 (FnO.x (fnF t n x.12 s)).2 (FnO.x (fnF t n x.12 s)).3 (FnO.x (fnF t n x.12 s)).4 st.2).9},fn:=bV,cl:=a9,pr:=bU},st:= {me:=st.1,sp:=st.2,R:=st.3++(FnO.x (fnF t n x.12 s)).6},s:= {t:=(FnO.s (fnF t n x.12 s)).1,n:=(FnO.s (fnF t n x.12 s)).2,xs:=(FnO.s (fnF t n x.12 s)).3,c:=(FnO.s (fnF t n x.12 s)).4,k:=(FnO.s (fnF t n x.12 s)).5,a:=(FnO.s (fnF t n x.12 s)).6,o:=(FnO.s (fnF t n x.12 s)).7,w:=(FnO.s (fnF t n x.12 s)).8,ok:=(FnO.s (fnF t n x.12 s)).9} })) (.pre (oD (aO x.6 x.7 x.8 (FnO.x (fnF t n x.12 s)).1 (FnO.x (fnF t n x.12 s)).2 (FnO.x (fnF t n x.12 s)).3 (FnO.x (fnF t n x.12 s)).4 st.2).1 (aO x.6 x.7 x.8 (FnO.x (fnF t n x.12 s)).1 (FnO.x (fnF t n x.12 s)).2 (FnO.x (fnF t n x.12 s)).3 (FnO.x (fnF t n x.12 s)).4 st.2).2 (aO x.6 x.7 x.8 (FnO.x (fnF t n x.12 s)).1 (FnO.x (fnF t n x.12 s)).2 (FnO.x (fnF t n x.12 s)).3 (FnO.x (fnF t n x.12 s)).4 st.2).3 (aO x.6 x.7 x.8 (FnO.x (fnF t n x.12 s)).1 (FnO.x (fnF t n x.12 s)).2 (FnO.x (fnF t n x.12 s)).3 (FnO.x (fnF t n x.12 s)).4 st.2).4 (aO x.6 x.7 x.8 (FnO.x (fnF t n x.12 s)).1 (FnO.x (fnF t n x.12 s)).2 (FnO.x (fnF t n x.12 s)).3 (FnO.x (fnF t n x.12 s)).4 st.2).5 (aO x.6 x.7 x.8 (FnO.x (fnF t n x.12 s)).1 (FnO.x (fnF t n x.12 s)).2 (FnO.x (fnF t n x.12 s)).3 (FnO.x (fnF t n x.12 s)).4 st.2).6 (aO x.6 x.7 x.8 (FnO.x (fnF t n x.12 s)).1 (FnO.x (fnF t n x.12 s)).2 (FnO.x (fnF t n x.12 s)).3 (FnO.x (fnF t n x.12 s)).4 st.2).7 (aO x.6 x.7 x.8 (FnO.x (fnF t n x.12 s)).1 (FnO.x (fnF t n x.12 s)).2 (FnO.x (fnF t n x.12 s)).3 (FnO.x (fnF t n x.12 s)).4 st.2).8 (aO x.6 x.7 x.8 (FnO.x (fnF t n x.12 s)).1 (FnO.x (fnF t n x.12 s)).2 (FnO.x (fnF t n x.12 s)).3 (FnO.x (fnF t n x.12 s)).4 st.2).9) (.ite (fG (aO x.6 x.7 x.8 (FnO.x (fnF t n x.12 s)).1 (FnO.x (fnF t n x.12 s)).2 (FnO.x (fnF t n x.12 s)).3 (FnO.x (fnF t n x.12 s)).4 st.2).1 (aO x.6 x.7 x.8 (FnO.x (fnF t n x.12 s)).1 (FnO.x (fnF t n x.12 s)).2 (FnO.x (fnF t n x.12 s)).3 (FnO.x (fnF t n x.12 s)).4 st.2).2 (aO x.6 x.7 x.8 (FnO.x (fnF t n x.12 s)).1 (FnO.x (fnF t n x.12 s)).2 (FnO.x (fnF t n x.12 s)).3 (FnO.x (fnF t n x.12 s)).4 st.2).3 (aO x.6 x.7 x.8 (FnO.x (fnF t n x.12 s)).1 (FnO.x (fnF t n x.12 s)).2 (FnO.x (fnF t n x.12 s)).3 (FnO.x (fnF t n x.12 s)).4 st.2).4 (aO x.6 x.7 x.8 (FnO.x (fnF t n x.12 s)).1 (FnO.x (fnF t n x.12 s)).2 (FnO.x (fnF t n x.12 s)).3 (FnO.x (fnF t n x.12 s)).4 st.2).5 (aO x.6 x.7 x.8 (FnO.x (fnF t n x.12 s)).1 (FnO.x (fnF t n x.12 s)).2 (FnO.x (fnF t n x.12 s)).3 (FnO.x (fnF t n x.12 s)).4 st.2).6 (aO x.6 x.7 x.8 (FnO.x (fnF t n x.12 s)).1 (FnO.x (fnF t n x.12 s)).2 (FnO.x (fnF t n x.12 s)).3 (FnO.x (fnF t n x.12 s)).4 st.2).7 (aO x.6 x.7 x.8 (FnO.x (fnF t n x.12 s)).1 (FnO.x (fnF t n x.12 s)).2 (FnO.x (fnF t n x.12 s)).3 (FnO.x (fnF t n x.12 s)).4 st.2).8 (aO x.6 x.7 x.8 (FnO.x (fnF t n x.12 s)).1 (FnO.x (fnF t n x.12 s)).2 (FnO.x (fnF t n x.12 s)).3 (FnO.x (fnF t n x.12 s)).4 st.2).9) (.pre (pL t n (aO x.6 x.7 x.8 (FnO.x (fnF t n x.12 s)).1 (FnO.x (fnF t n x.12 s)).2 (FnO.x (fnF t n x.12 s)).3 (FnO.x (fnF t n x.12 s)).4 st.2).5∧True) (.pre ((t=t∧n=n)∧t=t∧n=n∧(false=false→(1:Int)=(1:Int))∧lE' (FnO.s (fnF t n x.12 s)).3∧List.length st.3+List.length (FnO.x (fnF t n x.12 s)).6=List.length (st.3++(FnO.x (fnF t n x.12 s)).6)) (.ret {d:=false,x:= {x with failed:=ilt x.9 (W (x.5+(FnO.x (fnF t n x.12 s)).5)),tries:=W (x.5+(FnO.x (fnF t n x.12 s)).5),at':=1,p:= {now:=(aO x.6 x.7 x.8 (FnO.x (fnF t n x.12 s)).1 (FnO.x (fnF t n x.12 s)).2 (FnO.x (fnF t n x.12 s)).3 (FnO.x (fnF t n x.12 s)).4 st.2).1,code:=(aO x.6 x.7 x.8 (FnO.x (fnF t n x.12 s)).1 (FnO.x (fnF t n x.12 s)).2 (FnO.x (fnF t n x.12 s)).3 (FnO.x (fnF t n x.12 s)).4 st.2).2,okk:=(aO x.6 x.7 x.8 (FnO.x (fnF t n x.12 s)).1 (FnO.x (fnF t n x.12 s)).2 (FnO.x (fnF t n x.12 s)).3 (FnO.x (fnF t n x.12 s)).4 st.2).3,val:=(aO x.6 x.7 x.8 (FnO.x (fnF t n x.12 s)).1 (FnO.x (fnF t n x.12 s)).2 (FnO.x (fnF t n x.12 s)).3 (FnO.x (fnF t n x.12 s)).4 st.2).4,addr:=(aO x.6 x.7 x.8 (FnO.x (fnF t n x.12 s)).1 (FnO.x (fnF t n x.12 s)).2 (FnO.x (fnF t n x.12 s)).3 (FnO.x (fnF t n x.12 s)).4 st.2).5,old:=(aO x.6 x.7 x.8 (FnO.x (fnF t n x.12 s)).1 (FnO.x (fnF t n x.12 s)).2 (FnO.x (fnF t n x.12 s)).3 (FnO.x (fnF t n x.12 s)).4 st.2).6,nxt:=(aO x.6 x.7 x.8 (FnO.x (fnF t n x.12 s)).1 (FnO.x (fnF t n x.12 s)).2 (FnO.x (fnF t n x.12 s)).3 (FnO.x (fnF t n x.12 s)).4 st.2).7,mark:=(aO x.6 x.7 x.8 (FnO.x (fnF t n x.12 s)).1 (FnO.x (fnF t n x.12 s)).2 (FnO.x (fnF t n x.12 s)).3 (FnO.x (fnF t n x.12 s)).4 st.2).8,pops:=(aO x.6 x.7 x.8 (FnO.x (fnF t n x.12 s)).1 (FnO.x (fnF t n x.12 s)).2 (FnO.x (fnF t n x.12 s)).3 (FnO.x (fnF t n x.12 s)).4 st.2).9},fn:=bV,cl:=clNF t n (aO x.6 x.7 x.8 (FnO.x (fnF t n x.12 s)).1 (FnO.x (fnF t n x.12 s)).2 (FnO.x (fnF t n x.12 s)).3 (FnO.x (fnF t n x.12 s)).4 st.2).5,pr:=bU},st:= {me:=st.1,sp:=st.2,R:=st.3++(FnO.x (fnF t n x.12 s)).6},s:= {t:=(FnO.s (fnF t n x.12 s)).1,n:=(FnO.s (fnF t n x.12 s)).2,xs:=(FnO.s (fnF t n x.12 s)).3,c:=(FnO.s (fnF t n x.12 s)).4,k:=(FnO.s (fnF t n x.12 s)).5,a:=(FnO.s (fnF t n x.12 s)).6,o:=(FnO.s (fnF t n x.12 s)).7,w:=(FnO.s (fnF t n x.12 s)).8,ok:=(FnO.s (fnF t n x.12 s)).9} }))) (.pre True (.ite (bL x.7) (.pre ((List.length st.3+List.length (FnO.x (fnF t n x.12 s)).6=List.length (st.3++(FnO.x (fnF t n x.12 s)).6)∧BY t n x.8 (FnO.x (fnF t n x.12 s)).3 {me:=st.1,sp:=st.2,R:=st.3++(FnO.x (fnF t n x.12 s)).6})∧True) (.pre ((t=t∧n=n)∧t=t∧n=n∧(false=false→(2:Int)=(2:Int))∧lE' (FnO.s (fnF t n x.12 s)).3∧lE' (Prod.snd (nD t n x.8 (FnO.x (fnF t n x.12 s)).3 {me:=st.1,sp:=st.2,R:=st.3++(FnO.x (fnF t n x.12 s)).6})).3) (.ret {d:=false,x:= {x with failed:=ilt x.9 (W (x.5+(FnO.x (fnF t n x.12 s)).5)),tries:=W (x.5+(FnO.x (fnF t n x.12 s)).5),at':=2,p:= {now:=(aO x.6 x.7 x.8 (FnO.x (fnF t n x.12 s)).1 (FnO.x (fnF t n x.12 s)).2 (FnO.x (fnF t n x.12 s)).3 (FnO.x (fnF t n x.12 s)).4 st.2).1,code:=(aO x.6 x.7 x.8 (FnO.x (fnF t n x.12 s)).1 (FnO.x (fnF t n x.12 s)).2 (FnO.x (fnF t n x.12 s)).3 (FnO.x (fnF t n x.12 s)).4 st.2).2,okk:=(aO x.6 x.7 x.8 (FnO.x (fnF t n x.12 s)).1 (FnO.x (fnF t n x.12 s)).2 (FnO.x (fnF t n x.12 s)).3 (FnO.x (fnF t n x.12 s)).4 st.2).3,val:=(aO x.6 x.7 x.8 (FnO.x (fnF t n x.12 s)).1 (FnO.x (fnF t n x.12 s)).2 (FnO.x (fnF t n x.12 s)).3 (FnO.x (fnF t n x.12 s)).4 st.2).4,addr:=(aO x.6 x.7 x.8 (FnO.x (fnF t n x.12 s)).1 (FnO.x (fnF t n x.12 s)).2 (FnO.x (fnF t n x.12 s)).3 (FnO.x (fnF t n x.12 s)).4 st.2).5,old:=(aO x.6 x.7 x.8 (FnO.x (fnF t n x.12 s)).1 (FnO.x (fnF t n x.12 s)).2 (FnO.x (fnF t n x.12 s)).3 (FnO.x (fnF t n x.12 s)).4 st.2).6,nxt:=(aO x.6 x.7 x.8 (FnO.x (fnF t n x.12 s)).1 (FnO.x (fnF t n x.12 s)).2 (FnO.x (fnF t n x.12 s)).3 (FnO.x (fnF t n x.12 s)).4 st.2).7,mark:=(aO x.6 x.7 x.8 (FnO.x (fnF t n x.12 s)).1 (FnO.x (fnF t n x.12 s)).2 (FnO.x (fnF t n x.12 s)).3 (FnO.x (fnF t n x.12 s)).4 st.2).8,pops:=(aO x.6 x.7 x.8 (FnO.x (fnF t n x.12 s)).1 (FnO.x (fnF t n x.12 s)).2 (FnO.x (fnF t n x.12 s)).3 (FnO.x (fnF t n x.12 s)).4 st.2).9},fn:=bV,cl:=a9,pr:=(nD t n x.8 (FnO.x (fnF t n x.12 s)).3 {me:=st.1,sp:=st.2,R:=st.3++(FnO.x (fnF t n x.12 s)).6}).1},st:= {me:=(Prod.snd (nD t n x.8 (FnO.x (fnF t n x.12 s)).3 {me:=st.1,sp:=st.2,R:=st.3++(FnO.x (fnF t n x.12 s)).6})).1,sp:=(Prod.snd (nD t n x.8 (FnO.x (fnF t n x.12 s)).3 {me:=st.1,sp:=st.2,R:=st.3++(FnO.x (fnF t n x.12 s)).6})).2,R:=(Prod.snd (nD t n x.8 (FnO.x (fnF t n x.12 s)).3 {me:=st.1,sp:=st.2,R:=st.3++(FnO.x (fnF t n x.12 s)).6})).3},s:= {t:=(FnO.s (fnF t n x.12 s)).1,n:=(FnO.s (fnF t n x.12 s)).2,xs:=(FnO.s (fnF t n x.12 s)).3,c:=(FnO.s (fnF t n x.12 s)).4,k:=(FnO.s (fnF t n x.12 s)).5,a:=(FnO.s (fnF t n x.12 s)).6,o:=(FnO.s (fnF t n x.12 s)).7,w:=(FnO.s (fnF t n x.12 s)).8,ok:=(FnO.s (fnF t n x.12 s)).9} }))) (.pre ((t=t∧n=n)∧(false=false→(3:Int)≠(0:Int)∧(3:Int)≠(1:Int)∧(3:Int)≠(2:Int))∧lE' (FnO.s (fnF t n x.12 s)).3∧List.length st.3+List.length (FnO.x (fnF t n x.12 s)).6=List.length (st.3++(FnO.x (fnF t n x.12 s)).6)) (.ret {d:=false,x:= {x with failed:=ilt x.9 (W (x.5+(FnO.x (fnF t n x.12 s)).5)),tries:=W (x.5+(FnO.x (fnF t n x.12 s)).5),at':=3,p:= {now:=(aO x.6 x.7 x.8 (FnO.x (fnF t n x.12 s)).1 (FnO.x (fnF t n x.12 s)).2 (FnO.x (fnF t n x.12 s)).3 (FnO.x (fnF t n x.12 s)).4 st.2).1,code:=(aO x.6 x.7 x.8 (FnO.x (fnF t n x.12 s)).1 (FnO.x (fnF t n x.12 s)).2 (FnO.x (fnF t n x.12 s)).3 (FnO.x (fnF t n x.12 s)).4 st.2).2,okk:=(aO x.6 x.7 x.8 (FnO.x (fnF t n x.12 s)).1 (FnO.x (fnF t n x.12 s)).2 (FnO.x (fnF t n x.12 s)).3 (FnO.x (fnF t n x.12 s)).4 st.2).3,val:=(aO x.6 x.7 x.8 (FnO.x (fnF t n x.12 s)).1 (FnO.x (fnF t n x.12 s)).2 (FnO.x (fnF t n x.12 s)).3 (FnO.x (fnF t n x.12 s)).4 st.2).4,addr:=(aO x.6 x.7 x.8 (FnO.x (fnF t n x.12 s)).1 (FnO.x (fnF t n x.12 s)).2 (FnO.x (fnF t n x.12 s)).3 (FnO.x (fnF t n x.12 s)).4 st.2).5,old:=(aO x.6 x.7 x.8 (FnO.x (fnF t n x.12 s)).1 (FnO.x (fnF t n x.12 s)).2 (FnO.x (fnF t n x.12 s)).3 (FnO.x (fnF t n x.12 s)).4 st.2).6,nxt:=(aO x.6 x.7 x.8 (FnO.x (fnF t n x.12 s)).1 (FnO.x (fnF t n x.12 s)).2 (FnO.x (fnF t n x.12 s)).3 (FnO.x (fnF t n x.12 s)).4 st.2).7,mark:=(aO x.6 x.7 x.8 (FnO.x (fnF t n x.12 s)).1 (FnO.x (fnF t n x.12 s)).2 (FnO.x (fnF t n x.12 s)).3 (FnO.x (fnF t n x.12 s)).4 st.2).8,pops:=(aO x.6 x.7 x.8 (FnO.x (fnF t n x.12 s)).1 (FnO.x (fnF t n x.12 s)).2 (FnO.x (fnF t n x.12 s)).3 (FnO.x (fnF t n x.12 s)).4 st.2).9},fn:=bV,cl:=a9,pr:=bU},st:= {me:=st.1,sp:=st.2,R:=st.3++(FnO.x (fnF t n x.12 s)).6},s:= {t:=(FnO.s (fnF t n x.12 s)).1,n:=(FnO.s (fnF t n x.12 s)).2,xs:=(FnO.s (fnF t n x.12 s)).3,c:=(FnO.s (fnF t n x.12 s)).4,k:=(FnO.s (fnF t n x.12 s)).5,a:=(FnO.s (fnF t n x.12 s)).6,o:=(FnO.s (fnF t n x.12 s)).7,w:=(FnO.s (fnF t n x.12 s)).8,ok:=(FnO.s (fnF t n x.12 s)).9} })))))))))) (.pre ((t=t∧n=n)∧t=t∧n=n∧(false=false→(0:Int)=(0:Int))∧lE' (FnO.s (fnF t n x.12 s)).3∧lE' st.3) (.ret {d:=false,x:= {x with at':=0,p:= {now:=(FTS.p x).1,code:=(FTS.p x).2,okk:=(FTS.p x).3,val:=(FTS.p x).4,addr:=(FTS.p x).5,old:=(FTS.p x).6,nxt:=(FTS.p x).7,mark:=(FTS.p x).8,pops:=(FTS.p x).9},fn:=(fnF t n x.12 s).2,cl:=a9,pr:=bU},st:= {me:=st.1,sp:=st.2,R:=st.3},s:= {t:=(FnO.s (fnF t n x.12 s)).1,n:=(FnO.s (fnF t n x.12 s)).2,xs:=(FnO.s (fnF t n x.12 s)).3,c:=(FnO.s (fnF t n x.12 s)).4,k:=(FnO.s (fnF t n x.12 s)).5,a:=(FnO.s (fnF t n x.12 s)).6,o:=(FnO.s (fnF t n x.12 s)).7,w:=(FnO.s (fnF t n x.12 s)).8,ok:=(FnO.s (fnF t n x.12 s)).9} })))))))
theorem C5(t n:Int)(x:FTS)(st:STS)(s:MS)(K:FtO→Prop)(h:(iG t n x st s).run K):cT' 39 [.ptr 0 0,.ptr 2 0] [some (.cells [.ptr 1 0,.int .i64 x.code,.bool x.okk,.int .i64 x.val,.bool x.failed,.int .i64 x.tries,.int .i64 x.sh,.int .i64 x.kd,.int .i64 x.ky,.int .i64 x.most,.int .i64 0,.bool x.p.now,.int .i64 x.p.code,.bool x.p.okk,.int .i64 x.p.val,.int .i64 x.p.addr,.int .u64 x.p.old,.int .i64 x.p.nxt,.bool x.p.mark,.int .i64 x.p.pops,.ptr 4 0,.O,.O]),stC 5 t n st,bH 3 s,bI s,some (.abs (.find t n x.fn) []),mF st] (dX 4 0 [20,21,22] [(.cell 1 4,.ints (some .i64))] (I7 t n) K):=by
 exact cM' (E:=ER) (by kernel_rfl) h
def jP(t n:Int)(x:FTS)(st:STS)(s:MS):Tr FtO:=.pre (lE' s.3∧JJ t n x.13 s) (.ite (clF t n x.13 s).1 (.ite (ilt x.9 (W (x.5+1))) (.pre ((t=t∧n=n)∧(true=false→(1:Int)≠(0:Int)∧(1:Int)≠(1:Int)∧(1:Int)≠(2:Int))∧lE' (ClO.s (clF t n x.13 s)).3∧lE' st.3) (.ret {d:=true,x:= {x with failed:=ilt x.9 (W (x.5+1)),tries:=W (x.5+1),at':=1,p:= {now:=(FTS.p x).1,code:=(FTS.p x).2,okk:=(FTS.p x).3,val:=(FTS.p x).4,addr:=(FTS.p x).5,old:=(FTS.p x).6,nxt:=(FTS.p x).7,mark:=(FTS.p x).8,pops:=(FTS.p x).9},fn:=bV,cl:=a9,pr:=bU},st:= {me:=st.1,sp:=st.2,R:=st.3},s:= {t:=(ClO.s (clF t n x.13 s)).1,n:=(ClO.s (clF t n x.13 s)).2,xs:=(ClO.s (clF t n x.13 s)).3,c:=(ClO.s (clF t n x.13 s)).4,k:=(ClO.s (clF t n x.13 s)).5,a:=(ClO.s (clF t n x.13 s)).6,o:=(ClO.s (clF t n x.13 s)).7,w:=(ClO.s (clF t n x.13 s)).8,ok:=(ClO.s (clF t n x.13 s)).9} })) (.pre True (.pre (wX t n st.1 (cR x.6 x.8) (fA x.6 x.7 x.8) (W (x.9 - W (x.5+1)))∧True) (.pre ((t=t∧n=n)∧t=t∧n=n∧(false=false→(0:Int)=(0:Int))∧lE' (ClO.s (clF t n x.13 s)).3∧lE' st.3) (.ret {d:=false,x:= {x with failed:=ilt x.9 (W (x.5+1)),tries:=W (x.5+1),at':=0,p:= {now:=(FTS.p x).1,code:=(FTS.p x).2,okk:=(FTS.p x).3,val:=(FTS.p x).4,addr:=(FTS.p x).5,old:=(FTS.p x).6,nxt:=(FTS.p x).7,mark:=(FTS.p x).8,pops:=(FTS.p x).9},fn:=mE t n st.1 (cR x.6 x.8) (fA x.6 x.7 x.8) (W (x.9 - W (x.5+1))),cl:=a9,pr:=bU},st:= {me:=st.1,sp:=st.2,R:=st.3},s:= {t:=(ClO.s (clF t n x.13 s)).1,n:=(ClO.s (clF t n x.13 s)).2,xs:=(ClO.s (clF t n x.13 s)).3,c:=(ClO.s (clF t n x.13 s)).4,k:=(ClO.s (clF t n x.13 s)).5,a:=(ClO.s (clF t n x.13 s)).6,o:=(ClO.s (clF t n x.13 s)).7,w:=(ClO.s (clF t n x.13 s)).8,ok:=(ClO.s (clF t n x.13 s)).9} }))))) (.pre ((t=t∧n=n)∧t=t∧n=n∧(false=false→(1:Int)=(1:Int))∧lE' (ClO.s (clF t n x.13 s)).3∧lE' st.3) (.ret {d:=false,x:= {x with at':=1,p:= {now:=(FTS.p x).1,code:=(FTS.p x).2,okk:=(FTS.p x).3,val:=(FTS.p x).4,addr:=(FTS.p x).5,old:=(FTS.p x).6,nxt:=(FTS.p x).7,mark:=(FTS.p x).8,pops:=(FTS.p x).9},fn:=bV,cl:=(clF t n x.13 s).2,pr:=bU},st:= {me:=st.1,sp:=st.2,R:=st.3},s:= {t:=(ClO.s (clF t n x.13 s)).1,n:=(ClO.s (clF t n x.13 s)).2,xs:=(ClO.s (clF t n x.13 s)).3,c:=(ClO.s (clF t n x.13 s)).4,k:=(ClO.s (clF t n x.13 s)).5,a:=(ClO.s (clF t n x.13 s)).6,o:=(ClO.s (clF t n x.13 s)).7,w:=(ClO.s (clF t n x.13 s)).8,ok:=(ClO.s (clF t n x.13 s)).9} })))
theorem C6(t n:Int)(x:FTS)(st:STS)(s:MS)(K:FtO→Prop)(h:(jP t n x st s).run K):cT' 39 [.ptr 0 0,.ptr 2 0] [some (.cells [.ptr 1 0,.int .i64 x.code,.bool x.okk,.int .i64 x.val,.bool x.failed,.int .i64 x.tries,.int .i64 x.sh,.int .i64 x.kd,.int .i64 x.ky,.int .i64 x.most,.int .i64 1,.bool x.p.now,.int .i64 x.p.code,.bool x.p.okk,.int .i64 x.p.val,.int .i64 x.p.addr,.int .u64 x.p.old,.int .i64 x.p.nxt,.bool x.p.mark,.int .i64 x.p.pops,.O,.ptr 4 0,.O]),stC 5 t n st,bH 3 s,bI s,some (.abs (.clear t n x.cl) []),mF st] (dX 4 0 [20,21,22] [(.cell 1 4,.ints (some .i64))] (I7 t n) K):=by
 exact cM' (E:=ER) (by kernel_rfl) h
def lI(t n:Int)(x:FTS)(st:STS)(s:MS):Tr FtO:=.pre ((lE' s.3∧lE' st.3∧t=t∧n=n)∧LQ t n x.14 st s) (.ite (prF t n x.14 st s).1 (.pre ((t=t∧n=n)∧(false=false→(3:Int)≠(0:Int)∧(3:Int)≠(1:Int)∧(3:Int)≠(2:Int))∧lE' (PrO.s (prF t n x.14 st s)).3∧lE' (PrO.st (prF t n x.14 st s)).3) (.ret {d:=false,x:= {x with at':=3,p:= {now:=(FTS.p x).1,code:=(FTS.p x).2,okk:=(FTS.p x).3,val:=(FTS.p x).4,addr:=(FTS.p x).5,old:=(FTS.p x).6,nxt:=(FTS.p x).7,mark:=(FTS.p x).8,pops:=(FTS.p x).9},fn:=bV,cl:=a9,pr:=bU},st:= {me:=(PrO.st (prF t n x.14 st s)).1,sp:=(PrO.st (prF t n x.14 st s)).2,R:=(PrO.st (prF t n x.14 st s)).3},s:= {t:=(PrO.s (prF t n x.14 st s)).1,n:=(PrO.s (prF t n x.14 st s)).2,xs:=(PrO.s (prF t n x.14 st s)).3,c:=(PrO.s (prF t n x.14 st s)).4,k:=(PrO.s (prF t n x.14 st s)).5,a:=(PrO.s (prF t n x.14 st s)).6,o:=(PrO.s (prF t n x.14 st s)).7,w:=(PrO.s (prF t n x.14 st s)).8,ok:=(PrO.s (prF t n x.14 st s)).9} })) (.pre ((t=t∧n=n)∧t=t∧n=n∧(false=false→(2:Int)=(2:Int))∧lE' (PrO.s (prF t n x.14 st s)).3∧lE' (PrO.st (prF t n x.14 st s)).3) (.ret {d:=false,x:= {x with at':=2,p:= {now:=(FTS.p x).1,code:=(FTS.p x).2,okk:=(FTS.p x).3,val:=(FTS.p x).4,addr:=(FTS.p x).5,old:=(FTS.p x).6,nxt:=(FTS.p x).7,mark:=(FTS.p x).8,pops:=(FTS.p x).9},fn:=bV,cl:=a9,pr:=(prF t n x.14 st s).2},st:= {me:=(PrO.st (prF t n x.14 st s)).1,sp:=(PrO.st (prF t n x.14 st s)).2,R:=(PrO.st (prF t n x.14 st s)).3},s:= {t:=(PrO.s (prF t n x.14 st s)).1,n:=(PrO.s (prF t n x.14 st s)).2,xs:=(PrO.s (prF t n x.14 st s)).3,c:=(PrO.s (prF t n x.14 st s)).4,k:=(PrO.s (prF t n x.14 st s)).5,a:=(PrO.s (prF t n x.14 st s)).6,o:=(PrO.s (prF t n x.14 st s)).7,w:=(PrO.s (prF t n x.14 st s)).8,ok:=(PrO.s (prF t n x.14 st s)).9} })))
theorem C7(t n:Int)(x:FTS)(st:STS)(s:MS)(K:FtO→Prop)(h:(lI t n x st s).run K):cT' 39 [.ptr 0 0,.ptr 2 0] [some (.cells [.ptr 1 0,.int .i64 x.code,.bool x.okk,.int .i64 x.val,.bool x.failed,.int .i64 x.tries,.int .i64 x.sh,.int .i64 x.kd,.int .i64 x.ky,.int .i64 x.most,.int .i64 2,.bool x.p.now,.int .i64 x.p.code,.bool x.p.okk,.int .i64 x.p.val,.int .i64 x.p.addr,.int .u64 x.p.old,.int .i64 x.p.nxt,.bool x.p.mark,.int .i64 x.p.pops,.O,.O,.ptr 4 0]),stC 5 t n st,bH 3 s,bI s,some (.abs (.prepare t n x.pr) [1]),mF st] (dX 4 0 [20,21,22] [(.cell 1 4,.ints (some .i64))] (I7 t n) K):=by
 exact cM' (E:=ER) (by kernel_rfl) h
def jQ(t n:Int)(x:FTS)(st:STS)(s:MS):Tr FtO:=.pre (vH (FTS.p x).1 (FTS.p x).2 (FTS.p x).3 (FTS.p x).4 (FTS.p x).5 (FTS.p x).6 (FTS.p x).7 (FTS.p x).8 (FTS.p x).9∧True) (.pre ((lE' s.3∧(0:Int)≤s.4∧s.4≤(4611686018427387904:Int))∧True) (.ite (!aV s.3 (FTS.p x).5 (FTS.p x).6) (.ite (ilt x.9 (W (x.5+1))) (.pre ((t=t∧n=n)∧(true=false→(3:Int)≠(0:Int)∧(3:Int)≠(1:Int)∧(3:Int)≠(2:Int))∧lE' (bif aV s.3 (FTS.p x).5 (FTS.p x).6 then aZ s.3 (FTS.p x).5 (bA (FTS.p x).1 (FTS.p x).2 (FTS.p x).3 (FTS.p x).4 (FTS.p x).5 (FTS.p x).6 (FTS.p x).7 (FTS.p x).8 (FTS.p x).9)else s.3)∧lE' st.3) (.ret {d:=true,x:= {x with failed:=ilt x.9 (W (x.5+1)),tries:=W (x.5+1),at':=3,p:= {now:=(FTS.p x).1,code:=(FTS.p x).2,okk:=(FTS.p x).3,val:=(FTS.p x).4,addr:=(FTS.p x).5,old:=(FTS.p x).6,nxt:=(FTS.p x).7,mark:=(FTS.p x).8,pops:=(FTS.p x).9},fn:=bV,cl:=a9,pr:=bU},st:= {me:=st.1,sp:=st.2,R:=st.3},s:= {t:=s.1,n:=s.2,xs:=bif aV s.3 (FTS.p x).5 (FTS.p x).6 then aZ s.3 (FTS.p x).5 (bA (FTS.p x).1 (FTS.p x).2 (FTS.p x).3 (FTS.p x).4 (FTS.p x).5 (FTS.p x).6 (FTS.p x).7 (FTS.p x).8 (FTS.p x).9)else s.3,c:=s.4+1,k:=3,a:=(FTS.p x).5,o:=aD s.3 (FTS.p x).5,w:=bif bW s.3 (FTS.p x).5 then bA (FTS.p x).1 (FTS.p x).2 (FTS.p x).3 (FTS.p x).4 (FTS.p x).5 (FTS.p x).6 (FTS.p x).7 (FTS.p x).8 (FTS.p x).9 else 0,ok:=aV s.3 (FTS.p x).5 (FTS.p x).6} })) (.pre True (.pre (wX t n st.1 (cR x.6 x.8) (fA x.6 x.7 x.8) (W (x.9 - W (x.5+1)))∧True) (.pre ((t=t∧n=n)∧t=t∧n=n∧(false=false→(0:Int)=(0:Int))∧lE' (bif aV s.3 (FTS.p x).5 (FTS.p x).6 then aZ s.3 (FTS.p x).5 (bA (FTS.p x).1 (FTS.p x).2 (FTS.p x).3 (FTS.p x).4 (FTS.p x).5 (FTS.p x).6 (FTS.p x).7 (FTS.p x).8 (FTS.p x).9)else s.3)∧lE' st.3) (.ret {d:=false,x:= {x with failed:=ilt x.9 (W (x.5+1)),tries:=W (x.5+1),at':=0,p:= {now:=(FTS.p x).1,code:=(FTS.p x).2,okk:=(FTS.p x).3,val:=(FTS.p x).4,addr:=(FTS.p x).5,old:=(FTS.p x).6,nxt:=(FTS.p x).7,mark:=(FTS.p x).8,pops:=(FTS.p x).9},fn:=mE t n st.1 (cR x.6 x.8) (fA x.6 x.7 x.8) (W (x.9 - W (x.5+1))),cl:=a9,pr:=bU},st:= {me:=st.1,sp:=st.2,R:=st.3},s:= {t:=s.1,n:=s.2,xs:=bif aV s.3 (FTS.p x).5 (FTS.p x).6 then aZ s.3 (FTS.p x).5 (bA (FTS.p x).1 (FTS.p x).2 (FTS.p x).3 (FTS.p x).4 (FTS.p x).5 (FTS.p x).6 (FTS.p x).7 (FTS.p x).8 (FTS.p x).9)else s.3,c:=s.4+1,k:=3,a:=(FTS.p x).5,o:=aD s.3 (FTS.p x).5,w:=bif bW s.3 (FTS.p x).5 then bA (FTS.p x).1 (FTS.p x).2 (FTS.p x).3 (FTS.p x).4 (FTS.p x).5 (FTS.p x).6 (FTS.p x).7 (FTS.p x).8 (FTS.p x).9 else 0,ok:=aV s.3 (FTS.p x).5 (FTS.p x).6} }))))) (.pre True (.ite (bL x.7) (.ite (!ieq (FTS.p x).9 0) (.pre ((lE' st.3∧1=1∧List.length st.3+(1:Nat)≤(4294967296:Nat))∧True) (.pre ((t=t∧n=n)∧(true=false→(3:Int)≠(0:Int)∧(3:Int)≠(1:Int)∧(3:Int)≠(2:Int))∧lE' (bif aV s.3 (FTS.p x).5 (FTS.p x).6 then aZ s.3 (FTS.p x).5 (bA (FTS.p x).1 (FTS.p x).2 (FTS.p x).3 (FTS.p x).4 (FTS.p x).5 (FTS.p x).6 (FTS.p x).7 (FTS.p x).8 (FTS.p x).9)else s.3)∧List.length st.3+(1:Nat)=List.length (st.3++ [(FTS.p x).9])) (.ret {d:=true,x:= {x with code:=(FTS.p x).2,okk:=(FTS.p x).3,val:=(FTS.p x).4,at':=3,p:= {now:=(FTS.p x).1,code:=(FTS.p x).2,okk:=(FTS.p x).3,val:=(FTS.p x).4,addr:=(FTS.p x).5,old:=(FTS.p x).6,nxt:=(FTS.p x).7,mark:=(FTS.p x).8,pops:=(FTS.p x).9},fn:=bV,cl:=a9,pr:=bU},st:= {me:=st.1,sp:=0,R:=st.3++ [(FTS.p x).9] },s:= {t:=s.1,n:=s.2,xs:=bif aV s.3 (FTS.p x).5 (FTS.p x).6 then aZ s.3 (FTS.p x).5 (bA (FTS.p x).1 (FTS.p x).2 (FTS.p x).3 (FTS.p x).4 (FTS.p x).5 (FTS.p x).6 (FTS.p x).7 (FTS.p x).8 (FTS.p x).9)else s.3,c:=s.4+1,k:=3,a:=(FTS.p x).5,o:=aD s.3 (FTS.p x).5,w:=bif bW s.3 (FTS.p x).5 then bA (FTS.p x).1 (FTS.p x).2 (FTS.p x).3 (FTS.p x).4 (FTS.p x).5 (FTS.p x).6 (FTS.p x).7 (FTS.p x).8 (FTS.p x).9 else 0,ok:=aV s.3 (FTS.p x).5 (FTS.p x).6} }))) (.pre ((t=t∧n=n)∧(true=false→(3:Int)≠(0:Int)∧(3:Int)≠(1:Int)∧(3:Int)≠(2:Int))∧lE' (bif aV s.3 (FTS.p x).5 (FTS.p x).6 then aZ s.3 (FTS.p x).5 (bA (FTS.p x).1 (FTS.p x).2 (FTS.p x).3 (FTS.p x).4 (FTS.p x).5 (FTS.p x).6 (FTS.p x).7 (FTS.p x).8 (FTS.p x).9)else s.3)∧lE' st.3) (.ret {d:=true,x:= {x with code:=(FTS.p x).2,okk:=(FTS.p x).3,val:=(FTS.p x).4,at':=3,p:= {now:=(FTS.p x).1,code:=(FTS.p x).2,okk:=(FTS.p x).3,val:=(FTS.p x).4,addr:=(FTS.p x).5,old:=(FTS.p x).6,nxt:=(FTS.p x).7,mark:=(FTS.p x).8,pops:=(FTS.p x).9},fn:=bV,cl:=a9,pr:=bU},st:= {me:=st.1,sp:=0,R:=st.3},s:= {t:=s.1,n:=s.2,xs:=bif aV s.3 (FTS.p x).5 (FTS.p x).6 then aZ s.3 (FTS.p x).5 (bA (FTS.p x).1 (FTS.p x).2 (FTS.p x).3 (FTS.p x).4 (FTS.p x).5 (FTS.p x).6 (FTS.p x).7 (FTS.p x).8 (FTS.p x).9)else s.3,c:=s.4+1,k:=3,a:=(FTS.p x).5,o:=aD s.3 (FTS.p x).5,w:=bif bW s.3 (FTS.p x).5 then bA (FTS.p x).1 (FTS.p x).2 (FTS.p x).3 (FTS.p x).4 (FTS.p x).5 (FTS.p x).6 (FTS.p x).7 (FTS.p x).8 (FTS.p x).9 else 0,ok:=aV s.3 (FTS.p x).5 (FTS.p x).6} }))) (.ite (!ieq (FTS.p x).9 0) (.pre ((lE' st.3∧1=1∧List.length st.3+(1:Nat)≤(4294967296:Nat))∧True) (.pre ((t=t∧n=n)∧(true=false→(3:Int)≠(0:Int)∧(3:Int)≠(1:Int)∧(3:Int)≠(2:Int))∧lE' (bif aV s.3 (FTS.p x).5 (FTS.p x).6 then aZ s.3 (FTS.p x).5 (bA (FTS.p x).1 (FTS.p x).2 (FTS.p x).3 (FTS.p x).4 (FTS.p x).5 (FTS.p x).6 (FTS.p x).7 (FTS.p x).8 (FTS.p x).9)else s.3)∧List.length st.3+(1:Nat)=List.length (st.3++ [(FTS.p x).9])) (.ret {d:=true,x:= {x with code:=(FTS.p x).2,okk:=(FTS.p x).3,val:=(FTS.p x).4,at':=3,p:= {now:=(FTS.p x).1,code:=(FTS.p x).2,okk:=(FTS.p x).3,val:=(FTS.p x).4,addr:=(FTS.p x).5,old:=(FTS.p x).6,nxt:=(FTS.p x).7,mark:=(FTS.p x).8,pops:=(FTS.p x).9},fn:=bV,cl:=a9,pr:=bU},st:= {me:=st.1,sp:=st.2,R:=st.3++ [(FTS.p x).9] },s:= {t:=s.1,n:=s.2,xs:=bif aV s.3 (FTS.p x).5 (FTS.p x).6 then aZ s.3 (FTS.p x).5 (bA (FTS.p x).1 (FTS.p x).2 (FTS.p x).3 (FTS.p x).4 (FTS.p x).5 (FTS.p x).6 (FTS.p x).7 (FTS.p x).8 (FTS.p x).9)else s.3,c:=s.4+1,k:=3,a:=(FTS.p x).5,o:=aD s.3 (FTS.p x).5,w:=bif bW s.3 (FTS.p x).5 then bA (FTS.p x).1 (FTS.p x).2 (FTS.p x).3 (FTS.p x).4 (FTS.p x).5 (FTS.p x).6 (FTS.p x).7 (FTS.p x).8 (FTS.p x).9 else 0,ok:=aV s.3 (FTS.p x).5 (FTS.p x).6} }))) (.pre ((t=t∧n=n)∧(true=false→(3:Int)≠(0:Int)∧(3:Int)≠(1:Int)∧(3:Int)≠(2:Int))∧lE' (bif aV s.3 (FTS.p x).5 (FTS.p x).6 then aZ s.3 (FTS.p x).5 (bA (FTS.p x).1 (FTS.p x).2 (FTS.p x).3 (FTS.p x).4 (FTS.p x).5 (FTS.p x).6 (FTS.p x).7 (FTS.p x).8 (FTS.p x).9)else s.3)∧lE' st.3) (.ret {d:=true,x:= {x with code:=(FTS.p x).2,okk:=(FTS.p x).3,val:=(FTS.p x).4,at':=3,p:= {now:=(FTS.p x).1,code:=(FTS.p x).2,okk:=(FTS.p x).3,val:=(FTS.p x).4,addr:=(FTS.p x).5,old:=(FTS.p x).6,nxt:=(FTS.p x).7,mark:=(FTS.p x).8,pops:=(FTS.p x).9},fn:=bV,cl:=a9,pr:=bU},st:= {me:=st.1,sp:=st.2,R:=st.3},s:= {t:=s.1,n:=s.2,xs:=bif aV s.3 (FTS.p x).5 (FTS.p x).6 then aZ s.3 (FTS.p x).5 (bA (FTS.p x).1 (FTS.p x).2 (FTS.p x).3 (FTS.p x).4 (FTS.p x).5 (FTS.p x).6 (FTS.p x).7 (FTS.p x).8 (FTS.p x).9)else s.3,c:=s.4+1,k:=3,a:=(FTS.p x).5,o:=aD s.3 (FTS.p x).5,w:=bif bW s.3 (FTS.p x).5 then bA (FTS.p x).1 (FTS.p x).2 (FTS.p x).3 (FTS.p x).4 (FTS.p x).5 (FTS.p x).6 (FTS.p x).7 (FTS.p x).8 (FTS.p x).9 else 0,ok:=aV s.3 (FTS.p x).5 (FTS.p x).6} })))))))
theorem C8(t n:Int)(x:FTS)(st:STS)(s:MS)(K:FtO→Prop)(h:(jQ t n x st s).run K):cT' 39 [.ptr 0 0,.ptr 2 0] [some (.cells [.ptr 1 0,.int .i64 x.code,.bool x.okk,.int .i64 x.val,.bool x.failed,.int .i64 x.tries,.int .i64 x.sh,.int .i64 x.kd,.int .i64 x.ky,.int .i64 x.most,.int .i64 3,.bool x.p.now,.int .i64 x.p.code,.bool x.p.okk,.int .i64 x.p.val,.int .i64 x.p.addr,.int .u64 x.p.old,.int .i64 x.p.nxt,.bool x.p.mark,.int .i64 x.p.pops,.O,.O,.O]),stC 4 t n st,bH 3 s,bI s,mF st] (dX 4 0 [20,21,22] [(.cell 1 4,.ints (some .i64))] (I7 t n) K):=by
 exact cM' (E:=ER) (by kernel_rfl) h
def u9(t n:Int)(x:FTS)(st:STS)(s:MS):Tr FtO:=
 bif ieq x.at' 0 then iG t n x st s else
 bif ieq x.at' 1 then jP t n x st s else
 bif ieq x.at' 2 then lI t n x st s else
 bif ieq x.at' 3 then jQ t n x st s else .pre False (.ret default)
def ftF(t n:Int)(x:FTS)(st:STS)(s:MS):FtO:=(u9 t n x st s).val
def ftOk(t n:Int)(x:FTS)(st:STS)(s:MS):Prop:=(u9 t n x st s).ok
theorem BS(t n:Int)(x:FTS)(st:STS)(s:MS)(K:AVal→aB Ob→Prop)(h:(u9 t n x st s).run (fun y=>(FtO.fin t n y).run K)):cT' 39 [.ptr 0 0,.ptr 2 0] (I6 t n x st s) K:=by
 unfold u9 at h
 by_cases e:x.at'=0
 ·rw [e]at h
  have h:(iG t n x st s).run _:=h
  refine V9 (root:=0) (pos:=[20,21,22]) (cs:=[(.cell 1 4,.ints (some .i64))]) (parse:=I7 t n) (fin:=FtO.fin t n) u7 ((cQ.unpack (.fast t n x) 0 1 (jL t n x) [1] rfl (congrArg (Prod.mk 1) (u4 e)) (by kernel_rfl) rfl).trans (cQ.unpack (.store t n st) 1 0 (jD t n st) [] rfl rfl rfl rfl)) ?_
  have q:=C5 t n x st s _ h
  rw [←e]at q
  exact q
 rw [eZ e]at h
 by_cases e:x.at'=1
 ·rw [e]at h
  have h:(jP t n x st s).run _:=h
  refine V9 (root:=0) (pos:=[20,21,22]) (cs:=[(.cell 1 4,.ints (some .i64))]) (parse:=I7 t n) (fin:=FtO.fin t n) u7 ((cQ.unpack (.fast t n x) 0 1 (lC t n x) [1] rfl (congrArg (Prod.mk 1) (BI e)) (by kernel_rfl) rfl).trans (cQ.unpack (.store t n st) 1 0 (jD t n st) [] rfl rfl rfl rfl)) ?_
  have q:=C6 t n x st s _ h
  rw [←e]at q
  exact q
 rw [eZ e]at h
 by_cases e:x.at'=2
 ·rw [e]at h
  have h:(lI t n x st s).run _:=h
  refine V9 (root:=0) (pos:=[20,21,22]) (cs:=[(.cell 1 4,.ints (some .i64))]) (parse:=I7 t n) (fin:=FtO.fin t n) u7 ((cQ.unpack (.fast t n x) 0 1 (lD t n x) [1] rfl (congrArg (Prod.mk 1) (BJ e)) (by kernel_rfl) rfl).trans (cQ.unpack (.store t n st) 1 0 (jD t n st) [] rfl rfl rfl rfl)) ?_
  have q:=C7 t n x st s _ h
  rw [←e]at q
  exact q
 rw [eZ e]at h
 by_cases e:x.at'=3
 ·rw [e]at h
  have h:(jQ t n x st s).run _:=h
  refine V9 (root:=0) (pos:=[20,21,22]) (cs:=[(.cell 1 4,.ints (some .i64))]) (parse:=I7 t n) (fin:=FtO.fin t n) u7 ((cQ.unpack (.fast t n x) 0 1 (rB t n x) [1] rfl (congrArg (Prod.mk 1) (wU ⟨(by omega),(by omega),(by omega)⟩)) (by kernel_rfl) rfl).trans (cQ.unpack (.store t n st) 1 0 (jD t n st) [] rfl rfl rfl rfl)) ?_
  have q:=C8 t n x st s _ h
  rw [←e]at q
  exact q
 rw [eZ e]at h
 exact h.1.elim
noncomputable def ftSA:aL Ob:=fun args h=>match args,h with
 | [.ptr 0 0,.ptr 2 0],[some (.abs (.fast t n x) [1]),some (.abs (.store t2 n2 st) []),e3,e4]=>(match fB 3 [e3,e4]with
   | some (l,s)=>some (.pre ((l=s.xs.length∧t2=t∧n2=n)∧ftOk t n x st s) (FtO.fin t n (ftF t n x st s)))
   | none=>none)
 | _,_=>none
theorem PJ:sT' 39 ftSA:=by
 intro args h o ho K hK
 unfold ftSA at ho
 split at ho
 case h_2=>cases ho
 split at ho<;>cases ho
 rename_i hm
 obtain⟨⟨⟨hl,rfl,rfl⟩,ok⟩,hK⟩:=hK
 have hh:=cC hm hl
 cases hh
 exact BS _ _ _ _ _ K (WB ok hK)
def FtO.finB(t n:Int)(y:FtO):Out Ob:=.ite y.d (.ret (.bool true) ([some (.cells [.ptr 1 0,.int .i64 y.x.code,.bool y.x.okk,.int .i64 y.x.val,.bool y.x.failed,.int .i64 y.x.tries,.int .i64 y.x.sh,.int .i64 y.x.kd,.int .i64 y.x.ky,.int .i64 y.x.most,.int .i64 y.x.at',.bool y.x.p.now,.int .i64 y.x.p.code,.bool y.x.p.okk,.int .i64 y.x.p.val,.int .i64 y.x.p.addr,.int .u64 y.x.p.old,.int .i64 y.x.p.nxt,.bool y.x.p.mark,.int .i64 y.x.p.pops,.O,.O,.O]),stC 5 t n y.st,none,bH 4 y.s,bI y.s,mF y.st])) (.ret (.bool false) [some (.abs (.fast t n y.x) [1]),stC 5 t n y.st,none,bH 4 y.s,bI y.s,mF y.st])
noncomputable def ftSB:aL Ob:=fun args h=>match args,h with
 | [.ptr 0 0,.ptr 3 0],[some (.abs (.fast t n x) [1]),e1,e2,e3,e4]=>(match sJ 2 [e1,e2],fB 4 [e3,e4]with
   | some (l2,t2,n2,st),some (l,s)=>some (.pre ((l=s.xs.length∧l2=st.R.length∧t2=t∧n2=n)∧ftOk t n x st s) (FtO.finB t n (ftF t n x st s)))
   | _,_=>none)
 | _,_=>none
theorem PK:sT' 39 ftSB:=by
 intro args h o ho K hK
 unfold ftSB at ho
 split at ho
 case h_2=>cases ho
 split at ho<;>cases ho
 rename_i hs hm
 obtain⟨⟨⟨hl,hl2,rfl,rfl⟩,ok⟩,hK⟩:=hK
 have hh:=cC hm hl
 cases hh
 have hh:=dF hs hl2
 cases hh
 exact mA (fun ι hι=>by simp [aI.ren,V5,AVal.ren,hι]) (fun ι hι=>by simp [aI.ren,hι]) (fun K hK=>BS _ _ _ _ _ K (WB ok hK)) K hK
noncomputable def ftS:aL Ob:=aL.or ftSA ftSB
theorem R9:sT' 39 ftS:=WT PJ PK
def PD(t n:Int)(v:AVal)(g:aB Ob):Option (Prop×(FTS×STS)):=match v,g with
 | .ptr 2 0,[e1,e2,some (.cells [.ptr 0 0,.int .i64 code,.bool okk,.int .i64 val,.bool failed,.int .i64 tries,.int .i64 sh,.int .i64 kd,.int .i64 ky,.int .i64 most,.int .i64 at',.bool p_now,.int .i64 p_code,.bool p_okk,.int .i64 p_val,.int .i64 p_addr,.int .u64 p_old,.int .i64 p_nxt,.bool p_mark,.int .i64 p_pops,.ptr 3 0,.O,.O]),some (.abs (.find t' n' sub) [])]=>(match sJ 1 [e1,e2]with
   | some (l2,t2,n2,st)=>some ((t2=t∧n2=n∧l2=st.R.length)∧t'=t∧n'=n∧at'=0,⟨(⟨code,okk,val,failed,tries,sh,kd,ky,most,at',⟨p_now,p_code,p_okk,p_val,p_addr,p_old,p_nxt,p_mark,p_pops⟩,sub,⟨0,0,0,0⟩,⟨0,0,0,false⟩⟩:FTS),st⟩)
   | none=>none)
 | _,_=>none
abbrev KL(t n:Int)(y:(FTS×STS)):aB Ob:=[stC 1 t n y.2,mF y.2,some (.abs (.fast t n y.1) [0])]
theorem KM{t n:Int} :dB (obI tbl) 2 (PD t n) (fun y=>.ret (.ptr 2 0) (KL t n y)):=by
 intro v g p x hp hq K hK
 unfold PD at hp
 split at hp
 case h_2=>cases hp
 rename_i e1 e2 code okk val failed tries sh kd ky most at' p_now p_code p_okk p_val p_addr p_old p_nxt p_mark p_pops t' n' sub
 split at hp
 case h_2=>cases hp
 rename_i l2 t2 n2 st hs
 simp only [sI',pI']at hp
 obtain⟨rfl,rfl⟩:=hp
 obtain⟨⟨rfl,rfl,hl2⟩,rfl,rfl,hat⟩:=hq
 have hh:=dF hs hl2
 cases hh
 exact⟨⟨_,_,aQ.pack (KL t' n' ((⟨code,okk,val,failed,tries,sh,kd,ky,most,at',⟨p_now,p_code,p_okk,p_val,p_addr,p_old,p_nxt,p_mark,p_pops⟩,sub,⟨0,0,0,0⟩,⟨0,0,0,false⟩⟩:FTS),st)) (.fast t' n' (⟨code,okk,val,failed,tries,sh,kd,ky,most,at',⟨p_now,p_code,p_okk,p_val,p_addr,p_old,p_nxt,p_mark,p_pops⟩,sub,⟨0,0,0,0⟩,⟨0,0,0,false⟩⟩:FTS)) 2 1 (jL t' n' (⟨code,okk,val,failed,tries,sh,kd,ky,most,at',⟨p_now,p_code,p_okk,p_val,p_addr,p_old,p_nxt,p_mark,p_pops⟩,sub,⟨0,0,0,0⟩,⟨0,0,0,false⟩⟩:FTS)) [0] (by kernel_rfl) rfl (congrArg (Prod.mk 1) (u4 hat)) (by kernel_rfl),hK⟩⟩
def GL(t n:Int)(sh kd ky most:Int)(st:STS):Tr (FTS×STS):=.pre True (.pre (wX t n st.1 (cR sh ky) (fA sh kd ky) (W (most - 0))∧True) (.pre ((t=t∧n=n∧lE' st.3)∧t=t∧n=n∧(0:Int)=(0:Int)) (.ret ({code:=0,okk:=false,val:=0,failed:=false,tries:=0,sh:=sh,kd:=kd,ky:=ky,most:=most,at':=0,p:=JR,fn:=mE t n st.1 (cR sh ky) (fA sh kd ky) (W (most - 0)),cl:=a9,pr:=bU},{me:=st.1,sp:=st.2,R:=st.3}))))
def bG(t n:Int)(sh kd ky most:Int)(st:STS):(FTS×STS):=(GL t n sh kd ky most st).val
def nT(t n:Int)(sh kd ky most:Int)(st:STS):Prop:=(GL t n sh kd ky most st).ok
def ftNS:aL Ob:=fun args h=>match args,h with
 | [.ptr 0 0,.agg [.int .i64 sh,.int .i64 kd,.int .i64 ky],.int .i64 most],[e1,e2]=>(match sJ 1 [e1,e2]with
   | some (l2,t,n,st)=>some (.pre (l2=st.R.length∧nT t n sh kd ky most st) (.ret (.ptr 2 0) (KL t n (bG t n sh kd ky most st))))
   | none=>none)
 | _,_=>none
theorem zX:sT' 18 ftNS:=by
 intro args h o ho K hK
 unfold ftNS at ho
 split at ho
 case h_2=>cases ho
 rename_i sh kd ky most e1 e2
 split at ho<;>cases ho
 rename_i l2 t n st hs
 obtain⟨⟨hl2,ok⟩,hK⟩:=hK
 have hh:=dF hs hl2
 cases hh
 refine WI (root:=2) (pos:=[20,21,22]) (cs:=[]) (parse:=PD t n) KM ?_
 exact cM' (E:=ER) (q:=(GL t n sh kd ky most st).run (fun y=>(Out.ret (.ptr 2 0) (KL t n y)).run K)) (by kernel_rfl) (WB ok hK)
noncomputable def ET:=((ER.addS 39 ftS R9).addS 18 ftNS zX)
noncomputable def EH0:=ET
structure HpO where
 d:Bool
 x:HPS
 st:STS
 s:MS
instance:Inhabited HpO:=⟨⟨false,RH,⟨0,0,[]⟩,⟨0,0,[],0,0,0,0,0,false⟩⟩⟩
instance:Inhabited HPS:=⟨RH⟩
abbrev VN(t n:Int)(x:HPS)(st:STS)(s:MS):aB Ob:=[some (.abs (.help t n x) [1]),some (.abs (.store t n st) []),bH 3 s,bI s]
abbrev VM(t n:Int)(x:HPS)(st:STS)(s:MS):aB Ob:=[some (.cells [.ptr 1 0,.int .i64 x.u,.int .u64 x.no,.int .i64 x.rounds,.int .i64 x.limit,.int .i64 x.at',.int .u64 x.found,.int .i64 x.sh,.int .i64 x.kd,.int .i64 x.ky,.bool x.p.now,.int .i64 x.p.code,.bool x.p.okk,.int .i64 x.p.val,.int .i64 x.p.addr,.int .u64 x.p.old,.int .i64 x.p.nxt,.bool x.p.mark,.int .i64 x.p.pops,.O,.O,.O,.O,.O]),some (.abs (.store t n st) []),bH 3 s,bI s]
def HpO.fin(t n:Int)(y:HpO):Out Ob:=.ite y.d (.ret (.bool true) (VM t n y.x y.st y.s)) (.ret (.bool false) (VN t n y.x y.st y.s))
def HpO.finB(t n:Int)(y:HpO):Out Ob:=.ite y.d (.ret (.bool true) ([some (.cells [.ptr 1 0,.int .i64 y.x.u,.int .u64 y.x.no,.int .i64 y.x.rounds,.int .i64 y.x.limit,.int .i64 y.x.at',.int .u64 y.x.found,.int .i64 y.x.sh,.int .i64 y.x.kd,.int .i64 y.x.ky,.bool y.x.p.now,.int .i64 y.x.p.code,.bool y.x.p.okk,.int .i64 y.x.p.val,.int .i64 y.x.p.addr,.int .u64 y.x.p.old,.int .i64 y.x.p.nxt,.bool y.x.p.mark,.int .i64 y.x.p.pops,.O,.O,.O,.O,.O]),stC 5 t n y.st,none,bH 4 y.s,bI y.s,mF y.st])) (.ret (.bool false) [some (.abs (.help t n y.x) [1]),stC 5 t n y.st,none,bH 4 y.s,bI y.s,mF y.st])
noncomputable def EH:=((EH0))
structure DqO where
 d:Bool
 x:DOS
 st:STS
 s:MS
instance:Inhabited DqO:=⟨⟨false,RE,⟨0,0,[]⟩,⟨0,0,[],0,0,0,0,0,false⟩⟩⟩
instance:Inhabited DOS:=⟨RE⟩
abbrev U1(t n:Int)(x:DOS)(st:STS)(s:MS):aB Ob:=[some (.abs (.doer t n x) [1]),some (.abs (.store t n st) []),bH 3 s,bI s]
abbrev U0(t n:Int)(x:DOS)(st:STS)(s:MS):aB Ob:=[some (.cells [.ptr 1 0,.int .i64 x.code,.bool x.okk,.int .i64 x.val,.bool x.slow,.int .i64 x.sh,.int .i64 x.kd,.int .i64 x.ky,.int .i64 x.limit,.int .i64 x.at',.O,.O,.O,.O,.O,.O,.O,.O,.O]),some (.abs (.store t n st) []),bH 3 s,bI s]
def DqO.fin(t n:Int)(y:DqO):Out Ob:=.ite y.d (.ret (.bool true) (U0 t n y.x y.st y.s)) (.ret (.bool false) (U1 t n y.x y.st y.s))
def DqO.finB(t n:Int)(y:DqO):Out Ob:=.ite y.d (.ret (.bool true) ([some (.cells [.ptr 1 0,.int .i64 y.x.code,.bool y.x.okk,.int .i64 y.x.val,.bool y.x.slow,.int .i64 y.x.sh,.int .i64 y.x.kd,.int .i64 y.x.ky,.int .i64 y.x.limit,.int .i64 y.x.at',.O,.O,.O,.O,.O,.O,.O,.O,.O]),stC 5 t n y.st,none,bH 4 y.s,bI y.s,mF y.st])) (.ret (.bool false) [some (.abs (.doer t n y.x) [1]),stC 5 t n y.st,none,bH 4 y.s,bI y.s,mF y.st])
noncomputable def ED:=((EH))
instance:Inhabited MS:=⟨⟨0,0,[],0,0,0,0,0,false⟩⟩
instance:Inhabited STS:=⟨⟨0,0,[]⟩⟩
def cH(t n:Int):Nat→FTS→STS→MS→Nat×Bool×FTS×STS×MS
 | 0,x,st,s=>(0,false,x,st,s)
 | f+1,x,st,s=>bif (ftF t n x st s).d then(1,true,(ftF t n x st s).x,(ftF t n x st s).st,(ftF t n x st s).s)else
   ((cH t n f (ftF t n x st s).x (ftF t n x st s).st (ftF t n x st s).s).1+1,(cH t n f (ftF t n x st s).x (ftF t n x st s).st (ftF t n x st s).s).2)
def l9(t n:Int):Nat→FTS→STS→MS→Prop
 | 0,_,_,_=>True
 | f+1,x,st,s=>ftOk t n x st s∧((ftF t n x st s).d =false→l9 t n f (ftF t n x st s).x (ftF t n x st s).st (ftF t n x st s).s)
theorem KU(t n:Int)(x:FTS)(st:STS)(s:MS):cH t n 0 x st s=(0,false,x,st,s):=rfl
theorem KV(t n:Int)(f:Nat)(x:FTS)(st:STS)(s:MS):cH t n (f+1) x st s=bif (ftF t n x st s).d then(1,true,(ftF t n x st s).x,(ftF t n x st s).st,(ftF t n x st s).s)else((cH t n f (ftF t n x st s).x (ftF t n x st s).st (ftF t n x st s).s).1+1,(cH t n f (ftF t n x st s).x (ftF t n x st s).st (ftF t n x st s).s).2):=rfl
theorem C3(t n:Int)(f:Nat)(x:FTS)(st:STS)(s:MS):l9 t n (f+1) x st s=(ftOk t n x st s∧((ftF t n x st s).d =false→l9 t n f (ftF t n x st s).x (ftF t n x st s).st (ftF t n x st s).s)):=rfl
structure RZ (t n:Int) (N:Nat) (x0:FTS) (st0:STS) (s0:MS) (x:Nat×FTS×STS×MS):Prop where
 hk:x.1≤N
 ok:l9 t n (N - x.1) x.2.1 x.2.2.1 x.2.2.2
 eq:cH t n N x0 st0 s0=((cH t n (N - x.1) x.2.1 x.2.2.1 x.2.2.2).1+x.1,(cH t n (N - x.1) x.2.1 x.2.2.1 x.2.2.2).2)
structure R8 (t n:Int) (N:Nat) (x0:FTS) (st0:STS) (s0:MS) (x:Nat×FTS×STS×MS):Prop where
 hk:x.1≤N
 eq:cH t n N x0 st0 s0=(x.1,true,x.2)
def rG(t n:Int)(N:Nat)(most:Int)(x0:FTS)(st0:STS)(s0:MS):Hint Ob:= {X:=Nat×FTS×STS×MS,st:=fun x=>([.ptr 0 0,.int .i64 most,.O,.O,.O,.O,.O,.O,.int .i64 (x.1:Int),.O,.iface 35 (.ptr 3 0),.bool false,.O,.int .i64 1,.int .i64 0]++List.replicate 16 .O,[bH 1 x.2.2.2,bI x.2.2.2,some (.cells [.iface 35 (.ptr 3 0)]),some (.abs (.fast t n x.2.1) [4]),some (.abs (.store t n x.2.2.1) [])]),ok:=RZ t n N x0 st0 s0,mu:=fun x=>2*(N - x.1)+1,keep:=[0,1,8,10,11,13,14] }
def ftHb(t n:Int)(N:Nat)(most:Int)(x0:FTS)(st0:STS)(s0:MS):Hint Ob:= {X:=Nat×FTS×STS×MS,st:=fun x=>([.ptr 0 0,.int .i64 most,.O,.O,.O,.O,.O,.O,.int .i64 (x.1:Int),.O,.iface 35 (.ptr 3 0),.bool true,.O,.int .i64 1,.int .i64 0]++List.replicate 16 .O,[bH 1 x.2.2.2,bI x.2.2.2,some (.cells [.iface 35 (.ptr 3 0)]),some (.cells [.ptr 4 0,.int .i64 (x.2.1).code,.bool (x.2.1).okk,.int .i64 (x.2.1).val,.bool (x.2.1).failed,.int .i64 (x.2.1).tries,.int .i64 (x.2.1).sh,.int .i64 (x.2.1).kd,.int .i64 (x.2.1).ky,.int .i64 (x.2.1).most,.int .i64 (x.2.1).at',.bool (x.2.1).p.now,.int .i64 (x.2.1).p.code,.bool (x.2.1).p.okk,.int .i64 (x.2.1).p.val,.int .i64 (x.2.1).p.addr,.int .u64 (x.2.1).p.old,.int .i64 (x.2.1).p.nxt,.bool (x.2.1).p.mark,.int .i64 (x.2.1).p.pops,.O,.O,.O]),some (.abs (.store t n x.2.2.1) [])]),ok:=R8 t n N x0 st0 s0,mu:=fun x=>2*(N - x.1),keep:=[0,1,8,10,11,13,14],sel:=fun tm _=>match tm.getD 11 .O with | .bool b=>b | _=>false}
def TO(t n:Int)(N:Nat)(most:Int)(x0:FTS)(st0:STS)(s0:MS):FuncId→Nat→Option (sK Ob):=fun _ k=>if k=3 then some (.rounds 2)else some (.cases [ftHb t n N most x0 st0 s0,rG t n N most x0 st0 s0])
def BR(t n:Int)(N:Nat)(most:Int)(x0:FTS)(st0:STS)(s0:MS)(K:AVal→aB Ob→Prop):Prop:=((0:Int)≤(0:Int)∧(0:Int)<(↑1:Int))∧cP (rG t n N most x0 st0 s0) (fun x=>Hint.ok (rG t n N most x0 st0 s0) x∧mG none (Hint.mu (rG t n N most x0 st0 s0) x)) [.ptr 0 0,.int .i64 most,.O,.O,.O,.O,.O,.O,.int .i64 0,.O,.iface 35 (.ptr 3 0),.bool false,.O,.int .i64 (↑1:Int),.int .i64 0,.O,.O,.O,.O,.O,.O,.O,.O,.O,.O,.O,.O,.O,.O,.O,.O] [some (.cells [.int .i64 s0.1,.int .i64 s0.2,.slice 1 0 (List.length s0.3) 1,.int .i64 s0.4,.int .i64 s0.5,.int .i64 s0.6,.int .u64 s0.7,.int .u64 s0.8,.bool s0.9]),some (.ints (some .u64) s0.3),some (.cells [.iface 35 (.ptr 3 0)]),some (.abs (.fast t n x0) [4]),some (.abs (.store t n st0) [])]∧(∀(x:(Nat×FTS×STS×MS)),R8 t n N x0 st0 s0 x→K (.tup [.int .i64 (↑x.1:Int),.bool true]) [some (.cells [.int .i64 (Prod.snd (Prod.snd x).2).1,.int .i64 (Prod.snd (Prod.snd x).2).2,.slice 1 0 (List.length (Prod.snd (Prod.snd x).2).3) 1,.int .i64 (Prod.snd (Prod.snd x).2).4,.int .i64 (Prod.snd (Prod.snd x).2).5,.int .i64 (Prod.snd (Prod.snd x).2).6,.int .u64 (Prod.snd (Prod.snd x).2).7,.int .u64 (Prod.snd (Prod.snd x).2).8,.bool (Prod.snd (Prod.snd x).2).9]),some (.ints (some .u64) (Prod.snd (Prod.snd x).2).3),some (.cells [.iface 35 (.ptr 3 0)]),some (.cells [.ptr 4 0,.int .i64 (Prod.fst x.2).1,.bool (Prod.fst x.2).2,.int .i64 (Prod.fst x.2).3,.bool (Prod.fst x.2).4,.int .i64 (Prod.fst x.2).5,.int .i64 (Prod.fst x.2).6,.int .i64 (Prod.fst x.2).7,.int .i64 (Prod.fst x.2).8,.int .i64 (Prod.fst x.2).9,.int .i64 (Prod.fst x.2).10,.bool (FTS.p (Prod.snd x).1).1,.int .i64 (FTS.p (Prod.snd x).1).2,.bool (FTS.p (Prod.snd x).1).3,.int .i64 (FTS.p (Prod.snd x).1).4,.int .i64 (FTS.p (Prod.snd x).1).5,.int .u64 (FTS.p (Prod.snd x).1).6,.int .i64 (FTS.p (Prod.snd x).1).7,.bool (FTS.p (Prod.snd x).1).8,.int .i64 (FTS.p (Prod.snd x).1).9,.O,.O,.O]),some (.abs (.store t n (Prod.snd x.2).1) [])])∧(∀(x:(Nat×FTS×STS×MS)),RZ t n N x0 st0 s0 x→bif ile most (↑x.1:Int)then K (.tup [.int .i64 (↑x.1:Int),.bool false]) [some (.cells [.int .i64 (Prod.snd (Prod.snd x).2).1,.int .i64 (Prod.snd (Prod.snd x).2).2,.slice 1 0 (List.length (Prod.snd (Prod.snd x).2).3) 1,.int .i64 (Prod.snd (Prod.snd x).2).4,.int .i64 (Prod.snd (Prod.snd x).2).5,.int .i64 (Prod.snd (Prod.snd x).2).6,.int .u64 (Prod.snd (Prod.snd x).2).7,.int .u64 (Prod.snd (Prod.snd x).2).8,.bool (Prod.snd (Prod.snd x).2).9]),some (.ints (some .u64) (Prod.snd (Prod.snd x).2).3),some (.cells [.iface 35 (.ptr 3 0)]),some (.abs (.fast t n (Prod.snd x).1) [4]),some (.abs (.store t n (Prod.snd x.2).1) [])]else((lE' (Prod.snd (Prod.snd x).2).3∧t=t∧n=n)∧ftOk t n (Prod.snd x).1 (Prod.snd x.2).1 (Prod.snd x).2.2)∧bif (ftF t n (Prod.snd x).1 (Prod.snd x.2).1 (Prod.snd x).2.2).1 then cP (ftHb t n N most x0 st0 s0) (fun x_1=>Hint.ok (ftHb t n N most x0 st0 s0) x_1∧mG (some (Hint.mu (rG t n N most x0 st0 s0) x)) (Hint.mu (ftHb t n N most x0 st0 s0) x_1)) [.ptr 0 0,.int .i64 most,.O,.O,.O,.O,.O,.O,.int .i64 (W ((↑x.1:Int)+1)),.O,.iface 35 (.ptr 3 0),.bool true,.O,.int .i64 1,.int .i64 0,.O,.O,.O,.O,.O,.O,.O,.O,.O,.O,.O,.O,.O,.O,.O,.O] [some (.cells [.int .i64 (FtO.s (ftF t n (Prod.snd x).1 (Prod.snd x.2).1 (Prod.snd x).2.2)).1,.int .i64 (FtO.s (ftF t n (Prod.snd x).1 (Prod.snd x.2).1 (Prod.snd x).2.2)).2,.slice 1 0 (List.length (FtO.s (ftF t n (Prod.snd x).1 (Prod.snd x.2).1 (Prod.snd x).2.2)).3) 1,.int .i64 (FtO.s (ftF t n (Prod.snd x).1 (Prod.snd x.2).1 (Prod.snd x).2.2)).4,.int .i64 (FtO.s (ftF t n (Prod.snd x).1 (Prod.snd x.2).1 (Prod.snd x).2.2)).5,.int .i64 (FtO.s (ftF t n (Prod.snd x).1 (Prod.snd x.2).1 (Prod.snd x).2.2)).6,.int .u64 (FtO.s (ftF t n (Prod.snd x).1 (Prod.snd x.2).1 (Prod.snd x).2.2)).7,.int .u64 (FtO.s (ftF t n (Prod.snd x).1 (Prod.snd x.2).1 (Prod.snd x).2.2)).8,.bool (FtO.s (ftF t n (Prod.snd x).1 (Prod.snd x.2).1 (Prod.snd x).2.2)).9]),some (.ints (some .u64) (FtO.s (ftF t n (Prod.snd x).1 (Prod.snd x.2).1 (Prod.snd x).2.2)).3),some (.cells [.iface 35 (.ptr 3 0)]),some (.cells [.ptr 4 0,.int .i64 (FtO.x (ftF t n (Prod.snd x).1 (Prod.snd x.2).1 (Prod.snd x).2.2)).1,.bool (FtO.x (ftF t n (Prod.snd x).1 (Prod.snd x.2).1 (Prod.snd x).2.2)).2,.int .i64 (FtO.x (ftF t n (Prod.snd x).1 (Prod.snd x.2).1 (Prod.snd x).2.2)).3,.bool (FtO.x (ftF t n (Prod.snd x).1 (Prod.snd x.2).1 (Prod.snd x).2.2)).4,.int .i64 (FtO.x (ftF t n (Prod.snd x).1 (Prod.snd x.2).1 (Prod.snd x).2.2)).5,.int .i64 (FtO.x (ftF t n (Prod.snd x).1 (Prod.snd x.2).1 (Prod.snd x).2.2)).6,.int .i64 (FtO.x (ftF t n (Prod.snd x).1 (Prod.snd x.2).1 (Prod.snd x).2.2)).7,.int .i64 (FtO.x (ftF t n (Prod.snd x).1 (Prod.snd x.2).1 (Prod.snd x).2.2)).8,.int .i64 (FtO.x (ftF t n (Prod.snd x).1 (Prod.snd x.2).1 (Prod.snd x).2.2)).9,.int .i64 (FtO.x (ftF t n (Prod.snd x).1 (Prod.snd x.2).1 (Prod.snd x).2.2)).10,.bool (FTS.p (ftF t n (Prod.snd x).1 (Prod.snd x.2).1 (Prod.snd x).2.2).2).1,.int .i64 (FTS.p (ftF t n (Prod.snd x).1 (Prod.snd x.2).1 (Prod.snd x).2.2).2).2,.bool (FTS.p (ftF t n (Prod.snd x).1 (Prod.snd x.2).1 (Prod.snd x).2.2).2).3,.int .i64 (FTS.p (ftF t n (Prod.snd x).1 (Prod.snd x.2).1 (Prod.snd x).2.2).2).4,.int .i64 (FTS.p (ftF t n (Prod.snd x).1 (Prod.snd x.2).1 (Prod.snd x).2.2).2).5,.int .u64 (FTS.p (ftF t n (Prod.snd x).1 (Prod.snd x.2).1 (Prod.snd x).2.2).2).6,.int .i64 (FTS.p (ftF t n (Prod.snd x).1 (Prod.snd x.2).1 (Prod.snd x).2.2).2).7,.bool (FTS.p (ftF t n (Prod.snd x).1 (Prod.snd x.2).1 (Prod.snd x).2.2).2).8,.int .i64 (FTS.p (ftF t n (Prod.snd x).1 (Prod.snd x.2).1 (Prod.snd x).2.2).2).9,.O,.O,.O]),some (.abs (.store t n (ftF t n (Prod.snd x).1 (Prod.snd x.2).1 (Prod.snd x).2.2).3) [])]else cP (rG t n N most x0 st0 s0) (fun x_1=>Hint.ok (rG t n N most x0 st0 s0) x_1∧mG (some (Hint.mu (rG t n N most x0 st0 s0) x)) (Hint.mu (rG t n N most x0 st0 s0) x_1)) [.ptr 0 0,.int .i64 most,.O,.O,.O,.O,.O,.O,.int .i64 (W ((↑x.1:Int)+1)),.O,.iface 35 (.ptr 3 0),.bool false,.O,.int .i64 1,.int .i64 0,.O,.O,.O,.O,.O,.O,.O,.O,.O,.O,.O,.O,.O,.O,.O,.O] [some (.cells [.int .i64 (FtO.s (ftF t n (Prod.snd x).1 (Prod.snd x.2).1 (Prod.snd x).2.2)).1,.int .i64 (FtO.s (ftF t n (Prod.snd x).1 (Prod.snd x.2).1 (Prod.snd x).2.2)).2,.slice 1 0 (List.length (FtO.s (ftF t n (Prod.snd x).1 (Prod.snd x.2).1 (Prod.snd x).2.2)).3) 1,.int .i64 (FtO.s (ftF t n (Prod.snd x).1 (Prod.snd x.2).1 (Prod.snd x).2.2)).4,.int .i64 (FtO.s (ftF t n (Prod.snd x).1 (Prod.snd x.2).1 (Prod.snd x).2.2)).5,.int .i64 (FtO.s (ftF t n (Prod.snd x).1 (Prod.snd x.2).1 (Prod.snd x).2.2)).6,.int .u64 (FtO.s (ftF t n (Prod.snd x).1 (Prod.snd x.2).1 (Prod.snd x).2.2)).7,.int .u64 (FtO.s (ftF t n (Prod.snd x).1 (Prod.snd x.2).1 (Prod.snd x).2.2)).8,.bool (FtO.s (ftF t n (Prod.snd x).1 (Prod.snd x.2).1 (Prod.snd x).2.2)).9]),some (.ints (some .u64) (FtO.s (ftF t n (Prod.snd x).1 (Prod.snd x.2).1 (Prod.snd x).2.2)).3),some (.cells [.iface 35 (.ptr 3 0)]),some (.abs (.fast t n (ftF t n (Prod.snd x).1 (Prod.snd x.2).1 (Prod.snd x).2.2).2) [4]),some (.abs (.store t n (ftF t n (Prod.snd x).1 (Prod.snd x.2).1 (Prod.snd x).2.2).3) [])])∧True
theorem tS(t n:Int)(N:Nat)(most:Int)(x0:FTS)(st0:STS)(s0:MS)(K:AVal→aB Ob→Prop)(h:BR t n N most x0 st0 s0 K):cT' 20 [.ptr 0 0,.int .i64 most,.slice 2 0 1 1] [bH 1 s0,bI s0,some (.cells [.iface 35 (.ptr 3 0)]),some (.abs (.fast t n x0) [4]),some (.abs (.store t n st0) [])] K:=by
 refine VV (aE (E:=ED) Tryz.checked.mixed (L:=TO t n N most x0 st0 s0) (n:=10) (aR (by kernel_rfl) h))
theorem NH(t n:Int)(N:Nat)(most:Int)(x0:FTS)(st0:STS)(s0:MS)(K:AVal→aB Ob→Prop)(hN:most=(N:Int))(hb:N≤1000000)(ok:l9 t n N x0 st0 s0)
 (hK:(Out.ite (cH t n N x0 st0 s0).2.1 (.ret (.tup [.int .i64 ((cH t n N x0 st0 s0).1:Int),.bool true]) [bH 1 (cH t n N x0 st0 s0).2.2.2.2,bI (cH t n N x0 st0 s0).2.2.2.2,some (.cells [.iface 35 (.ptr 3 0)]),some (.cells [.ptr 4 0,.int .i64 (cH t n N x0 st0 s0).2.2.1.code,.bool (cH t n N x0 st0 s0).2.2.1.okk,.int .i64 (cH t n N x0 st0 s0).2.2.1.val,.bool (cH t n N x0 st0 s0).2.2.1.failed,.int .i64 (cH t n N x0 st0 s0).2.2.1.tries,.int .i64 (cH t n N x0 st0 s0).2.2.1.sh,.int .i64 (cH t n N x0 st0 s0).2.2.1.kd,.int .i64 (cH t n N x0 st0 s0).2.2.1.ky,.int .i64 (cH t n N x0 st0 s0).2.2.1.most,.int .i64 (cH t n N x0 st0 s0).2.2.1.at',.bool (cH t n N x0 st0 s0).2.2.1.p.now,.int .i64 (cH t n N x0 st0 s0).2.2.1.p.code,.bool (cH t n N x0 st0 s0).2.2.1.p.okk,.int .i64 (cH t n N x0 st0 s0).2.2.1.p.val,.int .i64 (cH t n N x0 st0 s0).2.2.1.p.addr,.int .u64 (cH t n N x0 st0 s0).2.2.1.p.old,.int .i64 (cH t n N x0 st0 s0).2.2.1.p.nxt,.bool (cH t n N x0 st0 s0).2.2.1.p.mark,.int .i64 (cH t n N x0 st0 s0).2.2.1.p.pops,.O,.O,.O]),some (.abs (.store t n (cH t n N x0 st0 s0).2.2.2.1) [])]) (.ret (.tup [.int .i64 ((cH t n N x0 st0 s0).1:Int),.bool false]) [bH 1 (cH t n N x0 st0 s0).2.2.2.2,bI (cH t n N x0 st0 s0).2.2.2.2,some (.cells [.iface 35 (.ptr 3 0)]),some (.abs (.fast t n (cH t n N x0 st0 s0).2.2.1) [4]),some (.abs (.store t n (cH t n N x0 st0 s0).2.2.2.1) [])])).run K):BR t n N most x0 st0 s0 K:=by
 unfold BR
 subst hN
 refine⟨by omega,aP (H:=rG t n N N x0 st0 s0) (0,x0,st0,s0) rfl ⟨⟨Nat.zero_le _,ok,rfl⟩,trivial⟩,?_,?_,trivial⟩
 ·rintro⟨k,x,st,s⟩ ⟨hk,heq⟩
  rw [heq]at hK
  exact hK
 ·rintro⟨k,x,st,s⟩ ⟨hk,ok,heq⟩
  dsimp only at hk ok heq⊢
  refine aF (fun e=>?_) (fun e=>?_)
  ·rw [bZ,dT']at e
   have hkN:k=N:=by omega
   subst hkN
   rw [Nat.sub_self]at heq
   rw [heq,KU,Nat.zero_add]at hK
   exact hK
  ·rw [bZ,dF']at e
   have hkN:N - k=(N - (k+1))+1:=by omega
   rw [hkN]at ok heq
   rw [C3]at ok
   rw [KV]at heq
   have e4:W ((k:Int)+1)=((k+1:Nat):Int):=by rw [W,cO (by omega)];rfl
   refine⟨⟨⟨rfl,rfl,rfl⟩,ok.1⟩,aF (fun hd=>?_) (fun hd=>?_)⟩
   ·refine aP (H:=ftHb t n N N x0 st0 s0) (k+1,(ftF t n x st s).x,(ftF t n x st s).st,(ftF t n x st s).s) (by simp only [e4]<;>rfl) ⟨⟨by show k+1≤N;omega,?_⟩,by show 2*(N - (k+1))<2*(N - k)+1;omega⟩
    have hd':(ftF t n x st s).d =true:=hd
    rw [heq,hd']
    simp only [cond_true]
    rw [Nat.add_comm]
   ·refine aP (H:=rG t n N N x0 st0 s0) (k+1,(ftF t n x st s).x,(ftF t n x st s).st,(ftF t n x st s).s) (by simp only [e4]<;>rfl) ⟨⟨by show k+1≤N;omega,ok.2 hd,?_⟩,by show 2*(N - (k+1))+1<2*(N - k)+1;omega⟩
    have hd':(ftF t n x st s).d =false:=hd
    rw [heq,hd']
    simp only [cond_false]
    rw [Nat.add_assoc,Nat.add_comm 1 k]
def bQ(t n:Int)(f:Nat)(x:FTS)(st:STS)(s:MS):Nat×Bool×FTS×STS×MS:=cH t n f x st s
def xK(t n:Int)(f:Nat)(x:FTS)(st:STS)(s:MS):Prop:=l9 t n f x st s
noncomputable def ftRunS:aL Ob:=fun args h=>match args,h with
 | [.ptr 0 0,.int .i64 most,.slice 2 0 1 1],[e1,e2,some (.cells [.iface 35 (.ptr 3 0)]),some (.abs (.fast t n x) [4]),e5,e6]=>(match fB 1 [e1,e2],sJ 5 [e5,e6]with
   | some (l,s),some (l2,t2,n2,st)=>some (.pre ((l=s.xs.length∧l2=st.R.length∧t2=t∧n2=n)∧(0≤most∧most≤1000000)∧xK t n most.toNat x st s) (.ite (bQ t n most.toNat x st s).2.1 (.ret (.tup [.int .i64 ((bQ t n most.toNat x st s).1:Int),.bool true]) [bH 1 (bQ t n most.toNat x st s).2.2.2.2,bI (bQ t n most.toNat x st s).2.2.2.2,some (.cells [.iface 35 (.ptr 3 0)]),some (.cells [.ptr 4 0,.int .i64 (bQ t n most.toNat x st s).2.2.1.code,.bool (bQ t n most.toNat x st s).2.2.1.okk,.int .i64 (bQ t n most.toNat x st s).2.2.1.val,.bool (bQ t n most.toNat x st s).2.2.1.failed,.int .i64 (bQ t n most.toNat x st s).2.2.1.tries,.int .i64 (bQ t n most.toNat x st s).2.2.1.sh,.int .i64 (bQ t n most.toNat x st s).2.2.1.kd,.int .i64 (bQ t n most.toNat x st s).2.2.1.ky,.int .i64 (bQ t n most.toNat x st s).2.2.1.most,.int .i64 (bQ t n most.toNat x st s).2.2.1.at',.bool (bQ t n most.toNat x st s).2.2.1.p.now,.int .i64 (bQ t n most.toNat x st s).2.2.1.p.code,.bool (bQ t n most.toNat x st s).2.2.1.p.okk,.int .i64 (bQ t n most.toNat x st s).2.2.1.p.val,.int .i64 (bQ t n most.toNat x st s).2.2.1.p.addr,.int .u64 (bQ t n most.toNat x st s).2.2.1.p.old,.int .i64 (bQ t n most.toNat x st s).2.2.1.p.nxt,.bool (bQ t n most.toNat x st s).2.2.1.p.mark,.int .i64 (bQ t n most.toNat x st s).2.2.1.p.pops,.O,.O,.O]),stC 6 t n (bQ t n most.toNat x st s).2.2.2.1,none,mF (bQ t n most.toNat x st s).2.2.2.1]) (.ret (.tup [.int .i64 ((bQ t n most.toNat x st s).1:Int),.bool false]) [bH 1 (bQ t n most.toNat x st s).2.2.2.2,bI (bQ t n most.toNat x st s).2.2.2.2,some (.cells [.iface 35 (.ptr 3 0)]),some (.abs (.fast t n (bQ t n most.toNat x st s).2.2.1) [4]),stC 6 t n (bQ t n most.toNat x st s).2.2.2.1,none,mF (bQ t n most.toNat x st s).2.2.2.1])))
   | _,_=>none)
 | _,_=>none
theorem GN:sT' 20 ftRunS:=by
 intro args h o ho K hK
 unfold ftRunS at ho
 split at ho
 case h_2=>cases ho
 rename_i most e1 e2 t n x e5 e6
 split at ho<;>cases ho
 rename_i l s l2 t2 n2 st hm hs
 obtain⟨⟨⟨hl,hl2,rfl,rfl⟩,hb,ok⟩,hK⟩:=hK
 unfold xK at ok
 unfold bQ at hK
 have hh:=cC hm hl
 cases hh
 have hh:=dF hs hl2
 cases hh
 refine W5 ?_
 refine XH tbl [bH 1 s,bI s,some (.cells [.iface 35 (.ptr 3 0)]),some (.abs (.fast t2 n2 x) [4]),some (.abs (.store t2 n2 st) [])] (.store t2 n2 st) 4 0 (jD t2 n2 st) [] (by kernel_rfl) rfl rfl (by kernel_rfl) ?_
 refine tS t2 n2 most.toNat most x st s _ (NH t2 n2 most.toNat most x st s _ (by omega) (by omega) ok ?_)
 generalize cH t2 n2 most.toNat x st s=r at hK⊢
 obtain⟨c,b,y,sy,my⟩:=r
 cases b with
 | true=>exact⟨⟨_,_,aQ.unpack (.store t2 n2 sy) 4 0 (jD t2 n2 sy) [] rfl rfl rfl rfl,hK⟩⟩
 | false=>exact⟨⟨_,_,aQ.unpack (.store t2 n2 sy) 4 0 (jD t2 n2 sy) [] rfl rfl rfl rfl,hK⟩⟩
noncomputable def runS:aL Ob:=ftRunS
theorem QK:sT' 20 runS:=GN
noncomputable def ERun:=ED.addS 20 runS QK
noncomputable def EZ:=(ERun)
noncomputable def EF1:=EZ
def stNewS:aL Ob:=fun args h=>match args,h with
 | [.agg [.int .i64 t,.int .i64 n],.int .i64 me],[]=>some (.pre True (.ret (.ptr 0 0) [stC 1 t n ⟨me,0,[]⟩,mF ⟨me,0,[]⟩]))
 | _,_=>none
theorem yE:sT' 19 stNewS:=by
 intro args h o ho K hK
 unfold stNewS at ho
 split at ho<;>cases ho
 rename_i t n me
 obtain⟨_,hK⟩:=hK
 have hK:K (.ptr 0 0) [stC 1 t n ⟨me,0,[]⟩,mF ⟨me,0,[]⟩]:=hK
 refine VV (XC (cs:=[(.cell 1 4,.ints (some .i64))]) (cM' (E:=EF1) (q:=K (.ptr 0 0) [some (.cells [.int .i64 t,.int .i64 n,.int .i64 me,.int .i64 0,.slice 1 0 0 1]),some (.ints (some .i64) [])]) (by kernel_rfl) ?_))
 exact hK
noncomputable def EF2:=EF1.addS 19 stNewS yE
def UF:gL tbl where
 R:=Empty
 row:=fun x=>nomatch x
 hole:=fun x=>nomatch x
 els:=fun x=>nomatch x
 len:=fun x=>nomatch x
 upd:=fun x=>nomatch x
 isRow:=fun _=>none
 isHole:=fun _=>none
 is:=fun x=>nomatch x
 get:=fun x=>nomatch x
 isRow_eq:=fun _ x _=>nomatch x
 isHole_eq:=fun _ x _ _=>nomatch x
 len_eq:=fun x=>nomatch x
 upd_eq:=fun x=>nomatch x
 is_true:=fun x=>nomatch x
 is_false:=fun x=>nomatch x
 tbRow:=fun x=>nomatch x
 tbHole:=fun x=>nomatch x
noncomputable def US:oM Ob Tryz.prog:= {EF2 with row:=UF.ops Tryz.prog,rowOk:=UF.ops_ok}
def enNSA:aL Ob:=fun args h=>match args,h with
 | [.ptr 0 0],[some (.abs (.store t n st) [])]=>some (.pre (wO t n st).ok (.ret (.ptr 1 0) [some (.abs (.store t n (wO t n st).val) []),some (.abs (.ensure t n qX) [0])]))
 | _,_=>none
theorem JZ:sT' 37 enNSA:=by
 intro args h o ho K hK
 unfold enNSA at ho
 split at ho<;>cases ho
 rename_i t n st
 obtain⟨ok,hK⟩:=hK
 refine aC.pack (tb:=tbl) (aC.unpack (tb:=tbl) (Mc.store t n st) 0 0 (jD t n st) [] rfl rfl rfl rfl ?_)
 refine zL [.ptr 0 0] [stC 1 t n st,mF st] _ rfl _ ⟨⟨rfl,ok⟩,⟨[0,2,1],[some (.abs (.store t n (wO t n st).val) []),some (.abs (.ensure t n qX) [0])],.store t n (wO t n st).val,0,0,jD t n (wO t n st).val,[],by kernel_rfl,by kernel_rfl,rfl,rfl,hK⟩⟩
def ftNSA:aL Ob:=fun args h=>match args,h with
 | [.ptr 0 0,.agg [.int .i64 sh,.int .i64 kd,.int .i64 ky],.int .i64 most],[some (.abs (.store t n st) [])]=>some (.pre (nT t n sh kd ky most st) (.ret (.ptr 1 0) [some (.abs (.store t n (bG t n sh kd ky most st).2) []),some (.abs (.fast t n (bG t n sh kd ky most st).1) [0])]))
 | _,_=>none
theorem KK:sT' 18 ftNSA:=by
 intro args h o ho K hK
 unfold ftNSA at ho
 split at ho<;>cases ho
 rename_i sh kd ky most t n st
 obtain⟨ok,hK⟩:=hK
 refine aC.pack (tb:=tbl) (aC.unpack (tb:=tbl) (Mc.store t n st) 0 0 (jD t n st) [] rfl rfl rfl rfl ?_)
 refine zX [.ptr 0 0,.agg [.int .i64 sh,.int .i64 kd,.int .i64 ky],.int .i64 most] [stC 1 t n st,mF st] _ rfl _ ⟨⟨rfl,ok⟩,⟨[0,2,1],[some (.abs (.store t n (bG t n sh kd ky most st).2) []),some (.abs (.fast t n (bG t n sh kd ky most st).1) [0])],.store t n (bG t n sh kd ky most st).2,0,0,jD t n (bG t n sh kd ky most st).2,[],by kernel_rfl,by kernel_rfl,rfl,rfl,hK⟩⟩
noncomputable def EFr:=(US.addS 37 (aL.or enNSA enNS) (WT JZ zL)).addS 18 (aL.or ftNSA ftNS) (WT KK zX)
end Go.Sh
