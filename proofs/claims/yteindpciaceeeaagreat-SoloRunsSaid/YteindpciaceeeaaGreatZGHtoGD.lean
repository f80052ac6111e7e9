import Derived.Test.YteindpciaceeeaaGreatZGC4toGH0
set_option linter.all false
set_option maxHeartbeats 8000000
namespace Go.Sh
open Go Go.Proofs
variable [Con]
structure HpO where
 d:Bool
 x:HPS
 st:STS
 s:MS
instance:Inhabited HpO:=⟨⟨false,dC,⟨0,0,[]⟩,⟨0,0,[],0,0,0,0,0,false⟩⟩⟩
instance:Inhabited HPS:=⟨dC⟩
abbrev hpH(t n:Int)(x:HPS)(st:STS)(s:MS):aC Ob:=[some (.abs (.help t n x) [1]),some (.abs (.store t n st) []),aZ 3 s,bA s]
abbrev hpD(t n:Int)(x:HPS)(st:STS)(s:MS):aC Ob:=[cE' [.ptr 1 0,.I x.u,.int .u64 x.no,.I x.rounds,.I x.limit,.I x.at',.int .u64 x.found,.I x.sh,.I x.kd,.I x.ky,.bool x.p.now,.I x.p.code,.bool x.p.okk,.I x.p.val,.I x.p.addr,.int .u64 x.p.old,.I x.p.nxt,.bool x.p.mark,.I x.p.pops,.O,.O,.O,.O,.O],some (.abs (.store t n st) []),aZ 3 s,bA s]
def HpO.fin(t n:Int)(y:HpO):Out Ob:=.ite y.d (.ret (.bool true) (hpD t n y.x y.st y.s)) (.ret (.bool false) (hpH t n y.x y.st y.s))
def aCr(t n:Int)(v:AVal)(g:aC Ob):Option (Prop×HpO):=match v,g with
 | .bool d,[some (.cells [.ptr 1 0,.int .i64 u,.int .u64 no,.int .i64 rounds,.int .i64 limit,.int .i64 at',.int .u64 found,.int .i64 sh,.int .i64 kd,.int .i64 ky,.bool p_now,.int .i64 p_code,.bool p_okk,.int .i64 p_val,.int .i64 p_addr,.int .u64 p_old,.int .i64 p_nxt,.bool p_mark,.int .i64 p_pops,.O,.O,.O,.O,.O]),e1,e3,e4,e2]=>(match lC 4 [e1,e2],cO 3 [e3,e4]with
   | some (l2,t2,n2,st),some (l,s)=>some ((t2=t∧n2=n)∧(d=false→at'≠3∧at'≠4∧at'≠5∧at'≠7∧at'≠8)∧l=s.xs.length∧l2=st.R.length,⟨d,⟨u,no,rounds,limit,at',found,sh,kd,ky,⟨p_now,p_code,p_okk,p_val,p_addr,p_old,p_nxt,p_mark,p_pops⟩,eN,bZ,bQ,⟨0,0,0,0⟩,⟨0,0,0,false⟩⟩,st,s⟩)
   | _,_=>none)
 | _,_=>none
def aCs(t n:Int)(v:AVal)(g:aC Ob):Option (Prop×HpO):=match v,g with
 | .bool d,[some (.cells [.ptr 1 0,.int .i64 u,.int .u64 no,.int .i64 rounds,.int .i64 limit,.int .i64 at',.int .u64 found,.int .i64 sh,.int .i64 kd,.int .i64 ky,.bool p_now,.int .i64 p_code,.bool p_okk,.int .i64 p_val,.int .i64 p_addr,.int .u64 p_old,.int .i64 p_nxt,.bool p_mark,.int .i64 p_pops,.ptr 4 0,.O,.O,.O,.O]),e1,e3,e4,some (.abs (.exec t' n' sub) []),e2]=>(match lC 5 [e1,e2],cO 3 [e3,e4]with
   | some (l2,t2,n2,st),some (l,s)=>some ((t2=t∧n2=n)∧t'=t∧n'=n∧(d=false→at'=3)∧l=s.xs.length∧l2=st.R.length,⟨d,⟨u,no,rounds,limit,at',found,sh,kd,ky,⟨p_now,p_code,p_okk,p_val,p_addr,p_old,p_nxt,p_mark,p_pops⟩,sub,bZ,bQ,⟨0,0,0,0⟩,⟨0,0,0,false⟩⟩,st,s⟩)
   | _,_=>none)
 | _,_=>none
def aCt(t n:Int)(v:AVal)(g:aC Ob):Option (Prop×HpO):=match v,g with
 | .bool d,[some (.cells [.ptr 1 0,.int .i64 u,.int .u64 no,.int .i64 rounds,.int .i64 limit,.int .i64 at',.int .u64 found,.int .i64 sh,.int .i64 kd,.int .i64 ky,.bool p_now,.int .i64 p_code,.bool p_okk,.int .i64 p_val,.int .i64 p_addr,.int .u64 p_old,.int .i64 p_nxt,.bool p_mark,.int .i64 p_pops,.O,.ptr 4 0,.O,.O,.O]),e1,e3,e4,some (.abs (.ensure t' n' sub) [1]),e2]=>(match lC 5 [e1,e2],cO 3 [e3,e4]with
   | some (l2,t2,n2,st),some (l,s)=>some ((t2=t∧n2=n)∧t'=t∧n'=n∧(d=false→at'=4)∧l=s.xs.length∧l2=st.R.length,⟨d,⟨u,no,rounds,limit,at',found,sh,kd,ky,⟨p_now,p_code,p_okk,p_val,p_addr,p_old,p_nxt,p_mark,p_pops⟩,eN,sub,bQ,⟨0,0,0,0⟩,⟨0,0,0,false⟩⟩,st,s⟩)
   | _,_=>none)
 | _,_=>none
def aCu(t n:Int)(v:AVal)(g:aC Ob):Option (Prop×HpO):=match v,g with
 | .bool d,[some (.cells [.ptr 1 0,.int .i64 u,.int .u64 no,.int .i64 rounds,.int .i64 limit,.int .i64 at',.int .u64 found,.int .i64 sh,.int .i64 kd,.int .i64 ky,.bool p_now,.int .i64 p_code,.bool p_okk,.int .i64 p_val,.int .i64 p_addr,.int .u64 p_old,.int .i64 p_nxt,.bool p_mark,.int .i64 p_pops,.O,.O,.ptr 4 0,.O,.O]),e1,e3,e4,some (.abs (.find t' n' sub) []),e2]=>(match lC 5 [e1,e2],cO 3 [e3,e4]with
   | some (l2,t2,n2,st),some (l,s)=>some ((t2=t∧n2=n)∧t'=t∧n'=n∧(d=false→at'=5)∧l=s.xs.length∧l2=st.R.length,⟨d,⟨u,no,rounds,limit,at',found,sh,kd,ky,⟨p_now,p_code,p_okk,p_val,p_addr,p_old,p_nxt,p_mark,p_pops⟩,eN,bZ,sub,⟨0,0,0,0⟩,⟨0,0,0,false⟩⟩,st,s⟩)
   | _,_=>none)
 | _,_=>none
def aCv(t n:Int)(v:AVal)(g:aC Ob):Option (Prop×HpO):=match v,g with
 | .bool d,[some (.cells [.ptr 1 0,.int .i64 u,.int .u64 no,.int .i64 rounds,.int .i64 limit,.int .i64 at',.int .u64 found,.int .i64 sh,.int .i64 kd,.int .i64 ky,.bool p_now,.int .i64 p_code,.bool p_okk,.int .i64 p_val,.int .i64 p_addr,.int .u64 p_old,.int .i64 p_nxt,.bool p_mark,.int .i64 p_pops,.O,.O,.O,.ptr 4 0,.O]),e1,e3,e4,some (.abs (.clear t' n' sub) []),e2]=>(match lC 5 [e1,e2],cO 3 [e3,e4]with
   | some (l2,t2,n2,st),some (l,s)=>some ((t2=t∧n2=n)∧t'=t∧n'=n∧(d=false→at'=7)∧l=s.xs.length∧l2=st.R.length,⟨d,⟨u,no,rounds,limit,at',found,sh,kd,ky,⟨p_now,p_code,p_okk,p_val,p_addr,p_old,p_nxt,p_mark,p_pops⟩,eN,bZ,bQ,sub,⟨0,0,0,false⟩⟩,st,s⟩)
   | _,_=>none)
 | _,_=>none
def aCw(t n:Int)(v:AVal)(g:aC Ob):Option (Prop×HpO):=match v,g with
 | .bool d,[some (.cells [.ptr 1 0,.int .i64 u,.int .u64 no,.int .i64 rounds,.int .i64 limit,.int .i64 at',.int .u64 found,.int .i64 sh,.int .i64 kd,.int .i64 ky,.bool p_now,.int .i64 p_code,.bool p_okk,.int .i64 p_val,.int .i64 p_addr,.int .u64 p_old,.int .i64 p_nxt,.bool p_mark,.int .i64 p_pops,.O,.O,.O,.O,.ptr 4 0]),e1,e3,e4,some (.abs (.prepare t' n' sub) [1]),e2]=>(match lC 5 [e1,e2],cO 3 [e3,e4]with
   | some (l2,t2,n2,st),some (l,s)=>some ((t2=t∧n2=n)∧t'=t∧n'=n∧(d=false→at'=8)∧l=s.xs.length∧l2=st.R.length,⟨d,⟨u,no,rounds,limit,at',found,sh,kd,ky,⟨p_now,p_code,p_okk,p_val,p_addr,p_old,p_nxt,p_mark,p_pops⟩,eN,bZ,bQ,⟨0,0,0,0⟩,sub⟩,st,s⟩)
   | _,_=>none)
 | _,_=>none
def wC(t n:Int)(v:AVal)(g:aC Ob):Option (Prop×HpO):=(match aCr t n v g with
 | some r=>some r
 | none=>(match aCs t n v g with
 | some r=>some r
 | none=>(match aCt t n v g with
 | some r=>some r
 | none=>(match aCu t n v g with
 | some r=>some r
 | none=>(match aCv t n v g with
 | some r=>some r
 | none=>aCw t n v g)))))
theorem W8{t n:Int} :bM (obI tbl) 4 (aCr t n) (HpO.fin t n):=by
 intro v g p x hp hq K hK;unfold aCr at hp;split at hp
 case h_2=>cases hp
 rename_i d u no rounds limit at' found sh kd ky p_now p_code p_okk p_val p_addr p_old p_nxt p_mark p_pops e1 e3 e4 e2;split at hp
 case h_2=>cases hp
 rename_i l2 t2 n2 st l s hs hm;cases hp;obtain⟨⟨rfl,rfl⟩,hat,hl,hl2⟩:=hq;cases bB hm hl;cases cD hs hl2;refine fK hK (fun h=>?_) (fun hd h=>?_)
 ·exact tkP h (.store t2 n2 st) 1 0 (dM t2 n2 st) []
 ·exact wD h (.store t2 n2 st) 1 0 (dM t2 n2 st) [] 0 [1] rfl (congrArg (Prod.mk 1) (jW (hat hd)))
theorem W9{t n:Int} :bM (obI tbl) 4 (aCs t n) (HpO.fin t n):=by
 intro v g p x hp hq K hK;unfold aCs at hp;split at hp
 case h_2=>cases hp
 rename_i d u no rounds limit at' found sh kd ky p_now p_code p_okk p_val p_addr p_old p_nxt p_mark p_pops e1 e3 e4 t' n' sub e2;split at hp
 case h_2=>cases hp
 rename_i l2 t2 n2 st l s hs hm;cases hp;obtain⟨⟨rfl,rfl⟩,rfl,rfl,hat,hl,hl2⟩:=hq;cases bB hm hl;cases cD hs hl2;refine fK hK (fun h=>?_) (fun hd h=>?_)
 ·exact DI h [19,20,21,22,23] [0,1,2,3,5] (.store t' n' st) 1 0 (dM t' n' st) []
 ·exact wD h (.store t' n' st) 1 0 (dM t' n' st) [] 0 [1] rfl (congrArg (Prod.mk 1) (IB (hat hd)))
theorem XA{t n:Int} :bM (obI tbl) 4 (aCt t n) (HpO.fin t n):=by
 intro v g p x hp hq K hK;unfold aCt at hp;split at hp
 case h_2=>cases hp
 rename_i d u no rounds limit at' found sh kd ky p_now p_code p_okk p_val p_addr p_old p_nxt p_mark p_pops e1 e3 e4 t' n' sub e2;split at hp
 case h_2=>cases hp
 rename_i l2 t2 n2 st l s hs hm;cases hp;obtain⟨⟨rfl,rfl⟩,rfl,rfl,hat,hl,hl2⟩:=hq;cases bB hm hl;cases cD hs hl2;refine fK hK (fun h=>?_) (fun hd h=>?_)
 ·exact DI h [19,20,21,22,23] [0,1,2,3,5] (.store t' n' st) 1 0 (dM t' n' st) []
 ·exact wD h (.store t' n' st) 1 0 (dM t' n' st) [] 0 [1] rfl (congrArg (Prod.mk 1) (IC (hat hd)))
theorem XB{t n:Int} :bM (obI tbl) 4 (aCu t n) (HpO.fin t n):=by
 intro v g p x hp hq K hK;unfold aCu at hp;split at hp
 case h_2=>cases hp
 rename_i d u no rounds limit at' found sh kd ky p_now p_code p_okk p_val p_addr p_old p_nxt p_mark p_pops e1 e3 e4 t' n' sub e2;split at hp
 case h_2=>cases hp
 rename_i l2 t2 n2 st l s hs hm;cases hp;obtain⟨⟨rfl,rfl⟩,rfl,rfl,hat,hl,hl2⟩:=hq;cases bB hm hl;cases cD hs hl2;refine fK hK (fun h=>?_) (fun hd h=>?_)
 ·exact DI h [19,20,21,22,23] [0,1,2,3,5] (.store t' n' st) 1 0 (dM t' n' st) []
 ·exact wD h (.store t' n' st) 1 0 (dM t' n' st) [] 0 [1] rfl (congrArg (Prod.mk 1) (ID (hat hd)))
theorem XC{t n:Int} :bM (obI tbl) 4 (aCv t n) (HpO.fin t n):=by
 intro v g p x hp hq K hK;unfold aCv at hp;split at hp
 case h_2=>cases hp
 rename_i d u no rounds limit at' found sh kd ky p_now p_code p_okk p_val p_addr p_old p_nxt p_mark p_pops e1 e3 e4 t' n' sub e2;split at hp
 case h_2=>cases hp
 rename_i l2 t2 n2 st l s hs hm;cases hp;obtain⟨⟨rfl,rfl⟩,rfl,rfl,hat,hl,hl2⟩:=hq;cases bB hm hl;cases cD hs hl2;refine fK hK (fun h=>?_) (fun hd h=>?_)
 ·exact DI h [19,20,21,22,23] [0,1,2,3,5] (.store t' n' st) 1 0 (dM t' n' st) []
 ·exact wD h (.store t' n' st) 1 0 (dM t' n' st) [] 0 [1] rfl (congrArg (Prod.mk 1) (IE (hat hd)))
theorem XD{t n:Int} :bM (obI tbl) 4 (aCw t n) (HpO.fin t n):=by
 intro v g p x hp hq K hK;unfold aCw at hp;split at hp
 case h_2=>cases hp
 rename_i d u no rounds limit at' found sh kd ky p_now p_code p_okk p_val p_addr p_old p_nxt p_mark p_pops e1 e3 e4 t' n' sub e2;split at hp
 case h_2=>cases hp
 rename_i l2 t2 n2 st l s hs hm;cases hp;obtain⟨⟨rfl,rfl⟩,rfl,rfl,hat,hl,hl2⟩:=hq;cases bB hm hl;cases cD hs hl2;refine fK hK (fun h=>?_) (fun hd h=>?_)
 ·exact DI h [19,20,21,22,23] [0,1,2,3,5] (.store t' n' st) 1 0 (dM t' n' st) []
 ·exact wD h (.store t' n' st) 1 0 (dM t' n' st) [] 0 [1] rfl (congrArg (Prod.mk 1) (IF (hat hd)))
theorem kZ{t n:Int} :bM (obI tbl) 4 (wC t n) (HpO.fin t n):=by
 intro v g p x hp hq K hK;unfold wC at hp;split at hp
 ·rename_i r hr;cases hp;exact W8 v g p x hr hq K hK
 split at hp
 ·rename_i r hr;cases hp;exact W9 v g p x hr hq K hK
 split at hp
 ·rename_i r hr;cases hp;exact XA v g p x hr hq K hK
 split at hp
 ·rename_i r hr;cases hp;exact XB v g p x hr hq K hK
 split at hp
 ·rename_i r hr;cases hp;exact XC v g p x hr hq K hK
 exact XD v g p x hp hq K hK
abbrev w1y(n t:Int)(x:HPS):=(((0:Int)≤t∧t≤(100000:Int))∧((0:Int)≤n∧n≤(100000:Int))∧(-1099511627776:Int)≤x.1∧x.1≤(1099511627776:Int))∧True
def CB(t n:Int)(x:HPS)(st:STS)(s:MS):Tr HpO:=.pre (w1y n t x) (.pre ((lE' s.3∧(0:Int)≤s.4∧s.4≤(4611686018427387904:Int))∧True) (.pre True (.pre True (.pre ((t=t∧n=n)∧((!nJ (aA (aE s.3 (2*n+5+2*t+3*x.1+2)) 49 3))=false→(1:Int)≠(3:Int)∧(1:Int)≠(4:Int)∧(1:Int)≠(5:Int)∧(1:Int)≠(7:Int)∧(1:Int)≠(8:Int))∧lE' s.3∧lE' st.3) (.ret {d:=!nJ (aA (aE s.3 (2*n+5+2*t+3*x.1+2)) 49 3),x:= {x with rounds:=W (x.3+1),at':=1,found:=aE s.3 (2*n+5+2*t+3*x.1+2),ex:=eN,en:=bZ,fn:=bQ,cl:=b9,pr:=dG},st:=st,s:= {s with c:=s.4+1,k:=1,a:=2*n+5+2*t+3*x.1+2,o:=aE s.3 (2*n+5+2*t+3*x.1+2),w:=aE s.3 (2*n+5+2*t+3*x.1+2),ok:=bL s.3 (2*n+5+2*t+3*x.1+2) } })))))
theorem K2(t n:Int)(x:HPS)(st:STS)(s:MS)(K:HpO→Prop)(h:(CB t n x st s).run K):cT' 152 [.ptr 0 0,.ptr 2 0] [cE' [.ptr 1 0,.I x.u,.int .u64 x.no,.I x.rounds,.I x.limit,.I 0,.int .u64 x.found,.I x.sh,.I x.kd,.I x.ky,.bool x.p.now,.I x.p.code,.bool x.p.okk,.I x.p.val,.I x.p.addr,.int .u64 x.p.old,.I x.p.nxt,.bool x.p.mark,.I x.p.pops,.O,.O,.O,.O,.O],gV 4 t n st,aZ 3 s,bA s,gW st] (bR 4 0 [19,20,21,22,23] [(.cell 1 4,.ints (some .i64))] (wC t n) K):=by
 exact cM' (E:=EH0) (by kernel_rfl) h
def CC(t n:Int)(x:HPS)(st:STS)(s:MS):Tr HpO:=.pre (w1y n t x) (.pre ((lE' s.3∧(0:Int)≤s.4∧s.4≤(4611686018427387904:Int))∧True) (.pre ((t=t∧n=n)∧((!ieq (aE s.3 (2*n+5+2*t+3*x.1)) x.2)=false→(2:Int)≠(3:Int)∧(2:Int)≠(4:Int)∧(2:Int)≠(5:Int)∧(2:Int)≠(7:Int)∧(2:Int)≠(8:Int))∧lE' s.3∧lE' st.3) (.ret {d:=!ieq (aE s.3 (2*n+5+2*t+3*x.1)) x.2,x:= {x with at':=2,ex:=eN,en:=bZ,fn:=bQ,cl:=b9,pr:=dG},st:=st,s:= {s with c:=s.4+1,k:=1,a:=2*n+5+2*t+3*x.1,o:=aE s.3 (2*n+5+2*t+3*x.1),w:=aE s.3 (2*n+5+2*t+3*x.1),ok:=bL s.3 (2*n+5+2*t+3*x.1) } })))
theorem K3(t n:Int)(x:HPS)(st:STS)(s:MS)(K:HpO→Prop)(h:(CC t n x st s).run K):cT' 152 [.ptr 0 0,.ptr 2 0] [cE' [.ptr 1 0,.I x.u,.int .u64 x.no,.I x.rounds,.I x.limit,.I 1,.int .u64 x.found,.I x.sh,.I x.kd,.I x.ky,.bool x.p.now,.I x.p.code,.bool x.p.okk,.I x.p.val,.I x.p.addr,.int .u64 x.p.old,.I x.p.nxt,.bool x.p.mark,.I x.p.pops,.O,.O,.O,.O,.O],gV 4 t n st,aZ 3 s,bA s,gW st] (bR 4 0 [19,20,21,22,23] [(.cell 1 4,.ints (some .i64))] (wC t n) K):=by
 exact cM' (E:=EH0) (by kernel_rfl) h
abbrev w1u(n:Int)(s:MS)(t:Int)(x:HPS):=aE s.3 (2*n+5+2*t+3*x.1+1)
abbrev w21:=false=false→(5:Int)=(5:Int)
def CD(t n:Int)(x:HPS)(st:STS)(s:MS):Tr HpO:=.pre (w1y n t x) (.pre ((lE' s.3∧(0:Int)≤s.4∧s.4≤(4611686018427387904:Int))∧True) (.pre ((0:Int)≤aE s.3 (2*n+5+2*t+3*x.1+1)∧aE s.3 (2*n+5+2*t+3*x.1+1)≤(18446744073709551615:Int)) (.ite (!ieq (bif iU (w1u n s t x)then 0 else 3) 0) (.pre ((t=t∧n=n)∧(true=false→(2:Int)≠(3:Int)∧(2:Int)≠(4:Int)∧(2:Int)≠(5:Int)∧(2:Int)≠(7:Int)∧(2:Int)≠(8:Int))∧lE' s.3∧lE' st.3) (.ret {d:=true,x:= {x with at':=2,sh:=bif iU (w1u n s t x)then aA (w1u n s t x) 0 3 else 0,kd:=bif iU (w1u n s t x)then aA (w1u n s t x) 3 3 else 0,ky:=bif iU (w1u n s t x)then aA (w1u n s t x) 6 10 else 0,ex:=eN,en:=bZ,fn:=bQ,cl:=b9,pr:=dG},st:=st,s:= {s with c:=s.4+1,k:=1,a:=2*n+5+2*t+3*x.1+1,o:=aE s.3 (2*n+5+2*t+3*x.1+1),w:=aE s.3 (2*n+5+2*t+3*x.1+1),ok:=bL s.3 (2*n+5+2*t+3*x.1+1) } })) (.pre True (.ite (!hasB [1] (aA x.6 49 3)) (.pre True (.pre (OT t n x.1 (bif iU (w1u n s t x)then aA (w1u n s t x) 0 3 else 0) (bif iU (w1u n s t x)then aA (w1u n s t x) 3 3 else 0) (bif iU (w1u n s t x)then aA (w1u n s t x) 6 10 else 0) (aA x.6 0 12)∧True) (.pre ((t=t∧n=n)∧t=t∧n=n∧(false=false→(3:Int)=(3:Int))∧lE' s.3∧lE' st.3) (.ret {d:=false,x:= {x with at':=3,sh:=bif iU (w1u n s t x)then aA (w1u n s t x) 0 3 else 0,kd:=bif iU (w1u n s t x)then aA (w1u n s t x) 3 3 else 0,ky:=bif iU (w1u n s t x)then aA (w1u n s t x) 6 10 else 0,ex:=aBE t n x.1 (bif iU (w1u n s t x)then aA (w1u n s t x) 0 3 else 0) (bif iU (w1u n s t x)then aA (w1u n s t x) 3 3 else 0) (bif iU (w1u n s t x)then aA (w1u n s t x) 6 10 else 0) (aA x.6 0 12),en:=bZ,fn:=bQ,cl:=b9,pr:=dG},st:=st,s:= {s with c:=s.4+1,k:=1,a:=2*n+5+2*t+3*x.1+1,o:=aE s.3 (2*n+5+2*t+3*x.1+1),w:=aE s.3 (2*n+5+2*t+3*x.1+1),ok:=bL s.3 (2*n+5+2*t+3*x.1+1) } })))) (.pre True (.ite (fW (bif iU (w1u n s t x)then aA (w1u n s t x) 3 3 else 0)) (.ite (ieq st.2 0) (.pre (lE' st.3∧(t=t∧n=n∧lE' st.3)∧True) (.pre ((t=t∧n=n)∧t=t∧n=n∧(false=false→(4:Int)=(4:Int))∧lE' s.3∧lE' st.3) (.ret {d:=false,x:= {x with at':=4,sh:=bif iU (w1u n s t x)then aA (w1u n s t x) 0 3 else 0,kd:=bif iU (w1u n s t x)then aA (w1u n s t x) 3 3 else 0,ky:=bif iU (w1u n s t x)then aA (w1u n s t x) 6 10 else 0,ex:=eN,en:=bZ,fn:=bQ,cl:=b9,pr:=dG},st:=st,s:= {s with c:=s.4+1,k:=1,a:=2*n+5+2*t+3*x.1+1,o:=aE s.3 (2*n+5+2*t+3*x.1+1),w:=aE s.3 (2*n+5+2*t+3*x.1+1),ok:=bL s.3 (2*n+5+2*t+3*x.1+1) } }))) (.pre True (.pre (oG t n st.1 (fJ (bif iU (w1u n s t x)then aA (w1u n s t x) 0 3 else 0) (bif iU (w1u n s t x)then aA (w1u n s t x) 6 10 else 0)) (l8 (bif iU (w1u n s t x)then aA (w1u n s t x) 0 3 else 0) (bif iU (w1u n s t x)then aA (w1u n s t x) 3 3 else 0) (bif iU (w1u n s t x)then aA (w1u n s t x) 6 10 else 0)) x.4∧True) (.pre ((t=t∧n=n)∧t=t∧n=n∧w21∧lE' s.3∧lE' st.3) (.ret {d:=false,x:= {x with at':=5,sh:=bif iU (w1u n s t x)then aA (w1u n s t x) 0 3 else 0,kd:=bif iU (w1u n s t x)then aA (w1u n s t x) 3 3 else 0,ky:=bif iU (w1u n s t x)then aA (w1u n s t x) 6 10 else 0,ex:=eN,en:=bZ,fn:=uI t n st.1 (fJ (bif iU (w1u n s t x)then aA (w1u n s t x) 0 3 else 0) (bif iU (w1u n s t x)then aA (w1u n s t x) 6 10 else 0)) (l8 (bif iU (w1u n s t x)then aA (w1u n s t x) 0 3 else 0) (bif iU (w1u n s t x)then aA (w1u n s t x) 3 3 else 0) (bif iU (w1u n s t x)then aA (w1u n s t x) 6 10 else 0)) x.4,cl:=b9,pr:=dG},st:=st,s:= {s with c:=s.4+1,k:=1,a:=2*n+5+2*t+3*x.1+1,o:=aE s.3 (2*n+5+2*t+3*x.1+1),w:=aE s.3 (2*n+5+2*t+3*x.1+1),ok:=bL s.3 (2*n+5+2*t+3*x.1+1) } }))))) (.pre True (.pre (oG t n st.1 (fJ (bif iU (w1u n s t x)then aA (w1u n s t x) 0 3 else 0) (bif iU (w1u n s t x)then aA (w1u n s t x) 6 10 else 0)) (l8 (bif iU (w1u n s t x)then aA (w1u n s t x) 0 3 else 0) (bif iU (w1u n s t x)then aA (w1u n s t x) 3 3 else 0) (bif iU (w1u n s t x)then aA (w1u n s t x) 6 10 else 0)) x.4∧True) (.pre ((t=t∧n=n)∧t=t∧n=n∧w21∧lE' s.3∧lE' st.3) (.ret {d:=false,x:= {x with at':=5,sh:=bif iU (w1u n s t x)then aA (w1u n s t x) 0 3 else 0,kd:=bif iU (w1u n s t x)then aA (w1u n s t x) 3 3 else 0,ky:=bif iU (w1u n s t x)then aA (w1u n s t x) 6 10 else 0,ex:=eN,en:=bZ,fn:=uI t n st.1 (fJ (bif iU (w1u n s t x)then aA (w1u n s t x) 0 3 else 0) (bif iU (w1u n s t x)then aA (w1u n s t x) 6 10 else 0)) (l8 (bif iU (w1u n s t x)then aA (w1u n s t x) 0 3 else 0) (bif iU (w1u n s t x)then aA (w1u n s t x) 3 3 else 0) (bif iU (w1u n s t x)then aA (w1u n s t x) 6 10 else 0)) x.4,cl:=b9,pr:=dG},st:=st,s:= {s with c:=s.4+1,k:=1,a:=2*n+5+2*t+3*x.1+1,o:=aE s.3 (2*n+5+2*t+3*x.1+1),w:=aE s.3 (2*n+5+2*t+3*x.1+1),ok:=bL s.3 (2*n+5+2*t+3*x.1+1) } })))))))))))
theorem K4(t n:Int)(x:HPS)(st:STS)(s:MS)(K:HpO→Prop)(h:(CD t n x st s).run K):cT' 152 [.ptr 0 0,.ptr 2 0] [cE' [.ptr 1 0,.I x.u,.int .u64 x.no,.I x.rounds,.I x.limit,.I 2,.int .u64 x.found,.I x.sh,.I x.kd,.I x.ky,.bool x.p.now,.I x.p.code,.bool x.p.okk,.I x.p.val,.I x.p.addr,.int .u64 x.p.old,.I x.p.nxt,.bool x.p.mark,.I x.p.pops,.O,.O,.O,.O,.O],gV 4 t n st,aZ 3 s,bA s,gW st] (bR 4 0 [19,20,21,22,23] [(.cell 1 4,.ints (some .i64))] (wC t n) K):=by
 exact cM' (E:=EH0) (by kernel_rfl) h
abbrev w1w:=false=false→(0:Int)≠(3:Int)∧(0:Int)≠(4:Int)∧(0:Int)≠(5:Int)∧(0:Int)≠(7:Int)∧(0:Int)≠(8:Int)
def CE(t n:Int)(x:HPS)(st:STS)(s:MS):Tr HpO:=.pre (lE' s.3∧aBI t n x.11 s) (.ite (BG t n x.11 s).1 (.ite (!ieq (ExO.x (BG t n x.11 s)).1 0) (.pre (lE' st.3∧1=1∧st.3.length+(1:Nat)≤(4294967296:Nat)) (.pre ((t=t∧n=n)∧w1w∧lE' (ExO.s (BG t n x.11 s)).3∧st.3.length+(1:Nat)=List.length (st.3++ [(ExO.x (BG t n x.11 s)).1])) (.ret {d:=false,x:= {x with at':=0,ex:=eN,en:=bZ,fn:=bQ,cl:=b9,pr:=dG},st:= {me:=st.1,sp:=st.2,R:=st.3++ [(ExO.x (BG t n x.11 s)).1] },s:=(BG t n x.11 s).3}))) (.pre ((t=t∧n=n)∧w1w∧lE' (ExO.s (BG t n x.11 s)).3∧lE' st.3) (.ret {d:=false,x:= {x with at':=0,ex:=eN,en:=bZ,fn:=bQ,cl:=b9,pr:=dG},st:=st,s:=(BG t n x.11 s).3}))) (.pre ((t=t∧n=n)∧t=t∧n=n∧(false=false→(3:Int)=(3:Int))∧lE' (ExO.s (BG t n x.11 s)).3∧lE' st.3) (.ret {d:=false,x:= {x with at':=3,ex:=(BG t n x.11 s).2,en:=bZ,fn:=bQ,cl:=b9,pr:=dG},st:=st,s:=(BG t n x.11 s).3})))
theorem K5(t n:Int)(x:HPS)(st:STS)(s:MS)(K:HpO→Prop)(h:(CE t n x st s).run K):cT' 152 [.ptr 0 0,.ptr 2 0] [cE' [.ptr 1 0,.I x.u,.int .u64 x.no,.I x.rounds,.I x.limit,.I 3,.int .u64 x.found,.I x.sh,.I x.kd,.I x.ky,.bool x.p.now,.I x.p.code,.bool x.p.okk,.I x.p.val,.I x.p.addr,.int .u64 x.p.old,.I x.p.nxt,.bool x.p.mark,.I x.p.pops,.ptr 4 0,.O,.O,.O,.O],gV 5 t n st,aZ 3 s,bA s,some (.abs (.exec t n x.ex) []),gW st] (bR 4 0 [19,20,21,22,23] [(.cell 1 4,.ints (some .i64))] (wC t n) K):=by
 exact cM' (E:=EH0) (by kernel_rfl) h
abbrev w1z:=false=false→(6:Int)≠(3:Int)∧(6:Int)≠(4:Int)∧(6:Int)≠(5:Int)∧(6:Int)≠(7:Int)∧(6:Int)≠(8:Int)
def CF(t n:Int)(x:HPS)(st:STS)(s:MS):Tr HpO:=.pre ((lE' s.3∧lE' st.3∧t=t∧n=n)∧LN t n (HPS.en x) st s) (.ite (enF t n x.12 st s).1 (.ite (EO.e (enF t n x.12 st s)).2 (.pre ((t=t∧n=n)∧w1z∧lE' (EO.s (enF t n x.12 st s)).3∧lE' (EO.st (enF t n x.12 st s)).3) (.ret {d:=false,x:= {x with at':=6,p:= {now:=true,code:=4,okk:=false,val:=0,addr:=0,old:=0,nxt:=0,mark:=false,pops:=0},ex:=eN,en:=bZ,fn:=bQ,cl:=b9,pr:=dG},st:=(enF t n x.12 st s).3,s:=(enF t n x.12 st s).4})) (.pre True (.pre (oG t n (EO.st (enF t n x.12 st s)).1 (fJ x.7 x.9) (l8 x.7 x.8 x.9) x.4∧True) (.pre ((t=t∧n=n)∧t=t∧n=n∧w21∧lE' (EO.s (enF t n x.12 st s)).3∧lE' (EO.st (enF t n x.12 st s)).3) (.ret {d:=false,x:= {x with at':=5,ex:=eN,en:=bZ,fn:=uI t n (EO.st (enF t n x.12 st s)).1 (fJ x.7 x.9) (l8 x.7 x.8 x.9) x.4,cl:=b9,pr:=dG},st:=(enF t n x.12 st s).3,s:=(enF t n x.12 st s).4}))))) (.pre ((t=t∧n=n)∧t=t∧n=n∧(false=false→(4:Int)=(4:Int))∧lE' (EO.s (enF t n x.12 st s)).3∧lE' (EO.st (enF t n x.12 st s)).3) (.ret {d:=false,x:= {x with at':=4,ex:=eN,en:=(enF t n x.12 st s).2,fn:=bQ,cl:=b9,pr:=dG},st:=(enF t n x.12 st s).3,s:=(enF t n x.12 st s).4})))
theorem K6(t n:Int)(x:HPS)(st:STS)(s:MS)(K:HpO→Prop)(h:(CF t n x st s).run K):cT' 152 [.ptr 0 0,.ptr 2 0] [cE' [.ptr 1 0,.I x.u,.int .u64 x.no,.I x.rounds,.I x.limit,.I 4,.int .u64 x.found,.I x.sh,.I x.kd,.I x.ky,.bool x.p.now,.I x.p.code,.bool x.p.okk,.I x.p.val,.I x.p.addr,.int .u64 x.p.old,.I x.p.nxt,.bool x.p.mark,.I x.p.pops,.O,.ptr 4 0,.O,.O,.O],gV 5 t n st,aZ 3 s,bA s,some (.abs (.ensure t n x.en) [1]),gW st] (bR 4 0 [19,20,21,22,23] [(.cell 1 4,.ints (some .i64))] (wC t n) K):=by
 exact cM' (E:=EH0) (by kernel_rfl) h
abbrev w1x(n:Int)(s:MS)(t:Int)(x:HPS):=FnO.x (aO t n x.13 s)
abbrev w1t(n:Int)(s:MS)(st:STS)(t:Int)(x:HPS):=bJ x.7 x.8 x.9 (w1x n s t x).1 (w1x n s t x).2 (w1x n s t x).3 (w1x n s t x).4 st.2
abbrev w20:=false=false→(9:Int)≠(3:Int)∧(9:Int)≠(4:Int)∧(9:Int)≠(5:Int)∧(9:Int)≠(7:Int)∧(9:Int)≠(8:Int)
def CG(t n:Int)(x:HPS)(st:STS)(s:MS):Tr HpO:=.pre (lE' s.3∧KK t n x.13 s) (.ite (aO t n x.13 s).1 (.pre ((lE' st.3∧lE' (w1x n s t x).6∧st.3.length+List.length (w1x n s t x).6≤(4294967296:Nat))∧True) (.pre (vD x.7 x.8 x.9 (w1x n s t x).1 (w1x n s t x).2 (w1x n s t x).3 (w1x n s t x).4 st.2∧True) (.ite (w1x n s t x).7 (.pre ((t=t∧n=n)∧w1w∧lE' (FnO.s (aO t n x.13 s)).3∧st.3.length+List.length (w1x n s t x).6=List.length (st.3++(w1x n s t x).6)) (.ret {d:=false,x:= {x with at':=0,p:=bJ x.7 x.8 x.9 (w1x n s t x).1 (w1x n s t x).2 (w1x n s t x).3 (w1x n s t x).4 st.2,ex:=eN,en:=bZ,fn:=bQ,cl:=b9,pr:=dG},st:= {me:=st.1,sp:=st.2,R:=st.3++(w1x n s t x).6},s:=(aO t n x.13 s).3})) (.ite (w1t n s st t x).1 (.pre ((t=t∧n=n)∧w1z∧lE' (FnO.s (aO t n x.13 s)).3∧st.3.length+List.length (w1x n s t x).6=List.length (st.3++(w1x n s t x).6)) (.ret {d:=false,x:= {x with at':=6,p:=bJ x.7 x.8 x.9 (w1x n s t x).1 (w1x n s t x).2 (w1x n s t x).3 (w1x n s t x).4 st.2,ex:=eN,en:=bZ,fn:=bQ,cl:=b9,pr:=dG},st:= {me:=st.1,sp:=st.2,R:=st.3++(w1x n s t x).6},s:=(aO t n x.13 s).3})) (.pre (nZ (w1t n s st t x).1 (w1t n s st t x).2 (w1t n s st t x).3 (w1t n s st t x).4 (w1t n s st t x).5 (w1t n s st t x).6 (w1t n s st t x).7 (w1t n s st t x).8 (w1t n s st t x).9) (.ite (zA (w1t n s st t x).1 (w1t n s st t x).2 (w1t n s st t x).3 (w1t n s st t x).4 (w1t n s st t x).5 (w1t n s st t x).6 (w1t n s st t x).7 (w1t n s st t x).8 (w1t n s st t x).9) (.pre (pP t n (w1t n s st t x).5∧True) (.pre ((t=t∧n=n)∧t=t∧n=n∧(false=false→(7:Int)=(7:Int))∧lE' (FnO.s (aO t n x.13 s)).3∧st.3.length+List.length (w1x n s t x).6=List.length (st.3++(w1x n s t x).6)) (.ret {d:=false,x:= {x with at':=7,p:=bJ x.7 x.8 x.9 (w1x n s t x).1 (w1x n s t x).2 (w1x n s t x).3 (w1x n s t x).4 st.2,ex:=eN,en:=bZ,fn:=bQ,cl:=yH t n (w1t n s st t x).5,pr:=dG},st:= {me:=st.1,sp:=st.2,R:=st.3++(w1x n s t x).6},s:=(aO t n x.13 s).3}))) (.pre True (.ite (fW x.8) (.pre ((st.3.length+List.length (w1x n s t x).6=List.length (st.3++(w1x n s t x).6)∧C7 t n x.9 (w1x n s t x).3 {me:=st.1,sp:=st.2,R:=st.3++(w1x n s t x).6})∧True) (.pre ((t=t∧n=n)∧t=t∧n=n∧(false=false→(8:Int)=(8:Int))∧lE' (FnO.s (aO t n x.13 s)).3∧lE' (Prod.snd (qE t n x.9 (w1x n s t x).3 {me:=st.1,sp:=st.2,R:=st.3++(w1x n s t x).6})).3) (.ret {d:=false,x:= {x with at':=8,p:=bJ x.7 x.8 x.9 (w1x n s t x).1 (w1x n s t x).2 (w1x n s t x).3 (w1x n s t x).4 st.2,ex:=eN,en:=bZ,fn:=bQ,cl:=b9,pr:=(qE t n x.9 (w1x n s t x).3 {me:=st.1,sp:=st.2,R:=st.3++(w1x n s t x).6}).1},st:=(qE t n x.9 (w1x n s t x).3 {me:=st.1,sp:=st.2,R:=st.3++(w1x n s t x).6}).2,s:=(aO t n x.13 s).3}))) (.pre ((t=t∧n=n)∧w20∧lE' (FnO.s (aO t n x.13 s)).3∧st.3.length+List.length (w1x n s t x).6=List.length (st.3++(w1x n s t x).6)) (.ret {d:=false,x:= {x with at':=9,p:=bJ x.7 x.8 x.9 (w1x n s t x).1 (w1x n s t x).2 (w1x n s t x).3 (w1x n s t x).4 st.2,ex:=eN,en:=bZ,fn:=bQ,cl:=b9,pr:=dG},st:= {me:=st.1,sp:=st.2,R:=st.3++(w1x n s t x).6},s:=(aO t n x.13 s).3})))))))))) (.pre ((t=t∧n=n)∧t=t∧n=n∧w21∧lE' (FnO.s (aO t n x.13 s)).3∧lE' st.3) (.ret {d:=false,x:= {x with at':=5,ex:=eN,en:=bZ,fn:=(aO t n x.13 s).2,cl:=b9,pr:=dG},st:=st,s:=(aO t n x.13 s).3})))
theorem K7(t n:Int)(x:HPS)(st:STS)(s:MS)(K:HpO→Prop)(h:(CG t n x st s).run K):cT' 152 [.ptr 0 0,.ptr 2 0] [cE' [.ptr 1 0,.I x.u,.int .u64 x.no,.I x.rounds,.I x.limit,.I 5,.int .u64 x.found,.I x.sh,.I x.kd,.I x.ky,.bool x.p.now,.I x.p.code,.bool x.p.okk,.I x.p.val,.I x.p.addr,.int .u64 x.p.old,.I x.p.nxt,.bool x.p.mark,.I x.p.pops,.O,.O,.ptr 4 0,.O,.O],gV 5 t n st,aZ 3 s,bA s,some (.abs (.find t n x.fn) []),gW st] (bR 4 0 [19,20,21,22,23] [(.cell 1 4,.ints (some .i64))] (wC t n) K):=by
 exact cM' (E:=EH0) (by kernel_rfl) h
def CH(t n:Int)(x:HPS)(st:STS)(s:MS):Tr HpO:=.pre True (.pre True (.pre True (.pre (w1y n t x) (.pre ((lE' s.3∧(0:Int)≤s.4∧s.4≤(4611686018427387904:Int))∧True) (.pre ((t=t∧n=n)∧w1w∧lE' (bif aU s.3 (2*n+5+2*t+3*x.1+2) x.6 then aV s.3 (2*n+5+2*t+3*x.1+2) (bif dOk (aA x.6 0 12) 0 0 (bif ieq (HPS.p x).2 4 then 1 else 0) 5 (HPS.p x).4 then cK (aA x.6 0 12) 0 0 (bif ieq (HPS.p x).2 4 then 1 else 0) (HPS.p x).3 5 (HPS.p x).4 else 0)else s.3)∧lE' st.3) (.ret {d:=false,x:= {x with at':=0,ex:=eN,en:=bZ,fn:=bQ,cl:=b9,pr:=dG},st:=st,s:= {t:=s.1,n:=s.2,xs:=bif aU s.3 (2*n+5+2*t+3*x.1+2) x.6 then aV s.3 (2*n+5+2*t+3*x.1+2) (bif dOk (aA x.6 0 12) 0 0 (bif ieq (HPS.p x).2 4 then 1 else 0) 5 (HPS.p x).4 then cK (aA x.6 0 12) 0 0 (bif ieq (HPS.p x).2 4 then 1 else 0) (HPS.p x).3 5 (HPS.p x).4 else 0)else s.3,c:=s.4+1,k:=3,a:=2*n+5+2*t+3*x.1+2,o:=aE s.3 (2*n+5+2*t+3*x.1+2),w:=bif bL s.3 (2*n+5+2*t+3*x.1+2)then bif dOk (aA x.6 0 12) 0 0 (bif ieq (HPS.p x).2 4 then 1 else 0) 5 (HPS.p x).4 then cK (aA x.6 0 12) 0 0 (bif ieq (HPS.p x).2 4 then 1 else 0) (HPS.p x).3 5 (HPS.p x).4 else 0 else 0,ok:=aU s.3 (2*n+5+2*t+3*x.1+2) x.6} }))))))
theorem K8(t n:Int)(x:HPS)(st:STS)(s:MS)(K:HpO→Prop)(h:(CH t n x st s).run K):cT' 152 [.ptr 0 0,.ptr 2 0] [cE' [.ptr 1 0,.I x.u,.int .u64 x.no,.I x.rounds,.I x.limit,.I 6,.int .u64 x.found,.I x.sh,.I x.kd,.I x.ky,.bool x.p.now,.I x.p.code,.bool x.p.okk,.I x.p.val,.I x.p.addr,.int .u64 x.p.old,.I x.p.nxt,.bool x.p.mark,.I x.p.pops,.O,.O,.O,.O,.O],gV 4 t n st,aZ 3 s,bA s,gW st] (bR 4 0 [19,20,21,22,23] [(.cell 1 4,.ints (some .i64))] (wC t n) K):=by
 exact cM' (E:=EH0) (by kernel_rfl) h
def CI(t n:Int)(x:HPS)(st:STS)(s:MS):Tr HpO:=.pre (lE' s.3∧NO t n x.14 s) (.ite (oE t n x.14 s).1 (.pre ((t=t∧n=n)∧w1w∧lE' (ClO.s (oE t n x.14 s)).3∧lE' st.3) (.ret {d:=false,x:= {x with at':=0,ex:=eN,en:=bZ,fn:=bQ,cl:=b9,pr:=dG},st:=st,s:=(oE t n x.14 s).3})) (.pre ((t=t∧n=n)∧t=t∧n=n∧(false=false→(7:Int)=(7:Int))∧lE' (ClO.s (oE t n x.14 s)).3∧lE' st.3) (.ret {d:=false,x:= {x with at':=7,ex:=eN,en:=bZ,fn:=bQ,cl:=(oE t n x.14 s).2,pr:=dG},st:=st,s:=(oE t n x.14 s).3})))
theorem K9(t n:Int)(x:HPS)(st:STS)(s:MS)(K:HpO→Prop)(h:(CI t n x st s).run K):cT' 152 [.ptr 0 0,.ptr 2 0] [cE' [.ptr 1 0,.I x.u,.int .u64 x.no,.I x.rounds,.I x.limit,.I 7,.int .u64 x.found,.I x.sh,.I x.kd,.I x.ky,.bool x.p.now,.I x.p.code,.bool x.p.okk,.I x.p.val,.I x.p.addr,.int .u64 x.p.old,.I x.p.nxt,.bool x.p.mark,.I x.p.pops,.O,.O,.O,.ptr 4 0,.O],gV 5 t n st,aZ 3 s,bA s,some (.abs (.clear t n x.cl) []),gW st] (bR 4 0 [19,20,21,22,23] [(.cell 1 4,.ints (some .i64))] (wC t n) K):=by
 exact cM' (E:=EH0) (by kernel_rfl) h
def CJ(t n:Int)(x:HPS)(st:STS)(s:MS):Tr HpO:=.pre ((lE' s.3∧lE' st.3∧t=t∧n=n)∧QJ t n x.15 st s) (.ite (prF t n x.15 st s).1 (.pre ((t=t∧n=n)∧w20∧lE' (PrO.s (prF t n x.15 st s)).3∧lE' (PrO.st (prF t n x.15 st s)).3) (.ret {d:=false,x:= {x with at':=9,ex:=eN,en:=bZ,fn:=bQ,cl:=b9,pr:=dG},st:=(prF t n x.15 st s).3,s:=(prF t n x.15 st s).4})) (.pre ((t=t∧n=n)∧t=t∧n=n∧(false=false→(8:Int)=(8:Int))∧lE' (PrO.s (prF t n x.15 st s)).3∧lE' (PrO.st (prF t n x.15 st s)).3) (.ret {d:=false,x:= {x with at':=8,ex:=eN,en:=bZ,fn:=bQ,cl:=b9,pr:=(prF t n x.15 st s).2},st:=(prF t n x.15 st s).3,s:=(prF t n x.15 st s).4})))
theorem LA(t n:Int)(x:HPS)(st:STS)(s:MS)(K:HpO→Prop)(h:(CJ t n x st s).run K):cT' 152 [.ptr 0 0,.ptr 2 0] [cE' [.ptr 1 0,.I x.u,.int .u64 x.no,.I x.rounds,.I x.limit,.I 8,.int .u64 x.found,.I x.sh,.I x.kd,.I x.ky,.bool x.p.now,.I x.p.code,.bool x.p.okk,.I x.p.val,.I x.p.addr,.int .u64 x.p.old,.I x.p.nxt,.bool x.p.mark,.I x.p.pops,.O,.O,.O,.O,.ptr 4 0],gV 5 t n st,aZ 3 s,bA s,some (.abs (.prepare t n x.pr) [1]),gW st] (bR 4 0 [19,20,21,22,23] [(.cell 1 4,.ints (some .i64))] (wC t n) K):=by
 exact cM' (E:=EH0) (by kernel_rfl) h
abbrev w1v(x:HPS):=gE (HPS.p x).1 (HPS.p x).2 (HPS.p x).3 (HPS.p x).4 (HPS.p x).5 (HPS.p x).6 (HPS.p x).7 (HPS.p x).8 (HPS.p x).9 (aA x.6 0 12)
def CK(t n:Int)(x:HPS)(st:STS)(s:MS):Tr HpO:=.pre True (.pre (zB (HPS.p x).1 (HPS.p x).2 (HPS.p x).3 (HPS.p x).4 (HPS.p x).5 (HPS.p x).6 (HPS.p x).7 (HPS.p x).8 (HPS.p x).9 (aA x.6 0 12)∧True) (.pre (w1y n t x) (.pre ((lE' s.3∧(0:Int)≤s.4∧s.4≤(4611686018427387904:Int))∧True) (.ite (aU s.3 (2*n+5+2*t+3*x.1+2) x.6) (.pre True (.ite (fW x.8) (.pre ((t=t∧n=n)∧w1w∧lE' (bif aU s.3 (2*n+5+2*t+3*x.1+2) x.6 then aV s.3 (2*n+5+2*t+3*x.1+2) (w1v x).1 else s.3)∧lE' st.3) (.ret {d:=false,x:= {x with at':=0,ex:=eN,en:=bZ,fn:=bQ,cl:=b9,pr:=dG},st:= {me:=st.1,sp:=0,R:=st.3},s:= {t:=s.1,n:=s.2,xs:=bif aU s.3 (2*n+5+2*t+3*x.1+2) x.6 then aV s.3 (2*n+5+2*t+3*x.1+2) (w1v x).1 else s.3,c:=s.4+1,k:=3,a:=2*n+5+2*t+3*x.1+2,o:=aE s.3 (2*n+5+2*t+3*x.1+2),w:=bif bL s.3 (2*n+5+2*t+3*x.1+2)then(w1v x).1 else 0,ok:=aU s.3 (2*n+5+2*t+3*x.1+2) x.6} })) (.pre ((t=t∧n=n)∧w1w∧lE' (bif aU s.3 (2*n+5+2*t+3*x.1+2) x.6 then aV s.3 (2*n+5+2*t+3*x.1+2) (w1v x).1 else s.3)∧lE' st.3) (.ret {d:=false,x:= {x with at':=0,ex:=eN,en:=bZ,fn:=bQ,cl:=b9,pr:=dG},st:=st,s:= {t:=s.1,n:=s.2,xs:=bif aU s.3 (2*n+5+2*t+3*x.1+2) x.6 then aV s.3 (2*n+5+2*t+3*x.1+2) (w1v x).1 else s.3,c:=s.4+1,k:=3,a:=2*n+5+2*t+3*x.1+2,o:=aE s.3 (2*n+5+2*t+3*x.1+2),w:=bif bL s.3 (2*n+5+2*t+3*x.1+2)then(w1v x).1 else 0,ok:=aU s.3 (2*n+5+2*t+3*x.1+2) x.6} })))) (.pre ((t=t∧n=n)∧w1w∧lE' (bif aU s.3 (2*n+5+2*t+3*x.1+2) x.6 then aV s.3 (2*n+5+2*t+3*x.1+2) (w1v x).1 else s.3)∧lE' st.3) (.ret {d:=false,x:= {x with at':=0,ex:=eN,en:=bZ,fn:=bQ,cl:=b9,pr:=dG},st:=st,s:= {t:=s.1,n:=s.2,xs:=bif aU s.3 (2*n+5+2*t+3*x.1+2) x.6 then aV s.3 (2*n+5+2*t+3*x.1+2) (w1v x).1 else s.3,c:=s.4+1,k:=3,a:=2*n+5+2*t+3*x.1+2,o:=aE s.3 (2*n+5+2*t+3*x.1+2),w:=bif bL s.3 (2*n+5+2*t+3*x.1+2)then(w1v x).1 else 0,ok:=aU s.3 (2*n+5+2*t+3*x.1+2) x.6} }))))))
theorem LB(t n:Int)(x:HPS)(st:STS)(s:MS)(K:HpO→Prop)(h:(CK t n x st s).run K):cT' 152 [.ptr 0 0,.ptr 2 0] [cE' [.ptr 1 0,.I x.u,.int .u64 x.no,.I x.rounds,.I x.limit,.I 9,.int .u64 x.found,.I x.sh,.I x.kd,.I x.ky,.bool x.p.now,.I x.p.code,.bool x.p.okk,.I x.p.val,.I x.p.addr,.int .u64 x.p.old,.I x.p.nxt,.bool x.p.mark,.I x.p.pops,.O,.O,.O,.O,.O],gV 4 t n st,aZ 3 s,bA s,gW st] (bR 4 0 [19,20,21,22,23] [(.cell 1 4,.ints (some .i64))] (wC t n) K):=by
 exact cM' (E:=EH0) (by kernel_rfl) h
def hpT(t n:Int)(x:HPS)(st:STS)(s:MS):Tr HpO:=
 bif ieq x.at' 0 then CB t n x st s else
 bif ieq x.at' 1 then CC t n x st s else
 bif ieq x.at' 2 then CD t n x st s else
 bif ieq x.at' 3 then CE t n x st s else
 bif ieq x.at' 4 then CF t n x st s else
 bif ieq x.at' 5 then CG t n x st s else
 bif ieq x.at' 6 then CH t n x st s else
 bif ieq x.at' 7 then CI t n x st s else
 bif ieq x.at' 8 then CJ t n x st s else
 bif ieq x.at' 9 then CK t n x st s else .pre False (.ret default)
def gP(t n:Int)(x:HPS)(st:STS)(s:MS):HpO:=(hpT t n x st s).val
def PE(t n:Int)(x:HPS)(st:STS)(s:MS):Prop:=(hpT t n x st s).ok
theorem IG(t n:Int)(x:HPS)(st:STS)(s:MS)(K:AVal→aC Ob→Prop)(h:(hpT t n x st s).run (fun y=>(HpO.fin t n y).run K)):cT' 152 [.ptr 0 0,.ptr 2 0] (hpH t n x st s) K:=by
 unfold hpT at h
 by_cases e:x.at'=0
 ·rw [e]at h;have h:(CB t n x st s).run _:=h;refine aIm (root:=0) (pos:=[19,20,21,22,23]) (cs:=[(.cell 1 4,.ints (some .i64))]) (parse:=wC t n) (fin:=HpO.fin t n) kZ ((aT.unpack (.help t n x) 0 1 (nB t n x) [1] rfl (congrArg (Prod.mk 1) (jW ⟨(by omega),(by omega),(by omega),(by omega),(by omega)⟩)) (by kernel_rfl) rfl).trans (aT.unpack (.store t n st) 1 0 (dM t n st) [] rfl rfl rfl rfl)) ?_
  have q:=K2 t n x st s _ h;rw [←e]at q;exact q
 rw [bI e]at h
 by_cases e:x.at'=1
 ·rw [e]at h;have h:(CC t n x st s).run _:=h;refine aIm (root:=0) (pos:=[19,20,21,22,23]) (cs:=[(.cell 1 4,.ints (some .i64))]) (parse:=wC t n) (fin:=HpO.fin t n) kZ ((aT.unpack (.help t n x) 0 1 (nB t n x) [1] rfl (congrArg (Prod.mk 1) (jW ⟨(by omega),(by omega),(by omega),(by omega),(by omega)⟩)) (by kernel_rfl) rfl).trans (aT.unpack (.store t n st) 1 0 (dM t n st) [] rfl rfl rfl rfl)) ?_
  have q:=K3 t n x st s _ h;rw [←e]at q;exact q
 rw [bI e]at h
 by_cases e:x.at'=2
 ·rw [e]at h;have h:(CD t n x st s).run _:=h;refine aIm (root:=0) (pos:=[19,20,21,22,23]) (cs:=[(.cell 1 4,.ints (some .i64))]) (parse:=wC t n) (fin:=HpO.fin t n) kZ ((aT.unpack (.help t n x) 0 1 (nB t n x) [1] rfl (congrArg (Prod.mk 1) (jW ⟨(by omega),(by omega),(by omega),(by omega),(by omega)⟩)) (by kernel_rfl) rfl).trans (aT.unpack (.store t n st) 1 0 (dM t n st) [] rfl rfl rfl rfl)) ?_
  have q:=K4 t n x st s _ h;rw [←e]at q;exact q
 rw [bI e]at h
 by_cases e:x.at'=3
 ·rw [e]at h;have h:(CE t n x st s).run _:=h;refine aIm (root:=0) (pos:=[19,20,21,22,23]) (cs:=[(.cell 1 4,.ints (some .i64))]) (parse:=wC t n) (fin:=HpO.fin t n) kZ ((aT.unpack (.help t n x) 0 1 (uP t n x) [1] rfl (congrArg (Prod.mk 1) (IB e)) (by kernel_rfl) rfl).trans (aT.unpack (.store t n st) 1 0 (dM t n st) [] rfl rfl rfl rfl)) ?_
  have q:=K5 t n x st s _ h;rw [←e]at q;exact q
 rw [bI e]at h
 by_cases e:x.at'=4
 ·rw [e]at h;have h:(CF t n x st s).run _:=h;refine aIm (root:=0) (pos:=[19,20,21,22,23]) (cs:=[(.cell 1 4,.ints (some .i64))]) (parse:=wC t n) (fin:=HpO.fin t n) kZ ((aT.unpack (.help t n x) 0 1 (uO t n x) [1] rfl (congrArg (Prod.mk 1) (IC e)) (by kernel_rfl) rfl).trans (aT.unpack (.store t n st) 1 0 (dM t n st) [] rfl rfl rfl rfl)) ?_
  have q:=K6 t n x st s _ h;rw [←e]at q;exact q
 rw [bI e]at h
 by_cases e:x.at'=5
 ·rw [e]at h;have h:(CG t n x st s).run _:=h;refine aIm (root:=0) (pos:=[19,20,21,22,23]) (cs:=[(.cell 1 4,.ints (some .i64))]) (parse:=wC t n) (fin:=HpO.fin t n) kZ ((aT.unpack (.help t n x) 0 1 (uQ t n x) [1] rfl (congrArg (Prod.mk 1) (ID e)) (by kernel_rfl) rfl).trans (aT.unpack (.store t n st) 1 0 (dM t n st) [] rfl rfl rfl rfl)) ?_
  have q:=K7 t n x st s _ h;rw [←e]at q;exact q
 rw [bI e]at h
 by_cases e:x.at'=6
 ·rw [e]at h;have h:(CH t n x st s).run _:=h;refine aIm (root:=0) (pos:=[19,20,21,22,23]) (cs:=[(.cell 1 4,.ints (some .i64))]) (parse:=wC t n) (fin:=HpO.fin t n) kZ ((aT.unpack (.help t n x) 0 1 (nB t n x) [1] rfl (congrArg (Prod.mk 1) (jW ⟨(by omega),(by omega),(by omega),(by omega),(by omega)⟩)) (by kernel_rfl) rfl).trans (aT.unpack (.store t n st) 1 0 (dM t n st) [] rfl rfl rfl rfl)) ?_
  have q:=K8 t n x st s _ h;rw [←e]at q;exact q
 rw [bI e]at h
 by_cases e:x.at'=7
 ·rw [e]at h;have h:(CI t n x st s).run _:=h;refine aIm (root:=0) (pos:=[19,20,21,22,23]) (cs:=[(.cell 1 4,.ints (some .i64))]) (parse:=wC t n) (fin:=HpO.fin t n) kZ ((aT.unpack (.help t n x) 0 1 (uN t n x) [1] rfl (congrArg (Prod.mk 1) (IE e)) (by kernel_rfl) rfl).trans (aT.unpack (.store t n st) 1 0 (dM t n st) [] rfl rfl rfl rfl)) ?_
  have q:=K9 t n x st s _ h;rw [←e]at q;exact q
 rw [bI e]at h
 by_cases e:x.at'=8
 ·rw [e]at h;have h:(CJ t n x st s).run _:=h;refine aIm (root:=0) (pos:=[19,20,21,22,23]) (cs:=[(.cell 1 4,.ints (some .i64))]) (parse:=wC t n) (fin:=HpO.fin t n) kZ ((aT.unpack (.help t n x) 0 1 (uR t n x) [1] rfl (congrArg (Prod.mk 1) (IF e)) (by kernel_rfl) rfl).trans (aT.unpack (.store t n st) 1 0 (dM t n st) [] rfl rfl rfl rfl)) ?_
  have q:=LA t n x st s _ h;rw [←e]at q;exact q
 rw [bI e]at h
 by_cases e:x.at'=9
 ·rw [e]at h;have h:(CK t n x st s).run _:=h;refine aIm (root:=0) (pos:=[19,20,21,22,23]) (cs:=[(.cell 1 4,.ints (some .i64))]) (parse:=wC t n) (fin:=HpO.fin t n) kZ ((aT.unpack (.help t n x) 0 1 (nB t n x) [1] rfl (congrArg (Prod.mk 1) (jW ⟨(by omega),(by omega),(by omega),(by omega),(by omega)⟩)) (by kernel_rfl) rfl).trans (aT.unpack (.store t n st) 1 0 (dM t n st) [] rfl rfl rfl rfl)) ?_
  have q:=LB t n x st s _ h;rw [←e]at q;exact q
 rw [bI e]at h;exact h.1.elim
noncomputable def hpSA:aH Ob:=fun args h=>match args,h with
 | [.ptr 0 0,.ptr 2 0],[some (.abs (.help t n x) [1]),some (.abs (.store t2 n2 st) []),e3,e4]=>(match cO 3 [e3,e4]with
   | some (l,s)=>some (.pre ((l=s.xs.length∧t2=t∧n2=n)∧PE t n x st s) (HpO.fin t n (gP t n x st s)))
   | none=>none)
 | _,_=>none
theorem aCx:sT' 152 hpSA:=by
 intro args h o ho K hK;unfold hpSA at ho;split at ho
 case h_2=>cases ho
 split at ho<;>cases ho
 rename_i hm;obtain⟨⟨⟨hl,rfl,rfl⟩,ok⟩,hK⟩:=hK;cases bB hm hl;exact IG _ _ _ _ _ K (aIp ok hK)
def HpO.finB(t n:Int)(y:HpO):Out Ob:=.ite y.d (.ret (.bool true) ([cE' [.ptr 1 0,.I y.x.u,.int .u64 y.x.no,.I y.x.rounds,.I y.x.limit,.I y.x.at',.int .u64 y.x.found,.I y.x.sh,.I y.x.kd,.I y.x.ky,.bool y.x.p.now,.I y.x.p.code,.bool y.x.p.okk,.I y.x.p.val,.I y.x.p.addr,.int .u64 y.x.p.old,.I y.x.p.nxt,.bool y.x.p.mark,.I y.x.p.pops,.O,.O,.O,.O,.O],gV 5 t n y.st,none,aZ 4 y.s,bA y.s,gW y.st])) (.ret (.bool false) [some (.abs (.help t n y.x) [1]),gV 5 t n y.st,none,aZ 4 y.s,bA y.s,gW y.st])
noncomputable def hpSB:aH Ob:=fun args h=>match args,h with
 | [.ptr 0 0,.ptr 3 0],[some (.abs (.help t n x) [1]),e1,e2,e3,e4]=>(match lC 2 [e1,e2],cO 4 [e3,e4]with
   | some (l2,t2,n2,st),some (l,s)=>some (.pre ((l=s.xs.length∧l2=st.R.length∧t2=t∧n2=n)∧PE t n x st s) (HpO.finB t n (gP t n x st s)))
   | _,_=>none)
 | _,_=>none
theorem aCy:sT' 152 hpSB:=by
 intro args h o ho K hK;unfold hpSB at ho;split at ho
 case h_2=>cases ho
 split at ho<;>cases ho
 rename_i hs hm;obtain⟨⟨⟨hl,hl2,rfl,rfl⟩,ok⟩,hK⟩:=hK;cases bB hm hl;cases cD hs hl2;exact jM (fun ι hι=>by simp [aG.ren,aIA,AVal.ren,hι]) (fun ι hι=>by simp [aG.ren,hι]) (fun K hK=>IG _ _ _ _ _ K (aIp ok hK)) K hK
noncomputable def hpS:aH Ob:=aH.or hpSA hpSB
theorem aFn:sT' 152 hpS:=aIJ aCx aCy
def aCo(t n:Int)(v:AVal)(g:aC Ob):Option (Prop×(HPS×STS)):=match v,g with
 | .ptr 2 0,[e1,e2,some (.cells [.ptr 0 0,.int .i64 u,.int .u64 no,.int .i64 rounds,.int .i64 limit,.int .i64 at',.int .u64 found,.int .i64 sh,.int .i64 kd,.int .i64 ky,.bool p_now,.int .i64 p_code,.bool p_okk,.int .i64 p_val,.int .i64 p_addr,.int .u64 p_old,.int .i64 p_nxt,.bool p_mark,.int .i64 p_pops,.O,.O,.O,.O,.O])]=>(match lC 1 [e1,e2]with
   | some (l2,t2,n2,st)=>some ((t2=t∧n2=n∧l2=st.R.length)∧(at'≠3∧at'≠4∧at'≠5∧at'≠7∧at'≠8),⟨(⟨u,no,rounds,limit,at',found,sh,kd,ky,⟨p_now,p_code,p_okk,p_val,p_addr,p_old,p_nxt,p_mark,p_pops⟩,eN,bZ,bQ,⟨0,0,0,0⟩,⟨0,0,0,false⟩⟩:HPS),st⟩)
   | none=>none)
 | _,_=>none
abbrev W5(t n:Int)(y:(HPS×STS)):aC Ob:=[gV 1 t n y.2,gW y.2,some (.abs (.help t n y.1) [0])]
theorem W6{t n:Int} :bM (obI tbl) 2 (aCo t n) (fun y=>.ret (.ptr 2 0) (W5 t n y)):=by
 intro v g p x hp hq K hK;unfold aCo at hp;split at hp
 case h_2=>cases hp
 rename_i e1 e2 u no rounds limit at' found sh kd ky p_now p_code p_okk p_val p_addr p_old p_nxt p_mark p_pops;split at hp
 case h_2=>cases hp
 rename_i l2 t2 n2 st hs;cases hp;obtain⟨⟨rfl,rfl,hl2⟩,hat⟩:=hq;cases cD hs hl2;exact let X0:HPS:=⟨u,no,rounds,limit,at',found,sh,kd,ky,⟨p_now,p_code,p_okk,p_val,p_addr,p_old,p_nxt,p_mark,p_pops⟩,eN,bZ,bQ,⟨0,0,0,0⟩,⟨0,0,0,false⟩⟩;⟨⟨_,_,aF.pack (W5 t2 n2 (X0,st)) (.help t2 n2 X0) 2 1 (nB t2 n2 X0) [0] (by kernel_rfl) rfl (congrArg (Prod.mk 1) (jW hat)) (by kernel_rfl),hK⟩⟩
def K1(t n:Int)(u no lim:Int)(st:STS):Tr (HPS×STS):=.pre ((t=t∧n=n∧lE' st.3)∧(0:Int)≠(3:Int)∧(0:Int)≠(4:Int)∧(0:Int)≠(5:Int)∧(0:Int)≠(7:Int)∧(0:Int)≠(8:Int)) (.ret ({u:=u,no:=no,rounds:=0,limit:=lim,at':=0,found:=0,sh:=0,kd:=0,ky:=0,p:=aEm,ex:=eN,en:=bZ,fn:=bQ,cl:=b9,pr:=dG},st))
def wI(t n:Int)(u no lim:Int)(st:STS):(HPS×STS):=(K1 t n u no lim st).val
def CA(t n:Int)(u no lim:Int)(st:STS):Prop:=(K1 t n u no lim st).ok
def hpNS:aH Ob:=fun args h=>match args,h with
 | [.ptr 0 0,.int .i64 u,.int .u64 no,.int .i64 lim],[e1,e2]=>(match lC 1 [e1,e2]with
   | some (l2,t,n,st)=>some (.pre (l2=st.R.length∧CA t n u no lim st) (.ret (.ptr 2 0) (W5 t n (wI t n u no lim st))))
   | none=>none)
 | _,_=>none
theorem aCp:sT' 159 hpNS:=by
 intro args h o ho K hK;unfold hpNS at ho;split at ho
 case h_2=>cases ho
 rename_i u no lim e1 e2;split at ho<;>cases ho
 rename_i l2 t n st hs;obtain⟨⟨hl2,ok⟩,hK⟩:=hK;cases cD hs hl2;refine aIy (root:=2) (pos:=[19,20,21,22,23]) (cs:=[]) (parse:=aCo t n) W6 ?_;exact cM' (E:=EH0) (q:=(K1 t n u no lim st).run (fun y=>(Out.ret (.ptr 2 0) (W5 t n y)).run K)) (by kernel_rfl) (aIp ok hK)
noncomputable def EH:=((EH0.addS 152 hpS aFn).addS 159 hpNS aCp)
structure DqO where
 d:Bool
 x:DOS
 st:STS
 s:MS
instance:Inhabited DqO:=⟨⟨false,eS,⟨0,0,[]⟩,⟨0,0,[],0,0,0,0,0,false⟩⟩⟩
instance:Inhabited DOS:=⟨eS⟩
abbrev dqH(t n:Int)(x:DOS)(st:STS)(s:MS):aC Ob:=[some (.abs (.doer t n x) [1]),some (.abs (.store t n st) []),aZ 3 s,bA s]
abbrev dqD(t n:Int)(x:DOS)(st:STS)(s:MS):aC Ob:=[cE' [.ptr 1 0,.I x.code,.bool x.okk,.I x.val,.bool x.slow,.I x.sh,.I x.kd,.I x.ky,.I x.limit,.I x.at',.O,.O,.O,.O,.O,.O,.O,.O,.O],some (.abs (.store t n st) []),aZ 3 s,bA s]
def DqO.fin(t n:Int)(y:DqO):Out Ob:=.ite y.d (.ret (.bool true) (dqD t n y.x y.st y.s)) (.ret (.bool false) (dqH t n y.x y.st y.s))
def aAY(t n:Int)(v:AVal)(g:aC Ob):Option (Prop×DqO):=match v,g with
 | .bool d,[some (.cells [.ptr 1 0,.int .i64 code,.bool okk,.int .i64 val,.bool slow,.int .i64 sh,.int .i64 kd,.int .i64 ky,.int .i64 limit,.int .i64 at',.O,.O,.O,.O,.O,.O,.O,.O,.O]),e1,e3,e4,e2]=>(match lC 4 [e1,e2],cO 3 [e3,e4]with
   | some (l2,t2,n2,st),some (l,s)=>some ((t2=t∧n2=n)∧(d=false→at'≠0∧at'≠1∧at'≠5∧at'≠2∧at'≠3∧at'≠4∧at'≠6∧at'≠7∧at'≠8∧at'≠9)∧l=s.xs.length∧l2=st.R.length,⟨d,⟨code,okk,val,slow,sh,kd,ky,limit,at',⟨0,0,0,false⟩,dC,bZ,dD,⟨0,0,0,0,false,0⟩,⟨0,false,0,0⟩,bQ,⟨0,0⟩,cX⟩,st,s⟩)
   | _,_=>none)
 | _,_=>none
def aAZ(t n:Int)(v:AVal)(g:aC Ob):Option (Prop×DqO):=match v,g with
 | .bool d,[some (.cells [.ptr 1 0,.int .i64 code,.bool okk,.int .i64 val,.bool slow,.int .i64 sh,.int .i64 kd,.int .i64 ky,.int .i64 limit,.int .i64 at',.ptr 4 0,.O,.O,.O,.O,.O,.O,.O,.O]),e1,e3,e4,some (.abs (.head t' n' sub) []),e2]=>(match lC 5 [e1,e2],cO 3 [e3,e4]with
   | some (l2,t2,n2,st),some (l,s)=>some ((t2=t∧n2=n)∧t'=t∧n'=n∧(d=false→at'=0)∧l=s.xs.length∧l2=st.R.length,⟨d,⟨code,okk,val,slow,sh,kd,ky,limit,at',sub,dC,bZ,dD,⟨0,0,0,0,false,0⟩,⟨0,false,0,0⟩,bQ,⟨0,0⟩,cX⟩,st,s⟩)
   | _,_=>none)
 | _,_=>none
def aA0(t n:Int)(v:AVal)(g:aC Ob):Option (Prop×DqO):=match v,g with
 | .bool d,[some (.cells [.ptr 1 0,.int .i64 code,.bool okk,.int .i64 val,.bool slow,.int .i64 sh,.int .i64 kd,.int .i64 ky,.int .i64 limit,.int .i64 at',.O,.ptr 4 0,.O,.O,.O,.O,.O,.O,.O]),e1,e3,e4,some (.abs (.help t' n' sub) [1]),e2]=>(match lC 5 [e1,e2],cO 3 [e3,e4]with
   | some (l2,t2,n2,st),some (l,s)=>some ((t2=t∧n2=n)∧t'=t∧n'=n∧(d=false→at'=1∨at'=5)∧l=s.xs.length∧l2=st.R.length,⟨d,⟨code,okk,val,slow,sh,kd,ky,limit,at',⟨0,0,0,false⟩,sub,bZ,dD,⟨0,0,0,0,false,0⟩,⟨0,false,0,0⟩,bQ,⟨0,0⟩,cX⟩,st,s⟩)
   | _,_=>none)
 | _,_=>none
def aA1(t n:Int)(v:AVal)(g:aC Ob):Option (Prop×DqO):=match v,g with
 | .bool d,[some (.cells [.ptr 1 0,.int .i64 code,.bool okk,.int .i64 val,.bool slow,.int .i64 sh,.int .i64 kd,.int .i64 ky,.int .i64 limit,.int .i64 at',.O,.O,.ptr 4 0,.O,.O,.O,.O,.O,.O]),e1,e3,e4,some (.abs (.ensure t' n' sub) [1]),e2]=>(match lC 5 [e1,e2],cO 3 [e3,e4]with
   | some (l2,t2,n2,st),some (l,s)=>some ((t2=t∧n2=n)∧t'=t∧n'=n∧(d=false→at'=2)∧l=s.xs.length∧l2=st.R.length,⟨d,⟨code,okk,val,slow,sh,kd,ky,limit,at',⟨0,0,0,false⟩,dC,sub,dD,⟨0,0,0,0,false,0⟩,⟨0,false,0,0⟩,bQ,⟨0,0⟩,cX⟩,st,s⟩)
   | _,_=>none)
 | _,_=>none
def aA2(t n:Int)(v:AVal)(g:aC Ob):Option (Prop×DqO):=match v,g with
 | .bool d,[some (.cells [.ptr 1 0,.int .i64 code,.bool okk,.int .i64 val,.bool slow,.int .i64 sh,.int .i64 kd,.int .i64 ky,.int .i64 limit,.int .i64 at',.O,.O,.O,.ptr 4 0,.O,.O,.O,.O,.O]),e1,e3,e4,some (.abs (.fast t' n' sub) [1]),e2]=>(match lC 5 [e1,e2],cO 3 [e3,e4]with
   | some (l2,t2,n2,st),some (l,s)=>some ((t2=t∧n2=n)∧t'=t∧n'=n∧(d=false→at'=3)∧l=s.xs.length∧l2=st.R.length,⟨d,⟨code,okk,val,slow,sh,kd,ky,limit,at',⟨0,0,0,false⟩,dC,bZ,sub,⟨0,0,0,0,false,0⟩,⟨0,false,0,0⟩,bQ,⟨0,0⟩,cX⟩,st,s⟩)
   | _,_=>none)
 | _,_=>none
def aA3(t n:Int)(v:AVal)(g:aC Ob):Option (Prop×DqO):=match v,g with
 | .bool d,[some (.cells [.ptr 1 0,.int .i64 code,.bool okk,.int .i64 val,.bool slow,.int .i64 sh,.int .i64 kd,.int .i64 ky,.int .i64 limit,.int .i64 at',.O,.O,.O,.O,.ptr 4 0,.O,.O,.O,.O]),e1,e3,e4,some (.abs (.announce t' n' sub) []),e2]=>(match lC 5 [e1,e2],cO 3 [e3,e4]with
   | some (l2,t2,n2,st),some (l,s)=>some ((t2=t∧n2=n)∧t'=t∧n'=n∧(d=false→at'=4)∧l=s.xs.length∧l2=st.R.length,⟨d,⟨code,okk,val,slow,sh,kd,ky,limit,at',⟨0,0,0,false⟩,dC,bZ,dD,sub,⟨0,false,0,0⟩,bQ,⟨0,0⟩,cX⟩,st,s⟩)
   | _,_=>none)
 | _,_=>none
def aA4(t n:Int)(v:AVal)(g:aC Ob):Option (Prop×DqO):=match v,g with
 | .bool d,[some (.cells [.ptr 1 0,.int .i64 code,.bool okk,.int .i64 val,.bool slow,.int .i64 sh,.int .i64 kd,.int .i64 ky,.int .i64 limit,.int .i64 at',.O,.O,.O,.O,.O,.ptr 4 0,.O,.O,.O]),e1,e3,e4,some (.abs (.answer t' n' sub) []),e2]=>(match lC 5 [e1,e2],cO 3 [e3,e4]with
   | some (l2,t2,n2,st),some (l,s)=>some ((t2=t∧n2=n)∧t'=t∧n'=n∧(d=false→at'=6)∧l=s.xs.length∧l2=st.R.length,⟨d,⟨code,okk,val,slow,sh,kd,ky,limit,at',⟨0,0,0,false⟩,dC,bZ,dD,⟨0,0,0,0,false,0⟩,sub,bQ,⟨0,0⟩,cX⟩,st,s⟩)
   | _,_=>none)
 | _,_=>none
def aA5(t n:Int)(v:AVal)(g:aC Ob):Option (Prop×DqO):=match v,g with
 | .bool d,[some (.cells [.ptr 1 0,.int .i64 code,.bool okk,.int .i64 val,.bool slow,.int .i64 sh,.int .i64 kd,.int .i64 ky,.int .i64 limit,.int .i64 at',.O,.O,.O,.O,.O,.O,.ptr 4 0,.O,.O]),e1,e3,e4,some (.abs (.find t' n' sub) []),e2]=>(match lC 5 [e1,e2],cO 3 [e3,e4]with
   | some (l2,t2,n2,st),some (l,s)=>some ((t2=t∧n2=n)∧t'=t∧n'=n∧(d=false→at'=7)∧l=s.xs.length∧l2=st.R.length,⟨d,⟨code,okk,val,slow,sh,kd,ky,limit,at',⟨0,0,0,false⟩,dC,bZ,dD,⟨0,0,0,0,false,0⟩,⟨0,false,0,0⟩,sub,⟨0,0⟩,cX⟩,st,s⟩)
   | _,_=>none)
 | _,_=>none
def aA6(t n:Int)(v:AVal)(g:aC Ob):Option (Prop×DqO):=match v,g with
 | .bool d,[some (.cells [.ptr 1 0,.int .i64 code,.bool okk,.int .i64 val,.bool slow,.int .i64 sh,.int .i64 kd,.int .i64 ky,.int .i64 limit,.int .i64 at',.O,.O,.O,.O,.O,.O,.O,.ptr 4 0,.O]),e1,e3,e4,some (.abs (.drop t' n' sub) []),e2]=>(match lC 5 [e1,e2],cO 3 [e3,e4]with
   | some (l2,t2,n2,st),some (l,s)=>some ((t2=t∧n2=n)∧t'=t∧n'=n∧(d=false→at'=8)∧l=s.xs.length∧l2=st.R.length,⟨d,⟨code,okk,val,slow,sh,kd,ky,limit,at',⟨0,0,0,false⟩,dC,bZ,dD,⟨0,0,0,0,false,0⟩,⟨0,false,0,0⟩,bQ,sub,cX⟩,st,s⟩)
   | _,_=>none)
 | _,_=>none
def aA7(t n:Int)(v:AVal)(g:aC Ob):Option (Prop×DqO):=match v,g with
 | .bool d,[some (.cells [.ptr 1 0,.int .i64 code,.bool okk,.int .i64 val,.bool slow,.int .i64 sh,.int .i64 kd,.int .i64 ky,.int .i64 limit,.int .i64 at',.O,.O,.O,.O,.O,.O,.O,.O,.ptr 4 0]),e1,e3,e4,some (.abs (.sweep t' n' sub) [1]),e2]=>(match lC 5 [e1,e2],cO 3 [e3,e4]with
   | some (l2,t2,n2,st),some (l,s)=>some ((t2=t∧n2=n)∧t'=t∧n'=n∧(d=false→at'=9)∧l=s.xs.length∧l2=st.R.length,⟨d,⟨code,okk,val,slow,sh,kd,ky,limit,at',⟨0,0,0,false⟩,dC,bZ,dD,⟨0,0,0,0,false,0⟩,⟨0,false,0,0⟩,bQ,⟨0,0⟩,sub⟩,st,s⟩)
   | _,_=>none)
 | _,_=>none
def wA(t n:Int)(v:AVal)(g:aC Ob):Option (Prop×DqO):=(match aAY t n v g with
 | some r=>some r
 | none=>(match aAZ t n v g with
 | some r=>some r
 | none=>(match aA0 t n v g with
 | some r=>some r
 | none=>(match aA1 t n v g with
 | some r=>some r
 | none=>(match aA2 t n v g with
 | some r=>some r
 | none=>(match aA3 t n v g with
 | some r=>some r
 | none=>(match aA4 t n v g with
 | some r=>some r
 | none=>(match aA5 t n v g with
 | some r=>some r
 | none=>(match aA6 t n v g with
 | some r=>some r
 | none=>aA7 t n v g)))))))))
theorem UE{t n:Int} :bM (obI tbl) 4 (aAY t n) (DqO.fin t n):=by
 intro v g p x hp hq K hK;unfold aAY at hp;split at hp
 case h_2=>cases hp
 rename_i d code okk val slow sh kd ky limit at' e1 e3 e4 e2;split at hp
 case h_2=>cases hp
 rename_i l2 t2 n2 st l s hs hm;cases hp;obtain⟨⟨rfl,rfl⟩,hat,hl,hl2⟩:=hq;cases bB hm hl;cases cD hs hl2;refine fK hK (fun h=>?_) (fun hd h=>?_)
 ·exact tkP h (.store t2 n2 st) 1 0 (dM t2 n2 st) []
 ·exact wD h (.store t2 n2 st) 1 0 (dM t2 n2 st) [] 0 [1] rfl (congrArg (Prod.mk 1) (t8 (hat hd)))
theorem UF{t n:Int} :bM (obI tbl) 4 (aAZ t n) (DqO.fin t n):=by
 intro v g p x hp hq K hK;unfold aAZ at hp;split at hp
 case h_2=>cases hp
 rename_i d code okk val slow sh kd ky limit at' e1 e3 e4 t' n' sub e2;split at hp
 case h_2=>cases hp
 rename_i l2 t2 n2 st l s hs hm;cases hp;obtain⟨⟨rfl,rfl⟩,rfl,rfl,hat,hl,hl2⟩:=hq;cases bB hm hl;cases cD hs hl2;refine fK hK (fun h=>?_) (fun hd h=>?_)
 ·exact DI h [10,11,12,13,14,15,16,17,18] [0,1,2,3,5] (.store t' n' st) 1 0 (dM t' n' st) []
 ·exact wD h (.store t' n' st) 1 0 (dM t' n' st) [] 0 [1] rfl (congrArg (Prod.mk 1) (pT (hat hd)))
theorem UG{t n:Int} :bM (obI tbl) 4 (aA0 t n) (DqO.fin t n):=by
 intro v g p x hp hq K hK;unfold aA0 at hp;split at hp
 case h_2=>cases hp
 rename_i d code okk val slow sh kd ky limit at' e1 e3 e4 t' n' sub e2;split at hp
 case h_2=>cases hp
 rename_i l2 t2 n2 st l s hs hm;cases hp;obtain⟨⟨rfl,rfl⟩,rfl,rfl,hat,hl,hl2⟩:=hq;cases bB hm hl;cases cD hs hl2;refine fK hK (fun h=>?_) (fun hd h=>?_)
 ·exact DI h [10,11,12,13,14,15,16,17,18] [0,1,2,3,5] (.store t' n' st) 1 0 (dM t' n' st) []
 ·rcases hat hd with hat | hat
  ·exact wD h (.store t' n' st) 1 0 (dM t' n' st) [] 0 [1] rfl (congrArg (Prod.mk 1) (sS hat))
  ·exact wD h (.store t' n' st) 1 0 (dM t' n' st) [] 0 [1] rfl (congrArg (Prod.mk 1) (sW hat))
theorem UH{t n:Int} :bM (obI tbl) 4 (aA1 t n) (DqO.fin t n):=by
 intro v g p x hp hq K hK;unfold aA1 at hp;split at hp
 case h_2=>cases hp
 rename_i d code okk val slow sh kd ky limit at' e1 e3 e4 t' n' sub e2;split at hp
 case h_2=>cases hp
 rename_i l2 t2 n2 st l s hs hm;cases hp;obtain⟨⟨rfl,rfl⟩,rfl,rfl,hat,hl,hl2⟩:=hq;cases bB hm hl;cases cD hs hl2;refine fK hK (fun h=>?_) (fun hd h=>?_)
 ·exact DI h [10,11,12,13,14,15,16,17,18] [0,1,2,3,5] (.store t' n' st) 1 0 (dM t' n' st) []
 ·exact wD h (.store t' n' st) 1 0 (dM t' n' st) [] 0 [1] rfl (congrArg (Prod.mk 1) (sT (hat hd)))
theorem UI{t n:Int} :bM (obI tbl) 4 (aA2 t n) (DqO.fin t n):=by
 intro v g p x hp hq K hK;unfold aA2 at hp;split at hp
 case h_2=>cases hp
 rename_i d code okk val slow sh kd ky limit at' e1 e3 e4 t' n' sub e2;split at hp
 case h_2=>cases hp
 rename_i l2 t2 n2 st l s hs hm;cases hp;obtain⟨⟨rfl,rfl⟩,rfl,rfl,hat,hl,hl2⟩:=hq;cases bB hm hl;cases cD hs hl2;refine fK hK (fun h=>?_) (fun hd h=>?_)
 ·exact DI h [10,11,12,13,14,15,16,17,18] [0,1,2,3,5] (.store t' n' st) 1 0 (dM t' n' st) []
 ·exact wD h (.store t' n' st) 1 0 (dM t' n' st) [] 0 [1] rfl (congrArg (Prod.mk 1) (sU (hat hd)))
theorem UJ{t n:Int} :bM (obI tbl) 4 (aA3 t n) (DqO.fin t n):=by
 intro v g p x hp hq K hK;unfold aA3 at hp;split at hp
 case h_2=>cases hp
 rename_i d code okk val slow sh kd ky limit at' e1 e3 e4 t' n' sub e2;split at hp
 case h_2=>cases hp
 rename_i l2 t2 n2 st l s hs hm;cases hp;obtain⟨⟨rfl,rfl⟩,rfl,rfl,hat,hl,hl2⟩:=hq;cases bB hm hl;cases cD hs hl2;refine fK hK (fun h=>?_) (fun hd h=>?_)
 ·exact DI h [10,11,12,13,14,15,16,17,18] [0,1,2,3,5] (.store t' n' st) 1 0 (dM t' n' st) []
 ·exact wD h (.store t' n' st) 1 0 (dM t' n' st) [] 0 [1] rfl (congrArg (Prod.mk 1) (sV (hat hd)))
theorem UK{t n:Int} :bM (obI tbl) 4 (aA4 t n) (DqO.fin t n):=by
 intro v g p x hp hq K hK;unfold aA4 at hp;split at hp
 case h_2=>cases hp
 rename_i d code okk val slow sh kd ky limit at' e1 e3 e4 t' n' sub e2;split at hp
 case h_2=>cases hp
 rename_i l2 t2 n2 st l s hs hm;cases hp;obtain⟨⟨rfl,rfl⟩,rfl,rfl,hat,hl,hl2⟩:=hq;cases bB hm hl;cases cD hs hl2;refine fK hK (fun h=>?_) (fun hd h=>?_)
 ·exact DI h [10,11,12,13,14,15,16,17,18] [0,1,2,3,5] (.store t' n' st) 1 0 (dM t' n' st) []
 ·exact wD h (.store t' n' st) 1 0 (dM t' n' st) [] 0 [1] rfl (congrArg (Prod.mk 1) (sX (hat hd)))
theorem UL{t n:Int} :bM (obI tbl) 4 (aA5 t n) (DqO.fin t n):=by
 intro v g p x hp hq K hK;unfold aA5 at hp;split at hp
 case h_2=>cases hp
 rename_i d code okk val slow sh kd ky limit at' e1 e3 e4 t' n' sub e2;split at hp
 case h_2=>cases hp
 rename_i l2 t2 n2 st l s hs hm;cases hp;obtain⟨⟨rfl,rfl⟩,rfl,rfl,hat,hl,hl2⟩:=hq;cases bB hm hl;cases cD hs hl2;refine fK hK (fun h=>?_) (fun hd h=>?_)
 ·exact DI h [10,11,12,13,14,15,16,17,18] [0,1,2,3,5] (.store t' n' st) 1 0 (dM t' n' st) []
 ·exact wD h (.store t' n' st) 1 0 (dM t' n' st) [] 0 [1] rfl (congrArg (Prod.mk 1) (sY (hat hd)))
theorem UM{t n:Int} :bM (obI tbl) 4 (aA6 t n) (DqO.fin t n):=by
 intro v g p x hp hq K hK;unfold aA6 at hp;split at hp
 case h_2=>cases hp
 rename_i d code okk val slow sh kd ky limit at' e1 e3 e4 t' n' sub e2;split at hp
 case h_2=>cases hp
 rename_i l2 t2 n2 st l s hs hm;cases hp;obtain⟨⟨rfl,rfl⟩,rfl,rfl,hat,hl,hl2⟩:=hq;cases bB hm hl;cases cD hs hl2;refine fK hK (fun h=>?_) (fun hd h=>?_)
 ·exact DI h [10,11,12,13,14,15,16,17,18] [0,1,2,3,5] (.store t' n' st) 1 0 (dM t' n' st) []
 ·exact wD h (.store t' n' st) 1 0 (dM t' n' st) [] 0 [1] rfl (congrArg (Prod.mk 1) (sZ (hat hd)))
theorem UN{t n:Int} :bM (obI tbl) 4 (aA7 t n) (DqO.fin t n):=by
 intro v g p x hp hq K hK;unfold aA7 at hp;split at hp
 case h_2=>cases hp
 rename_i d code okk val slow sh kd ky limit at' e1 e3 e4 t' n' sub e2;split at hp
 case h_2=>cases hp
 rename_i l2 t2 n2 st l s hs hm;cases hp;obtain⟨⟨rfl,rfl⟩,rfl,rfl,hat,hl,hl2⟩:=hq;cases bB hm hl;cases cD hs hl2;refine fK hK (fun h=>?_) (fun hd h=>?_)
 ·exact DI h [10,11,12,13,14,15,16,17,18] [0,1,2,3,5] (.store t' n' st) 1 0 (dM t' n' st) []
 ·exact wD h (.store t' n' st) 1 0 (dM t' n' st) [] 0 [1] rfl (congrArg (Prod.mk 1) (s6 (hat hd)))
theorem kV{t n:Int} :bM (obI tbl) 4 (wA t n) (DqO.fin t n):=by
 intro v g p x hp hq K hK;unfold wA at hp;split at hp
 ·rename_i r hr;cases hp;exact UE v g p x hr hq K hK
 split at hp
 ·rename_i r hr;cases hp;exact UF v g p x hr hq K hK
 split at hp
 ·rename_i r hr;cases hp;exact UG v g p x hr hq K hK
 split at hp
 ·rename_i r hr;cases hp;exact UH v g p x hr hq K hK
 split at hp
 ·rename_i r hr;cases hp;exact UI v g p x hr hq K hK
 split at hp
 ·rename_i r hr;cases hp;exact UJ v g p x hr hq K hK
 split at hp
 ·rename_i r hr;cases hp;exact UK v g p x hr hq K hK
 split at hp
 ·rename_i r hr;cases hp;exact UL v g p x hr hq K hK
 split at hp
 ·rename_i r hr;cases hp;exact UM v g p x hr hq K hK
 exact UN v g p x hp hq K hK
abbrev w26:=false=false→(3:Int)=(3:Int)
abbrev w27(n:Int)(s:MS)(st:STS)(t:Int)(x:DOS):Tr DqO:=.ret {d:=false,x:= {x with at':=3,hd:=eD,hp:=dC,en:=bZ,ft:=(jU t n x.5 x.6 x.7 x.8 st).1,an:=eB,aw:=eC,fn:=bQ,dr:=fH,sw:=cX},st:=(jU t n x.5 x.6 x.7 x.8 st).2,s:=(pL t n x.10 s).3}
abbrev w28(x:DOS):=!bU x.5 x.6 x.7
abbrev w2b:=false=false→(2:Int)=(2:Int)
abbrev w2d(n:Int)(s:MS)(st:STS)(t:Int)(x:DOS):=wI t n (HdO.x (pL t n x.10 s)).1 (HdO.x (pL t n x.10 s)).2 x.8 st
abbrev w2e:=false=false→(1:Int)=(1:Int)∨(1:Int)=(5:Int)
def A0(t n:Int)(x:DOS)(st:STS)(s:MS):Tr DqO:=.pre True (.ite (w28 x) (.pre (lE' s.3∧(0:Int)≤s.4∧s.4≤(4611686018427387904:Int)) (.pre ((t=t∧n=n)∧t=t∧n=n∧(true=false→(0:Int)=(0:Int))∧lE' s.3∧lE' st.3) (.ret {d:=true,x:= {x with code:=1,okk:=false,val:=0,at':=0,hp:=dC,en:=bZ,ft:=dD,an:=eB,aw:=eC,fn:=bQ,dr:=fH,sw:=cX},st:=st,s:= {s with c:=s.4+1,k:=1,a:=0,o:=aE s.3 0,w:=aE s.3 0,ok:=bL s.3 0} }))) (.pre (lE' s.3∧aCi t n x.10 s) (.ite (pL t n x.10 s).1 (.ite (ilt (HdO.x (pL t n x.10 s)).1 0) (.pre True (.ite (fW x.6) (.ite (ieq st.2 0) (.pre (lE' st.3∧(t=t∧n=n∧lE' st.3)∧True) (.pre ((t=t∧n=n)∧t=t∧n=n∧w2b∧lE' (HdO.s (pL t n x.10 s)).3∧lE' st.3) (.ret {d:=false,x:= {x with at':=2,hd:=eD,hp:=dC,en:=bZ,ft:=dD,an:=eB,aw:=eC,fn:=bQ,dr:=fH,sw:=cX},st:=st,s:=(pL t n x.10 s).3}))) (.pre ((lE' st.3∧uJ t n x.5 x.6 x.7 x.8 st)∧True) (.pre ((t=t∧n=n)∧t=t∧n=n∧w26∧lE' (HdO.s (pL t n x.10 s)).3∧lE' (Prod.snd (jU t n x.5 x.6 x.7 x.8 st)).3) (w27 n s st t x)))) (.pre ((lE' st.3∧uJ t n x.5 x.6 x.7 x.8 st)∧True) (.pre ((t=t∧n=n)∧t=t∧n=n∧w26∧lE' (HdO.s (pL t n x.10 s)).3∧lE' (Prod.snd (jU t n x.5 x.6 x.7 x.8 st)).3) (w27 n s st t x))))) (.pre ((lE' st.3∧CA t n (HdO.x (pL t n x.10 s)).1 (HdO.x (pL t n x.10 s)).2 x.8 st)∧True) (.pre ((t=t∧n=n)∧t=t∧n=n∧w2e∧lE' (HdO.s (pL t n x.10 s)).3∧lE' (Prod.snd (w2d n s st t x)).3) (.ret {d:=false,x:= {x with at':=1,hd:=eD,hp:=(w2d n s st t x).1,en:=bZ,ft:=dD,an:=eB,aw:=eC,fn:=bQ,dr:=fH,sw:=cX},st:=(w2d n s st t x).2,s:=(pL t n x.10 s).3})))) (.pre ((t=t∧n=n)∧t=t∧n=n∧(false=false→(0:Int)=(0:Int))∧lE' (HdO.s (pL t n x.10 s)).3∧lE' st.3) (.ret {d:=false,x:= {x with at':=0,hd:=(pL t n x.10 s).2,hp:=dC,en:=bZ,ft:=dD,an:=eB,aw:=eC,fn:=bQ,dr:=fH,sw:=cX},st:=st,s:=(pL t n x.10 s).3})))))
theorem JQ(t n:Int)(x:DOS)(st:STS)(s:MS)(K:DqO→Prop)(h:(A0 t n x st s).run K):cT' 104 [.ptr 0 0,.ptr 2 0] [cE' [.ptr 1 0,.I x.code,.bool x.okk,.I x.val,.bool x.slow,.I x.sh,.I x.kd,.I x.ky,.I x.limit,.I 0,.ptr 4 0,.O,.O,.O,.O,.O,.O,.O,.O],gV 5 t n st,aZ 3 s,bA s,some (.abs (.head t n x.hd) []),gW st] (bR 4 0 [10,11,12,13,14,15,16,17,18] [(.cell 1 4,.ints (some .i64))] (wA t n) K):=by
 exact cM' (E:=EH) (by kernel_rfl) h
abbrev w25(n:Int)(s:MS)(st:STS)(t:Int)(x:DOS):Tr DqO:=.ret {d:=false,x:= {x with at':=3,hd:=eD,hp:=dC,en:=bZ,ft:=(jU t n x.5 x.6 x.7 x.8 (gP t n x.11 st s).3).1,an:=eB,aw:=eC,fn:=bQ,dr:=fH,sw:=cX},st:=(jU t n x.5 x.6 x.7 x.8 (gP t n x.11 st s).3).2,s:=(gP t n x.11 st s).4}
abbrev w2a(n:Int)(s:MS)(st:STS)(t:Int)(x:DOS):=HpO.st (gP t n x.11 st s)
def A1(t n:Int)(x:DOS)(st:STS)(s:MS):Tr DqO:=.pre True (.ite (w28 x) (.pre (lE' s.3∧(0:Int)≤s.4∧s.4≤(4611686018427387904:Int)) (.pre ((t=t∧n=n)∧t=t∧n=n∧(true=false→(1:Int)=(1:Int)∨(1:Int)=(5:Int))∧lE' s.3∧lE' st.3) (.ret {d:=true,x:= {x with code:=1,okk:=false,val:=0,at':=1,hd:=eD,en:=bZ,ft:=dD,an:=eB,aw:=eC,fn:=bQ,dr:=fH,sw:=cX},st:=st,s:= {s with c:=s.4+1,k:=1,a:=0,o:=aE s.3 0,w:=aE s.3 0,ok:=bL s.3 0} }))) (.pre ((lE' s.3∧lE' st.3∧t=t∧n=n)∧PE t n x.11 st s) (.ite (gP t n x.11 st s).1 (.pre True (.ite (fW x.6) (.ite (ieq (w2a n s st t x).2 0) (.pre (lE' (w2a n s st t x).3∧(t=t∧n=n∧lE' (w2a n s st t x).3)∧True) (.pre ((t=t∧n=n)∧t=t∧n=n∧w2b∧lE' (HpO.s (gP t n x.11 st s)).3∧lE' (w2a n s st t x).3) (.ret {d:=false,x:= {x with at':=2,hd:=eD,hp:=dC,en:=bZ,ft:=dD,an:=eB,aw:=eC,fn:=bQ,dr:=fH,sw:=cX},st:=(gP t n x.11 st s).3,s:=(gP t n x.11 st s).4}))) (.pre ((lE' (w2a n s st t x).3∧uJ t n x.5 x.6 x.7 x.8 (gP t n x.11 st s).3)∧True) (.pre ((t=t∧n=n)∧t=t∧n=n∧w26∧lE' (HpO.s (gP t n x.11 st s)).3∧lE' (Prod.snd (jU t n x.5 x.6 x.7 x.8 (gP t n x.11 st s).3)).3) (w25 n s st t x)))) (.pre ((lE' (w2a n s st t x).3∧uJ t n x.5 x.6 x.7 x.8 (gP t n x.11 st s).3)∧True) (.pre ((t=t∧n=n)∧t=t∧n=n∧w26∧lE' (HpO.s (gP t n x.11 st s)).3∧lE' (Prod.snd (jU t n x.5 x.6 x.7 x.8 (gP t n x.11 st s).3)).3) (w25 n s st t x))))) (.pre ((t=t∧n=n)∧t=t∧n=n∧w2e∧lE' (HpO.s (gP t n x.11 st s)).3∧lE' (w2a n s st t x).3) (.ret {d:=false,x:= {x with at':=1,hd:=eD,hp:=(gP t n x.11 st s).2,en:=bZ,ft:=dD,an:=eB,aw:=eC,fn:=bQ,dr:=fH,sw:=cX},st:=(gP t n x.11 st s).3,s:=(gP t n x.11 st s).4})))))
theorem JR(t n:Int)(x:DOS)(st:STS)(s:MS)(K:DqO→Prop)(h:(A1 t n x st s).run K):cT' 104 [.ptr 0 0,.ptr 2 0] [cE' [.ptr 1 0,.I x.code,.bool x.okk,.I x.val,.bool x.slow,.I x.sh,.I x.kd,.I x.ky,.I x.limit,.I 1,.O,.ptr 4 0,.O,.O,.O,.O,.O,.O,.O],gV 5 t n st,aZ 3 s,bA s,some (.abs (.help t n x.hp) [1]),gW st] (bR 4 0 [10,11,12,13,14,15,16,17,18] [(.cell 1 4,.ints (some .i64))] (wA t n) K):=by
 exact cM' (E:=EH) (by kernel_rfl) h
abbrev w23:=false=false→(8:Int)=(8:Int)
def A2(t n:Int)(x:DOS)(st:STS)(s:MS):Tr DqO:=.pre True (.ite (w28 x) (.pre (lE' s.3∧(0:Int)≤s.4∧s.4≤(4611686018427387904:Int)) (.pre ((t=t∧n=n)∧t=t∧n=n∧(true=false→(2:Int)=(2:Int))∧lE' s.3∧lE' st.3) (.ret {d:=true,x:= {x with code:=1,okk:=false,val:=0,at':=2,hd:=eD,hp:=dC,ft:=dD,an:=eB,aw:=eC,fn:=bQ,dr:=fH,sw:=cX},st:=st,s:= {s with c:=s.4+1,k:=1,a:=0,o:=aE s.3 0,w:=aE s.3 0,ok:=bL s.3 0} }))) (.pre ((lE' s.3∧lE' st.3∧t=t∧n=n)∧LN t n (DOS.en x) st s) (.ite (enF t n x.12 st s).1 (.ite (EO.e (enF t n x.12 st s)).2 (.pre (rT t n (EO.st (enF t n x.12 st s)).1∧True) (.pre ((t=t∧n=n)∧t=t∧n=n∧w23∧lE' (EO.s (enF t n x.12 st s)).3∧lE' (EO.st (enF t n x.12 st s)).3) (.ret {d:=false,x:= {x with code:=4,okk:=false,val:=0,at':=8,hd:=eD,hp:=dC,en:=bZ,ft:=dD,an:=eB,aw:=eC,fn:=bQ,dr:=BA t n (EO.st (enF t n x.12 st s)).1,sw:=cX},st:=(enF t n x.12 st s).3,s:=(enF t n x.12 st s).4}))) (.pre ((lE' (EO.st (enF t n x.12 st s)).3∧uJ t n x.5 x.6 x.7 x.8 (enF t n x.12 st s).3)∧True) (.pre ((t=t∧n=n)∧t=t∧n=n∧w26∧lE' (EO.s (enF t n x.12 st s)).3∧lE' (Prod.snd (jU t n x.5 x.6 x.7 x.8 (enF t n x.12 st s).3)).3) (.ret {d:=false,x:= {x with at':=3,hd:=eD,hp:=dC,en:=bZ,ft:=(jU t n x.5 x.6 x.7 x.8 (enF t n x.12 st s).3).1,an:=eB,aw:=eC,fn:=bQ,dr:=fH,sw:=cX},st:=(jU t n x.5 x.6 x.7 x.8 (enF t n x.12 st s).3).2,s:=(enF t n x.12 st s).4})))) (.pre ((t=t∧n=n)∧t=t∧n=n∧w2b∧lE' (EO.s (enF t n x.12 st s)).3∧lE' (EO.st (enF t n x.12 st s)).3) (.ret {d:=false,x:= {x with at':=2,hd:=eD,hp:=dC,en:=(enF t n x.12 st s).2,ft:=dD,an:=eB,aw:=eC,fn:=bQ,dr:=fH,sw:=cX},st:=(enF t n x.12 st s).3,s:=(enF t n x.12 st s).4})))))
theorem JS(t n:Int)(x:DOS)(st:STS)(s:MS)(K:DqO→Prop)(h:(A2 t n x st s).run K):cT' 104 [.ptr 0 0,.ptr 2 0] [cE' [.ptr 1 0,.I x.code,.bool x.okk,.I x.val,.bool x.slow,.I x.sh,.I x.kd,.I x.ky,.I x.limit,.I 2,.O,.O,.ptr 4 0,.O,.O,.O,.O,.O,.O],gV 5 t n st,aZ 3 s,bA s,some (.abs (.ensure t n x.en) [1]),gW st] (bR 4 0 [10,11,12,13,14,15,16,17,18] [(.cell 1 4,.ints (some .i64))] (wA t n) K):=by
 exact cM' (E:=EH) (by kernel_rfl) h
abbrev w29(n:Int)(s:MS)(st:STS)(t:Int)(x:DOS):=FtO.st (hO t n x.13 st s)
abbrev w22(n:Int)(s:MS)(st:STS)(t:Int)(x:DOS):Tr DqO:=.ret {d:=false,x:= {x with code:=(FtO.x (hO t n x.13 st s)).1,okk:=(FtO.x (hO t n x.13 st s)).2,val:=(FtO.x (hO t n x.13 st s)).3,at':=8,hd:=eD,hp:=dC,en:=bZ,ft:=dD,an:=eB,aw:=eC,fn:=bQ,dr:=BA t n (w29 n s st t x).1,sw:=cX},st:=(hO t n x.13 st s).3,s:=(hO t n x.13 st s).4}
abbrev w2c:=false=false→(7:Int)=(7:Int)
def A3(t n:Int)(x:DOS)(st:STS)(s:MS):Tr DqO:=.pre True (.ite (w28 x) (.pre (lE' s.3∧(0:Int)≤s.4∧s.4≤(4611686018427387904:Int)) (.pre ((t=t∧n=n)∧t=t∧n=n∧(true=false→(3:Int)=(3:Int))∧lE' s.3∧lE' st.3) (.ret {d:=true,x:= {x with code:=1,okk:=false,val:=0,at':=3,hd:=eD,hp:=dC,en:=bZ,an:=eB,aw:=eC,fn:=bQ,dr:=fH,sw:=cX},st:=st,s:= {s with c:=s.4+1,k:=1,a:=0,o:=aE s.3 0,w:=aE s.3 0,ok:=bL s.3 0} }))) (.pre ((lE' s.3∧lE' st.3∧t=t∧n=n)∧VP t n x.13 st s) (.ite (hO t n x.13 st s).1 (.ite (!(FtO.x (hO t n x.13 st s)).4) (.ite (!(FtO.x (hO t n x.13 st s)).2) (.pre (rT t n (w29 n s st t x).1∧True) (.pre ((t=t∧n=n)∧t=t∧n=n∧w23∧lE' (FtO.s (hO t n x.13 st s)).3∧lE' (w29 n s st t x).3) (w22 n s st t x))) (.pre True (.ite (!uS x.5 x.6) (.pre (rT t n (w29 n s st t x).1∧True) (.pre ((t=t∧n=n)∧t=t∧n=n∧w23∧lE' (FtO.s (hO t n x.13 st s)).3∧lE' (w29 n s st t x).3) (w22 n s st t x))) (.pre True (.pre (oG t n (w29 n s st t x).1 (fJ x.5 x.7) (l8 x.5 x.6 x.7) x.8∧True) (.pre ((t=t∧n=n)∧t=t∧n=n∧w2c∧lE' (FtO.s (hO t n x.13 st s)).3∧lE' (w29 n s st t x).3) (.ret {d:=false,x:= {x with code:=(FtO.x (hO t n x.13 st s)).1,okk:=(FtO.x (hO t n x.13 st s)).2,val:=(FtO.x (hO t n x.13 st s)).3,at':=7,hd:=eD,hp:=dC,en:=bZ,ft:=dD,an:=eB,aw:=eC,fn:=uI t n (w29 n s st t x).1 (fJ x.5 x.7) (l8 x.5 x.6 x.7) x.8,dr:=fH,sw:=cX},st:=(hO t n x.13 st s).3,s:=(hO t n x.13 st s).4}))))))) (.pre (NI t n (w29 n s st t x).1 x.5 x.6 x.7∧True) (.pre ((t=t∧n=n)∧t=t∧n=n∧(false=false→(4:Int)=(4:Int))∧lE' (FtO.s (hO t n x.13 st s)).3∧lE' (w29 n s st t x).3) (.ret {d:=false,x:= {x with slow:=true,at':=4,hd:=eD,hp:=dC,en:=bZ,ft:=dD,an:=aAt t n (w29 n s st t x).1 x.5 x.6 x.7,aw:=eC,fn:=bQ,dr:=fH,sw:=cX},st:=(hO t n x.13 st s).3,s:=(hO t n x.13 st s).4})))) (.pre ((t=t∧n=n)∧t=t∧n=n∧w26∧lE' (FtO.s (hO t n x.13 st s)).3∧lE' (w29 n s st t x).3) (.ret {d:=false,x:= {x with at':=3,hd:=eD,hp:=dC,en:=bZ,ft:=(hO t n x.13 st s).2,an:=eB,aw:=eC,fn:=bQ,dr:=fH,sw:=cX},st:=(hO t n x.13 st s).3,s:=(hO t n x.13 st s).4})))))
theorem JT(t n:Int)(x:DOS)(st:STS)(s:MS)(K:DqO→Prop)(h:(A3 t n x st s).run K):cT' 104 [.ptr 0 0,.ptr 2 0] [cE' [.ptr 1 0,.I x.code,.bool x.okk,.I x.val,.bool x.slow,.I x.sh,.I x.kd,.I x.ky,.I x.limit,.I 3,.O,.O,.O,.ptr 4 0,.O,.O,.O,.O,.O],gV 5 t n st,aZ 3 s,bA s,some (.abs (.fast t n x.ft) [1]),gW st] (bR 4 0 [10,11,12,13,14,15,16,17,18] [(.cell 1 4,.ints (some .i64))] (wA t n) K):=by
 exact cM' (E:=EH) (by kernel_rfl) h
abbrev w2f:=false=false→(5:Int)=(1:Int)∨(5:Int)=(5:Int)
def A4(t n:Int)(x:DOS)(st:STS)(s:MS):Tr DqO:=.pre True (.ite (w28 x) (.pre (lE' s.3∧(0:Int)≤s.4∧s.4≤(4611686018427387904:Int)) (.pre ((t=t∧n=n)∧t=t∧n=n∧(true=false→(4:Int)=(4:Int))∧lE' s.3∧lE' st.3) (.ret {d:=true,x:= {x with code:=1,okk:=false,val:=0,at':=4,hd:=eD,hp:=dC,en:=bZ,ft:=dD,aw:=eC,fn:=bQ,dr:=fH,sw:=cX},st:=st,s:= {s with c:=s.4+1,k:=1,a:=0,o:=aE s.3 0,w:=aE s.3 0,ok:=bL s.3 0} }))) (.pre (lE' s.3∧aAx t n x.14 s) (.ite (EJ t n x.14 s).1 (.pre ((lE' st.3∧CA t n st.1 (AnO.x (EJ t n x.14 s)).1 x.8 st)∧True) (.pre ((t=t∧n=n)∧t=t∧n=n∧w2f∧lE' (AnO.s (EJ t n x.14 s)).3∧lE' (Prod.snd (wI t n st.1 (AnO.x (EJ t n x.14 s)).1 x.8 st)).3) (.ret {d:=false,x:= {x with at':=5,hd:=eD,hp:=(wI t n st.1 (AnO.x (EJ t n x.14 s)).1 x.8 st).1,en:=bZ,ft:=dD,an:=eB,aw:=eC,fn:=bQ,dr:=fH,sw:=cX},st:=(wI t n st.1 (AnO.x (EJ t n x.14 s)).1 x.8 st).2,s:=(EJ t n x.14 s).3}))) (.pre ((t=t∧n=n)∧t=t∧n=n∧(false=false→(4:Int)=(4:Int))∧lE' (AnO.s (EJ t n x.14 s)).3∧lE' st.3) (.ret {d:=false,x:= {x with at':=4,hd:=eD,hp:=dC,en:=bZ,ft:=dD,an:=(EJ t n x.14 s).2,aw:=eC,fn:=bQ,dr:=fH,sw:=cX},st:=st,s:=(EJ t n x.14 s).3})))))
theorem JU(t n:Int)(x:DOS)(st:STS)(s:MS)(K:DqO→Prop)(h:(A4 t n x st s).run K):cT' 104 [.ptr 0 0,.ptr 2 0] [cE' [.ptr 1 0,.I x.code,.bool x.okk,.I x.val,.bool x.slow,.I x.sh,.I x.kd,.I x.ky,.I x.limit,.I 4,.O,.O,.O,.O,.ptr 4 0,.O,.O,.O,.O],gV 5 t n st,aZ 3 s,bA s,some (.abs (.announce t n x.an) []),gW st] (bR 4 0 [10,11,12,13,14,15,16,17,18] [(.cell 1 4,.ints (some .i64))] (wA t n) K):=by
 exact cM' (E:=EH) (by kernel_rfl) h
def A5(t n:Int)(x:DOS)(st:STS)(s:MS):Tr DqO:=.pre True (.ite (w28 x) (.pre (lE' s.3∧(0:Int)≤s.4∧s.4≤(4611686018427387904:Int)) (.pre ((t=t∧n=n)∧t=t∧n=n∧(true=false→(5:Int)=(1:Int)∨(5:Int)=(5:Int))∧lE' s.3∧lE' st.3) (.ret {d:=true,x:= {x with code:=1,okk:=false,val:=0,at':=5,hd:=eD,en:=bZ,ft:=dD,an:=eB,aw:=eC,fn:=bQ,dr:=fH,sw:=cX},st:=st,s:= {s with c:=s.4+1,k:=1,a:=0,o:=aE s.3 0,w:=aE s.3 0,ok:=bL s.3 0} }))) (.pre ((lE' s.3∧lE' st.3∧t=t∧n=n)∧PE t n x.11 st s) (.ite (gP t n x.11 st s).1 (.pre (NJ t n (w2a n s st t x).1∧True) (.pre ((t=t∧n=n)∧t=t∧n=n∧(false=false→(6:Int)=(6:Int))∧lE' (HpO.s (gP t n x.11 st s)).3∧lE' (w2a n s st t x).3) (.ret {d:=false,x:= {x with at':=6,hd:=eD,hp:=dC,en:=bZ,ft:=dD,an:=eB,aw:=aAB t n (w2a n s st t x).1,fn:=bQ,dr:=fH,sw:=cX},st:=(gP t n x.11 st s).3,s:=(gP t n x.11 st s).4}))) (.pre ((t=t∧n=n)∧t=t∧n=n∧w2f∧lE' (HpO.s (gP t n x.11 st s)).3∧lE' (w2a n s st t x).3) (.ret {d:=false,x:= {x with at':=5,hd:=eD,hp:=(gP t n x.11 st s).2,en:=bZ,ft:=dD,an:=eB,aw:=eC,fn:=bQ,dr:=fH,sw:=cX},st:=(gP t n x.11 st s).3,s:=(gP t n x.11 st s).4})))))
theorem JV(t n:Int)(x:DOS)(st:STS)(s:MS)(K:DqO→Prop)(h:(A5 t n x st s).run K):cT' 104 [.ptr 0 0,.ptr 2 0] [cE' [.ptr 1 0,.I x.code,.bool x.okk,.I x.val,.bool x.slow,.I x.sh,.I x.kd,.I x.ky,.I x.limit,.I 5,.O,.ptr 4 0,.O,.O,.O,.O,.O,.O,.O],gV 5 t n st,aZ 3 s,bA s,some (.abs (.help t n x.hp) [1]),gW st] (bR 4 0 [10,11,12,13,14,15,16,17,18] [(.cell 1 4,.ints (some .i64))] (wA t n) K):=by
 exact cM' (E:=EH) (by kernel_rfl) h
abbrev w24(n:Int)(s:MS)(st:STS)(t:Int)(x:DOS):Tr DqO:=.ret {d:=false,x:= {x with code:=(AwO.x (rR t n x.15 s)).1,okk:=(AwO.x (rR t n x.15 s)).2,val:=(AwO.x (rR t n x.15 s)).3,at':=8,hd:=eD,hp:=dC,en:=bZ,ft:=dD,an:=eB,aw:=eC,fn:=bQ,dr:=BA t n st.1,sw:=cX},st:=st,s:=(rR t n x.15 s).3}
def A6(t n:Int)(x:DOS)(st:STS)(s:MS):Tr DqO:=.pre True (.ite (w28 x) (.pre (lE' s.3∧(0:Int)≤s.4∧s.4≤(4611686018427387904:Int)) (.pre ((t=t∧n=n)∧t=t∧n=n∧(true=false→(6:Int)=(6:Int))∧lE' s.3∧lE' st.3) (.ret {d:=true,x:= {x with code:=1,okk:=false,val:=0,at':=6,hd:=eD,hp:=dC,en:=bZ,ft:=dD,an:=eB,fn:=bQ,dr:=fH,sw:=cX},st:=st,s:= {s with c:=s.4+1,k:=1,a:=0,o:=aE s.3 0,w:=aE s.3 0,ok:=bL s.3 0} }))) (.pre (lE' s.3∧aAF t n x.15 s) (.ite (rR t n x.15 s).1 (.ite (!(AwO.x (rR t n x.15 s)).2) (.pre (rT t n st.1∧True) (.pre ((t=t∧n=n)∧t=t∧n=n∧w23∧lE' (AwO.s (rR t n x.15 s)).3∧lE' st.3) (w24 n s st t x))) (.pre True (.ite (!uS x.5 x.6) (.pre (rT t n st.1∧True) (.pre ((t=t∧n=n)∧t=t∧n=n∧w23∧lE' (AwO.s (rR t n x.15 s)).3∧lE' st.3) (w24 n s st t x))) (.pre True (.pre (oG t n st.1 (fJ x.5 x.7) (l8 x.5 x.6 x.7) x.8∧True) (.pre ((t=t∧n=n)∧t=t∧n=n∧w2c∧lE' (AwO.s (rR t n x.15 s)).3∧lE' st.3) (.ret {d:=false,x:= {x with code:=(AwO.x (rR t n x.15 s)).1,okk:=(AwO.x (rR t n x.15 s)).2,val:=(AwO.x (rR t n x.15 s)).3,at':=7,hd:=eD,hp:=dC,en:=bZ,ft:=dD,an:=eB,aw:=eC,fn:=uI t n st.1 (fJ x.5 x.7) (l8 x.5 x.6 x.7) x.8,dr:=fH,sw:=cX},st:=st,s:=(rR t n x.15 s).3}))))))) (.pre ((t=t∧n=n)∧t=t∧n=n∧(false=false→(6:Int)=(6:Int))∧lE' (AwO.s (rR t n x.15 s)).3∧lE' st.3) (.ret {d:=false,x:= {x with at':=6,hd:=eD,hp:=dC,en:=bZ,ft:=dD,an:=eB,aw:=(rR t n x.15 s).2,fn:=bQ,dr:=fH,sw:=cX},st:=st,s:=(rR t n x.15 s).3})))))
theorem JW(t n:Int)(x:DOS)(st:STS)(s:MS)(K:DqO→Prop)(h:(A6 t n x st s).run K):cT' 104 [.ptr 0 0,.ptr 2 0] [cE' [.ptr 1 0,.I x.code,.bool x.okk,.I x.val,.bool x.slow,.I x.sh,.I x.kd,.I x.ky,.I x.limit,.I 6,.O,.O,.O,.O,.O,.ptr 4 0,.O,.O,.O],gV 5 t n st,aZ 3 s,bA s,some (.abs (.answer t n x.aw) []),gW st] (bR 4 0 [10,11,12,13,14,15,16,17,18] [(.cell 1 4,.ints (some .i64))] (wA t n) K):=by
 exact cM' (E:=EH) (by kernel_rfl) h
def A7(t n:Int)(x:DOS)(st:STS)(s:MS):Tr DqO:=.pre True (.ite (w28 x) (.pre (lE' s.3∧(0:Int)≤s.4∧s.4≤(4611686018427387904:Int)) (.pre ((t=t∧n=n)∧t=t∧n=n∧(true=false→(7:Int)=(7:Int))∧lE' s.3∧lE' st.3) (.ret {d:=true,x:= {x with code:=1,okk:=false,val:=0,at':=7,hd:=eD,hp:=dC,en:=bZ,ft:=dD,an:=eB,aw:=eC,dr:=fH,sw:=cX},st:=st,s:= {s with c:=s.4+1,k:=1,a:=0,o:=aE s.3 0,w:=aE s.3 0,ok:=bL s.3 0} }))) (.pre (lE' s.3∧KK t n x.16 s) (.ite (aO t n x.16 s).1 (.pre ((lE' st.3∧lE' (FnO.x (aO t n x.16 s)).6∧st.3.length+List.length (FnO.x (aO t n x.16 s)).6≤(4294967296:Nat))∧True) (.pre (rT t n st.1∧True) (.pre ((t=t∧n=n)∧t=t∧n=n∧w23∧lE' (FnO.s (aO t n x.16 s)).3∧st.3.length+List.length (FnO.x (aO t n x.16 s)).6=List.length (st.3++(FnO.x (aO t n x.16 s)).6)) (.ret {d:=false,x:= {x with at':=8,hd:=eD,hp:=dC,en:=bZ,ft:=dD,an:=eB,aw:=eC,fn:=bQ,dr:=BA t n st.1,sw:=cX},st:= {me:=st.1,sp:=st.2,R:=st.3++(FnO.x (aO t n x.16 s)).6},s:=(aO t n x.16 s).3})))) (.pre ((t=t∧n=n)∧t=t∧n=n∧w2c∧lE' (FnO.s (aO t n x.16 s)).3∧lE' st.3) (.ret {d:=false,x:= {x with at':=7,hd:=eD,hp:=dC,en:=bZ,ft:=dD,an:=eB,aw:=eC,fn:=(aO t n x.16 s).2,dr:=fH,sw:=cX},st:=st,s:=(aO t n x.16 s).3})))))
theorem JX(t n:Int)(x:DOS)(st:STS)(s:MS)(K:DqO→Prop)(h:(A7 t n x st s).run K):cT' 104 [.ptr 0 0,.ptr 2 0] [cE' [.ptr 1 0,.I x.code,.bool x.okk,.I x.val,.bool x.slow,.I x.sh,.I x.kd,.I x.ky,.I x.limit,.I 7,.O,.O,.O,.O,.O,.O,.ptr 4 0,.O,.O],gV 5 t n st,aZ 3 s,bA s,some (.abs (.find t n x.fn) []),gW st] (bR 4 0 [10,11,12,13,14,15,16,17,18] [(.cell 1 4,.ints (some .i64))] (wA t n) K):=by
 exact cM' (E:=EH) (by kernel_rfl) h
def A8(t n:Int)(x:DOS)(st:STS)(s:MS):Tr DqO:=.pre True (.ite (w28 x) (.pre (lE' s.3∧(0:Int)≤s.4∧s.4≤(4611686018427387904:Int)) (.pre ((t=t∧n=n)∧t=t∧n=n∧(true=false→(8:Int)=(8:Int))∧lE' s.3∧lE' st.3) (.ret {d:=true,x:= {x with code:=1,okk:=false,val:=0,at':=8,hd:=eD,hp:=dC,en:=bZ,ft:=dD,an:=eB,aw:=eC,fn:=bQ,sw:=cX},st:=st,s:= {s with c:=s.4+1,k:=1,a:=0,o:=aE s.3 0,w:=aE s.3 0,ok:=bL s.3 0} }))) (.pre (lE' s.3∧aBf t n x.17 s) (.ite (SX t n x.17 s).1 (.pre (lE' st.3∧(t=t∧n=n∧lE' st.3)∧True) (.pre ((0:Int)≤t∧t≤(100000:Int)) (.pre ((t=t∧n=n)∧t=t∧n=n∧((!ile (4*t) (↑st.3.length:Int))=false→(9:Int)=(9:Int))∧lE' (DrO.s (SX t n x.17 s)).3∧lE' st.3) (.ret {d:=!ile (4*t) (↑st.3.length:Int),x:= {x with at':=9,hd:=eD,hp:=dC,en:=bZ,ft:=dD,an:=eB,aw:=eC,fn:=bQ,dr:=fH,sw:=cX},st:=st,s:=(SX t n x.17 s).3})))) (.pre ((t=t∧n=n)∧t=t∧n=n∧w23∧lE' (DrO.s (SX t n x.17 s)).3∧lE' st.3) (.ret {d:=false,x:= {x with at':=8,hd:=eD,hp:=dC,en:=bZ,ft:=dD,an:=eB,aw:=eC,fn:=bQ,dr:=(SX t n x.17 s).2,sw:=cX},st:=st,s:=(SX t n x.17 s).3})))))
theorem JY(t n:Int)(x:DOS)(st:STS)(s:MS)(K:DqO→Prop)(h:(A8 t n x st s).run K):cT' 104 [.ptr 0 0,.ptr 2 0] [cE' [.ptr 1 0,.I x.code,.bool x.okk,.I x.val,.bool x.slow,.I x.sh,.I x.kd,.I x.ky,.I x.limit,.I 8,.O,.O,.O,.O,.O,.O,.O,.ptr 4 0,.O],gV 5 t n st,aZ 3 s,bA s,some (.abs (.drop t n x.dr) []),gW st] (bR 4 0 [10,11,12,13,14,15,16,17,18] [(.cell 1 4,.ints (some .i64))] (wA t n) K):=by
 exact cM' (E:=EH) (by kernel_rfl) h
def A9(t n:Int)(x:DOS)(st:STS)(s:MS):Tr DqO:=.pre True (.ite (w28 x) (.pre (lE' s.3∧(0:Int)≤s.4∧s.4≤(4611686018427387904:Int)) (.pre ((t=t∧n=n)∧t=t∧n=n∧(true=false→(9:Int)=(9:Int))∧lE' s.3∧lE' st.3) (.ret {d:=true,x:= {x with code:=1,okk:=false,val:=0,at':=9,hd:=eD,hp:=dC,en:=bZ,ft:=dD,an:=eB,aw:=eC,fn:=bQ,dr:=fH},st:=st,s:= {s with c:=s.4+1,k:=1,a:=0,o:=aE s.3 0,w:=aE s.3 0,ok:=bL s.3 0} }))) (.pre ((lE' s.3∧lE' st.3∧t=t∧n=n)∧qA t n (DOS.sw x) st s) (.ite (swF t n x.18 st s).1 (.pre ((t=t∧n=n)∧(true=false→(9:Int)≠(0:Int)∧(9:Int)≠(1:Int)∧(9:Int)≠(5:Int)∧(9:Int)≠(2:Int)∧(9:Int)≠(3:Int)∧(9:Int)≠(4:Int)∧(9:Int)≠(6:Int)∧(9:Int)≠(7:Int)∧(9:Int)≠(8:Int)∧(9:Int)≠(9:Int))∧lE' (SO.s (swF t n x.18 st s)).3∧lE' (SO.st (swF t n x.18 st s)).3) (.ret {d:=true,x:= {x with at':=9,hd:=eD,hp:=dC,en:=bZ,ft:=dD,an:=eB,aw:=eC,fn:=bQ,dr:=fH,sw:=cX},st:=(swF t n x.18 st s).3,s:=(swF t n x.18 st s).4})) (.pre ((t=t∧n=n)∧t=t∧n=n∧(false=false→(9:Int)=(9:Int))∧lE' (SO.s (swF t n x.18 st s)).3∧lE' (SO.st (swF t n x.18 st s)).3) (.ret {d:=false,x:= {x with at':=9,hd:=eD,hp:=dC,en:=bZ,ft:=dD,an:=eB,aw:=eC,fn:=bQ,dr:=fH,sw:=(swF t n x.18 st s).2},st:=(swF t n x.18 st s).3,s:=(swF t n x.18 st s).4})))))
theorem JZ(t n:Int)(x:DOS)(st:STS)(s:MS)(K:DqO→Prop)(h:(A9 t n x st s).run K):cT' 104 [.ptr 0 0,.ptr 2 0] [cE' [.ptr 1 0,.I x.code,.bool x.okk,.I x.val,.bool x.slow,.I x.sh,.I x.kd,.I x.ky,.I x.limit,.I 9,.O,.O,.O,.O,.O,.O,.O,.O,.ptr 4 0],gV 5 t n st,aZ 3 s,bA s,some (.abs (.sweep t n x.sw) [1]),gW st] (bR 4 0 [10,11,12,13,14,15,16,17,18] [(.cell 1 4,.ints (some .i64))] (wA t n) K):=by
 exact cM' (E:=EH) (by kernel_rfl) h
def dqT(t n:Int)(x:DOS)(st:STS)(s:MS):Tr DqO:=
 bif ieq x.at' 0 then A0 t n x st s else
 bif ieq x.at' 1 then A1 t n x st s else
 bif ieq x.at' 2 then A2 t n x st s else
 bif ieq x.at' 3 then A3 t n x st s else
 bif ieq x.at' 4 then A4 t n x st s else
 bif ieq x.at' 5 then A5 t n x st s else
 bif ieq x.at' 6 then A6 t n x st s else
 bif ieq x.at' 7 then A7 t n x st s else
 bif ieq x.at' 8 then A8 t n x st s else
 bif ieq x.at' 9 then A9 t n x st s else .pre False (.ret default)
def s7(t n:Int)(x:DOS)(st:STS)(s:MS):DqO:=(dqT t n x st s).val
def UD(t n:Int)(x:DOS)(st:STS)(s:MS):Prop:=(dqT t n x st s).ok
theorem HK(t n:Int)(x:DOS)(st:STS)(s:MS)(K:AVal→aC Ob→Prop)(h:(dqT t n x st s).run (fun y=>(DqO.fin t n y).run K)):cT' 104 [.ptr 0 0,.ptr 2 0] (dqH t n x st s) K:=by
 unfold dqT at h
 by_cases e:x.at'=0
 ·rw [e]at h;have h:(A0 t n x st s).run _:=h;refine aIm (root:=0) (pos:=[10,11,12,13,14,15,16,17,18]) (cs:=[(.cell 1 4,.ints (some .i64))]) (parse:=wA t n) (fin:=DqO.fin t n) kV ((aT.unpack (.doer t n x) 0 1 (gA t n x) [1] rfl (congrArg (Prod.mk 1) (pT e)) (by kernel_rfl) rfl).trans (aT.unpack (.store t n st) 1 0 (dM t n st) [] rfl rfl rfl rfl)) ?_
  have q:=JQ t n x st s _ h;rw [←e]at q;exact q
 rw [bI e]at h
 by_cases e:x.at'=1
 ·rw [e]at h;have h:(A1 t n x st s).run _:=h;refine aIm (root:=0) (pos:=[10,11,12,13,14,15,16,17,18]) (cs:=[(.cell 1 4,.ints (some .i64))]) (parse:=wA t n) (fin:=DqO.fin t n) kV ((aT.unpack (.doer t n x) 0 1 (d5 t n x) [1] rfl (congrArg (Prod.mk 1) (sS e)) (by kernel_rfl) rfl).trans (aT.unpack (.store t n st) 1 0 (dM t n st) [] rfl rfl rfl rfl)) ?_
  have q:=JR t n x st s _ h;rw [←e]at q;exact q
 rw [bI e]at h
 by_cases e:x.at'=2
 ·rw [e]at h;have h:(A2 t n x st s).run _:=h;refine aIm (root:=0) (pos:=[10,11,12,13,14,15,16,17,18]) (cs:=[(.cell 1 4,.ints (some .i64))]) (parse:=wA t n) (fin:=DqO.fin t n) kV ((aT.unpack (.doer t n x) 0 1 (iG t n x) [1] rfl (congrArg (Prod.mk 1) (sT e)) (by kernel_rfl) rfl).trans (aT.unpack (.store t n st) 1 0 (dM t n st) [] rfl rfl rfl rfl)) ?_
  have q:=JS t n x st s _ h;rw [←e]at q;exact q
 rw [bI e]at h
 by_cases e:x.at'=3
 ·rw [e]at h;have h:(A3 t n x st s).run _:=h;refine aIm (root:=0) (pos:=[10,11,12,13,14,15,16,17,18]) (cs:=[(.cell 1 4,.ints (some .i64))]) (parse:=wA t n) (fin:=DqO.fin t n) kV ((aT.unpack (.doer t n x) 0 1 (iI t n x) [1] rfl (congrArg (Prod.mk 1) (sU e)) (by kernel_rfl) rfl).trans (aT.unpack (.store t n st) 1 0 (dM t n st) [] rfl rfl rfl rfl)) ?_
  have q:=JT t n x st s _ h;rw [←e]at q;exact q
 rw [bI e]at h
 by_cases e:x.at'=4
 ·rw [e]at h;have h:(A4 t n x st s).run _:=h;refine aIm (root:=0) (pos:=[10,11,12,13,14,15,16,17,18]) (cs:=[(.cell 1 4,.ints (some .i64))]) (parse:=wA t n) (fin:=DqO.fin t n) kV ((aT.unpack (.doer t n x) 0 1 (iD t n x) [1] rfl (congrArg (Prod.mk 1) (sV e)) (by kernel_rfl) rfl).trans (aT.unpack (.store t n st) 1 0 (dM t n st) [] rfl rfl rfl rfl)) ?_
  have q:=JU t n x st s _ h;rw [←e]at q;exact q
 rw [bI e]at h
 by_cases e:x.at'=5
 ·rw [e]at h;have h:(A5 t n x st s).run _:=h;refine aIm (root:=0) (pos:=[10,11,12,13,14,15,16,17,18]) (cs:=[(.cell 1 4,.ints (some .i64))]) (parse:=wA t n) (fin:=DqO.fin t n) kV ((aT.unpack (.doer t n x) 0 1 (d5 t n x) [1] rfl (congrArg (Prod.mk 1) (sW e)) (by kernel_rfl) rfl).trans (aT.unpack (.store t n st) 1 0 (dM t n st) [] rfl rfl rfl rfl)) ?_
  have q:=JV t n x st s _ h;rw [←e]at q;exact q
 rw [bI e]at h
 by_cases e:x.at'=6
 ·rw [e]at h;have h:(A6 t n x st s).run _:=h;refine aIm (root:=0) (pos:=[10,11,12,13,14,15,16,17,18]) (cs:=[(.cell 1 4,.ints (some .i64))]) (parse:=wA t n) (fin:=DqO.fin t n) kV ((aT.unpack (.doer t n x) 0 1 (iE t n x) [1] rfl (congrArg (Prod.mk 1) (sX e)) (by kernel_rfl) rfl).trans (aT.unpack (.store t n st) 1 0 (dM t n st) [] rfl rfl rfl rfl)) ?_
  have q:=JW t n x st s _ h;rw [←e]at q;exact q
 rw [bI e]at h
 by_cases e:x.at'=7
 ·rw [e]at h;have h:(A7 t n x st s).run _:=h;refine aIm (root:=0) (pos:=[10,11,12,13,14,15,16,17,18]) (cs:=[(.cell 1 4,.ints (some .i64))]) (parse:=wA t n) (fin:=DqO.fin t n) kV ((aT.unpack (.doer t n x) 0 1 (iH t n x) [1] rfl (congrArg (Prod.mk 1) (sY e)) (by kernel_rfl) rfl).trans (aT.unpack (.store t n st) 1 0 (dM t n st) [] rfl rfl rfl rfl)) ?_
  have q:=JX t n x st s _ h;rw [←e]at q;exact q
 rw [bI e]at h
 by_cases e:x.at'=8
 ·rw [e]at h;have h:(A8 t n x st s).run _:=h;refine aIm (root:=0) (pos:=[10,11,12,13,14,15,16,17,18]) (cs:=[(.cell 1 4,.ints (some .i64))]) (parse:=wA t n) (fin:=DqO.fin t n) kV ((aT.unpack (.doer t n x) 0 1 (iF t n x) [1] rfl (congrArg (Prod.mk 1) (sZ e)) (by kernel_rfl) rfl).trans (aT.unpack (.store t n st) 1 0 (dM t n st) [] rfl rfl rfl rfl)) ?_
  have q:=JY t n x st s _ h;rw [←e]at q;exact q
 rw [bI e]at h
 by_cases e:x.at'=9
 ·rw [e]at h;have h:(A9 t n x st s).run _:=h;refine aIm (root:=0) (pos:=[10,11,12,13,14,15,16,17,18]) (cs:=[(.cell 1 4,.ints (some .i64))]) (parse:=wA t n) (fin:=DqO.fin t n) kV ((aT.unpack (.doer t n x) 0 1 (iJ t n x) [1] rfl (congrArg (Prod.mk 1) (s6 e)) (by kernel_rfl) rfl).trans (aT.unpack (.store t n st) 1 0 (dM t n st) [] rfl rfl rfl rfl)) ?_
  have q:=JZ t n x st s _ h;rw [←e]at q;exact q
 rw [bI e]at h;exact h.1.elim
noncomputable def dqSA:aH Ob:=fun args h=>match args,h with
 | [.ptr 0 0,.ptr 2 0],[some (.abs (.doer t n x) [1]),some (.abs (.store t2 n2 st) []),e3,e4]=>(match cO 3 [e3,e4]with
   | some (l,s)=>some (.pre ((l=s.xs.length∧t2=t∧n2=n)∧UD t n x st s) (DqO.fin t n (s7 t n x st s)))
   | none=>none)
 | _,_=>none
theorem aA8:sT' 104 dqSA:=by
 intro args h o ho K hK;unfold dqSA at ho;split at ho
 case h_2=>cases ho
 split at ho<;>cases ho
 rename_i hm;obtain⟨⟨⟨hl,rfl,rfl⟩,ok⟩,hK⟩:=hK;cases bB hm hl;exact HK _ _ _ _ _ K (aIp ok hK)
def DqO.finB(t n:Int)(y:DqO):Out Ob:=.ite y.d (.ret (.bool true) ([cE' [.ptr 1 0,.I y.x.code,.bool y.x.okk,.I y.x.val,.bool y.x.slow,.I y.x.sh,.I y.x.kd,.I y.x.ky,.I y.x.limit,.I y.x.at',.O,.O,.O,.O,.O,.O,.O,.O,.O],gV 5 t n y.st,none,aZ 4 y.s,bA y.s,gW y.st])) (.ret (.bool false) [some (.abs (.doer t n y.x) [1]),gV 5 t n y.st,none,aZ 4 y.s,bA y.s,gW y.st])
noncomputable def dqSB:aH Ob:=fun args h=>match args,h with
 | [.ptr 0 0,.ptr 3 0],[some (.abs (.doer t n x) [1]),e1,e2,e3,e4]=>(match lC 2 [e1,e2],cO 4 [e3,e4]with
   | some (l2,t2,n2,st),some (l,s)=>some (.pre ((l=s.xs.length∧l2=st.R.length∧t2=t∧n2=n)∧UD t n x st s) (DqO.finB t n (s7 t n x st s)))
   | _,_=>none)
 | _,_=>none
theorem aA9:sT' 104 dqSB:=by
 intro args h o ho K hK;unfold dqSB at ho;split at ho
 case h_2=>cases ho
 split at ho<;>cases ho
 rename_i hs hm;obtain⟨⟨⟨hl,hl2,rfl,rfl⟩,ok⟩,hK⟩:=hK;cases bB hm hl;cases cD hs hl2;exact jM (fun ι hι=>by simp [aG.ren,aIA,AVal.ren,hι]) (fun ι hι=>by simp [aG.ren,hι]) (fun K hK=>HK _ _ _ _ _ K (aIp ok hK)) K hK
noncomputable def dqS:aH Ob:=aH.or dqSA dqSB
theorem aEo:sT' 104 dqS:=aIJ aA8 aA9
def aAW(t n:Int)(v:AVal)(g:aC Ob):Option (Prop×(DOS×STS)):=match v,g with
 | .ptr 2 0,[e1,e2,some (.cells [.ptr 0 0,.int .i64 code,.bool okk,.int .i64 val,.bool slow,.int .i64 sh,.int .i64 kd,.int .i64 ky,.int .i64 limit,.int .i64 at',.ptr 3 0,.O,.O,.O,.O,.O,.O,.O,.O]),some (.abs (.head t' n' sub) [])]=>(match lC 1 [e1,e2]with
   | some (l2,t2,n2,st)=>some ((t2=t∧n2=n∧l2=st.R.length)∧t'=t∧n'=n∧at'=0,⟨(⟨code,okk,val,slow,sh,kd,ky,limit,at',sub,dC,bZ,dD,⟨0,0,0,0,false,0⟩,⟨0,false,0,0⟩,bQ,⟨0,0⟩,cX⟩:DOS),st⟩)
   | none=>none)
 | _,_=>none
abbrev UB(t n:Int)(y:(DOS×STS)):aC Ob:=[gV 1 t n y.2,gW y.2,some (.abs (.doer t n y.1) [0])]
theorem UC{t n:Int} :bM (obI tbl) 2 (aAW t n) (fun y=>.ret (.ptr 2 0) (UB t n y)):=by
 intro v g p x hp hq K hK;unfold aAW at hp;split at hp
 case h_2=>cases hp
 rename_i e1 e2 code okk val slow sh kd ky limit at' t' n' sub;split at hp
 case h_2=>cases hp
 rename_i l2 t2 n2 st hs;cases hp;obtain⟨⟨rfl,rfl,hl2⟩,rfl,rfl,hat⟩:=hq;cases cD hs hl2;exact let X0:DOS:=⟨code,okk,val,slow,sh,kd,ky,limit,at',sub,dC,bZ,dD,⟨0,0,0,0,false,0⟩,⟨0,false,0,0⟩,bQ,⟨0,0⟩,cX⟩;⟨⟨_,_,aF.pack (UB t' n' (X0,st)) (.doer t' n' X0) 2 1 (gA t' n' X0) [0] (by kernel_rfl) rfl (congrArg (Prod.mk 1) (pT hat)) (by kernel_rfl),hK⟩⟩
def OA(t n:Int)(sh kd ky lim:Int)(st:STS):Tr (DOS×STS):=.pre (O7 t n∧True) (.pre ((t=t∧n=n∧lE' st.3)∧t=t∧n=n∧(0:Int)=(0:Int)) (.ret ({code:=0,okk:=false,val:=0,slow:=false,sh:=sh,kd:=kd,ky:=ky,limit:=lim,at':=0,hd:=aCd t n,hp:=dC,en:=bZ,ft:=dD,an:=eB,aw:=eC,fn:=bQ,dr:=fH,sw:=cX},st)))
def dqNF(t n:Int)(sh kd ky lim:Int)(st:STS):(DOS×STS):=(OA t n sh kd ky lim st).val
def NZ(t n:Int)(sh kd ky lim:Int)(st:STS):Prop:=(OA t n sh kd ky lim st).ok
def dqNS:aH Ob:=fun args h=>match args,h with
 | [.ptr 0 0,.agg [.int .i64 sh,.int .i64 kd,.int .i64 ky],.int .i64 lim],[e1,e2]=>(match lC 1 [e1,e2]with
   | some (l2,t,n,st)=>some (.pre (l2=st.R.length∧NZ t n sh kd ky lim st) (.ret (.ptr 2 0) (UB t n (dqNF t n sh kd ky lim st))))
   | none=>none)
 | _,_=>none
theorem EZ:sT' 103 dqNS:=by
 intro args h o ho K hK;unfold dqNS at ho;split at ho
 case h_2=>cases ho
 rename_i sh kd ky lim e1 e2;split at ho<;>cases ho
 rename_i l2 t n st hs;obtain⟨⟨hl2,ok⟩,hK⟩:=hK;cases cD hs hl2;refine aIy (root:=2) (pos:=[10,11,12,13,14,15,16,17,18]) (cs:=[]) (parse:=aAW t n) UC ?_;exact cM' (E:=EH) (q:=(OA t n sh kd ky lim st).run (fun y=>(Out.ret (.ptr 2 0) (UB t n y)).run K)) (by kernel_rfl) (aIp ok hK)
noncomputable def ED:=((EH.addS 104 dqS aEo).addS 103 dqNS EZ)
end Go.Sh
