import Derived.Test.YtedeloeobocpiaaGreatZGC6toGH0
set_option linter.all false
set_option maxHeartbeats 8000000
namespace Go.Sh
open Go Go.Proofs
variable [Con]
structure HpO where
 d:Bool
 x:HPS
 st:STS
 s:MS
instance:Inhabited HpO:=⟨⟨false,YO,⟨0,0,[]⟩,⟨0,0,[],0,0,0,0,0,false⟩⟩⟩
instance:Inhabited HPS:=⟨YO⟩
abbrev HB(t n:Int)(x:HPS)(st:STS)(s:MS):aD Ob:=[some (.abs (.help t n x) [1]),some (.abs (.store t n st) []),a9 3 s,bA s]
abbrev KP(t n:Int)(x:HPS)(st:STS)(s:MS):aD Ob:=[some (.cells [.ptr 1 0,.int .i64 x.u,.int .u64 x.no,.int .i64 x.rounds,.int .i64 x.limit,.int .i64 x.at',.int .u64 x.found,.int .i64 x.sh,.int .i64 x.kd,.int .i64 x.ky,.bool x.p.now,.int .i64 x.p.code,.bool x.p.okk,.int .i64 x.p.val,.int .i64 x.p.addr,.int .u64 x.p.old,.int .i64 x.p.nxt,.bool x.p.mark,.int .i64 x.p.pops,.O,.O,.O,.O,.O]),some (.abs (.store t n st) []),a9 3 s,bA s]
def HpO.fin(t n:Int)(y:HpO):Out Ob:=.ite y.d (.ret (.bool true) (KP t n y.x y.st y.s)) (.ret (.bool false) (HB t n y.x y.st y.s))
def WC(t n:Int)(v:AVal)(g:aD Ob):Option (Prop×HpO):=match v,g with
 | .bool d,[some (.cells [.ptr 1 0,.int .i64 u,.int .u64 no,.int .i64 rounds,.int .i64 limit,.int .i64 at',.int .u64 found,.int .i64 sh,.int .i64 kd,.int .i64 ky,.bool p_now,.int .i64 p_code,.bool p_okk,.int .i64 p_val,.int .i64 p_addr,.int .u64 p_old,.int .i64 p_nxt,.bool p_mark,.int .i64 p_pops,.O,.O,.O,.O,.O]),e1,e3,e4,e2]=>(match uH 4 [e1,e2],fD 3 [e3,e4]with
   | some (l2,t2,n2,st),some (l,s)=>some ((t2=t∧n2=n)∧(d=false→at'≠3∧at'≠4∧at'≠5∧at'≠7∧at'≠8)∧l=s.xs.length∧l2=st.R.length,⟨d,⟨u,no,rounds,limit,at',found,sh,kd,ky,⟨p_now,p_code,p_okk,p_val,p_addr,p_old,p_nxt,p_mark,p_pops⟩,cN,cF,cR,⟨0,0,0,0⟩,⟨0,0,0,false⟩⟩,st,s⟩)
   | _,_=>none)
 | _,_=>none
def WD(t n:Int)(v:AVal)(g:aD Ob):Option (Prop×HpO):=match v,g with
 | .bool d,[some (.cells [.ptr 1 0,.int .i64 u,.int .u64 no,.int .i64 rounds,.int .i64 limit,.int .i64 at',.int .u64 found,.int .i64 sh,.int .i64 kd,.int .i64 ky,.bool p_now,.int .i64 p_code,.bool p_okk,.int .i64 p_val,.int .i64 p_addr,.int .u64 p_old,.int .i64 p_nxt,.bool p_mark,.int .i64 p_pops,.ptr 4 0,.O,.O,.O,.O]),e1,e3,e4,some (.abs (.exec t' n' sub) []),e2]=>(match uH 5 [e1,e2],fD 3 [e3,e4]with
   | some (l2,t2,n2,st),some (l,s)=>some ((t2=t∧n2=n)∧t'=t∧n'=n∧(d=false→at'=3)∧l=s.xs.length∧l2=st.R.length,⟨d,⟨u,no,rounds,limit,at',found,sh,kd,ky,⟨p_now,p_code,p_okk,p_val,p_addr,p_old,p_nxt,p_mark,p_pops⟩,sub,cF,cR,⟨0,0,0,0⟩,⟨0,0,0,false⟩⟩,st,s⟩)
   | _,_=>none)
 | _,_=>none
def WE(t n:Int)(v:AVal)(g:aD Ob):Option (Prop×HpO):=match v,g with
 | .bool d,[some (.cells [.ptr 1 0,.int .i64 u,.int .u64 no,.int .i64 rounds,.int .i64 limit,.int .i64 at',.int .u64 found,.int .i64 sh,.int .i64 kd,.int .i64 ky,.bool p_now,.int .i64 p_code,.bool p_okk,.int .i64 p_val,.int .i64 p_addr,.int .u64 p_old,.int .i64 p_nxt,.bool p_mark,.int .i64 p_pops,.O,.ptr 4 0,.O,.O,.O]),e1,e3,e4,some (.abs (.ensure t' n' sub) [1]),e2]=>(match uH 5 [e1,e2],fD 3 [e3,e4]with
   | some (l2,t2,n2,st),some (l,s)=>some ((t2=t∧n2=n)∧t'=t∧n'=n∧(d=false→at'=4)∧l=s.xs.length∧l2=st.R.length,⟨d,⟨u,no,rounds,limit,at',found,sh,kd,ky,⟨p_now,p_code,p_okk,p_val,p_addr,p_old,p_nxt,p_mark,p_pops⟩,cN,sub,cR,⟨0,0,0,0⟩,⟨0,0,0,false⟩⟩,st,s⟩)
   | _,_=>none)
 | _,_=>none
def WF(t n:Int)(v:AVal)(g:aD Ob):Option (Prop×HpO):=match v,g with
 | .bool d,[some (.cells [.ptr 1 0,.int .i64 u,.int .u64 no,.int .i64 rounds,.int .i64 limit,.int .i64 at',.int .u64 found,.int .i64 sh,.int .i64 kd,.int .i64 ky,.bool p_now,.int .i64 p_code,.bool p_okk,.int .i64 p_val,.int .i64 p_addr,.int .u64 p_old,.int .i64 p_nxt,.bool p_mark,.int .i64 p_pops,.O,.O,.ptr 4 0,.O,.O]),e1,e3,e4,some (.abs (.find t' n' sub) []),e2]=>(match uH 5 [e1,e2],fD 3 [e3,e4]with
   | some (l2,t2,n2,st),some (l,s)=>some ((t2=t∧n2=n)∧t'=t∧n'=n∧(d=false→at'=5)∧l=s.xs.length∧l2=st.R.length,⟨d,⟨u,no,rounds,limit,at',found,sh,kd,ky,⟨p_now,p_code,p_okk,p_val,p_addr,p_old,p_nxt,p_mark,p_pops⟩,cN,cF,sub,⟨0,0,0,0⟩,⟨0,0,0,false⟩⟩,st,s⟩)
   | _,_=>none)
 | _,_=>none
def WG(t n:Int)(v:AVal)(g:aD Ob):Option (Prop×HpO):=match v,g with
 | .bool d,[some (.cells [.ptr 1 0,.int .i64 u,.int .u64 no,.int .i64 rounds,.int .i64 limit,.int .i64 at',.int .u64 found,.int .i64 sh,.int .i64 kd,.int .i64 ky,.bool p_now,.int .i64 p_code,.bool p_okk,.int .i64 p_val,.int .i64 p_addr,.int .u64 p_old,.int .i64 p_nxt,.bool p_mark,.int .i64 p_pops,.O,.O,.O,.ptr 4 0,.O]),e1,e3,e4,some (.abs (.clear t' n' sub) []),e2]=>(match uH 5 [e1,e2],fD 3 [e3,e4]with
   | some (l2,t2,n2,st),some (l,s)=>some ((t2=t∧n2=n)∧t'=t∧n'=n∧(d=false→at'=7)∧l=s.xs.length∧l2=st.R.length,⟨d,⟨u,no,rounds,limit,at',found,sh,kd,ky,⟨p_now,p_code,p_okk,p_val,p_addr,p_old,p_nxt,p_mark,p_pops⟩,cN,cF,cR,sub,⟨0,0,0,false⟩⟩,st,s⟩)
   | _,_=>none)
 | _,_=>none
def WH(t n:Int)(v:AVal)(g:aD Ob):Option (Prop×HpO):=match v,g with
 | .bool d,[some (.cells [.ptr 1 0,.int .i64 u,.int .u64 no,.int .i64 rounds,.int .i64 limit,.int .i64 at',.int .u64 found,.int .i64 sh,.int .i64 kd,.int .i64 ky,.bool p_now,.int .i64 p_code,.bool p_okk,.int .i64 p_val,.int .i64 p_addr,.int .u64 p_old,.int .i64 p_nxt,.bool p_mark,.int .i64 p_pops,.O,.O,.O,.O,.ptr 4 0]),e1,e3,e4,some (.abs (.prepare t' n' sub) [1]),e2]=>(match uH 5 [e1,e2],fD 3 [e3,e4]with
   | some (l2,t2,n2,st),some (l,s)=>some ((t2=t∧n2=n)∧t'=t∧n'=n∧(d=false→at'=8)∧l=s.xs.length∧l2=st.R.length,⟨d,⟨u,no,rounds,limit,at',found,sh,kd,ky,⟨p_now,p_code,p_okk,p_val,p_addr,p_old,p_nxt,p_mark,p_pops⟩,cN,cF,cR,⟨0,0,0,0⟩,sub⟩,st,s⟩)
   | _,_=>none)
 | _,_=>none
def wT(t n:Int)(v:AVal)(g:aD Ob):Option (Prop×HpO):=(match WC t n v g with
 | some r=>some r
 | none=>(match WD t n v g with
 | some r=>some r
 | none=>(match WE t n v g with
 | some r=>some r
 | none=>(match WF t n v g with
 | some r=>some r
 | none=>(match WG t n v g with
 | some r=>some r
 | none=>WH t n v g)))))
theorem RH{t n:Int} :dI (obI tbl) 4 (WC t n) (HpO.fin t n):=by
 intro v g p x hp hq K hK
 unfold WC at hp
 split at hp
 case h_2=>cases hp
 rename_i d u no rounds limit at' found sh kd ky p_now p_code p_okk p_val p_addr p_old p_nxt p_mark p_pops e1 e3 e4 e2
 split at hp
 case h_2=>cases hp
 rename_i l2 t2 n2 st l s hs hm
 simp only [sI',pI']at hp
 obtain⟨rfl,rfl⟩:=hp
 obtain⟨⟨rfl,rfl⟩,hat,hl,hl2⟩:=hq
 have hh:=cC hm hl
 cases hh
 have hh:=dX hs hl2
 cases hh
 refine tL hK (fun h=>?_) (fun hd h=>?_)
 ·exact⟨⟨_,_,(aQ.pack (KP t2 n2 (⟨u,no,rounds,limit,at',found,sh,kd,ky,⟨p_now,p_code,p_okk,p_val,p_addr,p_old,p_nxt,p_mark,p_pops⟩,cN,cF,cR,⟨0,0,0,0⟩,⟨0,0,0,false⟩⟩:HPS) st s) (.store t2 n2 st) 1 0 (iU t2 n2 st) [] (by kernel_rfl) rfl rfl (by kernel_rfl)),h⟩⟩
 ·exact⟨⟨_,_,((aQ.pack (bT (HB t2 n2 (⟨u,no,rounds,limit,at',found,sh,kd,ky,⟨p_now,p_code,p_okk,p_val,p_addr,p_old,p_nxt,p_mark,p_pops⟩,cN,cF,cR,⟨0,0,0,0⟩,⟨0,0,0,false⟩⟩:HPS) st s) 0 1 (kX t2 n2 (⟨u,no,rounds,limit,at',found,sh,kd,ky,⟨p_now,p_code,p_okk,p_val,p_addr,p_old,p_nxt,p_mark,p_pops⟩,cN,cF,cR,⟨0,0,0,0⟩,⟨0,0,0,false⟩⟩:HPS)) [1]) (.store t2 n2 st) 1 0 (iU t2 n2 st) [] (by kernel_rfl) rfl rfl (by kernel_rfl)).trans (aQ.pack (HB t2 n2 (⟨u,no,rounds,limit,at',found,sh,kd,ky,⟨p_now,p_code,p_okk,p_val,p_addr,p_old,p_nxt,p_mark,p_pops⟩,cN,cF,cR,⟨0,0,0,0⟩,⟨0,0,0,false⟩⟩:HPS) st s) (.help t2 n2 (⟨u,no,rounds,limit,at',found,sh,kd,ky,⟨p_now,p_code,p_okk,p_val,p_addr,p_old,p_nxt,p_mark,p_pops⟩,cN,cF,cR,⟨0,0,0,0⟩,⟨0,0,0,false⟩⟩:HPS)) 0 1 (kX t2 n2 (⟨u,no,rounds,limit,at',found,sh,kd,ky,⟨p_now,p_code,p_okk,p_val,p_addr,p_old,p_nxt,p_mark,p_pops⟩,cN,cF,cR,⟨0,0,0,0⟩,⟨0,0,0,false⟩⟩:HPS)) [1] (by kernel_rfl) rfl (congrArg (Prod.mk 1) (jV (hat hd))) (by kernel_rfl))),h⟩⟩
theorem RI{t n:Int} :dI (obI tbl) 4 (WD t n) (HpO.fin t n):=by
 intro v g p x hp hq K hK
 unfold WD at hp
 split at hp
 case h_2=>cases hp
 rename_i d u no rounds limit at' found sh kd ky p_now p_code p_okk p_val p_addr p_old p_nxt p_mark p_pops e1 e3 e4 t' n' sub e2
 split at hp
 case h_2=>cases hp
 rename_i l2 t2 n2 st l s hs hm
 simp only [sI',pI']at hp
 obtain⟨rfl,rfl⟩:=hp
 obtain⟨⟨rfl,rfl⟩,rfl,rfl,hat,hl,hl2⟩:=hq
 have hh:=cC hm hl
 cases hh
 have hh:=dX hs hl2
 cases hh
 refine tL hK (fun h=>?_) (fun hd h=>?_)
 ·exact⟨⟨_,_,(aQ.weak (dH _ 0 [19,20,21,22,23])).trans ((aQ.pick [0,1,2,3,5] rfl).trans ((aQ.eq (g2:=bT (KP t' n' (⟨u,no,rounds,limit,at',found,sh,kd,ky,⟨p_now,p_code,p_okk,p_val,p_addr,p_old,p_nxt,p_mark,p_pops⟩,sub,cF,cR,⟨0,0,0,0⟩,⟨0,0,0,false⟩⟩:HPS) st s) 1 0 (iU t' n' st) []) (by kernel_rfl) (by kernel_rfl)).trans (aQ.pack (KP t' n' (⟨u,no,rounds,limit,at',found,sh,kd,ky,⟨p_now,p_code,p_okk,p_val,p_addr,p_old,p_nxt,p_mark,p_pops⟩,sub,cF,cR,⟨0,0,0,0⟩,⟨0,0,0,false⟩⟩:HPS) st s) (.store t' n' st) 1 0 (iU t' n' st) [] (by kernel_rfl) rfl rfl (by kernel_rfl)))),h⟩⟩
 ·exact⟨⟨_,_,((aQ.pack (bT (HB t' n' (⟨u,no,rounds,limit,at',found,sh,kd,ky,⟨p_now,p_code,p_okk,p_val,p_addr,p_old,p_nxt,p_mark,p_pops⟩,sub,cF,cR,⟨0,0,0,0⟩,⟨0,0,0,false⟩⟩:HPS) st s) 0 1 (nH t' n' (⟨u,no,rounds,limit,at',found,sh,kd,ky,⟨p_now,p_code,p_okk,p_val,p_addr,p_old,p_nxt,p_mark,p_pops⟩,sub,cF,cR,⟨0,0,0,0⟩,⟨0,0,0,false⟩⟩:HPS)) [1]) (.store t' n' st) 1 0 (iU t' n' st) [] (by kernel_rfl) rfl rfl (by kernel_rfl)).trans (aQ.pack (HB t' n' (⟨u,no,rounds,limit,at',found,sh,kd,ky,⟨p_now,p_code,p_okk,p_val,p_addr,p_old,p_nxt,p_mark,p_pops⟩,sub,cF,cR,⟨0,0,0,0⟩,⟨0,0,0,false⟩⟩:HPS) st s) (.help t' n' (⟨u,no,rounds,limit,at',found,sh,kd,ky,⟨p_now,p_code,p_okk,p_val,p_addr,p_old,p_nxt,p_mark,p_pops⟩,sub,cF,cR,⟨0,0,0,0⟩,⟨0,0,0,false⟩⟩:HPS)) 0 1 (nH t' n' (⟨u,no,rounds,limit,at',found,sh,kd,ky,⟨p_now,p_code,p_okk,p_val,p_addr,p_old,p_nxt,p_mark,p_pops⟩,sub,cF,cR,⟨0,0,0,0⟩,⟨0,0,0,false⟩⟩:HPS)) [1] (by kernel_rfl) rfl (congrArg (Prod.mk 1) (G4 (hat hd))) (by kernel_rfl))),h⟩⟩
theorem RJ{t n:Int} :dI (obI tbl) 4 (WE t n) (HpO.fin t n):=by
 intro v g p x hp hq K hK
 unfold WE at hp
 split at hp
 case h_2=>cases hp
 rename_i d u no rounds limit at' found sh kd ky p_now p_code p_okk p_val p_addr p_old p_nxt p_mark p_pops e1 e3 e4 t' n' sub e2
 split at hp
 case h_2=>cases hp
 rename_i l2 t2 n2 st l s hs hm
 simp only [sI',pI']at hp
 obtain⟨rfl,rfl⟩:=hp
 obtain⟨⟨rfl,rfl⟩,rfl,rfl,hat,hl,hl2⟩:=hq
 have hh:=cC hm hl
 cases hh
 have hh:=dX hs hl2
 cases hh
 refine tL hK (fun h=>?_) (fun hd h=>?_)
 ·exact⟨⟨_,_,(aQ.weak (dH _ 0 [19,20,21,22,23])).trans ((aQ.pick [0,1,2,3,5] rfl).trans ((aQ.eq (g2:=bT (KP t' n' (⟨u,no,rounds,limit,at',found,sh,kd,ky,⟨p_now,p_code,p_okk,p_val,p_addr,p_old,p_nxt,p_mark,p_pops⟩,cN,sub,cR,⟨0,0,0,0⟩,⟨0,0,0,false⟩⟩:HPS) st s) 1 0 (iU t' n' st) []) (by kernel_rfl) (by kernel_rfl)).trans (aQ.pack (KP t' n' (⟨u,no,rounds,limit,at',found,sh,kd,ky,⟨p_now,p_code,p_okk,p_val,p_addr,p_old,p_nxt,p_mark,p_pops⟩,cN,sub,cR,⟨0,0,0,0⟩,⟨0,0,0,false⟩⟩:HPS) st s) (.store t' n' st) 1 0 (iU t' n' st) [] (by kernel_rfl) rfl rfl (by kernel_rfl)))),h⟩⟩
 ·exact⟨⟨_,_,((aQ.pack (bT (HB t' n' (⟨u,no,rounds,limit,at',found,sh,kd,ky,⟨p_now,p_code,p_okk,p_val,p_addr,p_old,p_nxt,p_mark,p_pops⟩,cN,sub,cR,⟨0,0,0,0⟩,⟨0,0,0,false⟩⟩:HPS) st s) 0 1 (nG t' n' (⟨u,no,rounds,limit,at',found,sh,kd,ky,⟨p_now,p_code,p_okk,p_val,p_addr,p_old,p_nxt,p_mark,p_pops⟩,cN,sub,cR,⟨0,0,0,0⟩,⟨0,0,0,false⟩⟩:HPS)) [1]) (.store t' n' st) 1 0 (iU t' n' st) [] (by kernel_rfl) rfl rfl (by kernel_rfl)).trans (aQ.pack (HB t' n' (⟨u,no,rounds,limit,at',found,sh,kd,ky,⟨p_now,p_code,p_okk,p_val,p_addr,p_old,p_nxt,p_mark,p_pops⟩,cN,sub,cR,⟨0,0,0,0⟩,⟨0,0,0,false⟩⟩:HPS) st s) (.help t' n' (⟨u,no,rounds,limit,at',found,sh,kd,ky,⟨p_now,p_code,p_okk,p_val,p_addr,p_old,p_nxt,p_mark,p_pops⟩,cN,sub,cR,⟨0,0,0,0⟩,⟨0,0,0,false⟩⟩:HPS)) 0 1 (nG t' n' (⟨u,no,rounds,limit,at',found,sh,kd,ky,⟨p_now,p_code,p_okk,p_val,p_addr,p_old,p_nxt,p_mark,p_pops⟩,cN,sub,cR,⟨0,0,0,0⟩,⟨0,0,0,false⟩⟩:HPS)) [1] (by kernel_rfl) rfl (congrArg (Prod.mk 1) (G5 (hat hd))) (by kernel_rfl))),h⟩⟩
theorem RK{t n:Int} :dI (obI tbl) 4 (WF t n) (HpO.fin t n):=by
 intro v g p x hp hq K hK
 unfold WF at hp
 split at hp
 case h_2=>cases hp
 rename_i d u no rounds limit at' found sh kd ky p_now p_code p_okk p_val p_addr p_old p_nxt p_mark p_pops e1 e3 e4 t' n' sub e2
 split at hp
 case h_2=>cases hp
 rename_i l2 t2 n2 st l s hs hm
 simp only [sI',pI']at hp
 obtain⟨rfl,rfl⟩:=hp
 obtain⟨⟨rfl,rfl⟩,rfl,rfl,hat,hl,hl2⟩:=hq
 have hh:=cC hm hl
 cases hh
 have hh:=dX hs hl2
 cases hh
 refine tL hK (fun h=>?_) (fun hd h=>?_)
 ·exact⟨⟨_,_,(aQ.weak (dH _ 0 [19,20,21,22,23])).trans ((aQ.pick [0,1,2,3,5] rfl).trans ((aQ.eq (g2:=bT (KP t' n' (⟨u,no,rounds,limit,at',found,sh,kd,ky,⟨p_now,p_code,p_okk,p_val,p_addr,p_old,p_nxt,p_mark,p_pops⟩,cN,cF,sub,⟨0,0,0,0⟩,⟨0,0,0,false⟩⟩:HPS) st s) 1 0 (iU t' n' st) []) (by kernel_rfl) (by kernel_rfl)).trans (aQ.pack (KP t' n' (⟨u,no,rounds,limit,at',found,sh,kd,ky,⟨p_now,p_code,p_okk,p_val,p_addr,p_old,p_nxt,p_mark,p_pops⟩,cN,cF,sub,⟨0,0,0,0⟩,⟨0,0,0,false⟩⟩:HPS) st s) (.store t' n' st) 1 0 (iU t' n' st) [] (by kernel_rfl) rfl rfl (by kernel_rfl)))),h⟩⟩
 ·exact⟨⟨_,_,((aQ.pack (bT (HB t' n' (⟨u,no,rounds,limit,at',found,sh,kd,ky,⟨p_now,p_code,p_okk,p_val,p_addr,p_old,p_nxt,p_mark,p_pops⟩,cN,cF,sub,⟨0,0,0,0⟩,⟨0,0,0,false⟩⟩:HPS) st s) 0 1 (nI t' n' (⟨u,no,rounds,limit,at',found,sh,kd,ky,⟨p_now,p_code,p_okk,p_val,p_addr,p_old,p_nxt,p_mark,p_pops⟩,cN,cF,sub,⟨0,0,0,0⟩,⟨0,0,0,false⟩⟩:HPS)) [1]) (.store t' n' st) 1 0 (iU t' n' st) [] (by kernel_rfl) rfl rfl (by kernel_rfl)).trans (aQ.pack (HB t' n' (⟨u,no,rounds,limit,at',found,sh,kd,ky,⟨p_now,p_code,p_okk,p_val,p_addr,p_old,p_nxt,p_mark,p_pops⟩,cN,cF,sub,⟨0,0,0,0⟩,⟨0,0,0,false⟩⟩:HPS) st s) (.help t' n' (⟨u,no,rounds,limit,at',found,sh,kd,ky,⟨p_now,p_code,p_okk,p_val,p_addr,p_old,p_nxt,p_mark,p_pops⟩,cN,cF,sub,⟨0,0,0,0⟩,⟨0,0,0,false⟩⟩:HPS)) 0 1 (nI t' n' (⟨u,no,rounds,limit,at',found,sh,kd,ky,⟨p_now,p_code,p_okk,p_val,p_addr,p_old,p_nxt,p_mark,p_pops⟩,cN,cF,sub,⟨0,0,0,0⟩,⟨0,0,0,false⟩⟩:HPS)) [1] (by kernel_rfl) rfl (congrArg (Prod.mk 1) (G6 (hat hd))) (by kernel_rfl))),h⟩⟩
theorem RL{t n:Int} :dI (obI tbl) 4 (WG t n) (HpO.fin t n):=by
 intro v g p x hp hq K hK
 unfold WG at hp
 split at hp
 case h_2=>cases hp
 rename_i d u no rounds limit at' found sh kd ky p_now p_code p_okk p_val p_addr p_old p_nxt p_mark p_pops e1 e3 e4 t' n' sub e2
 split at hp
 case h_2=>cases hp
 rename_i l2 t2 n2 st l s hs hm
 simp only [sI',pI']at hp
 obtain⟨rfl,rfl⟩:=hp
 obtain⟨⟨rfl,rfl⟩,rfl,rfl,hat,hl,hl2⟩:=hq
 have hh:=cC hm hl
 cases hh
 have hh:=dX hs hl2
 cases hh
 refine tL hK (fun h=>?_) (fun hd h=>?_)
 ·exact⟨⟨_,_,(aQ.weak (dH _ 0 [19,20,21,22,23])).trans ((aQ.pick [0,1,2,3,5] rfl).trans ((aQ.eq (g2:=bT (KP t' n' (⟨u,no,rounds,limit,at',found,sh,kd,ky,⟨p_now,p_code,p_okk,p_val,p_addr,p_old,p_nxt,p_mark,p_pops⟩,cN,cF,cR,sub,⟨0,0,0,false⟩⟩:HPS) st s) 1 0 (iU t' n' st) []) (by kernel_rfl) (by kernel_rfl)).trans (aQ.pack (KP t' n' (⟨u,no,rounds,limit,at',found,sh,kd,ky,⟨p_now,p_code,p_okk,p_val,p_addr,p_old,p_nxt,p_mark,p_pops⟩,cN,cF,cR,sub,⟨0,0,0,false⟩⟩:HPS) st s) (.store t' n' st) 1 0 (iU t' n' st) [] (by kernel_rfl) rfl rfl (by kernel_rfl)))),h⟩⟩
 ·exact⟨⟨_,_,((aQ.pack (bT (HB t' n' (⟨u,no,rounds,limit,at',found,sh,kd,ky,⟨p_now,p_code,p_okk,p_val,p_addr,p_old,p_nxt,p_mark,p_pops⟩,cN,cF,cR,sub,⟨0,0,0,false⟩⟩:HPS) st s) 0 1 (nF t' n' (⟨u,no,rounds,limit,at',found,sh,kd,ky,⟨p_now,p_code,p_okk,p_val,p_addr,p_old,p_nxt,p_mark,p_pops⟩,cN,cF,cR,sub,⟨0,0,0,false⟩⟩:HPS)) [1]) (.store t' n' st) 1 0 (iU t' n' st) [] (by kernel_rfl) rfl rfl (by kernel_rfl)).trans (aQ.pack (HB t' n' (⟨u,no,rounds,limit,at',found,sh,kd,ky,⟨p_now,p_code,p_okk,p_val,p_addr,p_old,p_nxt,p_mark,p_pops⟩,cN,cF,cR,sub,⟨0,0,0,false⟩⟩:HPS) st s) (.help t' n' (⟨u,no,rounds,limit,at',found,sh,kd,ky,⟨p_now,p_code,p_okk,p_val,p_addr,p_old,p_nxt,p_mark,p_pops⟩,cN,cF,cR,sub,⟨0,0,0,false⟩⟩:HPS)) 0 1 (nF t' n' (⟨u,no,rounds,limit,at',found,sh,kd,ky,⟨p_now,p_code,p_okk,p_val,p_addr,p_old,p_nxt,p_mark,p_pops⟩,cN,cF,cR,sub,⟨0,0,0,false⟩⟩:HPS)) [1] (by kernel_rfl) rfl (congrArg (Prod.mk 1) (G7 (hat hd))) (by kernel_rfl))),h⟩⟩
theorem RM{t n:Int} :dI (obI tbl) 4 (WH t n) (HpO.fin t n):=by
 intro v g p x hp hq K hK
 unfold WH at hp
 split at hp
 case h_2=>cases hp
 rename_i d u no rounds limit at' found sh kd ky p_now p_code p_okk p_val p_addr p_old p_nxt p_mark p_pops e1 e3 e4 t' n' sub e2
 split at hp
 case h_2=>cases hp
 rename_i l2 t2 n2 st l s hs hm
 simp only [sI',pI']at hp
 obtain⟨rfl,rfl⟩:=hp
 obtain⟨⟨rfl,rfl⟩,rfl,rfl,hat,hl,hl2⟩:=hq
 have hh:=cC hm hl
 cases hh
 have hh:=dX hs hl2
 cases hh
 refine tL hK (fun h=>?_) (fun hd h=>?_)
 ·exact⟨⟨_,_,(aQ.weak (dH _ 0 [19,20,21,22,23])).trans ((aQ.pick [0,1,2,3,5] rfl).trans ((aQ.eq (g2:=bT (KP t' n' (⟨u,no,rounds,limit,at',found,sh,kd,ky,⟨p_now,p_code,p_okk,p_val,p_addr,p_old,p_nxt,p_mark,p_pops⟩,cN,cF,cR,⟨0,0,0,0⟩,sub⟩:HPS) st s) 1 0 (iU t' n' st) []) (by kernel_rfl) (by kernel_rfl)).trans (aQ.pack (KP t' n' (⟨u,no,rounds,limit,at',found,sh,kd,ky,⟨p_now,p_code,p_okk,p_val,p_addr,p_old,p_nxt,p_mark,p_pops⟩,cN,cF,cR,⟨0,0,0,0⟩,sub⟩:HPS) st s) (.store t' n' st) 1 0 (iU t' n' st) [] (by kernel_rfl) rfl rfl (by kernel_rfl)))),h⟩⟩
 ·exact⟨⟨_,_,((aQ.pack (bT (HB t' n' (⟨u,no,rounds,limit,at',found,sh,kd,ky,⟨p_now,p_code,p_okk,p_val,p_addr,p_old,p_nxt,p_mark,p_pops⟩,cN,cF,cR,⟨0,0,0,0⟩,sub⟩:HPS) st s) 0 1 (nJ t' n' (⟨u,no,rounds,limit,at',found,sh,kd,ky,⟨p_now,p_code,p_okk,p_val,p_addr,p_old,p_nxt,p_mark,p_pops⟩,cN,cF,cR,⟨0,0,0,0⟩,sub⟩:HPS)) [1]) (.store t' n' st) 1 0 (iU t' n' st) [] (by kernel_rfl) rfl rfl (by kernel_rfl)).trans (aQ.pack (HB t' n' (⟨u,no,rounds,limit,at',found,sh,kd,ky,⟨p_now,p_code,p_okk,p_val,p_addr,p_old,p_nxt,p_mark,p_pops⟩,cN,cF,cR,⟨0,0,0,0⟩,sub⟩:HPS) st s) (.help t' n' (⟨u,no,rounds,limit,at',found,sh,kd,ky,⟨p_now,p_code,p_okk,p_val,p_addr,p_old,p_nxt,p_mark,p_pops⟩,cN,cF,cR,⟨0,0,0,0⟩,sub⟩:HPS)) 0 1 (nJ t' n' (⟨u,no,rounds,limit,at',found,sh,kd,ky,⟨p_now,p_code,p_okk,p_val,p_addr,p_old,p_nxt,p_mark,p_pops⟩,cN,cF,cR,⟨0,0,0,0⟩,sub⟩:HPS)) [1] (by kernel_rfl) rfl (congrArg (Prod.mk 1) (G8 (hat hd))) (by kernel_rfl))),h⟩⟩
theorem kY{t n:Int} :dI (obI tbl) 4 (wT t n) (HpO.fin t n):=by
 intro v g p x hp hq K hK
 unfold wT at hp
 split at hp
 ·rename_i r hr
  cases hp
  exact RH v g p x hr hq K hK
 split at hp
 ·rename_i r hr
  cases hp
  exact RI v g p x hr hq K hK
 split at hp
 ·rename_i r hr
  cases hp
  exact RJ v g p x hr hq K hK
 split at hp
 ·rename_i r hr
  cases hp
  exact RK v g p x hr hq K hK
 split at hp
 ·rename_i r hr
  cases hp
  exact RL v g p x hr hq K hK
 exact RM v g p x hp hq K hK
def B7(t n:Int)(x:HPS)(st:STS)(s:MS):Tr HpO:=.pre ((((0:Int)≤t∧t≤(100000:Int))∧((0:Int)≤n∧n≤(100000:Int))∧(-1099511627776:Int)≤x.1∧x.1≤(1099511627776:Int))∧True) (.pre ((lE' s.3∧(0:Int)≤s.4∧s.4≤(4611686018427387904:Int))∧True) (.pre True (.pre True (.pre ((t=t∧n=n)∧((!iO (aA (aB s.3 (2*n+5+2*t+3*x.1+2)) 49 3))=false→(1:Int)≠(3:Int)∧(1:Int)≠(4:Int)∧(1:Int)≠(5:Int)∧(1:Int)≠(7:Int)∧(1:Int)≠(8:Int))∧lE' s.3∧lE' st.3) (.ret {d:=!iO (aA (aB s.3 (2*n+5+2*t+3*x.1+2)) 49 3),x:= {x with rounds:=W (x.3+1),at':=1,found:=aB s.3 (2*n+5+2*t+3*x.1+2),p:= {now:=(HPS.p x).1,code:=(HPS.p x).2,okk:=(HPS.p x).3,val:=(HPS.p x).4,addr:=(HPS.p x).5,old:=(HPS.p x).6,nxt:=(HPS.p x).7,mark:=(HPS.p x).8,pops:=(HPS.p x).9},ex:=cN,en:=cF,fn:=cR,cl:=bU,pr:=gS},st:= {me:=st.1,sp:=st.2,R:=st.3},s:= {s with c:=s.4+1,k:=1,a:=2*n+5+2*t+3*x.1+2,o:=aB s.3 (2*n+5+2*t+3*x.1+2),w:=aB s.3 (2*n+5+2*t+3*x.1+2),ok:=bL s.3 (2*n+5+2*t+3*x.1+2) } })))))
theorem JE(t n:Int)(x:HPS)(st:STS)(s:MS)(K:HpO→Prop)(h:(B7 t n x st s).run K):cT' 52 [.ptr 0 0,.ptr 2 0] [some (.cells [.ptr 1 0,.int .i64 x.u,.int .u64 x.no,.int .i64 x.rounds,.int .i64 x.limit,.int .i64 0,.int .u64 x.found,.int .i64 x.sh,.int .i64 x.kd,.int .i64 x.ky,.bool x.p.now,.int .i64 x.p.code,.bool x.p.okk,.int .i64 x.p.val,.int .i64 x.p.addr,.int .u64 x.p.old,.int .i64 x.p.nxt,.bool x.p.mark,.int .i64 x.p.pops,.O,.O,.O,.O,.O]),stC 4 t n st,a9 3 s,bA s,mG st] (cV 4 0 [19,20,21,22,23] [(.cell 1 4,.ints (some .i64))] (wT t n) K):=by
 exact cM' (E:=EH0) (by kernel_rfl) h
def vM(t n:Int)(x:HPS)(st:STS)(s:MS):Tr HpO:=.pre ((((0:Int)≤t∧t≤(100000:Int))∧((0:Int)≤n∧n≤(100000:Int))∧(-1099511627776:Int)≤x.1∧x.1≤(1099511627776:Int))∧True) (.pre ((lE' s.3∧(0:Int)≤s.4∧s.4≤(4611686018427387904:Int))∧True) (.pre ((t=t∧n=n)∧((!ieq (aB s.3 (2*n+5+2*t+3*x.1)) x.2)=false→(2:Int)≠(3:Int)∧(2:Int)≠(4:Int)∧(2:Int)≠(5:Int)∧(2:Int)≠(7:Int)∧(2:Int)≠(8:Int))∧lE' s.3∧lE' st.3) (.ret {d:=!ieq (aB s.3 (2*n+5+2*t+3*x.1)) x.2,x:= {x with at':=2,p:= {now:=(HPS.p x).1,code:=(HPS.p x).2,okk:=(HPS.p x).3,val:=(HPS.p x).4,addr:=(HPS.p x).5,old:=(HPS.p x).6,nxt:=(HPS.p x).7,mark:=(HPS.p x).8,pops:=(HPS.p x).9},ex:=cN,en:=cF,fn:=cR,cl:=bU,pr:=gS},st:= {me:=st.1,sp:=st.2,R:=st.3},s:= {s with c:=s.4+1,k:=1,a:=2*n+5+2*t+3*x.1,o:=aB s.3 (2*n+5+2*t+3*x.1),w:=aB s.3 (2*n+5+2*t+3*x.1),ok:=bL s.3 (2*n+5+2*t+3*x.1) } })))
theorem JF(t n:Int)(x:HPS)(st:STS)(s:MS)(K:HpO→Prop)(h:(vM t n x st s).run K):cT' 52 [.ptr 0 0,.ptr 2 0] [some (.cells [.ptr 1 0,.int .i64 x.u,.int .u64 x.no,.int .i64 x.rounds,.int .i64 x.limit,.int .i64 1,.int .u64 x.found,.int .i64 x.sh,.int .i64 x.kd,.int .i64 x.ky,.bool x.p.now,.int .i64 x.p.code,.bool x.p.okk,.int .i64 x.p.val,.int .i64 x.p.addr,.int .u64 x.p.old,.int .i64 x.p.nxt,.bool x.p.mark,.int .i64 x.p.pops,.O,.O,.O,.O,.O]),stC 4 t n st,a9 3 s,bA s,mG st] (cV 4 0 [19,20,21,22,23] [(.cell 1 4,.ints (some .i64))] (wT t n) K):=by
 exact cM' (E:=EH0) (by kernel_rfl) h
def vN(t n:Int)(x:HPS)(st:STS)(s:MS):Tr HpO:=.pre ((((0:Int)≤t∧t≤(100000:Int))∧((0:Int)≤n∧n≤(100000:Int))∧(-1099511627776:Int)≤x.1∧x.1≤(1099511627776:Int))∧True) (.pre ((lE' s.3∧(0:Int)≤s.4∧s.4≤(4611686018427387904:Int))∧True) (.pre ((0:Int)≤aB s.3 (2*n+5+2*t+3*x.1+1)∧aB s.3 (2*n+5+2*t+3*x.1+1)≤(18446744073709551615:Int)) (.ite (!ieq (bif gX (aB s.3 (2*n+5+2*t+3*x.1+1))then 0 else 3) 0) (.pre ((t=t∧n=n)∧(true=false→(2:Int)≠(3:Int)∧(2:Int)≠(4:Int)∧(2:Int)≠(5:Int)∧(2:Int)≠(7:Int)∧(2:Int)≠(8:Int))∧lE' s.3∧lE' st.3) (.ret {d:=true,x:= {x with at':=2,sh:=bif gX (aB s.3 (2*n+5+2*t+3*x.1+1))then aA (aB s.3 (2*n+5+2*t+3*x.1+1)) 0 3 else 0,kd:=bif gX (aB s.3 (2*n+5+2*t+3*x.1+1))then aA (aB s.3 (2*n+5+2*t+3*x.1+1)) 3 3 else 0,ky:=bif gX (aB s.3 (2*n+5+2*t+3*x.1+1))then aA (aB s.3 (2*n+5+2*t+3*x.1+1)) 6 10 else 0,p:= {now:=(HPS.p x).1,code:=(HPS.p x).2,okk:=(HPS.p x).3,val:=(HPS.p x).4,addr:=(HPS.p x).5,old:=(HPS.p x).6,nxt:=(HPS.p x).7,mark:=(HPS.p x).8,pops:=(HPS.p x).9},ex:=cN,en:=cF,fn:=cR,cl:=bU,pr:=gS},st:= {me:=st.1,sp:=st.2,R:=st.3},s:= {s with c:=s.4+1,k:=1,a:=2*n+5+2*t+3*x.1+1,o:=aB s.3 (2*n+5+2*t+3*x.1+1),w:=aB s.3 (2*n+5+2*t+3*x.1+1),ok:=bL s.3 (2*n+5+2*t+3*x.1+1) } })) (.pre True (.ite (!hasB [1] (aA x.6 49 3)) (.pre True (.pre (MD t n x.1 (bif gX (aB s.3 (2*n+5+2*t+3*x.1+1))then aA (aB s.3 (2*n+5+2*t+3*x.1+1)) 0 3 else 0) (bif gX (aB s.3 (2*n+5+2*t+3*x.1+1))then aA (aB s.3 (2*n+5+2*t+3*x.1+1)) 3 3 else 0) (bif gX (aB s.3 (2*n+5+2*t+3*x.1+1))then aA (aB s.3 (2*n+5+2*t+3*x.1+1)) 6 10 else 0) (aA x.6 0 12)∧True) (.pre ((t=t∧n=n)∧t=t∧n=n∧(false=false→(3:Int)=(3:Int))∧lE' s.3∧lE' st.3) (.ret {d:=false,x:= {x with at':=3,sh:=bif gX (aB s.3 (2*n+5+2*t+3*x.1+1))then aA (aB s.3 (2*n+5+2*t+3*x.1+1)) 0 3 else 0,kd:=bif gX (aB s.3 (2*n+5+2*t+3*x.1+1))then aA (aB s.3 (2*n+5+2*t+3*x.1+1)) 3 3 else 0,ky:=bif gX (aB s.3 (2*n+5+2*t+3*x.1+1))then aA (aB s.3 (2*n+5+2*t+3*x.1+1)) 6 10 else 0,p:= {now:=(HPS.p x).1,code:=(HPS.p x).2,okk:=(HPS.p x).3,val:=(HPS.p x).4,addr:=(HPS.p x).5,old:=(HPS.p x).6,nxt:=(HPS.p x).7,mark:=(HPS.p x).8,pops:=(HPS.p x).9},ex:=exNF t n x.1 (bif gX (aB s.3 (2*n+5+2*t+3*x.1+1))then aA (aB s.3 (2*n+5+2*t+3*x.1+1)) 0 3 else 0) (bif gX (aB s.3 (2*n+5+2*t+3*x.1+1))then aA (aB s.3 (2*n+5+2*t+3*x.1+1)) 3 3 else 0) (bif gX (aB s.3 (2*n+5+2*t+3*x.1+1))then aA (aB s.3 (2*n+5+2*t+3*x.1+1)) 6 10 else 0) (aA x.6 0 12),en:=cF,fn:=cR,cl:=bU,pr:=gS},st:= {me:=st.1,sp:=st.2,R:=st.3},s:= {s with c:=s.4+1,k:=1,a:=2*n+5+2*t+3*x.1+1,o:=aB s.3 (2*n+5+2*t+3*x.1+1),w:=aB s.3 (2*n+5+2*t+3*x.1+1),ok:=bL s.3 (2*n+5+2*t+3*x.1+1) } })))) (.pre True (.ite (bM (bif gX (aB s.3 (2*n+5+2*t+3*x.1+1))then aA (aB s.3 (2*n+5+2*t+3*x.1+1)) 3 3 else 0)) (.ite (ieq st.2 0) (.pre (lE' st.3∧(t=t∧n=n∧lE' st.3)∧True) (.pre ((t=t∧n=n)∧t=t∧n=n∧(false=false→(4:Int)=(4:Int))∧lE' s.3∧lE' st.3) (.ret {d:=false,x:= {x with at':=4,sh:=bif gX (aB s.3 (2*n+5+2*t+3*x.1+1))then aA (aB s.3 (2*n+5+2*t+3*x.1+1)) 0 3 else 0,kd:=bif gX (aB s.3 (2*n+5+2*t+3*x.1+1))then aA (aB s.3 (2*n+5+2*t+3*x.1+1)) 3 3 else 0,ky:=bif gX (aB s.3 (2*n+5+2*t+3*x.1+1))then aA (aB s.3 (2*n+5+2*t+3*x.1+1)) 6 10 else 0,p:= {now:=(HPS.p x).1,code:=(HPS.p x).2,okk:=(HPS.p x).3,val:=(HPS.p x).4,addr:=(HPS.p x).5,old:=(HPS.p x).6,nxt:=(HPS.p x).7,mark:=(HPS.p x).8,pops:=(HPS.p x).9},ex:=cN,en:=cF,fn:=cR,cl:=bU,pr:=gS},st:= {me:=st.1,sp:=st.2,R:=st.3},s:= {s with c:=s.4+1,k:=1,a:=2*n+5+2*t+3*x.1+1,o:=aB s.3 (2*n+5+2*t+3*x.1+1),w:=aB s.3 (2*n+5+2*t+3*x.1+1),ok:=bL s.3 (2*n+5+2*t+3*x.1+1) } }))) (.pre True (.pre (B0 t n st.1 (cJ (bif gX (aB s.3 (2*n+5+2*t+3*x.1+1))then aA (aB s.3 (2*n+5+2*t+3*x.1+1)) 0 3 else 0) (bif gX (aB s.3 (2*n+5+2*t+3*x.1+1))then aA (aB s.3 (2*n+5+2*t+3*x.1+1)) 6 10 else 0)) (dG (bif gX (aB s.3 (2*n+5+2*t+3*x.1+1))then aA (aB s.3 (2*n+5+2*t+3*x.1+1)) 0 3 else 0) (bif gX (aB s.3 (2*n+5+2*t+3*x.1+1))then aA (aB s.3 (2*n+5+2*t+3*x.1+1)) 3 3 else 0) (bif gX (aB s.3 (2*n+5+2*t+3*x.1+1))then aA (aB s.3 (2*n+5+2*t+3*x.1+1)) 6 10 else 0)) x.4∧True) (.pre ((t=t∧n=n)∧t=t∧n=n∧(false=false→(5:Int)=(5:Int))∧lE' s.3∧lE' st.3) (.ret {d:=false,x:= {x with at':=5,sh:=bif gX (aB s.3 (2*n+5+2*t+3*x.1+1))then aA (aB s.3 (2*n+5+2*t+3*x.1+1)) 0 3 else 0,kd:=bif gX (aB s.3 (2*n+5+2*t+3*x.1+1))then aA (aB s.3 (2*n+5+2*t+3*x.1+1)) 3 3 else 0,ky:=bif gX (aB s.3 (2*n+5+2*t+3*x.1+1))then aA (aB s.3 (2*n+5+2*t+3*x.1+1)) 6 10 else 0,p:= {now:=(HPS.p x).1,code:=(HPS.p x).2,okk:=(HPS.p x).3,val:=(HPS.p x).4,addr:=(HPS.p x).5,old:=(HPS.p x).6,nxt:=(HPS.p x).7,mark:=(HPS.p x).8,pops:=(HPS.p x).9},ex:=cN,en:=cF,fn:=qI t n st.1 (cJ (bif gX (aB s.3 (2*n+5+2*t+3*x.1+1))then aA (aB s.3 (2*n+5+2*t+3*x.1+1)) 0 3 else 0) (bif gX (aB s.3 (2*n+5+2*t+3*x.1+1))then aA (aB s.3 (2*n+5+2*t+3*x.1+1)) 6 10 else 0)) (dG (bif gX (aB s.3 (2*n+5+2*t+3*x.1+1))then aA (aB s.3 (2*n+5+2*t+3*x.1+1)) 0 3 else 0) (bif gX (aB s.3 (2*n+5+2*t+3*x.1+1))then aA (aB s.3 (2*n+5+2*t+3*x.1+1)) 3 3 else 0) (bif gX (aB s.3 (2*n+5+2*t+3*x.1+1))then aA (aB s.3 (2*n+5+2*t+3*x.1+1)) 6 10 else 0)) x.4,cl:=bU,pr:=gS},st:= {me:=st.1,sp:=st.2,R:=st.3},s:= {s with c:=s.4+1,k:=1,a:=2*n+5+2*t+3*x.1+1,o:=aB s.3 (2*n+5+2*t+3*x.1+1),w:=aB s.3 (2*n+5+2*t+3*x.1+1),ok:=bL s.3 (2*n+5+2*t+3*x.1+1) } }))))) (.pre True (.pre (B0 t n st.1 (cJ (bif gX (aB s.3 (2*n+5+2*t+3*x.1+1))then aA (aB s.3 (2*n+5+2*t+3*x.1+1)) 0 3 else 0) (bif gX (aB s.3 (2*n+5+2*t+3*x.1+1))then aA (aB s.3 (2*n+5+2*t+3*x.1+1)) 6 10 else 0)) (dG (bif gX (aB s.3 (2*n+5+2*t+3*x.1+1))then aA (aB s.3 (2*n+5+2*t+3*x.1+1)) 0 3 else 0) (bif gX (aB s.3 (2*n+5+2*t+3*x.1+1))then aA (aB s.3 (2*n+5+2*t+3*x.1+1)) 3 3 else 0) (bif gX (aB s.3 (2*n+5+2*t+3*x.1+1))then aA (aB s.3 (2*n+5+2*t+3*x.1+1)) 6 10 else 0)) x.4∧True) (.pre ((t=t∧n=n)∧t=t∧n=n∧(false=false→(5:Int)=(5:Int))∧lE' s.3∧lE' st.3) (.ret {d:=false,x:= {x with at':=5,sh:=bif gX (aB s.3 (2*n+5+2*t+3*x.1+1))then aA (aB s.3 (2*n+5+2*t+3*x.1+1)) 0 3 else 0,kd:=bif gX (aB s.3 (2*n+5+2*t+3*x.1+1))then aA (aB s.3 (2*n+5+2*t+3*x.1+1)) 3 3 else 0,ky:=bif gX (aB s.3 (2*n+5+2*t+3*x.1+1))then aA (aB s.3 (2*n+5+2*t+3*x.1+1)) 6 10 else 0,p:= {now:=(HPS.p x).1,code:=(HPS.p x).2,okk:=(HPS.p x).3,val:=(HPS.p x).4,addr:=(HPS.p x).5,old:=(HPS.p x).6,nxt:=(HPS.p x).7,mark:=(HPS.p x).8,pops:=(HPS.p x).9},ex:=cN,en:=cF,fn:=qI t n st.1 (cJ (bif gX (aB s.3 (2*n+5+2*t+3*x.1+1))then aA (aB s.3 (2*n+5+2*t+3*x.1+1)) 0 3 else 0) (bif gX (aB s.3 (2*n+5+2*t+3*x.1+1))then aA (aB s.3 (2*n+5+2*t+3*x.1+1)) 6 10 else 0)) (dG (bif gX (aB s.3 (2*n+5+2*t+3*x.1+1))then aA (aB s.3 (2*n+5+2*t+3*x.1+1)) 0 3 else 0) (bif gX (aB s.3 (2*n+5+2*t+3*x.1+1))then aA (aB s.3 (2*n+5+2*t+3*x.1+1)) 3 3 else 0) (bif gX (aB s.3 (2*n+5+2*t+3*x.1+1))then aA (aB s.3 (2*n+5+2*t+3*x.1+1)) 6 10 else 0)) x.4,cl:=bU,pr:=gS},st:= {me:=st.1,sp:=st.2,R:=st.3},s:= {s with c:=s.4+1,k:=1,a:=2*n+5+2*t+3*x.1+1,o:=aB s.3 (2*n+5+2*t+3*x.1+1),w:=aB s.3 (2*n+5+2*t+3*x.1+1),ok:=bL s.3 (2*n+5+2*t+3*x.1+1) } })))))))))))
theorem JG(t n:Int)(x:HPS)(st:STS)(s:MS)(K:HpO→Prop)(h:(vN t n x st s).run K):cT' 52 [.ptr 0 0,.ptr 2 0] [some (.cells [.ptr 1 0,.int .i64 x.u,.int .u64 x.no,.int .i64 x.rounds,.int .i64 x.limit,.int .i64 2,.int .u64 x.found,.int .i64 x.sh,.int .i64 x.kd,.int .i64 x.ky,.bool x.p.now,.int .i64 x.p.code,.bool x.p.okk,.int .i64 x.p.val,.int .i64 x.p.addr,.int .u64 x.p.old,.int .i64 x.p.nxt,.bool x.p.mark,.int .i64 x.p.pops,.O,.O,.O,.O,.O]),stC 4 t n st,a9 3 s,bA s,mG st] (cV 4 0 [19,20,21,22,23] [(.cell 1 4,.ints (some .i64))] (wT t n) K):=by
 exact cM' (E:=EH0) (by kernel_rfl) h
def qM(t n:Int)(x:HPS)(st:STS)(s:MS):Tr HpO:=.pre (lE' s.3∧VA t n x.11 s) (.ite (exF t n x.11 s).1 (.ite (!ieq (ExO.x (exF t n x.11 s)).1 0) (.pre (lE' st.3∧1=1∧List.length st.3+(1:Nat)≤(4294967296:Nat)) (.pre ((t=t∧n=n)∧(false=false→(0:Int)≠(3:Int)∧(0:Int)≠(4:Int)∧(0:Int)≠(5:Int)∧(0:Int)≠(7:Int)∧(0:Int)≠(8:Int))∧lE' (ExO.s (exF t n x.11 s)).3∧List.length st.3+(1:Nat)=List.length (st.3++ [(ExO.x (exF t n x.11 s)).1])) (.ret {d:=false,x:= {x with at':=0,p:= {now:=(HPS.p x).1,code:=(HPS.p x).2,okk:=(HPS.p x).3,val:=(HPS.p x).4,addr:=(HPS.p x).5,old:=(HPS.p x).6,nxt:=(HPS.p x).7,mark:=(HPS.p x).8,pops:=(HPS.p x).9},ex:=cN,en:=cF,fn:=cR,cl:=bU,pr:=gS},st:= {me:=st.1,sp:=st.2,R:=st.3++ [(ExO.x (exF t n x.11 s)).1] },s:= {t:=(ExO.s (exF t n x.11 s)).1,n:=(ExO.s (exF t n x.11 s)).2,xs:=(ExO.s (exF t n x.11 s)).3,c:=(ExO.s (exF t n x.11 s)).4,k:=(ExO.s (exF t n x.11 s)).5,a:=(ExO.s (exF t n x.11 s)).6,o:=(ExO.s (exF t n x.11 s)).7,w:=(ExO.s (exF t n x.11 s)).8,ok:=(ExO.s (exF t n x.11 s)).9} }))) (.pre ((t=t∧n=n)∧(false=false→(0:Int)≠(3:Int)∧(0:Int)≠(4:Int)∧(0:Int)≠(5:Int)∧(0:Int)≠(7:Int)∧(0:Int)≠(8:Int))∧lE' (ExO.s (exF t n x.11 s)).3∧lE' st.3) (.ret {d:=false,x:= {x with at':=0,p:= {now:=(HPS.p x).1,code:=(HPS.p x).2,okk:=(HPS.p x).3,val:=(HPS.p x).4,addr:=(HPS.p x).5,old:=(HPS.p x).6,nxt:=(HPS.p x).7,mark:=(HPS.p x).8,pops:=(HPS.p x).9},ex:=cN,en:=cF,fn:=cR,cl:=bU,pr:=gS},st:= {me:=st.1,sp:=st.2,R:=st.3},s:= {t:=(ExO.s (exF t n x.11 s)).1,n:=(ExO.s (exF t n x.11 s)).2,xs:=(ExO.s (exF t n x.11 s)).3,c:=(ExO.s (exF t n x.11 s)).4,k:=(ExO.s (exF t n x.11 s)).5,a:=(ExO.s (exF t n x.11 s)).6,o:=(ExO.s (exF t n x.11 s)).7,w:=(ExO.s (exF t n x.11 s)).8,ok:=(ExO.s (exF t n x.11 s)).9} }))) (.pre ((t=t∧n=n)∧t=t∧n=n∧(false=false→(3:Int)=(3:Int))∧lE' (ExO.s (exF t n x.11 s)).3∧lE' st.3) (.ret {d:=false,x:= {x with at':=3,p:= {now:=(HPS.p x).1,code:=(HPS.p x).2,okk:=(HPS.p x).3,val:=(HPS.p x).4,addr:=(HPS.p x).5,old:=(HPS.p x).6,nxt:=(HPS.p x).7,mark:=(HPS.p x).8,pops:=(HPS.p x).9},ex:=(exF t n x.11 s).2,en:=cF,fn:=cR,cl:=bU,pr:=gS},st:= {me:=st.1,sp:=st.2,R:=st.3},s:= {t:=(ExO.s (exF t n x.11 s)).1,n:=(ExO.s (exF t n x.11 s)).2,xs:=(ExO.s (exF t n x.11 s)).3,c:=(ExO.s (exF t n x.11 s)).4,k:=(ExO.s (exF t n x.11 s)).5,a:=(ExO.s (exF t n x.11 s)).6,o:=(ExO.s (exF t n x.11 s)).7,w:=(ExO.s (exF t n x.11 s)).8,ok:=(ExO.s (exF t n x.11 s)).9} })))
theorem JH(t n:Int)(x:HPS)(st:STS)(s:MS)(K:HpO→Prop)(h:(qM t n x st s).run K):cT' 52 [.ptr 0 0,.ptr 2 0] [some (.cells [.ptr 1 0,.int .i64 x.u,.int .u64 x.no,.int .i64 x.rounds,.int .i64 x.limit,.int .i64 3,.int .u64 x.found,.int .i64 x.sh,.int .i64 x.kd,.int .i64 x.ky,.bool x.p.now,.int .i64 x.p.code,.bool x.p.okk,.int .i64 x.p.val,.int .i64 x.p.addr,.int .u64 x.p.old,.int .i64 x.p.nxt,.bool x.p.mark,.int .i64 x.p.pops,.ptr 4 0,.O,.O,.O,.O]),stC 5 t n st,a9 3 s,bA s,some (.abs (.exec t n x.ex) []),mG st] (cV 4 0 [19,20,21,22,23] [(.cell 1 4,.ints (some .i64))] (wT t n) K):=by
 exact cM' (E:=EH0) (by kernel_rfl) h
def qN(t n:Int)(x:HPS)(st:STS)(s:MS):Tr HpO:=.pre ((lE' s.3∧lE' st.3∧t=t∧n=n)∧KQ t n (HPS.en x) {me:=st.1,sp:=st.2,R:=st.3} s) (.ite (enF t n x.12 st s).1 (.ite (EO.e (enF t n x.12 st s)).2 (.pre ((t=t∧n=n)∧(false=false→(6:Int)≠(3:Int)∧(6:Int)≠(4:Int)∧(6:Int)≠(5:Int)∧(6:Int)≠(7:Int)∧(6:Int)≠(8:Int))∧lE' (EO.s (enF t n x.12 st s)).3∧lE' (EO.st (enF t n x.12 st s)).3) (.ret {d:=false,x:= {x with at':=6,p:= {now:=true,code:=4,okk:=false,val:=0,addr:=0,old:=0,nxt:=0,mark:=false,pops:=0},ex:=cN,en:=cF,fn:=cR,cl:=bU,pr:=gS},st:= {me:=(EO.st (enF t n x.12 st s)).1,sp:=(EO.st (enF t n x.12 st s)).2,R:=(EO.st (enF t n x.12 st s)).3},s:= {t:=(EO.s (enF t n x.12 st s)).1,n:=(EO.s (enF t n x.12 st s)).2,xs:=(EO.s (enF t n x.12 st s)).3,c:=(EO.s (enF t n x.12 st s)).4,k:=(EO.s (enF t n x.12 st s)).5,a:=(EO.s (enF t n x.12 st s)).6,o:=(EO.s (enF t n x.12 st s)).7,w:=(EO.s (enF t n x.12 st s)).8,ok:=(EO.s (enF t n x.12 st s)).9} })) (.pre True (.pre (B0 t n (EO.st (enF t n x.12 st s)).1 (cJ x.7 x.9) (dG x.7 x.8 x.9) x.4∧True) (.pre ((t=t∧n=n)∧t=t∧n=n∧(false=false→(5:Int)=(5:Int))∧lE' (EO.s (enF t n x.12 st s)).3∧lE' (EO.st (enF t n x.12 st s)).3) (.ret {d:=false,x:= {x with at':=5,p:= {now:=(HPS.p x).1,code:=(HPS.p x).2,okk:=(HPS.p x).3,val:=(HPS.p x).4,addr:=(HPS.p x).5,old:=(HPS.p x).6,nxt:=(HPS.p x).7,mark:=(HPS.p x).8,pops:=(HPS.p x).9},ex:=cN,en:=cF,fn:=qI t n (EO.st (enF t n x.12 st s)).1 (cJ x.7 x.9) (dG x.7 x.8 x.9) x.4,cl:=bU,pr:=gS},st:= {me:=(EO.st (enF t n x.12 st s)).1,sp:=(EO.st (enF t n x.12 st s)).2,R:=(EO.st (enF t n x.12 st s)).3},s:= {t:=(EO.s (enF t n x.12 st s)).1,n:=(EO.s (enF t n x.12 st s)).2,xs:=(EO.s (enF t n x.12 st s)).3,c:=(EO.s (enF t n x.12 st s)).4,k:=(EO.s (enF t n x.12 st s)).5,a:=(EO.s (enF t n x.12 st s)).6,o:=(EO.s (enF t n x.12 st s)).7,w:=(EO.s (enF t n x.12 st s)).8,ok:=(EO.s (enF t n x.12 st s)).9} }))))) (.pre ((t=t∧n=n)∧t=t∧n=n∧(false=false→(4:Int)=(4:Int))∧lE' (EO.s (enF t n x.12 st s)).3∧lE' (EO.st (enF t n x.12 st s)).3) (.ret {d:=false,x:= {x with at':=4,p:= {now:=(HPS.p x).1,code:=(HPS.p x).2,okk:=(HPS.p x).3,val:=(HPS.p x).4,addr:=(HPS.p x).5,old:=(HPS.p x).6,nxt:=(HPS.p x).7,mark:=(HPS.p x).8,pops:=(HPS.p x).9},ex:=cN,en:=(enF t n x.12 st s).2,fn:=cR,cl:=bU,pr:=gS},st:= {me:=(EO.st (enF t n x.12 st s)).1,sp:=(EO.st (enF t n x.12 st s)).2,R:=(EO.st (enF t n x.12 st s)).3},s:= {t:=(EO.s (enF t n x.12 st s)).1,n:=(EO.s (enF t n x.12 st s)).2,xs:=(EO.s (enF t n x.12 st s)).3,c:=(EO.s (enF t n x.12 st s)).4,k:=(EO.s (enF t n x.12 st s)).5,a:=(EO.s (enF t n x.12 st s)).6,o:=(EO.s (enF t n x.12 st s)).7,w:=(EO.s (enF t n x.12 st s)).8,ok:=(EO.s (enF t n x.12 st s)).9} })))
theorem JI(t n:Int)(x:HPS)(st:STS)(s:MS)(K:HpO→Prop)(h:(qN t n x st s).run K):cT' 52 [.ptr 0 0,.ptr 2 0] [some (.cells [.ptr 1 0,.int .i64 x.u,.int .u64 x.no,.int .i64 x.rounds,.int .i64 x.limit,.int .i64 4,.int .u64 x.found,.int .i64 x.sh,.int .i64 x.kd,.int .i64 x.ky,.bool x.p.now,.int .i64 x.p.code,.bool x.p.okk,.int .i64 x.p.val,.int .i64 x.p.addr,.int .u64 x.p.old,.int .i64 x.p.nxt,.bool x.p.mark,.int .i64 x.p.pops,.O,.ptr 4 0,.O,.O,.O]),stC 5 t n st,a9 3 s,bA s,some (.abs (.ensure t n x.en) [1]),mG st] (cV 4 0 [19,20,21,22,23] [(.cell 1 4,.ints (some .i64))] (wT t n) K):=by
 exact cM' (E:=EH0) (by kernel_rfl) h
def qO(t n:Int)(x:HPS)(st:STS)(s:MS):Tr HpO:=.pre (lE' s.3∧VT t n x.13 s) (.ite (fnF t n x.13 s).1 (.pre ((lE' st.3∧lE' (FnO.x (fnF t n x.13 s)).6∧List.length st.3+List.length (FnO.x (fnF t n x.13 s)).6≤(4294967296:Nat))∧True) (.pre (FS x.7 x.8 x.9 (FnO.x (fnF t n x.13 s)).1 (FnO.x (fnF t n x.13 s)).2 (FnO.x (fnF t n x.13 s)).3 (FnO.x (fnF t n x.13 s)).4 st.2∧True) (.ite (FnO.x (fnF t n x.13 s)).7 (.pre ((t=t∧n=n)∧(false=false→(0:Int)≠(3:Int)∧(0:Int)≠(4:Int)∧(0:Int)≠(5:Int)∧(0:Int)≠(7:Int)∧(0:Int)≠(8:Int))∧lE' (FnO.s (fnF t n x.13 s)).3∧List.length st.3+List.length (FnO.x (fnF t n x.13 s)).6=List.length (st.3++(FnO.x (fnF t n x.13 s)).6)) (.ret {d:=false,x:= {x with at':=0,p:= {now:=(bN x.7 x.8 x.9 (FnO.x (fnF t n x.13 s)).1 (FnO.x (fnF t n x.13 s)).2 (FnO.x (fnF t n x.13 s)).3 (FnO.x (fnF t n x.13 s)).4 st.2).1,code:=(bN x.7 x.8 x.9 (FnO.x (fnF t n x.13 s)).1 (FnO.x (fnF t n x.13 s)).2 (FnO.x (fnF t n x.13 s)).3 (FnO.x (fnF t n x.13 s)).4 st.2).2,okk:=(bN x.7 x.8 x.9 (FnO.x (fnF t n x.13 s)).1 (FnO.x (fnF t n x.13 s)).2 (FnO.x (fnF t n x.13 s)).3 (FnO.x (fnF t n x.13 s)).4 st.2).3,val:=(bN x.7 x.8 x.9 (FnO.x (fnF t n x.13 s)).1 (FnO.x (fnF t n x.13 s)).2 (FnO.x (fnF t n x.13 s)).3 (FnO.x (fnF t n x.13 s)).4 st.2).4,addr:=(bN x.7 x.8 x.9 (FnO.x (fnF t n x.13 s)).1 (FnO.x (fnF t n x.13 s)).2 (FnO.x (fnF t n x.13 s)).3 (FnO.x (fnF t n x.13 s)).4 st.2).5,old:=(bN x.7 x.8 x.9 (FnO.x (fnF t n x.13 s)).1 (FnO.x (fnF t n x.13 s)).2 (FnO.x (fnF t n x.13 s)).3 (FnO.x (fnF t n x.13 s)).4 st.2).6,nxt:=(bN x.7 x.8 x.9 (FnO.x (fnF t n x.13 s)).1 (FnO.x (fnF t n x.13 s)).2 (FnO.x (fnF t n x.13 s)).3 (FnO.x (fnF t n x.13 s)).4 st.2).7,mark:=(bN x.7 x.8 x.9 (FnO.x (fnF t n x.13 s)).1 (FnO.x (fnF t n x.13 s)).2 (FnO.x (fnF t n x.13 s)).3 (FnO.x (fnF t n x.13 s)).4 st.2).8,pops:=(bN x.7 x.8 x.9 (FnO.x (fnF t n x.13 s)).1 (FnO.x (fnF t n x.13 s)).2 (FnO.x (fnF t n x.13 s)).3 (FnO.x (fnF t n x.13 s)).4 st.2).9},ex:=cN,en:=cF,fn:=cR,cl:=bU,pr:=gS},st:= {me:=st.1,sp:=st.2,R:=st.3++(FnO.x (fnF t n x.13 s)).6},s:= {t:=(FnO.s (fnF t n x.13 s)).1,n:=(FnO.s (fnF t n x.13 s)).2,xs:=(FnO.s (fnF t n x.13 s)).3,c:=(FnO.s (fnF t n x.13 s)).4,k:=(FnO.s (fnF t n x.13 s)).5,a:=(FnO.s (fnF t n x.13 s)).6,o:=(FnO.s (fnF t n x.13 s)).7,w:=(FnO.s (fnF t n x.13 s)).8,ok:=(FnO.s (fnF t n x.13 s)).9} })) (.ite (bN x.7 x.8 x.9 (FnO.x (fnF t n x.13 s)).1 (FnO.x (fnF t n x.13 s)).2 (FnO.x (fnF t n x.13 s)).3 (FnO.x (fnF t n x.13 s)).4 st.2).1 (.pre ((t=t∧n=n)∧(false=false→(6:Int)≠(3:Int)∧(6:Int)≠(4:Int)∧(6:Int)≠(5:Int)∧(6:Int)≠(7:Int)∧(6:Int)≠(8:Int))∧lE' (FnO.s (fnF t n x.13 s)).3∧List.length st.3+List.length (FnO.x (fnF t n x.13 s)).6=List.length (st.3++(FnO.x (fnF t n x.13 s)).6)) (.ret {d:=false,x:= {x with at':=6,p:= {now:=(bN x.7 x.8 x.9 (FnO.x (fnF t n x.13 s)).1 (FnO.x (fnF t n x.13 s)).2 (FnO.x (fnF t n x.13 s)).3 (FnO.x (fnF t n x.13 s)).4 st.2).1,code:=(bN x.7 x.8 x.9 (FnO.x (fnF t n x.13 s)).1 (FnO.x (fnF t n x.13 s)).2 (FnO.x (fnF t n x.13 s)).3 (FnO.x (fnF t n x.13 s)).4 st.2).2,okk:=(bN x.7 x.8 x.9 (FnO.x (fnF t n x.13 s)).1 (FnO.x (fnF t n x.13 s)).2 (FnO.x (fnF t n x.13 s)).3 (FnO.x (fnF t n x.13 s)).4 st.2).3,val:=(bN x.7 x.8 x.9 (FnO.x (fnF t n x.13 s)).1 (FnO.x (fnF t n x.13 s)).2 (FnO.x (fnF t n x.13 s)).3 (FnO.x (fnF t n x.13 s)).4 st.2).4,addr:=(bN x.7 x.8 x.9 (FnO.x (fnF t n x.13 s)).1 (FnO.x (fnF t n x.13 s)).2 (FnO.x (fnF t n x.13 s)).3 (FnO.x (fnF t n x.13 s)).4 st.2).5,old:=(bN x.7 x.8 x.9 (FnO.x (fnF t n x.13 s)).1 (FnO.x (fnF t n x.13 s)).2 (FnO.x (fnF t n x.13 s)).3 (FnO.x (fnF t n x.13 s)).4 st.2).6,nxt:=(bN x.7 x.8 x.9 (FnO.x (fnF t n x.13 s)).1 (FnO.x (fnF t n x.13 s)).2 (FnO.x (fnF t n x.13 s)).3 (FnO.x (fnF t n x.13 s)).4 st.2).7,mark:=(bN x.7 x.8 x.9 (FnO.x (fnF t n x.13 s)).1 (FnO.x (fnF t n x.13 s)).2 (FnO.x (fnF t n x.13 s)).3 (FnO.x (fnF t n x.13 s)).4 st.2).8,pops:=(bN x.7 x.8 x.9 (FnO.x (fnF t n x.13 s)).1 (FnO.x (fnF t n x.13 s)).2 (FnO.x (fnF t n x.13 s)).3 (FnO.x (fnF t n x.13 s)).4 st.2).9},ex:=cN,en:=cF,fn:=cR,cl:=bU,pr:=gS},st:= {me:=st.1,sp:=st.2,R:=st.3++(FnO.x (fnF t n x.13 s)).6},s:= {t:=(FnO.s (fnF t n x.13 s)).1,n:=(FnO.s (fnF t n x.13 s)).2,xs:=(FnO.s (fnF t n x.13 s)).3,c:=(FnO.s (fnF t n x.13 s)).4,k:=(FnO.s (fnF t n x.13 s)).5,a:=(FnO.s (fnF t n x.13 s)).6,o:=(FnO.s (fnF t n x.13 s)).7,w:=(FnO.s (fnF t n x.13 s)).8,ok:=(FnO.s (fnF t n x.13 s)).9} })) (.pre (uE (bN x.7 x.8 x.9 (FnO.x (fnF t n x.13 s)).1 (FnO.x (fnF t n x.13 s)).2 (FnO.x (fnF t n x.13 s)).3 (FnO.x (fnF t n x.13 s)).4 st.2).1 (bN x.7 x.8 x.9 (FnO.x (fnF t n x.13 s)).1 (FnO.x (fnF t n x.13 s)).2 (FnO.x (fnF t n x.13 s)).3 (FnO.x (fnF t n x.13 s)).4 st.2).2 (bN x.7 x.8 x.9 (FnO.x (fnF t n x.13 s)).1 (FnO.x (fnF t n x.13 s)).2 (FnO.x (fnF t n x.13 s)).3 (FnO.x (fnF t n x.13 s)).4 st.2).3 (bN x.7 x.8 x.9 (FnO.x (fnF t n x.13 s)).1 (FnO.x (fnF t n x.13 s)).2 (FnO.x (fnF t n x.13 s)).3 (FnO.x (fnF t n x.13 s)).4 st.2).4 (bN x.7 x.8 x.9 (FnO.x (fnF t n x.13 s)).1 (FnO.x (fnF t n x.13 s)).2 (FnO.x (fnF t n x.13 s)).3 (FnO.x (fnF t n x.13 s)).4 st.2).5 (bN x.7 x.8 x.9 (FnO.x (fnF t n x.13 s)).1 (FnO.x (fnF t n x.13 s)).2 (FnO.x (fnF t n x.13 s)).3 (FnO.x (fnF t n x.13 s)).4 st.2).6 (bN x.7 x.8 x.9 (FnO.x (fnF t n x.13 s)).1 (FnO.x (fnF t n x.13 s)).2 (FnO.x (fnF t n x.13 s)).3 (FnO.x (fnF t n x.13 s)).4 st.2).7 (bN x.7 x.8 x.9 (FnO.x (fnF t n x.13 s)).1 (FnO.x (fnF t n x.13 s)).2 (FnO.x (fnF t n x.13 s)).3 (FnO.x (fnF t n x.13 s)).4 st.2).8 (bN x.7 x.8 x.9 (FnO.x (fnF t n x.13 s)).1 (FnO.x (fnF t n x.13 s)).2 (FnO.x (fnF t n x.13 s)).3 (FnO.x (fnF t n x.13 s)).4 st.2).9) (.ite (nR (bN x.7 x.8 x.9 (FnO.x (fnF t n x.13 s)).1 (FnO.x (fnF t n x.13 s)).2 (FnO.x (fnF t n x.13 s)).3 (FnO.x (fnF t n x.13 s)).4 st.2).1 (bN x.7 x.8 x.9 (FnO.x (fnF t n x.13 s)).1 (FnO.x (fnF t n x.13 s)).2 (FnO.x (fnF t n x.13 s)).3 (FnO.x (fnF t n x.13 s)).4 st.2).2 (bN x.7 x.8 x.9 (FnO.x (fnF t n x.13 s)).1 (FnO.x (fnF t n x.13 s)).2 (FnO.x (fnF t n x.13 s)).3 (FnO.x (fnF t n x.13 s)).4 st.2).3 (bN x.7 x.8 x.9 (FnO.x (fnF t n x.13 s)).1 (FnO.x (fnF t n x.13 s)).2 (FnO.x (fnF t n x.13 s)).3 (FnO.x (fnF t n x.13 s)).4 st.2).4 (bN x.7 x.8 x.9 (FnO.x (fnF t n x.13 s)).1 (FnO.x (fnF t n x.13 s)).2 (FnO.x (fnF t n x.13 s)).3 (FnO.x (fnF t n x.13 s)).4 st.2).5 (bN x.7 x.8 x.9 (FnO.x (fnF t n x.13 s)).1 (FnO.x (fnF t n x.13 s)).2 (FnO.x (fnF t n x.13 s)).3 (FnO.x (fnF t n x.13 s)).4 st.2).6 (bN x.7 x.8 x.9 (FnO.x (fnF t n x.13 s)).1 (FnO.x (fnF t n x.13 s)).2 (FnO.x (fnF t n x.13 s)).3 (FnO.x (fnF t n x.13 s)).4 st.2).7 (bN x.7 x.8 x.9 (FnO.x (fnF t n x.13 s)).1 (FnO.x (fnF t n x.13 s)).2 (FnO.x (fnF t n x.13 s)).3 (FnO.x (fnF t n x.13 s)).4 st.2).8 (bN x.7 x.8 x.9 (FnO.x (fnF t n x.13 s)).1 (FnO.x (fnF t n x.13 s)).2 (FnO.x (fnF t n x.13 s)).3 (FnO.x (fnF t n x.13 s)).4 st.2).9) (.pre (u2 t n (bN x.7 x.8 x.9 (FnO.x (fnF t n x.13 s)).1 (FnO.x (fnF t n x.13 s)).2 (FnO.x (fnF t n x.13 s)).3 (FnO.x (fnF t n x.13 s)).4 st.2).5∧True) (.pre ((t=t∧n=n)∧t=t∧n=n∧(false=false→(7:Int)=(7:Int))∧lE' (FnO.s (fnF t n x.13 s)).3∧List.length st.3+List.length (FnO.x (fnF t n x.13 s)).6=List.length (st.3++(FnO.x (fnF t n x.13 s)).6)) (.ret {d:=false,x:= {x with at':=7,p:= {now:=(bN x.7 x.8 x.9 (FnO.x (fnF t n x.13 s)).1 (FnO.x (fnF t n x.13 s)).2 (FnO.x (fnF t n x.13 s)).3 (FnO.x (fnF t n x.13 s)).4 st.2).1,code:=(bN x.7 x.8 x.9 (FnO.x (fnF t n x.13 s)).1 (FnO.x (fnF t n x.13 s)).2 (FnO.x (fnF t n x.13 s)).3 (FnO.x (fnF t n x.13 s)).4 st.2).2,okk:=(bN x.7 x.8 x.9 (FnO.x (fnF t n x.13 s)).1 (FnO.x (fnF t n x.13 s)).2 (FnO.x (fnF t n x.13 s)).3 (FnO.x (fnF t n x.13 s)).4 st.2).3,val:=(bN x.7 x.8 x.9 (FnO.x (fnF t n x.13 s)).1 (FnO.x (fnF t n x.13 s)).2 (FnO.x (fnF t n x.13 s)).3 (FnO.x (fnF t n x.13 s)).4 st.2).4,addr:=(bN x.7 x.8 x.9 (FnO.x (fnF t n x.13 s)).1 (FnO.x (fnF t n x.13 s)).2 (FnO.x (fnF t n x.13 s)).3 (FnO.x (fnF t n x.13 s)).4 st.2).5,old:=(bN x.7 x.8 x.9 (FnO.x (fnF t n x.13 s)).1 (FnO.x (fnF t n x.13 s)).2 (FnO.x (fnF t n x.13 s)).3 (FnO.x (fnF t n x.13 s)).4 st.2).6,nxt:=(bN x.7 x.8 x.9 (FnO.x (fnF t n x.13 s)).1 (FnO.x (fnF t n x.13 s)).2 (FnO.x (fnF t n x.13 s)).3 (FnO.x (fnF t n x.13 s)).4 st.2).7,mark:=(bN x.7 x.8 x.9 (FnO.x (fnF t n x.13 s)).1 (FnO.x (fnF t n x.13 s)).2 (FnO.x (fnF t n x.13 s)).3 (FnO.x (fnF t n x.13 s)).4 st.2).8,pops:=(bN x.7 x.8 x.9 (FnO.x (fnF t n x.13 s)).1 (FnO.x (fnF t n x.13 s)).2 (FnO.x (fnF t n x.13 s)).3 (FnO.x (fnF t n x.13 s)).4 st.2).9},ex:=cN,en:=cF,fn:=cR,cl:=DV t n (bN x.7 x.8 x.9 (FnO.x (fnF t n x.13 s)).1 (FnO.x (fnF t n x.13 s)).2 (FnO.x (fnF t n x.13 s)).3 (FnO.x (fnF t n x.13 s)).4 st.2).5,pr:=gS},st:= {me:=st.1,sp:=st.2,R:=st.3++(FnO.x (fnF t n x.13 s)).6},s:= {t:=(FnO.s (fnF t n x.13 s)).1,n:=(FnO.s (fnF t n x.13 s)).2,xs:=(FnO.s (fnF t n x.13 s)).3,c:=(FnO.s (fnF t n x.13 s)).4,k:=(FnO.s (fnF t n x.13 s)).5,a:=(FnO.s (fnF t n x.13 s)).6,o:=(FnO.s (fnF t n x.13 s)).7,w:=(FnO.s (fnF t n x.13 s)).8,ok:=(FnO.s (fnF t n x.13 s)).9} }))) (.pre True (.ite (bM x.8) (.pre ((List.length st.3+List.length (FnO.x (fnF t n x.13 s)).6=List.length (st.3++(FnO.x (fnF t n x.13 s)).6)∧OH t n x.9 (FnO.x (fnF t n x.13 s)).3 {me:=st.1,sp:=st.2,R:=st.3++(FnO.x (fnF t n x.13 s)).6})∧True) (.pre ((t=t∧n=n)∧t=t∧n=n∧(false=false→(8:Int)=(8:Int))∧lE' (FnO.s (fnF t n x.13 s)).3∧lE' (Prod.snd (CQ t n x.9 (FnO.x (fnF t n x.13 s)).3 {me:=st.1,sp:=st.2,R:=st.3++(FnO.x (fnF t n x.13 s)).6})).3) (.ret {d:=false,x:= {x with at':=8,p:= {now:=(bN x.7 x.8 x.9 (FnO.x (fnF t n x.13 s)).1 (FnO.x (fnF t n x.13 s)).2 (FnO.x (fnF t n x.13 s)).3 (FnO.x (fnF t n x.13 s)).4 st.2).1,code:=(bN x.7 x.8 x.9 (FnO.x (fnF t n x.13 s)).1 (FnO.x (fnF t n x.13 s)).2 (FnO.x (fnF t n x.13 s)).3 (FnO.x (fnF t n x.13 s)).4 st.2).2,okk:=(bN x.7 x.8 x.9 (FnO.x (fnF t n x.13 s)).1 (FnO.x (fnF t n x.13 s)).2 (FnO.x (fnF t n x.13 s)).3 (FnO.x (fnF t n x.13 s)).4 st.2).3,val:=(bN x.7 x.8 x.9 (FnO.x (fnF t n x.13 s)).1 (FnO.x (fnF t n x.13 s)).2 (FnO.x (fnF t n x.13 s)).3 (FnO.x (fnF t n x.13 s)).4 st.2).4,addr:=(bN x.7 x.8 x.9 (FnO.x (fnF t n x.13 s)).1 (FnO.x (fnF t n x.13 s)).2 (FnO.x (fnF t n x.13 s)).3 (FnO.x (fnF t n x.13 s)).4 st.2).5,old:=(bN x.7 x.8 x.9 (FnO.x (fnF t n x.13 s)).1 (FnO.x (fnF t n x.13 s)).2 (FnO.x (fnF t n x.13 s)).3 (FnO.x (fnF t n x.13 s)).4 st.2).6,nxt:=(bN x.7 x.8 x.9 (FnO.x (fnF t n x.13 s)).1 (FnO.x (fnF t n x.13 s)).2 (FnO.x (fnF t n x.13 s)).3 (FnO.x (fnF t n x.13 s)).4 st.2).7,mark:=(bN x.7 x.8 x.9 (FnO.x (fnF t n x.13 s)).1 (FnO.x (fnF t n x.13 s)).2 (FnO.x (fnF t n x.13 s)).3 (FnO.x (fnF t n x.13 s)).4 st.2).8,pops:=(bN x.7 x.8 x.9 (FnO.x (fnF t n x.13 s)).1 (FnO.x (fnF t n x.13 s)).2 (FnO.x (fnF t n x.13 s)).3 (FnO.x (fnF t n x.13 s)).4 st.2).9},ex:=cN,en:=cF,fn:=cR,cl:=bU,pr:=(CQ t n x.9 (FnO.x (fnF t n x.13 s)).3 {me:=st.1,sp:=st.2,R:=st.3++(FnO.x (fnF t n x.13 s)).6}).1},st:= {me:=(Prod.snd (CQ t n x.9 (FnO.x (fnF t n x.13 s)).3 {me:=st.1,sp:=st.2,R:=st.3++(FnO.x (fnF t n x.13 s)).6})).1,sp:=(Prod.snd (CQ t n x.9 (FnO.x (fnF t n x.13 s)).3 {me:=st.1,sp:=st.2,R:=st.3++(FnO.x (fnF t n x.13 s)).6})).2,R:=(Prod.snd (CQ t n x.9 (FnO.x (fnF t n x.13 s)).3 {me:=st.1,sp:=st.2,R:=st.3++(FnO.x (fnF t n x.13 s)).6})).3},s:= {t:=(FnO.s (fnF t n x.13 s)).1,n:=(FnO.s (fnF t n x.13 s)).2,xs:=(FnO.s (fnF t n x.13 s)).3,c:=(FnO.s (fnF t n x.13 s)).4,k:=(FnO.s (fnF t n x.13 s)).5,a:=(FnO.s (fnF t n x.13 s)).6,o:=(FnO.s (fnF t n x.13 s)).7,w:=(FnO.s (fnF t n x.13 s)).8,ok:=(FnO.s (fnF t n x.13 s)).9} }))) (.pre ((t=t∧n=n)∧(false=false→(9:Int)≠(3:Int)∧(9:Int)≠(4:Int)∧(9:Int)≠(5:Int)∧(9:Int)≠(7:Int)∧(9:Int)≠(8:Int))∧lE' (FnO.s (fnF t n x.13 s)).3∧List.length st.3+List.length (FnO.x (fnF t n x.13 s)).6=List.length (st.3++(FnO.x (fnF t n x.13 s)).6)) (.ret {d:=false,x:= {x with at':=9,p:= {now:=(bN x.7 x.8 x.9 (FnO.x (fnF t n x.13 s)).1 (FnO.x (fnF t n x.13 s)).2 (FnO.x (fnF t n x.13 s)).3 (FnO.x (fnF t n x.13 s)).4 st.2).1,code:=(bN x.7 x.8 x.9 (FnO.x (fnF t n x.13 s)).1 (FnO.x (fnF t n x.13 s)).2 (FnO.x (fnF t n x.13 s)).3 (FnO.x (fnF t n x.13 s)).4 st.2).2,okk:=(bN x.7 x.8 x.9 (FnO.x (fnF t n x.13 s)).1 (FnO.x (fnF t n x.13 s)).2 (FnO.x (fnF t n x.13 s)).3 (FnO.x (fnF t n x.13 s)).4 st.2).3,val:=(bN x.7 x.8 x.9 (FnO.x (fnF t n x.13 s)).1 (FnO.x (fnF t n x.13 s)).2 (FnO.x (fnF t n x.13 s)).3 (FnO.x (fnF t n x.13 s)).4 st.2).4,addr:=(bN x.7 x.8 x.9 (FnO.x (fnF t n x.13 s)).1 (FnO.x (fnF t n x.13 s)).2 (FnO.x (fnF t n x.13 s)).3 (FnO.x (fnF t n x.13 s)).4 st.2).5,old:=(bN x.7 x.8 x.9 (FnO.x (fnF t n x.13 s)).1 (FnO.x (fnF t n x.13 s)).2 (FnO.x (fnF t n x.13 s)).3 (FnO.x (fnF t n x.13 s)).4 st.2).6,nxt:=(bN x.7 x.8 x.9 (FnO.x (fnF t n x.13 s)).1 (FnO.x (fnF t n x.13 s)).2 (FnO.x (fnF t n x.13 s)).3 (FnO.x (fnF t n x.13 s)).4 st.2).7,mark:=(bN x.7 x.8 x.9 (FnO.x (fnF t n x.13 s)).1 (FnO.x (fnF t n x.13 s)).2 (FnO.x (fnF t n x.13 s)).3 (FnO.x (fnF t n x.13 s)).4 st.2).8,pops:=(bN x.7 x.8 x.9 (FnO.x (fnF t n x.13 s)).1 (FnO.x (fnF t n x.13 s)).2 (FnO.x (fnF t n x.13 s)).3 (FnO.x (fnF t n x.13 s)).4 st.2).9},ex:=cN,en:=cF,fn:=cR,cl:=bU,pr:=gS},st:= {me:=st.1,sp:=st.2,R:=st.3++(FnO.x (fnF t n x.13 s)).6},s:= {t:=(FnO.s (fnF t n x.13 s)).1,n:=(FnO.s (fnF t n x.13 s)).2,xs:=(FnO.s (fnF t n x.13 s)).3,c:=(FnO.s (fnF t n x.13 s)).4,k:=(FnO.s (fnF t n x.13 s)).5,a:=(FnO.s (fnF t n x.13 s)).6,o:=(FnO.s (fnF t n x.13 s)).7,w:=(FnO.s (fnF t n x.13 s)).8,ok:=(FnO.s (fnF t n x.13 s)).9} })))))))))) (.pre ((t=t∧n=n)∧t=t∧n=n∧(false=false→(5:Int)=(5:Int))∧lE' (FnO.s (fnF t n x.13 s)).3∧lE' st.3) (.ret {d:=false,x:= {x with at':=5,p:= {now:=(HPS.p x).1,code:=(HPS.p x).2,okk:=(HPS.p x).3,val:=(HPS.p x).4,addr:=(HPS.p x).5,old:=(HPS.p x).6,nxt:=(HPS.p x).7,mark:=(HPS.p x).8,pops:=(HPS.p x).9},ex:=cN,en:=cF,fn:=(fnF t n x.13 s).2,cl:=bU,pr:=gS},st:= {me:=st.1,sp:=st.2,R:=st.3},s:= {t:=(FnO.s (fnF t n x.13 s)).1,n:=(FnO.s (fnF t n x.13 s)).2,xs:=(FnO.s (fnF t n x.13 s)).3,c:=(FnO.s (fnF t n x.13 s)).4,k:=(FnO.s (fnF t n x.13 s)).5,a:=(FnO.s (fnF t n x.13 s)).6,o:=(FnO.s (fnF t n x.13 s)).7,w:=(FnO.s (fnF t n x.13 s)).8,ok:=(FnO.s (fnF t n x.13 s)).9} })))
theorem JJ(t n:Int)(x:HPS)(st:STS)(s:MS)(K:HpO→Prop)(h:(qO t n x st s).run K):cT' 52 [.ptr 0 0,.ptr 2 0] [some (.cells [.ptr 1 0,.int .i64 x.u,.int .u64 x.no,.int .i64 x.rounds,.int .i64 x.limit,.int .i64 5,.int .u64 x.found,.int .i64 x.sh,.int .i64 x.kd,.int .i64 x.ky,.bool x.p.now,.int .i64 x.p.code,.bool x.p.okk,.int .i64 x.p.val,.int .i64 x.p.addr,.int .u64 x.p.old,.int .i64 x.p.nxt,.bool x.p.mark,.int .i64 x.p.pops,.O,.O,.ptr 4 0,.O,.O]),stC 5 t n st,a9 3 s,bA s,some (.abs (.find t n x.fn) []),mG st] (cV 4 0 [19,20,21,22,23] [(.cell 1 4,.ints (some .i64))] (wT t n) K):=by
 exact cM' (E:=EH0) (by kernel_rfl) h
def vO(t n:Int)(x:HPS)(st:STS)(s:MS):Tr HpO:=.pre True (.pre True (.pre True (.pre ((((0:Int)≤t∧t≤(100000:Int))∧((0:Int)≤n∧n≤(100000:Int))∧(-1099511627776:Int)≤x.1∧x.1≤(1099511627776:Int))∧True) (.pre ((lE' s.3∧(0:Int)≤s.4∧s.4≤(4611686018427387904:Int))∧True) (.pre ((t=t∧n=n)∧(false=false→(0:Int)≠(3:Int)∧(0:Int)≠(4:Int)∧(0:Int)≠(5:Int)∧(0:Int)≠(7:Int)∧(0:Int)≠(8:Int))∧lE' (bif aS s.3 (2*n+5+2*t+3*x.1+2) x.6 then aJ s.3 (2*n+5+2*t+3*x.1+2) (bif dOk (aA x.6 0 12) 0 0 (bif ieq (HPS.p x).2 4 then 1 else 0) 5 (HPS.p x).4 then aY (aA x.6 0 12) 0 0 (bif ieq (HPS.p x).2 4 then 1 else 0) (HPS.p x).3 5 (HPS.p x).4 else 0)else s.3)∧lE' st.3) (.ret {d:=false,x:= {x with at':=0,p:= {now:=(HPS.p x).1,code:=(HPS.p x).2,okk:=(HPS.p x).3,val:=(HPS.p x).4,addr:=(HPS.p x).5,old:=(HPS.p x).6,nxt:=(HPS.p x).7,mark:=(HPS.p x).8,pops:=(HPS.p x).9},ex:=cN,en:=cF,fn:=cR,cl:=bU,pr:=gS},st:= {me:=st.1,sp:=st.2,R:=st.3},s:= {t:=s.1,n:=s.2,xs:=bif aS s.3 (2*n+5+2*t+3*x.1+2) x.6 then aJ s.3 (2*n+5+2*t+3*x.1+2) (bif dOk (aA x.6 0 12) 0 0 (bif ieq (HPS.p x).2 4 then 1 else 0) 5 (HPS.p x).4 then aY (aA x.6 0 12) 0 0 (bif ieq (HPS.p x).2 4 then 1 else 0) (HPS.p x).3 5 (HPS.p x).4 else 0)else s.3,c:=s.4+1,k:=3,a:=2*n+5+2*t+3*x.1+2,o:=aB s.3 (2*n+5+2*t+3*x.1+2),w:=bif bL s.3 (2*n+5+2*t+3*x.1+2)then bif dOk (aA x.6 0 12) 0 0 (bif ieq (HPS.p x).2 4 then 1 else 0) 5 (HPS.p x).4 then aY (aA x.6 0 12) 0 0 (bif ieq (HPS.p x).2 4 then 1 else 0) (HPS.p x).3 5 (HPS.p x).4 else 0 else 0,ok:=aS s.3 (2*n+5+2*t+3*x.1+2) x.6} }))))))
theorem JK(t n:Int)(x:HPS)(st:STS)(s:MS)(K:HpO→Prop)(h:(vO t n x st s).run K):cT' 52 [.ptr 0 0,.ptr 2 0] [some (.cells [.ptr 1 0,.int .i64 x.u,.int .u64 x.no,.int .i64 x.rounds,.int .i64 x.limit,.int .i64 6,.int .u64 x.found,.int .i64 x.sh,.int .i64 x.kd,.int .i64 x.ky,.bool x.p.now,.int .i64 x.p.code,.bool x.p.okk,.int .i64 x.p.val,.int .i64 x.p.addr,.int .u64 x.p.old,.int .i64 x.p.nxt,.bool x.p.mark,.int .i64 x.p.pops,.O,.O,.O,.O,.O]),stC 4 t n st,a9 3 s,bA s,mG st] (cV 4 0 [19,20,21,22,23] [(.cell 1 4,.ints (some .i64))] (wT t n) K):=by
 exact cM' (E:=EH0) (by kernel_rfl) h
def B8(t n:Int)(x:HPS)(st:STS)(s:MS):Tr HpO:=.pre (lE' s.3∧P4 t n x.14 s) (.ite (gA t n x.14 s).1 (.pre ((t=t∧n=n)∧(false=false→(0:Int)≠(3:Int)∧(0:Int)≠(4:Int)∧(0:Int)≠(5:Int)∧(0:Int)≠(7:Int)∧(0:Int)≠(8:Int))∧lE' (ClO.s (gA t n x.14 s)).3∧lE' st.3) (.ret {d:=false,x:= {x with at':=0,p:= {now:=(HPS.p x).1,code:=(HPS.p x).2,okk:=(HPS.p x).3,val:=(HPS.p x).4,addr:=(HPS.p x).5,old:=(HPS.p x).6,nxt:=(HPS.p x).7,mark:=(HPS.p x).8,pops:=(HPS.p x).9},ex:=cN,en:=cF,fn:=cR,cl:=bU,pr:=gS},st:= {me:=st.1,sp:=st.2,R:=st.3},s:= {t:=(ClO.s (gA t n x.14 s)).1,n:=(ClO.s (gA t n x.14 s)).2,xs:=(ClO.s (gA t n x.14 s)).3,c:=(ClO.s (gA t n x.14 s)).4,k:=(ClO.s (gA t n x.14 s)).5,a:=(ClO.s (gA t n x.14 s)).6,o:=(ClO.s (gA t n x.14 s)).7,w:=(ClO.s (gA t n x.14 s)).8,ok:=(ClO.s (gA t n x.14 s)).9} })) (.pre ((t=t∧n=n)∧t=t∧n=n∧(false=false→(7:Int)=(7:Int))∧lE' (ClO.s (gA t n x.14 s)).3∧lE' st.3) (.ret {d:=false,x:= {x with at':=7,p:= {now:=(HPS.p x).1,code:=(HPS.p x).2,okk:=(HPS.p x).3,val:=(HPS.p x).4,addr:=(HPS.p x).5,old:=(HPS.p x).6,nxt:=(HPS.p x).7,mark:=(HPS.p x).8,pops:=(HPS.p x).9},ex:=cN,en:=cF,fn:=cR,cl:=(gA t n x.14 s).2,pr:=gS},st:= {me:=st.1,sp:=st.2,R:=st.3},s:= {t:=(ClO.s (gA t n x.14 s)).1,n:=(ClO.s (gA t n x.14 s)).2,xs:=(ClO.s (gA t n x.14 s)).3,c:=(ClO.s (gA t n x.14 s)).4,k:=(ClO.s (gA t n x.14 s)).5,a:=(ClO.s (gA t n x.14 s)).6,o:=(ClO.s (gA t n x.14 s)).7,w:=(ClO.s (gA t n x.14 s)).8,ok:=(ClO.s (gA t n x.14 s)).9} })))
theorem JL(t n:Int)(x:HPS)(st:STS)(s:MS)(K:HpO→Prop)(h:(B8 t n x st s).run K):cT' 52 [.ptr 0 0,.ptr 2 0] [some (.cells [.ptr 1 0,.int .i64 x.u,.int .u64 x.no,.int .i64 x.rounds,.int .i64 x.limit,.int .i64 7,.int .u64 x.found,.int .i64 x.sh,.int .i64 x.kd,.int .i64 x.ky,.bool x.p.now,.int .i64 x.p.code,.bool x.p.okk,.int .i64 x.p.val,.int .i64 x.p.addr,.int .u64 x.p.old,.int .i64 x.p.nxt,.bool x.p.mark,.int .i64 x.p.pops,.O,.O,.O,.ptr 4 0,.O]),stC 5 t n st,a9 3 s,bA s,some (.abs (.clear t n x.cl) []),mG st] (cV 4 0 [19,20,21,22,23] [(.cell 1 4,.ints (some .i64))] (wT t n) K):=by
 exact cM' (E:=EH0) (by kernel_rfl) h
def qP(t n:Int)(x:HPS)(st:STS)(s:MS):Tr HpO:=.pre ((lE' s.3∧lE' st.3∧t=t∧n=n)∧SC t n x.15 st s) (.ite (prF t n x.15 st s).1 (.pre ((t=t∧n=n)∧(false=false→(9:Int)≠(3:Int)∧(9:Int)≠(4:Int)∧(9:Int)≠(5:Int)∧(9:Int)≠(7:Int)∧(9:Int)≠(8:Int))∧lE' (PrO.s (prF t n x.15 st s)).3∧lE' (PrO.st (prF t n x.15 st s)).3) (.ret {d:=false,x:= {x with at':=9,p:= {now:=(HPS.p x).1,code:=(HPS.p x).2,okk:=(HPS.p x).3,val:=(HPS.p x).4,addr:=(HPS.p x).5,old:=(HPS.p x).6,nxt:=(HPS.p x).7,mark:=(HPS.p x).8,pops:=(HPS.p x).9},ex:=cN,en:=cF,fn:=cR,cl:=bU,pr:=gS},st:= {me:=(PrO.st (prF t n x.15 st s)).1,sp:=(PrO.st (prF t n x.15 st s)).2,R:=(PrO.st (prF t n x.15 st s)).3},s:= {t:=(PrO.s (prF t n x.15 st s)).1,n:=(PrO.s (prF t n x.15 st s)).2,xs:=(PrO.s (prF t n x.15 st s)).3,c:=(PrO.s (prF t n x.15 st s)).4,k:=(PrO.s (prF t n x.15 st s)).5,a:=(PrO.s (prF t n x.15 st s)).6,o:=(PrO.s (prF t n x.15 st s)).7,w:=(PrO.s (prF t n x.15 st s)).8,ok:=(PrO.s (prF t n x.15 st s)).9} })) (.pre ((t=t∧n=n)∧t=t∧n=n∧(false=false→(8:Int)=(8:Int))∧lE' (PrO.s (prF t n x.15 st s)).3∧lE' (PrO.st (prF t n x.15 st s)).3) (.ret {d:=false,x:= {x with at':=8,p:= {now:=(HPS.p x).1,code:=(HPS.p x).2,okk:=(HPS.p x).3,val:=(HPS.p x).4,addr:=(HPS.p x).5,old:=(HPS.p x).6,nxt:=(HPS.p x).7,mark:=(HPS.p x).8,pops:=(HPS.p x).9},ex:=cN,en:=cF,fn:=cR,cl:=bU,pr:=(prF t n x.15 st s).2},st:= {me:=(PrO.st (prF t n x.15 st s)).1,sp:=(PrO.st (prF t n x.15 st s)).2,R:=(PrO.st (prF t n x.15 st s)).3},s:= {t:=(PrO.s (prF t n x.15 st s)).1,n:=(PrO.s (prF t n x.15 st s)).2,xs:=(PrO.s (prF t n x.15 st s)).3,c:=(PrO.s (prF t n x.15 st s)).4,k:=(PrO.s (prF t n x.15 st s)).5,a:=(PrO.s (prF t n x.15 st s)).6,o:=(PrO.s (prF t n x.15 st s)).7,w:=(PrO.s (prF t n x.15 st s)).8,ok:=(PrO.s (prF t n x.15 st s)).9} })))
theorem JM(t n:Int)(x:HPS)(st:STS)(s:MS)(K:HpO→Prop)(h:(qP t n x st s).run K):cT' 52 [.ptr 0 0,.ptr 2 0] [some (.cells [.ptr 1 0,.int .i64 x.u,.int .u64 x.no,.int .i64 x.rounds,.int .i64 x.limit,.int .i64 8,.int .u64 x.found,.int .i64 x.sh,.int .i64 x.kd,.int .i64 x.ky,.bool x.p.now,.int .i64 x.p.code,.bool x.p.okk,.int .i64 x.p.val,.int .i64 x.p.addr,.int .u64 x.p.old,.int .i64 x.p.nxt,.bool x.p.mark,.int .i64 x.p.pops,.O,.O,.O,.O,.ptr 4 0]),stC 5 t n st,a9 3 s,bA s,some (.abs (.prepare t n x.pr) [1]),mG st] (cV 4 0 [19,20,21,22,23] [(.cell 1 4,.ints (some .i64))] (wT t n) K):=by
 exact cM' (E:=EH0) (by kernel_rfl) h
def vP(t n:Int)(x:HPS)(st:STS)(s:MS):Tr HpO:=.pre True (.pre (AB (HPS.p x).1 (HPS.p x).2 (HPS.p x).3 (HPS.p x).4 (HPS.p x).5 (HPS.p x).6 (HPS.p x).7 (HPS.p x).8 (HPS.p x).9 (aA x.6 0 12)∧True) (.pre ((((0:Int)≤t∧t≤(100000:Int))∧((0:Int)≤n∧n≤(100000:Int))∧(-1099511627776:Int)≤x.1∧x.1≤(1099511627776:Int))∧True) (.pre ((lE' s.3∧(0:Int)≤s.4∧s.4≤(4611686018427387904:Int))∧True) (.ite (aS s.3 (2*n+5+2*t+3*x.1+2) x.6) (.pre True (.ite (bM x.8) (.pre ((t=t∧n=n)∧(false=false→(0:Int)≠(3:Int)∧(0:Int)≠(4:Int)∧(0:Int)≠(5:Int)∧(0:Int)≠(7:Int)∧(0:Int)≠(8:Int))∧lE' (bif aS s.3 (2*n+5+2*t+3*x.1+2) x.6 then aJ s.3 (2*n+5+2*t+3*x.1+2) (fB (HPS.p x).1 (HPS.p x).2 (HPS.p x).3 (HPS.p x).4 (HPS.p x).5 (HPS.p x).6 (HPS.p x).7 (HPS.p x).8 (HPS.p x).9 (aA x.6 0 12)).1 else s.3)∧lE' st.3) (.ret {d:=false,x:= {x with at':=0,p:= {now:=(HPS.p x).1,code:=(HPS.p x).2,okk:=(HPS.p x).3,val:=(HPS.p x).4,addr:=(HPS.p x).5,old:=(HPS.p x).6,nxt:=(HPS.p x).7,mark:=(HPS.p x).8,pops:=(HPS.p x).9},ex:=cN,en:=cF,fn:=cR,cl:=bU,pr:=gS},st:= {me:=st.1,sp:=0,R:=st.3},s:= {t:=s.1,n:=s.2,xs:=bif aS s.3 (2*n+5+2*t+3*x.1+2) x.6 then aJ s.3 (2*n+5+2*t+3*x.1+2) (fB (HPS.p x).1 (HPS.p x).2 (HPS.p x).3 (HPS.p x).4 (HPS.p x).5 (HPS.p x).6 (HPS.p x).7 (HPS.p x).8 (HPS.p x).9 (aA x.6 0 12)).1 else s.3,c:=s.4+1,k:=3,a:=2*n+5+2*t+3*x.1+2,o:=aB s.3 (2*n+5+2*t+3*x.1+2),w:=bif bL s.3 (2*n+5+2*t+3*x.1+2)then(fB (HPS.p x).1 (HPS.p x).2 (HPS.p x).3 (HPS.p x).4 (HPS.p x).5 (HPS.p x).6 (HPS.p x).7 (HPS.p x).8 (HPS.p x).9 (aA x.6 0 12)).1 else 0,ok:=aS s.3 (2*n+5+2*t+3*x.1+2) x.6} })) (.pre ((t=t∧n=n)∧(false=false→(0:Int)≠(3:Int)∧(0:Int)≠(4:Int)∧(0:Int)≠(5:Int)∧(0:Int)≠(7:Int)∧(0:Int)≠(8:Int))∧lE' (bif aS s.3 (2*n+5+2*t+3*x.1+2) x.6 then aJ s.3 (2*n+5+2*t+3*x.1+2) (fB (HPS.p x).1 (HPS.p x).2 (HPS.p x).3 (HPS.p x).4 (HPS.p x).5 (HPS.p x).6 (HPS.p x).7 (HPS.p x).8 (HPS.p x).9 (aA x.6 0 12)).1 else s.3)∧lE' st.3) (.ret {d:=false,x:= {x with at':=0,p:= {now:=(HPS.p x).1,code:=(HPS.p x).2,okk:=(HPS.p x).3,val:=(HPS.p x).4,addr:=(HPS.p x).5,old:=(HPS.p x).6,nxt:=(HPS.p x).7,mark:=(HPS.p x).8,pops:=(HPS.p x).9},ex:=cN,en:=cF,fn:=cR,cl:=bU,pr:=gS},st:= {me:=st.1,sp:=st.2,R:=st.3},s:= {t:=s.1,n:=s.2,xs:=bif aS s.3 (2*n+5+2*t+3*x.1+2) x.6 then aJ s.3 (2*n+5+2*t+3*x.1+2) (fB (HPS.p x).1 (HPS.p x).2 (HPS.p x).3 (HPS.p x).4 (HPS.p x).5 (HPS.p x).6 (HPS.p x).7 (HPS.p x).8 (HPS.p x).9 (aA x.6 0 12)).1 else s.3,c:=s.4+1,k:=3,a:=2*n+5+2*t+3*x.1+2,o:=aB s.3 (2*n+5+2*t+3*x.1+2),w:=bif bL s.3 (2*n+5+2*t+3*x.1+2)then(fB (HPS.p x).1 (HPS.p x).2 (HPS.p x).3 (HPS.p x).4 (HPS.p x).5 (HPS.p x).6 (HPS.p x).7 (HPS.p x).8 (HPS.p x).9 (aA x.6 0 12)).1 else 0,ok:=aS s.3 (2*n+5+2*t+3*x.1+2) x.6} })))) (.pre ((t=t∧n=n)∧(false=false→(0:Int)≠(3:Int)∧(0:Int)≠(4:Int)∧(0:Int)≠(5:Int)∧(0:Int)≠(7:Int)∧(0:Int)≠(8:Int))∧lE' (bif aS s.3 (2*n+5+2*t+3*x.1+2) x.6 then aJ s.3 (2*n+5+2*t+3*x.1+2) (fB (HPS.p x).1 (HPS.p x).2 (HPS.p x).3 (HPS.p x).4 (HPS.p x).5 (HPS.p x).6 (HPS.p x).7 (HPS.p x).8 (HPS.p x).9 (aA x.6 0 12)).1 else s.3)∧lE' st.3) (.ret {d:=false,x:= {x with at':=0,p:= {now:=(HPS.p x).1,code:=(HPS.p x).2,okk:=(HPS.p x).3,val:=(HPS.p x).4,addr:=(HPS.p x).5,old:=(HPS.p x).6,nxt:=(HPS.p x).7,mark:=(HPS.p x).8,pops:=(HPS.p x).9},ex:=cN,en:=cF,fn:=cR,cl:=bU,pr:=gS},st:= {me:=st.1,sp:=st.2,R:=st.3},s:= {t:=s.1,n:=s.2,xs:=bif aS s.3 (2*n+5+2*t+3*x.1+2) x.6 then aJ s.3 (2*n+5+2*t+3*x.1+2) (fB (HPS.p x).1 (HPS.p x).2 (HPS.p x).3 (HPS.p x).4 (HPS.p x).5 (HPS.p x).6 (HPS.p x).7 (HPS.p x).8 (HPS.p x).9 (aA x.6 0 12)).1 else s.3,c:=s.4+1,k:=3,a:=2*n+5+2*t+3*x.1+2,o:=aB s.3 (2*n+5+2*t+3*x.1+2),w:=bif bL s.3 (2*n+5+2*t+3*x.1+2)then(fB (HPS.p x).1 (HPS.p x).2 (HPS.p x).3 (HPS.p x).4 (HPS.p x).5 (HPS.p x).6 (HPS.p x).7 (HPS.p x).8 (HPS.p x).9 (aA x.6 0 12)).1 else 0,ok:=aS s.3 (2*n+5+2*t+3*x.1+2) x.6} }))))))
theorem JN(t n:Int)(x:HPS)(st:STS)(s:MS)(K:HpO→Prop)(h:(vP t n x st s).run K):cT' 52 [.ptr 0 0,.ptr 2 0] [some (.cells [.ptr 1 0,.int .i64 x.u,.int .u64 x.no,.int .i64 x.rounds,.int .i64 x.limit,.int .i64 9,.int .u64 x.found,.int .i64 x.sh,.int .i64 x.kd,.int .i64 x.ky,.bool x.p.now,.int .i64 x.p.code,.bool x.p.okk,.int .i64 x.p.val,.int .i64 x.p.addr,.int .u64 x.p.old,.int .i64 x.p.nxt,.bool x.p.mark,.int .i64 x.p.pops,.O,.O,.O,.O,.O]),stC 4 t n st,a9 3 s,bA s,mG st] (cV 4 0 [19,20,21,22,23] [(.cell 1 4,.ints (some .i64))] (wT t n) K):=by
 exact cM' (E:=EH0) (by kernel_rfl) h
def zV(t n:Int)(x:HPS)(st:STS)(s:MS):Tr HpO:=
 bif ieq x.at' 0 then B7 t n x st s else
 bif ieq x.at' 1 then vM t n x st s else
 bif ieq x.at' 2 then vN t n x st s else
 bif ieq x.at' 3 then qM t n x st s else
 bif ieq x.at' 4 then qN t n x st s else
 bif ieq x.at' 5 then qO t n x st s else
 bif ieq x.at' 6 then vO t n x st s else
 bif ieq x.at' 7 then B8 t n x st s else
 bif ieq x.at' 8 then qP t n x st s else
 bif ieq x.at' 9 then vP t n x st s else .pre False (.ret default)
def hpF(t n:Int)(x:HPS)(st:STS)(s:MS):HpO:=(zV t n x st s).val
def JB(t n:Int)(x:HPS)(st:STS)(s:MS):Prop:=(zV t n x st s).ok
theorem HF(t n:Int)(x:HPS)(st:STS)(s:MS)(K:AVal→aD Ob→Prop)(h:(zV t n x st s).run (fun y=>(HpO.fin t n y).run K)):cT' 52 [.ptr 0 0,.ptr 2 0] (HB t n x st s) K:=by
 unfold zV at h
 by_cases e:x.at'=0
 ·rw [e]at h
  have h:(B7 t n x st s).run _:=h
  refine aBt (root:=0) (pos:=[19,20,21,22,23]) (cs:=[(.cell 1 4,.ints (some .i64))]) (parse:=wT t n) (fin:=HpO.fin t n) kY ((b8.unpack (.help t n x) 0 1 (kX t n x) [1] rfl (congrArg (Prod.mk 1) (jV ⟨(by omega),(by omega),(by omega),(by omega),(by omega)⟩)) (by kernel_rfl) rfl).trans (b8.unpack (.store t n st) 1 0 (iU t n st) [] rfl rfl rfl rfl)) ?_
  have q:=JE t n x st s _ h
  rw [←e]at q
  exact q
 rw [cY e]at h
 by_cases e:x.at'=1
 ·rw [e]at h
  have h:(vM t n x st s).run _:=h
  refine aBt (root:=0) (pos:=[19,20,21,22,23]) (cs:=[(.cell 1 4,.ints (some .i64))]) (parse:=wT t n) (fin:=HpO.fin t n) kY ((b8.unpack (.help t n x) 0 1 (kX t n x) [1] rfl (congrArg (Prod.mk 1) (jV ⟨(by omega),(by omega),(by omega),(by omega),(by omega)⟩)) (by kernel_rfl) rfl).trans (b8.unpack (.store t n st) 1 0 (iU t n st) [] rfl rfl rfl rfl)) ?_
  have q:=JF t n x st s _ h
  rw [←e]at q
  exact q
 rw [cY e]at h
 by_cases e:x.at'=2
 ·rw [e]at h
  have h:(vN t n x st s).run _:=h
  refine aBt (root:=0) (pos:=[19,20,21,22,23]) (cs:=[(.cell 1 4,.ints (some .i64))]) (parse:=wT t n) (fin:=HpO.fin t n) kY ((b8.unpack (.help t n x) 0 1 (kX t n x) [1] rfl (congrArg (Prod.mk 1) (jV ⟨(by omega),(by omega),(by omega),(by omega),(by omega)⟩)) (by kernel_rfl) rfl).trans (b8.unpack (.store t n st) 1 0 (iU t n st) [] rfl rfl rfl rfl)) ?_
  have q:=JG t n x st s _ h
  rw [←e]at q
  exact q
 rw [cY e]at h
 by_cases e:x.at'=3
 ·rw [e]at h
  have h:(qM t n x st s).run _:=h
  refine aBt (root:=0) (pos:=[19,20,21,22,23]) (cs:=[(.cell 1 4,.ints (some .i64))]) (parse:=wT t n) (fin:=HpO.fin t n) kY ((b8.unpack (.help t n x) 0 1 (nH t n x) [1] rfl (congrArg (Prod.mk 1) (G4 e)) (by kernel_rfl) rfl).trans (b8.unpack (.store t n st) 1 0 (iU t n st) [] rfl rfl rfl rfl)) ?_
  have q:=JH t n x st s _ h
  rw [←e]at q
  exact q
 rw [cY e]at h
 by_cases e:x.at'=4
 ·rw [e]at h
  have h:(qN t n x st s).run _:=h
  refine aBt (root:=0) (pos:=[19,20,21,22,23]) (cs:=[(.cell 1 4,.ints (some .i64))]) (parse:=wT t n) (fin:=HpO.fin t n) kY ((b8.unpack (.help t n x) 0 1 (nG t n x) [1] rfl (congrArg (Prod.mk 1) (G5 e)) (by kernel_rfl) rfl).trans (b8.unpack (.store t n st) 1 0 (iU t n st) [] rfl rfl rfl rfl)) ?_
  have q:=JI t n x st s _ h
  rw [←e]at q
  exact q
 rw [cY e]at h
 by_cases e:x.at'=5
 ·rw [e]at h
  have h:(qO t n x st s).run _:=h
  refine aBt (root:=0) (pos:=[19,20,21,22,23]) (cs:=[(.cell 1 4,.ints (some .i64))]) (parse:=wT t n) (fin:=HpO.fin t n) kY ((b8.unpack (.help t n x) 0 1 (nI t n x) [1] rfl (congrArg (Prod.mk 1) (G6 e)) (by kernel_rfl) rfl).trans (b8.unpack (.store t n st) 1 0 (iU t n st) [] rfl rfl rfl rfl)) ?_
  have q:=JJ t n x st s _ h
  rw [←e]at q
  exact q
 rw [cY e]at h
 by_cases e:x.at'=6
 ·rw [e]at h
  have h:(vO t n x st s).run _:=h
  refine aBt (root:=0) (pos:=[19,20,21,22,23]) (cs:=[(.cell 1 4,.ints (some .i64))]) (parse:=wT t n) (fin:=HpO.fin t n) kY ((b8.unpack (.help t n x) 0 1 (kX t n x) [1] rfl (congrArg (Prod.mk 1) (jV ⟨(by omega),(by omega),(by omega),(by omega),(by omega)⟩)) (by kernel_rfl) rfl).trans (b8.unpack (.store t n st) 1 0 (iU t n st) [] rfl rfl rfl rfl)) ?_
  have q:=JK t n x st s _ h
  rw [←e]at q
  exact q
 rw [cY e]at h
 by_cases e:x.at'=7
 ·rw [e]at h
  have h:(B8 t n x st s).run _:=h
  refine aBt (root:=0) (pos:=[19,20,21,22,23]) (cs:=[(.cell 1 4,.ints (some .i64))]) (parse:=wT t n) (fin:=HpO.fin t n) kY ((b8.unpack (.help t n x) 0 1 (nF t n x) [1] rfl (congrArg (Prod.mk 1) (G7 e)) (by kernel_rfl) rfl).trans (b8.unpack (.store t n st) 1 0 (iU t n st) [] rfl rfl rfl rfl)) ?_
  have q:=JL t n x st s _ h
  rw [←e]at q
  exact q
 rw [cY e]at h
 by_cases e:x.at'=8
 ·rw [e]at h
  have h:(qP t n x st s).run _:=h
  refine aBt (root:=0) (pos:=[19,20,21,22,23]) (cs:=[(.cell 1 4,.ints (some .i64))]) (parse:=wT t n) (fin:=HpO.fin t n) kY ((b8.unpack (.help t n x) 0 1 (nJ t n x) [1] rfl (congrArg (Prod.mk 1) (G8 e)) (by kernel_rfl) rfl).trans (b8.unpack (.store t n st) 1 0 (iU t n st) [] rfl rfl rfl rfl)) ?_
  have q:=JM t n x st s _ h
  rw [←e]at q
  exact q
 rw [cY e]at h
 by_cases e:x.at'=9
 ·rw [e]at h
  have h:(vP t n x st s).run _:=h
  refine aBt (root:=0) (pos:=[19,20,21,22,23]) (cs:=[(.cell 1 4,.ints (some .i64))]) (parse:=wT t n) (fin:=HpO.fin t n) kY ((b8.unpack (.help t n x) 0 1 (kX t n x) [1] rfl (congrArg (Prod.mk 1) (jV ⟨(by omega),(by omega),(by omega),(by omega),(by omega)⟩)) (by kernel_rfl) rfl).trans (b8.unpack (.store t n st) 1 0 (iU t n st) [] rfl rfl rfl rfl)) ?_
  have q:=JN t n x st s _ h
  rw [←e]at q
  exact q
 rw [cY e]at h
 exact h.1.elim
noncomputable def hpSA:aM Ob:=fun args h=>match args,h with
 | [.ptr 0 0,.ptr 2 0],[some (.abs (.help t n x) [1]),some (.abs (.store t2 n2 st) []),e3,e4]=>(match fD 3 [e3,e4]with
   | some (l,s)=>some (.pre ((l=s.xs.length∧t2=t∧n2=n)∧JB t n x st s) (HpO.fin t n (hpF t n x st s)))
   | none=>none)
 | _,_=>none
theorem WJ:sT' 52 hpSA:=by
 intro args h o ho K hK
 unfold hpSA at ho
 split at ho
 case h_2=>cases ho
 split at ho<;>cases ho
 rename_i hm
 obtain⟨⟨⟨hl,rfl,rfl⟩,ok⟩,hK⟩:=hK
 have hh:=cC hm hl
 cases hh
 exact HF _ _ _ _ _ K (aBD ok hK)
def HpO.finB(t n:Int)(y:HpO):Out Ob:=.ite y.d (.ret (.bool true) ([some (.cells [.ptr 1 0,.int .i64 y.x.u,.int .u64 y.x.no,.int .i64 y.x.rounds,.int .i64 y.x.limit,.int .i64 y.x.at',.int .u64 y.x.found,.int .i64 y.x.sh,.int .i64 y.x.kd,.int .i64 y.x.ky,.bool y.x.p.now,.int .i64 y.x.p.code,.bool y.x.p.okk,.int .i64 y.x.p.val,.int .i64 y.x.p.addr,.int .u64 y.x.p.old,.int .i64 y.x.p.nxt,.bool y.x.p.mark,.int .i64 y.x.p.pops,.O,.O,.O,.O,.O]),stC 5 t n y.st,none,a9 4 y.s,bA y.s,mG y.st])) (.ret (.bool false) [some (.abs (.help t n y.x) [1]),stC 5 t n y.st,none,a9 4 y.s,bA y.s,mG y.st])
noncomputable def hpSB:aM Ob:=fun args h=>match args,h with
 | [.ptr 0 0,.ptr 3 0],[some (.abs (.help t n x) [1]),e1,e2,e3,e4]=>(match uH 2 [e1,e2],fD 4 [e3,e4]with
   | some (l2,t2,n2,st),some (l,s)=>some (.pre ((l=s.xs.length∧l2=st.R.length∧t2=t∧n2=n)∧JB t n x st s) (HpO.finB t n (hpF t n x st s)))
   | _,_=>none)
 | _,_=>none
theorem WK:sT' 52 hpSB:=by
 intro args h o ho K hK
 unfold hpSB at ho
 split at ho
 case h_2=>cases ho
 split at ho<;>cases ho
 rename_i hs hm
 obtain⟨⟨⟨hl,hl2,rfl,rfl⟩,ok⟩,hK⟩:=hK
 have hh:=cC hm hl
 cases hh
 have hh:=dX hs hl2
 cases hh
 exact oS (fun ι hι=>by simp [aG.ren,aBB,AVal.ren,hι]) (fun ι hι=>by simp [aG.ren,hι]) (fun K hK=>HF _ _ _ _ _ K (aBD ok hK)) K hK
noncomputable def hpS:aM Ob:=aM.or hpSA hpSB
theorem Y8:sT' 52 hpS:=aBK WJ WK
def WA(t n:Int)(v:AVal)(g:aD Ob):Option (Prop×(HPS×STS)):=match v,g with
 | .ptr 2 0,[e1,e2,some (.cells [.ptr 0 0,.int .i64 u,.int .u64 no,.int .i64 rounds,.int .i64 limit,.int .i64 at',.int .u64 found,.int .i64 sh,.int .i64 kd,.int .i64 ky,.bool p_now,.int .i64 p_code,.bool p_okk,.int .i64 p_val,.int .i64 p_addr,.int .u64 p_old,.int .i64 p_nxt,.bool p_mark,.int .i64 p_pops,.O,.O,.O,.O,.O])]=>(match uH 1 [e1,e2]with
   | some (l2,t2,n2,st)=>some ((t2=t∧n2=n∧l2=st.R.length)∧(at'≠3∧at'≠4∧at'≠5∧at'≠7∧at'≠8),⟨(⟨u,no,rounds,limit,at',found,sh,kd,ky,⟨p_now,p_code,p_okk,p_val,p_addr,p_old,p_nxt,p_mark,p_pops⟩,cN,cF,cR,⟨0,0,0,0⟩,⟨0,0,0,false⟩⟩:HPS),st⟩)
   | none=>none)
 | _,_=>none
abbrev RE(t n:Int)(y:(HPS×STS)):aD Ob:=[stC 1 t n y.2,mG y.2,some (.abs (.help t n y.1) [0])]
theorem RF{t n:Int} :dI (obI tbl) 2 (WA t n) (fun y=>.ret (.ptr 2 0) (RE t n y)):=by
 intro v g p x hp hq K hK
 unfold WA at hp
 split at hp
 case h_2=>cases hp
 rename_i e1 e2 u no rounds limit at' found sh kd ky p_now p_code p_okk p_val p_addr p_old p_nxt p_mark p_pops
 split at hp
 case h_2=>cases hp
 rename_i l2 t2 n2 st hs
 simp only [sI',pI']at hp
 obtain⟨rfl,rfl⟩:=hp
 obtain⟨⟨rfl,rfl,hl2⟩,hat⟩:=hq
 have hh:=dX hs hl2
 cases hh
 exact⟨⟨_,_,aQ.pack (RE t2 n2 ((⟨u,no,rounds,limit,at',found,sh,kd,ky,⟨p_now,p_code,p_okk,p_val,p_addr,p_old,p_nxt,p_mark,p_pops⟩,cN,cF,cR,⟨0,0,0,0⟩,⟨0,0,0,false⟩⟩:HPS),st)) (.help t2 n2 (⟨u,no,rounds,limit,at',found,sh,kd,ky,⟨p_now,p_code,p_okk,p_val,p_addr,p_old,p_nxt,p_mark,p_pops⟩,cN,cF,cR,⟨0,0,0,0⟩,⟨0,0,0,false⟩⟩:HPS)) 2 1 (kX t2 n2 (⟨u,no,rounds,limit,at',found,sh,kd,ky,⟨p_now,p_code,p_okk,p_val,p_addr,p_old,p_nxt,p_mark,p_pops⟩,cN,cF,cR,⟨0,0,0,0⟩,⟨0,0,0,false⟩⟩:HPS)) [0] (by kernel_rfl) rfl (congrArg (Prod.mk 1) (jV hat)) (by kernel_rfl),hK⟩⟩
def JA(t n:Int)(u no lim:Int)(st:STS):Tr (HPS×STS):=.pre ((t=t∧n=n∧lE' st.3)∧(0:Int)≠(3:Int)∧(0:Int)≠(4:Int)∧(0:Int)≠(5:Int)∧(0:Int)≠(7:Int)∧(0:Int)≠(8:Int)) (.ret ({u:=u,no:=no,rounds:=0,limit:=lim,at':=0,found:=0,sh:=0,kd:=0,ky:=0,p:=aAk,ex:=cN,en:=cF,fn:=cR,cl:=bU,pr:=gS},{me:=st.1,sp:=st.2,R:=st.3}))
def hpNF(t n:Int)(u no lim:Int)(st:STS):(HPS×STS):=(JA t n u no lim st).val
def mN(t n:Int)(u no lim:Int)(st:STS):Prop:=(JA t n u no lim st).ok
def hpNS:aM Ob:=fun args h=>match args,h with
 | [.ptr 0 0,.int .i64 u,.int .u64 no,.int .i64 lim],[e1,e2]=>(match uH 1 [e1,e2]with
   | some (l2,t,n,st)=>some (.pre (l2=st.R.length∧mN t n u no lim st) (.ret (.ptr 2 0) (RE t n (hpNF t n u no lim st))))
   | none=>none)
 | _,_=>none
theorem EL:sT' 46 hpNS:=by
 intro args h o ho K hK
 unfold hpNS at ho
 split at ho
 case h_2=>cases ho
 rename_i u no lim e1 e2
 split at ho<;>cases ho
 rename_i l2 t n st hs
 obtain⟨⟨hl2,ok⟩,hK⟩:=hK
 have hh:=dX hs hl2
 cases hh
 refine aBF (root:=2) (pos:=[19,20,21,22,23]) (cs:=[]) (parse:=WA t n) RF ?_
 exact cM' (E:=EH0) (q:=(JA t n u no lim st).run (fun y=>(Out.ret (.ptr 2 0) (RE t n y)).run K)) (by kernel_rfl) (aBD ok hK)
noncomputable def EH:=((EH0.addS 52 hpS Y8).addS 46 hpNS EL)
structure DqO where
 d:Bool
 x:DOS
 st:STS
 s:MS
instance:Inhabited DqO:=⟨⟨false,YM,⟨0,0,[]⟩,⟨0,0,[],0,0,0,0,0,false⟩⟩⟩
instance:Inhabited DOS:=⟨YM⟩
abbrev dqH(t n:Int)(x:DOS)(st:STS)(s:MS):aD Ob:=[some (.abs (.doer t n x) [1]),some (.abs (.store t n st) []),a9 3 s,bA s]
abbrev dqD(t n:Int)(x:DOS)(st:STS)(s:MS):aD Ob:=[some (.cells [.ptr 1 0,.int .i64 x.code,.bool x.okk,.int .i64 x.val,.bool x.slow,.int .i64 x.sh,.int .i64 x.kd,.int .i64 x.ky,.int .i64 x.limit,.int .i64 x.at',.O,.O,.O,.O,.O,.O,.O,.O,.O]),some (.abs (.store t n st) []),a9 3 s,bA s]
def DqO.fin(t n:Int)(y:DqO):Out Ob:=.ite y.d (.ret (.bool true) (dqD t n y.x y.st y.s)) (.ret (.bool false) (dqH t n y.x y.st y.s))
def DqO.finB(t n:Int)(y:DqO):Out Ob:=.ite y.d (.ret (.bool true) ([some (.cells [.ptr 1 0,.int .i64 y.x.code,.bool y.x.okk,.int .i64 y.x.val,.bool y.x.slow,.int .i64 y.x.sh,.int .i64 y.x.kd,.int .i64 y.x.ky,.int .i64 y.x.limit,.int .i64 y.x.at',.O,.O,.O,.O,.O,.O,.O,.O,.O]),stC 5 t n y.st,none,a9 4 y.s,bA y.s,mG y.st])) (.ret (.bool false) [some (.abs (.doer t n y.x) [1]),stC 5 t n y.st,none,a9 4 y.s,bA y.s,mG y.st])
noncomputable def ED:=((EH))
def cX(t n:Int):Nat→HPS→STS→MS→Nat×Bool×HPS×STS×MS
 | 0,x,st,s=>(0,false,x,st,s)
 | f+1,x,st,s=>bif (hpF t n x st s).d then(1,true,(hpF t n x st s).x,(hpF t n x st s).st,(hpF t n x st s).s)else
   ((cX t n f (hpF t n x st s).x (hpF t n x st s).st (hpF t n x st s).s).1+1,(cX t n f (hpF t n x st s).x (hpF t n x st s).st (hpF t n x st s).s).2)
def l9(t n:Int):Nat→HPS→STS→MS→Prop
 | 0,_,_,_=>True
 | f+1,x,st,s=>JB t n x st s∧((hpF t n x st s).d =false→l9 t n f (hpF t n x st s).x (hpF t n x st s).st (hpF t n x st s).s)
theorem RN(t n:Int)(x:HPS)(st:STS)(s:MS):cX t n 0 x st s=(0,false,x,st,s):=rfl
theorem zU(t n:Int)(f:Nat)(x:HPS)(st:STS)(s:MS):cX t n (f+1) x st s=bif (hpF t n x st s).d then(1,true,(hpF t n x st s).x,(hpF t n x st s).st,(hpF t n x st s).s)else((cX t n f (hpF t n x st s).x (hpF t n x st s).st (hpF t n x st s).s).1+1,(cX t n f (hpF t n x st s).x (hpF t n x st s).st (hpF t n x st s).s).2):=rfl
theorem JC(t n:Int)(f:Nat)(x:HPS)(st:STS)(s:MS):l9 t n (f+1) x st s=(JB t n x st s∧((hpF t n x st s).d =false→l9 t n f (hpF t n x st s).x (hpF t n x st s).st (hpF t n x st s).s)):=rfl
structure Y4 (t n:Int) (N:Nat) (x0:HPS) (st0:STS) (s0:MS) (x:Nat×HPS×STS×MS):Prop where
 hk:x.1≤N
 ok:l9 t n (N - x.1) x.2.1 x.2.2.1 x.2.2.2
 eq:cX t n N x0 st0 s0=((cX t n (N - x.1) x.2.1 x.2.2.1 x.2.2.2).1+x.1,(cX t n (N - x.1) x.2.1 x.2.2.1 x.2.2.2).2)
structure Y5 (t n:Int) (N:Nat) (x0:HPS) (st0:STS) (s0:MS) (x:Nat×HPS×STS×MS):Prop where
 hk:x.1≤N
 eq:cX t n N x0 st0 s0=(x.1,true,x.2)
def vL(t n:Int)(N:Nat)(most:Int)(x0:HPS)(st0:STS)(s0:MS):Hint Ob:= {X:=Nat×HPS×STS×MS,st:=fun x=>([.ptr 0 0,.int .i64 most,.O,.O,.O,.O,.O,.O,.int .i64 (x.1:Int),.O,.iface 114 (.ptr 3 0),.bool false,.O,.int .i64 1,.int .i64 0]++List.replicate 16 .O,[a9 1 x.2.2.2,bA x.2.2.2,some (.cells [.iface 114 (.ptr 3 0)]),some (.abs (.help t n x.2.1) [4]),some (.abs (.store t n x.2.2.1) [])]),ok:=Y4 t n N x0 st0 s0,mu:=fun x=>2*(N - x.1)+1,keep:=[0,1,8,10,11,13,14] }
def hpHb(t n:Int)(N:Nat)(most:Int)(x0:HPS)(st0:STS)(s0:MS):Hint Ob:= {X:=Nat×HPS×STS×MS,st:=fun x=>([.ptr 0 0,.int .i64 most,.O,.O,.O,.O,.O,.O,.int .i64 (x.1:Int),.O,.iface 114 (.ptr 3 0),.bool true,.O,.int .i64 1,.int .i64 0]++List.replicate 16 .O,[a9 1 x.2.2.2,bA x.2.2.2,some (.cells [.iface 114 (.ptr 3 0)]),some (.cells [.ptr 4 0,.int .i64 (x.2.1).u,.int .u64 (x.2.1).no,.int .i64 (x.2.1).rounds,.int .i64 (x.2.1).limit,.int .i64 (x.2.1).at',.int .u64 (x.2.1).found,.int .i64 (x.2.1).sh,.int .i64 (x.2.1).kd,.int .i64 (x.2.1).ky,.bool (x.2.1).p.now,.int .i64 (x.2.1).p.code,.bool (x.2.1).p.okk,.int .i64 (x.2.1).p.val,.int .i64 (x.2.1).p.addr,.int .u64 (x.2.1).p.old,.int .i64 (x.2.1).p.nxt,.bool (x.2.1).p.mark,.int .i64 (x.2.1).p.pops,.O,.O,.O,.O,.O]),some (.abs (.store t n x.2.2.1) [])]),ok:=Y5 t n N x0 st0 s0,mu:=fun x=>2*(N - x.1),keep:=[0,1,8,10,11,13,14],sel:=fun tm _=>match tm.getD 11 .O with | .bool b=>b | _=>false}
def aAt(t n:Int)(N:Nat)(most:Int)(x0:HPS)(st0:STS)(s0:MS):FuncId→Nat→Option (p7 Ob):=fun _ k=>if k=3 then some (.rounds 2)else some (.cases [hpHb t n N most x0 st0 s0,vL t n N most x0 st0 s0])
def HD(t n:Int)(N:Nat)(most:Int)(x0:HPS)(st0:STS)(s0:MS)(K:AVal→aD Ob→Prop):Prop:=((0:Int)≤(0:Int)∧(0:Int)<(↑1:Int))∧okSt (vL t n N most x0 st0 s0) (fun x=>Hint.ok (vL t n N most x0 st0 s0) x∧uY none (Hint.mu (vL t n N most x0 st0 s0) x)) [.ptr 0 0,.int .i64 most,.O,.O,.O,.O,.O,.O,.int .i64 0,.O,.iface 114 (.ptr 3 0),.bool false,.O,.int .i64 (↑1:Int),.int .i64 0,.O,.O,.O,.O,.O,.O,.O,.O,.O,.O,.O,.O,.O,.O,.O,.O] [some (.cells [.int .i64 s0.1,.int .i64 s0.2,.slice 1 0 (List.length s0.3) 1,.int .i64 s0.4,.int .i64 s0.5,.int .i64 s0.6,.int .u64 s0.7,.int .u64 s0.8,.bool s0.9]),some (.ints (some .u64) s0.3),some (.cells [.iface 114 (.ptr 3 0)]),some (.abs (.help t n x0) [4]),some (.abs (.store t n st0) [])]∧(∀(x:(Nat×HPS×STS×MS)),Y5 t n N x0 st0 s0 x→K (.tup [.int .i64 (↑x.1:Int),.bool true]) [some (.cells [.int .i64 (Prod.snd (Prod.snd x).2).1,.int .i64 (Prod.snd (Prod.snd x).2).2,.slice 1 0 (List.length (Prod.snd (Prod.snd x).2).3) 1,.int .i64 (Prod.snd (Prod.snd x).2).4,.int .i64 (Prod.snd (Prod.snd x).2).5,.int .i64 (Prod.snd (Prod.snd x).2).6,.int .u64 (Prod.snd (Prod.snd x).2).7,.int .u64 (Prod.snd (Prod.snd x).2).8,.bool (Prod.snd (Prod.snd x).2).9]),some (.ints (some .u64) (Prod.snd (Prod.snd x).2).3),some (.cells [.iface 114 (.ptr 3 0)]),some (.cells [.ptr 4 0,.int .i64 (Prod.fst x.2).1,.int .u64 (Prod.fst x.2).2,.int .i64 (Prod.fst x.2).3,.int .i64 (Prod.fst x.2).4,.int .i64 (Prod.fst x.2).5,.int .u64 (Prod.fst x.2).6,.int .i64 (Prod.fst x.2).7,.int .i64 (Prod.fst x.2).8,.int .i64 (Prod.fst x.2).9,.bool (HPS.p (Prod.snd x).1).1,.int .i64 (HPS.p (Prod.snd x).1).2,.bool (HPS.p (Prod.snd x).1).3,.int .i64 (HPS.p (Prod.snd x).1).4,.int .i64 (HPS.p (Prod.snd x).1).5,.int .u64 (HPS.p (Prod.snd x).1).6,.int .i64 (HPS.p (Prod.snd x).1).7,.bool (HPS.p (Prod.snd x).1).8,.int .i64 (HPS.p (Prod.snd x).1).9,.O,.O,.O,.O,.O]),some (.abs (.store t n (Prod.snd x.2).1) [])])∧(∀(x:(Nat×HPS×STS×MS)),Y4 t n N x0 st0 s0 x→bif ile most (↑x.1:Int)then K (.tup [.int .i64 (↑x.1:Int),.bool false]) [some (.cells [.int .i64 (Prod.snd (Prod.snd x).2).1,.int .i64 (Prod.snd (Prod.snd x).2).2,.slice 1 0 (List.length (Prod.snd (Prod.snd x).2).3) 1,.int .i64 (Prod.snd (Prod.snd x).2).4,.int .i64 (Prod.snd (Prod.snd x).2).5,.int .i64 (Prod.snd (Prod.snd x).2).6,.int .u64 (Prod.snd (Prod.snd x).2).7,.int .u64 (Prod.snd (Prod.snd x).2).8,.bool (Prod.snd (Prod.snd x).2).9]),some (.ints (some .u64) (Prod.snd (Prod.snd x).2).3),some (.cells [.iface 114 (.ptr 3 0)]),some (.abs (.help t n (Prod.snd x).1) [4]),some (.abs (.store t n (Prod.snd x.2).1) [])]else((lE' (Prod.snd (Prod.snd x).2).3∧t=t∧n=n)∧JB t n (Prod.snd x).1 (Prod.snd x.2).1 (Prod.snd x).2.2)∧bif (hpF t n (Prod.snd x).1 (Prod.snd x.2).1 (Prod.snd x).2.2).1 then okSt (hpHb t n N most x0 st0 s0) (fun x_1=>Hint.ok (hpHb t n N most x0 st0 s0) x_1∧uY (some (Hint.mu (vL t n N most x0 st0 s0) x)) (Hint.mu (hpHb t n N most x0 st0 s0) x_1)) [.ptr 0 0,.int .i64 most,.O,.O,.O,.O,.O,.O,.int .i64 (W ((↑x.1:Int)+1)),.O,.iface 114 (.ptr 3 0),.bool true,.O,.int .i64 1,.int .i64 0,.O,.O,.O,.O,.O,.O,.O,.O,.O,.O,.O,.O,.O,.O,.O,.O] [some (.cells [.int .i64 (HpO.s (hpF t n (Prod.snd x).1 (Prod.snd x.2).1 (Prod.snd x).2.2)).1,.int .i64 (HpO.s (hpF t n (Prod.snd x).1 (Prod.snd x.2).1 (Prod.snd x).2.2)).2,.slice 1 0 (List.length (HpO.s (hpF t n (Prod.snd x).1 (Prod.snd x.2).1 (Prod.snd x).2.2)).3) 1,.int .i64 (HpO.s (hpF t n (Prod.snd x).1 (Prod.snd x.2).1 (Prod.snd x).2.2)).4,.int .i64 (HpO.s (hpF t n (Prod.snd x).1 (Prod.snd x.2).1 (Prod.snd x).2.2)).5,.int .i64 (HpO.s (hpF t n (Prod.snd x).1 (Prod.snd x.2).1 (Prod.snd x).2.2)).6,.int .u64 (HpO.s (hpF t n (Prod.snd x).1 (Prod.snd x.2).1 (Prod.snd x).2.2)).7,.int .u64 (HpO.s (hpF t n (Prod.snd x).1 (Prod.snd x.2).1 (Prod.snd x).2.2)).8,.bool (HpO.s (hpF t n (Prod.snd x).1 (Prod.snd x.2).1 (Prod.snd x).2.2)).9]),some (.ints (some .u64) (HpO.s (hpF t n (Prod.snd x).1 (Prod.snd x.2).1 (Prod.snd x).2.2)).3),some (.cells [.iface 114 (.ptr 3 0)]),some (.cells [.ptr 4 0,.int .i64 (HpO.x (hpF t n (Prod.snd x).1 (Prod.snd x.2).1 (Prod.snd x).2.2)).1,.int .u64 (HpO.x (hpF t n (Prod.snd x).1 (Prod.snd x.2).1 (Prod.snd x).2.2)).2,.int .i64 (HpO.x (hpF t n (Prod.snd x).1 (Prod.snd x.2).1 (Prod.snd x).2.2)).3,.int .i64 (HpO.x (hpF t n (Prod.snd x).1 (Prod.snd x.2).1 (Prod.snd x).2.2)).4,.int .i64 (HpO.x (hpF t n (Prod.snd x).1 (Prod.snd x.2).1 (Prod.snd x).2.2)).5,.int .u64 (HpO.x (hpF t n (Prod.snd x).1 (Prod.snd x.2).1 (Prod.snd x).2.2)).6,.int .i64 (HpO.x (hpF t n (Prod.snd x).1 (Prod.snd x.2).1 (Prod.snd x).2.2)).7,.int .i64 (HpO.x (hpF t n (Prod.snd x).1 (Prod.snd x.2).1 (Prod.snd x).2.2)).8,.int .i64 (HpO.x (hpF t n (Prod.snd x).1 (Prod.snd x.2).1 (Prod.snd x).2.2)).9,.bool (HPS.p (hpF t n (Prod.snd x).1 (Prod.snd x.2).1 (Prod.snd x).2.2).2).1,.int .i64 (HPS.p (hpF t n (Prod.snd x).1 (Prod.snd x.2).1 (Prod.snd x).2.2).2).2,.bool (HPS.p (hpF t n (Prod.snd x).1 (Prod.snd x.2).1 (Prod.snd x).2.2).2).3,.int .i64 (HPS.p (hpF t n (Prod.snd x).1 (Prod.snd x.2).1 (Prod.snd x).2.2).2).4,.int .i64 (HPS.p (hpF t n (Prod.snd x).1 (Prod.snd x.2).1 (Prod.snd x).2.2).2).5,.int .u64 (HPS.p (hpF t n (Prod.snd x).1 (Prod.snd x.2).1 (Prod.snd x).2.2).2).6,.int .i64 (HPS.p (hpF t n (Prod.snd x).1 (Prod.snd x.2).1 (Prod.snd x).2.2).2).7,.bool (HPS.p (hpF t n (Prod.snd x).1 (Prod.snd x.2).1 (Prod.snd x).2.2).2).8,.int .i64 (HPS.p (hpF t n (Prod.snd x).1 (Prod.snd x.2).1 (Prod.snd x).2.2).2).9,.O,.O,.O,.O,.O]),some (.abs (.store t n (hpF t n (Prod.snd x).1 (Prod.snd x.2).1 (Prod.snd x).2.2).3) [])]else okSt (vL t n N most x0 st0 s0) (fun x_1=>Hint.ok (vL t n N most x0 st0 s0) x_1∧uY (some (Hint.mu (vL t n N most x0 st0 s0) x)) (Hint.mu (vL t n N most x0 st0 s0) x_1)) [.ptr 0 0,.int .i64 most,.O,.O,.O,.O,.O,.O,.int .i64 (W ((↑x.1:Int)+1)),.O,.iface 114 (.ptr 3 0),.bool false,.O,.int .i64 1,.int .i64 0,.O,.O,.O,.O,.O,.O,.O,.O,.O,.O,.O,.O,.O,.O,.O,.O] [some (.cells [.int .i64 (HpO.s (hpF t n (Prod.snd x).1 (Prod.snd x.2).1 (Prod.snd x).2.2)).1,.int .i64 (HpO.s (hpF t n (Prod.snd x).1 (Prod.snd x.2).1 (Prod.snd x).2.2)).2,.slice 1 0 (List.length (HpO.s (hpF t n (Prod.snd x).1 (Prod.snd x.2).1 (Prod.snd x).2.2)).3) 1,.int .i64 (HpO.s (hpF t n (Prod.snd x).1 (Prod.snd x.2).1 (Prod.snd x).2.2)).4,.int .i64 (HpO.s (hpF t n (Prod.snd x).1 (Prod.snd x.2).1 (Prod.snd x).2.2)).5,.int .i64 (HpO.s (hpF t n (Prod.snd x).1 (Prod.snd x.2).1 (Prod.snd x).2.2)).6,.int .u64 (HpO.s (hpF t n (Prod.snd x).1 (Prod.snd x.2).1 (Prod.snd x).2.2)).7,.int .u64 (HpO.s (hpF t n (Prod.snd x).1 (Prod.snd x.2).1 (Prod.snd x).2.2)).8,.bool (HpO.s (hpF t n (Prod.snd x).1 (Prod.snd x.2).1 (Prod.snd x).2.2)).9]),some (.ints (some .u64) (HpO.s (hpF t n (Prod.snd x).1 (Prod.snd x.2).1 (Prod.snd x).2.2)).3),some (.cells [.iface 114 (.ptr 3 0)]),some (.abs (.help t n (hpF t n (Prod.snd x).1 (Prod.snd x.2).1 (Prod.snd x).2.2).2) [4]),some (.abs (.store t n (hpF t n (Prod.snd x).1 (Prod.snd x.2).1 (Prod.snd x).2.2).3) [])])∧True
theorem x6(t n:Int)(N:Nat)(most:Int)(x0:HPS)(st0:STS)(s0:MS)(K:AVal→aD Ob→Prop)(h:HD t n N most x0 st0 s0 K):cT' 20 [.ptr 0 0,.int .i64 most,.slice 2 0 1 1] [a9 1 s0,bA s0,some (.cells [.iface 114 (.ptr 3 0)]),some (.abs (.help t n x0) [4]),some (.abs (.store t n st0) [])] K:=by
 refine aBs (aE (E:=ED) Tryz.checked.mixed (L:=aAt t n N most x0 st0 s0) (n:=10) (aR (by kernel_rfl) h))
theorem TN(t n:Int)(N:Nat)(most:Int)(x0:HPS)(st0:STS)(s0:MS)(K:AVal→aD Ob→Prop)(hN:most=(N:Int))(hb:N≤1000000)(ok:l9 t n N x0 st0 s0)
 (hK:(Out.ite (cX t n N x0 st0 s0).2.1 (.ret (.tup [.int .i64 ((cX t n N x0 st0 s0).1:Int),.bool true]) [a9 1 (cX t n N x0 st0 s0).2.2.2.2,bA (cX t n N x0 st0 s0).2.2.2.2,some (.cells [.iface 114 (.ptr 3 0)]),some (.cells [.ptr 4 0,.int .i64 (cX t n N x0 st0 s0).2.2.1.u,.int .u64 (cX t n N x0 st0 s0).2.2.1.no,.int .i64 (cX t n N x0 st0 s0).2.2.1.rounds,.int .i64 (cX t n N x0 st0 s0).2.2.1.limit,.int .i64 (cX t n N x0 st0 s0).2.2.1.at',.int .u64 (cX t n N x0 st0 s0).2.2.1.found,.int .i64 (cX t n N x0 st0 s0).2.2.1.sh,.int .i64 (cX t n N x0 st0 s0).2.2.1.kd,.int .i64 (cX t n N x0 st0 s0).2.2.1.ky,.bool (cX t n N x0 st0 s0).2.2.1.p.now,.int .i64 (cX t n N x0 st0 s0).2.2.1.p.code,.bool (cX t n N x0 st0 s0).2.2.1.p.okk,.int .i64 (cX t n N x0 st0 s0).2.2.1.p.val,.int .i64 (cX t n N x0 st0 s0).2.2.1.p.addr,.int .u64 (cX t n N x0 st0 s0).2.2.1.p.old,.int .i64 (cX t n N x0 st0 s0).2.2.1.p.nxt,.bool (cX t n N x0 st0 s0).2.2.1.p.mark,.int .i64 (cX t n N x0 st0 s0).2.2.1.p.pops,.O,.O,.O,.O,.O]),some (.abs (.store t n (cX t n N x0 st0 s0).2.2.2.1) [])]) (.ret (.tup [.int .i64 ((cX t n N x0 st0 s0).1:Int),.bool false]) [a9 1 (cX t n N x0 st0 s0).2.2.2.2,bA (cX t n N x0 st0 s0).2.2.2.2,some (.cells [.iface 114 (.ptr 3 0)]),some (.abs (.help t n (cX t n N x0 st0 s0).2.2.1) [4]),some (.abs (.store t n (cX t n N x0 st0 s0).2.2.2.1) [])])).run K):HD t n N most x0 st0 s0 K:=by
 unfold HD
 subst hN
 refine⟨by omega,aW (H:=vL t n N N x0 st0 s0) (0,x0,st0,s0) rfl ⟨⟨Nat.zero_le _,ok,rfl⟩,trivial⟩,?_,?_,trivial⟩
 ·rintro⟨k,x,st,s⟩ ⟨hk,heq⟩
  rw [heq]at hK
  exact hK
 ·rintro⟨k,x,st,s⟩ ⟨hk,ok,heq⟩
  dsimp only at hk ok heq⊢
  refine aP (fun e=>?_) (fun e=>?_)
  ·rw [cE,dT']at e
   have hkN:k=N:=by omega
   subst hkN
   rw [Nat.sub_self]at heq
   rw [heq,RN,Nat.zero_add]at hK
   exact hK
  ·rw [cE,dF']at e
   have hkN:N - k=(N - (k+1))+1:=by omega
   rw [hkN]at ok heq
   rw [JC]at ok
   rw [zU]at heq
   have e4:W ((k:Int)+1)=((k+1:Nat):Int):=by rw [W,cU (by omega)];rfl
   refine⟨⟨⟨rfl,rfl,rfl⟩,ok.1⟩,aP (fun hd=>?_) (fun hd=>?_)⟩
   ·refine aW (H:=hpHb t n N N x0 st0 s0) (k+1,(hpF t n x st s).x,(hpF t n x st s).st,(hpF t n x st s).s) (by simp only [e4]<;>rfl) ⟨⟨by show k+1≤N;omega,?_⟩,by show 2*(N - (k+1))<2*(N - k)+1;omega⟩
    have hd':(hpF t n x st s).d =true:=hd
    rw [heq,hd']
    simp only [cond_true]
    rw [Nat.add_comm]
   ·refine aW (H:=vL t n N N x0 st0 s0) (k+1,(hpF t n x st s).x,(hpF t n x st s).st,(hpF t n x st s).s) (by simp only [e4]<;>rfl) ⟨⟨by show k+1≤N;omega,ok.2 hd,?_⟩,by show 2*(N - (k+1))+1<2*(N - k)+1;omega⟩
    have hd':(hpF t n x st s).d =false:=hd
    rw [heq,hd']
    simp only [cond_false]
    rw [Nat.add_assoc,Nat.add_comm 1 k]
instance:Inhabited MS:=⟨⟨0,0,[],0,0,0,0,0,false⟩⟩
instance:Inhabited STS:=⟨⟨0,0,[]⟩⟩
def cA(t n:Int)(f:Nat)(x:HPS)(st:STS)(s:MS):Nat×Bool×HPS×STS×MS:=cX t n f x st s
def mO(t n:Int)(f:Nat)(x:HPS)(st:STS)(s:MS):Prop:=l9 t n f x st s
noncomputable def hpRunS:aM Ob:=fun args h=>match args,h with
 | [.ptr 0 0,.int .i64 most,.slice 2 0 1 1],[e1,e2,some (.cells [.iface 114 (.ptr 3 0)]),some (.abs (.help t n x) [4]),e5,e6]=>(match fD 1 [e1,e2],uH 5 [e5,e6]with
   | some (l,s),some (l2,t2,n2,st)=>some (.pre ((l=s.xs.length∧l2=st.R.length∧t2=t∧n2=n)∧(0≤most∧most≤1000000)∧mO t n most.toNat x st s) (.ite (cA t n most.toNat x st s).2.1 (.ret (.tup [.int .i64 ((cA t n most.toNat x st s).1:Int),.bool true]) [a9 1 (cA t n most.toNat x st s).2.2.2.2,bA (cA t n most.toNat x st s).2.2.2.2,some (.cells [.iface 114 (.ptr 3 0)]),some (.cells [.ptr 4 0,.int .i64 (cA t n most.toNat x st s).2.2.1.u,.int .u64 (cA t n most.toNat x st s).2.2.1.no,.int .i64 (cA t n most.toNat x st s).2.2.1.rounds,.int .i64 (cA t n most.toNat x st s).2.2.1.limit,.int .i64 (cA t n most.toNat x st s).2.2.1.at',.int .u64 (cA t n most.toNat x st s).2.2.1.found,.int .i64 (cA t n most.toNat x st s).2.2.1.sh,.int .i64 (cA t n most.toNat x st s).2.2.1.kd,.int .i64 (cA t n most.toNat x st s).2.2.1.ky,.bool (cA t n most.toNat x st s).2.2.1.p.now,.int .i64 (cA t n most.toNat x st s).2.2.1.p.code,.bool (cA t n most.toNat x st s).2.2.1.p.okk,.int .i64 (cA t n most.toNat x st s).2.2.1.p.val,.int .i64 (cA t n most.toNat x st s).2.2.1.p.addr,.int .u64 (cA t n most.toNat x st s).2.2.1.p.old,.int .i64 (cA t n most.toNat x st s).2.2.1.p.nxt,.bool (cA t n most.toNat x st s).2.2.1.p.mark,.int .i64 (cA t n most.toNat x st s).2.2.1.p.pops,.O,.O,.O,.O,.O]),stC 6 t n (cA t n most.toNat x st s).2.2.2.1,none,mG (cA t n most.toNat x st s).2.2.2.1]) (.ret (.tup [.int .i64 ((cA t n most.toNat x st s).1:Int),.bool false]) [a9 1 (cA t n most.toNat x st s).2.2.2.2,bA (cA t n most.toNat x st s).2.2.2.2,some (.cells [.iface 114 (.ptr 3 0)]),some (.abs (.help t n (cA t n most.toNat x st s).2.2.1) [4]),stC 6 t n (cA t n most.toNat x st s).2.2.2.1,none,mG (cA t n most.toNat x st s).2.2.2.1])))
   | _,_=>none)
 | _,_=>none
theorem NE:sT' 20 hpRunS:=by
 intro args h o ho K hK
 unfold hpRunS at ho
 split at ho
 case h_2=>cases ho
 rename_i most e1 e2 t n x e5 e6
 split at ho<;>cases ho
 rename_i l s l2 t2 n2 st hm hs
 obtain⟨⟨⟨hl,hl2,rfl,rfl⟩,hb,ok⟩,hK⟩:=hK
 unfold mO at ok
 unfold cA at hK
 have hh:=cC hm hl
 cases hh
 have hh:=dX hs hl2
 cases hh
 refine aBV ?_
 refine aCg tbl [a9 1 s,bA s,some (.cells [.iface 114 (.ptr 3 0)]),some (.abs (.help t2 n2 x) [4]),some (.abs (.store t2 n2 st) [])] (.store t2 n2 st) 4 0 (iU t2 n2 st) [] (by kernel_rfl) rfl rfl (by kernel_rfl) ?_
 refine x6 t2 n2 most.toNat most x st s _ (TN t2 n2 most.toNat most x st s _ (by omega) (by omega) ok ?_)
 generalize cX t2 n2 most.toNat x st s=r at hK⊢
 obtain⟨c,b,y,sy,my⟩:=r
 cases b with
 | true=>exact⟨⟨_,_,aQ.unpack (.store t2 n2 sy) 4 0 (iU t2 n2 sy) [] rfl rfl rfl rfl,hK⟩⟩
 | false=>exact⟨⟨_,_,aQ.unpack (.store t2 n2 sy) 4 0 (iU t2 n2 sy) [] rfl rfl rfl rfl,hK⟩⟩
def dJ(t n:Int):Nat→ANS→MS→Nat×Bool×ANS×MS
 | 0,x,s=>(0,false,x,s)
 | f+1,x,s=>bif (anF t n x s).d then(1,true,(anF t n x s).x,(anF t n x s).s)else
   ((dJ t n f (anF t n x s).x (anF t n x s).s).1+1,(dJ t n f (anF t n x s).x (anF t n x s).s).2)
def gC(t n:Int):Nat→ANS→MS→Prop
 | 0,_,_=>True
 | f+1,x,s=>K8 t n x s∧((anF t n x s).d =false→gC t n f (anF t n x s).x (anF t n x s).s)
theorem PT(t n:Int)(x:ANS)(s:MS):dJ t n 0 x s=(0,false,x,s):=rfl
theorem oE(t n:Int)(f:Nat)(x:ANS)(s:MS):dJ t n (f+1) x s=bif (anF t n x s).d then(1,true,(anF t n x s).x,(anF t n x s).s)else((dJ t n f (anF t n x s).x (anF t n x s).s).1+1,(dJ t n f (anF t n x s).x (anF t n x s).s).2):=rfl
theorem jH(t n:Int)(f:Nat)(x:ANS)(s:MS):gC t n (f+1) x s=(K8 t n x s∧((anF t n x s).d =false→gC t n f (anF t n x s).x (anF t n x s).s)):=rfl
structure YE (t n:Int) (N:Nat) (x0:ANS) (s0:MS) (x:Nat×ANS×MS):Prop where
 hk:x.1≤N
 ok:gC t n (N - x.1) x.2.1 x.2.2
 eq:dJ t n N x0 s0=((dJ t n (N - x.1) x.2.1 x.2.2).1+x.1,(dJ t n (N - x.1) x.2.1 x.2.2).2)
structure YF (t n:Int) (N:Nat) (x0:ANS) (s0:MS) (x:Nat×ANS×MS):Prop where
 hk:x.1≤N
 eq:dJ t n N x0 s0=(x.1,true,x.2)
def uR(t n:Int)(N:Nat)(most:Int)(x0:ANS)(s0:MS):Hint Ob:= {X:=Nat×ANS×MS,st:=fun x=>([.ptr 0 0,.int .i64 most,.O,.O,.O,.O,.O,.O,.int .i64 (x.1:Int),.O,.iface 132 (.ptr 3 0),.bool false,.O,.int .i64 1,.int .i64 0]++List.replicate 16 .O,[a9 1 x.2.2,bA x.2.2,some (.cells [.iface 132 (.ptr 3 0)]),some (.abs (.announce t n x.2.1) [])]),ok:=YE t n N x0 s0,mu:=fun x=>2*(N - x.1)+1,keep:=[0,1,8,10,11,13,14] }
def anHb(t n:Int)(N:Nat)(most:Int)(x0:ANS)(s0:MS):Hint Ob:= {X:=Nat×ANS×MS,st:=fun x=>([.ptr 0 0,.int .i64 most,.O,.O,.O,.O,.O,.O,.int .i64 (x.1:Int),.O,.iface 132 (.ptr 3 0),.bool true,.O,.int .i64 1,.int .i64 0]++List.replicate 16 .O,[a9 1 x.2.2,bA x.2.2,some (.cells [.iface 132 (.ptr 3 0)]),some (.cells [.int .i64 t,.int .i64 n,.int .u64 (x.2.1).no,.int .i64 (x.2.1).me,.int .i64 (x.2.1).at',.int .u64 (x.2.1).bits,.bool (x.2.1).wrong,.int .u64 (x.2.1).found])]),ok:=YF t n N x0 s0,mu:=fun x=>2*(N - x.1),keep:=[0,1,8,10,11,13,14],sel:=fun tm _=>match tm.getD 11 .O with | .bool b=>b | _=>false}
def aAc(t n:Int)(N:Nat)(most:Int)(x0:ANS)(s0:MS):FuncId→Nat→Option (p7 Ob):=fun _ k=>if k=3 then some (.rounds 2)else some (.cases [anHb t n N most x0 s0,uR t n N most x0 s0])
def GG(t n:Int)(N:Nat)(most:Int)(x0:ANS)(s0:MS)(K:AVal→aD Ob→Prop):Prop:=((0:Int)≤(0:Int)∧(0:Int)<(↑1:Int))∧okSt (uR t n N most x0 s0) (fun x=>Hint.ok (uR t n N most x0 s0) x∧uY none (Hint.mu (uR t n N most x0 s0) x)) [.ptr 0 0,.int .i64 most,.O,.O,.O,.O,.O,.O,.int .i64 0,.O,.iface 132 (.ptr 3 0),.bool false,.O,.int .i64 (↑1:Int),.int .i64 0,.O,.O,.O,.O,.O,.O,.O,.O,.O,.O,.O,.O,.O,.O,.O,.O] [some (.cells [.int .i64 s0.1,.int .i64 s0.2,.slice 1 0 (List.length s0.3) 1,.int .i64 s0.4,.int .i64 s0.5,.int .i64 s0.6,.int .u64 s0.7,.int .u64 s0.8,.bool s0.9]),some (.ints (some .u64) s0.3),some (.cells [.iface 132 (.ptr 3 0)]),some (.abs (.announce t n x0) [])]∧(∀(x:(Nat×ANS×MS)),YF t n N x0 s0 x→K (.tup [.int .i64 (↑x.1:Int),.bool true]) [some (.cells [.int .i64 (Prod.snd x.2).1,.int .i64 (Prod.snd x.2).2,.slice 1 0 (List.length (Prod.snd x.2).3) 1,.int .i64 (Prod.snd x.2).4,.int .i64 (Prod.snd x.2).5,.int .i64 (Prod.snd x.2).6,.int .u64 (Prod.snd x.2).7,.int .u64 (Prod.snd x.2).8,.bool (Prod.snd x.2).9]),some (.ints (some .u64) (Prod.snd x.2).3),some (.cells [.iface 132 (.ptr 3 0)]),some (.cells [.int .i64 t,.int .i64 n,.int .u64 (Prod.fst x.2).1,.int .i64 (Prod.fst x.2).2,.int .i64 (Prod.fst x.2).3,.int .u64 (Prod.fst x.2).4,.bool (Prod.fst x.2).5,.int .u64 (Prod.fst x.2).6])])∧(∀(x:(Nat×ANS×MS)),YE t n N x0 s0 x→bif ile most (↑x.1:Int)then K (.tup [.int .i64 (↑x.1:Int),.bool false]) [some (.cells [.int .i64 (Prod.snd x.2).1,.int .i64 (Prod.snd x.2).2,.slice 1 0 (List.length (Prod.snd x.2).3) 1,.int .i64 (Prod.snd x.2).4,.int .i64 (Prod.snd x.2).5,.int .i64 (Prod.snd x.2).6,.int .u64 (Prod.snd x.2).7,.int .u64 (Prod.snd x.2).8,.bool (Prod.snd x.2).9]),some (.ints (some .u64) (Prod.snd x.2).3),some (.cells [.iface 132 (.ptr 3 0)]),some (.abs (.announce t n (Prod.snd x).1) [])]else(lE' (Prod.snd x.2).3∧K8 t n (Prod.snd x).1 x.2.2)∧bif (anF t n (Prod.snd x).1 x.2.2).1 then okSt (anHb t n N most x0 s0) (fun x_1=>Hint.ok (anHb t n N most x0 s0) x_1∧uY (some (Hint.mu (uR t n N most x0 s0) x)) (Hint.mu (anHb t n N most x0 s0) x_1)) [.ptr 0 0,.int .i64 most,.O,.O,.O,.O,.O,.O,.int .i64 (W ((↑x.1:Int)+1)),.O,.iface 132 (.ptr 3 0),.bool true,.O,.int .i64 1,.int .i64 0,.O,.O,.O,.O,.O,.O,.O,.O,.O,.O,.O,.O,.O,.O,.O,.O] [some (.cells [.int .i64 (AnO.s (anF t n (Prod.snd x).1 x.2.2)).1,.int .i64 (AnO.s (anF t n (Prod.snd x).1 x.2.2)).2,.slice 1 0 (List.length (AnO.s (anF t n (Prod.snd x).1 x.2.2)).3) 1,.int .i64 (AnO.s (anF t n (Prod.snd x).1 x.2.2)).4,.int .i64 (AnO.s (anF t n (Prod.snd x).1 x.2.2)).5,.int .i64 (AnO.s (anF t n (Prod.snd x).1 x.2.2)).6,.int .u64 (AnO.s (anF t n (Prod.snd x).1 x.2.2)).7,.int .u64 (AnO.s (anF t n (Prod.snd x).1 x.2.2)).8,.bool (AnO.s (anF t n (Prod.snd x).1 x.2.2)).9]),some (.ints (some .u64) (AnO.s (anF t n (Prod.snd x).1 x.2.2)).3),some (.cells [.iface 132 (.ptr 3 0)]),some (.cells [.int .i64 t,.int .i64 n,.int .u64 (AnO.x (anF t n (Prod.snd x).1 x.2.2)).1,.int .i64 (AnO.x (anF t n (Prod.snd x).1 x.2.2)).2,.int .i64 (AnO.x (anF t n (Prod.snd x).1 x.2.2)).3,.int .u64 (AnO.x (anF t n (Prod.snd x).1 x.2.2)).4,.bool (AnO.x (anF t n (Prod.snd x).1 x.2.2)).5,.int .u64 (AnO.x (anF t n (Prod.snd x).1 x.2.2)).6])]else okSt (uR t n N most x0 s0) (fun x_1=>Hint.ok (uR t n N most x0 s0) x_1∧uY (some (Hint.mu (uR t n N most x0 s0) x)) (Hint.mu (uR t n N most x0 s0) x_1)) [.ptr 0 0,.int .i64 most,.O,.O,.O,.O,.O,.O,.int .i64 (W ((↑x.1:Int)+1)),.O,.iface 132 (.ptr 3 0),.bool false,.O,.int .i64 1,.int .i64 0,.O,.O,.O,.O,.O,.O,.O,.O,.O,.O,.O,.O,.O,.O,.O,.O] [some (.cells [.int .i64 (AnO.s (anF t n (Prod.snd x).1 x.2.2)).1,.int .i64 (AnO.s (anF t n (Prod.snd x).1 x.2.2)).2,.slice 1 0 (List.length (AnO.s (anF t n (Prod.snd x).1 x.2.2)).3) 1,.int .i64 (AnO.s (anF t n (Prod.snd x).1 x.2.2)).4,.int .i64 (AnO.s (anF t n (Prod.snd x).1 x.2.2)).5,.int .i64 (AnO.s (anF t n (Prod.snd x).1 x.2.2)).6,.int .u64 (AnO.s (anF t n (Prod.snd x).1 x.2.2)).7,.int .u64 (AnO.s (anF t n (Prod.snd x).1 x.2.2)).8,.bool (AnO.s (anF t n (Prod.snd x).1 x.2.2)).9]),some (.ints (some .u64) (AnO.s (anF t n (Prod.snd x).1 x.2.2)).3),some (.cells [.iface 132 (.ptr 3 0)]),some (.abs (.announce t n (anF t n (Prod.snd x).1 x.2.2).2) [])])∧True
theorem H9(t n:Int)(N:Nat)(most:Int)(x0:ANS)(s0:MS)(K:AVal→aD Ob→Prop)(h:GG t n N most x0 s0 K):cT' 20 [.ptr 0 0,.int .i64 most,.slice 2 0 1 1] [a9 1 s0,bA s0,some (.cells [.iface 132 (.ptr 3 0)]),some (.abs (.announce t n x0) [])] K:=by
 refine aBs (aE (E:=ED) Tryz.checked.mixed (L:=aAc t n N most x0 s0) (n:=10) (aR (by kernel_rfl) h))
theorem YH(t n:Int)(N:Nat)(most:Int)(x0:ANS)(s0:MS)(K:AVal→aD Ob→Prop)(hN:most=(N:Int))(hb:N≤1000000)(ok:gC t n N x0 s0)
 (hK:(Out.ite (dJ t n N x0 s0).2.1 (.ret (.tup [.int .i64 ((dJ t n N x0 s0).1:Int),.bool true]) [a9 1 (dJ t n N x0 s0).2.2.2,bA (dJ t n N x0 s0).2.2.2,some (.cells [.iface 132 (.ptr 3 0)]),some (.cells [.int .i64 t,.int .i64 n,.int .u64 (dJ t n N x0 s0).2.2.1.no,.int .i64 (dJ t n N x0 s0).2.2.1.me,.int .i64 (dJ t n N x0 s0).2.2.1.at',.int .u64 (dJ t n N x0 s0).2.2.1.bits,.bool (dJ t n N x0 s0).2.2.1.wrong,.int .u64 (dJ t n N x0 s0).2.2.1.found])]) (.ret (.tup [.int .i64 ((dJ t n N x0 s0).1:Int),.bool false]) [a9 1 (dJ t n N x0 s0).2.2.2,bA (dJ t n N x0 s0).2.2.2,some (.cells [.iface 132 (.ptr 3 0)]),some (.abs (.announce t n (dJ t n N x0 s0).2.2.1) [])])).run K):GG t n N most x0 s0 K:=by
 unfold GG
 subst hN
 refine⟨by omega,aW (H:=uR t n N N x0 s0) (0,x0,s0) rfl ⟨⟨Nat.zero_le _,ok,rfl⟩,trivial⟩,?_,?_,trivial⟩
 ·rintro⟨k,x,s⟩ ⟨hk,heq⟩
  rw [heq]at hK
  exact hK
 ·rintro⟨k,x,s⟩ ⟨hk,ok,heq⟩
  dsimp only at hk ok heq⊢
  refine aP (fun e=>?_) (fun e=>?_)
  ·rw [cE,dT']at e
   have hkN:k=N:=by omega
   subst hkN
   rw [Nat.sub_self]at heq
   rw [heq,PT,Nat.zero_add]at hK
   exact hK
  ·rw [cE,dF']at e
   have hkN:N - k=(N - (k+1))+1:=by omega
   rw [hkN]at ok heq
   rw [jH]at ok
   rw [oE]at heq
   have e4:W ((k:Int)+1)=((k+1:Nat):Int):=by rw [W,cU (by omega)];rfl
   refine⟨⟨rfl,ok.1⟩,aP (fun hd=>?_) (fun hd=>?_)⟩
   ·refine aW (H:=anHb t n N N x0 s0) (k+1,(anF t n x s).x,(anF t n x s).s) (by simp only [e4]<;>rfl) ⟨⟨by show k+1≤N;omega,?_⟩,by show 2*(N - (k+1))<2*(N - k)+1;omega⟩
    have hd':(anF t n x s).d =true:=hd
    rw [heq,hd']
    simp only [cond_true]
    rw [Nat.add_comm]
   ·refine aW (H:=uR t n N N x0 s0) (k+1,(anF t n x s).x,(anF t n x s).s) (by simp only [e4]<;>rfl) ⟨⟨by show k+1≤N;omega,ok.2 hd,?_⟩,by show 2*(N - (k+1))+1<2*(N - k)+1;omega⟩
    have hd':(anF t n x s).d =false:=hd
    rw [heq,hd']
    simp only [cond_false]
    rw [Nat.add_assoc,Nat.add_comm 1 k]
def cT(t n:Int)(f:Nat)(x:ANS)(s:MS):Nat×Bool×ANS×MS:=dJ t n f x s
def p8(t n:Int)(f:Nat)(x:ANS)(s:MS):Prop:=gC t n f x s
noncomputable def anRunS:aM Ob:=fun args h=>match args,h with
 | [.ptr 0 0,.int .i64 most,.slice 2 0 1 1],[e1,e2,some (.cells [.iface 132 (.ptr 3 0)]),some (.abs (.announce t n x) [])]=>(match fD 1 [e1,e2]with
   | some (l,s)=>some (.pre ((l=s.xs.length)∧(0≤most∧most≤1000000)∧p8 t n most.toNat x s) (.ite (cT t n most.toNat x s).2.1 (.ret (.tup [.int .i64 ((cT t n most.toNat x s).1:Int),.bool true]) [a9 1 (cT t n most.toNat x s).2.2.2,bA (cT t n most.toNat x s).2.2.2,some (.cells [.iface 132 (.ptr 3 0)]),some (.cells [.int .i64 t,.int .i64 n,.int .u64 (cT t n most.toNat x s).2.2.1.no,.int .i64 (cT t n most.toNat x s).2.2.1.me,.int .i64 (cT t n most.toNat x s).2.2.1.at',.int .u64 (cT t n most.toNat x s).2.2.1.bits,.bool (cT t n most.toNat x s).2.2.1.wrong,.int .u64 (cT t n most.toNat x s).2.2.1.found])]) (.ret (.tup [.int .i64 ((cT t n most.toNat x s).1:Int),.bool false]) [a9 1 (cT t n most.toNat x s).2.2.2,bA (cT t n most.toNat x s).2.2.2,some (.cells [.iface 132 (.ptr 3 0)]),some (.abs (.announce t n (cT t n most.toNat x s).2.2.1) [])])))
   | _=>none)
 | _,_=>none
theorem A2:sT' 20 anRunS:=by
 intro args h o ho K hK
 unfold anRunS at ho
 split at ho
 case h_2=>cases ho
 rename_i most e1 e2 t n x
 split at ho<;>cases ho
 rename_i l s hm
 obtain⟨⟨hl,hb,ok⟩,hK⟩:=hK
 unfold p8 at ok
 unfold cT at hK
 have hh:=cC hm hl
 cases hh
 exact H9 t n most.toNat most x s _ (YH t n most.toNat most x s _ (by omega) (by omega) ok hK)
noncomputable def runS:aM Ob:=aM.or hpRunS anRunS
theorem XO:sT' 20 runS:=aBK NE A2
noncomputable def ERun:=ED.addS 20 runS XO
structure okJ (xs ys:List Int) (i:Nat):Prop where
 h1:i≤xs.length
 h2:xs.length=ys.length
 h3:xs.take i=ys.take i
def HJ(xs ys:List Int):Hint Ob:= {X:=Nat,st:=fun i=>([.slice 0 0 xs.length 1,.slice 1 0 ys.length 1]++List.replicate 10 .O ++ [.int .i64 (xs.length:Int),.int .i64 (i:Int)]++List.replicate 12 .O,[some (.ints (some .u64) xs),some (.ints (some .u64) ys)]),ok:=okJ xs ys,mu:=fun i=>xs.length - i,keep:=[0,1,12,13] }
def eq64S:aM Ob:=fun args h=>match args,h with
 | [.slice 0 0 n 1,.slice 1 0 m 1],[some (.ints (some .u64) xs),some (.ints (some .u64) ys)]=>some (.pre ((n=xs.length∧m=ys.length)∧n≤4294967296) (.ret (.bool (kD xs ys)) [some (.ints (some .u64) xs),some (.ints (some .u64) ys)]))
 | _,_=>none
theorem QP:sT' 69 eq64S:=by
 intro args h o ho K hK
 unfold eq64S at ho
 split at ho<;>cases ho
 rename_i n m xs ys
 obtain⟨⟨⟨rfl,rfl⟩,hp⟩,hK⟩:=hK
 have hK:K (.bool (kD xs ys)) [some (.ints (some .u64) xs),some (.ints (some .u64) ys)]:=hK
 refine(aE (E:=ERun) Tryz.checked.mixed (L:=fun _ _=>some (.states (HJ xs ys))) (n:=10) (aR (q:=bif !ieq (↑(List.length xs):Int) (↑(List.length ys):Int)then K (.bool false) [some (.ints (some .u64) xs),some (.ints (some .u64) ys)]else okSt (HJ xs ys) (Hint.ok (HJ xs ys)) [.slice 0 0 (List.length xs) 1,.slice 1 0 (List.length ys) 1,.O,.O,.O,.O,.O,.O,.O,.O,.O,.O,.int .i64 (↑(List.length xs):Int),.int .i64 0,.O,.O,.O,.O,.O,.O,.O,.O,.O,.O,.O,.O] [some (.ints (some .u64) xs),some (.ints (some .u64) ys)]∧ ∀(x:Nat),okJ xs ys x→bif ilt (↑x:Int) (↑(List.length xs):Int)then((0:Int)≤(↑x:Int)∧(↑x:Int)<(↑(List.length xs):Int))∧0+Int.toNat (↑x:Int)*(1:Nat)<List.length xs∧((0:Int)≤(↑x:Int)∧(↑x:Int)<(↑(List.length ys):Int))∧0+Int.toNat (↑x:Int)*(1:Nat)<List.length ys∧bif !ieq (List.getD xs (0+Int.toNat (↑x:Int)*1) 0) (List.getD ys (0+Int.toNat (↑x:Int)*1) 0)then K (.bool false) [some (.ints (some .u64) xs),some (.ints (some .u64) ys)]else okSt (HJ xs ys) (fun x'=>Hint.ok (HJ xs ys) x'∧Hint.mu (HJ xs ys) x'<Hint.mu (HJ xs ys) x) [.slice 0 0 (List.length xs) 1,.slice 1 0 (List.length ys) 1,.O,.O,.O,.O,.O,.O,.O,.O,.O,.O,.int .i64 (↑(List.length xs):Int),.int .i64 (W ((↑x:Int)+1)),.O,.O,.O,.O,.O,.O,.O,.O,.O,.O,.O,.O] [some (.ints (some .u64) xs),some (.ints (some .u64) ys)]else K (.bool true) [some (.ints (some .u64) xs),some (.ints (some .u64) ys)]) (by kernel_rfl) ?_))
 have hS:kD xs ys=decide (xs=ys):=rfl
 refine aP (fun e=>?_) (fun e=>⟨aW (H:=HJ xs ys) (0:Nat) rfl ⟨Nat.zero_le _,?_,rfl⟩,?_⟩)
 ·rw [b9]at e
  have:xs≠ys:=by rintro rfl;simp at e
  rw [hS,decide_eq_false this]at hK;exact hK
 ·rw [b9]at e;simp at e;omega
 ·rintro i ⟨h1,h2,h3⟩
  refine aP (fun e1=>?_) (fun e1=>?_)
  ·rw [bS,dT']at e1
   have hi:i<xs.length:=by omega
   have e2:0+(i:Int).toNat *1=i:=by omega
   rw [e2]
   refine⟨by omega,hi,by omega,by omega,aP (fun e3=>?_) (fun e3=>?_)⟩
   ·rw [b9]at e3
    have:xs≠ys:=by rintro rfl;simp at e3
    rw [hS,decide_eq_false this]at hK;exact hK
   ·rw [b9]at e3
    have e3:xs.getD i 0=ys.getD i 0:=by simpa using e3
    have e4:IntKind.wrap .i64 ((i:Int)+1)=((i+1:Nat):Int):=by rw [cU (by omega)];rfl
    refine aW (H:=HJ xs ys) (i+1:Nat) (by simp only [W,e4]<;>rfl) ⟨⟨hi,h2,?_⟩,by show xs.length - (i+1)<xs.length - i;omega⟩
    have hj:i<ys.length:=by omega
    rw [gD',gE' hi,gD',gE' hj]at e3
    rw [List.take_succ_eq_append_getElem hi,List.take_succ_eq_append_getElem hj,h3]
    have e5:xs[i]=ys[i]:=by simpa using e3
    rw [e5]
  ·rw [bS,dF']at e1
   have:xs=ys:=by
    rw [List.take_of_length_le (by omega),List.take_of_length_le (by omega)]at h3;exact h3
   rw [hS,decide_eq_true this]at hK;exact hK
noncomputable def EZ:=(ERun).addS 69 eq64S QP
def dV(sh h k:Int):Bool:=bif ieq sh 2 then !ieq (Int.tmod k 4) h else ilt 0 h
def fF(sh h n:Int):List Int→Int→Int→Int→Int→MS→MS
 | [],i,a,ky,vr,s=>s.stored a (aT ky 0 false 0 vr)
 | k::ks,i,a,ky,vr,s=>bif dV sh h k then fF sh h n ks (i+1) a ky vr s else fF sh h n ks (i+1) (i+1) k 3 ((s.stored a (aT ky (i+1) false 0 vr)).stored (n+4+(i+1)) 1)
def fY(sh n:Int)(xs:List Int):Nat→Int→MS→MS
 | 0,h,s=>s
 | f+1,h,s=>fY sh n xs f (h+1) (fF sh h n xs 0 (n+1+h) 0 0 s)
def memN(t n:Int):MS:= {t:=t,n:=n,xs:=List.replicate (2*n+5*t+6).toNat 0,c:=0,k:=0,a:=0,o:=0,w:=0,ok:=false}
structure oJ (sh t n:Int) (xs:List Int) (x:Nat×MS):Prop where
 h4:x.1≤4
 c:0≤x.2.c∧x.2.c≤1000*x.1
 eq:fY sh n xs 4 0 (memN t n)=fY sh n xs (4 - x.1) x.1 x.2
structure tY (sh t n:Int) (xs:List Int) (h:Int) (x:Nat×Int×Int×Int×MS):Prop where
 h4:0≤h∧h<4
 hi:x.1≤xs.length
 ky:0≤x.2.2.1∧x.2.2.1<1024
 vr:0≤x.2.2.2.1∧x.2.2.2.1<262144
 c:0≤x.2.2.2.2.c∧x.2.2.2.2.c≤1000*h+3*x.1
 eq:fY sh n xs 4 0 (memN t n)=fY sh n xs (3 - h).toNat (h+1) (fF sh h n (xs.drop x.1) x.1 x.2.1 x.2.2.1 x.2.2.2.1 x.2.2.2.2)
def KT(sh t m:Int)(xs:List Int):Hint Ob:= {X:=Nat×MS,st:=fun x=>([.int .i64 sh,.O,.O,.slice 0 0 xs.length 1,.O,.O,.O,.O,.O,.ptr 1 0,.ptr 2 0,.ptr 3 0,.O,.int .i64 (x.1:Int)]++List.replicate 79 .O,[some (.ints (some .i64) xs),some (.cells [.int .i64 0,.int .i64 0]),some (.cells [.int .i64 t,.int .i64 (IntKind.wrap .i64 ((xs.length:Int)+m))]),a9 4 x.2,bA x.2]),ok:=oJ sh t (IntKind.wrap .i64 ((xs.length:Int)+m)) xs,mu:=fun x=>4 - x.1,keep:=[0,3,9,10,11,13] }
def HFi(sh t m:Int)(xs:List Int)(h:Int):Hint Ob:= {X:=Nat×Int×Int×Int×MS,st:=fun x=>([.int .i64 sh,.O,.O,.slice 0 0 xs.length 1,.O,.O,.O,.O,.O,.ptr 1 0,.ptr 2 0,.ptr 3 0,.O,.int .i64 h,.int .i64 x.2.1,.ptr 5 0]++List.replicate 28 .O ++ [.slice 0 0 xs.length 1,.int .i64 (xs.length:Int),.int .i64 (x.1:Int)]++List.replicate 46 .O,[some (.ints (some .i64) xs),some (.cells [.int .i64 0,.int .i64 0]),some (.cells [.int .i64 t,.int .i64 (IntKind.wrap .i64 ((xs.length:Int)+m))]),a9 4 x.2.2.2.2,bA x.2.2.2.2,some (.cells [.int .i64 x.2.2.1,.int .i64 0,.bool false,.int .i64 0,.int .i64 x.2.2.2.1])]),ok:=tY sh t (IntKind.wrap .i64 ((xs.length:Int)+m)) xs h,mu:=fun x=>xs.length - x.1,keep:=[0,3,9,10,11,13,14,15,44,45,46] }
def VI(sh t m:Int)(xs:List Int):FuncId→Nat→Option (p7 Ob):=fun _ k=>if k=6 then some (.states (KT sh t m xs))else if k=10 then some (.statesAt 13 (HFi sh t m xs))else some (.rounds 12)
def zQ(sh t m:Int)(xs:List Int)(K:AVal→aD Ob→Prop):Prop:=True∧bif !gI t (W ((↑(List.length xs):Int)+m))then K (.tup [.raw (Value.pointer none),.agg [.int .i64 t,.int .i64 (W ((↑(List.length xs):Int)+m))]]) [some (.ints (some .i64) xs)]else(((0:Int)≤t∧t≤(100000:Int))∧(0:Int)≤W ((↑(List.length xs):Int)+m)∧W ((↑(List.length xs):Int)+m)≤(100000:Int))∧bif ilt (2*W ((↑(List.length xs):Int)+m)+5*t+6) (↑0:Int)then K (.tup [.raw (Value.pointer none),.agg [.int .i64 t,.int .i64 (W ((↑(List.length xs):Int)+m))]]) [some (.ints (some .i64) xs)]else((((0:Int)≤t∧t≤(100000:Int))∧(0:Int)≤W ((↑(List.length xs):Int)+m)∧W ((↑(List.length xs):Int)+m)≤(100000:Int))∧True)∧((0:Int)≤(2:Int)*W ((↑(List.length xs):Int)+m)+5*t+6∧2*W ((↑(List.length xs):Int)+m)+5*t+(6:Int)=(2:Int)*W ((↑(List.length xs):Int)+m)+5*t+6∧2*W ((↑(List.length xs):Int)+m)+5*t+(6:Int)≤(4294967296:Int))∧okSt (KT sh t m xs) (Hint.ok (KT sh t m xs)) [.int .i64 sh,.O,.O,.slice 0 0 (List.length xs) 1,.O,.O,.O,.O,.O,.ptr 1 0,.ptr 2 0,.ptr 3 0,.O,.int .i64 0,.O,.O,.O,.O,.O,.O,.O,.O,.O,.O,.O,.O,.O,.O,.O,.O,.O,.O,.O,.O,.O,.O,.O,.O,.O,.O,.O,.O,.O,.O,.O,.O,.O,.O,.O,.O,.O,.O,.O,.O,.O,.O,.O,.O,.O,.O,.O,.O,.O,.O,.O,.O,.O,.O,.O,.O,.O,.O,.O,.O,.O,.O,.O,.O,.O,.O,.O,.O,.O,.O,.O,.O,.O,.O,.O,.O,.O,.O,.O] [some (.ints (some .i64) xs),some (.cells [.int .i64 0,.int .i64 0]),some (.cells [.int .i64 t,.int .i64 (W ((↑(List.length xs):Int)+m))]),some (.cells [.int .i64 t,.int .i64 (W ((↑(List.length xs):Int)+m)),.slice 4 0 (Int.toNat (2*W ((↑(List.length xs):Int)+m)+5*t+6)) 1,.int .i64 0,.int .i64 0,.int .i64 0,.int .u64 0,.int .u64 0,.bool false]),some (.ints (some .u64) (List.replicate (Int.toNat (2*W ((↑(List.length xs):Int)+m)+5*t+6)) 0))]∧ ∀(x:(Nat×MS)),oJ sh t (W ((↑(List.length xs):Int)+m)) xs x→bif ilt (↑x.1:Int) 4 then(((0:Int)≤W ((↑(List.length xs):Int)+m)∧W ((↑(List.length xs):Int)+m)≤(100000:Int))∧(-1000000:Int)≤(↑x.1:Int)∧(↑x.1:Int)≤(1000000:Int))∧okSt (HFi sh t m xs (↑(Prod.fst x):Int)) (Hint.ok (HFi sh t m xs (↑(Prod.fst x):Int))) [.int .i64 sh,.O,.O,.slice 0 0 (List.length xs) 1,.O,.O,.O,.O,.O,.ptr 1 0,.ptr 2 0,.ptr 3 0,.O,.int .i64 (↑x.1:Int),.int .i64 (W ((↑(List.length xs):Int)+m)+1+(↑x.1:Int)),.ptr 5 0,.O,.O,.O,.O,.O,.O,.O,.O,.O,.O,.O,.O,.O,.O,.O,.O,.O,.O,.O,.O,.O,.O,.O,.O,.O,.O,.O,.O,.slice 0 0 (List.length xs) 1,.int .i64 (↑(List.length xs):Int),.int .i64 0,.O,.O,.O,.O,.O,.O,.O,.O,.O,.O,.O,.O,.O,.O,.O,.O,.O,.O,.O,.O,.O,.O,.O,.O,.O,.O,.O,.O,.O,.O,.O,.O,.O,.O,.O,.O,.O,.O,.O,.O,.O,.O,.O,.O,.O,.O] [some (.ints (some .i64) xs),some (.cells [.int .i64 0,.int .i64 0]),some (.cells [.int .i64 t,.int .i64 (W ((↑(List.length xs):Int)+m))]),some (.cells [.int .i64 (Prod.snd x).1,.int .i64 (Prod.snd x).2,.slice 4 0 (List.length (Prod.snd x).3) 1,.int .i64 (Prod.snd x).4,.int .i64 (Prod.snd x).5,.int .i64 (Prod.snd x).6,.int .u64 (Prod.snd x).7,.int .u64 (Prod.snd x).8,.bool (Prod.snd x).9]),some (.ints (some .u64) (Prod.snd x).3),some (.cells [.int .i64 0,.int .i64 0,.bool false,.int .i64 0,.int .i64 0])]∧ ∀(x_1:Hint.X (HFi sh t m xs (↑(Prod.fst x):Int))),tY sh t (W ((↑(List.length xs):Int)+m)) xs (↑x.1:Int) x_1→bif ilt (↑x_1.1:Int) (↑(List.length xs):Int)then((0:Int)≤(↑x_1.1:Int)∧(↑x_1.1:Int)<(↑(List.length xs):Int))∧0+Int.toNat (↑x_1.1:Int)*(1:Nat)<List.length xs∧bif ieq sh 2 then(4:Int)≠(0:Int)∧bif !ieq (Int.tmod (List.getD xs (0+Int.toNat (↑x_1.1:Int)*1) 0) 4) (↑x.1:Int)then okSt (HFi sh t m xs (↑(Prod.fst x):Int)) (fun x'=>Hint.ok (HFi sh t m xs (↑(Prod.fst x):Int)) x'∧Hint.mu (HFi sh t m xs (↑(Prod.fst x):Int)) x'<Hint.mu (HFi sh t m xs (↑(Prod.fst x):Int)) x_1) [.int .i64 sh,.O,.O,.slice 0 0 (List.length xs) 1,.O,.O,.O,.O,.O,.ptr 1 0,.ptr 2 0,.ptr 3 0,.O,.int .i64 (↑x.1:Int),.int .i64 (Prod.snd x_1).1,.ptr 5 0,.O,.O,.O,.O,.O,.O,.O,.O,.O,.O,.O,.O,.O,.O,.O,.O,.O,.O,.O,.O,.O,.O,.O,.O,.O,.O,.O,.O,.slice 0 0 (List.length xs) 1,.int .i64 (↑(List.length xs):Int),.int .i64 (W ((↑x_1.1:Int)+1)),.O,.O,.O,.O,.O,.O,.O,.O,.O,.O,.O,.O,.O,.O,.O,.O,.O,.O,.O,.O,.O,.O,.O,.O,.O,.O,.O,.O,.O,.O,.O,.O,.O,.O,.O,.O,.O,.O,.O,.O,.O,.O,.O,.O,.O,.O] [some (.ints (some .i64) xs),some (.cells [.int .i64 0,.int .i64 0]),some (.cells [.int .i64 t,.int .i64 (W ((↑(List.length xs):Int)+m))]),some (.cells [.int .i64 (Prod.snd (Prod.snd x_1.2).2).1,.int .i64 (Prod.snd (Prod.snd x_1.2).2).2,.slice 4 0 (List.length (Prod.snd (Prod.snd x_1.2).2).3) 1,.int .i64 (Prod.snd (Prod.snd x_1.2).2).4,.int .i64 (Prod.snd (Prod.snd x_1.2).2).5,.int .i64 (Prod.snd (Prod.snd x_1.2).2).6,.int .u64 (Prod.snd (Prod.snd x_1.2).2).7,.int .u64 (Prod.snd (Prod.snd x_1.2).2).8,.bool (Prod.snd (Prod.snd x_1.2).2).9]),some (.ints (some .u64) (Prod.snd (Prod.snd x_1.2).2).3),some (.cells [.int .i64 (Prod.snd x_1.2).1,.int .i64 0,.bool false,.int .i64 0,.int .i64 (Prod.snd (Prod.snd x_1).2).1])]else bif !ieq sh 2 then bif ilt 0 (↑x.1:Int)then okSt (HFi sh t m xs (↑(Prod.fst x):Int)) (fun x'=>Hint.ok (HFi sh t m xs (↑(Prod.fst x):Int)) x'∧Hint.mu (HFi sh t m xs (↑(Prod.fst x):Int)) x'<Hint.mu (HFi sh t m xs (↑(Prod.fst x):Int)) x_1) [.int .i64 sh,.O,.O,.slice 0 0 (List.length xs) 1,.O,.O,.O,.O,.O,.ptr 1 0,.ptr 2 0,.ptr 3 0,.O,.int .i64 (↑x.1:Int),.int .i64 (Prod.snd x_1).1,.ptr 5 0,.O,.O,.O,.O,.O,.O,.O,.O,.O,.O,.O,.O,.O,.O,.O,.O,.O,.O,.O,.O,.O,.O,.O,.O,.O,.O,.O,.O,.slice 0 0 (List.length xs) 1,.int .i64 (↑(List.length xs):Int),.int .i64 (W ((↑x_1.1:Int)+1)),.O,.O,.O,.O,.O,.O,.O,.O,.O,.O,.O,.O,.O,.O,.O,.O,.O,.O,.O,.O,.O,.O,.O,.O,.O,.O,.O,.O,.O,.O,.O,.O,.O,.O,.O,.O,.O,.O,.O,.O,.O,.O,.O,.O,.O,.O] [some (.ints (some .i64) xs),some (.cells [.int .i64 0,.int .i64 0]),some (.cells [.int .i64 t,.int .i64 (W ((↑(List.length xs):Int)+m))]),some (.cells [.int .i64 (Prod.snd (Prod.snd x_1.2).2).1,.int .i64 (Prod.snd (Prod.snd x_1.2).2).2,.slice 4 0 (List.length (Prod.snd (Prod.snd x_1.2).2).3) 1,.int .i64 (Prod.snd (Prod.snd x_1.2).2).4,.int .i64 (Prod.snd (Prod.snd x_1.2).2).5,.int .i64 (Prod.snd (Prod.snd x_1.2).2).6,.int .u64 (Prod.snd (Prod.snd x_1.2).2).7,.int .u64 (Prod.snd (Prod.snd x_1.2).2).8,.bool (Prod.snd (Prod.snd x_1.2).2).9]),some (.ints (some .u64) (Prod.snd (Prod.snd x_1.2).2).3),some (.cells [.int .i64 (Prod.snd x_1.2).1,.int .i64 0,.bool false,.int .i64 0,.int .i64 (Prod.snd (Prod.snd x_1).2).1])]else(((0:Int)≤(Prod.snd x_1.2).1∧(Prod.snd x_1.2).1<(1024:Int))∧((0:Int)≤W ((↑x_1.1:Int)+1)∧W ((↑x_1.1:Int)+1)<(512:Int))∧((0:Int)≤(0:Int)∧(0:Int)<(32:Int))∧(0:Int)≤(Prod.snd (Prod.snd x_1).2).1∧(Prod.snd (Prod.snd x_1).2).1<(262144:Int))∧(lE' (Prod.snd (Prod.snd x_1.2).2).3∧(0:Int)≤(Prod.snd (Prod.snd x_1.2).2).4∧(Prod.snd (Prod.snd x_1.2).2).4≤(4611686018427387904:Int))∧(((0:Int)≤t∧t≤(100000:Int))∧((0:Int)≤W ((↑(List.length xs):Int)+m)∧W ((↑(List.length xs):Int)+m)≤(100000:Int))∧(-1099511627776:Int)≤W ((↑x_1.1:Int)+1)∧W ((↑x_1.1:Int)+1)≤(1099511627776:Int))∧(lE' (aJ (Prod.snd (Prod.snd x_1.2).2).3 (Prod.snd x_1).1 (aT (Prod.snd x_1.2).1 (W ((↑x_1.1:Int)+1)) false 0 (Prod.snd (Prod.snd x_1).2).1))∧(0:Int)≤(Prod.snd (Prod.snd x_1.2).2).4+1∧(Prod.snd (Prod.snd x_1.2).2).4+(1:Int)≤(4611686018427387904:Int))∧okSt (HFi sh t m xs (↑(Prod.fst x):Int)) (fun x'=>Hint.ok (HFi sh t m xs (↑(Prod.fst x):Int)) x'∧Hint.mu (HFi sh t m xs (↑(Prod.fst x):Int)) x'<Hint.mu (HFi sh t m xs (↑(Prod.fst x):Int)) x_1) [.int .i64 sh,.O,.O,.slice 0 0 (List.length xs) 1,.O,.O,.O,.O,.O,.ptr 1 0,.ptr 2 0,.ptr 3 0,.O,.int .i64 (↑x.1:Int),.int .i64 (W ((↑x_1.1:Int)+1)),.ptr 5 0,.O,.O,.O,.O,.O,.O,.O,.O,.O,.O,.O,.O,.O,.O,.O,.O,.O,.O,.O,.O,.O,.O,.O,.O,.O,.O,.O,.O,.slice 0 0 (List.length xs) 1,.int .i64 (↑(List.length xs):Int),.int .i64 (W ((↑x_1.1:Int)+1)),.O,.O,.O,.O,.O,.O,.O,.O,.O,.O,.O,.O,.O,.O,.O,.O,.O,.O,.O,.O,.O,.O,.O,.O,.O,.O,.O,.O,.O,.O,.O,.O,.O,.O,.O,.O,.O,.O,.O,.O,.O,.O,.O,.O,.O,.O] [some (.ints (some .i64) xs),some (.cells [.int .i64 0,.int .i64 0]),some (.cells [.int .i64 t,.int .i64 (W ((↑(List.length xs):Int)+m))]),some (.cells [.int .i64 (Prod.snd (Prod.snd x_1.2).2).1,.int .i64 (Prod.snd (Prod.snd x_1.2).2).2,.slice 4 0 (List.length (aJ (aJ (Prod.snd (Prod.snd x_1.2).2).3 (Prod.snd x_1).1 (aT (Prod.snd x_1.2).1 (W ((↑x_1.1:Int)+1)) false 0 (Prod.snd (Prod.snd x_1).2).1)) (W ((↑(List.length xs):Int)+m)+4+W ((↑x_1.1:Int)+1)) 1)) 1,.int .i64 ((Prod.snd (Prod.snd x_1.2).2).4+1+1),.int .i64 2,.int .i64 (W ((↑(List.length xs):Int)+m)+4+W ((↑x_1.1:Int)+1)),.int .u64 (aB (aJ (Prod.snd (Prod.snd x_1.2).2).3 (Prod.snd x_1).1 (aT (Prod.snd x_1.2).1 (W ((↑x_1.1:Int)+1)) false 0 (Prod.snd (Prod.snd x_1).2).1)) (W ((↑(List.length xs):Int)+m)+4+W ((↑x_1.1:Int)+1))),.int .u64 (bif bL (aJ (Prod.snd (Prod.snd x_1.2).2).3 (Prod.snd x_1).1 (aT (Prod.snd x_1.2).1 (W ((↑x_1.1:Int)+1)) false 0 (Prod.snd (Prod.snd x_1).2).1)) (W ((↑(List.length xs):Int)+m)+4+W ((↑x_1.1:Int)+1))then 1 else 0),.bool (bL (aJ (Prod.snd (Prod.snd x_1.2).2).3 (Prod.snd x_1).1 (aT (Prod.snd x_1.2).1 (W ((↑x_1.1:Int)+1)) false 0 (Prod.snd (Prod.snd x_1).2).1)) (W ((↑(List.length xs):Int)+m)+4+W ((↑x_1.1:Int)+1)))]),some (.ints (some .u64) (aJ (aJ (Prod.snd (Prod.snd x_1.2).2).3 (Prod.snd x_1).1 (aT (Prod.snd x_1.2).1 (W ((↑x_1.1:Int)+1)) false 0 (Prod.snd (Prod.snd x_1).2).1)) (W ((↑(List.length xs):Int)+m)+4+W ((↑x_1.1:Int)+1)) 1)),some (.cells [.int .i64 (List.getD xs (0+Int.toNat (↑x_1.1:Int)*1) 0),.int .i64 0,.bool false,.int .i64 0,.int .i64 3])]else(((0:Int)≤(Prod.snd x_1.2).1∧(Prod.snd x_1.2).1<(1024:Int))∧((0:Int)≤W ((↑x_1.1:Int)+1)∧W ((↑x_1.1:Int)+1)<(512:Int))∧((0:Int)≤(0:Int)∧(0:Int)<(32:Int))∧(0:Int)≤(Prod.snd (Prod.snd x_1).2).1∧(Prod.snd (Prod.snd x_1).2).1<(262144:Int))∧(lE' (Prod.snd (Prod.snd x_1.2).2).3∧(0:Int)≤(Prod.snd (Prod.snd x_1.2).2).4∧(Prod.snd (Prod.snd x_1.2).2).4≤(4611686018427387904:Int))∧(((0:Int)≤t∧t≤(100000:Int))∧((0:Int)≤W ((↑(List.length xs):Int)+m)∧W ((↑(List.length xs):Int)+m)≤(100000:Int))∧(-1099511627776:Int)≤W ((↑x_1.1:Int)+1)∧W ((↑x_1.1:Int)+1)≤(1099511627776:Int))∧(lE' (aJ (Prod.snd (Prod.snd x_1.2).2).3 (Prod.snd x_1).1 (aT (Prod.snd x_1.2).1 (W ((↑x_1.1:Int)+1)) false 0 (Prod.snd (Prod.snd x_1).2).1))∧(0:Int)≤(Prod.snd (Prod.snd x_1.2).2).4+1∧(Prod.snd (Prod.snd x_1.2).2).4+(1:Int)≤(4611686018427387904:Int))∧okSt (HFi sh t m xs (↑(Prod.fst x):Int)) (fun x'=>Hint.ok (HFi sh t m xs (↑(Prod.fst x):Int)) x'∧Hint.mu (HFi sh t m xs (↑(Prod.fst x):Int)) x'<Hint.mu (HFi sh t m xs (↑(Prod.fst x):Int)) x_1) [.int .i64 sh,.O,.O,.slice 0 0 (List.length xs) 1,.O,.O,.O,.O,.O,.ptr 1 0,.ptr 2 0,.ptr 3 0,.O,.int .i64 (↑x.1:Int),.int .i64 (W ((↑x_1.1:Int)+1)),.ptr 5 0,.O,.O,.O,.O,.O,.O,.O,.O,.O,.O,.O,.O,.O,.O,.O,.O,.O,.O,.O,.O,.O,.O,.O,.O,.O,.O,.O,.O,.slice 0 0 (List.length xs) 1,.int .i64 (↑(List.length xs):Int),.int .i64 (W ((↑x_1.1:Int)+1)),.O,.O,.O,.O,.O,.O,.O,.O,.O,.O,.O,.O,.O,.O,.O,.O,.O,.O,.O,.O,.O,.O,.O,.O,.O,.O,.O,.O,.O,.O,.O,.O,.O,.O,.O,.O,.O,.O,.O,.O,.O,.O,.O,.O,.O,.O] [some (.ints (some .i64) xs),some (.cells [.int .i64 0,.int .i64 0]),some (.cells [.int .i64 t,.int .i64 (W ((↑(List.length xs):Int)+m))]),some (.cells [.int .i64 (Prod.snd (Prod.snd x_1.2).2).1,.int .i64 (Prod.snd (Prod.snd x_1.2).2).2,.slice 4 0 (List.length (aJ (aJ (Prod.snd (Prod.snd x_1.2).2).3 (Prod.snd x_1).1 (aT (Prod.snd x_1.2).1 (W ((↑x_1.1:Int)+1)) false 0 (Prod.snd (Prod.snd x_1).2).1)) (W ((↑(List.length xs):Int)+m)+4+W ((↑x_1.1:Int)+1)) 1)) 1,.int .i64 ((Prod.snd (Prod.snd x_1.2).2).4+1+1),.int .i64 2,.int .i64 (W ((↑(List.length xs):Int)+m)+4+W ((↑x_1.1:Int)+1)),.int .u64 (aB (aJ (Prod.snd (Prod.snd x_1.2).2).3 (Prod.snd x_1).1 (aT (Prod.snd x_1.2).1 (W ((↑x_1.1:Int)+1)) false 0 (Prod.snd (Prod.snd x_1).2).1)) (W ((↑(List.length xs):Int)+m)+4+W ((↑x_1.1:Int)+1))),.int .u64 (bif bL (aJ (Prod.snd (Prod.snd x_1.2).2).3 (Prod.snd x_1).1 (aT (Prod.snd x_1.2).1 (W ((↑x_1.1:Int)+1)) false 0 (Prod.snd (Prod.snd x_1).2).1)) (W ((↑(List.length xs):Int)+m)+4+W ((↑x_1.1:Int)+1))then 1 else 0),.bool (bL (aJ (Prod.snd (Prod.snd x_1.2).2).3 (Prod.snd x_1).1 (aT (Prod.snd x_1.2).1 (W ((↑x_1.1:Int)+1)) false 0 (Prod.snd (Prod.snd x_1).2).1)) (W ((↑(List.length xs):Int)+m)+4+W ((↑x_1.1:Int)+1)))]),some (.ints (some .u64) (aJ (aJ (Prod.snd (Prod.snd x_1.2).2).3 (Prod.snd x_1).1 (aT (Prod.snd x_1.2).1 (W ((↑x_1.1:Int)+1)) false 0 (Prod.snd (Prod.snd x_1).2).1)) (W ((↑(List.length xs):Int)+m)+4+W ((↑x_1.1:Int)+1)) 1)),some (.cells [.int .i64 (List.getD xs (0+Int.toNat (↑x_1.1:Int)*1) 0),.int .i64 0,.bool false,.int .i64 0,.int .i64 3])]else bif !ieq sh 2 then bif ilt 0 (↑x.1:Int)then okSt (HFi sh t m xs (↑(Prod.fst x):Int)) (fun x'=>Hint.ok (HFi sh t m xs (↑(Prod.fst x):Int)) x'∧Hint.mu (HFi sh t m xs (↑(Prod.fst x):Int)) x'<Hint.mu (HFi sh t m xs (↑(Prod.fst x):Int)) x_1) [.int .i64 sh,.O,.O,.slice 0 0 (List.length xs) 1,.O,.O,.O,.O,.O,.ptr 1 0,.ptr 2 0,.ptr 3 0,.O,.int .i64 (↑x.1:Int),.int .i64 (Prod.snd x_1).1,.ptr 5 0,.O,.O,.O,.O,.O,.O,.O,.O,.O,.O,.O,.O,.O,.O,.O,.O,.O,.O,.O,.O,.O,.O,.O,.O,.O,.O,.O,.O,.slice 0 0 (List.length xs) 1,.int .i64 (↑(List.length xs):Int),.int .i64 (W ((↑x_1.1:Int)+1)),.O,.O,.O,.O,.O,.O,.O,.O,.O,.O,.O,.O,.O,.O,.O,.O,.O,.O,.O,.O,.O,.O,.O,.O,.O,.O,.O,.O,.O,.O,.O,.O,.O,.O,.O,.O,.O,.O,.O,.O,.O,.O,.O,.O,.O,.O] [some (.ints (some .i64) xs),some (.cells [.int .i64 0,.int .i64 0]),some (.cells [.int .i64 t,.int .i64 (W ((↑(List.length xs):Int)+m))]),some (.cells [.int .i64 (Prod.snd (Prod.snd x_1.2).2).1,.int .i64 (Prod.snd (Prod.snd x_1.2).2).2,.slice 4 0 (List.length (Prod.snd (Prod.snd x_1.2).2).3) 1,.int .i64 (Prod.snd (Prod.snd x_1.2).2).4,.int .i64 (Prod.snd (Prod.snd x_1.2).2).5,.int .i64 (Prod.snd (Prod.snd x_1.2).2).6,.int .u64 (Prod.snd (Prod.snd x_1.2).2).7,.int .u64 (Prod.snd (Prod.snd x_1.2).2).8,.bool (Prod.snd (Prod.snd x_1.2).2).9]),some (.ints (some .u64) (Prod.snd (Prod.snd x_1.2).2).3),some (.cells [.int .i64 (Prod.snd x_1.2).1,.int .i64 0,.bool false,.int .i64 0,.int .i64 (Prod.snd (Prod.snd x_1).2).1])]else(((0:Int)≤(Prod.snd x_1.2).1∧(Prod.snd x_1.2).1<(1024:Int))∧((0:Int)≤W ((↑x_1.1:Int)+1)∧W ((↑x_1.1:Int)+1)<(512:Int))∧((0:Int)≤(0:Int)∧(0:Int)<(32:Int))∧(0:Int)≤(Prod.snd (Prod.snd x_1).2).1∧(Prod.snd (Prod.snd x_1).2).1<(262144:Int))∧(lE' (Prod.snd (Prod.snd x_1.2).2).3∧(0:Int)≤(Prod.snd (Prod.snd x_1.2).2).4∧(Prod.snd (Prod.snd x_1.2).2).4≤(4611686018427387904:Int))∧(((0:Int)≤t∧t≤(100000:Int))∧((0:Int)≤W ((↑(List.length xs):Int)+m)∧W ((↑(List.length xs):Int)+m)≤(100000:Int))∧(-1099511627776:Int)≤W ((↑x_1.1:Int)+1)∧W ((↑x_1.1:Int)+1)≤(1099511627776:Int))∧(lE' (aJ (Prod.snd (Prod.snd x_1.2).2).3 (Prod.snd x_1).1 (aT (Prod.snd x_1.2).1 (W ((↑x_1.1:Int)+1)) false 0 (Prod.snd (Prod.snd x_1).2).1))∧(0:Int)≤(Prod.snd (Prod.snd x_1.2).2).4+1∧(Prod.snd (Prod.snd x_1.2).2).4+(1:Int)≤(4611686018427387904:Int))∧okSt (HFi sh t m xs (↑(Prod.fst x):Int)) (fun x'=>Hint.ok (HFi sh t m xs (↑(Prod.fst x):Int)) x'∧Hint.mu (HFi sh t m xs (↑(Prod.fst x):Int)) x'<Hint.mu (HFi sh t m xs (↑(Prod.fst x):Int)) x_1) [.int .i64 sh,.O,.O,.slice 0 0 (List.length xs) 1,.O,.O,.O,.O,.O,.ptr 1 0,.ptr 2 0,.ptr 3 0,.O,.int .i64 (↑x.1:Int),.int .i64 (W ((↑x_1.1:Int)+1)),.ptr 5 0,.O,.O,.O,.O,.O,.O,.O,.O,.O,.O,.O,.O,.O,.O,.O,.O,.O,.O,.O,.O,.O,.O,.O,.O,.O,.O,.O,.O,.slice 0 0 (List.length xs) 1,.int .i64 (↑(List.length xs):Int),.int .i64 (W ((↑x_1.1:Int)+1)),.O,.O,.O,.O,.O,.O,.O,.O,.O,.O,.O,.O,.O,.O,.O,.O,.O,.O,.O,.O,.O,.O,.O,.O,.O,.O,.O,.O,.O,.O,.O,.O,.O,.O,.O,.O,.O,.O,.O,.O,.O,.O,.O,.O,.O,.O] [some (.ints (some .i64) xs),some (.cells [.int .i64 0,.int .i64 0]),some (.cells [.int .i64 t,.int .i64 (W ((↑(List.length xs):Int)+m))]),some (.cells [.int .i64 (Prod.snd (Prod.snd x_1.2).2).1,.int .i64 (Prod.snd (Prod.snd x_1.2).2).2,.slice 4 0 (List.length (aJ (aJ (Prod.snd (Prod.snd x_1.2).2).3 (Prod.snd x_1).1 (aT (Prod.snd x_1.2).1 (W ((↑x_1.1:Int)+1)) false 0 (Prod.snd (Prod.snd x_1).2).1)) (W ((↑(List.length xs):Int)+m)+4+W ((↑x_1.1:Int)+1)) 1)) 1,.int .i64 ((Prod.snd (Prod.snd x_1.2).2).4+1+1),.int .i64 2,.int .i64 (W ((↑(List.length xs):Int)+m)+4+W ((↑x_1.1:Int)+1)),.int .u64 (aB (aJ (Prod.snd (Prod.snd x_1.2).2).3 (Prod.snd x_1).1 (aT (Prod.snd x_1.2).1 (W ((↑x_1.1:Int)+1)) false 0 (Prod.snd (Prod.snd x_1).2).1)) (W ((↑(List.length xs):Int)+m)+4+W ((↑x_1.1:Int)+1))),.int .u64 (bif bL (aJ (Prod.snd (Prod.snd x_1.2).2).3 (Prod.snd x_1).1 (aT (Prod.snd x_1.2).1 (W ((↑x_1.1:Int)+1)) false 0 (Prod.snd (Prod.snd x_1).2).1)) (W ((↑(List.length xs):Int)+m)+4+W ((↑x_1.1:Int)+1))then 1 else 0),.bool (bL (aJ (Prod.snd (Prod.snd x_1.2).2).3 (Prod.snd x_1).1 (aT (Prod.snd x_1.2).1 (W ((↑x_1.1:Int)+1)) false 0 (Prod.snd (Prod.snd x_1).2).1)) (W ((↑(List.length xs):Int)+m)+4+W ((↑x_1.1:Int)+1)))]),some (.ints (some .u64) (aJ (aJ (Prod.snd (Prod.snd x_1.2).2).3 (Prod.snd x_1).1 (aT (Prod.snd x_1.2).1 (W ((↑x_1.1:Int)+1)) false 0 (Prod.snd (Prod.snd x_1).2).1)) (W ((↑(List.length xs):Int)+m)+4+W ((↑x_1.1:Int)+1)) 1)),some (.cells [.int .i64 (List.getD xs (0+Int.toNat (↑x_1.1:Int)*1) 0),.int .i64 0,.bool false,.int .i64 0,.int .i64 3])]else(((0:Int)≤(Prod.snd x_1.2).1∧(Prod.snd x_1.2).1<(1024:Int))∧((0:Int)≤W ((↑x_1.1:Int)+1)∧W ((↑x_1.1:Int)+1)<(512:Int))∧((0:Int)≤(0:Int)∧(0:Int)<(32:Int))∧(0:Int)≤(Prod.snd (Prod.snd x_1).2).1∧(Prod.snd (Prod.snd x_1).2).1<(262144:Int))∧(lE' (Prod.snd (Prod.snd x_1.2).2).3∧(0:Int)≤(Prod.snd (Prod.snd x_1.2).2).4∧(Prod.snd (Prod.snd x_1.2).2).4≤(4611686018427387904:Int))∧(((0:Int)≤t∧t≤(100000:Int))∧((0:Int)≤W ((↑(List.length xs):Int)+m)∧W ((↑(List.length xs):Int)+m)≤(100000:Int))∧(-1099511627776:Int)≤W ((↑x_1.1:Int)+1)∧W ((↑x_1.1:Int)+1)≤(1099511627776:Int))∧(lE' (aJ (Prod.snd (Prod.snd x_1.2).2).3 (Prod.snd x_1).1 (aT (Prod.snd x_1.2).1 (W ((↑x_1.1:Int)+1)) false 0 (Prod.snd (Prod.snd x_1).2).1))∧(0:Int)≤(Prod.snd (Prod.snd x_1.2).2).4+1∧(Prod.snd (Prod.snd x_1.2).2).4+(1:Int)≤(4611686018427387904:Int))∧okSt (HFi sh t m xs (↑(Prod.fst x):Int)) (fun x'=>Hint.ok (HFi sh t m xs (↑(Prod.fst x):Int)) x'∧Hint.mu (HFi sh t m xs (↑(Prod.fst x):Int)) x'<Hint.mu (HFi sh t m xs (↑(Prod.fst x):Int)) x_1) [.int .i64 sh,.O,.O,.slice 0 0 (List.length xs) 1,.O,.O,.O,.O,.O,.ptr 1 0,.ptr 2 0,.ptr 3 0,.O,.int .i64 (↑x.1:Int),.int .i64 (W ((↑x_1.1:Int)+1)),.ptr 5 0,.O,.O,.O,.O,.O,.O,.O,.O,.O,.O,.O,.O,.O,.O,.O,.O,.O,.O,.O,.O,.O,.O,.O,.O,.O,.O,.O,.O,.slice 0 0 (List.length xs) 1,.int .i64 (↑(List.length xs):Int),.int .i64 (W ((↑x_1.1:Int)+1)),.O,.O,.O,.O,.O,.O,.O,.O,.O,.O,.O,.O,.O,.O,.O,.O,.O,.O,.O,.O,.O,.O,.O,.O,.O,.O,.O,.O,.O,.O,.O,.O,.O,.O,.O,.O,.O,.O,.O,.O,.O,.O,.O,.O,.O,.O] [some (.ints (some .i64) xs),some (.cells [.int .i64 0,.int .i64 0]),some (.cells [.int .i64 t,.int .i64 (W ((↑(List.length xs):Int)+m))]),some (.cells [.int .i64 (Prod.snd (Prod.snd x_1.2).2).1,.int .i64 (Prod.snd (Prod.snd x_1.2).2).2,.slice 4 0 (List.length (aJ (aJ (Prod.snd (Prod.snd x_1.2).2).3 (Prod.snd x_1).1 (aT (Prod.snd x_1.2).1 (W ((↑x_1.1:Int)+1)) false 0 (Prod.snd (Prod.snd x_1).2).1)) (W ((↑(List.length xs):Int)+m)+4+W ((↑x_1.1:Int)+1)) 1)) 1,.int .i64 ((Prod.snd (Prod.snd x_1.2).2).4+1+1),.int .i64 2,.int .i64 (W ((↑(List.length xs):Int)+m)+4+W ((↑x_1.1:Int)+1)),.int .u64 (aB (aJ (Prod.snd (Prod.snd x_1.2).2).3 (Prod.snd x_1).1 (aT (Prod.snd x_1.2).1 (W ((↑x_1.1:Int)+1)) false 0 (Prod.snd (Prod.snd x_1).2).1)) (W ((↑(List.length xs):Int)+m)+4+W ((↑x_1.1:Int)+1))),.int .u64 (bif bL (aJ (Prod.snd (Prod.snd x_1.2).2).3 (Prod.snd x_1).1 (aT (Prod.snd x_1.2).1 (W ((↑x_1.1:Int)+1)) false 0 (Prod.snd (Prod.snd x_1).2).1)) (W ((↑(List.length xs):Int)+m)+4+W ((↑x_1.1:Int)+1))then 1 else 0),.bool (bL (aJ (Prod.snd (Prod.snd x_1.2).2).3 (Prod.snd x_1).1 (aT (Prod.snd x_1.2).1 (W ((↑x_1.1:Int)+1)) false 0 (Prod.snd (Prod.snd x_1).2).1)) (W ((↑(List.length xs):Int)+m)+4+W ((↑x_1.1:Int)+1)))]),some (.ints (some .u64) (aJ (aJ (Prod.snd (Prod.snd x_1.2).2).3 (Prod.snd x_1).1 (aT (Prod.snd x_1.2).1 (W ((↑x_1.1:Int)+1)) false 0 (Prod.snd (Prod.snd x_1).2).1)) (W ((↑(List.length xs):Int)+m)+4+W ((↑x_1.1:Int)+1)) 1)),some (.cells [.int .i64 (List.getD xs (0+Int.toNat (↑x_1.1:Int)*1) 0),.int .i64 0,.bool false,.int .i64 0,.int .i64 3])]else(((0:Int)≤(Prod.snd x_1.2).1∧(Prod.snd x_1.2).1<(1024:Int))∧((0:Int)≤(0:Int)∧(0:Int)<(512:Int))∧((0:Int)≤(0:Int)∧(0:Int)<(32:Int))∧(0:Int)≤(Prod.snd (Prod.snd x_1).2).1∧(Prod.snd (Prod.snd x_1).2).1<(262144:Int))∧(lE' (Prod.snd (Prod.snd x_1.2).2).3∧(0:Int)≤(Prod.snd (Prod.snd x_1.2).2).4∧(Prod.snd (Prod.snd x_1.2).2).4≤(4611686018427387904:Int))∧okSt (KT sh t m xs) (fun x'=>Hint.ok (KT sh t m xs) x'∧Hint.mu (KT sh t m xs) x'<Hint.mu (KT sh t m xs) x) [.int .i64 sh,.O,.O,.slice 0 0 (List.length xs) 1,.O,.O,.O,.O,.O,.ptr 1 0,.ptr 2 0,.ptr 3 0,.O,.int .i64 (W ((↑x.1:Int)+1)),.O,.O,.O,.O,.O,.O,.O,.O,.O,.O,.O,.O,.O,.O,.O,.O,.O,.O,.O,.O,.O,.O,.O,.O,.O,.O,.O,.O,.O,.O,.O,.O,.O,.O,.O,.O,.O,.O,.O,.O,.O,.O,.O,.O,.O,.O,.O,.O,.O,.O,.O,.O,.O,.O,.O,.O,.O,.O,.O,.O,.O,.O,.O,.O,.O,.O,.O,.O,.O,.O,.O,.O,.O,.O,.O,.O,.O,.O,.O] [some (.ints (some .i64) xs),some (.cells [.int .i64 0,.int .i64 0]),some (.cells [.int .i64 t,.int .i64 (W ((↑(List.length xs):Int)+m))]),some (.cells [.int .i64 (Prod.snd (Prod.snd x_1.2).2).1,.int .i64 (Prod.snd (Prod.snd x_1.2).2).2,.slice 4 0 (List.length (aJ (Prod.snd (Prod.snd x_1.2).2).3 (Prod.snd x_1).1 (aT (Prod.snd x_1.2).1 0 false 0 (Prod.snd (Prod.snd x_1).2).1))) 1,.int .i64 ((Prod.snd (Prod.snd x_1.2).2).4+1),.int .i64 2,.int .i64 (Prod.snd x_1).1,.int .u64 (aB (Prod.snd (Prod.snd x_1.2).2).3 (Prod.snd x_1).1),.int .u64 (bif bL (Prod.snd (Prod.snd x_1.2).2).3 (Prod.snd x_1).1 then aT (Prod.snd x_1.2).1 0 false 0 (Prod.snd (Prod.snd x_1).2).1 else 0),.bool (bL (Prod.snd (Prod.snd x_1.2).2).3 (Prod.snd x_1).1)]),some (.ints (some .u64) (aJ (Prod.snd (Prod.snd x_1.2).2).3 (Prod.snd x_1).1 (aT (Prod.snd x_1.2).1 0 false 0 (Prod.snd (Prod.snd x_1).2).1)))]else K (.tup [.ptr 1 0,.agg [.int .i64 t,.int .i64 (W ((↑(List.length xs):Int)+m))]]) [some (.ints (some .i64) xs),some (.cells [.int .i64 (Prod.snd x).1,.int .i64 (Prod.snd x).2,.slice 2 0 (List.length (Prod.snd x).3) 1,.int .i64 (Prod.snd x).4,.int .i64 (Prod.snd x).5,.int .i64 (Prod.snd x).6,.int .u64 (Prod.snd x).7,.int .u64 (Prod.snd x).8,.bool (Prod.snd x).9]),some (.ints (some .u64) (Prod.snd x).3)]
theorem EE(sh t m:Int)(xs:List Int)(K:AVal→aD Ob→Prop)(h:zQ sh t m xs K):cT' 15 [.int .i64 sh,.int .i64 t,.int .i64 m,.slice 0 0 xs.length 1] [some (.ints (some .i64) xs)] K:=by
 refine aBs (aE (E:=EZ) Tryz.checked.mixed (L:=VI sh t m xs) (n:=10) (aR (by kernel_rfl) h))
theorem tC(sh h n k:Int)(ks:List Int)(i a ky vr:Int)(s:MS)(e:dV sh h k=true):fF sh h n (k::ks) i a ky vr s=fF sh h n ks (i+1) a ky vr s:=by show cond _ _ _=_;rw [e];rfl
theorem tD(sh h n k:Int)(ks:List Int)(i a ky vr:Int)(s:MS)(e:dV sh h k=false):fF sh h n (k::ks) i a ky vr s=fF sh h n ks (i+1) (i+1) k 3 ((s.stored a (aT ky (i+1) false 0 vr)).stored (n+4+(i+1)) 1):=by show cond _ _ _=_;rw [e];rfl
theorem vF(sh n:Int)(xs:List Int)(h:Nat)(hh:h<4)(s:MS):fY sh n xs (4 - h) h s=fY sh n xs (3 - (h:Int)).toNat ((h:Int)+1) (fF sh h n xs 0 (n+1+h) 0 0 s):=by
 have:4 - h=(3 - (h:Int)).toNat +1:=by omega
 rw [this];rfl
theorem QY(sh t m:Int)(xs:List Int)(K:AVal→aD Ob→Prop)(hm:0≤m∧m≤100)(hl:xs.length≤100)(hr:gI t (xs.length+m)=true)(hk: ∀k∈xs,0≤k∧k<1024)
 (hK:K (.tup [.ptr 1 0,.agg [.int .i64 t,.int .i64 (xs.length+m)]]) [some (.ints (some .i64) xs),a9 2 (fY sh (xs.length+m) xs 4 0 (memN t (xs.length+m))),bA (fY sh (xs.length+m) xs 4 0 (memN t (xs.length+m)))]):zQ sh t m xs K:=by
 unfold zQ
 have hr2:=kP.1 hr
 have hn:W ((xs.length:Int)+m)=xs.length+m:=cU (by omega)
 have hr':gI t (W ((xs.length:Int)+m))=true:=by rw [hn];exact hr
 have hz:(2*W ((xs.length:Int)+m)+5*t+6).toNat =(2*((xs.length:Int)+m)+5*t+6).toNat :=by rw [hn]
 rw [hr']
 refine⟨trivial,aP (fun e=>by cases e) (fun _=>⟨⟨by omega,by omega,by omega⟩,aP (fun e=>?_) (fun _=>⟨⟨⟨by omega,by omega,by omega⟩,trivial⟩,⟨by omega,rfl,by omega⟩,?_,?_⟩)⟩)⟩
 ·rw [bS,dT']at e;omega
 ·refine aW (H:=KT sh t m xs) ((0:Nat),memN t (W ((xs.length:Int)+m))) ?_ ⟨Nat.zero_le _,⟨Int.le_refl 0,by show(0:Int)≤_;omega⟩,rfl⟩
  simp only [KT,a9,bA,memN,List.length_replicate]
  rfl
 ·rintro⟨h,s⟩ ⟨h4,hc,heq⟩
  simp only at h4 hc heq
  refine aP (fun e1=>?_) (fun e1=>?_)
  ·rw [bS,dT']at e1
   refine⟨⟨by omega,by omega,by omega⟩,aW (H:=HFi sh t m xs (h:Int)) ((0:Nat),(W ((xs.length:Int)+m)+1+h,((0:Int),((0:Int),s)))) rfl ⟨by omega,Nat.zero_le _,⟨Int.le_refl 0,by show(0:Int)<1024;omega⟩,⟨Int.le_refl 0,by show(0:Int)<262144;omega⟩,⟨hc.1,by show s.c≤1000*(h:Int)+3*((0:Nat):Int);omega⟩,?_⟩,?_⟩
   ·rw [heq,vF _ _ _ _ (by omega)];rfl
   ·rintro⟨i,a,ky,vr,s1⟩ ⟨g4,gi,gk,gv,gc,geq⟩
    simp only at g4 gi gk gv gc geq
    have gc2:s1.c≤1000*(h:Int)+3*i:=gc.2
    have gc1:0≤s1.c:=gc.1
    have gh:(h:Int)<4:=g4.2
    have hskip: ∀(hi:i<xs.length),dV sh h (xs.getD (0+(i:Int).toNat *1) 0)=true→okSt (HFi sh t m xs h) (fun x'=>Hint.ok (HFi sh t m xs h) x'∧Hint.mu (HFi sh t m xs h) x'<Hint.mu (HFi sh t m xs h) (i,a,ky,vr,s1)) ((HFi sh t m xs h).st ((i+1:Nat),a,ky,vr,s1)).1 ((HFi sh t m xs h).st ((i+1:Nat),a,ky,vr,s1)).2:=by
     intro hi hs
     refine aW (H:=HFi sh t m xs h) ((i+1:Nat),a,ky,vr,s1) rfl ⟨⟨g4,hi,gk,gv,⟨gc.1,by show s1.c≤1000*(h:Int)+3*((i+1:Nat):Int);omega⟩,?_⟩,by show xs.length - (i+1)<xs.length - i;omega⟩
     have e2:0+(i:Int).toNat *1=i:=by omega
     have e3:xs.getD i 0=xs[i]:=by rw [gD',gE' hi];rfl
     rw [e2,e3]at hs
     rw [geq,List.drop_eq_getElem_cons hi,tC _ _ _ _ _ _ _ _ _ _ hs];rfl
    have hput: ∀(hi:i<xs.length),dV sh h (xs.getD (0+(i:Int).toNat *1) 0)=false→okSt (HFi sh t m xs h) (fun x'=>Hint.ok (HFi sh t m xs h) x'∧Hint.mu (HFi sh t m xs h) x'<Hint.mu (HFi sh t m xs h) (i,a,ky,vr,s1)) ((HFi sh t m xs h).st ((i+1:Nat),((i+1:Nat):Int),(xs.getD (0+(i:Int).toNat *1) 0,(3:Int),((s1.stored a (aT ky ((i:Int)+1) false 0 vr)).stored (W ((xs.length:Int)+m)+4+((i:Int)+1)) 1)))).1 ((HFi sh t m xs h).st ((i+1:Nat),((i+1:Nat):Int),(xs.getD (0+(i:Int).toNat *1) 0,(3:Int),((s1.stored a (aT ky ((i:Int)+1) false 0 vr)).stored (W ((xs.length:Int)+m)+4+((i:Int)+1)) 1)))).2:=by
     intro hi hs
     have e2:0+(i:Int).toNat *1=i:=by omega
     rw [e2]at hs⊢
     have e3:xs.getD i 0=xs[i]:=by rw [gD',gE' hi];rfl
     rw [e3]at hs⊢
     refine aW (H:=HFi sh t m xs h) _ rfl ⟨⟨g4,hi,hk _ (List.getElem_mem hi),⟨by show(0:Int)≤3;omega,by show(3:Int)<262144;omega⟩,⟨?_,?_⟩,?_⟩,by show xs.length - (i+1)<xs.length - i;omega⟩
     ·show 0≤s1.c+1+1;omega
     ·show s1.c+1+1≤1000*(h:Int)+3*((i+1:Nat):Int);omega
     ·rw [geq,List.drop_eq_getElem_cons hi,tD _ _ _ _ _ _ _ _ _ _ hs];rfl
    have e4:i<xs.length→W ((i:Int)+1)=((i+1:Nat):Int):=fun hi=>(cU (by omega)).trans rfl
    have e4':W ((h:Int)+1)=((h+1:Nat):Int):=(cU (by have:(h:Int)<4:=g4.2;omega)).trans rfl
    refine aP (fun e2=>?_) (fun e2=>?_)
    ·rw [bS,dT']at e2
     have hi:i<xs.length:=by omega
     have e4:=e4 hi
     have e0:0+(i:Int).toNat *1<xs.length:=by omega
     refine⟨by omega,e0,?_⟩
     have hput:=hput hi
     have hskip:=hskip hi
     unfold dV at hput hskip
     simp only [e4]at hput hskip⊢
     refine aP (fun e5=>?_) (fun e5=>?_)
     ·rw [e5]at hput hskip
      refine⟨by decide,aP (fun e6=>?_) (fun e6=>?_)⟩
      ·exact hskip e6
      ·rw [e5]
       refine aP (fun e7=>by cases e7) (fun _=>?_)
       refine⟨⟨gk,⟨by omega,by omega⟩,⟨by decide,by decide⟩,gv⟩,⟨trivial,gc.1,by omega⟩,⟨⟨by omega,by omega⟩,⟨by omega,by omega⟩,by omega,by omega⟩,⟨trivial,by omega,by omega⟩,?_⟩
       exact hput e6
     ·rw [e5]at hput hskip
      rw [e5]
      refine aP (fun _=>aP (fun e6=>?_) (fun e6=>?_)) (fun e7=>by cases e7)
      ·exact hskip e6
      ·refine⟨⟨gk,⟨by omega,by omega⟩,⟨by decide,by decide⟩,gv⟩,⟨trivial,gc.1,by omega⟩,⟨⟨by omega,by omega⟩,⟨by omega,by omega⟩,by omega,by omega⟩,⟨trivial,by omega,by omega⟩,?_⟩
       exact hput e6
    ·rw [bS,dF']at e2
     have hi:i=xs.length:=by omega
     subst hi
     refine⟨⟨gk,⟨by decide,by decide⟩,⟨by decide,by decide⟩,gv⟩,⟨rfl,gc1,by show s1.c≤4611686018427387904;omega⟩,aW (H:=KT sh t m xs) ((h+1:Nat),s1.stored a (aT ky 0 false 0 vr)) ?_ ⟨⟨by show h+1≤4;omega,⟨by show 0≤s1.c+1;omega,by show s1.c+1≤1000*((h+1:Nat):Int);omega⟩,?_⟩,by show 4 - (h+1)<4 - h;omega⟩⟩
     ·simp only [KT,←e4']
      rfl
     ·rw [geq,List.drop_length]
      have e9:(3 - (h:Int)).toNat =4 - (h+1):=by omega
      rw [e9];rfl
  ·rw [bS,dF']at e1
   have e5:h=4:=by omega
   subst e5
   have heq':fY sh (W ((xs.length:Int)+m)) xs 4 0 (memN t (W ((xs.length:Int)+m)))=s:=heq
   rw [hn]at heq'
   rw [heq']at hK
   rw [hn]
   exact hK
def bF(sh t n:Int)(xs:List Int):MS:=fY sh n xs 4 0 (memN t n)
structure kU (t m:Int) (xs:List Int):Prop where
 hm:0≤m∧m≤100
 hl:xs.length≤100
 hr:gI t (xs.length+m)=true
 hk: ∀k∈xs,0≤k∧k<1024
def KS(sh t m:Int):Hint Ob:= {X:=Nat×MS,st:=fun x=>([.int .i64 sh,.O,.O,.raw (.slice none 0 0),.O,.O,.O,.O,.O,.ptr 0 0,.ptr 1 0,.ptr 2 0,.O,.int .i64 (x.1:Int)]++List.replicate 79 .O,[some (.cells [.int .i64 0,.int .i64 0]),some (.cells [.int .i64 t,.int .i64 (IntKind.wrap .i64 (((0:Nat):Int)+m))]),a9 3 x.2,bA x.2]),ok:=oJ sh t (IntKind.wrap .i64 (((0:Nat):Int)+m)) [],mu:=fun x=>4 - x.1,keep:=[0,3,9,10,11,13] }
def VJ(sh t m:Int):FuncId→Nat→Option (p7 Ob):=fun _ k=>if k=6 then some (.states (KS sh t m))else some (.rounds 2)
def tZ(sh t m:Int)(K:AVal→aD Ob→Prop):Prop:=True∧bif !gI t (W ((↑0:Int)+m))then K (.tup [.raw (Value.pointer none),.agg [.int .i64 t,.int .i64 (W ((↑0:Int)+m))]]) []else(((0:Int)≤t∧t≤(100000:Int))∧(0:Int)≤W ((↑0:Int)+m)∧W ((↑0:Int)+m)≤(100000:Int))∧bif ilt (2*W ((↑0:Int)+m)+5*t+6) (↑0:Int)then K (.tup [.raw (Value.pointer none),.agg [.int .i64 t,.int .i64 (W ((↑0:Int)+m))]]) []else((((0:Int)≤t∧t≤(100000:Int))∧(0:Int)≤W ((↑0:Int)+m)∧W ((↑0:Int)+m)≤(100000:Int))∧True)∧((0:Int)≤(2:Int)*W ((↑0:Int)+m)+5*t+6∧2*W ((↑0:Int)+m)+5*t+(6:Int)=(2:Int)*W ((↑0:Int)+m)+5*t+6∧2*W ((↑0:Int)+m)+5*t+(6:Int)≤(4294967296:Int))∧okSt (KS sh t m) (Hint.ok (KS sh t m)) [.int .i64 sh,.O,.O,.raw (Value.slice none 0 0),.O,.O,.O,.O,.O,.ptr 0 0,.ptr 1 0,.ptr 2 0,.O,.int .i64 0,.O,.O,.O,.O,.O,.O,.O,.O,.O,.O,.O,.O,.O,.O,.O,.O,.O,.O,.O,.O,.O,.O,.O,.O,.O,.O,.O,.O,.O,.O,.O,.O,.O,.O,.O,.O,.O,.O,.O,.O,.O,.O,.O,.O,.O,.O,.O,.O,.O,.O,.O,.O,.O,.O,.O,.O,.O,.O,.O,.O,.O,.O,.O,.O,.O,.O,.O,.O,.O,.O,.O,.O,.O,.O,.O,.O,.O,.O,.O] [some (.cells [.int .i64 0,.int .i64 0]),some (.cells [.int .i64 t,.int .i64 (W ((↑0:Int)+m))]),some (.cells [.int .i64 t,.int .i64 (W ((↑0:Int)+m)),.slice 3 0 (Int.toNat (2*W ((↑0:Int)+m)+5*t+6)) 1,.int .i64 0,.int .i64 0,.int .i64 0,.int .u64 0,.int .u64 0,.bool false]),some (.ints (some .u64) (List.replicate (Int.toNat (2*W ((↑0:Int)+m)+5*t+6)) 0))]∧ ∀(x:(Nat×MS)),oJ sh t (W ((↑0:Int)+m)) [] x→bif ilt (↑x.1:Int) 4 then(((0:Int)≤W ((↑0:Int)+m)∧W ((↑0:Int)+m)≤(100000:Int))∧(-1000000:Int)≤(↑x.1:Int)∧(↑x.1:Int)≤(1000000:Int))∧(((0:Int)≤(0:Int)∧(0:Int)<(1024:Int))∧((0:Int)≤(0:Int)∧(0:Int)<(512:Int))∧((0:Int)≤(0:Int)∧(0:Int)<(32:Int))∧(0:Int)≤(0:Int)∧(0:Int)<(262144:Int))∧(lE' (Prod.snd x).3∧(0:Int)≤(Prod.snd x).4∧(Prod.snd x).4≤(4611686018427387904:Int))∧okSt (KS sh t m) (fun x'=>Hint.ok (KS sh t m) x'∧Hint.mu (KS sh t m) x'<Hint.mu (KS sh t m) x) [.int .i64 sh,.O,.O,.raw (Value.slice none 0 0),.O,.O,.O,.O,.O,.ptr 0 0,.ptr 1 0,.ptr 2 0,.O,.int .i64 (W ((↑x.1:Int)+1)),.O,.O,.O,.O,.O,.O,.O,.O,.O,.O,.O,.O,.O,.O,.O,.O,.O,.O,.O,.O,.O,.O,.O,.O,.O,.O,.O,.O,.O,.O,.O,.O,.O,.O,.O,.O,.O,.O,.O,.O,.O,.O,.O,.O,.O,.O,.O,.O,.O,.O,.O,.O,.O,.O,.O,.O,.O,.O,.O,.O,.O,.O,.O,.O,.O,.O,.O,.O,.O,.O,.O,.O,.O,.O,.O,.O,.O,.O,.O] [some (.cells [.int .i64 0,.int .i64 0]),some (.cells [.int .i64 t,.int .i64 (W ((↑0:Int)+m))]),some (.cells [.int .i64 (Prod.snd x).1,.int .i64 (Prod.snd x).2,.slice 3 0 (List.length (aJ (Prod.snd x).3 (W ((↑0:Int)+m)+1+(↑x.1:Int)) (aT 0 0 false 0 0))) 1,.int .i64 ((Prod.snd x).4+1),.int .i64 2,.int .i64 (W ((↑0:Int)+m)+1+(↑x.1:Int)),.int .u64 (aB (Prod.snd x).3 (W ((↑0:Int)+m)+1+(↑x.1:Int))),.int .u64 (bif bL (Prod.snd x).3 (W ((↑0:Int)+m)+1+(↑x.1:Int))then aT 0 0 false 0 0 else 0),.bool (bL (Prod.snd x).3 (W ((↑0:Int)+m)+1+(↑x.1:Int)))]),some (.ints (some .u64) (aJ (Prod.snd x).3 (W ((↑0:Int)+m)+1+(↑x.1:Int)) (aT 0 0 false 0 0)))]else K (.tup [.ptr 0 0,.agg [.int .i64 t,.int .i64 (W ((↑0:Int)+m))]]) [some (.cells [.int .i64 (Prod.snd x).1,.int .i64 (Prod.snd x).2,.slice 1 0 (List.length (Prod.snd x).3) 1,.int .i64 (Prod.snd x).4,.int .i64 (Prod.snd x).5,.int .i64 (Prod.snd x).6,.int .u64 (Prod.snd x).7,.int .u64 (Prod.snd x).8,.bool (Prod.snd x).9]),some (.ints (some .u64) (Prod.snd x).3)]
theorem BY(sh t m:Int)(K:AVal→aD Ob→Prop)(h:tZ sh t m K):cT' 15 [.int .i64 sh,.int .i64 t,.int .i64 m,.raw (.slice none 0 0)] [] K:=by
 refine aBs (aE (E:=EZ) Tryz.checked.mixed (L:=VJ sh t m) (n:=10) (aR (by kernel_rfl) h))
theorem MO(sh t m:Int)(K:AVal→aD Ob→Prop)(ok:kU t m [])
 (hK:K (.tup [.ptr 0 0,.agg [.int .i64 t,.int .i64 m]]) [a9 1 (bF sh t m []),bA (bF sh t m [])]):tZ sh t m K:=by
 obtain⟨hm,hl,hr,hk⟩:=ok
 have h00:((([]:List Int).length :Int)+m)=m:=by simp
 rw [h00]at hr
 unfold tZ
 have hr2:=kP.1 hr
 have hn:W (0+m)=m:=(cU (by omega)).trans (by omega)
 have hr':gI t (W (0+m))=true:=by rw [hn];exact hr
 rw [hr']
 refine⟨trivial,aP (fun e=>by cases e) (fun _=>⟨⟨by omega,by omega,by omega⟩,aP (fun e=>?_) (fun _=>⟨⟨⟨by omega,by omega,by omega⟩,trivial⟩,⟨by omega,rfl,by omega⟩,?_,?_⟩)⟩)⟩
 ·rw [bS,dT']at e;omega
 ·refine aW (H:=KS sh t m) ((0:Nat),memN t (W (0+m))) ?_ ⟨Nat.zero_le _,⟨Int.le_refl 0,by show(0:Int)≤_;omega⟩,rfl⟩
  simp only [KS,a9,bA,memN,List.length_replicate]
  rfl
 ·rintro⟨h,s⟩ ⟨h4,hc,heq⟩
  simp only at h4 hc heq
  have gc1:0≤s.c:=hc.1
  refine aP (fun e1=>?_) (fun e1=>?_)
  ·rw [bS,dT']at e1
   have e1:(h:Int)<4:=e1
   have e4':W ((h:Int)+1)=((h+1:Nat):Int):=(cU (by omega)).trans rfl
   refine⟨⟨by omega,by omega,by omega⟩,⟨⟨by decide,by decide⟩,⟨by decide,by decide⟩,⟨by decide,by decide⟩,by decide,by decide⟩,⟨rfl,gc1,by show s.c≤4611686018427387904;omega⟩,aW (H:=KS sh t m) ((h+1:Nat),s.stored (W (0+m)+1+h) (aT 0 0 false 0 0)) ?_ ⟨⟨by show h+1≤4;omega,⟨by show 0≤s.c+1;omega,by show s.c+1≤1000*((h+1:Nat):Int);omega⟩,?_⟩,by show 4 - (h+1)<4 - h;omega⟩⟩
   ·simp only [KS,←e4']
    rfl
   ·have e9:(3 - (h:Int)).toNat =4 - (h+1):=by omega
    refine Eq.trans heq ?_
    rw [vF _ _ _ _ (by omega),e9];rfl
  ·rw [bS,dF']at e1
   have e1: ¬(h:Int)<4:=e1
   have e5:h=4:=by omega
   subst e5
   have heq':fY sh (W (0+m)) [] 4 0 (memN t (W (0+m)))=s:=heq
   rw [hn]at heq'
   unfold bF at hK
   rw [heq']at hK
   rw [hn]
   exact hK
def fillSa:aM Ob:=fun args h=>match args,h with
 | [.int .i64 sh,.int .i64 t,.int .i64 m,.slice 0 0 k 1],[some (.ints (some .i64) xs)]=>some (.pre (k=xs.length∧kU t m xs) (.ret (.tup [.ptr 1 0,.agg [.int .i64 t,.int .i64 (xs.length+m)]]) [some (.ints (some .i64) xs),a9 2 (bF sh t (xs.length+m) xs),bA (bF sh t (xs.length+m) xs)]))
 | _,_=>none
def fillSb:aM Ob:=fun args h=>match args,h with
 | [.int .i64 sh,.int .i64 t,.int .i64 m,.raw (.slice none 0 0)],[]=>some (.pre (kU t m []) (.ret (.tup [.ptr 0 0,.agg [.int .i64 t,.int .i64 m]]) [a9 1 (bF sh t m []),bA (bF sh t m [])]))
 | _,_=>none
theorem MN:sT' 15 fillSa:=by
 intro args h o ho K hK
 unfold fillSa at ho
 split at ho<;>cases ho
 rename_i sh t m k xs
 obtain⟨⟨rfl,ok⟩,hK⟩:=hK
 exact EE sh t m xs K (QY sh t m xs K ok.hm ok.hl ok.hr ok.hk hK)
theorem BX:sT' 15 fillSb:=by
 intro args h o ho K hK
 unfold fillSb at ho
 split at ho<;>cases ho
 rename_i sh t m
 obtain⟨ok,hK⟩:=hK
 exact BY sh t m K (MO sh t m K ok hK)
noncomputable def fillS:aM Ob:=aM.or fillSa fillSb
theorem zS:sT' 15 fillS:=aBK MN BX
noncomputable def EF1:=EZ.addS 15 fillS zS
def stNewS:aM Ob:=fun args h=>match args,h with
 | [.agg [.int .i64 t,.int .i64 n],.int .i64 me],[]=>some (.pre True (.ret (.ptr 0 0) [stC 1 t n ⟨me,0,[]⟩,mG ⟨me,0,[]⟩]))
 | _,_=>none
theorem C1:sT' 19 stNewS:=by
 intro args h o ho K hK
 unfold stNewS at ho
 split at ho<;>cases ho
 rename_i t n me
 obtain⟨_,hK⟩:=hK
 have hK:K (.ptr 0 0) [stC 1 t n ⟨me,0,[]⟩,mG ⟨me,0,[]⟩]:=hK
 refine aBs (aB3 (cs:=[(.cell 1 4,.ints (some .i64))]) (cM' (E:=EF1) (q:=K (.ptr 0 0) [some (.cells [.int .i64 t,.int .i64 n,.int .i64 me,.int .i64 0,.slice 1 0 0 1]),some (.ints (some .i64) [])]) (by kernel_rfl) ?_))
 exact hK
noncomputable def EF2:=EF1.addS 19 stNewS C1
def RK0:iV tbl where
 R:=Empty
 row:=fun x=>nomatch x
 hole:=fun x=>nomatch x
 els:=fun x=>nomatch x
 len:=fun x=>nomatch x
 upd:=fun x=>nomatch x
 isRow:=fun _=>none
 isHole:=fun _=>none
 is:=fun x=>nomatch x
 get:=fun x=>nomatch x
 isRow_eq:=fun _ x _=>nomatch x
 isHole_eq:=fun _ x _ _=>nomatch x
 len_eq:=fun x=>nomatch x
 upd_eq:=fun x=>nomatch x
 is_true:=fun x=>nomatch x
 is_false:=fun x=>nomatch x
 tbRow:=fun x=>nomatch x
 tbHole:=fun x=>nomatch x
noncomputable def EF3:pZ Ob Tryz.prog:= {EF2 with row:=RK0.ops Tryz.prog,rowOk:=RK0.ops_ok}
def enNSA:aM Ob:=fun args h=>match args,h with
 | [.ptr 0 0],[some (.abs (.store t n st) [])]=>some (.pre (BN t n st).ok (.ret (.ptr 1 0) [some (.abs (.store t n (BN t n st).val) []),some (.abs (.ensure t n cF) [0])]))
 | _,_=>none
theorem QJ:sT' 37 enNSA:=by
 intro args h o ho K hK
 unfold enNSA at ho
 split at ho<;>cases ho
 rename_i t n st
 obtain⟨ok,hK⟩:=hK
 refine aC.pack (tb:=tbl) (aC.unpack (tb:=tbl) (Mc.store t n st) 0 0 (iU t n st) [] rfl rfl rfl rfl ?_)
 refine D8 [.ptr 0 0] [stC 1 t n st,mG st] _ rfl _ ⟨⟨rfl,ok⟩,⟨[0,2,1],[some (.abs (.store t n (BN t n st).val) []),some (.abs (.ensure t n cF) [0])],.store t n (BN t n st).val,0,0,iU t n (BN t n st).val,[],by kernel_rfl,by kernel_rfl,rfl,rfl,hK⟩⟩
noncomputable def EFr:=(EF3.addS 37 (aM.or enNSA enNS) (aBK QJ D8))
def r0(r:List Int):Int:=List.headD r 0
def r1(r:List Int):Int:=List.headD (List.tail r) 0
def r2(r:List Int):Int:=List.headD (List.tail (List.tail r)) 0
end Go.Sh
