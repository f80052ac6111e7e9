import Derived.Test.YteindpciaceeeaaGreatZGC6toGH0
set_option linter.all false
set_option maxHeartbeats 8000000
namespace Go.Sh
open Go Go.Proofs
variable [Con]
structure HpO where
 d:Bool
 x:HPS
 st:STS
 s:MS
instance:Inhabited HpO:=⟨⟨false,bR,⟨0,0,[]⟩,⟨0,0,[],0,0,0,0,0,false⟩⟩⟩
instance:Inhabited HPS:=⟨bR⟩
abbrev FU(t n:Int)(x:HPS)(st:STS)(s:MS):aD Ob:=[some (.abs (.help t n x) [1]),some (.abs (.store t n st) []),bE 3 s,bF s]
abbrev JS(t n:Int)(x:HPS)(st:STS)(s:MS):aD Ob:=[cE' [.ptr 1 0,.I x.u,.int .u64 x.no,.I x.rounds,.I x.limit,.I x.at',.int .u64 x.found,.I x.sh,.I x.kd,.I x.ky,.bool x.p.now,.I x.p.code,.bool x.p.okk,.I x.p.val,.I x.p.addr,.int .u64 x.p.old,.I x.p.nxt,.bool x.p.mark,.I x.p.pops,.O,.O,.O,.O,.O],some (.abs (.store t n st) []),bE 3 s,bF s]
def HpO.fin(t n:Int)(y:HpO):Out Ob:=.ite y.d (.ret (.bool true) (JS t n y.x y.st y.s)) (.ret (.bool false) (FU t n y.x y.st y.s))
def Z0(t n:Int)(v:AVal)(g:aD Ob):Option (Prop×HpO):=match v,g with
 | .bool d,[some (.cells [.ptr 1 0,.int .i64 u,.int .u64 no,.int .i64 rounds,.int .i64 limit,.int .i64 at',.int .u64 found,.int .i64 sh,.int .i64 kd,.int .i64 ky,.bool p_now,.int .i64 p_code,.bool p_okk,.int .i64 p_val,.int .i64 p_addr,.int .u64 p_old,.int .i64 p_nxt,.bool p_mark,.int .i64 p_pops,.O,.O,.O,.O,.O]),e1,e3,e4,e2]=>(match lB 4 [e1,e2],cL 3 [e3,e4]with
   | some (l2,t2,n2,st),some (l,s)=>some ((t2=t∧n2=n)∧(d=false→at'≠3∧at'≠4∧at'≠5∧at'≠7∧at'≠8)∧l=s.xs.length∧l2=st.R.length,⟨d,⟨u,no,rounds,limit,at',found,sh,kd,ky,⟨p_now,p_code,p_okk,p_val,p_addr,p_old,p_nxt,p_mark,p_pops⟩,cI,aU,aQ,⟨0,0,0,0⟩,⟨0,0,0,false⟩⟩,st,s⟩)
   | _,_=>none)
 | _,_=>none
def Z1(t n:Int)(v:AVal)(g:aD Ob):Option (Prop×HpO):=match v,g with
 | .bool d,[some (.cells [.ptr 1 0,.int .i64 u,.int .u64 no,.int .i64 rounds,.int .i64 limit,.int .i64 at',.int .u64 found,.int .i64 sh,.int .i64 kd,.int .i64 ky,.bool p_now,.int .i64 p_code,.bool p_okk,.int .i64 p_val,.int .i64 p_addr,.int .u64 p_old,.int .i64 p_nxt,.bool p_mark,.int .i64 p_pops,.ptr 4 0,.O,.O,.O,.O]),e1,e3,e4,some (.abs (.exec t' n' sub) []),e2]=>(match lB 5 [e1,e2],cL 3 [e3,e4]with
   | some (l2,t2,n2,st),some (l,s)=>some ((t2=t∧n2=n)∧t'=t∧n'=n∧(d=false→at'=3)∧l=s.xs.length∧l2=st.R.length,⟨d,⟨u,no,rounds,limit,at',found,sh,kd,ky,⟨p_now,p_code,p_okk,p_val,p_addr,p_old,p_nxt,p_mark,p_pops⟩,sub,aU,aQ,⟨0,0,0,0⟩,⟨0,0,0,false⟩⟩,st,s⟩)
   | _,_=>none)
 | _,_=>none
def Z2(t n:Int)(v:AVal)(g:aD Ob):Option (Prop×HpO):=match v,g with
 | .bool d,[some (.cells [.ptr 1 0,.int .i64 u,.int .u64 no,.int .i64 rounds,.int .i64 limit,.int .i64 at',.int .u64 found,.int .i64 sh,.int .i64 kd,.int .i64 ky,.bool p_now,.int .i64 p_code,.bool p_okk,.int .i64 p_val,.int .i64 p_addr,.int .u64 p_old,.int .i64 p_nxt,.bool p_mark,.int .i64 p_pops,.O,.ptr 4 0,.O,.O,.O]),e1,e3,e4,some (.abs (.ensure t' n' sub) [1]),e2]=>(match lB 5 [e1,e2],cL 3 [e3,e4]with
   | some (l2,t2,n2,st),some (l,s)=>some ((t2=t∧n2=n)∧t'=t∧n'=n∧(d=false→at'=4)∧l=s.xs.length∧l2=st.R.length,⟨d,⟨u,no,rounds,limit,at',found,sh,kd,ky,⟨p_now,p_code,p_okk,p_val,p_addr,p_old,p_nxt,p_mark,p_pops⟩,cI,sub,aQ,⟨0,0,0,0⟩,⟨0,0,0,false⟩⟩,st,s⟩)
   | _,_=>none)
 | _,_=>none
def Z3(t n:Int)(v:AVal)(g:aD Ob):Option (Prop×HpO):=match v,g with
 | .bool d,[some (.cells [.ptr 1 0,.int .i64 u,.int .u64 no,.int .i64 rounds,.int .i64 limit,.int .i64 at',.int .u64 found,.int .i64 sh,.int .i64 kd,.int .i64 ky,.bool p_now,.int .i64 p_code,.bool p_okk,.int .i64 p_val,.int .i64 p_addr,.int .u64 p_old,.int .i64 p_nxt,.bool p_mark,.int .i64 p_pops,.O,.O,.ptr 4 0,.O,.O]),e1,e3,e4,some (.abs (.find t' n' sub) []),e2]=>(match lB 5 [e1,e2],cL 3 [e3,e4]with
   | some (l2,t2,n2,st),some (l,s)=>some ((t2=t∧n2=n)∧t'=t∧n'=n∧(d=false→at'=5)∧l=s.xs.length∧l2=st.R.length,⟨d,⟨u,no,rounds,limit,at',found,sh,kd,ky,⟨p_now,p_code,p_okk,p_val,p_addr,p_old,p_nxt,p_mark,p_pops⟩,cI,aU,sub,⟨0,0,0,0⟩,⟨0,0,0,false⟩⟩,st,s⟩)
   | _,_=>none)
 | _,_=>none
def Z4(t n:Int)(v:AVal)(g:aD Ob):Option (Prop×HpO):=match v,g with
 | .bool d,[some (.cells [.ptr 1 0,.int .i64 u,.int .u64 no,.int .i64 rounds,.int .i64 limit,.int .i64 at',.int .u64 found,.int .i64 sh,.int .i64 kd,.int .i64 ky,.bool p_now,.int .i64 p_code,.bool p_okk,.int .i64 p_val,.int .i64 p_addr,.int .u64 p_old,.int .i64 p_nxt,.bool p_mark,.int .i64 p_pops,.O,.O,.O,.ptr 4 0,.O]),e1,e3,e4,some (.abs (.clear t' n' sub) []),e2]=>(match lB 5 [e1,e2],cL 3 [e3,e4]with
   | some (l2,t2,n2,st),some (l,s)=>some ((t2=t∧n2=n)∧t'=t∧n'=n∧(d=false→at'=7)∧l=s.xs.length∧l2=st.R.length,⟨d,⟨u,no,rounds,limit,at',found,sh,kd,ky,⟨p_now,p_code,p_okk,p_val,p_addr,p_old,p_nxt,p_mark,p_pops⟩,cI,aU,aQ,sub,⟨0,0,0,false⟩⟩,st,s⟩)
   | _,_=>none)
 | _,_=>none
def Z5(t n:Int)(v:AVal)(g:aD Ob):Option (Prop×HpO):=match v,g with
 | .bool d,[some (.cells [.ptr 1 0,.int .i64 u,.int .u64 no,.int .i64 rounds,.int .i64 limit,.int .i64 at',.int .u64 found,.int .i64 sh,.int .i64 kd,.int .i64 ky,.bool p_now,.int .i64 p_code,.bool p_okk,.int .i64 p_val,.int .i64 p_addr,.int .u64 p_old,.int .i64 p_nxt,.bool p_mark,.int .i64 p_pops,.O,.O,.O,.O,.ptr 4 0]),e1,e3,e4,some (.abs (.prepare t' n' sub) [1]),e2]=>(match lB 5 [e1,e2],cL 3 [e3,e4]with
   | some (l2,t2,n2,st),some (l,s)=>some ((t2=t∧n2=n)∧t'=t∧n'=n∧(d=false→at'=8)∧l=s.xs.length∧l2=st.R.length,⟨d,⟨u,no,rounds,limit,at',found,sh,kd,ky,⟨p_now,p_code,p_okk,p_val,p_addr,p_old,p_nxt,p_mark,p_pops⟩,cI,aU,aQ,⟨0,0,0,0⟩,sub⟩,st,s⟩)
   | _,_=>none)
 | _,_=>none
def u4(t n:Int)(v:AVal)(g:aD Ob):Option (Prop×HpO):=(match Z0 t n v g with
 | some r=>some r
 | none=>(match Z1 t n v g with
 | some r=>some r
 | none=>(match Z2 t n v g with
 | some r=>some r
 | none=>(match Z3 t n v g with
 | some r=>some r
 | none=>(match Z4 t n v g with
 | some r=>some r
 | none=>Z5 t n v g)))))
theorem S7{t n:Int} :bS (obI tbl) 4 (Z0 t n) (HpO.fin t n):=by
 intro v g p x hp hq K hK;unfold Z0 at hp;split at hp
 case h_2=>cases hp
 rename_i d u no rounds limit at' found sh kd ky p_now p_code p_okk p_val p_addr p_old p_nxt p_mark p_pops e1 e3 e4 e2;split at hp
 case h_2=>cases hp
 rename_i l2 t2 n2 st l s hs hm;simp only [sI',pI']at hp;obtain⟨rfl,rfl⟩:=hp;obtain⟨⟨rfl,rfl⟩,hat,hl,hl2⟩:=hq;have hh:=bB hm hl;cases hh;have hh:=cB hs hl2;cases hh;refine eV hK (fun h=>?_) (fun hd h=>?_)
 ·exact⟨⟨_,_,(aF.pack (JS t2 n2 (⟨u,no,rounds,limit,at',found,sh,kd,ky,⟨p_now,p_code,p_okk,p_val,p_addr,p_old,p_nxt,p_mark,p_pops⟩,cI,aU,aQ,⟨0,0,0,0⟩,⟨0,0,0,false⟩⟩:HPS) st s) (.store t2 n2 st) 1 0 (dD t2 n2 st) [] (by kernel_rfl) rfl rfl (by kernel_rfl)),h⟩⟩
 ·exact let X0:HPS:=⟨u,no,rounds,limit,at',found,sh,kd,ky,⟨p_now,p_code,p_okk,p_val,p_addr,p_old,p_nxt,p_mark,p_pops⟩,cI,aU,aQ,⟨0,0,0,0⟩,⟨0,0,0,false⟩⟩;⟨⟨_,_,((aF.pack (aM (FU t2 n2 X0 st s) 0 1 (kX t2 n2 X0) [1]) (.store t2 n2 st) 1 0 (dD t2 n2 st) [] (by kernel_rfl) rfl rfl (by kernel_rfl)).trans (aF.pack (FU t2 n2 X0 st s) (.help t2 n2 X0) 0 1 (kX t2 n2 X0) [1] (by kernel_rfl) rfl (congrArg (Prod.mk 1) (jU (hat hd))) (by kernel_rfl))),h⟩⟩
theorem S8{t n:Int} :bS (obI tbl) 4 (Z1 t n) (HpO.fin t n):=by
 intro v g p x hp hq K hK;unfold Z1 at hp;split at hp
 case h_2=>cases hp
 rename_i d u no rounds limit at' found sh kd ky p_now p_code p_okk p_val p_addr p_old p_nxt p_mark p_pops e1 e3 e4 t' n' sub e2;split at hp
 case h_2=>cases hp
 rename_i l2 t2 n2 st l s hs hm;simp only [sI',pI']at hp;obtain⟨rfl,rfl⟩:=hp;obtain⟨⟨rfl,rfl⟩,rfl,rfl,hat,hl,hl2⟩:=hq;have hh:=bB hm hl;cases hh;have hh:=cB hs hl2;cases hh;refine eV hK (fun h=>?_) (fun hd h=>?_)
 ·exact⟨⟨_,_,(aF.weak (bZ _ 0 [19,20,21,22,23])).trans ((aF.pick [0,1,2,3,5] rfl).trans ((aEH (g2:=aM (JS t' n' (⟨u,no,rounds,limit,at',found,sh,kd,ky,⟨p_now,p_code,p_okk,p_val,p_addr,p_old,p_nxt,p_mark,p_pops⟩,sub,aU,aQ,⟨0,0,0,0⟩,⟨0,0,0,false⟩⟩:HPS) st s) 1 0 (dD t' n' st) []) (by kernel_rfl) (by kernel_rfl)).trans (aF.pack (JS t' n' (⟨u,no,rounds,limit,at',found,sh,kd,ky,⟨p_now,p_code,p_okk,p_val,p_addr,p_old,p_nxt,p_mark,p_pops⟩,sub,aU,aQ,⟨0,0,0,0⟩,⟨0,0,0,false⟩⟩:HPS) st s) (.store t' n' st) 1 0 (dD t' n' st) [] (by kernel_rfl) rfl rfl (by kernel_rfl)))),h⟩⟩
 ·exact let X0:HPS:=⟨u,no,rounds,limit,at',found,sh,kd,ky,⟨p_now,p_code,p_okk,p_val,p_addr,p_old,p_nxt,p_mark,p_pops⟩,sub,aU,aQ,⟨0,0,0,0⟩,⟨0,0,0,false⟩⟩;⟨⟨_,_,((aF.pack (aM (FU t' n' X0 st s) 0 1 (mT t' n' X0) [1]) (.store t' n' st) 1 0 (dD t' n' st) [] (by kernel_rfl) rfl rfl (by kernel_rfl)).trans (aF.pack (FU t' n' X0 st s) (.help t' n' X0) 0 1 (mT t' n' X0) [1] (by kernel_rfl) rfl (congrArg (Prod.mk 1) (FP (hat hd))) (by kernel_rfl))),h⟩⟩
theorem S9{t n:Int} :bS (obI tbl) 4 (Z2 t n) (HpO.fin t n):=by
 intro v g p x hp hq K hK;unfold Z2 at hp;split at hp
 case h_2=>cases hp
 rename_i d u no rounds limit at' found sh kd ky p_now p_code p_okk p_val p_addr p_old p_nxt p_mark p_pops e1 e3 e4 t' n' sub e2;split at hp
 case h_2=>cases hp
 rename_i l2 t2 n2 st l s hs hm;simp only [sI',pI']at hp;obtain⟨rfl,rfl⟩:=hp;obtain⟨⟨rfl,rfl⟩,rfl,rfl,hat,hl,hl2⟩:=hq;have hh:=bB hm hl;cases hh;have hh:=cB hs hl2;cases hh;refine eV hK (fun h=>?_) (fun hd h=>?_)
 ·exact⟨⟨_,_,(aF.weak (bZ _ 0 [19,20,21,22,23])).trans ((aF.pick [0,1,2,3,5] rfl).trans ((aEH (g2:=aM (JS t' n' (⟨u,no,rounds,limit,at',found,sh,kd,ky,⟨p_now,p_code,p_okk,p_val,p_addr,p_old,p_nxt,p_mark,p_pops⟩,cI,sub,aQ,⟨0,0,0,0⟩,⟨0,0,0,false⟩⟩:HPS) st s) 1 0 (dD t' n' st) []) (by kernel_rfl) (by kernel_rfl)).trans (aF.pack (JS t' n' (⟨u,no,rounds,limit,at',found,sh,kd,ky,⟨p_now,p_code,p_okk,p_val,p_addr,p_old,p_nxt,p_mark,p_pops⟩,cI,sub,aQ,⟨0,0,0,0⟩,⟨0,0,0,false⟩⟩:HPS) st s) (.store t' n' st) 1 0 (dD t' n' st) [] (by kernel_rfl) rfl rfl (by kernel_rfl)))),h⟩⟩
 ·exact let X0:HPS:=⟨u,no,rounds,limit,at',found,sh,kd,ky,⟨p_now,p_code,p_okk,p_val,p_addr,p_old,p_nxt,p_mark,p_pops⟩,cI,sub,aQ,⟨0,0,0,0⟩,⟨0,0,0,false⟩⟩;⟨⟨_,_,((aF.pack (aM (FU t' n' X0 st s) 0 1 (mS t' n' X0) [1]) (.store t' n' st) 1 0 (dD t' n' st) [] (by kernel_rfl) rfl rfl (by kernel_rfl)).trans (aF.pack (FU t' n' X0 st s) (.help t' n' X0) 0 1 (mS t' n' X0) [1] (by kernel_rfl) rfl (congrArg (Prod.mk 1) (FQ (hat hd))) (by kernel_rfl))),h⟩⟩
theorem TA{t n:Int} :bS (obI tbl) 4 (Z3 t n) (HpO.fin t n):=by
 intro v g p x hp hq K hK;unfold Z3 at hp;split at hp
 case h_2=>cases hp
 rename_i d u no rounds limit at' found sh kd ky p_now p_code p_okk p_val p_addr p_old p_nxt p_mark p_pops e1 e3 e4 t' n' sub e2;split at hp
 case h_2=>cases hp
 rename_i l2 t2 n2 st l s hs hm;simp only [sI',pI']at hp;obtain⟨rfl,rfl⟩:=hp;obtain⟨⟨rfl,rfl⟩,rfl,rfl,hat,hl,hl2⟩:=hq;have hh:=bB hm hl;cases hh;have hh:=cB hs hl2;cases hh;refine eV hK (fun h=>?_) (fun hd h=>?_)
 ·exact⟨⟨_,_,(aF.weak (bZ _ 0 [19,20,21,22,23])).trans ((aF.pick [0,1,2,3,5] rfl).trans ((aEH (g2:=aM (JS t' n' (⟨u,no,rounds,limit,at',found,sh,kd,ky,⟨p_now,p_code,p_okk,p_val,p_addr,p_old,p_nxt,p_mark,p_pops⟩,cI,aU,sub,⟨0,0,0,0⟩,⟨0,0,0,false⟩⟩:HPS) st s) 1 0 (dD t' n' st) []) (by kernel_rfl) (by kernel_rfl)).trans (aF.pack (JS t' n' (⟨u,no,rounds,limit,at',found,sh,kd,ky,⟨p_now,p_code,p_okk,p_val,p_addr,p_old,p_nxt,p_mark,p_pops⟩,cI,aU,sub,⟨0,0,0,0⟩,⟨0,0,0,false⟩⟩:HPS) st s) (.store t' n' st) 1 0 (dD t' n' st) [] (by kernel_rfl) rfl rfl (by kernel_rfl)))),h⟩⟩
 ·exact let X0:HPS:=⟨u,no,rounds,limit,at',found,sh,kd,ky,⟨p_now,p_code,p_okk,p_val,p_addr,p_old,p_nxt,p_mark,p_pops⟩,cI,aU,sub,⟨0,0,0,0⟩,⟨0,0,0,false⟩⟩;⟨⟨_,_,((aF.pack (aM (FU t' n' X0 st s) 0 1 (mU t' n' X0) [1]) (.store t' n' st) 1 0 (dD t' n' st) [] (by kernel_rfl) rfl rfl (by kernel_rfl)).trans (aF.pack (FU t' n' X0 st s) (.help t' n' X0) 0 1 (mU t' n' X0) [1] (by kernel_rfl) rfl (congrArg (Prod.mk 1) (FR (hat hd))) (by kernel_rfl))),h⟩⟩
theorem TB{t n:Int} :bS (obI tbl) 4 (Z4 t n) (HpO.fin t n):=by
 intro v g p x hp hq K hK;unfold Z4 at hp;split at hp
 case h_2=>cases hp
 rename_i d u no rounds limit at' found sh kd ky p_now p_code p_okk p_val p_addr p_old p_nxt p_mark p_pops e1 e3 e4 t' n' sub e2;split at hp
 case h_2=>cases hp
 rename_i l2 t2 n2 st l s hs hm;simp only [sI',pI']at hp;obtain⟨rfl,rfl⟩:=hp;obtain⟨⟨rfl,rfl⟩,rfl,rfl,hat,hl,hl2⟩:=hq;have hh:=bB hm hl;cases hh;have hh:=cB hs hl2;cases hh;refine eV hK (fun h=>?_) (fun hd h=>?_)
 ·exact⟨⟨_,_,(aF.weak (bZ _ 0 [19,20,21,22,23])).trans ((aF.pick [0,1,2,3,5] rfl).trans ((aEH (g2:=aM (JS t' n' (⟨u,no,rounds,limit,at',found,sh,kd,ky,⟨p_now,p_code,p_okk,p_val,p_addr,p_old,p_nxt,p_mark,p_pops⟩,cI,aU,aQ,sub,⟨0,0,0,false⟩⟩:HPS) st s) 1 0 (dD t' n' st) []) (by kernel_rfl) (by kernel_rfl)).trans (aF.pack (JS t' n' (⟨u,no,rounds,limit,at',found,sh,kd,ky,⟨p_now,p_code,p_okk,p_val,p_addr,p_old,p_nxt,p_mark,p_pops⟩,cI,aU,aQ,sub,⟨0,0,0,false⟩⟩:HPS) st s) (.store t' n' st) 1 0 (dD t' n' st) [] (by kernel_rfl) rfl rfl (by kernel_rfl)))),h⟩⟩
 ·exact let X0:HPS:=⟨u,no,rounds,limit,at',found,sh,kd,ky,⟨p_now,p_code,p_okk,p_val,p_addr,p_old,p_nxt,p_mark,p_pops⟩,cI,aU,aQ,sub,⟨0,0,0,false⟩⟩;⟨⟨_,_,((aF.pack (aM (FU t' n' X0 st s) 0 1 (mR t' n' X0) [1]) (.store t' n' st) 1 0 (dD t' n' st) [] (by kernel_rfl) rfl rfl (by kernel_rfl)).trans (aF.pack (FU t' n' X0 st s) (.help t' n' X0) 0 1 (mR t' n' X0) [1] (by kernel_rfl) rfl (congrArg (Prod.mk 1) (FS (hat hd))) (by kernel_rfl))),h⟩⟩
theorem TC{t n:Int} :bS (obI tbl) 4 (Z5 t n) (HpO.fin t n):=by
 intro v g p x hp hq K hK;unfold Z5 at hp;split at hp
 case h_2=>cases hp
 rename_i d u no rounds limit at' found sh kd ky p_now p_code p_okk p_val p_addr p_old p_nxt p_mark p_pops e1 e3 e4 t' n' sub e2;split at hp
 case h_2=>cases hp
 rename_i l2 t2 n2 st l s hs hm;simp only [sI',pI']at hp;obtain⟨rfl,rfl⟩:=hp;obtain⟨⟨rfl,rfl⟩,rfl,rfl,hat,hl,hl2⟩:=hq;have hh:=bB hm hl;cases hh;have hh:=cB hs hl2;cases hh;refine eV hK (fun h=>?_) (fun hd h=>?_)
 ·exact⟨⟨_,_,(aF.weak (bZ _ 0 [19,20,21,22,23])).trans ((aF.pick [0,1,2,3,5] rfl).trans ((aEH (g2:=aM (JS t' n' (⟨u,no,rounds,limit,at',found,sh,kd,ky,⟨p_now,p_code,p_okk,p_val,p_addr,p_old,p_nxt,p_mark,p_pops⟩,cI,aU,aQ,⟨0,0,0,0⟩,sub⟩:HPS) st s) 1 0 (dD t' n' st) []) (by kernel_rfl) (by kernel_rfl)).trans (aF.pack (JS t' n' (⟨u,no,rounds,limit,at',found,sh,kd,ky,⟨p_now,p_code,p_okk,p_val,p_addr,p_old,p_nxt,p_mark,p_pops⟩,cI,aU,aQ,⟨0,0,0,0⟩,sub⟩:HPS) st s) (.store t' n' st) 1 0 (dD t' n' st) [] (by kernel_rfl) rfl rfl (by kernel_rfl)))),h⟩⟩
 ·exact let X0:HPS:=⟨u,no,rounds,limit,at',found,sh,kd,ky,⟨p_now,p_code,p_okk,p_val,p_addr,p_old,p_nxt,p_mark,p_pops⟩,cI,aU,aQ,⟨0,0,0,0⟩,sub⟩;⟨⟨_,_,((aF.pack (aM (FU t' n' X0 st s) 0 1 (mV t' n' X0) [1]) (.store t' n' st) 1 0 (dD t' n' st) [] (by kernel_rfl) rfl rfl (by kernel_rfl)).trans (aF.pack (FU t' n' X0 st s) (.help t' n' X0) 0 1 (mV t' n' X0) [1] (by kernel_rfl) rfl (congrArg (Prod.mk 1) (FT (hat hd))) (by kernel_rfl))),h⟩⟩
theorem kY{t n:Int} :bS (obI tbl) 4 (u4 t n) (HpO.fin t n):=by
 intro v g p x hp hq K hK;unfold u4 at hp;split at hp
 ·rename_i r hr;cases hp;exact S7 v g p x hr hq K hK
 split at hp
 ·rename_i r hr;cases hp;exact S8 v g p x hr hq K hK
 split at hp
 ·rename_i r hr;cases hp;exact S9 v g p x hr hq K hK
 split at hp
 ·rename_i r hr;cases hp;exact TA v g p x hr hq K hK
 split at hp
 ·rename_i r hr;cases hp;exact TB v g p x hr hq K hK
 exact TC v g p x hp hq K hK
abbrev w1y(n t:Int)(x:HPS):=(((0:Int)≤t∧t≤(100000:Int))∧((0:Int)≤n∧n≤(100000:Int))∧(-1099511627776:Int)≤x.1∧x.1≤(1099511627776:Int))∧True
def BG(t n:Int)(x:HPS)(st:STS)(s:MS):Tr HpO:=.pre (w1y n t x) (.pre ((lE' s.3∧(0:Int)≤s.4∧s.4≤(4611686018427387904:Int))∧True) (.pre True (.pre True (.pre ((t=t∧n=n)∧((!nA (aA (aC s.3 (2*n+5+2*t+3*x.1+2)) 49 3))=false→(1:Int)≠(3:Int)∧(1:Int)≠(4:Int)∧(1:Int)≠(5:Int)∧(1:Int)≠(7:Int)∧(1:Int)≠(8:Int))∧lE' s.3∧lE' st.3) (.ret {d:=!nA (aA (aC s.3 (2*n+5+2*t+3*x.1+2)) 49 3),x:= {x with rounds:=W (x.3+1),at':=1,found:=aC s.3 (2*n+5+2*t+3*x.1+2),ex:=cI,en:=aU,fn:=aQ,cl:=b9,pr:=dF},st:=st,s:= {s with c:=s.4+1,k:=1,a:=2*n+5+2*t+3*x.1+2,o:=aC s.3 (2*n+5+2*t+3*x.1+2),w:=aC s.3 (2*n+5+2*t+3*x.1+2),ok:=bQ s.3 (2*n+5+2*t+3*x.1+2) } })))))
theorem H9(t n:Int)(x:HPS)(st:STS)(s:MS)(K:HpO→Prop)(h:(BG t n x st s).run K):cT' 152 [.ptr 0 0,.ptr 2 0] [cE' [.ptr 1 0,.I x.u,.int .u64 x.no,.I x.rounds,.I x.limit,.I 0,.int .u64 x.found,.I x.sh,.I x.kd,.I x.ky,.bool x.p.now,.I x.p.code,.bool x.p.okk,.I x.p.val,.I x.p.addr,.int .u64 x.p.old,.I x.p.nxt,.bool x.p.mark,.I x.p.pops,.O,.O,.O,.O,.O],iT 4 t n st,bE 3 s,bF s,iU st] (bM 4 0 [19,20,21,22,23] [(.cell 1 4,.ints (some .i64))] (u4 t n) K):=by
 exact cM' (E:=EH0) (by kernel_rfl) h
def BH(t n:Int)(x:HPS)(st:STS)(s:MS):Tr HpO:=.pre (w1y n t x) (.pre ((lE' s.3∧(0:Int)≤s.4∧s.4≤(4611686018427387904:Int))∧True) (.pre ((t=t∧n=n)∧((!ieq (aC s.3 (2*n+5+2*t+3*x.1)) x.2)=false→(2:Int)≠(3:Int)∧(2:Int)≠(4:Int)∧(2:Int)≠(5:Int)∧(2:Int)≠(7:Int)∧(2:Int)≠(8:Int))∧lE' s.3∧lE' st.3) (.ret {d:=!ieq (aC s.3 (2*n+5+2*t+3*x.1)) x.2,x:= {x with at':=2,ex:=cI,en:=aU,fn:=aQ,cl:=b9,pr:=dF},st:=st,s:= {s with c:=s.4+1,k:=1,a:=2*n+5+2*t+3*x.1,o:=aC s.3 (2*n+5+2*t+3*x.1),w:=aC s.3 (2*n+5+2*t+3*x.1),ok:=bQ s.3 (2*n+5+2*t+3*x.1) } })))
theorem IA(t n:Int)(x:HPS)(st:STS)(s:MS)(K:HpO→Prop)(h:(BH t n x st s).run K):cT' 152 [.ptr 0 0,.ptr 2 0] [cE' [.ptr 1 0,.I x.u,.int .u64 x.no,.I x.rounds,.I x.limit,.I 1,.int .u64 x.found,.I x.sh,.I x.kd,.I x.ky,.bool x.p.now,.I x.p.code,.bool x.p.okk,.I x.p.val,.I x.p.addr,.int .u64 x.p.old,.I x.p.nxt,.bool x.p.mark,.I x.p.pops,.O,.O,.O,.O,.O],iT 4 t n st,bE 3 s,bF s,iU st] (bM 4 0 [19,20,21,22,23] [(.cell 1 4,.ints (some .i64))] (u4 t n) K):=by
 exact cM' (E:=EH0) (by kernel_rfl) h
abbrev w1u(n:Int)(s:MS)(t:Int)(x:HPS):=aC s.3 (2*n+5+2*t+3*x.1+1)
abbrev w21:=false=false→(5:Int)=(5:Int)
def BI(t n:Int)(x:HPS)(st:STS)(s:MS):Tr HpO:=.pre (w1y n t x) (.pre ((lE' s.3∧(0:Int)≤s.4∧s.4≤(4611686018427387904:Int))∧True) (.pre ((0:Int)≤aC s.3 (2*n+5+2*t+3*x.1+1)∧aC s.3 (2*n+5+2*t+3*x.1+1)≤(18446744073709551615:Int)) (.ite (!ieq (bif iO (w1u n s t x)then 0 else 3) 0) (.pre ((t=t∧n=n)∧(true=false→(2:Int)≠(3:Int)∧(2:Int)≠(4:Int)∧(2:Int)≠(5:Int)∧(2:Int)≠(7:Int)∧(2:Int)≠(8:Int))∧lE' s.3∧lE' st.3) (.ret {d:=true,x:= {x with at':=2,sh:=bif iO (w1u n s t x)then aA (w1u n s t x) 0 3 else 0,kd:=bif iO (w1u n s t x)then aA (w1u n s t x) 3 3 else 0,ky:=bif iO (w1u n s t x)then aA (w1u n s t x) 6 10 else 0,ex:=cI,en:=aU,fn:=aQ,cl:=b9,pr:=dF},st:=st,s:= {s with c:=s.4+1,k:=1,a:=2*n+5+2*t+3*x.1+1,o:=aC s.3 (2*n+5+2*t+3*x.1+1),w:=aC s.3 (2*n+5+2*t+3*x.1+1),ok:=bQ s.3 (2*n+5+2*t+3*x.1+1) } })) (.pre True (.ite (!hasB [1] (aA x.6 49 3)) (.pre True (.pre (LC t n x.1 (bif iO (w1u n s t x)then aA (w1u n s t x) 0 3 else 0) (bif iO (w1u n s t x)then aA (w1u n s t x) 3 3 else 0) (bif iO (w1u n s t x)then aA (w1u n s t x) 6 10 else 0) (aA x.6 0 12)∧True) (.pre ((t=t∧n=n)∧t=t∧n=n∧(false=false→(3:Int)=(3:Int))∧lE' s.3∧lE' st.3) (.ret {d:=false,x:= {x with at':=3,sh:=bif iO (w1u n s t x)then aA (w1u n s t x) 0 3 else 0,kd:=bif iO (w1u n s t x)then aA (w1u n s t x) 3 3 else 0,ky:=bif iO (w1u n s t x)then aA (w1u n s t x) 6 10 else 0,ex:=YS t n x.1 (bif iO (w1u n s t x)then aA (w1u n s t x) 0 3 else 0) (bif iO (w1u n s t x)then aA (w1u n s t x) 3 3 else 0) (bif iO (w1u n s t x)then aA (w1u n s t x) 6 10 else 0) (aA x.6 0 12),en:=aU,fn:=aQ,cl:=b9,pr:=dF},st:=st,s:= {s with c:=s.4+1,k:=1,a:=2*n+5+2*t+3*x.1+1,o:=aC s.3 (2*n+5+2*t+3*x.1+1),w:=aC s.3 (2*n+5+2*t+3*x.1+1),ok:=bQ s.3 (2*n+5+2*t+3*x.1+1) } })))) (.pre True (.ite (fT (bif iO (w1u n s t x)then aA (w1u n s t x) 3 3 else 0)) (.ite (ieq st.2 0) (.pre (lE' st.3∧(t=t∧n=n∧lE' st.3)∧True) (.pre ((t=t∧n=n)∧t=t∧n=n∧(false=false→(4:Int)=(4:Int))∧lE' s.3∧lE' st.3) (.ret {d:=false,x:= {x with at':=4,sh:=bif iO (w1u n s t x)then aA (w1u n s t x) 0 3 else 0,kd:=bif iO (w1u n s t x)then aA (w1u n s t x) 3 3 else 0,ky:=bif iO (w1u n s t x)then aA (w1u n s t x) 6 10 else 0,ex:=cI,en:=aU,fn:=aQ,cl:=b9,pr:=dF},st:=st,s:= {s with c:=s.4+1,k:=1,a:=2*n+5+2*t+3*x.1+1,o:=aC s.3 (2*n+5+2*t+3*x.1+1),w:=aC s.3 (2*n+5+2*t+3*x.1+1),ok:=bQ s.3 (2*n+5+2*t+3*x.1+1) } }))) (.pre True (.pre (oC t n st.1 (eU (bif iO (w1u n s t x)then aA (w1u n s t x) 0 3 else 0) (bif iO (w1u n s t x)then aA (w1u n s t x) 6 10 else 0)) (lV (bif iO (w1u n s t x)then aA (w1u n s t x) 0 3 else 0) (bif iO (w1u n s t x)then aA (w1u n s t x) 3 3 else 0) (bif iO (w1u n s t x)then aA (w1u n s t x) 6 10 else 0)) x.4∧True) (.pre ((t=t∧n=n)∧t=t∧n=n∧w21∧lE' s.3∧lE' st.3) (.ret {d:=false,x:= {x with at':=5,sh:=bif iO (w1u n s t x)then aA (w1u n s t x) 0 3 else 0,kd:=bif iO (w1u n s t x)then aA (w1u n s t x) 3 3 else 0,ky:=bif iO (w1u n s t x)then aA (w1u n s t x) 6 10 else 0,ex:=cI,en:=aU,fn:=tP t n st.1 (eU (bif iO (w1u n s t x)then aA (w1u n s t x) 0 3 else 0) (bif iO (w1u n s t x)then aA (w1u n s t x) 6 10 else 0)) (lV (bif iO (w1u n s t x)then aA (w1u n s t x) 0 3 else 0) (bif iO (w1u n s t x)then aA (w1u n s t x) 3 3 else 0) (bif iO (w1u n s t x)then aA (w1u n s t x) 6 10 else 0)) x.4,cl:=b9,pr:=dF},st:=st,s:= {s with c:=s.4+1,k:=1,a:=2*n+5+2*t+3*x.1+1,o:=aC s.3 (2*n+5+2*t+3*x.1+1),w:=aC s.3 (2*n+5+2*t+3*x.1+1),ok:=bQ s.3 (2*n+5+2*t+3*x.1+1) } }))))) (.pre True (.pre (oC t n st.1 (eU (bif iO (w1u n s t x)then aA (w1u n s t x) 0 3 else 0) (bif iO (w1u n s t x)then aA (w1u n s t x) 6 10 else 0)) (lV (bif iO (w1u n s t x)then aA (w1u n s t x) 0 3 else 0) (bif iO (w1u n s t x)then aA (w1u n s t x) 3 3 else 0) (bif iO (w1u n s t x)then aA (w1u n s t x) 6 10 else 0)) x.4∧True) (.pre ((t=t∧n=n)∧t=t∧n=n∧w21∧lE' s.3∧lE' st.3) (.ret {d:=false,x:= {x with at':=5,sh:=bif iO (w1u n s t x)then aA (w1u n s t x) 0 3 else 0,kd:=bif iO (w1u n s t x)then aA (w1u n s t x) 3 3 else 0,ky:=bif iO (w1u n s t x)then aA (w1u n s t x) 6 10 else 0,ex:=cI,en:=aU,fn:=tP t n st.1 (eU (bif iO (w1u n s t x)then aA (w1u n s t x) 0 3 else 0) (bif iO (w1u n s t x)then aA (w1u n s t x) 6 10 else 0)) (lV (bif iO (w1u n s t x)then aA (w1u n s t x) 0 3 else 0) (bif iO (w1u n s t x)then aA (w1u n s t x) 3 3 else 0) (bif iO (w1u n s t x)then aA (w1u n s t x) 6 10 else 0)) x.4,cl:=b9,pr:=dF},st:=st,s:= {s with c:=s.4+1,k:=1,a:=2*n+5+2*t+3*x.1+1,o:=aC s.3 (2*n+5+2*t+3*x.1+1),w:=aC s.3 (2*n+5+2*t+3*x.1+1),ok:=bQ s.3 (2*n+5+2*t+3*x.1+1) } })))))))))))
theorem IB(t n:Int)(x:HPS)(st:STS)(s:MS)(K:HpO→Prop)(h:(BI t n x st s).run K):cT' 152 [.ptr 0 0,.ptr 2 0] [cE' [.ptr 1 0,.I x.u,.int .u64 x.no,.I x.rounds,.I x.limit,.I 2,.int .u64 x.found,.I x.sh,.I x.kd,.I x.ky,.bool x.p.now,.I x.p.code,.bool x.p.okk,.I x.p.val,.I x.p.addr,.int .u64 x.p.old,.I x.p.nxt,.bool x.p.mark,.I x.p.pops,.O,.O,.O,.O,.O],iT 4 t n st,bE 3 s,bF s,iU st] (bM 4 0 [19,20,21,22,23] [(.cell 1 4,.ints (some .i64))] (u4 t n) K):=by
 exact cM' (E:=EH0) (by kernel_rfl) h
abbrev w1w:=false=false→(0:Int)≠(3:Int)∧(0:Int)≠(4:Int)∧(0:Int)≠(5:Int)∧(0:Int)≠(7:Int)∧(0:Int)≠(8:Int)
def BJ(t n:Int)(x:HPS)(st:STS)(s:MS):Tr HpO:=.pre (lE' s.3∧YW t n x.11 s) (.ite (zZ t n x.11 s).1 (.ite (!ieq (ExO.x (zZ t n x.11 s)).1 0) (.pre (lE' st.3∧1=1∧st.3.length+(1:Nat)≤(4294967296:Nat)) (.pre ((t=t∧n=n)∧w1w∧lE' (ExO.s (zZ t n x.11 s)).3∧st.3.length+(1:Nat)=List.length (st.3++ [(ExO.x (zZ t n x.11 s)).1])) (.ret {d:=false,x:= {x with at':=0,ex:=cI,en:=aU,fn:=aQ,cl:=b9,pr:=dF},st:= {me:=st.1,sp:=st.2,R:=st.3++ [(ExO.x (zZ t n x.11 s)).1] },s:=(zZ t n x.11 s).3}))) (.pre ((t=t∧n=n)∧w1w∧lE' (ExO.s (zZ t n x.11 s)).3∧lE' st.3) (.ret {d:=false,x:= {x with at':=0,ex:=cI,en:=aU,fn:=aQ,cl:=b9,pr:=dF},st:=st,s:=(zZ t n x.11 s).3}))) (.pre ((t=t∧n=n)∧t=t∧n=n∧(false=false→(3:Int)=(3:Int))∧lE' (ExO.s (zZ t n x.11 s)).3∧lE' st.3) (.ret {d:=false,x:= {x with at':=3,ex:=(zZ t n x.11 s).2,en:=aU,fn:=aQ,cl:=b9,pr:=dF},st:=st,s:=(zZ t n x.11 s).3})))
theorem IC(t n:Int)(x:HPS)(st:STS)(s:MS)(K:HpO→Prop)(h:(BJ t n x st s).run K):cT' 152 [.ptr 0 0,.ptr 2 0] [cE' [.ptr 1 0,.I x.u,.int .u64 x.no,.I x.rounds,.I x.limit,.I 3,.int .u64 x.found,.I x.sh,.I x.kd,.I x.ky,.bool x.p.now,.I x.p.code,.bool x.p.okk,.I x.p.val,.I x.p.addr,.int .u64 x.p.old,.I x.p.nxt,.bool x.p.mark,.I x.p.pops,.ptr 4 0,.O,.O,.O,.O],iT 5 t n st,bE 3 s,bF s,some (.abs (.exec t n x.ex) []),iU st] (bM 4 0 [19,20,21,22,23] [(.cell 1 4,.ints (some .i64))] (u4 t n) K):=by
 exact cM' (E:=EH0) (by kernel_rfl) h
abbrev w1z:=false=false→(6:Int)≠(3:Int)∧(6:Int)≠(4:Int)∧(6:Int)≠(5:Int)∧(6:Int)≠(7:Int)∧(6:Int)≠(8:Int)
def BK(t n:Int)(x:HPS)(st:STS)(s:MS):Tr HpO:=.pre ((lE' s.3∧lE' st.3∧t=t∧n=n)∧IP t n (HPS.en x) st s) (.ite (enF t n x.12 st s).1 (.ite (EO.e (enF t n x.12 st s)).2 (.pre ((t=t∧n=n)∧w1z∧lE' (EO.s (enF t n x.12 st s)).3∧lE' (EO.st (enF t n x.12 st s)).3) (.ret {d:=false,x:= {x with at':=6,p:= {now:=true,code:=4,okk:=false,val:=0,addr:=0,old:=0,nxt:=0,mark:=false,pops:=0},ex:=cI,en:=aU,fn:=aQ,cl:=b9,pr:=dF},st:=(enF t n x.12 st s).3,s:=(enF t n x.12 st s).4})) (.pre True (.pre (oC t n (EO.st (enF t n x.12 st s)).1 (eU x.7 x.9) (lV x.7 x.8 x.9) x.4∧True) (.pre ((t=t∧n=n)∧t=t∧n=n∧w21∧lE' (EO.s (enF t n x.12 st s)).3∧lE' (EO.st (enF t n x.12 st s)).3) (.ret {d:=false,x:= {x with at':=5,ex:=cI,en:=aU,fn:=tP t n (EO.st (enF t n x.12 st s)).1 (eU x.7 x.9) (lV x.7 x.8 x.9) x.4,cl:=b9,pr:=dF},st:=(enF t n x.12 st s).3,s:=(enF t n x.12 st s).4}))))) (.pre ((t=t∧n=n)∧t=t∧n=n∧(false=false→(4:Int)=(4:Int))∧lE' (EO.s (enF t n x.12 st s)).3∧lE' (EO.st (enF t n x.12 st s)).3) (.ret {d:=false,x:= {x with at':=4,ex:=cI,en:=(enF t n x.12 st s).2,fn:=aQ,cl:=b9,pr:=dF},st:=(enF t n x.12 st s).3,s:=(enF t n x.12 st s).4})))
theorem ID(t n:Int)(x:HPS)(st:STS)(s:MS)(K:HpO→Prop)(h:(BK t n x st s).run K):cT' 152 [.ptr 0 0,.ptr 2 0] [cE' [.ptr 1 0,.I x.u,.int .u64 x.no,.I x.rounds,.I x.limit,.I 4,.int .u64 x.found,.I x.sh,.I x.kd,.I x.ky,.bool x.p.now,.I x.p.code,.bool x.p.okk,.I x.p.val,.I x.p.addr,.int .u64 x.p.old,.I x.p.nxt,.bool x.p.mark,.I x.p.pops,.O,.ptr 4 0,.O,.O,.O],iT 5 t n st,bE 3 s,bF s,some (.abs (.ensure t n x.en) [1]),iU st] (bM 4 0 [19,20,21,22,23] [(.cell 1 4,.ints (some .i64))] (u4 t n) K):=by
 exact cM' (E:=EH0) (by kernel_rfl) h
abbrev w1x(n:Int)(s:MS)(t:Int)(x:HPS):=FnO.x (aN t n x.13 s)
abbrev w1t(n:Int)(s:MS)(st:STS)(t:Int)(x:HPS):=bJ x.7 x.8 x.9 (w1x n s t x).1 (w1x n s t x).2 (w1x n s t x).3 (w1x n s t x).4 st.2
abbrev w20:=false=false→(9:Int)≠(3:Int)∧(9:Int)≠(4:Int)∧(9:Int)≠(5:Int)∧(9:Int)≠(7:Int)∧(9:Int)≠(8:Int)
def BL(t n:Int)(x:HPS)(st:STS)(s:MS):Tr HpO:=.pre (lE' s.3∧HW t n x.13 s) (.ite (aN t n x.13 s).1 (.pre ((lE' st.3∧lE' (w1x n s t x).6∧st.3.length+List.length (w1x n s t x).6≤(4294967296:Nat))∧True) (.pre (uE x.7 x.8 x.9 (w1x n s t x).1 (w1x n s t x).2 (w1x n s t x).3 (w1x n s t x).4 st.2∧True) (.ite (w1x n s t x).7 (.pre ((t=t∧n=n)∧w1w∧lE' (FnO.s (aN t n x.13 s)).3∧st.3.length+List.length (w1x n s t x).6=List.length (st.3++(w1x n s t x).6)) (.ret {d:=false,x:= {x with at':=0,p:=bJ x.7 x.8 x.9 (w1x n s t x).1 (w1x n s t x).2 (w1x n s t x).3 (w1x n s t x).4 st.2,ex:=cI,en:=aU,fn:=aQ,cl:=b9,pr:=dF},st:= {me:=st.1,sp:=st.2,R:=st.3++(w1x n s t x).6},s:=(aN t n x.13 s).3})) (.ite (w1t n s st t x).1 (.pre ((t=t∧n=n)∧w1z∧lE' (FnO.s (aN t n x.13 s)).3∧st.3.length+List.length (w1x n s t x).6=List.length (st.3++(w1x n s t x).6)) (.ret {d:=false,x:= {x with at':=6,p:=bJ x.7 x.8 x.9 (w1x n s t x).1 (w1x n s t x).2 (w1x n s t x).3 (w1x n s t x).4 st.2,ex:=cI,en:=aU,fn:=aQ,cl:=b9,pr:=dF},st:= {me:=st.1,sp:=st.2,R:=st.3++(w1x n s t x).6},s:=(aN t n x.13 s).3})) (.pre (nV (w1t n s st t x).1 (w1t n s st t x).2 (w1t n s st t x).3 (w1t n s st t x).4 (w1t n s st t x).5 (w1t n s st t x).6 (w1t n s st t x).7 (w1t n s st t x).8 (w1t n s st t x).9) (.ite (x1 (w1t n s st t x).1 (w1t n s st t x).2 (w1t n s st t x).3 (w1t n s st t x).4 (w1t n s st t x).5 (w1t n s st t x).6 (w1t n s st t x).7 (w1t n s st t x).8 (w1t n s st t x).9) (.pre (pF t n (w1t n s st t x).5∧True) (.pre ((t=t∧n=n)∧t=t∧n=n∧(false=false→(7:Int)=(7:Int))∧lE' (FnO.s (aN t n x.13 s)).3∧st.3.length+List.length (w1x n s t x).6=List.length (st.3++(w1x n s t x).6)) (.ret {d:=false,x:= {x with at':=7,p:=bJ x.7 x.8 x.9 (w1x n s t x).1 (w1x n s t x).2 (w1x n s t x).3 (w1x n s t x).4 st.2,ex:=cI,en:=aU,fn:=aQ,cl:=xD t n (w1t n s st t x).5,pr:=dF},st:= {me:=st.1,sp:=st.2,R:=st.3++(w1x n s t x).6},s:=(aN t n x.13 s).3}))) (.pre True (.ite (fT x.8) (.pre ((st.3.length+List.length (w1x n s t x).6=List.length (st.3++(w1x n s t x).6)∧B8 t n x.9 (w1x n s t x).3 {me:=st.1,sp:=st.2,R:=st.3++(w1x n s t x).6})∧True) (.pre ((t=t∧n=n)∧t=t∧n=n∧(false=false→(8:Int)=(8:Int))∧lE' (FnO.s (aN t n x.13 s)).3∧lE' (Prod.snd (p5 t n x.9 (w1x n s t x).3 {me:=st.1,sp:=st.2,R:=st.3++(w1x n s t x).6})).3) (.ret {d:=false,x:= {x with at':=8,p:=bJ x.7 x.8 x.9 (w1x n s t x).1 (w1x n s t x).2 (w1x n s t x).3 (w1x n s t x).4 st.2,ex:=cI,en:=aU,fn:=aQ,cl:=b9,pr:=(p5 t n x.9 (w1x n s t x).3 {me:=st.1,sp:=st.2,R:=st.3++(w1x n s t x).6}).1},st:=(p5 t n x.9 (w1x n s t x).3 {me:=st.1,sp:=st.2,R:=st.3++(w1x n s t x).6}).2,s:=(aN t n x.13 s).3}))) (.pre ((t=t∧n=n)∧w20∧lE' (FnO.s (aN t n x.13 s)).3∧st.3.length+List.length (w1x n s t x).6=List.length (st.3++(w1x n s t x).6)) (.ret {d:=false,x:= {x with at':=9,p:=bJ x.7 x.8 x.9 (w1x n s t x).1 (w1x n s t x).2 (w1x n s t x).3 (w1x n s t x).4 st.2,ex:=cI,en:=aU,fn:=aQ,cl:=b9,pr:=dF},st:= {me:=st.1,sp:=st.2,R:=st.3++(w1x n s t x).6},s:=(aN t n x.13 s).3})))))))))) (.pre ((t=t∧n=n)∧t=t∧n=n∧w21∧lE' (FnO.s (aN t n x.13 s)).3∧lE' st.3) (.ret {d:=false,x:= {x with at':=5,ex:=cI,en:=aU,fn:=(aN t n x.13 s).2,cl:=b9,pr:=dF},st:=st,s:=(aN t n x.13 s).3})))
theorem IE(t n:Int)(x:HPS)(st:STS)(s:MS)(K:HpO→Prop)(h:(BL t n x st s).run K):cT' 152 [.ptr 0 0,.ptr 2 0] [cE' [.ptr 1 0,.I x.u,.int .u64 x.no,.I x.rounds,.I x.limit,.I 5,.int .u64 x.found,.I x.sh,.I x.kd,.I x.ky,.bool x.p.now,.I x.p.code,.bool x.p.okk,.I x.p.val,.I x.p.addr,.int .u64 x.p.old,.I x.p.nxt,.bool x.p.mark,.I x.p.pops,.O,.O,.ptr 4 0,.O,.O],iT 5 t n st,bE 3 s,bF s,some (.abs (.find t n x.fn) []),iU st] (bM 4 0 [19,20,21,22,23] [(.cell 1 4,.ints (some .i64))] (u4 t n) K):=by
 exact cM' (E:=EH0) (by kernel_rfl) h
def BM(t n:Int)(x:HPS)(st:STS)(s:MS):Tr HpO:=.pre True (.pre True (.pre True (.pre (w1y n t x) (.pre ((lE' s.3∧(0:Int)≤s.4∧s.4≤(4611686018427387904:Int))∧True) (.pre ((t=t∧n=n)∧w1w∧lE' (bif aT s.3 (2*n+5+2*t+3*x.1+2) x.6 then aV s.3 (2*n+5+2*t+3*x.1+2) (bif dOk (aA x.6 0 12) 0 0 (bif ieq (HPS.p x).2 4 then 1 else 0) 5 (HPS.p x).4 then cJ (aA x.6 0 12) 0 0 (bif ieq (HPS.p x).2 4 then 1 else 0) (HPS.p x).3 5 (HPS.p x).4 else 0)else s.3)∧lE' st.3) (.ret {d:=false,x:= {x with at':=0,ex:=cI,en:=aU,fn:=aQ,cl:=b9,pr:=dF},st:=st,s:= {t:=s.1,n:=s.2,xs:=bif aT s.3 (2*n+5+2*t+3*x.1+2) x.6 then aV s.3 (2*n+5+2*t+3*x.1+2) (bif dOk (aA x.6 0 12) 0 0 (bif ieq (HPS.p x).2 4 then 1 else 0) 5 (HPS.p x).4 then cJ (aA x.6 0 12) 0 0 (bif ieq (HPS.p x).2 4 then 1 else 0) (HPS.p x).3 5 (HPS.p x).4 else 0)else s.3,c:=s.4+1,k:=3,a:=2*n+5+2*t+3*x.1+2,o:=aC s.3 (2*n+5+2*t+3*x.1+2),w:=bif bQ s.3 (2*n+5+2*t+3*x.1+2)then bif dOk (aA x.6 0 12) 0 0 (bif ieq (HPS.p x).2 4 then 1 else 0) 5 (HPS.p x).4 then cJ (aA x.6 0 12) 0 0 (bif ieq (HPS.p x).2 4 then 1 else 0) (HPS.p x).3 5 (HPS.p x).4 else 0 else 0,ok:=aT s.3 (2*n+5+2*t+3*x.1+2) x.6} }))))))
theorem IF(t n:Int)(x:HPS)(st:STS)(s:MS)(K:HpO→Prop)(h:(BM t n x st s).run K):cT' 152 [.ptr 0 0,.ptr 2 0] [cE' [.ptr 1 0,.I x.u,.int .u64 x.no,.I x.rounds,.I x.limit,.I 6,.int .u64 x.found,.I x.sh,.I x.kd,.I x.ky,.bool x.p.now,.I x.p.code,.bool x.p.okk,.I x.p.val,.I x.p.addr,.int .u64 x.p.old,.I x.p.nxt,.bool x.p.mark,.I x.p.pops,.O,.O,.O,.O,.O],iT 4 t n st,bE 3 s,bF s,iU st] (bM 4 0 [19,20,21,22,23] [(.cell 1 4,.ints (some .i64))] (u4 t n) K):=by
 exact cM' (E:=EH0) (by kernel_rfl) h
def BN(t n:Int)(x:HPS)(st:STS)(s:MS):Tr HpO:=.pre (lE' s.3∧KD t n x.14 s) (.ite (oB t n x.14 s).1 (.pre ((t=t∧n=n)∧w1w∧lE' (ClO.s (oB t n x.14 s)).3∧lE' st.3) (.ret {d:=false,x:= {x with at':=0,ex:=cI,en:=aU,fn:=aQ,cl:=b9,pr:=dF},st:=st,s:=(oB t n x.14 s).3})) (.pre ((t=t∧n=n)∧t=t∧n=n∧(false=false→(7:Int)=(7:Int))∧lE' (ClO.s (oB t n x.14 s)).3∧lE' st.3) (.ret {d:=false,x:= {x with at':=7,ex:=cI,en:=aU,fn:=aQ,cl:=(oB t n x.14 s).2,pr:=dF},st:=st,s:=(oB t n x.14 s).3})))
theorem IG(t n:Int)(x:HPS)(st:STS)(s:MS)(K:HpO→Prop)(h:(BN t n x st s).run K):cT' 152 [.ptr 0 0,.ptr 2 0] [cE' [.ptr 1 0,.I x.u,.int .u64 x.no,.I x.rounds,.I x.limit,.I 7,.int .u64 x.found,.I x.sh,.I x.kd,.I x.ky,.bool x.p.now,.I x.p.code,.bool x.p.okk,.I x.p.val,.I x.p.addr,.int .u64 x.p.old,.I x.p.nxt,.bool x.p.mark,.I x.p.pops,.O,.O,.O,.ptr 4 0,.O],iT 5 t n st,bE 3 s,bF s,some (.abs (.clear t n x.cl) []),iU st] (bM 4 0 [19,20,21,22,23] [(.cell 1 4,.ints (some .i64))] (u4 t n) K):=by
 exact cM' (E:=EH0) (by kernel_rfl) h
def BO(t n:Int)(x:HPS)(st:STS)(s:MS):Tr HpO:=.pre ((lE' s.3∧lE' st.3∧t=t∧n=n)∧MQ t n x.15 st s) (.ite (prF t n x.15 st s).1 (.pre ((t=t∧n=n)∧w20∧lE' (PrO.s (prF t n x.15 st s)).3∧lE' (PrO.st (prF t n x.15 st s)).3) (.ret {d:=false,x:= {x with at':=9,ex:=cI,en:=aU,fn:=aQ,cl:=b9,pr:=dF},st:=(prF t n x.15 st s).3,s:=(prF t n x.15 st s).4})) (.pre ((t=t∧n=n)∧t=t∧n=n∧(false=false→(8:Int)=(8:Int))∧lE' (PrO.s (prF t n x.15 st s)).3∧lE' (PrO.st (prF t n x.15 st s)).3) (.ret {d:=false,x:= {x with at':=8,ex:=cI,en:=aU,fn:=aQ,cl:=b9,pr:=(prF t n x.15 st s).2},st:=(prF t n x.15 st s).3,s:=(prF t n x.15 st s).4})))
theorem IH(t n:Int)(x:HPS)(st:STS)(s:MS)(K:HpO→Prop)(h:(BO t n x st s).run K):cT' 152 [.ptr 0 0,.ptr 2 0] [cE' [.ptr 1 0,.I x.u,.int .u64 x.no,.I x.rounds,.I x.limit,.I 8,.int .u64 x.found,.I x.sh,.I x.kd,.I x.ky,.bool x.p.now,.I x.p.code,.bool x.p.okk,.I x.p.val,.I x.p.addr,.int .u64 x.p.old,.I x.p.nxt,.bool x.p.mark,.I x.p.pops,.O,.O,.O,.O,.ptr 4 0],iT 5 t n st,bE 3 s,bF s,some (.abs (.prepare t n x.pr) [1]),iU st] (bM 4 0 [19,20,21,22,23] [(.cell 1 4,.ints (some .i64))] (u4 t n) K):=by
 exact cM' (E:=EH0) (by kernel_rfl) h
abbrev w1v(x:HPS):=gG (HPS.p x).1 (HPS.p x).2 (HPS.p x).3 (HPS.p x).4 (HPS.p x).5 (HPS.p x).6 (HPS.p x).7 (HPS.p x).8 (HPS.p x).9 (aA x.6 0 12)
def BP(t n:Int)(x:HPS)(st:STS)(s:MS):Tr HpO:=.pre True (.pre (x4 (HPS.p x).1 (HPS.p x).2 (HPS.p x).3 (HPS.p x).4 (HPS.p x).5 (HPS.p x).6 (HPS.p x).7 (HPS.p x).8 (HPS.p x).9 (aA x.6 0 12)∧True) (.pre (w1y n t x) (.pre ((lE' s.3∧(0:Int)≤s.4∧s.4≤(4611686018427387904:Int))∧True) (.ite (aT s.3 (2*n+5+2*t+3*x.1+2) x.6) (.pre True (.ite (fT x.8) (.pre ((t=t∧n=n)∧w1w∧lE' (bif aT s.3 (2*n+5+2*t+3*x.1+2) x.6 then aV s.3 (2*n+5+2*t+3*x.1+2) (w1v x).1 else s.3)∧lE' st.3) (.ret {d:=false,x:= {x with at':=0,ex:=cI,en:=aU,fn:=aQ,cl:=b9,pr:=dF},st:= {me:=st.1,sp:=0,R:=st.3},s:= {t:=s.1,n:=s.2,xs:=bif aT s.3 (2*n+5+2*t+3*x.1+2) x.6 then aV s.3 (2*n+5+2*t+3*x.1+2) (w1v x).1 else s.3,c:=s.4+1,k:=3,a:=2*n+5+2*t+3*x.1+2,o:=aC s.3 (2*n+5+2*t+3*x.1+2),w:=bif bQ s.3 (2*n+5+2*t+3*x.1+2)then(w1v x).1 else 0,ok:=aT s.3 (2*n+5+2*t+3*x.1+2) x.6} })) (.pre ((t=t∧n=n)∧w1w∧lE' (bif aT s.3 (2*n+5+2*t+3*x.1+2) x.6 then aV s.3 (2*n+5+2*t+3*x.1+2) (w1v x).1 else s.3)∧lE' st.3) (.ret {d:=false,x:= {x with at':=0,ex:=cI,en:=aU,fn:=aQ,cl:=b9,pr:=dF},st:=st,s:= {t:=s.1,n:=s.2,xs:=bif aT s.3 (2*n+5+2*t+3*x.1+2) x.6 then aV s.3 (2*n+5+2*t+3*x.1+2) (w1v x).1 else s.3,c:=s.4+1,k:=3,a:=2*n+5+2*t+3*x.1+2,o:=aC s.3 (2*n+5+2*t+3*x.1+2),w:=bif bQ s.3 (2*n+5+2*t+3*x.1+2)then(w1v x).1 else 0,ok:=aT s.3 (2*n+5+2*t+3*x.1+2) x.6} })))) (.pre ((t=t∧n=n)∧w1w∧lE' (bif aT s.3 (2*n+5+2*t+3*x.1+2) x.6 then aV s.3 (2*n+5+2*t+3*x.1+2) (w1v x).1 else s.3)∧lE' st.3) (.ret {d:=false,x:= {x with at':=0,ex:=cI,en:=aU,fn:=aQ,cl:=b9,pr:=dF},st:=st,s:= {t:=s.1,n:=s.2,xs:=bif aT s.3 (2*n+5+2*t+3*x.1+2) x.6 then aV s.3 (2*n+5+2*t+3*x.1+2) (w1v x).1 else s.3,c:=s.4+1,k:=3,a:=2*n+5+2*t+3*x.1+2,o:=aC s.3 (2*n+5+2*t+3*x.1+2),w:=bif bQ s.3 (2*n+5+2*t+3*x.1+2)then(w1v x).1 else 0,ok:=aT s.3 (2*n+5+2*t+3*x.1+2) x.6} }))))))
theorem II(t n:Int)(x:HPS)(st:STS)(s:MS)(K:HpO→Prop)(h:(BP t n x st s).run K):cT' 152 [.ptr 0 0,.ptr 2 0] [cE' [.ptr 1 0,.I x.u,.int .u64 x.no,.I x.rounds,.I x.limit,.I 9,.int .u64 x.found,.I x.sh,.I x.kd,.I x.ky,.bool x.p.now,.I x.p.code,.bool x.p.okk,.I x.p.val,.I x.p.addr,.int .u64 x.p.old,.I x.p.nxt,.bool x.p.mark,.I x.p.pops,.O,.O,.O,.O,.O],iT 4 t n st,bE 3 s,bF s,iU st] (bM 4 0 [19,20,21,22,23] [(.cell 1 4,.ints (some .i64))] (u4 t n) K):=by
 exact cM' (E:=EH0) (by kernel_rfl) h
def hpT(t n:Int)(x:HPS)(st:STS)(s:MS):Tr HpO:=
 bif ieq x.at' 0 then BG t n x st s else
 bif ieq x.at' 1 then BH t n x st s else
 bif ieq x.at' 2 then BI t n x st s else
 bif ieq x.at' 3 then BJ t n x st s else
 bif ieq x.at' 4 then BK t n x st s else
 bif ieq x.at' 5 then BL t n x st s else
 bif ieq x.at' 6 then BM t n x st s else
 bif ieq x.at' 7 then BN t n x st s else
 bif ieq x.at' 8 then BO t n x st s else
 bif ieq x.at' 9 then BP t n x st s else .pre False (.ret default)
def gP(t n:Int)(x:HPS)(st:STS)(s:MS):HpO:=(hpT t n x st s).val
def LU(t n:Int)(x:HPS)(st:STS)(s:MS):Prop:=(hpT t n x st s).ok
theorem FV(t n:Int)(x:HPS)(st:STS)(s:MS)(K:AVal→aD Ob→Prop)(h:(hpT t n x st s).run (fun y=>(HpO.fin t n y).run K)):cT' 152 [.ptr 0 0,.ptr 2 0] (FU t n x st s) K:=by
 unfold hpT at h
 by_cases e:x.at'=0
 ·rw [e]at h;have h:(BG t n x st s).run _:=h;refine aEB (root:=0) (pos:=[19,20,21,22,23]) (cs:=[(.cell 1 4,.ints (some .i64))]) (parse:=u4 t n) (fin:=HpO.fin t n) kY ((aS.unpack (.help t n x) 0 1 (kX t n x) [1] rfl (congrArg (Prod.mk 1) (jU ⟨(by omega),(by omega),(by omega),(by omega),(by omega)⟩)) (by kernel_rfl) rfl).trans (aS.unpack (.store t n st) 1 0 (dD t n st) [] rfl rfl rfl rfl)) ?_
  have q:=H9 t n x st s _ h;rw [←e]at q;exact q
 rw [bI e]at h
 by_cases e:x.at'=1
 ·rw [e]at h;have h:(BH t n x st s).run _:=h;refine aEB (root:=0) (pos:=[19,20,21,22,23]) (cs:=[(.cell 1 4,.ints (some .i64))]) (parse:=u4 t n) (fin:=HpO.fin t n) kY ((aS.unpack (.help t n x) 0 1 (kX t n x) [1] rfl (congrArg (Prod.mk 1) (jU ⟨(by omega),(by omega),(by omega),(by omega),(by omega)⟩)) (by kernel_rfl) rfl).trans (aS.unpack (.store t n st) 1 0 (dD t n st) [] rfl rfl rfl rfl)) ?_
  have q:=IA t n x st s _ h;rw [←e]at q;exact q
 rw [bI e]at h
 by_cases e:x.at'=2
 ·rw [e]at h;have h:(BI t n x st s).run _:=h;refine aEB (root:=0) (pos:=[19,20,21,22,23]) (cs:=[(.cell 1 4,.ints (some .i64))]) (parse:=u4 t n) (fin:=HpO.fin t n) kY ((aS.unpack (.help t n x) 0 1 (kX t n x) [1] rfl (congrArg (Prod.mk 1) (jU ⟨(by omega),(by omega),(by omega),(by omega),(by omega)⟩)) (by kernel_rfl) rfl).trans (aS.unpack (.store t n st) 1 0 (dD t n st) [] rfl rfl rfl rfl)) ?_
  have q:=IB t n x st s _ h;rw [←e]at q;exact q
 rw [bI e]at h
 by_cases e:x.at'=3
 ·rw [e]at h;have h:(BJ t n x st s).run _:=h;refine aEB (root:=0) (pos:=[19,20,21,22,23]) (cs:=[(.cell 1 4,.ints (some .i64))]) (parse:=u4 t n) (fin:=HpO.fin t n) kY ((aS.unpack (.help t n x) 0 1 (mT t n x) [1] rfl (congrArg (Prod.mk 1) (FP e)) (by kernel_rfl) rfl).trans (aS.unpack (.store t n st) 1 0 (dD t n st) [] rfl rfl rfl rfl)) ?_
  have q:=IC t n x st s _ h;rw [←e]at q;exact q
 rw [bI e]at h
 by_cases e:x.at'=4
 ·rw [e]at h;have h:(BK t n x st s).run _:=h;refine aEB (root:=0) (pos:=[19,20,21,22,23]) (cs:=[(.cell 1 4,.ints (some .i64))]) (parse:=u4 t n) (fin:=HpO.fin t n) kY ((aS.unpack (.help t n x) 0 1 (mS t n x) [1] rfl (congrArg (Prod.mk 1) (FQ e)) (by kernel_rfl) rfl).trans (aS.unpack (.store t n st) 1 0 (dD t n st) [] rfl rfl rfl rfl)) ?_
  have q:=ID t n x st s _ h;rw [←e]at q;exact q
 rw [bI e]at h
 by_cases e:x.at'=5
 ·rw [e]at h;have h:(BL t n x st s).run _:=h;refine aEB (root:=0) (pos:=[19,20,21,22,23]) (cs:=[(.cell 1 4,.ints (some .i64))]) (parse:=u4 t n) (fin:=HpO.fin t n) kY ((aS.unpack (.help t n x) 0 1 (mU t n x) [1] rfl (congrArg (Prod.mk 1) (FR e)) (by kernel_rfl) rfl).trans (aS.unpack (.store t n st) 1 0 (dD t n st) [] rfl rfl rfl rfl)) ?_
  have q:=IE t n x st s _ h;rw [←e]at q;exact q
 rw [bI e]at h
 by_cases e:x.at'=6
 ·rw [e]at h;have h:(BM t n x st s).run _:=h;refine aEB (root:=0) (pos:=[19,20,21,22,23]) (cs:=[(.cell 1 4,.ints (some .i64))]) (parse:=u4 t n) (fin:=HpO.fin t n) kY ((aS.unpack (.help t n x) 0 1 (kX t n x) [1] rfl (congrArg (Prod.mk 1) (jU ⟨(by omega),(by omega),(by omega),(by omega),(by omega)⟩)) (by kernel_rfl) rfl).trans (aS.unpack (.store t n st) 1 0 (dD t n st) [] rfl rfl rfl rfl)) ?_
  have q:=IF t n x st s _ h;rw [←e]at q;exact q
 rw [bI e]at h
 by_cases e:x.at'=7
 ·rw [e]at h;have h:(BN t n x st s).run _:=h;refine aEB (root:=0) (pos:=[19,20,21,22,23]) (cs:=[(.cell 1 4,.ints (some .i64))]) (parse:=u4 t n) (fin:=HpO.fin t n) kY ((aS.unpack (.help t n x) 0 1 (mR t n x) [1] rfl (congrArg (Prod.mk 1) (FS e)) (by kernel_rfl) rfl).trans (aS.unpack (.store t n st) 1 0 (dD t n st) [] rfl rfl rfl rfl)) ?_
  have q:=IG t n x st s _ h;rw [←e]at q;exact q
 rw [bI e]at h
 by_cases e:x.at'=8
 ·rw [e]at h;have h:(BO t n x st s).run _:=h;refine aEB (root:=0) (pos:=[19,20,21,22,23]) (cs:=[(.cell 1 4,.ints (some .i64))]) (parse:=u4 t n) (fin:=HpO.fin t n) kY ((aS.unpack (.help t n x) 0 1 (mV t n x) [1] rfl (congrArg (Prod.mk 1) (FT e)) (by kernel_rfl) rfl).trans (aS.unpack (.store t n st) 1 0 (dD t n st) [] rfl rfl rfl rfl)) ?_
  have q:=IH t n x st s _ h;rw [←e]at q;exact q
 rw [bI e]at h
 by_cases e:x.at'=9
 ·rw [e]at h;have h:(BP t n x st s).run _:=h;refine aEB (root:=0) (pos:=[19,20,21,22,23]) (cs:=[(.cell 1 4,.ints (some .i64))]) (parse:=u4 t n) (fin:=HpO.fin t n) kY ((aS.unpack (.help t n x) 0 1 (kX t n x) [1] rfl (congrArg (Prod.mk 1) (jU ⟨(by omega),(by omega),(by omega),(by omega),(by omega)⟩)) (by kernel_rfl) rfl).trans (aS.unpack (.store t n st) 1 0 (dD t n st) [] rfl rfl rfl rfl)) ?_
  have q:=II t n x st s _ h;rw [←e]at q;exact q
 rw [bI e]at h;exact h.1.elim
noncomputable def hpSA:aI Ob:=fun args h=>match args,h with
 | [.ptr 0 0,.ptr 2 0],[some (.abs (.help t n x) [1]),some (.abs (.store t2 n2 st) []),e3,e4]=>(match cL 3 [e3,e4]with
   | some (l,s)=>some (.pre ((l=s.xs.length∧t2=t∧n2=n)∧LU t n x st s) (HpO.fin t n (gP t n x st s)))
   | none=>none)
 | _,_=>none
theorem Z6:sT' 152 hpSA:=by
 intro args h o ho K hK;unfold hpSA at ho;split at ho
 case h_2=>cases ho
 split at ho<;>cases ho
 rename_i hm;obtain⟨⟨⟨hl,rfl,rfl⟩,ok⟩,hK⟩:=hK;have hh:=bB hm hl;cases hh;exact FV _ _ _ _ _ K (aEG ok hK)
def HpO.finB(t n:Int)(y:HpO):Out Ob:=.ite y.d (.ret (.bool true) ([cE' [.ptr 1 0,.I y.x.u,.int .u64 y.x.no,.I y.x.rounds,.I y.x.limit,.I y.x.at',.int .u64 y.x.found,.I y.x.sh,.I y.x.kd,.I y.x.ky,.bool y.x.p.now,.I y.x.p.code,.bool y.x.p.okk,.I y.x.p.val,.I y.x.p.addr,.int .u64 y.x.p.old,.I y.x.p.nxt,.bool y.x.p.mark,.I y.x.p.pops,.O,.O,.O,.O,.O],iT 5 t n y.st,none,bE 4 y.s,bF y.s,iU y.st])) (.ret (.bool false) [some (.abs (.help t n y.x) [1]),iT 5 t n y.st,none,bE 4 y.s,bF y.s,iU y.st])
noncomputable def hpSB:aI Ob:=fun args h=>match args,h with
 | [.ptr 0 0,.ptr 3 0],[some (.abs (.help t n x) [1]),e1,e2,e3,e4]=>(match lB 2 [e1,e2],cL 4 [e3,e4]with
   | some (l2,t2,n2,st),some (l,s)=>some (.pre ((l=s.xs.length∧l2=st.R.length∧t2=t∧n2=n)∧LU t n x st s) (HpO.finB t n (gP t n x st s)))
   | _,_=>none)
 | _,_=>none
theorem Z7:sT' 152 hpSB:=by
 intro args h o ho K hK;unfold hpSB at ho;split at ho
 case h_2=>cases ho
 split at ho<;>cases ho
 rename_i hs hm;obtain⟨⟨⟨hl,hl2,rfl,rfl⟩,ok⟩,hK⟩:=hK;have hh:=bB hm hl;cases hh;have hh:=cB hs hl2;cases hh;exact jN (fun ι hι=>by simp [aH.ren,aEN,AVal.ren,hι]) (fun ι hι=>by simp [aH.ren,hι]) (fun K hK=>FV _ _ _ _ _ K (aEG ok hK)) K hK
noncomputable def hpS:aI Ob:=aI.or hpSA hpSB
theorem aCC:sT' 152 hpS:=aEZ Z6 Z7
def ZX(t n:Int)(v:AVal)(g:aD Ob):Option (Prop×(HPS×STS)):=match v,g with
 | .ptr 2 0,[e1,e2,some (.cells [.ptr 0 0,.int .i64 u,.int .u64 no,.int .i64 rounds,.int .i64 limit,.int .i64 at',.int .u64 found,.int .i64 sh,.int .i64 kd,.int .i64 ky,.bool p_now,.int .i64 p_code,.bool p_okk,.int .i64 p_val,.int .i64 p_addr,.int .u64 p_old,.int .i64 p_nxt,.bool p_mark,.int .i64 p_pops,.O,.O,.O,.O,.O])]=>(match lB 1 [e1,e2]with
   | some (l2,t2,n2,st)=>some ((t2=t∧n2=n∧l2=st.R.length)∧(at'≠3∧at'≠4∧at'≠5∧at'≠7∧at'≠8),⟨(⟨u,no,rounds,limit,at',found,sh,kd,ky,⟨p_now,p_code,p_okk,p_val,p_addr,p_old,p_nxt,p_mark,p_pops⟩,cI,aU,aQ,⟨0,0,0,0⟩,⟨0,0,0,false⟩⟩:HPS),st⟩)
   | none=>none)
 | _,_=>none
abbrev S4(t n:Int)(y:(HPS×STS)):aD Ob:=[iT 1 t n y.2,iU y.2,some (.abs (.help t n y.1) [0])]
theorem S5{t n:Int} :bS (obI tbl) 2 (ZX t n) (fun y=>.ret (.ptr 2 0) (S4 t n y)):=by
 intro v g p x hp hq K hK;unfold ZX at hp;split at hp
 case h_2=>cases hp
 rename_i e1 e2 u no rounds limit at' found sh kd ky p_now p_code p_okk p_val p_addr p_old p_nxt p_mark p_pops;split at hp
 case h_2=>cases hp
 rename_i l2 t2 n2 st hs;simp only [sI',pI']at hp;obtain⟨rfl,rfl⟩:=hp;obtain⟨⟨rfl,rfl,hl2⟩,hat⟩:=hq;have hh:=cB hs hl2;cases hh;exact let X0:HPS:=⟨u,no,rounds,limit,at',found,sh,kd,ky,⟨p_now,p_code,p_okk,p_val,p_addr,p_old,p_nxt,p_mark,p_pops⟩,cI,aU,aQ,⟨0,0,0,0⟩,⟨0,0,0,false⟩⟩;⟨⟨_,_,aF.pack (S4 t2 n2 (X0,st)) (.help t2 n2 X0) 2 1 (kX t2 n2 X0) [0] (by kernel_rfl) rfl (congrArg (Prod.mk 1) (jU hat)) (by kernel_rfl),hK⟩⟩
def H8(t n:Int)(u no lim:Int)(st:STS):Tr (HPS×STS):=.pre ((t=t∧n=n∧lE' st.3)∧(0:Int)≠(3:Int)∧(0:Int)≠(4:Int)∧(0:Int)≠(5:Int)∧(0:Int)≠(7:Int)∧(0:Int)≠(8:Int)) (.ret ({u:=u,no:=no,rounds:=0,limit:=lim,at':=0,found:=0,sh:=0,kd:=0,ky:=0,p:=aBN,ex:=cI,en:=aU,fn:=aQ,cl:=b9,pr:=dF},st))
def vA(t n:Int)(u no lim:Int)(st:STS):(HPS×STS):=(H8 t n u no lim st).val
def BF(t n:Int)(u no lim:Int)(st:STS):Prop:=(H8 t n u no lim st).ok
def hpNS:aI Ob:=fun args h=>match args,h with
 | [.ptr 0 0,.int .i64 u,.int .u64 no,.int .i64 lim],[e1,e2]=>(match lB 1 [e1,e2]with
   | some (l2,t,n,st)=>some (.pre (l2=st.R.length∧BF t n u no lim st) (.ret (.ptr 2 0) (S4 t n (vA t n u no lim st))))
   | none=>none)
 | _,_=>none
theorem ZY:sT' 159 hpNS:=by
 intro args h o ho K hK;unfold hpNS at ho;split at ho
 case h_2=>cases ho
 rename_i u no lim e1 e2;split at ho<;>cases ho
 rename_i l2 t n st hs;obtain⟨⟨hl2,ok⟩,hK⟩:=hK;have hh:=cB hs hl2;cases hh;refine aEL (root:=2) (pos:=[19,20,21,22,23]) (cs:=[]) (parse:=ZX t n) S5 ?_;exact cM' (E:=EH0) (q:=(H8 t n u no lim st).run (fun y=>(Out.ret (.ptr 2 0) (S4 t n y)).run K)) (by kernel_rfl) (aEG ok hK)
noncomputable def EH:=((EH0.addS 152 hpS aCC).addS 159 hpNS ZY)
structure DqO where
 d:Bool
 x:DOS
 st:STS
 s:MS
instance:Inhabited DqO:=⟨⟨false,eC,⟨0,0,[]⟩,⟨0,0,[],0,0,0,0,0,false⟩⟩⟩
instance:Inhabited DOS:=⟨eC⟩
abbrev sW(t n:Int)(x:DOS)(st:STS)(s:MS):aD Ob:=[some (.abs (.doer t n x) [1]),some (.abs (.store t n st) []),bE 3 s,bF s]
abbrev vW(t n:Int)(x:DOS)(st:STS)(s:MS):aD Ob:=[cE' [.ptr 1 0,.I x.code,.bool x.okk,.I x.val,.bool x.slow,.I x.sh,.I x.kd,.I x.ky,.I x.limit,.I x.at',.O,.O,.O,.O,.O,.O,.O,.O,.O],some (.abs (.store t n st) []),bE 3 s,bF s]
def DqO.fin(t n:Int)(y:DqO):Out Ob:=.ite y.d (.ret (.bool true) (vW t n y.x y.st y.s)) (.ret (.bool false) (sW t n y.x y.st y.s))
def XR(t n:Int)(v:AVal)(g:aD Ob):Option (Prop×DqO):=match v,g with
 | .bool d,[some (.cells [.ptr 1 0,.int .i64 code,.bool okk,.int .i64 val,.bool slow,.int .i64 sh,.int .i64 kd,.int .i64 ky,.int .i64 limit,.int .i64 at',.O,.O,.O,.O,.O,.O,.O,.O,.O]),e1,e3,e4,e2]=>(match lB 4 [e1,e2],cL 3 [e3,e4]with
   | some (l2,t2,n2,st),some (l,s)=>some ((t2=t∧n2=n)∧(d=false→at'≠0∧at'≠1∧at'≠5∧at'≠2∧at'≠3∧at'≠4∧at'≠6∧at'≠7∧at'≠8∧at'≠9)∧l=s.xs.length∧l2=st.R.length,⟨d,⟨code,okk,val,slow,sh,kd,ky,limit,at',⟨0,0,0,false⟩,bR,aU,bO,⟨0,0,0,0,false,0⟩,⟨0,false,0,0⟩,aQ,⟨0,0⟩,bK⟩,st,s⟩)
   | _,_=>none)
 | _,_=>none
def XS(t n:Int)(v:AVal)(g:aD Ob):Option (Prop×DqO):=match v,g with
 | .bool d,[some (.cells [.ptr 1 0,.int .i64 code,.bool okk,.int .i64 val,.bool slow,.int .i64 sh,.int .i64 kd,.int .i64 ky,.int .i64 limit,.int .i64 at',.ptr 4 0,.O,.O,.O,.O,.O,.O,.O,.O]),e1,e3,e4,some (.abs (.head t' n' sub) []),e2]=>(match lB 5 [e1,e2],cL 3 [e3,e4]with
   | some (l2,t2,n2,st),some (l,s)=>some ((t2=t∧n2=n)∧t'=t∧n'=n∧(d=false→at'=0)∧l=s.xs.length∧l2=st.R.length,⟨d,⟨code,okk,val,slow,sh,kd,ky,limit,at',sub,bR,aU,bO,⟨0,0,0,0,false,0⟩,⟨0,false,0,0⟩,aQ,⟨0,0⟩,bK⟩,st,s⟩)
   | _,_=>none)
 | _,_=>none
def XT(t n:Int)(v:AVal)(g:aD Ob):Option (Prop×DqO):=match v,g with
 | .bool d,[some (.cells [.ptr 1 0,.int .i64 code,.bool okk,.int .i64 val,.bool slow,.int .i64 sh,.int .i64 kd,.int .i64 ky,.int .i64 limit,.int .i64 at',.O,.ptr 4 0,.O,.O,.O,.O,.O,.O,.O]),e1,e3,e4,some (.abs (.help t' n' sub) [1]),e2]=>(match lB 5 [e1,e2],cL 3 [e3,e4]with
   | some (l2,t2,n2,st),some (l,s)=>some ((t2=t∧n2=n)∧t'=t∧n'=n∧(d=false→at'=1∨at'=5)∧l=s.xs.length∧l2=st.R.length,⟨d,⟨code,okk,val,slow,sh,kd,ky,limit,at',⟨0,0,0,false⟩,sub,aU,bO,⟨0,0,0,0,false,0⟩,⟨0,false,0,0⟩,aQ,⟨0,0⟩,bK⟩,st,s⟩)
   | _,_=>none)
 | _,_=>none
def XU(t n:Int)(v:AVal)(g:aD Ob):Option (Prop×DqO):=match v,g with
 | .bool d,[some (.cells [.ptr 1 0,.int .i64 code,.bool okk,.int .i64 val,.bool slow,.int .i64 sh,.int .i64 kd,.int .i64 ky,.int .i64 limit,.int .i64 at',.O,.O,.ptr 4 0,.O,.O,.O,.O,.O,.O]),e1,e3,e4,some (.abs (.ensure t' n' sub) [1]),e2]=>(match lB 5 [e1,e2],cL 3 [e3,e4]with
   | some (l2,t2,n2,st),some (l,s)=>some ((t2=t∧n2=n)∧t'=t∧n'=n∧(d=false→at'=2)∧l=s.xs.length∧l2=st.R.length,⟨d,⟨code,okk,val,slow,sh,kd,ky,limit,at',⟨0,0,0,false⟩,bR,sub,bO,⟨0,0,0,0,false,0⟩,⟨0,false,0,0⟩,aQ,⟨0,0⟩,bK⟩,st,s⟩)
   | _,_=>none)
 | _,_=>none
def XV(t n:Int)(v:AVal)(g:aD Ob):Option (Prop×DqO):=match v,g with
 | .bool d,[some (.cells [.ptr 1 0,.int .i64 code,.bool okk,.int .i64 val,.bool slow,.int .i64 sh,.int .i64 kd,.int .i64 ky,.int .i64 limit,.int .i64 at',.O,.O,.O,.ptr 4 0,.O,.O,.O,.O,.O]),e1,e3,e4,some (.abs (.fast t' n' sub) [1]),e2]=>(match lB 5 [e1,e2],cL 3 [e3,e4]with
   | some (l2,t2,n2,st),some (l,s)=>some ((t2=t∧n2=n)∧t'=t∧n'=n∧(d=false→at'=3)∧l=s.xs.length∧l2=st.R.length,⟨d,⟨code,okk,val,slow,sh,kd,ky,limit,at',⟨0,0,0,false⟩,bR,aU,sub,⟨0,0,0,0,false,0⟩,⟨0,false,0,0⟩,aQ,⟨0,0⟩,bK⟩,st,s⟩)
   | _,_=>none)
 | _,_=>none
def XW(t n:Int)(v:AVal)(g:aD Ob):Option (Prop×DqO):=match v,g with
 | .bool d,[some (.cells [.ptr 1 0,.int .i64 code,.bool okk,.int .i64 val,.bool slow,.int .i64 sh,.int .i64 kd,.int .i64 ky,.int .i64 limit,.int .i64 at',.O,.O,.O,.O,.ptr 4 0,.O,.O,.O,.O]),e1,e3,e4,some (.abs (.announce t' n' sub) []),e2]=>(match lB 5 [e1,e2],cL 3 [e3,e4]with
   | some (l2,t2,n2,st),some (l,s)=>some ((t2=t∧n2=n)∧t'=t∧n'=n∧(d=false→at'=4)∧l=s.xs.length∧l2=st.R.length,⟨d,⟨code,okk,val,slow,sh,kd,ky,limit,at',⟨0,0,0,false⟩,bR,aU,bO,sub,⟨0,false,0,0⟩,aQ,⟨0,0⟩,bK⟩,st,s⟩)
   | _,_=>none)
 | _,_=>none
def XX(t n:Int)(v:AVal)(g:aD Ob):Option (Prop×DqO):=match v,g with
 | .bool d,[some (.cells [.ptr 1 0,.int .i64 code,.bool okk,.int .i64 val,.bool slow,.int .i64 sh,.int .i64 kd,.int .i64 ky,.int .i64 limit,.int .i64 at',.O,.O,.O,.O,.O,.ptr 4 0,.O,.O,.O]),e1,e3,e4,some (.abs (.answer t' n' sub) []),e2]=>(match lB 5 [e1,e2],cL 3 [e3,e4]with
   | some (l2,t2,n2,st),some (l,s)=>some ((t2=t∧n2=n)∧t'=t∧n'=n∧(d=false→at'=6)∧l=s.xs.length∧l2=st.R.length,⟨d,⟨code,okk,val,slow,sh,kd,ky,limit,at',⟨0,0,0,false⟩,bR,aU,bO,⟨0,0,0,0,false,0⟩,sub,aQ,⟨0,0⟩,bK⟩,st,s⟩)
   | _,_=>none)
 | _,_=>none
def XY(t n:Int)(v:AVal)(g:aD Ob):Option (Prop×DqO):=match v,g with
 | .bool d,[some (.cells [.ptr 1 0,.int .i64 code,.bool okk,.int .i64 val,.bool slow,.int .i64 sh,.int .i64 kd,.int .i64 ky,.int .i64 limit,.int .i64 at',.O,.O,.O,.O,.O,.O,.ptr 4 0,.O,.O]),e1,e3,e4,some (.abs (.find t' n' sub) []),e2]=>(match lB 5 [e1,e2],cL 3 [e3,e4]with
   | some (l2,t2,n2,st),some (l,s)=>some ((t2=t∧n2=n)∧t'=t∧n'=n∧(d=false→at'=7)∧l=s.xs.length∧l2=st.R.length,⟨d,⟨code,okk,val,slow,sh,kd,ky,limit,at',⟨0,0,0,false⟩,bR,aU,bO,⟨0,0,0,0,false,0⟩,⟨0,false,0,0⟩,sub,⟨0,0⟩,bK⟩,st,s⟩)
   | _,_=>none)
 | _,_=>none
def XZ(t n:Int)(v:AVal)(g:aD Ob):Option (Prop×DqO):=match v,g with
 | .bool d,[some (.cells [.ptr 1 0,.int .i64 code,.bool okk,.int .i64 val,.bool slow,.int .i64 sh,.int .i64 kd,.int .i64 ky,.int .i64 limit,.int .i64 at',.O,.O,.O,.O,.O,.O,.O,.ptr 4 0,.O]),e1,e3,e4,some (.abs (.drop t' n' sub) []),e2]=>(match lB 5 [e1,e2],cL 3 [e3,e4]with
   | some (l2,t2,n2,st),some (l,s)=>some ((t2=t∧n2=n)∧t'=t∧n'=n∧(d=false→at'=8)∧l=s.xs.length∧l2=st.R.length,⟨d,⟨code,okk,val,slow,sh,kd,ky,limit,at',⟨0,0,0,false⟩,bR,aU,bO,⟨0,0,0,0,false,0⟩,⟨0,false,0,0⟩,aQ,sub,bK⟩,st,s⟩)
   | _,_=>none)
 | _,_=>none
def X0(t n:Int)(v:AVal)(g:aD Ob):Option (Prop×DqO):=match v,g with
 | .bool d,[some (.cells [.ptr 1 0,.int .i64 code,.bool okk,.int .i64 val,.bool slow,.int .i64 sh,.int .i64 kd,.int .i64 ky,.int .i64 limit,.int .i64 at',.O,.O,.O,.O,.O,.O,.O,.O,.ptr 4 0]),e1,e3,e4,some (.abs (.sweep t' n' sub) [1]),e2]=>(match lB 5 [e1,e2],cL 3 [e3,e4]with
   | some (l2,t2,n2,st),some (l,s)=>some ((t2=t∧n2=n)∧t'=t∧n'=n∧(d=false→at'=9)∧l=s.xs.length∧l2=st.R.length,⟨d,⟨code,okk,val,slow,sh,kd,ky,limit,at',⟨0,0,0,false⟩,bR,aU,bO,⟨0,0,0,0,false,0⟩,⟨0,false,0,0⟩,aQ,⟨0,0⟩,sub⟩,st,s⟩)
   | _,_=>none)
 | _,_=>none
def uY(t n:Int)(v:AVal)(g:aD Ob):Option (Prop×DqO):=(match XR t n v g with
 | some r=>some r
 | none=>(match XS t n v g with
 | some r=>some r
 | none=>(match XT t n v g with
 | some r=>some r
 | none=>(match XU t n v g with
 | some r=>some r
 | none=>(match XV t n v g with
 | some r=>some r
 | none=>(match XW t n v g with
 | some r=>some r
 | none=>(match XX t n v g with
 | some r=>some r
 | none=>(match XY t n v g with
 | some r=>some r
 | none=>(match XZ t n v g with
 | some r=>some r
 | none=>X0 t n v g)))))))))
theorem QL{t n:Int} :bS (obI tbl) 4 (XR t n) (DqO.fin t n):=by
 intro v g p x hp hq K hK;unfold XR at hp;split at hp
 case h_2=>cases hp
 rename_i d code okk val slow sh kd ky limit at' e1 e3 e4 e2;split at hp
 case h_2=>cases hp
 rename_i l2 t2 n2 st l s hs hm;simp only [sI',pI']at hp;obtain⟨rfl,rfl⟩:=hp;obtain⟨⟨rfl,rfl⟩,hat,hl,hl2⟩:=hq;have hh:=bB hm hl;cases hh;have hh:=cB hs hl2;cases hh;refine eV hK (fun h=>?_) (fun hd h=>?_)
 ·exact⟨⟨_,_,(aF.pack (vW t2 n2 (⟨code,okk,val,slow,sh,kd,ky,limit,at',⟨0,0,0,false⟩,bR,aU,bO,⟨0,0,0,0,false,0⟩,⟨0,false,0,0⟩,aQ,⟨0,0⟩,bK⟩:DOS) st s) (.store t2 n2 st) 1 0 (dD t2 n2 st) [] (by kernel_rfl) rfl rfl (by kernel_rfl)),h⟩⟩
 ·exact let X0:DOS:=⟨code,okk,val,slow,sh,kd,ky,limit,at',⟨0,0,0,false⟩,bR,aU,bO,⟨0,0,0,0,false,0⟩,⟨0,false,0,0⟩,aQ,⟨0,0⟩,bK⟩;⟨⟨_,_,((aF.pack (aM (sW t2 n2 X0 st s) 0 1 (lR t2 n2 X0) [1]) (.store t2 n2 st) 1 0 (dD t2 n2 st) [] (by kernel_rfl) rfl rfl (by kernel_rfl)).trans (aF.pack (sW t2 n2 X0 st s) (.doer t2 n2 X0) 0 1 (lR t2 n2 X0) [1] (by kernel_rfl) rfl (congrArg (Prod.mk 1) (tJ (hat hd))) (by kernel_rfl))),h⟩⟩
theorem QM{t n:Int} :bS (obI tbl) 4 (XS t n) (DqO.fin t n):=by
 intro v g p x hp hq K hK;unfold XS at hp;split at hp
 case h_2=>cases hp
 rename_i d code okk val slow sh kd ky limit at' e1 e3 e4 t' n' sub e2;split at hp
 case h_2=>cases hp
 rename_i l2 t2 n2 st l s hs hm;simp only [sI',pI']at hp;obtain⟨rfl,rfl⟩:=hp;obtain⟨⟨rfl,rfl⟩,rfl,rfl,hat,hl,hl2⟩:=hq;have hh:=bB hm hl;cases hh;have hh:=cB hs hl2;cases hh;refine eV hK (fun h=>?_) (fun hd h=>?_)
 ·exact⟨⟨_,_,(aF.weak (bZ _ 0 [10,11,12,13,14,15,16,17,18])).trans ((aF.pick [0,1,2,3,5] rfl).trans ((aEH (g2:=aM (vW t' n' (⟨code,okk,val,slow,sh,kd,ky,limit,at',sub,bR,aU,bO,⟨0,0,0,0,false,0⟩,⟨0,false,0,0⟩,aQ,⟨0,0⟩,bK⟩:DOS) st s) 1 0 (dD t' n' st) []) (by kernel_rfl) (by kernel_rfl)).trans (aF.pack (vW t' n' (⟨code,okk,val,slow,sh,kd,ky,limit,at',sub,bR,aU,bO,⟨0,0,0,0,false,0⟩,⟨0,false,0,0⟩,aQ,⟨0,0⟩,bK⟩:DOS) st s) (.store t' n' st) 1 0 (dD t' n' st) [] (by kernel_rfl) rfl rfl (by kernel_rfl)))),h⟩⟩
 ·exact let X0:DOS:=⟨code,okk,val,slow,sh,kd,ky,limit,at',sub,bR,aU,bO,⟨0,0,0,0,false,0⟩,⟨0,false,0,0⟩,aQ,⟨0,0⟩,bK⟩;⟨⟨_,_,((aF.pack (aM (sW t' n' X0 st s) 0 1 (eG t' n' X0) [1]) (.store t' n' st) 1 0 (dD t' n' st) [] (by kernel_rfl) rfl rfl (by kernel_rfl)).trans (aF.pack (sW t' n' X0 st s) (.doer t' n' X0) 0 1 (eG t' n' X0) [1] (by kernel_rfl) rfl (congrArg (Prod.mk 1) (pJ (hat hd))) (by kernel_rfl))),h⟩⟩
theorem QN{t n:Int} :bS (obI tbl) 4 (XT t n) (DqO.fin t n):=by
 intro v g p x hp hq K hK;unfold XT at hp;split at hp
 case h_2=>cases hp
 rename_i d code okk val slow sh kd ky limit at' e1 e3 e4 t' n' sub e2;split at hp
 case h_2=>cases hp
 rename_i l2 t2 n2 st l s hs hm;simp only [sI',pI']at hp;obtain⟨rfl,rfl⟩:=hp;obtain⟨⟨rfl,rfl⟩,rfl,rfl,hat,hl,hl2⟩:=hq;have hh:=bB hm hl;cases hh;have hh:=cB hs hl2;cases hh;refine eV hK (fun h=>?_) (fun hd h=>?_)
 ·exact⟨⟨_,_,(aF.weak (bZ _ 0 [10,11,12,13,14,15,16,17,18])).trans ((aF.pick [0,1,2,3,5] rfl).trans ((aEH (g2:=aM (vW t' n' (⟨code,okk,val,slow,sh,kd,ky,limit,at',⟨0,0,0,false⟩,sub,aU,bO,⟨0,0,0,0,false,0⟩,⟨0,false,0,0⟩,aQ,⟨0,0⟩,bK⟩:DOS) st s) 1 0 (dD t' n' st) []) (by kernel_rfl) (by kernel_rfl)).trans (aF.pack (vW t' n' (⟨code,okk,val,slow,sh,kd,ky,limit,at',⟨0,0,0,false⟩,sub,aU,bO,⟨0,0,0,0,false,0⟩,⟨0,false,0,0⟩,aQ,⟨0,0⟩,bK⟩:DOS) st s) (.store t' n' st) 1 0 (dD t' n' st) [] (by kernel_rfl) rfl rfl (by kernel_rfl)))),h⟩⟩
 ·rcases hat hd with hat | hat
  ·exact let X0:DOS:=⟨code,okk,val,slow,sh,kd,ky,limit,at',⟨0,0,0,false⟩,sub,aU,bO,⟨0,0,0,0,false,0⟩,⟨0,false,0,0⟩,aQ,⟨0,0⟩,bK⟩;⟨⟨_,_,((aF.pack (aM (sW t' n' X0 st s) 0 1 (dB t' n' X0) [1]) (.store t' n' st) 1 0 (dD t' n' st) [] (by kernel_rfl) rfl rfl (by kernel_rfl)).trans (aF.pack (sW t' n' X0 st s) (.doer t' n' X0) 0 1 (dB t' n' X0) [1] (by kernel_rfl) rfl (congrArg (Prod.mk 1) (sM hat)) (by kernel_rfl))),h⟩⟩
  ·exact let X0:DOS:=⟨code,okk,val,slow,sh,kd,ky,limit,at',⟨0,0,0,false⟩,sub,aU,bO,⟨0,0,0,0,false,0⟩,⟨0,false,0,0⟩,aQ,⟨0,0⟩,bK⟩;⟨⟨_,_,((aF.pack (aM (sW t' n' X0 st s) 0 1 (dB t' n' X0) [1]) (.store t' n' st) 1 0 (dD t' n' st) [] (by kernel_rfl) rfl rfl (by kernel_rfl)).trans (aF.pack (sW t' n' X0 st s) (.doer t' n' X0) 0 1 (dB t' n' X0) [1] (by kernel_rfl) rfl (congrArg (Prod.mk 1) (sQ hat)) (by kernel_rfl))),h⟩⟩
theorem QO{t n:Int} :bS (obI tbl) 4 (XU t n) (DqO.fin t n):=by
 intro v g p x hp hq K hK;unfold XU at hp;split at hp
 case h_2=>cases hp
 rename_i d code okk val slow sh kd ky limit at' e1 e3 e4 t' n' sub e2;split at hp
 case h_2=>cases hp
 rename_i l2 t2 n2 st l s hs hm;simp only [sI',pI']at hp;obtain⟨rfl,rfl⟩:=hp;obtain⟨⟨rfl,rfl⟩,rfl,rfl,hat,hl,hl2⟩:=hq;have hh:=bB hm hl;cases hh;have hh:=cB hs hl2;cases hh;refine eV hK (fun h=>?_) (fun hd h=>?_)
 ·exact⟨⟨_,_,(aF.weak (bZ _ 0 [10,11,12,13,14,15,16,17,18])).trans ((aF.pick [0,1,2,3,5] rfl).trans ((aEH (g2:=aM (vW t' n' (⟨code,okk,val,slow,sh,kd,ky,limit,at',⟨0,0,0,false⟩,bR,sub,bO,⟨0,0,0,0,false,0⟩,⟨0,false,0,0⟩,aQ,⟨0,0⟩,bK⟩:DOS) st s) 1 0 (dD t' n' st) []) (by kernel_rfl) (by kernel_rfl)).trans (aF.pack (vW t' n' (⟨code,okk,val,slow,sh,kd,ky,limit,at',⟨0,0,0,false⟩,bR,sub,bO,⟨0,0,0,0,false,0⟩,⟨0,false,0,0⟩,aQ,⟨0,0⟩,bK⟩:DOS) st s) (.store t' n' st) 1 0 (dD t' n' st) [] (by kernel_rfl) rfl rfl (by kernel_rfl)))),h⟩⟩
 ·exact let X0:DOS:=⟨code,okk,val,slow,sh,kd,ky,limit,at',⟨0,0,0,false⟩,bR,sub,bO,⟨0,0,0,0,false,0⟩,⟨0,false,0,0⟩,aQ,⟨0,0⟩,bK⟩;⟨⟨_,_,((aF.pack (aM (sW t' n' X0 st s) 0 1 (fI t' n' X0) [1]) (.store t' n' st) 1 0 (dD t' n' st) [] (by kernel_rfl) rfl rfl (by kernel_rfl)).trans (aF.pack (sW t' n' X0 st s) (.doer t' n' X0) 0 1 (fI t' n' X0) [1] (by kernel_rfl) rfl (congrArg (Prod.mk 1) (sN (hat hd))) (by kernel_rfl))),h⟩⟩
theorem QP{t n:Int} :bS (obI tbl) 4 (XV t n) (DqO.fin t n):=by
 intro v g p x hp hq K hK;unfold XV at hp;split at hp
 case h_2=>cases hp
 rename_i d code okk val slow sh kd ky limit at' e1 e3 e4 t' n' sub e2;split at hp
 case h_2=>cases hp
 rename_i l2 t2 n2 st l s hs hm;simp only [sI',pI']at hp;obtain⟨rfl,rfl⟩:=hp;obtain⟨⟨rfl,rfl⟩,rfl,rfl,hat,hl,hl2⟩:=hq;have hh:=bB hm hl;cases hh;have hh:=cB hs hl2;cases hh;refine eV hK (fun h=>?_) (fun hd h=>?_)
 ·exact⟨⟨_,_,(aF.weak (bZ _ 0 [10,11,12,13,14,15,16,17,18])).trans ((aF.pick [0,1,2,3,5] rfl).trans ((aEH (g2:=aM (vW t' n' (⟨code,okk,val,slow,sh,kd,ky,limit,at',⟨0,0,0,false⟩,bR,aU,sub,⟨0,0,0,0,false,0⟩,⟨0,false,0,0⟩,aQ,⟨0,0⟩,bK⟩:DOS) st s) 1 0 (dD t' n' st) []) (by kernel_rfl) (by kernel_rfl)).trans (aF.pack (vW t' n' (⟨code,okk,val,slow,sh,kd,ky,limit,at',⟨0,0,0,false⟩,bR,aU,sub,⟨0,0,0,0,false,0⟩,⟨0,false,0,0⟩,aQ,⟨0,0⟩,bK⟩:DOS) st s) (.store t' n' st) 1 0 (dD t' n' st) [] (by kernel_rfl) rfl rfl (by kernel_rfl)))),h⟩⟩
 ·exact let X0:DOS:=⟨code,okk,val,slow,sh,kd,ky,limit,at',⟨0,0,0,false⟩,bR,aU,sub,⟨0,0,0,0,false,0⟩,⟨0,false,0,0⟩,aQ,⟨0,0⟩,bK⟩;⟨⟨_,_,((aF.pack (aM (sW t' n' X0 st s) 0 1 (fK t' n' X0) [1]) (.store t' n' st) 1 0 (dD t' n' st) [] (by kernel_rfl) rfl rfl (by kernel_rfl)).trans (aF.pack (sW t' n' X0 st s) (.doer t' n' X0) 0 1 (fK t' n' X0) [1] (by kernel_rfl) rfl (congrArg (Prod.mk 1) (sO (hat hd))) (by kernel_rfl))),h⟩⟩
theorem QQ{t n:Int} :bS (obI tbl) 4 (XW t n) (DqO.fin t n):=by
 intro v g p x hp hq K hK;unfold XW at hp;split at hp
 case h_2=>cases hp
 rename_i d code okk val slow sh kd ky limit at' e1 e3 e4 t' n' sub e2;split at hp
 case h_2=>cases hp
 rename_i l2 t2 n2 st l s hs hm;simp only [sI',pI']at hp;obtain⟨rfl,rfl⟩:=hp;obtain⟨⟨rfl,rfl⟩,rfl,rfl,hat,hl,hl2⟩:=hq;have hh:=bB hm hl;cases hh;have hh:=cB hs hl2;cases hh;refine eV hK (fun h=>?_) (fun hd h=>?_)
 ·exact⟨⟨_,_,(aF.weak (bZ _ 0 [10,11,12,13,14,15,16,17,18])).trans ((aF.pick [0,1,2,3,5] rfl).trans ((aEH (g2:=aM (vW t' n' (⟨code,okk,val,slow,sh,kd,ky,limit,at',⟨0,0,0,false⟩,bR,aU,bO,sub,⟨0,false,0,0⟩,aQ,⟨0,0⟩,bK⟩:DOS) st s) 1 0 (dD t' n' st) []) (by kernel_rfl) (by kernel_rfl)).trans (aF.pack (vW t' n' (⟨code,okk,val,slow,sh,kd,ky,limit,at',⟨0,0,0,false⟩,bR,aU,bO,sub,⟨0,false,0,0⟩,aQ,⟨0,0⟩,bK⟩:DOS) st s) (.store t' n' st) 1 0 (dD t' n' st) [] (by kernel_rfl) rfl rfl (by kernel_rfl)))),h⟩⟩
 ·exact let X0:DOS:=⟨code,okk,val,slow,sh,kd,ky,limit,at',⟨0,0,0,false⟩,bR,aU,bO,sub,⟨0,false,0,0⟩,aQ,⟨0,0⟩,bK⟩;⟨⟨_,_,((aF.pack (aM (sW t' n' X0 st s) 0 1 (fF t' n' X0) [1]) (.store t' n' st) 1 0 (dD t' n' st) [] (by kernel_rfl) rfl rfl (by kernel_rfl)).trans (aF.pack (sW t' n' X0 st s) (.doer t' n' X0) 0 1 (fF t' n' X0) [1] (by kernel_rfl) rfl (congrArg (Prod.mk 1) (sP (hat hd))) (by kernel_rfl))),h⟩⟩
theorem QR{t n:Int} :bS (obI tbl) 4 (XX t n) (DqO.fin t n):=by
 intro v g p x hp hq K hK;unfold XX at hp;split at hp
 case h_2=>cases hp
 rename_i d code okk val slow sh kd ky limit at' e1 e3 e4 t' n' sub e2;split at hp
 case h_2=>cases hp
 rename_i l2 t2 n2 st l s hs hm;simp only [sI',pI']at hp;obtain⟨rfl,rfl⟩:=hp;obtain⟨⟨rfl,rfl⟩,rfl,rfl,hat,hl,hl2⟩:=hq;have hh:=bB hm hl;cases hh;have hh:=cB hs hl2;cases hh;refine eV hK (fun h=>?_) (fun hd h=>?_)
 ·exact⟨⟨_,_,(aF.weak (bZ _ 0 [10,11,12,13,14,15,16,17,18])).trans ((aF.pick [0,1,2,3,5] rfl).trans ((aEH (g2:=aM (vW t' n' (⟨code,okk,val,slow,sh,kd,ky,limit,at',⟨0,0,0,false⟩,bR,aU,bO,⟨0,0,0,0,false,0⟩,sub,aQ,⟨0,0⟩,bK⟩:DOS) st s) 1 0 (dD t' n' st) []) (by kernel_rfl) (by kernel_rfl)).trans (aF.pack (vW t' n' (⟨code,okk,val,slow,sh,kd,ky,limit,at',⟨0,0,0,false⟩,bR,aU,bO,⟨0,0,0,0,false,0⟩,sub,aQ,⟨0,0⟩,bK⟩:DOS) st s) (.store t' n' st) 1 0 (dD t' n' st) [] (by kernel_rfl) rfl rfl (by kernel_rfl)))),h⟩⟩
 ·exact let X0:DOS:=⟨code,okk,val,slow,sh,kd,ky,limit,at',⟨0,0,0,false⟩,bR,aU,bO,⟨0,0,0,0,false,0⟩,sub,aQ,⟨0,0⟩,bK⟩;⟨⟨_,_,((aF.pack (aM (sW t' n' X0 st s) 0 1 (fG t' n' X0) [1]) (.store t' n' st) 1 0 (dD t' n' st) [] (by kernel_rfl) rfl rfl (by kernel_rfl)).trans (aF.pack (sW t' n' X0 st s) (.doer t' n' X0) 0 1 (fG t' n' X0) [1] (by kernel_rfl) rfl (congrArg (Prod.mk 1) (sR (hat hd))) (by kernel_rfl))),h⟩⟩
theorem QS{t n:Int} :bS (obI tbl) 4 (XY t n) (DqO.fin t n):=by
 intro v g p x hp hq K hK;unfold XY at hp;split at hp
 case h_2=>cases hp
 rename_i d code okk val slow sh kd ky limit at' e1 e3 e4 t' n' sub e2;split at hp
 case h_2=>cases hp
 rename_i l2 t2 n2 st l s hs hm;simp only [sI',pI']at hp;obtain⟨rfl,rfl⟩:=hp;obtain⟨⟨rfl,rfl⟩,rfl,rfl,hat,hl,hl2⟩:=hq;have hh:=bB hm hl;cases hh;have hh:=cB hs hl2;cases hh;refine eV hK (fun h=>?_) (fun hd h=>?_)
 ·exact⟨⟨_,_,(aF.weak (bZ _ 0 [10,11,12,13,14,15,16,17,18])).trans ((aF.pick [0,1,2,3,5] rfl).trans ((aEH (g2:=aM (vW t' n' (⟨code,okk,val,slow,sh,kd,ky,limit,at',⟨0,0,0,false⟩,bR,aU,bO,⟨0,0,0,0,false,0⟩,⟨0,false,0,0⟩,sub,⟨0,0⟩,bK⟩:DOS) st s) 1 0 (dD t' n' st) []) (by kernel_rfl) (by kernel_rfl)).trans (aF.pack (vW t' n' (⟨code,okk,val,slow,sh,kd,ky,limit,at',⟨0,0,0,false⟩,bR,aU,bO,⟨0,0,0,0,false,0⟩,⟨0,false,0,0⟩,sub,⟨0,0⟩,bK⟩:DOS) st s) (.store t' n' st) 1 0 (dD t' n' st) [] (by kernel_rfl) rfl rfl (by kernel_rfl)))),h⟩⟩
 ·exact let X0:DOS:=⟨code,okk,val,slow,sh,kd,ky,limit,at',⟨0,0,0,false⟩,bR,aU,bO,⟨0,0,0,0,false,0⟩,⟨0,false,0,0⟩,sub,⟨0,0⟩,bK⟩;⟨⟨_,_,((aF.pack (aM (sW t' n' X0 st s) 0 1 (fJ t' n' X0) [1]) (.store t' n' st) 1 0 (dD t' n' st) [] (by kernel_rfl) rfl rfl (by kernel_rfl)).trans (aF.pack (sW t' n' X0 st s) (.doer t' n' X0) 0 1 (fJ t' n' X0) [1] (by kernel_rfl) rfl (congrArg (Prod.mk 1) (sS (hat hd))) (by kernel_rfl))),h⟩⟩
theorem QT{t n:Int} :bS (obI tbl) 4 (XZ t n) (DqO.fin t n):=by
 intro v g p x hp hq K hK;unfold XZ at hp;split at hp
 case h_2=>cases hp
 rename_i d code okk val slow sh kd ky limit at' e1 e3 e4 t' n' sub e2;split at hp
 case h_2=>cases hp
 rename_i l2 t2 n2 st l s hs hm;simp only [sI',pI']at hp;obtain⟨rfl,rfl⟩:=hp;obtain⟨⟨rfl,rfl⟩,rfl,rfl,hat,hl,hl2⟩:=hq;have hh:=bB hm hl;cases hh;have hh:=cB hs hl2;cases hh;refine eV hK (fun h=>?_) (fun hd h=>?_)
 ·exact⟨⟨_,_,(aF.weak (bZ _ 0 [10,11,12,13,14,15,16,17,18])).trans ((aF.pick [0,1,2,3,5] rfl).trans ((aEH (g2:=aM (vW t' n' (⟨code,okk,val,slow,sh,kd,ky,limit,at',⟨0,0,0,false⟩,bR,aU,bO,⟨0,0,0,0,false,0⟩,⟨0,false,0,0⟩,aQ,sub,bK⟩:DOS) st s) 1 0 (dD t' n' st) []) (by kernel_rfl) (by kernel_rfl)).trans (aF.pack (vW t' n' (⟨code,okk,val,slow,sh,kd,ky,limit,at',⟨0,0,0,false⟩,bR,aU,bO,⟨0,0,0,0,false,0⟩,⟨0,false,0,0⟩,aQ,sub,bK⟩:DOS) st s) (.store t' n' st) 1 0 (dD t' n' st) [] (by kernel_rfl) rfl rfl (by kernel_rfl)))),h⟩⟩
 ·exact let X0:DOS:=⟨code,okk,val,slow,sh,kd,ky,limit,at',⟨0,0,0,false⟩,bR,aU,bO,⟨0,0,0,0,false,0⟩,⟨0,false,0,0⟩,aQ,sub,bK⟩;⟨⟨_,_,((aF.pack (aM (sW t' n' X0 st s) 0 1 (fH t' n' X0) [1]) (.store t' n' st) 1 0 (dD t' n' st) [] (by kernel_rfl) rfl rfl (by kernel_rfl)).trans (aF.pack (sW t' n' X0 st s) (.doer t' n' X0) 0 1 (fH t' n' X0) [1] (by kernel_rfl) rfl (congrArg (Prod.mk 1) (sT (hat hd))) (by kernel_rfl))),h⟩⟩
theorem QU{t n:Int} :bS (obI tbl) 4 (X0 t n) (DqO.fin t n):=by
 intro v g p x hp hq K hK;unfold X0 at hp;split at hp
 case h_2=>cases hp
 rename_i d code okk val slow sh kd ky limit at' e1 e3 e4 t' n' sub e2;split at hp
 case h_2=>cases hp
 rename_i l2 t2 n2 st l s hs hm;simp only [sI',pI']at hp;obtain⟨rfl,rfl⟩:=hp;obtain⟨⟨rfl,rfl⟩,rfl,rfl,hat,hl,hl2⟩:=hq;have hh:=bB hm hl;cases hh;have hh:=cB hs hl2;cases hh;refine eV hK (fun h=>?_) (fun hd h=>?_)
 ·exact⟨⟨_,_,(aF.weak (bZ _ 0 [10,11,12,13,14,15,16,17,18])).trans ((aF.pick [0,1,2,3,5] rfl).trans ((aEH (g2:=aM (vW t' n' (⟨code,okk,val,slow,sh,kd,ky,limit,at',⟨0,0,0,false⟩,bR,aU,bO,⟨0,0,0,0,false,0⟩,⟨0,false,0,0⟩,aQ,⟨0,0⟩,sub⟩:DOS) st s) 1 0 (dD t' n' st) []) (by kernel_rfl) (by kernel_rfl)).trans (aF.pack (vW t' n' (⟨code,okk,val,slow,sh,kd,ky,limit,at',⟨0,0,0,false⟩,bR,aU,bO,⟨0,0,0,0,false,0⟩,⟨0,false,0,0⟩,aQ,⟨0,0⟩,sub⟩:DOS) st s) (.store t' n' st) 1 0 (dD t' n' st) [] (by kernel_rfl) rfl rfl (by kernel_rfl)))),h⟩⟩
 ·exact let X0:DOS:=⟨code,okk,val,slow,sh,kd,ky,limit,at',⟨0,0,0,false⟩,bR,aU,bO,⟨0,0,0,0,false,0⟩,⟨0,false,0,0⟩,aQ,⟨0,0⟩,sub⟩;⟨⟨_,_,((aF.pack (aM (sW t' n' X0 st s) 0 1 (fL t' n' X0) [1]) (.store t' n' st) 1 0 (dD t' n' st) [] (by kernel_rfl) rfl rfl (by kernel_rfl)).trans (aF.pack (sW t' n' X0 st s) (.doer t' n' X0) 0 1 (fL t' n' X0) [1] (by kernel_rfl) rfl (congrArg (Prod.mk 1) (sU (hat hd))) (by kernel_rfl))),h⟩⟩
theorem kS{t n:Int} :bS (obI tbl) 4 (uY t n) (DqO.fin t n):=by
 intro v g p x hp hq K hK;unfold uY at hp;split at hp
 ·rename_i r hr;cases hp;exact QL v g p x hr hq K hK
 split at hp
 ·rename_i r hr;cases hp;exact QM v g p x hr hq K hK
 split at hp
 ·rename_i r hr;cases hp;exact QN v g p x hr hq K hK
 split at hp
 ·rename_i r hr;cases hp;exact QO v g p x hr hq K hK
 split at hp
 ·rename_i r hr;cases hp;exact QP v g p x hr hq K hK
 split at hp
 ·rename_i r hr;cases hp;exact QQ v g p x hr hq K hK
 split at hp
 ·rename_i r hr;cases hp;exact QR v g p x hr hq K hK
 split at hp
 ·rename_i r hr;cases hp;exact QS v g p x hr hq K hK
 split at hp
 ·rename_i r hr;cases hp;exact QT v g p x hr hq K hK
 exact QU v g p x hp hq K hK
abbrev w26:=false=false→(3:Int)=(3:Int)
abbrev w27(n:Int)(s:MS)(st:STS)(t:Int)(x:DOS):Tr DqO:=.ret {d:=false,x:= {x with at':=3,hd:=dX,hp:=bR,en:=aU,ft:=(jS t n x.5 x.6 x.7 x.8 st).1,an:=dV,aw:=dW,fn:=aQ,dr:=eQ,sw:=bK},st:=(jS t n x.5 x.6 x.7 x.8 st).2,s:=(pA t n x.10 s).3}
abbrev w28(x:DOS):=!cC x.5 x.6 x.7
abbrev w2b:=false=false→(2:Int)=(2:Int)
abbrev w2d(n:Int)(s:MS)(st:STS)(t:Int)(x:DOS):=vA t n (HdO.x (pA t n x.10 s)).1 (HdO.x (pA t n x.10 s)).2 x.8 st
abbrev w2e:=false=false→(1:Int)=(1:Int)∨(1:Int)=(5:Int)
def zK(t n:Int)(x:DOS)(st:STS)(s:MS):Tr DqO:=.pre True (.ite (w28 x) (.pre (lE' s.3∧(0:Int)≤s.4∧s.4≤(4611686018427387904:Int)) (.pre ((t=t∧n=n)∧t=t∧n=n∧(true=false→(0:Int)=(0:Int))∧lE' s.3∧lE' st.3) (.ret {d:=true,x:= {x with code:=1,okk:=false,val:=0,at':=0,hp:=bR,en:=aU,ft:=bO,an:=dV,aw:=dW,fn:=aQ,dr:=eQ,sw:=bK},st:=st,s:= {s with c:=s.4+1,k:=1,a:=0,o:=aC s.3 0,w:=aC s.3 0,ok:=bQ s.3 0} }))) (.pre (lE' s.3∧ZR t n x.10 s) (.ite (pA t n x.10 s).1 (.ite (ilt (HdO.x (pA t n x.10 s)).1 0) (.pre True (.ite (fT x.6) (.ite (ieq st.2 0) (.pre (lE' st.3∧(t=t∧n=n∧lE' st.3)∧True) (.pre ((t=t∧n=n)∧t=t∧n=n∧w2b∧lE' (HdO.s (pA t n x.10 s)).3∧lE' st.3) (.ret {d:=false,x:= {x with at':=2,hd:=dX,hp:=bR,en:=aU,ft:=bO,an:=dV,aw:=dW,fn:=aQ,dr:=eQ,sw:=bK},st:=st,s:=(pA t n x.10 s).3}))) (.pre ((lE' st.3∧tQ t n x.5 x.6 x.7 x.8 st)∧True) (.pre ((t=t∧n=n)∧t=t∧n=n∧w26∧lE' (HdO.s (pA t n x.10 s)).3∧lE' (Prod.snd (jS t n x.5 x.6 x.7 x.8 st)).3) (w27 n s st t x)))) (.pre ((lE' st.3∧tQ t n x.5 x.6 x.7 x.8 st)∧True) (.pre ((t=t∧n=n)∧t=t∧n=n∧w26∧lE' (HdO.s (pA t n x.10 s)).3∧lE' (Prod.snd (jS t n x.5 x.6 x.7 x.8 st)).3) (w27 n s st t x))))) (.pre ((lE' st.3∧BF t n (HdO.x (pA t n x.10 s)).1 (HdO.x (pA t n x.10 s)).2 x.8 st)∧True) (.pre ((t=t∧n=n)∧t=t∧n=n∧w2e∧lE' (HdO.s (pA t n x.10 s)).3∧lE' (Prod.snd (w2d n s st t x)).3) (.ret {d:=false,x:= {x with at':=1,hd:=dX,hp:=(w2d n s st t x).1,en:=aU,ft:=bO,an:=dV,aw:=dW,fn:=aQ,dr:=eQ,sw:=bK},st:=(w2d n s st t x).2,s:=(pA t n x.10 s).3})))) (.pre ((t=t∧n=n)∧t=t∧n=n∧(false=false→(0:Int)=(0:Int))∧lE' (HdO.s (pA t n x.10 s)).3∧lE' st.3) (.ret {d:=false,x:= {x with at':=0,hd:=(pA t n x.10 s).2,hp:=bR,en:=aU,ft:=bO,an:=dV,aw:=dW,fn:=aQ,dr:=eQ,sw:=bK},st:=st,s:=(pA t n x.10 s).3})))))
theorem G3(t n:Int)(x:DOS)(st:STS)(s:MS)(K:DqO→Prop)(h:(zK t n x st s).run K):cT' 104 [.ptr 0 0,.ptr 2 0] [cE' [.ptr 1 0,.I x.code,.bool x.okk,.I x.val,.bool x.slow,.I x.sh,.I x.kd,.I x.ky,.I x.limit,.I 0,.ptr 4 0,.O,.O,.O,.O,.O,.O,.O,.O],iT 5 t n st,bE 3 s,bF s,some (.abs (.head t n x.hd) []),iU st] (bM 4 0 [10,11,12,13,14,15,16,17,18] [(.cell 1 4,.ints (some .i64))] (uY t n) K):=by
 exact cM' (E:=EH) (by kernel_rfl) h
abbrev w25(n:Int)(s:MS)(st:STS)(t:Int)(x:DOS):Tr DqO:=.ret {d:=false,x:= {x with at':=3,hd:=dX,hp:=bR,en:=aU,ft:=(jS t n x.5 x.6 x.7 x.8 (gP t n x.11 st s).3).1,an:=dV,aw:=dW,fn:=aQ,dr:=eQ,sw:=bK},st:=(jS t n x.5 x.6 x.7 x.8 (gP t n x.11 st s).3).2,s:=(gP t n x.11 st s).4}
abbrev w2a(n:Int)(s:MS)(st:STS)(t:Int)(x:DOS):=HpO.st (gP t n x.11 st s)
def zL(t n:Int)(x:DOS)(st:STS)(s:MS):Tr DqO:=.pre True (.ite (w28 x) (.pre (lE' s.3∧(0:Int)≤s.4∧s.4≤(4611686018427387904:Int)) (.pre ((t=t∧n=n)∧t=t∧n=n∧(true=false→(1:Int)=(1:Int)∨(1:Int)=(5:Int))∧lE' s.3∧lE' st.3) (.ret {d:=true,x:= {x with code:=1,okk:=false,val:=0,at':=1,hd:=dX,en:=aU,ft:=bO,an:=dV,aw:=dW,fn:=aQ,dr:=eQ,sw:=bK},st:=st,s:= {s with c:=s.4+1,k:=1,a:=0,o:=aC s.3 0,w:=aC s.3 0,ok:=bQ s.3 0} }))) (.pre ((lE' s.3∧lE' st.3∧t=t∧n=n)∧LU t n x.11 st s) (.ite (gP t n x.11 st s).1 (.pre True (.ite (fT x.6) (.ite (ieq (w2a n s st t x).2 0) (.pre (lE' (w2a n s st t x).3∧(t=t∧n=n∧lE' (w2a n s st t x).3)∧True) (.pre ((t=t∧n=n)∧t=t∧n=n∧w2b∧lE' (HpO.s (gP t n x.11 st s)).3∧lE' (w2a n s st t x).3) (.ret {d:=false,x:= {x with at':=2,hd:=dX,hp:=bR,en:=aU,ft:=bO,an:=dV,aw:=dW,fn:=aQ,dr:=eQ,sw:=bK},st:=(gP t n x.11 st s).3,s:=(gP t n x.11 st s).4}))) (.pre ((lE' (w2a n s st t x).3∧tQ t n x.5 x.6 x.7 x.8 (gP t n x.11 st s).3)∧True) (.pre ((t=t∧n=n)∧t=t∧n=n∧w26∧lE' (HpO.s (gP t n x.11 st s)).3∧lE' (Prod.snd (jS t n x.5 x.6 x.7 x.8 (gP t n x.11 st s).3)).3) (w25 n s st t x)))) (.pre ((lE' (w2a n s st t x).3∧tQ t n x.5 x.6 x.7 x.8 (gP t n x.11 st s).3)∧True) (.pre ((t=t∧n=n)∧t=t∧n=n∧w26∧lE' (HpO.s (gP t n x.11 st s)).3∧lE' (Prod.snd (jS t n x.5 x.6 x.7 x.8 (gP t n x.11 st s).3)).3) (w25 n s st t x))))) (.pre ((t=t∧n=n)∧t=t∧n=n∧w2e∧lE' (HpO.s (gP t n x.11 st s)).3∧lE' (w2a n s st t x).3) (.ret {d:=false,x:= {x with at':=1,hd:=dX,hp:=(gP t n x.11 st s).2,en:=aU,ft:=bO,an:=dV,aw:=dW,fn:=aQ,dr:=eQ,sw:=bK},st:=(gP t n x.11 st s).3,s:=(gP t n x.11 st s).4})))))
theorem G4(t n:Int)(x:DOS)(st:STS)(s:MS)(K:DqO→Prop)(h:(zL t n x st s).run K):cT' 104 [.ptr 0 0,.ptr 2 0] [cE' [.ptr 1 0,.I x.code,.bool x.okk,.I x.val,.bool x.slow,.I x.sh,.I x.kd,.I x.ky,.I x.limit,.I 1,.O,.ptr 4 0,.O,.O,.O,.O,.O,.O,.O],iT 5 t n st,bE 3 s,bF s,some (.abs (.help t n x.hp) [1]),iU st] (bM 4 0 [10,11,12,13,14,15,16,17,18] [(.cell 1 4,.ints (some .i64))] (uY t n) K):=by
 exact cM' (E:=EH) (by kernel_rfl) h
abbrev w23:=false=false→(8:Int)=(8:Int)
def zM(t n:Int)(x:DOS)(st:STS)(s:MS):Tr DqO:=.pre True (.ite (w28 x) (.pre (lE' s.3∧(0:Int)≤s.4∧s.4≤(4611686018427387904:Int)) (.pre ((t=t∧n=n)∧t=t∧n=n∧(true=false→(2:Int)=(2:Int))∧lE' s.3∧lE' st.3) (.ret {d:=true,x:= {x with code:=1,okk:=false,val:=0,at':=2,hd:=dX,hp:=bR,ft:=bO,an:=dV,aw:=dW,fn:=aQ,dr:=eQ,sw:=bK},st:=st,s:= {s with c:=s.4+1,k:=1,a:=0,o:=aC s.3 0,w:=aC s.3 0,ok:=bQ s.3 0} }))) (.pre ((lE' s.3∧lE' st.3∧t=t∧n=n)∧IP t n (DOS.en x) st s) (.ite (enF t n x.12 st s).1 (.ite (EO.e (enF t n x.12 st s)).2 (.pre (rO t n (EO.st (enF t n x.12 st s)).1∧True) (.pre ((t=t∧n=n)∧t=t∧n=n∧w23∧lE' (EO.s (enF t n x.12 st s)).3∧lE' (EO.st (enF t n x.12 st s)).3) (.ret {d:=false,x:= {x with code:=4,okk:=false,val:=0,at':=8,hd:=dX,hp:=bR,en:=aU,ft:=bO,an:=dV,aw:=dW,fn:=aQ,dr:=zU t n (EO.st (enF t n x.12 st s)).1,sw:=bK},st:=(enF t n x.12 st s).3,s:=(enF t n x.12 st s).4}))) (.pre ((lE' (EO.st (enF t n x.12 st s)).3∧tQ t n x.5 x.6 x.7 x.8 (enF t n x.12 st s).3)∧True) (.pre ((t=t∧n=n)∧t=t∧n=n∧w26∧lE' (EO.s (enF t n x.12 st s)).3∧lE' (Prod.snd (jS t n x.5 x.6 x.7 x.8 (enF t n x.12 st s).3)).3) (.ret {d:=false,x:= {x with at':=3,hd:=dX,hp:=bR,en:=aU,ft:=(jS t n x.5 x.6 x.7 x.8 (enF t n x.12 st s).3).1,an:=dV,aw:=dW,fn:=aQ,dr:=eQ,sw:=bK},st:=(jS t n x.5 x.6 x.7 x.8 (enF t n x.12 st s).3).2,s:=(enF t n x.12 st s).4})))) (.pre ((t=t∧n=n)∧t=t∧n=n∧w2b∧lE' (EO.s (enF t n x.12 st s)).3∧lE' (EO.st (enF t n x.12 st s)).3) (.ret {d:=false,x:= {x with at':=2,hd:=dX,hp:=bR,en:=(enF t n x.12 st s).2,ft:=bO,an:=dV,aw:=dW,fn:=aQ,dr:=eQ,sw:=bK},st:=(enF t n x.12 st s).3,s:=(enF t n x.12 st s).4})))))
theorem G5(t n:Int)(x:DOS)(st:STS)(s:MS)(K:DqO→Prop)(h:(zM t n x st s).run K):cT' 104 [.ptr 0 0,.ptr 2 0] [cE' [.ptr 1 0,.I x.code,.bool x.okk,.I x.val,.bool x.slow,.I x.sh,.I x.kd,.I x.ky,.I x.limit,.I 2,.O,.O,.ptr 4 0,.O,.O,.O,.O,.O,.O],iT 5 t n st,bE 3 s,bF s,some (.abs (.ensure t n x.en) [1]),iU st] (bM 4 0 [10,11,12,13,14,15,16,17,18] [(.cell 1 4,.ints (some .i64))] (uY t n) K):=by
 exact cM' (E:=EH) (by kernel_rfl) h
abbrev w29(n:Int)(s:MS)(st:STS)(t:Int)(x:DOS):=FtO.st (hU t n x.13 st s)
abbrev w22(n:Int)(s:MS)(st:STS)(t:Int)(x:DOS):Tr DqO:=.ret {d:=false,x:= {x with code:=(FtO.x (hU t n x.13 st s)).1,okk:=(FtO.x (hU t n x.13 st s)).2,val:=(FtO.x (hU t n x.13 st s)).3,at':=8,hd:=dX,hp:=bR,en:=aU,ft:=bO,an:=dV,aw:=dW,fn:=aQ,dr:=zU t n (w29 n s st t x).1,sw:=bK},st:=(hU t n x.13 st s).3,s:=(hU t n x.13 st s).4}
abbrev w2c:=false=false→(7:Int)=(7:Int)
def zN(t n:Int)(x:DOS)(st:STS)(s:MS):Tr DqO:=.pre True (.ite (w28 x) (.pre (lE' s.3∧(0:Int)≤s.4∧s.4≤(4611686018427387904:Int)) (.pre ((t=t∧n=n)∧t=t∧n=n∧(true=false→(3:Int)=(3:Int))∧lE' s.3∧lE' st.3) (.ret {d:=true,x:= {x with code:=1,okk:=false,val:=0,at':=3,hd:=dX,hp:=bR,en:=aU,an:=dV,aw:=dW,fn:=aQ,dr:=eQ,sw:=bK},st:=st,s:= {s with c:=s.4+1,k:=1,a:=0,o:=aC s.3 0,w:=aC s.3 0,ok:=bQ s.3 0} }))) (.pre ((lE' s.3∧lE' st.3∧t=t∧n=n)∧RZ t n x.13 st s) (.ite (hU t n x.13 st s).1 (.ite (!(FtO.x (hU t n x.13 st s)).4) (.ite (!(FtO.x (hU t n x.13 st s)).2) (.pre (rO t n (w29 n s st t x).1∧True) (.pre ((t=t∧n=n)∧t=t∧n=n∧w23∧lE' (FtO.s (hU t n x.13 st s)).3∧lE' (w29 n s st t x).3) (w22 n s st t x))) (.pre True (.ite (!tR x.5 x.6) (.pre (rO t n (w29 n s st t x).1∧True) (.pre ((t=t∧n=n)∧t=t∧n=n∧w23∧lE' (FtO.s (hU t n x.13 st s)).3∧lE' (w29 n s st t x).3) (w22 n s st t x))) (.pre True (.pre (oC t n (w29 n s st t x).1 (eU x.5 x.7) (lV x.5 x.6 x.7) x.8∧True) (.pre ((t=t∧n=n)∧t=t∧n=n∧w2c∧lE' (FtO.s (hU t n x.13 st s)).3∧lE' (w29 n s st t x).3) (.ret {d:=false,x:= {x with code:=(FtO.x (hU t n x.13 st s)).1,okk:=(FtO.x (hU t n x.13 st s)).2,val:=(FtO.x (hU t n x.13 st s)).3,at':=7,hd:=dX,hp:=bR,en:=aU,ft:=bO,an:=dV,aw:=dW,fn:=tP t n (w29 n s st t x).1 (eU x.5 x.7) (lV x.5 x.6 x.7) x.8,dr:=eQ,sw:=bK},st:=(hU t n x.13 st s).3,s:=(hU t n x.13 st s).4}))))))) (.pre (J6 t n (w29 n s st t x).1 x.5 x.6 x.7∧True) (.pre ((t=t∧n=n)∧t=t∧n=n∧(false=false→(4:Int)=(4:Int))∧lE' (FtO.s (hU t n x.13 st s)).3∧lE' (w29 n s st t x).3) (.ret {d:=false,x:= {x with slow:=true,at':=4,hd:=dX,hp:=bR,en:=aU,ft:=bO,an:=WQ t n (w29 n s st t x).1 x.5 x.6 x.7,aw:=dW,fn:=aQ,dr:=eQ,sw:=bK},st:=(hU t n x.13 st s).3,s:=(hU t n x.13 st s).4})))) (.pre ((t=t∧n=n)∧t=t∧n=n∧w26∧lE' (FtO.s (hU t n x.13 st s)).3∧lE' (w29 n s st t x).3) (.ret {d:=false,x:= {x with at':=3,hd:=dX,hp:=bR,en:=aU,ft:=(hU t n x.13 st s).2,an:=dV,aw:=dW,fn:=aQ,dr:=eQ,sw:=bK},st:=(hU t n x.13 st s).3,s:=(hU t n x.13 st s).4})))))
theorem G6(t n:Int)(x:DOS)(st:STS)(s:MS)(K:DqO→Prop)(h:(zN t n x st s).run K):cT' 104 [.ptr 0 0,.ptr 2 0] [cE' [.ptr 1 0,.I x.code,.bool x.okk,.I x.val,.bool x.slow,.I x.sh,.I x.kd,.I x.ky,.I x.limit,.I 3,.O,.O,.O,.ptr 4 0,.O,.O,.O,.O,.O],iT 5 t n st,bE 3 s,bF s,some (.abs (.fast t n x.ft) [1]),iU st] (bM 4 0 [10,11,12,13,14,15,16,17,18] [(.cell 1 4,.ints (some .i64))] (uY t n) K):=by
 exact cM' (E:=EH) (by kernel_rfl) h
abbrev w2f:=false=false→(5:Int)=(1:Int)∨(5:Int)=(5:Int)
def zO(t n:Int)(x:DOS)(st:STS)(s:MS):Tr DqO:=.pre True (.ite (w28 x) (.pre (lE' s.3∧(0:Int)≤s.4∧s.4≤(4611686018427387904:Int)) (.pre ((t=t∧n=n)∧t=t∧n=n∧(true=false→(4:Int)=(4:Int))∧lE' s.3∧lE' st.3) (.ret {d:=true,x:= {x with code:=1,okk:=false,val:=0,at':=4,hd:=dX,hp:=bR,en:=aU,ft:=bO,aw:=dW,fn:=aQ,dr:=eQ,sw:=bK},st:=st,s:= {s with c:=s.4+1,k:=1,a:=0,o:=aC s.3 0,w:=aC s.3 0,ok:=bQ s.3 0} }))) (.pre (lE' s.3∧WV t n x.14 s) (.ite (C5 t n x.14 s).1 (.pre ((lE' st.3∧BF t n st.1 (AnO.x (C5 t n x.14 s)).1 x.8 st)∧True) (.pre ((t=t∧n=n)∧t=t∧n=n∧w2f∧lE' (AnO.s (C5 t n x.14 s)).3∧lE' (Prod.snd (vA t n st.1 (AnO.x (C5 t n x.14 s)).1 x.8 st)).3) (.ret {d:=false,x:= {x with at':=5,hd:=dX,hp:=(vA t n st.1 (AnO.x (C5 t n x.14 s)).1 x.8 st).1,en:=aU,ft:=bO,an:=dV,aw:=dW,fn:=aQ,dr:=eQ,sw:=bK},st:=(vA t n st.1 (AnO.x (C5 t n x.14 s)).1 x.8 st).2,s:=(C5 t n x.14 s).3}))) (.pre ((t=t∧n=n)∧t=t∧n=n∧(false=false→(4:Int)=(4:Int))∧lE' (AnO.s (C5 t n x.14 s)).3∧lE' st.3) (.ret {d:=false,x:= {x with at':=4,hd:=dX,hp:=bR,en:=aU,ft:=bO,an:=(C5 t n x.14 s).2,aw:=dW,fn:=aQ,dr:=eQ,sw:=bK},st:=st,s:=(C5 t n x.14 s).3})))))
theorem G7(t n:Int)(x:DOS)(st:STS)(s:MS)(K:DqO→Prop)(h:(zO t n x st s).run K):cT' 104 [.ptr 0 0,.ptr 2 0] [cE' [.ptr 1 0,.I x.code,.bool x.okk,.I x.val,.bool x.slow,.I x.sh,.I x.kd,.I x.ky,.I x.limit,.I 4,.O,.O,.O,.O,.ptr 4 0,.O,.O,.O,.O],iT 5 t n st,bE 3 s,bF s,some (.abs (.announce t n x.an) []),iU st] (bM 4 0 [10,11,12,13,14,15,16,17,18] [(.cell 1 4,.ints (some .i64))] (uY t n) K):=by
 exact cM' (E:=EH) (by kernel_rfl) h
def zP(t n:Int)(x:DOS)(st:STS)(s:MS):Tr DqO:=.pre True (.ite (w28 x) (.pre (lE' s.3∧(0:Int)≤s.4∧s.4≤(4611686018427387904:Int)) (.pre ((t=t∧n=n)∧t=t∧n=n∧(true=false→(5:Int)=(1:Int)∨(5:Int)=(5:Int))∧lE' s.3∧lE' st.3) (.ret {d:=true,x:= {x with code:=1,okk:=false,val:=0,at':=5,hd:=dX,en:=aU,ft:=bO,an:=dV,aw:=dW,fn:=aQ,dr:=eQ,sw:=bK},st:=st,s:= {s with c:=s.4+1,k:=1,a:=0,o:=aC s.3 0,w:=aC s.3 0,ok:=bQ s.3 0} }))) (.pre ((lE' s.3∧lE' st.3∧t=t∧n=n)∧LU t n x.11 st s) (.ite (gP t n x.11 st s).1 (.pre (J7 t n (w2a n s st t x).1∧True) (.pre ((t=t∧n=n)∧t=t∧n=n∧(false=false→(6:Int)=(6:Int))∧lE' (HpO.s (gP t n x.11 st s)).3∧lE' (w2a n s st t x).3) (.ret {d:=false,x:= {x with at':=6,hd:=dX,hp:=bR,en:=aU,ft:=bO,an:=dV,aw:=WZ t n (w2a n s st t x).1,fn:=aQ,dr:=eQ,sw:=bK},st:=(gP t n x.11 st s).3,s:=(gP t n x.11 st s).4}))) (.pre ((t=t∧n=n)∧t=t∧n=n∧w2f∧lE' (HpO.s (gP t n x.11 st s)).3∧lE' (w2a n s st t x).3) (.ret {d:=false,x:= {x with at':=5,hd:=dX,hp:=(gP t n x.11 st s).2,en:=aU,ft:=bO,an:=dV,aw:=dW,fn:=aQ,dr:=eQ,sw:=bK},st:=(gP t n x.11 st s).3,s:=(gP t n x.11 st s).4})))))
theorem G8(t n:Int)(x:DOS)(st:STS)(s:MS)(K:DqO→Prop)(h:(zP t n x st s).run K):cT' 104 [.ptr 0 0,.ptr 2 0] [cE' [.ptr 1 0,.I x.code,.bool x.okk,.I x.val,.bool x.slow,.I x.sh,.I x.kd,.I x.ky,.I x.limit,.I 5,.O,.ptr 4 0,.O,.O,.O,.O,.O,.O,.O],iT 5 t n st,bE 3 s,bF s,some (.abs (.help t n x.hp) [1]),iU st] (bM 4 0 [10,11,12,13,14,15,16,17,18] [(.cell 1 4,.ints (some .i64))] (uY t n) K):=by
 exact cM' (E:=EH) (by kernel_rfl) h
abbrev w24(n:Int)(s:MS)(st:STS)(t:Int)(x:DOS):Tr DqO:=.ret {d:=false,x:= {x with code:=(AwO.x (rM t n x.15 s)).1,okk:=(AwO.x (rM t n x.15 s)).2,val:=(AwO.x (rM t n x.15 s)).3,at':=8,hd:=dX,hp:=bR,en:=aU,ft:=bO,an:=dV,aw:=dW,fn:=aQ,dr:=zU t n st.1,sw:=bK},st:=st,s:=(rM t n x.15 s).3}
def zQ(t n:Int)(x:DOS)(st:STS)(s:MS):Tr DqO:=.pre True (.ite (w28 x) (.pre (lE' s.3∧(0:Int)≤s.4∧s.4≤(4611686018427387904:Int)) (.pre ((t=t∧n=n)∧t=t∧n=n∧(true=false→(6:Int)=(6:Int))∧lE' s.3∧lE' st.3) (.ret {d:=true,x:= {x with code:=1,okk:=false,val:=0,at':=6,hd:=dX,hp:=bR,en:=aU,ft:=bO,an:=dV,fn:=aQ,dr:=eQ,sw:=bK},st:=st,s:= {s with c:=s.4+1,k:=1,a:=0,o:=aC s.3 0,w:=aC s.3 0,ok:=bQ s.3 0} }))) (.pre (lE' s.3∧W6 t n x.15 s) (.ite (rM t n x.15 s).1 (.ite (!(AwO.x (rM t n x.15 s)).2) (.pre (rO t n st.1∧True) (.pre ((t=t∧n=n)∧t=t∧n=n∧w23∧lE' (AwO.s (rM t n x.15 s)).3∧lE' st.3) (w24 n s st t x))) (.pre True (.ite (!tR x.5 x.6) (.pre (rO t n st.1∧True) (.pre ((t=t∧n=n)∧t=t∧n=n∧w23∧lE' (AwO.s (rM t n x.15 s)).3∧lE' st.3) (w24 n s st t x))) (.pre True (.pre (oC t n st.1 (eU x.5 x.7) (lV x.5 x.6 x.7) x.8∧True) (.pre ((t=t∧n=n)∧t=t∧n=n∧w2c∧lE' (AwO.s (rM t n x.15 s)).3∧lE' st.3) (.ret {d:=false,x:= {x with code:=(AwO.x (rM t n x.15 s)).1,okk:=(AwO.x (rM t n x.15 s)).2,val:=(AwO.x (rM t n x.15 s)).3,at':=7,hd:=dX,hp:=bR,en:=aU,ft:=bO,an:=dV,aw:=dW,fn:=tP t n st.1 (eU x.5 x.7) (lV x.5 x.6 x.7) x.8,dr:=eQ,sw:=bK},st:=st,s:=(rM t n x.15 s).3}))))))) (.pre ((t=t∧n=n)∧t=t∧n=n∧(false=false→(6:Int)=(6:Int))∧lE' (AwO.s (rM t n x.15 s)).3∧lE' st.3) (.ret {d:=false,x:= {x with at':=6,hd:=dX,hp:=bR,en:=aU,ft:=bO,an:=dV,aw:=(rM t n x.15 s).2,fn:=aQ,dr:=eQ,sw:=bK},st:=st,s:=(rM t n x.15 s).3})))))
theorem G9(t n:Int)(x:DOS)(st:STS)(s:MS)(K:DqO→Prop)(h:(zQ t n x st s).run K):cT' 104 [.ptr 0 0,.ptr 2 0] [cE' [.ptr 1 0,.I x.code,.bool x.okk,.I x.val,.bool x.slow,.I x.sh,.I x.kd,.I x.ky,.I x.limit,.I 6,.O,.O,.O,.O,.O,.ptr 4 0,.O,.O,.O],iT 5 t n st,bE 3 s,bF s,some (.abs (.answer t n x.aw) []),iU st] (bM 4 0 [10,11,12,13,14,15,16,17,18] [(.cell 1 4,.ints (some .i64))] (uY t n) K):=by
 exact cM' (E:=EH) (by kernel_rfl) h
def zR(t n:Int)(x:DOS)(st:STS)(s:MS):Tr DqO:=.pre True (.ite (w28 x) (.pre (lE' s.3∧(0:Int)≤s.4∧s.4≤(4611686018427387904:Int)) (.pre ((t=t∧n=n)∧t=t∧n=n∧(true=false→(7:Int)=(7:Int))∧lE' s.3∧lE' st.3) (.ret {d:=true,x:= {x with code:=1,okk:=false,val:=0,at':=7,hd:=dX,hp:=bR,en:=aU,ft:=bO,an:=dV,aw:=dW,dr:=eQ,sw:=bK},st:=st,s:= {s with c:=s.4+1,k:=1,a:=0,o:=aC s.3 0,w:=aC s.3 0,ok:=bQ s.3 0} }))) (.pre (lE' s.3∧HW t n x.16 s) (.ite (aN t n x.16 s).1 (.pre ((lE' st.3∧lE' (FnO.x (aN t n x.16 s)).6∧st.3.length+List.length (FnO.x (aN t n x.16 s)).6≤(4294967296:Nat))∧True) (.pre (rO t n st.1∧True) (.pre ((t=t∧n=n)∧t=t∧n=n∧w23∧lE' (FnO.s (aN t n x.16 s)).3∧st.3.length+List.length (FnO.x (aN t n x.16 s)).6=List.length (st.3++(FnO.x (aN t n x.16 s)).6)) (.ret {d:=false,x:= {x with at':=8,hd:=dX,hp:=bR,en:=aU,ft:=bO,an:=dV,aw:=dW,fn:=aQ,dr:=zU t n st.1,sw:=bK},st:= {me:=st.1,sp:=st.2,R:=st.3++(FnO.x (aN t n x.16 s)).6},s:=(aN t n x.16 s).3})))) (.pre ((t=t∧n=n)∧t=t∧n=n∧w2c∧lE' (FnO.s (aN t n x.16 s)).3∧lE' st.3) (.ret {d:=false,x:= {x with at':=7,hd:=dX,hp:=bR,en:=aU,ft:=bO,an:=dV,aw:=dW,fn:=(aN t n x.16 s).2,dr:=eQ,sw:=bK},st:=st,s:=(aN t n x.16 s).3})))))
theorem HA(t n:Int)(x:DOS)(st:STS)(s:MS)(K:DqO→Prop)(h:(zR t n x st s).run K):cT' 104 [.ptr 0 0,.ptr 2 0] [cE' [.ptr 1 0,.I x.code,.bool x.okk,.I x.val,.bool x.slow,.I x.sh,.I x.kd,.I x.ky,.I x.limit,.I 7,.O,.O,.O,.O,.O,.O,.ptr 4 0,.O,.O],iT 5 t n st,bE 3 s,bF s,some (.abs (.find t n x.fn) []),iU st] (bM 4 0 [10,11,12,13,14,15,16,17,18] [(.cell 1 4,.ints (some .i64))] (uY t n) K):=by
 exact cM' (E:=EH) (by kernel_rfl) h
def zS(t n:Int)(x:DOS)(st:STS)(s:MS):Tr DqO:=.pre True (.ite (w28 x) (.pre (lE' s.3∧(0:Int)≤s.4∧s.4≤(4611686018427387904:Int)) (.pre ((t=t∧n=n)∧t=t∧n=n∧(true=false→(8:Int)=(8:Int))∧lE' s.3∧lE' st.3) (.ret {d:=true,x:= {x with code:=1,okk:=false,val:=0,at':=8,hd:=dX,hp:=bR,en:=aU,ft:=bO,an:=dV,aw:=dW,fn:=aQ,sw:=bK},st:=st,s:= {s with c:=s.4+1,k:=1,a:=0,o:=aC s.3 0,w:=aC s.3 0,ok:=bQ s.3 0} }))) (.pre (lE' s.3∧X8 t n x.17 s) (.ite (OX t n x.17 s).1 (.pre (lE' st.3∧(t=t∧n=n∧lE' st.3)∧True) (.pre ((0:Int)≤t∧t≤(100000:Int)) (.pre ((t=t∧n=n)∧t=t∧n=n∧((!ile (4*t) (↑st.3.length:Int))=false→(9:Int)=(9:Int))∧lE' (DrO.s (OX t n x.17 s)).3∧lE' st.3) (.ret {d:=!ile (4*t) (↑st.3.length:Int),x:= {x with at':=9,hd:=dX,hp:=bR,en:=aU,ft:=bO,an:=dV,aw:=dW,fn:=aQ,dr:=eQ,sw:=bK},st:=st,s:=(OX t n x.17 s).3})))) (.pre ((t=t∧n=n)∧t=t∧n=n∧w23∧lE' (DrO.s (OX t n x.17 s)).3∧lE' st.3) (.ret {d:=false,x:= {x with at':=8,hd:=dX,hp:=bR,en:=aU,ft:=bO,an:=dV,aw:=dW,fn:=aQ,dr:=(OX t n x.17 s).2,sw:=bK},st:=st,s:=(OX t n x.17 s).3})))))
theorem HB(t n:Int)(x:DOS)(st:STS)(s:MS)(K:DqO→Prop)(h:(zS t n x st s).run K):cT' 104 [.ptr 0 0,.ptr 2 0] [cE' [.ptr 1 0,.I x.code,.bool x.okk,.I x.val,.bool x.slow,.I x.sh,.I x.kd,.I x.ky,.I x.limit,.I 8,.O,.O,.O,.O,.O,.O,.O,.ptr 4 0,.O],iT 5 t n st,bE 3 s,bF s,some (.abs (.drop t n x.dr) []),iU st] (bM 4 0 [10,11,12,13,14,15,16,17,18] [(.cell 1 4,.ints (some .i64))] (uY t n) K):=by
 exact cM' (E:=EH) (by kernel_rfl) h
def zT(t n:Int)(x:DOS)(st:STS)(s:MS):Tr DqO:=.pre True (.ite (w28 x) (.pre (lE' s.3∧(0:Int)≤s.4∧s.4≤(4611686018427387904:Int)) (.pre ((t=t∧n=n)∧t=t∧n=n∧(true=false→(9:Int)=(9:Int))∧lE' s.3∧lE' st.3) (.ret {d:=true,x:= {x with code:=1,okk:=false,val:=0,at':=9,hd:=dX,hp:=bR,en:=aU,ft:=bO,an:=dV,aw:=dW,fn:=aQ,dr:=eQ},st:=st,s:= {s with c:=s.4+1,k:=1,a:=0,o:=aC s.3 0,w:=aC s.3 0,ok:=bQ s.3 0} }))) (.pre ((lE' s.3∧lE' st.3∧t=t∧n=n)∧pY t n (DOS.sw x) st s) (.ite (swF t n x.18 st s).1 (.pre ((t=t∧n=n)∧(true=false→(9:Int)≠(0:Int)∧(9:Int)≠(1:Int)∧(9:Int)≠(5:Int)∧(9:Int)≠(2:Int)∧(9:Int)≠(3:Int)∧(9:Int)≠(4:Int)∧(9:Int)≠(6:Int)∧(9:Int)≠(7:Int)∧(9:Int)≠(8:Int)∧(9:Int)≠(9:Int))∧lE' (SO.s (swF t n x.18 st s)).3∧lE' (SO.st (swF t n x.18 st s)).3) (.ret {d:=true,x:= {x with at':=9,hd:=dX,hp:=bR,en:=aU,ft:=bO,an:=dV,aw:=dW,fn:=aQ,dr:=eQ,sw:=bK},st:=(swF t n x.18 st s).3,s:=(swF t n x.18 st s).4})) (.pre ((t=t∧n=n)∧t=t∧n=n∧(false=false→(9:Int)=(9:Int))∧lE' (SO.s (swF t n x.18 st s)).3∧lE' (SO.st (swF t n x.18 st s)).3) (.ret {d:=false,x:= {x with at':=9,hd:=dX,hp:=bR,en:=aU,ft:=bO,an:=dV,aw:=dW,fn:=aQ,dr:=eQ,sw:=(swF t n x.18 st s).2},st:=(swF t n x.18 st s).3,s:=(swF t n x.18 st s).4})))))
theorem HD(t n:Int)(x:DOS)(st:STS)(s:MS)(K:DqO→Prop)(h:(zT t n x st s).run K):cT' 104 [.ptr 0 0,.ptr 2 0] [cE' [.ptr 1 0,.I x.code,.bool x.okk,.I x.val,.bool x.slow,.I x.sh,.I x.kd,.I x.ky,.I x.limit,.I 9,.O,.O,.O,.O,.O,.O,.O,.O,.ptr 4 0],iT 5 t n st,bE 3 s,bF s,some (.abs (.sweep t n x.sw) [1]),iU st] (bM 4 0 [10,11,12,13,14,15,16,17,18] [(.cell 1 4,.ints (some .i64))] (uY t n) K):=by
 exact cM' (E:=EH) (by kernel_rfl) h
def dqT(t n:Int)(x:DOS)(st:STS)(s:MS):Tr DqO:=
 bif ieq x.at' 0 then zK t n x st s else
 bif ieq x.at' 1 then zL t n x st s else
 bif ieq x.at' 2 then zM t n x st s else
 bif ieq x.at' 3 then zN t n x st s else
 bif ieq x.at' 4 then zO t n x st s else
 bif ieq x.at' 5 then zP t n x st s else
 bif ieq x.at' 6 then zQ t n x st s else
 bif ieq x.at' 7 then zR t n x st s else
 bif ieq x.at' 8 then zS t n x st s else
 bif ieq x.at' 9 then zT t n x st s else .pre False (.ret default)
def sV(t n:Int)(x:DOS)(st:STS)(s:MS):DqO:=(dqT t n x st s).val
def QK(t n:Int)(x:DOS)(st:STS)(s:MS):Prop:=(dqT t n x st s).ok
theorem FF(t n:Int)(x:DOS)(st:STS)(s:MS)(K:AVal→aD Ob→Prop)(h:(dqT t n x st s).run (fun y=>(DqO.fin t n y).run K)):cT' 104 [.ptr 0 0,.ptr 2 0] (sW t n x st s) K:=by
 unfold dqT at h
 by_cases e:x.at'=0
 ·rw [e]at h;have h:(zK t n x st s).run _:=h;refine aEB (root:=0) (pos:=[10,11,12,13,14,15,16,17,18]) (cs:=[(.cell 1 4,.ints (some .i64))]) (parse:=uY t n) (fin:=DqO.fin t n) kS ((aS.unpack (.doer t n x) 0 1 (eG t n x) [1] rfl (congrArg (Prod.mk 1) (pJ e)) (by kernel_rfl) rfl).trans (aS.unpack (.store t n st) 1 0 (dD t n st) [] rfl rfl rfl rfl)) ?_
  have q:=G3 t n x st s _ h;rw [←e]at q;exact q
 rw [bI e]at h
 by_cases e:x.at'=1
 ·rw [e]at h;have h:(zL t n x st s).run _:=h;refine aEB (root:=0) (pos:=[10,11,12,13,14,15,16,17,18]) (cs:=[(.cell 1 4,.ints (some .i64))]) (parse:=uY t n) (fin:=DqO.fin t n) kS ((aS.unpack (.doer t n x) 0 1 (dB t n x) [1] rfl (congrArg (Prod.mk 1) (sM e)) (by kernel_rfl) rfl).trans (aS.unpack (.store t n st) 1 0 (dD t n st) [] rfl rfl rfl rfl)) ?_
  have q:=G4 t n x st s _ h;rw [←e]at q;exact q
 rw [bI e]at h
 by_cases e:x.at'=2
 ·rw [e]at h;have h:(zM t n x st s).run _:=h;refine aEB (root:=0) (pos:=[10,11,12,13,14,15,16,17,18]) (cs:=[(.cell 1 4,.ints (some .i64))]) (parse:=uY t n) (fin:=DqO.fin t n) kS ((aS.unpack (.doer t n x) 0 1 (fI t n x) [1] rfl (congrArg (Prod.mk 1) (sN e)) (by kernel_rfl) rfl).trans (aS.unpack (.store t n st) 1 0 (dD t n st) [] rfl rfl rfl rfl)) ?_
  have q:=G5 t n x st s _ h;rw [←e]at q;exact q
 rw [bI e]at h
 by_cases e:x.at'=3
 ·rw [e]at h;have h:(zN t n x st s).run _:=h;refine aEB (root:=0) (pos:=[10,11,12,13,14,15,16,17,18]) (cs:=[(.cell 1 4,.ints (some .i64))]) (parse:=uY t n) (fin:=DqO.fin t n) kS ((aS.unpack (.doer t n x) 0 1 (fK t n x) [1] rfl (congrArg (Prod.mk 1) (sO e)) (by kernel_rfl) rfl).trans (aS.unpack (.store t n st) 1 0 (dD t n st) [] rfl rfl rfl rfl)) ?_
  have q:=G6 t n x st s _ h;rw [←e]at q;exact q
 rw [bI e]at h
 by_cases e:x.at'=4
 ·rw [e]at h;have h:(zO t n x st s).run _:=h;refine aEB (root:=0) (pos:=[10,11,12,13,14,15,16,17,18]) (cs:=[(.cell 1 4,.ints (some .i64))]) (parse:=uY t n) (fin:=DqO.fin t n) kS ((aS.unpack (.doer t n x) 0 1 (fF t n x) [1] rfl (congrArg (Prod.mk 1) (sP e)) (by kernel_rfl) rfl).trans (aS.unpack (.store t n st) 1 0 (dD t n st) [] rfl rfl rfl rfl)) ?_
  have q:=G7 t n x st s _ h;rw [←e]at q;exact q
 rw [bI e]at h
 by_cases e:x.at'=5
 ·rw [e]at h;have h:(zP t n x st s).run _:=h;refine aEB (root:=0) (pos:=[10,11,12,13,14,15,16,17,18]) (cs:=[(.cell 1 4,.ints (some .i64))]) (parse:=uY t n) (fin:=DqO.fin t n) kS ((aS.unpack (.doer t n x) 0 1 (dB t n x) [1] rfl (congrArg (Prod.mk 1) (sQ e)) (by kernel_rfl) rfl).trans (aS.unpack (.store t n st) 1 0 (dD t n st) [] rfl rfl rfl rfl)) ?_
  have q:=G8 t n x st s _ h;rw [←e]at q;exact q
 rw [bI e]at h
 by_cases e:x.at'=6
 ·rw [e]at h;have h:(zQ t n x st s).run _:=h;refine aEB (root:=0) (pos:=[10,11,12,13,14,15,16,17,18]) (cs:=[(.cell 1 4,.ints (some .i64))]) (parse:=uY t n) (fin:=DqO.fin t n) kS ((aS.unpack (.doer t n x) 0 1 (fG t n x) [1] rfl (congrArg (Prod.mk 1) (sR e)) (by kernel_rfl) rfl).trans (aS.unpack (.store t n st) 1 0 (dD t n st) [] rfl rfl rfl rfl)) ?_
  have q:=G9 t n x st s _ h;rw [←e]at q;exact q
 rw [bI e]at h
 by_cases e:x.at'=7
 ·rw [e]at h;have h:(zR t n x st s).run _:=h;refine aEB (root:=0) (pos:=[10,11,12,13,14,15,16,17,18]) (cs:=[(.cell 1 4,.ints (some .i64))]) (parse:=uY t n) (fin:=DqO.fin t n) kS ((aS.unpack (.doer t n x) 0 1 (fJ t n x) [1] rfl (congrArg (Prod.mk 1) (sS e)) (by kernel_rfl) rfl).trans (aS.unpack (.store t n st) 1 0 (dD t n st) [] rfl rfl rfl rfl)) ?_
  have q:=HA t n x st s _ h;rw [←e]at q;exact q
 rw [bI e]at h
 by_cases e:x.at'=8
 ·rw [e]at h;have h:(zS t n x st s).run _:=h;refine aEB (root:=0) (pos:=[10,11,12,13,14,15,16,17,18]) (cs:=[(.cell 1 4,.ints (some .i64))]) (parse:=uY t n) (fin:=DqO.fin t n) kS ((aS.unpack (.doer t n x) 0 1 (fH t n x) [1] rfl (congrArg (Prod.mk 1) (sT e)) (by kernel_rfl) rfl).trans (aS.unpack (.store t n st) 1 0 (dD t n st) [] rfl rfl rfl rfl)) ?_
  have q:=HB t n x st s _ h;rw [←e]at q;exact q
 rw [bI e]at h
 by_cases e:x.at'=9
 ·rw [e]at h;have h:(zT t n x st s).run _:=h;refine aEB (root:=0) (pos:=[10,11,12,13,14,15,16,17,18]) (cs:=[(.cell 1 4,.ints (some .i64))]) (parse:=uY t n) (fin:=DqO.fin t n) kS ((aS.unpack (.doer t n x) 0 1 (fL t n x) [1] rfl (congrArg (Prod.mk 1) (sU e)) (by kernel_rfl) rfl).trans (aS.unpack (.store t n st) 1 0 (dD t n st) [] rfl rfl rfl rfl)) ?_
  have q:=HD t n x st s _ h;rw [←e]at q;exact q
 rw [bI e]at h;exact h.1.elim
noncomputable def dqSA:aI Ob:=fun args h=>match args,h with
 | [.ptr 0 0,.ptr 2 0],[some (.abs (.doer t n x) [1]),some (.abs (.store t2 n2 st) []),e3,e4]=>(match cL 3 [e3,e4]with
   | some (l,s)=>some (.pre ((l=s.xs.length∧t2=t∧n2=n)∧QK t n x st s) (DqO.fin t n (sV t n x st s)))
   | none=>none)
 | _,_=>none
theorem X1:sT' 104 dqSA:=by
 intro args h o ho K hK;unfold dqSA at ho;split at ho
 case h_2=>cases ho
 split at ho<;>cases ho
 rename_i hm;obtain⟨⟨⟨hl,rfl,rfl⟩,ok⟩,hK⟩:=hK;have hh:=bB hm hl;cases hh;exact FF _ _ _ _ _ K (aEG ok hK)
def DqO.finB(t n:Int)(y:DqO):Out Ob:=.ite y.d (.ret (.bool true) ([cE' [.ptr 1 0,.I y.x.code,.bool y.x.okk,.I y.x.val,.bool y.x.slow,.I y.x.sh,.I y.x.kd,.I y.x.ky,.I y.x.limit,.I y.x.at',.O,.O,.O,.O,.O,.O,.O,.O,.O],iT 5 t n y.st,none,bE 4 y.s,bF y.s,iU y.st])) (.ret (.bool false) [some (.abs (.doer t n y.x) [1]),iT 5 t n y.st,none,bE 4 y.s,bF y.s,iU y.st])
noncomputable def dqSB:aI Ob:=fun args h=>match args,h with
 | [.ptr 0 0,.ptr 3 0],[some (.abs (.doer t n x) [1]),e1,e2,e3,e4]=>(match lB 2 [e1,e2],cL 4 [e3,e4]with
   | some (l2,t2,n2,st),some (l,s)=>some (.pre ((l=s.xs.length∧l2=st.R.length∧t2=t∧n2=n)∧QK t n x st s) (DqO.finB t n (sV t n x st s)))
   | _,_=>none)
 | _,_=>none
theorem X2:sT' 104 dqSB:=by
 intro args h o ho K hK;unfold dqSB at ho;split at ho
 case h_2=>cases ho
 split at ho<;>cases ho
 rename_i hs hm;obtain⟨⟨⟨hl,hl2,rfl,rfl⟩,ok⟩,hK⟩:=hK;have hh:=bB hm hl;cases hh;have hh:=cB hs hl2;cases hh;exact jN (fun ι hι=>by simp [aH.ren,aEN,AVal.ren,hι]) (fun ι hι=>by simp [aH.ren,hι]) (fun K hK=>FF _ _ _ _ _ K (aEG ok hK)) K hK
noncomputable def dqS:aI Ob:=aI.or dqSA dqSB
theorem aBS:sT' 104 dqS:=aEZ X1 X2
def XP(t n:Int)(v:AVal)(g:aD Ob):Option (Prop×(DOS×STS)):=match v,g with
 | .ptr 2 0,[e1,e2,some (.cells [.ptr 0 0,.int .i64 code,.bool okk,.int .i64 val,.bool slow,.int .i64 sh,.int .i64 kd,.int .i64 ky,.int .i64 limit,.int .i64 at',.ptr 3 0,.O,.O,.O,.O,.O,.O,.O,.O]),some (.abs (.head t' n' sub) [])]=>(match lB 1 [e1,e2]with
   | some (l2,t2,n2,st)=>some ((t2=t∧n2=n∧l2=st.R.length)∧t'=t∧n'=n∧at'=0,⟨(⟨code,okk,val,slow,sh,kd,ky,limit,at',sub,bR,aU,bO,⟨0,0,0,0,false,0⟩,⟨0,false,0,0⟩,aQ,⟨0,0⟩,bK⟩:DOS),st⟩)
   | none=>none)
 | _,_=>none
abbrev QC(t n:Int)(y:(DOS×STS)):aD Ob:=[iT 1 t n y.2,iU y.2,some (.abs (.doer t n y.1) [0])]
theorem QJ{t n:Int} :bS (obI tbl) 2 (XP t n) (fun y=>.ret (.ptr 2 0) (QC t n y)):=by
 intro v g p x hp hq K hK;unfold XP at hp;split at hp
 case h_2=>cases hp
 rename_i e1 e2 code okk val slow sh kd ky limit at' t' n' sub;split at hp
 case h_2=>cases hp
 rename_i l2 t2 n2 st hs;simp only [sI',pI']at hp;obtain⟨rfl,rfl⟩:=hp;obtain⟨⟨rfl,rfl,hl2⟩,rfl,rfl,hat⟩:=hq;have hh:=cB hs hl2;cases hh;exact let X0:DOS:=⟨code,okk,val,slow,sh,kd,ky,limit,at',sub,bR,aU,bO,⟨0,0,0,0,false,0⟩,⟨0,false,0,0⟩,aQ,⟨0,0⟩,bK⟩;⟨⟨_,_,aF.pack (QC t' n' (X0,st)) (.doer t' n' X0) 2 1 (eG t' n' X0) [0] (by kernel_rfl) rfl (congrArg (Prod.mk 1) (pJ hat)) (by kernel_rfl),hK⟩⟩
def KR(t n:Int)(sh kd ky lim:Int)(st:STS):Tr (DOS×STS):=.pre (LQ t n∧True) (.pre ((t=t∧n=n∧lE' st.3)∧t=t∧n=n∧(0:Int)=(0:Int)) (.ret ({code:=0,okk:=false,val:=0,slow:=false,sh:=sh,kd:=kd,ky:=ky,limit:=lim,at':=0,hd:=ZN t n,hp:=bR,en:=aU,ft:=bO,an:=dV,aw:=dW,fn:=aQ,dr:=eQ,sw:=bK},st)))
def dqNF(t n:Int)(sh kd ky lim:Int)(st:STS):(DOS×STS):=(KR t n sh kd ky lim st).val
def KQ(t n:Int)(sh kd ky lim:Int)(st:STS):Prop:=(KR t n sh kd ky lim st).ok
def dqNS:aI Ob:=fun args h=>match args,h with
 | [.ptr 0 0,.agg [.int .i64 sh,.int .i64 kd,.int .i64 ky],.int .i64 lim],[e1,e2]=>(match lB 1 [e1,e2]with
   | some (l2,t,n,st)=>some (.pre (l2=st.R.length∧KQ t n sh kd ky lim st) (.ret (.ptr 2 0) (QC t n (dqNF t n sh kd ky lim st))))
   | none=>none)
 | _,_=>none
theorem DG:sT' 103 dqNS:=by
 intro args h o ho K hK;unfold dqNS at ho;split at ho
 case h_2=>cases ho
 rename_i sh kd ky lim e1 e2;split at ho<;>cases ho
 rename_i l2 t n st hs;obtain⟨⟨hl2,ok⟩,hK⟩:=hK;have hh:=cB hs hl2;cases hh;refine aEL (root:=2) (pos:=[10,11,12,13,14,15,16,17,18]) (cs:=[]) (parse:=XP t n) QJ ?_;exact cM' (E:=EH) (q:=(KR t n sh kd ky lim st).run (fun y=>(Out.ret (.ptr 2 0) (QC t n y)).run K)) (by kernel_rfl) (aEG ok hK)
noncomputable def ED:=((EH.addS 104 dqS aBS).addS 103 dqNS DG)
instance:Inhabited STS:=⟨⟨0,0,[]⟩⟩
instance:Inhabited WKS:=⟨⟨0,0,⟨0,0,[]⟩,[],0,false,eC,[],[]⟩⟩
def bX(ws:List WKS)(i:Nat):WKS:=ws.getD i default
def dP(ws:List WKS)(i:Nat)(w:WKS):List WKS:=ws.set i w
theorem CN{ws:List WKS}{i:Nat}(h:i<ws.length):(ws.map fun w=>some (Mc.worker w))[i]? =some (some (.worker (bX ws i))):=by
 unfold bX;simp only [List.getElem?_map,gD'];rw [gE' h];rfl
theorem JM(ws:List WKS)(i:Nat)(w:WKS):(dP ws i w).map (fun w=>some (Mc.worker w))=(ws.map fun w=>some (Mc.worker w)).set i (some (.worker w)):=by
 unfold dP;simp [List.map_set]
def RKW:iP tbl where
 R:=List WKS
 row:=.wrow
 hole:=.whole
 els:=fun ws=>ws.map fun w=>some (.worker w)
 len:=List.length
 upd:=fun ws i t=>match t with
  | .worker w=>some (dP ws i w)
  | _=>none
 isRow:=fun t=>match t with
  | .wrow ws=>some ws
  | _=>none
 isHole:=fun t=>match t with
  | .whole ws i=>some (ws,i)
  | _=>none
 is:=fun _ _=>true
 get:=fun ws i=>.worker (bX ws i)
 isRow_eq:=by
  intro t r h;cases t<;>first | (cases h;rfl) | cases h
 isHole_eq:=by
  intro t r i h;cases t<;>first | (cases h;rfl) | cases h
 len_eq:=fun r=>by simp
 upd_eq:=by
  intro r i t r' h;cases t with
  | worker w=>cases h;exact JM r i w
  | _=>cases h
 is_true:=by
  intro r i _ h;exact CN h
 is_false:=by intro r i h;cases h
 tbRow:=fun r=>rfl
 tbHole:=fun r i=>rfl
theorem aF.back{n l i k:Nat}{ws:List WKS}{w:WKS}{v:AVal}{g:aD Ob}(hl:aO g l=some (.abs (.whole ws i) [k]))(hk:aO g k=some (.abs (.worker w) []))(hkl:k≠l)(hi:i<ws.length):
 aF (obI tbl) n v g v ((g.set l (some (.abs (.wrow (dP ws i w)) []))).set k none):=by
 intro V hR w' x h1 h2 h3 h4;refine⟨V,fun _ _ _ h=>h,?_,by simpa using h3,h4,?_⟩
 ·intro m hm;exact h2 m (by simpa using hm)
 ·exact h1.back RKW (ws:=ws) (ws':=dP ws i w) rfl hl hk hkl hi
def dqNAS:aI Ob:=fun args h=>match args,h with
 | [.ptr 0 0,.agg [.int .i64 sh,.int .i64 kd,.int .i64 ky],.int .i64 lim],[some (.abs (.store t n st) [])]=>some (.pre (KQ t n sh kd ky lim st) (.ret (.ptr 1 0) [some (.abs (.store t n (dqNF t n sh kd ky lim st).2) []),some (.abs (.doer t n (dqNF t n sh kd ky lim st).1) [0])]))
 | _,_=>none
theorem P9:sT' 103 dqNAS:=by
 intro args h o ho K hK;unfold dqNAS at ho;split at ho<;>cases ho
 rename_i sh kd ky lim t n st;obtain⟨ok,hK⟩:=hK;refine aEV ?_;refine aEO (h2:=[iT 1 t n st,iU st]) (aS.unpack (.store t n st) 0 0 (dD t n st) [] rfl rfl rfl rfl) ?_;refine DG [.ptr 0 0,.agg [.I sh,.I kd,.I ky],.I lim] [iT 1 t n st,iU st] _ rfl _ ⟨⟨rfl,ok⟩,?_⟩;generalize dqNF t n sh kd ky lim st=y at hK⊢;have hK:K (.ptr 1 0) [some (.abs (.store t n y.2) []),some (.abs (.doer t n y.1) [0])]:=hK;exact⟨⟨_,_,(aF.pick [0,2,1] rfl).trans ((aEH (v2:=.ptr 1 0) (g2:=aM [some (.abs (.store t n y.2) []),some (.abs (.doer t n y.1) [0])] 0 0 (dD t n y.2) []) (by kernel_rfl) (by kernel_rfl)).trans (aF.pack [some (.abs (.store t n y.2) []),some (.abs (.doer t n y.1) [0])] (.store t n y.2) 0 0 (dD t n y.2) [] rfl rfl rfl (by kernel_rfl))),hK⟩⟩
noncomputable def EN0:= {ED.addS 103 (aI.or dqNS dqNAS) (aEZ DG P9)with row:=RKW.ops Tryz.prog,rowOk:=RKW.ops_ok}
instance:Inhabited (Int×HST):=⟨(0,default)⟩
def nU(v:AVal)(g:aD Ob):Option (Prop×(Int×HST)):=match v,g with
 | .int .i64 c,[some (.cells [.tslice 1 0 a 7,.tslice 2 0 b 9,.int .i64 n0,.int .i64 n1,.int .i64 n2,.int .i64 n3,.int .i64 n4,.int .i64 n5,.int .i64 n6,.int .i64 n7]),some (.tab [some .i64,none,some .i64,some .i64,some .i64,none,some .i64] ev),some (.tab [some .i64,some .i64,some .i64,some .i64,some .i64,some .i64,some .i64,none,some .i64] cl)]=>some (a=ev.length∧b=cl.length,(c,⟨ev,cl,n0,n1,n2,n3,n4,n5,n6,n7⟩))
 | _,_=>none
def hnP(v:AVal)(g:aD Ob):Option (Prop×HST):=match v,g with
 | .ptr 0 0,[some (.cells [.tslice 1 0 a 7,.tslice 2 0 b 9,.int .i64 n0,.int .i64 n1,.int .i64 n2,.int .i64 n3,.int .i64 n4,.int .i64 n5,.int .i64 n6,.int .i64 n7]),some (.tab [some .i64,none,some .i64,some .i64,some .i64,none,some .i64] ev),some (.tab [some .i64,some .i64,some .i64,some .i64,some .i64,some .i64,some .i64,none,some .i64] cl)]=>some (a=ev.length∧b=cl.length,⟨ev,cl,n0,n1,n2,n3,n4,n5,n6,n7⟩)
 | _,_=>none
theorem fD:bS (obI tbl) 1 nU (fun y=>.ret (.I y.1) [some (.abs (.hist y.2) [])]):=by
 intro v g p x hp hq K hK;unfold nU at hp;split at hp
 case h_2=>cases hp
 rename_i c a b n0 n1 n2 n3 n4 n5 n6 n7 ev cl;simp only [sI',pI']at hp;obtain⟨rfl,rfl⟩:=hp;obtain⟨rfl,rfl⟩:=hq;have hK:K (.I c) [some (.abs (.hist ⟨ev,cl,n0,n1,n2,n3,n4,n5,n6,n7⟩) [])]:=hK;exact⟨⟨_,_,aF.pack [some (.abs (.hist ⟨ev,cl,n0,n1,n2,n3,n4,n5,n6,n7⟩) [])] (.hist ⟨ev,cl,n0,n1,n2,n3,n4,n5,n6,n7⟩) 0 0 (xS ⟨ev,cl,n0,n1,n2,n3,n4,n5,n6,n7⟩) [] (by kernel_rfl) rfl rfl (by kernel_rfl),hK⟩⟩
theorem ZW:bS (obI tbl) 0 hnP (fun y=>.ret (.ptr 0 0) [some (.abs (.hist y) [])]):=by
 intro v g p x hp hq K hK;unfold hnP at hp;split at hp
 case h_2=>cases hp
 rename_i a b n0 n1 n2 n3 n4 n5 n6 n7 ev cl;simp only [sI',pI']at hp;obtain⟨rfl,rfl⟩:=hp;obtain⟨rfl,rfl⟩:=hq;have hK:K (.ptr 0 0) [some (.abs (.hist ⟨ev,cl,n0,n1,n2,n3,n4,n5,n6,n7⟩) [])]:=hK;exact⟨⟨_,_,aF.pack [some (.abs (.hist ⟨ev,cl,n0,n1,n2,n3,n4,n5,n6,n7⟩) [])] (.hist ⟨ev,cl,n0,n1,n2,n3,n4,n5,n6,n7⟩) 0 0 (xS ⟨ev,cl,n0,n1,n2,n3,n4,n5,n6,n7⟩) [] (by kernel_rfl) rfl rfl (by kernel_rfl),hK⟩⟩
def hnT:Tr HST:=.pre (0=0∧0=0) (.ret {ev:=[],cl:=[],n0:=0,n1:=0,n2:=0,n3:=0,n4:=0,n5:=0,n6:=0,n7:=0})
def hnS:aI Ob:=fun args h=>match args,h with
 | [],[]=>some (.pre True (.ret (.ptr 0 0) [some (.abs (.hist ⟨[],[],0,0,0,0,0,0,0,0⟩) [])]))
 | _,_=>none
theorem aCA:sT' 81 hnS:=by
 intro args h o ho K hK;unfold hnS at ho;split at ho
 case h_2=>cases ho
 simp only [sI']at ho;subst ho;obtain⟨ok,hK⟩:=hK;refine aEL (root:=0) (pos:=[]) (cs:=[(.cell 0 0,.tab cK7),(.cell 0 1,.tab cK9)]) (parse:=hnP) ZW ?_;exact cM' (E:=EN0) (q:=hnT.run (fun y=>(Out.ret (.ptr 0 0) [some (.abs (.hist y) [])]).run K)) (by kernel_rfl) (aEG (by simp [Tr.ok,hnT]) hK)
abbrev w2g(x:HST):=List.length x.1
abbrev w2h(x:HST):=List.length x.2
abbrev w2i(x:HST):=x.2.length+1
def AZ(x:HST)(kd ky:Int):Tr (Int×HST):=.pre ((0:Int)≤(0:Int)∧(0:Int)<(↑8:Int)) (.ite (ilt 0 x.3) (.pre (lE' x.1∧lE' x.2) (.ret (1,x))) (.pre (0=0∧lE' x.2∧x.2.length+(1:Nat)≤(4294967296:Nat)) (.pre (0=0∧lE' x.1∧x.1.length+(1:Nat)≤(4294967296:Nat)) (.pre ((0:Int)≤(0:Int)∧(0:Int)<(↑8:Int)) (.pre (x.1.length+(1:Nat)=List.length (x.1++ [[0,0,kd,ky,0,0,0]])∧x.2.length+(1:Nat)=List.length (x.2++ [[(↑(w2g x):Int),(-1:Int),(↑(w2h x):Int),0,kd,ky,0,0,0]])) (.ret (0,{x with ev:=x.1++ [[0,0,kd,ky,0,0,0]],cl:=x.2++ [[(↑(w2g x):Int),(-1:Int),(↑(w2h x):Int),0,kd,ky,0,0,0]],n0:=(↑(w2i x):Int)})))))))
theorem SF(x:HST)(kd ky:Int)(K:Int×HST→Prop)(h:(AZ x kd ky).run K):cT' 70 [.ptr 0 0,.I 0,.agg [.I kd,.I ky]] [cE' [.tslice 1 0 x.ev.length 7,.tslice 2 0 x.cl.length 9,.I x.n0,.I x.n1,.I x.n2,.I x.n3,.I x.n4,.I x.n5,.I x.n6,.I x.n7],some (.tab cK7 x.ev),some (.tab cK9 x.cl)] (bM 1 0 [] [] nU K):=by
 exact cM' (E:=EN0) (by kernel_rfl) h
def A0(x:HST)(kd ky:Int):Tr (Int×HST):=.pre ((0:Int)≤(1:Int)∧(1:Int)<(↑8:Int)) (.ite (ilt 0 x.4) (.pre (lE' x.1∧lE' x.2) (.ret (1,x))) (.pre (0=0∧lE' x.2∧x.2.length+(1:Nat)≤(4294967296:Nat)) (.pre (0=0∧lE' x.1∧x.1.length+(1:Nat)≤(4294967296:Nat)) (.pre ((0:Int)≤(1:Int)∧(1:Int)<(↑8:Int)) (.pre (x.1.length+(1:Nat)=List.length (x.1++ [[1,0,kd,ky,0,0,0]])∧x.2.length+(1:Nat)=List.length (x.2++ [[(↑(w2g x):Int),(-1:Int),(↑(w2h x):Int),1,kd,ky,0,0,0]])) (.ret (0,{x with ev:=x.1++ [[1,0,kd,ky,0,0,0]],cl:=x.2++ [[(↑(w2g x):Int),(-1:Int),(↑(w2h x):Int),1,kd,ky,0,0,0]],n1:=(↑(w2i x):Int)})))))))
theorem SG(x:HST)(kd ky:Int)(K:Int×HST→Prop)(h:(A0 x kd ky).run K):cT' 70 [.ptr 0 0,.I 1,.agg [.I kd,.I ky]] [cE' [.tslice 1 0 x.ev.length 7,.tslice 2 0 x.cl.length 9,.I x.n0,.I x.n1,.I x.n2,.I x.n3,.I x.n4,.I x.n5,.I x.n6,.I x.n7],some (.tab cK7 x.ev),some (.tab cK9 x.cl)] (bM 1 0 [] [] nU K):=by
 exact cM' (E:=EN0) (by kernel_rfl) h
def A1(x:HST)(kd ky:Int):Tr (Int×HST):=.pre ((0:Int)≤(2:Int)∧(2:Int)<(↑8:Int)) (.ite (ilt 0 x.5) (.pre (lE' x.1∧lE' x.2) (.ret (1,x))) (.pre (0=0∧lE' x.2∧x.2.length+(1:Nat)≤(4294967296:Nat)) (.pre (0=0∧lE' x.1∧x.1.length+(1:Nat)≤(4294967296:Nat)) (.pre ((0:Int)≤(2:Int)∧(2:Int)<(↑8:Int)) (.pre (x.1.length+(1:Nat)=List.length (x.1++ [[2,0,kd,ky,0,0,0]])∧x.2.length+(1:Nat)=List.length (x.2++ [[(↑(w2g x):Int),(-1:Int),(↑(w2h x):Int),2,kd,ky,0,0,0]])) (.ret (0,{x with ev:=x.1++ [[2,0,kd,ky,0,0,0]],cl:=x.2++ [[(↑(w2g x):Int),(-1:Int),(↑(w2h x):Int),2,kd,ky,0,0,0]],n2:=(↑(w2i x):Int)})))))))
theorem SH(x:HST)(kd ky:Int)(K:Int×HST→Prop)(h:(A1 x kd ky).run K):cT' 70 [.ptr 0 0,.I 2,.agg [.I kd,.I ky]] [cE' [.tslice 1 0 x.ev.length 7,.tslice 2 0 x.cl.length 9,.I x.n0,.I x.n1,.I x.n2,.I x.n3,.I x.n4,.I x.n5,.I x.n6,.I x.n7],some (.tab cK7 x.ev),some (.tab cK9 x.cl)] (bM 1 0 [] [] nU K):=by
 exact cM' (E:=EN0) (by kernel_rfl) h
def A2(x:HST)(kd ky:Int):Tr (Int×HST):=.pre ((0:Int)≤(3:Int)∧(3:Int)<(↑8:Int)) (.ite (ilt 0 x.6) (.pre (lE' x.1∧lE' x.2) (.ret (1,x))) (.pre (0=0∧lE' x.2∧x.2.length+(1:Nat)≤(4294967296:Nat)) (.pre (0=0∧lE' x.1∧x.1.length+(1:Nat)≤(4294967296:Nat)) (.pre ((0:Int)≤(3:Int)∧(3:Int)<(↑8:Int)) (.pre (x.1.length+(1:Nat)=List.length (x.1++ [[3,0,kd,ky,0,0,0]])∧x.2.length+(1:Nat)=List.length (x.2++ [[(↑(w2g x):Int),(-1:Int),(↑(w2h x):Int),3,kd,ky,0,0,0]])) (.ret (0,{x with ev:=x.1++ [[3,0,kd,ky,0,0,0]],cl:=x.2++ [[(↑(w2g x):Int),(-1:Int),(↑(w2h x):Int),3,kd,ky,0,0,0]],n3:=(↑(w2i x):Int)})))))))
theorem SI(x:HST)(kd ky:Int)(K:Int×HST→Prop)(h:(A2 x kd ky).run K):cT' 70 [.ptr 0 0,.I 3,.agg [.I kd,.I ky]] [cE' [.tslice 1 0 x.ev.length 7,.tslice 2 0 x.cl.length 9,.I x.n0,.I x.n1,.I x.n2,.I x.n3,.I x.n4,.I x.n5,.I x.n6,.I x.n7],some (.tab cK7 x.ev),some (.tab cK9 x.cl)] (bM 1 0 [] [] nU K):=by
 exact cM' (E:=EN0) (by kernel_rfl) h
def A3(x:HST)(kd ky:Int):Tr (Int×HST):=.pre ((0:Int)≤(4:Int)∧(4:Int)<(↑8:Int)) (.ite (ilt 0 x.7) (.pre (lE' x.1∧lE' x.2) (.ret (1,x))) (.pre (0=0∧lE' x.2∧x.2.length+(1:Nat)≤(4294967296:Nat)) (.pre (0=0∧lE' x.1∧x.1.length+(1:Nat)≤(4294967296:Nat)) (.pre ((0:Int)≤(4:Int)∧(4:Int)<(↑8:Int)) (.pre (x.1.length+(1:Nat)=List.length (x.1++ [[4,0,kd,ky,0,0,0]])∧x.2.length+(1:Nat)=List.length (x.2++ [[(↑(w2g x):Int),(-1:Int),(↑(w2h x):Int),4,kd,ky,0,0,0]])) (.ret (0,{x with ev:=x.1++ [[4,0,kd,ky,0,0,0]],cl:=x.2++ [[(↑(w2g x):Int),(-1:Int),(↑(w2h x):Int),4,kd,ky,0,0,0]],n4:=(↑(w2i x):Int)})))))))
theorem SJ(x:HST)(kd ky:Int)(K:Int×HST→Prop)(h:(A3 x kd ky).run K):cT' 70 [.ptr 0 0,.I 4,.agg [.I kd,.I ky]] [cE' [.tslice 1 0 x.ev.length 7,.tslice 2 0 x.cl.length 9,.I x.n0,.I x.n1,.I x.n2,.I x.n3,.I x.n4,.I x.n5,.I x.n6,.I x.n7],some (.tab cK7 x.ev),some (.tab cK9 x.cl)] (bM 1 0 [] [] nU K):=by
 exact cM' (E:=EN0) (by kernel_rfl) h
def A4(x:HST)(kd ky:Int):Tr (Int×HST):=.pre ((0:Int)≤(5:Int)∧(5:Int)<(↑8:Int)) (.ite (ilt 0 x.8) (.pre (lE' x.1∧lE' x.2) (.ret (1,x))) (.pre (0=0∧lE' x.2∧x.2.length+(1:Nat)≤(4294967296:Nat)) (.pre (0=0∧lE' x.1∧x.1.length+(1:Nat)≤(4294967296:Nat)) (.pre ((0:Int)≤(5:Int)∧(5:Int)<(↑8:Int)) (.pre (x.1.length+(1:Nat)=List.length (x.1++ [[5,0,kd,ky,0,0,0]])∧x.2.length+(1:Nat)=List.length (x.2++ [[(↑(w2g x):Int),(-1:Int),(↑(w2h x):Int),5,kd,ky,0,0,0]])) (.ret (0,{x with ev:=x.1++ [[5,0,kd,ky,0,0,0]],cl:=x.2++ [[(↑(w2g x):Int),(-1:Int),(↑(w2h x):Int),5,kd,ky,0,0,0]],n5:=(↑(w2i x):Int)})))))))
theorem SK(x:HST)(kd ky:Int)(K:Int×HST→Prop)(h:(A4 x kd ky).run K):cT' 70 [.ptr 0 0,.I 5,.agg [.I kd,.I ky]] [cE' [.tslice 1 0 x.ev.length 7,.tslice 2 0 x.cl.length 9,.I x.n0,.I x.n1,.I x.n2,.I x.n3,.I x.n4,.I x.n5,.I x.n6,.I x.n7],some (.tab cK7 x.ev),some (.tab cK9 x.cl)] (bM 1 0 [] [] nU K):=by
 exact cM' (E:=EN0) (by kernel_rfl) h
def A5(x:HST)(kd ky:Int):Tr (Int×HST):=.pre ((0:Int)≤(6:Int)∧(6:Int)<(↑8:Int)) (.ite (ilt 0 x.9) (.pre (lE' x.1∧lE' x.2) (.ret (1,x))) (.pre (0=0∧lE' x.2∧x.2.length+(1:Nat)≤(4294967296:Nat)) (.pre (0=0∧lE' x.1∧x.1.length+(1:Nat)≤(4294967296:Nat)) (.pre ((0:Int)≤(6:Int)∧(6:Int)<(↑8:Int)) (.pre (x.1.length+(1:Nat)=List.length (x.1++ [[6,0,kd,ky,0,0,0]])∧x.2.length+(1:Nat)=List.length (x.2++ [[(↑(w2g x):Int),(-1:Int),(↑(w2h x):Int),6,kd,ky,0,0,0]])) (.ret (0,{x with ev:=x.1++ [[6,0,kd,ky,0,0,0]],cl:=x.2++ [[(↑(w2g x):Int),(-1:Int),(↑(w2h x):Int),6,kd,ky,0,0,0]],n6:=(↑(w2i x):Int)})))))))
theorem SL(x:HST)(kd ky:Int)(K:Int×HST→Prop)(h:(A5 x kd ky).run K):cT' 70 [.ptr 0 0,.I 6,.agg [.I kd,.I ky]] [cE' [.tslice 1 0 x.ev.length 7,.tslice 2 0 x.cl.length 9,.I x.n0,.I x.n1,.I x.n2,.I x.n3,.I x.n4,.I x.n5,.I x.n6,.I x.n7],some (.tab cK7 x.ev),some (.tab cK9 x.cl)] (bM 1 0 [] [] nU K):=by
 exact cM' (E:=EN0) (by kernel_rfl) h
def A6(x:HST)(kd ky:Int):Tr (Int×HST):=.pre ((0:Int)≤(7:Int)∧(7:Int)<(↑8:Int)) (.ite (ilt 0 x.10) (.pre (lE' x.1∧lE' x.2) (.ret (1,x))) (.pre (0=0∧lE' x.2∧x.2.length+(1:Nat)≤(4294967296:Nat)) (.pre (0=0∧lE' x.1∧x.1.length+(1:Nat)≤(4294967296:Nat)) (.pre ((0:Int)≤(7:Int)∧(7:Int)<(↑8:Int)) (.pre (x.1.length+(1:Nat)=List.length (x.1++ [[7,0,kd,ky,0,0,0]])∧x.2.length+(1:Nat)=List.length (x.2++ [[(↑(w2g x):Int),(-1:Int),(↑(w2h x):Int),7,kd,ky,0,0,0]])) (.ret (0,{x with ev:=x.1++ [[7,0,kd,ky,0,0,0]],cl:=x.2++ [[(↑(w2g x):Int),(-1:Int),(↑(w2h x):Int),7,kd,ky,0,0,0]],n7:=(↑(w2i x):Int) })))))))
theorem SM(x:HST)(kd ky:Int)(K:Int×HST→Prop)(h:(A6 x kd ky).run K):cT' 70 [.ptr 0 0,.I 7,.agg [.I kd,.I ky]] [cE' [.tslice 1 0 x.ev.length 7,.tslice 2 0 x.cl.length 9,.I x.n0,.I x.n1,.I x.n2,.I x.n3,.I x.n4,.I x.n5,.I x.n6,.I x.n7],some (.tab cK7 x.ev),some (.tab cK9 x.cl)] (bM 1 0 [] [] nU K):=by
 exact cM' (E:=EN0) (by kernel_rfl) h
def hbT(th:Int)(x:HST)(kd ky:Int):Tr (Int×HST):=
 bif ieq th 0 then AZ x kd ky else
 bif ieq th 1 then A0 x kd ky else
 bif ieq th 2 then A1 x kd ky else
 bif ieq th 3 then A2 x kd ky else
 bif ieq th 4 then A3 x kd ky else
 bif ieq th 5 then A4 x kd ky else
 bif ieq th 6 then A5 x kd ky else
 bif ieq th 7 then A6 x kd ky else .pre False (.ret default)
def hbF(th:Int)(x:HST)(kd ky:Int):Int×HST:=(hbT th x kd ky).val
def hbOk(th:Int)(x:HST)(kd ky:Int):Prop:=(hbT th x kd ky).ok
theorem SE(th:Int)(x:HST)(kd ky:Int)(K:AVal→aD Ob→Prop)(h:(hbT th x kd ky).run (fun y=>(Out.ret (.I y.1) [some (.abs (.hist y.2) [])]).run K)):cT' 70 [.ptr 0 0,.I th,.agg [.I kd,.I ky]] [some (.abs (.hist x) [])] K:=by
 unfold hbT at h
 by_cases e:th=0
 ·rw [e]at h;have h:(AZ x kd ky).run _:=h;rw [e];exact aEB (root:=0) (pos:=[]) (cs:=[]) (parse:=nU) (fin:=fun y=>.ret (.I y.1) [some (.abs (.hist y.2) [])]) fD (aS.unpack (.hist x) 0 0 (xS x) [] rfl rfl rfl rfl) (SF x kd ky _ h)
 rw [bI e]at h
 by_cases e:th=1
 ·rw [e]at h;have h:(A0 x kd ky).run _:=h;rw [e];exact aEB (root:=0) (pos:=[]) (cs:=[]) (parse:=nU) (fin:=fun y=>.ret (.I y.1) [some (.abs (.hist y.2) [])]) fD (aS.unpack (.hist x) 0 0 (xS x) [] rfl rfl rfl rfl) (SG x kd ky _ h)
 rw [bI e]at h
 by_cases e:th=2
 ·rw [e]at h;have h:(A1 x kd ky).run _:=h;rw [e];exact aEB (root:=0) (pos:=[]) (cs:=[]) (parse:=nU) (fin:=fun y=>.ret (.I y.1) [some (.abs (.hist y.2) [])]) fD (aS.unpack (.hist x) 0 0 (xS x) [] rfl rfl rfl rfl) (SH x kd ky _ h)
 rw [bI e]at h
 by_cases e:th=3
 ·rw [e]at h;have h:(A2 x kd ky).run _:=h;rw [e];exact aEB (root:=0) (pos:=[]) (cs:=[]) (parse:=nU) (fin:=fun y=>.ret (.I y.1) [some (.abs (.hist y.2) [])]) fD (aS.unpack (.hist x) 0 0 (xS x) [] rfl rfl rfl rfl) (SI x kd ky _ h)
 rw [bI e]at h
 by_cases e:th=4
 ·rw [e]at h;have h:(A3 x kd ky).run _:=h;rw [e];exact aEB (root:=0) (pos:=[]) (cs:=[]) (parse:=nU) (fin:=fun y=>.ret (.I y.1) [some (.abs (.hist y.2) [])]) fD (aS.unpack (.hist x) 0 0 (xS x) [] rfl rfl rfl rfl) (SJ x kd ky _ h)
 rw [bI e]at h
 by_cases e:th=5
 ·rw [e]at h;have h:(A4 x kd ky).run _:=h;rw [e];exact aEB (root:=0) (pos:=[]) (cs:=[]) (parse:=nU) (fin:=fun y=>.ret (.I y.1) [some (.abs (.hist y.2) [])]) fD (aS.unpack (.hist x) 0 0 (xS x) [] rfl rfl rfl rfl) (SK x kd ky _ h)
 rw [bI e]at h
 by_cases e:th=6
 ·rw [e]at h;have h:(A5 x kd ky).run _:=h;rw [e];exact aEB (root:=0) (pos:=[]) (cs:=[]) (parse:=nU) (fin:=fun y=>.ret (.I y.1) [some (.abs (.hist y.2) [])]) fD (aS.unpack (.hist x) 0 0 (xS x) [] rfl rfl rfl rfl) (SL x kd ky _ h)
 rw [bI e]at h
 by_cases e:th=7
 ·rw [e]at h;have h:(A6 x kd ky).run _:=h;rw [e];exact aEB (root:=0) (pos:=[]) (cs:=[]) (parse:=nU) (fin:=fun y=>.ret (.I y.1) [some (.abs (.hist y.2) [])]) fD (aS.unpack (.hist x) 0 0 (xS x) [] rfl rfl rfl rfl) (SM x kd ky _ h)
 rw [bI e]at h;exact h.1.elim
def hbS:aI Ob:=fun args h=>match args,h with
 | [.ptr 0 0,.int .i64 th,.agg [.int .i64 kd,.int .i64 ky]],[some (.abs (.hist x) [])]=>some (.pre (hbOk th x kd ky) (.ret (.I (hbF th x kd ky).1) [some (.abs (.hist (hbF th x kd ky).2) [])]))
 | _,_=>none
theorem aCt:sT' 70 hbS:=by
 intro args h o ho K hK;unfold hbS at ho;split at ho
 case h_2=>cases ho
 simp only [sI']at ho;subst ho;obtain⟨ok,hK⟩:=hK;exact SE _ _ _ _ K (aEG ok hK)
abbrev w30(x:HST):=List.length x.1
abbrev w2k(x:HST):=List.set x.2 (0+Int.toNat (W (x.3 - 1))) (bH 9 (List.getD x.2 (0+Int.toNat (W (x.3 - 1))) []) (0+0+1) [(↑(w30 x):Int)])
abbrev w2r:=(0:Int)≤(0:Int)∧(0:Int)<(↑8:Int)
abbrev w2z(x:HST):=List.length x.2
def A7(x:HST)(code:Int)(okk:Bool)(val:Int):Tr (Int×HST):=.pre w2r (.ite (!ilt 0 x.3) (.pre (lE' x.1∧lE' x.2) (.ret (5,x))) (.pre w2r (.pre ((0:Int)≤W (x.3 - 1)∧W (x.3 - 1)<(↑(w2z x):Int)) (.pre (0+Int.toNat (W (x.3 - 1))<x.2.length) (.pre (0+Int.toNat (W (x.3 - 1))<List.length (w2k x)) (.pre (0=0∧lE' x.1∧x.1.length+(1:Nat)≤(4294967296:Nat)) (.pre w2r (.pre (x.1.length+(1:Nat)=List.length (x.1++ [[0,1,0,0,code,bif okk then 1 else 0,val]])∧x.2.length=List.length (List.set (w2k x) (0+Int.toNat (W (x.3 - 1))) (bH 9 (List.getD (w2k x) (0+Int.toNat (W (x.3 - 1))) []) (0+6) [code,bif okk then 1 else 0,val]))) (.ret (0,{x with ev:=x.1++ [[0,1,0,0,code,bif okk then 1 else 0,val]],cl:=List.set (w2k x) (0+Int.toNat (W (x.3 - 1))) (bH 9 (List.getD (w2k x) (0+Int.toNat (W (x.3 - 1))) []) (0+6) [code,bif okk then 1 else 0,val]),n0:=0}))))))))))
theorem SV(x:HST)(code:Int)(okk:Bool)(val:Int)(K:Int×HST→Prop)(h:(A7 x code okk val).run K):cT' 98 [.ptr 0 0,.I 0,.agg [.I code,.bool okk,.I val]] [cE' [.tslice 1 0 x.ev.length 7,.tslice 2 0 x.cl.length 9,.I x.n0,.I x.n1,.I x.n2,.I x.n3,.I x.n4,.I x.n5,.I x.n6,.I x.n7],some (.tab cK7 x.ev),some (.tab cK9 x.cl)] (bM 1 0 [] [] nU K):=by
 exact cM' (E:=EN0) (by kernel_rfl) h
abbrev w2l(x:HST):=List.set x.2 (0+Int.toNat (W (x.4 - 1))) (bH 9 (List.getD x.2 (0+Int.toNat (W (x.4 - 1))) []) (0+0+1) [(↑(w30 x):Int)])
abbrev w2s:=(0:Int)≤(1:Int)∧(1:Int)<(↑8:Int)
def A8(x:HST)(code:Int)(okk:Bool)(val:Int):Tr (Int×HST):=.pre w2s (.ite (!ilt 0 x.4) (.pre (lE' x.1∧lE' x.2) (.ret (5,x))) (.pre w2s (.pre ((0:Int)≤W (x.4 - 1)∧W (x.4 - 1)<(↑(w2z x):Int)) (.pre (0+Int.toNat (W (x.4 - 1))<x.2.length) (.pre (0+Int.toNat (W (x.4 - 1))<List.length (w2l x)) (.pre (0=0∧lE' x.1∧x.1.length+(1:Nat)≤(4294967296:Nat)) (.pre w2s (.pre (x.1.length+(1:Nat)=List.length (x.1++ [[1,1,0,0,code,bif okk then 1 else 0,val]])∧x.2.length=List.length (List.set (w2l x) (0+Int.toNat (W (x.4 - 1))) (bH 9 (List.getD (w2l x) (0+Int.toNat (W (x.4 - 1))) []) (0+6) [code,bif okk then 1 else 0,val]))) (.ret (0,{x with ev:=x.1++ [[1,1,0,0,code,bif okk then 1 else 0,val]],cl:=List.set (w2l x) (0+Int.toNat (W (x.4 - 1))) (bH 9 (List.getD (w2l x) (0+Int.toNat (W (x.4 - 1))) []) (0+6) [code,bif okk then 1 else 0,val]),n1:=0}))))))))))
theorem SW(x:HST)(code:Int)(okk:Bool)(val:Int)(K:Int×HST→Prop)(h:(A8 x code okk val).run K):cT' 98 [.ptr 0 0,.I 1,.agg [.I code,.bool okk,.I val]] [cE' [.tslice 1 0 x.ev.length 7,.tslice 2 0 x.cl.length 9,.I x.n0,.I x.n1,.I x.n2,.I x.n3,.I x.n4,.I x.n5,.I x.n6,.I x.n7],some (.tab cK7 x.ev),some (.tab cK9 x.cl)] (bM 1 0 [] [] nU K):=by
 exact cM' (E:=EN0) (by kernel_rfl) h
abbrev w2m(x:HST):=List.set x.2 (0+Int.toNat (W (x.5 - 1))) (bH 9 (List.getD x.2 (0+Int.toNat (W (x.5 - 1))) []) (0+0+1) [(↑(w30 x):Int)])
abbrev w2t:=(0:Int)≤(2:Int)∧(2:Int)<(↑8:Int)
def A9(x:HST)(code:Int)(okk:Bool)(val:Int):Tr (Int×HST):=.pre w2t (.ite (!ilt 0 x.5) (.pre (lE' x.1∧lE' x.2) (.ret (5,x))) (.pre w2t (.pre ((0:Int)≤W (x.5 - 1)∧W (x.5 - 1)<(↑(w2z x):Int)) (.pre (0+Int.toNat (W (x.5 - 1))<x.2.length) (.pre (0+Int.toNat (W (x.5 - 1))<List.length (w2m x)) (.pre (0=0∧lE' x.1∧x.1.length+(1:Nat)≤(4294967296:Nat)) (.pre w2t (.pre (x.1.length+(1:Nat)=List.length (x.1++ [[2,1,0,0,code,bif okk then 1 else 0,val]])∧x.2.length=List.length (List.set (w2m x) (0+Int.toNat (W (x.5 - 1))) (bH 9 (List.getD (w2m x) (0+Int.toNat (W (x.5 - 1))) []) (0+6) [code,bif okk then 1 else 0,val]))) (.ret (0,{x with ev:=x.1++ [[2,1,0,0,code,bif okk then 1 else 0,val]],cl:=List.set (w2m x) (0+Int.toNat (W (x.5 - 1))) (bH 9 (List.getD (w2m x) (0+Int.toNat (W (x.5 - 1))) []) (0+6) [code,bif okk then 1 else 0,val]),n2:=0}))))))))))
theorem SX(x:HST)(code:Int)(okk:Bool)(val:Int)(K:Int×HST→Prop)(h:(A9 x code okk val).run K):cT' 98 [.ptr 0 0,.I 2,.agg [.I code,.bool okk,.I val]] [cE' [.tslice 1 0 x.ev.length 7,.tslice 2 0 x.cl.length 9,.I x.n0,.I x.n1,.I x.n2,.I x.n3,.I x.n4,.I x.n5,.I x.n6,.I x.n7],some (.tab cK7 x.ev),some (.tab cK9 x.cl)] (bM 1 0 [] [] nU K):=by
 exact cM' (E:=EN0) (by kernel_rfl) h
abbrev w2n(x:HST):=List.set x.2 (0+Int.toNat (W (x.6 - 1))) (bH 9 (List.getD x.2 (0+Int.toNat (W (x.6 - 1))) []) (0+0+1) [(↑(w30 x):Int)])
abbrev w2u:=(0:Int)≤(3:Int)∧(3:Int)<(↑8:Int)
def BA(x:HST)(code:Int)(okk:Bool)(val:Int):Tr (Int×HST):=.pre w2u (.ite (!ilt 0 x.6) (.pre (lE' x.1∧lE' x.2) (.ret (5,x))) (.pre w2u (.pre ((0:Int)≤W (x.6 - 1)∧W (x.6 - 1)<(↑(w2z x):Int)) (.pre (0+Int.toNat (W (x.6 - 1))<x.2.length) (.pre (0+Int.toNat (W (x.6 - 1))<List.length (w2n x)) (.pre (0=0∧lE' x.1∧x.1.length+(1:Nat)≤(4294967296:Nat)) (.pre w2u (.pre (x.1.length+(1:Nat)=List.length (x.1++ [[3,1,0,0,code,bif okk then 1 else 0,val]])∧x.2.length=List.length (List.set (w2n x) (0+Int.toNat (W (x.6 - 1))) (bH 9 (List.getD (w2n x) (0+Int.toNat (W (x.6 - 1))) []) (0+6) [code,bif okk then 1 else 0,val]))) (.ret (0,{x with ev:=x.1++ [[3,1,0,0,code,bif okk then 1 else 0,val]],cl:=List.set (w2n x) (0+Int.toNat (W (x.6 - 1))) (bH 9 (List.getD (w2n x) (0+Int.toNat (W (x.6 - 1))) []) (0+6) [code,bif okk then 1 else 0,val]),n3:=0}))))))))))
theorem SY(x:HST)(code:Int)(okk:Bool)(val:Int)(K:Int×HST→Prop)(h:(BA x code okk val).run K):cT' 98 [.ptr 0 0,.I 3,.agg [.I code,.bool okk,.I val]] [cE' [.tslice 1 0 x.ev.length 7,.tslice 2 0 x.cl.length 9,.I x.n0,.I x.n1,.I x.n2,.I x.n3,.I x.n4,.I x.n5,.I x.n6,.I x.n7],some (.tab cK7 x.ev),some (.tab cK9 x.cl)] (bM 1 0 [] [] nU K):=by
 exact cM' (E:=EN0) (by kernel_rfl) h
abbrev w2o(x:HST):=List.set x.2 (0+Int.toNat (W (x.7 - 1))) (bH 9 (List.getD x.2 (0+Int.toNat (W (x.7 - 1))) []) (0+0+1) [(↑(w30 x):Int)])
abbrev w2v:=(0:Int)≤(4:Int)∧(4:Int)<(↑8:Int)
def BB(x:HST)(code:Int)(okk:Bool)(val:Int):Tr (Int×HST):=.pre w2v (.ite (!ilt 0 x.7) (.pre (lE' x.1∧lE' x.2) (.ret (5,x))) (.pre w2v (.pre ((0:Int)≤W (x.7 - 1)∧W (x.7 - 1)<(↑(w2z x):Int)) (.pre (0+Int.toNat (W (x.7 - 1))<x.2.length) (.pre (0+Int.toNat (W (x.7 - 1))<List.length (w2o x)) (.pre (0=0∧lE' x.1∧x.1.length+(1:Nat)≤(4294967296:Nat)) (.pre w2v (.pre (x.1.length+(1:Nat)=List.length (x.1++ [[4,1,0,0,code,bif okk then 1 else 0,val]])∧x.2.length=List.length (List.set (w2o x) (0+Int.toNat (W (x.7 - 1))) (bH 9 (List.getD (w2o x) (0+Int.toNat (W (x.7 - 1))) []) (0+6) [code,bif okk then 1 else 0,val]))) (.ret (0,{x with ev:=x.1++ [[4,1,0,0,code,bif okk then 1 else 0,val]],cl:=List.set (w2o x) (0+Int.toNat (W (x.7 - 1))) (bH 9 (List.getD (w2o x) (0+Int.toNat (W (x.7 - 1))) []) (0+6) [code,bif okk then 1 else 0,val]),n4:=0}))))))))))
theorem SZ(x:HST)(code:Int)(okk:Bool)(val:Int)(K:Int×HST→Prop)(h:(BB x code okk val).run K):cT' 98 [.ptr 0 0,.I 4,.agg [.I code,.bool okk,.I val]] [cE' [.tslice 1 0 x.ev.length 7,.tslice 2 0 x.cl.length 9,.I x.n0,.I x.n1,.I x.n2,.I x.n3,.I x.n4,.I x.n5,.I x.n6,.I x.n7],some (.tab cK7 x.ev),some (.tab cK9 x.cl)] (bM 1 0 [] [] nU K):=by
 exact cM' (E:=EN0) (by kernel_rfl) h
abbrev w2p(x:HST):=List.set x.2 (0+Int.toNat (W (x.8 - 1))) (bH 9 (List.getD x.2 (0+Int.toNat (W (x.8 - 1))) []) (0+0+1) [(↑(w30 x):Int)])
abbrev w2w:=(0:Int)≤(5:Int)∧(5:Int)<(↑8:Int)
def BC(x:HST)(code:Int)(okk:Bool)(val:Int):Tr (Int×HST):=.pre w2w (.ite (!ilt 0 x.8) (.pre (lE' x.1∧lE' x.2) (.ret (5,x))) (.pre w2w (.pre ((0:Int)≤W (x.8 - 1)∧W (x.8 - 1)<(↑(w2z x):Int)) (.pre (0+Int.toNat (W (x.8 - 1))<x.2.length) (.pre (0+Int.toNat (W (x.8 - 1))<List.length (w2p x)) (.pre (0=0∧lE' x.1∧x.1.length+(1:Nat)≤(4294967296:Nat)) (.pre w2w (.pre (x.1.length+(1:Nat)=List.length (x.1++ [[5,1,0,0,code,bif okk then 1 else 0,val]])∧x.2.length=List.length (List.set (w2p x) (0+Int.toNat (W (x.8 - 1))) (bH 9 (List.getD (w2p x) (0+Int.toNat (W (x.8 - 1))) []) (0+6) [code,bif okk then 1 else 0,val]))) (.ret (0,{x with ev:=x.1++ [[5,1,0,0,code,bif okk then 1 else 0,val]],cl:=List.set (w2p x) (0+Int.toNat (W (x.8 - 1))) (bH 9 (List.getD (w2p x) (0+Int.toNat (W (x.8 - 1))) []) (0+6) [code,bif okk then 1 else 0,val]),n5:=0}))))))))))
theorem S0(x:HST)(code:Int)(okk:Bool)(val:Int)(K:Int×HST→Prop)(h:(BC x code okk val).run K):cT' 98 [.ptr 0 0,.I 5,.agg [.I code,.bool okk,.I val]] [cE' [.tslice 1 0 x.ev.length 7,.tslice 2 0 x.cl.length 9,.I x.n0,.I x.n1,.I x.n2,.I x.n3,.I x.n4,.I x.n5,.I x.n6,.I x.n7],some (.tab cK7 x.ev),some (.tab cK9 x.cl)] (bM 1 0 [] [] nU K):=by
 exact cM' (E:=EN0) (by kernel_rfl) h
abbrev w2q(x:HST):=List.set x.2 (0+Int.toNat (W (x.9 - 1))) (bH 9 (List.getD x.2 (0+Int.toNat (W (x.9 - 1))) []) (0+0+1) [(↑(w30 x):Int)])
abbrev w2x:=(0:Int)≤(6:Int)∧(6:Int)<(↑8:Int)
def BD(x:HST)(code:Int)(okk:Bool)(val:Int):Tr (Int×HST):=.pre w2x (.ite (!ilt 0 x.9) (.pre (lE' x.1∧lE' x.2) (.ret (5,x))) (.pre w2x (.pre ((0:Int)≤W (x.9 - 1)∧W (x.9 - 1)<(↑(w2z x):Int)) (.pre (0+Int.toNat (W (x.9 - 1))<x.2.length) (.pre (0+Int.toNat (W (x.9 - 1))<List.length (w2q x)) (.pre (0=0∧lE' x.1∧x.1.length+(1:Nat)≤(4294967296:Nat)) (.pre w2x (.pre (x.1.length+(1:Nat)=List.length (x.1++ [[6,1,0,0,code,bif okk then 1 else 0,val]])∧x.2.length=List.length (List.set (w2q x) (0+Int.toNat (W (x.9 - 1))) (bH 9 (List.getD (w2q x) (0+Int.toNat (W (x.9 - 1))) []) (0+6) [code,bif okk then 1 else 0,val]))) (.ret (0,{x with ev:=x.1++ [[6,1,0,0,code,bif okk then 1 else 0,val]],cl:=List.set (w2q x) (0+Int.toNat (W (x.9 - 1))) (bH 9 (List.getD (w2q x) (0+Int.toNat (W (x.9 - 1))) []) (0+6) [code,bif okk then 1 else 0,val]),n6:=0}))))))))))
theorem S1(x:HST)(code:Int)(okk:Bool)(val:Int)(K:Int×HST→Prop)(h:(BD x code okk val).run K):cT' 98 [.ptr 0 0,.I 6,.agg [.I code,.bool okk,.I val]] [cE' [.tslice 1 0 x.ev.length 7,.tslice 2 0 x.cl.length 9,.I x.n0,.I x.n1,.I x.n2,.I x.n3,.I x.n4,.I x.n5,.I x.n6,.I x.n7],some (.tab cK7 x.ev),some (.tab cK9 x.cl)] (bM 1 0 [] [] nU K):=by
 exact cM' (E:=EN0) (by kernel_rfl) h
abbrev w2j(x:HST):=List.set x.2 (0+Int.toNat (W (x.10 - 1))) (bH 9 (List.getD x.2 (0+Int.toNat (W (x.10 - 1))) []) (0+0+1) [(↑(w30 x):Int)])
abbrev w2y:=(0:Int)≤(7:Int)∧(7:Int)<(↑8:Int)
def BE(x:HST)(code:Int)(okk:Bool)(val:Int):Tr (Int×HST):=.pre w2y (.ite (!ilt 0 x.10) (.pre (lE' x.1∧lE' x.2) (.ret (5,x))) (.pre w2y (.pre ((0:Int)≤W (x.10 - 1)∧W (x.10 - 1)<(↑(w2z x):Int)) (.pre (0+Int.toNat (W (x.10 - 1))<x.2.length) (.pre (0+Int.toNat (W (x.10 - 1))<List.length (w2j x)) (.pre (0=0∧lE' x.1∧x.1.length+(1:Nat)≤(4294967296:Nat)) (.pre w2y (.pre (x.1.length+(1:Nat)=List.length (x.1++ [[7,1,0,0,code,bif okk then 1 else 0,val]])∧x.2.length=List.length (List.set (w2j x) (0+Int.toNat (W (x.10 - 1))) (bH 9 (List.getD (w2j x) (0+Int.toNat (W (x.10 - 1))) []) (0+6) [code,bif okk then 1 else 0,val]))) (.ret (0,{x with ev:=x.1++ [[7,1,0,0,code,bif okk then 1 else 0,val]],cl:=List.set (w2j x) (0+Int.toNat (W (x.10 - 1))) (bH 9 (List.getD (w2j x) (0+Int.toNat (W (x.10 - 1))) []) (0+6) [code,bif okk then 1 else 0,val]),n7:=0}))))))))))
theorem S2(x:HST)(code:Int)(okk:Bool)(val:Int)(K:Int×HST→Prop)(h:(BE x code okk val).run K):cT' 98 [.ptr 0 0,.I 7,.agg [.I code,.bool okk,.I val]] [cE' [.tslice 1 0 x.ev.length 7,.tslice 2 0 x.cl.length 9,.I x.n0,.I x.n1,.I x.n2,.I x.n3,.I x.n4,.I x.n5,.I x.n6,.I x.n7],some (.tab cK7 x.ev),some (.tab cK9 x.cl)] (bM 1 0 [] [] nU K):=by
 exact cM' (E:=EN0) (by kernel_rfl) h
def heT(th:Int)(x:HST)(code:Int)(okk:Bool)(val:Int):Tr (Int×HST):=
 bif ieq th 0 then A7 x code okk val else
 bif ieq th 1 then A8 x code okk val else
 bif ieq th 2 then A9 x code okk val else
 bif ieq th 3 then BA x code okk val else
 bif ieq th 4 then BB x code okk val else
 bif ieq th 5 then BC x code okk val else
 bif ieq th 6 then BD x code okk val else
 bif ieq th 7 then BE x code okk val else .pre False (.ret default)
def heF(th:Int)(x:HST)(code:Int)(okk:Bool)(val:Int):Int×HST:=(heT th x code okk val).val
def heOk(th:Int)(x:HST)(code:Int)(okk:Bool)(val:Int):Prop:=(heT th x code okk val).ok
theorem SU(th:Int)(x:HST)(code:Int)(okk:Bool)(val:Int)(K:AVal→aD Ob→Prop)(h:(heT th x code okk val).run (fun y=>(Out.ret (.I y.1) [some (.abs (.hist y.2) [])]).run K)):cT' 98 [.ptr 0 0,.I th,.agg [.I code,.bool okk,.I val]] [some (.abs (.hist x) [])] K:=by
 unfold heT at h
 by_cases e:th=0
 ·rw [e]at h;have h:(A7 x code okk val).run _:=h;rw [e];exact aEB (root:=0) (pos:=[]) (cs:=[]) (parse:=nU) (fin:=fun y=>.ret (.I y.1) [some (.abs (.hist y.2) [])]) fD (aS.unpack (.hist x) 0 0 (xS x) [] rfl rfl rfl rfl) (SV x code okk val _ h)
 rw [bI e]at h
 by_cases e:th=1
 ·rw [e]at h;have h:(A8 x code okk val).run _:=h;rw [e];exact aEB (root:=0) (pos:=[]) (cs:=[]) (parse:=nU) (fin:=fun y=>.ret (.I y.1) [some (.abs (.hist y.2) [])]) fD (aS.unpack (.hist x) 0 0 (xS x) [] rfl rfl rfl rfl) (SW x code okk val _ h)
 rw [bI e]at h
 by_cases e:th=2
 ·rw [e]at h;have h:(A9 x code okk val).run _:=h;rw [e];exact aEB (root:=0) (pos:=[]) (cs:=[]) (parse:=nU) (fin:=fun y=>.ret (.I y.1) [some (.abs (.hist y.2) [])]) fD (aS.unpack (.hist x) 0 0 (xS x) [] rfl rfl rfl rfl) (SX x code okk val _ h)
 rw [bI e]at h
 by_cases e:th=3
 ·rw [e]at h;have h:(BA x code okk val).run _:=h;rw [e];exact aEB (root:=0) (pos:=[]) (cs:=[]) (parse:=nU) (fin:=fun y=>.ret (.I y.1) [some (.abs (.hist y.2) [])]) fD (aS.unpack (.hist x) 0 0 (xS x) [] rfl rfl rfl rfl) (SY x code okk val _ h)
 rw [bI e]at h
 by_cases e:th=4
 ·rw [e]at h;have h:(BB x code okk val).run _:=h;rw [e];exact aEB (root:=0) (pos:=[]) (cs:=[]) (parse:=nU) (fin:=fun y=>.ret (.I y.1) [some (.abs (.hist y.2) [])]) fD (aS.unpack (.hist x) 0 0 (xS x) [] rfl rfl rfl rfl) (SZ x code okk val _ h)
 rw [bI e]at h
 by_cases e:th=5
 ·rw [e]at h;have h:(BC x code okk val).run _:=h;rw [e];exact aEB (root:=0) (pos:=[]) (cs:=[]) (parse:=nU) (fin:=fun y=>.ret (.I y.1) [some (.abs (.hist y.2) [])]) fD (aS.unpack (.hist x) 0 0 (xS x) [] rfl rfl rfl rfl) (S0 x code okk val _ h)
 rw [bI e]at h
 by_cases e:th=6
 ·rw [e]at h;have h:(BD x code okk val).run _:=h;rw [e];exact aEB (root:=0) (pos:=[]) (cs:=[]) (parse:=nU) (fin:=fun y=>.ret (.I y.1) [some (.abs (.hist y.2) [])]) fD (aS.unpack (.hist x) 0 0 (xS x) [] rfl rfl rfl rfl) (S1 x code okk val _ h)
 rw [bI e]at h
 by_cases e:th=7
 ·rw [e]at h;have h:(BE x code okk val).run _:=h;rw [e];exact aEB (root:=0) (pos:=[]) (cs:=[]) (parse:=nU) (fin:=fun y=>.ret (.I y.1) [some (.abs (.hist y.2) [])]) fD (aS.unpack (.hist x) 0 0 (xS x) [] rfl rfl rfl rfl) (S2 x code okk val _ h)
 rw [bI e]at h;exact h.1.elim
def heS:aI Ob:=fun args h=>match args,h with
 | [.ptr 0 0,.int .i64 th,.agg [.int .i64 code,.bool okk,.int .i64 val]],[some (.abs (.hist x) [])]=>some (.pre (heOk th x code okk val) (.ret (.I (heF th x code okk val).1) [some (.abs (.hist (heF th x code okk val).2) [])]))
 | _,_=>none
theorem aCy:sT' 98 heS:=by
 intro args h o ho K hK;unfold heS at ho;split at ho
 case h_2=>cases ho
 simp only [sI']at ho;subst ho;obtain⟨ok,hK⟩:=hK;exact SU _ _ _ _ _ K (aEG ok hK)
noncomputable def EN1:=((EN0.addS 81 hnS aCA).addS 70 hbS aCt).addS 98 heS aCy
end Go.Sh
