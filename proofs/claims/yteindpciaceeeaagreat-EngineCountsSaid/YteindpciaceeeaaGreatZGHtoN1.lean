import Derived.Test.YteindpciaceeeaaGreatZGC6toGH0
set_option linter.all false
set_option maxHeartbeats 8000000
namespace Go.Sh
open Go Go.Proofs
variable [Con]
structure HpO where
 d:Bool
 x:HPS
 st:STS
 s:MS
instance:Inhabited HpO:=⟨⟨false,bU,⟨0,0,[]⟩,⟨0,0,[],0,0,0,0,0,false⟩⟩⟩
instance:Inhabited HPS:=⟨bU⟩
abbrev G6(t n:Int)(x:HPS)(st:STS)(s:MS):aC Ob:=[some (.abs (.help t n x) [1]),some (.abs (.store t n st) []),bE 3 s,bF s]
abbrev K9(t n:Int)(x:HPS)(st:STS)(s:MS):aC Ob:=[cE' [.ptr 1 0,.I x.u,.int .u64 x.no,.I x.rounds,.I x.limit,.I x.at',.int .u64 x.found,.I x.sh,.I x.kd,.I x.ky,.bool x.p.now,.I x.p.code,.bool x.p.okk,.I x.p.val,.I x.p.addr,.int .u64 x.p.old,.I x.p.nxt,.bool x.p.mark,.I x.p.pops,.O,.O,.O,.O,.O],some (.abs (.store t n st) []),bE 3 s,bF s]
def HpO.fin(t n:Int)(y:HpO):Out Ob:=.ite y.d (.ret (.bool true) (K9 t n y.x y.st y.s)) (.ret (.bool false) (G6 t n y.x y.st y.s))
def aBt(t n:Int)(v:AVal)(g:aC Ob):Option (Prop×HpO):=match v,g with
 | .bool d,[some (.cells [.ptr 1 0,.int .i64 u,.int .u64 no,.int .i64 rounds,.int .i64 limit,.int .i64 at',.int .u64 found,.int .i64 sh,.int .i64 kd,.int .i64 ky,.bool p_now,.int .i64 p_code,.bool p_okk,.int .i64 p_val,.int .i64 p_addr,.int .u64 p_old,.int .i64 p_nxt,.bool p_mark,.int .i64 p_pops,.O,.O,.O,.O,.O]),e1,e3,e4,e2]=>(match lK 4 [e1,e2],cO 3 [e3,e4]with
   | some (l2,t2,n2,st),some (l,s)=>some ((t2=t∧n2=n)∧(d=false→at'≠3∧at'≠4∧at'≠5∧at'≠7∧at'≠8)∧l=s.xs.length∧l2=st.R.length,⟨d,⟨u,no,rounds,limit,at',found,sh,kd,ky,⟨p_now,p_code,p_okk,p_val,p_addr,p_old,p_nxt,p_mark,p_pops⟩,cL,aX,aR,⟨0,0,0,0⟩,⟨0,0,0,false⟩⟩,st,s⟩)
   | _,_=>none)
 | _,_=>none
def aBu(t n:Int)(v:AVal)(g:aC Ob):Option (Prop×HpO):=match v,g with
 | .bool d,[some (.cells [.ptr 1 0,.int .i64 u,.int .u64 no,.int .i64 rounds,.int .i64 limit,.int .i64 at',.int .u64 found,.int .i64 sh,.int .i64 kd,.int .i64 ky,.bool p_now,.int .i64 p_code,.bool p_okk,.int .i64 p_val,.int .i64 p_addr,.int .u64 p_old,.int .i64 p_nxt,.bool p_mark,.int .i64 p_pops,.ptr 4 0,.O,.O,.O,.O]),e1,e3,e4,some (.abs (.exec t' n' sub) []),e2]=>(match lK 5 [e1,e2],cO 3 [e3,e4]with
   | some (l2,t2,n2,st),some (l,s)=>some ((t2=t∧n2=n)∧t'=t∧n'=n∧(d=false→at'=3)∧l=s.xs.length∧l2=st.R.length,⟨d,⟨u,no,rounds,limit,at',found,sh,kd,ky,⟨p_now,p_code,p_okk,p_val,p_addr,p_old,p_nxt,p_mark,p_pops⟩,sub,aX,aR,⟨0,0,0,0⟩,⟨0,0,0,false⟩⟩,st,s⟩)
   | _,_=>none)
 | _,_=>none
def aBv(t n:Int)(v:AVal)(g:aC Ob):Option (Prop×HpO):=match v,g with
 | .bool d,[some (.cells [.ptr 1 0,.int .i64 u,.int .u64 no,.int .i64 rounds,.int .i64 limit,.int .i64 at',.int .u64 found,.int .i64 sh,.int .i64 kd,.int .i64 ky,.bool p_now,.int .i64 p_code,.bool p_okk,.int .i64 p_val,.int .i64 p_addr,.int .u64 p_old,.int .i64 p_nxt,.bool p_mark,.int .i64 p_pops,.O,.ptr 4 0,.O,.O,.O]),e1,e3,e4,some (.abs (.ensure t' n' sub) [1]),e2]=>(match lK 5 [e1,e2],cO 3 [e3,e4]with
   | some (l2,t2,n2,st),some (l,s)=>some ((t2=t∧n2=n)∧t'=t∧n'=n∧(d=false→at'=4)∧l=s.xs.length∧l2=st.R.length,⟨d,⟨u,no,rounds,limit,at',found,sh,kd,ky,⟨p_now,p_code,p_okk,p_val,p_addr,p_old,p_nxt,p_mark,p_pops⟩,cL,sub,aR,⟨0,0,0,0⟩,⟨0,0,0,false⟩⟩,st,s⟩)
   | _,_=>none)
 | _,_=>none
def aBw(t n:Int)(v:AVal)(g:aC Ob):Option (Prop×HpO):=match v,g with
 | .bool d,[some (.cells [.ptr 1 0,.int .i64 u,.int .u64 no,.int .i64 rounds,.int .i64 limit,.int .i64 at',.int .u64 found,.int .i64 sh,.int .i64 kd,.int .i64 ky,.bool p_now,.int .i64 p_code,.bool p_okk,.int .i64 p_val,.int .i64 p_addr,.int .u64 p_old,.int .i64 p_nxt,.bool p_mark,.int .i64 p_pops,.O,.O,.ptr 4 0,.O,.O]),e1,e3,e4,some (.abs (.find t' n' sub) []),e2]=>(match lK 5 [e1,e2],cO 3 [e3,e4]with
   | some (l2,t2,n2,st),some (l,s)=>some ((t2=t∧n2=n)∧t'=t∧n'=n∧(d=false→at'=5)∧l=s.xs.length∧l2=st.R.length,⟨d,⟨u,no,rounds,limit,at',found,sh,kd,ky,⟨p_now,p_code,p_okk,p_val,p_addr,p_old,p_nxt,p_mark,p_pops⟩,cL,aX,sub,⟨0,0,0,0⟩,⟨0,0,0,false⟩⟩,st,s⟩)
   | _,_=>none)
 | _,_=>none
def aBx(t n:Int)(v:AVal)(g:aC Ob):Option (Prop×HpO):=match v,g with
 | .bool d,[some (.cells [.ptr 1 0,.int .i64 u,.int .u64 no,.int .i64 rounds,.int .i64 limit,.int .i64 at',.int .u64 found,.int .i64 sh,.int .i64 kd,.int .i64 ky,.bool p_now,.int .i64 p_code,.bool p_okk,.int .i64 p_val,.int .i64 p_addr,.int .u64 p_old,.int .i64 p_nxt,.bool p_mark,.int .i64 p_pops,.O,.O,.O,.ptr 4 0,.O]),e1,e3,e4,some (.abs (.clear t' n' sub) []),e2]=>(match lK 5 [e1,e2],cO 3 [e3,e4]with
   | some (l2,t2,n2,st),some (l,s)=>some ((t2=t∧n2=n)∧t'=t∧n'=n∧(d=false→at'=7)∧l=s.xs.length∧l2=st.R.length,⟨d,⟨u,no,rounds,limit,at',found,sh,kd,ky,⟨p_now,p_code,p_okk,p_val,p_addr,p_old,p_nxt,p_mark,p_pops⟩,cL,aX,aR,sub,⟨0,0,0,false⟩⟩,st,s⟩)
   | _,_=>none)
 | _,_=>none
def aBy(t n:Int)(v:AVal)(g:aC Ob):Option (Prop×HpO):=match v,g with
 | .bool d,[some (.cells [.ptr 1 0,.int .i64 u,.int .u64 no,.int .i64 rounds,.int .i64 limit,.int .i64 at',.int .u64 found,.int .i64 sh,.int .i64 kd,.int .i64 ky,.bool p_now,.int .i64 p_code,.bool p_okk,.int .i64 p_val,.int .i64 p_addr,.int .u64 p_old,.int .i64 p_nxt,.bool p_mark,.int .i64 p_pops,.O,.O,.O,.O,.ptr 4 0]),e1,e3,e4,some (.abs (.prepare t' n' sub) [1]),e2]=>(match lK 5 [e1,e2],cO 3 [e3,e4]with
   | some (l2,t2,n2,st),some (l,s)=>some ((t2=t∧n2=n)∧t'=t∧n'=n∧(d=false→at'=8)∧l=s.xs.length∧l2=st.R.length,⟨d,⟨u,no,rounds,limit,at',found,sh,kd,ky,⟨p_now,p_code,p_okk,p_val,p_addr,p_old,p_nxt,p_mark,p_pops⟩,cL,aX,aR,⟨0,0,0,0⟩,sub⟩,st,s⟩)
   | _,_=>none)
 | _,_=>none
def vS(t n:Int)(v:AVal)(g:aC Ob):Option (Prop×HpO):=(match aBt t n v g with
 | some r=>some r
 | none=>(match aBu t n v g with
 | some r=>some r
 | none=>(match aBv t n v g with
 | some r=>some r
 | none=>(match aBw t n v g with
 | some r=>some r
 | none=>(match aBx t n v g with
 | some r=>some r
 | none=>aBy t n v g)))))
theorem VA{t n:Int} :bV (obI tbl) 4 (aBt t n) (HpO.fin t n):=by
 intro v g p x hp hq K hK;unfold aBt at hp;split at hp
 case h_2=>cases hp
 rename_i d u no rounds limit at' found sh kd ky p_now p_code p_okk p_val p_addr p_old p_nxt p_mark p_pops e1 e3 e4 e2;split at hp
 case h_2=>cases hp
 rename_i l2 t2 n2 st l s hs hm;simp only [sI',pI']at hp;obtain⟨rfl,rfl⟩:=hp;obtain⟨⟨rfl,rfl⟩,hat,hl,hl2⟩:=hq;have hh:=bD hm hl;cases hh;have hh:=cH hs hl2;cases hh;refine fH hK (fun h=>?_) (fun hd h=>?_)
 ·exact⟨⟨_,_,(aF.pack (K9 t2 n2 (⟨u,no,rounds,limit,at',found,sh,kd,ky,⟨p_now,p_code,p_okk,p_val,p_addr,p_old,p_nxt,p_mark,p_pops⟩,cL,aX,aR,⟨0,0,0,0⟩,⟨0,0,0,false⟩⟩:HPS) st s) (.store t2 n2 st) 1 0 (dL t2 n2 st) [] (by kernel_rfl) rfl rfl (by kernel_rfl)),h⟩⟩
 ·exact let X0:HPS:=⟨u,no,rounds,limit,at',found,sh,kd,ky,⟨p_now,p_code,p_okk,p_val,p_addr,p_old,p_nxt,p_mark,p_pops⟩,cL,aX,aR,⟨0,0,0,0⟩,⟨0,0,0,false⟩⟩;⟨⟨_,_,((aF.pack (aM (G6 t2 n2 X0 st s) 0 1 (lG t2 n2 X0) [1]) (.store t2 n2 st) 1 0 (dL t2 n2 st) [] (by kernel_rfl) rfl rfl (by kernel_rfl)).trans (aF.pack (G6 t2 n2 X0 st s) (.help t2 n2 X0) 0 1 (lG t2 n2 X0) [1] (by kernel_rfl) rfl (congrArg (Prod.mk 1) (kB (hat hd))) (by kernel_rfl))),h⟩⟩
theorem VB{t n:Int} :bV (obI tbl) 4 (aBu t n) (HpO.fin t n):=by
 intro v g p x hp hq K hK;unfold aBu at hp;split at hp
 case h_2=>cases hp
 rename_i d u no rounds limit at' found sh kd ky p_now p_code p_okk p_val p_addr p_old p_nxt p_mark p_pops e1 e3 e4 t' n' sub e2;split at hp
 case h_2=>cases hp
 rename_i l2 t2 n2 st l s hs hm;simp only [sI',pI']at hp;obtain⟨rfl,rfl⟩:=hp;obtain⟨⟨rfl,rfl⟩,rfl,rfl,hat,hl,hl2⟩:=hq;have hh:=bD hm hl;cases hh;have hh:=cH hs hl2;cases hh;refine fH hK (fun h=>?_) (fun hd h=>?_)
 ·exact⟨⟨_,_,(aF.weak (cA _ 0 [19,20,21,22,23])).trans ((aF.pick [0,1,2,3,5] rfl).trans ((aGQ (g2:=aM (K9 t' n' (⟨u,no,rounds,limit,at',found,sh,kd,ky,⟨p_now,p_code,p_okk,p_val,p_addr,p_old,p_nxt,p_mark,p_pops⟩,sub,aX,aR,⟨0,0,0,0⟩,⟨0,0,0,false⟩⟩:HPS) st s) 1 0 (dL t' n' st) []) (by kernel_rfl) (by kernel_rfl)).trans (aF.pack (K9 t' n' (⟨u,no,rounds,limit,at',found,sh,kd,ky,⟨p_now,p_code,p_okk,p_val,p_addr,p_old,p_nxt,p_mark,p_pops⟩,sub,aX,aR,⟨0,0,0,0⟩,⟨0,0,0,false⟩⟩:HPS) st s) (.store t' n' st) 1 0 (dL t' n' st) [] (by kernel_rfl) rfl rfl (by kernel_rfl)))),h⟩⟩
 ·exact let X0:HPS:=⟨u,no,rounds,limit,at',found,sh,kd,ky,⟨p_now,p_code,p_okk,p_val,p_addr,p_old,p_nxt,p_mark,p_pops⟩,sub,aX,aR,⟨0,0,0,0⟩,⟨0,0,0,false⟩⟩;⟨⟨_,_,((aF.pack (aM (G6 t' n' X0 st s) 0 1 (nF t' n' X0) [1]) (.store t' n' st) 1 0 (dL t' n' st) [] (by kernel_rfl) rfl rfl (by kernel_rfl)).trans (aF.pack (G6 t' n' X0 st s) (.help t' n' X0) 0 1 (nF t' n' X0) [1] (by kernel_rfl) rfl (congrArg (Prod.mk 1) (G1 (hat hd))) (by kernel_rfl))),h⟩⟩
theorem VC{t n:Int} :bV (obI tbl) 4 (aBv t n) (HpO.fin t n):=by
 intro v g p x hp hq K hK;unfold aBv at hp;split at hp
 case h_2=>cases hp
 rename_i d u no rounds limit at' found sh kd ky p_now p_code p_okk p_val p_addr p_old p_nxt p_mark p_pops e1 e3 e4 t' n' sub e2;split at hp
 case h_2=>cases hp
 rename_i l2 t2 n2 st l s hs hm;simp only [sI',pI']at hp;obtain⟨rfl,rfl⟩:=hp;obtain⟨⟨rfl,rfl⟩,rfl,rfl,hat,hl,hl2⟩:=hq;have hh:=bD hm hl;cases hh;have hh:=cH hs hl2;cases hh;refine fH hK (fun h=>?_) (fun hd h=>?_)
 ·exact⟨⟨_,_,(aF.weak (cA _ 0 [19,20,21,22,23])).trans ((aF.pick [0,1,2,3,5] rfl).trans ((aGQ (g2:=aM (K9 t' n' (⟨u,no,rounds,limit,at',found,sh,kd,ky,⟨p_now,p_code,p_okk,p_val,p_addr,p_old,p_nxt,p_mark,p_pops⟩,cL,sub,aR,⟨0,0,0,0⟩,⟨0,0,0,false⟩⟩:HPS) st s) 1 0 (dL t' n' st) []) (by kernel_rfl) (by kernel_rfl)).trans (aF.pack (K9 t' n' (⟨u,no,rounds,limit,at',found,sh,kd,ky,⟨p_now,p_code,p_okk,p_val,p_addr,p_old,p_nxt,p_mark,p_pops⟩,cL,sub,aR,⟨0,0,0,0⟩,⟨0,0,0,false⟩⟩:HPS) st s) (.store t' n' st) 1 0 (dL t' n' st) [] (by kernel_rfl) rfl rfl (by kernel_rfl)))),h⟩⟩
 ·exact let X0:HPS:=⟨u,no,rounds,limit,at',found,sh,kd,ky,⟨p_now,p_code,p_okk,p_val,p_addr,p_old,p_nxt,p_mark,p_pops⟩,cL,sub,aR,⟨0,0,0,0⟩,⟨0,0,0,false⟩⟩;⟨⟨_,_,((aF.pack (aM (G6 t' n' X0 st s) 0 1 (nE t' n' X0) [1]) (.store t' n' st) 1 0 (dL t' n' st) [] (by kernel_rfl) rfl rfl (by kernel_rfl)).trans (aF.pack (G6 t' n' X0 st s) (.help t' n' X0) 0 1 (nE t' n' X0) [1] (by kernel_rfl) rfl (congrArg (Prod.mk 1) (G2 (hat hd))) (by kernel_rfl))),h⟩⟩
theorem VD{t n:Int} :bV (obI tbl) 4 (aBw t n) (HpO.fin t n):=by
 intro v g p x hp hq K hK;unfold aBw at hp;split at hp
 case h_2=>cases hp
 rename_i d u no rounds limit at' found sh kd ky p_now p_code p_okk p_val p_addr p_old p_nxt p_mark p_pops e1 e3 e4 t' n' sub e2;split at hp
 case h_2=>cases hp
 rename_i l2 t2 n2 st l s hs hm;simp only [sI',pI']at hp;obtain⟨rfl,rfl⟩:=hp;obtain⟨⟨rfl,rfl⟩,rfl,rfl,hat,hl,hl2⟩:=hq;have hh:=bD hm hl;cases hh;have hh:=cH hs hl2;cases hh;refine fH hK (fun h=>?_) (fun hd h=>?_)
 ·exact⟨⟨_,_,(aF.weak (cA _ 0 [19,20,21,22,23])).trans ((aF.pick [0,1,2,3,5] rfl).trans ((aGQ (g2:=aM (K9 t' n' (⟨u,no,rounds,limit,at',found,sh,kd,ky,⟨p_now,p_code,p_okk,p_val,p_addr,p_old,p_nxt,p_mark,p_pops⟩,cL,aX,sub,⟨0,0,0,0⟩,⟨0,0,0,false⟩⟩:HPS) st s) 1 0 (dL t' n' st) []) (by kernel_rfl) (by kernel_rfl)).trans (aF.pack (K9 t' n' (⟨u,no,rounds,limit,at',found,sh,kd,ky,⟨p_now,p_code,p_okk,p_val,p_addr,p_old,p_nxt,p_mark,p_pops⟩,cL,aX,sub,⟨0,0,0,0⟩,⟨0,0,0,false⟩⟩:HPS) st s) (.store t' n' st) 1 0 (dL t' n' st) [] (by kernel_rfl) rfl rfl (by kernel_rfl)))),h⟩⟩
 ·exact let X0:HPS:=⟨u,no,rounds,limit,at',found,sh,kd,ky,⟨p_now,p_code,p_okk,p_val,p_addr,p_old,p_nxt,p_mark,p_pops⟩,cL,aX,sub,⟨0,0,0,0⟩,⟨0,0,0,false⟩⟩;⟨⟨_,_,((aF.pack (aM (G6 t' n' X0 st s) 0 1 (nG t' n' X0) [1]) (.store t' n' st) 1 0 (dL t' n' st) [] (by kernel_rfl) rfl rfl (by kernel_rfl)).trans (aF.pack (G6 t' n' X0 st s) (.help t' n' X0) 0 1 (nG t' n' X0) [1] (by kernel_rfl) rfl (congrArg (Prod.mk 1) (G3 (hat hd))) (by kernel_rfl))),h⟩⟩
theorem VF{t n:Int} :bV (obI tbl) 4 (aBx t n) (HpO.fin t n):=by
 intro v g p x hp hq K hK;unfold aBx at hp;split at hp
 case h_2=>cases hp
 rename_i d u no rounds limit at' found sh kd ky p_now p_code p_okk p_val p_addr p_old p_nxt p_mark p_pops e1 e3 e4 t' n' sub e2;split at hp
 case h_2=>cases hp
 rename_i l2 t2 n2 st l s hs hm;simp only [sI',pI']at hp;obtain⟨rfl,rfl⟩:=hp;obtain⟨⟨rfl,rfl⟩,rfl,rfl,hat,hl,hl2⟩:=hq;have hh:=bD hm hl;cases hh;have hh:=cH hs hl2;cases hh;refine fH hK (fun h=>?_) (fun hd h=>?_)
 ·exact⟨⟨_,_,(aF.weak (cA _ 0 [19,20,21,22,23])).trans ((aF.pick [0,1,2,3,5] rfl).trans ((aGQ (g2:=aM (K9 t' n' (⟨u,no,rounds,limit,at',found,sh,kd,ky,⟨p_now,p_code,p_okk,p_val,p_addr,p_old,p_nxt,p_mark,p_pops⟩,cL,aX,aR,sub,⟨0,0,0,false⟩⟩:HPS) st s) 1 0 (dL t' n' st) []) (by kernel_rfl) (by kernel_rfl)).trans (aF.pack (K9 t' n' (⟨u,no,rounds,limit,at',found,sh,kd,ky,⟨p_now,p_code,p_okk,p_val,p_addr,p_old,p_nxt,p_mark,p_pops⟩,cL,aX,aR,sub,⟨0,0,0,false⟩⟩:HPS) st s) (.store t' n' st) 1 0 (dL t' n' st) [] (by kernel_rfl) rfl rfl (by kernel_rfl)))),h⟩⟩
 ·exact let X0:HPS:=⟨u,no,rounds,limit,at',found,sh,kd,ky,⟨p_now,p_code,p_okk,p_val,p_addr,p_old,p_nxt,p_mark,p_pops⟩,cL,aX,aR,sub,⟨0,0,0,false⟩⟩;⟨⟨_,_,((aF.pack (aM (G6 t' n' X0 st s) 0 1 (nD t' n' X0) [1]) (.store t' n' st) 1 0 (dL t' n' st) [] (by kernel_rfl) rfl rfl (by kernel_rfl)).trans (aF.pack (G6 t' n' X0 st s) (.help t' n' X0) 0 1 (nD t' n' X0) [1] (by kernel_rfl) rfl (congrArg (Prod.mk 1) (G4 (hat hd))) (by kernel_rfl))),h⟩⟩
theorem VG{t n:Int} :bV (obI tbl) 4 (aBy t n) (HpO.fin t n):=by
 intro v g p x hp hq K hK;unfold aBy at hp;split at hp
 case h_2=>cases hp
 rename_i d u no rounds limit at' found sh kd ky p_now p_code p_okk p_val p_addr p_old p_nxt p_mark p_pops e1 e3 e4 t' n' sub e2;split at hp
 case h_2=>cases hp
 rename_i l2 t2 n2 st l s hs hm;simp only [sI',pI']at hp;obtain⟨rfl,rfl⟩:=hp;obtain⟨⟨rfl,rfl⟩,rfl,rfl,hat,hl,hl2⟩:=hq;have hh:=bD hm hl;cases hh;have hh:=cH hs hl2;cases hh;refine fH hK (fun h=>?_) (fun hd h=>?_)
 ·exact⟨⟨_,_,(aF.weak (cA _ 0 [19,20,21,22,23])).trans ((aF.pick [0,1,2,3,5] rfl).trans ((aGQ (g2:=aM (K9 t' n' (⟨u,no,rounds,limit,at',found,sh,kd,ky,⟨p_now,p_code,p_okk,p_val,p_addr,p_old,p_nxt,p_mark,p_pops⟩,cL,aX,aR,⟨0,0,0,0⟩,sub⟩:HPS) st s) 1 0 (dL t' n' st) []) (by kernel_rfl) (by kernel_rfl)).trans (aF.pack (K9 t' n' (⟨u,no,rounds,limit,at',found,sh,kd,ky,⟨p_now,p_code,p_okk,p_val,p_addr,p_old,p_nxt,p_mark,p_pops⟩,cL,aX,aR,⟨0,0,0,0⟩,sub⟩:HPS) st s) (.store t' n' st) 1 0 (dL t' n' st) [] (by kernel_rfl) rfl rfl (by kernel_rfl)))),h⟩⟩
 ·exact let X0:HPS:=⟨u,no,rounds,limit,at',found,sh,kd,ky,⟨p_now,p_code,p_okk,p_val,p_addr,p_old,p_nxt,p_mark,p_pops⟩,cL,aX,aR,⟨0,0,0,0⟩,sub⟩;⟨⟨_,_,((aF.pack (aM (G6 t' n' X0 st s) 0 1 (nH t' n' X0) [1]) (.store t' n' st) 1 0 (dL t' n' st) [] (by kernel_rfl) rfl rfl (by kernel_rfl)).trans (aF.pack (G6 t' n' X0 st s) (.help t' n' X0) 0 1 (nH t' n' X0) [1] (by kernel_rfl) rfl (congrArg (Prod.mk 1) (G5 (hat hd))) (by kernel_rfl))),h⟩⟩
theorem lH{t n:Int} :bV (obI tbl) 4 (vS t n) (HpO.fin t n):=by
 intro v g p x hp hq K hK;unfold vS at hp;split at hp
 ·rename_i r hr;cases hp;exact VA v g p x hr hq K hK
 split at hp
 ·rename_i r hr;cases hp;exact VB v g p x hr hq K hK
 split at hp
 ·rename_i r hr;cases hp;exact VC v g p x hr hq K hK
 split at hp
 ·rename_i r hr;cases hp;exact VD v g p x hr hq K hK
 split at hp
 ·rename_i r hr;cases hp;exact VF v g p x hr hq K hK
 exact VG v g p x hp hq K hK
abbrev w1y(n t:Int)(x:HPS):=(((0:Int)≤t∧t≤(100000:Int))∧((0:Int)≤n∧n≤(100000:Int))∧(-1099511627776:Int)≤x.1∧x.1≤(1099511627776:Int))∧True
def B4(t n:Int)(x:HPS)(st:STS)(s:MS):Tr HpO:=.pre (w1y n t x) (.pre ((lE' s.3∧(0:Int)≤s.4∧s.4≤(4611686018427387904:Int))∧True) (.pre True (.pre True (.pre ((t=t∧n=n)∧((!nN (aA (aE s.3 (2*n+5+2*t+3*x.1+2)) 49 3))=false→(1:Int)≠(3:Int)∧(1:Int)≠(4:Int)∧(1:Int)≠(5:Int)∧(1:Int)≠(7:Int)∧(1:Int)≠(8:Int))∧lE' s.3∧lE' st.3) (.ret {d:=!nN (aA (aE s.3 (2*n+5+2*t+3*x.1+2)) 49 3),x:= {x with rounds:=W (x.3+1),at':=1,found:=aE s.3 (2*n+5+2*t+3*x.1+2),ex:=cL,en:=aX,fn:=aR,cl:=cF,pr:=dN},st:=st,s:= {s with c:=s.4+1,k:=1,a:=2*n+5+2*t+3*x.1+2,o:=aE s.3 (2*n+5+2*t+3*x.1+2),w:=aE s.3 (2*n+5+2*t+3*x.1+2),ok:=bT s.3 (2*n+5+2*t+3*x.1+2) } })))))
theorem JL(t n:Int)(x:HPS)(st:STS)(s:MS)(K:HpO→Prop)(h:(B4 t n x st s).run K):cT' 152 [.ptr 0 0,.ptr 2 0] [cE' [.ptr 1 0,.I x.u,.int .u64 x.no,.I x.rounds,.I x.limit,.I 0,.int .u64 x.found,.I x.sh,.I x.kd,.I x.ky,.bool x.p.now,.I x.p.code,.bool x.p.okk,.I x.p.val,.I x.p.addr,.int .u64 x.p.old,.I x.p.nxt,.bool x.p.mark,.I x.p.pops,.O,.O,.O,.O,.O],iY 4 t n st,bE 3 s,bF s,iZ st] (bP 4 0 [19,20,21,22,23] [(.cell 1 4,.ints (some .i64))] (vS t n) K):=by
 exact cM' (E:=EH0) (by kernel_rfl) h
def B5(t n:Int)(x:HPS)(st:STS)(s:MS):Tr HpO:=.pre (w1y n t x) (.pre ((lE' s.3∧(0:Int)≤s.4∧s.4≤(4611686018427387904:Int))∧True) (.pre ((t=t∧n=n)∧((!ieq (aE s.3 (2*n+5+2*t+3*x.1)) x.2)=false→(2:Int)≠(3:Int)∧(2:Int)≠(4:Int)∧(2:Int)≠(5:Int)∧(2:Int)≠(7:Int)∧(2:Int)≠(8:Int))∧lE' s.3∧lE' st.3) (.ret {d:=!ieq (aE s.3 (2*n+5+2*t+3*x.1)) x.2,x:= {x with at':=2,ex:=cL,en:=aX,fn:=aR,cl:=cF,pr:=dN},st:=st,s:= {s with c:=s.4+1,k:=1,a:=2*n+5+2*t+3*x.1,o:=aE s.3 (2*n+5+2*t+3*x.1),w:=aE s.3 (2*n+5+2*t+3*x.1),ok:=bT s.3 (2*n+5+2*t+3*x.1) } })))
theorem JM(t n:Int)(x:HPS)(st:STS)(s:MS)(K:HpO→Prop)(h:(B5 t n x st s).run K):cT' 152 [.ptr 0 0,.ptr 2 0] [cE' [.ptr 1 0,.I x.u,.int .u64 x.no,.I x.rounds,.I x.limit,.I 1,.int .u64 x.found,.I x.sh,.I x.kd,.I x.ky,.bool x.p.now,.I x.p.code,.bool x.p.okk,.I x.p.val,.I x.p.addr,.int .u64 x.p.old,.I x.p.nxt,.bool x.p.mark,.I x.p.pops,.O,.O,.O,.O,.O],iY 4 t n st,bE 3 s,bF s,iZ st] (bP 4 0 [19,20,21,22,23] [(.cell 1 4,.ints (some .i64))] (vS t n) K):=by
 exact cM' (E:=EH0) (by kernel_rfl) h
abbrev w1u(n:Int)(s:MS)(t:Int)(x:HPS):=aE s.3 (2*n+5+2*t+3*x.1+1)
abbrev w21:=false=false→(5:Int)=(5:Int)
def B6(t n:Int)(x:HPS)(st:STS)(s:MS):Tr HpO:=.pre (w1y n t x) (.pre ((lE' s.3∧(0:Int)≤s.4∧s.4≤(4611686018427387904:Int))∧True) (.pre ((0:Int)≤aE s.3 (2*n+5+2*t+3*x.1+1)∧aE s.3 (2*n+5+2*t+3*x.1+1)≤(18446744073709551615:Int)) (.ite (!ieq (bif iS (w1u n s t x)then 0 else 3) 0) (.pre ((t=t∧n=n)∧(true=false→(2:Int)≠(3:Int)∧(2:Int)≠(4:Int)∧(2:Int)≠(5:Int)∧(2:Int)≠(7:Int)∧(2:Int)≠(8:Int))∧lE' s.3∧lE' st.3) (.ret {d:=true,x:= {x with at':=2,sh:=bif iS (w1u n s t x)then aA (w1u n s t x) 0 3 else 0,kd:=bif iS (w1u n s t x)then aA (w1u n s t x) 3 3 else 0,ky:=bif iS (w1u n s t x)then aA (w1u n s t x) 6 10 else 0,ex:=cL,en:=aX,fn:=aR,cl:=cF,pr:=dN},st:=st,s:= {s with c:=s.4+1,k:=1,a:=2*n+5+2*t+3*x.1+1,o:=aE s.3 (2*n+5+2*t+3*x.1+1),w:=aE s.3 (2*n+5+2*t+3*x.1+1),ok:=bT s.3 (2*n+5+2*t+3*x.1+1) } })) (.pre True (.ite (!hasB [1] (aA x.6 49 3)) (.pre True (.pre (NI t n x.1 (bif iS (w1u n s t x)then aA (w1u n s t x) 0 3 else 0) (bif iS (w1u n s t x)then aA (w1u n s t x) 3 3 else 0) (bif iS (w1u n s t x)then aA (w1u n s t x) 6 10 else 0) (aA x.6 0 12)∧True) (.pre ((t=t∧n=n)∧t=t∧n=n∧(false=false→(3:Int)=(3:Int))∧lE' s.3∧lE' st.3) (.ret {d:=false,x:= {x with at':=3,sh:=bif iS (w1u n s t x)then aA (w1u n s t x) 0 3 else 0,kd:=bif iS (w1u n s t x)then aA (w1u n s t x) 3 3 else 0,ky:=bif iS (w1u n s t x)then aA (w1u n s t x) 6 10 else 0,ex:=aAD t n x.1 (bif iS (w1u n s t x)then aA (w1u n s t x) 0 3 else 0) (bif iS (w1u n s t x)then aA (w1u n s t x) 3 3 else 0) (bif iS (w1u n s t x)then aA (w1u n s t x) 6 10 else 0) (aA x.6 0 12),en:=aX,fn:=aR,cl:=cF,pr:=dN},st:=st,s:= {s with c:=s.4+1,k:=1,a:=2*n+5+2*t+3*x.1+1,o:=aE s.3 (2*n+5+2*t+3*x.1+1),w:=aE s.3 (2*n+5+2*t+3*x.1+1),ok:=bT s.3 (2*n+5+2*t+3*x.1+1) } })))) (.pre True (.ite (f5 (bif iS (w1u n s t x)then aA (w1u n s t x) 3 3 else 0)) (.ite (ieq st.2 0) (.pre (lE' st.3∧(t=t∧n=n∧lE' st.3)∧True) (.pre ((t=t∧n=n)∧t=t∧n=n∧(false=false→(4:Int)=(4:Int))∧lE' s.3∧lE' st.3) (.ret {d:=false,x:= {x with at':=4,sh:=bif iS (w1u n s t x)then aA (w1u n s t x) 0 3 else 0,kd:=bif iS (w1u n s t x)then aA (w1u n s t x) 3 3 else 0,ky:=bif iS (w1u n s t x)then aA (w1u n s t x) 6 10 else 0,ex:=cL,en:=aX,fn:=aR,cl:=cF,pr:=dN},st:=st,s:= {s with c:=s.4+1,k:=1,a:=2*n+5+2*t+3*x.1+1,o:=aE s.3 (2*n+5+2*t+3*x.1+1),w:=aE s.3 (2*n+5+2*t+3*x.1+1),ok:=bT s.3 (2*n+5+2*t+3*x.1+1) } }))) (.pre True (.pre (oQ t n st.1 (fG (bif iS (w1u n s t x)then aA (w1u n s t x) 0 3 else 0) (bif iS (w1u n s t x)then aA (w1u n s t x) 6 10 else 0)) (l9 (bif iS (w1u n s t x)then aA (w1u n s t x) 0 3 else 0) (bif iS (w1u n s t x)then aA (w1u n s t x) 3 3 else 0) (bif iS (w1u n s t x)then aA (w1u n s t x) 6 10 else 0)) x.4∧True) (.pre ((t=t∧n=n)∧t=t∧n=n∧w21∧lE' s.3∧lE' st.3) (.ret {d:=false,x:= {x with at':=5,sh:=bif iS (w1u n s t x)then aA (w1u n s t x) 0 3 else 0,kd:=bif iS (w1u n s t x)then aA (w1u n s t x) 3 3 else 0,ky:=bif iS (w1u n s t x)then aA (w1u n s t x) 6 10 else 0,ex:=cL,en:=aX,fn:=uM t n st.1 (fG (bif iS (w1u n s t x)then aA (w1u n s t x) 0 3 else 0) (bif iS (w1u n s t x)then aA (w1u n s t x) 6 10 else 0)) (l9 (bif iS (w1u n s t x)then aA (w1u n s t x) 0 3 else 0) (bif iS (w1u n s t x)then aA (w1u n s t x) 3 3 else 0) (bif iS (w1u n s t x)then aA (w1u n s t x) 6 10 else 0)) x.4,cl:=cF,pr:=dN},st:=st,s:= {s with c:=s.4+1,k:=1,a:=2*n+5+2*t+3*x.1+1,o:=aE s.3 (2*n+5+2*t+3*x.1+1),w:=aE s.3 (2*n+5+2*t+3*x.1+1),ok:=bT s.3 (2*n+5+2*t+3*x.1+1) } }))))) (.pre True (.pre (oQ t n st.1 (fG (bif iS (w1u n s t x)then aA (w1u n s t x) 0 3 else 0) (bif iS (w1u n s t x)then aA (w1u n s t x) 6 10 else 0)) (l9 (bif iS (w1u n s t x)then aA (w1u n s t x) 0 3 else 0) (bif iS (w1u n s t x)then aA (w1u n s t x) 3 3 else 0) (bif iS (w1u n s t x)then aA (w1u n s t x) 6 10 else 0)) x.4∧True) (.pre ((t=t∧n=n)∧t=t∧n=n∧w21∧lE' s.3∧lE' st.3) (.ret {d:=false,x:= {x with at':=5,sh:=bif iS (w1u n s t x)then aA (w1u n s t x) 0 3 else 0,kd:=bif iS (w1u n s t x)then aA (w1u n s t x) 3 3 else 0,ky:=bif iS (w1u n s t x)then aA (w1u n s t x) 6 10 else 0,ex:=cL,en:=aX,fn:=uM t n st.1 (fG (bif iS (w1u n s t x)then aA (w1u n s t x) 0 3 else 0) (bif iS (w1u n s t x)then aA (w1u n s t x) 6 10 else 0)) (l9 (bif iS (w1u n s t x)then aA (w1u n s t x) 0 3 else 0) (bif iS (w1u n s t x)then aA (w1u n s t x) 3 3 else 0) (bif iS (w1u n s t x)then aA (w1u n s t x) 6 10 else 0)) x.4,cl:=cF,pr:=dN},st:=st,s:= {s with c:=s.4+1,k:=1,a:=2*n+5+2*t+3*x.1+1,o:=aE s.3 (2*n+5+2*t+3*x.1+1),w:=aE s.3 (2*n+5+2*t+3*x.1+1),ok:=bT s.3 (2*n+5+2*t+3*x.1+1) } })))))))))))
theorem JN(t n:Int)(x:HPS)(st:STS)(s:MS)(K:HpO→Prop)(h:(B6 t n x st s).run K):cT' 152 [.ptr 0 0,.ptr 2 0] [cE' [.ptr 1 0,.I x.u,.int .u64 x.no,.I x.rounds,.I x.limit,.I 2,.int .u64 x.found,.I x.sh,.I x.kd,.I x.ky,.bool x.p.now,.I x.p.code,.bool x.p.okk,.I x.p.val,.I x.p.addr,.int .u64 x.p.old,.I x.p.nxt,.bool x.p.mark,.I x.p.pops,.O,.O,.O,.O,.O],iY 4 t n st,bE 3 s,bF s,iZ st] (bP 4 0 [19,20,21,22,23] [(.cell 1 4,.ints (some .i64))] (vS t n) K):=by
 exact cM' (E:=EH0) (by kernel_rfl) h
abbrev w1w:=false=false→(0:Int)≠(3:Int)∧(0:Int)≠(4:Int)∧(0:Int)≠(5:Int)∧(0:Int)≠(7:Int)∧(0:Int)≠(8:Int)
def B7(t n:Int)(x:HPS)(st:STS)(s:MS):Tr HpO:=.pre (lE' s.3∧aAH t n x.11 s) (.ite (AV t n x.11 s).1 (.ite (!ieq (ExO.x (AV t n x.11 s)).1 0) (.pre (lE' st.3∧1=1∧st.3.length+(1:Nat)≤(4294967296:Nat)) (.pre ((t=t∧n=n)∧w1w∧lE' (ExO.s (AV t n x.11 s)).3∧st.3.length+(1:Nat)=List.length (st.3++ [(ExO.x (AV t n x.11 s)).1])) (.ret {d:=false,x:= {x with at':=0,ex:=cL,en:=aX,fn:=aR,cl:=cF,pr:=dN},st:= {me:=st.1,sp:=st.2,R:=st.3++ [(ExO.x (AV t n x.11 s)).1] },s:=(AV t n x.11 s).3}))) (.pre ((t=t∧n=n)∧w1w∧lE' (ExO.s (AV t n x.11 s)).3∧lE' st.3) (.ret {d:=false,x:= {x with at':=0,ex:=cL,en:=aX,fn:=aR,cl:=cF,pr:=dN},st:=st,s:=(AV t n x.11 s).3}))) (.pre ((t=t∧n=n)∧t=t∧n=n∧(false=false→(3:Int)=(3:Int))∧lE' (ExO.s (AV t n x.11 s)).3∧lE' st.3) (.ret {d:=false,x:= {x with at':=3,ex:=(AV t n x.11 s).2,en:=aX,fn:=aR,cl:=cF,pr:=dN},st:=st,s:=(AV t n x.11 s).3})))
theorem JO(t n:Int)(x:HPS)(st:STS)(s:MS)(K:HpO→Prop)(h:(B7 t n x st s).run K):cT' 152 [.ptr 0 0,.ptr 2 0] [cE' [.ptr 1 0,.I x.u,.int .u64 x.no,.I x.rounds,.I x.limit,.I 3,.int .u64 x.found,.I x.sh,.I x.kd,.I x.ky,.bool x.p.now,.I x.p.code,.bool x.p.okk,.I x.p.val,.I x.p.addr,.int .u64 x.p.old,.I x.p.nxt,.bool x.p.mark,.I x.p.pops,.ptr 4 0,.O,.O,.O,.O],iY 5 t n st,bE 3 s,bF s,some (.abs (.exec t n x.ex) []),iZ st] (bP 4 0 [19,20,21,22,23] [(.cell 1 4,.ints (some .i64))] (vS t n) K):=by
 exact cM' (E:=EH0) (by kernel_rfl) h
abbrev w1z:=false=false→(6:Int)≠(3:Int)∧(6:Int)≠(4:Int)∧(6:Int)≠(5:Int)∧(6:Int)≠(7:Int)∧(6:Int)≠(8:Int)
def B8(t n:Int)(x:HPS)(st:STS)(s:MS):Tr HpO:=.pre ((lE' s.3∧lE' st.3∧t=t∧n=n)∧J1 t n (HPS.en x) st s) (.ite (enF t n x.12 st s).1 (.ite (EO.e (enF t n x.12 st s)).2 (.pre ((t=t∧n=n)∧w1z∧lE' (EO.s (enF t n x.12 st s)).3∧lE' (EO.st (enF t n x.12 st s)).3) (.ret {d:=false,x:= {x with at':=6,p:= {now:=true,code:=4,okk:=false,val:=0,addr:=0,old:=0,nxt:=0,mark:=false,pops:=0},ex:=cL,en:=aX,fn:=aR,cl:=cF,pr:=dN},st:=(enF t n x.12 st s).3,s:=(enF t n x.12 st s).4})) (.pre True (.pre (oQ t n (EO.st (enF t n x.12 st s)).1 (fG x.7 x.9) (l9 x.7 x.8 x.9) x.4∧True) (.pre ((t=t∧n=n)∧t=t∧n=n∧w21∧lE' (EO.s (enF t n x.12 st s)).3∧lE' (EO.st (enF t n x.12 st s)).3) (.ret {d:=false,x:= {x with at':=5,ex:=cL,en:=aX,fn:=uM t n (EO.st (enF t n x.12 st s)).1 (fG x.7 x.9) (l9 x.7 x.8 x.9) x.4,cl:=cF,pr:=dN},st:=(enF t n x.12 st s).3,s:=(enF t n x.12 st s).4}))))) (.pre ((t=t∧n=n)∧t=t∧n=n∧(false=false→(4:Int)=(4:Int))∧lE' (EO.s (enF t n x.12 st s)).3∧lE' (EO.st (enF t n x.12 st s)).3) (.ret {d:=false,x:= {x with at':=4,ex:=cL,en:=(enF t n x.12 st s).2,fn:=aR,cl:=cF,pr:=dN},st:=(enF t n x.12 st s).3,s:=(enF t n x.12 st s).4})))
theorem JP(t n:Int)(x:HPS)(st:STS)(s:MS)(K:HpO→Prop)(h:(B8 t n x st s).run K):cT' 152 [.ptr 0 0,.ptr 2 0] [cE' [.ptr 1 0,.I x.u,.int .u64 x.no,.I x.rounds,.I x.limit,.I 4,.int .u64 x.found,.I x.sh,.I x.kd,.I x.ky,.bool x.p.now,.I x.p.code,.bool x.p.okk,.I x.p.val,.I x.p.addr,.int .u64 x.p.old,.I x.p.nxt,.bool x.p.mark,.I x.p.pops,.O,.ptr 4 0,.O,.O,.O],iY 5 t n st,bE 3 s,bF s,some (.abs (.ensure t n x.en) [1]),iZ st] (bP 4 0 [19,20,21,22,23] [(.cell 1 4,.ints (some .i64))] (vS t n) K):=by
 exact cM' (E:=EH0) (by kernel_rfl) h
abbrev w1x(n:Int)(s:MS)(t:Int)(x:HPS):=FnO.x (aN t n x.13 s)
abbrev w1t(n:Int)(s:MS)(st:STS)(t:Int)(x:HPS):=bL x.7 x.8 x.9 (w1x n s t x).1 (w1x n s t x).2 (w1x n s t x).3 (w1x n s t x).4 st.2
abbrev w20:=false=false→(9:Int)≠(3:Int)∧(9:Int)≠(4:Int)∧(9:Int)≠(5:Int)∧(9:Int)≠(7:Int)∧(9:Int)≠(8:Int)
def B9(t n:Int)(x:HPS)(st:STS)(s:MS):Tr HpO:=.pre (lE' s.3∧I6 t n x.13 s) (.ite (aN t n x.13 s).1 (.pre ((lE' st.3∧lE' (w1x n s t x).6∧st.3.length+List.length (w1x n s t x).6≤(4294967296:Nat))∧True) (.pre (u7 x.7 x.8 x.9 (w1x n s t x).1 (w1x n s t x).2 (w1x n s t x).3 (w1x n s t x).4 st.2∧True) (.ite (w1x n s t x).7 (.pre ((t=t∧n=n)∧w1w∧lE' (FnO.s (aN t n x.13 s)).3∧st.3.length+List.length (w1x n s t x).6=List.length (st.3++(w1x n s t x).6)) (.ret {d:=false,x:= {x with at':=0,p:=bL x.7 x.8 x.9 (w1x n s t x).1 (w1x n s t x).2 (w1x n s t x).3 (w1x n s t x).4 st.2,ex:=cL,en:=aX,fn:=aR,cl:=cF,pr:=dN},st:= {me:=st.1,sp:=st.2,R:=st.3++(w1x n s t x).6},s:=(aN t n x.13 s).3})) (.ite (w1t n s st t x).1 (.pre ((t=t∧n=n)∧w1z∧lE' (FnO.s (aN t n x.13 s)).3∧st.3.length+List.length (w1x n s t x).6=List.length (st.3++(w1x n s t x).6)) (.ret {d:=false,x:= {x with at':=6,p:=bL x.7 x.8 x.9 (w1x n s t x).1 (w1x n s t x).2 (w1x n s t x).3 (w1x n s t x).4 st.2,ex:=cL,en:=aX,fn:=aR,cl:=cF,pr:=dN},st:= {me:=st.1,sp:=st.2,R:=st.3++(w1x n s t x).6},s:=(aN t n x.13 s).3})) (.pre (oG (w1t n s st t x).1 (w1t n s st t x).2 (w1t n s st t x).3 (w1t n s st t x).4 (w1t n s st t x).5 (w1t n s st t x).6 (w1t n s st t x).7 (w1t n s st t x).8 (w1t n s st t x).9) (.ite (yJ (w1t n s st t x).1 (w1t n s st t x).2 (w1t n s st t x).3 (w1t n s st t x).4 (w1t n s st t x).5 (w1t n s st t x).6 (w1t n s st t x).7 (w1t n s st t x).8 (w1t n s st t x).9) (.pre (pT t n (w1t n s st t x).5∧True) (.pre ((t=t∧n=n)∧t=t∧n=n∧(false=false→(7:Int)=(7:Int))∧lE' (FnO.s (aN t n x.13 s)).3∧st.3.length+List.length (w1x n s t x).6=List.length (st.3++(w1x n s t x).6)) (.ret {d:=false,x:= {x with at':=7,p:=bL x.7 x.8 x.9 (w1x n s t x).1 (w1x n s t x).2 (w1x n s t x).3 (w1x n s t x).4 st.2,ex:=cL,en:=aX,fn:=aR,cl:=xT t n (w1t n s st t x).5,pr:=dN},st:= {me:=st.1,sp:=st.2,R:=st.3++(w1x n s t x).6},s:=(aN t n x.13 s).3}))) (.pre True (.ite (f5 x.8) (.pre ((st.3.length+List.length (w1x n s t x).6=List.length (st.3++(w1x n s t x).6)∧CV t n x.9 (w1x n s t x).3 {me:=st.1,sp:=st.2,R:=st.3++(w1x n s t x).6})∧True) (.pre ((t=t∧n=n)∧t=t∧n=n∧(false=false→(8:Int)=(8:Int))∧lE' (FnO.s (aN t n x.13 s)).3∧lE' (Prod.snd (qN t n x.9 (w1x n s t x).3 {me:=st.1,sp:=st.2,R:=st.3++(w1x n s t x).6})).3) (.ret {d:=false,x:= {x with at':=8,p:=bL x.7 x.8 x.9 (w1x n s t x).1 (w1x n s t x).2 (w1x n s t x).3 (w1x n s t x).4 st.2,ex:=cL,en:=aX,fn:=aR,cl:=cF,pr:=(qN t n x.9 (w1x n s t x).3 {me:=st.1,sp:=st.2,R:=st.3++(w1x n s t x).6}).1},st:=(qN t n x.9 (w1x n s t x).3 {me:=st.1,sp:=st.2,R:=st.3++(w1x n s t x).6}).2,s:=(aN t n x.13 s).3}))) (.pre ((t=t∧n=n)∧w20∧lE' (FnO.s (aN t n x.13 s)).3∧st.3.length+List.length (w1x n s t x).6=List.length (st.3++(w1x n s t x).6)) (.ret {d:=false,x:= {x with at':=9,p:=bL x.7 x.8 x.9 (w1x n s t x).1 (w1x n s t x).2 (w1x n s t x).3 (w1x n s t x).4 st.2,ex:=cL,en:=aX,fn:=aR,cl:=cF,pr:=dN},st:= {me:=st.1,sp:=st.2,R:=st.3++(w1x n s t x).6},s:=(aN t n x.13 s).3})))))))))) (.pre ((t=t∧n=n)∧t=t∧n=n∧w21∧lE' (FnO.s (aN t n x.13 s)).3∧lE' st.3) (.ret {d:=false,x:= {x with at':=5,ex:=cL,en:=aX,fn:=(aN t n x.13 s).2,cl:=cF,pr:=dN},st:=st,s:=(aN t n x.13 s).3})))
theorem JQ(t n:Int)(x:HPS)(st:STS)(s:MS)(K:HpO→Prop)(h:(B9 t n x st s).run K):cT' 152 [.ptr 0 0,.ptr 2 0] [cE' [.ptr 1 0,.I x.u,.int .u64 x.no,.I x.rounds,.I x.limit,.I 5,.int .u64 x.found,.I x.sh,.I x.kd,.I x.ky,.bool x.p.now,.I x.p.code,.bool x.p.okk,.I x.p.val,.I x.p.addr,.int .u64 x.p.old,.I x.p.nxt,.bool x.p.mark,.I x.p.pops,.O,.O,.ptr 4 0,.O,.O],iY 5 t n st,bE 3 s,bF s,some (.abs (.find t n x.fn) []),iZ st] (bP 4 0 [19,20,21,22,23] [(.cell 1 4,.ints (some .i64))] (vS t n) K):=by
 exact cM' (E:=EH0) (by kernel_rfl) h
def CA(t n:Int)(x:HPS)(st:STS)(s:MS):Tr HpO:=.pre True (.pre True (.pre True (.pre (w1y n t x) (.pre ((lE' s.3∧(0:Int)≤s.4∧s.4≤(4611686018427387904:Int))∧True) (.pre ((t=t∧n=n)∧w1w∧lE' (bif aW s.3 (2*n+5+2*t+3*x.1+2) x.6 then aY s.3 (2*n+5+2*t+3*x.1+2) (bif dOk (aA x.6 0 12) 0 0 (bif ieq (HPS.p x).2 4 then 1 else 0) 5 (HPS.p x).4 then cM (aA x.6 0 12) 0 0 (bif ieq (HPS.p x).2 4 then 1 else 0) (HPS.p x).3 5 (HPS.p x).4 else 0)else s.3)∧lE' st.3) (.ret {d:=false,x:= {x with at':=0,ex:=cL,en:=aX,fn:=aR,cl:=cF,pr:=dN},st:=st,s:= {t:=s.1,n:=s.2,xs:=bif aW s.3 (2*n+5+2*t+3*x.1+2) x.6 then aY s.3 (2*n+5+2*t+3*x.1+2) (bif dOk (aA x.6 0 12) 0 0 (bif ieq (HPS.p x).2 4 then 1 else 0) 5 (HPS.p x).4 then cM (aA x.6 0 12) 0 0 (bif ieq (HPS.p x).2 4 then 1 else 0) (HPS.p x).3 5 (HPS.p x).4 else 0)else s.3,c:=s.4+1,k:=3,a:=2*n+5+2*t+3*x.1+2,o:=aE s.3 (2*n+5+2*t+3*x.1+2),w:=bif bT s.3 (2*n+5+2*t+3*x.1+2)then bif dOk (aA x.6 0 12) 0 0 (bif ieq (HPS.p x).2 4 then 1 else 0) 5 (HPS.p x).4 then cM (aA x.6 0 12) 0 0 (bif ieq (HPS.p x).2 4 then 1 else 0) (HPS.p x).3 5 (HPS.p x).4 else 0 else 0,ok:=aW s.3 (2*n+5+2*t+3*x.1+2) x.6} }))))))
theorem JR(t n:Int)(x:HPS)(st:STS)(s:MS)(K:HpO→Prop)(h:(CA t n x st s).run K):cT' 152 [.ptr 0 0,.ptr 2 0] [cE' [.ptr 1 0,.I x.u,.int .u64 x.no,.I x.rounds,.I x.limit,.I 6,.int .u64 x.found,.I x.sh,.I x.kd,.I x.ky,.bool x.p.now,.I x.p.code,.bool x.p.okk,.I x.p.val,.I x.p.addr,.int .u64 x.p.old,.I x.p.nxt,.bool x.p.mark,.I x.p.pops,.O,.O,.O,.O,.O],iY 4 t n st,bE 3 s,bF s,iZ st] (bP 4 0 [19,20,21,22,23] [(.cell 1 4,.ints (some .i64))] (vS t n) K):=by
 exact cM' (E:=EH0) (by kernel_rfl) h
def CB(t n:Int)(x:HPS)(st:STS)(s:MS):Tr HpO:=.pre (lE' s.3∧LY t n x.14 s) (.ite (oP t n x.14 s).1 (.pre ((t=t∧n=n)∧w1w∧lE' (ClO.s (oP t n x.14 s)).3∧lE' st.3) (.ret {d:=false,x:= {x with at':=0,ex:=cL,en:=aX,fn:=aR,cl:=cF,pr:=dN},st:=st,s:=(oP t n x.14 s).3})) (.pre ((t=t∧n=n)∧t=t∧n=n∧(false=false→(7:Int)=(7:Int))∧lE' (ClO.s (oP t n x.14 s)).3∧lE' st.3) (.ret {d:=false,x:= {x with at':=7,ex:=cL,en:=aX,fn:=aR,cl:=(oP t n x.14 s).2,pr:=dN},st:=st,s:=(oP t n x.14 s).3})))
theorem JS(t n:Int)(x:HPS)(st:STS)(s:MS)(K:HpO→Prop)(h:(CB t n x st s).run K):cT' 152 [.ptr 0 0,.ptr 2 0] [cE' [.ptr 1 0,.I x.u,.int .u64 x.no,.I x.rounds,.I x.limit,.I 7,.int .u64 x.found,.I x.sh,.I x.kd,.I x.ky,.bool x.p.now,.I x.p.code,.bool x.p.okk,.I x.p.val,.I x.p.addr,.int .u64 x.p.old,.I x.p.nxt,.bool x.p.mark,.I x.p.pops,.O,.O,.O,.ptr 4 0,.O],iY 5 t n st,bE 3 s,bF s,some (.abs (.clear t n x.cl) []),iZ st] (bP 4 0 [19,20,21,22,23] [(.cell 1 4,.ints (some .i64))] (vS t n) K):=by
 exact cM' (E:=EH0) (by kernel_rfl) h
def CC(t n:Int)(x:HPS)(st:STS)(s:MS):Tr HpO:=.pre ((lE' s.3∧lE' st.3∧t=t∧n=n)∧PB t n x.15 st s) (.ite (prF t n x.15 st s).1 (.pre ((t=t∧n=n)∧w20∧lE' (PrO.s (prF t n x.15 st s)).3∧lE' (PrO.st (prF t n x.15 st s)).3) (.ret {d:=false,x:= {x with at':=9,ex:=cL,en:=aX,fn:=aR,cl:=cF,pr:=dN},st:=(prF t n x.15 st s).3,s:=(prF t n x.15 st s).4})) (.pre ((t=t∧n=n)∧t=t∧n=n∧(false=false→(8:Int)=(8:Int))∧lE' (PrO.s (prF t n x.15 st s)).3∧lE' (PrO.st (prF t n x.15 st s)).3) (.ret {d:=false,x:= {x with at':=8,ex:=cL,en:=aX,fn:=aR,cl:=cF,pr:=(prF t n x.15 st s).2},st:=(prF t n x.15 st s).3,s:=(prF t n x.15 st s).4})))
theorem JT(t n:Int)(x:HPS)(st:STS)(s:MS)(K:HpO→Prop)(h:(CC t n x st s).run K):cT' 152 [.ptr 0 0,.ptr 2 0] [cE' [.ptr 1 0,.I x.u,.int .u64 x.no,.I x.rounds,.I x.limit,.I 8,.int .u64 x.found,.I x.sh,.I x.kd,.I x.ky,.bool x.p.now,.I x.p.code,.bool x.p.okk,.I x.p.val,.I x.p.addr,.int .u64 x.p.old,.I x.p.nxt,.bool x.p.mark,.I x.p.pops,.O,.O,.O,.O,.ptr 4 0],iY 5 t n st,bE 3 s,bF s,some (.abs (.prepare t n x.pr) [1]),iZ st] (bP 4 0 [19,20,21,22,23] [(.cell 1 4,.ints (some .i64))] (vS t n) K):=by
 exact cM' (E:=EH0) (by kernel_rfl) h
abbrev w1v(x:HPS):=gK (HPS.p x).1 (HPS.p x).2 (HPS.p x).3 (HPS.p x).4 (HPS.p x).5 (HPS.p x).6 (HPS.p x).7 (HPS.p x).8 (HPS.p x).9 (aA x.6 0 12)
def CD(t n:Int)(x:HPS)(st:STS)(s:MS):Tr HpO:=.pre True (.pre (yK (HPS.p x).1 (HPS.p x).2 (HPS.p x).3 (HPS.p x).4 (HPS.p x).5 (HPS.p x).6 (HPS.p x).7 (HPS.p x).8 (HPS.p x).9 (aA x.6 0 12)∧True) (.pre (w1y n t x) (.pre ((lE' s.3∧(0:Int)≤s.4∧s.4≤(4611686018427387904:Int))∧True) (.ite (aW s.3 (2*n+5+2*t+3*x.1+2) x.6) (.pre True (.ite (f5 x.8) (.pre ((t=t∧n=n)∧w1w∧lE' (bif aW s.3 (2*n+5+2*t+3*x.1+2) x.6 then aY s.3 (2*n+5+2*t+3*x.1+2) (w1v x).1 else s.3)∧lE' st.3) (.ret {d:=false,x:= {x with at':=0,ex:=cL,en:=aX,fn:=aR,cl:=cF,pr:=dN},st:= {me:=st.1,sp:=0,R:=st.3},s:= {t:=s.1,n:=s.2,xs:=bif aW s.3 (2*n+5+2*t+3*x.1+2) x.6 then aY s.3 (2*n+5+2*t+3*x.1+2) (w1v x).1 else s.3,c:=s.4+1,k:=3,a:=2*n+5+2*t+3*x.1+2,o:=aE s.3 (2*n+5+2*t+3*x.1+2),w:=bif bT s.3 (2*n+5+2*t+3*x.1+2)then(w1v x).1 else 0,ok:=aW s.3 (2*n+5+2*t+3*x.1+2) x.6} })) (.pre ((t=t∧n=n)∧w1w∧lE' (bif aW s.3 (2*n+5+2*t+3*x.1+2) x.6 then aY s.3 (2*n+5+2*t+3*x.1+2) (w1v x).1 else s.3)∧lE' st.3) (.ret {d:=false,x:= {x with at':=0,ex:=cL,en:=aX,fn:=aR,cl:=cF,pr:=dN},st:=st,s:= {t:=s.1,n:=s.2,xs:=bif aW s.3 (2*n+5+2*t+3*x.1+2) x.6 then aY s.3 (2*n+5+2*t+3*x.1+2) (w1v x).1 else s.3,c:=s.4+1,k:=3,a:=2*n+5+2*t+3*x.1+2,o:=aE s.3 (2*n+5+2*t+3*x.1+2),w:=bif bT s.3 (2*n+5+2*t+3*x.1+2)then(w1v x).1 else 0,ok:=aW s.3 (2*n+5+2*t+3*x.1+2) x.6} })))) (.pre ((t=t∧n=n)∧w1w∧lE' (bif aW s.3 (2*n+5+2*t+3*x.1+2) x.6 then aY s.3 (2*n+5+2*t+3*x.1+2) (w1v x).1 else s.3)∧lE' st.3) (.ret {d:=false,x:= {x with at':=0,ex:=cL,en:=aX,fn:=aR,cl:=cF,pr:=dN},st:=st,s:= {t:=s.1,n:=s.2,xs:=bif aW s.3 (2*n+5+2*t+3*x.1+2) x.6 then aY s.3 (2*n+5+2*t+3*x.1+2) (w1v x).1 else s.3,c:=s.4+1,k:=3,a:=2*n+5+2*t+3*x.1+2,o:=aE s.3 (2*n+5+2*t+3*x.1+2),w:=bif bT s.3 (2*n+5+2*t+3*x.1+2)then(w1v x).1 else 0,ok:=aW s.3 (2*n+5+2*t+3*x.1+2) x.6} }))))))
theorem JU(t n:Int)(x:HPS)(st:STS)(s:MS)(K:HpO→Prop)(h:(CD t n x st s).run K):cT' 152 [.ptr 0 0,.ptr 2 0] [cE' [.ptr 1 0,.I x.u,.int .u64 x.no,.I x.rounds,.I x.limit,.I 9,.int .u64 x.found,.I x.sh,.I x.kd,.I x.ky,.bool x.p.now,.I x.p.code,.bool x.p.okk,.I x.p.val,.I x.p.addr,.int .u64 x.p.old,.I x.p.nxt,.bool x.p.mark,.I x.p.pops,.O,.O,.O,.O,.O],iY 4 t n st,bE 3 s,bF s,iZ st] (bP 4 0 [19,20,21,22,23] [(.cell 1 4,.ints (some .i64))] (vS t n) K):=by
 exact cM' (E:=EH0) (by kernel_rfl) h
def hpT(t n:Int)(x:HPS)(st:STS)(s:MS):Tr HpO:=
 bif ieq x.at' 0 then B4 t n x st s else
 bif ieq x.at' 1 then B5 t n x st s else
 bif ieq x.at' 2 then B6 t n x st s else
 bif ieq x.at' 3 then B7 t n x st s else
 bif ieq x.at' 4 then B8 t n x st s else
 bif ieq x.at' 5 then B9 t n x st s else
 bif ieq x.at' 6 then CA t n x st s else
 bif ieq x.at' 7 then CB t n x st s else
 bif ieq x.at' 8 then CC t n x st s else
 bif ieq x.at' 9 then CD t n x st s else .pre False (.ret default)
def gS(t n:Int)(x:HPS)(st:STS)(s:MS):HpO:=(hpT t n x st s).val
def OE(t n:Int)(x:HPS)(st:STS)(s:MS):Prop:=(hpT t n x st s).ok
theorem G7(t n:Int)(x:HPS)(st:STS)(s:MS)(K:AVal→aC Ob→Prop)(h:(hpT t n x st s).run (fun y=>(HpO.fin t n y).run K)):cT' 152 [.ptr 0 0,.ptr 2 0] (G6 t n x st s) K:=by
 unfold hpT at h
 by_cases e:x.at'=0
 ·rw [e]at h;have h:(B4 t n x st s).run _:=h;refine aGL (root:=0) (pos:=[19,20,21,22,23]) (cs:=[(.cell 1 4,.ints (some .i64))]) (parse:=vS t n) (fin:=HpO.fin t n) lH ((aS.unpack (.help t n x) 0 1 (lG t n x) [1] rfl (congrArg (Prod.mk 1) (kB ⟨(by omega),(by omega),(by omega),(by omega),(by omega)⟩)) (by kernel_rfl) rfl).trans (aS.unpack (.store t n st) 1 0 (dL t n st) [] rfl rfl rfl rfl)) ?_
  have q:=JL t n x st s _ h;rw [←e]at q;exact q
 rw [bK e]at h
 by_cases e:x.at'=1
 ·rw [e]at h;have h:(B5 t n x st s).run _:=h;refine aGL (root:=0) (pos:=[19,20,21,22,23]) (cs:=[(.cell 1 4,.ints (some .i64))]) (parse:=vS t n) (fin:=HpO.fin t n) lH ((aS.unpack (.help t n x) 0 1 (lG t n x) [1] rfl (congrArg (Prod.mk 1) (kB ⟨(by omega),(by omega),(by omega),(by omega),(by omega)⟩)) (by kernel_rfl) rfl).trans (aS.unpack (.store t n st) 1 0 (dL t n st) [] rfl rfl rfl rfl)) ?_
  have q:=JM t n x st s _ h;rw [←e]at q;exact q
 rw [bK e]at h
 by_cases e:x.at'=2
 ·rw [e]at h;have h:(B6 t n x st s).run _:=h;refine aGL (root:=0) (pos:=[19,20,21,22,23]) (cs:=[(.cell 1 4,.ints (some .i64))]) (parse:=vS t n) (fin:=HpO.fin t n) lH ((aS.unpack (.help t n x) 0 1 (lG t n x) [1] rfl (congrArg (Prod.mk 1) (kB ⟨(by omega),(by omega),(by omega),(by omega),(by omega)⟩)) (by kernel_rfl) rfl).trans (aS.unpack (.store t n st) 1 0 (dL t n st) [] rfl rfl rfl rfl)) ?_
  have q:=JN t n x st s _ h;rw [←e]at q;exact q
 rw [bK e]at h
 by_cases e:x.at'=3
 ·rw [e]at h;have h:(B7 t n x st s).run _:=h;refine aGL (root:=0) (pos:=[19,20,21,22,23]) (cs:=[(.cell 1 4,.ints (some .i64))]) (parse:=vS t n) (fin:=HpO.fin t n) lH ((aS.unpack (.help t n x) 0 1 (nF t n x) [1] rfl (congrArg (Prod.mk 1) (G1 e)) (by kernel_rfl) rfl).trans (aS.unpack (.store t n st) 1 0 (dL t n st) [] rfl rfl rfl rfl)) ?_
  have q:=JO t n x st s _ h;rw [←e]at q;exact q
 rw [bK e]at h
 by_cases e:x.at'=4
 ·rw [e]at h;have h:(B8 t n x st s).run _:=h;refine aGL (root:=0) (pos:=[19,20,21,22,23]) (cs:=[(.cell 1 4,.ints (some .i64))]) (parse:=vS t n) (fin:=HpO.fin t n) lH ((aS.unpack (.help t n x) 0 1 (nE t n x) [1] rfl (congrArg (Prod.mk 1) (G2 e)) (by kernel_rfl) rfl).trans (aS.unpack (.store t n st) 1 0 (dL t n st) [] rfl rfl rfl rfl)) ?_
  have q:=JP t n x st s _ h;rw [←e]at q;exact q
 rw [bK e]at h
 by_cases e:x.at'=5
 ·rw [e]at h;have h:(B9 t n x st s).run _:=h;refine aGL (root:=0) (pos:=[19,20,21,22,23]) (cs:=[(.cell 1 4,.ints (some .i64))]) (parse:=vS t n) (fin:=HpO.fin t n) lH ((aS.unpack (.help t n x) 0 1 (nG t n x) [1] rfl (congrArg (Prod.mk 1) (G3 e)) (by kernel_rfl) rfl).trans (aS.unpack (.store t n st) 1 0 (dL t n st) [] rfl rfl rfl rfl)) ?_
  have q:=JQ t n x st s _ h;rw [←e]at q;exact q
 rw [bK e]at h
 by_cases e:x.at'=6
 ·rw [e]at h;have h:(CA t n x st s).run _:=h;refine aGL (root:=0) (pos:=[19,20,21,22,23]) (cs:=[(.cell 1 4,.ints (some .i64))]) (parse:=vS t n) (fin:=HpO.fin t n) lH ((aS.unpack (.help t n x) 0 1 (lG t n x) [1] rfl (congrArg (Prod.mk 1) (kB ⟨(by omega),(by omega),(by omega),(by omega),(by omega)⟩)) (by kernel_rfl) rfl).trans (aS.unpack (.store t n st) 1 0 (dL t n st) [] rfl rfl rfl rfl)) ?_
  have q:=JR t n x st s _ h;rw [←e]at q;exact q
 rw [bK e]at h
 by_cases e:x.at'=7
 ·rw [e]at h;have h:(CB t n x st s).run _:=h;refine aGL (root:=0) (pos:=[19,20,21,22,23]) (cs:=[(.cell 1 4,.ints (some .i64))]) (parse:=vS t n) (fin:=HpO.fin t n) lH ((aS.unpack (.help t n x) 0 1 (nD t n x) [1] rfl (congrArg (Prod.mk 1) (G4 e)) (by kernel_rfl) rfl).trans (aS.unpack (.store t n st) 1 0 (dL t n st) [] rfl rfl rfl rfl)) ?_
  have q:=JS t n x st s _ h;rw [←e]at q;exact q
 rw [bK e]at h
 by_cases e:x.at'=8
 ·rw [e]at h;have h:(CC t n x st s).run _:=h;refine aGL (root:=0) (pos:=[19,20,21,22,23]) (cs:=[(.cell 1 4,.ints (some .i64))]) (parse:=vS t n) (fin:=HpO.fin t n) lH ((aS.unpack (.help t n x) 0 1 (nH t n x) [1] rfl (congrArg (Prod.mk 1) (G5 e)) (by kernel_rfl) rfl).trans (aS.unpack (.store t n st) 1 0 (dL t n st) [] rfl rfl rfl rfl)) ?_
  have q:=JT t n x st s _ h;rw [←e]at q;exact q
 rw [bK e]at h
 by_cases e:x.at'=9
 ·rw [e]at h;have h:(CD t n x st s).run _:=h;refine aGL (root:=0) (pos:=[19,20,21,22,23]) (cs:=[(.cell 1 4,.ints (some .i64))]) (parse:=vS t n) (fin:=HpO.fin t n) lH ((aS.unpack (.help t n x) 0 1 (lG t n x) [1] rfl (congrArg (Prod.mk 1) (kB ⟨(by omega),(by omega),(by omega),(by omega),(by omega)⟩)) (by kernel_rfl) rfl).trans (aS.unpack (.store t n st) 1 0 (dL t n st) [] rfl rfl rfl rfl)) ?_
  have q:=JU t n x st s _ h;rw [←e]at q;exact q
 rw [bK e]at h;exact h.1.elim
noncomputable def hpSA:aI Ob:=fun args h=>match args,h with
 | [.ptr 0 0,.ptr 2 0],[some (.abs (.help t n x) [1]),some (.abs (.store t2 n2 st) []),e3,e4]=>(match cO 3 [e3,e4]with
   | some (l,s)=>some (.pre ((l=s.xs.length∧t2=t∧n2=n)∧OE t n x st s) (HpO.fin t n (gS t n x st s)))
   | none=>none)
 | _,_=>none
theorem aBz:sT' 152 hpSA:=by
 intro args h o ho K hK;unfold hpSA at ho;split at ho
 case h_2=>cases ho
 split at ho<;>cases ho
 rename_i hm;obtain⟨⟨⟨hl,rfl,rfl⟩,ok⟩,hK⟩:=hK;have hh:=bD hm hl;cases hh;exact G7 _ _ _ _ _ K (aGR ok hK)
def HpO.finB(t n:Int)(y:HpO):Out Ob:=.ite y.d (.ret (.bool true) ([cE' [.ptr 1 0,.I y.x.u,.int .u64 y.x.no,.I y.x.rounds,.I y.x.limit,.I y.x.at',.int .u64 y.x.found,.I y.x.sh,.I y.x.kd,.I y.x.ky,.bool y.x.p.now,.I y.x.p.code,.bool y.x.p.okk,.I y.x.p.val,.I y.x.p.addr,.int .u64 y.x.p.old,.I y.x.p.nxt,.bool y.x.p.mark,.I y.x.p.pops,.O,.O,.O,.O,.O],iY 5 t n y.st,none,bE 4 y.s,bF y.s,iZ y.st])) (.ret (.bool false) [some (.abs (.help t n y.x) [1]),iY 5 t n y.st,none,bE 4 y.s,bF y.s,iZ y.st])
noncomputable def hpSB:aI Ob:=fun args h=>match args,h with
 | [.ptr 0 0,.ptr 3 0],[some (.abs (.help t n x) [1]),e1,e2,e3,e4]=>(match lK 2 [e1,e2],cO 4 [e3,e4]with
   | some (l2,t2,n2,st),some (l,s)=>some (.pre ((l=s.xs.length∧l2=st.R.length∧t2=t∧n2=n)∧OE t n x st s) (HpO.finB t n (gS t n x st s)))
   | _,_=>none)
 | _,_=>none
theorem aBA:sT' 152 hpSB:=by
 intro args h o ho K hK;unfold hpSB at ho;split at ho
 case h_2=>cases ho
 split at ho<;>cases ho
 rename_i hs hm;obtain⟨⟨⟨hl,hl2,rfl,rfl⟩,ok⟩,hK⟩:=hK;have hh:=bD hm hl;cases hh;have hh:=cH hs hl2;cases hh;exact jR (fun ι hι=>by simp [aH.ren,aGY,AVal.ren,hι]) (fun ι hι=>by simp [aH.ren,hι]) (fun K hK=>G7 _ _ _ _ _ K (aGR ok hK)) K hK
noncomputable def hpS:aI Ob:=aI.or hpSA hpSB
theorem aEd:sT' 152 hpS:=aG9 aBz aBA
def aBq(t n:Int)(v:AVal)(g:aC Ob):Option (Prop×(HPS×STS)):=match v,g with
 | .ptr 2 0,[e1,e2,some (.cells [.ptr 0 0,.int .i64 u,.int .u64 no,.int .i64 rounds,.int .i64 limit,.int .i64 at',.int .u64 found,.int .i64 sh,.int .i64 kd,.int .i64 ky,.bool p_now,.int .i64 p_code,.bool p_okk,.int .i64 p_val,.int .i64 p_addr,.int .u64 p_old,.int .i64 p_nxt,.bool p_mark,.int .i64 p_pops,.O,.O,.O,.O,.O])]=>(match lK 1 [e1,e2]with
   | some (l2,t2,n2,st)=>some ((t2=t∧n2=n∧l2=st.R.length)∧(at'≠3∧at'≠4∧at'≠5∧at'≠7∧at'≠8),⟨(⟨u,no,rounds,limit,at',found,sh,kd,ky,⟨p_now,p_code,p_okk,p_val,p_addr,p_old,p_nxt,p_mark,p_pops⟩,cL,aX,aR,⟨0,0,0,0⟩,⟨0,0,0,false⟩⟩:HPS),st⟩)
   | none=>none)
 | _,_=>none
abbrev U7(t n:Int)(y:(HPS×STS)):aC Ob:=[iY 1 t n y.2,iZ y.2,some (.abs (.help t n y.1) [0])]
theorem U8{t n:Int} :bV (obI tbl) 2 (aBq t n) (fun y=>.ret (.ptr 2 0) (U7 t n y)):=by
 intro v g p x hp hq K hK;unfold aBq at hp;split at hp
 case h_2=>cases hp
 rename_i e1 e2 u no rounds limit at' found sh kd ky p_now p_code p_okk p_val p_addr p_old p_nxt p_mark p_pops;split at hp
 case h_2=>cases hp
 rename_i l2 t2 n2 st hs;simp only [sI',pI']at hp;obtain⟨rfl,rfl⟩:=hp;obtain⟨⟨rfl,rfl,hl2⟩,hat⟩:=hq;have hh:=cH hs hl2;cases hh;exact let X0:HPS:=⟨u,no,rounds,limit,at',found,sh,kd,ky,⟨p_now,p_code,p_okk,p_val,p_addr,p_old,p_nxt,p_mark,p_pops⟩,cL,aX,aR,⟨0,0,0,0⟩,⟨0,0,0,false⟩⟩;⟨⟨_,_,aF.pack (U7 t2 n2 (X0,st)) (.help t2 n2 X0) 2 1 (lG t2 n2 X0) [0] (by kernel_rfl) rfl (congrArg (Prod.mk 1) (kB hat)) (by kernel_rfl),hK⟩⟩
def JK(t n:Int)(u no lim:Int)(st:STS):Tr (HPS×STS):=.pre ((t=t∧n=n∧lE' st.3)∧(0:Int)≠(3:Int)∧(0:Int)≠(4:Int)∧(0:Int)≠(5:Int)∧(0:Int)≠(7:Int)∧(0:Int)≠(8:Int)) (.ret ({u:=u,no:=no,rounds:=0,limit:=lim,at':=0,found:=0,sh:=0,kd:=0,ky:=0,p:=aDe,ex:=cL,en:=aX,fn:=aR,cl:=cF,pr:=dN},st))
def vX(t n:Int)(u no lim:Int)(st:STS):(HPS×STS):=(JK t n u no lim st).val
def B3(t n:Int)(u no lim:Int)(st:STS):Prop:=(JK t n u no lim st).ok
def hpNS:aI Ob:=fun args h=>match args,h with
 | [.ptr 0 0,.int .i64 u,.int .u64 no,.int .i64 lim],[e1,e2]=>(match lK 1 [e1,e2]with
   | some (l2,t,n,st)=>some (.pre (l2=st.R.length∧B3 t n u no lim st) (.ret (.ptr 2 0) (U7 t n (vX t n u no lim st))))
   | none=>none)
 | _,_=>none
theorem aBr:sT' 159 hpNS:=by
 intro args h o ho K hK;unfold hpNS at ho;split at ho
 case h_2=>cases ho
 rename_i u no lim e1 e2;split at ho<;>cases ho
 rename_i l2 t n st hs;obtain⟨⟨hl2,ok⟩,hK⟩:=hK;have hh:=cH hs hl2;cases hh;refine aGX (root:=2) (pos:=[19,20,21,22,23]) (cs:=[]) (parse:=aBq t n) U8 ?_;exact cM' (E:=EH0) (q:=(JK t n u no lim st).run (fun y=>(Out.ret (.ptr 2 0) (U7 t n y)).run K)) (by kernel_rfl) (aGR ok hK)
noncomputable def EH:=((EH0.addS 152 hpS aEd).addS 159 hpNS aBr)
structure DqO where
 d:Bool
 x:DOS
 st:STS
 s:MS
instance:Inhabited DqO:=⟨⟨false,eB,⟨0,0,[]⟩,⟨0,0,[],0,0,0,0,0,false⟩⟩⟩
instance:Inhabited DOS:=⟨eB⟩
abbrev tM(t n:Int)(x:DOS)(st:STS)(s:MS):aC Ob:=[some (.abs (.doer t n x) [1]),some (.abs (.store t n st) []),bE 3 s,bF s]
abbrev wO(t n:Int)(x:DOS)(st:STS)(s:MS):aC Ob:=[cE' [.ptr 1 0,.I x.code,.bool x.okk,.I x.val,.bool x.slow,.I x.sh,.I x.kd,.I x.ky,.I x.limit,.I x.at',.O,.O,.O,.O,.O,.O,.O,.O,.O],some (.abs (.store t n st) []),bE 3 s,bF s]
def DqO.fin(t n:Int)(y:DqO):Out Ob:=.ite y.d (.ret (.bool true) (wO t n y.x y.st y.s)) (.ret (.bool false) (tM t n y.x y.st y.s))
def ZY(t n:Int)(v:AVal)(g:aC Ob):Option (Prop×DqO):=match v,g with
 | .bool d,[some (.cells [.ptr 1 0,.int .i64 code,.bool okk,.int .i64 val,.bool slow,.int .i64 sh,.int .i64 kd,.int .i64 ky,.int .i64 limit,.int .i64 at',.O,.O,.O,.O,.O,.O,.O,.O,.O]),e1,e3,e4,e2]=>(match lK 4 [e1,e2],cO 3 [e3,e4]with
   | some (l2,t2,n2,st),some (l,s)=>some ((t2=t∧n2=n)∧(d=false→at'≠0∧at'≠1∧at'≠5∧at'≠2∧at'≠3∧at'≠4∧at'≠6∧at'≠7∧at'≠8∧at'≠9)∧l=s.xs.length∧l2=st.R.length,⟨d,⟨code,okk,val,slow,sh,kd,ky,limit,at',⟨0,0,0,false⟩,bU,aX,bR,⟨0,0,0,0,false,0⟩,⟨0,false,0,0⟩,aR,⟨0,0⟩,bN⟩,st,s⟩)
   | _,_=>none)
 | _,_=>none
def ZZ(t n:Int)(v:AVal)(g:aC Ob):Option (Prop×DqO):=match v,g with
 | .bool d,[some (.cells [.ptr 1 0,.int .i64 code,.bool okk,.int .i64 val,.bool slow,.int .i64 sh,.int .i64 kd,.int .i64 ky,.int .i64 limit,.int .i64 at',.ptr 4 0,.O,.O,.O,.O,.O,.O,.O,.O]),e1,e3,e4,some (.abs (.head t' n' sub) []),e2]=>(match lK 5 [e1,e2],cO 3 [e3,e4]with
   | some (l2,t2,n2,st),some (l,s)=>some ((t2=t∧n2=n)∧t'=t∧n'=n∧(d=false→at'=0)∧l=s.xs.length∧l2=st.R.length,⟨d,⟨code,okk,val,slow,sh,kd,ky,limit,at',sub,bU,aX,bR,⟨0,0,0,0,false,0⟩,⟨0,false,0,0⟩,aR,⟨0,0⟩,bN⟩,st,s⟩)
   | _,_=>none)
 | _,_=>none
def Z0(t n:Int)(v:AVal)(g:aC Ob):Option (Prop×DqO):=match v,g with
 | .bool d,[some (.cells [.ptr 1 0,.int .i64 code,.bool okk,.int .i64 val,.bool slow,.int .i64 sh,.int .i64 kd,.int .i64 ky,.int .i64 limit,.int .i64 at',.O,.ptr 4 0,.O,.O,.O,.O,.O,.O,.O]),e1,e3,e4,some (.abs (.help t' n' sub) [1]),e2]=>(match lK 5 [e1,e2],cO 3 [e3,e4]with
   | some (l2,t2,n2,st),some (l,s)=>some ((t2=t∧n2=n)∧t'=t∧n'=n∧(d=false→at'=1∨at'=5)∧l=s.xs.length∧l2=st.R.length,⟨d,⟨code,okk,val,slow,sh,kd,ky,limit,at',⟨0,0,0,false⟩,sub,aX,bR,⟨0,0,0,0,false,0⟩,⟨0,false,0,0⟩,aR,⟨0,0⟩,bN⟩,st,s⟩)
   | _,_=>none)
 | _,_=>none
def Z1(t n:Int)(v:AVal)(g:aC Ob):Option (Prop×DqO):=match v,g with
 | .bool d,[some (.cells [.ptr 1 0,.int .i64 code,.bool okk,.int .i64 val,.bool slow,.int .i64 sh,.int .i64 kd,.int .i64 ky,.int .i64 limit,.int .i64 at',.O,.O,.ptr 4 0,.O,.O,.O,.O,.O,.O]),e1,e3,e4,some (.abs (.ensure t' n' sub) [1]),e2]=>(match lK 5 [e1,e2],cO 3 [e3,e4]with
   | some (l2,t2,n2,st),some (l,s)=>some ((t2=t∧n2=n)∧t'=t∧n'=n∧(d=false→at'=2)∧l=s.xs.length∧l2=st.R.length,⟨d,⟨code,okk,val,slow,sh,kd,ky,limit,at',⟨0,0,0,false⟩,bU,sub,bR,⟨0,0,0,0,false,0⟩,⟨0,false,0,0⟩,aR,⟨0,0⟩,bN⟩,st,s⟩)
   | _,_=>none)
 | _,_=>none
def Z2(t n:Int)(v:AVal)(g:aC Ob):Option (Prop×DqO):=match v,g with
 | .bool d,[some (.cells [.ptr 1 0,.int .i64 code,.bool okk,.int .i64 val,.bool slow,.int .i64 sh,.int .i64 kd,.int .i64 ky,.int .i64 limit,.int .i64 at',.O,.O,.O,.ptr 4 0,.O,.O,.O,.O,.O]),e1,e3,e4,some (.abs (.fast t' n' sub) [1]),e2]=>(match lK 5 [e1,e2],cO 3 [e3,e4]with
   | some (l2,t2,n2,st),some (l,s)=>some ((t2=t∧n2=n)∧t'=t∧n'=n∧(d=false→at'=3)∧l=s.xs.length∧l2=st.R.length,⟨d,⟨code,okk,val,slow,sh,kd,ky,limit,at',⟨0,0,0,false⟩,bU,aX,sub,⟨0,0,0,0,false,0⟩,⟨0,false,0,0⟩,aR,⟨0,0⟩,bN⟩,st,s⟩)
   | _,_=>none)
 | _,_=>none
def Z3(t n:Int)(v:AVal)(g:aC Ob):Option (Prop×DqO):=match v,g with
 | .bool d,[some (.cells [.ptr 1 0,.int .i64 code,.bool okk,.int .i64 val,.bool slow,.int .i64 sh,.int .i64 kd,.int .i64 ky,.int .i64 limit,.int .i64 at',.O,.O,.O,.O,.ptr 4 0,.O,.O,.O,.O]),e1,e3,e4,some (.abs (.announce t' n' sub) []),e2]=>(match lK 5 [e1,e2],cO 3 [e3,e4]with
   | some (l2,t2,n2,st),some (l,s)=>some ((t2=t∧n2=n)∧t'=t∧n'=n∧(d=false→at'=4)∧l=s.xs.length∧l2=st.R.length,⟨d,⟨code,okk,val,slow,sh,kd,ky,limit,at',⟨0,0,0,false⟩,bU,aX,bR,sub,⟨0,false,0,0⟩,aR,⟨0,0⟩,bN⟩,st,s⟩)
   | _,_=>none)
 | _,_=>none
def Z4(t n:Int)(v:AVal)(g:aC Ob):Option (Prop×DqO):=match v,g with
 | .bool d,[some (.cells [.ptr 1 0,.int .i64 code,.bool okk,.int .i64 val,.bool slow,.int .i64 sh,.int .i64 kd,.int .i64 ky,.int .i64 limit,.int .i64 at',.O,.O,.O,.O,.O,.ptr 4 0,.O,.O,.O]),e1,e3,e4,some (.abs (.answer t' n' sub) []),e2]=>(match lK 5 [e1,e2],cO 3 [e3,e4]with
   | some (l2,t2,n2,st),some (l,s)=>some ((t2=t∧n2=n)∧t'=t∧n'=n∧(d=false→at'=6)∧l=s.xs.length∧l2=st.R.length,⟨d,⟨code,okk,val,slow,sh,kd,ky,limit,at',⟨0,0,0,false⟩,bU,aX,bR,⟨0,0,0,0,false,0⟩,sub,aR,⟨0,0⟩,bN⟩,st,s⟩)
   | _,_=>none)
 | _,_=>none
def Z5(t n:Int)(v:AVal)(g:aC Ob):Option (Prop×DqO):=match v,g with
 | .bool d,[some (.cells [.ptr 1 0,.int .i64 code,.bool okk,.int .i64 val,.bool slow,.int .i64 sh,.int .i64 kd,.int .i64 ky,.int .i64 limit,.int .i64 at',.O,.O,.O,.O,.O,.O,.ptr 4 0,.O,.O]),e1,e3,e4,some (.abs (.find t' n' sub) []),e2]=>(match lK 5 [e1,e2],cO 3 [e3,e4]with
   | some (l2,t2,n2,st),some (l,s)=>some ((t2=t∧n2=n)∧t'=t∧n'=n∧(d=false→at'=7)∧l=s.xs.length∧l2=st.R.length,⟨d,⟨code,okk,val,slow,sh,kd,ky,limit,at',⟨0,0,0,false⟩,bU,aX,bR,⟨0,0,0,0,false,0⟩,⟨0,false,0,0⟩,sub,⟨0,0⟩,bN⟩,st,s⟩)
   | _,_=>none)
 | _,_=>none
def Z6(t n:Int)(v:AVal)(g:aC Ob):Option (Prop×DqO):=match v,g with
 | .bool d,[some (.cells [.ptr 1 0,.int .i64 code,.bool okk,.int .i64 val,.bool slow,.int .i64 sh,.int .i64 kd,.int .i64 ky,.int .i64 limit,.int .i64 at',.O,.O,.O,.O,.O,.O,.O,.ptr 4 0,.O]),e1,e3,e4,some (.abs (.drop t' n' sub) []),e2]=>(match lK 5 [e1,e2],cO 3 [e3,e4]with
   | some (l2,t2,n2,st),some (l,s)=>some ((t2=t∧n2=n)∧t'=t∧n'=n∧(d=false→at'=8)∧l=s.xs.length∧l2=st.R.length,⟨d,⟨code,okk,val,slow,sh,kd,ky,limit,at',⟨0,0,0,false⟩,bU,aX,bR,⟨0,0,0,0,false,0⟩,⟨0,false,0,0⟩,aR,sub,bN⟩,st,s⟩)
   | _,_=>none)
 | _,_=>none
def Z7(t n:Int)(v:AVal)(g:aC Ob):Option (Prop×DqO):=match v,g with
 | .bool d,[some (.cells [.ptr 1 0,.int .i64 code,.bool okk,.int .i64 val,.bool slow,.int .i64 sh,.int .i64 kd,.int .i64 ky,.int .i64 limit,.int .i64 at',.O,.O,.O,.O,.O,.O,.O,.O,.ptr 4 0]),e1,e3,e4,some (.abs (.sweep t' n' sub) [1]),e2]=>(match lK 5 [e1,e2],cO 3 [e3,e4]with
   | some (l2,t2,n2,st),some (l,s)=>some ((t2=t∧n2=n)∧t'=t∧n'=n∧(d=false→at'=9)∧l=s.xs.length∧l2=st.R.length,⟨d,⟨code,okk,val,slow,sh,kd,ky,limit,at',⟨0,0,0,false⟩,bU,aX,bR,⟨0,0,0,0,false,0⟩,⟨0,false,0,0⟩,aR,⟨0,0⟩,sub⟩,st,s⟩)
   | _,_=>none)
 | _,_=>none
def vP(t n:Int)(v:AVal)(g:aC Ob):Option (Prop×DqO):=(match ZY t n v g with
 | some r=>some r
 | none=>(match ZZ t n v g with
 | some r=>some r
 | none=>(match Z0 t n v g with
 | some r=>some r
 | none=>(match Z1 t n v g with
 | some r=>some r
 | none=>(match Z2 t n v g with
 | some r=>some r
 | none=>(match Z3 t n v g with
 | some r=>some r
 | none=>(match Z4 t n v g with
 | some r=>some r
 | none=>(match Z5 t n v g with
 | some r=>some r
 | none=>(match Z6 t n v g with
 | some r=>some r
 | none=>Z7 t n v g)))))))))
theorem ST{t n:Int} :bV (obI tbl) 4 (ZY t n) (DqO.fin t n):=by
 intro v g p x hp hq K hK;unfold ZY at hp;split at hp
 case h_2=>cases hp
 rename_i d code okk val slow sh kd ky limit at' e1 e3 e4 e2;split at hp
 case h_2=>cases hp
 rename_i l2 t2 n2 st l s hs hm;simp only [sI',pI']at hp;obtain⟨rfl,rfl⟩:=hp;obtain⟨⟨rfl,rfl⟩,hat,hl,hl2⟩:=hq;have hh:=bD hm hl;cases hh;have hh:=cH hs hl2;cases hh;refine fH hK (fun h=>?_) (fun hd h=>?_)
 ·exact⟨⟨_,_,(aF.pack (wO t2 n2 (⟨code,okk,val,slow,sh,kd,ky,limit,at',⟨0,0,0,false⟩,bU,aX,bR,⟨0,0,0,0,false,0⟩,⟨0,false,0,0⟩,aR,⟨0,0⟩,bN⟩:DOS) st s) (.store t2 n2 st) 1 0 (dL t2 n2 st) [] (by kernel_rfl) rfl rfl (by kernel_rfl)),h⟩⟩
 ·exact let X0:DOS:=⟨code,okk,val,slow,sh,kd,ky,limit,at',⟨0,0,0,false⟩,bU,aX,bR,⟨0,0,0,0,false,0⟩,⟨0,false,0,0⟩,aR,⟨0,0⟩,bN⟩;⟨⟨_,_,((aF.pack (aM (tM t2 n2 X0 st s) 0 1 (l4 t2 n2 X0) [1]) (.store t2 n2 st) 1 0 (dL t2 n2 st) [] (by kernel_rfl) rfl rfl (by kernel_rfl)).trans (aF.pack (tM t2 n2 X0 st s) (.doer t2 n2 X0) 0 1 (l4 t2 n2 X0) [1] (by kernel_rfl) rfl (congrArg (Prod.mk 1) (uG (hat hd))) (by kernel_rfl))),h⟩⟩
theorem SU{t n:Int} :bV (obI tbl) 4 (ZZ t n) (DqO.fin t n):=by
 intro v g p x hp hq K hK;unfold ZZ at hp;split at hp
 case h_2=>cases hp
 rename_i d code okk val slow sh kd ky limit at' e1 e3 e4 t' n' sub e2;split at hp
 case h_2=>cases hp
 rename_i l2 t2 n2 st l s hs hm;simp only [sI',pI']at hp;obtain⟨rfl,rfl⟩:=hp;obtain⟨⟨rfl,rfl⟩,rfl,rfl,hat,hl,hl2⟩:=hq;have hh:=bD hm hl;cases hh;have hh:=cH hs hl2;cases hh;refine fH hK (fun h=>?_) (fun hd h=>?_)
 ·exact⟨⟨_,_,(aF.weak (cA _ 0 [10,11,12,13,14,15,16,17,18])).trans ((aF.pick [0,1,2,3,5] rfl).trans ((aGQ (g2:=aM (wO t' n' (⟨code,okk,val,slow,sh,kd,ky,limit,at',sub,bU,aX,bR,⟨0,0,0,0,false,0⟩,⟨0,false,0,0⟩,aR,⟨0,0⟩,bN⟩:DOS) st s) 1 0 (dL t' n' st) []) (by kernel_rfl) (by kernel_rfl)).trans (aF.pack (wO t' n' (⟨code,okk,val,slow,sh,kd,ky,limit,at',sub,bU,aX,bR,⟨0,0,0,0,false,0⟩,⟨0,false,0,0⟩,aR,⟨0,0⟩,bN⟩:DOS) st s) (.store t' n' st) 1 0 (dL t' n' st) [] (by kernel_rfl) rfl rfl (by kernel_rfl)))),h⟩⟩
 ·exact let X0:DOS:=⟨code,okk,val,slow,sh,kd,ky,limit,at',sub,bU,aX,bR,⟨0,0,0,0,false,0⟩,⟨0,false,0,0⟩,aR,⟨0,0⟩,bN⟩;⟨⟨_,_,((aF.pack (aM (tM t' n' X0 st s) 0 1 (eQ t' n' X0) [1]) (.store t' n' st) 1 0 (dL t' n' st) [] (by kernel_rfl) rfl rfl (by kernel_rfl)).trans (aF.pack (tM t' n' X0 st s) (.doer t' n' X0) 0 1 (eQ t' n' X0) [1] (by kernel_rfl) rfl (congrArg (Prod.mk 1) (pX (hat hd))) (by kernel_rfl))),h⟩⟩
theorem SV{t n:Int} :bV (obI tbl) 4 (Z0 t n) (DqO.fin t n):=by
 intro v g p x hp hq K hK;unfold Z0 at hp;split at hp
 case h_2=>cases hp
 rename_i d code okk val slow sh kd ky limit at' e1 e3 e4 t' n' sub e2;split at hp
 case h_2=>cases hp
 rename_i l2 t2 n2 st l s hs hm;simp only [sI',pI']at hp;obtain⟨rfl,rfl⟩:=hp;obtain⟨⟨rfl,rfl⟩,rfl,rfl,hat,hl,hl2⟩:=hq;have hh:=bD hm hl;cases hh;have hh:=cH hs hl2;cases hh;refine fH hK (fun h=>?_) (fun hd h=>?_)
 ·exact⟨⟨_,_,(aF.weak (cA _ 0 [10,11,12,13,14,15,16,17,18])).trans ((aF.pick [0,1,2,3,5] rfl).trans ((aGQ (g2:=aM (wO t' n' (⟨code,okk,val,slow,sh,kd,ky,limit,at',⟨0,0,0,false⟩,sub,aX,bR,⟨0,0,0,0,false,0⟩,⟨0,false,0,0⟩,aR,⟨0,0⟩,bN⟩:DOS) st s) 1 0 (dL t' n' st) []) (by kernel_rfl) (by kernel_rfl)).trans (aF.pack (wO t' n' (⟨code,okk,val,slow,sh,kd,ky,limit,at',⟨0,0,0,false⟩,sub,aX,bR,⟨0,0,0,0,false,0⟩,⟨0,false,0,0⟩,aR,⟨0,0⟩,bN⟩:DOS) st s) (.store t' n' st) 1 0 (dL t' n' st) [] (by kernel_rfl) rfl rfl (by kernel_rfl)))),h⟩⟩
 ·rcases hat hd with hat | hat
  ·exact let X0:DOS:=⟨code,okk,val,slow,sh,kd,ky,limit,at',⟨0,0,0,false⟩,sub,aX,bR,⟨0,0,0,0,false,0⟩,⟨0,false,0,0⟩,aR,⟨0,0⟩,bN⟩;⟨⟨_,_,((aF.pack (aM (tM t' n' X0 st s) 0 1 (dJ t' n' X0) [1]) (.store t' n' st) 1 0 (dL t' n' st) [] (by kernel_rfl) rfl rfl (by kernel_rfl)).trans (aF.pack (tM t' n' X0 st s) (.doer t' n' X0) 0 1 (dJ t' n' X0) [1] (by kernel_rfl) rfl (congrArg (Prod.mk 1) (tD hat)) (by kernel_rfl))),h⟩⟩
  ·exact let X0:DOS:=⟨code,okk,val,slow,sh,kd,ky,limit,at',⟨0,0,0,false⟩,sub,aX,bR,⟨0,0,0,0,false,0⟩,⟨0,false,0,0⟩,aR,⟨0,0⟩,bN⟩;⟨⟨_,_,((aF.pack (aM (tM t' n' X0 st s) 0 1 (dJ t' n' X0) [1]) (.store t' n' st) 1 0 (dL t' n' st) [] (by kernel_rfl) rfl rfl (by kernel_rfl)).trans (aF.pack (tM t' n' X0 st s) (.doer t' n' X0) 0 1 (dJ t' n' X0) [1] (by kernel_rfl) rfl (congrArg (Prod.mk 1) (tH hat)) (by kernel_rfl))),h⟩⟩
theorem SW{t n:Int} :bV (obI tbl) 4 (Z1 t n) (DqO.fin t n):=by
 intro v g p x hp hq K hK;unfold Z1 at hp;split at hp
 case h_2=>cases hp
 rename_i d code okk val slow sh kd ky limit at' e1 e3 e4 t' n' sub e2;split at hp
 case h_2=>cases hp
 rename_i l2 t2 n2 st l s hs hm;simp only [sI',pI']at hp;obtain⟨rfl,rfl⟩:=hp;obtain⟨⟨rfl,rfl⟩,rfl,rfl,hat,hl,hl2⟩:=hq;have hh:=bD hm hl;cases hh;have hh:=cH hs hl2;cases hh;refine fH hK (fun h=>?_) (fun hd h=>?_)
 ·exact⟨⟨_,_,(aF.weak (cA _ 0 [10,11,12,13,14,15,16,17,18])).trans ((aF.pick [0,1,2,3,5] rfl).trans ((aGQ (g2:=aM (wO t' n' (⟨code,okk,val,slow,sh,kd,ky,limit,at',⟨0,0,0,false⟩,bU,sub,bR,⟨0,0,0,0,false,0⟩,⟨0,false,0,0⟩,aR,⟨0,0⟩,bN⟩:DOS) st s) 1 0 (dL t' n' st) []) (by kernel_rfl) (by kernel_rfl)).trans (aF.pack (wO t' n' (⟨code,okk,val,slow,sh,kd,ky,limit,at',⟨0,0,0,false⟩,bU,sub,bR,⟨0,0,0,0,false,0⟩,⟨0,false,0,0⟩,aR,⟨0,0⟩,bN⟩:DOS) st s) (.store t' n' st) 1 0 (dL t' n' st) [] (by kernel_rfl) rfl rfl (by kernel_rfl)))),h⟩⟩
 ·exact let X0:DOS:=⟨code,okk,val,slow,sh,kd,ky,limit,at',⟨0,0,0,false⟩,bU,sub,bR,⟨0,0,0,0,false,0⟩,⟨0,false,0,0⟩,aR,⟨0,0⟩,bN⟩;⟨⟨_,_,((aF.pack (aM (tM t' n' X0 st s) 0 1 (fQ t' n' X0) [1]) (.store t' n' st) 1 0 (dL t' n' st) [] (by kernel_rfl) rfl rfl (by kernel_rfl)).trans (aF.pack (tM t' n' X0 st s) (.doer t' n' X0) 0 1 (fQ t' n' X0) [1] (by kernel_rfl) rfl (congrArg (Prod.mk 1) (tE (hat hd))) (by kernel_rfl))),h⟩⟩
theorem SX{t n:Int} :bV (obI tbl) 4 (Z2 t n) (DqO.fin t n):=by
 intro v g p x hp hq K hK;unfold Z2 at hp;split at hp
 case h_2=>cases hp
 rename_i d code okk val slow sh kd ky limit at' e1 e3 e4 t' n' sub e2;split at hp
 case h_2=>cases hp
 rename_i l2 t2 n2 st l s hs hm;simp only [sI',pI']at hp;obtain⟨rfl,rfl⟩:=hp;obtain⟨⟨rfl,rfl⟩,rfl,rfl,hat,hl,hl2⟩:=hq;have hh:=bD hm hl;cases hh;have hh:=cH hs hl2;cases hh;refine fH hK (fun h=>?_) (fun hd h=>?_)
 ·exact⟨⟨_,_,(aF.weak (cA _ 0 [10,11,12,13,14,15,16,17,18])).trans ((aF.pick [0,1,2,3,5] rfl).trans ((aGQ (g2:=aM (wO t' n' (⟨code,okk,val,slow,sh,kd,ky,limit,at',⟨0,0,0,false⟩,bU,aX,sub,⟨0,0,0,0,false,0⟩,⟨0,false,0,0⟩,aR,⟨0,0⟩,bN⟩:DOS) st s) 1 0 (dL t' n' st) []) (by kernel_rfl) (by kernel_rfl)).trans (aF.pack (wO t' n' (⟨code,okk,val,slow,sh,kd,ky,limit,at',⟨0,0,0,false⟩,bU,aX,sub,⟨0,0,0,0,false,0⟩,⟨0,false,0,0⟩,aR,⟨0,0⟩,bN⟩:DOS) st s) (.store t' n' st) 1 0 (dL t' n' st) [] (by kernel_rfl) rfl rfl (by kernel_rfl)))),h⟩⟩
 ·exact let X0:DOS:=⟨code,okk,val,slow,sh,kd,ky,limit,at',⟨0,0,0,false⟩,bU,aX,sub,⟨0,0,0,0,false,0⟩,⟨0,false,0,0⟩,aR,⟨0,0⟩,bN⟩;⟨⟨_,_,((aF.pack (aM (tM t' n' X0 st s) 0 1 (fS t' n' X0) [1]) (.store t' n' st) 1 0 (dL t' n' st) [] (by kernel_rfl) rfl rfl (by kernel_rfl)).trans (aF.pack (tM t' n' X0 st s) (.doer t' n' X0) 0 1 (fS t' n' X0) [1] (by kernel_rfl) rfl (congrArg (Prod.mk 1) (tF (hat hd))) (by kernel_rfl))),h⟩⟩
theorem SY{t n:Int} :bV (obI tbl) 4 (Z3 t n) (DqO.fin t n):=by
 intro v g p x hp hq K hK;unfold Z3 at hp;split at hp
 case h_2=>cases hp
 rename_i d code okk val slow sh kd ky limit at' e1 e3 e4 t' n' sub e2;split at hp
 case h_2=>cases hp
 rename_i l2 t2 n2 st l s hs hm;simp only [sI',pI']at hp;obtain⟨rfl,rfl⟩:=hp;obtain⟨⟨rfl,rfl⟩,rfl,rfl,hat,hl,hl2⟩:=hq;have hh:=bD hm hl;cases hh;have hh:=cH hs hl2;cases hh;refine fH hK (fun h=>?_) (fun hd h=>?_)
 ·exact⟨⟨_,_,(aF.weak (cA _ 0 [10,11,12,13,14,15,16,17,18])).trans ((aF.pick [0,1,2,3,5] rfl).trans ((aGQ (g2:=aM (wO t' n' (⟨code,okk,val,slow,sh,kd,ky,limit,at',⟨0,0,0,false⟩,bU,aX,bR,sub,⟨0,false,0,0⟩,aR,⟨0,0⟩,bN⟩:DOS) st s) 1 0 (dL t' n' st) []) (by kernel_rfl) (by kernel_rfl)).trans (aF.pack (wO t' n' (⟨code,okk,val,slow,sh,kd,ky,limit,at',⟨0,0,0,false⟩,bU,aX,bR,sub,⟨0,false,0,0⟩,aR,⟨0,0⟩,bN⟩:DOS) st s) (.store t' n' st) 1 0 (dL t' n' st) [] (by kernel_rfl) rfl rfl (by kernel_rfl)))),h⟩⟩
 ·exact let X0:DOS:=⟨code,okk,val,slow,sh,kd,ky,limit,at',⟨0,0,0,false⟩,bU,aX,bR,sub,⟨0,false,0,0⟩,aR,⟨0,0⟩,bN⟩;⟨⟨_,_,((aF.pack (aM (tM t' n' X0 st s) 0 1 (fN t' n' X0) [1]) (.store t' n' st) 1 0 (dL t' n' st) [] (by kernel_rfl) rfl rfl (by kernel_rfl)).trans (aF.pack (tM t' n' X0 st s) (.doer t' n' X0) 0 1 (fN t' n' X0) [1] (by kernel_rfl) rfl (congrArg (Prod.mk 1) (tG (hat hd))) (by kernel_rfl))),h⟩⟩
theorem SZ{t n:Int} :bV (obI tbl) 4 (Z4 t n) (DqO.fin t n):=by
 intro v g p x hp hq K hK;unfold Z4 at hp;split at hp
 case h_2=>cases hp
 rename_i d code okk val slow sh kd ky limit at' e1 e3 e4 t' n' sub e2;split at hp
 case h_2=>cases hp
 rename_i l2 t2 n2 st l s hs hm;simp only [sI',pI']at hp;obtain⟨rfl,rfl⟩:=hp;obtain⟨⟨rfl,rfl⟩,rfl,rfl,hat,hl,hl2⟩:=hq;have hh:=bD hm hl;cases hh;have hh:=cH hs hl2;cases hh;refine fH hK (fun h=>?_) (fun hd h=>?_)
 ·exact⟨⟨_,_,(aF.weak (cA _ 0 [10,11,12,13,14,15,16,17,18])).trans ((aF.pick [0,1,2,3,5] rfl).trans ((aGQ (g2:=aM (wO t' n' (⟨code,okk,val,slow,sh,kd,ky,limit,at',⟨0,0,0,false⟩,bU,aX,bR,⟨0,0,0,0,false,0⟩,sub,aR,⟨0,0⟩,bN⟩:DOS) st s) 1 0 (dL t' n' st) []) (by kernel_rfl) (by kernel_rfl)).trans (aF.pack (wO t' n' (⟨code,okk,val,slow,sh,kd,ky,limit,at',⟨0,0,0,false⟩,bU,aX,bR,⟨0,0,0,0,false,0⟩,sub,aR,⟨0,0⟩,bN⟩:DOS) st s) (.store t' n' st) 1 0 (dL t' n' st) [] (by kernel_rfl) rfl rfl (by kernel_rfl)))),h⟩⟩
 ·exact let X0:DOS:=⟨code,okk,val,slow,sh,kd,ky,limit,at',⟨0,0,0,false⟩,bU,aX,bR,⟨0,0,0,0,false,0⟩,sub,aR,⟨0,0⟩,bN⟩;⟨⟨_,_,((aF.pack (aM (tM t' n' X0 st s) 0 1 (fO t' n' X0) [1]) (.store t' n' st) 1 0 (dL t' n' st) [] (by kernel_rfl) rfl rfl (by kernel_rfl)).trans (aF.pack (tM t' n' X0 st s) (.doer t' n' X0) 0 1 (fO t' n' X0) [1] (by kernel_rfl) rfl (congrArg (Prod.mk 1) (tI (hat hd))) (by kernel_rfl))),h⟩⟩
theorem S0{t n:Int} :bV (obI tbl) 4 (Z5 t n) (DqO.fin t n):=by
 intro v g p x hp hq K hK;unfold Z5 at hp;split at hp
 case h_2=>cases hp
 rename_i d code okk val slow sh kd ky limit at' e1 e3 e4 t' n' sub e2;split at hp
 case h_2=>cases hp
 rename_i l2 t2 n2 st l s hs hm;simp only [sI',pI']at hp;obtain⟨rfl,rfl⟩:=hp;obtain⟨⟨rfl,rfl⟩,rfl,rfl,hat,hl,hl2⟩:=hq;have hh:=bD hm hl;cases hh;have hh:=cH hs hl2;cases hh;refine fH hK (fun h=>?_) (fun hd h=>?_)
 ·exact⟨⟨_,_,(aF.weak (cA _ 0 [10,11,12,13,14,15,16,17,18])).trans ((aF.pick [0,1,2,3,5] rfl).trans ((aGQ (g2:=aM (wO t' n' (⟨code,okk,val,slow,sh,kd,ky,limit,at',⟨0,0,0,false⟩,bU,aX,bR,⟨0,0,0,0,false,0⟩,⟨0,false,0,0⟩,sub,⟨0,0⟩,bN⟩:DOS) st s) 1 0 (dL t' n' st) []) (by kernel_rfl) (by kernel_rfl)).trans (aF.pack (wO t' n' (⟨code,okk,val,slow,sh,kd,ky,limit,at',⟨0,0,0,false⟩,bU,aX,bR,⟨0,0,0,0,false,0⟩,⟨0,false,0,0⟩,sub,⟨0,0⟩,bN⟩:DOS) st s) (.store t' n' st) 1 0 (dL t' n' st) [] (by kernel_rfl) rfl rfl (by kernel_rfl)))),h⟩⟩
 ·exact let X0:DOS:=⟨code,okk,val,slow,sh,kd,ky,limit,at',⟨0,0,0,false⟩,bU,aX,bR,⟨0,0,0,0,false,0⟩,⟨0,false,0,0⟩,sub,⟨0,0⟩,bN⟩;⟨⟨_,_,((aF.pack (aM (tM t' n' X0 st s) 0 1 (fR t' n' X0) [1]) (.store t' n' st) 1 0 (dL t' n' st) [] (by kernel_rfl) rfl rfl (by kernel_rfl)).trans (aF.pack (tM t' n' X0 st s) (.doer t' n' X0) 0 1 (fR t' n' X0) [1] (by kernel_rfl) rfl (congrArg (Prod.mk 1) (tJ (hat hd))) (by kernel_rfl))),h⟩⟩
theorem S1{t n:Int} :bV (obI tbl) 4 (Z6 t n) (DqO.fin t n):=by
 intro v g p x hp hq K hK;unfold Z6 at hp;split at hp
 case h_2=>cases hp
 rename_i d code okk val slow sh kd ky limit at' e1 e3 e4 t' n' sub e2;split at hp
 case h_2=>cases hp
 rename_i l2 t2 n2 st l s hs hm;simp only [sI',pI']at hp;obtain⟨rfl,rfl⟩:=hp;obtain⟨⟨rfl,rfl⟩,rfl,rfl,hat,hl,hl2⟩:=hq;have hh:=bD hm hl;cases hh;have hh:=cH hs hl2;cases hh;refine fH hK (fun h=>?_) (fun hd h=>?_)
 ·exact⟨⟨_,_,(aF.weak (cA _ 0 [10,11,12,13,14,15,16,17,18])).trans ((aF.pick [0,1,2,3,5] rfl).trans ((aGQ (g2:=aM (wO t' n' (⟨code,okk,val,slow,sh,kd,ky,limit,at',⟨0,0,0,false⟩,bU,aX,bR,⟨0,0,0,0,false,0⟩,⟨0,false,0,0⟩,aR,sub,bN⟩:DOS) st s) 1 0 (dL t' n' st) []) (by kernel_rfl) (by kernel_rfl)).trans (aF.pack (wO t' n' (⟨code,okk,val,slow,sh,kd,ky,limit,at',⟨0,0,0,false⟩,bU,aX,bR,⟨0,0,0,0,false,0⟩,⟨0,false,0,0⟩,aR,sub,bN⟩:DOS) st s) (.store t' n' st) 1 0 (dL t' n' st) [] (by kernel_rfl) rfl rfl (by kernel_rfl)))),h⟩⟩
 ·exact let X0:DOS:=⟨code,okk,val,slow,sh,kd,ky,limit,at',⟨0,0,0,false⟩,bU,aX,bR,⟨0,0,0,0,false,0⟩,⟨0,false,0,0⟩,aR,sub,bN⟩;⟨⟨_,_,((aF.pack (aM (tM t' n' X0 st s) 0 1 (fP t' n' X0) [1]) (.store t' n' st) 1 0 (dL t' n' st) [] (by kernel_rfl) rfl rfl (by kernel_rfl)).trans (aF.pack (tM t' n' X0 st s) (.doer t' n' X0) 0 1 (fP t' n' X0) [1] (by kernel_rfl) rfl (congrArg (Prod.mk 1) (tK (hat hd))) (by kernel_rfl))),h⟩⟩
theorem S2{t n:Int} :bV (obI tbl) 4 (Z7 t n) (DqO.fin t n):=by
 intro v g p x hp hq K hK;unfold Z7 at hp;split at hp
 case h_2=>cases hp
 rename_i d code okk val slow sh kd ky limit at' e1 e3 e4 t' n' sub e2;split at hp
 case h_2=>cases hp
 rename_i l2 t2 n2 st l s hs hm;simp only [sI',pI']at hp;obtain⟨rfl,rfl⟩:=hp;obtain⟨⟨rfl,rfl⟩,rfl,rfl,hat,hl,hl2⟩:=hq;have hh:=bD hm hl;cases hh;have hh:=cH hs hl2;cases hh;refine fH hK (fun h=>?_) (fun hd h=>?_)
 ·exact⟨⟨_,_,(aF.weak (cA _ 0 [10,11,12,13,14,15,16,17,18])).trans ((aF.pick [0,1,2,3,5] rfl).trans ((aGQ (g2:=aM (wO t' n' (⟨code,okk,val,slow,sh,kd,ky,limit,at',⟨0,0,0,false⟩,bU,aX,bR,⟨0,0,0,0,false,0⟩,⟨0,false,0,0⟩,aR,⟨0,0⟩,sub⟩:DOS) st s) 1 0 (dL t' n' st) []) (by kernel_rfl) (by kernel_rfl)).trans (aF.pack (wO t' n' (⟨code,okk,val,slow,sh,kd,ky,limit,at',⟨0,0,0,false⟩,bU,aX,bR,⟨0,0,0,0,false,0⟩,⟨0,false,0,0⟩,aR,⟨0,0⟩,sub⟩:DOS) st s) (.store t' n' st) 1 0 (dL t' n' st) [] (by kernel_rfl) rfl rfl (by kernel_rfl)))),h⟩⟩
 ·exact let X0:DOS:=⟨code,okk,val,slow,sh,kd,ky,limit,at',⟨0,0,0,false⟩,bU,aX,bR,⟨0,0,0,0,false,0⟩,⟨0,false,0,0⟩,aR,⟨0,0⟩,sub⟩;⟨⟨_,_,((aF.pack (aM (tM t' n' X0 st s) 0 1 (fT t' n' X0) [1]) (.store t' n' st) 1 0 (dL t' n' st) [] (by kernel_rfl) rfl rfl (by kernel_rfl)).trans (aF.pack (tM t' n' X0 st s) (.doer t' n' X0) 0 1 (fT t' n' X0) [1] (by kernel_rfl) rfl (congrArg (Prod.mk 1) (tL (hat hd))) (by kernel_rfl))),h⟩⟩
theorem lA{t n:Int} :bV (obI tbl) 4 (vP t n) (DqO.fin t n):=by
 intro v g p x hp hq K hK;unfold vP at hp;split at hp
 ·rename_i r hr;cases hp;exact ST v g p x hr hq K hK
 split at hp
 ·rename_i r hr;cases hp;exact SU v g p x hr hq K hK
 split at hp
 ·rename_i r hr;cases hp;exact SV v g p x hr hq K hK
 split at hp
 ·rename_i r hr;cases hp;exact SW v g p x hr hq K hK
 split at hp
 ·rename_i r hr;cases hp;exact SX v g p x hr hq K hK
 split at hp
 ·rename_i r hr;cases hp;exact SY v g p x hr hq K hK
 split at hp
 ·rename_i r hr;cases hp;exact SZ v g p x hr hq K hK
 split at hp
 ·rename_i r hr;cases hp;exact S0 v g p x hr hq K hK
 split at hp
 ·rename_i r hr;cases hp;exact S1 v g p x hr hq K hK
 exact S2 v g p x hp hq K hK
abbrev w26:=false=false→(3:Int)=(3:Int)
abbrev w27(n:Int)(s:MS)(st:STS)(t:Int)(x:DOS):Tr DqO:=.ret {d:=false,x:= {x with at':=3,hd:=d7,hp:=bU,en:=aX,ft:=(j9 t n x.5 x.6 x.7 x.8 st).1,an:=d5,aw:=d6,fn:=aR,dr:=fC,sw:=bN},st:=(j9 t n x.5 x.6 x.7 x.8 st).2,s:=(pO t n x.10 s).3}
abbrev w28(x:DOS):=!b9 x.5 x.6 x.7
abbrev w2b:=false=false→(2:Int)=(2:Int)
abbrev w2d(n:Int)(s:MS)(st:STS)(t:Int)(x:DOS):=vX t n (HdO.x (pO t n x.10 s)).1 (HdO.x (pO t n x.10 s)).2 x.8 st
abbrev w2e:=false=false→(1:Int)=(1:Int)∨(1:Int)=(5:Int)
def AD(t n:Int)(x:DOS)(st:STS)(s:MS):Tr DqO:=.pre True (.ite (w28 x) (.pre (lE' s.3∧(0:Int)≤s.4∧s.4≤(4611686018427387904:Int)) (.pre ((t=t∧n=n)∧t=t∧n=n∧(true=false→(0:Int)=(0:Int))∧lE' s.3∧lE' st.3) (.ret {d:=true,x:= {x with code:=1,okk:=false,val:=0,at':=0,hp:=bU,en:=aX,ft:=bR,an:=d5,aw:=d6,fn:=aR,dr:=fC,sw:=bN},st:=st,s:= {s with c:=s.4+1,k:=1,a:=0,o:=aE s.3 0,w:=aE s.3 0,ok:=bT s.3 0} }))) (.pre (lE' s.3∧aBk t n x.10 s) (.ite (pO t n x.10 s).1 (.ite (ilt (HdO.x (pO t n x.10 s)).1 0) (.pre True (.ite (f5 x.6) (.ite (ieq st.2 0) (.pre (lE' st.3∧(t=t∧n=n∧lE' st.3)∧True) (.pre ((t=t∧n=n)∧t=t∧n=n∧w2b∧lE' (HdO.s (pO t n x.10 s)).3∧lE' st.3) (.ret {d:=false,x:= {x with at':=2,hd:=d7,hp:=bU,en:=aX,ft:=bR,an:=d5,aw:=d6,fn:=aR,dr:=fC,sw:=bN},st:=st,s:=(pO t n x.10 s).3}))) (.pre ((lE' st.3∧uN t n x.5 x.6 x.7 x.8 st)∧True) (.pre ((t=t∧n=n)∧t=t∧n=n∧w26∧lE' (HdO.s (pO t n x.10 s)).3∧lE' (Prod.snd (j9 t n x.5 x.6 x.7 x.8 st)).3) (w27 n s st t x)))) (.pre ((lE' st.3∧uN t n x.5 x.6 x.7 x.8 st)∧True) (.pre ((t=t∧n=n)∧t=t∧n=n∧w26∧lE' (HdO.s (pO t n x.10 s)).3∧lE' (Prod.snd (j9 t n x.5 x.6 x.7 x.8 st)).3) (w27 n s st t x))))) (.pre ((lE' st.3∧B3 t n (HdO.x (pO t n x.10 s)).1 (HdO.x (pO t n x.10 s)).2 x.8 st)∧True) (.pre ((t=t∧n=n)∧t=t∧n=n∧w2e∧lE' (HdO.s (pO t n x.10 s)).3∧lE' (Prod.snd (w2d n s st t x)).3) (.ret {d:=false,x:= {x with at':=1,hd:=d7,hp:=(w2d n s st t x).1,en:=aX,ft:=bR,an:=d5,aw:=d6,fn:=aR,dr:=fC,sw:=bN},st:=(w2d n s st t x).2,s:=(pO t n x.10 s).3})))) (.pre ((t=t∧n=n)∧t=t∧n=n∧(false=false→(0:Int)=(0:Int))∧lE' (HdO.s (pO t n x.10 s)).3∧lE' st.3) (.ret {d:=false,x:= {x with at':=0,hd:=(pO t n x.10 s).2,hp:=bU,en:=aX,ft:=bR,an:=d5,aw:=d6,fn:=aR,dr:=fC,sw:=bN},st:=st,s:=(pO t n x.10 s).3})))))
theorem IB(t n:Int)(x:DOS)(st:STS)(s:MS)(K:DqO→Prop)(h:(AD t n x st s).run K):cT' 104 [.ptr 0 0,.ptr 2 0] [cE' [.ptr 1 0,.I x.code,.bool x.okk,.I x.val,.bool x.slow,.I x.sh,.I x.kd,.I x.ky,.I x.limit,.I 0,.ptr 4 0,.O,.O,.O,.O,.O,.O,.O,.O],iY 5 t n st,bE 3 s,bF s,some (.abs (.head t n x.hd) []),iZ st] (bP 4 0 [10,11,12,13,14,15,16,17,18] [(.cell 1 4,.ints (some .i64))] (vP t n) K):=by
 exact cM' (E:=EH) (by kernel_rfl) h
abbrev w25(n:Int)(s:MS)(st:STS)(t:Int)(x:DOS):Tr DqO:=.ret {d:=false,x:= {x with at':=3,hd:=d7,hp:=bU,en:=aX,ft:=(j9 t n x.5 x.6 x.7 x.8 (gS t n x.11 st s).3).1,an:=d5,aw:=d6,fn:=aR,dr:=fC,sw:=bN},st:=(j9 t n x.5 x.6 x.7 x.8 (gS t n x.11 st s).3).2,s:=(gS t n x.11 st s).4}
abbrev w2a(n:Int)(s:MS)(st:STS)(t:Int)(x:DOS):=HpO.st (gS t n x.11 st s)
def AE(t n:Int)(x:DOS)(st:STS)(s:MS):Tr DqO:=.pre True (.ite (w28 x) (.pre (lE' s.3∧(0:Int)≤s.4∧s.4≤(4611686018427387904:Int)) (.pre ((t=t∧n=n)∧t=t∧n=n∧(true=false→(1:Int)=(1:Int)∨(1:Int)=(5:Int))∧lE' s.3∧lE' st.3) (.ret {d:=true,x:= {x with code:=1,okk:=false,val:=0,at':=1,hd:=d7,en:=aX,ft:=bR,an:=d5,aw:=d6,fn:=aR,dr:=fC,sw:=bN},st:=st,s:= {s with c:=s.4+1,k:=1,a:=0,o:=aE s.3 0,w:=aE s.3 0,ok:=bT s.3 0} }))) (.pre ((lE' s.3∧lE' st.3∧t=t∧n=n)∧OE t n x.11 st s) (.ite (gS t n x.11 st s).1 (.pre True (.ite (f5 x.6) (.ite (ieq (w2a n s st t x).2 0) (.pre (lE' (w2a n s st t x).3∧(t=t∧n=n∧lE' (w2a n s st t x).3)∧True) (.pre ((t=t∧n=n)∧t=t∧n=n∧w2b∧lE' (HpO.s (gS t n x.11 st s)).3∧lE' (w2a n s st t x).3) (.ret {d:=false,x:= {x with at':=2,hd:=d7,hp:=bU,en:=aX,ft:=bR,an:=d5,aw:=d6,fn:=aR,dr:=fC,sw:=bN},st:=(gS t n x.11 st s).3,s:=(gS t n x.11 st s).4}))) (.pre ((lE' (w2a n s st t x).3∧uN t n x.5 x.6 x.7 x.8 (gS t n x.11 st s).3)∧True) (.pre ((t=t∧n=n)∧t=t∧n=n∧w26∧lE' (HpO.s (gS t n x.11 st s)).3∧lE' (Prod.snd (j9 t n x.5 x.6 x.7 x.8 (gS t n x.11 st s).3)).3) (w25 n s st t x)))) (.pre ((lE' (w2a n s st t x).3∧uN t n x.5 x.6 x.7 x.8 (gS t n x.11 st s).3)∧True) (.pre ((t=t∧n=n)∧t=t∧n=n∧w26∧lE' (HpO.s (gS t n x.11 st s)).3∧lE' (Prod.snd (j9 t n x.5 x.6 x.7 x.8 (gS t n x.11 st s).3)).3) (w25 n s st t x))))) (.pre ((t=t∧n=n)∧t=t∧n=n∧w2e∧lE' (HpO.s (gS t n x.11 st s)).3∧lE' (w2a n s st t x).3) (.ret {d:=false,x:= {x with at':=1,hd:=d7,hp:=(gS t n x.11 st s).2,en:=aX,ft:=bR,an:=d5,aw:=d6,fn:=aR,dr:=fC,sw:=bN},st:=(gS t n x.11 st s).3,s:=(gS t n x.11 st s).4})))))
theorem IC(t n:Int)(x:DOS)(st:STS)(s:MS)(K:DqO→Prop)(h:(AE t n x st s).run K):cT' 104 [.ptr 0 0,.ptr 2 0] [cE' [.ptr 1 0,.I x.code,.bool x.okk,.I x.val,.bool x.slow,.I x.sh,.I x.kd,.I x.ky,.I x.limit,.I 1,.O,.ptr 4 0,.O,.O,.O,.O,.O,.O,.O],iY 5 t n st,bE 3 s,bF s,some (.abs (.help t n x.hp) [1]),iZ st] (bP 4 0 [10,11,12,13,14,15,16,17,18] [(.cell 1 4,.ints (some .i64))] (vP t n) K):=by
 exact cM' (E:=EH) (by kernel_rfl) h
abbrev w23:=false=false→(8:Int)=(8:Int)
def AF(t n:Int)(x:DOS)(st:STS)(s:MS):Tr DqO:=.pre True (.ite (w28 x) (.pre (lE' s.3∧(0:Int)≤s.4∧s.4≤(4611686018427387904:Int)) (.pre ((t=t∧n=n)∧t=t∧n=n∧(true=false→(2:Int)=(2:Int))∧lE' s.3∧lE' st.3) (.ret {d:=true,x:= {x with code:=1,okk:=false,val:=0,at':=2,hd:=d7,hp:=bU,ft:=bR,an:=d5,aw:=d6,fn:=aR,dr:=fC,sw:=bN},st:=st,s:= {s with c:=s.4+1,k:=1,a:=0,o:=aE s.3 0,w:=aE s.3 0,ok:=bT s.3 0} }))) (.pre ((lE' s.3∧lE' st.3∧t=t∧n=n)∧J1 t n (DOS.en x) st s) (.ite (enF t n x.12 st s).1 (.ite (EO.e (enF t n x.12 st s)).2 (.pre (sI t n (EO.st (enF t n x.12 st s)).1∧True) (.pre ((t=t∧n=n)∧t=t∧n=n∧w23∧lE' (EO.s (enF t n x.12 st s)).3∧lE' (EO.st (enF t n x.12 st s)).3) (.ret {d:=false,x:= {x with code:=4,okk:=false,val:=0,at':=8,hd:=d7,hp:=bU,en:=aX,ft:=bR,an:=d5,aw:=d6,fn:=aR,dr:=AO t n (EO.st (enF t n x.12 st s)).1,sw:=bN},st:=(enF t n x.12 st s).3,s:=(enF t n x.12 st s).4}))) (.pre ((lE' (EO.st (enF t n x.12 st s)).3∧uN t n x.5 x.6 x.7 x.8 (enF t n x.12 st s).3)∧True) (.pre ((t=t∧n=n)∧t=t∧n=n∧w26∧lE' (EO.s (enF t n x.12 st s)).3∧lE' (Prod.snd (j9 t n x.5 x.6 x.7 x.8 (enF t n x.12 st s).3)).3) (.ret {d:=false,x:= {x with at':=3,hd:=d7,hp:=bU,en:=aX,ft:=(j9 t n x.5 x.6 x.7 x.8 (enF t n x.12 st s).3).1,an:=d5,aw:=d6,fn:=aR,dr:=fC,sw:=bN},st:=(j9 t n x.5 x.6 x.7 x.8 (enF t n x.12 st s).3).2,s:=(enF t n x.12 st s).4})))) (.pre ((t=t∧n=n)∧t=t∧n=n∧w2b∧lE' (EO.s (enF t n x.12 st s)).3∧lE' (EO.st (enF t n x.12 st s)).3) (.ret {d:=false,x:= {x with at':=2,hd:=d7,hp:=bU,en:=(enF t n x.12 st s).2,ft:=bR,an:=d5,aw:=d6,fn:=aR,dr:=fC,sw:=bN},st:=(enF t n x.12 st s).3,s:=(enF t n x.12 st s).4})))))
theorem ID(t n:Int)(x:DOS)(st:STS)(s:MS)(K:DqO→Prop)(h:(AF t n x st s).run K):cT' 104 [.ptr 0 0,.ptr 2 0] [cE' [.ptr 1 0,.I x.code,.bool x.okk,.I x.val,.bool x.slow,.I x.sh,.I x.kd,.I x.ky,.I x.limit,.I 2,.O,.O,.ptr 4 0,.O,.O,.O,.O,.O,.O],iY 5 t n st,bE 3 s,bF s,some (.abs (.ensure t n x.en) [1]),iZ st] (bP 4 0 [10,11,12,13,14,15,16,17,18] [(.cell 1 4,.ints (some .i64))] (vP t n) K):=by
 exact cM' (E:=EH) (by kernel_rfl) h
abbrev w29(n:Int)(s:MS)(st:STS)(t:Int)(x:DOS):=FtO.st (iB t n x.13 st s)
abbrev w22(n:Int)(s:MS)(st:STS)(t:Int)(x:DOS):Tr DqO:=.ret {d:=false,x:= {x with code:=(FtO.x (iB t n x.13 st s)).1,okk:=(FtO.x (iB t n x.13 st s)).2,val:=(FtO.x (iB t n x.13 st s)).3,at':=8,hd:=d7,hp:=bU,en:=aX,ft:=bR,an:=d5,aw:=d6,fn:=aR,dr:=AO t n (w29 n s st t x).1,sw:=bN},st:=(iB t n x.13 st s).3,s:=(iB t n x.13 st s).4}
abbrev w2c:=false=false→(7:Int)=(7:Int)
def AG(t n:Int)(x:DOS)(st:STS)(s:MS):Tr DqO:=.pre True (.ite (w28 x) (.pre (lE' s.3∧(0:Int)≤s.4∧s.4≤(4611686018427387904:Int)) (.pre ((t=t∧n=n)∧t=t∧n=n∧(true=false→(3:Int)=(3:Int))∧lE' s.3∧lE' st.3) (.ret {d:=true,x:= {x with code:=1,okk:=false,val:=0,at':=3,hd:=d7,hp:=bU,en:=aX,an:=d5,aw:=d6,fn:=aR,dr:=fC,sw:=bN},st:=st,s:= {s with c:=s.4+1,k:=1,a:=0,o:=aE s.3 0,w:=aE s.3 0,ok:=bT s.3 0} }))) (.pre ((lE' s.3∧lE' st.3∧t=t∧n=n)∧T5 t n x.13 st s) (.ite (iB t n x.13 st s).1 (.ite (!(FtO.x (iB t n x.13 st s)).4) (.ite (!(FtO.x (iB t n x.13 st s)).2) (.pre (sI t n (w29 n s st t x).1∧True) (.pre ((t=t∧n=n)∧t=t∧n=n∧w23∧lE' (FtO.s (iB t n x.13 st s)).3∧lE' (w29 n s st t x).3) (w22 n s st t x))) (.pre True (.ite (!uP x.5 x.6) (.pre (sI t n (w29 n s st t x).1∧True) (.pre ((t=t∧n=n)∧t=t∧n=n∧w23∧lE' (FtO.s (iB t n x.13 st s)).3∧lE' (w29 n s st t x).3) (w22 n s st t x))) (.pre True (.pre (oQ t n (w29 n s st t x).1 (fG x.5 x.7) (l9 x.5 x.6 x.7) x.8∧True) (.pre ((t=t∧n=n)∧t=t∧n=n∧w2c∧lE' (FtO.s (iB t n x.13 st s)).3∧lE' (w29 n s st t x).3) (.ret {d:=false,x:= {x with code:=(FtO.x (iB t n x.13 st s)).1,okk:=(FtO.x (iB t n x.13 st s)).2,val:=(FtO.x (iB t n x.13 st s)).3,at':=7,hd:=d7,hp:=bU,en:=aX,ft:=bR,an:=d5,aw:=d6,fn:=uM t n (w29 n s st t x).1 (fG x.5 x.7) (l9 x.5 x.6 x.7) x.8,dr:=fC,sw:=bN},st:=(iB t n x.13 st s).3,s:=(iB t n x.13 st s).4}))))))) (.pre (LP t n (w29 n s st t x).1 x.5 x.6 x.7∧True) (.pre ((t=t∧n=n)∧t=t∧n=n∧(false=false→(4:Int)=(4:Int))∧lE' (FtO.s (iB t n x.13 st s)).3∧lE' (w29 n s st t x).3) (.ret {d:=false,x:= {x with slow:=true,at':=4,hd:=d7,hp:=bU,en:=aX,ft:=bR,an:=YZ t n (w29 n s st t x).1 x.5 x.6 x.7,aw:=d6,fn:=aR,dr:=fC,sw:=bN},st:=(iB t n x.13 st s).3,s:=(iB t n x.13 st s).4})))) (.pre ((t=t∧n=n)∧t=t∧n=n∧w26∧lE' (FtO.s (iB t n x.13 st s)).3∧lE' (w29 n s st t x).3) (.ret {d:=false,x:= {x with at':=3,hd:=d7,hp:=bU,en:=aX,ft:=(iB t n x.13 st s).2,an:=d5,aw:=d6,fn:=aR,dr:=fC,sw:=bN},st:=(iB t n x.13 st s).3,s:=(iB t n x.13 st s).4})))))
theorem IE(t n:Int)(x:DOS)(st:STS)(s:MS)(K:DqO→Prop)(h:(AG t n x st s).run K):cT' 104 [.ptr 0 0,.ptr 2 0] [cE' [.ptr 1 0,.I x.code,.bool x.okk,.I x.val,.bool x.slow,.I x.sh,.I x.kd,.I x.ky,.I x.limit,.I 3,.O,.O,.O,.ptr 4 0,.O,.O,.O,.O,.O],iY 5 t n st,bE 3 s,bF s,some (.abs (.fast t n x.ft) [1]),iZ st] (bP 4 0 [10,11,12,13,14,15,16,17,18] [(.cell 1 4,.ints (some .i64))] (vP t n) K):=by
 exact cM' (E:=EH) (by kernel_rfl) h
abbrev w2f:=false=false→(5:Int)=(1:Int)∨(5:Int)=(5:Int)
def AH(t n:Int)(x:DOS)(st:STS)(s:MS):Tr DqO:=.pre True (.ite (w28 x) (.pre (lE' s.3∧(0:Int)≤s.4∧s.4≤(4611686018427387904:Int)) (.pre ((t=t∧n=n)∧t=t∧n=n∧(true=false→(4:Int)=(4:Int))∧lE' s.3∧lE' st.3) (.ret {d:=true,x:= {x with code:=1,okk:=false,val:=0,at':=4,hd:=d7,hp:=bU,en:=aX,ft:=bR,aw:=d6,fn:=aR,dr:=fC,sw:=bN},st:=st,s:= {s with c:=s.4+1,k:=1,a:=0,o:=aE s.3 0,w:=aE s.3 0,ok:=bT s.3 0} }))) (.pre (lE' s.3∧Y3 t n x.14 s) (.ite (DT t n x.14 s).1 (.pre ((lE' st.3∧B3 t n st.1 (AnO.x (DT t n x.14 s)).1 x.8 st)∧True) (.pre ((t=t∧n=n)∧t=t∧n=n∧w2f∧lE' (AnO.s (DT t n x.14 s)).3∧lE' (Prod.snd (vX t n st.1 (AnO.x (DT t n x.14 s)).1 x.8 st)).3) (.ret {d:=false,x:= {x with at':=5,hd:=d7,hp:=(vX t n st.1 (AnO.x (DT t n x.14 s)).1 x.8 st).1,en:=aX,ft:=bR,an:=d5,aw:=d6,fn:=aR,dr:=fC,sw:=bN},st:=(vX t n st.1 (AnO.x (DT t n x.14 s)).1 x.8 st).2,s:=(DT t n x.14 s).3}))) (.pre ((t=t∧n=n)∧t=t∧n=n∧(false=false→(4:Int)=(4:Int))∧lE' (AnO.s (DT t n x.14 s)).3∧lE' st.3) (.ret {d:=false,x:= {x with at':=4,hd:=d7,hp:=bU,en:=aX,ft:=bR,an:=(DT t n x.14 s).2,aw:=d6,fn:=aR,dr:=fC,sw:=bN},st:=st,s:=(DT t n x.14 s).3})))))
theorem IF(t n:Int)(x:DOS)(st:STS)(s:MS)(K:DqO→Prop)(h:(AH t n x st s).run K):cT' 104 [.ptr 0 0,.ptr 2 0] [cE' [.ptr 1 0,.I x.code,.bool x.okk,.I x.val,.bool x.slow,.I x.sh,.I x.kd,.I x.ky,.I x.limit,.I 4,.O,.O,.O,.O,.ptr 4 0,.O,.O,.O,.O],iY 5 t n st,bE 3 s,bF s,some (.abs (.announce t n x.an) []),iZ st] (bP 4 0 [10,11,12,13,14,15,16,17,18] [(.cell 1 4,.ints (some .i64))] (vP t n) K):=by
 exact cM' (E:=EH) (by kernel_rfl) h
def AI(t n:Int)(x:DOS)(st:STS)(s:MS):Tr DqO:=.pre True (.ite (w28 x) (.pre (lE' s.3∧(0:Int)≤s.4∧s.4≤(4611686018427387904:Int)) (.pre ((t=t∧n=n)∧t=t∧n=n∧(true=false→(5:Int)=(1:Int)∨(5:Int)=(5:Int))∧lE' s.3∧lE' st.3) (.ret {d:=true,x:= {x with code:=1,okk:=false,val:=0,at':=5,hd:=d7,en:=aX,ft:=bR,an:=d5,aw:=d6,fn:=aR,dr:=fC,sw:=bN},st:=st,s:= {s with c:=s.4+1,k:=1,a:=0,o:=aE s.3 0,w:=aE s.3 0,ok:=bT s.3 0} }))) (.pre ((lE' s.3∧lE' st.3∧t=t∧n=n)∧OE t n x.11 st s) (.ite (gS t n x.11 st s).1 (.pre (LQ t n (w2a n s st t x).1∧True) (.pre ((t=t∧n=n)∧t=t∧n=n∧(false=false→(6:Int)=(6:Int))∧lE' (HpO.s (gS t n x.11 st s)).3∧lE' (w2a n s st t x).3) (.ret {d:=false,x:= {x with at':=6,hd:=d7,hp:=bU,en:=aX,ft:=bR,an:=d5,aw:=Y7 t n (w2a n s st t x).1,fn:=aR,dr:=fC,sw:=bN},st:=(gS t n x.11 st s).3,s:=(gS t n x.11 st s).4}))) (.pre ((t=t∧n=n)∧t=t∧n=n∧w2f∧lE' (HpO.s (gS t n x.11 st s)).3∧lE' (w2a n s st t x).3) (.ret {d:=false,x:= {x with at':=5,hd:=d7,hp:=(gS t n x.11 st s).2,en:=aX,ft:=bR,an:=d5,aw:=d6,fn:=aR,dr:=fC,sw:=bN},st:=(gS t n x.11 st s).3,s:=(gS t n x.11 st s).4})))))
theorem IG(t n:Int)(x:DOS)(st:STS)(s:MS)(K:DqO→Prop)(h:(AI t n x st s).run K):cT' 104 [.ptr 0 0,.ptr 2 0] [cE' [.ptr 1 0,.I x.code,.bool x.okk,.I x.val,.bool x.slow,.I x.sh,.I x.kd,.I x.ky,.I x.limit,.I 5,.O,.ptr 4 0,.O,.O,.O,.O,.O,.O,.O],iY 5 t n st,bE 3 s,bF s,some (.abs (.help t n x.hp) [1]),iZ st] (bP 4 0 [10,11,12,13,14,15,16,17,18] [(.cell 1 4,.ints (some .i64))] (vP t n) K):=by
 exact cM' (E:=EH) (by kernel_rfl) h
abbrev w24(n:Int)(s:MS)(st:STS)(t:Int)(x:DOS):Tr DqO:=.ret {d:=false,x:= {x with code:=(AwO.x (sH t n x.15 s)).1,okk:=(AwO.x (sH t n x.15 s)).2,val:=(AwO.x (sH t n x.15 s)).3,at':=8,hd:=d7,hp:=bU,en:=aX,ft:=bR,an:=d5,aw:=d6,fn:=aR,dr:=AO t n st.1,sw:=bN},st:=st,s:=(sH t n x.15 s).3}
def AJ(t n:Int)(x:DOS)(st:STS)(s:MS):Tr DqO:=.pre True (.ite (w28 x) (.pre (lE' s.3∧(0:Int)≤s.4∧s.4≤(4611686018427387904:Int)) (.pre ((t=t∧n=n)∧t=t∧n=n∧(true=false→(6:Int)=(6:Int))∧lE' s.3∧lE' st.3) (.ret {d:=true,x:= {x with code:=1,okk:=false,val:=0,at':=6,hd:=d7,hp:=bU,en:=aX,ft:=bR,an:=d5,fn:=aR,dr:=fC,sw:=bN},st:=st,s:= {s with c:=s.4+1,k:=1,a:=0,o:=aE s.3 0,w:=aE s.3 0,ok:=bT s.3 0} }))) (.pre (lE' s.3∧ZB t n x.15 s) (.ite (sH t n x.15 s).1 (.ite (!(AwO.x (sH t n x.15 s)).2) (.pre (sI t n st.1∧True) (.pre ((t=t∧n=n)∧t=t∧n=n∧w23∧lE' (AwO.s (sH t n x.15 s)).3∧lE' st.3) (w24 n s st t x))) (.pre True (.ite (!uP x.5 x.6) (.pre (sI t n st.1∧True) (.pre ((t=t∧n=n)∧t=t∧n=n∧w23∧lE' (AwO.s (sH t n x.15 s)).3∧lE' st.3) (w24 n s st t x))) (.pre True (.pre (oQ t n st.1 (fG x.5 x.7) (l9 x.5 x.6 x.7) x.8∧True) (.pre ((t=t∧n=n)∧t=t∧n=n∧w2c∧lE' (AwO.s (sH t n x.15 s)).3∧lE' st.3) (.ret {d:=false,x:= {x with code:=(AwO.x (sH t n x.15 s)).1,okk:=(AwO.x (sH t n x.15 s)).2,val:=(AwO.x (sH t n x.15 s)).3,at':=7,hd:=d7,hp:=bU,en:=aX,ft:=bR,an:=d5,aw:=d6,fn:=uM t n st.1 (fG x.5 x.7) (l9 x.5 x.6 x.7) x.8,dr:=fC,sw:=bN},st:=st,s:=(sH t n x.15 s).3}))))))) (.pre ((t=t∧n=n)∧t=t∧n=n∧(false=false→(6:Int)=(6:Int))∧lE' (AwO.s (sH t n x.15 s)).3∧lE' st.3) (.ret {d:=false,x:= {x with at':=6,hd:=d7,hp:=bU,en:=aX,ft:=bR,an:=d5,aw:=(sH t n x.15 s).2,fn:=aR,dr:=fC,sw:=bN},st:=st,s:=(sH t n x.15 s).3})))))
theorem IH(t n:Int)(x:DOS)(st:STS)(s:MS)(K:DqO→Prop)(h:(AJ t n x st s).run K):cT' 104 [.ptr 0 0,.ptr 2 0] [cE' [.ptr 1 0,.I x.code,.bool x.okk,.I x.val,.bool x.slow,.I x.sh,.I x.kd,.I x.ky,.I x.limit,.I 6,.O,.O,.O,.O,.O,.ptr 4 0,.O,.O,.O],iY 5 t n st,bE 3 s,bF s,some (.abs (.answer t n x.aw) []),iZ st] (bP 4 0 [10,11,12,13,14,15,16,17,18] [(.cell 1 4,.ints (some .i64))] (vP t n) K):=by
 exact cM' (E:=EH) (by kernel_rfl) h
def AK(t n:Int)(x:DOS)(st:STS)(s:MS):Tr DqO:=.pre True (.ite (w28 x) (.pre (lE' s.3∧(0:Int)≤s.4∧s.4≤(4611686018427387904:Int)) (.pre ((t=t∧n=n)∧t=t∧n=n∧(true=false→(7:Int)=(7:Int))∧lE' s.3∧lE' st.3) (.ret {d:=true,x:= {x with code:=1,okk:=false,val:=0,at':=7,hd:=d7,hp:=bU,en:=aX,ft:=bR,an:=d5,aw:=d6,dr:=fC,sw:=bN},st:=st,s:= {s with c:=s.4+1,k:=1,a:=0,o:=aE s.3 0,w:=aE s.3 0,ok:=bT s.3 0} }))) (.pre (lE' s.3∧I6 t n x.16 s) (.ite (aN t n x.16 s).1 (.pre ((lE' st.3∧lE' (FnO.x (aN t n x.16 s)).6∧st.3.length+List.length (FnO.x (aN t n x.16 s)).6≤(4294967296:Nat))∧True) (.pre (sI t n st.1∧True) (.pre ((t=t∧n=n)∧t=t∧n=n∧w23∧lE' (FnO.s (aN t n x.16 s)).3∧st.3.length+List.length (FnO.x (aN t n x.16 s)).6=List.length (st.3++(FnO.x (aN t n x.16 s)).6)) (.ret {d:=false,x:= {x with at':=8,hd:=d7,hp:=bU,en:=aX,ft:=bR,an:=d5,aw:=d6,fn:=aR,dr:=AO t n st.1,sw:=bN},st:= {me:=st.1,sp:=st.2,R:=st.3++(FnO.x (aN t n x.16 s)).6},s:=(aN t n x.16 s).3})))) (.pre ((t=t∧n=n)∧t=t∧n=n∧w2c∧lE' (FnO.s (aN t n x.16 s)).3∧lE' st.3) (.ret {d:=false,x:= {x with at':=7,hd:=d7,hp:=bU,en:=aX,ft:=bR,an:=d5,aw:=d6,fn:=(aN t n x.16 s).2,dr:=fC,sw:=bN},st:=st,s:=(aN t n x.16 s).3})))))
theorem II(t n:Int)(x:DOS)(st:STS)(s:MS)(K:DqO→Prop)(h:(AK t n x st s).run K):cT' 104 [.ptr 0 0,.ptr 2 0] [cE' [.ptr 1 0,.I x.code,.bool x.okk,.I x.val,.bool x.slow,.I x.sh,.I x.kd,.I x.ky,.I x.limit,.I 7,.O,.O,.O,.O,.O,.O,.ptr 4 0,.O,.O],iY 5 t n st,bE 3 s,bF s,some (.abs (.find t n x.fn) []),iZ st] (bP 4 0 [10,11,12,13,14,15,16,17,18] [(.cell 1 4,.ints (some .i64))] (vP t n) K):=by
 exact cM' (E:=EH) (by kernel_rfl) h
def AM(t n:Int)(x:DOS)(st:STS)(s:MS):Tr DqO:=.pre True (.ite (w28 x) (.pre (lE' s.3∧(0:Int)≤s.4∧s.4≤(4611686018427387904:Int)) (.pre ((t=t∧n=n)∧t=t∧n=n∧(true=false→(8:Int)=(8:Int))∧lE' s.3∧lE' st.3) (.ret {d:=true,x:= {x with code:=1,okk:=false,val:=0,at':=8,hd:=d7,hp:=bU,en:=aX,ft:=bR,an:=d5,aw:=d6,fn:=aR,sw:=bN},st:=st,s:= {s with c:=s.4+1,k:=1,a:=0,o:=aE s.3 0,w:=aE s.3 0,ok:=bT s.3 0} }))) (.pre (lE' s.3∧aAf t n x.17 s) (.ite (QY t n x.17 s).1 (.pre (lE' st.3∧(t=t∧n=n∧lE' st.3)∧True) (.pre ((0:Int)≤t∧t≤(100000:Int)) (.pre ((t=t∧n=n)∧t=t∧n=n∧((!ile (4*t) (↑st.3.length:Int))=false→(9:Int)=(9:Int))∧lE' (DrO.s (QY t n x.17 s)).3∧lE' st.3) (.ret {d:=!ile (4*t) (↑st.3.length:Int),x:= {x with at':=9,hd:=d7,hp:=bU,en:=aX,ft:=bR,an:=d5,aw:=d6,fn:=aR,dr:=fC,sw:=bN},st:=st,s:=(QY t n x.17 s).3})))) (.pre ((t=t∧n=n)∧t=t∧n=n∧w23∧lE' (DrO.s (QY t n x.17 s)).3∧lE' st.3) (.ret {d:=false,x:= {x with at':=8,hd:=d7,hp:=bU,en:=aX,ft:=bR,an:=d5,aw:=d6,fn:=aR,dr:=(QY t n x.17 s).2,sw:=bN},st:=st,s:=(QY t n x.17 s).3})))))
theorem IJ(t n:Int)(x:DOS)(st:STS)(s:MS)(K:DqO→Prop)(h:(AM t n x st s).run K):cT' 104 [.ptr 0 0,.ptr 2 0] [cE' [.ptr 1 0,.I x.code,.bool x.okk,.I x.val,.bool x.slow,.I x.sh,.I x.kd,.I x.ky,.I x.limit,.I 8,.O,.O,.O,.O,.O,.O,.O,.ptr 4 0,.O],iY 5 t n st,bE 3 s,bF s,some (.abs (.drop t n x.dr) []),iZ st] (bP 4 0 [10,11,12,13,14,15,16,17,18] [(.cell 1 4,.ints (some .i64))] (vP t n) K):=by
 exact cM' (E:=EH) (by kernel_rfl) h
def AN(t n:Int)(x:DOS)(st:STS)(s:MS):Tr DqO:=.pre True (.ite (w28 x) (.pre (lE' s.3∧(0:Int)≤s.4∧s.4≤(4611686018427387904:Int)) (.pre ((t=t∧n=n)∧t=t∧n=n∧(true=false→(9:Int)=(9:Int))∧lE' s.3∧lE' st.3) (.ret {d:=true,x:= {x with code:=1,okk:=false,val:=0,at':=9,hd:=d7,hp:=bU,en:=aX,ft:=bR,an:=d5,aw:=d6,fn:=aR,dr:=fC},st:=st,s:= {s with c:=s.4+1,k:=1,a:=0,o:=aE s.3 0,w:=aE s.3 0,ok:=bT s.3 0} }))) (.pre ((lE' s.3∧lE' st.3∧t=t∧n=n)∧qL t n (DOS.sw x) st s) (.ite (swF t n x.18 st s).1 (.pre ((t=t∧n=n)∧(true=false→(9:Int)≠(0:Int)∧(9:Int)≠(1:Int)∧(9:Int)≠(5:Int)∧(9:Int)≠(2:Int)∧(9:Int)≠(3:Int)∧(9:Int)≠(4:Int)∧(9:Int)≠(6:Int)∧(9:Int)≠(7:Int)∧(9:Int)≠(8:Int)∧(9:Int)≠(9:Int))∧lE' (SO.s (swF t n x.18 st s)).3∧lE' (SO.st (swF t n x.18 st s)).3) (.ret {d:=true,x:= {x with at':=9,hd:=d7,hp:=bU,en:=aX,ft:=bR,an:=d5,aw:=d6,fn:=aR,dr:=fC,sw:=bN},st:=(swF t n x.18 st s).3,s:=(swF t n x.18 st s).4})) (.pre ((t=t∧n=n)∧t=t∧n=n∧(false=false→(9:Int)=(9:Int))∧lE' (SO.s (swF t n x.18 st s)).3∧lE' (SO.st (swF t n x.18 st s)).3) (.ret {d:=false,x:= {x with at':=9,hd:=d7,hp:=bU,en:=aX,ft:=bR,an:=d5,aw:=d6,fn:=aR,dr:=fC,sw:=(swF t n x.18 st s).2},st:=(swF t n x.18 st s).3,s:=(swF t n x.18 st s).4})))))
theorem IK(t n:Int)(x:DOS)(st:STS)(s:MS)(K:DqO→Prop)(h:(AN t n x st s).run K):cT' 104 [.ptr 0 0,.ptr 2 0] [cE' [.ptr 1 0,.I x.code,.bool x.okk,.I x.val,.bool x.slow,.I x.sh,.I x.kd,.I x.ky,.I x.limit,.I 9,.O,.O,.O,.O,.O,.O,.O,.O,.ptr 4 0],iY 5 t n st,bE 3 s,bF s,some (.abs (.sweep t n x.sw) [1]),iZ st] (bP 4 0 [10,11,12,13,14,15,16,17,18] [(.cell 1 4,.ints (some .i64))] (vP t n) K):=by
 exact cM' (E:=EH) (by kernel_rfl) h
def dqT(t n:Int)(x:DOS)(st:STS)(s:MS):Tr DqO:=
 bif ieq x.at' 0 then AD t n x st s else
 bif ieq x.at' 1 then AE t n x st s else
 bif ieq x.at' 2 then AF t n x st s else
 bif ieq x.at' 3 then AG t n x st s else
 bif ieq x.at' 4 then AH t n x st s else
 bif ieq x.at' 5 then AI t n x st s else
 bif ieq x.at' 6 then AJ t n x st s else
 bif ieq x.at' 7 then AK t n x st s else
 bif ieq x.at' 8 then AM t n x st s else
 bif ieq x.at' 9 then AN t n x st s else .pre False (.ret default)
def s5(t n:Int)(x:DOS)(st:STS)(s:MS):DqO:=(dqT t n x st s).val
def SS(t n:Int)(x:DOS)(st:STS)(s:MS):Prop:=(dqT t n x st s).ok
theorem GI(t n:Int)(x:DOS)(st:STS)(s:MS)(K:AVal→aC Ob→Prop)(h:(dqT t n x st s).run (fun y=>(DqO.fin t n y).run K)):cT' 104 [.ptr 0 0,.ptr 2 0] (tM t n x st s) K:=by
 unfold dqT at h
 by_cases e:x.at'=0
 ·rw [e]at h;have h:(AD t n x st s).run _:=h;refine aGL (root:=0) (pos:=[10,11,12,13,14,15,16,17,18]) (cs:=[(.cell 1 4,.ints (some .i64))]) (parse:=vP t n) (fin:=DqO.fin t n) lA ((aS.unpack (.doer t n x) 0 1 (eQ t n x) [1] rfl (congrArg (Prod.mk 1) (pX e)) (by kernel_rfl) rfl).trans (aS.unpack (.store t n st) 1 0 (dL t n st) [] rfl rfl rfl rfl)) ?_
  have q:=IB t n x st s _ h;rw [←e]at q;exact q
 rw [bK e]at h
 by_cases e:x.at'=1
 ·rw [e]at h;have h:(AE t n x st s).run _:=h;refine aGL (root:=0) (pos:=[10,11,12,13,14,15,16,17,18]) (cs:=[(.cell 1 4,.ints (some .i64))]) (parse:=vP t n) (fin:=DqO.fin t n) lA ((aS.unpack (.doer t n x) 0 1 (dJ t n x) [1] rfl (congrArg (Prod.mk 1) (tD e)) (by kernel_rfl) rfl).trans (aS.unpack (.store t n st) 1 0 (dL t n st) [] rfl rfl rfl rfl)) ?_
  have q:=IC t n x st s _ h;rw [←e]at q;exact q
 rw [bK e]at h
 by_cases e:x.at'=2
 ·rw [e]at h;have h:(AF t n x st s).run _:=h;refine aGL (root:=0) (pos:=[10,11,12,13,14,15,16,17,18]) (cs:=[(.cell 1 4,.ints (some .i64))]) (parse:=vP t n) (fin:=DqO.fin t n) lA ((aS.unpack (.doer t n x) 0 1 (fQ t n x) [1] rfl (congrArg (Prod.mk 1) (tE e)) (by kernel_rfl) rfl).trans (aS.unpack (.store t n st) 1 0 (dL t n st) [] rfl rfl rfl rfl)) ?_
  have q:=ID t n x st s _ h;rw [←e]at q;exact q
 rw [bK e]at h
 by_cases e:x.at'=3
 ·rw [e]at h;have h:(AG t n x st s).run _:=h;refine aGL (root:=0) (pos:=[10,11,12,13,14,15,16,17,18]) (cs:=[(.cell 1 4,.ints (some .i64))]) (parse:=vP t n) (fin:=DqO.fin t n) lA ((aS.unpack (.doer t n x) 0 1 (fS t n x) [1] rfl (congrArg (Prod.mk 1) (tF e)) (by kernel_rfl) rfl).trans (aS.unpack (.store t n st) 1 0 (dL t n st) [] rfl rfl rfl rfl)) ?_
  have q:=IE t n x st s _ h;rw [←e]at q;exact q
 rw [bK e]at h
 by_cases e:x.at'=4
 ·rw [e]at h;have h:(AH t n x st s).run _:=h;refine aGL (root:=0) (pos:=[10,11,12,13,14,15,16,17,18]) (cs:=[(.cell 1 4,.ints (some .i64))]) (parse:=vP t n) (fin:=DqO.fin t n) lA ((aS.unpack (.doer t n x) 0 1 (fN t n x) [1] rfl (congrArg (Prod.mk 1) (tG e)) (by kernel_rfl) rfl).trans (aS.unpack (.store t n st) 1 0 (dL t n st) [] rfl rfl rfl rfl)) ?_
  have q:=IF t n x st s _ h;rw [←e]at q;exact q
 rw [bK e]at h
 by_cases e:x.at'=5
 ·rw [e]at h;have h:(AI t n x st s).run _:=h;refine aGL (root:=0) (pos:=[10,11,12,13,14,15,16,17,18]) (cs:=[(.cell 1 4,.ints (some .i64))]) (parse:=vP t n) (fin:=DqO.fin t n) lA ((aS.unpack (.doer t n x) 0 1 (dJ t n x) [1] rfl (congrArg (Prod.mk 1) (tH e)) (by kernel_rfl) rfl).trans (aS.unpack (.store t n st) 1 0 (dL t n st) [] rfl rfl rfl rfl)) ?_
  have q:=IG t n x st s _ h;rw [←e]at q;exact q
 rw [bK e]at h
 by_cases e:x.at'=6
 ·rw [e]at h;have h:(AJ t n x st s).run _:=h;refine aGL (root:=0) (pos:=[10,11,12,13,14,15,16,17,18]) (cs:=[(.cell 1 4,.ints (some .i64))]) (parse:=vP t n) (fin:=DqO.fin t n) lA ((aS.unpack (.doer t n x) 0 1 (fO t n x) [1] rfl (congrArg (Prod.mk 1) (tI e)) (by kernel_rfl) rfl).trans (aS.unpack (.store t n st) 1 0 (dL t n st) [] rfl rfl rfl rfl)) ?_
  have q:=IH t n x st s _ h;rw [←e]at q;exact q
 rw [bK e]at h
 by_cases e:x.at'=7
 ·rw [e]at h;have h:(AK t n x st s).run _:=h;refine aGL (root:=0) (pos:=[10,11,12,13,14,15,16,17,18]) (cs:=[(.cell 1 4,.ints (some .i64))]) (parse:=vP t n) (fin:=DqO.fin t n) lA ((aS.unpack (.doer t n x) 0 1 (fR t n x) [1] rfl (congrArg (Prod.mk 1) (tJ e)) (by kernel_rfl) rfl).trans (aS.unpack (.store t n st) 1 0 (dL t n st) [] rfl rfl rfl rfl)) ?_
  have q:=II t n x st s _ h;rw [←e]at q;exact q
 rw [bK e]at h
 by_cases e:x.at'=8
 ·rw [e]at h;have h:(AM t n x st s).run _:=h;refine aGL (root:=0) (pos:=[10,11,12,13,14,15,16,17,18]) (cs:=[(.cell 1 4,.ints (some .i64))]) (parse:=vP t n) (fin:=DqO.fin t n) lA ((aS.unpack (.doer t n x) 0 1 (fP t n x) [1] rfl (congrArg (Prod.mk 1) (tK e)) (by kernel_rfl) rfl).trans (aS.unpack (.store t n st) 1 0 (dL t n st) [] rfl rfl rfl rfl)) ?_
  have q:=IJ t n x st s _ h;rw [←e]at q;exact q
 rw [bK e]at h
 by_cases e:x.at'=9
 ·rw [e]at h;have h:(AN t n x st s).run _:=h;refine aGL (root:=0) (pos:=[10,11,12,13,14,15,16,17,18]) (cs:=[(.cell 1 4,.ints (some .i64))]) (parse:=vP t n) (fin:=DqO.fin t n) lA ((aS.unpack (.doer t n x) 0 1 (fT t n x) [1] rfl (congrArg (Prod.mk 1) (tL e)) (by kernel_rfl) rfl).trans (aS.unpack (.store t n st) 1 0 (dL t n st) [] rfl rfl rfl rfl)) ?_
  have q:=IK t n x st s _ h;rw [←e]at q;exact q
 rw [bK e]at h;exact h.1.elim
noncomputable def dqSA:aI Ob:=fun args h=>match args,h with
 | [.ptr 0 0,.ptr 2 0],[some (.abs (.doer t n x) [1]),some (.abs (.store t2 n2 st) []),e3,e4]=>(match cO 3 [e3,e4]with
   | some (l,s)=>some (.pre ((l=s.xs.length∧t2=t∧n2=n)∧SS t n x st s) (DqO.fin t n (s5 t n x st s)))
   | none=>none)
 | _,_=>none
theorem Z8:sT' 104 dqSA:=by
 intro args h o ho K hK;unfold dqSA at ho;split at ho
 case h_2=>cases ho
 split at ho<;>cases ho
 rename_i hm;obtain⟨⟨⟨hl,rfl,rfl⟩,ok⟩,hK⟩:=hK;have hh:=bD hm hl;cases hh;exact GI _ _ _ _ _ K (aGR ok hK)
def DqO.finB(t n:Int)(y:DqO):Out Ob:=.ite y.d (.ret (.bool true) ([cE' [.ptr 1 0,.I y.x.code,.bool y.x.okk,.I y.x.val,.bool y.x.slow,.I y.x.sh,.I y.x.kd,.I y.x.ky,.I y.x.limit,.I y.x.at',.O,.O,.O,.O,.O,.O,.O,.O,.O],iY 5 t n y.st,none,bE 4 y.s,bF y.s,iZ y.st])) (.ret (.bool false) [some (.abs (.doer t n y.x) [1]),iY 5 t n y.st,none,bE 4 y.s,bF y.s,iZ y.st])
noncomputable def dqSB:aI Ob:=fun args h=>match args,h with
 | [.ptr 0 0,.ptr 3 0],[some (.abs (.doer t n x) [1]),e1,e2,e3,e4]=>(match lK 2 [e1,e2],cO 4 [e3,e4]with
   | some (l2,t2,n2,st),some (l,s)=>some (.pre ((l=s.xs.length∧l2=st.R.length∧t2=t∧n2=n)∧SS t n x st s) (DqO.finB t n (s5 t n x st s)))
   | _,_=>none)
 | _,_=>none
theorem Z9:sT' 104 dqSB:=by
 intro args h o ho K hK;unfold dqSB at ho;split at ho
 case h_2=>cases ho
 split at ho<;>cases ho
 rename_i hs hm;obtain⟨⟨⟨hl,hl2,rfl,rfl⟩,ok⟩,hK⟩:=hK;have hh:=bD hm hl;cases hh;have hh:=cH hs hl2;cases hh;exact jR (fun ι hι=>by simp [aH.ren,aGY,AVal.ren,hι]) (fun ι hι=>by simp [aH.ren,hι]) (fun K hK=>GI _ _ _ _ _ K (aGR ok hK)) K hK
noncomputable def dqS:aI Ob:=aI.or dqSA dqSB
theorem aDg:sT' 104 dqS:=aG9 Z8 Z9
def ZW(t n:Int)(v:AVal)(g:aC Ob):Option (Prop×(DOS×STS)):=match v,g with
 | .ptr 2 0,[e1,e2,some (.cells [.ptr 0 0,.int .i64 code,.bool okk,.int .i64 val,.bool slow,.int .i64 sh,.int .i64 kd,.int .i64 ky,.int .i64 limit,.int .i64 at',.ptr 3 0,.O,.O,.O,.O,.O,.O,.O,.O]),some (.abs (.head t' n' sub) [])]=>(match lK 1 [e1,e2]with
   | some (l2,t2,n2,st)=>some ((t2=t∧n2=n∧l2=st.R.length)∧t'=t∧n'=n∧at'=0,⟨(⟨code,okk,val,slow,sh,kd,ky,limit,at',sub,bU,aX,bR,⟨0,0,0,0,false,0⟩,⟨0,false,0,0⟩,aR,⟨0,0⟩,bN⟩:DOS),st⟩)
   | none=>none)
 | _,_=>none
abbrev SQ(t n:Int)(y:(DOS×STS)):aC Ob:=[iY 1 t n y.2,iZ y.2,some (.abs (.doer t n y.1) [0])]
theorem SR{t n:Int} :bV (obI tbl) 2 (ZW t n) (fun y=>.ret (.ptr 2 0) (SQ t n y)):=by
 intro v g p x hp hq K hK;unfold ZW at hp;split at hp
 case h_2=>cases hp
 rename_i e1 e2 code okk val slow sh kd ky limit at' t' n' sub;split at hp
 case h_2=>cases hp
 rename_i l2 t2 n2 st hs;simp only [sI',pI']at hp;obtain⟨rfl,rfl⟩:=hp;obtain⟨⟨rfl,rfl,hl2⟩,rfl,rfl,hat⟩:=hq;have hh:=cH hs hl2;cases hh;exact let X0:DOS:=⟨code,okk,val,slow,sh,kd,ky,limit,at',sub,bU,aX,bR,⟨0,0,0,0,false,0⟩,⟨0,false,0,0⟩,aR,⟨0,0⟩,bN⟩;⟨⟨_,_,aF.pack (SQ t' n' (X0,st)) (.doer t' n' X0) 2 1 (eQ t' n' X0) [0] (by kernel_rfl) rfl (congrArg (Prod.mk 1) (pX hat)) (by kernel_rfl),hK⟩⟩
def MB(t n:Int)(sh kd ky lim:Int)(st:STS):Tr (DOS×STS):=.pre (OA t n∧True) (.pre ((t=t∧n=n∧lE' st.3)∧t=t∧n=n∧(0:Int)=(0:Int)) (.ret ({code:=0,okk:=false,val:=0,slow:=false,sh:=sh,kd:=kd,ky:=ky,limit:=lim,at':=0,hd:=aBg t n,hp:=bU,en:=aX,ft:=bR,an:=d5,aw:=d6,fn:=aR,dr:=fC,sw:=bN},st)))
def dqNF(t n:Int)(sh kd ky lim:Int)(st:STS):(DOS×STS):=(MB t n sh kd ky lim st).val
def MA(t n:Int)(sh kd ky lim:Int)(st:STS):Prop:=(MB t n sh kd ky lim st).ok
def dqNS:aI Ob:=fun args h=>match args,h with
 | [.ptr 0 0,.agg [.int .i64 sh,.int .i64 kd,.int .i64 ky],.int .i64 lim],[e1,e2]=>(match lK 1 [e1,e2]with
   | some (l2,t,n,st)=>some (.pre (l2=st.R.length∧MA t n sh kd ky lim st) (.ret (.ptr 2 0) (SQ t n (dqNF t n sh kd ky lim st))))
   | none=>none)
 | _,_=>none
theorem D7:sT' 103 dqNS:=by
 intro args h o ho K hK;unfold dqNS at ho;split at ho
 case h_2=>cases ho
 rename_i sh kd ky lim e1 e2;split at ho<;>cases ho
 rename_i l2 t n st hs;obtain⟨⟨hl2,ok⟩,hK⟩:=hK;have hh:=cH hs hl2;cases hh;refine aGX (root:=2) (pos:=[10,11,12,13,14,15,16,17,18]) (cs:=[]) (parse:=ZW t n) SR ?_;exact cM' (E:=EH) (q:=(MB t n sh kd ky lim st).run (fun y=>(Out.ret (.ptr 2 0) (SQ t n y)).run K)) (by kernel_rfl) (aGR ok hK)
noncomputable def ED:=((EH.addS 104 dqS aDg).addS 103 dqNS D7)
instance:Inhabited STS:=⟨⟨0,0,[]⟩⟩
instance:Inhabited WKS:=⟨⟨0,0,⟨0,0,[]⟩,[],0,false,eB,[],[]⟩⟩
def a8(ws:List WKS)(i:Nat):WKS:=ws.getD i default
def cQ(ws:List WKS)(i:Nat)(w:WKS):List WKS:=ws.set i w
theorem C9{ws:List WKS}{i:Nat}(h:i<ws.length):(ws.map fun w=>some (Mc.worker w))[i]? =some (some (.worker (a8 ws i))):=by
 unfold a8;simp only [List.getElem?_map,gD'];rw [gE' h];rfl
theorem K2(ws:List WKS)(i:Nat)(w:WKS):(cQ ws i w).map (fun w=>some (Mc.worker w))=(ws.map fun w=>some (Mc.worker w)).set i (some (.worker w)):=by
 unfold cQ;simp [List.map_set]
def RKW:iT tbl where
 R:=List WKS
 row:=.wrow
 hole:=.whole
 els:=fun ws=>ws.map fun w=>some (.worker w)
 len:=List.length
 upd:=fun ws i t=>match t with
  | .worker w=>some (cQ ws i w)
  | _=>none
 isRow:=fun t=>match t with
  | .wrow ws=>some ws
  | _=>none
 isHole:=fun t=>match t with
  | .whole ws i=>some (ws,i)
  | _=>none
 is:=fun _ _=>true
 get:=fun ws i=>.worker (a8 ws i)
 isRow_eq:=by
  intro t r h;cases t<;>first | (cases h;rfl) | cases h
 isHole_eq:=by
  intro t r i h;cases t<;>first | (cases h;rfl) | cases h
 len_eq:=fun r=>by simp
 upd_eq:=by
  intro r i t r' h;cases t with
  | worker w=>cases h;exact K2 r i w
  | _=>cases h
 is_true:=by
  intro r i _ h;exact C9 h
 is_false:=by intro r i h;cases h
 tbRow:=fun r=>rfl
 tbHole:=fun r i=>rfl
theorem aF.back{n l i k:Nat}{ws:List WKS}{w:WKS}{v:AVal}{g:aC Ob}(hl:aO g l=some (.abs (.whole ws i) [k]))(hk:aO g k=some (.abs (.worker w) []))(hkl:k≠l)(hi:i<ws.length):
 aF (obI tbl) n v g v ((g.set l (some (.abs (.wrow (cQ ws i w)) []))).set k none):=by
 intro V hR w' x h1 h2 h3 h4;refine⟨V,fun _ _ _ h=>h,?_,by simpa using h3,h4,?_⟩
 ·intro m hm;exact h2 m (by simpa using hm)
 ·exact h1.back RKW (ws:=ws) (ws':=cQ ws i w) rfl hl hk hkl hi
def dqNAS:aI Ob:=fun args h=>match args,h with
 | [.ptr 0 0,.agg [.int .i64 sh,.int .i64 kd,.int .i64 ky],.int .i64 lim],[some (.abs (.store t n st) [])]=>some (.pre (MA t n sh kd ky lim st) (.ret (.ptr 1 0) [some (.abs (.store t n (dqNF t n sh kd ky lim st).2) []),some (.abs (.doer t n (dqNF t n sh kd ky lim st).1) [0])]))
 | _,_=>none
theorem SP:sT' 103 dqNAS:=by
 intro args h o ho K hK;unfold dqNAS at ho;split at ho<;>cases ho
 rename_i sh kd ky lim t n st;obtain⟨ok,hK⟩:=hK;refine aGZ ?_;refine aGU (h2:=[iY 1 t n st,iZ st]) (aS.unpack (.store t n st) 0 0 (dL t n st) [] rfl rfl rfl rfl) ?_;refine D7 [.ptr 0 0,.agg [.I sh,.I kd,.I ky],.I lim] [iY 1 t n st,iZ st] _ rfl _ ⟨⟨rfl,ok⟩,?_⟩;generalize dqNF t n sh kd ky lim st=y at hK⊢;have hK:K (.ptr 1 0) [some (.abs (.store t n y.2) []),some (.abs (.doer t n y.1) [0])]:=hK;exact⟨⟨_,_,(aF.pick [0,2,1] rfl).trans ((aGQ (v2:=.ptr 1 0) (g2:=aM [some (.abs (.store t n y.2) []),some (.abs (.doer t n y.1) [0])] 0 0 (dL t n y.2) []) (by kernel_rfl) (by kernel_rfl)).trans (aF.pack [some (.abs (.store t n y.2) []),some (.abs (.doer t n y.1) [0])] (.store t n y.2) 0 0 (dL t n y.2) [] rfl rfl rfl (by kernel_rfl))),hK⟩⟩
noncomputable def EN0:= {ED.addS 103 (aI.or dqNS dqNAS) (aG9 D7 SP)with row:=RKW.ops Tryz.prog,rowOk:=RKW.ops_ok}
instance:Inhabited (Int×HST):=⟨(0,default)⟩
def oF(v:AVal)(g:aC Ob):Option (Prop×(Int×HST)):=match v,g with
 | .int .i64 c,[some (.cells [.tslice 1 0 a 7,.tslice 2 0 b 9,.int .i64 n0,.int .i64 n1,.int .i64 n2,.int .i64 n3,.int .i64 n4,.int .i64 n5,.int .i64 n6,.int .i64 n7]),some (.tab [some .i64,none,some .i64,some .i64,some .i64,none,some .i64] ev),some (.tab [some .i64,some .i64,some .i64,some .i64,some .i64,some .i64,some .i64,none,some .i64] cl)]=>some (a=ev.length∧b=cl.length,(c,⟨ev,cl,n0,n1,n2,n3,n4,n5,n6,n7⟩))
 | _,_=>none
def hnP(v:AVal)(g:aC Ob):Option (Prop×HST):=match v,g with
 | .ptr 0 0,[some (.cells [.tslice 1 0 a 7,.tslice 2 0 b 9,.int .i64 n0,.int .i64 n1,.int .i64 n2,.int .i64 n3,.int .i64 n4,.int .i64 n5,.int .i64 n6,.int .i64 n7]),some (.tab [some .i64,none,some .i64,some .i64,some .i64,none,some .i64] ev),some (.tab [some .i64,some .i64,some .i64,some .i64,some .i64,some .i64,some .i64,none,some .i64] cl)]=>some (a=ev.length∧b=cl.length,⟨ev,cl,n0,n1,n2,n3,n4,n5,n6,n7⟩)
 | _,_=>none
theorem fL:bV (obI tbl) 1 oF (fun y=>.ret (.I y.1) [some (.abs (.hist y.2) [])]):=by
 intro v g p x hp hq K hK;unfold oF at hp;split at hp
 case h_2=>cases hp
 rename_i c a b n0 n1 n2 n3 n4 n5 n6 n7 ev cl;simp only [sI',pI']at hp;obtain⟨rfl,rfl⟩:=hp;obtain⟨rfl,rfl⟩:=hq;have hK:K (.I c) [some (.abs (.hist ⟨ev,cl,n0,n1,n2,n3,n4,n5,n6,n7⟩) [])]:=hK;exact⟨⟨_,_,aF.pack [some (.abs (.hist ⟨ev,cl,n0,n1,n2,n3,n4,n5,n6,n7⟩) [])] (.hist ⟨ev,cl,n0,n1,n2,n3,n4,n5,n6,n7⟩) 0 0 (pP ⟨ev,cl,n0,n1,n2,n3,n4,n5,n6,n7⟩) [] (by kernel_rfl) rfl rfl (by kernel_rfl),hK⟩⟩
theorem aBp:bV (obI tbl) 0 hnP (fun y=>.ret (.ptr 0 0) [some (.abs (.hist y) [])]):=by
 intro v g p x hp hq K hK;unfold hnP at hp;split at hp
 case h_2=>cases hp
 rename_i a b n0 n1 n2 n3 n4 n5 n6 n7 ev cl;simp only [sI',pI']at hp;obtain⟨rfl,rfl⟩:=hp;obtain⟨rfl,rfl⟩:=hq;have hK:K (.ptr 0 0) [some (.abs (.hist ⟨ev,cl,n0,n1,n2,n3,n4,n5,n6,n7⟩) [])]:=hK;exact⟨⟨_,_,aF.pack [some (.abs (.hist ⟨ev,cl,n0,n1,n2,n3,n4,n5,n6,n7⟩) [])] (.hist ⟨ev,cl,n0,n1,n2,n3,n4,n5,n6,n7⟩) 0 0 (pP ⟨ev,cl,n0,n1,n2,n3,n4,n5,n6,n7⟩) [] (by kernel_rfl) rfl rfl (by kernel_rfl),hK⟩⟩
def hnT:Tr HST:=.pre (0=0∧0=0) (.ret {ev:=[],cl:=[],n0:=0,n1:=0,n2:=0,n3:=0,n4:=0,n5:=0,n6:=0,n7:=0})
def hnS:aI Ob:=fun args h=>match args,h with
 | [],[]=>some (.pre True (.ret (.ptr 0 0) [some (.abs (.hist ⟨[],[],0,0,0,0,0,0,0,0⟩) [])]))
 | _,_=>none
theorem aEb:sT' 81 hnS:=by
 intro args h o ho K hK;unfold hnS at ho;split at ho
 case h_2=>cases ho
 simp only [sI']at ho;subst ho;obtain⟨ok,hK⟩:=hK;refine aGX (root:=0) (pos:=[]) (cs:=[(.cell 0 0,.tab cK7),(.cell 0 1,.tab cK9)]) (parse:=hnP) aBp ?_;exact cM' (E:=EN0) (q:=hnT.run (fun y=>(Out.ret (.ptr 0 0) [some (.abs (.hist y) [])]).run K)) (by kernel_rfl) (aGR (by simp [Tr.ok,hnT]) hK)
abbrev w2g(x:HST):=List.length x.1
abbrev w2h(x:HST):=List.length x.2
abbrev w2i(x:HST):=x.2.length+1
def BN(x:HST)(kd ky:Int):Tr (Int×HST):=.pre ((0:Int)≤(0:Int)∧(0:Int)<(↑8:Int)) (.ite (ilt 0 x.3) (.pre (lE' x.1∧lE' x.2) (.ret (1,x))) (.pre (0=0∧lE' x.2∧x.2.length+(1:Nat)≤(4294967296:Nat)) (.pre (0=0∧lE' x.1∧x.1.length+(1:Nat)≤(4294967296:Nat)) (.pre ((0:Int)≤(0:Int)∧(0:Int)<(↑8:Int)) (.pre (x.1.length+(1:Nat)=List.length (x.1++ [[0,0,kd,ky,0,0,0]])∧x.2.length+(1:Nat)=List.length (x.2++ [[(↑(w2g x):Int),(-1:Int),(↑(w2h x):Int),0,kd,ky,0,0,0]])) (.ret (0,{x with ev:=x.1++ [[0,0,kd,ky,0,0,0]],cl:=x.2++ [[(↑(w2g x):Int),(-1:Int),(↑(w2h x):Int),0,kd,ky,0,0,0]],n0:=(↑(w2i x):Int)})))))))
theorem UI(x:HST)(kd ky:Int)(K:Int×HST→Prop)(h:(BN x kd ky).run K):cT' 70 [.ptr 0 0,.I 0,.agg [.I kd,.I ky]] [cE' [.tslice 1 0 x.ev.length 7,.tslice 2 0 x.cl.length 9,.I x.n0,.I x.n1,.I x.n2,.I x.n3,.I x.n4,.I x.n5,.I x.n6,.I x.n7],some (.tab cK7 x.ev),some (.tab cK9 x.cl)] (bP 1 0 [] [] oF K):=by
 exact cM' (E:=EN0) (by kernel_rfl) h
def BO(x:HST)(kd ky:Int):Tr (Int×HST):=.pre ((0:Int)≤(1:Int)∧(1:Int)<(↑8:Int)) (.ite (ilt 0 x.4) (.pre (lE' x.1∧lE' x.2) (.ret (1,x))) (.pre (0=0∧lE' x.2∧x.2.length+(1:Nat)≤(4294967296:Nat)) (.pre (0=0∧lE' x.1∧x.1.length+(1:Nat)≤(4294967296:Nat)) (.pre ((0:Int)≤(1:Int)∧(1:Int)<(↑8:Int)) (.pre (x.1.length+(1:Nat)=List.length (x.1++ [[1,0,kd,ky,0,0,0]])∧x.2.length+(1:Nat)=List.length (x.2++ [[(↑(w2g x):Int),(-1:Int),(↑(w2h x):Int),1,kd,ky,0,0,0]])) (.ret (0,{x with ev:=x.1++ [[1,0,kd,ky,0,0,0]],cl:=x.2++ [[(↑(w2g x):Int),(-1:Int),(↑(w2h x):Int),1,kd,ky,0,0,0]],n1:=(↑(w2i x):Int)})))))))
theorem UJ(x:HST)(kd ky:Int)(K:Int×HST→Prop)(h:(BO x kd ky).run K):cT' 70 [.ptr 0 0,.I 1,.agg [.I kd,.I ky]] [cE' [.tslice 1 0 x.ev.length 7,.tslice 2 0 x.cl.length 9,.I x.n0,.I x.n1,.I x.n2,.I x.n3,.I x.n4,.I x.n5,.I x.n6,.I x.n7],some (.tab cK7 x.ev),some (.tab cK9 x.cl)] (bP 1 0 [] [] oF K):=by
 exact cM' (E:=EN0) (by kernel_rfl) h
def BP(x:HST)(kd ky:Int):Tr (Int×HST):=.pre ((0:Int)≤(2:Int)∧(2:Int)<(↑8:Int)) (.ite (ilt 0 x.5) (.pre (lE' x.1∧lE' x.2) (.ret (1,x))) (.pre (0=0∧lE' x.2∧x.2.length+(1:Nat)≤(4294967296:Nat)) (.pre (0=0∧lE' x.1∧x.1.length+(1:Nat)≤(4294967296:Nat)) (.pre ((0:Int)≤(2:Int)∧(2:Int)<(↑8:Int)) (.pre (x.1.length+(1:Nat)=List.length (x.1++ [[2,0,kd,ky,0,0,0]])∧x.2.length+(1:Nat)=List.length (x.2++ [[(↑(w2g x):Int),(-1:Int),(↑(w2h x):Int),2,kd,ky,0,0,0]])) (.ret (0,{x with ev:=x.1++ [[2,0,kd,ky,0,0,0]],cl:=x.2++ [[(↑(w2g x):Int),(-1:Int),(↑(w2h x):Int),2,kd,ky,0,0,0]],n2:=(↑(w2i x):Int)})))))))
theorem UK(x:HST)(kd ky:Int)(K:Int×HST→Prop)(h:(BP x kd ky).run K):cT' 70 [.ptr 0 0,.I 2,.agg [.I kd,.I ky]] [cE' [.tslice 1 0 x.ev.length 7,.tslice 2 0 x.cl.length 9,.I x.n0,.I x.n1,.I x.n2,.I x.n3,.I x.n4,.I x.n5,.I x.n6,.I x.n7],some (.tab cK7 x.ev),some (.tab cK9 x.cl)] (bP 1 0 [] [] oF K):=by
 exact cM' (E:=EN0) (by kernel_rfl) h
def BQ(x:HST)(kd ky:Int):Tr (Int×HST):=.pre ((0:Int)≤(3:Int)∧(3:Int)<(↑8:Int)) (.ite (ilt 0 x.6) (.pre (lE' x.1∧lE' x.2) (.ret (1,x))) (.pre (0=0∧lE' x.2∧x.2.length+(1:Nat)≤(4294967296:Nat)) (.pre (0=0∧lE' x.1∧x.1.length+(1:Nat)≤(4294967296:Nat)) (.pre ((0:Int)≤(3:Int)∧(3:Int)<(↑8:Int)) (.pre (x.1.length+(1:Nat)=List.length (x.1++ [[3,0,kd,ky,0,0,0]])∧x.2.length+(1:Nat)=List.length (x.2++ [[(↑(w2g x):Int),(-1:Int),(↑(w2h x):Int),3,kd,ky,0,0,0]])) (.ret (0,{x with ev:=x.1++ [[3,0,kd,ky,0,0,0]],cl:=x.2++ [[(↑(w2g x):Int),(-1:Int),(↑(w2h x):Int),3,kd,ky,0,0,0]],n3:=(↑(w2i x):Int)})))))))
theorem UL(x:HST)(kd ky:Int)(K:Int×HST→Prop)(h:(BQ x kd ky).run K):cT' 70 [.ptr 0 0,.I 3,.agg [.I kd,.I ky]] [cE' [.tslice 1 0 x.ev.length 7,.tslice 2 0 x.cl.length 9,.I x.n0,.I x.n1,.I x.n2,.I x.n3,.I x.n4,.I x.n5,.I x.n6,.I x.n7],some (.tab cK7 x.ev),some (.tab cK9 x.cl)] (bP 1 0 [] [] oF K):=by
 exact cM' (E:=EN0) (by kernel_rfl) h
def BR(x:HST)(kd ky:Int):Tr (Int×HST):=.pre ((0:Int)≤(4:Int)∧(4:Int)<(↑8:Int)) (.ite (ilt 0 x.7) (.pre (lE' x.1∧lE' x.2) (.ret (1,x))) (.pre (0=0∧lE' x.2∧x.2.length+(1:Nat)≤(4294967296:Nat)) (.pre (0=0∧lE' x.1∧x.1.length+(1:Nat)≤(4294967296:Nat)) (.pre ((0:Int)≤(4:Int)∧(4:Int)<(↑8:Int)) (.pre (x.1.length+(1:Nat)=List.length (x.1++ [[4,0,kd,ky,0,0,0]])∧x.2.length+(1:Nat)=List.length (x.2++ [[(↑(w2g x):Int),(-1:Int),(↑(w2h x):Int),4,kd,ky,0,0,0]])) (.ret (0,{x with ev:=x.1++ [[4,0,kd,ky,0,0,0]],cl:=x.2++ [[(↑(w2g x):Int),(-1:Int),(↑(w2h x):Int),4,kd,ky,0,0,0]],n4:=(↑(w2i x):Int)})))))))
theorem UM(x:HST)(kd ky:Int)(K:Int×HST→Prop)(h:(BR x kd ky).run K):cT' 70 [.ptr 0 0,.I 4,.agg [.I kd,.I ky]] [cE' [.tslice 1 0 x.ev.length 7,.tslice 2 0 x.cl.length 9,.I x.n0,.I x.n1,.I x.n2,.I x.n3,.I x.n4,.I x.n5,.I x.n6,.I x.n7],some (.tab cK7 x.ev),some (.tab cK9 x.cl)] (bP 1 0 [] [] oF K):=by
 exact cM' (E:=EN0) (by kernel_rfl) h
def BS(x:HST)(kd ky:Int):Tr (Int×HST):=.pre ((0:Int)≤(5:Int)∧(5:Int)<(↑8:Int)) (.ite (ilt 0 x.8) (.pre (lE' x.1∧lE' x.2) (.ret (1,x))) (.pre (0=0∧lE' x.2∧x.2.length+(1:Nat)≤(4294967296:Nat)) (.pre (0=0∧lE' x.1∧x.1.length+(1:Nat)≤(4294967296:Nat)) (.pre ((0:Int)≤(5:Int)∧(5:Int)<(↑8:Int)) (.pre (x.1.length+(1:Nat)=List.length (x.1++ [[5,0,kd,ky,0,0,0]])∧x.2.length+(1:Nat)=List.length (x.2++ [[(↑(w2g x):Int),(-1:Int),(↑(w2h x):Int),5,kd,ky,0,0,0]])) (.ret (0,{x with ev:=x.1++ [[5,0,kd,ky,0,0,0]],cl:=x.2++ [[(↑(w2g x):Int),(-1:Int),(↑(w2h x):Int),5,kd,ky,0,0,0]],n5:=(↑(w2i x):Int)})))))))
theorem UN(x:HST)(kd ky:Int)(K:Int×HST→Prop)(h:(BS x kd ky).run K):cT' 70 [.ptr 0 0,.I 5,.agg [.I kd,.I ky]] [cE' [.tslice 1 0 x.ev.length 7,.tslice 2 0 x.cl.length 9,.I x.n0,.I x.n1,.I x.n2,.I x.n3,.I x.n4,.I x.n5,.I x.n6,.I x.n7],some (.tab cK7 x.ev),some (.tab cK9 x.cl)] (bP 1 0 [] [] oF K):=by
 exact cM' (E:=EN0) (by kernel_rfl) h
def BT(x:HST)(kd ky:Int):Tr (Int×HST):=.pre ((0:Int)≤(6:Int)∧(6:Int)<(↑8:Int)) (.ite (ilt 0 x.9) (.pre (lE' x.1∧lE' x.2) (.ret (1,x))) (.pre (0=0∧lE' x.2∧x.2.length+(1:Nat)≤(4294967296:Nat)) (.pre (0=0∧lE' x.1∧x.1.length+(1:Nat)≤(4294967296:Nat)) (.pre ((0:Int)≤(6:Int)∧(6:Int)<(↑8:Int)) (.pre (x.1.length+(1:Nat)=List.length (x.1++ [[6,0,kd,ky,0,0,0]])∧x.2.length+(1:Nat)=List.length (x.2++ [[(↑(w2g x):Int),(-1:Int),(↑(w2h x):Int),6,kd,ky,0,0,0]])) (.ret (0,{x with ev:=x.1++ [[6,0,kd,ky,0,0,0]],cl:=x.2++ [[(↑(w2g x):Int),(-1:Int),(↑(w2h x):Int),6,kd,ky,0,0,0]],n6:=(↑(w2i x):Int)})))))))
theorem UO(x:HST)(kd ky:Int)(K:Int×HST→Prop)(h:(BT x kd ky).run K):cT' 70 [.ptr 0 0,.I 6,.agg [.I kd,.I ky]] [cE' [.tslice 1 0 x.ev.length 7,.tslice 2 0 x.cl.length 9,.I x.n0,.I x.n1,.I x.n2,.I x.n3,.I x.n4,.I x.n5,.I x.n6,.I x.n7],some (.tab cK7 x.ev),some (.tab cK9 x.cl)] (bP 1 0 [] [] oF K):=by
 exact cM' (E:=EN0) (by kernel_rfl) h
def BU(x:HST)(kd ky:Int):Tr (Int×HST):=.pre ((0:Int)≤(7:Int)∧(7:Int)<(↑8:Int)) (.ite (ilt 0 x.10) (.pre (lE' x.1∧lE' x.2) (.ret (1,x))) (.pre (0=0∧lE' x.2∧x.2.length+(1:Nat)≤(4294967296:Nat)) (.pre (0=0∧lE' x.1∧x.1.length+(1:Nat)≤(4294967296:Nat)) (.pre ((0:Int)≤(7:Int)∧(7:Int)<(↑8:Int)) (.pre (x.1.length+(1:Nat)=List.length (x.1++ [[7,0,kd,ky,0,0,0]])∧x.2.length+(1:Nat)=List.length (x.2++ [[(↑(w2g x):Int),(-1:Int),(↑(w2h x):Int),7,kd,ky,0,0,0]])) (.ret (0,{x with ev:=x.1++ [[7,0,kd,ky,0,0,0]],cl:=x.2++ [[(↑(w2g x):Int),(-1:Int),(↑(w2h x):Int),7,kd,ky,0,0,0]],n7:=(↑(w2i x):Int) })))))))
theorem UP(x:HST)(kd ky:Int)(K:Int×HST→Prop)(h:(BU x kd ky).run K):cT' 70 [.ptr 0 0,.I 7,.agg [.I kd,.I ky]] [cE' [.tslice 1 0 x.ev.length 7,.tslice 2 0 x.cl.length 9,.I x.n0,.I x.n1,.I x.n2,.I x.n3,.I x.n4,.I x.n5,.I x.n6,.I x.n7],some (.tab cK7 x.ev),some (.tab cK9 x.cl)] (bP 1 0 [] [] oF K):=by
 exact cM' (E:=EN0) (by kernel_rfl) h
def hbT(th:Int)(x:HST)(kd ky:Int):Tr (Int×HST):=
 bif ieq th 0 then BN x kd ky else
 bif ieq th 1 then BO x kd ky else
 bif ieq th 2 then BP x kd ky else
 bif ieq th 3 then BQ x kd ky else
 bif ieq th 4 then BR x kd ky else
 bif ieq th 5 then BS x kd ky else
 bif ieq th 6 then BT x kd ky else
 bif ieq th 7 then BU x kd ky else .pre False (.ret default)
def hbF(th:Int)(x:HST)(kd ky:Int):Int×HST:=(hbT th x kd ky).val
def hbOk(th:Int)(x:HST)(kd ky:Int):Prop:=(hbT th x kd ky).ok
theorem UH(th:Int)(x:HST)(kd ky:Int)(K:AVal→aC Ob→Prop)(h:(hbT th x kd ky).run (fun y=>(Out.ret (.I y.1) [some (.abs (.hist y.2) [])]).run K)):cT' 70 [.ptr 0 0,.I th,.agg [.I kd,.I ky]] [some (.abs (.hist x) [])] K:=by
 unfold hbT at h
 by_cases e:th=0
 ·rw [e]at h;have h:(BN x kd ky).run _:=h;rw [e];exact aGL (root:=0) (pos:=[]) (cs:=[]) (parse:=oF) (fin:=fun y=>.ret (.I y.1) [some (.abs (.hist y.2) [])]) fL (aS.unpack (.hist x) 0 0 (pP x) [] rfl rfl rfl rfl) (UI x kd ky _ h)
 rw [bK e]at h
 by_cases e:th=1
 ·rw [e]at h;have h:(BO x kd ky).run _:=h;rw [e];exact aGL (root:=0) (pos:=[]) (cs:=[]) (parse:=oF) (fin:=fun y=>.ret (.I y.1) [some (.abs (.hist y.2) [])]) fL (aS.unpack (.hist x) 0 0 (pP x) [] rfl rfl rfl rfl) (UJ x kd ky _ h)
 rw [bK e]at h
 by_cases e:th=2
 ·rw [e]at h;have h:(BP x kd ky).run _:=h;rw [e];exact aGL (root:=0) (pos:=[]) (cs:=[]) (parse:=oF) (fin:=fun y=>.ret (.I y.1) [some (.abs (.hist y.2) [])]) fL (aS.unpack (.hist x) 0 0 (pP x) [] rfl rfl rfl rfl) (UK x kd ky _ h)
 rw [bK e]at h
 by_cases e:th=3
 ·rw [e]at h;have h:(BQ x kd ky).run _:=h;rw [e];exact aGL (root:=0) (pos:=[]) (cs:=[]) (parse:=oF) (fin:=fun y=>.ret (.I y.1) [some (.abs (.hist y.2) [])]) fL (aS.unpack (.hist x) 0 0 (pP x) [] rfl rfl rfl rfl) (UL x kd ky _ h)
 rw [bK e]at h
 by_cases e:th=4
 ·rw [e]at h;have h:(BR x kd ky).run _:=h;rw [e];exact aGL (root:=0) (pos:=[]) (cs:=[]) (parse:=oF) (fin:=fun y=>.ret (.I y.1) [some (.abs (.hist y.2) [])]) fL (aS.unpack (.hist x) 0 0 (pP x) [] rfl rfl rfl rfl) (UM x kd ky _ h)
 rw [bK e]at h
 by_cases e:th=5
 ·rw [e]at h;have h:(BS x kd ky).run _:=h;rw [e];exact aGL (root:=0) (pos:=[]) (cs:=[]) (parse:=oF) (fin:=fun y=>.ret (.I y.1) [some (.abs (.hist y.2) [])]) fL (aS.unpack (.hist x) 0 0 (pP x) [] rfl rfl rfl rfl) (UN x kd ky _ h)
 rw [bK e]at h
 by_cases e:th=6
 ·rw [e]at h;have h:(BT x kd ky).run _:=h;rw [e];exact aGL (root:=0) (pos:=[]) (cs:=[]) (parse:=oF) (fin:=fun y=>.ret (.I y.1) [some (.abs (.hist y.2) [])]) fL (aS.unpack (.hist x) 0 0 (pP x) [] rfl rfl rfl rfl) (UO x kd ky _ h)
 rw [bK e]at h
 by_cases e:th=7
 ·rw [e]at h;have h:(BU x kd ky).run _:=h;rw [e];exact aGL (root:=0) (pos:=[]) (cs:=[]) (parse:=oF) (fin:=fun y=>.ret (.I y.1) [some (.abs (.hist y.2) [])]) fL (aS.unpack (.hist x) 0 0 (pP x) [] rfl rfl rfl rfl) (UP x kd ky _ h)
 rw [bK e]at h;exact h.1.elim
def hbS:aI Ob:=fun args h=>match args,h with
 | [.ptr 0 0,.int .i64 th,.agg [.int .i64 kd,.int .i64 ky]],[some (.abs (.hist x) [])]=>some (.pre (hbOk th x kd ky) (.ret (.I (hbF th x kd ky).1) [some (.abs (.hist (hbF th x kd ky).2) [])]))
 | _,_=>none
theorem aD1:sT' 70 hbS:=by
 intro args h o ho K hK;unfold hbS at ho;split at ho
 case h_2=>cases ho
 simp only [sI']at ho;subst ho;obtain⟨ok,hK⟩:=hK;exact UH _ _ _ _ K (aGR ok hK)
abbrev w30(x:HST):=List.length x.1
abbrev w2k(x:HST):=List.set x.2 (0+Int.toNat (W (x.3 - 1))) (bJ 9 (List.getD x.2 (0+Int.toNat (W (x.3 - 1))) []) (0+0+1) [(↑(w30 x):Int)])
abbrev w2r:=(0:Int)≤(0:Int)∧(0:Int)<(↑8:Int)
abbrev w2z(x:HST):=List.length x.2
def BV(x:HST)(code:Int)(okk:Bool)(val:Int):Tr (Int×HST):=.pre w2r (.ite (!ilt 0 x.3) (.pre (lE' x.1∧lE' x.2) (.ret (5,x))) (.pre w2r (.pre ((0:Int)≤W (x.3 - 1)∧W (x.3 - 1)<(↑(w2z x):Int)) (.pre (0+Int.toNat (W (x.3 - 1))<x.2.length) (.pre (0+Int.toNat (W (x.3 - 1))<List.length (w2k x)) (.pre (0=0∧lE' x.1∧x.1.length+(1:Nat)≤(4294967296:Nat)) (.pre w2r (.pre (x.1.length+(1:Nat)=List.length (x.1++ [[0,1,0,0,code,bif okk then 1 else 0,val]])∧x.2.length=List.length (List.set (w2k x) (0+Int.toNat (W (x.3 - 1))) (bJ 9 (List.getD (w2k x) (0+Int.toNat (W (x.3 - 1))) []) (0+6) [code,bif okk then 1 else 0,val]))) (.ret (0,{x with ev:=x.1++ [[0,1,0,0,code,bif okk then 1 else 0,val]],cl:=List.set (w2k x) (0+Int.toNat (W (x.3 - 1))) (bJ 9 (List.getD (w2k x) (0+Int.toNat (W (x.3 - 1))) []) (0+6) [code,bif okk then 1 else 0,val]),n0:=0}))))))))))
theorem UY(x:HST)(code:Int)(okk:Bool)(val:Int)(K:Int×HST→Prop)(h:(BV x code okk val).run K):cT' 98 [.ptr 0 0,.I 0,.agg [.I code,.bool okk,.I val]] [cE' [.tslice 1 0 x.ev.length 7,.tslice 2 0 x.cl.length 9,.I x.n0,.I x.n1,.I x.n2,.I x.n3,.I x.n4,.I x.n5,.I x.n6,.I x.n7],some (.tab cK7 x.ev),some (.tab cK9 x.cl)] (bP 1 0 [] [] oF K):=by
 exact cM' (E:=EN0) (by kernel_rfl) h
abbrev w2l(x:HST):=List.set x.2 (0+Int.toNat (W (x.4 - 1))) (bJ 9 (List.getD x.2 (0+Int.toNat (W (x.4 - 1))) []) (0+0+1) [(↑(w30 x):Int)])
abbrev w2s:=(0:Int)≤(1:Int)∧(1:Int)<(↑8:Int)
def BW(x:HST)(code:Int)(okk:Bool)(val:Int):Tr (Int×HST):=.pre w2s (.ite (!ilt 0 x.4) (.pre (lE' x.1∧lE' x.2) (.ret (5,x))) (.pre w2s (.pre ((0:Int)≤W (x.4 - 1)∧W (x.4 - 1)<(↑(w2z x):Int)) (.pre (0+Int.toNat (W (x.4 - 1))<x.2.length) (.pre (0+Int.toNat (W (x.4 - 1))<List.length (w2l x)) (.pre (0=0∧lE' x.1∧x.1.length+(1:Nat)≤(4294967296:Nat)) (.pre w2s (.pre (x.1.length+(1:Nat)=List.length (x.1++ [[1,1,0,0,code,bif okk then 1 else 0,val]])∧x.2.length=List.length (List.set (w2l x) (0+Int.toNat (W (x.4 - 1))) (bJ 9 (List.getD (w2l x) (0+Int.toNat (W (x.4 - 1))) []) (0+6) [code,bif okk then 1 else 0,val]))) (.ret (0,{x with ev:=x.1++ [[1,1,0,0,code,bif okk then 1 else 0,val]],cl:=List.set (w2l x) (0+Int.toNat (W (x.4 - 1))) (bJ 9 (List.getD (w2l x) (0+Int.toNat (W (x.4 - 1))) []) (0+6) [code,bif okk then 1 else 0,val]),n1:=0}))))))))))
theorem UZ(x:HST)(code:Int)(okk:Bool)(val:Int)(K:Int×HST→Prop)(h:(BW x code okk val).run K):cT' 98 [.ptr 0 0,.I 1,.agg [.I code,.bool okk,.I val]] [cE' [.tslice 1 0 x.ev.length 7,.tslice 2 0 x.cl.length 9,.I x.n0,.I x.n1,.I x.n2,.I x.n3,.I x.n4,.I x.n5,.I x.n6,.I x.n7],some (.tab cK7 x.ev),some (.tab cK9 x.cl)] (bP 1 0 [] [] oF K):=by
 exact cM' (E:=EN0) (by kernel_rfl) h
abbrev w2m(x:HST):=List.set x.2 (0+Int.toNat (W (x.5 - 1))) (bJ 9 (List.getD x.2 (0+Int.toNat (W (x.5 - 1))) []) (0+0+1) [(↑(w30 x):Int)])
abbrev w2t:=(0:Int)≤(2:Int)∧(2:Int)<(↑8:Int)
def BX(x:HST)(code:Int)(okk:Bool)(val:Int):Tr (Int×HST):=.pre w2t (.ite (!ilt 0 x.5) (.pre (lE' x.1∧lE' x.2) (.ret (5,x))) (.pre w2t (.pre ((0:Int)≤W (x.5 - 1)∧W (x.5 - 1)<(↑(w2z x):Int)) (.pre (0+Int.toNat (W (x.5 - 1))<x.2.length) (.pre (0+Int.toNat (W (x.5 - 1))<List.length (w2m x)) (.pre (0=0∧lE' x.1∧x.1.length+(1:Nat)≤(4294967296:Nat)) (.pre w2t (.pre (x.1.length+(1:Nat)=List.length (x.1++ [[2,1,0,0,code,bif okk then 1 else 0,val]])∧x.2.length=List.length (List.set (w2m x) (0+Int.toNat (W (x.5 - 1))) (bJ 9 (List.getD (w2m x) (0+Int.toNat (W (x.5 - 1))) []) (0+6) [code,bif okk then 1 else 0,val]))) (.ret (0,{x with ev:=x.1++ [[2,1,0,0,code,bif okk then 1 else 0,val]],cl:=List.set (w2m x) (0+Int.toNat (W (x.5 - 1))) (bJ 9 (List.getD (w2m x) (0+Int.toNat (W (x.5 - 1))) []) (0+6) [code,bif okk then 1 else 0,val]),n2:=0}))))))))))
theorem U0(x:HST)(code:Int)(okk:Bool)(val:Int)(K:Int×HST→Prop)(h:(BX x code okk val).run K):cT' 98 [.ptr 0 0,.I 2,.agg [.I code,.bool okk,.I val]] [cE' [.tslice 1 0 x.ev.length 7,.tslice 2 0 x.cl.length 9,.I x.n0,.I x.n1,.I x.n2,.I x.n3,.I x.n4,.I x.n5,.I x.n6,.I x.n7],some (.tab cK7 x.ev),some (.tab cK9 x.cl)] (bP 1 0 [] [] oF K):=by
 exact cM' (E:=EN0) (by kernel_rfl) h
abbrev w2n(x:HST):=List.set x.2 (0+Int.toNat (W (x.6 - 1))) (bJ 9 (List.getD x.2 (0+Int.toNat (W (x.6 - 1))) []) (0+0+1) [(↑(w30 x):Int)])
abbrev w2u:=(0:Int)≤(3:Int)∧(3:Int)<(↑8:Int)
def BY(x:HST)(code:Int)(okk:Bool)(val:Int):Tr (Int×HST):=.pre w2u (.ite (!ilt 0 x.6) (.pre (lE' x.1∧lE' x.2) (.ret (5,x))) (.pre w2u (.pre ((0:Int)≤W (x.6 - 1)∧W (x.6 - 1)<(↑(w2z x):Int)) (.pre (0+Int.toNat (W (x.6 - 1))<x.2.length) (.pre (0+Int.toNat (W (x.6 - 1))<List.length (w2n x)) (.pre (0=0∧lE' x.1∧x.1.length+(1:Nat)≤(4294967296:Nat)) (.pre w2u (.pre (x.1.length+(1:Nat)=List.length (x.1++ [[3,1,0,0,code,bif okk then 1 else 0,val]])∧x.2.length=List.length (List.set (w2n x) (0+Int.toNat (W (x.6 - 1))) (bJ 9 (List.getD (w2n x) (0+Int.toNat (W (x.6 - 1))) []) (0+6) [code,bif okk then 1 else 0,val]))) (.ret (0,{x with ev:=x.1++ [[3,1,0,0,code,bif okk then 1 else 0,val]],cl:=List.set (w2n x) (0+Int.toNat (W (x.6 - 1))) (bJ 9 (List.getD (w2n x) (0+Int.toNat (W (x.6 - 1))) []) (0+6) [code,bif okk then 1 else 0,val]),n3:=0}))))))))))
theorem U1(x:HST)(code:Int)(okk:Bool)(val:Int)(K:Int×HST→Prop)(h:(BY x code okk val).run K):cT' 98 [.ptr 0 0,.I 3,.agg [.I code,.bool okk,.I val]] [cE' [.tslice 1 0 x.ev.length 7,.tslice 2 0 x.cl.length 9,.I x.n0,.I x.n1,.I x.n2,.I x.n3,.I x.n4,.I x.n5,.I x.n6,.I x.n7],some (.tab cK7 x.ev),some (.tab cK9 x.cl)] (bP 1 0 [] [] oF K):=by
 exact cM' (E:=EN0) (by kernel_rfl) h
abbrev w2o(x:HST):=List.set x.2 (0+Int.toNat (W (x.7 - 1))) (bJ 9 (List.getD x.2 (0+Int.toNat (W (x.7 - 1))) []) (0+0+1) [(↑(w30 x):Int)])
abbrev w2v:=(0:Int)≤(4:Int)∧(4:Int)<(↑8:Int)
def BZ(x:HST)(code:Int)(okk:Bool)(val:Int):Tr (Int×HST):=.pre w2v (.ite (!ilt 0 x.7) (.pre (lE' x.1∧lE' x.2) (.ret (5,x))) (.pre w2v (.pre ((0:Int)≤W (x.7 - 1)∧W (x.7 - 1)<(↑(w2z x):Int)) (.pre (0+Int.toNat (W (x.7 - 1))<x.2.length) (.pre (0+Int.toNat (W (x.7 - 1))<List.length (w2o x)) (.pre (0=0∧lE' x.1∧x.1.length+(1:Nat)≤(4294967296:Nat)) (.pre w2v (.pre (x.1.length+(1:Nat)=List.length (x.1++ [[4,1,0,0,code,bif okk then 1 else 0,val]])∧x.2.length=List.length (List.set (w2o x) (0+Int.toNat (W (x.7 - 1))) (bJ 9 (List.getD (w2o x) (0+Int.toNat (W (x.7 - 1))) []) (0+6) [code,bif okk then 1 else 0,val]))) (.ret (0,{x with ev:=x.1++ [[4,1,0,0,code,bif okk then 1 else 0,val]],cl:=List.set (w2o x) (0+Int.toNat (W (x.7 - 1))) (bJ 9 (List.getD (w2o x) (0+Int.toNat (W (x.7 - 1))) []) (0+6) [code,bif okk then 1 else 0,val]),n4:=0}))))))))))
theorem U2(x:HST)(code:Int)(okk:Bool)(val:Int)(K:Int×HST→Prop)(h:(BZ x code okk val).run K):cT' 98 [.ptr 0 0,.I 4,.agg [.I code,.bool okk,.I val]] [cE' [.tslice 1 0 x.ev.length 7,.tslice 2 0 x.cl.length 9,.I x.n0,.I x.n1,.I x.n2,.I x.n3,.I x.n4,.I x.n5,.I x.n6,.I x.n7],some (.tab cK7 x.ev),some (.tab cK9 x.cl)] (bP 1 0 [] [] oF K):=by
 exact cM' (E:=EN0) (by kernel_rfl) h
abbrev w2p(x:HST):=List.set x.2 (0+Int.toNat (W (x.8 - 1))) (bJ 9 (List.getD x.2 (0+Int.toNat (W (x.8 - 1))) []) (0+0+1) [(↑(w30 x):Int)])
abbrev w2w:=(0:Int)≤(5:Int)∧(5:Int)<(↑8:Int)
def B0(x:HST)(code:Int)(okk:Bool)(val:Int):Tr (Int×HST):=.pre w2w (.ite (!ilt 0 x.8) (.pre (lE' x.1∧lE' x.2) (.ret (5,x))) (.pre w2w (.pre ((0:Int)≤W (x.8 - 1)∧W (x.8 - 1)<(↑(w2z x):Int)) (.pre (0+Int.toNat (W (x.8 - 1))<x.2.length) (.pre (0+Int.toNat (W (x.8 - 1))<List.length (w2p x)) (.pre (0=0∧lE' x.1∧x.1.length+(1:Nat)≤(4294967296:Nat)) (.pre w2w (.pre (x.1.length+(1:Nat)=List.length (x.1++ [[5,1,0,0,code,bif okk then 1 else 0,val]])∧x.2.length=List.length (List.set (w2p x) (0+Int.toNat (W (x.8 - 1))) (bJ 9 (List.getD (w2p x) (0+Int.toNat (W (x.8 - 1))) []) (0+6) [code,bif okk then 1 else 0,val]))) (.ret (0,{x with ev:=x.1++ [[5,1,0,0,code,bif okk then 1 else 0,val]],cl:=List.set (w2p x) (0+Int.toNat (W (x.8 - 1))) (bJ 9 (List.getD (w2p x) (0+Int.toNat (W (x.8 - 1))) []) (0+6) [code,bif okk then 1 else 0,val]),n5:=0}))))))))))
theorem U3(x:HST)(code:Int)(okk:Bool)(val:Int)(K:Int×HST→Prop)(h:(B0 x code okk val).run K):cT' 98 [.ptr 0 0,.I 5,.agg [.I code,.bool okk,.I val]] [cE' [.tslice 1 0 x.ev.length 7,.tslice 2 0 x.cl.length 9,.I x.n0,.I x.n1,.I x.n2,.I x.n3,.I x.n4,.I x.n5,.I x.n6,.I x.n7],some (.tab cK7 x.ev),some (.tab cK9 x.cl)] (bP 1 0 [] [] oF K):=by
 exact cM' (E:=EN0) (by kernel_rfl) h
abbrev w2q(x:HST):=List.set x.2 (0+Int.toNat (W (x.9 - 1))) (bJ 9 (List.getD x.2 (0+Int.toNat (W (x.9 - 1))) []) (0+0+1) [(↑(w30 x):Int)])
abbrev w2x:=(0:Int)≤(6:Int)∧(6:Int)<(↑8:Int)
def B1(x:HST)(code:Int)(okk:Bool)(val:Int):Tr (Int×HST):=.pre w2x (.ite (!ilt 0 x.9) (.pre (lE' x.1∧lE' x.2) (.ret (5,x))) (.pre w2x (.pre ((0:Int)≤W (x.9 - 1)∧W (x.9 - 1)<(↑(w2z x):Int)) (.pre (0+Int.toNat (W (x.9 - 1))<x.2.length) (.pre (0+Int.toNat (W (x.9 - 1))<List.length (w2q x)) (.pre (0=0∧lE' x.1∧x.1.length+(1:Nat)≤(4294967296:Nat)) (.pre w2x (.pre (x.1.length+(1:Nat)=List.length (x.1++ [[6,1,0,0,code,bif okk then 1 else 0,val]])∧x.2.length=List.length (List.set (w2q x) (0+Int.toNat (W (x.9 - 1))) (bJ 9 (List.getD (w2q x) (0+Int.toNat (W (x.9 - 1))) []) (0+6) [code,bif okk then 1 else 0,val]))) (.ret (0,{x with ev:=x.1++ [[6,1,0,0,code,bif okk then 1 else 0,val]],cl:=List.set (w2q x) (0+Int.toNat (W (x.9 - 1))) (bJ 9 (List.getD (w2q x) (0+Int.toNat (W (x.9 - 1))) []) (0+6) [code,bif okk then 1 else 0,val]),n6:=0}))))))))))
theorem U4(x:HST)(code:Int)(okk:Bool)(val:Int)(K:Int×HST→Prop)(h:(B1 x code okk val).run K):cT' 98 [.ptr 0 0,.I 6,.agg [.I code,.bool okk,.I val]] [cE' [.tslice 1 0 x.ev.length 7,.tslice 2 0 x.cl.length 9,.I x.n0,.I x.n1,.I x.n2,.I x.n3,.I x.n4,.I x.n5,.I x.n6,.I x.n7],some (.tab cK7 x.ev),some (.tab cK9 x.cl)] (bP 1 0 [] [] oF K):=by
 exact cM' (E:=EN0) (by kernel_rfl) h
abbrev w2j(x:HST):=List.set x.2 (0+Int.toNat (W (x.10 - 1))) (bJ 9 (List.getD x.2 (0+Int.toNat (W (x.10 - 1))) []) (0+0+1) [(↑(w30 x):Int)])
abbrev w2y:=(0:Int)≤(7:Int)∧(7:Int)<(↑8:Int)
def B2(x:HST)(code:Int)(okk:Bool)(val:Int):Tr (Int×HST):=.pre w2y (.ite (!ilt 0 x.10) (.pre (lE' x.1∧lE' x.2) (.ret (5,x))) (.pre w2y (.pre ((0:Int)≤W (x.10 - 1)∧W (x.10 - 1)<(↑(w2z x):Int)) (.pre (0+Int.toNat (W (x.10 - 1))<x.2.length) (.pre (0+Int.toNat (W (x.10 - 1))<List.length (w2j x)) (.pre (0=0∧lE' x.1∧x.1.length+(1:Nat)≤(4294967296:Nat)) (.pre w2y (.pre (x.1.length+(1:Nat)=List.length (x.1++ [[7,1,0,0,code,bif okk then 1 else 0,val]])∧x.2.length=List.length (List.set (w2j x) (0+Int.toNat (W (x.10 - 1))) (bJ 9 (List.getD (w2j x) (0+Int.toNat (W (x.10 - 1))) []) (0+6) [code,bif okk then 1 else 0,val]))) (.ret (0,{x with ev:=x.1++ [[7,1,0,0,code,bif okk then 1 else 0,val]],cl:=List.set (w2j x) (0+Int.toNat (W (x.10 - 1))) (bJ 9 (List.getD (w2j x) (0+Int.toNat (W (x.10 - 1))) []) (0+6) [code,bif okk then 1 else 0,val]),n7:=0}))))))))))
theorem U5(x:HST)(code:Int)(okk:Bool)(val:Int)(K:Int×HST→Prop)(h:(B2 x code okk val).run K):cT' 98 [.ptr 0 0,.I 7,.agg [.I code,.bool okk,.I val]] [cE' [.tslice 1 0 x.ev.length 7,.tslice 2 0 x.cl.length 9,.I x.n0,.I x.n1,.I x.n2,.I x.n3,.I x.n4,.I x.n5,.I x.n6,.I x.n7],some (.tab cK7 x.ev),some (.tab cK9 x.cl)] (bP 1 0 [] [] oF K):=by
 exact cM' (E:=EN0) (by kernel_rfl) h
def heT(th:Int)(x:HST)(code:Int)(okk:Bool)(val:Int):Tr (Int×HST):=
 bif ieq th 0 then BV x code okk val else
 bif ieq th 1 then BW x code okk val else
 bif ieq th 2 then BX x code okk val else
 bif ieq th 3 then BY x code okk val else
 bif ieq th 4 then BZ x code okk val else
 bif ieq th 5 then B0 x code okk val else
 bif ieq th 6 then B1 x code okk val else
 bif ieq th 7 then B2 x code okk val else .pre False (.ret default)
def heF(th:Int)(x:HST)(code:Int)(okk:Bool)(val:Int):Int×HST:=(heT th x code okk val).val
def heOk(th:Int)(x:HST)(code:Int)(okk:Bool)(val:Int):Prop:=(heT th x code okk val).ok
theorem UX(th:Int)(x:HST)(code:Int)(okk:Bool)(val:Int)(K:AVal→aC Ob→Prop)(h:(heT th x code okk val).run (fun y=>(Out.ret (.I y.1) [some (.abs (.hist y.2) [])]).run K)):cT' 98 [.ptr 0 0,.I th,.agg [.I code,.bool okk,.I val]] [some (.abs (.hist x) [])] K:=by
 unfold heT at h
 by_cases e:th=0
 ·rw [e]at h;have h:(BV x code okk val).run _:=h;rw [e];exact aGL (root:=0) (pos:=[]) (cs:=[]) (parse:=oF) (fin:=fun y=>.ret (.I y.1) [some (.abs (.hist y.2) [])]) fL (aS.unpack (.hist x) 0 0 (pP x) [] rfl rfl rfl rfl) (UY x code okk val _ h)
 rw [bK e]at h
 by_cases e:th=1
 ·rw [e]at h;have h:(BW x code okk val).run _:=h;rw [e];exact aGL (root:=0) (pos:=[]) (cs:=[]) (parse:=oF) (fin:=fun y=>.ret (.I y.1) [some (.abs (.hist y.2) [])]) fL (aS.unpack (.hist x) 0 0 (pP x) [] rfl rfl rfl rfl) (UZ x code okk val _ h)
 rw [bK e]at h
 by_cases e:th=2
 ·rw [e]at h;have h:(BX x code okk val).run _:=h;rw [e];exact aGL (root:=0) (pos:=[]) (cs:=[]) (parse:=oF) (fin:=fun y=>.ret (.I y.1) [some (.abs (.hist y.2) [])]) fL (aS.unpack (.hist x) 0 0 (pP x) [] rfl rfl rfl rfl) (U0 x code okk val _ h)
 rw [bK e]at h
 by_cases e:th=3
 ·rw [e]at h;have h:(BY x code okk val).run _:=h;rw [e];exact aGL (root:=0) (pos:=[]) (cs:=[]) (parse:=oF) (fin:=fun y=>.ret (.I y.1) [some (.abs (.hist y.2) [])]) fL (aS.unpack (.hist x) 0 0 (pP x) [] rfl rfl rfl rfl) (U1 x code okk val _ h)
 rw [bK e]at h
 by_cases e:th=4
 ·rw [e]at h;have h:(BZ x code okk val).run _:=h;rw [e];exact aGL (root:=0) (pos:=[]) (cs:=[]) (parse:=oF) (fin:=fun y=>.ret (.I y.1) [some (.abs (.hist y.2) [])]) fL (aS.unpack (.hist x) 0 0 (pP x) [] rfl rfl rfl rfl) (U2 x code okk val _ h)
 rw [bK e]at h
 by_cases e:th=5
 ·rw [e]at h;have h:(B0 x code okk val).run _:=h;rw [e];exact aGL (root:=0) (pos:=[]) (cs:=[]) (parse:=oF) (fin:=fun y=>.ret (.I y.1) [some (.abs (.hist y.2) [])]) fL (aS.unpack (.hist x) 0 0 (pP x) [] rfl rfl rfl rfl) (U3 x code okk val _ h)
 rw [bK e]at h
 by_cases e:th=6
 ·rw [e]at h;have h:(B1 x code okk val).run _:=h;rw [e];exact aGL (root:=0) (pos:=[]) (cs:=[]) (parse:=oF) (fin:=fun y=>.ret (.I y.1) [some (.abs (.hist y.2) [])]) fL (aS.unpack (.hist x) 0 0 (pP x) [] rfl rfl rfl rfl) (U4 x code okk val _ h)
 rw [bK e]at h
 by_cases e:th=7
 ·rw [e]at h;have h:(B2 x code okk val).run _:=h;rw [e];exact aGL (root:=0) (pos:=[]) (cs:=[]) (parse:=oF) (fin:=fun y=>.ret (.I y.1) [some (.abs (.hist y.2) [])]) fL (aS.unpack (.hist x) 0 0 (pP x) [] rfl rfl rfl rfl) (U5 x code okk val _ h)
 rw [bK e]at h;exact h.1.elim
def heS:aI Ob:=fun args h=>match args,h with
 | [.ptr 0 0,.int .i64 th,.agg [.int .i64 code,.bool okk,.int .i64 val]],[some (.abs (.hist x) [])]=>some (.pre (heOk th x code okk val) (.ret (.I (heF th x code okk val).1) [some (.abs (.hist (heF th x code okk val).2) [])]))
 | _,_=>none
theorem aD9:sT' 98 heS:=by
 intro args h o ho K hK;unfold heS at ho;split at ho
 case h_2=>cases ho
 simp only [sI']at ho;subst ho;obtain⟨ok,hK⟩:=hK;exact UX _ _ _ _ _ K (aGR ok hK)
noncomputable def EN1:=((EN0.addS 81 hnS aEb).addS 70 hbS aD1).addS 98 heS aD9
end Go.Sh
