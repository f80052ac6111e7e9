import Derived.Test.YteindpciaceeeaaGreatZGC6toGH0
set_option linter.all false
set_option maxHeartbeats 8000000
namespace Go.Sh
open Go Go.Proofs
variable [Con]
structure HpO where
 d:Bool
 x:HPS
 st:STS
 s:MS
instance:Inhabited HpO:=⟨⟨false,bV,⟨0,0,[]⟩,⟨0,0,[],0,0,0,0,0,false⟩⟩⟩
instance:Inhabited HPS:=⟨bV⟩
abbrev HN(t n:Int)(x:HPS)(st:STS)(s:MS):aC Ob:=[some (.abs (.help t n x) [1]),some (.abs (.store t n st) []),bD 3 s,bE s]
abbrev LZ(t n:Int)(x:HPS)(st:STS)(s:MS):aC Ob:=[cE' [.ptr 1 0,.I x.u,.int .u64 x.no,.I x.rounds,.I x.limit,.I x.at',.int .u64 x.found,.I x.sh,.I x.kd,.I x.ky,.bool x.p.now,.I x.p.code,.bool x.p.okk,.I x.p.val,.I x.p.addr,.int .u64 x.p.old,.I x.p.nxt,.bool x.p.mark,.I x.p.pops,.O,.O,.O,.O,.O],some (.abs (.store t n st) []),bD 3 s,bE s]
def HpO.fin(t n:Int)(y:HpO):Out Ob:=.ite y.d (.ret (.bool true) (LZ t n y.x y.st y.s)) (.ret (.bool false) (HN t n y.x y.st y.s))
def aCa(t n:Int)(v:AVal)(g:aC Ob):Option (Prop×HpO):=match v,g with
 | .bool d,[some (.cells [.ptr 1 0,.int .i64 u,.int .u64 no,.int .i64 rounds,.int .i64 limit,.int .i64 at',.int .u64 found,.int .i64 sh,.int .i64 kd,.int .i64 ky,.bool p_now,.int .i64 p_code,.bool p_okk,.int .i64 p_val,.int .i64 p_addr,.int .u64 p_old,.int .i64 p_nxt,.bool p_mark,.int .i64 p_pops,.O,.O,.O,.O,.O]),e1,e3,e4,e2]=>(match lL 4 [e1,e2],cO 3 [e3,e4]with
   | some (l2,t2,n2,st),some (l,s)=>some ((t2=t∧n2=n)∧(d=false→at'≠3∧at'≠4∧at'≠5∧at'≠7∧at'≠8)∧l=s.xs.length∧l2=st.R.length,⟨d,⟨u,no,rounds,limit,at',found,sh,kd,ky,⟨p_now,p_code,p_okk,p_val,p_addr,p_old,p_nxt,p_mark,p_pops⟩,cK,aW,aS,⟨0,0,0,0⟩,⟨0,0,0,false⟩⟩,st,s⟩)
   | _,_=>none)
 | _,_=>none
def aCb(t n:Int)(v:AVal)(g:aC Ob):Option (Prop×HpO):=match v,g with
 | .bool d,[some (.cells [.ptr 1 0,.int .i64 u,.int .u64 no,.int .i64 rounds,.int .i64 limit,.int .i64 at',.int .u64 found,.int .i64 sh,.int .i64 kd,.int .i64 ky,.bool p_now,.int .i64 p_code,.bool p_okk,.int .i64 p_val,.int .i64 p_addr,.int .u64 p_old,.int .i64 p_nxt,.bool p_mark,.int .i64 p_pops,.ptr 4 0,.O,.O,.O,.O]),e1,e3,e4,some (.abs (.exec t' n' sub) []),e2]=>(match lL 5 [e1,e2],cO 3 [e3,e4]with
   | some (l2,t2,n2,st),some (l,s)=>some ((t2=t∧n2=n)∧t'=t∧n'=n∧(d=false→at'=3)∧l=s.xs.length∧l2=st.R.length,⟨d,⟨u,no,rounds,limit,at',found,sh,kd,ky,⟨p_now,p_code,p_okk,p_val,p_addr,p_old,p_nxt,p_mark,p_pops⟩,sub,aW,aS,⟨0,0,0,0⟩,⟨0,0,0,false⟩⟩,st,s⟩)
   | _,_=>none)
 | _,_=>none
def aCc(t n:Int)(v:AVal)(g:aC Ob):Option (Prop×HpO):=match v,g with
 | .bool d,[some (.cells [.ptr 1 0,.int .i64 u,.int .u64 no,.int .i64 rounds,.int .i64 limit,.int .i64 at',.int .u64 found,.int .i64 sh,.int .i64 kd,.int .i64 ky,.bool p_now,.int .i64 p_code,.bool p_okk,.int .i64 p_val,.int .i64 p_addr,.int .u64 p_old,.int .i64 p_nxt,.bool p_mark,.int .i64 p_pops,.O,.ptr 4 0,.O,.O,.O]),e1,e3,e4,some (.abs (.ensure t' n' sub) [1]),e2]=>(match lL 5 [e1,e2],cO 3 [e3,e4]with
   | some (l2,t2,n2,st),some (l,s)=>some ((t2=t∧n2=n)∧t'=t∧n'=n∧(d=false→at'=4)∧l=s.xs.length∧l2=st.R.length,⟨d,⟨u,no,rounds,limit,at',found,sh,kd,ky,⟨p_now,p_code,p_okk,p_val,p_addr,p_old,p_nxt,p_mark,p_pops⟩,cK,sub,aS,⟨0,0,0,0⟩,⟨0,0,0,false⟩⟩,st,s⟩)
   | _,_=>none)
 | _,_=>none
def aCd(t n:Int)(v:AVal)(g:aC Ob):Option (Prop×HpO):=match v,g with
 | .bool d,[some (.cells [.ptr 1 0,.int .i64 u,.int .u64 no,.int .i64 rounds,.int .i64 limit,.int .i64 at',.int .u64 found,.int .i64 sh,.int .i64 kd,.int .i64 ky,.bool p_now,.int .i64 p_code,.bool p_okk,.int .i64 p_val,.int .i64 p_addr,.int .u64 p_old,.int .i64 p_nxt,.bool p_mark,.int .i64 p_pops,.O,.O,.ptr 4 0,.O,.O]),e1,e3,e4,some (.abs (.find t' n' sub) []),e2]=>(match lL 5 [e1,e2],cO 3 [e3,e4]with
   | some (l2,t2,n2,st),some (l,s)=>some ((t2=t∧n2=n)∧t'=t∧n'=n∧(d=false→at'=5)∧l=s.xs.length∧l2=st.R.length,⟨d,⟨u,no,rounds,limit,at',found,sh,kd,ky,⟨p_now,p_code,p_okk,p_val,p_addr,p_old,p_nxt,p_mark,p_pops⟩,cK,aW,sub,⟨0,0,0,0⟩,⟨0,0,0,false⟩⟩,st,s⟩)
   | _,_=>none)
 | _,_=>none
def aCe(t n:Int)(v:AVal)(g:aC Ob):Option (Prop×HpO):=match v,g with
 | .bool d,[some (.cells [.ptr 1 0,.int .i64 u,.int .u64 no,.int .i64 rounds,.int .i64 limit,.int .i64 at',.int .u64 found,.int .i64 sh,.int .i64 kd,.int .i64 ky,.bool p_now,.int .i64 p_code,.bool p_okk,.int .i64 p_val,.int .i64 p_addr,.int .u64 p_old,.int .i64 p_nxt,.bool p_mark,.int .i64 p_pops,.O,.O,.O,.ptr 4 0,.O]),e1,e3,e4,some (.abs (.clear t' n' sub) []),e2]=>(match lL 5 [e1,e2],cO 3 [e3,e4]with
   | some (l2,t2,n2,st),some (l,s)=>some ((t2=t∧n2=n)∧t'=t∧n'=n∧(d=false→at'=7)∧l=s.xs.length∧l2=st.R.length,⟨d,⟨u,no,rounds,limit,at',found,sh,kd,ky,⟨p_now,p_code,p_okk,p_val,p_addr,p_old,p_nxt,p_mark,p_pops⟩,cK,aW,aS,sub,⟨0,0,0,false⟩⟩,st,s⟩)
   | _,_=>none)
 | _,_=>none
def aCf(t n:Int)(v:AVal)(g:aC Ob):Option (Prop×HpO):=match v,g with
 | .bool d,[some (.cells [.ptr 1 0,.int .i64 u,.int .u64 no,.int .i64 rounds,.int .i64 limit,.int .i64 at',.int .u64 found,.int .i64 sh,.int .i64 kd,.int .i64 ky,.bool p_now,.int .i64 p_code,.bool p_okk,.int .i64 p_val,.int .i64 p_addr,.int .u64 p_old,.int .i64 p_nxt,.bool p_mark,.int .i64 p_pops,.O,.O,.O,.O,.ptr 4 0]),e1,e3,e4,some (.abs (.prepare t' n' sub) [1]),e2]=>(match lL 5 [e1,e2],cO 3 [e3,e4]with
   | some (l2,t2,n2,st),some (l,s)=>some ((t2=t∧n2=n)∧t'=t∧n'=n∧(d=false→at'=8)∧l=s.xs.length∧l2=st.R.length,⟨d,⟨u,no,rounds,limit,at',found,sh,kd,ky,⟨p_now,p_code,p_okk,p_val,p_addr,p_old,p_nxt,p_mark,p_pops⟩,cK,aW,aS,⟨0,0,0,0⟩,sub⟩,st,s⟩)
   | _,_=>none)
 | _,_=>none
def vT(t n:Int)(v:AVal)(g:aC Ob):Option (Prop×HpO):=(match aCa t n v g with
 | some r=>some r
 | none=>(match aCb t n v g with
 | some r=>some r
 | none=>(match aCc t n v g with
 | some r=>some r
 | none=>(match aCd t n v g with
 | some r=>some r
 | none=>(match aCe t n v g with
 | some r=>some r
 | none=>aCf t n v g)))))
theorem WN{t n:Int} :bX (obI tbl) 4 (aCa t n) (HpO.fin t n):=by
 intro v g p x hp hq K hK;unfold aCa at hp;split at hp
 case h_2=>cases hp
 rename_i d u no rounds limit at' found sh kd ky p_now p_code p_okk p_val p_addr p_old p_nxt p_mark p_pops e1 e3 e4 e2;split at hp
 case h_2=>cases hp
 rename_i l2 t2 n2 st l s hs hm;simp only [sI',pI']at hp;obtain⟨rfl,rfl⟩:=hp;obtain⟨⟨rfl,rfl⟩,hat,hl,hl2⟩:=hq;have hh:=bF hm hl;cases hh;have hh:=cG hs hl2;cases hh;refine fH hK (fun h=>?_) (fun hd h=>?_)
 ·exact⟨⟨_,_,(aE.pack (LZ t2 n2 (⟨u,no,rounds,limit,at',found,sh,kd,ky,⟨p_now,p_code,p_okk,p_val,p_addr,p_old,p_nxt,p_mark,p_pops⟩,cK,aW,aS,⟨0,0,0,0⟩,⟨0,0,0,false⟩⟩:HPS) st s) (.store t2 n2 st) 1 0 (dC t2 n2 st) [] (by kernel_rfl) rfl rfl (by kernel_rfl)),h⟩⟩
 ·exact let X0:HPS:=⟨u,no,rounds,limit,at',found,sh,kd,ky,⟨p_now,p_code,p_okk,p_val,p_addr,p_old,p_nxt,p_mark,p_pops⟩,cK,aW,aS,⟨0,0,0,0⟩,⟨0,0,0,false⟩⟩;⟨⟨_,_,((aE.pack (aL (HN t2 n2 X0 st s) 0 1 (lH t2 n2 X0) [1]) (.store t2 n2 st) 1 0 (dC t2 n2 st) [] (by kernel_rfl) rfl rfl (by kernel_rfl)).trans (aE.pack (HN t2 n2 X0 st s) (.help t2 n2 X0) 0 1 (lH t2 n2 X0) [1] (by kernel_rfl) rfl (congrArg (Prod.mk 1) (kD (hat hd))) (by kernel_rfl))),h⟩⟩
theorem WO{t n:Int} :bX (obI tbl) 4 (aCb t n) (HpO.fin t n):=by
 intro v g p x hp hq K hK;unfold aCb at hp;split at hp
 case h_2=>cases hp
 rename_i d u no rounds limit at' found sh kd ky p_now p_code p_okk p_val p_addr p_old p_nxt p_mark p_pops e1 e3 e4 t' n' sub e2;split at hp
 case h_2=>cases hp
 rename_i l2 t2 n2 st l s hs hm;simp only [sI',pI']at hp;obtain⟨rfl,rfl⟩:=hp;obtain⟨⟨rfl,rfl⟩,rfl,rfl,hat,hl,hl2⟩:=hq;have hh:=bF hm hl;cases hh;have hh:=cG hs hl2;cases hh;refine fH hK (fun h=>?_) (fun hd h=>?_)
 ·exact⟨⟨_,_,(aE.weak (cB _ 0 [19,20,21,22,23])).trans ((aE.pick [0,1,2,3,5] rfl).trans ((aHv (g2:=aL (LZ t' n' (⟨u,no,rounds,limit,at',found,sh,kd,ky,⟨p_now,p_code,p_okk,p_val,p_addr,p_old,p_nxt,p_mark,p_pops⟩,sub,aW,aS,⟨0,0,0,0⟩,⟨0,0,0,false⟩⟩:HPS) st s) 1 0 (dC t' n' st) []) (by kernel_rfl) (by kernel_rfl)).trans (aE.pack (LZ t' n' (⟨u,no,rounds,limit,at',found,sh,kd,ky,⟨p_now,p_code,p_okk,p_val,p_addr,p_old,p_nxt,p_mark,p_pops⟩,sub,aW,aS,⟨0,0,0,0⟩,⟨0,0,0,false⟩⟩:HPS) st s) (.store t' n' st) 1 0 (dC t' n' st) [] (by kernel_rfl) rfl rfl (by kernel_rfl)))),h⟩⟩
 ·exact let X0:HPS:=⟨u,no,rounds,limit,at',found,sh,kd,ky,⟨p_now,p_code,p_okk,p_val,p_addr,p_old,p_nxt,p_mark,p_pops⟩,sub,aW,aS,⟨0,0,0,0⟩,⟨0,0,0,false⟩⟩;⟨⟨_,_,((aE.pack (aL (HN t' n' X0 st s) 0 1 (nF t' n' X0) [1]) (.store t' n' st) 1 0 (dC t' n' st) [] (by kernel_rfl) rfl rfl (by kernel_rfl)).trans (aE.pack (HN t' n' X0 st s) (.help t' n' X0) 0 1 (nF t' n' X0) [1] (by kernel_rfl) rfl (congrArg (Prod.mk 1) (HH (hat hd))) (by kernel_rfl))),h⟩⟩
theorem WP{t n:Int} :bX (obI tbl) 4 (aCc t n) (HpO.fin t n):=by
 intro v g p x hp hq K hK;unfold aCc at hp;split at hp
 case h_2=>cases hp
 rename_i d u no rounds limit at' found sh kd ky p_now p_code p_okk p_val p_addr p_old p_nxt p_mark p_pops e1 e3 e4 t' n' sub e2;split at hp
 case h_2=>cases hp
 rename_i l2 t2 n2 st l s hs hm;simp only [sI',pI']at hp;obtain⟨rfl,rfl⟩:=hp;obtain⟨⟨rfl,rfl⟩,rfl,rfl,hat,hl,hl2⟩:=hq;have hh:=bF hm hl;cases hh;have hh:=cG hs hl2;cases hh;refine fH hK (fun h=>?_) (fun hd h=>?_)
 ·exact⟨⟨_,_,(aE.weak (cB _ 0 [19,20,21,22,23])).trans ((aE.pick [0,1,2,3,5] rfl).trans ((aHv (g2:=aL (LZ t' n' (⟨u,no,rounds,limit,at',found,sh,kd,ky,⟨p_now,p_code,p_okk,p_val,p_addr,p_old,p_nxt,p_mark,p_pops⟩,cK,sub,aS,⟨0,0,0,0⟩,⟨0,0,0,false⟩⟩:HPS) st s) 1 0 (dC t' n' st) []) (by kernel_rfl) (by kernel_rfl)).trans (aE.pack (LZ t' n' (⟨u,no,rounds,limit,at',found,sh,kd,ky,⟨p_now,p_code,p_okk,p_val,p_addr,p_old,p_nxt,p_mark,p_pops⟩,cK,sub,aS,⟨0,0,0,0⟩,⟨0,0,0,false⟩⟩:HPS) st s) (.store t' n' st) 1 0 (dC t' n' st) [] (by kernel_rfl) rfl rfl (by kernel_rfl)))),h⟩⟩
 ·exact let X0:HPS:=⟨u,no,rounds,limit,at',found,sh,kd,ky,⟨p_now,p_code,p_okk,p_val,p_addr,p_old,p_nxt,p_mark,p_pops⟩,cK,sub,aS,⟨0,0,0,0⟩,⟨0,0,0,false⟩⟩;⟨⟨_,_,((aE.pack (aL (HN t' n' X0 st s) 0 1 (nE t' n' X0) [1]) (.store t' n' st) 1 0 (dC t' n' st) [] (by kernel_rfl) rfl rfl (by kernel_rfl)).trans (aE.pack (HN t' n' X0 st s) (.help t' n' X0) 0 1 (nE t' n' X0) [1] (by kernel_rfl) rfl (congrArg (Prod.mk 1) (HJ (hat hd))) (by kernel_rfl))),h⟩⟩
theorem WQ{t n:Int} :bX (obI tbl) 4 (aCd t n) (HpO.fin t n):=by
 intro v g p x hp hq K hK;unfold aCd at hp;split at hp
 case h_2=>cases hp
 rename_i d u no rounds limit at' found sh kd ky p_now p_code p_okk p_val p_addr p_old p_nxt p_mark p_pops e1 e3 e4 t' n' sub e2;split at hp
 case h_2=>cases hp
 rename_i l2 t2 n2 st l s hs hm;simp only [sI',pI']at hp;obtain⟨rfl,rfl⟩:=hp;obtain⟨⟨rfl,rfl⟩,rfl,rfl,hat,hl,hl2⟩:=hq;have hh:=bF hm hl;cases hh;have hh:=cG hs hl2;cases hh;refine fH hK (fun h=>?_) (fun hd h=>?_)
 ·exact⟨⟨_,_,(aE.weak (cB _ 0 [19,20,21,22,23])).trans ((aE.pick [0,1,2,3,5] rfl).trans ((aHv (g2:=aL (LZ t' n' (⟨u,no,rounds,limit,at',found,sh,kd,ky,⟨p_now,p_code,p_okk,p_val,p_addr,p_old,p_nxt,p_mark,p_pops⟩,cK,aW,sub,⟨0,0,0,0⟩,⟨0,0,0,false⟩⟩:HPS) st s) 1 0 (dC t' n' st) []) (by kernel_rfl) (by kernel_rfl)).trans (aE.pack (LZ t' n' (⟨u,no,rounds,limit,at',found,sh,kd,ky,⟨p_now,p_code,p_okk,p_val,p_addr,p_old,p_nxt,p_mark,p_pops⟩,cK,aW,sub,⟨0,0,0,0⟩,⟨0,0,0,false⟩⟩:HPS) st s) (.store t' n' st) 1 0 (dC t' n' st) [] (by kernel_rfl) rfl rfl (by kernel_rfl)))),h⟩⟩
 ·exact let X0:HPS:=⟨u,no,rounds,limit,at',found,sh,kd,ky,⟨p_now,p_code,p_okk,p_val,p_addr,p_old,p_nxt,p_mark,p_pops⟩,cK,aW,sub,⟨0,0,0,0⟩,⟨0,0,0,false⟩⟩;⟨⟨_,_,((aE.pack (aL (HN t' n' X0 st s) 0 1 (nG t' n' X0) [1]) (.store t' n' st) 1 0 (dC t' n' st) [] (by kernel_rfl) rfl rfl (by kernel_rfl)).trans (aE.pack (HN t' n' X0 st s) (.help t' n' X0) 0 1 (nG t' n' X0) [1] (by kernel_rfl) rfl (congrArg (Prod.mk 1) (HK (hat hd))) (by kernel_rfl))),h⟩⟩
theorem WR{t n:Int} :bX (obI tbl) 4 (aCe t n) (HpO.fin t n):=by
 intro v g p x hp hq K hK;unfold aCe at hp;split at hp
 case h_2=>cases hp
 rename_i d u no rounds limit at' found sh kd ky p_now p_code p_okk p_val p_addr p_old p_nxt p_mark p_pops e1 e3 e4 t' n' sub e2;split at hp
 case h_2=>cases hp
 rename_i l2 t2 n2 st l s hs hm;simp only [sI',pI']at hp;obtain⟨rfl,rfl⟩:=hp;obtain⟨⟨rfl,rfl⟩,rfl,rfl,hat,hl,hl2⟩:=hq;have hh:=bF hm hl;cases hh;have hh:=cG hs hl2;cases hh;refine fH hK (fun h=>?_) (fun hd h=>?_)
 ·exact⟨⟨_,_,(aE.weak (cB _ 0 [19,20,21,22,23])).trans ((aE.pick [0,1,2,3,5] rfl).trans ((aHv (g2:=aL (LZ t' n' (⟨u,no,rounds,limit,at',found,sh,kd,ky,⟨p_now,p_code,p_okk,p_val,p_addr,p_old,p_nxt,p_mark,p_pops⟩,cK,aW,aS,sub,⟨0,0,0,false⟩⟩:HPS) st s) 1 0 (dC t' n' st) []) (by kernel_rfl) (by kernel_rfl)).trans (aE.pack (LZ t' n' (⟨u,no,rounds,limit,at',found,sh,kd,ky,⟨p_now,p_code,p_okk,p_val,p_addr,p_old,p_nxt,p_mark,p_pops⟩,cK,aW,aS,sub,⟨0,0,0,false⟩⟩:HPS) st s) (.store t' n' st) 1 0 (dC t' n' st) [] (by kernel_rfl) rfl rfl (by kernel_rfl)))),h⟩⟩
 ·exact let X0:HPS:=⟨u,no,rounds,limit,at',found,sh,kd,ky,⟨p_now,p_code,p_okk,p_val,p_addr,p_old,p_nxt,p_mark,p_pops⟩,cK,aW,aS,sub,⟨0,0,0,false⟩⟩;⟨⟨_,_,((aE.pack (aL (HN t' n' X0 st s) 0 1 (nD t' n' X0) [1]) (.store t' n' st) 1 0 (dC t' n' st) [] (by kernel_rfl) rfl rfl (by kernel_rfl)).trans (aE.pack (HN t' n' X0 st s) (.help t' n' X0) 0 1 (nD t' n' X0) [1] (by kernel_rfl) rfl (congrArg (Prod.mk 1) (HL (hat hd))) (by kernel_rfl))),h⟩⟩
theorem WS{t n:Int} :bX (obI tbl) 4 (aCf t n) (HpO.fin t n):=by
 intro v g p x hp hq K hK;unfold aCf at hp;split at hp
 case h_2=>cases hp
 rename_i d u no rounds limit at' found sh kd ky p_now p_code p_okk p_val p_addr p_old p_nxt p_mark p_pops e1 e3 e4 t' n' sub e2;split at hp
 case h_2=>cases hp
 rename_i l2 t2 n2 st l s hs hm;simp only [sI',pI']at hp;obtain⟨rfl,rfl⟩:=hp;obtain⟨⟨rfl,rfl⟩,rfl,rfl,hat,hl,hl2⟩:=hq;have hh:=bF hm hl;cases hh;have hh:=cG hs hl2;cases hh;refine fH hK (fun h=>?_) (fun hd h=>?_)
 ·exact⟨⟨_,_,(aE.weak (cB _ 0 [19,20,21,22,23])).trans ((aE.pick [0,1,2,3,5] rfl).trans ((aHv (g2:=aL (LZ t' n' (⟨u,no,rounds,limit,at',found,sh,kd,ky,⟨p_now,p_code,p_okk,p_val,p_addr,p_old,p_nxt,p_mark,p_pops⟩,cK,aW,aS,⟨0,0,0,0⟩,sub⟩:HPS) st s) 1 0 (dC t' n' st) []) (by kernel_rfl) (by kernel_rfl)).trans (aE.pack (LZ t' n' (⟨u,no,rounds,limit,at',found,sh,kd,ky,⟨p_now,p_code,p_okk,p_val,p_addr,p_old,p_nxt,p_mark,p_pops⟩,cK,aW,aS,⟨0,0,0,0⟩,sub⟩:HPS) st s) (.store t' n' st) 1 0 (dC t' n' st) [] (by kernel_rfl) rfl rfl (by kernel_rfl)))),h⟩⟩
 ·exact let X0:HPS:=⟨u,no,rounds,limit,at',found,sh,kd,ky,⟨p_now,p_code,p_okk,p_val,p_addr,p_old,p_nxt,p_mark,p_pops⟩,cK,aW,aS,⟨0,0,0,0⟩,sub⟩;⟨⟨_,_,((aE.pack (aL (HN t' n' X0 st s) 0 1 (nH t' n' X0) [1]) (.store t' n' st) 1 0 (dC t' n' st) [] (by kernel_rfl) rfl rfl (by kernel_rfl)).trans (aE.pack (HN t' n' X0 st s) (.help t' n' X0) 0 1 (nH t' n' X0) [1] (by kernel_rfl) rfl (congrArg (Prod.mk 1) (HM (hat hd))) (by kernel_rfl))),h⟩⟩
theorem lI{t n:Int} :bX (obI tbl) 4 (vT t n) (HpO.fin t n):=by
 intro v g p x hp hq K hK;unfold vT at hp;split at hp
 ·rename_i r hr;cases hp;exact WN v g p x hr hq K hK
 split at hp
 ·rename_i r hr;cases hp;exact WO v g p x hr hq K hK
 split at hp
 ·rename_i r hr;cases hp;exact WP v g p x hr hq K hK
 split at hp
 ·rename_i r hr;cases hp;exact WQ v g p x hr hq K hK
 split at hp
 ·rename_i r hr;cases hp;exact WR v g p x hr hq K hK
 exact WS v g p x hp hq K hK
abbrev w1y(n t:Int)(x:HPS):=(((0:Int)≤t∧t≤(100000:Int))∧((0:Int)≤n∧n≤(100000:Int))∧(-1099511627776:Int)≤x.1∧x.1≤(1099511627776:Int))∧True
def CD(t n:Int)(x:HPS)(st:STS)(s:MS):Tr HpO:=.pre (w1y n t x) (.pre ((lE' s.3∧(0:Int)≤s.4∧s.4≤(4611686018427387904:Int))∧True) (.pre True (.pre True (.pre ((t=t∧n=n)∧((!nN (aA (aF s.3 (2*n+5+2*t+3*x.1+2)) 49 3))=false→(1:Int)≠(3:Int)∧(1:Int)≠(4:Int)∧(1:Int)≠(5:Int)∧(1:Int)≠(7:Int)∧(1:Int)≠(8:Int))∧lE' s.3∧lE' st.3) (.ret {d:=!nN (aA (aF s.3 (2*n+5+2*t+3*x.1+2)) 49 3),x:= {x with rounds:=W (x.3+1),at':=1,found:=aF s.3 (2*n+5+2*t+3*x.1+2),ex:=cK,en:=aW,fn:=aS,cl:=cD,pr:=dM},st:=st,s:= {s with c:=s.4+1,k:=1,a:=2*n+5+2*t+3*x.1+2,o:=aF s.3 (2*n+5+2*t+3*x.1+2),w:=aF s.3 (2*n+5+2*t+3*x.1+2),ok:=bU s.3 (2*n+5+2*t+3*x.1+2) } })))))
theorem J6(t n:Int)(x:HPS)(st:STS)(s:MS)(K:HpO→Prop)(h:(CD t n x st s).run K):cT' 152 [.ptr 0 0,.ptr 2 0] [cE' [.ptr 1 0,.I x.u,.int .u64 x.no,.I x.rounds,.I x.limit,.I 0,.int .u64 x.found,.I x.sh,.I x.kd,.I x.ky,.bool x.p.now,.I x.p.code,.bool x.p.okk,.I x.p.val,.I x.p.addr,.int .u64 x.p.old,.I x.p.nxt,.bool x.p.mark,.I x.p.pops,.O,.O,.O,.O,.O],hM 4 t n st,bD 3 s,bE s,hO st] (bP 4 0 [19,20,21,22,23] [(.cell 1 4,.ints (some .i64))] (vT t n) K):=by
 exact cM' (E:=EH0) (by kernel_rfl) h
def CE(t n:Int)(x:HPS)(st:STS)(s:MS):Tr HpO:=.pre (w1y n t x) (.pre ((lE' s.3∧(0:Int)≤s.4∧s.4≤(4611686018427387904:Int))∧True) (.pre ((t=t∧n=n)∧((!ieq (aF s.3 (2*n+5+2*t+3*x.1)) x.2)=false→(2:Int)≠(3:Int)∧(2:Int)≠(4:Int)∧(2:Int)≠(5:Int)∧(2:Int)≠(7:Int)∧(2:Int)≠(8:Int))∧lE' s.3∧lE' st.3) (.ret {d:=!ieq (aF s.3 (2*n+5+2*t+3*x.1)) x.2,x:= {x with at':=2,ex:=cK,en:=aW,fn:=aS,cl:=cD,pr:=dM},st:=st,s:= {s with c:=s.4+1,k:=1,a:=2*n+5+2*t+3*x.1,o:=aF s.3 (2*n+5+2*t+3*x.1),w:=aF s.3 (2*n+5+2*t+3*x.1),ok:=bU s.3 (2*n+5+2*t+3*x.1) } })))
theorem J7(t n:Int)(x:HPS)(st:STS)(s:MS)(K:HpO→Prop)(h:(CE t n x st s).run K):cT' 152 [.ptr 0 0,.ptr 2 0] [cE' [.ptr 1 0,.I x.u,.int .u64 x.no,.I x.rounds,.I x.limit,.I 1,.int .u64 x.found,.I x.sh,.I x.kd,.I x.ky,.bool x.p.now,.I x.p.code,.bool x.p.okk,.I x.p.val,.I x.p.addr,.int .u64 x.p.old,.I x.p.nxt,.bool x.p.mark,.I x.p.pops,.O,.O,.O,.O,.O],hM 4 t n st,bD 3 s,bE s,hO st] (bP 4 0 [19,20,21,22,23] [(.cell 1 4,.ints (some .i64))] (vT t n) K):=by
 exact cM' (E:=EH0) (by kernel_rfl) h
abbrev w1u(n:Int)(s:MS)(t:Int)(x:HPS):=aF s.3 (2*n+5+2*t+3*x.1+1)
abbrev w21:=false=false→(5:Int)=(5:Int)
def CF(t n:Int)(x:HPS)(st:STS)(s:MS):Tr HpO:=.pre (w1y n t x) (.pre ((lE' s.3∧(0:Int)≤s.4∧s.4≤(4611686018427387904:Int))∧True) (.pre ((0:Int)≤aF s.3 (2*n+5+2*t+3*x.1+1)∧aF s.3 (2*n+5+2*t+3*x.1+1)≤(18446744073709551615:Int)) (.ite (!ieq (bif iX (w1u n s t x)then 0 else 3) 0) (.pre ((t=t∧n=n)∧(true=false→(2:Int)≠(3:Int)∧(2:Int)≠(4:Int)∧(2:Int)≠(5:Int)∧(2:Int)≠(7:Int)∧(2:Int)≠(8:Int))∧lE' s.3∧lE' st.3) (.ret {d:=true,x:= {x with at':=2,sh:=bif iX (w1u n s t x)then aA (w1u n s t x) 0 3 else 0,kd:=bif iX (w1u n s t x)then aA (w1u n s t x) 3 3 else 0,ky:=bif iX (w1u n s t x)then aA (w1u n s t x) 6 10 else 0,ex:=cK,en:=aW,fn:=aS,cl:=cD,pr:=dM},st:=st,s:= {s with c:=s.4+1,k:=1,a:=2*n+5+2*t+3*x.1+1,o:=aF s.3 (2*n+5+2*t+3*x.1+1),w:=aF s.3 (2*n+5+2*t+3*x.1+1),ok:=bU s.3 (2*n+5+2*t+3*x.1+1) } })) (.pre True (.ite (!hasB [1] (aA x.6 49 3)) (.pre True (.pre (OF t n x.1 (bif iX (w1u n s t x)then aA (w1u n s t x) 0 3 else 0) (bif iX (w1u n s t x)then aA (w1u n s t x) 3 3 else 0) (bif iX (w1u n s t x)then aA (w1u n s t x) 6 10 else 0) (aA x.6 0 12)∧True) (.pre ((t=t∧n=n)∧t=t∧n=n∧(false=false→(3:Int)=(3:Int))∧lE' s.3∧lE' st.3) (.ret {d:=false,x:= {x with at':=3,sh:=bif iX (w1u n s t x)then aA (w1u n s t x) 0 3 else 0,kd:=bif iX (w1u n s t x)then aA (w1u n s t x) 3 3 else 0,ky:=bif iX (w1u n s t x)then aA (w1u n s t x) 6 10 else 0,ex:=aBk t n x.1 (bif iX (w1u n s t x)then aA (w1u n s t x) 0 3 else 0) (bif iX (w1u n s t x)then aA (w1u n s t x) 3 3 else 0) (bif iX (w1u n s t x)then aA (w1u n s t x) 6 10 else 0) (aA x.6 0 12),en:=aW,fn:=aS,cl:=cD,pr:=dM},st:=st,s:= {s with c:=s.4+1,k:=1,a:=2*n+5+2*t+3*x.1+1,o:=aF s.3 (2*n+5+2*t+3*x.1+1),w:=aF s.3 (2*n+5+2*t+3*x.1+1),ok:=bU s.3 (2*n+5+2*t+3*x.1+1) } })))) (.pre True (.ite (f6 (bif iX (w1u n s t x)then aA (w1u n s t x) 3 3 else 0)) (.ite (ieq st.2 0) (.pre (lE' st.3∧(t=t∧n=n∧lE' st.3)∧True) (.pre ((t=t∧n=n)∧t=t∧n=n∧(false=false→(4:Int)=(4:Int))∧lE' s.3∧lE' st.3) (.ret {d:=false,x:= {x with at':=4,sh:=bif iX (w1u n s t x)then aA (w1u n s t x) 0 3 else 0,kd:=bif iX (w1u n s t x)then aA (w1u n s t x) 3 3 else 0,ky:=bif iX (w1u n s t x)then aA (w1u n s t x) 6 10 else 0,ex:=cK,en:=aW,fn:=aS,cl:=cD,pr:=dM},st:=st,s:= {s with c:=s.4+1,k:=1,a:=2*n+5+2*t+3*x.1+1,o:=aF s.3 (2*n+5+2*t+3*x.1+1),w:=aF s.3 (2*n+5+2*t+3*x.1+1),ok:=bU s.3 (2*n+5+2*t+3*x.1+1) } }))) (.pre True (.pre (oT t n st.1 (fG (bif iX (w1u n s t x)then aA (w1u n s t x) 0 3 else 0) (bif iX (w1u n s t x)then aA (w1u n s t x) 6 10 else 0)) (mA (bif iX (w1u n s t x)then aA (w1u n s t x) 0 3 else 0) (bif iX (w1u n s t x)then aA (w1u n s t x) 3 3 else 0) (bif iX (w1u n s t x)then aA (w1u n s t x) 6 10 else 0)) x.4∧True) (.pre ((t=t∧n=n)∧t=t∧n=n∧w21∧lE' s.3∧lE' st.3) (.ret {d:=false,x:= {x with at':=5,sh:=bif iX (w1u n s t x)then aA (w1u n s t x) 0 3 else 0,kd:=bif iX (w1u n s t x)then aA (w1u n s t x) 3 3 else 0,ky:=bif iX (w1u n s t x)then aA (w1u n s t x) 6 10 else 0,ex:=cK,en:=aW,fn:=uM t n st.1 (fG (bif iX (w1u n s t x)then aA (w1u n s t x) 0 3 else 0) (bif iX (w1u n s t x)then aA (w1u n s t x) 6 10 else 0)) (mA (bif iX (w1u n s t x)then aA (w1u n s t x) 0 3 else 0) (bif iX (w1u n s t x)then aA (w1u n s t x) 3 3 else 0) (bif iX (w1u n s t x)then aA (w1u n s t x) 6 10 else 0)) x.4,cl:=cD,pr:=dM},st:=st,s:= {s with c:=s.4+1,k:=1,a:=2*n+5+2*t+3*x.1+1,o:=aF s.3 (2*n+5+2*t+3*x.1+1),w:=aF s.3 (2*n+5+2*t+3*x.1+1),ok:=bU s.3 (2*n+5+2*t+3*x.1+1) } }))))) (.pre True (.pre (oT t n st.1 (fG (bif iX (w1u n s t x)then aA (w1u n s t x) 0 3 else 0) (bif iX (w1u n s t x)then aA (w1u n s t x) 6 10 else 0)) (mA (bif iX (w1u n s t x)then aA (w1u n s t x) 0 3 else 0) (bif iX (w1u n s t x)then aA (w1u n s t x) 3 3 else 0) (bif iX (w1u n s t x)then aA (w1u n s t x) 6 10 else 0)) x.4∧True) (.pre ((t=t∧n=n)∧t=t∧n=n∧w21∧lE' s.3∧lE' st.3) (.ret {d:=false,x:= {x with at':=5,sh:=bif iX (w1u n s t x)then aA (w1u n s t x) 0 3 else 0,kd:=bif iX (w1u n s t x)then aA (w1u n s t x) 3 3 else 0,ky:=bif iX (w1u n s t x)then aA (w1u n s t x) 6 10 else 0,ex:=cK,en:=aW,fn:=uM t n st.1 (fG (bif iX (w1u n s t x)then aA (w1u n s t x) 0 3 else 0) (bif iX (w1u n s t x)then aA (w1u n s t x) 6 10 else 0)) (mA (bif iX (w1u n s t x)then aA (w1u n s t x) 0 3 else 0) (bif iX (w1u n s t x)then aA (w1u n s t x) 3 3 else 0) (bif iX (w1u n s t x)then aA (w1u n s t x) 6 10 else 0)) x.4,cl:=cD,pr:=dM},st:=st,s:= {s with c:=s.4+1,k:=1,a:=2*n+5+2*t+3*x.1+1,o:=aF s.3 (2*n+5+2*t+3*x.1+1),w:=aF s.3 (2*n+5+2*t+3*x.1+1),ok:=bU s.3 (2*n+5+2*t+3*x.1+1) } })))))))))))
theorem J8(t n:Int)(x:HPS)(st:STS)(s:MS)(K:HpO→Prop)(h:(CF t n x st s).run K):cT' 152 [.ptr 0 0,.ptr 2 0] [cE' [.ptr 1 0,.I x.u,.int .u64 x.no,.I x.rounds,.I x.limit,.I 2,.int .u64 x.found,.I x.sh,.I x.kd,.I x.ky,.bool x.p.now,.I x.p.code,.bool x.p.okk,.I x.p.val,.I x.p.addr,.int .u64 x.p.old,.I x.p.nxt,.bool x.p.mark,.I x.p.pops,.O,.O,.O,.O,.O],hM 4 t n st,bD 3 s,bE s,hO st] (bP 4 0 [19,20,21,22,23] [(.cell 1 4,.ints (some .i64))] (vT t n) K):=by
 exact cM' (E:=EH0) (by kernel_rfl) h
abbrev w1w:=false=false→(0:Int)≠(3:Int)∧(0:Int)≠(4:Int)∧(0:Int)≠(5:Int)∧(0:Int)≠(7:Int)∧(0:Int)≠(8:Int)
def CG(t n:Int)(x:HPS)(st:STS)(s:MS):Tr HpO:=.pre (lE' s.3∧aBo t n x.11 s) (.ite (A4 t n x.11 s).1 (.ite (!ieq (ExO.x (A4 t n x.11 s)).1 0) (.pre (lE' st.3∧1=1∧st.3.length+(1:Nat)≤(4294967296:Nat)) (.pre ((t=t∧n=n)∧w1w∧lE' (ExO.s (A4 t n x.11 s)).3∧st.3.length+(1:Nat)=List.length (st.3++ [(ExO.x (A4 t n x.11 s)).1])) (.ret {d:=false,x:= {x with at':=0,ex:=cK,en:=aW,fn:=aS,cl:=cD,pr:=dM},st:= {me:=st.1,sp:=st.2,R:=st.3++ [(ExO.x (A4 t n x.11 s)).1] },s:=(A4 t n x.11 s).3}))) (.pre ((t=t∧n=n)∧w1w∧lE' (ExO.s (A4 t n x.11 s)).3∧lE' st.3) (.ret {d:=false,x:= {x with at':=0,ex:=cK,en:=aW,fn:=aS,cl:=cD,pr:=dM},st:=st,s:=(A4 t n x.11 s).3}))) (.pre ((t=t∧n=n)∧t=t∧n=n∧(false=false→(3:Int)=(3:Int))∧lE' (ExO.s (A4 t n x.11 s)).3∧lE' st.3) (.ret {d:=false,x:= {x with at':=3,ex:=(A4 t n x.11 s).2,en:=aW,fn:=aS,cl:=cD,pr:=dM},st:=st,s:=(A4 t n x.11 s).3})))
theorem J9(t n:Int)(x:HPS)(st:STS)(s:MS)(K:HpO→Prop)(h:(CG t n x st s).run K):cT' 152 [.ptr 0 0,.ptr 2 0] [cE' [.ptr 1 0,.I x.u,.int .u64 x.no,.I x.rounds,.I x.limit,.I 3,.int .u64 x.found,.I x.sh,.I x.kd,.I x.ky,.bool x.p.now,.I x.p.code,.bool x.p.okk,.I x.p.val,.I x.p.addr,.int .u64 x.p.old,.I x.p.nxt,.bool x.p.mark,.I x.p.pops,.ptr 4 0,.O,.O,.O,.O],hM 5 t n st,bD 3 s,bE s,some (.abs (.exec t n x.ex) []),hO st] (bP 4 0 [19,20,21,22,23] [(.cell 1 4,.ints (some .i64))] (vT t n) K):=by
 exact cM' (E:=EH0) (by kernel_rfl) h
abbrev w1z:=false=false→(6:Int)≠(3:Int)∧(6:Int)≠(4:Int)∧(6:Int)≠(5:Int)∧(6:Int)≠(7:Int)∧(6:Int)≠(8:Int)
def CH(t n:Int)(x:HPS)(st:STS)(s:MS):Tr HpO:=.pre ((lE' s.3∧lE' st.3∧t=t∧n=n)∧KM t n (HPS.en x) st s) (.ite (enF t n x.12 st s).1 (.ite (EO.e (enF t n x.12 st s)).2 (.pre ((t=t∧n=n)∧w1z∧lE' (EO.s (enF t n x.12 st s)).3∧lE' (EO.st (enF t n x.12 st s)).3) (.ret {d:=false,x:= {x with at':=6,p:= {now:=true,code:=4,okk:=false,val:=0,addr:=0,old:=0,nxt:=0,mark:=false,pops:=0},ex:=cK,en:=aW,fn:=aS,cl:=cD,pr:=dM},st:=(enF t n x.12 st s).3,s:=(enF t n x.12 st s).4})) (.pre True (.pre (oT t n (EO.st (enF t n x.12 st s)).1 (fG x.7 x.9) (mA x.7 x.8 x.9) x.4∧True) (.pre ((t=t∧n=n)∧t=t∧n=n∧w21∧lE' (EO.s (enF t n x.12 st s)).3∧lE' (EO.st (enF t n x.12 st s)).3) (.ret {d:=false,x:= {x with at':=5,ex:=cK,en:=aW,fn:=uM t n (EO.st (enF t n x.12 st s)).1 (fG x.7 x.9) (mA x.7 x.8 x.9) x.4,cl:=cD,pr:=dM},st:=(enF t n x.12 st s).3,s:=(enF t n x.12 st s).4}))))) (.pre ((t=t∧n=n)∧t=t∧n=n∧(false=false→(4:Int)=(4:Int))∧lE' (EO.s (enF t n x.12 st s)).3∧lE' (EO.st (enF t n x.12 st s)).3) (.ret {d:=false,x:= {x with at':=4,ex:=cK,en:=(enF t n x.12 st s).2,fn:=aS,cl:=cD,pr:=dM},st:=(enF t n x.12 st s).3,s:=(enF t n x.12 st s).4})))
theorem KA(t n:Int)(x:HPS)(st:STS)(s:MS)(K:HpO→Prop)(h:(CH t n x st s).run K):cT' 152 [.ptr 0 0,.ptr 2 0] [cE' [.ptr 1 0,.I x.u,.int .u64 x.no,.I x.rounds,.I x.limit,.I 4,.int .u64 x.found,.I x.sh,.I x.kd,.I x.ky,.bool x.p.now,.I x.p.code,.bool x.p.okk,.I x.p.val,.I x.p.addr,.int .u64 x.p.old,.I x.p.nxt,.bool x.p.mark,.I x.p.pops,.O,.ptr 4 0,.O,.O,.O],hM 5 t n st,bD 3 s,bE s,some (.abs (.ensure t n x.en) [1]),hO st] (bP 4 0 [19,20,21,22,23] [(.cell 1 4,.ints (some .i64))] (vT t n) K):=by
 exact cM' (E:=EH0) (by kernel_rfl) h
abbrev w1x(n:Int)(s:MS)(t:Int)(x:HPS):=FnO.x (aN t n x.13 s)
abbrev w1t(n:Int)(s:MS)(st:STS)(t:Int)(x:HPS):=bM x.7 x.8 x.9 (w1x n s t x).1 (w1x n s t x).2 (w1x n s t x).3 (w1x n s t x).4 st.2
abbrev w20:=false=false→(9:Int)≠(3:Int)∧(9:Int)≠(4:Int)∧(9:Int)≠(5:Int)∧(9:Int)≠(7:Int)∧(9:Int)≠(8:Int)
def CI(t n:Int)(x:HPS)(st:STS)(s:MS):Tr HpO:=.pre (lE' s.3∧JP t n x.13 s) (.ite (aN t n x.13 s).1 (.pre ((lE' st.3∧lE' (w1x n s t x).6∧st.3.length+List.length (w1x n s t x).6≤(4294967296:Nat))∧True) (.pre (u5 x.7 x.8 x.9 (w1x n s t x).1 (w1x n s t x).2 (w1x n s t x).3 (w1x n s t x).4 st.2∧True) (.ite (w1x n s t x).7 (.pre ((t=t∧n=n)∧w1w∧lE' (FnO.s (aN t n x.13 s)).3∧st.3.length+List.length (w1x n s t x).6=List.length (st.3++(w1x n s t x).6)) (.ret {d:=false,x:= {x with at':=0,p:=bM x.7 x.8 x.9 (w1x n s t x).1 (w1x n s t x).2 (w1x n s t x).3 (w1x n s t x).4 st.2,ex:=cK,en:=aW,fn:=aS,cl:=cD,pr:=dM},st:= {me:=st.1,sp:=st.2,R:=st.3++(w1x n s t x).6},s:=(aN t n x.13 s).3})) (.ite (w1t n s st t x).1 (.pre ((t=t∧n=n)∧w1z∧lE' (FnO.s (aN t n x.13 s)).3∧st.3.length+List.length (w1x n s t x).6=List.length (st.3++(w1x n s t x).6)) (.ret {d:=false,x:= {x with at':=6,p:=bM x.7 x.8 x.9 (w1x n s t x).1 (w1x n s t x).2 (w1x n s t x).3 (w1x n s t x).4 st.2,ex:=cK,en:=aW,fn:=aS,cl:=cD,pr:=dM},st:= {me:=st.1,sp:=st.2,R:=st.3++(w1x n s t x).6},s:=(aN t n x.13 s).3})) (.pre (oI (w1t n s st t x).1 (w1t n s st t x).2 (w1t n s st t x).3 (w1t n s st t x).4 (w1t n s st t x).5 (w1t n s st t x).6 (w1t n s st t x).7 (w1t n s st t x).8 (w1t n s st t x).9) (.ite (yO (w1t n s st t x).1 (w1t n s st t x).2 (w1t n s st t x).3 (w1t n s st t x).4 (w1t n s st t x).5 (w1t n s st t x).6 (w1t n s st t x).7 (w1t n s st t x).8 (w1t n s st t x).9) (.pre (pY t n (w1t n s st t x).5∧True) (.pre ((t=t∧n=n)∧t=t∧n=n∧(false=false→(7:Int)=(7:Int))∧lE' (FnO.s (aN t n x.13 s)).3∧st.3.length+List.length (w1x n s t x).6=List.length (st.3++(w1x n s t x).6)) (.ret {d:=false,x:= {x with at':=7,p:=bM x.7 x.8 x.9 (w1x n s t x).1 (w1x n s t x).2 (w1x n s t x).3 (w1x n s t x).4 st.2,ex:=cK,en:=aW,fn:=aS,cl:=xZ t n (w1t n s st t x).5,pr:=dM},st:= {me:=st.1,sp:=st.2,R:=st.3++(w1x n s t x).6},s:=(aN t n x.13 s).3}))) (.pre True (.ite (f6 x.8) (.pre ((st.3.length+List.length (w1x n s t x).6=List.length (st.3++(w1x n s t x).6)∧C3 t n x.9 (w1x n s t x).3 {me:=st.1,sp:=st.2,R:=st.3++(w1x n s t x).6})∧True) (.pre ((t=t∧n=n)∧t=t∧n=n∧(false=false→(8:Int)=(8:Int))∧lE' (FnO.s (aN t n x.13 s)).3∧lE' (Prod.snd (qQ t n x.9 (w1x n s t x).3 {me:=st.1,sp:=st.2,R:=st.3++(w1x n s t x).6})).3) (.ret {d:=false,x:= {x with at':=8,p:=bM x.7 x.8 x.9 (w1x n s t x).1 (w1x n s t x).2 (w1x n s t x).3 (w1x n s t x).4 st.2,ex:=cK,en:=aW,fn:=aS,cl:=cD,pr:=(qQ t n x.9 (w1x n s t x).3 {me:=st.1,sp:=st.2,R:=st.3++(w1x n s t x).6}).1},st:=(qQ t n x.9 (w1x n s t x).3 {me:=st.1,sp:=st.2,R:=st.3++(w1x n s t x).6}).2,s:=(aN t n x.13 s).3}))) (.pre ((t=t∧n=n)∧w20∧lE' (FnO.s (aN t n x.13 s)).3∧st.3.length+List.length (w1x n s t x).6=List.length (st.3++(w1x n s t x).6)) (.ret {d:=false,x:= {x with at':=9,p:=bM x.7 x.8 x.9 (w1x n s t x).1 (w1x n s t x).2 (w1x n s t x).3 (w1x n s t x).4 st.2,ex:=cK,en:=aW,fn:=aS,cl:=cD,pr:=dM},st:= {me:=st.1,sp:=st.2,R:=st.3++(w1x n s t x).6},s:=(aN t n x.13 s).3})))))))))) (.pre ((t=t∧n=n)∧t=t∧n=n∧w21∧lE' (FnO.s (aN t n x.13 s)).3∧lE' st.3) (.ret {d:=false,x:= {x with at':=5,ex:=cK,en:=aW,fn:=(aN t n x.13 s).2,cl:=cD,pr:=dM},st:=st,s:=(aN t n x.13 s).3})))
theorem KB(t n:Int)(x:HPS)(st:STS)(s:MS)(K:HpO→Prop)(h:(CI t n x st s).run K):cT' 152 [.ptr 0 0,.ptr 2 0] [cE' [.ptr 1 0,.I x.u,.int .u64 x.no,.I x.rounds,.I x.limit,.I 5,.int .u64 x.found,.I x.sh,.I x.kd,.I x.ky,.bool x.p.now,.I x.p.code,.bool x.p.okk,.I x.p.val,.I x.p.addr,.int .u64 x.p.old,.I x.p.nxt,.bool x.p.mark,.I x.p.pops,.O,.O,.ptr 4 0,.O,.O],hM 5 t n st,bD 3 s,bE s,some (.abs (.find t n x.fn) []),hO st] (bP 4 0 [19,20,21,22,23] [(.cell 1 4,.ints (some .i64))] (vT t n) K):=by
 exact cM' (E:=EH0) (by kernel_rfl) h
def CJ(t n:Int)(x:HPS)(st:STS)(s:MS):Tr HpO:=.pre True (.pre True (.pre True (.pre (w1y n t x) (.pre ((lE' s.3∧(0:Int)≤s.4∧s.4≤(4611686018427387904:Int))∧True) (.pre ((t=t∧n=n)∧w1w∧lE' (bif aV s.3 (2*n+5+2*t+3*x.1+2) x.6 then aX s.3 (2*n+5+2*t+3*x.1+2) (bif dOk (aA x.6 0 12) 0 0 (bif ieq (HPS.p x).2 4 then 1 else 0) 5 (HPS.p x).4 then cL (aA x.6 0 12) 0 0 (bif ieq (HPS.p x).2 4 then 1 else 0) (HPS.p x).3 5 (HPS.p x).4 else 0)else s.3)∧lE' st.3) (.ret {d:=false,x:= {x with at':=0,ex:=cK,en:=aW,fn:=aS,cl:=cD,pr:=dM},st:=st,s:= {t:=s.1,n:=s.2,xs:=bif aV s.3 (2*n+5+2*t+3*x.1+2) x.6 then aX s.3 (2*n+5+2*t+3*x.1+2) (bif dOk (aA x.6 0 12) 0 0 (bif ieq (HPS.p x).2 4 then 1 else 0) 5 (HPS.p x).4 then cL (aA x.6 0 12) 0 0 (bif ieq (HPS.p x).2 4 then 1 else 0) (HPS.p x).3 5 (HPS.p x).4 else 0)else s.3,c:=s.4+1,k:=3,a:=2*n+5+2*t+3*x.1+2,o:=aF s.3 (2*n+5+2*t+3*x.1+2),w:=bif bU s.3 (2*n+5+2*t+3*x.1+2)then bif dOk (aA x.6 0 12) 0 0 (bif ieq (HPS.p x).2 4 then 1 else 0) 5 (HPS.p x).4 then cL (aA x.6 0 12) 0 0 (bif ieq (HPS.p x).2 4 then 1 else 0) (HPS.p x).3 5 (HPS.p x).4 else 0 else 0,ok:=aV s.3 (2*n+5+2*t+3*x.1+2) x.6} }))))))
theorem KC(t n:Int)(x:HPS)(st:STS)(s:MS)(K:HpO→Prop)(h:(CJ t n x st s).run K):cT' 152 [.ptr 0 0,.ptr 2 0] [cE' [.ptr 1 0,.I x.u,.int .u64 x.no,.I x.rounds,.I x.limit,.I 6,.int .u64 x.found,.I x.sh,.I x.kd,.I x.ky,.bool x.p.now,.I x.p.code,.bool x.p.okk,.I x.p.val,.I x.p.addr,.int .u64 x.p.old,.I x.p.nxt,.bool x.p.mark,.I x.p.pops,.O,.O,.O,.O,.O],hM 4 t n st,bD 3 s,bE s,hO st] (bP 4 0 [19,20,21,22,23] [(.cell 1 4,.ints (some .i64))] (vT t n) K):=by
 exact cM' (E:=EH0) (by kernel_rfl) h
def CK(t n:Int)(x:HPS)(st:STS)(s:MS):Tr HpO:=.pre (lE' s.3∧MT t n x.14 s) (.ite (oS t n x.14 s).1 (.pre ((t=t∧n=n)∧w1w∧lE' (ClO.s (oS t n x.14 s)).3∧lE' st.3) (.ret {d:=false,x:= {x with at':=0,ex:=cK,en:=aW,fn:=aS,cl:=cD,pr:=dM},st:=st,s:=(oS t n x.14 s).3})) (.pre ((t=t∧n=n)∧t=t∧n=n∧(false=false→(7:Int)=(7:Int))∧lE' (ClO.s (oS t n x.14 s)).3∧lE' st.3) (.ret {d:=false,x:= {x with at':=7,ex:=cK,en:=aW,fn:=aS,cl:=(oS t n x.14 s).2,pr:=dM},st:=st,s:=(oS t n x.14 s).3})))
theorem KD(t n:Int)(x:HPS)(st:STS)(s:MS)(K:HpO→Prop)(h:(CK t n x st s).run K):cT' 152 [.ptr 0 0,.ptr 2 0] [cE' [.ptr 1 0,.I x.u,.int .u64 x.no,.I x.rounds,.I x.limit,.I 7,.int .u64 x.found,.I x.sh,.I x.kd,.I x.ky,.bool x.p.now,.I x.p.code,.bool x.p.okk,.I x.p.val,.I x.p.addr,.int .u64 x.p.old,.I x.p.nxt,.bool x.p.mark,.I x.p.pops,.O,.O,.O,.ptr 4 0,.O],hM 5 t n st,bD 3 s,bE s,some (.abs (.clear t n x.cl) []),hO st] (bP 4 0 [19,20,21,22,23] [(.cell 1 4,.ints (some .i64))] (vT t n) K):=by
 exact cM' (E:=EH0) (by kernel_rfl) h
def CL(t n:Int)(x:HPS)(st:STS)(s:MS):Tr HpO:=.pre ((lE' s.3∧lE' st.3∧t=t∧n=n)∧P3 t n x.15 st s) (.ite (prF t n x.15 st s).1 (.pre ((t=t∧n=n)∧w20∧lE' (PrO.s (prF t n x.15 st s)).3∧lE' (PrO.st (prF t n x.15 st s)).3) (.ret {d:=false,x:= {x with at':=9,ex:=cK,en:=aW,fn:=aS,cl:=cD,pr:=dM},st:=(prF t n x.15 st s).3,s:=(prF t n x.15 st s).4})) (.pre ((t=t∧n=n)∧t=t∧n=n∧(false=false→(8:Int)=(8:Int))∧lE' (PrO.s (prF t n x.15 st s)).3∧lE' (PrO.st (prF t n x.15 st s)).3) (.ret {d:=false,x:= {x with at':=8,ex:=cK,en:=aW,fn:=aS,cl:=cD,pr:=(prF t n x.15 st s).2},st:=(prF t n x.15 st s).3,s:=(prF t n x.15 st s).4})))
theorem KE(t n:Int)(x:HPS)(st:STS)(s:MS)(K:HpO→Prop)(h:(CL t n x st s).run K):cT' 152 [.ptr 0 0,.ptr 2 0] [cE' [.ptr 1 0,.I x.u,.int .u64 x.no,.I x.rounds,.I x.limit,.I 8,.int .u64 x.found,.I x.sh,.I x.kd,.I x.ky,.bool x.p.now,.I x.p.code,.bool x.p.okk,.I x.p.val,.I x.p.addr,.int .u64 x.p.old,.I x.p.nxt,.bool x.p.mark,.I x.p.pops,.O,.O,.O,.O,.ptr 4 0],hM 5 t n st,bD 3 s,bE s,some (.abs (.prepare t n x.pr) [1]),hO st] (bP 4 0 [19,20,21,22,23] [(.cell 1 4,.ints (some .i64))] (vT t n) K):=by
 exact cM' (E:=EH0) (by kernel_rfl) h
abbrev w1v(x:HPS):=gM (HPS.p x).1 (HPS.p x).2 (HPS.p x).3 (HPS.p x).4 (HPS.p x).5 (HPS.p x).6 (HPS.p x).7 (HPS.p x).8 (HPS.p x).9 (aA x.6 0 12)
def CM(t n:Int)(x:HPS)(st:STS)(s:MS):Tr HpO:=.pre True (.pre (yP (HPS.p x).1 (HPS.p x).2 (HPS.p x).3 (HPS.p x).4 (HPS.p x).5 (HPS.p x).6 (HPS.p x).7 (HPS.p x).8 (HPS.p x).9 (aA x.6 0 12)∧True) (.pre (w1y n t x) (.pre ((lE' s.3∧(0:Int)≤s.4∧s.4≤(4611686018427387904:Int))∧True) (.ite (aV s.3 (2*n+5+2*t+3*x.1+2) x.6) (.pre True (.ite (f6 x.8) (.pre ((t=t∧n=n)∧w1w∧lE' (bif aV s.3 (2*n+5+2*t+3*x.1+2) x.6 then aX s.3 (2*n+5+2*t+3*x.1+2) (w1v x).1 else s.3)∧lE' st.3) (.ret {d:=false,x:= {x with at':=0,ex:=cK,en:=aW,fn:=aS,cl:=cD,pr:=dM},st:= {me:=st.1,sp:=0,R:=st.3},s:= {t:=s.1,n:=s.2,xs:=bif aV s.3 (2*n+5+2*t+3*x.1+2) x.6 then aX s.3 (2*n+5+2*t+3*x.1+2) (w1v x).1 else s.3,c:=s.4+1,k:=3,a:=2*n+5+2*t+3*x.1+2,o:=aF s.3 (2*n+5+2*t+3*x.1+2),w:=bif bU s.3 (2*n+5+2*t+3*x.1+2)then(w1v x).1 else 0,ok:=aV s.3 (2*n+5+2*t+3*x.1+2) x.6} })) (.pre ((t=t∧n=n)∧w1w∧lE' (bif aV s.3 (2*n+5+2*t+3*x.1+2) x.6 then aX s.3 (2*n+5+2*t+3*x.1+2) (w1v x).1 else s.3)∧lE' st.3) (.ret {d:=false,x:= {x with at':=0,ex:=cK,en:=aW,fn:=aS,cl:=cD,pr:=dM},st:=st,s:= {t:=s.1,n:=s.2,xs:=bif aV s.3 (2*n+5+2*t+3*x.1+2) x.6 then aX s.3 (2*n+5+2*t+3*x.1+2) (w1v x).1 else s.3,c:=s.4+1,k:=3,a:=2*n+5+2*t+3*x.1+2,o:=aF s.3 (2*n+5+2*t+3*x.1+2),w:=bif bU s.3 (2*n+5+2*t+3*x.1+2)then(w1v x).1 else 0,ok:=aV s.3 (2*n+5+2*t+3*x.1+2) x.6} })))) (.pre ((t=t∧n=n)∧w1w∧lE' (bif aV s.3 (2*n+5+2*t+3*x.1+2) x.6 then aX s.3 (2*n+5+2*t+3*x.1+2) (w1v x).1 else s.3)∧lE' st.3) (.ret {d:=false,x:= {x with at':=0,ex:=cK,en:=aW,fn:=aS,cl:=cD,pr:=dM},st:=st,s:= {t:=s.1,n:=s.2,xs:=bif aV s.3 (2*n+5+2*t+3*x.1+2) x.6 then aX s.3 (2*n+5+2*t+3*x.1+2) (w1v x).1 else s.3,c:=s.4+1,k:=3,a:=2*n+5+2*t+3*x.1+2,o:=aF s.3 (2*n+5+2*t+3*x.1+2),w:=bif bU s.3 (2*n+5+2*t+3*x.1+2)then(w1v x).1 else 0,ok:=aV s.3 (2*n+5+2*t+3*x.1+2) x.6} }))))))
theorem KF(t n:Int)(x:HPS)(st:STS)(s:MS)(K:HpO→Prop)(h:(CM t n x st s).run K):cT' 152 [.ptr 0 0,.ptr 2 0] [cE' [.ptr 1 0,.I x.u,.int .u64 x.no,.I x.rounds,.I x.limit,.I 9,.int .u64 x.found,.I x.sh,.I x.kd,.I x.ky,.bool x.p.now,.I x.p.code,.bool x.p.okk,.I x.p.val,.I x.p.addr,.int .u64 x.p.old,.I x.p.nxt,.bool x.p.mark,.I x.p.pops,.O,.O,.O,.O,.O],hM 4 t n st,bD 3 s,bE s,hO st] (bP 4 0 [19,20,21,22,23] [(.cell 1 4,.ints (some .i64))] (vT t n) K):=by
 exact cM' (E:=EH0) (by kernel_rfl) h
def hpT(t n:Int)(x:HPS)(st:STS)(s:MS):Tr HpO:=
 bif ieq x.at' 0 then CD t n x st s else
 bif ieq x.at' 1 then CE t n x st s else
 bif ieq x.at' 2 then CF t n x st s else
 bif ieq x.at' 3 then CG t n x st s else
 bif ieq x.at' 4 then CH t n x st s else
 bif ieq x.at' 5 then CI t n x st s else
 bif ieq x.at' 6 then CJ t n x st s else
 bif ieq x.at' 7 then CK t n x st s else
 bif ieq x.at' 8 then CL t n x st s else
 bif ieq x.at' 9 then CM t n x st s else .pre False (.ret default)
def gV(t n:Int)(x:HPS)(st:STS)(s:MS):HpO:=(hpT t n x st s).val
def OZ(t n:Int)(x:HPS)(st:STS)(s:MS):Prop:=(hpT t n x st s).ok
theorem HO(t n:Int)(x:HPS)(st:STS)(s:MS)(K:AVal→aC Ob→Prop)(h:(hpT t n x st s).run (fun y=>(HpO.fin t n y).run K)):cT' 152 [.ptr 0 0,.ptr 2 0] (HN t n x st s) K:=by
 unfold hpT at h
 by_cases e:x.at'=0
 ·rw [e]at h;have h:(CD t n x st s).run _:=h;refine aHq (root:=0) (pos:=[19,20,21,22,23]) (cs:=[(.cell 1 4,.ints (some .i64))]) (parse:=vT t n) (fin:=HpO.fin t n) lI ((aR.unpack (.help t n x) 0 1 (lH t n x) [1] rfl (congrArg (Prod.mk 1) (kD ⟨(by omega),(by omega),(by omega),(by omega),(by omega)⟩)) (by kernel_rfl) rfl).trans (aR.unpack (.store t n st) 1 0 (dC t n st) [] rfl rfl rfl rfl)) ?_
  have q:=J6 t n x st s _ h;rw [←e]at q;exact q
 rw [bL e]at h
 by_cases e:x.at'=1
 ·rw [e]at h;have h:(CE t n x st s).run _:=h;refine aHq (root:=0) (pos:=[19,20,21,22,23]) (cs:=[(.cell 1 4,.ints (some .i64))]) (parse:=vT t n) (fin:=HpO.fin t n) lI ((aR.unpack (.help t n x) 0 1 (lH t n x) [1] rfl (congrArg (Prod.mk 1) (kD ⟨(by omega),(by omega),(by omega),(by omega),(by omega)⟩)) (by kernel_rfl) rfl).trans (aR.unpack (.store t n st) 1 0 (dC t n st) [] rfl rfl rfl rfl)) ?_
  have q:=J7 t n x st s _ h;rw [←e]at q;exact q
 rw [bL e]at h
 by_cases e:x.at'=2
 ·rw [e]at h;have h:(CF t n x st s).run _:=h;refine aHq (root:=0) (pos:=[19,20,21,22,23]) (cs:=[(.cell 1 4,.ints (some .i64))]) (parse:=vT t n) (fin:=HpO.fin t n) lI ((aR.unpack (.help t n x) 0 1 (lH t n x) [1] rfl (congrArg (Prod.mk 1) (kD ⟨(by omega),(by omega),(by omega),(by omega),(by omega)⟩)) (by kernel_rfl) rfl).trans (aR.unpack (.store t n st) 1 0 (dC t n st) [] rfl rfl rfl rfl)) ?_
  have q:=J8 t n x st s _ h;rw [←e]at q;exact q
 rw [bL e]at h
 by_cases e:x.at'=3
 ·rw [e]at h;have h:(CG t n x st s).run _:=h;refine aHq (root:=0) (pos:=[19,20,21,22,23]) (cs:=[(.cell 1 4,.ints (some .i64))]) (parse:=vT t n) (fin:=HpO.fin t n) lI ((aR.unpack (.help t n x) 0 1 (nF t n x) [1] rfl (congrArg (Prod.mk 1) (HH e)) (by kernel_rfl) rfl).trans (aR.unpack (.store t n st) 1 0 (dC t n st) [] rfl rfl rfl rfl)) ?_
  have q:=J9 t n x st s _ h;rw [←e]at q;exact q
 rw [bL e]at h
 by_cases e:x.at'=4
 ·rw [e]at h;have h:(CH t n x st s).run _:=h;refine aHq (root:=0) (pos:=[19,20,21,22,23]) (cs:=[(.cell 1 4,.ints (some .i64))]) (parse:=vT t n) (fin:=HpO.fin t n) lI ((aR.unpack (.help t n x) 0 1 (nE t n x) [1] rfl (congrArg (Prod.mk 1) (HJ e)) (by kernel_rfl) rfl).trans (aR.unpack (.store t n st) 1 0 (dC t n st) [] rfl rfl rfl rfl)) ?_
  have q:=KA t n x st s _ h;rw [←e]at q;exact q
 rw [bL e]at h
 by_cases e:x.at'=5
 ·rw [e]at h;have h:(CI t n x st s).run _:=h;refine aHq (root:=0) (pos:=[19,20,21,22,23]) (cs:=[(.cell 1 4,.ints (some .i64))]) (parse:=vT t n) (fin:=HpO.fin t n) lI ((aR.unpack (.help t n x) 0 1 (nG t n x) [1] rfl (congrArg (Prod.mk 1) (HK e)) (by kernel_rfl) rfl).trans (aR.unpack (.store t n st) 1 0 (dC t n st) [] rfl rfl rfl rfl)) ?_
  have q:=KB t n x st s _ h;rw [←e]at q;exact q
 rw [bL e]at h
 by_cases e:x.at'=6
 ·rw [e]at h;have h:(CJ t n x st s).run _:=h;refine aHq (root:=0) (pos:=[19,20,21,22,23]) (cs:=[(.cell 1 4,.ints (some .i64))]) (parse:=vT t n) (fin:=HpO.fin t n) lI ((aR.unpack (.help t n x) 0 1 (lH t n x) [1] rfl (congrArg (Prod.mk 1) (kD ⟨(by omega),(by omega),(by omega),(by omega),(by omega)⟩)) (by kernel_rfl) rfl).trans (aR.unpack (.store t n st) 1 0 (dC t n st) [] rfl rfl rfl rfl)) ?_
  have q:=KC t n x st s _ h;rw [←e]at q;exact q
 rw [bL e]at h
 by_cases e:x.at'=7
 ·rw [e]at h;have h:(CK t n x st s).run _:=h;refine aHq (root:=0) (pos:=[19,20,21,22,23]) (cs:=[(.cell 1 4,.ints (some .i64))]) (parse:=vT t n) (fin:=HpO.fin t n) lI ((aR.unpack (.help t n x) 0 1 (nD t n x) [1] rfl (congrArg (Prod.mk 1) (HL e)) (by kernel_rfl) rfl).trans (aR.unpack (.store t n st) 1 0 (dC t n st) [] rfl rfl rfl rfl)) ?_
  have q:=KD t n x st s _ h;rw [←e]at q;exact q
 rw [bL e]at h
 by_cases e:x.at'=8
 ·rw [e]at h;have h:(CL t n x st s).run _:=h;refine aHq (root:=0) (pos:=[19,20,21,22,23]) (cs:=[(.cell 1 4,.ints (some .i64))]) (parse:=vT t n) (fin:=HpO.fin t n) lI ((aR.unpack (.help t n x) 0 1 (nH t n x) [1] rfl (congrArg (Prod.mk 1) (HM e)) (by kernel_rfl) rfl).trans (aR.unpack (.store t n st) 1 0 (dC t n st) [] rfl rfl rfl rfl)) ?_
  have q:=KE t n x st s _ h;rw [←e]at q;exact q
 rw [bL e]at h
 by_cases e:x.at'=9
 ·rw [e]at h;have h:(CM t n x st s).run _:=h;refine aHq (root:=0) (pos:=[19,20,21,22,23]) (cs:=[(.cell 1 4,.ints (some .i64))]) (parse:=vT t n) (fin:=HpO.fin t n) lI ((aR.unpack (.help t n x) 0 1 (lH t n x) [1] rfl (congrArg (Prod.mk 1) (kD ⟨(by omega),(by omega),(by omega),(by omega),(by omega)⟩)) (by kernel_rfl) rfl).trans (aR.unpack (.store t n st) 1 0 (dC t n st) [] rfl rfl rfl rfl)) ?_
  have q:=KF t n x st s _ h;rw [←e]at q;exact q
 rw [bL e]at h;exact h.1.elim
noncomputable def hpSA:aH Ob:=fun args h=>match args,h with
 | [.ptr 0 0,.ptr 2 0],[some (.abs (.help t n x) [1]),some (.abs (.store t2 n2 st) []),e3,e4]=>(match cO 3 [e3,e4]with
   | some (l,s)=>some (.pre ((l=s.xs.length∧t2=t∧n2=n)∧OZ t n x st s) (HpO.fin t n (gV t n x st s)))
   | none=>none)
 | _,_=>none
theorem aCg:sT' 152 hpSA:=by
 intro args h o ho K hK;unfold hpSA at ho;split at ho
 case h_2=>cases ho
 split at ho<;>cases ho
 rename_i hm;obtain⟨⟨⟨hl,rfl,rfl⟩,ok⟩,hK⟩:=hK;have hh:=bF hm hl;cases hh;exact HO _ _ _ _ _ K (aHw ok hK)
def HpO.finB(t n:Int)(y:HpO):Out Ob:=.ite y.d (.ret (.bool true) ([cE' [.ptr 1 0,.I y.x.u,.int .u64 y.x.no,.I y.x.rounds,.I y.x.limit,.I y.x.at',.int .u64 y.x.found,.I y.x.sh,.I y.x.kd,.I y.x.ky,.bool y.x.p.now,.I y.x.p.code,.bool y.x.p.okk,.I y.x.p.val,.I y.x.p.addr,.int .u64 y.x.p.old,.I y.x.p.nxt,.bool y.x.p.mark,.I y.x.p.pops,.O,.O,.O,.O,.O],hM 5 t n y.st,none,bD 4 y.s,bE y.s,hO y.st])) (.ret (.bool false) [some (.abs (.help t n y.x) [1]),hM 5 t n y.st,none,bD 4 y.s,bE y.s,hO y.st])
noncomputable def hpSB:aH Ob:=fun args h=>match args,h with
 | [.ptr 0 0,.ptr 3 0],[some (.abs (.help t n x) [1]),e1,e2,e3,e4]=>(match lL 2 [e1,e2],cO 4 [e3,e4]with
   | some (l2,t2,n2,st),some (l,s)=>some (.pre ((l=s.xs.length∧l2=st.R.length∧t2=t∧n2=n)∧OZ t n x st s) (HpO.finB t n (gV t n x st s)))
   | _,_=>none)
 | _,_=>none
theorem aCh:sT' 152 hpSB:=by
 intro args h o ho K hK;unfold hpSB at ho;split at ho
 case h_2=>cases ho
 split at ho<;>cases ho
 rename_i hs hm;obtain⟨⟨⟨hl,hl2,rfl,rfl⟩,ok⟩,hK⟩:=hK;have hh:=bF hm hl;cases hh;have hh:=cG hs hl2;cases hh;exact jT (fun ι hι=>by simp [aJ.ren,aHE,AVal.ren,hι]) (fun ι hι=>by simp [aJ.ren,hι]) (fun K hK=>HO _ _ _ _ _ K (aHw ok hK)) K hK
noncomputable def hpS:aH Ob:=aH.or hpSA hpSB
theorem aEV:sT' 152 hpS:=aHM aCg aCh
def aB7(t n:Int)(v:AVal)(g:aC Ob):Option (Prop×(HPS×STS)):=match v,g with
 | .ptr 2 0,[e1,e2,some (.cells [.ptr 0 0,.int .i64 u,.int .u64 no,.int .i64 rounds,.int .i64 limit,.int .i64 at',.int .u64 found,.int .i64 sh,.int .i64 kd,.int .i64 ky,.bool p_now,.int .i64 p_code,.bool p_okk,.int .i64 p_val,.int .i64 p_addr,.int .u64 p_old,.int .i64 p_nxt,.bool p_mark,.int .i64 p_pops,.O,.O,.O,.O,.O])]=>(match lL 1 [e1,e2]with
   | some (l2,t2,n2,st)=>some ((t2=t∧n2=n∧l2=st.R.length)∧(at'≠3∧at'≠4∧at'≠5∧at'≠7∧at'≠8),⟨(⟨u,no,rounds,limit,at',found,sh,kd,ky,⟨p_now,p_code,p_okk,p_val,p_addr,p_old,p_nxt,p_mark,p_pops⟩,cK,aW,aS,⟨0,0,0,0⟩,⟨0,0,0,false⟩⟩:HPS),st⟩)
   | none=>none)
 | _,_=>none
abbrev WK(t n:Int)(y:(HPS×STS)):aC Ob:=[hM 1 t n y.2,hO y.2,some (.abs (.help t n y.1) [0])]
theorem WL{t n:Int} :bX (obI tbl) 2 (aB7 t n) (fun y=>.ret (.ptr 2 0) (WK t n y)):=by
 intro v g p x hp hq K hK;unfold aB7 at hp;split at hp
 case h_2=>cases hp
 rename_i e1 e2 u no rounds limit at' found sh kd ky p_now p_code p_okk p_val p_addr p_old p_nxt p_mark p_pops;split at hp
 case h_2=>cases hp
 rename_i l2 t2 n2 st hs;simp only [sI',pI']at hp;obtain⟨rfl,rfl⟩:=hp;obtain⟨⟨rfl,rfl,hl2⟩,hat⟩:=hq;have hh:=cG hs hl2;cases hh;exact let X0:HPS:=⟨u,no,rounds,limit,at',found,sh,kd,ky,⟨p_now,p_code,p_okk,p_val,p_addr,p_old,p_nxt,p_mark,p_pops⟩,cK,aW,aS,⟨0,0,0,0⟩,⟨0,0,0,false⟩⟩;⟨⟨_,_,aE.pack (WK t2 n2 (X0,st)) (.help t2 n2 X0) 2 1 (lH t2 n2 X0) [0] (by kernel_rfl) rfl (congrArg (Prod.mk 1) (kD hat)) (by kernel_rfl),hK⟩⟩
def J5(t n:Int)(u no lim:Int)(st:STS):Tr (HPS×STS):=.pre ((t=t∧n=n∧lE' st.3)∧(0:Int)≠(3:Int)∧(0:Int)≠(4:Int)∧(0:Int)≠(5:Int)∧(0:Int)≠(7:Int)∧(0:Int)≠(8:Int)) (.ret ({u:=u,no:=no,rounds:=0,limit:=lim,at':=0,found:=0,sh:=0,kd:=0,ky:=0,p:=aDS,ex:=cK,en:=aW,fn:=aS,cl:=cD,pr:=dM},st))
def vZ(t n:Int)(u no lim:Int)(st:STS):(HPS×STS):=(J5 t n u no lim st).val
def CC(t n:Int)(u no lim:Int)(st:STS):Prop:=(J5 t n u no lim st).ok
def hpNS:aH Ob:=fun args h=>match args,h with
 | [.ptr 0 0,.int .i64 u,.int .u64 no,.int .i64 lim],[e1,e2]=>(match lL 1 [e1,e2]with
   | some (l2,t,n,st)=>some (.pre (l2=st.R.length∧CC t n u no lim st) (.ret (.ptr 2 0) (WK t n (vZ t n u no lim st))))
   | none=>none)
 | _,_=>none
theorem aB8:sT' 159 hpNS:=by
 intro args h o ho K hK;unfold hpNS at ho;split at ho
 case h_2=>cases ho
 rename_i u no lim e1 e2;split at ho<;>cases ho
 rename_i l2 t n st hs;obtain⟨⟨hl2,ok⟩,hK⟩:=hK;have hh:=cG hs hl2;cases hh;refine aHC (root:=2) (pos:=[19,20,21,22,23]) (cs:=[]) (parse:=aB7 t n) WL ?_;exact cM' (E:=EH0) (q:=(J5 t n u no lim st).run (fun y=>(Out.ret (.ptr 2 0) (WK t n y)).run K)) (by kernel_rfl) (aHw ok hK)
noncomputable def EH:=((EH0.addS 152 hpS aEV).addS 159 hpNS aB8)
structure DqO where
 d:Bool
 x:DOS
 st:STS
 s:MS
instance:Inhabited DqO:=⟨⟨false,eL,⟨0,0,[]⟩,⟨0,0,[],0,0,0,0,0,false⟩⟩⟩
instance:Inhabited DOS:=⟨eL⟩
abbrev tK(t n:Int)(x:DOS)(st:STS)(s:MS):aC Ob:=[some (.abs (.doer t n x) [1]),some (.abs (.store t n st) []),bD 3 s,bE s]
abbrev wP(t n:Int)(x:DOS)(st:STS)(s:MS):aC Ob:=[cE' [.ptr 1 0,.I x.code,.bool x.okk,.I x.val,.bool x.slow,.I x.sh,.I x.kd,.I x.ky,.I x.limit,.I x.at',.O,.O,.O,.O,.O,.O,.O,.O,.O],some (.abs (.store t n st) []),bD 3 s,bE s]
def DqO.fin(t n:Int)(y:DqO):Out Ob:=.ite y.d (.ret (.bool true) (wP t n y.x y.st y.s)) (.ret (.bool false) (tK t n y.x y.st y.s))
def aAH(t n:Int)(v:AVal)(g:aC Ob):Option (Prop×DqO):=match v,g with
 | .bool d,[some (.cells [.ptr 1 0,.int .i64 code,.bool okk,.int .i64 val,.bool slow,.int .i64 sh,.int .i64 kd,.int .i64 ky,.int .i64 limit,.int .i64 at',.O,.O,.O,.O,.O,.O,.O,.O,.O]),e1,e3,e4,e2]=>(match lL 4 [e1,e2],cO 3 [e3,e4]with
   | some (l2,t2,n2,st),some (l,s)=>some ((t2=t∧n2=n)∧(d=false→at'≠0∧at'≠1∧at'≠5∧at'≠2∧at'≠3∧at'≠4∧at'≠6∧at'≠7∧at'≠8∧at'≠9)∧l=s.xs.length∧l2=st.R.length,⟨d,⟨code,okk,val,slow,sh,kd,ky,limit,at',⟨0,0,0,false⟩,bV,aW,bR,⟨0,0,0,0,false,0⟩,⟨0,false,0,0⟩,aS,⟨0,0⟩,bN⟩,st,s⟩)
   | _,_=>none)
 | _,_=>none
def aAI(t n:Int)(v:AVal)(g:aC Ob):Option (Prop×DqO):=match v,g with
 | .bool d,[some (.cells [.ptr 1 0,.int .i64 code,.bool okk,.int .i64 val,.bool slow,.int .i64 sh,.int .i64 kd,.int .i64 ky,.int .i64 limit,.int .i64 at',.ptr 4 0,.O,.O,.O,.O,.O,.O,.O,.O]),e1,e3,e4,some (.abs (.head t' n' sub) []),e2]=>(match lL 5 [e1,e2],cO 3 [e3,e4]with
   | some (l2,t2,n2,st),some (l,s)=>some ((t2=t∧n2=n)∧t'=t∧n'=n∧(d=false→at'=0)∧l=s.xs.length∧l2=st.R.length,⟨d,⟨code,okk,val,slow,sh,kd,ky,limit,at',sub,bV,aW,bR,⟨0,0,0,0,false,0⟩,⟨0,false,0,0⟩,aS,⟨0,0⟩,bN⟩,st,s⟩)
   | _,_=>none)
 | _,_=>none
def aAJ(t n:Int)(v:AVal)(g:aC Ob):Option (Prop×DqO):=match v,g with
 | .bool d,[some (.cells [.ptr 1 0,.int .i64 code,.bool okk,.int .i64 val,.bool slow,.int .i64 sh,.int .i64 kd,.int .i64 ky,.int .i64 limit,.int .i64 at',.O,.ptr 4 0,.O,.O,.O,.O,.O,.O,.O]),e1,e3,e4,some (.abs (.help t' n' sub) [1]),e2]=>(match lL 5 [e1,e2],cO 3 [e3,e4]with
   | some (l2,t2,n2,st),some (l,s)=>some ((t2=t∧n2=n)∧t'=t∧n'=n∧(d=false→at'=1∨at'=5)∧l=s.xs.length∧l2=st.R.length,⟨d,⟨code,okk,val,slow,sh,kd,ky,limit,at',⟨0,0,0,false⟩,sub,aW,bR,⟨0,0,0,0,false,0⟩,⟨0,false,0,0⟩,aS,⟨0,0⟩,bN⟩,st,s⟩)
   | _,_=>none)
 | _,_=>none
def aAK(t n:Int)(v:AVal)(g:aC Ob):Option (Prop×DqO):=match v,g with
 | .bool d,[some (.cells [.ptr 1 0,.int .i64 code,.bool okk,.int .i64 val,.bool slow,.int .i64 sh,.int .i64 kd,.int .i64 ky,.int .i64 limit,.int .i64 at',.O,.O,.ptr 4 0,.O,.O,.O,.O,.O,.O]),e1,e3,e4,some (.abs (.ensure t' n' sub) [1]),e2]=>(match lL 5 [e1,e2],cO 3 [e3,e4]with
   | some (l2,t2,n2,st),some (l,s)=>some ((t2=t∧n2=n)∧t'=t∧n'=n∧(d=false→at'=2)∧l=s.xs.length∧l2=st.R.length,⟨d,⟨code,okk,val,slow,sh,kd,ky,limit,at',⟨0,0,0,false⟩,bV,sub,bR,⟨0,0,0,0,false,0⟩,⟨0,false,0,0⟩,aS,⟨0,0⟩,bN⟩,st,s⟩)
   | _,_=>none)
 | _,_=>none
def aAL(t n:Int)(v:AVal)(g:aC Ob):Option (Prop×DqO):=match v,g with
 | .bool d,[some (.cells [.ptr 1 0,.int .i64 code,.bool okk,.int .i64 val,.bool slow,.int .i64 sh,.int .i64 kd,.int .i64 ky,.int .i64 limit,.int .i64 at',.O,.O,.O,.ptr 4 0,.O,.O,.O,.O,.O]),e1,e3,e4,some (.abs (.fast t' n' sub) [1]),e2]=>(match lL 5 [e1,e2],cO 3 [e3,e4]with
   | some (l2,t2,n2,st),some (l,s)=>some ((t2=t∧n2=n)∧t'=t∧n'=n∧(d=false→at'=3)∧l=s.xs.length∧l2=st.R.length,⟨d,⟨code,okk,val,slow,sh,kd,ky,limit,at',⟨0,0,0,false⟩,bV,aW,sub,⟨0,0,0,0,false,0⟩,⟨0,false,0,0⟩,aS,⟨0,0⟩,bN⟩,st,s⟩)
   | _,_=>none)
 | _,_=>none
def aAM(t n:Int)(v:AVal)(g:aC Ob):Option (Prop×DqO):=match v,g with
 | .bool d,[some (.cells [.ptr 1 0,.int .i64 code,.bool okk,.int .i64 val,.bool slow,.int .i64 sh,.int .i64 kd,.int .i64 ky,.int .i64 limit,.int .i64 at',.O,.O,.O,.O,.ptr 4 0,.O,.O,.O,.O]),e1,e3,e4,some (.abs (.announce t' n' sub) []),e2]=>(match lL 5 [e1,e2],cO 3 [e3,e4]with
   | some (l2,t2,n2,st),some (l,s)=>some ((t2=t∧n2=n)∧t'=t∧n'=n∧(d=false→at'=4)∧l=s.xs.length∧l2=st.R.length,⟨d,⟨code,okk,val,slow,sh,kd,ky,limit,at',⟨0,0,0,false⟩,bV,aW,bR,sub,⟨0,false,0,0⟩,aS,⟨0,0⟩,bN⟩,st,s⟩)
   | _,_=>none)
 | _,_=>none
def aAN(t n:Int)(v:AVal)(g:aC Ob):Option (Prop×DqO):=match v,g with
 | .bool d,[some (.cells [.ptr 1 0,.int .i64 code,.bool okk,.int .i64 val,.bool slow,.int .i64 sh,.int .i64 kd,.int .i64 ky,.int .i64 limit,.int .i64 at',.O,.O,.O,.O,.O,.ptr 4 0,.O,.O,.O]),e1,e3,e4,some (.abs (.answer t' n' sub) []),e2]=>(match lL 5 [e1,e2],cO 3 [e3,e4]with
   | some (l2,t2,n2,st),some (l,s)=>some ((t2=t∧n2=n)∧t'=t∧n'=n∧(d=false→at'=6)∧l=s.xs.length∧l2=st.R.length,⟨d,⟨code,okk,val,slow,sh,kd,ky,limit,at',⟨0,0,0,false⟩,bV,aW,bR,⟨0,0,0,0,false,0⟩,sub,aS,⟨0,0⟩,bN⟩,st,s⟩)
   | _,_=>none)
 | _,_=>none
def aAO(t n:Int)(v:AVal)(g:aC Ob):Option (Prop×DqO):=match v,g with
 | .bool d,[some (.cells [.ptr 1 0,.int .i64 code,.bool okk,.int .i64 val,.bool slow,.int .i64 sh,.int .i64 kd,.int .i64 ky,.int .i64 limit,.int .i64 at',.O,.O,.O,.O,.O,.O,.ptr 4 0,.O,.O]),e1,e3,e4,some (.abs (.find t' n' sub) []),e2]=>(match lL 5 [e1,e2],cO 3 [e3,e4]with
   | some (l2,t2,n2,st),some (l,s)=>some ((t2=t∧n2=n)∧t'=t∧n'=n∧(d=false→at'=7)∧l=s.xs.length∧l2=st.R.length,⟨d,⟨code,okk,val,slow,sh,kd,ky,limit,at',⟨0,0,0,false⟩,bV,aW,bR,⟨0,0,0,0,false,0⟩,⟨0,false,0,0⟩,sub,⟨0,0⟩,bN⟩,st,s⟩)
   | _,_=>none)
 | _,_=>none
def aAP(t n:Int)(v:AVal)(g:aC Ob):Option (Prop×DqO):=match v,g with
 | .bool d,[some (.cells [.ptr 1 0,.int .i64 code,.bool okk,.int .i64 val,.bool slow,.int .i64 sh,.int .i64 kd,.int .i64 ky,.int .i64 limit,.int .i64 at',.O,.O,.O,.O,.O,.O,.O,.ptr 4 0,.O]),e1,e3,e4,some (.abs (.drop t' n' sub) []),e2]=>(match lL 5 [e1,e2],cO 3 [e3,e4]with
   | some (l2,t2,n2,st),some (l,s)=>some ((t2=t∧n2=n)∧t'=t∧n'=n∧(d=false→at'=8)∧l=s.xs.length∧l2=st.R.length,⟨d,⟨code,okk,val,slow,sh,kd,ky,limit,at',⟨0,0,0,false⟩,bV,aW,bR,⟨0,0,0,0,false,0⟩,⟨0,false,0,0⟩,aS,sub,bN⟩,st,s⟩)
   | _,_=>none)
 | _,_=>none
def aAQ(t n:Int)(v:AVal)(g:aC Ob):Option (Prop×DqO):=match v,g with
 | .bool d,[some (.cells [.ptr 1 0,.int .i64 code,.bool okk,.int .i64 val,.bool slow,.int .i64 sh,.int .i64 kd,.int .i64 ky,.int .i64 limit,.int .i64 at',.O,.O,.O,.O,.O,.O,.O,.O,.ptr 4 0]),e1,e3,e4,some (.abs (.sweep t' n' sub) [1]),e2]=>(match lL 5 [e1,e2],cO 3 [e3,e4]with
   | some (l2,t2,n2,st),some (l,s)=>some ((t2=t∧n2=n)∧t'=t∧n'=n∧(d=false→at'=9)∧l=s.xs.length∧l2=st.R.length,⟨d,⟨code,okk,val,slow,sh,kd,ky,limit,at',⟨0,0,0,false⟩,bV,aW,bR,⟨0,0,0,0,false,0⟩,⟨0,false,0,0⟩,aS,⟨0,0⟩,sub⟩,st,s⟩)
   | _,_=>none)
 | _,_=>none
def vQ(t n:Int)(v:AVal)(g:aC Ob):Option (Prop×DqO):=(match aAH t n v g with
 | some r=>some r
 | none=>(match aAI t n v g with
 | some r=>some r
 | none=>(match aAJ t n v g with
 | some r=>some r
 | none=>(match aAK t n v g with
 | some r=>some r
 | none=>(match aAL t n v g with
 | some r=>some r
 | none=>(match aAM t n v g with
 | some r=>some r
 | none=>(match aAN t n v g with
 | some r=>some r
 | none=>(match aAO t n v g with
 | some r=>some r
 | none=>(match aAP t n v g with
 | some r=>some r
 | none=>aAQ t n v g)))))))))
theorem TO{t n:Int} :bX (obI tbl) 4 (aAH t n) (DqO.fin t n):=by
 intro v g p x hp hq K hK;unfold aAH at hp;split at hp
 case h_2=>cases hp
 rename_i d code okk val slow sh kd ky limit at' e1 e3 e4 e2;split at hp
 case h_2=>cases hp
 rename_i l2 t2 n2 st l s hs hm;simp only [sI',pI']at hp;obtain⟨rfl,rfl⟩:=hp;obtain⟨⟨rfl,rfl⟩,hat,hl,hl2⟩:=hq;have hh:=bF hm hl;cases hh;have hh:=cG hs hl2;cases hh;refine fH hK (fun h=>?_) (fun hd h=>?_)
 ·exact⟨⟨_,_,(aE.pack (wP t2 n2 (⟨code,okk,val,slow,sh,kd,ky,limit,at',⟨0,0,0,false⟩,bV,aW,bR,⟨0,0,0,0,false,0⟩,⟨0,false,0,0⟩,aS,⟨0,0⟩,bN⟩:DOS) st s) (.store t2 n2 st) 1 0 (dC t2 n2 st) [] (by kernel_rfl) rfl rfl (by kernel_rfl)),h⟩⟩
 ·exact let X0:DOS:=⟨code,okk,val,slow,sh,kd,ky,limit,at',⟨0,0,0,false⟩,bV,aW,bR,⟨0,0,0,0,false,0⟩,⟨0,false,0,0⟩,aS,⟨0,0⟩,bN⟩;⟨⟨_,_,((aE.pack (aL (tK t2 n2 X0 st s) 0 1 (l6 t2 n2 X0) [1]) (.store t2 n2 st) 1 0 (dC t2 n2 st) [] (by kernel_rfl) rfl rfl (by kernel_rfl)).trans (aE.pack (tK t2 n2 X0 st s) (.doer t2 n2 X0) 0 1 (l6 t2 n2 X0) [1] (by kernel_rfl) rfl (congrArg (Prod.mk 1) (uE (hat hd))) (by kernel_rfl))),h⟩⟩
theorem TP{t n:Int} :bX (obI tbl) 4 (aAI t n) (DqO.fin t n):=by
 intro v g p x hp hq K hK;unfold aAI at hp;split at hp
 case h_2=>cases hp
 rename_i d code okk val slow sh kd ky limit at' e1 e3 e4 t' n' sub e2;split at hp
 case h_2=>cases hp
 rename_i l2 t2 n2 st l s hs hm;simp only [sI',pI']at hp;obtain⟨rfl,rfl⟩:=hp;obtain⟨⟨rfl,rfl⟩,rfl,rfl,hat,hl,hl2⟩:=hq;have hh:=bF hm hl;cases hh;have hh:=cG hs hl2;cases hh;refine fH hK (fun h=>?_) (fun hd h=>?_)
 ·exact⟨⟨_,_,(aE.weak (cB _ 0 [10,11,12,13,14,15,16,17,18])).trans ((aE.pick [0,1,2,3,5] rfl).trans ((aHv (g2:=aL (wP t' n' (⟨code,okk,val,slow,sh,kd,ky,limit,at',sub,bV,aW,bR,⟨0,0,0,0,false,0⟩,⟨0,false,0,0⟩,aS,⟨0,0⟩,bN⟩:DOS) st s) 1 0 (dC t' n' st) []) (by kernel_rfl) (by kernel_rfl)).trans (aE.pack (wP t' n' (⟨code,okk,val,slow,sh,kd,ky,limit,at',sub,bV,aW,bR,⟨0,0,0,0,false,0⟩,⟨0,false,0,0⟩,aS,⟨0,0⟩,bN⟩:DOS) st s) (.store t' n' st) 1 0 (dC t' n' st) [] (by kernel_rfl) rfl rfl (by kernel_rfl)))),h⟩⟩
 ·exact let X0:DOS:=⟨code,okk,val,slow,sh,kd,ky,limit,at',sub,bV,aW,bR,⟨0,0,0,0,false,0⟩,⟨0,false,0,0⟩,aS,⟨0,0⟩,bN⟩;⟨⟨_,_,((aE.pack (aL (tK t' n' X0 st s) 0 1 (eP t' n' X0) [1]) (.store t' n' st) 1 0 (dC t' n' st) [] (by kernel_rfl) rfl rfl (by kernel_rfl)).trans (aE.pack (tK t' n' X0 st s) (.doer t' n' X0) 0 1 (eP t' n' X0) [1] (by kernel_rfl) rfl (congrArg (Prod.mk 1) (qC (hat hd))) (by kernel_rfl))),h⟩⟩
theorem TQ{t n:Int} :bX (obI tbl) 4 (aAJ t n) (DqO.fin t n):=by
 intro v g p x hp hq K hK;unfold aAJ at hp;split at hp
 case h_2=>cases hp
 rename_i d code okk val slow sh kd ky limit at' e1 e3 e4 t' n' sub e2;split at hp
 case h_2=>cases hp
 rename_i l2 t2 n2 st l s hs hm;simp only [sI',pI']at hp;obtain⟨rfl,rfl⟩:=hp;obtain⟨⟨rfl,rfl⟩,rfl,rfl,hat,hl,hl2⟩:=hq;have hh:=bF hm hl;cases hh;have hh:=cG hs hl2;cases hh;refine fH hK (fun h=>?_) (fun hd h=>?_)
 ·exact⟨⟨_,_,(aE.weak (cB _ 0 [10,11,12,13,14,15,16,17,18])).trans ((aE.pick [0,1,2,3,5] rfl).trans ((aHv (g2:=aL (wP t' n' (⟨code,okk,val,slow,sh,kd,ky,limit,at',⟨0,0,0,false⟩,sub,aW,bR,⟨0,0,0,0,false,0⟩,⟨0,false,0,0⟩,aS,⟨0,0⟩,bN⟩:DOS) st s) 1 0 (dC t' n' st) []) (by kernel_rfl) (by kernel_rfl)).trans (aE.pack (wP t' n' (⟨code,okk,val,slow,sh,kd,ky,limit,at',⟨0,0,0,false⟩,sub,aW,bR,⟨0,0,0,0,false,0⟩,⟨0,false,0,0⟩,aS,⟨0,0⟩,bN⟩:DOS) st s) (.store t' n' st) 1 0 (dC t' n' st) [] (by kernel_rfl) rfl rfl (by kernel_rfl)))),h⟩⟩
 ·rcases hat hd with hat | hat
  ·exact let X0:DOS:=⟨code,okk,val,slow,sh,kd,ky,limit,at',⟨0,0,0,false⟩,sub,aW,bR,⟨0,0,0,0,false,0⟩,⟨0,false,0,0⟩,aS,⟨0,0⟩,bN⟩;⟨⟨_,_,((aE.pack (aL (tK t' n' X0 st s) 0 1 (dJ t' n' X0) [1]) (.store t' n' st) 1 0 (dC t' n' st) [] (by kernel_rfl) rfl rfl (by kernel_rfl)).trans (aE.pack (tK t' n' X0 st s) (.doer t' n' X0) 0 1 (dJ t' n' X0) [1] (by kernel_rfl) rfl (congrArg (Prod.mk 1) (tA hat)) (by kernel_rfl))),h⟩⟩
  ·exact let X0:DOS:=⟨code,okk,val,slow,sh,kd,ky,limit,at',⟨0,0,0,false⟩,sub,aW,bR,⟨0,0,0,0,false,0⟩,⟨0,false,0,0⟩,aS,⟨0,0⟩,bN⟩;⟨⟨_,_,((aE.pack (aL (tK t' n' X0 st s) 0 1 (dJ t' n' X0) [1]) (.store t' n' st) 1 0 (dC t' n' st) [] (by kernel_rfl) rfl rfl (by kernel_rfl)).trans (aE.pack (tK t' n' X0 st s) (.doer t' n' X0) 0 1 (dJ t' n' X0) [1] (by kernel_rfl) rfl (congrArg (Prod.mk 1) (tE hat)) (by kernel_rfl))),h⟩⟩
theorem TR{t n:Int} :bX (obI tbl) 4 (aAK t n) (DqO.fin t n):=by
 intro v g p x hp hq K hK;unfold aAK at hp;split at hp
 case h_2=>cases hp
 rename_i d code okk val slow sh kd ky limit at' e1 e3 e4 t' n' sub e2;split at hp
 case h_2=>cases hp
 rename_i l2 t2 n2 st l s hs hm;simp only [sI',pI']at hp;obtain⟨rfl,rfl⟩:=hp;obtain⟨⟨rfl,rfl⟩,rfl,rfl,hat,hl,hl2⟩:=hq;have hh:=bF hm hl;cases hh;have hh:=cG hs hl2;cases hh;refine fH hK (fun h=>?_) (fun hd h=>?_)
 ·exact⟨⟨_,_,(aE.weak (cB _ 0 [10,11,12,13,14,15,16,17,18])).trans ((aE.pick [0,1,2,3,5] rfl).trans ((aHv (g2:=aL (wP t' n' (⟨code,okk,val,slow,sh,kd,ky,limit,at',⟨0,0,0,false⟩,bV,sub,bR,⟨0,0,0,0,false,0⟩,⟨0,false,0,0⟩,aS,⟨0,0⟩,bN⟩:DOS) st s) 1 0 (dC t' n' st) []) (by kernel_rfl) (by kernel_rfl)).trans (aE.pack (wP t' n' (⟨code,okk,val,slow,sh,kd,ky,limit,at',⟨0,0,0,false⟩,bV,sub,bR,⟨0,0,0,0,false,0⟩,⟨0,false,0,0⟩,aS,⟨0,0⟩,bN⟩:DOS) st s) (.store t' n' st) 1 0 (dC t' n' st) [] (by kernel_rfl) rfl rfl (by kernel_rfl)))),h⟩⟩
 ·exact let X0:DOS:=⟨code,okk,val,slow,sh,kd,ky,limit,at',⟨0,0,0,false⟩,bV,sub,bR,⟨0,0,0,0,false,0⟩,⟨0,false,0,0⟩,aS,⟨0,0⟩,bN⟩;⟨⟨_,_,((aE.pack (aL (tK t' n' X0 st s) 0 1 (fQ t' n' X0) [1]) (.store t' n' st) 1 0 (dC t' n' st) [] (by kernel_rfl) rfl rfl (by kernel_rfl)).trans (aE.pack (tK t' n' X0 st s) (.doer t' n' X0) 0 1 (fQ t' n' X0) [1] (by kernel_rfl) rfl (congrArg (Prod.mk 1) (tB (hat hd))) (by kernel_rfl))),h⟩⟩
theorem TT{t n:Int} :bX (obI tbl) 4 (aAL t n) (DqO.fin t n):=by
 intro v g p x hp hq K hK;unfold aAL at hp;split at hp
 case h_2=>cases hp
 rename_i d code okk val slow sh kd ky limit at' e1 e3 e4 t' n' sub e2;split at hp
 case h_2=>cases hp
 rename_i l2 t2 n2 st l s hs hm;simp only [sI',pI']at hp;obtain⟨rfl,rfl⟩:=hp;obtain⟨⟨rfl,rfl⟩,rfl,rfl,hat,hl,hl2⟩:=hq;have hh:=bF hm hl;cases hh;have hh:=cG hs hl2;cases hh;refine fH hK (fun h=>?_) (fun hd h=>?_)
 ·exact⟨⟨_,_,(aE.weak (cB _ 0 [10,11,12,13,14,15,16,17,18])).trans ((aE.pick [0,1,2,3,5] rfl).trans ((aHv (g2:=aL (wP t' n' (⟨code,okk,val,slow,sh,kd,ky,limit,at',⟨0,0,0,false⟩,bV,aW,sub,⟨0,0,0,0,false,0⟩,⟨0,false,0,0⟩,aS,⟨0,0⟩,bN⟩:DOS) st s) 1 0 (dC t' n' st) []) (by kernel_rfl) (by kernel_rfl)).trans (aE.pack (wP t' n' (⟨code,okk,val,slow,sh,kd,ky,limit,at',⟨0,0,0,false⟩,bV,aW,sub,⟨0,0,0,0,false,0⟩,⟨0,false,0,0⟩,aS,⟨0,0⟩,bN⟩:DOS) st s) (.store t' n' st) 1 0 (dC t' n' st) [] (by kernel_rfl) rfl rfl (by kernel_rfl)))),h⟩⟩
 ·exact let X0:DOS:=⟨code,okk,val,slow,sh,kd,ky,limit,at',⟨0,0,0,false⟩,bV,aW,sub,⟨0,0,0,0,false,0⟩,⟨0,false,0,0⟩,aS,⟨0,0⟩,bN⟩;⟨⟨_,_,((aE.pack (aL (tK t' n' X0 st s) 0 1 (fS t' n' X0) [1]) (.store t' n' st) 1 0 (dC t' n' st) [] (by kernel_rfl) rfl rfl (by kernel_rfl)).trans (aE.pack (tK t' n' X0 st s) (.doer t' n' X0) 0 1 (fS t' n' X0) [1] (by kernel_rfl) rfl (congrArg (Prod.mk 1) (tC (hat hd))) (by kernel_rfl))),h⟩⟩
theorem T0{t n:Int} :bX (obI tbl) 4 (aAM t n) (DqO.fin t n):=by
 intro v g p x hp hq K hK;unfold aAM at hp;split at hp
 case h_2=>cases hp
 rename_i d code okk val slow sh kd ky limit at' e1 e3 e4 t' n' sub e2;split at hp
 case h_2=>cases hp
 rename_i l2 t2 n2 st l s hs hm;simp only [sI',pI']at hp;obtain⟨rfl,rfl⟩:=hp;obtain⟨⟨rfl,rfl⟩,rfl,rfl,hat,hl,hl2⟩:=hq;have hh:=bF hm hl;cases hh;have hh:=cG hs hl2;cases hh;refine fH hK (fun h=>?_) (fun hd h=>?_)
 ·exact⟨⟨_,_,(aE.weak (cB _ 0 [10,11,12,13,14,15,16,17,18])).trans ((aE.pick [0,1,2,3,5] rfl).trans ((aHv (g2:=aL (wP t' n' (⟨code,okk,val,slow,sh,kd,ky,limit,at',⟨0,0,0,false⟩,bV,aW,bR,sub,⟨0,false,0,0⟩,aS,⟨0,0⟩,bN⟩:DOS) st s) 1 0 (dC t' n' st) []) (by kernel_rfl) (by kernel_rfl)).trans (aE.pack (wP t' n' (⟨code,okk,val,slow,sh,kd,ky,limit,at',⟨0,0,0,false⟩,bV,aW,bR,sub,⟨0,false,0,0⟩,aS,⟨0,0⟩,bN⟩:DOS) st s) (.store t' n' st) 1 0 (dC t' n' st) [] (by kernel_rfl) rfl rfl (by kernel_rfl)))),h⟩⟩
 ·exact let X0:DOS:=⟨code,okk,val,slow,sh,kd,ky,limit,at',⟨0,0,0,false⟩,bV,aW,bR,sub,⟨0,false,0,0⟩,aS,⟨0,0⟩,bN⟩;⟨⟨_,_,((aE.pack (aL (tK t' n' X0 st s) 0 1 (fN t' n' X0) [1]) (.store t' n' st) 1 0 (dC t' n' st) [] (by kernel_rfl) rfl rfl (by kernel_rfl)).trans (aE.pack (tK t' n' X0 st s) (.doer t' n' X0) 0 1 (fN t' n' X0) [1] (by kernel_rfl) rfl (congrArg (Prod.mk 1) (tD (hat hd))) (by kernel_rfl))),h⟩⟩
theorem T3{t n:Int} :bX (obI tbl) 4 (aAN t n) (DqO.fin t n):=by
 intro v g p x hp hq K hK;unfold aAN at hp;split at hp
 case h_2=>cases hp
 rename_i d code okk val slow sh kd ky limit at' e1 e3 e4 t' n' sub e2;split at hp
 case h_2=>cases hp
 rename_i l2 t2 n2 st l s hs hm;simp only [sI',pI']at hp;obtain⟨rfl,rfl⟩:=hp;obtain⟨⟨rfl,rfl⟩,rfl,rfl,hat,hl,hl2⟩:=hq;have hh:=bF hm hl;cases hh;have hh:=cG hs hl2;cases hh;refine fH hK (fun h=>?_) (fun hd h=>?_)
 ·exact⟨⟨_,_,(aE.weak (cB _ 0 [10,11,12,13,14,15,16,17,18])).trans ((aE.pick [0,1,2,3,5] rfl).trans ((aHv (g2:=aL (wP t' n' (⟨code,okk,val,slow,sh,kd,ky,limit,at',⟨0,0,0,false⟩,bV,aW,bR,⟨0,0,0,0,false,0⟩,sub,aS,⟨0,0⟩,bN⟩:DOS) st s) 1 0 (dC t' n' st) []) (by kernel_rfl) (by kernel_rfl)).trans (aE.pack (wP t' n' (⟨code,okk,val,slow,sh,kd,ky,limit,at',⟨0,0,0,false⟩,bV,aW,bR,⟨0,0,0,0,false,0⟩,sub,aS,⟨0,0⟩,bN⟩:DOS) st s) (.store t' n' st) 1 0 (dC t' n' st) [] (by kernel_rfl) rfl rfl (by kernel_rfl)))),h⟩⟩
 ·exact let X0:DOS:=⟨code,okk,val,slow,sh,kd,ky,limit,at',⟨0,0,0,false⟩,bV,aW,bR,⟨0,0,0,0,false,0⟩,sub,aS,⟨0,0⟩,bN⟩;⟨⟨_,_,((aE.pack (aL (tK t' n' X0 st s) 0 1 (fO t' n' X0) [1]) (.store t' n' st) 1 0 (dC t' n' st) [] (by kernel_rfl) rfl rfl (by kernel_rfl)).trans (aE.pack (tK t' n' X0 st s) (.doer t' n' X0) 0 1 (fO t' n' X0) [1] (by kernel_rfl) rfl (congrArg (Prod.mk 1) (tF (hat hd))) (by kernel_rfl))),h⟩⟩
theorem T4{t n:Int} :bX (obI tbl) 4 (aAO t n) (DqO.fin t n):=by
 intro v g p x hp hq K hK;unfold aAO at hp;split at hp
 case h_2=>cases hp
 rename_i d code okk val slow sh kd ky limit at' e1 e3 e4 t' n' sub e2;split at hp
 case h_2=>cases hp
 rename_i l2 t2 n2 st l s hs hm;simp only [sI',pI']at hp;obtain⟨rfl,rfl⟩:=hp;obtain⟨⟨rfl,rfl⟩,rfl,rfl,hat,hl,hl2⟩:=hq;have hh:=bF hm hl;cases hh;have hh:=cG hs hl2;cases hh;refine fH hK (fun h=>?_) (fun hd h=>?_)
 ·exact⟨⟨_,_,(aE.weak (cB _ 0 [10,11,12,13,14,15,16,17,18])).trans ((aE.pick [0,1,2,3,5] rfl).trans ((aHv (g2:=aL (wP t' n' (⟨code,okk,val,slow,sh,kd,ky,limit,at',⟨0,0,0,false⟩,bV,aW,bR,⟨0,0,0,0,false,0⟩,⟨0,false,0,0⟩,sub,⟨0,0⟩,bN⟩:DOS) st s) 1 0 (dC t' n' st) []) (by kernel_rfl) (by kernel_rfl)).trans (aE.pack (wP t' n' (⟨code,okk,val,slow,sh,kd,ky,limit,at',⟨0,0,0,false⟩,bV,aW,bR,⟨0,0,0,0,false,0⟩,⟨0,false,0,0⟩,sub,⟨0,0⟩,bN⟩:DOS) st s) (.store t' n' st) 1 0 (dC t' n' st) [] (by kernel_rfl) rfl rfl (by kernel_rfl)))),h⟩⟩
 ·exact let X0:DOS:=⟨code,okk,val,slow,sh,kd,ky,limit,at',⟨0,0,0,false⟩,bV,aW,bR,⟨0,0,0,0,false,0⟩,⟨0,false,0,0⟩,sub,⟨0,0⟩,bN⟩;⟨⟨_,_,((aE.pack (aL (tK t' n' X0 st s) 0 1 (fR t' n' X0) [1]) (.store t' n' st) 1 0 (dC t' n' st) [] (by kernel_rfl) rfl rfl (by kernel_rfl)).trans (aE.pack (tK t' n' X0 st s) (.doer t' n' X0) 0 1 (fR t' n' X0) [1] (by kernel_rfl) rfl (congrArg (Prod.mk 1) (tG (hat hd))) (by kernel_rfl))),h⟩⟩
theorem T6{t n:Int} :bX (obI tbl) 4 (aAP t n) (DqO.fin t n):=by
 intro v g p x hp hq K hK;unfold aAP at hp;split at hp
 case h_2=>cases hp
 rename_i d code okk val slow sh kd ky limit at' e1 e3 e4 t' n' sub e2;split at hp
 case h_2=>cases hp
 rename_i l2 t2 n2 st l s hs hm;simp only [sI',pI']at hp;obtain⟨rfl,rfl⟩:=hp;obtain⟨⟨rfl,rfl⟩,rfl,rfl,hat,hl,hl2⟩:=hq;have hh:=bF hm hl;cases hh;have hh:=cG hs hl2;cases hh;refine fH hK (fun h=>?_) (fun hd h=>?_)
 ·exact⟨⟨_,_,(aE.weak (cB _ 0 [10,11,12,13,14,15,16,17,18])).trans ((aE.pick [0,1,2,3,5] rfl).trans ((aHv (g2:=aL (wP t' n' (⟨code,okk,val,slow,sh,kd,ky,limit,at',⟨0,0,0,false⟩,bV,aW,bR,⟨0,0,0,0,false,0⟩,⟨0,false,0,0⟩,aS,sub,bN⟩:DOS) st s) 1 0 (dC t' n' st) []) (by kernel_rfl) (by kernel_rfl)).trans (aE.pack (wP t' n' (⟨code,okk,val,slow,sh,kd,ky,limit,at',⟨0,0,0,false⟩,bV,aW,bR,⟨0,0,0,0,false,0⟩,⟨0,false,0,0⟩,aS,sub,bN⟩:DOS) st s) (.store t' n' st) 1 0 (dC t' n' st) [] (by kernel_rfl) rfl rfl (by kernel_rfl)))),h⟩⟩
 ·exact let X0:DOS:=⟨code,okk,val,slow,sh,kd,ky,limit,at',⟨0,0,0,false⟩,bV,aW,bR,⟨0,0,0,0,false,0⟩,⟨0,false,0,0⟩,aS,sub,bN⟩;⟨⟨_,_,((aE.pack (aL (tK t' n' X0 st s) 0 1 (fP t' n' X0) [1]) (.store t' n' st) 1 0 (dC t' n' st) [] (by kernel_rfl) rfl rfl (by kernel_rfl)).trans (aE.pack (tK t' n' X0 st s) (.doer t' n' X0) 0 1 (fP t' n' X0) [1] (by kernel_rfl) rfl (congrArg (Prod.mk 1) (tH (hat hd))) (by kernel_rfl))),h⟩⟩
theorem T7{t n:Int} :bX (obI tbl) 4 (aAQ t n) (DqO.fin t n):=by
 intro v g p x hp hq K hK;unfold aAQ at hp;split at hp
 case h_2=>cases hp
 rename_i d code okk val slow sh kd ky limit at' e1 e3 e4 t' n' sub e2;split at hp
 case h_2=>cases hp
 rename_i l2 t2 n2 st l s hs hm;simp only [sI',pI']at hp;obtain⟨rfl,rfl⟩:=hp;obtain⟨⟨rfl,rfl⟩,rfl,rfl,hat,hl,hl2⟩:=hq;have hh:=bF hm hl;cases hh;have hh:=cG hs hl2;cases hh;refine fH hK (fun h=>?_) (fun hd h=>?_)
 ·exact⟨⟨_,_,(aE.weak (cB _ 0 [10,11,12,13,14,15,16,17,18])).trans ((aE.pick [0,1,2,3,5] rfl).trans ((aHv (g2:=aL (wP t' n' (⟨code,okk,val,slow,sh,kd,ky,limit,at',⟨0,0,0,false⟩,bV,aW,bR,⟨0,0,0,0,false,0⟩,⟨0,false,0,0⟩,aS,⟨0,0⟩,sub⟩:DOS) st s) 1 0 (dC t' n' st) []) (by kernel_rfl) (by kernel_rfl)).trans (aE.pack (wP t' n' (⟨code,okk,val,slow,sh,kd,ky,limit,at',⟨0,0,0,false⟩,bV,aW,bR,⟨0,0,0,0,false,0⟩,⟨0,false,0,0⟩,aS,⟨0,0⟩,sub⟩:DOS) st s) (.store t' n' st) 1 0 (dC t' n' st) [] (by kernel_rfl) rfl rfl (by kernel_rfl)))),h⟩⟩
 ·exact let X0:DOS:=⟨code,okk,val,slow,sh,kd,ky,limit,at',⟨0,0,0,false⟩,bV,aW,bR,⟨0,0,0,0,false,0⟩,⟨0,false,0,0⟩,aS,⟨0,0⟩,sub⟩;⟨⟨_,_,((aE.pack (aL (tK t' n' X0 st s) 0 1 (fT t' n' X0) [1]) (.store t' n' st) 1 0 (dC t' n' st) [] (by kernel_rfl) rfl rfl (by kernel_rfl)).trans (aE.pack (tK t' n' X0 st s) (.doer t' n' X0) 0 1 (fT t' n' X0) [1] (by kernel_rfl) rfl (congrArg (Prod.mk 1) (tI (hat hd))) (by kernel_rfl))),h⟩⟩
theorem lC{t n:Int} :bX (obI tbl) 4 (vQ t n) (DqO.fin t n):=by
 intro v g p x hp hq K hK;unfold vQ at hp;split at hp
 ·rename_i r hr;cases hp;exact TO v g p x hr hq K hK
 split at hp
 ·rename_i r hr;cases hp;exact TP v g p x hr hq K hK
 split at hp
 ·rename_i r hr;cases hp;exact TQ v g p x hr hq K hK
 split at hp
 ·rename_i r hr;cases hp;exact TR v g p x hr hq K hK
 split at hp
 ·rename_i r hr;cases hp;exact TT v g p x hr hq K hK
 split at hp
 ·rename_i r hr;cases hp;exact T0 v g p x hr hq K hK
 split at hp
 ·rename_i r hr;cases hp;exact T3 v g p x hr hq K hK
 split at hp
 ·rename_i r hr;cases hp;exact T4 v g p x hr hq K hK
 split at hp
 ·rename_i r hr;cases hp;exact T6 v g p x hr hq K hK
 exact T7 v g p x hp hq K hK
abbrev w26:=false=false→(3:Int)=(3:Int)
abbrev w27(n:Int)(s:MS)(st:STS)(t:Int)(x:DOS):Tr DqO:=.ret {d:=false,x:= {x with at':=3,hd:=d6,hp:=bV,en:=aW,ft:=(kB t n x.5 x.6 x.7 x.8 st).1,an:=d4,aw:=d5,fn:=aS,dr:=fC,sw:=bN},st:=(kB t n x.5 x.6 x.7 x.8 st).2,s:=(pU t n x.10 s).3}
abbrev w28(x:DOS):=!cA x.5 x.6 x.7
abbrev w2b:=false=false→(2:Int)=(2:Int)
abbrev w2d(n:Int)(s:MS)(st:STS)(t:Int)(x:DOS):=vZ t n (HdO.x (pU t n x.10 s)).1 (HdO.x (pU t n x.10 s)).2 x.8 st
abbrev w2e:=false=false→(1:Int)=(1:Int)∨(1:Int)=(5:Int)
def AM(t n:Int)(x:DOS)(st:STS)(s:MS):Tr DqO:=.pre True (.ite (w28 x) (.pre (lE' s.3∧(0:Int)≤s.4∧s.4≤(4611686018427387904:Int)) (.pre ((t=t∧n=n)∧t=t∧n=n∧(true=false→(0:Int)=(0:Int))∧lE' s.3∧lE' st.3) (.ret {d:=true,x:= {x with code:=1,okk:=false,val:=0,at':=0,hp:=bV,en:=aW,ft:=bR,an:=d4,aw:=d5,fn:=aS,dr:=fC,sw:=bN},st:=st,s:= {s with c:=s.4+1,k:=1,a:=0,o:=aF s.3 0,w:=aF s.3 0,ok:=bU s.3 0} }))) (.pre (lE' s.3∧aB1 t n x.10 s) (.ite (pU t n x.10 s).1 (.ite (ilt (HdO.x (pU t n x.10 s)).1 0) (.pre True (.ite (f6 x.6) (.ite (ieq st.2 0) (.pre (lE' st.3∧(t=t∧n=n∧lE' st.3)∧True) (.pre ((t=t∧n=n)∧t=t∧n=n∧w2b∧lE' (HdO.s (pU t n x.10 s)).3∧lE' st.3) (.ret {d:=false,x:= {x with at':=2,hd:=d6,hp:=bV,en:=aW,ft:=bR,an:=d4,aw:=d5,fn:=aS,dr:=fC,sw:=bN},st:=st,s:=(pU t n x.10 s).3}))) (.pre ((lE' st.3∧uN t n x.5 x.6 x.7 x.8 st)∧True) (.pre ((t=t∧n=n)∧t=t∧n=n∧w26∧lE' (HdO.s (pU t n x.10 s)).3∧lE' (Prod.snd (kB t n x.5 x.6 x.7 x.8 st)).3) (w27 n s st t x)))) (.pre ((lE' st.3∧uN t n x.5 x.6 x.7 x.8 st)∧True) (.pre ((t=t∧n=n)∧t=t∧n=n∧w26∧lE' (HdO.s (pU t n x.10 s)).3∧lE' (Prod.snd (kB t n x.5 x.6 x.7 x.8 st)).3) (w27 n s st t x))))) (.pre ((lE' st.3∧CC t n (HdO.x (pU t n x.10 s)).1 (HdO.x (pU t n x.10 s)).2 x.8 st)∧True) (.pre ((t=t∧n=n)∧t=t∧n=n∧w2e∧lE' (HdO.s (pU t n x.10 s)).3∧lE' (Prod.snd (w2d n s st t x)).3) (.ret {d:=false,x:= {x with at':=1,hd:=d6,hp:=(w2d n s st t x).1,en:=aW,ft:=bR,an:=d4,aw:=d5,fn:=aS,dr:=fC,sw:=bN},st:=(w2d n s st t x).2,s:=(pU t n x.10 s).3})))) (.pre ((t=t∧n=n)∧t=t∧n=n∧(false=false→(0:Int)=(0:Int))∧lE' (HdO.s (pU t n x.10 s)).3∧lE' st.3) (.ret {d:=false,x:= {x with at':=0,hd:=(pU t n x.10 s).2,hp:=bV,en:=aW,ft:=bR,an:=d4,aw:=d5,fn:=aS,dr:=fC,sw:=bN},st:=st,s:=(pU t n x.10 s).3})))))
theorem IT(t n:Int)(x:DOS)(st:STS)(s:MS)(K:DqO→Prop)(h:(AM t n x st s).run K):cT' 104 [.ptr 0 0,.ptr 2 0] [cE' [.ptr 1 0,.I x.code,.bool x.okk,.I x.val,.bool x.slow,.I x.sh,.I x.kd,.I x.ky,.I x.limit,.I 0,.ptr 4 0,.O,.O,.O,.O,.O,.O,.O,.O],hM 5 t n st,bD 3 s,bE s,some (.abs (.head t n x.hd) []),hO st] (bP 4 0 [10,11,12,13,14,15,16,17,18] [(.cell 1 4,.ints (some .i64))] (vQ t n) K):=by
 exact cM' (E:=EH) (by kernel_rfl) h
abbrev w25(n:Int)(s:MS)(st:STS)(t:Int)(x:DOS):Tr DqO:=.ret {d:=false,x:= {x with at':=3,hd:=d6,hp:=bV,en:=aW,ft:=(kB t n x.5 x.6 x.7 x.8 (gV t n x.11 st s).3).1,an:=d4,aw:=d5,fn:=aS,dr:=fC,sw:=bN},st:=(kB t n x.5 x.6 x.7 x.8 (gV t n x.11 st s).3).2,s:=(gV t n x.11 st s).4}
abbrev w2a(n:Int)(s:MS)(st:STS)(t:Int)(x:DOS):=HpO.st (gV t n x.11 st s)
def AN(t n:Int)(x:DOS)(st:STS)(s:MS):Tr DqO:=.pre True (.ite (w28 x) (.pre (lE' s.3∧(0:Int)≤s.4∧s.4≤(4611686018427387904:Int)) (.pre ((t=t∧n=n)∧t=t∧n=n∧(true=false→(1:Int)=(1:Int)∨(1:Int)=(5:Int))∧lE' s.3∧lE' st.3) (.ret {d:=true,x:= {x with code:=1,okk:=false,val:=0,at':=1,hd:=d6,en:=aW,ft:=bR,an:=d4,aw:=d5,fn:=aS,dr:=fC,sw:=bN},st:=st,s:= {s with c:=s.4+1,k:=1,a:=0,o:=aF s.3 0,w:=aF s.3 0,ok:=bU s.3 0} }))) (.pre ((lE' s.3∧lE' st.3∧t=t∧n=n)∧OZ t n x.11 st s) (.ite (gV t n x.11 st s).1 (.pre True (.ite (f6 x.6) (.ite (ieq (w2a n s st t x).2 0) (.pre (lE' (w2a n s st t x).3∧(t=t∧n=n∧lE' (w2a n s st t x).3)∧True) (.pre ((t=t∧n=n)∧t=t∧n=n∧w2b∧lE' (HpO.s (gV t n x.11 st s)).3∧lE' (w2a n s st t x).3) (.ret {d:=false,x:= {x with at':=2,hd:=d6,hp:=bV,en:=aW,ft:=bR,an:=d4,aw:=d5,fn:=aS,dr:=fC,sw:=bN},st:=(gV t n x.11 st s).3,s:=(gV t n x.11 st s).4}))) (.pre ((lE' (w2a n s st t x).3∧uN t n x.5 x.6 x.7 x.8 (gV t n x.11 st s).3)∧True) (.pre ((t=t∧n=n)∧t=t∧n=n∧w26∧lE' (HpO.s (gV t n x.11 st s)).3∧lE' (Prod.snd (kB t n x.5 x.6 x.7 x.8 (gV t n x.11 st s).3)).3) (w25 n s st t x)))) (.pre ((lE' (w2a n s st t x).3∧uN t n x.5 x.6 x.7 x.8 (gV t n x.11 st s).3)∧True) (.pre ((t=t∧n=n)∧t=t∧n=n∧w26∧lE' (HpO.s (gV t n x.11 st s)).3∧lE' (Prod.snd (kB t n x.5 x.6 x.7 x.8 (gV t n x.11 st s).3)).3) (w25 n s st t x))))) (.pre ((t=t∧n=n)∧t=t∧n=n∧w2e∧lE' (HpO.s (gV t n x.11 st s)).3∧lE' (w2a n s st t x).3) (.ret {d:=false,x:= {x with at':=1,hd:=d6,hp:=(gV t n x.11 st s).2,en:=aW,ft:=bR,an:=d4,aw:=d5,fn:=aS,dr:=fC,sw:=bN},st:=(gV t n x.11 st s).3,s:=(gV t n x.11 st s).4})))))
theorem IU(t n:Int)(x:DOS)(st:STS)(s:MS)(K:DqO→Prop)(h:(AN t n x st s).run K):cT' 104 [.ptr 0 0,.ptr 2 0] [cE' [.ptr 1 0,.I x.code,.bool x.okk,.I x.val,.bool x.slow,.I x.sh,.I x.kd,.I x.ky,.I x.limit,.I 1,.O,.ptr 4 0,.O,.O,.O,.O,.O,.O,.O],hM 5 t n st,bD 3 s,bE s,some (.abs (.help t n x.hp) [1]),hO st] (bP 4 0 [10,11,12,13,14,15,16,17,18] [(.cell 1 4,.ints (some .i64))] (vQ t n) K):=by
 exact cM' (E:=EH) (by kernel_rfl) h
abbrev w23:=false=false→(8:Int)=(8:Int)
def AO(t n:Int)(x:DOS)(st:STS)(s:MS):Tr DqO:=.pre True (.ite (w28 x) (.pre (lE' s.3∧(0:Int)≤s.4∧s.4≤(4611686018427387904:Int)) (.pre ((t=t∧n=n)∧t=t∧n=n∧(true=false→(2:Int)=(2:Int))∧lE' s.3∧lE' st.3) (.ret {d:=true,x:= {x with code:=1,okk:=false,val:=0,at':=2,hd:=d6,hp:=bV,ft:=bR,an:=d4,aw:=d5,fn:=aS,dr:=fC,sw:=bN},st:=st,s:= {s with c:=s.4+1,k:=1,a:=0,o:=aF s.3 0,w:=aF s.3 0,ok:=bU s.3 0} }))) (.pre ((lE' s.3∧lE' st.3∧t=t∧n=n)∧KM t n (DOS.en x) st s) (.ite (enF t n x.12 st s).1 (.ite (EO.e (enF t n x.12 st s)).2 (.pre (sH t n (EO.st (enF t n x.12 st s)).1∧True) (.pre ((t=t∧n=n)∧t=t∧n=n∧w23∧lE' (EO.s (enF t n x.12 st s)).3∧lE' (EO.st (enF t n x.12 st s)).3) (.ret {d:=false,x:= {x with code:=4,okk:=false,val:=0,at':=8,hd:=d6,hp:=bV,en:=aW,ft:=bR,an:=d4,aw:=d5,fn:=aS,dr:=AW t n (EO.st (enF t n x.12 st s)).1,sw:=bN},st:=(enF t n x.12 st s).3,s:=(enF t n x.12 st s).4}))) (.pre ((lE' (EO.st (enF t n x.12 st s)).3∧uN t n x.5 x.6 x.7 x.8 (enF t n x.12 st s).3)∧True) (.pre ((t=t∧n=n)∧t=t∧n=n∧w26∧lE' (EO.s (enF t n x.12 st s)).3∧lE' (Prod.snd (kB t n x.5 x.6 x.7 x.8 (enF t n x.12 st s).3)).3) (.ret {d:=false,x:= {x with at':=3,hd:=d6,hp:=bV,en:=aW,ft:=(kB t n x.5 x.6 x.7 x.8 (enF t n x.12 st s).3).1,an:=d4,aw:=d5,fn:=aS,dr:=fC,sw:=bN},st:=(kB t n x.5 x.6 x.7 x.8 (enF t n x.12 st s).3).2,s:=(enF t n x.12 st s).4})))) (.pre ((t=t∧n=n)∧t=t∧n=n∧w2b∧lE' (EO.s (enF t n x.12 st s)).3∧lE' (EO.st (enF t n x.12 st s)).3) (.ret {d:=false,x:= {x with at':=2,hd:=d6,hp:=bV,en:=(enF t n x.12 st s).2,ft:=bR,an:=d4,aw:=d5,fn:=aS,dr:=fC,sw:=bN},st:=(enF t n x.12 st s).3,s:=(enF t n x.12 st s).4})))))
theorem IV(t n:Int)(x:DOS)(st:STS)(s:MS)(K:DqO→Prop)(h:(AO t n x st s).run K):cT' 104 [.ptr 0 0,.ptr 2 0] [cE' [.ptr 1 0,.I x.code,.bool x.okk,.I x.val,.bool x.slow,.I x.sh,.I x.kd,.I x.ky,.I x.limit,.I 2,.O,.O,.ptr 4 0,.O,.O,.O,.O,.O,.O],hM 5 t n st,bD 3 s,bE s,some (.abs (.ensure t n x.en) [1]),hO st] (bP 4 0 [10,11,12,13,14,15,16,17,18] [(.cell 1 4,.ints (some .i64))] (vQ t n) K):=by
 exact cM' (E:=EH) (by kernel_rfl) h
abbrev w29(n:Int)(s:MS)(st:STS)(t:Int)(x:DOS):=FtO.st (iE t n x.13 st s)
abbrev w22(n:Int)(s:MS)(st:STS)(t:Int)(x:DOS):Tr DqO:=.ret {d:=false,x:= {x with code:=(FtO.x (iE t n x.13 st s)).1,okk:=(FtO.x (iE t n x.13 st s)).2,val:=(FtO.x (iE t n x.13 st s)).3,at':=8,hd:=d6,hp:=bV,en:=aW,ft:=bR,an:=d4,aw:=d5,fn:=aS,dr:=AW t n (w29 n s st t x).1,sw:=bN},st:=(iE t n x.13 st s).3,s:=(iE t n x.13 st s).4}
abbrev w2c:=false=false→(7:Int)=(7:Int)
def AP(t n:Int)(x:DOS)(st:STS)(s:MS):Tr DqO:=.pre True (.ite (w28 x) (.pre (lE' s.3∧(0:Int)≤s.4∧s.4≤(4611686018427387904:Int)) (.pre ((t=t∧n=n)∧t=t∧n=n∧(true=false→(3:Int)=(3:Int))∧lE' s.3∧lE' st.3) (.ret {d:=true,x:= {x with code:=1,okk:=false,val:=0,at':=3,hd:=d6,hp:=bV,en:=aW,an:=d4,aw:=d5,fn:=aS,dr:=fC,sw:=bN},st:=st,s:= {s with c:=s.4+1,k:=1,a:=0,o:=aF s.3 0,w:=aF s.3 0,ok:=bU s.3 0} }))) (.pre ((lE' s.3∧lE' st.3∧t=t∧n=n)∧U8 t n x.13 st s) (.ite (iE t n x.13 st s).1 (.ite (!(FtO.x (iE t n x.13 st s)).4) (.ite (!(FtO.x (iE t n x.13 st s)).2) (.pre (sH t n (w29 n s st t x).1∧True) (.pre ((t=t∧n=n)∧t=t∧n=n∧w23∧lE' (FtO.s (iE t n x.13 st s)).3∧lE' (w29 n s st t x).3) (w22 n s st t x))) (.pre True (.ite (!uO x.5 x.6) (.pre (sH t n (w29 n s st t x).1∧True) (.pre ((t=t∧n=n)∧t=t∧n=n∧w23∧lE' (FtO.s (iE t n x.13 st s)).3∧lE' (w29 n s st t x).3) (w22 n s st t x))) (.pre True (.pre (oT t n (w29 n s st t x).1 (fG x.5 x.7) (mA x.5 x.6 x.7) x.8∧True) (.pre ((t=t∧n=n)∧t=t∧n=n∧w2c∧lE' (FtO.s (iE t n x.13 st s)).3∧lE' (w29 n s st t x).3) (.ret {d:=false,x:= {x with code:=(FtO.x (iE t n x.13 st s)).1,okk:=(FtO.x (iE t n x.13 st s)).2,val:=(FtO.x (iE t n x.13 st s)).3,at':=7,hd:=d6,hp:=bV,en:=aW,ft:=bR,an:=d4,aw:=d5,fn:=uM t n (w29 n s st t x).1 (fG x.5 x.7) (mA x.5 x.6 x.7) x.8,dr:=fC,sw:=bN},st:=(iE t n x.13 st s).3,s:=(iE t n x.13 st s).4}))))))) (.pre (MG t n (w29 n s st t x).1 x.5 x.6 x.7∧True) (.pre ((t=t∧n=n)∧t=t∧n=n∧(false=false→(4:Int)=(4:Int))∧lE' (FtO.s (iE t n x.13 st s)).3∧lE' (w29 n s st t x).3) (.ret {d:=false,x:= {x with slow:=true,at':=4,hd:=d6,hp:=bV,en:=aW,ft:=bR,an:=aAc t n (w29 n s st t x).1 x.5 x.6 x.7,aw:=d5,fn:=aS,dr:=fC,sw:=bN},st:=(iE t n x.13 st s).3,s:=(iE t n x.13 st s).4})))) (.pre ((t=t∧n=n)∧t=t∧n=n∧w26∧lE' (FtO.s (iE t n x.13 st s)).3∧lE' (w29 n s st t x).3) (.ret {d:=false,x:= {x with at':=3,hd:=d6,hp:=bV,en:=aW,ft:=(iE t n x.13 st s).2,an:=d4,aw:=d5,fn:=aS,dr:=fC,sw:=bN},st:=(iE t n x.13 st s).3,s:=(iE t n x.13 st s).4})))))
theorem IW(t n:Int)(x:DOS)(st:STS)(s:MS)(K:DqO→Prop)(h:(AP t n x st s).run K):cT' 104 [.ptr 0 0,.ptr 2 0] [cE' [.ptr 1 0,.I x.code,.bool x.okk,.I x.val,.bool x.slow,.I x.sh,.I x.kd,.I x.ky,.I x.limit,.I 3,.O,.O,.O,.ptr 4 0,.O,.O,.O,.O,.O],hM 5 t n st,bD 3 s,bE s,some (.abs (.fast t n x.ft) [1]),hO st] (bP 4 0 [10,11,12,13,14,15,16,17,18] [(.cell 1 4,.ints (some .i64))] (vQ t n) K):=by
 exact cM' (E:=EH) (by kernel_rfl) h
abbrev w2f:=false=false→(5:Int)=(1:Int)∨(5:Int)=(5:Int)
def AQ(t n:Int)(x:DOS)(st:STS)(s:MS):Tr DqO:=.pre True (.ite (w28 x) (.pre (lE' s.3∧(0:Int)≤s.4∧s.4≤(4611686018427387904:Int)) (.pre ((t=t∧n=n)∧t=t∧n=n∧(true=false→(4:Int)=(4:Int))∧lE' s.3∧lE' st.3) (.ret {d:=true,x:= {x with code:=1,okk:=false,val:=0,at':=4,hd:=d6,hp:=bV,en:=aW,ft:=bR,aw:=d5,fn:=aS,dr:=fC,sw:=bN},st:=st,s:= {s with c:=s.4+1,k:=1,a:=0,o:=aF s.3 0,w:=aF s.3 0,ok:=bU s.3 0} }))) (.pre (lE' s.3∧aAg t n x.14 s) (.ite (D5 t n x.14 s).1 (.pre ((lE' st.3∧CC t n st.1 (AnO.x (D5 t n x.14 s)).1 x.8 st)∧True) (.pre ((t=t∧n=n)∧t=t∧n=n∧w2f∧lE' (AnO.s (D5 t n x.14 s)).3∧lE' (Prod.snd (vZ t n st.1 (AnO.x (D5 t n x.14 s)).1 x.8 st)).3) (.ret {d:=false,x:= {x with at':=5,hd:=d6,hp:=(vZ t n st.1 (AnO.x (D5 t n x.14 s)).1 x.8 st).1,en:=aW,ft:=bR,an:=d4,aw:=d5,fn:=aS,dr:=fC,sw:=bN},st:=(vZ t n st.1 (AnO.x (D5 t n x.14 s)).1 x.8 st).2,s:=(D5 t n x.14 s).3}))) (.pre ((t=t∧n=n)∧t=t∧n=n∧(false=false→(4:Int)=(4:Int))∧lE' (AnO.s (D5 t n x.14 s)).3∧lE' st.3) (.ret {d:=false,x:= {x with at':=4,hd:=d6,hp:=bV,en:=aW,ft:=bR,an:=(D5 t n x.14 s).2,aw:=d5,fn:=aS,dr:=fC,sw:=bN},st:=st,s:=(D5 t n x.14 s).3})))))
theorem IX(t n:Int)(x:DOS)(st:STS)(s:MS)(K:DqO→Prop)(h:(AQ t n x st s).run K):cT' 104 [.ptr 0 0,.ptr 2 0] [cE' [.ptr 1 0,.I x.code,.bool x.okk,.I x.val,.bool x.slow,.I x.sh,.I x.kd,.I x.ky,.I x.limit,.I 4,.O,.O,.O,.O,.ptr 4 0,.O,.O,.O,.O],hM 5 t n st,bD 3 s,bE s,some (.abs (.announce t n x.an) []),hO st] (bP 4 0 [10,11,12,13,14,15,16,17,18] [(.cell 1 4,.ints (some .i64))] (vQ t n) K):=by
 exact cM' (E:=EH) (by kernel_rfl) h
def AR(t n:Int)(x:DOS)(st:STS)(s:MS):Tr DqO:=.pre True (.ite (w28 x) (.pre (lE' s.3∧(0:Int)≤s.4∧s.4≤(4611686018427387904:Int)) (.pre ((t=t∧n=n)∧t=t∧n=n∧(true=false→(5:Int)=(1:Int)∨(5:Int)=(5:Int))∧lE' s.3∧lE' st.3) (.ret {d:=true,x:= {x with code:=1,okk:=false,val:=0,at':=5,hd:=d6,en:=aW,ft:=bR,an:=d4,aw:=d5,fn:=aS,dr:=fC,sw:=bN},st:=st,s:= {s with c:=s.4+1,k:=1,a:=0,o:=aF s.3 0,w:=aF s.3 0,ok:=bU s.3 0} }))) (.pre ((lE' s.3∧lE' st.3∧t=t∧n=n)∧OZ t n x.11 st s) (.ite (gV t n x.11 st s).1 (.pre (MI t n (w2a n s st t x).1∧True) (.pre ((t=t∧n=n)∧t=t∧n=n∧(false=false→(6:Int)=(6:Int))∧lE' (HpO.s (gV t n x.11 st s)).3∧lE' (w2a n s st t x).3) (.ret {d:=false,x:= {x with at':=6,hd:=d6,hp:=bV,en:=aW,ft:=bR,an:=d4,aw:=aAk t n (w2a n s st t x).1,fn:=aS,dr:=fC,sw:=bN},st:=(gV t n x.11 st s).3,s:=(gV t n x.11 st s).4}))) (.pre ((t=t∧n=n)∧t=t∧n=n∧w2f∧lE' (HpO.s (gV t n x.11 st s)).3∧lE' (w2a n s st t x).3) (.ret {d:=false,x:= {x with at':=5,hd:=d6,hp:=(gV t n x.11 st s).2,en:=aW,ft:=bR,an:=d4,aw:=d5,fn:=aS,dr:=fC,sw:=bN},st:=(gV t n x.11 st s).3,s:=(gV t n x.11 st s).4})))))
theorem IY(t n:Int)(x:DOS)(st:STS)(s:MS)(K:DqO→Prop)(h:(AR t n x st s).run K):cT' 104 [.ptr 0 0,.ptr 2 0] [cE' [.ptr 1 0,.I x.code,.bool x.okk,.I x.val,.bool x.slow,.I x.sh,.I x.kd,.I x.ky,.I x.limit,.I 5,.O,.ptr 4 0,.O,.O,.O,.O,.O,.O,.O],hM 5 t n st,bD 3 s,bE s,some (.abs (.help t n x.hp) [1]),hO st] (bP 4 0 [10,11,12,13,14,15,16,17,18] [(.cell 1 4,.ints (some .i64))] (vQ t n) K):=by
 exact cM' (E:=EH) (by kernel_rfl) h
abbrev w24(n:Int)(s:MS)(st:STS)(t:Int)(x:DOS):Tr DqO:=.ret {d:=false,x:= {x with code:=(AwO.x (sG t n x.15 s)).1,okk:=(AwO.x (sG t n x.15 s)).2,val:=(AwO.x (sG t n x.15 s)).3,at':=8,hd:=d6,hp:=bV,en:=aW,ft:=bR,an:=d4,aw:=d5,fn:=aS,dr:=AW t n st.1,sw:=bN},st:=st,s:=(sG t n x.15 s).3}
def AS(t n:Int)(x:DOS)(st:STS)(s:MS):Tr DqO:=.pre True (.ite (w28 x) (.pre (lE' s.3∧(0:Int)≤s.4∧s.4≤(4611686018427387904:Int)) (.pre ((t=t∧n=n)∧t=t∧n=n∧(true=false→(6:Int)=(6:Int))∧lE' s.3∧lE' st.3) (.ret {d:=true,x:= {x with code:=1,okk:=false,val:=0,at':=6,hd:=d6,hp:=bV,en:=aW,ft:=bR,an:=d4,fn:=aS,dr:=fC,sw:=bN},st:=st,s:= {s with c:=s.4+1,k:=1,a:=0,o:=aF s.3 0,w:=aF s.3 0,ok:=bU s.3 0} }))) (.pre (lE' s.3∧aAo t n x.15 s) (.ite (sG t n x.15 s).1 (.ite (!(AwO.x (sG t n x.15 s)).2) (.pre (sH t n st.1∧True) (.pre ((t=t∧n=n)∧t=t∧n=n∧w23∧lE' (AwO.s (sG t n x.15 s)).3∧lE' st.3) (w24 n s st t x))) (.pre True (.ite (!uO x.5 x.6) (.pre (sH t n st.1∧True) (.pre ((t=t∧n=n)∧t=t∧n=n∧w23∧lE' (AwO.s (sG t n x.15 s)).3∧lE' st.3) (w24 n s st t x))) (.pre True (.pre (oT t n st.1 (fG x.5 x.7) (mA x.5 x.6 x.7) x.8∧True) (.pre ((t=t∧n=n)∧t=t∧n=n∧w2c∧lE' (AwO.s (sG t n x.15 s)).3∧lE' st.3) (.ret {d:=false,x:= {x with code:=(AwO.x (sG t n x.15 s)).1,okk:=(AwO.x (sG t n x.15 s)).2,val:=(AwO.x (sG t n x.15 s)).3,at':=7,hd:=d6,hp:=bV,en:=aW,ft:=bR,an:=d4,aw:=d5,fn:=uM t n st.1 (fG x.5 x.7) (mA x.5 x.6 x.7) x.8,dr:=fC,sw:=bN},st:=st,s:=(sG t n x.15 s).3}))))))) (.pre ((t=t∧n=n)∧t=t∧n=n∧(false=false→(6:Int)=(6:Int))∧lE' (AwO.s (sG t n x.15 s)).3∧lE' st.3) (.ret {d:=false,x:= {x with at':=6,hd:=d6,hp:=bV,en:=aW,ft:=bR,an:=d4,aw:=(sG t n x.15 s).2,fn:=aS,dr:=fC,sw:=bN},st:=st,s:=(sG t n x.15 s).3})))))
theorem IZ(t n:Int)(x:DOS)(st:STS)(s:MS)(K:DqO→Prop)(h:(AS t n x st s).run K):cT' 104 [.ptr 0 0,.ptr 2 0] [cE' [.ptr 1 0,.I x.code,.bool x.okk,.I x.val,.bool x.slow,.I x.sh,.I x.kd,.I x.ky,.I x.limit,.I 6,.O,.O,.O,.O,.O,.ptr 4 0,.O,.O,.O],hM 5 t n st,bD 3 s,bE s,some (.abs (.answer t n x.aw) []),hO st] (bP 4 0 [10,11,12,13,14,15,16,17,18] [(.cell 1 4,.ints (some .i64))] (vQ t n) K):=by
 exact cM' (E:=EH) (by kernel_rfl) h
def AT(t n:Int)(x:DOS)(st:STS)(s:MS):Tr DqO:=.pre True (.ite (w28 x) (.pre (lE' s.3∧(0:Int)≤s.4∧s.4≤(4611686018427387904:Int)) (.pre ((t=t∧n=n)∧t=t∧n=n∧(true=false→(7:Int)=(7:Int))∧lE' s.3∧lE' st.3) (.ret {d:=true,x:= {x with code:=1,okk:=false,val:=0,at':=7,hd:=d6,hp:=bV,en:=aW,ft:=bR,an:=d4,aw:=d5,dr:=fC,sw:=bN},st:=st,s:= {s with c:=s.4+1,k:=1,a:=0,o:=aF s.3 0,w:=aF s.3 0,ok:=bU s.3 0} }))) (.pre (lE' s.3∧JP t n x.16 s) (.ite (aN t n x.16 s).1 (.pre ((lE' st.3∧lE' (FnO.x (aN t n x.16 s)).6∧st.3.length+List.length (FnO.x (aN t n x.16 s)).6≤(4294967296:Nat))∧True) (.pre (sH t n st.1∧True) (.pre ((t=t∧n=n)∧t=t∧n=n∧w23∧lE' (FnO.s (aN t n x.16 s)).3∧st.3.length+List.length (FnO.x (aN t n x.16 s)).6=List.length (st.3++(FnO.x (aN t n x.16 s)).6)) (.ret {d:=false,x:= {x with at':=8,hd:=d6,hp:=bV,en:=aW,ft:=bR,an:=d4,aw:=d5,fn:=aS,dr:=AW t n st.1,sw:=bN},st:= {me:=st.1,sp:=st.2,R:=st.3++(FnO.x (aN t n x.16 s)).6},s:=(aN t n x.16 s).3})))) (.pre ((t=t∧n=n)∧t=t∧n=n∧w2c∧lE' (FnO.s (aN t n x.16 s)).3∧lE' st.3) (.ret {d:=false,x:= {x with at':=7,hd:=d6,hp:=bV,en:=aW,ft:=bR,an:=d4,aw:=d5,fn:=(aN t n x.16 s).2,dr:=fC,sw:=bN},st:=st,s:=(aN t n x.16 s).3})))))
theorem I0(t n:Int)(x:DOS)(st:STS)(s:MS)(K:DqO→Prop)(h:(AT t n x st s).run K):cT' 104 [.ptr 0 0,.ptr 2 0] [cE' [.ptr 1 0,.I x.code,.bool x.okk,.I x.val,.bool x.slow,.I x.sh,.I x.kd,.I x.ky,.I x.limit,.I 7,.O,.O,.O,.O,.O,.O,.ptr 4 0,.O,.O],hM 5 t n st,bD 3 s,bE s,some (.abs (.find t n x.fn) []),hO st] (bP 4 0 [10,11,12,13,14,15,16,17,18] [(.cell 1 4,.ints (some .i64))] (vQ t n) K):=by
 exact cM' (E:=EH) (by kernel_rfl) h
def AU(t n:Int)(x:DOS)(st:STS)(s:MS):Tr DqO:=.pre True (.ite (w28 x) (.pre (lE' s.3∧(0:Int)≤s.4∧s.4≤(4611686018427387904:Int)) (.pre ((t=t∧n=n)∧t=t∧n=n∧(true=false→(8:Int)=(8:Int))∧lE' s.3∧lE' st.3) (.ret {d:=true,x:= {x with code:=1,okk:=false,val:=0,at':=8,hd:=d6,hp:=bV,en:=aW,ft:=bR,an:=d4,aw:=d5,fn:=aS,sw:=bN},st:=st,s:= {s with c:=s.4+1,k:=1,a:=0,o:=aF s.3 0,w:=aF s.3 0,ok:=bU s.3 0} }))) (.pre (lE' s.3∧aAY t n x.17 s) (.ite (R6 t n x.17 s).1 (.pre (lE' st.3∧(t=t∧n=n∧lE' st.3)∧True) (.pre ((0:Int)≤t∧t≤(100000:Int)) (.pre ((t=t∧n=n)∧t=t∧n=n∧((!ile (4*t) (↑st.3.length:Int))=false→(9:Int)=(9:Int))∧lE' (DrO.s (R6 t n x.17 s)).3∧lE' st.3) (.ret {d:=!ile (4*t) (↑st.3.length:Int),x:= {x with at':=9,hd:=d6,hp:=bV,en:=aW,ft:=bR,an:=d4,aw:=d5,fn:=aS,dr:=fC,sw:=bN},st:=st,s:=(R6 t n x.17 s).3})))) (.pre ((t=t∧n=n)∧t=t∧n=n∧w23∧lE' (DrO.s (R6 t n x.17 s)).3∧lE' st.3) (.ret {d:=false,x:= {x with at':=8,hd:=d6,hp:=bV,en:=aW,ft:=bR,an:=d4,aw:=d5,fn:=aS,dr:=(R6 t n x.17 s).2,sw:=bN},st:=st,s:=(R6 t n x.17 s).3})))))
theorem I1(t n:Int)(x:DOS)(st:STS)(s:MS)(K:DqO→Prop)(h:(AU t n x st s).run K):cT' 104 [.ptr 0 0,.ptr 2 0] [cE' [.ptr 1 0,.I x.code,.bool x.okk,.I x.val,.bool x.slow,.I x.sh,.I x.kd,.I x.ky,.I x.limit,.I 8,.O,.O,.O,.O,.O,.O,.O,.ptr 4 0,.O],hM 5 t n st,bD 3 s,bE s,some (.abs (.drop t n x.dr) []),hO st] (bP 4 0 [10,11,12,13,14,15,16,17,18] [(.cell 1 4,.ints (some .i64))] (vQ t n) K):=by
 exact cM' (E:=EH) (by kernel_rfl) h
def AV(t n:Int)(x:DOS)(st:STS)(s:MS):Tr DqO:=.pre True (.ite (w28 x) (.pre (lE' s.3∧(0:Int)≤s.4∧s.4≤(4611686018427387904:Int)) (.pre ((t=t∧n=n)∧t=t∧n=n∧(true=false→(9:Int)=(9:Int))∧lE' s.3∧lE' st.3) (.ret {d:=true,x:= {x with code:=1,okk:=false,val:=0,at':=9,hd:=d6,hp:=bV,en:=aW,ft:=bR,an:=d4,aw:=d5,fn:=aS,dr:=fC},st:=st,s:= {s with c:=s.4+1,k:=1,a:=0,o:=aF s.3 0,w:=aF s.3 0,ok:=bU s.3 0} }))) (.pre ((lE' s.3∧lE' st.3∧t=t∧n=n)∧qO t n (DOS.sw x) st s) (.ite (swF t n x.18 st s).1 (.pre ((t=t∧n=n)∧(true=false→(9:Int)≠(0:Int)∧(9:Int)≠(1:Int)∧(9:Int)≠(5:Int)∧(9:Int)≠(2:Int)∧(9:Int)≠(3:Int)∧(9:Int)≠(4:Int)∧(9:Int)≠(6:Int)∧(9:Int)≠(7:Int)∧(9:Int)≠(8:Int)∧(9:Int)≠(9:Int))∧lE' (SO.s (swF t n x.18 st s)).3∧lE' (SO.st (swF t n x.18 st s)).3) (.ret {d:=true,x:= {x with at':=9,hd:=d6,hp:=bV,en:=aW,ft:=bR,an:=d4,aw:=d5,fn:=aS,dr:=fC,sw:=bN},st:=(swF t n x.18 st s).3,s:=(swF t n x.18 st s).4})) (.pre ((t=t∧n=n)∧t=t∧n=n∧(false=false→(9:Int)=(9:Int))∧lE' (SO.s (swF t n x.18 st s)).3∧lE' (SO.st (swF t n x.18 st s)).3) (.ret {d:=false,x:= {x with at':=9,hd:=d6,hp:=bV,en:=aW,ft:=bR,an:=d4,aw:=d5,fn:=aS,dr:=fC,sw:=(swF t n x.18 st s).2},st:=(swF t n x.18 st s).3,s:=(swF t n x.18 st s).4})))))
theorem I2(t n:Int)(x:DOS)(st:STS)(s:MS)(K:DqO→Prop)(h:(AV t n x st s).run K):cT' 104 [.ptr 0 0,.ptr 2 0] [cE' [.ptr 1 0,.I x.code,.bool x.okk,.I x.val,.bool x.slow,.I x.sh,.I x.kd,.I x.ky,.I x.limit,.I 9,.O,.O,.O,.O,.O,.O,.O,.O,.ptr 4 0],hM 5 t n st,bD 3 s,bE s,some (.abs (.sweep t n x.sw) [1]),hO st] (bP 4 0 [10,11,12,13,14,15,16,17,18] [(.cell 1 4,.ints (some .i64))] (vQ t n) K):=by
 exact cM' (E:=EH) (by kernel_rfl) h
def dqT(t n:Int)(x:DOS)(st:STS)(s:MS):Tr DqO:=
 bif ieq x.at' 0 then AM t n x st s else
 bif ieq x.at' 1 then AN t n x st s else
 bif ieq x.at' 2 then AO t n x st s else
 bif ieq x.at' 3 then AP t n x st s else
 bif ieq x.at' 4 then AQ t n x st s else
 bif ieq x.at' 5 then AR t n x st s else
 bif ieq x.at' 6 then AS t n x st s else
 bif ieq x.at' 7 then AT t n x st s else
 bif ieq x.at' 8 then AU t n x st s else
 bif ieq x.at' 9 then AV t n x st s else .pre False (.ret default)
def tJ(t n:Int)(x:DOS)(st:STS)(s:MS):DqO:=(dqT t n x st s).val
def TN(t n:Int)(x:DOS)(st:STS)(s:MS):Prop:=(dqT t n x st s).ok
theorem G4(t n:Int)(x:DOS)(st:STS)(s:MS)(K:AVal→aC Ob→Prop)(h:(dqT t n x st s).run (fun y=>(DqO.fin t n y).run K)):cT' 104 [.ptr 0 0,.ptr 2 0] (tK t n x st s) K:=by
 unfold dqT at h
 by_cases e:x.at'=0
 ·rw [e]at h;have h:(AM t n x st s).run _:=h;refine aHq (root:=0) (pos:=[10,11,12,13,14,15,16,17,18]) (cs:=[(.cell 1 4,.ints (some .i64))]) (parse:=vQ t n) (fin:=DqO.fin t n) lC ((aR.unpack (.doer t n x) 0 1 (eP t n x) [1] rfl (congrArg (Prod.mk 1) (qC e)) (by kernel_rfl) rfl).trans (aR.unpack (.store t n st) 1 0 (dC t n st) [] rfl rfl rfl rfl)) ?_
  have q:=IT t n x st s _ h;rw [←e]at q;exact q
 rw [bL e]at h
 by_cases e:x.at'=1
 ·rw [e]at h;have h:(AN t n x st s).run _:=h;refine aHq (root:=0) (pos:=[10,11,12,13,14,15,16,17,18]) (cs:=[(.cell 1 4,.ints (some .i64))]) (parse:=vQ t n) (fin:=DqO.fin t n) lC ((aR.unpack (.doer t n x) 0 1 (dJ t n x) [1] rfl (congrArg (Prod.mk 1) (tA e)) (by kernel_rfl) rfl).trans (aR.unpack (.store t n st) 1 0 (dC t n st) [] rfl rfl rfl rfl)) ?_
  have q:=IU t n x st s _ h;rw [←e]at q;exact q
 rw [bL e]at h
 by_cases e:x.at'=2
 ·rw [e]at h;have h:(AO t n x st s).run _:=h;refine aHq (root:=0) (pos:=[10,11,12,13,14,15,16,17,18]) (cs:=[(.cell 1 4,.ints (some .i64))]) (parse:=vQ t n) (fin:=DqO.fin t n) lC ((aR.unpack (.doer t n x) 0 1 (fQ t n x) [1] rfl (congrArg (Prod.mk 1) (tB e)) (by kernel_rfl) rfl).trans (aR.unpack (.store t n st) 1 0 (dC t n st) [] rfl rfl rfl rfl)) ?_
  have q:=IV t n x st s _ h;rw [←e]at q;exact q
 rw [bL e]at h
 by_cases e:x.at'=3
 ·rw [e]at h;have h:(AP t n x st s).run _:=h;refine aHq (root:=0) (pos:=[10,11,12,13,14,15,16,17,18]) (cs:=[(.cell 1 4,.ints (some .i64))]) (parse:=vQ t n) (fin:=DqO.fin t n) lC ((aR.unpack (.doer t n x) 0 1 (fS t n x) [1] rfl (congrArg (Prod.mk 1) (tC e)) (by kernel_rfl) rfl).trans (aR.unpack (.store t n st) 1 0 (dC t n st) [] rfl rfl rfl rfl)) ?_
  have q:=IW t n x st s _ h;rw [←e]at q;exact q
 rw [bL e]at h
 by_cases e:x.at'=4
 ·rw [e]at h;have h:(AQ t n x st s).run _:=h;refine aHq (root:=0) (pos:=[10,11,12,13,14,15,16,17,18]) (cs:=[(.cell 1 4,.ints (some .i64))]) (parse:=vQ t n) (fin:=DqO.fin t n) lC ((aR.unpack (.doer t n x) 0 1 (fN t n x) [1] rfl (congrArg (Prod.mk 1) (tD e)) (by kernel_rfl) rfl).trans (aR.unpack (.store t n st) 1 0 (dC t n st) [] rfl rfl rfl rfl)) ?_
  have q:=IX t n x st s _ h;rw [←e]at q;exact q
 rw [bL e]at h
 by_cases e:x.at'=5
 ·rw [e]at h;have h:(AR t n x st s).run _:=h;refine aHq (root:=0) (pos:=[10,11,12,13,14,15,16,17,18]) (cs:=[(.cell 1 4,.ints (some .i64))]) (parse:=vQ t n) (fin:=DqO.fin t n) lC ((aR.unpack (.doer t n x) 0 1 (dJ t n x) [1] rfl (congrArg (Prod.mk 1) (tE e)) (by kernel_rfl) rfl).trans (aR.unpack (.store t n st) 1 0 (dC t n st) [] rfl rfl rfl rfl)) ?_
  have q:=IY t n x st s _ h;rw [←e]at q;exact q
 rw [bL e]at h
 by_cases e:x.at'=6
 ·rw [e]at h;have h:(AS t n x st s).run _:=h;refine aHq (root:=0) (pos:=[10,11,12,13,14,15,16,17,18]) (cs:=[(.cell 1 4,.ints (some .i64))]) (parse:=vQ t n) (fin:=DqO.fin t n) lC ((aR.unpack (.doer t n x) 0 1 (fO t n x) [1] rfl (congrArg (Prod.mk 1) (tF e)) (by kernel_rfl) rfl).trans (aR.unpack (.store t n st) 1 0 (dC t n st) [] rfl rfl rfl rfl)) ?_
  have q:=IZ t n x st s _ h;rw [←e]at q;exact q
 rw [bL e]at h
 by_cases e:x.at'=7
 ·rw [e]at h;have h:(AT t n x st s).run _:=h;refine aHq (root:=0) (pos:=[10,11,12,13,14,15,16,17,18]) (cs:=[(.cell 1 4,.ints (some .i64))]) (parse:=vQ t n) (fin:=DqO.fin t n) lC ((aR.unpack (.doer t n x) 0 1 (fR t n x) [1] rfl (congrArg (Prod.mk 1) (tG e)) (by kernel_rfl) rfl).trans (aR.unpack (.store t n st) 1 0 (dC t n st) [] rfl rfl rfl rfl)) ?_
  have q:=I0 t n x st s _ h;rw [←e]at q;exact q
 rw [bL e]at h
 by_cases e:x.at'=8
 ·rw [e]at h;have h:(AU t n x st s).run _:=h;refine aHq (root:=0) (pos:=[10,11,12,13,14,15,16,17,18]) (cs:=[(.cell 1 4,.ints (some .i64))]) (parse:=vQ t n) (fin:=DqO.fin t n) lC ((aR.unpack (.doer t n x) 0 1 (fP t n x) [1] rfl (congrArg (Prod.mk 1) (tH e)) (by kernel_rfl) rfl).trans (aR.unpack (.store t n st) 1 0 (dC t n st) [] rfl rfl rfl rfl)) ?_
  have q:=I1 t n x st s _ h;rw [←e]at q;exact q
 rw [bL e]at h
 by_cases e:x.at'=9
 ·rw [e]at h;have h:(AV t n x st s).run _:=h;refine aHq (root:=0) (pos:=[10,11,12,13,14,15,16,17,18]) (cs:=[(.cell 1 4,.ints (some .i64))]) (parse:=vQ t n) (fin:=DqO.fin t n) lC ((aR.unpack (.doer t n x) 0 1 (fT t n x) [1] rfl (congrArg (Prod.mk 1) (tI e)) (by kernel_rfl) rfl).trans (aR.unpack (.store t n st) 1 0 (dC t n st) [] rfl rfl rfl rfl)) ?_
  have q:=I2 t n x st s _ h;rw [←e]at q;exact q
 rw [bL e]at h;exact h.1.elim
noncomputable def dqSA:aH Ob:=fun args h=>match args,h with
 | [.ptr 0 0,.ptr 2 0],[some (.abs (.doer t n x) [1]),some (.abs (.store t2 n2 st) []),e3,e4]=>(match cO 3 [e3,e4]with
   | some (l,s)=>some (.pre ((l=s.xs.length∧t2=t∧n2=n)∧TN t n x st s) (DqO.fin t n (tJ t n x st s)))
   | none=>none)
 | _,_=>none
theorem aAR:sT' 104 dqSA:=by
 intro args h o ho K hK;unfold dqSA at ho;split at ho
 case h_2=>cases ho
 split at ho<;>cases ho
 rename_i hm;obtain⟨⟨⟨hl,rfl,rfl⟩,ok⟩,hK⟩:=hK;have hh:=bF hm hl;cases hh;exact G4 _ _ _ _ _ K (aHw ok hK)
def DqO.finB(t n:Int)(y:DqO):Out Ob:=.ite y.d (.ret (.bool true) ([cE' [.ptr 1 0,.I y.x.code,.bool y.x.okk,.I y.x.val,.bool y.x.slow,.I y.x.sh,.I y.x.kd,.I y.x.ky,.I y.x.limit,.I y.x.at',.O,.O,.O,.O,.O,.O,.O,.O,.O],hM 5 t n y.st,none,bD 4 y.s,bE y.s,hO y.st])) (.ret (.bool false) [some (.abs (.doer t n y.x) [1]),hM 5 t n y.st,none,bD 4 y.s,bE y.s,hO y.st])
noncomputable def dqSB:aH Ob:=fun args h=>match args,h with
 | [.ptr 0 0,.ptr 3 0],[some (.abs (.doer t n x) [1]),e1,e2,e3,e4]=>(match lL 2 [e1,e2],cO 4 [e3,e4]with
   | some (l2,t2,n2,st),some (l,s)=>some (.pre ((l=s.xs.length∧l2=st.R.length∧t2=t∧n2=n)∧TN t n x st s) (DqO.finB t n (tJ t n x st s)))
   | _,_=>none)
 | _,_=>none
theorem aAS:sT' 104 dqSB:=by
 intro args h o ho K hK;unfold dqSB at ho;split at ho
 case h_2=>cases ho
 split at ho<;>cases ho
 rename_i hs hm;obtain⟨⟨⟨hl,hl2,rfl,rfl⟩,ok⟩,hK⟩:=hK;have hh:=bF hm hl;cases hh;have hh:=cG hs hl2;cases hh;exact jT (fun ι hι=>by simp [aJ.ren,aHE,AVal.ren,hι]) (fun ι hι=>by simp [aJ.ren,hι]) (fun K hK=>G4 _ _ _ _ _ K (aHw ok hK)) K hK
noncomputable def dqS:aH Ob:=aH.or dqSA dqSB
theorem aDU:sT' 104 dqS:=aHM aAR aAS
def aAF(t n:Int)(v:AVal)(g:aC Ob):Option (Prop×(DOS×STS)):=match v,g with
 | .ptr 2 0,[e1,e2,some (.cells [.ptr 0 0,.int .i64 code,.bool okk,.int .i64 val,.bool slow,.int .i64 sh,.int .i64 kd,.int .i64 ky,.int .i64 limit,.int .i64 at',.ptr 3 0,.O,.O,.O,.O,.O,.O,.O,.O]),some (.abs (.head t' n' sub) [])]=>(match lL 1 [e1,e2]with
   | some (l2,t2,n2,st)=>some ((t2=t∧n2=n∧l2=st.R.length)∧t'=t∧n'=n∧at'=0,⟨(⟨code,okk,val,slow,sh,kd,ky,limit,at',sub,bV,aW,bR,⟨0,0,0,0,false,0⟩,⟨0,false,0,0⟩,aS,⟨0,0⟩,bN⟩:DOS),st⟩)
   | none=>none)
 | _,_=>none
abbrev TL(t n:Int)(y:(DOS×STS)):aC Ob:=[hM 1 t n y.2,hO y.2,some (.abs (.doer t n y.1) [0])]
theorem TM{t n:Int} :bX (obI tbl) 2 (aAF t n) (fun y=>.ret (.ptr 2 0) (TL t n y)):=by
 intro v g p x hp hq K hK;unfold aAF at hp;split at hp
 case h_2=>cases hp
 rename_i e1 e2 code okk val slow sh kd ky limit at' t' n' sub;split at hp
 case h_2=>cases hp
 rename_i l2 t2 n2 st hs;simp only [sI',pI']at hp;obtain⟨rfl,rfl⟩:=hp;obtain⟨⟨rfl,rfl,hl2⟩,rfl,rfl,hat⟩:=hq;have hh:=cG hs hl2;cases hh;exact let X0:DOS:=⟨code,okk,val,slow,sh,kd,ky,limit,at',sub,bV,aW,bR,⟨0,0,0,0,false,0⟩,⟨0,false,0,0⟩,aS,⟨0,0⟩,bN⟩;⟨⟨_,_,aE.pack (TL t' n' (X0,st)) (.doer t' n' X0) 2 1 (eP t' n' X0) [0] (by kernel_rfl) rfl (congrArg (Prod.mk 1) (qC hat)) (by kernel_rfl),hK⟩⟩
def NE(t n:Int)(sh kd ky lim:Int)(st:STS):Tr (DOS×STS):=.pre (OU t n∧True) (.pre ((t=t∧n=n∧lE' st.3)∧t=t∧n=n∧(0:Int)=(0:Int)) (.ret ({code:=0,okk:=false,val:=0,slow:=false,sh:=sh,kd:=kd,ky:=ky,limit:=lim,at':=0,hd:=aBX t n,hp:=bV,en:=aW,ft:=bR,an:=d4,aw:=d5,fn:=aS,dr:=fC,sw:=bN},st)))
def dqNF(t n:Int)(sh kd ky lim:Int)(st:STS):(DOS×STS):=(NE t n sh kd ky lim st).val
def ND(t n:Int)(sh kd ky lim:Int)(st:STS):Prop:=(NE t n sh kd ky lim st).ok
def dqNS:aH Ob:=fun args h=>match args,h with
 | [.ptr 0 0,.agg [.int .i64 sh,.int .i64 kd,.int .i64 ky],.int .i64 lim],[e1,e2]=>(match lL 1 [e1,e2]with
   | some (l2,t,n,st)=>some (.pre (l2=st.R.length∧ND t n sh kd ky lim st) (.ret (.ptr 2 0) (TL t n (dqNF t n sh kd ky lim st))))
   | none=>none)
 | _,_=>none
theorem EJ:sT' 103 dqNS:=by
 intro args h o ho K hK;unfold dqNS at ho;split at ho
 case h_2=>cases ho
 rename_i sh kd ky lim e1 e2;split at ho<;>cases ho
 rename_i l2 t n st hs;obtain⟨⟨hl2,ok⟩,hK⟩:=hK;have hh:=cG hs hl2;cases hh;refine aHC (root:=2) (pos:=[10,11,12,13,14,15,16,17,18]) (cs:=[]) (parse:=aAF t n) TM ?_;exact cM' (E:=EH) (q:=(NE t n sh kd ky lim st).run (fun y=>(Out.ret (.ptr 2 0) (TL t n y)).run K)) (by kernel_rfl) (aHw ok hK)
noncomputable def ED:=((EH.addS 104 dqS aDU).addS 103 dqNS EJ)
instance:Inhabited STS:=⟨⟨0,0,[]⟩⟩
instance:Inhabited WKS:=⟨⟨0,0,⟨0,0,[]⟩,[],0,false,eL,[],[]⟩⟩
def bB(ws:List WKS)(i:Nat):WKS:=ws.getD i default
def cU(ws:List WKS)(i:Nat)(w:WKS):List WKS:=ws.set i w
theorem DK{ws:List WKS}{i:Nat}(h:i<ws.length):(ws.map fun w=>some (Mc.worker w))[i]? =some (some (.worker (bB ws i))):=by
 unfold bB;simp only [List.getElem?_map,gD'];rw [gE' h];rfl
theorem LU(ws:List WKS)(i:Nat)(w:WKS):(cU ws i w).map (fun w=>some (Mc.worker w))=(ws.map fun w=>some (Mc.worker w)).set i (some (.worker w)):=by
 unfold cU;simp [List.map_set]
def RKW:iY tbl where
 R:=List WKS
 row:=.wrow
 hole:=.whole
 els:=fun ws=>ws.map fun w=>some (.worker w)
 len:=List.length
 upd:=fun ws i t=>match t with
  | .worker w=>some (cU ws i w)
  | _=>none
 isRow:=fun t=>match t with
  | .wrow ws=>some ws
  | _=>none
 isHole:=fun t=>match t with
  | .whole ws i=>some (ws,i)
  | _=>none
 is:=fun _ _=>true
 get:=fun ws i=>.worker (bB ws i)
 isRow_eq:=by
  intro t r h;cases t<;>first | (cases h;rfl) | cases h
 isHole_eq:=by
  intro t r i h;cases t<;>first | (cases h;rfl) | cases h
 len_eq:=fun r=>by simp
 upd_eq:=by
  intro r i t r' h;cases t with
  | worker w=>cases h;exact LU r i w
  | _=>cases h
 is_true:=by
  intro r i _ h;exact DK h
 is_false:=by intro r i h;cases h
 tbRow:=fun r=>rfl
 tbHole:=fun r i=>rfl
theorem aE.back{n l i k:Nat}{ws:List WKS}{w:WKS}{v:AVal}{g:aC Ob}(hl:aO g l=some (.abs (.whole ws i) [k]))(hk:aO g k=some (.abs (.worker w) []))(hkl:k≠l)(hi:i<ws.length):
 aE (obI tbl) n v g v ((g.set l (some (.abs (.wrow (cU ws i w)) []))).set k none):=by
 intro V hR w' x h1 h2 h3 h4;refine⟨V,fun _ _ _ h=>h,?_,by simpa using h3,h4,?_⟩
 ·intro m hm;exact h2 m (by simpa using hm)
 ·exact h1.back RKW (ws:=ws) (ws':=cU ws i w) rfl hl hk hkl hi
def dqNAS:aH Ob:=fun args h=>match args,h with
 | [.ptr 0 0,.agg [.int .i64 sh,.int .i64 kd,.int .i64 ky],.int .i64 lim],[some (.abs (.store t n st) [])]=>some (.pre (ND t n sh kd ky lim st) (.ret (.ptr 1 0) [some (.abs (.store t n (dqNF t n sh kd ky lim st).2) []),some (.abs (.doer t n (dqNF t n sh kd ky lim st).1) [0])]))
 | _,_=>none
theorem TK:sT' 103 dqNAS:=by
 intro args h o ho K hK;unfold dqNAS at ho;split at ho<;>cases ho
 rename_i sh kd ky lim t n st;obtain⟨ok,hK⟩:=hK;refine aHD ?_;refine aHy (h2:=[hM 1 t n st,hO st]) (aR.unpack (.store t n st) 0 0 (dC t n st) [] rfl rfl rfl rfl) ?_;refine EJ [.ptr 0 0,.agg [.I sh,.I kd,.I ky],.I lim] [hM 1 t n st,hO st] _ rfl _ ⟨⟨rfl,ok⟩,?_⟩;generalize dqNF t n sh kd ky lim st=y at hK⊢;have hK:K (.ptr 1 0) [some (.abs (.store t n y.2) []),some (.abs (.doer t n y.1) [0])]:=hK;exact⟨⟨_,_,(aE.pick [0,2,1] rfl).trans ((aHv (v2:=.ptr 1 0) (g2:=aL [some (.abs (.store t n y.2) []),some (.abs (.doer t n y.1) [0])] 0 0 (dC t n y.2) []) (by kernel_rfl) (by kernel_rfl)).trans (aE.pack [some (.abs (.store t n y.2) []),some (.abs (.doer t n y.1) [0])] (.store t n y.2) 0 0 (dC t n y.2) [] rfl rfl rfl (by kernel_rfl))),hK⟩⟩
noncomputable def EN0:= {ED.addS 103 (aH.or dqNS dqNAS) (aHM EJ TK)with row:=RKW.ops Tryz.prog,rowOk:=RKW.ops_ok}
instance:Inhabited (Int×HST):=⟨(0,default)⟩
def oH(v:AVal)(g:aC Ob):Option (Prop×(Int×HST)):=match v,g with
 | .int .i64 c,[some (.cells [.tslice 1 0 a 7,.tslice 2 0 b 9,.int .i64 n0,.int .i64 n1,.int .i64 n2,.int .i64 n3,.int .i64 n4,.int .i64 n5,.int .i64 n6,.int .i64 n7]),some (.tab [some .i64,none,some .i64,some .i64,some .i64,none,some .i64] ev),some (.tab [some .i64,some .i64,some .i64,some .i64,some .i64,some .i64,some .i64,none,some .i64] cl)]=>some (a=ev.length∧b=cl.length,(c,⟨ev,cl,n0,n1,n2,n3,n4,n5,n6,n7⟩))
 | _,_=>none
def hnP(v:AVal)(g:aC Ob):Option (Prop×HST):=match v,g with
 | .ptr 0 0,[some (.cells [.tslice 1 0 a 7,.tslice 2 0 b 9,.int .i64 n0,.int .i64 n1,.int .i64 n2,.int .i64 n3,.int .i64 n4,.int .i64 n5,.int .i64 n6,.int .i64 n7]),some (.tab [some .i64,none,some .i64,some .i64,some .i64,none,some .i64] ev),some (.tab [some .i64,some .i64,some .i64,some .i64,some .i64,some .i64,some .i64,none,some .i64] cl)]=>some (a=ev.length∧b=cl.length,⟨ev,cl,n0,n1,n2,n3,n4,n5,n6,n7⟩)
 | _,_=>none
theorem fL:bX (obI tbl) 1 oH (fun y=>.ret (.I y.1) [some (.abs (.hist y.2) [])]):=by
 intro v g p x hp hq K hK;unfold oH at hp;split at hp
 case h_2=>cases hp
 rename_i c a b n0 n1 n2 n3 n4 n5 n6 n7 ev cl;simp only [sI',pI']at hp;obtain⟨rfl,rfl⟩:=hp;obtain⟨rfl,rfl⟩:=hq;have hK:K (.I c) [some (.abs (.hist ⟨ev,cl,n0,n1,n2,n3,n4,n5,n6,n7⟩) [])]:=hK;exact⟨⟨_,_,aE.pack [some (.abs (.hist ⟨ev,cl,n0,n1,n2,n3,n4,n5,n6,n7⟩) [])] (.hist ⟨ev,cl,n0,n1,n2,n3,n4,n5,n6,n7⟩) 0 0 (pV ⟨ev,cl,n0,n1,n2,n3,n4,n5,n6,n7⟩) [] (by kernel_rfl) rfl rfl (by kernel_rfl),hK⟩⟩
theorem aB6:bX (obI tbl) 0 hnP (fun y=>.ret (.ptr 0 0) [some (.abs (.hist y) [])]):=by
 intro v g p x hp hq K hK;unfold hnP at hp;split at hp
 case h_2=>cases hp
 rename_i a b n0 n1 n2 n3 n4 n5 n6 n7 ev cl;simp only [sI',pI']at hp;obtain⟨rfl,rfl⟩:=hp;obtain⟨rfl,rfl⟩:=hq;have hK:K (.ptr 0 0) [some (.abs (.hist ⟨ev,cl,n0,n1,n2,n3,n4,n5,n6,n7⟩) [])]:=hK;exact⟨⟨_,_,aE.pack [some (.abs (.hist ⟨ev,cl,n0,n1,n2,n3,n4,n5,n6,n7⟩) [])] (.hist ⟨ev,cl,n0,n1,n2,n3,n4,n5,n6,n7⟩) 0 0 (pV ⟨ev,cl,n0,n1,n2,n3,n4,n5,n6,n7⟩) [] (by kernel_rfl) rfl rfl (by kernel_rfl),hK⟩⟩
def hnT:Tr HST:=.pre (0=0∧0=0) (.ret {ev:=[],cl:=[],n0:=0,n1:=0,n2:=0,n3:=0,n4:=0,n5:=0,n6:=0,n7:=0})
def hnS:aH Ob:=fun args h=>match args,h with
 | [],[]=>some (.pre True (.ret (.ptr 0 0) [some (.abs (.hist ⟨[],[],0,0,0,0,0,0,0,0⟩) [])]))
 | _,_=>none
theorem aET:sT' 81 hnS:=by
 intro args h o ho K hK;unfold hnS at ho;split at ho
 case h_2=>cases ho
 simp only [sI']at ho;subst ho;obtain⟨ok,hK⟩:=hK;refine aHC (root:=0) (pos:=[]) (cs:=[(.cell 0 0,.tab cK7),(.cell 0 1,.tab cK9)]) (parse:=hnP) aB6 ?_;exact cM' (E:=EN0) (q:=hnT.run (fun y=>(Out.ret (.ptr 0 0) [some (.abs (.hist y) [])]).run K)) (by kernel_rfl) (aHw (by simp [Tr.ok,hnT]) hK)
abbrev w2g(x:HST):=List.length x.1
abbrev w2h(x:HST):=List.length x.2
abbrev w2i(x:HST):=x.2.length+1
def BW(x:HST)(kd ky:Int):Tr (Int×HST):=.pre ((0:Int)≤(0:Int)∧(0:Int)<(↑8:Int)) (.ite (ilt 0 x.3) (.pre (lE' x.1∧lE' x.2) (.ret (1,x))) (.pre (0=0∧lE' x.2∧x.2.length+(1:Nat)≤(4294967296:Nat)) (.pre (0=0∧lE' x.1∧x.1.length+(1:Nat)≤(4294967296:Nat)) (.pre ((0:Int)≤(0:Int)∧(0:Int)<(↑8:Int)) (.pre (x.1.length+(1:Nat)=List.length (x.1++ [[0,0,kd,ky,0,0,0]])∧x.2.length+(1:Nat)=List.length (x.2++ [[(↑(w2g x):Int),(-1:Int),(↑(w2h x):Int),0,kd,ky,0,0,0]])) (.ret (0,{x with ev:=x.1++ [[0,0,kd,ky,0,0,0]],cl:=x.2++ [[(↑(w2g x):Int),(-1:Int),(↑(w2h x):Int),0,kd,ky,0,0,0]],n0:=(↑(w2i x):Int)})))))))
theorem VL(x:HST)(kd ky:Int)(K:Int×HST→Prop)(h:(BW x kd ky).run K):cT' 70 [.ptr 0 0,.I 0,.agg [.I kd,.I ky]] [cE' [.tslice 1 0 x.ev.length 7,.tslice 2 0 x.cl.length 9,.I x.n0,.I x.n1,.I x.n2,.I x.n3,.I x.n4,.I x.n5,.I x.n6,.I x.n7],some (.tab cK7 x.ev),some (.tab cK9 x.cl)] (bP 1 0 [] [] oH K):=by
 exact cM' (E:=EN0) (by kernel_rfl) h
def BX(x:HST)(kd ky:Int):Tr (Int×HST):=.pre ((0:Int)≤(1:Int)∧(1:Int)<(↑8:Int)) (.ite (ilt 0 x.4) (.pre (lE' x.1∧lE' x.2) (.ret (1,x))) (.pre (0=0∧lE' x.2∧x.2.length+(1:Nat)≤(4294967296:Nat)) (.pre (0=0∧lE' x.1∧x.1.length+(1:Nat)≤(4294967296:Nat)) (.pre ((0:Int)≤(1:Int)∧(1:Int)<(↑8:Int)) (.pre (x.1.length+(1:Nat)=List.length (x.1++ [[1,0,kd,ky,0,0,0]])∧x.2.length+(1:Nat)=List.length (x.2++ [[(↑(w2g x):Int),(-1:Int),(↑(w2h x):Int),1,kd,ky,0,0,0]])) (.ret (0,{x with ev:=x.1++ [[1,0,kd,ky,0,0,0]],cl:=x.2++ [[(↑(w2g x):Int),(-1:Int),(↑(w2h x):Int),1,kd,ky,0,0,0]],n1:=(↑(w2i x):Int)})))))))
theorem VM(x:HST)(kd ky:Int)(K:Int×HST→Prop)(h:(BX x kd ky).run K):cT' 70 [.ptr 0 0,.I 1,.agg [.I kd,.I ky]] [cE' [.tslice 1 0 x.ev.length 7,.tslice 2 0 x.cl.length 9,.I x.n0,.I x.n1,.I x.n2,.I x.n3,.I x.n4,.I x.n5,.I x.n6,.I x.n7],some (.tab cK7 x.ev),some (.tab cK9 x.cl)] (bP 1 0 [] [] oH K):=by
 exact cM' (E:=EN0) (by kernel_rfl) h
def BY(x:HST)(kd ky:Int):Tr (Int×HST):=.pre ((0:Int)≤(2:Int)∧(2:Int)<(↑8:Int)) (.ite (ilt 0 x.5) (.pre (lE' x.1∧lE' x.2) (.ret (1,x))) (.pre (0=0∧lE' x.2∧x.2.length+(1:Nat)≤(4294967296:Nat)) (.pre (0=0∧lE' x.1∧x.1.length+(1:Nat)≤(4294967296:Nat)) (.pre ((0:Int)≤(2:Int)∧(2:Int)<(↑8:Int)) (.pre (x.1.length+(1:Nat)=List.length (x.1++ [[2,0,kd,ky,0,0,0]])∧x.2.length+(1:Nat)=List.length (x.2++ [[(↑(w2g x):Int),(-1:Int),(↑(w2h x):Int),2,kd,ky,0,0,0]])) (.ret (0,{x with ev:=x.1++ [[2,0,kd,ky,0,0,0]],cl:=x.2++ [[(↑(w2g x):Int),(-1:Int),(↑(w2h x):Int),2,kd,ky,0,0,0]],n2:=(↑(w2i x):Int)})))))))
theorem VN(x:HST)(kd ky:Int)(K:Int×HST→Prop)(h:(BY x kd ky).run K):cT' 70 [.ptr 0 0,.I 2,.agg [.I kd,.I ky]] [cE' [.tslice 1 0 x.ev.length 7,.tslice 2 0 x.cl.length 9,.I x.n0,.I x.n1,.I x.n2,.I x.n3,.I x.n4,.I x.n5,.I x.n6,.I x.n7],some (.tab cK7 x.ev),some (.tab cK9 x.cl)] (bP 1 0 [] [] oH K):=by
 exact cM' (E:=EN0) (by kernel_rfl) h
def BZ(x:HST)(kd ky:Int):Tr (Int×HST):=.pre ((0:Int)≤(3:Int)∧(3:Int)<(↑8:Int)) (.ite (ilt 0 x.6) (.pre (lE' x.1∧lE' x.2) (.ret (1,x))) (.pre (0=0∧lE' x.2∧x.2.length+(1:Nat)≤(4294967296:Nat)) (.pre (0=0∧lE' x.1∧x.1.length+(1:Nat)≤(4294967296:Nat)) (.pre ((0:Int)≤(3:Int)∧(3:Int)<(↑8:Int)) (.pre (x.1.length+(1:Nat)=List.length (x.1++ [[3,0,kd,ky,0,0,0]])∧x.2.length+(1:Nat)=List.length (x.2++ [[(↑(w2g x):Int),(-1:Int),(↑(w2h x):Int),3,kd,ky,0,0,0]])) (.ret (0,{x with ev:=x.1++ [[3,0,kd,ky,0,0,0]],cl:=x.2++ [[(↑(w2g x):Int),(-1:Int),(↑(w2h x):Int),3,kd,ky,0,0,0]],n3:=(↑(w2i x):Int)})))))))
theorem VO(x:HST)(kd ky:Int)(K:Int×HST→Prop)(h:(BZ x kd ky).run K):cT' 70 [.ptr 0 0,.I 3,.agg [.I kd,.I ky]] [cE' [.tslice 1 0 x.ev.length 7,.tslice 2 0 x.cl.length 9,.I x.n0,.I x.n1,.I x.n2,.I x.n3,.I x.n4,.I x.n5,.I x.n6,.I x.n7],some (.tab cK7 x.ev),some (.tab cK9 x.cl)] (bP 1 0 [] [] oH K):=by
 exact cM' (E:=EN0) (by kernel_rfl) h
def B0(x:HST)(kd ky:Int):Tr (Int×HST):=.pre ((0:Int)≤(4:Int)∧(4:Int)<(↑8:Int)) (.ite (ilt 0 x.7) (.pre (lE' x.1∧lE' x.2) (.ret (1,x))) (.pre (0=0∧lE' x.2∧x.2.length+(1:Nat)≤(4294967296:Nat)) (.pre (0=0∧lE' x.1∧x.1.length+(1:Nat)≤(4294967296:Nat)) (.pre ((0:Int)≤(4:Int)∧(4:Int)<(↑8:Int)) (.pre (x.1.length+(1:Nat)=List.length (x.1++ [[4,0,kd,ky,0,0,0]])∧x.2.length+(1:Nat)=List.length (x.2++ [[(↑(w2g x):Int),(-1:Int),(↑(w2h x):Int),4,kd,ky,0,0,0]])) (.ret (0,{x with ev:=x.1++ [[4,0,kd,ky,0,0,0]],cl:=x.2++ [[(↑(w2g x):Int),(-1:Int),(↑(w2h x):Int),4,kd,ky,0,0,0]],n4:=(↑(w2i x):Int)})))))))
theorem VP(x:HST)(kd ky:Int)(K:Int×HST→Prop)(h:(B0 x kd ky).run K):cT' 70 [.ptr 0 0,.I 4,.agg [.I kd,.I ky]] [cE' [.tslice 1 0 x.ev.length 7,.tslice 2 0 x.cl.length 9,.I x.n0,.I x.n1,.I x.n2,.I x.n3,.I x.n4,.I x.n5,.I x.n6,.I x.n7],some (.tab cK7 x.ev),some (.tab cK9 x.cl)] (bP 1 0 [] [] oH K):=by
 exact cM' (E:=EN0) (by kernel_rfl) h
def B1(x:HST)(kd ky:Int):Tr (Int×HST):=.pre ((0:Int)≤(5:Int)∧(5:Int)<(↑8:Int)) (.ite (ilt 0 x.8) (.pre (lE' x.1∧lE' x.2) (.ret (1,x))) (.pre (0=0∧lE' x.2∧x.2.length+(1:Nat)≤(4294967296:Nat)) (.pre (0=0∧lE' x.1∧x.1.length+(1:Nat)≤(4294967296:Nat)) (.pre ((0:Int)≤(5:Int)∧(5:Int)<(↑8:Int)) (.pre (x.1.length+(1:Nat)=List.length (x.1++ [[5,0,kd,ky,0,0,0]])∧x.2.length+(1:Nat)=List.length (x.2++ [[(↑(w2g x):Int),(-1:Int),(↑(w2h x):Int),5,kd,ky,0,0,0]])) (.ret (0,{x with ev:=x.1++ [[5,0,kd,ky,0,0,0]],cl:=x.2++ [[(↑(w2g x):Int),(-1:Int),(↑(w2h x):Int),5,kd,ky,0,0,0]],n5:=(↑(w2i x):Int)})))))))
theorem VQ(x:HST)(kd ky:Int)(K:Int×HST→Prop)(h:(B1 x kd ky).run K):cT' 70 [.ptr 0 0,.I 5,.agg [.I kd,.I ky]] [cE' [.tslice 1 0 x.ev.length 7,.tslice 2 0 x.cl.length 9,.I x.n0,.I x.n1,.I x.n2,.I x.n3,.I x.n4,.I x.n5,.I x.n6,.I x.n7],some (.tab cK7 x.ev),some (.tab cK9 x.cl)] (bP 1 0 [] [] oH K):=by
 exact cM' (E:=EN0) (by kernel_rfl) h
def B2(x:HST)(kd ky:Int):Tr (Int×HST):=.pre ((0:Int)≤(6:Int)∧(6:Int)<(↑8:Int)) (.ite (ilt 0 x.9) (.pre (lE' x.1∧lE' x.2) (.ret (1,x))) (.pre (0=0∧lE' x.2∧x.2.length+(1:Nat)≤(4294967296:Nat)) (.pre (0=0∧lE' x.1∧x.1.length+(1:Nat)≤(4294967296:Nat)) (.pre ((0:Int)≤(6:Int)∧(6:Int)<(↑8:Int)) (.pre (x.1.length+(1:Nat)=List.length (x.1++ [[6,0,kd,ky,0,0,0]])∧x.2.length+(1:Nat)=List.length (x.2++ [[(↑(w2g x):Int),(-1:Int),(↑(w2h x):Int),6,kd,ky,0,0,0]])) (.ret (0,{x with ev:=x.1++ [[6,0,kd,ky,0,0,0]],cl:=x.2++ [[(↑(w2g x):Int),(-1:Int),(↑(w2h x):Int),6,kd,ky,0,0,0]],n6:=(↑(w2i x):Int)})))))))
theorem VR(x:HST)(kd ky:Int)(K:Int×HST→Prop)(h:(B2 x kd ky).run K):cT' 70 [.ptr 0 0,.I 6,.agg [.I kd,.I ky]] [cE' [.tslice 1 0 x.ev.length 7,.tslice 2 0 x.cl.length 9,.I x.n0,.I x.n1,.I x.n2,.I x.n3,.I x.n4,.I x.n5,.I x.n6,.I x.n7],some (.tab cK7 x.ev),some (.tab cK9 x.cl)] (bP 1 0 [] [] oH K):=by
 exact cM' (E:=EN0) (by kernel_rfl) h
def B3(x:HST)(kd ky:Int):Tr (Int×HST):=.pre ((0:Int)≤(7:Int)∧(7:Int)<(↑8:Int)) (.ite (ilt 0 x.10) (.pre (lE' x.1∧lE' x.2) (.ret (1,x))) (.pre (0=0∧lE' x.2∧x.2.length+(1:Nat)≤(4294967296:Nat)) (.pre (0=0∧lE' x.1∧x.1.length+(1:Nat)≤(4294967296:Nat)) (.pre ((0:Int)≤(7:Int)∧(7:Int)<(↑8:Int)) (.pre (x.1.length+(1:Nat)=List.length (x.1++ [[7,0,kd,ky,0,0,0]])∧x.2.length+(1:Nat)=List.length (x.2++ [[(↑(w2g x):Int),(-1:Int),(↑(w2h x):Int),7,kd,ky,0,0,0]])) (.ret (0,{x with ev:=x.1++ [[7,0,kd,ky,0,0,0]],cl:=x.2++ [[(↑(w2g x):Int),(-1:Int),(↑(w2h x):Int),7,kd,ky,0,0,0]],n7:=(↑(w2i x):Int) })))))))
theorem VS(x:HST)(kd ky:Int)(K:Int×HST→Prop)(h:(B3 x kd ky).run K):cT' 70 [.ptr 0 0,.I 7,.agg [.I kd,.I ky]] [cE' [.tslice 1 0 x.ev.length 7,.tslice 2 0 x.cl.length 9,.I x.n0,.I x.n1,.I x.n2,.I x.n3,.I x.n4,.I x.n5,.I x.n6,.I x.n7],some (.tab cK7 x.ev),some (.tab cK9 x.cl)] (bP 1 0 [] [] oH K):=by
 exact cM' (E:=EN0) (by kernel_rfl) h
def hbT(th:Int)(x:HST)(kd ky:Int):Tr (Int×HST):=
 bif ieq th 0 then BW x kd ky else
 bif ieq th 1 then BX x kd ky else
 bif ieq th 2 then BY x kd ky else
 bif ieq th 3 then BZ x kd ky else
 bif ieq th 4 then B0 x kd ky else
 bif ieq th 5 then B1 x kd ky else
 bif ieq th 6 then B2 x kd ky else
 bif ieq th 7 then B3 x kd ky else .pre False (.ret default)
def hbF(th:Int)(x:HST)(kd ky:Int):Int×HST:=(hbT th x kd ky).val
def hbOk(th:Int)(x:HST)(kd ky:Int):Prop:=(hbT th x kd ky).ok
theorem VK(th:Int)(x:HST)(kd ky:Int)(K:AVal→aC Ob→Prop)(h:(hbT th x kd ky).run (fun y=>(Out.ret (.I y.1) [some (.abs (.hist y.2) [])]).run K)):cT' 70 [.ptr 0 0,.I th,.agg [.I kd,.I ky]] [some (.abs (.hist x) [])] K:=by
 unfold hbT at h
 by_cases e:th=0
 ·rw [e]at h;have h:(BW x kd ky).run _:=h;rw [e];exact aHq (root:=0) (pos:=[]) (cs:=[]) (parse:=oH) (fin:=fun y=>.ret (.I y.1) [some (.abs (.hist y.2) [])]) fL (aR.unpack (.hist x) 0 0 (pV x) [] rfl rfl rfl rfl) (VL x kd ky _ h)
 rw [bL e]at h
 by_cases e:th=1
 ·rw [e]at h;have h:(BX x kd ky).run _:=h;rw [e];exact aHq (root:=0) (pos:=[]) (cs:=[]) (parse:=oH) (fin:=fun y=>.ret (.I y.1) [some (.abs (.hist y.2) [])]) fL (aR.unpack (.hist x) 0 0 (pV x) [] rfl rfl rfl rfl) (VM x kd ky _ h)
 rw [bL e]at h
 by_cases e:th=2
 ·rw [e]at h;have h:(BY x kd ky).run _:=h;rw [e];exact aHq (root:=0) (pos:=[]) (cs:=[]) (parse:=oH) (fin:=fun y=>.ret (.I y.1) [some (.abs (.hist y.2) [])]) fL (aR.unpack (.hist x) 0 0 (pV x) [] rfl rfl rfl rfl) (VN x kd ky _ h)
 rw [bL e]at h
 by_cases e:th=3
 ·rw [e]at h;have h:(BZ x kd ky).run _:=h;rw [e];exact aHq (root:=0) (pos:=[]) (cs:=[]) (parse:=oH) (fin:=fun y=>.ret (.I y.1) [some (.abs (.hist y.2) [])]) fL (aR.unpack (.hist x) 0 0 (pV x) [] rfl rfl rfl rfl) (VO x kd ky _ h)
 rw [bL e]at h
 by_cases e:th=4
 ·rw [e]at h;have h:(B0 x kd ky).run _:=h;rw [e];exact aHq (root:=0) (pos:=[]) (cs:=[]) (parse:=oH) (fin:=fun y=>.ret (.I y.1) [some (.abs (.hist y.2) [])]) fL (aR.unpack (.hist x) 0 0 (pV x) [] rfl rfl rfl rfl) (VP x kd ky _ h)
 rw [bL e]at h
 by_cases e:th=5
 ·rw [e]at h;have h:(B1 x kd ky).run _:=h;rw [e];exact aHq (root:=0) (pos:=[]) (cs:=[]) (parse:=oH) (fin:=fun y=>.ret (.I y.1) [some (.abs (.hist y.2) [])]) fL (aR.unpack (.hist x) 0 0 (pV x) [] rfl rfl rfl rfl) (VQ x kd ky _ h)
 rw [bL e]at h
 by_cases e:th=6
 ·rw [e]at h;have h:(B2 x kd ky).run _:=h;rw [e];exact aHq (root:=0) (pos:=[]) (cs:=[]) (parse:=oH) (fin:=fun y=>.ret (.I y.1) [some (.abs (.hist y.2) [])]) fL (aR.unpack (.hist x) 0 0 (pV x) [] rfl rfl rfl rfl) (VR x kd ky _ h)
 rw [bL e]at h
 by_cases e:th=7
 ·rw [e]at h;have h:(B3 x kd ky).run _:=h;rw [e];exact aHq (root:=0) (pos:=[]) (cs:=[]) (parse:=oH) (fin:=fun y=>.ret (.I y.1) [some (.abs (.hist y.2) [])]) fL (aR.unpack (.hist x) 0 0 (pV x) [] rfl rfl rfl rfl) (VS x kd ky _ h)
 rw [bL e]at h;exact h.1.elim
def hbS:aH Ob:=fun args h=>match args,h with
 | [.ptr 0 0,.int .i64 th,.agg [.int .i64 kd,.int .i64 ky]],[some (.abs (.hist x) [])]=>some (.pre (hbOk th x kd ky) (.ret (.I (hbF th x kd ky).1) [some (.abs (.hist (hbF th x kd ky).2) [])]))
 | _,_=>none
theorem aEI:sT' 70 hbS:=by
 intro args h o ho K hK;unfold hbS at ho;split at ho
 case h_2=>cases ho
 simp only [sI']at ho;subst ho;obtain⟨ok,hK⟩:=hK;exact VK _ _ _ _ K (aHw ok hK)
abbrev w30(x:HST):=List.length x.1
abbrev w2k(x:HST):=List.set x.2 (0+Int.toNat (W (x.3 - 1))) (bK 9 (List.getD x.2 (0+Int.toNat (W (x.3 - 1))) []) (0+0+1) [(↑(w30 x):Int)])
abbrev w2r:=(0:Int)≤(0:Int)∧(0:Int)<(↑8:Int)
abbrev w2z(x:HST):=List.length x.2
def B4(x:HST)(code:Int)(okk:Bool)(val:Int):Tr (Int×HST):=.pre w2r (.ite (!ilt 0 x.3) (.pre (lE' x.1∧lE' x.2) (.ret (5,x))) (.pre w2r (.pre ((0:Int)≤W (x.3 - 1)∧W (x.3 - 1)<(↑(w2z x):Int)) (.pre (0+Int.toNat (W (x.3 - 1))<x.2.length) (.pre (0+Int.toNat (W (x.3 - 1))<List.length (w2k x)) (.pre (0=0∧lE' x.1∧x.1.length+(1:Nat)≤(4294967296:Nat)) (.pre w2r (.pre (x.1.length+(1:Nat)=List.length (x.1++ [[0,1,0,0,code,bif okk then 1 else 0,val]])∧x.2.length=List.length (List.set (w2k x) (0+Int.toNat (W (x.3 - 1))) (bK 9 (List.getD (w2k x) (0+Int.toNat (W (x.3 - 1))) []) (0+6) [code,bif okk then 1 else 0,val]))) (.ret (0,{x with ev:=x.1++ [[0,1,0,0,code,bif okk then 1 else 0,val]],cl:=List.set (w2k x) (0+Int.toNat (W (x.3 - 1))) (bK 9 (List.getD (w2k x) (0+Int.toNat (W (x.3 - 1))) []) (0+6) [code,bif okk then 1 else 0,val]),n0:=0}))))))))))
theorem WA(x:HST)(code:Int)(okk:Bool)(val:Int)(K:Int×HST→Prop)(h:(B4 x code okk val).run K):cT' 98 [.ptr 0 0,.I 0,.agg [.I code,.bool okk,.I val]] [cE' [.tslice 1 0 x.ev.length 7,.tslice 2 0 x.cl.length 9,.I x.n0,.I x.n1,.I x.n2,.I x.n3,.I x.n4,.I x.n5,.I x.n6,.I x.n7],some (.tab cK7 x.ev),some (.tab cK9 x.cl)] (bP 1 0 [] [] oH K):=by
 exact cM' (E:=EN0) (by kernel_rfl) h
abbrev w2l(x:HST):=List.set x.2 (0+Int.toNat (W (x.4 - 1))) (bK 9 (List.getD x.2 (0+Int.toNat (W (x.4 - 1))) []) (0+0+1) [(↑(w30 x):Int)])
abbrev w2s:=(0:Int)≤(1:Int)∧(1:Int)<(↑8:Int)
def B5(x:HST)(code:Int)(okk:Bool)(val:Int):Tr (Int×HST):=.pre w2s (.ite (!ilt 0 x.4) (.pre (lE' x.1∧lE' x.2) (.ret (5,x))) (.pre w2s (.pre ((0:Int)≤W (x.4 - 1)∧W (x.4 - 1)<(↑(w2z x):Int)) (.pre (0+Int.toNat (W (x.4 - 1))<x.2.length) (.pre (0+Int.toNat (W (x.4 - 1))<List.length (w2l x)) (.pre (0=0∧lE' x.1∧x.1.length+(1:Nat)≤(4294967296:Nat)) (.pre w2s (.pre (x.1.length+(1:Nat)=List.length (x.1++ [[1,1,0,0,code,bif okk then 1 else 0,val]])∧x.2.length=List.length (List.set (w2l x) (0+Int.toNat (W (x.4 - 1))) (bK 9 (List.getD (w2l x) (0+Int.toNat (W (x.4 - 1))) []) (0+6) [code,bif okk then 1 else 0,val]))) (.ret (0,{x with ev:=x.1++ [[1,1,0,0,code,bif okk then 1 else 0,val]],cl:=List.set (w2l x) (0+Int.toNat (W (x.4 - 1))) (bK 9 (List.getD (w2l x) (0+Int.toNat (W (x.4 - 1))) []) (0+6) [code,bif okk then 1 else 0,val]),n1:=0}))))))))))
theorem WB(x:HST)(code:Int)(okk:Bool)(val:Int)(K:Int×HST→Prop)(h:(B5 x code okk val).run K):cT' 98 [.ptr 0 0,.I 1,.agg [.I code,.bool okk,.I val]] [cE' [.tslice 1 0 x.ev.length 7,.tslice 2 0 x.cl.length 9,.I x.n0,.I x.n1,.I x.n2,.I x.n3,.I x.n4,.I x.n5,.I x.n6,.I x.n7],some (.tab cK7 x.ev),some (.tab cK9 x.cl)] (bP 1 0 [] [] oH K):=by
 exact cM' (E:=EN0) (by kernel_rfl) h
abbrev w2m(x:HST):=List.set x.2 (0+Int.toNat (W (x.5 - 1))) (bK 9 (List.getD x.2 (0+Int.toNat (W (x.5 - 1))) []) (0+0+1) [(↑(w30 x):Int)])
abbrev w2t:=(0:Int)≤(2:Int)∧(2:Int)<(↑8:Int)
def B6(x:HST)(code:Int)(okk:Bool)(val:Int):Tr (Int×HST):=.pre w2t (.ite (!ilt 0 x.5) (.pre (lE' x.1∧lE' x.2) (.ret (5,x))) (.pre w2t (.pre ((0:Int)≤W (x.5 - 1)∧W (x.5 - 1)<(↑(w2z x):Int)) (.pre (0+Int.toNat (W (x.5 - 1))<x.2.length) (.pre (0+Int.toNat (W (x.5 - 1))<List.length (w2m x)) (.pre (0=0∧lE' x.1∧x.1.length+(1:Nat)≤(4294967296:Nat)) (.pre w2t (.pre (x.1.length+(1:Nat)=List.length (x.1++ [[2,1,0,0,code,bif okk then 1 else 0,val]])∧x.2.length=List.length (List.set (w2m x) (0+Int.toNat (W (x.5 - 1))) (bK 9 (List.getD (w2m x) (0+Int.toNat (W (x.5 - 1))) []) (0+6) [code,bif okk then 1 else 0,val]))) (.ret (0,{x with ev:=x.1++ [[2,1,0,0,code,bif okk then 1 else 0,val]],cl:=List.set (w2m x) (0+Int.toNat (W (x.5 - 1))) (bK 9 (List.getD (w2m x) (0+Int.toNat (W (x.5 - 1))) []) (0+6) [code,bif okk then 1 else 0,val]),n2:=0}))))))))))
theorem WC(x:HST)(code:Int)(okk:Bool)(val:Int)(K:Int×HST→Prop)(h:(B6 x code okk val).run K):cT' 98 [.ptr 0 0,.I 2,.agg [.I code,.bool okk,.I val]] [cE' [.tslice 1 0 x.ev.length 7,.tslice 2 0 x.cl.length 9,.I x.n0,.I x.n1,.I x.n2,.I x.n3,.I x.n4,.I x.n5,.I x.n6,.I x.n7],some (.tab cK7 x.ev),some (.tab cK9 x.cl)] (bP 1 0 [] [] oH K):=by
 exact cM' (E:=EN0) (by kernel_rfl) h
abbrev w2n(x:HST):=List.set x.2 (0+Int.toNat (W (x.6 - 1))) (bK 9 (List.getD x.2 (0+Int.toNat (W (x.6 - 1))) []) (0+0+1) [(↑(w30 x):Int)])
abbrev w2u:=(0:Int)≤(3:Int)∧(3:Int)<(↑8:Int)
def B7(x:HST)(code:Int)(okk:Bool)(val:Int):Tr (Int×HST):=.pre w2u (.ite (!ilt 0 x.6) (.pre (lE' x.1∧lE' x.2) (.ret (5,x))) (.pre w2u (.pre ((0:Int)≤W (x.6 - 1)∧W (x.6 - 1)<(↑(w2z x):Int)) (.pre (0+Int.toNat (W (x.6 - 1))<x.2.length) (.pre (0+Int.toNat (W (x.6 - 1))<List.length (w2n x)) (.pre (0=0∧lE' x.1∧x.1.length+(1:Nat)≤(4294967296:Nat)) (.pre w2u (.pre (x.1.length+(1:Nat)=List.length (x.1++ [[3,1,0,0,code,bif okk then 1 else 0,val]])∧x.2.length=List.length (List.set (w2n x) (0+Int.toNat (W (x.6 - 1))) (bK 9 (List.getD (w2n x) (0+Int.toNat (W (x.6 - 1))) []) (0+6) [code,bif okk then 1 else 0,val]))) (.ret (0,{x with ev:=x.1++ [[3,1,0,0,code,bif okk then 1 else 0,val]],cl:=List.set (w2n x) (0+Int.toNat (W (x.6 - 1))) (bK 9 (List.getD (w2n x) (0+Int.toNat (W (x.6 - 1))) []) (0+6) [code,bif okk then 1 else 0,val]),n3:=0}))))))))))
theorem WD(x:HST)(code:Int)(okk:Bool)(val:Int)(K:Int×HST→Prop)(h:(B7 x code okk val).run K):cT' 98 [.ptr 0 0,.I 3,.agg [.I code,.bool okk,.I val]] [cE' [.tslice 1 0 x.ev.length 7,.tslice 2 0 x.cl.length 9,.I x.n0,.I x.n1,.I x.n2,.I x.n3,.I x.n4,.I x.n5,.I x.n6,.I x.n7],some (.tab cK7 x.ev),some (.tab cK9 x.cl)] (bP 1 0 [] [] oH K):=by
 exact cM' (E:=EN0) (by kernel_rfl) h
abbrev w2o(x:HST):=List.set x.2 (0+Int.toNat (W (x.7 - 1))) (bK 9 (List.getD x.2 (0+Int.toNat (W (x.7 - 1))) []) (0+0+1) [(↑(w30 x):Int)])
abbrev w2v:=(0:Int)≤(4:Int)∧(4:Int)<(↑8:Int)
def B8(x:HST)(code:Int)(okk:Bool)(val:Int):Tr (Int×HST):=.pre w2v (.ite (!ilt 0 x.7) (.pre (lE' x.1∧lE' x.2) (.ret (5,x))) (.pre w2v (.pre ((0:Int)≤W (x.7 - 1)∧W (x.7 - 1)<(↑(w2z x):Int)) (.pre (0+Int.toNat (W (x.7 - 1))<x.2.length) (.pre (0+Int.toNat (W (x.7 - 1))<List.length (w2o x)) (.pre (0=0∧lE' x.1∧x.1.length+(1:Nat)≤(4294967296:Nat)) (.pre w2v (.pre (x.1.length+(1:Nat)=List.length (x.1++ [[4,1,0,0,code,bif okk then 1 else 0,val]])∧x.2.length=List.length (List.set (w2o x) (0+Int.toNat (W (x.7 - 1))) (bK 9 (List.getD (w2o x) (0+Int.toNat (W (x.7 - 1))) []) (0+6) [code,bif okk then 1 else 0,val]))) (.ret (0,{x with ev:=x.1++ [[4,1,0,0,code,bif okk then 1 else 0,val]],cl:=List.set (w2o x) (0+Int.toNat (W (x.7 - 1))) (bK 9 (List.getD (w2o x) (0+Int.toNat (W (x.7 - 1))) []) (0+6) [code,bif okk then 1 else 0,val]),n4:=0}))))))))))
theorem WE(x:HST)(code:Int)(okk:Bool)(val:Int)(K:Int×HST→Prop)(h:(B8 x code okk val).run K):cT' 98 [.ptr 0 0,.I 4,.agg [.I code,.bool okk,.I val]] [cE' [.tslice 1 0 x.ev.length 7,.tslice 2 0 x.cl.length 9,.I x.n0,.I x.n1,.I x.n2,.I x.n3,.I x.n4,.I x.n5,.I x.n6,.I x.n7],some (.tab cK7 x.ev),some (.tab cK9 x.cl)] (bP 1 0 [] [] oH K):=by
 exact cM' (E:=EN0) (by kernel_rfl) h
abbrev w2p(x:HST):=List.set x.2 (0+Int.toNat (W (x.8 - 1))) (bK 9 (List.getD x.2 (0+Int.toNat (W (x.8 - 1))) []) (0+0+1) [(↑(w30 x):Int)])
abbrev w2w:=(0:Int)≤(5:Int)∧(5:Int)<(↑8:Int)
def B9(x:HST)(code:Int)(okk:Bool)(val:Int):Tr (Int×HST):=.pre w2w (.ite (!ilt 0 x.8) (.pre (lE' x.1∧lE' x.2) (.ret (5,x))) (.pre w2w (.pre ((0:Int)≤W (x.8 - 1)∧W (x.8 - 1)<(↑(w2z x):Int)) (.pre (0+Int.toNat (W (x.8 - 1))<x.2.length) (.pre (0+Int.toNat (W (x.8 - 1))<List.length (w2p x)) (.pre (0=0∧lE' x.1∧x.1.length+(1:Nat)≤(4294967296:Nat)) (.pre w2w (.pre (x.1.length+(1:Nat)=List.length (x.1++ [[5,1,0,0,code,bif okk then 1 else 0,val]])∧x.2.length=List.length (List.set (w2p x) (0+Int.toNat (W (x.8 - 1))) (bK 9 (List.getD (w2p x) (0+Int.toNat (W (x.8 - 1))) []) (0+6) [code,bif okk then 1 else 0,val]))) (.ret (0,{x with ev:=x.1++ [[5,1,0,0,code,bif okk then 1 else 0,val]],cl:=List.set (w2p x) (0+Int.toNat (W (x.8 - 1))) (bK 9 (List.getD (w2p x) (0+Int.toNat (W (x.8 - 1))) []) (0+6) [code,bif okk then 1 else 0,val]),n5:=0}))))))))))
theorem WF(x:HST)(code:Int)(okk:Bool)(val:Int)(K:Int×HST→Prop)(h:(B9 x code okk val).run K):cT' 98 [.ptr 0 0,.I 5,.agg [.I code,.bool okk,.I val]] [cE' [.tslice 1 0 x.ev.length 7,.tslice 2 0 x.cl.length 9,.I x.n0,.I x.n1,.I x.n2,.I x.n3,.I x.n4,.I x.n5,.I x.n6,.I x.n7],some (.tab cK7 x.ev),some (.tab cK9 x.cl)] (bP 1 0 [] [] oH K):=by
 exact cM' (E:=EN0) (by kernel_rfl) h
abbrev w2q(x:HST):=List.set x.2 (0+Int.toNat (W (x.9 - 1))) (bK 9 (List.getD x.2 (0+Int.toNat (W (x.9 - 1))) []) (0+0+1) [(↑(w30 x):Int)])
abbrev w2x:=(0:Int)≤(6:Int)∧(6:Int)<(↑8:Int)
def CA(x:HST)(code:Int)(okk:Bool)(val:Int):Tr (Int×HST):=.pre w2x (.ite (!ilt 0 x.9) (.pre (lE' x.1∧lE' x.2) (.ret (5,x))) (.pre w2x (.pre ((0:Int)≤W (x.9 - 1)∧W (x.9 - 1)<(↑(w2z x):Int)) (.pre (0+Int.toNat (W (x.9 - 1))<x.2.length) (.pre (0+Int.toNat (W (x.9 - 1))<List.length (w2q x)) (.pre (0=0∧lE' x.1∧x.1.length+(1:Nat)≤(4294967296:Nat)) (.pre w2x (.pre (x.1.length+(1:Nat)=List.length (x.1++ [[6,1,0,0,code,bif okk then 1 else 0,val]])∧x.2.length=List.length (List.set (w2q x) (0+Int.toNat (W (x.9 - 1))) (bK 9 (List.getD (w2q x) (0+Int.toNat (W (x.9 - 1))) []) (0+6) [code,bif okk then 1 else 0,val]))) (.ret (0,{x with ev:=x.1++ [[6,1,0,0,code,bif okk then 1 else 0,val]],cl:=List.set (w2q x) (0+Int.toNat (W (x.9 - 1))) (bK 9 (List.getD (w2q x) (0+Int.toNat (W (x.9 - 1))) []) (0+6) [code,bif okk then 1 else 0,val]),n6:=0}))))))))))
theorem WG(x:HST)(code:Int)(okk:Bool)(val:Int)(K:Int×HST→Prop)(h:(CA x code okk val).run K):cT' 98 [.ptr 0 0,.I 6,.agg [.I code,.bool okk,.I val]] [cE' [.tslice 1 0 x.ev.length 7,.tslice 2 0 x.cl.length 9,.I x.n0,.I x.n1,.I x.n2,.I x.n3,.I x.n4,.I x.n5,.I x.n6,.I x.n7],some (.tab cK7 x.ev),some (.tab cK9 x.cl)] (bP 1 0 [] [] oH K):=by
 exact cM' (E:=EN0) (by kernel_rfl) h
abbrev w2j(x:HST):=List.set x.2 (0+Int.toNat (W (x.10 - 1))) (bK 9 (List.getD x.2 (0+Int.toNat (W (x.10 - 1))) []) (0+0+1) [(↑(w30 x):Int)])
abbrev w2y:=(0:Int)≤(7:Int)∧(7:Int)<(↑8:Int)
def CB(x:HST)(code:Int)(okk:Bool)(val:Int):Tr (Int×HST):=.pre w2y (.ite (!ilt 0 x.10) (.pre (lE' x.1∧lE' x.2) (.ret (5,x))) (.pre w2y (.pre ((0:Int)≤W (x.10 - 1)∧W (x.10 - 1)<(↑(w2z x):Int)) (.pre (0+Int.toNat (W (x.10 - 1))<x.2.length) (.pre (0+Int.toNat (W (x.10 - 1))<List.length (w2j x)) (.pre (0=0∧lE' x.1∧x.1.length+(1:Nat)≤(4294967296:Nat)) (.pre w2y (.pre (x.1.length+(1:Nat)=List.length (x.1++ [[7,1,0,0,code,bif okk then 1 else 0,val]])∧x.2.length=List.length (List.set (w2j x) (0+Int.toNat (W (x.10 - 1))) (bK 9 (List.getD (w2j x) (0+Int.toNat (W (x.10 - 1))) []) (0+6) [code,bif okk then 1 else 0,val]))) (.ret (0,{x with ev:=x.1++ [[7,1,0,0,code,bif okk then 1 else 0,val]],cl:=List.set (w2j x) (0+Int.toNat (W (x.10 - 1))) (bK 9 (List.getD (w2j x) (0+Int.toNat (W (x.10 - 1))) []) (0+6) [code,bif okk then 1 else 0,val]),n7:=0}))))))))))
theorem WH(x:HST)(code:Int)(okk:Bool)(val:Int)(K:Int×HST→Prop)(h:(CB x code okk val).run K):cT' 98 [.ptr 0 0,.I 7,.agg [.I code,.bool okk,.I val]] [cE' [.tslice 1 0 x.ev.length 7,.tslice 2 0 x.cl.length 9,.I x.n0,.I x.n1,.I x.n2,.I x.n3,.I x.n4,.I x.n5,.I x.n6,.I x.n7],some (.tab cK7 x.ev),some (.tab cK9 x.cl)] (bP 1 0 [] [] oH K):=by
 exact cM' (E:=EN0) (by kernel_rfl) h
def heT(th:Int)(x:HST)(code:Int)(okk:Bool)(val:Int):Tr (Int×HST):=
 bif ieq th 0 then B4 x code okk val else
 bif ieq th 1 then B5 x code okk val else
 bif ieq th 2 then B6 x code okk val else
 bif ieq th 3 then B7 x code okk val else
 bif ieq th 4 then B8 x code okk val else
 bif ieq th 5 then B9 x code okk val else
 bif ieq th 6 then CA x code okk val else
 bif ieq th 7 then CB x code okk val else .pre False (.ret default)
def heF(th:Int)(x:HST)(code:Int)(okk:Bool)(val:Int):Int×HST:=(heT th x code okk val).val
def heOk(th:Int)(x:HST)(code:Int)(okk:Bool)(val:Int):Prop:=(heT th x code okk val).ok
theorem V9(th:Int)(x:HST)(code:Int)(okk:Bool)(val:Int)(K:AVal→aC Ob→Prop)(h:(heT th x code okk val).run (fun y=>(Out.ret (.I y.1) [some (.abs (.hist y.2) [])]).run K)):cT' 98 [.ptr 0 0,.I th,.agg [.I code,.bool okk,.I val]] [some (.abs (.hist x) [])] K:=by
 unfold heT at h
 by_cases e:th=0
 ·rw [e]at h;have h:(B4 x code okk val).run _:=h;rw [e];exact aHq (root:=0) (pos:=[]) (cs:=[]) (parse:=oH) (fin:=fun y=>.ret (.I y.1) [some (.abs (.hist y.2) [])]) fL (aR.unpack (.hist x) 0 0 (pV x) [] rfl rfl rfl rfl) (WA x code okk val _ h)
 rw [bL e]at h
 by_cases e:th=1
 ·rw [e]at h;have h:(B5 x code okk val).run _:=h;rw [e];exact aHq (root:=0) (pos:=[]) (cs:=[]) (parse:=oH) (fin:=fun y=>.ret (.I y.1) [some (.abs (.hist y.2) [])]) fL (aR.unpack (.hist x) 0 0 (pV x) [] rfl rfl rfl rfl) (WB x code okk val _ h)
 rw [bL e]at h
 by_cases e:th=2
 ·rw [e]at h;have h:(B6 x code okk val).run _:=h;rw [e];exact aHq (root:=0) (pos:=[]) (cs:=[]) (parse:=oH) (fin:=fun y=>.ret (.I y.1) [some (.abs (.hist y.2) [])]) fL (aR.unpack (.hist x) 0 0 (pV x) [] rfl rfl rfl rfl) (WC x code okk val _ h)
 rw [bL e]at h
 by_cases e:th=3
 ·rw [e]at h;have h:(B7 x code okk val).run _:=h;rw [e];exact aHq (root:=0) (pos:=[]) (cs:=[]) (parse:=oH) (fin:=fun y=>.ret (.I y.1) [some (.abs (.hist y.2) [])]) fL (aR.unpack (.hist x) 0 0 (pV x) [] rfl rfl rfl rfl) (WD x code okk val _ h)
 rw [bL e]at h
 by_cases e:th=4
 ·rw [e]at h;have h:(B8 x code okk val).run _:=h;rw [e];exact aHq (root:=0) (pos:=[]) (cs:=[]) (parse:=oH) (fin:=fun y=>.ret (.I y.1) [some (.abs (.hist y.2) [])]) fL (aR.unpack (.hist x) 0 0 (pV x) [] rfl rfl rfl rfl) (WE x code okk val _ h)
 rw [bL e]at h
 by_cases e:th=5
 ·rw [e]at h;have h:(B9 x code okk val).run _:=h;rw [e];exact aHq (root:=0) (pos:=[]) (cs:=[]) (parse:=oH) (fin:=fun y=>.ret (.I y.1) [some (.abs (.hist y.2) [])]) fL (aR.unpack (.hist x) 0 0 (pV x) [] rfl rfl rfl rfl) (WF x code okk val _ h)
 rw [bL e]at h
 by_cases e:th=6
 ·rw [e]at h;have h:(CA x code okk val).run _:=h;rw [e];exact aHq (root:=0) (pos:=[]) (cs:=[]) (parse:=oH) (fin:=fun y=>.ret (.I y.1) [some (.abs (.hist y.2) [])]) fL (aR.unpack (.hist x) 0 0 (pV x) [] rfl rfl rfl rfl) (WG x code okk val _ h)
 rw [bL e]at h
 by_cases e:th=7
 ·rw [e]at h;have h:(CB x code okk val).run _:=h;rw [e];exact aHq (root:=0) (pos:=[]) (cs:=[]) (parse:=oH) (fin:=fun y=>.ret (.I y.1) [some (.abs (.hist y.2) [])]) fL (aR.unpack (.hist x) 0 0 (pV x) [] rfl rfl rfl rfl) (WH x code okk val _ h)
 rw [bL e]at h;exact h.1.elim
def heS:aH Ob:=fun args h=>match args,h with
 | [.ptr 0 0,.int .i64 th,.agg [.int .i64 code,.bool okk,.int .i64 val]],[some (.abs (.hist x) [])]=>some (.pre (heOk th x code okk val) (.ret (.I (heF th x code okk val).1) [some (.abs (.hist (heF th x code okk val).2) [])]))
 | _,_=>none
theorem aER:sT' 98 heS:=by
 intro args h o ho K hK;unfold heS at ho;split at ho
 case h_2=>cases ho
 simp only [sI']at ho;subst ho;obtain⟨ok,hK⟩:=hK;exact V9 _ _ _ _ _ K (aHw ok hK)
noncomputable def EN1:=((EN0.addS 81 hnS aET).addS 70 hbS aEI).addS 98 heS aER
end Go.Sh
