import Derived.Test.YtedeloeobocpiaaGreatZGC4toGH0
set_option linter.all false
set_option maxHeartbeats 8000000
namespace Go.Sh
open Go Go.Proofs
variable [Con]
structure HpO where
 d:Bool
 x:HPS
 st:STS
 s:MS
instance:Inhabited HpO:=⟨⟨false,bU,⟨0,0,[]⟩,⟨0,0,[],0,0,0,0,0,false⟩⟩⟩
instance:Inhabited HPS:=⟨bU⟩
abbrev J2(t n:Int)(x:HPS)(st:STS)(s:MS):aD Ob:=[some (.abs (.help t n x) [1]),some (.abs (.store t n st) []),aY 3 s,aZ s]
abbrev O0(t n:Int)(x:HPS)(st:STS)(s:MS):aD Ob:=[cE' [.ptr 1 0,.I x.u,.int .u64 x.no,.I x.rounds,.I x.limit,.I x.at',.int .u64 x.found,.I x.sh,.I x.kd,.I x.ky,.bool x.p.now,.I x.p.code,.bool x.p.okk,.I x.p.val,.I x.p.addr,.int .u64 x.p.old,.I x.p.nxt,.bool x.p.mark,.I x.p.pops,.O,.O,.O,.O,.O],some (.abs (.store t n st) []),aY 3 s,aZ s]
def HpO.fin(t n:Int)(y:HpO):Out Ob:=.ite y.d (.ret (.bool true) (O0 t n y.x y.st y.s)) (.ret (.bool false) (J2 t n y.x y.st y.s))
def aBN(t n:Int)(v:AVal)(g:aD Ob):Option (Prop×HpO):=match v,g with
 | .bool d,[some (.cells [.ptr 1 0,.int .i64 u,.int .u64 no,.int .i64 rounds,.int .i64 limit,.int .i64 at',.int .u64 found,.int .i64 sh,.int .i64 kd,.int .i64 ky,.bool p_now,.int .i64 p_code,.bool p_okk,.int .i64 p_val,.int .i64 p_addr,.int .u64 p_old,.int .i64 p_nxt,.bool p_mark,.int .i64 p_pops,.O,.O,.O,.O,.O]),e1,e3,e4,e2]=>(match lL 4 [e1,e2],cU 3 [e3,e4]with
   | some (l2,t2,n2,st),some (l,s)=>some ((t2=t∧n2=n)∧(d=false→at'≠3∧at'≠4∧at'≠5∧at'≠7∧at'≠8)∧l=s.xs.length∧l2=st.R.length,⟨d,⟨u,no,rounds,limit,at',found,sh,kd,ky,⟨p_now,p_code,p_okk,p_val,p_addr,p_old,p_nxt,p_mark,p_pops⟩,cS,aU,aP,⟨0,0,0,0⟩,⟨0,0,0,false⟩⟩,st,s⟩)
   | _,_=>none)
 | _,_=>none
def aBO(t n:Int)(v:AVal)(g:aD Ob):Option (Prop×HpO):=match v,g with
 | .bool d,[some (.cells [.ptr 1 0,.int .i64 u,.int .u64 no,.int .i64 rounds,.int .i64 limit,.int .i64 at',.int .u64 found,.int .i64 sh,.int .i64 kd,.int .i64 ky,.bool p_now,.int .i64 p_code,.bool p_okk,.int .i64 p_val,.int .i64 p_addr,.int .u64 p_old,.int .i64 p_nxt,.bool p_mark,.int .i64 p_pops,.ptr 4 0,.O,.O,.O,.O]),e1,e3,e4,some (.abs (.exec t' n' sub) []),e2]=>(match lL 5 [e1,e2],cU 3 [e3,e4]with
   | some (l2,t2,n2,st),some (l,s)=>some ((t2=t∧n2=n)∧t'=t∧n'=n∧(d=false→at'=3)∧l=s.xs.length∧l2=st.R.length,⟨d,⟨u,no,rounds,limit,at',found,sh,kd,ky,⟨p_now,p_code,p_okk,p_val,p_addr,p_old,p_nxt,p_mark,p_pops⟩,sub,aU,aP,⟨0,0,0,0⟩,⟨0,0,0,false⟩⟩,st,s⟩)
   | _,_=>none)
 | _,_=>none
def aBP(t n:Int)(v:AVal)(g:aD Ob):Option (Prop×HpO):=match v,g with
 | .bool d,[some (.cells [.ptr 1 0,.int .i64 u,.int .u64 no,.int .i64 rounds,.int .i64 limit,.int .i64 at',.int .u64 found,.int .i64 sh,.int .i64 kd,.int .i64 ky,.bool p_now,.int .i64 p_code,.bool p_okk,.int .i64 p_val,.int .i64 p_addr,.int .u64 p_old,.int .i64 p_nxt,.bool p_mark,.int .i64 p_pops,.O,.ptr 4 0,.O,.O,.O]),e1,e3,e4,some (.abs (.ensure t' n' sub) [1]),e2]=>(match lL 5 [e1,e2],cU 3 [e3,e4]with
   | some (l2,t2,n2,st),some (l,s)=>some ((t2=t∧n2=n)∧t'=t∧n'=n∧(d=false→at'=4)∧l=s.xs.length∧l2=st.R.length,⟨d,⟨u,no,rounds,limit,at',found,sh,kd,ky,⟨p_now,p_code,p_okk,p_val,p_addr,p_old,p_nxt,p_mark,p_pops⟩,cS,sub,aP,⟨0,0,0,0⟩,⟨0,0,0,false⟩⟩,st,s⟩)
   | _,_=>none)
 | _,_=>none
def aBQ(t n:Int)(v:AVal)(g:aD Ob):Option (Prop×HpO):=match v,g with
 | .bool d,[some (.cells [.ptr 1 0,.int .i64 u,.int .u64 no,.int .i64 rounds,.int .i64 limit,.int .i64 at',.int .u64 found,.int .i64 sh,.int .i64 kd,.int .i64 ky,.bool p_now,.int .i64 p_code,.bool p_okk,.int .i64 p_val,.int .i64 p_addr,.int .u64 p_old,.int .i64 p_nxt,.bool p_mark,.int .i64 p_pops,.O,.O,.ptr 4 0,.O,.O]),e1,e3,e4,some (.abs (.find t' n' sub) []),e2]=>(match lL 5 [e1,e2],cU 3 [e3,e4]with
   | some (l2,t2,n2,st),some (l,s)=>some ((t2=t∧n2=n)∧t'=t∧n'=n∧(d=false→at'=5)∧l=s.xs.length∧l2=st.R.length,⟨d,⟨u,no,rounds,limit,at',found,sh,kd,ky,⟨p_now,p_code,p_okk,p_val,p_addr,p_old,p_nxt,p_mark,p_pops⟩,cS,aU,sub,⟨0,0,0,0⟩,⟨0,0,0,false⟩⟩,st,s⟩)
   | _,_=>none)
 | _,_=>none
def aBR(t n:Int)(v:AVal)(g:aD Ob):Option (Prop×HpO):=match v,g with
 | .bool d,[some (.cells [.ptr 1 0,.int .i64 u,.int .u64 no,.int .i64 rounds,.int .i64 limit,.int .i64 at',.int .u64 found,.int .i64 sh,.int .i64 kd,.int .i64 ky,.bool p_now,.int .i64 p_code,.bool p_okk,.int .i64 p_val,.int .i64 p_addr,.int .u64 p_old,.int .i64 p_nxt,.bool p_mark,.int .i64 p_pops,.O,.O,.O,.ptr 4 0,.O]),e1,e3,e4,some (.abs (.clear t' n' sub) []),e2]=>(match lL 5 [e1,e2],cU 3 [e3,e4]with
   | some (l2,t2,n2,st),some (l,s)=>some ((t2=t∧n2=n)∧t'=t∧n'=n∧(d=false→at'=7)∧l=s.xs.length∧l2=st.R.length,⟨d,⟨u,no,rounds,limit,at',found,sh,kd,ky,⟨p_now,p_code,p_okk,p_val,p_addr,p_old,p_nxt,p_mark,p_pops⟩,cS,aU,aP,sub,⟨0,0,0,false⟩⟩,st,s⟩)
   | _,_=>none)
 | _,_=>none
def aBS(t n:Int)(v:AVal)(g:aD Ob):Option (Prop×HpO):=match v,g with
 | .bool d,[some (.cells [.ptr 1 0,.int .i64 u,.int .u64 no,.int .i64 rounds,.int .i64 limit,.int .i64 at',.int .u64 found,.int .i64 sh,.int .i64 kd,.int .i64 ky,.bool p_now,.int .i64 p_code,.bool p_okk,.int .i64 p_val,.int .i64 p_addr,.int .u64 p_old,.int .i64 p_nxt,.bool p_mark,.int .i64 p_pops,.O,.O,.O,.O,.ptr 4 0]),e1,e3,e4,some (.abs (.prepare t' n' sub) [1]),e2]=>(match lL 5 [e1,e2],cU 3 [e3,e4]with
   | some (l2,t2,n2,st),some (l,s)=>some ((t2=t∧n2=n)∧t'=t∧n'=n∧(d=false→at'=8)∧l=s.xs.length∧l2=st.R.length,⟨d,⟨u,no,rounds,limit,at',found,sh,kd,ky,⟨p_now,p_code,p_okk,p_val,p_addr,p_old,p_nxt,p_mark,p_pops⟩,cS,aU,aP,⟨0,0,0,0⟩,sub⟩,st,s⟩)
   | _,_=>none)
 | _,_=>none
def xR(t n:Int)(v:AVal)(g:aD Ob):Option (Prop×HpO):=(match aBN t n v g with
 | some r=>some r
 | none=>(match aBO t n v g with
 | some r=>some r
 | none=>(match aBP t n v g with
 | some r=>some r
 | none=>(match aBQ t n v g with
 | some r=>some r
 | none=>(match aBR t n v g with
 | some r=>some r
 | none=>aBS t n v g)))))
theorem XA{t n:Int} :cE (obI tbl) 4 (aBN t n) (HpO.fin t n):=by
 intro v g p x hp hq K hK;unfold aBN at hp;split at hp
 case h_2=>cases hp
 rename_i d u no rounds limit at' found sh kd ky p_now p_code p_okk p_val p_addr p_old p_nxt p_mark p_pops e1 e3 e4 e2;split at hp
 case h_2=>cases hp
 rename_i l2 t2 n2 st l s hs hm;simp only [sI',pI']at hp;obtain⟨rfl,rfl⟩:=hp;obtain⟨⟨rfl,rfl⟩,hat,hl,hl2⟩:=hq;have hh:=bB hm hl;cases hh;have hh:=cH hs hl2;cases hh;refine fM hK (fun h=>?_) (fun hd h=>?_)
 ·exact⟨⟨_,_,(aF.pack (O0 t2 n2 (⟨u,no,rounds,limit,at',found,sh,kd,ky,⟨p_now,p_code,p_okk,p_val,p_addr,p_old,p_nxt,p_mark,p_pops⟩,cS,aU,aP,⟨0,0,0,0⟩,⟨0,0,0,false⟩⟩:HPS) st s) (.store t2 n2 st) 1 0 (dJ t2 n2 st) [] (by kernel_rfl) rfl rfl (by kernel_rfl)),h⟩⟩
 ·exact let X0:HPS:=⟨u,no,rounds,limit,at',found,sh,kd,ky,⟨p_now,p_code,p_okk,p_val,p_addr,p_old,p_nxt,p_mark,p_pops⟩,cS,aU,aP,⟨0,0,0,0⟩,⟨0,0,0,false⟩⟩;⟨⟨_,_,((aF.pack (bA (J2 t2 n2 X0 st s) 0 1 (lF t2 n2 X0) [1]) (.store t2 n2 st) 1 0 (dJ t2 n2 st) [] (by kernel_rfl) rfl rfl (by kernel_rfl)).trans (aF.pack (J2 t2 n2 X0 st s) (.help t2 n2 X0) 0 1 (lF t2 n2 X0) [1] (by kernel_rfl) rfl (congrArg (Prod.mk 1) (jZ (hat hd))) (by kernel_rfl))),h⟩⟩
theorem XB{t n:Int} :cE (obI tbl) 4 (aBO t n) (HpO.fin t n):=by
 intro v g p x hp hq K hK;unfold aBO at hp;split at hp
 case h_2=>cases hp
 rename_i d u no rounds limit at' found sh kd ky p_now p_code p_okk p_val p_addr p_old p_nxt p_mark p_pops e1 e3 e4 t' n' sub e2;split at hp
 case h_2=>cases hp
 rename_i l2 t2 n2 st l s hs hm;simp only [sI',pI']at hp;obtain⟨rfl,rfl⟩:=hp;obtain⟨⟨rfl,rfl⟩,rfl,rfl,hat,hl,hl2⟩:=hq;have hh:=bB hm hl;cases hh;have hh:=cH hs hl2;cases hh;refine fM hK (fun h=>?_) (fun hd h=>?_)
 ·exact⟨⟨_,_,(aF.weak (cD _ 0 [19,20,21,22,23])).trans ((aF.pick [0,1,2,3,5] rfl).trans ((aF.eq (g2:=bA (O0 t' n' (⟨u,no,rounds,limit,at',found,sh,kd,ky,⟨p_now,p_code,p_okk,p_val,p_addr,p_old,p_nxt,p_mark,p_pops⟩,sub,aU,aP,⟨0,0,0,0⟩,⟨0,0,0,false⟩⟩:HPS) st s) 1 0 (dJ t' n' st) []) (by kernel_rfl) (by kernel_rfl)).trans (aF.pack (O0 t' n' (⟨u,no,rounds,limit,at',found,sh,kd,ky,⟨p_now,p_code,p_okk,p_val,p_addr,p_old,p_nxt,p_mark,p_pops⟩,sub,aU,aP,⟨0,0,0,0⟩,⟨0,0,0,false⟩⟩:HPS) st s) (.store t' n' st) 1 0 (dJ t' n' st) [] (by kernel_rfl) rfl rfl (by kernel_rfl)))),h⟩⟩
 ·exact let X0:HPS:=⟨u,no,rounds,limit,at',found,sh,kd,ky,⟨p_now,p_code,p_okk,p_val,p_addr,p_old,p_nxt,p_mark,p_pops⟩,sub,aU,aP,⟨0,0,0,0⟩,⟨0,0,0,false⟩⟩;⟨⟨_,_,((aF.pack (bA (J2 t' n' X0 st s) 0 1 (oE t' n' X0) [1]) (.store t' n' st) 1 0 (dJ t' n' st) [] (by kernel_rfl) rfl rfl (by kernel_rfl)).trans (aF.pack (J2 t' n' X0 st s) (.help t' n' X0) 0 1 (oE t' n' X0) [1] (by kernel_rfl) rfl (congrArg (Prod.mk 1) (JW (hat hd))) (by kernel_rfl))),h⟩⟩
theorem XC{t n:Int} :cE (obI tbl) 4 (aBP t n) (HpO.fin t n):=by
 intro v g p x hp hq K hK;unfold aBP at hp;split at hp
 case h_2=>cases hp
 rename_i d u no rounds limit at' found sh kd ky p_now p_code p_okk p_val p_addr p_old p_nxt p_mark p_pops e1 e3 e4 t' n' sub e2;split at hp
 case h_2=>cases hp
 rename_i l2 t2 n2 st l s hs hm;simp only [sI',pI']at hp;obtain⟨rfl,rfl⟩:=hp;obtain⟨⟨rfl,rfl⟩,rfl,rfl,hat,hl,hl2⟩:=hq;have hh:=bB hm hl;cases hh;have hh:=cH hs hl2;cases hh;refine fM hK (fun h=>?_) (fun hd h=>?_)
 ·exact⟨⟨_,_,(aF.weak (cD _ 0 [19,20,21,22,23])).trans ((aF.pick [0,1,2,3,5] rfl).trans ((aF.eq (g2:=bA (O0 t' n' (⟨u,no,rounds,limit,at',found,sh,kd,ky,⟨p_now,p_code,p_okk,p_val,p_addr,p_old,p_nxt,p_mark,p_pops⟩,cS,sub,aP,⟨0,0,0,0⟩,⟨0,0,0,false⟩⟩:HPS) st s) 1 0 (dJ t' n' st) []) (by kernel_rfl) (by kernel_rfl)).trans (aF.pack (O0 t' n' (⟨u,no,rounds,limit,at',found,sh,kd,ky,⟨p_now,p_code,p_okk,p_val,p_addr,p_old,p_nxt,p_mark,p_pops⟩,cS,sub,aP,⟨0,0,0,0⟩,⟨0,0,0,false⟩⟩:HPS) st s) (.store t' n' st) 1 0 (dJ t' n' st) [] (by kernel_rfl) rfl rfl (by kernel_rfl)))),h⟩⟩
 ·exact let X0:HPS:=⟨u,no,rounds,limit,at',found,sh,kd,ky,⟨p_now,p_code,p_okk,p_val,p_addr,p_old,p_nxt,p_mark,p_pops⟩,cS,sub,aP,⟨0,0,0,0⟩,⟨0,0,0,false⟩⟩;⟨⟨_,_,((aF.pack (bA (J2 t' n' X0 st s) 0 1 (oD t' n' X0) [1]) (.store t' n' st) 1 0 (dJ t' n' st) [] (by kernel_rfl) rfl rfl (by kernel_rfl)).trans (aF.pack (J2 t' n' X0 st s) (.help t' n' X0) 0 1 (oD t' n' X0) [1] (by kernel_rfl) rfl (congrArg (Prod.mk 1) (JX (hat hd))) (by kernel_rfl))),h⟩⟩
theorem XD{t n:Int} :cE (obI tbl) 4 (aBQ t n) (HpO.fin t n):=by
 intro v g p x hp hq K hK;unfold aBQ at hp;split at hp
 case h_2=>cases hp
 rename_i d u no rounds limit at' found sh kd ky p_now p_code p_okk p_val p_addr p_old p_nxt p_mark p_pops e1 e3 e4 t' n' sub e2;split at hp
 case h_2=>cases hp
 rename_i l2 t2 n2 st l s hs hm;simp only [sI',pI']at hp;obtain⟨rfl,rfl⟩:=hp;obtain⟨⟨rfl,rfl⟩,rfl,rfl,hat,hl,hl2⟩:=hq;have hh:=bB hm hl;cases hh;have hh:=cH hs hl2;cases hh;refine fM hK (fun h=>?_) (fun hd h=>?_)
 ·exact⟨⟨_,_,(aF.weak (cD _ 0 [19,20,21,22,23])).trans ((aF.pick [0,1,2,3,5] rfl).trans ((aF.eq (g2:=bA (O0 t' n' (⟨u,no,rounds,limit,at',found,sh,kd,ky,⟨p_now,p_code,p_okk,p_val,p_addr,p_old,p_nxt,p_mark,p_pops⟩,cS,aU,sub,⟨0,0,0,0⟩,⟨0,0,0,false⟩⟩:HPS) st s) 1 0 (dJ t' n' st) []) (by kernel_rfl) (by kernel_rfl)).trans (aF.pack (O0 t' n' (⟨u,no,rounds,limit,at',found,sh,kd,ky,⟨p_now,p_code,p_okk,p_val,p_addr,p_old,p_nxt,p_mark,p_pops⟩,cS,aU,sub,⟨0,0,0,0⟩,⟨0,0,0,false⟩⟩:HPS) st s) (.store t' n' st) 1 0 (dJ t' n' st) [] (by kernel_rfl) rfl rfl (by kernel_rfl)))),h⟩⟩
 ·exact let X0:HPS:=⟨u,no,rounds,limit,at',found,sh,kd,ky,⟨p_now,p_code,p_okk,p_val,p_addr,p_old,p_nxt,p_mark,p_pops⟩,cS,aU,sub,⟨0,0,0,0⟩,⟨0,0,0,false⟩⟩;⟨⟨_,_,((aF.pack (bA (J2 t' n' X0 st s) 0 1 (oF t' n' X0) [1]) (.store t' n' st) 1 0 (dJ t' n' st) [] (by kernel_rfl) rfl rfl (by kernel_rfl)).trans (aF.pack (J2 t' n' X0 st s) (.help t' n' X0) 0 1 (oF t' n' X0) [1] (by kernel_rfl) rfl (congrArg (Prod.mk 1) (JY (hat hd))) (by kernel_rfl))),h⟩⟩
theorem XE{t n:Int} :cE (obI tbl) 4 (aBR t n) (HpO.fin t n):=by
 intro v g p x hp hq K hK;unfold aBR at hp;split at hp
 case h_2=>cases hp
 rename_i d u no rounds limit at' found sh kd ky p_now p_code p_okk p_val p_addr p_old p_nxt p_mark p_pops e1 e3 e4 t' n' sub e2;split at hp
 case h_2=>cases hp
 rename_i l2 t2 n2 st l s hs hm;simp only [sI',pI']at hp;obtain⟨rfl,rfl⟩:=hp;obtain⟨⟨rfl,rfl⟩,rfl,rfl,hat,hl,hl2⟩:=hq;have hh:=bB hm hl;cases hh;have hh:=cH hs hl2;cases hh;refine fM hK (fun h=>?_) (fun hd h=>?_)
 ·exact⟨⟨_,_,(aF.weak (cD _ 0 [19,20,21,22,23])).trans ((aF.pick [0,1,2,3,5] rfl).trans ((aF.eq (g2:=bA (O0 t' n' (⟨u,no,rounds,limit,at',found,sh,kd,ky,⟨p_now,p_code,p_okk,p_val,p_addr,p_old,p_nxt,p_mark,p_pops⟩,cS,aU,aP,sub,⟨0,0,0,false⟩⟩:HPS) st s) 1 0 (dJ t' n' st) []) (by kernel_rfl) (by kernel_rfl)).trans (aF.pack (O0 t' n' (⟨u,no,rounds,limit,at',found,sh,kd,ky,⟨p_now,p_code,p_okk,p_val,p_addr,p_old,p_nxt,p_mark,p_pops⟩,cS,aU,aP,sub,⟨0,0,0,false⟩⟩:HPS) st s) (.store t' n' st) 1 0 (dJ t' n' st) [] (by kernel_rfl) rfl rfl (by kernel_rfl)))),h⟩⟩
 ·exact let X0:HPS:=⟨u,no,rounds,limit,at',found,sh,kd,ky,⟨p_now,p_code,p_okk,p_val,p_addr,p_old,p_nxt,p_mark,p_pops⟩,cS,aU,aP,sub,⟨0,0,0,false⟩⟩;⟨⟨_,_,((aF.pack (bA (J2 t' n' X0 st s) 0 1 (oC t' n' X0) [1]) (.store t' n' st) 1 0 (dJ t' n' st) [] (by kernel_rfl) rfl rfl (by kernel_rfl)).trans (aF.pack (J2 t' n' X0 st s) (.help t' n' X0) 0 1 (oC t' n' X0) [1] (by kernel_rfl) rfl (congrArg (Prod.mk 1) (JZ (hat hd))) (by kernel_rfl))),h⟩⟩
theorem XF{t n:Int} :cE (obI tbl) 4 (aBS t n) (HpO.fin t n):=by
 intro v g p x hp hq K hK;unfold aBS at hp;split at hp
 case h_2=>cases hp
 rename_i d u no rounds limit at' found sh kd ky p_now p_code p_okk p_val p_addr p_old p_nxt p_mark p_pops e1 e3 e4 t' n' sub e2;split at hp
 case h_2=>cases hp
 rename_i l2 t2 n2 st l s hs hm;simp only [sI',pI']at hp;obtain⟨rfl,rfl⟩:=hp;obtain⟨⟨rfl,rfl⟩,rfl,rfl,hat,hl,hl2⟩:=hq;have hh:=bB hm hl;cases hh;have hh:=cH hs hl2;cases hh;refine fM hK (fun h=>?_) (fun hd h=>?_)
 ·exact⟨⟨_,_,(aF.weak (cD _ 0 [19,20,21,22,23])).trans ((aF.pick [0,1,2,3,5] rfl).trans ((aF.eq (g2:=bA (O0 t' n' (⟨u,no,rounds,limit,at',found,sh,kd,ky,⟨p_now,p_code,p_okk,p_val,p_addr,p_old,p_nxt,p_mark,p_pops⟩,cS,aU,aP,⟨0,0,0,0⟩,sub⟩:HPS) st s) 1 0 (dJ t' n' st) []) (by kernel_rfl) (by kernel_rfl)).trans (aF.pack (O0 t' n' (⟨u,no,rounds,limit,at',found,sh,kd,ky,⟨p_now,p_code,p_okk,p_val,p_addr,p_old,p_nxt,p_mark,p_pops⟩,cS,aU,aP,⟨0,0,0,0⟩,sub⟩:HPS) st s) (.store t' n' st) 1 0 (dJ t' n' st) [] (by kernel_rfl) rfl rfl (by kernel_rfl)))),h⟩⟩
 ·exact let X0:HPS:=⟨u,no,rounds,limit,at',found,sh,kd,ky,⟨p_now,p_code,p_okk,p_val,p_addr,p_old,p_nxt,p_mark,p_pops⟩,cS,aU,aP,⟨0,0,0,0⟩,sub⟩;⟨⟨_,_,((aF.pack (bA (J2 t' n' X0 st s) 0 1 (oG t' n' X0) [1]) (.store t' n' st) 1 0 (dJ t' n' st) [] (by kernel_rfl) rfl rfl (by kernel_rfl)).trans (aF.pack (J2 t' n' X0 st s) (.help t' n' X0) 0 1 (oG t' n' X0) [1] (by kernel_rfl) rfl (congrArg (Prod.mk 1) (J0 (hat hd))) (by kernel_rfl))),h⟩⟩
theorem lG{t n:Int} :cE (obI tbl) 4 (xR t n) (HpO.fin t n):=by
 intro v g p x hp hq K hK;unfold xR at hp;split at hp
 ·rename_i r hr;cases hp;exact XA v g p x hr hq K hK
 split at hp
 ·rename_i r hr;cases hp;exact XB v g p x hr hq K hK
 split at hp
 ·rename_i r hr;cases hp;exact XC v g p x hr hq K hK
 split at hp
 ·rename_i r hr;cases hp;exact XD v g p x hr hq K hK
 split at hp
 ·rename_i r hr;cases hp;exact XE v g p x hr hq K hK
 exact XF v g p x hp hq K hK
abbrev w21(n t:Int)(x:HPS):=(((0:Int)≤t∧t≤(100000:Int))∧((0:Int)≤n∧n≤(100000:Int))∧(-1099511627776:Int)≤x.1∧x.1≤(1099511627776:Int))∧True
def D5(t n:Int)(x:HPS)(st:STS)(s:MS):Tr HpO:=.pre (w21 n t x) (.pre ((lE' s.3∧(0:Int)≤s.4∧s.4≤(4611686018427387904:Int))∧True) (.pre True (.pre True (.pre ((t=t∧n=n)∧((!kE (aA (aB s.3 (2*n+5+2*t+3*x.1+2)) 49 3))=false→(1:Int)≠(3:Int)∧(1:Int)≠(4:Int)∧(1:Int)≠(5:Int)∧(1:Int)≠(7:Int)∧(1:Int)≠(8:Int))∧lE' s.3∧lE' st.3) (.ret {d:=!kE (aA (aB s.3 (2*n+5+2*t+3*x.1+2)) 49 3),x:= {x with rounds:=W (x.3+1),at':=1,found:=aB s.3 (2*n+5+2*t+3*x.1+2),p:= {now:=(HPS.p x).1,code:=(HPS.p x).2,okk:=(HPS.p x).3,val:=(HPS.p x).4,addr:=(HPS.p x).5,old:=(HPS.p x).6,nxt:=(HPS.p x).7,mark:=(HPS.p x).8,pops:=(HPS.p x).9},ex:=cS,en:=aU,fn:=aP,cl:=bD,pr:=cV},st:= {me:=st.1,sp:=st.2,R:=st.3},s:= {s with c:=s.4+1,k:=1,a:=2*n+5+2*t+3*x.1+2,o:=aB s.3 (2*n+5+2*t+3*x.1+2),w:=aB s.3 (2*n+5+2*t+3*x.1+2),ok:=bS s.3 (2*n+5+2*t+3*x.1+2) } })))))
theorem NC(t n:Int)(x:HPS)(st:STS)(s:MS)(K:HpO→Prop)(h:(D5 t n x st s).run K):cT' 52 [.ptr 0 0,.ptr 2 0] [cE' [.ptr 1 0,.I x.u,.int .u64 x.no,.I x.rounds,.I x.limit,.I 0,.int .u64 x.found,.I x.sh,.I x.kd,.I x.ky,.bool x.p.now,.I x.p.code,.bool x.p.okk,.I x.p.val,.I x.p.addr,.int .u64 x.p.old,.I x.p.nxt,.bool x.p.mark,.I x.p.pops,.O,.O,.O,.O,.O],stC 4 t n st,aY 3 s,aZ s,hO st] (cF 4 0 [19,20,21,22,23] [(.cell 1 4,.ints (some .i64))] (xR t n) K):=by
 exact cM' (E:=EH0) (by kernel_rfl) h
def D6(t n:Int)(x:HPS)(st:STS)(s:MS):Tr HpO:=.pre (w21 n t x) (.pre ((lE' s.3∧(0:Int)≤s.4∧s.4≤(4611686018427387904:Int))∧True) (.pre ((t=t∧n=n)∧((!ieq (aB s.3 (2*n+5+2*t+3*x.1)) x.2)=false→(2:Int)≠(3:Int)∧(2:Int)≠(4:Int)∧(2:Int)≠(5:Int)∧(2:Int)≠(7:Int)∧(2:Int)≠(8:Int))∧lE' s.3∧lE' st.3) (.ret {d:=!ieq (aB s.3 (2*n+5+2*t+3*x.1)) x.2,x:= {x with at':=2,p:= {now:=(HPS.p x).1,code:=(HPS.p x).2,okk:=(HPS.p x).3,val:=(HPS.p x).4,addr:=(HPS.p x).5,old:=(HPS.p x).6,nxt:=(HPS.p x).7,mark:=(HPS.p x).8,pops:=(HPS.p x).9},ex:=cS,en:=aU,fn:=aP,cl:=bD,pr:=cV},st:= {me:=st.1,sp:=st.2,R:=st.3},s:= {s with c:=s.4+1,k:=1,a:=2*n+5+2*t+3*x.1,o:=aB s.3 (2*n+5+2*t+3*x.1),w:=aB s.3 (2*n+5+2*t+3*x.1),ok:=bS s.3 (2*n+5+2*t+3*x.1) } })))
theorem ND(t n:Int)(x:HPS)(st:STS)(s:MS)(K:HpO→Prop)(h:(D6 t n x st s).run K):cT' 52 [.ptr 0 0,.ptr 2 0] [cE' [.ptr 1 0,.I x.u,.int .u64 x.no,.I x.rounds,.I x.limit,.I 1,.int .u64 x.found,.I x.sh,.I x.kd,.I x.ky,.bool x.p.now,.I x.p.code,.bool x.p.okk,.I x.p.val,.I x.p.addr,.int .u64 x.p.old,.I x.p.nxt,.bool x.p.mark,.I x.p.pops,.O,.O,.O,.O,.O],stC 4 t n st,aY 3 s,aZ s,hO st] (cF 4 0 [19,20,21,22,23] [(.cell 1 4,.ints (some .i64))] (xR t n) K):=by
 exact cM' (E:=EH0) (by kernel_rfl) h
abbrev w1x(n:Int)(s:MS)(t:Int)(x:HPS):=aB s.3 (2*n+5+2*t+3*x.1+1)
abbrev w2a:=false=false→(5:Int)=(5:Int)
def D7(t n:Int)(x:HPS)(st:STS)(s:MS):Tr HpO:=.pre (w21 n t x) (.pre ((lE' s.3∧(0:Int)≤s.4∧s.4≤(4611686018427387904:Int))∧True) (.pre ((0:Int)≤aB s.3 (2*n+5+2*t+3*x.1+1)∧aB s.3 (2*n+5+2*t+3*x.1+1)≤(18446744073709551615:Int)) (.ite (!ieq (bif iU (w1x n s t x)then 0 else 3) 0) (.pre ((t=t∧n=n)∧(true=false→(2:Int)≠(3:Int)∧(2:Int)≠(4:Int)∧(2:Int)≠(5:Int)∧(2:Int)≠(7:Int)∧(2:Int)≠(8:Int))∧lE' s.3∧lE' st.3) (.ret {d:=true,x:= {x with at':=2,sh:=bif iU (w1x n s t x)then aA (w1x n s t x) 0 3 else 0,kd:=bif iU (w1x n s t x)then aA (w1x n s t x) 3 3 else 0,ky:=bif iU (w1x n s t x)then aA (w1x n s t x) 6 10 else 0,p:= {now:=(HPS.p x).1,code:=(HPS.p x).2,okk:=(HPS.p x).3,val:=(HPS.p x).4,addr:=(HPS.p x).5,old:=(HPS.p x).6,nxt:=(HPS.p x).7,mark:=(HPS.p x).8,pops:=(HPS.p x).9},ex:=cS,en:=aU,fn:=aP,cl:=bD,pr:=cV},st:= {me:=st.1,sp:=st.2,R:=st.3},s:= {s with c:=s.4+1,k:=1,a:=2*n+5+2*t+3*x.1+1,o:=aB s.3 (2*n+5+2*t+3*x.1+1),w:=aB s.3 (2*n+5+2*t+3*x.1+1),ok:=bS s.3 (2*n+5+2*t+3*x.1+1) } })) (.pre True (.ite (!hasB [1] (aA x.6 49 3)) (.pre True (.pre (QF t n x.1 (bif iU (w1x n s t x)then aA (w1x n s t x) 0 3 else 0) (bif iU (w1x n s t x)then aA (w1x n s t x) 3 3 else 0) (bif iU (w1x n s t x)then aA (w1x n s t x) 6 10 else 0) (aA x.6 0 12)∧True) (.pre ((t=t∧n=n)∧t=t∧n=n∧(false=false→(3:Int)=(3:Int))∧lE' s.3∧lE' st.3) (.ret {d:=false,x:= {x with at':=3,sh:=bif iU (w1x n s t x)then aA (w1x n s t x) 0 3 else 0,kd:=bif iU (w1x n s t x)then aA (w1x n s t x) 3 3 else 0,ky:=bif iU (w1x n s t x)then aA (w1x n s t x) 6 10 else 0,p:= {now:=(HPS.p x).1,code:=(HPS.p x).2,okk:=(HPS.p x).3,val:=(HPS.p x).4,addr:=(HPS.p x).5,old:=(HPS.p x).6,nxt:=(HPS.p x).7,mark:=(HPS.p x).8,pops:=(HPS.p x).9},ex:=aA2 t n x.1 (bif iU (w1x n s t x)then aA (w1x n s t x) 0 3 else 0) (bif iU (w1x n s t x)then aA (w1x n s t x) 3 3 else 0) (bif iU (w1x n s t x)then aA (w1x n s t x) 6 10 else 0) (aA x.6 0 12),en:=aU,fn:=aP,cl:=bD,pr:=cV},st:= {me:=st.1,sp:=st.2,R:=st.3},s:= {s with c:=s.4+1,k:=1,a:=2*n+5+2*t+3*x.1+1,o:=aB s.3 (2*n+5+2*t+3*x.1+1),w:=aB s.3 (2*n+5+2*t+3*x.1+1),ok:=bS s.3 (2*n+5+2*t+3*x.1+1) } })))) (.pre True (.ite (bV (bif iU (w1x n s t x)then aA (w1x n s t x) 3 3 else 0)) (.ite (ieq st.2 0) (.pre (lE' st.3∧(t=t∧n=n∧lE' st.3)∧True) (.pre ((t=t∧n=n)∧t=t∧n=n∧(false=false→(4:Int)=(4:Int))∧lE' s.3∧lE' st.3) (.ret {d:=false,x:= {x with at':=4,sh:=bif iU (w1x n s t x)then aA (w1x n s t x) 0 3 else 0,kd:=bif iU (w1x n s t x)then aA (w1x n s t x) 3 3 else 0,ky:=bif iU (w1x n s t x)then aA (w1x n s t x) 6 10 else 0,p:= {now:=(HPS.p x).1,code:=(HPS.p x).2,okk:=(HPS.p x).3,val:=(HPS.p x).4,addr:=(HPS.p x).5,old:=(HPS.p x).6,nxt:=(HPS.p x).7,mark:=(HPS.p x).8,pops:=(HPS.p x).9},ex:=cS,en:=aU,fn:=aP,cl:=bD,pr:=cV},st:= {me:=st.1,sp:=st.2,R:=st.3},s:= {s with c:=s.4+1,k:=1,a:=2*n+5+2*t+3*x.1+1,o:=aB s.3 (2*n+5+2*t+3*x.1+1),w:=aB s.3 (2*n+5+2*t+3*x.1+1),ok:=bS s.3 (2*n+5+2*t+3*x.1+1) } }))) (.pre True (.pre (pR t n st.1 (b9 (bif iU (w1x n s t x)then aA (w1x n s t x) 0 3 else 0) (bif iU (w1x n s t x)then aA (w1x n s t x) 6 10 else 0)) (bW (bif iU (w1x n s t x)then aA (w1x n s t x) 0 3 else 0) (bif iU (w1x n s t x)then aA (w1x n s t x) 3 3 else 0) (bif iU (w1x n s t x)then aA (w1x n s t x) 6 10 else 0)) x.4∧True) (.pre ((t=t∧n=n)∧t=t∧n=n∧w2a∧lE' s.3∧lE' st.3) (.ret {d:=false,x:= {x with at':=5,sh:=bif iU (w1x n s t x)then aA (w1x n s t x) 0 3 else 0,kd:=bif iU (w1x n s t x)then aA (w1x n s t x) 3 3 else 0,ky:=bif iU (w1x n s t x)then aA (w1x n s t x) 6 10 else 0,p:= {now:=(HPS.p x).1,code:=(HPS.p x).2,okk:=(HPS.p x).3,val:=(HPS.p x).4,addr:=(HPS.p x).5,old:=(HPS.p x).6,nxt:=(HPS.p x).7,mark:=(HPS.p x).8,pops:=(HPS.p x).9},ex:=cS,en:=aU,fn:=lW t n st.1 (b9 (bif iU (w1x n s t x)then aA (w1x n s t x) 0 3 else 0) (bif iU (w1x n s t x)then aA (w1x n s t x) 6 10 else 0)) (bW (bif iU (w1x n s t x)then aA (w1x n s t x) 0 3 else 0) (bif iU (w1x n s t x)then aA (w1x n s t x) 3 3 else 0) (bif iU (w1x n s t x)then aA (w1x n s t x) 6 10 else 0)) x.4,cl:=bD,pr:=cV},st:= {me:=st.1,sp:=st.2,R:=st.3},s:= {s with c:=s.4+1,k:=1,a:=2*n+5+2*t+3*x.1+1,o:=aB s.3 (2*n+5+2*t+3*x.1+1),w:=aB s.3 (2*n+5+2*t+3*x.1+1),ok:=bS s.3 (2*n+5+2*t+3*x.1+1) } }))))) (.pre True (.pre (pR t n st.1 (b9 (bif iU (w1x n s t x)then aA (w1x n s t x) 0 3 else 0) (bif iU (w1x n s t x)then aA (w1x n s t x) 6 10 else 0)) (bW (bif iU (w1x n s t x)then aA (w1x n s t x) 0 3 else 0) (bif iU (w1x n s t x)then aA (w1x n s t x) 3 3 else 0) (bif iU (w1x n s t x)then aA (w1x n s t x) 6 10 else 0)) x.4∧True) (.pre ((t=t∧n=n)∧t=t∧n=n∧w2a∧lE' s.3∧lE' st.3) (.ret {d:=false,x:= {x with at':=5,sh:=bif iU (w1x n s t x)then aA (w1x n s t x) 0 3 else 0,kd:=bif iU (w1x n s t x)then aA (w1x n s t x) 3 3 else 0,ky:=bif iU (w1x n s t x)then aA (w1x n s t x) 6 10 else 0,p:= {now:=(HPS.p x).1,code:=(HPS.p x).2,okk:=(HPS.p x).3,val:=(HPS.p x).4,addr:=(HPS.p x).5,old:=(HPS.p x).6,nxt:=(HPS.p x).7,mark:=(HPS.p x).8,pops:=(HPS.p x).9},ex:=cS,en:=aU,fn:=lW t n st.1 (b9 (bif iU (w1x n s t x)then aA (w1x n s t x) 0 3 else 0) (bif iU (w1x n s t x)then aA (w1x n s t x) 6 10 else 0)) (bW (bif iU (w1x n s t x)then aA (w1x n s t x) 0 3 else 0) (bif iU (w1x n s t x)then aA (w1x n s t x) 3 3 else 0) (bif iU (w1x n s t x)then aA (w1x n s t x) 6 10 else 0)) x.4,cl:=bD,pr:=cV},st:= {me:=st.1,sp:=st.2,R:=st.3},s:= {s with c:=s.4+1,k:=1,a:=2*n+5+2*t+3*x.1+1,o:=aB s.3 (2*n+5+2*t+3*x.1+1),w:=aB s.3 (2*n+5+2*t+3*x.1+1),ok:=bS s.3 (2*n+5+2*t+3*x.1+1) } })))))))))))
theorem NE(t n:Int)(x:HPS)(st:STS)(s:MS)(K:HpO→Prop)(h:(D7 t n x st s).run K):cT' 52 [.ptr 0 0,.ptr 2 0] [cE' [.ptr 1 0,.I x.u,.int .u64 x.no,.I x.rounds,.I x.limit,.I 2,.int .u64 x.found,.I x.sh,.I x.kd,.I x.ky,.bool x.p.now,.I x.p.code,.bool x.p.okk,.I x.p.val,.I x.p.addr,.int .u64 x.p.old,.I x.p.nxt,.bool x.p.mark,.I x.p.pops,.O,.O,.O,.O,.O],stC 4 t n st,aY 3 s,aZ s,hO st] (cF 4 0 [19,20,21,22,23] [(.cell 1 4,.ints (some .i64))] (xR t n) K):=by
 exact cM' (E:=EH0) (by kernel_rfl) h
abbrev w1z:=false=false→(0:Int)≠(3:Int)∧(0:Int)≠(4:Int)∧(0:Int)≠(5:Int)∧(0:Int)≠(7:Int)∧(0:Int)≠(8:Int)
abbrev w23(n:Int)(s:MS)(t:Int)(x:HPS):=ExO.s (lU t n x.11 s)
def D8(t n:Int)(x:HPS)(st:STS)(s:MS):Tr HpO:=.pre (lE' s.3∧aA6 t n x.11 s) (.ite (lU t n x.11 s).1 (.ite (!ieq (ExO.x (lU t n x.11 s)).1 0) (.pre (lE' st.3∧1=1∧st.3.length+(1:Nat)≤(4294967296:Nat)) (.pre ((t=t∧n=n)∧w1z∧lE' (w23 n s t x).3∧st.3.length+(1:Nat)=List.length (st.3++ [(ExO.x (lU t n x.11 s)).1])) (.ret {d:=false,x:= {x with at':=0,p:= {now:=(HPS.p x).1,code:=(HPS.p x).2,okk:=(HPS.p x).3,val:=(HPS.p x).4,addr:=(HPS.p x).5,old:=(HPS.p x).6,nxt:=(HPS.p x).7,mark:=(HPS.p x).8,pops:=(HPS.p x).9},ex:=cS,en:=aU,fn:=aP,cl:=bD,pr:=cV},st:= {me:=st.1,sp:=st.2,R:=st.3++ [(ExO.x (lU t n x.11 s)).1] },s:= {t:=(w23 n s t x).1,n:=(w23 n s t x).2,xs:=(w23 n s t x).3,c:=(w23 n s t x).4,k:=(w23 n s t x).5,a:=(w23 n s t x).6,o:=(w23 n s t x).7,w:=(w23 n s t x).8,ok:=(w23 n s t x).9} }))) (.pre ((t=t∧n=n)∧w1z∧lE' (w23 n s t x).3∧lE' st.3) (.ret {d:=false,x:= {x with at':=0,p:= {now:=(HPS.p x).1,code:=(HPS.p x).2,okk:=(HPS.p x).3,val:=(HPS.p x).4,addr:=(HPS.p x).5,old:=(HPS.p x).6,nxt:=(HPS.p x).7,mark:=(HPS.p x).8,pops:=(HPS.p x).9},ex:=cS,en:=aU,fn:=aP,cl:=bD,pr:=cV},st:= {me:=st.1,sp:=st.2,R:=st.3},s:= {t:=(w23 n s t x).1,n:=(w23 n s t x).2,xs:=(w23 n s t x).3,c:=(w23 n s t x).4,k:=(w23 n s t x).5,a:=(w23 n s t x).6,o:=(w23 n s t x).7,w:=(w23 n s t x).8,ok:=(w23 n s t x).9} }))) (.pre ((t=t∧n=n)∧t=t∧n=n∧(false=false→(3:Int)=(3:Int))∧lE' (w23 n s t x).3∧lE' st.3) (.ret {d:=false,x:= {x with at':=3,p:= {now:=(HPS.p x).1,code:=(HPS.p x).2,okk:=(HPS.p x).3,val:=(HPS.p x).4,addr:=(HPS.p x).5,old:=(HPS.p x).6,nxt:=(HPS.p x).7,mark:=(HPS.p x).8,pops:=(HPS.p x).9},ex:=(lU t n x.11 s).2,en:=aU,fn:=aP,cl:=bD,pr:=cV},st:= {me:=st.1,sp:=st.2,R:=st.3},s:= {t:=(w23 n s t x).1,n:=(w23 n s t x).2,xs:=(w23 n s t x).3,c:=(w23 n s t x).4,k:=(w23 n s t x).5,a:=(w23 n s t x).6,o:=(w23 n s t x).7,w:=(w23 n s t x).8,ok:=(w23 n s t x).9} })))
theorem NF(t n:Int)(x:HPS)(st:STS)(s:MS)(K:HpO→Prop)(h:(D8 t n x st s).run K):cT' 52 [.ptr 0 0,.ptr 2 0] [cE' [.ptr 1 0,.I x.u,.int .u64 x.no,.I x.rounds,.I x.limit,.I 3,.int .u64 x.found,.I x.sh,.I x.kd,.I x.ky,.bool x.p.now,.I x.p.code,.bool x.p.okk,.I x.p.val,.I x.p.addr,.int .u64 x.p.old,.I x.p.nxt,.bool x.p.mark,.I x.p.pops,.ptr 4 0,.O,.O,.O,.O],stC 5 t n st,aY 3 s,aZ s,some (.abs (.exec t n x.ex) []),hO st] (cF 4 0 [19,20,21,22,23] [(.cell 1 4,.ints (some .i64))] (xR t n) K):=by
 exact cM' (E:=EH0) (by kernel_rfl) h
abbrev w24(n:Int)(s:MS)(st:STS)(t:Int)(x:HPS):=EO.s (enF t n x.12 st s)
abbrev w27:=false=false→(6:Int)≠(3:Int)∧(6:Int)≠(4:Int)∧(6:Int)≠(5:Int)∧(6:Int)≠(7:Int)∧(6:Int)≠(8:Int)
abbrev w29(n:Int)(s:MS)(st:STS)(t:Int)(x:HPS):=EO.st (enF t n x.12 st s)
def D9(t n:Int)(x:HPS)(st:STS)(s:MS):Tr HpO:=.pre ((lE' s.3∧lE' st.3∧t=t∧n=n)∧okE t n (HPS.en x) {me:=st.1,sp:=st.2,R:=st.3} s) (.ite (enF t n x.12 st s).1 (.ite (EO.e (enF t n x.12 st s)).2 (.pre ((t=t∧n=n)∧w27∧lE' (w24 n s st t x).3∧lE' (w29 n s st t x).3) (.ret {d:=false,x:= {x with at':=6,p:= {now:=true,code:=4,okk:=false,val:=0,addr:=0,old:=0,nxt:=0,mark:=false,pops:=0},ex:=cS,en:=aU,fn:=aP,cl:=bD,pr:=cV},st:= {me:=(w29 n s st t x).1,sp:=(w29 n s st t x).2,R:=(w29 n s st t x).3},s:= {t:=(w24 n s st t x).1,n:=(w24 n s st t x).2,xs:=(w24 n s st t x).3,c:=(w24 n s st t x).4,k:=(w24 n s st t x).5,a:=(w24 n s st t x).6,o:=(w24 n s st t x).7,w:=(w24 n s st t x).8,ok:=(w24 n s st t x).9} })) (.pre True (.pre (pR t n (w29 n s st t x).1 (b9 x.7 x.9) (bW x.7 x.8 x.9) x.4∧True) (.pre ((t=t∧n=n)∧t=t∧n=n∧w2a∧lE' (w24 n s st t x).3∧lE' (w29 n s st t x).3) (.ret {d:=false,x:= {x with at':=5,p:= {now:=(HPS.p x).1,code:=(HPS.p x).2,okk:=(HPS.p x).3,val:=(HPS.p x).4,addr:=(HPS.p x).5,old:=(HPS.p x).6,nxt:=(HPS.p x).7,mark:=(HPS.p x).8,pops:=(HPS.p x).9},ex:=cS,en:=aU,fn:=lW t n (w29 n s st t x).1 (b9 x.7 x.9) (bW x.7 x.8 x.9) x.4,cl:=bD,pr:=cV},st:= {me:=(w29 n s st t x).1,sp:=(w29 n s st t x).2,R:=(w29 n s st t x).3},s:= {t:=(w24 n s st t x).1,n:=(w24 n s st t x).2,xs:=(w24 n s st t x).3,c:=(w24 n s st t x).4,k:=(w24 n s st t x).5,a:=(w24 n s st t x).6,o:=(w24 n s st t x).7,w:=(w24 n s st t x).8,ok:=(w24 n s st t x).9} }))))) (.pre ((t=t∧n=n)∧t=t∧n=n∧(false=false→(4:Int)=(4:Int))∧lE' (w24 n s st t x).3∧lE' (w29 n s st t x).3) (.ret {d:=false,x:= {x with at':=4,p:= {now:=(HPS.p x).1,code:=(HPS.p x).2,okk:=(HPS.p x).3,val:=(HPS.p x).4,addr:=(HPS.p x).5,old:=(HPS.p x).6,nxt:=(HPS.p x).7,mark:=(HPS.p x).8,pops:=(HPS.p x).9},ex:=cS,en:=(enF t n x.12 st s).2,fn:=aP,cl:=bD,pr:=cV},st:= {me:=(w29 n s st t x).1,sp:=(w29 n s st t x).2,R:=(w29 n s st t x).3},s:= {t:=(w24 n s st t x).1,n:=(w24 n s st t x).2,xs:=(w24 n s st t x).3,c:=(w24 n s st t x).4,k:=(w24 n s st t x).5,a:=(w24 n s st t x).6,o:=(w24 n s st t x).7,w:=(w24 n s st t x).8,ok:=(w24 n s st t x).9} })))
theorem NG(t n:Int)(x:HPS)(st:STS)(s:MS)(K:HpO→Prop)(h:(D9 t n x st s).run K):cT' 52 [.ptr 0 0,.ptr 2 0] [cE' [.ptr 1 0,.I x.u,.int .u64 x.no,.I x.rounds,.I x.limit,.I 4,.int .u64 x.found,.I x.sh,.I x.kd,.I x.ky,.bool x.p.now,.I x.p.code,.bool x.p.okk,.I x.p.val,.I x.p.addr,.int .u64 x.p.old,.I x.p.nxt,.bool x.p.mark,.I x.p.pops,.O,.ptr 4 0,.O,.O,.O],stC 5 t n st,aY 3 s,aZ s,some (.abs (.ensure t n x.en) [1]),hO st] (cF 4 0 [19,20,21,22,23] [(.cell 1 4,.ints (some .i64))] (xR t n) K):=by
 exact cM' (E:=EH0) (by kernel_rfl) h
abbrev w22(n:Int)(s:MS)(t:Int)(x:HPS):=FnO.x (fnF t n x.13 s)
abbrev w1w(n:Int)(s:MS)(st:STS)(t:Int)(x:HPS):=aJ x.7 x.8 x.9 (w22 n s t x).1 (w22 n s t x).2 (w22 n s t x).3 (w22 n s t x).4 st.2
abbrev w20(n:Int)(s:MS)(t:Int)(x:HPS):=FnO.s (fnF t n x.13 s)
abbrev w28:=false=false→(9:Int)≠(3:Int)∧(9:Int)≠(4:Int)∧(9:Int)≠(5:Int)∧(9:Int)≠(7:Int)∧(9:Int)≠(8:Int)
def EA(t n:Int)(x:HPS)(st:STS)(s:MS):Tr HpO:=.pre (lE' s.3∧MG t n x.13 s) (.ite (fnF t n x.13 s).1 (.pre ((lE' st.3∧lE' (w22 n s t x).6∧st.3.length+List.length (w22 n s t x).6≤(4294967296:Nat))∧True) (.pre (w6 x.7 x.8 x.9 (w22 n s t x).1 (w22 n s t x).2 (w22 n s t x).3 (w22 n s t x).4 st.2∧True) (.ite (w22 n s t x).7 (.pre ((t=t∧n=n)∧w1z∧lE' (w20 n s t x).3∧st.3.length+List.length (w22 n s t x).6=List.length (st.3++(w22 n s t x).6)) (.ret {d:=false,x:= {x with at':=0,p:= {now:=(w1w n s st t x).1,code:=(w1w n s st t x).2,okk:=(w1w n s st t x).3,val:=(w1w n s st t x).4,addr:=(w1w n s st t x).5,old:=(w1w n s st t x).6,nxt:=(w1w n s st t x).7,mark:=(w1w n s st t x).8,pops:=(w1w n s st t x).9},ex:=cS,en:=aU,fn:=aP,cl:=bD,pr:=cV},st:= {me:=st.1,sp:=st.2,R:=st.3++(w22 n s t x).6},s:= {t:=(w20 n s t x).1,n:=(w20 n s t x).2,xs:=(w20 n s t x).3,c:=(w20 n s t x).4,k:=(w20 n s t x).5,a:=(w20 n s t x).6,o:=(w20 n s t x).7,w:=(w20 n s t x).8,ok:=(w20 n s t x).9} })) (.ite (w1w n s st t x).1 (.pre ((t=t∧n=n)∧w27∧lE' (w20 n s t x).3∧st.3.length+List.length (w22 n s t x).6=List.length (st.3++(w22 n s t x).6)) (.ret {d:=false,x:= {x with at':=6,p:= {now:=(w1w n s st t x).1,code:=(w1w n s st t x).2,okk:=(w1w n s st t x).3,val:=(w1w n s st t x).4,addr:=(w1w n s st t x).5,old:=(w1w n s st t x).6,nxt:=(w1w n s st t x).7,mark:=(w1w n s st t x).8,pops:=(w1w n s st t x).9},ex:=cS,en:=aU,fn:=aP,cl:=bD,pr:=cV},st:= {me:=st.1,sp:=st.2,R:=st.3++(w22 n s t x).6},s:= {t:=(w20 n s t x).1,n:=(w20 n s t x).2,xs:=(w20 n s t x).3,c:=(w20 n s t x).4,k:=(w20 n s t x).5,a:=(w20 n s t x).6,o:=(w20 n s t x).7,w:=(w20 n s t x).8,ok:=(w20 n s t x).9} })) (.pre (pH (w1w n s st t x).1 (w1w n s st t x).2 (w1w n s st t x).3 (w1w n s st t x).4 (w1w n s st t x).5 (w1w n s st t x).6 (w1w n s st t x).7 (w1w n s st t x).8 (w1w n s st t x).9) (.ite (lJ (w1w n s st t x).1 (w1w n s st t x).2 (w1w n s st t x).3 (w1w n s st t x).4 (w1w n s st t x).5 (w1w n s st t x).6 (w1w n s st t x).7 (w1w n s st t x).8 (w1w n s st t x).9) (.pre (qU t n (w1w n s st t x).5∧True) (.pre ((t=t∧n=n)∧t=t∧n=n∧(false=false→(7:Int)=(7:Int))∧lE' (w20 n s t x).3∧st.3.length+List.length (w22 n s t x).6=List.length (st.3++(w22 n s t x).6)) (.ret {d:=false,x:= {x with at':=7,p:= {now:=(w1w n s st t x).1,code:=(w1w n s st t x).2,okk:=(w1w n s st t x).3,val:=(w1w n s st t x).4,addr:=(w1w n s st t x).5,old:=(w1w n s st t x).6,nxt:=(w1w n s st t x).7,mark:=(w1w n s st t x).8,pops:=(w1w n s st t x).9},ex:=cS,en:=aU,fn:=aP,cl:=AG t n (w1w n s st t x).5,pr:=cV},st:= {me:=st.1,sp:=st.2,R:=st.3++(w22 n s t x).6},s:= {t:=(w20 n s t x).1,n:=(w20 n s t x).2,xs:=(w20 n s t x).3,c:=(w20 n s t x).4,k:=(w20 n s t x).5,a:=(w20 n s t x).6,o:=(w20 n s t x).7,w:=(w20 n s t x).8,ok:=(w20 n s t x).9} }))) (.pre True (.ite (bV x.8) (.pre ((st.3.length+List.length (w22 n s t x).6=List.length (st.3++(w22 n s t x).6)∧FK t n x.9 (w22 n s t x).3 {me:=st.1,sp:=st.2,R:=st.3++(w22 n s t x).6})∧True) (.pre ((t=t∧n=n)∧t=t∧n=n∧(false=false→(8:Int)=(8:Int))∧lE' (w20 n s t x).3∧lE' (Prod.snd (l8 t n x.9 (w22 n s t x).3 {me:=st.1,sp:=st.2,R:=st.3++(w22 n s t x).6})).3) (.ret {d:=false,x:= {x with at':=8,p:= {now:=(w1w n s st t x).1,code:=(w1w n s st t x).2,okk:=(w1w n s st t x).3,val:=(w1w n s st t x).4,addr:=(w1w n s st t x).5,old:=(w1w n s st t x).6,nxt:=(w1w n s st t x).7,mark:=(w1w n s st t x).8,pops:=(w1w n s st t x).9},ex:=cS,en:=aU,fn:=aP,cl:=bD,pr:=(l8 t n x.9 (w22 n s t x).3 {me:=st.1,sp:=st.2,R:=st.3++(w22 n s t x).6}).1},st:= {me:=(Prod.snd (l8 t n x.9 (w22 n s t x).3 {me:=st.1,sp:=st.2,R:=st.3++(w22 n s t x).6})).1,sp:=(Prod.snd (l8 t n x.9 (w22 n s t x).3 {me:=st.1,sp:=st.2,R:=st.3++(w22 n s t x).6})).2,R:=(Prod.snd (l8 t n x.9 (w22 n s t x).3 {me:=st.1,sp:=st.2,R:=st.3++(w22 n s t x).6})).3},s:= {t:=(w20 n s t x).1,n:=(w20 n s t x).2,xs:=(w20 n s t x).3,c:=(w20 n s t x).4,k:=(w20 n s t x).5,a:=(w20 n s t x).6,o:=(w20 n s t x).7,w:=(w20 n s t x).8,ok:=(w20 n s t x).9} }))) (.pre ((t=t∧n=n)∧w28∧lE' (w20 n s t x).3∧st.3.length+List.length (w22 n s t x).6=List.length (st.3++(w22 n s t x).6)) (.ret {d:=false,x:= {x with at':=9,p:= {now:=(w1w n s st t x).1,code:=(w1w n s st t x).2,okk:=(w1w n s st t x).3,val:=(w1w n s st t x).4,addr:=(w1w n s st t x).5,old:=(w1w n s st t x).6,nxt:=(w1w n s st t x).7,mark:=(w1w n s st t x).8,pops:=(w1w n s st t x).9},ex:=cS,en:=aU,fn:=aP,cl:=bD,pr:=cV},st:= {me:=st.1,sp:=st.2,R:=st.3++(w22 n s t x).6},s:= {t:=(w20 n s t x).1,n:=(w20 n s t x).2,xs:=(w20 n s t x).3,c:=(w20 n s t x).4,k:=(w20 n s t x).5,a:=(w20 n s t x).6,o:=(w20 n s t x).7,w:=(w20 n s t x).8,ok:=(w20 n s t x).9} })))))))))) (.pre ((t=t∧n=n)∧t=t∧n=n∧w2a∧lE' (w20 n s t x).3∧lE' st.3) (.ret {d:=false,x:= {x with at':=5,p:= {now:=(HPS.p x).1,code:=(HPS.p x).2,okk:=(HPS.p x).3,val:=(HPS.p x).4,addr:=(HPS.p x).5,old:=(HPS.p x).6,nxt:=(HPS.p x).7,mark:=(HPS.p x).8,pops:=(HPS.p x).9},ex:=cS,en:=aU,fn:=(fnF t n x.13 s).2,cl:=bD,pr:=cV},st:= {me:=st.1,sp:=st.2,R:=st.3},s:= {t:=(w20 n s t x).1,n:=(w20 n s t x).2,xs:=(w20 n s t x).3,c:=(w20 n s t x).4,k:=(w20 n s t x).5,a:=(w20 n s t x).6,o:=(w20 n s t x).7,w:=(w20 n s t x).8,ok:=(w20 n s t x).9} })))
theorem NH(t n:Int)(x:HPS)(st:STS)(s:MS)(K:HpO→Prop)(h:(EA t n x st s).run K):cT' 52 [.ptr 0 0,.ptr 2 0] [cE' [.ptr 1 0,.I x.u,.int .u64 x.no,.I x.rounds,.I x.limit,.I 5,.int .u64 x.found,.I x.sh,.I x.kd,.I x.ky,.bool x.p.now,.I x.p.code,.bool x.p.okk,.I x.p.val,.I x.p.addr,.int .u64 x.p.old,.I x.p.nxt,.bool x.p.mark,.I x.p.pops,.O,.O,.ptr 4 0,.O,.O],stC 5 t n st,aY 3 s,aZ s,some (.abs (.find t n x.fn) []),hO st] (cF 4 0 [19,20,21,22,23] [(.cell 1 4,.ints (some .i64))] (xR t n) K):=by
 exact cM' (E:=EH0) (by kernel_rfl) h
def EB(t n:Int)(x:HPS)(st:STS)(s:MS):Tr HpO:=.pre True (.pre True (.pre True (.pre (w21 n t x) (.pre ((lE' s.3∧(0:Int)≤s.4∧s.4≤(4611686018427387904:Int))∧True) (.pre ((t=t∧n=n)∧w1z∧lE' (bif aT s.3 (2*n+5+2*t+3*x.1+2) x.6 then aS s.3 (2*n+5+2*t+3*x.1+2) (bif dOk (aA x.6 0 12) 0 0 (bif ieq (HPS.p x).2 4 then 1 else 0) 5 (HPS.p x).4 then cT (aA x.6 0 12) 0 0 (bif ieq (HPS.p x).2 4 then 1 else 0) (HPS.p x).3 5 (HPS.p x).4 else 0)else s.3)∧lE' st.3) (.ret {d:=false,x:= {x with at':=0,p:= {now:=(HPS.p x).1,code:=(HPS.p x).2,okk:=(HPS.p x).3,val:=(HPS.p x).4,addr:=(HPS.p x).5,old:=(HPS.p x).6,nxt:=(HPS.p x).7,mark:=(HPS.p x).8,pops:=(HPS.p x).9},ex:=cS,en:=aU,fn:=aP,cl:=bD,pr:=cV},st:= {me:=st.1,sp:=st.2,R:=st.3},s:= {t:=s.1,n:=s.2,xs:=bif aT s.3 (2*n+5+2*t+3*x.1+2) x.6 then aS s.3 (2*n+5+2*t+3*x.1+2) (bif dOk (aA x.6 0 12) 0 0 (bif ieq (HPS.p x).2 4 then 1 else 0) 5 (HPS.p x).4 then cT (aA x.6 0 12) 0 0 (bif ieq (HPS.p x).2 4 then 1 else 0) (HPS.p x).3 5 (HPS.p x).4 else 0)else s.3,c:=s.4+1,k:=3,a:=2*n+5+2*t+3*x.1+2,o:=aB s.3 (2*n+5+2*t+3*x.1+2),w:=bif bS s.3 (2*n+5+2*t+3*x.1+2)then bif dOk (aA x.6 0 12) 0 0 (bif ieq (HPS.p x).2 4 then 1 else 0) 5 (HPS.p x).4 then cT (aA x.6 0 12) 0 0 (bif ieq (HPS.p x).2 4 then 1 else 0) (HPS.p x).3 5 (HPS.p x).4 else 0 else 0,ok:=aT s.3 (2*n+5+2*t+3*x.1+2) x.6} }))))))
theorem NI(t n:Int)(x:HPS)(st:STS)(s:MS)(K:HpO→Prop)(h:(EB t n x st s).run K):cT' 52 [.ptr 0 0,.ptr 2 0] [cE' [.ptr 1 0,.I x.u,.int .u64 x.no,.I x.rounds,.I x.limit,.I 6,.int .u64 x.found,.I x.sh,.I x.kd,.I x.ky,.bool x.p.now,.I x.p.code,.bool x.p.okk,.I x.p.val,.I x.p.addr,.int .u64 x.p.old,.I x.p.nxt,.bool x.p.mark,.I x.p.pops,.O,.O,.O,.O,.O],stC 4 t n st,aY 3 s,aZ s,hO st] (cF 4 0 [19,20,21,22,23] [(.cell 1 4,.ints (some .i64))] (xR t n) K):=by
 exact cM' (E:=EH0) (by kernel_rfl) h
abbrev w26(n:Int)(s:MS)(t:Int)(x:HPS):=ClO.s (dP t n x.14 s)
def EC(t n:Int)(x:HPS)(st:STS)(s:MS):Tr HpO:=.pre (lE' s.3∧PQ t n x.14 s) (.ite (dP t n x.14 s).1 (.pre ((t=t∧n=n)∧w1z∧lE' (w26 n s t x).3∧lE' st.3) (.ret {d:=false,x:= {x with at':=0,p:= {now:=(HPS.p x).1,code:=(HPS.p x).2,okk:=(HPS.p x).3,val:=(HPS.p x).4,addr:=(HPS.p x).5,old:=(HPS.p x).6,nxt:=(HPS.p x).7,mark:=(HPS.p x).8,pops:=(HPS.p x).9},ex:=cS,en:=aU,fn:=aP,cl:=bD,pr:=cV},st:= {me:=st.1,sp:=st.2,R:=st.3},s:= {t:=(w26 n s t x).1,n:=(w26 n s t x).2,xs:=(w26 n s t x).3,c:=(w26 n s t x).4,k:=(w26 n s t x).5,a:=(w26 n s t x).6,o:=(w26 n s t x).7,w:=(w26 n s t x).8,ok:=(w26 n s t x).9} })) (.pre ((t=t∧n=n)∧t=t∧n=n∧(false=false→(7:Int)=(7:Int))∧lE' (w26 n s t x).3∧lE' st.3) (.ret {d:=false,x:= {x with at':=7,p:= {now:=(HPS.p x).1,code:=(HPS.p x).2,okk:=(HPS.p x).3,val:=(HPS.p x).4,addr:=(HPS.p x).5,old:=(HPS.p x).6,nxt:=(HPS.p x).7,mark:=(HPS.p x).8,pops:=(HPS.p x).9},ex:=cS,en:=aU,fn:=aP,cl:=(dP t n x.14 s).2,pr:=cV},st:= {me:=st.1,sp:=st.2,R:=st.3},s:= {t:=(w26 n s t x).1,n:=(w26 n s t x).2,xs:=(w26 n s t x).3,c:=(w26 n s t x).4,k:=(w26 n s t x).5,a:=(w26 n s t x).6,o:=(w26 n s t x).7,w:=(w26 n s t x).8,ok:=(w26 n s t x).9} })))
theorem NJ(t n:Int)(x:HPS)(st:STS)(s:MS)(K:HpO→Prop)(h:(EC t n x st s).run K):cT' 52 [.ptr 0 0,.ptr 2 0] [cE' [.ptr 1 0,.I x.u,.int .u64 x.no,.I x.rounds,.I x.limit,.I 7,.int .u64 x.found,.I x.sh,.I x.kd,.I x.ky,.bool x.p.now,.I x.p.code,.bool x.p.okk,.I x.p.val,.I x.p.addr,.int .u64 x.p.old,.I x.p.nxt,.bool x.p.mark,.I x.p.pops,.O,.O,.O,.ptr 4 0,.O],stC 5 t n st,aY 3 s,aZ s,some (.abs (.clear t n x.cl) []),hO st] (cF 4 0 [19,20,21,22,23] [(.cell 1 4,.ints (some .i64))] (xR t n) K):=by
 exact cM' (E:=EH0) (by kernel_rfl) h
abbrev w25(n:Int)(s:MS)(st:STS)(t:Int)(x:HPS):=PrO.s (prF t n x.15 st s)
def EE(t n:Int)(x:HPS)(st:STS)(s:MS):Tr HpO:=.pre ((lE' s.3∧lE' st.3∧t=t∧n=n)∧SG t n x.15 st s) (.ite (prF t n x.15 st s).1 (.pre ((t=t∧n=n)∧w28∧lE' (w25 n s st t x).3∧lE' (PrO.st (prF t n x.15 st s)).3) (.ret {d:=false,x:= {x with at':=9,p:= {now:=(HPS.p x).1,code:=(HPS.p x).2,okk:=(HPS.p x).3,val:=(HPS.p x).4,addr:=(HPS.p x).5,old:=(HPS.p x).6,nxt:=(HPS.p x).7,mark:=(HPS.p x).8,pops:=(HPS.p x).9},ex:=cS,en:=aU,fn:=aP,cl:=bD,pr:=cV},st:= {me:=(PrO.st (prF t n x.15 st s)).1,sp:=(PrO.st (prF t n x.15 st s)).2,R:=(PrO.st (prF t n x.15 st s)).3},s:= {t:=(w25 n s st t x).1,n:=(w25 n s st t x).2,xs:=(w25 n s st t x).3,c:=(w25 n s st t x).4,k:=(w25 n s st t x).5,a:=(w25 n s st t x).6,o:=(w25 n s st t x).7,w:=(w25 n s st t x).8,ok:=(w25 n s st t x).9} })) (.pre ((t=t∧n=n)∧t=t∧n=n∧(false=false→(8:Int)=(8:Int))∧lE' (w25 n s st t x).3∧lE' (PrO.st (prF t n x.15 st s)).3) (.ret {d:=false,x:= {x with at':=8,p:= {now:=(HPS.p x).1,code:=(HPS.p x).2,okk:=(HPS.p x).3,val:=(HPS.p x).4,addr:=(HPS.p x).5,old:=(HPS.p x).6,nxt:=(HPS.p x).7,mark:=(HPS.p x).8,pops:=(HPS.p x).9},ex:=cS,en:=aU,fn:=aP,cl:=bD,pr:=(prF t n x.15 st s).2},st:= {me:=(PrO.st (prF t n x.15 st s)).1,sp:=(PrO.st (prF t n x.15 st s)).2,R:=(PrO.st (prF t n x.15 st s)).3},s:= {t:=(w25 n s st t x).1,n:=(w25 n s st t x).2,xs:=(w25 n s st t x).3,c:=(w25 n s st t x).4,k:=(w25 n s st t x).5,a:=(w25 n s st t x).6,o:=(w25 n s st t x).7,w:=(w25 n s st t x).8,ok:=(w25 n s st t x).9} })))
theorem NK(t n:Int)(x:HPS)(st:STS)(s:MS)(K:HpO→Prop)(h:(EE t n x st s).run K):cT' 52 [.ptr 0 0,.ptr 2 0] [cE' [.ptr 1 0,.I x.u,.int .u64 x.no,.I x.rounds,.I x.limit,.I 8,.int .u64 x.found,.I x.sh,.I x.kd,.I x.ky,.bool x.p.now,.I x.p.code,.bool x.p.okk,.I x.p.val,.I x.p.addr,.int .u64 x.p.old,.I x.p.nxt,.bool x.p.mark,.I x.p.pops,.O,.O,.O,.O,.ptr 4 0],stC 5 t n st,aY 3 s,aZ s,some (.abs (.prepare t n x.pr) [1]),hO st] (cF 4 0 [19,20,21,22,23] [(.cell 1 4,.ints (some .i64))] (xR t n) K):=by
 exact cM' (E:=EH0) (by kernel_rfl) h
abbrev w1y(x:HPS):=gM (HPS.p x).1 (HPS.p x).2 (HPS.p x).3 (HPS.p x).4 (HPS.p x).5 (HPS.p x).6 (HPS.p x).7 (HPS.p x).8 (HPS.p x).9 (aA x.6 0 12)
def EG(t n:Int)(x:HPS)(st:STS)(s:MS):Tr HpO:=.pre True (.pre (BJ (HPS.p x).1 (HPS.p x).2 (HPS.p x).3 (HPS.p x).4 (HPS.p x).5 (HPS.p x).6 (HPS.p x).7 (HPS.p x).8 (HPS.p x).9 (aA x.6 0 12)∧True) (.pre (w21 n t x) (.pre ((lE' s.3∧(0:Int)≤s.4∧s.4≤(4611686018427387904:Int))∧True) (.ite (aT s.3 (2*n+5+2*t+3*x.1+2) x.6) (.pre True (.ite (bV x.8) (.pre ((t=t∧n=n)∧w1z∧lE' (bif aT s.3 (2*n+5+2*t+3*x.1+2) x.6 then aS s.3 (2*n+5+2*t+3*x.1+2) (w1y x).1 else s.3)∧lE' st.3) (.ret {d:=false,x:= {x with at':=0,p:= {now:=(HPS.p x).1,code:=(HPS.p x).2,okk:=(HPS.p x).3,val:=(HPS.p x).4,addr:=(HPS.p x).5,old:=(HPS.p x).6,nxt:=(HPS.p x).7,mark:=(HPS.p x).8,pops:=(HPS.p x).9},ex:=cS,en:=aU,fn:=aP,cl:=bD,pr:=cV},st:= {me:=st.1,sp:=0,R:=st.3},s:= {t:=s.1,n:=s.2,xs:=bif aT s.3 (2*n+5+2*t+3*x.1+2) x.6 then aS s.3 (2*n+5+2*t+3*x.1+2) (w1y x).1 else s.3,c:=s.4+1,k:=3,a:=2*n+5+2*t+3*x.1+2,o:=aB s.3 (2*n+5+2*t+3*x.1+2),w:=bif bS s.3 (2*n+5+2*t+3*x.1+2)then(w1y x).1 else 0,ok:=aT s.3 (2*n+5+2*t+3*x.1+2) x.6} })) (.pre ((t=t∧n=n)∧w1z∧lE' (bif aT s.3 (2*n+5+2*t+3*x.1+2) x.6 then aS s.3 (2*n+5+2*t+3*x.1+2) (w1y x).1 else s.3)∧lE' st.3) (.ret {d:=false,x:= {x with at':=0,p:= {now:=(HPS.p x).1,code:=(HPS.p x).2,okk:=(HPS.p x).3,val:=(HPS.p x).4,addr:=(HPS.p x).5,old:=(HPS.p x).6,nxt:=(HPS.p x).7,mark:=(HPS.p x).8,pops:=(HPS.p x).9},ex:=cS,en:=aU,fn:=aP,cl:=bD,pr:=cV},st:= {me:=st.1,sp:=st.2,R:=st.3},s:= {t:=s.1,n:=s.2,xs:=bif aT s.3 (2*n+5+2*t+3*x.1+2) x.6 then aS s.3 (2*n+5+2*t+3*x.1+2) (w1y x).1 else s.3,c:=s.4+1,k:=3,a:=2*n+5+2*t+3*x.1+2,o:=aB s.3 (2*n+5+2*t+3*x.1+2),w:=bif bS s.3 (2*n+5+2*t+3*x.1+2)then(w1y x).1 else 0,ok:=aT s.3 (2*n+5+2*t+3*x.1+2) x.6} })))) (.pre ((t=t∧n=n)∧w1z∧lE' (bif aT s.3 (2*n+5+2*t+3*x.1+2) x.6 then aS s.3 (2*n+5+2*t+3*x.1+2) (w1y x).1 else s.3)∧lE' st.3) (.ret {d:=false,x:= {x with at':=0,p:= {now:=(HPS.p x).1,code:=(HPS.p x).2,okk:=(HPS.p x).3,val:=(HPS.p x).4,addr:=(HPS.p x).5,old:=(HPS.p x).6,nxt:=(HPS.p x).7,mark:=(HPS.p x).8,pops:=(HPS.p x).9},ex:=cS,en:=aU,fn:=aP,cl:=bD,pr:=cV},st:= {me:=st.1,sp:=st.2,R:=st.3},s:= {t:=s.1,n:=s.2,xs:=bif aT s.3 (2*n+5+2*t+3*x.1+2) x.6 then aS s.3 (2*n+5+2*t+3*x.1+2) (w1y x).1 else s.3,c:=s.4+1,k:=3,a:=2*n+5+2*t+3*x.1+2,o:=aB s.3 (2*n+5+2*t+3*x.1+2),w:=bif bS s.3 (2*n+5+2*t+3*x.1+2)then(w1y x).1 else 0,ok:=aT s.3 (2*n+5+2*t+3*x.1+2) x.6} }))))))
theorem NL(t n:Int)(x:HPS)(st:STS)(s:MS)(K:HpO→Prop)(h:(EG t n x st s).run K):cT' 52 [.ptr 0 0,.ptr 2 0] [cE' [.ptr 1 0,.I x.u,.int .u64 x.no,.I x.rounds,.I x.limit,.I 9,.int .u64 x.found,.I x.sh,.I x.kd,.I x.ky,.bool x.p.now,.I x.p.code,.bool x.p.okk,.I x.p.val,.I x.p.addr,.int .u64 x.p.old,.I x.p.nxt,.bool x.p.mark,.I x.p.pops,.O,.O,.O,.O,.O],stC 4 t n st,aY 3 s,aZ s,hO st] (cF 4 0 [19,20,21,22,23] [(.cell 1 4,.ints (some .i64))] (xR t n) K):=by
 exact cM' (E:=EH0) (by kernel_rfl) h
def hpT(t n:Int)(x:HPS)(st:STS)(s:MS):Tr HpO:=
 bif ieq x.at' 0 then D5 t n x st s else
 bif ieq x.at' 1 then D6 t n x st s else
 bif ieq x.at' 2 then D7 t n x st s else
 bif ieq x.at' 3 then D8 t n x st s else
 bif ieq x.at' 4 then D9 t n x st s else
 bif ieq x.at' 5 then EA t n x st s else
 bif ieq x.at' 6 then EB t n x st s else
 bif ieq x.at' 7 then EC t n x st s else
 bif ieq x.at' 8 then EE t n x st s else
 bif ieq x.at' 9 then EG t n x st s else .pre False (.ret default)
def dH(t n:Int)(x:HPS)(st:STS)(s:MS):HpO:=(hpT t n x st s).val
def Q9(t n:Int)(x:HPS)(st:STS)(s:MS):Prop:=(hpT t n x st s).ok
theorem J3(t n:Int)(x:HPS)(st:STS)(s:MS)(K:AVal→aD Ob→Prop)(h:(hpT t n x st s).run (fun y=>(HpO.fin t n y).run K)):cT' 52 [.ptr 0 0,.ptr 2 0] (J2 t n x st s) K:=by
 unfold hpT at h
 by_cases e:x.at'=0
 ·rw [e]at h;have h:(D5 t n x st s).run _:=h;refine aFR (root:=0) (pos:=[19,20,21,22,23]) (cs:=[(.cell 1 4,.ints (some .i64))]) (parse:=xR t n) (fin:=HpO.fin t n) lG ((bF.unpack (.help t n x) 0 1 (lF t n x) [1] rfl (congrArg (Prod.mk 1) (jZ ⟨(by omega),(by omega),(by omega),(by omega),(by omega)⟩)) (by kernel_rfl) rfl).trans (bF.unpack (.store t n st) 1 0 (dJ t n st) [] rfl rfl rfl rfl)) ?_
  have q:=NC t n x st s _ h;rw [←e]at q;exact q
 rw [b8 e]at h
 by_cases e:x.at'=1
 ·rw [e]at h;have h:(D6 t n x st s).run _:=h;refine aFR (root:=0) (pos:=[19,20,21,22,23]) (cs:=[(.cell 1 4,.ints (some .i64))]) (parse:=xR t n) (fin:=HpO.fin t n) lG ((bF.unpack (.help t n x) 0 1 (lF t n x) [1] rfl (congrArg (Prod.mk 1) (jZ ⟨(by omega),(by omega),(by omega),(by omega),(by omega)⟩)) (by kernel_rfl) rfl).trans (bF.unpack (.store t n st) 1 0 (dJ t n st) [] rfl rfl rfl rfl)) ?_
  have q:=ND t n x st s _ h;rw [←e]at q;exact q
 rw [b8 e]at h
 by_cases e:x.at'=2
 ·rw [e]at h;have h:(D7 t n x st s).run _:=h;refine aFR (root:=0) (pos:=[19,20,21,22,23]) (cs:=[(.cell 1 4,.ints (some .i64))]) (parse:=xR t n) (fin:=HpO.fin t n) lG ((bF.unpack (.help t n x) 0 1 (lF t n x) [1] rfl (congrArg (Prod.mk 1) (jZ ⟨(by omega),(by omega),(by omega),(by omega),(by omega)⟩)) (by kernel_rfl) rfl).trans (bF.unpack (.store t n st) 1 0 (dJ t n st) [] rfl rfl rfl rfl)) ?_
  have q:=NE t n x st s _ h;rw [←e]at q;exact q
 rw [b8 e]at h
 by_cases e:x.at'=3
 ·rw [e]at h;have h:(D8 t n x st s).run _:=h;refine aFR (root:=0) (pos:=[19,20,21,22,23]) (cs:=[(.cell 1 4,.ints (some .i64))]) (parse:=xR t n) (fin:=HpO.fin t n) lG ((bF.unpack (.help t n x) 0 1 (oE t n x) [1] rfl (congrArg (Prod.mk 1) (JW e)) (by kernel_rfl) rfl).trans (bF.unpack (.store t n st) 1 0 (dJ t n st) [] rfl rfl rfl rfl)) ?_
  have q:=NF t n x st s _ h;rw [←e]at q;exact q
 rw [b8 e]at h
 by_cases e:x.at'=4
 ·rw [e]at h;have h:(D9 t n x st s).run _:=h;refine aFR (root:=0) (pos:=[19,20,21,22,23]) (cs:=[(.cell 1 4,.ints (some .i64))]) (parse:=xR t n) (fin:=HpO.fin t n) lG ((bF.unpack (.help t n x) 0 1 (oD t n x) [1] rfl (congrArg (Prod.mk 1) (JX e)) (by kernel_rfl) rfl).trans (bF.unpack (.store t n st) 1 0 (dJ t n st) [] rfl rfl rfl rfl)) ?_
  have q:=NG t n x st s _ h;rw [←e]at q;exact q
 rw [b8 e]at h
 by_cases e:x.at'=5
 ·rw [e]at h;have h:(EA t n x st s).run _:=h;refine aFR (root:=0) (pos:=[19,20,21,22,23]) (cs:=[(.cell 1 4,.ints (some .i64))]) (parse:=xR t n) (fin:=HpO.fin t n) lG ((bF.unpack (.help t n x) 0 1 (oF t n x) [1] rfl (congrArg (Prod.mk 1) (JY e)) (by kernel_rfl) rfl).trans (bF.unpack (.store t n st) 1 0 (dJ t n st) [] rfl rfl rfl rfl)) ?_
  have q:=NH t n x st s _ h;rw [←e]at q;exact q
 rw [b8 e]at h
 by_cases e:x.at'=6
 ·rw [e]at h;have h:(EB t n x st s).run _:=h;refine aFR (root:=0) (pos:=[19,20,21,22,23]) (cs:=[(.cell 1 4,.ints (some .i64))]) (parse:=xR t n) (fin:=HpO.fin t n) lG ((bF.unpack (.help t n x) 0 1 (lF t n x) [1] rfl (congrArg (Prod.mk 1) (jZ ⟨(by omega),(by omega),(by omega),(by omega),(by omega)⟩)) (by kernel_rfl) rfl).trans (bF.unpack (.store t n st) 1 0 (dJ t n st) [] rfl rfl rfl rfl)) ?_
  have q:=NI t n x st s _ h;rw [←e]at q;exact q
 rw [b8 e]at h
 by_cases e:x.at'=7
 ·rw [e]at h;have h:(EC t n x st s).run _:=h;refine aFR (root:=0) (pos:=[19,20,21,22,23]) (cs:=[(.cell 1 4,.ints (some .i64))]) (parse:=xR t n) (fin:=HpO.fin t n) lG ((bF.unpack (.help t n x) 0 1 (oC t n x) [1] rfl (congrArg (Prod.mk 1) (JZ e)) (by kernel_rfl) rfl).trans (bF.unpack (.store t n st) 1 0 (dJ t n st) [] rfl rfl rfl rfl)) ?_
  have q:=NJ t n x st s _ h;rw [←e]at q;exact q
 rw [b8 e]at h
 by_cases e:x.at'=8
 ·rw [e]at h;have h:(EE t n x st s).run _:=h;refine aFR (root:=0) (pos:=[19,20,21,22,23]) (cs:=[(.cell 1 4,.ints (some .i64))]) (parse:=xR t n) (fin:=HpO.fin t n) lG ((bF.unpack (.help t n x) 0 1 (oG t n x) [1] rfl (congrArg (Prod.mk 1) (J0 e)) (by kernel_rfl) rfl).trans (bF.unpack (.store t n st) 1 0 (dJ t n st) [] rfl rfl rfl rfl)) ?_
  have q:=NK t n x st s _ h;rw [←e]at q;exact q
 rw [b8 e]at h
 by_cases e:x.at'=9
 ·rw [e]at h;have h:(EG t n x st s).run _:=h;refine aFR (root:=0) (pos:=[19,20,21,22,23]) (cs:=[(.cell 1 4,.ints (some .i64))]) (parse:=xR t n) (fin:=HpO.fin t n) lG ((bF.unpack (.help t n x) 0 1 (lF t n x) [1] rfl (congrArg (Prod.mk 1) (jZ ⟨(by omega),(by omega),(by omega),(by omega),(by omega)⟩)) (by kernel_rfl) rfl).trans (bF.unpack (.store t n st) 1 0 (dJ t n st) [] rfl rfl rfl rfl)) ?_
  have q:=NL t n x st s _ h;rw [←e]at q;exact q
 rw [b8 e]at h;exact h.1.elim
noncomputable def hpSA:aG Ob:=fun args h=>match args,h with
 | [.ptr 0 0,.ptr 2 0],[some (.abs (.help t n x) [1]),some (.abs (.store t2 n2 st) []),e3,e4]=>(match cU 3 [e3,e4]with
   | some (l,s)=>some (.pre ((l=s.xs.length∧t2=t∧n2=n)∧Q9 t n x st s) (HpO.fin t n (dH t n x st s)))
   | none=>none)
 | _,_=>none
theorem aBU:sT' 52 hpSA:=by
 intro args h o ho K hK;unfold hpSA at ho;split at ho
 case h_2=>cases ho
 split at ho<;>cases ho
 rename_i hm;obtain⟨⟨⟨hl,rfl,rfl⟩,ok⟩,hK⟩:=hK;have hh:=bB hm hl;cases hh;exact J3 _ _ _ _ _ K (aFW ok hK)
def HpO.finB(t n:Int)(y:HpO):Out Ob:=.ite y.d (.ret (.bool true) ([cE' [.ptr 1 0,.I y.x.u,.int .u64 y.x.no,.I y.x.rounds,.I y.x.limit,.I y.x.at',.int .u64 y.x.found,.I y.x.sh,.I y.x.kd,.I y.x.ky,.bool y.x.p.now,.I y.x.p.code,.bool y.x.p.okk,.I y.x.p.val,.I y.x.p.addr,.int .u64 y.x.p.old,.I y.x.p.nxt,.bool y.x.p.mark,.I y.x.p.pops,.O,.O,.O,.O,.O],stC 5 t n y.st,none,aY 4 y.s,aZ y.s,hO y.st])) (.ret (.bool false) [some (.abs (.help t n y.x) [1]),stC 5 t n y.st,none,aY 4 y.s,aZ y.s,hO y.st])
noncomputable def hpSB:aG Ob:=fun args h=>match args,h with
 | [.ptr 0 0,.ptr 3 0],[some (.abs (.help t n x) [1]),e1,e2,e3,e4]=>(match lL 2 [e1,e2],cU 4 [e3,e4]with
   | some (l2,t2,n2,st),some (l,s)=>some (.pre ((l=s.xs.length∧l2=st.R.length∧t2=t∧n2=n)∧Q9 t n x st s) (HpO.finB t n (dH t n x st s)))
   | _,_=>none)
 | _,_=>none
theorem aBV:sT' 52 hpSB:=by
 intro args h o ho K hK;unfold hpSB at ho;split at ho
 case h_2=>cases ho
 split at ho<;>cases ho
 rename_i hs hm;obtain⟨⟨⟨hl,hl2,rfl,rfl⟩,ok⟩,hK⟩:=hK;have hh:=bB hm hl;cases hh;have hh:=cH hs hl2;cases hh;exact jP (fun ι hι=>by simp [aM.ren,aFY,AVal.ren,hι]) (fun ι hι=>by simp [aM.ren,hι]) (fun K hK=>J3 _ _ _ _ _ K (aFW ok hK)) K hK
noncomputable def hpS:aG Ob:=aG.or hpSA hpSB
theorem aD3:sT' 52 hpS:=aF6 aBU aBV
def aBK(t n:Int)(v:AVal)(g:aD Ob):Option (Prop×(HPS×STS)):=match v,g with
 | .ptr 2 0,[e1,e2,some (.cells [.ptr 0 0,.int .i64 u,.int .u64 no,.int .i64 rounds,.int .i64 limit,.int .i64 at',.int .u64 found,.int .i64 sh,.int .i64 kd,.int .i64 ky,.bool p_now,.int .i64 p_code,.bool p_okk,.int .i64 p_val,.int .i64 p_addr,.int .u64 p_old,.int .i64 p_nxt,.bool p_mark,.int .i64 p_pops,.O,.O,.O,.O,.O])]=>(match lL 1 [e1,e2]with
   | some (l2,t2,n2,st)=>some ((t2=t∧n2=n∧l2=st.R.length)∧(at'≠3∧at'≠4∧at'≠5∧at'≠7∧at'≠8),⟨(⟨u,no,rounds,limit,at',found,sh,kd,ky,⟨p_now,p_code,p_okk,p_val,p_addr,p_old,p_nxt,p_mark,p_pops⟩,cS,aU,aP,⟨0,0,0,0⟩,⟨0,0,0,false⟩⟩:HPS),st⟩)
   | none=>none)
 | _,_=>none
abbrev W7(t n:Int)(y:(HPS×STS)):aD Ob:=[stC 1 t n y.2,hO y.2,some (.abs (.help t n y.1) [0])]
theorem W8{t n:Int} :cE (obI tbl) 2 (aBK t n) (fun y=>.ret (.ptr 2 0) (W7 t n y)):=by
 intro v g p x hp hq K hK;unfold aBK at hp;split at hp
 case h_2=>cases hp
 rename_i e1 e2 u no rounds limit at' found sh kd ky p_now p_code p_okk p_val p_addr p_old p_nxt p_mark p_pops;split at hp
 case h_2=>cases hp
 rename_i l2 t2 n2 st hs;simp only [sI',pI']at hp;obtain⟨rfl,rfl⟩:=hp;obtain⟨⟨rfl,rfl,hl2⟩,hat⟩:=hq;have hh:=cH hs hl2;cases hh;exact let X0:HPS:=⟨u,no,rounds,limit,at',found,sh,kd,ky,⟨p_now,p_code,p_okk,p_val,p_addr,p_old,p_nxt,p_mark,p_pops⟩,cS,aU,aP,⟨0,0,0,0⟩,⟨0,0,0,false⟩⟩;⟨⟨_,_,aF.pack (W7 t2 n2 (X0,st)) (.help t2 n2 X0) 2 1 (lF t2 n2 X0) [0] (by kernel_rfl) rfl (congrArg (Prod.mk 1) (jZ hat)) (by kernel_rfl),hK⟩⟩
def NB(t n:Int)(u no lim:Int)(st:STS):Tr (HPS×STS):=.pre ((t=t∧n=n∧lE' st.3)∧(0:Int)≠(3:Int)∧(0:Int)≠(4:Int)∧(0:Int)≠(5:Int)∧(0:Int)≠(7:Int)∧(0:Int)≠(8:Int)) (.ret ({u:=u,no:=no,rounds:=0,limit:=lim,at':=0,found:=0,sh:=0,kd:=0,ky:=0,p:=aDq,ex:=cS,en:=aU,fn:=aP,cl:=bD,pr:=cV},{me:=st.1,sp:=st.2,R:=st.3}))
def rW(t n:Int)(u no lim:Int)(st:STS):(HPS×STS):=(NB t n u no lim st).val
def D4(t n:Int)(u no lim:Int)(st:STS):Prop:=(NB t n u no lim st).ok
def hpNS:aG Ob:=fun args h=>match args,h with
 | [.ptr 0 0,.int .i64 u,.int .u64 no,.int .i64 lim],[e1,e2]=>(match lL 1 [e1,e2]with
   | some (l2,t,n,st)=>some (.pre (l2=st.R.length∧D4 t n u no lim st) (.ret (.ptr 2 0) (W7 t n (rW t n u no lim st))))
   | none=>none)
 | _,_=>none
theorem aBL:sT' 46 hpNS:=by
 intro args h o ho K hK;unfold hpNS at ho;split at ho
 case h_2=>cases ho
 rename_i u no lim e1 e2;split at ho<;>cases ho
 rename_i l2 t n st hs;obtain⟨⟨hl2,ok⟩,hK⟩:=hK;have hh:=cH hs hl2;cases hh;refine aF0 (root:=2) (pos:=[19,20,21,22,23]) (cs:=[]) (parse:=aBK t n) W8 ?_;exact cM' (E:=EH0) (q:=(NB t n u no lim st).run (fun y=>(Out.ret (.ptr 2 0) (W7 t n y)).run K)) (by kernel_rfl) (aFW ok hK)
noncomputable def EH:=((EH0.addS 52 hpS aD3).addS 46 hpNS aBL)
structure DqO where
 d:Bool
 x:DOS
 st:STS
 s:MS
instance:Inhabited DqO:=⟨⟨false,aDp,⟨0,0,[]⟩,⟨0,0,[],0,0,0,0,0,false⟩⟩⟩
instance:Inhabited DOS:=⟨aDp⟩
abbrev u5(t n:Int)(x:DOS)(st:STS)(s:MS):aD Ob:=[some (.abs (.doer t n x) [1]),some (.abs (.store t n st) []),aY 3 s,aZ s]
abbrev yP(t n:Int)(x:DOS)(st:STS)(s:MS):aD Ob:=[cE' [.ptr 1 0,.I x.code,.bool x.okk,.I x.val,.bool x.slow,.I x.sh,.I x.kd,.I x.ky,.I x.limit,.I x.at',.O,.O,.O,.O,.O,.O,.O,.O,.O],some (.abs (.store t n st) []),aY 3 s,aZ s]
def DqO.fin(t n:Int)(y:DqO):Out Ob:=.ite y.d (.ret (.bool true) (yP t n y.x y.st y.s)) (.ret (.bool false) (u5 t n y.x y.st y.s))
def aAz(t n:Int)(v:AVal)(g:aD Ob):Option (Prop×DqO):=match v,g with
 | .bool d,[some (.cells [.ptr 1 0,.int .i64 code,.bool okk,.int .i64 val,.bool slow,.int .i64 sh,.int .i64 kd,.int .i64 ky,.int .i64 limit,.int .i64 at',.O,.O,.O,.O,.O,.O,.O,.O,.O]),e1,e3,e4,e2]=>(match lL 4 [e1,e2],cU 3 [e3,e4]with
   | some (l2,t2,n2,st),some (l,s)=>some ((t2=t∧n2=n)∧(d=false→at'≠0∧at'≠1∧at'≠5∧at'≠2∧at'≠3∧at'≠4∧at'≠6∧at'≠7∧at'≠8∧at'≠9)∧l=s.xs.length∧l2=st.R.length,⟨d,⟨code,okk,val,slow,sh,kd,ky,limit,at',⟨0,0,0,false⟩,bU,aU,bR,⟨0,0,0,0,false,0⟩,⟨0,false,0,0⟩,aP,⟨0,0⟩,bN⟩,st,s⟩)
   | _,_=>none)
 | _,_=>none
def aAA(t n:Int)(v:AVal)(g:aD Ob):Option (Prop×DqO):=match v,g with
 | .bool d,[some (.cells [.ptr 1 0,.int .i64 code,.bool okk,.int .i64 val,.bool slow,.int .i64 sh,.int .i64 kd,.int .i64 ky,.int .i64 limit,.int .i64 at',.ptr 4 0,.O,.O,.O,.O,.O,.O,.O,.O]),e1,e3,e4,some (.abs (.head t' n' sub) []),e2]=>(match lL 5 [e1,e2],cU 3 [e3,e4]with
   | some (l2,t2,n2,st),some (l,s)=>some ((t2=t∧n2=n)∧t'=t∧n'=n∧(d=false→at'=0)∧l=s.xs.length∧l2=st.R.length,⟨d,⟨code,okk,val,slow,sh,kd,ky,limit,at',sub,bU,aU,bR,⟨0,0,0,0,false,0⟩,⟨0,false,0,0⟩,aP,⟨0,0⟩,bN⟩,st,s⟩)
   | _,_=>none)
 | _,_=>none
def aAB(t n:Int)(v:AVal)(g:aD Ob):Option (Prop×DqO):=match v,g with
 | .bool d,[some (.cells [.ptr 1 0,.int .i64 code,.bool okk,.int .i64 val,.bool slow,.int .i64 sh,.int .i64 kd,.int .i64 ky,.int .i64 limit,.int .i64 at',.O,.ptr 4 0,.O,.O,.O,.O,.O,.O,.O]),e1,e3,e4,some (.abs (.help t' n' sub) [1]),e2]=>(match lL 5 [e1,e2],cU 3 [e3,e4]with
   | some (l2,t2,n2,st),some (l,s)=>some ((t2=t∧n2=n)∧t'=t∧n'=n∧(d=false→at'=1∨at'=5)∧l=s.xs.length∧l2=st.R.length,⟨d,⟨code,okk,val,slow,sh,kd,ky,limit,at',⟨0,0,0,false⟩,sub,aU,bR,⟨0,0,0,0,false,0⟩,⟨0,false,0,0⟩,aP,⟨0,0⟩,bN⟩,st,s⟩)
   | _,_=>none)
 | _,_=>none
def aAC(t n:Int)(v:AVal)(g:aD Ob):Option (Prop×DqO):=match v,g with
 | .bool d,[some (.cells [.ptr 1 0,.int .i64 code,.bool okk,.int .i64 val,.bool slow,.int .i64 sh,.int .i64 kd,.int .i64 ky,.int .i64 limit,.int .i64 at',.O,.O,.ptr 4 0,.O,.O,.O,.O,.O,.O]),e1,e3,e4,some (.abs (.ensure t' n' sub) [1]),e2]=>(match lL 5 [e1,e2],cU 3 [e3,e4]with
   | some (l2,t2,n2,st),some (l,s)=>some ((t2=t∧n2=n)∧t'=t∧n'=n∧(d=false→at'=2)∧l=s.xs.length∧l2=st.R.length,⟨d,⟨code,okk,val,slow,sh,kd,ky,limit,at',⟨0,0,0,false⟩,bU,sub,bR,⟨0,0,0,0,false,0⟩,⟨0,false,0,0⟩,aP,⟨0,0⟩,bN⟩,st,s⟩)
   | _,_=>none)
 | _,_=>none
def aAD(t n:Int)(v:AVal)(g:aD Ob):Option (Prop×DqO):=match v,g with
 | .bool d,[some (.cells [.ptr 1 0,.int .i64 code,.bool okk,.int .i64 val,.bool slow,.int .i64 sh,.int .i64 kd,.int .i64 ky,.int .i64 limit,.int .i64 at',.O,.O,.O,.ptr 4 0,.O,.O,.O,.O,.O]),e1,e3,e4,some (.abs (.fast t' n' sub) [1]),e2]=>(match lL 5 [e1,e2],cU 3 [e3,e4]with
   | some (l2,t2,n2,st),some (l,s)=>some ((t2=t∧n2=n)∧t'=t∧n'=n∧(d=false→at'=3)∧l=s.xs.length∧l2=st.R.length,⟨d,⟨code,okk,val,slow,sh,kd,ky,limit,at',⟨0,0,0,false⟩,bU,aU,sub,⟨0,0,0,0,false,0⟩,⟨0,false,0,0⟩,aP,⟨0,0⟩,bN⟩,st,s⟩)
   | _,_=>none)
 | _,_=>none
def aAE(t n:Int)(v:AVal)(g:aD Ob):Option (Prop×DqO):=match v,g with
 | .bool d,[some (.cells [.ptr 1 0,.int .i64 code,.bool okk,.int .i64 val,.bool slow,.int .i64 sh,.int .i64 kd,.int .i64 ky,.int .i64 limit,.int .i64 at',.O,.O,.O,.O,.ptr 4 0,.O,.O,.O,.O]),e1,e3,e4,some (.abs (.announce t' n' sub) []),e2]=>(match lL 5 [e1,e2],cU 3 [e3,e4]with
   | some (l2,t2,n2,st),some (l,s)=>some ((t2=t∧n2=n)∧t'=t∧n'=n∧(d=false→at'=4)∧l=s.xs.length∧l2=st.R.length,⟨d,⟨code,okk,val,slow,sh,kd,ky,limit,at',⟨0,0,0,false⟩,bU,aU,bR,sub,⟨0,false,0,0⟩,aP,⟨0,0⟩,bN⟩,st,s⟩)
   | _,_=>none)
 | _,_=>none
def aAF(t n:Int)(v:AVal)(g:aD Ob):Option (Prop×DqO):=match v,g with
 | .bool d,[some (.cells [.ptr 1 0,.int .i64 code,.bool okk,.int .i64 val,.bool slow,.int .i64 sh,.int .i64 kd,.int .i64 ky,.int .i64 limit,.int .i64 at',.O,.O,.O,.O,.O,.ptr 4 0,.O,.O,.O]),e1,e3,e4,some (.abs (.answer t' n' sub) []),e2]=>(match lL 5 [e1,e2],cU 3 [e3,e4]with
   | some (l2,t2,n2,st),some (l,s)=>some ((t2=t∧n2=n)∧t'=t∧n'=n∧(d=false→at'=6)∧l=s.xs.length∧l2=st.R.length,⟨d,⟨code,okk,val,slow,sh,kd,ky,limit,at',⟨0,0,0,false⟩,bU,aU,bR,⟨0,0,0,0,false,0⟩,sub,aP,⟨0,0⟩,bN⟩,st,s⟩)
   | _,_=>none)
 | _,_=>none
def aAG(t n:Int)(v:AVal)(g:aD Ob):Option (Prop×DqO):=match v,g with
 | .bool d,[some (.cells [.ptr 1 0,.int .i64 code,.bool okk,.int .i64 val,.bool slow,.int .i64 sh,.int .i64 kd,.int .i64 ky,.int .i64 limit,.int .i64 at',.O,.O,.O,.O,.O,.O,.ptr 4 0,.O,.O]),e1,e3,e4,some (.abs (.find t' n' sub) []),e2]=>(match lL 5 [e1,e2],cU 3 [e3,e4]with
   | some (l2,t2,n2,st),some (l,s)=>some ((t2=t∧n2=n)∧t'=t∧n'=n∧(d=false→at'=7)∧l=s.xs.length∧l2=st.R.length,⟨d,⟨code,okk,val,slow,sh,kd,ky,limit,at',⟨0,0,0,false⟩,bU,aU,bR,⟨0,0,0,0,false,0⟩,⟨0,false,0,0⟩,sub,⟨0,0⟩,bN⟩,st,s⟩)
   | _,_=>none)
 | _,_=>none
def aAH(t n:Int)(v:AVal)(g:aD Ob):Option (Prop×DqO):=match v,g with
 | .bool d,[some (.cells [.ptr 1 0,.int .i64 code,.bool okk,.int .i64 val,.bool slow,.int .i64 sh,.int .i64 kd,.int .i64 ky,.int .i64 limit,.int .i64 at',.O,.O,.O,.O,.O,.O,.O,.ptr 4 0,.O]),e1,e3,e4,some (.abs (.drop t' n' sub) []),e2]=>(match lL 5 [e1,e2],cU 3 [e3,e4]with
   | some (l2,t2,n2,st),some (l,s)=>some ((t2=t∧n2=n)∧t'=t∧n'=n∧(d=false→at'=8)∧l=s.xs.length∧l2=st.R.length,⟨d,⟨code,okk,val,slow,sh,kd,ky,limit,at',⟨0,0,0,false⟩,bU,aU,bR,⟨0,0,0,0,false,0⟩,⟨0,false,0,0⟩,aP,sub,bN⟩,st,s⟩)
   | _,_=>none)
 | _,_=>none
def aAI(t n:Int)(v:AVal)(g:aD Ob):Option (Prop×DqO):=match v,g with
 | .bool d,[some (.cells [.ptr 1 0,.int .i64 code,.bool okk,.int .i64 val,.bool slow,.int .i64 sh,.int .i64 kd,.int .i64 ky,.int .i64 limit,.int .i64 at',.O,.O,.O,.O,.O,.O,.O,.O,.ptr 4 0]),e1,e3,e4,some (.abs (.sweep t' n' sub) [1]),e2]=>(match lL 5 [e1,e2],cU 3 [e3,e4]with
   | some (l2,t2,n2,st),some (l,s)=>some ((t2=t∧n2=n)∧t'=t∧n'=n∧(d=false→at'=9)∧l=s.xs.length∧l2=st.R.length,⟨d,⟨code,okk,val,slow,sh,kd,ky,limit,at',⟨0,0,0,false⟩,bU,aU,bR,⟨0,0,0,0,false,0⟩,⟨0,false,0,0⟩,aP,⟨0,0⟩,sub⟩,st,s⟩)
   | _,_=>none)
 | _,_=>none
def xP(t n:Int)(v:AVal)(g:aD Ob):Option (Prop×DqO):=(match aAz t n v g with
 | some r=>some r
 | none=>(match aAA t n v g with
 | some r=>some r
 | none=>(match aAB t n v g with
 | some r=>some r
 | none=>(match aAC t n v g with
 | some r=>some r
 | none=>(match aAD t n v g with
 | some r=>some r
 | none=>(match aAE t n v g with
 | some r=>some r
 | none=>(match aAF t n v g with
 | some r=>some r
 | none=>(match aAG t n v g with
 | some r=>some r
 | none=>(match aAH t n v g with
 | some r=>some r
 | none=>aAI t n v g)))))))))
theorem U3{t n:Int} :cE (obI tbl) 4 (aAz t n) (DqO.fin t n):=by
 intro v g p x hp hq K hK;unfold aAz at hp;split at hp
 case h_2=>cases hp
 rename_i d code okk val slow sh kd ky limit at' e1 e3 e4 e2;split at hp
 case h_2=>cases hp
 rename_i l2 t2 n2 st l s hs hm;simp only [sI',pI']at hp;obtain⟨rfl,rfl⟩:=hp;obtain⟨⟨rfl,rfl⟩,hat,hl,hl2⟩:=hq;have hh:=bB hm hl;cases hh;have hh:=cH hs hl2;cases hh;refine fM hK (fun h=>?_) (fun hd h=>?_)
 ·exact⟨⟨_,_,(aF.pack (yP t2 n2 (⟨code,okk,val,slow,sh,kd,ky,limit,at',⟨0,0,0,false⟩,bU,aU,bR,⟨0,0,0,0,false,0⟩,⟨0,false,0,0⟩,aP,⟨0,0⟩,bN⟩:DOS) st s) (.store t2 n2 st) 1 0 (dJ t2 n2 st) [] (by kernel_rfl) rfl rfl (by kernel_rfl)),h⟩⟩
 ·exact let X0:DOS:=⟨code,okk,val,slow,sh,kd,ky,limit,at',⟨0,0,0,false⟩,bU,aU,bR,⟨0,0,0,0,false,0⟩,⟨0,false,0,0⟩,aP,⟨0,0⟩,bN⟩;⟨⟨_,_,((aF.pack (bA (u5 t2 n2 X0 st s) 0 1 (AO t2 n2 X0) [1]) (.store t2 n2 st) 1 0 (dJ t2 n2 st) [] (by kernel_rfl) rfl rfl (by kernel_rfl)).trans (aF.pack (u5 t2 n2 X0 st s) (.doer t2 n2 X0) 0 1 (AO t2 n2 X0) [1] (by kernel_rfl) rfl (congrArg (Prod.mk 1) (P3 (hat hd))) (by kernel_rfl))),h⟩⟩
theorem U4{t n:Int} :cE (obI tbl) 4 (aAA t n) (DqO.fin t n):=by
 intro v g p x hp hq K hK;unfold aAA at hp;split at hp
 case h_2=>cases hp
 rename_i d code okk val slow sh kd ky limit at' e1 e3 e4 t' n' sub e2;split at hp
 case h_2=>cases hp
 rename_i l2 t2 n2 st l s hs hm;simp only [sI',pI']at hp;obtain⟨rfl,rfl⟩:=hp;obtain⟨⟨rfl,rfl⟩,rfl,rfl,hat,hl,hl2⟩:=hq;have hh:=bB hm hl;cases hh;have hh:=cH hs hl2;cases hh;refine fM hK (fun h=>?_) (fun hd h=>?_)
 ·exact⟨⟨_,_,(aF.weak (cD _ 0 [10,11,12,13,14,15,16,17,18])).trans ((aF.pick [0,1,2,3,5] rfl).trans ((aF.eq (g2:=bA (yP t' n' (⟨code,okk,val,slow,sh,kd,ky,limit,at',sub,bU,aU,bR,⟨0,0,0,0,false,0⟩,⟨0,false,0,0⟩,aP,⟨0,0⟩,bN⟩:DOS) st s) 1 0 (dJ t' n' st) []) (by kernel_rfl) (by kernel_rfl)).trans (aF.pack (yP t' n' (⟨code,okk,val,slow,sh,kd,ky,limit,at',sub,bU,aU,bR,⟨0,0,0,0,false,0⟩,⟨0,false,0,0⟩,aP,⟨0,0⟩,bN⟩:DOS) st s) (.store t' n' st) 1 0 (dJ t' n' st) [] (by kernel_rfl) rfl rfl (by kernel_rfl)))),h⟩⟩
 ·exact let X0:DOS:=⟨code,okk,val,slow,sh,kd,ky,limit,at',sub,bU,aU,bR,⟨0,0,0,0,false,0⟩,⟨0,false,0,0⟩,aP,⟨0,0⟩,bN⟩;⟨⟨_,_,((aF.pack (bA (u5 t' n' X0 st s) 0 1 (lS t' n' X0) [1]) (.store t' n' st) 1 0 (dJ t' n' st) [] (by kernel_rfl) rfl rfl (by kernel_rfl)).trans (aF.pack (u5 t' n' X0 st s) (.doer t' n' X0) 0 1 (lS t' n' X0) [1] (by kernel_rfl) rfl (congrArg (Prod.mk 1) (AP (hat hd))) (by kernel_rfl))),h⟩⟩
theorem U5{t n:Int} :cE (obI tbl) 4 (aAB t n) (DqO.fin t n):=by
 intro v g p x hp hq K hK;unfold aAB at hp;split at hp
 case h_2=>cases hp
 rename_i d code okk val slow sh kd ky limit at' e1 e3 e4 t' n' sub e2;split at hp
 case h_2=>cases hp
 rename_i l2 t2 n2 st l s hs hm;simp only [sI',pI']at hp;obtain⟨rfl,rfl⟩:=hp;obtain⟨⟨rfl,rfl⟩,rfl,rfl,hat,hl,hl2⟩:=hq;have hh:=bB hm hl;cases hh;have hh:=cH hs hl2;cases hh;refine fM hK (fun h=>?_) (fun hd h=>?_)
 ·exact⟨⟨_,_,(aF.weak (cD _ 0 [10,11,12,13,14,15,16,17,18])).trans ((aF.pick [0,1,2,3,5] rfl).trans ((aF.eq (g2:=bA (yP t' n' (⟨code,okk,val,slow,sh,kd,ky,limit,at',⟨0,0,0,false⟩,sub,aU,bR,⟨0,0,0,0,false,0⟩,⟨0,false,0,0⟩,aP,⟨0,0⟩,bN⟩:DOS) st s) 1 0 (dJ t' n' st) []) (by kernel_rfl) (by kernel_rfl)).trans (aF.pack (yP t' n' (⟨code,okk,val,slow,sh,kd,ky,limit,at',⟨0,0,0,false⟩,sub,aU,bR,⟨0,0,0,0,false,0⟩,⟨0,false,0,0⟩,aP,⟨0,0⟩,bN⟩:DOS) st s) (.store t' n' st) 1 0 (dJ t' n' st) [] (by kernel_rfl) rfl rfl (by kernel_rfl)))),h⟩⟩
 ·rcases hat hd with hat | hat
  ·exact let X0:DOS:=⟨code,okk,val,slow,sh,kd,ky,limit,at',⟨0,0,0,false⟩,sub,aU,bR,⟨0,0,0,0,false,0⟩,⟨0,false,0,0⟩,aP,⟨0,0⟩,bN⟩;⟨⟨_,_,((aF.pack (bA (u5 t' n' X0 st s) 0 1 (fR t' n' X0) [1]) (.store t' n' st) 1 0 (dJ t' n' st) [] (by kernel_rfl) rfl rfl (by kernel_rfl)).trans (aF.pack (u5 t' n' X0 st s) (.doer t' n' X0) 0 1 (fR t' n' X0) [1] (by kernel_rfl) rfl (congrArg (Prod.mk 1) (IZ hat)) (by kernel_rfl))),h⟩⟩
  ·exact let X0:DOS:=⟨code,okk,val,slow,sh,kd,ky,limit,at',⟨0,0,0,false⟩,sub,aU,bR,⟨0,0,0,0,false,0⟩,⟨0,false,0,0⟩,aP,⟨0,0⟩,bN⟩;⟨⟨_,_,((aF.pack (bA (u5 t' n' X0 st s) 0 1 (fR t' n' X0) [1]) (.store t' n' st) 1 0 (dJ t' n' st) [] (by kernel_rfl) rfl rfl (by kernel_rfl)).trans (aF.pack (u5 t' n' X0 st s) (.doer t' n' X0) 0 1 (fR t' n' X0) [1] (by kernel_rfl) rfl (congrArg (Prod.mk 1) (I3 hat)) (by kernel_rfl))),h⟩⟩
theorem U6{t n:Int} :cE (obI tbl) 4 (aAC t n) (DqO.fin t n):=by
 intro v g p x hp hq K hK;unfold aAC at hp;split at hp
 case h_2=>cases hp
 rename_i d code okk val slow sh kd ky limit at' e1 e3 e4 t' n' sub e2;split at hp
 case h_2=>cases hp
 rename_i l2 t2 n2 st l s hs hm;simp only [sI',pI']at hp;obtain⟨rfl,rfl⟩:=hp;obtain⟨⟨rfl,rfl⟩,rfl,rfl,hat,hl,hl2⟩:=hq;have hh:=bB hm hl;cases hh;have hh:=cH hs hl2;cases hh;refine fM hK (fun h=>?_) (fun hd h=>?_)
 ·exact⟨⟨_,_,(aF.weak (cD _ 0 [10,11,12,13,14,15,16,17,18])).trans ((aF.pick [0,1,2,3,5] rfl).trans ((aF.eq (g2:=bA (yP t' n' (⟨code,okk,val,slow,sh,kd,ky,limit,at',⟨0,0,0,false⟩,bU,sub,bR,⟨0,0,0,0,false,0⟩,⟨0,false,0,0⟩,aP,⟨0,0⟩,bN⟩:DOS) st s) 1 0 (dJ t' n' st) []) (by kernel_rfl) (by kernel_rfl)).trans (aF.pack (yP t' n' (⟨code,okk,val,slow,sh,kd,ky,limit,at',⟨0,0,0,false⟩,bU,sub,bR,⟨0,0,0,0,false,0⟩,⟨0,false,0,0⟩,aP,⟨0,0⟩,bN⟩:DOS) st s) (.store t' n' st) 1 0 (dJ t' n' st) [] (by kernel_rfl) rfl rfl (by kernel_rfl)))),h⟩⟩
 ·exact let X0:DOS:=⟨code,okk,val,slow,sh,kd,ky,limit,at',⟨0,0,0,false⟩,bU,sub,bR,⟨0,0,0,0,false,0⟩,⟨0,false,0,0⟩,aP,⟨0,0⟩,bN⟩;⟨⟨_,_,((aF.pack (bA (u5 t' n' X0 st s) 0 1 (nU t' n' X0) [1]) (.store t' n' st) 1 0 (dJ t' n' st) [] (by kernel_rfl) rfl rfl (by kernel_rfl)).trans (aF.pack (u5 t' n' X0 st s) (.doer t' n' X0) 0 1 (nU t' n' X0) [1] (by kernel_rfl) rfl (congrArg (Prod.mk 1) (I0 (hat hd))) (by kernel_rfl))),h⟩⟩
theorem U7{t n:Int} :cE (obI tbl) 4 (aAD t n) (DqO.fin t n):=by
 intro v g p x hp hq K hK;unfold aAD at hp;split at hp
 case h_2=>cases hp
 rename_i d code okk val slow sh kd ky limit at' e1 e3 e4 t' n' sub e2;split at hp
 case h_2=>cases hp
 rename_i l2 t2 n2 st l s hs hm;simp only [sI',pI']at hp;obtain⟨rfl,rfl⟩:=hp;obtain⟨⟨rfl,rfl⟩,rfl,rfl,hat,hl,hl2⟩:=hq;have hh:=bB hm hl;cases hh;have hh:=cH hs hl2;cases hh;refine fM hK (fun h=>?_) (fun hd h=>?_)
 ·exact⟨⟨_,_,(aF.weak (cD _ 0 [10,11,12,13,14,15,16,17,18])).trans ((aF.pick [0,1,2,3,5] rfl).trans ((aF.eq (g2:=bA (yP t' n' (⟨code,okk,val,slow,sh,kd,ky,limit,at',⟨0,0,0,false⟩,bU,aU,sub,⟨0,0,0,0,false,0⟩,⟨0,false,0,0⟩,aP,⟨0,0⟩,bN⟩:DOS) st s) 1 0 (dJ t' n' st) []) (by kernel_rfl) (by kernel_rfl)).trans (aF.pack (yP t' n' (⟨code,okk,val,slow,sh,kd,ky,limit,at',⟨0,0,0,false⟩,bU,aU,sub,⟨0,0,0,0,false,0⟩,⟨0,false,0,0⟩,aP,⟨0,0⟩,bN⟩:DOS) st s) (.store t' n' st) 1 0 (dJ t' n' st) [] (by kernel_rfl) rfl rfl (by kernel_rfl)))),h⟩⟩
 ·exact let X0:DOS:=⟨code,okk,val,slow,sh,kd,ky,limit,at',⟨0,0,0,false⟩,bU,aU,sub,⟨0,0,0,0,false,0⟩,⟨0,false,0,0⟩,aP,⟨0,0⟩,bN⟩;⟨⟨_,_,((aF.pack (bA (u5 t' n' X0 st s) 0 1 (nW t' n' X0) [1]) (.store t' n' st) 1 0 (dJ t' n' st) [] (by kernel_rfl) rfl rfl (by kernel_rfl)).trans (aF.pack (u5 t' n' X0 st s) (.doer t' n' X0) 0 1 (nW t' n' X0) [1] (by kernel_rfl) rfl (congrArg (Prod.mk 1) (I1 (hat hd))) (by kernel_rfl))),h⟩⟩
theorem U8{t n:Int} :cE (obI tbl) 4 (aAE t n) (DqO.fin t n):=by
 intro v g p x hp hq K hK;unfold aAE at hp;split at hp
 case h_2=>cases hp
 rename_i d code okk val slow sh kd ky limit at' e1 e3 e4 t' n' sub e2;split at hp
 case h_2=>cases hp
 rename_i l2 t2 n2 st l s hs hm;simp only [sI',pI']at hp;obtain⟨rfl,rfl⟩:=hp;obtain⟨⟨rfl,rfl⟩,rfl,rfl,hat,hl,hl2⟩:=hq;have hh:=bB hm hl;cases hh;have hh:=cH hs hl2;cases hh;refine fM hK (fun h=>?_) (fun hd h=>?_)
 ·exact⟨⟨_,_,(aF.weak (cD _ 0 [10,11,12,13,14,15,16,17,18])).trans ((aF.pick [0,1,2,3,5] rfl).trans ((aF.eq (g2:=bA (yP t' n' (⟨code,okk,val,slow,sh,kd,ky,limit,at',⟨0,0,0,false⟩,bU,aU,bR,sub,⟨0,false,0,0⟩,aP,⟨0,0⟩,bN⟩:DOS) st s) 1 0 (dJ t' n' st) []) (by kernel_rfl) (by kernel_rfl)).trans (aF.pack (yP t' n' (⟨code,okk,val,slow,sh,kd,ky,limit,at',⟨0,0,0,false⟩,bU,aU,bR,sub,⟨0,false,0,0⟩,aP,⟨0,0⟩,bN⟩:DOS) st s) (.store t' n' st) 1 0 (dJ t' n' st) [] (by kernel_rfl) rfl rfl (by kernel_rfl)))),h⟩⟩
 ·exact let X0:DOS:=⟨code,okk,val,slow,sh,kd,ky,limit,at',⟨0,0,0,false⟩,bU,aU,bR,sub,⟨0,false,0,0⟩,aP,⟨0,0⟩,bN⟩;⟨⟨_,_,((aF.pack (bA (u5 t' n' X0 st s) 0 1 (nR t' n' X0) [1]) (.store t' n' st) 1 0 (dJ t' n' st) [] (by kernel_rfl) rfl rfl (by kernel_rfl)).trans (aF.pack (u5 t' n' X0 st s) (.doer t' n' X0) 0 1 (nR t' n' X0) [1] (by kernel_rfl) rfl (congrArg (Prod.mk 1) (I2 (hat hd))) (by kernel_rfl))),h⟩⟩
theorem U9{t n:Int} :cE (obI tbl) 4 (aAF t n) (DqO.fin t n):=by
 intro v g p x hp hq K hK;unfold aAF at hp;split at hp
 case h_2=>cases hp
 rename_i d code okk val slow sh kd ky limit at' e1 e3 e4 t' n' sub e2;split at hp
 case h_2=>cases hp
 rename_i l2 t2 n2 st l s hs hm;simp only [sI',pI']at hp;obtain⟨rfl,rfl⟩:=hp;obtain⟨⟨rfl,rfl⟩,rfl,rfl,hat,hl,hl2⟩:=hq;have hh:=bB hm hl;cases hh;have hh:=cH hs hl2;cases hh;refine fM hK (fun h=>?_) (fun hd h=>?_)
 ·exact⟨⟨_,_,(aF.weak (cD _ 0 [10,11,12,13,14,15,16,17,18])).trans ((aF.pick [0,1,2,3,5] rfl).trans ((aF.eq (g2:=bA (yP t' n' (⟨code,okk,val,slow,sh,kd,ky,limit,at',⟨0,0,0,false⟩,bU,aU,bR,⟨0,0,0,0,false,0⟩,sub,aP,⟨0,0⟩,bN⟩:DOS) st s) 1 0 (dJ t' n' st) []) (by kernel_rfl) (by kernel_rfl)).trans (aF.pack (yP t' n' (⟨code,okk,val,slow,sh,kd,ky,limit,at',⟨0,0,0,false⟩,bU,aU,bR,⟨0,0,0,0,false,0⟩,sub,aP,⟨0,0⟩,bN⟩:DOS) st s) (.store t' n' st) 1 0 (dJ t' n' st) [] (by kernel_rfl) rfl rfl (by kernel_rfl)))),h⟩⟩
 ·exact let X0:DOS:=⟨code,okk,val,slow,sh,kd,ky,limit,at',⟨0,0,0,false⟩,bU,aU,bR,⟨0,0,0,0,false,0⟩,sub,aP,⟨0,0⟩,bN⟩;⟨⟨_,_,((aF.pack (bA (u5 t' n' X0 st s) 0 1 (nS t' n' X0) [1]) (.store t' n' st) 1 0 (dJ t' n' st) [] (by kernel_rfl) rfl rfl (by kernel_rfl)).trans (aF.pack (u5 t' n' X0 st s) (.doer t' n' X0) 0 1 (nS t' n' X0) [1] (by kernel_rfl) rfl (congrArg (Prod.mk 1) (I4 (hat hd))) (by kernel_rfl))),h⟩⟩
theorem VA{t n:Int} :cE (obI tbl) 4 (aAG t n) (DqO.fin t n):=by
 intro v g p x hp hq K hK;unfold aAG at hp;split at hp
 case h_2=>cases hp
 rename_i d code okk val slow sh kd ky limit at' e1 e3 e4 t' n' sub e2;split at hp
 case h_2=>cases hp
 rename_i l2 t2 n2 st l s hs hm;simp only [sI',pI']at hp;obtain⟨rfl,rfl⟩:=hp;obtain⟨⟨rfl,rfl⟩,rfl,rfl,hat,hl,hl2⟩:=hq;have hh:=bB hm hl;cases hh;have hh:=cH hs hl2;cases hh;refine fM hK (fun h=>?_) (fun hd h=>?_)
 ·exact⟨⟨_,_,(aF.weak (cD _ 0 [10,11,12,13,14,15,16,17,18])).trans ((aF.pick [0,1,2,3,5] rfl).trans ((aF.eq (g2:=bA (yP t' n' (⟨code,okk,val,slow,sh,kd,ky,limit,at',⟨0,0,0,false⟩,bU,aU,bR,⟨0,0,0,0,false,0⟩,⟨0,false,0,0⟩,sub,⟨0,0⟩,bN⟩:DOS) st s) 1 0 (dJ t' n' st) []) (by kernel_rfl) (by kernel_rfl)).trans (aF.pack (yP t' n' (⟨code,okk,val,slow,sh,kd,ky,limit,at',⟨0,0,0,false⟩,bU,aU,bR,⟨0,0,0,0,false,0⟩,⟨0,false,0,0⟩,sub,⟨0,0⟩,bN⟩:DOS) st s) (.store t' n' st) 1 0 (dJ t' n' st) [] (by kernel_rfl) rfl rfl (by kernel_rfl)))),h⟩⟩
 ·exact let X0:DOS:=⟨code,okk,val,slow,sh,kd,ky,limit,at',⟨0,0,0,false⟩,bU,aU,bR,⟨0,0,0,0,false,0⟩,⟨0,false,0,0⟩,sub,⟨0,0⟩,bN⟩;⟨⟨_,_,((aF.pack (bA (u5 t' n' X0 st s) 0 1 (nV t' n' X0) [1]) (.store t' n' st) 1 0 (dJ t' n' st) [] (by kernel_rfl) rfl rfl (by kernel_rfl)).trans (aF.pack (u5 t' n' X0 st s) (.doer t' n' X0) 0 1 (nV t' n' X0) [1] (by kernel_rfl) rfl (congrArg (Prod.mk 1) (I5 (hat hd))) (by kernel_rfl))),h⟩⟩
theorem VB{t n:Int} :cE (obI tbl) 4 (aAH t n) (DqO.fin t n):=by
 intro v g p x hp hq K hK;unfold aAH at hp;split at hp
 case h_2=>cases hp
 rename_i d code okk val slow sh kd ky limit at' e1 e3 e4 t' n' sub e2;split at hp
 case h_2=>cases hp
 rename_i l2 t2 n2 st l s hs hm;simp only [sI',pI']at hp;obtain⟨rfl,rfl⟩:=hp;obtain⟨⟨rfl,rfl⟩,rfl,rfl,hat,hl,hl2⟩:=hq;have hh:=bB hm hl;cases hh;have hh:=cH hs hl2;cases hh;refine fM hK (fun h=>?_) (fun hd h=>?_)
 ·exact⟨⟨_,_,(aF.weak (cD _ 0 [10,11,12,13,14,15,16,17,18])).trans ((aF.pick [0,1,2,3,5] rfl).trans ((aF.eq (g2:=bA (yP t' n' (⟨code,okk,val,slow,sh,kd,ky,limit,at',⟨0,0,0,false⟩,bU,aU,bR,⟨0,0,0,0,false,0⟩,⟨0,false,0,0⟩,aP,sub,bN⟩:DOS) st s) 1 0 (dJ t' n' st) []) (by kernel_rfl) (by kernel_rfl)).trans (aF.pack (yP t' n' (⟨code,okk,val,slow,sh,kd,ky,limit,at',⟨0,0,0,false⟩,bU,aU,bR,⟨0,0,0,0,false,0⟩,⟨0,false,0,0⟩,aP,sub,bN⟩:DOS) st s) (.store t' n' st) 1 0 (dJ t' n' st) [] (by kernel_rfl) rfl rfl (by kernel_rfl)))),h⟩⟩
 ·exact let X0:DOS:=⟨code,okk,val,slow,sh,kd,ky,limit,at',⟨0,0,0,false⟩,bU,aU,bR,⟨0,0,0,0,false,0⟩,⟨0,false,0,0⟩,aP,sub,bN⟩;⟨⟨_,_,((aF.pack (bA (u5 t' n' X0 st s) 0 1 (nT t' n' X0) [1]) (.store t' n' st) 1 0 (dJ t' n' st) [] (by kernel_rfl) rfl rfl (by kernel_rfl)).trans (aF.pack (u5 t' n' X0 st s) (.doer t' n' X0) 0 1 (nT t' n' X0) [1] (by kernel_rfl) rfl (congrArg (Prod.mk 1) (I6 (hat hd))) (by kernel_rfl))),h⟩⟩
theorem VC{t n:Int} :cE (obI tbl) 4 (aAI t n) (DqO.fin t n):=by
 intro v g p x hp hq K hK;unfold aAI at hp;split at hp
 case h_2=>cases hp
 rename_i d code okk val slow sh kd ky limit at' e1 e3 e4 t' n' sub e2;split at hp
 case h_2=>cases hp
 rename_i l2 t2 n2 st l s hs hm;simp only [sI',pI']at hp;obtain⟨rfl,rfl⟩:=hp;obtain⟨⟨rfl,rfl⟩,rfl,rfl,hat,hl,hl2⟩:=hq;have hh:=bB hm hl;cases hh;have hh:=cH hs hl2;cases hh;refine fM hK (fun h=>?_) (fun hd h=>?_)
 ·exact⟨⟨_,_,(aF.weak (cD _ 0 [10,11,12,13,14,15,16,17,18])).trans ((aF.pick [0,1,2,3,5] rfl).trans ((aF.eq (g2:=bA (yP t' n' (⟨code,okk,val,slow,sh,kd,ky,limit,at',⟨0,0,0,false⟩,bU,aU,bR,⟨0,0,0,0,false,0⟩,⟨0,false,0,0⟩,aP,⟨0,0⟩,sub⟩:DOS) st s) 1 0 (dJ t' n' st) []) (by kernel_rfl) (by kernel_rfl)).trans (aF.pack (yP t' n' (⟨code,okk,val,slow,sh,kd,ky,limit,at',⟨0,0,0,false⟩,bU,aU,bR,⟨0,0,0,0,false,0⟩,⟨0,false,0,0⟩,aP,⟨0,0⟩,sub⟩:DOS) st s) (.store t' n' st) 1 0 (dJ t' n' st) [] (by kernel_rfl) rfl rfl (by kernel_rfl)))),h⟩⟩
 ·exact let X0:DOS:=⟨code,okk,val,slow,sh,kd,ky,limit,at',⟨0,0,0,false⟩,bU,aU,bR,⟨0,0,0,0,false,0⟩,⟨0,false,0,0⟩,aP,⟨0,0⟩,sub⟩;⟨⟨_,_,((aF.pack (bA (u5 t' n' X0 st s) 0 1 (nX t' n' X0) [1]) (.store t' n' st) 1 0 (dJ t' n' st) [] (by kernel_rfl) rfl rfl (by kernel_rfl)).trans (aF.pack (u5 t' n' X0 st s) (.doer t' n' X0) 0 1 (nX t' n' X0) [1] (by kernel_rfl) rfl (congrArg (Prod.mk 1) (I7 (hat hd))) (by kernel_rfl))),h⟩⟩
theorem kY{t n:Int} :cE (obI tbl) 4 (xP t n) (DqO.fin t n):=by
 intro v g p x hp hq K hK;unfold xP at hp;split at hp
 ·rename_i r hr;cases hp;exact U3 v g p x hr hq K hK
 split at hp
 ·rename_i r hr;cases hp;exact U4 v g p x hr hq K hK
 split at hp
 ·rename_i r hr;cases hp;exact U5 v g p x hr hq K hK
 split at hp
 ·rename_i r hr;cases hp;exact U6 v g p x hr hq K hK
 split at hp
 ·rename_i r hr;cases hp;exact U7 v g p x hr hq K hK
 split at hp
 ·rename_i r hr;cases hp;exact U8 v g p x hr hq K hK
 split at hp
 ·rename_i r hr;cases hp;exact U9 v g p x hr hq K hK
 split at hp
 ·rename_i r hr;cases hp;exact VA v g p x hr hq K hK
 split at hp
 ·rename_i r hr;cases hp;exact VB v g p x hr hq K hK
 exact VC v g p x hp hq K hK
abbrev w2d(n:Int)(s:MS)(t:Int)(x:DOS):=HdO.s (hdF t n x.10 s)
abbrev w2o(n:Int)(s:MS)(st:STS)(t:Int)(x:DOS):=rW t n (HdO.x (hdF t n x.10 s)).1 (HdO.x (hdF t n x.10 s)).2 x.8 st
abbrev w2q(n:Int)(st:STS)(t:Int)(x:DOS):=Prod.snd (ftNF t n x.5 x.6 x.7 x.8 st)
abbrev w2s:=false=false→(3:Int)=(3:Int)
abbrev w2v(x:DOS):=!a8 x.5 x.6 x.7
abbrev w2y:=false=false→(2:Int)=(2:Int)
abbrev w30:=false=false→(1:Int)=(1:Int)∨(1:Int)=(5:Int)
def rE(t n:Int)(x:DOS)(st:STS)(s:MS):Tr DqO:=.pre True (.ite (w2v x) (.pre (lE' s.3∧(0:Int)≤s.4∧s.4≤(4611686018427387904:Int)) (.pre ((t=t∧n=n)∧t=t∧n=n∧(true=false→(0:Int)=(0:Int))∧lE' s.3∧lE' st.3) (.ret {d:=true,x:= {x with code:=1,okk:=false,val:=0,at':=0,hp:=bU,en:=aU,ft:=bR,an:=d8,aw:=d9,fn:=aP,dr:=eZ,sw:=bN},st:= {me:=st.1,sp:=st.2,R:=st.3},s:= {s with c:=s.4+1,k:=1,a:=0,o:=aB s.3 0,w:=aB s.3 0,ok:=bS s.3 0} }))) (.pre (lE' s.3∧aBC t n x.10 s) (.ite (hdF t n x.10 s).1 (.ite (ilt (HdO.x (hdF t n x.10 s)).1 0) (.pre True (.ite (bV x.6) (.ite (ieq st.2 0) (.pre (lE' st.3∧(t=t∧n=n∧lE' st.3)∧True) (.pre ((t=t∧n=n)∧t=t∧n=n∧w2y∧lE' (w2d n s t x).3∧lE' st.3) (.ret {d:=false,x:= {x with at':=2,hd:=eA,hp:=bU,en:=aU,ft:=bR,an:=d8,aw:=d9,fn:=aP,dr:=eZ,sw:=bN},st:= {me:=st.1,sp:=st.2,R:=st.3},s:= {t:=(w2d n s t x).1,n:=(w2d n s t x).2,xs:=(w2d n s t x).3,c:=(w2d n s t x).4,k:=(w2d n s t x).5,a:=(w2d n s t x).6,o:=(w2d n s t x).7,w:=(w2d n s t x).8,ok:=(w2d n s t x).9} }))) (.pre ((lE' st.3∧uN t n x.5 x.6 x.7 x.8 st)∧True) (.pre ((t=t∧n=n)∧t=t∧n=n∧w2s∧lE' (w2d n s t x).3∧lE' (w2q n st t x).3) (.ret {d:=false,x:= {x with at':=3,hd:=eA,hp:=bU,en:=aU,ft:=(ftNF t n x.5 x.6 x.7 x.8 st).1,an:=d8,aw:=d9,fn:=aP,dr:=eZ,sw:=bN},st:= {me:=(w2q n st t x).1,sp:=(w2q n st t x).2,R:=(w2q n st t x).3},s:= {t:=(w2d n s t x).1,n:=(w2d n s t x).2,xs:=(w2d n s t x).3,c:=(w2d n s t x).4,k:=(w2d n s t x).5,a:=(w2d n s t x).6,o:=(w2d n s t x).7,w:=(w2d n s t x).8,ok:=(w2d n s t x).9} })))) (.pre ((lE' st.3∧uN t n x.5 x.6 x.7 x.8 st)∧True) (.pre ((t=t∧n=n)∧t=t∧n=n∧w2s∧lE' (w2d n s t x).3∧lE' (w2q n st t x).3) (.ret {d:=false,x:= {x with at':=3,hd:=eA,hp:=bU,en:=aU,ft:=(ftNF t n x.5 x.6 x.7 x.8 st).1,an:=d8,aw:=d9,fn:=aP,dr:=eZ,sw:=bN},st:= {me:=(w2q n st t x).1,sp:=(w2q n st t x).2,R:=(w2q n st t x).3},s:= {t:=(w2d n s t x).1,n:=(w2d n s t x).2,xs:=(w2d n s t x).3,c:=(w2d n s t x).4,k:=(w2d n s t x).5,a:=(w2d n s t x).6,o:=(w2d n s t x).7,w:=(w2d n s t x).8,ok:=(w2d n s t x).9} }))))) (.pre ((lE' st.3∧D4 t n (HdO.x (hdF t n x.10 s)).1 (HdO.x (hdF t n x.10 s)).2 x.8 st)∧True) (.pre ((t=t∧n=n)∧t=t∧n=n∧w30∧lE' (w2d n s t x).3∧lE' (Prod.snd (w2o n s st t x)).3) (.ret {d:=false,x:= {x with at':=1,hd:=eA,hp:=(w2o n s st t x).1,en:=aU,ft:=bR,an:=d8,aw:=d9,fn:=aP,dr:=eZ,sw:=bN},st:= {me:=(Prod.snd (w2o n s st t x)).1,sp:=(Prod.snd (w2o n s st t x)).2,R:=(Prod.snd (w2o n s st t x)).3},s:= {t:=(w2d n s t x).1,n:=(w2d n s t x).2,xs:=(w2d n s t x).3,c:=(w2d n s t x).4,k:=(w2d n s t x).5,a:=(w2d n s t x).6,o:=(w2d n s t x).7,w:=(w2d n s t x).8,ok:=(w2d n s t x).9} })))) (.pre ((t=t∧n=n)∧t=t∧n=n∧(false=false→(0:Int)=(0:Int))∧lE' (w2d n s t x).3∧lE' st.3) (.ret {d:=false,x:= {x with at':=0,hd:=(hdF t n x.10 s).2,hp:=bU,en:=aU,ft:=bR,an:=d8,aw:=d9,fn:=aP,dr:=eZ,sw:=bN},st:= {me:=st.1,sp:=st.2,R:=st.3},s:= {t:=(w2d n s t x).1,n:=(w2d n s t x).2,xs:=(w2d n s t x).3,c:=(w2d n s t x).4,k:=(w2d n s t x).5,a:=(w2d n s t x).6,o:=(w2d n s t x).7,w:=(w2d n s t x).8,ok:=(w2d n s t x).9} })))))
theorem LN(t n:Int)(x:DOS)(st:STS)(s:MS)(K:DqO→Prop)(h:(rE t n x st s).run K):cT' 63 [.ptr 0 0,.ptr 2 0] [cE' [.ptr 1 0,.I x.code,.bool x.okk,.I x.val,.bool x.slow,.I x.sh,.I x.kd,.I x.ky,.I x.limit,.I 0,.ptr 4 0,.O,.O,.O,.O,.O,.O,.O,.O],stC 5 t n st,aY 3 s,aZ s,some (.abs (.head t n x.hd) []),hO st] (cF 4 0 [10,11,12,13,14,15,16,17,18] [(.cell 1 4,.ints (some .i64))] (xP t n) K):=by
 exact cM' (E:=EH) (by kernel_rfl) h
abbrev w2e(n:Int)(s:MS)(st:STS)(t:Int)(x:DOS):=HpO.s (dH t n x.11 st s)
abbrev w2t(n:Int)(s:MS)(st:STS)(t:Int)(x:DOS):=Prod.snd (ftNF t n x.5 x.6 x.7 x.8 (dH t n x.11 st s).3)
abbrev w2c(n:Int)(s:MS)(st:STS)(t:Int)(x:DOS):Tr DqO:=.ret {d:=false,x:= {x with at':=3,hd:=eA,hp:=bU,en:=aU,ft:=(ftNF t n x.5 x.6 x.7 x.8 (dH t n x.11 st s).3).1,an:=d8,aw:=d9,fn:=aP,dr:=eZ,sw:=bN},st:= {me:=(w2t n s st t x).1,sp:=(w2t n s st t x).2,R:=(w2t n s st t x).3},s:= {t:=(w2e n s st t x).1,n:=(w2e n s st t x).2,xs:=(w2e n s st t x).3,c:=(w2e n s st t x).4,k:=(w2e n s st t x).5,a:=(w2e n s st t x).6,o:=(w2e n s st t x).7,w:=(w2e n s st t x).8,ok:=(w2e n s st t x).9} }
abbrev w2k(n:Int)(s:MS)(st:STS)(t:Int)(x:DOS):=HpO.st (dH t n x.11 st s)
def C3(t n:Int)(x:DOS)(st:STS)(s:MS):Tr DqO:=.pre True (.ite (w2v x) (.pre (lE' s.3∧(0:Int)≤s.4∧s.4≤(4611686018427387904:Int)) (.pre ((t=t∧n=n)∧t=t∧n=n∧(true=false→(1:Int)=(1:Int)∨(1:Int)=(5:Int))∧lE' s.3∧lE' st.3) (.ret {d:=true,x:= {x with code:=1,okk:=false,val:=0,at':=1,hd:=eA,en:=aU,ft:=bR,an:=d8,aw:=d9,fn:=aP,dr:=eZ,sw:=bN},st:= {me:=st.1,sp:=st.2,R:=st.3},s:= {s with c:=s.4+1,k:=1,a:=0,o:=aB s.3 0,w:=aB s.3 0,ok:=bS s.3 0} }))) (.pre ((lE' s.3∧lE' st.3∧t=t∧n=n)∧Q9 t n x.11 st s) (.ite (dH t n x.11 st s).1 (.pre True (.ite (bV x.6) (.ite (ieq (w2k n s st t x).2 0) (.pre (lE' (w2k n s st t x).3∧(t=t∧n=n∧lE' (w2k n s st t x).3)∧True) (.pre ((t=t∧n=n)∧t=t∧n=n∧w2y∧lE' (w2e n s st t x).3∧lE' (w2k n s st t x).3) (.ret {d:=false,x:= {x with at':=2,hd:=eA,hp:=bU,en:=aU,ft:=bR,an:=d8,aw:=d9,fn:=aP,dr:=eZ,sw:=bN},st:= {me:=(w2k n s st t x).1,sp:=(w2k n s st t x).2,R:=(w2k n s st t x).3},s:= {t:=(w2e n s st t x).1,n:=(w2e n s st t x).2,xs:=(w2e n s st t x).3,c:=(w2e n s st t x).4,k:=(w2e n s st t x).5,a:=(w2e n s st t x).6,o:=(w2e n s st t x).7,w:=(w2e n s st t x).8,ok:=(w2e n s st t x).9} }))) (.pre ((lE' (w2k n s st t x).3∧uN t n x.5 x.6 x.7 x.8 (dH t n x.11 st s).3)∧True) (.pre ((t=t∧n=n)∧t=t∧n=n∧w2s∧lE' (w2e n s st t x).3∧lE' (w2t n s st t x).3) (w2c n s st t x)))) (.pre ((lE' (w2k n s st t x).3∧uN t n x.5 x.6 x.7 x.8 (dH t n x.11 st s).3)∧True) (.pre ((t=t∧n=n)∧t=t∧n=n∧w2s∧lE' (w2e n s st t x).3∧lE' (w2t n s st t x).3) (w2c n s st t x))))) (.pre ((t=t∧n=n)∧t=t∧n=n∧w30∧lE' (w2e n s st t x).3∧lE' (w2k n s st t x).3) (.ret {d:=false,x:= {x with at':=1,hd:=eA,hp:=(dH t n x.11 st s).2,en:=aU,ft:=bR,an:=d8,aw:=d9,fn:=aP,dr:=eZ,sw:=bN},st:= {me:=(w2k n s st t x).1,sp:=(w2k n s st t x).2,R:=(w2k n s st t x).3},s:= {t:=(w2e n s st t x).1,n:=(w2e n s st t x).2,xs:=(w2e n s st t x).3,c:=(w2e n s st t x).4,k:=(w2e n s st t x).5,a:=(w2e n s st t x).6,o:=(w2e n s st t x).7,w:=(w2e n s st t x).8,ok:=(w2e n s st t x).9} })))))
theorem LO(t n:Int)(x:DOS)(st:STS)(s:MS)(K:DqO→Prop)(h:(C3 t n x st s).run K):cT' 63 [.ptr 0 0,.ptr 2 0] [cE' [.ptr 1 0,.I x.code,.bool x.okk,.I x.val,.bool x.slow,.I x.sh,.I x.kd,.I x.ky,.I x.limit,.I 1,.O,.ptr 4 0,.O,.O,.O,.O,.O,.O,.O],stC 5 t n st,aY 3 s,aZ s,some (.abs (.help t n x.hp) [1]),hO st] (cF 4 0 [10,11,12,13,14,15,16,17,18] [(.cell 1 4,.ints (some .i64))] (xP t n) K):=by
 exact cM' (E:=EH) (by kernel_rfl) h
abbrev w2i(n:Int)(s:MS)(st:STS)(t:Int)(x:DOS):=EO.s (enF t n x.12 st s)
abbrev w2n:=false=false→(8:Int)=(8:Int)
abbrev w2u(n:Int)(s:MS)(st:STS)(t:Int)(x:DOS):=Prod.snd (ftNF t n x.5 x.6 x.7 x.8 (enF t n x.12 st s).3)
abbrev w2x(n:Int)(s:MS)(st:STS)(t:Int)(x:DOS):=EO.st (enF t n x.12 st s)
def rF(t n:Int)(x:DOS)(st:STS)(s:MS):Tr DqO:=.pre True (.ite (w2v x) (.pre (lE' s.3∧(0:Int)≤s.4∧s.4≤(4611686018427387904:Int)) (.pre ((t=t∧n=n)∧t=t∧n=n∧(true=false→(2:Int)=(2:Int))∧lE' s.3∧lE' st.3) (.ret {d:=true,x:= {x with code:=1,okk:=false,val:=0,at':=2,hd:=eA,hp:=bU,ft:=bR,an:=d8,aw:=d9,fn:=aP,dr:=eZ,sw:=bN},st:= {me:=st.1,sp:=st.2,R:=st.3},s:= {s with c:=s.4+1,k:=1,a:=0,o:=aB s.3 0,w:=aB s.3 0,ok:=bS s.3 0} }))) (.pre ((lE' s.3∧lE' st.3∧t=t∧n=n)∧okE t n (DOS.en x) {me:=st.1,sp:=st.2,R:=st.3} s) (.ite (enF t n x.12 st s).1 (.ite (EO.e (enF t n x.12 st s)).2 (.pre (uG t n (w2x n s st t x).1∧True) (.pre ((t=t∧n=n)∧t=t∧n=n∧w2n∧lE' (w2i n s st t x).3∧lE' (w2x n s st t x).3) (.ret {d:=false,x:= {x with code:=4,okk:=false,val:=0,at':=8,hd:=eA,hp:=bU,en:=aU,ft:=bR,an:=d8,aw:=d9,fn:=aP,dr:=nH t n (w2x n s st t x).1,sw:=bN},st:= {me:=(w2x n s st t x).1,sp:=(w2x n s st t x).2,R:=(w2x n s st t x).3},s:= {t:=(w2i n s st t x).1,n:=(w2i n s st t x).2,xs:=(w2i n s st t x).3,c:=(w2i n s st t x).4,k:=(w2i n s st t x).5,a:=(w2i n s st t x).6,o:=(w2i n s st t x).7,w:=(w2i n s st t x).8,ok:=(w2i n s st t x).9} }))) (.pre ((lE' (w2x n s st t x).3∧uN t n x.5 x.6 x.7 x.8 (enF t n x.12 st s).3)∧True) (.pre ((t=t∧n=n)∧t=t∧n=n∧w2s∧lE' (w2i n s st t x).3∧lE' (w2u n s st t x).3) (.ret {d:=false,x:= {x with at':=3,hd:=eA,hp:=bU,en:=aU,ft:=(ftNF t n x.5 x.6 x.7 x.8 (enF t n x.12 st s).3).1,an:=d8,aw:=d9,fn:=aP,dr:=eZ,sw:=bN},st:= {me:=(w2u n s st t x).1,sp:=(w2u n s st t x).2,R:=(w2u n s st t x).3},s:= {t:=(w2i n s st t x).1,n:=(w2i n s st t x).2,xs:=(w2i n s st t x).3,c:=(w2i n s st t x).4,k:=(w2i n s st t x).5,a:=(w2i n s st t x).6,o:=(w2i n s st t x).7,w:=(w2i n s st t x).8,ok:=(w2i n s st t x).9} })))) (.pre ((t=t∧n=n)∧t=t∧n=n∧w2y∧lE' (w2i n s st t x).3∧lE' (w2x n s st t x).3) (.ret {d:=false,x:= {x with at':=2,hd:=eA,hp:=bU,en:=(enF t n x.12 st s).2,ft:=bR,an:=d8,aw:=d9,fn:=aP,dr:=eZ,sw:=bN},st:= {me:=(w2x n s st t x).1,sp:=(w2x n s st t x).2,R:=(w2x n s st t x).3},s:= {t:=(w2i n s st t x).1,n:=(w2i n s st t x).2,xs:=(w2i n s st t x).3,c:=(w2i n s st t x).4,k:=(w2i n s st t x).5,a:=(w2i n s st t x).6,o:=(w2i n s st t x).7,w:=(w2i n s st t x).8,ok:=(w2i n s st t x).9} })))))
theorem LP(t n:Int)(x:DOS)(st:STS)(s:MS)(K:DqO→Prop)(h:(rF t n x st s).run K):cT' 63 [.ptr 0 0,.ptr 2 0] [cE' [.ptr 1 0,.I x.code,.bool x.okk,.I x.val,.bool x.slow,.I x.sh,.I x.kd,.I x.ky,.I x.limit,.I 2,.O,.O,.ptr 4 0,.O,.O,.O,.O,.O,.O],stC 5 t n st,aY 3 s,aZ s,some (.abs (.ensure t n x.en) [1]),hO st] (cF 4 0 [10,11,12,13,14,15,16,17,18] [(.cell 1 4,.ints (some .i64))] (xP t n) K):=by
 exact cM' (E:=EH) (by kernel_rfl) h
abbrev w2g(n:Int)(s:MS)(st:STS)(t:Int)(x:DOS):=FtO.s (ftF t n x.13 st s)
abbrev w2j(n:Int)(s:MS)(st:STS)(t:Int)(x:DOS):=FtO.st (ftF t n x.13 st s)
abbrev w2b(n:Int)(s:MS)(st:STS)(t:Int)(x:DOS):Tr DqO:=.ret {d:=false,x:= {x with code:=(FtO.x (ftF t n x.13 st s)).1,okk:=(FtO.x (ftF t n x.13 st s)).2,val:=(FtO.x (ftF t n x.13 st s)).3,at':=8,hd:=eA,hp:=bU,en:=aU,ft:=bR,an:=d8,aw:=d9,fn:=aP,dr:=nH t n (w2j n s st t x).1,sw:=bN},st:= {me:=(w2j n s st t x).1,sp:=(w2j n s st t x).2,R:=(w2j n s st t x).3},s:= {t:=(w2g n s st t x).1,n:=(w2g n s st t x).2,xs:=(w2g n s st t x).3,c:=(w2g n s st t x).4,k:=(w2g n s st t x).5,a:=(w2g n s st t x).6,o:=(w2g n s st t x).7,w:=(w2g n s st t x).8,ok:=(w2g n s st t x).9} }
abbrev w2z:=false=false→(7:Int)=(7:Int)
def rG(t n:Int)(x:DOS)(st:STS)(s:MS):Tr DqO:=.pre True (.ite (w2v x) (.pre (lE' s.3∧(0:Int)≤s.4∧s.4≤(4611686018427387904:Int)) (.pre ((t=t∧n=n)∧t=t∧n=n∧(true=false→(3:Int)=(3:Int))∧lE' s.3∧lE' st.3) (.ret {d:=true,x:= {x with code:=1,okk:=false,val:=0,at':=3,hd:=eA,hp:=bU,en:=aU,an:=d8,aw:=d9,fn:=aP,dr:=eZ,sw:=bN},st:= {me:=st.1,sp:=st.2,R:=st.3},s:= {s with c:=s.4+1,k:=1,a:=0,o:=aB s.3 0,w:=aB s.3 0,ok:=bS s.3 0} }))) (.pre ((lE' s.3∧lE' st.3∧t=t∧n=n)∧WM t n x.13 st s) (.ite (ftF t n x.13 st s).1 (.ite (!(FtO.x (ftF t n x.13 st s)).4) (.ite (!(FtO.x (ftF t n x.13 st s)).2) (.pre (uG t n (w2j n s st t x).1∧True) (.pre ((t=t∧n=n)∧t=t∧n=n∧w2n∧lE' (w2g n s st t x).3∧lE' (w2j n s st t x).3) (w2b n s st t x))) (.pre True (.ite (!eU x.5 x.6) (.pre (uG t n (w2j n s st t x).1∧True) (.pre ((t=t∧n=n)∧t=t∧n=n∧w2n∧lE' (w2g n s st t x).3∧lE' (w2j n s st t x).3) (w2b n s st t x))) (.pre True (.pre (pR t n (w2j n s st t x).1 (b9 x.5 x.7) (bW x.5 x.6 x.7) x.8∧True) (.pre ((t=t∧n=n)∧t=t∧n=n∧w2z∧lE' (w2g n s st t x).3∧lE' (w2j n s st t x).3) (.ret {d:=false,x:= {x with code:=(FtO.x (ftF t n x.13 st s)).1,okk:=(FtO.x (ftF t n x.13 st s)).2,val:=(FtO.x (ftF t n x.13 st s)).3,at':=7,hd:=eA,hp:=bU,en:=aU,ft:=bR,an:=d8,aw:=d9,fn:=lW t n (w2j n s st t x).1 (b9 x.5 x.7) (bW x.5 x.6 x.7) x.8,dr:=eZ,sw:=bN},st:= {me:=(w2j n s st t x).1,sp:=(w2j n s st t x).2,R:=(w2j n s st t x).3},s:= {t:=(w2g n s st t x).1,n:=(w2g n s st t x).2,xs:=(w2g n s st t x).3,c:=(w2g n s st t x).4,k:=(w2g n s st t x).5,a:=(w2g n s st t x).6,o:=(w2g n s st t x).7,w:=(w2g n s st t x).8,ok:=(w2g n s st t x).9} }))))))) (.pre (PH t n (w2j n s st t x).1 x.5 x.6 x.7∧True) (.pre ((t=t∧n=n)∧t=t∧n=n∧(false=false→(4:Int)=(4:Int))∧lE' (w2g n s st t x).3∧lE' (w2j n s st t x).3) (.ret {d:=false,x:= {x with slow:=true,at':=4,hd:=eA,hp:=bU,en:=aU,ft:=bR,an:=Z6 t n (w2j n s st t x).1 x.5 x.6 x.7,aw:=d9,fn:=aP,dr:=eZ,sw:=bN},st:= {me:=(w2j n s st t x).1,sp:=(w2j n s st t x).2,R:=(w2j n s st t x).3},s:= {t:=(w2g n s st t x).1,n:=(w2g n s st t x).2,xs:=(w2g n s st t x).3,c:=(w2g n s st t x).4,k:=(w2g n s st t x).5,a:=(w2g n s st t x).6,o:=(w2g n s st t x).7,w:=(w2g n s st t x).8,ok:=(w2g n s st t x).9} })))) (.pre ((t=t∧n=n)∧t=t∧n=n∧w2s∧lE' (w2g n s st t x).3∧lE' (w2j n s st t x).3) (.ret {d:=false,x:= {x with at':=3,hd:=eA,hp:=bU,en:=aU,ft:=(ftF t n x.13 st s).2,an:=d8,aw:=d9,fn:=aP,dr:=eZ,sw:=bN},st:= {me:=(w2j n s st t x).1,sp:=(w2j n s st t x).2,R:=(w2j n s st t x).3},s:= {t:=(w2g n s st t x).1,n:=(w2g n s st t x).2,xs:=(w2g n s st t x).3,c:=(w2g n s st t x).4,k:=(w2g n s st t x).5,a:=(w2g n s st t x).6,o:=(w2g n s st t x).7,w:=(w2g n s st t x).8,ok:=(w2g n s st t x).9} })))))
theorem LQ(t n:Int)(x:DOS)(st:STS)(s:MS)(K:DqO→Prop)(h:(rG t n x st s).run K):cT' 63 [.ptr 0 0,.ptr 2 0] [cE' [.ptr 1 0,.I x.code,.bool x.okk,.I x.val,.bool x.slow,.I x.sh,.I x.kd,.I x.ky,.I x.limit,.I 3,.O,.O,.O,.ptr 4 0,.O,.O,.O,.O,.O],stC 5 t n st,aY 3 s,aZ s,some (.abs (.fast t n x.ft) [1]),hO st] (cF 4 0 [10,11,12,13,14,15,16,17,18] [(.cell 1 4,.ints (some .i64))] (xP t n) K):=by
 exact cM' (E:=EH) (by kernel_rfl) h
abbrev w2p(n:Int)(s:MS)(t:Int)(x:DOS):=AnO.s (pO t n x.14 s)
abbrev w2w(n:Int)(s:MS)(st:STS)(t:Int)(x:DOS):=Prod.snd (rW t n st.1 (AnO.x (pO t n x.14 s)).1 x.8 st)
abbrev w31:=false=false→(5:Int)=(1:Int)∨(5:Int)=(5:Int)
def C4(t n:Int)(x:DOS)(st:STS)(s:MS):Tr DqO:=.pre True (.ite (w2v x) (.pre (lE' s.3∧(0:Int)≤s.4∧s.4≤(4611686018427387904:Int)) (.pre ((t=t∧n=n)∧t=t∧n=n∧(true=false→(4:Int)=(4:Int))∧lE' s.3∧lE' st.3) (.ret {d:=true,x:= {x with code:=1,okk:=false,val:=0,at':=4,hd:=eA,hp:=bU,en:=aU,ft:=bR,aw:=d9,fn:=aP,dr:=eZ,sw:=bN},st:= {me:=st.1,sp:=st.2,R:=st.3},s:= {s with c:=s.4+1,k:=1,a:=0,o:=aB s.3 0,w:=aB s.3 0,ok:=bS s.3 0} }))) (.pre (lE' s.3∧aAa t n x.14 s) (.ite (pO t n x.14 s).1 (.pre ((lE' st.3∧D4 t n st.1 (AnO.x (pO t n x.14 s)).1 x.8 st)∧True) (.pre ((t=t∧n=n)∧t=t∧n=n∧w31∧lE' (w2p n s t x).3∧lE' (w2w n s st t x).3) (.ret {d:=false,x:= {x with at':=5,hd:=eA,hp:=(rW t n st.1 (AnO.x (pO t n x.14 s)).1 x.8 st).1,en:=aU,ft:=bR,an:=d8,aw:=d9,fn:=aP,dr:=eZ,sw:=bN},st:= {me:=(w2w n s st t x).1,sp:=(w2w n s st t x).2,R:=(w2w n s st t x).3},s:= {t:=(w2p n s t x).1,n:=(w2p n s t x).2,xs:=(w2p n s t x).3,c:=(w2p n s t x).4,k:=(w2p n s t x).5,a:=(w2p n s t x).6,o:=(w2p n s t x).7,w:=(w2p n s t x).8,ok:=(w2p n s t x).9} }))) (.pre ((t=t∧n=n)∧t=t∧n=n∧(false=false→(4:Int)=(4:Int))∧lE' (w2p n s t x).3∧lE' st.3) (.ret {d:=false,x:= {x with at':=4,hd:=eA,hp:=bU,en:=aU,ft:=bR,an:=(pO t n x.14 s).2,aw:=d9,fn:=aP,dr:=eZ,sw:=bN},st:= {me:=st.1,sp:=st.2,R:=st.3},s:= {t:=(w2p n s t x).1,n:=(w2p n s t x).2,xs:=(w2p n s t x).3,c:=(w2p n s t x).4,k:=(w2p n s t x).5,a:=(w2p n s t x).6,o:=(w2p n s t x).7,w:=(w2p n s t x).8,ok:=(w2p n s t x).9} })))))
theorem LR(t n:Int)(x:DOS)(st:STS)(s:MS)(K:DqO→Prop)(h:(C4 t n x st s).run K):cT' 63 [.ptr 0 0,.ptr 2 0] [cE' [.ptr 1 0,.I x.code,.bool x.okk,.I x.val,.bool x.slow,.I x.sh,.I x.kd,.I x.ky,.I x.limit,.I 4,.O,.O,.O,.O,.ptr 4 0,.O,.O,.O,.O],stC 5 t n st,aY 3 s,aZ s,some (.abs (.announce t n x.an) []),hO st] (cF 4 0 [10,11,12,13,14,15,16,17,18] [(.cell 1 4,.ints (some .i64))] (xP t n) K):=by
 exact cM' (E:=EH) (by kernel_rfl) h
def C5(t n:Int)(x:DOS)(st:STS)(s:MS):Tr DqO:=.pre True (.ite (w2v x) (.pre (lE' s.3∧(0:Int)≤s.4∧s.4≤(4611686018427387904:Int)) (.pre ((t=t∧n=n)∧t=t∧n=n∧(true=false→(5:Int)=(1:Int)∨(5:Int)=(5:Int))∧lE' s.3∧lE' st.3) (.ret {d:=true,x:= {x with code:=1,okk:=false,val:=0,at':=5,hd:=eA,en:=aU,ft:=bR,an:=d8,aw:=d9,fn:=aP,dr:=eZ,sw:=bN},st:= {me:=st.1,sp:=st.2,R:=st.3},s:= {s with c:=s.4+1,k:=1,a:=0,o:=aB s.3 0,w:=aB s.3 0,ok:=bS s.3 0} }))) (.pre ((lE' s.3∧lE' st.3∧t=t∧n=n)∧Q9 t n x.11 st s) (.ite (dH t n x.11 st s).1 (.pre (PJ t n (w2k n s st t x).1∧True) (.pre ((t=t∧n=n)∧t=t∧n=n∧(false=false→(6:Int)=(6:Int))∧lE' (w2e n s st t x).3∧lE' (w2k n s st t x).3) (.ret {d:=false,x:= {x with at':=6,hd:=eA,hp:=bU,en:=aU,ft:=bR,an:=d8,aw:=aAe t n (w2k n s st t x).1,fn:=aP,dr:=eZ,sw:=bN},st:= {me:=(w2k n s st t x).1,sp:=(w2k n s st t x).2,R:=(w2k n s st t x).3},s:= {t:=(w2e n s st t x).1,n:=(w2e n s st t x).2,xs:=(w2e n s st t x).3,c:=(w2e n s st t x).4,k:=(w2e n s st t x).5,a:=(w2e n s st t x).6,o:=(w2e n s st t x).7,w:=(w2e n s st t x).8,ok:=(w2e n s st t x).9} }))) (.pre ((t=t∧n=n)∧t=t∧n=n∧w31∧lE' (w2e n s st t x).3∧lE' (w2k n s st t x).3) (.ret {d:=false,x:= {x with at':=5,hd:=eA,hp:=(dH t n x.11 st s).2,en:=aU,ft:=bR,an:=d8,aw:=d9,fn:=aP,dr:=eZ,sw:=bN},st:= {me:=(w2k n s st t x).1,sp:=(w2k n s st t x).2,R:=(w2k n s st t x).3},s:= {t:=(w2e n s st t x).1,n:=(w2e n s st t x).2,xs:=(w2e n s st t x).3,c:=(w2e n s st t x).4,k:=(w2e n s st t x).5,a:=(w2e n s st t x).6,o:=(w2e n s st t x).7,w:=(w2e n s st t x).8,ok:=(w2e n s st t x).9} })))))
theorem LS(t n:Int)(x:DOS)(st:STS)(s:MS)(K:DqO→Prop)(h:(C5 t n x st s).run K):cT' 63 [.ptr 0 0,.ptr 2 0] [cE' [.ptr 1 0,.I x.code,.bool x.okk,.I x.val,.bool x.slow,.I x.sh,.I x.kd,.I x.ky,.I x.limit,.I 5,.O,.ptr 4 0,.O,.O,.O,.O,.O,.O,.O],stC 5 t n st,aY 3 s,aZ s,some (.abs (.help t n x.hp) [1]),hO st] (cF 4 0 [10,11,12,13,14,15,16,17,18] [(.cell 1 4,.ints (some .i64))] (xP t n) K):=by
 exact cM' (E:=EH) (by kernel_rfl) h
abbrev w2h(n:Int)(s:MS)(t:Int)(x:DOS):=AwO.s (gR t n x.15 s)
abbrev w2f(n:Int)(s:MS)(st:STS)(t:Int)(x:DOS):Tr DqO:=.ret {d:=false,x:= {x with code:=(AwO.x (gR t n x.15 s)).1,okk:=(AwO.x (gR t n x.15 s)).2,val:=(AwO.x (gR t n x.15 s)).3,at':=8,hd:=eA,hp:=bU,en:=aU,ft:=bR,an:=d8,aw:=d9,fn:=aP,dr:=nH t n st.1,sw:=bN},st:= {me:=st.1,sp:=st.2,R:=st.3},s:= {t:=(w2h n s t x).1,n:=(w2h n s t x).2,xs:=(w2h n s t x).3,c:=(w2h n s t x).4,k:=(w2h n s t x).5,a:=(w2h n s t x).6,o:=(w2h n s t x).7,w:=(w2h n s t x).8,ok:=(w2h n s t x).9} }
def C6(t n:Int)(x:DOS)(st:STS)(s:MS):Tr DqO:=.pre True (.ite (w2v x) (.pre (lE' s.3∧(0:Int)≤s.4∧s.4≤(4611686018427387904:Int)) (.pre ((t=t∧n=n)∧t=t∧n=n∧(true=false→(6:Int)=(6:Int))∧lE' s.3∧lE' st.3) (.ret {d:=true,x:= {x with code:=1,okk:=false,val:=0,at':=6,hd:=eA,hp:=bU,en:=aU,ft:=bR,an:=d8,fn:=aP,dr:=eZ,sw:=bN},st:= {me:=st.1,sp:=st.2,R:=st.3},s:= {s with c:=s.4+1,k:=1,a:=0,o:=aB s.3 0,w:=aB s.3 0,ok:=bS s.3 0} }))) (.pre (lE' s.3∧aAi t n x.15 s) (.ite (gR t n x.15 s).1 (.ite (!(AwO.x (gR t n x.15 s)).2) (.pre (uG t n st.1∧True) (.pre ((t=t∧n=n)∧t=t∧n=n∧w2n∧lE' (w2h n s t x).3∧lE' st.3) (w2f n s st t x))) (.pre True (.ite (!eU x.5 x.6) (.pre (uG t n st.1∧True) (.pre ((t=t∧n=n)∧t=t∧n=n∧w2n∧lE' (w2h n s t x).3∧lE' st.3) (w2f n s st t x))) (.pre True (.pre (pR t n st.1 (b9 x.5 x.7) (bW x.5 x.6 x.7) x.8∧True) (.pre ((t=t∧n=n)∧t=t∧n=n∧w2z∧lE' (w2h n s t x).3∧lE' st.3) (.ret {d:=false,x:= {x with code:=(AwO.x (gR t n x.15 s)).1,okk:=(AwO.x (gR t n x.15 s)).2,val:=(AwO.x (gR t n x.15 s)).3,at':=7,hd:=eA,hp:=bU,en:=aU,ft:=bR,an:=d8,aw:=d9,fn:=lW t n st.1 (b9 x.5 x.7) (bW x.5 x.6 x.7) x.8,dr:=eZ,sw:=bN},st:= {me:=st.1,sp:=st.2,R:=st.3},s:= {t:=(w2h n s t x).1,n:=(w2h n s t x).2,xs:=(w2h n s t x).3,c:=(w2h n s t x).4,k:=(w2h n s t x).5,a:=(w2h n s t x).6,o:=(w2h n s t x).7,w:=(w2h n s t x).8,ok:=(w2h n s t x).9} }))))))) (.pre ((t=t∧n=n)∧t=t∧n=n∧(false=false→(6:Int)=(6:Int))∧lE' (w2h n s t x).3∧lE' st.3) (.ret {d:=false,x:= {x with at':=6,hd:=eA,hp:=bU,en:=aU,ft:=bR,an:=d8,aw:=(gR t n x.15 s).2,fn:=aP,dr:=eZ,sw:=bN},st:= {me:=st.1,sp:=st.2,R:=st.3},s:= {t:=(w2h n s t x).1,n:=(w2h n s t x).2,xs:=(w2h n s t x).3,c:=(w2h n s t x).4,k:=(w2h n s t x).5,a:=(w2h n s t x).6,o:=(w2h n s t x).7,w:=(w2h n s t x).8,ok:=(w2h n s t x).9} })))))
theorem LT(t n:Int)(x:DOS)(st:STS)(s:MS)(K:DqO→Prop)(h:(C6 t n x st s).run K):cT' 63 [.ptr 0 0,.ptr 2 0] [cE' [.ptr 1 0,.I x.code,.bool x.okk,.I x.val,.bool x.slow,.I x.sh,.I x.kd,.I x.ky,.I x.limit,.I 6,.O,.O,.O,.O,.O,.ptr 4 0,.O,.O,.O],stC 5 t n st,aY 3 s,aZ s,some (.abs (.answer t n x.aw) []),hO st] (cF 4 0 [10,11,12,13,14,15,16,17,18] [(.cell 1 4,.ints (some .i64))] (xP t n) K):=by
 exact cM' (E:=EH) (by kernel_rfl) h
abbrev w2l(n:Int)(s:MS)(t:Int)(x:DOS):=FnO.s (fnF t n x.16 s)
def rH(t n:Int)(x:DOS)(st:STS)(s:MS):Tr DqO:=.pre True (.ite (w2v x) (.pre (lE' s.3∧(0:Int)≤s.4∧s.4≤(4611686018427387904:Int)) (.pre ((t=t∧n=n)∧t=t∧n=n∧(true=false→(7:Int)=(7:Int))∧lE' s.3∧lE' st.3) (.ret {d:=true,x:= {x with code:=1,okk:=false,val:=0,at':=7,hd:=eA,hp:=bU,en:=aU,ft:=bR,an:=d8,aw:=d9,dr:=eZ,sw:=bN},st:= {me:=st.1,sp:=st.2,R:=st.3},s:= {s with c:=s.4+1,k:=1,a:=0,o:=aB s.3 0,w:=aB s.3 0,ok:=bS s.3 0} }))) (.pre (lE' s.3∧MG t n x.16 s) (.ite (fnF t n x.16 s).1 (.pre ((lE' st.3∧lE' (FnO.x (fnF t n x.16 s)).6∧st.3.length+List.length (FnO.x (fnF t n x.16 s)).6≤(4294967296:Nat))∧True) (.pre (uG t n st.1∧True) (.pre ((t=t∧n=n)∧t=t∧n=n∧w2n∧lE' (w2l n s t x).3∧st.3.length+List.length (FnO.x (fnF t n x.16 s)).6=List.length (st.3++(FnO.x (fnF t n x.16 s)).6)) (.ret {d:=false,x:= {x with at':=8,hd:=eA,hp:=bU,en:=aU,ft:=bR,an:=d8,aw:=d9,fn:=aP,dr:=nH t n st.1,sw:=bN},st:= {me:=st.1,sp:=st.2,R:=st.3++(FnO.x (fnF t n x.16 s)).6},s:= {t:=(w2l n s t x).1,n:=(w2l n s t x).2,xs:=(w2l n s t x).3,c:=(w2l n s t x).4,k:=(w2l n s t x).5,a:=(w2l n s t x).6,o:=(w2l n s t x).7,w:=(w2l n s t x).8,ok:=(w2l n s t x).9} })))) (.pre ((t=t∧n=n)∧t=t∧n=n∧w2z∧lE' (w2l n s t x).3∧lE' st.3) (.ret {d:=false,x:= {x with at':=7,hd:=eA,hp:=bU,en:=aU,ft:=bR,an:=d8,aw:=d9,fn:=(fnF t n x.16 s).2,dr:=eZ,sw:=bN},st:= {me:=st.1,sp:=st.2,R:=st.3},s:= {t:=(w2l n s t x).1,n:=(w2l n s t x).2,xs:=(w2l n s t x).3,c:=(w2l n s t x).4,k:=(w2l n s t x).5,a:=(w2l n s t x).6,o:=(w2l n s t x).7,w:=(w2l n s t x).8,ok:=(w2l n s t x).9} })))))
theorem LU(t n:Int)(x:DOS)(st:STS)(s:MS)(K:DqO→Prop)(h:(rH t n x st s).run K):cT' 63 [.ptr 0 0,.ptr 2 0] [cE' [.ptr 1 0,.I x.code,.bool x.okk,.I x.val,.bool x.slow,.I x.sh,.I x.kd,.I x.ky,.I x.limit,.I 7,.O,.O,.O,.O,.O,.O,.ptr 4 0,.O,.O],stC 5 t n st,aY 3 s,aZ s,some (.abs (.find t n x.fn) []),hO st] (cF 4 0 [10,11,12,13,14,15,16,17,18] [(.cell 1 4,.ints (some .i64))] (xP t n) K):=by
 exact cM' (E:=EH) (by kernel_rfl) h
abbrev w2m(n:Int)(s:MS)(t:Int)(x:DOS):=DrO.s (drF t n x.17 s)
def rJ(t n:Int)(x:DOS)(st:STS)(s:MS):Tr DqO:=.pre True (.ite (w2v x) (.pre (lE' s.3∧(0:Int)≤s.4∧s.4≤(4611686018427387904:Int)) (.pre ((t=t∧n=n)∧t=t∧n=n∧(true=false→(8:Int)=(8:Int))∧lE' s.3∧lE' st.3) (.ret {d:=true,x:= {x with code:=1,okk:=false,val:=0,at':=8,hd:=eA,hp:=bU,en:=aU,ft:=bR,an:=d8,aw:=d9,fn:=aP,sw:=bN},st:= {me:=st.1,sp:=st.2,R:=st.3},s:= {s with c:=s.4+1,k:=1,a:=0,o:=aB s.3 0,w:=aB s.3 0,ok:=bS s.3 0} }))) (.pre (lE' s.3∧aAP t n x.17 s) (.ite (drF t n x.17 s).1 (.pre (lE' st.3∧(t=t∧n=n∧lE' st.3)∧True) (.pre ((0:Int)≤t∧t≤(100000:Int)) (.pre ((t=t∧n=n)∧t=t∧n=n∧((!ile (4*t) (↑st.3.length:Int))=false→(9:Int)=(9:Int))∧lE' (w2m n s t x).3∧lE' st.3) (.ret {d:=!ile (4*t) (↑st.3.length:Int),x:= {x with at':=9,hd:=eA,hp:=bU,en:=aU,ft:=bR,an:=d8,aw:=d9,fn:=aP,dr:=eZ,sw:=bN},st:= {me:=st.1,sp:=st.2,R:=st.3},s:= {t:=(w2m n s t x).1,n:=(w2m n s t x).2,xs:=(w2m n s t x).3,c:=(w2m n s t x).4,k:=(w2m n s t x).5,a:=(w2m n s t x).6,o:=(w2m n s t x).7,w:=(w2m n s t x).8,ok:=(w2m n s t x).9} })))) (.pre ((t=t∧n=n)∧t=t∧n=n∧w2n∧lE' (w2m n s t x).3∧lE' st.3) (.ret {d:=false,x:= {x with at':=8,hd:=eA,hp:=bU,en:=aU,ft:=bR,an:=d8,aw:=d9,fn:=aP,dr:=(drF t n x.17 s).2,sw:=bN},st:= {me:=st.1,sp:=st.2,R:=st.3},s:= {t:=(w2m n s t x).1,n:=(w2m n s t x).2,xs:=(w2m n s t x).3,c:=(w2m n s t x).4,k:=(w2m n s t x).5,a:=(w2m n s t x).6,o:=(w2m n s t x).7,w:=(w2m n s t x).8,ok:=(w2m n s t x).9} })))))
theorem LV(t n:Int)(x:DOS)(st:STS)(s:MS)(K:DqO→Prop)(h:(rJ t n x st s).run K):cT' 63 [.ptr 0 0,.ptr 2 0] [cE' [.ptr 1 0,.I x.code,.bool x.okk,.I x.val,.bool x.slow,.I x.sh,.I x.kd,.I x.ky,.I x.limit,.I 8,.O,.O,.O,.O,.O,.O,.O,.ptr 4 0,.O],stC 5 t n st,aY 3 s,aZ s,some (.abs (.drop t n x.dr) []),hO st] (cF 4 0 [10,11,12,13,14,15,16,17,18] [(.cell 1 4,.ints (some .i64))] (xP t n) K):=by
 exact cM' (E:=EH) (by kernel_rfl) h
abbrev w2r(n:Int)(s:MS)(st:STS)(t:Int)(x:DOS):=SO.s (swF t n x.18 st s)
def rL(t n:Int)(x:DOS)(st:STS)(s:MS):Tr DqO:=.pre True (.ite (w2v x) (.pre (lE' s.3∧(0:Int)≤s.4∧s.4≤(4611686018427387904:Int)) (.pre ((t=t∧n=n)∧t=t∧n=n∧(true=false→(9:Int)=(9:Int))∧lE' s.3∧lE' st.3) (.ret {d:=true,x:= {x with code:=1,okk:=false,val:=0,at':=9,hd:=eA,hp:=bU,en:=aU,ft:=bR,an:=d8,aw:=d9,fn:=aP,dr:=eZ},st:= {me:=st.1,sp:=st.2,R:=st.3},s:= {s with c:=s.4+1,k:=1,a:=0,o:=aB s.3 0,w:=aB s.3 0,ok:=bS s.3 0} }))) (.pre ((lE' s.3∧lE' st.3∧t=t∧n=n)∧sH t n (DOS.sw x) {me:=st.1,sp:=st.2,R:=st.3} s) (.ite (swF t n x.18 st s).1 (.pre ((t=t∧n=n)∧(true=false→(9:Int)≠(0:Int)∧(9:Int)≠(1:Int)∧(9:Int)≠(5:Int)∧(9:Int)≠(2:Int)∧(9:Int)≠(3:Int)∧(9:Int)≠(4:Int)∧(9:Int)≠(6:Int)∧(9:Int)≠(7:Int)∧(9:Int)≠(8:Int)∧(9:Int)≠(9:Int))∧lE' (w2r n s st t x).3∧lE' (SO.st (swF t n x.18 st s)).3) (.ret {d:=true,x:= {x with at':=9,hd:=eA,hp:=bU,en:=aU,ft:=bR,an:=d8,aw:=d9,fn:=aP,dr:=eZ,sw:=bN},st:= {me:=(SO.st (swF t n x.18 st s)).1,sp:=(SO.st (swF t n x.18 st s)).2,R:=(SO.st (swF t n x.18 st s)).3},s:= {t:=(w2r n s st t x).1,n:=(w2r n s st t x).2,xs:=(w2r n s st t x).3,c:=(w2r n s st t x).4,k:=(w2r n s st t x).5,a:=(w2r n s st t x).6,o:=(w2r n s st t x).7,w:=(w2r n s st t x).8,ok:=(w2r n s st t x).9} })) (.pre ((t=t∧n=n)∧t=t∧n=n∧(false=false→(9:Int)=(9:Int))∧lE' (w2r n s st t x).3∧lE' (SO.st (swF t n x.18 st s)).3) (.ret {d:=false,x:= {x with at':=9,hd:=eA,hp:=bU,en:=aU,ft:=bR,an:=d8,aw:=d9,fn:=aP,dr:=eZ,sw:=(swF t n x.18 st s).2},st:= {me:=(SO.st (swF t n x.18 st s)).1,sp:=(SO.st (swF t n x.18 st s)).2,R:=(SO.st (swF t n x.18 st s)).3},s:= {t:=(w2r n s st t x).1,n:=(w2r n s st t x).2,xs:=(w2r n s st t x).3,c:=(w2r n s st t x).4,k:=(w2r n s st t x).5,a:=(w2r n s st t x).6,o:=(w2r n s st t x).7,w:=(w2r n s st t x).8,ok:=(w2r n s st t x).9} })))))
theorem LW(t n:Int)(x:DOS)(st:STS)(s:MS)(K:DqO→Prop)(h:(rL t n x st s).run K):cT' 63 [.ptr 0 0,.ptr 2 0] [cE' [.ptr 1 0,.I x.code,.bool x.okk,.I x.val,.bool x.slow,.I x.sh,.I x.kd,.I x.ky,.I x.limit,.I 9,.O,.O,.O,.O,.O,.O,.O,.O,.ptr 4 0],stC 5 t n st,aY 3 s,aZ s,some (.abs (.sweep t n x.sw) [1]),hO st] (cF 4 0 [10,11,12,13,14,15,16,17,18] [(.cell 1 4,.ints (some .i64))] (xP t n) K):=by
 exact cM' (E:=EH) (by kernel_rfl) h
def B8(t n:Int)(x:DOS)(st:STS)(s:MS):Tr DqO:=
 bif ieq x.at' 0 then rE t n x st s else
 bif ieq x.at' 1 then C3 t n x st s else
 bif ieq x.at' 2 then rF t n x st s else
 bif ieq x.at' 3 then rG t n x st s else
 bif ieq x.at' 4 then C4 t n x st s else
 bif ieq x.at' 5 then C5 t n x st s else
 bif ieq x.at' 6 then C6 t n x st s else
 bif ieq x.at' 7 then rH t n x st s else
 bif ieq x.at' 8 then rJ t n x st s else
 bif ieq x.at' 9 then rL t n x st s else .pre False (.ret default)
def dqF(t n:Int)(x:DOS)(st:STS)(s:MS):DqO:=(B8 t n x st s).val
def dqOk(t n:Int)(x:DOS)(st:STS)(s:MS):Prop:=(B8 t n x st s).ok
theorem JB(t n:Int)(x:DOS)(st:STS)(s:MS)(K:AVal→aD Ob→Prop)(h:(B8 t n x st s).run (fun y=>(DqO.fin t n y).run K)):cT' 63 [.ptr 0 0,.ptr 2 0] (u5 t n x st s) K:=by
 unfold B8 at h
 by_cases e:x.at'=0
 ·rw [e]at h;have h:(rE t n x st s).run _:=h;refine aFR (root:=0) (pos:=[10,11,12,13,14,15,16,17,18]) (cs:=[(.cell 1 4,.ints (some .i64))]) (parse:=xP t n) (fin:=DqO.fin t n) kY ((bF.unpack (.doer t n x) 0 1 (lS t n x) [1] rfl (congrArg (Prod.mk 1) (AP e)) (by kernel_rfl) rfl).trans (bF.unpack (.store t n st) 1 0 (dJ t n st) [] rfl rfl rfl rfl)) ?_
  have q:=LN t n x st s _ h;rw [←e]at q;exact q
 rw [b8 e]at h
 by_cases e:x.at'=1
 ·rw [e]at h;have h:(C3 t n x st s).run _:=h;refine aFR (root:=0) (pos:=[10,11,12,13,14,15,16,17,18]) (cs:=[(.cell 1 4,.ints (some .i64))]) (parse:=xP t n) (fin:=DqO.fin t n) kY ((bF.unpack (.doer t n x) 0 1 (fR t n x) [1] rfl (congrArg (Prod.mk 1) (IZ e)) (by kernel_rfl) rfl).trans (bF.unpack (.store t n st) 1 0 (dJ t n st) [] rfl rfl rfl rfl)) ?_
  have q:=LO t n x st s _ h;rw [←e]at q;exact q
 rw [b8 e]at h
 by_cases e:x.at'=2
 ·rw [e]at h;have h:(rF t n x st s).run _:=h;refine aFR (root:=0) (pos:=[10,11,12,13,14,15,16,17,18]) (cs:=[(.cell 1 4,.ints (some .i64))]) (parse:=xP t n) (fin:=DqO.fin t n) kY ((bF.unpack (.doer t n x) 0 1 (nU t n x) [1] rfl (congrArg (Prod.mk 1) (I0 e)) (by kernel_rfl) rfl).trans (bF.unpack (.store t n st) 1 0 (dJ t n st) [] rfl rfl rfl rfl)) ?_
  have q:=LP t n x st s _ h;rw [←e]at q;exact q
 rw [b8 e]at h
 by_cases e:x.at'=3
 ·rw [e]at h;have h:(rG t n x st s).run _:=h;refine aFR (root:=0) (pos:=[10,11,12,13,14,15,16,17,18]) (cs:=[(.cell 1 4,.ints (some .i64))]) (parse:=xP t n) (fin:=DqO.fin t n) kY ((bF.unpack (.doer t n x) 0 1 (nW t n x) [1] rfl (congrArg (Prod.mk 1) (I1 e)) (by kernel_rfl) rfl).trans (bF.unpack (.store t n st) 1 0 (dJ t n st) [] rfl rfl rfl rfl)) ?_
  have q:=LQ t n x st s _ h;rw [←e]at q;exact q
 rw [b8 e]at h
 by_cases e:x.at'=4
 ·rw [e]at h;have h:(C4 t n x st s).run _:=h;refine aFR (root:=0) (pos:=[10,11,12,13,14,15,16,17,18]) (cs:=[(.cell 1 4,.ints (some .i64))]) (parse:=xP t n) (fin:=DqO.fin t n) kY ((bF.unpack (.doer t n x) 0 1 (nR t n x) [1] rfl (congrArg (Prod.mk 1) (I2 e)) (by kernel_rfl) rfl).trans (bF.unpack (.store t n st) 1 0 (dJ t n st) [] rfl rfl rfl rfl)) ?_
  have q:=LR t n x st s _ h;rw [←e]at q;exact q
 rw [b8 e]at h
 by_cases e:x.at'=5
 ·rw [e]at h;have h:(C5 t n x st s).run _:=h;refine aFR (root:=0) (pos:=[10,11,12,13,14,15,16,17,18]) (cs:=[(.cell 1 4,.ints (some .i64))]) (parse:=xP t n) (fin:=DqO.fin t n) kY ((bF.unpack (.doer t n x) 0 1 (fR t n x) [1] rfl (congrArg (Prod.mk 1) (I3 e)) (by kernel_rfl) rfl).trans (bF.unpack (.store t n st) 1 0 (dJ t n st) [] rfl rfl rfl rfl)) ?_
  have q:=LS t n x st s _ h;rw [←e]at q;exact q
 rw [b8 e]at h
 by_cases e:x.at'=6
 ·rw [e]at h;have h:(C6 t n x st s).run _:=h;refine aFR (root:=0) (pos:=[10,11,12,13,14,15,16,17,18]) (cs:=[(.cell 1 4,.ints (some .i64))]) (parse:=xP t n) (fin:=DqO.fin t n) kY ((bF.unpack (.doer t n x) 0 1 (nS t n x) [1] rfl (congrArg (Prod.mk 1) (I4 e)) (by kernel_rfl) rfl).trans (bF.unpack (.store t n st) 1 0 (dJ t n st) [] rfl rfl rfl rfl)) ?_
  have q:=LT t n x st s _ h;rw [←e]at q;exact q
 rw [b8 e]at h
 by_cases e:x.at'=7
 ·rw [e]at h;have h:(rH t n x st s).run _:=h;refine aFR (root:=0) (pos:=[10,11,12,13,14,15,16,17,18]) (cs:=[(.cell 1 4,.ints (some .i64))]) (parse:=xP t n) (fin:=DqO.fin t n) kY ((bF.unpack (.doer t n x) 0 1 (nV t n x) [1] rfl (congrArg (Prod.mk 1) (I5 e)) (by kernel_rfl) rfl).trans (bF.unpack (.store t n st) 1 0 (dJ t n st) [] rfl rfl rfl rfl)) ?_
  have q:=LU t n x st s _ h;rw [←e]at q;exact q
 rw [b8 e]at h
 by_cases e:x.at'=8
 ·rw [e]at h;have h:(rJ t n x st s).run _:=h;refine aFR (root:=0) (pos:=[10,11,12,13,14,15,16,17,18]) (cs:=[(.cell 1 4,.ints (some .i64))]) (parse:=xP t n) (fin:=DqO.fin t n) kY ((bF.unpack (.doer t n x) 0 1 (nT t n x) [1] rfl (congrArg (Prod.mk 1) (I6 e)) (by kernel_rfl) rfl).trans (bF.unpack (.store t n st) 1 0 (dJ t n st) [] rfl rfl rfl rfl)) ?_
  have q:=LV t n x st s _ h;rw [←e]at q;exact q
 rw [b8 e]at h
 by_cases e:x.at'=9
 ·rw [e]at h;have h:(rL t n x st s).run _:=h;refine aFR (root:=0) (pos:=[10,11,12,13,14,15,16,17,18]) (cs:=[(.cell 1 4,.ints (some .i64))]) (parse:=xP t n) (fin:=DqO.fin t n) kY ((bF.unpack (.doer t n x) 0 1 (nX t n x) [1] rfl (congrArg (Prod.mk 1) (I7 e)) (by kernel_rfl) rfl).trans (bF.unpack (.store t n st) 1 0 (dJ t n st) [] rfl rfl rfl rfl)) ?_
  have q:=LW t n x st s _ h;rw [←e]at q;exact q
 rw [b8 e]at h;exact h.1.elim
noncomputable def dqSA:aG Ob:=fun args h=>match args,h with
 | [.ptr 0 0,.ptr 2 0],[some (.abs (.doer t n x) [1]),some (.abs (.store t2 n2 st) []),e3,e4]=>(match cU 3 [e3,e4]with
   | some (l,s)=>some (.pre ((l=s.xs.length∧t2=t∧n2=n)∧dqOk t n x st s) (DqO.fin t n (dqF t n x st s)))
   | none=>none)
 | _,_=>none
theorem aAJ:sT' 63 dqSA:=by
 intro args h o ho K hK;unfold dqSA at ho;split at ho
 case h_2=>cases ho
 split at ho<;>cases ho
 rename_i hm;obtain⟨⟨⟨hl,rfl,rfl⟩,ok⟩,hK⟩:=hK;have hh:=bB hm hl;cases hh;exact JB _ _ _ _ _ K (aFW ok hK)
def DqO.finB(t n:Int)(y:DqO):Out Ob:=.ite y.d (.ret (.bool true) ([cE' [.ptr 1 0,.I y.x.code,.bool y.x.okk,.I y.x.val,.bool y.x.slow,.I y.x.sh,.I y.x.kd,.I y.x.ky,.I y.x.limit,.I y.x.at',.O,.O,.O,.O,.O,.O,.O,.O,.O],stC 5 t n y.st,none,aY 4 y.s,aZ y.s,hO y.st])) (.ret (.bool false) [some (.abs (.doer t n y.x) [1]),stC 5 t n y.st,none,aY 4 y.s,aZ y.s,hO y.st])
noncomputable def dqSB:aG Ob:=fun args h=>match args,h with
 | [.ptr 0 0,.ptr 3 0],[some (.abs (.doer t n x) [1]),e1,e2,e3,e4]=>(match lL 2 [e1,e2],cU 4 [e3,e4]with
   | some (l2,t2,n2,st),some (l,s)=>some (.pre ((l=s.xs.length∧l2=st.R.length∧t2=t∧n2=n)∧dqOk t n x st s) (DqO.finB t n (dqF t n x st s)))
   | _,_=>none)
 | _,_=>none
theorem aAK:sT' 63 dqSB:=by
 intro args h o ho K hK;unfold dqSB at ho;split at ho
 case h_2=>cases ho
 split at ho<;>cases ho
 rename_i hs hm;obtain⟨⟨⟨hl,hl2,rfl,rfl⟩,ok⟩,hK⟩:=hK;have hh:=bB hm hl;cases hh;have hh:=cH hs hl2;cases hh;exact jP (fun ι hι=>by simp [aM.ren,aFY,AVal.ren,hι]) (fun ι hι=>by simp [aM.ren,hι]) (fun K hK=>JB _ _ _ _ _ K (aFW ok hK)) K hK
noncomputable def dqS:aG Ob:=aG.or dqSA dqSB
theorem aDy:sT' 63 dqS:=aF6 aAJ aAK
def aAy(t n:Int)(v:AVal)(g:aD Ob):Option (Prop×(DOS×STS)):=match v,g with
 | .ptr 2 0,[e1,e2,some (.cells [.ptr 0 0,.int .i64 code,.bool okk,.int .i64 val,.bool slow,.int .i64 sh,.int .i64 kd,.int .i64 ky,.int .i64 limit,.int .i64 at',.ptr 3 0,.O,.O,.O,.O,.O,.O,.O,.O]),some (.abs (.head t' n' sub) [])]=>(match lL 1 [e1,e2]with
   | some (l2,t2,n2,st)=>some ((t2=t∧n2=n∧l2=st.R.length)∧t'=t∧n'=n∧at'=0,⟨(⟨code,okk,val,slow,sh,kd,ky,limit,at',sub,bU,aU,bR,⟨0,0,0,0,false,0⟩,⟨0,false,0,0⟩,aP,⟨0,0⟩,bN⟩:DOS),st⟩)
   | none=>none)
 | _,_=>none
abbrev U1(t n:Int)(y:(DOS×STS)):aD Ob:=[stC 1 t n y.2,hO y.2,some (.abs (.doer t n y.1) [0])]
theorem U2{t n:Int} :cE (obI tbl) 2 (aAy t n) (fun y=>.ret (.ptr 2 0) (U1 t n y)):=by
 intro v g p x hp hq K hK;unfold aAy at hp;split at hp
 case h_2=>cases hp
 rename_i e1 e2 code okk val slow sh kd ky limit at' t' n' sub;split at hp
 case h_2=>cases hp
 rename_i l2 t2 n2 st hs;simp only [sI',pI']at hp;obtain⟨rfl,rfl⟩:=hp;obtain⟨⟨rfl,rfl,hl2⟩,rfl,rfl,hat⟩:=hq;have hh:=cH hs hl2;cases hh;exact let X0:DOS:=⟨code,okk,val,slow,sh,kd,ky,limit,at',sub,bU,aU,bR,⟨0,0,0,0,false,0⟩,⟨0,false,0,0⟩,aP,⟨0,0⟩,bN⟩;⟨⟨_,_,aF.pack (U1 t' n' (X0,st)) (.doer t' n' X0) 2 1 (lS t' n' X0) [0] (by kernel_rfl) rfl (congrArg (Prod.mk 1) (AP hat)) (by kernel_rfl),hK⟩⟩
def P5(t n:Int)(sh kd ky lim:Int)(st:STS):Tr (DOS×STS):=.pre (Q3 t n∧True) (.pre ((t=t∧n=n∧lE' st.3)∧t=t∧n=n∧(0:Int)=(0:Int)) (.ret ({code:=0,okk:=false,val:=0,slow:=false,sh:=sh,kd:=kd,ky:=ky,limit:=lim,at':=0,hd:=WZ t n,hp:=bU,en:=aU,ft:=bR,an:=d8,aw:=d9,fn:=aP,dr:=eZ,sw:=bN},{me:=st.1,sp:=st.2,R:=st.3})))
def dqNF(t n:Int)(sh kd ky lim:Int)(st:STS):(DOS×STS):=(P5 t n sh kd ky lim st).val
def uF(t n:Int)(sh kd ky lim:Int)(st:STS):Prop:=(P5 t n sh kd ky lim st).ok
def dqNS:aG Ob:=fun args h=>match args,h with
 | [.ptr 0 0,.agg [.int .i64 sh,.int .i64 kd,.int .i64 ky],.int .i64 lim],[e1,e2]=>(match lL 1 [e1,e2]with
   | some (l2,t,n,st)=>some (.pre (l2=st.R.length∧uF t n sh kd ky lim st) (.ret (.ptr 2 0) (U1 t n (dqNF t n sh kd ky lim st))))
   | none=>none)
 | _,_=>none
theorem G5:sT' 56 dqNS:=by
 intro args h o ho K hK;unfold dqNS at ho;split at ho
 case h_2=>cases ho
 rename_i sh kd ky lim e1 e2;split at ho<;>cases ho
 rename_i l2 t n st hs;obtain⟨⟨hl2,ok⟩,hK⟩:=hK;have hh:=cH hs hl2;cases hh;refine aF0 (root:=2) (pos:=[10,11,12,13,14,15,16,17,18]) (cs:=[]) (parse:=aAy t n) U2 ?_;exact cM' (E:=EH) (q:=(P5 t n sh kd ky lim st).run (fun y=>(Out.ret (.ptr 2 0) (U1 t n y)).run K)) (by kernel_rfl) (aFW ok hK)
noncomputable def ED:=((EH.addS 63 dqS aDy).addS 56 dqNS G5)
instance:Inhabited MS:=⟨⟨0,0,[],0,0,0,0,0,false⟩⟩
instance:Inhabited STS:=⟨⟨0,0,[]⟩⟩
noncomputable def ERun:=ED
noncomputable def EZ:=(ERun)
def fN(sh h k:Int):Bool:=bif ieq sh 2 then !ieq (Int.tmod k 4) h else ilt 0 h
def iY(sh h n:Int):List Int→Int→Int→Int→Int→MS→MS
 | [],i,a,ky,vr,s=>s.stored a (bY ky 0 false 0 vr)
 | k::ks,i,a,ky,vr,s=>bif fN sh h k then iY sh h n ks (i+1) a ky vr s else iY sh h n ks (i+1) (i+1) k 3 ((s.stored a (bY ky (i+1) false 0 vr)).stored (n+4+(i+1)) 1)
def qD(sh n:Int)(xs:List Int):Nat→Int→MS→MS
 | 0,h,s=>s
 | f+1,h,s=>qD sh n xs f (h+1) (iY sh h n xs 0 (n+1+h) 0 0 s)
def memN(t n:Int):MS:= {t:=t,n:=n,xs:=List.replicate (2*n+5*t+6).toNat 0,c:=0,k:=0,a:=0,o:=0,w:=0,ok:=false}
structure JN (sh t n:Int) (xs:List Int) (x:Nat×MS):Prop where
 h4:x.1≤4
 c:0≤x.2.c∧x.2.c≤1000*x.1
 eq:qD sh n xs 4 0 (memN t n)=qD sh n xs (4 - x.1) x.1 x.2
theorem QJ(sh n:Int)(xs:List Int)(h:Nat)(hh:h<4)(s:MS):qD sh n xs (4 - h) h s=qD sh n xs (3 - (h:Int)).toNat ((h:Int)+1) (iY sh h n xs 0 (n+1+h) 0 0 s):=by
 have:4 - h=(3 - (h:Int)).toNat +1:=by omega
 rw [this];rfl
def eB(sh t n:Int)(xs:List Int):MS:=qD sh n xs 4 0 (memN t n)
structure HE (t m:Int) (xs:List Int):Prop where
 hm:0≤m∧m≤100
 hl:xs.length≤100
 hr:mZ t (xs.length+m)=true
 hk: ∀k∈xs,0≤k∧k<1024
def O1(sh t m:Int):Hint Ob:= {X:=Nat×MS,st:=fun x=>([.I sh,.O,.O,.raw (.slice none 0 0),.O,.O,.O,.O,.O,.ptr 0 0,.ptr 1 0,.ptr 2 0,.O,.I (x.1:Int)]++List.replicate 79 .O,[cE' [.I 0,.I 0],cE' [.I t,.I (IntKind.wrap .i64 (((0:Nat):Int)+m))],aY 3 x.2,aZ x.2]),ok:=JN sh t (IntKind.wrap .i64 (((0:Nat):Int)+m)) [],mu:=fun x=>4 - x.1,keep:=[0,3,9,10,11,13] }
def aBa(sh t m:Int):FuncId→Nat→Option (p7 Ob):=fun _ k=>if k=6 then some (.states (O1 sh t m))else some (.rounds 2)
def u7(sh t m:Int)(K:AVal→aD Ob→Prop):Prop:=True∧bif !mZ t (W ((↑0:Int)+m))then K (.tup [.N,.agg [.I t,.I (W ((↑0:Int)+m))]]) []else(((0:Int)≤t∧t≤(100000:Int))∧(0:Int)≤W ((↑0:Int)+m)∧W ((↑0:Int)+m)≤(100000:Int))∧bif ilt (2*W ((↑0:Int)+m)+5*t+6) (↑0:Int)then K (.tup [.N,.agg [.I t,.I (W ((↑0:Int)+m))]]) []else((((0:Int)≤t∧t≤(100000:Int))∧(0:Int)≤W ((↑0:Int)+m)∧W ((↑0:Int)+m)≤(100000:Int))∧True)∧((0:Int)≤(2:Int)*W ((↑0:Int)+m)+5*t+6∧2*W ((↑0:Int)+m)+5*t+(6:Int)=(2:Int)*W ((↑0:Int)+m)+5*t+6∧2*W ((↑0:Int)+m)+5*t+(6:Int)≤(4294967296:Int))∧okSt (O1 sh t m) (Hint.ok (O1 sh t m)) (.I sh::.O::.O::.raw (Value.slice none 0 0)::.O::.O::.O::.O::.O::.ptr 0 0::.ptr 1 0::.ptr 2 0::.O::.I 0::(tO' 79 [])) [cE' [.I 0,.I 0],cE' [.I t,.I (W ((↑0:Int)+m))],cE' [.I t,.I (W ((↑0:Int)+m)),.slice 3 0 (Int.toNat (2*W ((↑0:Int)+m)+5*t+6)) 1,.I 0,.I 0,.I 0,.int .u64 0,.int .u64 0,.bool false],some (.ints (some .u64) (List.replicate (Int.toNat (2*W ((↑0:Int)+m)+5*t+6)) 0))]∧ ∀(x:(Nat×MS)),JN sh t (W ((↑0:Int)+m)) [] x→bif ilt (↑x.1:Int) 4 then(((0:Int)≤W ((↑0:Int)+m)∧W ((↑0:Int)+m)≤(100000:Int))∧(-1000000:Int)≤(↑x.1:Int)∧(↑x.1:Int)≤(1000000:Int))∧(((0:Int)≤(0:Int)∧(0:Int)<(1024:Int))∧((0:Int)≤(0:Int)∧(0:Int)<(512:Int))∧((0:Int)≤(0:Int)∧(0:Int)<(32:Int))∧(0:Int)≤(0:Int)∧(0:Int)<(262144:Int))∧(lE' (Prod.snd x).3∧(0:Int)≤(Prod.snd x).4∧(Prod.snd x).4≤(4611686018427387904:Int))∧okSt (O1 sh t m) (fun x'=>Hint.ok (O1 sh t m) x'∧Hint.mu (O1 sh t m) x'<Hint.mu (O1 sh t m) x) (.I sh::.O::.O::.raw (Value.slice none 0 0)::.O::.O::.O::.O::.O::.ptr 0 0::.ptr 1 0::.ptr 2 0::.O::.I (W ((↑x.1:Int)+1))::(tO' 79 [])) [cE' [.I 0,.I 0],cE' [.I t,.I (W ((↑0:Int)+m))],cE' [.I (Prod.snd x).1,.I (Prod.snd x).2,.slice 3 0 (List.length (aS (Prod.snd x).3 (W ((↑0:Int)+m)+1+(↑x.1:Int)) (bY 0 0 false 0 0))) 1,.I ((Prod.snd x).4+1),.I 2,.I (W ((↑0:Int)+m)+1+(↑x.1:Int)),.int .u64 (aB (Prod.snd x).3 (W ((↑0:Int)+m)+1+(↑x.1:Int))),.int .u64 (bif bS (Prod.snd x).3 (W ((↑0:Int)+m)+1+(↑x.1:Int))then bY 0 0 false 0 0 else 0),.bool (bS (Prod.snd x).3 (W ((↑0:Int)+m)+1+(↑x.1:Int)))],some (.ints (some .u64) (aS (Prod.snd x).3 (W ((↑0:Int)+m)+1+(↑x.1:Int)) (bY 0 0 false 0 0)))]else K (.tup [.ptr 0 0,.agg [.I t,.I (W ((↑0:Int)+m))]]) [cE' [.I (Prod.snd x).1,.I (Prod.snd x).2,.slice 1 0 (List.length (Prod.snd x).3) 1,.I (Prod.snd x).4,.I (Prod.snd x).5,.I (Prod.snd x).6,.int .u64 (Prod.snd x).7,.int .u64 (Prod.snd x).8,.bool (Prod.snd x).9],some (.ints (some .u64) (Prod.snd x).3)]
theorem DQ(sh t m:Int)(K:AVal→aD Ob→Prop)(h:u7 sh t m K):cT' 15 [.I sh,.I t,.I m,.raw (.slice none 0 0)] [] K:=by
 refine aFQ (aE (E:=EZ) Tryz.checked.mixed (L:=aBa sh t m) (n:=10) (aN (by kernel_rfl) h))
theorem QK(sh t m:Int)(K:AVal→aD Ob→Prop)(ok:HE t m [])
 (hK:K (.tup [.ptr 0 0,.agg [.I t,.I m]]) [aY 1 (eB sh t m []),aZ (eB sh t m [])]):u7 sh t m K:=by
 obtain⟨hm,hl,hr,hk⟩:=ok;have h00:((([]:List Int).length :Int)+m)=m:=by simp
 rw [h00]at hr;unfold u7;have hr2:=FQ.1 hr;have hn:W (0+m)=m:=(cJ (by omega)).trans (by omega)
 have hr':mZ t (W (0+m))=true:=by rw [hn];exact hr
 rw [hr'];refine⟨trivial,aL (fun e=>by cases e) (fun _=>⟨⟨by omega,by omega,by omega⟩,aL (fun e=>?_) (fun _=>⟨⟨⟨by omega,by omega,by omega⟩,trivial⟩,⟨by omega,rfl,by omega⟩,?_,?_⟩)⟩)⟩
 ·rw [bJ,dT']at e;omega
 ·refine aK (H:=O1 sh t m) ((0:Nat),memN t (W (0+m))) ?_ ⟨Nat.zero_le _,⟨Int.le_refl 0,by show(0:Int)≤_;omega⟩,rfl⟩
  simp only [O1,aY,aZ,memN,List.length_replicate];rfl
 ·rintro⟨h,s⟩ ⟨h4,hc,heq⟩;simp only at h4 hc heq;have gc1:0≤s.c:=hc.1;refine aL (fun e1=>?_) (fun e1=>?_)
  ·rw [bJ,dT']at e1;have e1:(h:Int)<4:=e1;have e4':W ((h:Int)+1)=((h+1:Nat):Int):=(cJ (by omega)).trans rfl
   refine⟨⟨by omega,by omega,by omega⟩,⟨⟨by decide,by decide⟩,⟨by decide,by decide⟩,⟨by decide,by decide⟩,by decide,by decide⟩,⟨rfl,gc1,by show s.c≤4611686018427387904;omega⟩,aK (H:=O1 sh t m) ((h+1:Nat),s.stored (W (0+m)+1+h) (bY 0 0 false 0 0)) ?_ ⟨⟨by show h+1≤4;omega,⟨by show 0≤s.c+1;omega,by show s.c+1≤1000*((h+1:Nat):Int);omega⟩,?_⟩,by show 4 - (h+1)<4 - h;omega⟩⟩
   ·simp only [O1,←e4'];rfl
   ·have e9:(3 - (h:Int)).toNat =4 - (h+1):=by omega
    refine Eq.trans heq ?_;rw [QJ _ _ _ _ (by omega),e9];rfl
  ·rw [bJ,dF']at e1;have e1: ¬(h:Int)<4:=e1;have e5:h=4:=by omega
   subst e5;have heq':qD sh (W (0+m)) [] 4 0 (memN t (W (0+m)))=s:=heq;rw [hn]at heq';unfold eB at hK;rw [heq']at hK;rw [hn];exact hK
def fillSb:aG Ob:=fun args h=>match args,h with
 | [.int .i64 sh,.int .i64 t,.int .i64 m,.raw (.slice none 0 0)],[]=>some (.pre (HE t m []) (.ret (.tup [.ptr 0 0,.agg [.I t,.I m]]) [aY 1 (eB sh t m []),aZ (eB sh t m [])]))
 | _,_=>none
theorem DP:sT' 15 fillSb:=by
 intro args h o ho K hK;unfold fillSb at ho;split at ho<;>cases ho
 rename_i sh t m;obtain⟨ok,hK⟩:=hK;exact DQ sh t m K (QK sh t m K ok hK)
noncomputable def fillS:aG Ob:=fillSb
theorem A1:sT' 15 fillS:=DP
noncomputable def EF1:=EZ.addS 15 fillS A1
def stNewS:aG Ob:=fun args h=>match args,h with
 | [.agg [.int .i64 t,.int .i64 n],.int .i64 me],[]=>some (.pre True (.ret (.ptr 0 0) [stC 1 t n ⟨me,0,[]⟩,hO ⟨me,0,[]⟩]))
 | _,_=>none
theorem FX:sT' 19 stNewS:=by
 intro args h o ho K hK;unfold stNewS at ho;split at ho<;>cases ho
 rename_i t n me;obtain⟨_,hK⟩:=hK;have hK:K (.ptr 0 0) [stC 1 t n ⟨me,0,[]⟩,hO ⟨me,0,[]⟩]:=hK;refine aFQ (aGg (cs:=[(.cell 1 4,.ints (some .i64))]) (cM' (E:=EF1) (q:=K (.ptr 0 0) [cE' [.I t,.I n,.I me,.I 0,.slice 1 0 0 1],some (.ints (some .i64) [])]) (by kernel_rfl) ?_))
 exact hK
noncomputable def EF2:=EF1.addS 19 stNewS FX
noncomputable def EF3:qR Ob Tryz.prog:=EF2
def enNSA:aG Ob:=fun args h=>match args,h with
 | [.ptr 0 0],[some (.abs (.store t n st) [])]=>some (.pre (C7 t n st).ok (.ret (.ptr 1 0) [some (.abs (.store t n (C7 t n st).val) []),some (.abs (.ensure t n aU) [0])]))
 | _,_=>none
theorem VO:sT' 37 enNSA:=by
 intro args h o ho K hK
 unfold enNSA at ho
 split at ho<;>cases ho
 rename_i t n st
 obtain⟨ok,hK⟩:=hK
 refine aC.pack (tb:=tbl) (aC.unpack (tb:=tbl) (Mc.store t n st) 0 0 (dJ t n st) [] rfl rfl rfl rfl ?_)
 refine G8 [.ptr 0 0] [stC 1 t n st,hO st] _ rfl _ ⟨⟨rfl,ok⟩,⟨[0,2,1],[some (.abs (.store t n (C7 t n st).val) []),some (.abs (.ensure t n aU) [0])],.store t n (C7 t n st).val,0,0,dJ t n (C7 t n st).val,[],by kernel_rfl,by kernel_rfl,rfl,rfl,hK⟩⟩
def ftNSA:aG Ob:=fun args h=>match args,h with
 | [.ptr 0 0,.agg [.int .i64 sh,.int .i64 kd,.int .i64 ky],.int .i64 most],[some (.abs (.store t n st) [])]=>some (.pre (uN t n sh kd ky most st) (.ret (.ptr 1 0) [some (.abs (.store t n (ftNF t n sh kd ky most st).2) []),some (.abs (.fast t n (ftNF t n sh kd ky most st).1) [0])]))
 | _,_=>none
theorem WI:sT' 18 ftNSA:=by
 intro args h o ho K hK
 unfold ftNSA at ho
 split at ho<;>cases ho
 rename_i sh kd ky most t n st
 obtain⟨ok,hK⟩:=hK
 refine aC.pack (tb:=tbl) (aC.unpack (tb:=tbl) (Mc.store t n st) 0 0 (dJ t n st) [] rfl rfl rfl rfl ?_)
 refine HM [.ptr 0 0,.agg [.int .i64 sh,.int .i64 kd,.int .i64 ky],.int .i64 most] [stC 1 t n st,hO st] _ rfl _ ⟨⟨rfl,ok⟩,⟨[0,2,1],[some (.abs (.store t n (ftNF t n sh kd ky most st).2) []),some (.abs (.fast t n (ftNF t n sh kd ky most st).1) [0])],.store t n (ftNF t n sh kd ky most st).2,0,0,dJ t n (ftNF t n sh kd ky most st).2,[],by kernel_rfl,by kernel_rfl,rfl,rfl,hK⟩⟩
noncomputable def EFr:=(EF3.addS 37 (aG.or enNSA enNS) (aF6 VO G8)).addS 18 (aG.or ftNSA ftNS) (aF6 WI HM)
def r0(r:List Int):Int:=List.headD r 0
def r1(r:List Int):Int:=List.headD (List.tail r) 0
def r2(r:List Int):Int:=List.headD (List.tail (List.tail r)) 0
abbrev KT:List Code1:=[some .i64,some .i64,some .i64]
abbrev KR:List Code1:=[some .i64,none,some .i64]
def stNewZ:aG Ob:=fun args h=>match args,h with
 | [.agg [.int .i64 t,.int .i64 n],.int .i64 me],[]=>some (.pre True (.ret (.ptr 0 0) [some (.abs (.store t n ⟨me,0,[]⟩) [])]))
 | _,_=>none
theorem OQ:sT' 19 stNewZ:=by
 intro args h o ho K hK
 unfold stNewZ at ho
 split at ho<;>cases ho
 rename_i t n me
 obtain⟨_,hK⟩:=hK
 refine aC.pack (tb:=tbl) ?_
 refine FX [.agg [.int .i64 t,.int .i64 n],.int .i64 me] [] _ rfl _ ⟨trivial,⟨[0,1],[some (.abs (.store t n ⟨me,0,[]⟩) [])],.store t n ⟨me,0,[]⟩,0,0,dJ t n ⟨me,0,[]⟩,[],by kernel_rfl,by kernel_rfl,rfl,rfl,hK⟩⟩
noncomputable def EFs:=((EFr.addS 19 stNewZ OQ))
noncomputable def EFt:=EFs
def rI:AVal→Int
 | .int _ n=>n
 | _=>0
def rK(row:Nat→List AVal)(i:Nat):Int:=rI ((row i).getD 0 .O)
def rY(row:Nat→List AVal)(i:Nat):Int:=rI ((row i).getD 1 .O)
structure dM (row:Nat→List AVal):Prop where
 h:row=fun i=>[.int .i64 (rK row i),.int .i64 (rY row i)]
def lK(k:Int)(m:Nat)(f g:Nat→Int):Bool:=(List.range m).all fun j=>a8 k (f j) (g j)
theorem qL{k:Int}{m:Nat}{f g:Nat→Int} :lK k m f g=true↔ ∀j,j<m→a8 k (f j) (g j)=true:=by
 unfold lK;simp
def inF(f g:Nat→Int)(k:Int):Nat→Bool
 | 0=>false
 | n+1=>bif ieq (g n) k&&ieq (f n) 1 then true else bif ieq (g n) k&&ieq (f n) 2 then false else inF f g k n
def inO(f g:Nat→Int)(k:Int)(n:Nat):Bool:=inF f g k n
def bH(f:Nat→Int):Nat→Int
 | 0=>0
 | n+1=>bif ieq (f n) 4 then bH f n+1 else bif ilt 0 (bH f n)then bH f n - 1 else bH f n
def cN(f g:Nat→Int):Nat→List Int
 | 0=>[]
 | n+1=>bif ieq (f n) 4 then cN f g n++ [g n]else cN f g n
def l0(f g:Nat→Int)(n:Nat):List Int:=(cN f g n).drop (((cN f g n).length :Int) - bH f n).toNat
def eI(f g:Nat→Int):Nat→Int→List Int
 | 0,_=>[]
 | i+1,need=>bif ilt 0 need then(bif ieq (f i) 4&&ieq (bH f i) (need - 1)then g i::eI f g i (need - 1)else eI f g i need)else []
def kF(f g:Nat→Int)(n:Nat):List Int:=eI f g n (bH f n)
def setF(f g:Nat→Int)(n:Nat):List Int:=((List.range 1000).map fun i:Nat=>(i:Int)).filter fun k=>inF f g k n
def bT(sh:Int)(f g:Nat→Int)(n:Nat):List Int:=bif ieq sh 3 then l0 f g n else bif ieq sh 4 then kF f g n else setF f g n
def resR(sh:Int)(f g:Nat→Int)(n:Nat)(kd ky:Int):Bool×Int:=
 bif ieq kd 1 then(!inF f g ky n,0)else bif ieq kd 2||ieq kd 3 then(inF f g ky n,0)else bif ieq kd 4 then(true,0)else match bT sh f g n with
  | []=>(false,0)
  | x::_=>(true,x)
theorem dT{a b:Int}(h:a≠b):ieq a b=false:=by rw [bI,beq_eq_false_iff_ne];exact h
theorem kA(f:Nat→Int)(n:Nat):0≤bH f n:=by
 induction n with
 | zero=>exact Int.le_refl 0
 | succ n this=>
   show 0≤(bif ieq (f n) 4 then bH f n+1 else bif ilt 0 (bH f n)then bH f n - 1 else bH f n)
   cases ieq (f n) 4 with
   | true=>rw [cond_true];omega
   | false=>
     rw [cond_false]
     cases h:ilt 0 (bH f n)with
     | true=>rw [cond_true];rw [bJ,dT']at h;omega
     | false=>rw [cond_false];exact this
theorem RS(f:Nat→Int)(n:Nat):bH f n≤n:=by
 induction n with
 | zero=>exact Int.le_refl 0
 | succ n this=>
   have h0:=kA f n
   show(bif ieq (f n) 4 then bH f n+1 else bif ilt 0 (bH f n)then bH f n - 1 else bH f n)≤((n+1:Nat):Int)
   cases ieq (f n) 4 with
   | true=>rw [cond_true];omega
   | false=>
     rw [cond_false]
     cases ilt 0 (bH f n)with
     | true=>rw [cond_true];omega
     | false=>rw [cond_false];omega
theorem y8(f g:Nat→Int)(n:Nat):bH f n≤(cN f g n).length :=by
 induction n with
 | zero=>exact Int.le_refl 0
 | succ n this=>
   show(bif ieq (f n) 4 then bH f n+1 else bif ilt 0 (bH f n)then bH f n - 1 else bH f n)≤((bif ieq (f n) 4 then cN f g n++ [g n]else cN f g n:List Int).length :Int)
   cases ieq (f n) 4 with
   | true=>rw [cond_true,cond_true,List.length_append];simp;omega
   | false=>
     rw [cond_false,cond_false]
     cases ilt 0 (bH f n)with
     | true=>rw [cond_true];omega
     | false=>rw [cond_false];omega
theorem SM(f g:Nat→Int)(n:Nat):(cN f g n).length ≤n:=by
 induction n with
 | zero=>exact Nat.le_refl 0
 | succ n this=>
   show(bif ieq (f n) 4 then cN f g n++ [g n]else cN f g n:List Int).length ≤n+1
   cases ieq (f n) 4 with
   | true=>rw [cond_true,List.length_append];simp;omega
   | false=>rw [cond_false];omega
def fP(sh:Int)(f g:Nat→Int)(n:Nat):List Int:=bif ieq sh 3 then cN f g n else bT sh f g n
def eQ(sh:Int)(f g:Nat→Int)(n:Nat):Nat:=bif ieq sh 3 then(((cN f g n).length :Int) - bH f n).toNat else 0
theorem EJ(sh:Int)(f g:Nat→Int)(n:Nat):(fP sh f g n).drop (eQ sh f g n)=bT sh f g n∧eQ sh f g n+(bT sh f g n).length =(fP sh f g n).length :=by
 unfold fP eQ bT
 cases ieq sh 3 with
 | true=>
   have:=y8 f g n
   have:=kA f n
   refine⟨rfl,?_⟩
   unfold l0
   simp only [cond_true,List.length_drop]
   omega
 | false=>exact⟨rfl,by simp⟩
def resB(sh:Int)(f g:Nat→Int)(n:Nat)(kd ky:Int):Bool:=(resR sh f g n kd ky).1
def tQ(sh:Int)(f g:Nat→Int)(n:Nat)(kd ky:Int):Int:=(resR sh f g n kd ky).2
noncomputable def EV0:=EFt.addS 15 (aG.or fillS (nP [(.slot 3,.ints (some .i64))] fillS)) (aF6 A1 (nQ A1))
structure aEr (k:Int) (m:Nat) (f g:Nat→Int) (x:Nat):Prop where
 h1:x≤m
 h2:inF f g k m=inF f g k x
def sR(k:Int)(m:Nat)(f g:Nat→Int):Hint Ob:= {X:=Nat,st:=fun x=>([.view m 2 (fun i=>[.int .i64 (f i),.int .i64 (g i)]),.int .i64 k,.O,.O,.O,.int .i64 ((x:Int) - 1)]++List.replicate 37 .O,[]),ok:=aEr k m f g,mu:=fun x=>x,keep:=[0,1,5] }
def RD(k:Int)(m:Nat)(f g:Nat→Int)(K:AVal→aD Ob→Prop):Prop:=okSt (sR k m f g) (Hint.ok (sR k m f g)) ((.view m 2 fun i=>[.int .i64 (f i),.int .i64 (g i)])::.int .i64 k::.O::.O::.O::.int .i64 (W ((↑m:Int) - 1))::(tO' 37 [])) []∧ ∀(x:Nat),aEr k m f g x→bif ile 0 ((↑x:Int) - 1)then((0:Int)≤(↑x:Int) - 1∧(↑x:Int) - (1:Int)<(↑m:Int))∧bif ieq (g (Int.toNat ((↑x:Int) - 1))) k then((0:Int)≤(↑x:Int) - 1∧(↑x:Int) - (1:Int)<(↑m:Int))∧bif ieq (f (Int.toNat ((↑x:Int) - 1))) 1 then K (.bool true) []else((0:Int)≤(↑x:Int) - 1∧(↑x:Int) - (1:Int)<(↑m:Int))∧bif ieq (g (Int.toNat ((↑x:Int) - 1))) k then((0:Int)≤(↑x:Int) - 1∧(↑x:Int) - (1:Int)<(↑m:Int))∧bif ieq (f (Int.toNat ((↑x:Int) - 1))) 2 then K (.bool false) []else okSt (sR k m f g) (fun x'=>Hint.ok (sR k m f g) x'∧Hint.mu (sR k m f g) x'<Hint.mu (sR k m f g) x) ((.view m 2 fun i=>[.int .i64 (f i),.int .i64 (g i)])::.int .i64 k::.O::.O::.O::.int .i64 (W ((↑x:Int) - 1 - 1))::(tO' 37 [])) []else okSt (sR k m f g) (fun x'=>Hint.ok (sR k m f g) x'∧Hint.mu (sR k m f g) x'<Hint.mu (sR k m f g) x) ((.view m 2 fun i=>[.int .i64 (f i),.int .i64 (g i)])::.int .i64 k::.O::.O::.O::.int .i64 (W ((↑x:Int) - 1 - 1))::(tO' 37 [])) []else((0:Int)≤(↑x:Int) - 1∧(↑x:Int) - (1:Int)<(↑m:Int))∧bif ieq (g (Int.toNat ((↑x:Int) - 1))) k then((0:Int)≤(↑x:Int) - 1∧(↑x:Int) - (1:Int)<(↑m:Int))∧bif ieq (f (Int.toNat ((↑x:Int) - 1))) 2 then K (.bool false) []else okSt (sR k m f g) (fun x'=>Hint.ok (sR k m f g) x'∧Hint.mu (sR k m f g) x'<Hint.mu (sR k m f g) x) ((.view m 2 fun i=>[.int .i64 (f i),.int .i64 (g i)])::.int .i64 k::.O::.O::.O::.int .i64 (W ((↑x:Int) - 1 - 1))::(tO' 37 [])) []else okSt (sR k m f g) (fun x'=>Hint.ok (sR k m f g) x'∧Hint.mu (sR k m f g) x'<Hint.mu (sR k m f g) x) ((.view m 2 fun i=>[.int .i64 (f i),.int .i64 (g i)])::.int .i64 k::.O::.O::.O::.int .i64 (W ((↑x:Int) - 1 - 1))::(tO' 37 [])) []else K (.bool false) []
theorem NM(k:Int)(m:Nat)(f g:Nat→Int)(K:AVal→aD Ob→Prop)(h:RD k m f g K):cT' 86 [.view m 2 (fun i=>[.int .i64 (f i),.int .i64 (g i)]),.int .i64 k] [] K:=by
 refine aFQ (aE (E:=EV0) Tryz.checked.mixed (L:=(fun _ _=>some (.states (sR k m f g)))) (n:=10) (aN (by kernel_rfl) h))
structure aEu (m:Nat) (f:Nat→Int) (x:Nat):Prop where
 h1:x≤m
def xU(m:Nat)(f g:Nat→Int):Hint Ob:= {X:=Nat,st:=fun x=>([.view m 2 (fun i=>[.int .i64 (f i),.int .i64 (g i)]),.O,.O,.int .i64 (bH f x),.int .i64 (x:Int)]++List.replicate 19 .O,[]),ok:=aEu m f,mu:=fun x=>m - x,keep:=[0,3,4] }
def RR(m:Nat)(f g:Nat→Int)(K:AVal→aD Ob→Prop):Prop:=okSt (xU m f g) (Hint.ok (xU m f g)) ((.view m 2 fun i=>[.int .i64 (f i),.int .i64 (g i)])::.O::.O::.int .i64 0::.int .i64 0::(tO' 19 [])) []∧ ∀(x:Nat),aEu m f x→bif ilt (↑x:Int) (↑m:Int)then((0:Int)≤(↑x:Int)∧(↑x:Int)<(↑m:Int))∧bif ieq (f (Int.toNat (↑x:Int))) 4 then okSt (xU m f g) (fun x'=>Hint.ok (xU m f g) x'∧Hint.mu (xU m f g) x'<Hint.mu (xU m f g) x) ((.view m 2 fun i=>[.int .i64 (f i),.int .i64 (g i)])::.O::.O::.int .i64 (W (bH f x+1))::.int .i64 (W ((↑x:Int)+1))::(tO' 19 [])) []else bif ilt 0 (bH f x)then okSt (xU m f g) (fun x'=>Hint.ok (xU m f g) x'∧Hint.mu (xU m f g) x'<Hint.mu (xU m f g) x) ((.view m 2 fun i=>[.int .i64 (f i),.int .i64 (g i)])::.O::.O::.int .i64 (W (bH f x - 1))::.int .i64 (W ((↑x:Int)+1))::(tO' 19 [])) []else okSt (xU m f g) (fun x'=>Hint.ok (xU m f g) x'∧Hint.mu (xU m f g) x'<Hint.mu (xU m f g) x) ((.view m 2 fun i=>[.int .i64 (f i),.int .i64 (g i)])::.O::.O::.int .i64 (bH f x)::.int .i64 (W ((↑x:Int)+1))::(tO' 19 [])) []else K (.int .i64 (bH f x)) []
theorem NT(m:Nat)(f g:Nat→Int)(K:AVal→aD Ob→Prop)(h:RR m f g K):cT' 147 [.view m 2 (fun i=>[.int .i64 (f i),.int .i64 (g i)])] [] K:=by
 refine aFQ (aE (E:=EV0) Tryz.checked.mixed (L:=(fun _ _=>some (.states (xU m f g)))) (n:=10) (aN (by kernel_rfl) h))
theorem aBY(k:Int)(m:Nat)(f g:Nat→Int)(K:AVal→aD Ob→Prop)(hm:m≤4611686018427387904)(hK:K (.bool (inF f g k m)) []):RD k m f g K:=by
 have w1:W ((m:Int) - 1)=(m:Int) - 1:=cJ ⟨by omega,by omega⟩
 refine⟨aK (H:=sR k m f g) m (by simp only [w1,sR]<;>rfl) ⟨Nat.le_refl _,rfl⟩,?_⟩
 rintro x ⟨h1,h2⟩
 refine aL (fun e=>?_) (fun e=>?_)
 ·rw [bX,dT']at e
  obtain⟨y,rfl⟩: ∃y,x=y+1:=⟨x - 1,by omega⟩
  have ey:Int.toNat (((y+1:Nat):Int) - 1)=y:=by omega
  have w2:W (((y+1:Nat):Int) - 1 - 1)=(y:Int) - 1:=(cJ ⟨by omega,by omega⟩).trans (by omega)
  have hin:inF f g k (y+1)=bif ieq (g y) k&&ieq (f y) 1 then true else bif ieq (g y) k&&ieq (f y) 2 then false else inF f g k y:=rfl
  have next:inF f g k (y+1)=inF f g k y→okSt (sR k m f g) (fun x'=>Hint.ok (sR k m f g) x'∧Hint.mu (sR k m f g) x'<Hint.mu (sR k m f g) (y+1)) ((sR k m f g).st y).1 ((sR k m f g).st y).2:=
   fun h=>aK (H:=sR k m f g) y rfl ⟨⟨by omega,h2.trans h⟩,Nat.lt_succ_self y⟩
  rw [ey,w2]
  refine⟨⟨by omega,by omega⟩,aL (fun a=>?_) (fun a=>?_)⟩
  ·refine⟨⟨by omega,by omega⟩,aL (fun b=>?_) (fun b=>?_)⟩
   ·rw [h2,hin,a,b]at hK;exact hK
   ·refine⟨⟨by omega,by omega⟩,aL (fun a2=>⟨⟨by omega,by omega⟩,aL (fun c=>?_) (fun c=>?_)⟩) (fun a2=>?_)⟩
    ·rw [h2,hin,a,b,c]at hK;exact hK
    ·exact next (by rw [hin,a,b,c];rfl)
    ·rw [a]at a2;cases a2
  ·refine⟨⟨by omega,by omega⟩,aL (fun a2=>?_) (fun a2=>?_)⟩
   ·rw [a]at a2;cases a2
   ·exact next (by rw [hin,a];rfl)
 ·rw [bX,dF']at e
  have hx:x=0:=by omega
  subst hx
  rw [h2]at hK
  exact hK
theorem aCa(m:Nat)(f g:Nat→Int)(K:AVal→aD Ob→Prop)(hm:m≤4611686018427387904)(hK:K (.int .i64 (bH f m)) []):RR m f g K:=by
 refine⟨aK (H:=xU m f g) (0:Nat) rfl ⟨Nat.zero_le _⟩,?_⟩
 rintro x ⟨h1⟩
 refine nE (fun e=>?_) (fun e=>?_)
 ·have e4:W ((x:Int)+1)=((x+1:Nat):Int):=(cJ (by omega)).trans rfl
  have h0:=kA f x
  have hn:=RS f x
  have w1:W (bH f x+1)=bH f x+1:=cJ (by omega)
  have w2:W (bH f x - 1)=bH f x - 1:=cJ (by omega)
  have hs:bH f (x+1)=bif ieq (f x) 4 then bH f x+1 else bif ilt 0 (bH f x)then bH f x - 1 else bH f x:=rfl
  have next: ∀v,bH f (x+1)=v→okSt (xU m f g) (fun x'=>Hint.ok (xU m f g) x'∧Hint.mu (xU m f g) x'<Hint.mu (xU m f g) x) ([.view m 2 (fun i=>[.int .i64 (f i),.int .i64 (g i)]),.O,.O,.int .i64 v,.int .i64 ((x+1:Nat):Int)]++List.replicate 19 .O) []:=
   fun v h=>aK (H:=xU m f g) (x+1:Nat) (by rw [←h];rfl) ⟨⟨by omega⟩,by show m - (x+1)<m - x;omega⟩
  rw [e4,w1,w2]
  refine⟨⟨by omega,by omega⟩,aL (fun a=>?_) (fun a=>aL (fun b=>?_) (fun b=>?_))⟩
  ·have a:ieq (f x) 4=true:=a
   exact next _ (by rw [hs,a];rfl)
  ·have a:ieq (f x) 4=false:=a
   exact next _ (by rw [hs,a,b];rfl)
  ·have a:ieq (f x) 4=false:=a
   exact next _ (by rw [hs,a,b];rfl)
 ·have hx:x=m:=by omega
  subst hx
  exact hK
def innS:aG Ob:=fun args h=>match args,h with
 | [.view m 2 row,.int .i64 k],[]=>some (.pre (m≤4611686018427387904∧dM row) (.ret (.bool (inO (rK row) (rY row) k m)) []))
 | _,_=>none
theorem aBX:sT' 86 innS:=by
 intro args h o ho K hK
 unfold innS at ho
 split at ho<;>cases ho
 rename_i m row k
 obtain⟨⟨hm,⟨hr⟩⟩,hK⟩:=hK
 have hK:K (.bool (inF (rK row) (rY row) k m)) []:=hK
 rw [hr]
 exact NM k m (rK row) (rY row) K (aBY k m (rK row) (rY row) K hm hK)
def manS:aG Ob:=fun args h=>match args,h with
 | [.view m 2 row],[]=>some (.pre (m≤4611686018427387904∧dM row) (.ret (.int .i64 (bH (rK row) m)) []))
 | _,_=>none
theorem aB9:sT' 147 manS:=by
 intro args h o ho K hK
 unfold manS at ho
 split at ho<;>cases ho
 rename_i m row
 obtain⟨⟨hm,⟨hr⟩⟩,hK⟩:=hK
 have hK:K (.int .i64 (bH (rK row) m)) []:=hK
 rw [hr]
 exact NT m (rK row) (rY row) K (aCa m (rK row) (rY row) K hm hK)
noncomputable def EV1:=(EV0.addS 86 innS aBX).addS 147 manS aB9
structure aEt (m:Nat) (x:Nat):Prop where
 h1:x≤m
def F3(m:Nat)(f g:Nat→Int):Hint Ob:= {X:=Nat,st:=fun x=>([.view m 2 (fun i=>[.int .i64 (f i),.int .i64 (g i)]),.O,.O,.slice 0 0 (cN f g x).length 1,.int .i64 (x:Int)]++List.replicate 27 .O,[some (.ints (some .i64) (cN f g x))]),ok:=aEt m,mu:=fun x=>m - x,keep:=[0,3,4],casts:=[(.slot 3,.ints (some .i64))] }
def RM(m:Nat)(f g:Nat→Int)(K:AVal→aD Ob→Prop):Prop:=okSt (F3 m f g) (Hint.ok (F3 m f g)) ((.view m 2 fun i=>[.int .i64 (f i),.int .i64 (g i)])::.O::.O::.slice 0 0 0 1::.int .i64 0::(tO' 27 [])) [some (.ints (some .i64) [])]∧ ∀(x:Nat),aEt m x→bif ilt (↑x:Int) (↑m:Int)then((0:Int)≤(↑x:Int)∧(↑x:Int)<(↑m:Int))∧bif ieq (f (Int.toNat (↑x:Int))) 4 then((0:Int)≤(↑x:Int)∧(↑x:Int)<(↑m:Int))∧(0=0∧lE' (cN f g x)∧1=1∧List.length (cN f g x)+(1:Nat)≤(4294967296:Nat))∧okSt (F3 m f g) (fun x'=>Hint.ok (F3 m f g) x'∧Hint.mu (F3 m f g) x'<Hint.mu (F3 m f g) x) ((.view m 2 fun i=>[.int .i64 (f i),.int .i64 (g i)])::.O::.O::.slice 0 0 (List.length (cN f g x)+1) 1::.int .i64 (W ((↑x:Int)+1))::(tO' 27 [])) [some (.ints (some .i64) (cN f g x++ [g (Int.toNat (↑x:Int))]))]else okSt (F3 m f g) (fun x'=>Hint.ok (F3 m f g) x'∧Hint.mu (F3 m f g) x'<Hint.mu (F3 m f g) x) ((.view m 2 fun i=>[.int .i64 (f i),.int .i64 (g i)])::.O::.O::.slice 0 0 (List.length (cN f g x)) 1::.int .i64 (W ((↑x:Int)+1))::(tO' 27 [])) [some (.ints (some .i64) (cN f g x))]else(m≤(4611686018427387904:Nat)∧dM fun i=>[.int .i64 (f i),.int .i64 (g i)])∧((0:Int)≤W ((↑(List.length (cN f g x)):Int) - bH (rK fun i=>[.int .i64 (f i),.int .i64 (g i)]) m)∧Int.toNat (W ((↑(List.length (cN f g x)):Int) - bH (rK fun i=>[.int .i64 (f i),.int .i64 (g i)]) m))≤List.length (cN f g x))∧K (.slice 0 (0+Int.toNat (W ((↑(List.length (cN f g x)):Int) - bH (rK fun i=>[.int .i64 (f i),.int .i64 (g i)]) m))*1) (List.length (cN f g x) - Int.toNat (W ((↑(List.length (cN f g x)):Int) - bH (rK fun i=>[.int .i64 (f i),.int .i64 (g i)]) m))) 1) [some (.ints (some .i64) (cN f g x))]
theorem NR(m:Nat)(f g:Nat→Int)(K:AVal→aD Ob→Prop)(h:RM m f g K):cT' 87 [.view m 2 (fun i=>[.int .i64 (f i),.int .i64 (g i)])] [] K:=by
 refine aFQ (aE (E:=EV1) Tryz.checked.mixed (L:=(fun _ _=>some (.states (F3 m f g)))) (n:=10) (aN (by kernel_rfl) h))
structure aEv (m:Nat) (f g:Nat→Int) (x:Nat×Int×List Int):Prop where
 h1:x.1≤m
 h0:0≤x.2.1∧x.2.1≤m
 hl:x.2.2.length+x.1≤m
 eq:kF f g m=x.2.2++eI f g x.1 x.2.1
def uU(m:Nat)(f g:Nat→Int):Hint Ob:= {X:=Nat×Int×List Int,st:=fun x=>([.view m 2 (fun i=>[.int .i64 (f i),.int .i64 (g i)]),.O,.O,.slice 0 0 x.2.2.length 1,.int .i64 x.2.1,.int .i64 ((x.1:Int) - 1)]++List.replicate 39 .O,[some (.ints (some .i64) x.2.2)]),ok:=aEv m f g,mu:=fun x=>x.1,keep:=[0,3,4,5],casts:=[(.slot 3,.ints (some .i64))] }
def KC(m:Nat)(f g:Nat→Int)(K:AVal→aD Ob→Prop):Prop:=(m≤(4611686018427387904:Nat)∧dM fun i=>[.int .i64 (f i),.int .i64 (g i)])∧okSt (uU m f g) (Hint.ok (uU m f g)) ((.view m 2 fun i=>[.int .i64 (f i),.int .i64 (g i)])::.O::.O::.slice 0 0 0 1::(.int .i64 (bH (rK fun i=>[.int .i64 (f i),.int .i64 (g i)]) m))::.int .i64 (W ((↑m:Int) - 1))::(tO' 39 [])) [some (.ints (some .i64) [])]∧ ∀(x:(Nat×Int×List Int)),aEv m f g x→bif ile 0 ((↑x.1:Int) - 1)then bif ilt 0 (Prod.snd x).1 then((0:Int)≤(↑x.1:Int) - 1∧(↑x.1:Int) - (1:Int)<(↑m:Int))∧bif ieq (f (Int.toNat ((↑x.1:Int) - 1))) 4 then((0:Int)≤(↑x.1:Int) - 1∧Int.toNat ((↑x.1:Int) - 1)≤m)∧(Int.toNat ((↑x.1:Int) - 1)≤(4611686018427387904:Nat)∧dM fun i=>[.int .i64 (f i),.int .i64 (g i)])∧bif ieq (bH (rK fun i=>[.int .i64 (f i),.int .i64 (g i)]) (Int.toNat ((↑x.1:Int) - 1))) (W ((Prod.snd x).1 - 1))then((0:Int)≤(↑x.1:Int) - 1∧(↑x.1:Int) - (1:Int)<(↑m:Int))∧(0=0∧lE' (Prod.snd x).2∧1=1∧List.length (Prod.snd x).2+(1:Nat)≤(4294967296:Nat))∧okSt (uU m f g) (fun x'=>Hint.ok (uU m f g) x'∧Hint.mu (uU m f g) x'<Hint.mu (uU m f g) x) ((.view m 2 fun i=>[.int .i64 (f i),.int .i64 (g i)])::.O::.O::.slice 0 0 (List.length (Prod.snd x).2+1) 1::.int .i64 (W ((Prod.snd x).1 - 1))::.int .i64 (W ((↑x.1:Int) - 1 - 1))::(tO' 39 [])) [some (.ints (some .i64) ((Prod.snd x).2++ [g (Int.toNat ((↑x.1:Int) - 1))]))]else okSt (uU m f g) (fun x'=>Hint.ok (uU m f g) x'∧Hint.mu (uU m f g) x'<Hint.mu (uU m f g) x) ((.view m 2 fun i=>[.int .i64 (f i),.int .i64 (g i)])::.O::.O::.slice 0 0 (List.length (Prod.snd x).2) 1::.int .i64 (Prod.snd x).1::.int .i64 (W ((↑x.1:Int) - 1 - 1))::(tO' 39 [])) [some (.ints (some .i64) (Prod.snd x).2)]else okSt (uU m f g) (fun x'=>Hint.ok (uU m f g) x'∧Hint.mu (uU m f g) x'<Hint.mu (uU m f g) x) ((.view m 2 fun i=>[.int .i64 (f i),.int .i64 (g i)])::.O::.O::.slice 0 0 (List.length (Prod.snd x).2) 1::.int .i64 (Prod.snd x).1::.int .i64 (W ((↑x.1:Int) - 1 - 1))::(tO' 39 [])) [some (.ints (some .i64) (Prod.snd x).2)]else K (.slice 0 0 (List.length (Prod.snd x).2) 1) [some (.ints (some .i64) (Prod.snd x).2)]else K (.slice 0 0 (List.length (Prod.snd x).2) 1) [some (.ints (some .i64) (Prod.snd x).2)]
theorem N3(m:Nat)(f g:Nat→Int)(K:AVal→aD Ob→Prop)(h:KC m f g K):cT' 88 [.view m 2 (fun i=>[.int .i64 (f i),.int .i64 (g i)])] [] K:=by
 refine aFQ (aE (E:=EV1) Tryz.checked.mixed (L:=(fun _ _=>some (.states (uU m f g)))) (n:=10) (aN (by kernel_rfl) h))
theorem iG(f g:Nat→Int):dM (fun i=>[.int .i64 (f i),.int .i64 (g i)]):=⟨rfl⟩
theorem ZS(f g:Nat→Int):rK (fun i=>[.int .i64 (f i),.int .i64 (g i)])=f:=rfl
theorem aB7(m:Nat)(f g:Nat→Int)(K:AVal→aD Ob→Prop)(hm:m≤1000000)(hK:K (.slice 0 (((cN f g m).length :Int) - bH f m).toNat (l0 f g m).length 1) [some (.ints (some .i64) (cN f g m))]):RM m f g K:=by
 refine⟨aK (H:=F3 m f g) (0:Nat) rfl ⟨Nat.zero_le _⟩,?_⟩
 rintro x ⟨h1⟩
 refine nE (fun e=>?_) (fun e=>?_)
 ·have e4:W ((x:Int)+1)=((x+1:Nat):Int):=(cJ (by omega)).trans rfl
  have hp:=SM f g x
  have hs:cN f g (x+1)=bif ieq (f x) 4 then cN f g x++ [g x]else cN f g x:=rfl
  rw [e4]
  refine⟨⟨by omega,by omega⟩,aL (fun a=>?_) (fun a=>?_)⟩
  ·have a:ieq (f x) 4=true:=a
   rw [a]at hs
   refine⟨⟨by omega,by omega⟩,⟨rfl,rfl,rfl,by omega⟩,aK (H:=F3 m f g) (x+1:Nat) ?_ ⟨⟨by omega⟩,by show m - (x+1)<m - x;omega⟩⟩
   simp only [F3,hs,cond_true,List.length_append,List.length_singleton]
   rfl
  ·have a:ieq (f x) 4=false:=a
   rw [a]at hs
   refine aK (H:=F3 m f g) (x+1:Nat) ?_ ⟨⟨by omega⟩,by show m - (x+1)<m - x;omega⟩
   simp only [F3,hs,cond_false]
   rfl
 ·have hx:x=m:=by omega
  subst hx
  have hp:=SM f g x
  have h0:=kA f x
  have hn:=y8 f g x
  have w1:W (((cN f g x).length :Int) - bH f x)=((cN f g x).length :Int) - bH f x:=cJ (by omega)
  rw [ZS,w1]
  refine⟨⟨by omega,iG f g⟩,⟨by omega,by omega⟩,?_⟩
  have e1:0+(((cN f g x).length :Int) - bH f x).toNat *1=(((cN f g x).length :Int) - bH f x).toNat :=by omega
  have e2:(cN f g x).length - (((cN f g x).length :Int) - bH f x).toNat =(l0 f g x).length :=by unfold l0;rw [List.length_drop]
  rw [e1,e2]
  exact hK
theorem aCi(m:Nat)(f g:Nat→Int)(K:AVal→aD Ob→Prop)(hm:m≤1000000)(hK:K (.slice 0 0 (kF f g m).length 1) [some (.ints (some .i64) (kF f g m))]):KC m f g K:=by
 have h0:=kA f m
 have hn:=RS f m
 have w1:W ((m:Int) - 1)=(m:Int) - 1:=cJ (by omega)
 have rk0:rK (fun i=>[.int .i64 (f (0+i)),.int .i64 (g (0+i))])=f:=by funext i;show f (0+i)=f i;rw [Nat.zero_add]
 unfold KC
 rw [ZS,w1]
 refine⟨⟨by omega,iG f g⟩,aK (H:=uU m f g) (m,bH f m,[]) rfl ⟨Nat.le_refl _,⟨h0,hn⟩,by simp,rfl⟩,?_⟩
 rintro⟨x,nd,out⟩ ⟨h1,hnd,hl,heq⟩
 dsimp only at h1 hnd hl heq⊢
 have e0:nd≤0→eI f g x nd=[]:=by
  intro h
  cases x with
  | zero=>rfl
  | succ x=>
    show(bif ilt 0 nd then _ else [])=_
    rw [bJ,decide_eq_false (by omega)];rfl
 refine aL (fun e=>?_) (fun e=>?_)
 ·rw [bX,dT']at e
  obtain⟨y,rfl⟩: ∃y,x=y+1:=⟨x - 1,by omega⟩
  have ey:Int.toNat (((y+1:Nat):Int) - 1)=y:=by omega
  have w2:W (((y+1:Nat):Int) - 1 - 1)=(y:Int) - 1:=(cJ ⟨by omega,by omega⟩).trans (by omega)
  refine nE (fun q=>?_) (fun q=>?_)
  ·have hp:eI f g (y+1) nd=bif ieq (f y) 4&&ieq (bH f y) (nd - 1)then g y::eI f g y (nd - 1)else eI f g y nd:=by
    show(bif ilt 0 nd then _ else _)=_
    rw [bJ,decide_eq_true q];rfl
   have w3:W (nd - 1)=nd - 1:=cJ (by omega)
   have next:eI f g (y+1) nd=eI f g y nd→okSt (uU m f g) (fun x'=>Hint.ok (uU m f g) x'∧Hint.mu (uU m f g) x'<Hint.mu (uU m f g) (y+1,nd,out)) ((uU m f g).st (y,nd,out)).1 ((uU m f g).st (y,nd,out)).2:=
    fun h=>aK (H:=uU m f g) (y,nd,out) rfl ⟨⟨by show y≤m;omega,hnd,by show out.length+y≤m;omega,by show _=out++eI f g y nd;rw [←h];exact heq⟩,Nat.lt_succ_self y⟩
   rw [ey,w2,w3]
   refine⟨⟨by omega,by omega⟩,aL (fun a=>?_) (fun a=>?_)⟩
   ·refine⟨⟨by omega,by omega⟩,⟨by omega,iG _ _⟩,aL (fun b=>?_) (fun b=>?_)⟩
    ·refine⟨⟨by omega,by omega⟩,⟨rfl,rfl,rfl,by omega⟩,aK (H:=uU m f g) (y,nd - 1,out++ [g y]) ?_ ⟨⟨by show y≤m;omega,by show 0≤nd - 1∧nd - 1≤m;omega,by show(out++ [g y]).length +y≤m;rw [List.length_append];simp;omega,?_⟩,Nat.lt_succ_self y⟩⟩
     ·simp only [uU,List.length_append,List.length_singleton]<;>rfl
     ·show kF f g m=out++ [g y]++eI f g y (nd - 1)
      have b:ieq (bH f y) (nd - 1)=true:=b
      rw [heq,hp,a,b];simp
    ·have b:ieq (bH f y) (nd - 1)=false:=b
     exact next (by rw [hp,a,b];rfl)
   ·exact next (by rw [hp,a];rfl)
  ·rw [e0 q,List.append_nil]at heq
   rw [heq]at hK
   exact hK
 ·rw [bX,dF']at e
  have hx:x=0:=by omega
  subst hx
  rw [show eI f g 0 nd=[]from rfl,List.append_nil]at heq
  rw [heq]at hK
  exact hK
def linS:aG Ob:=fun args h=>match args,h with
 | [.view m 2 row],[]=>some (.pre (m≤1000000∧dM row) (.ret (.slice 0 (((cN (rK row) (rY row) m).length :Int) - bH (rK row) m).toNat (l0 (rK row) (rY row) m).length 1) [some (.ints (some .i64) (cN (rK row) (rY row) m))]))
 | _,_=>none
def pilS:aG Ob:=fun args h=>match args,h with
 | [.view m 2 row],[]=>some (.pre (m≤1000000∧dM row) (.ret (.slice 0 0 (kF (rK row) (rY row) m).length 1) [some (.ints (some .i64) (kF (rK row) (rY row) m))]))
 | _,_=>none
theorem aB6:sT' 87 linS:=by
 intro args h o ho K hK
 unfold linS at ho
 split at ho<;>cases ho
 rename_i m row
 obtain⟨⟨hm,⟨hr⟩⟩,hK⟩:=hK
 rw [hr]
 exact NR m (rK row) (rY row) K (aB7 m (rK row) (rY row) K hm hK)
theorem aCh:sT' 88 pilS:=by
 intro args h o ho K hK
 unfold pilS at ho
 split at ho<;>cases ho
 rename_i m row
 obtain⟨⟨hm,⟨hr⟩⟩,hK⟩:=hK
 rw [hr]
 exact N3 m (rK row) (rY row) K (aCi m (rK row) (rY row) K hm hK)
noncomputable def EV2:=(EV1.addS 87 linS aB6).addS 88 pilS aCh
end Go.Sh
