import Derived.Test.YtedeloeobocpiaaGreatZGC6toGH0
set_option linter.all false
set_option maxHeartbeats 8000000
namespace Go.Sh
open Go Go.Proofs
variable [Con]
structure HpO where
 d:Bool
 x:HPS
 st:STS
 s:MS
instance:Inhabited HpO:=⟨⟨false,bR,⟨0,0,[]⟩,⟨0,0,[],0,0,0,0,0,false⟩⟩⟩
instance:Inhabited HPS:=⟨bR⟩
abbrev HW(t n:Int)(x:HPS)(st:STS)(s:MS):aD Ob:=[some (.abs (.help t n x) [1]),some (.abs (.store t n st) []),a8 3 s,a9 s]
abbrev LU(t n:Int)(x:HPS)(st:STS)(s:MS):aD Ob:=[some (.cells [.ptr 1 0,.int .i64 x.u,.int .u64 x.no,.int .i64 x.rounds,.int .i64 x.limit,.int .i64 x.at',.int .u64 x.found,.int .i64 x.sh,.int .i64 x.kd,.int .i64 x.ky,.bool x.p.now,.int .i64 x.p.code,.bool x.p.okk,.int .i64 x.p.val,.int .i64 x.p.addr,.int .u64 x.p.old,.int .i64 x.p.nxt,.bool x.p.mark,.int .i64 x.p.pops,.O,.O,.O,.O,.O]),some (.abs (.store t n st) []),a8 3 s,a9 s]
def HpO.fin(t n:Int)(y:HpO):Out Ob:=.ite y.d (.ret (.bool true) (LU t n y.x y.st y.s)) (.ret (.bool false) (HW t n y.x y.st y.s))
def ZU(t n:Int)(v:AVal)(g:aD Ob):Option (Prop×HpO):=match v,g with
 | .bool d,[some (.cells [.ptr 1 0,.int .i64 u,.int .u64 no,.int .i64 rounds,.int .i64 limit,.int .i64 at',.int .u64 found,.int .i64 sh,.int .i64 kd,.int .i64 ky,.bool p_now,.int .i64 p_code,.bool p_okk,.int .i64 p_val,.int .i64 p_addr,.int .u64 p_old,.int .i64 p_nxt,.bool p_mark,.int .i64 p_pops,.O,.O,.O,.O,.O]),e1,e3,e4,e2]=>(match j9 4 [e1,e2],cW 3 [e3,e4]with
   | some (l2,t2,n2,st),some (l,s)=>some ((t2=t∧n2=n)∧(d=false→at'≠3∧at'≠4∧at'≠5∧at'≠7∧at'≠8)∧l=s.xs.length∧l2=st.R.length,⟨d,⟨u,no,rounds,limit,at',found,sh,kd,ky,⟨p_now,p_code,p_okk,p_val,p_addr,p_old,p_nxt,p_mark,p_pops⟩,cN,aS,aM,⟨0,0,0,0⟩,⟨0,0,0,false⟩⟩,st,s⟩)
   | _,_=>none)
 | _,_=>none
def ZV(t n:Int)(v:AVal)(g:aD Ob):Option (Prop×HpO):=match v,g with
 | .bool d,[some (.cells [.ptr 1 0,.int .i64 u,.int .u64 no,.int .i64 rounds,.int .i64 limit,.int .i64 at',.int .u64 found,.int .i64 sh,.int .i64 kd,.int .i64 ky,.bool p_now,.int .i64 p_code,.bool p_okk,.int .i64 p_val,.int .i64 p_addr,.int .u64 p_old,.int .i64 p_nxt,.bool p_mark,.int .i64 p_pops,.ptr 4 0,.O,.O,.O,.O]),e1,e3,e4,some (.abs (.exec t' n' sub) []),e2]=>(match j9 5 [e1,e2],cW 3 [e3,e4]with
   | some (l2,t2,n2,st),some (l,s)=>some ((t2=t∧n2=n)∧t'=t∧n'=n∧(d=false→at'=3)∧l=s.xs.length∧l2=st.R.length,⟨d,⟨u,no,rounds,limit,at',found,sh,kd,ky,⟨p_now,p_code,p_okk,p_val,p_addr,p_old,p_nxt,p_mark,p_pops⟩,sub,aS,aM,⟨0,0,0,0⟩,⟨0,0,0,false⟩⟩,st,s⟩)
   | _,_=>none)
 | _,_=>none
def ZW(t n:Int)(v:AVal)(g:aD Ob):Option (Prop×HpO):=match v,g with
 | .bool d,[some (.cells [.ptr 1 0,.int .i64 u,.int .u64 no,.int .i64 rounds,.int .i64 limit,.int .i64 at',.int .u64 found,.int .i64 sh,.int .i64 kd,.int .i64 ky,.bool p_now,.int .i64 p_code,.bool p_okk,.int .i64 p_val,.int .i64 p_addr,.int .u64 p_old,.int .i64 p_nxt,.bool p_mark,.int .i64 p_pops,.O,.ptr 4 0,.O,.O,.O]),e1,e3,e4,some (.abs (.ensure t' n' sub) [1]),e2]=>(match j9 5 [e1,e2],cW 3 [e3,e4]with
   | some (l2,t2,n2,st),some (l,s)=>some ((t2=t∧n2=n)∧t'=t∧n'=n∧(d=false→at'=4)∧l=s.xs.length∧l2=st.R.length,⟨d,⟨u,no,rounds,limit,at',found,sh,kd,ky,⟨p_now,p_code,p_okk,p_val,p_addr,p_old,p_nxt,p_mark,p_pops⟩,cN,sub,aM,⟨0,0,0,0⟩,⟨0,0,0,false⟩⟩,st,s⟩)
   | _,_=>none)
 | _,_=>none
def ZX(t n:Int)(v:AVal)(g:aD Ob):Option (Prop×HpO):=match v,g with
 | .bool d,[some (.cells [.ptr 1 0,.int .i64 u,.int .u64 no,.int .i64 rounds,.int .i64 limit,.int .i64 at',.int .u64 found,.int .i64 sh,.int .i64 kd,.int .i64 ky,.bool p_now,.int .i64 p_code,.bool p_okk,.int .i64 p_val,.int .i64 p_addr,.int .u64 p_old,.int .i64 p_nxt,.bool p_mark,.int .i64 p_pops,.O,.O,.ptr 4 0,.O,.O]),e1,e3,e4,some (.abs (.find t' n' sub) []),e2]=>(match j9 5 [e1,e2],cW 3 [e3,e4]with
   | some (l2,t2,n2,st),some (l,s)=>some ((t2=t∧n2=n)∧t'=t∧n'=n∧(d=false→at'=5)∧l=s.xs.length∧l2=st.R.length,⟨d,⟨u,no,rounds,limit,at',found,sh,kd,ky,⟨p_now,p_code,p_okk,p_val,p_addr,p_old,p_nxt,p_mark,p_pops⟩,cN,aS,sub,⟨0,0,0,0⟩,⟨0,0,0,false⟩⟩,st,s⟩)
   | _,_=>none)
 | _,_=>none
def ZY(t n:Int)(v:AVal)(g:aD Ob):Option (Prop×HpO):=match v,g with
 | .bool d,[some (.cells [.ptr 1 0,.int .i64 u,.int .u64 no,.int .i64 rounds,.int .i64 limit,.int .i64 at',.int .u64 found,.int .i64 sh,.int .i64 kd,.int .i64 ky,.bool p_now,.int .i64 p_code,.bool p_okk,.int .i64 p_val,.int .i64 p_addr,.int .u64 p_old,.int .i64 p_nxt,.bool p_mark,.int .i64 p_pops,.O,.O,.O,.ptr 4 0,.O]),e1,e3,e4,some (.abs (.clear t' n' sub) []),e2]=>(match j9 5 [e1,e2],cW 3 [e3,e4]with
   | some (l2,t2,n2,st),some (l,s)=>some ((t2=t∧n2=n)∧t'=t∧n'=n∧(d=false→at'=7)∧l=s.xs.length∧l2=st.R.length,⟨d,⟨u,no,rounds,limit,at',found,sh,kd,ky,⟨p_now,p_code,p_okk,p_val,p_addr,p_old,p_nxt,p_mark,p_pops⟩,cN,aS,aM,sub,⟨0,0,0,false⟩⟩,st,s⟩)
   | _,_=>none)
 | _,_=>none
def ZZ(t n:Int)(v:AVal)(g:aD Ob):Option (Prop×HpO):=match v,g with
 | .bool d,[some (.cells [.ptr 1 0,.int .i64 u,.int .u64 no,.int .i64 rounds,.int .i64 limit,.int .i64 at',.int .u64 found,.int .i64 sh,.int .i64 kd,.int .i64 ky,.bool p_now,.int .i64 p_code,.bool p_okk,.int .i64 p_val,.int .i64 p_addr,.int .u64 p_old,.int .i64 p_nxt,.bool p_mark,.int .i64 p_pops,.O,.O,.O,.O,.ptr 4 0]),e1,e3,e4,some (.abs (.prepare t' n' sub) [1]),e2]=>(match j9 5 [e1,e2],cW 3 [e3,e4]with
   | some (l2,t2,n2,st),some (l,s)=>some ((t2=t∧n2=n)∧t'=t∧n'=n∧(d=false→at'=8)∧l=s.xs.length∧l2=st.R.length,⟨d,⟨u,no,rounds,limit,at',found,sh,kd,ky,⟨p_now,p_code,p_okk,p_val,p_addr,p_old,p_nxt,p_mark,p_pops⟩,cN,aS,aM,⟨0,0,0,0⟩,sub⟩,st,s⟩)
   | _,_=>none)
 | _,_=>none
def vU(t n:Int)(v:AVal)(g:aD Ob):Option (Prop×HpO):=(match ZU t n v g with
 | some r=>some r
 | none=>(match ZV t n v g with
 | some r=>some r
 | none=>(match ZW t n v g with
 | some r=>some r
 | none=>(match ZX t n v g with
 | some r=>some r
 | none=>(match ZY t n v g with
 | some r=>some r
 | none=>ZZ t n v g)))))
theorem TU{t n:Int} :cA (obI tbl) 4 (ZU t n) (HpO.fin t n):=by
 intro v g p x hp hq K hK
 unfold ZU at hp
 split at hp
 case h_2=>cases hp
 rename_i d u no rounds limit at' found sh kd ky p_now p_code p_okk p_val p_addr p_old p_nxt p_mark p_pops e1 e3 e4 e2
 split at hp
 case h_2=>cases hp
 rename_i l2 t2 n2 st l s hs hm
 simp only [sI',pI']at hp
 obtain⟨rfl,rfl⟩:=hp
 obtain⟨⟨rfl,rfl⟩,hat,hl,hl2⟩:=hq
 have hh:=bA hm hl
 cases hh
 have hh:=cD hs hl2
 cases hh
 refine fC hK (fun h=>?_) (fun hd h=>?_)
 ·exact⟨⟨_,_,(aF.pack (LU t2 n2 (⟨u,no,rounds,limit,at',found,sh,kd,ky,⟨p_now,p_code,p_okk,p_val,p_addr,p_old,p_nxt,p_mark,p_pops⟩,cN,aS,aM,⟨0,0,0,0⟩,⟨0,0,0,false⟩⟩:HPS) st s) (.store t2 n2 st) 1 0 (dG t2 n2 st) [] (by kernel_rfl) rfl rfl (by kernel_rfl)),h⟩⟩
 ·exact⟨⟨_,_,((aF.pack (a7 (HW t2 n2 (⟨u,no,rounds,limit,at',found,sh,kd,ky,⟨p_now,p_code,p_okk,p_val,p_addr,p_old,p_nxt,p_mark,p_pops⟩,cN,aS,aM,⟨0,0,0,0⟩,⟨0,0,0,false⟩⟩:HPS) st s) 0 1 (kK t2 n2 (⟨u,no,rounds,limit,at',found,sh,kd,ky,⟨p_now,p_code,p_okk,p_val,p_addr,p_old,p_nxt,p_mark,p_pops⟩,cN,aS,aM,⟨0,0,0,0⟩,⟨0,0,0,false⟩⟩:HPS)) [1]) (.store t2 n2 st) 1 0 (dG t2 n2 st) [] (by kernel_rfl) rfl rfl (by kernel_rfl)).trans (aF.pack (HW t2 n2 (⟨u,no,rounds,limit,at',found,sh,kd,ky,⟨p_now,p_code,p_okk,p_val,p_addr,p_old,p_nxt,p_mark,p_pops⟩,cN,aS,aM,⟨0,0,0,0⟩,⟨0,0,0,false⟩⟩:HPS) st s) (.help t2 n2 (⟨u,no,rounds,limit,at',found,sh,kd,ky,⟨p_now,p_code,p_okk,p_val,p_addr,p_old,p_nxt,p_mark,p_pops⟩,cN,aS,aM,⟨0,0,0,0⟩,⟨0,0,0,false⟩⟩:HPS)) 0 1 (kK t2 n2 (⟨u,no,rounds,limit,at',found,sh,kd,ky,⟨p_now,p_code,p_okk,p_val,p_addr,p_old,p_nxt,p_mark,p_pops⟩,cN,aS,aM,⟨0,0,0,0⟩,⟨0,0,0,false⟩⟩:HPS)) [1] (by kernel_rfl) rfl (congrArg (Prod.mk 1) (jG (hat hd))) (by kernel_rfl))),h⟩⟩
theorem TV{t n:Int} :cA (obI tbl) 4 (ZV t n) (HpO.fin t n):=by
 intro v g p x hp hq K hK
 unfold ZV at hp
 split at hp
 case h_2=>cases hp
 rename_i d u no rounds limit at' found sh kd ky p_now p_code p_okk p_val p_addr p_old p_nxt p_mark p_pops e1 e3 e4 t' n' sub e2
 split at hp
 case h_2=>cases hp
 rename_i l2 t2 n2 st l s hs hm
 simp only [sI',pI']at hp
 obtain⟨rfl,rfl⟩:=hp
 obtain⟨⟨rfl,rfl⟩,rfl,rfl,hat,hl,hl2⟩:=hq
 have hh:=bA hm hl
 cases hh
 have hh:=cD hs hl2
 cases hh
 refine fC hK (fun h=>?_) (fun hd h=>?_)
 ·exact⟨⟨_,_,(aF.weak (b9 _ 0 [19,20,21,22,23])).trans ((aF.pick [0,1,2,3,5] rfl).trans ((aF.eq (g2:=a7 (LU t' n' (⟨u,no,rounds,limit,at',found,sh,kd,ky,⟨p_now,p_code,p_okk,p_val,p_addr,p_old,p_nxt,p_mark,p_pops⟩,sub,aS,aM,⟨0,0,0,0⟩,⟨0,0,0,false⟩⟩:HPS) st s) 1 0 (dG t' n' st) []) (by kernel_rfl) (by kernel_rfl)).trans (aF.pack (LU t' n' (⟨u,no,rounds,limit,at',found,sh,kd,ky,⟨p_now,p_code,p_okk,p_val,p_addr,p_old,p_nxt,p_mark,p_pops⟩,sub,aS,aM,⟨0,0,0,0⟩,⟨0,0,0,false⟩⟩:HPS) st s) (.store t' n' st) 1 0 (dG t' n' st) [] (by kernel_rfl) rfl rfl (by kernel_rfl)))),h⟩⟩
 ·exact⟨⟨_,_,((aF.pack (a7 (HW t' n' (⟨u,no,rounds,limit,at',found,sh,kd,ky,⟨p_now,p_code,p_okk,p_val,p_addr,p_old,p_nxt,p_mark,p_pops⟩,sub,aS,aM,⟨0,0,0,0⟩,⟨0,0,0,false⟩⟩:HPS) st s) 0 1 (nG t' n' (⟨u,no,rounds,limit,at',found,sh,kd,ky,⟨p_now,p_code,p_okk,p_val,p_addr,p_old,p_nxt,p_mark,p_pops⟩,sub,aS,aM,⟨0,0,0,0⟩,⟨0,0,0,false⟩⟩:HPS)) [1]) (.store t' n' st) 1 0 (dG t' n' st) [] (by kernel_rfl) rfl rfl (by kernel_rfl)).trans (aF.pack (HW t' n' (⟨u,no,rounds,limit,at',found,sh,kd,ky,⟨p_now,p_code,p_okk,p_val,p_addr,p_old,p_nxt,p_mark,p_pops⟩,sub,aS,aM,⟨0,0,0,0⟩,⟨0,0,0,false⟩⟩:HPS) st s) (.help t' n' (⟨u,no,rounds,limit,at',found,sh,kd,ky,⟨p_now,p_code,p_okk,p_val,p_addr,p_old,p_nxt,p_mark,p_pops⟩,sub,aS,aM,⟨0,0,0,0⟩,⟨0,0,0,false⟩⟩:HPS)) 0 1 (nG t' n' (⟨u,no,rounds,limit,at',found,sh,kd,ky,⟨p_now,p_code,p_okk,p_val,p_addr,p_old,p_nxt,p_mark,p_pops⟩,sub,aS,aM,⟨0,0,0,0⟩,⟨0,0,0,false⟩⟩:HPS)) [1] (by kernel_rfl) rfl (congrArg (Prod.mk 1) (HR (hat hd))) (by kernel_rfl))),h⟩⟩
theorem TW{t n:Int} :cA (obI tbl) 4 (ZW t n) (HpO.fin t n):=by
 intro v g p x hp hq K hK
 unfold ZW at hp
 split at hp
 case h_2=>cases hp
 rename_i d u no rounds limit at' found sh kd ky p_now p_code p_okk p_val p_addr p_old p_nxt p_mark p_pops e1 e3 e4 t' n' sub e2
 split at hp
 case h_2=>cases hp
 rename_i l2 t2 n2 st l s hs hm
 simp only [sI',pI']at hp
 obtain⟨rfl,rfl⟩:=hp
 obtain⟨⟨rfl,rfl⟩,rfl,rfl,hat,hl,hl2⟩:=hq
 have hh:=bA hm hl
 cases hh
 have hh:=cD hs hl2
 cases hh
 refine fC hK (fun h=>?_) (fun hd h=>?_)
 ·exact⟨⟨_,_,(aF.weak (b9 _ 0 [19,20,21,22,23])).trans ((aF.pick [0,1,2,3,5] rfl).trans ((aF.eq (g2:=a7 (LU t' n' (⟨u,no,rounds,limit,at',found,sh,kd,ky,⟨p_now,p_code,p_okk,p_val,p_addr,p_old,p_nxt,p_mark,p_pops⟩,cN,sub,aM,⟨0,0,0,0⟩,⟨0,0,0,false⟩⟩:HPS) st s) 1 0 (dG t' n' st) []) (by kernel_rfl) (by kernel_rfl)).trans (aF.pack (LU t' n' (⟨u,no,rounds,limit,at',found,sh,kd,ky,⟨p_now,p_code,p_okk,p_val,p_addr,p_old,p_nxt,p_mark,p_pops⟩,cN,sub,aM,⟨0,0,0,0⟩,⟨0,0,0,false⟩⟩:HPS) st s) (.store t' n' st) 1 0 (dG t' n' st) [] (by kernel_rfl) rfl rfl (by kernel_rfl)))),h⟩⟩
 ·exact⟨⟨_,_,((aF.pack (a7 (HW t' n' (⟨u,no,rounds,limit,at',found,sh,kd,ky,⟨p_now,p_code,p_okk,p_val,p_addr,p_old,p_nxt,p_mark,p_pops⟩,cN,sub,aM,⟨0,0,0,0⟩,⟨0,0,0,false⟩⟩:HPS) st s) 0 1 (nF t' n' (⟨u,no,rounds,limit,at',found,sh,kd,ky,⟨p_now,p_code,p_okk,p_val,p_addr,p_old,p_nxt,p_mark,p_pops⟩,cN,sub,aM,⟨0,0,0,0⟩,⟨0,0,0,false⟩⟩:HPS)) [1]) (.store t' n' st) 1 0 (dG t' n' st) [] (by kernel_rfl) rfl rfl (by kernel_rfl)).trans (aF.pack (HW t' n' (⟨u,no,rounds,limit,at',found,sh,kd,ky,⟨p_now,p_code,p_okk,p_val,p_addr,p_old,p_nxt,p_mark,p_pops⟩,cN,sub,aM,⟨0,0,0,0⟩,⟨0,0,0,false⟩⟩:HPS) st s) (.help t' n' (⟨u,no,rounds,limit,at',found,sh,kd,ky,⟨p_now,p_code,p_okk,p_val,p_addr,p_old,p_nxt,p_mark,p_pops⟩,cN,sub,aM,⟨0,0,0,0⟩,⟨0,0,0,false⟩⟩:HPS)) 0 1 (nF t' n' (⟨u,no,rounds,limit,at',found,sh,kd,ky,⟨p_now,p_code,p_okk,p_val,p_addr,p_old,p_nxt,p_mark,p_pops⟩,cN,sub,aM,⟨0,0,0,0⟩,⟨0,0,0,false⟩⟩:HPS)) [1] (by kernel_rfl) rfl (congrArg (Prod.mk 1) (HS (hat hd))) (by kernel_rfl))),h⟩⟩
theorem TX{t n:Int} :cA (obI tbl) 4 (ZX t n) (HpO.fin t n):=by
 intro v g p x hp hq K hK
 unfold ZX at hp
 split at hp
 case h_2=>cases hp
 rename_i d u no rounds limit at' found sh kd ky p_now p_code p_okk p_val p_addr p_old p_nxt p_mark p_pops e1 e3 e4 t' n' sub e2
 split at hp
 case h_2=>cases hp
 rename_i l2 t2 n2 st l s hs hm
 simp only [sI',pI']at hp
 obtain⟨rfl,rfl⟩:=hp
 obtain⟨⟨rfl,rfl⟩,rfl,rfl,hat,hl,hl2⟩:=hq
 have hh:=bA hm hl
 cases hh
 have hh:=cD hs hl2
 cases hh
 refine fC hK (fun h=>?_) (fun hd h=>?_)
 ·exact⟨⟨_,_,(aF.weak (b9 _ 0 [19,20,21,22,23])).trans ((aF.pick [0,1,2,3,5] rfl).trans ((aF.eq (g2:=a7 (LU t' n' (⟨u,no,rounds,limit,at',found,sh,kd,ky,⟨p_now,p_code,p_okk,p_val,p_addr,p_old,p_nxt,p_mark,p_pops⟩,cN,aS,sub,⟨0,0,0,0⟩,⟨0,0,0,false⟩⟩:HPS) st s) 1 0 (dG t' n' st) []) (by kernel_rfl) (by kernel_rfl)).trans (aF.pack (LU t' n' (⟨u,no,rounds,limit,at',found,sh,kd,ky,⟨p_now,p_code,p_okk,p_val,p_addr,p_old,p_nxt,p_mark,p_pops⟩,cN,aS,sub,⟨0,0,0,0⟩,⟨0,0,0,false⟩⟩:HPS) st s) (.store t' n' st) 1 0 (dG t' n' st) [] (by kernel_rfl) rfl rfl (by kernel_rfl)))),h⟩⟩
 ·exact⟨⟨_,_,((aF.pack (a7 (HW t' n' (⟨u,no,rounds,limit,at',found,sh,kd,ky,⟨p_now,p_code,p_okk,p_val,p_addr,p_old,p_nxt,p_mark,p_pops⟩,cN,aS,sub,⟨0,0,0,0⟩,⟨0,0,0,false⟩⟩:HPS) st s) 0 1 (nH t' n' (⟨u,no,rounds,limit,at',found,sh,kd,ky,⟨p_now,p_code,p_okk,p_val,p_addr,p_old,p_nxt,p_mark,p_pops⟩,cN,aS,sub,⟨0,0,0,0⟩,⟨0,0,0,false⟩⟩:HPS)) [1]) (.store t' n' st) 1 0 (dG t' n' st) [] (by kernel_rfl) rfl rfl (by kernel_rfl)).trans (aF.pack (HW t' n' (⟨u,no,rounds,limit,at',found,sh,kd,ky,⟨p_now,p_code,p_okk,p_val,p_addr,p_old,p_nxt,p_mark,p_pops⟩,cN,aS,sub,⟨0,0,0,0⟩,⟨0,0,0,false⟩⟩:HPS) st s) (.help t' n' (⟨u,no,rounds,limit,at',found,sh,kd,ky,⟨p_now,p_code,p_okk,p_val,p_addr,p_old,p_nxt,p_mark,p_pops⟩,cN,aS,sub,⟨0,0,0,0⟩,⟨0,0,0,false⟩⟩:HPS)) 0 1 (nH t' n' (⟨u,no,rounds,limit,at',found,sh,kd,ky,⟨p_now,p_code,p_okk,p_val,p_addr,p_old,p_nxt,p_mark,p_pops⟩,cN,aS,sub,⟨0,0,0,0⟩,⟨0,0,0,false⟩⟩:HPS)) [1] (by kernel_rfl) rfl (congrArg (Prod.mk 1) (HT (hat hd))) (by kernel_rfl))),h⟩⟩
theorem TY{t n:Int} :cA (obI tbl) 4 (ZY t n) (HpO.fin t n):=by
 intro v g p x hp hq K hK
 unfold ZY at hp
 split at hp
 case h_2=>cases hp
 rename_i d u no rounds limit at' found sh kd ky p_now p_code p_okk p_val p_addr p_old p_nxt p_mark p_pops e1 e3 e4 t' n' sub e2
 split at hp
 case h_2=>cases hp
 rename_i l2 t2 n2 st l s hs hm
 simp only [sI',pI']at hp
 obtain⟨rfl,rfl⟩:=hp
 obtain⟨⟨rfl,rfl⟩,rfl,rfl,hat,hl,hl2⟩:=hq
 have hh:=bA hm hl
 cases hh
 have hh:=cD hs hl2
 cases hh
 refine fC hK (fun h=>?_) (fun hd h=>?_)
 ·exact⟨⟨_,_,(aF.weak (b9 _ 0 [19,20,21,22,23])).trans ((aF.pick [0,1,2,3,5] rfl).trans ((aF.eq (g2:=a7 (LU t' n' (⟨u,no,rounds,limit,at',found,sh,kd,ky,⟨p_now,p_code,p_okk,p_val,p_addr,p_old,p_nxt,p_mark,p_pops⟩,cN,aS,aM,sub,⟨0,0,0,false⟩⟩:HPS) st s) 1 0 (dG t' n' st) []) (by kernel_rfl) (by kernel_rfl)).trans (aF.pack (LU t' n' (⟨u,no,rounds,limit,at',found,sh,kd,ky,⟨p_now,p_code,p_okk,p_val,p_addr,p_old,p_nxt,p_mark,p_pops⟩,cN,aS,aM,sub,⟨0,0,0,false⟩⟩:HPS) st s) (.store t' n' st) 1 0 (dG t' n' st) [] (by kernel_rfl) rfl rfl (by kernel_rfl)))),h⟩⟩
 ·exact⟨⟨_,_,((aF.pack (a7 (HW t' n' (⟨u,no,rounds,limit,at',found,sh,kd,ky,⟨p_now,p_code,p_okk,p_val,p_addr,p_old,p_nxt,p_mark,p_pops⟩,cN,aS,aM,sub,⟨0,0,0,false⟩⟩:HPS) st s) 0 1 (nE t' n' (⟨u,no,rounds,limit,at',found,sh,kd,ky,⟨p_now,p_code,p_okk,p_val,p_addr,p_old,p_nxt,p_mark,p_pops⟩,cN,aS,aM,sub,⟨0,0,0,false⟩⟩:HPS)) [1]) (.store t' n' st) 1 0 (dG t' n' st) [] (by kernel_rfl) rfl rfl (by kernel_rfl)).trans (aF.pack (HW t' n' (⟨u,no,rounds,limit,at',found,sh,kd,ky,⟨p_now,p_code,p_okk,p_val,p_addr,p_old,p_nxt,p_mark,p_pops⟩,cN,aS,aM,sub,⟨0,0,0,false⟩⟩:HPS) st s) (.help t' n' (⟨u,no,rounds,limit,at',found,sh,kd,ky,⟨p_now,p_code,p_okk,p_val,p_addr,p_old,p_nxt,p_mark,p_pops⟩,cN,aS,aM,sub,⟨0,0,0,false⟩⟩:HPS)) 0 1 (nE t' n' (⟨u,no,rounds,limit,at',found,sh,kd,ky,⟨p_now,p_code,p_okk,p_val,p_addr,p_old,p_nxt,p_mark,p_pops⟩,cN,aS,aM,sub,⟨0,0,0,false⟩⟩:HPS)) [1] (by kernel_rfl) rfl (congrArg (Prod.mk 1) (HU (hat hd))) (by kernel_rfl))),h⟩⟩
theorem TZ{t n:Int} :cA (obI tbl) 4 (ZZ t n) (HpO.fin t n):=by
 intro v g p x hp hq K hK
 unfold ZZ at hp
 split at hp
 case h_2=>cases hp
 rename_i d u no rounds limit at' found sh kd ky p_now p_code p_okk p_val p_addr p_old p_nxt p_mark p_pops e1 e3 e4 t' n' sub e2
 split at hp
 case h_2=>cases hp
 rename_i l2 t2 n2 st l s hs hm
 simp only [sI',pI']at hp
 obtain⟨rfl,rfl⟩:=hp
 obtain⟨⟨rfl,rfl⟩,rfl,rfl,hat,hl,hl2⟩:=hq
 have hh:=bA hm hl
 cases hh
 have hh:=cD hs hl2
 cases hh
 refine fC hK (fun h=>?_) (fun hd h=>?_)
 ·exact⟨⟨_,_,(aF.weak (b9 _ 0 [19,20,21,22,23])).trans ((aF.pick [0,1,2,3,5] rfl).trans ((aF.eq (g2:=a7 (LU t' n' (⟨u,no,rounds,limit,at',found,sh,kd,ky,⟨p_now,p_code,p_okk,p_val,p_addr,p_old,p_nxt,p_mark,p_pops⟩,cN,aS,aM,⟨0,0,0,0⟩,sub⟩:HPS) st s) 1 0 (dG t' n' st) []) (by kernel_rfl) (by kernel_rfl)).trans (aF.pack (LU t' n' (⟨u,no,rounds,limit,at',found,sh,kd,ky,⟨p_now,p_code,p_okk,p_val,p_addr,p_old,p_nxt,p_mark,p_pops⟩,cN,aS,aM,⟨0,0,0,0⟩,sub⟩:HPS) st s) (.store t' n' st) 1 0 (dG t' n' st) [] (by kernel_rfl) rfl rfl (by kernel_rfl)))),h⟩⟩
 ·exact⟨⟨_,_,((aF.pack (a7 (HW t' n' (⟨u,no,rounds,limit,at',found,sh,kd,ky,⟨p_now,p_code,p_okk,p_val,p_addr,p_old,p_nxt,p_mark,p_pops⟩,cN,aS,aM,⟨0,0,0,0⟩,sub⟩:HPS) st s) 0 1 (nI t' n' (⟨u,no,rounds,limit,at',found,sh,kd,ky,⟨p_now,p_code,p_okk,p_val,p_addr,p_old,p_nxt,p_mark,p_pops⟩,cN,aS,aM,⟨0,0,0,0⟩,sub⟩:HPS)) [1]) (.store t' n' st) 1 0 (dG t' n' st) [] (by kernel_rfl) rfl rfl (by kernel_rfl)).trans (aF.pack (HW t' n' (⟨u,no,rounds,limit,at',found,sh,kd,ky,⟨p_now,p_code,p_okk,p_val,p_addr,p_old,p_nxt,p_mark,p_pops⟩,cN,aS,aM,⟨0,0,0,0⟩,sub⟩:HPS) st s) (.help t' n' (⟨u,no,rounds,limit,at',found,sh,kd,ky,⟨p_now,p_code,p_okk,p_val,p_addr,p_old,p_nxt,p_mark,p_pops⟩,cN,aS,aM,⟨0,0,0,0⟩,sub⟩:HPS)) 0 1 (nI t' n' (⟨u,no,rounds,limit,at',found,sh,kd,ky,⟨p_now,p_code,p_okk,p_val,p_addr,p_old,p_nxt,p_mark,p_pops⟩,cN,aS,aM,⟨0,0,0,0⟩,sub⟩:HPS)) [1] (by kernel_rfl) rfl (congrArg (Prod.mk 1) (HV (hat hd))) (by kernel_rfl))),h⟩⟩
theorem kL{t n:Int} :cA (obI tbl) 4 (vU t n) (HpO.fin t n):=by
 intro v g p x hp hq K hK
 unfold vU at hp
 split at hp
 ·rename_i r hr
  cases hp
  exact TU v g p x hr hq K hK
 split at hp
 ·rename_i r hr
  cases hp
  exact TV v g p x hr hq K hK
 split at hp
 ·rename_i r hr
  cases hp
  exact TW v g p x hr hq K hK
 split at hp
 ·rename_i r hr
  cases hp
  exact TX v g p x hr hq K hK
 split at hp
 ·rename_i r hr
  cases hp
  exact TY v g p x hr hq K hK
 exact TZ v g p x hp hq K hK
def CD(t n:Int)(x:HPS)(st:STS)(s:MS):Tr HpO:=.pre ((((0:Int)≤t∧t≤(100000:Int))∧((0:Int)≤n∧n≤(100000:Int))∧(-1099511627776:Int)≤x.1∧x.1≤(1099511627776:Int))∧True) (.pre ((lE' s.3∧(0:Int)≤s.4∧s.4≤(4611686018427387904:Int))∧True) (.pre True (.pre True (.pre ((t=t∧n=n)∧((!lJ (aA (aB s.3 (2*n+5+2*t+3*x.1+2)) 49 3))=false→(1:Int)≠(3:Int)∧(1:Int)≠(4:Int)∧(1:Int)≠(5:Int)∧(1:Int)≠(7:Int)∧(1:Int)≠(8:Int))∧lE' s.3∧lE' st.3) (.ret {d:=!lJ (aA (aB s.3 (2*n+5+2*t+3*x.1+2)) 49 3),x:= {x with rounds:=W (x.3+1),at':=1,found:=aB s.3 (2*n+5+2*t+3*x.1+2),p:= {now:=(HPS.p x).1,code:=(HPS.p x).2,okk:=(HPS.p x).3,val:=(HPS.p x).4,addr:=(HPS.p x).5,old:=(HPS.p x).6,nxt:=(HPS.p x).7,mark:=(HPS.p x).8,pops:=(HPS.p x).9},ex:=cN,en:=aS,fn:=aM,cl:=bC,pr:=cQ},st:= {me:=st.1,sp:=st.2,R:=st.3},s:= {s with c:=s.4+1,k:=1,a:=2*n+5+2*t+3*x.1+2,o:=aB s.3 (2*n+5+2*t+3*x.1+2),w:=aB s.3 (2*n+5+2*t+3*x.1+2),ok:=bM s.3 (2*n+5+2*t+3*x.1+2) } })))))
theorem KB(t n:Int)(x:HPS)(st:STS)(s:MS)(K:HpO→Prop)(h:(CD t n x st s).run K):cT' 52 [.ptr 0 0,.ptr 2 0] [some (.cells [.ptr 1 0,.int .i64 x.u,.int .u64 x.no,.int .i64 x.rounds,.int .i64 x.limit,.int .i64 0,.int .u64 x.found,.int .i64 x.sh,.int .i64 x.kd,.int .i64 x.ky,.bool x.p.now,.int .i64 x.p.code,.bool x.p.okk,.int .i64 x.p.val,.int .i64 x.p.addr,.int .u64 x.p.old,.int .i64 x.p.nxt,.bool x.p.mark,.int .i64 x.p.pops,.O,.O,.O,.O,.O]),stC 4 t n st,a8 3 s,a9 s,fS st] (cC 4 0 [19,20,21,22,23] [(.cell 1 4,.ints (some .i64))] (vU t n) K):=by
 exact cM' (E:=EH0) (by kernel_rfl) h
def CE(t n:Int)(x:HPS)(st:STS)(s:MS):Tr HpO:=.pre ((((0:Int)≤t∧t≤(100000:Int))∧((0:Int)≤n∧n≤(100000:Int))∧(-1099511627776:Int)≤x.1∧x.1≤(1099511627776:Int))∧True) (.pre ((lE' s.3∧(0:Int)≤s.4∧s.4≤(4611686018427387904:Int))∧True) (.pre ((t=t∧n=n)∧((!ieq (aB s.3 (2*n+5+2*t+3*x.1)) x.2)=false→(2:Int)≠(3:Int)∧(2:Int)≠(4:Int)∧(2:Int)≠(5:Int)∧(2:Int)≠(7:Int)∧(2:Int)≠(8:Int))∧lE' s.3∧lE' st.3) (.ret {d:=!ieq (aB s.3 (2*n+5+2*t+3*x.1)) x.2,x:= {x with at':=2,p:= {now:=(HPS.p x).1,code:=(HPS.p x).2,okk:=(HPS.p x).3,val:=(HPS.p x).4,addr:=(HPS.p x).5,old:=(HPS.p x).6,nxt:=(HPS.p x).7,mark:=(HPS.p x).8,pops:=(HPS.p x).9},ex:=cN,en:=aS,fn:=aM,cl:=bC,pr:=cQ},st:= {me:=st.1,sp:=st.2,R:=st.3},s:= {s with c:=s.4+1,k:=1,a:=2*n+5+2*t+3*x.1,o:=aB s.3 (2*n+5+2*t+3*x.1),w:=aB s.3 (2*n+5+2*t+3*x.1),ok:=bM s.3 (2*n+5+2*t+3*x.1) } })))
theorem KC(t n:Int)(x:HPS)(st:STS)(s:MS)(K:HpO→Prop)(h:(CE t n x st s).run K):cT' 52 [.ptr 0 0,.ptr 2 0] [some (.cells [.ptr 1 0,.int .i64 x.u,.int .u64 x.no,.int .i64 x.rounds,.int .i64 x.limit,.int .i64 1,.int .u64 x.found,.int .i64 x.sh,.int .i64 x.kd,.int .i64 x.ky,.bool x.p.now,.int .i64 x.p.code,.bool x.p.okk,.int .i64 x.p.val,.int .i64 x.p.addr,.int .u64 x.p.old,.int .i64 x.p.nxt,.bool x.p.mark,.int .i64 x.p.pops,.O,.O,.O,.O,.O]),stC 4 t n st,a8 3 s,a9 s,fS st] (cC 4 0 [19,20,21,22,23] [(.cell 1 4,.ints (some .i64))] (vU t n) K):=by
 exact cM' (E:=EH0) (by kernel_rfl) h
def CF(t n:Int)(x:HPS)(st:STS)(s:MS):Tr HpO:=.pre ((((0:Int)≤t∧t≤(100000:Int))∧((0:Int)≤n∧n≤(100000:Int))∧(-1099511627776:Int)≤x.1∧x.1≤(1099511627776:Int))∧True) (.pre ((lE' s.3∧(0:Int)≤s.4∧s.4≤(4611686018427387904:Int))∧True) (.pre ((0:Int)≤aB s.3 (2*n+5+2*t+3*x.1+1)∧aB s.3 (2*n+5+2*t+3*x.1+1)≤(18446744073709551615:Int)) (.ite (!ieq (bif iD (aB s.3 (2*n+5+2*t+3*x.1+1))then 0 else 3) 0) (.pre ((t=t∧n=n)∧(true=false→(2:Int)≠(3:Int)∧(2:Int)≠(4:Int)∧(2:Int)≠(5:Int)∧(2:Int)≠(7:Int)∧(2:Int)≠(8:Int))∧lE' s.3∧lE' st.3) (.ret {d:=true,x:= {x with at':=2,sh:=bif iD (aB s.3 (2*n+5+2*t+3*x.1+1))then aA (aB s.3 (2*n+5+2*t+3*x.1+1)) 0 3 else 0,kd:=bif iD (aB s.3 (2*n+5+2*t+3*x.1+1))then aA (aB s.3 (2*n+5+2*t+3*x.1+1)) 3 3 else 0,ky:=bif iD (aB s.3 (2*n+5+2*t+3*x.1+1))then aA (aB s.3 (2*n+5+2*t+3*x.1+1)) 6 10 else 0,p:= {now:=(HPS.p x).1,code:=(HPS.p x).2,okk:=(HPS.p x).3,val:=(HPS.p x).4,addr:=(HPS.p x).5,old:=(HPS.p x).6,nxt:=(HPS.p x).7,mark:=(HPS.p x).8,pops:=(HPS.p x).9},ex:=cN,en:=aS,fn:=aM,cl:=bC,pr:=cQ},st:= {me:=st.1,sp:=st.2,R:=st.3},s:= {s with c:=s.4+1,k:=1,a:=2*n+5+2*t+3*x.1+1,o:=aB s.3 (2*n+5+2*t+3*x.1+1),w:=aB s.3 (2*n+5+2*t+3*x.1+1),ok:=bM s.3 (2*n+5+2*t+3*x.1+1) } })) (.pre True (.ite (!hasB [1] (aA x.6 49 3)) (.pre True (.pre (NN t n x.1 (bif iD (aB s.3 (2*n+5+2*t+3*x.1+1))then aA (aB s.3 (2*n+5+2*t+3*x.1+1)) 0 3 else 0) (bif iD (aB s.3 (2*n+5+2*t+3*x.1+1))then aA (aB s.3 (2*n+5+2*t+3*x.1+1)) 3 3 else 0) (bif iD (aB s.3 (2*n+5+2*t+3*x.1+1))then aA (aB s.3 (2*n+5+2*t+3*x.1+1)) 6 10 else 0) (aA x.6 0 12)∧True) (.pre ((t=t∧n=n)∧t=t∧n=n∧(false=false→(3:Int)=(3:Int))∧lE' s.3∧lE' st.3) (.ret {d:=false,x:= {x with at':=3,sh:=bif iD (aB s.3 (2*n+5+2*t+3*x.1+1))then aA (aB s.3 (2*n+5+2*t+3*x.1+1)) 0 3 else 0,kd:=bif iD (aB s.3 (2*n+5+2*t+3*x.1+1))then aA (aB s.3 (2*n+5+2*t+3*x.1+1)) 3 3 else 0,ky:=bif iD (aB s.3 (2*n+5+2*t+3*x.1+1))then aA (aB s.3 (2*n+5+2*t+3*x.1+1)) 6 10 else 0,p:= {now:=(HPS.p x).1,code:=(HPS.p x).2,okk:=(HPS.p x).3,val:=(HPS.p x).4,addr:=(HPS.p x).5,old:=(HPS.p x).6,nxt:=(HPS.p x).7,mark:=(HPS.p x).8,pops:=(HPS.p x).9},ex:=YN t n x.1 (bif iD (aB s.3 (2*n+5+2*t+3*x.1+1))then aA (aB s.3 (2*n+5+2*t+3*x.1+1)) 0 3 else 0) (bif iD (aB s.3 (2*n+5+2*t+3*x.1+1))then aA (aB s.3 (2*n+5+2*t+3*x.1+1)) 3 3 else 0) (bif iD (aB s.3 (2*n+5+2*t+3*x.1+1))then aA (aB s.3 (2*n+5+2*t+3*x.1+1)) 6 10 else 0) (aA x.6 0 12),en:=aS,fn:=aM,cl:=bC,pr:=cQ},st:= {me:=st.1,sp:=st.2,R:=st.3},s:= {s with c:=s.4+1,k:=1,a:=2*n+5+2*t+3*x.1+1,o:=aB s.3 (2*n+5+2*t+3*x.1+1),w:=aB s.3 (2*n+5+2*t+3*x.1+1),ok:=bM s.3 (2*n+5+2*t+3*x.1+1) } })))) (.pre True (.ite (bS (bif iD (aB s.3 (2*n+5+2*t+3*x.1+1))then aA (aB s.3 (2*n+5+2*t+3*x.1+1)) 3 3 else 0)) (.ite (ieq st.2 0) (.pre (lE' st.3∧(t=t∧n=n∧lE' st.3)∧True) (.pre ((t=t∧n=n)∧t=t∧n=n∧(false=false→(4:Int)=(4:Int))∧lE' s.3∧lE' st.3) (.ret {d:=false,x:= {x with at':=4,sh:=bif iD (aB s.3 (2*n+5+2*t+3*x.1+1))then aA (aB s.3 (2*n+5+2*t+3*x.1+1)) 0 3 else 0,kd:=bif iD (aB s.3 (2*n+5+2*t+3*x.1+1))then aA (aB s.3 (2*n+5+2*t+3*x.1+1)) 3 3 else 0,ky:=bif iD (aB s.3 (2*n+5+2*t+3*x.1+1))then aA (aB s.3 (2*n+5+2*t+3*x.1+1)) 6 10 else 0,p:= {now:=(HPS.p x).1,code:=(HPS.p x).2,okk:=(HPS.p x).3,val:=(HPS.p x).4,addr:=(HPS.p x).5,old:=(HPS.p x).6,nxt:=(HPS.p x).7,mark:=(HPS.p x).8,pops:=(HPS.p x).9},ex:=cN,en:=aS,fn:=aM,cl:=bC,pr:=cQ},st:= {me:=st.1,sp:=st.2,R:=st.3},s:= {s with c:=s.4+1,k:=1,a:=2*n+5+2*t+3*x.1+1,o:=aB s.3 (2*n+5+2*t+3*x.1+1),w:=aB s.3 (2*n+5+2*t+3*x.1+1),ok:=bM s.3 (2*n+5+2*t+3*x.1+1) } }))) (.pre True (.pre (oO t n st.1 (cB (bif iD (aB s.3 (2*n+5+2*t+3*x.1+1))then aA (aB s.3 (2*n+5+2*t+3*x.1+1)) 0 3 else 0) (bif iD (aB s.3 (2*n+5+2*t+3*x.1+1))then aA (aB s.3 (2*n+5+2*t+3*x.1+1)) 6 10 else 0)) (bT (bif iD (aB s.3 (2*n+5+2*t+3*x.1+1))then aA (aB s.3 (2*n+5+2*t+3*x.1+1)) 0 3 else 0) (bif iD (aB s.3 (2*n+5+2*t+3*x.1+1))then aA (aB s.3 (2*n+5+2*t+3*x.1+1)) 3 3 else 0) (bif iD (aB s.3 (2*n+5+2*t+3*x.1+1))then aA (aB s.3 (2*n+5+2*t+3*x.1+1)) 6 10 else 0)) x.4∧True) (.pre ((t=t∧n=n)∧t=t∧n=n∧(false=false→(5:Int)=(5:Int))∧lE' s.3∧lE' st.3) (.ret {d:=false,x:= {x with at':=5,sh:=bif iD (aB s.3 (2*n+5+2*t+3*x.1+1))then aA (aB s.3 (2*n+5+2*t+3*x.1+1)) 0 3 else 0,kd:=bif iD (aB s.3 (2*n+5+2*t+3*x.1+1))then aA (aB s.3 (2*n+5+2*t+3*x.1+1)) 3 3 else 0,ky:=bif iD (aB s.3 (2*n+5+2*t+3*x.1+1))then aA (aB s.3 (2*n+5+2*t+3*x.1+1)) 6 10 else 0,p:= {now:=(HPS.p x).1,code:=(HPS.p x).2,okk:=(HPS.p x).3,val:=(HPS.p x).4,addr:=(HPS.p x).5,old:=(HPS.p x).6,nxt:=(HPS.p x).7,mark:=(HPS.p x).8,pops:=(HPS.p x).9},ex:=cN,en:=aS,fn:=lC t n st.1 (cB (bif iD (aB s.3 (2*n+5+2*t+3*x.1+1))then aA (aB s.3 (2*n+5+2*t+3*x.1+1)) 0 3 else 0) (bif iD (aB s.3 (2*n+5+2*t+3*x.1+1))then aA (aB s.3 (2*n+5+2*t+3*x.1+1)) 6 10 else 0)) (bT (bif iD (aB s.3 (2*n+5+2*t+3*x.1+1))then aA (aB s.3 (2*n+5+2*t+3*x.1+1)) 0 3 else 0) (bif iD (aB s.3 (2*n+5+2*t+3*x.1+1))then aA (aB s.3 (2*n+5+2*t+3*x.1+1)) 3 3 else 0) (bif iD (aB s.3 (2*n+5+2*t+3*x.1+1))then aA (aB s.3 (2*n+5+2*t+3*x.1+1)) 6 10 else 0)) x.4,cl:=bC,pr:=cQ},st:= {me:=st.1,sp:=st.2,R:=st.3},s:= {s with c:=s.4+1,k:=1,a:=2*n+5+2*t+3*x.1+1,o:=aB s.3 (2*n+5+2*t+3*x.1+1),w:=aB s.3 (2*n+5+2*t+3*x.1+1),ok:=bM s.3 (2*n+5+2*t+3*x.1+1) } }))))) (.pre True (.pre (oO t n st.1 (cB (bif iD (aB s.3 (2*n+5+2*t+3*x.1+1))then aA (aB s.3 (2*n+5+2*t+3*x.1+1)) 0 3 else 0) (bif iD (aB s.3 (2*n+5+2*t+3*x.1+1))then aA (aB s.3 (2*n+5+2*t+3*x.1+1)) 6 10 else 0)) (bT (bif iD (aB s.3 (2*n+5+2*t+3*x.1+1))then aA (aB s.3 (2*n+5+2*t+3*x.1+1)) 0 3 else 0) (bif iD (aB s.3 (2*n+5+2*t+3*x.1+1))then aA (aB s.3 (2*n+5+2*t+3*x.1+1)) 3 3 else 0) (bif iD (aB s.3 (2*n+5+2*t+3*x.1+1))then aA (aB s.3 (2*n+5+2*t+3*x.1+1)) 6 10 else 0)) x.4∧True) (.pre ((t=t∧n=n)∧t=t∧n=n∧(false=false→(5:Int)=(5:Int))∧lE' s.3∧lE' st.3) (.ret {d:=false,x:= {x with at':=5,sh:=bif iD (aB s.3 (2*n+5+2*t+3*x.1+1))then aA (aB s.3 (2*n+5+2*t+3*x.1+1)) 0 3 else 0,kd:=bif iD (aB s.3 (2*n+5+2*t+3*x.1+1))then aA (aB s.3 (2*n+5+2*t+3*x.1+1)) 3 3 else 0,ky:=bif iD (aB s.3 (2*n+5+2*t+3*x.1+1))then aA (aB s.3 (2*n+5+2*t+3*x.1+1)) 6 10 else 0,p:= {now:=(HPS.p x).1,code:=(HPS.p x).2,okk:=(HPS.p x).3,val:=(HPS.p x).4,addr:=(HPS.p x).5,old:=(HPS.p x).6,nxt:=(HPS.p x).7,mark:=(HPS.p x).8,pops:=(HPS.p x).9},ex:=cN,en:=aS,fn:=lC t n st.1 (cB (bif iD (aB s.3 (2*n+5+2*t+3*x.1+1))then aA (aB s.3 (2*n+5+2*t+3*x.1+1)) 0 3 else 0) (bif iD (aB s.3 (2*n+5+2*t+3*x.1+1))then aA (aB s.3 (2*n+5+2*t+3*x.1+1)) 6 10 else 0)) (bT (bif iD (aB s.3 (2*n+5+2*t+3*x.1+1))then aA (aB s.3 (2*n+5+2*t+3*x.1+1)) 0 3 else 0) (bif iD (aB s.3 (2*n+5+2*t+3*x.1+1))then aA (aB s.3 (2*n+5+2*t+3*x.1+1)) 3 3 else 0) (bif iD (aB s.3 (2*n+5+2*t+3*x.1+1))then aA (aB s.3 (2*n+5+2*t+3*x.1+1)) 6 10 else 0)) x.4,cl:=bC,pr:=cQ},st:= {me:=st.1,sp:=st.2,R:=st.3},s:= {s with c:=s.4+1,k:=1,a:=2*n+5+2*t+3*x.1+1,o:=aB s.3 (2*n+5+2*t+3*x.1+1),w:=aB s.3 (2*n+5+2*t+3*x.1+1),ok:=bM s.3 (2*n+5+2*t+3*x.1+1) } })))))))))))
theorem KD(t n:Int)(x:HPS)(st:STS)(s:MS)(K:HpO→Prop)(h:(CF t n x st s).run K):cT' 52 [.ptr 0 0,.ptr 2 0] [some (.cells [.ptr 1 0,.int .i64 x.u,.int .u64 x.no,.int .i64 x.rounds,.int .i64 x.limit,.int .i64 2,.int .u64 x.found,.int .i64 x.sh,.int .i64 x.kd,.int .i64 x.ky,.bool x.p.now,.int .i64 x.p.code,.bool x.p.okk,.int .i64 x.p.val,.int .i64 x.p.addr,.int .u64 x.p.old,.int .i64 x.p.nxt,.bool x.p.mark,.int .i64 x.p.pops,.O,.O,.O,.O,.O]),stC 4 t n st,a8 3 s,a9 s,fS st] (cC 4 0 [19,20,21,22,23] [(.cell 1 4,.ints (some .i64))] (vU t n) K):=by
 exact cM' (E:=EH0) (by kernel_rfl) h
def CG(t n:Int)(x:HPS)(st:STS)(s:MS):Tr HpO:=.pre (lE' s.3∧YR t n x.11 s) (.ite (lA t n x.11 s).1 (.ite (!ieq (ExO.x (lA t n x.11 s)).1 0) (.pre (lE' st.3∧1=1∧List.length st.3+(1:Nat)≤(4294967296:Nat)) (.pre ((t=t∧n=n)∧(false=false→(0:Int)≠(3:Int)∧(0:Int)≠(4:Int)∧(0:Int)≠(5:Int)∧(0:Int)≠(7:Int)∧(0:Int)≠(8:Int))∧lE' (ExO.s (lA t n x.11 s)).3∧List.length st.3+(1:Nat)=List.length (st.3++ [(ExO.x (lA t n x.11 s)).1])) (.ret {d:=false,x:= {x with at':=0,p:= {now:=(HPS.p x).1,code:=(HPS.p x).2,okk:=(HPS.p x).3,val:=(HPS.p x).4,addr:=(HPS.p x).5,old:=(HPS.p x).6,nxt:=(HPS.p x).7,mark:=(HPS.p x).8,pops:=(HPS.p x).9},ex:=cN,en:=aS,fn:=aM,cl:=bC,pr:=cQ},st:= {me:=st.1,sp:=st.2,R:=st.3++ [(ExO.x (lA t n x.11 s)).1] },s:= {t:=(ExO.s (lA t n x.11 s)).1,n:=(ExO.s (lA t n x.11 s)).2,xs:=(ExO.s (lA t n x.11 s)).3,c:=(ExO.s (lA t n x.11 s)).4,k:=(ExO.s (lA t n x.11 s)).5,a:=(ExO.s (lA t n x.11 s)).6,o:=(ExO.s (lA t n x.11 s)).7,w:=(ExO.s (lA t n x.11 s)).8,ok:=(ExO.s (lA t n x.11 s)).9} }))) (.pre ((t=t∧n=n)∧(false=false→(0:Int)≠(3:Int)∧(0:Int)≠(4:Int)∧(0:Int)≠(5:Int)∧(0:Int)≠(7:Int)∧(0:Int)≠(8:Int))∧lE' (ExO.s (lA t n x.11 s)).3∧lE' st.3) (.ret {d:=false,x:= {x with at':=0,p:= {now:=(HPS.p x).1,code:=(HPS.p x).2,okk:=(HPS.p x).3,val:=(HPS.p x).4,addr:=(HPS.p x).5,old:=(HPS.p x).6,nxt:=(HPS.p x).7,mark:=(HPS.p x).8,pops:=(HPS.p x).9},ex:=cN,en:=aS,fn:=aM,cl:=bC,pr:=cQ},st:= {me:=st.1,sp:=st.2,R:=st.3},s:= {t:=(ExO.s (lA t n x.11 s)).1,n:=(ExO.s (lA t n x.11 s)).2,xs:=(ExO.s (lA t n x.11 s)).3,c:=(ExO.s (lA t n x.11 s)).4,k:=(ExO.s (lA t n x.11 s)).5,a:=(ExO.s (lA t n x.11 s)).6,o:=(ExO.s (lA t n x.11 s)).7,w:=(ExO.s (lA t n x.11 s)).8,ok:=(ExO.s (lA t n x.11 s)).9} }))) (.pre ((t=t∧n=n)∧t=t∧n=n∧(false=false→(3:Int)=(3:Int))∧lE' (ExO.s (lA t n x.11 s)).3∧lE' st.3) (.ret {d:=false,x:= {x with at':=3,p:= {now:=(HPS.p x).1,code:=(HPS.p x).2,okk:=(HPS.p x).3,val:=(HPS.p x).4,addr:=(HPS.p x).5,old:=(HPS.p x).6,nxt:=(HPS.p x).7,mark:=(HPS.p x).8,pops:=(HPS.p x).9},ex:=(lA t n x.11 s).2,en:=aS,fn:=aM,cl:=bC,pr:=cQ},st:= {me:=st.1,sp:=st.2,R:=st.3},s:= {t:=(ExO.s (lA t n x.11 s)).1,n:=(ExO.s (lA t n x.11 s)).2,xs:=(ExO.s (lA t n x.11 s)).3,c:=(ExO.s (lA t n x.11 s)).4,k:=(ExO.s (lA t n x.11 s)).5,a:=(ExO.s (lA t n x.11 s)).6,o:=(ExO.s (lA t n x.11 s)).7,w:=(ExO.s (lA t n x.11 s)).8,ok:=(ExO.s (lA t n x.11 s)).9} })))
theorem KE(t n:Int)(x:HPS)(st:STS)(s:MS)(K:HpO→Prop)(h:(CG t n x st s).run K):cT' 52 [.ptr 0 0,.ptr 2 0] [some (.cells [.ptr 1 0,.int .i64 x.u,.int .u64 x.no,.int .i64 x.rounds,.int .i64 x.limit,.int .i64 3,.int .u64 x.found,.int .i64 x.sh,.int .i64 x.kd,.int .i64 x.ky,.bool x.p.now,.int .i64 x.p.code,.bool x.p.okk,.int .i64 x.p.val,.int .i64 x.p.addr,.int .u64 x.p.old,.int .i64 x.p.nxt,.bool x.p.mark,.int .i64 x.p.pops,.ptr 4 0,.O,.O,.O,.O]),stC 5 t n st,a8 3 s,a9 s,some (.abs (.exec t n x.ex) []),fS st] (cC 4 0 [19,20,21,22,23] [(.cell 1 4,.ints (some .i64))] (vU t n) K):=by
 exact cM' (E:=EH0) (by kernel_rfl) h
def CH(t n:Int)(x:HPS)(st:STS)(s:MS):Tr HpO:=.pre ((lE' s.3∧lE' st.3∧t=t∧n=n)∧okE t n (HPS.en x) {me:=st.1,sp:=st.2,R:=st.3} s) (.ite (enF t n x.12 st s).1 (.ite (EO.e (enF t n x.12 st s)).2 (.pre ((t=t∧n=n)∧(false=false→(6:Int)≠(3:Int)∧(6:Int)≠(4:Int)∧(6:Int)≠(5:Int)∧(6:Int)≠(7:Int)∧(6:Int)≠(8:Int))∧lE' (EO.s (enF t n x.12 st s)).3∧lE' (EO.st (enF t n x.12 st s)).3) (.ret {d:=false,x:= {x with at':=6,p:= {now:=true,code:=4,okk:=false,val:=0,addr:=0,old:=0,nxt:=0,mark:=false,pops:=0},ex:=cN,en:=aS,fn:=aM,cl:=bC,pr:=cQ},st:= {me:=(EO.st (enF t n x.12 st s)).1,sp:=(EO.st (enF t n x.12 st s)).2,R:=(EO.st (enF t n x.12 st s)).3},s:= {t:=(EO.s (enF t n x.12 st s)).1,n:=(EO.s (enF t n x.12 st s)).2,xs:=(EO.s (enF t n x.12 st s)).3,c:=(EO.s (enF t n x.12 st s)).4,k:=(EO.s (enF t n x.12 st s)).5,a:=(EO.s (enF t n x.12 st s)).6,o:=(EO.s (enF t n x.12 st s)).7,w:=(EO.s (enF t n x.12 st s)).8,ok:=(EO.s (enF t n x.12 st s)).9} })) (.pre True (.pre (oO t n (EO.st (enF t n x.12 st s)).1 (cB x.7 x.9) (bT x.7 x.8 x.9) x.4∧True) (.pre ((t=t∧n=n)∧t=t∧n=n∧(false=false→(5:Int)=(5:Int))∧lE' (EO.s (enF t n x.12 st s)).3∧lE' (EO.st (enF t n x.12 st s)).3) (.ret {d:=false,x:= {x with at':=5,p:= {now:=(HPS.p x).1,code:=(HPS.p x).2,okk:=(HPS.p x).3,val:=(HPS.p x).4,addr:=(HPS.p x).5,old:=(HPS.p x).6,nxt:=(HPS.p x).7,mark:=(HPS.p x).8,pops:=(HPS.p x).9},ex:=cN,en:=aS,fn:=lC t n (EO.st (enF t n x.12 st s)).1 (cB x.7 x.9) (bT x.7 x.8 x.9) x.4,cl:=bC,pr:=cQ},st:= {me:=(EO.st (enF t n x.12 st s)).1,sp:=(EO.st (enF t n x.12 st s)).2,R:=(EO.st (enF t n x.12 st s)).3},s:= {t:=(EO.s (enF t n x.12 st s)).1,n:=(EO.s (enF t n x.12 st s)).2,xs:=(EO.s (enF t n x.12 st s)).3,c:=(EO.s (enF t n x.12 st s)).4,k:=(EO.s (enF t n x.12 st s)).5,a:=(EO.s (enF t n x.12 st s)).6,o:=(EO.s (enF t n x.12 st s)).7,w:=(EO.s (enF t n x.12 st s)).8,ok:=(EO.s (enF t n x.12 st s)).9} }))))) (.pre ((t=t∧n=n)∧t=t∧n=n∧(false=false→(4:Int)=(4:Int))∧lE' (EO.s (enF t n x.12 st s)).3∧lE' (EO.st (enF t n x.12 st s)).3) (.ret {d:=false,x:= {x with at':=4,p:= {now:=(HPS.p x).1,code:=(HPS.p x).2,okk:=(HPS.p x).3,val:=(HPS.p x).4,addr:=(HPS.p x).5,old:=(HPS.p x).6,nxt:=(HPS.p x).7,mark:=(HPS.p x).8,pops:=(HPS.p x).9},ex:=cN,en:=(enF t n x.12 st s).2,fn:=aM,cl:=bC,pr:=cQ},st:= {me:=(EO.st (enF t n x.12 st s)).1,sp:=(EO.st (enF t n x.12 st s)).2,R:=(EO.st (enF t n x.12 st s)).3},s:= {t:=(EO.s (enF t n x.12 st s)).1,n:=(EO.s (enF t n x.12 st s)).2,xs:=(EO.s (enF t n x.12 st s)).3,c:=(EO.s (enF t n x.12 st s)).4,k:=(EO.s (enF t n x.12 st s)).5,a:=(EO.s (enF t n x.12 st s)).6,o:=(EO.s (enF t n x.12 st s)).7,w:=(EO.s (enF t n x.12 st s)).8,ok:=(EO.s (enF t n x.12 st s)).9} })))
theorem KF(t n:Int)(x:HPS)(st:STS)(s:MS)(K:HpO→Prop)(h:(CH t n x st s).run K):cT' 52 [.ptr 0 0,.ptr 2 0] [some (.cells [.ptr 1 0,.int .i64 x.u,.int .u64 x.no,.int .i64 x.rounds,.int .i64 x.limit,.int .i64 4,.int .u64 x.found,.int .i64 x.sh,.int .i64 x.kd,.int .i64 x.ky,.bool x.p.now,.int .i64 x.p.code,.bool x.p.okk,.int .i64 x.p.val,.int .i64 x.p.addr,.int .u64 x.p.old,.int .i64 x.p.nxt,.bool x.p.mark,.int .i64 x.p.pops,.O,.ptr 4 0,.O,.O,.O]),stC 5 t n st,a8 3 s,a9 s,some (.abs (.ensure t n x.en) [1]),fS st] (cC 4 0 [19,20,21,22,23] [(.cell 1 4,.ints (some .i64))] (vU t n) K):=by
 exact cM' (E:=EH0) (by kernel_rfl) h
def CI(t n:Int)(x:HPS)(st:STS)(s:MS):Tr HpO:=.pre (lE' s.3∧JU t n x.13 s) (.ite (fnF t n x.13 s).1 (.pre ((lE' st.3∧lE' (FnO.x (fnF t n x.13 s)).6∧List.length st.3+List.length (FnO.x (fnF t n x.13 s)).6≤(4294967296:Nat))∧True) (.pre (vA x.7 x.8 x.9 (FnO.x (fnF t n x.13 s)).1 (FnO.x (fnF t n x.13 s)).2 (FnO.x (fnF t n x.13 s)).3 (FnO.x (fnF t n x.13 s)).4 st.2∧True) (.ite (FnO.x (fnF t n x.13 s)).7 (.pre ((t=t∧n=n)∧(false=false→(0:Int)≠(3:Int)∧(0:Int)≠(4:Int)∧(0:Int)≠(5:Int)∧(0:Int)≠(7:Int)∧(0:Int)≠(8:Int))∧lE' (FnO.s (fnF t n x.13 s)).3∧List.length st.3+List.length (FnO.x (fnF t n x.13 s)).6=List.length (st.3++(FnO.x (fnF t n x.13 s)).6)) (.ret {d:=false,x:= {x with at':=0,p:= {now:=(aI x.7 x.8 x.9 (FnO.x (fnF t n x.13 s)).1 (FnO.x (fnF t n x.13 s)).2 (FnO.x (fnF t n x.13 s)).3 (FnO.x (fnF t n x.13 s)).4 st.2).1,code:=(aI x.7 x.8 x.9 (FnO.x (fnF t n x.13 s)).1 (FnO.x (fnF t n x.13 s)).2 (FnO.x (fnF t n x.13 s)).3 (FnO.x (fnF t n x.13 s)).4 st.2).2,okk:=(aI x.7 x.8 x.9 (FnO.x (fnF t n x.13 s)).1 (FnO.x (fnF t n x.13 s)).2 (FnO.x (fnF t n x.13 s)).3 (FnO.x (fnF t n x.13 s)).4 st.2).3,val:=(aI x.7 x.8 x.9 (FnO.x (fnF t n x.13 s)).1 (FnO.x (fnF t n x.13 s)).2 (FnO.x (fnF t n x.13 s)).3 (FnO.x (fnF t n x.13 s)).4 st.2).4,addr:=(aI x.7 x.8 x.9 (FnO.x (fnF t n x.13 s)).1 (FnO.x (fnF t n x.13 s)).2 (FnO.x (fnF t n x.13 s)).3 (FnO.x (fnF t n x.13 s)).4 st.2).5,old:=(aI x.7 x.8 x.9 (FnO.x (fnF t n x.13 s)).1 (FnO.x (fnF t n x.13 s)).2 (FnO.x (fnF t n x.13 s)).3 (FnO.x (fnF t n x.13 s)).4 st.2).6,nxt:=(aI x.7 x.8 x.9 (FnO.x (fnF t n x.13 s)).1 (FnO.x (fnF t n x.13 s)).2 (FnO.x (fnF t n x.13 s)).3 (FnO.x (fnF t n x.13 s)).4 st.2).7,mark:=(aI x.7 x.8 x.9 (FnO.x (fnF t n x.13 s)).1 (FnO.x (fnF t n x.13 s)).2 (FnO.x (fnF t n x.13 s)).3 (FnO.x (fnF t n x.13 s)).4 st.2).8,pops:=(aI x.7 x.8 x.9 (FnO.x (fnF t n x.13 s)).1 (FnO.x (fnF t n x.13 s)).2 (FnO.x (fnF t n x.13 s)).3 (FnO.x (fnF t n x.13 s)).4 st.2).9},ex:=cN,en:=aS,fn:=aM,cl:=bC,pr:=cQ},st:= {me:=st.1,sp:=st.2,R:=st.3++(FnO.x (fnF t n x.13 s)).6},s:= {t:=(FnO.s (fnF t n x.13 s)).1,n:=(FnO.s (fnF t n x.13 s)).2,xs:=(FnO.s (fnF t n x.13 s)).3,c:=(FnO.s (fnF t n x.13 s)).4,k:=(FnO.s (fnF t n x.13 s)).5,a:=(FnO.s (fnF t n x.13 s)).6,o:=(FnO.s (fnF t n x.13 s)).7,w:=(FnO.s (fnF t n x.13 s)).8,ok:=(FnO.s (fnF t n x.13 s)).9} })) (.ite (aI x.7 x.8 x.9 (FnO.x (fnF t n x.13 s)).1 (FnO.x (fnF t n x.13 s)).2 (FnO.x (fnF t n x.13 s)).3 (FnO.x (fnF t n x.13 s)).4 st.2).1 (.pre ((t=t∧n=n)∧(false=false→(6:Int)≠(3:Int)∧(6:Int)≠(4:Int)∧(6:Int)≠(5:Int)∧(6:Int)≠(7:Int)∧(6:Int)≠(8:Int))∧lE' (FnO.s (fnF t n x.13 s)).3∧List.length st.3+List.length (FnO.x (fnF t n x.13 s)).6=List.length (st.3++(FnO.x (fnF t n x.13 s)).6)) (.ret {d:=false,x:= {x with at':=6,p:= {now:=(aI x.7 x.8 x.9 (FnO.x (fnF t n x.13 s)).1 (FnO.x (fnF t n x.13 s)).2 (FnO.x (fnF t n x.13 s)).3 (FnO.x (fnF t n x.13 s)).4 st.2).1,code:=(aI x.7 x.8 x.9 (FnO.x (fnF t n x.13 s)).1 (FnO.x (fnF t n x.13 s)).2 (FnO.x (fnF t n x.13 s)).3 (FnO.x (fnF t n x.13 s)).4 st.2).2,okk:=(aI x.7 x.8 x.9 (FnO.x (fnF t n x.13 s)).1 (FnO.x (fnF t n x.13 s)).2 (FnO.x (fnF t n x.13 s)).3 (FnO.x (fnF t n x.13 s)).4 st.2).3,val:=(aI x.7 x.8 x.9 (FnO.x (fnF t n x.13 s)).1 (FnO.x (fnF t n x.13 s)).2 (FnO.x (fnF t n x.13 s)).3 (FnO.x (fnF t n x.13 s)).4 st.2).4,addr:=(aI x.7 x.8 x.9 (FnO.x (fnF t n x.13 s)).1 (FnO.x (fnF t n x.13 s)).2 (FnO.x (fnF t n x.13 s)).3 (FnO.x (fnF t n x.13 s)).4 st.2).5,old:=(aI x.7 x.8 x.9 (FnO.x (fnF t n x.13 s)).1 (FnO.x (fnF t n x.13 s)).2 (FnO.x (fnF t n x.13 s)).3 (FnO.x (fnF t n x.13 s)).4 st.2).6,nxt:=(aI x.7 x.8 x.9 (FnO.x (fnF t n x.13 s)).1 (FnO.x (fnF t n x.13 s)).2 (FnO.x (fnF t n x.13 s)).3 (FnO.x (fnF t n x.13 s)).4 st.2).7,mark:=(aI x.7 x.8 x.9 (FnO.x (fnF t n x.13 s)).1 (FnO.x (fnF t n x.13 s)).2 (FnO.x (fnF t n x.13 s)).3 (FnO.x (fnF t n x.13 s)).4 st.2).8,pops:=(aI x.7 x.8 x.9 (FnO.x (fnF t n x.13 s)).1 (FnO.x (fnF t n x.13 s)).2 (FnO.x (fnF t n x.13 s)).3 (FnO.x (fnF t n x.13 s)).4 st.2).9},ex:=cN,en:=aS,fn:=aM,cl:=bC,pr:=cQ},st:= {me:=st.1,sp:=st.2,R:=st.3++(FnO.x (fnF t n x.13 s)).6},s:= {t:=(FnO.s (fnF t n x.13 s)).1,n:=(FnO.s (fnF t n x.13 s)).2,xs:=(FnO.s (fnF t n x.13 s)).3,c:=(FnO.s (fnF t n x.13 s)).4,k:=(FnO.s (fnF t n x.13 s)).5,a:=(FnO.s (fnF t n x.13 s)).6,o:=(FnO.s (fnF t n x.13 s)).7,w:=(FnO.s (fnF t n x.13 s)).8,ok:=(FnO.s (fnF t n x.13 s)).9} })) (.pre (oG (aI x.7 x.8 x.9 (FnO.x (fnF t n x.13 s)).1 (FnO.x (fnF t n x.13 s)).2 (FnO.x (fnF t n x.13 s)).3 (FnO.x (fnF t n x.13 s)).4 st.2).1 (aI x.7 x.8 x.9 (FnO.x (fnF t n x.13 s)).1 (FnO.x (fnF t n x.13 s)).2 (FnO.x (fnF t n x.13 s)).3 (FnO.x (fnF t n x.13 s)).4 st.2).2 (aI x.7 x.8 x.9 (FnO.x (fnF t n x.13 s)).1 (FnO.x (fnF t n x.13 s)).2 (FnO.x (fnF t n x.13 s)).3 (FnO.x (fnF t n x.13 s)).4 st.2).3 (aI x.7 x.8 x.9 (FnO.x (fnF t n x.13 s)).1 (FnO.x (fnF t n x.13 s)).2 (FnO.x (fnF t n x.13 s)).3 (FnO.x (fnF t n x.13 s)).4 st.2).4 (aI x.7 x.8 x.9 (FnO.x (fnF t n x.13 s)).1 (FnO.x (fnF t n x.13 s)).2 (FnO.x (fnF t n x.13 s)).3 (FnO.x (fnF t n x.13 s)).4 st.2).5 (aI x.7 x.8 x.9 (FnO.x (fnF t n x.13 s)).1 (FnO.x (fnF t n x.13 s)).2 (FnO.x (fnF t n x.13 s)).3 (FnO.x (fnF t n x.13 s)).4 st.2).6 (aI x.7 x.8 x.9 (FnO.x (fnF t n x.13 s)).1 (FnO.x (fnF t n x.13 s)).2 (FnO.x (fnF t n x.13 s)).3 (FnO.x (fnF t n x.13 s)).4 st.2).7 (aI x.7 x.8 x.9 (FnO.x (fnF t n x.13 s)).1 (FnO.x (fnF t n x.13 s)).2 (FnO.x (fnF t n x.13 s)).3 (FnO.x (fnF t n x.13 s)).4 st.2).8 (aI x.7 x.8 x.9 (FnO.x (fnF t n x.13 s)).1 (FnO.x (fnF t n x.13 s)).2 (FnO.x (fnF t n x.13 s)).3 (FnO.x (fnF t n x.13 s)).4 st.2).9) (.ite (kO (aI x.7 x.8 x.9 (FnO.x (fnF t n x.13 s)).1 (FnO.x (fnF t n x.13 s)).2 (FnO.x (fnF t n x.13 s)).3 (FnO.x (fnF t n x.13 s)).4 st.2).1 (aI x.7 x.8 x.9 (FnO.x (fnF t n x.13 s)).1 (FnO.x (fnF t n x.13 s)).2 (FnO.x (fnF t n x.13 s)).3 (FnO.x (fnF t n x.13 s)).4 st.2).2 (aI x.7 x.8 x.9 (FnO.x (fnF t n x.13 s)).1 (FnO.x (fnF t n x.13 s)).2 (FnO.x (fnF t n x.13 s)).3 (FnO.x (fnF t n x.13 s)).4 st.2).3 (aI x.7 x.8 x.9 (FnO.x (fnF t n x.13 s)).1 (FnO.x (fnF t n x.13 s)).2 (FnO.x (fnF t n x.13 s)).3 (FnO.x (fnF t n x.13 s)).4 st.2).4 (aI x.7 x.8 x.9 (FnO.x (fnF t n x.13 s)).1 (FnO.x (fnF t n x.13 s)).2 (FnO.x (fnF t n x.13 s)).3 (FnO.x (fnF t n x.13 s)).4 st.2).5 (aI x.7 x.8 x.9 (FnO.x (fnF t n x.13 s)).1 (FnO.x (fnF t n x.13 s)).2 (FnO.x (fnF t n x.13 s)).3 (FnO.x (fnF t n x.13 s)).4 st.2).6 (aI x.7 x.8 x.9 (FnO.x (fnF t n x.13 s)).1 (FnO.x (fnF t n x.13 s)).2 (FnO.x (fnF t n x.13 s)).3 (FnO.x (fnF t n x.13 s)).4 st.2).7 (aI x.7 x.8 x.9 (FnO.x (fnF t n x.13 s)).1 (FnO.x (fnF t n x.13 s)).2 (FnO.x (fnF t n x.13 s)).3 (FnO.x (fnF t n x.13 s)).4 st.2).8 (aI x.7 x.8 x.9 (FnO.x (fnF t n x.13 s)).1 (FnO.x (fnF t n x.13 s)).2 (FnO.x (fnF t n x.13 s)).3 (FnO.x (fnF t n x.13 s)).4 st.2).9) (.pre (pO t n (aI x.7 x.8 x.9 (FnO.x (fnF t n x.13 s)).1 (FnO.x (fnF t n x.13 s)).2 (FnO.x (fnF t n x.13 s)).3 (FnO.x (fnF t n x.13 s)).4 st.2).5∧True) (.pre ((t=t∧n=n)∧t=t∧n=n∧(false=false→(7:Int)=(7:Int))∧lE' (FnO.s (fnF t n x.13 s)).3∧List.length st.3+List.length (FnO.x (fnF t n x.13 s)).6=List.length (st.3++(FnO.x (fnF t n x.13 s)).6)) (.ret {d:=false,x:= {x with at':=7,p:= {now:=(aI x.7 x.8 x.9 (FnO.x (fnF t n x.13 s)).1 (FnO.x (fnF t n x.13 s)).2 (FnO.x (fnF t n x.13 s)).3 (FnO.x (fnF t n x.13 s)).4 st.2).1,code:=(aI x.7 x.8 x.9 (FnO.x (fnF t n x.13 s)).1 (FnO.x (fnF t n x.13 s)).2 (FnO.x (fnF t n x.13 s)).3 (FnO.x (fnF t n x.13 s)).4 st.2).2,okk:=(aI x.7 x.8 x.9 (FnO.x (fnF t n x.13 s)).1 (FnO.x (fnF t n x.13 s)).2 (FnO.x (fnF t n x.13 s)).3 (FnO.x (fnF t n x.13 s)).4 st.2).3,val:=(aI x.7 x.8 x.9 (FnO.x (fnF t n x.13 s)).1 (FnO.x (fnF t n x.13 s)).2 (FnO.x (fnF t n x.13 s)).3 (FnO.x (fnF t n x.13 s)).4 st.2).4,addr:=(aI x.7 x.8 x.9 (FnO.x (fnF t n x.13 s)).1 (FnO.x (fnF t n x.13 s)).2 (FnO.x (fnF t n x.13 s)).3 (FnO.x (fnF t n x.13 s)).4 st.2).5,old:=(aI x.7 x.8 x.9 (FnO.x (fnF t n x.13 s)).1 (FnO.x (fnF t n x.13 s)).2 (FnO.x (fnF t n x.13 s)).3 (FnO.x (fnF t n x.13 s)).4 st.2).6,nxt:=(aI x.7 x.8 x.9 (FnO.x (fnF t n x.13 s)).1 (FnO.x (fnF t n x.13 s)).2 (FnO.x (fnF t n x.13 s)).3 (FnO.x (fnF t n x.13 s)).4 st.2).7,mark:=(aI x.7 x.8 x.9 (FnO.x (fnF t n x.13 s)).1 (FnO.x (fnF t n x.13 s)).2 (FnO.x (fnF t n x.13 s)).3 (FnO.x (fnF t n x.13 s)).4 st.2).8,pops:=(aI x.7 x.8 x.9 (FnO.x (fnF t n x.13 s)).1 (FnO.x (fnF t n x.13 s)).2 (FnO.x (fnF t n x.13 s)).3 (FnO.x (fnF t n x.13 s)).4 st.2).9},ex:=cN,en:=aS,fn:=aM,cl:=yK t n (aI x.7 x.8 x.9 (FnO.x (fnF t n x.13 s)).1 (FnO.x (fnF t n x.13 s)).2 (FnO.x (fnF t n x.13 s)).3 (FnO.x (fnF t n x.13 s)).4 st.2).5,pr:=cQ},st:= {me:=st.1,sp:=st.2,R:=st.3++(FnO.x (fnF t n x.13 s)).6},s:= {t:=(FnO.s (fnF t n x.13 s)).1,n:=(FnO.s (fnF t n x.13 s)).2,xs:=(FnO.s (fnF t n x.13 s)).3,c:=(FnO.s (fnF t n x.13 s)).4,k:=(FnO.s (fnF t n x.13 s)).5,a:=(FnO.s (fnF t n x.13 s)).6,o:=(FnO.s (fnF t n x.13 s)).7,w:=(FnO.s (fnF t n x.13 s)).8,ok:=(FnO.s (fnF t n x.13 s)).9} }))) (.pre True (.ite (bS x.8) (.pre ((List.length st.3+List.length (FnO.x (fnF t n x.13 s)).6=List.length (st.3++(FnO.x (fnF t n x.13 s)).6)∧C3 t n x.9 (FnO.x (fnF t n x.13 s)).3 {me:=st.1,sp:=st.2,R:=st.3++(FnO.x (fnF t n x.13 s)).6})∧True) (.pre ((t=t∧n=n)∧t=t∧n=n∧(false=false→(8:Int)=(8:Int))∧lE' (FnO.s (fnF t n x.13 s)).3∧lE' (Prod.snd (lK t n x.9 (FnO.x (fnF t n x.13 s)).3 {me:=st.1,sp:=st.2,R:=st.3++(FnO.x (fnF t n x.13 s)).6})).3) (.ret {d:=false,x:= {x with at':=8,p:= {now:=(aI x.7 x.8 x.9 (FnO.x (fnF t n x.13 s)).1 (FnO.x (fnF t n x.13 s)).2 (FnO.x (fnF t n x.13 s)).3 (FnO.x (fnF t n x.13 s)).4 st.2).1,code:=(aI x.7 x.8 x.9 (FnO.x (fnF t n x.13 s)).1 (FnO.x (fnF t n x.13 s)).2 (FnO.x (fnF t n x.13 s)).3 (FnO.x (fnF t n x.13 s)).4 st.2).2,okk:=(aI x.7 x.8 x.9 (FnO.x (fnF t n x.13 s)).1 (FnO.x (fnF t n x.13 s)).2 (FnO.x (fnF t n x.13 s)).3 (FnO.x (fnF t n x.13 s)).4 st.2).3,val:=(aI x.7 x.8 x.9 (FnO.x (fnF t n x.13 s)).1 (FnO.x (fnF t n x.13 s)).2 (FnO.x (fnF t n x.13 s)).3 (FnO.x (fnF t n x.13 s)).4 st.2).4,addr:=(aI x.7 x.8 x.9 (FnO.x (fnF t n x.13 s)).1 (FnO.x (fnF t n x.13 s)).2 (FnO.x (fnF t n x.13 s)).3 (FnO.x (fnF t n x.13 s)).4 st.2).5,old:=(aI x.7 x.8 x.9 (FnO.x (fnF t n x.13 s)).1 (FnO.x (fnF t n x.13 s)).2 (FnO.x (fnF t n x.13 s)).3 (FnO.x (fnF t n x.13 s)).4 st.2).6,nxt:=(aI x.7 x.8 x.9 (FnO.x (fnF t n x.13 s)).1 (FnO.x (fnF t n x.13 s)).2 (FnO.x (fnF t n x.13 s)).3 (FnO.x (fnF t n x.13 s)).4 st.2).7,mark:=(aI x.7 x.8 x.9 (FnO.x (fnF t n x.13 s)).1 (FnO.x (fnF t n x.13 s)).2 (FnO.x (fnF t n x.13 s)).3 (FnO.x (fnF t n x.13 s)).4 st.2).8,pops:=(aI x.7 x.8 x.9 (FnO.x (fnF t n x.13 s)).1 (FnO.x (fnF t n x.13 s)).2 (FnO.x (fnF t n x.13 s)).3 (FnO.x (fnF t n x.13 s)).4 st.2).9},ex:=cN,en:=aS,fn:=aM,cl:=bC,pr:=(lK t n x.9 (FnO.x (fnF t n x.13 s)).3 {me:=st.1,sp:=st.2,R:=st.3++(FnO.x (fnF t n x.13 s)).6}).1},st:= {me:=(Prod.snd (lK t n x.9 (FnO.x (fnF t n x.13 s)).3 {me:=st.1,sp:=st.2,R:=st.3++(FnO.x (fnF t n x.13 s)).6})).1,sp:=(Prod.snd (lK t n x.9 (FnO.x (fnF t n x.13 s)).3 {me:=st.1,sp:=st.2,R:=st.3++(FnO.x (fnF t n x.13 s)).6})).2,R:=(Prod.snd (lK t n x.9 (FnO.x (fnF t n x.13 s)).3 {me:=st.1,sp:=st.2,R:=st.3++(FnO.x (fnF t n x.13 s)).6})).3},s:= {t:=(FnO.s (fnF t n x.13 s)).1,n:=(FnO.s (fnF t n x.13 s)).2,xs:=(FnO.s (fnF t n x.13 s)).3,c:=(FnO.s (fnF t n x.13 s)).4,k:=(FnO.s (fnF t n x.13 s)).5,a:=(FnO.s (fnF t n x.13 s)).6,o:=(FnO.s (fnF t n x.13 s)).7,w:=(FnO.s (fnF t n x.13 s)).8,ok:=(FnO.s (fnF t n x.13 s)).9} }))) (.pre ((t=t∧n=n)∧(false=false→(9:Int)≠(3:Int)∧(9:Int)≠(4:Int)∧(9:Int)≠(5:Int)∧(9:Int)≠(7:Int)∧(9:Int)≠(8:Int))∧lE' (FnO.s (fnF t n x.13 s)).3∧List.length st.3+List.length (FnO.x (fnF t n x.13 s)).6=List.length (st.3++(FnO.x (fnF t n x.13 s)).6)) (.ret {d:=false,x:= {x with at':=9,p:= {now:=(aI x.7 x.8 x.9 (FnO.x (fnF t n x.13 s)).1 (FnO.x (fnF t n x.13 s)).2 (FnO.x (fnF t n x.13 s)).3 (FnO.x (fnF t n x.13 s)).4 st.2).1,code:=(aI x.7 x.8 x.9 (FnO.x (fnF t n x.13 s)).1 (FnO.x (fnF t n x.13 s)).2 (FnO.x (fnF t n x.13 s)).3 (FnO.x (fnF t n x.13 s)).4 st.2).2,okk:=(aI x.7 x.8 x.9 (FnO.x (fnF t n x.13 s)).1 (FnO.x (fnF t n x.13 s)).2 (FnO.x (fnF t n x.13 s)).3 (FnO.x (fnF t n x.13 s)).4 st.2).3,val:=(aI x.7 x.8 x.9 (FnO.x (fnF t n x.13 s)).1 (FnO.x (fnF t n x.13 s)).2 (FnO.x (fnF t n x.13 s)).3 (FnO.x (fnF t n x.13 s)).4 st.2).4,addr:=(aI x.7 x.8 x.9 (FnO.x (fnF t n x.13 s)).1 (FnO.x (fnF t n x.13 s)).2 (FnO.x (fnF t n x.13 s)).3 (FnO.x (fnF t n x.13 s)).4 st.2).5,old:=(aI x.7 x.8 x.9 (FnO.x (fnF t n x.13 s)).1 (FnO.x (fnF t n x.13 s)).2 (FnO.x (fnF t n x.13 s)).3 (FnO.x (fnF t n x.13 s)).4 st.2).6,nxt:=(aI x.7 x.8 x.9 (FnO.x (fnF t n x.13 s)).1 (FnO.x (fnF t n x.13 s)).2 (FnO.x (fnF t n x.13 s)).3 (FnO.x (fnF t n x.13 s)).4 st.2).7,mark:=(aI x.7 x.8 x.9 (FnO.x (fnF t n x.13 s)).1 (FnO.x (fnF t n x.13 s)).2 (FnO.x (fnF t n x.13 s)).3 (FnO.x (fnF t n x.13 s)).4 st.2).8,pops:=(aI x.7 x.8 x.9 (FnO.x (fnF t n x.13 s)).1 (FnO.x (fnF t n x.13 s)).2 (FnO.x (fnF t n x.13 s)).3 (FnO.x (fnF t n x.13 s)).4 st.2).9},ex:=cN,en:=aS,fn:=aM,cl:=bC,pr:=cQ},st:= {me:=st.1,sp:=st.2,R:=st.3++(FnO.x (fnF t n x.13 s)).6},s:= {t:=(FnO.s (fnF t n x.13 s)).1,n:=(FnO.s (fnF t n x.13 s)).2,xs:=(FnO.s (fnF t n x.13 s)).3,c:=(FnO.s (fnF t n x.13 s)).4,k:=(FnO.s (fnF t n x.13 s)).5,a:=(FnO.s (fnF t n x.13 s)).6,o:=(FnO.s (fnF t n x.13 s)).7,w:=(FnO.s (fnF t n x.13 s)).8,ok:=(FnO.s (fnF t n x.13 s)).9} })))))))))) (.pre ((t=t∧n=n)∧t=t∧n=n∧(false=false→(5:Int)=(5:Int))∧lE' (FnO.s (fnF t n x.13 s)).3∧lE' st.3) (.ret {d:=false,x:= {x with at':=5,p:= {now:=(HPS.p x).1,code:=(HPS.p x).2,okk:=(HPS.p x).3,val:=(HPS.p x).4,addr:=(HPS.p x).5,old:=(HPS.p x).6,nxt:=(HPS.p x).7,mark:=(HPS.p x).8,pops:=(HPS.p x).9},ex:=cN,en:=aS,fn:=(fnF t n x.13 s).2,cl:=bC,pr:=cQ},st:= {me:=st.1,sp:=st.2,R:=st.3},s:= {t:=(FnO.s (fnF t n x.13 s)).1,n:=(FnO.s (fnF t n x.13 s)).2,xs:=(FnO.s (fnF t n x.13 s)).3,c:=(FnO.s (fnF t n x.13 s)).4,k:=(FnO.s (fnF t n x.13 s)).5,a:=(FnO.s (fnF t n x.13 s)).6,o:=(FnO.s (fnF t n x.13 s)).7,w:=(FnO.s (fnF t n x.13 s)).8,ok:=(FnO.s (fnF t n x.13 s)).9} })))
theorem KG(t n:Int)(x:HPS)(st:STS)(s:MS)(K:HpO→Prop)(h:(CI t n x st s).run K):cT' 52 [.ptr 0 0,.ptr 2 0] [some (.cells [.ptr 1 0,.int .i64 x.u,.int .u64 x.no,.int .i64 x.rounds,.int .i64 x.limit,.int .i64 5,.int .u64 x.found,.int .i64 x.sh,.int .i64 x.kd,.int .i64 x.ky,.bool x.p.now,.int .i64 x.p.code,.bool x.p.okk,.int .i64 x.p.val,.int .i64 x.p.addr,.int .u64 x.p.old,.int .i64 x.p.nxt,.bool x.p.mark,.int .i64 x.p.pops,.O,.O,.ptr 4 0,.O,.O]),stC 5 t n st,a8 3 s,a9 s,some (.abs (.find t n x.fn) []),fS st] (cC 4 0 [19,20,21,22,23] [(.cell 1 4,.ints (some .i64))] (vU t n) K):=by
 exact cM' (E:=EH0) (by kernel_rfl) h
def CJ(t n:Int)(x:HPS)(st:STS)(s:MS):Tr HpO:=.pre True (.pre True (.pre True (.pre ((((0:Int)≤t∧t≤(100000:Int))∧((0:Int)≤n∧n≤(100000:Int))∧(-1099511627776:Int)≤x.1∧x.1≤(1099511627776:Int))∧True) (.pre ((lE' s.3∧(0:Int)≤s.4∧s.4≤(4611686018427387904:Int))∧True) (.pre ((t=t∧n=n)∧(false=false→(0:Int)≠(3:Int)∧(0:Int)≠(4:Int)∧(0:Int)≠(5:Int)∧(0:Int)≠(7:Int)∧(0:Int)≠(8:Int))∧lE' (bif aR s.3 (2*n+5+2*t+3*x.1+2) x.6 then aL s.3 (2*n+5+2*t+3*x.1+2) (bif dOk (aA x.6 0 12) 0 0 (bif ieq (HPS.p x).2 4 then 1 else 0) 5 (HPS.p x).4 then cO (aA x.6 0 12) 0 0 (bif ieq (HPS.p x).2 4 then 1 else 0) (HPS.p x).3 5 (HPS.p x).4 else 0)else s.3)∧lE' st.3) (.ret {d:=false,x:= {x with at':=0,p:= {now:=(HPS.p x).1,code:=(HPS.p x).2,okk:=(HPS.p x).3,val:=(HPS.p x).4,addr:=(HPS.p x).5,old:=(HPS.p x).6,nxt:=(HPS.p x).7,mark:=(HPS.p x).8,pops:=(HPS.p x).9},ex:=cN,en:=aS,fn:=aM,cl:=bC,pr:=cQ},st:= {me:=st.1,sp:=st.2,R:=st.3},s:= {t:=s.1,n:=s.2,xs:=bif aR s.3 (2*n+5+2*t+3*x.1+2) x.6 then aL s.3 (2*n+5+2*t+3*x.1+2) (bif dOk (aA x.6 0 12) 0 0 (bif ieq (HPS.p x).2 4 then 1 else 0) 5 (HPS.p x).4 then cO (aA x.6 0 12) 0 0 (bif ieq (HPS.p x).2 4 then 1 else 0) (HPS.p x).3 5 (HPS.p x).4 else 0)else s.3,c:=s.4+1,k:=3,a:=2*n+5+2*t+3*x.1+2,o:=aB s.3 (2*n+5+2*t+3*x.1+2),w:=bif bM s.3 (2*n+5+2*t+3*x.1+2)then bif dOk (aA x.6 0 12) 0 0 (bif ieq (HPS.p x).2 4 then 1 else 0) 5 (HPS.p x).4 then cO (aA x.6 0 12) 0 0 (bif ieq (HPS.p x).2 4 then 1 else 0) (HPS.p x).3 5 (HPS.p x).4 else 0 else 0,ok:=aR s.3 (2*n+5+2*t+3*x.1+2) x.6} }))))))
theorem KH(t n:Int)(x:HPS)(st:STS)(s:MS)(K:HpO→Prop)(h:(CJ t n x st s).run K):cT' 52 [.ptr 0 0,.ptr 2 0] [some (.cells [.ptr 1 0,.int .i64 x.u,.int .u64 x.no,.int .i64 x.rounds,.int .i64 x.limit,.int .i64 6,.int .u64 x.found,.int .i64 x.sh,.int .i64 x.kd,.int .i64 x.ky,.bool x.p.now,.int .i64 x.p.code,.bool x.p.okk,.int .i64 x.p.val,.int .i64 x.p.addr,.int .u64 x.p.old,.int .i64 x.p.nxt,.bool x.p.mark,.int .i64 x.p.pops,.O,.O,.O,.O,.O]),stC 4 t n st,a8 3 s,a9 s,fS st] (cC 4 0 [19,20,21,22,23] [(.cell 1 4,.ints (some .i64))] (vU t n) K):=by
 exact cM' (E:=EH0) (by kernel_rfl) h
def CK(t n:Int)(x:HPS)(st:STS)(s:MS):Tr HpO:=.pre (lE' s.3∧MQ t n x.14 s) (.ite (dL t n x.14 s).1 (.pre ((t=t∧n=n)∧(false=false→(0:Int)≠(3:Int)∧(0:Int)≠(4:Int)∧(0:Int)≠(5:Int)∧(0:Int)≠(7:Int)∧(0:Int)≠(8:Int))∧lE' (ClO.s (dL t n x.14 s)).3∧lE' st.3) (.ret {d:=false,x:= {x with at':=0,p:= {now:=(HPS.p x).1,code:=(HPS.p x).2,okk:=(HPS.p x).3,val:=(HPS.p x).4,addr:=(HPS.p x).5,old:=(HPS.p x).6,nxt:=(HPS.p x).7,mark:=(HPS.p x).8,pops:=(HPS.p x).9},ex:=cN,en:=aS,fn:=aM,cl:=bC,pr:=cQ},st:= {me:=st.1,sp:=st.2,R:=st.3},s:= {t:=(ClO.s (dL t n x.14 s)).1,n:=(ClO.s (dL t n x.14 s)).2,xs:=(ClO.s (dL t n x.14 s)).3,c:=(ClO.s (dL t n x.14 s)).4,k:=(ClO.s (dL t n x.14 s)).5,a:=(ClO.s (dL t n x.14 s)).6,o:=(ClO.s (dL t n x.14 s)).7,w:=(ClO.s (dL t n x.14 s)).8,ok:=(ClO.s (dL t n x.14 s)).9} })) (.pre ((t=t∧n=n)∧t=t∧n=n∧(false=false→(7:Int)=(7:Int))∧lE' (ClO.s (dL t n x.14 s)).3∧lE' st.3) (.ret {d:=false,x:= {x with at':=7,p:= {now:=(HPS.p x).1,code:=(HPS.p x).2,okk:=(HPS.p x).3,val:=(HPS.p x).4,addr:=(HPS.p x).5,old:=(HPS.p x).6,nxt:=(HPS.p x).7,mark:=(HPS.p x).8,pops:=(HPS.p x).9},ex:=cN,en:=aS,fn:=aM,cl:=(dL t n x.14 s).2,pr:=cQ},st:= {me:=st.1,sp:=st.2,R:=st.3},s:= {t:=(ClO.s (dL t n x.14 s)).1,n:=(ClO.s (dL t n x.14 s)).2,xs:=(ClO.s (dL t n x.14 s)).3,c:=(ClO.s (dL t n x.14 s)).4,k:=(ClO.s (dL t n x.14 s)).5,a:=(ClO.s (dL t n x.14 s)).6,o:=(ClO.s (dL t n x.14 s)).7,w:=(ClO.s (dL t n x.14 s)).8,ok:=(ClO.s (dL t n x.14 s)).9} })))
theorem KI(t n:Int)(x:HPS)(st:STS)(s:MS)(K:HpO→Prop)(h:(CK t n x st s).run K):cT' 52 [.ptr 0 0,.ptr 2 0] [some (.cells [.ptr 1 0,.int .i64 x.u,.int .u64 x.no,.int .i64 x.rounds,.int .i64 x.limit,.int .i64 7,.int .u64 x.found,.int .i64 x.sh,.int .i64 x.kd,.int .i64 x.ky,.bool x.p.now,.int .i64 x.p.code,.bool x.p.okk,.int .i64 x.p.val,.int .i64 x.p.addr,.int .u64 x.p.old,.int .i64 x.p.nxt,.bool x.p.mark,.int .i64 x.p.pops,.O,.O,.O,.ptr 4 0,.O]),stC 5 t n st,a8 3 s,a9 s,some (.abs (.clear t n x.cl) []),fS st] (cC 4 0 [19,20,21,22,23] [(.cell 1 4,.ints (some .i64))] (vU t n) K):=by
 exact cM' (E:=EH0) (by kernel_rfl) h
def CL(t n:Int)(x:HPS)(st:STS)(s:MS):Tr HpO:=.pre ((lE' s.3∧lE' st.3∧t=t∧n=n)∧PA t n x.15 st s) (.ite (prF t n x.15 st s).1 (.pre ((t=t∧n=n)∧(false=false→(9:Int)≠(3:Int)∧(9:Int)≠(4:Int)∧(9:Int)≠(5:Int)∧(9:Int)≠(7:Int)∧(9:Int)≠(8:Int))∧lE' (PrO.s (prF t n x.15 st s)).3∧lE' (PrO.st (prF t n x.15 st s)).3) (.ret {d:=false,x:= {x with at':=9,p:= {now:=(HPS.p x).1,code:=(HPS.p x).2,okk:=(HPS.p x).3,val:=(HPS.p x).4,addr:=(HPS.p x).5,old:=(HPS.p x).6,nxt:=(HPS.p x).7,mark:=(HPS.p x).8,pops:=(HPS.p x).9},ex:=cN,en:=aS,fn:=aM,cl:=bC,pr:=cQ},st:= {me:=(PrO.st (prF t n x.15 st s)).1,sp:=(PrO.st (prF t n x.15 st s)).2,R:=(PrO.st (prF t n x.15 st s)).3},s:= {t:=(PrO.s (prF t n x.15 st s)).1,n:=(PrO.s (prF t n x.15 st s)).2,xs:=(PrO.s (prF t n x.15 st s)).3,c:=(PrO.s (prF t n x.15 st s)).4,k:=(PrO.s (prF t n x.15 st s)).5,a:=(PrO.s (prF t n x.15 st s)).6,o:=(PrO.s (prF t n x.15 st s)).7,w:=(PrO.s (prF t n x.15 st s)).8,ok:=(PrO.s (prF t n x.15 st s)).9} })) (.pre ((t=t∧n=n)∧t=t∧n=n∧(false=false→(8:Int)=(8:Int))∧lE' (PrO.s (prF t n x.15 st s)).3∧lE' (PrO.st (prF t n x.15 st s)).3) (.ret {d:=false,x:= {x with at':=8,p:= {now:=(HPS.p x).1,code:=(HPS.p x).2,okk:=(HPS.p x).3,val:=(HPS.p x).4,addr:=(HPS.p x).5,old:=(HPS.p x).6,nxt:=(HPS.p x).7,mark:=(HPS.p x).8,pops:=(HPS.p x).9},ex:=cN,en:=aS,fn:=aM,cl:=bC,pr:=(prF t n x.15 st s).2},st:= {me:=(PrO.st (prF t n x.15 st s)).1,sp:=(PrO.st (prF t n x.15 st s)).2,R:=(PrO.st (prF t n x.15 st s)).3},s:= {t:=(PrO.s (prF t n x.15 st s)).1,n:=(PrO.s (prF t n x.15 st s)).2,xs:=(PrO.s (prF t n x.15 st s)).3,c:=(PrO.s (prF t n x.15 st s)).4,k:=(PrO.s (prF t n x.15 st s)).5,a:=(PrO.s (prF t n x.15 st s)).6,o:=(PrO.s (prF t n x.15 st s)).7,w:=(PrO.s (prF t n x.15 st s)).8,ok:=(PrO.s (prF t n x.15 st s)).9} })))
theorem KJ(t n:Int)(x:HPS)(st:STS)(s:MS)(K:HpO→Prop)(h:(CL t n x st s).run K):cT' 52 [.ptr 0 0,.ptr 2 0] [some (.cells [.ptr 1 0,.int .i64 x.u,.int .u64 x.no,.int .i64 x.rounds,.int .i64 x.limit,.int .i64 8,.int .u64 x.found,.int .i64 x.sh,.int .i64 x.kd,.int .i64 x.ky,.bool x.p.now,.int .i64 x.p.code,.bool x.p.okk,.int .i64 x.p.val,.int .i64 x.p.addr,.int .u64 x.p.old,.int .i64 x.p.nxt,.bool x.p.mark,.int .i64 x.p.pops,.O,.O,.O,.O,.ptr 4 0]),stC 5 t n st,a8 3 s,a9 s,some (.abs (.prepare t n x.pr) [1]),fS st] (cC 4 0 [19,20,21,22,23] [(.cell 1 4,.ints (some .i64))] (vU t n) K):=by
 exact cM' (E:=EH0) (by kernel_rfl) h
def CM(t n:Int)(x:HPS)(st:STS)(s:MS):Tr HpO:=.pre True (.pre (zM (HPS.p x).1 (HPS.p x).2 (HPS.p x).3 (HPS.p x).4 (HPS.p x).5 (HPS.p x).6 (HPS.p x).7 (HPS.p x).8 (HPS.p x).9 (aA x.6 0 12)∧True) (.pre ((((0:Int)≤t∧t≤(100000:Int))∧((0:Int)≤n∧n≤(100000:Int))∧(-1099511627776:Int)≤x.1∧x.1≤(1099511627776:Int))∧True) (.pre ((lE' s.3∧(0:Int)≤s.4∧s.4≤(4611686018427387904:Int))∧True) (.ite (aR s.3 (2*n+5+2*t+3*x.1+2) x.6) (.pre True (.ite (bS x.8) (.pre ((t=t∧n=n)∧(false=false→(0:Int)≠(3:Int)∧(0:Int)≠(4:Int)∧(0:Int)≠(5:Int)∧(0:Int)≠(7:Int)∧(0:Int)≠(8:Int))∧lE' (bif aR s.3 (2*n+5+2*t+3*x.1+2) x.6 then aL s.3 (2*n+5+2*t+3*x.1+2) (gA (HPS.p x).1 (HPS.p x).2 (HPS.p x).3 (HPS.p x).4 (HPS.p x).5 (HPS.p x).6 (HPS.p x).7 (HPS.p x).8 (HPS.p x).9 (aA x.6 0 12)).1 else s.3)∧lE' st.3) (.ret {d:=false,x:= {x with at':=0,p:= {now:=(HPS.p x).1,code:=(HPS.p x).2,okk:=(HPS.p x).3,val:=(HPS.p x).4,addr:=(HPS.p x).5,old:=(HPS.p x).6,nxt:=(HPS.p x).7,mark:=(HPS.p x).8,pops:=(HPS.p x).9},ex:=cN,en:=aS,fn:=aM,cl:=bC,pr:=cQ},st:= {me:=st.1,sp:=0,R:=st.3},s:= {t:=s.1,n:=s.2,xs:=bif aR s.3 (2*n+5+2*t+3*x.1+2) x.6 then aL s.3 (2*n+5+2*t+3*x.1+2) (gA (HPS.p x).1 (HPS.p x).2 (HPS.p x).3 (HPS.p x).4 (HPS.p x).5 (HPS.p x).6 (HPS.p x).7 (HPS.p x).8 (HPS.p x).9 (aA x.6 0 12)).1 else s.3,c:=s.4+1,k:=3,a:=2*n+5+2*t+3*x.1+2,o:=aB s.3 (2*n+5+2*t+3*x.1+2),w:=bif bM s.3 (2*n+5+2*t+3*x.1+2)then(gA (HPS.p x).1 (HPS.p x).2 (HPS.p x).3 (HPS.p x).4 (HPS.p x).5 (HPS.p x).6 (HPS.p x).7 (HPS.p x).8 (HPS.p x).9 (aA x.6 0 12)).1 else 0,ok:=aR s.3 (2*n+5+2*t+3*x.1+2) x.6} })) (.pre ((t=t∧n=n)∧(false=false→(0:Int)≠(3:Int)∧(0:Int)≠(4:Int)∧(0:Int)≠(5:Int)∧(0:Int)≠(7:Int)∧(0:Int)≠(8:Int))∧lE' (bif aR s.3 (2*n+5+2*t+3*x.1+2) x.6 then aL s.3 (2*n+5+2*t+3*x.1+2) (gA (HPS.p x).1 (HPS.p x).2 (HPS.p x).3 (HPS.p x).4 (HPS.p x).5 (HPS.p x).6 (HPS.p x).7 (HPS.p x).8 (HPS.p x).9 (aA x.6 0 12)).1 else s.3)∧lE' st.3) (.ret {d:=false,x:= {x with at':=0,p:= {now:=(HPS.p x).1,code:=(HPS.p x).2,okk:=(HPS.p x).3,val:=(HPS.p x).4,addr:=(HPS.p x).5,old:=(HPS.p x).6,nxt:=(HPS.p x).7,mark:=(HPS.p x).8,pops:=(HPS.p x).9},ex:=cN,en:=aS,fn:=aM,cl:=bC,pr:=cQ},st:= {me:=st.1,sp:=st.2,R:=st.3},s:= {t:=s.1,n:=s.2,xs:=bif aR s.3 (2*n+5+2*t+3*x.1+2) x.6 then aL s.3 (2*n+5+2*t+3*x.1+2) (gA (HPS.p x).1 (HPS.p x).2 (HPS.p x).3 (HPS.p x).4 (HPS.p x).5 (HPS.p x).6 (HPS.p x).7 (HPS.p x).8 (HPS.p x).9 (aA x.6 0 12)).1 else s.3,c:=s.4+1,k:=3,a:=2*n+5+2*t+3*x.1+2,o:=aB s.3 (2*n+5+2*t+3*x.1+2),w:=bif bM s.3 (2*n+5+2*t+3*x.1+2)then(gA (HPS.p x).1 (HPS.p x).2 (HPS.p x).3 (HPS.p x).4 (HPS.p x).5 (HPS.p x).6 (HPS.p x).7 (HPS.p x).8 (HPS.p x).9 (aA x.6 0 12)).1 else 0,ok:=aR s.3 (2*n+5+2*t+3*x.1+2) x.6} })))) (.pre ((t=t∧n=n)∧(false=false→(0:Int)≠(3:Int)∧(0:Int)≠(4:Int)∧(0:Int)≠(5:Int)∧(0:Int)≠(7:Int)∧(0:Int)≠(8:Int))∧lE' (bif aR s.3 (2*n+5+2*t+3*x.1+2) x.6 then aL s.3 (2*n+5+2*t+3*x.1+2) (gA (HPS.p x).1 (HPS.p x).2 (HPS.p x).3 (HPS.p x).4 (HPS.p x).5 (HPS.p x).6 (HPS.p x).7 (HPS.p x).8 (HPS.p x).9 (aA x.6 0 12)).1 else s.3)∧lE' st.3) (.ret {d:=false,x:= {x with at':=0,p:= {now:=(HPS.p x).1,code:=(HPS.p x).2,okk:=(HPS.p x).3,val:=(HPS.p x).4,addr:=(HPS.p x).5,old:=(HPS.p x).6,nxt:=(HPS.p x).7,mark:=(HPS.p x).8,pops:=(HPS.p x).9},ex:=cN,en:=aS,fn:=aM,cl:=bC,pr:=cQ},st:= {me:=st.1,sp:=st.2,R:=st.3},s:= {t:=s.1,n:=s.2,xs:=bif aR s.3 (2*n+5+2*t+3*x.1+2) x.6 then aL s.3 (2*n+5+2*t+3*x.1+2) (gA (HPS.p x).1 (HPS.p x).2 (HPS.p x).3 (HPS.p x).4 (HPS.p x).5 (HPS.p x).6 (HPS.p x).7 (HPS.p x).8 (HPS.p x).9 (aA x.6 0 12)).1 else s.3,c:=s.4+1,k:=3,a:=2*n+5+2*t+3*x.1+2,o:=aB s.3 (2*n+5+2*t+3*x.1+2),w:=bif bM s.3 (2*n+5+2*t+3*x.1+2)then(gA (HPS.p x).1 (HPS.p x).2 (HPS.p x).3 (HPS.p x).4 (HPS.p x).5 (HPS.p x).6 (HPS.p x).7 (HPS.p x).8 (HPS.p x).9 (aA x.6 0 12)).1 else 0,ok:=aR s.3 (2*n+5+2*t+3*x.1+2) x.6} }))))))
theorem KK(t n:Int)(x:HPS)(st:STS)(s:MS)(K:HpO→Prop)(h:(CM t n x st s).run K):cT' 52 [.ptr 0 0,.ptr 2 0] [some (.cells [.ptr 1 0,.int .i64 x.u,.int .u64 x.no,.int .i64 x.rounds,.int .i64 x.limit,.int .i64 9,.int .u64 x.found,.int .i64 x.sh,.int .i64 x.kd,.int .i64 x.ky,.bool x.p.now,.int .i64 x.p.code,.bool x.p.okk,.int .i64 x.p.val,.int .i64 x.p.addr,.int .u64 x.p.old,.int .i64 x.p.nxt,.bool x.p.mark,.int .i64 x.p.pops,.O,.O,.O,.O,.O]),stC 4 t n st,a8 3 s,a9 s,fS st] (cC 4 0 [19,20,21,22,23] [(.cell 1 4,.ints (some .i64))] (vU t n) K):=by
 exact cM' (E:=EH0) (by kernel_rfl) h
def hpT(t n:Int)(x:HPS)(st:STS)(s:MS):Tr HpO:=
 bif ieq x.at' 0 then CD t n x st s else
 bif ieq x.at' 1 then CE t n x st s else
 bif ieq x.at' 2 then CF t n x st s else
 bif ieq x.at' 3 then CG t n x st s else
 bif ieq x.at' 4 then CH t n x st s else
 bif ieq x.at' 5 then CI t n x st s else
 bif ieq x.at' 6 then CJ t n x st s else
 bif ieq x.at' 7 then CK t n x st s else
 bif ieq x.at' 8 then CL t n x st s else
 bif ieq x.at' 9 then CM t n x st s else .pre False (.ret default)
def dE(t n:Int)(x:HPS)(st:STS)(s:MS):HpO:=(hpT t n x st s).val
def OC(t n:Int)(x:HPS)(st:STS)(s:MS):Prop:=(hpT t n x st s).ok
theorem HX(t n:Int)(x:HPS)(st:STS)(s:MS)(K:AVal→aD Ob→Prop)(h:(hpT t n x st s).run (fun y=>(HpO.fin t n y).run K)):cT' 52 [.ptr 0 0,.ptr 2 0] (HW t n x st s) K:=by
 unfold hpT at h
 by_cases e:x.at'=0
 ·rw [e]at h
  have h:(CD t n x st s).run _:=h
  refine aC9 (root:=0) (pos:=[19,20,21,22,23]) (cs:=[(.cell 1 4,.ints (some .i64))]) (parse:=vU t n) (fin:=HpO.fin t n) kL ((bE.unpack (.help t n x) 0 1 (kK t n x) [1] rfl (congrArg (Prod.mk 1) (jG ⟨(by omega),(by omega),(by omega),(by omega),(by omega)⟩)) (by kernel_rfl) rfl).trans (bE.unpack (.store t n st) 1 0 (dG t n st) [] rfl rfl rfl rfl)) ?_
  have q:=KB t n x st s _ h
  rw [←e]at q
  exact q
 rw [bW e]at h
 by_cases e:x.at'=1
 ·rw [e]at h
  have h:(CE t n x st s).run _:=h
  refine aC9 (root:=0) (pos:=[19,20,21,22,23]) (cs:=[(.cell 1 4,.ints (some .i64))]) (parse:=vU t n) (fin:=HpO.fin t n) kL ((bE.unpack (.help t n x) 0 1 (kK t n x) [1] rfl (congrArg (Prod.mk 1) (jG ⟨(by omega),(by omega),(by omega),(by omega),(by omega)⟩)) (by kernel_rfl) rfl).trans (bE.unpack (.store t n st) 1 0 (dG t n st) [] rfl rfl rfl rfl)) ?_
  have q:=KC t n x st s _ h
  rw [←e]at q
  exact q
 rw [bW e]at h
 by_cases e:x.at'=2
 ·rw [e]at h
  have h:(CF t n x st s).run _:=h
  refine aC9 (root:=0) (pos:=[19,20,21,22,23]) (cs:=[(.cell 1 4,.ints (some .i64))]) (parse:=vU t n) (fin:=HpO.fin t n) kL ((bE.unpack (.help t n x) 0 1 (kK t n x) [1] rfl (congrArg (Prod.mk 1) (jG ⟨(by omega),(by omega),(by omega),(by omega),(by omega)⟩)) (by kernel_rfl) rfl).trans (bE.unpack (.store t n st) 1 0 (dG t n st) [] rfl rfl rfl rfl)) ?_
  have q:=KD t n x st s _ h
  rw [←e]at q
  exact q
 rw [bW e]at h
 by_cases e:x.at'=3
 ·rw [e]at h
  have h:(CG t n x st s).run _:=h
  refine aC9 (root:=0) (pos:=[19,20,21,22,23]) (cs:=[(.cell 1 4,.ints (some .i64))]) (parse:=vU t n) (fin:=HpO.fin t n) kL ((bE.unpack (.help t n x) 0 1 (nG t n x) [1] rfl (congrArg (Prod.mk 1) (HR e)) (by kernel_rfl) rfl).trans (bE.unpack (.store t n st) 1 0 (dG t n st) [] rfl rfl rfl rfl)) ?_
  have q:=KE t n x st s _ h
  rw [←e]at q
  exact q
 rw [bW e]at h
 by_cases e:x.at'=4
 ·rw [e]at h
  have h:(CH t n x st s).run _:=h
  refine aC9 (root:=0) (pos:=[19,20,21,22,23]) (cs:=[(.cell 1 4,.ints (some .i64))]) (parse:=vU t n) (fin:=HpO.fin t n) kL ((bE.unpack (.help t n x) 0 1 (nF t n x) [1] rfl (congrArg (Prod.mk 1) (HS e)) (by kernel_rfl) rfl).trans (bE.unpack (.store t n st) 1 0 (dG t n st) [] rfl rfl rfl rfl)) ?_
  have q:=KF t n x st s _ h
  rw [←e]at q
  exact q
 rw [bW e]at h
 by_cases e:x.at'=5
 ·rw [e]at h
  have h:(CI t n x st s).run _:=h
  refine aC9 (root:=0) (pos:=[19,20,21,22,23]) (cs:=[(.cell 1 4,.ints (some .i64))]) (parse:=vU t n) (fin:=HpO.fin t n) kL ((bE.unpack (.help t n x) 0 1 (nH t n x) [1] rfl (congrArg (Prod.mk 1) (HT e)) (by kernel_rfl) rfl).trans (bE.unpack (.store t n st) 1 0 (dG t n st) [] rfl rfl rfl rfl)) ?_
  have q:=KG t n x st s _ h
  rw [←e]at q
  exact q
 rw [bW e]at h
 by_cases e:x.at'=6
 ·rw [e]at h
  have h:(CJ t n x st s).run _:=h
  refine aC9 (root:=0) (pos:=[19,20,21,22,23]) (cs:=[(.cell 1 4,.ints (some .i64))]) (parse:=vU t n) (fin:=HpO.fin t n) kL ((bE.unpack (.help t n x) 0 1 (kK t n x) [1] rfl (congrArg (Prod.mk 1) (jG ⟨(by omega),(by omega),(by omega),(by omega),(by omega)⟩)) (by kernel_rfl) rfl).trans (bE.unpack (.store t n st) 1 0 (dG t n st) [] rfl rfl rfl rfl)) ?_
  have q:=KH t n x st s _ h
  rw [←e]at q
  exact q
 rw [bW e]at h
 by_cases e:x.at'=7
 ·rw [e]at h
  have h:(CK t n x st s).run _:=h
  refine aC9 (root:=0) (pos:=[19,20,21,22,23]) (cs:=[(.cell 1 4,.ints (some .i64))]) (parse:=vU t n) (fin:=HpO.fin t n) kL ((bE.unpack (.help t n x) 0 1 (nE t n x) [1] rfl (congrArg (Prod.mk 1) (HU e)) (by kernel_rfl) rfl).trans (bE.unpack (.store t n st) 1 0 (dG t n st) [] rfl rfl rfl rfl)) ?_
  have q:=KI t n x st s _ h
  rw [←e]at q
  exact q
 rw [bW e]at h
 by_cases e:x.at'=8
 ·rw [e]at h
  have h:(CL t n x st s).run _:=h
  refine aC9 (root:=0) (pos:=[19,20,21,22,23]) (cs:=[(.cell 1 4,.ints (some .i64))]) (parse:=vU t n) (fin:=HpO.fin t n) kL ((bE.unpack (.help t n x) 0 1 (nI t n x) [1] rfl (congrArg (Prod.mk 1) (HV e)) (by kernel_rfl) rfl).trans (bE.unpack (.store t n st) 1 0 (dG t n st) [] rfl rfl rfl rfl)) ?_
  have q:=KJ t n x st s _ h
  rw [←e]at q
  exact q
 rw [bW e]at h
 by_cases e:x.at'=9
 ·rw [e]at h
  have h:(CM t n x st s).run _:=h
  refine aC9 (root:=0) (pos:=[19,20,21,22,23]) (cs:=[(.cell 1 4,.ints (some .i64))]) (parse:=vU t n) (fin:=HpO.fin t n) kL ((bE.unpack (.help t n x) 0 1 (kK t n x) [1] rfl (congrArg (Prod.mk 1) (jG ⟨(by omega),(by omega),(by omega),(by omega),(by omega)⟩)) (by kernel_rfl) rfl).trans (bE.unpack (.store t n st) 1 0 (dG t n st) [] rfl rfl rfl rfl)) ?_
  have q:=KK t n x st s _ h
  rw [←e]at q
  exact q
 rw [bW e]at h
 exact h.1.elim
noncomputable def hpSA:aJ Ob:=fun args h=>match args,h with
 | [.ptr 0 0,.ptr 2 0],[some (.abs (.help t n x) [1]),some (.abs (.store t2 n2 st) []),e3,e4]=>(match cW 3 [e3,e4]with
   | some (l,s)=>some (.pre ((l=s.xs.length∧t2=t∧n2=n)∧OC t n x st s) (HpO.fin t n (dE t n x st s)))
   | none=>none)
 | _,_=>none
theorem Z1:sT' 52 hpSA:=by
 intro args h o ho K hK
 unfold hpSA at ho
 split at ho
 case h_2=>cases ho
 split at ho<;>cases ho
 rename_i hm
 obtain⟨⟨⟨hl,rfl,rfl⟩,ok⟩,hK⟩:=hK
 have hh:=bA hm hl
 cases hh
 exact HX _ _ _ _ _ K (aDe ok hK)
def HpO.finB(t n:Int)(y:HpO):Out Ob:=.ite y.d (.ret (.bool true) ([some (.cells [.ptr 1 0,.int .i64 y.x.u,.int .u64 y.x.no,.int .i64 y.x.rounds,.int .i64 y.x.limit,.int .i64 y.x.at',.int .u64 y.x.found,.int .i64 y.x.sh,.int .i64 y.x.kd,.int .i64 y.x.ky,.bool y.x.p.now,.int .i64 y.x.p.code,.bool y.x.p.okk,.int .i64 y.x.p.val,.int .i64 y.x.p.addr,.int .u64 y.x.p.old,.int .i64 y.x.p.nxt,.bool y.x.p.mark,.int .i64 y.x.p.pops,.O,.O,.O,.O,.O]),stC 5 t n y.st,none,a8 4 y.s,a9 y.s,fS y.st])) (.ret (.bool false) [some (.abs (.help t n y.x) [1]),stC 5 t n y.st,none,a8 4 y.s,a9 y.s,fS y.st])
noncomputable def hpSB:aJ Ob:=fun args h=>match args,h with
 | [.ptr 0 0,.ptr 3 0],[some (.abs (.help t n x) [1]),e1,e2,e3,e4]=>(match j9 2 [e1,e2],cW 4 [e3,e4]with
   | some (l2,t2,n2,st),some (l,s)=>some (.pre ((l=s.xs.length∧l2=st.R.length∧t2=t∧n2=n)∧OC t n x st s) (HpO.finB t n (dE t n x st s)))
   | _,_=>none)
 | _,_=>none
theorem Z2:sT' 52 hpSB:=by
 intro args h o ho K hK
 unfold hpSB at ho
 split at ho
 case h_2=>cases ho
 split at ho<;>cases ho
 rename_i hs hm
 obtain⟨⟨⟨hl,hl2,rfl,rfl⟩,ok⟩,hK⟩:=hK
 have hh:=bA hm hl
 cases hh
 have hh:=cD hs hl2
 cases hh
 exact i6 (fun ι hι=>by simp [aK.ren,aDg,AVal.ren,hι]) (fun ι hι=>by simp [aK.ren,hι]) (fun K hK=>HX _ _ _ _ _ K (aDe ok hK)) K hK
noncomputable def hpS:aJ Ob:=aJ.or hpSA hpSB
theorem aBJ:sT' 52 hpS:=aDn Z1 Z2
def ZR(t n:Int)(v:AVal)(g:aD Ob):Option (Prop×(HPS×STS)):=match v,g with
 | .ptr 2 0,[e1,e2,some (.cells [.ptr 0 0,.int .i64 u,.int .u64 no,.int .i64 rounds,.int .i64 limit,.int .i64 at',.int .u64 found,.int .i64 sh,.int .i64 kd,.int .i64 ky,.bool p_now,.int .i64 p_code,.bool p_okk,.int .i64 p_val,.int .i64 p_addr,.int .u64 p_old,.int .i64 p_nxt,.bool p_mark,.int .i64 p_pops,.O,.O,.O,.O,.O])]=>(match j9 1 [e1,e2]with
   | some (l2,t2,n2,st)=>some ((t2=t∧n2=n∧l2=st.R.length)∧(at'≠3∧at'≠4∧at'≠5∧at'≠7∧at'≠8),⟨(⟨u,no,rounds,limit,at',found,sh,kd,ky,⟨p_now,p_code,p_okk,p_val,p_addr,p_old,p_nxt,p_mark,p_pops⟩,cN,aS,aM,⟨0,0,0,0⟩,⟨0,0,0,false⟩⟩:HPS),st⟩)
   | none=>none)
 | _,_=>none
abbrev TQ(t n:Int)(y:(HPS×STS)):aD Ob:=[stC 1 t n y.2,fS y.2,some (.abs (.help t n y.1) [0])]
theorem TR{t n:Int} :cA (obI tbl) 2 (ZR t n) (fun y=>.ret (.ptr 2 0) (TQ t n y)):=by
 intro v g p x hp hq K hK
 unfold ZR at hp
 split at hp
 case h_2=>cases hp
 rename_i e1 e2 u no rounds limit at' found sh kd ky p_now p_code p_okk p_val p_addr p_old p_nxt p_mark p_pops
 split at hp
 case h_2=>cases hp
 rename_i l2 t2 n2 st hs
 simp only [sI',pI']at hp
 obtain⟨rfl,rfl⟩:=hp
 obtain⟨⟨rfl,rfl,hl2⟩,hat⟩:=hq
 have hh:=cD hs hl2
 cases hh
 exact⟨⟨_,_,aF.pack (TQ t2 n2 ((⟨u,no,rounds,limit,at',found,sh,kd,ky,⟨p_now,p_code,p_okk,p_val,p_addr,p_old,p_nxt,p_mark,p_pops⟩,cN,aS,aM,⟨0,0,0,0⟩,⟨0,0,0,false⟩⟩:HPS),st)) (.help t2 n2 (⟨u,no,rounds,limit,at',found,sh,kd,ky,⟨p_now,p_code,p_okk,p_val,p_addr,p_old,p_nxt,p_mark,p_pops⟩,cN,aS,aM,⟨0,0,0,0⟩,⟨0,0,0,false⟩⟩:HPS)) 2 1 (kK t2 n2 (⟨u,no,rounds,limit,at',found,sh,kd,ky,⟨p_now,p_code,p_okk,p_val,p_addr,p_old,p_nxt,p_mark,p_pops⟩,cN,aS,aM,⟨0,0,0,0⟩,⟨0,0,0,false⟩⟩:HPS)) [0] (by kernel_rfl) rfl (congrArg (Prod.mk 1) (jG hat)) (by kernel_rfl),hK⟩⟩
def KA(t n:Int)(u no lim:Int)(st:STS):Tr (HPS×STS):=.pre ((t=t∧n=n∧lE' st.3)∧(0:Int)≠(3:Int)∧(0:Int)≠(4:Int)∧(0:Int)≠(5:Int)∧(0:Int)≠(7:Int)∧(0:Int)≠(8:Int)) (.ret ({u:=u,no:=no,rounds:=0,limit:=lim,at':=0,found:=0,sh:=0,kd:=0,ky:=0,p:=aBb,ex:=cN,en:=aS,fn:=aM,cl:=bC,pr:=cQ},{me:=st.1,sp:=st.2,R:=st.3}))
def qF(t n:Int)(u no lim:Int)(st:STS):(HPS×STS):=(KA t n u no lim st).val
def CC(t n:Int)(u no lim:Int)(st:STS):Prop:=(KA t n u no lim st).ok
def hpNS:aJ Ob:=fun args h=>match args,h with
 | [.ptr 0 0,.int .i64 u,.int .u64 no,.int .i64 lim],[e1,e2]=>(match j9 1 [e1,e2]with
   | some (l2,t,n,st)=>some (.pre (l2=st.R.length∧CC t n u no lim st) (.ret (.ptr 2 0) (TQ t n (qF t n u no lim st))))
   | none=>none)
 | _,_=>none
theorem ZS:sT' 46 hpNS:=by
 intro args h o ho K hK
 unfold hpNS at ho
 split at ho
 case h_2=>cases ho
 rename_i u no lim e1 e2
 split at ho<;>cases ho
 rename_i l2 t n st hs
 obtain⟨⟨hl2,ok⟩,hK⟩:=hK
 have hh:=cD hs hl2
 cases hh
 refine aDh (root:=2) (pos:=[19,20,21,22,23]) (cs:=[]) (parse:=ZR t n) TR ?_
 exact cM' (E:=EH0) (q:=(KA t n u no lim st).run (fun y=>(Out.ret (.ptr 2 0) (TQ t n y)).run K)) (by kernel_rfl) (aDe ok hK)
noncomputable def EH:=((EH0.addS 52 hpS aBJ).addS 46 hpNS ZS)
structure DqO where
 d:Bool
 x:DOS
 st:STS
 s:MS
instance:Inhabited DqO:=⟨⟨false,aBa,⟨0,0,[]⟩,⟨0,0,[],0,0,0,0,0,false⟩⟩⟩
instance:Inhabited DOS:=⟨aBa⟩
abbrev tE(t n:Int)(x:DOS)(st:STS)(s:MS):aD Ob:=[some (.abs (.doer t n x) [1]),some (.abs (.store t n st) []),a8 3 s,a9 s]
abbrev wS(t n:Int)(x:DOS)(st:STS)(s:MS):aD Ob:=[some (.cells [.ptr 1 0,.int .i64 x.code,.bool x.okk,.int .i64 x.val,.bool x.slow,.int .i64 x.sh,.int .i64 x.kd,.int .i64 x.ky,.int .i64 x.limit,.int .i64 x.at',.O,.O,.O,.O,.O,.O,.O,.O,.O]),some (.abs (.store t n st) []),a8 3 s,a9 s]
def DqO.fin(t n:Int)(y:DqO):Out Ob:=.ite y.d (.ret (.bool true) (wS t n y.x y.st y.s)) (.ret (.bool false) (tE t n y.x y.st y.s))
def XT(t n:Int)(v:AVal)(g:aD Ob):Option (Prop×DqO):=match v,g with
 | .bool d,[some (.cells [.ptr 1 0,.int .i64 code,.bool okk,.int .i64 val,.bool slow,.int .i64 sh,.int .i64 kd,.int .i64 ky,.int .i64 limit,.int .i64 at',.O,.O,.O,.O,.O,.O,.O,.O,.O]),e1,e3,e4,e2]=>(match j9 4 [e1,e2],cW 3 [e3,e4]with
   | some (l2,t2,n2,st),some (l,s)=>some ((t2=t∧n2=n)∧(d=false→at'≠0∧at'≠1∧at'≠5∧at'≠2∧at'≠3∧at'≠4∧at'≠6∧at'≠7∧at'≠8∧at'≠9)∧l=s.xs.length∧l2=st.R.length,⟨d,⟨code,okk,val,slow,sh,kd,ky,limit,at',⟨0,0,0,false⟩,bR,aS,bQ,⟨0,0,0,0,false,0⟩,⟨0,false,0,0⟩,aM,⟨0,0⟩,bH⟩,st,s⟩)
   | _,_=>none)
 | _,_=>none
def XU(t n:Int)(v:AVal)(g:aD Ob):Option (Prop×DqO):=match v,g with
 | .bool d,[some (.cells [.ptr 1 0,.int .i64 code,.bool okk,.int .i64 val,.bool slow,.int .i64 sh,.int .i64 kd,.int .i64 ky,.int .i64 limit,.int .i64 at',.ptr 4 0,.O,.O,.O,.O,.O,.O,.O,.O]),e1,e3,e4,some (.abs (.head t' n' sub) []),e2]=>(match j9 5 [e1,e2],cW 3 [e3,e4]with
   | some (l2,t2,n2,st),some (l,s)=>some ((t2=t∧n2=n)∧t'=t∧n'=n∧(d=false→at'=0)∧l=s.xs.length∧l2=st.R.length,⟨d,⟨code,okk,val,slow,sh,kd,ky,limit,at',sub,bR,aS,bQ,⟨0,0,0,0,false,0⟩,⟨0,false,0,0⟩,aM,⟨0,0⟩,bH⟩,st,s⟩)
   | _,_=>none)
 | _,_=>none
def XV(t n:Int)(v:AVal)(g:aD Ob):Option (Prop×DqO):=match v,g with
 | .bool d,[some (.cells [.ptr 1 0,.int .i64 code,.bool okk,.int .i64 val,.bool slow,.int .i64 sh,.int .i64 kd,.int .i64 ky,.int .i64 limit,.int .i64 at',.O,.ptr 4 0,.O,.O,.O,.O,.O,.O,.O]),e1,e3,e4,some (.abs (.help t' n' sub) [1]),e2]=>(match j9 5 [e1,e2],cW 3 [e3,e4]with
   | some (l2,t2,n2,st),some (l,s)=>some ((t2=t∧n2=n)∧t'=t∧n'=n∧(d=false→at'=1∨at'=5)∧l=s.xs.length∧l2=st.R.length,⟨d,⟨code,okk,val,slow,sh,kd,ky,limit,at',⟨0,0,0,false⟩,sub,aS,bQ,⟨0,0,0,0,false,0⟩,⟨0,false,0,0⟩,aM,⟨0,0⟩,bH⟩,st,s⟩)
   | _,_=>none)
 | _,_=>none
def XW(t n:Int)(v:AVal)(g:aD Ob):Option (Prop×DqO):=match v,g with
 | .bool d,[some (.cells [.ptr 1 0,.int .i64 code,.bool okk,.int .i64 val,.bool slow,.int .i64 sh,.int .i64 kd,.int .i64 ky,.int .i64 limit,.int .i64 at',.O,.O,.ptr 4 0,.O,.O,.O,.O,.O,.O]),e1,e3,e4,some (.abs (.ensure t' n' sub) [1]),e2]=>(match j9 5 [e1,e2],cW 3 [e3,e4]with
   | some (l2,t2,n2,st),some (l,s)=>some ((t2=t∧n2=n)∧t'=t∧n'=n∧(d=false→at'=2)∧l=s.xs.length∧l2=st.R.length,⟨d,⟨code,okk,val,slow,sh,kd,ky,limit,at',⟨0,0,0,false⟩,bR,sub,bQ,⟨0,0,0,0,false,0⟩,⟨0,false,0,0⟩,aM,⟨0,0⟩,bH⟩,st,s⟩)
   | _,_=>none)
 | _,_=>none
def XX(t n:Int)(v:AVal)(g:aD Ob):Option (Prop×DqO):=match v,g with
 | .bool d,[some (.cells [.ptr 1 0,.int .i64 code,.bool okk,.int .i64 val,.bool slow,.int .i64 sh,.int .i64 kd,.int .i64 ky,.int .i64 limit,.int .i64 at',.O,.O,.O,.ptr 4 0,.O,.O,.O,.O,.O]),e1,e3,e4,some (.abs (.fast t' n' sub) [1]),e2]=>(match j9 5 [e1,e2],cW 3 [e3,e4]with
   | some (l2,t2,n2,st),some (l,s)=>some ((t2=t∧n2=n)∧t'=t∧n'=n∧(d=false→at'=3)∧l=s.xs.length∧l2=st.R.length,⟨d,⟨code,okk,val,slow,sh,kd,ky,limit,at',⟨0,0,0,false⟩,bR,aS,sub,⟨0,0,0,0,false,0⟩,⟨0,false,0,0⟩,aM,⟨0,0⟩,bH⟩,st,s⟩)
   | _,_=>none)
 | _,_=>none
def XY(t n:Int)(v:AVal)(g:aD Ob):Option (Prop×DqO):=match v,g with
 | .bool d,[some (.cells [.ptr 1 0,.int .i64 code,.bool okk,.int .i64 val,.bool slow,.int .i64 sh,.int .i64 kd,.int .i64 ky,.int .i64 limit,.int .i64 at',.O,.O,.O,.O,.ptr 4 0,.O,.O,.O,.O]),e1,e3,e4,some (.abs (.announce t' n' sub) []),e2]=>(match j9 5 [e1,e2],cW 3 [e3,e4]with
   | some (l2,t2,n2,st),some (l,s)=>some ((t2=t∧n2=n)∧t'=t∧n'=n∧(d=false→at'=4)∧l=s.xs.length∧l2=st.R.length,⟨d,⟨code,okk,val,slow,sh,kd,ky,limit,at',⟨0,0,0,false⟩,bR,aS,bQ,sub,⟨0,false,0,0⟩,aM,⟨0,0⟩,bH⟩,st,s⟩)
   | _,_=>none)
 | _,_=>none
def XZ(t n:Int)(v:AVal)(g:aD Ob):Option (Prop×DqO):=match v,g with
 | .bool d,[some (.cells [.ptr 1 0,.int .i64 code,.bool okk,.int .i64 val,.bool slow,.int .i64 sh,.int .i64 kd,.int .i64 ky,.int .i64 limit,.int .i64 at',.O,.O,.O,.O,.O,.ptr 4 0,.O,.O,.O]),e1,e3,e4,some (.abs (.answer t' n' sub) []),e2]=>(match j9 5 [e1,e2],cW 3 [e3,e4]with
   | some (l2,t2,n2,st),some (l,s)=>some ((t2=t∧n2=n)∧t'=t∧n'=n∧(d=false→at'=6)∧l=s.xs.length∧l2=st.R.length,⟨d,⟨code,okk,val,slow,sh,kd,ky,limit,at',⟨0,0,0,false⟩,bR,aS,bQ,⟨0,0,0,0,false,0⟩,sub,aM,⟨0,0⟩,bH⟩,st,s⟩)
   | _,_=>none)
 | _,_=>none
def X0(t n:Int)(v:AVal)(g:aD Ob):Option (Prop×DqO):=match v,g with
 | .bool d,[some (.cells [.ptr 1 0,.int .i64 code,.bool okk,.int .i64 val,.bool slow,.int .i64 sh,.int .i64 kd,.int .i64 ky,.int .i64 limit,.int .i64 at',.O,.O,.O,.O,.O,.O,.ptr 4 0,.O,.O]),e1,e3,e4,some (.abs (.find t' n' sub) []),e2]=>(match j9 5 [e1,e2],cW 3 [e3,e4]with
   | some (l2,t2,n2,st),some (l,s)=>some ((t2=t∧n2=n)∧t'=t∧n'=n∧(d=false→at'=7)∧l=s.xs.length∧l2=st.R.length,⟨d,⟨code,okk,val,slow,sh,kd,ky,limit,at',⟨0,0,0,false⟩,bR,aS,bQ,⟨0,0,0,0,false,0⟩,⟨0,false,0,0⟩,sub,⟨0,0⟩,bH⟩,st,s⟩)
   | _,_=>none)
 | _,_=>none
def X1(t n:Int)(v:AVal)(g:aD Ob):Option (Prop×DqO):=match v,g with
 | .bool d,[some (.cells [.ptr 1 0,.int .i64 code,.bool okk,.int .i64 val,.bool slow,.int .i64 sh,.int .i64 kd,.int .i64 ky,.int .i64 limit,.int .i64 at',.O,.O,.O,.O,.O,.O,.O,.ptr 4 0,.O]),e1,e3,e4,some (.abs (.drop t' n' sub) []),e2]=>(match j9 5 [e1,e2],cW 3 [e3,e4]with
   | some (l2,t2,n2,st),some (l,s)=>some ((t2=t∧n2=n)∧t'=t∧n'=n∧(d=false→at'=8)∧l=s.xs.length∧l2=st.R.length,⟨d,⟨code,okk,val,slow,sh,kd,ky,limit,at',⟨0,0,0,false⟩,bR,aS,bQ,⟨0,0,0,0,false,0⟩,⟨0,false,0,0⟩,aM,sub,bH⟩,st,s⟩)
   | _,_=>none)
 | _,_=>none
def X2(t n:Int)(v:AVal)(g:aD Ob):Option (Prop×DqO):=match v,g with
 | .bool d,[some (.cells [.ptr 1 0,.int .i64 code,.bool okk,.int .i64 val,.bool slow,.int .i64 sh,.int .i64 kd,.int .i64 ky,.int .i64 limit,.int .i64 at',.O,.O,.O,.O,.O,.O,.O,.O,.ptr 4 0]),e1,e3,e4,some (.abs (.sweep t' n' sub) [1]),e2]=>(match j9 5 [e1,e2],cW 3 [e3,e4]with
   | some (l2,t2,n2,st),some (l,s)=>some ((t2=t∧n2=n)∧t'=t∧n'=n∧(d=false→at'=9)∧l=s.xs.length∧l2=st.R.length,⟨d,⟨code,okk,val,slow,sh,kd,ky,limit,at',⟨0,0,0,false⟩,bR,aS,bQ,⟨0,0,0,0,false,0⟩,⟨0,false,0,0⟩,aM,⟨0,0⟩,sub⟩,st,s⟩)
   | _,_=>none)
 | _,_=>none
def vS(t n:Int)(v:AVal)(g:aD Ob):Option (Prop×DqO):=(match XT t n v g with
 | some r=>some r
 | none=>(match XU t n v g with
 | some r=>some r
 | none=>(match XV t n v g with
 | some r=>some r
 | none=>(match XW t n v g with
 | some r=>some r
 | none=>(match XX t n v g with
 | some r=>some r
 | none=>(match XY t n v g with
 | some r=>some r
 | none=>(match XZ t n v g with
 | some r=>some r
 | none=>(match X0 t n v g with
 | some r=>some r
 | none=>(match X1 t n v g with
 | some r=>some r
 | none=>X2 t n v g)))))))))
theorem RR{t n:Int} :cA (obI tbl) 4 (XT t n) (DqO.fin t n):=by
 intro v g p x hp hq K hK
 unfold XT at hp
 split at hp
 case h_2=>cases hp
 rename_i d code okk val slow sh kd ky limit at' e1 e3 e4 e2
 split at hp
 case h_2=>cases hp
 rename_i l2 t2 n2 st l s hs hm
 simp only [sI',pI']at hp
 obtain⟨rfl,rfl⟩:=hp
 obtain⟨⟨rfl,rfl⟩,hat,hl,hl2⟩:=hq
 have hh:=bA hm hl
 cases hh
 have hh:=cD hs hl2
 cases hh
 refine fC hK (fun h=>?_) (fun hd h=>?_)
 ·exact⟨⟨_,_,(aF.pack (wS t2 n2 (⟨code,okk,val,slow,sh,kd,ky,limit,at',⟨0,0,0,false⟩,bR,aS,bQ,⟨0,0,0,0,false,0⟩,⟨0,false,0,0⟩,aM,⟨0,0⟩,bH⟩:DOS) st s) (.store t2 n2 st) 1 0 (dG t2 n2 st) [] (by kernel_rfl) rfl rfl (by kernel_rfl)),h⟩⟩
 ·exact⟨⟨_,_,((aF.pack (a7 (tE t2 n2 (⟨code,okk,val,slow,sh,kd,ky,limit,at',⟨0,0,0,false⟩,bR,aS,bQ,⟨0,0,0,0,false,0⟩,⟨0,false,0,0⟩,aM,⟨0,0⟩,bH⟩:DOS) st s) 0 1 (yQ t2 n2 (⟨code,okk,val,slow,sh,kd,ky,limit,at',⟨0,0,0,false⟩,bR,aS,bQ,⟨0,0,0,0,false,0⟩,⟨0,false,0,0⟩,aM,⟨0,0⟩,bH⟩:DOS)) [1]) (.store t2 n2 st) 1 0 (dG t2 n2 st) [] (by kernel_rfl) rfl rfl (by kernel_rfl)).trans (aF.pack (tE t2 n2 (⟨code,okk,val,slow,sh,kd,ky,limit,at',⟨0,0,0,false⟩,bR,aS,bQ,⟨0,0,0,0,false,0⟩,⟨0,false,0,0⟩,aM,⟨0,0⟩,bH⟩:DOS) st s) (.doer t2 n2 (⟨code,okk,val,slow,sh,kd,ky,limit,at',⟨0,0,0,false⟩,bR,aS,bQ,⟨0,0,0,0,false,0⟩,⟨0,false,0,0⟩,aM,⟨0,0⟩,bH⟩:DOS)) 0 1 (yQ t2 n2 (⟨code,okk,val,slow,sh,kd,ky,limit,at',⟨0,0,0,false⟩,bR,aS,bQ,⟨0,0,0,0,false,0⟩,⟨0,false,0,0⟩,aM,⟨0,0⟩,bH⟩:DOS)) [1] (by kernel_rfl) rfl (congrArg (Prod.mk 1) (NB (hat hd))) (by kernel_rfl))),h⟩⟩
theorem RS{t n:Int} :cA (obI tbl) 4 (XU t n) (DqO.fin t n):=by
 intro v g p x hp hq K hK
 unfold XU at hp
 split at hp
 case h_2=>cases hp
 rename_i d code okk val slow sh kd ky limit at' e1 e3 e4 t' n' sub e2
 split at hp
 case h_2=>cases hp
 rename_i l2 t2 n2 st l s hs hm
 simp only [sI',pI']at hp
 obtain⟨rfl,rfl⟩:=hp
 obtain⟨⟨rfl,rfl⟩,rfl,rfl,hat,hl,hl2⟩:=hq
 have hh:=bA hm hl
 cases hh
 have hh:=cD hs hl2
 cases hh
 refine fC hK (fun h=>?_) (fun hd h=>?_)
 ·exact⟨⟨_,_,(aF.weak (b9 _ 0 [10,11,12,13,14,15,16,17,18])).trans ((aF.pick [0,1,2,3,5] rfl).trans ((aF.eq (g2:=a7 (wS t' n' (⟨code,okk,val,slow,sh,kd,ky,limit,at',sub,bR,aS,bQ,⟨0,0,0,0,false,0⟩,⟨0,false,0,0⟩,aM,⟨0,0⟩,bH⟩:DOS) st s) 1 0 (dG t' n' st) []) (by kernel_rfl) (by kernel_rfl)).trans (aF.pack (wS t' n' (⟨code,okk,val,slow,sh,kd,ky,limit,at',sub,bR,aS,bQ,⟨0,0,0,0,false,0⟩,⟨0,false,0,0⟩,aM,⟨0,0⟩,bH⟩:DOS) st s) (.store t' n' st) 1 0 (dG t' n' st) [] (by kernel_rfl) rfl rfl (by kernel_rfl)))),h⟩⟩
 ·exact⟨⟨_,_,((aF.pack (a7 (tE t' n' (⟨code,okk,val,slow,sh,kd,ky,limit,at',sub,bR,aS,bQ,⟨0,0,0,0,false,0⟩,⟨0,false,0,0⟩,aM,⟨0,0⟩,bH⟩:DOS) st s) 0 1 (kY t' n' (⟨code,okk,val,slow,sh,kd,ky,limit,at',sub,bR,aS,bQ,⟨0,0,0,0,false,0⟩,⟨0,false,0,0⟩,aM,⟨0,0⟩,bH⟩:DOS)) [1]) (.store t' n' st) 1 0 (dG t' n' st) [] (by kernel_rfl) rfl rfl (by kernel_rfl)).trans (aF.pack (tE t' n' (⟨code,okk,val,slow,sh,kd,ky,limit,at',sub,bR,aS,bQ,⟨0,0,0,0,false,0⟩,⟨0,false,0,0⟩,aM,⟨0,0⟩,bH⟩:DOS) st s) (.doer t' n' (⟨code,okk,val,slow,sh,kd,ky,limit,at',sub,bR,aS,bQ,⟨0,0,0,0,false,0⟩,⟨0,false,0,0⟩,aM,⟨0,0⟩,bH⟩:DOS)) 0 1 (kY t' n' (⟨code,okk,val,slow,sh,kd,ky,limit,at',sub,bR,aS,bQ,⟨0,0,0,0,false,0⟩,⟨0,false,0,0⟩,aM,⟨0,0⟩,bH⟩:DOS)) [1] (by kernel_rfl) rfl (congrArg (Prod.mk 1) (yR (hat hd))) (by kernel_rfl))),h⟩⟩
theorem RT{t n:Int} :cA (obI tbl) 4 (XV t n) (DqO.fin t n):=by
 intro v g p x hp hq K hK
 unfold XV at hp
 split at hp
 case h_2=>cases hp
 rename_i d code okk val slow sh kd ky limit at' e1 e3 e4 t' n' sub e2
 split at hp
 case h_2=>cases hp
 rename_i l2 t2 n2 st l s hs hm
 simp only [sI',pI']at hp
 obtain⟨rfl,rfl⟩:=hp
 obtain⟨⟨rfl,rfl⟩,rfl,rfl,hat,hl,hl2⟩:=hq
 have hh:=bA hm hl
 cases hh
 have hh:=cD hs hl2
 cases hh
 refine fC hK (fun h=>?_) (fun hd h=>?_)
 ·exact⟨⟨_,_,(aF.weak (b9 _ 0 [10,11,12,13,14,15,16,17,18])).trans ((aF.pick [0,1,2,3,5] rfl).trans ((aF.eq (g2:=a7 (wS t' n' (⟨code,okk,val,slow,sh,kd,ky,limit,at',⟨0,0,0,false⟩,sub,aS,bQ,⟨0,0,0,0,false,0⟩,⟨0,false,0,0⟩,aM,⟨0,0⟩,bH⟩:DOS) st s) 1 0 (dG t' n' st) []) (by kernel_rfl) (by kernel_rfl)).trans (aF.pack (wS t' n' (⟨code,okk,val,slow,sh,kd,ky,limit,at',⟨0,0,0,false⟩,sub,aS,bQ,⟨0,0,0,0,false,0⟩,⟨0,false,0,0⟩,aM,⟨0,0⟩,bH⟩:DOS) st s) (.store t' n' st) 1 0 (dG t' n' st) [] (by kernel_rfl) rfl rfl (by kernel_rfl)))),h⟩⟩
 ·rcases hat hd with hat | hat
  ·exact⟨⟨_,_,((aF.pack (a7 (tE t' n' (⟨code,okk,val,slow,sh,kd,ky,limit,at',⟨0,0,0,false⟩,sub,aS,bQ,⟨0,0,0,0,false,0⟩,⟨0,false,0,0⟩,aM,⟨0,0⟩,bH⟩:DOS) st s) 0 1 (fF t' n' (⟨code,okk,val,slow,sh,kd,ky,limit,at',⟨0,0,0,false⟩,sub,aS,bQ,⟨0,0,0,0,false,0⟩,⟨0,false,0,0⟩,aM,⟨0,0⟩,bH⟩:DOS)) [1]) (.store t' n' st) 1 0 (dG t' n' st) [] (by kernel_rfl) rfl rfl (by kernel_rfl)).trans (aF.pack (tE t' n' (⟨code,okk,val,slow,sh,kd,ky,limit,at',⟨0,0,0,false⟩,sub,aS,bQ,⟨0,0,0,0,false,0⟩,⟨0,false,0,0⟩,aM,⟨0,0⟩,bH⟩:DOS) st s) (.doer t' n' (⟨code,okk,val,slow,sh,kd,ky,limit,at',⟨0,0,0,false⟩,sub,aS,bQ,⟨0,0,0,0,false,0⟩,⟨0,false,0,0⟩,aM,⟨0,0⟩,bH⟩:DOS)) 0 1 (fF t' n' (⟨code,okk,val,slow,sh,kd,ky,limit,at',⟨0,0,0,false⟩,sub,aS,bQ,⟨0,0,0,0,false,0⟩,⟨0,false,0,0⟩,aM,⟨0,0⟩,bH⟩:DOS)) [1] (by kernel_rfl) rfl (congrArg (Prod.mk 1) (GP hat)) (by kernel_rfl))),h⟩⟩
  ·exact⟨⟨_,_,((aF.pack (a7 (tE t' n' (⟨code,okk,val,slow,sh,kd,ky,limit,at',⟨0,0,0,false⟩,sub,aS,bQ,⟨0,0,0,0,false,0⟩,⟨0,false,0,0⟩,aM,⟨0,0⟩,bH⟩:DOS) st s) 0 1 (fF t' n' (⟨code,okk,val,slow,sh,kd,ky,limit,at',⟨0,0,0,false⟩,sub,aS,bQ,⟨0,0,0,0,false,0⟩,⟨0,false,0,0⟩,aM,⟨0,0⟩,bH⟩:DOS)) [1]) (.store t' n' st) 1 0 (dG t' n' st) [] (by kernel_rfl) rfl rfl (by kernel_rfl)).trans (aF.pack (tE t' n' (⟨code,okk,val,slow,sh,kd,ky,limit,at',⟨0,0,0,false⟩,sub,aS,bQ,⟨0,0,0,0,false,0⟩,⟨0,false,0,0⟩,aM,⟨0,0⟩,bH⟩:DOS) st s) (.doer t' n' (⟨code,okk,val,slow,sh,kd,ky,limit,at',⟨0,0,0,false⟩,sub,aS,bQ,⟨0,0,0,0,false,0⟩,⟨0,false,0,0⟩,aM,⟨0,0⟩,bH⟩:DOS)) 0 1 (fF t' n' (⟨code,okk,val,slow,sh,kd,ky,limit,at',⟨0,0,0,false⟩,sub,aS,bQ,⟨0,0,0,0,false,0⟩,⟨0,false,0,0⟩,aM,⟨0,0⟩,bH⟩:DOS)) [1] (by kernel_rfl) rfl (congrArg (Prod.mk 1) (GY hat)) (by kernel_rfl))),h⟩⟩
theorem RU{t n:Int} :cA (obI tbl) 4 (XW t n) (DqO.fin t n):=by
 intro v g p x hp hq K hK
 unfold XW at hp
 split at hp
 case h_2=>cases hp
 rename_i d code okk val slow sh kd ky limit at' e1 e3 e4 t' n' sub e2
 split at hp
 case h_2=>cases hp
 rename_i l2 t2 n2 st l s hs hm
 simp only [sI',pI']at hp
 obtain⟨rfl,rfl⟩:=hp
 obtain⟨⟨rfl,rfl⟩,rfl,rfl,hat,hl,hl2⟩:=hq
 have hh:=bA hm hl
 cases hh
 have hh:=cD hs hl2
 cases hh
 refine fC hK (fun h=>?_) (fun hd h=>?_)
 ·exact⟨⟨_,_,(aF.weak (b9 _ 0 [10,11,12,13,14,15,16,17,18])).trans ((aF.pick [0,1,2,3,5] rfl).trans ((aF.eq (g2:=a7 (wS t' n' (⟨code,okk,val,slow,sh,kd,ky,limit,at',⟨0,0,0,false⟩,bR,sub,bQ,⟨0,0,0,0,false,0⟩,⟨0,false,0,0⟩,aM,⟨0,0⟩,bH⟩:DOS) st s) 1 0 (dG t' n' st) []) (by kernel_rfl) (by kernel_rfl)).trans (aF.pack (wS t' n' (⟨code,okk,val,slow,sh,kd,ky,limit,at',⟨0,0,0,false⟩,bR,sub,bQ,⟨0,0,0,0,false,0⟩,⟨0,false,0,0⟩,aM,⟨0,0⟩,bH⟩:DOS) st s) (.store t' n' st) 1 0 (dG t' n' st) [] (by kernel_rfl) rfl rfl (by kernel_rfl)))),h⟩⟩
 ·exact⟨⟨_,_,((aF.pack (a7 (tE t' n' (⟨code,okk,val,slow,sh,kd,ky,limit,at',⟨0,0,0,false⟩,bR,sub,bQ,⟨0,0,0,0,false,0⟩,⟨0,false,0,0⟩,aM,⟨0,0⟩,bH⟩:DOS) st s) 0 1 (mV t' n' (⟨code,okk,val,slow,sh,kd,ky,limit,at',⟨0,0,0,false⟩,bR,sub,bQ,⟨0,0,0,0,false,0⟩,⟨0,false,0,0⟩,aM,⟨0,0⟩,bH⟩:DOS)) [1]) (.store t' n' st) 1 0 (dG t' n' st) [] (by kernel_rfl) rfl rfl (by kernel_rfl)).trans (aF.pack (tE t' n' (⟨code,okk,val,slow,sh,kd,ky,limit,at',⟨0,0,0,false⟩,bR,sub,bQ,⟨0,0,0,0,false,0⟩,⟨0,false,0,0⟩,aM,⟨0,0⟩,bH⟩:DOS) st s) (.doer t' n' (⟨code,okk,val,slow,sh,kd,ky,limit,at',⟨0,0,0,false⟩,bR,sub,bQ,⟨0,0,0,0,false,0⟩,⟨0,false,0,0⟩,aM,⟨0,0⟩,bH⟩:DOS)) 0 1 (mV t' n' (⟨code,okk,val,slow,sh,kd,ky,limit,at',⟨0,0,0,false⟩,bR,sub,bQ,⟨0,0,0,0,false,0⟩,⟨0,false,0,0⟩,aM,⟨0,0⟩,bH⟩:DOS)) [1] (by kernel_rfl) rfl (congrArg (Prod.mk 1) (GU (hat hd))) (by kernel_rfl))),h⟩⟩
theorem RV{t n:Int} :cA (obI tbl) 4 (XX t n) (DqO.fin t n):=by
 intro v g p x hp hq K hK
 unfold XX at hp
 split at hp
 case h_2=>cases hp
 rename_i d code okk val slow sh kd ky limit at' e1 e3 e4 t' n' sub e2
 split at hp
 case h_2=>cases hp
 rename_i l2 t2 n2 st l s hs hm
 simp only [sI',pI']at hp
 obtain⟨rfl,rfl⟩:=hp
 obtain⟨⟨rfl,rfl⟩,rfl,rfl,hat,hl,hl2⟩:=hq
 have hh:=bA hm hl
 cases hh
 have hh:=cD hs hl2
 cases hh
 refine fC hK (fun h=>?_) (fun hd h=>?_)
 ·exact⟨⟨_,_,(aF.weak (b9 _ 0 [10,11,12,13,14,15,16,17,18])).trans ((aF.pick [0,1,2,3,5] rfl).trans ((aF.eq (g2:=a7 (wS t' n' (⟨code,okk,val,slow,sh,kd,ky,limit,at',⟨0,0,0,false⟩,bR,aS,sub,⟨0,0,0,0,false,0⟩,⟨0,false,0,0⟩,aM,⟨0,0⟩,bH⟩:DOS) st s) 1 0 (dG t' n' st) []) (by kernel_rfl) (by kernel_rfl)).trans (aF.pack (wS t' n' (⟨code,okk,val,slow,sh,kd,ky,limit,at',⟨0,0,0,false⟩,bR,aS,sub,⟨0,0,0,0,false,0⟩,⟨0,false,0,0⟩,aM,⟨0,0⟩,bH⟩:DOS) st s) (.store t' n' st) 1 0 (dG t' n' st) [] (by kernel_rfl) rfl rfl (by kernel_rfl)))),h⟩⟩
 ·exact⟨⟨_,_,((aF.pack (a7 (tE t' n' (⟨code,okk,val,slow,sh,kd,ky,limit,at',⟨0,0,0,false⟩,bR,aS,sub,⟨0,0,0,0,false,0⟩,⟨0,false,0,0⟩,aM,⟨0,0⟩,bH⟩:DOS) st s) 0 1 (mX t' n' (⟨code,okk,val,slow,sh,kd,ky,limit,at',⟨0,0,0,false⟩,bR,aS,sub,⟨0,0,0,0,false,0⟩,⟨0,false,0,0⟩,aM,⟨0,0⟩,bH⟩:DOS)) [1]) (.store t' n' st) 1 0 (dG t' n' st) [] (by kernel_rfl) rfl rfl (by kernel_rfl)).trans (aF.pack (tE t' n' (⟨code,okk,val,slow,sh,kd,ky,limit,at',⟨0,0,0,false⟩,bR,aS,sub,⟨0,0,0,0,false,0⟩,⟨0,false,0,0⟩,aM,⟨0,0⟩,bH⟩:DOS) st s) (.doer t' n' (⟨code,okk,val,slow,sh,kd,ky,limit,at',⟨0,0,0,false⟩,bR,aS,sub,⟨0,0,0,0,false,0⟩,⟨0,false,0,0⟩,aM,⟨0,0⟩,bH⟩:DOS)) 0 1 (mX t' n' (⟨code,okk,val,slow,sh,kd,ky,limit,at',⟨0,0,0,false⟩,bR,aS,sub,⟨0,0,0,0,false,0⟩,⟨0,false,0,0⟩,aM,⟨0,0⟩,bH⟩:DOS)) [1] (by kernel_rfl) rfl (congrArg (Prod.mk 1) (GV (hat hd))) (by kernel_rfl))),h⟩⟩
theorem RW{t n:Int} :cA (obI tbl) 4 (XY t n) (DqO.fin t n):=by
 intro v g p x hp hq K hK
 unfold XY at hp
 split at hp
 case h_2=>cases hp
 rename_i d code okk val slow sh kd ky limit at' e1 e3 e4 t' n' sub e2
 split at hp
 case h_2=>cases hp
 rename_i l2 t2 n2 st l s hs hm
 simp only [sI',pI']at hp
 obtain⟨rfl,rfl⟩:=hp
 obtain⟨⟨rfl,rfl⟩,rfl,rfl,hat,hl,hl2⟩:=hq
 have hh:=bA hm hl
 cases hh
 have hh:=cD hs hl2
 cases hh
 refine fC hK (fun h=>?_) (fun hd h=>?_)
 ·exact⟨⟨_,_,(aF.weak (b9 _ 0 [10,11,12,13,14,15,16,17,18])).trans ((aF.pick [0,1,2,3,5] rfl).trans ((aF.eq (g2:=a7 (wS t' n' (⟨code,okk,val,slow,sh,kd,ky,limit,at',⟨0,0,0,false⟩,bR,aS,bQ,sub,⟨0,false,0,0⟩,aM,⟨0,0⟩,bH⟩:DOS) st s) 1 0 (dG t' n' st) []) (by kernel_rfl) (by kernel_rfl)).trans (aF.pack (wS t' n' (⟨code,okk,val,slow,sh,kd,ky,limit,at',⟨0,0,0,false⟩,bR,aS,bQ,sub,⟨0,false,0,0⟩,aM,⟨0,0⟩,bH⟩:DOS) st s) (.store t' n' st) 1 0 (dG t' n' st) [] (by kernel_rfl) rfl rfl (by kernel_rfl)))),h⟩⟩
 ·exact⟨⟨_,_,((aF.pack (a7 (tE t' n' (⟨code,okk,val,slow,sh,kd,ky,limit,at',⟨0,0,0,false⟩,bR,aS,bQ,sub,⟨0,false,0,0⟩,aM,⟨0,0⟩,bH⟩:DOS) st s) 0 1 (mS t' n' (⟨code,okk,val,slow,sh,kd,ky,limit,at',⟨0,0,0,false⟩,bR,aS,bQ,sub,⟨0,false,0,0⟩,aM,⟨0,0⟩,bH⟩:DOS)) [1]) (.store t' n' st) 1 0 (dG t' n' st) [] (by kernel_rfl) rfl rfl (by kernel_rfl)).trans (aF.pack (tE t' n' (⟨code,okk,val,slow,sh,kd,ky,limit,at',⟨0,0,0,false⟩,bR,aS,bQ,sub,⟨0,false,0,0⟩,aM,⟨0,0⟩,bH⟩:DOS) st s) (.doer t' n' (⟨code,okk,val,slow,sh,kd,ky,limit,at',⟨0,0,0,false⟩,bR,aS,bQ,sub,⟨0,false,0,0⟩,aM,⟨0,0⟩,bH⟩:DOS)) 0 1 (mS t' n' (⟨code,okk,val,slow,sh,kd,ky,limit,at',⟨0,0,0,false⟩,bR,aS,bQ,sub,⟨0,false,0,0⟩,aM,⟨0,0⟩,bH⟩:DOS)) [1] (by kernel_rfl) rfl (congrArg (Prod.mk 1) (GW (hat hd))) (by kernel_rfl))),h⟩⟩
theorem RX{t n:Int} :cA (obI tbl) 4 (XZ t n) (DqO.fin t n):=by
 intro v g p x hp hq K hK
 unfold XZ at hp
 split at hp
 case h_2=>cases hp
 rename_i d code okk val slow sh kd ky limit at' e1 e3 e4 t' n' sub e2
 split at hp
 case h_2=>cases hp
 rename_i l2 t2 n2 st l s hs hm
 simp only [sI',pI']at hp
 obtain⟨rfl,rfl⟩:=hp
 obtain⟨⟨rfl,rfl⟩,rfl,rfl,hat,hl,hl2⟩:=hq
 have hh:=bA hm hl
 cases hh
 have hh:=cD hs hl2
 cases hh
 refine fC hK (fun h=>?_) (fun hd h=>?_)
 ·exact⟨⟨_,_,(aF.weak (b9 _ 0 [10,11,12,13,14,15,16,17,18])).trans ((aF.pick [0,1,2,3,5] rfl).trans ((aF.eq (g2:=a7 (wS t' n' (⟨code,okk,val,slow,sh,kd,ky,limit,at',⟨0,0,0,false⟩,bR,aS,bQ,⟨0,0,0,0,false,0⟩,sub,aM,⟨0,0⟩,bH⟩:DOS) st s) 1 0 (dG t' n' st) []) (by kernel_rfl) (by kernel_rfl)).trans (aF.pack (wS t' n' (⟨code,okk,val,slow,sh,kd,ky,limit,at',⟨0,0,0,false⟩,bR,aS,bQ,⟨0,0,0,0,false,0⟩,sub,aM,⟨0,0⟩,bH⟩:DOS) st s) (.store t' n' st) 1 0 (dG t' n' st) [] (by kernel_rfl) rfl rfl (by kernel_rfl)))),h⟩⟩
 ·exact⟨⟨_,_,((aF.pack (a7 (tE t' n' (⟨code,okk,val,slow,sh,kd,ky,limit,at',⟨0,0,0,false⟩,bR,aS,bQ,⟨0,0,0,0,false,0⟩,sub,aM,⟨0,0⟩,bH⟩:DOS) st s) 0 1 (mT t' n' (⟨code,okk,val,slow,sh,kd,ky,limit,at',⟨0,0,0,false⟩,bR,aS,bQ,⟨0,0,0,0,false,0⟩,sub,aM,⟨0,0⟩,bH⟩:DOS)) [1]) (.store t' n' st) 1 0 (dG t' n' st) [] (by kernel_rfl) rfl rfl (by kernel_rfl)).trans (aF.pack (tE t' n' (⟨code,okk,val,slow,sh,kd,ky,limit,at',⟨0,0,0,false⟩,bR,aS,bQ,⟨0,0,0,0,false,0⟩,sub,aM,⟨0,0⟩,bH⟩:DOS) st s) (.doer t' n' (⟨code,okk,val,slow,sh,kd,ky,limit,at',⟨0,0,0,false⟩,bR,aS,bQ,⟨0,0,0,0,false,0⟩,sub,aM,⟨0,0⟩,bH⟩:DOS)) 0 1 (mT t' n' (⟨code,okk,val,slow,sh,kd,ky,limit,at',⟨0,0,0,false⟩,bR,aS,bQ,⟨0,0,0,0,false,0⟩,sub,aM,⟨0,0⟩,bH⟩:DOS)) [1] (by kernel_rfl) rfl (congrArg (Prod.mk 1) (G0 (hat hd))) (by kernel_rfl))),h⟩⟩
theorem RY{t n:Int} :cA (obI tbl) 4 (X0 t n) (DqO.fin t n):=by
 intro v g p x hp hq K hK
 unfold X0 at hp
 split at hp
 case h_2=>cases hp
 rename_i d code okk val slow sh kd ky limit at' e1 e3 e4 t' n' sub e2
 split at hp
 case h_2=>cases hp
 rename_i l2 t2 n2 st l s hs hm
 simp only [sI',pI']at hp
 obtain⟨rfl,rfl⟩:=hp
 obtain⟨⟨rfl,rfl⟩,rfl,rfl,hat,hl,hl2⟩:=hq
 have hh:=bA hm hl
 cases hh
 have hh:=cD hs hl2
 cases hh
 refine fC hK (fun h=>?_) (fun hd h=>?_)
 ·exact⟨⟨_,_,(aF.weak (b9 _ 0 [10,11,12,13,14,15,16,17,18])).trans ((aF.pick [0,1,2,3,5] rfl).trans ((aF.eq (g2:=a7 (wS t' n' (⟨code,okk,val,slow,sh,kd,ky,limit,at',⟨0,0,0,false⟩,bR,aS,bQ,⟨0,0,0,0,false,0⟩,⟨0,false,0,0⟩,sub,⟨0,0⟩,bH⟩:DOS) st s) 1 0 (dG t' n' st) []) (by kernel_rfl) (by kernel_rfl)).trans (aF.pack (wS t' n' (⟨code,okk,val,slow,sh,kd,ky,limit,at',⟨0,0,0,false⟩,bR,aS,bQ,⟨0,0,0,0,false,0⟩,⟨0,false,0,0⟩,sub,⟨0,0⟩,bH⟩:DOS) st s) (.store t' n' st) 1 0 (dG t' n' st) [] (by kernel_rfl) rfl rfl (by kernel_rfl)))),h⟩⟩
 ·exact⟨⟨_,_,((aF.pack (a7 (tE t' n' (⟨code,okk,val,slow,sh,kd,ky,limit,at',⟨0,0,0,false⟩,bR,aS,bQ,⟨0,0,0,0,false,0⟩,⟨0,false,0,0⟩,sub,⟨0,0⟩,bH⟩:DOS) st s) 0 1 (mW t' n' (⟨code,okk,val,slow,sh,kd,ky,limit,at',⟨0,0,0,false⟩,bR,aS,bQ,⟨0,0,0,0,false,0⟩,⟨0,false,0,0⟩,sub,⟨0,0⟩,bH⟩:DOS)) [1]) (.store t' n' st) 1 0 (dG t' n' st) [] (by kernel_rfl) rfl rfl (by kernel_rfl)).trans (aF.pack (tE t' n' (⟨code,okk,val,slow,sh,kd,ky,limit,at',⟨0,0,0,false⟩,bR,aS,bQ,⟨0,0,0,0,false,0⟩,⟨0,false,0,0⟩,sub,⟨0,0⟩,bH⟩:DOS) st s) (.doer t' n' (⟨code,okk,val,slow,sh,kd,ky,limit,at',⟨0,0,0,false⟩,bR,aS,bQ,⟨0,0,0,0,false,0⟩,⟨0,false,0,0⟩,sub,⟨0,0⟩,bH⟩:DOS)) 0 1 (mW t' n' (⟨code,okk,val,slow,sh,kd,ky,limit,at',⟨0,0,0,false⟩,bR,aS,bQ,⟨0,0,0,0,false,0⟩,⟨0,false,0,0⟩,sub,⟨0,0⟩,bH⟩:DOS)) [1] (by kernel_rfl) rfl (congrArg (Prod.mk 1) (G1 (hat hd))) (by kernel_rfl))),h⟩⟩
theorem RZ{t n:Int} :cA (obI tbl) 4 (X1 t n) (DqO.fin t n):=by
 intro v g p x hp hq K hK
 unfold X1 at hp
 split at hp
 case h_2=>cases hp
 rename_i d code okk val slow sh kd ky limit at' e1 e3 e4 t' n' sub e2
 split at hp
 case h_2=>cases hp
 rename_i l2 t2 n2 st l s hs hm
 simp only [sI',pI']at hp
 obtain⟨rfl,rfl⟩:=hp
 obtain⟨⟨rfl,rfl⟩,rfl,rfl,hat,hl,hl2⟩:=hq
 have hh:=bA hm hl
 cases hh
 have hh:=cD hs hl2
 cases hh
 refine fC hK (fun h=>?_) (fun hd h=>?_)
 ·exact⟨⟨_,_,(aF.weak (b9 _ 0 [10,11,12,13,14,15,16,17,18])).trans ((aF.pick [0,1,2,3,5] rfl).trans ((aF.eq (g2:=a7 (wS t' n' (⟨code,okk,val,slow,sh,kd,ky,limit,at',⟨0,0,0,false⟩,bR,aS,bQ,⟨0,0,0,0,false,0⟩,⟨0,false,0,0⟩,aM,sub,bH⟩:DOS) st s) 1 0 (dG t' n' st) []) (by kernel_rfl) (by kernel_rfl)).trans (aF.pack (wS t' n' (⟨code,okk,val,slow,sh,kd,ky,limit,at',⟨0,0,0,false⟩,bR,aS,bQ,⟨0,0,0,0,false,0⟩,⟨0,false,0,0⟩,aM,sub,bH⟩:DOS) st s) (.store t' n' st) 1 0 (dG t' n' st) [] (by kernel_rfl) rfl rfl (by kernel_rfl)))),h⟩⟩
 ·exact⟨⟨_,_,((aF.pack (a7 (tE t' n' (⟨code,okk,val,slow,sh,kd,ky,limit,at',⟨0,0,0,false⟩,bR,aS,bQ,⟨0,0,0,0,false,0⟩,⟨0,false,0,0⟩,aM,sub,bH⟩:DOS) st s) 0 1 (mU t' n' (⟨code,okk,val,slow,sh,kd,ky,limit,at',⟨0,0,0,false⟩,bR,aS,bQ,⟨0,0,0,0,false,0⟩,⟨0,false,0,0⟩,aM,sub,bH⟩:DOS)) [1]) (.store t' n' st) 1 0 (dG t' n' st) [] (by kernel_rfl) rfl rfl (by kernel_rfl)).trans (aF.pack (tE t' n' (⟨code,okk,val,slow,sh,kd,ky,limit,at',⟨0,0,0,false⟩,bR,aS,bQ,⟨0,0,0,0,false,0⟩,⟨0,false,0,0⟩,aM,sub,bH⟩:DOS) st s) (.doer t' n' (⟨code,okk,val,slow,sh,kd,ky,limit,at',⟨0,0,0,false⟩,bR,aS,bQ,⟨0,0,0,0,false,0⟩,⟨0,false,0,0⟩,aM,sub,bH⟩:DOS)) 0 1 (mU t' n' (⟨code,okk,val,slow,sh,kd,ky,limit,at',⟨0,0,0,false⟩,bR,aS,bQ,⟨0,0,0,0,false,0⟩,⟨0,false,0,0⟩,aM,sub,bH⟩:DOS)) [1] (by kernel_rfl) rfl (congrArg (Prod.mk 1) (G2 (hat hd))) (by kernel_rfl))),h⟩⟩
theorem R1{t n:Int} :cA (obI tbl) 4 (X2 t n) (DqO.fin t n):=by
 intro v g p x hp hq K hK
 unfold X2 at hp
 split at hp
 case h_2=>cases hp
 rename_i d code okk val slow sh kd ky limit at' e1 e3 e4 t' n' sub e2
 split at hp
 case h_2=>cases hp
 rename_i l2 t2 n2 st l s hs hm
 simp only [sI',pI']at hp
 obtain⟨rfl,rfl⟩:=hp
 obtain⟨⟨rfl,rfl⟩,rfl,rfl,hat,hl,hl2⟩:=hq
 have hh:=bA hm hl
 cases hh
 have hh:=cD hs hl2
 cases hh
 refine fC hK (fun h=>?_) (fun hd h=>?_)
 ·exact⟨⟨_,_,(aF.weak (b9 _ 0 [10,11,12,13,14,15,16,17,18])).trans ((aF.pick [0,1,2,3,5] rfl).trans ((aF.eq (g2:=a7 (wS t' n' (⟨code,okk,val,slow,sh,kd,ky,limit,at',⟨0,0,0,false⟩,bR,aS,bQ,⟨0,0,0,0,false,0⟩,⟨0,false,0,0⟩,aM,⟨0,0⟩,sub⟩:DOS) st s) 1 0 (dG t' n' st) []) (by kernel_rfl) (by kernel_rfl)).trans (aF.pack (wS t' n' (⟨code,okk,val,slow,sh,kd,ky,limit,at',⟨0,0,0,false⟩,bR,aS,bQ,⟨0,0,0,0,false,0⟩,⟨0,false,0,0⟩,aM,⟨0,0⟩,sub⟩:DOS) st s) (.store t' n' st) 1 0 (dG t' n' st) [] (by kernel_rfl) rfl rfl (by kernel_rfl)))),h⟩⟩
 ·exact⟨⟨_,_,((aF.pack (a7 (tE t' n' (⟨code,okk,val,slow,sh,kd,ky,limit,at',⟨0,0,0,false⟩,bR,aS,bQ,⟨0,0,0,0,false,0⟩,⟨0,false,0,0⟩,aM,⟨0,0⟩,sub⟩:DOS) st s) 0 1 (mY t' n' (⟨code,okk,val,slow,sh,kd,ky,limit,at',⟨0,0,0,false⟩,bR,aS,bQ,⟨0,0,0,0,false,0⟩,⟨0,false,0,0⟩,aM,⟨0,0⟩,sub⟩:DOS)) [1]) (.store t' n' st) 1 0 (dG t' n' st) [] (by kernel_rfl) rfl rfl (by kernel_rfl)).trans (aF.pack (tE t' n' (⟨code,okk,val,slow,sh,kd,ky,limit,at',⟨0,0,0,false⟩,bR,aS,bQ,⟨0,0,0,0,false,0⟩,⟨0,false,0,0⟩,aM,⟨0,0⟩,sub⟩:DOS) st s) (.doer t' n' (⟨code,okk,val,slow,sh,kd,ky,limit,at',⟨0,0,0,false⟩,bR,aS,bQ,⟨0,0,0,0,false,0⟩,⟨0,false,0,0⟩,aM,⟨0,0⟩,sub⟩:DOS)) 0 1 (mY t' n' (⟨code,okk,val,slow,sh,kd,ky,limit,at',⟨0,0,0,false⟩,bR,aS,bQ,⟨0,0,0,0,false,0⟩,⟨0,false,0,0⟩,aM,⟨0,0⟩,sub⟩:DOS)) [1] (by kernel_rfl) rfl (congrArg (Prod.mk 1) (G3 (hat hd))) (by kernel_rfl))),h⟩⟩
theorem kE{t n:Int} :cA (obI tbl) 4 (vS t n) (DqO.fin t n):=by
 intro v g p x hp hq K hK
 unfold vS at hp
 split at hp
 ·rename_i r hr
  cases hp
  exact RR v g p x hr hq K hK
 split at hp
 ·rename_i r hr
  cases hp
  exact RS v g p x hr hq K hK
 split at hp
 ·rename_i r hr
  cases hp
  exact RT v g p x hr hq K hK
 split at hp
 ·rename_i r hr
  cases hp
  exact RU v g p x hr hq K hK
 split at hp
 ·rename_i r hr
  cases hp
  exact RV v g p x hr hq K hK
 split at hp
 ·rename_i r hr
  cases hp
  exact RW v g p x hr hq K hK
 split at hp
 ·rename_i r hr
  cases hp
  exact RX v g p x hr hq K hK
 split at hp
 ·rename_i r hr
  cases hp
  exact RY v g p x hr hq K hK
 split at hp
 ·rename_i r hr
  cases hp
  exact RZ v g p x hr hq K hK
 exact R1 v g p x hp hq K hK
def pU(t n:Int)(x:DOS)(st:STS)(s:MS):Tr DqO:=.pre True (.ite (!aY x.5 x.6 x.7) (.pre (lE' s.3∧(0:Int)≤s.4∧s.4≤(4611686018427387904:Int)) (.pre ((t=t∧n=n)∧t=t∧n=n∧(true=false→(0:Int)=(0:Int))∧lE' s.3∧lE' st.3) (.ret {d:=true,x:= {x with code:=1,okk:=false,val:=0,at':=0,hp:=bR,en:=aS,ft:=bQ,an:=dU,aw:=dV,fn:=aM,dr:=eO,sw:=bH},st:= {me:=st.1,sp:=st.2,R:=st.3},s:= {s with c:=s.4+1,k:=1,a:=0,o:=aB s.3 0,w:=aB s.3 0,ok:=bM s.3 0} }))) (.pre (lE' s.3∧ZL t n x.10 s) (.ite (hdF t n x.10 s).1 (.ite (ilt (HdO.x (hdF t n x.10 s)).1 0) (.pre True (.ite (bS x.6) (.ite (ieq st.2 0) (.pre (lE' st.3∧(t=t∧n=n∧lE' st.3)∧True) (.pre ((t=t∧n=n)∧t=t∧n=n∧(false=false→(2:Int)=(2:Int))∧lE' (HdO.s (hdF t n x.10 s)).3∧lE' st.3) (.ret {d:=false,x:= {x with at':=2,hd:=dW,hp:=bR,en:=aS,ft:=bQ,an:=dU,aw:=dV,fn:=aM,dr:=eO,sw:=bH},st:= {me:=st.1,sp:=st.2,R:=st.3},s:= {t:=(HdO.s (hdF t n x.10 s)).1,n:=(HdO.s (hdF t n x.10 s)).2,xs:=(HdO.s (hdF t n x.10 s)).3,c:=(HdO.s (hdF t n x.10 s)).4,k:=(HdO.s (hdF t n x.10 s)).5,a:=(HdO.s (hdF t n x.10 s)).6,o:=(HdO.s (hdF t n x.10 s)).7,w:=(HdO.s (hdF t n x.10 s)).8,ok:=(HdO.s (hdF t n x.10 s)).9} }))) (.pre ((lE' st.3∧sW t n x.5 x.6 x.7 x.8 st)∧True) (.pre ((t=t∧n=n)∧t=t∧n=n∧(false=false→(3:Int)=(3:Int))∧lE' (HdO.s (hdF t n x.10 s)).3∧lE' (Prod.snd (ftNF t n x.5 x.6 x.7 x.8 st)).3) (.ret {d:=false,x:= {x with at':=3,hd:=dW,hp:=bR,en:=aS,ft:=(ftNF t n x.5 x.6 x.7 x.8 st).1,an:=dU,aw:=dV,fn:=aM,dr:=eO,sw:=bH},st:= {me:=(Prod.snd (ftNF t n x.5 x.6 x.7 x.8 st)).1,sp:=(Prod.snd (ftNF t n x.5 x.6 x.7 x.8 st)).2,R:=(Prod.snd (ftNF t n x.5 x.6 x.7 x.8 st)).3},s:= {t:=(HdO.s (hdF t n x.10 s)).1,n:=(HdO.s (hdF t n x.10 s)).2,xs:=(HdO.s (hdF t n x.10 s)).3,c:=(HdO.s (hdF t n x.10 s)).4,k:=(HdO.s (hdF t n x.10 s)).5,a:=(HdO.s (hdF t n x.10 s)).6,o:=(HdO.s (hdF t n x.10 s)).7,w:=(HdO.s (hdF t n x.10 s)).8,ok:=(HdO.s (hdF t n x.10 s)).9} })))) (.pre ((lE' st.3∧sW t n x.5 x.6 x.7 x.8 st)∧True) (.pre ((t=t∧n=n)∧t=t∧n=n∧(false=false→(3:Int)=(3:Int))∧lE' (HdO.s (hdF t n x.10 s)).3∧lE' (Prod.snd (ftNF t n x.5 x.6 x.7 x.8 st)).3) (.ret {d:=false,x:= {x with at':=3,hd:=dW,hp:=bR,en:=aS,ft:=(ftNF t n x.5 x.6 x.7 x.8 st).1,an:=dU,aw:=dV,fn:=aM,dr:=eO,sw:=bH},st:= {me:=(Prod.snd (ftNF t n x.5 x.6 x.7 x.8 st)).1,sp:=(Prod.snd (ftNF t n x.5 x.6 x.7 x.8 st)).2,R:=(Prod.snd (ftNF t n x.5 x.6 x.7 x.8 st)).3},s:= {t:=(HdO.s (hdF t n x.10 s)).1,n:=(HdO.s (hdF t n x.10 s)).2,xs:=(HdO.s (hdF t n x.10 s)).3,c:=(HdO.s (hdF t n x.10 s)).4,k:=(HdO.s (hdF t n x.10 s)).5,a:=(HdO.s (hdF t n x.10 s)).6,o:=(HdO.s (hdF t n x.10 s)).7,w:=(HdO.s (hdF t n x.10 s)).8,ok:=(HdO.s (hdF t n x.10 s)).9} }))))) (.pre ((lE' st.3∧CC t n (HdO.x (hdF t n x.10 s)).1 (HdO.x (hdF t n x.10 s)).2 x.8 st)∧True) (.pre ((t=t∧n=n)∧t=t∧n=n∧(false=false→(1:Int)=(1:Int)∨(1:Int)=(5:Int))∧lE' (HdO.s (hdF t n x.10 s)).3∧lE' (Prod.snd (qF t n (HdO.x (hdF t n x.10 s)).1 (HdO.x (hdF t n x.10 s)).2 x.8 st)).3) (.ret {d:=false,x:= {x with at':=1,hd:=dW,hp:=(qF t n (HdO.x (hdF t n x.10 s)).1 (HdO.x (hdF t n x.10 s)).2 x.8 st).1,en:=aS,ft:=bQ,an:=dU,aw:=dV,fn:=aM,dr:=eO,sw:=bH},st:= {me:=(Prod.snd (qF t n (HdO.x (hdF t n x.10 s)).1 (HdO.x (hdF t n x.10 s)).2 x.8 st)).1,sp:=(Prod.snd (qF t n (HdO.x (hdF t n x.10 s)).1 (HdO.x (hdF t n x.10 s)).2 x.8 st)).2,R:=(Prod.snd (qF t n (HdO.x (hdF t n x.10 s)).1 (HdO.x (hdF t n x.10 s)).2 x.8 st)).3},s:= {t:=(HdO.s (hdF t n x.10 s)).1,n:=(HdO.s (hdF t n x.10 s)).2,xs:=(HdO.s (hdF t n x.10 s)).3,c:=(HdO.s (hdF t n x.10 s)).4,k:=(HdO.s (hdF t n x.10 s)).5,a:=(HdO.s (hdF t n x.10 s)).6,o:=(HdO.s (hdF t n x.10 s)).7,w:=(HdO.s (hdF t n x.10 s)).8,ok:=(HdO.s (hdF t n x.10 s)).9} })))) (.pre ((t=t∧n=n)∧t=t∧n=n∧(false=false→(0:Int)=(0:Int))∧lE' (HdO.s (hdF t n x.10 s)).3∧lE' st.3) (.ret {d:=false,x:= {x with at':=0,hd:=(hdF t n x.10 s).2,hp:=bR,en:=aS,ft:=bQ,an:=dU,aw:=dV,fn:=aM,dr:=eO,sw:=bH},st:= {me:=st.1,sp:=st.2,R:=st.3},s:= {t:=(HdO.s (hdF t n x.10 s)).1,n:=(HdO.s (hdF t n x.10 s)).2,xs:=(HdO.s (hdF t n x.10 s)).3,c:=(HdO.s (hdF t n x.10 s)).4,k:=(HdO.s (hdF t n x.10 s)).5,a:=(HdO.s (hdF t n x.10 s)).6,o:=(HdO.s (hdF t n x.10 s)).7,w:=(HdO.s (hdF t n x.10 s)).8,ok:=(HdO.s (hdF t n x.10 s)).9} })))))
theorem I4(t n:Int)(x:DOS)(st:STS)(s:MS)(K:DqO→Prop)(h:(pU t n x st s).run K):cT' 63 [.ptr 0 0,.ptr 2 0] [some (.cells [.ptr 1 0,.int .i64 x.code,.bool x.okk,.int .i64 x.val,.bool x.slow,.int .i64 x.sh,.int .i64 x.kd,.int .i64 x.ky,.int .i64 x.limit,.int .i64 0,.ptr 4 0,.O,.O,.O,.O,.O,.O,.O,.O]),stC 5 t n st,a8 3 s,a9 s,some (.abs (.head t n x.hd) []),fS st] (cC 4 0 [10,11,12,13,14,15,16,17,18] [(.cell 1 4,.ints (some .i64))] (vS t n) K):=by
 exact cM' (E:=EH) (by kernel_rfl) h
def BD(t n:Int)(x:DOS)(st:STS)(s:MS):Tr DqO:=.pre True (.ite (!aY x.5 x.6 x.7) (.pre (lE' s.3∧(0:Int)≤s.4∧s.4≤(4611686018427387904:Int)) (.pre ((t=t∧n=n)∧t=t∧n=n∧(true=false→(1:Int)=(1:Int)∨(1:Int)=(5:Int))∧lE' s.3∧lE' st.3) (.ret {d:=true,x:= {x with code:=1,okk:=false,val:=0,at':=1,hd:=dW,en:=aS,ft:=bQ,an:=dU,aw:=dV,fn:=aM,dr:=eO,sw:=bH},st:= {me:=st.1,sp:=st.2,R:=st.3},s:= {s with c:=s.4+1,k:=1,a:=0,o:=aB s.3 0,w:=aB s.3 0,ok:=bM s.3 0} }))) (.pre ((lE' s.3∧lE' st.3∧t=t∧n=n)∧OC t n x.11 st s) (.ite (dE t n x.11 st s).1 (.pre True (.ite (bS x.6) (.ite (ieq (HpO.st (dE t n x.11 st s)).2 0) (.pre (lE' (HpO.st (dE t n x.11 st s)).3∧(t=t∧n=n∧lE' (HpO.st (dE t n x.11 st s)).3)∧True) (.pre ((t=t∧n=n)∧t=t∧n=n∧(false=false→(2:Int)=(2:Int))∧lE' (HpO.s (dE t n x.11 st s)).3∧lE' (HpO.st (dE t n x.11 st s)).3) (.ret {d:=false,x:= {x with at':=2,hd:=dW,hp:=bR,en:=aS,ft:=bQ,an:=dU,aw:=dV,fn:=aM,dr:=eO,sw:=bH},st:= {me:=(HpO.st (dE t n x.11 st s)).1,sp:=(HpO.st (dE t n x.11 st s)).2,R:=(HpO.st (dE t n x.11 st s)).3},s:= {t:=(HpO.s (dE t n x.11 st s)).1,n:=(HpO.s (dE t n x.11 st s)).2,xs:=(HpO.s (dE t n x.11 st s)).3,c:=(HpO.s (dE t n x.11 st s)).4,k:=(HpO.s (dE t n x.11 st s)).5,a:=(HpO.s (dE t n x.11 st s)).6,o:=(HpO.s (dE t n x.11 st s)).7,w:=(HpO.s (dE t n x.11 st s)).8,ok:=(HpO.s (dE t n x.11 st s)).9} }))) (.pre ((lE' (HpO.st (dE t n x.11 st s)).3∧sW t n x.5 x.6 x.7 x.8 (dE t n x.11 st s).3)∧True) (.pre ((t=t∧n=n)∧t=t∧n=n∧(false=false→(3:Int)=(3:Int))∧lE' (HpO.s (dE t n x.11 st s)).3∧lE' (Prod.snd (ftNF t n x.5 x.6 x.7 x.8 (dE t n x.11 st s).3)).3) (.ret {d:=false,x:= {x with at':=3,hd:=dW,hp:=bR,en:=aS,ft:=(ftNF t n x.5 x.6 x.7 x.8 (dE t n x.11 st s).3).1,an:=dU,aw:=dV,fn:=aM,dr:=eO,sw:=bH},st:= {me:=(Prod.snd (ftNF t n x.5 x.6 x.7 x.8 (dE t n x.11 st s).3)).1,sp:=(Prod.snd (ftNF t n x.5 x.6 x.7 x.8 (dE t n x.11 st s).3)).2,R:=(Prod.snd (ftNF t n x.5 x.6 x.7 x.8 (dE t n x.11 st s).3)).3},s:= {t:=(HpO.s (dE t n x.11 st s)).1,n:=(HpO.s (dE t n x.11 st s)).2,xs:=(HpO.s (dE t n x.11 st s)).3,c:=(HpO.s (dE t n x.11 st s)).4,k:=(HpO.s (dE t n x.11 st s)).5,a:=(HpO.s (dE t n x.11 st s)).6,o:=(HpO.s (dE t n x.11 st s)).7,w:=(HpO.s (dE t n x.11 st s)).8,ok:=(HpO.s (dE t n x.11 st s)).9} })))) (.pre ((lE' (HpO.st (dE t n x.11 st s)).3∧sW t n x.5 x.6 x.7 x.8 (dE t n x.11 st s).3)∧True) (.pre ((t=t∧n=n)∧t=t∧n=n∧(false=false→(3:Int)=(3:Int))∧lE' (HpO.s (dE t n x.11 st s)).3∧lE' (Prod.snd (ftNF t n x.5 x.6 x.7 x.8 (dE t n x.11 st s).3)).3) (.ret {d:=false,x:= {x with at':=3,hd:=dW,hp:=bR,en:=aS,ft:=(ftNF t n x.5 x.6 x.7 x.8 (dE t n x.11 st s).3).1,an:=dU,aw:=dV,fn:=aM,dr:=eO,sw:=bH},st:= {me:=(Prod.snd (ftNF t n x.5 x.6 x.7 x.8 (dE t n x.11 st s).3)).1,sp:=(Prod.snd (ftNF t n x.5 x.6 x.7 x.8 (dE t n x.11 st s).3)).2,R:=(Prod.snd (ftNF t n x.5 x.6 x.7 x.8 (dE t n x.11 st s).3)).3},s:= {t:=(HpO.s (dE t n x.11 st s)).1,n:=(HpO.s (dE t n x.11 st s)).2,xs:=(HpO.s (dE t n x.11 st s)).3,c:=(HpO.s (dE t n x.11 st s)).4,k:=(HpO.s (dE t n x.11 st s)).5,a:=(HpO.s (dE t n x.11 st s)).6,o:=(HpO.s (dE t n x.11 st s)).7,w:=(HpO.s (dE t n x.11 st s)).8,ok:=(HpO.s (dE t n x.11 st s)).9} }))))) (.pre ((t=t∧n=n)∧t=t∧n=n∧(false=false→(1:Int)=(1:Int)∨(1:Int)=(5:Int))∧lE' (HpO.s (dE t n x.11 st s)).3∧lE' (HpO.st (dE t n x.11 st s)).3) (.ret {d:=false,x:= {x with at':=1,hd:=dW,hp:=(dE t n x.11 st s).2,en:=aS,ft:=bQ,an:=dU,aw:=dV,fn:=aM,dr:=eO,sw:=bH},st:= {me:=(HpO.st (dE t n x.11 st s)).1,sp:=(HpO.st (dE t n x.11 st s)).2,R:=(HpO.st (dE t n x.11 st s)).3},s:= {t:=(HpO.s (dE t n x.11 st s)).1,n:=(HpO.s (dE t n x.11 st s)).2,xs:=(HpO.s (dE t n x.11 st s)).3,c:=(HpO.s (dE t n x.11 st s)).4,k:=(HpO.s (dE t n x.11 st s)).5,a:=(HpO.s (dE t n x.11 st s)).6,o:=(HpO.s (dE t n x.11 st s)).7,w:=(HpO.s (dE t n x.11 st s)).8,ok:=(HpO.s (dE t n x.11 st s)).9} })))))
theorem I5(t n:Int)(x:DOS)(st:STS)(s:MS)(K:DqO→Prop)(h:(BD t n x st s).run K):cT' 63 [.ptr 0 0,.ptr 2 0] [some (.cells [.ptr 1 0,.int .i64 x.code,.bool x.okk,.int .i64 x.val,.bool x.slow,.int .i64 x.sh,.int .i64 x.kd,.int .i64 x.ky,.int .i64 x.limit,.int .i64 1,.O,.ptr 4 0,.O,.O,.O,.O,.O,.O,.O]),stC 5 t n st,a8 3 s,a9 s,some (.abs (.help t n x.hp) [1]),fS st] (cC 4 0 [10,11,12,13,14,15,16,17,18] [(.cell 1 4,.ints (some .i64))] (vS t n) K):=by
 exact cM' (E:=EH) (by kernel_rfl) h
def pV(t n:Int)(x:DOS)(st:STS)(s:MS):Tr DqO:=.pre True (.ite (!aY x.5 x.6 x.7) (.pre (lE' s.3∧(0:Int)≤s.4∧s.4≤(4611686018427387904:Int)) (.pre ((t=t∧n=n)∧t=t∧n=n∧(true=false→(2:Int)=(2:Int))∧lE' s.3∧lE' st.3) (.ret {d:=true,x:= {x with code:=1,okk:=false,val:=0,at':=2,hd:=dW,hp:=bR,ft:=bQ,an:=dU,aw:=dV,fn:=aM,dr:=eO,sw:=bH},st:= {me:=st.1,sp:=st.2,R:=st.3},s:= {s with c:=s.4+1,k:=1,a:=0,o:=aB s.3 0,w:=aB s.3 0,ok:=bM s.3 0} }))) (.pre ((lE' s.3∧lE' st.3∧t=t∧n=n)∧okE t n (DOS.en x) {me:=st.1,sp:=st.2,R:=st.3} s) (.ite (enF t n x.12 st s).1 (.ite (EO.e (enF t n x.12 st s)).2 (.pre (sP t n (EO.st (enF t n x.12 st s)).1∧True) (.pre ((t=t∧n=n)∧t=t∧n=n∧(false=false→(8:Int)=(8:Int))∧lE' (EO.s (enF t n x.12 st s)).3∧lE' (EO.st (enF t n x.12 st s)).3) (.ret {d:=false,x:= {x with code:=4,okk:=false,val:=0,at':=8,hd:=dW,hp:=bR,en:=aS,ft:=bQ,an:=dU,aw:=dV,fn:=aM,dr:=mJ t n (EO.st (enF t n x.12 st s)).1,sw:=bH},st:= {me:=(EO.st (enF t n x.12 st s)).1,sp:=(EO.st (enF t n x.12 st s)).2,R:=(EO.st (enF t n x.12 st s)).3},s:= {t:=(EO.s (enF t n x.12 st s)).1,n:=(EO.s (enF t n x.12 st s)).2,xs:=(EO.s (enF t n x.12 st s)).3,c:=(EO.s (enF t n x.12 st s)).4,k:=(EO.s (enF t n x.12 st s)).5,a:=(EO.s (enF t n x.12 st s)).6,o:=(EO.s (enF t n x.12 st s)).7,w:=(EO.s (enF t n x.12 st s)).8,ok:=(EO.s (enF t n x.12 st s)).9} }))) (.pre ((lE' (EO.st (enF t n x.12 st s)).3∧sW t n x.5 x.6 x.7 x.8 (enF t n x.12 st s).3)∧True) (.pre ((t=t∧n=n)∧t=t∧n=n∧(false=false→(3:Int)=(3:Int))∧lE' (EO.s (enF t n x.12 st s)).3∧lE' (Prod.snd (ftNF t n x.5 x.6 x.7 x.8 (enF t n x.12 st s).3)).3) (.ret {d:=false,x:= {x with at':=3,hd:=dW,hp:=bR,en:=aS,ft:=(ftNF t n x.5 x.6 x.7 x.8 (enF t n x.12 st s).3).1,an:=dU,aw:=dV,fn:=aM,dr:=eO,sw:=bH},st:= {me:=(Prod.snd (ftNF t n x.5 x.6 x.7 x.8 (enF t n x.12 st s).3)).1,sp:=(Prod.snd (ftNF t n x.5 x.6 x.7 x.8 (enF t n x.12 st s).3)).2,R:=(Prod.snd (ftNF t n x.5 x.6 x.7 x.8 (enF t n x.12 st s).3)).3},s:= {t:=(EO.s (enF t n x.12 st s)).1,n:=(EO.s (enF t n x.12 st s)).2,xs:=(EO.s (enF t n x.12 st s)).3,c:=(EO.s (enF t n x.12 st s)).4,k:=(EO.s (enF t n x.12 st s)).5,a:=(EO.s (enF t n x.12 st s)).6,o:=(EO.s (enF t n x.12 st s)).7,w:=(EO.s (enF t n x.12 st s)).8,ok:=(EO.s (enF t n x.12 st s)).9} })))) (.pre ((t=t∧n=n)∧t=t∧n=n∧(false=false→(2:Int)=(2:Int))∧lE' (EO.s (enF t n x.12 st s)).3∧lE' (EO.st (enF t n x.12 st s)).3) (.ret {d:=false,x:= {x with at':=2,hd:=dW,hp:=bR,en:=(enF t n x.12 st s).2,ft:=bQ,an:=dU,aw:=dV,fn:=aM,dr:=eO,sw:=bH},st:= {me:=(EO.st (enF t n x.12 st s)).1,sp:=(EO.st (enF t n x.12 st s)).2,R:=(EO.st (enF t n x.12 st s)).3},s:= {t:=(EO.s (enF t n x.12 st s)).1,n:=(EO.s (enF t n x.12 st s)).2,xs:=(EO.s (enF t n x.12 st s)).3,c:=(EO.s (enF t n x.12 st s)).4,k:=(EO.s (enF t n x.12 st s)).5,a:=(EO.s (enF t n x.12 st s)).6,o:=(EO.s (enF t n x.12 st s)).7,w:=(EO.s (enF t n x.12 st s)).8,ok:=(EO.s (enF t n x.12 st s)).9} })))))
theorem I6(t n:Int)(x:DOS)(st:STS)(s:MS)(K:DqO→Prop)(h:(pV t n x st s).run K):cT' 63 [.ptr 0 0,.ptr 2 0] [some (.cells [.ptr 1 0,.int .i64 x.code,.bool x.okk,.int .i64 x.val,.bool x.slow,.int .i64 x.sh,.int .i64 x.kd,.int .i64 x.ky,.int .i64 x.limit,.int .i64 2,.O,.O,.ptr 4 0,.O,.O,.O,.O,.O,.O]),stC 5 t n st,a8 3 s,a9 s,some (.abs (.ensure t n x.en) [1]),fS st] (cC 4 0 [10,11,12,13,14,15,16,17,18] [(.cell 1 4,.ints (some .i64))] (vS t n) K):=by
 exact cM' (E:=EH) (by kernel_rfl) h
def pW(t n:Int)(x:DOS)(st:STS)(s:MS):Tr DqO:=.pre True (.ite (!aY x.5 x.6 x.7) (.pre (lE' s.3∧(0:Int)≤s.4∧s.4≤(4611686018427387904:Int)) (.pre ((t=t∧n=n)∧t=t∧n=n∧(true=false→(3:Int)=(3:Int))∧lE' s.3∧lE' st.3) (.ret {d:=true,x:= {x with code:=1,okk:=false,val:=0,at':=3,hd:=dW,hp:=bR,en:=aS,an:=dU,aw:=dV,fn:=aM,dr:=eO,sw:=bH},st:= {me:=st.1,sp:=st.2,R:=st.3},s:= {s with c:=s.4+1,k:=1,a:=0,o:=aB s.3 0,w:=aB s.3 0,ok:=bM s.3 0} }))) (.pre ((lE' s.3∧lE' st.3∧t=t∧n=n)∧S7 t n x.13 st s) (.ite (ftF t n x.13 st s).1 (.ite (!(FtO.x (ftF t n x.13 st s)).4) (.ite (!(FtO.x (ftF t n x.13 st s)).2) (.pre (sP t n (FtO.st (ftF t n x.13 st s)).1∧True) (.pre ((t=t∧n=n)∧t=t∧n=n∧(false=false→(8:Int)=(8:Int))∧lE' (FtO.s (ftF t n x.13 st s)).3∧lE' (FtO.st (ftF t n x.13 st s)).3) (.ret {d:=false,x:= {x with code:=(FtO.x (ftF t n x.13 st s)).1,okk:=(FtO.x (ftF t n x.13 st s)).2,val:=(FtO.x (ftF t n x.13 st s)).3,at':=8,hd:=dW,hp:=bR,en:=aS,ft:=bQ,an:=dU,aw:=dV,fn:=aM,dr:=mJ t n (FtO.st (ftF t n x.13 st s)).1,sw:=bH},st:= {me:=(FtO.st (ftF t n x.13 st s)).1,sp:=(FtO.st (ftF t n x.13 st s)).2,R:=(FtO.st (ftF t n x.13 st s)).3},s:= {t:=(FtO.s (ftF t n x.13 st s)).1,n:=(FtO.s (ftF t n x.13 st s)).2,xs:=(FtO.s (ftF t n x.13 st s)).3,c:=(FtO.s (ftF t n x.13 st s)).4,k:=(FtO.s (ftF t n x.13 st s)).5,a:=(FtO.s (ftF t n x.13 st s)).6,o:=(FtO.s (ftF t n x.13 st s)).7,w:=(FtO.s (ftF t n x.13 st s)).8,ok:=(FtO.s (ftF t n x.13 st s)).9} }))) (.pre True (.ite (!eJ x.5 x.6) (.pre (sP t n (FtO.st (ftF t n x.13 st s)).1∧True) (.pre ((t=t∧n=n)∧t=t∧n=n∧(false=false→(8:Int)=(8:Int))∧lE' (FtO.s (ftF t n x.13 st s)).3∧lE' (FtO.st (ftF t n x.13 st s)).3) (.ret {d:=false,x:= {x with code:=(FtO.x (ftF t n x.13 st s)).1,okk:=(FtO.x (ftF t n x.13 st s)).2,val:=(FtO.x (ftF t n x.13 st s)).3,at':=8,hd:=dW,hp:=bR,en:=aS,ft:=bQ,an:=dU,aw:=dV,fn:=aM,dr:=mJ t n (FtO.st (ftF t n x.13 st s)).1,sw:=bH},st:= {me:=(FtO.st (ftF t n x.13 st s)).1,sp:=(FtO.st (ftF t n x.13 st s)).2,R:=(FtO.st (ftF t n x.13 st s)).3},s:= {t:=(FtO.s (ftF t n x.13 st s)).1,n:=(FtO.s (ftF t n x.13 st s)).2,xs:=(FtO.s (ftF t n x.13 st s)).3,c:=(FtO.s (ftF t n x.13 st s)).4,k:=(FtO.s (ftF t n x.13 st s)).5,a:=(FtO.s (ftF t n x.13 st s)).6,o:=(FtO.s (ftF t n x.13 st s)).7,w:=(FtO.s (ftF t n x.13 st s)).8,ok:=(FtO.s (ftF t n x.13 st s)).9} }))) (.pre True (.pre (oO t n (FtO.st (ftF t n x.13 st s)).1 (cB x.5 x.7) (bT x.5 x.6 x.7) x.8∧True) (.pre ((t=t∧n=n)∧t=t∧n=n∧(false=false→(7:Int)=(7:Int))∧lE' (FtO.s (ftF t n x.13 st s)).3∧lE' (FtO.st (ftF t n x.13 st s)).3) (.ret {d:=false,x:= {x with code:=(FtO.x (ftF t n x.13 st s)).1,okk:=(FtO.x (ftF t n x.13 st s)).2,val:=(FtO.x (ftF t n x.13 st s)).3,at':=7,hd:=dW,hp:=bR,en:=aS,ft:=bQ,an:=dU,aw:=dV,fn:=lC t n (FtO.st (ftF t n x.13 st s)).1 (cB x.5 x.7) (bT x.5 x.6 x.7) x.8,dr:=eO,sw:=bH},st:= {me:=(FtO.st (ftF t n x.13 st s)).1,sp:=(FtO.st (ftF t n x.13 st s)).2,R:=(FtO.st (ftF t n x.13 st s)).3},s:= {t:=(FtO.s (ftF t n x.13 st s)).1,n:=(FtO.s (ftF t n x.13 st s)).2,xs:=(FtO.s (ftF t n x.13 st s)).3,c:=(FtO.s (ftF t n x.13 st s)).4,k:=(FtO.s (ftF t n x.13 st s)).5,a:=(FtO.s (ftF t n x.13 st s)).6,o:=(FtO.s (ftF t n x.13 st s)).7,w:=(FtO.s (ftF t n x.13 st s)).8,ok:=(FtO.s (ftF t n x.13 st s)).9} }))))))) (.pre (MG t n (FtO.st (ftF t n x.13 st s)).1 x.5 x.6 x.7∧True) (.pre ((t=t∧n=n)∧t=t∧n=n∧(false=false→(4:Int)=(4:Int))∧lE' (FtO.s (ftF t n x.13 st s)).3∧lE' (FtO.st (ftF t n x.13 st s)).3) (.ret {d:=false,x:= {x with slow:=true,at':=4,hd:=dW,hp:=bR,en:=aS,ft:=bQ,an:=WZ t n (FtO.st (ftF t n x.13 st s)).1 x.5 x.6 x.7,aw:=dV,fn:=aM,dr:=eO,sw:=bH},st:= {me:=(FtO.st (ftF t n x.13 st s)).1,sp:=(FtO.st (ftF t n x.13 st s)).2,R:=(FtO.st (ftF t n x.13 st s)).3},s:= {t:=(FtO.s (ftF t n x.13 st s)).1,n:=(FtO.s (ftF t n x.13 st s)).2,xs:=(FtO.s (ftF t n x.13 st s)).3,c:=(FtO.s (ftF t n x.13 st s)).4,k:=(FtO.s (ftF t n x.13 st s)).5,a:=(FtO.s (ftF t n x.13 st s)).6,o:=(FtO.s (ftF t n x.13 st s)).7,w:=(FtO.s (ftF t n x.13 st s)).8,ok:=(FtO.s (ftF t n x.13 st s)).9} })))) (.pre ((t=t∧n=n)∧t=t∧n=n∧(false=false→(3:Int)=(3:Int))∧lE' (FtO.s (ftF t n x.13 st s)).3∧lE' (FtO.st (ftF t n x.13 st s)).3) (.ret {d:=false,x:= {x with at':=3,hd:=dW,hp:=bR,en:=aS,ft:=(ftF t n x.13 st s).2,an:=dU,aw:=dV,fn:=aM,dr:=eO,sw:=bH},st:= {me:=(FtO.st (ftF t n x.13 st s)).1,sp:=(FtO.st (ftF t n x.13 st s)).2,R:=(FtO.st (ftF t n x.13 st s)).3},s:= {t:=(FtO.s (ftF t n x.13 st s)).1,n:=(FtO.s (ftF t n x.13 st s)).2,xs:=(FtO.s (ftF t n x.13 st s)).3,c:=(FtO.s (ftF t n x.13 st s)).4,k:=(FtO.s (ftF t n x.13 st s)).5,a:=(FtO.s (ftF t n x.13 st s)).6,o:=(FtO.s (ftF t n x.13 st s)).7,w:=(FtO.s (ftF t n x.13 st s)).8,ok:=(FtO.s (ftF t n x.13 st s)).9} })))))
theorem I7(t n:Int)(x:DOS)(st:STS)(s:MS)(K:DqO→Prop)(h:(pW t n x st s).run K):cT' 63 [.ptr 0 0,.ptr 2 0] [some (.cells [.ptr 1 0,.int .i64 x.code,.bool x.okk,.int .i64 x.val,.bool x.slow,.int .i64 x.sh,.int .i64 x.kd,.int .i64 x.ky,.int .i64 x.limit,.int .i64 3,.O,.O,.O,.ptr 4 0,.O,.O,.O,.O,.O]),stC 5 t n st,a8 3 s,a9 s,some (.abs (.fast t n x.ft) [1]),fS st] (cC 4 0 [10,11,12,13,14,15,16,17,18] [(.cell 1 4,.ints (some .i64))] (vS t n) K):=by
 exact cM' (E:=EH) (by kernel_rfl) h
def BE(t n:Int)(x:DOS)(st:STS)(s:MS):Tr DqO:=.pre True (.ite (!aY x.5 x.6 x.7) (.pre (lE' s.3∧(0:Int)≤s.4∧s.4≤(4611686018427387904:Int)) (.pre ((t=t∧n=n)∧t=t∧n=n∧(true=false→(4:Int)=(4:Int))∧lE' s.3∧lE' st.3) (.ret {d:=true,x:= {x with code:=1,okk:=false,val:=0,at':=4,hd:=dW,hp:=bR,en:=aS,ft:=bQ,aw:=dV,fn:=aM,dr:=eO,sw:=bH},st:= {me:=st.1,sp:=st.2,R:=st.3},s:= {s with c:=s.4+1,k:=1,a:=0,o:=aB s.3 0,w:=aB s.3 0,ok:=bM s.3 0} }))) (.pre (lE' s.3∧W4 t n x.14 s) (.ite (oL t n x.14 s).1 (.pre ((lE' st.3∧CC t n st.1 (AnO.x (oL t n x.14 s)).1 x.8 st)∧True) (.pre ((t=t∧n=n)∧t=t∧n=n∧(false=false→(5:Int)=(1:Int)∨(5:Int)=(5:Int))∧lE' (AnO.s (oL t n x.14 s)).3∧lE' (Prod.snd (qF t n st.1 (AnO.x (oL t n x.14 s)).1 x.8 st)).3) (.ret {d:=false,x:= {x with at':=5,hd:=dW,hp:=(qF t n st.1 (AnO.x (oL t n x.14 s)).1 x.8 st).1,en:=aS,ft:=bQ,an:=dU,aw:=dV,fn:=aM,dr:=eO,sw:=bH},st:= {me:=(Prod.snd (qF t n st.1 (AnO.x (oL t n x.14 s)).1 x.8 st)).1,sp:=(Prod.snd (qF t n st.1 (AnO.x (oL t n x.14 s)).1 x.8 st)).2,R:=(Prod.snd (qF t n st.1 (AnO.x (oL t n x.14 s)).1 x.8 st)).3},s:= {t:=(AnO.s (oL t n x.14 s)).1,n:=(AnO.s (oL t n x.14 s)).2,xs:=(AnO.s (oL t n x.14 s)).3,c:=(AnO.s (oL t n x.14 s)).4,k:=(AnO.s (oL t n x.14 s)).5,a:=(AnO.s (oL t n x.14 s)).6,o:=(AnO.s (oL t n x.14 s)).7,w:=(AnO.s (oL t n x.14 s)).8,ok:=(AnO.s (oL t n x.14 s)).9} }))) (.pre ((t=t∧n=n)∧t=t∧n=n∧(false=false→(4:Int)=(4:Int))∧lE' (AnO.s (oL t n x.14 s)).3∧lE' st.3) (.ret {d:=false,x:= {x with at':=4,hd:=dW,hp:=bR,en:=aS,ft:=bQ,an:=(oL t n x.14 s).2,aw:=dV,fn:=aM,dr:=eO,sw:=bH},st:= {me:=st.1,sp:=st.2,R:=st.3},s:= {t:=(AnO.s (oL t n x.14 s)).1,n:=(AnO.s (oL t n x.14 s)).2,xs:=(AnO.s (oL t n x.14 s)).3,c:=(AnO.s (oL t n x.14 s)).4,k:=(AnO.s (oL t n x.14 s)).5,a:=(AnO.s (oL t n x.14 s)).6,o:=(AnO.s (oL t n x.14 s)).7,w:=(AnO.s (oL t n x.14 s)).8,ok:=(AnO.s (oL t n x.14 s)).9} })))))
theorem I8(t n:Int)(x:DOS)(st:STS)(s:MS)(K:DqO→Prop)(h:(BE t n x st s).run K):cT' 63 [.ptr 0 0,.ptr 2 0] [some (.cells [.ptr 1 0,.int .i64 x.code,.bool x.okk,.int .i64 x.val,.bool x.slow,.int .i64 x.sh,.int .i64 x.kd,.int .i64 x.ky,.int .i64 x.limit,.int .i64 4,.O,.O,.O,.O,.ptr 4 0,.O,.O,.O,.O]),stC 5 t n st,a8 3 s,a9 s,some (.abs (.announce t n x.an) []),fS st] (cC 4 0 [10,11,12,13,14,15,16,17,18] [(.cell 1 4,.ints (some .i64))] (vS t n) K):=by
 exact cM' (E:=EH) (by kernel_rfl) h
def BF(t n:Int)(x:DOS)(st:STS)(s:MS):Tr DqO:=.pre True (.ite (!aY x.5 x.6 x.7) (.pre (lE' s.3∧(0:Int)≤s.4∧s.4≤(4611686018427387904:Int)) (.pre ((t=t∧n=n)∧t=t∧n=n∧(true=false→(5:Int)=(1:Int)∨(5:Int)=(5:Int))∧lE' s.3∧lE' st.3) (.ret {d:=true,x:= {x with code:=1,okk:=false,val:=0,at':=5,hd:=dW,en:=aS,ft:=bQ,an:=dU,aw:=dV,fn:=aM,dr:=eO,sw:=bH},st:= {me:=st.1,sp:=st.2,R:=st.3},s:= {s with c:=s.4+1,k:=1,a:=0,o:=aB s.3 0,w:=aB s.3 0,ok:=bM s.3 0} }))) (.pre ((lE' s.3∧lE' st.3∧t=t∧n=n)∧OC t n x.11 st s) (.ite (dE t n x.11 st s).1 (.pre (MI t n (HpO.st (dE t n x.11 st s)).1∧True) (.pre ((t=t∧n=n)∧t=t∧n=n∧(false=false→(6:Int)=(6:Int))∧lE' (HpO.s (dE t n x.11 st s)).3∧lE' (HpO.st (dE t n x.11 st s)).3) (.ret {d:=false,x:= {x with at':=6,hd:=dW,hp:=bR,en:=aS,ft:=bQ,an:=dU,aw:=W8 t n (HpO.st (dE t n x.11 st s)).1,fn:=aM,dr:=eO,sw:=bH},st:= {me:=(HpO.st (dE t n x.11 st s)).1,sp:=(HpO.st (dE t n x.11 st s)).2,R:=(HpO.st (dE t n x.11 st s)).3},s:= {t:=(HpO.s (dE t n x.11 st s)).1,n:=(HpO.s (dE t n x.11 st s)).2,xs:=(HpO.s (dE t n x.11 st s)).3,c:=(HpO.s (dE t n x.11 st s)).4,k:=(HpO.s (dE t n x.11 st s)).5,a:=(HpO.s (dE t n x.11 st s)).6,o:=(HpO.s (dE t n x.11 st s)).7,w:=(HpO.s (dE t n x.11 st s)).8,ok:=(HpO.s (dE t n x.11 st s)).9} }))) (.pre ((t=t∧n=n)∧t=t∧n=n∧(false=false→(5:Int)=(1:Int)∨(5:Int)=(5:Int))∧lE' (HpO.s (dE t n x.11 st s)).3∧lE' (HpO.st (dE t n x.11 st s)).3) (.ret {d:=false,x:= {x with at':=5,hd:=dW,hp:=(dE t n x.11 st s).2,en:=aS,ft:=bQ,an:=dU,aw:=dV,fn:=aM,dr:=eO,sw:=bH},st:= {me:=(HpO.st (dE t n x.11 st s)).1,sp:=(HpO.st (dE t n x.11 st s)).2,R:=(HpO.st (dE t n x.11 st s)).3},s:= {t:=(HpO.s (dE t n x.11 st s)).1,n:=(HpO.s (dE t n x.11 st s)).2,xs:=(HpO.s (dE t n x.11 st s)).3,c:=(HpO.s (dE t n x.11 st s)).4,k:=(HpO.s (dE t n x.11 st s)).5,a:=(HpO.s (dE t n x.11 st s)).6,o:=(HpO.s (dE t n x.11 st s)).7,w:=(HpO.s (dE t n x.11 st s)).8,ok:=(HpO.s (dE t n x.11 st s)).9} })))))
theorem I9(t n:Int)(x:DOS)(st:STS)(s:MS)(K:DqO→Prop)(h:(BF t n x st s).run K):cT' 63 [.ptr 0 0,.ptr 2 0] [some (.cells [.ptr 1 0,.int .i64 x.code,.bool x.okk,.int .i64 x.val,.bool x.slow,.int .i64 x.sh,.int .i64 x.kd,.int .i64 x.ky,.int .i64 x.limit,.int .i64 5,.O,.ptr 4 0,.O,.O,.O,.O,.O,.O,.O]),stC 5 t n st,a8 3 s,a9 s,some (.abs (.help t n x.hp) [1]),fS st] (cC 4 0 [10,11,12,13,14,15,16,17,18] [(.cell 1 4,.ints (some .i64))] (vS t n) K):=by
 exact cM' (E:=EH) (by kernel_rfl) h
def BG(t n:Int)(x:DOS)(st:STS)(s:MS):Tr DqO:=.pre True (.ite (!aY x.5 x.6 x.7) (.pre (lE' s.3∧(0:Int)≤s.4∧s.4≤(4611686018427387904:Int)) (.pre ((t=t∧n=n)∧t=t∧n=n∧(true=false→(6:Int)=(6:Int))∧lE' s.3∧lE' st.3) (.ret {d:=true,x:= {x with code:=1,okk:=false,val:=0,at':=6,hd:=dW,hp:=bR,en:=aS,ft:=bQ,an:=dU,fn:=aM,dr:=eO,sw:=bH},st:= {me:=st.1,sp:=st.2,R:=st.3},s:= {s with c:=s.4+1,k:=1,a:=0,o:=aB s.3 0,w:=aB s.3 0,ok:=bM s.3 0} }))) (.pre (lE' s.3∧XC t n x.15 s) (.ite (gF t n x.15 s).1 (.ite (!(AwO.x (gF t n x.15 s)).2) (.pre (sP t n st.1∧True) (.pre ((t=t∧n=n)∧t=t∧n=n∧(false=false→(8:Int)=(8:Int))∧lE' (AwO.s (gF t n x.15 s)).3∧lE' st.3) (.ret {d:=false,x:= {x with code:=(AwO.x (gF t n x.15 s)).1,okk:=(AwO.x (gF t n x.15 s)).2,val:=(AwO.x (gF t n x.15 s)).3,at':=8,hd:=dW,hp:=bR,en:=aS,ft:=bQ,an:=dU,aw:=dV,fn:=aM,dr:=mJ t n st.1,sw:=bH},st:= {me:=st.1,sp:=st.2,R:=st.3},s:= {t:=(AwO.s (gF t n x.15 s)).1,n:=(AwO.s (gF t n x.15 s)).2,xs:=(AwO.s (gF t n x.15 s)).3,c:=(AwO.s (gF t n x.15 s)).4,k:=(AwO.s (gF t n x.15 s)).5,a:=(AwO.s (gF t n x.15 s)).6,o:=(AwO.s (gF t n x.15 s)).7,w:=(AwO.s (gF t n x.15 s)).8,ok:=(AwO.s (gF t n x.15 s)).9} }))) (.pre True (.ite (!eJ x.5 x.6) (.pre (sP t n st.1∧True) (.pre ((t=t∧n=n)∧t=t∧n=n∧(false=false→(8:Int)=(8:Int))∧lE' (AwO.s (gF t n x.15 s)).3∧lE' st.3) (.ret {d:=false,x:= {x with code:=(AwO.x (gF t n x.15 s)).1,okk:=(AwO.x (gF t n x.15 s)).2,val:=(AwO.x (gF t n x.15 s)).3,at':=8,hd:=dW,hp:=bR,en:=aS,ft:=bQ,an:=dU,aw:=dV,fn:=aM,dr:=mJ t n st.1,sw:=bH},st:= {me:=st.1,sp:=st.2,R:=st.3},s:= {t:=(AwO.s (gF t n x.15 s)).1,n:=(AwO.s (gF t n x.15 s)).2,xs:=(AwO.s (gF t n x.15 s)).3,c:=(AwO.s (gF t n x.15 s)).4,k:=(AwO.s (gF t n x.15 s)).5,a:=(AwO.s (gF t n x.15 s)).6,o:=(AwO.s (gF t n x.15 s)).7,w:=(AwO.s (gF t n x.15 s)).8,ok:=(AwO.s (gF t n x.15 s)).9} }))) (.pre True (.pre (oO t n st.1 (cB x.5 x.7) (bT x.5 x.6 x.7) x.8∧True) (.pre ((t=t∧n=n)∧t=t∧n=n∧(false=false→(7:Int)=(7:Int))∧lE' (AwO.s (gF t n x.15 s)).3∧lE' st.3) (.ret {d:=false,x:= {x with code:=(AwO.x (gF t n x.15 s)).1,okk:=(AwO.x (gF t n x.15 s)).2,val:=(AwO.x (gF t n x.15 s)).3,at':=7,hd:=dW,hp:=bR,en:=aS,ft:=bQ,an:=dU,aw:=dV,fn:=lC t n st.1 (cB x.5 x.7) (bT x.5 x.6 x.7) x.8,dr:=eO,sw:=bH},st:= {me:=st.1,sp:=st.2,R:=st.3},s:= {t:=(AwO.s (gF t n x.15 s)).1,n:=(AwO.s (gF t n x.15 s)).2,xs:=(AwO.s (gF t n x.15 s)).3,c:=(AwO.s (gF t n x.15 s)).4,k:=(AwO.s (gF t n x.15 s)).5,a:=(AwO.s (gF t n x.15 s)).6,o:=(AwO.s (gF t n x.15 s)).7,w:=(AwO.s (gF t n x.15 s)).8,ok:=(AwO.s (gF t n x.15 s)).9} }))))))) (.pre ((t=t∧n=n)∧t=t∧n=n∧(false=false→(6:Int)=(6:Int))∧lE' (AwO.s (gF t n x.15 s)).3∧lE' st.3) (.ret {d:=false,x:= {x with at':=6,hd:=dW,hp:=bR,en:=aS,ft:=bQ,an:=dU,aw:=(gF t n x.15 s).2,fn:=aM,dr:=eO,sw:=bH},st:= {me:=st.1,sp:=st.2,R:=st.3},s:= {t:=(AwO.s (gF t n x.15 s)).1,n:=(AwO.s (gF t n x.15 s)).2,xs:=(AwO.s (gF t n x.15 s)).3,c:=(AwO.s (gF t n x.15 s)).4,k:=(AwO.s (gF t n x.15 s)).5,a:=(AwO.s (gF t n x.15 s)).6,o:=(AwO.s (gF t n x.15 s)).7,w:=(AwO.s (gF t n x.15 s)).8,ok:=(AwO.s (gF t n x.15 s)).9} })))))
theorem JA(t n:Int)(x:DOS)(st:STS)(s:MS)(K:DqO→Prop)(h:(BG t n x st s).run K):cT' 63 [.ptr 0 0,.ptr 2 0] [some (.cells [.ptr 1 0,.int .i64 x.code,.bool x.okk,.int .i64 x.val,.bool x.slow,.int .i64 x.sh,.int .i64 x.kd,.int .i64 x.ky,.int .i64 x.limit,.int .i64 6,.O,.O,.O,.O,.O,.ptr 4 0,.O,.O,.O]),stC 5 t n st,a8 3 s,a9 s,some (.abs (.answer t n x.aw) []),fS st] (cC 4 0 [10,11,12,13,14,15,16,17,18] [(.cell 1 4,.ints (some .i64))] (vS t n) K):=by
 exact cM' (E:=EH) (by kernel_rfl) h
def pX(t n:Int)(x:DOS)(st:STS)(s:MS):Tr DqO:=.pre True (.ite (!aY x.5 x.6 x.7) (.pre (lE' s.3∧(0:Int)≤s.4∧s.4≤(4611686018427387904:Int)) (.pre ((t=t∧n=n)∧t=t∧n=n∧(true=false→(7:Int)=(7:Int))∧lE' s.3∧lE' st.3) (.ret {d:=true,x:= {x with code:=1,okk:=false,val:=0,at':=7,hd:=dW,hp:=bR,en:=aS,ft:=bQ,an:=dU,aw:=dV,dr:=eO,sw:=bH},st:= {me:=st.1,sp:=st.2,R:=st.3},s:= {s with c:=s.4+1,k:=1,a:=0,o:=aB s.3 0,w:=aB s.3 0,ok:=bM s.3 0} }))) (.pre (lE' s.3∧JU t n x.16 s) (.ite (fnF t n x.16 s).1 (.pre ((lE' st.3∧lE' (FnO.x (fnF t n x.16 s)).6∧List.length st.3+List.length (FnO.x (fnF t n x.16 s)).6≤(4294967296:Nat))∧True) (.pre (sP t n st.1∧True) (.pre ((t=t∧n=n)∧t=t∧n=n∧(false=false→(8:Int)=(8:Int))∧lE' (FnO.s (fnF t n x.16 s)).3∧List.length st.3+List.length (FnO.x (fnF t n x.16 s)).6=List.length (st.3++(FnO.x (fnF t n x.16 s)).6)) (.ret {d:=false,x:= {x with at':=8,hd:=dW,hp:=bR,en:=aS,ft:=bQ,an:=dU,aw:=dV,fn:=aM,dr:=mJ t n st.1,sw:=bH},st:= {me:=st.1,sp:=st.2,R:=st.3++(FnO.x (fnF t n x.16 s)).6},s:= {t:=(FnO.s (fnF t n x.16 s)).1,n:=(FnO.s (fnF t n x.16 s)).2,xs:=(FnO.s (fnF t n x.16 s)).3,c:=(FnO.s (fnF t n x.16 s)).4,k:=(FnO.s (fnF t n x.16 s)).5,a:=(FnO.s (fnF t n x.16 s)).6,o:=(FnO.s (fnF t n x.16 s)).7,w:=(FnO.s (fnF t n x.16 s)).8,ok:=(FnO.s (fnF t n x.16 s)).9} })))) (.pre ((t=t∧n=n)∧t=t∧n=n∧(false=false→(7:Int)=(7:Int))∧lE' (FnO.s (fnF t n x.16 s)).3∧lE' st.3) (.ret {d:=false,x:= {x with at':=7,hd:=dW,hp:=bR,en:=aS,ft:=bQ,an:=dU,aw:=dV,fn:=(fnF t n x.16 s).2,dr:=eO,sw:=bH},st:= {me:=st.1,sp:=st.2,R:=st.3},s:= {t:=(FnO.s (fnF t n x.16 s)).1,n:=(FnO.s (fnF t n x.16 s)).2,xs:=(FnO.s (fnF t n x.16 s)).3,c:=(FnO.s (fnF t n x.16 s)).4,k:=(FnO.s (fnF t n x.16 s)).5,a:=(FnO.s (fnF t n x.16 s)).6,o:=(FnO.s (fnF t n x.16 s)).7,w:=(FnO.s (fnF t n x.16 s)).8,ok:=(FnO.s (fnF t n x.16 s)).9} })))))
theorem JB(t n:Int)(x:DOS)(st:STS)(s:MS)(K:DqO→Prop)(h:(pX t n x st s).run K):cT' 63 [.ptr 0 0,.ptr 2 0] [some (.cells [.ptr 1 0,.int .i64 x.code,.bool x.okk,.int .i64 x.val,.bool x.slow,.int .i64 x.sh,.int .i64 x.kd,.int .i64 x.ky,.int .i64 x.limit,.int .i64 7,.O,.O,.O,.O,.O,.O,.ptr 4 0,.O,.O]),stC 5 t n st,a8 3 s,a9 s,some (.abs (.find t n x.fn) []),fS st] (cC 4 0 [10,11,12,13,14,15,16,17,18] [(.cell 1 4,.ints (some .i64))] (vS t n) K):=by
 exact cM' (E:=EH) (by kernel_rfl) h
def pY(t n:Int)(x:DOS)(st:STS)(s:MS):Tr DqO:=.pre True (.ite (!aY x.5 x.6 x.7) (.pre (lE' s.3∧(0:Int)≤s.4∧s.4≤(4611686018427387904:Int)) (.pre ((t=t∧n=n)∧t=t∧n=n∧(true=false→(8:Int)=(8:Int))∧lE' s.3∧lE' st.3) (.ret {d:=true,x:= {x with code:=1,okk:=false,val:=0,at':=8,hd:=dW,hp:=bR,en:=aS,ft:=bQ,an:=dU,aw:=dV,fn:=aM,sw:=bH},st:= {me:=st.1,sp:=st.2,R:=st.3},s:= {s with c:=s.4+1,k:=1,a:=0,o:=aB s.3 0,w:=aB s.3 0,ok:=bM s.3 0} }))) (.pre (lE' s.3∧YA t n x.17 s) (.ite (drF t n x.17 s).1 (.pre (lE' st.3∧(t=t∧n=n∧lE' st.3)∧True) (.pre ((0:Int)≤t∧t≤(100000:Int)) (.pre ((t=t∧n=n)∧t=t∧n=n∧((!ile (4*t) (↑(List.length st.3):Int))=false→(9:Int)=(9:Int))∧lE' (DrO.s (drF t n x.17 s)).3∧lE' st.3) (.ret {d:=!ile (4*t) (↑(List.length st.3):Int),x:= {x with at':=9,hd:=dW,hp:=bR,en:=aS,ft:=bQ,an:=dU,aw:=dV,fn:=aM,dr:=eO,sw:=bH},st:= {me:=st.1,sp:=st.2,R:=st.3},s:= {t:=(DrO.s (drF t n x.17 s)).1,n:=(DrO.s (drF t n x.17 s)).2,xs:=(DrO.s (drF t n x.17 s)).3,c:=(DrO.s (drF t n x.17 s)).4,k:=(DrO.s (drF t n x.17 s)).5,a:=(DrO.s (drF t n x.17 s)).6,o:=(DrO.s (drF t n x.17 s)).7,w:=(DrO.s (drF t n x.17 s)).8,ok:=(DrO.s (drF t n x.17 s)).9} })))) (.pre ((t=t∧n=n)∧t=t∧n=n∧(false=false→(8:Int)=(8:Int))∧lE' (DrO.s (drF t n x.17 s)).3∧lE' st.3) (.ret {d:=false,x:= {x with at':=8,hd:=dW,hp:=bR,en:=aS,ft:=bQ,an:=dU,aw:=dV,fn:=aM,dr:=(drF t n x.17 s).2,sw:=bH},st:= {me:=st.1,sp:=st.2,R:=st.3},s:= {t:=(DrO.s (drF t n x.17 s)).1,n:=(DrO.s (drF t n x.17 s)).2,xs:=(DrO.s (drF t n x.17 s)).3,c:=(DrO.s (drF t n x.17 s)).4,k:=(DrO.s (drF t n x.17 s)).5,a:=(DrO.s (drF t n x.17 s)).6,o:=(DrO.s (drF t n x.17 s)).7,w:=(DrO.s (drF t n x.17 s)).8,ok:=(DrO.s (drF t n x.17 s)).9} })))))
theorem JC(t n:Int)(x:DOS)(st:STS)(s:MS)(K:DqO→Prop)(h:(pY t n x st s).run K):cT' 63 [.ptr 0 0,.ptr 2 0] [some (.cells [.ptr 1 0,.int .i64 x.code,.bool x.okk,.int .i64 x.val,.bool x.slow,.int .i64 x.sh,.int .i64 x.kd,.int .i64 x.ky,.int .i64 x.limit,.int .i64 8,.O,.O,.O,.O,.O,.O,.O,.ptr 4 0,.O]),stC 5 t n st,a8 3 s,a9 s,some (.abs (.drop t n x.dr) []),fS st] (cC 4 0 [10,11,12,13,14,15,16,17,18] [(.cell 1 4,.ints (some .i64))] (vS t n) K):=by
 exact cM' (E:=EH) (by kernel_rfl) h
def pZ(t n:Int)(x:DOS)(st:STS)(s:MS):Tr DqO:=.pre True (.ite (!aY x.5 x.6 x.7) (.pre (lE' s.3∧(0:Int)≤s.4∧s.4≤(4611686018427387904:Int)) (.pre ((t=t∧n=n)∧t=t∧n=n∧(true=false→(9:Int)=(9:Int))∧lE' s.3∧lE' st.3) (.ret {d:=true,x:= {x with code:=1,okk:=false,val:=0,at':=9,hd:=dW,hp:=bR,en:=aS,ft:=bQ,an:=dU,aw:=dV,fn:=aM,dr:=eO},st:= {me:=st.1,sp:=st.2,R:=st.3},s:= {s with c:=s.4+1,k:=1,a:=0,o:=aB s.3 0,w:=aB s.3 0,ok:=bM s.3 0} }))) (.pre ((lE' s.3∧lE' st.3∧t=t∧n=n)∧qO t n (DOS.sw x) {me:=st.1,sp:=st.2,R:=st.3} s) (.ite (swF t n x.18 st s).1 (.pre ((t=t∧n=n)∧(true=false→(9:Int)≠(0:Int)∧(9:Int)≠(1:Int)∧(9:Int)≠(5:Int)∧(9:Int)≠(2:Int)∧(9:Int)≠(3:Int)∧(9:Int)≠(4:Int)∧(9:Int)≠(6:Int)∧(9:Int)≠(7:Int)∧(9:Int)≠(8:Int)∧(9:Int)≠(9:Int))∧lE' (SO.s (swF t n x.18 st s)).3∧lE' (SO.st (swF t n x.18 st s)).3) (.ret {d:=true,x:= {x with at':=9,hd:=dW,hp:=bR,en:=aS,ft:=bQ,an:=dU,aw:=dV,fn:=aM,dr:=eO,sw:=bH},st:= {me:=(SO.st (swF t n x.18 st s)).1,sp:=(SO.st (swF t n x.18 st s)).2,R:=(SO.st (swF t n x.18 st s)).3},s:= {t:=(SO.s (swF t n x.18 st s)).1,n:=(SO.s (swF t n x.18 st s)).2,xs:=(SO.s (swF t n x.18 st s)).3,c:=(SO.s (swF t n x.18 st s)).4,k:=(SO.s (swF t n x.18 st s)).5,a:=(SO.s (swF t n x.18 st s)).6,o:=(SO.s (swF t n x.18 st s)).7,w:=(SO.s (swF t n x.18 st s)).8,ok:=(SO.s (swF t n x.18 st s)).9} })) (.pre ((t=t∧n=n)∧t=t∧n=n∧(false=false→(9:Int)=(9:Int))∧lE' (SO.s (swF t n x.18 st s)).3∧lE' (SO.st (swF t n x.18 st s)).3) (.ret {d:=false,x:= {x with at':=9,hd:=dW,hp:=bR,en:=aS,ft:=bQ,an:=dU,aw:=dV,fn:=aM,dr:=eO,sw:=(swF t n x.18 st s).2},st:= {me:=(SO.st (swF t n x.18 st s)).1,sp:=(SO.st (swF t n x.18 st s)).2,R:=(SO.st (swF t n x.18 st s)).3},s:= {t:=(SO.s (swF t n x.18 st s)).1,n:=(SO.s (swF t n x.18 st s)).2,xs:=(SO.s (swF t n x.18 st s)).3,c:=(SO.s (swF t n x.18 st s)).4,k:=(SO.s (swF t n x.18 st s)).5,a:=(SO.s (swF t n x.18 st s)).6,o:=(SO.s (swF t n x.18 st s)).7,w:=(SO.s (swF t n x.18 st s)).8,ok:=(SO.s (swF t n x.18 st s)).9} })))))
theorem JD(t n:Int)(x:DOS)(st:STS)(s:MS)(K:DqO→Prop)(h:(pZ t n x st s).run K):cT' 63 [.ptr 0 0,.ptr 2 0] [some (.cells [.ptr 1 0,.int .i64 x.code,.bool x.okk,.int .i64 x.val,.bool x.slow,.int .i64 x.sh,.int .i64 x.kd,.int .i64 x.ky,.int .i64 x.limit,.int .i64 9,.O,.O,.O,.O,.O,.O,.O,.O,.ptr 4 0]),stC 5 t n st,a8 3 s,a9 s,some (.abs (.sweep t n x.sw) [1]),fS st] (cC 4 0 [10,11,12,13,14,15,16,17,18] [(.cell 1 4,.ints (some .i64))] (vS t n) K):=by
 exact cM' (E:=EH) (by kernel_rfl) h
def AE(t n:Int)(x:DOS)(st:STS)(s:MS):Tr DqO:=
 bif ieq x.at' 0 then pU t n x st s else
 bif ieq x.at' 1 then BD t n x st s else
 bif ieq x.at' 2 then pV t n x st s else
 bif ieq x.at' 3 then pW t n x st s else
 bif ieq x.at' 4 then BE t n x st s else
 bif ieq x.at' 5 then BF t n x st s else
 bif ieq x.at' 6 then BG t n x st s else
 bif ieq x.at' 7 then pX t n x st s else
 bif ieq x.at' 8 then pY t n x st s else
 bif ieq x.at' 9 then pZ t n x st s else .pre False (.ret default)
def dqF(t n:Int)(x:DOS)(st:STS)(s:MS):DqO:=(AE t n x st s).val
def dqOk(t n:Int)(x:DOS)(st:STS)(s:MS):Prop:=(AE t n x st s).ok
theorem G5(t n:Int)(x:DOS)(st:STS)(s:MS)(K:AVal→aD Ob→Prop)(h:(AE t n x st s).run (fun y=>(DqO.fin t n y).run K)):cT' 63 [.ptr 0 0,.ptr 2 0] (tE t n x st s) K:=by
 unfold AE at h
 by_cases e:x.at'=0
 ·rw [e]at h
  have h:(pU t n x st s).run _:=h
  refine aC9 (root:=0) (pos:=[10,11,12,13,14,15,16,17,18]) (cs:=[(.cell 1 4,.ints (some .i64))]) (parse:=vS t n) (fin:=DqO.fin t n) kE ((bE.unpack (.doer t n x) 0 1 (kY t n x) [1] rfl (congrArg (Prod.mk 1) (yR e)) (by kernel_rfl) rfl).trans (bE.unpack (.store t n st) 1 0 (dG t n st) [] rfl rfl rfl rfl)) ?_
  have q:=I4 t n x st s _ h
  rw [←e]at q
  exact q
 rw [bW e]at h
 by_cases e:x.at'=1
 ·rw [e]at h
  have h:(BD t n x st s).run _:=h
  refine aC9 (root:=0) (pos:=[10,11,12,13,14,15,16,17,18]) (cs:=[(.cell 1 4,.ints (some .i64))]) (parse:=vS t n) (fin:=DqO.fin t n) kE ((bE.unpack (.doer t n x) 0 1 (fF t n x) [1] rfl (congrArg (Prod.mk 1) (GP e)) (by kernel_rfl) rfl).trans (bE.unpack (.store t n st) 1 0 (dG t n st) [] rfl rfl rfl rfl)) ?_
  have q:=I5 t n x st s _ h
  rw [←e]at q
  exact q
 rw [bW e]at h
 by_cases e:x.at'=2
 ·rw [e]at h
  have h:(pV t n x st s).run _:=h
  refine aC9 (root:=0) (pos:=[10,11,12,13,14,15,16,17,18]) (cs:=[(.cell 1 4,.ints (some .i64))]) (parse:=vS t n) (fin:=DqO.fin t n) kE ((bE.unpack (.doer t n x) 0 1 (mV t n x) [1] rfl (congrArg (Prod.mk 1) (GU e)) (by kernel_rfl) rfl).trans (bE.unpack (.store t n st) 1 0 (dG t n st) [] rfl rfl rfl rfl)) ?_
  have q:=I6 t n x st s _ h
  rw [←e]at q
  exact q
 rw [bW e]at h
 by_cases e:x.at'=3
 ·rw [e]at h
  have h:(pW t n x st s).run _:=h
  refine aC9 (root:=0) (pos:=[10,11,12,13,14,15,16,17,18]) (cs:=[(.cell 1 4,.ints (some .i64))]) (parse:=vS t n) (fin:=DqO.fin t n) kE ((bE.unpack (.doer t n x) 0 1 (mX t n x) [1] rfl (congrArg (Prod.mk 1) (GV e)) (by kernel_rfl) rfl).trans (bE.unpack (.store t n st) 1 0 (dG t n st) [] rfl rfl rfl rfl)) ?_
  have q:=I7 t n x st s _ h
  rw [←e]at q
  exact q
 rw [bW e]at h
 by_cases e:x.at'=4
 ·rw [e]at h
  have h:(BE t n x st s).run _:=h
  refine aC9 (root:=0) (pos:=[10,11,12,13,14,15,16,17,18]) (cs:=[(.cell 1 4,.ints (some .i64))]) (parse:=vS t n) (fin:=DqO.fin t n) kE ((bE.unpack (.doer t n x) 0 1 (mS t n x) [1] rfl (congrArg (Prod.mk 1) (GW e)) (by kernel_rfl) rfl).trans (bE.unpack (.store t n st) 1 0 (dG t n st) [] rfl rfl rfl rfl)) ?_
  have q:=I8 t n x st s _ h
  rw [←e]at q
  exact q
 rw [bW e]at h
 by_cases e:x.at'=5
 ·rw [e]at h
  have h:(BF t n x st s).run _:=h
  refine aC9 (root:=0) (pos:=[10,11,12,13,14,15,16,17,18]) (cs:=[(.cell 1 4,.ints (some .i64))]) (parse:=vS t n) (fin:=DqO.fin t n) kE ((bE.unpack (.doer t n x) 0 1 (fF t n x) [1] rfl (congrArg (Prod.mk 1) (GY e)) (by kernel_rfl) rfl).trans (bE.unpack (.store t n st) 1 0 (dG t n st) [] rfl rfl rfl rfl)) ?_
  have q:=I9 t n x st s _ h
  rw [←e]at q
  exact q
 rw [bW e]at h
 by_cases e:x.at'=6
 ·rw [e]at h
  have h:(BG t n x st s).run _:=h
  refine aC9 (root:=0) (pos:=[10,11,12,13,14,15,16,17,18]) (cs:=[(.cell 1 4,.ints (some .i64))]) (parse:=vS t n) (fin:=DqO.fin t n) kE ((bE.unpack (.doer t n x) 0 1 (mT t n x) [1] rfl (congrArg (Prod.mk 1) (G0 e)) (by kernel_rfl) rfl).trans (bE.unpack (.store t n st) 1 0 (dG t n st) [] rfl rfl rfl rfl)) ?_
  have q:=JA t n x st s _ h
  rw [←e]at q
  exact q
 rw [bW e]at h
 by_cases e:x.at'=7
 ·rw [e]at h
  have h:(pX t n x st s).run _:=h
  refine aC9 (root:=0) (pos:=[10,11,12,13,14,15,16,17,18]) (cs:=[(.cell 1 4,.ints (some .i64))]) (parse:=vS t n) (fin:=DqO.fin t n) kE ((bE.unpack (.doer t n x) 0 1 (mW t n x) [1] rfl (congrArg (Prod.mk 1) (G1 e)) (by kernel_rfl) rfl).trans (bE.unpack (.store t n st) 1 0 (dG t n st) [] rfl rfl rfl rfl)) ?_
  have q:=JB t n x st s _ h
  rw [←e]at q
  exact q
 rw [bW e]at h
 by_cases e:x.at'=8
 ·rw [e]at h
  have h:(pY t n x st s).run _:=h
  refine aC9 (root:=0) (pos:=[10,11,12,13,14,15,16,17,18]) (cs:=[(.cell 1 4,.ints (some .i64))]) (parse:=vS t n) (fin:=DqO.fin t n) kE ((bE.unpack (.doer t n x) 0 1 (mU t n x) [1] rfl (congrArg (Prod.mk 1) (G2 e)) (by kernel_rfl) rfl).trans (bE.unpack (.store t n st) 1 0 (dG t n st) [] rfl rfl rfl rfl)) ?_
  have q:=JC t n x st s _ h
  rw [←e]at q
  exact q
 rw [bW e]at h
 by_cases e:x.at'=9
 ·rw [e]at h
  have h:(pZ t n x st s).run _:=h
  refine aC9 (root:=0) (pos:=[10,11,12,13,14,15,16,17,18]) (cs:=[(.cell 1 4,.ints (some .i64))]) (parse:=vS t n) (fin:=DqO.fin t n) kE ((bE.unpack (.doer t n x) 0 1 (mY t n x) [1] rfl (congrArg (Prod.mk 1) (G3 e)) (by kernel_rfl) rfl).trans (bE.unpack (.store t n st) 1 0 (dG t n st) [] rfl rfl rfl rfl)) ?_
  have q:=JD t n x st s _ h
  rw [←e]at q
  exact q
 rw [bW e]at h
 exact h.1.elim
noncomputable def dqSA:aJ Ob:=fun args h=>match args,h with
 | [.ptr 0 0,.ptr 2 0],[some (.abs (.doer t n x) [1]),some (.abs (.store t2 n2 st) []),e3,e4]=>(match cW 3 [e3,e4]with
   | some (l,s)=>some (.pre ((l=s.xs.length∧t2=t∧n2=n)∧dqOk t n x st s) (DqO.fin t n (dqF t n x st s)))
   | none=>none)
 | _,_=>none
theorem X3:sT' 63 dqSA:=by
 intro args h o ho K hK
 unfold dqSA at ho
 split at ho
 case h_2=>cases ho
 split at ho<;>cases ho
 rename_i hm
 obtain⟨⟨⟨hl,rfl,rfl⟩,ok⟩,hK⟩:=hK
 have hh:=bA hm hl
 cases hh
 exact G5 _ _ _ _ _ K (aDe ok hK)
def DqO.finB(t n:Int)(y:DqO):Out Ob:=.ite y.d (.ret (.bool true) ([some (.cells [.ptr 1 0,.int .i64 y.x.code,.bool y.x.okk,.int .i64 y.x.val,.bool y.x.slow,.int .i64 y.x.sh,.int .i64 y.x.kd,.int .i64 y.x.ky,.int .i64 y.x.limit,.int .i64 y.x.at',.O,.O,.O,.O,.O,.O,.O,.O,.O]),stC 5 t n y.st,none,a8 4 y.s,a9 y.s,fS y.st])) (.ret (.bool false) [some (.abs (.doer t n y.x) [1]),stC 5 t n y.st,none,a8 4 y.s,a9 y.s,fS y.st])
noncomputable def dqSB:aJ Ob:=fun args h=>match args,h with
 | [.ptr 0 0,.ptr 3 0],[some (.abs (.doer t n x) [1]),e1,e2,e3,e4]=>(match j9 2 [e1,e2],cW 4 [e3,e4]with
   | some (l2,t2,n2,st),some (l,s)=>some (.pre ((l=s.xs.length∧l2=st.R.length∧t2=t∧n2=n)∧dqOk t n x st s) (DqO.finB t n (dqF t n x st s)))
   | _,_=>none)
 | _,_=>none
theorem X4:sT' 63 dqSB:=by
 intro args h o ho K hK
 unfold dqSB at ho
 split at ho
 case h_2=>cases ho
 split at ho<;>cases ho
 rename_i hs hm
 obtain⟨⟨⟨hl,hl2,rfl,rfl⟩,ok⟩,hK⟩:=hK
 have hh:=bA hm hl
 cases hh
 have hh:=cD hs hl2
 cases hh
 exact i6 (fun ι hι=>by simp [aK.ren,aDg,AVal.ren,hι]) (fun ι hι=>by simp [aK.ren,hι]) (fun K hK=>G5 _ _ _ _ _ K (aDe ok hK)) K hK
noncomputable def dqS:aJ Ob:=aJ.or dqSA dqSB
theorem aBh:sT' 63 dqS:=aDn X3 X4
def XS(t n:Int)(v:AVal)(g:aD Ob):Option (Prop×(DOS×STS)):=match v,g with
 | .ptr 2 0,[e1,e2,some (.cells [.ptr 0 0,.int .i64 code,.bool okk,.int .i64 val,.bool slow,.int .i64 sh,.int .i64 kd,.int .i64 ky,.int .i64 limit,.int .i64 at',.ptr 3 0,.O,.O,.O,.O,.O,.O,.O,.O]),some (.abs (.head t' n' sub) [])]=>(match j9 1 [e1,e2]with
   | some (l2,t2,n2,st)=>some ((t2=t∧n2=n∧l2=st.R.length)∧t'=t∧n'=n∧at'=0,⟨(⟨code,okk,val,slow,sh,kd,ky,limit,at',sub,bR,aS,bQ,⟨0,0,0,0,false,0⟩,⟨0,false,0,0⟩,aM,⟨0,0⟩,bH⟩:DOS),st⟩)
   | none=>none)
 | _,_=>none
abbrev RP(t n:Int)(y:(DOS×STS)):aD Ob:=[stC 1 t n y.2,fS y.2,some (.abs (.doer t n y.1) [0])]
theorem RQ{t n:Int} :cA (obI tbl) 2 (XS t n) (fun y=>.ret (.ptr 2 0) (RP t n y)):=by
 intro v g p x hp hq K hK
 unfold XS at hp
 split at hp
 case h_2=>cases hp
 rename_i e1 e2 code okk val slow sh kd ky limit at' t' n' sub
 split at hp
 case h_2=>cases hp
 rename_i l2 t2 n2 st hs
 simp only [sI',pI']at hp
 obtain⟨rfl,rfl⟩:=hp
 obtain⟨⟨rfl,rfl,hl2⟩,rfl,rfl,hat⟩:=hq
 have hh:=cD hs hl2
 cases hh
 exact⟨⟨_,_,aF.pack (RP t' n' ((⟨code,okk,val,slow,sh,kd,ky,limit,at',sub,bR,aS,bQ,⟨0,0,0,0,false,0⟩,⟨0,false,0,0⟩,aM,⟨0,0⟩,bH⟩:DOS),st)) (.doer t' n' (⟨code,okk,val,slow,sh,kd,ky,limit,at',sub,bR,aS,bQ,⟨0,0,0,0,false,0⟩,⟨0,false,0,0⟩,aM,⟨0,0⟩,bH⟩:DOS)) 2 1 (kY t' n' (⟨code,okk,val,slow,sh,kd,ky,limit,at',sub,bR,aS,bQ,⟨0,0,0,0,false,0⟩,⟨0,false,0,0⟩,aM,⟨0,0⟩,bH⟩:DOS)) [0] (by kernel_rfl) rfl (congrArg (Prod.mk 1) (yR hat)) (by kernel_rfl),hK⟩⟩
def ND(t n:Int)(sh kd ky lim:Int)(st:STS):Tr (DOS×STS):=.pre (N7 t n∧True) (.pre ((t=t∧n=n∧lE' st.3)∧t=t∧n=n∧(0:Int)=(0:Int)) (.ret ({code:=0,okk:=false,val:=0,slow:=false,sh:=sh,kd:=kd,ky:=ky,limit:=lim,at':=0,hd:=TI t n,hp:=bR,en:=aS,ft:=bQ,an:=dU,aw:=dV,fn:=aM,dr:=eO,sw:=bH},{me:=st.1,sp:=st.2,R:=st.3})))
def dqNF(t n:Int)(sh kd ky lim:Int)(st:STS):(DOS×STS):=(ND t n sh kd ky lim st).val
def wV(t n:Int)(sh kd ky lim:Int)(st:STS):Prop:=(ND t n sh kd ky lim st).ok
def dqNS:aJ Ob:=fun args h=>match args,h with
 | [.ptr 0 0,.agg [.int .i64 sh,.int .i64 kd,.int .i64 ky],.int .i64 lim],[e1,e2]=>(match j9 1 [e1,e2]with
   | some (l2,t,n,st)=>some (.pre (l2=st.R.length∧wV t n sh kd ky lim st) (.ret (.ptr 2 0) (RP t n (dqNF t n sh kd ky lim st))))
   | none=>none)
 | _,_=>none
theorem EB:sT' 56 dqNS:=by
 intro args h o ho K hK
 unfold dqNS at ho
 split at ho
 case h_2=>cases ho
 rename_i sh kd ky lim e1 e2
 split at ho<;>cases ho
 rename_i l2 t n st hs
 obtain⟨⟨hl2,ok⟩,hK⟩:=hK
 have hh:=cD hs hl2
 cases hh
 refine aDh (root:=2) (pos:=[10,11,12,13,14,15,16,17,18]) (cs:=[]) (parse:=XS t n) RQ ?_
 exact cM' (E:=EH) (q:=(ND t n sh kd ky lim st).run (fun y=>(Out.ret (.ptr 2 0) (RP t n y)).run K)) (by kernel_rfl) (aDe ok hK)
noncomputable def ED:=((EH.addS 63 dqS aBh).addS 56 dqNS EB)
instance:Inhabited MS:=⟨⟨0,0,[],0,0,0,0,0,false⟩⟩
instance:Inhabited STS:=⟨⟨0,0,[]⟩⟩
noncomputable def ERun:=ED
end Go.Sh
