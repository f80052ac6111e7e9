import Derived.Test.YtedeloeobocpiaaGreatZGC6toGH0
set_option linter.all false
set_option maxHeartbeats 8000000
namespace Go.Sh
open Go Go.Proofs
variable [Con]
structure HpO where
 d:Bool
 x:HPS
 st:STS
 s:MS
instance:Inhabited HpO:=⟨⟨false,Z5,⟨0,0,[]⟩,⟨0,0,[],0,0,0,0,0,false⟩⟩⟩
instance:Inhabited HPS:=⟨Z5⟩
abbrev HM(t n:Int)(x:HPS)(st:STS)(s:MS):aD Ob:=[some (.abs (.help t n x) [1]),some (.abs (.store t n st) []),aZ 3 s,a9 s]
abbrev K6(t n:Int)(x:HPS)(st:STS)(s:MS):aD Ob:=[some (.cells [.ptr 1 0,.int .i64 x.u,.int .u64 x.no,.int .i64 x.rounds,.int .i64 x.limit,.int .i64 x.at',.int .u64 x.found,.int .i64 x.sh,.int .i64 x.kd,.int .i64 x.ky,.bool x.p.now,.int .i64 x.p.code,.bool x.p.okk,.int .i64 x.p.val,.int .i64 x.p.addr,.int .u64 x.p.old,.int .i64 x.p.nxt,.bool x.p.mark,.int .i64 x.p.pops,.O,.O,.O,.O,.O]),some (.abs (.store t n st) []),aZ 3 s,a9 s]
def HpO.fin(t n:Int)(y:HpO):Out Ob:=.ite y.d (.ret (.bool true) (K6 t n y.x y.st y.s)) (.ret (.bool false) (HM t n y.x y.st y.s))
def XJ(t n:Int)(v:AVal)(g:aD Ob):Option (Prop×HpO):=match v,g with
 | .bool d,[some (.cells [.ptr 1 0,.int .i64 u,.int .u64 no,.int .i64 rounds,.int .i64 limit,.int .i64 at',.int .u64 found,.int .i64 sh,.int .i64 kd,.int .i64 ky,.bool p_now,.int .i64 p_code,.bool p_okk,.int .i64 p_val,.int .i64 p_addr,.int .u64 p_old,.int .i64 p_nxt,.bool p_mark,.int .i64 p_pops,.O,.O,.O,.O,.O]),e1,e3,e4,e2]=>(match uP 4 [e1,e2],eI 3 [e3,e4]with
   | some (l2,t2,n2,st),some (l,s)=>some ((t2=t∧n2=n)∧(d=false→at'≠3∧at'≠4∧at'≠5∧at'≠7∧at'≠8)∧l=s.xs.length∧l2=st.R.length,⟨d,⟨u,no,rounds,limit,at',found,sh,kd,ky,⟨p_now,p_code,p_okk,p_val,p_addr,p_old,p_nxt,p_mark,p_pops⟩,cS,cF,cV,⟨0,0,0,0⟩,⟨0,0,0,false⟩⟩,st,s⟩)
   | _,_=>none)
 | _,_=>none
def XK(t n:Int)(v:AVal)(g:aD Ob):Option (Prop×HpO):=match v,g with
 | .bool d,[some (.cells [.ptr 1 0,.int .i64 u,.int .u64 no,.int .i64 rounds,.int .i64 limit,.int .i64 at',.int .u64 found,.int .i64 sh,.int .i64 kd,.int .i64 ky,.bool p_now,.int .i64 p_code,.bool p_okk,.int .i64 p_val,.int .i64 p_addr,.int .u64 p_old,.int .i64 p_nxt,.bool p_mark,.int .i64 p_pops,.ptr 4 0,.O,.O,.O,.O]),e1,e3,e4,some (.abs (.exec t' n' sub) []),e2]=>(match uP 5 [e1,e2],eI 3 [e3,e4]with
   | some (l2,t2,n2,st),some (l,s)=>some ((t2=t∧n2=n)∧t'=t∧n'=n∧(d=false→at'=3)∧l=s.xs.length∧l2=st.R.length,⟨d,⟨u,no,rounds,limit,at',found,sh,kd,ky,⟨p_now,p_code,p_okk,p_val,p_addr,p_old,p_nxt,p_mark,p_pops⟩,sub,cF,cV,⟨0,0,0,0⟩,⟨0,0,0,false⟩⟩,st,s⟩)
   | _,_=>none)
 | _,_=>none
def XL(t n:Int)(v:AVal)(g:aD Ob):Option (Prop×HpO):=match v,g with
 | .bool d,[some (.cells [.ptr 1 0,.int .i64 u,.int .u64 no,.int .i64 rounds,.int .i64 limit,.int .i64 at',.int .u64 found,.int .i64 sh,.int .i64 kd,.int .i64 ky,.bool p_now,.int .i64 p_code,.bool p_okk,.int .i64 p_val,.int .i64 p_addr,.int .u64 p_old,.int .i64 p_nxt,.bool p_mark,.int .i64 p_pops,.O,.ptr 4 0,.O,.O,.O]),e1,e3,e4,some (.abs (.ensure t' n' sub) [1]),e2]=>(match uP 5 [e1,e2],eI 3 [e3,e4]with
   | some (l2,t2,n2,st),some (l,s)=>some ((t2=t∧n2=n)∧t'=t∧n'=n∧(d=false→at'=4)∧l=s.xs.length∧l2=st.R.length,⟨d,⟨u,no,rounds,limit,at',found,sh,kd,ky,⟨p_now,p_code,p_okk,p_val,p_addr,p_old,p_nxt,p_mark,p_pops⟩,cS,sub,cV,⟨0,0,0,0⟩,⟨0,0,0,false⟩⟩,st,s⟩)
   | _,_=>none)
 | _,_=>none
def XM(t n:Int)(v:AVal)(g:aD Ob):Option (Prop×HpO):=match v,g with
 | .bool d,[some (.cells [.ptr 1 0,.int .i64 u,.int .u64 no,.int .i64 rounds,.int .i64 limit,.int .i64 at',.int .u64 found,.int .i64 sh,.int .i64 kd,.int .i64 ky,.bool p_now,.int .i64 p_code,.bool p_okk,.int .i64 p_val,.int .i64 p_addr,.int .u64 p_old,.int .i64 p_nxt,.bool p_mark,.int .i64 p_pops,.O,.O,.ptr 4 0,.O,.O]),e1,e3,e4,some (.abs (.find t' n' sub) []),e2]=>(match uP 5 [e1,e2],eI 3 [e3,e4]with
   | some (l2,t2,n2,st),some (l,s)=>some ((t2=t∧n2=n)∧t'=t∧n'=n∧(d=false→at'=5)∧l=s.xs.length∧l2=st.R.length,⟨d,⟨u,no,rounds,limit,at',found,sh,kd,ky,⟨p_now,p_code,p_okk,p_val,p_addr,p_old,p_nxt,p_mark,p_pops⟩,cS,cF,sub,⟨0,0,0,0⟩,⟨0,0,0,false⟩⟩,st,s⟩)
   | _,_=>none)
 | _,_=>none
def XN(t n:Int)(v:AVal)(g:aD Ob):Option (Prop×HpO):=match v,g with
 | .bool d,[some (.cells [.ptr 1 0,.int .i64 u,.int .u64 no,.int .i64 rounds,.int .i64 limit,.int .i64 at',.int .u64 found,.int .i64 sh,.int .i64 kd,.int .i64 ky,.bool p_now,.int .i64 p_code,.bool p_okk,.int .i64 p_val,.int .i64 p_addr,.int .u64 p_old,.int .i64 p_nxt,.bool p_mark,.int .i64 p_pops,.O,.O,.O,.ptr 4 0,.O]),e1,e3,e4,some (.abs (.clear t' n' sub) []),e2]=>(match uP 5 [e1,e2],eI 3 [e3,e4]with
   | some (l2,t2,n2,st),some (l,s)=>some ((t2=t∧n2=n)∧t'=t∧n'=n∧(d=false→at'=7)∧l=s.xs.length∧l2=st.R.length,⟨d,⟨u,no,rounds,limit,at',found,sh,kd,ky,⟨p_now,p_code,p_okk,p_val,p_addr,p_old,p_nxt,p_mark,p_pops⟩,cS,cF,cV,sub,⟨0,0,0,false⟩⟩,st,s⟩)
   | _,_=>none)
 | _,_=>none
def XO(t n:Int)(v:AVal)(g:aD Ob):Option (Prop×HpO):=match v,g with
 | .bool d,[some (.cells [.ptr 1 0,.int .i64 u,.int .u64 no,.int .i64 rounds,.int .i64 limit,.int .i64 at',.int .u64 found,.int .i64 sh,.int .i64 kd,.int .i64 ky,.bool p_now,.int .i64 p_code,.bool p_okk,.int .i64 p_val,.int .i64 p_addr,.int .u64 p_old,.int .i64 p_nxt,.bool p_mark,.int .i64 p_pops,.O,.O,.O,.O,.ptr 4 0]),e1,e3,e4,some (.abs (.prepare t' n' sub) [1]),e2]=>(match uP 5 [e1,e2],eI 3 [e3,e4]with
   | some (l2,t2,n2,st),some (l,s)=>some ((t2=t∧n2=n)∧t'=t∧n'=n∧(d=false→at'=8)∧l=s.xs.length∧l2=st.R.length,⟨d,⟨u,no,rounds,limit,at',found,sh,kd,ky,⟨p_now,p_code,p_okk,p_val,p_addr,p_old,p_nxt,p_mark,p_pops⟩,cS,cF,cV,⟨0,0,0,0⟩,sub⟩,st,s⟩)
   | _,_=>none)
 | _,_=>none
def w7(t n:Int)(v:AVal)(g:aD Ob):Option (Prop×HpO):=(match XJ t n v g with
 | some r=>some r
 | none=>(match XK t n v g with
 | some r=>some r
 | none=>(match XL t n v g with
 | some r=>some r
 | none=>(match XM t n v g with
 | some r=>some r
 | none=>(match XN t n v g with
 | some r=>some r
 | none=>XO t n v g)))))
theorem SC{t n:Int} :dL (obI tbl) 4 (XJ t n) (HpO.fin t n):=by
 intro v g p x hp hq K hK
 unfold XJ at hp
 split at hp
 case h_2=>cases hp
 rename_i d u no rounds limit at' found sh kd ky p_now p_code p_okk p_val p_addr p_old p_nxt p_mark p_pops e1 e3 e4 e2
 split at hp
 case h_2=>cases hp
 rename_i l2 t2 n2 st l s hs hm
 simp only [sI',pI']at hp
 obtain⟨rfl,rfl⟩:=hp
 obtain⟨⟨rfl,rfl⟩,hat,hl,hl2⟩:=hq
 have hh:=b8 hm hl
 cases hh
 have hh:=d8 hs hl2
 cases hh
 refine tW hK (fun h=>?_) (fun hd h=>?_)
 ·exact⟨⟨_,_,(aS.pack (K6 t2 n2 (⟨u,no,rounds,limit,at',found,sh,kd,ky,⟨p_now,p_code,p_okk,p_val,p_addr,p_old,p_nxt,p_mark,p_pops⟩,cS,cF,cV,⟨0,0,0,0⟩,⟨0,0,0,false⟩⟩:HPS) st s) (.store t2 n2 st) 1 0 (iZ t2 n2 st) [] (by kernel_rfl) rfl rfl (by kernel_rfl)),h⟩⟩
 ·exact⟨⟨_,_,((aS.pack (bV (HM t2 n2 (⟨u,no,rounds,limit,at',found,sh,kd,ky,⟨p_now,p_code,p_okk,p_val,p_addr,p_old,p_nxt,p_mark,p_pops⟩,cS,cF,cV,⟨0,0,0,0⟩,⟨0,0,0,false⟩⟩:HPS) st s) 0 1 (lD t2 n2 (⟨u,no,rounds,limit,at',found,sh,kd,ky,⟨p_now,p_code,p_okk,p_val,p_addr,p_old,p_nxt,p_mark,p_pops⟩,cS,cF,cV,⟨0,0,0,0⟩,⟨0,0,0,false⟩⟩:HPS)) [1]) (.store t2 n2 st) 1 0 (iZ t2 n2 st) [] (by kernel_rfl) rfl rfl (by kernel_rfl)).trans (aS.pack (HM t2 n2 (⟨u,no,rounds,limit,at',found,sh,kd,ky,⟨p_now,p_code,p_okk,p_val,p_addr,p_old,p_nxt,p_mark,p_pops⟩,cS,cF,cV,⟨0,0,0,0⟩,⟨0,0,0,false⟩⟩:HPS) st s) (.help t2 n2 (⟨u,no,rounds,limit,at',found,sh,kd,ky,⟨p_now,p_code,p_okk,p_val,p_addr,p_old,p_nxt,p_mark,p_pops⟩,cS,cF,cV,⟨0,0,0,0⟩,⟨0,0,0,false⟩⟩:HPS)) 0 1 (lD t2 n2 (⟨u,no,rounds,limit,at',found,sh,kd,ky,⟨p_now,p_code,p_okk,p_val,p_addr,p_old,p_nxt,p_mark,p_pops⟩,cS,cF,cV,⟨0,0,0,0⟩,⟨0,0,0,false⟩⟩:HPS)) [1] (by kernel_rfl) rfl (congrArg (Prod.mk 1) (kA (hat hd))) (by kernel_rfl))),h⟩⟩
theorem SD{t n:Int} :dL (obI tbl) 4 (XK t n) (HpO.fin t n):=by
 intro v g p x hp hq K hK
 unfold XK at hp
 split at hp
 case h_2=>cases hp
 rename_i d u no rounds limit at' found sh kd ky p_now p_code p_okk p_val p_addr p_old p_nxt p_mark p_pops e1 e3 e4 t' n' sub e2
 split at hp
 case h_2=>cases hp
 rename_i l2 t2 n2 st l s hs hm
 simp only [sI',pI']at hp
 obtain⟨rfl,rfl⟩:=hp
 obtain⟨⟨rfl,rfl⟩,rfl,rfl,hat,hl,hl2⟩:=hq
 have hh:=b8 hm hl
 cases hh
 have hh:=d8 hs hl2
 cases hh
 refine tW hK (fun h=>?_) (fun hd h=>?_)
 ·exact⟨⟨_,_,(aS.weak (dN _ 0 [19,20,21,22,23])).trans ((aS.pick [0,1,2,3,5] rfl).trans ((aS.eq (g2:=bV (K6 t' n' (⟨u,no,rounds,limit,at',found,sh,kd,ky,⟨p_now,p_code,p_okk,p_val,p_addr,p_old,p_nxt,p_mark,p_pops⟩,sub,cF,cV,⟨0,0,0,0⟩,⟨0,0,0,false⟩⟩:HPS) st s) 1 0 (iZ t' n' st) []) (by kernel_rfl) (by kernel_rfl)).trans (aS.pack (K6 t' n' (⟨u,no,rounds,limit,at',found,sh,kd,ky,⟨p_now,p_code,p_okk,p_val,p_addr,p_old,p_nxt,p_mark,p_pops⟩,sub,cF,cV,⟨0,0,0,0⟩,⟨0,0,0,false⟩⟩:HPS) st s) (.store t' n' st) 1 0 (iZ t' n' st) [] (by kernel_rfl) rfl rfl (by kernel_rfl)))),h⟩⟩
 ·exact⟨⟨_,_,((aS.pack (bV (HM t' n' (⟨u,no,rounds,limit,at',found,sh,kd,ky,⟨p_now,p_code,p_okk,p_val,p_addr,p_old,p_nxt,p_mark,p_pops⟩,sub,cF,cV,⟨0,0,0,0⟩,⟨0,0,0,false⟩⟩:HPS) st s) 0 1 (nK t' n' (⟨u,no,rounds,limit,at',found,sh,kd,ky,⟨p_now,p_code,p_okk,p_val,p_addr,p_old,p_nxt,p_mark,p_pops⟩,sub,cF,cV,⟨0,0,0,0⟩,⟨0,0,0,false⟩⟩:HPS)) [1]) (.store t' n' st) 1 0 (iZ t' n' st) [] (by kernel_rfl) rfl rfl (by kernel_rfl)).trans (aS.pack (HM t' n' (⟨u,no,rounds,limit,at',found,sh,kd,ky,⟨p_now,p_code,p_okk,p_val,p_addr,p_old,p_nxt,p_mark,p_pops⟩,sub,cF,cV,⟨0,0,0,0⟩,⟨0,0,0,false⟩⟩:HPS) st s) (.help t' n' (⟨u,no,rounds,limit,at',found,sh,kd,ky,⟨p_now,p_code,p_okk,p_val,p_addr,p_old,p_nxt,p_mark,p_pops⟩,sub,cF,cV,⟨0,0,0,0⟩,⟨0,0,0,false⟩⟩:HPS)) 0 1 (nK t' n' (⟨u,no,rounds,limit,at',found,sh,kd,ky,⟨p_now,p_code,p_okk,p_val,p_addr,p_old,p_nxt,p_mark,p_pops⟩,sub,cF,cV,⟨0,0,0,0⟩,⟨0,0,0,false⟩⟩:HPS)) [1] (by kernel_rfl) rfl (congrArg (Prod.mk 1) (HF (hat hd))) (by kernel_rfl))),h⟩⟩
theorem SE{t n:Int} :dL (obI tbl) 4 (XL t n) (HpO.fin t n):=by
 intro v g p x hp hq K hK
 unfold XL at hp
 split at hp
 case h_2=>cases hp
 rename_i d u no rounds limit at' found sh kd ky p_now p_code p_okk p_val p_addr p_old p_nxt p_mark p_pops e1 e3 e4 t' n' sub e2
 split at hp
 case h_2=>cases hp
 rename_i l2 t2 n2 st l s hs hm
 simp only [sI',pI']at hp
 obtain⟨rfl,rfl⟩:=hp
 obtain⟨⟨rfl,rfl⟩,rfl,rfl,hat,hl,hl2⟩:=hq
 have hh:=b8 hm hl
 cases hh
 have hh:=d8 hs hl2
 cases hh
 refine tW hK (fun h=>?_) (fun hd h=>?_)
 ·exact⟨⟨_,_,(aS.weak (dN _ 0 [19,20,21,22,23])).trans ((aS.pick [0,1,2,3,5] rfl).trans ((aS.eq (g2:=bV (K6 t' n' (⟨u,no,rounds,limit,at',found,sh,kd,ky,⟨p_now,p_code,p_okk,p_val,p_addr,p_old,p_nxt,p_mark,p_pops⟩,cS,sub,cV,⟨0,0,0,0⟩,⟨0,0,0,false⟩⟩:HPS) st s) 1 0 (iZ t' n' st) []) (by kernel_rfl) (by kernel_rfl)).trans (aS.pack (K6 t' n' (⟨u,no,rounds,limit,at',found,sh,kd,ky,⟨p_now,p_code,p_okk,p_val,p_addr,p_old,p_nxt,p_mark,p_pops⟩,cS,sub,cV,⟨0,0,0,0⟩,⟨0,0,0,false⟩⟩:HPS) st s) (.store t' n' st) 1 0 (iZ t' n' st) [] (by kernel_rfl) rfl rfl (by kernel_rfl)))),h⟩⟩
 ·exact⟨⟨_,_,((aS.pack (bV (HM t' n' (⟨u,no,rounds,limit,at',found,sh,kd,ky,⟨p_now,p_code,p_okk,p_val,p_addr,p_old,p_nxt,p_mark,p_pops⟩,cS,sub,cV,⟨0,0,0,0⟩,⟨0,0,0,false⟩⟩:HPS) st s) 0 1 (nJ t' n' (⟨u,no,rounds,limit,at',found,sh,kd,ky,⟨p_now,p_code,p_okk,p_val,p_addr,p_old,p_nxt,p_mark,p_pops⟩,cS,sub,cV,⟨0,0,0,0⟩,⟨0,0,0,false⟩⟩:HPS)) [1]) (.store t' n' st) 1 0 (iZ t' n' st) [] (by kernel_rfl) rfl rfl (by kernel_rfl)).trans (aS.pack (HM t' n' (⟨u,no,rounds,limit,at',found,sh,kd,ky,⟨p_now,p_code,p_okk,p_val,p_addr,p_old,p_nxt,p_mark,p_pops⟩,cS,sub,cV,⟨0,0,0,0⟩,⟨0,0,0,false⟩⟩:HPS) st s) (.help t' n' (⟨u,no,rounds,limit,at',found,sh,kd,ky,⟨p_now,p_code,p_okk,p_val,p_addr,p_old,p_nxt,p_mark,p_pops⟩,cS,sub,cV,⟨0,0,0,0⟩,⟨0,0,0,false⟩⟩:HPS)) 0 1 (nJ t' n' (⟨u,no,rounds,limit,at',found,sh,kd,ky,⟨p_now,p_code,p_okk,p_val,p_addr,p_old,p_nxt,p_mark,p_pops⟩,cS,sub,cV,⟨0,0,0,0⟩,⟨0,0,0,false⟩⟩:HPS)) [1] (by kernel_rfl) rfl (congrArg (Prod.mk 1) (HG (hat hd))) (by kernel_rfl))),h⟩⟩
theorem SF{t n:Int} :dL (obI tbl) 4 (XM t n) (HpO.fin t n):=by
 intro v g p x hp hq K hK
 unfold XM at hp
 split at hp
 case h_2=>cases hp
 rename_i d u no rounds limit at' found sh kd ky p_now p_code p_okk p_val p_addr p_old p_nxt p_mark p_pops e1 e3 e4 t' n' sub e2
 split at hp
 case h_2=>cases hp
 rename_i l2 t2 n2 st l s hs hm
 simp only [sI',pI']at hp
 obtain⟨rfl,rfl⟩:=hp
 obtain⟨⟨rfl,rfl⟩,rfl,rfl,hat,hl,hl2⟩:=hq
 have hh:=b8 hm hl
 cases hh
 have hh:=d8 hs hl2
 cases hh
 refine tW hK (fun h=>?_) (fun hd h=>?_)
 ·exact⟨⟨_,_,(aS.weak (dN _ 0 [19,20,21,22,23])).trans ((aS.pick [0,1,2,3,5] rfl).trans ((aS.eq (g2:=bV (K6 t' n' (⟨u,no,rounds,limit,at',found,sh,kd,ky,⟨p_now,p_code,p_okk,p_val,p_addr,p_old,p_nxt,p_mark,p_pops⟩,cS,cF,sub,⟨0,0,0,0⟩,⟨0,0,0,false⟩⟩:HPS) st s) 1 0 (iZ t' n' st) []) (by kernel_rfl) (by kernel_rfl)).trans (aS.pack (K6 t' n' (⟨u,no,rounds,limit,at',found,sh,kd,ky,⟨p_now,p_code,p_okk,p_val,p_addr,p_old,p_nxt,p_mark,p_pops⟩,cS,cF,sub,⟨0,0,0,0⟩,⟨0,0,0,false⟩⟩:HPS) st s) (.store t' n' st) 1 0 (iZ t' n' st) [] (by kernel_rfl) rfl rfl (by kernel_rfl)))),h⟩⟩
 ·exact⟨⟨_,_,((aS.pack (bV (HM t' n' (⟨u,no,rounds,limit,at',found,sh,kd,ky,⟨p_now,p_code,p_okk,p_val,p_addr,p_old,p_nxt,p_mark,p_pops⟩,cS,cF,sub,⟨0,0,0,0⟩,⟨0,0,0,false⟩⟩:HPS) st s) 0 1 (nL t' n' (⟨u,no,rounds,limit,at',found,sh,kd,ky,⟨p_now,p_code,p_okk,p_val,p_addr,p_old,p_nxt,p_mark,p_pops⟩,cS,cF,sub,⟨0,0,0,0⟩,⟨0,0,0,false⟩⟩:HPS)) [1]) (.store t' n' st) 1 0 (iZ t' n' st) [] (by kernel_rfl) rfl rfl (by kernel_rfl)).trans (aS.pack (HM t' n' (⟨u,no,rounds,limit,at',found,sh,kd,ky,⟨p_now,p_code,p_okk,p_val,p_addr,p_old,p_nxt,p_mark,p_pops⟩,cS,cF,sub,⟨0,0,0,0⟩,⟨0,0,0,false⟩⟩:HPS) st s) (.help t' n' (⟨u,no,rounds,limit,at',found,sh,kd,ky,⟨p_now,p_code,p_okk,p_val,p_addr,p_old,p_nxt,p_mark,p_pops⟩,cS,cF,sub,⟨0,0,0,0⟩,⟨0,0,0,false⟩⟩:HPS)) 0 1 (nL t' n' (⟨u,no,rounds,limit,at',found,sh,kd,ky,⟨p_now,p_code,p_okk,p_val,p_addr,p_old,p_nxt,p_mark,p_pops⟩,cS,cF,sub,⟨0,0,0,0⟩,⟨0,0,0,false⟩⟩:HPS)) [1] (by kernel_rfl) rfl (congrArg (Prod.mk 1) (HH (hat hd))) (by kernel_rfl))),h⟩⟩
theorem SG{t n:Int} :dL (obI tbl) 4 (XN t n) (HpO.fin t n):=by
 intro v g p x hp hq K hK
 unfold XN at hp
 split at hp
 case h_2=>cases hp
 rename_i d u no rounds limit at' found sh kd ky p_now p_code p_okk p_val p_addr p_old p_nxt p_mark p_pops e1 e3 e4 t' n' sub e2
 split at hp
 case h_2=>cases hp
 rename_i l2 t2 n2 st l s hs hm
 simp only [sI',pI']at hp
 obtain⟨rfl,rfl⟩:=hp
 obtain⟨⟨rfl,rfl⟩,rfl,rfl,hat,hl,hl2⟩:=hq
 have hh:=b8 hm hl
 cases hh
 have hh:=d8 hs hl2
 cases hh
 refine tW hK (fun h=>?_) (fun hd h=>?_)
 ·exact⟨⟨_,_,(aS.weak (dN _ 0 [19,20,21,22,23])).trans ((aS.pick [0,1,2,3,5] rfl).trans ((aS.eq (g2:=bV (K6 t' n' (⟨u,no,rounds,limit,at',found,sh,kd,ky,⟨p_now,p_code,p_okk,p_val,p_addr,p_old,p_nxt,p_mark,p_pops⟩,cS,cF,cV,sub,⟨0,0,0,false⟩⟩:HPS) st s) 1 0 (iZ t' n' st) []) (by kernel_rfl) (by kernel_rfl)).trans (aS.pack (K6 t' n' (⟨u,no,rounds,limit,at',found,sh,kd,ky,⟨p_now,p_code,p_okk,p_val,p_addr,p_old,p_nxt,p_mark,p_pops⟩,cS,cF,cV,sub,⟨0,0,0,false⟩⟩:HPS) st s) (.store t' n' st) 1 0 (iZ t' n' st) [] (by kernel_rfl) rfl rfl (by kernel_rfl)))),h⟩⟩
 ·exact⟨⟨_,_,((aS.pack (bV (HM t' n' (⟨u,no,rounds,limit,at',found,sh,kd,ky,⟨p_now,p_code,p_okk,p_val,p_addr,p_old,p_nxt,p_mark,p_pops⟩,cS,cF,cV,sub,⟨0,0,0,false⟩⟩:HPS) st s) 0 1 (nI t' n' (⟨u,no,rounds,limit,at',found,sh,kd,ky,⟨p_now,p_code,p_okk,p_val,p_addr,p_old,p_nxt,p_mark,p_pops⟩,cS,cF,cV,sub,⟨0,0,0,false⟩⟩:HPS)) [1]) (.store t' n' st) 1 0 (iZ t' n' st) [] (by kernel_rfl) rfl rfl (by kernel_rfl)).trans (aS.pack (HM t' n' (⟨u,no,rounds,limit,at',found,sh,kd,ky,⟨p_now,p_code,p_okk,p_val,p_addr,p_old,p_nxt,p_mark,p_pops⟩,cS,cF,cV,sub,⟨0,0,0,false⟩⟩:HPS) st s) (.help t' n' (⟨u,no,rounds,limit,at',found,sh,kd,ky,⟨p_now,p_code,p_okk,p_val,p_addr,p_old,p_nxt,p_mark,p_pops⟩,cS,cF,cV,sub,⟨0,0,0,false⟩⟩:HPS)) 0 1 (nI t' n' (⟨u,no,rounds,limit,at',found,sh,kd,ky,⟨p_now,p_code,p_okk,p_val,p_addr,p_old,p_nxt,p_mark,p_pops⟩,cS,cF,cV,sub,⟨0,0,0,false⟩⟩:HPS)) [1] (by kernel_rfl) rfl (congrArg (Prod.mk 1) (HJ (hat hd))) (by kernel_rfl))),h⟩⟩
theorem SH{t n:Int} :dL (obI tbl) 4 (XO t n) (HpO.fin t n):=by
 intro v g p x hp hq K hK
 unfold XO at hp
 split at hp
 case h_2=>cases hp
 rename_i d u no rounds limit at' found sh kd ky p_now p_code p_okk p_val p_addr p_old p_nxt p_mark p_pops e1 e3 e4 t' n' sub e2
 split at hp
 case h_2=>cases hp
 rename_i l2 t2 n2 st l s hs hm
 simp only [sI',pI']at hp
 obtain⟨rfl,rfl⟩:=hp
 obtain⟨⟨rfl,rfl⟩,rfl,rfl,hat,hl,hl2⟩:=hq
 have hh:=b8 hm hl
 cases hh
 have hh:=d8 hs hl2
 cases hh
 refine tW hK (fun h=>?_) (fun hd h=>?_)
 ·exact⟨⟨_,_,(aS.weak (dN _ 0 [19,20,21,22,23])).trans ((aS.pick [0,1,2,3,5] rfl).trans ((aS.eq (g2:=bV (K6 t' n' (⟨u,no,rounds,limit,at',found,sh,kd,ky,⟨p_now,p_code,p_okk,p_val,p_addr,p_old,p_nxt,p_mark,p_pops⟩,cS,cF,cV,⟨0,0,0,0⟩,sub⟩:HPS) st s) 1 0 (iZ t' n' st) []) (by kernel_rfl) (by kernel_rfl)).trans (aS.pack (K6 t' n' (⟨u,no,rounds,limit,at',found,sh,kd,ky,⟨p_now,p_code,p_okk,p_val,p_addr,p_old,p_nxt,p_mark,p_pops⟩,cS,cF,cV,⟨0,0,0,0⟩,sub⟩:HPS) st s) (.store t' n' st) 1 0 (iZ t' n' st) [] (by kernel_rfl) rfl rfl (by kernel_rfl)))),h⟩⟩
 ·exact⟨⟨_,_,((aS.pack (bV (HM t' n' (⟨u,no,rounds,limit,at',found,sh,kd,ky,⟨p_now,p_code,p_okk,p_val,p_addr,p_old,p_nxt,p_mark,p_pops⟩,cS,cF,cV,⟨0,0,0,0⟩,sub⟩:HPS) st s) 0 1 (nM t' n' (⟨u,no,rounds,limit,at',found,sh,kd,ky,⟨p_now,p_code,p_okk,p_val,p_addr,p_old,p_nxt,p_mark,p_pops⟩,cS,cF,cV,⟨0,0,0,0⟩,sub⟩:HPS)) [1]) (.store t' n' st) 1 0 (iZ t' n' st) [] (by kernel_rfl) rfl rfl (by kernel_rfl)).trans (aS.pack (HM t' n' (⟨u,no,rounds,limit,at',found,sh,kd,ky,⟨p_now,p_code,p_okk,p_val,p_addr,p_old,p_nxt,p_mark,p_pops⟩,cS,cF,cV,⟨0,0,0,0⟩,sub⟩:HPS) st s) (.help t' n' (⟨u,no,rounds,limit,at',found,sh,kd,ky,⟨p_now,p_code,p_okk,p_val,p_addr,p_old,p_nxt,p_mark,p_pops⟩,cS,cF,cV,⟨0,0,0,0⟩,sub⟩:HPS)) 0 1 (nM t' n' (⟨u,no,rounds,limit,at',found,sh,kd,ky,⟨p_now,p_code,p_okk,p_val,p_addr,p_old,p_nxt,p_mark,p_pops⟩,cS,cF,cV,⟨0,0,0,0⟩,sub⟩:HPS)) [1] (by kernel_rfl) rfl (congrArg (Prod.mk 1) (HK (hat hd))) (by kernel_rfl))),h⟩⟩
theorem lE{t n:Int} :dL (obI tbl) 4 (w7 t n) (HpO.fin t n):=by
 intro v g p x hp hq K hK
 unfold w7 at hp
 split at hp
 ·rename_i r hr
  cases hp
  exact SC v g p x hr hq K hK
 split at hp
 ·rename_i r hr
  cases hp
  exact SD v g p x hr hq K hK
 split at hp
 ·rename_i r hr
  cases hp
  exact SE v g p x hr hq K hK
 split at hp
 ·rename_i r hr
  cases hp
  exact SF v g p x hr hq K hK
 split at hp
 ·rename_i r hr
  cases hp
  exact SG v g p x hr hq K hK
 exact SH v g p x hp hq K hK
def CC(t n:Int)(x:HPS)(st:STS)(s:MS):Tr HpO:=.pre ((((0:Int)≤t∧t≤(100000:Int))∧((0:Int)≤n∧n≤(100000:Int))∧(-1099511627776:Int)≤x.1∧x.1≤(1099511627776:Int))∧True) (.pre ((lE' s.3∧(0:Int)≤s.4∧s.4≤(4611686018427387904:Int))∧True) (.pre True (.pre True (.pre ((t=t∧n=n)∧((!i9 (aA (aB s.3 (2*n+5+2*t+3*x.1+2)) 49 3))=false→(1:Int)≠(3:Int)∧(1:Int)≠(4:Int)∧(1:Int)≠(5:Int)∧(1:Int)≠(7:Int)∧(1:Int)≠(8:Int))∧lE' s.3∧lE' st.3) (.ret {d:=!i9 (aA (aB s.3 (2*n+5+2*t+3*x.1+2)) 49 3),x:= {x with rounds:=W (x.3+1),at':=1,found:=aB s.3 (2*n+5+2*t+3*x.1+2),p:= {now:=(HPS.p x).1,code:=(HPS.p x).2,okk:=(HPS.p x).3,val:=(HPS.p x).4,addr:=(HPS.p x).5,old:=(HPS.p x).6,nxt:=(HPS.p x).7,mark:=(HPS.p x).8,pops:=(HPS.p x).9},ex:=cS,en:=cF,fn:=cV,cl:=bW,pr:=gW},st:= {me:=st.1,sp:=st.2,R:=st.3},s:= {s with c:=s.4+1,k:=1,a:=2*n+5+2*t+3*x.1+2,o:=aB s.3 (2*n+5+2*t+3*x.1+2),w:=aB s.3 (2*n+5+2*t+3*x.1+2),ok:=bN s.3 (2*n+5+2*t+3*x.1+2) } })))))
theorem JQ(t n:Int)(x:HPS)(st:STS)(s:MS)(K:HpO→Prop)(h:(CC t n x st s).run K):cT' 52 [.ptr 0 0,.ptr 2 0] [some (.cells [.ptr 1 0,.int .i64 x.u,.int .u64 x.no,.int .i64 x.rounds,.int .i64 x.limit,.int .i64 0,.int .u64 x.found,.int .i64 x.sh,.int .i64 x.kd,.int .i64 x.ky,.bool x.p.now,.int .i64 x.p.code,.bool x.p.okk,.int .i64 x.p.val,.int .i64 x.p.addr,.int .u64 x.p.old,.int .i64 x.p.nxt,.bool x.p.mark,.int .i64 x.p.pops,.O,.O,.O,.O,.O]),stC 4 t n st,aZ 3 s,a9 s,mM st] (cX 4 0 [19,20,21,22,23] [(.cell 1 4,.ints (some .i64))] (w7 t n) K):=by
 exact cM' (E:=EH0) (by kernel_rfl) h
def vT(t n:Int)(x:HPS)(st:STS)(s:MS):Tr HpO:=.pre ((((0:Int)≤t∧t≤(100000:Int))∧((0:Int)≤n∧n≤(100000:Int))∧(-1099511627776:Int)≤x.1∧x.1≤(1099511627776:Int))∧True) (.pre ((lE' s.3∧(0:Int)≤s.4∧s.4≤(4611686018427387904:Int))∧True) (.pre ((t=t∧n=n)∧((!ieq (aB s.3 (2*n+5+2*t+3*x.1)) x.2)=false→(2:Int)≠(3:Int)∧(2:Int)≠(4:Int)∧(2:Int)≠(5:Int)∧(2:Int)≠(7:Int)∧(2:Int)≠(8:Int))∧lE' s.3∧lE' st.3) (.ret {d:=!ieq (aB s.3 (2*n+5+2*t+3*x.1)) x.2,x:= {x with at':=2,p:= {now:=(HPS.p x).1,code:=(HPS.p x).2,okk:=(HPS.p x).3,val:=(HPS.p x).4,addr:=(HPS.p x).5,old:=(HPS.p x).6,nxt:=(HPS.p x).7,mark:=(HPS.p x).8,pops:=(HPS.p x).9},ex:=cS,en:=cF,fn:=cV,cl:=bW,pr:=gW},st:= {me:=st.1,sp:=st.2,R:=st.3},s:= {s with c:=s.4+1,k:=1,a:=2*n+5+2*t+3*x.1,o:=aB s.3 (2*n+5+2*t+3*x.1),w:=aB s.3 (2*n+5+2*t+3*x.1),ok:=bN s.3 (2*n+5+2*t+3*x.1) } })))
theorem JR(t n:Int)(x:HPS)(st:STS)(s:MS)(K:HpO→Prop)(h:(vT t n x st s).run K):cT' 52 [.ptr 0 0,.ptr 2 0] [some (.cells [.ptr 1 0,.int .i64 x.u,.int .u64 x.no,.int .i64 x.rounds,.int .i64 x.limit,.int .i64 1,.int .u64 x.found,.int .i64 x.sh,.int .i64 x.kd,.int .i64 x.ky,.bool x.p.now,.int .i64 x.p.code,.bool x.p.okk,.int .i64 x.p.val,.int .i64 x.p.addr,.int .u64 x.p.old,.int .i64 x.p.nxt,.bool x.p.mark,.int .i64 x.p.pops,.O,.O,.O,.O,.O]),stC 4 t n st,aZ 3 s,a9 s,mM st] (cX 4 0 [19,20,21,22,23] [(.cell 1 4,.ints (some .i64))] (w7 t n) K):=by
 exact cM' (E:=EH0) (by kernel_rfl) h
def vU(t n:Int)(x:HPS)(st:STS)(s:MS):Tr HpO:=.pre ((((0:Int)≤t∧t≤(100000:Int))∧((0:Int)≤n∧n≤(100000:Int))∧(-1099511627776:Int)≤x.1∧x.1≤(1099511627776:Int))∧True) (.pre ((lE' s.3∧(0:Int)≤s.4∧s.4≤(4611686018427387904:Int))∧True) (.pre ((0:Int)≤aB s.3 (2*n+5+2*t+3*x.1+1)∧aB s.3 (2*n+5+2*t+3*x.1+1)≤(18446744073709551615:Int)) (.ite (!ieq (bif hZ (aB s.3 (2*n+5+2*t+3*x.1+1))then 0 else 3) 0) (.pre ((t=t∧n=n)∧(true=false→(2:Int)≠(3:Int)∧(2:Int)≠(4:Int)∧(2:Int)≠(5:Int)∧(2:Int)≠(7:Int)∧(2:Int)≠(8:Int))∧lE' s.3∧lE' st.3) (.ret {d:=true,x:= {x with at':=2,sh:=bif hZ (aB s.3 (2*n+5+2*t+3*x.1+1))then aA (aB s.3 (2*n+5+2*t+3*x.1+1)) 0 3 else 0,kd:=bif hZ (aB s.3 (2*n+5+2*t+3*x.1+1))then aA (aB s.3 (2*n+5+2*t+3*x.1+1)) 3 3 else 0,ky:=bif hZ (aB s.3 (2*n+5+2*t+3*x.1+1))then aA (aB s.3 (2*n+5+2*t+3*x.1+1)) 6 10 else 0,p:= {now:=(HPS.p x).1,code:=(HPS.p x).2,okk:=(HPS.p x).3,val:=(HPS.p x).4,addr:=(HPS.p x).5,old:=(HPS.p x).6,nxt:=(HPS.p x).7,mark:=(HPS.p x).8,pops:=(HPS.p x).9},ex:=cS,en:=cF,fn:=cV,cl:=bW,pr:=gW},st:= {me:=st.1,sp:=st.2,R:=st.3},s:= {s with c:=s.4+1,k:=1,a:=2*n+5+2*t+3*x.1+1,o:=aB s.3 (2*n+5+2*t+3*x.1+1),w:=aB s.3 (2*n+5+2*t+3*x.1+1),ok:=bN s.3 (2*n+5+2*t+3*x.1+1) } })) (.pre True (.ite (!hasB [1] (aA x.6 49 3)) (.pre True (.pre (MT t n x.1 (bif hZ (aB s.3 (2*n+5+2*t+3*x.1+1))then aA (aB s.3 (2*n+5+2*t+3*x.1+1)) 0 3 else 0) (bif hZ (aB s.3 (2*n+5+2*t+3*x.1+1))then aA (aB s.3 (2*n+5+2*t+3*x.1+1)) 3 3 else 0) (bif hZ (aB s.3 (2*n+5+2*t+3*x.1+1))then aA (aB s.3 (2*n+5+2*t+3*x.1+1)) 6 10 else 0) (aA x.6 0 12)∧True) (.pre ((t=t∧n=n)∧t=t∧n=n∧(false=false→(3:Int)=(3:Int))∧lE' s.3∧lE' st.3) (.ret {d:=false,x:= {x with at':=3,sh:=bif hZ (aB s.3 (2*n+5+2*t+3*x.1+1))then aA (aB s.3 (2*n+5+2*t+3*x.1+1)) 0 3 else 0,kd:=bif hZ (aB s.3 (2*n+5+2*t+3*x.1+1))then aA (aB s.3 (2*n+5+2*t+3*x.1+1)) 3 3 else 0,ky:=bif hZ (aB s.3 (2*n+5+2*t+3*x.1+1))then aA (aB s.3 (2*n+5+2*t+3*x.1+1)) 6 10 else 0,p:= {now:=(HPS.p x).1,code:=(HPS.p x).2,okk:=(HPS.p x).3,val:=(HPS.p x).4,addr:=(HPS.p x).5,old:=(HPS.p x).6,nxt:=(HPS.p x).7,mark:=(HPS.p x).8,pops:=(HPS.p x).9},ex:=exNF t n x.1 (bif hZ (aB s.3 (2*n+5+2*t+3*x.1+1))then aA (aB s.3 (2*n+5+2*t+3*x.1+1)) 0 3 else 0) (bif hZ (aB s.3 (2*n+5+2*t+3*x.1+1))then aA (aB s.3 (2*n+5+2*t+3*x.1+1)) 3 3 else 0) (bif hZ (aB s.3 (2*n+5+2*t+3*x.1+1))then aA (aB s.3 (2*n+5+2*t+3*x.1+1)) 6 10 else 0) (aA x.6 0 12),en:=cF,fn:=cV,cl:=bW,pr:=gW},st:= {me:=st.1,sp:=st.2,R:=st.3},s:= {s with c:=s.4+1,k:=1,a:=2*n+5+2*t+3*x.1+1,o:=aB s.3 (2*n+5+2*t+3*x.1+1),w:=aB s.3 (2*n+5+2*t+3*x.1+1),ok:=bN s.3 (2*n+5+2*t+3*x.1+1) } })))) (.pre True (.ite (bG (bif hZ (aB s.3 (2*n+5+2*t+3*x.1+1))then aA (aB s.3 (2*n+5+2*t+3*x.1+1)) 3 3 else 0)) (.ite (ieq st.2 0) (.pre (lE' st.3∧(t=t∧n=n∧lE' st.3)∧True) (.pre ((t=t∧n=n)∧t=t∧n=n∧(false=false→(4:Int)=(4:Int))∧lE' s.3∧lE' st.3) (.ret {d:=false,x:= {x with at':=4,sh:=bif hZ (aB s.3 (2*n+5+2*t+3*x.1+1))then aA (aB s.3 (2*n+5+2*t+3*x.1+1)) 0 3 else 0,kd:=bif hZ (aB s.3 (2*n+5+2*t+3*x.1+1))then aA (aB s.3 (2*n+5+2*t+3*x.1+1)) 3 3 else 0,ky:=bif hZ (aB s.3 (2*n+5+2*t+3*x.1+1))then aA (aB s.3 (2*n+5+2*t+3*x.1+1)) 6 10 else 0,p:= {now:=(HPS.p x).1,code:=(HPS.p x).2,okk:=(HPS.p x).3,val:=(HPS.p x).4,addr:=(HPS.p x).5,old:=(HPS.p x).6,nxt:=(HPS.p x).7,mark:=(HPS.p x).8,pops:=(HPS.p x).9},ex:=cS,en:=cF,fn:=cV,cl:=bW,pr:=gW},st:= {me:=st.1,sp:=st.2,R:=st.3},s:= {s with c:=s.4+1,k:=1,a:=2*n+5+2*t+3*x.1+1,o:=aB s.3 (2*n+5+2*t+3*x.1+1),w:=aB s.3 (2*n+5+2*t+3*x.1+1),ok:=bN s.3 (2*n+5+2*t+3*x.1+1) } }))) (.pre True (.pre (B5 t n st.1 (cH (bif hZ (aB s.3 (2*n+5+2*t+3*x.1+1))then aA (aB s.3 (2*n+5+2*t+3*x.1+1)) 0 3 else 0) (bif hZ (aB s.3 (2*n+5+2*t+3*x.1+1))then aA (aB s.3 (2*n+5+2*t+3*x.1+1)) 6 10 else 0)) (dK (bif hZ (aB s.3 (2*n+5+2*t+3*x.1+1))then aA (aB s.3 (2*n+5+2*t+3*x.1+1)) 0 3 else 0) (bif hZ (aB s.3 (2*n+5+2*t+3*x.1+1))then aA (aB s.3 (2*n+5+2*t+3*x.1+1)) 3 3 else 0) (bif hZ (aB s.3 (2*n+5+2*t+3*x.1+1))then aA (aB s.3 (2*n+5+2*t+3*x.1+1)) 6 10 else 0)) x.4∧True) (.pre ((t=t∧n=n)∧t=t∧n=n∧(false=false→(5:Int)=(5:Int))∧lE' s.3∧lE' st.3) (.ret {d:=false,x:= {x with at':=5,sh:=bif hZ (aB s.3 (2*n+5+2*t+3*x.1+1))then aA (aB s.3 (2*n+5+2*t+3*x.1+1)) 0 3 else 0,kd:=bif hZ (aB s.3 (2*n+5+2*t+3*x.1+1))then aA (aB s.3 (2*n+5+2*t+3*x.1+1)) 3 3 else 0,ky:=bif hZ (aB s.3 (2*n+5+2*t+3*x.1+1))then aA (aB s.3 (2*n+5+2*t+3*x.1+1)) 6 10 else 0,p:= {now:=(HPS.p x).1,code:=(HPS.p x).2,okk:=(HPS.p x).3,val:=(HPS.p x).4,addr:=(HPS.p x).5,old:=(HPS.p x).6,nxt:=(HPS.p x).7,mark:=(HPS.p x).8,pops:=(HPS.p x).9},ex:=cS,en:=cF,fn:=qM t n st.1 (cH (bif hZ (aB s.3 (2*n+5+2*t+3*x.1+1))then aA (aB s.3 (2*n+5+2*t+3*x.1+1)) 0 3 else 0) (bif hZ (aB s.3 (2*n+5+2*t+3*x.1+1))then aA (aB s.3 (2*n+5+2*t+3*x.1+1)) 6 10 else 0)) (dK (bif hZ (aB s.3 (2*n+5+2*t+3*x.1+1))then aA (aB s.3 (2*n+5+2*t+3*x.1+1)) 0 3 else 0) (bif hZ (aB s.3 (2*n+5+2*t+3*x.1+1))then aA (aB s.3 (2*n+5+2*t+3*x.1+1)) 3 3 else 0) (bif hZ (aB s.3 (2*n+5+2*t+3*x.1+1))then aA (aB s.3 (2*n+5+2*t+3*x.1+1)) 6 10 else 0)) x.4,cl:=bW,pr:=gW},st:= {me:=st.1,sp:=st.2,R:=st.3},s:= {s with c:=s.4+1,k:=1,a:=2*n+5+2*t+3*x.1+1,o:=aB s.3 (2*n+5+2*t+3*x.1+1),w:=aB s.3 (2*n+5+2*t+3*x.1+1),ok:=bN s.3 (2*n+5+2*t+3*x.1+1) } }))))) (.pre True (.pre (B5 t n st.1 (cH (bif hZ (aB s.3 (2*n+5+2*t+3*x.1+1))then aA (aB s.3 (2*n+5+2*t+3*x.1+1)) 0 3 else 0) (bif hZ (aB s.3 (2*n+5+2*t+3*x.1+1))then aA (aB s.3 (2*n+5+2*t+3*x.1+1)) 6 10 else 0)) (dK (bif hZ (aB s.3 (2*n+5+2*t+3*x.1+1))then aA (aB s.3 (2*n+5+2*t+3*x.1+1)) 0 3 else 0) (bif hZ (aB s.3 (2*n+5+2*t+3*x.1+1))then aA (aB s.3 (2*n+5+2*t+3*x.1+1)) 3 3 else 0) (bif hZ (aB s.3 (2*n+5+2*t+3*x.1+1))then aA (aB s.3 (2*n+5+2*t+3*x.1+1)) 6 10 else 0)) x.4∧True) (.pre ((t=t∧n=n)∧t=t∧n=n∧(false=false→(5:Int)=(5:Int))∧lE' s.3∧lE' st.3) (.ret {d:=false,x:= {x with at':=5,sh:=bif hZ (aB s.3 (2*n+5+2*t+3*x.1+1))then aA (aB s.3 (2*n+5+2*t+3*x.1+1)) 0 3 else 0,kd:=bif hZ (aB s.3 (2*n+5+2*t+3*x.1+1))then aA (aB s.3 (2*n+5+2*t+3*x.1+1)) 3 3 else 0,ky:=bif hZ (aB s.3 (2*n+5+2*t+3*x.1+1))then aA (aB s.3 (2*n+5+2*t+3*x.1+1)) 6 10 else 0,p:= {now:=(HPS.p x).1,code:=(HPS.p x).2,okk:=(HPS.p x).3,val:=(HPS.p x).4,addr:=(HPS.p x).5,old:=(HPS.p x).6,nxt:=(HPS.p x).7,mark:=(HPS.p x).8,pops:=(HPS.p x).9},ex:=cS,en:=cF,fn:=qM t n st.1 (cH (bif hZ (aB s.3 (2*n+5+2*t+3*x.1+1))then aA (aB s.3 (2*n+5+2*t+3*x.1+1)) 0 3 else 0) (bif hZ (aB s.3 (2*n+5+2*t+3*x.1+1))then aA (aB s.3 (2*n+5+2*t+3*x.1+1)) 6 10 else 0)) (dK (bif hZ (aB s.3 (2*n+5+2*t+3*x.1+1))then aA (aB s.3 (2*n+5+2*t+3*x.1+1)) 0 3 else 0) (bif hZ (aB s.3 (2*n+5+2*t+3*x.1+1))then aA (aB s.3 (2*n+5+2*t+3*x.1+1)) 3 3 else 0) (bif hZ (aB s.3 (2*n+5+2*t+3*x.1+1))then aA (aB s.3 (2*n+5+2*t+3*x.1+1)) 6 10 else 0)) x.4,cl:=bW,pr:=gW},st:= {me:=st.1,sp:=st.2,R:=st.3},s:= {s with c:=s.4+1,k:=1,a:=2*n+5+2*t+3*x.1+1,o:=aB s.3 (2*n+5+2*t+3*x.1+1),w:=aB s.3 (2*n+5+2*t+3*x.1+1),ok:=bN s.3 (2*n+5+2*t+3*x.1+1) } })))))))))))
theorem JS(t n:Int)(x:HPS)(st:STS)(s:MS)(K:HpO→Prop)(h:(vU t n x st s).run K):cT' 52 [.ptr 0 0,.ptr 2 0] [some (.cells [.ptr 1 0,.int .i64 x.u,.int .u64 x.no,.int .i64 x.rounds,.int .i64 x.limit,.int .i64 2,.int .u64 x.found,.int .i64 x.sh,.int .i64 x.kd,.int .i64 x.ky,.bool x.p.now,.int .i64 x.p.code,.bool x.p.okk,.int .i64 x.p.val,.int .i64 x.p.addr,.int .u64 x.p.old,.int .i64 x.p.nxt,.bool x.p.mark,.int .i64 x.p.pops,.O,.O,.O,.O,.O]),stC 4 t n st,aZ 3 s,a9 s,mM st] (cX 4 0 [19,20,21,22,23] [(.cell 1 4,.ints (some .i64))] (w7 t n) K):=by
 exact cM' (E:=EH0) (by kernel_rfl) h
def qP(t n:Int)(x:HPS)(st:STS)(s:MS):Tr HpO:=.pre (lE' s.3∧WL t n x.11 s) (.ite (exF t n x.11 s).1 (.ite (!ieq (ExO.x (exF t n x.11 s)).1 0) (.pre (lE' st.3∧1=1∧List.length st.3+(1:Nat)≤(4294967296:Nat)) (.pre ((t=t∧n=n)∧(false=false→(0:Int)≠(3:Int)∧(0:Int)≠(4:Int)∧(0:Int)≠(5:Int)∧(0:Int)≠(7:Int)∧(0:Int)≠(8:Int))∧lE' (ExO.s (exF t n x.11 s)).3∧List.length st.3+(1:Nat)=List.length (st.3++ [(ExO.x (exF t n x.11 s)).1])) (.ret {d:=false,x:= {x with at':=0,p:= {now:=(HPS.p x).1,code:=(HPS.p x).2,okk:=(HPS.p x).3,val:=(HPS.p x).4,addr:=(HPS.p x).5,old:=(HPS.p x).6,nxt:=(HPS.p x).7,mark:=(HPS.p x).8,pops:=(HPS.p x).9},ex:=cS,en:=cF,fn:=cV,cl:=bW,pr:=gW},st:= {me:=st.1,sp:=st.2,R:=st.3++ [(ExO.x (exF t n x.11 s)).1] },s:= {t:=(ExO.s (exF t n x.11 s)).1,n:=(ExO.s (exF t n x.11 s)).2,xs:=(ExO.s (exF t n x.11 s)).3,c:=(ExO.s (exF t n x.11 s)).4,k:=(ExO.s (exF t n x.11 s)).5,a:=(ExO.s (exF t n x.11 s)).6,o:=(ExO.s (exF t n x.11 s)).7,w:=(ExO.s (exF t n x.11 s)).8,ok:=(ExO.s (exF t n x.11 s)).9} }))) (.pre ((t=t∧n=n)∧(false=false→(0:Int)≠(3:Int)∧(0:Int)≠(4:Int)∧(0:Int)≠(5:Int)∧(0:Int)≠(7:Int)∧(0:Int)≠(8:Int))∧lE' (ExO.s (exF t n x.11 s)).3∧lE' st.3) (.ret {d:=false,x:= {x with at':=0,p:= {now:=(HPS.p x).1,code:=(HPS.p x).2,okk:=(HPS.p x).3,val:=(HPS.p x).4,addr:=(HPS.p x).5,old:=(HPS.p x).6,nxt:=(HPS.p x).7,mark:=(HPS.p x).8,pops:=(HPS.p x).9},ex:=cS,en:=cF,fn:=cV,cl:=bW,pr:=gW},st:= {me:=st.1,sp:=st.2,R:=st.3},s:= {t:=(ExO.s (exF t n x.11 s)).1,n:=(ExO.s (exF t n x.11 s)).2,xs:=(ExO.s (exF t n x.11 s)).3,c:=(ExO.s (exF t n x.11 s)).4,k:=(ExO.s (exF t n x.11 s)).5,a:=(ExO.s (exF t n x.11 s)).6,o:=(ExO.s (exF t n x.11 s)).7,w:=(ExO.s (exF t n x.11 s)).8,ok:=(ExO.s (exF t n x.11 s)).9} }))) (.pre ((t=t∧n=n)∧t=t∧n=n∧(false=false→(3:Int)=(3:Int))∧lE' (ExO.s (exF t n x.11 s)).3∧lE' st.3) (.ret {d:=false,x:= {x with at':=3,p:= {now:=(HPS.p x).1,code:=(HPS.p x).2,okk:=(HPS.p x).3,val:=(HPS.p x).4,addr:=(HPS.p x).5,old:=(HPS.p x).6,nxt:=(HPS.p x).7,mark:=(HPS.p x).8,pops:=(HPS.p x).9},ex:=(exF t n x.11 s).2,en:=cF,fn:=cV,cl:=bW,pr:=gW},st:= {me:=st.1,sp:=st.2,R:=st.3},s:= {t:=(ExO.s (exF t n x.11 s)).1,n:=(ExO.s (exF t n x.11 s)).2,xs:=(ExO.s (exF t n x.11 s)).3,c:=(ExO.s (exF t n x.11 s)).4,k:=(ExO.s (exF t n x.11 s)).5,a:=(ExO.s (exF t n x.11 s)).6,o:=(ExO.s (exF t n x.11 s)).7,w:=(ExO.s (exF t n x.11 s)).8,ok:=(ExO.s (exF t n x.11 s)).9} })))
theorem JT(t n:Int)(x:HPS)(st:STS)(s:MS)(K:HpO→Prop)(h:(qP t n x st s).run K):cT' 52 [.ptr 0 0,.ptr 2 0] [some (.cells [.ptr 1 0,.int .i64 x.u,.int .u64 x.no,.int .i64 x.rounds,.int .i64 x.limit,.int .i64 3,.int .u64 x.found,.int .i64 x.sh,.int .i64 x.kd,.int .i64 x.ky,.bool x.p.now,.int .i64 x.p.code,.bool x.p.okk,.int .i64 x.p.val,.int .i64 x.p.addr,.int .u64 x.p.old,.int .i64 x.p.nxt,.bool x.p.mark,.int .i64 x.p.pops,.ptr 4 0,.O,.O,.O,.O]),stC 5 t n st,aZ 3 s,a9 s,some (.abs (.exec t n x.ex) []),mM st] (cX 4 0 [19,20,21,22,23] [(.cell 1 4,.ints (some .i64))] (w7 t n) K):=by
 exact cM' (E:=EH0) (by kernel_rfl) h
def qQ(t n:Int)(x:HPS)(st:STS)(s:MS):Tr HpO:=.pre ((lE' s.3∧lE' st.3∧t=t∧n=n)∧K7 t n (HPS.en x) {me:=st.1,sp:=st.2,R:=st.3} s) (.ite (enF t n x.12 st s).1 (.ite (EO.e (enF t n x.12 st s)).2 (.pre ((t=t∧n=n)∧(false=false→(6:Int)≠(3:Int)∧(6:Int)≠(4:Int)∧(6:Int)≠(5:Int)∧(6:Int)≠(7:Int)∧(6:Int)≠(8:Int))∧lE' (EO.s (enF t n x.12 st s)).3∧lE' (EO.st (enF t n x.12 st s)).3) (.ret {d:=false,x:= {x with at':=6,p:= {now:=true,code:=4,okk:=false,val:=0,addr:=0,old:=0,nxt:=0,mark:=false,pops:=0},ex:=cS,en:=cF,fn:=cV,cl:=bW,pr:=gW},st:= {me:=(EO.st (enF t n x.12 st s)).1,sp:=(EO.st (enF t n x.12 st s)).2,R:=(EO.st (enF t n x.12 st s)).3},s:= {t:=(EO.s (enF t n x.12 st s)).1,n:=(EO.s (enF t n x.12 st s)).2,xs:=(EO.s (enF t n x.12 st s)).3,c:=(EO.s (enF t n x.12 st s)).4,k:=(EO.s (enF t n x.12 st s)).5,a:=(EO.s (enF t n x.12 st s)).6,o:=(EO.s (enF t n x.12 st s)).7,w:=(EO.s (enF t n x.12 st s)).8,ok:=(EO.s (enF t n x.12 st s)).9} })) (.pre True (.pre (B5 t n (EO.st (enF t n x.12 st s)).1 (cH x.7 x.9) (dK x.7 x.8 x.9) x.4∧True) (.pre ((t=t∧n=n)∧t=t∧n=n∧(false=false→(5:Int)=(5:Int))∧lE' (EO.s (enF t n x.12 st s)).3∧lE' (EO.st (enF t n x.12 st s)).3) (.ret {d:=false,x:= {x with at':=5,p:= {now:=(HPS.p x).1,code:=(HPS.p x).2,okk:=(HPS.p x).3,val:=(HPS.p x).4,addr:=(HPS.p x).5,old:=(HPS.p x).6,nxt:=(HPS.p x).7,mark:=(HPS.p x).8,pops:=(HPS.p x).9},ex:=cS,en:=cF,fn:=qM t n (EO.st (enF t n x.12 st s)).1 (cH x.7 x.9) (dK x.7 x.8 x.9) x.4,cl:=bW,pr:=gW},st:= {me:=(EO.st (enF t n x.12 st s)).1,sp:=(EO.st (enF t n x.12 st s)).2,R:=(EO.st (enF t n x.12 st s)).3},s:= {t:=(EO.s (enF t n x.12 st s)).1,n:=(EO.s (enF t n x.12 st s)).2,xs:=(EO.s (enF t n x.12 st s)).3,c:=(EO.s (enF t n x.12 st s)).4,k:=(EO.s (enF t n x.12 st s)).5,a:=(EO.s (enF t n x.12 st s)).6,o:=(EO.s (enF t n x.12 st s)).7,w:=(EO.s (enF t n x.12 st s)).8,ok:=(EO.s (enF t n x.12 st s)).9} }))))) (.pre ((t=t∧n=n)∧t=t∧n=n∧(false=false→(4:Int)=(4:Int))∧lE' (EO.s (enF t n x.12 st s)).3∧lE' (EO.st (enF t n x.12 st s)).3) (.ret {d:=false,x:= {x with at':=4,p:= {now:=(HPS.p x).1,code:=(HPS.p x).2,okk:=(HPS.p x).3,val:=(HPS.p x).4,addr:=(HPS.p x).5,old:=(HPS.p x).6,nxt:=(HPS.p x).7,mark:=(HPS.p x).8,pops:=(HPS.p x).9},ex:=cS,en:=(enF t n x.12 st s).2,fn:=cV,cl:=bW,pr:=gW},st:= {me:=(EO.st (enF t n x.12 st s)).1,sp:=(EO.st (enF t n x.12 st s)).2,R:=(EO.st (enF t n x.12 st s)).3},s:= {t:=(EO.s (enF t n x.12 st s)).1,n:=(EO.s (enF t n x.12 st s)).2,xs:=(EO.s (enF t n x.12 st s)).3,c:=(EO.s (enF t n x.12 st s)).4,k:=(EO.s (enF t n x.12 st s)).5,a:=(EO.s (enF t n x.12 st s)).6,o:=(EO.s (enF t n x.12 st s)).7,w:=(EO.s (enF t n x.12 st s)).8,ok:=(EO.s (enF t n x.12 st s)).9} })))
theorem JU(t n:Int)(x:HPS)(st:STS)(s:MS)(K:HpO→Prop)(h:(qQ t n x st s).run K):cT' 52 [.ptr 0 0,.ptr 2 0] [some (.cells [.ptr 1 0,.int .i64 x.u,.int .u64 x.no,.int .i64 x.rounds,.int .i64 x.limit,.int .i64 4,.int .u64 x.found,.int .i64 x.sh,.int .i64 x.kd,.int .i64 x.ky,.bool x.p.now,.int .i64 x.p.code,.bool x.p.okk,.int .i64 x.p.val,.int .i64 x.p.addr,.int .u64 x.p.old,.int .i64 x.p.nxt,.bool x.p.mark,.int .i64 x.p.pops,.O,.ptr 4 0,.O,.O,.O]),stC 5 t n st,aZ 3 s,a9 s,some (.abs (.ensure t n x.en) [1]),mM st] (cX 4 0 [19,20,21,22,23] [(.cell 1 4,.ints (some .i64))] (w7 t n) K):=by
 exact cM' (E:=EH0) (by kernel_rfl) h
def qR(t n:Int)(x:HPS)(st:STS)(s:MS):Tr HpO:=.pre (lE' s.3∧W5 t n x.13 s) (.ite (fnF t n x.13 s).1 (.pre ((lE' st.3∧lE' (FnO.x (fnF t n x.13 s)).6∧List.length st.3+List.length (FnO.x (fnF t n x.13 s)).6≤(4294967296:Nat))∧True) (.pre (F3 x.7 x.8 x.9 (FnO.x (fnF t n x.13 s)).1 (FnO.x (fnF t n x.13 s)).2 (FnO.x (fnF t n x.13 s)).3 (FnO.x (fnF t n x.13 s)).4 st.2∧True) (.ite (FnO.x (fnF t n x.13 s)).7 (.pre ((t=t∧n=n)∧(false=false→(0:Int)≠(3:Int)∧(0:Int)≠(4:Int)∧(0:Int)≠(5:Int)∧(0:Int)≠(7:Int)∧(0:Int)≠(8:Int))∧lE' (FnO.s (fnF t n x.13 s)).3∧List.length st.3+List.length (FnO.x (fnF t n x.13 s)).6=List.length (st.3++(FnO.x (fnF t n x.13 s)).6)) (.ret {d:=false,x:= {x with at':=0,p:= {now:=(bQ x.7 x.8 x.9 (FnO.x (fnF t n x.13 s)).1 (FnO.x (fnF t n x.13 s)).2 (FnO.x (fnF t n x.13 s)).3 (FnO.x (fnF t n x.13 s)).4 st.2).1,code:=(bQ x.7 x.8 x.9 (FnO.x (fnF t n x.13 s)).1 (FnO.x (fnF t n x.13 s)).2 (FnO.x (fnF t n x.13 s)).3 (FnO.x (fnF t n x.13 s)).4 st.2).2,okk:=(bQ x.7 x.8 x.9 (FnO.x (fnF t n x.13 s)).1 (FnO.x (fnF t n x.13 s)).2 (FnO.x (fnF t n x.13 s)).3 (FnO.x (fnF t n x.13 s)).4 st.2).3,val:=(bQ x.7 x.8 x.9 (FnO.x (fnF t n x.13 s)).1 (FnO.x (fnF t n x.13 s)).2 (FnO.x (fnF t n x.13 s)).3 (FnO.x (fnF t n x.13 s)).4 st.2).4,addr:=(bQ x.7 x.8 x.9 (FnO.x (fnF t n x.13 s)).1 (FnO.x (fnF t n x.13 s)).2 (FnO.x (fnF t n x.13 s)).3 (FnO.x (fnF t n x.13 s)).4 st.2).5,old:=(bQ x.7 x.8 x.9 (FnO.x (fnF t n x.13 s)).1 (FnO.x (fnF t n x.13 s)).2 (FnO.x (fnF t n x.13 s)).3 (FnO.x (fnF t n x.13 s)).4 st.2).6,nxt:=(bQ x.7 x.8 x.9 (FnO.x (fnF t n x.13 s)).1 (FnO.x (fnF t n x.13 s)).2 (FnO.x (fnF t n x.13 s)).3 (FnO.x (fnF t n x.13 s)).4 st.2).7,mark:=(bQ x.7 x.8 x.9 (FnO.x (fnF t n x.13 s)).1 (FnO.x (fnF t n x.13 s)).2 (FnO.x (fnF t n x.13 s)).3 (FnO.x (fnF t n x.13 s)).4 st.2).8,pops:=(bQ x.7 x.8 x.9 (FnO.x (fnF t n x.13 s)).1 (FnO.x (fnF t n x.13 s)).2 (FnO.x (fnF t n x.13 s)).3 (FnO.x (fnF t n x.13 s)).4 st.2).9},ex:=cS,en:=cF,fn:=cV,cl:=bW,pr:=gW},st:= {me:=st.1,sp:=st.2,R:=st.3++(FnO.x (fnF t n x.13 s)).6},s:= {t:=(FnO.s (fnF t n x.13 s)).1,n:=(FnO.s (fnF t n x.13 s)).2,xs:=(FnO.s (fnF t n x.13 s)).3,c:=(FnO.s (fnF t n x.13 s)).4,k:=(FnO.s (fnF t n x.13 s)).5,a:=(FnO.s (fnF t n x.13 s)).6,o:=(FnO.s (fnF t n x.13 s)).7,w:=(FnO.s (fnF t n x.13 s)).8,ok:=(FnO.s (fnF t n x.13 s)).9} })) (.ite (bQ x.7 x.8 x.9 (FnO.x (fnF t n x.13 s)).1 (FnO.x (fnF t n x.13 s)).2 (FnO.x (fnF t n x.13 s)).3 (FnO.x (fnF t n x.13 s)).4 st.2).1 (.pre ((t=t∧n=n)∧(false=false→(6:Int)≠(3:Int)∧(6:Int)≠(4:Int)∧(6:Int)≠(5:Int)∧(6:Int)≠(7:Int)∧(6:Int)≠(8:Int))∧lE' (FnO.s (fnF t n x.13 s)).3∧List.length st.3+List.length (FnO.x (fnF t n x.13 s)).6=List.length (st.3++(FnO.x (fnF t n x.13 s)).6)) (.ret {d:=false,x:= {x with at':=6,p:= {now:=(bQ x.7 x.8 x.9 (FnO.x (fnF t n x.13 s)).1 (FnO.x (fnF t n x.13 s)).2 (FnO.x (fnF t n x.13 s)).3 (FnO.x (fnF t n x.13 s)).4 st.2).1,code:=(bQ x.7 x.8 x.9 (FnO.x (fnF t n x.13 s)).1 (FnO.x (fnF t n x.13 s)).2 (FnO.x (fnF t n x.13 s)).3 (FnO.x (fnF t n x.13 s)).4 st.2).2,okk:=(bQ x.7 x.8 x.9 (FnO.x (fnF t n x.13 s)).1 (FnO.x (fnF t n x.13 s)).2 (FnO.x (fnF t n x.13 s)).3 (FnO.x (fnF t n x.13 s)).4 st.2).3,val:=(bQ x.7 x.8 x.9 (FnO.x (fnF t n x.13 s)).1 (FnO.x (fnF t n x.13 s)).2 (FnO.x (fnF t n x.13 s)).3 (FnO.x (fnF t n x.13 s)).4 st.2).4,addr:=(bQ x.7 x.8 x.9 (FnO.x (fnF t n x.13 s)).1 (FnO.x (fnF t n x.13 s)).2 (FnO.x (fnF t n x.13 s)).3 (FnO.x (fnF t n x.13 s)).4 st.2).5,old:=(bQ x.7 x.8 x.9 (FnO.x (fnF t n x.13 s)).1 (FnO.x (fnF t n x.13 s)).2 (FnO.x (fnF t n x.13 s)).3 (FnO.x (fnF t n x.13 s)).4 st.2).6,nxt:=(bQ x.7 x.8 x.9 (FnO.x (fnF t n x.13 s)).1 (FnO.x (fnF t n x.13 s)).2 (FnO.x (fnF t n x.13 s)).3 (FnO.x (fnF t n x.13 s)).4 st.2).7,mark:=(bQ x.7 x.8 x.9 (FnO.x (fnF t n x.13 s)).1 (FnO.x (fnF t n x.13 s)).2 (FnO.x (fnF t n x.13 s)).3 (FnO.x (fnF t n x.13 s)).4 st.2).8,pops:=(bQ x.7 x.8 x.9 (FnO.x (fnF t n x.13 s)).1 (FnO.x (fnF t n x.13 s)).2 (FnO.x (fnF t n x.13 s)).3 (FnO.x (fnF t n x.13 s)).4 st.2).9},ex:=cS,en:=cF,fn:=cV,cl:=bW,pr:=gW},st:= {me:=st.1,sp:=st.2,R:=st.3++(FnO.x (fnF t n x.13 s)).6},s:= {t:=(FnO.s (fnF t n x.13 s)).1,n:=(FnO.s (fnF t n x.13 s)).2,xs:=(FnO.s (fnF t n x.13 s)).3,c:=(FnO.s (fnF t n x.13 s)).4,k:=(FnO.s (fnF t n x.13 s)).5,a:=(FnO.s (fnF t n x.13 s)).6,o:=(FnO.s (fnF t n x.13 s)).7,w:=(FnO.s (fnF t n x.13 s)).8,ok:=(FnO.s (fnF t n x.13 s)).9} })) (.pre (uN (bQ x.7 x.8 x.9 (FnO.x (fnF t n x.13 s)).1 (FnO.x (fnF t n x.13 s)).2 (FnO.x (fnF t n x.13 s)).3 (FnO.x (fnF t n x.13 s)).4 st.2).1 (bQ x.7 x.8 x.9 (FnO.x (fnF t n x.13 s)).1 (FnO.x (fnF t n x.13 s)).2 (FnO.x (fnF t n x.13 s)).3 (FnO.x (fnF t n x.13 s)).4 st.2).2 (bQ x.7 x.8 x.9 (FnO.x (fnF t n x.13 s)).1 (FnO.x (fnF t n x.13 s)).2 (FnO.x (fnF t n x.13 s)).3 (FnO.x (fnF t n x.13 s)).4 st.2).3 (bQ x.7 x.8 x.9 (FnO.x (fnF t n x.13 s)).1 (FnO.x (fnF t n x.13 s)).2 (FnO.x (fnF t n x.13 s)).3 (FnO.x (fnF t n x.13 s)).4 st.2).4 (bQ x.7 x.8 x.9 (FnO.x (fnF t n x.13 s)).1 (FnO.x (fnF t n x.13 s)).2 (FnO.x (fnF t n x.13 s)).3 (FnO.x (fnF t n x.13 s)).4 st.2).5 (bQ x.7 x.8 x.9 (FnO.x (fnF t n x.13 s)).1 (FnO.x (fnF t n x.13 s)).2 (FnO.x (fnF t n x.13 s)).3 (FnO.x (fnF t n x.13 s)).4 st.2).6 (bQ x.7 x.8 x.9 (FnO.x (fnF t n x.13 s)).1 (FnO.x (fnF t n x.13 s)).2 (FnO.x (fnF t n x.13 s)).3 (FnO.x (fnF t n x.13 s)).4 st.2).7 (bQ x.7 x.8 x.9 (FnO.x (fnF t n x.13 s)).1 (FnO.x (fnF t n x.13 s)).2 (FnO.x (fnF t n x.13 s)).3 (FnO.x (fnF t n x.13 s)).4 st.2).8 (bQ x.7 x.8 x.9 (FnO.x (fnF t n x.13 s)).1 (FnO.x (fnF t n x.13 s)).2 (FnO.x (fnF t n x.13 s)).3 (FnO.x (fnF t n x.13 s)).4 st.2).9) (.ite (nT (bQ x.7 x.8 x.9 (FnO.x (fnF t n x.13 s)).1 (FnO.x (fnF t n x.13 s)).2 (FnO.x (fnF t n x.13 s)).3 (FnO.x (fnF t n x.13 s)).4 st.2).1 (bQ x.7 x.8 x.9 (FnO.x (fnF t n x.13 s)).1 (FnO.x (fnF t n x.13 s)).2 (FnO.x (fnF t n x.13 s)).3 (FnO.x (fnF t n x.13 s)).4 st.2).2 (bQ x.7 x.8 x.9 (FnO.x (fnF t n x.13 s)).1 (FnO.x (fnF t n x.13 s)).2 (FnO.x (fnF t n x.13 s)).3 (FnO.x (fnF t n x.13 s)).4 st.2).3 (bQ x.7 x.8 x.9 (FnO.x (fnF t n x.13 s)).1 (FnO.x (fnF t n x.13 s)).2 (FnO.x (fnF t n x.13 s)).3 (FnO.x (fnF t n x.13 s)).4 st.2).4 (bQ x.7 x.8 x.9 (FnO.x (fnF t n x.13 s)).1 (FnO.x (fnF t n x.13 s)).2 (FnO.x (fnF t n x.13 s)).3 (FnO.x (fnF t n x.13 s)).4 st.2).5 (bQ x.7 x.8 x.9 (FnO.x (fnF t n x.13 s)).1 (FnO.x (fnF t n x.13 s)).2 (FnO.x (fnF t n x.13 s)).3 (FnO.x (fnF t n x.13 s)).4 st.2).6 (bQ x.7 x.8 x.9 (FnO.x (fnF t n x.13 s)).1 (FnO.x (fnF t n x.13 s)).2 (FnO.x (fnF t n x.13 s)).3 (FnO.x (fnF t n x.13 s)).4 st.2).7 (bQ x.7 x.8 x.9 (FnO.x (fnF t n x.13 s)).1 (FnO.x (fnF t n x.13 s)).2 (FnO.x (fnF t n x.13 s)).3 (FnO.x (fnF t n x.13 s)).4 st.2).8 (bQ x.7 x.8 x.9 (FnO.x (fnF t n x.13 s)).1 (FnO.x (fnF t n x.13 s)).2 (FnO.x (fnF t n x.13 s)).3 (FnO.x (fnF t n x.13 s)).4 st.2).9) (.pre (vA t n (bQ x.7 x.8 x.9 (FnO.x (fnF t n x.13 s)).1 (FnO.x (fnF t n x.13 s)).2 (FnO.x (fnF t n x.13 s)).3 (FnO.x (fnF t n x.13 s)).4 st.2).5∧True) (.pre ((t=t∧n=n)∧t=t∧n=n∧(false=false→(7:Int)=(7:Int))∧lE' (FnO.s (fnF t n x.13 s)).3∧List.length st.3+List.length (FnO.x (fnF t n x.13 s)).6=List.length (st.3++(FnO.x (fnF t n x.13 s)).6)) (.ret {d:=false,x:= {x with at':=7,p:= {now:=(bQ x.7 x.8 x.9 (FnO.x (fnF t n x.13 s)).1 (FnO.x (fnF t n x.13 s)).2 (FnO.x (fnF t n x.13 s)).3 (FnO.x (fnF t n x.13 s)).4 st.2).1,code:=(bQ x.7 x.8 x.9 (FnO.x (fnF t n x.13 s)).1 (FnO.x (fnF t n x.13 s)).2 (FnO.x (fnF t n x.13 s)).3 (FnO.x (fnF t n x.13 s)).4 st.2).2,okk:=(bQ x.7 x.8 x.9 (FnO.x (fnF t n x.13 s)).1 (FnO.x (fnF t n x.13 s)).2 (FnO.x (fnF t n x.13 s)).3 (FnO.x (fnF t n x.13 s)).4 st.2).3,val:=(bQ x.7 x.8 x.9 (FnO.x (fnF t n x.13 s)).1 (FnO.x (fnF t n x.13 s)).2 (FnO.x (fnF t n x.13 s)).3 (FnO.x (fnF t n x.13 s)).4 st.2).4,addr:=(bQ x.7 x.8 x.9 (FnO.x (fnF t n x.13 s)).1 (FnO.x (fnF t n x.13 s)).2 (FnO.x (fnF t n x.13 s)).3 (FnO.x (fnF t n x.13 s)).4 st.2).5,old:=(bQ x.7 x.8 x.9 (FnO.x (fnF t n x.13 s)).1 (FnO.x (fnF t n x.13 s)).2 (FnO.x (fnF t n x.13 s)).3 (FnO.x (fnF t n x.13 s)).4 st.2).6,nxt:=(bQ x.7 x.8 x.9 (FnO.x (fnF t n x.13 s)).1 (FnO.x (fnF t n x.13 s)).2 (FnO.x (fnF t n x.13 s)).3 (FnO.x (fnF t n x.13 s)).4 st.2).7,mark:=(bQ x.7 x.8 x.9 (FnO.x (fnF t n x.13 s)).1 (FnO.x (fnF t n x.13 s)).2 (FnO.x (fnF t n x.13 s)).3 (FnO.x (fnF t n x.13 s)).4 st.2).8,pops:=(bQ x.7 x.8 x.9 (FnO.x (fnF t n x.13 s)).1 (FnO.x (fnF t n x.13 s)).2 (FnO.x (fnF t n x.13 s)).3 (FnO.x (fnF t n x.13 s)).4 st.2).9},ex:=cS,en:=cF,fn:=cV,cl:=D4 t n (bQ x.7 x.8 x.9 (FnO.x (fnF t n x.13 s)).1 (FnO.x (fnF t n x.13 s)).2 (FnO.x (fnF t n x.13 s)).3 (FnO.x (fnF t n x.13 s)).4 st.2).5,pr:=gW},st:= {me:=st.1,sp:=st.2,R:=st.3++(FnO.x (fnF t n x.13 s)).6},s:= {t:=(FnO.s (fnF t n x.13 s)).1,n:=(FnO.s (fnF t n x.13 s)).2,xs:=(FnO.s (fnF t n x.13 s)).3,c:=(FnO.s (fnF t n x.13 s)).4,k:=(FnO.s (fnF t n x.13 s)).5,a:=(FnO.s (fnF t n x.13 s)).6,o:=(FnO.s (fnF t n x.13 s)).7,w:=(FnO.s (fnF t n x.13 s)).8,ok:=(FnO.s (fnF t n x.13 s)).9} }))) (.pre True (.ite (bG x.8) (.pre ((List.length st.3+List.length (FnO.x (fnF t n x.13 s)).6=List.length (st.3++(FnO.x (fnF t n x.13 s)).6)∧OZ t n x.9 (FnO.x (fnF t n x.13 s)).3 {me:=st.1,sp:=st.2,R:=st.3++(FnO.x (fnF t n x.13 s)).6})∧True) (.pre ((t=t∧n=n)∧t=t∧n=n∧(false=false→(8:Int)=(8:Int))∧lE' (FnO.s (fnF t n x.13 s)).3∧lE' (Prod.snd (CX t n x.9 (FnO.x (fnF t n x.13 s)).3 {me:=st.1,sp:=st.2,R:=st.3++(FnO.x (fnF t n x.13 s)).6})).3) (.ret {d:=false,x:= {x with at':=8,p:= {now:=(bQ x.7 x.8 x.9 (FnO.x (fnF t n x.13 s)).1 (FnO.x (fnF t n x.13 s)).2 (FnO.x (fnF t n x.13 s)).3 (FnO.x (fnF t n x.13 s)).4 st.2).1,code:=(bQ x.7 x.8 x.9 (FnO.x (fnF t n x.13 s)).1 (FnO.x (fnF t n x.13 s)).2 (FnO.x (fnF t n x.13 s)).3 (FnO.x (fnF t n x.13 s)).4 st.2).2,okk:=(bQ x.7 x.8 x.9 (FnO.x (fnF t n x.13 s)).1 (FnO.x (fnF t n x.13 s)).2 (FnO.x (fnF t n x.13 s)).3 (FnO.x (fnF t n x.13 s)).4 st.2).3,val:=(bQ x.7 x.8 x.9 (FnO.x (fnF t n x.13 s)).1 (FnO.x (fnF t n x.13 s)).2 (FnO.x (fnF t n x.13 s)).3 (FnO.x (fnF t n x.13 s)).4 st.2).4,addr:=(bQ x.7 x.8 x.9 (FnO.x (fnF t n x.13 s)).1 (FnO.x (fnF t n x.13 s)).2 (FnO.x (fnF t n x.13 s)).3 (FnO.x (fnF t n x.13 s)).4 st.2).5,old:=(bQ x.7 x.8 x.9 (FnO.x (fnF t n x.13 s)).1 (FnO.x (fnF t n x.13 s)).2 (FnO.x (fnF t n x.13 s)).3 (FnO.x (fnF t n x.13 s)).4 st.2).6,nxt:=(bQ x.7 x.8 x.9 (FnO.x (fnF t n x.13 s)).1 (FnO.x (fnF t n x.13 s)).2 (FnO.x (fnF t n x.13 s)).3 (FnO.x (fnF t n x.13 s)).4 st.2).7,mark:=(bQ x.7 x.8 x.9 (FnO.x (fnF t n x.13 s)).1 (FnO.x (fnF t n x.13 s)).2 (FnO.x (fnF t n x.13 s)).3 (FnO.x (fnF t n x.13 s)).4 st.2).8,pops:=(bQ x.7 x.8 x.9 (FnO.x (fnF t n x.13 s)).1 (FnO.x (fnF t n x.13 s)).2 (FnO.x (fnF t n x.13 s)).3 (FnO.x (fnF t n x.13 s)).4 st.2).9},ex:=cS,en:=cF,fn:=cV,cl:=bW,pr:=(CX t n x.9 (FnO.x (fnF t n x.13 s)).3 {me:=st.1,sp:=st.2,R:=st.3++(FnO.x (fnF t n x.13 s)).6}).1},st:= {me:=(Prod.snd (CX t n x.9 (FnO.x (fnF t n x.13 s)).3 {me:=st.1,sp:=st.2,R:=st.3++(FnO.x (fnF t n x.13 s)).6})).1,sp:=(Prod.snd (CX t n x.9 (FnO.x (fnF t n x.13 s)).3 {me:=st.1,sp:=st.2,R:=st.3++(FnO.x (fnF t n x.13 s)).6})).2,R:=(Prod.snd (CX t n x.9 (FnO.x (fnF t n x.13 s)).3 {me:=st.1,sp:=st.2,R:=st.3++(FnO.x (fnF t n x.13 s)).6})).3},s:= {t:=(FnO.s (fnF t n x.13 s)).1,n:=(FnO.s (fnF t n x.13 s)).2,xs:=(FnO.s (fnF t n x.13 s)).3,c:=(FnO.s (fnF t n x.13 s)).4,k:=(FnO.s (fnF t n x.13 s)).5,a:=(FnO.s (fnF t n x.13 s)).6,o:=(FnO.s (fnF t n x.13 s)).7,w:=(FnO.s (fnF t n x.13 s)).8,ok:=(FnO.s (fnF t n x.13 s)).9} }))) (.pre ((t=t∧n=n)∧(false=false→(9:Int)≠(3:Int)∧(9:Int)≠(4:Int)∧(9:Int)≠(5:Int)∧(9:Int)≠(7:Int)∧(9:Int)≠(8:Int))∧lE' (FnO.s (fnF t n x.13 s)).3∧List.length st.3+List.length (FnO.x (fnF t n x.13 s)).6=List.length (st.3++(FnO.x (fnF t n x.13 s)).6)) (.ret {d:=false,x:= {x with at':=9,p:= {now:=(bQ x.7 x.8 x.9 (FnO.x (fnF t n x.13 s)).1 (FnO.x (fnF t n x.13 s)).2 (FnO.x (fnF t n x.13 s)).3 (FnO.x (fnF t n x.13 s)).4 st.2).1,code:=(bQ x.7 x.8 x.9 (FnO.x (fnF t n x.13 s)).1 (FnO.x (fnF t n x.13 s)).2 (FnO.x (fnF t n x.13 s)).3 (FnO.x (fnF t n x.13 s)).4 st.2).2,okk:=(bQ x.7 x.8 x.9 (FnO.x (fnF t n x.13 s)).1 (FnO.x (fnF t n x.13 s)).2 (FnO.x (fnF t n x.13 s)).3 (FnO.x (fnF t n x.13 s)).4 st.2).3,val:=(bQ x.7 x.8 x.9 (FnO.x (fnF t n x.13 s)).1 (FnO.x (fnF t n x.13 s)).2 (FnO.x (fnF t n x.13 s)).3 (FnO.x (fnF t n x.13 s)).4 st.2).4,addr:=(bQ x.7 x.8 x.9 (FnO.x (fnF t n x.13 s)).1 (FnO.x (fnF t n x.13 s)).2 (FnO.x (fnF t n x.13 s)).3 (FnO.x (fnF t n x.13 s)).4 st.2).5,old:=(bQ x.7 x.8 x.9 (FnO.x (fnF t n x.13 s)).1 (FnO.x (fnF t n x.13 s)).2 (FnO.x (fnF t n x.13 s)).3 (FnO.x (fnF t n x.13 s)).4 st.2).6,nxt:=(bQ x.7 x.8 x.9 (FnO.x (fnF t n x.13 s)).1 (FnO.x (fnF t n x.13 s)).2 (FnO.x (fnF t n x.13 s)).3 (FnO.x (fnF t n x.13 s)).4 st.2).7,mark:=(bQ x.7 x.8 x.9 (FnO.x (fnF t n x.13 s)).1 (FnO.x (fnF t n x.13 s)).2 (FnO.x (fnF t n x.13 s)).3 (FnO.x (fnF t n x.13 s)).4 st.2).8,pops:=(bQ x.7 x.8 x.9 (FnO.x (fnF t n x.13 s)).1 (FnO.x (fnF t n x.13 s)).2 (FnO.x (fnF t n x.13 s)).3 (FnO.x (fnF t n x.13 s)).4 st.2).9},ex:=cS,en:=cF,fn:=cV,cl:=bW,pr:=gW},st:= {me:=st.1,sp:=st.2,R:=st.3++(FnO.x (fnF t n x.13 s)).6},s:= {t:=(FnO.s (fnF t n x.13 s)).1,n:=(FnO.s (fnF t n x.13 s)).2,xs:=(FnO.s (fnF t n x.13 s)).3,c:=(FnO.s (fnF t n x.13 s)).4,k:=(FnO.s (fnF t n x.13 s)).5,a:=(FnO.s (fnF t n x.13 s)).6,o:=(FnO.s (fnF t n x.13 s)).7,w:=(FnO.s (fnF t n x.13 s)).8,ok:=(FnO.s (fnF t n x.13 s)).9} })))))))))) (.pre ((t=t∧n=n)∧t=t∧n=n∧(false=false→(5:Int)=(5:Int))∧lE' (FnO.s (fnF t n x.13 s)).3∧lE' st.3) (.ret {d:=false,x:= {x with at':=5,p:= {now:=(HPS.p x).1,code:=(HPS.p x).2,okk:=(HPS.p x).3,val:=(HPS.p x).4,addr:=(HPS.p x).5,old:=(HPS.p x).6,nxt:=(HPS.p x).7,mark:=(HPS.p x).8,pops:=(HPS.p x).9},ex:=cS,en:=cF,fn:=(fnF t n x.13 s).2,cl:=bW,pr:=gW},st:= {me:=st.1,sp:=st.2,R:=st.3},s:= {t:=(FnO.s (fnF t n x.13 s)).1,n:=(FnO.s (fnF t n x.13 s)).2,xs:=(FnO.s (fnF t n x.13 s)).3,c:=(FnO.s (fnF t n x.13 s)).4,k:=(FnO.s (fnF t n x.13 s)).5,a:=(FnO.s (fnF t n x.13 s)).6,o:=(FnO.s (fnF t n x.13 s)).7,w:=(FnO.s (fnF t n x.13 s)).8,ok:=(FnO.s (fnF t n x.13 s)).9} })))
theorem JV(t n:Int)(x:HPS)(st:STS)(s:MS)(K:HpO→Prop)(h:(qR t n x st s).run K):cT' 52 [.ptr 0 0,.ptr 2 0] [some (.cells [.ptr 1 0,.int .i64 x.u,.int .u64 x.no,.int .i64 x.rounds,.int .i64 x.limit,.int .i64 5,.int .u64 x.found,.int .i64 x.sh,.int .i64 x.kd,.int .i64 x.ky,.bool x.p.now,.int .i64 x.p.code,.bool x.p.okk,.int .i64 x.p.val,.int .i64 x.p.addr,.int .u64 x.p.old,.int .i64 x.p.nxt,.bool x.p.mark,.int .i64 x.p.pops,.O,.O,.ptr 4 0,.O,.O]),stC 5 t n st,aZ 3 s,a9 s,some (.abs (.find t n x.fn) []),mM st] (cX 4 0 [19,20,21,22,23] [(.cell 1 4,.ints (some .i64))] (w7 t n) K):=by
 exact cM' (E:=EH0) (by kernel_rfl) h
def vV(t n:Int)(x:HPS)(st:STS)(s:MS):Tr HpO:=.pre True (.pre True (.pre True (.pre ((((0:Int)≤t∧t≤(100000:Int))∧((0:Int)≤n∧n≤(100000:Int))∧(-1099511627776:Int)≤x.1∧x.1≤(1099511627776:Int))∧True) (.pre ((lE' s.3∧(0:Int)≤s.4∧s.4≤(4611686018427387904:Int))∧True) (.pre ((t=t∧n=n)∧(false=false→(0:Int)≠(3:Int)∧(0:Int)≠(4:Int)∧(0:Int)≠(5:Int)∧(0:Int)≠(7:Int)∧(0:Int)≠(8:Int))∧lE' (bif aU s.3 (2*n+5+2*t+3*x.1+2) x.6 then aJ s.3 (2*n+5+2*t+3*x.1+2) (bif dOk (aA x.6 0 12) 0 0 (bif ieq (HPS.p x).2 4 then 1 else 0) 5 (HPS.p x).4 then bA (aA x.6 0 12) 0 0 (bif ieq (HPS.p x).2 4 then 1 else 0) (HPS.p x).3 5 (HPS.p x).4 else 0)else s.3)∧lE' st.3) (.ret {d:=false,x:= {x with at':=0,p:= {now:=(HPS.p x).1,code:=(HPS.p x).2,okk:=(HPS.p x).3,val:=(HPS.p x).4,addr:=(HPS.p x).5,old:=(HPS.p x).6,nxt:=(HPS.p x).7,mark:=(HPS.p x).8,pops:=(HPS.p x).9},ex:=cS,en:=cF,fn:=cV,cl:=bW,pr:=gW},st:= {me:=st.1,sp:=st.2,R:=st.3},s:= {t:=s.1,n:=s.2,xs:=bif aU s.3 (2*n+5+2*t+3*x.1+2) x.6 then aJ s.3 (2*n+5+2*t+3*x.1+2) (bif dOk (aA x.6 0 12) 0 0 (bif ieq (HPS.p x).2 4 then 1 else 0) 5 (HPS.p x).4 then bA (aA x.6 0 12) 0 0 (bif ieq (HPS.p x).2 4 then 1 else 0) (HPS.p x).3 5 (HPS.p x).4 else 0)else s.3,c:=s.4+1,k:=3,a:=2*n+5+2*t+3*x.1+2,o:=aB s.3 (2*n+5+2*t+3*x.1+2),w:=bif bN s.3 (2*n+5+2*t+3*x.1+2)then bif dOk (aA x.6 0 12) 0 0 (bif ieq (HPS.p x).2 4 then 1 else 0) 5 (HPS.p x).4 then bA (aA x.6 0 12) 0 0 (bif ieq (HPS.p x).2 4 then 1 else 0) (HPS.p x).3 5 (HPS.p x).4 else 0 else 0,ok:=aU s.3 (2*n+5+2*t+3*x.1+2) x.6} }))))))
theorem JW(t n:Int)(x:HPS)(st:STS)(s:MS)(K:HpO→Prop)(h:(vV t n x st s).run K):cT' 52 [.ptr 0 0,.ptr 2 0] [some (.cells [.ptr 1 0,.int .i64 x.u,.int .u64 x.no,.int .i64 x.rounds,.int .i64 x.limit,.int .i64 6,.int .u64 x.found,.int .i64 x.sh,.int .i64 x.kd,.int .i64 x.ky,.bool x.p.now,.int .i64 x.p.code,.bool x.p.okk,.int .i64 x.p.val,.int .i64 x.p.addr,.int .u64 x.p.old,.int .i64 x.p.nxt,.bool x.p.mark,.int .i64 x.p.pops,.O,.O,.O,.O,.O]),stC 4 t n st,aZ 3 s,a9 s,mM st] (cX 4 0 [19,20,21,22,23] [(.cell 1 4,.ints (some .i64))] (w7 t n) K):=by
 exact cM' (E:=EH0) (by kernel_rfl) h
def CD(t n:Int)(x:HPS)(st:STS)(s:MS):Tr HpO:=.pre (lE' s.3∧Q1 t n x.14 s) (.ite (gE t n x.14 s).1 (.pre ((t=t∧n=n)∧(false=false→(0:Int)≠(3:Int)∧(0:Int)≠(4:Int)∧(0:Int)≠(5:Int)∧(0:Int)≠(7:Int)∧(0:Int)≠(8:Int))∧lE' (ClO.s (gE t n x.14 s)).3∧lE' st.3) (.ret {d:=false,x:= {x with at':=0,p:= {now:=(HPS.p x).1,code:=(HPS.p x).2,okk:=(HPS.p x).3,val:=(HPS.p x).4,addr:=(HPS.p x).5,old:=(HPS.p x).6,nxt:=(HPS.p x).7,mark:=(HPS.p x).8,pops:=(HPS.p x).9},ex:=cS,en:=cF,fn:=cV,cl:=bW,pr:=gW},st:= {me:=st.1,sp:=st.2,R:=st.3},s:= {t:=(ClO.s (gE t n x.14 s)).1,n:=(ClO.s (gE t n x.14 s)).2,xs:=(ClO.s (gE t n x.14 s)).3,c:=(ClO.s (gE t n x.14 s)).4,k:=(ClO.s (gE t n x.14 s)).5,a:=(ClO.s (gE t n x.14 s)).6,o:=(ClO.s (gE t n x.14 s)).7,w:=(ClO.s (gE t n x.14 s)).8,ok:=(ClO.s (gE t n x.14 s)).9} })) (.pre ((t=t∧n=n)∧t=t∧n=n∧(false=false→(7:Int)=(7:Int))∧lE' (ClO.s (gE t n x.14 s)).3∧lE' st.3) (.ret {d:=false,x:= {x with at':=7,p:= {now:=(HPS.p x).1,code:=(HPS.p x).2,okk:=(HPS.p x).3,val:=(HPS.p x).4,addr:=(HPS.p x).5,old:=(HPS.p x).6,nxt:=(HPS.p x).7,mark:=(HPS.p x).8,pops:=(HPS.p x).9},ex:=cS,en:=cF,fn:=cV,cl:=(gE t n x.14 s).2,pr:=gW},st:= {me:=st.1,sp:=st.2,R:=st.3},s:= {t:=(ClO.s (gE t n x.14 s)).1,n:=(ClO.s (gE t n x.14 s)).2,xs:=(ClO.s (gE t n x.14 s)).3,c:=(ClO.s (gE t n x.14 s)).4,k:=(ClO.s (gE t n x.14 s)).5,a:=(ClO.s (gE t n x.14 s)).6,o:=(ClO.s (gE t n x.14 s)).7,w:=(ClO.s (gE t n x.14 s)).8,ok:=(ClO.s (gE t n x.14 s)).9} })))
theorem JX(t n:Int)(x:HPS)(st:STS)(s:MS)(K:HpO→Prop)(h:(CD t n x st s).run K):cT' 52 [.ptr 0 0,.ptr 2 0] [some (.cells [.ptr 1 0,.int .i64 x.u,.int .u64 x.no,.int .i64 x.rounds,.int .i64 x.limit,.int .i64 7,.int .u64 x.found,.int .i64 x.sh,.int .i64 x.kd,.int .i64 x.ky,.bool x.p.now,.int .i64 x.p.code,.bool x.p.okk,.int .i64 x.p.val,.int .i64 x.p.addr,.int .u64 x.p.old,.int .i64 x.p.nxt,.bool x.p.mark,.int .i64 x.p.pops,.O,.O,.O,.ptr 4 0,.O]),stC 5 t n st,aZ 3 s,a9 s,some (.abs (.clear t n x.cl) []),mM st] (cX 4 0 [19,20,21,22,23] [(.cell 1 4,.ints (some .i64))] (w7 t n) K):=by
 exact cM' (E:=EH0) (by kernel_rfl) h
def qS(t n:Int)(x:HPS)(st:STS)(s:MS):Tr HpO:=.pre ((lE' s.3∧lE' st.3∧t=t∧n=n)∧TF t n x.15 st s) (.ite (prF t n x.15 st s).1 (.pre ((t=t∧n=n)∧(false=false→(9:Int)≠(3:Int)∧(9:Int)≠(4:Int)∧(9:Int)≠(5:Int)∧(9:Int)≠(7:Int)∧(9:Int)≠(8:Int))∧lE' (PrO.s (prF t n x.15 st s)).3∧lE' (PrO.st (prF t n x.15 st s)).3) (.ret {d:=false,x:= {x with at':=9,p:= {now:=(HPS.p x).1,code:=(HPS.p x).2,okk:=(HPS.p x).3,val:=(HPS.p x).4,addr:=(HPS.p x).5,old:=(HPS.p x).6,nxt:=(HPS.p x).7,mark:=(HPS.p x).8,pops:=(HPS.p x).9},ex:=cS,en:=cF,fn:=cV,cl:=bW,pr:=gW},st:= {me:=(PrO.st (prF t n x.15 st s)).1,sp:=(PrO.st (prF t n x.15 st s)).2,R:=(PrO.st (prF t n x.15 st s)).3},s:= {t:=(PrO.s (prF t n x.15 st s)).1,n:=(PrO.s (prF t n x.15 st s)).2,xs:=(PrO.s (prF t n x.15 st s)).3,c:=(PrO.s (prF t n x.15 st s)).4,k:=(PrO.s (prF t n x.15 st s)).5,a:=(PrO.s (prF t n x.15 st s)).6,o:=(PrO.s (prF t n x.15 st s)).7,w:=(PrO.s (prF t n x.15 st s)).8,ok:=(PrO.s (prF t n x.15 st s)).9} })) (.pre ((t=t∧n=n)∧t=t∧n=n∧(false=false→(8:Int)=(8:Int))∧lE' (PrO.s (prF t n x.15 st s)).3∧lE' (PrO.st (prF t n x.15 st s)).3) (.ret {d:=false,x:= {x with at':=8,p:= {now:=(HPS.p x).1,code:=(HPS.p x).2,okk:=(HPS.p x).3,val:=(HPS.p x).4,addr:=(HPS.p x).5,old:=(HPS.p x).6,nxt:=(HPS.p x).7,mark:=(HPS.p x).8,pops:=(HPS.p x).9},ex:=cS,en:=cF,fn:=cV,cl:=bW,pr:=(prF t n x.15 st s).2},st:= {me:=(PrO.st (prF t n x.15 st s)).1,sp:=(PrO.st (prF t n x.15 st s)).2,R:=(PrO.st (prF t n x.15 st s)).3},s:= {t:=(PrO.s (prF t n x.15 st s)).1,n:=(PrO.s (prF t n x.15 st s)).2,xs:=(PrO.s (prF t n x.15 st s)).3,c:=(PrO.s (prF t n x.15 st s)).4,k:=(PrO.s (prF t n x.15 st s)).5,a:=(PrO.s (prF t n x.15 st s)).6,o:=(PrO.s (prF t n x.15 st s)).7,w:=(PrO.s (prF t n x.15 st s)).8,ok:=(PrO.s (prF t n x.15 st s)).9} })))
theorem JY(t n:Int)(x:HPS)(st:STS)(s:MS)(K:HpO→Prop)(h:(qS t n x st s).run K):cT' 52 [.ptr 0 0,.ptr 2 0] [some (.cells [.ptr 1 0,.int .i64 x.u,.int .u64 x.no,.int .i64 x.rounds,.int .i64 x.limit,.int .i64 8,.int .u64 x.found,.int .i64 x.sh,.int .i64 x.kd,.int .i64 x.ky,.bool x.p.now,.int .i64 x.p.code,.bool x.p.okk,.int .i64 x.p.val,.int .i64 x.p.addr,.int .u64 x.p.old,.int .i64 x.p.nxt,.bool x.p.mark,.int .i64 x.p.pops,.O,.O,.O,.O,.ptr 4 0]),stC 5 t n st,aZ 3 s,a9 s,some (.abs (.prepare t n x.pr) [1]),mM st] (cX 4 0 [19,20,21,22,23] [(.cell 1 4,.ints (some .i64))] (w7 t n) K):=by
 exact cM' (E:=EH0) (by kernel_rfl) h
def vW(t n:Int)(x:HPS)(st:STS)(s:MS):Tr HpO:=.pre True (.pre (AE (HPS.p x).1 (HPS.p x).2 (HPS.p x).3 (HPS.p x).4 (HPS.p x).5 (HPS.p x).6 (HPS.p x).7 (HPS.p x).8 (HPS.p x).9 (aA x.6 0 12)∧True) (.pre ((((0:Int)≤t∧t≤(100000:Int))∧((0:Int)≤n∧n≤(100000:Int))∧(-1099511627776:Int)≤x.1∧x.1≤(1099511627776:Int))∧True) (.pre ((lE' s.3∧(0:Int)≤s.4∧s.4≤(4611686018427387904:Int))∧True) (.ite (aU s.3 (2*n+5+2*t+3*x.1+2) x.6) (.pre True (.ite (bG x.8) (.pre ((t=t∧n=n)∧(false=false→(0:Int)≠(3:Int)∧(0:Int)≠(4:Int)∧(0:Int)≠(5:Int)∧(0:Int)≠(7:Int)∧(0:Int)≠(8:Int))∧lE' (bif aU s.3 (2*n+5+2*t+3*x.1+2) x.6 then aJ s.3 (2*n+5+2*t+3*x.1+2) (fG (HPS.p x).1 (HPS.p x).2 (HPS.p x).3 (HPS.p x).4 (HPS.p x).5 (HPS.p x).6 (HPS.p x).7 (HPS.p x).8 (HPS.p x).9 (aA x.6 0 12)).1 else s.3)∧lE' st.3) (.ret {d:=false,x:= {x with at':=0,p:= {now:=(HPS.p x).1,code:=(HPS.p x).2,okk:=(HPS.p x).3,val:=(HPS.p x).4,addr:=(HPS.p x).5,old:=(HPS.p x).6,nxt:=(HPS.p x).7,mark:=(HPS.p x).8,pops:=(HPS.p x).9},ex:=cS,en:=cF,fn:=cV,cl:=bW,pr:=gW},st:= {me:=st.1,sp:=0,R:=st.3},s:= {t:=s.1,n:=s.2,xs:=bif aU s.3 (2*n+5+2*t+3*x.1+2) x.6 then aJ s.3 (2*n+5+2*t+3*x.1+2) (fG (HPS.p x).1 (HPS.p x).2 (HPS.p x).3 (HPS.p x).4 (HPS.p x).5 (HPS.p x).6 (HPS.p x).7 (HPS.p x).8 (HPS.p x).9 (aA x.6 0 12)).1 else s.3,c:=s.4+1,k:=3,a:=2*n+5+2*t+3*x.1+2,o:=aB s.3 (2*n+5+2*t+3*x.1+2),w:=bif bN s.3 (2*n+5+2*t+3*x.1+2)then(fG (HPS.p x).1 (HPS.p x).2 (HPS.p x).3 (HPS.p x).4 (HPS.p x).5 (HPS.p x).6 (HPS.p x).7 (HPS.p x).8 (HPS.p x).9 (aA x.6 0 12)).1 else 0,ok:=aU s.3 (2*n+5+2*t+3*x.1+2) x.6} })) (.pre ((t=t∧n=n)∧(false=false→(0:Int)≠(3:Int)∧(0:Int)≠(4:Int)∧(0:Int)≠(5:Int)∧(0:Int)≠(7:Int)∧(0:Int)≠(8:Int))∧lE' (bif aU s.3 (2*n+5+2*t+3*x.1+2) x.6 then aJ s.3 (2*n+5+2*t+3*x.1+2) (fG (HPS.p x).1 (HPS.p x).2 (HPS.p x).3 (HPS.p x).4 (HPS.p x).5 (HPS.p x).6 (HPS.p x).7 (HPS.p x).8 (HPS.p x).9 (aA x.6 0 12)).1 else s.3)∧lE' st.3) (.ret {d:=false,x:= {x with at':=0,p:= {now:=(HPS.p x).1,code:=(HPS.p x).2,okk:=(HPS.p x).3,val:=(HPS.p x).4,addr:=(HPS.p x).5,old:=(HPS.p x).6,nxt:=(HPS.p x).7,mark:=(HPS.p x).8,pops:=(HPS.p x).9},ex:=cS,en:=cF,fn:=cV,cl:=bW,pr:=gW},st:= {me:=st.1,sp:=st.2,R:=st.3},s:= {t:=s.1,n:=s.2,xs:=bif aU s.3 (2*n+5+2*t+3*x.1+2) x.6 then aJ s.3 (2*n+5+2*t+3*x.1+2) (fG (HPS.p x).1 (HPS.p x).2 (HPS.p x).3 (HPS.p x).4 (HPS.p x).5 (HPS.p x).6 (HPS.p x).7 (HPS.p x).8 (HPS.p x).9 (aA x.6 0 12)).1 else s.3,c:=s.4+1,k:=3,a:=2*n+5+2*t+3*x.1+2,o:=aB s.3 (2*n+5+2*t+3*x.1+2),w:=bif bN s.3 (2*n+5+2*t+3*x.1+2)then(fG (HPS.p x).1 (HPS.p x).2 (HPS.p x).3 (HPS.p x).4 (HPS.p x).5 (HPS.p x).6 (HPS.p x).7 (HPS.p x).8 (HPS.p x).9 (aA x.6 0 12)).1 else 0,ok:=aU s.3 (2*n+5+2*t+3*x.1+2) x.6} })))) (.pre ((t=t∧n=n)∧(false=false→(0:Int)≠(3:Int)∧(0:Int)≠(4:Int)∧(0:Int)≠(5:Int)∧(0:Int)≠(7:Int)∧(0:Int)≠(8:Int))∧lE' (bif aU s.3 (2*n+5+2*t+3*x.1+2) x.6 then aJ s.3 (2*n+5+2*t+3*x.1+2) (fG (HPS.p x).1 (HPS.p x).2 (HPS.p x).3 (HPS.p x).4 (HPS.p x).5 (HPS.p x).6 (HPS.p x).7 (HPS.p x).8 (HPS.p x).9 (aA x.6 0 12)).1 else s.3)∧lE' st.3) (.ret {d:=false,x:= {x with at':=0,p:= {now:=(HPS.p x).1,code:=(HPS.p x).2,okk:=(HPS.p x).3,val:=(HPS.p x).4,addr:=(HPS.p x).5,old:=(HPS.p x).6,nxt:=(HPS.p x).7,mark:=(HPS.p x).8,pops:=(HPS.p x).9},ex:=cS,en:=cF,fn:=cV,cl:=bW,pr:=gW},st:= {me:=st.1,sp:=st.2,R:=st.3},s:= {t:=s.1,n:=s.2,xs:=bif aU s.3 (2*n+5+2*t+3*x.1+2) x.6 then aJ s.3 (2*n+5+2*t+3*x.1+2) (fG (HPS.p x).1 (HPS.p x).2 (HPS.p x).3 (HPS.p x).4 (HPS.p x).5 (HPS.p x).6 (HPS.p x).7 (HPS.p x).8 (HPS.p x).9 (aA x.6 0 12)).1 else s.3,c:=s.4+1,k:=3,a:=2*n+5+2*t+3*x.1+2,o:=aB s.3 (2*n+5+2*t+3*x.1+2),w:=bif bN s.3 (2*n+5+2*t+3*x.1+2)then(fG (HPS.p x).1 (HPS.p x).2 (HPS.p x).3 (HPS.p x).4 (HPS.p x).5 (HPS.p x).6 (HPS.p x).7 (HPS.p x).8 (HPS.p x).9 (aA x.6 0 12)).1 else 0,ok:=aU s.3 (2*n+5+2*t+3*x.1+2) x.6} }))))))
theorem JZ(t n:Int)(x:HPS)(st:STS)(s:MS)(K:HpO→Prop)(h:(vW t n x st s).run K):cT' 52 [.ptr 0 0,.ptr 2 0] [some (.cells [.ptr 1 0,.int .i64 x.u,.int .u64 x.no,.int .i64 x.rounds,.int .i64 x.limit,.int .i64 9,.int .u64 x.found,.int .i64 x.sh,.int .i64 x.kd,.int .i64 x.ky,.bool x.p.now,.int .i64 x.p.code,.bool x.p.okk,.int .i64 x.p.val,.int .i64 x.p.addr,.int .u64 x.p.old,.int .i64 x.p.nxt,.bool x.p.mark,.int .i64 x.p.pops,.O,.O,.O,.O,.O]),stC 4 t n st,aZ 3 s,a9 s,mM st] (cX 4 0 [19,20,21,22,23] [(.cell 1 4,.ints (some .i64))] (w7 t n) K):=by
 exact cM' (E:=EH0) (by kernel_rfl) h
def z5(t n:Int)(x:HPS)(st:STS)(s:MS):Tr HpO:=
 bif ieq x.at' 0 then CC t n x st s else
 bif ieq x.at' 1 then vT t n x st s else
 bif ieq x.at' 2 then vU t n x st s else
 bif ieq x.at' 3 then qP t n x st s else
 bif ieq x.at' 4 then qQ t n x st s else
 bif ieq x.at' 5 then qR t n x st s else
 bif ieq x.at' 6 then vV t n x st s else
 bif ieq x.at' 7 then CD t n x st s else
 bif ieq x.at' 8 then qS t n x st s else
 bif ieq x.at' 9 then vW t n x st s else .pre False (.ret default)
def hpF(t n:Int)(x:HPS)(st:STS)(s:MS):HpO:=(z5 t n x st s).val
def JN(t n:Int)(x:HPS)(st:STS)(s:MS):Prop:=(z5 t n x st s).ok
theorem HQ(t n:Int)(x:HPS)(st:STS)(s:MS)(K:AVal→aD Ob→Prop)(h:(z5 t n x st s).run (fun y=>(HpO.fin t n y).run K)):cT' 52 [.ptr 0 0,.ptr 2 0] (HM t n x st s) K:=by
 unfold z5 at h
 by_cases e:x.at'=0
 ·rw [e]at h
  have h:(CC t n x st s).run _:=h
  refine aCv (root:=0) (pos:=[19,20,21,22,23]) (cs:=[(.cell 1 4,.ints (some .i64))]) (parse:=w7 t n) (fin:=HpO.fin t n) lE ((cB.unpack (.help t n x) 0 1 (lD t n x) [1] rfl (congrArg (Prod.mk 1) (kA ⟨(by omega),(by omega),(by omega),(by omega),(by omega)⟩)) (by kernel_rfl) rfl).trans (cB.unpack (.store t n st) 1 0 (iZ t n st) [] rfl rfl rfl rfl)) ?_
  have q:=JQ t n x st s _ h
  rw [←e]at q
  exact q
 rw [dB e]at h
 by_cases e:x.at'=1
 ·rw [e]at h
  have h:(vT t n x st s).run _:=h
  refine aCv (root:=0) (pos:=[19,20,21,22,23]) (cs:=[(.cell 1 4,.ints (some .i64))]) (parse:=w7 t n) (fin:=HpO.fin t n) lE ((cB.unpack (.help t n x) 0 1 (lD t n x) [1] rfl (congrArg (Prod.mk 1) (kA ⟨(by omega),(by omega),(by omega),(by omega),(by omega)⟩)) (by kernel_rfl) rfl).trans (cB.unpack (.store t n st) 1 0 (iZ t n st) [] rfl rfl rfl rfl)) ?_
  have q:=JR t n x st s _ h
  rw [←e]at q
  exact q
 rw [dB e]at h
 by_cases e:x.at'=2
 ·rw [e]at h
  have h:(vU t n x st s).run _:=h
  refine aCv (root:=0) (pos:=[19,20,21,22,23]) (cs:=[(.cell 1 4,.ints (some .i64))]) (parse:=w7 t n) (fin:=HpO.fin t n) lE ((cB.unpack (.help t n x) 0 1 (lD t n x) [1] rfl (congrArg (Prod.mk 1) (kA ⟨(by omega),(by omega),(by omega),(by omega),(by omega)⟩)) (by kernel_rfl) rfl).trans (cB.unpack (.store t n st) 1 0 (iZ t n st) [] rfl rfl rfl rfl)) ?_
  have q:=JS t n x st s _ h
  rw [←e]at q
  exact q
 rw [dB e]at h
 by_cases e:x.at'=3
 ·rw [e]at h
  have h:(qP t n x st s).run _:=h
  refine aCv (root:=0) (pos:=[19,20,21,22,23]) (cs:=[(.cell 1 4,.ints (some .i64))]) (parse:=w7 t n) (fin:=HpO.fin t n) lE ((cB.unpack (.help t n x) 0 1 (nK t n x) [1] rfl (congrArg (Prod.mk 1) (HF e)) (by kernel_rfl) rfl).trans (cB.unpack (.store t n st) 1 0 (iZ t n st) [] rfl rfl rfl rfl)) ?_
  have q:=JT t n x st s _ h
  rw [←e]at q
  exact q
 rw [dB e]at h
 by_cases e:x.at'=4
 ·rw [e]at h
  have h:(qQ t n x st s).run _:=h
  refine aCv (root:=0) (pos:=[19,20,21,22,23]) (cs:=[(.cell 1 4,.ints (some .i64))]) (parse:=w7 t n) (fin:=HpO.fin t n) lE ((cB.unpack (.help t n x) 0 1 (nJ t n x) [1] rfl (congrArg (Prod.mk 1) (HG e)) (by kernel_rfl) rfl).trans (cB.unpack (.store t n st) 1 0 (iZ t n st) [] rfl rfl rfl rfl)) ?_
  have q:=JU t n x st s _ h
  rw [←e]at q
  exact q
 rw [dB e]at h
 by_cases e:x.at'=5
 ·rw [e]at h
  have h:(qR t n x st s).run _:=h
  refine aCv (root:=0) (pos:=[19,20,21,22,23]) (cs:=[(.cell 1 4,.ints (some .i64))]) (parse:=w7 t n) (fin:=HpO.fin t n) lE ((cB.unpack (.help t n x) 0 1 (nL t n x) [1] rfl (congrArg (Prod.mk 1) (HH e)) (by kernel_rfl) rfl).trans (cB.unpack (.store t n st) 1 0 (iZ t n st) [] rfl rfl rfl rfl)) ?_
  have q:=JV t n x st s _ h
  rw [←e]at q
  exact q
 rw [dB e]at h
 by_cases e:x.at'=6
 ·rw [e]at h
  have h:(vV t n x st s).run _:=h
  refine aCv (root:=0) (pos:=[19,20,21,22,23]) (cs:=[(.cell 1 4,.ints (some .i64))]) (parse:=w7 t n) (fin:=HpO.fin t n) lE ((cB.unpack (.help t n x) 0 1 (lD t n x) [1] rfl (congrArg (Prod.mk 1) (kA ⟨(by omega),(by omega),(by omega),(by omega),(by omega)⟩)) (by kernel_rfl) rfl).trans (cB.unpack (.store t n st) 1 0 (iZ t n st) [] rfl rfl rfl rfl)) ?_
  have q:=JW t n x st s _ h
  rw [←e]at q
  exact q
 rw [dB e]at h
 by_cases e:x.at'=7
 ·rw [e]at h
  have h:(CD t n x st s).run _:=h
  refine aCv (root:=0) (pos:=[19,20,21,22,23]) (cs:=[(.cell 1 4,.ints (some .i64))]) (parse:=w7 t n) (fin:=HpO.fin t n) lE ((cB.unpack (.help t n x) 0 1 (nI t n x) [1] rfl (congrArg (Prod.mk 1) (HJ e)) (by kernel_rfl) rfl).trans (cB.unpack (.store t n st) 1 0 (iZ t n st) [] rfl rfl rfl rfl)) ?_
  have q:=JX t n x st s _ h
  rw [←e]at q
  exact q
 rw [dB e]at h
 by_cases e:x.at'=8
 ·rw [e]at h
  have h:(qS t n x st s).run _:=h
  refine aCv (root:=0) (pos:=[19,20,21,22,23]) (cs:=[(.cell 1 4,.ints (some .i64))]) (parse:=w7 t n) (fin:=HpO.fin t n) lE ((cB.unpack (.help t n x) 0 1 (nM t n x) [1] rfl (congrArg (Prod.mk 1) (HK e)) (by kernel_rfl) rfl).trans (cB.unpack (.store t n st) 1 0 (iZ t n st) [] rfl rfl rfl rfl)) ?_
  have q:=JY t n x st s _ h
  rw [←e]at q
  exact q
 rw [dB e]at h
 by_cases e:x.at'=9
 ·rw [e]at h
  have h:(vW t n x st s).run _:=h
  refine aCv (root:=0) (pos:=[19,20,21,22,23]) (cs:=[(.cell 1 4,.ints (some .i64))]) (parse:=w7 t n) (fin:=HpO.fin t n) lE ((cB.unpack (.help t n x) 0 1 (lD t n x) [1] rfl (congrArg (Prod.mk 1) (kA ⟨(by omega),(by omega),(by omega),(by omega),(by omega)⟩)) (by kernel_rfl) rfl).trans (cB.unpack (.store t n st) 1 0 (iZ t n st) [] rfl rfl rfl rfl)) ?_
  have q:=JZ t n x st s _ h
  rw [←e]at q
  exact q
 rw [dB e]at h
 exact h.1.elim
noncomputable def hpSA:aM Ob:=fun args h=>match args,h with
 | [.ptr 0 0,.ptr 2 0],[some (.abs (.help t n x) [1]),some (.abs (.store t2 n2 st) []),e3,e4]=>(match eI 3 [e3,e4]with
   | some (l,s)=>some (.pre ((l=s.xs.length∧t2=t∧n2=n)∧JN t n x st s) (HpO.fin t n (hpF t n x st s)))
   | none=>none)
 | _,_=>none
theorem XQ:sT' 52 hpSA:=by
 intro args h o ho K hK
 unfold hpSA at ho
 split at ho
 case h_2=>cases ho
 split at ho<;>cases ho
 rename_i hm
 obtain⟨⟨⟨hl,rfl,rfl⟩,ok⟩,hK⟩:=hK
 have hh:=b8 hm hl
 cases hh
 exact HQ _ _ _ _ _ K (aCF ok hK)
def HpO.finB(t n:Int)(y:HpO):Out Ob:=.ite y.d (.ret (.bool true) ([some (.cells [.ptr 1 0,.int .i64 y.x.u,.int .u64 y.x.no,.int .i64 y.x.rounds,.int .i64 y.x.limit,.int .i64 y.x.at',.int .u64 y.x.found,.int .i64 y.x.sh,.int .i64 y.x.kd,.int .i64 y.x.ky,.bool y.x.p.now,.int .i64 y.x.p.code,.bool y.x.p.okk,.int .i64 y.x.p.val,.int .i64 y.x.p.addr,.int .u64 y.x.p.old,.int .i64 y.x.p.nxt,.bool y.x.p.mark,.int .i64 y.x.p.pops,.O,.O,.O,.O,.O]),stC 5 t n y.st,none,aZ 4 y.s,a9 y.s,mM y.st])) (.ret (.bool false) [some (.abs (.help t n y.x) [1]),stC 5 t n y.st,none,aZ 4 y.s,a9 y.s,mM y.st])
noncomputable def hpSB:aM Ob:=fun args h=>match args,h with
 | [.ptr 0 0,.ptr 3 0],[some (.abs (.help t n x) [1]),e1,e2,e3,e4]=>(match uP 2 [e1,e2],eI 4 [e3,e4]with
   | some (l2,t2,n2,st),some (l,s)=>some (.pre ((l=s.xs.length∧l2=st.R.length∧t2=t∧n2=n)∧JN t n x st s) (HpO.finB t n (hpF t n x st s)))
   | _,_=>none)
 | _,_=>none
theorem XR:sT' 52 hpSB:=by
 intro args h o ho K hK
 unfold hpSB at ho
 split at ho
 case h_2=>cases ho
 split at ho<;>cases ho
 rename_i hs hm
 obtain⟨⟨⟨hl,hl2,rfl,rfl⟩,ok⟩,hK⟩:=hK
 have hh:=b8 hm hl
 cases hh
 have hh:=d8 hs hl2
 cases hh
 exact oV (fun ι hι=>by simp [aG.ren,aCD,AVal.ren,hι]) (fun ι hι=>by simp [aG.ren,hι]) (fun K hK=>HQ _ _ _ _ _ K (aCF ok hK)) K hK
noncomputable def hpS:aM Ob:=aM.or hpSA hpSB
theorem aAo:sT' 52 hpS:=aCN XQ XR
def XH(t n:Int)(v:AVal)(g:aD Ob):Option (Prop×(HPS×STS)):=match v,g with
 | .ptr 2 0,[e1,e2,some (.cells [.ptr 0 0,.int .i64 u,.int .u64 no,.int .i64 rounds,.int .i64 limit,.int .i64 at',.int .u64 found,.int .i64 sh,.int .i64 kd,.int .i64 ky,.bool p_now,.int .i64 p_code,.bool p_okk,.int .i64 p_val,.int .i64 p_addr,.int .u64 p_old,.int .i64 p_nxt,.bool p_mark,.int .i64 p_pops,.O,.O,.O,.O,.O])]=>(match uP 1 [e1,e2]with
   | some (l2,t2,n2,st)=>some ((t2=t∧n2=n∧l2=st.R.length)∧(at'≠3∧at'≠4∧at'≠5∧at'≠7∧at'≠8),⟨(⟨u,no,rounds,limit,at',found,sh,kd,ky,⟨p_now,p_code,p_okk,p_val,p_addr,p_old,p_nxt,p_mark,p_pops⟩,cS,cF,cV,⟨0,0,0,0⟩,⟨0,0,0,false⟩⟩:HPS),st⟩)
   | none=>none)
 | _,_=>none
abbrev R9(t n:Int)(y:(HPS×STS)):aD Ob:=[stC 1 t n y.2,mM y.2,some (.abs (.help t n y.1) [0])]
theorem SA{t n:Int} :dL (obI tbl) 2 (XH t n) (fun y=>.ret (.ptr 2 0) (R9 t n y)):=by
 intro v g p x hp hq K hK
 unfold XH at hp
 split at hp
 case h_2=>cases hp
 rename_i e1 e2 u no rounds limit at' found sh kd ky p_now p_code p_okk p_val p_addr p_old p_nxt p_mark p_pops
 split at hp
 case h_2=>cases hp
 rename_i l2 t2 n2 st hs
 simp only [sI',pI']at hp
 obtain⟨rfl,rfl⟩:=hp
 obtain⟨⟨rfl,rfl,hl2⟩,hat⟩:=hq
 have hh:=d8 hs hl2
 cases hh
 exact⟨⟨_,_,aS.pack (R9 t2 n2 ((⟨u,no,rounds,limit,at',found,sh,kd,ky,⟨p_now,p_code,p_okk,p_val,p_addr,p_old,p_nxt,p_mark,p_pops⟩,cS,cF,cV,⟨0,0,0,0⟩,⟨0,0,0,false⟩⟩:HPS),st)) (.help t2 n2 (⟨u,no,rounds,limit,at',found,sh,kd,ky,⟨p_now,p_code,p_okk,p_val,p_addr,p_old,p_nxt,p_mark,p_pops⟩,cS,cF,cV,⟨0,0,0,0⟩,⟨0,0,0,false⟩⟩:HPS)) 2 1 (lD t2 n2 (⟨u,no,rounds,limit,at',found,sh,kd,ky,⟨p_now,p_code,p_okk,p_val,p_addr,p_old,p_nxt,p_mark,p_pops⟩,cS,cF,cV,⟨0,0,0,0⟩,⟨0,0,0,false⟩⟩:HPS)) [0] (by kernel_rfl) rfl (congrArg (Prod.mk 1) (kA hat)) (by kernel_rfl),hK⟩⟩
def JM(t n:Int)(u no lim:Int)(st:STS):Tr (HPS×STS):=.pre ((t=t∧n=n∧lE' st.3)∧(0:Int)≠(3:Int)∧(0:Int)≠(4:Int)∧(0:Int)≠(5:Int)∧(0:Int)≠(7:Int)∧(0:Int)≠(8:Int)) (.ret ({u:=u,no:=no,rounds:=0,limit:=lim,at':=0,found:=0,sh:=0,kd:=0,ky:=0,p:=aBp,ex:=cS,en:=cF,fn:=cV,cl:=bW,pr:=gW},{me:=st.1,sp:=st.2,R:=st.3}))
def hpNF(t n:Int)(u no lim:Int)(st:STS):(HPS×STS):=(JM t n u no lim st).val
def tR(t n:Int)(u no lim:Int)(st:STS):Prop:=(JM t n u no lim st).ok
def hpNS:aM Ob:=fun args h=>match args,h with
 | [.ptr 0 0,.int .i64 u,.int .u64 no,.int .i64 lim],[e1,e2]=>(match uP 1 [e1,e2]with
   | some (l2,t,n,st)=>some (.pre (l2=st.R.length∧tR t n u no lim st) (.ret (.ptr 2 0) (R9 t n (hpNF t n u no lim st))))
   | none=>none)
 | _,_=>none
theorem FA:sT' 46 hpNS:=by
 intro args h o ho K hK
 unfold hpNS at ho
 split at ho
 case h_2=>cases ho
 rename_i u no lim e1 e2
 split at ho<;>cases ho
 rename_i l2 t n st hs
 obtain⟨⟨hl2,ok⟩,hK⟩:=hK
 have hh:=d8 hs hl2
 cases hh
 refine aCH (root:=2) (pos:=[19,20,21,22,23]) (cs:=[]) (parse:=XH t n) SA ?_
 exact cM' (E:=EH0) (q:=(JM t n u no lim st).run (fun y=>(Out.ret (.ptr 2 0) (R9 t n y)).run K)) (by kernel_rfl) (aCF ok hK)
noncomputable def EH:=((EH0.addS 52 hpS aAo).addS 46 hpNS FA)
structure DqO where
 d:Bool
 x:DOS
 st:STS
 s:MS
instance:Inhabited DqO:=⟨⟨false,Z3,⟨0,0,[]⟩,⟨0,0,[],0,0,0,0,0,false⟩⟩⟩
instance:Inhabited DOS:=⟨Z3⟩
abbrev dqH(t n:Int)(x:DOS)(st:STS)(s:MS):aD Ob:=[some (.abs (.doer t n x) [1]),some (.abs (.store t n st) []),aZ 3 s,a9 s]
abbrev dqD(t n:Int)(x:DOS)(st:STS)(s:MS):aD Ob:=[some (.cells [.ptr 1 0,.int .i64 x.code,.bool x.okk,.int .i64 x.val,.bool x.slow,.int .i64 x.sh,.int .i64 x.kd,.int .i64 x.ky,.int .i64 x.limit,.int .i64 x.at',.O,.O,.O,.O,.O,.O,.O,.O,.O]),some (.abs (.store t n st) []),aZ 3 s,a9 s]
def DqO.fin(t n:Int)(y:DqO):Out Ob:=.ite y.d (.ret (.bool true) (dqD t n y.x y.st y.s)) (.ret (.bool false) (dqH t n y.x y.st y.s))
def DqO.finB(t n:Int)(y:DqO):Out Ob:=.ite y.d (.ret (.bool true) ([some (.cells [.ptr 1 0,.int .i64 y.x.code,.bool y.x.okk,.int .i64 y.x.val,.bool y.x.slow,.int .i64 y.x.sh,.int .i64 y.x.kd,.int .i64 y.x.ky,.int .i64 y.x.limit,.int .i64 y.x.at',.O,.O,.O,.O,.O,.O,.O,.O,.O]),stC 5 t n y.st,none,aZ 4 y.s,a9 y.s,mM y.st])) (.ret (.bool false) [some (.abs (.doer t n y.x) [1]),stC 5 t n y.st,none,aZ 4 y.s,a9 y.s,mM y.st])
noncomputable def ED:=((EH))
def dA(t n:Int):Nat→HPS→STS→MS→Nat×Bool×HPS×STS×MS
 | 0,x,st,s=>(0,false,x,st,s)
 | f+1,x,st,s=>bif (hpF t n x st s).d then(1,true,(hpF t n x st s).x,(hpF t n x st s).st,(hpF t n x st s).s)else
   ((dA t n f (hpF t n x st s).x (hpF t n x st s).st (hpF t n x st s).s).1+1,(dA t n f (hpF t n x st s).x (hpF t n x st s).st (hpF t n x st s).s).2)
def mF(t n:Int):Nat→HPS→STS→MS→Prop
 | 0,_,_,_=>True
 | f+1,x,st,s=>JN t n x st s∧((hpF t n x st s).d =false→mF t n f (hpF t n x st s).x (hpF t n x st s).st (hpF t n x st s).s)
theorem SI(t n:Int)(x:HPS)(st:STS)(s:MS):dA t n 0 x st s=(0,false,x,st,s):=rfl
theorem z4(t n:Int)(f:Nat)(x:HPS)(st:STS)(s:MS):dA t n (f+1) x st s=bif (hpF t n x st s).d then(1,true,(hpF t n x st s).x,(hpF t n x st s).st,(hpF t n x st s).s)else((dA t n f (hpF t n x st s).x (hpF t n x st s).st (hpF t n x st s).s).1+1,(dA t n f (hpF t n x st s).x (hpF t n x st s).st (hpF t n x st s).s).2):=rfl
theorem JO(t n:Int)(f:Nat)(x:HPS)(st:STS)(s:MS):mF t n (f+1) x st s=(JN t n x st s∧((hpF t n x st s).d =false→mF t n f (hpF t n x st s).x (hpF t n x st s).st (hpF t n x st s).s)):=rfl
structure aAk (t n:Int) (N:Nat) (x0:HPS) (st0:STS) (s0:MS) (x:Nat×HPS×STS×MS):Prop where
 hk:x.1≤N
 ok:mF t n (N - x.1) x.2.1 x.2.2.1 x.2.2.2
 eq:dA t n N x0 st0 s0=((dA t n (N - x.1) x.2.1 x.2.2.1 x.2.2.2).1+x.1,(dA t n (N - x.1) x.2.1 x.2.2.1 x.2.2.2).2)
structure aAl (t n:Int) (N:Nat) (x0:HPS) (st0:STS) (s0:MS) (x:Nat×HPS×STS×MS):Prop where
 hk:x.1≤N
 eq:dA t n N x0 st0 s0=(x.1,true,x.2)
def vS(t n:Int)(N:Nat)(most:Int)(x0:HPS)(st0:STS)(s0:MS):Hint Ob:= {X:=Nat×HPS×STS×MS,st:=fun x=>([.ptr 0 0,.int .i64 most,.O,.O,.O,.O,.O,.O,.int .i64 (x.1:Int),.O,.iface 114 (.ptr 3 0),.bool false,.O,.int .i64 1,.int .i64 0]++List.replicate 16 .O,[aZ 1 x.2.2.2,a9 x.2.2.2,some (.cells [.iface 114 (.ptr 3 0)]),some (.abs (.help t n x.2.1) [4]),some (.abs (.store t n x.2.2.1) [])]),ok:=aAk t n N x0 st0 s0,mu:=fun x=>2*(N - x.1)+1,keep:=[0,1,8,10,11,13,14] }
def hpHb(t n:Int)(N:Nat)(most:Int)(x0:HPS)(st0:STS)(s0:MS):Hint Ob:= {X:=Nat×HPS×STS×MS,st:=fun x=>([.ptr 0 0,.int .i64 most,.O,.O,.O,.O,.O,.O,.int .i64 (x.1:Int),.O,.iface 114 (.ptr 3 0),.bool true,.O,.int .i64 1,.int .i64 0]++List.replicate 16 .O,[aZ 1 x.2.2.2,a9 x.2.2.2,some (.cells [.iface 114 (.ptr 3 0)]),some (.cells [.ptr 4 0,.int .i64 (x.2.1).u,.int .u64 (x.2.1).no,.int .i64 (x.2.1).rounds,.int .i64 (x.2.1).limit,.int .i64 (x.2.1).at',.int .u64 (x.2.1).found,.int .i64 (x.2.1).sh,.int .i64 (x.2.1).kd,.int .i64 (x.2.1).ky,.bool (x.2.1).p.now,.int .i64 (x.2.1).p.code,.bool (x.2.1).p.okk,.int .i64 (x.2.1).p.val,.int .i64 (x.2.1).p.addr,.int .u64 (x.2.1).p.old,.int .i64 (x.2.1).p.nxt,.bool (x.2.1).p.mark,.int .i64 (x.2.1).p.pops,.O,.O,.O,.O,.O]),some (.abs (.store t n x.2.2.1) [])]),ok:=aAl t n N x0 st0 s0,mu:=fun x=>2*(N - x.1),keep:=[0,1,8,10,11,13,14],sel:=fun tm _=>match tm.getD 11 .O with | .bool b=>b | _=>false}
def aBy(t n:Int)(N:Nat)(most:Int)(x0:HPS)(st0:STS)(s0:MS):FuncId→Nat→Option (qB Ob):=fun _ k=>if k=3 then some (.rounds 2)else some (.cases [hpHb t n N most x0 st0 s0,vS t n N most x0 st0 s0])
def HN(t n:Int)(N:Nat)(most:Int)(x0:HPS)(st0:STS)(s0:MS)(K:AVal→aD Ob→Prop):Prop:=((0:Int)≤(0:Int)∧(0:Int)<(↑1:Int))∧okSt (vS t n N most x0 st0 s0) (fun x=>Hint.ok (vS t n N most x0 st0 s0) x∧u7 none (Hint.mu (vS t n N most x0 st0 s0) x)) [.ptr 0 0,.int .i64 most,.O,.O,.O,.O,.O,.O,.int .i64 0,.O,.iface 114 (.ptr 3 0),.bool false,.O,.int .i64 (↑1:Int),.int .i64 0,.O,.O,.O,.O,.O,.O,.O,.O,.O,.O,.O,.O,.O,.O,.O,.O] [some (.cells [.int .i64 s0.1,.int .i64 s0.2,.slice 1 0 (List.length s0.3) 1,.int .i64 s0.4,.int .i64 s0.5,.int .i64 s0.6,.int .u64 s0.7,.int .u64 s0.8,.bool s0.9]),some (.ints (some .u64) s0.3),some (.cells [.iface 114 (.ptr 3 0)]),some (.abs (.help t n x0) [4]),some (.abs (.store t n st0) [])]∧(∀(x:(Nat×HPS×STS×MS)),aAl t n N x0 st0 s0 x→K (.tup [.int .i64 (↑x.1:Int),.bool true]) [some (.cells [.int .i64 (Prod.snd (Prod.snd x).2).1,.int .i64 (Prod.snd (Prod.snd x).2).2,.slice 1 0 (List.length (Prod.snd (Prod.snd x).2).3) 1,.int .i64 (Prod.snd (Prod.snd x).2).4,.int .i64 (Prod.snd (Prod.snd x).2).5,.int .i64 (Prod.snd (Prod.snd x).2).6,.int .u64 (Prod.snd (Prod.snd x).2).7,.int .u64 (Prod.snd (Prod.snd x).2).8,.bool (Prod.snd (Prod.snd x).2).9]),some (.ints (some .u64) (Prod.snd (Prod.snd x).2).3),some (.cells [.iface 114 (.ptr 3 0)]),some (.cells [.ptr 4 0,.int .i64 (Prod.fst x.2).1,.int .u64 (Prod.fst x.2).2,.int .i64 (Prod.fst x.2).3,.int .i64 (Prod.fst x.2).4,.int .i64 (Prod.fst x.2).5,.int .u64 (Prod.fst x.2).6,.int .i64 (Prod.fst x.2).7,.int .i64 (Prod.fst x.2).8,.int .i64 (Prod.fst x.2).9,.bool (HPS.p (Prod.snd x).1).1,.int .i64 (HPS.p (Prod.snd x).1).2,.bool (HPS.p (Prod.snd x).1).3,.int .i64 (HPS.p (Prod.snd x).1).4,.int .i64 (HPS.p (Prod.snd x).1).5,.int .u64 (HPS.p (Prod.snd x).1).6,.int .i64 (HPS.p (Prod.snd x).1).7,.bool (HPS.p (Prod.snd x).1).8,.int .i64 (HPS.p (Prod.snd x).1).9,.O,.O,.O,.O,.O]),some (.abs (.store t n (Prod.snd x.2).1) [])])∧(∀(x:(Nat×HPS×STS×MS)),aAk t n N x0 st0 s0 x→bif ile most (↑x.1:Int)then K (.tup [.int .i64 (↑x.1:Int),.bool false]) [some (.cells [.int .i64 (Prod.snd (Prod.snd x).2).1,.int .i64 (Prod.snd (Prod.snd x).2).2,.slice 1 0 (List.length (Prod.snd (Prod.snd x).2).3) 1,.int .i64 (Prod.snd (Prod.snd x).2).4,.int .i64 (Prod.snd (Prod.snd x).2).5,.int .i64 (Prod.snd (Prod.snd x).2).6,.int .u64 (Prod.snd (Prod.snd x).2).7,.int .u64 (Prod.snd (Prod.snd x).2).8,.bool (Prod.snd (Prod.snd x).2).9]),some (.ints (some .u64) (Prod.snd (Prod.snd x).2).3),some (.cells [.iface 114 (.ptr 3 0)]),some (.abs (.help t n (Prod.snd x).1) [4]),some (.abs (.store t n (Prod.snd x.2).1) [])]else((lE' (Prod.snd (Prod.snd x).2).3∧t=t∧n=n)∧JN t n (Prod.snd x).1 (Prod.snd x.2).1 (Prod.snd x).2.2)∧bif (hpF t n (Prod.snd x).1 (Prod.snd x.2).1 (Prod.snd x).2.2).1 then okSt (hpHb t n N most x0 st0 s0) (fun x_1=>Hint.ok (hpHb t n N most x0 st0 s0) x_1∧u7 (some (Hint.mu (vS t n N most x0 st0 s0) x)) (Hint.mu (hpHb t n N most x0 st0 s0) x_1)) [.ptr 0 0,.int .i64 most,.O,.O,.O,.O,.O,.O,.int .i64 (W ((↑x.1:Int)+1)),.O,.iface 114 (.ptr 3 0),.bool true,.O,.int .i64 1,.int .i64 0,.O,.O,.O,.O,.O,.O,.O,.O,.O,.O,.O,.O,.O,.O,.O,.O] [some (.cells [.int .i64 (HpO.s (hpF t n (Prod.snd x).1 (Prod.snd x.2).1 (Prod.snd x).2.2)).1,.int .i64 (HpO.s (hpF t n (Prod.snd x).1 (Prod.snd x.2).1 (Prod.snd x).2.2)).2,.slice 1 0 (List.length (HpO.s (hpF t n (Prod.snd x).1 (Prod.snd x.2).1 (Prod.snd x).2.2)).3) 1,.int .i64 (HpO.s (hpF t n (Prod.snd x).1 (Prod.snd x.2).1 (Prod.snd x).2.2)).4,.int .i64 (HpO.s (hpF t n (Prod.snd x).1 (Prod.snd x.2).1 (Prod.snd x).2.2)).5,.int .i64 (HpO.s (hpF t n (Prod.snd x).1 (Prod.snd x.2).1 (Prod.snd x).2.2)).6,.int .u64 (HpO.s (hpF t n (Prod.snd x).1 (Prod.snd x.2).1 (Prod.snd x).2.2)).7,.int .u64 (HpO.s (hpF t n (Prod.snd x).1 (Prod.snd x.2).1 (Prod.snd x).2.2)).8,.bool (HpO.s (hpF t n (Prod.snd x).1 (Prod.snd x.2).1 (Prod.snd x).2.2)).9]),some (.ints (some .u64) (HpO.s (hpF t n (Prod.snd x).1 (Prod.snd x.2).1 (Prod.snd x).2.2)).3),some (.cells [.iface 114 (.ptr 3 0)]),some (.cells [.ptr 4 0,.int .i64 (HpO.x (hpF t n (Prod.snd x).1 (Prod.snd x.2).1 (Prod.snd x).2.2)).1,.int .u64 (HpO.x (hpF t n (Prod.snd x).1 (Prod.snd x.2).1 (Prod.snd x).2.2)).2,.int .i64 (HpO.x (hpF t n (Prod.snd x).1 (Prod.snd x.2).1 (Prod.snd x).2.2)).3,.int .i64 (HpO.x (hpF t n (Prod.snd x).1 (Prod.snd x.2).1 (Prod.snd x).2.2)).4,.int .i64 (HpO.x (hpF t n (Prod.snd x).1 (Prod.snd x.2).1 (Prod.snd x).2.2)).5,.int .u64 (HpO.x (hpF t n (Prod.snd x).1 (Prod.snd x.2).1 (Prod.snd x).2.2)).6,.int .i64 (HpO.x (hpF t n (Prod.snd x).1 (Prod.snd x.2).1 (Prod.snd x).2.2)).7,.int .i64 (HpO.x (hpF t n (Prod.snd x).1 (Prod.snd x.2).1 (Prod.snd x).2.2)).8,.int .i64 (HpO.x (hpF t n (Prod.snd x).1 (Prod.snd x.2).1 (Prod.snd x).2.2)).9,.bool (HPS.p (hpF t n (Prod.snd x).1 (Prod.snd x.2).1 (Prod.snd x).2.2).2).1,.int .i64 (HPS.p (hpF t n (Prod.snd x).1 (Prod.snd x.2).1 (Prod.snd x).2.2).2).2,.bool (HPS.p (hpF t n (Prod.snd x).1 (Prod.snd x.2).1 (Prod.snd x).2.2).2).3,.int .i64 (HPS.p (hpF t n (Prod.snd x).1 (Prod.snd x.2).1 (Prod.snd x).2.2).2).4,.int .i64 (HPS.p (hpF t n (Prod.snd x).1 (Prod.snd x.2).1 (Prod.snd x).2.2).2).5,.int .u64 (HPS.p (hpF t n (Prod.snd x).1 (Prod.snd x.2).1 (Prod.snd x).2.2).2).6,.int .i64 (HPS.p (hpF t n (Prod.snd x).1 (Prod.snd x.2).1 (Prod.snd x).2.2).2).7,.bool (HPS.p (hpF t n (Prod.snd x).1 (Prod.snd x.2).1 (Prod.snd x).2.2).2).8,.int .i64 (HPS.p (hpF t n (Prod.snd x).1 (Prod.snd x.2).1 (Prod.snd x).2.2).2).9,.O,.O,.O,.O,.O]),some (.abs (.store t n (hpF t n (Prod.snd x).1 (Prod.snd x.2).1 (Prod.snd x).2.2).3) [])]else okSt (vS t n N most x0 st0 s0) (fun x_1=>Hint.ok (vS t n N most x0 st0 s0) x_1∧u7 (some (Hint.mu (vS t n N most x0 st0 s0) x)) (Hint.mu (vS t n N most x0 st0 s0) x_1)) [.ptr 0 0,.int .i64 most,.O,.O,.O,.O,.O,.O,.int .i64 (W ((↑x.1:Int)+1)),.O,.iface 114 (.ptr 3 0),.bool false,.O,.int .i64 1,.int .i64 0,.O,.O,.O,.O,.O,.O,.O,.O,.O,.O,.O,.O,.O,.O,.O,.O] [some (.cells [.int .i64 (HpO.s (hpF t n (Prod.snd x).1 (Prod.snd x.2).1 (Prod.snd x).2.2)).1,.int .i64 (HpO.s (hpF t n (Prod.snd x).1 (Prod.snd x.2).1 (Prod.snd x).2.2)).2,.slice 1 0 (List.length (HpO.s (hpF t n (Prod.snd x).1 (Prod.snd x.2).1 (Prod.snd x).2.2)).3) 1,.int .i64 (HpO.s (hpF t n (Prod.snd x).1 (Prod.snd x.2).1 (Prod.snd x).2.2)).4,.int .i64 (HpO.s (hpF t n (Prod.snd x).1 (Prod.snd x.2).1 (Prod.snd x).2.2)).5,.int .i64 (HpO.s (hpF t n (Prod.snd x).1 (Prod.snd x.2).1 (Prod.snd x).2.2)).6,.int .u64 (HpO.s (hpF t n (Prod.snd x).1 (Prod.snd x.2).1 (Prod.snd x).2.2)).7,.int .u64 (HpO.s (hpF t n (Prod.snd x).1 (Prod.snd x.2).1 (Prod.snd x).2.2)).8,.bool (HpO.s (hpF t n (Prod.snd x).1 (Prod.snd x.2).1 (Prod.snd x).2.2)).9]),some (.ints (some .u64) (HpO.s (hpF t n (Prod.snd x).1 (Prod.snd x.2).1 (Prod.snd x).2.2)).3),some (.cells [.iface 114 (.ptr 3 0)]),some (.abs (.help t n (hpF t n (Prod.snd x).1 (Prod.snd x.2).1 (Prod.snd x).2.2).2) [4]),some (.abs (.store t n (hpF t n (Prod.snd x).1 (Prod.snd x.2).1 (Prod.snd x).2.2).3) [])])∧True
theorem yF(t n:Int)(N:Nat)(most:Int)(x0:HPS)(st0:STS)(s0:MS)(K:AVal→aD Ob→Prop)(h:HN t n N most x0 st0 s0 K):cT' 20 [.ptr 0 0,.int .i64 most,.slice 2 0 1 1] [aZ 1 s0,a9 s0,some (.cells [.iface 114 (.ptr 3 0)]),some (.abs (.help t n x0) [4]),some (.abs (.store t n st0) [])] K:=by
 refine aCu (aE (E:=ED) Tryz.checked.mixed (L:=aBy t n N most x0 st0 s0) (n:=10) (aR (by kernel_rfl) h))
theorem UP(t n:Int)(N:Nat)(most:Int)(x0:HPS)(st0:STS)(s0:MS)(K:AVal→aD Ob→Prop)(hN:most=(N:Int))(hb:N≤1000000)(ok:mF t n N x0 st0 s0)
 (hK:(Out.ite (dA t n N x0 st0 s0).2.1 (.ret (.tup [.int .i64 ((dA t n N x0 st0 s0).1:Int),.bool true]) [aZ 1 (dA t n N x0 st0 s0).2.2.2.2,a9 (dA t n N x0 st0 s0).2.2.2.2,some (.cells [.iface 114 (.ptr 3 0)]),some (.cells [.ptr 4 0,.int .i64 (dA t n N x0 st0 s0).2.2.1.u,.int .u64 (dA t n N x0 st0 s0).2.2.1.no,.int .i64 (dA t n N x0 st0 s0).2.2.1.rounds,.int .i64 (dA t n N x0 st0 s0).2.2.1.limit,.int .i64 (dA t n N x0 st0 s0).2.2.1.at',.int .u64 (dA t n N x0 st0 s0).2.2.1.found,.int .i64 (dA t n N x0 st0 s0).2.2.1.sh,.int .i64 (dA t n N x0 st0 s0).2.2.1.kd,.int .i64 (dA t n N x0 st0 s0).2.2.1.ky,.bool (dA t n N x0 st0 s0).2.2.1.p.now,.int .i64 (dA t n N x0 st0 s0).2.2.1.p.code,.bool (dA t n N x0 st0 s0).2.2.1.p.okk,.int .i64 (dA t n N x0 st0 s0).2.2.1.p.val,.int .i64 (dA t n N x0 st0 s0).2.2.1.p.addr,.int .u64 (dA t n N x0 st0 s0).2.2.1.p.old,.int .i64 (dA t n N x0 st0 s0).2.2.1.p.nxt,.bool (dA t n N x0 st0 s0).2.2.1.p.mark,.int .i64 (dA t n N x0 st0 s0).2.2.1.p.pops,.O,.O,.O,.O,.O]),some (.abs (.store t n (dA t n N x0 st0 s0).2.2.2.1) [])]) (.ret (.tup [.int .i64 ((dA t n N x0 st0 s0).1:Int),.bool false]) [aZ 1 (dA t n N x0 st0 s0).2.2.2.2,a9 (dA t n N x0 st0 s0).2.2.2.2,some (.cells [.iface 114 (.ptr 3 0)]),some (.abs (.help t n (dA t n N x0 st0 s0).2.2.1) [4]),some (.abs (.store t n (dA t n N x0 st0 s0).2.2.2.1) [])])).run K):HN t n N most x0 st0 s0 K:=by
 unfold HN
 subst hN
 refine⟨by omega,aQ (H:=vS t n N N x0 st0 s0) (0,x0,st0,s0) rfl ⟨⟨Nat.zero_le _,ok,rfl⟩,trivial⟩,?_,?_,trivial⟩
 ·rintro⟨k,x,st,s⟩ ⟨hk,heq⟩
  rw [heq]at hK
  exact hK
 ·rintro⟨k,x,st,s⟩ ⟨hk,ok,heq⟩
  dsimp only at hk ok heq⊢
  refine aN (fun e=>?_) (fun e=>?_)
  ·rw [cE,dT']at e
   have hkN:k=N:=by omega
   subst hkN
   rw [Nat.sub_self]at heq
   rw [heq,SI,Nat.zero_add]at hK
   exact hK
  ·rw [cE,dF']at e
   have hkN:N - k=(N - (k+1))+1:=by omega
   rw [hkN]at ok heq
   rw [JO]at ok
   rw [z4]at heq
   have e4:W ((k:Int)+1)=((k+1:Nat):Int):=by rw [W,cG (by omega)];rfl
   refine⟨⟨⟨rfl,rfl,rfl⟩,ok.1⟩,aN (fun hd=>?_) (fun hd=>?_)⟩
   ·refine aQ (H:=hpHb t n N N x0 st0 s0) (k+1,(hpF t n x st s).x,(hpF t n x st s).st,(hpF t n x st s).s) (by simp only [e4]<;>rfl) ⟨⟨by show k+1≤N;omega,?_⟩,by show 2*(N - (k+1))<2*(N - k)+1;omega⟩
    have hd':(hpF t n x st s).d =true:=hd
    rw [heq,hd']
    simp only [cond_true]
    rw [Nat.add_comm]
   ·refine aQ (H:=vS t n N N x0 st0 s0) (k+1,(hpF t n x st s).x,(hpF t n x st s).st,(hpF t n x st s).s) (by simp only [e4]<;>rfl) ⟨⟨by show k+1≤N;omega,ok.2 hd,?_⟩,by show 2*(N - (k+1))+1<2*(N - k)+1;omega⟩
    have hd':(hpF t n x st s).d =false:=hd
    rw [heq,hd']
    simp only [cond_false]
    rw [Nat.add_assoc,Nat.add_comm 1 k]
instance:Inhabited MS:=⟨⟨0,0,[],0,0,0,0,0,false⟩⟩
instance:Inhabited STS:=⟨⟨0,0,[]⟩⟩
def cL(t n:Int)(f:Nat)(x:HPS)(st:STS)(s:MS):Nat×Bool×HPS×STS×MS:=dA t n f x st s
def tS(t n:Int)(f:Nat)(x:HPS)(st:STS)(s:MS):Prop:=mF t n f x st s
noncomputable def hpRunS:aM Ob:=fun args h=>match args,h with
 | [.ptr 0 0,.int .i64 most,.slice 2 0 1 1],[e1,e2,some (.cells [.iface 114 (.ptr 3 0)]),some (.abs (.help t n x) [4]),e5,e6]=>(match eI 1 [e1,e2],uP 5 [e5,e6]with
   | some (l,s),some (l2,t2,n2,st)=>some (.pre ((l=s.xs.length∧l2=st.R.length∧t2=t∧n2=n)∧(0≤most∧most≤1000000)∧tS t n most.toNat x st s) (.ite (cL t n most.toNat x st s).2.1 (.ret (.tup [.int .i64 ((cL t n most.toNat x st s).1:Int),.bool true]) [aZ 1 (cL t n most.toNat x st s).2.2.2.2,a9 (cL t n most.toNat x st s).2.2.2.2,some (.cells [.iface 114 (.ptr 3 0)]),some (.cells [.ptr 4 0,.int .i64 (cL t n most.toNat x st s).2.2.1.u,.int .u64 (cL t n most.toNat x st s).2.2.1.no,.int .i64 (cL t n most.toNat x st s).2.2.1.rounds,.int .i64 (cL t n most.toNat x st s).2.2.1.limit,.int .i64 (cL t n most.toNat x st s).2.2.1.at',.int .u64 (cL t n most.toNat x st s).2.2.1.found,.int .i64 (cL t n most.toNat x st s).2.2.1.sh,.int .i64 (cL t n most.toNat x st s).2.2.1.kd,.int .i64 (cL t n most.toNat x st s).2.2.1.ky,.bool (cL t n most.toNat x st s).2.2.1.p.now,.int .i64 (cL t n most.toNat x st s).2.2.1.p.code,.bool (cL t n most.toNat x st s).2.2.1.p.okk,.int .i64 (cL t n most.toNat x st s).2.2.1.p.val,.int .i64 (cL t n most.toNat x st s).2.2.1.p.addr,.int .u64 (cL t n most.toNat x st s).2.2.1.p.old,.int .i64 (cL t n most.toNat x st s).2.2.1.p.nxt,.bool (cL t n most.toNat x st s).2.2.1.p.mark,.int .i64 (cL t n most.toNat x st s).2.2.1.p.pops,.O,.O,.O,.O,.O]),stC 6 t n (cL t n most.toNat x st s).2.2.2.1,none,mM (cL t n most.toNat x st s).2.2.2.1]) (.ret (.tup [.int .i64 ((cL t n most.toNat x st s).1:Int),.bool false]) [aZ 1 (cL t n most.toNat x st s).2.2.2.2,a9 (cL t n most.toNat x st s).2.2.2.2,some (.cells [.iface 114 (.ptr 3 0)]),some (.abs (.help t n (cL t n most.toNat x st s).2.2.1) [4]),stC 6 t n (cL t n most.toNat x st s).2.2.2.1,none,mM (cL t n most.toNat x st s).2.2.2.1])))
   | _,_=>none)
 | _,_=>none
theorem NQ:sT' 20 hpRunS:=by
 intro args h o ho K hK
 unfold hpRunS at ho
 split at ho
 case h_2=>cases ho
 rename_i most e1 e2 t n x e5 e6
 split at ho<;>cases ho
 rename_i l s l2 t2 n2 st hm hs
 obtain⟨⟨⟨hl,hl2,rfl,rfl⟩,hb,ok⟩,hK⟩:=hK
 unfold tS at ok
 unfold cL at hK
 have hh:=b8 hm hl
 cases hh
 have hh:=d8 hs hl2
 cases hh
 refine aCX ?_
 refine aDi tbl [aZ 1 s,a9 s,some (.cells [.iface 114 (.ptr 3 0)]),some (.abs (.help t2 n2 x) [4]),some (.abs (.store t2 n2 st) [])] (.store t2 n2 st) 4 0 (iZ t2 n2 st) [] (by kernel_rfl) rfl rfl (by kernel_rfl) ?_
 refine yF t2 n2 most.toNat most x st s _ (UP t2 n2 most.toNat most x st s _ (by omega) (by omega) ok ?_)
 generalize dA t2 n2 most.toNat x st s=r at hK⊢
 obtain⟨c,b,y,sy,my⟩:=r
 cases b with
 | true=>exact⟨⟨_,_,aS.unpack (.store t2 n2 sy) 4 0 (iZ t2 n2 sy) [] rfl rfl rfl rfl,hK⟩⟩
 | false=>exact⟨⟨_,_,aS.unpack (.store t2 n2 sy) 4 0 (iZ t2 n2 sy) [] rfl rfl rfl rfl,hK⟩⟩
def dP(t n:Int):Nat→ANS→MS→Nat×Bool×ANS×MS
 | 0,x,s=>(0,false,x,s)
 | f+1,x,s=>bif (anF t n x s).d then(1,true,(anF t n x s).x,(anF t n x s).s)else
   ((dP t n f (anF t n x s).x (anF t n x s).s).1+1,(dP t n f (anF t n x s).x (anF t n x s).s).2)
def gG(t n:Int):Nat→ANS→MS→Prop
 | 0,_,_=>True
 | f+1,x,s=>LQ t n x s∧((anF t n x s).d =false→gG t n f (anF t n x s).x (anF t n x s).s)
theorem QK(t n:Int)(x:ANS)(s:MS):dP t n 0 x s=(0,false,x,s):=rfl
theorem oG(t n:Int)(f:Nat)(x:ANS)(s:MS):dP t n (f+1) x s=bif (anF t n x s).d then(1,true,(anF t n x s).x,(anF t n x s).s)else((dP t n f (anF t n x s).x (anF t n x s).s).1+1,(dP t n f (anF t n x s).x (anF t n x s).s).2):=rfl
theorem jN(t n:Int)(f:Nat)(x:ANS)(s:MS):gG t n (f+1) x s=(LQ t n x s∧((anF t n x s).d =false→gG t n f (anF t n x s).x (anF t n x s).s)):=rfl
structure ZS (t n:Int) (N:Nat) (x0:ANS) (s0:MS) (x:Nat×ANS×MS):Prop where
 hk:x.1≤N
 ok:gG t n (N - x.1) x.2.1 x.2.2
 eq:dP t n N x0 s0=((dP t n (N - x.1) x.2.1 x.2.2).1+x.1,(dP t n (N - x.1) x.2.1 x.2.2).2)
structure ZT (t n:Int) (N:Nat) (x0:ANS) (s0:MS) (x:Nat×ANS×MS):Prop where
 hk:x.1≤N
 eq:dP t n N x0 s0=(x.1,true,x.2)
def uZ(t n:Int)(N:Nat)(most:Int)(x0:ANS)(s0:MS):Hint Ob:= {X:=Nat×ANS×MS,st:=fun x=>([.ptr 0 0,.int .i64 most,.O,.O,.O,.O,.O,.O,.int .i64 (x.1:Int),.O,.iface 132 (.ptr 3 0),.bool false,.O,.int .i64 1,.int .i64 0]++List.replicate 16 .O,[aZ 1 x.2.2,a9 x.2.2,some (.cells [.iface 132 (.ptr 3 0)]),some (.abs (.announce t n x.2.1) [])]),ok:=ZS t n N x0 s0,mu:=fun x=>2*(N - x.1)+1,keep:=[0,1,8,10,11,13,14] }
def anHb(t n:Int)(N:Nat)(most:Int)(x0:ANS)(s0:MS):Hint Ob:= {X:=Nat×ANS×MS,st:=fun x=>([.ptr 0 0,.int .i64 most,.O,.O,.O,.O,.O,.O,.int .i64 (x.1:Int),.O,.iface 132 (.ptr 3 0),.bool true,.O,.int .i64 1,.int .i64 0]++List.replicate 16 .O,[aZ 1 x.2.2,a9 x.2.2,some (.cells [.iface 132 (.ptr 3 0)]),some (.cells [.int .i64 t,.int .i64 n,.int .u64 (x.2.1).no,.int .i64 (x.2.1).me,.int .i64 (x.2.1).at',.int .u64 (x.2.1).bits,.bool (x.2.1).wrong,.int .u64 (x.2.1).found])]),ok:=ZT t n N x0 s0,mu:=fun x=>2*(N - x.1),keep:=[0,1,8,10,11,13,14],sel:=fun tm _=>match tm.getD 11 .O with | .bool b=>b | _=>false}
def aBe(t n:Int)(N:Nat)(most:Int)(x0:ANS)(s0:MS):FuncId→Nat→Option (qB Ob):=fun _ k=>if k=3 then some (.rounds 2)else some (.cases [anHb t n N most x0 s0,uZ t n N most x0 s0])
def GW(t n:Int)(N:Nat)(most:Int)(x0:ANS)(s0:MS)(K:AVal→aD Ob→Prop):Prop:=((0:Int)≤(0:Int)∧(0:Int)<(↑1:Int))∧okSt (uZ t n N most x0 s0) (fun x=>Hint.ok (uZ t n N most x0 s0) x∧u7 none (Hint.mu (uZ t n N most x0 s0) x)) [.ptr 0 0,.int .i64 most,.O,.O,.O,.O,.O,.O,.int .i64 0,.O,.iface 132 (.ptr 3 0),.bool false,.O,.int .i64 (↑1:Int),.int .i64 0,.O,.O,.O,.O,.O,.O,.O,.O,.O,.O,.O,.O,.O,.O,.O,.O] [some (.cells [.int .i64 s0.1,.int .i64 s0.2,.slice 1 0 (List.length s0.3) 1,.int .i64 s0.4,.int .i64 s0.5,.int .i64 s0.6,.int .u64 s0.7,.int .u64 s0.8,.bool s0.9]),some (.ints (some .u64) s0.3),some (.cells [.iface 132 (.ptr 3 0)]),some (.abs (.announce t n x0) [])]∧(∀(x:(Nat×ANS×MS)),ZT t n N x0 s0 x→K (.tup [.int .i64 (↑x.1:Int),.bool true]) [some (.cells [.int .i64 (Prod.snd x.2).1,.int .i64 (Prod.snd x.2).2,.slice 1 0 (List.length (Prod.snd x.2).3) 1,.int .i64 (Prod.snd x.2).4,.int .i64 (Prod.snd x.2).5,.int .i64 (Prod.snd x.2).6,.int .u64 (Prod.snd x.2).7,.int .u64 (Prod.snd x.2).8,.bool (Prod.snd x.2).9]),some (.ints (some .u64) (Prod.snd x.2).3),some (.cells [.iface 132 (.ptr 3 0)]),some (.cells [.int .i64 t,.int .i64 n,.int .u64 (Prod.fst x.2).1,.int .i64 (Prod.fst x.2).2,.int .i64 (Prod.fst x.2).3,.int .u64 (Prod.fst x.2).4,.bool (Prod.fst x.2).5,.int .u64 (Prod.fst x.2).6])])∧(∀(x:(Nat×ANS×MS)),ZS t n N x0 s0 x→bif ile most (↑x.1:Int)then K (.tup [.int .i64 (↑x.1:Int),.bool false]) [some (.cells [.int .i64 (Prod.snd x.2).1,.int .i64 (Prod.snd x.2).2,.slice 1 0 (List.length (Prod.snd x.2).3) 1,.int .i64 (Prod.snd x.2).4,.int .i64 (Prod.snd x.2).5,.int .i64 (Prod.snd x.2).6,.int .u64 (Prod.snd x.2).7,.int .u64 (Prod.snd x.2).8,.bool (Prod.snd x.2).9]),some (.ints (some .u64) (Prod.snd x.2).3),some (.cells [.iface 132 (.ptr 3 0)]),some (.abs (.announce t n (Prod.snd x).1) [])]else(lE' (Prod.snd x.2).3∧LQ t n (Prod.snd x).1 x.2.2)∧bif (anF t n (Prod.snd x).1 x.2.2).1 then okSt (anHb t n N most x0 s0) (fun x_1=>Hint.ok (anHb t n N most x0 s0) x_1∧u7 (some (Hint.mu (uZ t n N most x0 s0) x)) (Hint.mu (anHb t n N most x0 s0) x_1)) [.ptr 0 0,.int .i64 most,.O,.O,.O,.O,.O,.O,.int .i64 (W ((↑x.1:Int)+1)),.O,.iface 132 (.ptr 3 0),.bool true,.O,.int .i64 1,.int .i64 0,.O,.O,.O,.O,.O,.O,.O,.O,.O,.O,.O,.O,.O,.O,.O,.O] [some (.cells [.int .i64 (AnO.s (anF t n (Prod.snd x).1 x.2.2)).1,.int .i64 (AnO.s (anF t n (Prod.snd x).1 x.2.2)).2,.slice 1 0 (List.length (AnO.s (anF t n (Prod.snd x).1 x.2.2)).3) 1,.int .i64 (AnO.s (anF t n (Prod.snd x).1 x.2.2)).4,.int .i64 (AnO.s (anF t n (Prod.snd x).1 x.2.2)).5,.int .i64 (AnO.s (anF t n (Prod.snd x).1 x.2.2)).6,.int .u64 (AnO.s (anF t n (Prod.snd x).1 x.2.2)).7,.int .u64 (AnO.s (anF t n (Prod.snd x).1 x.2.2)).8,.bool (AnO.s (anF t n (Prod.snd x).1 x.2.2)).9]),some (.ints (some .u64) (AnO.s (anF t n (Prod.snd x).1 x.2.2)).3),some (.cells [.iface 132 (.ptr 3 0)]),some (.cells [.int .i64 t,.int .i64 n,.int .u64 (AnO.x (anF t n (Prod.snd x).1 x.2.2)).1,.int .i64 (AnO.x (anF t n (Prod.snd x).1 x.2.2)).2,.int .i64 (AnO.x (anF t n (Prod.snd x).1 x.2.2)).3,.int .u64 (AnO.x (anF t n (Prod.snd x).1 x.2.2)).4,.bool (AnO.x (anF t n (Prod.snd x).1 x.2.2)).5,.int .u64 (AnO.x (anF t n (Prod.snd x).1 x.2.2)).6])]else okSt (uZ t n N most x0 s0) (fun x_1=>Hint.ok (uZ t n N most x0 s0) x_1∧u7 (some (Hint.mu (uZ t n N most x0 s0) x)) (Hint.mu (uZ t n N most x0 s0) x_1)) [.ptr 0 0,.int .i64 most,.O,.O,.O,.O,.O,.O,.int .i64 (W ((↑x.1:Int)+1)),.O,.iface 132 (.ptr 3 0),.bool false,.O,.int .i64 1,.int .i64 0,.O,.O,.O,.O,.O,.O,.O,.O,.O,.O,.O,.O,.O,.O,.O,.O] [some (.cells [.int .i64 (AnO.s (anF t n (Prod.snd x).1 x.2.2)).1,.int .i64 (AnO.s (anF t n (Prod.snd x).1 x.2.2)).2,.slice 1 0 (List.length (AnO.s (anF t n (Prod.snd x).1 x.2.2)).3) 1,.int .i64 (AnO.s (anF t n (Prod.snd x).1 x.2.2)).4,.int .i64 (AnO.s (anF t n (Prod.snd x).1 x.2.2)).5,.int .i64 (AnO.s (anF t n (Prod.snd x).1 x.2.2)).6,.int .u64 (AnO.s (anF t n (Prod.snd x).1 x.2.2)).7,.int .u64 (AnO.s (anF t n (Prod.snd x).1 x.2.2)).8,.bool (AnO.s (anF t n (Prod.snd x).1 x.2.2)).9]),some (.ints (some .u64) (AnO.s (anF t n (Prod.snd x).1 x.2.2)).3),some (.cells [.iface 132 (.ptr 3 0)]),some (.abs (.announce t n (anF t n (Prod.snd x).1 x.2.2).2) [])])∧True
theorem IM(t n:Int)(N:Nat)(most:Int)(x0:ANS)(s0:MS)(K:AVal→aD Ob→Prop)(h:GW t n N most x0 s0 K):cT' 20 [.ptr 0 0,.int .i64 most,.slice 2 0 1 1] [aZ 1 s0,a9 s0,some (.cells [.iface 132 (.ptr 3 0)]),some (.abs (.announce t n x0) [])] K:=by
 refine aCu (aE (E:=ED) Tryz.checked.mixed (L:=aBe t n N most x0 s0) (n:=10) (aR (by kernel_rfl) h))
theorem ZV(t n:Int)(N:Nat)(most:Int)(x0:ANS)(s0:MS)(K:AVal→aD Ob→Prop)(hN:most=(N:Int))(hb:N≤1000000)(ok:gG t n N x0 s0)
 (hK:(Out.ite (dP t n N x0 s0).2.1 (.ret (.tup [.int .i64 ((dP t n N x0 s0).1:Int),.bool true]) [aZ 1 (dP t n N x0 s0).2.2.2,a9 (dP t n N x0 s0).2.2.2,some (.cells [.iface 132 (.ptr 3 0)]),some (.cells [.int .i64 t,.int .i64 n,.int .u64 (dP t n N x0 s0).2.2.1.no,.int .i64 (dP t n N x0 s0).2.2.1.me,.int .i64 (dP t n N x0 s0).2.2.1.at',.int .u64 (dP t n N x0 s0).2.2.1.bits,.bool (dP t n N x0 s0).2.2.1.wrong,.int .u64 (dP t n N x0 s0).2.2.1.found])]) (.ret (.tup [.int .i64 ((dP t n N x0 s0).1:Int),.bool false]) [aZ 1 (dP t n N x0 s0).2.2.2,a9 (dP t n N x0 s0).2.2.2,some (.cells [.iface 132 (.ptr 3 0)]),some (.abs (.announce t n (dP t n N x0 s0).2.2.1) [])])).run K):GW t n N most x0 s0 K:=by
 unfold GW
 subst hN
 refine⟨by omega,aQ (H:=uZ t n N N x0 s0) (0,x0,s0) rfl ⟨⟨Nat.zero_le _,ok,rfl⟩,trivial⟩,?_,?_,trivial⟩
 ·rintro⟨k,x,s⟩ ⟨hk,heq⟩
  rw [heq]at hK
  exact hK
 ·rintro⟨k,x,s⟩ ⟨hk,ok,heq⟩
  dsimp only at hk ok heq⊢
  refine aN (fun e=>?_) (fun e=>?_)
  ·rw [cE,dT']at e
   have hkN:k=N:=by omega
   subst hkN
   rw [Nat.sub_self]at heq
   rw [heq,QK,Nat.zero_add]at hK
   exact hK
  ·rw [cE,dF']at e
   have hkN:N - k=(N - (k+1))+1:=by omega
   rw [hkN]at ok heq
   rw [jN]at ok
   rw [oG]at heq
   have e4:W ((k:Int)+1)=((k+1:Nat):Int):=by rw [W,cG (by omega)];rfl
   refine⟨⟨rfl,ok.1⟩,aN (fun hd=>?_) (fun hd=>?_)⟩
   ·refine aQ (H:=anHb t n N N x0 s0) (k+1,(anF t n x s).x,(anF t n x s).s) (by simp only [e4]<;>rfl) ⟨⟨by show k+1≤N;omega,?_⟩,by show 2*(N - (k+1))<2*(N - k)+1;omega⟩
    have hd':(anF t n x s).d =true:=hd
    rw [heq,hd']
    simp only [cond_true]
    rw [Nat.add_comm]
   ·refine aQ (H:=uZ t n N N x0 s0) (k+1,(anF t n x s).x,(anF t n x s).s) (by simp only [e4]<;>rfl) ⟨⟨by show k+1≤N;omega,ok.2 hd,?_⟩,by show 2*(N - (k+1))+1<2*(N - k)+1;omega⟩
    have hd':(anF t n x s).d =false:=hd
    rw [heq,hd']
    simp only [cond_false]
    rw [Nat.add_assoc,Nat.add_comm 1 k]
def cY(t n:Int)(f:Nat)(x:ANS)(s:MS):Nat×Bool×ANS×MS:=dP t n f x s
def A6(t n:Int)(f:Nat)(x:ANS)(s:MS):Prop:=gG t n f x s
noncomputable def anRunS:aM Ob:=fun args h=>match args,h with
 | [.ptr 0 0,.int .i64 most,.slice 2 0 1 1],[e1,e2,some (.cells [.iface 132 (.ptr 3 0)]),some (.abs (.announce t n x) [])]=>(match eI 1 [e1,e2]with
   | some (l,s)=>some (.pre ((l=s.xs.length)∧(0≤most∧most≤1000000)∧A6 t n most.toNat x s) (.ite (cY t n most.toNat x s).2.1 (.ret (.tup [.int .i64 ((cY t n most.toNat x s).1:Int),.bool true]) [aZ 1 (cY t n most.toNat x s).2.2.2,a9 (cY t n most.toNat x s).2.2.2,some (.cells [.iface 132 (.ptr 3 0)]),some (.cells [.int .i64 t,.int .i64 n,.int .u64 (cY t n most.toNat x s).2.2.1.no,.int .i64 (cY t n most.toNat x s).2.2.1.me,.int .i64 (cY t n most.toNat x s).2.2.1.at',.int .u64 (cY t n most.toNat x s).2.2.1.bits,.bool (cY t n most.toNat x s).2.2.1.wrong,.int .u64 (cY t n most.toNat x s).2.2.1.found])]) (.ret (.tup [.int .i64 ((cY t n most.toNat x s).1:Int),.bool false]) [aZ 1 (cY t n most.toNat x s).2.2.2,a9 (cY t n most.toNat x s).2.2.2,some (.cells [.iface 132 (.ptr 3 0)]),some (.abs (.announce t n (cY t n most.toNat x s).2.2.1) [])])))
   | _=>none)
 | _,_=>none
theorem A7:sT' 20 anRunS:=by
 intro args h o ho K hK
 unfold anRunS at ho
 split at ho
 case h_2=>cases ho
 rename_i most e1 e2 t n x
 split at ho<;>cases ho
 rename_i l s hm
 obtain⟨⟨hl,hb,ok⟩,hK⟩:=hK
 unfold A6 at ok
 unfold cY at hK
 have hh:=b8 hm hl
 cases hh
 exact IM t n most.toNat most x s _ (ZV t n most.toNat most x s _ (by omega) (by omega) ok hK)
noncomputable def runS:aM Ob:=aM.or hpRunS anRunS
theorem Y0:sT' 20 runS:=aCN NQ A7
noncomputable def ERun:=ED.addS 20 runS Y0
noncomputable def EZ:=(ERun)
def dY(sh h k:Int):Bool:=bif ieq sh 2 then !ieq (Int.tmod k 4) h else ilt 0 h
def fJ(sh h n:Int):List Int→Int→Int→Int→Int→MS→MS
 | [],i,a,ky,vr,s=>s.stored a (aV ky 0 false 0 vr)
 | k::ks,i,a,ky,vr,s=>bif dY sh h k then fJ sh h n ks (i+1) a ky vr s else fJ sh h n ks (i+1) (i+1) k 3 ((s.stored a (aV ky (i+1) false 0 vr)).stored (n+4+(i+1)) 1)
def f9(sh n:Int)(xs:List Int):Nat→Int→MS→MS
 | 0,h,s=>s
 | f+1,h,s=>f9 sh n xs f (h+1) (fJ sh h n xs 0 (n+1+h) 0 0 s)
def memN(t n:Int):MS:= {t:=t,n:=n,xs:=List.replicate (2*n+5*t+6).toNat 0,c:=0,k:=0,a:=0,o:=0,w:=0,ok:=false}
structure oL (sh t n:Int) (xs:List Int) (x:Nat×MS):Prop where
 h4:x.1≤4
 c:0≤x.2.c∧x.2.c≤1000*x.1
 eq:f9 sh n xs 4 0 (memN t n)=f9 sh n xs (4 - x.1) x.1 x.2
structure uF (sh t n:Int) (xs:List Int) (h:Int) (x:Nat×Int×Int×Int×MS):Prop where
 h4:0≤h∧h<4
 hi:x.1≤xs.length
 ky:0≤x.2.2.1∧x.2.2.1<1024
 vr:0≤x.2.2.2.1∧x.2.2.2.1<262144
 c:0≤x.2.2.2.2.c∧x.2.2.2.2.c≤1000*h+3*x.1
 eq:f9 sh n xs 4 0 (memN t n)=f9 sh n xs (3 - h).toNat (h+1) (fJ sh h n (xs.drop x.1) x.1 x.2.1 x.2.2.1 x.2.2.2.1 x.2.2.2.2)
def LA(sh t m:Int)(xs:List Int):Hint Ob:= {X:=Nat×MS,st:=fun x=>([.int .i64 sh,.O,.O,.slice 0 0 xs.length 1,.O,.O,.O,.O,.O,.ptr 1 0,.ptr 2 0,.ptr 3 0,.O,.int .i64 (x.1:Int)]++List.replicate 79 .O,[some (.ints (some .i64) xs),some (.cells [.int .i64 0,.int .i64 0]),some (.cells [.int .i64 t,.int .i64 (IntKind.wrap .i64 ((xs.length:Int)+m))]),aZ 4 x.2,a9 x.2]),ok:=oL sh t (IntKind.wrap .i64 ((xs.length:Int)+m)) xs,mu:=fun x=>4 - x.1,keep:=[0,3,9,10,11,13] }
def HFi(sh t m:Int)(xs:List Int)(h:Int):Hint Ob:= {X:=Nat×Int×Int×Int×MS,st:=fun x=>([.int .i64 sh,.O,.O,.slice 0 0 xs.length 1,.O,.O,.O,.O,.O,.ptr 1 0,.ptr 2 0,.ptr 3 0,.O,.int .i64 h,.int .i64 x.2.1,.ptr 5 0]++List.replicate 28 .O ++ [.slice 0 0 xs.length 1,.int .i64 (xs.length:Int),.int .i64 (x.1:Int)]++List.replicate 46 .O,[some (.ints (some .i64) xs),some (.cells [.int .i64 0,.int .i64 0]),some (.cells [.int .i64 t,.int .i64 (IntKind.wrap .i64 ((xs.length:Int)+m))]),aZ 4 x.2.2.2.2,a9 x.2.2.2.2,some (.cells [.int .i64 x.2.2.1,.int .i64 0,.bool false,.int .i64 0,.int .i64 x.2.2.2.1])]),ok:=uF sh t (IntKind.wrap .i64 ((xs.length:Int)+m)) xs h,mu:=fun x=>xs.length - x.1,keep:=[0,3,9,10,11,13,14,15,44,45,46] }
def WS(sh t m:Int)(xs:List Int):FuncId→Nat→Option (qB Ob):=fun _ k=>if k=6 then some (.states (LA sh t m xs))else if k=10 then some (.statesAt 13 (HFi sh t m xs))else some (.rounds 12)
def zX(sh t m:Int)(xs:List Int)(K:AVal→aD Ob→Prop):Prop:=True∧bif !gM t (W ((↑(List.length xs):Int)+m))then K (.tup [.raw (Value.pointer none),.agg [.int .i64 t,.int .i64 (W ((↑(List.length xs):Int)+m))]]) [some (.ints (some .i64) xs)]else(((0:Int)≤t∧t≤(100000:Int))∧(0:Int)≤W ((↑(List.length xs):Int)+m)∧W ((↑(List.length xs):Int)+m)≤(100000:Int))∧bif ilt (2*W ((↑(List.length xs):Int)+m)+5*t+6) (↑0:Int)then K (.tup [.raw (Value.pointer none),.agg [.int .i64 t,.int .i64 (W ((↑(List.length xs):Int)+m))]]) [some (.ints (some .i64) xs)]else((((0:Int)≤t∧t≤(100000:Int))∧(0:Int)≤W ((↑(List.length xs):Int)+m)∧W ((↑(List.length xs):Int)+m)≤(100000:Int))∧True)∧((0:Int)≤(2:Int)*W ((↑(List.length xs):Int)+m)+5*t+6∧2*W ((↑(List.length xs):Int)+m)+5*t+(6:Int)=(2:Int)*W ((↑(List.length xs):Int)+m)+5*t+6∧2*W ((↑(List.length xs):Int)+m)+5*t+(6:Int)≤(4294967296:Int))∧okSt (LA sh t m xs) (Hint.ok (LA sh t m xs)) [.int .i64 sh,.O,.O,.slice 0 0 (List.length xs) 1,.O,.O,.O,.O,.O,.ptr 1 0,.ptr 2 0,.ptr 3 0,.O,.int .i64 0,.O,.O,.O,.O,.O,.O,.O,.O,.O,.O,.O,.O,.O,.O,.O,.O,.O,.O,.O,.O,.O,.O,.O,.O,.O,.O,.O,.O,.O,.O,.O,.O,.O,.O,.O,.O,.O,.O,.O,.O,.O,.O,.O,.O,.O,.O,.O,.O,.O,.O,.O,.O,.O,.O,.O,.O,.O,.O,.O,.O,.O,.O,.O,.O,.O,.O,.O,.O,.O,.O,.O,.O,.O,.O,.O,.O,.O,.O,.O] [some (.ints (some .i64) xs),some (.cells [.int .i64 0,.int .i64 0]),some (.cells [.int .i64 t,.int .i64 (W ((↑(List.length xs):Int)+m))]),some (.cells [.int .i64 t,.int .i64 (W ((↑(List.length xs):Int)+m)),.slice 4 0 (Int.toNat (2*W ((↑(List.length xs):Int)+m)+5*t+6)) 1,.int .i64 0,.int .i64 0,.int .i64 0,.int .u64 0,.int .u64 0,.bool false]),some (.ints (some .u64) (List.replicate (Int.toNat (2*W ((↑(List.length xs):Int)+m)+5*t+6)) 0))]∧ ∀(x:(Nat×MS)),oL sh t (W ((↑(List.length xs):Int)+m)) xs x→bif ilt (↑x.1:Int) 4 then(((0:Int)≤W ((↑(List.length xs):Int)+m)∧W ((↑(List.length xs):Int)+m)≤(100000:Int))∧(-1000000:Int)≤(↑x.1:Int)∧(↑x.1:Int)≤(1000000:Int))∧okSt (HFi sh t m xs (↑(Prod.fst x):Int)) (Hint.ok (HFi sh t m xs (↑(Prod.fst x):Int))) [.int .i64 sh,.O,.O,.slice 0 0 (List.length xs) 1,.O,.O,.O,.O,.O,.ptr 1 0,.ptr 2 0,.ptr 3 0,.O,.int .i64 (↑x.1:Int),.int .i64 (W ((↑(List.length xs):Int)+m)+1+(↑x.1:Int)),.ptr 5 0,.O,.O,.O,.O,.O,.O,.O,.O,.O,.O,.O,.O,.O,.O,.O,.O,.O,.O,.O,.O,.O,.O,.O,.O,.O,.O,.O,.O,.slice 0 0 (List.length xs) 1,.int .i64 (↑(List.length xs):Int),.int .i64 0,.O,.O,.O,.O,.O,.O,.O,.O,.O,.O,.O,.O,.O,.O,.O,.O,.O,.O,.O,.O,.O,.O,.O,.O,.O,.O,.O,.O,.O,.O,.O,.O,.O,.O,.O,.O,.O,.O,.O,.O,.O,.O,.O,.O,.O,.O] [some (.ints (some .i64) xs),some (.cells [.int .i64 0,.int .i64 0]),some (.cells [.int .i64 t,.int .i64 (W ((↑(List.length xs):Int)+m))]),some (.cells [.int .i64 (Prod.snd x).1,.int .i64 (Prod.snd x).2,.slice 4 0 (List.length (Prod.snd x).3) 1,.int .i64 (Prod.snd x).4,.int .i64 (Prod.snd x).5,.int .i64 (Prod.snd x).6,.int .u64 (Prod.snd x).7,.int .u64 (Prod.snd x).8,.bool (Prod.snd x).9]),some (.ints (some .u64) (Prod.snd x).3),some (.cells [.int .i64 0,.int .i64 0,.bool false,.int .i64 0,.int .i64 0])]∧ ∀(x_1:Hint.X (HFi sh t m xs (↑(Prod.fst x):Int))),uF sh t (W ((↑(List.length xs):Int)+m)) xs (↑x.1:Int) x_1→bif ilt (↑x_1.1:Int) (↑(List.length xs):Int)then((0:Int)≤(↑x_1.1:Int)∧(↑x_1.1:Int)<(↑(List.length xs):Int))∧0+Int.toNat (↑x_1.1:Int)*(1:Nat)<List.length xs∧bif ieq sh 2 then(4:Int)≠(0:Int)∧bif !ieq (Int.tmod (List.getD xs (0+Int.toNat (↑x_1.1:Int)*1) 0) 4) (↑x.1:Int)then okSt (HFi sh t m xs (↑(Prod.fst x):Int)) (fun x'=>Hint.ok (HFi sh t m xs (↑(Prod.fst x):Int)) x'∧Hint.mu (HFi sh t m xs (↑(Prod.fst x):Int)) x'<Hint.mu (HFi sh t m xs (↑(Prod.fst x):Int)) x_1) [.int .i64 sh,.O,.O,.slice 0 0 (List.length xs) 1,.O,.O,.O,.O,.O,.ptr 1 0,.ptr 2 0,.ptr 3 0,.O,.int .i64 (↑x.1:Int),.int .i64 (Prod.snd x_1).1,.ptr 5 0,.O,.O,.O,.O,.O,.O,.O,.O,.O,.O,.O,.O,.O,.O,.O,.O,.O,.O,.O,.O,.O,.O,.O,.O,.O,.O,.O,.O,.slice 0 0 (List.length xs) 1,.int .i64 (↑(List.length xs):Int),.int .i64 (W ((↑x_1.1:Int)+1)),.O,.O,.O,.O,.O,.O,.O,.O,.O,.O,.O,.O,.O,.O,.O,.O,.O,.O,.O,.O,.O,.O,.O,.O,.O,.O,.O,.O,.O,.O,.O,.O,.O,.O,.O,.O,.O,.O,.O,.O,.O,.O,.O,.O,.O,.O] [some (.ints (some .i64) xs),some (.cells [.int .i64 0,.int .i64 0]),some (.cells [.int .i64 t,.int .i64 (W ((↑(List.length xs):Int)+m))]),some (.cells [.int .i64 (Prod.snd (Prod.snd x_1.2).2).1,.int .i64 (Prod.snd (Prod.snd x_1.2).2).2,.slice 4 0 (List.length (Prod.snd (Prod.snd x_1.2).2).3) 1,.int .i64 (Prod.snd (Prod.snd x_1.2).2).4,.int .i64 (Prod.snd (Prod.snd x_1.2).2).5,.int .i64 (Prod.snd (Prod.snd x_1.2).2).6,.int .u64 (Prod.snd (Prod.snd x_1.2).2).7,.int .u64 (Prod.snd (Prod.snd x_1.2).2).8,.bool (Prod.snd (Prod.snd x_1.2).2).9]),some (.ints (some .u64) (Prod.snd (Prod.snd x_1.2).2).3),some (.cells [.int .i64 (Prod.snd x_1.2).1,.int .i64 0,.bool false,.int .i64 0,.int .i64 (Prod.snd (Prod.snd x_1).2).1])]else bif !ieq sh 2 then bif ilt 0 (↑x.1:Int)then okSt (HFi sh t m xs (↑(Prod.fst x):Int)) (fun x'=>Hint.ok (HFi sh t m xs (↑(Prod.fst x):Int)) x'∧Hint.mu (HFi sh t m xs (↑(Prod.fst x):Int)) x'<Hint.mu (HFi sh t m xs (↑(Prod.fst x):Int)) x_1) [.int .i64 sh,.O,.O,.slice 0 0 (List.length xs) 1,.O,.O,.O,.O,.O,.ptr 1 0,.ptr 2 0,.ptr 3 0,.O,.int .i64 (↑x.1:Int),.int .i64 (Prod.snd x_1).1,.ptr 5 0,.O,.O,.O,.O,.O,.O,.O,.O,.O,.O,.O,.O,.O,.O,.O,.O,.O,.O,.O,.O,.O,.O,.O,.O,.O,.O,.O,.O,.slice 0 0 (List.length xs) 1,.int .i64 (↑(List.length xs):Int),.int .i64 (W ((↑x_1.1:Int)+1)),.O,.O,.O,.O,.O,.O,.O,.O,.O,.O,.O,.O,.O,.O,.O,.O,.O,.O,.O,.O,.O,.O,.O,.O,.O,.O,.O,.O,.O,.O,.O,.O,.O,.O,.O,.O,.O,.O,.O,.O,.O,.O,.O,.O,.O,.O] [some (.ints (some .i64) xs),some (.cells [.int .i64 0,.int .i64 0]),some (.cells [.int .i64 t,.int .i64 (W ((↑(List.length xs):Int)+m))]),some (.cells [.int .i64 (Prod.snd (Prod.snd x_1.2).2).1,.int .i64 (Prod.snd (Prod.snd x_1.2).2).2,.slice 4 0 (List.length (Prod.snd (Prod.snd x_1.2).2).3) 1,.int .i64 (Prod.snd (Prod.snd x_1.2).2).4,.int .i64 (Prod.snd (Prod.snd x_1.2).2).5,.int .i64 (Prod.snd (Prod.snd x_1.2).2).6,.int .u64 (Prod.snd (Prod.snd x_1.2).2).7,.int .u64 (Prod.snd (Prod.snd x_1.2).2).8,.bool (Prod.snd (Prod.snd x_1.2).2).9]),some (.ints (some .u64) (Prod.snd (Prod.snd x_1.2).2).3),some (.cells [.int .i64 (Prod.snd x_1.2).1,.int .i64 0,.bool false,.int .i64 0,.int .i64 (Prod.snd (Prod.snd x_1).2).1])]else(((0:Int)≤(Prod.snd x_1.2).1∧(Prod.snd x_1.2).1<(1024:Int))∧((0:Int)≤W ((↑x_1.1:Int)+1)∧W ((↑x_1.1:Int)+1)<(512:Int))∧((0:Int)≤(0:Int)∧(0:Int)<(32:Int))∧(0:Int)≤(Prod.snd (Prod.snd x_1).2).1∧(Prod.snd (Prod.snd x_1).2).1<(262144:Int))∧(lE' (Prod.snd (Prod.snd x_1.2).2).3∧(0:Int)≤(Prod.snd (Prod.snd x_1.2).2).4∧(Prod.snd (Prod.snd x_1.2).2).4≤(4611686018427387904:Int))∧(((0:Int)≤t∧t≤(100000:Int))∧((0:Int)≤W ((↑(List.length xs):Int)+m)∧W ((↑(List.length xs):Int)+m)≤(100000:Int))∧(-1099511627776:Int)≤W ((↑x_1.1:Int)+1)∧W ((↑x_1.1:Int)+1)≤(1099511627776:Int))∧(lE' (aJ (Prod.snd (Prod.snd x_1.2).2).3 (Prod.snd x_1).1 (aV (Prod.snd x_1.2).1 (W ((↑x_1.1:Int)+1)) false 0 (Prod.snd (Prod.snd x_1).2).1))∧(0:Int)≤(Prod.snd (Prod.snd x_1.2).2).4+1∧(Prod.snd (Prod.snd x_1.2).2).4+(1:Int)≤(4611686018427387904:Int))∧okSt (HFi sh t m xs (↑(Prod.fst x):Int)) (fun x'=>Hint.ok (HFi sh t m xs (↑(Prod.fst x):Int)) x'∧Hint.mu (HFi sh t m xs (↑(Prod.fst x):Int)) x'<Hint.mu (HFi sh t m xs (↑(Prod.fst x):Int)) x_1) [.int .i64 sh,.O,.O,.slice 0 0 (List.length xs) 1,.O,.O,.O,.O,.O,.ptr 1 0,.ptr 2 0,.ptr 3 0,.O,.int .i64 (↑x.1:Int),.int .i64 (W ((↑x_1.1:Int)+1)),.ptr 5 0,.O,.O,.O,.O,.O,.O,.O,.O,.O,.O,.O,.O,.O,.O,.O,.O,.O,.O,.O,.O,.O,.O,.O,.O,.O,.O,.O,.O,.slice 0 0 (List.length xs) 1,.int .i64 (↑(List.length xs):Int),.int .i64 (W ((↑x_1.1:Int)+1)),.O,.O,.O,.O,.O,.O,.O,.O,.O,.O,.O,.O,.O,.O,.O,.O,.O,.O,.O,.O,.O,.O,.O,.O,.O,.O,.O,.O,.O,.O,.O,.O,.O,.O,.O,.O,.O,.O,.O,.O,.O,.O,.O,.O,.O,.O] [some (.ints (some .i64) xs),some (.cells [.int .i64 0,.int .i64 0]),some (.cells [.int .i64 t,.int .i64 (W ((↑(List.length xs):Int)+m))]),some (.cells [.int .i64 (Prod.snd (Prod.snd x_1.2).2).1,.int .i64 (Prod.snd (Prod.snd x_1.2).2).2,.slice 4 0 (List.length (aJ (aJ (Prod.snd (Prod.snd x_1.2).2).3 (Prod.snd x_1).1 (aV (Prod.snd x_1.2).1 (W ((↑x_1.1:Int)+1)) false 0 (Prod.snd (Prod.snd x_1).2).1)) (W ((↑(List.length xs):Int)+m)+4+W ((↑x_1.1:Int)+1)) 1)) 1,.int .i64 ((Prod.snd (Prod.snd x_1.2).2).4+1+1),.int .i64 2,.int .i64 (W ((↑(List.length xs):Int)+m)+4+W ((↑x_1.1:Int)+1)),.int .u64 (aB (aJ (Prod.snd (Prod.snd x_1.2).2).3 (Prod.snd x_1).1 (aV (Prod.snd x_1.2).1 (W ((↑x_1.1:Int)+1)) false 0 (Prod.snd (Prod.snd x_1).2).1)) (W ((↑(List.length xs):Int)+m)+4+W ((↑x_1.1:Int)+1))),.int .u64 (bif bN (aJ (Prod.snd (Prod.snd x_1.2).2).3 (Prod.snd x_1).1 (aV (Prod.snd x_1.2).1 (W ((↑x_1.1:Int)+1)) false 0 (Prod.snd (Prod.snd x_1).2).1)) (W ((↑(List.length xs):Int)+m)+4+W ((↑x_1.1:Int)+1))then 1 else 0),.bool (bN (aJ (Prod.snd (Prod.snd x_1.2).2).3 (Prod.snd x_1).1 (aV (Prod.snd x_1.2).1 (W ((↑x_1.1:Int)+1)) false 0 (Prod.snd (Prod.snd x_1).2).1)) (W ((↑(List.length xs):Int)+m)+4+W ((↑x_1.1:Int)+1)))]),some (.ints (some .u64) (aJ (aJ (Prod.snd (Prod.snd x_1.2).2).3 (Prod.snd x_1).1 (aV (Prod.snd x_1.2).1 (W ((↑x_1.1:Int)+1)) false 0 (Prod.snd (Prod.snd x_1).2).1)) (W ((↑(List.length xs):Int)+m)+4+W ((↑x_1.1:Int)+1)) 1)),some (.cells [.int .i64 (List.getD xs (0+Int.toNat (↑x_1.1:Int)*1) 0),.int .i64 0,.bool false,.int .i64 0,.int .i64 3])]else(((0:Int)≤(Prod.snd x_1.2).1∧(Prod.snd x_1.2).1<(1024:Int))∧((0:Int)≤W ((↑x_1.1:Int)+1)∧W ((↑x_1.1:Int)+1)<(512:Int))∧((0:Int)≤(0:Int)∧(0:Int)<(32:Int))∧(0:Int)≤(Prod.snd (Prod.snd x_1).2).1∧(Prod.snd (Prod.snd x_1).2).1<(262144:Int))∧(lE' (Prod.snd (Prod.snd x_1.2).2).3∧(0:Int)≤(Prod.snd (Prod.snd x_1.2).2).4∧(Prod.snd (Prod.snd x_1.2).2).4≤(4611686018427387904:Int))∧(((0:Int)≤t∧t≤(100000:Int))∧((0:Int)≤W ((↑(List.length xs):Int)+m)∧W ((↑(List.length xs):Int)+m)≤(100000:Int))∧(-1099511627776:Int)≤W ((↑x_1.1:Int)+1)∧W ((↑x_1.1:Int)+1)≤(1099511627776:Int))∧(lE' (aJ (Prod.snd (Prod.snd x_1.2).2).3 (Prod.snd x_1).1 (aV (Prod.snd x_1.2).1 (W ((↑x_1.1:Int)+1)) false 0 (Prod.snd (Prod.snd x_1).2).1))∧(0:Int)≤(Prod.snd (Prod.snd x_1.2).2).4+1∧(Prod.snd (Prod.snd x_1.2).2).4+(1:Int)≤(4611686018427387904:Int))∧okSt (HFi sh t m xs (↑(Prod.fst x):Int)) (fun x'=>Hint.ok (HFi sh t m xs (↑(Prod.fst x):Int)) x'∧Hint.mu (HFi sh t m xs (↑(Prod.fst x):Int)) x'<Hint.mu (HFi sh t m xs (↑(Prod.fst x):Int)) x_1) [.int .i64 sh,.O,.O,.slice 0 0 (List.length xs) 1,.O,.O,.O,.O,.O,.ptr 1 0,.ptr 2 0,.ptr 3 0,.O,.int .i64 (↑x.1:Int),.int .i64 (W ((↑x_1.1:Int)+1)),.ptr 5 0,.O,.O,.O,.O,.O,.O,.O,.O,.O,.O,.O,.O,.O,.O,.O,.O,.O,.O,.O,.O,.O,.O,.O,.O,.O,.O,.O,.O,.slice 0 0 (List.length xs) 1,.int .i64 (↑(List.length xs):Int),.int .i64 (W ((↑x_1.1:Int)+1)),.O,.O,.O,.O,.O,.O,.O,.O,.O,.O,.O,.O,.O,.O,.O,.O,.O,.O,.O,.O,.O,.O,.O,.O,.O,.O,.O,.O,.O,.O,.O,.O,.O,.O,.O,.O,.O,.O,.O,.O,.O,.O,.O,.O,.O,.O] [some (.ints (some .i64) xs),some (.cells [.int .i64 0,.int .i64 0]),some (.cells [.int .i64 t,.int .i64 (W ((↑(List.length xs):Int)+m))]),some (.cells [.int .i64 (Prod.snd (Prod.snd x_1.2).2).1,.int .i64 (Prod.snd (Prod.snd x_1.2).2).2,.slice 4 0 (List.length (aJ (aJ (Prod.snd (Prod.snd x_1.2).2).3 (Prod.snd x_1).1 (aV (Prod.snd x_1.2).1 (W ((↑x_1.1:Int)+1)) false 0 (Prod.snd (Prod.snd x_1).2).1)) (W ((↑(List.length xs):Int)+m)+4+W ((↑x_1.1:Int)+1)) 1)) 1,.int .i64 ((Prod.snd (Prod.snd x_1.2).2).4+1+1),.int .i64 2,.int .i64 (W ((↑(List.length xs):Int)+m)+4+W ((↑x_1.1:Int)+1)),.int .u64 (aB (aJ (Prod.snd (Prod.snd x_1.2).2).3 (Prod.snd x_1).1 (aV (Prod.snd x_1.2).1 (W ((↑x_1.1:Int)+1)) false 0 (Prod.snd (Prod.snd x_1).2).1)) (W ((↑(List.length xs):Int)+m)+4+W ((↑x_1.1:Int)+1))),.int .u64 (bif bN (aJ (Prod.snd (Prod.snd x_1.2).2).3 (Prod.snd x_1).1 (aV (Prod.snd x_1.2).1 (W ((↑x_1.1:Int)+1)) false 0 (Prod.snd (Prod.snd x_1).2).1)) (W ((↑(List.length xs):Int)+m)+4+W ((↑x_1.1:Int)+1))then 1 else 0),.bool (bN (aJ (Prod.snd (Prod.snd x_1.2).2).3 (Prod.snd x_1).1 (aV (Prod.snd x_1.2).1 (W ((↑x_1.1:Int)+1)) false 0 (Prod.snd (Prod.snd x_1).2).1)) (W ((↑(List.length xs):Int)+m)+4+W ((↑x_1.1:Int)+1)))]),some (.ints (some .u64) (aJ (aJ (Prod.snd (Prod.snd x_1.2).2).3 (Prod.snd x_1).1 (aV (Prod.snd x_1.2).1 (W ((↑x_1.1:Int)+1)) false 0 (Prod.snd (Prod.snd x_1).2).1)) (W ((↑(List.length xs):Int)+m)+4+W ((↑x_1.1:Int)+1)) 1)),some (.cells [.int .i64 (List.getD xs (0+Int.toNat (↑x_1.1:Int)*1) 0),.int .i64 0,.bool false,.int .i64 0,.int .i64 3])]else bif !ieq sh 2 then bif ilt 0 (↑x.1:Int)then okSt (HFi sh t m xs (↑(Prod.fst x):Int)) (fun x'=>Hint.ok (HFi sh t m xs (↑(Prod.fst x):Int)) x'∧Hint.mu (HFi sh t m xs (↑(Prod.fst x):Int)) x'<Hint.mu (HFi sh t m xs (↑(Prod.fst x):Int)) x_1) [.int .i64 sh,.O,.O,.slice 0 0 (List.length xs) 1,.O,.O,.O,.O,.O,.ptr 1 0,.ptr 2 0,.ptr 3 0,.O,.int .i64 (↑x.1:Int),.int .i64 (Prod.snd x_1).1,.ptr 5 0,.O,.O,.O,.O,.O,.O,.O,.O,.O,.O,.O,.O,.O,.O,.O,.O,.O,.O,.O,.O,.O,.O,.O,.O,.O,.O,.O,.O,.slice 0 0 (List.length xs) 1,.int .i64 (↑(List.length xs):Int),.int .i64 (W ((↑x_1.1:Int)+1)),.O,.O,.O,.O,.O,.O,.O,.O,.O,.O,.O,.O,.O,.O,.O,.O,.O,.O,.O,.O,.O,.O,.O,.O,.O,.O,.O,.O,.O,.O,.O,.O,.O,.O,.O,.O,.O,.O,.O,.O,.O,.O,.O,.O,.O,.O] [some (.ints (some .i64) xs),some (.cells [.int .i64 0,.int .i64 0]),some (.cells [.int .i64 t,.int .i64 (W ((↑(List.length xs):Int)+m))]),some (.cells [.int .i64 (Prod.snd (Prod.snd x_1.2).2).1,.int .i64 (Prod.snd (Prod.snd x_1.2).2).2,.slice 4 0 (List.length (Prod.snd (Prod.snd x_1.2).2).3) 1,.int .i64 (Prod.snd (Prod.snd x_1.2).2).4,.int .i64 (Prod.snd (Prod.snd x_1.2).2).5,.int .i64 (Prod.snd (Prod.snd x_1.2).2).6,.int .u64 (Prod.snd (Prod.snd x_1.2).2).7,.int .u64 (Prod.snd (Prod.snd x_1.2).2).8,.bool (Prod.snd (Prod.snd x_1.2).2).9]),some (.ints (some .u64) (Prod.snd (Prod.snd x_1.2).2).3),some (.cells [.int .i64 (Prod.snd x_1.2).1,.int .i64 0,.bool false,.int .i64 0,.int .i64 (Prod.snd (Prod.snd x_1).2).1])]else(((0:Int)≤(Prod.snd x_1.2).1∧(Prod.snd x_1.2).1<(1024:Int))∧((0:Int)≤W ((↑x_1.1:Int)+1)∧W ((↑x_1.1:Int)+1)<(512:Int))∧((0:Int)≤(0:Int)∧(0:Int)<(32:Int))∧(0:Int)≤(Prod.snd (Prod.snd x_1).2).1∧(Prod.snd (Prod.snd x_1).2).1<(262144:Int))∧(lE' (Prod.snd (Prod.snd x_1.2).2).3∧(0:Int)≤(Prod.snd (Prod.snd x_1.2).2).4∧(Prod.snd (Prod.snd x_1.2).2).4≤(4611686018427387904:Int))∧(((0:Int)≤t∧t≤(100000:Int))∧((0:Int)≤W ((↑(List.length xs):Int)+m)∧W ((↑(List.length xs):Int)+m)≤(100000:Int))∧(-1099511627776:Int)≤W ((↑x_1.1:Int)+1)∧W ((↑x_1.1:Int)+1)≤(1099511627776:Int))∧(lE' (aJ (Prod.snd (Prod.snd x_1.2).2).3 (Prod.snd x_1).1 (aV (Prod.snd x_1.2).1 (W ((↑x_1.1:Int)+1)) false 0 (Prod.snd (Prod.snd x_1).2).1))∧(0:Int)≤(Prod.snd (Prod.snd x_1.2).2).4+1∧(Prod.snd (Prod.snd x_1.2).2).4+(1:Int)≤(4611686018427387904:Int))∧okSt (HFi sh t m xs (↑(Prod.fst x):Int)) (fun x'=>Hint.ok (HFi sh t m xs (↑(Prod.fst x):Int)) x'∧Hint.mu (HFi sh t m xs (↑(Prod.fst x):Int)) x'<Hint.mu (HFi sh t m xs (↑(Prod.fst x):Int)) x_1) [.int .i64 sh,.O,.O,.slice 0 0 (List.length xs) 1,.O,.O,.O,.O,.O,.ptr 1 0,.ptr 2 0,.ptr 3 0,.O,.int .i64 (↑x.1:Int),.int .i64 (W ((↑x_1.1:Int)+1)),.ptr 5 0,.O,.O,.O,.O,.O,.O,.O,.O,.O,.O,.O,.O,.O,.O,.O,.O,.O,.O,.O,.O,.O,.O,.O,.O,.O,.O,.O,.O,.slice 0 0 (List.length xs) 1,.int .i64 (↑(List.length xs):Int),.int .i64 (W ((↑x_1.1:Int)+1)),.O,.O,.O,.O,.O,.O,.O,.O,.O,.O,.O,.O,.O,.O,.O,.O,.O,.O,.O,.O,.O,.O,.O,.O,.O,.O,.O,.O,.O,.O,.O,.O,.O,.O,.O,.O,.O,.O,.O,.O,.O,.O,.O,.O,.O,.O] [some (.ints (some .i64) xs),some (.cells [.int .i64 0,.int .i64 0]),some (.cells [.int .i64 t,.int .i64 (W ((↑(List.length xs):Int)+m))]),some (.cells [.int .i64 (Prod.snd (Prod.snd x_1.2).2).1,.int .i64 (Prod.snd (Prod.snd x_1.2).2).2,.slice 4 0 (List.length (aJ (aJ (Prod.snd (Prod.snd x_1.2).2).3 (Prod.snd x_1).1 (aV (Prod.snd x_1.2).1 (W ((↑x_1.1:Int)+1)) false 0 (Prod.snd (Prod.snd x_1).2).1)) (W ((↑(List.length xs):Int)+m)+4+W ((↑x_1.1:Int)+1)) 1)) 1,.int .i64 ((Prod.snd (Prod.snd x_1.2).2).4+1+1),.int .i64 2,.int .i64 (W ((↑(List.length xs):Int)+m)+4+W ((↑x_1.1:Int)+1)),.int .u64 (aB (aJ (Prod.snd (Prod.snd x_1.2).2).3 (Prod.snd x_1).1 (aV (Prod.snd x_1.2).1 (W ((↑x_1.1:Int)+1)) false 0 (Prod.snd (Prod.snd x_1).2).1)) (W ((↑(List.length xs):Int)+m)+4+W ((↑x_1.1:Int)+1))),.int .u64 (bif bN (aJ (Prod.snd (Prod.snd x_1.2).2).3 (Prod.snd x_1).1 (aV (Prod.snd x_1.2).1 (W ((↑x_1.1:Int)+1)) false 0 (Prod.snd (Prod.snd x_1).2).1)) (W ((↑(List.length xs):Int)+m)+4+W ((↑x_1.1:Int)+1))then 1 else 0),.bool (bN (aJ (Prod.snd (Prod.snd x_1.2).2).3 (Prod.snd x_1).1 (aV (Prod.snd x_1.2).1 (W ((↑x_1.1:Int)+1)) false 0 (Prod.snd (Prod.snd x_1).2).1)) (W ((↑(List.length xs):Int)+m)+4+W ((↑x_1.1:Int)+1)))]),some (.ints (some .u64) (aJ (aJ (Prod.snd (Prod.snd x_1.2).2).3 (Prod.snd x_1).1 (aV (Prod.snd x_1.2).1 (W ((↑x_1.1:Int)+1)) false 0 (Prod.snd (Prod.snd x_1).2).1)) (W ((↑(List.length xs):Int)+m)+4+W ((↑x_1.1:Int)+1)) 1)),some (.cells [.int .i64 (List.getD xs (0+Int.toNat (↑x_1.1:Int)*1) 0),.int .i64 0,.bool false,.int .i64 0,.int .i64 3])]else(((0:Int)≤(Prod.snd x_1.2).1∧(Prod.snd x_1.2).1<(1024:Int))∧((0:Int)≤W ((↑x_1.1:Int)+1)∧W ((↑x_1.1:Int)+1)<(512:Int))∧((0:Int)≤(0:Int)∧(0:Int)<(32:Int))∧(0:Int)≤(Prod.snd (Prod.snd x_1).2).1∧(Prod.snd (Prod.snd x_1).2).1<(262144:Int))∧(lE' (Prod.snd (Prod.snd x_1.2).2).3∧(0:Int)≤(Prod.snd (Prod.snd x_1.2).2).4∧(Prod.snd (Prod.snd x_1.2).2).4≤(4611686018427387904:Int))∧(((0:Int)≤t∧t≤(100000:Int))∧((0:Int)≤W ((↑(List.length xs):Int)+m)∧W ((↑(List.length xs):Int)+m)≤(100000:Int))∧(-1099511627776:Int)≤W ((↑x_1.1:Int)+1)∧W ((↑x_1.1:Int)+1)≤(1099511627776:Int))∧(lE' (aJ (Prod.snd (Prod.snd x_1.2).2).3 (Prod.snd x_1).1 (aV (Prod.snd x_1.2).1 (W ((↑x_1.1:Int)+1)) false 0 (Prod.snd (Prod.snd x_1).2).1))∧(0:Int)≤(Prod.snd (Prod.snd x_1.2).2).4+1∧(Prod.snd (Prod.snd x_1.2).2).4+(1:Int)≤(4611686018427387904:Int))∧okSt (HFi sh t m xs (↑(Prod.fst x):Int)) (fun x'=>Hint.ok (HFi sh t m xs (↑(Prod.fst x):Int)) x'∧Hint.mu (HFi sh t m xs (↑(Prod.fst x):Int)) x'<Hint.mu (HFi sh t m xs (↑(Prod.fst x):Int)) x_1) [.int .i64 sh,.O,.O,.slice 0 0 (List.length xs) 1,.O,.O,.O,.O,.O,.ptr 1 0,.ptr 2 0,.ptr 3 0,.O,.int .i64 (↑x.1:Int),.int .i64 (W ((↑x_1.1:Int)+1)),.ptr 5 0,.O,.O,.O,.O,.O,.O,.O,.O,.O,.O,.O,.O,.O,.O,.O,.O,.O,.O,.O,.O,.O,.O,.O,.O,.O,.O,.O,.O,.slice 0 0 (List.length xs) 1,.int .i64 (↑(List.length xs):Int),.int .i64 (W ((↑x_1.1:Int)+1)),.O,.O,.O,.O,.O,.O,.O,.O,.O,.O,.O,.O,.O,.O,.O,.O,.O,.O,.O,.O,.O,.O,.O,.O,.O,.O,.O,.O,.O,.O,.O,.O,.O,.O,.O,.O,.O,.O,.O,.O,.O,.O,.O,.O,.O,.O] [some (.ints (some .i64) xs),some (.cells [.int .i64 0,.int .i64 0]),some (.cells [.int .i64 t,.int .i64 (W ((↑(List.length xs):Int)+m))]),some (.cells [.int .i64 (Prod.snd (Prod.snd x_1.2).2).1,.int .i64 (Prod.snd (Prod.snd x_1.2).2).2,.slice 4 0 (List.length (aJ (aJ (Prod.snd (Prod.snd x_1.2).2).3 (Prod.snd x_1).1 (aV (Prod.snd x_1.2).1 (W ((↑x_1.1:Int)+1)) false 0 (Prod.snd (Prod.snd x_1).2).1)) (W ((↑(List.length xs):Int)+m)+4+W ((↑x_1.1:Int)+1)) 1)) 1,.int .i64 ((Prod.snd (Prod.snd x_1.2).2).4+1+1),.int .i64 2,.int .i64 (W ((↑(List.length xs):Int)+m)+4+W ((↑x_1.1:Int)+1)),.int .u64 (aB (aJ (Prod.snd (Prod.snd x_1.2).2).3 (Prod.snd x_1).1 (aV (Prod.snd x_1.2).1 (W ((↑x_1.1:Int)+1)) false 0 (Prod.snd (Prod.snd x_1).2).1)) (W ((↑(List.length xs):Int)+m)+4+W ((↑x_1.1:Int)+1))),.int .u64 (bif bN (aJ (Prod.snd (Prod.snd x_1.2).2).3 (Prod.snd x_1).1 (aV (Prod.snd x_1.2).1 (W ((↑x_1.1:Int)+1)) false 0 (Prod.snd (Prod.snd x_1).2).1)) (W ((↑(List.length xs):Int)+m)+4+W ((↑x_1.1:Int)+1))then 1 else 0),.bool (bN (aJ (Prod.snd (Prod.snd x_1.2).2).3 (Prod.snd x_1).1 (aV (Prod.snd x_1.2).1 (W ((↑x_1.1:Int)+1)) false 0 (Prod.snd (Prod.snd x_1).2).1)) (W ((↑(List.length xs):Int)+m)+4+W ((↑x_1.1:Int)+1)))]),some (.ints (some .u64) (aJ (aJ (Prod.snd (Prod.snd x_1.2).2).3 (Prod.snd x_1).1 (aV (Prod.snd x_1.2).1 (W ((↑x_1.1:Int)+1)) false 0 (Prod.snd (Prod.snd x_1).2).1)) (W ((↑(List.length xs):Int)+m)+4+W ((↑x_1.1:Int)+1)) 1)),some (.cells [.int .i64 (List.getD xs (0+Int.toNat (↑x_1.1:Int)*1) 0),.int .i64 0,.bool false,.int .i64 0,.int .i64 3])]else(((0:Int)≤(Prod.snd x_1.2).1∧(Prod.snd x_1.2).1<(1024:Int))∧((0:Int)≤(0:Int)∧(0:Int)<(512:Int))∧((0:Int)≤(0:Int)∧(0:Int)<(32:Int))∧(0:Int)≤(Prod.snd (Prod.snd x_1).2).1∧(Prod.snd (Prod.snd x_1).2).1<(262144:Int))∧(lE' (Prod.snd (Prod.snd x_1.2).2).3∧(0:Int)≤(Prod.snd (Prod.snd x_1.2).2).4∧(Prod.snd (Prod.snd x_1.2).2).4≤(4611686018427387904:Int))∧okSt (LA sh t m xs) (fun x'=>Hint.ok (LA sh t m xs) x'∧Hint.mu (LA sh t m xs) x'<Hint.mu (LA sh t m xs) x) [.int .i64 sh,.O,.O,.slice 0 0 (List.length xs) 1,.O,.O,.O,.O,.O,.ptr 1 0,.ptr 2 0,.ptr 3 0,.O,.int .i64 (W ((↑x.1:Int)+1)),.O,.O,.O,.O,.O,.O,.O,.O,.O,.O,.O,.O,.O,.O,.O,.O,.O,.O,.O,.O,.O,.O,.O,.O,.O,.O,.O,.O,.O,.O,.O,.O,.O,.O,.O,.O,.O,.O,.O,.O,.O,.O,.O,.O,.O,.O,.O,.O,.O,.O,.O,.O,.O,.O,.O,.O,.O,.O,.O,.O,.O,.O,.O,.O,.O,.O,.O,.O,.O,.O,.O,.O,.O,.O,.O,.O,.O,.O,.O] [some (.ints (some .i64) xs),some (.cells [.int .i64 0,.int .i64 0]),some (.cells [.int .i64 t,.int .i64 (W ((↑(List.length xs):Int)+m))]),some (.cells [.int .i64 (Prod.snd (Prod.snd x_1.2).2).1,.int .i64 (Prod.snd (Prod.snd x_1.2).2).2,.slice 4 0 (List.length (aJ (Prod.snd (Prod.snd x_1.2).2).3 (Prod.snd x_1).1 (aV (Prod.snd x_1.2).1 0 false 0 (Prod.snd (Prod.snd x_1).2).1))) 1,.int .i64 ((Prod.snd (Prod.snd x_1.2).2).4+1),.int .i64 2,.int .i64 (Prod.snd x_1).1,.int .u64 (aB (Prod.snd (Prod.snd x_1.2).2).3 (Prod.snd x_1).1),.int .u64 (bif bN (Prod.snd (Prod.snd x_1.2).2).3 (Prod.snd x_1).1 then aV (Prod.snd x_1.2).1 0 false 0 (Prod.snd (Prod.snd x_1).2).1 else 0),.bool (bN (Prod.snd (Prod.snd x_1.2).2).3 (Prod.snd x_1).1)]),some (.ints (some .u64) (aJ (Prod.snd (Prod.snd x_1.2).2).3 (Prod.snd x_1).1 (aV (Prod.snd x_1.2).1 0 false 0 (Prod.snd (Prod.snd x_1).2).1)))]else K (.tup [.ptr 1 0,.agg [.int .i64 t,.int .i64 (W ((↑(List.length xs):Int)+m))]]) [some (.ints (some .i64) xs),some (.cells [.int .i64 (Prod.snd x).1,.int .i64 (Prod.snd x).2,.slice 2 0 (List.length (Prod.snd x).3) 1,.int .i64 (Prod.snd x).4,.int .i64 (Prod.snd x).5,.int .i64 (Prod.snd x).6,.int .u64 (Prod.snd x).7,.int .u64 (Prod.snd x).8,.bool (Prod.snd x).9]),some (.ints (some .u64) (Prod.snd x).3)]
theorem ES(sh t m:Int)(xs:List Int)(K:AVal→aD Ob→Prop)(h:zX sh t m xs K):cT' 15 [.int .i64 sh,.int .i64 t,.int .i64 m,.slice 0 0 xs.length 1] [some (.ints (some .i64) xs)] K:=by
 refine aCu (aE (E:=EZ) Tryz.checked.mixed (L:=WS sh t m xs) (n:=10) (aR (by kernel_rfl) h))
theorem tK(sh h n k:Int)(ks:List Int)(i a ky vr:Int)(s:MS)(e:dY sh h k=true):fJ sh h n (k::ks) i a ky vr s=fJ sh h n ks (i+1) a ky vr s:=by show cond _ _ _=_;rw [e];rfl
theorem tL(sh h n k:Int)(ks:List Int)(i a ky vr:Int)(s:MS)(e:dY sh h k=false):fJ sh h n (k::ks) i a ky vr s=fJ sh h n ks (i+1) (i+1) k 3 ((s.stored a (aV ky (i+1) false 0 vr)).stored (n+4+(i+1)) 1):=by show cond _ _ _=_;rw [e];rfl
theorem vM(sh n:Int)(xs:List Int)(h:Nat)(hh:h<4)(s:MS):f9 sh n xs (4 - h) h s=f9 sh n xs (3 - (h:Int)).toNat ((h:Int)+1) (fJ sh h n xs 0 (n+1+h) 0 0 s):=by
 have:4 - h=(3 - (h:Int)).toNat +1:=by omega
 rw [this];rfl
theorem RT(sh t m:Int)(xs:List Int)(K:AVal→aD Ob→Prop)(hm:0≤m∧m≤100)(hl:xs.length≤100)(hr:gM t (xs.length+m)=true)(hk: ∀k∈xs,0≤k∧k<1024)
 (hK:K (.tup [.ptr 1 0,.agg [.int .i64 t,.int .i64 (xs.length+m)]]) [some (.ints (some .i64) xs),aZ 2 (f9 sh (xs.length+m) xs 4 0 (memN t (xs.length+m))),a9 (f9 sh (xs.length+m) xs 4 0 (memN t (xs.length+m)))]):zX sh t m xs K:=by
 unfold zX
 have hr2:=kV.1 hr
 have hn:W ((xs.length:Int)+m)=xs.length+m:=cG (by omega)
 have hr':gM t (W ((xs.length:Int)+m))=true:=by rw [hn];exact hr
 have hz:(2*W ((xs.length:Int)+m)+5*t+6).toNat =(2*((xs.length:Int)+m)+5*t+6).toNat :=by rw [hn]
 rw [hr']
 refine⟨trivial,aN (fun e=>by cases e) (fun _=>⟨⟨by omega,by omega,by omega⟩,aN (fun e=>?_) (fun _=>⟨⟨⟨by omega,by omega,by omega⟩,trivial⟩,⟨by omega,rfl,by omega⟩,?_,?_⟩)⟩)⟩
 ·rw [bP,dT']at e;omega
 ·refine aQ (H:=LA sh t m xs) ((0:Nat),memN t (W ((xs.length:Int)+m))) ?_ ⟨Nat.zero_le _,⟨Int.le_refl 0,by show(0:Int)≤_;omega⟩,rfl⟩
  simp only [LA,aZ,a9,memN,List.length_replicate]
  rfl
 ·rintro⟨h,s⟩ ⟨h4,hc,heq⟩
  simp only at h4 hc heq
  refine aN (fun e1=>?_) (fun e1=>?_)
  ·rw [bP,dT']at e1
   refine⟨⟨by omega,by omega,by omega⟩,aQ (H:=HFi sh t m xs (h:Int)) ((0:Nat),(W ((xs.length:Int)+m)+1+h,((0:Int),((0:Int),s)))) rfl ⟨by omega,Nat.zero_le _,⟨Int.le_refl 0,by show(0:Int)<1024;omega⟩,⟨Int.le_refl 0,by show(0:Int)<262144;omega⟩,⟨hc.1,by show s.c≤1000*(h:Int)+3*((0:Nat):Int);omega⟩,?_⟩,?_⟩
   ·rw [heq,vM _ _ _ _ (by omega)];rfl
   ·rintro⟨i,a,ky,vr,s1⟩ ⟨g4,gi,gk,gv,gc,geq⟩
    simp only at g4 gi gk gv gc geq
    have gc2:s1.c≤1000*(h:Int)+3*i:=gc.2
    have gc1:0≤s1.c:=gc.1
    have gh:(h:Int)<4:=g4.2
    have hskip: ∀(hi:i<xs.length),dY sh h (xs.getD (0+(i:Int).toNat *1) 0)=true→okSt (HFi sh t m xs h) (fun x'=>Hint.ok (HFi sh t m xs h) x'∧Hint.mu (HFi sh t m xs h) x'<Hint.mu (HFi sh t m xs h) (i,a,ky,vr,s1)) ((HFi sh t m xs h).st ((i+1:Nat),a,ky,vr,s1)).1 ((HFi sh t m xs h).st ((i+1:Nat),a,ky,vr,s1)).2:=by
     intro hi hs
     refine aQ (H:=HFi sh t m xs h) ((i+1:Nat),a,ky,vr,s1) rfl ⟨⟨g4,hi,gk,gv,⟨gc.1,by show s1.c≤1000*(h:Int)+3*((i+1:Nat):Int);omega⟩,?_⟩,by show xs.length - (i+1)<xs.length - i;omega⟩
     have e2:0+(i:Int).toNat *1=i:=by omega
     have e3:xs.getD i 0=xs[i]:=by rw [gD',gE' hi];rfl
     rw [e2,e3]at hs
     rw [geq,List.drop_eq_getElem_cons hi,tK _ _ _ _ _ _ _ _ _ _ hs];rfl
    have hput: ∀(hi:i<xs.length),dY sh h (xs.getD (0+(i:Int).toNat *1) 0)=false→okSt (HFi sh t m xs h) (fun x'=>Hint.ok (HFi sh t m xs h) x'∧Hint.mu (HFi sh t m xs h) x'<Hint.mu (HFi sh t m xs h) (i,a,ky,vr,s1)) ((HFi sh t m xs h).st ((i+1:Nat),((i+1:Nat):Int),(xs.getD (0+(i:Int).toNat *1) 0,(3:Int),((s1.stored a (aV ky ((i:Int)+1) false 0 vr)).stored (W ((xs.length:Int)+m)+4+((i:Int)+1)) 1)))).1 ((HFi sh t m xs h).st ((i+1:Nat),((i+1:Nat):Int),(xs.getD (0+(i:Int).toNat *1) 0,(3:Int),((s1.stored a (aV ky ((i:Int)+1) false 0 vr)).stored (W ((xs.length:Int)+m)+4+((i:Int)+1)) 1)))).2:=by
     intro hi hs
     have e2:0+(i:Int).toNat *1=i:=by omega
     rw [e2]at hs⊢
     have e3:xs.getD i 0=xs[i]:=by rw [gD',gE' hi];rfl
     rw [e3]at hs⊢
     refine aQ (H:=HFi sh t m xs h) _ rfl ⟨⟨g4,hi,hk _ (List.getElem_mem hi),⟨by show(0:Int)≤3;omega,by show(3:Int)<262144;omega⟩,⟨?_,?_⟩,?_⟩,by show xs.length - (i+1)<xs.length - i;omega⟩
     ·show 0≤s1.c+1+1;omega
     ·show s1.c+1+1≤1000*(h:Int)+3*((i+1:Nat):Int);omega
     ·rw [geq,List.drop_eq_getElem_cons hi,tL _ _ _ _ _ _ _ _ _ _ hs];rfl
    have e4:i<xs.length→W ((i:Int)+1)=((i+1:Nat):Int):=fun hi=>(cG (by omega)).trans rfl
    have e4':W ((h:Int)+1)=((h+1:Nat):Int):=(cG (by have:(h:Int)<4:=g4.2;omega)).trans rfl
    refine aN (fun e2=>?_) (fun e2=>?_)
    ·rw [bP,dT']at e2
     have hi:i<xs.length:=by omega
     have e4:=e4 hi
     have e0:0+(i:Int).toNat *1<xs.length:=by omega
     refine⟨by omega,e0,?_⟩
     have hput:=hput hi
     have hskip:=hskip hi
     unfold dY at hput hskip
     simp only [e4]at hput hskip⊢
     refine aN (fun e5=>?_) (fun e5=>?_)
     ·rw [e5]at hput hskip
      refine⟨by decide,aN (fun e6=>?_) (fun e6=>?_)⟩
      ·exact hskip e6
      ·rw [e5]
       refine aN (fun e7=>by cases e7) (fun _=>?_)
       refine⟨⟨gk,⟨by omega,by omega⟩,⟨by decide,by decide⟩,gv⟩,⟨trivial,gc.1,by omega⟩,⟨⟨by omega,by omega⟩,⟨by omega,by omega⟩,by omega,by omega⟩,⟨trivial,by omega,by omega⟩,?_⟩
       exact hput e6
     ·rw [e5]at hput hskip
      rw [e5]
      refine aN (fun _=>aN (fun e6=>?_) (fun e6=>?_)) (fun e7=>by cases e7)
      ·exact hskip e6
      ·refine⟨⟨gk,⟨by omega,by omega⟩,⟨by decide,by decide⟩,gv⟩,⟨trivial,gc.1,by omega⟩,⟨⟨by omega,by omega⟩,⟨by omega,by omega⟩,by omega,by omega⟩,⟨trivial,by omega,by omega⟩,?_⟩
       exact hput e6
    ·rw [bP,dF']at e2
     have hi:i=xs.length:=by omega
     subst hi
     refine⟨⟨gk,⟨by decide,by decide⟩,⟨by decide,by decide⟩,gv⟩,⟨rfl,gc1,by show s1.c≤4611686018427387904;omega⟩,aQ (H:=LA sh t m xs) ((h+1:Nat),s1.stored a (aV ky 0 false 0 vr)) ?_ ⟨⟨by show h+1≤4;omega,⟨by show 0≤s1.c+1;omega,by show s1.c+1≤1000*((h+1:Nat):Int);omega⟩,?_⟩,by show 4 - (h+1)<4 - h;omega⟩⟩
     ·simp only [LA,←e4']
      rfl
     ·rw [geq,List.drop_length]
      have e9:(3 - (h:Int)).toNat =4 - (h+1):=by omega
      rw [e9];rfl
  ·rw [bP,dF']at e1
   have e5:h=4:=by omega
   subst e5
   have heq':f9 sh (W ((xs.length:Int)+m)) xs 4 0 (memN t (W ((xs.length:Int)+m)))=s:=heq
   rw [hn]at heq'
   rw [heq']at hK
   rw [hn]
   exact hK
def bO(sh t n:Int)(xs:List Int):MS:=f9 sh n xs 4 0 (memN t n)
structure sH (t m:Int) (xs:List Int):Prop where
 hm:0≤m∧m≤100
 hl:xs.length≤100
 hr:gM t (xs.length+m)=true
 hk: ∀k∈xs,0≤k∧k<1024
def K9(sh t m:Int):Hint Ob:= {X:=Nat×MS,st:=fun x=>([.int .i64 sh,.O,.O,.raw (.slice none 0 0),.O,.O,.O,.O,.O,.ptr 0 0,.ptr 1 0,.ptr 2 0,.O,.int .i64 (x.1:Int)]++List.replicate 79 .O,[some (.cells [.int .i64 0,.int .i64 0]),some (.cells [.int .i64 t,.int .i64 (IntKind.wrap .i64 (((0:Nat):Int)+m))]),aZ 3 x.2,a9 x.2]),ok:=oL sh t (IntKind.wrap .i64 (((0:Nat):Int)+m)) [],mu:=fun x=>4 - x.1,keep:=[0,3,9,10,11,13] }
def WT(sh t m:Int):FuncId→Nat→Option (qB Ob):=fun _ k=>if k=6 then some (.states (K9 sh t m))else some (.rounds 2)
def uG(sh t m:Int)(K:AVal→aD Ob→Prop):Prop:=True∧bif !gM t (W ((↑0:Int)+m))then K (.tup [.raw (Value.pointer none),.agg [.int .i64 t,.int .i64 (W ((↑0:Int)+m))]]) []else(((0:Int)≤t∧t≤(100000:Int))∧(0:Int)≤W ((↑0:Int)+m)∧W ((↑0:Int)+m)≤(100000:Int))∧bif ilt (2*W ((↑0:Int)+m)+5*t+6) (↑0:Int)then K (.tup [.raw (Value.pointer none),.agg [.int .i64 t,.int .i64 (W ((↑0:Int)+m))]]) []else((((0:Int)≤t∧t≤(100000:Int))∧(0:Int)≤W ((↑0:Int)+m)∧W ((↑0:Int)+m)≤(100000:Int))∧True)∧((0:Int)≤(2:Int)*W ((↑0:Int)+m)+5*t+6∧2*W ((↑0:Int)+m)+5*t+(6:Int)=(2:Int)*W ((↑0:Int)+m)+5*t+6∧2*W ((↑0:Int)+m)+5*t+(6:Int)≤(4294967296:Int))∧okSt (K9 sh t m) (Hint.ok (K9 sh t m)) [.int .i64 sh,.O,.O,.raw (Value.slice none 0 0),.O,.O,.O,.O,.O,.ptr 0 0,.ptr 1 0,.ptr 2 0,.O,.int .i64 0,.O,.O,.O,.O,.O,.O,.O,.O,.O,.O,.O,.O,.O,.O,.O,.O,.O,.O,.O,.O,.O,.O,.O,.O,.O,.O,.O,.O,.O,.O,.O,.O,.O,.O,.O,.O,.O,.O,.O,.O,.O,.O,.O,.O,.O,.O,.O,.O,.O,.O,.O,.O,.O,.O,.O,.O,.O,.O,.O,.O,.O,.O,.O,.O,.O,.O,.O,.O,.O,.O,.O,.O,.O,.O,.O,.O,.O,.O,.O] [some (.cells [.int .i64 0,.int .i64 0]),some (.cells [.int .i64 t,.int .i64 (W ((↑0:Int)+m))]),some (.cells [.int .i64 t,.int .i64 (W ((↑0:Int)+m)),.slice 3 0 (Int.toNat (2*W ((↑0:Int)+m)+5*t+6)) 1,.int .i64 0,.int .i64 0,.int .i64 0,.int .u64 0,.int .u64 0,.bool false]),some (.ints (some .u64) (List.replicate (Int.toNat (2*W ((↑0:Int)+m)+5*t+6)) 0))]∧ ∀(x:(Nat×MS)),oL sh t (W ((↑0:Int)+m)) [] x→bif ilt (↑x.1:Int) 4 then(((0:Int)≤W ((↑0:Int)+m)∧W ((↑0:Int)+m)≤(100000:Int))∧(-1000000:Int)≤(↑x.1:Int)∧(↑x.1:Int)≤(1000000:Int))∧(((0:Int)≤(0:Int)∧(0:Int)<(1024:Int))∧((0:Int)≤(0:Int)∧(0:Int)<(512:Int))∧((0:Int)≤(0:Int)∧(0:Int)<(32:Int))∧(0:Int)≤(0:Int)∧(0:Int)<(262144:Int))∧(lE' (Prod.snd x).3∧(0:Int)≤(Prod.snd x).4∧(Prod.snd x).4≤(4611686018427387904:Int))∧okSt (K9 sh t m) (fun x'=>Hint.ok (K9 sh t m) x'∧Hint.mu (K9 sh t m) x'<Hint.mu (K9 sh t m) x) [.int .i64 sh,.O,.O,.raw (Value.slice none 0 0),.O,.O,.O,.O,.O,.ptr 0 0,.ptr 1 0,.ptr 2 0,.O,.int .i64 (W ((↑x.1:Int)+1)),.O,.O,.O,.O,.O,.O,.O,.O,.O,.O,.O,.O,.O,.O,.O,.O,.O,.O,.O,.O,.O,.O,.O,.O,.O,.O,.O,.O,.O,.O,.O,.O,.O,.O,.O,.O,.O,.O,.O,.O,.O,.O,.O,.O,.O,.O,.O,.O,.O,.O,.O,.O,.O,.O,.O,.O,.O,.O,.O,.O,.O,.O,.O,.O,.O,.O,.O,.O,.O,.O,.O,.O,.O,.O,.O,.O,.O,.O,.O] [some (.cells [.int .i64 0,.int .i64 0]),some (.cells [.int .i64 t,.int .i64 (W ((↑0:Int)+m))]),some (.cells [.int .i64 (Prod.snd x).1,.int .i64 (Prod.snd x).2,.slice 3 0 (List.length (aJ (Prod.snd x).3 (W ((↑0:Int)+m)+1+(↑x.1:Int)) (aV 0 0 false 0 0))) 1,.int .i64 ((Prod.snd x).4+1),.int .i64 2,.int .i64 (W ((↑0:Int)+m)+1+(↑x.1:Int)),.int .u64 (aB (Prod.snd x).3 (W ((↑0:Int)+m)+1+(↑x.1:Int))),.int .u64 (bif bN (Prod.snd x).3 (W ((↑0:Int)+m)+1+(↑x.1:Int))then aV 0 0 false 0 0 else 0),.bool (bN (Prod.snd x).3 (W ((↑0:Int)+m)+1+(↑x.1:Int)))]),some (.ints (some .u64) (aJ (Prod.snd x).3 (W ((↑0:Int)+m)+1+(↑x.1:Int)) (aV 0 0 false 0 0)))]else K (.tup [.ptr 0 0,.agg [.int .i64 t,.int .i64 (W ((↑0:Int)+m))]]) [some (.cells [.int .i64 (Prod.snd x).1,.int .i64 (Prod.snd x).2,.slice 1 0 (List.length (Prod.snd x).3) 1,.int .i64 (Prod.snd x).4,.int .i64 (Prod.snd x).5,.int .i64 (Prod.snd x).6,.int .u64 (Prod.snd x).7,.int .u64 (Prod.snd x).8,.bool (Prod.snd x).9]),some (.ints (some .u64) (Prod.snd x).3)]
theorem B3(sh t m:Int)(K:AVal→aD Ob→Prop)(h:uG sh t m K):cT' 15 [.int .i64 sh,.int .i64 t,.int .i64 m,.raw (.slice none 0 0)] [] K:=by
 refine aCu (aE (E:=EZ) Tryz.checked.mixed (L:=WT sh t m) (n:=10) (aR (by kernel_rfl) h))
theorem ND(sh t m:Int)(K:AVal→aD Ob→Prop)(ok:sH t m [])
 (hK:K (.tup [.ptr 0 0,.agg [.int .i64 t,.int .i64 m]]) [aZ 1 (bO sh t m []),a9 (bO sh t m [])]):uG sh t m K:=by
 obtain⟨hm,hl,hr,hk⟩:=ok
 have h00:((([]:List Int).length :Int)+m)=m:=by simp
 rw [h00]at hr
 unfold uG
 have hr2:=kV.1 hr
 have hn:W (0+m)=m:=(cG (by omega)).trans (by omega)
 have hr':gM t (W (0+m))=true:=by rw [hn];exact hr
 rw [hr']
 refine⟨trivial,aN (fun e=>by cases e) (fun _=>⟨⟨by omega,by omega,by omega⟩,aN (fun e=>?_) (fun _=>⟨⟨⟨by omega,by omega,by omega⟩,trivial⟩,⟨by omega,rfl,by omega⟩,?_,?_⟩)⟩)⟩
 ·rw [bP,dT']at e;omega
 ·refine aQ (H:=K9 sh t m) ((0:Nat),memN t (W (0+m))) ?_ ⟨Nat.zero_le _,⟨Int.le_refl 0,by show(0:Int)≤_;omega⟩,rfl⟩
  simp only [K9,aZ,a9,memN,List.length_replicate]
  rfl
 ·rintro⟨h,s⟩ ⟨h4,hc,heq⟩
  simp only at h4 hc heq
  have gc1:0≤s.c:=hc.1
  refine aN (fun e1=>?_) (fun e1=>?_)
  ·rw [bP,dT']at e1
   have e1:(h:Int)<4:=e1
   have e4':W ((h:Int)+1)=((h+1:Nat):Int):=(cG (by omega)).trans rfl
   refine⟨⟨by omega,by omega,by omega⟩,⟨⟨by decide,by decide⟩,⟨by decide,by decide⟩,⟨by decide,by decide⟩,by decide,by decide⟩,⟨rfl,gc1,by show s.c≤4611686018427387904;omega⟩,aQ (H:=K9 sh t m) ((h+1:Nat),s.stored (W (0+m)+1+h) (aV 0 0 false 0 0)) ?_ ⟨⟨by show h+1≤4;omega,⟨by show 0≤s.c+1;omega,by show s.c+1≤1000*((h+1:Nat):Int);omega⟩,?_⟩,by show 4 - (h+1)<4 - h;omega⟩⟩
   ·simp only [K9,←e4']
    rfl
   ·have e9:(3 - (h:Int)).toNat =4 - (h+1):=by omega
    refine Eq.trans heq ?_
    rw [vM _ _ _ _ (by omega),e9];rfl
  ·rw [bP,dF']at e1
   have e1: ¬(h:Int)<4:=e1
   have e5:h=4:=by omega
   subst e5
   have heq':f9 sh (W (0+m)) [] 4 0 (memN t (W (0+m)))=s:=heq
   rw [hn]at heq'
   unfold bO at hK
   rw [heq']at hK
   rw [hn]
   exact hK
def fillSa:aM Ob:=fun args h=>match args,h with
 | [.int .i64 sh,.int .i64 t,.int .i64 m,.slice 0 0 k 1],[some (.ints (some .i64) xs)]=>some (.pre (k=xs.length∧sH t m xs) (.ret (.tup [.ptr 1 0,.agg [.int .i64 t,.int .i64 (xs.length+m)]]) [some (.ints (some .i64) xs),aZ 2 (bO sh t (xs.length+m) xs),a9 (bO sh t (xs.length+m) xs)]))
 | _,_=>none
def fillSb:aM Ob:=fun args h=>match args,h with
 | [.int .i64 sh,.int .i64 t,.int .i64 m,.raw (.slice none 0 0)],[]=>some (.pre (sH t m []) (.ret (.tup [.ptr 0 0,.agg [.int .i64 t,.int .i64 m]]) [aZ 1 (bO sh t m []),a9 (bO sh t m [])]))
 | _,_=>none
theorem NC:sT' 15 fillSa:=by
 intro args h o ho K hK
 unfold fillSa at ho
 split at ho<;>cases ho
 rename_i sh t m k xs
 obtain⟨⟨rfl,ok⟩,hK⟩:=hK
 exact ES sh t m xs K (RT sh t m xs K ok.hm ok.hl ok.hr ok.hk hK)
theorem B2:sT' 15 fillSb:=by
 intro args h o ho K hK
 unfold fillSb at ho
 split at ho<;>cases ho
 rename_i sh t m
 obtain⟨ok,hK⟩:=hK
 exact B3 sh t m K (ND sh t m K ok hK)
noncomputable def fillS:aM Ob:=aM.or fillSa fillSb
theorem zZ:sT' 15 fillS:=aCN NC B2
noncomputable def EF1:=EZ.addS 15 fillS zZ
def stNewS:aM Ob:=fun args h=>match args,h with
 | [.agg [.int .i64 t,.int .i64 n],.int .i64 me],[]=>some (.pre True (.ret (.ptr 0 0) [stC 1 t n ⟨me,0,[]⟩,mM ⟨me,0,[]⟩]))
 | _,_=>none
theorem C7:sT' 19 stNewS:=by
 intro args h o ho K hK
 unfold stNewS at ho
 split at ho<;>cases ho
 rename_i t n me
 obtain⟨_,hK⟩:=hK
 have hK:K (.ptr 0 0) [stC 1 t n ⟨me,0,[]⟩,mM ⟨me,0,[]⟩]:=hK
 refine aCu (aC5 (cs:=[(.cell 1 4,.ints (some .i64))]) (cM' (E:=EF1) (q:=K (.ptr 0 0) [some (.cells [.int .i64 t,.int .i64 n,.int .i64 me,.int .i64 0,.slice 1 0 0 1]),some (.ints (some .i64) [])]) (by kernel_rfl) ?_))
 exact hK
noncomputable def EF2:=EF1.addS 19 stNewS C7
def RK0:i3 tbl where
 R:=Empty
 row:=fun x=>nomatch x
 hole:=fun x=>nomatch x
 els:=fun x=>nomatch x
 len:=fun x=>nomatch x
 upd:=fun x=>nomatch x
 isRow:=fun _=>none
 isHole:=fun _=>none
 is:=fun x=>nomatch x
 get:=fun x=>nomatch x
 isRow_eq:=fun _ x _=>nomatch x
 isHole_eq:=fun _ x _ _=>nomatch x
 len_eq:=fun x=>nomatch x
 upd_eq:=fun x=>nomatch x
 is_true:=fun x=>nomatch x
 is_false:=fun x=>nomatch x
 tbRow:=fun x=>nomatch x
 tbHole:=fun x=>nomatch x
noncomputable def EF3:qA Ob Tryz.prog:= {EF2 with row:=RK0.ops Tryz.prog,rowOk:=RK0.ops_ok}
def enNSA:aM Ob:=fun args h=>match args,h with
 | [.ptr 0 0],[some (.abs (.store t n st) [])]=>some (.pre (BS t n st).ok (.ret (.ptr 1 0) [some (.abs (.store t n (BS t n st).val) []),some (.abs (.ensure t n cF) [0])]))
 | _,_=>none
theorem RG:sT' 37 enNSA:=by
 intro args h o ho K hK
 unfold enNSA at ho
 split at ho<;>cases ho
 rename_i t n st
 obtain⟨ok,hK⟩:=hK
 refine aC.pack (tb:=tbl) (aC.unpack (tb:=tbl) (Mc.store t n st) 0 0 (iZ t n st) [] rfl rfl rfl rfl ?_)
 refine EK [.ptr 0 0] [stC 1 t n st,mM st] _ rfl _ ⟨⟨rfl,ok⟩,⟨[0,2,1],[some (.abs (.store t n (BS t n st).val) []),some (.abs (.ensure t n cF) [0])],.store t n (BS t n st).val,0,0,iZ t n (BS t n st).val,[],by kernel_rfl,by kernel_rfl,rfl,rfl,hK⟩⟩
noncomputable def EFr:=(EF3.addS 37 (aM.or enNSA enNS) (aCN RG EK))
def r0(r:List Int):Int:=List.headD r 0
def r1(r:List Int):Int:=List.headD (List.tail r) 0
def r2(r:List Int):Int:=List.headD (List.tail (List.tail r)) 0
noncomputable def hpRunZ:aM Ob:=fun args h=>match args,h with
 | [.ptr 0 0,.int .i64 most,.slice 2 0 1 1],[e1,e2,some (.cells [.iface 114 (.ptr 3 0)]),some (.abs (.help t n x) [4]),some (.abs (.store t2 n2 st) [])]=>(match eI 1 [e1,e2]with
   | some (l,s)=>some (.pre ((l=s.xs.length∧t2=t∧n2=n)∧(0≤most∧most≤1000000)∧tS t n most.toNat x st s) (.ite (cL t n most.toNat x st s).2.1 (.ret (.tup [.int .i64 ((cL t n most.toNat x st s).1:Int),.bool true]) [aZ 1 (cL t n most.toNat x st s).2.2.2.2,a9 (cL t n most.toNat x st s).2.2.2.2,some (.cells [.iface 114 (.ptr 3 0)]),some (.cells [.ptr 4 0,.int .i64 (cL t n most.toNat x st s).2.2.1.u,.int .u64 (cL t n most.toNat x st s).2.2.1.no,.int .i64 (cL t n most.toNat x st s).2.2.1.rounds,.int .i64 (cL t n most.toNat x st s).2.2.1.limit,.int .i64 (cL t n most.toNat x st s).2.2.1.at',.int .u64 (cL t n most.toNat x st s).2.2.1.found,.int .i64 (cL t n most.toNat x st s).2.2.1.sh,.int .i64 (cL t n most.toNat x st s).2.2.1.kd,.int .i64 (cL t n most.toNat x st s).2.2.1.ky,.bool (cL t n most.toNat x st s).2.2.1.p.now,.int .i64 (cL t n most.toNat x st s).2.2.1.p.code,.bool (cL t n most.toNat x st s).2.2.1.p.okk,.int .i64 (cL t n most.toNat x st s).2.2.1.p.val,.int .i64 (cL t n most.toNat x st s).2.2.1.p.addr,.int .u64 (cL t n most.toNat x st s).2.2.1.p.old,.int .i64 (cL t n most.toNat x st s).2.2.1.p.nxt,.bool (cL t n most.toNat x st s).2.2.1.p.mark,.int .i64 (cL t n most.toNat x st s).2.2.1.p.pops,.O,.O,.O,.O,.O]),some (.abs (.store t n (cL t n most.toNat x st s).2.2.2.1) [])]) (.ret (.tup [.int .i64 ((cL t n most.toNat x st s).1:Int),.bool false]) [aZ 1 (cL t n most.toNat x st s).2.2.2.2,a9 (cL t n most.toNat x st s).2.2.2.2,some (.cells [.iface 114 (.ptr 3 0)]),some (.abs (.help t n (cL t n most.toNat x st s).2.2.1) [4]),some (.abs (.store t n (cL t n most.toNat x st s).2.2.2.1) [])])))
   | none=>none)
 | _,_=>none
theorem JP:sT' 20 hpRunZ:=by
 intro args h o ho K hK
 unfold hpRunZ at ho
 split at ho
 case h_2=>cases ho
 rename_i most e1 e2 t n x t2 n2 st
 split at ho<;>cases ho
 rename_i l s hm
 obtain⟨⟨⟨hl,rfl,rfl⟩,hb,ok⟩,hK⟩:=hK
 unfold tS at ok
 unfold cL at hK
 have hh:=b8 hm hl
 cases hh
 refine yF t2 n2 most.toNat most x st s _ (UP t2 n2 most.toNat most x st s _ (by omega) (by omega) ok ?_)
 generalize dA t2 n2 most.toNat x st s=r at hK⊢
 obtain⟨c,b,y,sy,my⟩:=r
 cases b with
 | true=>exact hK
 | false=>exact hK
def stNewZ:aM Ob:=fun args h=>match args,h with
 | [.agg [.int .i64 t,.int .i64 n],.int .i64 me],[]=>some (.pre True (.ret (.ptr 0 0) [some (.abs (.store t n ⟨me,0,[]⟩) [])]))
 | _,_=>none
theorem KZ:sT' 19 stNewZ:=by
 intro args h o ho K hK
 unfold stNewZ at ho
 split at ho<;>cases ho
 rename_i t n me
 obtain⟨_,hK⟩:=hK
 refine aC.pack (tb:=tbl) ?_
 refine C7 [.agg [.int .i64 t,.int .i64 n],.int .i64 me] [] _ rfl _ ⟨trivial,⟨[0,1],[some (.abs (.store t n ⟨me,0,[]⟩) [])],.store t n ⟨me,0,[]⟩,0,0,iZ t n ⟨me,0,[]⟩,[],by kernel_rfl,by kernel_rfl,rfl,rfl,hK⟩⟩
noncomputable def runZ:aM Ob:=aM.or hpRunZ anRunS
theorem TO:sT' 20 runZ:=aCN JP A7
noncomputable def EFs:=((EFr.addS 19 stNewZ KZ).addS 20 runZ TO)
noncomputable def EFt:=EFs
end Go.Sh
