import Derived.Test.YtedeloeobocpiaaGreatZM46toGR
set_option linter.all false
set_option maxHeartbeats 8000000
namespace Go.Sh
open Go Go.Proofs
variable [Con]
structure FtO where
 d:Bool
 x:FTS
 st:STS
 s:MS
instance:Inhabited FtO:=⟨⟨false,U0,⟨0,0,[]⟩,⟨0,0,[],0,0,0,0,0,false⟩⟩⟩
instance:Inhabited FTS:=⟨U0⟩
abbrev MH(t n:Int)(x:FTS)(st:STS)(s:MS):aC Ob:=[some (.abs (.fast t n x) [1]),some (.abs (.store t n st) []),aX 3 s,aY s]
abbrev QA(t n:Int)(x:FTS)(st:STS)(s:MS):aC Ob:=[some (.cells [.ptr 1 0,.int .i64 x.code,.bool x.okk,.int .i64 x.val,.bool x.failed,.int .i64 x.tries,.int .i64 x.sh,.int .i64 x.kd,.int .i64 x.ky,.int .i64 x.most,.int .i64 x.at',.bool x.p.now,.int .i64 x.p.code,.bool x.p.okk,.int .i64 x.p.val,.int .i64 x.p.addr,.int .u64 x.p.old,.int .i64 x.p.nxt,.bool x.p.mark,.int .i64 x.p.pops,.O,.O,.O]),some (.abs (.store t n st) []),aX 3 s,aY s]
def FtO.fin(t n:Int)(y:FtO):Out Ob:=.ite y.d (.ret (.bool true) (QA t n y.x y.st y.s)) (.ret (.bool false) (MH t n y.x y.st y.s))
def SE(t n:Int)(v:AVal)(g:aC Ob):Option (Prop×FtO):=match v,g with
 | .bool d,[some (.cells [.ptr 1 0,.int .i64 code,.bool okk,.int .i64 val,.bool failed,.int .i64 tries,.int .i64 sh,.int .i64 kd,.int .i64 ky,.int .i64 most,.int .i64 at',.bool p_now,.int .i64 p_code,.bool p_okk,.int .i64 p_val,.int .i64 p_addr,.int .u64 p_old,.int .i64 p_nxt,.bool p_mark,.int .i64 p_pops,.O,.O,.O]),e1,e3,e4,e2]=>(match u4 4 [e1,e2],eN 3 [e3,e4]with
   | some (l2,t2,n2,st),some (l,s)=>some ((t2=t∧n2=n)∧(d=false→at'≠0∧at'≠1∧at'≠2)∧l=s.xs.length∧l2=st.R.length,⟨d,⟨code,okk,val,failed,tries,sh,kd,ky,most,at',⟨p_now,p_code,p_okk,p_val,p_addr,p_old,p_nxt,p_mark,p_pops⟩,cS,⟨0,0,0,0⟩,⟨0,0,0,false⟩⟩,st,s⟩)
   | _,_=>none)
 | _,_=>none
def SF(t n:Int)(v:AVal)(g:aC Ob):Option (Prop×FtO):=match v,g with
 | .bool d,[some (.cells [.ptr 1 0,.int .i64 code,.bool okk,.int .i64 val,.bool failed,.int .i64 tries,.int .i64 sh,.int .i64 kd,.int .i64 ky,.int .i64 most,.int .i64 at',.bool p_now,.int .i64 p_code,.bool p_okk,.int .i64 p_val,.int .i64 p_addr,.int .u64 p_old,.int .i64 p_nxt,.bool p_mark,.int .i64 p_pops,.ptr 4 0,.O,.O]),e1,e3,e4,some (.abs (.find t' n' sub) []),e2]=>(match u4 5 [e1,e2],eN 3 [e3,e4]with
   | some (l2,t2,n2,st),some (l,s)=>some ((t2=t∧n2=n)∧t'=t∧n'=n∧(d=false→at'=0)∧l=s.xs.length∧l2=st.R.length,⟨d,⟨code,okk,val,failed,tries,sh,kd,ky,most,at',⟨p_now,p_code,p_okk,p_val,p_addr,p_old,p_nxt,p_mark,p_pops⟩,sub,⟨0,0,0,0⟩,⟨0,0,0,false⟩⟩,st,s⟩)
   | _,_=>none)
 | _,_=>none
def SG(t n:Int)(v:AVal)(g:aC Ob):Option (Prop×FtO):=match v,g with
 | .bool d,[some (.cells [.ptr 1 0,.int .i64 code,.bool okk,.int .i64 val,.bool failed,.int .i64 tries,.int .i64 sh,.int .i64 kd,.int .i64 ky,.int .i64 most,.int .i64 at',.bool p_now,.int .i64 p_code,.bool p_okk,.int .i64 p_val,.int .i64 p_addr,.int .u64 p_old,.int .i64 p_nxt,.bool p_mark,.int .i64 p_pops,.O,.ptr 4 0,.O]),e1,e3,e4,some (.abs (.clear t' n' sub) []),e2]=>(match u4 5 [e1,e2],eN 3 [e3,e4]with
   | some (l2,t2,n2,st),some (l,s)=>some ((t2=t∧n2=n)∧t'=t∧n'=n∧(d=false→at'=1)∧l=s.xs.length∧l2=st.R.length,⟨d,⟨code,okk,val,failed,tries,sh,kd,ky,most,at',⟨p_now,p_code,p_okk,p_val,p_addr,p_old,p_nxt,p_mark,p_pops⟩,cS,sub,⟨0,0,0,false⟩⟩,st,s⟩)
   | _,_=>none)
 | _,_=>none
def SH(t n:Int)(v:AVal)(g:aC Ob):Option (Prop×FtO):=match v,g with
 | .bool d,[some (.cells [.ptr 1 0,.int .i64 code,.bool okk,.int .i64 val,.bool failed,.int .i64 tries,.int .i64 sh,.int .i64 kd,.int .i64 ky,.int .i64 most,.int .i64 at',.bool p_now,.int .i64 p_code,.bool p_okk,.int .i64 p_val,.int .i64 p_addr,.int .u64 p_old,.int .i64 p_nxt,.bool p_mark,.int .i64 p_pops,.O,.O,.ptr 4 0]),e1,e3,e4,some (.abs (.prepare t' n' sub) [1]),e2]=>(match u4 5 [e1,e2],eN 3 [e3,e4]with
   | some (l2,t2,n2,st),some (l,s)=>some ((t2=t∧n2=n)∧t'=t∧n'=n∧(d=false→at'=2)∧l=s.xs.length∧l2=st.R.length,⟨d,⟨code,okk,val,failed,tries,sh,kd,ky,most,at',⟨p_now,p_code,p_okk,p_val,p_addr,p_old,p_nxt,p_mark,p_pops⟩,cS,⟨0,0,0,0⟩,sub⟩,st,s⟩)
   | _,_=>none)
 | _,_=>none
def MI(t n:Int)(v:AVal)(g:aC Ob):Option (Prop×FtO):=(match SE t n v g with
 | some r=>some r
 | none=>(match SF t n v g with
 | some r=>some r
 | none=>(match SG t n v g with
 | some r=>some r
 | none=>SH t n v g)))
theorem OG{t n:Int} :dH (obI tbl) 4 (SE t n) (FtO.fin t n):=by
 intro v g p x hp hq K hK
 unfold SE at hp
 split at hp
 case h_2=>cases hp
 rename_i d code okk val failed tries sh kd ky most at' p_now p_code p_okk p_val p_addr p_old p_nxt p_mark p_pops e1 e3 e4 e2
 split at hp
 case h_2=>cases hp
 rename_i l2 t2 n2 st l s hs hm
 simp only [sI',pI']at hp
 obtain⟨rfl,rfl⟩:=hp
 obtain⟨⟨rfl,rfl⟩,hat,hl,hl2⟩:=hq
 have hh:=bU hm hl
 cases hh
 have hh:=dK hs hl2
 cases hh
 refine wO hK (fun h=>?_) (fun hd h=>?_)
 ·exact⟨⟨_,_,(aQ.pack (QA t2 n2 (⟨code,okk,val,failed,tries,sh,kd,ky,most,at',⟨p_now,p_code,p_okk,p_val,p_addr,p_old,p_nxt,p_mark,p_pops⟩,cS,⟨0,0,0,0⟩,⟨0,0,0,false⟩⟩:FTS) st s) (.store t2 n2 st) 1 0 (jT t2 n2 st) [] (by kernel_rfl) rfl rfl (by kernel_rfl)),h⟩⟩
 ·exact⟨⟨_,_,((aQ.pack (bO (MH t2 n2 (⟨code,okk,val,failed,tries,sh,kd,ky,most,at',⟨p_now,p_code,p_okk,p_val,p_addr,p_old,p_nxt,p_mark,p_pops⟩,cS,⟨0,0,0,0⟩,⟨0,0,0,false⟩⟩:FTS) st s) 0 1 (tQ t2 n2 (⟨code,okk,val,failed,tries,sh,kd,ky,most,at',⟨p_now,p_code,p_okk,p_val,p_addr,p_old,p_nxt,p_mark,p_pops⟩,cS,⟨0,0,0,0⟩,⟨0,0,0,false⟩⟩:FTS)) [1]) (.store t2 n2 st) 1 0 (jT t2 n2 st) [] (by kernel_rfl) rfl rfl (by kernel_rfl)).trans (aQ.pack (MH t2 n2 (⟨code,okk,val,failed,tries,sh,kd,ky,most,at',⟨p_now,p_code,p_okk,p_val,p_addr,p_old,p_nxt,p_mark,p_pops⟩,cS,⟨0,0,0,0⟩,⟨0,0,0,false⟩⟩:FTS) st s) (.fast t2 n2 (⟨code,okk,val,failed,tries,sh,kd,ky,most,at',⟨p_now,p_code,p_okk,p_val,p_addr,p_old,p_nxt,p_mark,p_pops⟩,cS,⟨0,0,0,0⟩,⟨0,0,0,false⟩⟩:FTS)) 0 1 (tQ t2 n2 (⟨code,okk,val,failed,tries,sh,kd,ky,most,at',⟨p_now,p_code,p_okk,p_val,p_addr,p_old,p_nxt,p_mark,p_pops⟩,cS,⟨0,0,0,0⟩,⟨0,0,0,false⟩⟩:FTS)) [1] (by kernel_rfl) rfl (congrArg (Prod.mk 1) (zS (hat hd))) (by kernel_rfl))),h⟩⟩
theorem OH{t n:Int} :dH (obI tbl) 4 (SF t n) (FtO.fin t n):=by
 intro v g p x hp hq K hK
 unfold SF at hp
 split at hp
 case h_2=>cases hp
 rename_i d code okk val failed tries sh kd ky most at' p_now p_code p_okk p_val p_addr p_old p_nxt p_mark p_pops e1 e3 e4 t' n' sub e2
 split at hp
 case h_2=>cases hp
 rename_i l2 t2 n2 st l s hs hm
 simp only [sI',pI']at hp
 obtain⟨rfl,rfl⟩:=hp
 obtain⟨⟨rfl,rfl⟩,rfl,rfl,hat,hl,hl2⟩:=hq
 have hh:=bU hm hl
 cases hh
 have hh:=dK hs hl2
 cases hh
 refine wO hK (fun h=>?_) (fun hd h=>?_)
 ·exact⟨⟨_,_,(aQ.weak (c8 _ 0 [20,21,22])).trans ((aQ.pick [0,1,2,3,5] rfl).trans ((aQ.eq (g2:=bO (QA t' n' (⟨code,okk,val,failed,tries,sh,kd,ky,most,at',⟨p_now,p_code,p_okk,p_val,p_addr,p_old,p_nxt,p_mark,p_pops⟩,sub,⟨0,0,0,0⟩,⟨0,0,0,false⟩⟩:FTS) st s) 1 0 (jT t' n' st) []) (by kernel_rfl) (by kernel_rfl)).trans (aQ.pack (QA t' n' (⟨code,okk,val,failed,tries,sh,kd,ky,most,at',⟨p_now,p_code,p_okk,p_val,p_addr,p_old,p_nxt,p_mark,p_pops⟩,sub,⟨0,0,0,0⟩,⟨0,0,0,false⟩⟩:FTS) st s) (.store t' n' st) 1 0 (jT t' n' st) [] (by kernel_rfl) rfl rfl (by kernel_rfl)))),h⟩⟩
 ·exact⟨⟨_,_,((aQ.pack (bO (MH t' n' (⟨code,okk,val,failed,tries,sh,kd,ky,most,at',⟨p_now,p_code,p_okk,p_val,p_addr,p_old,p_nxt,p_mark,p_pops⟩,sub,⟨0,0,0,0⟩,⟨0,0,0,false⟩⟩:FTS) st s) 0 1 (jY t' n' (⟨code,okk,val,failed,tries,sh,kd,ky,most,at',⟨p_now,p_code,p_okk,p_val,p_addr,p_old,p_nxt,p_mark,p_pops⟩,sub,⟨0,0,0,0⟩,⟨0,0,0,false⟩⟩:FTS)) [1]) (.store t' n' st) 1 0 (jT t' n' st) [] (by kernel_rfl) rfl rfl (by kernel_rfl)).trans (aQ.pack (MH t' n' (⟨code,okk,val,failed,tries,sh,kd,ky,most,at',⟨p_now,p_code,p_okk,p_val,p_addr,p_old,p_nxt,p_mark,p_pops⟩,sub,⟨0,0,0,0⟩,⟨0,0,0,false⟩⟩:FTS) st s) (.fast t' n' (⟨code,okk,val,failed,tries,sh,kd,ky,most,at',⟨p_now,p_code,p_okk,p_val,p_addr,p_old,p_nxt,p_mark,p_pops⟩,sub,⟨0,0,0,0⟩,⟨0,0,0,false⟩⟩:FTS)) 0 1 (jY t' n' (⟨code,okk,val,failed,tries,sh,kd,ky,most,at',⟨p_now,p_code,p_okk,p_val,p_addr,p_old,p_nxt,p_mark,p_pops⟩,sub,⟨0,0,0,0⟩,⟨0,0,0,false⟩⟩:FTS)) [1] (by kernel_rfl) rfl (congrArg (Prod.mk 1) (xQ (hat hd))) (by kernel_rfl))),h⟩⟩
theorem OI{t n:Int} :dH (obI tbl) 4 (SG t n) (FtO.fin t n):=by
 intro v g p x hp hq K hK
 unfold SG at hp
 split at hp
 case h_2=>cases hp
 rename_i d code okk val failed tries sh kd ky most at' p_now p_code p_okk p_val p_addr p_old p_nxt p_mark p_pops e1 e3 e4 t' n' sub e2
 split at hp
 case h_2=>cases hp
 rename_i l2 t2 n2 st l s hs hm
 simp only [sI',pI']at hp
 obtain⟨rfl,rfl⟩:=hp
 obtain⟨⟨rfl,rfl⟩,rfl,rfl,hat,hl,hl2⟩:=hq
 have hh:=bU hm hl
 cases hh
 have hh:=dK hs hl2
 cases hh
 refine wO hK (fun h=>?_) (fun hd h=>?_)
 ·exact⟨⟨_,_,(aQ.weak (c8 _ 0 [20,21,22])).trans ((aQ.pick [0,1,2,3,5] rfl).trans ((aQ.eq (g2:=bO (QA t' n' (⟨code,okk,val,failed,tries,sh,kd,ky,most,at',⟨p_now,p_code,p_okk,p_val,p_addr,p_old,p_nxt,p_mark,p_pops⟩,cS,sub,⟨0,0,0,false⟩⟩:FTS) st s) 1 0 (jT t' n' st) []) (by kernel_rfl) (by kernel_rfl)).trans (aQ.pack (QA t' n' (⟨code,okk,val,failed,tries,sh,kd,ky,most,at',⟨p_now,p_code,p_okk,p_val,p_addr,p_old,p_nxt,p_mark,p_pops⟩,cS,sub,⟨0,0,0,false⟩⟩:FTS) st s) (.store t' n' st) 1 0 (jT t' n' st) [] (by kernel_rfl) rfl rfl (by kernel_rfl)))),h⟩⟩
 ·exact⟨⟨_,_,((aQ.pack (bO (MH t' n' (⟨code,okk,val,failed,tries,sh,kd,ky,most,at',⟨p_now,p_code,p_okk,p_val,p_addr,p_old,p_nxt,p_mark,p_pops⟩,cS,sub,⟨0,0,0,false⟩⟩:FTS) st s) 0 1 (lY t' n' (⟨code,okk,val,failed,tries,sh,kd,ky,most,at',⟨p_now,p_code,p_okk,p_val,p_addr,p_old,p_nxt,p_mark,p_pops⟩,cS,sub,⟨0,0,0,false⟩⟩:FTS)) [1]) (.store t' n' st) 1 0 (jT t' n' st) [] (by kernel_rfl) rfl rfl (by kernel_rfl)).trans (aQ.pack (MH t' n' (⟨code,okk,val,failed,tries,sh,kd,ky,most,at',⟨p_now,p_code,p_okk,p_val,p_addr,p_old,p_nxt,p_mark,p_pops⟩,cS,sub,⟨0,0,0,false⟩⟩:FTS) st s) (.fast t' n' (⟨code,okk,val,failed,tries,sh,kd,ky,most,at',⟨p_now,p_code,p_okk,p_val,p_addr,p_old,p_nxt,p_mark,p_pops⟩,cS,sub,⟨0,0,0,false⟩⟩:FTS)) 0 1 (lY t' n' (⟨code,okk,val,failed,tries,sh,kd,ky,most,at',⟨p_now,p_code,p_okk,p_val,p_addr,p_old,p_nxt,p_mark,p_pops⟩,cS,sub,⟨0,0,0,false⟩⟩:FTS)) [1] (by kernel_rfl) rfl (congrArg (Prod.mk 1) (DV (hat hd))) (by kernel_rfl))),h⟩⟩
theorem OJ{t n:Int} :dH (obI tbl) 4 (SH t n) (FtO.fin t n):=by
 intro v g p x hp hq K hK
 unfold SH at hp
 split at hp
 case h_2=>cases hp
 rename_i d code okk val failed tries sh kd ky most at' p_now p_code p_okk p_val p_addr p_old p_nxt p_mark p_pops e1 e3 e4 t' n' sub e2
 split at hp
 case h_2=>cases hp
 rename_i l2 t2 n2 st l s hs hm
 simp only [sI',pI']at hp
 obtain⟨rfl,rfl⟩:=hp
 obtain⟨⟨rfl,rfl⟩,rfl,rfl,hat,hl,hl2⟩:=hq
 have hh:=bU hm hl
 cases hh
 have hh:=dK hs hl2
 cases hh
 refine wO hK (fun h=>?_) (fun hd h=>?_)
 ·exact⟨⟨_,_,(aQ.weak (c8 _ 0 [20,21,22])).trans ((aQ.pick [0,1,2,3,5] rfl).trans ((aQ.eq (g2:=bO (QA t' n' (⟨code,okk,val,failed,tries,sh,kd,ky,most,at',⟨p_now,p_code,p_okk,p_val,p_addr,p_old,p_nxt,p_mark,p_pops⟩,cS,⟨0,0,0,0⟩,sub⟩:FTS) st s) 1 0 (jT t' n' st) []) (by kernel_rfl) (by kernel_rfl)).trans (aQ.pack (QA t' n' (⟨code,okk,val,failed,tries,sh,kd,ky,most,at',⟨p_now,p_code,p_okk,p_val,p_addr,p_old,p_nxt,p_mark,p_pops⟩,cS,⟨0,0,0,0⟩,sub⟩:FTS) st s) (.store t' n' st) 1 0 (jT t' n' st) [] (by kernel_rfl) rfl rfl (by kernel_rfl)))),h⟩⟩
 ·exact⟨⟨_,_,((aQ.pack (bO (MH t' n' (⟨code,okk,val,failed,tries,sh,kd,ky,most,at',⟨p_now,p_code,p_okk,p_val,p_addr,p_old,p_nxt,p_mark,p_pops⟩,cS,⟨0,0,0,0⟩,sub⟩:FTS) st s) 0 1 (lZ t' n' (⟨code,okk,val,failed,tries,sh,kd,ky,most,at',⟨p_now,p_code,p_okk,p_val,p_addr,p_old,p_nxt,p_mark,p_pops⟩,cS,⟨0,0,0,0⟩,sub⟩:FTS)) [1]) (.store t' n' st) 1 0 (jT t' n' st) [] (by kernel_rfl) rfl rfl (by kernel_rfl)).trans (aQ.pack (MH t' n' (⟨code,okk,val,failed,tries,sh,kd,ky,most,at',⟨p_now,p_code,p_okk,p_val,p_addr,p_old,p_nxt,p_mark,p_pops⟩,cS,⟨0,0,0,0⟩,sub⟩:FTS) st s) (.fast t' n' (⟨code,okk,val,failed,tries,sh,kd,ky,most,at',⟨p_now,p_code,p_okk,p_val,p_addr,p_old,p_nxt,p_mark,p_pops⟩,cS,⟨0,0,0,0⟩,sub⟩:FTS)) 0 1 (lZ t' n' (⟨code,okk,val,failed,tries,sh,kd,ky,most,at',⟨p_now,p_code,p_okk,p_val,p_addr,p_old,p_nxt,p_mark,p_pops⟩,cS,⟨0,0,0,0⟩,sub⟩:FTS)) [1] (by kernel_rfl) rfl (congrArg (Prod.mk 1) (DW (hat hd))) (by kernel_rfl))),h⟩⟩
theorem xX{t n:Int} :dH (obI tbl) 4 (MI t n) (FtO.fin t n):=by
 intro v g p x hp hq K hK
 unfold MI at hp
 split at hp
 ·rename_i r hr
  cases hp
  exact OG v g p x hr hq K hK
 split at hp
 ·rename_i r hr
  cases hp
  exact OH v g p x hr hq K hK
 split at hp
 ·rename_i r hr
  cases hp
  exact OI v g p x hr hq K hK
 exact OJ v g p x hp hq K hK
def pE(t n:Int)(x:FTS)(st:STS)(s:MS):Tr FtO:=.pre True (.ite (!cO x.6 x.7 x.8) (.pre (lE' s.3∧(0:Int)≤s.4∧s.4≤(4611686018427387904:Int)) (.pre ((t=t∧n=n)∧t=t∧n=n∧(true=false→(0:Int)=(0:Int))∧lE' s.3∧lE' st.3) (.ret {d:=true,x:= {x with failed:=true,at':=0,p:= {now:=(FTS.p x).1,code:=(FTS.p x).2,okk:=(FTS.p x).3,val:=(FTS.p x).4,addr:=(FTS.p x).5,old:=(FTS.p x).6,nxt:=(FTS.p x).7,mark:=(FTS.p x).8,pops:=(FTS.p x).9},cl:=bF,pr:=dN},st:= {me:=st.1,sp:=st.2,R:=st.3},s:= {s with c:=s.4+1,k:=1,a:=0,o:=aA s.3 0,w:=aA s.3 0,ok:=bR s.3 0} }))) (.pre True (.ite (bT x.7) (.ite (ieq st.2 0) (.pre (lE' s.3∧(0:Int)≤s.4∧s.4≤(4611686018427387904:Int)) (.pre ((t=t∧n=n)∧t=t∧n=n∧(true=false→(0:Int)=(0:Int))∧lE' s.3∧lE' st.3) (.ret {d:=true,x:= {x with failed:=true,at':=0,p:= {now:=(FTS.p x).1,code:=(FTS.p x).2,okk:=(FTS.p x).3,val:=(FTS.p x).4,addr:=(FTS.p x).5,old:=(FTS.p x).6,nxt:=(FTS.p x).7,mark:=(FTS.p x).8,pops:=(FTS.p x).9},cl:=bF,pr:=dN},st:= {me:=st.1,sp:=st.2,R:=st.3},s:= {s with c:=s.4+1,k:=1,a:=0,o:=aA s.3 0,w:=aA s.3 0,ok:=bR s.3 0} }))) (.pre (lE' s.3∧NZ t n x.12 s) (.ite (fnF t n x.12 s).1 (.pre ((lE' st.3∧lE' (FnO.x (fnF t n x.12 s)).6∧List.length st.3+List.length (FnO.x (fnF t n x.12 s)).6≤(4294967296:Nat))∧True) (.ite (ilt x.9 (W (x.5+(FnO.x (fnF t n x.12 s)).5))) (.pre ((t=t∧n=n)∧(true=false→(0:Int)≠(0:Int)∧(0:Int)≠(1:Int)∧(0:Int)≠(2:Int))∧lE' (FnO.s (fnF t n x.12 s)).3∧List.length st.3+List.length (FnO.x (fnF t n x.12 s)).6=List.length (st.3++(FnO.x (fnF t n x.12 s)).6)) (.ret {d:=true,x:= {x with failed:=ilt x.9 (W (x.5+(FnO.x (fnF t n x.12 s)).5)),tries:=W (x.5+(FnO.x (fnF t n x.12 s)).5),at':=0,p:= {now:=(FTS.p x).1,code:=(FTS.p x).2,okk:=(FTS.p x).3,val:=(FTS.p x).4,addr:=(FTS.p x).5,old:=(FTS.p x).6,nxt:=(FTS.p x).7,mark:=(FTS.p x).8,pops:=(FTS.p x).9},fn:=cS,cl:=bF,pr:=dN},st:= {me:=st.1,sp:=st.2,R:=st.3++(FnO.x (fnF t n x.12 s)).6},s:= {t:=(FnO.s (fnF t n x.12 s)).1,n:=(FnO.s (fnF t n x.12 s)).2,xs:=(FnO.s (fnF t n x.12 s)).3,c:=(FnO.s (fnF t n x.12 s)).4,k:=(FnO.s (fnF t n x.12 s)).5,a:=(FnO.s (fnF t n x.12 s)).6,o:=(FnO.s (fnF t n x.12 s)).7,w:=(FnO.s (fnF t n x.12 s)).8,ok:=(FnO.s (fnF t n x.12 s)).9} })) (.pre (yC x.6 x.7 x.8 (FnO.x (fnF t n x.12 s)).1 (FnO.x (fnF t n x.12 s)).2 (FnO.x (fnF t n x.12 s)).3 (FnO.x (fnF t n x.12 s)).4 st.2∧True) (.ite (aP x.6 x.7 x.8 (FnO.x (fnF t n x.12 s)).1 (FnO.x (fnF t n x.12 s)).2 (FnO.x (fnF t n x.12 s)).3 (FnO.x (fnF t n x.12 s)).4 st.2).1 (.pre ((t=t∧n=n)∧(true=false→(0:Int)≠(0:Int)∧(0:Int)≠(1:Int)∧(0:Int)≠(2:Int))∧lE' (FnO.s (fnF t n x.12 s)).3∧List.length st.3+List.length (FnO.x (fnF t n x.12 s)).6=List.length (st.3++(FnO.x (fnF t n x.12 s)).6)) (.ret {d:=true,x:= {x with code:=(aP x.6 x.7 x.8 (FnO.x (fnF t n x.12 s)).1 (FnO.x (fnF t n x.12 s)).2 (FnO.x (fnF t n x.12 s)).3 (FnO.x (fnF t n x.12 s)).4 st.2).2,okk:=(aP x.6 x.7 x.8 (FnO.x (fnF t n x.12 s)).1 (FnO.x (fnF t n x.12 s)).2 (FnO.x (fnF t n x.12 s)).3 (FnO.x (fnF t n x.12 s)).4 st.2).3,val:=(aP x.6 x.7 x.8 (FnO.x (fnF t n x.12 s)).1 (FnO.x (fnF t n x.12 s)).2 (FnO.x (fnF t n x.12 s)).3 (FnO.x (fnF t n x.12 s)).4 st.2).4,failed:=ilt x.9 (W (x.5+(FnO.x (fnF t n x.12 s)).5)),tries:=W (x.5+(FnO.x (fnF t n x.12 s)).5),at':=0,p:= {now:=(aP x.6 x.7 x.8 (FnO.x (fnF t n x.12 s)).1 (FnO.x (fnF t n x.12 s)).2 (FnO.x (fnF t n x.12 s)).3 (FnO.x (fnF t n x.12 s)).4 st.2).1,code:=(aP x.6 x.7 x.8 (FnO.x (fnF t n x.12 s)).1 (FnO.x (fnF t n x.12 s)).2 (FnO.x (fnF t n x.12 s)).3 (FnO.x (fnF t n x.12 s)).4 st.2).2,okk:=(aP x.6 x.7 x.8 (FnO.x (fnF t n x.12 s)).1 (FnO.x (fnF t n x.12 s)).2 (FnO.x (fnF t n x.12 s)).3 (FnO.x (fnF t n x.12 s)).4 st.2).3,val:=(aP x.6 x.7 x.8 (FnO.x (fnF t n x.12 s)).1 (FnO.x (fnF t n x.12 s)).2 (FnO.x (fnF t n x.12 s)).3 (FnO.x (fnF t n x.12 s)).4 st.2).4,addr:=(aP x.6 x.7 x.8 (FnO.x (fnF t n x.12 s)).1 (FnO.x (fnF t n x.12 s)).2 (FnO.x (fnF t n x.12 s)).3 (FnO.x (fnF t n x.12 s)).4 st.2).5,old:=(aP x.6 x.7 x.8 (FnO.x (fnF t n x.12 s)).1 (FnO.x (fnF t n x.12 s)).2 (FnO.x (fnF t n x.12 s)).3 (FnO.x (fnF t n x.12 s)).4 st.2).6,nxt:=(aP x.6 x.7 x.8 (FnO.x (fnF t n x.12 s)).1 (FnO.x (fnF t n x.12 s)).2 (FnO.x (fnF t n x.12 s)).3 (FnO.x (fnF t n x.12 s)).4 st.2).7,mark:=(aP x.6 x.7 x.8 (FnO.x (fnF t n x.12 s)).1 (FnO.x (fnF t n x.12 s)).2 (FnO.x (fnF t n x.12 s)).3 (FnO.x (fnF t n x.12 s)).4 st.2).8,pops:=(aP x.6 x.7 x.8 (FnO.x (fnF t n x.12 s)).1 (FnO.x (fnF t n x.12 s)).2 (FnO.x (fnF t n x.12 s)).3 (FnO.x (fnF t n x.12 s)).4 st.2).9},fn:=cS,cl:=bF,pr:=dN},st:= {me:=st.1,sp:=st.2,R:=st.3++(FnO.x (fnF t n x.12 s)).6},s:= {t:=(FnO.s (fnF t n x.12 s)).1,n:=(FnO.s (fnF t n x.12 s)).2,xs:=(FnO.s (fnF t n x.12 s)).3,c:=(FnO.s (fnF t n x.12 s)).4,k:=(FnO.s (fnF t n x.12 s)).5,a:=(FnO.s (fnF t n x.12 s)).6,o:=(FnO.s (fnF t n x.12 s)).7,w:=(FnO.s (fnF t n x.12 s)).8,ok:=(FnO.s (fnF t n x.12 s)).9} })) (.pre (pS (aP x.6 x.7 x.8 (FnO.x (fnF t n x.12 s)).1 (FnO.x (fnF t n x.12 s)).2 (FnO.x (fnF t n x.12 s)).3 (FnO.x (fnF t n x.12 s)).4 st.2).1 (aP x.6 x.7 x.8 (FnO.x (fnF t n x.12 s)).1 (FnO.x (fnF t n x.12 s)).2 (FnO.x (fnF t n x.12 s)).3 (FnO.x (fnF t n x.12 s)).4 st.2).2 (aP x.6 x.7 x.8 (FnO.x (fnF t n x.12 s)).1 (FnO.x (fnF t n x.12 s)).2 (FnO.x (fnF t n x.12 s)).3 (FnO.x (fnF t n x.12 s)).4 st.2).3 (aP x.6 x.7 x.8 (FnO.x (fnF t n x.12 s)).1 (FnO.x (fnF t n x.12 s)).2 (FnO.x (fnF t n x.12 s)).3 (FnO.x (fnF t n x.12 s)).4 st.2).4 (aP x.6 x.7 x.8 (FnO.x (fnF t n x.12 s)).1 (FnO.x (fnF t n x.12 s)).2 (FnO.x (fnF t n x.12 s)).3 (FnO.x (fnF t n x.12 s)).4 st.2).5 (aP x.6 x.7 x.8 (FnO.x (fnF t n x.12 s)).1 (FnO.x (fnF t n x.12 s)).2 (FnO.x (fnF t n x.12 s)).3 (FnO.x (fnF t n x.12 s)).4 st.2).6 (aP x.6 x.7 x.8 (FnO.x (fnF t n x.12 s)).1 (FnO.x (fnF t n x.12 s)).2 (FnO.x (fnF t n x.12 s)).3 (FnO.x (fnF t n x.12 s)).4 st.2).7 (aP x.6 x.7 x.8 (FnO.x (fnF t n x.12 s)).1 (FnO.x (fnF t n x.12 s)).2 (FnO.x (fnF t n x.12 s)).3 (FnO.x (fnF t n x.12 s)).4 st.2).8 (aP x.6 x.7 x.8 (FnO.x (fnF t n x.12 s)).1 (FnO.x (fnF t n x.12 s)).2 (FnO.x (fnF t n x.12 s)).3 (FnO.x (fnF t n x.12 s)).4 st.2).9) (.ite (kW (aP x.6 x.7 x.8 (FnO.x (fnF t n x.12 s)).1 (FnO.x (fnF t n x.12 s)).2 (FnO.x (fnF t n x.12 s)).3 (FnO.x (fnF t n x.12 s)).4 st.2).1 (aP x.6 x.7 x.8 (FnO.x (fnF t n x.12 s)).1 (FnO.x (fnF t n x.12 s)).2 (FnO.x (fnF t n x.12 s)).3 (FnO.x (fnF t n x.12 s)).4 st.2).2 (aP x.6 x.7 x.8 (FnO.x (fnF t n x.12 s)).1 (FnO.x (fnF t n x.12 s)).2 (FnO.x (fnF t n x.12 s)).3 (FnO.x (fnF t n x.12 s)).4 st.2).3 (aP x.6 x.7 x.8 (FnO.x (fnF t n x.12 s)).1 (FnO.x (fnF t n x.12 s)).2 (FnO.x (fnF t n x.12 s)).3 (FnO.x (fnF t n x.12 s)).4 st.2).4 (aP x.6 x.7 x.8 (FnO.x (fnF t n x.12 s)).1 (FnO.x (fnF t n x.12 s)).2 (FnO.x (fnF t n x.12 s)).3 (FnO.x (fnF t n x.12 s)).4 st.2).5 (aP x.6 x.7 x.8 (FnO.x (fnF t n x.12 s)).1 (FnO.x (fnF t n x.12 s)).2 (FnO.x (fnF t n x.12 s)).3 (FnO.x (fnF t n x.12 s)).4 st.2).6 (aP x.6 x.7 x.8 (FnO.x (fnF t n x.12 s)).1 (FnO.x (fnF t n x.12 s)).2 (FnO.x (fnF t n x.12 s)).3 (FnO.x (fnF t n x.12 s)).4 st.2).7 (aP x.6 x.7 x.8 (FnO.x (fnF t n x.12 s)).1 (FnO.x (fnF t n x.12 s)).2 (FnO.x (fnF t n x.12 s)).3 (FnO.x (fnF t n x.12 s)).4 st.2).8 (aP x.6 x.7 x.8 (FnO.x (fnF t n x.12 s)).1 (FnO.x (fnF t n x.12 s)).2 (FnO.x (fnF t n x.12 s)).3 (FnO.x (fnF t n x.12 s)).4 st.2).9) (.pre (rP t n (aP x.6 x.7 x.8 (FnO.x (fnF t n x.12 s)).1 (FnO.x (fnF t n x.12 s)).2 (FnO.x (fnF t n x.12 s)).3 (FnO.x (fnF t n x.12 s)).4 st.2).5∧True) (.pre ((t=t∧n=n)∧t=t∧n=n∧(false=false→(1:Int)=(1:Int))∧lE' (FnO.s (fnF t n x.12 s)).3∧List.length st.3+List.length (FnO.x (fnF t n x.12 s)).6=List.length (st.3++(FnO.x (fnF t n x.12 s)).6)) (.ret {d:=false,x:= {x with failed:=ilt x.9 (W (x.5+(FnO.x (fnF t n x.12 s)).5)),tries:=W (x.5+(FnO.x (fnF t n x.12 s)).5),at':=1,p:= {now:=(aP x.6 x.7 x.8 (FnO.x (fnF t n x.12 s)).1 (FnO.x (fnF t n x.12 s)).2 (FnO.x (fnF t n x.12 s)).3 (FnO.x (fnF t n x.12 s)).4 st.2).1,code:=(aP x.6 x.7 x.8 (FnO.x (fnF t n x.12 s)).1 (FnO.x (fnF t n x.12 s)).2 (FnO.x (fnF t n x.12 s)).3 (FnO.x (fnF t n x.12 s)).4 st.2).2,okk:=(aP x.6 x.7 x.8 (FnO.x (fnF t n x.12 s)).1 (FnO.x (fnF t n x.12 s)).2 (FnO.x (fnF t n x.12 s)).3 (FnO.x (fnF t n x.12 s)).4 st.2).3,val:=(aP x.6 x.7 x.8 (FnO.x (fnF t n x.12 s)).1 (FnO.x (fnF t n x.12 s)).2 (FnO.x (fnF t n x.12 s)).3 (FnO.x (fnF t n x.12 s)).4 st.2).4,addr:=(aP x.6 x.7 x.8 (FnO.x (fnF t n x.12 s)).1 (FnO.x (fnF t n x.12 s)).2 (FnO.x (fnF t n x.12 s)).3 (FnO.x (fnF t n x.12 s)).4 st.2).5,old:=(aP x.6 x.7 x.8 (FnO.x (fnF t n x.12 s)).1 (FnO.x (fnF t n x.12 s)).2 (FnO.x (fnF t n x.12 s)).3 (FnO.x (fnF t n x.12 s)).4 st.2).6,nxt:=(aP x.6 x.7 x.8 (FnO.x (fnF t n x.12 s)).1 (FnO.x (fnF t n x.12 s)).2 (FnO.x (fnF t n x.12 s)).3 (FnO.x (fnF t n x.12 s)).4 st.2).7,mark:=(aP x.6 x.7 x.8 (FnO.x (fnF t n x.12 s)).1 (FnO.x (fnF t n x.12 s)).2 (FnO.x (fnF t n x.12 s)).3 (FnO.x (fnF t n x.12 s)).4 st.2).8,pops:=(aP x.6 x.7 x.8 (FnO.x (fnF t n x.12 s)).1 (FnO.x (fnF t n x.12 s)).2 (FnO.x (fnF t n x.12 s)).3 (FnO.x (fnF t n x.12 s)).4 st.2).9},fn:=cS,cl:=zD t n (aP x.6 x.7 x.8 (FnO.x (fnF t n x.12 s)).1 (FnO.x (fnF t n x.12 s)).2 (FnO.x (fnF t n x.12 s)).3 (FnO.x (fnF t n x.12 s)).4 st.2).5,pr:=dN},st:= {me:=st.1,sp:=st.2,R:=st.3++(FnO.x (fnF t n x.12 s)).6},s:= {t:=(FnO.s (fnF t n x.12 s)).1,n:=(FnO.s (fnF t n x.12 s)).2,xs:=(FnO.s (fnF t n x.12 s)).3,c:=(FnO.s (fnF t n x.12 s)).4,k:=(FnO.s (fnF t n x.12 s)).5,a:=(FnO.s (fnF t n x.12 s)).6,o:=(FnO.s (fnF t n x.12 s)).7,w:=(FnO.s (fnF t n x.12 s)).8,ok:=(FnO.s (fnF t n x.12 s)).9} }))) (.pre True (.ite (bT x.7) (.pre ((List.length st.3+List.length (FnO.x (fnF t n x.12 s)).6=List.length (st.3++(FnO.x (fnF t n x.12 s)).6)∧EU t n x.8 (FnO.x (fnF t n x.12 s)).3 {me:=st.1,sp:=st.2,R:=st.3++(FnO.x (fnF t n x.12 s)).6})∧True) (.pre ((t=t∧n=n)∧t=t∧n=n∧(false=false→(2:Int)=(2:Int))∧lE' (FnO.s (fnF t n x.12 s)).3∧lE' (Prod.snd (pT t n x.8 (FnO.x (fnF t n x.12 s)).3 {me:=st.1,sp:=st.2,R:=st.3++(FnO.x (fnF t n x.12 s)).6})).3) (.ret {d:=false,x:= {x with failed:=ilt x.9 (W (x.5+(FnO.x (fnF t n x.12 s)).5)),tries:=W (x.5+(FnO.x (fnF t n x.12 s)).5),at':=2,p:= {now:=(aP x.6 x.7 x.8 (FnO.x (fnF t n x.12 s)).1 (FnO.x (fnF t n x.12 s)).2 (FnO.x (fnF t n x.12 s)).3 (FnO.x (fnF t n x.12 s)).4 st.2).1,code:=(aP x.6 x.7 x.8 (FnO.x (fnF t n x.12 s)).1 (FnO.x (fnF t n x.12 s)).2 (FnO.x (fnF t n x.12 s)).3 (FnO.x (fnF t n x.12 s)).4 st.2).2,okk:=(aP x.6 x.7 x.8 (FnO.x (fnF t n x.12 s)).1 (FnO.x (fnF t n x.12 s)).2 (FnO.x (fnF t n x.12 s)).3 (FnO.x (fnF t n x.12 s)).4 st.2).3,val:=(aP x.6 x.7 x.8 (FnO.x (fnF t n x.12 s)).1 (FnO.x (fnF t n x.12 s)).2 (FnO.x (fnF t n x.12 s)).3 (FnO.x (fnF t n x.12 s)).4 st.2).4,addr:=(aP x.6 x.7 x.8 (FnO.x (fnF t n x.12 s)).1 (FnO.x (fnF t n x.12 s)).2 (FnO.x (fnF t n x.12 s)).3 (FnO.x (fnF t n x.12 s)).4 st.2).5,old:=(aP x.6 x.7 x.8 (FnO.x (fnF t n x.12 s)).1 (FnO.x (fnF t n x.12 s)).2 (FnO.x (fnF t n x.12 s)).3 (FnO.x (fnF t n x.12 s)).4 st.2).6,nxt:=(aP x.6 x.7 x.8 (FnO.x (fnF t n x.12 s)).1 (FnO.x (fnF t n x.12 s)).2 (FnO.x (fnF t n x.12 s)).3 (FnO.x (fnF t n x.12 s)).4 st.2).7,mark:=(aP x.6 x.7 x.8 (FnO.x (fnF t n x.12 s)).1 (FnO.x (fnF t n x.12 s)).2 (FnO.x (fnF t n x.12 s)).3 (FnO.x (fnF t n x.12 s)).4 st.2).8,pops:=(aP x.6 x.7 x.8 (FnO.x (fnF t n x.12 s)).1 (FnO.x (fnF t n x.12 s)).2 (FnO.x (fnF t n x.12 s)).3 (FnO.x (fnF t n x.12 s)).4 st.2).9},fn:=cS,cl:=bF,pr:=(pT t n x.8 (FnO.x (fnF t n x.12 s)).3 {me:=st.1,sp:=st.2,R:=st.3++(FnO.x (fnF t n x.12 s)).6}).1},st:= {me:=(Prod.snd (pT t n x.8 (FnO.x (fnF t n x.12 s)).3 {me:=st.1,sp:=st.2,R:=st.3++(FnO.x (fnF t n x.12 s)).6})).1,sp:=(Prod.snd (pT t n x.8 (FnO.x (fnF t n x.12 s)).3 {me:=st.1,sp:=st.2,R:=st.3++(FnO.x (fnF t n x.12 s)).6})).2,R:=(Prod.snd (pT t n x.8 (FnO.x (fnF t n x.12 s)).3 {me:=st.1,sp:=st.2,R:=st.3++(FnO.x (fnF t n x.12 s)).6})).3},s:= {t:=(FnO.s (fnF t n x.12 s)).1,n:=(FnO.s (fnF t n x.12 s)).2,xs:=(FnO.s (fnF t n x.12 s)).3,c:=(FnO.s (fnF t n x.12 s)).4,k:=(FnO.s (fnF t n x.12 s)).5,a:=(FnO.s (fnF t n x.12 s)).6,o:=(FnO.s (fnF t n x.12 s)).7,w:=(FnO.s (fnF t n x.12 s)).8,ok:=(FnO.s (fnF t n x.12 s)).9} }))) (.pre ((t=t∧n=n)∧(false=false→(3:Int)≠(0:Int)∧(3:Int)≠(1:Int)∧(3:Int)≠(2:Int))∧lE' (FnO.s (fnF t n x.12 s)).3∧List.length st.3+List.length (FnO.x (fnF t n x.12 s)).6=List.length (st.3++(FnO.x (fnF t n x.12 s)).6)) (.ret {d:=false,x:= {x with failed:=ilt x.9 (W (x.5+(FnO.x (fnF t n x.12 s)).5)),tries:=W (x.5+(FnO.x (fnF t n x.12 s)).5),at':=3,p:= {now:=(aP x.6 x.7 x.8 (FnO.x (fnF t n x.12 s)).1 (FnO.x (fnF t n x.12 s)).2 (FnO.x (fnF t n x.12 s)).3 (FnO.x (fnF t n x.12 s)).4 st.2).1,code:=(aP x.6 x.7 x.8 (FnO.x (fnF t n x.12 s)).1 (FnO.x (fnF t n x.12 s)).2 (FnO.x (fnF t n x.12 s)).3 (FnO.x (fnF t n x.12 s)).4 st.2).2,okk:=(aP x.6 x.7 x.8 (FnO.x (fnF t n x.12 s)).1 (FnO.x (fnF t n x.12 s)).2 (FnO.x (fnF t n x.12 s)).3 (FnO.x (fnF t n x.12 s)).4 st.2).3,val:=(aP x.6 x.7 x.8 (FnO.x (fnF t n x.12 s)).1 (FnO.x (fnF t n x.12 s)).2 (FnO.x (fnF t n x.12 s)).3 (FnO.x (fnF t n x.12 s)).4 st.2).4,addr:=(aP x.6 x.7 x.8 (FnO.x (fnF t n x.12 s)).1 (FnO.x (fnF t n x.12 s)).2 (FnO.x (fnF t n x.12 s)).3 (FnO.x (fnF t n x.12 s)).4 st.2).5,old:=(aP x.6 x.7 x.8 (FnO.x (fnF t n x.12 s)).1 (FnO.x (fnF t n x.12 s)).2 (FnO.x (fnF t n x.12 s)).3 (FnO.x (fnF t n x.12 s)).4 st.2).6,nxt:=(aP x.6 x.7 x.8 (FnO.x (fnF t n x.12 s)).1 (FnO.x (fnF t n x.12 s)).2 (FnO.x (fnF t n x.12 s)).3 (FnO.x (fnF t n x.12 s)).4 st.2).7,mark:=(aP x.6 x.7 x.8 (FnO.x (fnF t n x.12 s)).1 (FnO.x (fnF t n x.12 s)).2 (FnO.x (fnF t n x.12 s)).3 (FnO.x (fnF t n x.12 s)).4 st.2).8,pops:=(aP x.6 x.7 x.8 (FnO.x (fnF t n x.12 s)).1 (FnO.x (fnF t n x.12 s)).2 (FnO.x (fnF t n x.12 s)).3 (FnO.x (fnF t n x.12 s)).4 st.2).9},fn:=cS,cl:=bF,pr:=dN},st:= {me:=st.1,sp:=st.2,R:=st.3++(FnO.x (fnF t n x.12 s)).6},s:= {t:=(FnO.s (fnF t n x.12 s)).1,n:=(FnO.s (fnF t n x.12 s)).2,xs:=(FnO.s (fnF t n x.12 s)).3,c:=(FnO.s (fnF t n x.12 s)).4,k:=(FnO.s (fnF t n x.12 s)).5,a:=(FnO.s (fnF t n x.12 s)).6,o:=(FnO.s (fnF t n x.12 s)).7,w:=(FnO.s (fnF t n x.12 s)).8,ok:=(FnO.s (fnF t n x.12 s)).9} })))))))))) (.pre ((t=t∧n=n)∧t=t∧n=n∧(false=false→(0:Int)=(0:Int))∧lE' (FnO.s (fnF t n x.12 s)).3∧lE' st.3) (.ret {d:=false,x:= {x with at':=0,p:= {now:=(FTS.p x).1,code:=(FTS.p x).2,okk:=(FTS.p x).3,val:=(FTS.p x).4,addr:=(FTS.p x).5,old:=(FTS.p x).6,nxt:=(FTS.p x).7,mark:=(FTS.p x).8,pops:=(FTS.p x).9},fn:=(fnF t n x.12 s).2,cl:=bF,pr:=dN},st:= {me:=st.1,sp:=st.2,R:=st.3},s:= {t:=(FnO.s (fnF t n x.12 s)).1,n:=(FnO.s (fnF t n x.12 s)).2,xs:=(FnO.s (fnF t n x.12 s)).3,c:=(FnO.s (fnF t n x.12 s)).4,k:=(FnO.s (fnF t n x.12 s)).5,a:=(FnO.s (fnF t n x.12 s)).6,o:=(FnO.s (fnF t n x.12 s)).7,w:=(FnO.s (fnF t n x.12 s)).8,ok:=(FnO.s (fnF t n x.12 s)).9} }))))) (.pre (lE' s.3∧NZ t n x.12 s) (.ite (fnF t n x.12 s).1 (.pre ((lE' st.3∧lE' (FnO.x (fnF t n x.12 s)).6∧List.length st.3+List.length (FnO.x (fnF t n x.12 s)).6≤(4294967296:Nat))∧True) (.ite (ilt x.9 (W (x.5+(FnO.x (fnF t n x.12 s)).5))) (.pre ((t=t∧n=n)∧(true=false→(0:Int)≠(0:Int)∧(0:Int)≠(1:Int)∧(0:Int)≠(2:Int))∧lE' (FnO.s (fnF t n x.12 s)).3∧List.length st.3+List.length (FnO.x (fnF t n x.12 s)).6=List.length (st.3++(FnO.x (fnF t n x.12 s)).6)) (.ret {d:=true,x:= {x with failed:=ilt x.9 (W (x.5+(FnO.x (fnF t n x.12 s)).5)),tries:=W (x.5+(FnO.x (fnF t n x.12 s)).5),at':=0,p:= {now:=(FTS.p x).1,code:=(FTS.p x).2,okk:=(FTS.p x).3,val:=(FTS.p x).4,addr:=(FTS.p x).5,old:=(FTS.p x).6,nxt:=(FTS.p x).7,mark:=(FTS.p x).8,pops:=(FTS.p x).9},fn:=cS,cl:=bF,pr:=dN},st:= {me:=st.1,sp:=st.2,R:=st.3++(FnO.x (fnF t n x.12 s)).6},s:= {t:=(FnO.s (fnF t n x.12 s)).1,n:=(FnO.s (fnF t n x.12 s)).2,xs:=(FnO.s (fnF t n x.12 s)).3,c:=(FnO.s (fnF t n x.12 s)).4,k:=(FnO.s (fnF t n x.12 s)).5,a:=(FnO.s (fnF t n x.12 s)).6,o:=(FnO.s (fnF t n x.12 s)).7,w:=(FnO.s (fnF t n x.12 s)).8,ok:=(FnO.s (fnF t n x.12 s)).9} })) (.pre (yC x.6 x.7 x.8 (FnO.x (fnF t n x.12 s)).1 (FnO.x (fnF t n x.12 s)).2 (FnO.x (fnF t n x.12 s)).3 (FnO.x (fnF t n x.12 s)).4 st.2∧True) (.ite (aP x.6 x.7 x.8 (FnO.x (fnF t n x.12 s)).1 (FnO.x (fnF t n x.12 s)).2 (FnO.x (fnF t n x.12 s)).3 (FnO.x (fnF t n x.12 s)).4 st.2).1 (.pre ((t=t∧n=n)∧(true=false→(0:Int)≠(0:Int)∧(0:Int)≠(1:Int)∧(0:Int)≠(2:Int))∧lE' (FnO.s (fnF t n x.12 s)).3∧List.length st.3+List.length (FnO.x (fnF t n x.12 s)).6=List.length (st.3++(FnO.x (fnF t n x.12 s)).6)) (.ret {d:=true,x:= {x with code:=(aP x.6 x.7 x.8 (FnO.x (fnF t n x.12 s)).1 (FnO.x (fnF t n x.12 s)).2 (FnO.x (fnF t n x.12 s)).3 (FnO.x (fnF t n x.12 s)).4 st.2).2,okk:=(aP x.6 x.7 x.8 (FnO.x (fnF t n x.12 s)).1 (FnO.x (fnF t n x.12 s)).2 (FnO.x (fnF t n x.12 s)).3 (FnO.x (fnF t n x.12 s)).4 st.2).3,val:=(aP x.6 x.7 x.8 (FnO.x (fnF t n x.12 s)).1 (FnO.x (fnF t n x.12 s)).2 (FnO.x (fnF t n x.12 s)).3 (FnO.x (fnF t n x.12 s)).4 st.2).4,failed:=ilt x.9 (W (x.5+(FnO.x (fnF t n x.12 s)).5)),tries:=W (x.5+(FnO.x (fnF t n x.12 s)).5),at':=0,p:= {now:=(aP x.6 x.7 x.8 (FnO.x (fnF t n x.12 s)).1 (FnO.x (fnF t n x.12 s)).2 (FnO.x (fnF t n x.12 s)).3 (FnO.x (fnF t n x.12 s)).4 st.2).1,code:=(aP x.6 x.7 x.8 (FnO.x (fnF t n x.12 s)).1 (FnO.x (fnF t n x.12 s)).2 (FnO.x (fnF t n x.12 s)).3 (FnO.x (fnF t n x.12 s)).4 st.2).2,okk:=(aP x.6 x.7 x.8 (FnO.x (fnF t n x.12 s)).1 (FnO.x (fnF t n x.12 s)).2 (FnO.x (fnF t n x.12 s)).3 (FnO.x (fnF t n x.12 s)).4 st.2).3,val:=(aP x.6 x.7 x.8 (FnO.x (fnF t n x.12 s)).1 (FnO.x (fnF t n x.12 s)).2 (FnO.x (fnF t n x.12 s)).3 (FnO.x (fnF t n x.12 s)).4 st.2).4,addr:=(aP x.6 x.7 x.8 (FnO.x (fnF t n x.12 s)).1 (FnO.x (fnF t n x.12 s)).2 (FnO.x (fnF t n x.12 s)).3 (FnO.x (fnF t n x.12 s)).4 st.2).5,old:=(aP x.6 x.7 x.8 (FnO.x (fnF t n x.12 s)).1 (FnO.x (fnF t n x.12 s)).2 (FnO.x (fnF t n x.12 s)).3 (FnO.x (fnF t n x.12 s)).4 st.2).6,nxt:=(aP x.6 x.7 x.8 (FnO.x (fnF t n x.12 s)).1 (FnO.x (fnF t n x.12 s)).2 (FnO.x (fnF t n x.12 s)).3 (FnO.x (fnF t n x.12 s)).4 st.2).7,mark:=(aP x.6 x.7 x.8 (FnO.x (fnF t n x.12 s)).1 (FnO.x (fnF t n x.12 s)).2 (FnO.x (fnF t n x.12 s)).3 (FnO.x (fnF t n x.12 s)).4 st.2).8,pops:=(aP x.6 x.7 x.8 (FnO.x (fnF t n x.12 s)).1 (FnO.x (fnF t n x.12 s)).2 (FnO.x (fnF t n x.12 s)).3 (FnO.x (fnF t n x.12 s)).4 st.2).9},fn:=cS,cl:=bF,pr:=dN},st:= {me:=st.1,sp:=st.2,R:=st.3++(FnO.x (fnF t n x.12 s)).6},s:= {t:=(FnO.s (fnF t n x.12 s)).1,n:=(FnO.s (fnF t n x.12 s)).2,xs:=(FnO.s (fnF t n x.12 s)).3,c:=(FnO.s (fnF t n x.12 s)).4,k:=(FnO.s (fnF t n x.12 s)).5,a:=(FnO.s (fnF t n x.12 s)).6,o:=(FnO.s (fnF t n x.12 s)).7,w:=(FnO.s (fnF t n x.12 s)).8,ok:=(FnO.s (fnF t n x.12 s)).9} })) (.pre (pS (aP x.6 x.7 x.8 (FnO.x (fnF t n x.12 s)).1 (FnO.x (fnF t n x.12 s)).2 (FnO.x (fnF t n x.12 s)).3 (FnO.x (fnF t n x.12 s)).4 st.2).1 (aP x.6 x.7 x.8 (FnO.x (fnF t n x.12 s)).1 (FnO.x (fnF t n x.12 s)).2 (FnO.x (fnF t n x.12 s)).3 (FnO.x (fnF t n x.12 s)).4 st.2).2 (aP x.6 x.7 x.8 (FnO.x (fnF t n x.12 s)).1 (FnO.x (fnF t n x.12 s)).2 (FnO.x (fnF t n x.12 s)).3 (FnO.x (fnF t n x.12 s)).4 st.2).3 (aP x.6 x.7 x.8 (FnO.x (fnF t n x.12 s)).1 (FnO.x (fnF t n x.12 s)).2 (FnO.x (fnF t n x.12 s)).3 (FnO.x (fnF t n x.12 s)).4 st.2).4 (aP x.6 x.7 x.8 (FnO.x (fnF t n x.12 s)).1 (FnO.x (fnF t n x.12 s)).2 (FnO.x (fnF t n x.12 s)).3 (FnO.x (fnF t n x.12 s)).4 st.2).5 (aP x.6 x.7 x.8 (FnO.x (fnF t n x.12 s)).1 (FnO.x (fnF t n x.12 s)).2 (FnO.x (fnF t n x.12 s)).3 (FnO.x (fnF t n x.12 s)).4 st.2).6 (aP x.6 x.7 x.8 (FnO.x (fnF t n x.12 s)).1 (FnO.x (fnF t n x.12 s)).2 (FnO.x (fnF t n x.12 s)).3 (FnO.x (fnF t n x.12 s)).4 st.2).7 (aP x.6 x.7 x.8 (FnO.x (fnF t n x.12 s)).1 (FnO.x (fnF t n x.12 s)).2 (FnO.x (fnF t n x.12 s)).3 (FnO.x (fnF t n x.12 s)).4 st.2).8 (aP x.6 x.7 x.8 (FnO.x (fnF t n x.12 s)).1 (FnO.x (fnF t n x.12 s)).2 (FnO.x (fnF t n x.12 s)).3 (FnO.x (fnF t n x.12 s)).4 st.2).9) (.ite (kW (aP x.6 x.7 x.8 (FnO.x (fnF t n x.12 s)).1 (FnO.x (fnF t n x.12 s)).2 (FnO.x (fnF t n x.12 s)).3 (FnO.x (fnF t n x.12 s)).4 st.2).1 (aP x.6 x.7 x.8 (FnO.x (fnF t n x.12 s)).1 (FnO.x (fnF t n x.12 s)).2 (FnO.x (fnF t n x.12 s)).3 (FnO.x (fnF t n x.12 s)).4 st.2).2 (aP x.6 x.7 x.8 (FnO.x (fnF t n x.12 s)).1 (FnO.x (fnF t n x.12 s)).2 (FnO.x (fnF t n x.12 s)).3 (FnO.x (fnF t n x.12 s)).4 st.2).3 (aP x.6 x.7 x.8 (FnO.x (fnF t n x.12 s)).1 (FnO.x (fnF t n x.12 s)).2 (FnO.x (fnF t n x.12 s)).3 (FnO.x (fnF t n x.12 s)).4 st.2).4 (aP x.6 x.7 x.8 (FnO.x (fnF t n x.12 s)).1 (FnO.x (fnF t n x.12 s)).2 (FnO.x (fnF t n x.12 s)).3 (FnO.x (fnF t n x.12 s)).4 st.2).5 (aP x.6 x.7 x.8 (FnO.x (fnF t n x.12 s)).1 (FnO.x (fnF t n x.12 s)).2 (FnO.x (fnF t n x.12 s)).3 (FnO.x (fnF t n x.12 s)).4 st.2).6 (aP x.6 x.7 x.8 (FnO.x (fnF t n x.12 s)).1 (FnO.x (fnF t n x.12 s)).2 (FnO.x (fnF t n x.12 s)).3 (FnO.x (fnF t n x.12 s)).4 st.2).7 (aP x.6 x.7 x.8 (FnO.x (fnF t n x.12 s)).1 (FnO.x (fnF t n x.12 s)).2 (FnO.x (fnF t n x.12 s)).3 (FnO.x (fnF t n x.12 s)).4 st.2).8 (aP x.6 x.7 x.8 (FnO.x (fnF t n x.12 s)).1 (FnO.x (fnF t n x.12 s)).2 (FnO.x (fnF t n x.12 s)).3 (FnO.x (fnF t n x.12 s)).4 st.2).9) (.pre (rP t n (aP x.6 x.7 x.8 (FnO.x (fnF t n x.12 s)).1 (FnO.x (fnF t n x.12 s)).2 (FnO.x (fnF t n x.12 s)).3 (FnO.x (fnF t n x.12 s)).4 st.2).5∧True) (.pre ((t=t∧n=n)∧t=t∧n=n∧(false=false→(1:Int)=(1:Int))∧lE' (FnO.s (fnF t n x.12 s)).3∧List.length st.3+List.length (FnO.x (fnF t n x.12 s)).6=List.length (st.3++(FnO.x (fnF t n x.12 s)).6)) (.ret {d:=false,x:= {x with failed:=ilt x.9 (W (x.5+(FnO.x (fnF t n x.12 s)).5)),tries:=W (x.5+(FnO.x (fnF t n x.12 s)).5),at':=1,p:= {now:=(aP x.6 x.7 x.8 (FnO.x (fnF t n x.12 s)).1 (FnO.x (fnF t n x.12 s)).2 (FnO.x (fnF t n x.12 s)).3 (FnO.x (fnF t n x.12 s)).4 st.2).1,code:=(aP x.6 x.7 x.8 (FnO.x (fnF t n x.12 s)).1 (FnO.x (fnF t n x.12 s)).2 (FnO.x (fnF t n x.12 s)).3 (FnO.x (fnF t n x.12 s)).4 st.2).2,okk:=(aP x.6 x.7 x.8 (FnO.x (fnF t n x.12 s)).1 (FnO.x (fnF t n x.12 s)).2 (FnO.x (fnF t n x.12 s)).3 (FnO.x (fnF t n x.12 s)).4 st.2).3,val:=(aP x.6 x.7 x.8 (FnO.x (fnF t n x.12 s)).1 (FnO.x (fnF t n x.12 s)).2 (FnO.x (fnF t n x.12 s)).3 (FnO.x (fnF t n x.12 s)).4 st.2).4,addr:=(aP x.6 x.7 x.8 (FnO.x (fnF t n x.12 s)).1 (FnO.x (fnF t n x.12 s)).2 (FnO.x (fnF t n x.12 s)).3 (FnO.x (fnF t n x.12 s)).4 st.2).5,old:=(aP x.6 x.7 x.8 (FnO.x (fnF t n x.12 s)).1 (FnO.x (fnF t n x.12 s)).2 (FnO.x (fnF t n x.12 s)).3 (FnO.x (fnF t n x.12 s)).4 st.2).6,nxt:=(aP x.6 x.7 x.8 (FnO.x (fnF t n x.12 s)).1 (FnO.x (fnF t n x.12 s)).2 (FnO.x (fnF t n x.12 s)).3 (FnO.x (fnF t n x.12 s)).4 st.2).7,mark:=(aP x.6 x.7 x.8 (FnO.x (fnF t n x.12 s)).1 (FnO.x (fnF t n x.12 s)).2 (FnO.x (fnF t n x.12 s)).3 (FnO.x (fnF t n x.12 s)).4 st.2).8,pops:=(aP x.6 x.7 x.8 (FnO.x (fnF t n x.12 s)).1 (FnO.x (fnF t n x.12 s)).2 (FnO.x (fnF t n x.12 s)).3 (FnO.x (fnF t n x.12 s)).4 st.2).9},fn:=cS,cl:=zD t n (aP x.6 x.7 x.8 (FnO.x (fnF t n x.12 s)).1 (FnO.x (fnF t n x.12 s)).2 (FnO.x (fnF t n x.12 s)).3 (FnO.x (fnF t n x.12 s)).4 st.2).5,pr:=dN},st:= {me:=st.1,sp:=st.2,R:=st.3++(FnO.x (fnF t n x.12 s)).6},s:= {t:=(FnO.s (fnF t n x.12 s)).1,n:=(FnO.s (fnF t n x.12 s)).2,xs:=(FnO.s (fnF t n x.12 s)).3,c:=(FnO.s (fnF t n x.12 s)).4,k:=(FnO.s (fnF t n x.12 s)).5,a:=(FnO.s (fnF t n x.12 s)).6,o:=(FnO.s (fnF t n x.12 s)).7,w:=(FnO.s (fnF t n x.12 s)).8,ok:=(FnO.s (fnF t n x.12 s)).9} }))) (.pre True (.ite (bT x.7) (.pre ((List.length st.3+List.length (FnO.x (fnF t n x.12 s)).6=List.length (st.3++(FnO.x (fnF t n x.12 s)).6)∧EU t n x.8 (FnO.x (fnF t n x.12 s)).3 {me:=st.1,sp:=st.2,R:=st.3++(FnO.x (fnF t n x.12 s)).6})∧True) (.pre ((t=t∧n=n)∧t=t∧n=n∧(false=false→(2:Int)=(2:Int))∧lE' (FnO.s (fnF t n x.12 s)).3∧lE' (Prod.snd (pT t n x.8 (FnO.x (fnF t n x.12 s)).3 {me:=st.1,sp:=st.2,R:=st.3++(FnO.x (fnF t n x.12 s)).6})).3) (.ret {d:=false,x:= {x with failed:=ilt x.9 (W (x.5+(FnO.x (fnF t n x.12 s)).5)),tries:=W (x.5+(FnO.x (fnF t n x.12 s)).5),at':=2,p:= {now:=(aP x.6 x.7 x.8 (FnO.x (fnF t n x.12 s)).1 (FnO.x (fnF t n x.12 s)).2 (FnO.x (fnF t n x.12 s)).3 (FnO.x (fnF t n x.12 s)).4 st.2).1,code:=(aP x.6 x.7 x.8 (FnO.x (fnF t n x.12 s)).1 (FnO.x (fnF t n x.12 s)).2 (FnO.x (fnF t n x.12 s)).3 (FnO.x (fnF t n x.12 s)).4 st.2).2,okk:=(aP x.6 x.7 x.8 (FnO.x (fnF t n x.12 s)).1 (FnO.x (fnF t n x.12 s)).2 (FnO.x (fnF t n x.12 s)).3 (FnO.x (fnF t n x.12 s)).4 st.2).3,val:=(aP x.6 x.7 x.8 (FnO.x (fnF t n x.12 s)).1 (FnO.x (fnF t n x.12 s)).2 (FnO.x (fnF t n x.12 s)).3 (FnO.x (fnF t n x.12 s)).4 st.2).4,addr:=(aP x.6 x.7 x.8 (FnO.x (fnF t n x.12 s)).1 (FnO.x (fnF t n x.12 s)).2 (FnO.x (fnF t n x.12 s)).3 (FnO.x (fnF t n x.12 s)).4 st.2).5,old:=(aP x.6 x.7 x.8 (FnO.x (fnF t n x.12 s)).1 (FnO.x (fnF t n x.12 s)).2 (FnO.x (fnF t n x.12 s)).3 (FnO.x (fnF t n x.12 s)).4 st.2).6,nxt:=(aP x.6 x.7 x.8 (FnO.x (fnF t n x.12 s)).1 (FnO.x (fnF t n x.12 s)).2 (FnO.x (fnF t n x.12 s)).3 (FnO.x (fnF t n x.12 s)).4 st.2).7,mark:=(aP x.6 x.7 x.8 (FnO.x (fnF t n x.12 s)).1 (FnO.x (fnF t n x.12 s)).2 (FnO.x (fnF t n x.12 s)).3 (FnO.x (fnF t n x.12 s)).4 st.2).8,pops:=(aP x.6 x.7 x.8 (FnO.x (fnF t n x.12 s)).1 (FnO.x (fnF t n x.12 s)).2 (FnO.x (fnF t n x.12 s)).3 (FnO.x (fnF t n x.12 s)).4 st.2).9},fn:=cS,cl:=bF,pr:=(pT t n x.8 (FnO.x (fnF t n x.12 s)).3 {me:=st.1,sp:=st.2,R:=st.3++(FnO.x (fnF t n x.12 s)).6}).1},st:= {me:=(Prod.snd (pT t n x.8 (FnO.x (fnF t n x.12 s)).3 {me:=st.1,sp:=st.2,R:=st.3++(FnO.x (fnF t n x.12 s)).6})).1,sp:=(Prod.snd (pT t n x.8 (FnO.x (fnF t n x.12 s)).3 {me:=st.1,sp:=st.2,R:=st.3++(FnO.x (fnF t n x.12 s)).6})).2,R:=(Prod.snd (pT t n x.8 (FnO.x (fnF t n x.12 s)).3 {me:=st.1,sp:=st.2,R:=st.3++(FnO.x (fnF t n x.12 s)).6})).3},s:= {t:=(FnO.s (fnF t n x.12 s)).1,n:=(FnO.s (fnF t n x.12 s)).2,xs:=(FnO.s (fnF t n x.12 s)).3,c:=(FnO.s (fnF t n x.12 s)).4,k:=(FnO.s (fnF t n x.12 s)).5,a:=(FnO.s (fnF t n x.12 s)).6,o:=(FnO.s (fnF t n x.12 s)).7,w:=(FnO.s (fnF t n x.12 s)).8,ok:=(FnO.s (fnF t n x.12 s)).9} }))) (.pre ((t=t∧n=n)∧(false=false→(3:Int)≠(0:Int)∧(3:Int)≠(1:Int)∧(3:Int)≠(2:Int))∧lE' (FnO.s (fnF t n x.12 s)).3∧List.length st.3+List.length (FnO.x (fnF t n x.12 s)).6=List.length (st.3++(FnO.x (fnF t n x.12 s)).6)) (.ret {d:=false,x:= {x with failed:=ilt x.9 (W (x.5+(FnO.x (fnF t n x.12 s)).5)),tries:=W (x.5+(FnO.x (fnF t n x.12 s)).5),at':=3,p:= {now:=(aP x.6 x.7 x.8 (FnO.x (fnF t n x.12 s)).1 (FnO.x (fnF t n x.12 s)).2 (FnO.x (fnF t n x.12 s)).3 (FnO.x (fnF t n x.12 s)).4 st.2).1,code:=(aP x.6 x.7 x.8 (FnO.x (fnF t n x.12 s)).1 (FnO.x (fnF t n x.12 s)).2 (FnO.x (fnF t n x.12 s)).3 (FnO.x (fnF t n x.12 s)).4 st.2).2,okk:=(aP x.6 x.7 x.8 (FnO.x (fnF t n x.12 s)).1 (FnO.x (fnF t n x.12 s)).2 (FnO.x (fnF t n x.12 s)).3 (FnO.x (fnF t n x.12 s)).4 st.2).3,val:=(aP x.6 x.7 x.8 (FnO.x (fnF t n x.12 s)).1 (FnO.x (fnF t n x.12 s)).2 (FnO.x (fnF t n x.12 s)).3 (FnO.x (fnF t n x.12 s)).4 st.2).4,addr:=(aP x.6 x.7 x.8 (FnO.x (fnF t n x.12 s)).1 (FnO.x (fnF t n x.12 s)).2 (FnO.x (fnF t n x.12 s)).3 (FnO.x (fnF t n x.12 s)).4 st.2).5,old:=(aP x.6 x.7 x.8 (FnO.x (fnF t n x.12 s)).1 (FnO.x (fnF t n x.12 s)).2 (FnO.x (fnF t n x.12 s)).3 (FnO.x (fnF t n x.12 s)).4 st.2).6,nxt:=(aP x.6 x.7 x.8 (FnO.x (fnF t n x.12 s)).1 (FnO.x (fnF t n x.12 s)).2 (FnO.x (fnF t n x.12 s)).3 (FnO.x (fnF t n x.12 s)).4 st.2).7,mark:=(aP x.6 x.7 x.8 (FnO.x (fnF t n x.12 s)).1 (FnO.x (fnF t n x.12 s)).2 (FnO.x (fnF t n x.12 s)).3 (FnO.x (fnF t n x.12 s)).4 st.2).8,pops:=(aP x.6 x.7 x.8 (FnO.x (fnF t n x.12 s)).1 (FnO.x (fnF t n x.12 s)).2 (FnO.x (fnF t n x.12 s)).3 (FnO.x (fnF t n x.12 s)).4 st.2).9},fn:=cS,cl:=bF,pr:=dN},st:= {me:=st.1,sp:=st.2,R:=st.3++(FnO.x (fnF t n x.12 s)).6},s:= {t:=(FnO.s (fnF t n x.12 s)).1,n:=(FnO.s (fnF t n x.12 s)).2,xs:=(FnO.s (fnF t n x.12 s)).3,c:=(FnO.s (fnF t n x.12 s)).4,k:=(FnO.s (fnF t n x.12 s)).5,a:=(FnO.s (fnF t n x.12 s)).6,o:=(FnO.s (fnF t n x.12 s)).7,w:=(FnO.s (fnF t n x.12 s)).8,ok:=(FnO.s (fnF t n x.12 s)).9} })))))))))) (.pre ((t=t∧n=n)∧t=t∧n=n∧(false=false→(0:Int)=(0:Int))∧lE' (FnO.s (fnF t n x.12 s)).3∧lE' st.3) (.ret {d:=false,x:= {x with at':=0,p:= {now:=(FTS.p x).1,code:=(FTS.p x).2,okk:=(FTS.p x).3,val:=(FTS.p x).4,addr:=(FTS.p x).5,old:=(FTS.p x).6,nxt:=(FTS.p x).7,mark:=(FTS.p x).8,pops:=(FTS.p x).9},fn:=(fnF t n x.12 s).2,cl:=bF,pr:=dN},st:= {me:=st.1,sp:=st.2,R:=st.3},s:= {t:=(FnO.s (fnF t n x.12 s)).1,n:=(FnO.s (fnF t n x.12 s)).2,xs:=(FnO.s (fnF t n x.12 s)).3,c:=(FnO.s (fnF t n x.12 s)).4,k:=(FnO.s (fnF t n x.12 s)).5,a:=(FnO.s (fnF t n x.12 s)).6,o:=(FnO.s (fnF t n x.12 s)).7,w:=(FnO.s (fnF t n x.12 s)).8,ok:=(FnO.s (fnF t n x.12 s)).9} })))))))
theorem GN(t n:Int)(x:FTS)(st:STS)(s:MS)(K:FtO→Prop)(h:(pE t n x st s).run K):cT' 39 [.ptr 0 0,.ptr 2 0] [some (.cells [.ptr 1 0,.int .i64 x.code,.bool x.okk,.int .i64 x.val,.bool x.failed,.int .i64 x.tries,.int .i64 x.sh,.int .i64 x.kd,.int .i64 x.ky,.int .i64 x.most,.int .i64 0,.bool x.p.now,.int .i64 x.p.code,.bool x.p.okk,.int .i64 x.p.val,.int .i64 x.p.addr,.int .u64 x.p.old,.int .i64 x.p.nxt,.bool x.p.mark,.int .i64 x.p.pops,.ptr 4 0,.O,.O]),stC 5 t n st,aX 3 s,aY s,some (.abs (.find t n x.fn) []),nK st] (eB 4 0 [20,21,22] [(.cell 1 4,.ints (some .i64))] (MI t n) K):=by
 exact cM' (E:=ER) (by kernel_rfl) h
def z9(t n:Int)(x:FTS)(st:STS)(s:MS):Tr FtO:=.pre (lE' s.3∧MY t n x.13 s) (.ite (eA t n x.13 s).1 (.ite (ilt x.9 (W (x.5+1))) (.pre ((t=t∧n=n)∧(true=false→(1:Int)≠(0:Int)∧(1:Int)≠(1:Int)∧(1:Int)≠(2:Int))∧lE' (ClO.s (eA t n x.13 s)).3∧lE' st.3) (.ret {d:=true,x:= {x with failed:=ilt x.9 (W (x.5+1)),tries:=W (x.5+1),at':=1,p:= {now:=(FTS.p x).1,code:=(FTS.p x).2,okk:=(FTS.p x).3,val:=(FTS.p x).4,addr:=(FTS.p x).5,old:=(FTS.p x).6,nxt:=(FTS.p x).7,mark:=(FTS.p x).8,pops:=(FTS.p x).9},fn:=cS,cl:=bF,pr:=dN},st:= {me:=st.1,sp:=st.2,R:=st.3},s:= {t:=(ClO.s (eA t n x.13 s)).1,n:=(ClO.s (eA t n x.13 s)).2,xs:=(ClO.s (eA t n x.13 s)).3,c:=(ClO.s (eA t n x.13 s)).4,k:=(ClO.s (eA t n x.13 s)).5,a:=(ClO.s (eA t n x.13 s)).6,o:=(ClO.s (eA t n x.13 s)).7,w:=(ClO.s (eA t n x.13 s)).8,ok:=(ClO.s (eA t n x.13 s)).9} })) (.pre True (.pre (zX t n st.1 (cI x.6 x.8) (cT x.6 x.7 x.8) (W (x.9 - W (x.5+1)))∧True) (.pre ((t=t∧n=n)∧t=t∧n=n∧(false=false→(0:Int)=(0:Int))∧lE' (ClO.s (eA t n x.13 s)).3∧lE' st.3) (.ret {d:=false,x:= {x with failed:=ilt x.9 (W (x.5+1)),tries:=W (x.5+1),at':=0,p:= {now:=(FTS.p x).1,code:=(FTS.p x).2,okk:=(FTS.p x).3,val:=(FTS.p x).4,addr:=(FTS.p x).5,old:=(FTS.p x).6,nxt:=(FTS.p x).7,mark:=(FTS.p x).8,pops:=(FTS.p x).9},fn:=xV t n st.1 (cI x.6 x.8) (cT x.6 x.7 x.8) (W (x.9 - W (x.5+1))),cl:=bF,pr:=dN},st:= {me:=st.1,sp:=st.2,R:=st.3},s:= {t:=(ClO.s (eA t n x.13 s)).1,n:=(ClO.s (eA t n x.13 s)).2,xs:=(ClO.s (eA t n x.13 s)).3,c:=(ClO.s (eA t n x.13 s)).4,k:=(ClO.s (eA t n x.13 s)).5,a:=(ClO.s (eA t n x.13 s)).6,o:=(ClO.s (eA t n x.13 s)).7,w:=(ClO.s (eA t n x.13 s)).8,ok:=(ClO.s (eA t n x.13 s)).9} }))))) (.pre ((t=t∧n=n)∧t=t∧n=n∧(false=false→(1:Int)=(1:Int))∧lE' (ClO.s (eA t n x.13 s)).3∧lE' st.3) (.ret {d:=false,x:= {x with at':=1,p:= {now:=(FTS.p x).1,code:=(FTS.p x).2,okk:=(FTS.p x).3,val:=(FTS.p x).4,addr:=(FTS.p x).5,old:=(FTS.p x).6,nxt:=(FTS.p x).7,mark:=(FTS.p x).8,pops:=(FTS.p x).9},fn:=cS,cl:=(eA t n x.13 s).2,pr:=dN},st:= {me:=st.1,sp:=st.2,R:=st.3},s:= {t:=(ClO.s (eA t n x.13 s)).1,n:=(ClO.s (eA t n x.13 s)).2,xs:=(ClO.s (eA t n x.13 s)).3,c:=(ClO.s (eA t n x.13 s)).4,k:=(ClO.s (eA t n x.13 s)).5,a:=(ClO.s (eA t n x.13 s)).6,o:=(ClO.s (eA t n x.13 s)).7,w:=(ClO.s (eA t n x.13 s)).8,ok:=(ClO.s (eA t n x.13 s)).9} })))
theorem GO(t n:Int)(x:FTS)(st:STS)(s:MS)(K:FtO→Prop)(h:(z9 t n x st s).run K):cT' 39 [.ptr 0 0,.ptr 2 0] [some (.cells [.ptr 1 0,.int .i64 x.code,.bool x.okk,.int .i64 x.val,.bool x.failed,.int .i64 x.tries,.int .i64 x.sh,.int .i64 x.kd,.int .i64 x.ky,.int .i64 x.most,.int .i64 1,.bool x.p.now,.int .i64 x.p.code,.bool x.p.okk,.int .i64 x.p.val,.int .i64 x.p.addr,.int .u64 x.p.old,.int .i64 x.p.nxt,.bool x.p.mark,.int .i64 x.p.pops,.O,.ptr 4 0,.O]),stC 5 t n st,aX 3 s,aY s,some (.abs (.clear t n x.cl) []),nK st] (eB 4 0 [20,21,22] [(.cell 1 4,.ints (some .i64))] (MI t n) K):=by
 exact cM' (E:=ER) (by kernel_rfl) h
def pF(t n:Int)(x:FTS)(st:STS)(s:MS):Tr FtO:=.pre ((lE' s.3∧lE' st.3∧t=t∧n=n)∧PB t n x.14 st s) (.ite (prF t n x.14 st s).1 (.pre ((t=t∧n=n)∧(false=false→(3:Int)≠(0:Int)∧(3:Int)≠(1:Int)∧(3:Int)≠(2:Int))∧lE' (PrO.s (prF t n x.14 st s)).3∧lE' (PrO.st (prF t n x.14 st s)).3) (.ret {d:=false,x:= {x with at':=3,p:= {now:=(FTS.p x).1,code:=(FTS.p x).2,okk:=(FTS.p x).3,val:=(FTS.p x).4,addr:=(FTS.p x).5,old:=(FTS.p x).6,nxt:=(FTS.p x).7,mark:=(FTS.p x).8,pops:=(FTS.p x).9},fn:=cS,cl:=bF,pr:=dN},st:= {me:=(PrO.st (prF t n x.14 st s)).1,sp:=(PrO.st (prF t n x.14 st s)).2,R:=(PrO.st (prF t n x.14 st s)).3},s:= {t:=(PrO.s (prF t n x.14 st s)).1,n:=(PrO.s (prF t n x.14 st s)).2,xs:=(PrO.s (prF t n x.14 st s)).3,c:=(PrO.s (prF t n x.14 st s)).4,k:=(PrO.s (prF t n x.14 st s)).5,a:=(PrO.s (prF t n x.14 st s)).6,o:=(PrO.s (prF t n x.14 st s)).7,w:=(PrO.s (prF t n x.14 st s)).8,ok:=(PrO.s (prF t n x.14 st s)).9} })) (.pre ((t=t∧n=n)∧t=t∧n=n∧(false=false→(2:Int)=(2:Int))∧lE' (PrO.s (prF t n x.14 st s)).3∧lE' (PrO.st (prF t n x.14 st s)).3) (.ret {d:=false,x:= {x with at':=2,p:= {now:=(FTS.p x).1,code:=(FTS.p x).2,okk:=(FTS.p x).3,val:=(FTS.p x).4,addr:=(FTS.p x).5,old:=(FTS.p x).6,nxt:=(FTS.p x).7,mark:=(FTS.p x).8,pops:=(FTS.p x).9},fn:=cS,cl:=bF,pr:=(prF t n x.14 st s).2},st:= {me:=(PrO.st (prF t n x.14 st s)).1,sp:=(PrO.st (prF t n x.14 st s)).2,R:=(PrO.st (prF t n x.14 st s)).3},s:= {t:=(PrO.s (prF t n x.14 st s)).1,n:=(PrO.s (prF t n x.14 st s)).2,xs:=(PrO.s (prF t n x.14 st s)).3,c:=(PrO.s (prF t n x.14 st s)).4,k:=(PrO.s (prF t n x.14 st s)).5,a:=(PrO.s (prF t n x.14 st s)).6,o:=(PrO.s (prF t n x.14 st s)).7,w:=(PrO.s (prF t n x.14 st s)).8,ok:=(PrO.s (prF t n x.14 st s)).9} })))
theorem GP(t n:Int)(x:FTS)(st:STS)(s:MS)(K:FtO→Prop)(h:(pF t n x st s).run K):cT' 39 [.ptr 0 0,.ptr 2 0] [some (.cells [.ptr 1 0,.int .i64 x.code,.bool x.okk,.int .i64 x.val,.bool x.failed,.int .i64 x.tries,.int .i64 x.sh,.int .i64 x.kd,.int .i64 x.ky,.int .i64 x.most,.int .i64 2,.bool x.p.now,.int .i64 x.p.code,.bool x.p.okk,.int .i64 x.p.val,.int .i64 x.p.addr,.int .u64 x.p.old,.int .i64 x.p.nxt,.bool x.p.mark,.int .i64 x.p.pops,.O,.O,.ptr 4 0]),stC 5 t n st,aX 3 s,aY s,some (.abs (.prepare t n x.pr) [1]),nK st] (eB 4 0 [20,21,22] [(.cell 1 4,.ints (some .i64))] (MI t n) K):=by
 exact cM' (E:=ER) (by kernel_rfl) h
def uA(t n:Int)(x:FTS)(st:STS)(s:MS):Tr FtO:=.pre (yD (FTS.p x).1 (FTS.p x).2 (FTS.p x).3 (FTS.p x).4 (FTS.p x).5 (FTS.p x).6 (FTS.p x).7 (FTS.p x).8 (FTS.p x).9∧True) (.pre ((lE' s.3∧(0:Int)≤s.4∧s.4≤(4611686018427387904:Int))∧True) (.ite (!aZ s.3 (FTS.p x).5 (FTS.p x).6) (.ite (ilt x.9 (W (x.5+1))) (.pre ((t=t∧n=n)∧(true=false→(3:Int)≠(0:Int)∧(3:Int)≠(1:Int)∧(3:Int)≠(2:Int))∧lE' (bif aZ s.3 (FTS.p x).5 (FTS.p x).6 then aO s.3 (FTS.p x).5 (cN (FTS.p x).1 (FTS.p x).2 (FTS.p x).3 (FTS.p x).4 (FTS.p x).5 (FTS.p x).6 (FTS.p x).7 (FTS.p x).8 (FTS.p x).9)else s.3)∧lE' st.3) (.ret {d:=true,x:= {x with failed:=ilt x.9 (W (x.5+1)),tries:=W (x.5+1),at':=3,p:= {now:=(FTS.p x).1,code:=(FTS.p x).2,okk:=(FTS.p x).3,val:=(FTS.p x).4,addr:=(FTS.p x).5,old:=(FTS.p x).6,nxt:=(FTS.p x).7,mark:=(FTS.p x).8,pops:=(FTS.p x).9},fn:=cS,cl:=bF,pr:=dN},st:= {me:=st.1,sp:=st.2,R:=st.3},s:= {t:=s.1,n:=s.2,xs:=bif aZ s.3 (FTS.p x).5 (FTS.p x).6 then aO s.3 (FTS.p x).5 (cN (FTS.p x).1 (FTS.p x).2 (FTS.p x).3 (FTS.p x).4 (FTS.p x).5 (FTS.p x).6 (FTS.p x).7 (FTS.p x).8 (FTS.p x).9)else s.3,c:=s.4+1,k:=3,a:=(FTS.p x).5,o:=aA s.3 (FTS.p x).5,w:=bif bR s.3 (FTS.p x).5 then cN (FTS.p x).1 (FTS.p x).2 (FTS.p x).3 (FTS.p x).4 (FTS.p x).5 (FTS.p x).6 (FTS.p x).7 (FTS.p x).8 (FTS.p x).9 else 0,ok:=aZ s.3 (FTS.p x).5 (FTS.p x).6} })) (.pre True (.pre (zX t n st.1 (cI x.6 x.8) (cT x.6 x.7 x.8) (W (x.9 - W (x.5+1)))∧True) (.pre ((t=t∧n=n)∧t=t∧n=n∧(false=false→(0:Int)=(0:Int))∧lE' (bif aZ s.3 (FTS.p x).5 (FTS.p x).6 then aO s.3 (FTS.p x).5 (cN (FTS.p x).1 (FTS.p x).2 (FTS.p x).3 (FTS.p x).4 (FTS.p x).5 (FTS.p x).6 (FTS.p x).7 (FTS.p x).8 (FTS.p x).9)else s.3)∧lE' st.3) (.ret {d:=false,x:= {x with failed:=ilt x.9 (W (x.5+1)),tries:=W (x.5+1),at':=0,p:= {now:=(FTS.p x).1,code:=(FTS.p x).2,okk:=(FTS.p x).3,val:=(FTS.p x).4,addr:=(FTS.p x).5,old:=(FTS.p x).6,nxt:=(FTS.p x).7,mark:=(FTS.p x).8,pops:=(FTS.p x).9},fn:=xV t n st.1 (cI x.6 x.8) (cT x.6 x.7 x.8) (W (x.9 - W (x.5+1))),cl:=bF,pr:=dN},st:= {me:=st.1,sp:=st.2,R:=st.3},s:= {t:=s.1,n:=s.2,xs:=bif aZ s.3 (FTS.p x).5 (FTS.p x).6 then aO s.3 (FTS.p x).5 (cN (FTS.p x).1 (FTS.p x).2 (FTS.p x).3 (FTS.p x).4 (FTS.p x).5 (FTS.p x).6 (FTS.p x).7 (FTS.p x).8 (FTS.p x).9)else s.3,c:=s.4+1,k:=3,a:=(FTS.p x).5,o:=aA s.3 (FTS.p x).5,w:=bif bR s.3 (FTS.p x).5 then cN (FTS.p x).1 (FTS.p x).2 (FTS.p x).3 (FTS.p x).4 (FTS.p x).5 (FTS.p x).6 (FTS.p x).7 (FTS.p x).8 (FTS.p x).9 else 0,ok:=aZ s.3 (FTS.p x).5 (FTS.p x).6} }))))) (.pre True (.ite (bT x.7) (.ite (!ieq (FTS.p x).9 0) (.pre ((lE' st.3∧1=1∧List.length st.3+(1:Nat)≤(4294967296:Nat))∧True) (.pre ((t=t∧n=n)∧(true=false→(3:Int)≠(0:Int)∧(3:Int)≠(1:Int)∧(3:Int)≠(2:Int))∧lE' (bif aZ s.3 (FTS.p x).5 (FTS.p x).6 then aO s.3 (FTS.p x).5 (cN (FTS.p x).1 (FTS.p x).2 (FTS.p x).3 (FTS.p x).4 (FTS.p x).5 (FTS.p x).6 (FTS.p x).7 (FTS.p x).8 (FTS.p x).9)else s.3)∧List.length st.3+(1:Nat)=List.length (st.3++ [(FTS.p x).9])) (.ret {d:=true,x:= {x with code:=(FTS.p x).2,okk:=(FTS.p x).3,val:=(FTS.p x).4,at':=3,p:= {now:=(FTS.p x).1,code:=(FTS.p x).2,okk:=(FTS.p x).3,val:=(FTS.p x).4,addr:=(FTS.p x).5,old:=(FTS.p x).6,nxt:=(FTS.p x).7,mark:=(FTS.p x).8,pops:=(FTS.p x).9},fn:=cS,cl:=bF,pr:=dN},st:= {me:=st.1,sp:=0,R:=st.3++ [(FTS.p x).9] },s:= {t:=s.1,n:=s.2,xs:=bif aZ s.3 (FTS.p x).5 (FTS.p x).6 then aO s.3 (FTS.p x).5 (cN (FTS.p x).1 (FTS.p x).2 (FTS.p x).3 (FTS.p x).4 (FTS.p x).5 (FTS.p x).6 (FTS.p x).7 (FTS.p x).8 (FTS.p x).9)else s.3,c:=s.4+1,k:=3,a:=(FTS.p x).5,o:=aA s.3 (FTS.p x).5,w:=bif bR s.3 (FTS.p x).5 then cN (FTS.p x).1 (FTS.p x).2 (FTS.p x).3 (FTS.p x).4 (FTS.p x).5 (FTS.p x).6 (FTS.p x).7 (FTS.p x).8 (FTS.p x).9 else 0,ok:=aZ s.3 (FTS.p x).5 (FTS.p x).6} }))) (.pre ((t=t∧n=n)∧(true=false→(3:Int)≠(0:Int)∧(3:Int)≠(1:Int)∧(3:Int)≠(2:Int))∧lE' (bif aZ s.3 (FTS.p x).5 (FTS.p x).6 then aO s.3 (FTS.p x).5 (cN (FTS.p x).1 (FTS.p x).2 (FTS.p x).3 (FTS.p x).4 (FTS.p x).5 (FTS.p x).6 (FTS.p x).7 (FTS.p x).8 (FTS.p x).9)else s.3)∧lE' st.3) (.ret {d:=true,x:= {x with code:=(FTS.p x).2,okk:=(FTS.p x).3,val:=(FTS.p x).4,at':=3,p:= {now:=(FTS.p x).1,code:=(FTS.p x).2,okk:=(FTS.p x).3,val:=(FTS.p x).4,addr:=(FTS.p x).5,old:=(FTS.p x).6,nxt:=(FTS.p x).7,mark:=(FTS.p x).8,pops:=(FTS.p x).9},fn:=cS,cl:=bF,pr:=dN},st:= {me:=st.1,sp:=0,R:=st.3},s:= {t:=s.1,n:=s.2,xs:=bif aZ s.3 (FTS.p x).5 (FTS.p x).6 then aO s.3 (FTS.p x).5 (cN (FTS.p x).1 (FTS.p x).2 (FTS.p x).3 (FTS.p x).4 (FTS.p x).5 (FTS.p x).6 (FTS.p x).7 (FTS.p x).8 (FTS.p x).9)else s.3,c:=s.4+1,k:=3,a:=(FTS.p x).5,o:=aA s.3 (FTS.p x).5,w:=bif bR s.3 (FTS.p x).5 then cN (FTS.p x).1 (FTS.p x).2 (FTS.p x).3 (FTS.p x).4 (FTS.p x).5 (FTS.p x).6 (FTS.p x).7 (FTS.p x).8 (FTS.p x).9 else 0,ok:=aZ s.3 (FTS.p x).5 (FTS.p x).6} }))) (.ite (!ieq (FTS.p x).9 0) (.pre ((lE' st.3∧1=1∧List.length st.3+(1:Nat)≤(4294967296:Nat))∧True) (.pre ((t=t∧n=n)∧(true=false→(3:Int)≠(0:Int)∧(3:Int)≠(1:Int)∧(3:Int)≠(2:Int))∧lE' (bif aZ s.3 (FTS.p x).5 (FTS.p x).6 then aO s.3 (FTS.p x).5 (cN (FTS.p x).1 (FTS.p x).2 (FTS.p x).3 (FTS.p x).4 (FTS.p x).5 (FTS.p x).6 (FTS.p x).7 (FTS.p x).8 (FTS.p x).9)else s.3)∧List.length st.3+(1:Nat)=List.length (st.3++ [(FTS.p x).9])) (.ret {d:=true,x:= {x with code:=(FTS.p x).2,okk:=(FTS.p x).3,val:=(FTS.p x).4,at':=3,p:= {now:=(FTS.p x).1,code:=(FTS.p x).2,okk:=(FTS.p x).3,val:=(FTS.p x).4,addr:=(FTS.p x).5,old:=(FTS.p x).6,nxt:=(FTS.p x).7,mark:=(FTS.p x).8,pops:=(FTS.p x).9},fn:=cS,cl:=bF,pr:=dN},st:= {me:=st.1,sp:=st.2,R:=st.3++ [(FTS.p x).9] },s:= {t:=s.1,n:=s.2,xs:=bif aZ s.3 (FTS.p x).5 (FTS.p x).6 then aO s.3 (FTS.p x).5 (cN (FTS.p x).1 (FTS.p x).2 (FTS.p x).3 (FTS.p x).4 (FTS.p x).5 (FTS.p x).6 (FTS.p x).7 (FTS.p x).8 (FTS.p x).9)else s.3,c:=s.4+1,k:=3,a:=(FTS.p x).5,o:=aA s.3 (FTS.p x).5,w:=bif bR s.3 (FTS.p x).5 then cN (FTS.p x).1 (FTS.p x).2 (FTS.p x).3 (FTS.p x).4 (FTS.p x).5 (FTS.p x).6 (FTS.p x).7 (FTS.p x).8 (FTS.p x).9 else 0,ok:=aZ s.3 (FTS.p x).5 (FTS.p x).6} }))) (.pre ((t=t∧n=n)∧(true=false→(3:Int)≠(0:Int)∧(3:Int)≠(1:Int)∧(3:Int)≠(2:Int))∧lE' (bif aZ s.3 (FTS.p x).5 (FTS.p x).6 then aO s.3 (FTS.p x).5 (cN (FTS.p x).1 (FTS.p x).2 (FTS.p x).3 (FTS.p x).4 (FTS.p x).5 (FTS.p x).6 (FTS.p x).7 (FTS.p x).8 (FTS.p x).9)else s.3)∧lE' st.3) (.ret {d:=true,x:= {x with code:=(FTS.p x).2,okk:=(FTS.p x).3,val:=(FTS.p x).4,at':=3,p:= {now:=(FTS.p x).1,code:=(FTS.p x).2,okk:=(FTS.p x).3,val:=(FTS.p x).4,addr:=(FTS.p x).5,old:=(FTS.p x).6,nxt:=(FTS.p x).7,mark:=(FTS.p x).8,pops:=(FTS.p x).9},fn:=cS,cl:=bF,pr:=dN},st:= {me:=st.1,sp:=st.2,R:=st.3},s:= {t:=s.1,n:=s.2,xs:=bif aZ s.3 (FTS.p x).5 (FTS.p x).6 then aO s.3 (FTS.p x).5 (cN (FTS.p x).1 (FTS.p x).2 (FTS.p x).3 (FTS.p x).4 (FTS.p x).5 (FTS.p x).6 (FTS.p x).7 (FTS.p x).8 (FTS.p x).9)else s.3,c:=s.4+1,k:=3,a:=(FTS.p x).5,o:=aA s.3 (FTS.p x).5,w:=bif bR s.3 (FTS.p x).5 then cN (FTS.p x).1 (FTS.p x).2 (FTS.p x).3 (FTS.p x).4 (FTS.p x).5 (FTS.p x).6 (FTS.p x).7 (FTS.p x).8 (FTS.p x).9 else 0,ok:=aZ s.3 (FTS.p x).5 (FTS.p x).6} })))))))
theorem GU(t n:Int)(x:FTS)(st:STS)(s:MS)(K:FtO→Prop)(h:(uA t n x st s).run K):cT' 39 [.ptr 0 0,.ptr 2 0] [some (.cells [.ptr 1 0,.int .i64 x.code,.bool x.okk,.int .i64 x.val,.bool x.failed,.int .i64 x.tries,.int .i64 x.sh,.int .i64 x.kd,.int .i64 x.ky,.int .i64 x.most,.int .i64 3,.bool x.p.now,.int .i64 x.p.code,.bool x.p.okk,.int .i64 x.p.val,.int .i64 x.p.addr,.int .u64 x.p.old,.int .i64 x.p.nxt,.bool x.p.mark,.int .i64 x.p.pops,.O,.O,.O]),stC 4 t n st,aX 3 s,aY s,nK st] (eB 4 0 [20,21,22] [(.cell 1 4,.ints (some .i64))] (MI t n) K):=by
 exact cM' (E:=ER) (by kernel_rfl) h
def J1(t n:Int)(x:FTS)(st:STS)(s:MS):Tr FtO:=
 bif ieq x.at' 0 then pE t n x st s else
 bif ieq x.at' 1 then z9 t n x st s else
 bif ieq x.at' 2 then pF t n x st s else
 bif ieq x.at' 3 then uA t n x st s else .pre False (.ret default)
def ftF(t n:Int)(x:FTS)(st:STS)(s:MS):FtO:=(J1 t n x st s).val
def ftOk(t n:Int)(x:FTS)(st:STS)(s:MS):Prop:=(J1 t n x st s).ok
theorem D8(t n:Int)(x:FTS)(st:STS)(s:MS)(K:AVal→aC Ob→Prop)(h:(J1 t n x st s).run (fun y=>(FtO.fin t n y).run K)):cT' 39 [.ptr 0 0,.ptr 2 0] (MH t n x st s) K:=by
 unfold J1 at h
 by_cases e:x.at'=0
 ·rw [e]at h
  have h:(pE t n x st s).run _:=h
  refine ZB (root:=0) (pos:=[20,21,22]) (cs:=[(.cell 1 4,.ints (some .i64))]) (parse:=MI t n) (fin:=FtO.fin t n) xX ((cV.unpack (.fast t n x) 0 1 (jY t n x) [1] rfl (congrArg (Prod.mk 1) (xQ e)) (by kernel_rfl) rfl).trans (cV.unpack (.store t n st) 1 0 (jT t n st) [] rfl rfl rfl rfl)) ?_
  have q:=GN t n x st s _ h
  rw [←e]at q
  exact q
 rw [fK e]at h
 by_cases e:x.at'=1
 ·rw [e]at h
  have h:(z9 t n x st s).run _:=h
  refine ZB (root:=0) (pos:=[20,21,22]) (cs:=[(.cell 1 4,.ints (some .i64))]) (parse:=MI t n) (fin:=FtO.fin t n) xX ((cV.unpack (.fast t n x) 0 1 (lY t n x) [1] rfl (congrArg (Prod.mk 1) (DV e)) (by kernel_rfl) rfl).trans (cV.unpack (.store t n st) 1 0 (jT t n st) [] rfl rfl rfl rfl)) ?_
  have q:=GO t n x st s _ h
  rw [←e]at q
  exact q
 rw [fK e]at h
 by_cases e:x.at'=2
 ·rw [e]at h
  have h:(pF t n x st s).run _:=h
  refine ZB (root:=0) (pos:=[20,21,22]) (cs:=[(.cell 1 4,.ints (some .i64))]) (parse:=MI t n) (fin:=FtO.fin t n) xX ((cV.unpack (.fast t n x) 0 1 (lZ t n x) [1] rfl (congrArg (Prod.mk 1) (DW e)) (by kernel_rfl) rfl).trans (cV.unpack (.store t n st) 1 0 (jT t n st) [] rfl rfl rfl rfl)) ?_
  have q:=GP t n x st s _ h
  rw [←e]at q
  exact q
 rw [fK e]at h
 by_cases e:x.at'=3
 ·rw [e]at h
  have h:(uA t n x st s).run _:=h
  refine ZB (root:=0) (pos:=[20,21,22]) (cs:=[(.cell 1 4,.ints (some .i64))]) (parse:=MI t n) (fin:=FtO.fin t n) xX ((cV.unpack (.fast t n x) 0 1 (tQ t n x) [1] rfl (congrArg (Prod.mk 1) (zS ⟨(by omega),(by omega),(by omega)⟩)) (by kernel_rfl) rfl).trans (cV.unpack (.store t n st) 1 0 (jT t n st) [] rfl rfl rfl rfl)) ?_
  have q:=GU t n x st s _ h
  rw [←e]at q
  exact q
 rw [fK e]at h
 exact h.1.elim
noncomputable def ftSA:aK Ob:=fun args h=>match args,h with
 | [.ptr 0 0,.ptr 2 0],[some (.abs (.fast t n x) [1]),some (.abs (.store t2 n2 st) []),e3,e4]=>(match eN 3 [e3,e4]with
   | some (l,s)=>some (.pre ((l=s.xs.length∧t2=t∧n2=n)∧ftOk t n x st s) (FtO.fin t n (ftF t n x st s)))
   | none=>none)
 | _,_=>none
theorem SJ:sT' 39 ftSA:=by
 intro args h o ho K hK
 unfold ftSA at ho
 split at ho
 case h_2=>cases ho
 split at ho<;>cases ho
 rename_i hm
 obtain⟨⟨⟨hl,rfl,rfl⟩,ok⟩,hK⟩:=hK
 have hh:=bU hm hl
 cases hh
 exact D8 _ _ _ _ _ K (ZD ok hK)
def FtO.finB(t n:Int)(y:FtO):Out Ob:=.ite y.d (.ret (.bool true) ([some (.cells [.ptr 1 0,.int .i64 y.x.code,.bool y.x.okk,.int .i64 y.x.val,.bool y.x.failed,.int .i64 y.x.tries,.int .i64 y.x.sh,.int .i64 y.x.kd,.int .i64 y.x.ky,.int .i64 y.x.most,.int .i64 y.x.at',.bool y.x.p.now,.int .i64 y.x.p.code,.bool y.x.p.okk,.int .i64 y.x.p.val,.int .i64 y.x.p.addr,.int .u64 y.x.p.old,.int .i64 y.x.p.nxt,.bool y.x.p.mark,.int .i64 y.x.p.pops,.O,.O,.O]),stC 5 t n y.st,none,aX 4 y.s,aY y.s,nK y.st])) (.ret (.bool false) [some (.abs (.fast t n y.x) [1]),stC 5 t n y.st,none,aX 4 y.s,aY y.s,nK y.st])
noncomputable def ftSB:aK Ob:=fun args h=>match args,h with
 | [.ptr 0 0,.ptr 3 0],[some (.abs (.fast t n x) [1]),e1,e2,e3,e4]=>(match u4 2 [e1,e2],eN 4 [e3,e4]with
   | some (l2,t2,n2,st),some (l,s)=>some (.pre ((l=s.xs.length∧l2=st.R.length∧t2=t∧n2=n)∧ftOk t n x st s) (FtO.finB t n (ftF t n x st s)))
   | _,_=>none)
 | _,_=>none
theorem SK:sT' 39 ftSB:=by
 intro args h o ho K hK
 unfold ftSB at ho
 split at ho
 case h_2=>cases ho
 split at ho<;>cases ho
 rename_i hs hm
 obtain⟨⟨⟨hl,hl2,rfl,rfl⟩,ok⟩,hK⟩:=hK
 have hh:=bU hm hl
 cases hh
 have hh:=dK hs hl2
 cases hh
 exact nL (fun ι hι=>by simp [aG.ren,Y7,AVal.ren,hι]) (fun ι hι=>by simp [aG.ren,hι]) (fun K hK=>D8 _ _ _ _ _ K (ZD ok hK)) K hK
noncomputable def ftS:aK Ob:=aK.or ftSA ftSB
theorem VG:sT' 39 ftS:=ZM SJ SK
def SC(t n:Int)(v:AVal)(g:aC Ob):Option (Prop×(FTS×STS)):=match v,g with
 | .ptr 2 0,[e1,e2,some (.cells [.ptr 0 0,.int .i64 code,.bool okk,.int .i64 val,.bool failed,.int .i64 tries,.int .i64 sh,.int .i64 kd,.int .i64 ky,.int .i64 most,.int .i64 at',.bool p_now,.int .i64 p_code,.bool p_okk,.int .i64 p_val,.int .i64 p_addr,.int .u64 p_old,.int .i64 p_nxt,.bool p_mark,.int .i64 p_pops,.ptr 3 0,.O,.O]),some (.abs (.find t' n' sub) [])]=>(match u4 1 [e1,e2]with
   | some (l2,t2,n2,st)=>some ((t2=t∧n2=n∧l2=st.R.length)∧t'=t∧n'=n∧at'=0,⟨(⟨code,okk,val,failed,tries,sh,kd,ky,most,at',⟨p_now,p_code,p_okk,p_val,p_addr,p_old,p_nxt,p_mark,p_pops⟩,sub,⟨0,0,0,0⟩,⟨0,0,0,false⟩⟩:FTS),st⟩)
   | none=>none)
 | _,_=>none
abbrev OA(t n:Int)(y:(FTS×STS)):aC Ob:=[stC 1 t n y.2,nK y.2,some (.abs (.fast t n y.1) [0])]
theorem OB{t n:Int} :dH (obI tbl) 2 (SC t n) (fun y=>.ret (.ptr 2 0) (OA t n y)):=by
 intro v g p x hp hq K hK
 unfold SC at hp
 split at hp
 case h_2=>cases hp
 rename_i e1 e2 code okk val failed tries sh kd ky most at' p_now p_code p_okk p_val p_addr p_old p_nxt p_mark p_pops t' n' sub
 split at hp
 case h_2=>cases hp
 rename_i l2 t2 n2 st hs
 simp only [sI',pI']at hp
 obtain⟨rfl,rfl⟩:=hp
 obtain⟨⟨rfl,rfl,hl2⟩,rfl,rfl,hat⟩:=hq
 have hh:=dK hs hl2
 cases hh
 exact⟨⟨_,_,aQ.pack (OA t' n' ((⟨code,okk,val,failed,tries,sh,kd,ky,most,at',⟨p_now,p_code,p_okk,p_val,p_addr,p_old,p_nxt,p_mark,p_pops⟩,sub,⟨0,0,0,0⟩,⟨0,0,0,false⟩⟩:FTS),st)) (.fast t' n' (⟨code,okk,val,failed,tries,sh,kd,ky,most,at',⟨p_now,p_code,p_okk,p_val,p_addr,p_old,p_nxt,p_mark,p_pops⟩,sub,⟨0,0,0,0⟩,⟨0,0,0,false⟩⟩:FTS)) 2 1 (jY t' n' (⟨code,okk,val,failed,tries,sh,kd,ky,most,at',⟨p_now,p_code,p_okk,p_val,p_addr,p_old,p_nxt,p_mark,p_pops⟩,sub,⟨0,0,0,0⟩,⟨0,0,0,false⟩⟩:FTS)) [0] (by kernel_rfl) rfl (congrArg (Prod.mk 1) (xQ hat)) (by kernel_rfl),hK⟩⟩
def JZ(t n:Int)(sh kd ky most:Int)(st:STS):Tr (FTS×STS):=.pre True (.pre (zX t n st.1 (cI sh ky) (cT sh kd ky) (W (most - 0))∧True) (.pre ((t=t∧n=n∧lE' st.3)∧t=t∧n=n∧(0:Int)=(0:Int)) (.ret ({code:=0,okk:=false,val:=0,failed:=false,tries:=0,sh:=sh,kd:=kd,ky:=ky,most:=most,at':=0,p:=XB,fn:=xV t n st.1 (cI sh ky) (cT sh kd ky) (W (most - 0)),cl:=bF,pr:=dN},{me:=st.1,sp:=st.2,R:=st.3}))))
def ftNF(t n:Int)(sh kd ky most:Int)(st:STS):(FTS×STS):=(JZ t n sh kd ky most st).val
def pD(t n:Int)(sh kd ky most:Int)(st:STS):Prop:=(JZ t n sh kd ky most st).ok
def ftNS:aK Ob:=fun args h=>match args,h with
 | [.ptr 0 0,.agg [.int .i64 sh,.int .i64 kd,.int .i64 ky],.int .i64 most],[e1,e2]=>(match u4 1 [e1,e2]with
   | some (l2,t,n,st)=>some (.pre (l2=st.R.length∧pD t n sh kd ky most st) (.ret (.ptr 2 0) (OA t n (ftNF t n sh kd ky most st))))
   | none=>none)
 | _,_=>none
theorem CI:sT' 18 ftNS:=by
 intro args h o ho K hK
 unfold ftNS at ho
 split at ho
 case h_2=>cases ho
 rename_i sh kd ky most e1 e2
 split at ho<;>cases ho
 rename_i l2 t n st hs
 obtain⟨⟨hl2,ok⟩,hK⟩:=hK
 have hh:=dK hs hl2
 cases hh
 refine ZJ (root:=2) (pos:=[20,21,22]) (cs:=[]) (parse:=SC t n) OB ?_
 exact cM' (E:=ER) (q:=(JZ t n sh kd ky most st).run (fun y=>(Out.ret (.ptr 2 0) (OA t n y)).run K)) (by kernel_rfl) (ZD ok hK)
noncomputable def ET:=((ER.addS 39 ftS VG).addS 18 ftNS CI)
noncomputable def EH0:=ET
structure HpO where
 d:Bool
 x:HPS
 st:STS
 s:MS
instance:Inhabited HpO:=⟨⟨false,U1,⟨0,0,[]⟩,⟨0,0,[],0,0,0,0,0,false⟩⟩⟩
instance:Inhabited HPS:=⟨U1⟩
abbrev YV(t n:Int)(x:HPS)(st:STS)(s:MS):aC Ob:=[some (.abs (.help t n x) [1]),some (.abs (.store t n st) []),aX 3 s,aY s]
abbrev YU(t n:Int)(x:HPS)(st:STS)(s:MS):aC Ob:=[some (.cells [.ptr 1 0,.int .i64 x.u,.int .u64 x.no,.int .i64 x.rounds,.int .i64 x.limit,.int .i64 x.at',.int .u64 x.found,.int .i64 x.sh,.int .i64 x.kd,.int .i64 x.ky,.bool x.p.now,.int .i64 x.p.code,.bool x.p.okk,.int .i64 x.p.val,.int .i64 x.p.addr,.int .u64 x.p.old,.int .i64 x.p.nxt,.bool x.p.mark,.int .i64 x.p.pops,.O,.O,.O,.O,.O]),some (.abs (.store t n st) []),aX 3 s,aY s]
def HpO.fin(t n:Int)(y:HpO):Out Ob:=.ite y.d (.ret (.bool true) (YU t n y.x y.st y.s)) (.ret (.bool false) (YV t n y.x y.st y.s))
def HpO.finB(t n:Int)(y:HpO):Out Ob:=.ite y.d (.ret (.bool true) ([some (.cells [.ptr 1 0,.int .i64 y.x.u,.int .u64 y.x.no,.int .i64 y.x.rounds,.int .i64 y.x.limit,.int .i64 y.x.at',.int .u64 y.x.found,.int .i64 y.x.sh,.int .i64 y.x.kd,.int .i64 y.x.ky,.bool y.x.p.now,.int .i64 y.x.p.code,.bool y.x.p.okk,.int .i64 y.x.p.val,.int .i64 y.x.p.addr,.int .u64 y.x.p.old,.int .i64 y.x.p.nxt,.bool y.x.p.mark,.int .i64 y.x.p.pops,.O,.O,.O,.O,.O]),stC 5 t n y.st,none,aX 4 y.s,aY y.s,nK y.st])) (.ret (.bool false) [some (.abs (.help t n y.x) [1]),stC 5 t n y.st,none,aX 4 y.s,aY y.s,nK y.st])
noncomputable def EH:=((EH0))
structure DqO where
 d:Bool
 x:DOS
 st:STS
 s:MS
instance:Inhabited DqO:=⟨⟨false,UY,⟨0,0,[]⟩,⟨0,0,[],0,0,0,0,0,false⟩⟩⟩
instance:Inhabited DOS:=⟨UY⟩
abbrev YE(t n:Int)(x:DOS)(st:STS)(s:MS):aC Ob:=[some (.abs (.doer t n x) [1]),some (.abs (.store t n st) []),aX 3 s,aY s]
abbrev YD(t n:Int)(x:DOS)(st:STS)(s:MS):aC Ob:=[some (.cells [.ptr 1 0,.int .i64 x.code,.bool x.okk,.int .i64 x.val,.bool x.slow,.int .i64 x.sh,.int .i64 x.kd,.int .i64 x.ky,.int .i64 x.limit,.int .i64 x.at',.O,.O,.O,.O,.O,.O,.O,.O,.O]),some (.abs (.store t n st) []),aX 3 s,aY s]
def DqO.fin(t n:Int)(y:DqO):Out Ob:=.ite y.d (.ret (.bool true) (YD t n y.x y.st y.s)) (.ret (.bool false) (YE t n y.x y.st y.s))
def DqO.finB(t n:Int)(y:DqO):Out Ob:=.ite y.d (.ret (.bool true) ([some (.cells [.ptr 1 0,.int .i64 y.x.code,.bool y.x.okk,.int .i64 y.x.val,.bool y.x.slow,.int .i64 y.x.sh,.int .i64 y.x.kd,.int .i64 y.x.ky,.int .i64 y.x.limit,.int .i64 y.x.at',.O,.O,.O,.O,.O,.O,.O,.O,.O]),stC 5 t n y.st,none,aX 4 y.s,aY y.s,nK y.st])) (.ret (.bool false) [some (.abs (.doer t n y.x) [1]),stC 5 t n y.st,none,aX 4 y.s,aY y.s,nK y.st])
noncomputable def ED:=((EH))
instance:Inhabited MS:=⟨⟨0,0,[],0,0,0,0,0,false⟩⟩
instance:Inhabited STS:=⟨⟨0,0,[]⟩⟩
def cL(t n:Int):Nat→FTS→STS→MS→Nat×Bool×FTS×STS×MS
 | 0,x,st,s=>(0,false,x,st,s)
 | f+1,x,st,s=>bif (ftF t n x st s).d then(1,true,(ftF t n x st s).x,(ftF t n x st s).st,(ftF t n x st s).s)else
   ((cL t n f (ftF t n x st s).x (ftF t n x st s).st (ftF t n x st s).s).1+1,(cL t n f (ftF t n x st s).x (ftF t n x st s).st (ftF t n x st s).s).2)
def nC(t n:Int):Nat→FTS→STS→MS→Prop
 | 0,_,_,_=>True
 | f+1,x,st,s=>ftOk t n x st s∧((ftF t n x st s).d =false→nC t n f (ftF t n x st s).x (ftF t n x st s).st (ftF t n x st s).s)
theorem OK(t n:Int)(x:FTS)(st:STS)(s:MS):cL t n 0 x st s=(0,false,x,st,s):=rfl
theorem OL(t n:Int)(f:Nat)(x:FTS)(st:STS)(s:MS):cL t n (f+1) x st s=bif (ftF t n x st s).d then(1,true,(ftF t n x st s).x,(ftF t n x st s).st,(ftF t n x st s).s)else((cL t n f (ftF t n x st s).x (ftF t n x st s).st (ftF t n x st s).s).1+1,(cL t n f (ftF t n x st s).x (ftF t n x st s).st (ftF t n x st s).s).2):=rfl
theorem GL(t n:Int)(f:Nat)(x:FTS)(st:STS)(s:MS):nC t n (f+1) x st s=(ftOk t n x st s∧((ftF t n x st s).d =false→nC t n f (ftF t n x st s).x (ftF t n x st s).st (ftF t n x st s).s)):=rfl
structure VD (t n:Int) (N:Nat) (x0:FTS) (st0:STS) (s0:MS) (x:Nat×FTS×STS×MS):Prop where
 hk:x.1≤N
 ok:nC t n (N - x.1) x.2.1 x.2.2.1 x.2.2.2
 eq:cL t n N x0 st0 s0=((cL t n (N - x.1) x.2.1 x.2.2.1 x.2.2.2).1+x.1,(cL t n (N - x.1) x.2.1 x.2.2.1 x.2.2.2).2)
structure VF (t n:Int) (N:Nat) (x0:FTS) (st0:STS) (s0:MS) (x:Nat×FTS×STS×MS):Prop where
 hk:x.1≤N
 eq:cL t n N x0 st0 s0=(x.1,true,x.2)
def t9(t n:Int)(N:Nat)(most:Int)(x0:FTS)(st0:STS)(s0:MS):Hint Ob:= {X:=Nat×FTS×STS×MS,st:=fun x=>([.ptr 0 0,.int .i64 most,.O,.O,.O,.O,.O,.O,.int .i64 (x.1:Int),.O,.iface 35 (.ptr 3 0),.bool false,.O,.int .i64 1,.int .i64 0]++List.replicate 16 .O,[aX 1 x.2.2.2,aY x.2.2.2,some (.cells [.iface 35 (.ptr 3 0)]),some (.abs (.fast t n x.2.1) [4]),some (.abs (.store t n x.2.2.1) [])]),ok:=VD t n N x0 st0 s0,mu:=fun x=>2*(N - x.1)+1,keep:=[0,1,8,10,11,13,14] }
def ftHb(t n:Int)(N:Nat)(most:Int)(x0:FTS)(st0:STS)(s0:MS):Hint Ob:= {X:=Nat×FTS×STS×MS,st:=fun x=>([.ptr 0 0,.int .i64 most,.O,.O,.O,.O,.O,.O,.int .i64 (x.1:Int),.O,.iface 35 (.ptr 3 0),.bool true,.O,.int .i64 1,.int .i64 0]++List.replicate 16 .O,[aX 1 x.2.2.2,aY x.2.2.2,some (.cells [.iface 35 (.ptr 3 0)]),some (.cells [.ptr 4 0,.int .i64 (x.2.1).code,.bool (x.2.1).okk,.int .i64 (x.2.1).val,.bool (x.2.1).failed,.int .i64 (x.2.1).tries,.int .i64 (x.2.1).sh,.int .i64 (x.2.1).kd,.int .i64 (x.2.1).ky,.int .i64 (x.2.1).most,.int .i64 (x.2.1).at',.bool (x.2.1).p.now,.int .i64 (x.2.1).p.code,.bool (x.2.1).p.okk,.int .i64 (x.2.1).p.val,.int .i64 (x.2.1).p.addr,.int .u64 (x.2.1).p.old,.int .i64 (x.2.1).p.nxt,.bool (x.2.1).p.mark,.int .i64 (x.2.1).p.pops,.O,.O,.O]),some (.abs (.store t n x.2.2.1) [])]),ok:=VF t n N x0 st0 s0,mu:=fun x=>2*(N - x.1),keep:=[0,1,8,10,11,13,14],sel:=fun tm _=>match tm.getD 11 .O with | .bool b=>b | _=>false}
def XI(t n:Int)(N:Nat)(most:Int)(x0:FTS)(st0:STS)(s0:MS):FuncId→Nat→Option (nP Ob):=fun _ k=>if k=3 then some (.rounds 2)else some (.cases [ftHb t n N most x0 st0 s0,t9 t n N most x0 st0 s0])
def D7(t n:Int)(N:Nat)(most:Int)(x0:FTS)(st0:STS)(s0:MS)(K:AVal→aC Ob→Prop):Prop:=((0:Int)≤(0:Int)∧(0:Int)<(↑1:Int))∧okSt (t9 t n N most x0 st0 s0) (fun x=>Hint.ok (t9 t n N most x0 st0 s0) x∧DL none (Hint.mu (t9 t n N most x0 st0 s0) x)) [.ptr 0 0,.int .i64 most,.O,.O,.O,.O,.O,.O,.int .i64 0,.O,.iface 35 (.ptr 3 0),.bool false,.O,.int .i64 (↑1:Int),.int .i64 0,.O,.O,.O,.O,.O,.O,.O,.O,.O,.O,.O,.O,.O,.O,.O,.O] [some (.cells [.int .i64 s0.1,.int .i64 s0.2,.slice 1 0 (List.length s0.3) 1,.int .i64 s0.4,.int .i64 s0.5,.int .i64 s0.6,.int .u64 s0.7,.int .u64 s0.8,.bool s0.9]),some (.ints (some .u64) s0.3),some (.cells [.iface 35 (.ptr 3 0)]),some (.abs (.fast t n x0) [4]),some (.abs (.store t n st0) [])]∧(∀(x:(Nat×FTS×STS×MS)),VF t n N x0 st0 s0 x→K (.tup [.int .i64 (↑x.1:Int),.bool true]) [some (.cells [.int .i64 (Prod.snd (Prod.snd x).2).1,.int .i64 (Prod.snd (Prod.snd x).2).2,.slice 1 0 (List.length (Prod.snd (Prod.snd x).2).3) 1,.int .i64 (Prod.snd (Prod.snd x).2).4,.int .i64 (Prod.snd (Prod.snd x).2).5,.int .i64 (Prod.snd (Prod.snd x).2).6,.int .u64 (Prod.snd (Prod.snd x).2).7,.int .u64 (Prod.snd (Prod.snd x).2).8,.bool (Prod.snd (Prod.snd x).2).9]),some (.ints (some .u64) (Prod.snd (Prod.snd x).2).3),some (.cells [.iface 35 (.ptr 3 0)]),some (.cells [.ptr 4 0,.int .i64 (Prod.fst x.2).1,.bool (Prod.fst x.2).2,.int .i64 (Prod.fst x.2).3,.bool (Prod.fst x.2).4,.int .i64 (Prod.fst x.2).5,.int .i64 (Prod.fst x.2).6,.int .i64 (Prod.fst x.2).7,.int .i64 (Prod.fst x.2).8,.int .i64 (Prod.fst x.2).9,.int .i64 (Prod.fst x.2).10,.bool (FTS.p (Prod.snd x).1).1,.int .i64 (FTS.p (Prod.snd x).1).2,.bool (FTS.p (Prod.snd x).1).3,.int .i64 (FTS.p (Prod.snd x).1).4,.int .i64 (FTS.p (Prod.snd x).1).5,.int .u64 (FTS.p (Prod.snd x).1).6,.int .i64 (FTS.p (Prod.snd x).1).7,.bool (FTS.p (Prod.snd x).1).8,.int .i64 (FTS.p (Prod.snd x).1).9,.O,.O,.O]),some (.abs (.store t n (Prod.snd x.2).1) [])])∧(∀(x:(Nat×FTS×STS×MS)),VD t n N x0 st0 s0 x→bif ile most (↑x.1:Int)then K (.tup [.int .i64 (↑x.1:Int),.bool false]) [some (.cells [.int .i64 (Prod.snd (Prod.snd x).2).1,.int .i64 (Prod.snd (Prod.snd x).2).2,.slice 1 0 (List.length (Prod.snd (Prod.snd x).2).3) 1,.int .i64 (Prod.snd (Prod.snd x).2).4,.int .i64 (Prod.snd (Prod.snd x).2).5,.int .i64 (Prod.snd (Prod.snd x).2).6,.int .u64 (Prod.snd (Prod.snd x).2).7,.int .u64 (Prod.snd (Prod.snd x).2).8,.bool (Prod.snd (Prod.snd x).2).9]),some (.ints (some .u64) (Prod.snd (Prod.snd x).2).3),some (.cells [.iface 35 (.ptr 3 0)]),some (.abs (.fast t n (Prod.snd x).1) [4]),some (.abs (.store t n (Prod.snd x.2).1) [])]else((lE' (Prod.snd (Prod.snd x).2).3∧t=t∧n=n)∧ftOk t n (Prod.snd x).1 (Prod.snd x.2).1 (Prod.snd x).2.2)∧bif (ftF t n (Prod.snd x).1 (Prod.snd x.2).1 (Prod.snd x).2.2).1 then okSt (ftHb t n N most x0 st0 s0) (fun x_1=>Hint.ok (ftHb t n N most x0 st0 s0) x_1∧DL (some (Hint.mu (t9 t n N most x0 st0 s0) x)) (Hint.mu (ftHb t n N most x0 st0 s0) x_1)) [.ptr 0 0,.int .i64 most,.O,.O,.O,.O,.O,.O,.int .i64 (W ((↑x.1:Int)+1)),.O,.iface 35 (.ptr 3 0),.bool true,.O,.int .i64 1,.int .i64 0,.O,.O,.O,.O,.O,.O,.O,.O,.O,.O,.O,.O,.O,.O,.O,.O] [some (.cells [.int .i64 (FtO.s (ftF t n (Prod.snd x).1 (Prod.snd x.2).1 (Prod.snd x).2.2)).1,.int .i64 (FtO.s (ftF t n (Prod.snd x).1 (Prod.snd x.2).1 (Prod.snd x).2.2)).2,.slice 1 0 (List.length (FtO.s (ftF t n (Prod.snd x).1 (Prod.snd x.2).1 (Prod.snd x).2.2)).3) 1,.int .i64 (FtO.s (ftF t n (Prod.snd x).1 (Prod.snd x.2).1 (Prod.snd x).2.2)).4,.int .i64 (FtO.s (ftF t n (Prod.snd x).1 (Prod.snd x.2).1 (Prod.snd x).2.2)).5,.int .i64 (FtO.s (ftF t n (Prod.snd x).1 (Prod.snd x.2).1 (Prod.snd x).2.2)).6,.int .u64 (FtO.s (ftF t n (Prod.snd x).1 (Prod.snd x.2).1 (Prod.snd x).2.2)).7,.int .u64 (FtO.s (ftF t n (Prod.snd x).1 (Prod.snd x.2).1 (Prod.snd x).2.2)).8,.bool (FtO.s (ftF t n (Prod.snd x).1 (Prod.snd x.2).1 (Prod.snd x).2.2)).9]),some (.ints (some .u64) (FtO.s (ftF t n (Prod.snd x).1 (Prod.snd x.2).1 (Prod.snd x).2.2)).3),some (.cells [.iface 35 (.ptr 3 0)]),some (.cells [.ptr 4 0,.int .i64 (FtO.x (ftF t n (Prod.snd x).1 (Prod.snd x.2).1 (Prod.snd x).2.2)).1,.bool (FtO.x (ftF t n (Prod.snd x).1 (Prod.snd x.2).1 (Prod.snd x).2.2)).2,.int .i64 (FtO.x (ftF t n (Prod.snd x).1 (Prod.snd x.2).1 (Prod.snd x).2.2)).3,.bool (FtO.x (ftF t n (Prod.snd x).1 (Prod.snd x.2).1 (Prod.snd x).2.2)).4,.int .i64 (FtO.x (ftF t n (Prod.snd x).1 (Prod.snd x.2).1 (Prod.snd x).2.2)).5,.int .i64 (FtO.x (ftF t n (Prod.snd x).1 (Prod.snd x.2).1 (Prod.snd x).2.2)).6,.int .i64 (FtO.x (ftF t n (Prod.snd x).1 (Prod.snd x.2).1 (Prod.snd x).2.2)).7,.int .i64 (FtO.x (ftF t n (Prod.snd x).1 (Prod.snd x.2).1 (Prod.snd x).2.2)).8,.int .i64 (FtO.x (ftF t n (Prod.snd x).1 (Prod.snd x.2).1 (Prod.snd x).2.2)).9,.int .i64 (FtO.x (ftF t n (Prod.snd x).1 (Prod.snd x.2).1 (Prod.snd x).2.2)).10,.bool (FTS.p (ftF t n (Prod.snd x).1 (Prod.snd x.2).1 (Prod.snd x).2.2).2).1,.int .i64 (FTS.p (ftF t n (Prod.snd x).1 (Prod.snd x.2).1 (Prod.snd x).2.2).2).2,.bool (FTS.p (ftF t n (Prod.snd x).1 (Prod.snd x.2).1 (Prod.snd x).2.2).2).3,.int .i64 (FTS.p (ftF t n (Prod.snd x).1 (Prod.snd x.2).1 (Prod.snd x).2.2).2).4,.int .i64 (FTS.p (ftF t n (Prod.snd x).1 (Prod.snd x.2).1 (Prod.snd x).2.2).2).5,.int .u64 (FTS.p (ftF t n (Prod.snd x).1 (Prod.snd x.2).1 (Prod.snd x).2.2).2).6,.int .i64 (FTS.p (ftF t n (Prod.snd x).1 (Prod.snd x.2).1 (Prod.snd x).2.2).2).7,.bool (FTS.p (ftF t n (Prod.snd x).1 (Prod.snd x.2).1 (Prod.snd x).2.2).2).8,.int .i64 (FTS.p (ftF t n (Prod.snd x).1 (Prod.snd x.2).1 (Prod.snd x).2.2).2).9,.O,.O,.O]),some (.abs (.store t n (ftF t n (Prod.snd x).1 (Prod.snd x.2).1 (Prod.snd x).2.2).3) [])]else okSt (t9 t n N most x0 st0 s0) (fun x_1=>Hint.ok (t9 t n N most x0 st0 s0) x_1∧DL (some (Hint.mu (t9 t n N most x0 st0 s0) x)) (Hint.mu (t9 t n N most x0 st0 s0) x_1)) [.ptr 0 0,.int .i64 most,.O,.O,.O,.O,.O,.O,.int .i64 (W ((↑x.1:Int)+1)),.O,.iface 35 (.ptr 3 0),.bool false,.O,.int .i64 1,.int .i64 0,.O,.O,.O,.O,.O,.O,.O,.O,.O,.O,.O,.O,.O,.O,.O,.O] [some (.cells [.int .i64 (FtO.s (ftF t n (Prod.snd x).1 (Prod.snd x.2).1 (Prod.snd x).2.2)).1,.int .i64 (FtO.s (ftF t n (Prod.snd x).1 (Prod.snd x.2).1 (Prod.snd x).2.2)).2,.slice 1 0 (List.length (FtO.s (ftF t n (Prod.snd x).1 (Prod.snd x.2).1 (Prod.snd x).2.2)).3) 1,.int .i64 (FtO.s (ftF t n (Prod.snd x).1 (Prod.snd x.2).1 (Prod.snd x).2.2)).4,.int .i64 (FtO.s (ftF t n (Prod.snd x).1 (Prod.snd x.2).1 (Prod.snd x).2.2)).5,.int .i64 (FtO.s (ftF t n (Prod.snd x).1 (Prod.snd x.2).1 (Prod.snd x).2.2)).6,.int .u64 (FtO.s (ftF t n (Prod.snd x).1 (Prod.snd x.2).1 (Prod.snd x).2.2)).7,.int .u64 (FtO.s (ftF t n (Prod.snd x).1 (Prod.snd x.2).1 (Prod.snd x).2.2)).8,.bool (FtO.s (ftF t n (Prod.snd x).1 (Prod.snd x.2).1 (Prod.snd x).2.2)).9]),some (.ints (some .u64) (FtO.s (ftF t n (Prod.snd x).1 (Prod.snd x.2).1 (Prod.snd x).2.2)).3),some (.cells [.iface 35 (.ptr 3 0)]),some (.abs (.fast t n (ftF t n (Prod.snd x).1 (Prod.snd x.2).1 (Prod.snd x).2.2).2) [4]),some (.abs (.store t n (ftF t n (Prod.snd x).1 (Prod.snd x.2).1 (Prod.snd x).2.2).3) [])])∧True
theorem wA(t n:Int)(N:Nat)(most:Int)(x0:FTS)(st0:STS)(s0:MS)(K:AVal→aC Ob→Prop)(h:D7 t n N most x0 st0 s0 K):cT' 20 [.ptr 0 0,.int .i64 most,.slice 2 0 1 1] [aX 1 s0,aY s0,some (.cells [.iface 35 (.ptr 3 0)]),some (.abs (.fast t n x0) [4]),some (.abs (.store t n st0) [])] K:=by
 refine Y2 (aE (E:=ED) Tryz.checked.mixed (L:=XI t n N most x0 st0 s0) (n:=10) (aU (by kernel_rfl) h))
theorem QC(t n:Int)(N:Nat)(most:Int)(x0:FTS)(st0:STS)(s0:MS)(K:AVal→aC Ob→Prop)(hN:most=(N:Int))(hb:N≤1000000)(ok:nC t n N x0 st0 s0)
 (hK:(Out.ite (cL t n N x0 st0 s0).2.1 (.ret (.tup [.int .i64 ((cL t n N x0 st0 s0).1:Int),.bool true]) [aX 1 (cL t n N x0 st0 s0).2.2.2.2,aY (cL t n N x0 st0 s0).2.2.2.2,some (.cells [.iface 35 (.ptr 3 0)]),some (.cells [.ptr 4 0,.int .i64 (cL t n N x0 st0 s0).2.2.1.code,.bool (cL t n N x0 st0 s0).2.2.1.okk,.int .i64 (cL t n N x0 st0 s0).2.2.1.val,.bool (cL t n N x0 st0 s0).2.2.1.failed,.int .i64 (cL t n N x0 st0 s0).2.2.1.tries,.int .i64 (cL t n N x0 st0 s0).2.2.1.sh,.int .i64 (cL t n N x0 st0 s0).2.2.1.kd,.int .i64 (cL t n N x0 st0 s0).2.2.1.ky,.int .i64 (cL t n N x0 st0 s0).2.2.1.most,.int .i64 (cL t n N x0 st0 s0).2.2.1.at',.bool (cL t n N x0 st0 s0).2.2.1.p.now,.int .i64 (cL t n N x0 st0 s0).2.2.1.p.code,.bool (cL t n N x0 st0 s0).2.2.1.p.okk,.int .i64 (cL t n N x0 st0 s0).2.2.1.p.val,.int .i64 (cL t n N x0 st0 s0).2.2.1.p.addr,.int .u64 (cL t n N x0 st0 s0).2.2.1.p.old,.int .i64 (cL t n N x0 st0 s0).2.2.1.p.nxt,.bool (cL t n N x0 st0 s0).2.2.1.p.mark,.int .i64 (cL t n N x0 st0 s0).2.2.1.p.pops,.O,.O,.O]),some (.abs (.store t n (cL t n N x0 st0 s0).2.2.2.1) [])]) (.ret (.tup [.int .i64 ((cL t n N x0 st0 s0).1:Int),.bool false]) [aX 1 (cL t n N x0 st0 s0).2.2.2.2,aY (cL t n N x0 st0 s0).2.2.2.2,some (.cells [.iface 35 (.ptr 3 0)]),some (.abs (.fast t n (cL t n N x0 st0 s0).2.2.1) [4]),some (.abs (.store t n (cL t n N x0 st0 s0).2.2.2.1) [])])).run K):D7 t n N most x0 st0 s0 K:=by
 unfold D7
 subst hN
 refine⟨by omega,aH (H:=t9 t n N N x0 st0 s0) (0,x0,st0,s0) rfl ⟨⟨Nat.zero_le _,ok,rfl⟩,trivial⟩,?_,?_,trivial⟩
 ·rintro⟨k,x,st,s⟩ ⟨hk,heq⟩
  rw [heq]at hK
  exact hK
 ·rintro⟨k,x,st,s⟩ ⟨hk,ok,heq⟩
  dsimp only at hk ok heq⊢
  refine aI (fun e=>?_) (fun e=>?_)
  ·rw [bV,dT']at e
   have hkN:k=N:=by omega
   subst hkN
   rw [Nat.sub_self]at heq
   rw [heq,OK,Nat.zero_add]at hK
   exact hK
  ·rw [bV,dF']at e
   have hkN:N - k=(N - (k+1))+1:=by omega
   rw [hkN]at ok heq
   rw [GL]at ok
   rw [OL]at heq
   have e4:W ((k:Int)+1)=((k+1:Nat):Int):=by rw [W,cE (by omega)];rfl
   refine⟨⟨⟨rfl,rfl,rfl⟩,ok.1⟩,aI (fun hd=>?_) (fun hd=>?_)⟩
   ·refine aH (H:=ftHb t n N N x0 st0 s0) (k+1,(ftF t n x st s).x,(ftF t n x st s).st,(ftF t n x st s).s) (by simp only [e4]<;>rfl) ⟨⟨by show k+1≤N;omega,?_⟩,by show 2*(N - (k+1))<2*(N - k)+1;omega⟩
    have hd':(ftF t n x st s).d =true:=hd
    rw [heq,hd']
    simp only [cond_true]
    rw [Nat.add_comm]
   ·refine aH (H:=t9 t n N N x0 st0 s0) (k+1,(ftF t n x st s).x,(ftF t n x st s).st,(ftF t n x st s).s) (by simp only [e4]<;>rfl) ⟨⟨by show k+1≤N;omega,ok.2 hd,?_⟩,by show 2*(N - (k+1))+1<2*(N - k)+1;omega⟩
    have hd':(ftF t n x st s).d =false:=hd
    rw [heq,hd']
    simp only [cond_false]
    rw [Nat.add_assoc,Nat.add_comm 1 k]
def bP(t n:Int)(f:Nat)(x:FTS)(st:STS)(s:MS):Nat×Bool×FTS×STS×MS:=cL t n f x st s
def z8(t n:Int)(f:Nat)(x:FTS)(st:STS)(s:MS):Prop:=nC t n f x st s
noncomputable def ftRunS:aK Ob:=fun args h=>match args,h with
 | [.ptr 0 0,.int .i64 most,.slice 2 0 1 1],[e1,e2,some (.cells [.iface 35 (.ptr 3 0)]),some (.abs (.fast t n x) [4]),e5,e6]=>(match eN 1 [e1,e2],u4 5 [e5,e6]with
   | some (l,s),some (l2,t2,n2,st)=>some (.pre ((l=s.xs.length∧l2=st.R.length∧t2=t∧n2=n)∧(0≤most∧most≤1000000)∧z8 t n most.toNat x st s) (.ite (bP t n most.toNat x st s).2.1 (.ret (.tup [.int .i64 ((bP t n most.toNat x st s).1:Int),.bool true]) [aX 1 (bP t n most.toNat x st s).2.2.2.2,aY (bP t n most.toNat x st s).2.2.2.2,some (.cells [.iface 35 (.ptr 3 0)]),some (.cells [.ptr 4 0,.int .i64 (bP t n most.toNat x st s).2.2.1.code,.bool (bP t n most.toNat x st s).2.2.1.okk,.int .i64 (bP t n most.toNat x st s).2.2.1.val,.bool (bP t n most.toNat x st s).2.2.1.failed,.int .i64 (bP t n most.toNat x st s).2.2.1.tries,.int .i64 (bP t n most.toNat x st s).2.2.1.sh,.int .i64 (bP t n most.toNat x st s).2.2.1.kd,.int .i64 (bP t n most.toNat x st s).2.2.1.ky,.int .i64 (bP t n most.toNat x st s).2.2.1.most,.int .i64 (bP t n most.toNat x st s).2.2.1.at',.bool (bP t n most.toNat x st s).2.2.1.p.now,.int .i64 (bP t n most.toNat x st s).2.2.1.p.code,.bool (bP t n most.toNat x st s).2.2.1.p.okk,.int .i64 (bP t n most.toNat x st s).2.2.1.p.val,.int .i64 (bP t n most.toNat x st s).2.2.1.p.addr,.int .u64 (bP t n most.toNat x st s).2.2.1.p.old,.int .i64 (bP t n most.toNat x st s).2.2.1.p.nxt,.bool (bP t n most.toNat x st s).2.2.1.p.mark,.int .i64 (bP t n most.toNat x st s).2.2.1.p.pops,.O,.O,.O]),stC 6 t n (bP t n most.toNat x st s).2.2.2.1,none,nK (bP t n most.toNat x st s).2.2.2.1]) (.ret (.tup [.int .i64 ((bP t n most.toNat x st s).1:Int),.bool false]) [aX 1 (bP t n most.toNat x st s).2.2.2.2,aY (bP t n most.toNat x st s).2.2.2.2,some (.cells [.iface 35 (.ptr 3 0)]),some (.abs (.fast t n (bP t n most.toNat x st s).2.2.1) [4]),stC 6 t n (bP t n most.toNat x st s).2.2.2.1,none,nK (bP t n most.toNat x st s).2.2.2.1])))
   | _,_=>none)
 | _,_=>none
theorem J0:sT' 20 ftRunS:=by
 intro args h o ho K hK
 unfold ftRunS at ho
 split at ho
 case h_2=>cases ho
 rename_i most e1 e2 t n x e5 e6
 split at ho<;>cases ho
 rename_i l s l2 t2 n2 st hm hs
 obtain⟨⟨⟨hl,hl2,rfl,rfl⟩,hb,ok⟩,hK⟩:=hK
 unfold z8 at ok
 unfold bP at hK
 have hh:=bU hm hl
 cases hh
 have hh:=dK hs hl2
 cases hh
 refine ZW ?_
 refine aAf tbl [aX 1 s,aY s,some (.cells [.iface 35 (.ptr 3 0)]),some (.abs (.fast t2 n2 x) [4]),some (.abs (.store t2 n2 st) [])] (.store t2 n2 st) 4 0 (jT t2 n2 st) [] (by kernel_rfl) rfl rfl (by kernel_rfl) ?_
 refine wA t2 n2 most.toNat most x st s _ (QC t2 n2 most.toNat most x st s _ (by omega) (by omega) ok ?_)
 generalize cL t2 n2 most.toNat x st s=r at hK⊢
 obtain⟨c,b,y,sy,my⟩:=r
 cases b with
 | true=>exact⟨⟨_,_,aQ.unpack (.store t2 n2 sy) 4 0 (jT t2 n2 sy) [] rfl rfl rfl rfl,hK⟩⟩
 | false=>exact⟨⟨_,_,aQ.unpack (.store t2 n2 sy) 4 0 (jT t2 n2 sy) [] rfl rfl rfl rfl,hK⟩⟩
noncomputable def runS:aK Ob:=ftRunS
theorem T0:sT' 20 runS:=J0
noncomputable def ERun:=ED.addS 20 runS T0
noncomputable def EZ:=(ERun)
def dB(sh h k:Int):Bool:=bif ieq sh 2 then !ieq (Int.tmod k 4) h else ilt 0 h
def eC(sh h n:Int):List Int→Int→Int→Int→Int→MS→MS
 | [],i,a,ky,vr,s=>s.stored a (aV ky 0 false 0 vr)
 | k::ks,i,a,ky,vr,s=>bif dB sh h k then eC sh h n ks (i+1) a ky vr s else eC sh h n ks (i+1) (i+1) k 3 ((s.stored a (aV ky (i+1) false 0 vr)).stored (n+4+(i+1)) 1)
def fA(sh n:Int)(xs:List Int):Nat→Int→MS→MS
 | 0,h,s=>s
 | f+1,h,s=>fA sh n xs f (h+1) (eC sh h n xs 0 (n+1+h) 0 0 s)
def memN(t n:Int):MS:= {t:=t,n:=n,xs:=List.replicate (2*n+5*t+6).toNat 0,c:=0,k:=0,a:=0,o:=0,w:=0,ok:=false}
structure nA (sh t n:Int) (xs:List Int) (x:Nat×MS):Prop where
 h4:x.1≤4
 c:0≤x.2.c∧x.2.c≤1000*x.1
 eq:fA sh n xs 4 0 (memN t n)=fA sh n xs (4 - x.1) x.1 x.2
structure sS (sh t n:Int) (xs:List Int) (h:Int) (x:Nat×Int×Int×Int×MS):Prop where
 h4:0≤h∧h<4
 hi:x.1≤xs.length
 ky:0≤x.2.2.1∧x.2.2.1<1024
 vr:0≤x.2.2.2.1∧x.2.2.2.1<262144
 c:0≤x.2.2.2.2.c∧x.2.2.2.2.c≤1000*h+3*x.1
 eq:fA sh n xs 4 0 (memN t n)=fA sh n xs (3 - h).toNat (h+1) (eC sh h n (xs.drop x.1) x.1 x.2.1 x.2.2.1 x.2.2.2.1 x.2.2.2.2)
def H6(sh t m:Int)(xs:List Int):Hint Ob:= {X:=Nat×MS,st:=fun x=>([.int .i64 sh,.O,.O,.slice 0 0 xs.length 1,.O,.O,.O,.O,.O,.ptr 1 0,.ptr 2 0,.ptr 3 0,.O,.int .i64 (x.1:Int)]++List.replicate 79 .O,[some (.ints (some .i64) xs),some (.cells [.int .i64 0,.int .i64 0]),some (.cells [.int .i64 t,.int .i64 (IntKind.wrap .i64 ((xs.length:Int)+m))]),aX 4 x.2,aY x.2]),ok:=nA sh t (IntKind.wrap .i64 ((xs.length:Int)+m)) xs,mu:=fun x=>4 - x.1,keep:=[0,3,9,10,11,13] }
def HFi(sh t m:Int)(xs:List Int)(h:Int):Hint Ob:= {X:=Nat×Int×Int×Int×MS,st:=fun x=>([.int .i64 sh,.O,.O,.slice 0 0 xs.length 1,.O,.O,.O,.O,.O,.ptr 1 0,.ptr 2 0,.ptr 3 0,.O,.int .i64 h,.int .i64 x.2.1,.ptr 5 0]++List.replicate 28 .O ++ [.slice 0 0 xs.length 1,.int .i64 (xs.length:Int),.int .i64 (x.1:Int)]++List.replicate 46 .O,[some (.ints (some .i64) xs),some (.cells [.int .i64 0,.int .i64 0]),some (.cells [.int .i64 t,.int .i64 (IntKind.wrap .i64 ((xs.length:Int)+m))]),aX 4 x.2.2.2.2,aY x.2.2.2.2,some (.cells [.int .i64 x.2.2.1,.int .i64 0,.bool false,.int .i64 0,.int .i64 x.2.2.2.1])]),ok:=sS sh t (IntKind.wrap .i64 ((xs.length:Int)+m)) xs h,mu:=fun x=>xs.length - x.1,keep:=[0,3,9,10,11,13,14,15,44,45,46] }
def RQ(sh t m:Int)(xs:List Int):FuncId→Nat→Option (nP Ob):=fun _ k=>if k=6 then some (.states (H6 sh t m xs))else if k=10 then some (.statesAt 13 (HFi sh t m xs))else some (.rounds 12)
def xS(sh t m:Int)(xs:List Int)(K:AVal→aC Ob→Prop):Prop:=True∧bif !fB t (W ((↑(List.length xs):Int)+m))then K (.tup [.raw (Value.pointer none),.agg [.int .i64 t,.int .i64 (W ((↑(List.length xs):Int)+m))]]) [some (.ints (some .i64) xs)]else(((0:Int)≤t∧t≤(100000:Int))∧(0:Int)≤W ((↑(List.length xs):Int)+m)∧W ((↑(List.length xs):Int)+m)≤(100000:Int))∧bif ilt (2*W ((↑(List.length xs):Int)+m)+5*t+6) (↑0:Int)then K (.tup [.raw (Value.pointer none),.agg [.int .i64 t,.int .i64 (W ((↑(List.length xs):Int)+m))]]) [some (.ints (some .i64) xs)]else((((0:Int)≤t∧t≤(100000:Int))∧(0:Int)≤W ((↑(List.length xs):Int)+m)∧W ((↑(List.length xs):Int)+m)≤(100000:Int))∧True)∧((0:Int)≤(2:Int)*W ((↑(List.length xs):Int)+m)+5*t+6∧2*W ((↑(List.length xs):Int)+m)+5*t+(6:Int)=(2:Int)*W ((↑(List.length xs):Int)+m)+5*t+6∧2*W ((↑(List.length xs):Int)+m)+5*t+(6:Int)≤(4294967296:Int))∧okSt (H6 sh t m xs) (Hint.ok (H6 sh t m xs)) [.int .i64 sh,.O,.O,.slice 0 0 (List.length xs) 1,.O,.O,.O,.O,.O,.ptr 1 0,.ptr 2 0,.ptr 3 0,.O,.int .i64 0,.O,.O,.O,.O,.O,.O,.O,.O,.O,.O,.O,.O,.O,.O,.O,.O,.O,.O,.O,.O,.O,.O,.O,.O,.O,.O,.O,.O,.O,.O,.O,.O,.O,.O,.O,.O,.O,.O,.O,.O,.O,.O,.O,.O,.O,.O,.O,.O,.O,.O,.O,.O,.O,.O,.O,.O,.O,.O,.O,.O,.O,.O,.O,.O,.O,.O,.O,.O,.O,.O,.O,.O,.O,.O,.O,.O,.O,.O,.O] [some (.ints (some .i64) xs),some (.cells [.int .i64 0,.int .i64 0]),some (.cells [.int .i64 t,.int .i64 (W ((↑(List.length xs):Int)+m))]),some (.cells [.int .i64 t,.int .i64 (W ((↑(List.length xs):Int)+m)),.slice 4 0 (Int.toNat (2*W ((↑(List.length xs):Int)+m)+5*t+6)) 1,.int .i64 0,.int .i64 0,.int .i64 0,.int .u64 0,.int .u64 0,.bool false]),some (.ints (some .u64) (List.replicate (Int.toNat (2*W ((↑(List.length xs):Int)+m)+5*t+6)) 0))]∧ ∀(x:(Nat×MS)),nA sh t (W ((↑(List.length xs):Int)+m)) xs x→bif ilt (↑x.1:Int) 4 then(((0:Int)≤W ((↑(List.length xs):Int)+m)∧W ((↑(List.length xs):Int)+m)≤(100000:Int))∧(-1000000:Int)≤(↑x.1:Int)∧(↑x.1:Int)≤(1000000:Int))∧okSt (HFi sh t m xs (↑(Prod.fst x):Int)) (Hint.ok (HFi sh t m xs (↑(Prod.fst x):Int))) [.int .i64 sh,.O,.O,.slice 0 0 (List.length xs) 1,.O,.O,.O,.O,.O,.ptr 1 0,.ptr 2 0,.ptr 3 0,.O,.int .i64 (↑x.1:Int),.int .i64 (W ((↑(List.length xs):Int)+m)+1+(↑x.1:Int)),.ptr 5 0,.O,.O,.O,.O,.O,.O,.O,.O,.O,.O,.O,.O,.O,.O,.O,.O,.O,.O,.O,.O,.O,.O,.O,.O,.O,.O,.O,.O,.slice 0 0 (List.length xs) 1,.int .i64 (↑(List.length xs):Int),.int .i64 0,.O,.O,.O,.O,.O,.O,.O,.O,.O,.O,.O,.O,.O,.O,.O,.O,.O,.O,.O,.O,.O,.O,.O,.O,.O,.O,.O,.O,.O,.O,.O,.O,.O,.O,.O,.O,.O,.O,.O,.O,.O,.O,.O,.O,.O,.O] [some (.ints (some .i64) xs),some (.cells [.int .i64 0,.int .i64 0]),some (.cells [.int .i64 t,.int .i64 (W ((↑(List.length xs):Int)+m))]),some (.cells [.int .i64 (Prod.snd x).1,.int .i64 (Prod.snd x).2,.slice 4 0 (List.length (Prod.snd x).3) 1,.int .i64 (Prod.snd x).4,.int .i64 (Prod.snd x).5,.int .i64 (Prod.snd x).6,.int .u64 (Prod.snd x).7,.int .u64 (Prod.snd x).8,.bool (Prod.snd x).9]),some (.ints (some .u64) (Prod.snd x).3),some (.cells [.int .i64 0,.int .i64 0,.bool false,.int .i64 0,.int .i64 0])]∧ ∀(x_1:Hint.X (HFi sh t m xs (↑(Prod.fst x):Int))),sS sh t (W ((↑(List.length xs):Int)+m)) xs (↑x.1:Int) x_1→bif ilt (↑x_1.1:Int) (↑(List.length xs):Int)then((0:Int)≤(↑x_1.1:Int)∧(↑x_1.1:Int)<(↑(List.length xs):Int))∧0+Int.toNat (↑x_1.1:Int)*(1:Nat)<List.length xs∧bif ieq sh 2 then(4:Int)≠(0:Int)∧bif !ieq (Int.tmod (List.getD xs (0+Int.toNat (↑x_1.1:Int)*1) 0) 4) (↑x.1:Int)then okSt (HFi sh t m xs (↑(Prod.fst x):Int)) (fun x'=>Hint.ok (HFi sh t m xs (↑(Prod.fst x):Int)) x'∧Hint.mu (HFi sh t m xs (↑(Prod.fst x):Int)) x'<Hint.mu (HFi sh t m xs (↑(Prod.fst x):Int)) x_1) [.int .i64 sh,.O,.O,.slice 0 0 (List.length xs) 1,.O,.O,.O,.O,.O,.ptr 1 0,.ptr 2 0,.ptr 3 0,.O,.int .i64 (↑x.1:Int),.int .i64 (Prod.snd x_1).1,.ptr 5 0,.O,.O,.O,.O,.O,.O,.O,.O,.O,.O,.O,.O,.O,.O,.O,.O,.O,.O,.O,.O,.O,.O,.O,.O,.O,.O,.O,.O,.slice 0 0 (List.length xs) 1,.int .i64 (↑(List.length xs):Int),.int .i64 (W ((↑x_1.1:Int)+1)),.O,.O,.O,.O,.O,.O,.O,.O,.O,.O,.O,.O,.O,.O,.O,.O,.O,.O,.O,.O,.O,.O,.O,.O,.O,.O,.O,.O,.O,.O,.O,.O,.O,.O,.O,.O,.O,.O,.O,.O,.O,.O,.O,.O,.O,.O] [some (.ints (some .i64) xs),some (.cells [.int .i64 0,.int .i64 0]),some (.cells [.int .i64 t,.int .i64 (W ((↑(List.length xs):Int)+m))]),some (.cells [.int .i64 (Prod.snd (Prod.snd x_1.2).2).1,.int .i64 (Prod.snd (Prod.snd x_1.2).2).2,.slice 4 0 (List.length (Prod.snd (Prod.snd x_1.2).2).3) 1,.int .i64 (Prod.snd (Prod.snd x_1.2).2).4,.int .i64 (Prod.snd (Prod.snd x_1.2).2).5,.int .i64 (Prod.snd (Prod.snd x_1.2).2).6,.int .u64 (Prod.snd (Prod.snd x_1.2).2).7,.int .u64 (Prod.snd (Prod.snd x_1.2).2).8,.bool (Prod.snd (Prod.snd x_1.2).2).9]),some (.ints (some .u64) (Prod.snd (Prod.snd x_1.2).2).3),some (.cells [.int .i64 (Prod.snd x_1.2).1,.int .i64 0,.bool false,.int .i64 0,.int .i64 (Prod.snd (Prod.snd x_1).2).1])]else bif !ieq sh 2 then bif ilt 0 (↑x.1:Int)then okSt (HFi sh t m xs (↑(Prod.fst x):Int)) (fun x'=>Hint.ok (HFi sh t m xs (↑(Prod.fst x):Int)) x'∧Hint.mu (HFi sh t m xs (↑(Prod.fst x):Int)) x'<Hint.mu (HFi sh t m xs (↑(Prod.fst x):Int)) x_1) [.int .i64 sh,.O,.O,.slice 0 0 (List.length xs) 1,.O,.O,.O,.O,.O,.ptr 1 0,.ptr 2 0,.ptr 3 0,.O,.int .i64 (↑x.1:Int),.int .i64 (Prod.snd x_1).1,.ptr 5 0,.O,.O,.O,.O,.O,.O,.O,.O,.O,.O,.O,.O,.O,.O,.O,.O,.O,.O,.O,.O,.O,.O,.O,.O,.O,.O,.O,.O,.slice 0 0 (List.length xs) 1,.int .i64 (↑(List.length xs):Int),.int .i64 (W ((↑x_1.1:Int)+1)),.O,.O,.O,.O,.O,.O,.O,.O,.O,.O,.O,.O,.O,.O,.O,.O,.O,.O,.O,.O,.O,.O,.O,.O,.O,.O,.O,.O,.O,.O,.O,.O,.O,.O,.O,.O,.O,.O,.O,.O,.O,.O,.O,.O,.O,.O] [some (.ints (some .i64) xs),some (.cells [.int .i64 0,.int .i64 0]),some (.cells [.int .i64 t,.int .i64 (W ((↑(List.length xs):Int)+m))]),some (.cells [.int .i64 (Prod.snd (Prod.snd x_1.2).2).1,.int .i64 (Prod.snd (Prod.snd x_1.2).2).2,.slice 4 0 (List.length (Prod.snd (Prod.snd x_1.2).2).3) 1,.int .i64 (Prod.snd (Prod.snd x_1.2).2).4,.int .i64 (Prod.snd (Prod.snd x_1.2).2).5,.int .i64 (Prod.snd (Prod.snd x_1.2).2).6,.int .u64 (Prod.snd (Prod.snd x_1.2).2).7,.int .u64 (Prod.snd (Prod.snd x_1.2).2).8,.bool (Prod.snd (Prod.snd x_1.2).2).9]),some (.ints (some .u64) (Prod.snd (Prod.snd x_1.2).2).3),some (.cells [.int .i64 (Prod.snd x_1.2).1,.int .i64 0,.bool false,.int .i64 0,.int .i64 (Prod.snd (Prod.snd x_1).2).1])]else(((0:Int)≤(Prod.snd x_1.2).1∧(Prod.snd x_1.2).1<(1024:Int))∧((0:Int)≤W ((↑x_1.1:Int)+1)∧W ((↑x_1.1:Int)+1)<(512:Int))∧((0:Int)≤(0:Int)∧(0:Int)<(32:Int))∧(0:Int)≤(Prod.snd (Prod.snd x_1).2).1∧(Prod.snd (Prod.snd x_1).2).1<(262144:Int))∧(lE' (Prod.snd (Prod.snd x_1.2).2).3∧(0:Int)≤(Prod.snd (Prod.snd x_1.2).2).4∧(Prod.snd (Prod.snd x_1.2).2).4≤(4611686018427387904:Int))∧(((0:Int)≤t∧t≤(100000:Int))∧((0:Int)≤W ((↑(List.length xs):Int)+m)∧W ((↑(List.length xs):Int)+m)≤(100000:Int))∧(-1099511627776:Int)≤W ((↑x_1.1:Int)+1)∧W ((↑x_1.1:Int)+1)≤(1099511627776:Int))∧(lE' (aO (Prod.snd (Prod.snd x_1.2).2).3 (Prod.snd x_1).1 (aV (Prod.snd x_1.2).1 (W ((↑x_1.1:Int)+1)) false 0 (Prod.snd (Prod.snd x_1).2).1))∧(0:Int)≤(Prod.snd (Prod.snd x_1.2).2).4+1∧(Prod.snd (Prod.snd x_1.2).2).4+(1:Int)≤(4611686018427387904:Int))∧okSt (HFi sh t m xs (↑(Prod.fst x):Int)) (fun x'=>Hint.ok (HFi sh t m xs (↑(Prod.fst x):Int)) x'∧Hint.mu (HFi sh t m xs (↑(Prod.fst x):Int)) x'<Hint.mu (HFi sh t m xs (↑(Prod.fst x):Int)) x_1) [.int .i64 sh,.O,.O,.slice 0 0 (List.length xs) 1,.O,.O,.O,.O,.O,.ptr 1 0,.ptr 2 0,.ptr 3 0,.O,.int .i64 (↑x.1:Int),.int .i64 (W ((↑x_1.1:Int)+1)),.ptr 5 0,.O,.O,.O,.O,.O,.O,.O,.O,.O,.O,.O,.O,.O,.O,.O,.O,.O,.O,.O,.O,.O,.O,.O,.O,.O,.O,.O,.O,.slice 0 0 (List.length xs) 1,.int .i64 (↑(List.length xs):Int),.int .i64 (W ((↑x_1.1:Int)+1)),.O,.O,.O,.O,.O,.O,.O,.O,.O,.O,.O,.O,.O,.O,.O,.O,.O,.O,.O,.O,.O,.O,.O,.O,.O,.O,.O,.O,.O,.O,.O,.O,.O,.O,.O,.O,.O,.O,.O,.O,.O,.O,.O,.O,.O,.O] [some (.ints (some .i64) xs),some (.cells [.int .i64 0,.int .i64 0]),some (.cells [.int .i64 t,.int .i64 (W ((↑(List.length xs):Int)+m))]),some (.cells [.int .i64 (Prod.snd (Prod.snd x_1.2).2).1,.int .i64 (Prod.snd (Prod.snd x_1.2).2).2,.slice 4 0 (List.length (aO (aO (Prod.snd (Prod.snd x_1.2).2).3 (Prod.snd x_1).1 (aV (Prod.snd x_1.2).1 (W ((↑x_1.1:Int)+1)) false 0 (Prod.snd (Prod.snd x_1).2).1)) (W ((↑(List.length xs):Int)+m)+4+W ((↑x_1.1:Int)+1)) 1)) 1,.int .i64 ((Prod.snd (Prod.snd x_1.2).2).4+1+1),.int .i64 2,.int .i64 (W ((↑(List.length xs):Int)+m)+4+W ((↑x_1.1:Int)+1)),.int .u64 (aA (aO (Prod.snd (Prod.snd x_1.2).2).3 (Prod.snd x_1).1 (aV (Prod.snd x_1.2).1 (W ((↑x_1.1:Int)+1)) false 0 (Prod.snd (Prod.snd x_1).2).1)) (W ((↑(List.length xs):Int)+m)+4+W ((↑x_1.1:Int)+1))),.int .u64 (bif bR (aO (Prod.snd (Prod.snd x_1.2).2).3 (Prod.snd x_1).1 (aV (Prod.snd x_1.2).1 (W ((↑x_1.1:Int)+1)) false 0 (Prod.snd (Prod.snd x_1).2).1)) (W ((↑(List.length xs):Int)+m)+4+W ((↑x_1.1:Int)+1))then 1 else 0),.bool (bR (aO (Prod.snd (Prod.snd x_1.2).2).3 (Prod.snd x_1).1 (aV (Prod.snd x_1.2).1 (W ((↑x_1.1:Int)+1)) false 0 (Prod.snd (Prod.snd x_1).2).1)) (W ((↑(List.length xs):Int)+m)+4+W ((↑x_1.1:Int)+1)))]),some (.ints (some .u64) (aO (aO (Prod.snd (Prod.snd x_1.2).2).3 (Prod.snd x_1).1 (aV (Prod.snd x_1.2).1 (W ((↑x_1.1:Int)+1)) false 0 (Prod.snd (Prod.snd x_1).2).1)) (W ((↑(List.length xs):Int)+m)+4+W ((↑x_1.1:Int)+1)) 1)),some (.cells [.int .i64 (List.getD xs (0+Int.toNat (↑x_1.1:Int)*1) 0),.int .i64 0,.bool false,.int .i64 0,.int .i64 3])]else(((0:Int)≤(Prod.snd x_1.2).1∧(Prod.snd x_1.2).1<(1024:Int))∧((0:Int)≤W ((↑x_1.1:Int)+1)∧W ((↑x_1.1:Int)+1)<(512:Int))∧((0:Int)≤(0:Int)∧(0:Int)<(32:Int))∧(0:Int)≤(Prod.snd (Prod.snd x_1).2).1∧(Prod.snd (Prod.snd x_1).2).1<(262144:Int))∧(lE' (Prod.snd (Prod.snd x_1.2).2).3∧(0:Int)≤(Prod.snd (Prod.snd x_1.2).2).4∧(Prod.snd (Prod.snd x_1.2).2).4≤(4611686018427387904:Int))∧(((0:Int)≤t∧t≤(100000:Int))∧((0:Int)≤W ((↑(List.length xs):Int)+m)∧W ((↑(List.length xs):Int)+m)≤(100000:Int))∧(-1099511627776:Int)≤W ((↑x_1.1:Int)+1)∧W ((↑x_1.1:Int)+1)≤(1099511627776:Int))∧(lE' (aO (Prod.snd (Prod.snd x_1.2).2).3 (Prod.snd x_1).1 (aV (Prod.snd x_1.2).1 (W ((↑x_1.1:Int)+1)) false 0 (Prod.snd (Prod.snd x_1).2).1))∧(0:Int)≤(Prod.snd (Prod.snd x_1.2).2).4+1∧(Prod.snd (Prod.snd x_1.2).2).4+(1:Int)≤(4611686018427387904:Int))∧okSt (HFi sh t m xs (↑(Prod.fst x):Int)) (fun x'=>Hint.ok (HFi sh t m xs (↑(Prod.fst x):Int)) x'∧Hint.mu (HFi sh t m xs (↑(Prod.fst x):Int)) x'<Hint.mu (HFi sh t m xs (↑(Prod.fst x):Int)) x_1) [.int .i64 sh,.O,.O,.slice 0 0 (List.length xs) 1,.O,.O,.O,.O,.O,.ptr 1 0,.ptr 2 0,.ptr 3 0,.O,.int .i64 (↑x.1:Int),.int .i64 (W ((↑x_1.1:Int)+1)),.ptr 5 0,.O,.O,.O,.O,.O,.O,.O,.O,.O,.O,.O,.O,.O,.O,.O,.O,.O,.O,.O,.O,.O,.O,.O,.O,.O,.O,.O,.O,.slice 0 0 (List.length xs) 1,.int .i64 (↑(List.length xs):Int),.int .i64 (W ((↑x_1.1:Int)+1)),.O,.O,.O,.O,.O,.O,.O,.O,.O,.O,.O,.O,.O,.O,.O,.O,.O,.O,.O,.O,.O,.O,.O,.O,.O,.O,.O,.O,.O,.O,.O,.O,.O,.O,.O,.O,.O,.O,.O,.O,.O,.O,.O,.O,.O,.O] [some (.ints (some .i64) xs),some (.cells [.int .i64 0,.int .i64 0]),some (.cells [.int .i64 t,.int .i64 (W ((↑(List.length xs):Int)+m))]),some (.cells [.int .i64 (Prod.snd (Prod.snd x_1.2).2).1,.int .i64 (Prod.snd (Prod.snd x_1.2).2).2,.slice 4 0 (List.length (aO (aO (Prod.snd (Prod.snd x_1.2).2).3 (Prod.snd x_1).1 (aV (Prod.snd x_1.2).1 (W ((↑x_1.1:Int)+1)) false 0 (Prod.snd (Prod.snd x_1).2).1)) (W ((↑(List.length xs):Int)+m)+4+W ((↑x_1.1:Int)+1)) 1)) 1,.int .i64 ((Prod.snd (Prod.snd x_1.2).2).4+1+1),.int .i64 2,.int .i64 (W ((↑(List.length xs):Int)+m)+4+W ((↑x_1.1:Int)+1)),.int .u64 (aA (aO (Prod.snd (Prod.snd x_1.2).2).3 (Prod.snd x_1).1 (aV (Prod.snd x_1.2).1 (W ((↑x_1.1:Int)+1)) false 0 (Prod.snd (Prod.snd x_1).2).1)) (W ((↑(List.length xs):Int)+m)+4+W ((↑x_1.1:Int)+1))),.int .u64 (bif bR (aO (Prod.snd (Prod.snd x_1.2).2).3 (Prod.snd x_1).1 (aV (Prod.snd x_1.2).1 (W ((↑x_1.1:Int)+1)) false 0 (Prod.snd (Prod.snd x_1).2).1)) (W ((↑(List.length xs):Int)+m)+4+W ((↑x_1.1:Int)+1))then 1 else 0),.bool (bR (aO (Prod.snd (Prod.snd x_1.2).2).3 (Prod.snd x_1).1 (aV (Prod.snd x_1.2).1 (W ((↑x_1.1:Int)+1)) false 0 (Prod.snd (Prod.snd x_1).2).1)) (W ((↑(List.length xs):Int)+m)+4+W ((↑x_1.1:Int)+1)))]),some (.ints (some .u64) (aO (aO (Prod.snd (Prod.snd x_1.2).2).3 (Prod.snd x_1).1 (aV (Prod.snd x_1.2).1 (W ((↑x_1.1:Int)+1)) false 0 (Prod.snd (Prod.snd x_1).2).1)) (W ((↑(List.length xs):Int)+m)+4+W ((↑x_1.1:Int)+1)) 1)),some (.cells [.int .i64 (List.getD xs (0+Int.toNat (↑x_1.1:Int)*1) 0),.int .i64 0,.bool false,.int .i64 0,.int .i64 3])]else bif !ieq sh 2 then bif ilt 0 (↑x.1:Int)then okSt (HFi sh t m xs (↑(Prod.fst x):Int)) (fun x'=>Hint.ok (HFi sh t m xs (↑(Prod.fst x):Int)) x'∧Hint.mu (HFi sh t m xs (↑(Prod.fst x):Int)) x'<Hint.mu (HFi sh t m xs (↑(Prod.fst x):Int)) x_1) [.int .i64 sh,.O,.O,.slice 0 0 (List.length xs) 1,.O,.O,.O,.O,.O,.ptr 1 0,.ptr 2 0,.ptr 3 0,.O,.int .i64 (↑x.1:Int),.int .i64 (Prod.snd x_1).1,.ptr 5 0,.O,.O,.O,.O,.O,.O,.O,.O,.O,.O,.O,.O,.O,.O,.O,.O,.O,.O,.O,.O,.O,.O,.O,.O,.O,.O,.O,.O,.slice 0 0 (List.length xs) 1,.int .i64 (↑(List.length xs):Int),.int .i64 (W ((↑x_1.1:Int)+1)),.O,.O,.O,.O,.O,.O,.O,.O,.O,.O,.O,.O,.O,.O,.O,.O,.O,.O,.O,.O,.O,.O,.O,.O,.O,.O,.O,.O,.O,.O,.O,.O,.O,.O,.O,.O,.O,.O,.O,.O,.O,.O,.O,.O,.O,.O] [some (.ints (some .i64) xs),some (.cells [.int .i64 0,.int .i64 0]),some (.cells [.int .i64 t,.int .i64 (W ((↑(List.length xs):Int)+m))]),some (.cells [.int .i64 (Prod.snd (Prod.snd x_1.2).2).1,.int .i64 (Prod.snd (Prod.snd x_1.2).2).2,.slice 4 0 (List.length (Prod.snd (Prod.snd x_1.2).2).3) 1,.int .i64 (Prod.snd (Prod.snd x_1.2).2).4,.int .i64 (Prod.snd (Prod.snd x_1.2).2).5,.int .i64 (Prod.snd (Prod.snd x_1.2).2).6,.int .u64 (Prod.snd (Prod.snd x_1.2).2).7,.int .u64 (Prod.snd (Prod.snd x_1.2).2).8,.bool (Prod.snd (Prod.snd x_1.2).2).9]),some (.ints (some .u64) (Prod.snd (Prod.snd x_1.2).2).3),some (.cells [.int .i64 (Prod.snd x_1.2).1,.int .i64 0,.bool false,.int .i64 0,.int .i64 (Prod.snd (Prod.snd x_1).2).1])]else(((0:Int)≤(Prod.snd x_1.2).1∧(Prod.snd x_1.2).1<(1024:Int))∧((0:Int)≤W ((↑x_1.1:Int)+1)∧W ((↑x_1.1:Int)+1)<(512:Int))∧((0:Int)≤(0:Int)∧(0:Int)<(32:Int))∧(0:Int)≤(Prod.snd (Prod.snd x_1).2).1∧(Prod.snd (Prod.snd x_1).2).1<(262144:Int))∧(lE' (Prod.snd (Prod.snd x_1.2).2).3∧(0:Int)≤(Prod.snd (Prod.snd x_1.2).2).4∧(Prod.snd (Prod.snd x_1.2).2).4≤(4611686018427387904:Int))∧(((0:Int)≤t∧t≤(100000:Int))∧((0:Int)≤W ((↑(List.length xs):Int)+m)∧W ((↑(List.length xs):Int)+m)≤(100000:Int))∧(-1099511627776:Int)≤W ((↑x_1.1:Int)+1)∧W ((↑x_1.1:Int)+1)≤(1099511627776:Int))∧(lE' (aO (Prod.snd (Prod.snd x_1.2).2).3 (Prod.snd x_1).1 (aV (Prod.snd x_1.2).1 (W ((↑x_1.1:Int)+1)) false 0 (Prod.snd (Prod.snd x_1).2).1))∧(0:Int)≤(Prod.snd (Prod.snd x_1.2).2).4+1∧(Prod.snd (Prod.snd x_1.2).2).4+(1:Int)≤(4611686018427387904:Int))∧okSt (HFi sh t m xs (↑(Prod.fst x):Int)) (fun x'=>Hint.ok (HFi sh t m xs (↑(Prod.fst x):Int)) x'∧Hint.mu (HFi sh t m xs (↑(Prod.fst x):Int)) x'<Hint.mu (HFi sh t m xs (↑(Prod.fst x):Int)) x_1) [.int .i64 sh,.O,.O,.slice 0 0 (List.length xs) 1,.O,.O,.O,.O,.O,.ptr 1 0,.ptr 2 0,.ptr 3 0,.O,.int .i64 (↑x.1:Int),.int .i64 (W ((↑x_1.1:Int)+1)),.ptr 5 0,.O,.O,.O,.O,.O,.O,.O,.O,.O,.O,.O,.O,.O,.O,.O,.O,.O,.O,.O,.O,.O,.O,.O,.O,.O,.O,.O,.O,.slice 0 0 (List.length xs) 1,.int .i64 (↑(List.length xs):Int),.int .i64 (W ((↑x_1.1:Int)+1)),.O,.O,.O,.O,.O,.O,.O,.O,.O,.O,.O,.O,.O,.O,.O,.O,.O,.O,.O,.O,.O,.O,.O,.O,.O,.O,.O,.O,.O,.O,.O,.O,.O,.O,.O,.O,.O,.O,.O,.O,.O,.O,.O,.O,.O,.O] [some (.ints (some .i64) xs),some (.cells [.int .i64 0,.int .i64 0]),some (.cells [.int .i64 t,.int .i64 (W ((↑(List.length xs):Int)+m))]),some (.cells [.int .i64 (Prod.snd (Prod.snd x_1.2).2).1,.int .i64 (Prod.snd (Prod.snd x_1.2).2).2,.slice 4 0 (List.length (aO (aO (Prod.snd (Prod.snd x_1.2).2).3 (Prod.snd x_1).1 (aV (Prod.snd x_1.2).1 (W ((↑x_1.1:Int)+1)) false 0 (Prod.snd (Prod.snd x_1).2).1)) (W ((↑(List.length xs):Int)+m)+4+W ((↑x_1.1:Int)+1)) 1)) 1,.int .i64 ((Prod.snd (Prod.snd x_1.2).2).4+1+1),.int .i64 2,.int .i64 (W ((↑(List.length xs):Int)+m)+4+W ((↑x_1.1:Int)+1)),.int .u64 (aA (aO (Prod.snd (Prod.snd x_1.2).2).3 (Prod.snd x_1).1 (aV (Prod.snd x_1.2).1 (W ((↑x_1.1:Int)+1)) false 0 (Prod.snd (Prod.snd x_1).2).1)) (W ((↑(List.length xs):Int)+m)+4+W ((↑x_1.1:Int)+1))),.int .u64 (bif bR (aO (Prod.snd (Prod.snd x_1.2).2).3 (Prod.snd x_1).1 (aV (Prod.snd x_1.2).1 (W ((↑x_1.1:Int)+1)) false 0 (Prod.snd (Prod.snd x_1).2).1)) (W ((↑(List.length xs):Int)+m)+4+W ((↑x_1.1:Int)+1))then 1 else 0),.bool (bR (aO (Prod.snd (Prod.snd x_1.2).2).3 (Prod.snd x_1).1 (aV (Prod.snd x_1.2).1 (W ((↑x_1.1:Int)+1)) false 0 (Prod.snd (Prod.snd x_1).2).1)) (W ((↑(List.length xs):Int)+m)+4+W ((↑x_1.1:Int)+1)))]),some (.ints (some .u64) (aO (aO (Prod.snd (Prod.snd x_1.2).2).3 (Prod.snd x_1).1 (aV (Prod.snd x_1.2).1 (W ((↑x_1.1:Int)+1)) false 0 (Prod.snd (Prod.snd x_1).2).1)) (W ((↑(List.length xs):Int)+m)+4+W ((↑x_1.1:Int)+1)) 1)),some (.cells [.int .i64 (List.getD xs (0+Int.toNat (↑x_1.1:Int)*1) 0),.int .i64 0,.bool false,.int .i64 0,.int .i64 3])]else(((0:Int)≤(Prod.snd x_1.2).1∧(Prod.snd x_1.2).1<(1024:Int))∧((0:Int)≤W ((↑x_1.1:Int)+1)∧W ((↑x_1.1:Int)+1)<(512:Int))∧((0:Int)≤(0:Int)∧(0:Int)<(32:Int))∧(0:Int)≤(Prod.snd (Prod.snd x_1).2).1∧(Prod.snd (Prod.snd x_1).2).1<(262144:Int))∧(lE' (Prod.snd (Prod.snd x_1.2).2).3∧(0:Int)≤(Prod.snd (Prod.snd x_1.2).2).4∧(Prod.snd (Prod.snd x_1.2).2).4≤(4611686018427387904:Int))∧(((0:Int)≤t∧t≤(100000:Int))∧((0:Int)≤W ((↑(List.length xs):Int)+m)∧W ((↑(List.length xs):Int)+m)≤(100000:Int))∧(-1099511627776:Int)≤W ((↑x_1.1:Int)+1)∧W ((↑x_1.1:Int)+1)≤(1099511627776:Int))∧(lE' (aO (Prod.snd (Prod.snd x_1.2).2).3 (Prod.snd x_1).1 (aV (Prod.snd x_1.2).1 (W ((↑x_1.1:Int)+1)) false 0 (Prod.snd (Prod.snd x_1).2).1))∧(0:Int)≤(Prod.snd (Prod.snd x_1.2).2).4+1∧(Prod.snd (Prod.snd x_1.2).2).4+(1:Int)≤(4611686018427387904:Int))∧okSt (HFi sh t m xs (↑(Prod.fst x):Int)) (fun x'=>Hint.ok (HFi sh t m xs (↑(Prod.fst x):Int)) x'∧Hint.mu (HFi sh t m xs (↑(Prod.fst x):Int)) x'<Hint.mu (HFi sh t m xs (↑(Prod.fst x):Int)) x_1) [.int .i64 sh,.O,.O,.slice 0 0 (List.length xs) 1,.O,.O,.O,.O,.O,.ptr 1 0,.ptr 2 0,.ptr 3 0,.O,.int .i64 (↑x.1:Int),.int .i64 (W ((↑x_1.1:Int)+1)),.ptr 5 0,.O,.O,.O,.O,.O,.O,.O,.O,.O,.O,.O,.O,.O,.O,.O,.O,.O,.O,.O,.O,.O,.O,.O,.O,.O,.O,.O,.O,.slice 0 0 (List.length xs) 1,.int .i64 (↑(List.length xs):Int),.int .i64 (W ((↑x_1.1:Int)+1)),.O,.O,.O,.O,.O,.O,.O,.O,.O,.O,.O,.O,.O,.O,.O,.O,.O,.O,.O,.O,.O,.O,.O,.O,.O,.O,.O,.O,.O,.O,.O,.O,.O,.O,.O,.O,.O,.O,.O,.O,.O,.O,.O,.O,.O,.O] [some (.ints (some .i64) xs),some (.cells [.int .i64 0,.int .i64 0]),some (.cells [.int .i64 t,.int .i64 (W ((↑(List.length xs):Int)+m))]),some (.cells [.int .i64 (Prod.snd (Prod.snd x_1.2).2).1,.int .i64 (Prod.snd (Prod.snd x_1.2).2).2,.slice 4 0 (List.length (aO (aO (Prod.snd (Prod.snd x_1.2).2).3 (Prod.snd x_1).1 (aV (Prod.snd x_1.2).1 (W ((↑x_1.1:Int)+1)) false 0 (Prod.snd (Prod.snd x_1).2).1)) (W ((↑(List.length xs):Int)+m)+4+W ((↑x_1.1:Int)+1)) 1)) 1,.int .i64 ((Prod.snd (Prod.snd x_1.2).2).4+1+1),.int .i64 2,.int .i64 (W ((↑(List.length xs):Int)+m)+4+W ((↑x_1.1:Int)+1)),.int .u64 (aA (aO (Prod.snd (Prod.snd x_1.2).2).3 (Prod.snd x_1).1 (aV (Prod.snd x_1.2).1 (W ((↑x_1.1:Int)+1)) false 0 (Prod.snd (Prod.snd x_1).2).1)) (W ((↑(List.length xs):Int)+m)+4+W ((↑x_1.1:Int)+1))),.int .u64 (bif bR (aO (Prod.snd (Prod.snd x_1.2).2).3 (Prod.snd x_1).1 (aV (Prod.snd x_1.2).1 (W ((↑x_1.1:Int)+1)) false 0 (Prod.snd (Prod.snd x_1).2).1)) (W ((↑(List.length xs):Int)+m)+4+W ((↑x_1.1:Int)+1))then 1 else 0),.bool (bR (aO (Prod.snd (Prod.snd x_1.2).2).3 (Prod.snd x_1).1 (aV (Prod.snd x_1.2).1 (W ((↑x_1.1:Int)+1)) false 0 (Prod.snd (Prod.snd x_1).2).1)) (W ((↑(List.length xs):Int)+m)+4+W ((↑x_1.1:Int)+1)))]),some (.ints (some .u64) (aO (aO (Prod.snd (Prod.snd x_1.2).2).3 (Prod.snd x_1).1 (aV (Prod.snd x_1.2).1 (W ((↑x_1.1:Int)+1)) false 0 (Prod.snd (Prod.snd x_1).2).1)) (W ((↑(List.length xs):Int)+m)+4+W ((↑x_1.1:Int)+1)) 1)),some (.cells [.int .i64 (List.getD xs (0+Int.toNat (↑x_1.1:Int)*1) 0),.int .i64 0,.bool false,.int .i64 0,.int .i64 3])]else(((0:Int)≤(Prod.snd x_1.2).1∧(Prod.snd x_1.2).1<(1024:Int))∧((0:Int)≤(0:Int)∧(0:Int)<(512:Int))∧((0:Int)≤(0:Int)∧(0:Int)<(32:Int))∧(0:Int)≤(Prod.snd (Prod.snd x_1).2).1∧(Prod.snd (Prod.snd x_1).2).1<(262144:Int))∧(lE' (Prod.snd (Prod.snd x_1.2).2).3∧(0:Int)≤(Prod.snd (Prod.snd x_1.2).2).4∧(Prod.snd (Prod.snd x_1.2).2).4≤(4611686018427387904:Int))∧okSt (H6 sh t m xs) (fun x'=>Hint.ok (H6 sh t m xs) x'∧Hint.mu (H6 sh t m xs) x'<Hint.mu (H6 sh t m xs) x) [.int .i64 sh,.O,.O,.slice 0 0 (List.length xs) 1,.O,.O,.O,.O,.O,.ptr 1 0,.ptr 2 0,.ptr 3 0,.O,.int .i64 (W ((↑x.1:Int)+1)),.O,.O,.O,.O,.O,.O,.O,.O,.O,.O,.O,.O,.O,.O,.O,.O,.O,.O,.O,.O,.O,.O,.O,.O,.O,.O,.O,.O,.O,.O,.O,.O,.O,.O,.O,.O,.O,.O,.O,.O,.O,.O,.O,.O,.O,.O,.O,.O,.O,.O,.O,.O,.O,.O,.O,.O,.O,.O,.O,.O,.O,.O,.O,.O,.O,.O,.O,.O,.O,.O,.O,.O,.O,.O,.O,.O,.O,.O,.O] [some (.ints (some .i64) xs),some (.cells [.int .i64 0,.int .i64 0]),some (.cells [.int .i64 t,.int .i64 (W ((↑(List.length xs):Int)+m))]),some (.cells [.int .i64 (Prod.snd (Prod.snd x_1.2).2).1,.int .i64 (Prod.snd (Prod.snd x_1.2).2).2,.slice 4 0 (List.length (aO (Prod.snd (Prod.snd x_1.2).2).3 (Prod.snd x_1).1 (aV (Prod.snd x_1.2).1 0 false 0 (Prod.snd (Prod.snd x_1).2).1))) 1,.int .i64 ((Prod.snd (Prod.snd x_1.2).2).4+1),.int .i64 2,.int .i64 (Prod.snd x_1).1,.int .u64 (aA (Prod.snd (Prod.snd x_1.2).2).3 (Prod.snd x_1).1),.int .u64 (bif bR (Prod.snd (Prod.snd x_1.2).2).3 (Prod.snd x_1).1 then aV (Prod.snd x_1.2).1 0 false 0 (Prod.snd (Prod.snd x_1).2).1 else 0),.bool (bR (Prod.snd (Prod.snd x_1.2).2).3 (Prod.snd x_1).1)]),some (.ints (some .u64) (aO (Prod.snd (Prod.snd x_1.2).2).3 (Prod.snd x_1).1 (aV (Prod.snd x_1.2).1 0 false 0 (Prod.snd (Prod.snd x_1).2).1)))]else K (.tup [.ptr 1 0,.agg [.int .i64 t,.int .i64 (W ((↑(List.length xs):Int)+m))]]) [some (.ints (some .i64) xs),some (.cells [.int .i64 (Prod.snd x).1,.int .i64 (Prod.snd x).2,.slice 2 0 (List.length (Prod.snd x).3) 1,.int .i64 (Prod.snd x).4,.int .i64 (Prod.snd x).5,.int .i64 (Prod.snd x).6,.int .u64 (Prod.snd x).7,.int .u64 (Prod.snd x).8,.bool (Prod.snd x).9]),some (.ints (some .u64) (Prod.snd x).3)]
theorem CE(sh t m:Int)(xs:List Int)(K:AVal→aC Ob→Prop)(h:xS sh t m xs K):cT' 15 [.int .i64 sh,.int .i64 t,.int .i64 m,.slice 0 0 xs.length 1] [some (.ints (some .i64) xs)] K:=by
 refine Y2 (aE (E:=EZ) Tryz.checked.mixed (L:=RQ sh t m xs) (n:=10) (aU (by kernel_rfl) h))
theorem rW(sh h n k:Int)(ks:List Int)(i a ky vr:Int)(s:MS)(e:dB sh h k=true):eC sh h n (k::ks) i a ky vr s=eC sh h n ks (i+1) a ky vr s:=by show cond _ _ _=_;rw [e];rfl
theorem rX(sh h n k:Int)(ks:List Int)(i a ky vr:Int)(s:MS)(e:dB sh h k=false):eC sh h n (k::ks) i a ky vr s=eC sh h n ks (i+1) (i+1) k 3 ((s.stored a (aV ky (i+1) false 0 vr)).stored (n+4+(i+1)) 1):=by show cond _ _ _=_;rw [e];rfl
theorem tU(sh n:Int)(xs:List Int)(h:Nat)(hh:h<4)(s:MS):fA sh n xs (4 - h) h s=fA sh n xs (3 - (h:Int)).toNat ((h:Int)+1) (eC sh h n xs 0 (n+1+h) 0 0 s):=by
 have:4 - h=(3 - (h:Int)).toNat +1:=by omega
 rw [this];rfl
theorem NV(sh t m:Int)(xs:List Int)(K:AVal→aC Ob→Prop)(hm:0≤m∧m≤100)(hl:xs.length≤100)(hr:fB t (xs.length+m)=true)(hk: ∀k∈xs,0≤k∧k<1024)
 (hK:K (.tup [.ptr 1 0,.agg [.int .i64 t,.int .i64 (xs.length+m)]]) [some (.ints (some .i64) xs),aX 2 (fA sh (xs.length+m) xs 4 0 (memN t (xs.length+m))),aY (fA sh (xs.length+m) xs 4 0 (memN t (xs.length+m)))]):xS sh t m xs K:=by
 unfold xS
 have hr2:=mJ.1 hr
 have hn:W ((xs.length:Int)+m)=xs.length+m:=cE (by omega)
 have hr':fB t (W ((xs.length:Int)+m))=true:=by rw [hn];exact hr
 have hz:(2*W ((xs.length:Int)+m)+5*t+6).toNat =(2*((xs.length:Int)+m)+5*t+6).toNat :=by rw [hn]
 rw [hr']
 refine⟨trivial,aI (fun e=>by cases e) (fun _=>⟨⟨by omega,by omega,by omega⟩,aI (fun e=>?_) (fun _=>⟨⟨⟨by omega,by omega,by omega⟩,trivial⟩,⟨by omega,rfl,by omega⟩,?_,?_⟩)⟩)⟩
 ·rw [bB,dT']at e;omega
 ·refine aH (H:=H6 sh t m xs) ((0:Nat),memN t (W ((xs.length:Int)+m))) ?_ ⟨Nat.zero_le _,⟨Int.le_refl 0,by show(0:Int)≤_;omega⟩,rfl⟩
  simp only [H6,aX,aY,memN,List.length_replicate]
  rfl
 ·rintro⟨h,s⟩ ⟨h4,hc,heq⟩
  simp only at h4 hc heq
  refine aI (fun e1=>?_) (fun e1=>?_)
  ·rw [bB,dT']at e1
   refine⟨⟨by omega,by omega,by omega⟩,aH (H:=HFi sh t m xs (h:Int)) ((0:Nat),(W ((xs.length:Int)+m)+1+h,((0:Int),((0:Int),s)))) rfl ⟨by omega,Nat.zero_le _,⟨Int.le_refl 0,by show(0:Int)<1024;omega⟩,⟨Int.le_refl 0,by show(0:Int)<262144;omega⟩,⟨hc.1,by show s.c≤1000*(h:Int)+3*((0:Nat):Int);omega⟩,?_⟩,?_⟩
   ·rw [heq,tU _ _ _ _ (by omega)];rfl
   ·rintro⟨i,a,ky,vr,s1⟩ ⟨g4,gi,gk,gv,gc,geq⟩
    simp only at g4 gi gk gv gc geq
    have gc2:s1.c≤1000*(h:Int)+3*i:=gc.2
    have gc1:0≤s1.c:=gc.1
    have gh:(h:Int)<4:=g4.2
    have hskip: ∀(hi:i<xs.length),dB sh h (xs.getD (0+(i:Int).toNat *1) 0)=true→okSt (HFi sh t m xs h) (fun x'=>Hint.ok (HFi sh t m xs h) x'∧Hint.mu (HFi sh t m xs h) x'<Hint.mu (HFi sh t m xs h) (i,a,ky,vr,s1)) ((HFi sh t m xs h).st ((i+1:Nat),a,ky,vr,s1)).1 ((HFi sh t m xs h).st ((i+1:Nat),a,ky,vr,s1)).2:=by
     intro hi hs
     refine aH (H:=HFi sh t m xs h) ((i+1:Nat),a,ky,vr,s1) rfl ⟨⟨g4,hi,gk,gv,⟨gc.1,by show s1.c≤1000*(h:Int)+3*((i+1:Nat):Int);omega⟩,?_⟩,by show xs.length - (i+1)<xs.length - i;omega⟩
     have e2:0+(i:Int).toNat *1=i:=by omega
     have e3:xs.getD i 0=xs[i]:=by rw [gD',gE' hi];rfl
     rw [e2,e3]at hs
     rw [geq,List.drop_eq_getElem_cons hi,rW _ _ _ _ _ _ _ _ _ _ hs];rfl
    have hput: ∀(hi:i<xs.length),dB sh h (xs.getD (0+(i:Int).toNat *1) 0)=false→okSt (HFi sh t m xs h) (fun x'=>Hint.ok (HFi sh t m xs h) x'∧Hint.mu (HFi sh t m xs h) x'<Hint.mu (HFi sh t m xs h) (i,a,ky,vr,s1)) ((HFi sh t m xs h).st ((i+1:Nat),((i+1:Nat):Int),(xs.getD (0+(i:Int).toNat *1) 0,(3:Int),((s1.stored a (aV ky ((i:Int)+1) false 0 vr)).stored (W ((xs.length:Int)+m)+4+((i:Int)+1)) 1)))).1 ((HFi sh t m xs h).st ((i+1:Nat),((i+1:Nat):Int),(xs.getD (0+(i:Int).toNat *1) 0,(3:Int),((s1.stored a (aV ky ((i:Int)+1) false 0 vr)).stored (W ((xs.length:Int)+m)+4+((i:Int)+1)) 1)))).2:=by
     intro hi hs
     have e2:0+(i:Int).toNat *1=i:=by omega
     rw [e2]at hs⊢
     have e3:xs.getD i 0=xs[i]:=by rw [gD',gE' hi];rfl
     rw [e3]at hs⊢
     refine aH (H:=HFi sh t m xs h) _ rfl ⟨⟨g4,hi,hk _ (List.getElem_mem hi),⟨by show(0:Int)≤3;omega,by show(3:Int)<262144;omega⟩,⟨?_,?_⟩,?_⟩,by show xs.length - (i+1)<xs.length - i;omega⟩
     ·show 0≤s1.c+1+1;omega
     ·show s1.c+1+1≤1000*(h:Int)+3*((i+1:Nat):Int);omega
     ·rw [geq,List.drop_eq_getElem_cons hi,rX _ _ _ _ _ _ _ _ _ _ hs];rfl
    have e4:i<xs.length→W ((i:Int)+1)=((i+1:Nat):Int):=fun hi=>(cE (by omega)).trans rfl
    have e4':W ((h:Int)+1)=((h+1:Nat):Int):=(cE (by have:(h:Int)<4:=g4.2;omega)).trans rfl
    refine aI (fun e2=>?_) (fun e2=>?_)
    ·rw [bB,dT']at e2
     have hi:i<xs.length:=by omega
     have e4:=e4 hi
     have e0:0+(i:Int).toNat *1<xs.length:=by omega
     refine⟨by omega,e0,?_⟩
     have hput:=hput hi
     have hskip:=hskip hi
     unfold dB at hput hskip
     simp only [e4]at hput hskip⊢
     refine aI (fun e5=>?_) (fun e5=>?_)
     ·rw [e5]at hput hskip
      refine⟨by decide,aI (fun e6=>?_) (fun e6=>?_)⟩
      ·exact hskip e6
      ·rw [e5]
       refine aI (fun e7=>by cases e7) (fun _=>?_)
       refine⟨⟨gk,⟨by omega,by omega⟩,⟨by decide,by decide⟩,gv⟩,⟨trivial,gc.1,by omega⟩,⟨⟨by omega,by omega⟩,⟨by omega,by omega⟩,by omega,by omega⟩,⟨trivial,by omega,by omega⟩,?_⟩
       exact hput e6
     ·rw [e5]at hput hskip
      rw [e5]
      refine aI (fun _=>aI (fun e6=>?_) (fun e6=>?_)) (fun e7=>by cases e7)
      ·exact hskip e6
      ·refine⟨⟨gk,⟨by omega,by omega⟩,⟨by decide,by decide⟩,gv⟩,⟨trivial,gc.1,by omega⟩,⟨⟨by omega,by omega⟩,⟨by omega,by omega⟩,by omega,by omega⟩,⟨trivial,by omega,by omega⟩,?_⟩
       exact hput e6
    ·rw [bB,dF']at e2
     have hi:i=xs.length:=by omega
     subst hi
     refine⟨⟨gk,⟨by decide,by decide⟩,⟨by decide,by decide⟩,gv⟩,⟨rfl,gc1,by show s1.c≤4611686018427387904;omega⟩,aH (H:=H6 sh t m xs) ((h+1:Nat),s1.stored a (aV ky 0 false 0 vr)) ?_ ⟨⟨by show h+1≤4;omega,⟨by show 0≤s1.c+1;omega,by show s1.c+1≤1000*((h+1:Nat):Int);omega⟩,?_⟩,by show 4 - (h+1)<4 - h;omega⟩⟩
     ·simp only [H6,←e4']
      rfl
     ·rw [geq,List.drop_length]
      have e9:(3 - (h:Int)).toNat =4 - (h+1):=by omega
      rw [e9];rfl
  ·rw [bB,dF']at e1
   have e5:h=4:=by omega
   subst e5
   have heq':fA sh (W ((xs.length:Int)+m)) xs 4 0 (memN t (W ((xs.length:Int)+m)))=s:=heq
   rw [hn]at heq'
   rw [heq']at hK
   rw [hn]
   exact hK
def cJ(sh t n:Int)(xs:List Int):MS:=fA sh n xs 4 0 (memN t n)
structure tT (t m:Int) (xs:List Int):Prop where
 hm:0≤m∧m≤100
 hl:xs.length≤100
 hr:fB t (xs.length+m)=true
 hk: ∀k∈xs,0≤k∧k<1024
def H5(sh t m:Int):Hint Ob:= {X:=Nat×MS,st:=fun x=>([.int .i64 sh,.O,.O,.raw (.slice none 0 0),.O,.O,.O,.O,.O,.ptr 0 0,.ptr 1 0,.ptr 2 0,.O,.int .i64 (x.1:Int)]++List.replicate 79 .O,[some (.cells [.int .i64 0,.int .i64 0]),some (.cells [.int .i64 t,.int .i64 (IntKind.wrap .i64 (((0:Nat):Int)+m))]),aX 3 x.2,aY x.2]),ok:=nA sh t (IntKind.wrap .i64 (((0:Nat):Int)+m)) [],mu:=fun x=>4 - x.1,keep:=[0,3,9,10,11,13] }
def RR(sh t m:Int):FuncId→Nat→Option (nP Ob):=fun _ k=>if k=6 then some (.states (H5 sh t m))else some (.rounds 2)
def sT(sh t m:Int)(K:AVal→aC Ob→Prop):Prop:=True∧bif !fB t (W ((↑0:Int)+m))then K (.tup [.raw (Value.pointer none),.agg [.int .i64 t,.int .i64 (W ((↑0:Int)+m))]]) []else(((0:Int)≤t∧t≤(100000:Int))∧(0:Int)≤W ((↑0:Int)+m)∧W ((↑0:Int)+m)≤(100000:Int))∧bif ilt (2*W ((↑0:Int)+m)+5*t+6) (↑0:Int)then K (.tup [.raw (Value.pointer none),.agg [.int .i64 t,.int .i64 (W ((↑0:Int)+m))]]) []else((((0:Int)≤t∧t≤(100000:Int))∧(0:Int)≤W ((↑0:Int)+m)∧W ((↑0:Int)+m)≤(100000:Int))∧True)∧((0:Int)≤(2:Int)*W ((↑0:Int)+m)+5*t+6∧2*W ((↑0:Int)+m)+5*t+(6:Int)=(2:Int)*W ((↑0:Int)+m)+5*t+6∧2*W ((↑0:Int)+m)+5*t+(6:Int)≤(4294967296:Int))∧okSt (H5 sh t m) (Hint.ok (H5 sh t m)) [.int .i64 sh,.O,.O,.raw (Value.slice none 0 0),.O,.O,.O,.O,.O,.ptr 0 0,.ptr 1 0,.ptr 2 0,.O,.int .i64 0,.O,.O,.O,.O,.O,.O,.O,.O,.O,.O,.O,.O,.O,.O,.O,.O,.O,.O,.O,.O,.O,.O,.O,.O,.O,.O,.O,.O,.O,.O,.O,.O,.O,.O,.O,.O,.O,.O,.O,.O,.O,.O,.O,.O,.O,.O,.O,.O,.O,.O,.O,.O,.O,.O,.O,.O,.O,.O,.O,.O,.O,.O,.O,.O,.O,.O,.O,.O,.O,.O,.O,.O,.O,.O,.O,.O,.O,.O,.O] [some (.cells [.int .i64 0,.int .i64 0]),some (.cells [.int .i64 t,.int .i64 (W ((↑0:Int)+m))]),some (.cells [.int .i64 t,.int .i64 (W ((↑0:Int)+m)),.slice 3 0 (Int.toNat (2*W ((↑0:Int)+m)+5*t+6)) 1,.int .i64 0,.int .i64 0,.int .i64 0,.int .u64 0,.int .u64 0,.bool false]),some (.ints (some .u64) (List.replicate (Int.toNat (2*W ((↑0:Int)+m)+5*t+6)) 0))]∧ ∀(x:(Nat×MS)),nA sh t (W ((↑0:Int)+m)) [] x→bif ilt (↑x.1:Int) 4 then(((0:Int)≤W ((↑0:Int)+m)∧W ((↑0:Int)+m)≤(100000:Int))∧(-1000000:Int)≤(↑x.1:Int)∧(↑x.1:Int)≤(1000000:Int))∧(((0:Int)≤(0:Int)∧(0:Int)<(1024:Int))∧((0:Int)≤(0:Int)∧(0:Int)<(512:Int))∧((0:Int)≤(0:Int)∧(0:Int)<(32:Int))∧(0:Int)≤(0:Int)∧(0:Int)<(262144:Int))∧(lE' (Prod.snd x).3∧(0:Int)≤(Prod.snd x).4∧(Prod.snd x).4≤(4611686018427387904:Int))∧okSt (H5 sh t m) (fun x'=>Hint.ok (H5 sh t m) x'∧Hint.mu (H5 sh t m) x'<Hint.mu (H5 sh t m) x) [.int .i64 sh,.O,.O,.raw (Value.slice none 0 0),.O,.O,.O,.O,.O,.ptr 0 0,.ptr 1 0,.ptr 2 0,.O,.int .i64 (W ((↑x.1:Int)+1)),.O,.O,.O,.O,.O,.O,.O,.O,.O,.O,.O,.O,.O,.O,.O,.O,.O,.O,.O,.O,.O,.O,.O,.O,.O,.O,.O,.O,.O,.O,.O,.O,.O,.O,.O,.O,.O,.O,.O,.O,.O,.O,.O,.O,.O,.O,.O,.O,.O,.O,.O,.O,.O,.O,.O,.O,.O,.O,.O,.O,.O,.O,.O,.O,.O,.O,.O,.O,.O,.O,.O,.O,.O,.O,.O,.O,.O,.O,.O] [some (.cells [.int .i64 0,.int .i64 0]),some (.cells [.int .i64 t,.int .i64 (W ((↑0:Int)+m))]),some (.cells [.int .i64 (Prod.snd x).1,.int .i64 (Prod.snd x).2,.slice 3 0 (List.length (aO (Prod.snd x).3 (W ((↑0:Int)+m)+1+(↑x.1:Int)) (aV 0 0 false 0 0))) 1,.int .i64 ((Prod.snd x).4+1),.int .i64 2,.int .i64 (W ((↑0:Int)+m)+1+(↑x.1:Int)),.int .u64 (aA (Prod.snd x).3 (W ((↑0:Int)+m)+1+(↑x.1:Int))),.int .u64 (bif bR (Prod.snd x).3 (W ((↑0:Int)+m)+1+(↑x.1:Int))then aV 0 0 false 0 0 else 0),.bool (bR (Prod.snd x).3 (W ((↑0:Int)+m)+1+(↑x.1:Int)))]),some (.ints (some .u64) (aO (Prod.snd x).3 (W ((↑0:Int)+m)+1+(↑x.1:Int)) (aV 0 0 false 0 0)))]else K (.tup [.ptr 0 0,.agg [.int .i64 t,.int .i64 (W ((↑0:Int)+m))]]) [some (.cells [.int .i64 (Prod.snd x).1,.int .i64 (Prod.snd x).2,.slice 1 0 (List.length (Prod.snd x).3) 1,.int .i64 (Prod.snd x).4,.int .i64 (Prod.snd x).5,.int .i64 (Prod.snd x).6,.int .u64 (Prod.snd x).7,.int .u64 (Prod.snd x).8,.bool (Prod.snd x).9]),some (.ints (some .u64) (Prod.snd x).3)]
theorem zU(sh t m:Int)(K:AVal→aC Ob→Prop)(h:sT sh t m K):cT' 15 [.int .i64 sh,.int .i64 t,.int .i64 m,.raw (.slice none 0 0)] [] K:=by
 refine Y2 (aE (E:=EZ) Tryz.checked.mixed (L:=RR sh t m) (n:=10) (aU (by kernel_rfl) h))
theorem JM(sh t m:Int)(K:AVal→aC Ob→Prop)(ok:tT t m [])
 (hK:K (.tup [.ptr 0 0,.agg [.int .i64 t,.int .i64 m]]) [aX 1 (cJ sh t m []),aY (cJ sh t m [])]):sT sh t m K:=by
 obtain⟨hm,hl,hr,hk⟩:=ok
 have h00:((([]:List Int).length :Int)+m)=m:=by simp
 rw [h00]at hr
 unfold sT
 have hr2:=mJ.1 hr
 have hn:W (0+m)=m:=(cE (by omega)).trans (by omega)
 have hr':fB t (W (0+m))=true:=by rw [hn];exact hr
 rw [hr']
 refine⟨trivial,aI (fun e=>by cases e) (fun _=>⟨⟨by omega,by omega,by omega⟩,aI (fun e=>?_) (fun _=>⟨⟨⟨by omega,by omega,by omega⟩,trivial⟩,⟨by omega,rfl,by omega⟩,?_,?_⟩)⟩)⟩
 ·rw [bB,dT']at e;omega
 ·refine aH (H:=H5 sh t m) ((0:Nat),memN t (W (0+m))) ?_ ⟨Nat.zero_le _,⟨Int.le_refl 0,by show(0:Int)≤_;omega⟩,rfl⟩
  simp only [H5,aX,aY,memN,List.length_replicate]
  rfl
 ·rintro⟨h,s⟩ ⟨h4,hc,heq⟩
  simp only at h4 hc heq
  have gc1:0≤s.c:=hc.1
  refine aI (fun e1=>?_) (fun e1=>?_)
  ·rw [bB,dT']at e1
   have e1:(h:Int)<4:=e1
   have e4':W ((h:Int)+1)=((h+1:Nat):Int):=(cE (by omega)).trans rfl
   refine⟨⟨by omega,by omega,by omega⟩,⟨⟨by decide,by decide⟩,⟨by decide,by decide⟩,⟨by decide,by decide⟩,by decide,by decide⟩,⟨rfl,gc1,by show s.c≤4611686018427387904;omega⟩,aH (H:=H5 sh t m) ((h+1:Nat),s.stored (W (0+m)+1+h) (aV 0 0 false 0 0)) ?_ ⟨⟨by show h+1≤4;omega,⟨by show 0≤s.c+1;omega,by show s.c+1≤1000*((h+1:Nat):Int);omega⟩,?_⟩,by show 4 - (h+1)<4 - h;omega⟩⟩
   ·simp only [H5,←e4']
    rfl
   ·have e9:(3 - (h:Int)).toNat =4 - (h+1):=by omega
    refine Eq.trans heq ?_
    rw [tU _ _ _ _ (by omega),e9];rfl
  ·rw [bB,dF']at e1
   have e1: ¬(h:Int)<4:=e1
   have e5:h=4:=by omega
   subst e5
   have heq':fA sh (W (0+m)) [] 4 0 (memN t (W (0+m)))=s:=heq
   rw [hn]at heq'
   unfold cJ at hK
   rw [heq']at hK
   rw [hn]
   exact hK
def fillSa:aK Ob:=fun args h=>match args,h with
 | [.int .i64 sh,.int .i64 t,.int .i64 m,.slice 0 0 k 1],[some (.ints (some .i64) xs)]=>some (.pre (k=xs.length∧tT t m xs) (.ret (.tup [.ptr 1 0,.agg [.int .i64 t,.int .i64 (xs.length+m)]]) [some (.ints (some .i64) xs),aX 2 (cJ sh t (xs.length+m) xs),aY (cJ sh t (xs.length+m) xs)]))
 | _,_=>none
def fillSb:aK Ob:=fun args h=>match args,h with
 | [.int .i64 sh,.int .i64 t,.int .i64 m,.raw (.slice none 0 0)],[]=>some (.pre (tT t m []) (.ret (.tup [.ptr 0 0,.agg [.int .i64 t,.int .i64 m]]) [aX 1 (cJ sh t m []),aY (cJ sh t m [])]))
 | _,_=>none
theorem JL:sT' 15 fillSa:=by
 intro args h o ho K hK
 unfold fillSa at ho
 split at ho<;>cases ho
 rename_i sh t m k xs
 obtain⟨⟨rfl,ok⟩,hK⟩:=hK
 exact CE sh t m xs K (NV sh t m xs K ok.hm ok.hl ok.hr ok.hk hK)
theorem zT:sT' 15 fillSb:=by
 intro args h o ho K hK
 unfold fillSb at ho
 split at ho<;>cases ho
 rename_i sh t m
 obtain⟨ok,hK⟩:=hK
 exact zU sh t m K (JM sh t m K ok hK)
noncomputable def fillS:aK Ob:=aK.or fillSa fillSb
theorem xU:sT' 15 fillS:=ZM JL zT
noncomputable def EF1:=EZ.addS 15 fillS xU
def stNewS:aK Ob:=fun args h=>match args,h with
 | [.agg [.int .i64 t,.int .i64 n],.int .i64 me],[]=>some (.pre True (.ret (.ptr 0 0) [stC 1 t n ⟨me,0,[]⟩,nK ⟨me,0,[]⟩]))
 | _,_=>none
theorem A5:sT' 19 stNewS:=by
 intro args h o ho K hK
 unfold stNewS at ho
 split at ho<;>cases ho
 rename_i t n me
 obtain⟨_,hK⟩:=hK
 have hK:K (.ptr 0 0) [stC 1 t n ⟨me,0,[]⟩,nK ⟨me,0,[]⟩]:=hK
 refine Y2 (ZV (cs:=[(.cell 1 4,.ints (some .i64))]) (cM' (E:=EF1) (q:=K (.ptr 0 0) [some (.cells [.int .i64 t,.int .i64 n,.int .i64 me,.int .i64 0,.slice 1 0 0 1]),some (.ints (some .i64) [])]) (by kernel_rfl) ?_))
 exact hK
noncomputable def EF2:=EF1.addS 19 stNewS A5
def WV:gW tbl where
 R:=Empty
 row:=fun x=>nomatch x
 hole:=fun x=>nomatch x
 els:=fun x=>nomatch x
 len:=fun x=>nomatch x
 upd:=fun x=>nomatch x
 isRow:=fun _=>none
 isHole:=fun _=>none
 is:=fun x=>nomatch x
 get:=fun x=>nomatch x
 isRow_eq:=fun _ x _=>nomatch x
 isHole_eq:=fun _ x _ _=>nomatch x
 len_eq:=fun x=>nomatch x
 upd_eq:=fun x=>nomatch x
 is_true:=fun x=>nomatch x
 is_false:=fun x=>nomatch x
 tbRow:=fun x=>nomatch x
 tbHole:=fun x=>nomatch x
noncomputable def X4:oS Ob Tryz.prog:= {EF2 with row:=WV.ops Tryz.prog,rowOk:=WV.ops_ok}
def enNSA:aK Ob:=fun args h=>match args,h with
 | [.ptr 0 0],[some (.abs (.store t n st) [])]=>some (.pre (zM t n st).ok (.ret (.ptr 1 0) [some (.abs (.store t n (zM t n st).val) []),some (.abs (.ensure t n dENS) [0])]))
 | _,_=>none
theorem NN:sT' 37 enNSA:=by
 intro args h o ho K hK
 unfold enNSA at ho
 split at ho<;>cases ho
 rename_i t n st
 obtain⟨ok,hK⟩:=hK
 refine aD.pack (tb:=tbl) (aD.unpack (tb:=tbl) (Mc.store t n st) 0 0 (jT t n st) [] rfl rfl rfl rfl ?_)
 refine B9 [.ptr 0 0] [stC 1 t n st,nK st] _ rfl _ ⟨⟨rfl,ok⟩,⟨[0,2,1],[some (.abs (.store t n (zM t n st).val) []),some (.abs (.ensure t n dENS) [0])],.store t n (zM t n st).val,0,0,jT t n (zM t n st).val,[],by kernel_rfl,by kernel_rfl,rfl,rfl,hK⟩⟩
def ftNSA:aK Ob:=fun args h=>match args,h with
 | [.ptr 0 0,.agg [.int .i64 sh,.int .i64 kd,.int .i64 ky],.int .i64 most],[some (.abs (.store t n st) [])]=>some (.pre (pD t n sh kd ky most st) (.ret (.ptr 1 0) [some (.abs (.store t n (ftNF t n sh kd ky most st).2) []),some (.abs (.fast t n (ftNF t n sh kd ky most st).1) [0])]))
 | _,_=>none
theorem N9:sT' 18 ftNSA:=by
 intro args h o ho K hK
 unfold ftNSA at ho
 split at ho<;>cases ho
 rename_i sh kd ky most t n st
 obtain⟨ok,hK⟩:=hK
 refine aD.pack (tb:=tbl) (aD.unpack (tb:=tbl) (Mc.store t n st) 0 0 (jT t n st) [] rfl rfl rfl rfl ?_)
 refine CI [.ptr 0 0,.agg [.int .i64 sh,.int .i64 kd,.int .i64 ky],.int .i64 most] [stC 1 t n st,nK st] _ rfl _ ⟨⟨rfl,ok⟩,⟨[0,2,1],[some (.abs (.store t n (ftNF t n sh kd ky most st).2) []),some (.abs (.fast t n (ftNF t n sh kd ky most st).1) [0])],.store t n (ftNF t n sh kd ky most st).2,0,0,jT t n (ftNF t n sh kd ky most st).2,[],by kernel_rfl,by kernel_rfl,rfl,rfl,hK⟩⟩
noncomputable def EFr:=(X4.addS 37 (aK.or enNSA enNS) (ZM NN B9)).addS 18 (aK.or ftNSA ftNS) (ZM N9 CI)
end Go.Sh
