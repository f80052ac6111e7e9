import Derived.Test.YteindpciaceeeaaGreatZGC5toGH
set_option linter.all false
set_option maxHeartbeats 8000000
namespace Go.Sh
open Go Go.Proofs
variable [Con]
structure DqO where
 d:Bool
 x:DOS
 st:STS
 s:MS
instance:Inhabited DqO:=⟨⟨false,eO,⟨0,0,[]⟩,⟨0,0,[],0,0,0,0,0,false⟩⟩⟩
instance:Inhabited DOS:=⟨eO⟩
abbrev dqH(t n:Int)(x:DOS)(st:STS)(s:MS):aC Ob:=[some (.abs (.doer t n x) [1]),some (.abs (.store t n st) []),aX 3 s,aY s]
abbrev dqD(t n:Int)(x:DOS)(st:STS)(s:MS):aC Ob:=[cE' [.ptr 1 0,.I x.code,.bool x.okk,.I x.val,.bool x.slow,.I x.sh,.I x.kd,.I x.ky,.I x.limit,.I x.at',.O,.O,.O,.O,.O,.O,.O,.O,.O],some (.abs (.store t n st) []),aX 3 s,aY s]
def DqO.fin(t n:Int)(y:DqO):Out Ob:=.ite y.d (.ret (.bool true) (dqD t n y.x y.st y.s)) (.ret (.bool false) (dqH t n y.x y.st y.s))
def aCl(t n:Int)(v:AVal)(g:aC Ob):Option (Prop×DqO):=match v,g with
 | .bool d,[some (.cells [.ptr 1 0,.int .i64 code,.bool okk,.int .i64 val,.bool slow,.int .i64 sh,.int .i64 kd,.int .i64 ky,.int .i64 limit,.int .i64 at',.O,.O,.O,.O,.O,.O,.O,.O,.O]),e1,e3,e4,e2]=>(match lB 4 [e1,e2],cJ 3 [e3,e4]with
   | some (l2,t2,n2,st),some (l,s)=>some ((t2=t/\n2=n)/\(d=false->at'≠0/\at'≠1/\at'≠5/\at'≠2/\at'≠3/\at'≠4/\at'≠6/\at'≠7/\at'≠8/\at'≠9)/\l=s.xs.length/\l2=st.R.length,⟨d,⟨code,okk,val,slow,sh,kd,ky,limit,at',⟨0,0,0,false⟩,cZ,bV,dC,⟨0,0,0,0,false,0⟩,⟨0,false,0,0⟩,bP,⟨0,0⟩,cX⟩,st,s⟩)
   | _,_=>none)
 | _,_=>none
def aCm(t n:Int)(v:AVal)(g:aC Ob):Option (Prop×DqO):=match v,g with
 | .bool d,[some (.cells [.ptr 1 0,.int .i64 code,.bool okk,.int .i64 val,.bool slow,.int .i64 sh,.int .i64 kd,.int .i64 ky,.int .i64 limit,.int .i64 at',.ptr 4 0,.O,.O,.O,.O,.O,.O,.O,.O]),e1,e3,e4,some (.abs (.head t' n' sub) []),e2]=>(match lB 5 [e1,e2],cJ 3 [e3,e4]with
   | some (l2,t2,n2,st),some (l,s)=>some ((t2=t/\n2=n)/\t'=t/\n'=n/\(d=false->at'=0)/\l=s.xs.length/\l2=st.R.length,⟨d,⟨code,okk,val,slow,sh,kd,ky,limit,at',sub,cZ,bV,dC,⟨0,0,0,0,false,0⟩,⟨0,false,0,0⟩,bP,⟨0,0⟩,cX⟩,st,s⟩)
   | _,_=>none)
 | _,_=>none
def aCn(t n:Int)(v:AVal)(g:aC Ob):Option (Prop×DqO):=match v,g with
 | .bool d,[some (.cells [.ptr 1 0,.int .i64 code,.bool okk,.int .i64 val,.bool slow,.int .i64 sh,.int .i64 kd,.int .i64 ky,.int .i64 limit,.int .i64 at',.O,.ptr 4 0,.O,.O,.O,.O,.O,.O,.O]),e1,e3,e4,some (.abs (.help t' n' sub) [1]),e2]=>(match lB 5 [e1,e2],cJ 3 [e3,e4]with
   | some (l2,t2,n2,st),some (l,s)=>some ((t2=t/\n2=n)/\t'=t/\n'=n/\(d=false->at'=1\/at'=5)/\l=s.xs.length/\l2=st.R.length,⟨d,⟨code,okk,val,slow,sh,kd,ky,limit,at',⟨0,0,0,false⟩,sub,bV,dC,⟨0,0,0,0,false,0⟩,⟨0,false,0,0⟩,bP,⟨0,0⟩,cX⟩,st,s⟩)
   | _,_=>none)
 | _,_=>none
def aCo(t n:Int)(v:AVal)(g:aC Ob):Option (Prop×DqO):=match v,g with
 | .bool d,[some (.cells [.ptr 1 0,.int .i64 code,.bool okk,.int .i64 val,.bool slow,.int .i64 sh,.int .i64 kd,.int .i64 ky,.int .i64 limit,.int .i64 at',.O,.O,.ptr 4 0,.O,.O,.O,.O,.O,.O]),e1,e3,e4,some (.abs (.ensure t' n' sub) [1]),e2]=>(match lB 5 [e1,e2],cJ 3 [e3,e4]with
   | some (l2,t2,n2,st),some (l,s)=>some ((t2=t/\n2=n)/\t'=t/\n'=n/\(d=false->at'=2)/\l=s.xs.length/\l2=st.R.length,⟨d,⟨code,okk,val,slow,sh,kd,ky,limit,at',⟨0,0,0,false⟩,cZ,sub,dC,⟨0,0,0,0,false,0⟩,⟨0,false,0,0⟩,bP,⟨0,0⟩,cX⟩,st,s⟩)
   | _,_=>none)
 | _,_=>none
def aCp(t n:Int)(v:AVal)(g:aC Ob):Option (Prop×DqO):=match v,g with
 | .bool d,[some (.cells [.ptr 1 0,.int .i64 code,.bool okk,.int .i64 val,.bool slow,.int .i64 sh,.int .i64 kd,.int .i64 ky,.int .i64 limit,.int .i64 at',.O,.O,.O,.ptr 4 0,.O,.O,.O,.O,.O]),e1,e3,e4,some (.abs (.fast t' n' sub) [1]),e2]=>(match lB 5 [e1,e2],cJ 3 [e3,e4]with
   | some (l2,t2,n2,st),some (l,s)=>some ((t2=t/\n2=n)/\t'=t/\n'=n/\(d=false->at'=3)/\l=s.xs.length/\l2=st.R.length,⟨d,⟨code,okk,val,slow,sh,kd,ky,limit,at',⟨0,0,0,false⟩,cZ,bV,sub,⟨0,0,0,0,false,0⟩,⟨0,false,0,0⟩,bP,⟨0,0⟩,cX⟩,st,s⟩)
   | _,_=>none)
 | _,_=>none
def aCq(t n:Int)(v:AVal)(g:aC Ob):Option (Prop×DqO):=match v,g with
 | .bool d,[some (.cells [.ptr 1 0,.int .i64 code,.bool okk,.int .i64 val,.bool slow,.int .i64 sh,.int .i64 kd,.int .i64 ky,.int .i64 limit,.int .i64 at',.O,.O,.O,.O,.ptr 4 0,.O,.O,.O,.O]),e1,e3,e4,some (.abs (.announce t' n' sub) []),e2]=>(match lB 5 [e1,e2],cJ 3 [e3,e4]with
   | some (l2,t2,n2,st),some (l,s)=>some ((t2=t/\n2=n)/\t'=t/\n'=n/\(d=false->at'=4)/\l=s.xs.length/\l2=st.R.length,⟨d,⟨code,okk,val,slow,sh,kd,ky,limit,at',⟨0,0,0,false⟩,cZ,bV,dC,sub,⟨0,false,0,0⟩,bP,⟨0,0⟩,cX⟩,st,s⟩)
   | _,_=>none)
 | _,_=>none
def aCr(t n:Int)(v:AVal)(g:aC Ob):Option (Prop×DqO):=match v,g with
 | .bool d,[some (.cells [.ptr 1 0,.int .i64 code,.bool okk,.int .i64 val,.bool slow,.int .i64 sh,.int .i64 kd,.int .i64 ky,.int .i64 limit,.int .i64 at',.O,.O,.O,.O,.O,.ptr 4 0,.O,.O,.O]),e1,e3,e4,some (.abs (.answer t' n' sub) []),e2]=>(match lB 5 [e1,e2],cJ 3 [e3,e4]with
   | some (l2,t2,n2,st),some (l,s)=>some ((t2=t/\n2=n)/\t'=t/\n'=n/\(d=false->at'=6)/\l=s.xs.length/\l2=st.R.length,⟨d,⟨code,okk,val,slow,sh,kd,ky,limit,at',⟨0,0,0,false⟩,cZ,bV,dC,⟨0,0,0,0,false,0⟩,sub,bP,⟨0,0⟩,cX⟩,st,s⟩)
   | _,_=>none)
 | _,_=>none
def aCs(t n:Int)(v:AVal)(g:aC Ob):Option (Prop×DqO):=match v,g with
 | .bool d,[some (.cells [.ptr 1 0,.int .i64 code,.bool okk,.int .i64 val,.bool slow,.int .i64 sh,.int .i64 kd,.int .i64 ky,.int .i64 limit,.int .i64 at',.O,.O,.O,.O,.O,.O,.ptr 4 0,.O,.O]),e1,e3,e4,some (.abs (.find t' n' sub) []),e2]=>(match lB 5 [e1,e2],cJ 3 [e3,e4]with
   | some (l2,t2,n2,st),some (l,s)=>some ((t2=t/\n2=n)/\t'=t/\n'=n/\(d=false->at'=7)/\l=s.xs.length/\l2=st.R.length,⟨d,⟨code,okk,val,slow,sh,kd,ky,limit,at',⟨0,0,0,false⟩,cZ,bV,dC,⟨0,0,0,0,false,0⟩,⟨0,false,0,0⟩,sub,⟨0,0⟩,cX⟩,st,s⟩)
   | _,_=>none)
 | _,_=>none
def aCt(t n:Int)(v:AVal)(g:aC Ob):Option (Prop×DqO):=match v,g with
 | .bool d,[some (.cells [.ptr 1 0,.int .i64 code,.bool okk,.int .i64 val,.bool slow,.int .i64 sh,.int .i64 kd,.int .i64 ky,.int .i64 limit,.int .i64 at',.O,.O,.O,.O,.O,.O,.O,.ptr 4 0,.O]),e1,e3,e4,some (.abs (.drop t' n' sub) []),e2]=>(match lB 5 [e1,e2],cJ 3 [e3,e4]with
   | some (l2,t2,n2,st),some (l,s)=>some ((t2=t/\n2=n)/\t'=t/\n'=n/\(d=false->at'=8)/\l=s.xs.length/\l2=st.R.length,⟨d,⟨code,okk,val,slow,sh,kd,ky,limit,at',⟨0,0,0,false⟩,cZ,bV,dC,⟨0,0,0,0,false,0⟩,⟨0,false,0,0⟩,bP,sub,cX⟩,st,s⟩)
   | _,_=>none)
 | _,_=>none
def aCu(t n:Int)(v:AVal)(g:aC Ob):Option (Prop×DqO):=match v,g with
 | .bool d,[some (.cells [.ptr 1 0,.int .i64 code,.bool okk,.int .i64 val,.bool slow,.int .i64 sh,.int .i64 kd,.int .i64 ky,.int .i64 limit,.int .i64 at',.O,.O,.O,.O,.O,.O,.O,.O,.ptr 4 0]),e1,e3,e4,some (.abs (.sweep t' n' sub) [1]),e2]=>(match lB 5 [e1,e2],cJ 3 [e3,e4]with
   | some (l2,t2,n2,st),some (l,s)=>some ((t2=t/\n2=n)/\t'=t/\n'=n/\(d=false->at'=9)/\l=s.xs.length/\l2=st.R.length,⟨d,⟨code,okk,val,slow,sh,kd,ky,limit,at',⟨0,0,0,false⟩,cZ,bV,dC,⟨0,0,0,0,false,0⟩,⟨0,false,0,0⟩,bP,⟨0,0⟩,sub⟩,st,s⟩)
   | _,_=>none)
 | _,_=>none
def wG(t n:Int)(v:AVal)(g:aC Ob):Option (Prop×DqO):=(match aCl t n v g with
 | some r=>some r
 | none=>(match aCm t n v g with
 | some r=>some r
 | none=>(match aCn t n v g with
 | some r=>some r
 | none=>(match aCo t n v g with
 | some r=>some r
 | none=>(match aCp t n v g with
 | some r=>some r
 | none=>(match aCq t n v g with
 | some r=>some r
 | none=>(match aCr t n v g with
 | some r=>some r
 | none=>(match aCs t n v g with
 | some r=>some r
 | none=>(match aCt t n v g with
 | some r=>some r
 | none=>aCu t n v g)))))))))
theorem V9{t n:Int} :bO (obI tbl) 4 (aCl t n) (DqO.fin t n):=by
 intro v g p x hp hq K hK;unfold aCl at hp;split at hp
 case h_2=>cases hp
 rename_i d code okk val slow sh kd ky limit at' e1 e3 e4 e2;split at hp
 case h_2=>cases hp
 rename_i l2 t2 n2 st l s hs hm;cases hp;obtain⟨⟨rfl,rfl⟩,hat,hl,hl2⟩:=hq;cases aZ hm hl;cases b9 hs hl2;refine fC hK (fun h=>?_) (fun hd h=>?_)
 ·exact tkP h (.store t2 n2 st) 1 0 (dK t2 n2 st) []
 ·exact wJ h (.store t2 n2 st) 1 0 (dK t2 n2 st) [] 0 [1] rfl (congrArg (Prod.mk 1) (uT (hat hd)))
theorem WA{t n:Int} :bO (obI tbl) 4 (aCm t n) (DqO.fin t n):=by
 intro v g p x hp hq K hK;unfold aCm at hp;split at hp
 case h_2=>cases hp
 rename_i d code okk val slow sh kd ky limit at' e1 e3 e4 t' n' sub e2;split at hp
 case h_2=>cases hp
 rename_i l2 t2 n2 st l s hs hm;cases hp;obtain⟨⟨rfl,rfl⟩,rfl,rfl,hat,hl,hl2⟩:=hq;cases aZ hm hl;cases b9 hs hl2;refine fC hK (fun h=>?_) (fun hd h=>?_)
 ·exact DM h [10,11,12,13,14,15,16,17,18] [0,1,2,3,5] (.store t' n' st) 1 0 (dK t' n' st) []
 ·exact wJ h (.store t' n' st) 1 0 (dK t' n' st) [] 0 [1] rfl (congrArg (Prod.mk 1) (qB (hat hd)))
theorem WB{t n:Int} :bO (obI tbl) 4 (aCn t n) (DqO.fin t n):=by
 intro v g p x hp hq K hK;unfold aCn at hp;split at hp
 case h_2=>cases hp
 rename_i d code okk val slow sh kd ky limit at' e1 e3 e4 t' n' sub e2;split at hp
 case h_2=>cases hp
 rename_i l2 t2 n2 st l s hs hm;cases hp;obtain⟨⟨rfl,rfl⟩,rfl,rfl,hat,hl,hl2⟩:=hq;cases aZ hm hl;cases b9 hs hl2;refine fC hK (fun h=>?_) (fun hd h=>?_)
 ·exact DM h [10,11,12,13,14,15,16,17,18] [0,1,2,3,5] (.store t' n' st) 1 0 (dK t' n' st) []
 ·rcases hat hd with hat | hat
  ·exact wJ h (.store t' n' st) 1 0 (dK t' n' st) [] 0 [1] rfl (congrArg (Prod.mk 1) (tL hat))
  ·exact wJ h (.store t' n' st) 1 0 (dK t' n' st) [] 0 [1] rfl (congrArg (Prod.mk 1) (tP hat))
theorem WC{t n:Int} :bO (obI tbl) 4 (aCo t n) (DqO.fin t n):=by
 intro v g p x hp hq K hK;unfold aCo at hp;split at hp
 case h_2=>cases hp
 rename_i d code okk val slow sh kd ky limit at' e1 e3 e4 t' n' sub e2;split at hp
 case h_2=>cases hp
 rename_i l2 t2 n2 st l s hs hm;cases hp;obtain⟨⟨rfl,rfl⟩,rfl,rfl,hat,hl,hl2⟩:=hq;cases aZ hm hl;cases b9 hs hl2;refine fC hK (fun h=>?_) (fun hd h=>?_)
 ·exact DM h [10,11,12,13,14,15,16,17,18] [0,1,2,3,5] (.store t' n' st) 1 0 (dK t' n' st) []
 ·exact wJ h (.store t' n' st) 1 0 (dK t' n' st) [] 0 [1] rfl (congrArg (Prod.mk 1) (tM (hat hd)))
theorem WD{t n:Int} :bO (obI tbl) 4 (aCp t n) (DqO.fin t n):=by
 intro v g p x hp hq K hK;unfold aCp at hp;split at hp
 case h_2=>cases hp
 rename_i d code okk val slow sh kd ky limit at' e1 e3 e4 t' n' sub e2;split at hp
 case h_2=>cases hp
 rename_i l2 t2 n2 st l s hs hm;cases hp;obtain⟨⟨rfl,rfl⟩,rfl,rfl,hat,hl,hl2⟩:=hq;cases aZ hm hl;cases b9 hs hl2;refine fC hK (fun h=>?_) (fun hd h=>?_)
 ·exact DM h [10,11,12,13,14,15,16,17,18] [0,1,2,3,5] (.store t' n' st) 1 0 (dK t' n' st) []
 ·exact wJ h (.store t' n' st) 1 0 (dK t' n' st) [] 0 [1] rfl (congrArg (Prod.mk 1) (tN (hat hd)))
theorem WE{t n:Int} :bO (obI tbl) 4 (aCq t n) (DqO.fin t n):=by
 intro v g p x hp hq K hK;unfold aCq at hp;split at hp
 case h_2=>cases hp
 rename_i d code okk val slow sh kd ky limit at' e1 e3 e4 t' n' sub e2;split at hp
 case h_2=>cases hp
 rename_i l2 t2 n2 st l s hs hm;cases hp;obtain⟨⟨rfl,rfl⟩,rfl,rfl,hat,hl,hl2⟩:=hq;cases aZ hm hl;cases b9 hs hl2;refine fC hK (fun h=>?_) (fun hd h=>?_)
 ·exact DM h [10,11,12,13,14,15,16,17,18] [0,1,2,3,5] (.store t' n' st) 1 0 (dK t' n' st) []
 ·exact wJ h (.store t' n' st) 1 0 (dK t' n' st) [] 0 [1] rfl (congrArg (Prod.mk 1) (tO (hat hd)))
theorem WF{t n:Int} :bO (obI tbl) 4 (aCr t n) (DqO.fin t n):=by
 intro v g p x hp hq K hK;unfold aCr at hp;split at hp
 case h_2=>cases hp
 rename_i d code okk val slow sh kd ky limit at' e1 e3 e4 t' n' sub e2;split at hp
 case h_2=>cases hp
 rename_i l2 t2 n2 st l s hs hm;cases hp;obtain⟨⟨rfl,rfl⟩,rfl,rfl,hat,hl,hl2⟩:=hq;cases aZ hm hl;cases b9 hs hl2;refine fC hK (fun h=>?_) (fun hd h=>?_)
 ·exact DM h [10,11,12,13,14,15,16,17,18] [0,1,2,3,5] (.store t' n' st) 1 0 (dK t' n' st) []
 ·exact wJ h (.store t' n' st) 1 0 (dK t' n' st) [] 0 [1] rfl (congrArg (Prod.mk 1) (tQ (hat hd)))
theorem WG{t n:Int} :bO (obI tbl) 4 (aCs t n) (DqO.fin t n):=by
 intro v g p x hp hq K hK;unfold aCs at hp;split at hp
 case h_2=>cases hp
 rename_i d code okk val slow sh kd ky limit at' e1 e3 e4 t' n' sub e2;split at hp
 case h_2=>cases hp
 rename_i l2 t2 n2 st l s hs hm;cases hp;obtain⟨⟨rfl,rfl⟩,rfl,rfl,hat,hl,hl2⟩:=hq;cases aZ hm hl;cases b9 hs hl2;refine fC hK (fun h=>?_) (fun hd h=>?_)
 ·exact DM h [10,11,12,13,14,15,16,17,18] [0,1,2,3,5] (.store t' n' st) 1 0 (dK t' n' st) []
 ·exact wJ h (.store t' n' st) 1 0 (dK t' n' st) [] 0 [1] rfl (congrArg (Prod.mk 1) (tR (hat hd)))
theorem WH{t n:Int} :bO (obI tbl) 4 (aCt t n) (DqO.fin t n):=by
 intro v g p x hp hq K hK;unfold aCt at hp;split at hp
 case h_2=>cases hp
 rename_i d code okk val slow sh kd ky limit at' e1 e3 e4 t' n' sub e2;split at hp
 case h_2=>cases hp
 rename_i l2 t2 n2 st l s hs hm;cases hp;obtain⟨⟨rfl,rfl⟩,rfl,rfl,hat,hl,hl2⟩:=hq;cases aZ hm hl;cases b9 hs hl2;refine fC hK (fun h=>?_) (fun hd h=>?_)
 ·exact DM h [10,11,12,13,14,15,16,17,18] [0,1,2,3,5] (.store t' n' st) 1 0 (dK t' n' st) []
 ·exact wJ h (.store t' n' st) 1 0 (dK t' n' st) [] 0 [1] rfl (congrArg (Prod.mk 1) (tS (hat hd)))
theorem WI{t n:Int} :bO (obI tbl) 4 (aCu t n) (DqO.fin t n):=by
 intro v g p x hp hq K hK;unfold aCu at hp;split at hp
 case h_2=>cases hp
 rename_i d code okk val slow sh kd ky limit at' e1 e3 e4 t' n' sub e2;split at hp
 case h_2=>cases hp
 rename_i l2 t2 n2 st l s hs hm;cases hp;obtain⟨⟨rfl,rfl⟩,rfl,rfl,hat,hl,hl2⟩:=hq;cases aZ hm hl;cases b9 hs hl2;refine fC hK (fun h=>?_) (fun hd h=>?_)
 ·exact DM h [10,11,12,13,14,15,16,17,18] [0,1,2,3,5] (.store t' n' st) 1 0 (dK t' n' st) []
 ·exact wJ h (.store t' n' st) 1 0 (dK t' n' st) [] 0 [1] rfl (congrArg (Prod.mk 1) (tT (hat hd)))
theorem kX{t n:Int} :bO (obI tbl) 4 (wG t n) (DqO.fin t n):=by
 intro v g p x hp hq K hK;unfold wG at hp;split at hp
 ·rename_i r hr;cases hp;exact V9 v g p x hr hq K hK
 split at hp
 ·rename_i r hr;cases hp;exact WA v g p x hr hq K hK
 split at hp
 ·rename_i r hr;cases hp;exact WB v g p x hr hq K hK
 split at hp
 ·rename_i r hr;cases hp;exact WC v g p x hr hq K hK
 split at hp
 ·rename_i r hr;cases hp;exact WD v g p x hr hq K hK
 split at hp
 ·rename_i r hr;cases hp;exact WE v g p x hr hq K hK
 split at hp
 ·rename_i r hr;cases hp;exact WF v g p x hr hq K hK
 split at hp
 ·rename_i r hr;cases hp;exact WG v g p x hr hq K hK
 split at hp
 ·rename_i r hr;cases hp;exact WH v g p x hr hq K hK
 exact WI v g p x hp hq K hK
abbrev w1y:=false=false->(3:Int)=(3:Int)
abbrev w1z(n:Int)(s:MS)(st:STS)(t:Int)(x:DOS):Tr DqO:=.ret {d:=false,x:= {x with at':=3,hd:=eA,hp:=cZ,en:=bV,ft:=(jY t n x.5 x.6 x.7 x.8 st).1,an:=d8,aw:=d9,fn:=bP,dr:=eX,sw:=cX},st:=(jY t n x.5 x.6 x.7 x.8 st).2,s:=(pR t n x.10 s).3}
abbrev w20(x:DOS):=!bR x.5 x.6 x.7
abbrev w24:=false=false->(2:Int)=(2:Int)
abbrev w26(n:Int)(s:MS)(st:STS)(t:Int)(x:DOS):=wO t n (HdO.x (pR t n x.10 s)).1 (HdO.x (pR t n x.10 s)).2 x.8 st
abbrev w27:=false=false->(1:Int)=(1:Int)\/(1:Int)=(5:Int)
def A3(t n:Int)(x:DOS)(st:STS)(s:MS):Tr DqO:=.pre True (.ite (w20 x) (.pre (q9' s) (.pre ((t=t/\n=n)/\t=t/\n=n/\(true=false->(0:Int)=(0:Int))/\lE' s.3/\lE' st.3) (.ret {d:=true,x:= {x with code:=1,okk:=false,val:=0,at':=0,hp:=cZ,en:=bV,ft:=dC,an:=d8,aw:=d9,fn:=bP,dr:=eX,sw:=cX},st:=st,s:=(dU s 0) }))) (.pre (lE' s.3/\aDN t n x.10 s) (.ite (pR t n x.10 s).1 (.ite (ilt (HdO.x (pR t n x.10 s)).1 0) (.pre True (.ite (fT x.6) (.ite (ieq st.2 0) (.pre (lE' st.3/\(t=t/\n=n/\lE' st.3)/\True) (.pre ((t=t/\n=n)/\t=t/\n=n/\w24/\lE' (HdO.s (pR t n x.10 s)).3/\lE' st.3) (.ret {d:=false,x:= {x with at':=2,hd:=eA,hp:=cZ,en:=bV,ft:=dC,an:=d8,aw:=d9,fn:=bP,dr:=eX,sw:=cX},st:=st,s:=(pR t n x.10 s).3}))) (.pre ((lE' st.3/\u4 t n x.5 x.6 x.7 x.8 st)/\True) (.pre ((t=t/\n=n)/\t=t/\n=n/\w1y/\lE' (HdO.s (pR t n x.10 s)).3/\lE' (Prod.snd (jY t n x.5 x.6 x.7 x.8 st)).3) (w1z n s st t x)))) (.pre ((lE' st.3/\u4 t n x.5 x.6 x.7 x.8 st)/\True) (.pre ((t=t/\n=n)/\t=t/\n=n/\w1y/\lE' (HdO.s (pR t n x.10 s)).3/\lE' (Prod.snd (jY t n x.5 x.6 x.7 x.8 st)).3) (w1z n s st t x))))) (.pre ((lE' st.3/\CB t n (HdO.x (pR t n x.10 s)).1 (HdO.x (pR t n x.10 s)).2 x.8 st)/\True) (.pre ((t=t/\n=n)/\t=t/\n=n/\w27/\lE' (HdO.s (pR t n x.10 s)).3/\lE' (Prod.snd (w26 n s st t x)).3) (.ret {d:=false,x:= {x with at':=1,hd:=eA,hp:=(w26 n s st t x).1,en:=bV,ft:=dC,an:=d8,aw:=d9,fn:=bP,dr:=eX,sw:=cX},st:=(w26 n s st t x).2,s:=(pR t n x.10 s).3})))) (.pre ((t=t/\n=n)/\t=t/\n=n/\(false=false->(0:Int)=(0:Int))/\lE' (HdO.s (pR t n x.10 s)).3/\lE' st.3) (.ret {d:=false,x:= {x with at':=0,hd:=(pR t n x.10 s).2,hp:=cZ,en:=bV,ft:=dC,an:=d8,aw:=d9,fn:=bP,dr:=eX,sw:=cX},st:=st,s:=(pR t n x.10 s).3})))))
theorem KA(t n:Int)(x:DOS)(st:STS)(s:MS)(K:DqO->Prop)(h:(A3 t n x st s).run K):cT' 104 [.ptr 0 0,.ptr 2 0] [cE' [.ptr 1 0,.I x.code,.bool x.okk,.I x.val,.bool x.slow,.I x.sh,.I x.kd,.I x.ky,.I x.limit,.I 0,.ptr 4 0,.O,.O,.O,.O,.O,.O,.O,.O],gW 5 t n st,aX 3 s,aY s,some (.abs (.head t n x.hd) []),gX st] (bS 4 0 [10,11,12,13,14,15,16,17,18] [(.cell 1 4,.ints (some .i64))] (wG t n) K):=by
 exact cM' (E:=EH) (by kernel_rfl) h
abbrev w1x(n:Int)(s:MS)(st:STS)(t:Int)(x:DOS):Tr DqO:=.ret {d:=false,x:= {x with at':=3,hd:=eA,hp:=cZ,en:=bV,ft:=(jY t n x.5 x.6 x.7 x.8 (gN t n x.11 st s).3).1,an:=d8,aw:=d9,fn:=bP,dr:=eX,sw:=cX},st:=(jY t n x.5 x.6 x.7 x.8 (gN t n x.11 st s).3).2,s:=(gN t n x.11 st s).4}
abbrev w23(n:Int)(s:MS)(st:STS)(t:Int)(x:DOS):=HpO.st (gN t n x.11 st s)
def A4(t n:Int)(x:DOS)(st:STS)(s:MS):Tr DqO:=.pre True (.ite (w20 x) (.pre (q9' s) (.pre ((t=t/\n=n)/\t=t/\n=n/\(true=false->(1:Int)=(1:Int)\/(1:Int)=(5:Int))/\lE' s.3/\lE' st.3) (.ret {d:=true,x:= {x with code:=1,okk:=false,val:=0,at':=1,hd:=eA,en:=bV,ft:=dC,an:=d8,aw:=d9,fn:=bP,dr:=eX,sw:=cX},st:=st,s:=(dU s 0) }))) (.pre ((lE' s.3/\lE' st.3/\t=t/\n=n)/\QO t n x.11 st s) (.ite (gN t n x.11 st s).1 (.pre True (.ite (fT x.6) (.ite (ieq (w23 n s st t x).2 0) (.pre (lE' (w23 n s st t x).3/\(t=t/\n=n/\lE' (w23 n s st t x).3)/\True) (.pre ((t=t/\n=n)/\t=t/\n=n/\w24/\lE' (HpO.s (gN t n x.11 st s)).3/\lE' (w23 n s st t x).3) (.ret {d:=false,x:= {x with at':=2,hd:=eA,hp:=cZ,en:=bV,ft:=dC,an:=d8,aw:=d9,fn:=bP,dr:=eX,sw:=cX},st:=(gN t n x.11 st s).3,s:=(gN t n x.11 st s).4}))) (.pre ((lE' (w23 n s st t x).3/\u4 t n x.5 x.6 x.7 x.8 (gN t n x.11 st s).3)/\True) (.pre ((t=t/\n=n)/\t=t/\n=n/\w1y/\lE' (HpO.s (gN t n x.11 st s)).3/\lE' (Prod.snd (jY t n x.5 x.6 x.7 x.8 (gN t n x.11 st s).3)).3) (w1x n s st t x)))) (.pre ((lE' (w23 n s st t x).3/\u4 t n x.5 x.6 x.7 x.8 (gN t n x.11 st s).3)/\True) (.pre ((t=t/\n=n)/\t=t/\n=n/\w1y/\lE' (HpO.s (gN t n x.11 st s)).3/\lE' (Prod.snd (jY t n x.5 x.6 x.7 x.8 (gN t n x.11 st s).3)).3) (w1x n s st t x))))) (.pre ((t=t/\n=n)/\t=t/\n=n/\w27/\lE' (HpO.s (gN t n x.11 st s)).3/\lE' (w23 n s st t x).3) (.ret {d:=false,x:= {x with at':=1,hd:=eA,hp:=(gN t n x.11 st s).2,en:=bV,ft:=dC,an:=d8,aw:=d9,fn:=bP,dr:=eX,sw:=cX},st:=(gN t n x.11 st s).3,s:=(gN t n x.11 st s).4})))))
theorem KB(t n:Int)(x:DOS)(st:STS)(s:MS)(K:DqO->Prop)(h:(A4 t n x st s).run K):cT' 104 [.ptr 0 0,.ptr 2 0] [cE' [.ptr 1 0,.I x.code,.bool x.okk,.I x.val,.bool x.slow,.I x.sh,.I x.kd,.I x.ky,.I x.limit,.I 1,.O,.ptr 4 0,.O,.O,.O,.O,.O,.O,.O],gW 5 t n st,aX 3 s,aY s,some (.abs (.help t n x.hp) [1]),gX st] (bS 4 0 [10,11,12,13,14,15,16,17,18] [(.cell 1 4,.ints (some .i64))] (wG t n) K):=by
 exact cM' (E:=EH) (by kernel_rfl) h
abbrev w1v:=false=false->(8:Int)=(8:Int)
def A5(t n:Int)(x:DOS)(st:STS)(s:MS):Tr DqO:=.pre True (.ite (w20 x) (.pre (q9' s) (.pre ((t=t/\n=n)/\t=t/\n=n/\(true=false->(2:Int)=(2:Int))/\lE' s.3/\lE' st.3) (.ret {d:=true,x:= {x with code:=1,okk:=false,val:=0,at':=2,hd:=eA,hp:=cZ,ft:=dC,an:=d8,aw:=d9,fn:=bP,dr:=eX,sw:=cX},st:=st,s:=(dU s 0) }))) (.pre ((lE' s.3/\lE' st.3/\t=t/\n=n)/\L8 t n (DOS.en x) st s) (.ite (enF t n x.12 st s).1 (.ite (EO.e (enF t n x.12 st s)).2 (.pre (sK t n (EO.st (enF t n x.12 st s)).1/\True) (.pre ((t=t/\n=n)/\t=t/\n=n/\w1v/\lE' (EO.s (enF t n x.12 st s)).3/\lE' (EO.st (enF t n x.12 st s)).3) (.ret {d:=false,x:= {x with code:=4,okk:=false,val:=0,at':=8,hd:=eA,hp:=cZ,en:=bV,ft:=dC,an:=d8,aw:=d9,fn:=bP,dr:=BD t n (EO.st (enF t n x.12 st s)).1,sw:=cX},st:=(enF t n x.12 st s).3,s:=(enF t n x.12 st s).4}))) (.pre ((lE' (EO.st (enF t n x.12 st s)).3/\u4 t n x.5 x.6 x.7 x.8 (enF t n x.12 st s).3)/\True) (.pre ((t=t/\n=n)/\t=t/\n=n/\w1y/\lE' (EO.s (enF t n x.12 st s)).3/\lE' (Prod.snd (jY t n x.5 x.6 x.7 x.8 (enF t n x.12 st s).3)).3) (.ret {d:=false,x:= {x with at':=3,hd:=eA,hp:=cZ,en:=bV,ft:=(jY t n x.5 x.6 x.7 x.8 (enF t n x.12 st s).3).1,an:=d8,aw:=d9,fn:=bP,dr:=eX,sw:=cX},st:=(jY t n x.5 x.6 x.7 x.8 (enF t n x.12 st s).3).2,s:=(enF t n x.12 st s).4})))) (.pre ((t=t/\n=n)/\t=t/\n=n/\w24/\lE' (EO.s (enF t n x.12 st s)).3/\lE' (EO.st (enF t n x.12 st s)).3) (.ret {d:=false,x:= {x with at':=2,hd:=eA,hp:=cZ,en:=(enF t n x.12 st s).2,ft:=dC,an:=d8,aw:=d9,fn:=bP,dr:=eX,sw:=cX},st:=(enF t n x.12 st s).3,s:=(enF t n x.12 st s).4})))))
theorem KC(t n:Int)(x:DOS)(st:STS)(s:MS)(K:DqO->Prop)(h:(A5 t n x st s).run K):cT' 104 [.ptr 0 0,.ptr 2 0] [cE' [.ptr 1 0,.I x.code,.bool x.okk,.I x.val,.bool x.slow,.I x.sh,.I x.kd,.I x.ky,.I x.limit,.I 2,.O,.O,.ptr 4 0,.O,.O,.O,.O,.O,.O],gW 5 t n st,aX 3 s,aY s,some (.abs (.ensure t n x.en) [1]),gX st] (bS 4 0 [10,11,12,13,14,15,16,17,18] [(.cell 1 4,.ints (some .i64))] (wG t n) K):=by
 exact cM' (E:=EH) (by kernel_rfl) h
abbrev w21(n:Int)(s:MS)(st:STS)(t:Int)(x:DOS):=FtO.st (hO t n x.13 st s)
abbrev w1u(n:Int)(s:MS)(st:STS)(t:Int)(x:DOS):Tr DqO:=.ret {d:=false,x:= {x with code:=(FtO.x (hO t n x.13 st s)).1,okk:=(FtO.x (hO t n x.13 st s)).2,val:=(FtO.x (hO t n x.13 st s)).3,at':=8,hd:=eA,hp:=cZ,en:=bV,ft:=dC,an:=d8,aw:=d9,fn:=bP,dr:=BD t n (w21 n s st t x).1,sw:=cX},st:=(hO t n x.13 st s).3,s:=(hO t n x.13 st s).4}
abbrev w25:=false=false->(7:Int)=(7:Int)
def A6(t n:Int)(x:DOS)(st:STS)(s:MS):Tr DqO:=.pre True (.ite (w20 x) (.pre (q9' s) (.pre ((t=t/\n=n)/\t=t/\n=n/\(true=false->(3:Int)=(3:Int))/\lE' s.3/\lE' st.3) (.ret {d:=true,x:= {x with code:=1,okk:=false,val:=0,at':=3,hd:=eA,hp:=cZ,en:=bV,an:=d8,aw:=d9,fn:=bP,dr:=eX,sw:=cX},st:=st,s:=(dU s 0) }))) (.pre ((lE' s.3/\lE' st.3/\t=t/\n=n)/\XK t n x.13 st s) (.ite (hO t n x.13 st s).1 (.ite (!(FtO.x (hO t n x.13 st s)).4) (.ite (!(FtO.x (hO t n x.13 st s)).2) (.pre (sK t n (w21 n s st t x).1/\True) (.pre ((t=t/\n=n)/\t=t/\n=n/\w1v/\lE' (FtO.s (hO t n x.13 st s)).3/\lE' (w21 n s st t x).3) (w1u n s st t x))) (.pre True (.ite (!vD x.5 x.6) (.pre (sK t n (w21 n s st t x).1/\True) (.pre ((t=t/\n=n)/\t=t/\n=n/\w1v/\lE' (FtO.s (hO t n x.13 st s)).3/\lE' (w21 n s st t x).3) (w1u n s st t x))) (.pre True (.pre (oO t n (w21 n s st t x).1 (fA x.5 x.7) (l8 x.5 x.6 x.7) x.8/\True) (.pre ((t=t/\n=n)/\t=t/\n=n/\w25/\lE' (FtO.s (hO t n x.13 st s)).3/\lE' (w21 n s st t x).3) (.ret {d:=false,x:= {x with code:=(FtO.x (hO t n x.13 st s)).1,okk:=(FtO.x (hO t n x.13 st s)).2,val:=(FtO.x (hO t n x.13 st s)).3,at':=7,hd:=eA,hp:=cZ,en:=bV,ft:=dC,an:=d8,aw:=d9,fn:=u3 t n (w21 n s st t x).1 (fA x.5 x.7) (l8 x.5 x.6 x.7) x.8,dr:=eX,sw:=cX},st:=(hO t n x.13 st s).3,s:=(hO t n x.13 st s).4}))))))) (.pre (OL t n (w21 n s st t x).1 x.5 x.6 x.7/\True) (.pre ((t=t/\n=n)/\t=t/\n=n/\(false=false->(4:Int)=(4:Int))/\lE' (FtO.s (hO t n x.13 st s)).3/\lE' (w21 n s st t x).3) (.ret {d:=false,x:= {x with slow:=true,at':=4,hd:=eA,hp:=cZ,en:=bV,ft:=dC,an:=aBN t n (w21 n s st t x).1 x.5 x.6 x.7,aw:=d9,fn:=bP,dr:=eX,sw:=cX},st:=(hO t n x.13 st s).3,s:=(hO t n x.13 st s).4})))) (.pre ((t=t/\n=n)/\t=t/\n=n/\w1y/\lE' (FtO.s (hO t n x.13 st s)).3/\lE' (w21 n s st t x).3) (.ret {d:=false,x:= {x with at':=3,hd:=eA,hp:=cZ,en:=bV,ft:=(hO t n x.13 st s).2,an:=d8,aw:=d9,fn:=bP,dr:=eX,sw:=cX},st:=(hO t n x.13 st s).3,s:=(hO t n x.13 st s).4})))))
theorem KD(t n:Int)(x:DOS)(st:STS)(s:MS)(K:DqO->Prop)(h:(A6 t n x st s).run K):cT' 104 [.ptr 0 0,.ptr 2 0] [cE' [.ptr 1 0,.I x.code,.bool x.okk,.I x.val,.bool x.slow,.I x.sh,.I x.kd,.I x.ky,.I x.limit,.I 3,.O,.O,.O,.ptr 4 0,.O,.O,.O,.O,.O],gW 5 t n st,aX 3 s,aY s,some (.abs (.fast t n x.ft) [1]),gX st] (bS 4 0 [10,11,12,13,14,15,16,17,18] [(.cell 1 4,.ints (some .i64))] (wG t n) K):=by
 exact cM' (E:=EH) (by kernel_rfl) h
abbrev w28:=false=false->(5:Int)=(1:Int)\/(5:Int)=(5:Int)
def A7(t n:Int)(x:DOS)(st:STS)(s:MS):Tr DqO:=.pre True (.ite (w20 x) (.pre (q9' s) (.pre ((t=t/\n=n)/\t=t/\n=n/\(true=false->(4:Int)=(4:Int))/\lE' s.3/\lE' st.3) (.ret {d:=true,x:= {x with code:=1,okk:=false,val:=0,at':=4,hd:=eA,hp:=cZ,en:=bV,ft:=dC,aw:=d9,fn:=bP,dr:=eX,sw:=cX},st:=st,s:=(dU s 0) }))) (.pre (lE' s.3/\aBR t n x.14 s) (.ite (EP t n x.14 s).1 (.pre ((lE' st.3/\CB t n st.1 (AnO.x (EP t n x.14 s)).1 x.8 st)/\True) (.pre ((t=t/\n=n)/\t=t/\n=n/\w28/\lE' (AnO.s (EP t n x.14 s)).3/\lE' (Prod.snd (wO t n st.1 (AnO.x (EP t n x.14 s)).1 x.8 st)).3) (.ret {d:=false,x:= {x with at':=5,hd:=eA,hp:=(wO t n st.1 (AnO.x (EP t n x.14 s)).1 x.8 st).1,en:=bV,ft:=dC,an:=d8,aw:=d9,fn:=bP,dr:=eX,sw:=cX},st:=(wO t n st.1 (AnO.x (EP t n x.14 s)).1 x.8 st).2,s:=(EP t n x.14 s).3}))) (.pre ((t=t/\n=n)/\t=t/\n=n/\(false=false->(4:Int)=(4:Int))/\lE' (AnO.s (EP t n x.14 s)).3/\lE' st.3) (.ret {d:=false,x:= {x with at':=4,hd:=eA,hp:=cZ,en:=bV,ft:=dC,an:=(EP t n x.14 s).2,aw:=d9,fn:=bP,dr:=eX,sw:=cX},st:=st,s:=(EP t n x.14 s).3})))))
theorem KE(t n:Int)(x:DOS)(st:STS)(s:MS)(K:DqO->Prop)(h:(A7 t n x st s).run K):cT' 104 [.ptr 0 0,.ptr 2 0] [cE' [.ptr 1 0,.I x.code,.bool x.okk,.I x.val,.bool x.slow,.I x.sh,.I x.kd,.I x.ky,.I x.limit,.I 4,.O,.O,.O,.O,.ptr 4 0,.O,.O,.O,.O],gW 5 t n st,aX 3 s,aY s,some (.abs (.announce t n x.an) []),gX st] (bS 4 0 [10,11,12,13,14,15,16,17,18] [(.cell 1 4,.ints (some .i64))] (wG t n) K):=by
 exact cM' (E:=EH) (by kernel_rfl) h
def A8(t n:Int)(x:DOS)(st:STS)(s:MS):Tr DqO:=.pre True (.ite (w20 x) (.pre (q9' s) (.pre ((t=t/\n=n)/\t=t/\n=n/\(true=false->(5:Int)=(1:Int)\/(5:Int)=(5:Int))/\lE' s.3/\lE' st.3) (.ret {d:=true,x:= {x with code:=1,okk:=false,val:=0,at':=5,hd:=eA,en:=bV,ft:=dC,an:=d8,aw:=d9,fn:=bP,dr:=eX,sw:=cX},st:=st,s:=(dU s 0) }))) (.pre ((lE' s.3/\lE' st.3/\t=t/\n=n)/\QO t n x.11 st s) (.ite (gN t n x.11 st s).1 (.pre (OP t n (w23 n s st t x).1/\True) (.pre ((t=t/\n=n)/\t=t/\n=n/\(false=false->(6:Int)=(6:Int))/\lE' (HpO.s (gN t n x.11 st s)).3/\lE' (w23 n s st t x).3) (.ret {d:=false,x:= {x with at':=6,hd:=eA,hp:=cZ,en:=bV,ft:=dC,an:=d8,aw:=aBZ t n (w23 n s st t x).1,fn:=bP,dr:=eX,sw:=cX},st:=(gN t n x.11 st s).3,s:=(gN t n x.11 st s).4}))) (.pre ((t=t/\n=n)/\t=t/\n=n/\w28/\lE' (HpO.s (gN t n x.11 st s)).3/\lE' (w23 n s st t x).3) (.ret {d:=false,x:= {x with at':=5,hd:=eA,hp:=(gN t n x.11 st s).2,en:=bV,ft:=dC,an:=d8,aw:=d9,fn:=bP,dr:=eX,sw:=cX},st:=(gN t n x.11 st s).3,s:=(gN t n x.11 st s).4})))))
theorem KF(t n:Int)(x:DOS)(st:STS)(s:MS)(K:DqO->Prop)(h:(A8 t n x st s).run K):cT' 104 [.ptr 0 0,.ptr 2 0] [cE' [.ptr 1 0,.I x.code,.bool x.okk,.I x.val,.bool x.slow,.I x.sh,.I x.kd,.I x.ky,.I x.limit,.I 5,.O,.ptr 4 0,.O,.O,.O,.O,.O,.O,.O],gW 5 t n st,aX 3 s,aY s,some (.abs (.help t n x.hp) [1]),gX st] (bS 4 0 [10,11,12,13,14,15,16,17,18] [(.cell 1 4,.ints (some .i64))] (wG t n) K):=by
 exact cM' (E:=EH) (by kernel_rfl) h
abbrev w1w(n:Int)(s:MS)(st:STS)(t:Int)(x:DOS):Tr DqO:=.ret {d:=false,x:= {x with code:=(AwO.x (sI t n x.15 s)).1,okk:=(AwO.x (sI t n x.15 s)).2,val:=(AwO.x (sI t n x.15 s)).3,at':=8,hd:=eA,hp:=cZ,en:=bV,ft:=dC,an:=d8,aw:=d9,fn:=bP,dr:=BD t n st.1,sw:=cX},st:=st,s:=(sI t n x.15 s).3}
def A9(t n:Int)(x:DOS)(st:STS)(s:MS):Tr DqO:=.pre True (.ite (w20 x) (.pre (q9' s) (.pre ((t=t/\n=n)/\t=t/\n=n/\(true=false->(6:Int)=(6:Int))/\lE' s.3/\lE' st.3) (.ret {d:=true,x:= {x with code:=1,okk:=false,val:=0,at':=6,hd:=eA,hp:=cZ,en:=bV,ft:=dC,an:=d8,fn:=bP,dr:=eX,sw:=cX},st:=st,s:=(dU s 0) }))) (.pre (lE' s.3/\aB3 t n x.15 s) (.ite (sI t n x.15 s).1 (.ite (!(AwO.x (sI t n x.15 s)).2) (.pre (sK t n st.1/\True) (.pre ((t=t/\n=n)/\t=t/\n=n/\w1v/\lE' (AwO.s (sI t n x.15 s)).3/\lE' st.3) (w1w n s st t x))) (.pre True (.ite (!vD x.5 x.6) (.pre (sK t n st.1/\True) (.pre ((t=t/\n=n)/\t=t/\n=n/\w1v/\lE' (AwO.s (sI t n x.15 s)).3/\lE' st.3) (w1w n s st t x))) (.pre True (.pre (oO t n st.1 (fA x.5 x.7) (l8 x.5 x.6 x.7) x.8/\True) (.pre ((t=t/\n=n)/\t=t/\n=n/\w25/\lE' (AwO.s (sI t n x.15 s)).3/\lE' st.3) (.ret {d:=false,x:= {x with code:=(AwO.x (sI t n x.15 s)).1,okk:=(AwO.x (sI t n x.15 s)).2,val:=(AwO.x (sI t n x.15 s)).3,at':=7,hd:=eA,hp:=cZ,en:=bV,ft:=dC,an:=d8,aw:=d9,fn:=u3 t n st.1 (fA x.5 x.7) (l8 x.5 x.6 x.7) x.8,dr:=eX,sw:=cX},st:=st,s:=(sI t n x.15 s).3}))))))) (.pre ((t=t/\n=n)/\t=t/\n=n/\(false=false->(6:Int)=(6:Int))/\lE' (AwO.s (sI t n x.15 s)).3/\lE' st.3) (.ret {d:=false,x:= {x with at':=6,hd:=eA,hp:=cZ,en:=bV,ft:=dC,an:=d8,aw:=(sI t n x.15 s).2,fn:=bP,dr:=eX,sw:=cX},st:=st,s:=(sI t n x.15 s).3})))))
theorem KG(t n:Int)(x:DOS)(st:STS)(s:MS)(K:DqO->Prop)(h:(A9 t n x st s).run K):cT' 104 [.ptr 0 0,.ptr 2 0] [cE' [.ptr 1 0,.I x.code,.bool x.okk,.I x.val,.bool x.slow,.I x.sh,.I x.kd,.I x.ky,.I x.limit,.I 6,.O,.O,.O,.O,.O,.ptr 4 0,.O,.O,.O],gW 5 t n st,aX 3 s,aY s,some (.abs (.answer t n x.aw) []),gX st] (bS 4 0 [10,11,12,13,14,15,16,17,18] [(.cell 1 4,.ints (some .i64))] (wG t n) K):=by
 exact cM' (E:=EH) (by kernel_rfl) h
def BA(t n:Int)(x:DOS)(st:STS)(s:MS):Tr DqO:=.pre True (.ite (w20 x) (.pre (q9' s) (.pre ((t=t/\n=n)/\t=t/\n=n/\(true=false->(7:Int)=(7:Int))/\lE' s.3/\lE' st.3) (.ret {d:=true,x:= {x with code:=1,okk:=false,val:=0,at':=7,hd:=eA,hp:=cZ,en:=bV,ft:=dC,an:=d8,aw:=d9,dr:=eX,sw:=cX},st:=st,s:=(dU s 0) }))) (.pre (lE' s.3/\K6 t n x.16 s) (.ite (aM t n x.16 s).1 (.pre ((lE' st.3/\lE' (FnO.x (aM t n x.16 s)).6/\st.3.length+List.length (FnO.x (aM t n x.16 s)).6<=(4294967296:Nat))/\True) (.pre (sK t n st.1/\True) (.pre ((t=t/\n=n)/\t=t/\n=n/\w1v/\lE' (FnO.s (aM t n x.16 s)).3/\st.3.length+List.length (FnO.x (aM t n x.16 s)).6=List.length (st.3++(FnO.x (aM t n x.16 s)).6)) (.ret {d:=false,x:= {x with at':=8,hd:=eA,hp:=cZ,en:=bV,ft:=dC,an:=d8,aw:=d9,fn:=bP,dr:=BD t n st.1,sw:=cX},st:= {me:=st.1,sp:=st.2,R:=st.3++(FnO.x (aM t n x.16 s)).6},s:=(aM t n x.16 s).3})))) (.pre ((t=t/\n=n)/\t=t/\n=n/\w25/\lE' (FnO.s (aM t n x.16 s)).3/\lE' st.3) (.ret {d:=false,x:= {x with at':=7,hd:=eA,hp:=cZ,en:=bV,ft:=dC,an:=d8,aw:=d9,fn:=(aM t n x.16 s).2,dr:=eX,sw:=cX},st:=st,s:=(aM t n x.16 s).3})))))
theorem KH(t n:Int)(x:DOS)(st:STS)(s:MS)(K:DqO->Prop)(h:(BA t n x st s).run K):cT' 104 [.ptr 0 0,.ptr 2 0] [cE' [.ptr 1 0,.I x.code,.bool x.okk,.I x.val,.bool x.slow,.I x.sh,.I x.kd,.I x.ky,.I x.limit,.I 7,.O,.O,.O,.O,.O,.O,.ptr 4 0,.O,.O],gW 5 t n st,aX 3 s,aY s,some (.abs (.find t n x.fn) []),gX st] (bS 4 0 [10,11,12,13,14,15,16,17,18] [(.cell 1 4,.ints (some .i64))] (wG t n) K):=by
 exact cM' (E:=EH) (by kernel_rfl) h
def BB(t n:Int)(x:DOS)(st:STS)(s:MS):Tr DqO:=.pre True (.ite (w20 x) (.pre (q9' s) (.pre ((t=t/\n=n)/\t=t/\n=n/\(true=false->(8:Int)=(8:Int))/\lE' s.3/\lE' st.3) (.ret {d:=true,x:= {x with code:=1,okk:=false,val:=0,at':=8,hd:=eA,hp:=cZ,en:=bV,ft:=dC,an:=d8,aw:=d9,fn:=bP,sw:=cX},st:=st,s:=(dU s 0) }))) (.pre (lE' s.3/\aCD t n x.17 s) (.ite (TY t n x.17 s).1 (.pre (lE' st.3/\(t=t/\n=n/\lE' st.3)/\True) (.pre ((0:Int)<=t/\t<=(100000:Int)) (.pre ((t=t/\n=n)/\t=t/\n=n/\((!ile (4*t) (↑st.3.length:Int))=false->(9:Int)=(9:Int))/\lE' (DrO.s (TY t n x.17 s)).3/\lE' st.3) (.ret {d:=!ile (4*t) (↑st.3.length:Int),x:= {x with at':=9,hd:=eA,hp:=cZ,en:=bV,ft:=dC,an:=d8,aw:=d9,fn:=bP,dr:=eX,sw:=cX},st:=st,s:=(TY t n x.17 s).3})))) (.pre ((t=t/\n=n)/\t=t/\n=n/\w1v/\lE' (DrO.s (TY t n x.17 s)).3/\lE' st.3) (.ret {d:=false,x:= {x with at':=8,hd:=eA,hp:=cZ,en:=bV,ft:=dC,an:=d8,aw:=d9,fn:=bP,dr:=(TY t n x.17 s).2,sw:=cX},st:=st,s:=(TY t n x.17 s).3})))))
theorem KI(t n:Int)(x:DOS)(st:STS)(s:MS)(K:DqO->Prop)(h:(BB t n x st s).run K):cT' 104 [.ptr 0 0,.ptr 2 0] [cE' [.ptr 1 0,.I x.code,.bool x.okk,.I x.val,.bool x.slow,.I x.sh,.I x.kd,.I x.ky,.I x.limit,.I 8,.O,.O,.O,.O,.O,.O,.O,.ptr 4 0,.O],gW 5 t n st,aX 3 s,aY s,some (.abs (.drop t n x.dr) []),gX st] (bS 4 0 [10,11,12,13,14,15,16,17,18] [(.cell 1 4,.ints (some .i64))] (wG t n) K):=by
 exact cM' (E:=EH) (by kernel_rfl) h
def BC(t n:Int)(x:DOS)(st:STS)(s:MS):Tr DqO:=.pre True (.ite (w20 x) (.pre (q9' s) (.pre ((t=t/\n=n)/\t=t/\n=n/\(true=false->(9:Int)=(9:Int))/\lE' s.3/\lE' st.3) (.ret {d:=true,x:= {x with code:=1,okk:=false,val:=0,at':=9,hd:=eA,hp:=cZ,en:=bV,ft:=dC,an:=d8,aw:=d9,fn:=bP,dr:=eX},st:=st,s:=(dU s 0) }))) (.pre ((lE' s.3/\lE' st.3/\t=t/\n=n)/\qQ t n (DOS.sw x) st s) (.ite (swF t n x.18 st s).1 (.pre ((t=t/\n=n)/\(true=false->(9:Int)≠(0:Int)/\(9:Int)≠(1:Int)/\(9:Int)≠(5:Int)/\(9:Int)≠(2:Int)/\(9:Int)≠(3:Int)/\(9:Int)≠(4:Int)/\(9:Int)≠(6:Int)/\(9:Int)≠(7:Int)/\(9:Int)≠(8:Int)/\(9:Int)≠(9:Int))/\lE' (SO.s (swF t n x.18 st s)).3/\lE' (SO.st (swF t n x.18 st s)).3) (.ret {d:=true,x:= {x with at':=9,hd:=eA,hp:=cZ,en:=bV,ft:=dC,an:=d8,aw:=d9,fn:=bP,dr:=eX,sw:=cX},st:=(swF t n x.18 st s).3,s:=(swF t n x.18 st s).4})) (.pre ((t=t/\n=n)/\t=t/\n=n/\(false=false->(9:Int)=(9:Int))/\lE' (SO.s (swF t n x.18 st s)).3/\lE' (SO.st (swF t n x.18 st s)).3) (.ret {d:=false,x:= {x with at':=9,hd:=eA,hp:=cZ,en:=bV,ft:=dC,an:=d8,aw:=d9,fn:=bP,dr:=eX,sw:=(swF t n x.18 st s).2},st:=(swF t n x.18 st s).3,s:=(swF t n x.18 st s).4})))))
theorem KJ(t n:Int)(x:DOS)(st:STS)(s:MS)(K:DqO->Prop)(h:(BC t n x st s).run K):cT' 104 [.ptr 0 0,.ptr 2 0] [cE' [.ptr 1 0,.I x.code,.bool x.okk,.I x.val,.bool x.slow,.I x.sh,.I x.kd,.I x.ky,.I x.limit,.I 9,.O,.O,.O,.O,.O,.O,.O,.O,.ptr 4 0],gW 5 t n st,aX 3 s,aY s,some (.abs (.sweep t n x.sw) [1]),gX st] (bS 4 0 [10,11,12,13,14,15,16,17,18] [(.cell 1 4,.ints (some .i64))] (wG t n) K):=by
 exact cM' (E:=EH) (by kernel_rfl) h
def dqT(t n:Int)(x:DOS)(st:STS)(s:MS):Tr DqO:=
 bif ieq x.at' 0 then A3 t n x st s else
 bif ieq x.at' 1 then A4 t n x st s else
 bif ieq x.at' 2 then A5 t n x st s else
 bif ieq x.at' 3 then A6 t n x st s else
 bif ieq x.at' 4 then A7 t n x st s else
 bif ieq x.at' 5 then A8 t n x st s else
 bif ieq x.at' 6 then A9 t n x st s else
 bif ieq x.at' 7 then BA t n x st s else
 bif ieq x.at' 8 then BB t n x st s else
 bif ieq x.at' 9 then BC t n x st s else .pre False (.ret default)
def tE(t n:Int)(x:DOS)(st:STS)(s:MS):DqO:=(dqT t n x st s).val
def VZ(t n:Int)(x:DOS)(st:STS)(s:MS):Prop:=(dqT t n x st s).ok
theorem HX(t n:Int)(x:DOS)(st:STS)(s:MS)(K:AVal->aC Ob->Prop)(h:(dqT t n x st s).run (fun y=>(DqO.fin t n y).run K)):cT' 104 [.ptr 0 0,.ptr 2 0] (dqH t n x st s) K:=by
 unfold dqT at h
 by_cases e:x.at'=0
 ·rw [e]at h;have h:(A3 t n x st s).run _:=h;refine aJ2 (root:=0) (pos:=[10,11,12,13,14,15,16,17,18]) (cs:=[(.cell 1 4,.ints (some .i64))]) (parse:=wG t n) (fin:=DqO.fin t n) kX ((aQ.unpack (.doer t n x) 0 1 (f9 t n x) [1] rfl (congrArg (Prod.mk 1) (qB e)) (by kernel_rfl) rfl).trans (aQ.unpack (.store t n st) 1 0 (dK t n st) [] rfl rfl rfl rfl)) ?_
  have q:=KA t n x st s _ h;rw [<-e]at q;exact q
 rw [bK e]at h
 by_cases e:x.at'=1
 ·rw [e]at h;have h:(A4 t n x st s).run _:=h;refine aJ2 (root:=0) (pos:=[10,11,12,13,14,15,16,17,18]) (cs:=[(.cell 1 4,.ints (some .i64))]) (parse:=wG t n) (fin:=DqO.fin t n) kX ((aQ.unpack (.doer t n x) 0 1 (dW t n x) [1] rfl (congrArg (Prod.mk 1) (tL e)) (by kernel_rfl) rfl).trans (aQ.unpack (.store t n st) 1 0 (dK t n st) [] rfl rfl rfl rfl)) ?_
  have q:=KB t n x st s _ h;rw [<-e]at q;exact q
 rw [bK e]at h
 by_cases e:x.at'=2
 ·rw [e]at h;have h:(A5 t n x st s).run _:=h;refine aJ2 (root:=0) (pos:=[10,11,12,13,14,15,16,17,18]) (cs:=[(.cell 1 4,.ints (some .i64))]) (parse:=wG t n) (fin:=DqO.fin t n) kX ((aQ.unpack (.doer t n x) 0 1 (iF t n x) [1] rfl (congrArg (Prod.mk 1) (tM e)) (by kernel_rfl) rfl).trans (aQ.unpack (.store t n st) 1 0 (dK t n st) [] rfl rfl rfl rfl)) ?_
  have q:=KC t n x st s _ h;rw [<-e]at q;exact q
 rw [bK e]at h
 by_cases e:x.at'=3
 ·rw [e]at h;have h:(A6 t n x st s).run _:=h;refine aJ2 (root:=0) (pos:=[10,11,12,13,14,15,16,17,18]) (cs:=[(.cell 1 4,.ints (some .i64))]) (parse:=wG t n) (fin:=DqO.fin t n) kX ((aQ.unpack (.doer t n x) 0 1 (iH t n x) [1] rfl (congrArg (Prod.mk 1) (tN e)) (by kernel_rfl) rfl).trans (aQ.unpack (.store t n st) 1 0 (dK t n st) [] rfl rfl rfl rfl)) ?_
  have q:=KD t n x st s _ h;rw [<-e]at q;exact q
 rw [bK e]at h
 by_cases e:x.at'=4
 ·rw [e]at h;have h:(A7 t n x st s).run _:=h;refine aJ2 (root:=0) (pos:=[10,11,12,13,14,15,16,17,18]) (cs:=[(.cell 1 4,.ints (some .i64))]) (parse:=wG t n) (fin:=DqO.fin t n) kX ((aQ.unpack (.doer t n x) 0 1 (iC t n x) [1] rfl (congrArg (Prod.mk 1) (tO e)) (by kernel_rfl) rfl).trans (aQ.unpack (.store t n st) 1 0 (dK t n st) [] rfl rfl rfl rfl)) ?_
  have q:=KE t n x st s _ h;rw [<-e]at q;exact q
 rw [bK e]at h
 by_cases e:x.at'=5
 ·rw [e]at h;have h:(A8 t n x st s).run _:=h;refine aJ2 (root:=0) (pos:=[10,11,12,13,14,15,16,17,18]) (cs:=[(.cell 1 4,.ints (some .i64))]) (parse:=wG t n) (fin:=DqO.fin t n) kX ((aQ.unpack (.doer t n x) 0 1 (dW t n x) [1] rfl (congrArg (Prod.mk 1) (tP e)) (by kernel_rfl) rfl).trans (aQ.unpack (.store t n st) 1 0 (dK t n st) [] rfl rfl rfl rfl)) ?_
  have q:=KF t n x st s _ h;rw [<-e]at q;exact q
 rw [bK e]at h
 by_cases e:x.at'=6
 ·rw [e]at h;have h:(A9 t n x st s).run _:=h;refine aJ2 (root:=0) (pos:=[10,11,12,13,14,15,16,17,18]) (cs:=[(.cell 1 4,.ints (some .i64))]) (parse:=wG t n) (fin:=DqO.fin t n) kX ((aQ.unpack (.doer t n x) 0 1 (iD t n x) [1] rfl (congrArg (Prod.mk 1) (tQ e)) (by kernel_rfl) rfl).trans (aQ.unpack (.store t n st) 1 0 (dK t n st) [] rfl rfl rfl rfl)) ?_
  have q:=KG t n x st s _ h;rw [<-e]at q;exact q
 rw [bK e]at h
 by_cases e:x.at'=7
 ·rw [e]at h;have h:(BA t n x st s).run _:=h;refine aJ2 (root:=0) (pos:=[10,11,12,13,14,15,16,17,18]) (cs:=[(.cell 1 4,.ints (some .i64))]) (parse:=wG t n) (fin:=DqO.fin t n) kX ((aQ.unpack (.doer t n x) 0 1 (iG t n x) [1] rfl (congrArg (Prod.mk 1) (tR e)) (by kernel_rfl) rfl).trans (aQ.unpack (.store t n st) 1 0 (dK t n st) [] rfl rfl rfl rfl)) ?_
  have q:=KH t n x st s _ h;rw [<-e]at q;exact q
 rw [bK e]at h
 by_cases e:x.at'=8
 ·rw [e]at h;have h:(BB t n x st s).run _:=h;refine aJ2 (root:=0) (pos:=[10,11,12,13,14,15,16,17,18]) (cs:=[(.cell 1 4,.ints (some .i64))]) (parse:=wG t n) (fin:=DqO.fin t n) kX ((aQ.unpack (.doer t n x) 0 1 (iE t n x) [1] rfl (congrArg (Prod.mk 1) (tS e)) (by kernel_rfl) rfl).trans (aQ.unpack (.store t n st) 1 0 (dK t n st) [] rfl rfl rfl rfl)) ?_
  have q:=KI t n x st s _ h;rw [<-e]at q;exact q
 rw [bK e]at h
 by_cases e:x.at'=9
 ·rw [e]at h;have h:(BC t n x st s).run _:=h;refine aJ2 (root:=0) (pos:=[10,11,12,13,14,15,16,17,18]) (cs:=[(.cell 1 4,.ints (some .i64))]) (parse:=wG t n) (fin:=DqO.fin t n) kX ((aQ.unpack (.doer t n x) 0 1 (iI t n x) [1] rfl (congrArg (Prod.mk 1) (tT e)) (by kernel_rfl) rfl).trans (aQ.unpack (.store t n st) 1 0 (dK t n st) [] rfl rfl rfl rfl)) ?_
  have q:=KJ t n x st s _ h;rw [<-e]at q;exact q
 rw [bK e]at h;exact h.1.elim
noncomputable def dqSA:aH Ob:=fun args h=>match args,h with
 | [.ptr 0 0,.ptr 2 0],[some (.abs (.doer t n x) [1]),some (.abs (.store t2 n2 st) []),e3,e4]=>(match cJ 3 [e3,e4]with
   | some (l,s)=>some (.pre ((l=s.xs.length/\t2=t/\n2=n)/\VZ t n x st s) (DqO.fin t n (tE t n x st s)))
   | none=>none)
 | _,_=>none
theorem aCw:sT' 104 dqSA:=by
 intro args h o ho K hK;unfold dqSA at ho;split at ho
 case h_2=>cases ho
 split at ho<;>cases ho
 rename_i hm;obtain⟨⟨⟨hl,rfl,rfl⟩,ok⟩,hK⟩:=hK;cases aZ hm hl;exact HX _ _ _ _ _ K (aJ5 ok hK)
def DqO.finB(t n:Int)(y:DqO):Out Ob:=.ite y.d (.ret (.bool true) ([cE' [.ptr 1 0,.I y.x.code,.bool y.x.okk,.I y.x.val,.bool y.x.slow,.I y.x.sh,.I y.x.kd,.I y.x.ky,.I y.x.limit,.I y.x.at',.O,.O,.O,.O,.O,.O,.O,.O,.O],gW 5 t n y.st,none,aX 4 y.s,aY y.s,gX y.st])) (.ret (.bool false) [some (.abs (.doer t n y.x) [1]),gW 5 t n y.st,none,aX 4 y.s,aY y.s,gX y.st])
noncomputable def dqSB:aH Ob:=fun args h=>match args,h with
 | [.ptr 0 0,.ptr 3 0],[some (.abs (.doer t n x) [1]),e1,e2,e3,e4]=>(match lB 2 [e1,e2],cJ 4 [e3,e4]with
   | some (l2,t2,n2,st),some (l,s)=>some (.pre ((l=s.xs.length/\l2=st.R.length/\t2=t/\n2=n)/\VZ t n x st s) (DqO.finB t n (tE t n x st s)))
   | _,_=>none)
 | _,_=>none
theorem aCx:sT' 104 dqSB:=by
 intro args h o ho K hK;unfold dqSB at ho;split at ho
 case h_2=>cases ho
 split at ho<;>cases ho
 rename_i hs hm;obtain⟨⟨⟨hl,hl2,rfl,rfl⟩,ok⟩,hK⟩:=hK;cases aZ hm hl;cases b9 hs hl2;exact jQ (fun ι hι=>by simp [aG.ren,aKg,AVal.ren,hι]) (fun ι hι=>by simp [aG.ren,hι]) (fun K hK=>HX _ _ _ _ _ K (aJ5 ok hK)) K hK
noncomputable def dqS:aH Ob:=aH.or dqSA dqSB
theorem aFU:sT' 104 dqS:=aKs aCw aCx
def aCj(t n:Int)(v:AVal)(g:aC Ob):Option (Prop×(DOS×STS)):=match v,g with
 | .ptr 2 0,[e1,e2,some (.cells [.ptr 0 0,.int .i64 code,.bool okk,.int .i64 val,.bool slow,.int .i64 sh,.int .i64 kd,.int .i64 ky,.int .i64 limit,.int .i64 at',.ptr 3 0,.O,.O,.O,.O,.O,.O,.O,.O]),some (.abs (.head t' n' sub) [])]=>(match lB 1 [e1,e2]with
   | some (l2,t2,n2,st)=>some ((t2=t/\n2=n/\l2=st.R.length)/\t'=t/\n'=n/\at'=0,⟨(⟨code,okk,val,slow,sh,kd,ky,limit,at',sub,cZ,bV,dC,⟨0,0,0,0,false,0⟩,⟨0,false,0,0⟩,bP,⟨0,0⟩,cX⟩:DOS),st⟩)
   | none=>none)
 | _,_=>none
abbrev VX(t n:Int)(y:(DOS×STS)):aC Ob:=[gW 1 t n y.2,gX y.2,some (.abs (.doer t n y.1) [0])]
theorem VY{t n:Int} :bO (obI tbl) 2 (aCj t n) (fun y=>.ret (.ptr 2 0) (VX t n y)):=by
 intro v g p x hp hq K hK;unfold aCj at hp;split at hp
 case h_2=>cases hp
 rename_i e1 e2 code okk val slow sh kd ky limit at' t' n' sub;split at hp
 case h_2=>cases hp
 rename_i l2 t2 n2 st hs;cases hp;obtain⟨⟨rfl,rfl,hl2⟩,rfl,rfl,hat⟩:=hq;cases b9 hs hl2;exact let X0:DOS:=⟨code,okk,val,slow,sh,kd,ky,limit,at',sub,cZ,bV,dC,⟨0,0,0,0,false,0⟩,⟨0,false,0,0⟩,bP,⟨0,0⟩,cX⟩;⟨⟨_,_,aF.pack (VX t' n' (X0,st)) (.doer t' n' X0) 2 1 (f9 t' n' X0) [0] (by kernel_rfl) rfl (congrArg (Prod.mk 1) (qB hat)) (by kernel_rfl),hK⟩⟩
def O6(t n:Int)(sh kd ky lim:Int)(st:STS):Tr (DOS×STS):=.pre (QG t n/\True) (.pre ((t=t/\n=n/\lE' st.3)/\t=t/\n=n/\(0:Int)=(0:Int)) (.ret ({code:=0,okk:=false,val:=0,slow:=false,sh:=sh,kd:=kd,ky:=ky,limit:=lim,at':=0,hd:=aDJ t n,hp:=cZ,en:=bV,ft:=dC,an:=d8,aw:=d9,fn:=bP,dr:=eX,sw:=cX},st)))
def dqNF(t n:Int)(sh kd ky lim:Int)(st:STS):(DOS×STS):=(O6 t n sh kd ky lim st).val
def O5(t n:Int)(sh kd ky lim:Int)(st:STS):Prop:=(O6 t n sh kd ky lim st).ok
def dqNS:aH Ob:=fun args h=>match args,h with
 | [.ptr 0 0,.agg [.int .i64 sh,.int .i64 kd,.int .i64 ky],.int .i64 lim],[e1,e2]=>(match lB 1 [e1,e2]with
   | some (l2,t,n,st)=>some (.pre (l2=st.R.length/\O5 t n sh kd ky lim st) (.ret (.ptr 2 0) (VX t n (dqNF t n sh kd ky lim st))))
   | none=>none)
 | _,_=>none
theorem FI:sT' 103 dqNS:=by
 intro args h o ho K hK;unfold dqNS at ho;split at ho
 case h_2=>cases ho
 rename_i sh kd ky lim e1 e2;split at ho<;>cases ho
 rename_i l2 t n st hs;obtain⟨⟨hl2,ok⟩,hK⟩:=hK;cases b9 hs hl2;refine aKf (root:=2) (pos:=[10,11,12,13,14,15,16,17,18]) (cs:=[]) (parse:=aCj t n) VY ?_;exact cM' (E:=EH) (q:=(O6 t n sh kd ky lim st).run (fun y=>(Out.ret (.ptr 2 0) (VX t n y)).run K)) (by kernel_rfl) (aJ5 ok hK)
noncomputable def ED:=((EH.addS 104 dqS aFU).addS 103 dqNS FI)
end Go.Sh
