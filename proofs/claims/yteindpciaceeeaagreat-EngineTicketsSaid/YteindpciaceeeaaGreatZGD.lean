import Derived.Test.YteindpciaceeeaaGreatZGC6toGH
set_option linter.all false
set_option maxHeartbeats 8000000
namespace Go.Sh
open Go Go.Proofs
variable [Con]
structure DqO where
 d:Bool
 x:DOS
 st:STS
 s:MS
instance:Inhabited DqO:=⟨⟨false,d3,⟨0,0,[]⟩,⟨0,0,[],0,0,0,0,0,false⟩⟩⟩
instance:Inhabited DOS:=⟨d3⟩
abbrev dqH(t n:Int)(x:DOS)(st:STS)(s:MS):aC Ob:=[some (.abs (.doer t n x) [1]),some (.abs (.store t n st) []),aZ 3 s,a8 s]
abbrev dqD(t n:Int)(x:DOS)(st:STS)(s:MS):aC Ob:=[cE' [.ptr 1 0,.I x.code,.bool x.okk,.I x.val,.bool x.slow,.I x.sh,.I x.kd,.I x.ky,.I x.limit,.I x.at',.O,.O,.O,.O,.O,.O,.O,.O,.O],some (.abs (.store t n st) []),aZ 3 s,a8 s]
def DqO.fin(t n:Int)(y:DqO):Out Ob:=.ite y.d (.ret (.bool true) (dqD t n y.x y.st y.s)) (.ret (.bool false) (dqH t n y.x y.st y.s))
def aAu(t n:Int)(v:AVal)(g:aC Ob):Option (Prop×DqO):=match v,g with
 | .bool d,[some (.cells [.ptr 1 0,.int .i64 code,.bool okk,.int .i64 val,.bool slow,.int .i64 sh,.int .i64 kd,.int .i64 ky,.int .i64 limit,.int .i64 at',.O,.O,.O,.O,.O,.O,.O,.O,.O]),e1,e3,e4,e2]=>(match k9 4 [e1,e2],cH 3 [e3,e4]with
   | some (l2,t2,n2,st),some (l,s)=>some ((t2=t∧n2=n)∧(d=false→at'≠0∧at'≠1∧at'≠5∧at'≠2∧at'≠3∧at'≠4∧at'≠6∧at'≠7∧at'≠8∧at'≠9)∧l=s.xs.length∧l2=st.R.length,⟨d,⟨code,okk,val,slow,sh,kd,ky,limit,at',⟨0,0,0,false⟩,dB,bV,dC,⟨0,0,0,0,false,0⟩,⟨0,false,0,0⟩,bQ,⟨0,0⟩,cU⟩,st,s⟩)
   | _,_=>none)
 | _,_=>none
def aAv(t n:Int)(v:AVal)(g:aC Ob):Option (Prop×DqO):=match v,g with
 | .bool d,[some (.cells [.ptr 1 0,.int .i64 code,.bool okk,.int .i64 val,.bool slow,.int .i64 sh,.int .i64 kd,.int .i64 ky,.int .i64 limit,.int .i64 at',.ptr 4 0,.O,.O,.O,.O,.O,.O,.O,.O]),e1,e3,e4,some (.abs (.head t' n' sub) []),e2]=>(match k9 5 [e1,e2],cH 3 [e3,e4]with
   | some (l2,t2,n2,st),some (l,s)=>some ((t2=t∧n2=n)∧t'=t∧n'=n∧(d=false→at'=0)∧l=s.xs.length∧l2=st.R.length,⟨d,⟨code,okk,val,slow,sh,kd,ky,limit,at',sub,dB,bV,dC,⟨0,0,0,0,false,0⟩,⟨0,false,0,0⟩,bQ,⟨0,0⟩,cU⟩,st,s⟩)
   | _,_=>none)
 | _,_=>none
def aAw(t n:Int)(v:AVal)(g:aC Ob):Option (Prop×DqO):=match v,g with
 | .bool d,[some (.cells [.ptr 1 0,.int .i64 code,.bool okk,.int .i64 val,.bool slow,.int .i64 sh,.int .i64 kd,.int .i64 ky,.int .i64 limit,.int .i64 at',.O,.ptr 4 0,.O,.O,.O,.O,.O,.O,.O]),e1,e3,e4,some (.abs (.help t' n' sub) [1]),e2]=>(match k9 5 [e1,e2],cH 3 [e3,e4]with
   | some (l2,t2,n2,st),some (l,s)=>some ((t2=t∧n2=n)∧t'=t∧n'=n∧(d=false→at'=1∨at'=5)∧l=s.xs.length∧l2=st.R.length,⟨d,⟨code,okk,val,slow,sh,kd,ky,limit,at',⟨0,0,0,false⟩,sub,bV,dC,⟨0,0,0,0,false,0⟩,⟨0,false,0,0⟩,bQ,⟨0,0⟩,cU⟩,st,s⟩)
   | _,_=>none)
 | _,_=>none
def aAx(t n:Int)(v:AVal)(g:aC Ob):Option (Prop×DqO):=match v,g with
 | .bool d,[some (.cells [.ptr 1 0,.int .i64 code,.bool okk,.int .i64 val,.bool slow,.int .i64 sh,.int .i64 kd,.int .i64 ky,.int .i64 limit,.int .i64 at',.O,.O,.ptr 4 0,.O,.O,.O,.O,.O,.O]),e1,e3,e4,some (.abs (.ensure t' n' sub) [1]),e2]=>(match k9 5 [e1,e2],cH 3 [e3,e4]with
   | some (l2,t2,n2,st),some (l,s)=>some ((t2=t∧n2=n)∧t'=t∧n'=n∧(d=false→at'=2)∧l=s.xs.length∧l2=st.R.length,⟨d,⟨code,okk,val,slow,sh,kd,ky,limit,at',⟨0,0,0,false⟩,dB,sub,dC,⟨0,0,0,0,false,0⟩,⟨0,false,0,0⟩,bQ,⟨0,0⟩,cU⟩,st,s⟩)
   | _,_=>none)
 | _,_=>none
def aAy(t n:Int)(v:AVal)(g:aC Ob):Option (Prop×DqO):=match v,g with
 | .bool d,[some (.cells [.ptr 1 0,.int .i64 code,.bool okk,.int .i64 val,.bool slow,.int .i64 sh,.int .i64 kd,.int .i64 ky,.int .i64 limit,.int .i64 at',.O,.O,.O,.ptr 4 0,.O,.O,.O,.O,.O]),e1,e3,e4,some (.abs (.fast t' n' sub) [1]),e2]=>(match k9 5 [e1,e2],cH 3 [e3,e4]with
   | some (l2,t2,n2,st),some (l,s)=>some ((t2=t∧n2=n)∧t'=t∧n'=n∧(d=false→at'=3)∧l=s.xs.length∧l2=st.R.length,⟨d,⟨code,okk,val,slow,sh,kd,ky,limit,at',⟨0,0,0,false⟩,dB,bV,sub,⟨0,0,0,0,false,0⟩,⟨0,false,0,0⟩,bQ,⟨0,0⟩,cU⟩,st,s⟩)
   | _,_=>none)
 | _,_=>none
def aAz(t n:Int)(v:AVal)(g:aC Ob):Option (Prop×DqO):=match v,g with
 | .bool d,[some (.cells [.ptr 1 0,.int .i64 code,.bool okk,.int .i64 val,.bool slow,.int .i64 sh,.int .i64 kd,.int .i64 ky,.int .i64 limit,.int .i64 at',.O,.O,.O,.O,.ptr 4 0,.O,.O,.O,.O]),e1,e3,e4,some (.abs (.announce t' n' sub) []),e2]=>(match k9 5 [e1,e2],cH 3 [e3,e4]with
   | some (l2,t2,n2,st),some (l,s)=>some ((t2=t∧n2=n)∧t'=t∧n'=n∧(d=false→at'=4)∧l=s.xs.length∧l2=st.R.length,⟨d,⟨code,okk,val,slow,sh,kd,ky,limit,at',⟨0,0,0,false⟩,dB,bV,dC,sub,⟨0,false,0,0⟩,bQ,⟨0,0⟩,cU⟩,st,s⟩)
   | _,_=>none)
 | _,_=>none
def aAA(t n:Int)(v:AVal)(g:aC Ob):Option (Prop×DqO):=match v,g with
 | .bool d,[some (.cells [.ptr 1 0,.int .i64 code,.bool okk,.int .i64 val,.bool slow,.int .i64 sh,.int .i64 kd,.int .i64 ky,.int .i64 limit,.int .i64 at',.O,.O,.O,.O,.O,.ptr 4 0,.O,.O,.O]),e1,e3,e4,some (.abs (.answer t' n' sub) []),e2]=>(match k9 5 [e1,e2],cH 3 [e3,e4]with
   | some (l2,t2,n2,st),some (l,s)=>some ((t2=t∧n2=n)∧t'=t∧n'=n∧(d=false→at'=6)∧l=s.xs.length∧l2=st.R.length,⟨d,⟨code,okk,val,slow,sh,kd,ky,limit,at',⟨0,0,0,false⟩,dB,bV,dC,⟨0,0,0,0,false,0⟩,sub,bQ,⟨0,0⟩,cU⟩,st,s⟩)
   | _,_=>none)
 | _,_=>none
def aAB(t n:Int)(v:AVal)(g:aC Ob):Option (Prop×DqO):=match v,g with
 | .bool d,[some (.cells [.ptr 1 0,.int .i64 code,.bool okk,.int .i64 val,.bool slow,.int .i64 sh,.int .i64 kd,.int .i64 ky,.int .i64 limit,.int .i64 at',.O,.O,.O,.O,.O,.O,.ptr 4 0,.O,.O]),e1,e3,e4,some (.abs (.find t' n' sub) []),e2]=>(match k9 5 [e1,e2],cH 3 [e3,e4]with
   | some (l2,t2,n2,st),some (l,s)=>some ((t2=t∧n2=n)∧t'=t∧n'=n∧(d=false→at'=7)∧l=s.xs.length∧l2=st.R.length,⟨d,⟨code,okk,val,slow,sh,kd,ky,limit,at',⟨0,0,0,false⟩,dB,bV,dC,⟨0,0,0,0,false,0⟩,⟨0,false,0,0⟩,sub,⟨0,0⟩,cU⟩,st,s⟩)
   | _,_=>none)
 | _,_=>none
def aAC(t n:Int)(v:AVal)(g:aC Ob):Option (Prop×DqO):=match v,g with
 | .bool d,[some (.cells [.ptr 1 0,.int .i64 code,.bool okk,.int .i64 val,.bool slow,.int .i64 sh,.int .i64 kd,.int .i64 ky,.int .i64 limit,.int .i64 at',.O,.O,.O,.O,.O,.O,.O,.ptr 4 0,.O]),e1,e3,e4,some (.abs (.drop t' n' sub) []),e2]=>(match k9 5 [e1,e2],cH 3 [e3,e4]with
   | some (l2,t2,n2,st),some (l,s)=>some ((t2=t∧n2=n)∧t'=t∧n'=n∧(d=false→at'=8)∧l=s.xs.length∧l2=st.R.length,⟨d,⟨code,okk,val,slow,sh,kd,ky,limit,at',⟨0,0,0,false⟩,dB,bV,dC,⟨0,0,0,0,false,0⟩,⟨0,false,0,0⟩,bQ,sub,cU⟩,st,s⟩)
   | _,_=>none)
 | _,_=>none
def aAD(t n:Int)(v:AVal)(g:aC Ob):Option (Prop×DqO):=match v,g with
 | .bool d,[some (.cells [.ptr 1 0,.int .i64 code,.bool okk,.int .i64 val,.bool slow,.int .i64 sh,.int .i64 kd,.int .i64 ky,.int .i64 limit,.int .i64 at',.O,.O,.O,.O,.O,.O,.O,.O,.ptr 4 0]),e1,e3,e4,some (.abs (.sweep t' n' sub) [1]),e2]=>(match k9 5 [e1,e2],cH 3 [e3,e4]with
   | some (l2,t2,n2,st),some (l,s)=>some ((t2=t∧n2=n)∧t'=t∧n'=n∧(d=false→at'=9)∧l=s.xs.length∧l2=st.R.length,⟨d,⟨code,okk,val,slow,sh,kd,ky,limit,at',⟨0,0,0,false⟩,dB,bV,dC,⟨0,0,0,0,false,0⟩,⟨0,false,0,0⟩,bQ,⟨0,0⟩,sub⟩,st,s⟩)
   | _,_=>none)
 | _,_=>none
def vG(t n:Int)(v:AVal)(g:aC Ob):Option (Prop×DqO):=(match aAu t n v g with
 | some r=>some r
 | none=>(match aAv t n v g with
 | some r=>some r
 | none=>(match aAw t n v g with
 | some r=>some r
 | none=>(match aAx t n v g with
 | some r=>some r
 | none=>(match aAy t n v g with
 | some r=>some r
 | none=>(match aAz t n v g with
 | some r=>some r
 | none=>(match aAA t n v g with
 | some r=>some r
 | none=>(match aAB t n v g with
 | some r=>some r
 | none=>(match aAC t n v g with
 | some r=>some r
 | none=>aAD t n v g)))))))))
theorem TD{t n:Int} :bM (obI tbl) 4 (aAu t n) (DqO.fin t n):=by
 intro v g p x hp hq K hK;unfold aAu at hp;split at hp
 case h_2=>cases hp
 rename_i d code okk val slow sh kd ky limit at' e1 e3 e4 e2;split at hp
 case h_2=>cases hp
 rename_i l2 t2 n2 st l s hs hm;cases hp;obtain⟨⟨rfl,rfl⟩,hat,hl,hl2⟩:=hq;cases aY hm hl;cases b8 hs hl2;refine eU hK (fun h=>?_) (fun hd h=>?_)
 ·exact ZL h (.store t2 n2 st) 1 0 (dN t2 n2 st) []
 ·exact vJ h (.store t2 n2 st) 1 0 (dN t2 n2 st) [] 0 [1] rfl (congrArg (Prod.mk 1) (tU (hat hd)))
theorem TE{t n:Int} :bM (obI tbl) 4 (aAv t n) (DqO.fin t n):=by
 intro v g p x hp hq K hK;unfold aAv at hp;split at hp
 case h_2=>cases hp
 rename_i d code okk val slow sh kd ky limit at' e1 e3 e4 t' n' sub e2;split at hp
 case h_2=>cases hp
 rename_i l2 t2 n2 st l s hs hm;cases hp;obtain⟨⟨rfl,rfl⟩,rfl,rfl,hat,hl,hl2⟩:=hq;cases aY hm hl;cases b8 hs hl2;refine eU hK (fun h=>?_) (fun hd h=>?_)
 ·exact sL h [10,11,12,13,14,15,16,17,18] [0,1,2,3,5] (.store t' n' st) 1 0 (dN t' n' st) []
 ·exact vJ h (.store t' n' st) 1 0 (dN t' n' st) [] 0 [1] rfl (congrArg (Prod.mk 1) (pM (hat hd)))
theorem TF{t n:Int} :bM (obI tbl) 4 (aAw t n) (DqO.fin t n):=by
 intro v g p x hp hq K hK;unfold aAw at hp;split at hp
 case h_2=>cases hp
 rename_i d code okk val slow sh kd ky limit at' e1 e3 e4 t' n' sub e2;split at hp
 case h_2=>cases hp
 rename_i l2 t2 n2 st l s hs hm;cases hp;obtain⟨⟨rfl,rfl⟩,rfl,rfl,hat,hl,hl2⟩:=hq;cases aY hm hl;cases b8 hs hl2;refine eU hK (fun h=>?_) (fun hd h=>?_)
 ·exact sL h [10,11,12,13,14,15,16,17,18] [0,1,2,3,5] (.store t' n' st) 1 0 (dN t' n' st) []
 ·rcases hat hd with hat | hat
  ·exact vJ h (.store t' n' st) 1 0 (dN t' n' st) [] 0 [1] rfl (congrArg (Prod.mk 1) (sS hat))
  ·exact vJ h (.store t' n' st) 1 0 (dN t' n' st) [] 0 [1] rfl (congrArg (Prod.mk 1) (sW hat))
theorem TG{t n:Int} :bM (obI tbl) 4 (aAx t n) (DqO.fin t n):=by
 intro v g p x hp hq K hK;unfold aAx at hp;split at hp
 case h_2=>cases hp
 rename_i d code okk val slow sh kd ky limit at' e1 e3 e4 t' n' sub e2;split at hp
 case h_2=>cases hp
 rename_i l2 t2 n2 st l s hs hm;cases hp;obtain⟨⟨rfl,rfl⟩,rfl,rfl,hat,hl,hl2⟩:=hq;cases aY hm hl;cases b8 hs hl2;refine eU hK (fun h=>?_) (fun hd h=>?_)
 ·exact sL h [10,11,12,13,14,15,16,17,18] [0,1,2,3,5] (.store t' n' st) 1 0 (dN t' n' st) []
 ·exact vJ h (.store t' n' st) 1 0 (dN t' n' st) [] 0 [1] rfl (congrArg (Prod.mk 1) (sT (hat hd)))
theorem TH{t n:Int} :bM (obI tbl) 4 (aAy t n) (DqO.fin t n):=by
 intro v g p x hp hq K hK;unfold aAy at hp;split at hp
 case h_2=>cases hp
 rename_i d code okk val slow sh kd ky limit at' e1 e3 e4 t' n' sub e2;split at hp
 case h_2=>cases hp
 rename_i l2 t2 n2 st l s hs hm;cases hp;obtain⟨⟨rfl,rfl⟩,rfl,rfl,hat,hl,hl2⟩:=hq;cases aY hm hl;cases b8 hs hl2;refine eU hK (fun h=>?_) (fun hd h=>?_)
 ·exact sL h [10,11,12,13,14,15,16,17,18] [0,1,2,3,5] (.store t' n' st) 1 0 (dN t' n' st) []
 ·exact vJ h (.store t' n' st) 1 0 (dN t' n' st) [] 0 [1] rfl (congrArg (Prod.mk 1) (sU (hat hd)))
theorem TI{t n:Int} :bM (obI tbl) 4 (aAz t n) (DqO.fin t n):=by
 intro v g p x hp hq K hK;unfold aAz at hp;split at hp
 case h_2=>cases hp
 rename_i d code okk val slow sh kd ky limit at' e1 e3 e4 t' n' sub e2;split at hp
 case h_2=>cases hp
 rename_i l2 t2 n2 st l s hs hm;cases hp;obtain⟨⟨rfl,rfl⟩,rfl,rfl,hat,hl,hl2⟩:=hq;cases aY hm hl;cases b8 hs hl2;refine eU hK (fun h=>?_) (fun hd h=>?_)
 ·exact sL h [10,11,12,13,14,15,16,17,18] [0,1,2,3,5] (.store t' n' st) 1 0 (dN t' n' st) []
 ·exact vJ h (.store t' n' st) 1 0 (dN t' n' st) [] 0 [1] rfl (congrArg (Prod.mk 1) (sV (hat hd)))
theorem TJ{t n:Int} :bM (obI tbl) 4 (aAA t n) (DqO.fin t n):=by
 intro v g p x hp hq K hK;unfold aAA at hp;split at hp
 case h_2=>cases hp
 rename_i d code okk val slow sh kd ky limit at' e1 e3 e4 t' n' sub e2;split at hp
 case h_2=>cases hp
 rename_i l2 t2 n2 st l s hs hm;cases hp;obtain⟨⟨rfl,rfl⟩,rfl,rfl,hat,hl,hl2⟩:=hq;cases aY hm hl;cases b8 hs hl2;refine eU hK (fun h=>?_) (fun hd h=>?_)
 ·exact sL h [10,11,12,13,14,15,16,17,18] [0,1,2,3,5] (.store t' n' st) 1 0 (dN t' n' st) []
 ·exact vJ h (.store t' n' st) 1 0 (dN t' n' st) [] 0 [1] rfl (congrArg (Prod.mk 1) (sX (hat hd)))
theorem TK{t n:Int} :bM (obI tbl) 4 (aAB t n) (DqO.fin t n):=by
 intro v g p x hp hq K hK;unfold aAB at hp;split at hp
 case h_2=>cases hp
 rename_i d code okk val slow sh kd ky limit at' e1 e3 e4 t' n' sub e2;split at hp
 case h_2=>cases hp
 rename_i l2 t2 n2 st l s hs hm;cases hp;obtain⟨⟨rfl,rfl⟩,rfl,rfl,hat,hl,hl2⟩:=hq;cases aY hm hl;cases b8 hs hl2;refine eU hK (fun h=>?_) (fun hd h=>?_)
 ·exact sL h [10,11,12,13,14,15,16,17,18] [0,1,2,3,5] (.store t' n' st) 1 0 (dN t' n' st) []
 ·exact vJ h (.store t' n' st) 1 0 (dN t' n' st) [] 0 [1] rfl (congrArg (Prod.mk 1) (sY (hat hd)))
theorem TL{t n:Int} :bM (obI tbl) 4 (aAC t n) (DqO.fin t n):=by
 intro v g p x hp hq K hK;unfold aAC at hp;split at hp
 case h_2=>cases hp
 rename_i d code okk val slow sh kd ky limit at' e1 e3 e4 t' n' sub e2;split at hp
 case h_2=>cases hp
 rename_i l2 t2 n2 st l s hs hm;cases hp;obtain⟨⟨rfl,rfl⟩,rfl,rfl,hat,hl,hl2⟩:=hq;cases aY hm hl;cases b8 hs hl2;refine eU hK (fun h=>?_) (fun hd h=>?_)
 ·exact sL h [10,11,12,13,14,15,16,17,18] [0,1,2,3,5] (.store t' n' st) 1 0 (dN t' n' st) []
 ·exact vJ h (.store t' n' st) 1 0 (dN t' n' st) [] 0 [1] rfl (congrArg (Prod.mk 1) (sZ (hat hd)))
theorem TM{t n:Int} :bM (obI tbl) 4 (aAD t n) (DqO.fin t n):=by
 intro v g p x hp hq K hK;unfold aAD at hp;split at hp
 case h_2=>cases hp
 rename_i d code okk val slow sh kd ky limit at' e1 e3 e4 t' n' sub e2;split at hp
 case h_2=>cases hp
 rename_i l2 t2 n2 st l s hs hm;cases hp;obtain⟨⟨rfl,rfl⟩,rfl,rfl,hat,hl,hl2⟩:=hq;cases aY hm hl;cases b8 hs hl2;refine eU hK (fun h=>?_) (fun hd h=>?_)
 ·exact sL h [10,11,12,13,14,15,16,17,18] [0,1,2,3,5] (.store t' n' st) 1 0 (dN t' n' st) []
 ·exact vJ h (.store t' n' st) 1 0 (dN t' n' st) [] 0 [1] rfl (congrArg (Prod.mk 1) (s5 (hat hd)))
theorem kT{t n:Int} :bM (obI tbl) 4 (vG t n) (DqO.fin t n):=by
 intro v g p x hp hq K hK;unfold vG at hp;split at hp
 ·rename_i r hr;cases hp;exact TD v g p x hr hq K hK
 split at hp
 ·rename_i r hr;cases hp;exact TE v g p x hr hq K hK
 split at hp
 ·rename_i r hr;cases hp;exact TF v g p x hr hq K hK
 split at hp
 ·rename_i r hr;cases hp;exact TG v g p x hr hq K hK
 split at hp
 ·rename_i r hr;cases hp;exact TH v g p x hr hq K hK
 split at hp
 ·rename_i r hr;cases hp;exact TI v g p x hr hq K hK
 split at hp
 ·rename_i r hr;cases hp;exact TJ v g p x hr hq K hK
 split at hp
 ·rename_i r hr;cases hp;exact TK v g p x hr hq K hK
 split at hp
 ·rename_i r hr;cases hp;exact TL v g p x hr hq K hK
 exact TM v g p x hp hq K hK
abbrev w26:=false=false→(3:Int)=(3:Int)
abbrev w27(n:Int)(s:MS)(st:STS)(t:Int)(x:DOS):Tr DqO:=.ret {d:=false,x:= {x with at':=3,hd:=dX,hp:=dB,en:=bV,ft:=(jQ t n x.5 x.6 x.7 x.8 st).1,an:=dV,aw:=dW,fn:=bQ,dr:=eP,sw:=cU},st:=(jQ t n x.5 x.6 x.7 x.8 st).2,s:=(pD t n x.10 s).3}
abbrev w28(x:DOS):=!bS x.5 x.6 x.7
abbrev w2b:=false=false→(2:Int)=(2:Int)
abbrev w2d(n:Int)(s:MS)(st:STS)(t:Int)(x:DOS):=vQ t n (HdO.x (pD t n x.10 s)).1 (HdO.x (pD t n x.10 s)).2 x.8 st
abbrev w2e:=false=false→(1:Int)=(1:Int)∨(1:Int)=(5:Int)
def AC(t n:Int)(x:DOS)(st:STS)(s:MS):Tr DqO:=.pre True (.ite (w28 x) (.pre (lE' s.3∧(0:Int)≤s.4∧s.4≤(4611686018427387904:Int)) (.pre ((t=t∧n=n)∧t=t∧n=n∧(true=false→(0:Int)=(0:Int))∧lE' s.3∧lE' st.3) (.ret {d:=true,x:= {x with code:=1,okk:=false,val:=0,at':=0,hp:=dB,en:=bV,ft:=dC,an:=dV,aw:=dW,fn:=bQ,dr:=eP,sw:=cU},st:=st,s:= {s with c:=s.4+1,k:=1,a:=0,o:=aD s.3 0,w:=aD s.3 0,ok:=bL s.3 0} }))) (.pre (lE' s.3∧aBU t n x.10 s) (.ite (pD t n x.10 s).1 (.ite (ilt (HdO.x (pD t n x.10 s)).1 0) (.pre True (.ite (fK x.6) (.ite (ieq st.2 0) (.pre (lE' st.3∧(t=t∧n=n∧lE' st.3)∧True) (.pre ((t=t∧n=n)∧t=t∧n=n∧w2b∧lE' (HdO.s (pD t n x.10 s)).3∧lE' st.3) (.ret {d:=false,x:= {x with at':=2,hd:=dX,hp:=dB,en:=bV,ft:=dC,an:=dV,aw:=dW,fn:=bQ,dr:=eP,sw:=cU},st:=st,s:=(pD t n x.10 s).3}))) (.pre ((lE' st.3∧uA t n x.5 x.6 x.7 x.8 st)∧True) (.pre ((t=t∧n=n)∧t=t∧n=n∧w26∧lE' (HdO.s (pD t n x.10 s)).3∧lE' (Prod.snd (jQ t n x.5 x.6 x.7 x.8 st)).3) (w27 n s st t x)))) (.pre ((lE' st.3∧uA t n x.5 x.6 x.7 x.8 st)∧True) (.pre ((t=t∧n=n)∧t=t∧n=n∧w26∧lE' (HdO.s (pD t n x.10 s)).3∧lE' (Prod.snd (jQ t n x.5 x.6 x.7 x.8 st)).3) (w27 n s st t x))))) (.pre ((lE' st.3∧BL t n (HdO.x (pD t n x.10 s)).1 (HdO.x (pD t n x.10 s)).2 x.8 st)∧True) (.pre ((t=t∧n=n)∧t=t∧n=n∧w2e∧lE' (HdO.s (pD t n x.10 s)).3∧lE' (Prod.snd (w2d n s st t x)).3) (.ret {d:=false,x:= {x with at':=1,hd:=dX,hp:=(w2d n s st t x).1,en:=bV,ft:=dC,an:=dV,aw:=dW,fn:=bQ,dr:=eP,sw:=cU},st:=(w2d n s st t x).2,s:=(pD t n x.10 s).3})))) (.pre ((t=t∧n=n)∧t=t∧n=n∧(false=false→(0:Int)=(0:Int))∧lE' (HdO.s (pD t n x.10 s)).3∧lE' st.3) (.ret {d:=false,x:= {x with at':=0,hd:=(pD t n x.10 s).2,hp:=dB,en:=bV,ft:=dC,an:=dV,aw:=dW,fn:=bQ,dr:=eP,sw:=cU},st:=st,s:=(pD t n x.10 s).3})))))
theorem IY(t n:Int)(x:DOS)(st:STS)(s:MS)(K:DqO→Prop)(h:(AC t n x st s).run K):cT' 104 [.ptr 0 0,.ptr 2 0] [cE' [.ptr 1 0,.I x.code,.bool x.okk,.I x.val,.bool x.slow,.I x.sh,.I x.kd,.I x.ky,.I x.limit,.I 0,.ptr 4 0,.O,.O,.O,.O,.O,.O,.O,.O],iP 5 t n st,aZ 3 s,a8 s,some (.abs (.head t n x.hd) []),iQ st] (bU 4 0 [10,11,12,13,14,15,16,17,18] [(.cell 1 4,.ints (some .i64))] (vG t n) K):=by
 exact cM' (E:=EH) (by kernel_rfl) h
abbrev w25(n:Int)(s:MS)(st:STS)(t:Int)(x:DOS):Tr DqO:=.ret {d:=false,x:= {x with at':=3,hd:=dX,hp:=dB,en:=bV,ft:=(jQ t n x.5 x.6 x.7 x.8 (gC t n x.11 st s).3).1,an:=dV,aw:=dW,fn:=bQ,dr:=eP,sw:=cU},st:=(jQ t n x.5 x.6 x.7 x.8 (gC t n x.11 st s).3).2,s:=(gC t n x.11 st s).4}
abbrev w2a(n:Int)(s:MS)(st:STS)(t:Int)(x:DOS):=HpO.st (gC t n x.11 st s)
def AD(t n:Int)(x:DOS)(st:STS)(s:MS):Tr DqO:=.pre True (.ite (w28 x) (.pre (lE' s.3∧(0:Int)≤s.4∧s.4≤(4611686018427387904:Int)) (.pre ((t=t∧n=n)∧t=t∧n=n∧(true=false→(1:Int)=(1:Int)∨(1:Int)=(5:Int))∧lE' s.3∧lE' st.3) (.ret {d:=true,x:= {x with code:=1,okk:=false,val:=0,at':=1,hd:=dX,en:=bV,ft:=dC,an:=dV,aw:=dW,fn:=bQ,dr:=eP,sw:=cU},st:=st,s:= {s with c:=s.4+1,k:=1,a:=0,o:=aD s.3 0,w:=aD s.3 0,ok:=bL s.3 0} }))) (.pre ((lE' s.3∧lE' st.3∧t=t∧n=n)∧O2 t n x.11 st s) (.ite (gC t n x.11 st s).1 (.pre True (.ite (fK x.6) (.ite (ieq (w2a n s st t x).2 0) (.pre (lE' (w2a n s st t x).3∧(t=t∧n=n∧lE' (w2a n s st t x).3)∧True) (.pre ((t=t∧n=n)∧t=t∧n=n∧w2b∧lE' (HpO.s (gC t n x.11 st s)).3∧lE' (w2a n s st t x).3) (.ret {d:=false,x:= {x with at':=2,hd:=dX,hp:=dB,en:=bV,ft:=dC,an:=dV,aw:=dW,fn:=bQ,dr:=eP,sw:=cU},st:=(gC t n x.11 st s).3,s:=(gC t n x.11 st s).4}))) (.pre ((lE' (w2a n s st t x).3∧uA t n x.5 x.6 x.7 x.8 (gC t n x.11 st s).3)∧True) (.pre ((t=t∧n=n)∧t=t∧n=n∧w26∧lE' (HpO.s (gC t n x.11 st s)).3∧lE' (Prod.snd (jQ t n x.5 x.6 x.7 x.8 (gC t n x.11 st s).3)).3) (w25 n s st t x)))) (.pre ((lE' (w2a n s st t x).3∧uA t n x.5 x.6 x.7 x.8 (gC t n x.11 st s).3)∧True) (.pre ((t=t∧n=n)∧t=t∧n=n∧w26∧lE' (HpO.s (gC t n x.11 st s)).3∧lE' (Prod.snd (jQ t n x.5 x.6 x.7 x.8 (gC t n x.11 st s).3)).3) (w25 n s st t x))))) (.pre ((t=t∧n=n)∧t=t∧n=n∧w2e∧lE' (HpO.s (gC t n x.11 st s)).3∧lE' (w2a n s st t x).3) (.ret {d:=false,x:= {x with at':=1,hd:=dX,hp:=(gC t n x.11 st s).2,en:=bV,ft:=dC,an:=dV,aw:=dW,fn:=bQ,dr:=eP,sw:=cU},st:=(gC t n x.11 st s).3,s:=(gC t n x.11 st s).4})))))
theorem IZ(t n:Int)(x:DOS)(st:STS)(s:MS)(K:DqO→Prop)(h:(AD t n x st s).run K):cT' 104 [.ptr 0 0,.ptr 2 0] [cE' [.ptr 1 0,.I x.code,.bool x.okk,.I x.val,.bool x.slow,.I x.sh,.I x.kd,.I x.ky,.I x.limit,.I 1,.O,.ptr 4 0,.O,.O,.O,.O,.O,.O,.O],iP 5 t n st,aZ 3 s,a8 s,some (.abs (.help t n x.hp) [1]),iQ st] (bU 4 0 [10,11,12,13,14,15,16,17,18] [(.cell 1 4,.ints (some .i64))] (vG t n) K):=by
 exact cM' (E:=EH) (by kernel_rfl) h
abbrev w23:=false=false→(8:Int)=(8:Int)
def AE(t n:Int)(x:DOS)(st:STS)(s:MS):Tr DqO:=.pre True (.ite (w28 x) (.pre (lE' s.3∧(0:Int)≤s.4∧s.4≤(4611686018427387904:Int)) (.pre ((t=t∧n=n)∧t=t∧n=n∧(true=false→(2:Int)=(2:Int))∧lE' s.3∧lE' st.3) (.ret {d:=true,x:= {x with code:=1,okk:=false,val:=0,at':=2,hd:=dX,hp:=dB,ft:=dC,an:=dV,aw:=dW,fn:=bQ,dr:=eP,sw:=cU},st:=st,s:= {s with c:=s.4+1,k:=1,a:=0,o:=aD s.3 0,w:=aD s.3 0,ok:=bL s.3 0} }))) (.pre ((lE' s.3∧lE' st.3∧t=t∧n=n)∧KO t n (DOS.en x) st s) (.ite (enF t n x.12 st s).1 (.ite (EO.e (enF t n x.12 st s)).2 (.pre (rT t n (EO.st (enF t n x.12 st s)).1∧True) (.pre ((t=t∧n=n)∧t=t∧n=n∧w23∧lE' (EO.s (enF t n x.12 st s)).3∧lE' (EO.st (enF t n x.12 st s)).3) (.ret {d:=false,x:= {x with code:=4,okk:=false,val:=0,at':=8,hd:=dX,hp:=dB,en:=bV,ft:=dC,an:=dV,aw:=dW,fn:=bQ,dr:=AN t n (EO.st (enF t n x.12 st s)).1,sw:=cU},st:=(enF t n x.12 st s).3,s:=(enF t n x.12 st s).4}))) (.pre ((lE' (EO.st (enF t n x.12 st s)).3∧uA t n x.5 x.6 x.7 x.8 (enF t n x.12 st s).3)∧True) (.pre ((t=t∧n=n)∧t=t∧n=n∧w26∧lE' (EO.s (enF t n x.12 st s)).3∧lE' (Prod.snd (jQ t n x.5 x.6 x.7 x.8 (enF t n x.12 st s).3)).3) (.ret {d:=false,x:= {x with at':=3,hd:=dX,hp:=dB,en:=bV,ft:=(jQ t n x.5 x.6 x.7 x.8 (enF t n x.12 st s).3).1,an:=dV,aw:=dW,fn:=bQ,dr:=eP,sw:=cU},st:=(jQ t n x.5 x.6 x.7 x.8 (enF t n x.12 st s).3).2,s:=(enF t n x.12 st s).4})))) (.pre ((t=t∧n=n)∧t=t∧n=n∧w2b∧lE' (EO.s (enF t n x.12 st s)).3∧lE' (EO.st (enF t n x.12 st s)).3) (.ret {d:=false,x:= {x with at':=2,hd:=dX,hp:=dB,en:=(enF t n x.12 st s).2,ft:=dC,an:=dV,aw:=dW,fn:=bQ,dr:=eP,sw:=cU},st:=(enF t n x.12 st s).3,s:=(enF t n x.12 st s).4})))))
theorem I0(t n:Int)(x:DOS)(st:STS)(s:MS)(K:DqO→Prop)(h:(AE t n x st s).run K):cT' 104 [.ptr 0 0,.ptr 2 0] [cE' [.ptr 1 0,.I x.code,.bool x.okk,.I x.val,.bool x.slow,.I x.sh,.I x.kd,.I x.ky,.I x.limit,.I 2,.O,.O,.ptr 4 0,.O,.O,.O,.O,.O,.O],iP 5 t n st,aZ 3 s,a8 s,some (.abs (.ensure t n x.en) [1]),iQ st] (bU 4 0 [10,11,12,13,14,15,16,17,18] [(.cell 1 4,.ints (some .i64))] (vG t n) K):=by
 exact cM' (E:=EH) (by kernel_rfl) h
abbrev w29(n:Int)(s:MS)(st:STS)(t:Int)(x:DOS):=FtO.st (gO t n x.13 st s)
abbrev w22(n:Int)(s:MS)(st:STS)(t:Int)(x:DOS):Tr DqO:=.ret {d:=false,x:= {x with code:=(FtO.x (gO t n x.13 st s)).1,okk:=(FtO.x (gO t n x.13 st s)).2,val:=(FtO.x (gO t n x.13 st s)).3,at':=8,hd:=dX,hp:=dB,en:=bV,ft:=dC,an:=dV,aw:=dW,fn:=bQ,dr:=AN t n (w29 n s st t x).1,sw:=cU},st:=(gO t n x.13 st s).3,s:=(gO t n x.13 st s).4}
abbrev w2c:=false=false→(7:Int)=(7:Int)
def AF(t n:Int)(x:DOS)(st:STS)(s:MS):Tr DqO:=.pre True (.ite (w28 x) (.pre (lE' s.3∧(0:Int)≤s.4∧s.4≤(4611686018427387904:Int)) (.pre ((t=t∧n=n)∧t=t∧n=n∧(true=false→(3:Int)=(3:Int))∧lE' s.3∧lE' st.3) (.ret {d:=true,x:= {x with code:=1,okk:=false,val:=0,at':=3,hd:=dX,hp:=dB,en:=bV,an:=dV,aw:=dW,fn:=bQ,dr:=eP,sw:=cU},st:=st,s:= {s with c:=s.4+1,k:=1,a:=0,o:=aD s.3 0,w:=aD s.3 0,ok:=bL s.3 0} }))) (.pre ((lE' s.3∧lE' st.3∧t=t∧n=n)∧UO t n x.13 st s) (.ite (gO t n x.13 st s).1 (.ite (!(FtO.x (gO t n x.13 st s)).4) (.ite (!(FtO.x (gO t n x.13 st s)).2) (.pre (rT t n (w29 n s st t x).1∧True) (.pre ((t=t∧n=n)∧t=t∧n=n∧w23∧lE' (FtO.s (gO t n x.13 st s)).3∧lE' (w29 n s st t x).3) (w22 n s st t x))) (.pre True (.ite (!uI x.5 x.6) (.pre (rT t n (w29 n s st t x).1∧True) (.pre ((t=t∧n=n)∧t=t∧n=n∧w23∧lE' (FtO.s (gO t n x.13 st s)).3∧lE' (w29 n s st t x).3) (w22 n s st t x))) (.pre True (.pre (oD t n (w29 n s st t x).1 (eT x.5 x.7) (lV x.5 x.6 x.7) x.8∧True) (.pre ((t=t∧n=n)∧t=t∧n=n∧w2c∧lE' (FtO.s (gO t n x.13 st s)).3∧lE' (w29 n s st t x).3) (.ret {d:=false,x:= {x with code:=(FtO.x (gO t n x.13 st s)).1,okk:=(FtO.x (gO t n x.13 st s)).2,val:=(FtO.x (gO t n x.13 st s)).3,at':=7,hd:=dX,hp:=dB,en:=bV,ft:=dC,an:=dV,aw:=dW,fn:=t8 t n (w29 n s st t x).1 (eT x.5 x.7) (lV x.5 x.6 x.7) x.8,dr:=eP,sw:=cU},st:=(gO t n x.13 st s).3,s:=(gO t n x.13 st s).4}))))))) (.pre (MC t n (w29 n s st t x).1 x.5 x.6 x.7∧True) (.pre ((t=t∧n=n)∧t=t∧n=n∧(false=false→(4:Int)=(4:Int))∧lE' (FtO.s (gO t n x.13 st s)).3∧lE' (w29 n s st t x).3) (.ret {d:=false,x:= {x with slow:=true,at':=4,hd:=dX,hp:=dB,en:=bV,ft:=dC,an:=ZY t n (w29 n s st t x).1 x.5 x.6 x.7,aw:=dW,fn:=bQ,dr:=eP,sw:=cU},st:=(gO t n x.13 st s).3,s:=(gO t n x.13 st s).4})))) (.pre ((t=t∧n=n)∧t=t∧n=n∧w26∧lE' (FtO.s (gO t n x.13 st s)).3∧lE' (w29 n s st t x).3) (.ret {d:=false,x:= {x with at':=3,hd:=dX,hp:=dB,en:=bV,ft:=(gO t n x.13 st s).2,an:=dV,aw:=dW,fn:=bQ,dr:=eP,sw:=cU},st:=(gO t n x.13 st s).3,s:=(gO t n x.13 st s).4})))))
theorem I1(t n:Int)(x:DOS)(st:STS)(s:MS)(K:DqO→Prop)(h:(AF t n x st s).run K):cT' 104 [.ptr 0 0,.ptr 2 0] [cE' [.ptr 1 0,.I x.code,.bool x.okk,.I x.val,.bool x.slow,.I x.sh,.I x.kd,.I x.ky,.I x.limit,.I 3,.O,.O,.O,.ptr 4 0,.O,.O,.O,.O,.O],iP 5 t n st,aZ 3 s,a8 s,some (.abs (.fast t n x.ft) [1]),iQ st] (bU 4 0 [10,11,12,13,14,15,16,17,18] [(.cell 1 4,.ints (some .i64))] (vG t n) K):=by
 exact cM' (E:=EH) (by kernel_rfl) h
abbrev w2f:=false=false→(5:Int)=(1:Int)∨(5:Int)=(5:Int)
def AG(t n:Int)(x:DOS)(st:STS)(s:MS):Tr DqO:=.pre True (.ite (w28 x) (.pre (lE' s.3∧(0:Int)≤s.4∧s.4≤(4611686018427387904:Int)) (.pre ((t=t∧n=n)∧t=t∧n=n∧(true=false→(4:Int)=(4:Int))∧lE' s.3∧lE' st.3) (.ret {d:=true,x:= {x with code:=1,okk:=false,val:=0,at':=4,hd:=dX,hp:=dB,en:=bV,ft:=dC,aw:=dW,fn:=bQ,dr:=eP,sw:=cU},st:=st,s:= {s with c:=s.4+1,k:=1,a:=0,o:=aD s.3 0,w:=aD s.3 0,ok:=bL s.3 0} }))) (.pre (lE' s.3∧Z2 t n x.14 s) (.ite (DP t n x.14 s).1 (.pre ((lE' st.3∧BL t n st.1 (AnO.x (DP t n x.14 s)).1 x.8 st)∧True) (.pre ((t=t∧n=n)∧t=t∧n=n∧w2f∧lE' (AnO.s (DP t n x.14 s)).3∧lE' (Prod.snd (vQ t n st.1 (AnO.x (DP t n x.14 s)).1 x.8 st)).3) (.ret {d:=false,x:= {x with at':=5,hd:=dX,hp:=(vQ t n st.1 (AnO.x (DP t n x.14 s)).1 x.8 st).1,en:=bV,ft:=dC,an:=dV,aw:=dW,fn:=bQ,dr:=eP,sw:=cU},st:=(vQ t n st.1 (AnO.x (DP t n x.14 s)).1 x.8 st).2,s:=(DP t n x.14 s).3}))) (.pre ((t=t∧n=n)∧t=t∧n=n∧(false=false→(4:Int)=(4:Int))∧lE' (AnO.s (DP t n x.14 s)).3∧lE' st.3) (.ret {d:=false,x:= {x with at':=4,hd:=dX,hp:=dB,en:=bV,ft:=dC,an:=(DP t n x.14 s).2,aw:=dW,fn:=bQ,dr:=eP,sw:=cU},st:=st,s:=(DP t n x.14 s).3})))))
theorem I2(t n:Int)(x:DOS)(st:STS)(s:MS)(K:DqO→Prop)(h:(AG t n x st s).run K):cT' 104 [.ptr 0 0,.ptr 2 0] [cE' [.ptr 1 0,.I x.code,.bool x.okk,.I x.val,.bool x.slow,.I x.sh,.I x.kd,.I x.ky,.I x.limit,.I 4,.O,.O,.O,.O,.ptr 4 0,.O,.O,.O,.O],iP 5 t n st,aZ 3 s,a8 s,some (.abs (.announce t n x.an) []),iQ st] (bU 4 0 [10,11,12,13,14,15,16,17,18] [(.cell 1 4,.ints (some .i64))] (vG t n) K):=by
 exact cM' (E:=EH) (by kernel_rfl) h
def AH(t n:Int)(x:DOS)(st:STS)(s:MS):Tr DqO:=.pre True (.ite (w28 x) (.pre (lE' s.3∧(0:Int)≤s.4∧s.4≤(4611686018427387904:Int)) (.pre ((t=t∧n=n)∧t=t∧n=n∧(true=false→(5:Int)=(1:Int)∨(5:Int)=(5:Int))∧lE' s.3∧lE' st.3) (.ret {d:=true,x:= {x with code:=1,okk:=false,val:=0,at':=5,hd:=dX,en:=bV,ft:=dC,an:=dV,aw:=dW,fn:=bQ,dr:=eP,sw:=cU},st:=st,s:= {s with c:=s.4+1,k:=1,a:=0,o:=aD s.3 0,w:=aD s.3 0,ok:=bL s.3 0} }))) (.pre ((lE' s.3∧lE' st.3∧t=t∧n=n)∧O2 t n x.11 st s) (.ite (gC t n x.11 st s).1 (.pre (MD t n (w2a n s st t x).1∧True) (.pre ((t=t∧n=n)∧t=t∧n=n∧(false=false→(6:Int)=(6:Int))∧lE' (HpO.s (gC t n x.11 st s)).3∧lE' (w2a n s st t x).3) (.ret {d:=false,x:= {x with at':=6,hd:=dX,hp:=dB,en:=bV,ft:=dC,an:=dV,aw:=Z7 t n (w2a n s st t x).1,fn:=bQ,dr:=eP,sw:=cU},st:=(gC t n x.11 st s).3,s:=(gC t n x.11 st s).4}))) (.pre ((t=t∧n=n)∧t=t∧n=n∧w2f∧lE' (HpO.s (gC t n x.11 st s)).3∧lE' (w2a n s st t x).3) (.ret {d:=false,x:= {x with at':=5,hd:=dX,hp:=(gC t n x.11 st s).2,en:=bV,ft:=dC,an:=dV,aw:=dW,fn:=bQ,dr:=eP,sw:=cU},st:=(gC t n x.11 st s).3,s:=(gC t n x.11 st s).4})))))
theorem I3(t n:Int)(x:DOS)(st:STS)(s:MS)(K:DqO→Prop)(h:(AH t n x st s).run K):cT' 104 [.ptr 0 0,.ptr 2 0] [cE' [.ptr 1 0,.I x.code,.bool x.okk,.I x.val,.bool x.slow,.I x.sh,.I x.kd,.I x.ky,.I x.limit,.I 5,.O,.ptr 4 0,.O,.O,.O,.O,.O,.O,.O],iP 5 t n st,aZ 3 s,a8 s,some (.abs (.help t n x.hp) [1]),iQ st] (bU 4 0 [10,11,12,13,14,15,16,17,18] [(.cell 1 4,.ints (some .i64))] (vG t n) K):=by
 exact cM' (E:=EH) (by kernel_rfl) h
abbrev w24(n:Int)(s:MS)(st:STS)(t:Int)(x:DOS):Tr DqO:=.ret {d:=false,x:= {x with code:=(AwO.x (rR t n x.15 s)).1,okk:=(AwO.x (rR t n x.15 s)).2,val:=(AwO.x (rR t n x.15 s)).3,at':=8,hd:=dX,hp:=dB,en:=bV,ft:=dC,an:=dV,aw:=dW,fn:=bQ,dr:=AN t n st.1,sw:=cU},st:=st,s:=(rR t n x.15 s).3}
def AI(t n:Int)(x:DOS)(st:STS)(s:MS):Tr DqO:=.pre True (.ite (w28 x) (.pre (lE' s.3∧(0:Int)≤s.4∧s.4≤(4611686018427387904:Int)) (.pre ((t=t∧n=n)∧t=t∧n=n∧(true=false→(6:Int)=(6:Int))∧lE' s.3∧lE' st.3) (.ret {d:=true,x:= {x with code:=1,okk:=false,val:=0,at':=6,hd:=dX,hp:=dB,en:=bV,ft:=dC,an:=dV,fn:=bQ,dr:=eP,sw:=cU},st:=st,s:= {s with c:=s.4+1,k:=1,a:=0,o:=aD s.3 0,w:=aD s.3 0,ok:=bL s.3 0} }))) (.pre (lE' s.3∧aAb t n x.15 s) (.ite (rR t n x.15 s).1 (.ite (!(AwO.x (rR t n x.15 s)).2) (.pre (rT t n st.1∧True) (.pre ((t=t∧n=n)∧t=t∧n=n∧w23∧lE' (AwO.s (rR t n x.15 s)).3∧lE' st.3) (w24 n s st t x))) (.pre True (.ite (!uI x.5 x.6) (.pre (rT t n st.1∧True) (.pre ((t=t∧n=n)∧t=t∧n=n∧w23∧lE' (AwO.s (rR t n x.15 s)).3∧lE' st.3) (w24 n s st t x))) (.pre True (.pre (oD t n st.1 (eT x.5 x.7) (lV x.5 x.6 x.7) x.8∧True) (.pre ((t=t∧n=n)∧t=t∧n=n∧w2c∧lE' (AwO.s (rR t n x.15 s)).3∧lE' st.3) (.ret {d:=false,x:= {x with code:=(AwO.x (rR t n x.15 s)).1,okk:=(AwO.x (rR t n x.15 s)).2,val:=(AwO.x (rR t n x.15 s)).3,at':=7,hd:=dX,hp:=dB,en:=bV,ft:=dC,an:=dV,aw:=dW,fn:=t8 t n st.1 (eT x.5 x.7) (lV x.5 x.6 x.7) x.8,dr:=eP,sw:=cU},st:=st,s:=(rR t n x.15 s).3}))))))) (.pre ((t=t∧n=n)∧t=t∧n=n∧(false=false→(6:Int)=(6:Int))∧lE' (AwO.s (rR t n x.15 s)).3∧lE' st.3) (.ret {d:=false,x:= {x with at':=6,hd:=dX,hp:=dB,en:=bV,ft:=dC,an:=dV,aw:=(rR t n x.15 s).2,fn:=bQ,dr:=eP,sw:=cU},st:=st,s:=(rR t n x.15 s).3})))))
theorem I4(t n:Int)(x:DOS)(st:STS)(s:MS)(K:DqO→Prop)(h:(AI t n x st s).run K):cT' 104 [.ptr 0 0,.ptr 2 0] [cE' [.ptr 1 0,.I x.code,.bool x.okk,.I x.val,.bool x.slow,.I x.sh,.I x.kd,.I x.ky,.I x.limit,.I 6,.O,.O,.O,.O,.O,.ptr 4 0,.O,.O,.O],iP 5 t n st,aZ 3 s,a8 s,some (.abs (.answer t n x.aw) []),iQ st] (bU 4 0 [10,11,12,13,14,15,16,17,18] [(.cell 1 4,.ints (some .i64))] (vG t n) K):=by
 exact cM' (E:=EH) (by kernel_rfl) h
def AJ(t n:Int)(x:DOS)(st:STS)(s:MS):Tr DqO:=.pre True (.ite (w28 x) (.pre (lE' s.3∧(0:Int)≤s.4∧s.4≤(4611686018427387904:Int)) (.pre ((t=t∧n=n)∧t=t∧n=n∧(true=false→(7:Int)=(7:Int))∧lE' s.3∧lE' st.3) (.ret {d:=true,x:= {x with code:=1,okk:=false,val:=0,at':=7,hd:=dX,hp:=dB,en:=bV,ft:=dC,an:=dV,aw:=dW,dr:=eP,sw:=cU},st:=st,s:= {s with c:=s.4+1,k:=1,a:=0,o:=aD s.3 0,w:=aD s.3 0,ok:=bL s.3 0} }))) (.pre (lE' s.3∧JS t n x.16 s) (.ite (aM t n x.16 s).1 (.pre ((lE' st.3∧lE' (FnO.x (aM t n x.16 s)).6∧st.3.length+List.length (FnO.x (aM t n x.16 s)).6≤(4294967296:Nat))∧True) (.pre (rT t n st.1∧True) (.pre ((t=t∧n=n)∧t=t∧n=n∧w23∧lE' (FnO.s (aM t n x.16 s)).3∧st.3.length+List.length (FnO.x (aM t n x.16 s)).6=List.length (st.3++(FnO.x (aM t n x.16 s)).6)) (.ret {d:=false,x:= {x with at':=8,hd:=dX,hp:=dB,en:=bV,ft:=dC,an:=dV,aw:=dW,fn:=bQ,dr:=AN t n st.1,sw:=cU},st:= {me:=st.1,sp:=st.2,R:=st.3++(FnO.x (aM t n x.16 s)).6},s:=(aM t n x.16 s).3})))) (.pre ((t=t∧n=n)∧t=t∧n=n∧w2c∧lE' (FnO.s (aM t n x.16 s)).3∧lE' st.3) (.ret {d:=false,x:= {x with at':=7,hd:=dX,hp:=dB,en:=bV,ft:=dC,an:=dV,aw:=dW,fn:=(aM t n x.16 s).2,dr:=eP,sw:=cU},st:=st,s:=(aM t n x.16 s).3})))))
theorem I5(t n:Int)(x:DOS)(st:STS)(s:MS)(K:DqO→Prop)(h:(AJ t n x st s).run K):cT' 104 [.ptr 0 0,.ptr 2 0] [cE' [.ptr 1 0,.I x.code,.bool x.okk,.I x.val,.bool x.slow,.I x.sh,.I x.kd,.I x.ky,.I x.limit,.I 7,.O,.O,.O,.O,.O,.O,.ptr 4 0,.O,.O],iP 5 t n st,aZ 3 s,a8 s,some (.abs (.find t n x.fn) []),iQ st] (bU 4 0 [10,11,12,13,14,15,16,17,18] [(.cell 1 4,.ints (some .i64))] (vG t n) K):=by
 exact cM' (E:=EH) (by kernel_rfl) h
def AK(t n:Int)(x:DOS)(st:STS)(s:MS):Tr DqO:=.pre True (.ite (w28 x) (.pre (lE' s.3∧(0:Int)≤s.4∧s.4≤(4611686018427387904:Int)) (.pre ((t=t∧n=n)∧t=t∧n=n∧(true=false→(8:Int)=(8:Int))∧lE' s.3∧lE' st.3) (.ret {d:=true,x:= {x with code:=1,okk:=false,val:=0,at':=8,hd:=dX,hp:=dB,en:=bV,ft:=dC,an:=dV,aw:=dW,fn:=bQ,sw:=cU},st:=st,s:= {s with c:=s.4+1,k:=1,a:=0,o:=aD s.3 0,w:=aD s.3 0,ok:=bL s.3 0} }))) (.pre (lE' s.3∧aAM t n x.17 s) (.ite (RU t n x.17 s).1 (.pre (lE' st.3∧(t=t∧n=n∧lE' st.3)∧True) (.pre ((0:Int)≤t∧t≤(100000:Int)) (.pre ((t=t∧n=n)∧t=t∧n=n∧((!ile (4*t) (↑st.3.length:Int))=false→(9:Int)=(9:Int))∧lE' (DrO.s (RU t n x.17 s)).3∧lE' st.3) (.ret {d:=!ile (4*t) (↑st.3.length:Int),x:= {x with at':=9,hd:=dX,hp:=dB,en:=bV,ft:=dC,an:=dV,aw:=dW,fn:=bQ,dr:=eP,sw:=cU},st:=st,s:=(RU t n x.17 s).3})))) (.pre ((t=t∧n=n)∧t=t∧n=n∧w23∧lE' (DrO.s (RU t n x.17 s)).3∧lE' st.3) (.ret {d:=false,x:= {x with at':=8,hd:=dX,hp:=dB,en:=bV,ft:=dC,an:=dV,aw:=dW,fn:=bQ,dr:=(RU t n x.17 s).2,sw:=cU},st:=st,s:=(RU t n x.17 s).3})))))
theorem I6(t n:Int)(x:DOS)(st:STS)(s:MS)(K:DqO→Prop)(h:(AK t n x st s).run K):cT' 104 [.ptr 0 0,.ptr 2 0] [cE' [.ptr 1 0,.I x.code,.bool x.okk,.I x.val,.bool x.slow,.I x.sh,.I x.kd,.I x.ky,.I x.limit,.I 8,.O,.O,.O,.O,.O,.O,.O,.ptr 4 0,.O],iP 5 t n st,aZ 3 s,a8 s,some (.abs (.drop t n x.dr) []),iQ st] (bU 4 0 [10,11,12,13,14,15,16,17,18] [(.cell 1 4,.ints (some .i64))] (vG t n) K):=by
 exact cM' (E:=EH) (by kernel_rfl) h
def AM(t n:Int)(x:DOS)(st:STS)(s:MS):Tr DqO:=.pre True (.ite (w28 x) (.pre (lE' s.3∧(0:Int)≤s.4∧s.4≤(4611686018427387904:Int)) (.pre ((t=t∧n=n)∧t=t∧n=n∧(true=false→(9:Int)=(9:Int))∧lE' s.3∧lE' st.3) (.ret {d:=true,x:= {x with code:=1,okk:=false,val:=0,at':=9,hd:=dX,hp:=dB,en:=bV,ft:=dC,an:=dV,aw:=dW,fn:=bQ,dr:=eP},st:=st,s:= {s with c:=s.4+1,k:=1,a:=0,o:=aD s.3 0,w:=aD s.3 0,ok:=bL s.3 0} }))) (.pre ((lE' s.3∧lE' st.3∧t=t∧n=n)∧qA t n (DOS.sw x) st s) (.ite (swF t n x.18 st s).1 (.pre ((t=t∧n=n)∧(true=false→(9:Int)≠(0:Int)∧(9:Int)≠(1:Int)∧(9:Int)≠(5:Int)∧(9:Int)≠(2:Int)∧(9:Int)≠(3:Int)∧(9:Int)≠(4:Int)∧(9:Int)≠(6:Int)∧(9:Int)≠(7:Int)∧(9:Int)≠(8:Int)∧(9:Int)≠(9:Int))∧lE' (SO.s (swF t n x.18 st s)).3∧lE' (SO.st (swF t n x.18 st s)).3) (.ret {d:=true,x:= {x with at':=9,hd:=dX,hp:=dB,en:=bV,ft:=dC,an:=dV,aw:=dW,fn:=bQ,dr:=eP,sw:=cU},st:=(swF t n x.18 st s).3,s:=(swF t n x.18 st s).4})) (.pre ((t=t∧n=n)∧t=t∧n=n∧(false=false→(9:Int)=(9:Int))∧lE' (SO.s (swF t n x.18 st s)).3∧lE' (SO.st (swF t n x.18 st s)).3) (.ret {d:=false,x:= {x with at':=9,hd:=dX,hp:=dB,en:=bV,ft:=dC,an:=dV,aw:=dW,fn:=bQ,dr:=eP,sw:=(swF t n x.18 st s).2},st:=(swF t n x.18 st s).3,s:=(swF t n x.18 st s).4})))))
theorem I7(t n:Int)(x:DOS)(st:STS)(s:MS)(K:DqO→Prop)(h:(AM t n x st s).run K):cT' 104 [.ptr 0 0,.ptr 2 0] [cE' [.ptr 1 0,.I x.code,.bool x.okk,.I x.val,.bool x.slow,.I x.sh,.I x.kd,.I x.ky,.I x.limit,.I 9,.O,.O,.O,.O,.O,.O,.O,.O,.ptr 4 0],iP 5 t n st,aZ 3 s,a8 s,some (.abs (.sweep t n x.sw) [1]),iQ st] (bU 4 0 [10,11,12,13,14,15,16,17,18] [(.cell 1 4,.ints (some .i64))] (vG t n) K):=by
 exact cM' (E:=EH) (by kernel_rfl) h
def dqT(t n:Int)(x:DOS)(st:STS)(s:MS):Tr DqO:=
 bif ieq x.at' 0 then AC t n x st s else
 bif ieq x.at' 1 then AD t n x st s else
 bif ieq x.at' 2 then AE t n x st s else
 bif ieq x.at' 3 then AF t n x st s else
 bif ieq x.at' 4 then AG t n x st s else
 bif ieq x.at' 5 then AH t n x st s else
 bif ieq x.at' 6 then AI t n x st s else
 bif ieq x.at' 7 then AJ t n x st s else
 bif ieq x.at' 8 then AK t n x st s else
 bif ieq x.at' 9 then AM t n x st s else .pre False (.ret default)
def rS(t n:Int)(x:DOS)(st:STS)(s:MS):DqO:=(dqT t n x st s).val
def TC(t n:Int)(x:DOS)(st:STS)(s:MS):Prop:=(dqT t n x st s).ok
theorem GS(t n:Int)(x:DOS)(st:STS)(s:MS)(K:AVal→aC Ob→Prop)(h:(dqT t n x st s).run (fun y=>(DqO.fin t n y).run K)):cT' 104 [.ptr 0 0,.ptr 2 0] (dqH t n x st s) K:=by
 unfold dqT at h
 by_cases e:x.at'=0
 ·rw [e]at h;have h:(AC t n x st s).run _:=h;refine aHb (root:=0) (pos:=[10,11,12,13,14,15,16,17,18]) (cs:=[(.cell 1 4,.ints (some .i64))]) (parse:=vG t n) (fin:=DqO.fin t n) kT ((aR.unpack (.doer t n x) 0 1 (fW t n x) [1] rfl (congrArg (Prod.mk 1) (pM e)) (by kernel_rfl) rfl).trans (aR.unpack (.store t n st) 1 0 (dN t n st) [] rfl rfl rfl rfl)) ?_
  have q:=IY t n x st s _ h;rw [←e]at q;exact q
 rw [bF e]at h
 by_cases e:x.at'=1
 ·rw [e]at h;have h:(AD t n x st s).run _:=h;refine aHb (root:=0) (pos:=[10,11,12,13,14,15,16,17,18]) (cs:=[(.cell 1 4,.ints (some .i64))]) (parse:=vG t n) (fin:=DqO.fin t n) kT ((aR.unpack (.doer t n x) 0 1 (dQ t n x) [1] rfl (congrArg (Prod.mk 1) (sS e)) (by kernel_rfl) rfl).trans (aR.unpack (.store t n st) 1 0 (dN t n st) [] rfl rfl rfl rfl)) ?_
  have q:=IZ t n x st s _ h;rw [←e]at q;exact q
 rw [bF e]at h
 by_cases e:x.at'=2
 ·rw [e]at h;have h:(AE t n x st s).run _:=h;refine aHb (root:=0) (pos:=[10,11,12,13,14,15,16,17,18]) (cs:=[(.cell 1 4,.ints (some .i64))]) (parse:=vG t n) (fin:=DqO.fin t n) kT ((aR.unpack (.doer t n x) 0 1 (gY t n x) [1] rfl (congrArg (Prod.mk 1) (sT e)) (by kernel_rfl) rfl).trans (aR.unpack (.store t n st) 1 0 (dN t n st) [] rfl rfl rfl rfl)) ?_
  have q:=I0 t n x st s _ h;rw [←e]at q;exact q
 rw [bF e]at h
 by_cases e:x.at'=3
 ·rw [e]at h;have h:(AF t n x st s).run _:=h;refine aHb (root:=0) (pos:=[10,11,12,13,14,15,16,17,18]) (cs:=[(.cell 1 4,.ints (some .i64))]) (parse:=vG t n) (fin:=DqO.fin t n) kT ((aR.unpack (.doer t n x) 0 1 (hJ t n x) [1] rfl (congrArg (Prod.mk 1) (sU e)) (by kernel_rfl) rfl).trans (aR.unpack (.store t n st) 1 0 (dN t n st) [] rfl rfl rfl rfl)) ?_
  have q:=I1 t n x st s _ h;rw [←e]at q;exact q
 rw [bF e]at h
 by_cases e:x.at'=4
 ·rw [e]at h;have h:(AG t n x st s).run _:=h;refine aHb (root:=0) (pos:=[10,11,12,13,14,15,16,17,18]) (cs:=[(.cell 1 4,.ints (some .i64))]) (parse:=vG t n) (fin:=DqO.fin t n) kT ((aR.unpack (.doer t n x) 0 1 (gV t n x) [1] rfl (congrArg (Prod.mk 1) (sV e)) (by kernel_rfl) rfl).trans (aR.unpack (.store t n st) 1 0 (dN t n st) [] rfl rfl rfl rfl)) ?_
  have q:=I2 t n x st s _ h;rw [←e]at q;exact q
 rw [bF e]at h
 by_cases e:x.at'=5
 ·rw [e]at h;have h:(AH t n x st s).run _:=h;refine aHb (root:=0) (pos:=[10,11,12,13,14,15,16,17,18]) (cs:=[(.cell 1 4,.ints (some .i64))]) (parse:=vG t n) (fin:=DqO.fin t n) kT ((aR.unpack (.doer t n x) 0 1 (dQ t n x) [1] rfl (congrArg (Prod.mk 1) (sW e)) (by kernel_rfl) rfl).trans (aR.unpack (.store t n st) 1 0 (dN t n st) [] rfl rfl rfl rfl)) ?_
  have q:=I3 t n x st s _ h;rw [←e]at q;exact q
 rw [bF e]at h
 by_cases e:x.at'=6
 ·rw [e]at h;have h:(AI t n x st s).run _:=h;refine aHb (root:=0) (pos:=[10,11,12,13,14,15,16,17,18]) (cs:=[(.cell 1 4,.ints (some .i64))]) (parse:=vG t n) (fin:=DqO.fin t n) kT ((aR.unpack (.doer t n x) 0 1 (gW t n x) [1] rfl (congrArg (Prod.mk 1) (sX e)) (by kernel_rfl) rfl).trans (aR.unpack (.store t n st) 1 0 (dN t n st) [] rfl rfl rfl rfl)) ?_
  have q:=I4 t n x st s _ h;rw [←e]at q;exact q
 rw [bF e]at h
 by_cases e:x.at'=7
 ·rw [e]at h;have h:(AJ t n x st s).run _:=h;refine aHb (root:=0) (pos:=[10,11,12,13,14,15,16,17,18]) (cs:=[(.cell 1 4,.ints (some .i64))]) (parse:=vG t n) (fin:=DqO.fin t n) kT ((aR.unpack (.doer t n x) 0 1 (gZ t n x) [1] rfl (congrArg (Prod.mk 1) (sY e)) (by kernel_rfl) rfl).trans (aR.unpack (.store t n st) 1 0 (dN t n st) [] rfl rfl rfl rfl)) ?_
  have q:=I5 t n x st s _ h;rw [←e]at q;exact q
 rw [bF e]at h
 by_cases e:x.at'=8
 ·rw [e]at h;have h:(AK t n x st s).run _:=h;refine aHb (root:=0) (pos:=[10,11,12,13,14,15,16,17,18]) (cs:=[(.cell 1 4,.ints (some .i64))]) (parse:=vG t n) (fin:=DqO.fin t n) kT ((aR.unpack (.doer t n x) 0 1 (gX t n x) [1] rfl (congrArg (Prod.mk 1) (sZ e)) (by kernel_rfl) rfl).trans (aR.unpack (.store t n st) 1 0 (dN t n st) [] rfl rfl rfl rfl)) ?_
  have q:=I6 t n x st s _ h;rw [←e]at q;exact q
 rw [bF e]at h
 by_cases e:x.at'=9
 ·rw [e]at h;have h:(AM t n x st s).run _:=h;refine aHb (root:=0) (pos:=[10,11,12,13,14,15,16,17,18]) (cs:=[(.cell 1 4,.ints (some .i64))]) (parse:=vG t n) (fin:=DqO.fin t n) kT ((aR.unpack (.doer t n x) 0 1 (hM t n x) [1] rfl (congrArg (Prod.mk 1) (s5 e)) (by kernel_rfl) rfl).trans (aR.unpack (.store t n st) 1 0 (dN t n st) [] rfl rfl rfl rfl)) ?_
  have q:=I7 t n x st s _ h;rw [←e]at q;exact q
 rw [bF e]at h;exact h.1.elim
noncomputable def dqSA:aI Ob:=fun args h=>match args,h with
 | [.ptr 0 0,.ptr 2 0],[some (.abs (.doer t n x) [1]),some (.abs (.store t2 n2 st) []),e3,e4]=>(match cH 3 [e3,e4]with
   | some (l,s)=>some (.pre ((l=s.xs.length∧t2=t∧n2=n)∧TC t n x st s) (DqO.fin t n (rS t n x st s)))
   | none=>none)
 | _,_=>none
theorem aAF:sT' 104 dqSA:=by
 intro args h o ho K hK;unfold dqSA at ho;split at ho
 case h_2=>cases ho
 split at ho<;>cases ho
 rename_i hm;obtain⟨⟨⟨hl,rfl,rfl⟩,ok⟩,hK⟩:=hK;cases aY hm hl;exact GS _ _ _ _ _ K (aHe ok hK)
def DqO.finB(t n:Int)(y:DqO):Out Ob:=.ite y.d (.ret (.bool true) ([cE' [.ptr 1 0,.I y.x.code,.bool y.x.okk,.I y.x.val,.bool y.x.slow,.I y.x.sh,.I y.x.kd,.I y.x.ky,.I y.x.limit,.I y.x.at',.O,.O,.O,.O,.O,.O,.O,.O,.O],iP 5 t n y.st,none,aZ 4 y.s,a8 y.s,iQ y.st])) (.ret (.bool false) [some (.abs (.doer t n y.x) [1]),iP 5 t n y.st,none,aZ 4 y.s,a8 y.s,iQ y.st])
noncomputable def dqSB:aI Ob:=fun args h=>match args,h with
 | [.ptr 0 0,.ptr 3 0],[some (.abs (.doer t n x) [1]),e1,e2,e3,e4]=>(match k9 2 [e1,e2],cH 4 [e3,e4]with
   | some (l2,t2,n2,st),some (l,s)=>some (.pre ((l=s.xs.length∧l2=st.R.length∧t2=t∧n2=n)∧TC t n x st s) (DqO.finB t n (rS t n x st s)))
   | _,_=>none)
 | _,_=>none
theorem aAG:sT' 104 dqSB:=by
 intro args h o ho K hK;unfold dqSB at ho;split at ho
 case h_2=>cases ho
 split at ho<;>cases ho
 rename_i hs hm;obtain⟨⟨⟨hl,hl2,rfl,rfl⟩,ok⟩,hK⟩:=hK;cases aY hm hl;cases b8 hs hl2;exact jG (fun ι hι=>by simp [aH.ren,aHo,AVal.ren,hι]) (fun ι hι=>by simp [aH.ren,hι]) (fun K hK=>GS _ _ _ _ _ K (aHe ok hK)) K hK
noncomputable def dqS:aI Ob:=aI.or dqSA dqSB
theorem aDN:sT' 104 dqS:=aHA aAF aAG
def aAs(t n:Int)(v:AVal)(g:aC Ob):Option (Prop×(DOS×STS)):=match v,g with
 | .ptr 2 0,[e1,e2,some (.cells [.ptr 0 0,.int .i64 code,.bool okk,.int .i64 val,.bool slow,.int .i64 sh,.int .i64 kd,.int .i64 ky,.int .i64 limit,.int .i64 at',.ptr 3 0,.O,.O,.O,.O,.O,.O,.O,.O]),some (.abs (.head t' n' sub) [])]=>(match k9 1 [e1,e2]with
   | some (l2,t2,n2,st)=>some ((t2=t∧n2=n∧l2=st.R.length)∧t'=t∧n'=n∧at'=0,⟨(⟨code,okk,val,slow,sh,kd,ky,limit,at',sub,dB,bV,dC,⟨0,0,0,0,false,0⟩,⟨0,false,0,0⟩,bQ,⟨0,0⟩,cU⟩:DOS),st⟩)
   | none=>none)
 | _,_=>none
abbrev TA(t n:Int)(y:(DOS×STS)):aC Ob:=[iP 1 t n y.2,iQ y.2,some (.abs (.doer t n y.1) [0])]
theorem TB{t n:Int} :bM (obI tbl) 2 (aAs t n) (fun y=>.ret (.ptr 2 0) (TA t n y)):=by
 intro v g p x hp hq K hK;unfold aAs at hp;split at hp
 case h_2=>cases hp
 rename_i e1 e2 code okk val slow sh kd ky limit at' t' n' sub;split at hp
 case h_2=>cases hp
 rename_i l2 t2 n2 st hs;cases hp;obtain⟨⟨rfl,rfl,hl2⟩,rfl,rfl,hat⟩:=hq;cases b8 hs hl2;exact let X0:DOS:=⟨code,okk,val,slow,sh,kd,ky,limit,at',sub,dB,bV,dC,⟨0,0,0,0,false,0⟩,⟨0,false,0,0⟩,bQ,⟨0,0⟩,cU⟩;⟨⟨_,_,aF.pack (TA t' n' (X0,st)) (.doer t' n' X0) 2 1 (fW t' n' X0) [0] (by kernel_rfl) rfl (congrArg (Prod.mk 1) (pM hat)) (by kernel_rfl),hK⟩⟩
def M7(t n:Int)(sh kd ky lim:Int)(st:STS):Tr (DOS×STS):=.pre (OW t n∧True) (.pre ((t=t∧n=n∧lE' st.3)∧t=t∧n=n∧(0:Int)=(0:Int)) (.ret ({code:=0,okk:=false,val:=0,slow:=false,sh:=sh,kd:=kd,ky:=ky,limit:=lim,at':=0,hd:=aBQ t n,hp:=dB,en:=bV,ft:=dC,an:=dV,aw:=dW,fn:=bQ,dr:=eP,sw:=cU},st)))
def dqNF(t n:Int)(sh kd ky lim:Int)(st:STS):(DOS×STS):=(M7 t n sh kd ky lim st).val
def MZ(t n:Int)(sh kd ky lim:Int)(st:STS):Prop:=(M7 t n sh kd ky lim st).ok
def dqNS:aI Ob:=fun args h=>match args,h with
 | [.ptr 0 0,.agg [.int .i64 sh,.int .i64 kd,.int .i64 ky],.int .i64 lim],[e1,e2]=>(match k9 1 [e1,e2]with
   | some (l2,t,n,st)=>some (.pre (l2=st.R.length∧MZ t n sh kd ky lim st) (.ret (.ptr 2 0) (TA t n (dqNF t n sh kd ky lim st))))
   | none=>none)
 | _,_=>none
theorem D3:sT' 103 dqNS:=by
 intro args h o ho K hK;unfold dqNS at ho;split at ho
 case h_2=>cases ho
 rename_i sh kd ky lim e1 e2;split at ho<;>cases ho
 rename_i l2 t n st hs;obtain⟨⟨hl2,ok⟩,hK⟩:=hK;cases b8 hs hl2;refine aHm (root:=2) (pos:=[10,11,12,13,14,15,16,17,18]) (cs:=[]) (parse:=aAs t n) TB ?_;exact cM' (E:=EH) (q:=(M7 t n sh kd ky lim st).run (fun y=>(Out.ret (.ptr 2 0) (TA t n y)).run K)) (by kernel_rfl) (aHe ok hK)
noncomputable def ED:=((EH.addS 104 dqS aDN).addS 103 dqNS D3)
end Go.Sh
