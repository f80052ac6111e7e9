import Derived.Shelf.Sort.Plain
import Derived.Shelf.Slices.In.SortNone
import Derived.Test.YteindpciaceeeaaGreatZSh29
set_option linter.all false
set_option maxHeartbeats 8000000
namespace Go.Sh
open Go Go.Proofs
variable [Con]
def wlS:aH Ob:=fun args h=>match args,h with
 | [.ptr 0 0],[some (.abs (.worker x) [])]=>some (.pre True (.ret (.I (W ((x.tk.length:Int) - x.en))) [some (.abs (.worker x) [])]))
 | _,_=>none
abbrev w29(x:WKS):Option (aG Ob):=cE' [.ptr 1 0,.tslice 2 0 x.tk.length 3,.I x.en,.raw (.pointer none),.slice 3 0 x.tl.length 1,.slice 4 0 x.sl.length 1]
theorem aIU(x:WKS)(K:AVal->aC Ob->Prop)(hK:K (.I (W ((x.tk.length:Int) - x.en))) [w29 x,some (.abs (.store x.t x.n x.st) []),some (.tab cK3 x.tk),iI' x.tl,iI' x.sl]):cT' 91 [.ptr 0 0] [w29 x,some (.abs (.store x.t x.n x.st) []),some (.tab cK3 x.tk),iI' x.tl,iI' x.sl] K:=by
 refine aJ1 (cM' (E:=EN1) (q:=K (.I (W ((↑x.4.length:Int) - x.5))) [cE' [.ptr 1 0,.tslice 2 0 x.4.length 3,.I x.5,.N,.slice 3 0 x.8.length 1,.slice 4 0 x.9.length 1],some (.abs (.store x.1 x.2 x.3) []),some (.tab cK3 x.4),iI' x.8,iI' x.9]) (by kernel_rfl) ?_)
 exact hK
abbrev w2a(x:WKS):Option (aG Ob):=cE' [.ptr 1 0,.tslice 2 0 x.tk.length 3,.I x.en,.ptr 3 0,.slice 4 0 x.tl.length 1,.slice 5 0 x.sl.length 1]
theorem aIV(x:WKS)(K:AVal->aC Ob->Prop)(hK:K (.I (W ((x.tk.length:Int) - x.en))) [w2a x,some (.abs (.store x.t x.n x.st) []),some (.tab cK3 x.tk),some (.abs (.doer x.t x.n x.d) [1]),iI' x.tl,iI' x.sl]):cT' 91 [.ptr 0 0] [w2a x,some (.abs (.store x.t x.n x.st) []),some (.tab cK3 x.tk),some (.abs (.doer x.t x.n x.d) [1]),iI' x.tl,iI' x.sl] K:=by
 refine aJ1 (cM' (E:=EN1) (q:=K (.I (W ((↑x.4.length:Int) - x.5))) [cE' [.ptr 1 0,.tslice 2 0 x.4.length 3,.I x.5,.ptr 3 0,.slice 4 0 x.8.length 1,.slice 5 0 x.9.length 1],some (.abs (.store x.1 x.2 x.3) []),some (.tab cK3 x.4),some (.abs (.doer x.1 x.2 x.7) [1]),iI' x.8,iI' x.9]) (by kernel_rfl) ?_)
 exact hK
theorem aHy:sT' 91 wlS:=by
 intro args h o ho K hK;unfold wlS at ho;split at ho<;>cases ho
 rename_i x;obtain⟨ok,hK⟩:=hK;have hK:K (.I (W ((x.tk.length:Int) - x.en))) [some (.abs (.worker x) [])]:=hK;refine aJ9 ?_;cases e:x.b with
 | false=>
   refine aJ6 (h2:=mH x) (aQ.unpack (.worker x) 0 0 (mH x) [] rfl (congrArg (Prod.mk 0) (oW e)) rfl rfl) ?_;refine aIU x _ ⟨⟨_,_,aF.pack [some (.abs (.worker x) [])] (.worker x) 0 0 (mH x) [] (by kernel_rfl) rfl (congrArg (Prod.mk 0) (oW e)) (by kernel_rfl),hK⟩⟩
 | true=>
   refine aJ6 (h2:=pP x) (aQ.unpack (.worker x) 0 0 (pP x) [] rfl (congrArg (Prod.mk 0) (wE e)) rfl rfl) ?_;refine aIV x _ ⟨⟨_,_,aF.pack [some (.abs (.worker x) [])] (.worker x) 0 0 (pP x) [] (by kernel_rfl) rfl (congrArg (Prod.mk 0) (wE e)) (by kernel_rfl),hK⟩⟩
noncomputable def EW1:=EN1.addS 91 wlS aHy
structure WK1 where
 t:Int
 n:Int
 st:STS
 tk:List (List Int)
 en:Int
 d:DOS
 tl:List Int
 sl:List Int
instance:Inhabited WK1:=⟨⟨0,0,⟨0,0,[]⟩,[],0,eO,[],[]⟩⟩
abbrev JM(x:WK1):aC Ob:=[cE' [.ptr 1 0,.tslice 2 0 x.tk.length 3,.I x.en,.ptr 3 0,.slice 4 0 x.tl.length 1,.slice 5 0 x.sl.length 1],some (.abs (.store x.t x.n x.st) []),some (.tab tkK x.tk),some (.abs (.doer x.t x.n x.d) [1]),iI' x.tl,iI' x.sl]
def aHx(x:WKS):WK1:=⟨x.t,x.n,x.st,x.tk,x.en,x.d,x.tl,x.sl⟩
def wbP(v:AVal)(g:aC Ob):Option (Prop×WK1):=match v,g with
 | .bool true,[some (.cells [.ptr 1 0,.tslice 2 0 k 3,.int .i64 en,.ptr 3 0,.slice 4 0 a 1,.slice 5 0 b 1]),some (.abs (.store t n st) []),some (.tab [some .i64,some .i64,some .i64] tk),some (.abs (.doer t1 n1 d) [1]),some (.ints (some .i64) tl),some (.ints (some .i64) sl)]=>some (k=tk.length/\a=tl.length/\b=sl.length/\t1=t/\n1=n,⟨t,n,st,tk,en,d,tl,sl⟩)
 | _,_=>none
theorem aE2:bO (obI tbl) 1 wbP (fun y=>.ret (.bool true) (JM y)):=by
 intro v g p x hp hq K hK;unfold wbP at hp;split at hp
 case h_2=>cases hp
 cases hp;obtain⟨rfl,rfl,rfl,rfl,rfl⟩:=hq;exact⟨⟨_,_,aKi _ _ _,hK⟩⟩
abbrev w2b(x:WKS):=List.getD x.4 (0+Int.toNat x.5) []
def NK(tr:Int)(x:WKS):Tr WK1:=.pre ((0:Int)<=x.5/\x.5<(↑x.4.length:Int)) (.pre (0+Int.toNat x.5<x.4.length) (.pre (O5 x.1 x.2 (List.headD (w2b x) 0) (List.headD (List.tail (w2b x)) 0) (List.headD (List.tail (List.tail (w2b x))) 0) tr x.3/\True) (.pre (0=0/\lE' x.8/\1=1/\x.8.length+(1:Nat)<=(4294967296:Nat)) (.pre (lE' x.4/\x.8.length+(1:Nat)=List.length (x.8++ [0])/\lE' x.9/\x.1=x.1/\x.2=x.2) (.ret {x with st:=(dqNF x.1 x.2 (List.headD (w2b x) 0) (List.headD (List.tail (w2b x)) 0) (List.headD (List.tail (List.tail (w2b x))) 0) tr x.3).2,d:=(dqNF x.1 x.2 (List.headD (w2b x) 0) (List.headD (List.tail (w2b x)) 0) (List.headD (List.tail (List.tail (w2b x))) 0) tr x.3).1,tl:=x.8++ [0],sl:=x.9})))))
theorem aAh(tr:Int)(x:WKS)(K:WK1->Prop)(h:(NK tr x).run K):cT' 95 [.ptr 0 0,.I tr] [cE' [.ptr 1 0,.tslice 2 0 x.tk.length 3,.I x.en,.raw (.pointer none),.slice 3 0 x.tl.length 1,.slice 4 0 x.sl.length 1],some (.abs (.store x.t x.n x.st) []),some (.tab cK3 x.tk),iI' x.tl,iI' x.sl] (bS 1 0 [] [] wbP K):=by
 exact cM' (E:=EW1) (by kernel_rfl) h
theorem aIT(tr:Int)(x:WKS)(K:AVal->aC Ob->Prop)(hK:K (.bool false) (pP x)):cT' 95 [.ptr 0 0,.I tr] [cE' [.ptr 1 0,.tslice 2 0 x.tk.length 3,.I x.en,.ptr 3 0,.slice 4 0 x.tl.length 1,.slice 5 0 x.sl.length 1],some (.abs (.store x.t x.n x.st) []),some (.tab cK3 x.tk),some (.abs (.doer x.t x.n x.d) [1]),iI' x.tl,iI' x.sl] K:=by
 refine aJ1 (cM' (E:=EW1) (q:=K (.bool false) [cE' [.ptr 1 0,.tslice 2 0 x.4.length 3,.I x.5,.ptr 3 0,.slice 4 0 x.8.length 1,.slice 5 0 x.9.length 1],some (.abs (.store x.1 x.2 x.3) []),some (.tab cK3 x.4),some (.abs (.doer x.1 x.2 x.7) [1]),iI' x.8,iI' x.9]) (by kernel_rfl) ?_)
 exact hK
def wbF(tr:Int)(x:WKS):WK1:=bif x.b then aHx x else(NK tr x).val
def TK(tr:Int)(x:WKS):Prop:=bif x.b then True else(NK tr x).ok
def wbS:aH Ob:=fun args h=>match args,h with
 | [.ptr 0 0,.int .i64 tr],[some (.abs (.worker x) [])]=>some (.pre (TK tr x) (.ret (.bool (!x.b)) (JM (wbF tr x))))
 | _,_=>none
theorem aHu:sT' 95 wbS:=by
 intro args h o ho K hK;unfold wbS at ho;split at ho<;>cases ho
 rename_i tr x;obtain⟨ok,hK⟩:=hK;have hK:K (.bool (!x.b)) (JM (wbF tr x)):=hK;unfold wbF at hK;unfold TK at ok;cases e:x.b with
 | false=>
   rw [e]at ok hK;exact aJ2 (root:=0) (pos:=[]) (cs:=[]) (parse:=wbP) (fin:=fun y=>.ret (.bool true) (JM y)) aE2 (aQ.unpack (.worker x) 0 0 (mH x) [] rfl (congrArg (Prod.mk 0) (oW e)) rfl rfl) (aAh tr x _ (aJ5 ok hK))
 | true=>
   rw [e]at hK;exact aJ6 (h2:=pP x) (aQ.unpack (.worker x) 0 0 (pP x) [] rfl (congrArg (Prod.mk 0) (wE e)) rfl rfl) (aIT tr x K hK)
noncomputable def EW2:=EW1.addS 95 wbS aHu
structure WkO where
 code:Int
 okk:Bool
 val:Int
 d:Bool
 x:WKS
 s:MS
instance:Inhabited WkO:=⟨⟨0,false,0,false,default,⟨0,0,[],0,0,0,0,0,false⟩⟩⟩
abbrev NT(y:WkO):aC Ob:=[some (.abs (.worker y.x) []),none,none,none,none,none,aX 7 y.s,aY y.s]
abbrev wkV(y:WkO):AVal:=.tup [.agg [.I y.code,.bool y.okk,.I y.val],.bool y.d]
def aE7(v:AVal)(g:aC Ob):Option (Prop×WkO):=match v,g with
 | .tup [.agg [.int .i64 code,.bool okk,.int .i64 val],.bool dn],[some (.cells [.ptr 1 0,.tslice 2 0 k 3,.int .i64 en,.ptr 3 0,.slice 4 0 a 1,.slice 5 0 b 1]),some (.abs (.store t n st) []),some (.tab [some .i64,some .i64,some .i64] tk),some (.abs (.doer t1 n1 d) [1]),some (.ints (some .i64) tl),some (.ints (some .i64) sl),e1,e2]=>(match cJ 7 [e1,e2]with
   | some (l,s)=>some (k=tk.length/\a=tl.length/\b=sl.length/\t1=t/\n1=n/\l=s.xs.length,⟨code,okk,val,dn,⟨t,n,st,tk,en,true,d,tl,sl⟩,s⟩)
   | none=>none)
 | _,_=>none
def aE6(v:AVal)(g:aC Ob):Option (Prop×WkO):=match v,g with
 | .tup [.agg [.int .i64 code,.bool okk,.int .i64 val],.bool dn],[some (.cells [.ptr 1 0,.tslice 2 0 k 3,.int .i64 en,.raw (.pointer none),.slice 4 0 a 1,.slice 5 0 b 1]),some (.abs (.store t n st) []),some (.tab [some .i64,some .i64,some .i64] tk),_,some (.ints (some .i64) tl),some (.ints (some .i64) sl),e1,e2]=>(match cJ 7 [e1,e2]with
   | some (l,s)=>some (k=tk.length/\a=tl.length/\b=sl.length/\l=s.xs.length,⟨code,okk,val,dn,⟨t,n,st,tk,en,false,eO,tl,sl⟩,s⟩)
   | none=>none)
 | _,_=>none
def aE8(v:AVal)(g:aC Ob):Option (Prop×WkO):=match v,g with
 | .tup [.agg [.int .i64 code,.bool okk,.int .i64 val],.bool dn],[some (.cells [.ptr 1 0,.tslice 2 0 k 3,.int .i64 en,.raw (.pointer none),.slice 4 0 a 1,.slice 8 0 b 1]),some (.abs (.store t n st) []),some (.tab [some .i64,some .i64,some .i64] tk),_,some (.ints (some .i64) tl),_,e1,e2,some (.ints (some .i64) sl)]=>(match cJ 7 [e1,e2]with
   | some (l,s)=>some (k=tk.length/\a=tl.length/\b=sl.length/\l=s.xs.length,⟨code,okk,val,dn,⟨t,n,st,tk,en,false,eO,tl,sl⟩,s⟩)
   | none=>none)
 | _,_=>none
def wsP(v:AVal)(g:aC Ob):Option (Prop×WkO):=match aE7 v g with
 | some r=>some r
 | none=>(match aE6 v g with
   | some r=>some r
   | none=>aE8 v g)
theorem aAo:bO (obI tbl) 8 aE7 (fun y=>.ret (wkV y) (NT y)):=by
 intro v g p x hp hq K hK;unfold aE7 at hp;split at hp
 case h_2=>cases hp
 rename_i code okk val dn k en a b t n st tk t1 n1 d tl sl e1 e2;split at hp
 case h_2=>cases hp
 rename_i l s hm;cases hp;obtain⟨rfl,rfl,rfl,rfl,rfl,hl⟩:=hq;cases aZ hm hl;exact⟨⟨_,_,((aF.move 1 (of_decide_eq_true rfl)).trans ((aF.move 2 (of_decide_eq_true rfl)).trans ((aF.move 3 (of_decide_eq_true rfl)).trans ((aF.move 4 (of_decide_eq_true rfl)).trans ((aF.move 5 (of_decide_eq_true rfl)).trans ((aJ8 (v2:=wkV ⟨code,okk,val,dn,⟨t1,n1,st,tk,en,true,d,tl,sl⟩,s⟩) (g2:=aP (NT ⟨code,okk,val,dn,⟨t1,n1,st,tk,en,true,d,tl,sl⟩,s⟩) 0 0 (pP ⟨t1,n1,st,tk,en,true,d,tl,sl⟩) []) (by kernel_rfl) (by kernel_rfl)).trans (aF.pack (NT ⟨code,okk,val,dn,⟨t1,n1,st,tk,en,true,d,tl,sl⟩,s⟩) (.worker ⟨t1,n1,st,tk,en,true,d,tl,sl⟩) 0 0 (pP ⟨t1,n1,st,tk,en,true,d,tl,sl⟩) [] rfl rfl (congrArg (Prod.mk 0) (wE rfl)) (by kernel_rfl)))))))),hK⟩⟩
theorem aAn:bO (obI tbl) 8 aE6 (fun y=>.ret (wkV y) (NT y)):=by
 intro v g p x hp hq K hK;unfold aE6 at hp;split at hp
 case h_2=>cases hp
 rename_i code okk val dn k en a b t n st tk e3 tl sl e1 e2;split at hp
 case h_2=>cases hp
 rename_i l s hm;cases hp;obtain⟨rfl,rfl,rfl,hl⟩:=hq;cases aZ hm hl;exact⟨⟨_,_,((aF.weak (jR _ 3 none trivial)).trans ((aF.move 1 (of_decide_eq_true rfl)).trans ((aF.move 2 (of_decide_eq_true rfl)).trans ((aF.move 4 (of_decide_eq_true rfl)).trans ((aF.move 5 (of_decide_eq_true rfl)).trans ((aJ8 (v2:=wkV ⟨code,okk,val,dn,⟨t,n,st,tk,en,false,eO,tl,sl⟩,s⟩) (g2:=aP (NT ⟨code,okk,val,dn,⟨t,n,st,tk,en,false,eO,tl,sl⟩,s⟩) 0 0 (mH ⟨t,n,st,tk,en,false,eO,tl,sl⟩) []) (by kernel_rfl) (by kernel_rfl)).trans (aF.pack (NT ⟨code,okk,val,dn,⟨t,n,st,tk,en,false,eO,tl,sl⟩,s⟩) (.worker ⟨t,n,st,tk,en,false,eO,tl,sl⟩) 0 0 (mH ⟨t,n,st,tk,en,false,eO,tl,sl⟩) [] rfl rfl (congrArg (Prod.mk 0) (oW rfl)) (by kernel_rfl)))))))),hK⟩⟩
theorem aAp:bO (obI tbl) 8 aE8 (fun y=>.ret (wkV y) (NT y)):=by
 intro v g p x hp hq K hK;unfold aE8 at hp;split at hp
 case h_2=>cases hp
 rename_i code okk val dn k en a b t n st tk e3 tl e4 e1 e2 sl;split at hp
 case h_2=>cases hp
 rename_i l s hm;cases hp;obtain⟨rfl,rfl,rfl,hl⟩:=hq;cases aZ hm hl;exact⟨⟨_,_,((aF.weak (jR _ 3 none trivial)).trans ((aF.weak (jR _ 5 none trivial)).trans ((aF.move 1 (of_decide_eq_true rfl)).trans ((aF.move 2 (of_decide_eq_true rfl)).trans ((aF.move 4 (of_decide_eq_true rfl)).trans ((aF.move 8 (of_decide_eq_true rfl)).trans ((aF.pick [0,1,2,3,4,5,6,7,9,10,11,12] rfl).trans ((aJ8 (v2:=wkV ⟨code,okk,val,dn,⟨t,n,st,tk,en,false,eO,tl,sl⟩,s⟩) (g2:=aP (NT ⟨code,okk,val,dn,⟨t,n,st,tk,en,false,eO,tl,sl⟩,s⟩) 0 0 (mH ⟨t,n,st,tk,en,false,eO,tl,sl⟩) []) (by kernel_rfl) (by kernel_rfl)).trans (aF.pack (NT ⟨code,okk,val,dn,⟨t,n,st,tk,en,false,eO,tl,sl⟩,s⟩) (.worker ⟨t,n,st,tk,en,false,eO,tl,sl⟩) 0 0 (mH ⟨t,n,st,tk,en,false,eO,tl,sl⟩) [] rfl rfl (congrArg (Prod.mk 0) (oW rfl)) (by kernel_rfl)))))))))),hK⟩⟩
theorem aE9:bO (obI tbl) 8 wsP (fun y=>.ret (wkV y) (NT y)):=by
 intro v g p x hp hq K hK;unfold wsP at hp;split at hp
 ·rename_i r hr;cases hp;exact aAo v g p x hr hq K hK
 split at hp
 ·rename_i r hr;cases hp;exact aAn v g p x hr hq K hK
 exact aAp v g p x hp hq K hK
abbrev w2c(s:MS)(x:WK1):=tE x.1 x.2 x.6 x.3 s
abbrev w2d(x:WK1):=W (List.getD x.7 (0+Int.toNat x.5*1) 0+1)
def wsT(x:WK1)(s:MS):Tr WkO:=.pre ((0:Int)<=x.5/\x.5<(↑x.7.length:Int)) (.pre (0+Int.toNat x.5*(1:Nat)<x.7.length) (.pre ((0:Int)<=x.5/\x.5<(↑x.7.length:Int)) (.pre (0+Int.toNat x.5*(1:Nat)<x.7.length) (.pre ((lE' s.3/\x.1=x.1/\x.2=x.2)/\VZ x.1 x.2 x.6 x.3 s) (.ite (w2c s x).1 (.ite (DqO.x (w2c s x)).4 (.pre (0=0/\lE' x.8/\1=1/\x.8.length+(1:Nat)<=(4294967296:Nat)) (.pre (lE' x.4/\x.7.length=List.length (List.set x.7 (0+Int.toNat x.5*1) (w2d x))/\x.8.length+(1:Nat)=List.length (x.8++ [x.5])/\lE' (DqO.s (w2c s x)).3) (.ret {code:=(DqO.x (w2c s x)).1,okk:=(DqO.x (w2c s x)).2,val:=(DqO.x (w2c s x)).3,d:=true,x:= {x with st:=(w2c s x).3,en:=W (x.5+1),b:=false,d:=eO,tl:=List.set x.7 (0+Int.toNat x.5*1) (w2d x),sl:=x.8++ [x.5] },s:=(w2c s x).4}))) (.pre (lE' x.4/\x.7.length=List.length (List.set x.7 (0+Int.toNat x.5*1) (w2d x))/\lE' x.8/\lE' (DqO.s (w2c s x)).3) (.ret {code:=(DqO.x (w2c s x)).1,okk:=(DqO.x (w2c s x)).2,val:=(DqO.x (w2c s x)).3,d:=true,x:= {x with st:=(w2c s x).3,en:=W (x.5+1),b:=false,d:=eO,tl:=List.set x.7 (0+Int.toNat x.5*1) (w2d x),sl:=x.8},s:=(w2c s x).4}))) (.pre (lE' x.4/\x.7.length=List.length (List.set x.7 (0+Int.toNat x.5*1) (w2d x))/\lE' x.8/\x.1=x.1/\x.2=x.2/\lE' (DqO.s (w2c s x)).3) (.ret {code:=0,okk:=false,val:=0,d:=false,x:= {x with st:=(w2c s x).3,b:=true,d:=(w2c s x).2,tl:=List.set x.7 (0+Int.toNat x.5*1) (w2d x),sl:=x.8},s:=(w2c s x).4})))))))
theorem aFa(x:WK1)(s:MS)(K:WkO->Prop)(h:(wsT x s).run K):cT' 97 [.ptr 0 0,.ptr 6 0] [cE' [.ptr 1 0,.tslice 2 0 x.tk.length 3,.I x.en,.ptr 3 0,.slice 4 0 x.tl.length 1,.slice 5 0 x.sl.length 1],some (.abs (.store x.t x.n x.st) []),some (.tab cK3 x.tk),some (.abs (.doer x.t x.n x.d) [1]),iI' x.tl,iI' x.sl,aX 7 s,aY s] (bS 8 0 [] [] wsP K):=by
 exact cM' (E:=EW2) (by kernel_rfl) h
def wsF(x:WK1)(s:MS):WkO:=(wsT x s).val
def aAm(x:WK1)(s:MS):Prop:=(wsT x s).ok
def wsS:aH Ob:=fun args h=>match args,h with
 | [.ptr 0 0,.ptr 6 0],[some (.cells [.ptr 1 0,.tslice 2 0 k 3,.int .i64 en,.ptr 3 0,.slice 4 0 a 1,.slice 5 0 b 1]),some (.abs (.store t n st) []),some (.tab [some .i64,some .i64,some .i64] tk),some (.abs (.doer t1 n1 d) [1]),some (.ints (some .i64) tl),some (.ints (some .i64) sl),e1,e2]=>(match cJ 7 [e1,e2]with
   | some (l,s)=>some (.pre ((k=tk.length/\a=tl.length/\b=sl.length/\t1=t/\n1=n/\l=s.xs.length)/\aAm ⟨t,n,st,tk,en,d,tl,sl⟩ s) (.ret (wkV (wsF ⟨t,n,st,tk,en,d,tl,sl⟩ s)) (NT (wsF ⟨t,n,st,tk,en,d,tl,sl⟩ s))))
   | none=>none)
 | _,_=>none
theorem aHB:sT' 97 wsS:=by
 intro args h o ho K hK;unfold wsS at ho;split at ho
 case h_2=>cases ho
 rename_i k en a b t n st tk t1 n1 d tl sl e1 e2;split at ho<;>cases ho
 rename_i l s hm;obtain⟨⟨⟨rfl,rfl,rfl,rfl,rfl,hl⟩,ok⟩,hK⟩:=hK;cases aZ hm hl;refine aKf (root:=0) (pos:=[]) (cs:=[]) (parse:=wsP) (fin:=fun y=>.ret (wkV y) (NT y)) aE9 ?_;exact aFa ⟨t1,n1,st,tk,en,d,tl,sl⟩ s _ (aJ5 ok hK)
noncomputable def EW3:=EW2.addS 97 wsS aHB
def dtS:aH Ob:=fun args h=>match args,h with
 | [.ptr 0 0],[some (.abs (.doer t n x) [1]),some (.abs (.store t2 n2 st) [])]=>some (.pre True (.ret (.agg [.I x.sh,.I x.kd,.I x.ky]) [some (.abs (.doer t n x) [1]),some (.abs (.store t2 n2 st) [])]))
 | _,_=>none
abbrev w2e(n n2:Int)(st:STS)(t t2:Int)(x:DOS):aC Ob:=[some (.abs (.doer t n x) [1]),some (.abs (.store t2 n2 st) [])]
abbrev w2f(x:DOS):List AVal:=[.I x.sh,.I x.kd,.I x.ky]
theorem aFZ(t n t2 n2:Int)(x:DOS)(st:STS)(K:AVal->aC Ob->Prop)(hK:K (.agg (w2f x)) (aP (w2e n n2 st t t2 x) 0 1 (iC t n x) [1])):cT' 96 [.ptr 0 0] (aP (w2e n n2 st t t2 x) 0 1 (iC t n x) [1]) K:=by
 refine aJ1 ?_;exact cM' (E:=EW3) (by kernel_rfl) hK
theorem aF0(t n t2 n2:Int)(x:DOS)(st:STS)(K:AVal->aC Ob->Prop)(hK:K (.agg (w2f x)) (aP (w2e n n2 st t t2 x) 0 1 (iD t n x) [1])):cT' 96 [.ptr 0 0] (aP (w2e n n2 st t t2 x) 0 1 (iD t n x) [1]) K:=by
 refine aJ1 ?_;exact cM' (E:=EW3) (by kernel_rfl) hK
theorem aF1(t n t2 n2:Int)(x:DOS)(st:STS)(K:AVal->aC Ob->Prop)(hK:K (.agg (w2f x)) (aP (w2e n n2 st t t2 x) 0 1 (iE t n x) [1])):cT' 96 [.ptr 0 0] (aP (w2e n n2 st t t2 x) 0 1 (iE t n x) [1]) K:=by
 refine aJ1 ?_;exact cM' (E:=EW3) (by kernel_rfl) hK
theorem aF2(t n t2 n2:Int)(x:DOS)(st:STS)(K:AVal->aC Ob->Prop)(hK:K (.agg (w2f x)) (aP (w2e n n2 st t t2 x) 0 1 (iF t n x) [1])):cT' 96 [.ptr 0 0] (aP (w2e n n2 st t t2 x) 0 1 (iF t n x) [1]) K:=by
 refine aJ1 ?_;exact cM' (E:=EW3) (by kernel_rfl) hK
theorem aF3(t n t2 n2:Int)(x:DOS)(st:STS)(K:AVal->aC Ob->Prop)(hK:K (.agg (w2f x)) (aP (w2e n n2 st t t2 x) 0 1 (iG t n x) [1])):cT' 96 [.ptr 0 0] (aP (w2e n n2 st t t2 x) 0 1 (iG t n x) [1]) K:=by
 refine aJ1 ?_;exact cM' (E:=EW3) (by kernel_rfl) hK
theorem aF4(t n t2 n2:Int)(x:DOS)(st:STS)(K:AVal->aC Ob->Prop)(hK:K (.agg (w2f x)) (aP (w2e n n2 st t t2 x) 0 1 (iH t n x) [1])):cT' 96 [.ptr 0 0] (aP (w2e n n2 st t t2 x) 0 1 (iH t n x) [1]) K:=by
 refine aJ1 ?_;exact cM' (E:=EW3) (by kernel_rfl) hK
theorem aF5(t n t2 n2:Int)(x:DOS)(st:STS)(K:AVal->aC Ob->Prop)(hK:K (.agg (w2f x)) (aP (w2e n n2 st t t2 x) 0 1 (f9 t n x) [1])):cT' 96 [.ptr 0 0] (aP (w2e n n2 st t t2 x) 0 1 (f9 t n x) [1]) K:=by
 refine aJ1 ?_;exact cM' (E:=EW3) (by kernel_rfl) hK
theorem aAL(t n t2 n2:Int)(x:DOS)(st:STS)(K:AVal->aC Ob->Prop)(hK:K (.agg (w2f x)) (aP (w2e n n2 st t t2 x) 0 1 (dW t n x) [1])):cT' 96 [.ptr 0 0] (aP (w2e n n2 st t t2 x) 0 1 (dW t n x) [1]) K:=by
 refine aJ1 ?_;exact cM' (E:=EW3) (by kernel_rfl) hK
theorem aF7(t n t2 n2:Int)(x:DOS)(st:STS)(K:AVal->aC Ob->Prop)(hK:K (.agg (w2f x)) (aP (w2e n n2 st t t2 x) 0 1 (iI t n x) [1])):cT' 96 [.ptr 0 0] (aP (w2e n n2 st t t2 x) 0 1 (iI t n x) [1]) K:=by
 refine aJ1 ?_;exact cM' (E:=EW3) (by kernel_rfl) hK
theorem aIh(t n t2 n2:Int)(x:DOS)(st:STS)(K:AVal->aC Ob->Prop)(hK:K (.agg (w2f x)) (aP (w2e n n2 st t t2 x) 0 1 (pA t n x) [1])):cT' 96 [.ptr 0 0] (aP (w2e n n2 st t t2 x) 0 1 (pA t n x) [1]) K:=by
 refine aJ1 ?_;exact cM' (E:=EW3) (by kernel_rfl) hK
theorem aF6:sT' 96 dtS:=by
 intro args h o ho K hK;unfold dtS at ho;split at ho<;>cases ho
 rename_i t n x t2 n2 st;obtain⟨_,hK⟩:=hK;have hK:K (.agg [.I x.sh,.I x.kd,.I x.ky]) [some (.abs (.doer t n x) [1]),some (.abs (.store t2 n2 st) [])]:=hK;refine aJ9 ?_
 by_cases e0:x.at'=0
 ·refine aJ6 (aQ.unpack (.doer t n x) 0 1 (f9 t n x) [1] rfl (congrArg (Prod.mk 1) (qB e0)) (by kernel_rfl) rfl) ?_
  exact aF5 t n t2 n2 x st _ ⟨⟨_,_,aF.pack [some (.abs (.doer t n x) [1]),some (.abs (.store t2 n2 st) [])] (.doer t n x) 0 1 (f9 t n x) [1] rfl rfl (congrArg (Prod.mk 1) (qB e0)) (by kernel_rfl),hK⟩⟩
 by_cases e1:x.at'=1
 ·refine aJ6 (aQ.unpack (.doer t n x) 0 1 (dW t n x) [1] rfl (congrArg (Prod.mk 1) (tL e1)) (by kernel_rfl) rfl) ?_
  exact aAL t n t2 n2 x st _ ⟨⟨_,_,aF.pack [some (.abs (.doer t n x) [1]),some (.abs (.store t2 n2 st) [])] (.doer t n x) 0 1 (dW t n x) [1] rfl rfl (congrArg (Prod.mk 1) (tL e1)) (by kernel_rfl),hK⟩⟩
 by_cases e5:x.at'=5
 ·refine aJ6 (aQ.unpack (.doer t n x) 0 1 (dW t n x) [1] rfl (congrArg (Prod.mk 1) (tP e5)) (by kernel_rfl) rfl) ?_
  exact aAL t n t2 n2 x st _ ⟨⟨_,_,aF.pack [some (.abs (.doer t n x) [1]),some (.abs (.store t2 n2 st) [])] (.doer t n x) 0 1 (dW t n x) [1] rfl rfl (congrArg (Prod.mk 1) (tP e5)) (by kernel_rfl),hK⟩⟩
 by_cases e2:x.at'=2
 ·refine aJ6 (aQ.unpack (.doer t n x) 0 1 (iF t n x) [1] rfl (congrArg (Prod.mk 1) (tM e2)) (by kernel_rfl) rfl) ?_
  exact aF2 t n t2 n2 x st _ ⟨⟨_,_,aF.pack [some (.abs (.doer t n x) [1]),some (.abs (.store t2 n2 st) [])] (.doer t n x) 0 1 (iF t n x) [1] rfl rfl (congrArg (Prod.mk 1) (tM e2)) (by kernel_rfl),hK⟩⟩
 by_cases e3:x.at'=3
 ·refine aJ6 (aQ.unpack (.doer t n x) 0 1 (iH t n x) [1] rfl (congrArg (Prod.mk 1) (tN e3)) (by kernel_rfl) rfl) ?_
  exact aF4 t n t2 n2 x st _ ⟨⟨_,_,aF.pack [some (.abs (.doer t n x) [1]),some (.abs (.store t2 n2 st) [])] (.doer t n x) 0 1 (iH t n x) [1] rfl rfl (congrArg (Prod.mk 1) (tN e3)) (by kernel_rfl),hK⟩⟩
 by_cases e4:x.at'=4
 ·refine aJ6 (aQ.unpack (.doer t n x) 0 1 (iC t n x) [1] rfl (congrArg (Prod.mk 1) (tO e4)) (by kernel_rfl) rfl) ?_
  exact aFZ t n t2 n2 x st _ ⟨⟨_,_,aF.pack [some (.abs (.doer t n x) [1]),some (.abs (.store t2 n2 st) [])] (.doer t n x) 0 1 (iC t n x) [1] rfl rfl (congrArg (Prod.mk 1) (tO e4)) (by kernel_rfl),hK⟩⟩
 by_cases e6:x.at'=6
 ·refine aJ6 (aQ.unpack (.doer t n x) 0 1 (iD t n x) [1] rfl (congrArg (Prod.mk 1) (tQ e6)) (by kernel_rfl) rfl) ?_
  exact aF0 t n t2 n2 x st _ ⟨⟨_,_,aF.pack [some (.abs (.doer t n x) [1]),some (.abs (.store t2 n2 st) [])] (.doer t n x) 0 1 (iD t n x) [1] rfl rfl (congrArg (Prod.mk 1) (tQ e6)) (by kernel_rfl),hK⟩⟩
 by_cases e7:x.at'=7
 ·refine aJ6 (aQ.unpack (.doer t n x) 0 1 (iG t n x) [1] rfl (congrArg (Prod.mk 1) (tR e7)) (by kernel_rfl) rfl) ?_
  exact aF3 t n t2 n2 x st _ ⟨⟨_,_,aF.pack [some (.abs (.doer t n x) [1]),some (.abs (.store t2 n2 st) [])] (.doer t n x) 0 1 (iG t n x) [1] rfl rfl (congrArg (Prod.mk 1) (tR e7)) (by kernel_rfl),hK⟩⟩
 by_cases e8:x.at'=8
 ·refine aJ6 (aQ.unpack (.doer t n x) 0 1 (iE t n x) [1] rfl (congrArg (Prod.mk 1) (tS e8)) (by kernel_rfl) rfl) ?_
  exact aF1 t n t2 n2 x st _ ⟨⟨_,_,aF.pack [some (.abs (.doer t n x) [1]),some (.abs (.store t2 n2 st) [])] (.doer t n x) 0 1 (iE t n x) [1] rfl rfl (congrArg (Prod.mk 1) (tS e8)) (by kernel_rfl),hK⟩⟩
 by_cases e9:x.at'=9
 ·refine aJ6 (aQ.unpack (.doer t n x) 0 1 (iI t n x) [1] rfl (congrArg (Prod.mk 1) (tT e9)) (by kernel_rfl) rfl) ?_
  exact aF7 t n t2 n2 x st _ ⟨⟨_,_,aF.pack [some (.abs (.doer t n x) [1]),some (.abs (.store t2 n2 st) [])] (.doer t n x) 0 1 (iI t n x) [1] rfl rfl (congrArg (Prod.mk 1) (tT e9)) (by kernel_rfl),hK⟩⟩
 refine aJ6 (aQ.unpack (.doer t n x) 0 1 (pA t n x) [1] rfl (congrArg (Prod.mk 1) (uT ⟨e0,e1,e5,e2,e3,e4,e6,e7,e8,e9⟩)) (by kernel_rfl) rfl) ?_
 exact aIh t n t2 n2 x st _ ⟨⟨_,_,aF.pack [some (.abs (.doer t n x) [1]),some (.abs (.store t2 n2 st) [])] (.doer t n x) 0 1 (pA t n x) [1] rfl rfl (congrArg (Prod.mk 1) (uT ⟨e0,e1,e5,e2,e3,e4,e6,e7,e8,e9⟩)) (by kernel_rfl),hK⟩⟩
noncomputable def EW4:=EW3.addS 96 dtS aF6
abbrev egH(x:EGS):aC Ob:=[some (.abs (.engine x) [])]
theorem jA(n:Nat)(hn:n<=1)(v:AVal)(hv:v.within (upto 0 1)=true)(x:EGS):aF (obI tbl) n v (egG x) v (egH x):=by
 refine aF.pack (egH x) (.engine x) 0 0 (egG x) [] (by kernel_rfl) rfl rfl ?_
 have h1:obOk 0 (egG x)=true:=by kernel_rfl
 have h2:iU (egH x) 0 []=true:=by kernel_rfl
 have h3:Nat.ble n (egH x).length =true:=Nat.ble_eq_true_of_le hn;have h4:v.within (upto 0 (egH x).length)=true:=hv;rw [h1,h2,h3,h4];rfl
def aGf(g:aC Ob):Option (Prop×EGS):=match g with
 | [some (.cells [.int .i64 sh,.int .i64 th,.int .i64 nd,.int .i64 tr,.ptr 1 0,.ptr 3 0,.slice 4 0 len 1,.int .i64 k]),e1,e2,some (.abs (.hist h) []),some (.abs (.whole ws i) [5]),some (.abs (.worker w) [])]=>(match cJ 2 [e1,e2]with
   | some (l,s)=>some (len=ws.length/\i<ws.length/\l=s.xs.length,⟨sh,th,nd,tr,s,h,dD ws i w,k⟩)
   | none=>none)
 | _=>none
def aGe(g:aC Ob):Option (Prop×EGS):=match g with
 | [some (.cells [.int .i64 sh,.int .i64 th,.int .i64 nd,.int .i64 tr,.ptr 1 0,.ptr 3 0,.slice 4 0 len 1,.int .i64 k]),e1,e2,some (.abs (.hist h) []),some (.abs (.wrow ws) [])]=>(match cJ 2 [e1,e2]with
   | some (l,s)=>some (len=ws.length/\l=s.xs.length,⟨sh,th,nd,tr,s,h,ws,k⟩)
   | none=>none)
 | _=>none
def egP(g:aC Ob):Option (Prop×EGS):=match aGf g with
 | some r=>some r
 | none=>aGe g
theorem BF(v:AVal)(hv:v.within (upto 0 1)=true)(hv5:kI (upto 0 5) v=v)(n:Nat)(hn:n<=1){g:aC Ob}{p:Prop}{x:EGS}(hp:egP g=some (p,x))(hq:p):aF (obI tbl) n v g v (egH x):=by
 unfold egP at hp;split at hp
 ·rename_i r hr;cases hp;unfold aGf at hr;split at hr
  case h_2=>cases hr
  rename_i sh th nd tr len k e1 e2 h ws i w;split at hr
  case h_2=>cases hr
  rename_i l s hm;simp only [sI',pI']at hr;obtain⟨rfl,rfl⟩:=hr;obtain⟨rfl,hi,hl⟩:=hq;cases aZ hm hl;refine(aF.back (l:=4) (k:=5) (i:=i) (ws:=ws) (w:=w) rfl rfl (by decide) hi).trans ?_
  have hlen:ws.length=(dD ws i w).length :=by simp [dD]
  have t1:=aF.pick (I:=obI tbl) (n:=n) (v:=v) (g:=([cE' [.I sh,.I th,.I nd,.I tr,.ptr 1 0,.ptr 3 0,.slice 4 0 ws.length 1,.I k],aX 2 s,aY s,some (.abs (.hist h) []),some (.abs (.wrow (dD ws i w)) []),none]:aC Ob)) (upto 0 5) (by
   have h1:dO (upto 0 5) 6=true:=by decide
   have h2:gO (upto 0 5) 0 n=true:=by
    match n,hn with
    | 0,_=>rfl
    | 1,_=>rfl
   show(dO (upto 0 5) 6&&gO (upto 0 5) 0 n)=true;rw [h1,h2];rfl)
  rw [hv5]at t1;refine t1.trans ?_;have t2:=jA n hn v hv ⟨sh,th,nd,tr,s,h,dD ws i w,k⟩;refine aF.trans (aJ8 rfl ?_) t2;show _=[some (aG.cells [.I sh,.I th,.I nd,.I tr,.ptr 1 0,.ptr 3 0,.slice 4 0 (dD ws i w).length 1,.I k]),_,_,_,_];rw [<-hlen];rfl
 ·unfold aGe at hp;split at hp
  case h_2=>cases hp
  rename_i sh th nd tr len k e1 e2 h ws hno;split at hp
  case h_2=>cases hp
  rename_i l s hm;cases hp;obtain⟨rfl,hl⟩:=hq;cases aZ hm hl;exact jA n hn v hv ⟨sh,th,nd,tr,s,h,ws,k⟩
def pkP(v:AVal)(g:aC Ob):Option (Prop×(Bool×EGS)):=match v with
 | .bool d=>(match egP g with
   | some (p,x)=>some (p,(d,x))
   | none=>none)
 | _=>none
theorem aEr:bO (obI tbl) 1 pkP (fun y=>.ret (.bool y.1) (egH y.2)):=by
 intro v g p x hp hq K hK;unfold pkP at hp;split at hp
 case h_2=>cases hp
 rename_i d;split at hp
 case h_2=>cases hp
 rename_i p' x' hx;cases hp;exact⟨⟨_,_,BF (.bool d) rfl rfl 1 (Nat.le_refl 1) hx hq,hK⟩⟩
instance:Inhabited EGS:=⟨⟨0,0,0,0,⟨0,0,[],0,0,0,0,0,false⟩,default,[],0⟩⟩
abbrev w2h(th:Int)(x:EGS):=bB x.7 (0+Int.toNat th*1)
abbrev w2g(th:Int)(x:EGS):=wbF x.4 (w2h th x)
def pkT(th:Int)(x:EGS):Tr (Bool×EGS):=.ite (ilt th 0) (.pre (lE' x.7/\lE' (EGS.s x).3) (.ret (false,x))) (.ite (ile (↑x.7.length:Int) th) (.pre (lE' x.7/\lE' (EGS.s x).3) (.ret (false,x))) (.pre ((0:Int)<=th/\th<(↑x.7.length:Int)) (.pre (0+Int.toNat th*(1:Nat)<x.7.length) (.pre True (.ite (ieq (W ((↑(List.length (w2h th x).4):Int) - (w2h th x).5)) 0) (.pre (lE' x.7/\0+Int.toNat th*(1:Nat)<x.7.length/\lE' (EGS.s x).3) (.ret (false,{x with ws:=dD x.7 (0+Int.toNat th*1) (w2h th x)}))) (.ite (ile 60000 x.8) (.pre (lE' x.7/\0+Int.toNat th*(1:Nat)<x.7.length/\lE' (EGS.s x).3) (.ret (false,{x with ws:=dD x.7 (0+Int.toNat th*1) (w2h th x)}))) (.pre (TK x.4 (w2h th x)) (.ite (!(w2h th x).6) (.pre (True/\True) (.pre (hbOk th x.6 (WK1.d (w2g th x)).6 (WK1.d (w2g th x)).7/\True) (.pre ((lE' (w2g th x).4/\lE' (w2g th x).7/\lE' (w2g th x).8/\(w2g th x).1=(w2g th x).1/\(w2g th x).2=(w2g th x).2/\lE' (EGS.s x).3)/\aAm (w2g th x) x.5) (.ite (wsF (w2g th x) x.5).4 (.pre (heOk th (hbF th x.6 (WK1.d (w2g th x)).6 (WK1.d (w2g th x)).7).2 (wsF (w2g th x) x.5).1 (wsF (w2g th x) x.5).2 (wsF (w2g th x) x.5).3/\True) (.pre (lE' x.7/\0+Int.toNat th*(1:Nat)<x.7.length/\lE' (WkO.s (wsF (w2g th x) x.5)).3) (.ret (true,{x with s:=(wsF (w2g th x) x.5).6,h:=(heF th (hbF th x.6 (WK1.d (w2g th x)).6 (WK1.d (w2g th x)).7).2 (wsF (w2g th x) x.5).1 (wsF (w2g th x) x.5).2 (wsF (w2g th x) x.5).3).2,ws:=dD x.7 (0+Int.toNat th*1) (wsF (w2g th x) x.5).5,k:=W (x.8+1) })))) (.pre (lE' x.7/\0+Int.toNat th*(1:Nat)<x.7.length/\lE' (WkO.s (wsF (w2g th x) x.5)).3) (.ret (true,{x with s:=(wsF (w2g th x) x.5).6,h:=(hbF th x.6 (WK1.d (w2g th x)).6 (WK1.d (w2g th x)).7).2,ws:=dD x.7 (0+Int.toNat th*1) (wsF (w2g th x) x.5).5,k:=W (x.8+1) }))))))) (.pre ((lE' (w2g th x).4/\lE' (w2g th x).7/\lE' (w2g th x).8/\(w2g th x).1=(w2g th x).1/\(w2g th x).2=(w2g th x).2/\lE' (EGS.s x).3)/\aAm (w2g th x) x.5) (.ite (wsF (w2g th x) x.5).4 (.pre (heOk th x.6 (wsF (w2g th x) x.5).1 (wsF (w2g th x) x.5).2 (wsF (w2g th x) x.5).3/\True) (.pre (lE' x.7/\0+Int.toNat th*(1:Nat)<x.7.length/\lE' (WkO.s (wsF (w2g th x) x.5)).3) (.ret (true,{x with s:=(wsF (w2g th x) x.5).6,h:=(heF th x.6 (wsF (w2g th x) x.5).1 (wsF (w2g th x) x.5).2 (wsF (w2g th x) x.5).3).2,ws:=dD x.7 (0+Int.toNat th*1) (wsF (w2g th x) x.5).5,k:=W (x.8+1) })))) (.pre (lE' x.7/\0+Int.toNat th*(1:Nat)<x.7.length/\lE' (WkO.s (wsF (w2g th x) x.5)).3) (.ret (true,{x with s:=(wsF (w2g th x) x.5).6,ws:=dD x.7 (0+Int.toNat th*1) (wsF (w2g th x) x.5).5,k:=W (x.8+1) })))))))))))))
theorem aEs(th:Int)(x:EGS)(K:Bool×EGS->Prop)(h:(pkT th x).run K):cT' 41 [.ptr 0 0,.I th] [cE' [.I x.sh,.I x.th,.I x.nd,.I x.tr,.ptr 1 0,.ptr 3 0,.slice 4 0 x.ws.length 1,.I x.k],aX 2 x.s,aY x.s,some (.abs (.hist x.h) []),some (.abs (.wrow x.ws) [])] (bS 1 0 [] [] pkP K):=by
 exact cM' (E:=EW4) (by kernel_rfl) h
def pkF(th:Int)(x:EGS):Bool×EGS:=(pkT th x).val
def RZ(th:Int)(x:EGS):Prop:=(pkT th x).ok
def pkS:aH Ob:=fun args h=>match args,h with
 | [.ptr 0 0,.int .i64 th],[some (.abs (.engine x) [])]=>some (.pre (RZ th x) (.ret (.bool (pkF th x).1) (egH (pkF th x).2)))
 | _,_=>none
theorem aHm:sT' 41 pkS:=by
 intro args h o ho K hK;unfold pkS at ho;split at ho<;>cases ho
 rename_i th x;obtain⟨ok,hK⟩:=hK;exact aJ2 (root:=0) (pos:=[]) (cs:=[]) (parse:=pkP) (fin:=fun y=>.ret (.bool y.1) (egH y.2)) aEr (aQ.unpack (.engine x) 0 0 (egG x) [] rfl rfl rfl rfl) (aEs th x _ (aJ5 ok hK))
noncomputable def EP1:=EW4.addS 41 pkS aHm
def rI:AVal->Int
 | .int _ n=>n
 | _=>0
def rK(row:Nat->List AVal)(i:Nat):Int:=rI ((row i).getD 0 .O)
def rY(row:Nat->List AVal)(i:Nat):Int:=rI ((row i).getD 1 .O)
structure zC (row:Nat->List AVal):Prop where
 h:row=fun i=>[.I (rK row i),.I (rY row i)]
def kH(sh:Int)(m:Nat)(f g:Nat->Int):List (List Int):=(List.range m).map fun j=>[sh,f j,g j]
def eN(sh:Int)(m:Nat)(f g:Nat->Int):Bool:=(List.range m).all fun j=>bR sh (f j) (g j)
theorem TC(sh:Int)(m:Nat)(f g:Nat->Int):kH sh (m+1) f g=kH sh m f g++ [[sh,f m,g m]]:=by
 unfold kH;rw [List.range_succ];simp
theorem pN(sh:Int)(m:Nat)(f g:Nat->Int):(kH sh m f g).length =m:=by unfold kH;simp
theorem oG{k:Int}{m:Nat}{f g:Nat->Int} :eN k m f g=true↔ ∀j,j<m->bR k (f j) (g j)=true:=by
 unfold eN;simp
def TW(sh:Int)(m:Nat)(f g:Nat->Int):Hint Ob:= {X:=Nat,st:=fun x=>([.I sh,.O,.O,.O,.O,.I 0,.tslice 0 0 x 3,.O,.O,.view m 2 (fun i=>[.I (f i),.I (g i)]),.I (m:Int),.I (x:Int)]++List.replicate 15 .O,[some (.tab cK3 (kH sh x f g))]),ok:=fun x=>x<=m/\ ∀j,j<x->bR sh (f j) (g j)=true,mu:=fun x=>m - x,keep:=[0,5,6,9,10,11],casts:=[(.slot 6,.tab cK3)] }
def aEo(sh:Int)(m:Nat)(f g:Nat->Int)(K:AVal->aC Ob->Prop):Prop:=dJ (TW sh m f g) (Hint.ok (TW sh m f g)) (.I sh::.O::.O::.O::.O::.I 0::.tslice 0 0 0 3::.O::.O::(.view m 2 fun i=>[.I (f i),.I (g i)])::.I (↑m:Int)::.I 0::(tO' 15 [])) [some (.tab cK3 [])]/\ ∀(x:Nat),(x<=m/\ ∀(j:Nat),j<x->bR sh (f j) (g j)=true)->bif ilt (↑x:Int) (↑m:Int)then((0:Int)<=(↑x:Int)/\(↑x:Int)<(↑m:Int))/\True/\bif !bR sh (f (Int.toNat (↑x:Int))) (g (Int.toNat (↑x:Int)))then K (.tup [.raw (Value.slice none 0 0),.I 1]) []else(0=0/\x=List.length (kH sh x f g)/\x+(1:Nat)<=(4294967296:Nat))/\dJ (TW sh m f g) (fun x'=>Hint.ok (TW sh m f g) x'/\Hint.mu (TW sh m f g) x'<Hint.mu (TW sh m f g) x) (.I sh::.O::.O::.O::.O::.I 0::.tslice 0 0 (x+1) 3::.O::.O::(.view m 2 fun i=>[.I (f i),.I (g i)])::.I (↑m:Int)::.I (W ((↑x:Int)+1))::(tO' 15 [])) [some (.tab cK3 (kH sh x f g++ [[sh,f (Int.toNat (↑x:Int)),g (Int.toNat (↑x:Int))]]))]else K (.tup [.tslice 0 0 x 3,.I 0]) [some (.tab cK3 (kH sh x f g))]
theorem RM(sh:Int)(m:Nat)(f g:Nat->Int)(K:AVal->aC Ob->Prop)(h:aEo sh m f g K):cT' 82 [.I sh,.view m 2 (fun i=>[.I (f i),.I (g i)])] [] K:=by
 refine aJ1 (aD (E:=EP1) Tryz.checked.mixed (L:=fun _ _=>some (.states (TW sh m f g))) (n:=10) (aK (by kernel_rfl) h))
def lgB(th:Int)(m:Nat)(ln:Nat->Nat):Bool:=(List.range m).any (fun i=>decide (40<ln i))||ilt th (m:Int)
theorem RA{th:Int}{m:Nat}{ln:Nat->Nat} :lgB th m ln=false↔(∀i,i<m->ln i<=40)/\(m:Int)<=th:=by
 unfold lgB;rw [bI];simp
theorem I5{th:Int}{m:Nat}{ln:Nat->Nat}(h:(∃i,i<m/\40<ln i)\/th<(m:Int)):lgB th m ln=true:=by
 unfold lgB;rw [bI];simp;exact h
def UE(sh th nd tr:Int)(m:Nat)(ln:Nat->Nat)(f g:Nat->Nat->Int):Hint Ob:= {X:=Nat,st:=fun x=>([.O,.view m 1 (fun i=>[.view (ln i) 2 (fun j=>[.I (f i j),.I (g i j)])]),.ptr 0 0,.O,.O,.O,.O,.view m 1 (fun i=>[.view (ln i) 2 (fun j=>[.I (f i j),.I (g i j)])]),.I (m:Int),.I (x:Int)]++List.replicate 12 .O,[cE' [.I sh,.I th,.I nd,.I tr]]),ok:=fun x=>x<=m/\ ∀j,j<x->ln j<=40,mu:=fun x=>m - x,keep:=[1,2,7,8,9] }
def aD9(sh th nd tr:Int)(m:Nat)(ln:Nat->Nat)(f g:Nat->Nat->Int)(K:AVal->aC Ob->Prop):Prop:=dJ (UE sh th nd tr m ln f g) (Hint.ok (UE sh th nd tr m ln f g)) [.O,.view m 1 fun i=>[.view (ln i) 2 fun j=>[.I (f i j),.I (g i j)]],.ptr 0 0,.O,.O,.O,.O,.view m 1 fun i=>[.view (ln i) 2 fun j=>[.I (f i j),.I (g i j)]],.I (↑m:Int),.I 0,.O,.O,.O,.O,.O,.O,.O,.O,.O,.O,.O,.O] [cE' [.I sh,.I th,.I nd,.I tr]]/\ ∀(x:Nat),(x<=m/\ ∀(j:Nat),j<x->ln j<=(40:Nat))->bif ilt (↑x:Int) (↑m:Int)then((0:Int)<=(↑x:Int)/\(↑x:Int)<(↑m:Int))/\bif ilt 40 (↑(ln (Int.toNat (↑x:Int))):Int)then K (.bool true) []else dJ (UE sh th nd tr m ln f g) (fun x'=>Hint.ok (UE sh th nd tr m ln f g) x'/\Hint.mu (UE sh th nd tr m ln f g) x'<Hint.mu (UE sh th nd tr m ln f g) x) [.O,.view m 1 fun i=>[.view (ln i) 2 fun j=>[.I (f i j),.I (g i j)]],.ptr 0 0,.O,.O,.O,.O,.view m 1 fun i=>[.view (ln i) 2 fun j=>[.I (f i j),.I (g i j)]],.I (↑m:Int),.I (W ((↑x:Int)+1)),.O,.O,.O,.O,.O,.O,.O,.O,.O,.O,.O,.O] [cE' [.I sh,.I th,.I nd,.I tr]]else K (.bool (ilt th (↑m:Int))) []
theorem RB(sh th nd tr:Int)(m:Nat)(ln:Nat->Nat)(f g:Nat->Nat->Int)(K:AVal->aC Ob->Prop)(h:aD9 sh th nd tr m ln f g K):cT' 80 [.agg [.I sh,.I th,.I nd,.I tr],.view m 1 (fun i=>[.view (ln i) 2 (fun j=>[.I (f i j),.I (g i j)])])] [] K:=by
 refine aJ1 (aD (E:=EP1) Tryz.checked.mixed (L:=fun _ _=>some (.states (UE sh th nd tr m ln f g))) (n:=10) (aK (by kernel_rfl) h))
def wrO(sh th nd tr:Int):Out Ob:=.ite (ilt sh 1) (.ret (.I 1) []) (.ite (ilt 4 sh) (.ret (.I 1) []) (.pre True (.ite (!eC th nd) (.ret (.I 2) []) (.ite (ilt tr 0) (.ret (.I 2) []) (.ite (ilt 50 tr) (.ret (.I 2) []) (.ret (.I 0) []))))))
theorem aF.castTup{I:Itp Ob}{n:Nat}{K:f5}{a a' b:AVal}{g g':aC Ob}(hc:AV K a g=some (a',g')):aF I n (.tup [a,b]) g (.tup [a',b]) g':=by
 intro V hR w x h1 h2 h3 h4;obtain⟨cs,rfl,va,vs,e,ra,vb,vs2,e2,rb,r3⟩:=h4;obtain⟨V',⟨c1,c2,c3,c4⟩,r⟩:=uN hc h1 h2 ra;exact⟨V',fun l y _ hy=>c1 l y hy,c2,by omega,⟨cs,rfl,va,vs,e,r,vb,vs2,e2,Rep.mono c1 _ _ rb,r3⟩,c4⟩
def ofR(sh:Int)(m:Nat)(f g:Nat->Int):List (List Int):=bif eN sh m f g then kH sh m f g else []
def ofC(sh:Int)(m:Nat)(f g:Nat->Int):Int:=bif eN sh m f g then 0 else 1
theorem aHh(sh:Int)(m:Nat)(f g:Nat->Int)(K:AVal->aC Ob->Prop)(hm:m<=1000000)(hK:K (.tup [.tslice 0 0 (ofR sh m f g).length 3,.I (ofC sh m f g)]) [some (.tab cK3 (ofR sh m f g))]):aEo sh m f g (cO (obI tbl) 0 K):=by
 refine⟨aR (H:=TW sh m f g) (0:Nat) rfl ⟨Nat.zero_le _,fun j hj=>by omega⟩,?_⟩
 rintro x ⟨hx,hj⟩;refine aJ (fun e=>?_) (fun e=>?_)
 ·rw [bI,dT']at e;refine⟨⟨by omega,by omega⟩,trivial,aJ (fun e2=>?_) (fun e2=>?_)⟩
  ·have hf:eN sh m f g=false:=by
    cases h:eN sh m f g with
    | false=>rfl
    | true=>
      have:=oG.1 h x (by omega)
      rw [Int.toNat_natCast]at e2;rw [this]at e2;cases e2
   unfold ofR ofC at hK;rw [hf]at hK;exact⟨⟨_,_,aF.castTup (K:=.tab cK3) rfl,hK⟩⟩
  ·have e4:W ((x:Int)+1)=((x+1:Nat):Int):=by rw [W,cH (by omega)];rfl
   refine⟨⟨rfl,(pN sh x f g).symm,by omega⟩,aR (H:=TW sh m f g) (x+1:Nat) ?_ ⟨⟨by show x+1<=m;omega,?_⟩,by show m - (x+1)<m - x;omega⟩⟩
   ·simp only [TW,TC,e4,Int.toNat_natCast]<;>rfl
   intro j hj2
   by_cases hjx:j=x
   ·subst hjx;rw [Int.toNat_natCast]at e2
    simpa using e2
   ·exact hj j (by omega)
 ·rw [bI,dF']at e;have ht:eN sh m f g=true:=oG.2 fun j hj3=>hj j (by omega)
  have hxm:x=m:=by omega
  subst hxm;unfold ofR ofC at hK;rw [ht]at hK;have hl:=pN sh x f g;simp only [cond_true]at hK;rw [hl]at hK;exact⟨⟨_,_,aKi _ _ _,hK⟩⟩
def ofS:aH Ob:=fun args h=>match args,h with
 | [.int .i64 sh,.view m 2 row],[]=>some (.pre (m<=1000000/\zC row) (.ret (.tup [.tslice 0 0 (ofR sh m (rK row) (rY row)).length 3,.I (ofC sh m (rK row) (rY row))]) [some (.tab cK3 (ofR sh m (rK row) (rY row)))]))
 | _,_=>none
theorem aHg:sT' 82 ofS:=by
 intro args h o ho K hK;unfold ofS at ho;split at ho<;>cases ho
 rename_i sh m row;obtain⟨⟨hm,⟨hr⟩⟩,hK⟩:=hK;rw [hr];refine aJ9 ?_;exact RM sh m (rK row) (rY row) _ (aHh sh m (rK row) (rY row) K hm hK)
def vL(vr:Nat->List AVal)(i:Nat):Nat:=match vr i with
 | [.view n _ _]=>n
 | _=>0
def vR(vr:Nat->List AVal)(i:Nat):Nat->List AVal:=match vr i with
 | [.view _ _ r]=>r
 | _=>fun _=>[]
def vK(vr:Nat->List AVal)(i j:Nat):Int:=rK (vR vr i) j
def vY(vr:Nat->List AVal)(i j:Nat):Int:=rY (vR vr i) j
structure fF (vr:Nat->List AVal):Prop where
 h:vr=fun i=>[.view (vL vr i) 2 (fun j=>[.I (vK vr i j),.I (vY vr i j)])]
theorem aG6(sh th nd tr:Int)(m:Nat)(ln:Nat->Nat)(f g:Nat->Nat->Int)(K:AVal->aC Ob->Prop)(hm:m<=1000000)(hK:K (.bool (lgB th m ln)) []):aD9 sh th nd tr m ln f g K:=by
 refine⟨aR (H:=UE sh th nd tr m ln f g) (0:Nat) rfl ⟨Nat.zero_le _,fun j hj=>by omega⟩,?_⟩
 rintro x ⟨hx,hj⟩;refine aJ (fun e=>?_) (fun e=>?_)
 ·rw [bI,dT']at e;refine⟨⟨by omega,by omega⟩,aJ (fun e2=>?_) (fun e2=>?_)⟩
  ·rw [bI,dT',Int.toNat_natCast]at e2;rw [I5 (.inl ⟨x,by omega,by omega⟩)]at hK
   exact hK
  ·rw [bI,dF',Int.toNat_natCast]at e2;have e4:W ((x:Int)+1)=((x+1:Nat):Int):=by rw [W,cH (by omega)];rfl
   refine aR (H:=UE sh th nd tr m ln f g) (x+1:Nat) (by simp only [e4]<;>rfl) ⟨⟨by show x+1<=m;omega,?_⟩,by show m - (x+1)<m - x;omega⟩
   intro j hj2
   by_cases hjx:j=x
   ·subst hjx;omega
   ·exact hj j (by omega)
 ·rw [bI,dF']at e
  have e2:lgB th m ln=ilt th (m:Int):=by
   cases h:ilt th (m:Int)with
   | true=>rw [bI,dT']at h;exact I5 (.inr h)
   | false=>rw [bI,dF']at h;exact RA.2 ⟨fun j hj3=>hj j (by omega),by omega⟩
  rw [e2]at hK;exact hK
def lgS:aH Ob:=fun args h=>match args,h with
 | [.agg [.int .i64 sh,.int .i64 th,.int .i64 nd,.int .i64 tr],.view m 1 vr],[]=>some (.pre (m<=1000000/\fF vr) (.ret (.bool (lgB th m (vL vr))) []))
 | _,_=>none
theorem aG5:sT' 80 lgS:=by
 intro args h o ho K hK;unfold lgS at ho;split at ho<;>cases ho
 rename_i sh th nd tr m vr;obtain⟨⟨hm,⟨hr⟩⟩,hK⟩:=hK;rw [hr];exact RB sh th nd tr m (vL vr) (vK vr) (vY vr) K (aG6 sh th nd tr m (vL vr) (vK vr) (vY vr) K hm hK)
def wrE(sh th nd tr:Int):Int:=bif ilt sh 1 then 1 else bif ilt 4 sh then 1 else bif !eC th nd then 2 else bif ilt tr 0 then 2 else bif ilt 50 tr then 2 else 0
def wrS:aH Ob:=fun args h=>match args,h with
 | [.agg [.int .i64 sh,.int .i64 th,.int .i64 nd,.int .i64 tr]],[]=>some (.pre True (.ret (.I (wrE sh th nd tr)) []))
 | _,_=>none
theorem aHz:sT' 79 wrS:=by
 intro args h o ho K hK;unfold wrS at ho;split at ho<;>cases ho
 rename_i sh th nd tr;obtain⟨_,hK⟩:=hK;have hK:K (.I (wrE sh th nd tr)) []:=hK;refine aJ1 (cM' (E:=EP1) (q:=(wrO sh th nd tr).run K) (by kernel_rfl) ?_)
 unfold wrE at hK
 refine aJ (fun e1=>?_) (fun e1=>aJ (fun e2=>?_) (fun e2=>⟨trivial,aJ (fun e3=>?_) (fun e3=>aJ (fun e4=>?_) (fun e4=>aJ (fun e5=>?_) (fun e5=>?_)))⟩))<;>
  (simp only [*,cond_true,cond_false]at hK;exact hK)
def nwP(t n u:Int)(v:AVal)(g:aC Ob):Option (Prop×WKS):=match v,g with
 | .ptr 1 0,[some (.tab [some .i64,some .i64,some .i64] tk),some (.cells [.ptr 2 0,.tslice 0 0 k 3,.int .i64 en,.raw (.pointer none),.slice 4 0 a 1,.slice 5 0 b 1]),some (.cells [.int .i64 t1,.int .i64 n1,.int .i64 me,.int .i64 sp,.slice 3 0 c 1]),some (.ints (some .i64) R),some (.ints (some .i64) tl),some (.ints (some .i64) sl)]=>
   some (k=tk.length/\a=tl.length/\b=sl.length/\c=R.length,⟨t1,n1,⟨me,sp,R⟩,tk,en,false,eO,tl,sl⟩)
 | _,_=>none
theorem aEl(t n u:Int):bO (obI tbl) 1 (nwP t n u) (fun y=>.ret (.ptr 1 0) [none,some (.abs (.worker y) [])]):=by
 intro v g p x hp hq K hK;unfold nwP at hp;split at hp
 case h_2=>cases hp
 rename_i tk k en a b t1 n1 me sp c R tl sl;cases hp;obtain⟨rfl,rfl,rfl,rfl⟩:=hq;have hK:K (.ptr 1 0) [none,some (.abs (.worker (⟨t1,n1,⟨me,sp,R⟩,tk,en,false,eO,tl,sl⟩:WKS)) [])]:=hK
 exact⟨⟨_,_,(aF.move 3 (of_decide_eq_true rfl)).trans ((aJ8 (v2:=.ptr 1 0) (g2:=aP [some (.tab cK3 tk),cE' [.ptr 2 0,.tslice 0 0 tk.length 3,.I en,.raw (.pointer none),.slice 4 0 tl.length 1,.slice 5 0 sl.length 1],some (.abs (.store t1 n1 ⟨me,sp,R⟩) []),none,iI' tl,iI' sl] 2 0 (dK t1 n1 ⟨me,sp,R⟩) []) (by kernel_rfl) (by kernel_rfl)).trans
  ((aF.pack [some (.tab cK3 tk),cE' [.ptr 2 0,.tslice 0 0 tk.length 3,.I en,.raw (.pointer none),.slice 4 0 tl.length 1,.slice 5 0 sl.length 1],some (.abs (.store t1 n1 ⟨me,sp,R⟩) []),none,iI' tl,iI' sl] (.store t1 n1 ⟨me,sp,R⟩) 2 0 (dK t1 n1 ⟨me,sp,R⟩) [] rfl rfl rfl (by kernel_rfl)).trans
  ((aF.move 0 (of_decide_eq_true rfl)).trans ((aF.move 4 (of_decide_eq_true rfl)).trans ((aF.move 5 (of_decide_eq_true rfl)).trans ((aF.pick [0,1,2,6,7,8] rfl).trans
  ((aJ8 (v2:=.ptr 1 0) (g2:=aP [none,some (.abs (.worker (⟨t1,n1,⟨me,sp,R⟩,tk,en,false,eO,tl,sl⟩:WKS)) [])] 1 0 (mH (⟨t1,n1,⟨me,sp,R⟩,tk,en,false,eO,tl,sl⟩:WKS)) []) (by kernel_rfl) (by kernel_rfl)).trans
  (aF.pack [none,some (.abs (.worker (⟨t1,n1,⟨me,sp,R⟩,tk,en,false,eO,tl,sl⟩:WKS)) [])] (.worker (⟨t1,n1,⟨me,sp,R⟩,tk,en,false,eO,tl,sl⟩:WKS)) 1 0 (mH (⟨t1,n1,⟨me,sp,R⟩,tk,en,false,eO,tl,sl⟩:WKS)) [] rfl rfl (congrArg (Prod.mk 0) (oW rfl)) (by kernel_rfl))))))))),hK⟩⟩
def nvP(t n u:Int)(v:AVal)(g:aC Ob):Option (Prop×WKS):=match v,g with
 | .ptr 0 0,[some (.cells [.ptr 1 0,.tslice 3 0 k 3,.int .i64 en,.raw (.pointer none),.slice 4 0 a 1,.slice 5 0 b 1]),some (.cells [.int .i64 t1,.int .i64 n1,.int .i64 me,.int .i64 sp,.slice 2 0 c 1]),some (.ints (some .i64) R),some (.tab [some .i64,some .i64,some .i64] tk),some (.ints (some .i64) tl),some (.ints (some .i64) sl)]=>
   some (k=tk.length/\a=tl.length/\b=sl.length/\c=R.length,⟨t1,n1,⟨me,sp,R⟩,tk,en,false,eO,tl,sl⟩)
 | _,_=>none
theorem aEj(t n u:Int):bO (obI tbl) 0 (nvP t n u) (fun y=>.ret (.ptr 0 0) [some (.abs (.worker y) [])]):=by
 intro v g p x hp hq K hK;unfold nvP at hp;split at hp
 case h_2=>cases hp
 rename_i k en a b t1 n1 me sp c R tk tl sl;cases hp;obtain⟨rfl,rfl,rfl,rfl⟩:=hq;have hK:K (.ptr 0 0) [some (.abs (.worker (⟨t1,n1,⟨me,sp,R⟩,tk,en,false,eO,tl,sl⟩:WKS)) [])]:=hK
 exact⟨⟨_,_,(aF.move 2 (of_decide_eq_true rfl)).trans ((aJ8 (v2:=.ptr 0 0) (g2:=aP [cE' [.ptr 1 0,.tslice 3 0 tk.length 3,.I en,.raw (.pointer none),.slice 4 0 tl.length 1,.slice 5 0 sl.length 1],some (.abs (.store t1 n1 ⟨me,sp,R⟩) []),none,some (.tab cK3 tk),iI' tl,iI' sl] 1 0 (dK t1 n1 ⟨me,sp,R⟩) []) (by kernel_rfl) (by kernel_rfl)).trans
  ((aF.pack [cE' [.ptr 1 0,.tslice 3 0 tk.length 3,.I en,.raw (.pointer none),.slice 4 0 tl.length 1,.slice 5 0 sl.length 1],some (.abs (.store t1 n1 ⟨me,sp,R⟩) []),none,some (.tab cK3 tk),iI' tl,iI' sl] (.store t1 n1 ⟨me,sp,R⟩) 1 0 (dK t1 n1 ⟨me,sp,R⟩) [] rfl rfl rfl (by kernel_rfl)).trans
  ((aF.pick [0,1,3,4,5] rfl).trans
  ((aJ8 (v2:=.ptr 0 0) (g2:=aP [some (.abs (.worker (⟨t1,n1,⟨me,sp,R⟩,tk,en,false,eO,tl,sl⟩:WKS)) [])] 0 0 (mH (⟨t1,n1,⟨me,sp,R⟩,tk,en,false,eO,tl,sl⟩:WKS)) []) (by kernel_rfl) (by kernel_rfl)).trans
  (aF.pack [some (.abs (.worker (⟨t1,n1,⟨me,sp,R⟩,tk,en,false,eO,tl,sl⟩:WKS)) [])] (.worker (⟨t1,n1,⟨me,sp,R⟩,tk,en,false,eO,tl,sl⟩:WKS)) 0 0 (mH (⟨t1,n1,⟨me,sp,R⟩,tk,en,false,eO,tl,sl⟩:WKS)) [] rfl rfl (congrArg (Prod.mk 0) (oW rfl)) (by kernel_rfl)))))),hK⟩⟩
def nwT(t n u:Int)(tk:List (List Int)):Tr WKS:=.pre (lE' tk/\0=0/\0=0/\0=0) (.ret {t:=t,n:=n,st:= {me:=u,sp:=0,R:=[] },tk:=tk,en:=0,b:=false,d:=eO,tl:=[],sl:=[] })
theorem aEm(t n u:Int)(tk:List (List Int))(K:AVal->aC Ob->Prop)(h:(nwT t n u tk).run (fun y=>(Out.ret (.ptr 1 0) [none,some (.abs (.worker y) [])]).run K)):cT' 83 [.agg [.I t,.I n],.I u,.tslice 0 0 tk.length 3] [some (.tab cK3 tk)] K:=by
 refine aKf (root:=1) (pos:=[]) (cs:=[(.cell 1 4,.ints (some .i64)),(.cell 1 5,.ints (some .i64)),(.cell 2 4,.ints (some .i64))]) (parse:=nwP t n u) (aEl t n u) ?_;exact cM' (E:=EP1) (by kernel_rfl) h
def nvT(t n u:Int):Tr WKS:=.pre (0=0/\0=0/\0=0/\0=0) (.ret {t:=t,n:=n,st:= {me:=u,sp:=0,R:=[] },tk:=[],en:=0,b:=false,d:=eO,tl:=[],sl:=[] })
theorem aEk(t n u:Int)(K:AVal->aC Ob->Prop)(h:(nvT t n u).run (fun y=>(Out.ret (.ptr 0 0) [some (.abs (.worker y) [])]).run K)):cT' 83 [.agg [.I t,.I n],.I u,.raw (.slice none 0 0)] [] K:=by
 refine aKf (root:=0) (pos:=[]) (cs:=[(.cell 0 1,.tab cK3),(.cell 0 4,.ints (some .i64)),(.cell 0 5,.ints (some .i64)),(.cell 1 4,.ints (some .i64))]) (parse:=nvP t n u) (aEj t n u) ?_;exact cM' (E:=EP1) (by kernel_rfl) h
def ZB(t n u:Int)(tk:List (List Int)):WKS:=(nwT t n u tk).val
def nwS:aH Ob:=fun args h=>match args,h with
 | [.agg [.int .i64 t,.int .i64 n],.int .i64 u,.tslice 0 0 k 3],[some (.tab [some .i64,some .i64,some .i64] tk)]=>some (.pre (k=tk.length) (.ret (.ptr 1 0) [none,some (.abs (.worker (ZB t n u tk)) [])]))
 | _,_=>none
theorem aHf:sT' 83 nwS:=by
 intro args h o ho K hK;unfold nwS at ho;split at ho<;>cases ho
 rename_i t n u k tk;obtain⟨rfl,hK⟩:=hK;exact aEm t n u tk K (aJ5 ⟨⟨rfl,rfl,rfl,rfl⟩,trivial⟩ hK)
def nvS:aH Ob:=fun args h=>match args,h with
 | [.agg [.int .i64 t,.int .i64 n],.int .i64 u,.raw (.slice none 0 0)],[]=>some (.pre True (.ret (.ptr 0 0) [some (.abs (.worker (ZB t n u [])) [])]))
 | _,_=>none
theorem aHe:sT' 83 nvS:=by
 intro args h o ho K hK;unfold nvS at ho;split at ho<;>cases ho
 rename_i t n u;obtain⟨_,hK⟩:=hK;exact aEk t n u K (aJ5 ⟨⟨rfl,rfl,rfl,rfl⟩,trivial⟩ hK)
noncomputable def EU1:=(((EP1.addS 82 ofS aHg).addS 80 lgS aG5).addS 79 wrS aHz).addS 83 (aH.or nwS nvS) (aKs aHf aHe)
structure u6 (sh th:Int) (m:Nat) (ln:Nat->Nat) (f g:Nat->Nat->Int) (u:Int):Prop where
 hu:u<=th
 hg: ∀j:Nat,(j:Int)<u->j<m->eN sh (ln j) (f j) (g j)=true
def GY(a k:Nat):List AVal:=(List.range k).map fun j=>.ptr (a+j) 0
def z6(wf:Nat->WKS)(k:Nat):aC Ob:=(List.range k).map fun j=>some (.abs (.worker (wf j)) [])
abbrev mN:Option (aG Ob):=some (.abs (.hist ⟨[],[],0,0,0,0,0,0,0,0⟩) [])
def FX(th:Int)(m:Nat)(ln:Nat->Nat)(f g:Nat->Nat->Int)(x:Int):List AVal:=[.O,.view m 1 (fun i=>[.view (ln i) 2 (fun j=>[.I (f i j),.I (g i j)])]),.ptr 0 0,.O,.O,.O,.O,.ptr 1 0,.ptr 2 0]++List.replicate 24 .O ++ [.I th,.I x]++List.replicate 45 .O
def HN0(sh th nd tr:Int)(m:Nat)(ln:Nat->Nat)(f g:Nat->Nat->Int)(wf:Nat->WKS):Hint Ob:= {X:=Unit,st:=fun _=>(FX th m ln f g 0,[some (.cells [.int .i64 sh,.int .i64 th,.int .i64 nd,.int .i64 tr]),some (.cells [.int .i64 th,.int .i64 nd]),some (.cells [.int .i64 sh,.int .i64 th,.int .i64 nd,.int .i64 tr,.raw (.pointer none),.ptr 3 0,.raw (.slice none 0 0),.int .i64 0]),mN]),ok:=fun _=>u6 sh th m ln f g 0,mu:=fun _=>9,keep:=[1,2,7,8,33,34],sel:=fun tm _=>match tm.getD 34 .O with
 | .int _ n=>Nat.beq n.toNat 0
 | _=>false}
def HNk(k:Nat)(sh th nd tr:Int)(m:Nat)(ln:Nat->Nat)(f g:Nat->Nat->Int)(wf:Nat->WKS):Hint Ob:= {X:=Unit,st:=fun _=>(FX th m ln f g k,[some (.cells [.int .i64 sh,.int .i64 th,.int .i64 nd,.int .i64 tr]),some (.cells [.int .i64 th,.int .i64 nd]),some (.cells [.int .i64 sh,.int .i64 th,.int .i64 nd,.int .i64 tr,.raw (.pointer none),.ptr 3 0,.slice 4 0 k 1,.int .i64 0]),mN,some (.cells (GY 5 k))]++z6 wf k),ok:=fun _=>u6 sh th m ln f g k,mu:=fun _=>9 - k,keep:=[1,2,7,8,33,34],sel:=fun tm _=>match tm.getD 34 .O with
 | .int _ n=>Nat.beq n.toNat k
 | _=>false}
abbrev w2i(k:Nat):=Int.toNat (k:Int)
abbrev w2j(k:Nat)(nd sh th tr:Int):aC Ob:=[cE' [.I sh,.I th,.I nd,.I tr],cE' [.I th,.I nd],cE' [.I sh,.I th,.I nd,.I tr,.N,.ptr 3 0,.slice 4 0 (k+1) 1,.I 0],mN,some (.cells (GY 5 (k+1)))]
def B9(k:Nat)(sh th nd tr:Int)(m:Nat)(ln:Nat->Nat)(f g:Nat->Nat->Int)(wf:Nat->WKS)(K:AVal->aC Ob->Prop):Prop:=u6 sh th m ln f g (k:Int)->bif ilt (k:Int) th then bif ilt (k:Int) (↑m:Int)then((0:Int)<=(k:Int)/\(k:Int)<(↑m:Int))/\((ln (w2i k)<=(1000000:Nat)/\zC fun j=>[.I (f (w2i k) j),.I (g (w2i k) j)])/\True)/\bif !ieq (ofC sh (ln (w2i k)) (rK fun j=>[.I (f (w2i k) j),.I (g (w2i k) j)]) (rY fun j=>[.I (f (w2i k) j),.I (g (w2i k) j)])) 0 then K (.tup [.N,.I (ofC sh (ln (w2i k)) (rK fun j=>[.I (f (w2i k) j),.I (g (w2i k) j)]) (rY fun j=>[.I (f (w2i k) j),.I (g (w2i k) j)]))]) []else(lE' (ofR sh (ln (w2i k)) (rK fun j=>[.I (f (w2i k) j),.I (g (w2i k) j)]) (rY fun j=>[.I (f (w2i k) j),.I (g (w2i k) j)]))/\True)/\k+(1:Nat)<=(4294967296:Nat)/\dJ (HNk (k+1) sh th nd tr m ln f g wf) (fun x_1=>Hint.ok (HNk (k+1) sh th nd tr m ln f g wf) x_1/\pY (some (Hint.mu (HNk (k) sh th nd tr m ln f g wf) ())) (Hint.mu (HNk (k+1) sh th nd tr m ln f g wf) x_1)) (FX th m ln f g (W ((k:Int)+1))) ((w2j k nd sh th tr)++(z6 wf k++ [some (.abs (.worker (ZB th nd (k:Int) (ofR sh (ln (w2i k)) (rK fun j=>[.I (f (w2i k) j),.I (g (w2i k) j)]) (rY fun j=>[.I (f (w2i k) j),.I (g (w2i k) j)])))) [])]))else(True/\True)/\k+(1:Nat)<=(4294967296:Nat)/\dJ (HNk (k+1) sh th nd tr m ln f g wf) (fun x_1=>Hint.ok (HNk (k+1) sh th nd tr m ln f g wf) x_1/\pY (some (Hint.mu (HNk (k) sh th nd tr m ln f g wf) ())) (Hint.mu (HNk (k+1) sh th nd tr m ln f g wf) x_1)) (FX th m ln f g (W ((k:Int)+1))) ((w2j k nd sh th tr)++(z6 wf k++ [some (.abs (.worker (ZB th nd (k:Int) [])) [])]))else True/\bif !eC th nd then K (.tup [.ptr 0 0,.I 1]) ([cE' [.I sh,.I th,.I nd,.I tr,.N,.ptr 1 0,.slice 2 0 k 1,.I 0],mN,some (.cells (GY 3 k))]++z6 wf k)else(((0:Int)<=th/\th<=(100000:Int))/\(0:Int)<=nd/\nd<=(100000:Int))/\bif ilt (2*nd+5*th+6) (↑0:Int)then K (.tup [.ptr 0 0,.I 6]) ([cE' [.I sh,.I th,.I nd,.I tr,.N,.ptr 1 0,.slice 2 0 k 1,.I 0],mN,some (.cells (GY 3 k))]++z6 wf k)else((((0:Int)<=th/\th<=(100000:Int))/\(0:Int)<=nd/\nd<=(100000:Int))/\True)/\((0:Int)<=(2:Int)*nd+5*th+6/\2*nd+5*th+(6:Int)=(2:Int)*nd+5*th+6/\2*nd+5*th+(6:Int)<=(4294967296:Int))/\K (.tup [.ptr 0 0,.I 0]) ([cE' [.I sh,.I th,.I nd,.I tr,.ptr 1 0,.ptr 3 0,.slice 4 0 k 1,.I 0],cE' [.I th,.I nd,.slice 2 0 (Int.toNat (2*nd+5*th+6)) 1,.I 0,.I 0,.I 0,.int .u64 0,.int .u64 0,.bool false],some (.ints (some .u64) (List.replicate (Int.toNat (2*nd+5*th+6)) 0)),mN,some (.cells (GY 5 k))]++z6 wf k)
abbrev w2k(nd sh th tr:Int)(wf:Nat->WKS):aC Ob:=[cE' [.I sh,.I th,.I nd,.I tr,.N,.ptr 1 0,.slice 2 0 8 1,.I 0],mN,cE' [.ptr 3 0,.ptr 4 0,.ptr 5 0,.ptr 6 0,.ptr 7 0,.ptr 8 0,.ptr 9 0,.ptr 10 0],some (.abs (.worker (wf 0)) []),some (.abs (.worker (wf 1)) []),some (.abs (.worker (wf 2)) []),some (.abs (.worker (wf 3)) []),some (.abs (.worker (wf 4)) []),some (.abs (.worker (wf 5)) []),some (.abs (.worker (wf 6)) []),some (.abs (.worker (wf 7)) [])]
abbrev w2l(nd th:Int):=((0:Int)<=th/\th<=(100000:Int))/\(0:Int)<=nd/\nd<=(100000:Int)
abbrev w2m(nd th:Int):=(0:Int)<=(2:Int)*nd+5*th+6/\2*nd+5*th+(6:Int)=(2:Int)*nd+5*th+6/\2*nd+5*th+(6:Int)<=(4294967296:Int)
abbrev w2n(nd th:Int):Option (aG Ob):=cE' [.I th,.I nd,.slice 2 0 (Int.toNat (2*nd+5*th+6)) 1,.I 0,.I 0,.I 0,.int .u64 0,.int .u64 0,.bool false]
abbrev w2o:=Value.slice none 0 0
def aDz(sh th nd tr:Int)(m:Nat)(ln:Nat->Nat)(f g:Nat->Nat->Int)(wf:Nat->WKS)(K:AVal->aC Ob->Prop):Prop:=True/\bif !ieq (wrE sh th nd tr) 0 then K (.tup [.N,.I (wrE sh th nd tr)]) []else(m<=(1000000:Nat)/\fF fun i=>[.view (ln i) 2 fun j=>[.I (f i j),.I (g i j)]])/\bif lgB th m (vL fun i=>[.view (ln i) 2 fun j=>[.I (f i j),.I (g i j)]])then K (.tup [.N,.I 6]) []else(True/\True)/\dJ (HN0 sh th nd tr m ln f g wf) (fun x=>Hint.ok (HN0 sh th nd tr m ln f g wf) x/\pY none (Hint.mu (HN0 sh th nd tr m ln f g wf) x)) (FX th m ln f g 0) [cE' [.I sh,.I th,.I nd,.I tr],cE' [.I th,.I nd],cE' [.I sh,.I th,.I nd,.I tr,.N,.ptr 3 0,.raw w2o,.I 0],mN]/\(∀(x:Hint.X (HN0 sh th nd tr m ln f g wf)),u6 sh th m ln f g 0->bif ilt 0 th then bif ilt 0 (↑m:Int)then((0:Int)<=(0:Int)/\(0:Int)<(↑m:Int))/\((ln (Int.toNat 0)<=(1000000:Nat)/\zC fun j=>[.I (f (Int.toNat 0) j),.I (g (Int.toNat 0) j)])/\True)/\bif !ieq (ofC sh (ln (Int.toNat 0)) (rK fun j=>[.I (f (Int.toNat 0) j),.I (g (Int.toNat 0) j)]) (rY fun j=>[.I (f (Int.toNat 0) j),.I (g (Int.toNat 0) j)])) 0 then K (.tup [.N,.I (ofC sh (ln (Int.toNat 0)) (rK fun j=>[.I (f (Int.toNat 0) j),.I (g (Int.toNat 0) j)]) (rY fun j=>[.I (f (Int.toNat 0) j),.I (g (Int.toNat 0) j)]))]) []else(lE' (ofR sh (ln (Int.toNat 0)) (rK fun j=>[.I (f (Int.toNat 0) j),.I (g (Int.toNat 0) j)]) (rY fun j=>[.I (f (Int.toNat 0) j),.I (g (Int.toNat 0) j)]))/\True)/\(1:Nat)<=(4294967296:Nat)/\dJ (HNk 1 sh th nd tr m ln f g wf) (fun x_1=>Hint.ok (HNk 1 sh th nd tr m ln f g wf) x_1/\pY (some (Hint.mu (HN0 sh th nd tr m ln f g wf) x)) (Hint.mu (HNk 1 sh th nd tr m ln f g wf) x_1)) (FX th m ln f g (W (0+1))) [cE' [.I sh,.I th,.I nd,.I tr],cE' [.I th,.I nd],cE' [.I sh,.I th,.I nd,.I tr,.N,.ptr 3 0,.slice 4 0 1 1,.I 0],mN,cE' [.ptr 5 0],some (.abs (.worker (ZB th nd 0 (ofR sh (ln (Int.toNat 0)) (rK fun j=>[.I (f (Int.toNat 0) j),.I (g (Int.toNat 0) j)]) (rY fun j=>[.I (f (Int.toNat 0) j),.I (g (Int.toNat 0) j)])))) [])]else(True/\True)/\(1:Nat)<=(4294967296:Nat)/\dJ (HNk 1 sh th nd tr m ln f g wf) (fun x_1=>Hint.ok (HNk 1 sh th nd tr m ln f g wf) x_1/\pY (some (Hint.mu (HN0 sh th nd tr m ln f g wf) x)) (Hint.mu (HNk 1 sh th nd tr m ln f g wf) x_1)) (FX th m ln f g (W (0+1))) [cE' [.I sh,.I th,.I nd,.I tr],cE' [.I th,.I nd],cE' [.I sh,.I th,.I nd,.I tr,.N,.ptr 3 0,.slice 4 0 1 1,.I 0],mN,cE' [.ptr 5 0],some (.abs (.worker (ZB th nd 0 [])) [])]else True/\bif !eC th nd then K (.tup [.ptr 0 0,.I 1]) [cE' [.I sh,.I th,.I nd,.I tr,.N,.ptr 1 0,.raw w2o,.I 0],mN]else(w2l nd th)/\bif ilt (2*nd+5*th+6) (↑0:Int)then K (.tup [.ptr 0 0,.I 6]) [cE' [.I sh,.I th,.I nd,.I tr,.N,.ptr 1 0,.raw w2o,.I 0],mN]else((w2l nd th)/\True)/\(w2m nd th)/\K (.tup [.ptr 0 0,.I 0]) [cE' [.I sh,.I th,.I nd,.I tr,.ptr 1 0,.ptr 3 0,.raw w2o,.I 0],w2n nd th,some (.ints (some .u64) (List.replicate (Int.toNat (2*nd+5*th+6)) 0)),mN])/\(∀(x:Hint.X (HNk 1 sh th nd tr m ln f g wf)),B9 1 sh th nd tr m ln f g wf K)/\(∀(x:Hint.X (HNk 2 sh th nd tr m ln f g wf)),B9 2 sh th nd tr m ln f g wf K)/\(∀(x:Hint.X (HNk 3 sh th nd tr m ln f g wf)),B9 3 sh th nd tr m ln f g wf K)/\(∀(x:Hint.X (HNk 4 sh th nd tr m ln f g wf)),B9 4 sh th nd tr m ln f g wf K)/\(∀(x:Hint.X (HNk 5 sh th nd tr m ln f g wf)),B9 5 sh th nd tr m ln f g wf K)/\(∀(x:Hint.X (HNk 6 sh th nd tr m ln f g wf)),B9 6 sh th nd tr m ln f g wf K)/\(∀(x:Hint.X (HNk 7 sh th nd tr m ln f g wf)),B9 7 sh th nd tr m ln f g wf K)/\(∀(x:Hint.X (HNk 8 sh th nd tr m ln f g wf)),u6 sh th m ln f g 8->bif ilt 8 th then bif ilt 8 (↑m:Int)then((0:Int)<=(8:Int)/\(8:Int)<(↑m:Int))/\((ln (Int.toNat 8)<=(1000000:Nat)/\zC fun j=>[.I (f (Int.toNat 8) j),.I (g (Int.toNat 8) j)])/\True)/\bif !ieq (ofC sh (ln (Int.toNat 8)) (rK fun j=>[.I (f (Int.toNat 8) j),.I (g (Int.toNat 8) j)]) (rY fun j=>[.I (f (Int.toNat 8) j),.I (g (Int.toNat 8) j)])) 0 then K (.tup [.N,.I (ofC sh (ln (Int.toNat 8)) (rK fun j=>[.I (f (Int.toNat 8) j),.I (g (Int.toNat 8) j)]) (rY fun j=>[.I (f (Int.toNat 8) j),.I (g (Int.toNat 8) j)]))]) []else(lE' (ofR sh (ln (Int.toNat 8)) (rK fun j=>[.I (f (Int.toNat 8) j),.I (g (Int.toNat 8) j)]) (rY fun j=>[.I (f (Int.toNat 8) j),.I (g (Int.toNat 8) j)]))/\True)/\8+(1:Nat)<=(4294967296:Nat)/\False else(True/\True)/\8+(1:Nat)<=(4294967296:Nat)/\False else True/\bif !eC th nd then K (.tup [.ptr 0 0,.I 1]) (w2k nd sh th tr wf)else(w2l nd th)/\bif ilt (2*nd+5*th+6) (↑0:Int)then K (.tup [.ptr 0 0,.I 6]) (w2k nd sh th tr wf)else((w2l nd th)/\True)/\(w2m nd th)/\K (.tup [.ptr 0 0,.I 0]) [cE' [.I sh,.I th,.I nd,.I tr,.ptr 1 0,.ptr 3 0,.slice 4 0 8 1,.I 0],w2n nd th,some (.ints (some .u64) (List.replicate (Int.toNat (2*nd+5*th+6)) 0)),mN,cE' [.ptr 5 0,.ptr 6 0,.ptr 7 0,.ptr 8 0,.ptr 9 0,.ptr 10 0,.ptr 11 0,.ptr 12 0],some (.abs (.worker (wf 0)) []),some (.abs (.worker (wf 1)) []),some (.abs (.worker (wf 2)) []),some (.abs (.worker (wf 3)) []),some (.abs (.worker (wf 4)) []),some (.abs (.worker (wf 5)) []),some (.abs (.worker (wf 6)) []),some (.abs (.worker (wf 7)) [])])/\True
theorem P6(sh th nd tr:Int)(m:Nat)(ln:Nat->Nat)(f g:Nat->Nat->Int)(wf:Nat->WKS)(K:AVal->aC Ob->Prop)(h:aDz sh th nd tr m ln f g wf K):cT' 25 [.agg [.I sh,.I th,.I nd,.I tr],.view m 1 (fun i=>[.view (ln i) 2 (fun j=>[.I (f i j),.I (g i j)])])] [] K:=by
 refine aJ1 (aD (E:=EU1) Tryz.checked.mixed (L:=(fun _ _=>some (.cases [HN0 sh th nd tr m ln f g wf,HNk 1 sh th nd tr m ln f g wf,HNk 2 sh th nd tr m ln f g wf,HNk 3 sh th nd tr m ln f g wf,HNk 4 sh th nd tr m ln f g wf,HNk 5 sh th nd tr m ln f g wf,HNk 6 sh th nd tr m ln f g wf,HNk 7 sh th nd tr m ln f g wf,HNk 8 sh th nd tr m ln f g wf]))) (n:=10) (aK (by kernel_rfl) h))
theorem vX{t n:Int} :eC t n=true↔1<=t/\t<=8/\1<=n/\n<=200:=by
 unfold eC;simp only [bZ,Bool.and_eq_true,dT',and_assoc]
theorem aBm{sh th nd tr:Int}(h:ieq (wrE sh th nd tr) 0=true):1<=sh/\sh<=4/\(1<=th/\th<=8/\1<=nd/\nd<=200)/\0<=tr/\tr<=50:=by
 unfold wrE at h;cases h1:ilt sh 1<;>rw [h1]at h<;>simp only [cond_true,cond_false]at h
 case true=>exact absurd h (by decide)
 cases h2:ilt 4 sh<;>rw [h2]at h<;>simp only [cond_true,cond_false]at h
 case true=>exact absurd h (by decide)
 cases h3:eC th nd<;>rw [h3]at h<;>simp only [Bool.not_false,Bool.not_true,cond_true,cond_false]at h
 case false=>exact absurd h (by decide)
 cases h4:ilt tr 0<;>rw [h4]at h<;>simp only [cond_true,cond_false]at h
 case true=>exact absurd h (by decide)
 cases h5:ilt 50 tr<;>rw [h5]at h<;>simp only [cond_true,cond_false]at h
 case true=>exact absurd h (by decide)
 rw [bI,dF']at h1 h2 h4 h5;exact⟨by omega,by omega,vX.1 h3,by omega,by omega⟩
def Y5(t n:Int):MS:= {t:=t,n:=n,xs:=List.replicate (2*n+5*t+6).toNat 0,c:=0,k:=0,a:=0,o:=0,w:=0,ok:=false}
def gM(sh th nd:Int)(m:Nat)(ln:Nat->Nat)(f g:Nat->Nat->Int)(j:Nat):WKS:=ZB th nd (j:Int) (bif ilt (j:Int) (m:Int)then ofR sh (ln j) (f j) (g j)else [])
def mY(sh th nd tr:Int)(m:Nat)(ln:Nat->Nat)(f g:Nat->Nat->Int):EGS:=⟨sh,th,nd,tr,Y5 th nd,⟨[],[],0,0,0,0,0,0,0,0⟩,(List.range th.toNat).map (gM sh th nd m ln f g),0⟩
def gnC(sh th nd tr:Int)(m:Nat)(ln:Nat->Nat)(f g:Nat->Nat->Int):Int:=bif !ieq (wrE sh th nd tr) 0 then wrE sh th nd tr else bif lgB th m ln then 6 else bif (List.range m).all (fun j=>eN sh (ln j) (f j) (g j))then 0 else 1
abbrev qH(sh th nd tr:Int)(m:Nat)(ln:Nat->Nat)(f g:Nat->Nat->Int):Out Ob:=.ite (ieq (gnC sh th nd tr m ln f g) 0) (.ret (.tup [.ptr 0 0,.I 0]) (egH (mY sh th nd tr m ln f g))) (.ret (.tup [.raw (.pointer none),.I (gnC sh th nd tr m ln f g)]) [])
theorem aA5{sh:Int}{m:Nat}{f g:Nat->Int}(h:ieq (ofC sh m f g) 0=false):eN sh m f g=false/\ofC sh m f g=1:=by
 unfold ofC at h⊢;cases e:eN sh m f g with
 | true=>rw [e]at h;exact absurd h (by decide)
 | false=>exact⟨rfl,rfl⟩
theorem aA4{sh:Int}{m:Nat}{f g:Nat->Int}(h:ieq (ofC sh m f g) 0=true):eN sh m f g=true:=by
 unfold ofC at h;cases e:eN sh m f g with
 | true=>rfl
 | false=>rw [e]at h;exact absurd h (by decide)
theorem yZ(sh th nd tr:Int)(m:Nat)(ln:Nat->Nat)(f g:Nat->Nat->Int)(K:AVal->aC Ob->Prop)(hK:(qH sh th nd tr m ln f g).run K)(c:Int)(hc:gnC sh th nd tr m ln f g=c)(h0:ieq c 0=false):K (.tup [.raw (.pointer none),.I c]) []:=by
 have hK:(Out.ite (ieq (gnC sh th nd tr m ln f g) 0) _ _).run K:=hK;rw [hc,h0]at hK;exact hK
theorem ID(sh th nd tr:Int)(m:Nat)(ln:Nat->Nat)(f g:Nat->Nat->Int)(K:AVal->aC Ob->Prop)(hK:(qH sh th nd tr m ln f g).run K)(hc:gnC sh th nd tr m ln f g=0):K (.tup [.ptr 0 0,.I 0]) (egH (mY sh th nd tr m ln f g)):=by
 have hK:(Out.ite (ieq (gnC sh th nd tr m ln f g) 0) _ _).run K:=hK;rw [hc]at hK;exact hK
abbrev u5(sh th nd tr:Int)(W:List WKS):EGS:=⟨sh,th,nd,tr,Y5 th nd,⟨[],[],0,0,0,0,0,0,0,0⟩,W,0⟩
abbrev yY(sh th nd tr:Int)(k:Nat)(ps:List AVal)(ws:aC Ob):aC Ob:=[cE' [.I sh,.I th,.I nd,.I tr,.ptr 1 0,.ptr 3 0,.slice 4 0 k 1,.I 0],cE' [.I th,.I nd,.slice 2 0 (Int.toNat (2*nd+5*th+6)) 1,.I 0,.I 0,.I 0,.int .u64 0,.int .u64 0,.bool false],some (.ints (some .u64) (List.replicate (Int.toNat (2*nd+5*th+6)) 0)),mN,some (.cells ps)]++ws
abbrev aGx(sh th nd tr:Int)(W:List WKS):aC Ob:=[cE' [.I sh,.I th,.I nd,.I tr,.ptr 1 0,.ptr 3 0,.slice 4 0 W.length 1,.I 0],cE' [.I th,.I nd,.slice 2 0 (Int.toNat (2*nd+5*th+6)) 1,.I 0,.I 0,.I 0,.int .u64 0,.int .u64 0,.bool false],some (.ints (some .u64) (List.replicate (Int.toNat (2*nd+5*th+6)) 0)),mN,some (.abs (.wrow W) [])]
theorem sR{sh th nd tr:Int}(W:List WKS){g:aC Ob}(h:g=aP (aGx sh th nd tr W) 4 0 (rowE (List.map (fun w=>some (Mc.worker w)) W)) [])(hb:obOk 0 (rowE (List.map (fun w=>some (Mc.worker w)) W))=true):aF (obI tbl) 0 (.tup [.ptr 0 0,.I 0]) g (.tup [.ptr 0 0,.I 0]) (egH (u5 sh th nd tr W)):=by
 refine(aF.pack (aGx sh th nd tr W) (.wrow W) 4 0 (rowE (List.map (fun w=>some (Mc.worker w)) W)) [] h rfl rfl (by rw [hb];rfl)).trans ?_
 refine aF.trans (aJ8 rfl ?_) (jA 0 (Nat.zero_le _) _ rfl (u5 sh th nd tr W))
 first | (simp only [egG,Y5,List.length_replicate];done) | (simp only [egG,Y5,List.length_replicate]<;>rfl)
theorem aGz(sh nd tr:Int)(wf:Nat->WKS):aF (obI tbl) 0 (.tup [.ptr 0 0,.I 0]) (yY sh (1:Nat) nd tr 1 (GY 5 1) (z6 wf 1)) (.tup [.ptr 0 0,.I 0]) (egH (u5 sh (1:Nat) nd tr ((List.range 1).map wf))):=sR ((List.range 1).map wf) (by kernel_rfl) (by kernel_rfl)
theorem aGA(sh nd tr:Int)(wf:Nat->WKS):aF (obI tbl) 0 (.tup [.ptr 0 0,.I 0]) (yY sh (2:Nat) nd tr 2 (GY 5 2) (z6 wf 2)) (.tup [.ptr 0 0,.I 0]) (egH (u5 sh (2:Nat) nd tr ((List.range 2).map wf))):=sR ((List.range 2).map wf) (by kernel_rfl) (by kernel_rfl)
theorem aGB(sh nd tr:Int)(wf:Nat->WKS):aF (obI tbl) 0 (.tup [.ptr 0 0,.I 0]) (yY sh (3:Nat) nd tr 3 (GY 5 3) (z6 wf 3)) (.tup [.ptr 0 0,.I 0]) (egH (u5 sh (3:Nat) nd tr ((List.range 3).map wf))):=sR ((List.range 3).map wf) (by kernel_rfl) (by kernel_rfl)
theorem aGC(sh nd tr:Int)(wf:Nat->WKS):aF (obI tbl) 0 (.tup [.ptr 0 0,.I 0]) (yY sh (4:Nat) nd tr 4 (GY 5 4) (z6 wf 4)) (.tup [.ptr 0 0,.I 0]) (egH (u5 sh (4:Nat) nd tr ((List.range 4).map wf))):=sR ((List.range 4).map wf) (by kernel_rfl) (by kernel_rfl)
theorem aGD(sh nd tr:Int)(wf:Nat->WKS):aF (obI tbl) 0 (.tup [.ptr 0 0,.I 0]) (yY sh (5:Nat) nd tr 5 (GY 5 5) (z6 wf 5)) (.tup [.ptr 0 0,.I 0]) (egH (u5 sh (5:Nat) nd tr ((List.range 5).map wf))):=sR ((List.range 5).map wf) (by kernel_rfl) (by kernel_rfl)
theorem aGE(sh nd tr:Int)(wf:Nat->WKS):aF (obI tbl) 0 (.tup [.ptr 0 0,.I 0]) (yY sh (6:Nat) nd tr 6 (GY 5 6) (z6 wf 6)) (.tup [.ptr 0 0,.I 0]) (egH (u5 sh (6:Nat) nd tr ((List.range 6).map wf))):=sR ((List.range 6).map wf) (by kernel_rfl) (by kernel_rfl)
theorem aGF(sh nd tr:Int)(wf:Nat->WKS):aF (obI tbl) 0 (.tup [.ptr 0 0,.I 0]) (yY sh (7:Nat) nd tr 7 (GY 5 7) (z6 wf 7)) (.tup [.ptr 0 0,.I 0]) (egH (u5 sh (7:Nat) nd tr ((List.range 7).map wf))):=sR ((List.range 7).map wf) (by kernel_rfl) (by kernel_rfl)
theorem aGG(sh nd tr:Int)(wf:Nat->WKS):aF (obI tbl) 0 (.tup [.ptr 0 0,.I 0]) (yY sh (8:Nat) nd tr 8 (GY 5 8) (z6 wf 8)) (.tup [.ptr 0 0,.I 0]) (egH (u5 sh (8:Nat) nd tr ((List.range 8).map wf))):=sR ((List.range 8).map wf) (by kernel_rfl) (by kernel_rfl)
theorem aGy(sh nd tr:Int)(wf:Nat->WKS){k:Nat}(h1:1<=k)(h8:k<=8):aF (obI tbl) 0 (.tup [.ptr 0 0,.I 0]) (yY sh (k:Int) nd tr k (GY 5 k) (z6 wf k)) (.tup [.ptr 0 0,.I 0]) (egH (u5 sh (k:Int) nd tr ((List.range k).map wf))):=by
 match k,h1,h8 with
 | 1,_,_=>exact aGz sh nd tr wf
 | 2,_,_=>exact aGA sh nd tr wf
 | 3,_,_=>exact aGB sh nd tr wf
 | 4,_,_=>exact aGC sh nd tr wf
 | 5,_,_=>exact aGD sh nd tr wf
 | 6,_,_=>exact aGE sh nd tr wf
 | 7,_,_=>exact aGF sh nd tr wf
 | 8,_,_=>exact aGG sh nd tr wf
 | k+9,_,h=>omega
theorem lS(wf:Nat->WKS)(k:Nat):z6 wf (k+1)=z6 wf k++ [some (.abs (.worker (wf k)) [])]:=by
 unfold z6;rw [List.range_succ,List.map_append];rfl
theorem aGH(sh th nd tr:Int)(m:Nat)(ln:Nat->Nat)(f g:Nat->Nat->Int)(K:AVal->aC Ob->Prop)(hm:m<=1000000)(hK:(qH sh th nd tr m ln f g).run K):aDz sh th nd tr m ln f g (gM sh th nd m ln f g) (cO (obI tbl) 0 K):=by
 refine⟨trivial,aJ (fun e0=>?_) fun e0=>⟨⟨hm,⟨rfl⟩⟩,aJ (fun e1=>?_) fun e1=>?_⟩⟩
 ·have hc:gnC sh th nd tr m ln f g=wrE sh th nd tr:=by unfold gnC;rw [e0];rfl
  have e0':ieq (wrE sh th nd tr) 0=false:=by simpa using e0
  exact⟨⟨_,_,aKi _ _ _,yZ sh th nd tr m ln f g K hK _ hc e0'⟩⟩
 ·have hc:gnC sh th nd tr m ln f g=6:=by
   have e1:lgB th m ln=true:=e1;unfold gnC;rw [e0,e1];rfl
  exact⟨⟨_,_,aKi _ _ _,yZ sh th nd tr m ln f g K hK _ hc rfl⟩⟩
 have e0':ieq (wrE sh th nd tr) 0=true:=by simpa using e0
 have e1:lgB th m ln=false:=e1;obtain⟨hs1,hs2,⟨ht1,ht2,hn1,hn2⟩,hr1,hr2⟩:=aBm e0';obtain⟨hln,hmt⟩:=RA.1 e1;have hrb:eC th nd=true:=vX.2 ⟨ht1,ht2,hn1,hn2⟩
 have hbad: ∀j:Nat,j<m->eN sh (ln j) (f j) (g j)=false->gnC sh th nd tr m ln f g=1:=by
  intro j hj hf
  have:(List.range m).all (fun j=>eN sh (ln j) (f j) (g j))=false:=by
   cases h:(List.range m).all (fun j=>eN sh (ln j) (f j) (g j))with
   | false=>rfl
   | true=>
     have:=List.all_eq_true.1 h j (List.mem_range.2 hj);rw [hf]at this;cases this
  unfold gnC;rw [e0,e1,this];rfl
 have hgood:(∀j:Nat,j<m->eN sh (ln j) (f j) (g j)=true)->gnC sh th nd tr m ln f g=0:=by
  intro h;have:(List.range m).all (fun j=>eN sh (ln j) (f j) (g j))=true:=List.all_eq_true.2 fun j hj=>h j (List.mem_range.1 hj);unfold gnC;rw [e0,e1,this];rfl
 have hwt: ∀u:Nat,ilt (u:Int) (m:Int)=true->gM sh th nd m ln f g u=ZB th nd (u:Int) (ofR sh (ln u) (f u) (g u)):=fun u h=>by unfold gM;rw [h];rfl
 have hwf: ∀u:Nat,ilt (u:Int) (m:Int)=false->gM sh th nd m ln f g u=ZB th nd (u:Int) []:=fun u h=>by unfold gM;rw [h];rfl
 have bd: ∀k:Nat,1<=k->k<=7->B9 k sh th nd tr m ln f g (gM sh th nd m ln f g) (cO (obI tbl) 0 K):=by
  rintro k h1 h7 ⟨hu,hg⟩;refine aJ (fun e=>aJ (fun e2=>?_) (fun e2=>?_)) (fun e=>?_)
  ·have e2':=e2;rw [bI,dT']at e e2;have hum:k<m:=by omega
   refine⟨⟨by omega,by omega⟩,⟨⟨by have:=hln k hum;show ln k<=1000000;omega,⟨rfl⟩⟩,trivial⟩,aJ (fun e3=>?_) (fun e3=>?_)⟩
   ·have e3:(!ieq (ofC sh (ln k) (f k) (g k)) 0)=true:=e3;obtain⟨q1,q2⟩:=aA5 (by simpa using e3)
    have:=yZ sh th nd tr m ln f g K hK 1 (hbad k hum q1) rfl;rw [<-q2]at this;exact⟨⟨_,_,aKi _ _ _,this⟩⟩
   ·have e3:(!ieq (ofC sh (ln k) (f k) (g k)) 0)=false:=e3;have q:=aA4 (sh:=sh) (m:=ln k) (f:=f k) (g:=g k) (by simpa using e3)
    have hw:=hwt k e2';have hW:W ((k:Int)+1)=((k+1:Nat):Int):=(cH ⟨by omega,by omega⟩).trans (by omega)
    refine⟨⟨rfl,trivial⟩,by omega,aR (H:=HNk (k+1) sh th nd tr m ln f g (gM sh th nd m ln f g)) () (by first | (simp only [HNk,lS,hw,hW];done) | (simp only [HNk,lS,hw,hW]<;>rfl)) ⟨⟨by omega,fun j h1 h2=>by
     by_cases hj:j=k
     ·subst hj;exact q
     ·exact hg j (by omega) h2⟩,by show 9 - (k+1)<9 - k;omega⟩⟩
  ·have hw:=hwf k e2;rw [bI,dT']at e;rw [bI,dF']at e2;have hW:W ((k:Int)+1)=((k+1:Nat):Int):=(cH ⟨by omega,by omega⟩).trans (by omega)
   refine⟨⟨trivial,trivial⟩,by omega,aR (H:=HNk (k+1) sh th nd tr m ln f g (gM sh th nd m ln f g)) () (by first | (simp only [HNk,lS,hw,hW];done) | (simp only [HNk,lS,hw,hW]<;>rfl)) ⟨⟨by omega,fun j h1 h2=>hg j (by omega) h2⟩,by show 9 - (k+1)<9 - k;omega⟩⟩
  ·rw [bI,dF']at e;have hth:th=k:=by omega
   subst hth;rw [hrb];refine⟨trivial,aJ (fun e3=>by cases e3) (fun _=>⟨⟨⟨by omega,by omega⟩,by omega,by omega⟩,aJ (fun e4=>?_) (fun _=>⟨⟨⟨⟨by omega,by omega⟩,by omega,by omega⟩,trivial⟩,⟨by omega,rfl,by omega⟩,?_⟩)⟩)⟩
   ·rw [bI,dT']at e4;have e4:(2*nd+5*(k:Int)+6:Int)<0:=e4;omega
   ·have:=ID sh k nd tr m ln f g K hK (hgood fun j hj=>hg j (by omega) hj)
    exact⟨⟨_,_,aGy sh nd tr (gM sh k nd m ln f g) h1 (by omega),this⟩⟩
 refine⟨⟨trivial,trivial⟩,aR (H:=HN0 sh th nd tr m ln f g (gM sh th nd m ln f g)) () rfl ⟨⟨by omega,fun j h1 _=>by omega⟩,trivial⟩,?_,?_,?_,?_,?_,?_,?_,?_,?_,trivial⟩
 ·rintro x ⟨hu,hg⟩;refine aJ (fun e=>aJ (fun e2=>?_) (fun e2=>?_)) (fun e=>?_)
  ·have e2':=e2;rw [bI,dT']at e e2;have hum:0<m:=by omega
   refine⟨⟨by omega,by omega⟩,⟨⟨by have:=hln 0 hum;show ln 0<=1000000;omega,⟨rfl⟩⟩,trivial⟩,aJ (fun e3=>?_) (fun e3=>?_)⟩
   ·have e3:(!ieq (ofC sh (ln 0) (f 0) (g 0)) 0)=true:=e3;obtain⟨q1,q2⟩:=aA5 (by simpa using e3)
    have:=yZ sh th nd tr m ln f g K hK 1 (hbad 0 hum q1) rfl;rw [<-q2]at this;exact⟨⟨_,_,aKi _ _ _,this⟩⟩
   ·have e3:(!ieq (ofC sh (ln 0) (f 0) (g 0)) 0)=false:=e3;have q:=aA4 (sh:=sh) (m:=ln 0) (f:=f 0) (g:=g 0) (by simpa using e3)
    have hw:=hwt 0 e2'
    refine⟨⟨rfl,trivial⟩,by decide,aR (H:=HNk 1 sh th nd tr m ln f g (gM sh th nd m ln f g)) () (by simp only [HNk,lS,hw]<;>rfl) ⟨⟨by omega,fun j h1 h2=>by
     by_cases hj:j=0
     ·subst hj;exact q
     ·exact hg j (by omega) h2⟩,by show(8:Nat)<9;decide⟩⟩
  ·have hw:=hwf 0 e2;rw [bI,dT']at e;rw [bI,dF']at e2;refine⟨⟨trivial,trivial⟩,by decide,aR (H:=HNk 1 sh th nd tr m ln f g (gM sh th nd m ln f g)) () (by simp only [HNk,lS,hw]<;>rfl) ⟨⟨by omega,fun j h1 h2=>hg j (by omega) h2⟩,by show(8:Nat)<9;decide⟩⟩
  ·rw [bI,dF']at e;omega
 ·exact fun x=>bd 1 (by decide) (by decide)
 ·exact fun x=>bd 2 (by decide) (by decide)
 ·exact fun x=>bd 3 (by decide) (by decide)
 ·exact fun x=>bd 4 (by decide) (by decide)
 ·exact fun x=>bd 5 (by decide) (by decide)
 ·exact fun x=>bd 6 (by decide) (by decide)
 ·exact fun x=>bd 7 (by decide) (by decide)
 ·rintro x ⟨hu,hg⟩;refine aJ (fun e=>?_) (fun e=>?_)
  ·rw [bI,dT']at e;omega
  ·rw [bI,dF']at e;have hth:th=8:=by omega
   subst hth;rw [hrb];refine⟨trivial,aJ (fun e3=>by cases e3) (fun _=>⟨⟨⟨by omega,by omega⟩,by omega,by omega⟩,aJ (fun e4=>?_) (fun _=>⟨⟨⟨⟨by omega,by omega⟩,by omega,by omega⟩,trivial⟩,⟨by omega,rfl,by omega⟩,?_⟩)⟩)⟩
   ·rw [bI,dT']at e4;have e4:(2*nd+5*8+6:Int)<0:=e4;omega
   ·have:=ID sh 8 nd tr m ln f g K hK (hgood fun j hj=>hg j (by omega) hj)
    exact⟨⟨_,_,aGy sh nd tr (gM sh 8 nd m ln f g) (k:=8) (by decide) (by decide),this⟩⟩
def gnS:aH Ob:=fun args h=>match args,h with
 | [.agg [.int .i64 sh,.int .i64 th,.int .i64 nd,.int .i64 tr],.view m 1 vr],[]=>some (.pre (m<=1000000/\fF vr) (qH sh th nd tr m (vL vr) (vK vr) (vY vr)))
 | _,_=>none
theorem IE:sT' 25 gnS:=by
 intro args h o ho K hK;unfold gnS at ho;split at ho<;>cases ho
 rename_i sh th nd tr m vr;obtain⟨⟨hm,⟨hr⟩⟩,hK⟩:=hK;rw [hr];refine aJ9 ?_;exact P6 sh th nd tr m (vL vr) (vK vr) (vY vr) _ _ (aGH sh th nd tr m (vL vr) (vK vr) (vY vr) K hm hK)
noncomputable def EU2:=EU1.addS 25 gnS IE
theorem aQ.lend{h:aC Ob}{l i:Nat}{ws:List WKS}(hl:aL h l=some (.abs (.wrow ws) []))(hi:i<ws.length):aQ (obI tbl) h (h.set l (some (.abs (.whole ws i) [h.length]))++ [some (.abs (.worker (bB ws i)) [])]):=by
 intro V hR w h1 hf;obtain⟨V',x,b,k,cs,T,a1,a2,a3,_⟩:=h1.lend RKW (ws:=ws) hf hl (DR hi);exact⟨V',a1,by simpa using a2,by simp,a3⟩
theorem cT{ws:List WKS}{i:Nat}(hi:i<ws.length):dD ws i (bB ws i)=ws:=by
 unfold dD bB;apply List.ext_getElem
 ·simp
 ·intro j h1 h2;rw [List.getElem_set];split
  ·rename_i e;subst e;rw [gD',gE' hi];rfl
  ·rfl
abbrev w2p(x:EGS):Option (aG Ob):=cE' [.I x.sh,.I x.th,.I x.nd,.I x.tr,.ptr 1 0,.ptr 3 0,.slice 4 0 x.ws.length 1,.I x.k]
abbrev w2q(w:WKS):List AVal:=[.ptr 6 0,.tslice 7 0 w.tk.length 3,.I w.en,.raw (.pointer none),.slice 8 0 w.tl.length 1,.slice 9 0 w.sl.length 1]
abbrev eg0(x:EGS)(i:Nat)(w:WKS):aC Ob:=[w2p x,aX 2 x.s,aY x.s,some (.abs (.hist x.h) []),some (.abs (.whole x.ws i) [5]),cE' (w2q w),some (.abs (.store w.t w.n w.st) []),some (.tab [some .i64,some .i64,some .i64] w.tk),iI' w.tl,iI' w.sl]
abbrev aGc(x:EGS)(i:Nat)(w:WKS):aC Ob:=[w2p x,aX 2 x.s,aY x.s,some (.abs (.hist x.h) []),some (.abs (.whole x.ws i) [5]),cE' (w2q w),gW 10 w.t w.n w.st,some (.tab [some .i64,some .i64,some .i64] w.tk),iI' w.tl,iI' w.sl,gX w.st]
theorem uV{x:EGS}{i:Nat}(hi:i<x.ws.length)(hb:(bB x.ws i).b =false):aQ (obI tbl) (egH x) (eg0 x i (bB x.ws i)):=by
 refine(aQ.unpack (.engine x) 0 0 (egG x) [] rfl rfl rfl rfl).trans ((aQ.lend (l:=4) (i:=i) (ws:=x.ws) rfl hi).trans ((aQ.unpack (.worker (bB x.ws i)) 5 0 (mH (bB x.ws i)) [] rfl (congrArg (Prod.mk 0) (oW hb)) rfl rfl).trans (aKU ?_)))
 kernel_rfl
theorem KM{x:EGS}{i:Nat}(hi:i<x.ws.length)(hb:(bB x.ws i).b =false):aQ (obI tbl) (egH x) (aGc x i (bB x.ws i)):=by
 refine(uV hi hb).trans ((aQ.unpack (.store (bB x.ws i).t (bB x.ws i).n (bB x.ws i).st) 6 0 (dK (bB x.ws i).t (bB x.ws i).n (bB x.ws i).st) [] rfl rfl rfl rfl).trans (aKU ?_))
 kernel_rfl
abbrev w2r(w:WKS):List AVal:=[.ptr 6 0,.tslice 7 0 w.tk.length 3,.I w.en,.ptr 8 0,.slice 9 0 w.tl.length 1,.slice 10 0 w.sl.length 1]
abbrev eg1(x:EGS)(i:Nat)(w:WKS):aC Ob:=[w2p x,aX 2 x.s,aY x.s,some (.abs (.hist x.h) []),some (.abs (.whole x.ws i) [5]),cE' (w2r w),some (.abs (.store w.t w.n w.st) []),some (.tab [some .i64,some .i64,some .i64] w.tk),some (.abs (.doer w.t w.n w.d) [6]),iI' w.tl,iI' w.sl]
abbrev aGd(x:EGS)(i:Nat)(w:WKS):aC Ob:=[w2p x,aX 2 x.s,aY x.s,some (.abs (.hist x.h) []),some (.abs (.whole x.ws i) [5]),cE' (w2r w),gW 11 w.t w.n w.st,some (.tab [some .i64,some .i64,some .i64] w.tk),some (.abs (.doer w.t w.n w.d) [6]),iI' w.tl,iI' w.sl,gX w.st]
theorem uW{x:EGS}{i:Nat}(hi:i<x.ws.length)(hb:(bB x.ws i).b =true):aQ (obI tbl) (egH x) (eg1 x i (bB x.ws i)):=by
 refine(aQ.unpack (.engine x) 0 0 (egG x) [] rfl rfl rfl rfl).trans ((aQ.lend (l:=4) (i:=i) (ws:=x.ws) rfl hi).trans ((aQ.unpack (.worker (bB x.ws i)) 5 0 (pP (bB x.ws i)) [] rfl (congrArg (Prod.mk 0) (wE hb)) rfl rfl).trans (aKU ?_)))
 kernel_rfl
theorem KN{x:EGS}{i:Nat}(hi:i<x.ws.length)(hb:(bB x.ws i).b =true):aQ (obI tbl) (egH x) (aGd x i (bB x.ws i)):=by
 refine(uW hi hb).trans ((aQ.unpack (.store (bB x.ws i).t (bB x.ws i).n (bB x.ws i).st) 6 0 (dK (bB x.ws i).t (bB x.ws i).n (bB x.ws i).st) [] rfl rfl rfl rfl).trans (aKU ?_))
 kernel_rfl
abbrev w2s(x:EGS):Option (aG Ob):=cE' [.I x.sh,.I x.th,.I x.nd,.I x.tr,.ptr 1 0,.ptr 3 0,.slice 4 0 x.ws.length 1,.I x.k]
abbrev aF8(x:EGS)(i:Nat)(w:WKS)(xs:List Int):aC Ob:=[w2s x,aX 2 x.s,aY x.s,some (.abs (.hist x.h) []),some (.abs (.whole x.ws i) [5]),cE' [.ptr 6 0,.tslice 7 0 w.tk.length 3,.I w.en,.raw (.pointer none),.slice 8 0 w.tl.length 1,.slice 9 0 w.sl.length 1],some (.abs (.store w.t w.n w.st) []),some (.tab [some .i64,some .i64,some .i64] w.tk),iI' w.tl,iI' w.sl,iI' xs]
abbrev w2t(x:EGS):Option (aG Ob):=cE' [.I x.sh,.I x.th,.I x.nd,.I x.tr,.ptr 1 0,.ptr 3 0,.slice 4 0 x.ws.length 1,.I x.k]
theorem KK(x:EGS)(i:Nat)(w:WKS)(xs:List Int)(hi:i<x.ws.length)(hw:dD x.ws i w=x.ws)(hb:w.b=false):aF (obI tbl) 1 (.slice 10 0 xs.length 1) (aF8 x i w xs) (.slice 1 0 xs.length 1) [some (.abs (.engine x) []),iI' xs]:=by
 exact((aF.move 6 (of_decide_eq_true rfl)).trans ((aF.move 7 (of_decide_eq_true rfl)).trans ((aF.move 8 (of_decide_eq_true rfl)).trans ((aF.move 9 (of_decide_eq_true rfl)).trans ((aJ8 (v2:=.slice 10 0 xs.length 1) (g2:=aP [w2t x,aX 2 x.s,aY x.s,some (.abs (.hist x.h) []),some (.abs (.whole x.ws i) [5]),some (.abs (.worker w) []),none,none,none,none,iI' xs] 5 0 (mH w) []) (by kernel_rfl) (by kernel_rfl)).trans ((aF.pack [w2t x,aX 2 x.s,aY x.s,some (.abs (.hist x.h) []),some (.abs (.whole x.ws i) [5]),some (.abs (.worker w) []),none,none,none,none,iI' xs] (.worker w) 5 0 (mH w) [] rfl rfl (congrArg (Prod.mk 0) (oW hb)) (by kernel_rfl)).trans ((aF.back (l:=4) (k:=5) (i:=i) (ws:=x.ws) (w:=w) rfl rfl (by decide) hi).trans ((aJ8 (v2:=.slice 10 0 xs.length 1) (g2:=[w2t x,aX 2 x.s,aY x.s,some (.abs (.hist x.h) []),some (.abs (.wrow x.ws) []),none,none,none,none,none,iI' xs]) rfl (by rw [hw];rfl)).trans ((aF.move 1 (of_decide_eq_true rfl)).trans ((aF.move 2 (of_decide_eq_true rfl)).trans ((aF.move 3 (of_decide_eq_true rfl)).trans ((aF.move 4 (of_decide_eq_true rfl)).trans ((aJ8 (v2:=.slice 10 0 xs.length 1) (g2:=aP [some (.abs (.engine x) []),none,none,none,none,none,none,none,none,none,iI' xs] 0 0 (egG x) []) (by kernel_rfl) (by kernel_rfl)).trans ((aF.pack [some (.abs (.engine x) []),none,none,none,none,none,none,none,none,none,iI' xs] (.engine x) 0 0 (egG x) [] rfl rfl rfl (by kernel_rfl)).trans (aF.pick [0,10] rfl)))))))))))))))
abbrev aGa(x:EGS)(i:Nat)(w:WKS)(xs:List Int):aC Ob:=[w2s x,aX 2 x.s,aY x.s,some (.abs (.hist x.h) []),some (.abs (.whole x.ws i) [5]),cE' [.ptr 6 0,.tslice 8 0 w.tk.length 3,.I w.en,.raw (.pointer none),.slice 9 0 w.tl.length 1,.slice 10 0 w.sl.length 1],gW 7 w.t w.n w.st,gX w.st,some (.tab [some .i64,some .i64,some .i64] w.tk),iI' w.tl,iI' w.sl,iI' xs]
abbrev w2u(w:WKS):List AVal:=[.ptr 6 0,.tslice 8 0 w.tk.length 3,.I w.en,.raw (.pointer none),.slice 9 0 w.tl.length 1,.slice 10 0 w.sl.length 1]
abbrev w2v(x:EGS)(xs:List Int):aC Ob:=[some (.abs (.engine x) []),none,none,none,none,none,none,none,none,none,none,iI' xs]
theorem aCJ(x:EGS)(i:Nat)(w:WKS)(xs:List Int)(hi:i<x.ws.length)(hw:dD x.ws i w=x.ws)(hb:w.b=false):aF (obI tbl) 1 (.slice 11 0 xs.length 1) (aGa x i w xs) (.slice 1 0 xs.length 1) [some (.abs (.engine x) []),iI' xs]:=by
 exact((aF.move 7 (of_decide_eq_true rfl)).trans ((aJ8 (v2:=.slice 11 0 xs.length 1) (g2:=aP [w2t x,aX 2 x.s,aY x.s,some (.abs (.hist x.h) []),some (.abs (.whole x.ws i) [5]),cE' (w2u w),some (.abs (.store w.t w.n w.st) []),none,some (.tab cK3 w.tk),iI' w.tl,iI' w.sl,iI' xs] 6 0 (dK w.t w.n w.st) []) (by kernel_rfl) (by kernel_rfl)).trans ((aF.pack [w2t x,aX 2 x.s,aY x.s,some (.abs (.hist x.h) []),some (.abs (.whole x.ws i) [5]),cE' (w2u w),some (.abs (.store w.t w.n w.st) []),none,some (.tab cK3 w.tk),iI' w.tl,iI' w.sl,iI' xs] (.store w.t w.n w.st) 6 0 (dK w.t w.n w.st) [] rfl rfl rfl (by kernel_rfl)).trans ((aF.move 6 (of_decide_eq_true rfl)).trans ((aF.move 8 (of_decide_eq_true rfl)).trans ((aF.move 9 (of_decide_eq_true rfl)).trans ((aF.move 10 (of_decide_eq_true rfl)).trans ((aJ8 (v2:=.slice 11 0 xs.length 1) (g2:=aP [w2t x,aX 2 x.s,aY x.s,some (.abs (.hist x.h) []),some (.abs (.whole x.ws i) [5]),some (.abs (.worker w) []),none,none,none,none,none,iI' xs] 5 0 (mH w) []) (by kernel_rfl) (by kernel_rfl)).trans ((aF.pack [w2t x,aX 2 x.s,aY x.s,some (.abs (.hist x.h) []),some (.abs (.whole x.ws i) [5]),some (.abs (.worker w) []),none,none,none,none,none,iI' xs] (.worker w) 5 0 (mH w) [] rfl rfl (congrArg (Prod.mk 0) (oW hb)) (by kernel_rfl)).trans ((aF.back (l:=4) (k:=5) (i:=i) (ws:=x.ws) (w:=w) rfl rfl (by decide) hi).trans ((aJ8 (v2:=.slice 11 0 xs.length 1) (g2:=[w2t x,aX 2 x.s,aY x.s,some (.abs (.hist x.h) []),some (.abs (.wrow x.ws) []),none,none,none,none,none,none,iI' xs]) rfl (by rw [hw];rfl)).trans ((aF.move 1 (of_decide_eq_true rfl)).trans ((aF.move 2 (of_decide_eq_true rfl)).trans ((aF.move 3 (of_decide_eq_true rfl)).trans ((aF.move 4 (of_decide_eq_true rfl)).trans ((aJ8 (v2:=.slice 11 0 xs.length 1) (g2:=aP (w2v x xs) 0 0 (egG x) []) (by kernel_rfl) (by kernel_rfl)).trans ((aF.pack (w2v x xs) (.engine x) 0 0 (egG x) [] rfl rfl rfl (by kernel_rfl)).trans (aF.pick [0,11] rfl))))))))))))))))))
abbrev aF9(x:EGS)(i:Nat)(w:WKS)(xs:List Int):aC Ob:=[w2s x,aX 2 x.s,aY x.s,some (.abs (.hist x.h) []),some (.abs (.whole x.ws i) [5]),cE' [.ptr 6 0,.tslice 7 0 w.tk.length 3,.I w.en,.ptr 8 0,.slice 9 0 w.tl.length 1,.slice 10 0 w.sl.length 1],some (.abs (.store w.t w.n w.st) []),some (.tab [some .i64,some .i64,some .i64] w.tk),some (.abs (.doer w.t w.n w.d) [6]),iI' w.tl,iI' w.sl,iI' xs]
abbrev w2w(x:EGS):Option (aG Ob):=cE' [.I x.sh,.I x.th,.I x.nd,.I x.tr,.ptr 1 0,.ptr 3 0,.slice 4 0 x.ws.length 1,.I x.k]
abbrev w2z(x:EGS)(xs:List Int):aC Ob:=[some (.abs (.engine x) []),none,none,none,none,none,none,none,none,none,none,iI' xs]
theorem KL(x:EGS)(i:Nat)(w:WKS)(xs:List Int)(hi:i<x.ws.length)(hw:dD x.ws i w=x.ws)(hb:w.b=true):aF (obI tbl) 1 (.slice 11 0 xs.length 1) (aF9 x i w xs) (.slice 1 0 xs.length 1) [some (.abs (.engine x) []),iI' xs]:=by
 exact((aF.move 6 (of_decide_eq_true rfl)).trans ((aF.move 7 (of_decide_eq_true rfl)).trans ((aF.move 8 (of_decide_eq_true rfl)).trans ((aF.move 9 (of_decide_eq_true rfl)).trans ((aF.move 10 (of_decide_eq_true rfl)).trans ((aJ8 (v2:=.slice 11 0 xs.length 1) (g2:=aP [w2w x,aX 2 x.s,aY x.s,some (.abs (.hist x.h) []),some (.abs (.whole x.ws i) [5]),some (.abs (.worker w) []),none,none,none,none,none,iI' xs] 5 0 (pP w) []) (by kernel_rfl) (by kernel_rfl)).trans ((aF.pack [w2w x,aX 2 x.s,aY x.s,some (.abs (.hist x.h) []),some (.abs (.whole x.ws i) [5]),some (.abs (.worker w) []),none,none,none,none,none,iI' xs] (.worker w) 5 0 (pP w) [] rfl rfl (congrArg (Prod.mk 0) (wE hb)) (by kernel_rfl)).trans ((aF.back (l:=4) (k:=5) (i:=i) (ws:=x.ws) (w:=w) rfl rfl (by decide) hi).trans ((aJ8 (v2:=.slice 11 0 xs.length 1) (g2:=[w2w x,aX 2 x.s,aY x.s,some (.abs (.hist x.h) []),some (.abs (.wrow x.ws) []),none,none,none,none,none,none,iI' xs]) rfl (by rw [hw];rfl)).trans ((aF.move 1 (of_decide_eq_true rfl)).trans ((aF.move 2 (of_decide_eq_true rfl)).trans ((aF.move 3 (of_decide_eq_true rfl)).trans ((aF.move 4 (of_decide_eq_true rfl)).trans ((aJ8 (v2:=.slice 11 0 xs.length 1) (g2:=aP (w2z x xs) 0 0 (egG x) []) (by kernel_rfl) (by kernel_rfl)).trans ((aF.pack (w2z x xs) (.engine x) 0 0 (egG x) [] rfl rfl rfl (by kernel_rfl)).trans (aF.pick [0,11] rfl))))))))))))))))
abbrev aGb(x:EGS)(i:Nat)(w:WKS)(xs:List Int):aC Ob:=[w2s x,aX 2 x.s,aY x.s,some (.abs (.hist x.h) []),some (.abs (.whole x.ws i) [5]),cE' [.ptr 6 0,.tslice 8 0 w.tk.length 3,.I w.en,.ptr 9 0,.slice 10 0 w.tl.length 1,.slice 11 0 w.sl.length 1],gW 7 w.t w.n w.st,gX w.st,some (.tab [some .i64,some .i64,some .i64] w.tk),some (.abs (.doer w.t w.n w.d) [6]),iI' w.tl,iI' w.sl,iI' xs]
abbrev w2x(w:WKS):List AVal:=[.ptr 6 0,.tslice 8 0 w.tk.length 3,.I w.en,.ptr 9 0,.slice 10 0 w.tl.length 1,.slice 11 0 w.sl.length 1]
abbrev w2y(x:EGS)(xs:List Int):aC Ob:=[some (.abs (.engine x) []),none,none,none,none,none,none,none,none,none,none,none,iI' xs]
theorem aCK(x:EGS)(i:Nat)(w:WKS)(xs:List Int)(hi:i<x.ws.length)(hw:dD x.ws i w=x.ws)(hb:w.b=true):aF (obI tbl) 1 (.slice 12 0 xs.length 1) (aGb x i w xs) (.slice 1 0 xs.length 1) [some (.abs (.engine x) []),iI' xs]:=by
 exact((aF.move 7 (of_decide_eq_true rfl)).trans ((aJ8 (v2:=.slice 12 0 xs.length 1) (g2:=aP [w2w x,aX 2 x.s,aY x.s,some (.abs (.hist x.h) []),some (.abs (.whole x.ws i) [5]),cE' (w2x w),some (.abs (.store w.t w.n w.st) []),none,some (.tab cK3 w.tk),some (.abs (.doer w.t w.n w.d) [6]),iI' w.tl,iI' w.sl,iI' xs] 6 0 (dK w.t w.n w.st) []) (by kernel_rfl) (by kernel_rfl)).trans ((aF.pack [w2w x,aX 2 x.s,aY x.s,some (.abs (.hist x.h) []),some (.abs (.whole x.ws i) [5]),cE' (w2x w),some (.abs (.store w.t w.n w.st) []),none,some (.tab cK3 w.tk),some (.abs (.doer w.t w.n w.d) [6]),iI' w.tl,iI' w.sl,iI' xs] (.store w.t w.n w.st) 6 0 (dK w.t w.n w.st) [] rfl rfl rfl (by kernel_rfl)).trans ((aF.move 6 (of_decide_eq_true rfl)).trans ((aF.move 8 (of_decide_eq_true rfl)).trans ((aF.move 9 (of_decide_eq_true rfl)).trans ((aF.move 10 (of_decide_eq_true rfl)).trans ((aF.move 11 (of_decide_eq_true rfl)).trans ((aJ8 (v2:=.slice 12 0 xs.length 1) (g2:=aP [w2w x,aX 2 x.s,aY x.s,some (.abs (.hist x.h) []),some (.abs (.whole x.ws i) [5]),some (.abs (.worker w) []),none,none,none,none,none,none,iI' xs] 5 0 (pP w) []) (by kernel_rfl) (by kernel_rfl)).trans ((aF.pack [w2w x,aX 2 x.s,aY x.s,some (.abs (.hist x.h) []),some (.abs (.whole x.ws i) [5]),some (.abs (.worker w) []),none,none,none,none,none,none,iI' xs] (.worker w) 5 0 (pP w) [] rfl rfl (congrArg (Prod.mk 0) (wE hb)) (by kernel_rfl)).trans ((aF.back (l:=4) (k:=5) (i:=i) (ws:=x.ws) (w:=w) rfl rfl (by decide) hi).trans ((aJ8 (v2:=.slice 12 0 xs.length 1) (g2:=[w2w x,aX 2 x.s,aY x.s,some (.abs (.hist x.h) []),some (.abs (.wrow x.ws) []),none,none,none,none,none,none,none,iI' xs]) rfl (by rw [hw];rfl)).trans ((aF.move 1 (of_decide_eq_true rfl)).trans ((aF.move 2 (of_decide_eq_true rfl)).trans ((aF.move 3 (of_decide_eq_true rfl)).trans ((aF.move 4 (of_decide_eq_true rfl)).trans ((aJ8 (v2:=.slice 12 0 xs.length 1) (g2:=aP (w2y x xs) 0 0 (egG x) []) (by kernel_rfl) (by kernel_rfl)).trans ((aF.pack (w2y x xs) (.engine x) 0 0 (egG x) [] rfl rfl rfl (by kernel_rfl)).trans (aF.pick [0,12] rfl)))))))))))))))))))
abbrev w30(x:EGS):Option (aG Ob):=cE' [.I (EGS.s x).1,.I (EGS.s x).2,.slice 2 0 (List.length (EGS.s x).3) 1,.I (EGS.s x).4,.I (EGS.s x).5,.I (EGS.s x).6,.int .u64 (EGS.s x).7,.int .u64 (EGS.s x).8,.bool (EGS.s x).9]
abbrev w31(x:EGS):Option (aG Ob):=cE' [.I x.1,.I x.2,.I x.3,.I x.4,.ptr 1 0,.ptr 3 0,.slice 4 0 x.7.length 1,.I x.8]
abbrev w33(w:WKS):List AVal:=[.ptr 6 0,.tslice 7 0 w.4.length 3,.I w.5,.N,.slice 8 0 w.8.length 1,.slice 9 0 w.9.length 1]
def HD(x:EGS)(i:Nat)(w:WKS)(th:Int)(K:AVal->aC Ob->Prop):Prop:=bif ilt th 0 then K (.raw (Value.slice none 0 0)) [w31 x,w30 x,some (.ints (some .u64) (EGS.s x).3),some (.abs (.hist x.6) []),some (.abs (.whole x.7 i) [5]),cE' (w33 w),some (.abs (.store w.1 w.2 w.3) []),some (.tab cK3 w.4),iI' w.8,iI' w.9]else bif ile (↑x.7.length:Int) th then K (.raw (Value.slice none 0 0)) [w31 x,w30 x,some (.ints (some .u64) (EGS.s x).3),some (.abs (.hist x.6) []),some (.abs (.whole x.7 i) [5]),cE' (w33 w),some (.abs (.store w.1 w.2 w.3) []),some (.tab cK3 w.4),iI' w.8,iI' w.9]else((0:Int)<=th/\th<(↑x.7.length:Int))/\(i<x.7.length/\0+Int.toNat th*(1:Nat)=i)/\(lE' w.8/\w.8.length<=(4294967296:Nat))/\K (.slice 10 0 w.8.length 1) [w31 x,w30 x,some (.ints (some .u64) (EGS.s x).3),some (.abs (.hist x.6) []),some (.abs (.whole x.7 i) [5]),cE' (w33 w),some (.abs (.store w.1 w.2 w.3) []),some (.tab cK3 w.4),iI' w.8,iI' w.9,iI' w.8]
theorem HE(x:EGS)(i:Nat)(w:WKS)(th:Int)(K:AVal->aC Ob->Prop)(h:HD x i w th K):cT' 32 [.ptr 0 0,.I th] (eg0 x i w) (eD 1 K):=by
 exact cM' (E:=EU2) (by kernel_rfl) h
abbrev w32(w:WKS):List AVal:=[.ptr 6 0,.tslice 7 0 w.4.length 3,.I w.5,.ptr 8 0,.slice 9 0 w.8.length 1,.slice 10 0 w.9.length 1]
def HF(x:EGS)(i:Nat)(w:WKS)(th:Int)(K:AVal->aC Ob->Prop):Prop:=bif ilt th 0 then K (.raw (Value.slice none 0 0)) [w31 x,w30 x,some (.ints (some .u64) (EGS.s x).3),some (.abs (.hist x.6) []),some (.abs (.whole x.7 i) [5]),cE' (w32 w),some (.abs (.store w.1 w.2 w.3) []),some (.tab cK3 w.4),some (.abs (.doer w.1 w.2 w.7) [6]),iI' w.8,iI' w.9]else bif ile (↑x.7.length:Int) th then K (.raw (Value.slice none 0 0)) [w31 x,w30 x,some (.ints (some .u64) (EGS.s x).3),some (.abs (.hist x.6) []),some (.abs (.whole x.7 i) [5]),cE' (w32 w),some (.abs (.store w.1 w.2 w.3) []),some (.tab cK3 w.4),some (.abs (.doer w.1 w.2 w.7) [6]),iI' w.8,iI' w.9]else((0:Int)<=th/\th<(↑x.7.length:Int))/\(i<x.7.length/\0+Int.toNat th*(1:Nat)=i)/\(lE' w.8/\w.8.length<=(4294967296:Nat))/\K (.slice 11 0 w.8.length 1) [w31 x,w30 x,some (.ints (some .u64) (EGS.s x).3),some (.abs (.hist x.6) []),some (.abs (.whole x.7 i) [5]),cE' (w32 w),some (.abs (.store w.1 w.2 w.3) []),some (.tab cK3 w.4),some (.abs (.doer w.1 w.2 w.7) [6]),iI' w.8,iI' w.9,iI' w.8]
theorem HG(x:EGS)(i:Nat)(w:WKS)(th:Int)(K:AVal->aC Ob->Prop)(h:HF x i w th K):cT' 32 [.ptr 0 0,.I th] (eg1 x i w) (eD 1 K):=by
 exact cM' (E:=EU2) (by kernel_rfl) h
def G8(x:EGS)(i:Nat)(w:WKS)(th:Int)(K:AVal->aC Ob->Prop):Prop:=bif ilt th 0 then K (.raw (Value.slice none 0 0)) [w31 x,w30 x,some (.ints (some .u64) (EGS.s x).3),some (.abs (.hist x.6) []),some (.abs (.whole x.7 i) [5]),cE' (w33 w),some (.abs (.store w.1 w.2 w.3) []),some (.tab cK3 w.4),iI' w.8,iI' w.9]else bif ile (↑x.7.length:Int) th then K (.raw (Value.slice none 0 0)) [w31 x,w30 x,some (.ints (some .u64) (EGS.s x).3),some (.abs (.hist x.6) []),some (.abs (.whole x.7 i) [5]),cE' (w33 w),some (.abs (.store w.1 w.2 w.3) []),some (.tab cK3 w.4),iI' w.8,iI' w.9]else((0:Int)<=th/\th<(↑x.7.length:Int))/\(i<x.7.length/\0+Int.toNat th*(1:Nat)=i)/\(lE' w.9/\w.9.length<=(4294967296:Nat))/\K (.slice 10 0 w.9.length 1) [w31 x,w30 x,some (.ints (some .u64) (EGS.s x).3),some (.abs (.hist x.6) []),some (.abs (.whole x.7 i) [5]),cE' (w33 w),some (.abs (.store w.1 w.2 w.3) []),some (.tab cK3 w.4),iI' w.8,iI' w.9,iI' w.9]
theorem G9(x:EGS)(i:Nat)(w:WKS)(th:Int)(K:AVal->aC Ob->Prop)(h:G8 x i w th K):cT' 35 [.ptr 0 0,.I th] (eg0 x i w) (eD 1 K):=by
 exact cM' (E:=EU2) (by kernel_rfl) h
def HA(x:EGS)(i:Nat)(w:WKS)(th:Int)(K:AVal->aC Ob->Prop):Prop:=bif ilt th 0 then K (.raw (Value.slice none 0 0)) [w31 x,w30 x,some (.ints (some .u64) (EGS.s x).3),some (.abs (.hist x.6) []),some (.abs (.whole x.7 i) [5]),cE' (w32 w),some (.abs (.store w.1 w.2 w.3) []),some (.tab cK3 w.4),some (.abs (.doer w.1 w.2 w.7) [6]),iI' w.8,iI' w.9]else bif ile (↑x.7.length:Int) th then K (.raw (Value.slice none 0 0)) [w31 x,w30 x,some (.ints (some .u64) (EGS.s x).3),some (.abs (.hist x.6) []),some (.abs (.whole x.7 i) [5]),cE' (w32 w),some (.abs (.store w.1 w.2 w.3) []),some (.tab cK3 w.4),some (.abs (.doer w.1 w.2 w.7) [6]),iI' w.8,iI' w.9]else((0:Int)<=th/\th<(↑x.7.length:Int))/\(i<x.7.length/\0+Int.toNat th*(1:Nat)=i)/\(lE' w.9/\w.9.length<=(4294967296:Nat))/\K (.slice 11 0 w.9.length 1) [w31 x,w30 x,some (.ints (some .u64) (EGS.s x).3),some (.abs (.hist x.6) []),some (.abs (.whole x.7 i) [5]),cE' (w32 w),some (.abs (.store w.1 w.2 w.3) []),some (.tab cK3 w.4),some (.abs (.doer w.1 w.2 w.7) [6]),iI' w.8,iI' w.9,iI' w.9]
theorem HB(x:EGS)(i:Nat)(w:WKS)(th:Int)(K:AVal->aC Ob->Prop)(h:HA x i w th K):cT' 35 [.ptr 0 0,.I th] (eg1 x i w) (eD 1 K):=by
 exact cM' (E:=EU2) (by kernel_rfl) h
abbrev w34(w:WKS):List AVal:=[.I w.1,.I w.2,.I (WKS.st w).1,.I (WKS.st w).2,.slice 7 0 (List.length (WKS.st w).3) 1]
abbrev w36(w:WKS):List AVal:=[.ptr 6 0,.tslice 8 0 w.4.length 3,.I w.5,.N,.slice 9 0 w.8.length 1,.slice 10 0 w.9.length 1]
def G3(x:EGS)(i:Nat)(w:WKS)(th:Int)(K:AVal->aC Ob->Prop):Prop:=bif ilt th 0 then K (.raw (Value.slice none 0 0)) [w31 x,w30 x,some (.ints (some .u64) (EGS.s x).3),some (.abs (.hist x.6) []),some (.abs (.whole x.7 i) [5]),cE' (w36 w),cE' (w34 w),iI' (WKS.st w).3,some (.tab cK3 w.4),iI' w.8,iI' w.9]else bif ile (↑x.7.length:Int) th then K (.raw (Value.slice none 0 0)) [w31 x,w30 x,some (.ints (some .u64) (EGS.s x).3),some (.abs (.hist x.6) []),some (.abs (.whole x.7 i) [5]),cE' (w36 w),cE' (w34 w),iI' (WKS.st w).3,some (.tab cK3 w.4),iI' w.8,iI' w.9]else((0:Int)<=th/\th<(↑x.7.length:Int))/\(i<x.7.length/\0+Int.toNat th*(1:Nat)=i)/\(lE' (WKS.st w).3/\List.length (WKS.st w).3<=(1000000:Nat))/\K (.slice 11 0 (List.length (lJ (WKS.st w).2 (WKS.st w).3)) 1) [w31 x,w30 x,some (.ints (some .u64) (EGS.s x).3),some (.abs (.hist x.6) []),some (.abs (.whole x.7 i) [5]),cE' (w36 w),cE' (w34 w),iI' (WKS.st w).3,some (.tab cK3 w.4),iI' w.8,iI' w.9,iI' (lJ (WKS.st w).2 (WKS.st w).3)]
theorem G4(x:EGS)(i:Nat)(w:WKS)(th:Int)(K:AVal->aC Ob->Prop)(h:G3 x i w th K):cT' 69 [.ptr 0 0,.I th] (aGc x i w) (eD 1 K):=by
 exact cM' (E:=EU2) (by kernel_rfl) h
abbrev w35(w:WKS):List AVal:=[.ptr 6 0,.tslice 8 0 w.4.length 3,.I w.5,.ptr 9 0,.slice 10 0 w.8.length 1,.slice 11 0 w.9.length 1]
def G5(x:EGS)(i:Nat)(w:WKS)(th:Int)(K:AVal->aC Ob->Prop):Prop:=bif ilt th 0 then K (.raw (Value.slice none 0 0)) [w31 x,w30 x,some (.ints (some .u64) (EGS.s x).3),some (.abs (.hist x.6) []),some (.abs (.whole x.7 i) [5]),cE' (w35 w),cE' (w34 w),iI' (WKS.st w).3,some (.tab cK3 w.4),some (.abs (.doer w.1 w.2 w.7) [6]),iI' w.8,iI' w.9]else bif ile (↑x.7.length:Int) th then K (.raw (Value.slice none 0 0)) [w31 x,w30 x,some (.ints (some .u64) (EGS.s x).3),some (.abs (.hist x.6) []),some (.abs (.whole x.7 i) [5]),cE' (w35 w),cE' (w34 w),iI' (WKS.st w).3,some (.tab cK3 w.4),some (.abs (.doer w.1 w.2 w.7) [6]),iI' w.8,iI' w.9]else((0:Int)<=th/\th<(↑x.7.length:Int))/\(i<x.7.length/\0+Int.toNat th*(1:Nat)=i)/\(lE' (WKS.st w).3/\List.length (WKS.st w).3<=(1000000:Nat))/\K (.slice 12 0 (List.length (lJ (WKS.st w).2 (WKS.st w).3)) 1) [w31 x,w30 x,some (.ints (some .u64) (EGS.s x).3),some (.abs (.hist x.6) []),some (.abs (.whole x.7 i) [5]),cE' (w35 w),cE' (w34 w),iI' (WKS.st w).3,some (.tab cK3 w.4),some (.abs (.doer w.1 w.2 w.7) [6]),iI' w.8,iI' w.9,iI' (lJ (WKS.st w).2 (WKS.st w).3)]
theorem G6(x:EGS)(i:Nat)(w:WKS)(th:Int)(K:AVal->aC Ob->Prop)(h:G5 x i w th K):cT' 69 [.ptr 0 0,.I th] (aGd x i w) (eD 1 K):=by
 exact cM' (E:=EU2) (by kernel_rfl) h
abbrev w38(x:EGS):List AVal:=[.I (EGS.s x).1,.I (EGS.s x).2,.slice 2 0 (List.length (EGS.s x).3) 1,.I (EGS.s x).4,.I (EGS.s x).5,.I (EGS.s x).6,.int .u64 (EGS.s x).7,.int .u64 (EGS.s x).8,.bool (EGS.s x).9]
abbrev w39(x:EGS):List AVal:=[.I x.1,.I x.2,.I x.3,.I x.4,.ptr 1 0,.ptr 3 0,.slice 4 0 x.7.length 1,.I x.8]
abbrev w37(x:EGS):aC Ob:=[cE' (w39 x),cE' (w38 x),some (.ints (some .u64) (EGS.s x).3),some (.abs (.hist x.6) []),some (.abs (.wrow x.7) [])]
def aBf(x:EGS)(th:Int)(K:AVal->aC Ob->Prop):Prop:=bif ilt th 0 then K (.I 0) (w37 x)else bif ile (↑x.7.length:Int) th then K (.I 0) (w37 x)else((0:Int)<=th/\th<(↑x.7.length:Int))/\0+Int.toNat th*(1:Nat)<x.7.length/\True/\K (.I (W ((↑(List.length (bB x.7 (0+Int.toNat th*1)).4):Int) - (bB x.7 (0+Int.toNat th*1)).5))) [cE' (w39 x),cE' (w38 x),some (.ints (some .u64) (EGS.s x).3),some (.abs (.hist x.6) []),some (.abs (.whole x.7 (0+Int.toNat th*1)) [5]),some (.abs (.worker (bB x.7 (0+Int.toNat th*1))) [])]
theorem MV(x:EGS)(th:Int)(K:AVal->aC Ob->Prop)(h:aBf x th K):cT' 33 [.ptr 0 0,.I th] (egG x) (eD 1 K):=by
 exact cM' (E:=EU2) (by kernel_rfl) h
abbrev w3a(x:EGS):aC Ob:=[cE' [.I x.1,.I x.2,.I x.3,.I x.4,.ptr 1 0,.ptr 3 0,.slice 4 0 x.7.length 1,.I x.8],cE' [.I (EGS.s x).1,.I (EGS.s x).2,.slice 2 0 (List.length (EGS.s x).3) 1,.I (EGS.s x).4,.I (EGS.s x).5,.I (EGS.s x).6,.int .u64 (EGS.s x).7,.int .u64 (EGS.s x).8,.bool (EGS.s x).9],some (.ints (some .u64) (EGS.s x).3),some (.abs (.hist x.6) []),some (.abs (.wrow x.7) [])]
def aBi(x:EGS)(K:AVal->aC Ob->Prop):Prop:=K (.I x.8) (w3a x)
theorem M7(x:EGS)(K:AVal->aC Ob->Prop)(h:aBi x K):cT' 34 [.ptr 0 0] (egG x) (eD 1 K):=by
 exact cM' (E:=EU2) (by kernel_rfl) h
def aBg(x:EGS)(K:AVal->aC Ob->Prop):Prop:=K (.agg [.I (EGS.s x).1,.I (EGS.s x).2]) (w3a x)
theorem MX(x:EGS)(K:AVal->aC Ob->Prop)(h:aBg x K):cT' 38 [.ptr 0 0] (egG x) (eD 1 K):=by
 exact cM' (E:=EU2) (by kernel_rfl) h
def aBh(x:EGS)(a:Int)(K:AVal->aC Ob->Prop):Prop:=(lE' (EGS.s x).3/\True)/\K (.int .u64 (aE (EGS.s x).3 a)) [cE' [.I x.1,.I x.2,.I x.3,.I x.4,.ptr 1 0,.ptr 3 0,.slice 4 0 x.7.length 1,.I x.8],cE' [.I (EGS.s x).1,.I (EGS.s x).2,.slice 2 0 (List.length (EGS.s x).3) 1,.I (EGS.s x).4,.I (EGS.s x).5,.I (EGS.s x).6,.int .u64 (EGS.s x).7,.int .u64 (EGS.s x).8,.bool (EGS.s x).9],some (.ints (some .u64) (EGS.s x).3),some (.abs (.hist x.6) []),some (.abs (.wrow x.7) [])]
theorem MZ(x:EGS)(a:Int)(K:AVal->aC Ob->Prop)(h:aBh x a K):cT' 37 [.ptr 0 0,.I a] (egG x) (eD 1 K):=by
 exact cM' (E:=EU2) (by kernel_rfl) h
def aBe(x:EGS)(K:AVal->aC Ob->Prop):Prop:=(lE' (EGS.s x).3/\True)/\K (.agg [.I (EGS.s x).5,.I (EGS.s x).6,.int .u64 (EGS.s x).7,.int .u64 (EGS.s x).8,.bool (EGS.s x).9]) (w3a x)
theorem MU(x:EGS)(K:AVal->aC Ob->Prop)(h:aBe x K):cT' 45 [.ptr 0 0] (egG x) (eD 1 K):=by
 exact cM' (E:=EU2) (by kernel_rfl) h
theorem aA.keep{P:Program}{f:FuncId}{args:List AVal}{h:aC Ob}{n:Nat}{K:AVal->aC Ob->Prop}(h0:aA (obI tbl) P f args h (eD n (cO (obI tbl) n K))):aA (obI tbl) P f args h (cO (obI tbl) n K):=by
 intro V hR w args' hi hf hr;refine(h0 V hR w args' hi hf hr).mono ?_;rintro e w' ⟨v,v',V',h',ht,rest⟩;obtain⟨g0,hK⟩:=bM.1 ht;obtain⟨v2,g2,t,k⟩:=hK.ex;exact⟨v,v',V',h',⟨⟨v2,g2,(aF.pick _ g0).trans t,k⟩⟩,rest⟩
def lK(th:Int)(x:EGS):Int:=bif ilt th 0 then 0 else bif ile (x.ws.length:Int) th then 0 else W (((bB x.ws th.toNat).tk.length :Int) - (bB x.ws th.toNat).en)
def gL(th:Int)(x:EGS):List Int:=bif ilt th 0 then []else bif ile (x.ws.length:Int) th then []else(bB x.ws th.toNat).tl
def gI(th:Int)(x:EGS):List Int:=bif ilt th 0 then []else bif ile (x.ws.length:Int) th then []else(bB x.ws th.toNat).sl
def gA(th:Int)(x:EGS):List Int:=bif ilt th 0 then []else bif ile (x.ws.length:Int) th then []else lJ (bB x.ws th.toNat).st.sp (bB x.ws th.toNat).st.R
structure iY (x:EGS):Prop where
 h0:0<x.ws.length
 ht: ∀i,i<x.ws.length->(bB x.ws i).tl.length <=1000000
 hs: ∀i,i<x.ws.length->(bB x.ws i).sl.length <=1000000
 hr: ∀i,i<x.ws.length->(bB x.ws i).st.R.length <=1000000
theorem aGg(x:EGS)(i:Nat)(hi:i<x.ws.length):({x with ws:=dD x.ws i (bB x.ws i) } :EGS)=x:=by
 rw [cT hi]
def rlfS:aH Ob:=fun args h=>match args,h with
 | [.ptr 0 0,.int .i64 th],[some (.abs (.engine x) [])]=>some (.pre True (.ret (.I (lK th x)) (egH x)))
 | _,_=>none
theorem SR:sT' 33 rlfS:=by
 intro args h o ho K hK;unfold rlfS at ho;split at ho<;>cases ho
 rename_i th x;obtain⟨_,hK⟩:=hK;have hK:K (.I (lK th x)) (egH x):=hK;refine aJ9 ?_;refine aJ6 (h2:=egG x) (aQ.unpack (.engine x) 0 0 (egG x) [] rfl rfl rfl rfl) ?_;refine aA.keep (MV x th _ ?_);refine aJ (fun e1=>?_) (fun e1=>aJ (fun e2=>?_) (fun e2=>?_))
 ·have hv:lK th x=0:=by unfold lK;rw [e1];rfl
  rw [hv]at hK;exact⟨⟨_,_,jA 1 (Nat.le_refl 1) _ rfl x,hK⟩⟩
 ·have hv:lK th x=0:=by unfold lK;rw [e1,e2];rfl
  rw [hv]at hK;exact⟨⟨_,_,jA 1 (Nat.le_refl 1) _ rfl x,hK⟩⟩
 ·have hv:lK th x=W (((bB x.ws th.toNat).tk.length :Int) - (bB x.ws th.toNat).en):=by unfold lK;rw [e1,e2];rfl
  rw [bI,dF']at e1;rw [bZ,dF']at e2;have hi:0+th.toNat*1<x.ws.length:=by omega
  have ht:0+th.toNat*1=th.toNat:=by omega
  refine⟨⟨by omega,by omega⟩,hi,trivial,?_⟩
  rw [hv]at hK;refine⟨⟨_,_,BF (x:= {x with ws:=dD x.ws (0+th.toNat*1) (bB x.ws (0+th.toNat*1)) }) _ rfl rfl 1 (Nat.le_refl 1) rfl ⟨rfl,hi,rfl⟩,?_⟩⟩
  rw [aGg x _ hi,ht];exact hK
theorem TD(x:EGS)(i:Nat)(th:Int)(hi:i<x.ws.length)(K:AVal->aC Ob->Prop)(h0:(bB x.ws i).b =false->HD x i (bB x.ws i) th (cO (obI tbl) 1 K))(h1:(bB x.ws i).b =true->HF x i (bB x.ws i) th (cO (obI tbl) 1 K)):
 cT' 32 [.ptr 0 0,.I th] (egH x) K:=by
 refine aJ9 ?_;cases hb:(bB x.ws i).b with
 | false=>exact aJ6 (uV hi hb) (aA.keep (HE x i _ th _ (h0 hb)))
 | true=>exact aJ6 (uW hi hb) (aA.keep (HG x i _ th _ (h1 hb)))
def rtkS:aH Ob:=fun args h=>match args,h with
 | [.ptr 0 0,.int .i64 th],[some (.abs (.engine x) [])]=>some (.pre (iY x) (.ret (.slice 1 0 (gL th x).length 1) [some (.abs (.engine x) []),iI' (gL th x)]))
 | _,_=>none
theorem SV:sT' 32 rtkS:=by
 intro args h o ho K hK;unfold rtkS at ho;split at ho<;>cases ho
 rename_i th x;obtain⟨⟨hl,ht,hs,hr⟩,hK⟩:=hK;have hK:K (.slice 1 0 (gL th x).length 1) [some (.abs (.engine x) []),iI' (gL th x)]:=hK
 have nilt: ∀(b:Bool) (g g2:aC Ob) (e1:ilt th 0=true\/(ilt th 0=false/\ile (x.ws.length:Int) th=true)),gL th x=[]:=by
  intro b g g2 e;unfold gL;rcases e with e | ⟨e,e2⟩
  ·rw [e];rfl
  ·rw [e,e2];rfl
 cases e1:ilt th 0 with
 | true=>
   have hv:=nilt true [] [] (.inl e1);rw [hv]at hK;refine TD x 0 th hl K (fun hb=>?_) (fun hb=>?_)
   ·exact aJ (fun _=>⟨⟨_,_,(aF.cast (cs:=[(.slot 0,.ints (some .i64))]) rfl).trans (KK x 0 _ [] hl (cT hl) hb),hK⟩⟩) (fun e=>by rw [e1]at e;cases e)
   ·exact aJ (fun _=>⟨⟨_,_,(aF.cast (cs:=[(.slot 0,.ints (some .i64))]) rfl).trans (KL x 0 _ [] hl (cT hl) hb),hK⟩⟩) (fun e=>by rw [e1]at e;cases e)
 | false=>
   cases e2:ile (x.ws.length:Int) th with
   | true=>
     have hv:=nilt true [] [] (.inr ⟨e1,e2⟩);rw [hv]at hK;refine TD x 0 th hl K (fun hb=>?_) (fun hb=>?_)
     ·exact aJ (fun e=>by rw [e1]at e;cases e) (fun _=>aJ (fun _=>⟨⟨_,_,(aF.cast (cs:=[(.slot 0,.ints (some .i64))]) rfl).trans (KK x 0 _ [] hl (cT hl) hb),hK⟩⟩) (fun e=>by rw [e2]at e;cases e))
     ·exact aJ (fun e=>by rw [e1]at e;cases e) (fun _=>aJ (fun _=>⟨⟨_,_,(aF.cast (cs:=[(.slot 0,.ints (some .i64))]) rfl).trans (KL x 0 _ [] hl (cT hl) hb),hK⟩⟩) (fun e=>by rw [e2]at e;cases e))
   | false=>
     have hv:gL th x=(bB x.ws th.toNat).tl :=by unfold gL;rw [e1,e2];rfl
     have e1':=e1;have e2':=e2;rw [bI,dF']at e1';rw [bZ,dF']at e2';have hi:th.toNat<x.ws.length:=by omega
     have hf:=ht _ hi;rw [hv]at hK;refine TD x th.toNat th hi K (fun hb=>?_) (fun hb=>?_)
     ·exact aJ (fun e=>by rw [e1]at e;cases e) (fun _=>aJ (fun e=>by rw [e2]at e;cases e) (fun _=>⟨⟨by omega,by omega⟩,⟨hi,by omega⟩,⟨rfl,by omega⟩,⟨⟨_,_,KK x th.toNat _ _ hi (cT hi) hb,hK⟩⟩⟩))
     ·exact aJ (fun e=>by rw [e1]at e;cases e) (fun _=>aJ (fun e=>by rw [e2]at e;cases e) (fun _=>⟨⟨by omega,by omega⟩,⟨hi,by omega⟩,⟨rfl,by omega⟩,⟨⟨_,_,KL x th.toNat _ _ hi (cT hi) hb,hK⟩⟩⟩))
theorem S8(x:EGS)(i:Nat)(th:Int)(hi:i<x.ws.length)(K:AVal->aC Ob->Prop)(h0:(bB x.ws i).b =false->G8 x i (bB x.ws i) th (cO (obI tbl) 1 K))(h1:(bB x.ws i).b =true->HA x i (bB x.ws i) th (cO (obI tbl) 1 K)):
 cT' 35 [.ptr 0 0,.I th] (egH x) K:=by
 refine aJ9 ?_;cases hb:(bB x.ws i).b with
 | false=>exact aJ6 (uV hi hb) (aA.keep (G9 x i _ th _ (h0 hb)))
 | true=>exact aJ6 (uW hi hb) (aA.keep (HB x i _ th _ (h1 hb)))
def rswS:aH Ob:=fun args h=>match args,h with
 | [.ptr 0 0,.int .i64 th],[some (.abs (.engine x) [])]=>some (.pre (iY x) (.ret (.slice 1 0 (gI th x).length 1) [some (.abs (.engine x) []),iI' (gI th x)]))
 | _,_=>none
theorem SU:sT' 35 rswS:=by
 intro args h o ho K hK;unfold rswS at ho;split at ho<;>cases ho
 rename_i th x;obtain⟨⟨hl,ht,hs,hr⟩,hK⟩:=hK;have hK:K (.slice 1 0 (gI th x).length 1) [some (.abs (.engine x) []),iI' (gI th x)]:=hK
 have nilt: ∀(b:Bool) (g g2:aC Ob) (e1:ilt th 0=true\/(ilt th 0=false/\ile (x.ws.length:Int) th=true)),gI th x=[]:=by
  intro b g g2 e;unfold gI;rcases e with e | ⟨e,e2⟩
  ·rw [e];rfl
  ·rw [e,e2];rfl
 cases e1:ilt th 0 with
 | true=>
   have hv:=nilt true [] [] (.inl e1);rw [hv]at hK;refine S8 x 0 th hl K (fun hb=>?_) (fun hb=>?_)
   ·exact aJ (fun _=>⟨⟨_,_,(aF.cast (cs:=[(.slot 0,.ints (some .i64))]) rfl).trans (KK x 0 _ [] hl (cT hl) hb),hK⟩⟩) (fun e=>by rw [e1]at e;cases e)
   ·exact aJ (fun _=>⟨⟨_,_,(aF.cast (cs:=[(.slot 0,.ints (some .i64))]) rfl).trans (KL x 0 _ [] hl (cT hl) hb),hK⟩⟩) (fun e=>by rw [e1]at e;cases e)
 | false=>
   cases e2:ile (x.ws.length:Int) th with
   | true=>
     have hv:=nilt true [] [] (.inr ⟨e1,e2⟩);rw [hv]at hK;refine S8 x 0 th hl K (fun hb=>?_) (fun hb=>?_)
     ·exact aJ (fun e=>by rw [e1]at e;cases e) (fun _=>aJ (fun _=>⟨⟨_,_,(aF.cast (cs:=[(.slot 0,.ints (some .i64))]) rfl).trans (KK x 0 _ [] hl (cT hl) hb),hK⟩⟩) (fun e=>by rw [e2]at e;cases e))
     ·exact aJ (fun e=>by rw [e1]at e;cases e) (fun _=>aJ (fun _=>⟨⟨_,_,(aF.cast (cs:=[(.slot 0,.ints (some .i64))]) rfl).trans (KL x 0 _ [] hl (cT hl) hb),hK⟩⟩) (fun e=>by rw [e2]at e;cases e))
   | false=>
     have hv:gI th x=(bB x.ws th.toNat).sl :=by unfold gI;rw [e1,e2];rfl
     have e1':=e1;have e2':=e2;rw [bI,dF']at e1';rw [bZ,dF']at e2';have hi:th.toNat<x.ws.length:=by omega
     have hf:=hs _ hi;rw [hv]at hK;refine S8 x th.toNat th hi K (fun hb=>?_) (fun hb=>?_)
     ·exact aJ (fun e=>by rw [e1]at e;cases e) (fun _=>aJ (fun e=>by rw [e2]at e;cases e) (fun _=>⟨⟨by omega,by omega⟩,⟨hi,by omega⟩,⟨rfl,by omega⟩,⟨⟨_,_,KK x th.toNat _ _ hi (cT hi) hb,hK⟩⟩⟩))
     ·exact aJ (fun e=>by rw [e1]at e;cases e) (fun _=>aJ (fun e=>by rw [e2]at e;cases e) (fun _=>⟨⟨by omega,by omega⟩,⟨hi,by omega⟩,⟨rfl,by omega⟩,⟨⟨_,_,KL x th.toNat _ _ hi (cT hi) hb,hK⟩⟩⟩))
theorem QJ(x:EGS)(i:Nat)(th:Int)(hi:i<x.ws.length)(K:AVal->aC Ob->Prop)(h0:(bB x.ws i).b =false->G3 x i (bB x.ws i) th (cO (obI tbl) 1 K))(h1:(bB x.ws i).b =true->G5 x i (bB x.ws i) th (cO (obI tbl) 1 K)):
 cT' 69 [.ptr 0 0,.I th] (egH x) K:=by
 refine aJ9 ?_;cases hb:(bB x.ws i).b with
 | false=>exact aJ6 (KM hi hb) (aA.keep (G4 x i _ th _ (h0 hb)))
 | true=>exact aJ6 (KN hi hb) (aA.keep (G6 x i _ th _ (h1 hb)))
def rhdS:aH Ob:=fun args h=>match args,h with
 | [.ptr 0 0,.int .i64 th],[some (.abs (.engine x) [])]=>some (.pre (iY x) (.ret (.slice 1 0 (gA th x).length 1) [some (.abs (.engine x) []),iI' (gA th x)]))
 | _,_=>none
theorem SP:sT' 69 rhdS:=by
 intro args h o ho K hK;unfold rhdS at ho;split at ho<;>cases ho
 rename_i th x;obtain⟨⟨hl,ht,hs,hr⟩,hK⟩:=hK;have hK:K (.slice 1 0 (gA th x).length 1) [some (.abs (.engine x) []),iI' (gA th x)]:=hK
 have nilt: ∀(b:Bool) (g g2:aC Ob) (e1:ilt th 0=true\/(ilt th 0=false/\ile (x.ws.length:Int) th=true)),gA th x=[]:=by
  intro b g g2 e;unfold gA;rcases e with e | ⟨e,e2⟩
  ·rw [e];rfl
  ·rw [e,e2];rfl
 cases e1:ilt th 0 with
 | true=>
   have hv:=nilt true [] [] (.inl e1);rw [hv]at hK;refine QJ x 0 th hl K (fun hb=>?_) (fun hb=>?_)
   ·exact aJ (fun _=>⟨⟨_,_,(aF.cast (cs:=[(.slot 0,.ints (some .i64))]) rfl).trans (aCJ x 0 _ [] hl (cT hl) hb),hK⟩⟩) (fun e=>by rw [e1]at e;cases e)
   ·exact aJ (fun _=>⟨⟨_,_,(aF.cast (cs:=[(.slot 0,.ints (some .i64))]) rfl).trans (aCK x 0 _ [] hl (cT hl) hb),hK⟩⟩) (fun e=>by rw [e1]at e;cases e)
 | false=>
   cases e2:ile (x.ws.length:Int) th with
   | true=>
     have hv:=nilt true [] [] (.inr ⟨e1,e2⟩);rw [hv]at hK;refine QJ x 0 th hl K (fun hb=>?_) (fun hb=>?_)
     ·exact aJ (fun e=>by rw [e1]at e;cases e) (fun _=>aJ (fun _=>⟨⟨_,_,(aF.cast (cs:=[(.slot 0,.ints (some .i64))]) rfl).trans (aCJ x 0 _ [] hl (cT hl) hb),hK⟩⟩) (fun e=>by rw [e2]at e;cases e))
     ·exact aJ (fun e=>by rw [e1]at e;cases e) (fun _=>aJ (fun _=>⟨⟨_,_,(aF.cast (cs:=[(.slot 0,.ints (some .i64))]) rfl).trans (aCK x 0 _ [] hl (cT hl) hb),hK⟩⟩) (fun e=>by rw [e2]at e;cases e))
   | false=>
     have hv:gA th x=(lJ (bB x.ws th.toNat).st.sp (bB x.ws th.toNat).st.R):=by unfold gA;rw [e1,e2];rfl
     have e1':=e1;have e2':=e2;rw [bI,dF']at e1';rw [bZ,dF']at e2';have hi:th.toNat<x.ws.length:=by omega
     have hf:=hr _ hi;rw [hv]at hK;refine QJ x th.toNat th hi K (fun hb=>?_) (fun hb=>?_)
     ·exact aJ (fun e=>by rw [e1]at e;cases e) (fun _=>aJ (fun e=>by rw [e2]at e;cases e) (fun _=>⟨⟨by omega,by omega⟩,⟨hi,by omega⟩,⟨rfl,hf⟩,⟨⟨_,_,aCJ x th.toNat _ _ hi (cT hi) hb,hK⟩⟩⟩))
     ·exact aJ (fun e=>by rw [e1]at e;cases e) (fun _=>aJ (fun e=>by rw [e2]at e;cases e) (fun _=>⟨⟨by omega,by omega⟩,⟨hi,by omega⟩,⟨rfl,hf⟩,⟨⟨_,_,aCK x th.toNat _ _ hi (cT hi) hb,hK⟩⟩⟩))
def estS:aH Ob:=fun args h=>match args,h with
 | [.ptr 0 0],[some (.abs (.engine x) [])]=>some (.pre True (.ret (.I x.k) (egH x)))
 | _,_=>none
theorem PT:sT' 34 estS:=by
 intro args h o ho K hK;unfold estS at ho;split at ho<;>cases ho
 rename_i x;obtain⟨_,hK⟩:=hK;have hK:K (.I x.k) (egH x):=hK;refine aJ9 ?_;refine aJ6 (h2:=egG x) (aQ.unpack (.engine x) 0 0 (egG x) [] rfl rfl rfl rfl) ?_;refine aA.keep (M7 x _ ?_);exact⟨⟨_,_,jA 1 (Nat.le_refl 1) _ rfl x,hK⟩⟩
def elyS:aH Ob:=fun args h=>match args,h with
 | [.ptr 0 0],[some (.abs (.engine x) [])]=>some (.pre True (.ret (.agg [.I x.s.t,.I x.s.n]) (egH x)))
 | _,_=>none
theorem PL:sT' 38 elyS:=by
 intro args h o ho K hK;unfold elyS at ho;split at ho<;>cases ho
 rename_i x;obtain⟨_,hK⟩:=hK;have hK:K (.agg [.I x.s.t,.I x.s.n]) (egH x):=hK;refine aJ9 ?_;refine aJ6 (h2:=egG x) (aQ.unpack (.engine x) 0 0 (egG x) [] rfl rfl rfl rfl) ?_;refine aA.keep (MX x _ ?_);exact⟨⟨_,_,jA 1 (Nat.le_refl 1) _ rfl x,hK⟩⟩
def epeS:aH Ob:=fun args h=>match args,h with
 | [.ptr 0 0,.int .i64 a],[some (.abs (.engine x) [])]=>some (.pre True (.ret (.int .u64 (aE x.s.xs a)) (egH x)))
 | _,_=>none
theorem PP:sT' 37 epeS:=by
 intro args h o ho K hK;unfold epeS at ho;split at ho<;>cases ho
 rename_i a x;obtain⟨_,hK⟩:=hK;have hK:K (.int .u64 (aE x.s.xs a)) (egH x):=hK;refine aJ9 ?_;refine aJ6 (h2:=egG x) (aQ.unpack (.engine x) 0 0 (egG x) [] rfl rfl rfl rfl) ?_;refine aA.keep (MZ x a _ ?_);exact⟨⟨rfl,trivial⟩,⟨⟨_,_,jA 1 (Nat.le_refl 1) _ rfl x,hK⟩⟩⟩
def elaS:aH Ob:=fun args h=>match args,h with
 | [.ptr 0 0],[some (.abs (.engine x) [])]=>some (.pre True (.ret (.agg [.I x.s.k,.I x.s.a,.int .u64 x.s.o,.int .u64 x.s.w,.bool x.s.ok]) (egH x)))
 | _,_=>none
theorem PJ:sT' 45 elaS:=by
 intro args h o ho K hK;unfold elaS at ho;split at ho<;>cases ho
 rename_i x;obtain⟨_,hK⟩:=hK;have hK:K (.agg [.I x.s.k,.I x.s.a,.int .u64 x.s.o,.int .u64 x.s.w,.bool x.s.ok]) (egH x):=hK;refine aJ9 ?_;refine aJ6 (h2:=egG x) (aQ.unpack (.engine x) 0 0 (egG x) [] rfl rfl rfl rfl) ?_;refine aA.keep (MU x _ ?_);exact⟨⟨rfl,trivial⟩,⟨⟨_,_,jA 1 (Nat.le_refl 1) _ rfl x,hK⟩⟩⟩
noncomputable def EU3:=((((((((EU2.addS 33 rlfS SR).addS 32 rtkS SV).addS 35 rswS SU).addS 69 rhdS SP).addS 34 estS PT).addS 38 elyS PL).addS 37 epeS PP).addS 45 elaS PJ)
def y8(xs:List Int)(nd:Int):Nat->Int->List Int->List Int
 | 0,_,out=>out
 | k+1,n,out=>bif bC nd n then bif !hasB out n then y8 xs nd k (aB (aE xs n) 10 9) (out++ [n])else out else out
def ndF(xs:List Int)(nd hd:Int):List Int:=y8 xs nd (nd.toNat+1) (aB (aE xs (nd+1+hd)) 10 9) []
def iT(nd:Int)(out:List Int):Nat:=((List.range nd.toNat).filter (fun(j:Nat)=>!hasB out ((j:Int)+1))).length
theorem GG{p q:Nat->Bool}(hpq: ∀j,p j=true->q j=true)(l:List Nat):(l.filter p).length <=(l.filter q).length :=by
 induction l with
 | nil=>exact Nat.le_refl _
 | cons b l ih=>
   simp only [List.filter_cons];cases hp:p b with
   | true=>rw [hpq b hp];simp;exact ih
   | false=>cases hq:q b<;>simp<;>omega
theorem GI{p q:Nat->Bool}(l:List Nat)(hpq: ∀j,p j=true->q j=true)(h: ∃j,j∈l/\q j=true/\p j=false):(l.filter p).length <(l.filter q).length :=by
 induction l with
 | nil=>obtain⟨j,hj,_⟩:=h;cases hj
 | cons a l ih=>
   have hle:=GG hpq l;simp only [List.filter_cons];obtain⟨j,hj,hq,hp⟩:=h;rcases List.mem_cons.1 hj with rfl | hj
   ·rw [hp,hq];simp;omega
   ·have:=ih ⟨j,hj,hq,hp⟩;cases hp2:p a with
    | true=>rw [hpq a hp2];simp;exact this
    | false=>cases hq2:q a<;>simp<;>omega
theorem L3{nd n:Int}{out:List Int}(h1:bC nd n=true)(h2:hasB out n=false):iT nd (out++ [n])<iT nd out:=by
 have h1:=cQ.1 h1;have h2:n∉out:=by intro hm;rw [jL.2 hm]at h2;cases h2
 unfold iT;refine GI _ (fun j hj=>?_) ⟨(n - 1).toNat,?_,?_,?_⟩
 ·cases e:hasB out ((j:Int)+1)with
  | false=>rfl
  | true=>
    have:hasB (out++ [n]) ((j:Int)+1)=true:=jL.2 (List.mem_append_left _ (jL.1 e));rw [this]at hj;cases hj
 ·rw [List.mem_range];omega
 ·have e:(((n - 1).toNat :Nat):Int)+1=n:=by omega
  rw [e];cases e2:hasB out n with
  | false=>rfl
  | true=>exact absurd (jL.1 e2) h2
 ·have e:(((n - 1).toNat :Nat):Int)+1=n:=by omega
  rw [e,jL.2 (List.mem_append_right _ (List.mem_singleton.2 rfl))];rfl
theorem CT(nd:Int):iT nd []<=nd.toNat:=by
 unfold iT;exact Nat.le_trans (List.length_filter_le _ _) (by simp)
structure aG9 (xs:List Int) (nd:Int) (R:List Int) (x:Int×List Int):Prop where
 hb:(x.2.length:Int)<=nd.toNat
 ex: ∃k,iT nd x.2<k/\y8 xs nd k x.1 x.2=R
 hc:x.2.length+iT nd x.2<=nd.toNat
def TV(s:MS)(lt ln:Int)(R:List Int):Hint Ob:= {X:=Int×List Int,st:=fun x=>([.ptr 0 0,.O,.O,.O,.ptr 2 0,.O,.O,.slice 3 0 x.2.length 1,.I x.1]++List.replicate 26 .O,[aX 1 s,aY s,cE' [.I lt,.I ln],iI' x.2]),ok:=aG9 s.xs ln R,mu:=fun x=>iT ln x.2,keep:=[0,4,7,8],casts:=[(.slot 7,.ints (some .i64))] }
abbrev w3b(s:MS):Option (aG Ob):=cE' [.I s.1,.I s.2,.slice 1 0 s.3.length 1,.I s.4,.I s.5,.I s.6,.int .u64 s.7,.int .u64 s.8,.bool s.9]
def aEg(s:MS)(lt ln hd:Int)(R:List Int)(K:AVal->aC Ob->Prop):Prop:=(((0:Int)<=ln/\ln<=(100000:Int))/\(-1000000:Int)<=hd/\hd<=(1000000:Int))/\(lE' s.3/\True)/\True/\dJ (TV s lt ln R) (Hint.ok (TV s lt ln R)) (.ptr 0 0::.O::.O::.O::.ptr 2 0::.O::.O::.slice 3 0 0 1::.I (aB (aE s.3 (ln+1+hd)) 10 9)::(tO' 26 [])) [w3b s,some (.ints (some .u64) s.3),cE' [.I lt,.I ln],some (.ints (some .i64) [])]/\ ∀(x:(Int×List Int)),aG9 s.3 ln R x->True/\bif bC ln x.1 then(lE' x.2/\x.2.length<=(4294967296:Nat))/\bif !hasB x.2 x.1 then(0=0/\lE' x.2/\1=1/\x.2.length+(1:Nat)<=(4294967296:Nat))/\(lE' s.3/\True)/\True/\dJ (TV s lt ln R) (fun x'=>Hint.ok (TV s lt ln R) x'/\Hint.mu (TV s lt ln R) x'<Hint.mu (TV s lt ln R) x) (.ptr 0 0::.O::.O::.O::.ptr 2 0::.O::.O::.slice 3 0 (x.2.length+1) 1::.I (aB (aE s.3 x.1) 10 9)::(tO' 26 [])) [w3b s,some (.ints (some .u64) s.3),cE' [.I lt,.I ln],iI' (x.2++ [x.1])]else K (.slice 2 0 x.2.length 1) [w3b s,some (.ints (some .u64) s.3),iI' x.2]else K (.slice 2 0 x.2.length 1) [w3b s,some (.ints (some .u64) s.3),iI' x.2]
theorem RG(s:MS)(lt ln hd:Int)(R:List Int)(K:AVal->aC Ob->Prop)(h:aEg s lt ln hd R K):cT' 132 [.ptr 0 0,.agg [.I lt,.I ln],.I hd] [aX 1 s,aY s] K:=by
 exact aJ1 (aD (E:=EU3) Tryz.checked.mixed (L:=fun _ _=>some (.states (TV s lt ln R))) (n:=10) (aK (by kernel_rfl) h))
theorem aHb(s:MS)(lt ln hd:Int)(K:AVal->aC Ob->Prop)(h1:0<=ln/\ln<=100000)(h2: -1000000<=hd/\hd<=1000000)(hK:K (.slice 2 0 (ndF s.xs ln hd).length 1) [aX 1 s,aY s,iI' (ndF s.xs ln hd)]):aEg s lt ln hd (ndF s.xs ln hd) K:=by
 refine⟨⟨h1,h2⟩,⟨rfl,trivial⟩,trivial,aR (H:=TV s lt ln (ndF s.xs ln hd)) (aB (aE s.xs (ln+1+hd)) 10 9,[]) rfl ⟨by show((0:Nat):Int)<=_;omega,⟨ln.toNat+1,by have:=CT ln;show iT ln []<ln.toNat+1;omega,rfl⟩,by have:=CT ln;show 0+iT ln []<=ln.toNat;omega⟩,?_⟩
 rintro⟨n,out⟩ ⟨hb,⟨k,hk,hR⟩,hc⟩;dsimp only at hb hk hR hc⊢;have stop: ∀(h:bif bC ln n then !hasB out n else false),True:=fun _=>trivial;refine⟨trivial,aJ (fun e1=>⟨⟨rfl,by omega⟩,aJ (fun e2=>?_) (fun e2=>?_)⟩) (fun e1=>?_)⟩
 ·have e2':hasB out n=false:=by simpa using e2
  have hlt:=L3 (nd:=ln) e1 e2';cases k with
  | zero=>omega
  | succ k=>
    unfold y8 at hR;rw [e1,e2]at hR;simp only [cond_true]at hR;refine⟨⟨rfl,rfl,rfl,by omega⟩,⟨rfl,trivial⟩,trivial,aR (H:=TV s lt ln (ndF s.xs ln hd)) (aB (aE s.xs n) 10 9,out++ [n]) (by simp only [TV,List.length_append,List.length_singleton]<;>rfl) ⟨⟨?_,⟨k,by show iT ln (out++ [n])<k;omega,hR⟩,?_⟩,hlt⟩⟩
    ·show((out++ [n]).length :Int)<=_;rw [List.length_append,List.length_singleton];omega
    ·show(out++ [n]).length +iT ln (out++ [n])<=_;rw [List.length_append,List.length_singleton];omega
 ·have hR2:out=ndF s.xs ln hd:=by
   cases k with
   | zero=>omega
   | succ k=>
     unfold y8 at hR;rw [e1,e2]at hR;exact hR
  rw [<-hR2]at hK;exact hK
 ·have hR2:out=ndF s.xs ln hd:=by
   cases k with
   | zero=>omega
   | succ k=>
     unfold y8 at hR;rw [e1]at hR;exact hR
  rw [<-hR2]at hK;exact hK
theorem RF(xs:List Int)(nd:Int)(k:Nat): ∀(n:Int) (out:List Int),(y8 xs nd k n out).length <=out.length+k:=by
 induction k with
 | zero=>intro n out;unfold y8;omega
 | succ k ih=>
   intro n out;unfold y8;cases bC nd n<;>cases hasB out n<;>simp only [cond_true,cond_false,Bool.not_true,Bool.not_false]<;>try omega
   have:=ih (aB (aE xs n) 10 9) (out++ [n]);rw [List.length_append,List.length_singleton]at this;omega
theorem I7(xs:List Int)(nd hd:Int):(ndF xs nd hd).length <=nd.toNat+1:=by
 have:=RF xs nd (nd.toNat+1) (aB (aE xs (nd+1+hd)) 10 9) [];unfold ndF
 simpa using this
def ndS:aH Ob:=fun args h=>match args,h with
 | [.ptr 0 0,.agg [.int .i64 lt,.int .i64 ln],.int .i64 hd],[e1,e2]=>(match cJ 1 [e1,e2]with
   | some (l,s)=>some (.pre (l=s.xs.length/\(0<=ln/\ln<=100000)/\(-1000000<=hd/\hd<=1000000)) (.ret (.slice 2 0 (ndF s.xs ln hd).length 1) [aX 1 s,aY s,iI' (ndF s.xs ln hd)]))
   | none=>none)
 | _,_=>none
theorem aHa:sT' 132 ndS:=by
 intro args h o ho K hK;unfold ndS at ho;split at ho
 case h_2=>cases ho
 rename_i lt ln hd e1 e2;split at ho<;>cases ho
 rename_i l s hm;obtain⟨⟨hl,h1,h2⟩,hK⟩:=hK;have hh:=aZ hm hl;cases hh;exact RG s lt ln hd _ K (aHb s lt ln hd K h1 h2 hK)
noncomputable def EU4:=EU3.addS 132 ndS aHa
def kyL(xs ns:List Int):List Int:=(ns.filter fun a=>!ieq (aB (aE xs a) 19 1) 1).map fun a=>aB (aE xs a) 0 10
structure aG0 (xs ns:List Int) (x:Nat×List Int):Prop where
 hi:x.1<=ns.length
 eq:x.2=kyL xs (ns.take x.1)
def HKY(s:MS)(ns:List Int):Hint Ob:= {X:=Nat×List Int,st:=fun x=>([.ptr 0 0,.O,.O,.O,.O,.O,.O,.slice 2 0 x.2.length 1,.O,.O,.O,.O,.O,.O,.slice 3 0 ns.length 1,.I (ns.length:Int),.I (x.1:Int)]++List.replicate 17 .O,[aX 1 s,aY s,iI' x.2,iI' ns]),ok:=aG0 s.xs ns,mu:=fun x=>ns.length - x.1,keep:=[0,7,14,15,16],casts:=[(.slot 7,.ints (some .i64))] }
abbrev w3c(s:MS):Option (aG Ob):=cE' [.I s.1,.I s.2,.slice 1 0 s.3.length 1,.I s.4,.I s.5,.I s.6,.int .u64 s.7,.int .u64 s.8,.bool s.9]
def aD8(s:MS)(lt ln hd:Int)(K:AVal->aC Ob->Prop):Prop:=(lE' s.3/\((0:Int)<=ln/\ln<=(100000:Int))/\(-1000000:Int)<=hd/\hd<=(1000000:Int))/\dJ (HKY s (ndF (MS.xs s) ln hd)) (Hint.ok (HKY s (ndF (MS.xs s) ln hd))) (.ptr 0 0::.O::.O::.O::.O::.O::.O::.slice 2 0 0 1::.O::.O::.O::.O::.O::.O::.slice 3 0 (List.length (ndF s.3 ln hd)) 1::.I (↑(List.length (ndF s.3 ln hd)):Int)::.I 0::(tO' 17 [])) [w3c s,some (.ints (some .u64) s.3),some (.ints (some .i64) []),iI' (ndF s.3 ln hd)]/\ ∀(x:Hint.X (HKY s (ndF (MS.xs s) ln hd))),aG0 s.3 (ndF s.3 ln hd) x->bif ilt (↑x.1:Int) (↑(List.length (ndF s.3 ln hd)):Int)then((0:Int)<=(↑x.1:Int)/\(↑x.1:Int)<(↑(List.length (ndF s.3 ln hd)):Int))/\0+Int.toNat (↑x.1:Int)*(1:Nat)<List.length (ndF s.3 ln hd)/\(lE' s.3/\True)/\True/\bif !ieq (aB (aE s.3 (List.getD (ndF s.3 ln hd) (0+Int.toNat (↑x.1:Int)*1) 0)) 19 1) 1 then(0=0/\lE' x.2/\1=1/\x.2.length+(1:Nat)<=(4294967296:Nat))/\dJ (HKY s (ndF (MS.xs s) ln hd)) (fun x'=>Hint.ok (HKY s (ndF (MS.xs s) ln hd)) x'/\Hint.mu (HKY s (ndF (MS.xs s) ln hd)) x'<Hint.mu (HKY s (ndF (MS.xs s) ln hd)) x) (.ptr 0 0::.O::.O::.O::.O::.O::.O::.slice 2 0 (x.2.length+1) 1::.O::.O::.O::.O::.O::.O::.slice 3 0 (List.length (ndF s.3 ln hd)) 1::.I (↑(List.length (ndF s.3 ln hd)):Int)::.I (W ((↑x.1:Int)+1))::(tO' 17 [])) [w3c s,some (.ints (some .u64) s.3),iI' (x.2++ [aB (aE s.3 (List.getD (ndF s.3 ln hd) (0+Int.toNat (↑x.1:Int)*1) 0)) 0 10]),iI' (ndF s.3 ln hd)]else dJ (HKY s (ndF (MS.xs s) ln hd)) (fun x'=>Hint.ok (HKY s (ndF (MS.xs s) ln hd)) x'/\Hint.mu (HKY s (ndF (MS.xs s) ln hd)) x'<Hint.mu (HKY s (ndF (MS.xs s) ln hd)) x) (.ptr 0 0::.O::.O::.O::.O::.O::.O::.slice 2 0 x.2.length 1::.O::.O::.O::.O::.O::.O::.slice 3 0 (List.length (ndF s.3 ln hd)) 1::.I (↑(List.length (ndF s.3 ln hd)):Int)::.I (W ((↑x.1:Int)+1))::(tO' 17 [])) [w3c s,some (.ints (some .u64) s.3),iI' x.2,iI' (ndF s.3 ln hd)]else K (.slice 2 0 x.2.length 1) [w3c s,some (.ints (some .u64) s.3),iI' x.2]
theorem QZ(s:MS)(lt ln hd:Int)(K:AVal->aC Ob->Prop)(h:aD8 s lt ln hd K):cT' 110 [.ptr 0 0,.agg [.I lt,.I ln],.I hd] [aX 1 s,aY s] K:=by
 exact aJ1 (aD (E:=EU4) Tryz.checked.mixed (L:=fun _ _=>some (.states (HKY s (ndF s.xs ln hd)))) (n:=10) (aK (by kernel_rfl) h))
theorem TA{ns:List Int}{i:Nat}(hi:i<ns.length):ns.take (i+1)=ns.take i++ [ns.getD i 0]:=by
 rw [List.take_succ,gD',gE' hi];rfl
theorem aA1{xs ns:List Int}{i:Nat}(hi:i<ns.length)(h:(!ieq (aB (aE xs (ns.getD i 0)) 19 1) 1)=true):kyL xs (ns.take (i+1))=kyL xs (ns.take i)++ [aB (aE xs (ns.getD i 0)) 0 10]:=by
 unfold kyL;rw [TA hi,List.filter_append,List.map_append];simp only [List.filter_cons,List.filter_nil,h,if_true,List.map_cons,List.map_nil]
theorem aG1{xs ns:List Int}{i:Nat}(hi:i<ns.length)(h:(!ieq (aB (aE xs (ns.getD i 0)) 19 1) 1)=false):kyL xs (ns.take (i+1))=kyL xs (ns.take i):=by
 unfold kyL;rw [TA hi,List.filter_append,List.map_append];simp only [List.filter_cons,List.filter_nil,h,Bool.false_eq_true,if_false,List.map_nil,List.append_nil]
theorem I4(xs ns:List Int):(kyL xs ns).length <=ns.length:=by
 unfold kyL;rw [List.length_map];exact List.length_filter_le _ _
def keyF(xs:List Int)(nd hd:Int):List Int:=kyL xs (ndF xs nd hd)
theorem iL(xs:List Int)(nd hd:Int):(keyF xs nd hd).length <=nd.toNat+1:=Nat.le_trans (I4 _ _) (I7 _ _ _)
theorem aG2(s:MS)(lt ln hd:Int)(K:AVal->aC Ob->Prop)(h1:0<=ln/\ln<=100000)(h2: -1000000<=hd/\hd<=1000000)(hK:K (.slice 2 0 (keyF s.xs ln hd).length 1) [aX 1 s,aY s,iI' (keyF s.xs ln hd)]):aD8 s lt ln hd K:=by
 have hlen:=I7 s.xs ln hd;unfold keyF at hK;refine⟨⟨rfl,h1,h2⟩,aR (H:=HKY s (ndF s.xs ln hd)) ((0:Nat),[]) rfl ⟨Nat.zero_le _,rfl⟩,?_⟩;have hlen':(ndF s.3 ln hd).length <=ln.toNat+1:=hlen;generalize ndF s.xs ln hd=ns at hK hlen⊢;rintro⟨i,out⟩ ⟨hi,heq⟩;dsimp only at hi heq;subst heq;have hkl:(kyL s.xs (ns.take i)).length <=i:=Nat.le_trans (I4 _ _) (List.length_take_le _ _);refine aJ (fun e=>?_) (fun e=>?_)
 ·rw [bI,dT']at e;have e:(i:Int)<(ns.length:Int):=e;have hil:i<ns.length:=by omega
  have e4:W ((i:Int)+1)=((i+1:Nat):Int):=by rw [W,cH (by omega)];rfl
  have e0:0+Int.toNat (i:Int)*1=i:=by omega
  have hk1:(kyL s.xs (ns.take i)).length +1<=4294967296:=by omega
  refine⟨⟨by show(0:Int)<=(i:Int);omega,e⟩,by show 0+Int.toNat (i:Int)*1<ns.length;omega,⟨rfl,trivial⟩,trivial,aJ (fun e2=>⟨⟨rfl,rfl,rfl,hk1⟩,?_⟩) (fun e2=>?_)⟩
  ·have e2:(!ieq (aB (aE s.xs (ns.getD (0+Int.toNat (i:Int)*1) 0)) 19 1) 1)=true:=e2;rw [e0]at e2;refine aR (H:=HKY s ns) (i+1,kyL s.xs (ns.take (i+1))) ?_ ⟨⟨hil,rfl⟩,by show ns.length - (i+1)<ns.length - i;omega⟩
   show((HKY s ns).st (i+1,kyL s.xs (ns.take (i+1))))=_;have hl:(kyL s.xs (ns.take (i+1))).length =(kyL s.xs (ns.take i)).length +1:=by rw [aA1 hil e2];simp
   simp only [HKY,hl];rw [aA1 hil e2];simp only [e4,e0];rfl
  ·have e2:(!ieq (aB (aE s.xs (ns.getD (0+Int.toNat (i:Int)*1) 0)) 19 1) 1)=false:=e2;rw [e0]at e2;refine aR (H:=HKY s ns) (i+1,kyL s.xs (ns.take (i+1))) ?_ ⟨⟨hil,rfl⟩,by show ns.length - (i+1)<ns.length - i;omega⟩
   rw [aG1 hil e2];simp only [HKY,e4];rfl
 ·rw [bI,dF']at e;have e: ¬(i:Int)<(ns.length:Int):=e;have hil:i=ns.length:=by omega
  subst hil;rw [List.take_length];exact hK
def kyS:aH Ob:=fun args h=>match args,h with
 | [.ptr 0 0,.agg [.int .i64 lt,.int .i64 ln],.int .i64 hd],[e1,e2]=>(match cJ 1 [e1,e2]with
   | some (l,s)=>some (.pre (l=s.xs.length/\(0<=ln/\ln<=100000)/\(-1000000<=hd/\hd<=1000000)) (.ret (.slice 2 0 (keyF s.xs ln hd).length 1) [aX 1 s,aY s,iI' (keyF s.xs ln hd)]))
   | none=>none)
 | _,_=>none
theorem aA2:sT' 110 kyS:=by
 intro args h o ho K hK;unfold kyS at ho;split at ho
 case h_2=>cases ho
 rename_i lt ln hd e1 e2;split at ho<;>cases ho
 rename_i l s hm;obtain⟨⟨hl,h1,h2⟩,hK⟩:=hK;have hh:=aZ hm hl;cases hh;exact QZ s lt ln hd K (aG2 s lt ln hd K h1 h2 hK)
noncomputable def EU5:=EU4.addS 110 kyS aA2
end Go.Sh
namespace Go.Proofs
open Go.Shelf
def Tryz.lays189_ren:Go.Shelf.Ren:=⟨fun | 189=>111 | 125=>135 | 257=>134 | 128=>180 | 129=>181 | 294=>172 | 295=>173 | 296=>174 | 297=>175 | 298=>176 | 299=>177 | 216=>140 | 300=>178 | 301=>179 | 328=>236 | 329=>237 | 330=>238 | 331=>239 | 332=>240 | 215=>186 | 343=>276 | n=>n,fun | 28=>67 | 3=>3 | 46=>212 | 0=>0 | 51=>250 | 53=>72 | 4=>4 | 183=>244 | 182=>243 | 131=>195 | 5=>5 | 9=>9 | 218=>306 | 222=>309 | 228=>336 | 229=>337 | n=>n,fun | n=>n⟩
theorem Tryz.lays189:Go.Proofs.Lays.n189 Tryz.prog Tryz.lays189_ren:= {
 mixed:=by kernel_rfl,
 f125:=Tryz.func135.trans (congrArg some (by kernel_rfl)),
 f128:=Tryz.func180.trans (congrArg some (by kernel_rfl)),
 f129:=Tryz.func181.trans (congrArg some (by kernel_rfl)),
 f189:=Tryz.func111.trans (congrArg some (by kernel_rfl)),
 f215:=Tryz.func186.trans (congrArg some (by kernel_rfl)),
 f216:=Tryz.func140.trans (congrArg some (by kernel_rfl)),
 f257:=Tryz.func134.trans (congrArg some (by kernel_rfl)),
 f294:=Tryz.func172.trans (congrArg some (by kernel_rfl)),
 f295:=Tryz.func173.trans (congrArg some (by kernel_rfl)),
 f296:=Tryz.func174.trans (congrArg some (by kernel_rfl)),
 f297:=Tryz.func175.trans (congrArg some (by kernel_rfl)),
 f298:=Tryz.func176.trans (congrArg some (by kernel_rfl)),
 f299:=Tryz.func177.trans (congrArg some (by kernel_rfl)),
 f300:=Tryz.func178.trans (congrArg some (by kernel_rfl)),
 f301:=Tryz.func179.trans (congrArg some (by kernel_rfl)),
 f328:=Tryz.func236.trans (congrArg some (by kernel_rfl)),
 f329:=Tryz.func237.trans (congrArg some (by kernel_rfl)),
 f330:=Tryz.func238.trans (congrArg some (by kernel_rfl)),
 f331:=Tryz.func239.trans (congrArg some (by kernel_rfl)),
 f332:=Tryz.func240.trans (congrArg some (by kernel_rfl)),
 f343:=Tryz.func276.trans (congrArg some (by kernel_rfl)),
 t0:=Tryz.underlying0,
 a0:=Tryz.isAgg0,
 z0:=Tryz.sizeOf0,
 v0:=Tryz.zeroValue0,
 t3:=Tryz.underlying3,
 a3:=Tryz.isAgg3,
 z3:=Tryz.sizeOf3,
 v3:=Tryz.zeroValue3,
 t4:=Tryz.underlying4,
 a4:=Tryz.isAgg4,
 z4:=Tryz.sizeOf4,
 v4:=Tryz.zeroValue4,
 t5:=Tryz.underlying5,
 a5:=Tryz.isAgg5,
 z5:=Tryz.sizeOf5,
 v5:=Tryz.zeroValue5,
 t9:=Tryz.underlying9,
 a9:=Tryz.isAgg9,
 z9:=Tryz.sizeOf9,
 v9:=Tryz.zeroValue9,
 t28:=Tryz.underlying67,
 a28:=Tryz.isAgg67,
 z28:=Tryz.sizeOf67,
 v28:=Tryz.zeroValue67,
 t46:=Tryz.underlying212,
 a46:=Tryz.isAgg212,
 z46:=Tryz.sizeOf212,
 v46:=Tryz.zeroValue212,
 t51:=Tryz.underlying250,
 a51:=Tryz.isAgg250,
 z51:=Tryz.sizeOf250,
 v51:=Tryz.zeroValue250,
 t53:=Tryz.underlying72,
 a53:=Tryz.isAgg72,
 z53:=Tryz.sizeOf72,
 v53:=Tryz.zeroValue72,
 t131:=Tryz.underlying195,
 a131:=Tryz.isAgg195,
 z131:=Tryz.sizeOf195,
 v131:=Tryz.zeroValue195,
 t182:=Tryz.underlying243,
 a182:=Tryz.isAgg243,
 z182:=Tryz.sizeOf243,
 v182:=Tryz.zeroValue243,
 t183:=Tryz.underlying244,
 a183:=Tryz.isAgg244,
 z183:=Tryz.sizeOf244,
 v183:=Tryz.zeroValue244,
 t218:=Tryz.underlying306,
 a218:=Tryz.isAgg306,
 z218:=Tryz.sizeOf306,
 v218:=Tryz.zeroValue306,
 t222:=Tryz.underlying309,
 a222:=Tryz.isAgg309,
 z222:=Tryz.sizeOf309,
 v222:=Tryz.zeroValue309,
 t228:=Tryz.underlying336,
 a228:=Tryz.isAgg336,
 z228:=Tryz.sizeOf336,
 v228:=Tryz.zeroValue336,
 t229:=Tryz.underlying337,
 a229:=Tryz.isAgg337,
 z229:=Tryz.sizeOf337,
 v229:=Tryz.zeroValue337}
end Go.Proofs
namespace Go.Sh
open Go Go.Proofs
variable [Con]
def mK(xs:List Int):List Int:=xs.mergeSort fun x y=>decide (x<=y)
theorem oE(xs:List Int):(mK xs).length =xs.length:=by unfold mK;exact List.length_mergeSort xs
theorem wQ(ys:List Int)(cs:Array Value)(tail:List Value)(xs:List Int)(hl:ys.length=xs.length)(hcs:cs.toList=xs.map (Code1.val (some .i64))++tail):
 (Go.Sort.putCells (Value.int .i64) 0 ys.toArray cs).toList =ys.map (Code1.val (some .i64))++tail:=by
 apply List.ext_getElem?;intro k;rw [Array.getElem?_toList];unfold Go.Sort.putCells;rw [Array.getElem?_mapIdx];have hk:cs[k]? =(xs.map (Code1.val (some .i64))++tail)[k]? :=by rw [<-hcs,Array.getElem?_toList]
 rw [hk]
 by_cases hlt:k<xs.length
 ·rw [List.getElem?_append_left (by rw [List.length_map];exact hlt),List.getElem?_append_left (by rw [List.length_map];omega),List.getElem?_map,List.getElem?_map,gE' hlt,gE' (by omega:k<ys.length)]
  have hc:0<=k/\k<0+ys.toArray.size:=by simp;omega
  simp only [Option.map_some];rw [if_pos hc]
  have:ys.toArray[k - 0]! =ys[k]'(by omega):=by
   rw [getElem!_pos ys.toArray (k - 0) (by simp;omega)];simp
  rw [this];rfl
 ·rw [List.getElem?_append_right (by rw [List.length_map];omega),List.getElem?_append_right (by rw [List.length_map];omega),List.length_map,List.length_map,hl]
  cases tail[k - xs.length]? with
  | none=>rfl
  | some y=>
    have hc: ¬(0<=k/\k<0+ys.toArray.size):=by simp;omega
    simp only [Option.map_some];rw [if_neg hc]
def srS:aH Ob:=fun args h=>match args,h with
 | [.slice 0 0 k 1],[some (.ints (some .i64) xs)]=>some (.pre (k=xs.length/\k<=1000000) (.ret (.tup []) [some (.ints (some .i64) (mK xs))]))
 | _,_=>none
theorem aBj:sT' 111 srS:=by
 intro args h o ho K hK;unfold srS at ho;split at ho<;>cases ho
 rename_i k xs;obtain⟨⟨rfl,hk⟩,hK⟩:=hK;have hK:K (.tup []) [some (.ints (some .i64) (mK xs))]:=hK;intro V hR w args' hi hf hr;obtain⟨v,vs,e,⟨base,cap,rfl,hcap,hb⟩,e2⟩:=hr;have e2:vs=[]:=e2;subst e2;have ha:args'= #[.slice base xs.length cap]:=by apply Array.ext';simpa using e
 subst ha
 by_cases hx:xs=[]
 ·subst hx;refine(Go.Proofs.Any.slices_Sort_int_none Go.Proofs.Tryz.lays189 base cap w).mono ?_;rintro e w' ⟨rfl,rfl⟩;exact⟨.tup [],.tuple #[],V,_,hK,rfl,⟨#[],rfl,rfl⟩,V.le_refl,hf,Nat.le_refl _,(by rw [show mK []=[]from by simp [mK]];exact hi),aKp _⟩
 ·have hpos:0<xs.length:=List.length_pos_iff.2 hx;obtain⟨hs,h1,h2,h3,h4,h5,h6,h7⟩:=hi;rcases h1 0 _ rfl with⟨q,_⟩ | ⟨b,k,hV,cs,T,tail,hone,hsz,hcs⟩
  ·exact absurd q hx
  rcases hb with⟨b',k',hV',rfl,hle⟩ | ⟨hn,_⟩
  case inr=>omega
  rw [hV]at hV';simp only [sI',pI']at hV';obtain⟨rfl,rfl⟩:=hV';have hwb:w.heap[b]? =some (.cells cs T):=h5 0 b _ (by rw [hone];simp [PHeap.one])
  have hbl:b<w.heap.size:=(Array.getElem?_eq_some_iff.1 hwb).1
  have hH:Go.Sort.Holds (Value.int .i64) w b 0 xs.toArray:=by
   intro j hj;have hj:j<xs.length:=by simpa using hj
   constructor
   ·have:cs[j]? =some (.int .i64 xs[j]):=by
     rw [<-Array.getElem?_toList,hcs,List.getElem?_append_left (by rw [List.length_map];exact hj),List.getElem?_map,gE' hj];rfl
    have h0:xs.toArray[j]! =xs[j]:=by rw [getElem!_pos xs.toArray j (by simpa using hj)];simp
    simp only [World.cell?,hwb,Nat.zero_add,h0];exact this
   ·simp [World.frozen?,hwb]
  have hwe:w.heap.size=w.heap.size:=rfl;have hcall:=Go.Proofs.Any.slices_Sort_int Go.Proofs.Tryz.lays189 b 0 cap xs w hH hbl (by omega)
  refine hcall.mono ?_;rintro e w' ⟨rfl,n,os,rfl⟩;have hys:(xs.mergeSort fun x y=>decide (x<=y))=mK xs:=rfl;rw [hys];have hyl:=oE xs;generalize hyg:mK xs=ys at hK hyl;have hcl:=wQ ys cs tail xs hyl hcs;generalize hcg:Go.Sort.putCells (Value.int .i64) 0 ys.toArray cs=cs2 at hcl
  have hw2b:(Go.Sort.putRow (Value.int .i64) (Go.Sort.ahead w n) b 0 ys.toArray).heap[b]? =some (.cells cs2 T):=by
   unfold Go.Sort.putRow Go.Sort.mapBlock;show(w.heap.modify b _)[b]? =_;rw [Array.getElem?_modify,if_pos rfl,hwb,<-hcg];rfl
  have hw2o: ∀c,c≠b->(Go.Sort.putRow (Value.int .i64) (Go.Sort.ahead w n) b 0 ys.toArray).heap[c]? =w.heap[c]? :=by
   intro c hc;unfold Go.Sort.putRow Go.Sort.mapBlock;show(w.heap.modify b _)[c]? =_;rw [Array.getElem?_modify,if_neg (fun e=>hc e.symm)]
  have hsz2:(Go.Sort.putRow (Value.int .i64) (Go.Sort.ahead w n) b 0 ys.toArray).heap.size =w.heap.size:=by
   unfold Go.Sort.putRow Go.Sort.mapBlock;show(w.heap.modify b _).size =_;exact Array.size_modify
  have hos:(Go.Sort.putRow (Value.int .i64) (Go.Sort.ahead w n) b 0 ys.toArray).os =w.os:=rfl;have hout:(Go.Sort.putRow (Value.int .i64) (Go.Sort.ahead w n) b 0 ys.toArray).output =w.output:=rfl;generalize Go.Sort.putRow (Value.int .i64) (Go.Sort.ahead w n) b 0 ys.toArray=w2 at hw2b hw2o hsz2 hos hout;have hg: ∀c,c<w.heap.size->(Go.Sort.grow w2 os).heap[c]? =w2.heap[c]? :=fun c hc=>Go.Sort.heap_grow_old w2 os (by omega)
  have hlt: ∀(c:Nat) (o:Obj),w.heap[c]? =some o->c<w.heap.size:=fun c o h=>(Array.getElem?_eq_some_iff.1 h).1
  have hRb:hR b=none:=by
   rcases h4 0 b with q | q
   ·rw [hone]at q;simp [PHeap.one]at q
   ·exact q
  have hemp: ∀l,l≠0->hs l=.emp :=by
   intro l hl;refine h2 l ?_;cases l with
   | zero=>exact absurd rfl hl
   | succ l=>simp [toF,aL]
  refine⟨.tup [],.tuple #[],V,_,hK,rfl,⟨#[],rfl,rfl⟩,V.le_refl,hf,Nat.le_refl _,⟨fun l=>if l=0 then .one b (.cells cs2 T)else .emp,?_,?_,?_,?_,?_,?_,h7⟩,⟨hos,hout,by simp;omega,?_⟩⟩
  ·intro l e he;cases l with
   | zero=>
     have he:some (aG.ints (some .i64) ys)=some e:=he;cases he;refine .inr ⟨b,k,hV,cs2,T,tail,by simp,?_,hcl⟩
     rw [<-hsz,<-Array.length_toList,<-Array.length_toList,hcl,hcs];simp [hyl]
   | succ l=>simp [toF,aL]at he
  ·intro l hl;cases l with
   | zero=>exact absurd hl (by simp [toF,aL])
   | succ l=>simp
  ·intro l m hlm c
   by_cases hl:l=0
   ·subst hl;right;simp [Ne.symm hlm,PHeap.emp]
   ·left;simp [hl,PHeap.emp]
  ·intro l c
   by_cases hl:l=0
   ·subst hl
    by_cases hc:c=b
    ·right;rw [hc];exact hRb
    ·left;simp [PHeap.one,hc]
   ·left;simp [hl,PHeap.emp]
  ·intro l c o hc
   by_cases hl:l=0
   ·subst hl;have hc:PHeap.one b (.cells cs2 T) c=some o:=hc
    by_cases hcb:c=b
    ·subst hcb;rw [hg c hbl,hw2b]
     simpa [PHeap.one]using hc
    ·simp [PHeap.one,hcb]at hc
   ·simp [hl,PHeap.emp]at hc
  ·intro c o hc;have hw:=h6 c o hc;have hcb:c≠b:=by intro e;rw [e,hRb]at hc;cases hc
   rw [hg c (hlt c o hw),hw2o c hcb];exact hw
  ·intro a ha;have h1:(Go.Sort.grow w2 os).frozen? a=w2.frozen? a:=Go.Sort.frozen?_grow w2 os a (by omega)
   rw [h1];unfold World.frozen?
   by_cases hab:a.block=b
   ·rw [hab,hw2b,hwb]
   ·rw [hw2o _ hab]
noncomputable def EU6:=EU5.addS 111 srS aBj
end Go.Sh
