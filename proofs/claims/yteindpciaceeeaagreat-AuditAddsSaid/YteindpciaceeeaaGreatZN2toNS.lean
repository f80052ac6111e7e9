import Derived.Shelf.Sort.Plain
import Derived.Shelf.Slices.In.SortNone
import Derived.Test.YteindpciaceeeaaGreatZSh29
set_option linter.all false
set_option maxHeartbeats 8000000
namespace Go.Sh
open Go Go.Proofs
variable [Con]
def wlS:aI Ob:=fun args h=>match args,h with
 | [.ptr 0 0],[some (.abs (.worker x) [])]=>some (.pre True (.ret (.I (W ((x.tk.length:Int) - x.en))) [some (.abs (.worker x) [])]))
 | _,_=>none
abbrev w2f(x:WKS):Option (aG Ob):=cE' [.ptr 1 0,.tslice 2 0 x.tk.length 3,.I x.en,.raw (.pointer none),.slice 3 0 x.tl.length 1,.slice 4 0 x.sl.length 1]
theorem aKp(x:WKS)(K:AVal->aC Ob->Prop)(hK:K (.I (W ((x.tk.length:Int) - x.en))) [w2f x,some (.abs (.store x.t x.n x.st) []),some (.tab cK3 x.tk),iI' x.tl,iI' x.sl]):cT' 91 [.ptr 0 0] [w2f x,some (.abs (.store x.t x.n x.st) []),some (.tab cK3 x.tk),iI' x.tl,iI' x.sl] K:=by
 refine aLw (cM' (E:=EN1) (q:=K (.I (W ((↑x.4.length:Int) - x.5))) [cE' [.ptr 1 0,.tslice 2 0 x.4.length 3,.I x.5,.N,.slice 3 0 x.8.length 1,.slice 4 0 x.9.length 1],some (.abs (.store x.1 x.2 x.3) []),some (.tab cK3 x.4),iI' x.8,iI' x.9]) (by kernel_rfl) ?_)
 exact hK
abbrev w2g(x:WKS):Option (aG Ob):=cE' [.ptr 1 0,.tslice 2 0 x.tk.length 3,.I x.en,.ptr 3 0,.slice 4 0 x.tl.length 1,.slice 5 0 x.sl.length 1]
theorem aKq(x:WKS)(K:AVal->aC Ob->Prop)(hK:K (.I (W ((x.tk.length:Int) - x.en))) [w2g x,some (.abs (.store x.t x.n x.st) []),some (.tab cK3 x.tk),some (.abs (.doer x.t x.n x.d) [1]),iI' x.tl,iI' x.sl]):cT' 91 [.ptr 0 0] [w2g x,some (.abs (.store x.t x.n x.st) []),some (.tab cK3 x.tk),some (.abs (.doer x.t x.n x.d) [1]),iI' x.tl,iI' x.sl] K:=by
 refine aLw (cM' (E:=EN1) (q:=K (.I (W ((↑x.4.length:Int) - x.5))) [cE' [.ptr 1 0,.tslice 2 0 x.4.length 3,.I x.5,.ptr 3 0,.slice 4 0 x.8.length 1,.slice 5 0 x.9.length 1],some (.abs (.store x.1 x.2 x.3) []),some (.tab cK3 x.4),some (.abs (.doer x.1 x.2 x.7) [1]),iI' x.8,iI' x.9]) (by kernel_rfl) ?_)
 exact hK
theorem aI9:sT' 91 wlS:=by
 intro args h o ho K hK;unfold wlS at ho;split at ho
 case h_2=>cases ho
 rename_i x;cases ho;obtain⟨ok,hK⟩:=hK;have hK:K (.I (W ((x.tk.length:Int) - x.en))) [some (.abs (.worker x) [])]:=hK;refine aLG ?_;cases e:x.b with
 | false=>
   refine aLB (h2:=nK x) (aQ.unpack (.worker x) 0 0 (nK x) [] rfl (congrArg (Prod.mk 0) (qB e)) rfl rfl) ?_;refine aKp x _ ⟨⟨_,_,aF.pack [some (.abs (.worker x) [])] (.worker x) 0 0 (nK x) [] (by kernel_rfl) rfl (congrArg (Prod.mk 0) (qB e)) (by kernel_rfl),hK⟩⟩
 | true=>
   refine aLB (h2:=qW x) (aQ.unpack (.worker x) 0 0 (qW x) [] rfl (congrArg (Prod.mk 0) (xS e)) rfl rfl) ?_;refine aKq x _ ⟨⟨_,_,aF.pack [some (.abs (.worker x) [])] (.worker x) 0 0 (qW x) [] (by kernel_rfl) rfl (congrArg (Prod.mk 0) (xS e)) (by kernel_rfl),hK⟩⟩
noncomputable def EW1:=EN1.addS 91 wlS aI9
structure WK1 where
 t:Int
 n:Int
 st:STS
 tk:List (List Int)
 en:Int
 d:DOS
 tl:List Int
 sl:List Int
instance:Inhabited WK1:=⟨⟨0,0,⟨0,0,[]⟩,[],0,fF,[],[]⟩⟩
abbrev K3(x:WK1):aC Ob:=[cE' [.ptr 1 0,.tslice 2 0 x.tk.length 3,.I x.en,.ptr 3 0,.slice 4 0 x.tl.length 1,.slice 5 0 x.sl.length 1],some (.abs (.store x.t x.n x.st) []),some (.tab tkK x.tk),some (.abs (.doer x.t x.n x.d) [1]),iI' x.tl,iI' x.sl]
def aI8(x:WKS):WK1:=⟨x.t,x.n,x.st,x.tk,x.en,x.d,x.tl,x.sl⟩
def wbP(v:AVal)(g:aC Ob):Option (Prop×WK1):=match v,g with
 | .bool true,[some (.cells [.ptr 1 0,.tslice 2 0 k 3,.int .i64 en,.ptr 3 0,.slice 4 0 a 1,.slice 5 0 b 1]),some (.abs (.store t n st) []),some (.tab [some .i64,some .i64,some .i64] tk),some (.abs (.doer t1 n1 d) [1]),some (.ints (some .i64) tl),some (.ints (some .i64) sl)]=>some (k=tk.length/\a=tl.length/\b=sl.length/\t1=t/\n1=n,⟨t,n,st,tk,en,d,tl,sl⟩)
 | _,_=>none
theorem aGz:bQ (obI tbl) 1 wbP (fun y=>.ret (.bool true) (K3 y)):=by
 intro v g p x hp hq K hK;unfold wbP at hp;split at hp
 case h_2=>cases hp
 cases hp;obtain⟨rfl,rfl,rfl,rfl,rfl⟩:=hq;exact⟨⟨_,_,aLM _ _ _,hK⟩⟩
abbrev w2h(x:WKS):=List.getD x.4 (0+Int.toNat x.5) []
def PF(tr:Int)(x:WKS):Tr WK1:=.pre ((0:Int)<=x.5/\x.5<(↑x.4.length:Int)) (.pre (0+Int.toNat x.5<x.4.length) (.pre (RM x.1 x.2 (List.headD (w2h x) 0) (List.headD (List.tail (w2h x)) 0) (List.headD (List.tail (List.tail (w2h x))) 0) tr x.3/\True) (.pre (0=0/\lE' x.8/\1=1/\x.8.length+(1:Nat)<=(4294967296:Nat)) (.pre (lE' x.4/\x.8.length+(1:Nat)=List.length (x.8++ [0])/\lE' x.9/\x.1=x.1/\x.2=x.2) (.ret {x with st:=(dqNF x.1 x.2 (List.headD (w2h x) 0) (List.headD (List.tail (w2h x)) 0) (List.headD (List.tail (List.tail (w2h x))) 0) tr x.3).2,d:=(dqNF x.1 x.2 (List.headD (w2h x) 0) (List.headD (List.tail (w2h x)) 0) (List.headD (List.tail (List.tail (w2h x))) 0) tr x.3).1,tl:=x.8++ [0],sl:=x.9})))))
theorem aBR(tr:Int)(x:WKS)(K:WK1->Prop)(h:(PF tr x).run K):cT' 95 [.ptr 0 0,.I tr] [cE' [.ptr 1 0,.tslice 2 0 x.tk.length 3,.I x.en,.raw (.pointer none),.slice 3 0 x.tl.length 1,.slice 4 0 x.sl.length 1],some (.abs (.store x.t x.n x.st) []),some (.tab cK3 x.tk),iI' x.tl,iI' x.sl] (fG 1 0 [] [] wbP K):=by
 exact cM' (E:=EW1) (by kernel_rfl) h
theorem aKo(tr:Int)(x:WKS)(K:AVal->aC Ob->Prop)(hK:K (.bool false) (qW x)):cT' 95 [.ptr 0 0,.I tr] [cE' [.ptr 1 0,.tslice 2 0 x.tk.length 3,.I x.en,.ptr 3 0,.slice 4 0 x.tl.length 1,.slice 5 0 x.sl.length 1],some (.abs (.store x.t x.n x.st) []),some (.tab cK3 x.tk),some (.abs (.doer x.t x.n x.d) [1]),iI' x.tl,iI' x.sl] K:=by
 refine aLw (cM' (E:=EW1) (q:=K (.bool false) [cE' [.ptr 1 0,.tslice 2 0 x.4.length 3,.I x.5,.ptr 3 0,.slice 4 0 x.8.length 1,.slice 5 0 x.9.length 1],some (.abs (.store x.1 x.2 x.3) []),some (.tab cK3 x.4),some (.abs (.doer x.1 x.2 x.7) [1]),iI' x.8,iI' x.9]) (by kernel_rfl) ?_)
 exact hK
def wbF(tr:Int)(x:WKS):WK1:=bif x.b then aI8 x else(PF tr x).val
def VW(tr:Int)(x:WKS):Prop:=bif x.b then True else(PF tr x).ok
def wbS:aI Ob:=fun args h=>match args,h with
 | [.ptr 0 0,.int .i64 tr],[some (.abs (.worker x) [])]=>some (.pre (VW tr x) (.ret (.bool (!x.b)) (K3 (wbF tr x))))
 | _,_=>none
theorem aI5:sT' 95 wbS:=by
 intro args h o ho K hK;unfold wbS at ho;split at ho
 case h_2=>cases ho
 rename_i tr x;cases ho;obtain⟨ok,hK⟩:=hK;have hK:K (.bool (!x.b)) (K3 (wbF tr x)):=hK;unfold wbF at hK;unfold VW at ok;cases e:x.b with
 | false=>
   rw [e]at ok hK;exact aLx (root:=0) (pos:=[]) (cs:=[]) (parse:=wbP) (fin:=fun y=>.ret (.bool true) (K3 y)) aGz (aQ.unpack (.worker x) 0 0 (nK x) [] rfl (congrArg (Prod.mk 0) (qB e)) rfl rfl) (aBR tr x _ (aLD ok hK))
 | true=>
   rw [e]at hK;exact aLB (h2:=qW x) (aQ.unpack (.worker x) 0 0 (qW x) [] rfl (congrArg (Prod.mk 0) (xS e)) rfl rfl) (aKo tr x K hK)
noncomputable def EW2:=EW1.addS 95 wbS aI5
structure WkO where
 code:Int
 okk:Bool
 val:Int
 d:Bool
 x:WKS
 s:MS
instance:Inhabited WkO:=⟨⟨0,false,0,false,default,⟨0,0,[],0,0,0,0,0,false⟩⟩⟩
abbrev PP(y:WkO):aC Ob:=[some (.abs (.worker y.x) []),none,none,none,none,none,bI 7 y.s,bJ y.s]
abbrev wkV(y:WkO):AVal:=.tup [.agg [.I y.code,.bool y.okk,.I y.val],.bool y.d]
def aGE(v:AVal)(g:aC Ob):Option (Prop×WkO):=match v,g with
 | .tup [.agg [.int .i64 code,.bool okk,.int .i64 val],.bool dn],[some (.cells [.ptr 1 0,.tslice 2 0 k 3,.int .i64 en,.ptr 3 0,.slice 4 0 a 1,.slice 5 0 b 1]),some (.abs (.store t n st) []),some (.tab [some .i64,some .i64,some .i64] tk),some (.abs (.doer t1 n1 d) [1]),some (.ints (some .i64) tl),some (.ints (some .i64) sl),e1,e2]=>(match cQ 7 [e1,e2]with
   | some (l,s)=>some (k=tk.length/\a=tl.length/\b=sl.length/\t1=t/\n1=n/\l=s.xs.length,⟨code,okk,val,dn,⟨t,n,st,tk,en,true,d,tl,sl⟩,s⟩)
   | none=>none)
 | _,_=>none
def aGD(v:AVal)(g:aC Ob):Option (Prop×WkO):=match v,g with
 | .tup [.agg [.int .i64 code,.bool okk,.int .i64 val],.bool dn],[some (.cells [.ptr 1 0,.tslice 2 0 k 3,.int .i64 en,.raw (.pointer none),.slice 4 0 a 1,.slice 5 0 b 1]),some (.abs (.store t n st) []),some (.tab [some .i64,some .i64,some .i64] tk),_,some (.ints (some .i64) tl),some (.ints (some .i64) sl),e1,e2]=>(match cQ 7 [e1,e2]with
   | some (l,s)=>some (k=tk.length/\a=tl.length/\b=sl.length/\l=s.xs.length,⟨code,okk,val,dn,⟨t,n,st,tk,en,false,fF,tl,sl⟩,s⟩)
   | none=>none)
 | _,_=>none
def aGF(v:AVal)(g:aC Ob):Option (Prop×WkO):=match v,g with
 | .tup [.agg [.int .i64 code,.bool okk,.int .i64 val],.bool dn],[some (.cells [.ptr 1 0,.tslice 2 0 k 3,.int .i64 en,.raw (.pointer none),.slice 4 0 a 1,.slice 8 0 b 1]),some (.abs (.store t n st) []),some (.tab [some .i64,some .i64,some .i64] tk),_,some (.ints (some .i64) tl),_,e1,e2,some (.ints (some .i64) sl)]=>(match cQ 7 [e1,e2]with
   | some (l,s)=>some (k=tk.length/\a=tl.length/\b=sl.length/\l=s.xs.length,⟨code,okk,val,dn,⟨t,n,st,tk,en,false,fF,tl,sl⟩,s⟩)
   | none=>none)
 | _,_=>none
def wsP(v:AVal)(g:aC Ob):Option (Prop×WkO):=match aGE v g with
 | some r=>some r
 | none=>(match aGD v g with
   | some r=>some r
   | none=>aGF v g)
theorem aBY:bQ (obI tbl) 8 aGE (fun y=>.ret (wkV y) (PP y)):=by
 intro v g p x hp hq K hK;unfold aGE at hp;split at hp
 case h_2=>cases hp
 rename_i code okk val dn k en a b t n st tk t1 n1 d tl sl e1 e2;split at hp
 case h_2=>cases hp
 rename_i l s hm;cases hp;obtain⟨rfl,rfl,rfl,rfl,rfl,hl⟩:=hq;cases bB hm hl;exact⟨⟨_,_,((aF.move 1 (of_decide_eq_true rfl)).trans ((aF.move 2 (of_decide_eq_true rfl)).trans ((aF.move 3 (of_decide_eq_true rfl)).trans ((aF.move 4 (of_decide_eq_true rfl)).trans ((aF.move 5 (of_decide_eq_true rfl)).trans ((aLE (v2:=wkV ⟨code,okk,val,dn,⟨t1,n1,st,tk,en,true,d,tl,sl⟩,s⟩) (g2:=aP (PP ⟨code,okk,val,dn,⟨t1,n1,st,tk,en,true,d,tl,sl⟩,s⟩) 0 0 (qW ⟨t1,n1,st,tk,en,true,d,tl,sl⟩) []) (by kernel_rfl) (by kernel_rfl)).trans (aF.pack (PP ⟨code,okk,val,dn,⟨t1,n1,st,tk,en,true,d,tl,sl⟩,s⟩) (.worker ⟨t1,n1,st,tk,en,true,d,tl,sl⟩) 0 0 (qW ⟨t1,n1,st,tk,en,true,d,tl,sl⟩) [] rfl rfl (congrArg (Prod.mk 0) (xS rfl)) (by kernel_rfl)))))))),hK⟩⟩
theorem aBX:bQ (obI tbl) 8 aGD (fun y=>.ret (wkV y) (PP y)):=by
 intro v g p x hp hq K hK;unfold aGD at hp;split at hp
 case h_2=>cases hp
 rename_i code okk val dn k en a b t n st tk e3 tl sl e1 e2;split at hp
 case h_2=>cases hp
 rename_i l s hm;cases hp;obtain⟨rfl,rfl,rfl,hl⟩:=hq;cases bB hm hl;exact⟨⟨_,_,((aF.weak (kQ _ 3 none trivial)).trans ((aF.move 1 (of_decide_eq_true rfl)).trans ((aF.move 2 (of_decide_eq_true rfl)).trans ((aF.move 4 (of_decide_eq_true rfl)).trans ((aF.move 5 (of_decide_eq_true rfl)).trans ((aLE (v2:=wkV ⟨code,okk,val,dn,⟨t,n,st,tk,en,false,fF,tl,sl⟩,s⟩) (g2:=aP (PP ⟨code,okk,val,dn,⟨t,n,st,tk,en,false,fF,tl,sl⟩,s⟩) 0 0 (nK ⟨t,n,st,tk,en,false,fF,tl,sl⟩) []) (by kernel_rfl) (by kernel_rfl)).trans (aF.pack (PP ⟨code,okk,val,dn,⟨t,n,st,tk,en,false,fF,tl,sl⟩,s⟩) (.worker ⟨t,n,st,tk,en,false,fF,tl,sl⟩) 0 0 (nK ⟨t,n,st,tk,en,false,fF,tl,sl⟩) [] rfl rfl (congrArg (Prod.mk 0) (qB rfl)) (by kernel_rfl)))))))),hK⟩⟩
theorem aBZ:bQ (obI tbl) 8 aGF (fun y=>.ret (wkV y) (PP y)):=by
 intro v g p x hp hq K hK;unfold aGF at hp;split at hp
 case h_2=>cases hp
 rename_i code okk val dn k en a b t n st tk e3 tl e4 e1 e2 sl;split at hp
 case h_2=>cases hp
 rename_i l s hm;cases hp;obtain⟨rfl,rfl,rfl,hl⟩:=hq;cases bB hm hl;exact⟨⟨_,_,((aF.weak (kQ _ 3 none trivial)).trans ((aF.weak (kQ _ 5 none trivial)).trans ((aF.move 1 (of_decide_eq_true rfl)).trans ((aF.move 2 (of_decide_eq_true rfl)).trans ((aF.move 4 (of_decide_eq_true rfl)).trans ((aF.move 8 (of_decide_eq_true rfl)).trans ((aF.pick [0,1,2,3,4,5,6,7,9,10,11,12] rfl).trans ((aLE (v2:=wkV ⟨code,okk,val,dn,⟨t,n,st,tk,en,false,fF,tl,sl⟩,s⟩) (g2:=aP (PP ⟨code,okk,val,dn,⟨t,n,st,tk,en,false,fF,tl,sl⟩,s⟩) 0 0 (nK ⟨t,n,st,tk,en,false,fF,tl,sl⟩) []) (by kernel_rfl) (by kernel_rfl)).trans (aF.pack (PP ⟨code,okk,val,dn,⟨t,n,st,tk,en,false,fF,tl,sl⟩,s⟩) (.worker ⟨t,n,st,tk,en,false,fF,tl,sl⟩) 0 0 (nK ⟨t,n,st,tk,en,false,fF,tl,sl⟩) [] rfl rfl (congrArg (Prod.mk 0) (qB rfl)) (by kernel_rfl)))))))))),hK⟩⟩
theorem aGG:bQ (obI tbl) 8 wsP (fun y=>.ret (wkV y) (PP y)):=by
 intro v g p x hp hq K hK;unfold wsP at hp;split at hp
 ·rename_i r hr;cases hp;exact aBY v g p x hr hq K hK
 split at hp
 ·rename_i r hr;cases hp;exact aBX v g p x hr hq K hK
 exact aBZ v g p x hp hq K hK
abbrev w2i(s:MS)(x:WK1):=uN x.1 x.2 x.6 x.3 s
abbrev w2j(x:WK1):=W (List.getD x.7 (0+Int.toNat x.5*1) 0+1)
def wsT(x:WK1)(s:MS):Tr WkO:=.pre ((0:Int)<=x.5/\x.5<(↑x.7.length:Int)) (.pre (0+Int.toNat x.5*(1:Nat)<x.7.length) (.pre ((0:Int)<=x.5/\x.5<(↑x.7.length:Int)) (.pre (0+Int.toNat x.5*(1:Nat)<x.7.length) (.pre ((lE' s.3/\x.1=x.1/\x.2=x.2)/\YS x.1 x.2 x.6 x.3 s) (.ite (w2i s x).1 (.ite (DqO.x (w2i s x)).4 (.pre (0=0/\lE' x.8/\1=1/\x.8.length+(1:Nat)<=(4294967296:Nat)) (.pre (lE' x.4/\x.7.length=List.length (List.set x.7 (0+Int.toNat x.5*1) (w2j x))/\x.8.length+(1:Nat)=List.length (x.8++ [x.5])/\lE' (DqO.s (w2i s x)).3) (.ret {code:=(DqO.x (w2i s x)).1,okk:=(DqO.x (w2i s x)).2,val:=(DqO.x (w2i s x)).3,d:=true,x:= {x with st:=(w2i s x).3,en:=W (x.5+1),b:=false,d:=fF,tl:=List.set x.7 (0+Int.toNat x.5*1) (w2j x),sl:=x.8++ [x.5] },s:=(w2i s x).4}))) (.pre (lE' x.4/\x.7.length=List.length (List.set x.7 (0+Int.toNat x.5*1) (w2j x))/\lE' x.8/\lE' (DqO.s (w2i s x)).3) (.ret {code:=(DqO.x (w2i s x)).1,okk:=(DqO.x (w2i s x)).2,val:=(DqO.x (w2i s x)).3,d:=true,x:= {x with st:=(w2i s x).3,en:=W (x.5+1),b:=false,d:=fF,tl:=List.set x.7 (0+Int.toNat x.5*1) (w2j x),sl:=x.8},s:=(w2i s x).4}))) (.pre (lE' x.4/\x.7.length=List.length (List.set x.7 (0+Int.toNat x.5*1) (w2j x))/\lE' x.8/\x.1=x.1/\x.2=x.2/\lE' (DqO.s (w2i s x)).3) (.ret {code:=0,okk:=false,val:=0,d:=false,x:= {x with st:=(w2i s x).3,b:=true,d:=(w2i s x).2,tl:=List.set x.7 (0+Int.toNat x.5*1) (w2j x),sl:=x.8},s:=(w2i s x).4})))))))
theorem aGH(x:WK1)(s:MS)(K:WkO->Prop)(h:(wsT x s).run K):cT' 97 [.ptr 0 0,.ptr 6 0] [cE' [.ptr 1 0,.tslice 2 0 x.tk.length 3,.I x.en,.ptr 3 0,.slice 4 0 x.tl.length 1,.slice 5 0 x.sl.length 1],some (.abs (.store x.t x.n x.st) []),some (.tab cK3 x.tk),some (.abs (.doer x.t x.n x.d) [1]),iI' x.tl,iI' x.sl,bI 7 s,bJ s] (fG 8 0 [] [] wsP K):=by
 exact cM' (E:=EW2) (by kernel_rfl) h
def wsF(x:WK1)(s:MS):WkO:=(wsT x s).val
def aBW(x:WK1)(s:MS):Prop:=(wsT x s).ok
def wsS:aI Ob:=fun args h=>match args,h with
 | [.ptr 0 0,.ptr 6 0],[some (.cells [.ptr 1 0,.tslice 2 0 k 3,.int .i64 en,.ptr 3 0,.slice 4 0 a 1,.slice 5 0 b 1]),some (.abs (.store t n st) []),some (.tab [some .i64,some .i64,some .i64] tk),some (.abs (.doer t1 n1 d) [1]),some (.ints (some .i64) tl),some (.ints (some .i64) sl),e1,e2]=>(match cQ 7 [e1,e2]with
   | some (l,s)=>some (.pre ((k=tk.length/\a=tl.length/\b=sl.length/\t1=t/\n1=n/\l=s.xs.length)/\aBW ⟨t,n,st,tk,en,d,tl,sl⟩ s) (.ret (wkV (wsF ⟨t,n,st,tk,en,d,tl,sl⟩ s)) (PP (wsF ⟨t,n,st,tk,en,d,tl,sl⟩ s))))
   | none=>none)
 | _,_=>none
theorem aJc:sT' 97 wsS:=by
 intro args h o ho K hK;unfold wsS at ho;split at ho
 case h_2=>cases ho
 rename_i k en a b t n st tk t1 n1 d tl sl e1 e2;split at ho
 case h_2=>cases ho
 rename_i l s hm;cases ho;obtain⟨⟨⟨rfl,rfl,rfl,rfl,rfl,hl⟩,ok⟩,hK⟩:=hK;cases bB hm hl;refine aLK (root:=0) (pos:=[]) (cs:=[]) (parse:=wsP) (fin:=fun y=>.ret (wkV y) (PP y)) aGG ?_;exact aGH ⟨t1,n1,st,tk,en,d,tl,sl⟩ s _ (aLD ok hK)
noncomputable def EW3:=EW2.addS 97 wsS aJc
def dtS:aI Ob:=fun args h=>match args,h with
 | [.ptr 0 0],[some (.abs (.doer t n x) [1]),some (.abs (.store t2 n2 st) [])]=>some (.pre True (.ret (.agg [.I x.sh,.I x.kd,.I x.ky]) [some (.abs (.doer t n x) [1]),some (.abs (.store t2 n2 st) [])]))
 | _,_=>none
abbrev w2k(n n2:Int)(st:STS)(t t2:Int)(x:DOS):aC Ob:=[some (.abs (.doer t n x) [1]),some (.abs (.store t2 n2 st) [])]
abbrev w2l(x:DOS):List AVal:=[.I x.sh,.I x.kd,.I x.ky]
theorem aHy(t n t2 n2:Int)(x:DOS)(st:STS)(K:AVal->aC Ob->Prop)(hK:K (.agg (w2l x)) (aP (w2k n n2 st t t2 x) 0 1 (jA t n x) [1])):cT' 96 [.ptr 0 0] (aP (w2k n n2 st t t2 x) 0 1 (jA t n x) [1]) K:=by
 refine aLw ?_;exact cM' (E:=EW3) (by kernel_rfl) hK
theorem aHz(t n t2 n2:Int)(x:DOS)(st:STS)(K:AVal->aC Ob->Prop)(hK:K (.agg (w2l x)) (aP (w2k n n2 st t t2 x) 0 1 (jB t n x) [1])):cT' 96 [.ptr 0 0] (aP (w2k n n2 st t t2 x) 0 1 (jB t n x) [1]) K:=by
 refine aLw ?_;exact cM' (E:=EW3) (by kernel_rfl) hK
theorem aHA(t n t2 n2:Int)(x:DOS)(st:STS)(K:AVal->aC Ob->Prop)(hK:K (.agg (w2l x)) (aP (w2k n n2 st t t2 x) 0 1 (jC t n x) [1])):cT' 96 [.ptr 0 0] (aP (w2k n n2 st t t2 x) 0 1 (jC t n x) [1]) K:=by
 refine aLw ?_;exact cM' (E:=EW3) (by kernel_rfl) hK
theorem aHB(t n t2 n2:Int)(x:DOS)(st:STS)(K:AVal->aC Ob->Prop)(hK:K (.agg (w2l x)) (aP (w2k n n2 st t t2 x) 0 1 (jD t n x) [1])):cT' 96 [.ptr 0 0] (aP (w2k n n2 st t t2 x) 0 1 (jD t n x) [1]) K:=by
 refine aLw ?_;exact cM' (E:=EW3) (by kernel_rfl) hK
theorem aHC(t n t2 n2:Int)(x:DOS)(st:STS)(K:AVal->aC Ob->Prop)(hK:K (.agg (w2l x)) (aP (w2k n n2 st t t2 x) 0 1 (jE t n x) [1])):cT' 96 [.ptr 0 0] (aP (w2k n n2 st t t2 x) 0 1 (jE t n x) [1]) K:=by
 refine aLw ?_;exact cM' (E:=EW3) (by kernel_rfl) hK
theorem aHD(t n t2 n2:Int)(x:DOS)(st:STS)(K:AVal->aC Ob->Prop)(hK:K (.agg (w2l x)) (aP (w2k n n2 st t t2 x) 0 1 (jF t n x) [1])):cT' 96 [.ptr 0 0] (aP (w2k n n2 st t t2 x) 0 1 (jF t n x) [1]) K:=by
 refine aLw ?_;exact cM' (E:=EW3) (by kernel_rfl) hK
theorem aHE(t n t2 n2:Int)(x:DOS)(st:STS)(K:AVal->aC Ob->Prop)(hK:K (.agg (w2l x)) (aP (w2k n n2 st t t2 x) 0 1 (gY t n x) [1])):cT' 96 [.ptr 0 0] (aP (w2k n n2 st t t2 x) 0 1 (gY t n x) [1]) K:=by
 refine aLw ?_;exact cM' (E:=EW3) (by kernel_rfl) hK
theorem aCl(t n t2 n2:Int)(x:DOS)(st:STS)(K:AVal->aC Ob->Prop)(hK:K (.agg (w2l x)) (aP (w2k n n2 st t t2 x) 0 1 (eD t n x) [1])):cT' 96 [.ptr 0 0] (aP (w2k n n2 st t t2 x) 0 1 (eD t n x) [1]) K:=by
 refine aLw ?_;exact cM' (E:=EW3) (by kernel_rfl) hK
theorem aHG(t n t2 n2:Int)(x:DOS)(st:STS)(K:AVal->aC Ob->Prop)(hK:K (.agg (w2l x)) (aP (w2k n n2 st t t2 x) 0 1 (jG t n x) [1])):cT' 96 [.ptr 0 0] (aP (w2k n n2 st t t2 x) 0 1 (jG t n x) [1]) K:=by
 refine aLw ?_;exact cM' (E:=EW3) (by kernel_rfl) hK
theorem aJK(t n t2 n2:Int)(x:DOS)(st:STS)(K:AVal->aC Ob->Prop)(hK:K (.agg (w2l x)) (aP (w2k n n2 st t t2 x) 0 1 (qH t n x) [1])):cT' 96 [.ptr 0 0] (aP (w2k n n2 st t t2 x) 0 1 (qH t n x) [1]) K:=by
 refine aLw ?_;exact cM' (E:=EW3) (by kernel_rfl) hK
theorem aHF:sT' 96 dtS:=by
 intro args h o ho K hK;unfold dtS at ho;split at ho
 case h_2=>cases ho
 rename_i t n x t2 n2 st;cases ho;obtain⟨_,hK⟩:=hK;have hK:K (.agg [.I x.sh,.I x.kd,.I x.ky]) [some (.abs (.doer t n x) [1]),some (.abs (.store t2 n2 st) [])]:=hK;refine aLG ?_
 by_cases e0:x.at'=0
 ·refine aLB (aQ.unpack (.doer t n x) 0 1 (gY t n x) [1] rfl (congrArg (Prod.mk 1) (rN e0)) (by kernel_rfl) rfl) ?_
  exact aHE t n t2 n2 x st _ ⟨⟨_,_,aF.pack [some (.abs (.doer t n x) [1]),some (.abs (.store t2 n2 st) [])] (.doer t n x) 0 1 (gY t n x) [1] rfl rfl (congrArg (Prod.mk 1) (rN e0)) (by kernel_rfl),hK⟩⟩
 by_cases e1:x.at'=1
 ·refine aLB (aQ.unpack (.doer t n x) 0 1 (eD t n x) [1] rfl (congrArg (Prod.mk 1) (uS e1)) (by kernel_rfl) rfl) ?_
  exact aCl t n t2 n2 x st _ ⟨⟨_,_,aF.pack [some (.abs (.doer t n x) [1]),some (.abs (.store t2 n2 st) [])] (.doer t n x) 0 1 (eD t n x) [1] rfl rfl (congrArg (Prod.mk 1) (uS e1)) (by kernel_rfl),hK⟩⟩
 by_cases e5:x.at'=5
 ·refine aLB (aQ.unpack (.doer t n x) 0 1 (eD t n x) [1] rfl (congrArg (Prod.mk 1) (uW e5)) (by kernel_rfl) rfl) ?_
  exact aCl t n t2 n2 x st _ ⟨⟨_,_,aF.pack [some (.abs (.doer t n x) [1]),some (.abs (.store t2 n2 st) [])] (.doer t n x) 0 1 (eD t n x) [1] rfl rfl (congrArg (Prod.mk 1) (uW e5)) (by kernel_rfl),hK⟩⟩
 by_cases e2:x.at'=2
 ·refine aLB (aQ.unpack (.doer t n x) 0 1 (jD t n x) [1] rfl (congrArg (Prod.mk 1) (uT e2)) (by kernel_rfl) rfl) ?_
  exact aHB t n t2 n2 x st _ ⟨⟨_,_,aF.pack [some (.abs (.doer t n x) [1]),some (.abs (.store t2 n2 st) [])] (.doer t n x) 0 1 (jD t n x) [1] rfl rfl (congrArg (Prod.mk 1) (uT e2)) (by kernel_rfl),hK⟩⟩
 by_cases e3:x.at'=3
 ·refine aLB (aQ.unpack (.doer t n x) 0 1 (jF t n x) [1] rfl (congrArg (Prod.mk 1) (uU e3)) (by kernel_rfl) rfl) ?_
  exact aHD t n t2 n2 x st _ ⟨⟨_,_,aF.pack [some (.abs (.doer t n x) [1]),some (.abs (.store t2 n2 st) [])] (.doer t n x) 0 1 (jF t n x) [1] rfl rfl (congrArg (Prod.mk 1) (uU e3)) (by kernel_rfl),hK⟩⟩
 by_cases e4:x.at'=4
 ·refine aLB (aQ.unpack (.doer t n x) 0 1 (jA t n x) [1] rfl (congrArg (Prod.mk 1) (uV e4)) (by kernel_rfl) rfl) ?_
  exact aHy t n t2 n2 x st _ ⟨⟨_,_,aF.pack [some (.abs (.doer t n x) [1]),some (.abs (.store t2 n2 st) [])] (.doer t n x) 0 1 (jA t n x) [1] rfl rfl (congrArg (Prod.mk 1) (uV e4)) (by kernel_rfl),hK⟩⟩
 by_cases e6:x.at'=6
 ·refine aLB (aQ.unpack (.doer t n x) 0 1 (jB t n x) [1] rfl (congrArg (Prod.mk 1) (uX e6)) (by kernel_rfl) rfl) ?_
  exact aHz t n t2 n2 x st _ ⟨⟨_,_,aF.pack [some (.abs (.doer t n x) [1]),some (.abs (.store t2 n2 st) [])] (.doer t n x) 0 1 (jB t n x) [1] rfl rfl (congrArg (Prod.mk 1) (uX e6)) (by kernel_rfl),hK⟩⟩
 by_cases e7:x.at'=7
 ·refine aLB (aQ.unpack (.doer t n x) 0 1 (jE t n x) [1] rfl (congrArg (Prod.mk 1) (uY e7)) (by kernel_rfl) rfl) ?_
  exact aHC t n t2 n2 x st _ ⟨⟨_,_,aF.pack [some (.abs (.doer t n x) [1]),some (.abs (.store t2 n2 st) [])] (.doer t n x) 0 1 (jE t n x) [1] rfl rfl (congrArg (Prod.mk 1) (uY e7)) (by kernel_rfl),hK⟩⟩
 by_cases e8:x.at'=8
 ·refine aLB (aQ.unpack (.doer t n x) 0 1 (jC t n x) [1] rfl (congrArg (Prod.mk 1) (uZ e8)) (by kernel_rfl) rfl) ?_
  exact aHA t n t2 n2 x st _ ⟨⟨_,_,aF.pack [some (.abs (.doer t n x) [1]),some (.abs (.store t2 n2 st) [])] (.doer t n x) 0 1 (jC t n x) [1] rfl rfl (congrArg (Prod.mk 1) (uZ e8)) (by kernel_rfl),hK⟩⟩
 by_cases e9:x.at'=9
 ·refine aLB (aQ.unpack (.doer t n x) 0 1 (jG t n x) [1] rfl (congrArg (Prod.mk 1) (u6 e9)) (by kernel_rfl) rfl) ?_
  exact aHG t n t2 n2 x st _ ⟨⟨_,_,aF.pack [some (.abs (.doer t n x) [1]),some (.abs (.store t2 n2 st) [])] (.doer t n x) 0 1 (jG t n x) [1] rfl rfl (congrArg (Prod.mk 1) (u6 e9)) (by kernel_rfl),hK⟩⟩
 refine aLB (aQ.unpack (.doer t n x) 0 1 (qH t n x) [1] rfl (congrArg (Prod.mk 1) (wE ⟨e0,e1,e5,e2,e3,e4,e6,e7,e8,e9⟩)) (by kernel_rfl) rfl) ?_
 exact aJK t n t2 n2 x st _ ⟨⟨_,_,aF.pack [some (.abs (.doer t n x) [1]),some (.abs (.store t2 n2 st) [])] (.doer t n x) 0 1 (qH t n x) [1] rfl rfl (congrArg (Prod.mk 1) (wE ⟨e0,e1,e5,e2,e3,e4,e6,e7,e8,e9⟩)) (by kernel_rfl),hK⟩⟩
noncomputable def EW4:=EW3.addS 96 dtS aHF
abbrev egH(x:EGS):aC Ob:=[some (.abs (.engine x) [])]
theorem kA(n:Nat)(hn:n<=1)(v:AVal)(hv:v.within (upto 0 1)=true)(x:EGS):aF (obI tbl) n v (egG x) v (egH x):=by
 refine aF.pack (egH x) (.engine x) 0 0 (egG x) [] (by kernel_rfl) rfl rfl ?_
 have h1:obOk 0 (egG x)=true:=by kernel_rfl
 have h2:l8 (egH x) 0 []=true:=by kernel_rfl
 have h3:Nat.ble n (egH x).length =true:=Nat.ble_eq_true_of_le hn;have h4:v.within (upto 0 (egH x).length)=true:=hv;rw [h1,h2,h3,h4];rfl
def aHQ(g:aC Ob):Option (Prop×EGS):=match g with
 | [some (.cells [.int .i64 sh,.int .i64 th,.int .i64 nd,.int .i64 tr,.ptr 1 0,.ptr 3 0,.slice 4 0 len 1,.int .i64 k]),e1,e2,some (.abs (.hist h) []),some (.abs (.whole ws i) [5]),some (.abs (.worker w) [])]=>(match cQ 2 [e1,e2]with
   | some (l,s)=>some (len=ws.length/\i<ws.length/\l=s.xs.length,⟨sh,th,nd,tr,s,h,dQ ws i w,k⟩)
   | none=>none)
 | _=>none
def aHP(g:aC Ob):Option (Prop×EGS):=match g with
 | [some (.cells [.int .i64 sh,.int .i64 th,.int .i64 nd,.int .i64 tr,.ptr 1 0,.ptr 3 0,.slice 4 0 len 1,.int .i64 k]),e1,e2,some (.abs (.hist h) []),some (.abs (.wrow ws) [])]=>(match cQ 2 [e1,e2]with
   | some (l,s)=>some (len=ws.length/\l=s.xs.length,⟨sh,th,nd,tr,s,h,ws,k⟩)
   | none=>none)
 | _=>none
def egP(g:aC Ob):Option (Prop×EGS):=match aHQ g with
 | some r=>some r
 | none=>aHP g
theorem CW(v:AVal)(hv:v.within (upto 0 1)=true)(hv5:lI (upto 0 5) v=v)(n:Nat)(hn:n<=1){g:aC Ob}{p:Prop}{x:EGS}(hp:egP g=some (p,x))(hq:p):aF (obI tbl) n v g v (egH x):=by
 unfold egP at hp;split at hp
 ·rename_i r hr;cases hp;unfold aHQ at hr;split at hr
  case h_2=>cases hr
  rename_i sh th nd tr len k e1 e2 h ws i w;split at hr
  case h_2=>cases hr
  rename_i l s hm;cases hr;obtain⟨rfl,hi,hl⟩:=hq;cases bB hm hl;refine(aF.back (l:=4) (k:=5) (i:=i) (ws:=ws) (w:=w) rfl rfl dS hi).trans ?_;have aa:ws.length=(dQ ws i w).length :=by simp [dQ]
  have t1:=aF.pick (I:=obI tbl) (n:=n) (v:=v) (g:=([cE' [.I sh,.I th,.I nd,.I tr,.ptr 1 0,.ptr 3 0,.slice 4 0 ws.length 1,.I k],bI 2 s,bJ s,some (.abs (.hist h) []),some (.abs (.wrow (dQ ws i w)) []),none]:aC Ob)) (upto 0 5) (by
   have h1:dW (upto 0 5) 6=true:=by decide
   have h2:iJ (upto 0 5) 0 n=true:=by
    match n,hn with
    | 0,_=>rfl
    | 1,_=>rfl
   show(dW (upto 0 5) 6&&iJ (upto 0 5) 0 n)=true;rw [h1,h2];rfl)
  rw [hv5]at t1;refine t1.trans ?_;have t2:=kA n hn v hv ⟨sh,th,nd,tr,s,h,dQ ws i w,k⟩;refine aF.trans (aLE rfl ?_) t2;show _=[some (aG.cells [.I sh,.I th,.I nd,.I tr,.ptr 1 0,.ptr 3 0,.slice 4 0 (dQ ws i w).length 1,.I k]),_,_,_,_];rw [<-aa];rfl
 ·unfold aHP at hp;split at hp
  case h_2=>cases hp
  rename_i sh th nd tr len k e1 e2 h ws ac;split at hp
  case h_2=>cases hp
  rename_i l s hm;cases hp;obtain⟨rfl,hl⟩:=hq;cases bB hm hl;exact kA n hn v hv ⟨sh,th,nd,tr,s,h,ws,k⟩
def pkP(v:AVal)(g:aC Ob):Option (Prop×(Bool×EGS)):=match v with
 | .bool d=>(match egP g with
   | some (p,x)=>some (p,(d,x))
   | none=>none)
 | _=>none
theorem aFY:bQ (obI tbl) 1 pkP (fun y=>.ret (.bool y.1) (egH y.2)):=by
 intro v g p x hp hq K hK;unfold pkP at hp;split at hp
 case h_2=>cases hp
 rename_i d;split at hp
 case h_2=>cases hp
 rename_i p' x' hx;cases hp;exact⟨⟨_,_,CW (.bool d) rfl rfl 1 (Nat.le_refl 1) hx hq,hK⟩⟩
instance:Inhabited EGS:=⟨⟨0,0,0,0,⟨0,0,[],0,0,0,0,0,false⟩,default,[],0⟩⟩
abbrev w2n(th:Int)(x:EGS):=aY x.7 (0+Int.toNat th*1)
abbrev w2m(th:Int)(x:EGS):=wbF x.4 (w2n th x)
def pkT(th:Int)(x:EGS):Tr (Bool×EGS):=.ite (ilt th 0) (.pre (lE' x.7/\lE' (EGS.s x).3) (.ret (false,x))) (.ite (ile (↑x.7.length:Int) th) (.pre (lE' x.7/\lE' (EGS.s x).3) (.ret (false,x))) (.pre ((0:Int)<=th/\th<(↑x.7.length:Int)) (.pre (0+Int.toNat th*(1:Nat)<x.7.length) (.pre True (.ite (ieq (W ((↑(List.length (w2n th x).4):Int) - (w2n th x).5)) 0) (.pre (lE' x.7/\0+Int.toNat th*(1:Nat)<x.7.length/\lE' (EGS.s x).3) (.ret (false,{x with ws:=dQ x.7 (0+Int.toNat th*1) (w2n th x)}))) (.ite (ile 60000 x.8) (.pre (lE' x.7/\0+Int.toNat th*(1:Nat)<x.7.length/\lE' (EGS.s x).3) (.ret (false,{x with ws:=dQ x.7 (0+Int.toNat th*1) (w2n th x)}))) (.pre (VW x.4 (w2n th x)) (.ite (!(w2n th x).6) (.pre (True/\True) (.pre (hbOk th x.6 (WK1.d (w2m th x)).6 (WK1.d (w2m th x)).7/\True) (.pre ((lE' (w2m th x).4/\lE' (w2m th x).7/\lE' (w2m th x).8/\(w2m th x).1=(w2m th x).1/\(w2m th x).2=(w2m th x).2/\lE' (EGS.s x).3)/\aBW (w2m th x) x.5) (.ite (wsF (w2m th x) x.5).4 (.pre (heOk th (hbF th x.6 (WK1.d (w2m th x)).6 (WK1.d (w2m th x)).7).2 (wsF (w2m th x) x.5).1 (wsF (w2m th x) x.5).2 (wsF (w2m th x) x.5).3/\True) (.pre (lE' x.7/\0+Int.toNat th*(1:Nat)<x.7.length/\lE' (WkO.s (wsF (w2m th x) x.5)).3) (.ret (true,{x with s:=(wsF (w2m th x) x.5).6,h:=(heF th (hbF th x.6 (WK1.d (w2m th x)).6 (WK1.d (w2m th x)).7).2 (wsF (w2m th x) x.5).1 (wsF (w2m th x) x.5).2 (wsF (w2m th x) x.5).3).2,ws:=dQ x.7 (0+Int.toNat th*1) (wsF (w2m th x) x.5).5,k:=W (x.8+1) })))) (.pre (lE' x.7/\0+Int.toNat th*(1:Nat)<x.7.length/\lE' (WkO.s (wsF (w2m th x) x.5)).3) (.ret (true,{x with s:=(wsF (w2m th x) x.5).6,h:=(hbF th x.6 (WK1.d (w2m th x)).6 (WK1.d (w2m th x)).7).2,ws:=dQ x.7 (0+Int.toNat th*1) (wsF (w2m th x) x.5).5,k:=W (x.8+1) }))))))) (.pre ((lE' (w2m th x).4/\lE' (w2m th x).7/\lE' (w2m th x).8/\(w2m th x).1=(w2m th x).1/\(w2m th x).2=(w2m th x).2/\lE' (EGS.s x).3)/\aBW (w2m th x) x.5) (.ite (wsF (w2m th x) x.5).4 (.pre (heOk th x.6 (wsF (w2m th x) x.5).1 (wsF (w2m th x) x.5).2 (wsF (w2m th x) x.5).3/\True) (.pre (lE' x.7/\0+Int.toNat th*(1:Nat)<x.7.length/\lE' (WkO.s (wsF (w2m th x) x.5)).3) (.ret (true,{x with s:=(wsF (w2m th x) x.5).6,h:=(heF th x.6 (wsF (w2m th x) x.5).1 (wsF (w2m th x) x.5).2 (wsF (w2m th x) x.5).3).2,ws:=dQ x.7 (0+Int.toNat th*1) (wsF (w2m th x) x.5).5,k:=W (x.8+1) })))) (.pre (lE' x.7/\0+Int.toNat th*(1:Nat)<x.7.length/\lE' (WkO.s (wsF (w2m th x) x.5)).3) (.ret (true,{x with s:=(wsF (w2m th x) x.5).6,ws:=dQ x.7 (0+Int.toNat th*1) (wsF (w2m th x) x.5).5,k:=W (x.8+1) })))))))))))))
theorem aFZ(th:Int)(x:EGS)(K:Bool×EGS->Prop)(h:(pkT th x).run K):cT' 41 [.ptr 0 0,.I th] [cE' [.I x.sh,.I x.th,.I x.nd,.I x.tr,.ptr 1 0,.ptr 3 0,.slice 4 0 x.ws.length 1,.I x.k],bI 2 x.s,bJ x.s,some (.abs (.hist x.h) []),some (.abs (.wrow x.ws) [])] (fG 1 0 [] [] pkP K):=by
 exact cM' (E:=EW4) (by kernel_rfl) h
def pkF(th:Int)(x:EGS):Bool×EGS:=(pkT th x).val
def aBe(th:Int)(x:EGS):Prop:=(pkT th x).ok
def pkS:aI Ob:=fun args h=>match args,h with
 | [.ptr 0 0,.int .i64 th],[some (.abs (.engine x) [])]=>some (.pre (aBe th x) (.ret (.bool (pkF th x).1) (egH (pkF th x).2)))
 | _,_=>none
theorem aIW:sT' 41 pkS:=by
 intro args h o ho K hK;unfold pkS at ho;split at ho
 case h_2=>cases ho
 rename_i th x;cases ho;obtain⟨ok,hK⟩:=hK;exact aLx (root:=0) (pos:=[]) (cs:=[]) (parse:=pkP) (fin:=fun y=>.ret (.bool y.1) (egH y.2)) aFY (aQ.unpack (.engine x) 0 0 (egG x) [] rfl rfl rfl rfl) (aFZ th x _ (aLD ok hK))
noncomputable def EP1:=EW4.addS 41 pkS aIW
def rI:AVal->Int
 | .int _ n=>n
 | _=>0
def rK(row:Nat->List AVal)(i:Nat):Int:=rI ((row i).getD 0 .O)
def rY(row:Nat->List AVal)(i:Nat):Int:=rI ((row i).getD 1 .O)
structure AT (row:Nat->List AVal):Prop where
 h:row=fun i=>[.I (rK row i),.I (rY row i)]
def lH(sh:Int)(m:Nat)(f g:Nat->Int):List (List Int):=(List.range m).map fun j=>[sh,f j,g j]
def fE(sh:Int)(m:Nat)(f g:Nat->Int):Bool:=(List.range m).all fun j=>bT sh (f j) (g j)
theorem VO(sh:Int)(m:Nat)(f g:Nat->Int):lH sh (m+1) f g=lH sh m f g++ [[sh,f m,g m]]:=by
 unfold lH;rw [List.range_succ];simp
theorem qU(sh:Int)(m:Nat)(f g:Nat->Int):(lH sh m f g).length =m:=by unfold lH;simp
theorem pL{k:Int}{m:Nat}{f g:Nat->Int} :fE k m f g=true↔ ∀j,j<m->bT k (f j) (g j)=true:=by
 unfold fE;simp
def WI(sh:Int)(m:Nat)(f g:Nat->Int):Hint Ob:= {X:=Nat,st:=fun x=>([.I sh,.O,.O,.O,.O,.I 0,.tslice 0 0 x 3,.O,.O,.view m 2 (fun i=>[.I (f i),.I (g i)]),.I (m:Int),.I (x:Int)]++List.replicate 15 .O,[some (.tab cK3 (lH sh x f g))]),ok:=fun x=>x<=m/\ ∀j,j<x->bT sh (f j) (g j)=true,mu:=fun x=>m - x,keep:=[0,5,6,9,10,11],casts:=[(.slot 6,.tab cK3)] }
def aFV(sh:Int)(m:Nat)(f g:Nat->Int)(K:AVal->aC Ob->Prop):Prop:=dE (WI sh m f g) (Hint.ok (WI sh m f g)) (.I sh::.O::.O::.O::.O::.I 0::.tslice 0 0 0 3::.O::.O::(.view m 2 fun i=>[.I (f i),.I (g i)])::.I (↑m:Int)::.I 0::(tO' 15 [])) [some (.tab cK3 [])]/\ ∀(x:Nat),(x<=m/\ ∀(j:Nat),j<x->bT sh (f j) (g j)=true)->bif ilt (↑x:Int) (↑m:Int)then((0:Int)<=(↑x:Int)/\(↑x:Int)<(↑m:Int))/\True/\bif !bT sh (f (Int.toNat (↑x:Int))) (g (Int.toNat (↑x:Int)))then K (.tup [.raw (Value.slice none 0 0),.I 1]) []else(0=0/\x=List.length (lH sh x f g)/\x+(1:Nat)<=(4294967296:Nat))/\dE (WI sh m f g) (fun x'=>Hint.ok (WI sh m f g) x'/\Hint.mu (WI sh m f g) x'<Hint.mu (WI sh m f g) x) (.I sh::.O::.O::.O::.O::.I 0::.tslice 0 0 (x+1) 3::.O::.O::(.view m 2 fun i=>[.I (f i),.I (g i)])::.I (↑m:Int)::.I (W ((↑x:Int)+1))::(tO' 15 [])) [some (.tab cK3 (lH sh x f g++ [[sh,f (Int.toNat (↑x:Int)),g (Int.toNat (↑x:Int))]]))]else K (.tup [.tslice 0 0 x 3,.I 0]) [some (.tab cK3 (lH sh x f g))]
theorem T4(sh:Int)(m:Nat)(f g:Nat->Int)(K:AVal->aC Ob->Prop)(h:aFV sh m f g K):cT' 82 [.I sh,.view m 2 (fun i=>[.I (f i),.I (g i)])] [] K:=by
 refine aLw (aD (E:=EP1) Tryz.checked.mixed (L:=fun _ _=>some (.states (WI sh m f g))) (n:=10) (aJ (by kernel_rfl) h))
def lgB(th:Int)(m:Nat)(ln:Nat->Nat):Bool:=(List.range m).any (fun i=>decide (40<ln i))||ilt th (m:Int)
theorem TN{th:Int}{m:Nat}{ln:Nat->Nat} :lgB th m ln=false↔(∀i,i<m->ln i<=40)/\(m:Int)<=th:=by
 unfold lgB;rw [bC];simp
theorem KJ{th:Int}{m:Nat}{ln:Nat->Nat}(h:(∃i,i<m/\40<ln i)\/th<(m:Int)):lgB th m ln=true:=by
 unfold lgB;rw [bC];simp;exact h
def WZ(sh th nd tr:Int)(m:Nat)(ln:Nat->Nat)(f g:Nat->Nat->Int):Hint Ob:= {X:=Nat,st:=fun x=>([.O,.view m 1 (fun i=>[.view (ln i) 2 (fun j=>[.I (f i j),.I (g i j)])]),.ptr 0 0,.O,.O,.O,.O,.view m 1 (fun i=>[.view (ln i) 2 (fun j=>[.I (f i j),.I (g i j)])]),.I (m:Int),.I (x:Int)]++List.replicate 12 .O,[cE' [.I sh,.I th,.I nd,.I tr]]),ok:=fun x=>x<=m/\ ∀j,j<x->ln j<=40,mu:=fun x=>m - x,keep:=[1,2,7,8,9] }
def aFG(sh th nd tr:Int)(m:Nat)(ln:Nat->Nat)(f g:Nat->Nat->Int)(K:AVal->aC Ob->Prop):Prop:=dE (WZ sh th nd tr m ln f g) (Hint.ok (WZ sh th nd tr m ln f g)) [.O,.view m 1 fun i=>[.view (ln i) 2 fun j=>[.I (f i j),.I (g i j)]],.ptr 0 0,.O,.O,.O,.O,.view m 1 fun i=>[.view (ln i) 2 fun j=>[.I (f i j),.I (g i j)]],.I (↑m:Int),.I 0,.O,.O,.O,.O,.O,.O,.O,.O,.O,.O,.O,.O] [cE' [.I sh,.I th,.I nd,.I tr]]/\ ∀(x:Nat),(x<=m/\ ∀(j:Nat),j<x->ln j<=(40:Nat))->bif ilt (↑x:Int) (↑m:Int)then((0:Int)<=(↑x:Int)/\(↑x:Int)<(↑m:Int))/\bif ilt 40 (↑(ln (Int.toNat (↑x:Int))):Int)then K (.bool true) []else dE (WZ sh th nd tr m ln f g) (fun x'=>Hint.ok (WZ sh th nd tr m ln f g) x'/\Hint.mu (WZ sh th nd tr m ln f g) x'<Hint.mu (WZ sh th nd tr m ln f g) x) [.O,.view m 1 fun i=>[.view (ln i) 2 fun j=>[.I (f i j),.I (g i j)]],.ptr 0 0,.O,.O,.O,.O,.view m 1 fun i=>[.view (ln i) 2 fun j=>[.I (f i j),.I (g i j)]],.I (↑m:Int),.I (W ((↑x:Int)+1)),.O,.O,.O,.O,.O,.O,.O,.O,.O,.O,.O,.O] [cE' [.I sh,.I th,.I nd,.I tr]]else K (.bool (ilt th (↑m:Int))) []
theorem TO(sh th nd tr:Int)(m:Nat)(ln:Nat->Nat)(f g:Nat->Nat->Int)(K:AVal->aC Ob->Prop)(h:aFG sh th nd tr m ln f g K):cT' 80 [.agg [.I sh,.I th,.I nd,.I tr],.view m 1 (fun i=>[.view (ln i) 2 (fun j=>[.I (f i j),.I (g i j)])])] [] K:=by
 refine aLw (aD (E:=EP1) Tryz.checked.mixed (L:=fun _ _=>some (.states (WZ sh th nd tr m ln f g))) (n:=10) (aJ (by kernel_rfl) h))
def wrO(sh th nd tr:Int):Out Ob:=.ite (ilt sh 1) (.ret (.I 1) []) (.ite (ilt 4 sh) (.ret (.I 1) []) (.pre True (.ite (!eQ th nd) (.ret (.I 2) []) (.ite (ilt tr 0) (.ret (.I 2) []) (.ite (ilt 50 tr) (.ret (.I 2) []) (.ret (.I 0) []))))))
theorem aF.castTup{I:Itp Ob}{n:Nat}{K:gS}{a a' b:AVal}{g g':aC Ob}(hc:B8 K a g=some (a',g')):aF I n (.tup [a,b]) g (.tup [a',b]) g':=by
 intro V hR w x h1 h2 h3 h4;obtain⟨cs,rfl,va,vs,e,ra,vb,aa,e2,rb,r3⟩:=h4;obtain⟨V',⟨c1,c2,c3,c4⟩,r⟩:=vZ hc h1 h2 ra;exact⟨V',fun l y _ hy=>c1 l y hy,c2,by omega,⟨cs,rfl,va,vs,e,r,vb,aa,e2,Rep.mono c1 _ _ rb,r3⟩,c4⟩
def ofR(sh:Int)(m:Nat)(f g:Nat->Int):List (List Int):=bif fE sh m f g then lH sh m f g else []
def ofC(sh:Int)(m:Nat)(f g:Nat->Int):Int:=bif fE sh m f g then 0 else 1
theorem aIQ(sh:Int)(m:Nat)(f g:Nat->Int)(K:AVal->aC Ob->Prop)(hm:m<=1000000)(hK:K (.tup [.tslice 0 0 (ofR sh m f g).length 3,.I (ofC sh m f g)]) [some (.tab cK3 (ofR sh m f g))]):aFV sh m f g (cS (obI tbl) 0 K):=by
 refine⟨aR (H:=WI sh m f g) (0:Nat) rfl ⟨Nat.zero_le _,fun j hj=>by omega⟩,?_⟩
 rintro x ⟨hx,hj⟩;refine aK (fun e=>?_) (fun e=>?_)
 ·rw [bC,dT']at e;refine⟨⟨by omega,by omega⟩,trivial,aK (fun e2=>?_) (fun e2=>?_)⟩
  ·have hf:fE sh m f g=false:=by
    cases h:fE sh m f g with
    | false=>rfl
    | true=>
      have:=pL.1 h x omz;rw [Int.toNat_natCast]at e2;rw [this]at e2;cases e2
   unfold ofR ofC at hK;rw [hf]at hK;exact⟨⟨_,_,aF.castTup (K:=.tab cK3) rfl,hK⟩⟩
  ·have e4:W ((x:Int)+1)=((x+1:Nat):Int):=by rw [W,cG omz];rfl
   refine⟨⟨rfl,(qU sh x f g).symm,by omega⟩,aR (H:=WI sh m f g) (x+1:Nat) ?_ ⟨⟨by show x+1<=m;omega,?_⟩,by show m - (x+1)<m - x;omega⟩⟩
   ·simp only [WI,VO,e4,Int.toNat_natCast]<;>rfl
   intro j af
   by_cases ac:j=x
   ·subst ac;rw [Int.toNat_natCast]at e2
    simpa using e2
   ·exact hj j omz
 ·rw [bC,dF']at e;have ht:fE sh m f g=true:=pL.2 fun j ae=>hj j omz;have aa:x=m:=by omega
  subst aa;unfold ofR ofC at hK;rw [ht]at hK;have hl:=qU sh x f g;simp only [cond_true]at hK;rw [hl]at hK;exact⟨⟨_,_,aLM _ _ _,hK⟩⟩
def ofS:aI Ob:=fun args h=>match args,h with
 | [.int .i64 sh,.view m 2 row],[]=>some (.pre (m<=1000000/\AT row) (.ret (.tup [.tslice 0 0 (ofR sh m (rK row) (rY row)).length 3,.I (ofC sh m (rK row) (rY row))]) [some (.tab cK3 (ofR sh m (rK row) (rY row)))]))
 | _,_=>none
theorem aIP:sT' 82 ofS:=by
 intro args h o ho K hK;unfold ofS at ho;split at ho
 case h_2=>cases ho
 rename_i sh m row;cases ho;obtain⟨⟨hm,⟨hr⟩⟩,hK⟩:=hK;rw [hr];refine aLG ?_;exact T4 sh m (rK row) (rY row) _ (aIQ sh m (rK row) (rY row) K hm hK)
def vL(vr:Nat->List AVal)(i:Nat):Nat:=match vr i with
 | [.view n _ _]=>n
 | _=>0
def vR(vr:Nat->List AVal)(i:Nat):Nat->List AVal:=match vr i with
 | [.view _ _ r]=>r
 | _=>fun _=>[]
def vK(vr:Nat->List AVal)(i j:Nat):Int:=rK (vR vr i) j
def vY(vr:Nat->List AVal)(i j:Nat):Int:=rY (vR vr i) j
structure fX (vr:Nat->List AVal):Prop where
 h:vr=fun i=>[.view (vL vr i) 2 (fun j=>[.I (vK vr i j),.I (vY vr i j)])]
theorem aIE(sh th nd tr:Int)(m:Nat)(ln:Nat->Nat)(f g:Nat->Nat->Int)(K:AVal->aC Ob->Prop)(hm:m<=1000000)(hK:K (.bool (lgB th m ln)) []):aFG sh th nd tr m ln f g K:=by
 refine⟨aR (H:=WZ sh th nd tr m ln f g) (0:Nat) rfl ⟨Nat.zero_le _,fun j hj=>by omega⟩,?_⟩
 rintro x ⟨hx,hj⟩;refine aK (fun e=>?_) (fun e=>?_)
 ·rw [bC,dT']at e;refine⟨⟨by omega,by omega⟩,aK (fun e2=>?_) (fun e2=>?_)⟩
  ·rw [bC,dT',Int.toNat_natCast]at e2;rw [KJ (.inl ⟨x,by omega,by omega⟩)]at hK
   exact hK
  ·rw [bC,dF',Int.toNat_natCast]at e2;have e4:W ((x:Int)+1)=((x+1:Nat):Int):=by rw [W,cG omz];rfl
   refine aR (H:=WZ sh th nd tr m ln f g) (x+1:Nat) (by simp only [e4]<;>rfl) ⟨⟨by show x+1<=m;omega,?_⟩,by show m - (x+1)<m - x;omega⟩
   intro j ae
   by_cases aa:j=x
   ·subst aa;omega
   ·exact hj j omz
 ·rw [bC,dF']at e
  have e2:lgB th m ln=ilt th (m:Int):=by
   cases h:ilt th (m:Int)with
   | true=>rw [bC,dT']at h;exact KJ (.inr h)
   | false=>rw [bC,dF']at h;exact TN.2 ⟨fun j ac=>hj j omz,by omega⟩
  rw [e2]at hK;exact hK
def lgS:aI Ob:=fun args h=>match args,h with
 | [.agg [.int .i64 sh,.int .i64 th,.int .i64 nd,.int .i64 tr],.view m 1 vr],[]=>some (.pre (m<=1000000/\fX vr) (.ret (.bool (lgB th m (vL vr))) []))
 | _,_=>none
theorem aID:sT' 80 lgS:=by
 intro args h o ho K hK;unfold lgS at ho;split at ho
 case h_2=>cases ho
 rename_i sh th nd tr m vr;cases ho;obtain⟨⟨hm,⟨hr⟩⟩,hK⟩:=hK;rw [hr];exact TO sh th nd tr m (vL vr) (vK vr) (vY vr) K (aIE sh th nd tr m (vL vr) (vK vr) (vY vr) K hm hK)
def wrE(sh th nd tr:Int):Int:=bif ilt sh 1 then 1 else bif ilt 4 sh then 1 else bif !eQ th nd then 2 else bif ilt tr 0 then 2 else bif ilt 50 tr then 2 else 0
def wrS:aI Ob:=fun args h=>match args,h with
 | [.agg [.int .i64 sh,.int .i64 th,.int .i64 nd,.int .i64 tr]],[]=>some (.pre True (.ret (.I (wrE sh th nd tr)) []))
 | _,_=>none
theorem aJa:sT' 79 wrS:=by
 intro args h o ho K hK;unfold wrS at ho;split at ho
 case h_2=>cases ho
 rename_i sh th nd tr;cases ho;obtain⟨_,hK⟩:=hK;have hK:K (.I (wrE sh th nd tr)) []:=hK;refine aLw (cM' (E:=EP1) (q:=(wrO sh th nd tr).run K) (by kernel_rfl) ?_)
 unfold wrE at hK
 refine aK (fun e1=>?_) (fun e1=>aK (fun e2=>?_) (fun e2=>⟨trivial,aK (fun e3=>?_) (fun e3=>aK (fun e4=>?_) (fun e4=>aK (fun e5=>?_) (fun e5=>?_)))⟩))<;>
  (simp only [*,cond_true,cond_false]at hK;exact hK)
def nwP(t n u:Int)(v:AVal)(g:aC Ob):Option (Prop×WKS):=match v,g with
 | .ptr 1 0,[some (.tab [some .i64,some .i64,some .i64] tk),some (.cells [.ptr 2 0,.tslice 0 0 k 3,.int .i64 en,.raw (.pointer none),.slice 4 0 a 1,.slice 5 0 b 1]),some (.cells [.int .i64 t1,.int .i64 n1,.int .i64 me,.int .i64 sp,.slice 3 0 c 1]),some (.ints (some .i64) R),some (.ints (some .i64) tl),some (.ints (some .i64) sl)]=>
   some (k=tk.length/\a=tl.length/\b=sl.length/\c=R.length,⟨t1,n1,⟨me,sp,R⟩,tk,en,false,fF,tl,sl⟩)
 | _,_=>none
theorem aFS(t n u:Int):bQ (obI tbl) 1 (nwP t n u) (fun y=>.ret (.ptr 1 0) [none,some (.abs (.worker y) [])]):=by
 intro v g p x hp hq K hK;unfold nwP at hp;split at hp
 case h_2=>cases hp
 rename_i tk k en a b t1 n1 me sp c R tl sl;cases hp;obtain⟨rfl,rfl,rfl,rfl⟩:=hq;have hK:K (.ptr 1 0) [none,some (.abs (.worker (⟨t1,n1,⟨me,sp,R⟩,tk,en,false,fF,tl,sl⟩:WKS)) [])]:=hK
 exact⟨⟨_,_,(aF.move 3 (of_decide_eq_true rfl)).trans ((aLE (v2:=.ptr 1 0) (g2:=aP [some (.tab cK3 tk),cE' [.ptr 2 0,.tslice 0 0 tk.length 3,.I en,.raw (.pointer none),.slice 4 0 tl.length 1,.slice 5 0 sl.length 1],some (.abs (.store t1 n1 ⟨me,sp,R⟩) []),none,iI' tl,iI' sl] 2 0 (dP t1 n1 ⟨me,sp,R⟩) []) (by kernel_rfl) (by kernel_rfl)).trans
  ((aF.pack [some (.tab cK3 tk),cE' [.ptr 2 0,.tslice 0 0 tk.length 3,.I en,.raw (.pointer none),.slice 4 0 tl.length 1,.slice 5 0 sl.length 1],some (.abs (.store t1 n1 ⟨me,sp,R⟩) []),none,iI' tl,iI' sl] (.store t1 n1 ⟨me,sp,R⟩) 2 0 (dP t1 n1 ⟨me,sp,R⟩) [] rfl rfl rfl (by kernel_rfl)).trans
  ((aF.move 0 (of_decide_eq_true rfl)).trans ((aF.move 4 (of_decide_eq_true rfl)).trans ((aF.move 5 (of_decide_eq_true rfl)).trans ((aF.pick [0,1,2,6,7,8] rfl).trans
  ((aLE (v2:=.ptr 1 0) (g2:=aP [none,some (.abs (.worker (⟨t1,n1,⟨me,sp,R⟩,tk,en,false,fF,tl,sl⟩:WKS)) [])] 1 0 (nK (⟨t1,n1,⟨me,sp,R⟩,tk,en,false,fF,tl,sl⟩:WKS)) []) (by kernel_rfl) (by kernel_rfl)).trans
  (aF.pack [none,some (.abs (.worker (⟨t1,n1,⟨me,sp,R⟩,tk,en,false,fF,tl,sl⟩:WKS)) [])] (.worker (⟨t1,n1,⟨me,sp,R⟩,tk,en,false,fF,tl,sl⟩:WKS)) 1 0 (nK (⟨t1,n1,⟨me,sp,R⟩,tk,en,false,fF,tl,sl⟩:WKS)) [] rfl rfl (congrArg (Prod.mk 0) (qB rfl)) (by kernel_rfl))))))))),hK⟩⟩
def nvP(t n u:Int)(v:AVal)(g:aC Ob):Option (Prop×WKS):=match v,g with
 | .ptr 0 0,[some (.cells [.ptr 1 0,.tslice 3 0 k 3,.int .i64 en,.raw (.pointer none),.slice 4 0 a 1,.slice 5 0 b 1]),some (.cells [.int .i64 t1,.int .i64 n1,.int .i64 me,.int .i64 sp,.slice 2 0 c 1]),some (.ints (some .i64) R),some (.tab [some .i64,some .i64,some .i64] tk),some (.ints (some .i64) tl),some (.ints (some .i64) sl)]=>
   some (k=tk.length/\a=tl.length/\b=sl.length/\c=R.length,⟨t1,n1,⟨me,sp,R⟩,tk,en,false,fF,tl,sl⟩)
 | _,_=>none
theorem aFQ(t n u:Int):bQ (obI tbl) 0 (nvP t n u) (fun y=>.ret (.ptr 0 0) [some (.abs (.worker y) [])]):=by
 intro v g p x hp hq K hK;unfold nvP at hp;split at hp
 case h_2=>cases hp
 rename_i k en a b t1 n1 me sp c R tk tl sl;cases hp;obtain⟨rfl,rfl,rfl,rfl⟩:=hq;have hK:K (.ptr 0 0) [some (.abs (.worker (⟨t1,n1,⟨me,sp,R⟩,tk,en,false,fF,tl,sl⟩:WKS)) [])]:=hK
 exact⟨⟨_,_,(aF.move 2 (of_decide_eq_true rfl)).trans ((aLE (v2:=.ptr 0 0) (g2:=aP [cE' [.ptr 1 0,.tslice 3 0 tk.length 3,.I en,.raw (.pointer none),.slice 4 0 tl.length 1,.slice 5 0 sl.length 1],some (.abs (.store t1 n1 ⟨me,sp,R⟩) []),none,some (.tab cK3 tk),iI' tl,iI' sl] 1 0 (dP t1 n1 ⟨me,sp,R⟩) []) (by kernel_rfl) (by kernel_rfl)).trans
  ((aF.pack [cE' [.ptr 1 0,.tslice 3 0 tk.length 3,.I en,.raw (.pointer none),.slice 4 0 tl.length 1,.slice 5 0 sl.length 1],some (.abs (.store t1 n1 ⟨me,sp,R⟩) []),none,some (.tab cK3 tk),iI' tl,iI' sl] (.store t1 n1 ⟨me,sp,R⟩) 1 0 (dP t1 n1 ⟨me,sp,R⟩) [] rfl rfl rfl (by kernel_rfl)).trans
  ((aF.pick [0,1,3,4,5] rfl).trans
  ((aLE (v2:=.ptr 0 0) (g2:=aP [some (.abs (.worker (⟨t1,n1,⟨me,sp,R⟩,tk,en,false,fF,tl,sl⟩:WKS)) [])] 0 0 (nK (⟨t1,n1,⟨me,sp,R⟩,tk,en,false,fF,tl,sl⟩:WKS)) []) (by kernel_rfl) (by kernel_rfl)).trans
  (aF.pack [some (.abs (.worker (⟨t1,n1,⟨me,sp,R⟩,tk,en,false,fF,tl,sl⟩:WKS)) [])] (.worker (⟨t1,n1,⟨me,sp,R⟩,tk,en,false,fF,tl,sl⟩:WKS)) 0 0 (nK (⟨t1,n1,⟨me,sp,R⟩,tk,en,false,fF,tl,sl⟩:WKS)) [] rfl rfl (congrArg (Prod.mk 0) (qB rfl)) (by kernel_rfl)))))),hK⟩⟩
def nwT(t n u:Int)(tk:List (List Int)):Tr WKS:=.pre (lE' tk/\0=0/\0=0/\0=0) (.ret {t:=t,n:=n,st:= {me:=u,sp:=0,R:=[] },tk:=tk,en:=0,b:=false,d:=fF,tl:=[],sl:=[] })
theorem aFT(t n u:Int)(tk:List (List Int))(K:AVal->aC Ob->Prop)(h:(nwT t n u tk).run (fun y=>(Out.ret (.ptr 1 0) [none,some (.abs (.worker y) [])]).run K)):cT' 83 [.agg [.I t,.I n],.I u,.tslice 0 0 tk.length 3] [some (.tab cK3 tk)] K:=by
 refine aLK (root:=1) (pos:=[]) (cs:=[(.cell 1 4,.ints (some .i64)),(.cell 1 5,.ints (some .i64)),(.cell 2 4,.ints (some .i64))]) (parse:=nwP t n u) (aFS t n u) ?_;exact cM' (E:=EP1) (by kernel_rfl) h
def nvT(t n u:Int):Tr WKS:=.pre (0=0/\0=0/\0=0/\0=0) (.ret {t:=t,n:=n,st:= {me:=u,sp:=0,R:=[] },tk:=[],en:=0,b:=false,d:=fF,tl:=[],sl:=[] })
theorem aFR(t n u:Int)(K:AVal->aC Ob->Prop)(h:(nvT t n u).run (fun y=>(Out.ret (.ptr 0 0) [some (.abs (.worker y) [])]).run K)):cT' 83 [.agg [.I t,.I n],.I u,.raw (.slice none 0 0)] [] K:=by
 refine aLK (root:=0) (pos:=[]) (cs:=[(.cell 0 1,.tab cK3),(.cell 0 4,.ints (some .i64)),(.cell 0 5,.ints (some .i64)),(.cell 1 4,.ints (some .i64))]) (parse:=nvP t n u) (aFQ t n u) ?_;exact cM' (E:=EP1) (by kernel_rfl) h
def nwF(t n u:Int)(tk:List (List Int)):WKS:=(nwT t n u tk).val
def nwS:aI Ob:=fun args h=>match args,h with
 | [.agg [.int .i64 t,.int .i64 n],.int .i64 u,.tslice 0 0 k 3],[some (.tab [some .i64,some .i64,some .i64] tk)]=>some (.pre (k=tk.length) (.ret (.ptr 1 0) [none,some (.abs (.worker (nwF t n u tk)) [])]))
 | _,_=>none
theorem aIO:sT' 83 nwS:=by
 intro args h o ho K hK;unfold nwS at ho;split at ho
 case h_2=>cases ho
 rename_i t n u k tk;cases ho;obtain⟨rfl,hK⟩:=hK;exact aFT t n u tk K (aLD ⟨⟨rfl,rfl,rfl,rfl⟩,trivial⟩ hK)
def nvS:aI Ob:=fun args h=>match args,h with
 | [.agg [.int .i64 t,.int .i64 n],.int .i64 u,.raw (.slice none 0 0)],[]=>some (.pre True (.ret (.ptr 0 0) [some (.abs (.worker (nwF t n u [])) [])]))
 | _,_=>none
theorem aIN:sT' 83 nvS:=by
 intro args h o ho K hK;unfold nvS at ho;split at ho
 case h_2=>cases ho
 rename_i t n u;cases ho;obtain⟨_,hK⟩:=hK;exact aFR t n u K (aLD ⟨⟨rfl,rfl,rfl,rfl⟩,trivial⟩ hK)
noncomputable def EU1:=(((EP1.addS 82 ofS aIP).addS 80 lgS aID).addS 79 wrS aJa).addS 83 (aI.or nwS nvS) (aL9 aIO aIN)
structure wN (sh th:Int) (m:Nat) (ln:Nat->Nat) (f g:Nat->Nat->Int) (u:Int):Prop where
 hu:u<=th
 hg: ∀j:Nat,(j:Int)<u->j<m->fE sh (ln j) (f j) (g j)=true
def ptF(a k:Nat):List AVal:=(List.range k).map fun j=>.ptr (a+j) 0
def WP(wf:Nat->WKS)(k:Nat):aC Ob:=(List.range k).map fun j=>some (.abs (.worker (wf j)) [])
abbrev nP:Option (aG Ob):=some (.abs (.hist ⟨[],[],0,0,0,0,0,0,0,0⟩) [])
def HP(th:Int)(m:Nat)(ln:Nat->Nat)(f g:Nat->Nat->Int)(x:Int):List AVal:=[.O,.view m 1 (fun i=>[.view (ln i) 2 (fun j=>[.I (f i j),.I (g i j)])]),.ptr 0 0,.O,.O,.O,.O,.ptr 1 0,.ptr 2 0]++List.replicate 24 .O ++ [.I th,.I x]++List.replicate 45 .O
def HN0(sh th nd tr:Int)(m:Nat)(ln:Nat->Nat)(f g:Nat->Nat->Int)(wf:Nat->WKS):Hint Ob:= {X:=Unit,st:=fun _=>(HP th m ln f g 0,[some (.cells [.int .i64 sh,.int .i64 th,.int .i64 nd,.int .i64 tr]),some (.cells [.int .i64 th,.int .i64 nd]),some (.cells [.int .i64 sh,.int .i64 th,.int .i64 nd,.int .i64 tr,.raw (.pointer none),.ptr 3 0,.raw (.slice none 0 0),.int .i64 0]),nP]),ok:=fun _=>wN sh th m ln f g 0,mu:=fun _=>9,keep:=[1,2,7,8,33,34],sel:=fun tm _=>match tm.getD 34 .O with
 | .int _ n=>Nat.beq n.toNat 0
 | _=>false}
def HNk(k:Nat)(sh th nd tr:Int)(m:Nat)(ln:Nat->Nat)(f g:Nat->Nat->Int)(wf:Nat->WKS):Hint Ob:= {X:=Unit,st:=fun _=>(HP th m ln f g k,[some (.cells [.int .i64 sh,.int .i64 th,.int .i64 nd,.int .i64 tr]),some (.cells [.int .i64 th,.int .i64 nd]),some (.cells [.int .i64 sh,.int .i64 th,.int .i64 nd,.int .i64 tr,.raw (.pointer none),.ptr 3 0,.slice 4 0 k 1,.int .i64 0]),nP,some (.cells (ptF 5 k))]++WP wf k),ok:=fun _=>wN sh th m ln f g k,mu:=fun _=>9 - k,keep:=[1,2,7,8,33,34],sel:=fun tm _=>match tm.getD 34 .O with
 | .int _ n=>Nat.beq n.toNat k
 | _=>false}
abbrev w2o(k:Nat):=Int.toNat (k:Int)
abbrev w2p(k:Nat)(nd sh th tr:Int):aC Ob:=[cE' [.I sh,.I th,.I nd,.I tr],cE' [.I th,.I nd],cE' [.I sh,.I th,.I nd,.I tr,.N,.ptr 3 0,.slice 4 0 (k+1) 1,.I 0],nP,some (.cells (ptF 5 (k+1)))]
def DO(k:Nat)(sh th nd tr:Int)(m:Nat)(ln:Nat->Nat)(f g:Nat->Nat->Int)(wf:Nat->WKS)(K:AVal->aC Ob->Prop):Prop:=wN sh th m ln f g (k:Int)->bif ilt (k:Int) th then bif ilt (k:Int) (↑m:Int)then((0:Int)<=(k:Int)/\(k:Int)<(↑m:Int))/\((ln (w2o k)<=(1000000:Nat)/\AT fun j=>[.I (f (w2o k) j),.I (g (w2o k) j)])/\True)/\bif !ieq (ofC sh (ln (w2o k)) (rK fun j=>[.I (f (w2o k) j),.I (g (w2o k) j)]) (rY fun j=>[.I (f (w2o k) j),.I (g (w2o k) j)])) 0 then K (.tup [.N,.I (ofC sh (ln (w2o k)) (rK fun j=>[.I (f (w2o k) j),.I (g (w2o k) j)]) (rY fun j=>[.I (f (w2o k) j),.I (g (w2o k) j)]))]) []else(lE' (ofR sh (ln (w2o k)) (rK fun j=>[.I (f (w2o k) j),.I (g (w2o k) j)]) (rY fun j=>[.I (f (w2o k) j),.I (g (w2o k) j)]))/\True)/\k+(1:Nat)<=(4294967296:Nat)/\dE (HNk (k+1) sh th nd tr m ln f g wf) (fun x_1=>Hint.ok (HNk (k+1) sh th nd tr m ln f g wf) x_1/\rE (some (Hint.mu (HNk (k) sh th nd tr m ln f g wf) ())) (Hint.mu (HNk (k+1) sh th nd tr m ln f g wf) x_1)) (HP th m ln f g (W ((k:Int)+1))) ((w2p k nd sh th tr)++(WP wf k++ [some (.abs (.worker (nwF th nd (k:Int) (ofR sh (ln (w2o k)) (rK fun j=>[.I (f (w2o k) j),.I (g (w2o k) j)]) (rY fun j=>[.I (f (w2o k) j),.I (g (w2o k) j)])))) [])]))else(True/\True)/\k+(1:Nat)<=(4294967296:Nat)/\dE (HNk (k+1) sh th nd tr m ln f g wf) (fun x_1=>Hint.ok (HNk (k+1) sh th nd tr m ln f g wf) x_1/\rE (some (Hint.mu (HNk (k) sh th nd tr m ln f g wf) ())) (Hint.mu (HNk (k+1) sh th nd tr m ln f g wf) x_1)) (HP th m ln f g (W ((k:Int)+1))) ((w2p k nd sh th tr)++(WP wf k++ [some (.abs (.worker (nwF th nd (k:Int) [])) [])]))else True/\bif !eQ th nd then K (.tup [.ptr 0 0,.I 1]) ([cE' [.I sh,.I th,.I nd,.I tr,.N,.ptr 1 0,.slice 2 0 k 1,.I 0],nP,some (.cells (ptF 3 k))]++WP wf k)else(((0:Int)<=th/\th<=(100000:Int))/\(0:Int)<=nd/\nd<=(100000:Int))/\bif ilt (2*nd+5*th+6) (↑0:Int)then K (.tup [.ptr 0 0,.I 6]) ([cE' [.I sh,.I th,.I nd,.I tr,.N,.ptr 1 0,.slice 2 0 k 1,.I 0],nP,some (.cells (ptF 3 k))]++WP wf k)else((((0:Int)<=th/\th<=(100000:Int))/\(0:Int)<=nd/\nd<=(100000:Int))/\True)/\((0:Int)<=(2:Int)*nd+5*th+6/\2*nd+5*th+(6:Int)=(2:Int)*nd+5*th+6/\2*nd+5*th+(6:Int)<=(4294967296:Int))/\K (.tup [.ptr 0 0,.I 0]) ([cE' [.I sh,.I th,.I nd,.I tr,.ptr 1 0,.ptr 3 0,.slice 4 0 k 1,.I 0],cE' [.I th,.I nd,.slice 2 0 (Int.toNat (2*nd+5*th+6)) 1,.I 0,.I 0,.I 0,.int .u64 0,.int .u64 0,.bool false],some (.ints (some .u64) (List.replicate (Int.toNat (2*nd+5*th+6)) 0)),nP,some (.cells (ptF 5 k))]++WP wf k)
abbrev w2q(nd sh th tr:Int)(wf:Nat->WKS):aC Ob:=[cE' [.I sh,.I th,.I nd,.I tr,.N,.ptr 1 0,.slice 2 0 8 1,.I 0],nP,cE' [.ptr 3 0,.ptr 4 0,.ptr 5 0,.ptr 6 0,.ptr 7 0,.ptr 8 0,.ptr 9 0,.ptr 10 0],some (.abs (.worker (wf 0)) []),some (.abs (.worker (wf 1)) []),some (.abs (.worker (wf 2)) []),some (.abs (.worker (wf 3)) []),some (.abs (.worker (wf 4)) []),some (.abs (.worker (wf 5)) []),some (.abs (.worker (wf 6)) []),some (.abs (.worker (wf 7)) [])]
abbrev w2r(nd th:Int):=((0:Int)<=th/\th<=(100000:Int))/\(0:Int)<=nd/\nd<=(100000:Int)
abbrev w2s(nd th:Int):=(0:Int)<=(2:Int)*nd+5*th+6/\2*nd+5*th+(6:Int)=(2:Int)*nd+5*th+6/\2*nd+5*th+(6:Int)<=(4294967296:Int)
abbrev w2t(nd th:Int):Option (aG Ob):=cE' [.I th,.I nd,.slice 2 0 (Int.toNat (2*nd+5*th+6)) 1,.I 0,.I 0,.I 0,.int .u64 0,.int .u64 0,.bool false]
abbrev w2u:=Value.slice none 0 0
def aE7(sh th nd tr:Int)(m:Nat)(ln:Nat->Nat)(f g:Nat->Nat->Int)(wf:Nat->WKS)(K:AVal->aC Ob->Prop):Prop:=True/\bif !ieq (wrE sh th nd tr) 0 then K (.tup [.N,.I (wrE sh th nd tr)]) []else(m<=(1000000:Nat)/\fX fun i=>[.view (ln i) 2 fun j=>[.I (f i j),.I (g i j)]])/\bif lgB th m (vL fun i=>[.view (ln i) 2 fun j=>[.I (f i j),.I (g i j)]])then K (.tup [.N,.I 6]) []else(True/\True)/\dE (HN0 sh th nd tr m ln f g wf) (fun x=>Hint.ok (HN0 sh th nd tr m ln f g wf) x/\rE none (Hint.mu (HN0 sh th nd tr m ln f g wf) x)) (HP th m ln f g 0) [cE' [.I sh,.I th,.I nd,.I tr],cE' [.I th,.I nd],cE' [.I sh,.I th,.I nd,.I tr,.N,.ptr 3 0,.raw w2u,.I 0],nP]/\(∀(x:Hint.X (HN0 sh th nd tr m ln f g wf)),wN sh th m ln f g 0->bif ilt 0 th then bif ilt 0 (↑m:Int)then((0:Int)<=(0:Int)/\(0:Int)<(↑m:Int))/\((ln (Int.toNat 0)<=(1000000:Nat)/\AT fun j=>[.I (f (Int.toNat 0) j),.I (g (Int.toNat 0) j)])/\True)/\bif !ieq (ofC sh (ln (Int.toNat 0)) (rK fun j=>[.I (f (Int.toNat 0) j),.I (g (Int.toNat 0) j)]) (rY fun j=>[.I (f (Int.toNat 0) j),.I (g (Int.toNat 0) j)])) 0 then K (.tup [.N,.I (ofC sh (ln (Int.toNat 0)) (rK fun j=>[.I (f (Int.toNat 0) j),.I (g (Int.toNat 0) j)]) (rY fun j=>[.I (f (Int.toNat 0) j),.I (g (Int.toNat 0) j)]))]) []else(lE' (ofR sh (ln (Int.toNat 0)) (rK fun j=>[.I (f (Int.toNat 0) j),.I (g (Int.toNat 0) j)]) (rY fun j=>[.I (f (Int.toNat 0) j),.I (g (Int.toNat 0) j)]))/\True)/\(1:Nat)<=(4294967296:Nat)/\dE (HNk 1 sh th nd tr m ln f g wf) (fun x_1=>Hint.ok (HNk 1 sh th nd tr m ln f g wf) x_1/\rE (some (Hint.mu (HN0 sh th nd tr m ln f g wf) x)) (Hint.mu (HNk 1 sh th nd tr m ln f g wf) x_1)) (HP th m ln f g (W (0+1))) [cE' [.I sh,.I th,.I nd,.I tr],cE' [.I th,.I nd],cE' [.I sh,.I th,.I nd,.I tr,.N,.ptr 3 0,.slice 4 0 1 1,.I 0],nP,cE' [.ptr 5 0],some (.abs (.worker (nwF th nd 0 (ofR sh (ln (Int.toNat 0)) (rK fun j=>[.I (f (Int.toNat 0) j),.I (g (Int.toNat 0) j)]) (rY fun j=>[.I (f (Int.toNat 0) j),.I (g (Int.toNat 0) j)])))) [])]else(True/\True)/\(1:Nat)<=(4294967296:Nat)/\dE (HNk 1 sh th nd tr m ln f g wf) (fun x_1=>Hint.ok (HNk 1 sh th nd tr m ln f g wf) x_1/\rE (some (Hint.mu (HN0 sh th nd tr m ln f g wf) x)) (Hint.mu (HNk 1 sh th nd tr m ln f g wf) x_1)) (HP th m ln f g (W (0+1))) [cE' [.I sh,.I th,.I nd,.I tr],cE' [.I th,.I nd],cE' [.I sh,.I th,.I nd,.I tr,.N,.ptr 3 0,.slice 4 0 1 1,.I 0],nP,cE' [.ptr 5 0],some (.abs (.worker (nwF th nd 0 [])) [])]else True/\bif !eQ th nd then K (.tup [.ptr 0 0,.I 1]) [cE' [.I sh,.I th,.I nd,.I tr,.N,.ptr 1 0,.raw w2u,.I 0],nP]else(w2r nd th)/\bif ilt (2*nd+5*th+6) (↑0:Int)then K (.tup [.ptr 0 0,.I 6]) [cE' [.I sh,.I th,.I nd,.I tr,.N,.ptr 1 0,.raw w2u,.I 0],nP]else((w2r nd th)/\True)/\(w2s nd th)/\K (.tup [.ptr 0 0,.I 0]) [cE' [.I sh,.I th,.I nd,.I tr,.ptr 1 0,.ptr 3 0,.raw w2u,.I 0],w2t nd th,some (.ints (some .u64) (List.replicate (Int.toNat (2*nd+5*th+6)) 0)),nP])/\(∀(x:Hint.X (HNk 1 sh th nd tr m ln f g wf)),DO 1 sh th nd tr m ln f g wf K)/\(∀(x:Hint.X (HNk 2 sh th nd tr m ln f g wf)),DO 2 sh th nd tr m ln f g wf K)/\(∀(x:Hint.X (HNk 3 sh th nd tr m ln f g wf)),DO 3 sh th nd tr m ln f g wf K)/\(∀(x:Hint.X (HNk 4 sh th nd tr m ln f g wf)),DO 4 sh th nd tr m ln f g wf K)/\(∀(x:Hint.X (HNk 5 sh th nd tr m ln f g wf)),DO 5 sh th nd tr m ln f g wf K)/\(∀(x:Hint.X (HNk 6 sh th nd tr m ln f g wf)),DO 6 sh th nd tr m ln f g wf K)/\(∀(x:Hint.X (HNk 7 sh th nd tr m ln f g wf)),DO 7 sh th nd tr m ln f g wf K)/\(∀(x:Hint.X (HNk 8 sh th nd tr m ln f g wf)),wN sh th m ln f g 8->bif ilt 8 th then bif ilt 8 (↑m:Int)then((0:Int)<=(8:Int)/\(8:Int)<(↑m:Int))/\((ln (Int.toNat 8)<=(1000000:Nat)/\AT fun j=>[.I (f (Int.toNat 8) j),.I (g (Int.toNat 8) j)])/\True)/\bif !ieq (ofC sh (ln (Int.toNat 8)) (rK fun j=>[.I (f (Int.toNat 8) j),.I (g (Int.toNat 8) j)]) (rY fun j=>[.I (f (Int.toNat 8) j),.I (g (Int.toNat 8) j)])) 0 then K (.tup [.N,.I (ofC sh (ln (Int.toNat 8)) (rK fun j=>[.I (f (Int.toNat 8) j),.I (g (Int.toNat 8) j)]) (rY fun j=>[.I (f (Int.toNat 8) j),.I (g (Int.toNat 8) j)]))]) []else(lE' (ofR sh (ln (Int.toNat 8)) (rK fun j=>[.I (f (Int.toNat 8) j),.I (g (Int.toNat 8) j)]) (rY fun j=>[.I (f (Int.toNat 8) j),.I (g (Int.toNat 8) j)]))/\True)/\8+(1:Nat)<=(4294967296:Nat)/\False else(True/\True)/\8+(1:Nat)<=(4294967296:Nat)/\False else True/\bif !eQ th nd then K (.tup [.ptr 0 0,.I 1]) (w2q nd sh th tr wf)else(w2r nd th)/\bif ilt (2*nd+5*th+6) (↑0:Int)then K (.tup [.ptr 0 0,.I 6]) (w2q nd sh th tr wf)else((w2r nd th)/\True)/\(w2s nd th)/\K (.tup [.ptr 0 0,.I 0]) [cE' [.I sh,.I th,.I nd,.I tr,.ptr 1 0,.ptr 3 0,.slice 4 0 8 1,.I 0],w2t nd th,some (.ints (some .u64) (List.replicate (Int.toNat (2*nd+5*th+6)) 0)),nP,cE' [.ptr 5 0,.ptr 6 0,.ptr 7 0,.ptr 8 0,.ptr 9 0,.ptr 10 0,.ptr 11 0,.ptr 12 0],some (.abs (.worker (wf 0)) []),some (.abs (.worker (wf 1)) []),some (.abs (.worker (wf 2)) []),some (.abs (.worker (wf 3)) []),some (.abs (.worker (wf 4)) []),some (.abs (.worker (wf 5)) []),some (.abs (.worker (wf 6)) []),some (.abs (.worker (wf 7)) [])])/\True
theorem SZ(sh th nd tr:Int)(m:Nat)(ln:Nat->Nat)(f g:Nat->Nat->Int)(wf:Nat->WKS)(K:AVal->aC Ob->Prop)(h:aE7 sh th nd tr m ln f g wf K):cT' 25 [.agg [.I sh,.I th,.I nd,.I tr],.view m 1 (fun i=>[.view (ln i) 2 (fun j=>[.I (f i j),.I (g i j)])])] [] K:=by
 refine aLw (aD (E:=EU1) Tryz.checked.mixed (L:=(fun _ _=>some (.cases [HN0 sh th nd tr m ln f g wf,HNk 1 sh th nd tr m ln f g wf,HNk 2 sh th nd tr m ln f g wf,HNk 3 sh th nd tr m ln f g wf,HNk 4 sh th nd tr m ln f g wf,HNk 5 sh th nd tr m ln f g wf,HNk 6 sh th nd tr m ln f g wf,HNk 7 sh th nd tr m ln f g wf,HNk 8 sh th nd tr m ln f g wf]))) (n:=10) (aJ (by kernel_rfl) h))
theorem xK{t n:Int} :eQ t n=true↔1<=t/\t<=8/\1<=n/\n<=200:=by
 unfold eQ;simp only [cD,Bool.and_eq_true,dT',and_assoc]
theorem aCY{sh th nd tr:Int}(h:ieq (wrE sh th nd tr) 0=true):1<=sh/\sh<=4/\(1<=th/\th<=8/\1<=nd/\nd<=200)/\0<=tr/\tr<=50:=by
 unfold wrE at h;cases h1:ilt sh 1<;>rw [h1]at h<;>simp only [cond_true,cond_false]at h
 case true=>exact absurd h dS
 cases h2:ilt 4 sh<;>rw [h2]at h<;>simp only [cond_true,cond_false]at h
 case true=>exact absurd h dS
 cases h3:eQ th nd<;>rw [h3]at h<;>simp only [Bool.not_false,Bool.not_true,cond_true,cond_false]at h
 case false=>exact absurd h dS
 cases h4:ilt tr 0<;>rw [h4]at h<;>simp only [cond_true,cond_false]at h
 case true=>exact absurd h dS
 cases h5:ilt 50 tr<;>rw [h5]at h<;>simp only [cond_true,cond_false]at h
 case true=>exact absurd h dS
 rw [bC,dF']at h1 h2 h4 h5;exact⟨by omega,by omega,xK.1 h3,by omega,by omega⟩
def aA1(t n:Int):MS:= {t:=t,n:=n,xs:=List.replicate (2*n+5*t+6).toNat 0,c:=0,k:=0,a:=0,o:=0,w:=0,ok:=false}
def iH(sh th nd:Int)(m:Nat)(ln:Nat->Nat)(f g:Nat->Nat->Int)(j:Nat):WKS:=nwF th nd (j:Int) (bif ilt (j:Int) (m:Int)then ofR sh (ln j) (f j) (g j)else [])
def oA(sh th nd tr:Int)(m:Nat)(ln:Nat->Nat)(f g:Nat->Nat->Int):EGS:=⟨sh,th,nd,tr,aA1 th nd,⟨[],[],0,0,0,0,0,0,0,0⟩,(List.range th.toNat).map (iH sh th nd m ln f g),0⟩
def gnC(sh th nd tr:Int)(m:Nat)(ln:Nat->Nat)(f g:Nat->Nat->Int):Int:=bif !ieq (wrE sh th nd tr) 0 then wrE sh th nd tr else bif lgB th m ln then 6 else bif (List.range m).all (fun j=>fE sh (ln j) (f j) (g j))then 0 else 1
abbrev rU(sh th nd tr:Int)(m:Nat)(ln:Nat->Nat)(f g:Nat->Nat->Int):Out Ob:=.ite (ieq (gnC sh th nd tr m ln f g) 0) (.ret (.tup [.ptr 0 0,.I 0]) (egH (oA sh th nd tr m ln f g))) (.ret (.tup [.raw (.pointer none),.I (gnC sh th nd tr m ln f g)]) [])
theorem aCE{sh:Int}{m:Nat}{f g:Nat->Int}(h:ieq (ofC sh m f g) 0=false):fE sh m f g=false/\ofC sh m f g=1:=by
 unfold ofC at h⊢;cases e:fE sh m f g with
 | true=>rw [e]at h;exact absurd h dS
 | false=>exact⟨rfl,rfl⟩
theorem aCD{sh:Int}{m:Nat}{f g:Nat->Int}(h:ieq (ofC sh m f g) 0=true):fE sh m f g=true:=by
 unfold ofC at h;cases e:fE sh m f g with
 | true=>rfl
 | false=>rw [e]at h;exact absurd h dS
theorem AK(sh th nd tr:Int)(m:Nat)(ln:Nat->Nat)(f g:Nat->Nat->Int)(K:AVal->aC Ob->Prop)(hK:(rU sh th nd tr m ln f g).run K)(c:Int)(hc:gnC sh th nd tr m ln f g=c)(h0:ieq c 0=false):K (.tup [.raw (.pointer none),.I c]) []:=by
 have hK:(Out.ite (ieq (gnC sh th nd tr m ln f g) 0) _ _).run K:=hK;rw [hc,h0]at hK;exact hK
theorem JS(sh th nd tr:Int)(m:Nat)(ln:Nat->Nat)(f g:Nat->Nat->Int)(K:AVal->aC Ob->Prop)(hK:(rU sh th nd tr m ln f g).run K)(hc:gnC sh th nd tr m ln f g=0):K (.tup [.ptr 0 0,.I 0]) (egH (oA sh th nd tr m ln f g)):=by
 have hK:(Out.ite (ieq (gnC sh th nd tr m ln f g) 0) _ _).run K:=hK;rw [hc]at hK;exact hK
abbrev aE6(sh th nd tr:Int)(W:List WKS):EGS:=⟨sh,th,nd,tr,aA1 th nd,⟨[],[],0,0,0,0,0,0,0,0⟩,W,0⟩
abbrev aJW(sh th nd tr:Int)(k:Nat)(ps:List AVal)(ws:aC Ob):aC Ob:=[cE' [.I sh,.I th,.I nd,.I tr,.ptr 1 0,.ptr 3 0,.slice 4 0 k 1,.I 0],cE' [.I th,.I nd,.slice 2 0 (Int.toNat (2*nd+5*th+6)) 1,.I 0,.I 0,.I 0,.int .u64 0,.int .u64 0,.bool false],some (.ints (some .u64) (List.replicate (Int.toNat (2*nd+5*th+6)) 0)),nP,some (.cells ps)]++ws
abbrev aIa(sh th nd tr:Int)(W:List WKS):aC Ob:=[cE' [.I sh,.I th,.I nd,.I tr,.ptr 1 0,.ptr 3 0,.slice 4 0 W.length 1,.I 0],cE' [.I th,.I nd,.slice 2 0 (Int.toNat (2*nd+5*th+6)) 1,.I 0,.I 0,.I 0,.int .u64 0,.int .u64 0,.bool false],some (.ints (some .u64) (List.replicate (Int.toNat (2*nd+5*th+6)) 0)),nP,some (.abs (.wrow W) [])]
theorem aIc{sh th nd tr:Int}(W:List WKS){g:aC Ob}(h:g=aP (aIa sh th nd tr W) 4 0 (eI wkE W) [])(hb:obOk 0 (eI wkE W)=true):aF (obI tbl) 0 (.tup [.ptr 0 0,.I 0]) g (.tup [.ptr 0 0,.I 0]) (egH (aE6 sh th nd tr W)):=by
 refine(aF.pack (aIa sh th nd tr W) (.wrow W) 4 0 (eI wkE W) [] h rfl rfl (by rw [hb];rfl)).trans ?_
 refine aF.trans (aLE rfl ?_) (kA 0 (Nat.zero_le _) _ rfl (aE6 sh th nd tr W))
 first | (simp only [egG,aA1,List.length_replicate];done) | (simp only [egG,aA1,List.length_replicate]<;>rfl)
theorem aIb(sh nd tr:Int)(wf:Nat->WKS){k:Nat}(h1:1<=k)(h8:k<=8):aF (obI tbl) 0 (.tup [.ptr 0 0,.I 0]) (aJW sh (k:Int) nd tr k (ptF 5 k) (WP wf k)) (.tup [.ptr 0 0,.I 0]) (egH (aE6 sh (k:Int) nd tr ((List.range k).map wf))):=by
 have:k=1\/k=2\/k=3\/k=4\/k=5\/k=6\/k=7\/k=8:=by omega
 rcases this with rfl | rfl | rfl | rfl | rfl | rfl | rfl | rfl<;>exact aIc _ (by kernel_rfl) (by kernel_rfl)
theorem mP(wf:Nat->WKS)(k:Nat):WP wf (k+1)=WP wf k++ [some (.abs (.worker (wf k)) [])]:=by
 unfold WP;rw [List.range_succ,List.map_append];rfl
theorem aId(sh th nd tr:Int)(m:Nat)(ln:Nat->Nat)(f g:Nat->Nat->Int)(K:AVal->aC Ob->Prop)(hm:m<=1000000)(hK:(rU sh th nd tr m ln f g).run K):aE7 sh th nd tr m ln f g (iH sh th nd m ln f g) (cS (obI tbl) 0 K):=by
 refine⟨trivial,aK (fun e0=>?_) fun e0=>⟨⟨hm,⟨rfl⟩⟩,aK (fun e1=>?_) fun e1=>?_⟩⟩
 ·have hc:gnC sh th nd tr m ln f g=wrE sh th nd tr:=by unfold gnC;rw [e0];rfl
  have ag:ieq (wrE sh th nd tr) 0=false:=by simpa using e0
  exact⟨⟨_,_,aLM _ _ _,AK sh th nd tr m ln f g K hK _ hc ag⟩⟩
 ·have hc:gnC sh th nd tr m ln f g=6:=by
   have e1:lgB th m ln=true:=e1;unfold gnC;rw [e0,e1];rfl
  exact⟨⟨_,_,aLM _ _ _,AK sh th nd tr m ln f g K hK _ hc rfl⟩⟩
 have ag:ieq (wrE sh th nd tr) 0=true:=by simpa using e0
 have e1:lgB th m ln=false:=e1;obtain⟨ar,aq,⟨am,al,ap,ao⟩,av,au⟩:=aCY ag;obtain⟨ak,ax⟩:=TN.1 e1;have aj:eQ th nd=true:=xK.2 ⟨am,al,ap,ao⟩
 have ae: ∀j:Nat,j<m->fE sh (ln j) (f j) (g j)=false->gnC sh th nd tr m ln f g=1:=by
  intro j hj hf
  have:(List.range m).all (fun j=>fE sh (ln j) (f j) (g j))=false:=by
   cases h:(List.range m).all (fun j=>fE sh (ln j) (f j) (g j))with
   | false=>rfl
   | true=>
     have:=List.all_eq_true.1 h j (List.mem_range.2 hj);rw [hf]at this;cases this
  unfold gnC;rw [e0,e1,this];rfl
 have ac:(∀j:Nat,j<m->fE sh (ln j) (f j) (g j)=true)->gnC sh th nd tr m ln f g=0:=by
  intro h;have:(List.range m).all (fun j=>fE sh (ln j) (f j) (g j))=true:=List.all_eq_true.2 fun j hj=>h j (List.mem_range.1 hj);unfold gnC;rw [e0,e1,this];rfl
 have ah: ∀u:Nat,ilt (u:Int) (m:Int)=true->iH sh th nd m ln f g u=nwF th nd (u:Int) (ofR sh (ln u) (f u) (g u)):=fun u h=>by unfold iH;rw [h];rfl
 have ai: ∀u:Nat,ilt (u:Int) (m:Int)=false->iH sh th nd m ln f g u=nwF th nd (u:Int) []:=fun u h=>by unfold iH;rw [h];rfl
 have bd: ∀k:Nat,1<=k->k<=7->DO k sh th nd tr m ln f g (iH sh th nd m ln f g) (cS (obI tbl) 0 K):=by
  rintro k h1 h7 ⟨hu,hg⟩;refine aK (fun e=>aK (fun e2=>?_) (fun e2=>?_)) (fun e=>?_)
  ·have e2':=e2;rw [bC,dT']at e e2;have aa:k<m:=by omega
   refine⟨⟨by omega,by omega⟩,⟨⟨by have:=ak k aa;show ln k<=1000000;omega,⟨rfl⟩⟩,trivial⟩,aK (fun e3=>?_) (fun e3=>?_)⟩
   ·have e3:(!ieq (ofC sh (ln k) (f k) (g k)) 0)=true:=e3;obtain⟨q1,q2⟩:=aCE (by simpa using e3)
    have:=AK sh th nd tr m ln f g K hK 1 (ae k aa q1) rfl;rw [<-q2]at this;exact⟨⟨_,_,aLM _ _ _,this⟩⟩
   ·have e3:(!ieq (ofC sh (ln k) (f k) (g k)) 0)=false:=e3;have q:=aCD (sh:=sh) (m:=ln k) (f:=f k) (g:=g k) (by simpa using e3)
    have hw:=ah k e2';have hW:W ((k:Int)+1)=((k+1:Nat):Int):=(cG ⟨by omega,by omega⟩).trans omz
    refine⟨⟨rfl,trivial⟩,by omega,aR (H:=HNk (k+1) sh th nd tr m ln f g (iH sh th nd m ln f g)) () (by first | (simp only [HNk,mP,hw,hW];done) | (simp only [HNk,mP,hw,hW]<;>rfl)) ⟨⟨by omega,fun j h1 h2=>by
     by_cases hj:j=k
     ·subst hj;exact q
     ·exact hg j omz h2⟩,by show 9 - (k+1)<9 - k;omega⟩⟩
  ·have hw:=ai k e2;rw [bC,dT']at e;rw [bC,dF']at e2;have hW:W ((k:Int)+1)=((k+1:Nat):Int):=(cG ⟨by omega,by omega⟩).trans omz
   refine⟨⟨trivial,trivial⟩,by omega,aR (H:=HNk (k+1) sh th nd tr m ln f g (iH sh th nd m ln f g)) () (by first | (simp only [HNk,mP,hw,hW];done) | (simp only [HNk,mP,hw,hW]<;>rfl)) ⟨⟨by omega,fun j h1 h2=>hg j omz h2⟩,by show 9 - (k+1)<9 - k;omega⟩⟩
  ·rw [bC,dF']at e;have af:th=k:=by omega
   subst af;rw [aj];refine⟨trivial,aK (fun e3=>by cases e3) (fun _=>⟨⟨⟨by omega,by omega⟩,by omega,by omega⟩,aK (fun e4=>?_) (fun _=>⟨⟨⟨⟨by omega,by omega⟩,by omega,by omega⟩,trivial⟩,⟨by omega,rfl,by omega⟩,?_⟩)⟩)⟩
   ·rw [bC,dT']at e4;have e4:(2*nd+5*(k:Int)+6:Int)<0:=e4;omega
   ·have:=JS sh k nd tr m ln f g K hK (ac fun j hj=>hg j omz hj);exact⟨⟨_,_,aIb sh nd tr (iH sh k nd m ln f g) h1 omz,this⟩⟩
 refine⟨⟨trivial,trivial⟩,aR (H:=HN0 sh th nd tr m ln f g (iH sh th nd m ln f g)) () rfl ⟨⟨by omega,fun j h1 _=>by omega⟩,trivial⟩,?_,?_,?_,?_,?_,?_,?_,?_,?_,trivial⟩
 ·rintro x ⟨hu,hg⟩;refine aK (fun e=>aK (fun e2=>?_) (fun e2=>?_)) (fun e=>?_)
  ·have e2':=e2;rw [bC,dT']at e e2;have aa:0<m:=by omega
   refine⟨⟨by omega,by omega⟩,⟨⟨by have:=ak 0 aa;show ln 0<=1000000;omega,⟨rfl⟩⟩,trivial⟩,aK (fun e3=>?_) (fun e3=>?_)⟩
   ·have e3:(!ieq (ofC sh (ln 0) (f 0) (g 0)) 0)=true:=e3;obtain⟨q1,q2⟩:=aCE (by simpa using e3)
    have:=AK sh th nd tr m ln f g K hK 1 (ae 0 aa q1) rfl;rw [<-q2]at this;exact⟨⟨_,_,aLM _ _ _,this⟩⟩
   ·have e3:(!ieq (ofC sh (ln 0) (f 0) (g 0)) 0)=false:=e3;have q:=aCD (sh:=sh) (m:=ln 0) (f:=f 0) (g:=g 0) (by simpa using e3)
    have hw:=ah 0 e2'
    refine⟨⟨rfl,trivial⟩,by decide,aR (H:=HNk 1 sh th nd tr m ln f g (iH sh th nd m ln f g)) () (by simp only [HNk,mP,hw]<;>rfl) ⟨⟨by omega,fun j h1 h2=>by
     by_cases hj:j=0
     ·subst hj;exact q
     ·exact hg j omz h2⟩,by show(8:Nat)<9;decide⟩⟩
  ·have hw:=ai 0 e2;rw [bC,dT']at e;rw [bC,dF']at e2;refine⟨⟨trivial,trivial⟩,by decide,aR (H:=HNk 1 sh th nd tr m ln f g (iH sh th nd m ln f g)) () (by simp only [HNk,mP,hw]<;>rfl) ⟨⟨by omega,fun j h1 h2=>hg j omz h2⟩,by show(8:Nat)<9;decide⟩⟩
  ·rw [bC,dF']at e;omega
 ·exact fun x=>bd 1 dS dS
 ·exact fun x=>bd 2 dS dS
 ·exact fun x=>bd 3 dS dS
 ·exact fun x=>bd 4 dS dS
 ·exact fun x=>bd 5 dS dS
 ·exact fun x=>bd 6 dS dS
 ·exact fun x=>bd 7 dS dS
 ·rintro x ⟨hu,hg⟩;refine aK (fun e=>?_) (fun e=>?_)
  ·rw [bC,dT']at e;omega
  ·rw [bC,dF']at e;have af:th=8:=by omega
   subst af;rw [aj];refine⟨trivial,aK (fun e3=>by cases e3) (fun _=>⟨⟨⟨by omega,by omega⟩,by omega,by omega⟩,aK (fun e4=>?_) (fun _=>⟨⟨⟨⟨by omega,by omega⟩,by omega,by omega⟩,trivial⟩,⟨by omega,rfl,by omega⟩,?_⟩)⟩)⟩
   ·rw [bC,dT']at e4;have e4:(2*nd+5*8+6:Int)<0:=e4;omega
   ·have:=JS sh 8 nd tr m ln f g K hK (ac fun j hj=>hg j omz hj);exact⟨⟨_,_,aIb sh nd tr (iH sh 8 nd m ln f g) (k:=8) dS dS,this⟩⟩
def gnS:aI Ob:=fun args h=>match args,h with
 | [.agg [.int .i64 sh,.int .i64 th,.int .i64 nd,.int .i64 tr],.view m 1 vr],[]=>some (.pre (m<=1000000/\fX vr) (rU sh th nd tr m (vL vr) (vK vr) (vY vr)))
 | _,_=>none
theorem JT:sT' 25 gnS:=by
 intro args h o ho K hK;unfold gnS at ho;split at ho
 case h_2=>cases ho
 rename_i sh th nd tr m vr;cases ho;obtain⟨⟨hm,⟨hr⟩⟩,hK⟩:=hK;rw [hr];refine aLG ?_;exact SZ sh th nd tr m (vL vr) (vK vr) (vY vr) _ _ (aId sh th nd tr m (vL vr) (vK vr) (vY vr) K hm hK)
noncomputable def EU2:=EU1.addS 25 gnS JT
theorem aQ.lend{h:aC Ob}{l i:Nat}{ws:List WKS}(hl:aL h l=some (.abs (.wrow ws) []))(hi:i<ws.length):aQ (obI tbl) h (h.set l (some (.abs (.whole ws i) [h.length]))++ [some (.abs (.worker (aY ws i)) [])]):=by
 intro V hR w h1 hf;obtain⟨V',x,b,k,cs,T,a1,a2,a3,_⟩:=h1.lendW RKW (ws:=ws) hf hl hi;exact⟨V',a1,by simpa using a2,by simp,a3⟩
theorem cY{ws:List WKS}{i:Nat}(hi:i<ws.length):dQ ws i (aY ws i)=ws:=by
 unfold dQ aY;apply List.ext_getElem
 ·simp
 ·intro j h1 h2;rw [List.getElem_set];split
  ·rename_i e;subst e;rw [gD',gE' hi];rfl
  ·rfl
abbrev w2v(x:EGS):Option (aG Ob):=cE' [.I x.sh,.I x.th,.I x.nd,.I x.tr,.ptr 1 0,.ptr 3 0,.slice 4 0 x.ws.length 1,.I x.k]
abbrev w2w(w:WKS):List AVal:=[.ptr 6 0,.tslice 7 0 w.tk.length 3,.I w.en,.raw (.pointer none),.slice 8 0 w.tl.length 1,.slice 9 0 w.sl.length 1]
abbrev eg0(x:EGS)(i:Nat)(w:WKS):aC Ob:=[w2v x,bI 2 x.s,bJ x.s,some (.abs (.hist x.h) []),some (.abs (.whole x.ws i) [5]),cE' (w2w w),some (.abs (.store w.t w.n w.st) []),some (.tab [some .i64,some .i64,some .i64] w.tk),iI' w.tl,iI' w.sl]
abbrev aHN(x:EGS)(i:Nat)(w:WKS):aC Ob:=[w2v x,bI 2 x.s,bJ x.s,some (.abs (.hist x.h) []),some (.abs (.whole x.ws i) [5]),cE' (w2w w),lJ 10 w.t w.n w.st,some (.tab [some .i64,some .i64,some .i64] w.tk),iI' w.tl,iI' w.sl,pJ w.st]
theorem wF{x:EGS}{i:Nat}(hi:i<x.ws.length)(hb:(aY x.ws i).b =false):aQ (obI tbl) (egH x) (eg0 x i (aY x.ws i)):=by
 refine(aQ.unpack (.engine x) 0 0 (egG x) [] rfl rfl rfl rfl).trans ((aQ.lend (l:=4) (i:=i) (ws:=x.ws) rfl hi).trans ((aQ.unpack (.worker (aY x.ws i)) 5 0 (nK (aY x.ws i)) [] rfl (congrArg (Prod.mk 0) (qB hb)) rfl rfl).trans (aMs ?_)))
 kernel_rfl
theorem L8{x:EGS}{i:Nat}(hi:i<x.ws.length)(hb:(aY x.ws i).b =false):aQ (obI tbl) (egH x) (aHN x i (aY x.ws i)):=by
 refine(wF hi hb).trans ((aQ.unpack (.store (aY x.ws i).t (aY x.ws i).n (aY x.ws i).st) 6 0 (dP (aY x.ws i).t (aY x.ws i).n (aY x.ws i).st) [] rfl rfl rfl rfl).trans (aMs ?_))
 kernel_rfl
abbrev w2x(w:WKS):List AVal:=[.ptr 6 0,.tslice 7 0 w.tk.length 3,.I w.en,.ptr 8 0,.slice 9 0 w.tl.length 1,.slice 10 0 w.sl.length 1]
abbrev eg1(x:EGS)(i:Nat)(w:WKS):aC Ob:=[w2v x,bI 2 x.s,bJ x.s,some (.abs (.hist x.h) []),some (.abs (.whole x.ws i) [5]),cE' (w2x w),some (.abs (.store w.t w.n w.st) []),some (.tab [some .i64,some .i64,some .i64] w.tk),some (.abs (.doer w.t w.n w.d) [6]),iI' w.tl,iI' w.sl]
abbrev aHO(x:EGS)(i:Nat)(w:WKS):aC Ob:=[w2v x,bI 2 x.s,bJ x.s,some (.abs (.hist x.h) []),some (.abs (.whole x.ws i) [5]),cE' (w2x w),lJ 11 w.t w.n w.st,some (.tab [some .i64,some .i64,some .i64] w.tk),some (.abs (.doer w.t w.n w.d) [6]),iI' w.tl,iI' w.sl,pJ w.st]
theorem wG{x:EGS}{i:Nat}(hi:i<x.ws.length)(hb:(aY x.ws i).b =true):aQ (obI tbl) (egH x) (eg1 x i (aY x.ws i)):=by
 refine(aQ.unpack (.engine x) 0 0 (egG x) [] rfl rfl rfl rfl).trans ((aQ.lend (l:=4) (i:=i) (ws:=x.ws) rfl hi).trans ((aQ.unpack (.worker (aY x.ws i)) 5 0 (qW (aY x.ws i)) [] rfl (congrArg (Prod.mk 0) (xS hb)) rfl rfl).trans (aMs ?_)))
 kernel_rfl
theorem L9{x:EGS}{i:Nat}(hi:i<x.ws.length)(hb:(aY x.ws i).b =true):aQ (obI tbl) (egH x) (aHO x i (aY x.ws i)):=by
 refine(wG hi hb).trans ((aQ.unpack (.store (aY x.ws i).t (aY x.ws i).n (aY x.ws i).st) 6 0 (dP (aY x.ws i).t (aY x.ws i).n (aY x.ws i).st) [] rfl rfl rfl rfl).trans (aMs ?_))
 kernel_rfl
abbrev w2y(x:EGS):Option (aG Ob):=cE' [.I x.sh,.I x.th,.I x.nd,.I x.tr,.ptr 1 0,.ptr 3 0,.slice 4 0 x.ws.length 1,.I x.k]
abbrev aHJ(x:EGS)(i:Nat)(w:WKS)(xs:List Int):aC Ob:=[w2y x,bI 2 x.s,bJ x.s,some (.abs (.hist x.h) []),some (.abs (.whole x.ws i) [5]),cE' [.ptr 6 0,.tslice 7 0 w.tk.length 3,.I w.en,.raw (.pointer none),.slice 8 0 w.tl.length 1,.slice 9 0 w.sl.length 1],some (.abs (.store w.t w.n w.st) []),some (.tab [some .i64,some .i64,some .i64] w.tk),iI' w.tl,iI' w.sl,iI' xs]
abbrev w2z(x:EGS):Option (aG Ob):=cE' [.I x.sh,.I x.th,.I x.nd,.I x.tr,.ptr 1 0,.ptr 3 0,.slice 4 0 x.ws.length 1,.I x.k]
theorem L6(x:EGS)(i:Nat)(w:WKS)(xs:List Int)(hi:i<x.ws.length)(hw:dQ x.ws i w=x.ws)(hb:w.b=false):aF (obI tbl) 1 (.slice 10 0 xs.length 1) (aHJ x i w xs) (.slice 1 0 xs.length 1) [some (.abs (.engine x) []),iI' xs]:=by
 exact((aF.move 6 (of_decide_eq_true rfl)).trans ((aF.move 7 (of_decide_eq_true rfl)).trans ((aF.move 8 (of_decide_eq_true rfl)).trans ((aF.move 9 (of_decide_eq_true rfl)).trans ((aLE (v2:=.slice 10 0 xs.length 1) (g2:=aP [w2z x,bI 2 x.s,bJ x.s,some (.abs (.hist x.h) []),some (.abs (.whole x.ws i) [5]),some (.abs (.worker w) []),none,none,none,none,iI' xs] 5 0 (nK w) []) (by kernel_rfl) (by kernel_rfl)).trans ((aF.pack [w2z x,bI 2 x.s,bJ x.s,some (.abs (.hist x.h) []),some (.abs (.whole x.ws i) [5]),some (.abs (.worker w) []),none,none,none,none,iI' xs] (.worker w) 5 0 (nK w) [] rfl rfl (congrArg (Prod.mk 0) (qB hb)) (by kernel_rfl)).trans ((aF.back (l:=4) (k:=5) (i:=i) (ws:=x.ws) (w:=w) rfl rfl dS hi).trans ((aLE (v2:=.slice 10 0 xs.length 1) (g2:=[w2z x,bI 2 x.s,bJ x.s,some (.abs (.hist x.h) []),some (.abs (.wrow x.ws) []),none,none,none,none,none,iI' xs]) rfl (by rw [hw];rfl)).trans ((aF.move 1 (of_decide_eq_true rfl)).trans ((aF.move 2 (of_decide_eq_true rfl)).trans ((aF.move 3 (of_decide_eq_true rfl)).trans ((aF.move 4 (of_decide_eq_true rfl)).trans ((aLE (v2:=.slice 10 0 xs.length 1) (g2:=aP [some (.abs (.engine x) []),none,none,none,none,none,none,none,none,none,iI' xs] 0 0 (egG x) []) (by kernel_rfl) (by kernel_rfl)).trans ((aF.pack [some (.abs (.engine x) []),none,none,none,none,none,none,none,none,none,iI' xs] (.engine x) 0 0 (egG x) [] rfl rfl rfl (by kernel_rfl)).trans (aF.pick [0,10] rfl)))))))))))))))
abbrev aHL(x:EGS)(i:Nat)(w:WKS)(xs:List Int):aC Ob:=[w2y x,bI 2 x.s,bJ x.s,some (.abs (.hist x.h) []),some (.abs (.whole x.ws i) [5]),cE' [.ptr 6 0,.tslice 8 0 w.tk.length 3,.I w.en,.raw (.pointer none),.slice 9 0 w.tl.length 1,.slice 10 0 w.sl.length 1],lJ 7 w.t w.n w.st,pJ w.st,some (.tab [some .i64,some .i64,some .i64] w.tk),iI' w.tl,iI' w.sl,iI' xs]
abbrev w30(w:WKS):List AVal:=[.ptr 6 0,.tslice 8 0 w.tk.length 3,.I w.en,.raw (.pointer none),.slice 9 0 w.tl.length 1,.slice 10 0 w.sl.length 1]
abbrev w31(x:EGS)(xs:List Int):aC Ob:=[some (.abs (.engine x) []),none,none,none,none,none,none,none,none,none,none,iI' xs]
theorem aEg(x:EGS)(i:Nat)(w:WKS)(xs:List Int)(hi:i<x.ws.length)(hw:dQ x.ws i w=x.ws)(hb:w.b=false):aF (obI tbl) 1 (.slice 11 0 xs.length 1) (aHL x i w xs) (.slice 1 0 xs.length 1) [some (.abs (.engine x) []),iI' xs]:=by
 exact((aF.move 7 (of_decide_eq_true rfl)).trans ((aLE (v2:=.slice 11 0 xs.length 1) (g2:=aP [w2z x,bI 2 x.s,bJ x.s,some (.abs (.hist x.h) []),some (.abs (.whole x.ws i) [5]),cE' (w30 w),some (.abs (.store w.t w.n w.st) []),none,some (.tab cK3 w.tk),iI' w.tl,iI' w.sl,iI' xs] 6 0 (dP w.t w.n w.st) []) (by kernel_rfl) (by kernel_rfl)).trans ((aF.pack [w2z x,bI 2 x.s,bJ x.s,some (.abs (.hist x.h) []),some (.abs (.whole x.ws i) [5]),cE' (w30 w),some (.abs (.store w.t w.n w.st) []),none,some (.tab cK3 w.tk),iI' w.tl,iI' w.sl,iI' xs] (.store w.t w.n w.st) 6 0 (dP w.t w.n w.st) [] rfl rfl rfl (by kernel_rfl)).trans ((aF.move 6 (of_decide_eq_true rfl)).trans ((aF.move 8 (of_decide_eq_true rfl)).trans ((aF.move 9 (of_decide_eq_true rfl)).trans ((aF.move 10 (of_decide_eq_true rfl)).trans ((aLE (v2:=.slice 11 0 xs.length 1) (g2:=aP [w2z x,bI 2 x.s,bJ x.s,some (.abs (.hist x.h) []),some (.abs (.whole x.ws i) [5]),some (.abs (.worker w) []),none,none,none,none,none,iI' xs] 5 0 (nK w) []) (by kernel_rfl) (by kernel_rfl)).trans ((aF.pack [w2z x,bI 2 x.s,bJ x.s,some (.abs (.hist x.h) []),some (.abs (.whole x.ws i) [5]),some (.abs (.worker w) []),none,none,none,none,none,iI' xs] (.worker w) 5 0 (nK w) [] rfl rfl (congrArg (Prod.mk 0) (qB hb)) (by kernel_rfl)).trans ((aF.back (l:=4) (k:=5) (i:=i) (ws:=x.ws) (w:=w) rfl rfl dS hi).trans ((aLE (v2:=.slice 11 0 xs.length 1) (g2:=[w2z x,bI 2 x.s,bJ x.s,some (.abs (.hist x.h) []),some (.abs (.wrow x.ws) []),none,none,none,none,none,none,iI' xs]) rfl (by rw [hw];rfl)).trans ((aF.move 1 (of_decide_eq_true rfl)).trans ((aF.move 2 (of_decide_eq_true rfl)).trans ((aF.move 3 (of_decide_eq_true rfl)).trans ((aF.move 4 (of_decide_eq_true rfl)).trans ((aLE (v2:=.slice 11 0 xs.length 1) (g2:=aP (w31 x xs) 0 0 (egG x) []) (by kernel_rfl) (by kernel_rfl)).trans ((aF.pack (w31 x xs) (.engine x) 0 0 (egG x) [] rfl rfl rfl (by kernel_rfl)).trans (aF.pick [0,11] rfl))))))))))))))))))
abbrev aHK(x:EGS)(i:Nat)(w:WKS)(xs:List Int):aC Ob:=[w2y x,bI 2 x.s,bJ x.s,some (.abs (.hist x.h) []),some (.abs (.whole x.ws i) [5]),cE' [.ptr 6 0,.tslice 7 0 w.tk.length 3,.I w.en,.ptr 8 0,.slice 9 0 w.tl.length 1,.slice 10 0 w.sl.length 1],some (.abs (.store w.t w.n w.st) []),some (.tab [some .i64,some .i64,some .i64] w.tk),some (.abs (.doer w.t w.n w.d) [6]),iI' w.tl,iI' w.sl,iI' xs]
abbrev w32(x:EGS):Option (aG Ob):=cE' [.I x.sh,.I x.th,.I x.nd,.I x.tr,.ptr 1 0,.ptr 3 0,.slice 4 0 x.ws.length 1,.I x.k]
abbrev w35(x:EGS)(xs:List Int):aC Ob:=[some (.abs (.engine x) []),none,none,none,none,none,none,none,none,none,none,iI' xs]
theorem L7(x:EGS)(i:Nat)(w:WKS)(xs:List Int)(hi:i<x.ws.length)(hw:dQ x.ws i w=x.ws)(hb:w.b=true):aF (obI tbl) 1 (.slice 11 0 xs.length 1) (aHK x i w xs) (.slice 1 0 xs.length 1) [some (.abs (.engine x) []),iI' xs]:=by
 exact((aF.move 6 (of_decide_eq_true rfl)).trans ((aF.move 7 (of_decide_eq_true rfl)).trans ((aF.move 8 (of_decide_eq_true rfl)).trans ((aF.move 9 (of_decide_eq_true rfl)).trans ((aF.move 10 (of_decide_eq_true rfl)).trans ((aLE (v2:=.slice 11 0 xs.length 1) (g2:=aP [w32 x,bI 2 x.s,bJ x.s,some (.abs (.hist x.h) []),some (.abs (.whole x.ws i) [5]),some (.abs (.worker w) []),none,none,none,none,none,iI' xs] 5 0 (qW w) []) (by kernel_rfl) (by kernel_rfl)).trans ((aF.pack [w32 x,bI 2 x.s,bJ x.s,some (.abs (.hist x.h) []),some (.abs (.whole x.ws i) [5]),some (.abs (.worker w) []),none,none,none,none,none,iI' xs] (.worker w) 5 0 (qW w) [] rfl rfl (congrArg (Prod.mk 0) (xS hb)) (by kernel_rfl)).trans ((aF.back (l:=4) (k:=5) (i:=i) (ws:=x.ws) (w:=w) rfl rfl dS hi).trans ((aLE (v2:=.slice 11 0 xs.length 1) (g2:=[w32 x,bI 2 x.s,bJ x.s,some (.abs (.hist x.h) []),some (.abs (.wrow x.ws) []),none,none,none,none,none,none,iI' xs]) rfl (by rw [hw];rfl)).trans ((aF.move 1 (of_decide_eq_true rfl)).trans ((aF.move 2 (of_decide_eq_true rfl)).trans ((aF.move 3 (of_decide_eq_true rfl)).trans ((aF.move 4 (of_decide_eq_true rfl)).trans ((aLE (v2:=.slice 11 0 xs.length 1) (g2:=aP (w35 x xs) 0 0 (egG x) []) (by kernel_rfl) (by kernel_rfl)).trans ((aF.pack (w35 x xs) (.engine x) 0 0 (egG x) [] rfl rfl rfl (by kernel_rfl)).trans (aF.pick [0,11] rfl))))))))))))))))
abbrev aHM(x:EGS)(i:Nat)(w:WKS)(xs:List Int):aC Ob:=[w2y x,bI 2 x.s,bJ x.s,some (.abs (.hist x.h) []),some (.abs (.whole x.ws i) [5]),cE' [.ptr 6 0,.tslice 8 0 w.tk.length 3,.I w.en,.ptr 9 0,.slice 10 0 w.tl.length 1,.slice 11 0 w.sl.length 1],lJ 7 w.t w.n w.st,pJ w.st,some (.tab [some .i64,some .i64,some .i64] w.tk),some (.abs (.doer w.t w.n w.d) [6]),iI' w.tl,iI' w.sl,iI' xs]
abbrev w33(w:WKS):List AVal:=[.ptr 6 0,.tslice 8 0 w.tk.length 3,.I w.en,.ptr 9 0,.slice 10 0 w.tl.length 1,.slice 11 0 w.sl.length 1]
abbrev w34(x:EGS)(xs:List Int):aC Ob:=[some (.abs (.engine x) []),none,none,none,none,none,none,none,none,none,none,none,iI' xs]
theorem aEh(x:EGS)(i:Nat)(w:WKS)(xs:List Int)(hi:i<x.ws.length)(hw:dQ x.ws i w=x.ws)(hb:w.b=true):aF (obI tbl) 1 (.slice 12 0 xs.length 1) (aHM x i w xs) (.slice 1 0 xs.length 1) [some (.abs (.engine x) []),iI' xs]:=by
 exact((aF.move 7 (of_decide_eq_true rfl)).trans ((aLE (v2:=.slice 12 0 xs.length 1) (g2:=aP [w32 x,bI 2 x.s,bJ x.s,some (.abs (.hist x.h) []),some (.abs (.whole x.ws i) [5]),cE' (w33 w),some (.abs (.store w.t w.n w.st) []),none,some (.tab cK3 w.tk),some (.abs (.doer w.t w.n w.d) [6]),iI' w.tl,iI' w.sl,iI' xs] 6 0 (dP w.t w.n w.st) []) (by kernel_rfl) (by kernel_rfl)).trans ((aF.pack [w32 x,bI 2 x.s,bJ x.s,some (.abs (.hist x.h) []),some (.abs (.whole x.ws i) [5]),cE' (w33 w),some (.abs (.store w.t w.n w.st) []),none,some (.tab cK3 w.tk),some (.abs (.doer w.t w.n w.d) [6]),iI' w.tl,iI' w.sl,iI' xs] (.store w.t w.n w.st) 6 0 (dP w.t w.n w.st) [] rfl rfl rfl (by kernel_rfl)).trans ((aF.move 6 (of_decide_eq_true rfl)).trans ((aF.move 8 (of_decide_eq_true rfl)).trans ((aF.move 9 (of_decide_eq_true rfl)).trans ((aF.move 10 (of_decide_eq_true rfl)).trans ((aF.move 11 (of_decide_eq_true rfl)).trans ((aLE (v2:=.slice 12 0 xs.length 1) (g2:=aP [w32 x,bI 2 x.s,bJ x.s,some (.abs (.hist x.h) []),some (.abs (.whole x.ws i) [5]),some (.abs (.worker w) []),none,none,none,none,none,none,iI' xs] 5 0 (qW w) []) (by kernel_rfl) (by kernel_rfl)).trans ((aF.pack [w32 x,bI 2 x.s,bJ x.s,some (.abs (.hist x.h) []),some (.abs (.whole x.ws i) [5]),some (.abs (.worker w) []),none,none,none,none,none,none,iI' xs] (.worker w) 5 0 (qW w) [] rfl rfl (congrArg (Prod.mk 0) (xS hb)) (by kernel_rfl)).trans ((aF.back (l:=4) (k:=5) (i:=i) (ws:=x.ws) (w:=w) rfl rfl dS hi).trans ((aLE (v2:=.slice 12 0 xs.length 1) (g2:=[w32 x,bI 2 x.s,bJ x.s,some (.abs (.hist x.h) []),some (.abs (.wrow x.ws) []),none,none,none,none,none,none,none,iI' xs]) rfl (by rw [hw];rfl)).trans ((aF.move 1 (of_decide_eq_true rfl)).trans ((aF.move 2 (of_decide_eq_true rfl)).trans ((aF.move 3 (of_decide_eq_true rfl)).trans ((aF.move 4 (of_decide_eq_true rfl)).trans ((aLE (v2:=.slice 12 0 xs.length 1) (g2:=aP (w34 x xs) 0 0 (egG x) []) (by kernel_rfl) (by kernel_rfl)).trans ((aF.pack (w34 x xs) (.engine x) 0 0 (egG x) [] rfl rfl rfl (by kernel_rfl)).trans (aF.pick [0,12] rfl)))))))))))))))))))
abbrev w36(x:EGS):Option (aG Ob):=cE' [.I (EGS.s x).1,.I (EGS.s x).2,.slice 2 0 (List.length (EGS.s x).3) 1,.I (EGS.s x).4,.I (EGS.s x).5,.I (EGS.s x).6,.int .u64 (EGS.s x).7,.int .u64 (EGS.s x).8,.bool (EGS.s x).9]
abbrev w37(x:EGS):Option (aG Ob):=cE' [.I x.1,.I x.2,.I x.3,.I x.4,.ptr 1 0,.ptr 3 0,.slice 4 0 x.7.length 1,.I x.8]
abbrev w39(w:WKS):List AVal:=[.ptr 6 0,.tslice 7 0 w.4.length 3,.I w.5,.N,.slice 8 0 w.8.length 1,.slice 9 0 w.9.length 1]
def IT(x:EGS)(i:Nat)(w:WKS)(th:Int)(K:AVal->aC Ob->Prop):Prop:=bif ilt th 0 then K (.raw (Value.slice none 0 0)) [w37 x,w36 x,some (.ints (some .u64) (EGS.s x).3),some (.abs (.hist x.6) []),some (.abs (.whole x.7 i) [5]),cE' (w39 w),some (.abs (.store w.1 w.2 w.3) []),some (.tab cK3 w.4),iI' w.8,iI' w.9]else bif ile (↑x.7.length:Int) th then K (.raw (Value.slice none 0 0)) [w37 x,w36 x,some (.ints (some .u64) (EGS.s x).3),some (.abs (.hist x.6) []),some (.abs (.whole x.7 i) [5]),cE' (w39 w),some (.abs (.store w.1 w.2 w.3) []),some (.tab cK3 w.4),iI' w.8,iI' w.9]else((0:Int)<=th/\th<(↑x.7.length:Int))/\(i<x.7.length/\0+Int.toNat th*(1:Nat)=i)/\(lE' w.8/\w.8.length<=(4294967296:Nat))/\K (.slice 10 0 w.8.length 1) [w37 x,w36 x,some (.ints (some .u64) (EGS.s x).3),some (.abs (.hist x.6) []),some (.abs (.whole x.7 i) [5]),cE' (w39 w),some (.abs (.store w.1 w.2 w.3) []),some (.tab cK3 w.4),iI' w.8,iI' w.9,iI' w.8]
theorem IU(x:EGS)(i:Nat)(w:WKS)(th:Int)(K:AVal->aC Ob->Prop)(h:IT x i w th K):cT' 32 [.ptr 0 0,.I th] (eg0 x i w) (eJ 1 K):=by
 exact cM' (E:=EU2) (by kernel_rfl) h
abbrev w38(w:WKS):List AVal:=[.ptr 6 0,.tslice 7 0 w.4.length 3,.I w.5,.ptr 8 0,.slice 9 0 w.8.length 1,.slice 10 0 w.9.length 1]
def IV(x:EGS)(i:Nat)(w:WKS)(th:Int)(K:AVal->aC Ob->Prop):Prop:=bif ilt th 0 then K (.raw (Value.slice none 0 0)) [w37 x,w36 x,some (.ints (some .u64) (EGS.s x).3),some (.abs (.hist x.6) []),some (.abs (.whole x.7 i) [5]),cE' (w38 w),some (.abs (.store w.1 w.2 w.3) []),some (.tab cK3 w.4),some (.abs (.doer w.1 w.2 w.7) [6]),iI' w.8,iI' w.9]else bif ile (↑x.7.length:Int) th then K (.raw (Value.slice none 0 0)) [w37 x,w36 x,some (.ints (some .u64) (EGS.s x).3),some (.abs (.hist x.6) []),some (.abs (.whole x.7 i) [5]),cE' (w38 w),some (.abs (.store w.1 w.2 w.3) []),some (.tab cK3 w.4),some (.abs (.doer w.1 w.2 w.7) [6]),iI' w.8,iI' w.9]else((0:Int)<=th/\th<(↑x.7.length:Int))/\(i<x.7.length/\0+Int.toNat th*(1:Nat)=i)/\(lE' w.8/\w.8.length<=(4294967296:Nat))/\K (.slice 11 0 w.8.length 1) [w37 x,w36 x,some (.ints (some .u64) (EGS.s x).3),some (.abs (.hist x.6) []),some (.abs (.whole x.7 i) [5]),cE' (w38 w),some (.abs (.store w.1 w.2 w.3) []),some (.tab cK3 w.4),some (.abs (.doer w.1 w.2 w.7) [6]),iI' w.8,iI' w.9,iI' w.8]
theorem IW(x:EGS)(i:Nat)(w:WKS)(th:Int)(K:AVal->aC Ob->Prop)(h:IV x i w th K):cT' 32 [.ptr 0 0,.I th] (eg1 x i w) (eJ 1 K):=by
 exact cM' (E:=EU2) (by kernel_rfl) h
def IP(x:EGS)(i:Nat)(w:WKS)(th:Int)(K:AVal->aC Ob->Prop):Prop:=bif ilt th 0 then K (.raw (Value.slice none 0 0)) [w37 x,w36 x,some (.ints (some .u64) (EGS.s x).3),some (.abs (.hist x.6) []),some (.abs (.whole x.7 i) [5]),cE' (w39 w),some (.abs (.store w.1 w.2 w.3) []),some (.tab cK3 w.4),iI' w.8,iI' w.9]else bif ile (↑x.7.length:Int) th then K (.raw (Value.slice none 0 0)) [w37 x,w36 x,some (.ints (some .u64) (EGS.s x).3),some (.abs (.hist x.6) []),some (.abs (.whole x.7 i) [5]),cE' (w39 w),some (.abs (.store w.1 w.2 w.3) []),some (.tab cK3 w.4),iI' w.8,iI' w.9]else((0:Int)<=th/\th<(↑x.7.length:Int))/\(i<x.7.length/\0+Int.toNat th*(1:Nat)=i)/\(lE' w.9/\w.9.length<=(4294967296:Nat))/\K (.slice 10 0 w.9.length 1) [w37 x,w36 x,some (.ints (some .u64) (EGS.s x).3),some (.abs (.hist x.6) []),some (.abs (.whole x.7 i) [5]),cE' (w39 w),some (.abs (.store w.1 w.2 w.3) []),some (.tab cK3 w.4),iI' w.8,iI' w.9,iI' w.9]
theorem IQ(x:EGS)(i:Nat)(w:WKS)(th:Int)(K:AVal->aC Ob->Prop)(h:IP x i w th K):cT' 35 [.ptr 0 0,.I th] (eg0 x i w) (eJ 1 K):=by
 exact cM' (E:=EU2) (by kernel_rfl) h
def IR(x:EGS)(i:Nat)(w:WKS)(th:Int)(K:AVal->aC Ob->Prop):Prop:=bif ilt th 0 then K (.raw (Value.slice none 0 0)) [w37 x,w36 x,some (.ints (some .u64) (EGS.s x).3),some (.abs (.hist x.6) []),some (.abs (.whole x.7 i) [5]),cE' (w38 w),some (.abs (.store w.1 w.2 w.3) []),some (.tab cK3 w.4),some (.abs (.doer w.1 w.2 w.7) [6]),iI' w.8,iI' w.9]else bif ile (↑x.7.length:Int) th then K (.raw (Value.slice none 0 0)) [w37 x,w36 x,some (.ints (some .u64) (EGS.s x).3),some (.abs (.hist x.6) []),some (.abs (.whole x.7 i) [5]),cE' (w38 w),some (.abs (.store w.1 w.2 w.3) []),some (.tab cK3 w.4),some (.abs (.doer w.1 w.2 w.7) [6]),iI' w.8,iI' w.9]else((0:Int)<=th/\th<(↑x.7.length:Int))/\(i<x.7.length/\0+Int.toNat th*(1:Nat)=i)/\(lE' w.9/\w.9.length<=(4294967296:Nat))/\K (.slice 11 0 w.9.length 1) [w37 x,w36 x,some (.ints (some .u64) (EGS.s x).3),some (.abs (.hist x.6) []),some (.abs (.whole x.7 i) [5]),cE' (w38 w),some (.abs (.store w.1 w.2 w.3) []),some (.tab cK3 w.4),some (.abs (.doer w.1 w.2 w.7) [6]),iI' w.8,iI' w.9,iI' w.9]
theorem IS(x:EGS)(i:Nat)(w:WKS)(th:Int)(K:AVal->aC Ob->Prop)(h:IR x i w th K):cT' 35 [.ptr 0 0,.I th] (eg1 x i w) (eJ 1 K):=by
 exact cM' (E:=EU2) (by kernel_rfl) h
abbrev w3a(w:WKS):List AVal:=[.I w.1,.I w.2,.I (WKS.st w).1,.I (WKS.st w).2,.slice 7 0 (List.length (WKS.st w).3) 1]
abbrev w3c(w:WKS):List AVal:=[.ptr 6 0,.tslice 8 0 w.4.length 3,.I w.5,.N,.slice 9 0 w.8.length 1,.slice 10 0 w.9.length 1]
def IJ(x:EGS)(i:Nat)(w:WKS)(th:Int)(K:AVal->aC Ob->Prop):Prop:=bif ilt th 0 then K (.raw (Value.slice none 0 0)) [w37 x,w36 x,some (.ints (some .u64) (EGS.s x).3),some (.abs (.hist x.6) []),some (.abs (.whole x.7 i) [5]),cE' (w3c w),cE' (w3a w),iI' (WKS.st w).3,some (.tab cK3 w.4),iI' w.8,iI' w.9]else bif ile (↑x.7.length:Int) th then K (.raw (Value.slice none 0 0)) [w37 x,w36 x,some (.ints (some .u64) (EGS.s x).3),some (.abs (.hist x.6) []),some (.abs (.whole x.7 i) [5]),cE' (w3c w),cE' (w3a w),iI' (WKS.st w).3,some (.tab cK3 w.4),iI' w.8,iI' w.9]else((0:Int)<=th/\th<(↑x.7.length:Int))/\(i<x.7.length/\0+Int.toNat th*(1:Nat)=i)/\(lE' (WKS.st w).3/\List.length (WKS.st w).3<=(1000000:Nat))/\K (.slice 11 0 (List.length (mG (WKS.st w).2 (WKS.st w).3)) 1) [w37 x,w36 x,some (.ints (some .u64) (EGS.s x).3),some (.abs (.hist x.6) []),some (.abs (.whole x.7 i) [5]),cE' (w3c w),cE' (w3a w),iI' (WKS.st w).3,some (.tab cK3 w.4),iI' w.8,iI' w.9,iI' (mG (WKS.st w).2 (WKS.st w).3)]
theorem IK(x:EGS)(i:Nat)(w:WKS)(th:Int)(K:AVal->aC Ob->Prop)(h:IJ x i w th K):cT' 69 [.ptr 0 0,.I th] (aHN x i w) (eJ 1 K):=by
 exact cM' (E:=EU2) (by kernel_rfl) h
abbrev w3b(w:WKS):List AVal:=[.ptr 6 0,.tslice 8 0 w.4.length 3,.I w.5,.ptr 9 0,.slice 10 0 w.8.length 1,.slice 11 0 w.9.length 1]
def IL(x:EGS)(i:Nat)(w:WKS)(th:Int)(K:AVal->aC Ob->Prop):Prop:=bif ilt th 0 then K (.raw (Value.slice none 0 0)) [w37 x,w36 x,some (.ints (some .u64) (EGS.s x).3),some (.abs (.hist x.6) []),some (.abs (.whole x.7 i) [5]),cE' (w3b w),cE' (w3a w),iI' (WKS.st w).3,some (.tab cK3 w.4),some (.abs (.doer w.1 w.2 w.7) [6]),iI' w.8,iI' w.9]else bif ile (↑x.7.length:Int) th then K (.raw (Value.slice none 0 0)) [w37 x,w36 x,some (.ints (some .u64) (EGS.s x).3),some (.abs (.hist x.6) []),some (.abs (.whole x.7 i) [5]),cE' (w3b w),cE' (w3a w),iI' (WKS.st w).3,some (.tab cK3 w.4),some (.abs (.doer w.1 w.2 w.7) [6]),iI' w.8,iI' w.9]else((0:Int)<=th/\th<(↑x.7.length:Int))/\(i<x.7.length/\0+Int.toNat th*(1:Nat)=i)/\(lE' (WKS.st w).3/\List.length (WKS.st w).3<=(1000000:Nat))/\K (.slice 12 0 (List.length (mG (WKS.st w).2 (WKS.st w).3)) 1) [w37 x,w36 x,some (.ints (some .u64) (EGS.s x).3),some (.abs (.hist x.6) []),some (.abs (.whole x.7 i) [5]),cE' (w3b w),cE' (w3a w),iI' (WKS.st w).3,some (.tab cK3 w.4),some (.abs (.doer w.1 w.2 w.7) [6]),iI' w.8,iI' w.9,iI' (mG (WKS.st w).2 (WKS.st w).3)]
theorem IM(x:EGS)(i:Nat)(w:WKS)(th:Int)(K:AVal->aC Ob->Prop)(h:IL x i w th K):cT' 69 [.ptr 0 0,.I th] (aHO x i w) (eJ 1 K):=by
 exact cM' (E:=EU2) (by kernel_rfl) h
abbrev w3e(x:EGS):List AVal:=[.I (EGS.s x).1,.I (EGS.s x).2,.slice 2 0 (List.length (EGS.s x).3) 1,.I (EGS.s x).4,.I (EGS.s x).5,.I (EGS.s x).6,.int .u64 (EGS.s x).7,.int .u64 (EGS.s x).8,.bool (EGS.s x).9]
abbrev w3f(x:EGS):List AVal:=[.I x.1,.I x.2,.I x.3,.I x.4,.ptr 1 0,.ptr 3 0,.slice 4 0 x.7.length 1,.I x.8]
abbrev w3d(x:EGS):aC Ob:=[cE' (w3f x),cE' (w3e x),some (.ints (some .u64) (EGS.s x).3),some (.abs (.hist x.6) []),some (.abs (.wrow x.7) [])]
def aCP(x:EGS)(th:Int)(K:AVal->aC Ob->Prop):Prop:=bif ilt th 0 then K (.I 0) (w3d x)else bif ile (↑x.7.length:Int) th then K (.I 0) (w3d x)else((0:Int)<=th/\th<(↑x.7.length:Int))/\0+Int.toNat th*(1:Nat)<x.7.length/\True/\K (.I (W ((↑(List.length (aY x.7 (0+Int.toNat th*1)).4):Int) - (aY x.7 (0+Int.toNat th*1)).5))) [cE' (w3f x),cE' (w3e x),some (.ints (some .u64) (EGS.s x).3),some (.abs (.hist x.6) []),some (.abs (.whole x.7 (0+Int.toNat th*1)) [5]),some (.abs (.worker (aY x.7 (0+Int.toNat th*1))) [])]
theorem O0(x:EGS)(th:Int)(K:AVal->aC Ob->Prop)(h:aCP x th K):cT' 33 [.ptr 0 0,.I th] (egG x) (eJ 1 K):=by
 exact cM' (E:=EU2) (by kernel_rfl) h
abbrev w3g(x:EGS):aC Ob:=[cE' [.I x.1,.I x.2,.I x.3,.I x.4,.ptr 1 0,.ptr 3 0,.slice 4 0 x.7.length 1,.I x.8],cE' [.I (EGS.s x).1,.I (EGS.s x).2,.slice 2 0 (List.length (EGS.s x).3) 1,.I (EGS.s x).4,.I (EGS.s x).5,.I (EGS.s x).6,.int .u64 (EGS.s x).7,.int .u64 (EGS.s x).8,.bool (EGS.s x).9],some (.ints (some .u64) (EGS.s x).3),some (.abs (.hist x.6) []),some (.abs (.wrow x.7) [])]
def aCS(x:EGS)(K:AVal->aC Ob->Prop):Prop:=K (.I x.8) (w3g x)
theorem O3(x:EGS)(K:AVal->aC Ob->Prop)(h:aCS x K):cT' 34 [.ptr 0 0] (egG x) (eJ 1 K):=by
 exact cM' (E:=EU2) (by kernel_rfl) h
def aCQ(x:EGS)(K:AVal->aC Ob->Prop):Prop:=K (.agg [.I (EGS.s x).1,.I (EGS.s x).2]) (w3g x)
theorem O1(x:EGS)(K:AVal->aC Ob->Prop)(h:aCQ x K):cT' 38 [.ptr 0 0] (egG x) (eJ 1 K):=by
 exact cM' (E:=EU2) (by kernel_rfl) h
def aCR(x:EGS)(a:Int)(K:AVal->aC Ob->Prop):Prop:=(lE' (EGS.s x).3/\True)/\K (.int .u64 (aE (EGS.s x).3 a)) [cE' [.I x.1,.I x.2,.I x.3,.I x.4,.ptr 1 0,.ptr 3 0,.slice 4 0 x.7.length 1,.I x.8],cE' [.I (EGS.s x).1,.I (EGS.s x).2,.slice 2 0 (List.length (EGS.s x).3) 1,.I (EGS.s x).4,.I (EGS.s x).5,.I (EGS.s x).6,.int .u64 (EGS.s x).7,.int .u64 (EGS.s x).8,.bool (EGS.s x).9],some (.ints (some .u64) (EGS.s x).3),some (.abs (.hist x.6) []),some (.abs (.wrow x.7) [])]
theorem O2(x:EGS)(a:Int)(K:AVal->aC Ob->Prop)(h:aCR x a K):cT' 37 [.ptr 0 0,.I a] (egG x) (eJ 1 K):=by
 exact cM' (E:=EU2) (by kernel_rfl) h
def aCO(x:EGS)(K:AVal->aC Ob->Prop):Prop:=(lE' (EGS.s x).3/\True)/\K (.agg [.I (EGS.s x).5,.I (EGS.s x).6,.int .u64 (EGS.s x).7,.int .u64 (EGS.s x).8,.bool (EGS.s x).9]) (w3g x)
theorem OZ(x:EGS)(K:AVal->aC Ob->Prop)(h:aCO x K):cT' 45 [.ptr 0 0] (egG x) (eJ 1 K):=by
 exact cM' (E:=EU2) (by kernel_rfl) h
theorem aA.keep{P:Program}{f:FuncId}{args:List AVal}{h:aC Ob}{n:Nat}{K:AVal->aC Ob->Prop}(h0:aA (obI tbl) P f args h (eJ n (cS (obI tbl) n K))):aA (obI tbl) P f args h (cS (obI tbl) n K):=by
 intro V hR w aa hi hf hr;refine(h0 V hR w aa hi hf hr).mono ?_;rintro e w' ⟨v,v',V',h',ht,rest⟩;obtain⟨g0,hK⟩:=bL.1 ht;obtain⟨v2,g2,t,k⟩:=hK.ex;exact⟨v,v',V',h',⟨⟨v2,g2,(aF.pick _ g0).trans t,k⟩⟩,rest⟩
def mH(th:Int)(x:EGS):Int:=bif ilt th 0 then 0 else bif ile (x.ws.length:Int) th then 0 else W (((aY x.ws th.toNat).tk.length :Int) - (aY x.ws th.toNat).en)
def iF(th:Int)(x:EGS):List Int:=bif ilt th 0 then []else bif ile (x.ws.length:Int) th then []else(aY x.ws th.toNat).tl
def iC(th:Int)(x:EGS):List Int:=bif ilt th 0 then []else bif ile (x.ws.length:Int) th then []else(aY x.ws th.toNat).sl
def gZ(th:Int)(x:EGS):List Int:=bif ilt th 0 then []else bif ile (x.ws.length:Int) th then []else mG (aY x.ws th.toNat).st.sp (aY x.ws th.toNat).st.R
structure jX (x:EGS):Prop where
 h0:0<x.ws.length
 ht: ∀i,i<x.ws.length->(aY x.ws i).tl.length <=1000000
 hs: ∀i,i<x.ws.length->(aY x.ws i).sl.length <=1000000
 hr: ∀i,i<x.ws.length->(aY x.ws i).st.R.length <=1000000
theorem aHR(x:EGS)(i:Nat)(hi:i<x.ws.length):({x with ws:=dQ x.ws i (aY x.ws i) } :EGS)=x:=by
 rw [cY hi]
def rlfS:aI Ob:=fun args h=>match args,h with
 | [.ptr 0 0,.int .i64 th],[some (.abs (.engine x) [])]=>some (.pre True (.ret (.I (mH th x)) (egH x)))
 | _,_=>none
theorem U1:sT' 33 rlfS:=by
 intro args h o ho K hK;unfold rlfS at ho;split at ho
 case h_2=>cases ho
 rename_i th x;cases ho;obtain⟨_,hK⟩:=hK;have hK:K (.I (mH th x)) (egH x):=hK;refine aLG ?_;refine aLB (h2:=egG x) (aQ.unpack (.engine x) 0 0 (egG x) [] rfl rfl rfl rfl) ?_;refine aA.keep (O0 x th _ ?_);refine aK (fun e1=>?_) (fun e1=>aK (fun e2=>?_) (fun e2=>?_))
 ·have hv:mH th x=0:=by unfold mH;rw [e1];rfl
  rw [hv]at hK;exact⟨⟨_,_,kA 1 (Nat.le_refl 1) _ rfl x,hK⟩⟩
 ·have hv:mH th x=0:=by unfold mH;rw [e1,e2];rfl
  rw [hv]at hK;exact⟨⟨_,_,kA 1 (Nat.le_refl 1) _ rfl x,hK⟩⟩
 ·have hv:mH th x=W (((aY x.ws th.toNat).tk.length :Int) - (aY x.ws th.toNat).en):=by unfold mH;rw [e1,e2];rfl
  rw [bC,dF']at e1;rw [cD,dF']at e2;have hi:0+th.toNat*1<x.ws.length:=by omega
  have ht:0+th.toNat*1=th.toNat:=by omega
  refine⟨⟨by omega,by omega⟩,hi,trivial,?_⟩
  rw [hv]at hK;refine⟨⟨_,_,CW (x:= {x with ws:=dQ x.ws (0+th.toNat*1) (aY x.ws (0+th.toNat*1)) }) _ rfl rfl 1 (Nat.le_refl 1) rfl ⟨rfl,hi,rfl⟩,?_⟩⟩
  rw [aHR x _ hi,ht];exact hK
theorem VP(x:EGS)(i:Nat)(th:Int)(hi:i<x.ws.length)(K:AVal->aC Ob->Prop)(h0:(aY x.ws i).b =false->IT x i (aY x.ws i) th (cS (obI tbl) 1 K))(h1:(aY x.ws i).b =true->IV x i (aY x.ws i) th (cS (obI tbl) 1 K)):
 cT' 32 [.ptr 0 0,.I th] (egH x) K:=by
 refine aLG ?_;cases hb:(aY x.ws i).b with
 | false=>exact aLB (wF hi hb) (aA.keep (IU x i _ th _ (h0 hb)))
 | true=>exact aLB (wG hi hb) (aA.keep (IW x i _ th _ (h1 hb)))
def rtkS:aI Ob:=fun args h=>match args,h with
 | [.ptr 0 0,.int .i64 th],[some (.abs (.engine x) [])]=>some (.pre (jX x) (.ret (.slice 1 0 (iF th x).length 1) [some (.abs (.engine x) []),iI' (iF th x)]))
 | _,_=>none
theorem U5:sT' 32 rtkS:=by
 intro args h o ho K hK;unfold rtkS at ho;split at ho
 case h_2=>cases ho
 rename_i th x;cases ho;obtain⟨⟨hl,ht,hs,hr⟩,hK⟩:=hK;have hK:K (.slice 1 0 (iF th x).length 1) [some (.abs (.engine x) []),iI' (iF th x)]:=hK
 have aa: ∀(b:Bool) (g g2:aC Ob) (e1:ilt th 0=true\/(ilt th 0=false/\ile (x.ws.length:Int) th=true)),iF th x=[]:=by
  intro b g g2 e;unfold iF;rcases e with e | ⟨e,e2⟩
  ·rw [e];rfl
  ·rw [e,e2];rfl
 cases e1:ilt th 0 with
 | true=>
   have hv:=aa true [] [] (.inl e1);rw [hv]at hK;refine VP x 0 th hl K (fun hb=>?_) (fun hb=>?_)
   ·exact aK (fun _=>⟨⟨_,_,(aF.cast (cs:=[(.slot 0,.ints (some .i64))]) rfl).trans (L6 x 0 _ [] hl (cY hl) hb),hK⟩⟩) (fun e=>by rw [e1]at e;cases e)
   ·exact aK (fun _=>⟨⟨_,_,(aF.cast (cs:=[(.slot 0,.ints (some .i64))]) rfl).trans (L7 x 0 _ [] hl (cY hl) hb),hK⟩⟩) (fun e=>by rw [e1]at e;cases e)
 | false=>
   cases e2:ile (x.ws.length:Int) th with
   | true=>
     have hv:=aa true [] [] (.inr ⟨e1,e2⟩);rw [hv]at hK;refine VP x 0 th hl K (fun hb=>?_) (fun hb=>?_)
     ·exact aK (fun e=>by rw [e1]at e;cases e) (fun _=>aK (fun _=>⟨⟨_,_,(aF.cast (cs:=[(.slot 0,.ints (some .i64))]) rfl).trans (L6 x 0 _ [] hl (cY hl) hb),hK⟩⟩) (fun e=>by rw [e2]at e;cases e))
     ·exact aK (fun e=>by rw [e1]at e;cases e) (fun _=>aK (fun _=>⟨⟨_,_,(aF.cast (cs:=[(.slot 0,.ints (some .i64))]) rfl).trans (L7 x 0 _ [] hl (cY hl) hb),hK⟩⟩) (fun e=>by rw [e2]at e;cases e))
   | false=>
     have hv:iF th x=(aY x.ws th.toNat).tl :=by unfold iF;rw [e1,e2];rfl
     have e1':=e1;have e2':=e2;rw [bC,dF']at e1';rw [cD,dF']at e2';have hi:th.toNat<x.ws.length:=by omega
     have hf:=ht _ hi;rw [hv]at hK;refine VP x th.toNat th hi K (fun hb=>?_) (fun hb=>?_)
     ·exact aK (fun e=>by rw [e1]at e;cases e) (fun _=>aK (fun e=>by rw [e2]at e;cases e) (fun _=>⟨⟨by omega,by omega⟩,⟨hi,by omega⟩,⟨rfl,by omega⟩,⟨⟨_,_,L6 x th.toNat _ _ hi (cY hi) hb,hK⟩⟩⟩))
     ·exact aK (fun e=>by rw [e1]at e;cases e) (fun _=>aK (fun e=>by rw [e2]at e;cases e) (fun _=>⟨⟨by omega,by omega⟩,⟨hi,by omega⟩,⟨rfl,by omega⟩,⟨⟨_,_,L7 x th.toNat _ _ hi (cY hi) hb,hK⟩⟩⟩))
theorem VJ(x:EGS)(i:Nat)(th:Int)(hi:i<x.ws.length)(K:AVal->aC Ob->Prop)(h0:(aY x.ws i).b =false->IP x i (aY x.ws i) th (cS (obI tbl) 1 K))(h1:(aY x.ws i).b =true->IR x i (aY x.ws i) th (cS (obI tbl) 1 K)):
 cT' 35 [.ptr 0 0,.I th] (egH x) K:=by
 refine aLG ?_;cases hb:(aY x.ws i).b with
 | false=>exact aLB (wF hi hb) (aA.keep (IQ x i _ th _ (h0 hb)))
 | true=>exact aLB (wG hi hb) (aA.keep (IS x i _ th _ (h1 hb)))
def rswS:aI Ob:=fun args h=>match args,h with
 | [.ptr 0 0,.int .i64 th],[some (.abs (.engine x) [])]=>some (.pre (jX x) (.ret (.slice 1 0 (iC th x).length 1) [some (.abs (.engine x) []),iI' (iC th x)]))
 | _,_=>none
theorem U4:sT' 35 rswS:=by
 intro args h o ho K hK;unfold rswS at ho;split at ho
 case h_2=>cases ho
 rename_i th x;cases ho;obtain⟨⟨hl,ht,hs,hr⟩,hK⟩:=hK;have hK:K (.slice 1 0 (iC th x).length 1) [some (.abs (.engine x) []),iI' (iC th x)]:=hK
 have aa: ∀(b:Bool) (g g2:aC Ob) (e1:ilt th 0=true\/(ilt th 0=false/\ile (x.ws.length:Int) th=true)),iC th x=[]:=by
  intro b g g2 e;unfold iC;rcases e with e | ⟨e,e2⟩
  ·rw [e];rfl
  ·rw [e,e2];rfl
 cases e1:ilt th 0 with
 | true=>
   have hv:=aa true [] [] (.inl e1);rw [hv]at hK;refine VJ x 0 th hl K (fun hb=>?_) (fun hb=>?_)
   ·exact aK (fun _=>⟨⟨_,_,(aF.cast (cs:=[(.slot 0,.ints (some .i64))]) rfl).trans (L6 x 0 _ [] hl (cY hl) hb),hK⟩⟩) (fun e=>by rw [e1]at e;cases e)
   ·exact aK (fun _=>⟨⟨_,_,(aF.cast (cs:=[(.slot 0,.ints (some .i64))]) rfl).trans (L7 x 0 _ [] hl (cY hl) hb),hK⟩⟩) (fun e=>by rw [e1]at e;cases e)
 | false=>
   cases e2:ile (x.ws.length:Int) th with
   | true=>
     have hv:=aa true [] [] (.inr ⟨e1,e2⟩);rw [hv]at hK;refine VJ x 0 th hl K (fun hb=>?_) (fun hb=>?_)
     ·exact aK (fun e=>by rw [e1]at e;cases e) (fun _=>aK (fun _=>⟨⟨_,_,(aF.cast (cs:=[(.slot 0,.ints (some .i64))]) rfl).trans (L6 x 0 _ [] hl (cY hl) hb),hK⟩⟩) (fun e=>by rw [e2]at e;cases e))
     ·exact aK (fun e=>by rw [e1]at e;cases e) (fun _=>aK (fun _=>⟨⟨_,_,(aF.cast (cs:=[(.slot 0,.ints (some .i64))]) rfl).trans (L7 x 0 _ [] hl (cY hl) hb),hK⟩⟩) (fun e=>by rw [e2]at e;cases e))
   | false=>
     have hv:iC th x=(aY x.ws th.toNat).sl :=by unfold iC;rw [e1,e2];rfl
     have e1':=e1;have e2':=e2;rw [bC,dF']at e1';rw [cD,dF']at e2';have hi:th.toNat<x.ws.length:=by omega
     have hf:=hs _ hi;rw [hv]at hK;refine VJ x th.toNat th hi K (fun hb=>?_) (fun hb=>?_)
     ·exact aK (fun e=>by rw [e1]at e;cases e) (fun _=>aK (fun e=>by rw [e2]at e;cases e) (fun _=>⟨⟨by omega,by omega⟩,⟨hi,by omega⟩,⟨rfl,by omega⟩,⟨⟨_,_,L6 x th.toNat _ _ hi (cY hi) hb,hK⟩⟩⟩))
     ·exact aK (fun e=>by rw [e1]at e;cases e) (fun _=>aK (fun e=>by rw [e2]at e;cases e) (fun _=>⟨⟨by omega,by omega⟩,⟨hi,by omega⟩,⟨rfl,by omega⟩,⟨⟨_,_,L7 x th.toNat _ _ hi (cY hi) hb,hK⟩⟩⟩))
theorem S6(x:EGS)(i:Nat)(th:Int)(hi:i<x.ws.length)(K:AVal->aC Ob->Prop)(h0:(aY x.ws i).b =false->IJ x i (aY x.ws i) th (cS (obI tbl) 1 K))(h1:(aY x.ws i).b =true->IL x i (aY x.ws i) th (cS (obI tbl) 1 K)):
 cT' 69 [.ptr 0 0,.I th] (egH x) K:=by
 refine aLG ?_;cases hb:(aY x.ws i).b with
 | false=>exact aLB (L8 hi hb) (aA.keep (IK x i _ th _ (h0 hb)))
 | true=>exact aLB (L9 hi hb) (aA.keep (IM x i _ th _ (h1 hb)))
def rhdS:aI Ob:=fun args h=>match args,h with
 | [.ptr 0 0,.int .i64 th],[some (.abs (.engine x) [])]=>some (.pre (jX x) (.ret (.slice 1 0 (gZ th x).length 1) [some (.abs (.engine x) []),iI' (gZ th x)]))
 | _,_=>none
theorem UZ:sT' 69 rhdS:=by
 intro args h o ho K hK;unfold rhdS at ho;split at ho
 case h_2=>cases ho
 rename_i th x;cases ho;obtain⟨⟨hl,ht,hs,hr⟩,hK⟩:=hK;have hK:K (.slice 1 0 (gZ th x).length 1) [some (.abs (.engine x) []),iI' (gZ th x)]:=hK
 have aa: ∀(b:Bool) (g g2:aC Ob) (e1:ilt th 0=true\/(ilt th 0=false/\ile (x.ws.length:Int) th=true)),gZ th x=[]:=by
  intro b g g2 e;unfold gZ;rcases e with e | ⟨e,e2⟩
  ·rw [e];rfl
  ·rw [e,e2];rfl
 cases e1:ilt th 0 with
 | true=>
   have hv:=aa true [] [] (.inl e1);rw [hv]at hK;refine S6 x 0 th hl K (fun hb=>?_) (fun hb=>?_)
   ·exact aK (fun _=>⟨⟨_,_,(aF.cast (cs:=[(.slot 0,.ints (some .i64))]) rfl).trans (aEg x 0 _ [] hl (cY hl) hb),hK⟩⟩) (fun e=>by rw [e1]at e;cases e)
   ·exact aK (fun _=>⟨⟨_,_,(aF.cast (cs:=[(.slot 0,.ints (some .i64))]) rfl).trans (aEh x 0 _ [] hl (cY hl) hb),hK⟩⟩) (fun e=>by rw [e1]at e;cases e)
 | false=>
   cases e2:ile (x.ws.length:Int) th with
   | true=>
     have hv:=aa true [] [] (.inr ⟨e1,e2⟩);rw [hv]at hK;refine S6 x 0 th hl K (fun hb=>?_) (fun hb=>?_)
     ·exact aK (fun e=>by rw [e1]at e;cases e) (fun _=>aK (fun _=>⟨⟨_,_,(aF.cast (cs:=[(.slot 0,.ints (some .i64))]) rfl).trans (aEg x 0 _ [] hl (cY hl) hb),hK⟩⟩) (fun e=>by rw [e2]at e;cases e))
     ·exact aK (fun e=>by rw [e1]at e;cases e) (fun _=>aK (fun _=>⟨⟨_,_,(aF.cast (cs:=[(.slot 0,.ints (some .i64))]) rfl).trans (aEh x 0 _ [] hl (cY hl) hb),hK⟩⟩) (fun e=>by rw [e2]at e;cases e))
   | false=>
     have hv:gZ th x=(mG (aY x.ws th.toNat).st.sp (aY x.ws th.toNat).st.R):=by unfold gZ;rw [e1,e2];rfl
     have e1':=e1;have e2':=e2;rw [bC,dF']at e1';rw [cD,dF']at e2';have hi:th.toNat<x.ws.length:=by omega
     have hf:=hr _ hi;rw [hv]at hK;refine S6 x th.toNat th hi K (fun hb=>?_) (fun hb=>?_)
     ·exact aK (fun e=>by rw [e1]at e;cases e) (fun _=>aK (fun e=>by rw [e2]at e;cases e) (fun _=>⟨⟨by omega,by omega⟩,⟨hi,by omega⟩,⟨rfl,hf⟩,⟨⟨_,_,aEg x th.toNat _ _ hi (cY hi) hb,hK⟩⟩⟩))
     ·exact aK (fun e=>by rw [e1]at e;cases e) (fun _=>aK (fun e=>by rw [e2]at e;cases e) (fun _=>⟨⟨by omega,by omega⟩,⟨hi,by omega⟩,⟨rfl,hf⟩,⟨⟨_,_,aEh x th.toNat _ _ hi (cY hi) hb,hK⟩⟩⟩))
def estS:aI Ob:=fun args h=>match args,h with
 | [.ptr 0 0],[some (.abs (.engine x) [])]=>some (.pre True (.ret (.I x.k) (egH x)))
 | _,_=>none
theorem SH:sT' 34 estS:=by
 intro args h o ho K hK;unfold estS at ho;split at ho
 case h_2=>cases ho
 rename_i x;cases ho;obtain⟨_,hK⟩:=hK;have hK:K (.I x.k) (egH x):=hK;refine aLG ?_;refine aLB (h2:=egG x) (aQ.unpack (.engine x) 0 0 (egG x) [] rfl rfl rfl rfl) ?_;refine aA.keep (O3 x _ ?_);exact⟨⟨_,_,kA 1 (Nat.le_refl 1) _ rfl x,hK⟩⟩
def elyS:aI Ob:=fun args h=>match args,h with
 | [.ptr 0 0],[some (.abs (.engine x) [])]=>some (.pre True (.ret (.agg [.I x.s.t,.I x.s.n]) (egH x)))
 | _,_=>none
theorem R8:sT' 38 elyS:=by
 intro args h o ho K hK;unfold elyS at ho;split at ho
 case h_2=>cases ho
 rename_i x;cases ho;obtain⟨_,hK⟩:=hK;have hK:K (.agg [.I x.s.t,.I x.s.n]) (egH x):=hK;refine aLG ?_;refine aLB (h2:=egG x) (aQ.unpack (.engine x) 0 0 (egG x) [] rfl rfl rfl rfl) ?_;refine aA.keep (O1 x _ ?_);exact⟨⟨_,_,kA 1 (Nat.le_refl 1) _ rfl x,hK⟩⟩
def epeS:aI Ob:=fun args h=>match args,h with
 | [.ptr 0 0,.int .i64 a],[some (.abs (.engine x) [])]=>some (.pre True (.ret (.int .u64 (aE x.s.xs a)) (egH x)))
 | _,_=>none
theorem SD:sT' 37 epeS:=by
 intro args h o ho K hK;unfold epeS at ho;split at ho
 case h_2=>cases ho
 rename_i a x;cases ho;obtain⟨_,hK⟩:=hK;have hK:K (.int .u64 (aE x.s.xs a)) (egH x):=hK;refine aLG ?_;refine aLB (h2:=egG x) (aQ.unpack (.engine x) 0 0 (egG x) [] rfl rfl rfl rfl) ?_;refine aA.keep (O2 x a _ ?_);exact⟨⟨rfl,trivial⟩,⟨⟨_,_,kA 1 (Nat.le_refl 1) _ rfl x,hK⟩⟩⟩
def elaS:aI Ob:=fun args h=>match args,h with
 | [.ptr 0 0],[some (.abs (.engine x) [])]=>some (.pre True (.ret (.agg [.I x.s.k,.I x.s.a,.int .u64 x.s.o,.int .u64 x.s.w,.bool x.s.ok]) (egH x)))
 | _,_=>none
theorem R7:sT' 45 elaS:=by
 intro args h o ho K hK;unfold elaS at ho;split at ho
 case h_2=>cases ho
 rename_i x;cases ho;obtain⟨_,hK⟩:=hK;have hK:K (.agg [.I x.s.k,.I x.s.a,.int .u64 x.s.o,.int .u64 x.s.w,.bool x.s.ok]) (egH x):=hK;refine aLG ?_;refine aLB (h2:=egG x) (aQ.unpack (.engine x) 0 0 (egG x) [] rfl rfl rfl rfl) ?_;refine aA.keep (OZ x _ ?_);exact⟨⟨rfl,trivial⟩,⟨⟨_,_,kA 1 (Nat.le_refl 1) _ rfl x,hK⟩⟩⟩
noncomputable def EU3:=((((((((EU2.addS 33 rlfS U1).addS 32 rtkS U5).addS 35 rswS U4).addS 69 rhdS UZ).addS 34 estS SH).addS 38 elyS R8).addS 37 epeS SD).addS 45 elaS R7)
def AP(xs:List Int)(nd:Int):Nat->Int->List Int->List Int
 | 0,_,out=>out
 | k+1,n,out=>bif bG nd n then bif !hasB out n then AP xs nd k (aB (aE xs n) 10 9) (out++ [n])else out else out
def ndF(xs:List Int)(nd hd:Int):List Int:=AP xs nd (nd.toNat+1) (aB (aE xs (nd+1+hd)) 10 9) []
def jU(nd:Int)(out:List Int):Nat:=((List.range nd.toNat).filter (fun(j:Nat)=>!hasB out ((j:Int)+1))).length
theorem H3{p q:Nat->Bool}(hpq: ∀j,p j=true->q j=true)(l:List Nat):(l.filter p).length <=(l.filter q).length :=by
 induction l with
 | nil=>exact Nat.le_refl _
 | cons b l ih=>
   simp only [List.filter_cons];cases hp:p b with
   | true=>rw [hpq b hp];simp;exact ih
   | false=>cases hq:q b<;>simp<;>omega
theorem H4{p q:Nat->Bool}(l:List Nat)(hpq: ∀j,p j=true->q j=true)(h: ∃j,j∈l/\q j=true/\p j=false):(l.filter p).length <(l.filter q).length :=by
 induction l with
 | nil=>obtain⟨j,hj,_⟩:=h;cases hj
 | cons a l ih=>
   have ae:=H3 hpq l;simp only [List.filter_cons];obtain⟨j,hj,hq,hp⟩:=h;rcases List.mem_cons.1 hj with rfl | hj
   ·rw [hp,hq];simp;omega
   ·have:=ih ⟨j,hj,hq,hp⟩;cases aa:p a with
    | true=>rw [hpq a aa];simp;exact this
    | false=>cases ac:q a<;>simp<;>omega
theorem OB{nd n:Int}{out:List Int}(h1:bG nd n=true)(h2:hasB out n=false):jU nd (out++ [n])<jU nd out:=by
 have h1:=eO.1 h1;have h2:n∉out:=by intro hm;rw [kK.2 hm]at h2;cases h2
 unfold jU;refine H4 _ (fun j hj=>?_) ⟨(n - 1).toNat,?_,?_,?_⟩
 ·cases e:hasB out ((j:Int)+1)with
  | false=>rfl
  | true=>
    have:hasB (out++ [n]) ((j:Int)+1)=true:=kK.2 (List.mem_append_left _ (kK.1 e));rw [this]at hj;cases hj
 ·rw [List.mem_range];omega
 ·have e:(((n - 1).toNat :Nat):Int)+1=n:=by omega
  rw [e];cases e2:hasB out n with
  | false=>rfl
  | true=>exact absurd (kK.1 e2) h2
 ·have e:(((n - 1).toNat :Nat):Int)+1=n:=by omega
  rw [e,kK.2 (List.mem_append_right _ (List.mem_singleton.2 rfl))];rfl
theorem EA(nd:Int):jU nd []<=nd.toNat:=by
 unfold jU;exact Nat.le_trans (List.length_filter_le _ _) (by simp)
structure aII (xs:List Int) (nd:Int) (R:List Int) (x:Int×List Int):Prop where
 hb:(x.2.length:Int)<=nd.toNat
 ex: ∃k,jU nd x.2<k/\AP xs nd k x.1 x.2=R
 hc:x.2.length+jU nd x.2<=nd.toNat
def WH(s:MS)(lt ln:Int)(R:List Int):Hint Ob:= {X:=Int×List Int,st:=fun x=>([.ptr 0 0,.O,.O,.O,.ptr 2 0,.O,.O,.slice 3 0 x.2.length 1,.I x.1]++List.replicate 26 .O,[bI 1 s,bJ s,cE' [.I lt,.I ln],iI' x.2]),ok:=aII s.xs ln R,mu:=fun x=>jU ln x.2,keep:=[0,4,7,8],casts:=[(.slot 7,.ints (some .i64))] }
abbrev w3h(s:MS):Option (aG Ob):=cE' [.I s.1,.I s.2,.slice 1 0 s.3.length 1,.I s.4,.I s.5,.I s.6,.int .u64 s.7,.int .u64 s.8,.bool s.9]
def aFN(s:MS)(lt ln hd:Int)(R:List Int)(K:AVal->aC Ob->Prop):Prop:=(((0:Int)<=ln/\ln<=(100000:Int))/\(-1000000:Int)<=hd/\hd<=(1000000:Int))/\(lE' s.3/\True)/\True/\dE (WH s lt ln R) (Hint.ok (WH s lt ln R)) (.ptr 0 0::.O::.O::.O::.ptr 2 0::.O::.O::.slice 3 0 0 1::.I (aB (aE s.3 (ln+1+hd)) 10 9)::(tO' 26 [])) [w3h s,some (.ints (some .u64) s.3),cE' [.I lt,.I ln],some (.ints (some .i64) [])]/\ ∀(x:(Int×List Int)),aII s.3 ln R x->True/\bif bG ln x.1 then(lE' x.2/\x.2.length<=(4294967296:Nat))/\bif !hasB x.2 x.1 then(0=0/\lE' x.2/\1=1/\x.2.length+(1:Nat)<=(4294967296:Nat))/\(lE' s.3/\True)/\True/\dE (WH s lt ln R) (fun x'=>Hint.ok (WH s lt ln R) x'/\Hint.mu (WH s lt ln R) x'<Hint.mu (WH s lt ln R) x) (.ptr 0 0::.O::.O::.O::.ptr 2 0::.O::.O::.slice 3 0 (x.2.length+1) 1::.I (aB (aE s.3 x.1) 10 9)::(tO' 26 [])) [w3h s,some (.ints (some .u64) s.3),cE' [.I lt,.I ln],iI' (x.2++ [x.1])]else K (.slice 2 0 x.2.length 1) [w3h s,some (.ints (some .u64) s.3),iI' x.2]else K (.slice 2 0 x.2.length 1) [w3h s,some (.ints (some .u64) s.3),iI' x.2]
theorem TT(s:MS)(lt ln hd:Int)(R:List Int)(K:AVal->aC Ob->Prop)(h:aFN s lt ln hd R K):cT' 132 [.ptr 0 0,.agg [.I lt,.I ln],.I hd] [bI 1 s,bJ s] K:=by
 exact aLw (aD (E:=EU3) Tryz.checked.mixed (L:=fun _ _=>some (.states (WH s lt ln R))) (n:=10) (aJ (by kernel_rfl) h))
theorem aIK(s:MS)(lt ln hd:Int)(K:AVal->aC Ob->Prop)(h1:0<=ln/\ln<=100000)(h2: -1000000<=hd/\hd<=1000000)(hK:K (.slice 2 0 (ndF s.xs ln hd).length 1) [bI 1 s,bJ s,iI' (ndF s.xs ln hd)]):aFN s lt ln hd (ndF s.xs ln hd) K:=by
 refine⟨⟨h1,h2⟩,⟨rfl,trivial⟩,trivial,aR (H:=WH s lt ln (ndF s.xs ln hd)) (aB (aE s.xs (ln+1+hd)) 10 9,[]) rfl ⟨by show((0:Nat):Int)<=_;omega,⟨ln.toNat+1,by have:=EA ln;show jU ln []<ln.toNat+1;omega,rfl⟩,by have:=EA ln;show 0+jU ln []<=ln.toNat;omega⟩,?_⟩
 rintro⟨n,out⟩ ⟨hb,⟨k,hk,hR⟩,hc⟩;dsimp only at hb hk hR hc⊢;have stop: ∀(h:bif bG ln n then !hasB out n else false),True:=fun _=>trivial;refine⟨trivial,aK (fun e1=>⟨⟨rfl,by omega⟩,aK (fun e2=>?_) (fun e2=>?_)⟩) (fun e1=>?_)⟩
 ·have ae:hasB out n=false:=by simpa using e2
  have ac:=OB (nd:=ln) e1 ae;cases k with
  | zero=>omega
  | succ k=>
    unfold AP at hR;rw [e1,e2]at hR;simp only [cond_true]at hR;refine⟨⟨rfl,rfl,rfl,by omega⟩,⟨rfl,trivial⟩,trivial,aR (H:=WH s lt ln (ndF s.xs ln hd)) (aB (aE s.xs n) 10 9,out++ [n]) (by simp only [WH,List.length_append,List.length_singleton]<;>rfl) ⟨⟨?_,⟨k,by show jU ln (out++ [n])<k;omega,hR⟩,?_⟩,ac⟩⟩
    ·show((out++ [n]).length :Int)<=_;rw [List.length_append,List.length_singleton];omega
    ·show(out++ [n]).length +jU ln (out++ [n])<=_;rw [List.length_append,List.length_singleton];omega
 ·have aa:out=ndF s.xs ln hd:=by
   cases k with
   | zero=>omega
   | succ k=>
     unfold AP at hR;rw [e1,e2]at hR;exact hR
  rw [<-aa]at hK;exact hK
 ·have aa:out=ndF s.xs ln hd:=by
   cases k with
   | zero=>omega
   | succ k=>
     unfold AP at hR;rw [e1]at hR;exact hR
  rw [<-aa]at hK;exact hK
theorem TR(xs:List Int)(nd:Int)(k:Nat): ∀(n:Int) (out:List Int),(AP xs nd k n out).length <=out.length+k:=by
 induction k with
 | zero=>intro n out;unfold AP;omega
 | succ k ih=>
   intro n out;unfold AP;cases bG nd n<;>cases hasB out n<;>simp only [cond_true,cond_false,Bool.not_true,Bool.not_false]<;>try omega
   have:=ih (aB (aE xs n) 10 9) (out++ [n]);rw [List.length_append,List.length_singleton]at this;omega
theorem KL(xs:List Int)(nd hd:Int):(ndF xs nd hd).length <=nd.toNat+1:=by
 have:=TR xs nd (nd.toNat+1) (aB (aE xs (nd+1+hd)) 10 9) [];unfold ndF
 simpa using this
def ndS:aI Ob:=fun args h=>match args,h with
 | [.ptr 0 0,.agg [.int .i64 lt,.int .i64 ln],.int .i64 hd],[e1,e2]=>(match cQ 1 [e1,e2]with
   | some (l,s)=>some (.pre (l=s.xs.length/\(0<=ln/\ln<=100000)/\(-1000000<=hd/\hd<=1000000)) (.ret (.slice 2 0 (ndF s.xs ln hd).length 1) [bI 1 s,bJ s,iI' (ndF s.xs ln hd)]))
   | none=>none)
 | _,_=>none
theorem aIJ:sT' 132 ndS:=by
 intro args h o ho K hK;unfold ndS at ho;split at ho
 case h_2=>cases ho
 rename_i lt ln hd e1 e2;split at ho
 case h_2=>cases ho
 rename_i l s hm;cases ho;obtain⟨⟨hl,h1,h2⟩,hK⟩:=hK;have hh:=bB hm hl;cases hh;exact TT s lt ln hd _ K (aIK s lt ln hd K h1 h2 hK)
noncomputable def EU4:=EU3.addS 132 ndS aIJ
def kyL(xs ns:List Int):List Int:=(ns.filter fun a=>!ieq (aB (aE xs a) 19 1) 1).map fun a=>aB (aE xs a) 0 10
structure aIx (xs ns:List Int) (x:Nat×List Int):Prop where
 hi:x.1<=ns.length
 eq:x.2=kyL xs (ns.take x.1)
def HKY(s:MS)(ns:List Int):Hint Ob:= {X:=Nat×List Int,st:=fun x=>([.ptr 0 0,.O,.O,.O,.O,.O,.O,.slice 2 0 x.2.length 1,.O,.O,.O,.O,.O,.O,.slice 3 0 ns.length 1,.I (ns.length:Int),.I (x.1:Int)]++List.replicate 17 .O,[bI 1 s,bJ s,iI' x.2,iI' ns]),ok:=aIx s.xs ns,mu:=fun x=>ns.length - x.1,keep:=[0,7,14,15,16],casts:=[(.slot 7,.ints (some .i64))] }
abbrev w3i(s:MS):Option (aG Ob):=cE' [.I s.1,.I s.2,.slice 1 0 s.3.length 1,.I s.4,.I s.5,.I s.6,.int .u64 s.7,.int .u64 s.8,.bool s.9]
def aFF(s:MS)(lt ln hd:Int)(K:AVal->aC Ob->Prop):Prop:=(lE' s.3/\((0:Int)<=ln/\ln<=(100000:Int))/\(-1000000:Int)<=hd/\hd<=(1000000:Int))/\dE (HKY s (ndF (MS.xs s) ln hd)) (Hint.ok (HKY s (ndF (MS.xs s) ln hd))) (.ptr 0 0::.O::.O::.O::.O::.O::.O::.slice 2 0 0 1::.O::.O::.O::.O::.O::.O::.slice 3 0 (List.length (ndF s.3 ln hd)) 1::.I (↑(List.length (ndF s.3 ln hd)):Int)::.I 0::(tO' 17 [])) [w3i s,some (.ints (some .u64) s.3),some (.ints (some .i64) []),iI' (ndF s.3 ln hd)]/\ ∀(x:Hint.X (HKY s (ndF (MS.xs s) ln hd))),aIx s.3 (ndF s.3 ln hd) x->bif ilt (↑x.1:Int) (↑(List.length (ndF s.3 ln hd)):Int)then((0:Int)<=(↑x.1:Int)/\(↑x.1:Int)<(↑(List.length (ndF s.3 ln hd)):Int))/\0+Int.toNat (↑x.1:Int)*(1:Nat)<List.length (ndF s.3 ln hd)/\(lE' s.3/\True)/\True/\bif !ieq (aB (aE s.3 (List.getD (ndF s.3 ln hd) (0+Int.toNat (↑x.1:Int)*1) 0)) 19 1) 1 then(0=0/\lE' x.2/\1=1/\x.2.length+(1:Nat)<=(4294967296:Nat))/\dE (HKY s (ndF (MS.xs s) ln hd)) (fun x'=>Hint.ok (HKY s (ndF (MS.xs s) ln hd)) x'/\Hint.mu (HKY s (ndF (MS.xs s) ln hd)) x'<Hint.mu (HKY s (ndF (MS.xs s) ln hd)) x) (.ptr 0 0::.O::.O::.O::.O::.O::.O::.slice 2 0 (x.2.length+1) 1::.O::.O::.O::.O::.O::.O::.slice 3 0 (List.length (ndF s.3 ln hd)) 1::.I (↑(List.length (ndF s.3 ln hd)):Int)::.I (W ((↑x.1:Int)+1))::(tO' 17 [])) [w3i s,some (.ints (some .u64) s.3),iI' (x.2++ [aB (aE s.3 (List.getD (ndF s.3 ln hd) (0+Int.toNat (↑x.1:Int)*1) 0)) 0 10]),iI' (ndF s.3 ln hd)]else dE (HKY s (ndF (MS.xs s) ln hd)) (fun x'=>Hint.ok (HKY s (ndF (MS.xs s) ln hd)) x'/\Hint.mu (HKY s (ndF (MS.xs s) ln hd)) x'<Hint.mu (HKY s (ndF (MS.xs s) ln hd)) x) (.ptr 0 0::.O::.O::.O::.O::.O::.O::.slice 2 0 x.2.length 1::.O::.O::.O::.O::.O::.O::.slice 3 0 (List.length (ndF s.3 ln hd)) 1::.I (↑(List.length (ndF s.3 ln hd)):Int)::.I (W ((↑x.1:Int)+1))::(tO' 17 [])) [w3i s,some (.ints (some .u64) s.3),iI' x.2,iI' (ndF s.3 ln hd)]else K (.slice 2 0 x.2.length 1) [w3i s,some (.ints (some .u64) s.3),iI' x.2]
theorem TK(s:MS)(lt ln hd:Int)(K:AVal->aC Ob->Prop)(h:aFF s lt ln hd K):cT' 110 [.ptr 0 0,.agg [.I lt,.I ln],.I hd] [bI 1 s,bJ s] K:=by
 exact aLw (aD (E:=EU4) Tryz.checked.mixed (L:=fun _ _=>some (.states (HKY s (ndF s.xs ln hd)))) (n:=10) (aJ (by kernel_rfl) h))
theorem VM{ns:List Int}{i:Nat}(hi:i<ns.length):ns.take (i+1)=ns.take i++ [ns.getD i 0]:=by
 rw [List.take_succ,gD',gE' hi];rfl
theorem aCA{xs ns:List Int}{i:Nat}(hi:i<ns.length)(h:(!ieq (aB (aE xs (ns.getD i 0)) 19 1) 1)=true):kyL xs (ns.take (i+1))=kyL xs (ns.take i)++ [aB (aE xs (ns.getD i 0)) 0 10]:=by
 unfold kyL;rw [VM hi,List.filter_append,List.map_append];simp only [List.filter_cons,List.filter_nil,h,if_true,List.map_cons,List.map_nil]
theorem aIy{xs ns:List Int}{i:Nat}(hi:i<ns.length)(h:(!ieq (aB (aE xs (ns.getD i 0)) 19 1) 1)=false):kyL xs (ns.take (i+1))=kyL xs (ns.take i):=by
 unfold kyL;rw [VM hi,List.filter_append,List.map_append];simp only [List.filter_cons,List.filter_nil,h,Bool.false_eq_true,if_false,List.map_nil,List.append_nil]
theorem KI(xs ns:List Int):(kyL xs ns).length <=ns.length:=by
 unfold kyL;rw [List.length_map];exact List.length_filter_le _ _
def keyF(xs:List Int)(nd hd:Int):List Int:=kyL xs (ndF xs nd hd)
theorem jK(xs:List Int)(nd hd:Int):(keyF xs nd hd).length <=nd.toNat+1:=Nat.le_trans (KI _ _) (KL _ _ _)
theorem aIz(s:MS)(lt ln hd:Int)(K:AVal->aC Ob->Prop)(h1:0<=ln/\ln<=100000)(h2: -1000000<=hd/\hd<=1000000)(hK:K (.slice 2 0 (keyF s.xs ln hd).length 1) [bI 1 s,bJ s,iI' (keyF s.xs ln hd)]):aFF s lt ln hd K:=by
 have ac:=KL s.xs ln hd;unfold keyF at hK;refine⟨⟨rfl,h1,h2⟩,aR (H:=HKY s (ndF s.xs ln hd)) ((0:Nat),[]) rfl ⟨Nat.zero_le _,rfl⟩,?_⟩;have af:(ndF s.3 ln hd).length <=ln.toNat+1:=ac;generalize ndF s.xs ln hd=ns at hK ac⊢;rintro⟨i,out⟩ ⟨hi,ae⟩;dsimp only at hi ae;subst ae;have ah:(kyL s.xs (ns.take i)).length <=i:=Nat.le_trans (KI _ _) (List.length_take_le _ _);refine aK (fun e=>?_) (fun e=>?_)
 ·rw [bC,dT']at e;have e:(i:Int)<(ns.length:Int):=e;have aa:i<ns.length:=by omega
  have e4:W ((i:Int)+1)=((i+1:Nat):Int):=by rw [W,cG omz];rfl
  have e0:0+Int.toNat (i:Int)*1=i:=by omega
  have ag:(kyL s.xs (ns.take i)).length +1<=4294967296:=by omega
  refine⟨⟨by show(0:Int)<=(i:Int);omega,e⟩,by show 0+Int.toNat (i:Int)*1<ns.length;omega,⟨rfl,trivial⟩,trivial,aK (fun e2=>⟨⟨rfl,rfl,rfl,ag⟩,?_⟩) (fun e2=>?_)⟩
  ·have e2:(!ieq (aB (aE s.xs (ns.getD (0+Int.toNat (i:Int)*1) 0)) 19 1) 1)=true:=e2;rw [e0]at e2;refine aR (H:=HKY s ns) (i+1,kyL s.xs (ns.take (i+1))) ?_ ⟨⟨aa,rfl⟩,by show ns.length - (i+1)<ns.length - i;omega⟩
   show((HKY s ns).st (i+1,kyL s.xs (ns.take (i+1))))=_;have hl:(kyL s.xs (ns.take (i+1))).length =(kyL s.xs (ns.take i)).length +1:=by rw [aCA aa e2];simp
   simp only [HKY,hl];rw [aCA aa e2];simp only [e4,e0];rfl
  ·have e2:(!ieq (aB (aE s.xs (ns.getD (0+Int.toNat (i:Int)*1) 0)) 19 1) 1)=false:=e2;rw [e0]at e2;refine aR (H:=HKY s ns) (i+1,kyL s.xs (ns.take (i+1))) ?_ ⟨⟨aa,rfl⟩,by show ns.length - (i+1)<ns.length - i;omega⟩
   rw [aIy aa e2];simp only [HKY,e4];rfl
 ·rw [bC,dF']at e;have e: ¬(i:Int)<(ns.length:Int):=e;have aa:i=ns.length:=by omega
  subst aa;rw [List.take_length];exact hK
def kyS:aI Ob:=fun args h=>match args,h with
 | [.ptr 0 0,.agg [.int .i64 lt,.int .i64 ln],.int .i64 hd],[e1,e2]=>(match cQ 1 [e1,e2]with
   | some (l,s)=>some (.pre (l=s.xs.length/\(0<=ln/\ln<=100000)/\(-1000000<=hd/\hd<=1000000)) (.ret (.slice 2 0 (keyF s.xs ln hd).length 1) [bI 1 s,bJ s,iI' (keyF s.xs ln hd)]))
   | none=>none)
 | _,_=>none
theorem aCB:sT' 110 kyS:=by
 intro args h o ho K hK;unfold kyS at ho;split at ho
 case h_2=>cases ho
 rename_i lt ln hd e1 e2;split at ho
 case h_2=>cases ho
 rename_i l s hm;cases ho;obtain⟨⟨hl,h1,h2⟩,hK⟩:=hK;have hh:=bB hm hl;cases hh;exact TK s lt ln hd K (aIz s lt ln hd K h1 h2 hK)
noncomputable def EU5:=EU4.addS 110 kyS aCB
end Go.Sh
namespace Go.Proofs
open Go.Shelf
def Tryz.lays189_ren:Go.Shelf.Ren:=⟨fun | 189=>111 | 125=>135 | 257=>134 | 128=>180 | 129=>181 | 294=>172 | 295=>173 | 296=>174 | 297=>175 | 298=>176 | 299=>177 | 216=>140 | 300=>178 | 301=>179 | 328=>236 | 329=>237 | 330=>238 | 331=>239 | 332=>240 | 215=>186 | 343=>276 | n=>n,fun | 28=>67 | 3=>3 | 46=>212 | 0=>0 | 51=>250 | 53=>72 | 4=>4 | 183=>244 | 182=>243 | 131=>195 | 5=>5 | 9=>9 | 218=>306 | 222=>309 | 228=>336 | 229=>337 | n=>n,fun | n=>n⟩
theorem Tryz.lays189:Go.Proofs.Lays.n189 Tryz.prog Tryz.lays189_ren:= {
 mixed:=by kernel_rfl,
 f125:=Tryz.func135.trans (congrArg some (by kernel_rfl)),
 f128:=Tryz.func180.trans (congrArg some (by kernel_rfl)),
 f129:=Tryz.func181.trans (congrArg some (by kernel_rfl)),
 f189:=Tryz.func111.trans (congrArg some (by kernel_rfl)),
 f215:=Tryz.func186.trans (congrArg some (by kernel_rfl)),
 f216:=Tryz.func140.trans (congrArg some (by kernel_rfl)),
 f257:=Tryz.func134.trans (congrArg some (by kernel_rfl)),
 f294:=Tryz.func172.trans (congrArg some (by kernel_rfl)),
 f295:=Tryz.func173.trans (congrArg some (by kernel_rfl)),
 f296:=Tryz.func174.trans (congrArg some (by kernel_rfl)),
 f297:=Tryz.func175.trans (congrArg some (by kernel_rfl)),
 f298:=Tryz.func176.trans (congrArg some (by kernel_rfl)),
 f299:=Tryz.func177.trans (congrArg some (by kernel_rfl)),
 f300:=Tryz.func178.trans (congrArg some (by kernel_rfl)),
 f301:=Tryz.func179.trans (congrArg some (by kernel_rfl)),
 f328:=Tryz.func236.trans (congrArg some (by kernel_rfl)),
 f329:=Tryz.func237.trans (congrArg some (by kernel_rfl)),
 f330:=Tryz.func238.trans (congrArg some (by kernel_rfl)),
 f331:=Tryz.func239.trans (congrArg some (by kernel_rfl)),
 f332:=Tryz.func240.trans (congrArg some (by kernel_rfl)),
 f343:=Tryz.func276.trans (congrArg some (by kernel_rfl)),
 t0:=Tryz.underlying0,
 a0:=Tryz.isAgg0,
 z0:=Tryz.sizeOf0,
 v0:=Tryz.zeroValue0,
 t3:=Tryz.underlying3,
 a3:=Tryz.isAgg3,
 z3:=Tryz.sizeOf3,
 v3:=Tryz.zeroValue3,
 t4:=Tryz.underlying4,
 a4:=Tryz.isAgg4,
 z4:=Tryz.sizeOf4,
 v4:=Tryz.zeroValue4,
 t5:=Tryz.underlying5,
 a5:=Tryz.isAgg5,
 z5:=Tryz.sizeOf5,
 v5:=Tryz.zeroValue5,
 t9:=Tryz.underlying9,
 a9:=Tryz.isAgg9,
 z9:=Tryz.sizeOf9,
 v9:=Tryz.zeroValue9,
 t28:=Tryz.underlying67,
 a28:=Tryz.isAgg67,
 z28:=Tryz.sizeOf67,
 v28:=Tryz.zeroValue67,
 t46:=Tryz.underlying212,
 a46:=Tryz.isAgg212,
 z46:=Tryz.sizeOf212,
 v46:=Tryz.zeroValue212,
 t51:=Tryz.underlying250,
 a51:=Tryz.isAgg250,
 z51:=Tryz.sizeOf250,
 v51:=Tryz.zeroValue250,
 t53:=Tryz.underlying72,
 a53:=Tryz.isAgg72,
 z53:=Tryz.sizeOf72,
 v53:=Tryz.zeroValue72,
 t131:=Tryz.underlying195,
 a131:=Tryz.isAgg195,
 z131:=Tryz.sizeOf195,
 v131:=Tryz.zeroValue195,
 t182:=Tryz.underlying243,
 a182:=Tryz.isAgg243,
 z182:=Tryz.sizeOf243,
 v182:=Tryz.zeroValue243,
 t183:=Tryz.underlying244,
 a183:=Tryz.isAgg244,
 z183:=Tryz.sizeOf244,
 v183:=Tryz.zeroValue244,
 t218:=Tryz.underlying306,
 a218:=Tryz.isAgg306,
 z218:=Tryz.sizeOf306,
 v218:=Tryz.zeroValue306,
 t222:=Tryz.underlying309,
 a222:=Tryz.isAgg309,
 z222:=Tryz.sizeOf309,
 v222:=Tryz.zeroValue309,
 t228:=Tryz.underlying336,
 a228:=Tryz.isAgg336,
 z228:=Tryz.sizeOf336,
 v228:=Tryz.zeroValue336,
 t229:=Tryz.underlying337,
 a229:=Tryz.isAgg337,
 z229:=Tryz.sizeOf337,
 v229:=Tryz.zeroValue337}
end Go.Proofs
namespace Go.Sh
open Go Go.Proofs
variable [Con]
def nN(xs:List Int):List Int:=xs.mergeSort fun x y=>decide (x<=y)
theorem pI(xs:List Int):(nN xs).length =xs.length:=by unfold nN;exact List.length_mergeSort xs
theorem x9(ys:List Int)(cs:Array Value)(tail:List Value)(xs:List Int)(hl:ys.length=xs.length)(hcs:cs.toList=xs.map (Code1.val (some .i64))++tail):
 (Go.Sort.putCells (Value.int .i64) 0 ys.toArray cs).toList =ys.map (Code1.val (some .i64))++tail:=by
 apply List.ext_getElem?;intro k;rw [Array.getElem?_toList];unfold Go.Sort.putCells;rw [Array.getElem?_mapIdx];have hk:cs[k]? =(xs.map (Code1.val (some .i64))++tail)[k]? :=by rw [<-hcs,Array.getElem?_toList]
 rw [hk]
 by_cases aa:k<xs.length
 ·rw [List.getElem?_append_left (by rw [List.length_map];exact aa),List.getElem?_append_left (by rw [List.length_map];omega),List.getElem?_map,List.getElem?_map,gE' aa,gE' (by omega:k<ys.length)]
  have hc:0<=k/\k<0+ys.toArray.size:=by simp;omega
  simp only [Option.map_some];rw [if_pos hc]
  have:ys.toArray[k - 0]! =ys[k]'(by omega):=by
   rw [getElem!_pos ys.toArray (k - 0) (by simp;omega)];simp
  rw [this];rfl
 ·rw [List.getElem?_append_right (by rw [List.length_map];omega),List.getElem?_append_right (by rw [List.length_map];omega),List.length_map,List.length_map,hl]
  cases tail[k - xs.length]? with
  | none=>rfl
  | some y=>
    have hc: ¬(0<=k/\k<0+ys.toArray.size):=by simp;omega
    simp only [Option.map_some];rw [if_neg hc]
def srS:aI Ob:=fun args h=>match args,h with
 | [.slice 0 0 k 1],[some (.ints (some .i64) xs)]=>some (.pre (k=xs.length/\k<=1000000) (.ret (.tup []) [some (.ints (some .i64) (nN xs))]))
 | _,_=>none
theorem aCU:sT' 111 srS:=by
 intro args h o ho K hK;unfold srS at ho;split at ho
 case h_2=>cases ho
 rename_i k xs;cases ho;obtain⟨⟨rfl,hk⟩,hK⟩:=hK;have hK:K (.tup []) [some (.ints (some .i64) (nN xs))]:=hK;intro V hR w ao hi hf hr;obtain⟨v,vs,e,⟨base,cap,rfl,ba,hb⟩,e2⟩:=hr;have e2:vs=[]:=e2;subst e2;have ha:ao= #[.slice base xs.length cap]:=by apply Array.ext';simpa using e
 subst ha
 by_cases hx:xs=[]
 ·subst hx;refine(Go.Proofs.Any.slices_Sort_int_none Go.Proofs.Tryz.lays189 base cap w).mono ?_;rintro e w' ⟨rfl,rfl⟩;exact⟨.tup [],.tuple #[],V,_,hK,rfl,⟨#[],rfl,rfl⟩,V.le_refl,hf,Nat.le_refl _,(by rw [show nN []=[]from by simp [nN]];exact hi),aLS _⟩
 ·have a7:0<xs.length:=List.length_pos_iff.2 hx;obtain⟨hs,h1,h2,h3,h4,h5,h6,h7⟩:=hi;rcases h1 0 _ rfl with⟨q,_⟩ | ⟨b,k,hV,cs,T,tail,ah,ay,aj⟩
  ·exact absurd q hx
  rcases hb with⟨b',k',am,rfl,bc⟩ | ⟨hn,_⟩
  case inr=>omega
  rw [hV]at am;simp only [sI',pI']at am;obtain⟨rfl,rfl⟩:=am;have aa:w.heap[b]? =some (.cells cs T):=h5 0 b _ (by rw [ah];simp [PHeap.one])
  have ar:b<w.heap.size:=(Array.getElem?_eq_some_iff.1 aa).1
  have hH:Go.Sort.Holds (Value.int .i64) w b 0 xs.toArray:=by
   intro j hj;have hj:j<xs.length:=by simpa using hj
   constructor
   ·have:cs[j]? =some (.int .i64 xs[j]):=by
     rw [<-Array.getElem?_toList,aj,List.getElem?_append_left (by rw [List.length_map];exact hj),List.getElem?_map,gE' hj];rfl
    have h0:xs.toArray[j]! =xs[j]:=by rw [getElem!_pos xs.toArray j (by simpa using hj)];simp
    simp only [World.cell?,aa,Nat.zero_add,h0];exact this
   ·simp [World.frozen?,aa]
  have bb:w.heap.size=w.heap.size:=rfl;have al:=Go.Proofs.Any.slices_Sort_int Go.Proofs.Tryz.lays189 b 0 cap xs w hH ar (by omega)
  refine al.mono ?_;rintro e w' ⟨rfl,n,os,rfl⟩;have ax:(xs.mergeSort fun x y=>decide (x<=y))=nN xs:=rfl;rw [ax];have ai:=pI xs;generalize hyg:nN xs=ys at hK ai;have ak:=x9 ys cs tail xs ai aj;generalize hcg:Go.Sort.putCells (Value.int .i64) 0 ys.toArray cs=cs2 at ak
  have ae:(Go.Sort.putRow (Value.int .i64) (Go.Sort.ahead w n) b 0 ys.toArray).heap[b]? =some (.cells cs2 T):=by
   unfold Go.Sort.putRow Go.Sort.mapBlock;show(w.heap.modify b _)[b]? =_;rw [Array.getElem?_modify,if_pos rfl,aa,<-hcg];rfl
  have ac: ∀c,c≠b->(Go.Sort.putRow (Value.int .i64) (Go.Sort.ahead w n) b 0 ys.toArray).heap[c]? =w.heap[c]? :=by
   intro c hc;unfold Go.Sort.putRow Go.Sort.mapBlock;show(w.heap.modify b _)[c]? =_;rw [Array.getElem?_modify,if_neg (fun e=>hc e.symm)]
  have ap:(Go.Sort.putRow (Value.int .i64) (Go.Sort.ahead w n) b 0 ys.toArray).heap.size =w.heap.size:=by
   unfold Go.Sort.putRow Go.Sort.mapBlock;show(w.heap.modify b _).size =_;exact Array.size_modify
  have aq:(Go.Sort.putRow (Value.int .i64) (Go.Sort.ahead w n) b 0 ys.toArray).os =w.os:=rfl;have ag:(Go.Sort.putRow (Value.int .i64) (Go.Sort.ahead w n) b 0 ys.toArray).output =w.output:=rfl;generalize Go.Sort.putRow (Value.int .i64) (Go.Sort.ahead w n) b 0 ys.toArray=w2 at ae ac ap aq ag;have hg: ∀c,c<w.heap.size->(Go.Sort.grow w2 os).heap[c]? =w2.heap[c]? :=fun c hc=>Go.Sort.heap_grow_old w2 os (by omega)
  have az: ∀(c:Nat) (o:Obj),w.heap[c]? =some o->c<w.heap.size:=fun c o h=>(Array.getElem?_eq_some_iff.1 h).1
  have av:hR b=none:=by
   rcases h4 0 b with q | q
   ·rw [ah]at q;simp [PHeap.one]at q
   ·exact q
  have a8: ∀l,l≠0->hs l=.emp :=by
   intro l hl;refine h2 l ?_;cases l with
   | zero=>exact absurd rfl hl
   | succ l=>simp [toF,aL]
  refine⟨.tup [],.tuple #[],V,_,hK,rfl,⟨#[],rfl,rfl⟩,V.le_refl,hf,Nat.le_refl _,⟨fun l=>if l=0 then .one b (.cells cs2 T)else .emp,?_,?_,?_,?_,?_,?_,h7⟩,⟨aq,ag,by simp;omega,?_⟩⟩
  ·intro l e he;cases l with
   | zero=>
     have he:some (aG.ints (some .i64) ys)=some e:=he;cases he;refine .inr ⟨b,k,hV,cs2,T,tail,by simp,?_,ak⟩
     rw [<-ay,<-Array.length_toList,<-Array.length_toList,ak,aj];simp [ai]
   | succ l=>simp [toF,aL]at he
  ·intro l hl;cases l with
   | zero=>exact absurd hl (by simp [toF,aL])
   | succ l=>simp
  ·intro l m a6 c
   by_cases hl:l=0
   ·subst hl;right;simp [Ne.symm a6,PHeap.emp]
   ·left;simp [hl,PHeap.emp]
  ·intro l c
   by_cases hl:l=0
   ·subst hl
    by_cases hc:c=b
    ·right;rw [hc];exact av
    ·left;simp [PHeap.one,hc]
   ·left;simp [hl,PHeap.emp]
  ·intro l c o hc
   by_cases hl:l=0
   ·subst hl;have hc:PHeap.one b (.cells cs2 T) c=some o:=hc
    by_cases af:c=b
    ·subst af;rw [hg c ar,ae]
     simpa [PHeap.one]using hc
    ·simp [PHeap.one,af]at hc
   ·simp [hl,PHeap.emp]at hc
  ·intro c o hc;have hw:=h6 c o hc;have af:c≠b:=by intro e;rw [e,av]at hc;cases hc
   rw [hg c (az c o hw),ac c af];exact hw
  ·intro a ha;have h1:(Go.Sort.grow w2 os).frozen? a=w2.frozen? a:=Go.Sort.frozen?_grow w2 os a (by omega)
   rw [h1];unfold World.frozen?
   by_cases au:a.block=b
   ·rw [au,ae,aa]
   ·rw [ac _ au]
noncomputable def EU6:=EU5.addS 111 srS aCU
end Go.Sh
