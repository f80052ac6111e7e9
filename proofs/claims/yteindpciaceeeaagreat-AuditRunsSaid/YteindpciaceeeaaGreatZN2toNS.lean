import Derived.Shelf.Sort.Plain
import Derived.Shelf.Slices.In.SortNone
import Derived.Test.YteindpciaceeeaaGreatZSh29
set_option linter.all false
set_option maxHeartbeats 8000000
namespace Go.Sh
open Go Go.Proofs
variable [Con]
def wlS:aI Ob:=fun args h=>match args,h with
 | [.ptr 0 0],[some (.abs (.worker x) [])]=>some (.pre True (.ret (.I (W ((x.tk.length:Int) - x.en))) [some (.abs (.worker x) [])]))
 | _,_=>none
abbrev w2f(x:WKS):Option (aG Ob):=cE' [.ptr 1 0,.tslice 2 0 x.tk.length 3,.I x.en,.raw (.pointer none),.slice 3 0 x.tl.length 1,.slice 4 0 x.sl.length 1]
theorem aJ0(x:WKS)(K:AVal->aB Ob->Prop)(hK:K (.I (W ((x.tk.length:Int) - x.en))) [w2f x,some (.abs (.store x.t x.n x.st) []),some (.tab cK3 x.tk),iI' x.tl,iI' x.sl]):cT' 91 [.ptr 0 0] [w2f x,some (.abs (.store x.t x.n x.st) []),some (.tab cK3 x.tk),iI' x.tl,iI' x.sl] K:=by
 refine aK8 (cM' (E:=EN1) (q:=K (.I (W ((↑x.4.length:Int) - x.5))) [cE' [.ptr 1 0,.tslice 2 0 x.4.length 3,.I x.5,.N,.slice 3 0 x.8.length 1,.slice 4 0 x.9.length 1],some (.abs (.store x.1 x.2 x.3) []),some (.tab cK3 x.4),iI' x.8,iI' x.9]) (by kernel_rfl) ?_)
 exact hK
abbrev w2g(x:WKS):Option (aG Ob):=cE' [.ptr 1 0,.tslice 2 0 x.tk.length 3,.I x.en,.ptr 3 0,.slice 4 0 x.tl.length 1,.slice 5 0 x.sl.length 1]
theorem aJ1(x:WKS)(K:AVal->aB Ob->Prop)(hK:K (.I (W ((x.tk.length:Int) - x.en))) [w2g x,some (.abs (.store x.t x.n x.st) []),some (.tab cK3 x.tk),some (.abs (.doer x.t x.n x.d) [1]),iI' x.tl,iI' x.sl]):cT' 91 [.ptr 0 0] [w2g x,some (.abs (.store x.t x.n x.st) []),some (.tab cK3 x.tk),some (.abs (.doer x.t x.n x.d) [1]),iI' x.tl,iI' x.sl] K:=by
 refine aK8 (cM' (E:=EN1) (q:=K (.I (W ((↑x.4.length:Int) - x.5))) [cE' [.ptr 1 0,.tslice 2 0 x.4.length 3,.I x.5,.ptr 3 0,.slice 4 0 x.8.length 1,.slice 5 0 x.9.length 1],some (.abs (.store x.1 x.2 x.3) []),some (.tab cK3 x.4),some (.abs (.doer x.1 x.2 x.7) [1]),iI' x.8,iI' x.9]) (by kernel_rfl) ?_)
 exact hK
theorem aIM:sT' 91 wlS:=by
 intro args h o ho K g;unfold wlS at ho;split at ho<;>cases ho
 rename_i x;obtain⟨ok,g⟩:=g;have g:K (.I (W ((x.tk.length:Int) - x.en))) [some (.abs (.worker x) [])]:=g;refine aLi ?_;cases e:x.b with
 | false=>
   refine aLc (h2:=nB x) (aR.unpack (.worker x) 0 0 (nB x) [] rfl (congrArg (Prod.mk 0) (pN e)) rfl rfl) ?_;refine aJ0 x _ ⟨⟨_,_,aE.pack [some (.abs (.worker x) [])] (.worker x) 0 0 (nB x) [] (by kernel_rfl) rfl (congrArg (Prod.mk 0) (pN e)) (by kernel_rfl),g⟩⟩
 | true=>
   refine aLc (h2:=qJ x) (aR.unpack (.worker x) 0 0 (qJ x) [] rfl (congrArg (Prod.mk 0) (w6 e)) rfl rfl) ?_;refine aJ1 x _ ⟨⟨_,_,aE.pack [some (.abs (.worker x) [])] (.worker x) 0 0 (qJ x) [] (by kernel_rfl) rfl (congrArg (Prod.mk 0) (w6 e)) (by kernel_rfl),g⟩⟩
noncomputable def EW1:=EN1.addS 91 wlS aIM
structure WK1 where
 t:Int
 n:Int
 st:STS
 tk:List (List Int)
 en:Int
 d:DOS
 tl:List Int
 sl:List Int
instance:Inhabited WK1:=⟨⟨0,0,⟨0,0,[]⟩,[],0,eT,[],[]⟩⟩
abbrev KT(x:WK1):aB Ob:=[cE' [.ptr 1 0,.tslice 2 0 x.tk.length 3,.I x.en,.ptr 3 0,.slice 4 0 x.tl.length 1,.slice 5 0 x.sl.length 1],some (.abs (.store x.t x.n x.st) []),some (.tab tkK x.tk),some (.abs (.doer x.t x.n x.d) [1]),iI' x.tl,iI' x.sl]
def aIL(x:WKS):WK1:=⟨x.t,x.n,x.st,x.tk,x.en,x.d,x.tl,x.sl⟩
def wbP(v:AVal)(g:aB Ob):Option (Prop×WK1):=match v,g with
 | .bool true,[some (.cells [.ptr 1 0,.tslice 2 0 k 3,.int .i64 en,.ptr 3 0,.slice 4 0 a 1,.slice 5 0 b 1]),some (.abs (.store t n st) []),some (.tab [some .i64,some .i64,some .i64] tk),some (.abs (.doer t1 n1 d) [1]),some (.ints (some .i64) tl),some (.ints (some .i64) sl)]=>some (k=tk.length/\a=tl.length/\b=sl.length/\t1=t/\n1=n,⟨t,n,st,tk,en,d,tl,sl⟩)
 | _,_=>none
theorem aF5:bP (obI tbl) 1 wbP (fun y=>.ret (.bool true) (KT y)):=by
 intro v g p x hp hq K hK;unfold wbP at hp;split at hp
 case h_2=>cases hp
 cases hp;obtain⟨rfl,rfl,rfl,rfl,rfl⟩:=hq;exact⟨⟨_,_,aLo _ _ _,hK⟩⟩
abbrev w2h(x:WKS):=List.getD x.4 (0+Int.toNat x.5) []
def O9(tr:Int)(x:WKS):Tr WK1:=.pre ((0:Int)<=x.5/\x.5<(↑x.4.length:Int)) (.pre (0+Int.toNat x.5<x.4.length) (.pre (QX x.1 x.2 (List.headD (w2h x) 0) (List.headD (List.tail (w2h x)) 0) (List.headD (List.tail (List.tail (w2h x))) 0) tr x.3/\True) (.pre (0=0/\lE' x.8/\1=1/\x.8.length+(1:Nat)<=(4294967296:Nat)) (.pre (lE' x.4/\x.8.length+(1:Nat)=List.length (x.8++ [0])/\lE' x.9/\x.1=x.1/\x.2=x.2) (.ret {x with st:=(dqNF x.1 x.2 (List.headD (w2h x) 0) (List.headD (List.tail (w2h x)) 0) (List.headD (List.tail (List.tail (w2h x))) 0) tr x.3).2,d:=(dqNF x.1 x.2 (List.headD (w2h x) 0) (List.headD (List.tail (w2h x)) 0) (List.headD (List.tail (List.tail (w2h x))) 0) tr x.3).1,tl:=x.8++ [0],sl:=x.9})))))
theorem aBs(tr:Int)(x:WKS)(K:WK1->Prop)(h:(O9 tr x).run K):cT' 95 [.ptr 0 0,.I tr] [cE' [.ptr 1 0,.tslice 2 0 x.tk.length 3,.I x.en,.raw (.pointer none),.slice 3 0 x.tl.length 1,.slice 4 0 x.sl.length 1],some (.abs (.store x.t x.n x.st) []),some (.tab cK3 x.tk),iI' x.tl,iI' x.sl] (eU 1 0 [] [] wbP K):=by
 exact cM' (E:=EW1) (by kernel_rfl) h
theorem aJZ(tr:Int)(x:WKS)(K:AVal->aB Ob->Prop)(hK:K (.bool false) (qJ x)):cT' 95 [.ptr 0 0,.I tr] [cE' [.ptr 1 0,.tslice 2 0 x.tk.length 3,.I x.en,.ptr 3 0,.slice 4 0 x.tl.length 1,.slice 5 0 x.sl.length 1],some (.abs (.store x.t x.n x.st) []),some (.tab cK3 x.tk),some (.abs (.doer x.t x.n x.d) [1]),iI' x.tl,iI' x.sl] K:=by
 refine aK8 (cM' (E:=EW1) (q:=K (.bool false) [cE' [.ptr 1 0,.tslice 2 0 x.4.length 3,.I x.5,.ptr 3 0,.slice 4 0 x.8.length 1,.slice 5 0 x.9.length 1],some (.abs (.store x.1 x.2 x.3) []),some (.tab cK3 x.4),some (.abs (.doer x.1 x.2 x.7) [1]),iI' x.8,iI' x.9]) (by kernel_rfl) ?_)
 exact hK
def wbF(tr:Int)(x:WKS):WK1:=bif x.b then aIL x else(O9 tr x).val
def VF(tr:Int)(x:WKS):Prop:=bif x.b then True else(O9 tr x).ok
def wbS:aI Ob:=fun args h=>match args,h with
 | [.ptr 0 0,.int .i64 tr],[some (.abs (.worker x) [])]=>some (.pre (VF tr x) (.ret (.bool (!x.b)) (KT (wbF tr x))))
 | _,_=>none
theorem aII:sT' 95 wbS:=by
 intro args h o ho K g;unfold wbS at ho;split at ho<;>cases ho
 rename_i tr x;obtain⟨ok,g⟩:=g;have g:K (.bool (!x.b)) (KT (wbF tr x)):=g;unfold wbF at g;unfold VF at ok;cases e:x.b with
 | false=>
   rw [e]at ok g;exact aK9 (root:=0) (pos:=[]) (cs:=[]) (parse:=wbP) (fin:=fun y=>.ret (.bool true) (KT y)) aF5 (aR.unpack (.worker x) 0 0 (nB x) [] rfl (congrArg (Prod.mk 0) (pN e)) rfl rfl) (aBs tr x _ (aLf ok g))
 | true=>
   rw [e]at g;exact aLc (h2:=qJ x) (aR.unpack (.worker x) 0 0 (qJ x) [] rfl (congrArg (Prod.mk 0) (w6 e)) rfl rfl) (aJZ tr x K g)
noncomputable def EW2:=EW1.addS 95 wbS aII
structure WkO where
 code:Int
 okk:Bool
 val:Int
 d:Bool
 x:WKS
 s:MS
instance:Inhabited WkO:=⟨⟨0,false,0,false,default,⟨0,0,[],0,0,0,0,0,false⟩⟩⟩
abbrev PK(y:WkO):aB Ob:=[some (.abs (.worker y.x) []),none,none,none,none,none,bF 7 y.s,bG y.s]
abbrev wkV(y:WkO):AVal:=.tup [.agg [.I y.code,.bool y.okk,.I y.val],.bool y.d]
def aGb(v:AVal)(g:aB Ob):Option (Prop×WkO):=match v,g with
 | .tup [.agg [.int .i64 code,.bool okk,.int .i64 val],.bool dn],[some (.cells [.ptr 1 0,.tslice 2 0 k 3,.int .i64 en,.ptr 3 0,.slice 4 0 a 1,.slice 5 0 b 1]),some (.abs (.store t n st) []),some (.tab [some .i64,some .i64,some .i64] tk),some (.abs (.doer t1 n1 d) [1]),some (.ints (some .i64) tl),some (.ints (some .i64) sl),e1,e2]=>(match cO 7 [e1,e2]with
   | some (l,s)=>some (k=tk.length/\a=tl.length/\b=sl.length/\t1=t/\n1=n/\l=s.xs.length,⟨code,okk,val,dn,⟨t,n,st,tk,en,true,d,tl,sl⟩,s⟩)
   | none=>none)
 | _,_=>none
def aGa(v:AVal)(g:aB Ob):Option (Prop×WkO):=match v,g with
 | .tup [.agg [.int .i64 code,.bool okk,.int .i64 val],.bool dn],[some (.cells [.ptr 1 0,.tslice 2 0 k 3,.int .i64 en,.raw (.pointer none),.slice 4 0 a 1,.slice 5 0 b 1]),some (.abs (.store t n st) []),some (.tab [some .i64,some .i64,some .i64] tk),_,some (.ints (some .i64) tl),some (.ints (some .i64) sl),e1,e2]=>(match cO 7 [e1,e2]with
   | some (l,s)=>some (k=tk.length/\a=tl.length/\b=sl.length/\l=s.xs.length,⟨code,okk,val,dn,⟨t,n,st,tk,en,false,eT,tl,sl⟩,s⟩)
   | none=>none)
 | _,_=>none
def aGc(v:AVal)(g:aB Ob):Option (Prop×WkO):=match v,g with
 | .tup [.agg [.int .i64 code,.bool okk,.int .i64 val],.bool dn],[some (.cells [.ptr 1 0,.tslice 2 0 k 3,.int .i64 en,.raw (.pointer none),.slice 4 0 a 1,.slice 8 0 b 1]),some (.abs (.store t n st) []),some (.tab [some .i64,some .i64,some .i64] tk),_,some (.ints (some .i64) tl),_,e1,e2,some (.ints (some .i64) sl)]=>(match cO 7 [e1,e2]with
   | some (l,s)=>some (k=tk.length/\a=tl.length/\b=sl.length/\l=s.xs.length,⟨code,okk,val,dn,⟨t,n,st,tk,en,false,eT,tl,sl⟩,s⟩)
   | none=>none)
 | _,_=>none
def wsP(v:AVal)(g:aB Ob):Option (Prop×WkO):=match aGb v g with
 | some r=>some r
 | none=>(match aGa v g with
   | some r=>some r
   | none=>aGc v g)
theorem aBy:bP (obI tbl) 8 aGb (fun y=>.ret (wkV y) (PK y)):=by
 intro v g p x hp hq K hK;unfold aGb at hp;split at hp
 case h_2=>cases hp
 rename_i code okk val dn k en a b t n st tk t1 n1 d tl sl e1 e2;split at hp
 case h_2=>cases hp
 rename_i l s hm;cases hp;obtain⟨rfl,rfl,rfl,rfl,rfl,hl⟩:=hq;cases bC hm hl;exact⟨⟨_,_,((aE.move 1 (of_decide_eq_true rfl)).trans ((aE.move 2 (of_decide_eq_true rfl)).trans ((aE.move 3 (of_decide_eq_true rfl)).trans ((aE.move 4 (of_decide_eq_true rfl)).trans ((aE.move 5 (of_decide_eq_true rfl)).trans ((aLh (v2:=wkV ⟨code,okk,val,dn,⟨t1,n1,st,tk,en,true,d,tl,sl⟩,s⟩) (g2:=aP (PK ⟨code,okk,val,dn,⟨t1,n1,st,tk,en,true,d,tl,sl⟩,s⟩) 0 0 (qJ ⟨t1,n1,st,tk,en,true,d,tl,sl⟩) []) (by kernel_rfl) (by kernel_rfl)).trans (aE.pack (PK ⟨code,okk,val,dn,⟨t1,n1,st,tk,en,true,d,tl,sl⟩,s⟩) (.worker ⟨t1,n1,st,tk,en,true,d,tl,sl⟩) 0 0 (qJ ⟨t1,n1,st,tk,en,true,d,tl,sl⟩) [] rfl rfl (congrArg (Prod.mk 0) (w6 rfl)) (by kernel_rfl)))))))),hK⟩⟩
theorem aBx:bP (obI tbl) 8 aGa (fun y=>.ret (wkV y) (PK y)):=by
 intro v g p x hp hq K hK;unfold aGa at hp;split at hp
 case h_2=>cases hp
 rename_i code okk val dn k en a b t n st tk e3 tl sl e1 e2;split at hp
 case h_2=>cases hp
 rename_i l s hm;cases hp;obtain⟨rfl,rfl,rfl,hl⟩:=hq;cases bC hm hl;exact⟨⟨_,_,((aE.weak (kI _ 3 none trivial)).trans ((aE.move 1 (of_decide_eq_true rfl)).trans ((aE.move 2 (of_decide_eq_true rfl)).trans ((aE.move 4 (of_decide_eq_true rfl)).trans ((aE.move 5 (of_decide_eq_true rfl)).trans ((aLh (v2:=wkV ⟨code,okk,val,dn,⟨t,n,st,tk,en,false,eT,tl,sl⟩,s⟩) (g2:=aP (PK ⟨code,okk,val,dn,⟨t,n,st,tk,en,false,eT,tl,sl⟩,s⟩) 0 0 (nB ⟨t,n,st,tk,en,false,eT,tl,sl⟩) []) (by kernel_rfl) (by kernel_rfl)).trans (aE.pack (PK ⟨code,okk,val,dn,⟨t,n,st,tk,en,false,eT,tl,sl⟩,s⟩) (.worker ⟨t,n,st,tk,en,false,eT,tl,sl⟩) 0 0 (nB ⟨t,n,st,tk,en,false,eT,tl,sl⟩) [] rfl rfl (congrArg (Prod.mk 0) (pN rfl)) (by kernel_rfl)))))))),hK⟩⟩
theorem aBz:bP (obI tbl) 8 aGc (fun y=>.ret (wkV y) (PK y)):=by
 intro v g p x hp hq K hK;unfold aGc at hp;split at hp
 case h_2=>cases hp
 rename_i code okk val dn k en a b t n st tk e3 tl e4 e1 e2 sl;split at hp
 case h_2=>cases hp
 rename_i l s hm;cases hp;obtain⟨rfl,rfl,rfl,hl⟩:=hq;cases bC hm hl;exact⟨⟨_,_,((aE.weak (kI _ 3 none trivial)).trans ((aE.weak (kI _ 5 none trivial)).trans ((aE.move 1 (of_decide_eq_true rfl)).trans ((aE.move 2 (of_decide_eq_true rfl)).trans ((aE.move 4 (of_decide_eq_true rfl)).trans ((aE.move 8 (of_decide_eq_true rfl)).trans ((aE.pick [0,1,2,3,4,5,6,7,9,10,11,12] rfl).trans ((aLh (v2:=wkV ⟨code,okk,val,dn,⟨t,n,st,tk,en,false,eT,tl,sl⟩,s⟩) (g2:=aP (PK ⟨code,okk,val,dn,⟨t,n,st,tk,en,false,eT,tl,sl⟩,s⟩) 0 0 (nB ⟨t,n,st,tk,en,false,eT,tl,sl⟩) []) (by kernel_rfl) (by kernel_rfl)).trans (aE.pack (PK ⟨code,okk,val,dn,⟨t,n,st,tk,en,false,eT,tl,sl⟩,s⟩) (.worker ⟨t,n,st,tk,en,false,eT,tl,sl⟩) 0 0 (nB ⟨t,n,st,tk,en,false,eT,tl,sl⟩) [] rfl rfl (congrArg (Prod.mk 0) (pN rfl)) (by kernel_rfl)))))))))),hK⟩⟩
theorem aGd:bP (obI tbl) 8 wsP (fun y=>.ret (wkV y) (PK y)):=by
 intro v g p x hp hq K hK;unfold wsP at hp;split at hp
 ·rename_i r hr;cases hp;exact aBy v g p x hr hq K hK
 split at hp
 ·rename_i r hr;cases hp;exact aBx v g p x hr hq K hK
 exact aBz v g p x hp hq K hK
abbrev w2i(s:MS)(x:WK1):=uM x.1 x.2 x.6 x.3 s
abbrev w2j(x:WK1):=W (List.getD x.7 (0+Int.toNat x.5*1) 0+1)
def wsT(x:WK1)(s:MS):Tr WkO:=.pre ((0:Int)<=x.5/\x.5<(↑x.7.length:Int)) (.pre (0+Int.toNat x.5*(1:Nat)<x.7.length) (.pre ((0:Int)<=x.5/\x.5<(↑x.7.length:Int)) (.pre (0+Int.toNat x.5*(1:Nat)<x.7.length) (.pre ((lE' s.3/\x.1=x.1/\x.2=x.2)/\X7 x.1 x.2 x.6 x.3 s) (.ite (w2i s x).1 (.ite (DqO.x (w2i s x)).4 (.pre (0=0/\lE' x.8/\1=1/\x.8.length+(1:Nat)<=(4294967296:Nat)) (.pre (lE' x.4/\x.7.length=List.length (List.set x.7 (0+Int.toNat x.5*1) (w2j x))/\x.8.length+(1:Nat)=List.length (x.8++ [x.5])/\lE' (DqO.s (w2i s x)).3) (.ret {code:=(DqO.x (w2i s x)).1,okk:=(DqO.x (w2i s x)).2,val:=(DqO.x (w2i s x)).3,d:=true,x:= {x with st:=(w2i s x).3,en:=W (x.5+1),b:=false,d:=eT,tl:=List.set x.7 (0+Int.toNat x.5*1) (w2j x),sl:=x.8++ [x.5] },s:=(w2i s x).4}))) (.pre (lE' x.4/\x.7.length=List.length (List.set x.7 (0+Int.toNat x.5*1) (w2j x))/\lE' x.8/\lE' (DqO.s (w2i s x)).3) (.ret {code:=(DqO.x (w2i s x)).1,okk:=(DqO.x (w2i s x)).2,val:=(DqO.x (w2i s x)).3,d:=true,x:= {x with st:=(w2i s x).3,en:=W (x.5+1),b:=false,d:=eT,tl:=List.set x.7 (0+Int.toNat x.5*1) (w2j x),sl:=x.8},s:=(w2i s x).4}))) (.pre (lE' x.4/\x.7.length=List.length (List.set x.7 (0+Int.toNat x.5*1) (w2j x))/\lE' x.8/\x.1=x.1/\x.2=x.2/\lE' (DqO.s (w2i s x)).3) (.ret {code:=0,okk:=false,val:=0,d:=false,x:= {x with st:=(w2i s x).3,b:=true,d:=(w2i s x).2,tl:=List.set x.7 (0+Int.toNat x.5*1) (w2j x),sl:=x.8},s:=(w2i s x).4})))))))
theorem aGe(x:WK1)(s:MS)(K:WkO->Prop)(h:(wsT x s).run K):cT' 97 [.ptr 0 0,.ptr 6 0] [cE' [.ptr 1 0,.tslice 2 0 x.tk.length 3,.I x.en,.ptr 3 0,.slice 4 0 x.tl.length 1,.slice 5 0 x.sl.length 1],some (.abs (.store x.t x.n x.st) []),some (.tab cK3 x.tk),some (.abs (.doer x.t x.n x.d) [1]),iI' x.tl,iI' x.sl,bF 7 s,bG s] (eU 8 0 [] [] wsP K):=by
 exact cM' (E:=EW2) (by kernel_rfl) h
def wsF(x:WK1)(s:MS):WkO:=(wsT x s).val
def aBw(x:WK1)(s:MS):Prop:=(wsT x s).ok
def wsS:aI Ob:=fun args h=>match args,h with
 | [.ptr 0 0,.ptr 6 0],[some (.cells [.ptr 1 0,.tslice 2 0 k 3,.int .i64 en,.ptr 3 0,.slice 4 0 a 1,.slice 5 0 b 1]),some (.abs (.store t n st) []),some (.tab [some .i64,some .i64,some .i64] tk),some (.abs (.doer t1 n1 d) [1]),some (.ints (some .i64) tl),some (.ints (some .i64) sl),e1,e2]=>(match cO 7 [e1,e2]with
   | some (l,s)=>some (.pre ((k=tk.length/\a=tl.length/\b=sl.length/\t1=t/\n1=n/\l=s.xs.length)/\aBw ⟨t,n,st,tk,en,d,tl,sl⟩ s) (.ret (wkV (wsF ⟨t,n,st,tk,en,d,tl,sl⟩ s)) (PK (wsF ⟨t,n,st,tk,en,d,tl,sl⟩ s))))
   | none=>none)
 | _,_=>none
theorem aIP:sT' 97 wsS:=by
 intro args h o ho K g;unfold wsS at ho;split at ho
 case h_2=>cases ho
 rename_i k en a b t n st tk t1 n1 d tl sl e1 e2;split at ho<;>cases ho
 rename_i l s hm;obtain⟨⟨⟨rfl,rfl,rfl,rfl,rfl,hl⟩,ok⟩,g⟩:=g;cases bC hm hl;refine aLm (root:=0) (pos:=[]) (cs:=[]) (parse:=wsP) (fin:=fun y=>.ret (wkV y) (PK y)) aGd ?_;exact aGe ⟨t1,n1,st,tk,en,d,tl,sl⟩ s _ (aLf ok g)
noncomputable def EW3:=EW2.addS 97 wsS aIP
def dtS:aI Ob:=fun args h=>match args,h with
 | [.ptr 0 0],[some (.abs (.doer t n x) [1]),some (.abs (.store t2 n2 st) [])]=>some (.pre True (.ret (.agg [.I x.sh,.I x.kd,.I x.ky]) [some (.abs (.doer t n x) [1]),some (.abs (.store t2 n2 st) [])]))
 | _,_=>none
abbrev w2k(n n2:Int)(st:STS)(t t2:Int)(x:DOS):aB Ob:=[some (.abs (.doer t n x) [1]),some (.abs (.store t2 n2 st) [])]
abbrev w2l(x:DOS):List AVal:=[.I x.sh,.I x.kd,.I x.ky]
theorem aG9(t n t2 n2:Int)(x:DOS)(st:STS)(K:AVal->aB Ob->Prop)(hK:K (.agg (w2l x)) (aP (w2k n n2 st t t2 x) 0 1 (iQ t n x) [1])):cT' 96 [.ptr 0 0] (aP (w2k n n2 st t t2 x) 0 1 (iQ t n x) [1]) K:=by
 refine aK8 ?_;exact cM' (E:=EW3) (by kernel_rfl) hK
theorem aHa(t n t2 n2:Int)(x:DOS)(st:STS)(K:AVal->aB Ob->Prop)(hK:K (.agg (w2l x)) (aP (w2k n n2 st t t2 x) 0 1 (iR t n x) [1])):cT' 96 [.ptr 0 0] (aP (w2k n n2 st t t2 x) 0 1 (iR t n x) [1]) K:=by
 refine aK8 ?_;exact cM' (E:=EW3) (by kernel_rfl) hK
theorem aHb(t n t2 n2:Int)(x:DOS)(st:STS)(K:AVal->aB Ob->Prop)(hK:K (.agg (w2l x)) (aP (w2k n n2 st t t2 x) 0 1 (iS t n x) [1])):cT' 96 [.ptr 0 0] (aP (w2k n n2 st t t2 x) 0 1 (iS t n x) [1]) K:=by
 refine aK8 ?_;exact cM' (E:=EW3) (by kernel_rfl) hK
theorem aHc(t n t2 n2:Int)(x:DOS)(st:STS)(K:AVal->aB Ob->Prop)(hK:K (.agg (w2l x)) (aP (w2k n n2 st t t2 x) 0 1 (iT t n x) [1])):cT' 96 [.ptr 0 0] (aP (w2k n n2 st t t2 x) 0 1 (iT t n x) [1]) K:=by
 refine aK8 ?_;exact cM' (E:=EW3) (by kernel_rfl) hK
theorem aHd(t n t2 n2:Int)(x:DOS)(st:STS)(K:AVal->aB Ob->Prop)(hK:K (.agg (w2l x)) (aP (w2k n n2 st t t2 x) 0 1 (iU t n x) [1])):cT' 96 [.ptr 0 0] (aP (w2k n n2 st t t2 x) 0 1 (iU t n x) [1]) K:=by
 refine aK8 ?_;exact cM' (E:=EW3) (by kernel_rfl) hK
theorem aHe(t n t2 n2:Int)(x:DOS)(st:STS)(K:AVal->aB Ob->Prop)(hK:K (.agg (w2l x)) (aP (w2k n n2 st t t2 x) 0 1 (iW t n x) [1])):cT' 96 [.ptr 0 0] (aP (w2k n n2 st t t2 x) 0 1 (iW t n x) [1]) K:=by
 refine aK8 ?_;exact cM' (E:=EW3) (by kernel_rfl) hK
theorem aHf(t n t2 n2:Int)(x:DOS)(st:STS)(K:AVal->aB Ob->Prop)(hK:K (.agg (w2l x)) (aP (w2k n n2 st t t2 x) 0 1 (gJ t n x) [1])):cT' 96 [.ptr 0 0] (aP (w2k n n2 st t t2 x) 0 1 (gJ t n x) [1]) K:=by
 refine aK8 ?_;exact cM' (E:=EW3) (by kernel_rfl) hK
theorem aBS(t n t2 n2:Int)(x:DOS)(st:STS)(K:AVal->aB Ob->Prop)(hK:K (.agg (w2l x)) (aP (w2k n n2 st t t2 x) 0 1 (d4 t n x) [1])):cT' 96 [.ptr 0 0] (aP (w2k n n2 st t t2 x) 0 1 (d4 t n x) [1]) K:=by
 refine aK8 ?_;exact cM' (E:=EW3) (by kernel_rfl) hK
theorem aHh(t n t2 n2:Int)(x:DOS)(st:STS)(K:AVal->aB Ob->Prop)(hK:K (.agg (w2l x)) (aP (w2k n n2 st t t2 x) 0 1 (iX t n x) [1])):cT' 96 [.ptr 0 0] (aP (w2k n n2 st t t2 x) 0 1 (iX t n x) [1]) K:=by
 refine aK8 ?_;exact cM' (E:=EW3) (by kernel_rfl) hK
theorem aJm(t n t2 n2:Int)(x:DOS)(st:STS)(K:AVal->aB Ob->Prop)(hK:K (.agg (w2l x)) (aP (w2k n n2 st t t2 x) 0 1 (pU t n x) [1])):cT' 96 [.ptr 0 0] (aP (w2k n n2 st t t2 x) 0 1 (pU t n x) [1]) K:=by
 refine aK8 ?_;exact cM' (E:=EW3) (by kernel_rfl) hK
theorem aHg:sT' 96 dtS:=by
 intro args h o ho K g;unfold dtS at ho;split at ho<;>cases ho
 rename_i t n x t2 n2 st;obtain⟨_,g⟩:=g;have g:K (.agg [.I x.sh,.I x.kd,.I x.ky]) [some (.abs (.doer t n x) [1]),some (.abs (.store t2 n2 st) [])]:=g;refine aLi ?_
 by_cases e0:x.at'=0
 ·refine aLc (aR.unpack (.doer t n x) 0 1 (gJ t n x) [1] rfl (congrArg (Prod.mk 1) (qU e0)) (by kernel_rfl) rfl) ?_
  exact aHf t n t2 n2 x st _ ⟨⟨_,_,aE.pack [some (.abs (.doer t n x) [1]),some (.abs (.store t2 n2 st) [])] (.doer t n x) 0 1 (gJ t n x) [1] rfl rfl (congrArg (Prod.mk 1) (qU e0)) (by kernel_rfl),g⟩⟩
 by_cases e1:x.at'=1
 ·refine aLc (aR.unpack (.doer t n x) 0 1 (d4 t n x) [1] rfl (congrArg (Prod.mk 1) (uD e1)) (by kernel_rfl) rfl) ?_
  exact aBS t n t2 n2 x st _ ⟨⟨_,_,aE.pack [some (.abs (.doer t n x) [1]),some (.abs (.store t2 n2 st) [])] (.doer t n x) 0 1 (d4 t n x) [1] rfl rfl (congrArg (Prod.mk 1) (uD e1)) (by kernel_rfl),g⟩⟩
 by_cases e5:x.at'=5
 ·refine aLc (aR.unpack (.doer t n x) 0 1 (d4 t n x) [1] rfl (congrArg (Prod.mk 1) (uH e5)) (by kernel_rfl) rfl) ?_
  exact aBS t n t2 n2 x st _ ⟨⟨_,_,aE.pack [some (.abs (.doer t n x) [1]),some (.abs (.store t2 n2 st) [])] (.doer t n x) 0 1 (d4 t n x) [1] rfl rfl (congrArg (Prod.mk 1) (uH e5)) (by kernel_rfl),g⟩⟩
 by_cases e2:x.at'=2
 ·refine aLc (aR.unpack (.doer t n x) 0 1 (iT t n x) [1] rfl (congrArg (Prod.mk 1) (uE e2)) (by kernel_rfl) rfl) ?_
  exact aHc t n t2 n2 x st _ ⟨⟨_,_,aE.pack [some (.abs (.doer t n x) [1]),some (.abs (.store t2 n2 st) [])] (.doer t n x) 0 1 (iT t n x) [1] rfl rfl (congrArg (Prod.mk 1) (uE e2)) (by kernel_rfl),g⟩⟩
 by_cases e3:x.at'=3
 ·refine aLc (aR.unpack (.doer t n x) 0 1 (iW t n x) [1] rfl (congrArg (Prod.mk 1) (uF e3)) (by kernel_rfl) rfl) ?_
  exact aHe t n t2 n2 x st _ ⟨⟨_,_,aE.pack [some (.abs (.doer t n x) [1]),some (.abs (.store t2 n2 st) [])] (.doer t n x) 0 1 (iW t n x) [1] rfl rfl (congrArg (Prod.mk 1) (uF e3)) (by kernel_rfl),g⟩⟩
 by_cases e4:x.at'=4
 ·refine aLc (aR.unpack (.doer t n x) 0 1 (iQ t n x) [1] rfl (congrArg (Prod.mk 1) (uG e4)) (by kernel_rfl) rfl) ?_
  exact aG9 t n t2 n2 x st _ ⟨⟨_,_,aE.pack [some (.abs (.doer t n x) [1]),some (.abs (.store t2 n2 st) [])] (.doer t n x) 0 1 (iQ t n x) [1] rfl rfl (congrArg (Prod.mk 1) (uG e4)) (by kernel_rfl),g⟩⟩
 by_cases e6:x.at'=6
 ·refine aLc (aR.unpack (.doer t n x) 0 1 (iR t n x) [1] rfl (congrArg (Prod.mk 1) (uI e6)) (by kernel_rfl) rfl) ?_
  exact aHa t n t2 n2 x st _ ⟨⟨_,_,aE.pack [some (.abs (.doer t n x) [1]),some (.abs (.store t2 n2 st) [])] (.doer t n x) 0 1 (iR t n x) [1] rfl rfl (congrArg (Prod.mk 1) (uI e6)) (by kernel_rfl),g⟩⟩
 by_cases e7:x.at'=7
 ·refine aLc (aR.unpack (.doer t n x) 0 1 (iU t n x) [1] rfl (congrArg (Prod.mk 1) (uJ e7)) (by kernel_rfl) rfl) ?_
  exact aHd t n t2 n2 x st _ ⟨⟨_,_,aE.pack [some (.abs (.doer t n x) [1]),some (.abs (.store t2 n2 st) [])] (.doer t n x) 0 1 (iU t n x) [1] rfl rfl (congrArg (Prod.mk 1) (uJ e7)) (by kernel_rfl),g⟩⟩
 by_cases e8:x.at'=8
 ·refine aLc (aR.unpack (.doer t n x) 0 1 (iS t n x) [1] rfl (congrArg (Prod.mk 1) (uK e8)) (by kernel_rfl) rfl) ?_
  exact aHb t n t2 n2 x st _ ⟨⟨_,_,aE.pack [some (.abs (.doer t n x) [1]),some (.abs (.store t2 n2 st) [])] (.doer t n x) 0 1 (iS t n x) [1] rfl rfl (congrArg (Prod.mk 1) (uK e8)) (by kernel_rfl),g⟩⟩
 by_cases e9:x.at'=9
 ·refine aLc (aR.unpack (.doer t n x) 0 1 (iX t n x) [1] rfl (congrArg (Prod.mk 1) (uL e9)) (by kernel_rfl) rfl) ?_
  exact aHh t n t2 n2 x st _ ⟨⟨_,_,aE.pack [some (.abs (.doer t n x) [1]),some (.abs (.store t2 n2 st) [])] (.doer t n x) 0 1 (iX t n x) [1] rfl rfl (congrArg (Prod.mk 1) (uL e9)) (by kernel_rfl),g⟩⟩
 refine aLc (aR.unpack (.doer t n x) 0 1 (pU t n x) [1] rfl (congrArg (Prod.mk 1) (vF ⟨e0,e1,e5,e2,e3,e4,e6,e7,e8,e9⟩)) (by kernel_rfl) rfl) ?_
 exact aJm t n t2 n2 x st _ ⟨⟨_,_,aE.pack [some (.abs (.doer t n x) [1]),some (.abs (.store t2 n2 st) [])] (.doer t n x) 0 1 (pU t n x) [1] rfl rfl (congrArg (Prod.mk 1) (vF ⟨e0,e1,e5,e2,e3,e4,e6,e7,e8,e9⟩)) (by kernel_rfl),g⟩⟩
noncomputable def EW4:=EW3.addS 96 dtS aHg
abbrev egH(x:EGS):aB Ob:=[some (.abs (.engine x) [])]
theorem jT(n:Nat)(hn:n<=1)(v:AVal)(hv:v.within (upto 0 1)=true)(x:EGS):aE (obI tbl) n v (egG x) v (egH x):=by
 refine aE.pack (egH x) (.engine x) 0 0 (egG x) [] (by kernel_rfl) rfl rfl ?_
 have h1:obOk 0 (egG x)=true:=by kernel_rfl
 have h2:jK (egH x) 0 []=true:=by kernel_rfl
 have h3:Nat.ble n (egH x).length =true:=Nat.ble_eq_true_of_le hn;have g:v.within (upto 0 (egH x).length)=true:=hv;rw [h1,h2,h3,g];rfl
def aHp(g:aB Ob):Option (Prop×EGS):=match g with
 | [some (.cells [.int .i64 sh,.int .i64 th,.int .i64 nd,.int .i64 tr,.ptr 1 0,.ptr 3 0,.slice 4 0 len 1,.int .i64 k]),e1,e2,some (.abs (.hist h) []),some (.abs (.whole ws i) [5]),some (.abs (.worker w) [])]=>(match cO 2 [e1,e2]with
   | some (l,s)=>some (len=ws.length/\i<ws.length/\l=s.xs.length,⟨sh,th,nd,tr,s,h,dI ws i w,k⟩)
   | none=>none)
 | _=>none
def aHo(g:aB Ob):Option (Prop×EGS):=match g with
 | [some (.cells [.int .i64 sh,.int .i64 th,.int .i64 nd,.int .i64 tr,.ptr 1 0,.ptr 3 0,.slice 4 0 len 1,.int .i64 k]),e1,e2,some (.abs (.hist h) []),some (.abs (.wrow ws) [])]=>(match cO 2 [e1,e2]with
   | some (l,s)=>some (len=ws.length/\l=s.xs.length,⟨sh,th,nd,tr,s,h,ws,k⟩)
   | none=>none)
 | _=>none
def egP(g:aB Ob):Option (Prop×EGS):=match aHp g with
 | some r=>some r
 | none=>aHo g
theorem CM(v:AVal)(hv:v.within (upto 0 1)=true)(hv5:lC (upto 0 5) v=v)(n:Nat)(hn:n<=1){g:aB Ob}{p:Prop}{x:EGS}(hp:egP g=some (p,x))(hq:p):aE (obI tbl) n v g v (egH x):=by
 unfold egP at hp;split at hp
 ·rename_i r hr;cases hp;unfold aHp at hr;split at hr
  case h_2=>cases hr
  rename_i sh th nd tr len k e1 e2 h ws i w;split at hr
  case h_2=>cases hr
  rename_i l s hm;simp only [sI',pI']at hr;obtain⟨rfl,rfl⟩:=hr;obtain⟨rfl,hi,hl⟩:=hq;cases bC hm hl;refine(aE.back (l:=4) (k:=5) (i:=i) (ws:=ws) (w:=w) rfl rfl (by decide) hi).trans ?_
  have aa:ws.length=(dI ws i w).length :=by simp [dI]
  have t1:=aE.pick (I:=obI tbl) (n:=n) (v:=v) (g:=([cE' [.I sh,.I th,.I nd,.I tr,.ptr 1 0,.ptr 3 0,.slice 4 0 ws.length 1,.I k],bF 2 s,bG s,some (.abs (.hist h) []),some (.abs (.wrow (dI ws i w)) []),none]:aB Ob)) (upto 0 5) (by
   have h1:dU (upto 0 5) 6=true:=by decide
   have h2:gZ (upto 0 5) 0 n=true:=by
    match n,hn with
    | 0,_=>rfl
    | 1,_=>rfl
   show(dU (upto 0 5) 6&&gZ (upto 0 5) 0 n)=true;rw [h1,h2];rfl)
  rw [hv5]at t1;refine t1.trans ?_;have t2:=jT n hn v hv ⟨sh,th,nd,tr,s,h,dI ws i w,k⟩;refine aE.trans (aLh rfl ?_) t2;show _=[some (aG.cells [.I sh,.I th,.I nd,.I tr,.ptr 1 0,.ptr 3 0,.slice 4 0 (dI ws i w).length 1,.I k]),_,_,_,_];rw [<-aa];rfl
 ·unfold aHo at hp;split at hp
  case h_2=>cases hp
  rename_i sh th nd tr len k e1 e2 h ws ac;split at hp
  case h_2=>cases hp
  rename_i l s hm;cases hp;obtain⟨rfl,hl⟩:=hq;cases bC hm hl;exact jT n hn v hv ⟨sh,th,nd,tr,s,h,ws,k⟩
def pkP(v:AVal)(g:aB Ob):Option (Prop×(Bool×EGS)):=match v with
 | .bool d=>(match egP g with
   | some (p,x)=>some (p,(d,x))
   | none=>none)
 | _=>none
theorem aFv:bP (obI tbl) 1 pkP (fun y=>.ret (.bool y.1) (egH y.2)):=by
 intro v g p x hp hq K hK;unfold pkP at hp;split at hp
 case h_2=>cases hp
 rename_i d;split at hp
 case h_2=>cases hp
 rename_i p' x' hx;cases hp;exact⟨⟨_,_,CM (.bool d) rfl rfl 1 (Nat.le_refl 1) hx hq,hK⟩⟩
instance:Inhabited EGS:=⟨⟨0,0,0,0,⟨0,0,[],0,0,0,0,0,false⟩,default,[],0⟩⟩
abbrev w2n(th:Int)(x:EGS):=aX x.7 (0+Int.toNat th*1)
abbrev w2m(th:Int)(x:EGS):=wbF x.4 (w2n th x)
def pkT(th:Int)(x:EGS):Tr (Bool×EGS):=.ite (ilt th 0) (.pre (lE' x.7/\lE' (EGS.s x).3) (.ret (false,x))) (.ite (ile (↑x.7.length:Int) th) (.pre (lE' x.7/\lE' (EGS.s x).3) (.ret (false,x))) (.pre ((0:Int)<=th/\th<(↑x.7.length:Int)) (.pre (0+Int.toNat th*(1:Nat)<x.7.length) (.pre True (.ite (ieq (W ((↑(List.length (w2n th x).4):Int) - (w2n th x).5)) 0) (.pre (lE' x.7/\0+Int.toNat th*(1:Nat)<x.7.length/\lE' (EGS.s x).3) (.ret (false,{x with ws:=dI x.7 (0+Int.toNat th*1) (w2n th x)}))) (.ite (ile 60000 x.8) (.pre (lE' x.7/\0+Int.toNat th*(1:Nat)<x.7.length/\lE' (EGS.s x).3) (.ret (false,{x with ws:=dI x.7 (0+Int.toNat th*1) (w2n th x)}))) (.pre (VF x.4 (w2n th x)) (.ite (!(w2n th x).6) (.pre (True/\True) (.pre (hbOk th x.6 (WK1.d (w2m th x)).6 (WK1.d (w2m th x)).7/\True) (.pre ((lE' (w2m th x).4/\lE' (w2m th x).7/\lE' (w2m th x).8/\(w2m th x).1=(w2m th x).1/\(w2m th x).2=(w2m th x).2/\lE' (EGS.s x).3)/\aBw (w2m th x) x.5) (.ite (wsF (w2m th x) x.5).4 (.pre (heOk th (hbF th x.6 (WK1.d (w2m th x)).6 (WK1.d (w2m th x)).7).2 (wsF (w2m th x) x.5).1 (wsF (w2m th x) x.5).2 (wsF (w2m th x) x.5).3/\True) (.pre (lE' x.7/\0+Int.toNat th*(1:Nat)<x.7.length/\lE' (WkO.s (wsF (w2m th x) x.5)).3) (.ret (true,{x with s:=(wsF (w2m th x) x.5).6,h:=(heF th (hbF th x.6 (WK1.d (w2m th x)).6 (WK1.d (w2m th x)).7).2 (wsF (w2m th x) x.5).1 (wsF (w2m th x) x.5).2 (wsF (w2m th x) x.5).3).2,ws:=dI x.7 (0+Int.toNat th*1) (wsF (w2m th x) x.5).5,k:=W (x.8+1) })))) (.pre (lE' x.7/\0+Int.toNat th*(1:Nat)<x.7.length/\lE' (WkO.s (wsF (w2m th x) x.5)).3) (.ret (true,{x with s:=(wsF (w2m th x) x.5).6,h:=(hbF th x.6 (WK1.d (w2m th x)).6 (WK1.d (w2m th x)).7).2,ws:=dI x.7 (0+Int.toNat th*1) (wsF (w2m th x) x.5).5,k:=W (x.8+1) }))))))) (.pre ((lE' (w2m th x).4/\lE' (w2m th x).7/\lE' (w2m th x).8/\(w2m th x).1=(w2m th x).1/\(w2m th x).2=(w2m th x).2/\lE' (EGS.s x).3)/\aBw (w2m th x) x.5) (.ite (wsF (w2m th x) x.5).4 (.pre (heOk th x.6 (wsF (w2m th x) x.5).1 (wsF (w2m th x) x.5).2 (wsF (w2m th x) x.5).3/\True) (.pre (lE' x.7/\0+Int.toNat th*(1:Nat)<x.7.length/\lE' (WkO.s (wsF (w2m th x) x.5)).3) (.ret (true,{x with s:=(wsF (w2m th x) x.5).6,h:=(heF th x.6 (wsF (w2m th x) x.5).1 (wsF (w2m th x) x.5).2 (wsF (w2m th x) x.5).3).2,ws:=dI x.7 (0+Int.toNat th*1) (wsF (w2m th x) x.5).5,k:=W (x.8+1) })))) (.pre (lE' x.7/\0+Int.toNat th*(1:Nat)<x.7.length/\lE' (WkO.s (wsF (w2m th x) x.5)).3) (.ret (true,{x with s:=(wsF (w2m th x) x.5).6,ws:=dI x.7 (0+Int.toNat th*1) (wsF (w2m th x) x.5).5,k:=W (x.8+1) })))))))))))))
theorem aFw(th:Int)(x:EGS)(K:Bool×EGS->Prop)(h:(pkT th x).run K):cT' 41 [.ptr 0 0,.I th] [cE' [.I x.sh,.I x.th,.I x.nd,.I x.tr,.ptr 1 0,.ptr 3 0,.slice 4 0 x.ws.length 1,.I x.k],bF 2 x.s,bG x.s,some (.abs (.hist x.h) []),some (.abs (.wrow x.ws) [])] (eU 1 0 [] [] pkP K):=by
 exact cM' (E:=EW4) (by kernel_rfl) h
def pkF(th:Int)(x:EGS):Bool×EGS:=(pkT th x).val
def aAP(th:Int)(x:EGS):Prop:=(pkT th x).ok
def pkS:aI Ob:=fun args h=>match args,h with
 | [.ptr 0 0,.int .i64 th],[some (.abs (.engine x) [])]=>some (.pre (aAP th x) (.ret (.bool (pkF th x).1) (egH (pkF th x).2)))
 | _,_=>none
theorem aIy:sT' 41 pkS:=by
 intro args h o ho K g;unfold pkS at ho;split at ho<;>cases ho
 rename_i th x;obtain⟨ok,g⟩:=g;exact aK9 (root:=0) (pos:=[]) (cs:=[]) (parse:=pkP) (fin:=fun y=>.ret (.bool y.1) (egH y.2)) aFv (aR.unpack (.engine x) 0 0 (egG x) [] rfl rfl rfl rfl) (aFw th x _ (aLf ok g))
noncomputable def EP1:=EW4.addS 41 pkS aIy
def rI:AVal->Int
 | .int _ n=>n
 | _=>0
def rK(row:Nat->List AVal)(i:Nat):Int:=rI ((row i).getD 0 .O)
def rY(row:Nat->List AVal)(i:Nat):Int:=rI ((row i).getD 1 .O)
structure AN (row:Nat->List AVal):Prop where
 h:row=fun i=>[.I (rK row i),.I (rY row i)]
def lB(sh:Int)(m:Nat)(f g:Nat->Int):List (List Int):=(List.range m).map fun j=>[sh,f j,g j]
def eS(sh:Int)(m:Nat)(f g:Nat->Int):Bool:=(List.range m).all fun j=>bU sh (f j) (g j)
theorem U6(sh:Int)(m:Nat)(f g:Nat->Int):lB sh (m+1) f g=lB sh m f g++ [[sh,f m,g m]]:=by
 unfold lB;rw [List.range_succ];simp
theorem qH(sh:Int)(m:Nat)(f g:Nat->Int):(lB sh m f g).length =m:=by unfold lB;simp
theorem oX{k:Int}{m:Nat}{f g:Nat->Int} :eS k m f g=true↔ ∀j,j<m->bU k (f j) (g j)=true:=by
 unfold eS;simp
def VS(sh:Int)(m:Nat)(f g:Nat->Int):Hint Ob:= {X:=Nat,st:=fun x=>([.I sh,.O,.O,.O,.O,.I 0,.tslice 0 0 x 3,.O,.O,.view m 2 (fun i=>[.I (f i),.I (g i)]),.I (m:Int),.I (x:Int)]++List.replicate 15 .O,[some (.tab cK3 (lB sh x f g))]),ok:=fun x=>x<=m/\ ∀j,j<x->bU sh (f j) (g j)=true,mu:=fun x=>m - x,keep:=[0,5,6,9,10,11],casts:=[(.slot 6,.tab cK3)] }
def aFt(sh:Int)(m:Nat)(f g:Nat->Int)(K:AVal->aB Ob->Prop):Prop:=dF (VS sh m f g) (Hint.ok (VS sh m f g)) (.I sh::.O::.O::.O::.O::.I 0::.tslice 0 0 0 3::.O::.O::(.view m 2 fun i=>[.I (f i),.I (g i)])::.I (↑m:Int)::.I 0::(tO' 15 [])) [some (.tab cK3 [])]/\ ∀(x:Nat),(x<=m/\ ∀(j:Nat),j<x->bU sh (f j) (g j)=true)->bif ilt (↑x:Int) (↑m:Int)then((0:Int)<=(↑x:Int)/\(↑x:Int)<(↑m:Int))/\True/\bif !bU sh (f (Int.toNat (↑x:Int))) (g (Int.toNat (↑x:Int)))then K (.tup [.raw (Value.slice none 0 0),.I 1]) []else(0=0/\x=List.length (lB sh x f g)/\x+(1:Nat)<=(4294967296:Nat))/\dF (VS sh m f g) (fun x'=>Hint.ok (VS sh m f g) x'/\Hint.mu (VS sh m f g) x'<Hint.mu (VS sh m f g) x) (.I sh::.O::.O::.O::.O::.I 0::.tslice 0 0 (x+1) 3::.O::.O::(.view m 2 fun i=>[.I (f i),.I (g i)])::.I (↑m:Int)::.I (W ((↑x:Int)+1))::(tO' 15 [])) [some (.tab cK3 (lB sh x f g++ [[sh,f (Int.toNat (↑x:Int)),g (Int.toNat (↑x:Int))]]))]else K (.tup [.tslice 0 0 x 3,.I 0]) [some (.tab cK3 (lB sh x f g))]
theorem TG(sh:Int)(m:Nat)(f g:Nat->Int)(K:AVal->aB Ob->Prop)(h:aFt sh m f g K):cT' 82 [.I sh,.view m 2 (fun i=>[.I (f i),.I (g i)])] [] K:=by
 refine aK8 (aD (E:=EP1) Tryz.checked.mixed (L:=fun _ _=>some (.states (VS sh m f g))) (n:=10) (aJ (by kernel_rfl) h))
def lgB(th:Int)(m:Nat)(ln:Nat->Nat):Bool:=(List.range m).any (fun i=>decide (40<ln i))||ilt th (m:Int)
theorem S5{th:Int}{m:Nat}{ln:Nat->Nat} :lgB th m ln=false↔(∀i,i<m->ln i<=40)/\(m:Int)<=th:=by
 unfold lgB;rw [bD];simp
theorem KC{th:Int}{m:Nat}{ln:Nat->Nat}(h:(∃i,i<m/\40<ln i)\/th<(m:Int)):lgB th m ln=true:=by
 unfold lgB;rw [bD];simp;exact h
def WF(sh th nd tr:Int)(m:Nat)(ln:Nat->Nat)(f g:Nat->Nat->Int):Hint Ob:= {X:=Nat,st:=fun x=>([.O,.view m 1 (fun i=>[.view (ln i) 2 (fun j=>[.I (f i j),.I (g i j)])]),.ptr 0 0,.O,.O,.O,.O,.view m 1 (fun i=>[.view (ln i) 2 (fun j=>[.I (f i j),.I (g i j)])]),.I (m:Int),.I (x:Int)]++List.replicate 12 .O,[cE' [.I sh,.I th,.I nd,.I tr]]),ok:=fun x=>x<=m/\ ∀j,j<x->ln j<=40,mu:=fun x=>m - x,keep:=[1,2,7,8,9] }
def aFg(sh th nd tr:Int)(m:Nat)(ln:Nat->Nat)(f g:Nat->Nat->Int)(K:AVal->aB Ob->Prop):Prop:=dF (WF sh th nd tr m ln f g) (Hint.ok (WF sh th nd tr m ln f g)) [.O,.view m 1 fun i=>[.view (ln i) 2 fun j=>[.I (f i j),.I (g i j)]],.ptr 0 0,.O,.O,.O,.O,.view m 1 fun i=>[.view (ln i) 2 fun j=>[.I (f i j),.I (g i j)]],.I (↑m:Int),.I 0,.O,.O,.O,.O,.O,.O,.O,.O,.O,.O,.O,.O] [cE' [.I sh,.I th,.I nd,.I tr]]/\ ∀(x:Nat),(x<=m/\ ∀(j:Nat),j<x->ln j<=(40:Nat))->bif ilt (↑x:Int) (↑m:Int)then((0:Int)<=(↑x:Int)/\(↑x:Int)<(↑m:Int))/\bif ilt 40 (↑(ln (Int.toNat (↑x:Int))):Int)then K (.bool true) []else dF (WF sh th nd tr m ln f g) (fun x'=>Hint.ok (WF sh th nd tr m ln f g) x'/\Hint.mu (WF sh th nd tr m ln f g) x'<Hint.mu (WF sh th nd tr m ln f g) x) [.O,.view m 1 fun i=>[.view (ln i) 2 fun j=>[.I (f i j),.I (g i j)]],.ptr 0 0,.O,.O,.O,.O,.view m 1 fun i=>[.view (ln i) 2 fun j=>[.I (f i j),.I (g i j)]],.I (↑m:Int),.I (W ((↑x:Int)+1)),.O,.O,.O,.O,.O,.O,.O,.O,.O,.O,.O,.O] [cE' [.I sh,.I th,.I nd,.I tr]]else K (.bool (ilt th (↑m:Int))) []
theorem S6(sh th nd tr:Int)(m:Nat)(ln:Nat->Nat)(f g:Nat->Nat->Int)(K:AVal->aB Ob->Prop)(h:aFg sh th nd tr m ln f g K):cT' 80 [.agg [.I sh,.I th,.I nd,.I tr],.view m 1 (fun i=>[.view (ln i) 2 (fun j=>[.I (f i j),.I (g i j)])])] [] K:=by
 refine aK8 (aD (E:=EP1) Tryz.checked.mixed (L:=fun _ _=>some (.states (WF sh th nd tr m ln f g))) (n:=10) (aJ (by kernel_rfl) h))
def wrO(sh th nd tr:Int):Out Ob:=.ite (ilt sh 1) (.ret (.I 1) []) (.ite (ilt 4 sh) (.ret (.I 1) []) (.pre True (.ite (!eG th nd) (.ret (.I 2) []) (.ite (ilt tr 0) (.ret (.I 2) []) (.ite (ilt 50 tr) (.ret (.I 2) []) (.ret (.I 0) []))))))
theorem aE.castTup{I:Itp Ob}{n:Nat}{K:gE}{a a' b:AVal}{g g':aB Ob}(hc:B2 K a g=some (a',g')):aE I n (.tup [a,b]) g (.tup [a',b]) g':=by
 intro V hR w x h1 h2 h3 h4;obtain⟨cs,rfl,va,vs,e,ra,vb,aa,e2,rb,r3⟩:=h4;obtain⟨V',⟨c1,c2,c3,c4⟩,r⟩:=vA hc h1 h2 ra;exact⟨V',fun l y _ hy=>c1 l y hy,c2,by omega,⟨cs,rfl,va,vs,e,r,vb,aa,e2,Rep.mono c1 _ _ rb,r3⟩,c4⟩
def ofR(sh:Int)(m:Nat)(f g:Nat->Int):List (List Int):=bif eS sh m f g then lB sh m f g else []
def ofC(sh:Int)(m:Nat)(f g:Nat->Int):Int:=bif eS sh m f g then 0 else 1
theorem aIt(sh:Int)(m:Nat)(f g:Nat->Int)(K:AVal->aB Ob->Prop)(hm:m<=1000000)(hK:K (.tup [.tslice 0 0 (ofR sh m f g).length 3,.I (ofC sh m f g)]) [some (.tab cK3 (ofR sh m f g))]):aFt sh m f g (cQ (obI tbl) 0 K):=by
 refine⟨aQ (H:=VS sh m f g) (0:Nat) rfl ⟨Nat.zero_le _,fun j hj=>by omega⟩,?_⟩
 rintro x ⟨hx,hj⟩;refine aL (fun e=>?_) (fun e=>?_)
 ·rw [bD,dT']at e;refine⟨⟨by omega,by omega⟩,trivial,aL (fun e2=>?_) (fun e2=>?_)⟩
  ·have hf:eS sh m f g=false:=by
    cases h:eS sh m f g with
    | false=>rfl
    | true=>
      have:=oX.1 h x (by omega)
      rw [Int.toNat_natCast]at e2;rw [this]at e2;cases e2
   unfold ofR ofC at hK;rw [hf]at hK;exact⟨⟨_,_,aE.castTup (K:=.tab cK3) rfl,hK⟩⟩
  ·have e4:W ((x:Int)+1)=((x+1:Nat):Int):=by rw [W,cK (by omega)];rfl
   refine⟨⟨rfl,(qH sh x f g).symm,by omega⟩,aQ (H:=VS sh m f g) (x+1:Nat) ?_ ⟨⟨by show x+1<=m;omega,?_⟩,by show m - (x+1)<m - x;omega⟩⟩
   ·simp only [VS,U6,e4,Int.toNat_natCast]<;>rfl
   intro j ae
   by_cases ac:j=x
   ·subst ac;rw [Int.toNat_natCast]at e2
    simpa using e2
   ·exact hj j (by omega)
 ·rw [bD,dF']at e;have ht:eS sh m f g=true:=oX.2 fun j ad=>hj j (by omega)
  have aa:x=m:=by omega
  subst aa;unfold ofR ofC at hK;rw [ht]at hK;have hl:=qH sh x f g;simp only [cond_true]at hK;rw [hl]at hK;exact⟨⟨_,_,aLo _ _ _,hK⟩⟩
def ofS:aI Ob:=fun args h=>match args,h with
 | [.int .i64 sh,.view m 2 row],[]=>some (.pre (m<=1000000/\AN row) (.ret (.tup [.tslice 0 0 (ofR sh m (rK row) (rY row)).length 3,.I (ofC sh m (rK row) (rY row))]) [some (.tab cK3 (ofR sh m (rK row) (rY row)))]))
 | _,_=>none
theorem aIs:sT' 82 ofS:=by
 intro args h o ho K g;unfold ofS at ho;split at ho<;>cases ho
 rename_i sh m row;obtain⟨⟨hm,⟨hr⟩⟩,g⟩:=g;rw [hr];refine aLi ?_;exact TG sh m (rK row) (rY row) _ (aIt sh m (rK row) (rY row) K hm g)
def vL(vr:Nat->List AVal)(i:Nat):Nat:=match vr i with
 | [.view n _ _]=>n
 | _=>0
def vR(vr:Nat->List AVal)(i:Nat):Nat->List AVal:=match vr i with
 | [.view _ _ r]=>r
 | _=>fun _=>[]
def vK(vr:Nat->List AVal)(i j:Nat):Int:=rK (vR vr i) j
def vY(vr:Nat->List AVal)(i j:Nat):Int:=rY (vR vr i) j
structure f6 (vr:Nat->List AVal):Prop where
 h:vr=fun i=>[.view (vL vr i) 2 (fun j=>[.I (vK vr i j),.I (vY vr i j)])]
theorem aIi(sh th nd tr:Int)(m:Nat)(ln:Nat->Nat)(f g:Nat->Nat->Int)(K:AVal->aB Ob->Prop)(hm:m<=1000000)(hK:K (.bool (lgB th m ln)) []):aFg sh th nd tr m ln f g K:=by
 refine⟨aQ (H:=WF sh th nd tr m ln f g) (0:Nat) rfl ⟨Nat.zero_le _,fun j hj=>by omega⟩,?_⟩
 rintro x ⟨hx,hj⟩;refine aL (fun e=>?_) (fun e=>?_)
 ·rw [bD,dT']at e;refine⟨⟨by omega,by omega⟩,aL (fun e2=>?_) (fun e2=>?_)⟩
  ·rw [bD,dT',Int.toNat_natCast]at e2;rw [KC (.inl ⟨x,by omega,by omega⟩)]at hK
   exact hK
  ·rw [bD,dF',Int.toNat_natCast]at e2;have e4:W ((x:Int)+1)=((x+1:Nat):Int):=by rw [W,cK (by omega)];rfl
   refine aQ (H:=WF sh th nd tr m ln f g) (x+1:Nat) (by simp only [e4]<;>rfl) ⟨⟨by show x+1<=m;omega,?_⟩,by show m - (x+1)<m - x;omega⟩
   intro j ad
   by_cases aa:j=x
   ·subst aa;omega
   ·exact hj j (by omega)
 ·rw [bD,dF']at e
  have e2:lgB th m ln=ilt th (m:Int):=by
   cases h:ilt th (m:Int)with
   | true=>rw [bD,dT']at h;exact KC (.inr h)
   | false=>rw [bD,dF']at h;exact S5.2 ⟨fun j ac=>hj j (by omega),by omega⟩
  rw [e2]at hK;exact hK
def lgS:aI Ob:=fun args h=>match args,h with
 | [.agg [.int .i64 sh,.int .i64 th,.int .i64 nd,.int .i64 tr],.view m 1 vr],[]=>some (.pre (m<=1000000/\f6 vr) (.ret (.bool (lgB th m (vL vr))) []))
 | _,_=>none
theorem aIh:sT' 80 lgS:=by
 intro args h o ho K hK;unfold lgS at ho;split at ho<;>cases ho
 rename_i sh th nd tr m g;obtain⟨⟨hm,⟨hr⟩⟩,hK⟩:=hK;rw [hr];exact S6 sh th nd tr m (vL g) (vK g) (vY g) K (aIi sh th nd tr m (vL g) (vK g) (vY g) K hm hK)
def wrE(sh th nd tr:Int):Int:=bif ilt sh 1 then 1 else bif ilt 4 sh then 1 else bif !eG th nd then 2 else bif ilt tr 0 then 2 else bif ilt 50 tr then 2 else 0
def wrS:aI Ob:=fun args h=>match args,h with
 | [.agg [.int .i64 sh,.int .i64 th,.int .i64 nd,.int .i64 tr]],[]=>some (.pre True (.ret (.I (wrE sh th nd tr)) []))
 | _,_=>none
theorem aIN:sT' 79 wrS:=by
 intro args h o ho K g;unfold wrS at ho;split at ho<;>cases ho
 rename_i sh th nd tr;obtain⟨_,g⟩:=g;have g:K (.I (wrE sh th nd tr)) []:=g;refine aK8 (cM' (E:=EP1) (q:=(wrO sh th nd tr).run K) (by kernel_rfl) ?_)
 unfold wrE at g
 refine aL (fun e1=>?_) (fun e1=>aL (fun e2=>?_) (fun e2=>⟨trivial,aL (fun e3=>?_) (fun e3=>aL (fun e4=>?_) (fun e4=>aL (fun e5=>?_) (fun e5=>?_)))⟩))<;>
  (simp only [*,cond_true,cond_false]at g;exact g)
def nwP(t n u:Int)(v:AVal)(g:aB Ob):Option (Prop×WKS):=match v,g with
 | .ptr 1 0,[some (.tab [some .i64,some .i64,some .i64] tk),some (.cells [.ptr 2 0,.tslice 0 0 k 3,.int .i64 en,.raw (.pointer none),.slice 4 0 a 1,.slice 5 0 b 1]),some (.cells [.int .i64 t1,.int .i64 n1,.int .i64 me,.int .i64 sp,.slice 3 0 c 1]),some (.ints (some .i64) R),some (.ints (some .i64) tl),some (.ints (some .i64) sl)]=>
   some (k=tk.length/\a=tl.length/\b=sl.length/\c=R.length,⟨t1,n1,⟨me,sp,R⟩,tk,en,false,eT,tl,sl⟩)
 | _,_=>none
theorem aFr(t n u:Int):bP (obI tbl) 1 (nwP t n u) (fun y=>.ret (.ptr 1 0) [none,some (.abs (.worker y) [])]):=by
 intro v g p x hp hq K hK;unfold nwP at hp;split at hp
 case h_2=>cases hp
 rename_i tk k en a b t1 n1 me sp c R tl sl;cases hp;obtain⟨rfl,rfl,rfl,rfl⟩:=hq;have hK:K (.ptr 1 0) [none,some (.abs (.worker (⟨t1,n1,⟨me,sp,R⟩,tk,en,false,eT,tl,sl⟩:WKS)) [])]:=hK
 exact⟨⟨_,_,(aE.move 3 (of_decide_eq_true rfl)).trans ((aLh (v2:=.ptr 1 0) (g2:=aP [some (.tab cK3 tk),cE' [.ptr 2 0,.tslice 0 0 tk.length 3,.I en,.raw (.pointer none),.slice 4 0 tl.length 1,.slice 5 0 sl.length 1],some (.abs (.store t1 n1 ⟨me,sp,R⟩) []),none,iI' tl,iI' sl] 2 0 (dP t1 n1 ⟨me,sp,R⟩) []) (by kernel_rfl) (by kernel_rfl)).trans
  ((aE.pack [some (.tab cK3 tk),cE' [.ptr 2 0,.tslice 0 0 tk.length 3,.I en,.raw (.pointer none),.slice 4 0 tl.length 1,.slice 5 0 sl.length 1],some (.abs (.store t1 n1 ⟨me,sp,R⟩) []),none,iI' tl,iI' sl] (.store t1 n1 ⟨me,sp,R⟩) 2 0 (dP t1 n1 ⟨me,sp,R⟩) [] rfl rfl rfl (by kernel_rfl)).trans
  ((aE.move 0 (of_decide_eq_true rfl)).trans ((aE.move 4 (of_decide_eq_true rfl)).trans ((aE.move 5 (of_decide_eq_true rfl)).trans ((aE.pick [0,1,2,6,7,8] rfl).trans
  ((aLh (v2:=.ptr 1 0) (g2:=aP [none,some (.abs (.worker (⟨t1,n1,⟨me,sp,R⟩,tk,en,false,eT,tl,sl⟩:WKS)) [])] 1 0 (nB (⟨t1,n1,⟨me,sp,R⟩,tk,en,false,eT,tl,sl⟩:WKS)) []) (by kernel_rfl) (by kernel_rfl)).trans
  (aE.pack [none,some (.abs (.worker (⟨t1,n1,⟨me,sp,R⟩,tk,en,false,eT,tl,sl⟩:WKS)) [])] (.worker (⟨t1,n1,⟨me,sp,R⟩,tk,en,false,eT,tl,sl⟩:WKS)) 1 0 (nB (⟨t1,n1,⟨me,sp,R⟩,tk,en,false,eT,tl,sl⟩:WKS)) [] rfl rfl (congrArg (Prod.mk 0) (pN rfl)) (by kernel_rfl))))))))),hK⟩⟩
def nvP(t n u:Int)(v:AVal)(g:aB Ob):Option (Prop×WKS):=match v,g with
 | .ptr 0 0,[some (.cells [.ptr 1 0,.tslice 3 0 k 3,.int .i64 en,.raw (.pointer none),.slice 4 0 a 1,.slice 5 0 b 1]),some (.cells [.int .i64 t1,.int .i64 n1,.int .i64 me,.int .i64 sp,.slice 2 0 c 1]),some (.ints (some .i64) R),some (.tab [some .i64,some .i64,some .i64] tk),some (.ints (some .i64) tl),some (.ints (some .i64) sl)]=>
   some (k=tk.length/\a=tl.length/\b=sl.length/\c=R.length,⟨t1,n1,⟨me,sp,R⟩,tk,en,false,eT,tl,sl⟩)
 | _,_=>none
theorem aFp(t n u:Int):bP (obI tbl) 0 (nvP t n u) (fun y=>.ret (.ptr 0 0) [some (.abs (.worker y) [])]):=by
 intro v g p x hp hq K hK;unfold nvP at hp;split at hp
 case h_2=>cases hp
 rename_i k en a b t1 n1 me sp c R tk tl sl;cases hp;obtain⟨rfl,rfl,rfl,rfl⟩:=hq;have hK:K (.ptr 0 0) [some (.abs (.worker (⟨t1,n1,⟨me,sp,R⟩,tk,en,false,eT,tl,sl⟩:WKS)) [])]:=hK
 exact⟨⟨_,_,(aE.move 2 (of_decide_eq_true rfl)).trans ((aLh (v2:=.ptr 0 0) (g2:=aP [cE' [.ptr 1 0,.tslice 3 0 tk.length 3,.I en,.raw (.pointer none),.slice 4 0 tl.length 1,.slice 5 0 sl.length 1],some (.abs (.store t1 n1 ⟨me,sp,R⟩) []),none,some (.tab cK3 tk),iI' tl,iI' sl] 1 0 (dP t1 n1 ⟨me,sp,R⟩) []) (by kernel_rfl) (by kernel_rfl)).trans
  ((aE.pack [cE' [.ptr 1 0,.tslice 3 0 tk.length 3,.I en,.raw (.pointer none),.slice 4 0 tl.length 1,.slice 5 0 sl.length 1],some (.abs (.store t1 n1 ⟨me,sp,R⟩) []),none,some (.tab cK3 tk),iI' tl,iI' sl] (.store t1 n1 ⟨me,sp,R⟩) 1 0 (dP t1 n1 ⟨me,sp,R⟩) [] rfl rfl rfl (by kernel_rfl)).trans
  ((aE.pick [0,1,3,4,5] rfl).trans
  ((aLh (v2:=.ptr 0 0) (g2:=aP [some (.abs (.worker (⟨t1,n1,⟨me,sp,R⟩,tk,en,false,eT,tl,sl⟩:WKS)) [])] 0 0 (nB (⟨t1,n1,⟨me,sp,R⟩,tk,en,false,eT,tl,sl⟩:WKS)) []) (by kernel_rfl) (by kernel_rfl)).trans
  (aE.pack [some (.abs (.worker (⟨t1,n1,⟨me,sp,R⟩,tk,en,false,eT,tl,sl⟩:WKS)) [])] (.worker (⟨t1,n1,⟨me,sp,R⟩,tk,en,false,eT,tl,sl⟩:WKS)) 0 0 (nB (⟨t1,n1,⟨me,sp,R⟩,tk,en,false,eT,tl,sl⟩:WKS)) [] rfl rfl (congrArg (Prod.mk 0) (pN rfl)) (by kernel_rfl)))))),hK⟩⟩
def nwT(t n u:Int)(tk:List (List Int)):Tr WKS:=.pre (lE' tk/\0=0/\0=0/\0=0) (.ret {t:=t,n:=n,st:= {me:=u,sp:=0,R:=[] },tk:=tk,en:=0,b:=false,d:=eT,tl:=[],sl:=[] })
theorem aFs(t n u:Int)(tk:List (List Int))(K:AVal->aB Ob->Prop)(h:(nwT t n u tk).run (fun y=>(Out.ret (.ptr 1 0) [none,some (.abs (.worker y) [])]).run K)):cT' 83 [.agg [.I t,.I n],.I u,.tslice 0 0 tk.length 3] [some (.tab cK3 tk)] K:=by
 refine aLm (root:=1) (pos:=[]) (cs:=[(.cell 1 4,.ints (some .i64)),(.cell 1 5,.ints (some .i64)),(.cell 2 4,.ints (some .i64))]) (parse:=nwP t n u) (aFr t n u) ?_;exact cM' (E:=EP1) (by kernel_rfl) h
def nvT(t n u:Int):Tr WKS:=.pre (0=0/\0=0/\0=0/\0=0) (.ret {t:=t,n:=n,st:= {me:=u,sp:=0,R:=[] },tk:=[],en:=0,b:=false,d:=eT,tl:=[],sl:=[] })
theorem aFq(t n u:Int)(K:AVal->aB Ob->Prop)(h:(nvT t n u).run (fun y=>(Out.ret (.ptr 0 0) [some (.abs (.worker y) [])]).run K)):cT' 83 [.agg [.I t,.I n],.I u,.raw (.slice none 0 0)] [] K:=by
 refine aLm (root:=0) (pos:=[]) (cs:=[(.cell 0 1,.tab cK3),(.cell 0 4,.ints (some .i64)),(.cell 0 5,.ints (some .i64)),(.cell 1 4,.ints (some .i64))]) (parse:=nvP t n u) (aFp t n u) ?_;exact cM' (E:=EP1) (by kernel_rfl) h
def nwF(t n u:Int)(tk:List (List Int)):WKS:=(nwT t n u tk).val
def nwS:aI Ob:=fun args h=>match args,h with
 | [.agg [.int .i64 t,.int .i64 n],.int .i64 u,.tslice 0 0 k 3],[some (.tab [some .i64,some .i64,some .i64] tk)]=>some (.pre (k=tk.length) (.ret (.ptr 1 0) [none,some (.abs (.worker (nwF t n u tk)) [])]))
 | _,_=>none
theorem aIr:sT' 83 nwS:=by
 intro args h o ho K g;unfold nwS at ho;split at ho<;>cases ho
 rename_i t n u k tk;obtain⟨rfl,g⟩:=g;exact aFs t n u tk K (aLf ⟨⟨rfl,rfl,rfl,rfl⟩,trivial⟩ g)
def nvS:aI Ob:=fun args h=>match args,h with
 | [.agg [.int .i64 t,.int .i64 n],.int .i64 u,.raw (.slice none 0 0)],[]=>some (.pre True (.ret (.ptr 0 0) [some (.abs (.worker (nwF t n u [])) [])]))
 | _,_=>none
theorem aIq:sT' 83 nvS:=by
 intro args h o ho K g;unfold nvS at ho;split at ho<;>cases ho
 rename_i t n u;obtain⟨_,g⟩:=g;exact aFq t n u K (aLf ⟨⟨rfl,rfl,rfl,rfl⟩,trivial⟩ g)
noncomputable def EU1:=(((EP1.addS 82 ofS aIs).addS 80 lgS aIh).addS 79 wrS aIN).addS 83 (aI.or nwS nvS) (aLK aIr aIq)
structure vT (sh th:Int) (m:Nat) (ln:Nat->Nat) (f g:Nat->Nat->Int) (u:Int):Prop where
 hu:u<=th
 hg: ∀j:Nat,(j:Int)<u->j<m->eS sh (ln j) (f j) (g j)=true
def H7(a k:Nat):List AVal:=(List.range k).map fun j=>.ptr (a+j) 0
def BD(wf:Nat->WKS)(k:Nat):aB Ob:=(List.range k).map fun j=>some (.abs (.worker (wf j)) [])
abbrev nG:Option (aG Ob):=some (.abs (.hist ⟨[],[],0,0,0,0,0,0,0,0⟩) [])
def HG(th:Int)(m:Nat)(ln:Nat->Nat)(f g:Nat->Nat->Int)(x:Int):List AVal:=[.O,.view m 1 (fun i=>[.view (ln i) 2 (fun j=>[.I (f i j),.I (g i j)])]),.ptr 0 0,.O,.O,.O,.O,.ptr 1 0,.ptr 2 0]++List.replicate 24 .O ++ [.I th,.I x]++List.replicate 45 .O
def HN0(sh th nd tr:Int)(m:Nat)(ln:Nat->Nat)(f g:Nat->Nat->Int)(wf:Nat->WKS):Hint Ob:= {X:=Unit,st:=fun _=>(HG th m ln f g 0,[some (.cells [.int .i64 sh,.int .i64 th,.int .i64 nd,.int .i64 tr]),some (.cells [.int .i64 th,.int .i64 nd]),some (.cells [.int .i64 sh,.int .i64 th,.int .i64 nd,.int .i64 tr,.raw (.pointer none),.ptr 3 0,.raw (.slice none 0 0),.int .i64 0]),nG]),ok:=fun _=>vT sh th m ln f g 0,mu:=fun _=>9,keep:=[1,2,7,8,33,34],sel:=fun tm _=>match tm.getD 34 .O with
 | .int _ n=>Nat.beq n.toNat 0
 | _=>false}
def HNk(k:Nat)(sh th nd tr:Int)(m:Nat)(ln:Nat->Nat)(f g:Nat->Nat->Int)(wf:Nat->WKS):Hint Ob:= {X:=Unit,st:=fun _=>(HG th m ln f g k,[some (.cells [.int .i64 sh,.int .i64 th,.int .i64 nd,.int .i64 tr]),some (.cells [.int .i64 th,.int .i64 nd]),some (.cells [.int .i64 sh,.int .i64 th,.int .i64 nd,.int .i64 tr,.raw (.pointer none),.ptr 3 0,.slice 4 0 k 1,.int .i64 0]),nG,some (.cells (H7 5 k))]++BD wf k),ok:=fun _=>vT sh th m ln f g k,mu:=fun _=>9 - k,keep:=[1,2,7,8,33,34],sel:=fun tm _=>match tm.getD 34 .O with
 | .int _ n=>Nat.beq n.toNat k
 | _=>false}
abbrev w2o(k:Nat):=Int.toNat (k:Int)
abbrev w2p(k:Nat)(nd sh th tr:Int):aB Ob:=[cE' [.I sh,.I th,.I nd,.I tr],cE' [.I th,.I nd],cE' [.I sh,.I th,.I nd,.I tr,.N,.ptr 3 0,.slice 4 0 (k+1) 1,.I 0],nG,some (.cells (H7 5 (k+1)))]
def DH(k:Nat)(sh th nd tr:Int)(m:Nat)(ln:Nat->Nat)(f g:Nat->Nat->Int)(wf:Nat->WKS)(K:AVal->aB Ob->Prop):Prop:=vT sh th m ln f g (k:Int)->bif ilt (k:Int) th then bif ilt (k:Int) (↑m:Int)then((0:Int)<=(k:Int)/\(k:Int)<(↑m:Int))/\((ln (w2o k)<=(1000000:Nat)/\AN fun j=>[.I (f (w2o k) j),.I (g (w2o k) j)])/\True)/\bif !ieq (ofC sh (ln (w2o k)) (rK fun j=>[.I (f (w2o k) j),.I (g (w2o k) j)]) (rY fun j=>[.I (f (w2o k) j),.I (g (w2o k) j)])) 0 then K (.tup [.N,.I (ofC sh (ln (w2o k)) (rK fun j=>[.I (f (w2o k) j),.I (g (w2o k) j)]) (rY fun j=>[.I (f (w2o k) j),.I (g (w2o k) j)]))]) []else(lE' (ofR sh (ln (w2o k)) (rK fun j=>[.I (f (w2o k) j),.I (g (w2o k) j)]) (rY fun j=>[.I (f (w2o k) j),.I (g (w2o k) j)]))/\True)/\k+(1:Nat)<=(4294967296:Nat)/\dF (HNk (k+1) sh th nd tr m ln f g wf) (fun x_1=>Hint.ok (HNk (k+1) sh th nd tr m ln f g wf) x_1/\qO (some (Hint.mu (HNk (k) sh th nd tr m ln f g wf) ())) (Hint.mu (HNk (k+1) sh th nd tr m ln f g wf) x_1)) (HG th m ln f g (W ((k:Int)+1))) ((w2p k nd sh th tr)++(BD wf k++ [some (.abs (.worker (nwF th nd (k:Int) (ofR sh (ln (w2o k)) (rK fun j=>[.I (f (w2o k) j),.I (g (w2o k) j)]) (rY fun j=>[.I (f (w2o k) j),.I (g (w2o k) j)])))) [])]))else(True/\True)/\k+(1:Nat)<=(4294967296:Nat)/\dF (HNk (k+1) sh th nd tr m ln f g wf) (fun x_1=>Hint.ok (HNk (k+1) sh th nd tr m ln f g wf) x_1/\qO (some (Hint.mu (HNk (k) sh th nd tr m ln f g wf) ())) (Hint.mu (HNk (k+1) sh th nd tr m ln f g wf) x_1)) (HG th m ln f g (W ((k:Int)+1))) ((w2p k nd sh th tr)++(BD wf k++ [some (.abs (.worker (nwF th nd (k:Int) [])) [])]))else True/\bif !eG th nd then K (.tup [.ptr 0 0,.I 1]) ([cE' [.I sh,.I th,.I nd,.I tr,.N,.ptr 1 0,.slice 2 0 k 1,.I 0],nG,some (.cells (H7 3 k))]++BD wf k)else(((0:Int)<=th/\th<=(100000:Int))/\(0:Int)<=nd/\nd<=(100000:Int))/\bif ilt (2*nd+5*th+6) (↑0:Int)then K (.tup [.ptr 0 0,.I 6]) ([cE' [.I sh,.I th,.I nd,.I tr,.N,.ptr 1 0,.slice 2 0 k 1,.I 0],nG,some (.cells (H7 3 k))]++BD wf k)else((((0:Int)<=th/\th<=(100000:Int))/\(0:Int)<=nd/\nd<=(100000:Int))/\True)/\((0:Int)<=(2:Int)*nd+5*th+6/\2*nd+5*th+(6:Int)=(2:Int)*nd+5*th+6/\2*nd+5*th+(6:Int)<=(4294967296:Int))/\K (.tup [.ptr 0 0,.I 0]) ([cE' [.I sh,.I th,.I nd,.I tr,.ptr 1 0,.ptr 3 0,.slice 4 0 k 1,.I 0],cE' [.I th,.I nd,.slice 2 0 (Int.toNat (2*nd+5*th+6)) 1,.I 0,.I 0,.I 0,.int .u64 0,.int .u64 0,.bool false],some (.ints (some .u64) (List.replicate (Int.toNat (2*nd+5*th+6)) 0)),nG,some (.cells (H7 5 k))]++BD wf k)
abbrev w2q(nd sh th tr:Int)(wf:Nat->WKS):aB Ob:=[cE' [.I sh,.I th,.I nd,.I tr,.N,.ptr 1 0,.slice 2 0 8 1,.I 0],nG,cE' [.ptr 3 0,.ptr 4 0,.ptr 5 0,.ptr 6 0,.ptr 7 0,.ptr 8 0,.ptr 9 0,.ptr 10 0],some (.abs (.worker (wf 0)) []),some (.abs (.worker (wf 1)) []),some (.abs (.worker (wf 2)) []),some (.abs (.worker (wf 3)) []),some (.abs (.worker (wf 4)) []),some (.abs (.worker (wf 5)) []),some (.abs (.worker (wf 6)) []),some (.abs (.worker (wf 7)) [])]
abbrev w2r(nd th:Int):=((0:Int)<=th/\th<=(100000:Int))/\(0:Int)<=nd/\nd<=(100000:Int)
abbrev w2s(nd th:Int):=(0:Int)<=(2:Int)*nd+5*th+6/\2*nd+5*th+(6:Int)=(2:Int)*nd+5*th+6/\2*nd+5*th+(6:Int)<=(4294967296:Int)
abbrev w2t(nd th:Int):Option (aG Ob):=cE' [.I th,.I nd,.slice 2 0 (Int.toNat (2*nd+5*th+6)) 1,.I 0,.I 0,.I 0,.int .u64 0,.int .u64 0,.bool false]
abbrev w2u:=Value.slice none 0 0
def aEF(sh th nd tr:Int)(m:Nat)(ln:Nat->Nat)(f g:Nat->Nat->Int)(wf:Nat->WKS)(K:AVal->aB Ob->Prop):Prop:=True/\bif !ieq (wrE sh th nd tr) 0 then K (.tup [.N,.I (wrE sh th nd tr)]) []else(m<=(1000000:Nat)/\f6 fun i=>[.view (ln i) 2 fun j=>[.I (f i j),.I (g i j)]])/\bif lgB th m (vL fun i=>[.view (ln i) 2 fun j=>[.I (f i j),.I (g i j)]])then K (.tup [.N,.I 6]) []else(True/\True)/\dF (HN0 sh th nd tr m ln f g wf) (fun x=>Hint.ok (HN0 sh th nd tr m ln f g wf) x/\qO none (Hint.mu (HN0 sh th nd tr m ln f g wf) x)) (HG th m ln f g 0) [cE' [.I sh,.I th,.I nd,.I tr],cE' [.I th,.I nd],cE' [.I sh,.I th,.I nd,.I tr,.N,.ptr 3 0,.raw w2u,.I 0],nG]/\(∀(x:Hint.X (HN0 sh th nd tr m ln f g wf)),vT sh th m ln f g 0->bif ilt 0 th then bif ilt 0 (↑m:Int)then((0:Int)<=(0:Int)/\(0:Int)<(↑m:Int))/\((ln (Int.toNat 0)<=(1000000:Nat)/\AN fun j=>[.I (f (Int.toNat 0) j),.I (g (Int.toNat 0) j)])/\True)/\bif !ieq (ofC sh (ln (Int.toNat 0)) (rK fun j=>[.I (f (Int.toNat 0) j),.I (g (Int.toNat 0) j)]) (rY fun j=>[.I (f (Int.toNat 0) j),.I (g (Int.toNat 0) j)])) 0 then K (.tup [.N,.I (ofC sh (ln (Int.toNat 0)) (rK fun j=>[.I (f (Int.toNat 0) j),.I (g (Int.toNat 0) j)]) (rY fun j=>[.I (f (Int.toNat 0) j),.I (g (Int.toNat 0) j)]))]) []else(lE' (ofR sh (ln (Int.toNat 0)) (rK fun j=>[.I (f (Int.toNat 0) j),.I (g (Int.toNat 0) j)]) (rY fun j=>[.I (f (Int.toNat 0) j),.I (g (Int.toNat 0) j)]))/\True)/\(1:Nat)<=(4294967296:Nat)/\dF (HNk 1 sh th nd tr m ln f g wf) (fun x_1=>Hint.ok (HNk 1 sh th nd tr m ln f g wf) x_1/\qO (some (Hint.mu (HN0 sh th nd tr m ln f g wf) x)) (Hint.mu (HNk 1 sh th nd tr m ln f g wf) x_1)) (HG th m ln f g (W (0+1))) [cE' [.I sh,.I th,.I nd,.I tr],cE' [.I th,.I nd],cE' [.I sh,.I th,.I nd,.I tr,.N,.ptr 3 0,.slice 4 0 1 1,.I 0],nG,cE' [.ptr 5 0],some (.abs (.worker (nwF th nd 0 (ofR sh (ln (Int.toNat 0)) (rK fun j=>[.I (f (Int.toNat 0) j),.I (g (Int.toNat 0) j)]) (rY fun j=>[.I (f (Int.toNat 0) j),.I (g (Int.toNat 0) j)])))) [])]else(True/\True)/\(1:Nat)<=(4294967296:Nat)/\dF (HNk 1 sh th nd tr m ln f g wf) (fun x_1=>Hint.ok (HNk 1 sh th nd tr m ln f g wf) x_1/\qO (some (Hint.mu (HN0 sh th nd tr m ln f g wf) x)) (Hint.mu (HNk 1 sh th nd tr m ln f g wf) x_1)) (HG th m ln f g (W (0+1))) [cE' [.I sh,.I th,.I nd,.I tr],cE' [.I th,.I nd],cE' [.I sh,.I th,.I nd,.I tr,.N,.ptr 3 0,.slice 4 0 1 1,.I 0],nG,cE' [.ptr 5 0],some (.abs (.worker (nwF th nd 0 [])) [])]else True/\bif !eG th nd then K (.tup [.ptr 0 0,.I 1]) [cE' [.I sh,.I th,.I nd,.I tr,.N,.ptr 1 0,.raw w2u,.I 0],nG]else(w2r nd th)/\bif ilt (2*nd+5*th+6) (↑0:Int)then K (.tup [.ptr 0 0,.I 6]) [cE' [.I sh,.I th,.I nd,.I tr,.N,.ptr 1 0,.raw w2u,.I 0],nG]else((w2r nd th)/\True)/\(w2s nd th)/\K (.tup [.ptr 0 0,.I 0]) [cE' [.I sh,.I th,.I nd,.I tr,.ptr 1 0,.ptr 3 0,.raw w2u,.I 0],w2t nd th,some (.ints (some .u64) (List.replicate (Int.toNat (2*nd+5*th+6)) 0)),nG])/\(∀(x:Hint.X (HNk 1 sh th nd tr m ln f g wf)),DH 1 sh th nd tr m ln f g wf K)/\(∀(x:Hint.X (HNk 2 sh th nd tr m ln f g wf)),DH 2 sh th nd tr m ln f g wf K)/\(∀(x:Hint.X (HNk 3 sh th nd tr m ln f g wf)),DH 3 sh th nd tr m ln f g wf K)/\(∀(x:Hint.X (HNk 4 sh th nd tr m ln f g wf)),DH 4 sh th nd tr m ln f g wf K)/\(∀(x:Hint.X (HNk 5 sh th nd tr m ln f g wf)),DH 5 sh th nd tr m ln f g wf K)/\(∀(x:Hint.X (HNk 6 sh th nd tr m ln f g wf)),DH 6 sh th nd tr m ln f g wf K)/\(∀(x:Hint.X (HNk 7 sh th nd tr m ln f g wf)),DH 7 sh th nd tr m ln f g wf K)/\(∀(x:Hint.X (HNk 8 sh th nd tr m ln f g wf)),vT sh th m ln f g 8->bif ilt 8 th then bif ilt 8 (↑m:Int)then((0:Int)<=(8:Int)/\(8:Int)<(↑m:Int))/\((ln (Int.toNat 8)<=(1000000:Nat)/\AN fun j=>[.I (f (Int.toNat 8) j),.I (g (Int.toNat 8) j)])/\True)/\bif !ieq (ofC sh (ln (Int.toNat 8)) (rK fun j=>[.I (f (Int.toNat 8) j),.I (g (Int.toNat 8) j)]) (rY fun j=>[.I (f (Int.toNat 8) j),.I (g (Int.toNat 8) j)])) 0 then K (.tup [.N,.I (ofC sh (ln (Int.toNat 8)) (rK fun j=>[.I (f (Int.toNat 8) j),.I (g (Int.toNat 8) j)]) (rY fun j=>[.I (f (Int.toNat 8) j),.I (g (Int.toNat 8) j)]))]) []else(lE' (ofR sh (ln (Int.toNat 8)) (rK fun j=>[.I (f (Int.toNat 8) j),.I (g (Int.toNat 8) j)]) (rY fun j=>[.I (f (Int.toNat 8) j),.I (g (Int.toNat 8) j)]))/\True)/\8+(1:Nat)<=(4294967296:Nat)/\False else(True/\True)/\8+(1:Nat)<=(4294967296:Nat)/\False else True/\bif !eG th nd then K (.tup [.ptr 0 0,.I 1]) (w2q nd sh th tr wf)else(w2r nd th)/\bif ilt (2*nd+5*th+6) (↑0:Int)then K (.tup [.ptr 0 0,.I 6]) (w2q nd sh th tr wf)else((w2r nd th)/\True)/\(w2s nd th)/\K (.tup [.ptr 0 0,.I 0]) [cE' [.I sh,.I th,.I nd,.I tr,.ptr 1 0,.ptr 3 0,.slice 4 0 8 1,.I 0],w2t nd th,some (.ints (some .u64) (List.replicate (Int.toNat (2*nd+5*th+6)) 0)),nG,cE' [.ptr 5 0,.ptr 6 0,.ptr 7 0,.ptr 8 0,.ptr 9 0,.ptr 10 0,.ptr 11 0,.ptr 12 0],some (.abs (.worker (wf 0)) []),some (.abs (.worker (wf 1)) []),some (.abs (.worker (wf 2)) []),some (.abs (.worker (wf 3)) []),some (.abs (.worker (wf 4)) []),some (.abs (.worker (wf 5)) []),some (.abs (.worker (wf 6)) []),some (.abs (.worker (wf 7)) [])])/\True
theorem SG(sh th nd tr:Int)(m:Nat)(ln:Nat->Nat)(f g:Nat->Nat->Int)(wf:Nat->WKS)(K:AVal->aB Ob->Prop)(h:aEF sh th nd tr m ln f g wf K):cT' 25 [.agg [.I sh,.I th,.I nd,.I tr],.view m 1 (fun i=>[.view (ln i) 2 (fun j=>[.I (f i j),.I (g i j)])])] [] K:=by
 refine aK8 (aD (E:=EU1) Tryz.checked.mixed (L:=(fun _ _=>some (.cases [HN0 sh th nd tr m ln f g wf,HNk 1 sh th nd tr m ln f g wf,HNk 2 sh th nd tr m ln f g wf,HNk 3 sh th nd tr m ln f g wf,HNk 4 sh th nd tr m ln f g wf,HNk 5 sh th nd tr m ln f g wf,HNk 6 sh th nd tr m ln f g wf,HNk 7 sh th nd tr m ln f g wf,HNk 8 sh th nd tr m ln f g wf]))) (n:=10) (aJ (by kernel_rfl) h))
theorem wR{t n:Int} :eG t n=true↔1<=t/\t<=8/\1<=n/\n<=200:=by
 unfold eG;simp only [bY,Bool.and_eq_true,dT',and_assoc]
theorem aCv{sh th nd tr:Int}(h:ieq (wrE sh th nd tr) 0=true):1<=sh/\sh<=4/\(1<=th/\th<=8/\1<=nd/\nd<=200)/\0<=tr/\tr<=50:=by
 unfold wrE at h;cases h1:ilt sh 1<;>rw [h1]at h<;>simp only [cond_true,cond_false]at h
 case true=>exact absurd h (by decide)
 cases h2:ilt 4 sh<;>rw [h2]at h<;>simp only [cond_true,cond_false]at h
 case true=>exact absurd h (by decide)
 cases h3:eG th nd<;>rw [h3]at h<;>simp only [Bool.not_false,Bool.not_true,cond_true,cond_false]at h
 case false=>exact absurd h (by decide)
 cases h4:ilt tr 0<;>rw [h4]at h<;>simp only [cond_true,cond_false]at h
 case true=>exact absurd h (by decide)
 cases g:ilt 50 tr<;>rw [g]at h<;>simp only [cond_true,cond_false]at h
 case true=>exact absurd h (by decide)
 rw [bD,dF']at h1 h2 h4 g;exact⟨by omega,by omega,wR.1 h3,by omega,by omega⟩
def aAF(t n:Int):MS:= {t:=t,n:=n,xs:=List.replicate (2*n+5*t+6).toNat 0,c:=0,k:=0,a:=0,o:=0,w:=0,ok:=false}
def gX(sh th nd:Int)(m:Nat)(ln:Nat->Nat)(f g:Nat->Nat->Int)(j:Nat):WKS:=nwF th nd (j:Int) (bif ilt (j:Int) (m:Int)then ofR sh (ln j) (f j) (g j)else [])
def nR(sh th nd tr:Int)(m:Nat)(ln:Nat->Nat)(f g:Nat->Nat->Int):EGS:=⟨sh,th,nd,tr,aAF th nd,⟨[],[],0,0,0,0,0,0,0,0⟩,(List.range th.toNat).map (gX sh th nd m ln f g),0⟩
def gnC(sh th nd tr:Int)(m:Nat)(ln:Nat->Nat)(f g:Nat->Nat->Int):Int:=bif !ieq (wrE sh th nd tr) 0 then wrE sh th nd tr else bif lgB th m ln then 6 else bif (List.range m).all (fun j=>eS sh (ln j) (f j) (g j))then 0 else 1
abbrev rC(sh th nd tr:Int)(m:Nat)(ln:Nat->Nat)(f g:Nat->Nat->Int):Out Ob:=.ite (ieq (gnC sh th nd tr m ln f g) 0) (.ret (.tup [.ptr 0 0,.I 0]) (egH (nR sh th nd tr m ln f g))) (.ret (.tup [.raw (.pointer none),.I (gnC sh th nd tr m ln f g)]) [])
theorem aCd{sh:Int}{m:Nat}{f g:Nat->Int}(h:ieq (ofC sh m f g) 0=false):eS sh m f g=false/\ofC sh m f g=1:=by
 unfold ofC at h⊢;cases e:eS sh m f g with
 | true=>rw [e]at h;exact absurd h (by decide)
 | false=>exact⟨rfl,rfl⟩
theorem aCc{sh:Int}{m:Nat}{f g:Nat->Int}(h:ieq (ofC sh m f g) 0=true):eS sh m f g=true:=by
 unfold ofC at h;cases e:eS sh m f g with
 | true=>rfl
 | false=>rw [e]at h;exact absurd h (by decide)
theorem AC(sh th nd tr:Int)(m:Nat)(ln:Nat->Nat)(f g:Nat->Nat->Int)(K:AVal->aB Ob->Prop)(hK:(rC sh th nd tr m ln f g).run K)(c:Int)(hc:gnC sh th nd tr m ln f g=c)(h0:ieq c 0=false):K (.tup [.raw (.pointer none),.I c]) []:=by
 have hK:(Out.ite (ieq (gnC sh th nd tr m ln f g) 0) _ _).run K:=hK;rw [hc,h0]at hK;exact hK
theorem JL(sh th nd tr:Int)(m:Nat)(ln:Nat->Nat)(f g:Nat->Nat->Int)(K:AVal->aB Ob->Prop)(hK:(rC sh th nd tr m ln f g).run K)(hc:gnC sh th nd tr m ln f g=0):K (.tup [.ptr 0 0,.I 0]) (egH (nR sh th nd tr m ln f g)):=by
 have hK:(Out.ite (ieq (gnC sh th nd tr m ln f g) 0) _ _).run K:=hK;rw [hc]at hK;exact hK
abbrev vS(sh th nd tr:Int)(W:List WKS):EGS:=⟨sh,th,nd,tr,aAF th nd,⟨[],[],0,0,0,0,0,0,0,0⟩,W,0⟩
abbrev AB(sh th nd tr:Int)(k:Nat)(ps:List AVal)(ws:aB Ob):aB Ob:=[cE' [.I sh,.I th,.I nd,.I tr,.ptr 1 0,.ptr 3 0,.slice 4 0 k 1,.I 0],cE' [.I th,.I nd,.slice 2 0 (Int.toNat (2*nd+5*th+6)) 1,.I 0,.I 0,.I 0,.int .u64 0,.int .u64 0,.bool false],some (.ints (some .u64) (List.replicate (Int.toNat (2*nd+5*th+6)) 0)),nG,some (.cells ps)]++ws
abbrev aHI(sh th nd tr:Int)(W:List WKS):aB Ob:=[cE' [.I sh,.I th,.I nd,.I tr,.ptr 1 0,.ptr 3 0,.slice 4 0 W.length 1,.I 0],cE' [.I th,.I nd,.slice 2 0 (Int.toNat (2*nd+5*th+6)) 1,.I 0,.I 0,.I 0,.int .u64 0,.int .u64 0,.bool false],some (.ints (some .u64) (List.replicate (Int.toNat (2*nd+5*th+6)) 0)),nG,some (.abs (.wrow W) [])]
theorem tK{sh th nd tr:Int}(W:List WKS){g:aB Ob}(h:g=aP (aHI sh th nd tr W) 4 0 (rowE (List.map (fun w=>some (Mc.worker w)) W)) [])(hb:obOk 0 (rowE (List.map (fun w=>some (Mc.worker w)) W))=true):aE (obI tbl) 0 (.tup [.ptr 0 0,.I 0]) g (.tup [.ptr 0 0,.I 0]) (egH (vS sh th nd tr W)):=by
 refine(aE.pack (aHI sh th nd tr W) (.wrow W) 4 0 (rowE (List.map (fun w=>some (Mc.worker w)) W)) [] h rfl rfl (by rw [hb];rfl)).trans ?_
 refine aE.trans (aLh rfl ?_) (jT 0 (Nat.zero_le _) _ rfl (vS sh th nd tr W))
 first | (simp only [egG,aAF,List.length_replicate];done) | (simp only [egG,aAF,List.length_replicate]<;>rfl)
theorem aHK(sh nd tr:Int)(wf:Nat->WKS):aE (obI tbl) 0 (.tup [.ptr 0 0,.I 0]) (AB sh (1:Nat) nd tr 1 (H7 5 1) (BD wf 1)) (.tup [.ptr 0 0,.I 0]) (egH (vS sh (1:Nat) nd tr ((List.range 1).map wf))):=tK ((List.range 1).map wf) (by kernel_rfl) (by kernel_rfl)
theorem aHL(sh nd tr:Int)(wf:Nat->WKS):aE (obI tbl) 0 (.tup [.ptr 0 0,.I 0]) (AB sh (2:Nat) nd tr 2 (H7 5 2) (BD wf 2)) (.tup [.ptr 0 0,.I 0]) (egH (vS sh (2:Nat) nd tr ((List.range 2).map wf))):=tK ((List.range 2).map wf) (by kernel_rfl) (by kernel_rfl)
theorem aHM(sh nd tr:Int)(wf:Nat->WKS):aE (obI tbl) 0 (.tup [.ptr 0 0,.I 0]) (AB sh (3:Nat) nd tr 3 (H7 5 3) (BD wf 3)) (.tup [.ptr 0 0,.I 0]) (egH (vS sh (3:Nat) nd tr ((List.range 3).map wf))):=tK ((List.range 3).map wf) (by kernel_rfl) (by kernel_rfl)
theorem aHN(sh nd tr:Int)(wf:Nat->WKS):aE (obI tbl) 0 (.tup [.ptr 0 0,.I 0]) (AB sh (4:Nat) nd tr 4 (H7 5 4) (BD wf 4)) (.tup [.ptr 0 0,.I 0]) (egH (vS sh (4:Nat) nd tr ((List.range 4).map wf))):=tK ((List.range 4).map wf) (by kernel_rfl) (by kernel_rfl)
theorem aHO(sh nd tr:Int)(wf:Nat->WKS):aE (obI tbl) 0 (.tup [.ptr 0 0,.I 0]) (AB sh (5:Nat) nd tr 5 (H7 5 5) (BD wf 5)) (.tup [.ptr 0 0,.I 0]) (egH (vS sh (5:Nat) nd tr ((List.range 5).map wf))):=tK ((List.range 5).map wf) (by kernel_rfl) (by kernel_rfl)
theorem aHP(sh nd tr:Int)(wf:Nat->WKS):aE (obI tbl) 0 (.tup [.ptr 0 0,.I 0]) (AB sh (6:Nat) nd tr 6 (H7 5 6) (BD wf 6)) (.tup [.ptr 0 0,.I 0]) (egH (vS sh (6:Nat) nd tr ((List.range 6).map wf))):=tK ((List.range 6).map wf) (by kernel_rfl) (by kernel_rfl)
theorem aHQ(sh nd tr:Int)(wf:Nat->WKS):aE (obI tbl) 0 (.tup [.ptr 0 0,.I 0]) (AB sh (7:Nat) nd tr 7 (H7 5 7) (BD wf 7)) (.tup [.ptr 0 0,.I 0]) (egH (vS sh (7:Nat) nd tr ((List.range 7).map wf))):=tK ((List.range 7).map wf) (by kernel_rfl) (by kernel_rfl)
theorem aHR(sh nd tr:Int)(wf:Nat->WKS):aE (obI tbl) 0 (.tup [.ptr 0 0,.I 0]) (AB sh (8:Nat) nd tr 8 (H7 5 8) (BD wf 8)) (.tup [.ptr 0 0,.I 0]) (egH (vS sh (8:Nat) nd tr ((List.range 8).map wf))):=tK ((List.range 8).map wf) (by kernel_rfl) (by kernel_rfl)
theorem aHJ(sh nd tr:Int)(wf:Nat->WKS){k:Nat}(h1:1<=k)(h8:k<=8):aE (obI tbl) 0 (.tup [.ptr 0 0,.I 0]) (AB sh (k:Int) nd tr k (H7 5 k) (BD wf k)) (.tup [.ptr 0 0,.I 0]) (egH (vS sh (k:Int) nd tr ((List.range k).map wf))):=by
 match k,h1,h8 with
 | 1,_,_=>exact aHK sh nd tr wf
 | 2,_,_=>exact aHL sh nd tr wf
 | 3,_,_=>exact aHM sh nd tr wf
 | 4,_,_=>exact aHN sh nd tr wf
 | 5,_,_=>exact aHO sh nd tr wf
 | 6,_,_=>exact aHP sh nd tr wf
 | 7,_,_=>exact aHQ sh nd tr wf
 | 8,_,_=>exact aHR sh nd tr wf
 | k+9,_,h=>omega
theorem mI(wf:Nat->WKS)(k:Nat):BD wf (k+1)=BD wf k++ [some (.abs (.worker (wf k)) [])]:=by
 unfold BD;rw [List.range_succ,List.map_append];rfl
theorem aHS(sh th nd tr:Int)(m:Nat)(ln:Nat->Nat)(f g:Nat->Nat->Int)(K:AVal->aB Ob->Prop)(hm:m<=1000000)(hK:(rC sh th nd tr m ln f g).run K):aEF sh th nd tr m ln f g (gX sh th nd m ln f g) (cQ (obI tbl) 0 K):=by
 refine⟨trivial,aL (fun e0=>?_) fun e0=>⟨⟨hm,⟨rfl⟩⟩,aL (fun e1=>?_) fun e1=>?_⟩⟩
 ·have hc:gnC sh th nd tr m ln f g=wrE sh th nd tr:=by unfold gnC;rw [e0];rfl
  have af:ieq (wrE sh th nd tr) 0=false:=by simpa using e0
  exact⟨⟨_,_,aLo _ _ _,AC sh th nd tr m ln f g K hK _ hc af⟩⟩
 ·have hc:gnC sh th nd tr m ln f g=6:=by
   have e1:lgB th m ln=true:=e1;unfold gnC;rw [e0,e1];rfl
  exact⟨⟨_,_,aLo _ _ _,AC sh th nd tr m ln f g K hK _ hc rfl⟩⟩
 have af:ieq (wrE sh th nd tr) 0=true:=by simpa using e0
 have e1:lgB th m ln=false:=e1;obtain⟨aq,ap,⟨al,ak,ao,am⟩,au,ar⟩:=aCv af;obtain⟨aj,av⟩:=S5.1 e1;have ai:eG th nd=true:=wR.2 ⟨al,ak,ao,am⟩
 have ad: ∀j:Nat,j<m->eS sh (ln j) (f j) (g j)=false->gnC sh th nd tr m ln f g=1:=by
  intro j hj hf
  have:(List.range m).all (fun j=>eS sh (ln j) (f j) (g j))=false:=by
   cases h:(List.range m).all (fun j=>eS sh (ln j) (f j) (g j))with
   | false=>rfl
   | true=>
     have:=List.all_eq_true.1 h j (List.mem_range.2 hj);rw [hf]at this;cases this
  unfold gnC;rw [e0,e1,this];rfl
 have ac:(∀j:Nat,j<m->eS sh (ln j) (f j) (g j)=true)->gnC sh th nd tr m ln f g=0:=by
  intro h;have:(List.range m).all (fun j=>eS sh (ln j) (f j) (g j))=true:=List.all_eq_true.2 fun j hj=>h j (List.mem_range.1 hj);unfold gnC;rw [e0,e1,this];rfl
 have ag: ∀u:Nat,ilt (u:Int) (m:Int)=true->gX sh th nd m ln f g u=nwF th nd (u:Int) (ofR sh (ln u) (f u) (g u)):=fun u h=>by unfold gX;rw [h];rfl
 have ah: ∀u:Nat,ilt (u:Int) (m:Int)=false->gX sh th nd m ln f g u=nwF th nd (u:Int) []:=fun u h=>by unfold gX;rw [h];rfl
 have bd: ∀k:Nat,1<=k->k<=7->DH k sh th nd tr m ln f g (gX sh th nd m ln f g) (cQ (obI tbl) 0 K):=by
  rintro k h1 h7 ⟨hu,hg⟩;refine aL (fun e=>aL (fun e2=>?_) (fun e2=>?_)) (fun e=>?_)
  ·have e2':=e2;rw [bD,dT']at e e2;have aa:k<m:=by omega
   refine⟨⟨by omega,by omega⟩,⟨⟨by have:=aj k aa;show ln k<=1000000;omega,⟨rfl⟩⟩,trivial⟩,aL (fun e3=>?_) (fun e3=>?_)⟩
   ·have e3:(!ieq (ofC sh (ln k) (f k) (g k)) 0)=true:=e3;obtain⟨q1,q2⟩:=aCd (by simpa using e3)
    have:=AC sh th nd tr m ln f g K hK 1 (ad k aa q1) rfl;rw [<-q2]at this;exact⟨⟨_,_,aLo _ _ _,this⟩⟩
   ·have e3:(!ieq (ofC sh (ln k) (f k) (g k)) 0)=false:=e3;have q:=aCc (sh:=sh) (m:=ln k) (f:=f k) (g:=g k) (by simpa using e3)
    have hw:=ag k e2';have hW:W ((k:Int)+1)=((k+1:Nat):Int):=(cK ⟨by omega,by omega⟩).trans (by omega)
    refine⟨⟨rfl,trivial⟩,by omega,aQ (H:=HNk (k+1) sh th nd tr m ln f g (gX sh th nd m ln f g)) () (by first | (simp only [HNk,mI,hw,hW];done) | (simp only [HNk,mI,hw,hW]<;>rfl)) ⟨⟨by omega,fun j h1 h2=>by
     by_cases hj:j=k
     ·subst hj;exact q
     ·exact hg j (by omega) h2⟩,by show 9 - (k+1)<9 - k;omega⟩⟩
  ·have hw:=ah k e2;rw [bD,dT']at e;rw [bD,dF']at e2;have hW:W ((k:Int)+1)=((k+1:Nat):Int):=(cK ⟨by omega,by omega⟩).trans (by omega)
   refine⟨⟨trivial,trivial⟩,by omega,aQ (H:=HNk (k+1) sh th nd tr m ln f g (gX sh th nd m ln f g)) () (by first | (simp only [HNk,mI,hw,hW];done) | (simp only [HNk,mI,hw,hW]<;>rfl)) ⟨⟨by omega,fun j h1 h2=>hg j (by omega) h2⟩,by show 9 - (k+1)<9 - k;omega⟩⟩
  ·rw [bD,dF']at e;have ae:th=k:=by omega
   subst ae;rw [ai];refine⟨trivial,aL (fun e3=>by cases e3) (fun _=>⟨⟨⟨by omega,by omega⟩,by omega,by omega⟩,aL (fun e4=>?_) (fun _=>⟨⟨⟨⟨by omega,by omega⟩,by omega,by omega⟩,trivial⟩,⟨by omega,rfl,by omega⟩,?_⟩)⟩)⟩
   ·rw [bD,dT']at e4;have e4:(2*nd+5*(k:Int)+6:Int)<0:=e4;omega
   ·have:=JL sh k nd tr m ln f g K hK (ac fun j hj=>hg j (by omega) hj)
    exact⟨⟨_,_,aHJ sh nd tr (gX sh k nd m ln f g) h1 (by omega),this⟩⟩
 refine⟨⟨trivial,trivial⟩,aQ (H:=HN0 sh th nd tr m ln f g (gX sh th nd m ln f g)) () rfl ⟨⟨by omega,fun j h1 _=>by omega⟩,trivial⟩,?_,?_,?_,?_,?_,?_,?_,?_,?_,trivial⟩
 ·rintro x ⟨hu,hg⟩;refine aL (fun e=>aL (fun e2=>?_) (fun e2=>?_)) (fun e=>?_)
  ·have e2':=e2;rw [bD,dT']at e e2;have aa:0<m:=by omega
   refine⟨⟨by omega,by omega⟩,⟨⟨by have:=aj 0 aa;show ln 0<=1000000;omega,⟨rfl⟩⟩,trivial⟩,aL (fun e3=>?_) (fun e3=>?_)⟩
   ·have e3:(!ieq (ofC sh (ln 0) (f 0) (g 0)) 0)=true:=e3;obtain⟨q1,q2⟩:=aCd (by simpa using e3)
    have:=AC sh th nd tr m ln f g K hK 1 (ad 0 aa q1) rfl;rw [<-q2]at this;exact⟨⟨_,_,aLo _ _ _,this⟩⟩
   ·have e3:(!ieq (ofC sh (ln 0) (f 0) (g 0)) 0)=false:=e3;have q:=aCc (sh:=sh) (m:=ln 0) (f:=f 0) (g:=g 0) (by simpa using e3)
    have hw:=ag 0 e2'
    refine⟨⟨rfl,trivial⟩,by decide,aQ (H:=HNk 1 sh th nd tr m ln f g (gX sh th nd m ln f g)) () (by simp only [HNk,mI,hw]<;>rfl) ⟨⟨by omega,fun j h1 h2=>by
     by_cases hj:j=0
     ·subst hj;exact q
     ·exact hg j (by omega) h2⟩,by show(8:Nat)<9;decide⟩⟩
  ·have hw:=ah 0 e2;rw [bD,dT']at e;rw [bD,dF']at e2;refine⟨⟨trivial,trivial⟩,by decide,aQ (H:=HNk 1 sh th nd tr m ln f g (gX sh th nd m ln f g)) () (by simp only [HNk,mI,hw]<;>rfl) ⟨⟨by omega,fun j h1 h2=>hg j (by omega) h2⟩,by show(8:Nat)<9;decide⟩⟩
  ·rw [bD,dF']at e;omega
 ·exact fun x=>bd 1 (by decide) (by decide)
 ·exact fun x=>bd 2 (by decide) (by decide)
 ·exact fun x=>bd 3 (by decide) (by decide)
 ·exact fun x=>bd 4 (by decide) (by decide)
 ·exact fun x=>bd 5 (by decide) (by decide)
 ·exact fun x=>bd 6 (by decide) (by decide)
 ·exact fun x=>bd 7 (by decide) (by decide)
 ·rintro x ⟨hu,hg⟩;refine aL (fun e=>?_) (fun e=>?_)
  ·rw [bD,dT']at e;omega
  ·rw [bD,dF']at e;have ae:th=8:=by omega
   subst ae;rw [ai];refine⟨trivial,aL (fun e3=>by cases e3) (fun _=>⟨⟨⟨by omega,by omega⟩,by omega,by omega⟩,aL (fun e4=>?_) (fun _=>⟨⟨⟨⟨by omega,by omega⟩,by omega,by omega⟩,trivial⟩,⟨by omega,rfl,by omega⟩,?_⟩)⟩)⟩
   ·rw [bD,dT']at e4;have e4:(2*nd+5*8+6:Int)<0:=e4;omega
   ·have:=JL sh 8 nd tr m ln f g K hK (ac fun j hj=>hg j (by omega) hj)
    exact⟨⟨_,_,aHJ sh nd tr (gX sh 8 nd m ln f g) (k:=8) (by decide) (by decide),this⟩⟩
def gnS:aI Ob:=fun args h=>match args,h with
 | [.agg [.int .i64 sh,.int .i64 th,.int .i64 nd,.int .i64 tr],.view m 1 vr],[]=>some (.pre (m<=1000000/\f6 vr) (rC sh th nd tr m (vL vr) (vK vr) (vY vr)))
 | _,_=>none
theorem JM:sT' 25 gnS:=by
 intro args h o ho K hK;unfold gnS at ho;split at ho<;>cases ho
 rename_i sh th nd tr m g;obtain⟨⟨hm,⟨hr⟩⟩,hK⟩:=hK;rw [hr];refine aLi ?_;exact SG sh th nd tr m (vL g) (vK g) (vY g) _ _ (aHS sh th nd tr m (vL g) (vK g) (vY g) K hm hK)
noncomputable def EU2:=EU1.addS 25 gnS JM
theorem aR.lend{h:aB Ob}{l i:Nat}{ws:List WKS}(hl:aK h l=some (.abs (.wrow ws) []))(hi:i<ws.length):aR (obI tbl) h (h.set l (some (.abs (.whole ws i) [h.length]))++ [some (.abs (.worker (aX ws i)) [])]):=by
 intro V hR w h1 g;obtain⟨V',x,b,k,cs,T,a1,a2,a3,_⟩:=h1.lend RKW (ws:=ws) g hl (FI hi);exact⟨V',a1,by simpa using a2,by simp,a3⟩
theorem cT{ws:List WKS}{i:Nat}(hi:i<ws.length):dI ws i (aX ws i)=ws:=by
 unfold dI aX;apply List.ext_getElem
 ·simp
 ·intro j h1 h2;rw [List.getElem_set];split
  ·rename_i e;subst e;rw [gD',gE' hi];rfl
  ·rfl
abbrev w2v(x:EGS):Option (aG Ob):=cE' [.I x.sh,.I x.th,.I x.nd,.I x.tr,.ptr 1 0,.ptr 3 0,.slice 4 0 x.ws.length 1,.I x.k]
abbrev w2w(w:WKS):List AVal:=[.ptr 6 0,.tslice 7 0 w.tk.length 3,.I w.en,.raw (.pointer none),.slice 8 0 w.tl.length 1,.slice 9 0 w.sl.length 1]
abbrev eg0(x:EGS)(i:Nat)(w:WKS):aB Ob:=[w2v x,bF 2 x.s,bG x.s,some (.abs (.hist x.h) []),some (.abs (.whole x.ws i) [5]),cE' (w2w w),some (.abs (.store w.t w.n w.st) []),some (.tab [some .i64,some .i64,some .i64] w.tk),iI' w.tl,iI' w.sl]
abbrev aHm(x:EGS)(i:Nat)(w:WKS):aB Ob:=[w2v x,bF 2 x.s,bG x.s,some (.abs (.hist x.h) []),some (.abs (.whole x.ws i) [5]),cE' (w2w w),lD 10 w.t w.n w.st,some (.tab [some .i64,some .i64,some .i64] w.tk),iI' w.tl,iI' w.sl,oV w.st]
theorem vH{x:EGS}{i:Nat}(hi:i<x.ws.length)(hb:(aX x.ws i).b =false):aR (obI tbl) (egH x) (eg0 x i (aX x.ws i)):=by
 refine(aR.unpack (.engine x) 0 0 (egG x) [] rfl rfl rfl rfl).trans ((aR.lend (l:=4) (i:=i) (ws:=x.ws) rfl hi).trans ((aR.unpack (.worker (aX x.ws i)) 5 0 (nB (aX x.ws i)) [] rfl (congrArg (Prod.mk 0) (pN hb)) rfl rfl).trans (aL2 ?_)))
 kernel_rfl
theorem L3{x:EGS}{i:Nat}(hi:i<x.ws.length)(hb:(aX x.ws i).b =false):aR (obI tbl) (egH x) (aHm x i (aX x.ws i)):=by
 refine(vH hi hb).trans ((aR.unpack (.store (aX x.ws i).t (aX x.ws i).n (aX x.ws i).st) 6 0 (dP (aX x.ws i).t (aX x.ws i).n (aX x.ws i).st) [] rfl rfl rfl rfl).trans (aL2 ?_))
 kernel_rfl
abbrev w2x(w:WKS):List AVal:=[.ptr 6 0,.tslice 7 0 w.tk.length 3,.I w.en,.ptr 8 0,.slice 9 0 w.tl.length 1,.slice 10 0 w.sl.length 1]
abbrev eg1(x:EGS)(i:Nat)(w:WKS):aB Ob:=[w2v x,bF 2 x.s,bG x.s,some (.abs (.hist x.h) []),some (.abs (.whole x.ws i) [5]),cE' (w2x w),some (.abs (.store w.t w.n w.st) []),some (.tab [some .i64,some .i64,some .i64] w.tk),some (.abs (.doer w.t w.n w.d) [6]),iI' w.tl,iI' w.sl]
abbrev aHn(x:EGS)(i:Nat)(w:WKS):aB Ob:=[w2v x,bF 2 x.s,bG x.s,some (.abs (.hist x.h) []),some (.abs (.whole x.ws i) [5]),cE' (w2x w),lD 11 w.t w.n w.st,some (.tab [some .i64,some .i64,some .i64] w.tk),some (.abs (.doer w.t w.n w.d) [6]),iI' w.tl,iI' w.sl,oV w.st]
theorem vI{x:EGS}{i:Nat}(hi:i<x.ws.length)(hb:(aX x.ws i).b =true):aR (obI tbl) (egH x) (eg1 x i (aX x.ws i)):=by
 refine(aR.unpack (.engine x) 0 0 (egG x) [] rfl rfl rfl rfl).trans ((aR.lend (l:=4) (i:=i) (ws:=x.ws) rfl hi).trans ((aR.unpack (.worker (aX x.ws i)) 5 0 (qJ (aX x.ws i)) [] rfl (congrArg (Prod.mk 0) (w6 hb)) rfl rfl).trans (aL2 ?_)))
 kernel_rfl
theorem L4{x:EGS}{i:Nat}(hi:i<x.ws.length)(hb:(aX x.ws i).b =true):aR (obI tbl) (egH x) (aHn x i (aX x.ws i)):=by
 refine(vI hi hb).trans ((aR.unpack (.store (aX x.ws i).t (aX x.ws i).n (aX x.ws i).st) 6 0 (dP (aX x.ws i).t (aX x.ws i).n (aX x.ws i).st) [] rfl rfl rfl rfl).trans (aL2 ?_))
 kernel_rfl
abbrev w2y(x:EGS):Option (aG Ob):=cE' [.I x.sh,.I x.th,.I x.nd,.I x.tr,.ptr 1 0,.ptr 3 0,.slice 4 0 x.ws.length 1,.I x.k]
abbrev aHi(x:EGS)(i:Nat)(w:WKS)(xs:List Int):aB Ob:=[w2y x,bF 2 x.s,bG x.s,some (.abs (.hist x.h) []),some (.abs (.whole x.ws i) [5]),cE' [.ptr 6 0,.tslice 7 0 w.tk.length 3,.I w.en,.raw (.pointer none),.slice 8 0 w.tl.length 1,.slice 9 0 w.sl.length 1],some (.abs (.store w.t w.n w.st) []),some (.tab [some .i64,some .i64,some .i64] w.tk),iI' w.tl,iI' w.sl,iI' xs]
abbrev w2z(x:EGS):Option (aG Ob):=cE' [.I x.sh,.I x.th,.I x.nd,.I x.tr,.ptr 1 0,.ptr 3 0,.slice 4 0 x.ws.length 1,.I x.k]
theorem L1(x:EGS)(i:Nat)(w:WKS)(xs:List Int)(hi:i<x.ws.length)(hw:dI x.ws i w=x.ws)(hb:w.b=false):aE (obI tbl) 1 (.slice 10 0 xs.length 1) (aHi x i w xs) (.slice 1 0 xs.length 1) [some (.abs (.engine x) []),iI' xs]:=by
 exact((aE.move 6 (of_decide_eq_true rfl)).trans ((aE.move 7 (of_decide_eq_true rfl)).trans ((aE.move 8 (of_decide_eq_true rfl)).trans ((aE.move 9 (of_decide_eq_true rfl)).trans ((aLh (v2:=.slice 10 0 xs.length 1) (g2:=aP [w2z x,bF 2 x.s,bG x.s,some (.abs (.hist x.h) []),some (.abs (.whole x.ws i) [5]),some (.abs (.worker w) []),none,none,none,none,iI' xs] 5 0 (nB w) []) (by kernel_rfl) (by kernel_rfl)).trans ((aE.pack [w2z x,bF 2 x.s,bG x.s,some (.abs (.hist x.h) []),some (.abs (.whole x.ws i) [5]),some (.abs (.worker w) []),none,none,none,none,iI' xs] (.worker w) 5 0 (nB w) [] rfl rfl (congrArg (Prod.mk 0) (pN hb)) (by kernel_rfl)).trans ((aE.back (l:=4) (k:=5) (i:=i) (ws:=x.ws) (w:=w) rfl rfl (by decide) hi).trans ((aLh (v2:=.slice 10 0 xs.length 1) (g2:=[w2z x,bF 2 x.s,bG x.s,some (.abs (.hist x.h) []),some (.abs (.wrow x.ws) []),none,none,none,none,none,iI' xs]) rfl (by rw [hw];rfl)).trans ((aE.move 1 (of_decide_eq_true rfl)).trans ((aE.move 2 (of_decide_eq_true rfl)).trans ((aE.move 3 (of_decide_eq_true rfl)).trans ((aE.move 4 (of_decide_eq_true rfl)).trans ((aLh (v2:=.slice 10 0 xs.length 1) (g2:=aP [some (.abs (.engine x) []),none,none,none,none,none,none,none,none,none,iI' xs] 0 0 (egG x) []) (by kernel_rfl) (by kernel_rfl)).trans ((aE.pack [some (.abs (.engine x) []),none,none,none,none,none,none,none,none,none,iI' xs] (.engine x) 0 0 (egG x) [] rfl rfl rfl (by kernel_rfl)).trans (aE.pick [0,10] rfl)))))))))))))))
abbrev aHk(x:EGS)(i:Nat)(w:WKS)(xs:List Int):aB Ob:=[w2y x,bF 2 x.s,bG x.s,some (.abs (.hist x.h) []),some (.abs (.whole x.ws i) [5]),cE' [.ptr 6 0,.tslice 8 0 w.tk.length 3,.I w.en,.raw (.pointer none),.slice 9 0 w.tl.length 1,.slice 10 0 w.sl.length 1],lD 7 w.t w.n w.st,oV w.st,some (.tab [some .i64,some .i64,some .i64] w.tk),iI' w.tl,iI' w.sl,iI' xs]
abbrev w30(w:WKS):List AVal:=[.ptr 6 0,.tslice 8 0 w.tk.length 3,.I w.en,.raw (.pointer none),.slice 9 0 w.tl.length 1,.slice 10 0 w.sl.length 1]
abbrev w31(x:EGS)(xs:List Int):aB Ob:=[some (.abs (.engine x) []),none,none,none,none,none,none,none,none,none,none,iI' xs]
theorem aDP(x:EGS)(i:Nat)(w:WKS)(xs:List Int)(hi:i<x.ws.length)(hw:dI x.ws i w=x.ws)(hb:w.b=false):aE (obI tbl) 1 (.slice 11 0 xs.length 1) (aHk x i w xs) (.slice 1 0 xs.length 1) [some (.abs (.engine x) []),iI' xs]:=by
 exact((aE.move 7 (of_decide_eq_true rfl)).trans ((aLh (v2:=.slice 11 0 xs.length 1) (g2:=aP [w2z x,bF 2 x.s,bG x.s,some (.abs (.hist x.h) []),some (.abs (.whole x.ws i) [5]),cE' (w30 w),some (.abs (.store w.t w.n w.st) []),none,some (.tab cK3 w.tk),iI' w.tl,iI' w.sl,iI' xs] 6 0 (dP w.t w.n w.st) []) (by kernel_rfl) (by kernel_rfl)).trans ((aE.pack [w2z x,bF 2 x.s,bG x.s,some (.abs (.hist x.h) []),some (.abs (.whole x.ws i) [5]),cE' (w30 w),some (.abs (.store w.t w.n w.st) []),none,some (.tab cK3 w.tk),iI' w.tl,iI' w.sl,iI' xs] (.store w.t w.n w.st) 6 0 (dP w.t w.n w.st) [] rfl rfl rfl (by kernel_rfl)).trans ((aE.move 6 (of_decide_eq_true rfl)).trans ((aE.move 8 (of_decide_eq_true rfl)).trans ((aE.move 9 (of_decide_eq_true rfl)).trans ((aE.move 10 (of_decide_eq_true rfl)).trans ((aLh (v2:=.slice 11 0 xs.length 1) (g2:=aP [w2z x,bF 2 x.s,bG x.s,some (.abs (.hist x.h) []),some (.abs (.whole x.ws i) [5]),some (.abs (.worker w) []),none,none,none,none,none,iI' xs] 5 0 (nB w) []) (by kernel_rfl) (by kernel_rfl)).trans ((aE.pack [w2z x,bF 2 x.s,bG x.s,some (.abs (.hist x.h) []),some (.abs (.whole x.ws i) [5]),some (.abs (.worker w) []),none,none,none,none,none,iI' xs] (.worker w) 5 0 (nB w) [] rfl rfl (congrArg (Prod.mk 0) (pN hb)) (by kernel_rfl)).trans ((aE.back (l:=4) (k:=5) (i:=i) (ws:=x.ws) (w:=w) rfl rfl (by decide) hi).trans ((aLh (v2:=.slice 11 0 xs.length 1) (g2:=[w2z x,bF 2 x.s,bG x.s,some (.abs (.hist x.h) []),some (.abs (.wrow x.ws) []),none,none,none,none,none,none,iI' xs]) rfl (by rw [hw];rfl)).trans ((aE.move 1 (of_decide_eq_true rfl)).trans ((aE.move 2 (of_decide_eq_true rfl)).trans ((aE.move 3 (of_decide_eq_true rfl)).trans ((aE.move 4 (of_decide_eq_true rfl)).trans ((aLh (v2:=.slice 11 0 xs.length 1) (g2:=aP (w31 x xs) 0 0 (egG x) []) (by kernel_rfl) (by kernel_rfl)).trans ((aE.pack (w31 x xs) (.engine x) 0 0 (egG x) [] rfl rfl rfl (by kernel_rfl)).trans (aE.pick [0,11] rfl))))))))))))))))))
abbrev aHj(x:EGS)(i:Nat)(w:WKS)(xs:List Int):aB Ob:=[w2y x,bF 2 x.s,bG x.s,some (.abs (.hist x.h) []),some (.abs (.whole x.ws i) [5]),cE' [.ptr 6 0,.tslice 7 0 w.tk.length 3,.I w.en,.ptr 8 0,.slice 9 0 w.tl.length 1,.slice 10 0 w.sl.length 1],some (.abs (.store w.t w.n w.st) []),some (.tab [some .i64,some .i64,some .i64] w.tk),some (.abs (.doer w.t w.n w.d) [6]),iI' w.tl,iI' w.sl,iI' xs]
abbrev w32(x:EGS):Option (aG Ob):=cE' [.I x.sh,.I x.th,.I x.nd,.I x.tr,.ptr 1 0,.ptr 3 0,.slice 4 0 x.ws.length 1,.I x.k]
abbrev w35(x:EGS)(xs:List Int):aB Ob:=[some (.abs (.engine x) []),none,none,none,none,none,none,none,none,none,none,iI' xs]
theorem L2(x:EGS)(i:Nat)(w:WKS)(xs:List Int)(hi:i<x.ws.length)(hw:dI x.ws i w=x.ws)(hb:w.b=true):aE (obI tbl) 1 (.slice 11 0 xs.length 1) (aHj x i w xs) (.slice 1 0 xs.length 1) [some (.abs (.engine x) []),iI' xs]:=by
 exact((aE.move 6 (of_decide_eq_true rfl)).trans ((aE.move 7 (of_decide_eq_true rfl)).trans ((aE.move 8 (of_decide_eq_true rfl)).trans ((aE.move 9 (of_decide_eq_true rfl)).trans ((aE.move 10 (of_decide_eq_true rfl)).trans ((aLh (v2:=.slice 11 0 xs.length 1) (g2:=aP [w32 x,bF 2 x.s,bG x.s,some (.abs (.hist x.h) []),some (.abs (.whole x.ws i) [5]),some (.abs (.worker w) []),none,none,none,none,none,iI' xs] 5 0 (qJ w) []) (by kernel_rfl) (by kernel_rfl)).trans ((aE.pack [w32 x,bF 2 x.s,bG x.s,some (.abs (.hist x.h) []),some (.abs (.whole x.ws i) [5]),some (.abs (.worker w) []),none,none,none,none,none,iI' xs] (.worker w) 5 0 (qJ w) [] rfl rfl (congrArg (Prod.mk 0) (w6 hb)) (by kernel_rfl)).trans ((aE.back (l:=4) (k:=5) (i:=i) (ws:=x.ws) (w:=w) rfl rfl (by decide) hi).trans ((aLh (v2:=.slice 11 0 xs.length 1) (g2:=[w32 x,bF 2 x.s,bG x.s,some (.abs (.hist x.h) []),some (.abs (.wrow x.ws) []),none,none,none,none,none,none,iI' xs]) rfl (by rw [hw];rfl)).trans ((aE.move 1 (of_decide_eq_true rfl)).trans ((aE.move 2 (of_decide_eq_true rfl)).trans ((aE.move 3 (of_decide_eq_true rfl)).trans ((aE.move 4 (of_decide_eq_true rfl)).trans ((aLh (v2:=.slice 11 0 xs.length 1) (g2:=aP (w35 x xs) 0 0 (egG x) []) (by kernel_rfl) (by kernel_rfl)).trans ((aE.pack (w35 x xs) (.engine x) 0 0 (egG x) [] rfl rfl rfl (by kernel_rfl)).trans (aE.pick [0,11] rfl))))))))))))))))
abbrev aHl(x:EGS)(i:Nat)(w:WKS)(xs:List Int):aB Ob:=[w2y x,bF 2 x.s,bG x.s,some (.abs (.hist x.h) []),some (.abs (.whole x.ws i) [5]),cE' [.ptr 6 0,.tslice 8 0 w.tk.length 3,.I w.en,.ptr 9 0,.slice 10 0 w.tl.length 1,.slice 11 0 w.sl.length 1],lD 7 w.t w.n w.st,oV w.st,some (.tab [some .i64,some .i64,some .i64] w.tk),some (.abs (.doer w.t w.n w.d) [6]),iI' w.tl,iI' w.sl,iI' xs]
abbrev w33(w:WKS):List AVal:=[.ptr 6 0,.tslice 8 0 w.tk.length 3,.I w.en,.ptr 9 0,.slice 10 0 w.tl.length 1,.slice 11 0 w.sl.length 1]
abbrev w34(x:EGS)(xs:List Int):aB Ob:=[some (.abs (.engine x) []),none,none,none,none,none,none,none,none,none,none,none,iI' xs]
theorem aDQ(x:EGS)(i:Nat)(w:WKS)(xs:List Int)(hi:i<x.ws.length)(hw:dI x.ws i w=x.ws)(hb:w.b=true):aE (obI tbl) 1 (.slice 12 0 xs.length 1) (aHl x i w xs) (.slice 1 0 xs.length 1) [some (.abs (.engine x) []),iI' xs]:=by
 exact((aE.move 7 (of_decide_eq_true rfl)).trans ((aLh (v2:=.slice 12 0 xs.length 1) (g2:=aP [w32 x,bF 2 x.s,bG x.s,some (.abs (.hist x.h) []),some (.abs (.whole x.ws i) [5]),cE' (w33 w),some (.abs (.store w.t w.n w.st) []),none,some (.tab cK3 w.tk),some (.abs (.doer w.t w.n w.d) [6]),iI' w.tl,iI' w.sl,iI' xs] 6 0 (dP w.t w.n w.st) []) (by kernel_rfl) (by kernel_rfl)).trans ((aE.pack [w32 x,bF 2 x.s,bG x.s,some (.abs (.hist x.h) []),some (.abs (.whole x.ws i) [5]),cE' (w33 w),some (.abs (.store w.t w.n w.st) []),none,some (.tab cK3 w.tk),some (.abs (.doer w.t w.n w.d) [6]),iI' w.tl,iI' w.sl,iI' xs] (.store w.t w.n w.st) 6 0 (dP w.t w.n w.st) [] rfl rfl rfl (by kernel_rfl)).trans ((aE.move 6 (of_decide_eq_true rfl)).trans ((aE.move 8 (of_decide_eq_true rfl)).trans ((aE.move 9 (of_decide_eq_true rfl)).trans ((aE.move 10 (of_decide_eq_true rfl)).trans ((aE.move 11 (of_decide_eq_true rfl)).trans ((aLh (v2:=.slice 12 0 xs.length 1) (g2:=aP [w32 x,bF 2 x.s,bG x.s,some (.abs (.hist x.h) []),some (.abs (.whole x.ws i) [5]),some (.abs (.worker w) []),none,none,none,none,none,none,iI' xs] 5 0 (qJ w) []) (by kernel_rfl) (by kernel_rfl)).trans ((aE.pack [w32 x,bF 2 x.s,bG x.s,some (.abs (.hist x.h) []),some (.abs (.whole x.ws i) [5]),some (.abs (.worker w) []),none,none,none,none,none,none,iI' xs] (.worker w) 5 0 (qJ w) [] rfl rfl (congrArg (Prod.mk 0) (w6 hb)) (by kernel_rfl)).trans ((aE.back (l:=4) (k:=5) (i:=i) (ws:=x.ws) (w:=w) rfl rfl (by decide) hi).trans ((aLh (v2:=.slice 12 0 xs.length 1) (g2:=[w32 x,bF 2 x.s,bG x.s,some (.abs (.hist x.h) []),some (.abs (.wrow x.ws) []),none,none,none,none,none,none,none,iI' xs]) rfl (by rw [hw];rfl)).trans ((aE.move 1 (of_decide_eq_true rfl)).trans ((aE.move 2 (of_decide_eq_true rfl)).trans ((aE.move 3 (of_decide_eq_true rfl)).trans ((aE.move 4 (of_decide_eq_true rfl)).trans ((aLh (v2:=.slice 12 0 xs.length 1) (g2:=aP (w34 x xs) 0 0 (egG x) []) (by kernel_rfl) (by kernel_rfl)).trans ((aE.pack (w34 x xs) (.engine x) 0 0 (egG x) [] rfl rfl rfl (by kernel_rfl)).trans (aE.pick [0,12] rfl)))))))))))))))))))
abbrev w36(x:EGS):Option (aG Ob):=cE' [.I (EGS.s x).1,.I (EGS.s x).2,.slice 2 0 (List.length (EGS.s x).3) 1,.I (EGS.s x).4,.I (EGS.s x).5,.I (EGS.s x).6,.int .u64 (EGS.s x).7,.int .u64 (EGS.s x).8,.bool (EGS.s x).9]
abbrev w37(x:EGS):Option (aG Ob):=cE' [.I x.1,.I x.2,.I x.3,.I x.4,.ptr 1 0,.ptr 3 0,.slice 4 0 x.7.length 1,.I x.8]
abbrev w39(w:WKS):List AVal:=[.ptr 6 0,.tslice 7 0 w.4.length 3,.I w.5,.N,.slice 8 0 w.8.length 1,.slice 9 0 w.9.length 1]
def IN(x:EGS)(i:Nat)(w:WKS)(th:Int)(K:AVal->aB Ob->Prop):Prop:=bif ilt th 0 then K (.raw (Value.slice none 0 0)) [w37 x,w36 x,some (.ints (some .u64) (EGS.s x).3),some (.abs (.hist x.6) []),some (.abs (.whole x.7 i) [5]),cE' (w39 w),some (.abs (.store w.1 w.2 w.3) []),some (.tab cK3 w.4),iI' w.8,iI' w.9]else bif ile (↑x.7.length:Int) th then K (.raw (Value.slice none 0 0)) [w37 x,w36 x,some (.ints (some .u64) (EGS.s x).3),some (.abs (.hist x.6) []),some (.abs (.whole x.7 i) [5]),cE' (w39 w),some (.abs (.store w.1 w.2 w.3) []),some (.tab cK3 w.4),iI' w.8,iI' w.9]else((0:Int)<=th/\th<(↑x.7.length:Int))/\(i<x.7.length/\0+Int.toNat th*(1:Nat)=i)/\(lE' w.8/\w.8.length<=(4294967296:Nat))/\K (.slice 10 0 w.8.length 1) [w37 x,w36 x,some (.ints (some .u64) (EGS.s x).3),some (.abs (.hist x.6) []),some (.abs (.whole x.7 i) [5]),cE' (w39 w),some (.abs (.store w.1 w.2 w.3) []),some (.tab cK3 w.4),iI' w.8,iI' w.9,iI' w.8]
theorem IP(x:EGS)(i:Nat)(w:WKS)(th:Int)(K:AVal->aB Ob->Prop)(h:IN x i w th K):cT' 32 [.ptr 0 0,.I th] (eg0 x i w) (d9 1 K):=by
 exact cM' (E:=EU2) (by kernel_rfl) h
abbrev w38(w:WKS):List AVal:=[.ptr 6 0,.tslice 7 0 w.4.length 3,.I w.5,.ptr 8 0,.slice 9 0 w.8.length 1,.slice 10 0 w.9.length 1]
def IQ(x:EGS)(i:Nat)(w:WKS)(th:Int)(K:AVal->aB Ob->Prop):Prop:=bif ilt th 0 then K (.raw (Value.slice none 0 0)) [w37 x,w36 x,some (.ints (some .u64) (EGS.s x).3),some (.abs (.hist x.6) []),some (.abs (.whole x.7 i) [5]),cE' (w38 w),some (.abs (.store w.1 w.2 w.3) []),some (.tab cK3 w.4),some (.abs (.doer w.1 w.2 w.7) [6]),iI' w.8,iI' w.9]else bif ile (↑x.7.length:Int) th then K (.raw (Value.slice none 0 0)) [w37 x,w36 x,some (.ints (some .u64) (EGS.s x).3),some (.abs (.hist x.6) []),some (.abs (.whole x.7 i) [5]),cE' (w38 w),some (.abs (.store w.1 w.2 w.3) []),some (.tab cK3 w.4),some (.abs (.doer w.1 w.2 w.7) [6]),iI' w.8,iI' w.9]else((0:Int)<=th/\th<(↑x.7.length:Int))/\(i<x.7.length/\0+Int.toNat th*(1:Nat)=i)/\(lE' w.8/\w.8.length<=(4294967296:Nat))/\K (.slice 11 0 w.8.length 1) [w37 x,w36 x,some (.ints (some .u64) (EGS.s x).3),some (.abs (.hist x.6) []),some (.abs (.whole x.7 i) [5]),cE' (w38 w),some (.abs (.store w.1 w.2 w.3) []),some (.tab cK3 w.4),some (.abs (.doer w.1 w.2 w.7) [6]),iI' w.8,iI' w.9,iI' w.8]
theorem IR(x:EGS)(i:Nat)(w:WKS)(th:Int)(K:AVal->aB Ob->Prop)(h:IQ x i w th K):cT' 32 [.ptr 0 0,.I th] (eg1 x i w) (d9 1 K):=by
 exact cM' (E:=EU2) (by kernel_rfl) h
def IJ(x:EGS)(i:Nat)(w:WKS)(th:Int)(K:AVal->aB Ob->Prop):Prop:=bif ilt th 0 then K (.raw (Value.slice none 0 0)) [w37 x,w36 x,some (.ints (some .u64) (EGS.s x).3),some (.abs (.hist x.6) []),some (.abs (.whole x.7 i) [5]),cE' (w39 w),some (.abs (.store w.1 w.2 w.3) []),some (.tab cK3 w.4),iI' w.8,iI' w.9]else bif ile (↑x.7.length:Int) th then K (.raw (Value.slice none 0 0)) [w37 x,w36 x,some (.ints (some .u64) (EGS.s x).3),some (.abs (.hist x.6) []),some (.abs (.whole x.7 i) [5]),cE' (w39 w),some (.abs (.store w.1 w.2 w.3) []),some (.tab cK3 w.4),iI' w.8,iI' w.9]else((0:Int)<=th/\th<(↑x.7.length:Int))/\(i<x.7.length/\0+Int.toNat th*(1:Nat)=i)/\(lE' w.9/\w.9.length<=(4294967296:Nat))/\K (.slice 10 0 w.9.length 1) [w37 x,w36 x,some (.ints (some .u64) (EGS.s x).3),some (.abs (.hist x.6) []),some (.abs (.whole x.7 i) [5]),cE' (w39 w),some (.abs (.store w.1 w.2 w.3) []),some (.tab cK3 w.4),iI' w.8,iI' w.9,iI' w.9]
theorem IK(x:EGS)(i:Nat)(w:WKS)(th:Int)(K:AVal->aB Ob->Prop)(h:IJ x i w th K):cT' 35 [.ptr 0 0,.I th] (eg0 x i w) (d9 1 K):=by
 exact cM' (E:=EU2) (by kernel_rfl) h
def IL(x:EGS)(i:Nat)(w:WKS)(th:Int)(K:AVal->aB Ob->Prop):Prop:=bif ilt th 0 then K (.raw (Value.slice none 0 0)) [w37 x,w36 x,some (.ints (some .u64) (EGS.s x).3),some (.abs (.hist x.6) []),some (.abs (.whole x.7 i) [5]),cE' (w38 w),some (.abs (.store w.1 w.2 w.3) []),some (.tab cK3 w.4),some (.abs (.doer w.1 w.2 w.7) [6]),iI' w.8,iI' w.9]else bif ile (↑x.7.length:Int) th then K (.raw (Value.slice none 0 0)) [w37 x,w36 x,some (.ints (some .u64) (EGS.s x).3),some (.abs (.hist x.6) []),some (.abs (.whole x.7 i) [5]),cE' (w38 w),some (.abs (.store w.1 w.2 w.3) []),some (.tab cK3 w.4),some (.abs (.doer w.1 w.2 w.7) [6]),iI' w.8,iI' w.9]else((0:Int)<=th/\th<(↑x.7.length:Int))/\(i<x.7.length/\0+Int.toNat th*(1:Nat)=i)/\(lE' w.9/\w.9.length<=(4294967296:Nat))/\K (.slice 11 0 w.9.length 1) [w37 x,w36 x,some (.ints (some .u64) (EGS.s x).3),some (.abs (.hist x.6) []),some (.abs (.whole x.7 i) [5]),cE' (w38 w),some (.abs (.store w.1 w.2 w.3) []),some (.tab cK3 w.4),some (.abs (.doer w.1 w.2 w.7) [6]),iI' w.8,iI' w.9,iI' w.9]
theorem IM(x:EGS)(i:Nat)(w:WKS)(th:Int)(K:AVal->aB Ob->Prop)(h:IL x i w th K):cT' 35 [.ptr 0 0,.I th] (eg1 x i w) (d9 1 K):=by
 exact cM' (E:=EU2) (by kernel_rfl) h
abbrev w3a(w:WKS):List AVal:=[.I w.1,.I w.2,.I (WKS.st w).1,.I (WKS.st w).2,.slice 7 0 (List.length (WKS.st w).3) 1]
abbrev w3c(w:WKS):List AVal:=[.ptr 6 0,.tslice 8 0 w.4.length 3,.I w.5,.N,.slice 9 0 w.8.length 1,.slice 10 0 w.9.length 1]
def ID(x:EGS)(i:Nat)(w:WKS)(th:Int)(K:AVal->aB Ob->Prop):Prop:=bif ilt th 0 then K (.raw (Value.slice none 0 0)) [w37 x,w36 x,some (.ints (some .u64) (EGS.s x).3),some (.abs (.hist x.6) []),some (.abs (.whole x.7 i) [5]),cE' (w3c w),cE' (w3a w),iI' (WKS.st w).3,some (.tab cK3 w.4),iI' w.8,iI' w.9]else bif ile (↑x.7.length:Int) th then K (.raw (Value.slice none 0 0)) [w37 x,w36 x,some (.ints (some .u64) (EGS.s x).3),some (.abs (.hist x.6) []),some (.abs (.whole x.7 i) [5]),cE' (w3c w),cE' (w3a w),iI' (WKS.st w).3,some (.tab cK3 w.4),iI' w.8,iI' w.9]else((0:Int)<=th/\th<(↑x.7.length:Int))/\(i<x.7.length/\0+Int.toNat th*(1:Nat)=i)/\(lE' (WKS.st w).3/\List.length (WKS.st w).3<=(1000000:Nat))/\K (.slice 11 0 (List.length (mB (WKS.st w).2 (WKS.st w).3)) 1) [w37 x,w36 x,some (.ints (some .u64) (EGS.s x).3),some (.abs (.hist x.6) []),some (.abs (.whole x.7 i) [5]),cE' (w3c w),cE' (w3a w),iI' (WKS.st w).3,some (.tab cK3 w.4),iI' w.8,iI' w.9,iI' (mB (WKS.st w).2 (WKS.st w).3)]
theorem IE(x:EGS)(i:Nat)(w:WKS)(th:Int)(K:AVal->aB Ob->Prop)(h:ID x i w th K):cT' 69 [.ptr 0 0,.I th] (aHm x i w) (d9 1 K):=by
 exact cM' (E:=EU2) (by kernel_rfl) h
abbrev w3b(w:WKS):List AVal:=[.ptr 6 0,.tslice 8 0 w.4.length 3,.I w.5,.ptr 9 0,.slice 10 0 w.8.length 1,.slice 11 0 w.9.length 1]
def IF(x:EGS)(i:Nat)(w:WKS)(th:Int)(K:AVal->aB Ob->Prop):Prop:=bif ilt th 0 then K (.raw (Value.slice none 0 0)) [w37 x,w36 x,some (.ints (some .u64) (EGS.s x).3),some (.abs (.hist x.6) []),some (.abs (.whole x.7 i) [5]),cE' (w3b w),cE' (w3a w),iI' (WKS.st w).3,some (.tab cK3 w.4),some (.abs (.doer w.1 w.2 w.7) [6]),iI' w.8,iI' w.9]else bif ile (↑x.7.length:Int) th then K (.raw (Value.slice none 0 0)) [w37 x,w36 x,some (.ints (some .u64) (EGS.s x).3),some (.abs (.hist x.6) []),some (.abs (.whole x.7 i) [5]),cE' (w3b w),cE' (w3a w),iI' (WKS.st w).3,some (.tab cK3 w.4),some (.abs (.doer w.1 w.2 w.7) [6]),iI' w.8,iI' w.9]else((0:Int)<=th/\th<(↑x.7.length:Int))/\(i<x.7.length/\0+Int.toNat th*(1:Nat)=i)/\(lE' (WKS.st w).3/\List.length (WKS.st w).3<=(1000000:Nat))/\K (.slice 12 0 (List.length (mB (WKS.st w).2 (WKS.st w).3)) 1) [w37 x,w36 x,some (.ints (some .u64) (EGS.s x).3),some (.abs (.hist x.6) []),some (.abs (.whole x.7 i) [5]),cE' (w3b w),cE' (w3a w),iI' (WKS.st w).3,some (.tab cK3 w.4),some (.abs (.doer w.1 w.2 w.7) [6]),iI' w.8,iI' w.9,iI' (mB (WKS.st w).2 (WKS.st w).3)]
theorem IG(x:EGS)(i:Nat)(w:WKS)(th:Int)(K:AVal->aB Ob->Prop)(h:IF x i w th K):cT' 69 [.ptr 0 0,.I th] (aHn x i w) (d9 1 K):=by
 exact cM' (E:=EU2) (by kernel_rfl) h
abbrev w3e(x:EGS):List AVal:=[.I (EGS.s x).1,.I (EGS.s x).2,.slice 2 0 (List.length (EGS.s x).3) 1,.I (EGS.s x).4,.I (EGS.s x).5,.I (EGS.s x).6,.int .u64 (EGS.s x).7,.int .u64 (EGS.s x).8,.bool (EGS.s x).9]
abbrev w3f(x:EGS):List AVal:=[.I x.1,.I x.2,.I x.3,.I x.4,.ptr 1 0,.ptr 3 0,.slice 4 0 x.7.length 1,.I x.8]
abbrev w3d(x:EGS):aB Ob:=[cE' (w3f x),cE' (w3e x),some (.ints (some .u64) (EGS.s x).3),some (.abs (.hist x.6) []),some (.abs (.wrow x.7) [])]
def aCn(x:EGS)(th:Int)(K:AVal->aB Ob->Prop):Prop:=bif ilt th 0 then K (.I 0) (w3d x)else bif ile (↑x.7.length:Int) th then K (.I 0) (w3d x)else((0:Int)<=th/\th<(↑x.7.length:Int))/\0+Int.toNat th*(1:Nat)<x.7.length/\True/\K (.I (W ((↑(List.length (aX x.7 (0+Int.toNat th*1)).4):Int) - (aX x.7 (0+Int.toNat th*1)).5))) [cE' (w3f x),cE' (w3e x),some (.ints (some .u64) (EGS.s x).3),some (.abs (.hist x.6) []),some (.abs (.whole x.7 (0+Int.toNat th*1)) [5]),some (.abs (.worker (aX x.7 (0+Int.toNat th*1))) [])]
theorem OU(x:EGS)(th:Int)(K:AVal->aB Ob->Prop)(h:aCn x th K):cT' 33 [.ptr 0 0,.I th] (egG x) (d9 1 K):=by
 exact cM' (E:=EU2) (by kernel_rfl) h
abbrev w3g(x:EGS):aB Ob:=[cE' [.I x.1,.I x.2,.I x.3,.I x.4,.ptr 1 0,.ptr 3 0,.slice 4 0 x.7.length 1,.I x.8],cE' [.I (EGS.s x).1,.I (EGS.s x).2,.slice 2 0 (List.length (EGS.s x).3) 1,.I (EGS.s x).4,.I (EGS.s x).5,.I (EGS.s x).6,.int .u64 (EGS.s x).7,.int .u64 (EGS.s x).8,.bool (EGS.s x).9],some (.ints (some .u64) (EGS.s x).3),some (.abs (.hist x.6) []),some (.abs (.wrow x.7) [])]
def aCq(x:EGS)(K:AVal->aB Ob->Prop):Prop:=K (.I x.8) (w3g x)
theorem OY(x:EGS)(K:AVal->aB Ob->Prop)(h:aCq x K):cT' 34 [.ptr 0 0] (egG x) (d9 1 K):=by
 exact cM' (E:=EU2) (by kernel_rfl) h
def aCo(x:EGS)(K:AVal->aB Ob->Prop):Prop:=K (.agg [.I (EGS.s x).1,.I (EGS.s x).2]) (w3g x)
theorem OV(x:EGS)(K:AVal->aB Ob->Prop)(h:aCo x K):cT' 38 [.ptr 0 0] (egG x) (d9 1 K):=by
 exact cM' (E:=EU2) (by kernel_rfl) h
def aCp(x:EGS)(a:Int)(K:AVal->aB Ob->Prop):Prop:=(lE' (EGS.s x).3/\True)/\K (.int .u64 (aF (EGS.s x).3 a)) [cE' [.I x.1,.I x.2,.I x.3,.I x.4,.ptr 1 0,.ptr 3 0,.slice 4 0 x.7.length 1,.I x.8],cE' [.I (EGS.s x).1,.I (EGS.s x).2,.slice 2 0 (List.length (EGS.s x).3) 1,.I (EGS.s x).4,.I (EGS.s x).5,.I (EGS.s x).6,.int .u64 (EGS.s x).7,.int .u64 (EGS.s x).8,.bool (EGS.s x).9],some (.ints (some .u64) (EGS.s x).3),some (.abs (.hist x.6) []),some (.abs (.wrow x.7) [])]
theorem OX(x:EGS)(a:Int)(K:AVal->aB Ob->Prop)(h:aCp x a K):cT' 37 [.ptr 0 0,.I a] (egG x) (d9 1 K):=by
 exact cM' (E:=EU2) (by kernel_rfl) h
def aCm(x:EGS)(K:AVal->aB Ob->Prop):Prop:=(lE' (EGS.s x).3/\True)/\K (.agg [.I (EGS.s x).5,.I (EGS.s x).6,.int .u64 (EGS.s x).7,.int .u64 (EGS.s x).8,.bool (EGS.s x).9]) (w3g x)
theorem OT(x:EGS)(K:AVal->aB Ob->Prop)(h:aCm x K):cT' 45 [.ptr 0 0] (egG x) (d9 1 K):=by
 exact cM' (E:=EU2) (by kernel_rfl) h
theorem aA.keep{P:Program}{f:FuncId}{args:List AVal}{h:aB Ob}{n:Nat}{K:AVal->aB Ob->Prop}(h0:aA (obI tbl) P f args h (d9 n (cQ (obI tbl) n K))):aA (obI tbl) P f args h (cQ (obI tbl) n K):=by
 intro V hR w g hi hf hr;refine(h0 V hR w g hi hf hr).mono ?_;rintro e w' ⟨v,v',V',h',ht,rest⟩;obtain⟨g0,hK⟩:=bK.1 ht;obtain⟨v2,g2,t,k⟩:=hK.ex;exact⟨v,v',V',h',⟨⟨v2,g2,(aE.pick _ g0).trans t,k⟩⟩,rest⟩
def gL(th:Int)(x:EGS):Int:=bif ilt th 0 then 0 else bif ile (x.ws.length:Int) th then 0 else W (((aX x.ws th.toNat).tk.length :Int) - (aX x.ws th.toNat).en)
def gV(th:Int)(x:EGS):List Int:=bif ilt th 0 then []else bif ile (x.ws.length:Int) th then []else(aX x.ws th.toNat).tl
def gS(th:Int)(x:EGS):List Int:=bif ilt th 0 then []else bif ile (x.ws.length:Int) th then []else(aX x.ws th.toNat).sl
def gK(th:Int)(x:EGS):List Int:=bif ilt th 0 then []else bif ile (x.ws.length:Int) th then []else mB (aX x.ws th.toNat).st.sp (aX x.ws th.toNat).st.R
structure jM (x:EGS):Prop where
 h0:0<x.ws.length
 ht: ∀i,i<x.ws.length->(aX x.ws i).tl.length <=1000000
 hs: ∀i,i<x.ws.length->(aX x.ws i).sl.length <=1000000
 hr: ∀i,i<x.ws.length->(aX x.ws i).st.R.length <=1000000
theorem aHq(x:EGS)(i:Nat)(hi:i<x.ws.length):({x with ws:=dI x.ws i (aX x.ws i) } :EGS)=x:=by
 rw [cT hi]
def rlfS:aI Ob:=fun args h=>match args,h with
 | [.ptr 0 0,.int .i64 th],[some (.abs (.engine x) [])]=>some (.pre True (.ret (.I (gL th x)) (egH x)))
 | _,_=>none
theorem UK:sT' 33 rlfS:=by
 intro args h o ho K g;unfold rlfS at ho;split at ho<;>cases ho
 rename_i th x;obtain⟨_,g⟩:=g;have g:K (.I (gL th x)) (egH x):=g;refine aLi ?_;refine aLc (h2:=egG x) (aR.unpack (.engine x) 0 0 (egG x) [] rfl rfl rfl rfl) ?_;refine aA.keep (OU x th _ ?_);refine aL (fun e1=>?_) (fun e1=>aL (fun e2=>?_) (fun e2=>?_))
 ·have hv:gL th x=0:=by unfold gL;rw [e1];rfl
  rw [hv]at g;exact⟨⟨_,_,jT 1 (Nat.le_refl 1) _ rfl x,g⟩⟩
 ·have hv:gL th x=0:=by unfold gL;rw [e1,e2];rfl
  rw [hv]at g;exact⟨⟨_,_,jT 1 (Nat.le_refl 1) _ rfl x,g⟩⟩
 ·have hv:gL th x=W (((aX x.ws th.toNat).tk.length :Int) - (aX x.ws th.toNat).en):=by unfold gL;rw [e1,e2];rfl
  rw [bD,dF']at e1;rw [bY,dF']at e2;have hi:0+th.toNat*1<x.ws.length:=by omega
  have ht:0+th.toNat*1=th.toNat:=by omega
  refine⟨⟨by omega,by omega⟩,hi,trivial,?_⟩
  rw [hv]at g;refine⟨⟨_,_,CM (x:= {x with ws:=dI x.ws (0+th.toNat*1) (aX x.ws (0+th.toNat*1)) }) _ rfl rfl 1 (Nat.le_refl 1) rfl ⟨rfl,hi,rfl⟩,?_⟩⟩
  rw [aHq x _ hi,ht];exact g
theorem U7(x:EGS)(i:Nat)(th:Int)(hi:i<x.ws.length)(K:AVal->aB Ob->Prop)(h0:(aX x.ws i).b =false->IN x i (aX x.ws i) th (cQ (obI tbl) 1 K))(h1:(aX x.ws i).b =true->IQ x i (aX x.ws i) th (cQ (obI tbl) 1 K)):
 cT' 32 [.ptr 0 0,.I th] (egH x) K:=by
 refine aLi ?_;cases hb:(aX x.ws i).b with
 | false=>exact aLc (vH hi hb) (aA.keep (IP x i _ th _ (h0 hb)))
 | true=>exact aLc (vI hi hb) (aA.keep (IR x i _ th _ (h1 hb)))
def rtkS:aI Ob:=fun args h=>match args,h with
 | [.ptr 0 0,.int .i64 th],[some (.abs (.engine x) [])]=>some (.pre (jM x) (.ret (.slice 1 0 (gV th x).length 1) [some (.abs (.engine x) []),iI' (gV th x)]))
 | _,_=>none
theorem UP:sT' 32 rtkS:=by
 intro args h o ho K hK;unfold rtkS at ho;split at ho<;>cases ho
 rename_i th x;obtain⟨⟨hl,ht,hs,hr⟩,hK⟩:=hK;have hK:K (.slice 1 0 (gV th x).length 1) [some (.abs (.engine x) []),iI' (gV th x)]:=hK
 have aa: ∀(b:Bool) (g g2:aB Ob) (e1:ilt th 0=true\/(ilt th 0=false/\ile (x.ws.length:Int) th=true)),gV th x=[]:=by
  intro b g g2 e;unfold gV;rcases e with e | ⟨e,e2⟩
  ·rw [e];rfl
  ·rw [e,e2];rfl
 cases e1:ilt th 0 with
 | true=>
   have hv:=aa true [] [] (.inl e1);rw [hv]at hK;refine U7 x 0 th hl K (fun hb=>?_) (fun hb=>?_)
   ·exact aL (fun _=>⟨⟨_,_,(aE.cast (cs:=[(.slot 0,.ints (some .i64))]) rfl).trans (L1 x 0 _ [] hl (cT hl) hb),hK⟩⟩) (fun e=>by rw [e1]at e;cases e)
   ·exact aL (fun _=>⟨⟨_,_,(aE.cast (cs:=[(.slot 0,.ints (some .i64))]) rfl).trans (L2 x 0 _ [] hl (cT hl) hb),hK⟩⟩) (fun e=>by rw [e1]at e;cases e)
 | false=>
   cases e2:ile (x.ws.length:Int) th with
   | true=>
     have hv:=aa true [] [] (.inr ⟨e1,e2⟩);rw [hv]at hK;refine U7 x 0 th hl K (fun hb=>?_) (fun hb=>?_)
     ·exact aL (fun e=>by rw [e1]at e;cases e) (fun _=>aL (fun _=>⟨⟨_,_,(aE.cast (cs:=[(.slot 0,.ints (some .i64))]) rfl).trans (L1 x 0 _ [] hl (cT hl) hb),hK⟩⟩) (fun e=>by rw [e2]at e;cases e))
     ·exact aL (fun e=>by rw [e1]at e;cases e) (fun _=>aL (fun _=>⟨⟨_,_,(aE.cast (cs:=[(.slot 0,.ints (some .i64))]) rfl).trans (L2 x 0 _ [] hl (cT hl) hb),hK⟩⟩) (fun e=>by rw [e2]at e;cases e))
   | false=>
     have hv:gV th x=(aX x.ws th.toNat).tl :=by unfold gV;rw [e1,e2];rfl
     have e1':=e1;have e2':=e2;rw [bD,dF']at e1';rw [bY,dF']at e2';have hi:th.toNat<x.ws.length:=by omega
     have hf:=ht _ hi;rw [hv]at hK;refine U7 x th.toNat th hi K (fun hb=>?_) (fun hb=>?_)
     ·exact aL (fun e=>by rw [e1]at e;cases e) (fun _=>aL (fun e=>by rw [e2]at e;cases e) (fun _=>⟨⟨by omega,by omega⟩,⟨hi,by omega⟩,⟨rfl,by omega⟩,⟨⟨_,_,L1 x th.toNat _ _ hi (cT hi) hb,hK⟩⟩⟩))
     ·exact aL (fun e=>by rw [e1]at e;cases e) (fun _=>aL (fun e=>by rw [e2]at e;cases e) (fun _=>⟨⟨by omega,by omega⟩,⟨hi,by omega⟩,⟨rfl,by omega⟩,⟨⟨_,_,L2 x th.toNat _ _ hi (cT hi) hb,hK⟩⟩⟩))
theorem U1(x:EGS)(i:Nat)(th:Int)(hi:i<x.ws.length)(K:AVal->aB Ob->Prop)(h0:(aX x.ws i).b =false->IJ x i (aX x.ws i) th (cQ (obI tbl) 1 K))(h1:(aX x.ws i).b =true->IL x i (aX x.ws i) th (cQ (obI tbl) 1 K)):
 cT' 35 [.ptr 0 0,.I th] (egH x) K:=by
 refine aLi ?_;cases hb:(aX x.ws i).b with
 | false=>exact aLc (vH hi hb) (aA.keep (IK x i _ th _ (h0 hb)))
 | true=>exact aLc (vI hi hb) (aA.keep (IM x i _ th _ (h1 hb)))
def rswS:aI Ob:=fun args h=>match args,h with
 | [.ptr 0 0,.int .i64 th],[some (.abs (.engine x) [])]=>some (.pre (jM x) (.ret (.slice 1 0 (gS th x).length 1) [some (.abs (.engine x) []),iI' (gS th x)]))
 | _,_=>none
theorem UO:sT' 35 rswS:=by
 intro args h o ho K hK;unfold rswS at ho;split at ho<;>cases ho
 rename_i th x;obtain⟨⟨hl,ht,hs,hr⟩,hK⟩:=hK;have hK:K (.slice 1 0 (gS th x).length 1) [some (.abs (.engine x) []),iI' (gS th x)]:=hK
 have aa: ∀(b:Bool) (g g2:aB Ob) (e1:ilt th 0=true\/(ilt th 0=false/\ile (x.ws.length:Int) th=true)),gS th x=[]:=by
  intro b g g2 e;unfold gS;rcases e with e | ⟨e,e2⟩
  ·rw [e];rfl
  ·rw [e,e2];rfl
 cases e1:ilt th 0 with
 | true=>
   have hv:=aa true [] [] (.inl e1);rw [hv]at hK;refine U1 x 0 th hl K (fun hb=>?_) (fun hb=>?_)
   ·exact aL (fun _=>⟨⟨_,_,(aE.cast (cs:=[(.slot 0,.ints (some .i64))]) rfl).trans (L1 x 0 _ [] hl (cT hl) hb),hK⟩⟩) (fun e=>by rw [e1]at e;cases e)
   ·exact aL (fun _=>⟨⟨_,_,(aE.cast (cs:=[(.slot 0,.ints (some .i64))]) rfl).trans (L2 x 0 _ [] hl (cT hl) hb),hK⟩⟩) (fun e=>by rw [e1]at e;cases e)
 | false=>
   cases e2:ile (x.ws.length:Int) th with
   | true=>
     have hv:=aa true [] [] (.inr ⟨e1,e2⟩);rw [hv]at hK;refine U1 x 0 th hl K (fun hb=>?_) (fun hb=>?_)
     ·exact aL (fun e=>by rw [e1]at e;cases e) (fun _=>aL (fun _=>⟨⟨_,_,(aE.cast (cs:=[(.slot 0,.ints (some .i64))]) rfl).trans (L1 x 0 _ [] hl (cT hl) hb),hK⟩⟩) (fun e=>by rw [e2]at e;cases e))
     ·exact aL (fun e=>by rw [e1]at e;cases e) (fun _=>aL (fun _=>⟨⟨_,_,(aE.cast (cs:=[(.slot 0,.ints (some .i64))]) rfl).trans (L2 x 0 _ [] hl (cT hl) hb),hK⟩⟩) (fun e=>by rw [e2]at e;cases e))
   | false=>
     have hv:gS th x=(aX x.ws th.toNat).sl :=by unfold gS;rw [e1,e2];rfl
     have e1':=e1;have e2':=e2;rw [bD,dF']at e1';rw [bY,dF']at e2';have hi:th.toNat<x.ws.length:=by omega
     have hf:=hs _ hi;rw [hv]at hK;refine U1 x th.toNat th hi K (fun hb=>?_) (fun hb=>?_)
     ·exact aL (fun e=>by rw [e1]at e;cases e) (fun _=>aL (fun e=>by rw [e2]at e;cases e) (fun _=>⟨⟨by omega,by omega⟩,⟨hi,by omega⟩,⟨rfl,by omega⟩,⟨⟨_,_,L1 x th.toNat _ _ hi (cT hi) hb,hK⟩⟩⟩))
     ·exact aL (fun e=>by rw [e1]at e;cases e) (fun _=>aL (fun e=>by rw [e2]at e;cases e) (fun _=>⟨⟨by omega,by omega⟩,⟨hi,by omega⟩,⟨rfl,by omega⟩,⟨⟨_,_,L2 x th.toNat _ _ hi (cT hi) hb,hK⟩⟩⟩))
theorem SN(x:EGS)(i:Nat)(th:Int)(hi:i<x.ws.length)(K:AVal->aB Ob->Prop)(h0:(aX x.ws i).b =false->ID x i (aX x.ws i) th (cQ (obI tbl) 1 K))(h1:(aX x.ws i).b =true->IF x i (aX x.ws i) th (cQ (obI tbl) 1 K)):
 cT' 69 [.ptr 0 0,.I th] (egH x) K:=by
 refine aLi ?_;cases hb:(aX x.ws i).b with
 | false=>exact aLc (L3 hi hb) (aA.keep (IE x i _ th _ (h0 hb)))
 | true=>exact aLc (L4 hi hb) (aA.keep (IG x i _ th _ (h1 hb)))
def rhdS:aI Ob:=fun args h=>match args,h with
 | [.ptr 0 0,.int .i64 th],[some (.abs (.engine x) [])]=>some (.pre (jM x) (.ret (.slice 1 0 (gK th x).length 1) [some (.abs (.engine x) []),iI' (gK th x)]))
 | _,_=>none
theorem UI:sT' 69 rhdS:=by
 intro args h o ho K hK;unfold rhdS at ho;split at ho<;>cases ho
 rename_i th x;obtain⟨⟨hl,ht,hs,hr⟩,hK⟩:=hK;have hK:K (.slice 1 0 (gK th x).length 1) [some (.abs (.engine x) []),iI' (gK th x)]:=hK
 have aa: ∀(b:Bool) (g g2:aB Ob) (e1:ilt th 0=true\/(ilt th 0=false/\ile (x.ws.length:Int) th=true)),gK th x=[]:=by
  intro b g g2 e;unfold gK;rcases e with e | ⟨e,e2⟩
  ·rw [e];rfl
  ·rw [e,e2];rfl
 cases e1:ilt th 0 with
 | true=>
   have hv:=aa true [] [] (.inl e1);rw [hv]at hK;refine SN x 0 th hl K (fun hb=>?_) (fun hb=>?_)
   ·exact aL (fun _=>⟨⟨_,_,(aE.cast (cs:=[(.slot 0,.ints (some .i64))]) rfl).trans (aDP x 0 _ [] hl (cT hl) hb),hK⟩⟩) (fun e=>by rw [e1]at e;cases e)
   ·exact aL (fun _=>⟨⟨_,_,(aE.cast (cs:=[(.slot 0,.ints (some .i64))]) rfl).trans (aDQ x 0 _ [] hl (cT hl) hb),hK⟩⟩) (fun e=>by rw [e1]at e;cases e)
 | false=>
   cases e2:ile (x.ws.length:Int) th with
   | true=>
     have hv:=aa true [] [] (.inr ⟨e1,e2⟩);rw [hv]at hK;refine SN x 0 th hl K (fun hb=>?_) (fun hb=>?_)
     ·exact aL (fun e=>by rw [e1]at e;cases e) (fun _=>aL (fun _=>⟨⟨_,_,(aE.cast (cs:=[(.slot 0,.ints (some .i64))]) rfl).trans (aDP x 0 _ [] hl (cT hl) hb),hK⟩⟩) (fun e=>by rw [e2]at e;cases e))
     ·exact aL (fun e=>by rw [e1]at e;cases e) (fun _=>aL (fun _=>⟨⟨_,_,(aE.cast (cs:=[(.slot 0,.ints (some .i64))]) rfl).trans (aDQ x 0 _ [] hl (cT hl) hb),hK⟩⟩) (fun e=>by rw [e2]at e;cases e))
   | false=>
     have hv:gK th x=(mB (aX x.ws th.toNat).st.sp (aX x.ws th.toNat).st.R):=by unfold gK;rw [e1,e2];rfl
     have e1':=e1;have e2':=e2;rw [bD,dF']at e1';rw [bY,dF']at e2';have hi:th.toNat<x.ws.length:=by omega
     have hf:=hr _ hi;rw [hv]at hK;refine SN x th.toNat th hi K (fun hb=>?_) (fun hb=>?_)
     ·exact aL (fun e=>by rw [e1]at e;cases e) (fun _=>aL (fun e=>by rw [e2]at e;cases e) (fun _=>⟨⟨by omega,by omega⟩,⟨hi,by omega⟩,⟨rfl,hf⟩,⟨⟨_,_,aDP x th.toNat _ _ hi (cT hi) hb,hK⟩⟩⟩))
     ·exact aL (fun e=>by rw [e1]at e;cases e) (fun _=>aL (fun e=>by rw [e2]at e;cases e) (fun _=>⟨⟨by omega,by omega⟩,⟨hi,by omega⟩,⟨rfl,hf⟩,⟨⟨_,_,aDQ x th.toNat _ _ hi (cT hi) hb,hK⟩⟩⟩))
def estS:aI Ob:=fun args h=>match args,h with
 | [.ptr 0 0],[some (.abs (.engine x) [])]=>some (.pre True (.ret (.I x.k) (egH x)))
 | _,_=>none
theorem RV:sT' 34 estS:=by
 intro args h o ho K g;unfold estS at ho;split at ho<;>cases ho
 rename_i x;obtain⟨_,g⟩:=g;have g:K (.I x.k) (egH x):=g;refine aLi ?_;refine aLc (h2:=egG x) (aR.unpack (.engine x) 0 0 (egG x) [] rfl rfl rfl rfl) ?_;refine aA.keep (OY x _ ?_);exact⟨⟨_,_,jT 1 (Nat.le_refl 1) _ rfl x,g⟩⟩
def elyS:aI Ob:=fun args h=>match args,h with
 | [.ptr 0 0],[some (.abs (.engine x) [])]=>some (.pre True (.ret (.agg [.I x.s.t,.I x.s.n]) (egH x)))
 | _,_=>none
theorem RM:sT' 38 elyS:=by
 intro args h o ho K g;unfold elyS at ho;split at ho<;>cases ho
 rename_i x;obtain⟨_,g⟩:=g;have g:K (.agg [.I x.s.t,.I x.s.n]) (egH x):=g;refine aLi ?_;refine aLc (h2:=egG x) (aR.unpack (.engine x) 0 0 (egG x) [] rfl rfl rfl rfl) ?_;refine aA.keep (OV x _ ?_);exact⟨⟨_,_,jT 1 (Nat.le_refl 1) _ rfl x,g⟩⟩
def epeS:aI Ob:=fun args h=>match args,h with
 | [.ptr 0 0,.int .i64 a],[some (.abs (.engine x) [])]=>some (.pre True (.ret (.int .u64 (aF x.s.xs a)) (egH x)))
 | _,_=>none
theorem RR:sT' 37 epeS:=by
 intro args h o ho K g;unfold epeS at ho;split at ho<;>cases ho
 rename_i a x;obtain⟨_,g⟩:=g;have g:K (.int .u64 (aF x.s.xs a)) (egH x):=g;refine aLi ?_;refine aLc (h2:=egG x) (aR.unpack (.engine x) 0 0 (egG x) [] rfl rfl rfl rfl) ?_;refine aA.keep (OX x a _ ?_);exact⟨⟨rfl,trivial⟩,⟨⟨_,_,jT 1 (Nat.le_refl 1) _ rfl x,g⟩⟩⟩
def elaS:aI Ob:=fun args h=>match args,h with
 | [.ptr 0 0],[some (.abs (.engine x) [])]=>some (.pre True (.ret (.agg [.I x.s.k,.I x.s.a,.int .u64 x.s.o,.int .u64 x.s.w,.bool x.s.ok]) (egH x)))
 | _,_=>none
theorem RL:sT' 45 elaS:=by
 intro args h o ho K g;unfold elaS at ho;split at ho<;>cases ho
 rename_i x;obtain⟨_,g⟩:=g;have g:K (.agg [.I x.s.k,.I x.s.a,.int .u64 x.s.o,.int .u64 x.s.w,.bool x.s.ok]) (egH x):=g;refine aLi ?_;refine aLc (h2:=egG x) (aR.unpack (.engine x) 0 0 (egG x) [] rfl rfl rfl rfl) ?_;refine aA.keep (OT x _ ?_);exact⟨⟨rfl,trivial⟩,⟨⟨_,_,jT 1 (Nat.le_refl 1) _ rfl x,g⟩⟩⟩
noncomputable def EU3:=((((((((EU2.addS 33 rlfS UK).addS 32 rtkS UP).addS 35 rswS UO).addS 69 rhdS UI).addS 34 estS RV).addS 38 elyS RM).addS 37 epeS RR).addS 45 elaS RL)
def AI(xs:List Int)(nd:Int):Nat->Int->List Int->List Int
 | 0,_,out=>out
 | k+1,n,out=>bif bH nd n then bif !hasB out n then AI xs nd k (aC (aF xs n) 10 9) (out++ [n])else out else out
def ndF(xs:List Int)(nd hd:Int):List Int:=AI xs nd (nd.toNat+1) (aC (aF xs (nd+1+hd)) 10 9) []
def jJ(nd:Int)(out:List Int):Nat:=((List.range nd.toNat).filter (fun(j:Nat)=>!hasB out ((j:Int)+1))).length
theorem HW{p q:Nat->Bool}(hpq: ∀j,p j=true->q j=true)(l:List Nat):(l.filter p).length <=(l.filter q).length :=by
 induction l with
 | nil=>exact Nat.le_refl _
 | cons b l ih=>
   simp only [List.filter_cons];cases hp:p b with
   | true=>rw [hpq b hp];simp;exact ih
   | false=>cases g:q b<;>simp<;>omega
theorem HX{p q:Nat->Bool}(l:List Nat)(hpq: ∀j,p j=true->q j=true)(h: ∃j,j∈l/\q j=true/\p j=false):(l.filter p).length <(l.filter q).length :=by
 induction l with
 | nil=>obtain⟨j,hj,_⟩:=h;cases hj
 | cons a l ih=>
   have ac:=HW hpq l;simp only [List.filter_cons];obtain⟨j,hj,hq,hp⟩:=h;rcases List.mem_cons.1 hj with rfl | hj
   ·rw [hp,hq];simp;omega
   ·have:=ih ⟨j,hj,hq,hp⟩;cases g:p a with
    | true=>rw [hpq a g];simp;exact this
    | false=>cases aa:q a<;>simp<;>omega
theorem NX{nd n:Int}{out:List Int}(h1:bH nd n=true)(h2:hasB out n=false):jJ nd (out++ [n])<jJ nd out:=by
 have h1:=iD.1 h1;have h2:n∉out:=by intro hm;rw [kC.2 hm]at h2;cases h2
 unfold jJ;refine HX _ (fun j hj=>?_) ⟨(n - 1).toNat,?_,?_,?_⟩
 ·cases e:hasB out ((j:Int)+1)with
  | false=>rfl
  | true=>
    have:hasB (out++ [n]) ((j:Int)+1)=true:=kC.2 (List.mem_append_left _ (kC.1 e));rw [this]at hj;cases hj
 ·rw [List.mem_range];omega
 ·have e:(((n - 1).toNat :Nat):Int)+1=n:=by omega
  rw [e];cases g:hasB out n with
  | false=>rfl
  | true=>exact absurd (kC.1 g) h2
 ·have e:(((n - 1).toNat :Nat):Int)+1=n:=by omega
  rw [e,kC.2 (List.mem_append_right _ (List.mem_singleton.2 rfl))];rfl
theorem D3(nd:Int):jJ nd []<=nd.toNat:=by
 unfold jJ;exact Nat.le_trans (List.length_filter_le _ _) (by simp)
structure aIl (xs:List Int) (nd:Int) (R:List Int) (x:Int×List Int):Prop where
 hb:(x.2.length:Int)<=nd.toNat
 ex: ∃k,jJ nd x.2<k/\AI xs nd k x.1 x.2=R
 hc:x.2.length+jJ nd x.2<=nd.toNat
def VR(s:MS)(lt ln:Int)(R:List Int):Hint Ob:= {X:=Int×List Int,st:=fun x=>([.ptr 0 0,.O,.O,.O,.ptr 2 0,.O,.O,.slice 3 0 x.2.length 1,.I x.1]++List.replicate 26 .O,[bF 1 s,bG s,cE' [.I lt,.I ln],iI' x.2]),ok:=aIl s.xs ln R,mu:=fun x=>jJ ln x.2,keep:=[0,4,7,8],casts:=[(.slot 7,.ints (some .i64))] }
abbrev w3h(s:MS):Option (aG Ob):=cE' [.I s.1,.I s.2,.slice 1 0 s.3.length 1,.I s.4,.I s.5,.I s.6,.int .u64 s.7,.int .u64 s.8,.bool s.9]
def aFm(s:MS)(lt ln hd:Int)(R:List Int)(K:AVal->aB Ob->Prop):Prop:=(((0:Int)<=ln/\ln<=(100000:Int))/\(-1000000:Int)<=hd/\hd<=(1000000:Int))/\(lE' s.3/\True)/\True/\dF (VR s lt ln R) (Hint.ok (VR s lt ln R)) (.ptr 0 0::.O::.O::.O::.ptr 2 0::.O::.O::.slice 3 0 0 1::.I (aC (aF s.3 (ln+1+hd)) 10 9)::(tO' 26 [])) [w3h s,some (.ints (some .u64) s.3),cE' [.I lt,.I ln],some (.ints (some .i64) [])]/\ ∀(x:(Int×List Int)),aIl s.3 ln R x->True/\bif bH ln x.1 then(lE' x.2/\x.2.length<=(4294967296:Nat))/\bif !hasB x.2 x.1 then(0=0/\lE' x.2/\1=1/\x.2.length+(1:Nat)<=(4294967296:Nat))/\(lE' s.3/\True)/\True/\dF (VR s lt ln R) (fun x'=>Hint.ok (VR s lt ln R) x'/\Hint.mu (VR s lt ln R) x'<Hint.mu (VR s lt ln R) x) (.ptr 0 0::.O::.O::.O::.ptr 2 0::.O::.O::.slice 3 0 (x.2.length+1) 1::.I (aC (aF s.3 x.1) 10 9)::(tO' 26 [])) [w3h s,some (.ints (some .u64) s.3),cE' [.I lt,.I ln],iI' (x.2++ [x.1])]else K (.slice 2 0 x.2.length 1) [w3h s,some (.ints (some .u64) s.3),iI' x.2]else K (.slice 2 0 x.2.length 1) [w3h s,some (.ints (some .u64) s.3),iI' x.2]
theorem S9(s:MS)(lt ln hd:Int)(R:List Int)(K:AVal->aB Ob->Prop)(h:aFm s lt ln hd R K):cT' 132 [.ptr 0 0,.agg [.I lt,.I ln],.I hd] [bF 1 s,bG s] K:=by
 exact aK8 (aD (E:=EU3) Tryz.checked.mixed (L:=fun _ _=>some (.states (VR s lt ln R))) (n:=10) (aJ (by kernel_rfl) h))
theorem aIn(s:MS)(lt ln hd:Int)(K:AVal->aB Ob->Prop)(h1:0<=ln/\ln<=100000)(h2: -1000000<=hd/\hd<=1000000)(hK:K (.slice 2 0 (ndF s.xs ln hd).length 1) [bF 1 s,bG s,iI' (ndF s.xs ln hd)]):aFm s lt ln hd (ndF s.xs ln hd) K:=by
 refine⟨⟨h1,h2⟩,⟨rfl,trivial⟩,trivial,aQ (H:=VR s lt ln (ndF s.xs ln hd)) (aC (aF s.xs (ln+1+hd)) 10 9,[]) rfl ⟨by show((0:Nat):Int)<=_;omega,⟨ln.toNat+1,by have:=D3 ln;show jJ ln []<ln.toNat+1;omega,rfl⟩,by have:=D3 ln;show 0+jJ ln []<=ln.toNat;omega⟩,?_⟩
 rintro⟨n,out⟩ ⟨hb,⟨k,hk,hR⟩,hc⟩;dsimp only at hb hk hR hc⊢;have stop: ∀(h:bif bH ln n then !hasB out n else false),True:=fun _=>trivial;refine⟨trivial,aL (fun e1=>⟨⟨rfl,by omega⟩,aL (fun e2=>?_) (fun e2=>?_)⟩) (fun e1=>?_)⟩
 ·have ac:hasB out n=false:=by simpa using e2
  have aa:=NX (nd:=ln) e1 ac;cases k with
  | zero=>omega
  | succ k=>
    unfold AI at hR;rw [e1,e2]at hR;simp only [cond_true]at hR;refine⟨⟨rfl,rfl,rfl,by omega⟩,⟨rfl,trivial⟩,trivial,aQ (H:=VR s lt ln (ndF s.xs ln hd)) (aC (aF s.xs n) 10 9,out++ [n]) (by simp only [VR,List.length_append,List.length_singleton]<;>rfl) ⟨⟨?_,⟨k,by show jJ ln (out++ [n])<k;omega,hR⟩,?_⟩,aa⟩⟩
    ·show((out++ [n]).length :Int)<=_;rw [List.length_append,List.length_singleton];omega
    ·show(out++ [n]).length +jJ ln (out++ [n])<=_;rw [List.length_append,List.length_singleton];omega
 ·have g:out=ndF s.xs ln hd:=by
   cases k with
   | zero=>omega
   | succ k=>
     unfold AI at hR;rw [e1,e2]at hR;exact hR
  rw [<-g]at hK;exact hK
 ·have g:out=ndF s.xs ln hd:=by
   cases k with
   | zero=>omega
   | succ k=>
     unfold AI at hR;rw [e1]at hR;exact hR
  rw [<-g]at hK;exact hK
theorem S8(xs:List Int)(nd:Int)(k:Nat): ∀(n:Int) (out:List Int),(AI xs nd k n out).length <=out.length+k:=by
 induction k with
 | zero=>intro n out;unfold AI;omega
 | succ k ih=>
   intro n out;unfold AI;cases bH nd n<;>cases hasB out n<;>simp only [cond_true,cond_false,Bool.not_true,Bool.not_false]<;>try omega
   have:=ih (aC (aF xs n) 10 9) (out++ [n]);rw [List.length_append,List.length_singleton]at this;omega
theorem KF(xs:List Int)(nd hd:Int):(ndF xs nd hd).length <=nd.toNat+1:=by
 have:=S8 xs nd (nd.toNat+1) (aC (aF xs (nd+1+hd)) 10 9) [];unfold ndF
 simpa using this
def ndS:aI Ob:=fun args h=>match args,h with
 | [.ptr 0 0,.agg [.int .i64 lt,.int .i64 ln],.int .i64 hd],[e1,e2]=>(match cO 1 [e1,e2]with
   | some (l,s)=>some (.pre (l=s.xs.length/\(0<=ln/\ln<=100000)/\(-1000000<=hd/\hd<=1000000)) (.ret (.slice 2 0 (ndF s.xs ln hd).length 1) [bF 1 s,bG s,iI' (ndF s.xs ln hd)]))
   | none=>none)
 | _,_=>none
theorem aIm:sT' 132 ndS:=by
 intro args h o ho K g;unfold ndS at ho;split at ho
 case h_2=>cases ho
 rename_i lt ln hd e1 e2;split at ho<;>cases ho
 rename_i l s hm;obtain⟨⟨hl,h1,h2⟩,g⟩:=g;have hh:=bC hm hl;cases hh;exact S9 s lt ln hd _ K (aIn s lt ln hd K h1 h2 g)
noncomputable def EU4:=EU3.addS 132 ndS aIm
def kyL(xs ns:List Int):List Int:=(ns.filter fun a=>!ieq (aC (aF xs a) 19 1) 1).map fun a=>aC (aF xs a) 0 10
structure aIc (xs ns:List Int) (x:Nat×List Int):Prop where
 hi:x.1<=ns.length
 eq:x.2=kyL xs (ns.take x.1)
def HKY(s:MS)(ns:List Int):Hint Ob:= {X:=Nat×List Int,st:=fun x=>([.ptr 0 0,.O,.O,.O,.O,.O,.O,.slice 2 0 x.2.length 1,.O,.O,.O,.O,.O,.O,.slice 3 0 ns.length 1,.I (ns.length:Int),.I (x.1:Int)]++List.replicate 17 .O,[bF 1 s,bG s,iI' x.2,iI' ns]),ok:=aIc s.xs ns,mu:=fun x=>ns.length - x.1,keep:=[0,7,14,15,16],casts:=[(.slot 7,.ints (some .i64))] }
abbrev w3i(s:MS):Option (aG Ob):=cE' [.I s.1,.I s.2,.slice 1 0 s.3.length 1,.I s.4,.I s.5,.I s.6,.int .u64 s.7,.int .u64 s.8,.bool s.9]
def aFf(s:MS)(lt ln hd:Int)(K:AVal->aB Ob->Prop):Prop:=(lE' s.3/\((0:Int)<=ln/\ln<=(100000:Int))/\(-1000000:Int)<=hd/\hd<=(1000000:Int))/\dF (HKY s (ndF (MS.xs s) ln hd)) (Hint.ok (HKY s (ndF (MS.xs s) ln hd))) (.ptr 0 0::.O::.O::.O::.O::.O::.O::.slice 2 0 0 1::.O::.O::.O::.O::.O::.O::.slice 3 0 (List.length (ndF s.3 ln hd)) 1::.I (↑(List.length (ndF s.3 ln hd)):Int)::.I 0::(tO' 17 [])) [w3i s,some (.ints (some .u64) s.3),some (.ints (some .i64) []),iI' (ndF s.3 ln hd)]/\ ∀(x:Hint.X (HKY s (ndF (MS.xs s) ln hd))),aIc s.3 (ndF s.3 ln hd) x->bif ilt (↑x.1:Int) (↑(List.length (ndF s.3 ln hd)):Int)then((0:Int)<=(↑x.1:Int)/\(↑x.1:Int)<(↑(List.length (ndF s.3 ln hd)):Int))/\0+Int.toNat (↑x.1:Int)*(1:Nat)<List.length (ndF s.3 ln hd)/\(lE' s.3/\True)/\True/\bif !ieq (aC (aF s.3 (List.getD (ndF s.3 ln hd) (0+Int.toNat (↑x.1:Int)*1) 0)) 19 1) 1 then(0=0/\lE' x.2/\1=1/\x.2.length+(1:Nat)<=(4294967296:Nat))/\dF (HKY s (ndF (MS.xs s) ln hd)) (fun x'=>Hint.ok (HKY s (ndF (MS.xs s) ln hd)) x'/\Hint.mu (HKY s (ndF (MS.xs s) ln hd)) x'<Hint.mu (HKY s (ndF (MS.xs s) ln hd)) x) (.ptr 0 0::.O::.O::.O::.O::.O::.O::.slice 2 0 (x.2.length+1) 1::.O::.O::.O::.O::.O::.O::.slice 3 0 (List.length (ndF s.3 ln hd)) 1::.I (↑(List.length (ndF s.3 ln hd)):Int)::.I (W ((↑x.1:Int)+1))::(tO' 17 [])) [w3i s,some (.ints (some .u64) s.3),iI' (x.2++ [aC (aF s.3 (List.getD (ndF s.3 ln hd) (0+Int.toNat (↑x.1:Int)*1) 0)) 0 10]),iI' (ndF s.3 ln hd)]else dF (HKY s (ndF (MS.xs s) ln hd)) (fun x'=>Hint.ok (HKY s (ndF (MS.xs s) ln hd)) x'/\Hint.mu (HKY s (ndF (MS.xs s) ln hd)) x'<Hint.mu (HKY s (ndF (MS.xs s) ln hd)) x) (.ptr 0 0::.O::.O::.O::.O::.O::.O::.slice 2 0 x.2.length 1::.O::.O::.O::.O::.O::.O::.slice 3 0 (List.length (ndF s.3 ln hd)) 1::.I (↑(List.length (ndF s.3 ln hd)):Int)::.I (W ((↑x.1:Int)+1))::(tO' 17 [])) [w3i s,some (.ints (some .u64) s.3),iI' x.2,iI' (ndF s.3 ln hd)]else K (.slice 2 0 x.2.length 1) [w3i s,some (.ints (some .u64) s.3),iI' x.2]
theorem S3(s:MS)(lt ln hd:Int)(K:AVal->aB Ob->Prop)(h:aFf s lt ln hd K):cT' 110 [.ptr 0 0,.agg [.I lt,.I ln],.I hd] [bF 1 s,bG s] K:=by
 exact aK8 (aD (E:=EU4) Tryz.checked.mixed (L:=fun _ _=>some (.states (HKY s (ndF s.xs ln hd)))) (n:=10) (aJ (by kernel_rfl) h))
theorem U4{ns:List Int}{i:Nat}(hi:i<ns.length):ns.take (i+1)=ns.take i++ [ns.getD i 0]:=by
 rw [List.take_succ,gD',gE' hi];rfl
theorem aB9{xs ns:List Int}{i:Nat}(hi:i<ns.length)(h:(!ieq (aC (aF xs (ns.getD i 0)) 19 1) 1)=true):kyL xs (ns.take (i+1))=kyL xs (ns.take i)++ [aC (aF xs (ns.getD i 0)) 0 10]:=by
 unfold kyL;rw [U4 hi,List.filter_append,List.map_append];simp only [List.filter_cons,List.filter_nil,h,if_true,List.map_cons,List.map_nil]
theorem aId{xs ns:List Int}{i:Nat}(hi:i<ns.length)(h:(!ieq (aC (aF xs (ns.getD i 0)) 19 1) 1)=false):kyL xs (ns.take (i+1))=kyL xs (ns.take i):=by
 unfold kyL;rw [U4 hi,List.filter_append,List.map_append];simp only [List.filter_cons,List.filter_nil,h,Bool.false_eq_true,if_false,List.map_nil,List.append_nil]
theorem KB(xs ns:List Int):(kyL xs ns).length <=ns.length:=by
 unfold kyL;rw [List.length_map];exact List.length_filter_le _ _
def keyF(xs:List Int)(nd hd:Int):List Int:=kyL xs (ndF xs nd hd)
theorem jA(xs:List Int)(nd hd:Int):(keyF xs nd hd).length <=nd.toNat+1:=Nat.le_trans (KB _ _) (KF _ _ _)
theorem aIe(s:MS)(lt ln hd:Int)(K:AVal->aB Ob->Prop)(h1:0<=ln/\ln<=100000)(h2: -1000000<=hd/\hd<=1000000)(hK:K (.slice 2 0 (keyF s.xs ln hd).length 1) [bF 1 s,bG s,iI' (keyF s.xs ln hd)]):aFf s lt ln hd K:=by
 have aa:=KF s.xs ln hd;unfold keyF at hK;refine⟨⟨rfl,h1,h2⟩,aQ (H:=HKY s (ndF s.xs ln hd)) ((0:Nat),[]) rfl ⟨Nat.zero_le _,rfl⟩,?_⟩;have ad:(ndF s.3 ln hd).length <=ln.toNat+1:=aa;generalize ndF s.xs ln hd=ns at hK aa⊢;rintro⟨i,out⟩ ⟨hi,ac⟩;dsimp only at hi ac;subst ac;have af:(kyL s.xs (ns.take i)).length <=i:=Nat.le_trans (KB _ _) (List.length_take_le _ _);refine aL (fun e=>?_) (fun e=>?_)
 ·rw [bD,dT']at e;have e:(i:Int)<(ns.length:Int):=e;have g:i<ns.length:=by omega
  have e4:W ((i:Int)+1)=((i+1:Nat):Int):=by rw [W,cK (by omega)];rfl
  have e0:0+Int.toNat (i:Int)*1=i:=by omega
  have ae:(kyL s.xs (ns.take i)).length +1<=4294967296:=by omega
  refine⟨⟨by show(0:Int)<=(i:Int);omega,e⟩,by show 0+Int.toNat (i:Int)*1<ns.length;omega,⟨rfl,trivial⟩,trivial,aL (fun e2=>⟨⟨rfl,rfl,rfl,ae⟩,?_⟩) (fun e2=>?_)⟩
  ·have e2:(!ieq (aC (aF s.xs (ns.getD (0+Int.toNat (i:Int)*1) 0)) 19 1) 1)=true:=e2;rw [e0]at e2;refine aQ (H:=HKY s ns) (i+1,kyL s.xs (ns.take (i+1))) ?_ ⟨⟨g,rfl⟩,by show ns.length - (i+1)<ns.length - i;omega⟩
   show((HKY s ns).st (i+1,kyL s.xs (ns.take (i+1))))=_;have hl:(kyL s.xs (ns.take (i+1))).length =(kyL s.xs (ns.take i)).length +1:=by rw [aB9 g e2];simp
   simp only [HKY,hl];rw [aB9 g e2];simp only [e4,e0];rfl
  ·have e2:(!ieq (aC (aF s.xs (ns.getD (0+Int.toNat (i:Int)*1) 0)) 19 1) 1)=false:=e2;rw [e0]at e2;refine aQ (H:=HKY s ns) (i+1,kyL s.xs (ns.take (i+1))) ?_ ⟨⟨g,rfl⟩,by show ns.length - (i+1)<ns.length - i;omega⟩
   rw [aId g e2];simp only [HKY,e4];rfl
 ·rw [bD,dF']at e;have e: ¬(i:Int)<(ns.length:Int):=e;have g:i=ns.length:=by omega
  subst g;rw [List.take_length];exact hK
def kyS:aI Ob:=fun args h=>match args,h with
 | [.ptr 0 0,.agg [.int .i64 lt,.int .i64 ln],.int .i64 hd],[e1,e2]=>(match cO 1 [e1,e2]with
   | some (l,s)=>some (.pre (l=s.xs.length/\(0<=ln/\ln<=100000)/\(-1000000<=hd/\hd<=1000000)) (.ret (.slice 2 0 (keyF s.xs ln hd).length 1) [bF 1 s,bG s,iI' (keyF s.xs ln hd)]))
   | none=>none)
 | _,_=>none
theorem aCa:sT' 110 kyS:=by
 intro args h o ho K g;unfold kyS at ho;split at ho
 case h_2=>cases ho
 rename_i lt ln hd e1 e2;split at ho<;>cases ho
 rename_i l s hm;obtain⟨⟨hl,h1,h2⟩,g⟩:=g;have hh:=bC hm hl;cases hh;exact S3 s lt ln hd K (aIe s lt ln hd K h1 h2 g)
noncomputable def EU5:=EU4.addS 110 kyS aCa
end Go.Sh
namespace Go.Proofs
open Go.Shelf
def Tryz.lays189_ren:Go.Shelf.Ren:=⟨fun | 189=>111 | 125=>135 | 257=>134 | 128=>180 | 129=>181 | 294=>172 | 295=>173 | 296=>174 | 297=>175 | 298=>176 | 299=>177 | 216=>140 | 300=>178 | 301=>179 | 328=>236 | 329=>237 | 330=>238 | 331=>239 | 332=>240 | 215=>186 | 343=>276 | n=>n,fun | 28=>67 | 3=>3 | 46=>212 | 0=>0 | 51=>250 | 53=>72 | 4=>4 | 183=>244 | 182=>243 | 131=>195 | 5=>5 | 9=>9 | 218=>306 | 222=>309 | 228=>336 | 229=>337 | n=>n,fun | n=>n⟩
theorem Tryz.lays189:Go.Proofs.Lays.n189 Tryz.prog Tryz.lays189_ren:= {
 mixed:=by kernel_rfl,
 f125:=Tryz.func135.trans (congrArg some (by kernel_rfl)),
 f128:=Tryz.func180.trans (congrArg some (by kernel_rfl)),
 f129:=Tryz.func181.trans (congrArg some (by kernel_rfl)),
 f189:=Tryz.func111.trans (congrArg some (by kernel_rfl)),
 f215:=Tryz.func186.trans (congrArg some (by kernel_rfl)),
 f216:=Tryz.func140.trans (congrArg some (by kernel_rfl)),
 f257:=Tryz.func134.trans (congrArg some (by kernel_rfl)),
 f294:=Tryz.func172.trans (congrArg some (by kernel_rfl)),
 f295:=Tryz.func173.trans (congrArg some (by kernel_rfl)),
 f296:=Tryz.func174.trans (congrArg some (by kernel_rfl)),
 f297:=Tryz.func175.trans (congrArg some (by kernel_rfl)),
 f298:=Tryz.func176.trans (congrArg some (by kernel_rfl)),
 f299:=Tryz.func177.trans (congrArg some (by kernel_rfl)),
 f300:=Tryz.func178.trans (congrArg some (by kernel_rfl)),
 f301:=Tryz.func179.trans (congrArg some (by kernel_rfl)),
 f328:=Tryz.func236.trans (congrArg some (by kernel_rfl)),
 f329:=Tryz.func237.trans (congrArg some (by kernel_rfl)),
 f330:=Tryz.func238.trans (congrArg some (by kernel_rfl)),
 f331:=Tryz.func239.trans (congrArg some (by kernel_rfl)),
 f332:=Tryz.func240.trans (congrArg some (by kernel_rfl)),
 f343:=Tryz.func276.trans (congrArg some (by kernel_rfl)),
 t0:=Tryz.underlying0,
 a0:=Tryz.isAgg0,
 z0:=Tryz.sizeOf0,
 v0:=Tryz.zeroValue0,
 t3:=Tryz.underlying3,
 a3:=Tryz.isAgg3,
 z3:=Tryz.sizeOf3,
 v3:=Tryz.zeroValue3,
 t4:=Tryz.underlying4,
 a4:=Tryz.isAgg4,
 z4:=Tryz.sizeOf4,
 v4:=Tryz.zeroValue4,
 t5:=Tryz.underlying5,
 a5:=Tryz.isAgg5,
 z5:=Tryz.sizeOf5,
 v5:=Tryz.zeroValue5,
 t9:=Tryz.underlying9,
 a9:=Tryz.isAgg9,
 z9:=Tryz.sizeOf9,
 v9:=Tryz.zeroValue9,
 t28:=Tryz.underlying67,
 a28:=Tryz.isAgg67,
 z28:=Tryz.sizeOf67,
 v28:=Tryz.zeroValue67,
 t46:=Tryz.underlying212,
 a46:=Tryz.isAgg212,
 z46:=Tryz.sizeOf212,
 v46:=Tryz.zeroValue212,
 t51:=Tryz.underlying250,
 a51:=Tryz.isAgg250,
 z51:=Tryz.sizeOf250,
 v51:=Tryz.zeroValue250,
 t53:=Tryz.underlying72,
 a53:=Tryz.isAgg72,
 z53:=Tryz.sizeOf72,
 v53:=Tryz.zeroValue72,
 t131:=Tryz.underlying195,
 a131:=Tryz.isAgg195,
 z131:=Tryz.sizeOf195,
 v131:=Tryz.zeroValue195,
 t182:=Tryz.underlying243,
 a182:=Tryz.isAgg243,
 z182:=Tryz.sizeOf243,
 v182:=Tryz.zeroValue243,
 t183:=Tryz.underlying244,
 a183:=Tryz.isAgg244,
 z183:=Tryz.sizeOf244,
 v183:=Tryz.zeroValue244,
 t218:=Tryz.underlying306,
 a218:=Tryz.isAgg306,
 z218:=Tryz.sizeOf306,
 v218:=Tryz.zeroValue306,
 t222:=Tryz.underlying309,
 a222:=Tryz.isAgg309,
 z222:=Tryz.sizeOf309,
 v222:=Tryz.zeroValue309,
 t228:=Tryz.underlying336,
 a228:=Tryz.isAgg336,
 z228:=Tryz.sizeOf336,
 v228:=Tryz.zeroValue336,
 t229:=Tryz.underlying337,
 a229:=Tryz.isAgg337,
 z229:=Tryz.sizeOf337,
 v229:=Tryz.zeroValue337}
end Go.Proofs
namespace Go.Sh
open Go Go.Proofs
variable [Con]
def nE(xs:List Int):List Int:=xs.mergeSort fun x y=>decide (x<=y)
theorem oU(xs:List Int):(nE xs).length =xs.length:=by unfold nE;exact List.length_mergeSort xs
theorem xN(ys:List Int)(cs:Array Value)(tail:List Value)(xs:List Int)(hl:ys.length=xs.length)(hcs:cs.toList=xs.map (Code1.val (some .i64))++tail):
 (Go.Sort.putCells (Value.int .i64) 0 ys.toArray cs).toList =ys.map (Code1.val (some .i64))++tail:=by
 apply List.ext_getElem?;intro k;rw [Array.getElem?_toList];unfold Go.Sort.putCells;rw [Array.getElem?_mapIdx];have hk:cs[k]? =(xs.map (Code1.val (some .i64))++tail)[k]? :=by rw [<-hcs,Array.getElem?_toList]
 rw [hk]
 by_cases g:k<xs.length
 ·rw [List.getElem?_append_left (by rw [List.length_map];exact g),List.getElem?_append_left (by rw [List.length_map];omega),List.getElem?_map,List.getElem?_map,gE' g,gE' (by omega:k<ys.length)]
  have hc:0<=k/\k<0+ys.toArray.size:=by simp;omega
  simp only [Option.map_some];rw [if_pos hc]
  have:ys.toArray[k - 0]! =ys[k]'(by omega):=by
   rw [getElem!_pos ys.toArray (k - 0) (by simp;omega)];simp
  rw [this];rfl
 ·rw [List.getElem?_append_right (by rw [List.length_map];omega),List.getElem?_append_right (by rw [List.length_map];omega),List.length_map,List.length_map,hl]
  cases tail[k - xs.length]? with
  | none=>rfl
  | some y=>
    have hc: ¬(0<=k/\k<0+ys.toArray.size):=by simp;omega
    simp only [Option.map_some];rw [if_neg hc]
def srS:aI Ob:=fun args h=>match args,h with
 | [.slice 0 0 k 1],[some (.ints (some .i64) xs)]=>some (.pre (k=xs.length/\k<=1000000) (.ret (.tup []) [some (.ints (some .i64) (nE xs))]))
 | _,_=>none
theorem aCs:sT' 111 srS:=by
 intro args h o ho K hK;unfold srS at ho;split at ho<;>cases ho
 rename_i k xs;obtain⟨⟨rfl,hk⟩,hK⟩:=hK;have hK:K (.tup []) [some (.ints (some .i64) (nE xs))]:=hK;intro V hR w al hi hf hr;obtain⟨v,vs,e,⟨base,cap,rfl,a7,hb⟩,e2⟩:=hr;have e2:vs=[]:=e2;subst e2;have ha:al= #[.slice base xs.length cap]:=by apply Array.ext';simpa using e
 subst ha
 by_cases hx:xs=[]
 ·subst hx;refine(Go.Proofs.Any.slices_Sort_int_none Go.Proofs.Tryz.lays189 base cap w).mono ?_;rintro e w' ⟨rfl,rfl⟩;exact⟨.tup [],.tuple #[],V,_,hK,rfl,⟨#[],rfl,rfl⟩,V.le_refl,hf,Nat.le_refl _,(by rw [show nE []=[]from by simp [nE]];exact hi),aLu _⟩
 ·have az:0<xs.length:=List.length_pos_iff.2 hx;obtain⟨hs,h1,h2,h3,h4,h5,h6,h7⟩:=hi;rcases h1 0 _ rfl with⟨q,_⟩ | ⟨b,k,hV,cs,T,tail,af,av,ah⟩
  ·exact absurd q hx
  rcases hb with⟨b',k',ak,rfl,ba⟩ | ⟨hn,_⟩
  case inr=>omega
  rw [hV]at ak;simp only [sI',pI']at ak;obtain⟨rfl,rfl⟩:=ak;have g:w.heap[b]? =some (.cells cs T):=h5 0 b _ (by rw [af];simp [PHeap.one])
  have ap:b<w.heap.size:=(Array.getElem?_eq_some_iff.1 g).1
  have hH:Go.Sort.Holds (Value.int .i64) w b 0 xs.toArray:=by
   intro j hj;have hj:j<xs.length:=by simpa using hj
   constructor
   ·have:cs[j]? =some (.int .i64 xs[j]):=by
     rw [<-Array.getElem?_toList,ah,List.getElem?_append_left (by rw [List.length_map];exact hj),List.getElem?_map,gE' hj];rfl
    have h0:xs.toArray[j]! =xs[j]:=by rw [getElem!_pos xs.toArray j (by simpa using hj)];simp
    simp only [World.cell?,g,Nat.zero_add,h0];exact this
   ·simp [World.frozen?,g]
  have a8:w.heap.size=w.heap.size:=rfl;have aj:=Go.Proofs.Any.slices_Sort_int Go.Proofs.Tryz.lays189 b 0 cap xs w hH ap (by omega)
  refine aj.mono ?_;rintro e w' ⟨rfl,n,os,rfl⟩;have au:(xs.mergeSort fun x y=>decide (x<=y))=nE xs:=rfl;rw [au];have ag:=oU xs;generalize hyg:nE xs=ys at hK ag;have ai:=xN ys cs tail xs ag ah;generalize hcg:Go.Sort.putCells (Value.int .i64) 0 ys.toArray cs=cs2 at ai
  have ac:(Go.Sort.putRow (Value.int .i64) (Go.Sort.ahead w n) b 0 ys.toArray).heap[b]? =some (.cells cs2 T):=by
   unfold Go.Sort.putRow Go.Sort.mapBlock;show(w.heap.modify b _)[b]? =_;rw [Array.getElem?_modify,if_pos rfl,g,<-hcg];rfl
  have aa: ∀c,c≠b->(Go.Sort.putRow (Value.int .i64) (Go.Sort.ahead w n) b 0 ys.toArray).heap[c]? =w.heap[c]? :=by
   intro c hc;unfold Go.Sort.putRow Go.Sort.mapBlock;show(w.heap.modify b _)[c]? =_;rw [Array.getElem?_modify,if_neg (fun e=>hc e.symm)]
  have am:(Go.Sort.putRow (Value.int .i64) (Go.Sort.ahead w n) b 0 ys.toArray).heap.size =w.heap.size:=by
   unfold Go.Sort.putRow Go.Sort.mapBlock;show(w.heap.modify b _).size =_;exact Array.size_modify
  have ao:(Go.Sort.putRow (Value.int .i64) (Go.Sort.ahead w n) b 0 ys.toArray).os =w.os:=rfl;have ae:(Go.Sort.putRow (Value.int .i64) (Go.Sort.ahead w n) b 0 ys.toArray).output =w.output:=rfl;generalize Go.Sort.putRow (Value.int .i64) (Go.Sort.ahead w n) b 0 ys.toArray=w2 at ac aa am ao ae;have hg: ∀c,c<w.heap.size->(Go.Sort.grow w2 os).heap[c]? =w2.heap[c]? :=fun c hc=>Go.Sort.heap_grow_old w2 os (by omega)
  have ax: ∀(c:Nat) (o:Obj),w.heap[c]? =some o->c<w.heap.size:=fun c o h=>(Array.getElem?_eq_some_iff.1 h).1
  have ar:hR b=none:=by
   rcases h4 0 b with q | q
   ·rw [af]at q;simp [PHeap.one]at q
   ·exact q
  have a6: ∀l,l≠0->hs l=.emp :=by
   intro l hl;refine h2 l ?_;cases l with
   | zero=>exact absurd rfl hl
   | succ l=>simp [toF,aK]
  refine⟨.tup [],.tuple #[],V,_,hK,rfl,⟨#[],rfl,rfl⟩,V.le_refl,hf,Nat.le_refl _,⟨fun l=>if l=0 then .one b (.cells cs2 T)else .emp,?_,?_,?_,?_,?_,?_,h7⟩,⟨ao,ae,by simp;omega,?_⟩⟩
  ·intro l e he;cases l with
   | zero=>
     have he:some (aG.ints (some .i64) ys)=some e:=he;cases he;refine .inr ⟨b,k,hV,cs2,T,tail,by simp,?_,ai⟩
     rw [<-av,<-Array.length_toList,<-Array.length_toList,ai,ah];simp [ag]
   | succ l=>simp [toF,aK]at he
  ·intro l hl;cases l with
   | zero=>exact absurd hl (by simp [toF,aK])
   | succ l=>simp
  ·intro l m ay c
   by_cases hl:l=0
   ·subst hl;right;simp [Ne.symm ay,PHeap.emp]
   ·left;simp [hl,PHeap.emp]
  ·intro l c
   by_cases hl:l=0
   ·subst hl
    by_cases hc:c=b
    ·right;rw [hc];exact ar
    ·left;simp [PHeap.one,hc]
   ·left;simp [hl,PHeap.emp]
  ·intro l c o hc
   by_cases hl:l=0
   ·subst hl;have hc:PHeap.one b (.cells cs2 T) c=some o:=hc
    by_cases ad:c=b
    ·subst ad;rw [hg c ap,ac]
     simpa [PHeap.one]using hc
    ·simp [PHeap.one,ad]at hc
   ·simp [hl,PHeap.emp]at hc
  ·intro c o hc;have hw:=h6 c o hc;have ad:c≠b:=by intro e;rw [e,ar]at hc;cases hc
   rw [hg c (ax c o hw),aa c ad];exact hw
  ·intro a ha;have h1:(Go.Sort.grow w2 os).frozen? a=w2.frozen? a:=Go.Sort.frozen?_grow w2 os a (by omega)
   rw [h1];unfold World.frozen?
   by_cases aq:a.block=b
   ·rw [aq,ac,g]
   ·rw [aa _ aq]
noncomputable def EU6:=EU5.addS 111 srS aCs
end Go.Sh
